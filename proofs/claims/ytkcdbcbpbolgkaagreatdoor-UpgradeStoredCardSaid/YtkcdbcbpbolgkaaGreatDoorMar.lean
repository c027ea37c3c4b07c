/- Texts Gh, Gi, Gj, Gk, Gl, Tb, Tc, Ta, Td, Te, Tf, Tg. -/
import Derived.Test.YtkcdbcbpbolgkaaGreatDoorMaq
import Derived.Calls
import Derived.Orders
import Derived.Tactics
import Derived.Laws.AppendOwn
import Derived.Laws.Slices
import Derived.Laws.Closers25
import Derived.Laws.StructEq
import Derived.Laws.BytesString
import Derived.Laws.CopyRow
import Derived.MapKept
import Derived.Maps.RangeRun
import Derived.TacticsIn
import Derived.OrdersIn
import Derived.RangeFuncRecord
import Derived.RangeFuncLeaves
import Derived.IntWalk
import Derived.ProofKit
import Derived.OpenShut
import Derived.Carry
import Derived.Test.YtkcdbcbpbolgkaaGreatDoorProg
import Derived.KernelRfl
import Derived.OwnWalkIn
import Derived.TacticsInMore
import Derived.LoopIn
import Derived.WalkKit
import Derived.Lib.Strings
import Derived.Lib.Slices
import Derived.Lib.Walk
import Derived.Lib.Bytealg
import Derived.Shelf.SlSortCmp.WholeK
import Derived.Shelf.SlSortCmp.NoneTotal
import Derived.Shelf.Spec.SlicesInsertGrow

namespace Go.Proofs.YtkcdbcbpbolgkaaGreatDoor
open Go.Abs
set_option linter.unusedSimpArgs false
noncomputable section
set_option maxRecDepth 100000
set_option linter.defProp false
def d74b := cut Tryz.prog Tryz.f74 news [42] [9, 10] true
@[go_sem] def E74b := qq d74b
def F74b := fnC d74b follows Tryz.func74
end
theorem qu5 : (Tryz.prog.funcs[142]?).any (fun fn => fn.body.isSome && !(fn.name == "runtime.NumGoroutine")) = true := by rw [Tryz.func142]; rfl
theorem qd2 : ∀ l : List Ue, yk (x9 l) = true
 | [] => rfl
 | x :: l => by
  rw [xk]
  have := qd2 l
  try (refine ev1 @this ?_; try exact True.intro)
theorem qle (ι : List Nat) : ∀ l : List Ue, (x9 l).map (ASlot.ren1 ι) = x9 l
 | [] => rfl
 | x :: l => by
  rw [xk]
  have := qle ι l
  try (refine ev2 @List.map_cons.{0,0} @this ?_; try exact True.intro)
attribute [go_sem] qd2 qle
theorem q2s (l : List Ue) : ∀ r ∈ l.map qe, r.length = 4 := by
 intro r hr
 obtain ⟨x, _, rfl⟩ := List.mem_map.1 hr
 rfl
theorem q9c (l : List Ue) : ∀ d ∈ (l.map qe).flatten, d.isCell = true := by
 intro d hd
 obtain ⟨r, hr, hd⟩ := List.mem_flatten.1 hd
 obtain ⟨x, _, rfl⟩ := List.mem_map.1 hr
 simp only [qe, List.mem_cons, List.not_mem_nil, or_false] at hd
 rcases hd with rfl | rfl | rfl | rfl <;> rfl
def newE (roles s : Int) : Ue := ⟨s, 1, List.replicate roles.toNat false, List.replicate roles.toNat false⟩
def kr (m : Mg) (s : Int) : Mg × Int :=
 if !xx m then (⟨0, []⟩, 1) else if decide (s < 1) || decide (s > 32) then (⟨0, []⟩, 2) else if (qx m s).2 then (⟨0, []⟩, 9)
 else (⟨m.roles, m.ents.take (qx m s).1 ++ [newE m.roles s] ++ m.ents.drop (qx m s).1⟩, 0)
theorem qat {m : Mg} (h : xx m = true) : 1 ≤ m.roles ∧ m.roles ≤ 6 := by
 simp only [xx, Bool.and_eq_true, decide_eq_true_eq] at h
 exact h.2
theorem q2t (m : Mg) (s : Int) : (qx m s).1 ≤ m.ents.length := by
 unfold qx
 split
 ·exact Nat.le_of_lt (qk1 (by assumption)).2
 ·exact Nat.le_refl _
set_option maxRecDepth 10000 in
theorem qhq (m : Mg) (s : Int) (hm : m.Sm) : qh Tryz.prog 74 [.d (.agg (ql m)), .d (.int .i64 s)] [] (.tup [.d (.agg (ql (kr m s).1)), .d (.int .i64 (kr m s).2)]) [] := by
 have hl := hm.1
 refine F74b.goT ?_
 try (refine ev1 @ql.eq_1 ?_; try exact True.intro)
 (repeat (with_reducible refine ob ?_)); first | refine cl F69 (ki m hm) ?_ | refine clF F69 (ki m hm) (fun _ => by (refine ev2 @qe.eq_1 @ql.eq_1 ?_; try exact True.intro)) ?_
 try (refine ev ?_; try exact True.intro)
 (repeat (with_reducible refine ob ?_)); refine x5 _ (fun h => ?_) (fun h => ?_)
 ·have hb : kr m s = (⟨0, []⟩, 1) := by simp only [kr, h, if_true]
  try (refine ev2 @hb @List.map_nil.{0,0} ?_; try exact True.intro)
  refine pu ?_
  try (refine ev ?_; try exact True.intro)
 have hv : xx m = true := by simpa using h
 obtain ⟨hr1, hr2⟩ := qat hv
 try (refine ev ?_; try exact True.intro)
 (repeat (with_reducible refine ob ?_)); refine x5 _ (fun h => ?_) (fun h => ?_)
 ·have hb : kr m s = (⟨0, []⟩, 2) := by simp only [kr, hv, h]; rfl
  try (refine ev2 @hb @List.map_nil.{0,0} ?_; try exact True.intro)
  refine pu ?_
  try (refine ev ?_; try exact True.intro)
 have hs := h
 try (refine ev ?_; try exact True.intro)
 (repeat (with_reducible refine ob ?_)); first | refine cl F77 (qcb m s hm) ?_ | refine clF F77 (qcb m s hm) (fun _ => by (refine ev2 @qe.eq_1 @ql.eq_1 ?_; try exact True.intro)) ?_
 try (refine ev ?_; try exact True.intro)
 (repeat (with_reducible refine ob ?_)); refine x5 _ (fun h => ?_) (fun h => ?_)
 ·have hb : kr m s = (⟨0, []⟩, 9) := by simp only [kr, hv, hs, h]; rfl
  try (refine ev2 @hb @List.map_nil.{0,0} ?_; try exact True.intro)
  refine pu ?_
  try (refine ev ?_; try exact True.intro)
 have hb : kr m s = (⟨m.roles, m.ents.take (qx m s).1 ++ [newE m.roles s] ++ m.ents.drop (qx m s).1⟩, 0) := by simp only [kr, hv, hs, h]; rfl
 try (refine ev1 @hb ?_; try exact True.intro)
 refine clO [2, 3, 4] xa9 (q1w m hm) ?_ (hfit := by first | exact ⟨qa, trivial⟩ | (refine ev1 @ql.eq_1 ?_; try exact True.intro))
 try (refine ev ?_; try exact True.intro)
 refine xah (.cell 0 1) 4 4 (m.ents.map qe) ?_ rfl (q2s _) (q9c _) (D.okWR_noPtr (qca _)) (hn := by show (0 : Nat) ≠ 4; decide) (hp := by simp only [List.length_map]; rfl)
 refine pu ?_
 try (refine ev ?_; try exact True.intro)
 (repeat (with_reducible refine ob ?_))
 have hrow : qe (newE m.roles s) = [.int .i64 s, .int .i64 1, .sl 1 (List.replicate m.roles.toNat [.bool false]), .sl 1 (List.replicate m.roles.toNat [.bool false])] := by simp only [qe, newE, List.map_replicate, encB]
 have hnew : (m.ents.map qe).take (qx m s).1 ++ [qe (newE m.roles s)] ++ (m.ents.map qe).drop (qx m s).1 = (m.ents.take (qx m s).1 ++ [newE m.roles s] ++ m.ents.drop (qx m s).1).map qe := by simp
 have hins := q2r (m.ents.map qe) (qe (newE m.roles s)) (qx m s).1 (by rw [List.length_map]; exact q2t m s) (by rw [List.length_map]; exact hl) rfl
 rw [hnew] at hins
 refine qdl hins qu5 rfl ⟨by try (refine ev1 @hrow ?_; try exact True.intro), by try (refine ev2 @qca @qfb ?_; try exact True.intro), by simp only [qy]; simp, by simp only [qy]; simp⟩ (by simp [ASlot.toks]) (by simp [ASlot.toks]) ?_
 try (refine ev ?_; try exact True.intro)
 (repeat (with_reducible refine ob ?_))
 refine q43 (.cell 0 1) 640 4 ((m.ents.take (qx m s).1 ++ [newE m.roles s] ++ m.ents.drop (qx m s).1).map qe) ?_
 refine pu ?_
 try (refine ev ?_; try exact True.intro)
 refine pu ?_
 try (refine ev ?_; try exact True.intro)
 trace_state
end Go.Proofs.YtkcdbcbpbolgkaaGreatDoor
namespace Go.Proofs.YtkcdbcbpbolgkaaGreatDoor
open Go.Abs
set_option linter.unusedSimpArgs false
noncomputable section
set_option maxRecDepth 100000
set_option linter.defProp false
def d75b := cut Tryz.prog Tryz.f75 news [] [16] true
@[go_sem] def E75b := qq d75b
def F75b := fnC d75b follows Tryz.func75
end
def jb (p : Pk) (x : Ue) : Ue :=
 if p.label == 2 then { x with opened := x.opened.set p.from_.toNat true } else { x with moved := x.moved.set p.from_.toNat true }
def vo (x : Ue) : Ue := { x with phase := xn x }
def y4 (p : Pk) (x : Ue) : List Bool := if p.label == 2 then x.opened else x.moved
def zf (m : Mg) (p : Pk) : Mg × Int :=
 if !xx m || p.kind != 4 || !xl p || decide (p.from_ ≥ m.roles) then (⟨0, []⟩, 1)
 else if !(qx m p.sess).2 then (⟨0, []⟩, 8)
 else if (y4 p (m.ents.getD (qx m p.sess).1 default)).getD p.from_.toNat false then (⟨0, []⟩, 21)
 else if p.label == 2 && (m.ents.getD (qx m p.sess).1 default).phase == 1 then (⟨0, []⟩, 7)
 else (⟨m.roles, m.ents.set (qx m p.sess).1 (vo (jb p (m.ents.getD (qx m p.sess).1 default)))⟩, 0)
theorem qhr {s : ASlot} (hs : yk [s] = true) : ∀ (l : List ASlot) (i : Nat), yk l = true → yk (l.set i s) = true
 | [], _, h => h
 | _ :: l, 0, h => by
  rw [List.set_cons_zero]
  simp only [yk, Bool.and_eq_true] at h hs ⊢
  exact ⟨hs.1, h.2⟩
 | x :: l, i + 1, h => by
  rw [List.set_cons_succ]
  simp only [yk, Bool.and_eq_true] at h ⊢
  exact ⟨h.1, qhr hs l i h.2⟩
theorem qu6 {l : List Ue} {k a b : Nat} {x : Ue} : yk (refA (x9 l) k a b x) = true := qhr rfl _ _ (qhr rfl _ _ (qd2 l))
theorem qlf : ∀ l : List Bool, yk (l.map fun b => .d (.bool b)) = true
 | [] => rfl
 | x :: l => by
  have := qlf l
  try (refine ev2 @List.map_cons.{0,0} @this ?_; try exact True.intro)
theorem q6q (ι : List Nat) (l : List Bool) : (l.map fun b => ASlot.d (.bool b)).map (ASlot.ren1 ι) = l.map fun b => .d (.bool b) := by
 rw [List.map_map]; rfl
theorem q6r {l : List Ue} {k : Nat} {x : Ue} (ι : List Nat) (a b : Nat) : (refA (x9 l) k a b x).map (ASlot.ren1 ι) = refA (x9 l) k (ι.getD a 0) (ι.getD b 0) x := by
 rw [refA, List.map_set, List.map_set, qle]
 rfl
attribute [go_sem] qu6 qlf q6q q6r
theorem xbl {l : List Ue} {k a b j : Nat} {x : Ue} (hk : k < l.length) (hj : j < 2) : (refA (x9 l) k a b x).getD (k * 4 + j) .bad = .d ((qe l[k]).getD j .nilsl) := by
 rw [List.getD_eq_getElem?_getD, refA, List.getElem?_set_ne (by omega), List.getElem?_set_ne (by omega), qdt l k j hk (by omega)]; rfl
theorem q2u {l : List Ue} {k a b : Nat} {x : Ue} (hk : k < l.length) : (refA (x9 l) k a b x).getD (k * 4 + 1) .bad = .d (.int .i64 l[k].phase) := xbl hk (by decide)
theorem qpe {l : List Ue} {k a b : Nat} {x : Ue} (hk : k < l.length) : (refA (x9 l) k a b x).getD (k * 4 + 2) .bad = .d (.ref a 0 1 x.moved.length) := by
 have hf := qbg l
 rw [List.getD_eq_getElem?_getD, refA, List.getElem?_set_ne (by omega), List.getElem?_set_self (by omega)]; rfl
theorem qpf {l : List Ue} {k a b : Nat} {x : Ue} (hk : k < l.length) : (refA (x9 l) k a b x).getD (k * 4 + 3) .bad = .d (.ref b 0 1 x.opened.length) := by
 have hf := qbg l
 rw [List.getD_eq_getElem?_getD, refA, List.getElem?_set_self (by rw [List.length_set]; omega)]; rfl
theorem qwp {l : List Bool} {i : Nat} (h : i < l.length) : (l.map fun b => ASlot.d (.bool b)).getD i .bad = .d (.bool (l.getD i false)) := by
 rw [List.getD_eq_getElem?_getD, List.getElem?_map, List.getD_eq_getElem?_getD, List.getElem?_eq_getElem h]; rfl
theorem qjf (l : List Bool) (i : Nat) (b : Bool) : (l.map fun b => ASlot.d (.bool b)).set i (.d (.bool b)) = (l.set i b).map fun b => .d (.bool b) := by rw [List.map_set]
theorem xcr {m : Mg} {p : Pk} (h : (!xx m || p.kind != 4 || !xl p || decide (p.from_ ≥ m.roles)) = false) : xx m = true ∧ p.kind = 4 ∧ xl p = true ∧ p.from_ < m.roles ∧ 0 ≤ p.from_ := by
 simp only [Bool.or_eq_false_iff, Bool.not_eq_false', bne_eq_false_iff_eq, decide_eq_false_iff_not] at h
 obtain ⟨⟨⟨h1, h2⟩, h3⟩, h4⟩ := h
 refine ⟨h1, h2, h3, by omega, ?_⟩
 simp [xl, order, role, h2] at h3
 omega
theorem qei {m : Mg} (h : xx m = true) {k : Nat} (hk : k < m.ents.length) : (m.ents[k].moved.length : Int) = m.roles ∧ (m.ents[k].opened.length : Int) = m.roles ∧ m.ents[k].phase = xn m.ents[k] := by
 simp only [xx, Bool.and_eq_true] at h
 have := zm.1 h.1 k hk
 simp only [qbf, zw hk, Bool.not_eq_true', Bool.or_eq_false_iff, bne_eq_false_iff_eq] at this
 exact ⟨this.1.1.1.2, this.1.1.2, this.2⟩
theorem qio (id es e : Nat) (rows r : List (List D)) (h : D.noPtrR r = true) : ((ASlot.d (.sl e r)).frz id es rows).only (neId id) = .d (.sl e r) := by simp only [ASlot.frz, D.frz, ASlot.only, ASlot.okS, D.okW, D.okWR_noPtr h, if_true]
theorem qsh (id es : Nat) (rows : List (List D)) : ∀ l : List Ue, (x9 l).map (fun s => (s.frz id es rows).only (neId id)) = x9 l
 | [] => rfl
 | x :: l => by
  rw [xk, List.map_cons, List.map_cons, List.map_cons, List.map_cons, qsh id es rows l, qio _ _ _ _ _ (vm _), qio _ _ _ _ _ (vm _)]
  rfl
theorem qpg (l : List Ue) (i j : Nat) (u v : ASlot) (id es : Nat) (rows : List (List D)) : (((x9 l).set i u).set j v).map (fun s => (s.frz id es rows).only (neId id)) = ((x9 l).set i ((u.frz id es rows).only (neId id))).set j ((v.frz id es rows).only (neId id)) := by
 rw [List.map_set, List.map_set, qsh]
theorem qwq (l : List Ue) (k a b : Nat) (x : Ue) (id es : Nat) (rows : List (List D)) : (refA (x9 l) k a b x).map (fun s => (s.frz id es rows).only (neId id)) =
  ((x9 l).set (k * 4 + 2) (((ASlot.d (.ref a 0 1 x.moved.length)).frz id es rows).only (neId id))).set (k * 4 + 3) (((ASlot.d (.ref b 0 1 x.opened.length)).frz id es rows).only (neId id)) := qpg ..
theorem qph (l : List Bool) (id es : Nat) (rows : List (List D)) : (l.map fun b => ASlot.d (.bool b)).map (fun s => (s.frz id es rows).only (neId id)) = l.map fun b => .d (.bool b) := by
 rw [List.map_map]; rfl
theorem qa4 (l : List Bool) : (l.map fun b => ASlot.d (.bool b)).map ASlot.cellD = (l.map encB).flatten := by
 induction l with
 | nil => rfl
 | cons b l ih => simp only [List.map_cons, List.flatten_cons, encB, List.cons_append, List.nil_append, ih]; rfl
theorem qej (l : List Bool) : (l.map fun b => ASlot.d (.bool b)).all ASlot.isCellD = true := by
 rw [List.all_map]
 exact List.all_eq_true.2 fun b _ => rfl
theorem qek (l : List Bool) : ∀ r ∈ l.map encB, r.length = 1 := by
 intro r hr
 obtain ⟨x, _, rfl⟩ := List.mem_map.1 hr
 rfl
theorem qlg (l : List Ue) : (x9 l).map ASlot.cellD = (l.map qe).flatten := by
 induction l with
 | nil => rfl
 | cons x l ih => rw [xk]; simp only [List.map_cons, List.flatten_cons, qe, List.cons_append, List.nil_append, ih]; rfl
theorem qsi (l : List Ue) : (x9 l).all ASlot.isCellD = true := by
 induction l with
 | nil => rfl
 | cons x l ih => rw [xk]; simp only [List.all_cons, ih]; rfl
theorem qhs : ∀ (l : List Ue) (k : Nat) (y : Ue) (hk : k < l.length), y.sess = l[k].sess → y.phase = l[k].phase →
  ((x9 l).set (k * 4 + 2) (.d (.sl 1 (y.moved.map encB)))).set (k * 4 + 3) (.d (.sl 1 (y.opened.map encB))) = x9 (l.set k y)
 | x :: l, 0, y, _, h1, h2 => by
  simp only [List.getElem_cons_zero] at h1 h2
  rw [List.set_cons_zero, xk, xk, h1, h2]; rfl
 | x :: l, k + 1, y, hk, h1, h2 => by
  rw [List.set_cons_succ, xk, xk, ← qhs l k y (by simpa using hk) (by simpa using h1) (by simpa using h2), show (k + 1) * 4 + 2 = (k * 4 + 2) + 1 + 1 + 1 + 1 by omega, show (k + 1) * 4 + 3 = (k * 4 + 3) + 1 + 1 + 1 + 1 by omega]
  simp only [List.set_cons_succ]
theorem qbk : ∀ (l : List Ue) (k : Nat) (y : Ue), k < l.length → (x9 (l.set k y)).set (k * 4 + 1) (.d (.int .i64 (xn y))) = x9 (l.set k (vo y))
 | x :: l, 0, y, _ => by
  rw [List.set_cons_zero, List.set_cons_zero, xk, xk]; rfl
 | x :: l, k + 1, y, hk => by
  rw [List.set_cons_succ, List.set_cons_succ, xk, xk, ← qbk l k y (by simpa using hk), show (k + 1) * 4 + 1 = (k * 4 + 1) + 1 + 1 + 1 + 1 by omega]
  simp only [List.set_cons_succ]
theorem qht : ∀ (l : List Ue) (k : Nat) (y : Ue), k < l.length → ((x9 (l.set k y)).drop (k * 4)).take 4 = [.d (.int .i64 y.sess), .d (.int .i64 y.phase), .d (.sl 1 (y.moved.map encB)), .d (.sl 1 (y.opened.map encB))]
 | x :: l, 0, y, _ => by
  rw [List.set_cons_zero, xk]; rfl
 | x :: l, k + 1, y, hk => by
  rw [List.set_cons_succ, xk, ← qht l k y (by simpa using hk), show (k + 1) * 4 = k * 4 + 1 + 1 + 1 + 1 by omega]
  simp only [List.drop_succ_cons]
theorem qsj {m : Mg} {s : Int} (h : (qx m s).2 = true) : (qx m s).1 < m.ents.length := by
 unfold qx at h ⊢
 split at h
 ·rename_i h1
  rw [if_pos h1]
  exact (qk1 h1).2
 ·cases h
set_option maxRecDepth 10000 in
theorem yx (m : Mg) (p : Pk) (hm : m.Sm) (hp : p.Sm) : qh Tryz.prog 75 [.d (.agg (ql m)), .d (.agg (qk p))] [] (.tup [.d (.agg (ql (zf m p).1)), .d (.int .i64 (zf m p).2)]) [] := by
 have hl := hm.1
 refine F75b.goT ?_
 try (refine ev2 @ql.eq_1 @qk.eq_1 ?_; try exact True.intro)
 (repeat (with_reducible refine ob ?_)); first | refine cl F69 (ki m hm) ?_ | refine clF F69 (ki m hm) (fun _ => by (refine ev3 @qe.eq_1 @ql.eq_1 @qk.eq_1 ?_; try exact True.intro)) ?_
 try (refine ev ?_; try exact True.intro)
 (repeat (with_reducible refine ob ?_))
 (repeat (with_reducible refine ob ?_)); first | refine cl F70 (yy p hp.v hp.c) ?_ | refine clF F70 (yy p hp.v hp.c) (fun _ => by (refine ev3 @qe.eq_1 @ql.eq_1 @qk.eq_1 ?_; try exact True.intro)) ?_
 try (refine ev ?_; try exact True.intro)
 (repeat (with_reducible refine ob ?_)); refine x5 _ (fun h => ?_) (fun h => ?_)
 ·have hb : zf m p = (⟨0, []⟩, 1) := by simp only [zf, h, if_true]
  try (refine ev2 @hb @List.map_nil.{0,0} ?_; try exact True.intro)
  refine pu ?_
  try (refine ev ?_; try exact True.intro)
 have h0 := h
 try (refine ev ?_; try exact True.intro)
 (repeat (with_reducible refine ob ?_)); first | refine cl F77 (qcb m p.sess hm) ?_ | refine clF F77 (qcb m p.sess hm) (fun _ => by (refine ev3 @qe.eq_1 @ql.eq_1 @qk.eq_1 ?_; try exact True.intro)) ?_
 try (refine ev ?_; try exact True.intro)
 (repeat (with_reducible refine ob ?_)); refine x5 _ (fun h => ?_) (fun h => ?_)
 ·have hb : zf m p = (⟨0, []⟩, 8) := by simp only [zf, h0, h]; rfl
  try (refine ev2 @hb @List.map_nil.{0,0} ?_; try exact True.intro)
  refine pu ?_
  try (refine ev ?_; try exact True.intro)
 have h1 := h
 have hk : (qx m p.sess).1 < m.ents.length := qsj (by simpa using h)
 have hx := hm.2 _ (List.getElem_mem hk)
 obtain ⟨r1, r2, r3, r4, r5⟩ := xcr h0
 obtain ⟨v1, v2, _⟩ := qei r1 hk
 have h7 := quv m hm _ hk
 have hfl := qbg m.ents
 have hu : zf m p = (if (y4 p m.ents[(qx m p.sess).1]).getD p.from_.toNat false then (⟨0, []⟩, 21)
   else if p.label == 2 && m.ents[(qx m p.sess).1].phase == 1 then (⟨0, []⟩, 7)
   else (⟨m.roles, m.ents.set (qx m p.sess).1 (vo (jb p m.ents[(qx m p.sess).1]))⟩, 0)) := by
  simp only [zf, h0, h1, zw hk]; rfl
 rw [hu]
 clear hu
 try (refine ev ?_; try exact True.intro)
 refine clO [3, 4, 5, 6, 7] xbb h7 ?_ (hfit := by first | exact ⟨qa, trivial⟩ | (refine ev1 @ql.eq_1 ?_; try exact True.intro))
 clear h7
 generalize (qx m p.sess).1 = k at hk hx v1 v2 ⊢
 try (refine ev ?_; try exact True.intro)
 (repeat (with_reducible refine ob ?_))
 refine x5 _ (fun hl2 => ?_) (fun hl2 => ?_)
 ·simp only [y4, jb, hl2, if_true, Bool.true_and]
  try simp only [qpe hk, qpf hk, go_sem, Nat.reduceAdd, Nat.reduceMul, Nat.reduceSub, Nat.reduceEqDiff, Nat.reduceLT, Nat.reduceLeDiff, Nat.reduceBEq, reduceIte, reduceCtorEq, Int.reduceAdd, Int.reduceLT, Int.reduceLE, Int.reduceGT, Int.reduceGE, Int.reduceEq, Int.reduceNe, Int.reduceBEq, Int.reduceBNe, Int.reduceToNat, Int.reduceNeg]
  (repeat (with_reducible refine ob ?_))
  try simp only [qpe hk, qpf hk, Nat.mul_one, qwp (l := m.ents[k].opened) (i := p.from_.toNat) (by omega), go_sem, Nat.reduceAdd, Nat.reduceMul, Nat.reduceSub, Nat.reduceEqDiff, Nat.reduceLT, Nat.reduceLeDiff, Nat.reduceBEq, reduceIte, reduceCtorEq, Int.reduceAdd, Int.reduceLT, Int.reduceLE, Int.reduceGT, Int.reduceGE, Int.reduceEq, Int.reduceNe, Int.reduceBEq, Int.reduceBNe, Int.reduceToNat, Int.reduceNeg]
  refine x5 _ (fun h3 => ?_) (fun h3 => ?_)
  ·try (refine ev2 @h3 @List.map_nil.{0,0} ?_; try exact True.intro)
   refine pu ?_
   try (refine ev ?_; try exact True.intro)
  try simp only [q2u hk, go_sem, Nat.reduceAdd, Nat.reduceMul, Nat.reduceSub, Nat.reduceEqDiff, Nat.reduceLT, Nat.reduceLeDiff, Nat.reduceBEq, reduceIte, reduceCtorEq, Int.reduceAdd, Int.reduceLT, Int.reduceLE, Int.reduceGT, Int.reduceGE, Int.reduceEq, Int.reduceNe, Int.reduceBEq, Int.reduceBNe, Int.reduceToNat, Int.reduceNeg]
  (repeat (with_reducible refine ob ?_))
  refine x5 _ (fun h4 => ?_) (fun h4 => ?_)
  ·have h4' : (m.ents[k].phase == 1) = true := by simpa [hl2] using h4
   try (refine ev4 @h3 @h4' @hl2 @List.map_nil.{0,0} ?_; try exact True.intro)
   refine pu ?_
   try (refine ev ?_; try exact True.intro)
  have h4' : (m.ents[k].phase == 1) = false := by simpa [hl2] using h4
  simp only [h3, h4', Bool.false_eq_true, if_false]
  try (refine ev4 @h3 @hl2 @Nat.mul_one @qjf ?_; try exact True.intro)
  (repeat (with_reducible refine ob ?_))
  have hy : ∀ y : Ue, y = { m.ents[k] with opened := m.ents[k].opened.set p.from_.toNat true } → y.Sm := by rintro y rfl; exact ⟨by simpa using hx.1, by simpa using hx.2⟩
  generalize hyd : { m.ents[k] with opened := m.ents[k].opened.set p.from_.toNat true } = y at hy ⊢
  have hys : y.sess = m.ents[k].sess := by rw [← hyd]
  have hyp : y.phase = m.ents[k].phase := by rw [← hyd]
  have hym : m.ents[k].moved = y.moved := by rw [← hyd]
  have hyo : m.ents[k].opened.set p.from_.toNat true = y.opened := by rw [← hyd]
  have hml : m.ents[k].moved.length = y.moved.length := by simp [← hyd]
  have hol : m.ents[k].opened.length = y.opened.length := by simp [← hyd]
  simp only [hml, hol, hym, hyo]
  refine qgd 6 1 (y.moved.map encB) ?_ (qa4 _) (qej _) (qek _) (D.okWR_noPtr (vm _))
  simp only [qkn, Fr.mapS, List.map_cons, List.map_nil, AObj.mapS, qwq, hml, hol, qph, List.set_cons_zero, List.set_cons_succ]
  try (refine ev ?_; try exact True.intro)
  refine qgd 7 1 (y.opened.map encB) ?_ (qa4 _) (qej _) (qek _) (D.okWR_noPtr (vm _))
  simp only [qkn, Fr.mapS, List.map_cons, List.map_nil, AObj.mapS, qpg, qio _ _ _ _ _ (vm _), List.set_cons_zero, List.set_cons_succ]
  try simp only [qhs m.ents k y hk hys hyp, go_sem, Nat.reduceAdd, Nat.reduceMul, Nat.reduceSub, Nat.reduceEqDiff, Nat.reduceLT, Nat.reduceLeDiff, Nat.reduceBEq, reduceIte, reduceCtorEq, Int.reduceAdd, Int.reduceLT, Int.reduceLE, Int.reduceGT, Int.reduceGE, Int.reduceEq, Int.reduceNe, Int.reduceBEq, Int.reduceBNe, Int.reduceToNat, Int.reduceNeg]
  refine pu ?_
  try simp only [qht m.ents k y hk, List.length_set, go_sem, Nat.reduceAdd, Nat.reduceMul, Nat.reduceSub, Nat.reduceEqDiff, Nat.reduceLT, Nat.reduceLeDiff, Nat.reduceBEq, reduceIte, reduceCtorEq, Int.reduceAdd, Int.reduceLT, Int.reduceLE, Int.reduceGT, Int.reduceGE, Int.reduceEq, Int.reduceNe, Int.reduceBEq, Int.reduceBNe, Int.reduceToNat, Int.reduceNeg]
  (repeat (with_reducible refine ob ?_))
  (repeat (with_reducible refine ob ?_)); first | refine cl F134 (w8 y (hy y rfl)) ?_ | refine clF F134 (w8 y (hy y rfl)) (fun _ => by (refine ev3 @qe.eq_1 @ql.eq_1 @qk.eq_1 ?_; try exact True.intro)) ?_
  try (refine ev2 @List.length_set.{0} (qbk m.ents k y hk) ?_; try exact True.intro)
  (repeat (with_reducible refine ob ?_))
  try simp only [qbk m.ents k y hk, go_sem, Nat.reduceAdd, Nat.reduceMul, Nat.reduceSub, Nat.reduceEqDiff, Nat.reduceLT, Nat.reduceLeDiff, Nat.reduceBEq, reduceIte, reduceCtorEq, Int.reduceAdd, Int.reduceLT, Int.reduceLE, Int.reduceGT, Int.reduceGE, Int.reduceEq, Int.reduceNe, Int.reduceBEq, Int.reduceBNe, Int.reduceToNat, Int.reduceNeg]
  refine qgd 5 4 ((m.ents.set k (vo y)).map qe) ?_ (qlg _) (qsi _) (q2s _) (D.okWR_noPtr (qca _))
  refine pu ?_
  try (refine ev2 @List.length_set.{0} @List.length_map.{0,0} ?_; try exact True.intro)
 ·simp only [y4, jb, hl2, Bool.false_and, Bool.false_eq_true, if_false]
  try simp only [qpe hk, qpf hk, go_sem, Nat.reduceAdd, Nat.reduceMul, Nat.reduceSub, Nat.reduceEqDiff, Nat.reduceLT, Nat.reduceLeDiff, Nat.reduceBEq, reduceIte, reduceCtorEq, Int.reduceAdd, Int.reduceLT, Int.reduceLE, Int.reduceGT, Int.reduceGE, Int.reduceEq, Int.reduceNe, Int.reduceBEq, Int.reduceBNe, Int.reduceToNat, Int.reduceNeg]
  (repeat (with_reducible refine ob ?_))
  try simp only [qpe hk, qpf hk, Nat.mul_one, qwp (l := m.ents[k].moved) (i := p.from_.toNat) (by omega), go_sem, Nat.reduceAdd, Nat.reduceMul, Nat.reduceSub, Nat.reduceEqDiff, Nat.reduceLT, Nat.reduceLeDiff, Nat.reduceBEq, reduceIte, reduceCtorEq, Int.reduceAdd, Int.reduceLT, Int.reduceLE, Int.reduceGT, Int.reduceGE, Int.reduceEq, Int.reduceNe, Int.reduceBEq, Int.reduceBNe, Int.reduceToNat, Int.reduceNeg]
  refine x5 _ (fun h3 => ?_) (fun h3 => ?_)
  ·try (refine ev2 @h3 @List.map_nil.{0,0} ?_; try exact True.intro)
   refine pu ?_
   try (refine ev ?_; try exact True.intro)
  try simp only [q2u hk, go_sem, Nat.reduceAdd, Nat.reduceMul, Nat.reduceSub, Nat.reduceEqDiff, Nat.reduceLT, Nat.reduceLeDiff, Nat.reduceBEq, reduceIte, reduceCtorEq, Int.reduceAdd, Int.reduceLT, Int.reduceLE, Int.reduceGT, Int.reduceGE, Int.reduceEq, Int.reduceNe, Int.reduceBEq, Int.reduceBNe, Int.reduceToNat, Int.reduceNeg]
  (repeat (with_reducible refine ob ?_))
  try (refine ev2 @hl2 @Bool.false_and ?_; try exact True.intro)
  (repeat (with_reducible refine ob ?_)); refine no_ ?_
  simp only [h3, Bool.false_eq_true, if_false]
  try (refine ev4 @h3 @hl2 @Nat.mul_one @qjf ?_; try exact True.intro)
  (repeat (with_reducible refine ob ?_))
  have hy : ∀ y : Ue, y = { m.ents[k] with moved := m.ents[k].moved.set p.from_.toNat true } → y.Sm := by rintro y rfl; exact ⟨by simpa using hx.1, by simpa using hx.2⟩
  generalize hyd : { m.ents[k] with moved := m.ents[k].moved.set p.from_.toNat true } = y at hy ⊢
  have hys : y.sess = m.ents[k].sess := by rw [← hyd]
  have hyp : y.phase = m.ents[k].phase := by rw [← hyd]
  have hym : m.ents[k].moved.set p.from_.toNat true = y.moved := by rw [← hyd]
  have hyo : m.ents[k].opened = y.opened := by rw [← hyd]
  have hml : m.ents[k].moved.length = y.moved.length := by simp [← hyd]
  have hol : m.ents[k].opened.length = y.opened.length := by simp [← hyd]
  simp only [hml, hol, hym, hyo]
  refine qgd 6 1 (y.moved.map encB) ?_ (qa4 _) (qej _) (qek _) (D.okWR_noPtr (vm _))
  simp only [qkn, Fr.mapS, List.map_cons, List.map_nil, AObj.mapS, qwq, hml, hol, qph, List.set_cons_zero, List.set_cons_succ]
  try (refine ev ?_; try exact True.intro)
  refine qgd 7 1 (y.opened.map encB) ?_ (qa4 _) (qej _) (qek _) (D.okWR_noPtr (vm _))
  simp only [qkn, Fr.mapS, List.map_cons, List.map_nil, AObj.mapS, qpg, qio _ _ _ _ _ (vm _), List.set_cons_zero, List.set_cons_succ]
  try simp only [qhs m.ents k y hk hys hyp, go_sem, Nat.reduceAdd, Nat.reduceMul, Nat.reduceSub, Nat.reduceEqDiff, Nat.reduceLT, Nat.reduceLeDiff, Nat.reduceBEq, reduceIte, reduceCtorEq, Int.reduceAdd, Int.reduceLT, Int.reduceLE, Int.reduceGT, Int.reduceGE, Int.reduceEq, Int.reduceNe, Int.reduceBEq, Int.reduceBNe, Int.reduceToNat, Int.reduceNeg]
  refine pu ?_
  try simp only [qht m.ents k y hk, List.length_set, go_sem, Nat.reduceAdd, Nat.reduceMul, Nat.reduceSub, Nat.reduceEqDiff, Nat.reduceLT, Nat.reduceLeDiff, Nat.reduceBEq, reduceIte, reduceCtorEq, Int.reduceAdd, Int.reduceLT, Int.reduceLE, Int.reduceGT, Int.reduceGE, Int.reduceEq, Int.reduceNe, Int.reduceBEq, Int.reduceBNe, Int.reduceToNat, Int.reduceNeg]
  (repeat (with_reducible refine ob ?_))
  (repeat (with_reducible refine ob ?_)); first | refine cl F134 (w8 y (hy y rfl)) ?_ | refine clF F134 (w8 y (hy y rfl)) (fun _ => by (refine ev3 @qe.eq_1 @ql.eq_1 @qk.eq_1 ?_; try exact True.intro)) ?_
  try (refine ev2 @List.length_set.{0} (qbk m.ents k y hk) ?_; try exact True.intro)
  (repeat (with_reducible refine ob ?_))
  try simp only [qbk m.ents k y hk, go_sem, Nat.reduceAdd, Nat.reduceMul, Nat.reduceSub, Nat.reduceEqDiff, Nat.reduceLT, Nat.reduceLeDiff, Nat.reduceBEq, reduceIte, reduceCtorEq, Int.reduceAdd, Int.reduceLT, Int.reduceLE, Int.reduceGT, Int.reduceGE, Int.reduceEq, Int.reduceNe, Int.reduceBEq, Int.reduceBNe, Int.reduceToNat, Int.reduceNeg]
  refine qgd 5 4 ((m.ents.set k (vo y)).map qe) ?_ (qlg _) (qsi _) (q2s _) (D.okWR_noPtr (qca _))
  refine pu ?_
  try (refine ev2 @List.length_set.{0} @List.length_map.{0,0} ?_; try exact True.intro)
end Go.Proofs.YtkcdbcbpbolgkaaGreatDoor
namespace Go.Proofs.YtkcdbcbpbolgkaaGreatDoor
open Go.Abs
set_option linter.unusedSimpArgs false
noncomputable section
set_option maxRecDepth 100000
set_option linter.defProp false
def d22 := cut Tryz.prog Tryz.f22 news
@[go_sem] def E22 := qq d22
def F22 := fnC d22 follows Tryz.func22
def d76 := cut Tryz.prog Tryz.f76 news
@[go_sem] def E76 := qq d76
def F76 := fnC d76 follows Tryz.func76
end
theorem qfg {m : Mg} (h : xx m = true) {k : Nat} (hk : k < m.ents.length) : 1 ≤ m.ents[k].sess ∧ m.ents[k].sess ≤ 32 ∧ m.ents[k].phase ≠ 0 := by
 simp only [xx, Bool.and_eq_true] at h
 have := zm.1 h.1 k hk
 simp only [qbf, zw hk, Bool.not_eq_true', Bool.or_eq_false_iff, bne_eq_false_iff_eq, decide_eq_false_iff_not, beq_eq_false_iff_ne] at this
 obtain ⟨⟨⟨⟨⟨⟨h1, h2⟩, _⟩, _⟩, _⟩, h3⟩, _⟩ := this
 exact ⟨by omega, by omega, h3⟩
def zp (s r label : Int) : Pk := ⟨4, s, 0, r, 0, 0, label, [], []⟩
theorem qel (s r label : Int) : (zp s r label).Sm := ⟨Nat.zero_le _, Nat.zero_le _⟩
theorem wc (s r label : Int) : qh Tryz.prog 76 [.d (.int .i64 s), .d (.int .i64 r), .d (.int .i64 label)] [] (.d (.agg (qk (zp s r label)))) [] := by
 refine F76.go ?_
 try (refine ev3 @qk.eq_1 @zp.eq_1 @List.map_nil.{0,0} ?_; try exact True.intro)
theorem b1 : kr ⟨2, []⟩ 5 = (⟨2, [⟨5, 1, [false, false], [false, false]⟩]⟩, 0) := by decide
theorem b2 : ji ⟨2, [⟨5, 1, [false, false], [false, false]⟩]⟩ = [qdu 5 0 1, qdu 5 1 1] := by decide
theorem b3 : zf ⟨2, [⟨5, 1, [false, false], [false, false]⟩]⟩ (zp 5 1 1) = (⟨2, [⟨5, 1, [false, true], [false, false]⟩]⟩, 0) := by decide
theorem b4 : ji ⟨2, [⟨5, 1, [false, true], [false, false]⟩]⟩ = [qdu 5 0 1] := by decide
theorem b5 : zf ⟨2, [⟨5, 1, [false, true], [false, false]⟩]⟩ (zp 5 0 1) = (⟨2, [⟨5, 2, [true, true], [false, false]⟩]⟩, 0) := by decide
theorem b6 : ji ⟨2, [⟨5, 2, [true, true], [false, false]⟩]⟩ = [qdu 5 0 2, qdu 5 1 2] := by decide
theorem q2w (x : Ue) (h : x.moved.length ≤ 1000) (k : x.opened.length ≤ 1000) : (⟨2, [x]⟩ : Mg).Sm := ⟨by simp, by intro y hy; simp only [List.mem_singleton] at hy; subst hy; exact ⟨h, k⟩⟩
theorem xcs (n : Int) : (⟨n, []⟩ : Mg).Sm := ⟨by simp, by simp⟩
set_option maxRecDepth 10000 in
theorem qno : qh Tryz.prog 22 [] [] (.d (.bool true)) [] := by
 have c0 := qo8 2
 have c1 := qhq ⟨2, []⟩ 5 (xcs 2)
 have c2 := qfd ⟨2, [⟨5, 1, [false, false], [false, false]⟩]⟩ (q2w _ (by simp) (by simp))
 have c3 := yx ⟨2, [⟨5, 1, [false, false], [false, false]⟩]⟩ (zp 5 1 1) (q2w _ (by simp) (by simp)) (qel _ _ _)
 have c4 := qfd ⟨2, [⟨5, 1, [false, true], [false, false]⟩]⟩ (q2w _ (by simp) (by simp))
 have c5 := yx ⟨2, [⟨5, 1, [false, true], [false, false]⟩]⟩ (zp 5 0 1) (q2w _ (by simp) (by simp)) (qel _ _ _)
 have c6 := qfd ⟨2, [⟨5, 2, [true, true], [false, false]⟩]⟩ (q2w _ (by simp) (by simp))
 have n0 : qhi 2 = (⟨2, []⟩, 0) := by decide
 rw [n0] at c0; rw [b1] at c1; rw [b2] at c2; rw [b3] at c3; rw [b4] at c4; rw [b5] at c5; rw [b6] at c6
 refine F22.go ?_
 try (refine ev ?_; try exact True.intro)
 (repeat (with_reducible refine ob ?_)); first | refine cl F43 (c0) ?_ | refine clF F43 (c0) (fun _ => by (refine ev3 @qe.eq_1 @ql.eq_1 @qk.eq_1 ?_; try exact True.intro)) ?_
 try (refine ev2 @ql.eq_1 @List.map_nil.{0,0} ?_; try exact True.intro)
 (repeat (with_reducible refine ob ?_)); first | refine cl F74b (c1) ?_ | refine clF F74b (c1) (fun _ => by (refine ev3 @qe.eq_1 @ql.eq_1 @qk.eq_1 ?_; try exact True.intro)) ?_
 try (refine ev1 @ql.eq_1 ?_; try exact True.intro)
 (repeat (with_reducible refine ob ?_)); first | refine cl F18 (c2) ?_ | refine clF F18 (c2) (fun _ => by (refine ev3 @qe.eq_1 @ql.eq_1 @qk.eq_1 ?_; try exact True.intro)) ?_
 try (refine ev1 @ql.eq_1 ?_; try exact True.intro)
 (repeat (with_reducible refine ob ?_)); first | refine cl F76 (wc 5 1 1) ?_ | refine clF F76 (wc 5 1 1) (fun _ => by (refine ev3 @qe.eq_1 @ql.eq_1 @qk.eq_1 ?_; try exact True.intro)) ?_
 try (refine ev ?_; try exact True.intro)
 (repeat (with_reducible refine ob ?_)); first | refine cl F75b (c3) ?_ | refine clF F75b (c3) (fun _ => by (refine ev3 @qe.eq_1 @ql.eq_1 @qk.eq_1 ?_; try exact True.intro)) ?_
 try (refine ev1 @ql.eq_1 ?_; try exact True.intro)
 clear c0 c1 c2 c3
 (repeat (with_reducible refine ob ?_)); first | refine cl F18 (c4) ?_ | refine clF F18 (c4) (fun _ => by (refine ev3 @qe.eq_1 @ql.eq_1 @qk.eq_1 ?_; try exact True.intro)) ?_
 try (refine ev1 @ql.eq_1 ?_; try exact True.intro)
 (repeat (with_reducible refine ob ?_)); first | refine cl F76 (wc 5 0 1) ?_ | refine clF F76 (wc 5 0 1) (fun _ => by (refine ev3 @qe.eq_1 @ql.eq_1 @qk.eq_1 ?_; try exact True.intro)) ?_
 try (refine ev ?_; try exact True.intro)
 (repeat (with_reducible refine ob ?_)); first | refine cl F75b (c5) ?_ | refine clF F75b (c5) (fun _ => by (refine ev3 @qe.eq_1 @ql.eq_1 @qk.eq_1 ?_; try exact True.intro)) ?_
 try (refine ev1 @ql.eq_1 ?_; try exact True.intro)
 (repeat (with_reducible refine ob ?_)); first | refine cl F18 (c6) ?_ | refine clF F18 (c6) (fun _ => by (refine ev3 @qe.eq_1 @ql.eq_1 @qk.eq_1 ?_; try exact True.intro)) ?_
 try (refine ev1 @ql.eq_1 ?_; try exact True.intro)
 (repeat (with_reducible refine ob ?_))
 try (refine ev2 @qk.eq_1 @qdu.eq_1 ?_; try exact True.intro)
end Go.Proofs.YtkcdbcbpbolgkaaGreatDoor
namespace Go.Proofs.YtkcdbcbpbolgkaaGreatDoor
open Go.Abs
set_option linter.unusedSimpArgs false
end Go.Proofs.YtkcdbcbpbolgkaaGreatDoor
namespace Go.Proofs.YtkcdbcbpbolgkaaGreatDoor
open Go.Abs
set_option linter.unusedSimpArgs false
structure EnOk (r : Int) (x : Ue) : Prop where
 s1 : 1 ≤ x.sess
 s32 : x.sess ≤ 32
 ml : (x.moved.length : Int) = r
 ol : (x.opened.length : Int) = r
 ph : x.phase = xn x
 p0 : x.phase ≠ 0
structure MW (m : Mg) : Prop where
 r1 : 1 ≤ m.roles
 r6 : m.roles ≤ 6
 inc : (m.ents.map Ue.sess).Pairwise (· < ·)
 en : ∀ x ∈ m.ents, EnOk m.roles x
theorem qlh {l : List Int} (h : ∀ i (h : i + 1 < l.length), l[i] < l[i + 1]) : l.Pairwise (· < ·) := by
 rw [List.pairwise_iff_getElem]
 intro i j hi hj hij
 obtain ⟨d, rfl⟩ : ∃ d, j = i + 1 + d := ⟨j - (i + 1), by omega⟩
 induction d with
 | zero => exact h i hj
 | succ d ih => exact Int.lt_trans (ih (by omega) (by omega)) (h (i + 1 + d) hj)
theorem wk {m : Mg} : xx m = true ↔ MW m := by
 constructor
 ·intro h
  have hr := qat h
  refine ⟨hr.1, hr.2, qlh fun i hi => ?_, fun x hx => ?_⟩
  ·have hi' : i + 1 < m.ents.length := by simpa using hi
   have h2 := h
   simp only [xx, Bool.and_eq_true] at h2
   have := zm.1 h2.1 (i + 1) hi'
   rw [← enk m i hi' (by omega)] at this
   simp only [Bool.not_eq_true', Bool.or_eq_false_iff, Bool.and_eq_false_iff, decide_eq_false_iff_not] at this
   simp only [List.getElem_map]
   have := this.1.1.1.1.2
   omega
  ·obtain ⟨i, hi, rfl⟩ := List.getElem_of_mem hx
   obtain ⟨a1, a2, a3⟩ := qei h hi
   obtain ⟨b1, b2, b3⟩ := qfg h hi
   exact ⟨b1, b2, a1, a2, a3, b3⟩
 ·rintro ⟨r1, r6, inc, en⟩
  simp only [xx, Bool.and_eq_true, decide_eq_true_eq]
  refine ⟨zm.2 fun i hi => ?_, r1, r6⟩
  obtain ⟨s1, s32, ml, ol, ph, p0⟩ := en _ (List.getElem_mem hi)
  rcases Nat.eq_zero_or_pos i with rfl | h0
  ·rw [← en0 m hi]
   simp only [Bool.not_eq_true', Bool.or_eq_false_iff, decide_eq_false_iff_not, bne_eq_false_iff_eq, beq_eq_false_iff_ne]
   exact ⟨⟨⟨⟨⟨by omega, by omega⟩, ml⟩, ol⟩, p0⟩, ph⟩
  ·obtain ⟨k, rfl⟩ : ∃ k, i = k + 1 := ⟨i - 1, by omega⟩
   rw [← enk m k hi (by omega)]
   have hlt := (List.pairwise_iff_getElem.1 inc) k (k + 1) (by simp; omega) (by simpa using hi) (by omega)
   simp only [List.getElem_map] at hlt
   simp only [Bool.not_eq_true', Bool.or_eq_false_iff, Bool.and_eq_false_iff, decide_eq_false_iff_not, bne_eq_false_iff_eq, beq_eq_false_iff_ne]
   exact ⟨⟨⟨⟨⟨⟨by omega, by omega⟩, .inr (by omega)⟩, ml⟩, ol⟩, p0⟩, ph⟩
theorem qsk {l : List Int} (h : l.Pairwise (· < ·)) (h1 : ∀ x ∈ l, 1 ≤ x) (h32 : ∀ x ∈ l, x ≤ 32) : l.length ≤ 32 := by
 have key : ∀ (i : Nat) (hi : i < l.length), (i : Int) + 1 ≤ l[i] := by
  intro i
  induction i with
  | zero => intro hi; have := h1 _ (List.getElem_mem hi); omega
  | succ i ih =>
   intro hi
   have := ih (by omega)
   have := (List.pairwise_iff_getElem.1 h) i (i + 1) (by omega) hi (by omega)
   omega
 rcases Nat.lt_or_ge 32 l.length with h' | h'
 ·have := key 32 h'
  have := h32 _ (List.getElem_mem h')
  omega
 ·exact h'
theorem MW.sm {m : Mg} (h : MW m) : m.Sm := by
 refine ⟨?_, fun x hx => ?_⟩
 ·have := qsk h.inc (by intro x hx; obtain ⟨e, he, rfl⟩ := List.mem_map.1 hx; exact (h.en e he).s1) (by intro x hx; obtain ⟨e, he, rfl⟩ := List.mem_map.1 hx; exact (h.en e he).s32)
  rw [List.length_map] at this
  omega
 ·have h1 := (h.en x hx).ml
  have h2 := (h.en x hx).ol
  have h6 := h.r6
  exact ⟨by omega, by omega⟩
theorem qem {m : Mg} {s : Int} (h : (qx m s).2 = true) : ∃ hk : (qx m s).1 < m.ents.length, m.ents[(qx m s).1].sess = s := by
 refine ⟨qsj h, ?_⟩
 unfold qx at h ⊢
 split at h
 ·rename_i h1
  simp only [h1, if_true] at h ⊢
  rw [zw (qk1 h1).2] at h
  simpa using h
 ·cases h
theorem qsl {m : Mg} {s : Int} (hm : MW m) (h : (qx m s).2 = false) : (∀ x ∈ m.ents.take (qx m s).1, x.sess < s) ∧ ∀ x ∈ m.ents.drop (qx m s).1, s < x.sess := by
 unfold qx at h ⊢
 split at h
 ·rename_i h1
  obtain ⟨_, h2⟩ := qk1 h1
  simp only [h1, if_true] at h ⊢
  rw [zw h2] at h
  have hge := List.findIdx_getElem (p := fun x : Ue => decide (x.sess ≥ s)) (xs := m.ents) (w := h2)
  simp only [decide_eq_true_eq] at hge
  simp only [beq_eq_false_iff_ne] at h
  refine ⟨fun x hx => ?_, fun x hx => ?_⟩
  ·obtain ⟨i, hi, rfl⟩ := List.getElem_of_mem hx
   have hi' : i < m.ents.findIdx (fun x => decide (x.sess ≥ s)) := by rw [List.length_take] at hi; omega
   have := List.not_of_lt_findIdx hi'
   simp at this
   simpa using this
  ·obtain ⟨i, hi, rfl⟩ := List.getElem_of_mem hx
   rw [List.getElem_drop]
   rw [List.length_drop] at hi
   rcases Nat.eq_zero_or_pos i with rfl | h0
   ·simp only [Nat.add_zero]; omega
   ·have := (List.pairwise_iff_getElem.1 hm.inc) (m.ents.findIdx (fun x => decide (x.sess ≥ s))) (m.ents.findIdx (fun x => decide (x.sess ≥ s)) + i) (by rw [List.length_map]; exact h2) (by rw [List.length_map]; omega) (by omega)
    simp only [List.getElem_map] at this
    omega
 ·rename_i h1
  simp only [h1] at h ⊢
  simp only [Bool.false_eq_true, if_false, List.take_length, List.drop_length]
  refine ⟨fun x hx => ?_, by simp⟩
  simp only [Bool.not_eq_true, List.any_eq_false, decide_eq_true_eq] at h1
  have := h1 x hx
  omega
theorem qhu {m : Mg} {s : Int} (hm : MW m) : (qx m s).2 = true ↔ ∃ x ∈ m.ents, x.sess = s := by
 constructor
 ·intro h
  obtain ⟨hk, hs⟩ := qem h
  exact ⟨_, List.getElem_mem hk, hs⟩
 ·rintro ⟨x, hx, hs⟩
  cases hf : (qx m s).2 with
  | true => rfl
  | false =>
   obtain ⟨h1, h2⟩ := qsl hm hf
   rw [← List.take_append_drop (qx m s).1 m.ents] at hx
   rcases List.mem_append.1 hx with hx | hx
   ·have := h1 x hx; omega
   ·have := h2 x hx; omega
theorem q9e {r s : Int} (h1 : 1 ≤ r) (h6 : r ≤ 6) (hs1 : 1 ≤ s) (hs2 : s ≤ 32) : EnOk r (newE r s) := by
 have hr : r = 1 ∨ r = 2 ∨ r = 3 ∨ r = 4 ∨ r = 5 ∨ r = 6 := by omega
 have hp : xn (newE r s) = 1 := by rcases hr with rfl | rfl | rfl | rfl | rfl | rfl <;> simp [xn, newE, hasB, List.replicate]
 exact ⟨hs1, hs2, by simp [newE]; omega, by simp [newE]; omega, by rw [hp]; rfl, by show (1 : Int) ≠ 0; decide⟩
theorem qu7 (m : Mg) (s : Int) (hm : MW m) (h1 : 1 ≤ s) (h32 : s ≤ 32) :
  ((qx m s).2 = true ∧ kr m s = (⟨0, []⟩, 9)) ∨ ((qx m s).2 = false ∧ ∃ a b, m.ents = a ++ b ∧ kr m s = (⟨m.roles, a ++ [newE m.roles s] ++ b⟩, 0) ∧ MW ⟨m.roles, a ++ [newE m.roles s] ++ b⟩) := by
 have hv := wk.2 hm
 have hs : (decide (s < 1) || decide (s > 32)) = false := by simp; omega
 cases hf : (qx m s).2 with
 | true => exact .inl ⟨rfl, by simp [kr, hv, hs, hf]⟩
 | false =>
  obtain ⟨f1, f2⟩ := qsl hm hf
  refine .inr ⟨rfl, _, _, (List.take_append_drop (qx m s).1 m.ents).symm, by simp [kr, hv, hs, hf], hm.r1, hm.r6, ?_, ?_⟩
  ·have hp := hm.inc
   rw [← List.take_append_drop (qx m s).1 m.ents, List.map_append, List.pairwise_append] at hp
   obtain ⟨p1, p2, p3⟩ := hp
   simp only [List.map_append, List.map_cons, List.map_nil, List.append_assoc, List.cons_append, List.nil_append]
   rw [List.pairwise_append, List.pairwise_cons]
   refine ⟨p1, ⟨fun y hy => ?_, p2⟩, fun y hy z hz => ?_⟩
   ·obtain ⟨e, he, rfl⟩ := List.mem_map.1 hy
    exact f2 e he
   ·obtain ⟨e, he, rfl⟩ := List.mem_map.1 hy
    rcases List.mem_cons.1 hz with rfl | hz
    ·exact f1 e he
    ·exact p3 _ hy _ hz
  ·intro x hx
   simp only [List.mem_append, List.mem_singleton] at hx
   rcases hx with (hx | hx) | hx
   ·exact hm.en x (List.mem_of_mem_take hx)
   ·subst hx; exact q9e hm.r1 hm.r6 h1 h32
   ·exact hm.en x (List.mem_of_mem_drop hx)
theorem qu8 {s r label : Int} (h1 : 1 ≤ s) (h2 : s ≤ 32) (h3 : 0 ≤ r) (h4 : r < 6) (h5 : label = 1 ∨ label = 2) : xl (zp s r label) = true := by
 rcases h5 with rfl | rfl <;> simp [xl, qkp, order, role, bare, zp, h1, h2, h3, h4]
theorem q2y {r : Int} {x : Ue} (hx : EnOk r x) (p : Pk) (h0 : xn (jb p x) ≠ 0) : EnOk r (vo (jb p x)) := by
 unfold jb at h0 ⊢
 split
 ·rename_i h; rw [if_pos h] at h0
  exact ⟨hx.s1, hx.s32, hx.ml, by simpa [vo] using hx.ol, rfl, h0⟩
 ·rename_i h; rw [if_neg h] at h0
  exact ⟨hx.s1, hx.s32, by simpa [vo] using hx.ml, hx.ol, rfl, h0⟩
theorem qfh (p : Pk) (x : Ue) : (vo (jb p x)).sess = x.sess := by unfold jb vo; split <;> rfl
theorem q9f {l : List Bool} : l.all idB = true ↔ ∀ b ∈ l, b = true := by simp [List.all_eq_true, idB]
theorem wl (x : Ue) : (xn x = 3 ∧ x.moved.all idB = true ∧ x.opened.all idB = true) ∨ (xn x = 2 ∧ x.moved.all idB = true ∧ x.opened.all idB = false) ∨
  (xn x = 0 ∧ x.moved.all idB = false ∧ x.opened.any idB = true) ∨ (xn x = 1 ∧ x.moved.all idB = false ∧ x.opened.any idB = false) := by
 simp only [xn, qhk, qr4]
 cases x.moved.all idB <;> cases x.opened.all idB <;> cases x.opened.any idB <;> simp
theorem qsm (m : Mg) (s r label : Int) (hm : MW m) (h1 : 1 ≤ s) (h32 : s ≤ 32) (h0 : 0 ≤ r) (hr : r < m.roles) (hl : label = 1 ∨ label = 2) :
  ((zf m (zp s r label)).2 ≠ 0) ∨ ∃ k, ∃ hk : k < m.ents.length, m.ents[k].sess = s ∧ (qx m s).1 = k ∧ (y4 (zp s r label) m.ents[k]).getD r.toNat false = false ∧ (label = 2 → m.ents[k].phase ≠ 1) ∧
   zf m (zp s r label) = (⟨m.roles, m.ents.set k (vo (jb (zp s r label) m.ents[k]))⟩, 0) ∧ EnOk m.roles (vo (jb (zp s r label) m.ents[k])) ∧ MW ⟨m.roles, m.ents.set k (vo (jb (zp s r label) m.ents[k]))⟩ := by
 have hv := wk.2 hm
 have hp := qu8 h1 h32 h0 (by have := hm.r6; omega) hl
 have hg : (!xx m || (zp s r label).kind != 4 || !xl (zp s r label) || decide ((zp s r label).from_ ≥ m.roles)) = false := by
  rw [hv, hp]; simp [zp]; omega
 cases hf : (qx m s).2 with
 | false =>
  refine .inl ?_
  have : (qx m (zp s r label).sess).2 = false := hf
  simp only [zf, hg, this]; simp
 | true =>
  obtain ⟨hk, hs⟩ := qem hf
  have hu : zf m (zp s r label) = (if (y4 (zp s r label) m.ents[(qx m s).1]).getD r.toNat false then (⟨0, []⟩, 21)
    else if label == 2 && m.ents[(qx m s).1].phase == 1 then (⟨0, []⟩, 7)
    else (⟨m.roles, m.ents.set (qx m s).1 (vo (jb (zp s r label) m.ents[(qx m s).1]))⟩, 0)) := by
   have e1 : (zp s r label).sess = s := rfl
   have e2 : (zp s r label).from_ = r := rfl
   have e3 : (zp s r label).label = label := rfl
   simp only [zf, hg]
   simp only [e1, e2, e3, hf, zw hk]; rfl
  rw [hu]
  by_cases c1 : (y4 (zp s r label) m.ents[(qx m s).1]).getD r.toNat false = true
  ·exact .inl (by rw [if_pos c1]; simp)
  ·rw [if_neg c1]
   by_cases c2 : (label == 2 && m.ents[(qx m s).1].phase == 1) = true
   ·exact .inl (by rw [if_pos c2]; simp)
   ·rw [if_neg c2]
    have hx := hm.en _ (List.getElem_mem hk)
    have hnew : EnOk m.roles (vo (jb (zp s r label) m.ents[(qx m s).1])) := by
     refine q2y hx _ ?_
     have hpc := wl m.ents[(qx m s).1]
     have hph := hx.ph
     have hp0 := hx.p0
     have hm6 := hm.r6
     have hrl : r.toNat < m.ents[(qx m s).1].moved.length := by have := hx.ml; omega
     intro hz
     rcases hl with rfl | rfl
     ·have hno : ¬ m.ents[(qx m s).1].moved.all idB = true := by
       intro ha
       have := q9f.1 ha _ (List.getElem_mem hrl)
       exact c1 (by simp [y4, zp, List.getD, hrl, this])
      rcases wl (jb (zp s r 1) m.ents[(qx m s).1]) with ⟨h, _⟩ | ⟨h, _⟩ | ⟨_, _, h⟩ | ⟨h, _⟩
      ·omega
      ·omega
      ·have h' : m.ents[(qx m s).1].opened.any idB = true := h
       rcases hpc with ⟨_, h, _⟩ | ⟨_, h, _⟩ | ⟨h, _⟩ | ⟨_, _, h⟩
       ·exact hno h
       ·exact hno h
       ·omega
       ·rw [h] at h'; cases h'
      ·omega
     ·have hne : m.ents[(qx m s).1].phase ≠ 1 := by simpa using c2
      rcases wl (jb (zp s r 2) m.ents[(qx m s).1]) with ⟨h, _⟩ | ⟨h, _⟩ | ⟨_, h, _⟩ | ⟨h, _⟩
      ·omega
      ·omega
      ·have h' : m.ents[(qx m s).1].moved.all idB = false := h
       rcases hpc with ⟨_, h, _⟩ | ⟨_, h, _⟩ | ⟨h, _⟩ | ⟨h, _⟩
       ·rw [h] at h'; cases h'
       ·rw [h] at h'; cases h'
       ·omega
       ·omega
      ·omega
    refine .inr ⟨_, hk, hs, rfl, by simpa using c1, fun hl2 => ?_, rfl, hnew, hm.r1, hm.r6, ?_, ?_⟩
    ·subst hl2; simpa using c2
    ·have : ((m.ents.set (qx m s).1 (vo (jb (zp s r label) m.ents[(qx m s).1]))).map Ue.sess) = m.ents.map Ue.sess := by
      rw [List.map_set, qfh]
      refine List.ext_getElem? fun i => ?_
      rw [List.getElem?_set]
      split
      ·rename_i h; subst h; simp [hk]
      ·rfl
     simp only [this]
     exact hm.inc
    ·intro x hx'
     rcases List.mem_or_eq_of_mem_set hx' with h | h
     ·exact hm.en x h
     ·subst h; exact hnew
end Go.Proofs.YtkcdbcbpbolgkaaGreatDoor
namespace Go.Proofs.YtkcdbcbpbolgkaaGreatDoor
open Go.Abs
set_option linter.unusedSimpArgs false
set_option linter.unusedVariables false
def bitN : List Bool → Nat
 | [] => 0
 | b :: l => b.toNat + 2 * bitN l
theorem qc1 : ∀ l : List Bool, bitN l < 2 ^ l.length
 | [] => by simp [bitN]
 | b :: l => by
  have := qc1 l
  have hb : b.toNat ≤ 1 := by cases b <;> decide
  rw [bitN, List.length_cons, Nat.pow_succ]; omega
def jm : Nat → Nat → List Bool
 | 0, _ => []
 | k + 1, n => (n % 2 == 1) :: jm k (n / 2)
theorem jj : ∀ k n, (jm k n).length = k
 | 0, _ => rfl
 | k + 1, n => by rw [jm, List.length_cons, jj k]
theorem qfi : ∀ l : List Bool, jm l.length (bitN l) = l
 | [] => rfl
 | b :: l => by
  rw [List.length_cons, jm, bitN]
  have h1 : (b.toNat + 2 * bitN l) / 2 = bitN l := by cases b <;> simp <;> omega
  have h2 : ((b.toNat + 2 * bitN l) % 2 == 1) = b := by cases b <;> simp <;> omega
  rw [h1, h2, qfi l]
theorem qnq : ∀ (k n i : Nat), i < k → (jm k n).getD i false = (n / 2 ^ i % 2 == 1)
 | k + 1, n, 0, _ => by simp [jm]
 | k + 1, n, i + 1, h => by
  rw [jm, List.getD_cons_succ, qnq k (n / 2) i (by omega), Nat.div_div_eq_div_mul, Nat.pow_succ, Nat.mul_comm]
def qbm (x : Ue) : List UInt8 := wInt x.phase ++ wInt (bitN x.moved) ++ wInt (bitN x.opened)
def uPfx : List UInt8 := [117, 47]
def uKey (s : Int) : List UInt8 := [117, 47, UInt8.ofNat (48 + s.toNat / 10), UInt8.ofNat (48 + s.toNat % 10)]
theorem qwr : ∀ a b : Fin 33, (uKey (a.val : Int) = uKey (b.val : Int) → a = b) ∧ (a < b → Op.bytesLess (uKey (a.val : Int)) (uKey (b.val : Int)) = true) := by decide +kernel
theorem qpi {a b : Int} (h1 : 0 ≤ a) (h2 : a ≤ 32) (h3 : 0 ≤ b) (h4 : b ≤ 32) (h : uKey a = uKey b) : a = b := by
 obtain ⟨m, rfl⟩ : ∃ m : Nat, a = m := ⟨a.toNat, by omega⟩
 obtain ⟨n, rfl⟩ : ∃ n : Nat, b = n := ⟨b.toNat, by omega⟩
 have := (qwr ⟨m, by omega⟩ ⟨n, by omega⟩).1 h
 simp at this
 omega
theorem q9g {a b : Int} (h1 : 0 ≤ a) (h4 : b ≤ 32) (h : a < b) : cmpB (uKey a) (uKey b) < 0 := by
 obtain ⟨m, rfl⟩ : ∃ m : Nat, a = m := ⟨a.toNat, by omega⟩
 obtain ⟨n, rfl⟩ : ∃ n : Nat, b = n := ⟨b.toNat, by omega⟩
 have := (qwr ⟨m, by omega⟩ ⟨n, by omega⟩).2 (by simp; omega)
 rw [qef] at this
 simpa using this
def ldN (roles : Int) : Int := 2 ^ roles.toNat - 1
def ldRd (roles : Int) (v : List UInt8) : (Int × Int × Int) × Rd :=
 ((( qdz ⟨v, 0, false⟩).1, (xd 0 (ldN roles) (qdz ⟨v, 0, false⟩).2).1, (xd 0 (ldN roles) (xd 0 (ldN roles) (qdz ⟨v, 0, false⟩).2).2).1),
  (xd 0 (ldN roles) (xd 0 (ldN roles) (qdz ⟨v, 0, false⟩).2).2).2)
def qpj (roles s : Int) (x : Int × Int × Int) : Ue := ⟨s, x.1, jm roles.toNat x.2.1.toNat, jm roles.toNat x.2.2.toNat⟩
def qsn (roles s : Int) (v : List UInt8) : Option Ue := if rEnd (ldRd roles v).2 = 0 then some (qpj roles s (ldRd roles v).1) else none
def qws (k : List UInt8) : Option Nat := (List.range 33).find? fun s => uKey (s : Nat) == k
def ldEn (roles : Int) (e : En) : Option Ue := match qws e.1 with
 | none => none
 | some s => qsn roles (s : Nat) e.2
def qi1 (roles : Int) : List En → Option (List Ue)
 | [] => some []
 | e :: l => match ldEn roles e with
  | none => none
  | some x => (qi1 roles l).map (x :: ·)
def ldMg (roles : Int) : Option (List Ue) → Mg × Int
 | none => (⟨0, []⟩, 4)
 | some l => if xx ⟨roles, l⟩ = true then (⟨roles, l⟩, 0) else (⟨0, []⟩, 4)
def qip (m : Cont) (roles : Int) : Mg × Int :=
 if (decide (roles < 1) || decide (roles > 6)) = true then (⟨0, []⟩, 2) else ldMg roles (qi1 roles (qc5 m uPfx))
theorem qnr {s : Int} (h1 : 0 ≤ s) (h2 : s ≤ 32) : qws (uKey s) = some s.toNat := by
 obtain ⟨n, rfl⟩ : ∃ n : Nat, s = n := ⟨s.toNat, by omega⟩
 unfold qws
 cases hf : (List.range 33).find? (fun s => uKey (s : Nat) == uKey (n : Int)) with
 | none =>
  rw [List.find?_eq_none] at hf
  exact absurd (beq_self_eq_true _) (hf n (by simp; omega))
 | some k =>
  have hk := List.find?_some hf
  have hm := List.mem_of_find?_eq_some hf
  simp only [beq_iff_eq] at hk
  simp only [List.mem_range] at hm
  have := qpi (a := (k : Int)) (b := (n : Int)) (by omega) (by omega) (by omega) (by omega) hk
  congr 1; omega
theorem xcv {r : Int} (h1 : 1 ≤ r) (h6 : r ≤ 6) : (2 : Nat) ^ r.toNat ≤ 64 := by
 have : r.toNat ≤ 6 := by omega
 exact Nat.le_trans (Nat.pow_le_pow_right (by decide) this) (by decide)
theorem qpk (r : Int) : ldN r = ((2 ^ r.toNat - 1 : Nat) : Int) := by
 unfold ldN
 have : 1 ≤ 2 ^ r.toNat := Nat.one_le_two_pow
 rw [Int.ofNat_sub this]; simp
theorem xbn {r : Int} (h1 : 1 ≤ r) (h6 : r ≤ 6) {l : List Bool} (hl : (l.length : Int) = r) (t : List UInt8) : zy 0 (ldN r) (wInt (bitN l) ++ t) = some ((bitN l : Int), t) := by
 have hb := qc1 l
 have h64 := xcv h1 h6
 have e : l.length = r.toNat := by omega
 rw [e] at hb
 rw [zy, qje (by unfold I64; omega)]
 simp only
 have : ¬ ((bitN l : Int) < 0 ∨ (bitN l : Int) > ldN r) := by rw [qpk]; omega
 simp [this]
theorem q2z {r : Int} (h1 : 1 ≤ r) (h6 : r ≤ 6) {x : Ue} (hx : EnOk r x) : qsn r x.sess (qbm x) = some x := by
 have hp : I64 x.phase := by
  rw [hx.ph]
  rcases wl x with h | h | h | h <;> rw [h.1] <;> unfold I64 <;> omega
 have hl : (qbm x).length ≤ 1000000000 := by
  have a := zx hp
  have hb := qc1 x.moved
  have hc := qc1 x.opened
  have h64 := xcv h1 h6
  have e1 : x.moved.length = r.toNat := by have := hx.ml; omega
  have e2 : x.opened.length = r.toNat := by have := hx.ol; omega
  rw [e1] at hb; rw [e2] at hc
  have b := zx (n := (bitN x.moved : Int)) (by unfold I64; omega)
  have c := zx (n := (bitN x.opened : Int)) (by unfold I64; omega)
  simp only [qbm, List.length_append]; omega
 have hr : (⟨qbm x, 0, false⟩ : Rd).Ok := ⟨hl, Nat.zero_le _⟩
 have e0 : qbm x = wInt x.phase ++ (wInt (bitN x.moved) ++ wInt (bitN x.opened)) := by rw [qbm, List.append_assoc]
 have b2 := xbn h1 h6 hx.ml (wInt (bitN x.opened))
 have b3 := xbn h1 h6 hx.ol []
 rw [List.append_nil] at b3
 generalize qbm x = v at hl hr e0 ⊢
 have d1 := qa3 qu2 hr rfl (v := x.phase) (l := wInt (bitN x.moved) ++ wInt (bitN x.opened)) (by simp only [List.drop_zero, e0]; exact qje hp _)
 have t1 := (qab (b := v) (p := 0) (q := wInt x.phase) (Nat.zero_le _) (by rw [List.drop_zero, e0])).1
 have d2 := qa3 (qbj 0 (ldN r)) (r := ⟨v, v.length - (wInt (bitN x.moved) ++ wInt (bitN x.opened)).length, false⟩) ⟨hl, Nat.sub_le _ _⟩ rfl (by simp only [t1]; exact b2)
 have t2 := (qab (b := v) (p := v.length - (wInt (bitN x.moved) ++ wInt (bitN x.opened)).length) (q := wInt (bitN x.moved)) (Nat.sub_le _ _) t1).1
 have d3 := qa3 (qbj 0 (ldN r)) (r := ⟨v, v.length - (wInt (bitN x.opened)).length, false⟩) ⟨hl, Nat.sub_le _ _⟩ rfl (by simp only [t2]; exact b3)
 simp only at d1 d2 d3
 have k1 : r.toNat = x.moved.length := by have := hx.ml; omega
 have k2 : r.toNat = x.opened.length := by have := hx.ol; omega
 have hrd : ldRd r v = ((x.phase, (bitN x.moved : Int), (bitN x.opened : Int)), ⟨v, v.length, false⟩) := by
  simp only [ldRd, d1, d2, d3, List.length_nil, Nat.sub_zero]
 have he : rEnd ⟨v, v.length, false⟩ = 0 := by simp [rEnd]
 simp only [qsn, hrd]
 rw [if_pos he]
 simp only [qpj, Int.toNat_natCast]
 congr 1
 have q1 : jm r.toNat (bitN x.moved) = x.moved := by rw [k1]; exact qfi _
 have q2 : jm r.toNat (bitN x.opened) = x.opened := by rw [k2]; exact qfi _
 rw [q1, q2]
theorem q6t {r : Int} (h1 : 1 ≤ r) (h6 : r ≤ 6) {x : Ue} (hx : EnOk r x) : ldEn r (uKey x.sess, qbm x) = some x := by
 have a := hx.s1
 have b := hx.s32
 have e : ((x.sess.toNat : Nat) : Int) = x.sess := by omega
 unfold ldEn
 simp only [qnr (s := x.sess) (by omega) b, e]
 exact q2z h1 h6 hx
theorem qso {r : Int} (h1 : 1 ≤ r) (h6 : r ≤ 6) : ∀ {l : List Ue}, (∀ x ∈ l, EnOk r x) → qi1 r (l.map fun x => (uKey x.sess, qbm x)) = some l
 | [], _ => rfl
 | x :: l, h => by
  rw [List.map_cons, qi1, q6t h1 h6 (h x List.mem_cons_self)]
  simp only [qso h1 h6 (fun y hy => h y (List.mem_cons_of_mem _ hy)), Option.map_some]
theorem qva {l : List Ue} (h : l.Pairwise fun a b => a.sess ≠ b.sess) {x y : Ue} (hx : x ∈ l) (hy : y ∈ l) (hxy : x ≠ y) : x.sess ≠ y.sess := by
 induction l with
 | nil => cases hx
 | cons a l ih =>
  obtain ⟨h1, h2⟩ := List.pairwise_cons.1 h
  rcases List.mem_cons.1 hx with hx | hx <;> rcases List.mem_cons.1 hy with hy | hy
  ·exact absurd (hx.trans hy.symm) hxy
  ·rw [hx]; exact h1 y hy
  ·rw [hy]; exact fun e => h1 x hx e.symm
  ·exact ih h2 hx hy
def URep (m : Cont) (g : Mg) : Prop := ∀ k, pre uPfx k = true → mGet k m = (g.ents.find? fun x => uKey x.sess == k).map qbm
theorem qsp {m : Cont} (hm : m.Ok) {g : Mg} (hg : MW g) (h : URep m g) : qc5 m uPfx = g.ents.map fun x => (uKey x.sess, qbm x) := by
 refine qeg (qdv hm _) ?_ fun e => ?_
 ·unfold Sorted
  rw [List.pairwise_map]
  have hp := hg.inc
  rw [List.pairwise_map] at hp
  refine hp.imp_of_mem fun {a b} ha hb hab => ?_
  have := (hg.en a ha).s1
  exact q9g (by omega) (hg.en b hb).s32 hab
 ·rw [qk5 hm, List.mem_map]
  constructor
  ·rintro ⟨h1, h2⟩
   rw [h _ h2, Option.map_eq_some_iff] at h1
   obtain ⟨x, hx, hv⟩ := h1
   have hk := List.find?_some hx
   exact ⟨x, List.mem_of_find?_eq_some hx, by rw [beq_iff_eq.1 hk, hv]⟩
  ·rintro ⟨x, hx, rfl⟩
   refine ⟨?_, rfl⟩
   rw [h _ rfl, Option.map_eq_some_iff]
   refine ⟨x, ?_, rfl⟩
   cases hf : g.ents.find? (fun y => uKey y.sess == uKey x.sess) with
   | none => rw [List.find?_eq_none] at hf; exact absurd (beq_self_eq_true _) (hf x hx)
   | some y =>
    have hk := List.find?_some hf
    have hy := List.mem_of_find?_eq_some hf
    have e1 := hg.en x hx
    have e2 := hg.en y hy
    have hs := qpi (by have := e2.s1; omega) e2.s32 (by have := e1.s1; omega) e1.s32 (beq_iff_eq.1 hk)
    have hn : g.ents.Pairwise fun a b => a.sess ≠ b.sess := by
     have hp := hg.inc
     rw [List.pairwise_map] at hp
     exact hp.imp fun h => by omega
    congr 1
    by_cases hxy : y = x
    ·exact hxy
    ·exact absurd hs (qva hn hy hx hxy)
theorem qy7 {m : Cont} (hm : m.Ok) {g : Mg} (hg : MW g) (h : URep m g) : qip m g.roles = (g, 0) := by
 have h1 := hg.r1
 have h6 := hg.r6
 unfold qip
 rw [if_neg (by simp; omega), qsp hm hg h, qso h1 h6 hg.en]
 have : xx ⟨g.roles, g.ents⟩ = true := wk.2 hg
 simp only [ldMg, this, if_true]
end Go.Proofs.YtkcdbcbpbolgkaaGreatDoor
namespace Go.Proofs.YtkcdbcbpbolgkaaGreatDoor
open Go.Abs
set_option linter.unusedSimpArgs false
set_option linter.unusedVariables false
def chOp (a : Mg) (x : Ue) : List OpS := if x ∈ a.ents then [] else [⟨uKey x.sess, false, qbm x⟩]
def qhv (a b : Mg) : List OpS := b.ents.flatMap (chOp a)
def wt (a b : Mg) : List OpS × Int :=
 if (!xx a || !xx b || a.roles != b.roles) = true then ([], 1) else if (a.ents.any fun x => !(qx b x.sess).2) = true then ([], 1) else (qhv a b, 0)
theorem qhw (k : List UInt8) : ∀ (l : List OpS) (a : Option (List UInt8)) (l' : List OpS), ws k a (l ++ l') = ws k (ws k a l) l'
 | [], _, _ => rfl
 | o :: l, a, l' => by rw [List.cons_append, ws, ws, qhw k l]
theorem q20 {a : Mg} {k : List UInt8} : ∀ {l : List Ue}, (∀ x ∈ l, uKey x.sess ≠ k) → ∀ g, ws k g (l.flatMap (chOp a)) = g
 | [], _, _ => rfl
 | x :: l, h, g => by
  have hx := h x List.mem_cons_self
  have : ws k g (chOp a x) = g := by
   unfold chOp; split
   ·rfl
   ·simp [ws, hx]
  rw [List.flatMap_cons, qhw, this, q20 (fun y hy => h y (List.mem_cons_of_mem _ hy))]
theorem q21 {a : Mg} {k : List UInt8} : ∀ {l : List Ue}, (l.map fun x => uKey x.sess).Nodup → ∀ g, ws k g (l.flatMap (chOp a)) = match l.find? (fun x => uKey x.sess == k) with
  | some x => if x ∈ a.ents then g else some (qbm x)
  | none => g
 | [], _, _ => rfl
 | x :: l, h, g => by
  rw [List.map_cons, List.nodup_cons] at h
  obtain ⟨h1, h2⟩ := h
  rw [List.flatMap_cons, qhw]
  by_cases hk : uKey x.sess = k
  ·have hn : ∀ y ∈ l, uKey y.sess ≠ k := fun y hy e => h1 (List.mem_map.2 ⟨y, hy, by rw [e, hk]⟩)
   rw [q20 hn]
   simp only [List.find?_cons, beq_iff_eq.2 hk]
   unfold chOp
   split
   ·rfl
   ·simp [ws, hk]
  ·have : ws k g (chOp a x) = g := by
    unfold chOp; split
    ·rfl
    ·simp [ws, hk]
   have hb : (uKey x.sess == k) = false := by simpa using hk
   rw [this, q21 h2]
   simp only [List.find?_cons, hb]
theorem qns {g : Mg} (hg : MW g) : (g.ents.map fun x => uKey x.sess).Nodup := by
 have hp := hg.inc
 rw [List.pairwise_map] at hp
 unfold List.Nodup
 rw [List.pairwise_map]
 refine hp.imp_of_mem fun {a b} ha hb hab h => ?_
 have e1 := hg.en a ha
 have e2 := hg.en b hb
 have := qpi (by have := e1.s1; omega) e1.s32 (by have := e2.s1; omega) e2.s32 h
 omega
theorem q6u {g : Mg} (hg : MW g) {x : Ue} (hx : x ∈ g.ents) : g.ents.find? (fun y => uKey y.sess == uKey x.sess) = some x := by
 have hn := qns hg
 generalize g.ents = l at hx hn ⊢
 induction l with
 | nil => cases hx
 | cons a l ih =>
  rw [List.map_cons, List.nodup_cons] at hn
  rcases List.mem_cons.1 hx with rfl | hx
  ·simp
  ·have : (uKey a.sess == uKey x.sess) = false := by
    rw [beq_eq_false_iff_ne]
    exact fun e => hn.1 (List.mem_map.2 ⟨x, hx, e.symm⟩)
   simp only [List.find?_cons, this]
   exact ih hx hn.2
theorem q22 {m m' : Cont} {a b : Mg} (ha : MW a) (hb : MW b) (hs : ∀ x ∈ a.ents, ∃ y ∈ b.ents, y.sess = x.sess) (hr : URep m a) (hg : ∀ k, mGet k m' = ws k (mGet k m) (qhv a b)) : URep m' b := by
 intro k hk
 rw [hg, qhv, q21 (qns hb), hr k hk]
 cases hf : b.ents.find? (fun x => uKey x.sess == k) with
 | some x =>
  have hkx := List.find?_some hf
  simp only [beq_iff_eq] at hkx
  simp only [Option.map_some]
  split
  ·rename_i hxa
   rw [← hkx, q6u ha hxa]; rfl
  ·rfl
 | none =>
  simp only [Option.map_none, Option.map_eq_none_iff]
  rw [List.find?_eq_none] at hf ⊢
  intro x hx h
  obtain ⟨y, hy, e⟩ := hs x hx
  exact hf y hy (by rw [e]; exact h)
theorem qnt {n : Nat} {s : Sto} (h : s.Ok n) (hm : s.m.l.length ≤ 390) {k v : List UInt8} (k1 : 1 ≤ k.length) (k4 : k.length ≤ 40) (hv : v.length ≤ 900) :
  (xg s [⟨k, false, v⟩]).2 = 0 ∧ (xg s [⟨k, false, v⟩]).1.Ok (n + 1) ∧ (xg s [⟨k, false, v⟩]).1.m.l.length ≤ s.m.l.length + 1 ∧ ∀ k', mGet k' (xg s [⟨k, false, v⟩]).1.m = ws k' (mGet k' s.m) [⟨k, false, v⟩] := by
 have hp : jw ⟨k, false, v⟩ = true := wy.2 ⟨k1, k4, hv, fun h => by cases h⟩
 have a1 := zx (n := (k.length : Int)) (jf (by omega))
 have a2 := zx (n := (v.length : Int)) (jf (by omega))
 have a3 := zx (n := (([⟨k, false, v⟩] : List OpS).length : Int)) (jf (by simp))
 have he : (qz [⟨k, false, v⟩]).2 = 0 := by
  unfold qz
  rw [if_neg (by simp [hp]), if_neg]
  simp only [Bool.or_eq_true, decide_eq_true_eq, not_or, wOps, wOp, qao, List.length_append, List.flatMap_cons, List.flatMap_nil, List.append_nil, List.length_cons, List.length_nil] at a3 ⊢
  omega
 have hy : (jn s.m [⟨k, false, v⟩]).2 = true ∧ (jn s.m [⟨k, false, v⟩]).1.l.length ≤ s.m.l.length + 1 := by
  have hl := q5u k v s.m
  rw [jn, if_neg (by simp), if_neg (by simp only; omega), jn]
  exact ⟨rfl, hl⟩
 have hc : xg s [⟨k, false, v⟩] = (⟨qdr s.file (qz [⟨k, false, v⟩]).1, s.synced, (jn s.m [⟨k, false, v⟩]).1⟩, 0) := by
  unfold xg
  rw [if_neg (by simp [he]), if_neg (by simp [hy.1])]
 have hok := qul h [⟨k, false, v⟩]
 rw [hc] at hok ⊢
 exact ⟨rfl, hok, hy.2, fun k' => qhg k' _ h.good.ok hy.1⟩
theorem qsq {r : Int} (h6 : r ≤ 6) {x : Ue} (hx : EnOk r x) : (qbm x).length ≤ 30 := by
 have h1 : 0 ≤ r := by have := hx.ml; omega
 have h64 : (2 : Nat) ^ r.toNat ≤ 64 := Nat.le_trans (Nat.pow_le_pow_right (by decide) (show r.toNat ≤ 6 by omega)) (by decide)
 have hp : I64 x.phase := by
  rw [hx.ph]
  rcases wl x with h | h | h | h <;> rw [h.1] <;> unfold I64 <;> omega
 have a := zx hp
 have hb := qc1 x.moved
 have hc := qc1 x.opened
 have e1 : x.moved.length = r.toNat := by have := hx.ml; omega
 have e2 : x.opened.length = r.toNat := by have := hx.ol; omega
 rw [e1] at hb; rw [e2] at hc
 have b := zx (n := (bitN x.moved : Int)) (by unfold I64; omega)
 have c := zx (n := (bitN x.opened : Int)) (by unfold I64; omega)
 simp only [qbm, List.length_append]; omega
theorem qsr {m : Mg} {r : Int} {a c : List Ue} {y : Ue} (ha : ∀ x ∈ a, x ∈ m.ents) (hc : ∀ x ∈ c, x ∈ m.ents) (hy : y ∉ m.ents) : qhv m ⟨r, a ++ y :: c⟩ = [⟨uKey y.sess, false, qbm y⟩] := by
 have hn : ∀ l : List Ue, (∀ x ∈ l, x ∈ m.ents) → l.flatMap (chOp m) = [] := fun l hl => by
  rw [List.flatMap_eq_nil_iff]
  intro x hx
  rw [chOp, if_pos (hl x hx)]
 unfold qhv
 simp only [List.flatMap_append, List.flatMap_cons, hn a ha, hn c hc, List.nil_append, List.append_nil]
 rw [chOp, if_neg hy]
structure OneStep (m b : Mg) : Prop where
 mw : MW b
 roles : b.roles = m.roles
 keep : ∀ x ∈ m.ents, ∃ y ∈ b.ents, y.sess = x.sess
 one : ∃ y ∈ b.ents, qhv m b = [⟨uKey y.sess, false, qbm y⟩]
theorem OneStep.changes {m b : Mg} (hm : MW m) (h : OneStep m b) : wt m b = (qhv m b, 0) := by
 have h1 : xx m = true := wk.2 hm
 have h2 : xx b = true := wk.2 h.mw
 unfold wt
 rw [if_neg (by simp [h1, h2, h.roles]), if_neg]
 simp only [List.any_eq_true, not_exists, not_and, Bool.not_eq_true', Bool.not_eq_false]
 intro x hx
 obtain ⟨y, hy, e⟩ := h.keep x hx
 exact (qhu h.mw).2 ⟨y, hy, e⟩
theorem q23 {m : Mg} {s : Int} (hm : MW m) (h : (kr m s).2 = 0) : OneStep m (kr m s).1 := by
 have hv := wk.2 hm
 have hs : 1 ≤ s ∧ s ≤ 32 := by
  unfold kr at h
  rw [hv] at h
  simp only [Bool.not_true, Bool.false_eq_true, if_false] at h
  split at h
  ·cases h
  ·rename_i hn
   simp at hn; omega
 rcases qu7 m s hm hs.1 hs.2 with ⟨_, e⟩ | ⟨hf, a, b, he, e, hw⟩
 ·rw [e] at h; cases h
 ·rw [e]
  refine ⟨hw, rfl, fun x hx => ?_, newE m.roles s, by simp, ?_⟩
  ·rw [he] at hx
   refine ⟨x, ?_, rfl⟩
   simp only [List.mem_append, List.mem_singleton]
   rcases List.mem_append.1 hx with h | h
   ·exact .inl (.inl h)
   ·exact .inr h
  ·have hy : newE m.roles s ∉ m.ents := fun h => by
    have := (qhu hm (s := s)).2 ⟨_, h, rfl⟩
    rw [hf] at this; cases this
   have := qsr (m := m) (r := m.roles) (a := a) (c := b) (fun x hx => by rw [he]; exact List.mem_append_left _ hx) (fun x hx => by rw [he]; exact List.mem_append_right _ hx) hy
   simpa [List.append_assoc] using this
theorem qnu {m : Mg} {s r label : Int} (hm : MW m) (hl : label = 1 ∨ label = 2) (h : (zf m (zp s r label)).2 = 0) : OneStep m (zf m (zp s r label)).1 := by
 have hv := wk.2 hm
 have hs : 1 ≤ s ∧ s ≤ 32 ∧ 0 ≤ r ∧ r < m.roles := by
  unfold zf at h
  split at h
  ·cases h
  ·rename_i hn
   rw [hv] at hn
   simp only [zp, xl, qkp, order, role, Bool.not_true, Bool.false_or, Bool.or_eq_true, bne_iff_ne, ne_eq, not_or, Bool.not_eq_true', decide_eq_true_eq] at hn
   simp at hn
   exact ⟨hn.1.1, of_decide_eq_true hn.1.2.1, hn.1.2.2.1, hn.2⟩
 obtain ⟨h1, h32, h0, hr⟩ := hs
 rcases qsm m s r label hm h1 h32 h0 hr hl with e | ⟨k, hk, hks, _, hb, _, e, he, hw⟩
 ·exact absurd h e
 ·rw [e]
  have hset : m.ents.set k (vo (jb (zp s r label) m.ents[k])) = m.ents.take k ++ vo (jb (zp s r label) m.ents[k]) :: m.ents.drop (k + 1) := by rw [List.set_eq_take_append_cons_drop, if_pos hk]
  refine ⟨hw, rfl, fun x hx => ?_, vo (jb (zp s r label) m.ents[k]), by rw [hset]; simp, ?_⟩
  ·obtain ⟨i, hi, rfl⟩ := List.getElem_of_mem hx
   by_cases hik : i = k
   ·subst hik
    exact ⟨_, List.mem_set hk _, qfh _ _⟩
   ·refine ⟨m.ents[i], ?_, rfl⟩
    have := List.getElem_set_ne (l := m.ents) (i := k) (j := i) (a := vo (jb (zp s r label) m.ents[k])) (Ne.symm hik) (by simpa using hi)
    rw [← this]; exact List.getElem_mem _
  ·rw [hset]
   refine qsr (fun x hx => List.mem_of_mem_take hx) (fun x hx => List.mem_of_mem_drop hx) fun hmem => ?_
   have hx := hm.en _ (List.getElem_mem hk)
   have hy := he
   have hn : m.ents.Pairwise fun a b => a.sess ≠ b.sess := by
    have hp := hm.inc
    rw [List.pairwise_map] at hp
    exact hp.imp fun h => by omega
   have hsame : vo (jb (zp s r label) m.ents[k]) = m.ents[k] := by
    by_cases hxy : vo (jb (zp s r label) m.ents[k]) = m.ents[k]
    ·exact hxy
    ·exact absurd (qfh _ _) (qva hn hmem (List.getElem_mem hk) hxy)
   have hrl : r.toNat < m.ents[k].moved.length := by have := hx.ml; omega
   have hrl2 : r.toNat < m.ents[k].opened.length := by have := hx.ol; omega
   rcases hl with rfl | rfl
   ·have e1 := congrArg Ue.moved hsame
    simp only [vo, jb, zp] at e1
    simp only [y4, zp] at hb
    have := congrArg (fun l => l.getD r.toNat false) e1
    simp [List.getD, hrl] at this hb
    rw [this] at hb; cases hb
   ·have e1 := congrArg Ue.opened hsame
    simp only [vo, jb, zp] at e1
    simp only [y4, zp] at hb
    have := congrArg (fun l => l.getD r.toNat false) e1
    simp [List.getD, hrl2] at this hb
    rw [this] at hb; cases hb
end Go.Proofs.YtkcdbcbpbolgkaaGreatDoor
namespace Go.Proofs.YtkcdbcbpbolgkaaGreatDoor
open Go.Abs
set_option linter.unusedSimpArgs false
set_option linter.unusedVariables false
noncomputable section
set_option maxRecDepth 100000
set_option linter.defProp false
def d316 := cut Tryz.prog Tryz.f316 news
@[go_sem] def E316 := qq d316
def F316 := fnC d316 follows Tryz.func316
def d271 := cut Tryz.prog Tryz.f271 news
@[go_sem] def E271 := qq d271
def F271 := fnC d271 follows Tryz.func271
def d228 := cut Tryz.prog Tryz.f228 news
@[go_sem] def E228 := qq d228
def F228 := fnC d228 follows Tryz.func228
def d146 := cut Tryz.prog Tryz.f146 news
@[go_sem] def E146 := qq d146
def F146 := fnC d146 follows Tryz.func146
def d148 := cut Tryz.prog Tryz.f148 news
@[go_sem] def E148 := qq d148
def F148 := fnC d148 follows Tryz.func148
def d80 := cut Tryz.prog Tryz.f80 news
@[go_sem] def E80 := qq d80
def F80 := fnC d80 follows Tryz.func80
def d79 := cut Tryz.prog Tryz.f79 news
@[go_sem] def E79 := qq d79
def F79 := fnC d79 follows Tryz.func79
def d25 := cut Tryz.prog Tryz.f25 news
@[go_sem] def E25 := qq d25
def F25 := fnC d25 follows Tryz.func25
end
theorem q6v : ∀ n : Fin 10, (([48, 49, 50, 51, 52, 53, 54, 55, 56, 57, 97, 98, 99, 100, 101, 102, 103, 104, 105, 106, 107, 108, 109, 110, 111, 112, 113, 114, 115, 116, 117, 118, 119, 120, 121, 122] : List UInt8).drop n.val).take 1 = [UInt8.ofNat (48 + n.val)] := by decide
theorem qwt (n : Nat) (hn : n < 10) : qh Tryz.prog 316 [.d (.int .i64 (n : Nat))] [] (.d (.str [UInt8.ofNat (48 + n)])) [] := by
 have h1 : decide (((n : Nat) : Int) < 10) = true := by simp; omega
 have h2 := q6v ⟨n, hn⟩
 simp only at h2
 have h3 : IntKind.i64.wrap ((n : Int) + 1) = ((n + 1 : Nat) : Int) := qg (show n < 9223372036854775807 by omega)
 have h4 : n + 1 - n = 1 := by omega
 refine F316.go ?_
 try (refine ev1 @h1 ?_; try exact True.intro)
 (repeat (with_reducible refine ob ?_)); refine qdm ?_
 try (refine ev4 @h3 @Int.toNat_natCast @h4 @h2 ?_; try exact True.intro)
 omega
theorem qiq (n : Nat) (hn : n < 10) : qh Tryz.prog 271 [.d (.int .i64 (n : Nat)), .d (.int .i64 10)] [] (.d (.str [UInt8.ofNat (48 + n)])) [] := by
 have h1 : decide ((0 : Int) ≤ ((n : Nat) : Int)) = true := by simp
 have h2 : decide (((n : Nat) : Int) < 100) = true := by simp; omega
 refine F271.go ?_
 try (refine ev ?_; try exact True.intro)
 (repeat (with_reducible refine ob ?_)); refine qdm ?_
 try (refine ev2 @h1 @h2 ?_; try exact True.intro)
 (repeat (with_reducible refine ob ?_)); refine qdm ?_
 try (refine ev ?_; try exact True.intro)
 (repeat (with_reducible refine ob ?_)); first | refine cl F316 (qwt n hn) ?_ | refine clF F316 (qwt n hn) (fun _ => by (refine ev3 @qe.eq_1 @ql.eq_1 @qp.eq_1 ?_; try exact True.intro)) ?_
 try (refine ev ?_; try exact True.intro)
theorem qwu (n : Nat) (hn : n < 10) : qh Tryz.prog 228 [.d (.int .i64 (n : Nat))] [] (.d (.str [UInt8.ofNat (48 + n)])) [] := by
 refine F228.go ?_
 try (refine ev ?_; try exact True.intro)
 (repeat (with_reducible refine ob ?_)); first | refine cl F271 (qiq n hn) ?_ | refine clF F271 (qiq n hn) (fun _ => by (refine ev3 @qe.eq_1 @ql.eq_1 @qp.eq_1 ?_; try exact True.intro)) ?_
 try (refine ev ?_; try exact True.intro)
theorem qpl (n : Nat) (hn : n < 10) : qh Tryz.prog 146 [.d (.int .i64 (n : Nat))] [] (.d (.str [UInt8.ofNat (48 + n)])) [] := by
 refine F146.go ?_
 try (refine ev ?_; try exact True.intro)
 (repeat (with_reducible refine ob ?_)); first | refine cl F228 (qwu n hn) ?_ | refine clF F228 (qwu n hn) (fun _ => by (refine ev3 @qe.eq_1 @ql.eq_1 @qp.eq_1 ?_; try exact True.intro)) ?_
 try (refine ev ?_; try exact True.intro)
theorem qli (s : Int) (h1 : 0 ≤ s) (h2 : s ≤ 99) : qh Tryz.prog 79 [.d (.int .i64 s)] [] (.d (.str (uKey s))) [] := by
 obtain ⟨n, rfl⟩ : ∃ n : Nat, s = n := ⟨s.toNat, by omega⟩
 have e1 : IntKind.i64.wrap ((n : Int).tdiv 10) = ((n / 10 : Nat) : Int) := by
  rw [Int.tdiv_eq_ediv_of_nonneg (by omega), zn (by unfold I64; omega)]; omega
 have e2 : ((n : Int)).tmod 10 = ((n % 10 : Nat) : Int) := by rw [Int.tmod_eq_emod_of_nonneg (by omega)]; omega
 refine F79.go ?_
 try (refine ev2 @e1 @e2 ?_; try exact True.intro)
 (repeat (with_reducible refine ob ?_)); first | refine cl F146 (qpl (n / 10) (by omega)) ?_ | refine clF F146 (qpl (n / 10) (by omega)) (fun _ => by (refine ev3 @qe.eq_1 @ql.eq_1 @qp.eq_1 ?_; try exact True.intro)) ?_
 try (refine ev ?_; try exact True.intro)
 (repeat (with_reducible refine ob ?_)); first | refine cl F146 (qpl (n % 10) (by omega)) ?_ | refine clF F146 (qpl (n % 10) (by omega)) (fun _ => by (refine ev3 @qe.eq_1 @ql.eq_1 @qp.eq_1 ?_; try exact True.intro)) ?_
 try (refine ev3 @uKey.eq_1 @Int.toNat_natCast @List.append_assoc.{0} ?_; try exact True.intro)
def q24 (l : List Bool) (i : { i : Nat // i ≤ l.length }) : St :=
 ⟨[(3, true, .d (.int .i64 (bitN (l.take i.val) : Nat))), (6, true, .d (.sl 1 (l.map encB))), (7, true, .d (.int .i64 l.length)), (8, true, .d (.int .i64 (i.val : Nat)))], [], [], 1⟩
theorem qss : ∀ (l : List Bool) (b : Bool), bitN (l ++ [b]) = bitN l + b.toNat * 2 ^ l.length
 | [], b => by simp [bitN]
 | c :: l, b => by
  rw [List.cons_append, bitN, qss l b, bitN, List.length_cons, Nat.pow_succ, Nat.mul_add, ← Nat.mul_assoc, Nat.mul_comm 2 b.toNat, Nat.mul_assoc, Nat.mul_comm 2 (2 ^ l.length)]
  omega
theorem xbo {u i : Nat} (hu : u < 2 ^ i) (hi : i ≤ 60) : IntKind.i64.wrap (bvOr 64 (u : Int) (IntKind.i64.wrap (1 * 2 ^ (min i 64)))) = ((u + 2 ^ i : Nat) : Int) := by
 have hp : (2 : Nat) ^ i ≤ 2 ^ 60 := Nat.pow_le_pow_right (by decide) hi
 have e1 : min i 64 = i := by omega
 have e2 : (1 : Int) * 2 ^ i = ((2 ^ i : Nat) : Int) := by simp
 rw [e1, e2, zn (n := ((2 ^ i : Nat) : Int)) (by unfold I64; omega)]
 have e3 : bvOr 64 (u : Int) ((2 ^ i : Nat) : Int) = ((u ||| 2 ^ i : Nat) : Int) := by
  unfold bvOr
  rw [BitVec.toNat_or, BitVec.ofInt_natCast, BitVec.ofInt_natCast, BitVec.toNat_ofNat, BitVec.toNat_ofNat, Nat.mod_eq_of_lt (by omega), Nat.mod_eq_of_lt (by omega)]
 have e4 := quy u 1 i hu
 rw [Nat.one_mul] at e4
 rw [e3, e4, zn (by unfold I64; omega)]
theorem qpm (l : List Bool) (hl : l.length ≤ 60) : qh Tryz.prog 148 [.d (.sl 1 (l.map encB))] [] (.d (.int .i64 (bitN l : Nat))) [] := by
 refine F148.go ?_
 try (refine ev ?_; try exact True.intro)
 refine qn (q24 l) (fun i => l.length - i.val) ⟨0, Nat.zero_le _⟩ ?_ (fun i => ?_)
 ·try simp only [q24, List.take_zero, bitN, Int.ofNat_zero, go_sem, Nat.reduceAdd, Nat.reduceMul, Nat.reduceSub, Nat.reduceEqDiff, Nat.reduceLT, Nat.reduceLeDiff, Nat.reduceBEq, reduceIte, reduceCtorEq, Int.reduceAdd, Int.reduceLT, Int.reduceLE, Int.reduceGT, Int.reduceGE, Int.reduceEq, Int.reduceNe, Int.reduceBEq, Int.reduceBNe, Int.reduceToNat, Int.reduceNeg]
 obtain ⟨i, hi⟩ := i
 try (refine ev1 @q24.eq_1 ?_; try exact True.intro)
 (repeat (with_reducible refine ob ?_)); refine x5 _ (fun h => ?_) (fun h => ?_)
 ·have hil : i < l.length := by simpa using h
  have hw := qg (show i < 9223372036854775807 by omega)
  have hlen : (l.take i).length = i := by rw [List.length_take]; omega
  have hsn : bitN (l.take (i + 1)) = bitN (l.take i) + (l[i]).toNat * 2 ^ i := by
   rw [← List.take_append_getElem hil, qss, hlen]
  have hlt := qc1 (l.take i)
  rw [hlen] at hlt
  (refine ev2 (qj encB l hil) @encB.eq_1 ?_; try exact True.intro)
  (repeat (with_reducible refine ob ?_))
  refine x5 _ (fun h2 => ?_) (fun h2 => ?_)
  ·have ho := xbo hlt (show i ≤ 60 by omega)
   rw [h2, Bool.toNat_true, Nat.one_mul] at hsn
   rw [← hsn] at ho
   try (refine ev2 @Int.toNat_natCast @ho ?_; try exact True.intro)
   (repeat (with_reducible refine ob ?_))
   refine ⟨⟨i + 1, hil⟩, ?_, by dsimp only; omega⟩
   try (refine ev2 @q24.eq_1 @hw ?_; try exact True.intro)
  ·rw [h2, Bool.toNat_false, Nat.zero_mul, Nat.add_zero] at hsn
   try (refine ev ?_; try exact True.intro)
   refine ⟨⟨i + 1, hil⟩, ?_, by dsimp only; omega⟩
   try (refine ev3 @q24.eq_1 @hw @hsn ?_; try exact True.intro)
 ·have hil : l.length ≤ i := by simpa using h
  try (refine ev1 (List.take_of_length_le hil) ?_; try exact True.intro)
theorem q6w (x : Ue) (hp : I64 x.phase) (h1 : x.moved.length ≤ 60) (h2 : x.opened.length ≤ 60) : qh Tryz.prog 80 [.d (.agg (qe x))] [] (.d (.sl 1 (qc (qbm x)))) [] := by
 have p1 : (2 : Nat) ^ x.moved.length ≤ 2 ^ 60 := Nat.pow_le_pow_right (by decide) h1
 have p2 : (2 : Nat) ^ x.opened.length ≤ 2 ^ 60 := Nat.pow_le_pow_right (by decide) h2
 have q1 := qc1 x.moved
 have q2 := qc1 x.opened
 have i1 : I64 (bitN x.moved : Nat) := by unfold I64; omega
 have i2 : I64 (bitN x.opened : Nat) := by unfold I64; omega
 have a1 := zx hp
 have a2 := zx i1
 refine F80.go ?_
 try (refine ev1 @qe.eq_1 ?_; try exact True.intro)
 refine clA F147 (qa0 [] x.phase (by simp) hp) ?_
 try (refine ev ?_; try exact True.intro)
 (repeat (with_reducible refine ob ?_)); first | refine cl F148 (qpm x.moved h1) ?_ | refine clF F148 (qpm x.moved h1) (fun _ => by (refine ev3 @qe.eq_1 @ql.eq_1 @qp.eq_1 ?_; try exact True.intro)) ?_
 try (refine ev ?_; try exact True.intro)
 refine clA F147 (qa0 ([] ++ wInt x.phase) _ (by rw [List.nil_append]; omega) i1) ?_
 try (refine ev ?_; try exact True.intro)
 (repeat (with_reducible refine ob ?_)); first | refine cl F148 (qpm x.opened h2) ?_ | refine clF F148 (qpm x.opened h2) (fun _ => by (refine ev3 @qe.eq_1 @ql.eq_1 @qp.eq_1 ?_; try exact True.intro)) ?_
 try (refine ev ?_; try exact True.intro)
 refine clA F147 (qa0 ([] ++ wInt x.phase ++ wInt (bitN x.moved : Nat)) _ (by rw [List.nil_append, List.length_append]; omega) i2) ?_
 try simp only [qbm, List.nil_append, go_sem, Nat.reduceAdd, Nat.reduceMul, Nat.reduceSub, Nat.reduceEqDiff, Nat.reduceLT, Nat.reduceLeDiff, Nat.reduceBEq, reduceIte, reduceCtorEq, Int.reduceAdd, Int.reduceLT, Int.reduceLE, Int.reduceGT, Int.reduceGE, Int.reduceEq, Int.reduceNe, Int.reduceBEq, Int.reduceBNe, Int.reduceToNat, Int.reduceNeg]
theorem q6x {a : Mg} (ha : MW a) (x : Ue) : ((qx a x.sess).2 && decide (x = a.ents.getD (qx a x.sess).1 default)) = decide (x ∈ a.ents) := by
 cases hf : (qx a x.sess).2 with
 | false =>
  have : x ∉ a.ents := fun h => by
   have := (qhu ha (s := x.sess)).2 ⟨x, h, rfl⟩
   rw [hf] at this; cases this
  simp [this]
 | true =>
  obtain ⟨hk, hs⟩ := qem hf
  rw [Bool.true_and, zw hk, decide_eq_decide]
  constructor
  ·intro h; rw [h]; exact List.getElem_mem hk
  ·intro h
   have hn : a.ents.Pairwise fun a b => a.sess ≠ b.sess := by
    have hp := ha.inc
    rw [List.pairwise_map] at hp
    exact hp.imp fun h => by omega
   by_cases hxy : x = a.ents[(qx a x.sess).1]
   ·exact hxy
   ·exact absurd hs.symm (qva hn h (List.getElem_mem hk) hxy)
def Sch1 (a b : Mg) (i : { i : Nat // qbc (fun i => (qx b (a.ents.getD i default).sess).2) i = true }) : St :=
 ⟨[(2, true, .d (.ptr 0 0)), (3, true, .d (.ptr 1 0)), (31, true, .d (.sl 4 (a.ents.map qe))), (32, true, .d (.int .i64 a.ents.length)), (33, true, .d (.int .i64 (i.val : Nat)))], [xf a, xf b], [], 1⟩
def Sch2 (a b : Mg) (i : { i : Nat // i ≤ b.ents.length }) : St :=
 ⟨[(2, true, .d (.ptr 0 0)), (3, true, .d (.ptr 1 0)), (10, true, .own 0 3 (((b.ents.take i.val).flatMap (chOp a)).map qp)), (48, true, .d (.sl 4 (b.ents.map qe))), (49, true, .d (.int .i64 b.ents.length)), (50, true, .d (.int .i64 (i.val : Nat)))], [xf a, xf b], [0], 1⟩
theorem q25 {a b : Mg} : (a.ents.any fun x => !(qx b x.sess).2) = !qbc (fun i => (qx b (a.ents.getD i default).sess).2) a.ents.length := by
 rw [Bool.eq_iff_iff]
 simp only [List.any_eq_true, Bool.not_eq_true', ← Bool.not_eq_true, zm, Classical.not_forall]
 constructor
 ·rintro ⟨x, hx, h⟩
  obtain ⟨i, hi, rfl⟩ := List.getElem_of_mem hx
  exact ⟨i, hi, by rw [zw hi]; exact h⟩
 ·rintro ⟨i, hi, h⟩
  exact ⟨a.ents[i], List.getElem_mem hi, by rw [zw hi] at h; exact h⟩
theorem xbp (a : Mg) (l : List Ue) : (l.flatMap (chOp a)).length ≤ l.length := by
 induction l with
 | nil => simp
 | cons x l ih =>
  have : (chOp a x).length ≤ 1 := by unfold chOp; split <;> simp
  rw [List.flatMap_cons, List.length_append, List.length_cons]; omega
set_option maxRecDepth 10000 in
theorem qy8 (a b : Mg) (ha : a.Sm) (hb : b.Sm) : qh Tryz.prog 25 [.d (.agg (ql a)), .d (.agg (ql b))] [] (.tup [.d (.sl 3 ((wt a b).1.map qp)), .d (.int .i64 (wt a b).2)]) [] := by
 have hal := ha.1
 have hbl := hb.1
 refine F25.goT ?_
 try (refine ev1 @ql.eq_1 ?_; try exact True.intro)
 (repeat (with_reducible refine ob ?_)); first | refine cl F69 (ki a ha) ?_ | refine clF F69 (ki a ha) (fun _ => by (refine ev3 @qe.eq_1 @ql.eq_1 @qp.eq_1 ?_; try exact True.intro)) ?_
 try (refine ev ?_; try exact True.intro)
 (repeat (with_reducible refine ob ?_)); first | refine cl F69 (ki b hb) ?_ | refine clF F69 (ki b hb) (fun _ => by (refine ev3 @qe.eq_1 @ql.eq_1 @qp.eq_1 ?_; try exact True.intro)) ?_
 try (refine ev ?_; try exact True.intro)
 (repeat (with_reducible refine ob ?_))
 (repeat (with_reducible refine ob ?_)); refine x5 _ (fun h => ?_) (fun h => ?_)
 ·have hx : wt a b = ([], 1) := by unfold wt; rw [if_pos h]
  try (refine ev2 @hx @List.map_nil.{0,0} ?_; try exact True.intro)
 have h0 := h
 simp only [Bool.or_eq_false_iff, Bool.not_eq_false', bne_eq_false_iff_eq] at h
 obtain ⟨⟨va, vb⟩, hr⟩ := h
 have wa := wk.1 va
 have wb := wk.1 vb
 try (refine ev ?_; try exact True.intro)
 refine qn (Sch1 a b) (fun i => a.ents.length - i.val) ⟨0, rfl⟩ ?_ (fun i => ?_)
 ·try (refine ev3 @Sch1.eq_1 @xf.eq_1 @Int.ofNat_zero ?_; try exact True.intro)
 obtain ⟨i, hi⟩ := i
 try (refine ev2 @Sch1.eq_1 @xf.eq_1 ?_; try exact True.intro)
 (repeat (with_reducible refine ob ?_)); refine x5 _ (fun h => ?_) (fun h => ?_)
 ·have hil : i < a.ents.length := by simpa using h
  have k := qcb b (a.ents[i]).sess hb
  simp only [ql] at k
  (refine ev2 (qj qe a.ents hil) @qe.eq_1 ?_; try exact True.intro)
  (repeat (with_reducible refine ob ?_))
  (repeat (with_reducible refine ob ?_)); first | refine cl F77 (k) ?_ | refine clF F77 (k) (fun _ => by (refine ev3 @qe.eq_1 @ql.eq_1 @qp.eq_1 ?_; try exact True.intro)) ?_
  try (refine ev ?_; try exact True.intro)
  refine x5 _ (fun h2 => ?_) (fun h2 => ?_)
  ·have hg : (fun i => (qx b (a.ents.getD i default).sess).2) i = false := by simp only [zw hil]; simpa using h2
   have hx : wt a b = ([], 1) := by
    unfold wt
    rw [if_neg (by rw [h0]; simp), if_pos]
    rw [q25, qd9 hil hg]; rfl
   try (refine ev2 @hx @List.map_nil.{0,0} ?_; try exact True.intro)
  ·try (refine ev ?_; try exact True.intro)
   refine ⟨⟨i + 1, w4 hi (by simp only [zw hil]; simpa using h2)⟩, ?_, by dsimp only; omega⟩
   try (refine ev3 @Sch1.eq_1 @xf.eq_1 (qg (show i < 9223372036854775807 by omega)) ?_; try exact True.intro)
 have hil : a.ents.length ≤ i := by simpa using h
 have hall : qbc (fun i => (qx b (a.ents.getD i default).sess).2) a.ents.length = true := zm.2 fun j hj => zm.1 hi j (by omega)
 have hx : wt a b = (qhv a b, 0) := by
  unfold wt
  rw [if_neg (by rw [h0]; simp), if_neg]
  rw [q25, hall]; simp
 rw [hx]
 try (refine ev ?_; try exact True.intro)
 refine qn (Sch2 a b) (fun i => b.ents.length - i.val) ⟨0, Nat.zero_le _⟩ ?_ (fun i => ?_)
 ·try (refine ev6 @Sch2.eq_1 @xf.eq_1 @Int.ofNat_zero @List.take_zero.{0} @List.flatMap_nil.{0,0} @List.map_nil.{0,0} ?_; try exact True.intro)
 obtain ⟨j, hj⟩ := i
 try (refine ev2 @Sch2.eq_1 @xf.eq_1 ?_; try exact True.intro)
 (repeat (with_reducible refine ob ?_)); refine x5 _ (fun h => ?_) (fun h => ?_)
 ·have hjl : j < b.ents.length := by simpa using h
  have hxs := hb.2 _ (List.getElem_mem hjl)
  have hxe := wb.en _ (List.getElem_mem hjl)
  have kf := qcb a (b.ents[j]).sess ha
  have hph : I64 (b.ents[j]).phase := by
   rw [hxe.ph]
   rcases wl b.ents[j] with h | h | h | h <;> rw [h.1] <;> unfold I64 <;> omega
  have kv := q6w b.ents[j] hph (by have := hxe.ml; have := wb.r6; omega) (by have := hxe.ol; have := wb.r6; omega)
  simp only [qe] at kv
  have hlen := xbp a (b.ents.take j)
  rw [List.length_take] at hlen
  have hsnoc : (b.ents.take (j + 1)).flatMap (chOp a) = (b.ents.take j).flatMap (chOp a) ++ chOp a b.ents[j] := by
   rw [← List.take_append_getElem hjl, List.flatMap_append]; simp
  have hsame := q6x wa b.ents[j]
  have hw := qg (show j < 9223372036854775807 by omega)
  simp only [ql] at kf
  (refine ev2 (qj qe b.ents hjl) @qe.eq_1 ?_; try exact True.intro)
  (repeat (with_reducible refine ob ?_))
  (repeat (with_reducible refine ob ?_)); first | refine cl F77 (kf) ?_ | refine clF F77 (kf) (fun _ => by (refine ev3 @qe.eq_1 @ql.eq_1 @qp.eq_1 ?_; try exact True.intro)) ?_
  try (refine ev ?_; try exact True.intro)
  cases hf : (qx a (b.ents[j]).sess).2 with
  | false =>
   rw [hf, Bool.false_and] at hsame
   have hc : chOp a b.ents[j] = [⟨uKey b.ents[j].sess, false, qbm b.ents[j]⟩] := by unfold chOp; rw [if_neg (of_decide_eq_false hsame.symm)]
   try (refine ev1 @hf ?_; try exact True.intro)
   (repeat (with_reducible refine ob ?_)); refine xcf ?_
   try (refine ev ?_; try exact True.intro)
   (repeat (with_reducible refine ob ?_)); refine no_ ?_
   try (refine ev ?_; try exact True.intro)
   (repeat (with_reducible refine ob ?_)); first | refine cl F79 (qli (b.ents[j]).sess (by have := hxe.s1; omega) (by have := hxe.s32; omega)) ?_ | refine clF F79 (qli (b.ents[j]).sess (by have := hxe.s1; omega) (by have := hxe.s32; omega)) (fun _ => by (refine ev3 @qe.eq_1 @ql.eq_1 @qp.eq_1 ?_; try exact True.intro)) ?_
   try (refine ev ?_; try exact True.intro)
   (repeat (with_reducible refine ob ?_)); first | refine cl F80 (kv) ?_ | refine clF F80 (kv) (fun _ => by (refine ev3 @qe.eq_1 @ql.eq_1 @qp.eq_1 ?_; try exact True.intro)) ?_
   try (refine ev ?_; try exact True.intro)
   (repeat (with_reducible refine ob ?_))
   refine ⟨⟨j + 1, hjl⟩, ?_, by dsimp only; omega⟩
   try simp only [Sch2, xf, hsnoc, hc, List.map_append, List.map_cons, List.map_nil, qp, hw, go_sem, Nat.reduceAdd, Nat.reduceMul, Nat.reduceSub, Nat.reduceEqDiff, Nat.reduceLT, Nat.reduceLeDiff, Nat.reduceBEq, reduceIte, reduceCtorEq, Int.reduceAdd, Int.reduceLT, Int.reduceLE, Int.reduceGT, Int.reduceGE, Int.reduceEq, Int.reduceNe, Int.reduceBEq, Int.reduceBNe, Int.reduceToNat, Int.reduceNeg]
  | true =>
   obtain ⟨hk, _⟩ := qem hf
   rw [hf, Bool.true_and, zw hk] at hsame
   generalize (qx a (b.ents[j]).sess).1 = k at hk hsame ⊢
   have hys := ha.2 _ (List.getElem_mem hk)
   have kq := qhh b.ents[j] a.ents[k] hxs
   simp only [qe] at kq
   try (refine ev2 @hf @Int.toNat_natCast ?_; try exact True.intro)
   (refine ev2 (qj qe a.ents hk) @qe.eq_1 ?_; try exact True.intro)
   (repeat (with_reducible refine ob ?_))
   (repeat (with_reducible refine ob ?_)); first | refine cl F78 (kq) ?_ | refine clF F78 (kq) (fun _ => by (refine ev3 @qe.eq_1 @ql.eq_1 @qp.eq_1 ?_; try exact True.intro)) ?_
   try (refine ev ?_; try exact True.intro)
   refine x5 _ (fun h2 => ?_) (fun h2 => ?_)
   ·have hc : chOp a b.ents[j] = [] := by unfold chOp; rw [if_pos (of_decide_eq_true (hsame.symm.trans h2))]
    try (refine ev ?_; try exact True.intro)
    refine ⟨⟨j + 1, hjl⟩, ?_, by dsimp only; omega⟩
    try (refine ev6 @Sch2.eq_1 @xf.eq_1 @hsnoc @hc @List.append_nil.{0} @hw ?_; try exact True.intro)
   ·have hc : chOp a b.ents[j] = [⟨uKey b.ents[j].sess, false, qbm b.ents[j]⟩] := by unfold chOp; rw [if_neg (of_decide_eq_false (hsame.symm.trans h2))]
    try (refine ev ?_; try exact True.intro)
    (repeat (with_reducible refine ob ?_)); first | refine cl F79 (qli (b.ents[j]).sess (by have := hxe.s1; omega) (by have := hxe.s32; omega)) ?_ | refine clF F79 (qli (b.ents[j]).sess (by have := hxe.s1; omega) (by have := hxe.s32; omega)) (fun _ => by (refine ev3 @qe.eq_1 @ql.eq_1 @qp.eq_1 ?_; try exact True.intro)) ?_
    try (refine ev ?_; try exact True.intro)
    (repeat (with_reducible refine ob ?_)); first | refine cl F80 (kv) ?_ | refine clF F80 (kv) (fun _ => by (refine ev3 @qe.eq_1 @ql.eq_1 @qp.eq_1 ?_; try exact True.intro)) ?_
    try (refine ev ?_; try exact True.intro)
    (repeat (with_reducible refine ob ?_))
    refine ⟨⟨j + 1, hjl⟩, ?_, by dsimp only; omega⟩
    try simp only [Sch2, xf, hsnoc, hc, List.map_append, List.map_cons, List.map_nil, qp, hw, go_sem, Nat.reduceAdd, Nat.reduceMul, Nat.reduceSub, Nat.reduceEqDiff, Nat.reduceLT, Nat.reduceLeDiff, Nat.reduceBEq, reduceIte, reduceCtorEq, Int.reduceAdd, Int.reduceLT, Int.reduceLE, Int.reduceGT, Int.reduceGE, Int.reduceEq, Int.reduceNe, Int.reduceBEq, Int.reduceBNe, Int.reduceToNat, Int.reduceNeg]
 ·have hjl : b.ents.length ≤ j := by simpa using h
  try (refine ev2 @qhv.eq_1 (List.take_of_length_le hjl) ?_; try exact True.intro)
end Go.Proofs.YtkcdbcbpbolgkaaGreatDoor
namespace Go.Proofs.YtkcdbcbpbolgkaaGreatDoor
open Go.Abs
set_option linter.unusedSimpArgs false
set_option linter.unusedVariables false
noncomputable section
set_option maxRecDepth 100000
set_option linter.defProp false
def d242 := cut Tryz.prog Tryz.f242 news
@[go_sem] def E242 := qq d242
def F242 := fnC d242 follows Tryz.func242
def d176 := cut Tryz.prog Tryz.f176 news
@[go_sem] def E176 := qq d176
def F176 := fnC d176 follows Tryz.func176
def d240 := cut Tryz.prog Tryz.f240 news
@[go_sem] def E240 := qq d240
def F240 := fnC d240 follows Tryz.func240
def d175 := cut Tryz.prog Tryz.f175 news
@[go_sem] def E175 := qq d175
def F175 := fnC d175 follows Tryz.func175
def d93m := cut Tryz.prog Tryz.f93 news [46, 1000046, 1000048] [18]
@[go_sem] def E93m := qq d93m
def F93m := fnC d93m follows Tryz.func93
end
theorem qwv (k p : List UInt8) (h : pre p k = true) : qh Tryz.prog 242 [.d (.str k), .d (.str p)] [] (.d (.str (k.drop p.length))) [] := by
 have hl : p.length ≤ k.length := by simp [pre] at h; exact h.1
 have ht : (k.drop p.length).take (k.length - p.length) = k.drop p.length := List.take_of_length_le (by simp)
 have kp := qcv k p
 rw [h] at kp
 refine F242.go ?_
 try (refine ev ?_; try exact True.intro)
 (repeat (with_reducible refine ob ?_)); first | refine cl F236 (kp) ?_ | refine clF F236 (kp) (fun _ => by (refine ev3 @qe.eq_1 @ql.eq_1 @qp.eq_1 ?_; try exact True.intro)) ?_
 try (refine ev ?_; try exact True.intro)
 (repeat (with_reducible refine ob ?_)); refine qdm ?_
 try (refine ev2 @Int.toNat_natCast @ht ?_; try exact True.intro)
 omega
theorem q9i (k p : List UInt8) (h : pre p k = true) : qh Tryz.prog 176 [.d (.str k), .d (.str p)] [] (.d (.str (k.drop p.length))) [] := by
 refine F176.go ?_
 try (refine ev ?_; try exact True.intro)
 (repeat (with_reducible refine ob ?_)); first | refine cl F242 (qwv k p h) ?_ | refine clF F242 (qwv k p h) (fun _ => by (refine ev3 @qe.eq_1 @ql.eq_1 @qp.eq_1 ?_; try exact True.intro)) ?_
 try (refine ev ?_; try exact True.intro)
def valD (l : List UInt8) : Nat := l.foldl (fun n c => n * 10 + (c.toNat - 48)) 0
def qst (c : UInt8) : Prop := 48 ≤ c.toNat ∧ c.toNat ≤ 57
theorem qsu (l : List UInt8) (c : UInt8) : valD (l ++ [c]) = valD l * 10 + (c.toNat - 48) := by simp [valD]
theorem q26 (l : List UInt8) (h : ∀ c ∈ l, qst c) : ∀ n, n ≤ l.length → valD (l.take n) < 10 ^ n
 | 0, _ => by simp [valD]
 | n + 1, hn => by
  have ih := q26 l h n (by omega)
  have hd := h _ (List.getElem_mem (show n < l.length by omega))
  unfold qst at hd
  rw [← List.take_append_getElem (show n < l.length by omega), qsu, Nat.pow_succ]
  omega
def q6y (s : List UInt8) (i : { i : Nat // i ≤ s.length }) : St :=
 ⟨[(5, true, .d (.str s)), (6, true, .d (.int .i64 (valD (s.take i.val) : Nat))), (47, true, .d (.sl 1 (qc s))), (48, true, .d (.int .i64 s.length)), (49, true, .d (.int .i64 (i.val : Nat)))], [], [], 1⟩
theorem qww (s : List UInt8) (hs : ∀ c ∈ s, qst c) (h0 : 0 < s.length) (h18 : s.length ≤ 18) : qh Tryz.prog 240 [.d (.str s)] [] (.tup [.d (.int .i64 (valD s : Nat)), .d .niliface]) [] := by
 have g0 : decide ((0 : Int) < (s.length : Int)) = true := by simp; omega
 have g1 : decide ((s.length : Int) < 19) = true := by simp; omega
 have hd0 : qst (s.getD 0 0) := by rw [List.getD_eq_getElem?_getD, List.getElem?_eq_getElem h0]; exact hs _ (List.getElem_mem h0)
 have c1 : (((s.getD 0 0).toNat : Int) == 45) = false := by rw [beq_eq_false_iff_ne]; unfold qst at hd0; omega
 have c2 : (((s.getD 0 0).toNat : Int) == 43) = false := by rw [beq_eq_false_iff_ne]; unfold qst at hd0; omega
 refine F240.goT ?_
 try (refine ev2 @g0 @g1 ?_; try exact True.intro)
 (repeat (with_reducible refine ob ?_)); refine qdm ?_
 try (refine ev3 @Int.toNat_zero @c1 @c2 ?_; try exact True.intro)
 (repeat (with_reducible refine ob ?_))
 (repeat (with_reducible refine ob ?_)); refine no_ ?_
 try (refine ev ?_; try exact True.intro)
 refine qn (q6y s) (fun i => s.length - i.val) ⟨0, Nat.zero_le _⟩ ?_ (fun i => ?_)
 ·try (refine ev6 @q6y.eq_1 @List.take_zero.{0} @valD.eq_1 @List.foldl_nil.{0,0} @Int.ofNat_zero @zd ?_; try exact True.intro)
 obtain ⟨i, hi⟩ := i
 try (refine ev1 @q6y.eq_1 ?_; try exact True.intro)
 (repeat (with_reducible refine ob ?_)); refine x5 _ (fun h => ?_) (fun h => ?_)
 ·have hil : i < s.length := by simpa using h
  have hdi := hs _ (List.getElem_mem hil)
  unfold qst at hdi
  have b1 : IntKind.u8.wrap (((s[i].toNat : Nat) : Int) - 48) = ((s[i].toNat - 48 : Nat) : Int) := by rw [qhe]; omega
  have b2 : decide (((s[i].toNat - 48 : Nat) : Int) > 9) = false := by simp; omega
  have hv := q26 s hs i (by omega)
  have hp : 10 ^ i ≤ 10 ^ 17 := Nat.pow_le_pow_right (by decide) (by omega)
  have b3 : IntKind.i64.wrap ((valD (s.take i) : Nat) * 10 : Int) = ((valD (s.take i) * 10 : Nat) : Int) := by rw [zn (by unfold I64; omega)]; omega
  have b4 : IntKind.i64.wrap (((s[i].toNat - 48 : Nat) : Int)) = ((s[i].toNat - 48 : Nat) : Int) := zn (by unfold I64; omega)
  have b5 : IntKind.i64.wrap (((valD (s.take i) * 10 : Nat) : Int) + ((s[i].toNat - 48 : Nat) : Int)) = ((valD (s.take (i + 1)) : Nat) : Int) := by
   rw [← List.take_append_getElem hil, qsu, zn (by unfold I64; omega)]; omega
  try (refine ev1 (ju s hil) ?_; try exact True.intro)
  (repeat (with_reducible refine ob ?_))
  try (refine ev2 @b1 @b2 ?_; try exact True.intro)
  (repeat (with_reducible refine ob ?_)); refine no_ ?_
  try (refine ev3 @b3 @b4 @b5 ?_; try exact True.intro)
  refine ⟨⟨i + 1, hil⟩, ?_, by dsimp only; omega⟩
  try (refine ev2 @q6y.eq_1 (qg (show i < 9223372036854775807 by omega)) ?_; try exact True.intro)
 ·have hil : s.length ≤ i := by simpa using h
  try (refine ev3 (List.take_of_length_le hil) @Int.toNat_zero @c1 ?_; try exact True.intro)
  (repeat (with_reducible refine ob ?_))
  (repeat (with_reducible refine ob ?_)); refine no_ ?_
  try (refine ev ?_; try exact True.intro)
theorem q9j (s : List UInt8) (hs : ∀ c ∈ s, qst c) (h0 : 0 < s.length) (h18 : s.length ≤ 18) : qh Tryz.prog 175 [.d (.str s)] [] (.tup [.d (.int .i64 (valD s : Nat)), .d .niliface]) [] := by
 refine F175.goT ?_
 try (refine ev ?_; try exact True.intro)
 (repeat (with_reducible refine ob ?_)); first | refine cl F240 (qww s hs h0 h18) ?_ | refine clF F240 (qww s hs h0 h18) (fun _ => by (refine ev3 @qe.eq_1 @ql.eq_1 @qp.eq_1 ?_; try exact True.intro)) ?_
 try (refine ev ?_; try exact True.intro)
 (repeat (with_reducible refine ob ?_)); refine no_ ?_
 try (refine ev ?_; try exact True.intro)
theorem q9k : ∀ n : Fin 33, (∀ c ∈ (uKey (n.val : Int)).drop 2, 48 ≤ c.toNat ∧ c.toNat ≤ 57) ∧ valD ((uKey (n.val : Int)).drop 2) = n.val ∧ ((uKey (n.val : Int)).drop 2).length = 2 := by decide +kernel
def mark (n N j : Nat) : List Bool := (jm n N).take j ++ List.replicate (n - j) false
def mkO (l : List Bool) : AObj := .row (l.map fun b => .d (.bool b))
theorem qsv (n N : Nat) : mark n N 0 = List.replicate n false := by simp [mark]
theorem qwx (n N : Nat) : mark n N n = jm n N := by simp [mark, List.take_of_length_le (Nat.le_of_eq (jj n N))]
theorem qwy {n N j : Nat} (hj : j ≤ n) : (mark n N j).length = n := by
 rw [mark, List.length_append, List.length_take, jj, List.length_replicate]; omega
theorem qwz {n N j : Nat} (hj : j < n) : (mark n N j).set j (N / 2 ^ j % 2 == 1) = mark n N (j + 1) := by
 have hl : ((jm n N).take j).length = j := by rw [List.length_take, jj]; omega
 have hr : List.replicate (n - j) false = false :: List.replicate (n - (j + 1)) false := by
  rw [show n - j = (n - (j + 1)) + 1 by omega, List.replicate_succ]
 have hb : (jm n N)[j]'(by rw [jj]; exact hj) = (N / 2 ^ j % 2 == 1) := by
  have := qnq n N j hj
  rw [List.getD_eq_getElem?_getD, List.getElem?_eq_getElem (by rw [jj]; exact hj)] at this
  exact this
 rw [mark, mark, hr, List.set_append_right _ _ (by omega), hl, Nat.sub_self, List.set_cons_zero, ← List.take_append_getElem (show j < (jm n N).length by rw [jj]; exact hj), hb, List.append_assoc]
 rfl
theorem q7r {N : Int} (h0 : 0 ≤ N) (h1 : N ≤ 1000000) (j : Nat) (hj : j ≤ 60) : (IntKind.i64.wrap (qnw 64 (N.fdiv (2 ^ (min j 64))) 1) == 1) = (N.toNat / 2 ^ j % 2 == 1) := by
 obtain ⟨n, rfl⟩ : ∃ n : Nat, N = n := ⟨N.toNat, by omega⟩
 have e1 : min j 64 = j := by omega
 have e2 : ((n : Int)).fdiv (2 ^ j) = ((n / 2 ^ j : Nat) : Int) := by
  rw [Int.fdiv_eq_ediv_of_nonneg _ (by exact Int.le_of_lt (Int.pow_pos (by decide)))]
  simp
 have hle : n / 2 ^ j ≤ n := Nat.div_le_self _ _
 rw [e1, e2, Int.toNat_natCast]
 generalize n / 2 ^ j = q at hle
 have hq : q < 2 ^ 64 := Nat.lt_of_le_of_lt hle (by omega)
 have e3 := qk8 64 q 1 hq (by decide)
 rw [Nat.and_one_is_mod] at e3
 rw [show qnw 64 (q : Int) 1 = ((q % 2 : Nat) : Int) from e3, zn (by unfold I64; omega), Bool.eq_iff_iff]
 simp only [beq_iff_eq]
 omega
theorem qnv (hi : Nat) (r : Rd) : 0 ≤ (xd 0 (hi : Nat) r).1 ∧ (xd 0 (hi : Nat) r).1 ≤ hi := by
 unfold xd qfe
 split
 ·simp
 ·split
  ·simp
  ·rename_i h
   exact qff (by simpa using h)
def ld1 (v : List UInt8) : Int × Rd := qdz ⟨v, 0, false⟩
def ld2 (r : Int) (v : List UInt8) : Int × Rd := xd 0 (ldN r) (ld1 v).2
def ld3 (r : Int) (v : List UInt8) : Int × Rd := xd 0 (ldN r) (ld2 r v).2
theorem q9l (r : Int) (v : List UInt8) : ldRd r v = (((ld1 v).1, (ld2 r v).1, (ld3 r v).1), (ld3 r v).2) := rfl
def ldR (r : Int) (v : List UInt8) : Nat → Rd
 | 0 => (ld1 v).2
 | 1 => (ld2 r v).2
 | _ => (ld3 r v).2
def ldM (n : Nat) (v : List UInt8) : Nat → List Bool
 | 0 => List.replicate n false
 | _ => jm n (ld2 n v).1.toNat
def ldP (n : Nat) (v : List UInt8) : Nat → List Bool
 | 0 => List.replicate n false
 | 1 => List.replicate n false
 | _ => jm n (ld3 n v).1.toNat
theorem xdn (r : Int) (v : List UInt8) : ldR r v 0 = (ld1 v).2 := rfl
theorem xdo (r : Int) (v : List UInt8) : ldR r v 1 = (ld2 r v).2 := rfl
theorem xdp (r : Int) (v : List UInt8) : ldR r v 2 = (ld3 r v).2 := rfl
theorem xdq (n : Nat) (v : List UInt8) : ldM n v 0 = List.replicate n false := rfl
theorem xdr (n : Nat) (v : List UInt8) : ldM n v 1 = jm n (ld2 n v).1.toNat := rfl
theorem xds (n : Nat) (v : List UInt8) : ldM n v 2 = jm n (ld2 n v).1.toNat := rfl
theorem xdt (n : Nat) (v : List UInt8) : ldP n v 0 = List.replicate n false := rfl
theorem xdu (n : Nat) (v : List UInt8) : ldP n v 1 = List.replicate n false := rfl
theorem xdv (n : Nat) (v : List UInt8) : ldP n v 2 = jm n (ld3 n v).1.toNat := rfl
attribute [go_sem] xdn xdo xdp xdq xdr xds xdt xdu xdv
def SldO (k v : List UInt8) (s n : Nat) (rd : Rd) (m o : List Bool) (fr : Fr) : St :=
 ⟨(1, true, .d (.int .i64 n)) :: (4, true, .d (.ptr 1 0)) :: (8, true, .d (.ptr 2 0)) :: (9, true, .d (.ptr 5 0)) :: (54, true, .d (.sl 1 [[.ref 3 0 1 n], [.ref 4 0 1 n]])) :: (55, true, .d (.int .i64 2)) :: fr,
  [.row [.d (.str k), .d (.sl 1 (qc v))], .row [.d (.int .i64 0), .d (.int .i64 0), .d .nilsl, .d .nilsl], rdO rd, mkO m, mkO o, .row [.d (.int .i64 s), .d (.int .i64 (ld1 v).1), .d (.ref 3 0 1 n), .d (.ref 4 0 1 n)]], [], 1⟩
def SldA (k v : List UInt8) (s n : Nat) (i : { i : Nat // i ≤ 2 }) : St := SldO k v s n (ldR n v i.val) (ldM n v i.val) (ldP n v i.val) [(56, true, .d (.int .i64 (i.val : Nat)))]
def SldB (k v : List UInt8) (s n : Nat) (j : { j : Nat // j ≤ n }) : St := SldO k v s n (ld2 n v).2 (mark n (ld2 n v).1.toNat j.val) (List.replicate n false)
 [(56, true, .d (.int .i64 0)), (11, true, .d (.ref 3 0 1 n)), (12, true, .d (.int .i64 (ld2 n v).1)), (66, true, .d (.int .i64 n)), (67, true, .d (.int .i64 (j.val : Nat)))]
def SldC (k v : List UInt8) (s n : Nat) (j : { j : Nat // j ≤ n }) : St := SldO k v s n (ld3 n v).2 (jm n (ld2 n v).1.toNat) (mark n (ld3 n v).1.toNat j.val)
 [(56, true, .d (.int .i64 1)), (11, true, .d (.ref 4 0 1 n)), (12, true, .d (.int .i64 (ld3 n v).1)), (66, true, .d (.int .i64 n)), (67, true, .d (.int .i64 (j.val : Nat)))]
set_option maxRecDepth 10000 in
theorem q6z (s : Nat) (hs : s ≤ 32) (v : List UInt8) (hv : v.length ≤ 1000000000) (n : Nat) (h1 : 1 ≤ n) (h6 : n ≤ 6) :
  qh Tryz.prog 93 [.d (.agg [.str (uKey (s : Nat)), .sl 1 (qc v)]), .d (.int .i64 (n : Nat))] [] (.tup [.d (.agg (qe (qpj (n : Nat) (s : Nat) (ldRd (n : Nat) v).1))), .d (.bool (rEnd (ldRd (n : Nat) v).2 == 0))]) [] := by
 have hr0 : (⟨v, 0, false⟩ : Rd).Ok := ⟨hv, Nat.zero_le _⟩
 obtain ⟨kd1, kd2, kd3⟩ := q9k ⟨s, by omega⟩
 simp only at kd1 kd2 kd3
 have kt := q9i (uKey (s : Nat)) [117, 47] rfl
 have ka := q9j ((uKey (s : Nat)).drop 2) kd1 (by rw [kd3]; omega) (by rw [kd3]; omega)
 rw [kd2] at ka
 have kk := qli (s : Nat) (by omega) (by omega)
 have kn := qwn v hv
 have r1 := (q2c hr0).1
 have i1 := q6e ⟨v, 0, false⟩ hr0
 change qh _ _ _ _ (.d (.int .i64 (ld1 v).1)) [rdO (ld1 v).2] at i1
 change (ld1 v).2.Ok at r1
 have i2 := qd0 (ld1 v).2 0 (ldN (n : Nat)) r1
 change qh _ _ _ _ (.d (.int .i64 (ld2 (n : Nat) v).1)) [rdO (ld2 (n : Nat) v).2] at i2
 have r2 := (qar r1 0 (ldN (n : Nat))).1
 change (ld2 (n : Nat) v).2.Ok at r2
 have i3 := qd0 (ld2 (n : Nat) v).2 0 (ldN (n : Nat)) r2
 change qh _ _ _ _ (.d (.int .i64 (ld3 (n : Nat) v).1)) [rdO (ld3 (n : Nat) v).2] at i3
 have r3 := (qar r2 0 (ldN (n : Nat))).1
 change (ld3 (n : Nat) v).2.Ok at r3
 have i4 := q14 (ld3 (n : Nat) v).2 r3
 simp only [rdO] at kn i1 i2 i3 i4
 have c1 : decide (((s : Nat) : Int) < 0) = false := by simp
 have c2 : decide (((s : Nat) : Int) > 32) = false := by simp; omega
 rw [q9l]
 refine F93m.goT ?_
 try (refine ev ?_; try exact True.intro)
 (repeat (with_reducible refine ob ?_)); first | refine cl F176 (kt) ?_ | refine clF F176 (kt) (fun _ => by (refine ev3 @qe.eq_1 @ql.eq_1 @qp.eq_1 ?_; try exact True.intro)) ?_
 try simp only [List.length_cons, List.length_nil, go_sem, Nat.reduceAdd, Nat.reduceMul, Nat.reduceSub, Nat.reduceEqDiff, Nat.reduceLT, Nat.reduceLeDiff, Nat.reduceBEq, reduceIte, reduceCtorEq, Int.reduceAdd, Int.reduceLT, Int.reduceLE, Int.reduceGT, Int.reduceGE, Int.reduceEq, Int.reduceNe, Int.reduceBEq, Int.reduceBNe, Int.reduceToNat, Int.reduceNeg]
 (repeat (with_reducible refine ob ?_)); first | refine cl F175 (ka) ?_ | refine clF F175 (ka) (fun _ => by (refine ev3 @qe.eq_1 @ql.eq_1 @qp.eq_1 ?_; try exact True.intro)) ?_
 try (refine ev2 @c1 @c2 ?_; try exact True.intro)
 (repeat (with_reducible refine ob ?_)); first | refine cl F79 (kk) ?_ | refine clF F79 (kk) (fun _ => by (refine ev3 @qe.eq_1 @ql.eq_1 @qp.eq_1 ?_; try exact True.intro)) ?_
 try (refine ev1 @beq_self_eq_true.{0} ?_; try exact True.intro)
 (repeat (with_reducible refine ob ?_))
 (repeat (with_reducible refine ob ?_)); refine no_ ?_
 try (refine ev ?_; try exact True.intro)
 refine clO [2] F177 kn ?_
 try (refine ev ?_; try exact True.intro)
 (repeat (with_reducible refine ob ?_)); refine clO [2] F178 (i1) ?_ (hfit := by first | exact ⟨qa, trivial⟩ | exact ⟨qa, qa, trivial⟩ | (refine ev3 @qe.eq_1 @ql.eq_1 @qp.eq_1 ?_; try exact True.intro))
 try (refine ev ?_; try exact True.intro)
 have nn : ((n : Nat) : Int) ≤ 1000000000 ∧ (n : Int) * 1 ≤ 281474976710656 := by omega
 refine ⟨⟨by omega, by omega, by omega, by omega⟩, ⟨by omega, by omega, by omega, by omega⟩, ?_⟩
 have flr : List.replicate n [D.bool false] = (List.replicate n false).map encB := by rw [List.map_replicate]; rfl
 have hN : ldN (n : Nat) ≤ 63 ∧ 0 ≤ ldN (n : Nat) := by
  have := xcv (r := (n : Nat)) (by omega) (by omega)
  rw [qpk]; rw [Int.toNat_natCast] at this ⊢; omega
 have cN : IntKind.i64.wrap (IntKind.i64.wrap (1 * 2 ^ (min n 64)) - 1) = ldN (n : Nat) := by
  have e1 : min n 64 = n := by omega
  have e2 : ldN (n : Nat) = 2 ^ n - 1 := rfl
  rw [e1, zn (n := 1 * 2 ^ n) (by rw [e2] at hN; unfold I64; omega), zn (by rw [e2] at hN; unfold I64; omega), e2]; omega
 have b2 : 0 ≤ (ld2 (n : Nat) v).1 ∧ (ld2 (n : Nat) v).1 ≤ 63 := by
  have := qnv (2 ^ (n : Int).toNat - 1) (ld1 v).2
  rw [← qpk] at this
  exact ⟨this.1, Int.le_trans this.2 hN.1⟩
 have b3 : 0 ≤ (ld3 (n : Nat) v).1 ∧ (ld3 (n : Nat) v).1 ≤ 63 := by
  have := qnv (2 ^ (n : Int).toNat - 1) (ld2 (n : Nat) v).2
  rw [← qpk] at this
  exact ⟨this.1, Int.le_trans this.2 hN.1⟩
 refine qn (SldA (uKey (s : Nat)) v s n) (fun i => 2 - i.val) ⟨0, by omega⟩ ?_ (fun i => ?_)
 ·try (refine ev6 @SldA.eq_1 @SldO.eq_1 @rdO.eq_1 @mkO.eq_1 @flr @Int.ofNat_zero ?_; try exact True.intro)
 obtain ⟨i, hi⟩ := i
 obtain rfl | rfl | rfl : i = 0 ∨ i = 1 ∨ i = 2 := by omega
 ·try (refine ev5 @SldA.eq_1 @SldO.eq_1 @rdO.eq_1 @mkO.eq_1 @Int.ofNat_zero ?_; try exact True.intro)
  (repeat (with_reducible refine ob ?_)); refine qdm ?_
  try (refine ev ?_; try exact True.intro)
  try (refine ev1 @cN ?_; try exact True.intro)
  (repeat (with_reducible refine ob ?_)); refine clO [2] F179 (i2) ?_ (hfit := by first | exact ⟨qa, trivial⟩ | exact ⟨qa, qa, trivial⟩ | (refine ev3 @qe.eq_1 @ql.eq_1 @qp.eq_1 ?_; try exact True.intro))
  try (refine ev ?_; try exact True.intro)
  refine qn (SldB (uKey (s : Nat)) v s n) (fun j => n - j.val) ⟨0, Nat.zero_le _⟩ ?_ (fun j => ?_)
  ·try (refine ev6 @SldB.eq_1 @SldO.eq_1 @rdO.eq_1 @mkO.eq_1 @qsv @Int.ofNat_zero ?_; try exact True.intro)
  obtain ⟨j, hj⟩ := j
  try (refine ev4 @SldB.eq_1 @SldO.eq_1 @rdO.eq_1 @mkO.eq_1 ?_; try exact True.intro)
  (repeat (with_reducible refine ob ?_)); refine x5 _ (fun h => ?_) (fun h => ?_)
  ·have hjn : j < n := by simpa using h
   have hb := q7r b2.1 (Int.le_trans b2.2 (by omega)) j (by omega)
   have hw := qg (show j < 9223372036854775807 by omega)
   have hm := qwz (N := (ld2 (n : Nat) v |>.1).toNat) hjn
   have hml := qwy (n := n) (N := (ld2 (n : Nat) v |>.1).toNat) hj
   try simp only [Int.toNat_natCast, hb, Nat.mul_one, Nat.zero_add, qjf, hm, hml, List.length_map, List.length_replicate, jj, go_sem, Nat.reduceAdd, Nat.reduceMul, Nat.reduceSub, Nat.reduceEqDiff, Nat.reduceLT, Nat.reduceLeDiff, Nat.reduceBEq, reduceIte, reduceCtorEq, Int.reduceAdd, Int.reduceLT, Int.reduceLE, Int.reduceGT, Int.reduceGE, Int.reduceEq, Int.reduceNe, Int.reduceBEq, Int.reduceBNe, Int.reduceToNat, Int.reduceNeg]
   (repeat (with_reducible refine ob ?_))
   refine ⟨⟨j + 1, hjn⟩, ?_, by dsimp only; omega⟩
   try (refine ev5 @SldB.eq_1 @SldO.eq_1 @rdO.eq_1 @mkO.eq_1 @hw ?_; try exact True.intro)
  ·have hjn : j = n := by simp at h; omega
   subst hjn
   try (refine ev ?_; try exact True.intro)
   refine ⟨⟨1, by omega⟩, ?_, by dsimp only; omega⟩
   try (refine ev6 @SldA.eq_1 @SldO.eq_1 @rdO.eq_1 @mkO.eq_1 @qwx (show IntKind.i64.wrap 1 = 1 by decide) ?_; try exact True.intro)
 ·try (refine ev4 @SldA.eq_1 @SldO.eq_1 @rdO.eq_1 @mkO.eq_1 ?_; try exact True.intro)
  (repeat (with_reducible refine ob ?_)); refine qdm ?_
  try (refine ev ?_; try exact True.intro)
  try (refine ev1 @cN ?_; try exact True.intro)
  (repeat (with_reducible refine ob ?_)); refine clO [2] F179 (i3) ?_ (hfit := by first | exact ⟨qa, trivial⟩ | exact ⟨qa, qa, trivial⟩ | (refine ev3 @qe.eq_1 @ql.eq_1 @qp.eq_1 ?_; try exact True.intro))
  try (refine ev ?_; try exact True.intro)
  refine qn (SldC (uKey (s : Nat)) v s n) (fun j => n - j.val) ⟨0, Nat.zero_le _⟩ ?_ (fun j => ?_)
  ·try (refine ev6 @SldC.eq_1 @SldO.eq_1 @rdO.eq_1 @mkO.eq_1 @qsv @Int.ofNat_zero ?_; try exact True.intro)
  obtain ⟨j, hj⟩ := j
  try (refine ev4 @SldC.eq_1 @SldO.eq_1 @rdO.eq_1 @mkO.eq_1 ?_; try exact True.intro)
  (repeat (with_reducible refine ob ?_)); refine x5 _ (fun h => ?_) (fun h => ?_)
  ·have hjn : j < n := by simpa using h
   have hb := q7r b3.1 (Int.le_trans b3.2 (by omega)) j (by omega)
   have hw := qg (show j < 9223372036854775807 by omega)
   have hm := qwz (N := (ld3 (n : Nat) v |>.1).toNat) hjn
   have hml := qwy (n := n) (N := (ld3 (n : Nat) v |>.1).toNat) hj
   try simp only [Int.toNat_natCast, hb, Nat.mul_one, Nat.zero_add, qjf, hm, hml, List.length_map, List.length_replicate, jj, go_sem, Nat.reduceAdd, Nat.reduceMul, Nat.reduceSub, Nat.reduceEqDiff, Nat.reduceLT, Nat.reduceLeDiff, Nat.reduceBEq, reduceIte, reduceCtorEq, Int.reduceAdd, Int.reduceLT, Int.reduceLE, Int.reduceGT, Int.reduceGE, Int.reduceEq, Int.reduceNe, Int.reduceBEq, Int.reduceBNe, Int.reduceToNat, Int.reduceNeg]
   (repeat (with_reducible refine ob ?_))
   refine ⟨⟨j + 1, hjn⟩, ?_, by dsimp only; omega⟩
   try (refine ev5 @SldC.eq_1 @SldO.eq_1 @rdO.eq_1 @mkO.eq_1 @hw ?_; try exact True.intro)
  ·have hjn : j = n := by simp at h; omega
   subst hjn
   try (refine ev ?_; try exact True.intro)
   refine ⟨⟨2, by omega⟩, ?_, by dsimp only; omega⟩
   try (refine ev6 @SldA.eq_1 @SldO.eq_1 @rdO.eq_1 @mkO.eq_1 @qwx (show IntKind.i64.wrap 2 = 2 by decide) ?_; try exact True.intro)
 ·try (refine ev4 @SldA.eq_1 @SldO.eq_1 @rdO.eq_1 @mkO.eq_1 ?_; try exact True.intro)
  (repeat (with_reducible refine ob ?_)); refine no_ ?_
  try (refine ev ?_; try exact True.intro)
  have hA : (jm n (ld2 n v).1.toNat).length = n := jj _ _
  have hB : (jm n (ld3 n v).1.toNat).length = n := jj _ _
  have hr : qe (qpj n s ((ld1 v).1, (ld2 n v).1, (ld3 n v).1)) = [.int .i64 s, .int .i64 (ld1 v).1, .sl 1 ((jm n (ld2 n v).1.toNat).map encB), .sl 1 ((jm n (ld3 n v).1.toNat).map encB)] := rfl
  rw [hr]
  generalize jm n (ld2 n v).1.toNat = A at hA ⊢
  generalize jm n (ld3 n v).1.toNat = B at hB ⊢
  refine qgd 3 1 (A.map encB) ?_ (qa4 _) (qej _) (qek _) (D.okWR_noPtr (vm _))
  simp only [qkn, Fr.mapS, List.map_cons, List.map_nil, AObj.mapS, qph, List.set_cons_zero, List.set_cons_succ]
  try simp only [List.length_map, hA, qio _ _ _ _ _ (jv _), go_sem, Nat.reduceAdd, Nat.reduceMul, Nat.reduceSub, Nat.reduceEqDiff, Nat.reduceLT, Nat.reduceLeDiff, Nat.reduceBEq, reduceIte, reduceCtorEq, Int.reduceAdd, Int.reduceLT, Int.reduceLE, Int.reduceGT, Int.reduceGE, Int.reduceEq, Int.reduceNe, Int.reduceBEq, Int.reduceBNe, Int.reduceToNat, Int.reduceNeg]
  refine qgd 4 1 (B.map encB) ?_ (qa4 _) (qej _) (qek _) (D.okWR_noPtr (vm _))
  simp only [qkn, Fr.mapS, List.map_cons, List.map_nil, AObj.mapS, List.set_cons_zero, List.set_cons_succ, qio _ _ _ _ _ (vm _)]
  try simp only [List.length_map, hB, qio _ _ _ _ _ (jv _), qio _ _ _ _ _ (vm _), go_sem, Nat.reduceAdd, Nat.reduceMul, Nat.reduceSub, Nat.reduceEqDiff, Nat.reduceLT, Nat.reduceLeDiff, Nat.reduceBEq, reduceIte, reduceCtorEq, Int.reduceAdd, Int.reduceLT, Int.reduceLE, Int.reduceGT, Int.reduceGE, Int.reduceEq, Int.reduceNe, Int.reduceBEq, Int.reduceBNe, Int.reduceToNat, Int.reduceNeg]
  refine pu ?_
  try (refine ev ?_; try exact True.intro)
  (repeat (with_reducible refine ob ?_)); refine clO [2] F180 (i4) ?_ (hfit := by first | exact ⟨qa, trivial⟩ | exact ⟨qa, qa, trivial⟩ | (refine ev3 @qe.eq_1 @ql.eq_1 @qp.eq_1 ?_; try exact True.intro))
  try (refine ev ?_; try exact True.intro)
  (repeat (with_reducible refine ob ?_))
  try (refine ev ?_; try exact True.intro)
end Go.Proofs.YtkcdbcbpbolgkaaGreatDoor
namespace Go.Proofs.YtkcdbcbpbolgkaaGreatDoor
open Go.Abs
set_option linter.unusedSimpArgs false
set_option linter.unusedVariables false
noncomputable section
set_option maxRecDepth 100000
set_option linter.defProp false
def d32 := cut Tryz.prog Tryz.f32 news
@[go_sem] def E32 := qq d32
def F32 := fnC d32 follows Tryz.func32
end
def xbq (m : Cont) : Prop := ∀ e ∈ qc5 m uPfx, (∃ s : Nat, s ≤ 32 ∧ e.1 = uKey (s : Nat)) ∧ e.2.length ≤ 1000000
def SuLd (s : Sto) (l : List En) (r : Nat) (x : Nat × List Ue) : St :=
 ⟨[(1, true, .d (.int .i64 r)), (4, true, .d (.ptr 2 0)), (6, true, .d (.ptr 3 0)), (22, true, .d (.sl 2 (l.map jl))), (23, true, .d (.int .i64 l.length)), (24, true, .d (.int .i64 (x.1 : Nat)))],
  [stoO s 1, mapO s.m, .row [.d (.int .i64 0), .d .nilsl], .row [.d (.int .i64 r), .own 0 4 (x.2.map qe)]], [0], 1⟩
theorem q27 (n : Nat) (h1 : 1 ≤ n) (h6 : n ≤ 6) : qh Tryz.prog 43 [.d (.int .i64 (n : Nat))] [] (.tup [.d (.agg [.int .i64 (n : Nat), .nilsl]), .d (.int .i64 0)]) [] := by
 have c1 : (decide ((n : Int) < 1) || decide ((n : Int) > 6)) = false := by simp; omega
 refine F43.goT ?_
 try (refine ev1 @c1 ?_; try exact True.intro)
 (repeat (with_reducible refine ob ?_)); refine no_ ?_
 try (refine ev ?_; try exact True.intro)
theorem qy9 {r : Int} {l : List En} {i : Nat} (hi : i < l.length) : qi1 r (l.drop i) = (match ldEn r l[i] with
  | none => none
  | some x => (qi1 r (l.drop (i + 1))).map (x :: ·)) := by
 rw [List.drop_eq_getElem_cons hi, qi1]
set_option maxRecDepth 10000 in
theorem q28 (s : Sto) (r : Int) (hm : s.m.Ok) (hl : s.m.l.length ≤ 1000) (hv : ∀ x ∈ s.m.l, x.2.2.length ≤ 1000000) (hk : xbq s.m) :
  qh Tryz.prog 32 [.d (.ptr 0 0), .d (.int .i64 r)] [stoO s 1, mapO s.m] (.tup [.d (.agg (ql (qip s.m r).1)), .d (.int .i64 (qip s.m r).2)]) [stoO s 1, mapO s.m] := by
 have kl := q8w s uPfx hm hl hv
 simp only [stoO, mapO] at kl
 by_cases hr : (decide (r < 1) || decide (r > 6)) = true
 ·have k0 := qo8 r
  have h0 : qhi r = (⟨0, []⟩, 2) := by unfold qhi; rw [if_pos hr]
  have hx : qip s.m r = (⟨0, []⟩, 2) := by unfold qip; rw [if_pos hr]
  rw [h0] at k0
  simp only [ql] at k0
  refine F32.goT ?_
  try (refine ev2 @stoO.eq_1 @mapO.eq_1 ?_; try exact True.intro)
  (repeat (with_reducible refine ob ?_)); first | refine cl F43 (k0) ?_ | refine clF F43 (k0) (fun _ => by (refine ev3 @qe.eq_1 @ql.eq_1 @qp.eq_1 ?_; try exact True.intro)) ?_
  try (refine ev ?_; try exact True.intro)
  (repeat (with_reducible refine ob ?_))
  try (refine ev1 @hx ?_; try exact True.intro)
  (repeat (with_reducible refine ob ?_)); refine qdm ?_
  try (refine ev2 @ql.eq_1 @List.map_nil.{0,0} ?_; try exact True.intro)
 have hx : qip s.m r = ldMg r (qi1 r (qc5 s.m uPfx)) := by unfold qip; rw [if_neg hr]
 simp only [Bool.or_eq_true, decide_eq_true_eq, not_or] at hr
 obtain ⟨n, rfl⟩ : ∃ n : Nat, r = n := ⟨r.toNat, by omega⟩
 have hls : (qc5 s.m uPfx).length ≤ 1000 := by
  have := q1s s.m uPfx
  omega
 rw [hx]
 clear hx
 have hk' : ∀ e ∈ qc5 s.m uPfx, (∃ s : Nat, s ≤ 32 ∧ e.1 = uKey (s : Nat)) ∧ e.2.length ≤ 1000000 := hk
 generalize qc5 s.m uPfx = L at kl hls hk' ⊢
 generalize hR : ldMg (n : Nat) (qi1 (n : Nat) L) = R
 have k0 := q27 n (by omega) (by omega)
 refine F32.goT ?_
 try (refine ev2 @stoO.eq_1 @mapO.eq_1 ?_; try exact True.intro)
 (repeat (with_reducible refine ob ?_)); first | refine cl F43 (k0) ?_ | refine clF F43 (k0) (fun _ => by (refine ev3 @qe.eq_1 @ql.eq_1 @qp.eq_1 ?_; try exact True.intro)) ?_
 try (refine ev ?_; try exact True.intro)
 (repeat (with_reducible refine ob ?_))
 try (refine ev ?_; try exact True.intro)
 (repeat (with_reducible refine ob ?_)); refine no_ ?_
 try (refine ev ?_; try exact True.intro)
 (repeat (with_reducible refine ob ?_)); refine clO [0, 1] F92u (kl) ?_ (hfit := by first | exact ⟨qa, trivial⟩ | exact ⟨qa, qa, trivial⟩ | (refine ev3 @qe.eq_1 @ql.eq_1 @qp.eq_1 ?_; try exact True.intro))
 try (refine ev ?_; try exact True.intro)
 refine qn (fun x : { x : Nat × List Ue // x.1 ≤ L.length ∧ x.2.length = x.1 ∧ (∀ y ∈ x.2, y.Sm) ∧ qi1 (n : Nat) L = (qi1 (n : Nat) (L.drop x.1)).map (x.2 ++ ·) } => SuLd s L n x.val) (fun x => L.length - x.val.1) ⟨(0, []), Nat.zero_le _, rfl, fun y hy => (by cases hy), by simp⟩ ?_ (fun x => ?_)
 ·try (refine ev5 @SuLd.eq_1 @stoO.eq_1 @mapO.eq_1 @Int.ofNat_zero @List.map_nil.{0,0} ?_; try exact True.intro)
 obtain ⟨⟨i, l⟩, x1, x2, x3, x4⟩ := x
 simp only at x1 x2 x3 x4
 try (refine ev3 @SuLd.eq_1 @stoO.eq_1 @mapO.eq_1 ?_; try exact True.intro)
 (repeat (with_reducible refine ob ?_)); refine x5 _ (fun h => ?_) (fun h => ?_)
 ·have hil : i < L.length := by simpa using h
  obtain ⟨⟨q, q1, q2⟩, q3⟩ := hk' _ (List.getElem_mem hil)
  have kq := q6z q q1 (L[i]).2 (by omega) n (by omega) (by omega)
  rw [← q2] at kq
  rw [qy9 hil] at x4
  have hen : ldEn (n : Nat) L[i] = qsn (n : Nat) (q : Nat) (L[i]).2 := by
   unfold ldEn
   rw [q2, qnr (by omega) (by omega), Int.toNat_natCast]
  rw [hen] at x4
  (refine ev2 (qj jl L hil) @jl.eq_1 ?_; try exact True.intro)
  (repeat (with_reducible refine ob ?_))
  (repeat (with_reducible refine ob ?_)); first | refine cl F93m (kq) ?_ | refine clF F93m (kq) (fun _ => by (refine ev3 @qe.eq_1 @ql.eq_1 @qp.eq_1 ?_; try exact True.intro)) ?_
  try (refine ev ?_; try exact True.intro)
  refine ⟨⟨rfl, rfl⟩, ?_⟩
  have hwi := qg (show i < 9223372036854775807 by omega)
  refine x5 _ (fun h2 => ?_) (fun h2 => ?_)
  ·have hn : qsn (n : Nat) (q : Nat) (L[i]).2 = none := by unfold qsn; rw [if_neg]; simpa using h2
   rw [hn] at x4
   simp only [Option.map_none] at x4
   rw [x4] at hR
   have hR2 : R = (⟨0, []⟩, 4) := hR.symm
   try (refine ev3 @hR2 @ql.eq_1 @List.map_nil.{0,0} ?_; try exact True.intro)
  ·have hy : qsn (n : Nat) (q : Nat) (L[i]).2 = some (qpj (n : Nat) (q : Nat) (ldRd (n : Nat) (L[i]).2).1) := by unfold qsn; rw [if_pos]; simpa using h2
   have hsm : (qpj (n : Nat) (q : Nat) (ldRd (n : Nat) (L[i]).2).1).Sm := ⟨by simp only [qpj, jj, Int.toNat_natCast]; omega, by simp only [qpj, jj, Int.toNat_natCast]; omega⟩
   rw [hy] at x4
   simp only [Option.map_map] at x4
   generalize qpj (n : Nat) (q : Nat) (ldRd (n : Nat) (L[i]).2).1 = y at hsm x4 ⊢
   try (refine ev1 @qe.eq_1 ?_; try exact True.intro)
   (repeat (with_reducible refine ob ?_))
   refine ⟨⟨(i + 1, l ++ [y]), hil, by simp [x2], fun z hz => ?_, ?_⟩, ?_, by dsimp only; omega⟩
   ·rcases List.mem_append.1 hz with hz | hz
    ·exact x3 z hz
    ·simp at hz; subst hz; exact hsm
   ·rw [x4]
    congr 1
    funext z; simp
   ·try (refine ev8 @SuLd.eq_1 @stoO.eq_1 @mapO.eq_1 @List.map_append.{0,0} @List.map_cons.{0,0} @List.map_nil.{0,0} @qe.eq_1 @hwi ?_; try exact True.intro)
 ·have hie : i = L.length := by
   have : L.length ≤ i := by simpa using h
   omega
  subst hie
  rw [List.drop_length, qi1, Option.map_some, List.append_nil] at x4
  rw [x4] at hR
  have kv := ki ⟨(n : Nat), l⟩ ⟨by simp only; omega, x3⟩
  simp only [ql] at kv
  try (refine ev ?_; try exact True.intro)
  (repeat (with_reducible refine ob ?_)); first | refine cl F69 (kv) ?_ | refine clF F69 (kv) (fun _ => by (refine ev3 @qe.eq_1 @ql.eq_1 @qp.eq_1 ?_; try exact True.intro)) ?_
  try (refine ev ?_; try exact True.intro)
  refine x5 _ (fun h2 => ?_) (fun h2 => ?_)
  ·have hm2 : R = (⟨0, []⟩, 4) := by rw [← hR]; unfold ldMg; exact if_neg (by simpa using h2)
   try (refine ev3 @ql.eq_1 @hm2 @List.map_nil.{0,0} ?_; try exact True.intro)
  ·have hm2 : R = (⟨(n : Nat), l⟩, 0) := by rw [← hR]; unfold ldMg; exact if_pos (by simpa using h2)
   try (refine ev2 @ql.eq_1 @hm2 ?_; try exact True.intro)
end Go.Proofs.YtkcdbcbpbolgkaaGreatDoor
namespace Go.Proofs.YtkcdbcbpbolgkaaGreatDoor
open Go.Abs
set_option linter.unusedSimpArgs false
set_option linter.unusedVariables false
structure Stp where
 kind : Int
 sess : Int
 role : Int
 deriving DecidableEq, Inhabited
def doF (m : Mg) (x : Stp) : Mg × Int :=
 if x.kind == 0 then kr m x.sess else if x.kind == 1 then zf m (zp x.sess x.role 1) else zf m (zp x.sess x.role 2)
def vq (x : Stp) : List D := [.int .i64 x.kind, .int .i64 x.sess, .int .i64 x.role]
theorem qir (x : Stp) : D.noPtrL (vq x) = true := rfl
theorem q29 (l : List Stp) : D.noPtrR (l.map vq) = true := xi qir l
attribute [go_sem] qir q29
noncomputable section
set_option maxRecDepth 100000
set_option linter.defProp false
def d44 := cut Tryz.prog Tryz.f44 news
@[go_sem] def E44 := qq d44
def F44 := fnC d44 follows Tryz.func44
def d7s := cut Tryz.prog Tryz.f7 news [] [10, 21]
@[go_sem] def E7s := qq d7s
def F7s := fnC d7s follows Tryz.func7
end
theorem q9m (m : Mg) (x : Stp) (hm : m.Sm) : qh Tryz.prog 44 [.d (.agg (ql m)), .d (.agg (vq x))] [] (.tup [.d (.agg (ql (doF m x).1)), .d (.int .i64 (doF m x).2)]) [] := by
 refine F44.goT ?_
 try (refine ev2 @ql.eq_1 @vq.eq_1 ?_; try exact True.intro)
 (repeat (with_reducible refine ob ?_)); refine x5 _ (fun h => ?_) (fun h => ?_)
 ·have e : doF m x = kr m x.sess := by simp only [doF, h, if_true]
  rw [e]
  try (refine ev ?_; try exact True.intro)
  (repeat (with_reducible refine ob ?_)); first | refine cl F74b (qhq m x.sess hm) ?_ | refine clF F74b (qhq m x.sess hm) (fun _ => by (refine ev5 @qe.eq_1 @ql.eq_1 @qk.eq_1 @vq.eq_1 @qp.eq_1 ?_; try exact True.intro)) ?_
  try (refine ev1 @ql.eq_1 ?_; try exact True.intro)
 have h0 := h
 try (refine ev ?_; try exact True.intro)
 (repeat (with_reducible refine ob ?_)); refine x5 _ (fun h => ?_) (fun h => ?_)
 ·have e : doF m x = zf m (zp x.sess x.role 1) := by simp only [doF, h0, h]; rfl
  rw [e]
  try (refine ev ?_; try exact True.intro)
  (repeat (with_reducible refine ob ?_)); first | refine cl F76 (wc x.sess x.role 1) ?_ | refine clF F76 (wc x.sess x.role 1) (fun _ => by (refine ev5 @qe.eq_1 @ql.eq_1 @qk.eq_1 @vq.eq_1 @qp.eq_1 ?_; try exact True.intro)) ?_
  try (refine ev ?_; try exact True.intro)
  (repeat (with_reducible refine ob ?_)); first | refine cl F75b (yx m (zp x.sess x.role 1) hm (qel _ _ _)) ?_ | refine clF F75b (yx m (zp x.sess x.role 1) hm (qel _ _ _)) (fun _ => by (refine ev5 @qe.eq_1 @ql.eq_1 @qk.eq_1 @vq.eq_1 @qp.eq_1 ?_; try exact True.intro)) ?_
  try (refine ev1 @ql.eq_1 ?_; try exact True.intro)
 ·have e : doF m x = zf m (zp x.sess x.role 2) := by simp only [doF, h0, h]; rfl
  rw [e]
  try (refine ev ?_; try exact True.intro)
  (repeat (with_reducible refine ob ?_)); first | refine cl F76 (wc x.sess x.role 2) ?_ | refine clF F76 (wc x.sess x.role 2) (fun _ => by (refine ev5 @qe.eq_1 @ql.eq_1 @qk.eq_1 @vq.eq_1 @qp.eq_1 ?_; try exact True.intro)) ?_
  try (refine ev ?_; try exact True.intro)
  (repeat (with_reducible refine ob ?_)); first | refine cl F75b (yx m (zp x.sess x.role 2) hm (qel _ _ _)) ?_ | refine clF F75b (yx m (zp x.sess x.role 2) hm (qel _ _ _)) (fun _ => by (refine ev5 @qe.eq_1 @ql.eq_1 @qk.eq_1 @vq.eq_1 @qp.eq_1 ?_; try exact True.intro)) ?_
  try (refine ev1 @ql.eq_1 ?_; try exact True.intro)
theorem xbr {m : Mg} {x : Stp} (hm : MW m) (h : (doF m x).2 = 0) : OneStep m (doF m x).1 := by
 unfold doF at h ⊢
 split at h
 ·rename_i hk; rw [if_pos hk]; exact q23 hm h
 ·rename_i hk
  rw [if_neg hk]
  split at h
  ·rename_i h1; rw [if_pos h1]; exact qnu hm (.inl rfl) h
  ·rename_i h1; rw [if_neg h1]; exact qnu hm (.inr rfl) h
structure Bk (n : Int) (i : Nat) (m : Mg) (s : Sto) : Prop where
 mw : MW m
 ro : m.roles = n
 ok : s.Ok (i + 1)
 few : s.m.l.length ≤ i + 1
 rep : URep s.m m
theorem Bk.v {n : Int} {i : Nat} {m : Mg} {s : Sto} (h : Bk n i m s) : ∀ x ∈ s.m.l, x.2.2.length ≤ 1000000 := fun x hx => by
 have := (h.ok.good.small x hx).2.2; omega
theorem Bk.keys {n : Int} {i : Nat} {m : Mg} {s : Sto} (h : Bk n i m s) : xbq s.m := by
 intro e he
 rw [qsp h.ok.good.ok h.mw h.rep, List.mem_map] at he
 obtain ⟨x, hx, rfl⟩ := he
 have hxe := h.mw.en x hx
 have h1 := hxe.s1
 have h2 := hxe.s32
 have h3 := qsq h.mw.r6 hxe
 refine ⟨⟨x.sess.toNat, by omega, ?_⟩, by simp only; omega⟩
 have : ((x.sess.toNat : Nat) : Int) = x.sess := by omega
 rw [this]
theorem Bk.mono {n : Int} {i : Nat} {m : Mg} {s : Sto} (h : Bk n i m s) : Bk n (i + 1) m s := ⟨h.mw, h.ro, h.ok.mono (by omega), by have := h.few; omega, h.rep⟩
theorem Bk.next {n : Int} {i : Nat} {m b : Mg} {s : Sto} (h : Bk n i m s) (hi : i ≤ 60) (ho : OneStep m b) : (xg s (qhv m b)).2 = 0 ∧ Bk n (i + 1) b (xg s (qhv m b)).1 ∧ (qhv m b).length = 1 := by
 obtain ⟨y, hy, he⟩ := ho.one
 have hye := ho.mw.en y hy
 have h3 := qsq ho.mw.r6 hye
 have hf := h.few
 obtain ⟨c1, c2, c3, c4⟩ := qnt h.ok (by omega) (k := uKey y.sess) (v := qbm y) (by simp [uKey]) (by simp [uKey]) (by omega)
 rw [← he] at c1 c2 c3 c4
 refine ⟨c1, ⟨ho.mw, ho.roles.trans h.ro, c2, by omega, q22 h.mw ho.mw ho.keep h.rep c4⟩, by rw [he]; rfl⟩
def opsO : List OpS := [⟨[111, 116, 104, 101, 114], false, [1]⟩]
theorem q9n {n : Int} (h1 : 1 ≤ n) (h6 : n ≤ 6) : (xg newS opsO).2 = 0 ∧ Bk n 0 ⟨n, []⟩ (xg newS opsO).1 := by
 obtain ⟨c1, c2, c3, c4⟩ := qnt (q8x 0) (by simp [newS, qig]) (k := [111, 116, 104, 101, 114]) (v := [1]) (by simp) (by simp) (by simp)
 refine ⟨c1, ⟨⟨h1, h6, by simp, fun x hx => (by cases hx)⟩, rfl, c2, by have := c3; simpa [newS, qig, opsO] using this, fun k hk => ?_⟩⟩
 have : mGet k (xg newS opsO).1.m = ws k (mGet k newS.m) opsO := c4 k
 rw [this]
 have hne : ([111, 116, 104, 101, 114] : List UInt8) ≠ k := by
  rintro rfl
  revert hk; decide
 simp [opsO, ws, hne, mGet, newS, qig]
def SuS (l : List Stp) (n : Int) (x : Nat × Mg × Sto) : St :=
 ⟨[(1, true, .d (.sl 3 (l.map vq))), (5, true, .d (.int .i64 n)), (6, true, .d (.ptr 0 0)), (8, true, .d (.ptr 2 0)), (9, true, .d (.int .i64 (x.1 : Nat)))], [xf x.2.1, mapO x.2.2.m, stoO x.2.2 1], [], 1⟩
set_option maxRecDepth 10000 in
theorem qi2 (a : Nat) (ha : a < 256) (l : List Stp) (hl : l.length ≤ maxLen) : qh Tryz.prog 7 [.d (.int .u8 (a : Nat)), .d (.sl 3 (l.map vq))] [] (.d (.bool true)) [] := by
 have k0 := q80
 refine F7s.go ?_
 try (refine ev ?_; try exact True.intro)
 (repeat (with_reducible refine ob ?_)); first | refine cl F22 (qno) ?_ | refine clF F22 (qno) (fun _ => by (refine ev5 @qe.eq_1 @ql.eq_1 @qk.eq_1 @vq.eq_1 @qp.eq_1 ?_; try exact True.intro)) ?_
 try (refine ev ?_; try exact True.intro)
 (repeat (with_reducible refine ob ?_)); refine no_ ?_
 try (refine ev ?_; try exact True.intro)
 (repeat (with_reducible refine ob ?_)); refine x5 _ (fun h => ?_) (fun h => ?_)
 ·try (refine ev ?_; try exact True.intro)
 have h30 : l.length ≤ 30 := by simp at h; omega
 have hw : IntKind.i64.wrap (a : Int) = (a : Int) := zn (by unfold I64; omega)
 have hm : ((a : Int)).tmod 6 = ((a % 6 : Nat) : Int) := by rw [Int.tmod_eq_emod_of_nonneg (by omega)]; omega
 have h6 : a % 6 < 6 := Nat.mod_lt _ (by decide)
 have hn : IntKind.i64.wrap (1 + ((a % 6 : Nat) : Int)) = ((a % 6 + 1 : Nat) : Int) := by rw [zn (by unfold I64; omega)]; omega
 generalize hN : a % 6 + 1 = n at hn
 have n1 : 1 ≤ (n : Int) := by omega
 have n6 : (n : Int) ≤ 6 := by omega
 obtain ⟨b1, b2⟩ := q9n n1 n6
 have kc := qm7 (s := newS) (l := opsO) (by simp [opsO]) (by simp [newS]) b1
 generalize (xg newS opsO).1 = s0 at kc b2
 have eO : opsO.map qp = [[.str [111, 116, 104, 101, 114], .bool false, .sl 1 [[.int .u8 1]]]] := rfl
 rw [eO] at kc
 have kn := qo8 (n : Nat)
 have eN : qhi (n : Nat) = (⟨(n : Nat), []⟩, 0) := by unfold qhi; rw [if_neg]; simp; omega
 rw [eN] at kn
 simp only [stoO, mapO] at k0 kc
 simp only [ql] at kn
 try (refine ev3 @hw @hm @hn ?_; try exact True.intro)
 (repeat (with_reducible refine ob ?_)); first | refine cl F43 (kn) ?_ | refine clF F43 (kn) (fun _ => by (refine ev5 @qe.eq_1 @ql.eq_1 @qk.eq_1 @vq.eq_1 @qp.eq_1 ?_; try exact True.intro)) ?_
 try (refine ev ?_; try exact True.intro)
 (repeat (with_reducible refine ob ?_))
 try (refine ev ?_; try exact True.intro)
 refine clO [1, 2] F28 k0 ?_
 try (refine ev ?_; try exact True.intro)
 refine clO [2, 1, 3] F29 kc ?_
 try (refine ev ?_; try exact True.intro)
 (repeat (with_reducible refine ob ?_)); refine no_ ?_
 try (refine ev ?_; try exact True.intro)
 refine q69 [0, 3, 2, 1] [xf ⟨(n : Nat), []⟩, mapO s0.m, stoO s0 1, mapO newS.m] ?_ (by try (refine ev4 @mapO.eq_1 @stoO.eq_1 @xf.eq_1 @List.map_nil.{0,0} ?_; try exact True.intro)) (hp := rfl)
 refine pu ?_
 try (refine ev4 @mapO.eq_1 @stoO.eq_1 @xf.eq_1 @List.map_nil.{0,0} ?_; try exact True.intro)
 refine qn (fun x : { x : Nat × Mg × Sto // x.1 ≤ l.length ∧ Bk (n : Nat) x.1 x.2.1 x.2.2 } => SuS l n x.val) (fun x => l.length - x.val.1) ⟨(0, ⟨(n : Nat), []⟩, s0), Nat.zero_le _, b2⟩ ?_ (fun x => ?_)
 ·try (refine ev6 @SuS.eq_1 @mapO.eq_1 @stoO.eq_1 @xf.eq_1 @Int.ofNat_zero @List.map_nil.{0,0} ?_; try exact True.intro)
 clear kn eN k0 kc b1 b2 eO
 obtain ⟨⟨i, m, s⟩, x1, x2⟩ := x
 simp only at x1 x2
 try (refine ev4 @SuS.eq_1 @mapO.eq_1 @stoO.eq_1 @xf.eq_1 ?_; try exact True.intro)
 (repeat (with_reducible refine ob ?_)); refine x5 _ (fun h => ?_) (fun h => ?_)
 ·have hil : i < l.length := by simpa using h
  have hms := x2.mw.sm
  have kd := q9m m l[i] hms
  simp only [ql, vq] at kd
  have hwi := qg (show i < 9223372036854775807 by omega)
  try simp only [qj vq l hil, vq, go_sem, Nat.reduceAdd, Nat.reduceMul, Nat.reduceSub, Nat.reduceEqDiff, Nat.reduceLT, Nat.reduceLeDiff, Nat.reduceBEq, reduceIte, reduceCtorEq, Int.reduceAdd, Int.reduceLT, Int.reduceLE, Int.reduceGT, Int.reduceGE, Int.reduceEq, Int.reduceNe, Int.reduceBEq, Int.reduceBNe, Int.reduceToNat, Int.reduceNeg]
  (repeat (with_reducible refine ob ?_))
  (repeat (with_reducible refine ob ?_)); first | refine cl F44 (kd) ?_ | refine clF F44 (kd) (fun _ => by (refine ev5 @qe.eq_1 @ql.eq_1 @qk.eq_1 @vq.eq_1 @qp.eq_1 ?_; try exact True.intro)) ?_
  try (refine ev ?_; try exact True.intro)
  (repeat (with_reducible refine ob ?_))
  try (refine ev ?_; try exact True.intro)
  refine x5 _ (fun h2 => ?_) (fun h2 => ?_)
  ·try (refine ev ?_; try exact True.intro)
   refine pu ?_
   try (refine ev ?_; try exact True.intro)
   refine ⟨⟨(i + 1, m, s), hil, x2.mono⟩, ?_, by dsimp only; omega⟩
   try (refine ev5 @SuS.eq_1 @mapO.eq_1 @stoO.eq_1 @xf.eq_1 @hwi ?_; try exact True.intro)
  have he : (doF m l[i]).2 = 0 := by simpa using h2
  have ho := xbr x2.mw he
  obtain ⟨c1, c2, c3⟩ := x2.next (by omega) ho
  have kx := qy8 m (doF m l[i]).1 hms ho.mw.sm
  rw [ho.changes x2.mw] at kx
  generalize (doF m l[i]).1 = b at ho c1 c2 c3 kx ⊢
  generalize qhv m b = ops at c1 c2 c3 kx
  have hfl := x2.ok.file
  have kc := qm7 (s := s) (l := ops) (by omega) (by omega) c1
  generalize (xg s ops).1 = s' at kc c2
  have kl := q28 s' (n : Nat) c2.ok.good.ok (by have := c2.few; omega) c2.v c2.keys
  have hlr := qy7 c2.ok.good.ok c2.mw c2.rep
  rw [c2.ro] at hlr
  rw [hlr] at kl
  have kq := qyr b b c2.mw.sm
  simp only [decide_true] at kq
  simp only [stoO, mapO, ql] at kx kc kl kq
  have hlen : ((ops.length : Int) != 1) = false := by rw [c3]; rfl
  try (refine ev ?_; try exact True.intro)
  (repeat (with_reducible refine ob ?_)); first | refine cl F25 (kx) ?_ | refine clF F25 (kx) (fun _ => by (refine ev5 @qe.eq_1 @ql.eq_1 @qk.eq_1 @vq.eq_1 @qp.eq_1 ?_; try exact True.intro)) ?_
  try (refine ev1 @hlen ?_; try exact True.intro)
  refine clO [2, 1, 4] F29 kc ?_
  try (refine ev ?_; try exact True.intro)
  (repeat (with_reducible refine ob ?_)); refine no_ ?_
  try (refine ev ?_; try exact True.intro)
  (repeat (with_reducible refine ob ?_)); refine clO [2, 4] F32 (kl) ?_ (hfit := by first | exact ⟨qa, trivial⟩ | exact ⟨qa, qa, trivial⟩ | (refine ev5 @qe.eq_1 @ql.eq_1 @qk.eq_1 @vq.eq_1 @qp.eq_1 ?_; try exact True.intro))
  try (refine ev ?_; try exact True.intro)
  (repeat (with_reducible refine ob ?_))
  try (refine ev ?_; try exact True.intro)
  (repeat (with_reducible refine ob ?_)); first | refine cl F40 (kq) ?_ | refine clF F40 (kq) (fun _ => by (refine ev5 @qe.eq_1 @ql.eq_1 @qk.eq_1 @vq.eq_1 @qp.eq_1 ?_; try exact True.intro)) ?_
  try (refine ev ?_; try exact True.intro)
  (repeat (with_reducible refine ob ?_)); refine no_ ?_
  try (refine ev ?_; try exact True.intro)
  refine q69 [0, 4, 2, 3, 1, 5] [xf b, mapO s'.m, stoO s' 1, xf b, mapO s.m, xf b] ?_ (by try (refine ev3 @mapO.eq_1 @stoO.eq_1 @xf.eq_1 ?_; try exact True.intro)) (hp := rfl)
  refine pu ?_
  try (refine ev3 @mapO.eq_1 @stoO.eq_1 @xf.eq_1 ?_; try exact True.intro)
  refine ⟨⟨(i + 1, b, s'), hil, c2⟩, ?_, by dsimp only; omega⟩
  try (refine ev5 @SuS.eq_1 @mapO.eq_1 @stoO.eq_1 @xf.eq_1 @hwi ?_; try exact True.intro)
 ·try (refine ev ?_; try exact True.intro)
end Go.Proofs.YtkcdbcbpbolgkaaGreatDoor
namespace Go.Proofs.YtkcdbcbpbolgkaaGreatDoor
open Go.Abs
set_option linter.unusedSimpArgs false
set_option maxRecDepth 100000
theorem qza : Tryz.prog.cellsOf 105 = 3 := by kernel_rfl
theorem q9o {n : Nat} {ds : List D} (h : Shp Tryz.prog (n + 2) 105 ds) : ∃ x : Stp, ds = vq x ∧ True := by
 rw [Shp] at h
 simp only [Tryz.underlying105, q0s] at h
 obtain ⟨_, _, rfl, h1, _, _, rfl, h2, _, _, rfl, h3, rfl⟩ := h
 obtain ⟨a1, rfl, _⟩ := q2o h1
 obtain ⟨a2, rfl, _⟩ := q2o h2
 obtain ⟨a3, rfl, _⟩ := q2o h3
 exact ⟨⟨a1, a2, a3⟩, rfl, trivial⟩
theorem q60 {n : Nat} {ds : List D} (h : Shp Tryz.prog (n + 4) 101 ds) : ∃ l : List Stp, ds = [.sl 3 (l.map vq)] ∧ l.length ≤ maxLen := by
 rw [Shp] at h
 simp only [Tryz.underlying101] at h
 obtain ⟨r, rfl, hl, h⟩ := h
 obtain ⟨l, rfl, _⟩ := qpd fun r hr => q9o (h r hr)
 exact ⟨l, by rw [qza], by simpa using hl⟩
theorem q61 (l : List Stp) : argS Tryz.prog 101 [.sl 3 (l.map vq)] = .d (.sl 3 (l.map vq)) := by simp only [argS, Tryz.underlying101]; rfl
end Go.Proofs.YtkcdbcbpbolgkaaGreatDoor
