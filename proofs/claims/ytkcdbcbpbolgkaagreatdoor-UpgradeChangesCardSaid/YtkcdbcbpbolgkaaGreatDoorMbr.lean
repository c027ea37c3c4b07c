/- Texts Gh, Gi, Gj, Gk, Gl, Tb, Tc, Tj, Ta. -/
import Derived.Test.YtkcdbcbpbolgkaaGreatDoorMbq
import Derived.Calls
import Derived.Orders
import Derived.Tactics
import Derived.Laws.AppendOwn
import Derived.Laws.Slices
import Derived.Laws.Closers25
import Derived.Laws.StructEq
import Derived.Laws.BytesString
import Derived.Laws.CopyRow
import Derived.MapKept
import Derived.Maps.RangeRun
import Derived.TacticsIn
import Derived.OrdersIn
import Derived.RangeFuncRecord
import Derived.RangeFuncLeaves
import Derived.IntWalk
import Derived.ProofKit
import Derived.OpenShut
import Derived.Carry
import Derived.Test.YtkcdbcbpbolgkaaGreatDoorProg
import Derived.KernelRfl
import Derived.OwnWalkIn
import Derived.TacticsInMore
import Derived.LoopIn
import Derived.WalkKit
import Derived.Lib.Strings
import Derived.Lib.Slices
import Derived.Lib.Walk
import Derived.Lib.Bytealg
import Derived.Shelf.SlSortCmp.WholeK
import Derived.Shelf.SlSortCmp.NoneTotal
import Derived.Shelf.Spec.SlicesInsertGrow

namespace Go.Proofs.YtkcdbcbpbolgkaaGreatDoor
open Go.Abs
set_option linter.unusedSimpArgs false
noncomputable section
set_option maxRecDepth 100000
set_option linter.defProp false
def d74b := cut Tryz.prog Tryz.f74 news [42] [9, 10] true
@[go_sem] def E74b := qm d74b
def F74b := fnC d74b follows Tryz.func74
end
theorem qzg : (Tryz.prog.funcs[142]?).any (fun fn => fn.body.isSome && !(fn.name == "runtime.NumGoroutine")) = true := by rw [Tryz.func142]; rfl
theorem qft : ∀ l : List Ue, qap (zq l) = true
 | [] => rfl
 | x :: l => by
  rw [xw]
  have := qft l
  try (refine ev1 @this ?_; try exact True.intro)
theorem qn6 (ι : List Nat) : ∀ l : List Ue, (zq l).map (ASlot.ren1 ι) = zq l
 | [] => rfl
 | x :: l => by
  rw [xw]
  have := qn6 ι l
  try (refine ev2 @List.map_cons.{0,0} @this ?_; try exact True.intro)
attribute [go_sem] qft qn6
theorem q8q (l : List Ue) : ∀ r ∈ l.map qf, r.length = 4 := by
 intro r hr
 obtain ⟨x, _, rfl⟩ := List.mem_map.1 hr
 rfl
theorem xgb (l : List Ue) : ∀ d ∈ (l.map qf).flatten, d.isCell = true := by
 intro d hd
 obtain ⟨r, hr, hd⟩ := List.mem_flatten.1 hd
 obtain ⟨x, _, rfl⟩ := List.mem_map.1 hr
 simp only [qf, List.mem_cons, List.not_mem_nil, or_false] at hd
 rcases hd with rfl | rfl | rfl | rfl <;> rfl
def newE (roles s : Int) : Ue := ⟨s, 1, List.replicate roles.toNat false, List.replicate roles.toNat false⟩
def wy (m : Mg) (s : Int) : Mg × Int :=
 if !x9 m then (⟨0, []⟩, 1) else if decide (s < 1) || decide (s > 32) then (⟨0, []⟩, 2) else if (qy m s).2 then (⟨0, []⟩, 9)
 else (⟨m.roles, m.ents.take (qy m s).1 ++ [newE m.roles s] ++ m.ents.drop (qy m s).1⟩, 0)
theorem qb6 {m : Mg} (h : x9 m = true) : 1 ≤ m.roles ∧ m.roles ≤ 6 := by
 simp only [x9, Bool.and_eq_true, decide_eq_true_eq] at h
 exact h.2
theorem q8r (m : Mg) (s : Int) : (qy m s).1 ≤ m.ents.length := by
 unfold qy
 split
 ·exact Nat.le_of_lt (qjl (by assumption)).2
 ·exact Nat.le_refl _
set_option maxRecDepth 10000 in
theorem q4k (m : Mg) (s : Int) (hm : m.Sm) : qg Tryz.prog 74 [.d (.agg (qj m)), .d (.int .i64 s)] [] (.tup [.d (.agg (qj (wy m s).1)), .d (.int .i64 (wy m s).2)]) [] := by
 have hl := hm.1
 refine F74b.goT ?_
 try (refine ev1 @qj.eq_1 ?_; try exact True.intro)
 (repeat (with_reducible refine ob ?_)); first | refine cl F69 (vz m hm) ?_ | refine clF F69 (vz m hm) (fun _ => by (refine ev2 @qf.eq_1 @qj.eq_1 ?_; try exact True.intro)) ?_
 try (refine ev ?_; try exact True.intro)
 (repeat (with_reducible refine ob ?_)); refine xk _ (fun h => ?_) (fun h => ?_)
 ·have hb : wy m s = (⟨0, []⟩, 1) := by simp only [wy, h, if_true]
  try (refine ev2 @hb @List.map_nil.{0,0} ?_; try exact True.intro)
  refine pu ?_
  try (refine ev ?_; try exact True.intro)
 have hv : x9 m = true := by simpa using h
 obtain ⟨hr1, hr2⟩ := qb6 hv
 try (refine ev ?_; try exact True.intro)
 (repeat (with_reducible refine ob ?_)); refine xk _ (fun h => ?_) (fun h => ?_)
 ·have hb : wy m s = (⟨0, []⟩, 2) := by simp only [wy, hv, h]; rfl
  try (refine ev2 @hb @List.map_nil.{0,0} ?_; try exact True.intro)
  refine pu ?_
  try (refine ev ?_; try exact True.intro)
 have hs := h
 try (refine ev ?_; try exact True.intro)
 (repeat (with_reducible refine ob ?_)); first | refine cl F77 (qdr m s hm) ?_ | refine clF F77 (qdr m s hm) (fun _ => by (refine ev2 @qf.eq_1 @qj.eq_1 ?_; try exact True.intro)) ?_
 try (refine ev ?_; try exact True.intro)
 (repeat (with_reducible refine ob ?_)); refine xk _ (fun h => ?_) (fun h => ?_)
 ·have hb : wy m s = (⟨0, []⟩, 9) := by simp only [wy, hv, hs, h]; rfl
  try (refine ev2 @hb @List.map_nil.{0,0} ?_; try exact True.intro)
  refine pu ?_
  try (refine ev ?_; try exact True.intro)
 have hb : wy m s = (⟨m.roles, m.ents.take (qy m s).1 ++ [newE m.roles s] ++ m.ents.drop (qy m s).1⟩, 0) := by simp only [wy, hv, hs, h]; rfl
 try (refine ev1 @hb ?_; try exact True.intro)
 refine clO [2, 3, 4] xia (q7c m hm) ?_ (hfit := by first | exact ⟨qc, trivial⟩ | (refine ev1 @qj.eq_1 ?_; try exact True.intro))
 try (refine ev ?_; try exact True.intro)
 refine qm0 (.cell 0 1) 4 4 (m.ents.map qf) ?_ rfl (q8q _) (xgb _) (D.okWR_noPtr (qdq _)) (hn := by show (0 : Nat) ≠ 4; decide) (hp := by simp only [List.length_map]; rfl)
 refine pu ?_
 try (refine ev ?_; try exact True.intro)
 (repeat (with_reducible refine ob ?_))
 have hrow : qf (newE m.roles s) = [.int .i64 s, .int .i64 1, .sl 1 (List.replicate m.roles.toNat [.bool false]), .sl 1 (List.replicate m.roles.toNat [.bool false])] := by simp only [qf, newE, List.map_replicate, encB]
 have hnew : (m.ents.map qf).take (qy m s).1 ++ [qf (newE m.roles s)] ++ (m.ents.map qf).drop (qy m s).1 = (m.ents.take (qy m s).1 ++ [newE m.roles s] ++ m.ents.drop (qy m s).1).map qf := by simp
 have hins := q8p (m.ents.map qf) (qf (newE m.roles s)) (qy m s).1 (by rw [List.length_map]; exact q8r m s) (by rw [List.length_map]; exact hl) rfl
 rw [hnew] at hins
 refine qfa hins qzg rfl ⟨by try (refine ev1 @hrow ?_; try exact True.intro), by try (refine ev2 @qdq @qg4 ?_; try exact True.intro), by simp only [xe]; simp, by simp only [xe]; simp⟩ (by simp [ASlot.toks]) (by simp [ASlot.toks]) ?_
 try (refine ev ?_; try exact True.intro)
 (repeat (with_reducible refine ob ?_))
 refine xbd (.cell 0 1) 640 4 ((m.ents.take (qy m s).1 ++ [newE m.roles s] ++ m.ents.drop (qy m s).1).map qf) ?_
 refine pu ?_
 try (refine ev ?_; try exact True.intro)
 refine pu ?_
 try (refine ev ?_; try exact True.intro)
 trace_state
end Go.Proofs.YtkcdbcbpbolgkaaGreatDoor
namespace Go.Proofs.YtkcdbcbpbolgkaaGreatDoor
open Go.Abs
set_option linter.unusedSimpArgs false
noncomputable section
set_option maxRecDepth 100000
set_option linter.defProp false
def d75b := cut Tryz.prog Tryz.f75 news [] [16] true
@[go_sem] def E75b := qm d75b
def F75b := fnC d75b follows Tryz.func75
end
def ju (p : Pk) (x : Ue) : Ue :=
 if p.label == 2 then { x with opened := x.opened.set p.from_.toNat true } else { x with moved := x.moved.set p.from_.toNat true }
def w7 (x : Ue) : Ue := { x with phase := xz x }
def qbc (p : Pk) (x : Ue) : List Bool := if p.label == 2 then x.opened else x.moved
def kw (m : Mg) (p : Pk) : Mg × Int :=
 if !x9 m || p.kind != 4 || !xy p || decide (p.from_ ≥ m.roles) then (⟨0, []⟩, 1)
 else if !(qy m p.sess).2 then (⟨0, []⟩, 8)
 else if (qbc p (m.ents.getD (qy m p.sess).1 default)).getD p.from_.toNat false then (⟨0, []⟩, 21)
 else if p.label == 2 && (m.ents.getD (qy m p.sess).1 default).phase == 1 then (⟨0, []⟩, 7)
 else (⟨m.roles, m.ents.set (qy m p.sess).1 (w7 (ju p (m.ents.getD (qy m p.sess).1 default)))⟩, 0)
theorem qjy {s : ASlot} (hs : qap [s] = true) : ∀ (l : List ASlot) (i : Nat), qap l = true → qap (l.set i s) = true
 | [], _, h => h
 | _ :: l, 0, h => by
  rw [List.set_cons_zero]
  simp only [qap, Bool.and_eq_true] at h hs ⊢
  exact ⟨hs.1, h.2⟩
 | x :: l, i + 1, h => by
  rw [List.set_cons_succ]
  simp only [qap, Bool.and_eq_true] at h ⊢
  exact ⟨h.1, qjy hs l i h.2⟩
theorem qzh {l : List Ue} {k a b : Nat} {x : Ue} : qap (refA (zq l) k a b x) = true := qjy rfl _ _ (qjy rfl _ _ (qft l))
theorem qn7 : ∀ l : List Bool, qap (l.map fun b => .d (.bool b)) = true
 | [] => rfl
 | x :: l => by
  have := qn7 l
  try (refine ev2 @List.map_cons.{0,0} @this ?_; try exact True.intro)
theorem xdb (ι : List Nat) (l : List Bool) : (l.map fun b => ASlot.d (.bool b)).map (ASlot.ren1 ι) = l.map fun b => .d (.bool b) := by
 rw [List.map_map]; rfl
theorem xdc {l : List Ue} {k : Nat} {x : Ue} (ι : List Nat) (a b : Nat) : (refA (zq l) k a b x).map (ASlot.ren1 ι) = refA (zq l) k (ι.getD a 0) (ι.getD b 0) x := by
 rw [refA, List.map_set, List.map_set, qn6]
 rfl
attribute [go_sem] qzh qn7 xdb xdc
theorem xis {l : List Ue} {k a b j : Nat} {x : Ue} (hk : k < l.length) (hj : j < 2) : (refA (zq l) k a b x).getD (k * 4 + j) .bad = .d ((qf l[k]).getD j .nilsl) := by
 rw [List.getD_eq_getElem?_getD, refA, List.getElem?_set_ne (by omega), List.getElem?_set_ne (by omega), qfg l k j hk (by omega)]; rfl
theorem q8s {l : List Ue} {k a b : Nat} {x : Ue} (hk : k < l.length) : (refA (zq l) k a b x).getD (k * 4 + 1) .bad = .d (.int .i64 l[k].phase) := xis hk (by decide)
theorem qsv {l : List Ue} {k a b : Nat} {x : Ue} (hk : k < l.length) : (refA (zq l) k a b x).getD (k * 4 + 2) .bad = .d (.ref a 0 1 x.moved.length) := by
 have hf := qcs l
 rw [List.getD_eq_getElem?_getD, refA, List.getElem?_set_ne (by omega), List.getElem?_set_self (by omega)]; rfl
theorem qsw {l : List Ue} {k a b : Nat} {x : Ue} (hk : k < l.length) : (refA (zq l) k a b x).getD (k * 4 + 3) .bad = .d (.ref b 0 1 x.opened.length) := by
 have hf := qcs l
 rw [List.getD_eq_getElem?_getD, refA, List.getElem?_set_self (by rw [List.length_set]; omega)]; rfl
theorem q1j {l : List Bool} {i : Nat} (h : i < l.length) : (l.map fun b => ASlot.d (.bool b)).getD i .bad = .d (.bool (l.getD i false)) := by
 rw [List.getD_eq_getElem?_getD, List.getElem?_map, List.getD_eq_getElem?_getD, List.getElem?_eq_getElem h]; rfl
theorem qiy (l : List Bool) (i : Nat) (b : Bool) : (l.map fun b => ASlot.d (.bool b)).set i (.d (.bool b)) = (l.set i b).map fun b => .d (.bool b) := by rw [List.map_set]
theorem xj5 {m : Mg} {p : Pk} (h : (!x9 m || p.kind != 4 || !xy p || decide (p.from_ ≥ m.roles)) = false) : x9 m = true ∧ p.kind = 4 ∧ xy p = true ∧ p.from_ < m.roles ∧ 0 ≤ p.from_ := by
 simp only [Bool.or_eq_false_iff, Bool.not_eq_false', bne_eq_false_iff_eq, decide_eq_false_iff_not] at h
 obtain ⟨⟨⟨h1, h2⟩, h3⟩, h4⟩ := h
 refine ⟨h1, h2, h3, by omega, ?_⟩
 simp [xy, order, role, h2] at h3
 omega
theorem qgc {m : Mg} (h : x9 m = true) {k : Nat} (hk : k < m.ents.length) : (m.ents[k].moved.length : Int) = m.roles ∧ (m.ents[k].opened.length : Int) = m.roles ∧ m.ents[k].phase = xz m.ents[k] := by
 simp only [x9, Bool.and_eq_true] at h
 have := zo.1 h.1 k hk
 simp only [qcr, ja hk, Bool.not_eq_true', Bool.or_eq_false_iff, bne_eq_false_iff_eq] at this
 exact ⟨this.1.1.1.2, this.1.1.2, this.2⟩
theorem qk0 (id es e : Nat) (rows r : List (List D)) (h : D.noPtrR r = true) : ((ASlot.d (.sl e r)).frz id es rows).only (neId id) = .d (.sl e r) := by simp only [ASlot.frz, D.frz, ASlot.only, ASlot.okS, D.okW, D.okWR_noPtr h, if_true]
theorem qwn (id es : Nat) (rows : List (List D)) : ∀ l : List Ue, (zq l).map (fun s => (s.frz id es rows).only (neId id)) = zq l
 | [] => rfl
 | x :: l => by
  rw [xw, List.map_cons, List.map_cons, List.map_cons, List.map_cons, qwn id es rows l, qk0 _ _ _ _ _ (wk _), qk0 _ _ _ _ _ (wk _)]
  rfl
theorem qsx (l : List Ue) (i j : Nat) (u v : ASlot) (id es : Nat) (rows : List (List D)) : (((zq l).set i u).set j v).map (fun s => (s.frz id es rows).only (neId id)) = ((zq l).set i ((u.frz id es rows).only (neId id))).set j ((v.frz id es rows).only (neId id)) := by
 rw [List.map_set, List.map_set, qwn]
theorem q1k (l : List Ue) (k a b : Nat) (x : Ue) (id es : Nat) (rows : List (List D)) : (refA (zq l) k a b x).map (fun s => (s.frz id es rows).only (neId id)) =
  ((zq l).set (k * 4 + 2) (((ASlot.d (.ref a 0 1 x.moved.length)).frz id es rows).only (neId id))).set (k * 4 + 3) (((ASlot.d (.ref b 0 1 x.opened.length)).frz id es rows).only (neId id)) := qsx ..
theorem qlq (l : List Bool) (id es : Nat) (rows : List (List D)) : (l.map fun b => ASlot.d (.bool b)).map (fun s => (s.frz id es rows).only (neId id)) = l.map fun b => .d (.bool b) := by
 rw [List.map_map]; rfl
theorem qa9 (l : List Bool) : (l.map fun b => ASlot.d (.bool b)).map ASlot.cellD = (l.map encB).flatten := by
 induction l with
 | nil => rfl
 | cons b l ih => simp only [List.map_cons, List.flatten_cons, encB, List.cons_append, List.nil_append, ih]; rfl
theorem qen (l : List Bool) : (l.map fun b => ASlot.d (.bool b)).all ASlot.isCellD = true := by
 rw [List.all_map]
 exact List.all_eq_true.2 fun b _ => rfl
theorem qeo (l : List Bool) : ∀ r ∈ l.map encB, r.length = 1 := by
 intro r hr
 obtain ⟨x, _, rfl⟩ := List.mem_map.1 hr
 rfl
theorem qn8 (l : List Ue) : (zq l).map ASlot.cellD = (l.map qf).flatten := by
 induction l with
 | nil => rfl
 | cons x l ih => rw [xw]; simp only [List.map_cons, List.flatten_cons, qf, List.cons_append, List.nil_append, ih]; rfl
theorem qwo (l : List Ue) : (zq l).all ASlot.isCellD = true := by
 induction l with
 | nil => rfl
 | cons x l ih => rw [xw]; simp only [List.all_cons, ih]; rfl
theorem qjz : ∀ (l : List Ue) (k : Nat) (y : Ue) (hk : k < l.length), y.sess = l[k].sess → y.phase = l[k].phase →
  ((zq l).set (k * 4 + 2) (.d (.sl 1 (y.moved.map encB)))).set (k * 4 + 3) (.d (.sl 1 (y.opened.map encB))) = zq (l.set k y)
 | x :: l, 0, y, _, h1, h2 => by
  simp only [List.getElem_cons_zero] at h1 h2
  rw [List.set_cons_zero, xw, xw, h1, h2]; rfl
 | x :: l, k + 1, y, hk, h1, h2 => by
  rw [List.set_cons_succ, xw, xw, ← qjz l k y (by simpa using hk) (by simpa using h1) (by simpa using h2), show (k + 1) * 4 + 2 = (k * 4 + 2) + 1 + 1 + 1 + 1 by omega, show (k + 1) * 4 + 3 = (k * 4 + 3) + 1 + 1 + 1 + 1 by omega]
  simp only [List.set_cons_succ]
theorem qcw : ∀ (l : List Ue) (k : Nat) (y : Ue), k < l.length → (zq (l.set k y)).set (k * 4 + 1) (.d (.int .i64 (xz y))) = zq (l.set k (w7 y))
 | x :: l, 0, y, _ => by
  rw [List.set_cons_zero, List.set_cons_zero, xw, xw]; rfl
 | x :: l, k + 1, y, hk => by
  rw [List.set_cons_succ, List.set_cons_succ, xw, xw, ← qcw l k y (by simpa using hk), show (k + 1) * 4 + 1 = (k * 4 + 1) + 1 + 1 + 1 + 1 by omega]
  simp only [List.set_cons_succ]
theorem qj0 : ∀ (l : List Ue) (k : Nat) (y : Ue), k < l.length → ((zq (l.set k y)).drop (k * 4)).take 4 = [.d (.int .i64 y.sess), .d (.int .i64 y.phase), .d (.sl 1 (y.moved.map encB)), .d (.sl 1 (y.opened.map encB))]
 | x :: l, 0, y, _ => by
  rw [List.set_cons_zero, xw]; rfl
 | x :: l, k + 1, y, hk => by
  rw [List.set_cons_succ, xw, ← qj0 l k y (by simpa using hk), show (k + 1) * 4 = k * 4 + 1 + 1 + 1 + 1 by omega]
  simp only [List.drop_succ_cons]
theorem qwp {m : Mg} {s : Int} (h : (qy m s).2 = true) : (qy m s).1 < m.ents.length := by
 unfold qy at h ⊢
 split at h
 ·rename_i h1
  rw [if_pos h1]
  exact (qjl h1).2
 ·cases h
set_option maxRecDepth 10000 in
theorem qn9 (m : Mg) (p : Pk) (hm : m.Sm) (hp : p.Sm) : qg Tryz.prog 75 [.d (.agg (qj m)), .d (.agg (qq p))] [] (.tup [.d (.agg (qj (kw m p).1)), .d (.int .i64 (kw m p).2)]) [] := by
 have hl := hm.1
 refine F75b.goT ?_
 try (refine ev2 @qj.eq_1 @qq.eq_1 ?_; try exact True.intro)
 (repeat (with_reducible refine ob ?_)); first | refine cl F69 (vz m hm) ?_ | refine clF F69 (vz m hm) (fun _ => by (refine ev3 @qf.eq_1 @qj.eq_1 @qq.eq_1 ?_; try exact True.intro)) ?_
 try (refine ev ?_; try exact True.intro)
 (repeat (with_reducible refine ob ?_))
 (repeat (with_reducible refine ob ?_)); first | refine cl F70 (qba p hp.v hp.c) ?_ | refine clF F70 (qba p hp.v hp.c) (fun _ => by (refine ev3 @qf.eq_1 @qj.eq_1 @qq.eq_1 ?_; try exact True.intro)) ?_
 try (refine ev ?_; try exact True.intro)
 (repeat (with_reducible refine ob ?_)); refine xk _ (fun h => ?_) (fun h => ?_)
 ·have hb : kw m p = (⟨0, []⟩, 1) := by simp only [kw, h, if_true]
  try (refine ev2 @hb @List.map_nil.{0,0} ?_; try exact True.intro)
  refine pu ?_
  try (refine ev ?_; try exact True.intro)
 have h0 := h
 try (refine ev ?_; try exact True.intro)
 (repeat (with_reducible refine ob ?_)); first | refine cl F77 (qdr m p.sess hm) ?_ | refine clF F77 (qdr m p.sess hm) (fun _ => by (refine ev3 @qf.eq_1 @qj.eq_1 @qq.eq_1 ?_; try exact True.intro)) ?_
 try (refine ev ?_; try exact True.intro)
 (repeat (with_reducible refine ob ?_)); refine xk _ (fun h => ?_) (fun h => ?_)
 ·have hb : kw m p = (⟨0, []⟩, 8) := by simp only [kw, h0, h]; rfl
  try (refine ev2 @hb @List.map_nil.{0,0} ?_; try exact True.intro)
  refine pu ?_
  try (refine ev ?_; try exact True.intro)
 have h1 := h
 have hk : (qy m p.sess).1 < m.ents.length := qwp (by simpa using h)
 have hx := hm.2 _ (List.getElem_mem hk)
 obtain ⟨r1, r2, r3, r4, r5⟩ := xj5 h0
 obtain ⟨v1, v2, _⟩ := qgc r1 hk
 have h7 := qyw m hm _ hk
 have hfl := qcs m.ents
 have hu : kw m p = (if (qbc p m.ents[(qy m p.sess).1]).getD p.from_.toNat false then (⟨0, []⟩, 21)
   else if p.label == 2 && m.ents[(qy m p.sess).1].phase == 1 then (⟨0, []⟩, 7)
   else (⟨m.roles, m.ents.set (qy m p.sess).1 (w7 (ju p m.ents[(qy m p.sess).1]))⟩, 0)) := by
  simp only [kw, h0, h1, ja hk]; rfl
 rw [hu]
 clear hu
 try (refine ev ?_; try exact True.intro)
 refine clO [3, 4, 5, 6, 7] xic h7 ?_ (hfit := by first | exact ⟨qc, trivial⟩ | (refine ev1 @qj.eq_1 ?_; try exact True.intro))
 clear h7
 generalize (qy m p.sess).1 = k at hk hx v1 v2 ⊢
 try (refine ev ?_; try exact True.intro)
 (repeat (with_reducible refine ob ?_))
 refine xk _ (fun hl2 => ?_) (fun hl2 => ?_)
 ·simp only [qbc, ju, hl2, if_true, Bool.true_and]
  try simp only [qsv hk, qsw hk, go_sem, Nat.reduceAdd, Nat.reduceMul, Nat.reduceSub, Nat.reduceEqDiff, Nat.reduceLT, Nat.reduceLeDiff, Nat.reduceBEq, reduceIte, reduceCtorEq, Int.reduceAdd, Int.reduceLT, Int.reduceLE, Int.reduceGT, Int.reduceGE, Int.reduceEq, Int.reduceNe, Int.reduceBEq, Int.reduceBNe, Int.reduceToNat, Int.reduceNeg]
  (repeat (with_reducible refine ob ?_))
  try simp only [qsv hk, qsw hk, Nat.mul_one, q1j (l := m.ents[k].opened) (i := p.from_.toNat) (by omega), go_sem, Nat.reduceAdd, Nat.reduceMul, Nat.reduceSub, Nat.reduceEqDiff, Nat.reduceLT, Nat.reduceLeDiff, Nat.reduceBEq, reduceIte, reduceCtorEq, Int.reduceAdd, Int.reduceLT, Int.reduceLE, Int.reduceGT, Int.reduceGE, Int.reduceEq, Int.reduceNe, Int.reduceBEq, Int.reduceBNe, Int.reduceToNat, Int.reduceNeg]
  refine xk _ (fun h3 => ?_) (fun h3 => ?_)
  ·try (refine ev2 @h3 @List.map_nil.{0,0} ?_; try exact True.intro)
   refine pu ?_
   try (refine ev ?_; try exact True.intro)
  try simp only [q8s hk, go_sem, Nat.reduceAdd, Nat.reduceMul, Nat.reduceSub, Nat.reduceEqDiff, Nat.reduceLT, Nat.reduceLeDiff, Nat.reduceBEq, reduceIte, reduceCtorEq, Int.reduceAdd, Int.reduceLT, Int.reduceLE, Int.reduceGT, Int.reduceGE, Int.reduceEq, Int.reduceNe, Int.reduceBEq, Int.reduceBNe, Int.reduceToNat, Int.reduceNeg]
  (repeat (with_reducible refine ob ?_))
  refine xk _ (fun h4 => ?_) (fun h4 => ?_)
  ·have h4' : (m.ents[k].phase == 1) = true := by simpa [hl2] using h4
   try (refine ev4 @h3 @h4' @hl2 @List.map_nil.{0,0} ?_; try exact True.intro)
   refine pu ?_
   try (refine ev ?_; try exact True.intro)
  have h4' : (m.ents[k].phase == 1) = false := by simpa [hl2] using h4
  simp only [h3, h4', Bool.false_eq_true, if_false]
  try (refine ev4 @h3 @hl2 @Nat.mul_one @qiy ?_; try exact True.intro)
  (repeat (with_reducible refine ob ?_))
  have hy : ∀ y : Ue, y = { m.ents[k] with opened := m.ents[k].opened.set p.from_.toNat true } → y.Sm := by rintro y rfl; exact ⟨by simpa using hx.1, by simpa using hx.2⟩
  generalize hyd : { m.ents[k] with opened := m.ents[k].opened.set p.from_.toNat true } = y at hy ⊢
  have hys : y.sess = m.ents[k].sess := by rw [← hyd]
  have hyp : y.phase = m.ents[k].phase := by rw [← hyd]
  have hym : m.ents[k].moved = y.moved := by rw [← hyd]
  have hyo : m.ents[k].opened.set p.from_.toNat true = y.opened := by rw [← hyd]
  have hml : m.ents[k].moved.length = y.moved.length := by simp [← hyd]
  have hol : m.ents[k].opened.length = y.opened.length := by simp [← hyd]
  simp only [hml, hol, hym, hyo]
  refine qfb 6 1 (y.moved.map encB) ?_ (qa9 _) (qen _) (qeo _) (D.okWR_noPtr (wk _))
  simp only [qkl, Fr.mapS, List.map_cons, List.map_nil, AObj.mapS, q1k, hml, hol, qlq, List.set_cons_zero, List.set_cons_succ]
  try (refine ev ?_; try exact True.intro)
  refine qfb 7 1 (y.opened.map encB) ?_ (qa9 _) (qen _) (qeo _) (D.okWR_noPtr (wk _))
  simp only [qkl, Fr.mapS, List.map_cons, List.map_nil, AObj.mapS, qsx, qk0 _ _ _ _ _ (wk _), List.set_cons_zero, List.set_cons_succ]
  try simp only [qjz m.ents k y hk hys hyp, go_sem, Nat.reduceAdd, Nat.reduceMul, Nat.reduceSub, Nat.reduceEqDiff, Nat.reduceLT, Nat.reduceLeDiff, Nat.reduceBEq, reduceIte, reduceCtorEq, Int.reduceAdd, Int.reduceLT, Int.reduceLE, Int.reduceGT, Int.reduceGE, Int.reduceEq, Int.reduceNe, Int.reduceBEq, Int.reduceBNe, Int.reduceToNat, Int.reduceNeg]
  refine pu ?_
  try simp only [qj0 m.ents k y hk, List.length_set, go_sem, Nat.reduceAdd, Nat.reduceMul, Nat.reduceSub, Nat.reduceEqDiff, Nat.reduceLT, Nat.reduceLeDiff, Nat.reduceBEq, reduceIte, reduceCtorEq, Int.reduceAdd, Int.reduceLT, Int.reduceLE, Int.reduceGT, Int.reduceGE, Int.reduceEq, Int.reduceNe, Int.reduceBEq, Int.reduceBNe, Int.reduceToNat, Int.reduceNeg]
  (repeat (with_reducible refine ob ?_))
  (repeat (with_reducible refine ob ?_)); first | refine cl F134 (qae y (hy y rfl)) ?_ | refine clF F134 (qae y (hy y rfl)) (fun _ => by (refine ev3 @qf.eq_1 @qj.eq_1 @qq.eq_1 ?_; try exact True.intro)) ?_
  try (refine ev2 @List.length_set.{0} (qcw m.ents k y hk) ?_; try exact True.intro)
  (repeat (with_reducible refine ob ?_))
  try simp only [qcw m.ents k y hk, go_sem, Nat.reduceAdd, Nat.reduceMul, Nat.reduceSub, Nat.reduceEqDiff, Nat.reduceLT, Nat.reduceLeDiff, Nat.reduceBEq, reduceIte, reduceCtorEq, Int.reduceAdd, Int.reduceLT, Int.reduceLE, Int.reduceGT, Int.reduceGE, Int.reduceEq, Int.reduceNe, Int.reduceBEq, Int.reduceBNe, Int.reduceToNat, Int.reduceNeg]
  refine qfb 5 4 ((m.ents.set k (w7 y)).map qf) ?_ (qn8 _) (qwo _) (q8q _) (D.okWR_noPtr (qdq _))
  refine pu ?_
  try (refine ev2 @List.length_set.{0} @List.length_map.{0,0} ?_; try exact True.intro)
 ·simp only [qbc, ju, hl2, Bool.false_and, Bool.false_eq_true, if_false]
  try simp only [qsv hk, qsw hk, go_sem, Nat.reduceAdd, Nat.reduceMul, Nat.reduceSub, Nat.reduceEqDiff, Nat.reduceLT, Nat.reduceLeDiff, Nat.reduceBEq, reduceIte, reduceCtorEq, Int.reduceAdd, Int.reduceLT, Int.reduceLE, Int.reduceGT, Int.reduceGE, Int.reduceEq, Int.reduceNe, Int.reduceBEq, Int.reduceBNe, Int.reduceToNat, Int.reduceNeg]
  (repeat (with_reducible refine ob ?_))
  try simp only [qsv hk, qsw hk, Nat.mul_one, q1j (l := m.ents[k].moved) (i := p.from_.toNat) (by omega), go_sem, Nat.reduceAdd, Nat.reduceMul, Nat.reduceSub, Nat.reduceEqDiff, Nat.reduceLT, Nat.reduceLeDiff, Nat.reduceBEq, reduceIte, reduceCtorEq, Int.reduceAdd, Int.reduceLT, Int.reduceLE, Int.reduceGT, Int.reduceGE, Int.reduceEq, Int.reduceNe, Int.reduceBEq, Int.reduceBNe, Int.reduceToNat, Int.reduceNeg]
  refine xk _ (fun h3 => ?_) (fun h3 => ?_)
  ·try (refine ev2 @h3 @List.map_nil.{0,0} ?_; try exact True.intro)
   refine pu ?_
   try (refine ev ?_; try exact True.intro)
  try simp only [q8s hk, go_sem, Nat.reduceAdd, Nat.reduceMul, Nat.reduceSub, Nat.reduceEqDiff, Nat.reduceLT, Nat.reduceLeDiff, Nat.reduceBEq, reduceIte, reduceCtorEq, Int.reduceAdd, Int.reduceLT, Int.reduceLE, Int.reduceGT, Int.reduceGE, Int.reduceEq, Int.reduceNe, Int.reduceBEq, Int.reduceBNe, Int.reduceToNat, Int.reduceNeg]
  (repeat (with_reducible refine ob ?_))
  try (refine ev2 @hl2 @Bool.false_and ?_; try exact True.intro)
  (repeat (with_reducible refine ob ?_)); refine no_ ?_
  simp only [h3, Bool.false_eq_true, if_false]
  try (refine ev4 @h3 @hl2 @Nat.mul_one @qiy ?_; try exact True.intro)
  (repeat (with_reducible refine ob ?_))
  have hy : ∀ y : Ue, y = { m.ents[k] with moved := m.ents[k].moved.set p.from_.toNat true } → y.Sm := by rintro y rfl; exact ⟨by simpa using hx.1, by simpa using hx.2⟩
  generalize hyd : { m.ents[k] with moved := m.ents[k].moved.set p.from_.toNat true } = y at hy ⊢
  have hys : y.sess = m.ents[k].sess := by rw [← hyd]
  have hyp : y.phase = m.ents[k].phase := by rw [← hyd]
  have hym : m.ents[k].moved.set p.from_.toNat true = y.moved := by rw [← hyd]
  have hyo : m.ents[k].opened = y.opened := by rw [← hyd]
  have hml : m.ents[k].moved.length = y.moved.length := by simp [← hyd]
  have hol : m.ents[k].opened.length = y.opened.length := by simp [← hyd]
  simp only [hml, hol, hym, hyo]
  refine qfb 6 1 (y.moved.map encB) ?_ (qa9 _) (qen _) (qeo _) (D.okWR_noPtr (wk _))
  simp only [qkl, Fr.mapS, List.map_cons, List.map_nil, AObj.mapS, q1k, hml, hol, qlq, List.set_cons_zero, List.set_cons_succ]
  try (refine ev ?_; try exact True.intro)
  refine qfb 7 1 (y.opened.map encB) ?_ (qa9 _) (qen _) (qeo _) (D.okWR_noPtr (wk _))
  simp only [qkl, Fr.mapS, List.map_cons, List.map_nil, AObj.mapS, qsx, qk0 _ _ _ _ _ (wk _), List.set_cons_zero, List.set_cons_succ]
  try simp only [qjz m.ents k y hk hys hyp, go_sem, Nat.reduceAdd, Nat.reduceMul, Nat.reduceSub, Nat.reduceEqDiff, Nat.reduceLT, Nat.reduceLeDiff, Nat.reduceBEq, reduceIte, reduceCtorEq, Int.reduceAdd, Int.reduceLT, Int.reduceLE, Int.reduceGT, Int.reduceGE, Int.reduceEq, Int.reduceNe, Int.reduceBEq, Int.reduceBNe, Int.reduceToNat, Int.reduceNeg]
  refine pu ?_
  try simp only [qj0 m.ents k y hk, List.length_set, go_sem, Nat.reduceAdd, Nat.reduceMul, Nat.reduceSub, Nat.reduceEqDiff, Nat.reduceLT, Nat.reduceLeDiff, Nat.reduceBEq, reduceIte, reduceCtorEq, Int.reduceAdd, Int.reduceLT, Int.reduceLE, Int.reduceGT, Int.reduceGE, Int.reduceEq, Int.reduceNe, Int.reduceBEq, Int.reduceBNe, Int.reduceToNat, Int.reduceNeg]
  (repeat (with_reducible refine ob ?_))
  (repeat (with_reducible refine ob ?_)); first | refine cl F134 (qae y (hy y rfl)) ?_ | refine clF F134 (qae y (hy y rfl)) (fun _ => by (refine ev3 @qf.eq_1 @qj.eq_1 @qq.eq_1 ?_; try exact True.intro)) ?_
  try (refine ev2 @List.length_set.{0} (qcw m.ents k y hk) ?_; try exact True.intro)
  (repeat (with_reducible refine ob ?_))
  try simp only [qcw m.ents k y hk, go_sem, Nat.reduceAdd, Nat.reduceMul, Nat.reduceSub, Nat.reduceEqDiff, Nat.reduceLT, Nat.reduceLeDiff, Nat.reduceBEq, reduceIte, reduceCtorEq, Int.reduceAdd, Int.reduceLT, Int.reduceLE, Int.reduceGT, Int.reduceGE, Int.reduceEq, Int.reduceNe, Int.reduceBEq, Int.reduceBNe, Int.reduceToNat, Int.reduceNeg]
  refine qfb 5 4 ((m.ents.set k (w7 y)).map qf) ?_ (qn8 _) (qwo _) (q8q _) (D.okWR_noPtr (qdq _))
  refine pu ?_
  try (refine ev2 @List.length_set.{0} @List.length_map.{0,0} ?_; try exact True.intro)
end Go.Proofs.YtkcdbcbpbolgkaaGreatDoor
namespace Go.Proofs.YtkcdbcbpbolgkaaGreatDoor
open Go.Abs
set_option linter.unusedSimpArgs false
noncomputable section
set_option maxRecDepth 100000
set_option linter.defProp false
def d22 := cut Tryz.prog Tryz.f22 news
@[go_sem] def E22 := qm d22
def F22 := fnC d22 follows Tryz.func22
def d76 := cut Tryz.prog Tryz.f76 news
@[go_sem] def E76 := qm d76
def F76 := fnC d76 follows Tryz.func76
end
theorem qhc {m : Mg} (h : x9 m = true) {k : Nat} (hk : k < m.ents.length) : 1 ≤ m.ents[k].sess ∧ m.ents[k].sess ≤ 32 ∧ m.ents[k].phase ≠ 0 := by
 simp only [x9, Bool.and_eq_true] at h
 have := zo.1 h.1 k hk
 simp only [qcr, ja hk, Bool.not_eq_true', Bool.or_eq_false_iff, bne_eq_false_iff_eq, decide_eq_false_iff_not, beq_eq_false_iff_ne] at this
 obtain ⟨⟨⟨⟨⟨⟨h1, h2⟩, _⟩, _⟩, _⟩, h3⟩, _⟩ := this
 exact ⟨by omega, by omega, h3⟩
def kx (s r label : Int) : Pk := ⟨4, s, 0, r, 0, 0, label, [], []⟩
theorem q1l (s r label : Int) : (kx s r label).Sm := ⟨Nat.zero_le _, Nat.zero_le _⟩
theorem qep (s r label : Int) : qg Tryz.prog 76 [.d (.int .i64 s), .d (.int .i64 r), .d (.int .i64 label)] [] (.d (.agg (qq (kx s r label)))) [] := by
 refine F76.go ?_
 try (refine ev3 @qq.eq_1 @kx.eq_1 @List.map_nil.{0,0} ?_; try exact True.intro)
theorem b1 : wy ⟨2, []⟩ 5 = (⟨2, [⟨5, 1, [false, false], [false, false]⟩]⟩, 0) := by decide
theorem b2 : ke ⟨2, [⟨5, 1, [false, false], [false, false]⟩]⟩ = [qfh 5 0 1, qfh 5 1 1] := by decide
theorem b3 : kw ⟨2, [⟨5, 1, [false, false], [false, false]⟩]⟩ (kx 5 1 1) = (⟨2, [⟨5, 1, [false, true], [false, false]⟩]⟩, 0) := by decide
theorem b4 : ke ⟨2, [⟨5, 1, [false, true], [false, false]⟩]⟩ = [qfh 5 0 1] := by decide
theorem b5 : kw ⟨2, [⟨5, 1, [false, true], [false, false]⟩]⟩ (kx 5 0 1) = (⟨2, [⟨5, 2, [true, true], [false, false]⟩]⟩, 0) := by decide
theorem b6 : ke ⟨2, [⟨5, 2, [true, true], [false, false]⟩]⟩ = [qfh 5 0 2, qfh 5 1 2] := by decide
theorem q8u (x : Ue) (h : x.moved.length ≤ 1000) (k : x.opened.length ≤ 1000) : (⟨2, [x]⟩ : Mg).Sm := ⟨by simp, by intro y hy; simp only [List.mem_singleton] at hy; subst hy; exact ⟨h, k⟩⟩
theorem xj6 (n : Int) : (⟨n, []⟩ : Mg).Sm := ⟨by simp, by simp⟩
set_option maxRecDepth 10000 in
theorem qqq : qg Tryz.prog 22 [] [] (.d (.bool true)) [] := by
 have c0 := q0x 2
 have c1 := q4k ⟨2, []⟩ 5 (xj6 2)
 have c2 := qg6 ⟨2, [⟨5, 1, [false, false], [false, false]⟩]⟩ (q8u _ (by simp) (by simp))
 have c3 := qn9 ⟨2, [⟨5, 1, [false, false], [false, false]⟩]⟩ (kx 5 1 1) (q8u _ (by simp) (by simp)) (q1l _ _ _)
 have c4 := qg6 ⟨2, [⟨5, 1, [false, true], [false, false]⟩]⟩ (q8u _ (by simp) (by simp))
 have c5 := qn9 ⟨2, [⟨5, 1, [false, true], [false, false]⟩]⟩ (kx 5 0 1) (q8u _ (by simp) (by simp)) (q1l _ _ _)
 have c6 := qg6 ⟨2, [⟨5, 2, [true, true], [false, false]⟩]⟩ (q8u _ (by simp) (by simp))
 have n0 : qjn 2 = (⟨2, []⟩, 0) := by decide
 rw [n0] at c0; rw [b1] at c1; rw [b2] at c2; rw [b3] at c3; rw [b4] at c4; rw [b5] at c5; rw [b6] at c6
 refine F22.go ?_
 try (refine ev ?_; try exact True.intro)
 (repeat (with_reducible refine ob ?_)); first | refine cl F43 (c0) ?_ | refine clF F43 (c0) (fun _ => by (refine ev3 @qf.eq_1 @qj.eq_1 @qq.eq_1 ?_; try exact True.intro)) ?_
 try (refine ev2 @qj.eq_1 @List.map_nil.{0,0} ?_; try exact True.intro)
 (repeat (with_reducible refine ob ?_)); first | refine cl F74b (c1) ?_ | refine clF F74b (c1) (fun _ => by (refine ev3 @qf.eq_1 @qj.eq_1 @qq.eq_1 ?_; try exact True.intro)) ?_
 try (refine ev1 @qj.eq_1 ?_; try exact True.intro)
 (repeat (with_reducible refine ob ?_)); first | refine cl F18 (c2) ?_ | refine clF F18 (c2) (fun _ => by (refine ev3 @qf.eq_1 @qj.eq_1 @qq.eq_1 ?_; try exact True.intro)) ?_
 try (refine ev1 @qj.eq_1 ?_; try exact True.intro)
 (repeat (with_reducible refine ob ?_)); first | refine cl F76 (qep 5 1 1) ?_ | refine clF F76 (qep 5 1 1) (fun _ => by (refine ev3 @qf.eq_1 @qj.eq_1 @qq.eq_1 ?_; try exact True.intro)) ?_
 try (refine ev ?_; try exact True.intro)
 (repeat (with_reducible refine ob ?_)); first | refine cl F75b (c3) ?_ | refine clF F75b (c3) (fun _ => by (refine ev3 @qf.eq_1 @qj.eq_1 @qq.eq_1 ?_; try exact True.intro)) ?_
 try (refine ev1 @qj.eq_1 ?_; try exact True.intro)
 clear c0 c1 c2 c3
 (repeat (with_reducible refine ob ?_)); first | refine cl F18 (c4) ?_ | refine clF F18 (c4) (fun _ => by (refine ev3 @qf.eq_1 @qj.eq_1 @qq.eq_1 ?_; try exact True.intro)) ?_
 try (refine ev1 @qj.eq_1 ?_; try exact True.intro)
 (repeat (with_reducible refine ob ?_)); first | refine cl F76 (qep 5 0 1) ?_ | refine clF F76 (qep 5 0 1) (fun _ => by (refine ev3 @qf.eq_1 @qj.eq_1 @qq.eq_1 ?_; try exact True.intro)) ?_
 try (refine ev ?_; try exact True.intro)
 (repeat (with_reducible refine ob ?_)); first | refine cl F75b (c5) ?_ | refine clF F75b (c5) (fun _ => by (refine ev3 @qf.eq_1 @qj.eq_1 @qq.eq_1 ?_; try exact True.intro)) ?_
 try (refine ev1 @qj.eq_1 ?_; try exact True.intro)
 (repeat (with_reducible refine ob ?_)); first | refine cl F18 (c6) ?_ | refine clF F18 (c6) (fun _ => by (refine ev3 @qf.eq_1 @qj.eq_1 @qq.eq_1 ?_; try exact True.intro)) ?_
 try (refine ev1 @qj.eq_1 ?_; try exact True.intro)
 (repeat (with_reducible refine ob ?_))
 try (refine ev2 @qq.eq_1 @qfh.eq_1 ?_; try exact True.intro)
end Go.Proofs.YtkcdbcbpbolgkaaGreatDoor
namespace Go.Proofs.YtkcdbcbpbolgkaaGreatDoor
open Go.Abs
set_option linter.unusedSimpArgs false
theorem q8v {m : Mg} (h : fewM m = true) : m.Sm := by
 simp only [fewM, Bool.and_eq_true, decide_eq_true_eq, List.all_eq_true] at h
 refine ⟨by omega, fun x hx => ?_⟩
 have := h.1 x hx
 simp only [fewE, Bool.not_eq_true', Bool.or_eq_false_iff, decide_eq_false_iff_not] at this
 exact ⟨by omega, by omega⟩
end Go.Proofs.YtkcdbcbpbolgkaaGreatDoor
namespace Go.Proofs.YtkcdbcbpbolgkaaGreatDoor
open Go.Abs
set_option linter.unusedSimpArgs false
structure EnOk (r : Int) (x : Ue) : Prop where
 s1 : 1 ≤ x.sess
 s32 : x.sess ≤ 32
 ml : (x.moved.length : Int) = r
 ol : (x.opened.length : Int) = r
 ph : x.phase = xz x
 p0 : x.phase ≠ 0
structure MW (m : Mg) : Prop where
 r1 : 1 ≤ m.roles
 r6 : m.roles ≤ 6
 inc : (m.ents.map Ue.sess).Pairwise (· < ·)
 en : ∀ x ∈ m.ents, EnOk m.roles x
theorem qoa {l : List Int} (h : ∀ i (h : i + 1 < l.length), l[i] < l[i + 1]) : l.Pairwise (· < ·) := by
 rw [List.pairwise_iff_getElem]
 intro i j hi hj hij
 obtain ⟨d, rfl⟩ : ∃ d, j = i + 1 + d := ⟨j - (i + 1), by omega⟩
 induction d with
 | zero => exact h i hj
 | succ d ih => exact Int.lt_trans (ih (by omega) (by omega)) (h (i + 1 + d) hj)
theorem kg {m : Mg} : x9 m = true ↔ MW m := by
 constructor
 ·intro h
  have hr := qb6 h
  refine ⟨hr.1, hr.2, qoa fun i hi => ?_, fun x hx => ?_⟩
  ·have hi' : i + 1 < m.ents.length := by simpa using hi
   have h2 := h
   simp only [x9, Bool.and_eq_true] at h2
   have := zo.1 h2.1 (i + 1) hi'
   rw [← enk m i hi' (by omega)] at this
   simp only [Bool.not_eq_true', Bool.or_eq_false_iff, Bool.and_eq_false_iff, decide_eq_false_iff_not] at this
   simp only [List.getElem_map]
   have := this.1.1.1.1.2
   omega
  ·obtain ⟨i, hi, rfl⟩ := List.getElem_of_mem hx
   obtain ⟨a1, a2, a3⟩ := qgc h hi
   obtain ⟨b1, b2, b3⟩ := qhc h hi
   exact ⟨b1, b2, a1, a2, a3, b3⟩
 ·rintro ⟨r1, r6, inc, en⟩
  simp only [x9, Bool.and_eq_true, decide_eq_true_eq]
  refine ⟨zo.2 fun i hi => ?_, r1, r6⟩
  obtain ⟨s1, s32, ml, ol, ph, p0⟩ := en _ (List.getElem_mem hi)
  rcases Nat.eq_zero_or_pos i with rfl | h0
  ·rw [← en0 m hi]
   simp only [Bool.not_eq_true', Bool.or_eq_false_iff, decide_eq_false_iff_not, bne_eq_false_iff_eq, beq_eq_false_iff_ne]
   exact ⟨⟨⟨⟨⟨by omega, by omega⟩, ml⟩, ol⟩, p0⟩, ph⟩
  ·obtain ⟨k, rfl⟩ : ∃ k, i = k + 1 := ⟨i - 1, by omega⟩
   rw [← enk m k hi (by omega)]
   have hlt := (List.pairwise_iff_getElem.1 inc) k (k + 1) (by simp; omega) (by simpa using hi) (by omega)
   simp only [List.getElem_map] at hlt
   simp only [Bool.not_eq_true', Bool.or_eq_false_iff, Bool.and_eq_false_iff, decide_eq_false_iff_not, bne_eq_false_iff_eq, beq_eq_false_iff_ne]
   exact ⟨⟨⟨⟨⟨⟨by omega, by omega⟩, .inr (by omega)⟩, ml⟩, ol⟩, p0⟩, ph⟩
theorem qwq {l : List Int} (h : l.Pairwise (· < ·)) (h1 : ∀ x ∈ l, 1 ≤ x) (h32 : ∀ x ∈ l, x ≤ 32) : l.length ≤ 32 := by
 have key : ∀ (i : Nat) (hi : i < l.length), (i : Int) + 1 ≤ l[i] := by
  intro i
  induction i with
  | zero => intro hi; have := h1 _ (List.getElem_mem hi); omega
  | succ i ih =>
   intro hi
   have := ih (by omega)
   have := (List.pairwise_iff_getElem.1 h) i (i + 1) (by omega) hi (by omega)
   omega
 rcases Nat.lt_or_ge 32 l.length with h' | h'
 ·have := key 32 h'
  have := h32 _ (List.getElem_mem h')
  omega
 ·exact h'
theorem MW.sm {m : Mg} (h : MW m) : m.Sm := by
 refine ⟨?_, fun x hx => ?_⟩
 ·have := qwq h.inc (by intro x hx; obtain ⟨e, he, rfl⟩ := List.mem_map.1 hx; exact (h.en e he).s1) (by intro x hx; obtain ⟨e, he, rfl⟩ := List.mem_map.1 hx; exact (h.en e he).s32)
  rw [List.length_map] at this
  omega
 ·have h1 := (h.en x hx).ml
  have h2 := (h.en x hx).ol
  have h6 := h.r6
  exact ⟨by omega, by omega⟩
theorem qgd {m : Mg} {s : Int} (h : (qy m s).2 = true) : ∃ hk : (qy m s).1 < m.ents.length, m.ents[(qy m s).1].sess = s := by
 refine ⟨qwp h, ?_⟩
 unfold qy at h ⊢
 split at h
 ·rename_i h1
  simp only [h1, if_true] at h ⊢
  rw [ja (qjl h1).2] at h
  simpa using h
 ·cases h
theorem qwr {m : Mg} {s : Int} (hm : MW m) (h : (qy m s).2 = false) : (∀ x ∈ m.ents.take (qy m s).1, x.sess < s) ∧ ∀ x ∈ m.ents.drop (qy m s).1, s < x.sess := by
 unfold qy at h ⊢
 split at h
 ·rename_i h1
  obtain ⟨_, h2⟩ := qjl h1
  simp only [h1, if_true] at h ⊢
  rw [ja h2] at h
  have hge := List.findIdx_getElem (p := fun x : Ue => decide (x.sess ≥ s)) (xs := m.ents) (w := h2)
  simp only [decide_eq_true_eq] at hge
  simp only [beq_eq_false_iff_ne] at h
  refine ⟨fun x hx => ?_, fun x hx => ?_⟩
  ·obtain ⟨i, hi, rfl⟩ := List.getElem_of_mem hx
   have hi' : i < m.ents.findIdx (fun x => decide (x.sess ≥ s)) := by rw [List.length_take] at hi; omega
   have := List.not_of_lt_findIdx hi'
   simp at this
   simpa using this
  ·obtain ⟨i, hi, rfl⟩ := List.getElem_of_mem hx
   rw [List.getElem_drop]
   rw [List.length_drop] at hi
   rcases Nat.eq_zero_or_pos i with rfl | h0
   ·simp only [Nat.add_zero]; omega
   ·have := (List.pairwise_iff_getElem.1 hm.inc) (m.ents.findIdx (fun x => decide (x.sess ≥ s))) (m.ents.findIdx (fun x => decide (x.sess ≥ s)) + i) (by rw [List.length_map]; exact h2) (by rw [List.length_map]; omega) (by omega)
    simp only [List.getElem_map] at this
    omega
 ·rename_i h1
  simp only [h1] at h ⊢
  simp only [Bool.false_eq_true, if_false, List.take_length, List.drop_length]
  refine ⟨fun x hx => ?_, by simp⟩
  simp only [Bool.not_eq_true, List.any_eq_false, decide_eq_true_eq] at h1
  have := h1 x hx
  omega
theorem qdw {m : Mg} {s : Int} (hm : MW m) : (qy m s).2 = true ↔ ∃ x ∈ m.ents, x.sess = s := by
 constructor
 ·intro h
  obtain ⟨hk, hs⟩ := qgd h
  exact ⟨_, List.getElem_mem hk, hs⟩
 ·rintro ⟨x, hx, hs⟩
  cases hf : (qy m s).2 with
  | true => rfl
  | false =>
   obtain ⟨h1, h2⟩ := qwr hm hf
   rw [← List.take_append_drop (qy m s).1 m.ents] at hx
   rcases List.mem_append.1 hx with hx | hx
   ·have := h1 x hx; omega
   ·have := h2 x hx; omega
theorem wn (x : Ue) : (xz x = 3 ∧ x.moved.all idB = true ∧ x.opened.all idB = true) ∨ (xz x = 2 ∧ x.moved.all idB = true ∧ x.opened.all idB = false) ∨
  (xz x = 0 ∧ x.moved.all idB = false ∧ x.opened.any idB = true) ∨ (xz x = 1 ∧ x.moved.all idB = false ∧ x.opened.any idB = false) := by
 simp only [xz, qjp, qvo]
 cases x.moved.all idB <;> cases x.opened.all idB <;> cases x.opened.any idB <;> simp
end Go.Proofs.YtkcdbcbpbolgkaaGreatDoor
namespace Go.Proofs.YtkcdbcbpbolgkaaGreatDoor
open Go.Abs
set_option linter.unusedSimpArgs false
set_option linter.unusedVariables false
def bitN : List Bool → Nat
 | [] => 0
 | b :: l => b.toNat + 2 * bitN l
theorem qbt : ∀ l : List Bool, bitN l < 2 ^ l.length
 | [] => by simp [bitN]
 | b :: l => by
  have := qbt l
  have hb : b.toNat ≤ 1 := by cases b <;> decide
  rw [bitN, List.length_cons, Nat.pow_succ]; omega
def jg : Nat → Nat → List Bool
 | 0, _ => []
 | k + 1, n => (n % 2 == 1) :: jg k (n / 2)
theorem zx : ∀ k n, (jg k n).length = k
 | 0, _ => rfl
 | k + 1, n => by rw [jg, List.length_cons, zx k]
theorem qhe : ∀ l : List Bool, jg l.length (bitN l) = l
 | [] => rfl
 | b :: l => by
  rw [List.length_cons, jg, bitN]
  have h1 : (b.toNat + 2 * bitN l) / 2 = bitN l := by cases b <;> simp <;> omega
  have h2 : ((b.toNat + 2 * bitN l) % 2 == 1) = b := by cases b <;> simp <;> omega
  rw [h1, h2, qhe l]
theorem qqs : ∀ (k n i : Nat), i < k → (jg k n).getD i false = (n / 2 ^ i % 2 == 1)
 | k + 1, n, 0, _ => by simp [jg]
 | k + 1, n, i + 1, h => by
  rw [jg, List.getD_cons_succ, qqs k (n / 2) i (by omega), Nat.div_div_eq_div_mul, Nat.pow_succ, Nat.mul_comm]
def y8 (x : Ue) : List UInt8 := wInt x.phase ++ wInt (bitN x.moved) ++ wInt (bitN x.opened)
def uPfx : List UInt8 := [117, 47]
def uKey (s : Int) : List UInt8 := [117, 47, UInt8.ofNat (48 + s.toNat / 10), UInt8.ofNat (48 + s.toNat % 10)]
theorem q1m : ∀ a b : Fin 33, (uKey (a.val : Int) = uKey (b.val : Int) → a = b) ∧ (a < b → Op.bytesLess (uKey (a.val : Int)) (uKey (b.val : Int)) = true) := by decide +kernel
theorem qsy {a b : Int} (h1 : 0 ≤ a) (h2 : a ≤ 32) (h3 : 0 ≤ b) (h4 : b ≤ 32) (h : uKey a = uKey b) : a = b := by
 obtain ⟨m, rfl⟩ : ∃ m : Nat, a = m := ⟨a.toNat, by omega⟩
 obtain ⟨n, rfl⟩ : ∃ n : Nat, b = n := ⟨b.toNat, by omega⟩
 have := (q1m ⟨m, by omega⟩ ⟨n, by omega⟩).1 h
 simp at this
 omega
def ldN (roles : Int) : Int := 2 ^ roles.toNat - 1
def ldRd (roles : Int) (v : List UInt8) : (Int × Int × Int) × Rd :=
 ((( yy ⟨v, 0, false⟩).1, (qx 0 (ldN roles) (yy ⟨v, 0, false⟩).2).1, (qx 0 (ldN roles) (qx 0 (ldN roles) (yy ⟨v, 0, false⟩).2).2).1),
  (qx 0 (ldN roles) (qx 0 (ldN roles) (yy ⟨v, 0, false⟩).2).2).2)
def qwt (roles s : Int) (x : Int × Int × Int) : Ue := ⟨s, x.1, jg roles.toNat x.2.1.toNat, jg roles.toNat x.2.2.toNat⟩
def q4l (roles s : Int) (v : List UInt8) : Option Ue := if rEnd (ldRd roles v).2 = 0 then some (qwt roles s (ldRd roles v).1) else none
def qay (k : List UInt8) : Option Nat := (List.range 33).find? fun s => uKey (s : Nat) == k
def ldEn (roles : Int) (e : En) : Option Ue := match qay e.1 with
 | none => none
 | some s => q4l roles (s : Nat) e.2
def qfu (roles : Int) : List En → Option (List Ue)
 | [] => some []
 | e :: l => match ldEn roles e with
  | none => none
  | some x => (qfu roles l).map (x :: ·)
def ldMg (roles : Int) : Option (List Ue) → Mg × Int
 | none => (⟨0, []⟩, 4)
 | some l => if x9 ⟨roles, l⟩ = true then (⟨roles, l⟩, 0) else (⟨0, []⟩, 4)
def qaz (m : Cont) (roles : Int) : Mg × Int :=
 if (decide (roles < 1) || decide (roles > 6)) = true then (⟨0, []⟩, 2) else ldMg roles (qfu roles (yi m uPfx))
theorem qqt {s : Int} (h1 : 0 ≤ s) (h2 : s ≤ 32) : qay (uKey s) = some s.toNat := by
 obtain ⟨n, rfl⟩ : ∃ n : Nat, s = n := ⟨s.toNat, by omega⟩
 unfold qay
 cases hf : (List.range 33).find? (fun s => uKey (s : Nat) == uKey (n : Int)) with
 | none =>
  rw [List.find?_eq_none] at hf
  exact absurd (beq_self_eq_true _) (hf n (by simp; omega))
 | some k =>
  have hk := List.find?_some hf
  have hm := List.mem_of_find?_eq_some hf
  simp only [beq_iff_eq] at hk
  simp only [List.mem_range] at hm
  have := qsy (a := (k : Int)) (b := (n : Int)) (by omega) (by omega) (by omega) (by omega) hk
  congr 1; omega
theorem qhf {k : List UInt8} {s : Nat} (h : qay k = some s) : s ≤ 32 ∧ k = uKey (s : Nat) := by
 have hk := List.find?_some h
 have hm := List.mem_of_find?_eq_some h
 simp only [beq_iff_eq] at hk
 simp only [List.mem_range] at hm
 exact ⟨by omega, hk.symm⟩
theorem xj8 {r : Int} (h1 : 1 ≤ r) (h6 : r ≤ 6) : (2 : Nat) ^ r.toNat ≤ 64 := by
 have : r.toNat ≤ 6 := by omega
 exact Nat.le_trans (Nat.pow_le_pow_right (by decide) this) (by decide)
theorem qob (r : Int) : ldN r = ((2 ^ r.toNat - 1 : Nat) : Int) := by
 unfold ldN
 have : 1 ≤ 2 ^ r.toNat := Nat.one_le_two_pow
 rw [Int.ofNat_sub this]; simp
theorem xiu {r : Int} (h1 : 1 ≤ r) (h6 : r ≤ 6) {l : List Bool} (hl : (l.length : Int) = r) (t : List UInt8) : jq 0 (ldN r) (wInt (bitN l) ++ t) = some ((bitN l : Int), t) := by
 have hb := qbt l
 have h64 := xj8 h1 h6
 have e : l.length = r.toNat := by omega
 rw [e] at hb
 rw [jq, qlo (by unfold I64; omega)]
 simp only
 have : ¬ ((bitN l : Int) < 0 ∨ (bitN l : Int) > ldN r) := by rw [qob]; omega
 simp [this]
theorem qoc {r : Int} (h1 : 1 ≤ r) (h6 : r ≤ 6) {x : Ue} (hx : EnOk r x) : q4l r x.sess (y8 x) = some x := by
 have hp : I64 x.phase := by
  rw [hx.ph]
  rcases wn x with h | h | h | h <;> rw [h.1] <;> unfold I64 <;> omega
 have hl : (y8 x).length ≤ 1000000000 := by
  have a := zk hp
  have hb := qbt x.moved
  have hc := qbt x.opened
  have h64 := xj8 h1 h6
  have e1 : x.moved.length = r.toNat := by have := hx.ml; omega
  have e2 : x.opened.length = r.toNat := by have := hx.ol; omega
  rw [e1] at hb; rw [e2] at hc
  have b := zk (n := (bitN x.moved : Int)) (by unfold I64; omega)
  have c := zk (n := (bitN x.opened : Int)) (by unfold I64; omega)
  simp only [y8, List.length_append]; omega
 have hr : (⟨y8 x, 0, false⟩ : Rd).Ok := ⟨hl, Nat.zero_le _⟩
 have e0 : y8 x = wInt x.phase ++ (wInt (bitN x.moved) ++ wInt (bitN x.opened)) := by rw [y8, List.append_assoc]
 have b2 := xiu h1 h6 hx.ml (wInt (bitN x.opened))
 have b3 := xiu h1 h6 hx.ol []
 rw [List.append_nil] at b3
 generalize y8 x = v at hl hr e0 ⊢
 have d1 := qcf qy3 hr rfl (v := x.phase) (l := wInt (bitN x.moved) ++ wInt (bitN x.opened)) (by simp only [List.drop_zero, e0]; exact qlo hp _)
 have t1 := (qbj (b := v) (p := 0) (q := wInt x.phase) (Nat.zero_le _) (by rw [List.drop_zero, e0])).1
 have d2 := qcf (qct 0 (ldN r)) (r := ⟨v, v.length - (wInt (bitN x.moved) ++ wInt (bitN x.opened)).length, false⟩) ⟨hl, Nat.sub_le _ _⟩ rfl (by simp only [t1]; exact b2)
 have t2 := (qbj (b := v) (p := v.length - (wInt (bitN x.moved) ++ wInt (bitN x.opened)).length) (q := wInt (bitN x.moved)) (Nat.sub_le _ _) t1).1
 have d3 := qcf (qct 0 (ldN r)) (r := ⟨v, v.length - (wInt (bitN x.opened)).length, false⟩) ⟨hl, Nat.sub_le _ _⟩ rfl (by simp only [t2]; exact b3)
 simp only at d1 d2 d3
 have k1 : r.toNat = x.moved.length := by have := hx.ml; omega
 have k2 : r.toNat = x.opened.length := by have := hx.ol; omega
 have hrd : ldRd r v = ((x.phase, (bitN x.moved : Int), (bitN x.opened : Int)), ⟨v, v.length, false⟩) := by
  simp only [ldRd, d1, d2, d3, List.length_nil, Nat.sub_zero]
 have he : rEnd ⟨v, v.length, false⟩ = 0 := by simp [rEnd]
 simp only [q4l, hrd]
 rw [if_pos he]
 simp only [qwt, Int.toNat_natCast]
 congr 1
 have q1 : jg r.toNat (bitN x.moved) = x.moved := by rw [k1]; exact qhe _
 have q2 : jg r.toNat (bitN x.opened) = x.opened := by rw [k2]; exact qhe _
 rw [q1, q2]
theorem qsz {l : List Ue} (h : l.Pairwise fun a b => a.sess ≠ b.sess) {x y : Ue} (hx : x ∈ l) (hy : y ∈ l) (hxy : x ≠ y) : x.sess ≠ y.sess := by
 induction l with
 | nil => cases hx
 | cons a l ih =>
  obtain ⟨h1, h2⟩ := List.pairwise_cons.1 h
  rcases List.mem_cons.1 hx with hx | hx <;> rcases List.mem_cons.1 hy with hy | hy
  ·exact absurd (hx.trans hy.symm) hxy
  ·rw [hx]; exact h1 y hy
  ·rw [hy]; exact fun e => h1 x hx e.symm
  ·exact ih h2 hx hy
end Go.Proofs.YtkcdbcbpbolgkaaGreatDoor
namespace Go.Proofs.YtkcdbcbpbolgkaaGreatDoor
open Go.Abs
set_option linter.unusedSimpArgs false
set_option linter.unusedVariables false
def chOp (a : Mg) (x : Ue) : List OpS := if x ∈ a.ents then [] else [⟨uKey x.sess, false, y8 x⟩]
def qod (a b : Mg) : List OpS := b.ents.flatMap (chOp a)
def zf (a b : Mg) : List OpS × Int :=
 if (!x9 a || !x9 b || a.roles != b.roles) = true then ([], 1) else if (a.ents.any fun x => !(qy b x.sess).2) = true then ([], 1) else (qod a b, 0)
structure OneStep (m b : Mg) : Prop where
 mw : MW b
 roles : b.roles = m.roles
 keep : ∀ x ∈ m.ents, ∃ y ∈ b.ents, y.sess = x.sess
 one : ∃ y ∈ b.ents, qod m b = [⟨uKey y.sess, false, y8 y⟩]
end Go.Proofs.YtkcdbcbpbolgkaaGreatDoor
namespace Go.Proofs.YtkcdbcbpbolgkaaGreatDoor
open Go.Abs
set_option linter.unusedSimpArgs false
set_option linter.unusedVariables false
theorem q81 {r : Int} (h1 : 1 ≤ r) (h6 : r ≤ 6) {x y : Ue} (hx : EnOk r x) (hy : EnOk r y) (hs : x.sess = y.sess) (hv : y8 x = y8 y) : x = y := by
 have a := qoc h1 h6 hx
 rw [hs, hv, qoc h1 h6 hy] at a
 exact (Option.some.inj a).symm
def rIdx (m : Mg) (s : Int) : Int := idx (fun x => x.sess == s) m.ents
theorem qqv (m : Mg) (s : Int) : (rIdx m s = -1 ∧ ∀ x ∈ m.ents, x.sess ≠ s) ∨ ∃ (k : Nat) (h : k < m.ents.length), rIdx m s = (k : Int) ∧ (m.ents[k]).sess = s := by
 unfold rIdx idx
 cases ha : m.ents.any (fun x => x.sess == s) with
 | false =>
  refine .inl ⟨rfl, fun x hx h => ?_⟩
  rw [List.any_eq_false] at ha
  exact ha x hx (by simpa using h)
 | true =>
  obtain ⟨_, hl⟩ := qjl ha
  refine .inr ⟨_, hl, rfl, ?_⟩
  have := List.findIdx_getElem (w := hl)
  simpa using this
theorem q82 {m : Mg} (hm : MW m) (s : Int) : decide (rIdx m s < 0) = !(qy m s).2 := by
 rcases qqv m s with ⟨h1, h2⟩ | ⟨k, hk, h1, h2⟩
 ·have : (qy m s).2 = false := by
   rw [← Bool.not_eq_true, qdw hm]
   rintro ⟨x, hx, e⟩
   exact h2 x hx e
  rw [h1, this]; rfl
 ·have : (qy m s).2 = true := (qdw hm).2 ⟨_, List.getElem_mem hk, h2⟩
  rw [h1, this]
  simp
theorem xgg {a : Mg} {x : Ue} (h : ∀ y ∈ a.ents, y.sess ≠ x.sess) : chOp a x = [⟨uKey x.sess, false, y8 x⟩] := by
 unfold chOp
 rw [if_neg fun hx => h x hx rfl]
theorem xgh {a b : Mg} (ha : MW a) (hb : MW b) (hr : a.roles = b.roles) {x : Ue} (hx : x ∈ b.ents) {k : Nat} (hk : k < a.ents.length) (hs : (a.ents[k]).sess = x.sess) :
  chOp a x = if y8 a.ents[k] = y8 x then [] else [⟨uKey x.sess, false, y8 x⟩] := by
 have hm := List.getElem_mem hk
 have ea := ha.en _ hm
 have eb := hb.en _ hx
 rw [hr] at ea
 unfold chOp
 by_cases hv : y8 a.ents[k] = y8 x
 ·rw [if_pos hv, if_pos]
  rw [← q81 hb.r1 hb.r6 ea eb hs hv]; exact hm
 ·rw [if_neg hv, if_neg]
  intro hxa
  refine hv ?_
  by_cases e : a.ents[k] = x
  ·rw [e]
  ·have hn : a.ents.Pairwise fun a b => a.sess ≠ b.sess := by
    have hp := ha.inc
    rw [List.pairwise_map] at hp
    exact hp.imp fun h => by omega
   exact absurd hs (qsz hn hm hxa e)
def qbl (n : Int) (r : Nat) : List Bool × Bool := if n < 0 then ([], false) else (jg r n.toNat, decide (n.toNat / 2 ^ r = 0))
theorem qlr {n : Int} {r : Nat} : (qbl n r).2 = true ↔ 0 ≤ n ∧ n ≤ ((2 ^ r - 1 : Nat) : Int) := by
 have hp : 1 ≤ 2 ^ r := Nat.one_le_two_pow
 unfold qbl
 split
 ·simp; omega
 ·simp only [decide_eq_true_eq, Nat.div_eq_zero_iff]
  omega
theorem q83 {r : Rd} {lo hi : Int} (h : (qx lo hi r).2.failed = false) : yy r = qx lo hi r ∧ lo ≤ (qx lo hi r).1 ∧ (qx lo hi r).1 ≤ hi := by
 unfold qx qcy at h ⊢
 unfold yy qcy
 by_cases hf : r.failed = true
 ·rw [if_pos hf] at h; rw [hf] at h; cases h
 ·rw [if_neg hf] at h
  rw [if_neg hf, if_neg hf]
  by_cases hg : (xx lo hi r).2.failed = true
  ·rw [if_pos hg] at h; simp only at h; rw [hg] at h; cases h
  ·rw [if_neg hg]
   have hin := qej (by simpa using hg : (xx lo hi r).2.failed = false)
   refine ⟨?_, hin⟩
   simp only [xx, Rd.fail, Bool.not_eq_true, Bool.or_eq_false_iff] at hg
   obtain ⟨⟨h1, h2⟩, h3⟩ := hg
   rw [if_neg (by simp [h1])]
   simp only [xx, Rd.fail, h1, h2, h3, Bool.or_false]
   generalize hx : rInt r = x at h1 ⊢
   obtain ⟨a, b, c, d⟩ := x
   simp only at h1
   subst h1; rfl
theorem q84 {r : Rd} {lo hi : Int} (h : (yy r).2.failed = false) (h1 : lo ≤ (yy r).1) (h2 : (yy r).1 ≤ hi) : qx lo hi r = yy r := by
 unfold yy qcy at h h1 h2 ⊢
 unfold qx qcy
 by_cases hf : r.failed = true
 ·rw [if_pos hf] at h; rw [hf] at h; cases h
 ·rw [if_neg hf] at h h1 h2
  rw [if_neg hf, if_neg hf]
  by_cases hg : (rInt r).2.failed = true
  ·rw [if_pos hg] at h; simp only at h; rw [hg] at h; cases h
  ·rw [if_neg hg] at h1 h2 ⊢
   have hg' : (rInt r).2.failed = false := by simpa using hg
   have d1 : decide ((rInt r).1 < lo) = false := by simp; omega
   have d2 : decide ((rInt r).1 > hi) = false := by simp; omega
   have hb : xx lo hi r = rInt r := by
    simp only [xx, Rd.fail, hg', d1, d2, Bool.or_false]
    generalize rInt r = x at hg' ⊢
    obtain ⟨a, b, c, d⟩ := x
    simp only at hg'
    subst hg'; rfl
   rw [hb, if_neg hg]
theorem qzm {r : Rd} (h : (yy r).2.failed = false) : r.failed = false := by
 unfold yy qcy at h
 by_cases hf : r.failed = true
 ·rw [if_pos hf] at h; exact h
 ·simpa using hf
theorem qzn {r : Rd} {lo hi : Int} (h : (qx lo hi r).2.failed = false) : r.failed = false := by
 unfold qx qcy at h
 by_cases hf : r.failed = true
 ·rw [if_pos hf] at h; exact h
 ·simpa using hf
theorem qoe {r : Rd} (h : rEnd r = 0) : r.failed = false := by
 unfold rEnd at h
 cases hf : r.failed with
 | false => rfl
 | true => rw [hf] at h; simp at h
def rv1 (v : List UInt8) : Int × Rd := yy ⟨v, 0, false⟩
def rv2 (v : List UInt8) : Int × Rd := yy (rv1 v).2
def rv3 (v : List UInt8) : Int × Rd := yy (rv2 v).2
def rVal (r : Nat) (s : Int) (v : List UInt8) : Option Ue :=
 if (rEnd (rv3 v).2 != 0 || !(qbl (rv2 v).1 r).2 || !(qbl (rv3 v).1 r).2) = true then none else some ⟨s, (rv1 v).1, (qbl (rv2 v).1 r).1, (qbl (rv3 v).1 r).1⟩
theorem xgi (r : Nat) (s : Int) (v : List UInt8) : q4l (r : Int) s v = rVal r s v := by
 have hN : ldN (r : Int) = ((2 ^ r - 1 : Nat) : Int) := by rw [qob, Int.toNat_natCast]
 unfold q4l rVal
 by_cases he : rEnd (ldRd (r : Int) v).2 = 0
 ·rw [if_pos he]
  have f3 := qoe he
  have f2 := qzn f3
  obtain ⟨e2, l2, u2⟩ := q83 f2
  obtain ⟨e3, l3, u3⟩ := q83 f3
  have e2' : rv2 v = qx 0 (ldN (r : Int)) (yy ⟨v, 0, false⟩).2 := e2
  have e3' : rv3 v = qx 0 (ldN (r : Int)) (qx 0 (ldN (r : Int)) (yy ⟨v, 0, false⟩).2).2 := by rw [rv3, e2']; exact e3
  rw [hN] at u2 u3
  rw [hN] at l2 l3
  have he' : rEnd (rv3 v).2 = 0 := by rw [e3']; exact he
  rw [← hN] at l2 u2 l3 u3
  rw [← e2'] at l2 u2
  rw [← e3'] at l3 u3
  rw [hN] at u2 u3
  have b2 := qlr.2 ⟨l2, u2⟩
  have b3 := qlr.2 ⟨l3, u3⟩
  rw [if_neg (by rw [he', b2, b3]; decide)]
  have r2 : (qbl (rv2 v).1 r).1 = jg r (rv2 v).1.toNat := by unfold qbl; rw [if_neg (by omega)]
  have r3 : (qbl (rv3 v).1 r).1 = jg r (rv3 v).1.toNat := by unfold qbl; rw [if_neg (by omega)]
  rw [r2, r3]
  have hx : (ldRd (r : Int) v).1 = ((rv1 v).1, (rv2 v).1, (rv3 v).1) := by rw [e2', e3']; simp only [ldRd, rv1]
  rw [hx]
  simp only [qwt, Int.toNat_natCast]
 ·rw [if_neg he]
  by_cases hc : (rEnd (rv3 v).2 != 0 || !(qbl (rv2 v).1 r).2 || !(qbl (rv3 v).1 r).2) = true
  ·rw [if_pos hc]
  ·exfalso
   simp only [Bool.or_eq_true, Bool.not_eq_true', not_or, Bool.not_eq_false, bne_iff_ne, ne_eq, Decidable.not_not] at hc
   obtain ⟨⟨h1, h2⟩, h3⟩ := hc
   have f3 := qoe h1
   have f2 := qzm f3
   obtain ⟨l2, u2⟩ := qlr.1 h2
   obtain ⟨l3, u3⟩ := qlr.1 h3
   rw [← hN] at u2 u3
   have e2 : qx 0 (ldN (r : Int)) (rv1 v).2 = rv2 v := q84 f2 l2 u2
   have e3 : qx 0 (ldN (r : Int)) (rv2 v).2 = rv3 v := q84 f3 l3 u3
   refine he ?_
   have : (ldRd (r : Int) v).2 = (qx 0 (ldN (r : Int)) (qx 0 (ldN (r : Int)) (rv1 v).2).2).2 := rfl
   rw [this, e2, e3, h1]
def qfv (k : List UInt8) : Nat := (qay k).getD 0
def rEn (r : Nat) (e : En) : Option Ue := rVal r (qfv e.1 : Nat) e.2
def rAll (r : Nat) : List En → Option (List Ue)
 | [] => some []
 | e :: l => match rEn r e with
  | none => none
  | some x => (rAll r l).map (x :: ·)
theorem qww (r : Nat) (e : En) (l : List En) : rAll r (e :: l) = (match rEn r e with
  | none => none
  | some x => (rAll r l).map (x :: ·)) := rfl
theorem qqw (r : Int) (e : En) (l : List En) : qfu r (e :: l) = (match ldEn r e with
  | none => none
  | some x => (qfu r l).map (x :: ·)) := rfl
theorem q1n {r : Nat} : ∀ {L : List En}, (∀ e ∈ L, (qay e.1).isSome = true) → qfu (r : Int) L = rAll r L
 | [], _ => rfl
 | e :: l, h => by
  have he := h e List.mem_cons_self
  rw [qqw, qww, q1n fun x hx => h x (List.mem_cons_of_mem _ hx)]
  have : ldEn (r : Int) e = rEn r e := by
   unfold ldEn rEn qfv
   cases hs : qay e.1 with
   | none => rw [hs] at he; cases he
   | some s => simp only [Option.getD_some]; exact xgi r _ _
  rw [this]
theorem q1o {r : Int} : ∀ {L : List En} {e : En}, e ∈ L → qay e.1 = none → qfu r L = none
 | [], _, h, _ => by cases h
 | x :: l, e, h, hs => by
  rw [qqw]
  rcases List.mem_cons.1 h with rfl | h
  ·unfold ldEn; rw [hs]
  ·cases ldEn r x with
   | none => rfl
   | some y => simp only; rw [q1o h hs]; rfl
theorem q85 {r : Nat} : ∀ {L : List En} {e : En} {l : List Ue}, e ∈ L → qay e.1 = none → rAll r L = some l → ∃ x ∈ l, x.sess = 0
 | [], _, _, h, _, _ => by cases h
 | x :: L, e, l, h, hs, ha => by
  rw [qww] at ha
  cases hx : rEn r x with
  | none => rw [hx] at ha; cases ha
  | some y =>
   rw [hx] at ha
   simp only [Option.map_eq_some_iff] at ha
   obtain ⟨m, hm, rfl⟩ := ha
   rcases List.mem_cons.1 h with rfl | h
   ·refine ⟨y, List.mem_cons_self, ?_⟩
    unfold rEn qfv at hx
    rw [hs] at hx
    unfold rVal at hx
    split at hx
    ·cases hx
    ·cases hx; rfl
   ·obtain ⟨z, hz, hz0⟩ := q85 h hs hm
    exact ⟨z, List.mem_cons_of_mem _ hz, hz0⟩
theorem xiy (r : Nat) (L : List En) : ldMg (r : Int) (qfu (r : Int) L) = ldMg (r : Int) (rAll r L) := by
 by_cases h : ∀ e ∈ L, (qay e.1).isSome = true
 ·rw [q1n h]
 ·obtain ⟨e, he, hs⟩ : ∃ e ∈ L, qay e.1 = none := by
   simp only [Classical.not_forall] at h
   obtain ⟨e, he, hs⟩ := h
   exact ⟨e, he, by simpa using hs⟩
  have hs' := hs
  rw [q1o he hs']
  cases ha : rAll r L with
  | none => rfl
  | some l =>
   obtain ⟨x, hx, h0⟩ := q85 he hs' ha
   have : ¬ x9 ⟨(r : Int), l⟩ = true := fun hv => by
    have := ((kg.1 hv).en x hx).s1
    omega
   simp only [ldMg, if_neg this]
end Go.Proofs.YtkcdbcbpbolgkaaGreatDoor
namespace Go.Proofs.YtkcdbcbpbolgkaaGreatDoor
open Go.Abs
set_option linter.unusedSimpArgs false
set_option linter.unusedVariables false
noncomputable section
set_option maxRecDepth 100000
set_option linter.defProp false
def d316 := cut Tryz.prog Tryz.f316 news
@[go_sem] def E316 := qm d316
def F316 := fnC d316 follows Tryz.func316
def d271 := cut Tryz.prog Tryz.f271 news
@[go_sem] def E271 := qm d271
def F271 := fnC d271 follows Tryz.func271
def d228 := cut Tryz.prog Tryz.f228 news
@[go_sem] def E228 := qm d228
def F228 := fnC d228 follows Tryz.func228
def d146 := cut Tryz.prog Tryz.f146 news
@[go_sem] def E146 := qm d146
def F146 := fnC d146 follows Tryz.func146
def d148 := cut Tryz.prog Tryz.f148 news
@[go_sem] def E148 := qm d148
def F148 := fnC d148 follows Tryz.func148
def d80 := cut Tryz.prog Tryz.f80 news
@[go_sem] def E80 := qm d80
def F80 := fnC d80 follows Tryz.func80
def d79 := cut Tryz.prog Tryz.f79 news
@[go_sem] def E79 := qm d79
def F79 := fnC d79 follows Tryz.func79
def d25 := cut Tryz.prog Tryz.f25 news
@[go_sem] def E25 := qm d25
def F25 := fnC d25 follows Tryz.func25
end
theorem xdg : ∀ n : Fin 10, (([48, 49, 50, 51, 52, 53, 54, 55, 56, 57, 97, 98, 99, 100, 101, 102, 103, 104, 105, 106, 107, 108, 109, 110, 111, 112, 113, 114, 115, 116, 117, 118, 119, 120, 121, 122] : List UInt8).drop n.val).take 1 = [UInt8.ofNat (48 + n.val)] := by decide
theorem q1p (n : Nat) (hn : n < 10) : qg Tryz.prog 316 [.d (.int .i64 (n : Nat))] [] (.d (.str [UInt8.ofNat (48 + n)])) [] := by
 have h1 : decide (((n : Nat) : Int) < 10) = true := by simp; omega
 have h2 := xdg ⟨n, hn⟩
 simp only at h2
 have h3 : IntKind.i64.wrap ((n : Int) + 1) = ((n + 1 : Nat) : Int) := qd (show n < 9223372036854775807 by omega)
 have h4 : n + 1 - n = 1 := by omega
 refine F316.go ?_
 try (refine ev1 @h1 ?_; try exact True.intro)
 (repeat (with_reducible refine ob ?_)); refine qde ?_
 try (refine ev4 @h3 @Int.toNat_natCast @h4 @h2 ?_; try exact True.intro)
 omega
theorem qk1 (n : Nat) (hn : n < 10) : qg Tryz.prog 271 [.d (.int .i64 (n : Nat)), .d (.int .i64 10)] [] (.d (.str [UInt8.ofNat (48 + n)])) [] := by
 have h1 : decide ((0 : Int) ≤ ((n : Nat) : Int)) = true := by simp
 have h2 : decide (((n : Nat) : Int) < 100) = true := by simp; omega
 refine F271.go ?_
 try (refine ev ?_; try exact True.intro)
 (repeat (with_reducible refine ob ?_)); refine qde ?_
 try (refine ev2 @h1 @h2 ?_; try exact True.intro)
 (repeat (with_reducible refine ob ?_)); refine qde ?_
 try (refine ev ?_; try exact True.intro)
 (repeat (with_reducible refine ob ?_)); first | refine cl F316 (q1p n hn) ?_ | refine clF F316 (q1p n hn) (fun _ => by (refine ev3 @qf.eq_1 @qj.eq_1 @qh.eq_1 ?_; try exact True.intro)) ?_
 try (refine ev ?_; try exact True.intro)
theorem q1q (n : Nat) (hn : n < 10) : qg Tryz.prog 228 [.d (.int .i64 (n : Nat))] [] (.d (.str [UInt8.ofNat (48 + n)])) [] := by
 refine F228.go ?_
 try (refine ev ?_; try exact True.intro)
 (repeat (with_reducible refine ob ?_)); first | refine cl F271 (qk1 n hn) ?_ | refine clF F271 (qk1 n hn) (fun _ => by (refine ev3 @qf.eq_1 @qj.eq_1 @qh.eq_1 ?_; try exact True.intro)) ?_
 try (refine ev ?_; try exact True.intro)
theorem qs0 (n : Nat) (hn : n < 10) : qg Tryz.prog 146 [.d (.int .i64 (n : Nat))] [] (.d (.str [UInt8.ofNat (48 + n)])) [] := by
 refine F146.go ?_
 try (refine ev ?_; try exact True.intro)
 (repeat (with_reducible refine ob ?_)); first | refine cl F228 (q1q n hn) ?_ | refine clF F228 (q1q n hn) (fun _ => by (refine ev3 @qf.eq_1 @qj.eq_1 @qh.eq_1 ?_; try exact True.intro)) ?_
 try (refine ev ?_; try exact True.intro)
theorem qhg (s : Int) (h1 : 0 ≤ s) (h2 : s ≤ 99) : qg Tryz.prog 79 [.d (.int .i64 s)] [] (.d (.str (uKey s))) [] := by
 obtain ⟨n, rfl⟩ : ∃ n : Nat, s = n := ⟨s.toNat, by omega⟩
 have e1 : IntKind.i64.wrap ((n : Int).tdiv 10) = ((n / 10 : Nat) : Int) := by
  rw [Int.tdiv_eq_ediv_of_nonneg (by omega), xi (by unfold I64; omega)]; omega
 have e2 : ((n : Int)).tmod 10 = ((n % 10 : Nat) : Int) := by rw [Int.tmod_eq_emod_of_nonneg (by omega)]; omega
 refine F79.go ?_
 try (refine ev2 @e1 @e2 ?_; try exact True.intro)
 (repeat (with_reducible refine ob ?_)); first | refine cl F146 (qs0 (n / 10) (by omega)) ?_ | refine clF F146 (qs0 (n / 10) (by omega)) (fun _ => by (refine ev3 @qf.eq_1 @qj.eq_1 @qh.eq_1 ?_; try exact True.intro)) ?_
 try (refine ev ?_; try exact True.intro)
 (repeat (with_reducible refine ob ?_)); first | refine cl F146 (qs0 (n % 10) (by omega)) ?_ | refine clF F146 (qs0 (n % 10) (by omega)) (fun _ => by (refine ev3 @qf.eq_1 @qj.eq_1 @qh.eq_1 ?_; try exact True.intro)) ?_
 try (refine ev3 @uKey.eq_1 @Int.toNat_natCast @List.append_assoc.{0} ?_; try exact True.intro)
def q86 (l : List Bool) (i : { i : Nat // i ≤ l.length }) : St :=
 ⟨[(3, true, .d (.int .i64 (bitN (l.take i.val) : Nat))), (6, true, .d (.sl 1 (l.map encB))), (7, true, .d (.int .i64 l.length)), (8, true, .d (.int .i64 (i.val : Nat)))], [], [], 1⟩
theorem qwx : ∀ (l : List Bool) (b : Bool), bitN (l ++ [b]) = bitN l + b.toNat * 2 ^ l.length
 | [], b => by simp [bitN]
 | c :: l, b => by
  rw [List.cons_append, bitN, qwx l b, bitN, List.length_cons, Nat.pow_succ, Nat.mul_add, ← Nat.mul_assoc, Nat.mul_comm 2 b.toNat, Nat.mul_assoc, Nat.mul_comm 2 (2 ^ l.length)]
  omega
theorem xiz {u i : Nat} (hu : u < 2 ^ i) (hi : i ≤ 60) : IntKind.i64.wrap (bvOr 64 (u : Int) (IntKind.i64.wrap (1 * 2 ^ (min i 64)))) = ((u + 2 ^ i : Nat) : Int) := by
 have hp : (2 : Nat) ^ i ≤ 2 ^ 60 := Nat.pow_le_pow_right (by decide) hi
 have e1 : min i 64 = i := by omega
 have e2 : (1 : Int) * 2 ^ i = ((2 ^ i : Nat) : Int) := by simp
 rw [e1, e2, xi (n := ((2 ^ i : Nat) : Int)) (by unfold I64; omega)]
 have e3 : bvOr 64 (u : Int) ((2 ^ i : Nat) : Int) = ((u ||| 2 ^ i : Nat) : Int) := by
  unfold bvOr
  rw [BitVec.toNat_or, BitVec.ofInt_natCast, BitVec.ofInt_natCast, BitVec.toNat_ofNat, BitVec.toNat_ofNat, Nat.mod_eq_of_lt (by omega), Nat.mod_eq_of_lt (by omega)]
 have e4 := qyz u 1 i hu
 rw [Nat.one_mul] at e4
 rw [e3, e4, xi (by unfold I64; omega)]
theorem qs1 (l : List Bool) (hl : l.length ≤ 60) : qg Tryz.prog 148 [.d (.sl 1 (l.map encB))] [] (.d (.int .i64 (bitN l : Nat))) [] := by
 refine F148.go ?_
 try (refine ev ?_; try exact True.intro)
 refine qk (q86 l) (fun i => l.length - i.val) ⟨0, Nat.zero_le _⟩ ?_ (fun i => ?_)
 ·try simp only [q86, List.take_zero, bitN, Int.ofNat_zero, go_sem, Nat.reduceAdd, Nat.reduceMul, Nat.reduceSub, Nat.reduceEqDiff, Nat.reduceLT, Nat.reduceLeDiff, Nat.reduceBEq, reduceIte, reduceCtorEq, Int.reduceAdd, Int.reduceLT, Int.reduceLE, Int.reduceGT, Int.reduceGE, Int.reduceEq, Int.reduceNe, Int.reduceBEq, Int.reduceBNe, Int.reduceToNat, Int.reduceNeg]
 obtain ⟨i, hi⟩ := i
 try (refine ev1 @q86.eq_1 ?_; try exact True.intro)
 (repeat (with_reducible refine ob ?_)); refine xk _ (fun h => ?_) (fun h => ?_)
 ·have hil : i < l.length := by simpa using h
  have hw := qd (show i < 9223372036854775807 by omega)
  have hlen : (l.take i).length = i := by rw [List.length_take]; omega
  have hsn : bitN (l.take (i + 1)) = bitN (l.take i) + (l[i]).toNat * 2 ^ i := by
   rw [← List.take_append_getElem hil, qwx, hlen]
  have hlt := qbt (l.take i)
  rw [hlen] at hlt
  (refine ev2 (qi encB l hil) @encB.eq_1 ?_; try exact True.intro)
  (repeat (with_reducible refine ob ?_))
  refine xk _ (fun h2 => ?_) (fun h2 => ?_)
  ·have ho := xiz hlt (show i ≤ 60 by omega)
   rw [h2, Bool.toNat_true, Nat.one_mul] at hsn
   rw [← hsn] at ho
   try (refine ev2 @Int.toNat_natCast @ho ?_; try exact True.intro)
   (repeat (with_reducible refine ob ?_))
   refine ⟨⟨i + 1, hil⟩, ?_, by dsimp only; omega⟩
   try (refine ev2 @q86.eq_1 @hw ?_; try exact True.intro)
  ·rw [h2, Bool.toNat_false, Nat.zero_mul, Nat.add_zero] at hsn
   try (refine ev ?_; try exact True.intro)
   refine ⟨⟨i + 1, hil⟩, ?_, by dsimp only; omega⟩
   try (refine ev3 @q86.eq_1 @hw @hsn ?_; try exact True.intro)
 ·have hil : l.length ≤ i := by simpa using h
  try (refine ev1 (List.take_of_length_le hil) ?_; try exact True.intro)
theorem xdh (x : Ue) (hp : I64 x.phase) (h1 : x.moved.length ≤ 60) (h2 : x.opened.length ≤ 60) : qg Tryz.prog 80 [.d (.agg (qf x))] [] (.d (.sl 1 (qa (y8 x)))) [] := by
 have p1 : (2 : Nat) ^ x.moved.length ≤ 2 ^ 60 := Nat.pow_le_pow_right (by decide) h1
 have p2 : (2 : Nat) ^ x.opened.length ≤ 2 ^ 60 := Nat.pow_le_pow_right (by decide) h2
 have q1 := qbt x.moved
 have q2 := qbt x.opened
 have i1 : I64 (bitN x.moved : Nat) := by unfold I64; omega
 have i2 : I64 (bitN x.opened : Nat) := by unfold I64; omega
 have a1 := zk hp
 have a2 := zk i1
 refine F80.go ?_
 try (refine ev1 @qf.eq_1 ?_; try exact True.intro)
 refine clA F147 (qa6 [] x.phase (by simp) hp) ?_
 try (refine ev ?_; try exact True.intro)
 (repeat (with_reducible refine ob ?_)); first | refine cl F148 (qs1 x.moved h1) ?_ | refine clF F148 (qs1 x.moved h1) (fun _ => by (refine ev3 @qf.eq_1 @qj.eq_1 @qh.eq_1 ?_; try exact True.intro)) ?_
 try (refine ev ?_; try exact True.intro)
 refine clA F147 (qa6 ([] ++ wInt x.phase) _ (by rw [List.nil_append]; omega) i1) ?_
 try (refine ev ?_; try exact True.intro)
 (repeat (with_reducible refine ob ?_)); first | refine cl F148 (qs1 x.opened h2) ?_ | refine clF F148 (qs1 x.opened h2) (fun _ => by (refine ev3 @qf.eq_1 @qj.eq_1 @qh.eq_1 ?_; try exact True.intro)) ?_
 try (refine ev ?_; try exact True.intro)
 refine clA F147 (qa6 ([] ++ wInt x.phase ++ wInt (bitN x.moved : Nat)) _ (by rw [List.nil_append, List.length_append]; omega) i2) ?_
 try simp only [y8, List.nil_append, go_sem, Nat.reduceAdd, Nat.reduceMul, Nat.reduceSub, Nat.reduceEqDiff, Nat.reduceLT, Nat.reduceLeDiff, Nat.reduceBEq, reduceIte, reduceCtorEq, Int.reduceAdd, Int.reduceLT, Int.reduceLE, Int.reduceGT, Int.reduceGE, Int.reduceEq, Int.reduceNe, Int.reduceBEq, Int.reduceBNe, Int.reduceToNat, Int.reduceNeg]
theorem xdi {a : Mg} (ha : MW a) (x : Ue) : ((qy a x.sess).2 && decide (x = a.ents.getD (qy a x.sess).1 default)) = decide (x ∈ a.ents) := by
 cases hf : (qy a x.sess).2 with
 | false =>
  have : x ∉ a.ents := fun h => by
   have := (qdw ha (s := x.sess)).2 ⟨x, h, rfl⟩
   rw [hf] at this; cases this
  simp [this]
 | true =>
  obtain ⟨hk, hs⟩ := qgd hf
  rw [Bool.true_and, ja hk, decide_eq_decide]
  constructor
  ·intro h; rw [h]; exact List.getElem_mem hk
  ·intro h
   have hn : a.ents.Pairwise fun a b => a.sess ≠ b.sess := by
    have hp := ha.inc
    rw [List.pairwise_map] at hp
    exact hp.imp fun h => by omega
   by_cases hxy : x = a.ents[(qy a x.sess).1]
   ·exact hxy
   ·exact absurd hs.symm (qsz hn h (List.getElem_mem hk) hxy)
def Sch1 (a b : Mg) (i : { i : Nat // qbq (fun i => (qy b (a.ents.getD i default).sess).2) i = true }) : St :=
 ⟨[(2, true, .d (.ptr 0 0)), (3, true, .d (.ptr 1 0)), (31, true, .d (.sl 4 (a.ents.map qf))), (32, true, .d (.int .i64 a.ents.length)), (33, true, .d (.int .i64 (i.val : Nat)))], [xr a, xr b], [], 1⟩
def Sch2 (a b : Mg) (i : { i : Nat // i ≤ b.ents.length }) : St :=
 ⟨[(2, true, .d (.ptr 0 0)), (3, true, .d (.ptr 1 0)), (10, true, .own 0 3 (((b.ents.take i.val).flatMap (chOp a)).map qh)), (48, true, .d (.sl 4 (b.ents.map qf))), (49, true, .d (.int .i64 b.ents.length)), (50, true, .d (.int .i64 (i.val : Nat)))], [xr a, xr b], [0], 1⟩
theorem qs2 {a b : Mg} : (a.ents.any fun x => !(qy b x.sess).2) = !qbq (fun i => (qy b (a.ents.getD i default).sess).2) a.ents.length := by
 rw [Bool.eq_iff_iff]
 simp only [List.any_eq_true, Bool.not_eq_true', ← Bool.not_eq_true, zo, Classical.not_forall]
 constructor
 ·rintro ⟨x, hx, h⟩
  obtain ⟨i, hi, rfl⟩ := List.getElem_of_mem hx
  exact ⟨i, hi, by rw [ja hi]; exact h⟩
 ·rintro ⟨i, hi, h⟩
  exact ⟨a.ents[i], List.getElem_mem hi, by rw [ja hi] at h; exact h⟩
theorem q87 (a : Mg) (l : List Ue) : (l.flatMap (chOp a)).length ≤ l.length := by
 induction l with
 | nil => simp
 | cons x l ih =>
  have : (chOp a x).length ≤ 1 := by unfold chOp; split <;> simp
  rw [List.flatMap_cons, List.length_append, List.length_cons]; omega
set_option maxRecDepth 10000 in
theorem q4m (a b : Mg) (ha : a.Sm) (hb : b.Sm) : qg Tryz.prog 25 [.d (.agg (qj a)), .d (.agg (qj b))] [] (.tup [.d (.sl 3 ((zf a b).1.map qh)), .d (.int .i64 (zf a b).2)]) [] := by
 have hal := ha.1
 have hbl := hb.1
 refine F25.goT ?_
 try (refine ev1 @qj.eq_1 ?_; try exact True.intro)
 (repeat (with_reducible refine ob ?_)); first | refine cl F69 (vz a ha) ?_ | refine clF F69 (vz a ha) (fun _ => by (refine ev3 @qf.eq_1 @qj.eq_1 @qh.eq_1 ?_; try exact True.intro)) ?_
 try (refine ev ?_; try exact True.intro)
 (repeat (with_reducible refine ob ?_)); first | refine cl F69 (vz b hb) ?_ | refine clF F69 (vz b hb) (fun _ => by (refine ev3 @qf.eq_1 @qj.eq_1 @qh.eq_1 ?_; try exact True.intro)) ?_
 try (refine ev ?_; try exact True.intro)
 (repeat (with_reducible refine ob ?_))
 (repeat (with_reducible refine ob ?_)); refine xk _ (fun h => ?_) (fun h => ?_)
 ·have hx : zf a b = ([], 1) := by unfold zf; rw [if_pos h]
  try (refine ev2 @hx @List.map_nil.{0,0} ?_; try exact True.intro)
 have h0 := h
 simp only [Bool.or_eq_false_iff, Bool.not_eq_false', bne_eq_false_iff_eq] at h
 obtain ⟨⟨va, vb⟩, hr⟩ := h
 have wa := kg.1 va
 have wb := kg.1 vb
 try (refine ev ?_; try exact True.intro)
 refine qk (Sch1 a b) (fun i => a.ents.length - i.val) ⟨0, rfl⟩ ?_ (fun i => ?_)
 ·try (refine ev3 @Sch1.eq_1 @xr.eq_1 @Int.ofNat_zero ?_; try exact True.intro)
 obtain ⟨i, hi⟩ := i
 try (refine ev2 @Sch1.eq_1 @xr.eq_1 ?_; try exact True.intro)
 (repeat (with_reducible refine ob ?_)); refine xk _ (fun h => ?_) (fun h => ?_)
 ·have hil : i < a.ents.length := by simpa using h
  have k := qdr b (a.ents[i]).sess hb
  simp only [qj] at k
  (refine ev2 (qi qf a.ents hil) @qf.eq_1 ?_; try exact True.intro)
  (repeat (with_reducible refine ob ?_))
  (repeat (with_reducible refine ob ?_)); first | refine cl F77 (k) ?_ | refine clF F77 (k) (fun _ => by (refine ev3 @qf.eq_1 @qj.eq_1 @qh.eq_1 ?_; try exact True.intro)) ?_
  try (refine ev ?_; try exact True.intro)
  refine xk _ (fun h2 => ?_) (fun h2 => ?_)
  ·have hg : (fun i => (qy b (a.ents.getD i default).sess).2) i = false := by simp only [ja hil]; simpa using h2
   have hx : zf a b = ([], 1) := by
    unfold zf
    rw [if_neg (by rw [h0]; simp), if_pos]
    rw [qs2, qd7 hil hg]; rfl
   try (refine ev2 @hx @List.map_nil.{0,0} ?_; try exact True.intro)
  ·try (refine ev ?_; try exact True.intro)
   refine ⟨⟨i + 1, yq hi (by simp only [ja hil]; simpa using h2)⟩, ?_, by dsimp only; omega⟩
   try (refine ev3 @Sch1.eq_1 @xr.eq_1 (qd (show i < 9223372036854775807 by omega)) ?_; try exact True.intro)
 have hil : a.ents.length ≤ i := by simpa using h
 have hall : qbq (fun i => (qy b (a.ents.getD i default).sess).2) a.ents.length = true := zo.2 fun j hj => zo.1 hi j (by omega)
 have hx : zf a b = (qod a b, 0) := by
  unfold zf
  rw [if_neg (by rw [h0]; simp), if_neg]
  rw [qs2, hall]; simp
 rw [hx]
 try (refine ev ?_; try exact True.intro)
 refine qk (Sch2 a b) (fun i => b.ents.length - i.val) ⟨0, Nat.zero_le _⟩ ?_ (fun i => ?_)
 ·try (refine ev6 @Sch2.eq_1 @xr.eq_1 @Int.ofNat_zero @List.take_zero.{0} @List.flatMap_nil.{0,0} @List.map_nil.{0,0} ?_; try exact True.intro)
 obtain ⟨j, hj⟩ := i
 try (refine ev2 @Sch2.eq_1 @xr.eq_1 ?_; try exact True.intro)
 (repeat (with_reducible refine ob ?_)); refine xk _ (fun h => ?_) (fun h => ?_)
 ·have hjl : j < b.ents.length := by simpa using h
  have hxs := hb.2 _ (List.getElem_mem hjl)
  have hxe := wb.en _ (List.getElem_mem hjl)
  have kf := qdr a (b.ents[j]).sess ha
  have hph : I64 (b.ents[j]).phase := by
   rw [hxe.ph]
   rcases wn b.ents[j] with h | h | h | h <;> rw [h.1] <;> unfold I64 <;> omega
  have kv := xdh b.ents[j] hph (by have := hxe.ml; have := wb.r6; omega) (by have := hxe.ol; have := wb.r6; omega)
  simp only [qf] at kv
  have hlen := q87 a (b.ents.take j)
  rw [List.length_take] at hlen
  have hsnoc : (b.ents.take (j + 1)).flatMap (chOp a) = (b.ents.take j).flatMap (chOp a) ++ chOp a b.ents[j] := by
   rw [← List.take_append_getElem hjl, List.flatMap_append]; simp
  have hsame := xdi wa b.ents[j]
  have hw := qd (show j < 9223372036854775807 by omega)
  simp only [qj] at kf
  (refine ev2 (qi qf b.ents hjl) @qf.eq_1 ?_; try exact True.intro)
  (repeat (with_reducible refine ob ?_))
  (repeat (with_reducible refine ob ?_)); first | refine cl F77 (kf) ?_ | refine clF F77 (kf) (fun _ => by (refine ev3 @qf.eq_1 @qj.eq_1 @qh.eq_1 ?_; try exact True.intro)) ?_
  try (refine ev ?_; try exact True.intro)
  cases hf : (qy a (b.ents[j]).sess).2 with
  | false =>
   rw [hf, Bool.false_and] at hsame
   have hc : chOp a b.ents[j] = [⟨uKey b.ents[j].sess, false, y8 b.ents[j]⟩] := by unfold chOp; rw [if_neg (of_decide_eq_false hsame.symm)]
   try (refine ev1 @hf ?_; try exact True.intro)
   (repeat (with_reducible refine ob ?_)); refine xfh ?_
   try (refine ev ?_; try exact True.intro)
   (repeat (with_reducible refine ob ?_)); refine no_ ?_
   try (refine ev ?_; try exact True.intro)
   (repeat (with_reducible refine ob ?_)); first | refine cl F79 (qhg (b.ents[j]).sess (by have := hxe.s1; omega) (by have := hxe.s32; omega)) ?_ | refine clF F79 (qhg (b.ents[j]).sess (by have := hxe.s1; omega) (by have := hxe.s32; omega)) (fun _ => by (refine ev3 @qf.eq_1 @qj.eq_1 @qh.eq_1 ?_; try exact True.intro)) ?_
   try (refine ev ?_; try exact True.intro)
   (repeat (with_reducible refine ob ?_)); first | refine cl F80 (kv) ?_ | refine clF F80 (kv) (fun _ => by (refine ev3 @qf.eq_1 @qj.eq_1 @qh.eq_1 ?_; try exact True.intro)) ?_
   try (refine ev ?_; try exact True.intro)
   (repeat (with_reducible refine ob ?_))
   refine ⟨⟨j + 1, hjl⟩, ?_, by dsimp only; omega⟩
   try simp only [Sch2, xr, hsnoc, hc, List.map_append, List.map_cons, List.map_nil, qh, hw, go_sem, Nat.reduceAdd, Nat.reduceMul, Nat.reduceSub, Nat.reduceEqDiff, Nat.reduceLT, Nat.reduceLeDiff, Nat.reduceBEq, reduceIte, reduceCtorEq, Int.reduceAdd, Int.reduceLT, Int.reduceLE, Int.reduceGT, Int.reduceGE, Int.reduceEq, Int.reduceNe, Int.reduceBEq, Int.reduceBNe, Int.reduceToNat, Int.reduceNeg]
  | true =>
   obtain ⟨hk, _⟩ := qgd hf
   rw [hf, Bool.true_and, ja hk] at hsame
   generalize (qy a (b.ents[j]).sess).1 = k at hk hsame ⊢
   have hys := ha.2 _ (List.getElem_mem hk)
   have kq := qjm b.ents[j] a.ents[k] hxs
   simp only [qf] at kq
   try (refine ev2 @hf @Int.toNat_natCast ?_; try exact True.intro)
   (refine ev2 (qi qf a.ents hk) @qf.eq_1 ?_; try exact True.intro)
   (repeat (with_reducible refine ob ?_))
   (repeat (with_reducible refine ob ?_)); first | refine cl F78 (kq) ?_ | refine clF F78 (kq) (fun _ => by (refine ev3 @qf.eq_1 @qj.eq_1 @qh.eq_1 ?_; try exact True.intro)) ?_
   try (refine ev ?_; try exact True.intro)
   refine xk _ (fun h2 => ?_) (fun h2 => ?_)
   ·have hc : chOp a b.ents[j] = [] := by unfold chOp; rw [if_pos (of_decide_eq_true (hsame.symm.trans h2))]
    try (refine ev ?_; try exact True.intro)
    refine ⟨⟨j + 1, hjl⟩, ?_, by dsimp only; omega⟩
    try (refine ev6 @Sch2.eq_1 @xr.eq_1 @hsnoc @hc @List.append_nil.{0} @hw ?_; try exact True.intro)
   ·have hc : chOp a b.ents[j] = [⟨uKey b.ents[j].sess, false, y8 b.ents[j]⟩] := by unfold chOp; rw [if_neg (of_decide_eq_false (hsame.symm.trans h2))]
    try (refine ev ?_; try exact True.intro)
    (repeat (with_reducible refine ob ?_)); first | refine cl F79 (qhg (b.ents[j]).sess (by have := hxe.s1; omega) (by have := hxe.s32; omega)) ?_ | refine clF F79 (qhg (b.ents[j]).sess (by have := hxe.s1; omega) (by have := hxe.s32; omega)) (fun _ => by (refine ev3 @qf.eq_1 @qj.eq_1 @qh.eq_1 ?_; try exact True.intro)) ?_
    try (refine ev ?_; try exact True.intro)
    (repeat (with_reducible refine ob ?_)); first | refine cl F80 (kv) ?_ | refine clF F80 (kv) (fun _ => by (refine ev3 @qf.eq_1 @qj.eq_1 @qh.eq_1 ?_; try exact True.intro)) ?_
    try (refine ev ?_; try exact True.intro)
    (repeat (with_reducible refine ob ?_))
    refine ⟨⟨j + 1, hjl⟩, ?_, by dsimp only; omega⟩
    try simp only [Sch2, xr, hsnoc, hc, List.map_append, List.map_cons, List.map_nil, qh, hw, go_sem, Nat.reduceAdd, Nat.reduceMul, Nat.reduceSub, Nat.reduceEqDiff, Nat.reduceLT, Nat.reduceLeDiff, Nat.reduceBEq, reduceIte, reduceCtorEq, Int.reduceAdd, Int.reduceLT, Int.reduceLE, Int.reduceGT, Int.reduceGE, Int.reduceEq, Int.reduceNe, Int.reduceBEq, Int.reduceBNe, Int.reduceToNat, Int.reduceNeg]
 ·have hjl : b.ents.length ≤ j := by simpa using h
  try (refine ev2 @qod.eq_1 (List.take_of_length_le hjl) ?_; try exact True.intro)
end Go.Proofs.YtkcdbcbpbolgkaaGreatDoor
