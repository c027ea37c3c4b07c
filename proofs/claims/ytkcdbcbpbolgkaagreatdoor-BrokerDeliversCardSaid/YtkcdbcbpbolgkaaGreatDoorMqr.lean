/- Texts Gh, Gi, Gj, Gk, Gl, Tb, Tc, Ta, Ka, Kc, Kd, Kf, Ke, Kl, Kp, Kg, Kh, Ki, Kj, Kq, Kn, Ko, Ks, Kt. -/
import Derived.Test.YtkcdbcbpbolgkaaGreatDoorMqq
set_option linter.unusedSimpArgs false
set_option linter.unusedVariables false
namespace Go.Proofs.YtkcdbcbpbolgkaaGreatDoor
open Go.Abs
noncomputable section
set_option maxRecDepth 100000
set_option linter.defProp false
def d74b := cut Tryz.prog Tryz.f74 news [42] [9, 10] true
@[go_sem] def E74b := ql d74b
def F74b := fnC d74b follows Tryz.func74
end
theorem q4u : (Tryz.prog.funcs[142]?).any (fun fn => fn.body.isSome && !(fn.name == "runtime.NumGoroutine")) = true := by rw [Tryz.func142]; rfl
theorem qh3 : ∀ l : List Ue, qae (jn l) = true
 | [] => rfl
 | x :: l => by
  rw [zb]
  have := qh3 l
  try (refine ev1 @this ?_; try exact True.intro)
theorem qru (ι : List Nat) : ∀ l : List Ue, (jn l).map (ASlot.ren1 ι) = jn l
 | [] => rfl
 | x :: l => by
  rw [zb]
  have := qru ι l
  try (refine ev2 @List.map_cons.{0,0} @this ?_; try exact True.intro)
attribute [go_sem] qh3 qru
theorem xez (l : List Ue) : ∀ r ∈ l.map qq, r.length = 4 := by
 intro r hr
 obtain ⟨x, _, rfl⟩ := List.mem_map.1 hr
 rfl
theorem xob (l : List Ue) : ∀ d ∈ (l.map qq).flatten, d.isCell = true := by
 intro d hd
 obtain ⟨r, hr, hd⟩ := List.mem_flatten.1 hd
 obtain ⟨x, _, rfl⟩ := List.mem_map.1 hr
 simp only [qq, List.mem_cons, List.not_mem_nil, or_false] at hd
 rcases hd with rfl | rfl | rfl | rfl <;> rfl
def newE (roles s : Int) : Ue := ⟨s, 1, List.replicate roles.toNat false, List.replicate roles.toNat false⟩
def zx (m : Mg) (s : Int) : Mg × Int :=
 if !zh m then (⟨0, []⟩, 1) else if decide (s < 1) || decide (s > 32) then (⟨0, []⟩, 2) else if (xi m s).2 then (⟨0, []⟩, 9)
 else (⟨m.roles, m.ents.take (xi m s).1 ++ [newE m.roles s] ++ m.ents.drop (xi m s).1⟩, 0)
theorem qd3 {m : Mg} (h : zh m = true) : 1 ≤ m.roles ∧ m.roles ≤ 6 := by
 simp only [zh, Bool.and_eq_true, decide_eq_true_eq] at h
 exact h.2
theorem xe0 (m : Mg) (s : Int) : (xi m s).1 ≤ m.ents.length := by
 unfold xi
 split
 ·exact Nat.le_of_lt (qq4 (by assumption)).2
 ·exact Nat.le_refl _
set_option maxRecDepth 10000 in
theorem quu (m : Mg) (s : Int) (hm : m.Sm) : qg Tryz.prog 74 [.d (.agg (qx m)), .d (.int .i64 s)] [] (.tup [.d (.agg (qx (zx m s).1)), .d (.int .i64 (zx m s).2)]) [] := by
 have hl := hm.1
 refine F74b.goT ?_
 try (refine ev1 @qx.eq_1 ?_; try exact True.intro)
 (repeat (with_reducible refine ob ?_)); first | refine cl F69 (y6 m hm) ?_ | refine clF F69 (y6 m hm) (fun _ => by (refine ev2 @qq.eq_1 @qx.eq_1 ?_; try exact True.intro)) ?_
 try (refine ev ?_; try exact True.intro)
 (repeat (with_reducible refine ob ?_)); refine xq _ (fun h => ?_) (fun h => ?_)
 ·have hb : zx m s = (⟨0, []⟩, 1) := by simp only [zx, h, if_true]
  try (refine ev2 @hb @List.map_nil.{0,0} ?_; try exact True.intro)
  refine pu ?_
  try (refine ev ?_; try exact True.intro)
 have hv : zh m = true := by simpa using h
 obtain ⟨hr1, hr2⟩ := qd3 hv
 try (refine ev ?_; try exact True.intro)
 (repeat (with_reducible refine ob ?_)); refine xq _ (fun h => ?_) (fun h => ?_)
 ·have hb : zx m s = (⟨0, []⟩, 2) := by simp only [zx, hv, h]; rfl
  try (refine ev2 @hb @List.map_nil.{0,0} ?_; try exact True.intro)
  refine pu ?_
  try (refine ev ?_; try exact True.intro)
 have hs := h
 try (refine ev ?_; try exact True.intro)
 (repeat (with_reducible refine ob ?_)); first | refine cl F77 (qf8 m s hm) ?_ | refine clF F77 (qf8 m s hm) (fun _ => by (refine ev2 @qq.eq_1 @qx.eq_1 ?_; try exact True.intro)) ?_
 try (refine ev ?_; try exact True.intro)
 (repeat (with_reducible refine ob ?_)); refine xq _ (fun h => ?_) (fun h => ?_)
 ·have hb : zx m s = (⟨0, []⟩, 9) := by simp only [zx, hv, hs, h]; rfl
  try (refine ev2 @hb @List.map_nil.{0,0} ?_; try exact True.intro)
  refine pu ?_
  try (refine ev ?_; try exact True.intro)
 have hb : zx m s = (⟨m.roles, m.ents.take (xi m s).1 ++ [newE m.roles s] ++ m.ents.drop (xi m s).1⟩, 0) := by simp only [zx, hv, hs, h]; rfl
 try (refine ev1 @hb ?_; try exact True.intro)
 refine clO [2, 3, 4] xqv (xdg m hm) ?_ (hfit := by first | exact ⟨qc, trivial⟩ | (refine ev1 @qx.eq_1 ?_; try exact True.intro))
 try (refine ev ?_; try exact True.intro)
 refine qqi (.cell 0 1) 4 4 (m.ents.map qq) ?_ rfl (xez _) (xob _) (D.okWR_noPtr (qf7 _)) (hn := by show (0 : Nat) ≠ 4; decide) (hp := by simp only [List.length_map]; rfl)
 refine pu ?_
 try (refine ev ?_; try exact True.intro)
 (repeat (with_reducible refine ob ?_))
 have hrow : qq (newE m.roles s) = [.int .i64 s, .int .i64 1, .sl 1 (List.replicate m.roles.toNat [.bool false]), .sl 1 (List.replicate m.roles.toNat [.bool false])] := by simp only [qq, newE, List.map_replicate, encB]
 have hnew : (m.ents.map qq).take (xi m s).1 ++ [qq (newE m.roles s)] ++ (m.ents.map qq).drop (xi m s).1 = (m.ents.take (xi m s).1 ++ [newE m.roles s] ++ m.ents.drop (xi m s).1).map qq := by simp
 have hins := xey (m.ents.map qq) (qq (newE m.roles s)) (xi m s).1 (by rw [List.length_map]; exact xe0 m s) (by rw [List.length_map]; exact hl) rfl
 rw [hnew] at hins
 refine qho hins q4u rfl ⟨by try (refine ev1 @hrow ?_; try exact True.intro), by try (refine ev2 @qf7 @qjj ?_; try exact True.intro), by simp only [xu]; simp, by simp only [xu]; simp⟩ (by simp [ASlot.toks]) (by simp [ASlot.toks]) ?_
 try (refine ev ?_; try exact True.intro)
 (repeat (with_reducible refine ob ?_))
 refine xhy (.cell 0 1) 640 4 ((m.ents.take (xi m s).1 ++ [newE m.roles s] ++ m.ents.drop (xi m s).1).map qq) ?_
 refine pu ?_
 try (refine ev ?_; try exact True.intro)
 refine pu ?_
 try (refine ev ?_; try exact True.intro)
 trace_state
end Go.Proofs.YtkcdbcbpbolgkaaGreatDoor
namespace Go.Proofs.YtkcdbcbpbolgkaaGreatDoor
open Go.Abs
noncomputable section
set_option maxRecDepth 100000
set_option linter.defProp false
def d75b := cut Tryz.prog Tryz.f75 news [] [16] true
@[go_sem] def E75b := ql d75b
def F75b := fnC d75b follows Tryz.func75
end
def jv (p : Pk) (x : Ue) : Ue :=
 if p.label == 2 then { x with opened := x.opened.set p.from_.toNat true } else { x with moved := x.moved.set p.from_.toNat true }
def yh (x : Ue) : Ue := { x with phase := zp x }
def qbi (p : Pk) (x : Ue) : List Bool := if p.label == 2 then x.opened else x.moved
def xl (m : Mg) (p : Pk) : Mg × Int :=
 if !zh m || p.kind != 4 || !qj p || decide (p.from_ ≥ m.roles) then (⟨0, []⟩, 1)
 else if !(xi m p.sess).2 then (⟨0, []⟩, 8)
 else if (qbi p (m.ents.getD (xi m p.sess).1 default)).getD p.from_.toNat false then (⟨0, []⟩, 21)
 else if p.label == 2 && (m.ents.getD (xi m p.sess).1 default).phase == 1 then (⟨0, []⟩, 7)
 else (⟨m.roles, m.ents.set (xi m p.sess).1 (yh (jv p (m.ents.getD (xi m p.sess).1 default)))⟩, 0)
theorem qmt {s : ASlot} (hs : qae [s] = true) : ∀ (l : List ASlot) (i : Nat), qae l = true → qae (l.set i s) = true
 | [], _, h => h
 | _ :: l, 0, h => by
  rw [List.set_cons_zero]
  simp only [qae, Bool.and_eq_true] at h hs ⊢
  exact ⟨hs.1, h.2⟩
 | x :: l, i + 1, h => by
  rw [List.set_cons_succ]
  simp only [qae, Bool.and_eq_true] at h ⊢
  exact ⟨h.1, qmt hs l i h.2⟩
theorem q4v {l : List Ue} {k a b : Nat} {x : Ue} : qae (refA (jn l) k a b x) = true := qmt rfl _ _ (qmt rfl _ _ (qh3 l))
theorem qrv : ∀ l : List Bool, qae (l.map fun b => .d (.bool b)) = true
 | [] => rfl
 | x :: l => by
  have := qrv l
  try (refine ev2 @List.map_cons.{0,0} @this ?_; try exact True.intro)
theorem xka (ι : List Nat) (l : List Bool) : (l.map fun b => ASlot.d (.bool b)).map (ASlot.ren1 ι) = l.map fun b => .d (.bool b) := by
 rw [List.map_map]; rfl
theorem xkb {l : List Ue} {k : Nat} {x : Ue} (ι : List Nat) (a b : Nat) : (refA (jn l) k a b x).map (ASlot.ren1 ι) = refA (jn l) k (ι.getD a 0) (ι.getD b 0) x := by
 rw [refA, List.map_set, List.map_set, qru]
 rfl
attribute [go_sem] q4v qrv xka xkb
theorem xrm {l : List Ue} {k a b j : Nat} {x : Ue} (hk : k < l.length) (hj : j < 2) : (refA (jn l) k a b x).getD (k * 4 + j) .bad = .d ((qq l[k]).getD j .nilsl) := by
 rw [List.getD_eq_getElem?_getD, refA, List.getElem?_set_ne (by omega), List.getElem?_set_ne (by omega), qhu l k j hk (by omega)]; rfl
theorem xe1 {l : List Ue} {k a b : Nat} {x : Ue} (hk : k < l.length) : (refA (jn l) k a b x).getD (k * 4 + 1) .bad = .d (.int .i64 l[k].phase) := xrm hk (by decide)
theorem qxa {l : List Ue} {k a b : Nat} {x : Ue} (hk : k < l.length) : (refA (jn l) k a b x).getD (k * 4 + 2) .bad = .d (.ref a 0 1 x.moved.length) := by
 have hf := qeu l
 rw [List.getD_eq_getElem?_getD, refA, List.getElem?_set_ne (by omega), List.getElem?_set_self (by omega)]; rfl
theorem qxb {l : List Ue} {k a b : Nat} {x : Ue} (hk : k < l.length) : (refA (jn l) k a b x).getD (k * 4 + 3) .bad = .d (.ref b 0 1 x.opened.length) := by
 have hf := qeu l
 rw [List.getD_eq_getElem?_getD, refA, List.getElem?_set_self (by rw [List.length_set]; omega)]; rfl
theorem q6z {l : List Bool} {i : Nat} (h : i < l.length) : (l.map fun b => ASlot.d (.bool b)).getD i .bad = .d (.bool (l.getD i false)) := by
 rw [List.getD_eq_getElem?_getD, List.getElem?_map, List.getD_eq_getElem?_getD, List.getElem?_eq_getElem h]; rfl
theorem q60 (l : List Bool) (i : Nat) (b : Bool) : (l.map fun b => ASlot.d (.bool b)).set i (.d (.bool b)) = (l.set i b).map fun b => .d (.bool b) := by rw [List.map_set]
theorem xoc {m : Mg} {p : Pk} (h : (!zh m || p.kind != 4 || !qj p || decide (p.from_ ≥ m.roles)) = false) : zh m = true ∧ p.kind = 4 ∧ qj p = true ∧ p.from_ < m.roles ∧ 0 ≤ p.from_ := by
 simp only [Bool.or_eq_false_iff, Bool.not_eq_false', bne_eq_false_iff_eq, decide_eq_false_iff_not] at h
 obtain ⟨⟨⟨h1, h2⟩, h3⟩, h4⟩ := h
 refine ⟨h1, h2, h3, by omega, ?_⟩
 simp [qj, order, role, h2] at h3
 omega
theorem qip {m : Mg} (h : zh m = true) {k : Nat} (hk : k < m.ents.length) : (m.ents[k].moved.length : Int) = m.roles ∧ (m.ents[k].opened.length : Int) = m.roles ∧ m.ents[k].phase = zp m.ents[k] := by
 simp only [zh, Bool.and_eq_true] at h
 have := zd.1 h.1 k hk
 simp only [qet, zc hk, Bool.not_eq_true', Bool.or_eq_false_iff, bne_eq_false_iff_eq] at this
 exact ⟨this.1.1.1.2, this.1.1.2, this.2⟩
theorem q61 (id es e : Nat) (rows r : List (List D)) (h : D.noPtrR r = true) : ((ASlot.d (.sl e r)).frz id es rows).only (neId id) = .d (.sl e r) := by simp only [ASlot.frz, D.frz, ASlot.only, ASlot.okS, D.okW, D.okWR_noPtr h, if_true]
theorem q1p (id es : Nat) (rows : List (List D)) : ∀ l : List Ue, (jn l).map (fun s => (s.frz id es rows).only (neId id)) = jn l
 | [] => rfl
 | x :: l => by
  rw [zb, List.map_cons, List.map_cons, List.map_cons, List.map_cons, q1p id es rows l, q61 _ _ _ _ _ (qcy _), q61 _ _ _ _ _ (qcy _)]
  rfl
theorem qxc (l : List Ue) (i j : Nat) (u v : ASlot) (id es : Nat) (rows : List (List D)) : (((jn l).set i u).set j v).map (fun s => (s.frz id es rows).only (neId id)) = ((jn l).set i ((u.frz id es rows).only (neId id))).set j ((v.frz id es rows).only (neId id)) := by
 rw [List.map_set, List.map_set, q1p]
theorem q62 (l : List Ue) (k a b : Nat) (x : Ue) (id es : Nat) (rows : List (List D)) : (refA (jn l) k a b x).map (fun s => (s.frz id es rows).only (neId id)) =
  ((jn l).set (k * 4 + 2) (((ASlot.d (.ref a 0 1 x.moved.length)).frz id es rows).only (neId id))).set (k * 4 + 3) (((ASlot.d (.ref b 0 1 x.opened.length)).frz id es rows).only (neId id)) := qxc ..
theorem q63 (l : List Bool) (id es : Nat) (rows : List (List D)) : (l.map fun b => ASlot.d (.bool b)).map (fun s => (s.frz id es rows).only (neId id)) = l.map fun b => .d (.bool b) := by
 rw [List.map_map]; rfl
theorem qiq (l : List Bool) : (l.map fun b => ASlot.d (.bool b)).map ASlot.cellD = (l.map encB).flatten := by
 induction l with
 | nil => rfl
 | cons b l ih => simp only [List.map_cons, List.flatten_cons, encB, List.cons_append, List.nil_append, ih]; rfl
theorem qou (l : List Bool) : (l.map fun b => ASlot.d (.bool b)).all ASlot.isCellD = true := by
 rw [List.all_map]
 exact List.all_eq_true.2 fun b _ => rfl
theorem qov (l : List Bool) : ∀ r ∈ l.map encB, r.length = 1 := by
 intro r hr
 obtain ⟨x, _, rfl⟩ := List.mem_map.1 hr
 rfl
theorem qrw (l : List Ue) : (jn l).map ASlot.cellD = (l.map qq).flatten := by
 induction l with
 | nil => rfl
 | cons x l ih => rw [zb]; simp only [List.map_cons, List.flatten_cons, qq, List.cons_append, List.nil_append, ih]; rfl
theorem q1q (l : List Ue) : (jn l).all ASlot.isCellD = true := by
 induction l with
 | nil => rfl
 | cons x l ih => rw [zb]; simp only [List.all_cons, ih]; rfl
theorem qmu : ∀ (l : List Ue) (k : Nat) (y : Ue) (hk : k < l.length), y.sess = l[k].sess → y.phase = l[k].phase →
  ((jn l).set (k * 4 + 2) (.d (.sl 1 (y.moved.map encB)))).set (k * 4 + 3) (.d (.sl 1 (y.opened.map encB))) = jn (l.set k y)
 | x :: l, 0, y, _, h1, h2 => by
  simp only [List.getElem_cons_zero] at h1 h2
  rw [List.set_cons_zero, zb, zb, h1, h2]; rfl
 | x :: l, k + 1, y, hk, h1, h2 => by
  rw [List.set_cons_succ, zb, zb, ← qmu l k y (by simpa using hk) (by simpa using h1) (by simpa using h2), show (k + 1) * 4 + 2 = (k * 4 + 2) + 1 + 1 + 1 + 1 by omega, show (k + 1) * 4 + 3 = (k * 4 + 3) + 1 + 1 + 1 + 1 by omega]
  simp only [List.set_cons_succ]
theorem qe1 : ∀ (l : List Ue) (k : Nat) (y : Ue), k < l.length → (jn (l.set k y)).set (k * 4 + 1) (.d (.int .i64 (zp y))) = jn (l.set k (yh y))
 | x :: l, 0, y, _ => by
  rw [List.set_cons_zero, List.set_cons_zero, zb, zb]; rfl
 | x :: l, k + 1, y, hk => by
  rw [List.set_cons_succ, List.set_cons_succ, zb, zb, ← qe1 l k y (by simpa using hk), show (k + 1) * 4 + 1 = (k * 4 + 1) + 1 + 1 + 1 + 1 by omega]
  simp only [List.set_cons_succ]
theorem qmv : ∀ (l : List Ue) (k : Nat) (y : Ue), k < l.length → ((jn (l.set k y)).drop (k * 4)).take 4 = [.d (.int .i64 y.sess), .d (.int .i64 y.phase), .d (.sl 1 (y.moved.map encB)), .d (.sl 1 (y.opened.map encB))]
 | x :: l, 0, y, _ => by
  rw [List.set_cons_zero, zb]; rfl
 | x :: l, k + 1, y, hk => by
  rw [List.set_cons_succ, zb, ← qmv l k y (by simpa using hk), show (k + 1) * 4 = k * 4 + 1 + 1 + 1 + 1 by omega]
  simp only [List.drop_succ_cons]
theorem q1r {m : Mg} {s : Int} (h : (xi m s).2 = true) : (xi m s).1 < m.ents.length := by
 unfold xi at h ⊢
 split at h
 ·rename_i h1
  rw [if_pos h1]
  exact (qq4 h1).2
 ·cases h
set_option maxRecDepth 10000 in
theorem qjt (m : Mg) (p : Pk) (hm : m.Sm) (hp : p.Sm) : qg Tryz.prog 75 [.d (.agg (qx m)), .d (.agg (qe p))] [] (.tup [.d (.agg (qx (xl m p).1)), .d (.int .i64 (xl m p).2)]) [] := by
 have hl := hm.1
 refine F75b.goT ?_
 try (refine ev2 @qx.eq_1 @qe.eq_1 ?_; try exact True.intro)
 (repeat (with_reducible refine ob ?_)); first | refine cl F69 (y6 m hm) ?_ | refine clF F69 (y6 m hm) (fun _ => by (refine ev3 @qq.eq_1 @qx.eq_1 @qe.eq_1 ?_; try exact True.intro)) ?_
 try (refine ev ?_; try exact True.intro)
 (repeat (with_reducible refine ob ?_))
 (repeat (with_reducible refine ob ?_)); first | refine cl F70 (zr p hp.v hp.c) ?_ | refine clF F70 (zr p hp.v hp.c) (fun _ => by (refine ev3 @qq.eq_1 @qx.eq_1 @qe.eq_1 ?_; try exact True.intro)) ?_
 try (refine ev ?_; try exact True.intro)
 (repeat (with_reducible refine ob ?_)); refine xq _ (fun h => ?_) (fun h => ?_)
 ·have hb : xl m p = (⟨0, []⟩, 1) := by simp only [xl, h, if_true]
  try (refine ev2 @hb @List.map_nil.{0,0} ?_; try exact True.intro)
  refine pu ?_
  try (refine ev ?_; try exact True.intro)
 have h0 := h
 try (refine ev ?_; try exact True.intro)
 (repeat (with_reducible refine ob ?_)); first | refine cl F77 (qf8 m p.sess hm) ?_ | refine clF F77 (qf8 m p.sess hm) (fun _ => by (refine ev3 @qq.eq_1 @qx.eq_1 @qe.eq_1 ?_; try exact True.intro)) ?_
 try (refine ev ?_; try exact True.intro)
 (repeat (with_reducible refine ob ?_)); refine xq _ (fun h => ?_) (fun h => ?_)
 ·have hb : xl m p = (⟨0, []⟩, 8) := by simp only [xl, h0, h]; rfl
  try (refine ev2 @hb @List.map_nil.{0,0} ?_; try exact True.intro)
  refine pu ?_
  try (refine ev ?_; try exact True.intro)
 have h1 := h
 have hk : (xi m p.sess).1 < m.ents.length := q1r (by simpa using h)
 have hx := hm.2 _ (List.getElem_mem hk)
 obtain ⟨r1, r2, r3, r4, r5⟩ := xoc h0
 obtain ⟨v1, v2, _⟩ := qip r1 hk
 have h7 := q39 m hm _ hk
 have hfl := qeu m.ents
 have hu : xl m p = (if (qbi p m.ents[(xi m p.sess).1]).getD p.from_.toNat false then (⟨0, []⟩, 21)
   else if p.label == 2 && m.ents[(xi m p.sess).1].phase == 1 then (⟨0, []⟩, 7)
   else (⟨m.roles, m.ents.set (xi m p.sess).1 (yh (jv p m.ents[(xi m p.sess).1]))⟩, 0)) := by
  simp only [xl, h0, h1, zc hk]; rfl
 rw [hu]
 clear hu
 try (refine ev ?_; try exact True.intro)
 refine clO [3, 4, 5, 6, 7] xqx h7 ?_ (hfit := by first | exact ⟨qc, trivial⟩ | (refine ev1 @qx.eq_1 ?_; try exact True.intro))
 clear h7
 generalize (xi m p.sess).1 = k at hk hx v1 v2 ⊢
 try (refine ev ?_; try exact True.intro)
 (repeat (with_reducible refine ob ?_))
 refine xq _ (fun hl2 => ?_) (fun hl2 => ?_)
 ·simp only [qbi, jv, hl2, if_true, Bool.true_and]
  try simp only [qxa hk, qxb hk, go_sem, Nat.reduceAdd, Nat.reduceMul, Nat.reduceSub, Nat.reduceEqDiff, Nat.reduceLT, Nat.reduceLeDiff, Nat.reduceBEq, reduceIte, reduceCtorEq, Int.reduceAdd, Int.reduceLT, Int.reduceLE, Int.reduceGT, Int.reduceGE, Int.reduceEq, Int.reduceNe, Int.reduceBEq, Int.reduceBNe, Int.reduceToNat, Int.reduceNeg]
  (repeat (with_reducible refine ob ?_))
  try simp only [qxa hk, qxb hk, Nat.mul_one, q6z (l := m.ents[k].opened) (i := p.from_.toNat) (by omega), go_sem, Nat.reduceAdd, Nat.reduceMul, Nat.reduceSub, Nat.reduceEqDiff, Nat.reduceLT, Nat.reduceLeDiff, Nat.reduceBEq, reduceIte, reduceCtorEq, Int.reduceAdd, Int.reduceLT, Int.reduceLE, Int.reduceGT, Int.reduceGE, Int.reduceEq, Int.reduceNe, Int.reduceBEq, Int.reduceBNe, Int.reduceToNat, Int.reduceNeg]
  refine xq _ (fun h3 => ?_) (fun h3 => ?_)
  ·try (refine ev2 @h3 @List.map_nil.{0,0} ?_; try exact True.intro)
   refine pu ?_
   try (refine ev ?_; try exact True.intro)
  try simp only [xe1 hk, go_sem, Nat.reduceAdd, Nat.reduceMul, Nat.reduceSub, Nat.reduceEqDiff, Nat.reduceLT, Nat.reduceLeDiff, Nat.reduceBEq, reduceIte, reduceCtorEq, Int.reduceAdd, Int.reduceLT, Int.reduceLE, Int.reduceGT, Int.reduceGE, Int.reduceEq, Int.reduceNe, Int.reduceBEq, Int.reduceBNe, Int.reduceToNat, Int.reduceNeg]
  (repeat (with_reducible refine ob ?_))
  refine xq _ (fun h4 => ?_) (fun h4 => ?_)
  ·have h4' : (m.ents[k].phase == 1) = true := by simpa [hl2] using h4
   try (refine ev4 @h3 @h4' @hl2 @List.map_nil.{0,0} ?_; try exact True.intro)
   refine pu ?_
   try (refine ev ?_; try exact True.intro)
  have h4' : (m.ents[k].phase == 1) = false := by simpa [hl2] using h4
  simp only [h3, h4', Bool.false_eq_true, if_false]
  try (refine ev4 @h3 @hl2 @Nat.mul_one @q60 ?_; try exact True.intro)
  (repeat (with_reducible refine ob ?_))
  have hy : ∀ y : Ue, y = { m.ents[k] with opened := m.ents[k].opened.set p.from_.toNat true } → y.Sm := by rintro y rfl; exact ⟨by simpa using hx.1, by simpa using hx.2⟩
  generalize hyd : { m.ents[k] with opened := m.ents[k].opened.set p.from_.toNat true } = y at hy ⊢
  have hys : y.sess = m.ents[k].sess := by rw [← hyd]
  have hyp : y.phase = m.ents[k].phase := by rw [← hyd]
  have hym : m.ents[k].moved = y.moved := by rw [← hyd]
  have hyo : m.ents[k].opened.set p.from_.toNat true = y.opened := by rw [← hyd]
  have hml : m.ents[k].moved.length = y.moved.length := by simp [← hyd]
  have hol : m.ents[k].opened.length = y.opened.length := by simp [← hyd]
  simp only [hml, hol, hym, hyo]
  refine qqj 6 1 (y.moved.map encB) ?_ (qiq _) (qou _) (qov _) (D.okWR_noPtr (qcy _))
  simp only [qzh, Fr.mapS, List.map_cons, List.map_nil, AObj.mapS, q62, hml, hol, q63, List.set_cons_zero, List.set_cons_succ]
  try (refine ev ?_; try exact True.intro)
  refine qqj 7 1 (y.opened.map encB) ?_ (qiq _) (qou _) (qov _) (D.okWR_noPtr (qcy _))
  simp only [qzh, Fr.mapS, List.map_cons, List.map_nil, AObj.mapS, qxc, q61 _ _ _ _ _ (qcy _), List.set_cons_zero, List.set_cons_succ]
  try simp only [qmu m.ents k y hk hys hyp, go_sem, Nat.reduceAdd, Nat.reduceMul, Nat.reduceSub, Nat.reduceEqDiff, Nat.reduceLT, Nat.reduceLeDiff, Nat.reduceBEq, reduceIte, reduceCtorEq, Int.reduceAdd, Int.reduceLT, Int.reduceLE, Int.reduceGT, Int.reduceGE, Int.reduceEq, Int.reduceNe, Int.reduceBEq, Int.reduceBNe, Int.reduceToNat, Int.reduceNeg]
  refine pu ?_
  try simp only [qmv m.ents k y hk, List.length_set, go_sem, Nat.reduceAdd, Nat.reduceMul, Nat.reduceSub, Nat.reduceEqDiff, Nat.reduceLT, Nat.reduceLeDiff, Nat.reduceBEq, reduceIte, reduceCtorEq, Int.reduceAdd, Int.reduceLT, Int.reduceLE, Int.reduceGT, Int.reduceGE, Int.reduceEq, Int.reduceNe, Int.reduceBEq, Int.reduceBNe, Int.reduceToNat, Int.reduceNeg]
  (repeat (with_reducible refine ob ?_))
  (repeat (with_reducible refine ob ?_)); first | refine cl F134 (qbu y (hy y rfl)) ?_ | refine clF F134 (qbu y (hy y rfl)) (fun _ => by (refine ev3 @qq.eq_1 @qx.eq_1 @qe.eq_1 ?_; try exact True.intro)) ?_
  try (refine ev2 @List.length_set.{0} (qe1 m.ents k y hk) ?_; try exact True.intro)
  (repeat (with_reducible refine ob ?_))
  try simp only [qe1 m.ents k y hk, go_sem, Nat.reduceAdd, Nat.reduceMul, Nat.reduceSub, Nat.reduceEqDiff, Nat.reduceLT, Nat.reduceLeDiff, Nat.reduceBEq, reduceIte, reduceCtorEq, Int.reduceAdd, Int.reduceLT, Int.reduceLE, Int.reduceGT, Int.reduceGE, Int.reduceEq, Int.reduceNe, Int.reduceBEq, Int.reduceBNe, Int.reduceToNat, Int.reduceNeg]
  refine qqj 5 4 ((m.ents.set k (yh y)).map qq) ?_ (qrw _) (q1q _) (xez _) (D.okWR_noPtr (qf7 _))
  refine pu ?_
  try (refine ev2 @List.length_set.{0} @List.length_map.{0,0} ?_; try exact True.intro)
 ·simp only [qbi, jv, hl2, Bool.false_and, Bool.false_eq_true, if_false]
  try simp only [qxa hk, qxb hk, go_sem, Nat.reduceAdd, Nat.reduceMul, Nat.reduceSub, Nat.reduceEqDiff, Nat.reduceLT, Nat.reduceLeDiff, Nat.reduceBEq, reduceIte, reduceCtorEq, Int.reduceAdd, Int.reduceLT, Int.reduceLE, Int.reduceGT, Int.reduceGE, Int.reduceEq, Int.reduceNe, Int.reduceBEq, Int.reduceBNe, Int.reduceToNat, Int.reduceNeg]
  (repeat (with_reducible refine ob ?_))
  try simp only [qxa hk, qxb hk, Nat.mul_one, q6z (l := m.ents[k].moved) (i := p.from_.toNat) (by omega), go_sem, Nat.reduceAdd, Nat.reduceMul, Nat.reduceSub, Nat.reduceEqDiff, Nat.reduceLT, Nat.reduceLeDiff, Nat.reduceBEq, reduceIte, reduceCtorEq, Int.reduceAdd, Int.reduceLT, Int.reduceLE, Int.reduceGT, Int.reduceGE, Int.reduceEq, Int.reduceNe, Int.reduceBEq, Int.reduceBNe, Int.reduceToNat, Int.reduceNeg]
  refine xq _ (fun h3 => ?_) (fun h3 => ?_)
  ·try (refine ev2 @h3 @List.map_nil.{0,0} ?_; try exact True.intro)
   refine pu ?_
   try (refine ev ?_; try exact True.intro)
  try simp only [xe1 hk, go_sem, Nat.reduceAdd, Nat.reduceMul, Nat.reduceSub, Nat.reduceEqDiff, Nat.reduceLT, Nat.reduceLeDiff, Nat.reduceBEq, reduceIte, reduceCtorEq, Int.reduceAdd, Int.reduceLT, Int.reduceLE, Int.reduceGT, Int.reduceGE, Int.reduceEq, Int.reduceNe, Int.reduceBEq, Int.reduceBNe, Int.reduceToNat, Int.reduceNeg]
  (repeat (with_reducible refine ob ?_))
  try (refine ev2 @hl2 @Bool.false_and ?_; try exact True.intro)
  (repeat (with_reducible refine ob ?_)); refine no_ ?_
  simp only [h3, Bool.false_eq_true, if_false]
  try (refine ev4 @h3 @hl2 @Nat.mul_one @q60 ?_; try exact True.intro)
  (repeat (with_reducible refine ob ?_))
  have hy : ∀ y : Ue, y = { m.ents[k] with moved := m.ents[k].moved.set p.from_.toNat true } → y.Sm := by rintro y rfl; exact ⟨by simpa using hx.1, by simpa using hx.2⟩
  generalize hyd : { m.ents[k] with moved := m.ents[k].moved.set p.from_.toNat true } = y at hy ⊢
  have hys : y.sess = m.ents[k].sess := by rw [← hyd]
  have hyp : y.phase = m.ents[k].phase := by rw [← hyd]
  have hym : m.ents[k].moved.set p.from_.toNat true = y.moved := by rw [← hyd]
  have hyo : m.ents[k].opened = y.opened := by rw [← hyd]
  have hml : m.ents[k].moved.length = y.moved.length := by simp [← hyd]
  have hol : m.ents[k].opened.length = y.opened.length := by simp [← hyd]
  simp only [hml, hol, hym, hyo]
  refine qqj 6 1 (y.moved.map encB) ?_ (qiq _) (qou _) (qov _) (D.okWR_noPtr (qcy _))
  simp only [qzh, Fr.mapS, List.map_cons, List.map_nil, AObj.mapS, q62, hml, hol, q63, List.set_cons_zero, List.set_cons_succ]
  try (refine ev ?_; try exact True.intro)
  refine qqj 7 1 (y.opened.map encB) ?_ (qiq _) (qou _) (qov _) (D.okWR_noPtr (qcy _))
  simp only [qzh, Fr.mapS, List.map_cons, List.map_nil, AObj.mapS, qxc, q61 _ _ _ _ _ (qcy _), List.set_cons_zero, List.set_cons_succ]
  try simp only [qmu m.ents k y hk hys hyp, go_sem, Nat.reduceAdd, Nat.reduceMul, Nat.reduceSub, Nat.reduceEqDiff, Nat.reduceLT, Nat.reduceLeDiff, Nat.reduceBEq, reduceIte, reduceCtorEq, Int.reduceAdd, Int.reduceLT, Int.reduceLE, Int.reduceGT, Int.reduceGE, Int.reduceEq, Int.reduceNe, Int.reduceBEq, Int.reduceBNe, Int.reduceToNat, Int.reduceNeg]
  refine pu ?_
  try simp only [qmv m.ents k y hk, List.length_set, go_sem, Nat.reduceAdd, Nat.reduceMul, Nat.reduceSub, Nat.reduceEqDiff, Nat.reduceLT, Nat.reduceLeDiff, Nat.reduceBEq, reduceIte, reduceCtorEq, Int.reduceAdd, Int.reduceLT, Int.reduceLE, Int.reduceGT, Int.reduceGE, Int.reduceEq, Int.reduceNe, Int.reduceBEq, Int.reduceBNe, Int.reduceToNat, Int.reduceNeg]
  (repeat (with_reducible refine ob ?_))
  (repeat (with_reducible refine ob ?_)); first | refine cl F134 (qbu y (hy y rfl)) ?_ | refine clF F134 (qbu y (hy y rfl)) (fun _ => by (refine ev3 @qq.eq_1 @qx.eq_1 @qe.eq_1 ?_; try exact True.intro)) ?_
  try (refine ev2 @List.length_set.{0} (qe1 m.ents k y hk) ?_; try exact True.intro)
  (repeat (with_reducible refine ob ?_))
  try simp only [qe1 m.ents k y hk, go_sem, Nat.reduceAdd, Nat.reduceMul, Nat.reduceSub, Nat.reduceEqDiff, Nat.reduceLT, Nat.reduceLeDiff, Nat.reduceBEq, reduceIte, reduceCtorEq, Int.reduceAdd, Int.reduceLT, Int.reduceLE, Int.reduceGT, Int.reduceGE, Int.reduceEq, Int.reduceNe, Int.reduceBEq, Int.reduceBNe, Int.reduceToNat, Int.reduceNeg]
  refine qqj 5 4 ((m.ents.set k (yh y)).map qq) ?_ (qrw _) (q1q _) (xez _) (D.okWR_noPtr (qf7 _))
  refine pu ?_
  try (refine ev2 @List.length_set.{0} @List.length_map.{0,0} ?_; try exact True.intro)
end Go.Proofs.YtkcdbcbpbolgkaaGreatDoor
namespace Go.Proofs.YtkcdbcbpbolgkaaGreatDoor
open Go.Abs
noncomputable section
set_option maxRecDepth 100000
set_option linter.defProp false
def d22 := cut Tryz.prog Tryz.f22 news
@[go_sem] def E22 := ql d22
def d76 := cut Tryz.prog Tryz.f76 news
@[go_sem] def E76 := ql d76
end
theorem qju {m : Mg} (h : zh m = true) {k : Nat} (hk : k < m.ents.length) : 1 ≤ m.ents[k].sess ∧ m.ents[k].sess ≤ 32 ∧ m.ents[k].phase ≠ 0 := by
 simp only [zh, Bool.and_eq_true] at h
 have := zd.1 h.1 k hk
 simp only [qet, zc hk, Bool.not_eq_true', Bool.or_eq_false_iff, bne_eq_false_iff_eq, decide_eq_false_iff_not, beq_eq_false_iff_ne] at this
 obtain ⟨⟨⟨⟨⟨⟨h1, h2⟩, _⟩, _⟩, _⟩, h3⟩, _⟩ := this
 exact ⟨by omega, by omega, h3⟩
def ve (s r label : Int) : Pk := ⟨4, s, 0, r, 0, 0, label, [], []⟩
theorem b1 : zx ⟨2, []⟩ 5 = (⟨2, [⟨5, 1, [false, false], [false, false]⟩]⟩, 0) := by decide
theorem b2 : xj ⟨2, [⟨5, 1, [false, false], [false, false]⟩]⟩ = [qgu 5 0 1, qgu 5 1 1] := by decide
theorem b3 : xl ⟨2, [⟨5, 1, [false, false], [false, false]⟩]⟩ (ve 5 1 1) = (⟨2, [⟨5, 1, [false, true], [false, false]⟩]⟩, 0) := by decide
theorem b4 : xj ⟨2, [⟨5, 1, [false, true], [false, false]⟩]⟩ = [qgu 5 0 1] := by decide
theorem b5 : xl ⟨2, [⟨5, 1, [false, true], [false, false]⟩]⟩ (ve 5 0 1) = (⟨2, [⟨5, 2, [true, true], [false, false]⟩]⟩, 0) := by decide
theorem b6 : xj ⟨2, [⟨5, 2, [true, true], [false, false]⟩]⟩ = [qgu 5 0 2, qgu 5 1 2] := by decide
end Go.Proofs.YtkcdbcbpbolgkaaGreatDoor
namespace Go.Proofs.YtkcdbcbpbolgkaaGreatDoor
open Go.Abs
end Go.Proofs.YtkcdbcbpbolgkaaGreatDoor
namespace Go.Proofs.YtkcdbcbpbolgkaaGreatDoor
open Go.Abs
structure EnOk (r : Int) (x : Ue) : Prop where
 s1 : 1 ≤ x.sess
 s32 : x.sess ≤ 32
 ml : (x.moved.length : Int) = r
 ol : (x.opened.length : Int) = r
 ph : x.phase = zp x
 p0 : x.phase ≠ 0
structure MW (m : Mg) : Prop where
 r1 : 1 ≤ m.roles
 r6 : m.roles ≤ 6
 inc : (m.ents.map Ue.sess).Pairwise (· < ·)
 en : ∀ x ∈ m.ents, EnOk m.roles x
theorem qrx {l : List Int} (h : ∀ i (h : i + 1 < l.length), l[i] < l[i + 1]) : l.Pairwise (· < ·) := by
 rw [List.pairwise_iff_getElem]
 intro i j hi hj hij
 obtain ⟨d, rfl⟩ : ∃ d, j = i + 1 + d := ⟨j - (i + 1), by omega⟩
 induction d with
 | zero => exact h i hj
 | succ d ih => exact Int.lt_trans (ih (by omega) (by omega)) (h (i + 1 + d) hj)
theorem qa2 {m : Mg} : zh m = true ↔ MW m := by
 constructor
 ·intro h
  have hr := qd3 h
  refine ⟨hr.1, hr.2, qrx fun i hi => ?_, fun x hx => ?_⟩
  ·have hi' : i + 1 < m.ents.length := by simpa using hi
   have h2 := h
   simp only [zh, Bool.and_eq_true] at h2
   have := zd.1 h2.1 (i + 1) hi'
   rw [← enk m i hi' (by omega)] at this
   simp only [Bool.not_eq_true', Bool.or_eq_false_iff, Bool.and_eq_false_iff, decide_eq_false_iff_not] at this
   simp only [List.getElem_map]
   have := this.1.1.1.1.2
   omega
  ·obtain ⟨i, hi, rfl⟩ := List.getElem_of_mem hx
   obtain ⟨a1, a2, a3⟩ := qip h hi
   obtain ⟨b1, b2, b3⟩ := qju h hi
   exact ⟨b1, b2, a1, a2, a3, b3⟩
 ·rintro ⟨r1, r6, inc, en⟩
  simp only [zh, Bool.and_eq_true, decide_eq_true_eq]
  refine ⟨zd.2 fun i hi => ?_, r1, r6⟩
  obtain ⟨s1, s32, ml, ol, ph, p0⟩ := en _ (List.getElem_mem hi)
  rcases Nat.eq_zero_or_pos i with rfl | h0
  ·rw [← en0 m hi]
   simp only [Bool.not_eq_true', Bool.or_eq_false_iff, decide_eq_false_iff_not, bne_eq_false_iff_eq, beq_eq_false_iff_ne]
   exact ⟨⟨⟨⟨⟨by omega, by omega⟩, ml⟩, ol⟩, p0⟩, ph⟩
  ·obtain ⟨k, rfl⟩ : ∃ k, i = k + 1 := ⟨i - 1, by omega⟩
   rw [← enk m k hi (by omega)]
   have hlt := (List.pairwise_iff_getElem.1 inc) k (k + 1) (by simp; omega) (by simpa using hi) (by omega)
   simp only [List.getElem_map] at hlt
   simp only [Bool.not_eq_true', Bool.or_eq_false_iff, Bool.and_eq_false_iff, decide_eq_false_iff_not, bne_eq_false_iff_eq, beq_eq_false_iff_ne]
   exact ⟨⟨⟨⟨⟨⟨by omega, by omega⟩, .inr (by omega)⟩, ml⟩, ol⟩, p0⟩, ph⟩
theorem qny {l : List Int} (h : l.Pairwise (· < ·)) (h1 : ∀ x ∈ l, 1 ≤ x) (h32 : ∀ x ∈ l, x ≤ 32) : l.length ≤ 32 := by
 have key : ∀ (i : Nat) (hi : i < l.length), (i : Int) + 1 ≤ l[i] := by
  intro i
  induction i with
  | zero => intro hi; have := h1 _ (List.getElem_mem hi); omega
  | succ i ih =>
   intro hi
   have := ih (by omega)
   have := (List.pairwise_iff_getElem.1 h) i (i + 1) (by omega) hi (by omega)
   omega
 rcases Nat.lt_or_ge 32 l.length with h' | h'
 ·have := key 32 h'
  have := h32 _ (List.getElem_mem h')
  omega
 ·exact h'
theorem MW.sm {m : Mg} (h : MW m) : m.Sm := by
 refine ⟨?_, fun x hx => ?_⟩
 ·have := qny h.inc (by intro x hx; obtain ⟨e, he, rfl⟩ := List.mem_map.1 hx; exact (h.en e he).s1) (by intro x hx; obtain ⟨e, he, rfl⟩ := List.mem_map.1 hx; exact (h.en e he).s32)
  rw [List.length_map] at this
  omega
 ·have h1 := (h.en x hx).ml
  have h2 := (h.en x hx).ol
  have h6 := h.r6
  exact ⟨by omega, by omega⟩
theorem qir {m : Mg} {s : Int} (h : (xi m s).2 = true) : ∃ hk : (xi m s).1 < m.ents.length, m.ents[(xi m s).1].sess = s := by
 refine ⟨q1r h, ?_⟩
 unfold xi at h ⊢
 split at h
 ·rename_i h1
  simp only [h1, if_true] at h ⊢
  rw [zc (qq4 h1).2] at h
  simpa using h
 ·cases h
theorem q1s {m : Mg} {s : Int} (hm : MW m) (h : (xi m s).2 = false) : (∀ x ∈ m.ents.take (xi m s).1, x.sess < s) ∧ ∀ x ∈ m.ents.drop (xi m s).1, s < x.sess := by
 unfold xi at h ⊢
 split at h
 ·rename_i h1
  obtain ⟨_, h2⟩ := qq4 h1
  simp only [h1, if_true] at h ⊢
  rw [zc h2] at h
  have hge := List.findIdx_getElem (p := fun x : Ue => decide (x.sess ≥ s)) (xs := m.ents) (w := h2)
  simp only [decide_eq_true_eq] at hge
  simp only [beq_eq_false_iff_ne] at h
  refine ⟨fun x hx => ?_, fun x hx => ?_⟩
  ·obtain ⟨i, hi, rfl⟩ := List.getElem_of_mem hx
   have hi' : i < m.ents.findIdx (fun x => decide (x.sess ≥ s)) := by rw [List.length_take] at hi; omega
   have := List.not_of_lt_findIdx hi'
   simp at this
   simpa using this
  ·obtain ⟨i, hi, rfl⟩ := List.getElem_of_mem hx
   rw [List.getElem_drop]
   rw [List.length_drop] at hi
   rcases Nat.eq_zero_or_pos i with rfl | h0
   ·simp only [Nat.add_zero]; omega
   ·have := (List.pairwise_iff_getElem.1 hm.inc) (m.ents.findIdx (fun x => decide (x.sess ≥ s))) (m.ents.findIdx (fun x => decide (x.sess ≥ s)) + i) (by rw [List.length_map]; exact h2) (by rw [List.length_map]; omega) (by omega)
    simp only [List.getElem_map] at this
    omega
 ·rename_i h1
  simp only [h1] at h ⊢
  simp only [Bool.false_eq_true, if_false, List.take_length, List.drop_length]
  refine ⟨fun x hx => ?_, by simp⟩
  simp only [Bool.not_eq_true, List.any_eq_false, decide_eq_true_eq] at h1
  have := h1 x hx
  omega
theorem qmw {m : Mg} {s : Int} (hm : MW m) : (xi m s).2 = true ↔ ∃ x ∈ m.ents, x.sess = s := by
 constructor
 ·intro h
  obtain ⟨hk, hs⟩ := qir h
  exact ⟨_, List.getElem_mem hk, hs⟩
 ·rintro ⟨x, hx, hs⟩
  cases hf : (xi m s).2 with
  | true => rfl
  | false =>
   obtain ⟨h1, h2⟩ := q1s hm hf
   rw [← List.take_append_drop (xi m s).1 m.ents] at hx
   rcases List.mem_append.1 hx with hx | hx
   ·have := h1 x hx; omega
   ·have := h2 x hx; omega
theorem xoe {r s : Int} (h1 : 1 ≤ r) (h6 : r ≤ 6) (hs1 : 1 ≤ s) (hs2 : s ≤ 32) : EnOk r (newE r s) := by
 have hr : r = 1 ∨ r = 2 ∨ r = 3 ∨ r = 4 ∨ r = 5 ∨ r = 6 := by omega
 have hp : zp (newE r s) = 1 := by rcases hr with rfl | rfl | rfl | rfl | rfl | rfl <;> simp [zp, newE, hasB, List.replicate]
 exact ⟨hs1, hs2, by simp [newE]; omega, by simp [newE]; omega, by rw [hp]; rfl, by show (1 : Int) ≠ 0; decide⟩
theorem qry (m : Mg) (s : Int) (hm : MW m) (h1 : 1 ≤ s) (h32 : s ≤ 32) :
  ((xi m s).2 = true ∧ zx m s = (⟨0, []⟩, 9)) ∨ ((xi m s).2 = false ∧ ∃ a b, m.ents = a ++ b ∧ zx m s = (⟨m.roles, a ++ [newE m.roles s] ++ b⟩, 0) ∧ MW ⟨m.roles, a ++ [newE m.roles s] ++ b⟩) := by
 have hv := qa2.2 hm
 have hs : (decide (s < 1) || decide (s > 32)) = false := by simp; omega
 cases hf : (xi m s).2 with
 | true => exact .inl ⟨rfl, by simp [zx, hv, hs, hf]⟩
 | false =>
  obtain ⟨f1, f2⟩ := q1s hm hf
  refine .inr ⟨rfl, _, _, (List.take_append_drop (xi m s).1 m.ents).symm, by simp [zx, hv, hs, hf], hm.r1, hm.r6, ?_, ?_⟩
  ·have hp := hm.inc
   rw [← List.take_append_drop (xi m s).1 m.ents, List.map_append, List.pairwise_append] at hp
   obtain ⟨p1, p2, p3⟩ := hp
   simp only [List.map_append, List.map_cons, List.map_nil, List.append_assoc, List.cons_append, List.nil_append]
   rw [List.pairwise_append, List.pairwise_cons]
   refine ⟨p1, ⟨fun y hy => ?_, p2⟩, fun y hy z hz => ?_⟩
   ·obtain ⟨e, he, rfl⟩ := List.mem_map.1 hy
    exact f2 e he
   ·obtain ⟨e, he, rfl⟩ := List.mem_map.1 hy
    rcases List.mem_cons.1 hz with rfl | hz
    ·exact f1 e he
    ·exact p3 _ hy _ hz
  ·intro x hx
   simp only [List.mem_append, List.mem_singleton] at hx
   rcases hx with (hx | hx) | hx
   ·exact hm.en x (List.mem_of_mem_take hx)
   ·subst hx; exact xoe hm.r1 hm.r6 h1 h32
   ·exact hm.en x (List.mem_of_mem_drop hx)
theorem q4w {s r label : Int} (h1 : 1 ≤ s) (h2 : s ≤ 32) (h3 : 0 ≤ r) (h4 : r < 6) (h5 : label = 1 ∨ label = 2) : qj (ve s r label) = true := by
 rcases h5 with rfl | rfl <;> simp [qj, qep, order, role, bare, ve, h1, h2, h3, h4]
theorem xe5 {r : Int} {x : Ue} (hx : EnOk r x) (p : Pk) (h0 : zp (jv p x) ≠ 0) : EnOk r (yh (jv p x)) := by
 unfold jv at h0 ⊢
 split
 ·rename_i h; rw [if_pos h] at h0
  exact ⟨hx.s1, hx.s32, hx.ml, by simpa [yh] using hx.ol, rfl, h0⟩
 ·rename_i h; rw [if_neg h] at h0
  exact ⟨hx.s1, hx.s32, by simpa [yh] using hx.ml, hx.ol, rfl, h0⟩
theorem qg1 (p : Pk) (x : Ue) : (yh (jv p x)).sess = x.sess := by unfold jv yh; split <;> rfl
theorem xof {l : List Bool} : l.all idB = true ↔ ∀ b ∈ l, b = true := by simp [List.all_eq_true, idB]
theorem qa3 (x : Ue) : (zp x = 3 ∧ x.moved.all idB = true ∧ x.opened.all idB = true) ∨ (zp x = 2 ∧ x.moved.all idB = true ∧ x.opened.all idB = false) ∨
  (zp x = 0 ∧ x.moved.all idB = false ∧ x.opened.any idB = true) ∨ (zp x = 1 ∧ x.moved.all idB = false ∧ x.opened.any idB = false) := by
 simp only [zp, qme, q0d]
 cases x.moved.all idB <;> cases x.opened.all idB <;> cases x.opened.any idB <;> simp
theorem qfi (m : Mg) (s r label : Int) (hm : MW m) (h1 : 1 ≤ s) (h32 : s ≤ 32) (h0 : 0 ≤ r) (hr : r < m.roles) (hl : label = 1 ∨ label = 2) :
  ((xl m (ve s r label)).2 ≠ 0) ∨ ∃ k, ∃ hk : k < m.ents.length, m.ents[k].sess = s ∧ (xi m s).1 = k ∧ (qbi (ve s r label) m.ents[k]).getD r.toNat false = false ∧ (label = 2 → m.ents[k].phase ≠ 1) ∧
   xl m (ve s r label) = (⟨m.roles, m.ents.set k (yh (jv (ve s r label) m.ents[k]))⟩, 0) ∧ EnOk m.roles (yh (jv (ve s r label) m.ents[k])) ∧ MW ⟨m.roles, m.ents.set k (yh (jv (ve s r label) m.ents[k]))⟩ := by
 have hv := qa2.2 hm
 have hp := q4w h1 h32 h0 (by have := hm.r6; omega) hl
 have hg : (!zh m || (ve s r label).kind != 4 || !qj (ve s r label) || decide ((ve s r label).from_ ≥ m.roles)) = false := by
  rw [hv, hp]; simp [ve]; omega
 cases hf : (xi m s).2 with
 | false =>
  refine .inl ?_
  have : (xi m (ve s r label).sess).2 = false := hf
  simp only [xl, hg, this]; simp
 | true =>
  obtain ⟨hk, hs⟩ := qir hf
  have hu : xl m (ve s r label) = (if (qbi (ve s r label) m.ents[(xi m s).1]).getD r.toNat false then (⟨0, []⟩, 21)
    else if label == 2 && m.ents[(xi m s).1].phase == 1 then (⟨0, []⟩, 7)
    else (⟨m.roles, m.ents.set (xi m s).1 (yh (jv (ve s r label) m.ents[(xi m s).1]))⟩, 0)) := by
   have e1 : (ve s r label).sess = s := rfl
   have e2 : (ve s r label).from_ = r := rfl
   have e3 : (ve s r label).label = label := rfl
   simp only [xl, hg]
   simp only [e1, e2, e3, hf, zc hk]; rfl
  rw [hu]
  by_cases c1 : (qbi (ve s r label) m.ents[(xi m s).1]).getD r.toNat false = true
  ·exact .inl (by rw [if_pos c1]; simp)
  ·rw [if_neg c1]
   by_cases c2 : (label == 2 && m.ents[(xi m s).1].phase == 1) = true
   ·exact .inl (by rw [if_pos c2]; simp)
   ·rw [if_neg c2]
    have hx := hm.en _ (List.getElem_mem hk)
    have hnew : EnOk m.roles (yh (jv (ve s r label) m.ents[(xi m s).1])) := by
     refine xe5 hx _ ?_
     have hpc := qa3 m.ents[(xi m s).1]
     have hph := hx.ph
     have hp0 := hx.p0
     have hm6 := hm.r6
     have hrl : r.toNat < m.ents[(xi m s).1].moved.length := by have := hx.ml; omega
     intro hz
     rcases hl with rfl | rfl
     ·have hno : ¬ m.ents[(xi m s).1].moved.all idB = true := by
       intro ha
       have := xof.1 ha _ (List.getElem_mem hrl)
       exact c1 (by simp [qbi, ve, List.getD, hrl, this])
      rcases qa3 (jv (ve s r 1) m.ents[(xi m s).1]) with ⟨h, _⟩ | ⟨h, _⟩ | ⟨_, _, h⟩ | ⟨h, _⟩
      ·omega
      ·omega
      ·have h' : m.ents[(xi m s).1].opened.any idB = true := h
       rcases hpc with ⟨_, h, _⟩ | ⟨_, h, _⟩ | ⟨h, _⟩ | ⟨_, _, h⟩
       ·exact hno h
       ·exact hno h
       ·omega
       ·rw [h] at h'; cases h'
      ·omega
     ·have hne : m.ents[(xi m s).1].phase ≠ 1 := by simpa using c2
      rcases qa3 (jv (ve s r 2) m.ents[(xi m s).1]) with ⟨h, _⟩ | ⟨h, _⟩ | ⟨_, h, _⟩ | ⟨h, _⟩
      ·omega
      ·omega
      ·have h' : m.ents[(xi m s).1].moved.all idB = false := h
       rcases hpc with ⟨_, h, _⟩ | ⟨_, h, _⟩ | ⟨h, _⟩ | ⟨h, _⟩
       ·rw [h] at h'; cases h'
       ·rw [h] at h'; cases h'
       ·omega
       ·omega
      ·omega
    refine .inr ⟨_, hk, hs, rfl, by simpa using c1, fun hl2 => ?_, rfl, hnew, hm.r1, hm.r6, ?_, ?_⟩
    ·subst hl2; simpa using c2
    ·have : ((m.ents.set (xi m s).1 (yh (jv (ve s r label) m.ents[(xi m s).1]))).map Ue.sess) = m.ents.map Ue.sess := by
      rw [List.map_set, qg1]
      refine List.ext_getElem? fun i => ?_
      rw [List.getElem?_set]
      split
      ·rename_i h; subst h; simp [hk]
      ·rfl
     simp only [this]
     exact hm.inc
    ·intro x hx'
     rcases List.mem_or_eq_of_mem_set hx' with h | h
     ·exact hm.en x h
     ·subst h; exact hnew
end Go.Proofs.YtkcdbcbpbolgkaaGreatDoor
namespace Go.Proofs.YtkcdbcbpbolgkaaGreatDoor
open Go.Abs
def bitN : List Bool → Nat
 | [] => 0
 | b :: l => b.toNat + 2 * bitN l
theorem qg2 : ∀ l : List Bool, bitN l < 2 ^ l.length
 | [] => by simp [bitN]
 | b :: l => by
  have := qg2 l
  have hb : b.toNat ≤ 1 := by cases b <;> decide
  rw [bitN, List.length_cons, Nat.pow_succ]; omega
def qe4 (x : Ue) : List UInt8 := wInt x.phase ++ wInt (bitN x.moved) ++ wInt (bitN x.opened)
def uPfx : List UInt8 := [117, 47]
def uKey (s : Int) : List UInt8 := [117, 47, UInt8.ofNat (48 + s.toNat / 10), UInt8.ofNat (48 + s.toNat % 10)]
theorem q65 : ∀ a b : Fin 33, (uKey (a.val : Int) = uKey (b.val : Int) → a = b) ∧ (a < b → Op.bytesLess (uKey (a.val : Int)) (uKey (b.val : Int)) = true) := by decide +kernel
theorem qxd {a b : Int} (h1 : 0 ≤ a) (h2 : a ≤ 32) (h3 : 0 ≤ b) (h4 : b ≤ 32) (h : uKey a = uKey b) : a = b := by
 obtain ⟨m, rfl⟩ : ∃ m : Nat, a = m := ⟨a.toNat, by omega⟩
 obtain ⟨n, rfl⟩ : ∃ n : Nat, b = n := ⟨b.toNat, by omega⟩
 have := (q65 ⟨m, by omega⟩ ⟨n, by omega⟩).1 h
 simp at this
 omega
theorem xkd (s : Int) : pre uPfx (uKey s) = true := rfl
theorem q4y {l : List Ue} (h : l.Pairwise fun a b => a.sess ≠ b.sess) {x y : Ue} (hx : x ∈ l) (hy : y ∈ l) (hxy : x ≠ y) : x.sess ≠ y.sess := by
 induction l with
 | nil => cases hx
 | cons a l ih =>
  obtain ⟨h1, h2⟩ := List.pairwise_cons.1 h
  rcases List.mem_cons.1 hx with hx | hx <;> rcases List.mem_cons.1 hy with hy | hy
  ·exact absurd (hx.trans hy.symm) hxy
  ·rw [hx]; exact h1 y hy
  ·rw [hy]; exact fun e => h1 x hx e.symm
  ·exact ih h2 hx hy
def URep (m : Cont) (g : Mg) : Prop := ∀ k, pre uPfx k = true → mGet k m = (g.ents.find? fun x => uKey x.sess == k).map qe4
end Go.Proofs.YtkcdbcbpbolgkaaGreatDoor
namespace Go.Proofs.YtkcdbcbpbolgkaaGreatDoor
open Go.Abs
def chOp (a : Mg) (x : Ue) : List OpS := if x ∈ a.ents then [] else [⟨uKey x.sess, false, qe4 x⟩]
def qrz (a b : Mg) : List OpS := b.ents.flatMap (chOp a)
def zy (a b : Mg) : List OpS × Int :=
 if (!zh a || !zh b || a.roles != b.roles) = true then ([], 1) else if (a.ents.any fun x => !(xi b x.sess).2) = true then ([], 1) else (qrz a b, 0)
theorem qmx (k : List UInt8) : ∀ (l : List OpS) (a : Option (List UInt8)) (l' : List OpS), vk k a (l ++ l') = vk k (vk k a l) l'
 | [], _, _ => rfl
 | o :: l, a, l' => by rw [List.cons_append, vk, vk, qmx k l]
theorem xe8 {a : Mg} {k : List UInt8} : ∀ {l : List Ue}, (∀ x ∈ l, uKey x.sess ≠ k) → ∀ g, vk k g (l.flatMap (chOp a)) = g
 | [], _, _ => rfl
 | x :: l, h, g => by
  have hx := h x List.mem_cons_self
  have : vk k g (chOp a x) = g := by
   unfold chOp; split
   ·rfl
   ·simp [vk, hx]
  rw [List.flatMap_cons, qmx, this, xe8 (fun y hy => h y (List.mem_cons_of_mem _ hy))]
theorem xe9 {a : Mg} {k : List UInt8} : ∀ {l : List Ue}, (l.map fun x => uKey x.sess).Nodup → ∀ g, vk k g (l.flatMap (chOp a)) = match l.find? (fun x => uKey x.sess == k) with
  | some x => if x ∈ a.ents then g else some (qe4 x)
  | none => g
 | [], _, _ => rfl
 | x :: l, h, g => by
  rw [List.map_cons, List.nodup_cons] at h
  obtain ⟨h1, h2⟩ := h
  rw [List.flatMap_cons, qmx]
  by_cases hk : uKey x.sess = k
  ·have hn : ∀ y ∈ l, uKey y.sess ≠ k := fun y hy e => h1 (List.mem_map.2 ⟨y, hy, by rw [e, hk]⟩)
   rw [xe8 hn]
   simp only [List.find?_cons, beq_iff_eq.2 hk]
   unfold chOp
   split
   ·rfl
   ·simp [vk, hk]
  ·have : vk k g (chOp a x) = g := by
    unfold chOp; split
    ·rfl
    ·simp [vk, hk]
   have hb : (uKey x.sess == k) = false := by simpa using hk
   rw [this, xe9 h2]
   simp only [List.find?_cons, hb]
theorem quw {g : Mg} (hg : MW g) : (g.ents.map fun x => uKey x.sess).Nodup := by
 have hp := hg.inc
 rw [List.pairwise_map] at hp
 unfold List.Nodup
 rw [List.pairwise_map]
 refine hp.imp_of_mem fun {a b} ha hb hab h => ?_
 have e1 := hg.en a ha
 have e2 := hg.en b hb
 have := qxd (by have := e1.s1; omega) e1.s32 (by have := e2.s1; omega) e2.s32 h
 omega
theorem xkg {g : Mg} (hg : MW g) {x : Ue} (hx : x ∈ g.ents) : g.ents.find? (fun y => uKey y.sess == uKey x.sess) = some x := by
 have hn := quw hg
 generalize g.ents = l at hx hn ⊢
 induction l with
 | nil => cases hx
 | cons a l ih =>
  rw [List.map_cons, List.nodup_cons] at hn
  rcases List.mem_cons.1 hx with rfl | hx
  ·simp
  ·have : (uKey a.sess == uKey x.sess) = false := by
    rw [beq_eq_false_iff_ne]
    exact fun e => hn.1 (List.mem_map.2 ⟨x, hx, e.symm⟩)
   simp only [List.find?_cons, this]
   exact ih hx hn.2
theorem xfa {m m' : Cont} {a b : Mg} (ha : MW a) (hb : MW b) (hs : ∀ x ∈ a.ents, ∃ y ∈ b.ents, y.sess = x.sess) (hr : URep m a) (hg : ∀ k, mGet k m' = vk k (mGet k m) (qrz a b)) : URep m' b := by
 intro k hk
 rw [hg, qrz, xe9 (quw hb), hr k hk]
 cases hf : b.ents.find? (fun x => uKey x.sess == k) with
 | some x =>
  have hkx := List.find?_some hf
  simp only [beq_iff_eq] at hkx
  simp only [Option.map_some]
  split
  ·rename_i hxa
   rw [← hkx, xkg ha hxa]; rfl
  ·rfl
 | none =>
  simp only [Option.map_none, Option.map_eq_none_iff]
  rw [List.find?_eq_none] at hf ⊢
  intro x hx h
  obtain ⟨y, hy, e⟩ := hs x hx
  exact hf y hy (by rw [e]; exact h)
theorem xaa (roles : Int) : URep qds ⟨roles, []⟩ := fun k _ => rfl
theorem xab {m m' : Cont} {g : Mg} (hr : URep m g) (h : ∀ k, pre uPfx k = true → mGet k m' = mGet k m) : URep m' g := fun k hk => by rw [h k hk, hr k hk]
theorem qr0 {k : List UInt8} : ∀ {l : List OpS}, (∀ o ∈ l, o.key ≠ k) → ∀ g, vk k g l = g
 | [], _, _ => rfl
 | o :: l, h, g => by rw [vk, if_neg (h o List.mem_cons_self), qr0 fun x hx => h x (List.mem_cons_of_mem _ hx)]
theorem xac {n : Nat} {s : Sto} (h : s.Ok n) (hm : s.m.l.length ≤ 390) {k v : List UInt8} (k1 : 1 ≤ k.length) (k4 : k.length ≤ 40) (hv : v.length ≤ 900) :
  (xg s [⟨k, false, v⟩]).2 = 0 ∧ (xg s [⟨k, false, v⟩]).1.Ok (n + 1) ∧ (xg s [⟨k, false, v⟩]).1.m.l.length ≤ s.m.l.length + 1 ∧ ∀ k', mGet k' (xg s [⟨k, false, v⟩]).1.m = vk k' (mGet k' s.m) [⟨k, false, v⟩] := by
 have hp : kj ⟨k, false, v⟩ = true := we.2 ⟨k1, k4, hv, fun h => by cases h⟩
 have a1 := xt (n := (k.length : Int)) (x5 (by omega))
 have a2 := xt (n := (v.length : Int)) (x5 (by omega))
 have a3 := xt (n := (([⟨k, false, v⟩] : List OpS).length : Int)) (x5 (by simp))
 have he : (qr [⟨k, false, v⟩]).2 = 0 := by
  unfold qr
  rw [if_neg (by simp [hp]), if_neg]
  simp only [Bool.or_eq_true, decide_eq_true_eq, not_or, wOps, wOp, qa8, List.length_append, List.flatMap_cons, List.flatMap_nil, List.append_nil, List.length_cons, List.length_nil] at a3 ⊢
  omega
 have hy : (jr s.m [⟨k, false, v⟩]).2 = true ∧ (jr s.m [⟨k, false, v⟩]).1.l.length ≤ s.m.l.length + 1 := by
  have hl := q56 k v s.m
  rw [jr, if_neg (by simp), if_neg (by simp only; omega), jr]
  exact ⟨rfl, hl⟩
 have hc : xg s [⟨k, false, v⟩] = (⟨yr s.file (qr [⟨k, false, v⟩]).1, s.synced, (jr s.m [⟨k, false, v⟩]).1⟩, 0) := by
  unfold xg
  rw [if_neg (by simp [he]), if_neg (by simp [hy.1])]
 have hok := qji h [⟨k, false, v⟩]
 rw [hc] at hok ⊢
 exact ⟨rfl, hok, hy.2, fun k' => qf4 k' _ h.good.ok hy.1⟩
theorem xfb {r : Int} (h6 : r ≤ 6) {x : Ue} (hx : EnOk r x) : (qe4 x).length ≤ 30 := by
 have h1 : 0 ≤ r := by have := hx.ml; omega
 have h64 : (2 : Nat) ^ r.toNat ≤ 64 := Nat.le_trans (Nat.pow_le_pow_right (by decide) (show r.toNat ≤ 6 by omega)) (by decide)
 have hp : I64 x.phase := by
  rw [hx.ph]
  rcases qa3 x with h | h | h | h <;> rw [h.1] <;> unfold I64 <;> omega
 have a := xt hp
 have hb := qg2 x.moved
 have hc := qg2 x.opened
 have e1 : x.moved.length = r.toNat := by have := hx.ml; omega
 have e2 : x.opened.length = r.toNat := by have := hx.ol; omega
 rw [e1] at hb; rw [e2] at hc
 have b := xt (n := (bitN x.moved : Int)) (by unfold I64; omega)
 have c := xt (n := (bitN x.opened : Int)) (by unfold I64; omega)
 simp only [qe4, List.length_append]; omega
theorem q1u {m : Mg} {r : Int} {a c : List Ue} {y : Ue} (ha : ∀ x ∈ a, x ∈ m.ents) (hc : ∀ x ∈ c, x ∈ m.ents) (hy : y ∉ m.ents) : qrz m ⟨r, a ++ y :: c⟩ = [⟨uKey y.sess, false, qe4 y⟩] := by
 have hn : ∀ l : List Ue, (∀ x ∈ l, x ∈ m.ents) → l.flatMap (chOp m) = [] := fun l hl => by
  rw [List.flatMap_eq_nil_iff]
  intro x hx
  rw [chOp, if_pos (hl x hx)]
 unfold qrz
 simp only [List.flatMap_append, List.flatMap_cons, hn a ha, hn c hc, List.nil_append, List.append_nil]
 rw [chOp, if_neg hy]
structure OneStep (m b : Mg) : Prop where
 mw : MW b
 roles : b.roles = m.roles
 keep : ∀ x ∈ m.ents, ∃ y ∈ b.ents, y.sess = x.sess
 one : ∃ y ∈ b.ents, qrz m b = [⟨uKey y.sess, false, qe4 y⟩]
theorem OneStep.changes {m b : Mg} (hm : MW m) (h : OneStep m b) : zy m b = (qrz m b, 0) := by
 have h1 : zh m = true := qa2.2 hm
 have h2 : zh b = true := qa2.2 h.mw
 unfold zy
 rw [if_neg (by simp [h1, h2, h.roles]), if_neg]
 simp only [List.any_eq_true, not_exists, not_and, Bool.not_eq_true', Bool.not_eq_false]
 intro x hx
 obtain ⟨y, hy, e⟩ := h.keep x hx
 exact (qmw h.mw).2 ⟨y, hy, e⟩
theorem q1v {m : Mg} {s : Int} (hm : MW m) (h : (zx m s).2 = 0) : OneStep m (zx m s).1 := by
 have hv := qa2.2 hm
 have hs : 1 ≤ s ∧ s ≤ 32 := by
  unfold zx at h
  rw [hv] at h
  simp only [Bool.not_true, Bool.false_eq_true, if_false] at h
  split at h
  ·cases h
  ·rename_i hn
   simp at hn; omega
 rcases qry m s hm hs.1 hs.2 with ⟨_, e⟩ | ⟨hf, a, b, he, e, hw⟩
 ·rw [e] at h; cases h
 ·rw [e]
  refine ⟨hw, rfl, fun x hx => ?_, newE m.roles s, by simp, ?_⟩
  ·rw [he] at hx
   refine ⟨x, ?_, rfl⟩
   simp only [List.mem_append, List.mem_singleton]
   rcases List.mem_append.1 hx with h | h
   ·exact .inl (.inl h)
   ·exact .inr h
  ·have hy : newE m.roles s ∉ m.ents := fun h => by
    have := (qmw hm (s := s)).2 ⟨_, h, rfl⟩
    rw [hf] at this; cases this
   have := q1u (m := m) (r := m.roles) (a := a) (c := b) (fun x hx => by rw [he]; exact List.mem_append_left _ hx) (fun x hx => by rw [he]; exact List.mem_append_right _ hx) hy
   simpa [List.append_assoc] using this
theorem qux {m : Mg} {s r label : Int} (hm : MW m) (hl : label = 1 ∨ label = 2) (h : (xl m (ve s r label)).2 = 0) : OneStep m (xl m (ve s r label)).1 := by
 have hv := qa2.2 hm
 have hs : 1 ≤ s ∧ s ≤ 32 ∧ 0 ≤ r ∧ r < m.roles := by
  unfold xl at h
  split at h
  ·cases h
  ·rename_i hn
   rw [hv] at hn
   simp only [ve, qj, qep, order, role, Bool.not_true, Bool.false_or, Bool.or_eq_true, bne_iff_ne, ne_eq, not_or, Bool.not_eq_true', decide_eq_true_eq] at hn
   simp at hn
   exact ⟨hn.1.1, of_decide_eq_true hn.1.2.1, hn.1.2.2.1, hn.2⟩
 obtain ⟨h1, h32, h0, hr⟩ := hs
 rcases qfi m s r label hm h1 h32 h0 hr hl with e | ⟨k, hk, hks, _, hb, _, e, he, hw⟩
 ·exact absurd h e
 ·rw [e]
  have hset : m.ents.set k (yh (jv (ve s r label) m.ents[k])) = m.ents.take k ++ yh (jv (ve s r label) m.ents[k]) :: m.ents.drop (k + 1) := by rw [List.set_eq_take_append_cons_drop, if_pos hk]
  refine ⟨hw, rfl, fun x hx => ?_, yh (jv (ve s r label) m.ents[k]), by rw [hset]; simp, ?_⟩
  ·obtain ⟨i, hi, rfl⟩ := List.getElem_of_mem hx
   by_cases hik : i = k
   ·subst hik
    exact ⟨_, List.mem_set hk _, qg1 _ _⟩
   ·refine ⟨m.ents[i], ?_, rfl⟩
    have := List.getElem_set_ne (l := m.ents) (i := k) (j := i) (a := yh (jv (ve s r label) m.ents[k])) (Ne.symm hik) (by simpa using hi)
    rw [← this]; exact List.getElem_mem _
  ·rw [hset]
   refine q1u (fun x hx => List.mem_of_mem_take hx) (fun x hx => List.mem_of_mem_drop hx) fun hmem => ?_
   have hx := hm.en _ (List.getElem_mem hk)
   have hy := he
   have hn : m.ents.Pairwise fun a b => a.sess ≠ b.sess := by
    have hp := hm.inc
    rw [List.pairwise_map] at hp
    exact hp.imp fun h => by omega
   have hsame : yh (jv (ve s r label) m.ents[k]) = m.ents[k] := by
    by_cases hxy : yh (jv (ve s r label) m.ents[k]) = m.ents[k]
    ·exact hxy
    ·exact absurd (qg1 _ _) (q4y hn hmem (List.getElem_mem hk) hxy)
   have hrl : r.toNat < m.ents[k].moved.length := by have := hx.ml; omega
   have hrl2 : r.toNat < m.ents[k].opened.length := by have := hx.ol; omega
   rcases hl with rfl | rfl
   ·have e1 := congrArg Ue.moved hsame
    simp only [yh, jv, ve] at e1
    simp only [qbi, ve] at hb
    have := congrArg (fun l => l.getD r.toNat false) e1
    simp [List.getD, hrl] at this hb
    rw [this] at hb; cases hb
   ·have e1 := congrArg Ue.opened hsame
    simp only [yh, jv, ve] at e1
    simp only [qbi, ve] at hb
    have := congrArg (fun l => l.getD r.toNat false) e1
    simp [List.getD, hrl2] at this hb
    rw [this] at hb; cases hb
end Go.Proofs.YtkcdbcbpbolgkaaGreatDoor
namespace Go.Proofs.YtkcdbcbpbolgkaaGreatDoor
open Go.Abs
noncomputable section
set_option maxRecDepth 100000
set_option linter.defProp false
def d316 := cut Tryz.prog Tryz.f316 news
@[go_sem] def E316 := ql d316
def F316 := fnC d316 follows Tryz.func316
def d271 := cut Tryz.prog Tryz.f271 news
@[go_sem] def E271 := ql d271
def F271 := fnC d271 follows Tryz.func271
def d228 := cut Tryz.prog Tryz.f228 news
@[go_sem] def E228 := ql d228
def F228 := fnC d228 follows Tryz.func228
def d146 := cut Tryz.prog Tryz.f146 news
@[go_sem] def E146 := ql d146
def F146 := fnC d146 follows Tryz.func146
def d148 := cut Tryz.prog Tryz.f148 news
@[go_sem] def E148 := ql d148
def F148 := fnC d148 follows Tryz.func148
def d80 := cut Tryz.prog Tryz.f80 news
@[go_sem] def E80 := ql d80
def F80 := fnC d80 follows Tryz.func80
def d79 := cut Tryz.prog Tryz.f79 news
@[go_sem] def E79 := ql d79
def F79 := fnC d79 follows Tryz.func79
def d25 := cut Tryz.prog Tryz.f25 news
@[go_sem] def E25 := ql d25
def F25 := fnC d25 follows Tryz.func25
end
theorem xkh : ∀ n : Fin 10, (([48, 49, 50, 51, 52, 53, 54, 55, 56, 57, 97, 98, 99, 100, 101, 102, 103, 104, 105, 106, 107, 108, 109, 110, 111, 112, 113, 114, 115, 116, 117, 118, 119, 120, 121, 122] : List UInt8).drop n.val).take 1 = [UInt8.ofNat (48 + n.val)] := by decide
theorem q67 (n : Nat) (hn : n < 10) : qg Tryz.prog 316 [.d (.int .i64 (n : Nat))] [] (.d (.str [UInt8.ofNat (48 + n)])) [] := by
 have h1 : decide (((n : Nat) : Int) < 10) = true := by simp; omega
 have h2 := xkh ⟨n, hn⟩
 simp only at h2
 have h3 : IntKind.i64.wrap ((n : Int) + 1) = ((n + 1 : Nat) : Int) := qf (show n < 9223372036854775807 by omega)
 have h4 : n + 1 - n = 1 := by omega
 refine F316.go ?_
 try (refine ev1 @h1 ?_; try exact True.intro)
 (repeat (with_reducible refine ob ?_)); refine qck ?_
 try (refine ev4 @h3 @Int.toNat_natCast @h4 @h2 ?_; try exact True.intro)
 omega
theorem qnz (n : Nat) (hn : n < 10) : qg Tryz.prog 271 [.d (.int .i64 (n : Nat)), .d (.int .i64 10)] [] (.d (.str [UInt8.ofNat (48 + n)])) [] := by
 have h1 : decide ((0 : Int) ≤ ((n : Nat) : Int)) = true := by simp
 have h2 : decide (((n : Nat) : Int) < 100) = true := by simp; omega
 refine F271.go ?_
 try (refine ev ?_; try exact True.intro)
 (repeat (with_reducible refine ob ?_)); refine qck ?_
 try (refine ev2 @h1 @h2 ?_; try exact True.intro)
 (repeat (with_reducible refine ob ?_)); refine qck ?_
 try (refine ev ?_; try exact True.intro)
 (repeat (with_reducible refine ob ?_)); first | refine cl F316 (q67 n hn) ?_ | refine clF F316 (q67 n hn) (fun _ => by (refine ev3 @qq.eq_1 @qx.eq_1 @qo.eq_1 ?_; try exact True.intro)) ?_
 try (refine ev ?_; try exact True.intro)
theorem q68 (n : Nat) (hn : n < 10) : qg Tryz.prog 228 [.d (.int .i64 (n : Nat))] [] (.d (.str [UInt8.ofNat (48 + n)])) [] := by
 refine F228.go ?_
 try (refine ev ?_; try exact True.intro)
 (repeat (with_reducible refine ob ?_)); first | refine cl F271 (qnz n hn) ?_ | refine clF F271 (qnz n hn) (fun _ => by (refine ev3 @qq.eq_1 @qx.eq_1 @qo.eq_1 ?_; try exact True.intro)) ?_
 try (refine ev ?_; try exact True.intro)
theorem qxe (n : Nat) (hn : n < 10) : qg Tryz.prog 146 [.d (.int .i64 (n : Nat))] [] (.d (.str [UInt8.ofNat (48 + n)])) [] := by
 refine F146.go ?_
 try (refine ev ?_; try exact True.intro)
 (repeat (with_reducible refine ob ?_)); first | refine cl F228 (q68 n hn) ?_ | refine clF F228 (q68 n hn) (fun _ => by (refine ev3 @qq.eq_1 @qx.eq_1 @qo.eq_1 ?_; try exact True.intro)) ?_
 try (refine ev ?_; try exact True.intro)
theorem qxf (s : Int) (h1 : 0 ≤ s) (h2 : s ≤ 99) : qg Tryz.prog 79 [.d (.int .i64 s)] [] (.d (.str (uKey s))) [] := by
 obtain ⟨n, rfl⟩ : ∃ n : Nat, s = n := ⟨s.toNat, by omega⟩
 have e1 : IntKind.i64.wrap ((n : Int).tdiv 10) = ((n / 10 : Nat) : Int) := by
  rw [Int.tdiv_eq_ediv_of_nonneg (by omega), zk (by unfold I64; omega)]; omega
 have e2 : ((n : Int)).tmod 10 = ((n % 10 : Nat) : Int) := by rw [Int.tmod_eq_emod_of_nonneg (by omega)]; omega
 refine F79.go ?_
 try (refine ev2 @e1 @e2 ?_; try exact True.intro)
 (repeat (with_reducible refine ob ?_)); first | refine cl F146 (qxe (n / 10) (by omega)) ?_ | refine clF F146 (qxe (n / 10) (by omega)) (fun _ => by (refine ev3 @qq.eq_1 @qx.eq_1 @qo.eq_1 ?_; try exact True.intro)) ?_
 try (refine ev ?_; try exact True.intro)
 (repeat (with_reducible refine ob ?_)); first | refine cl F146 (qxe (n % 10) (by omega)) ?_ | refine clF F146 (qxe (n % 10) (by omega)) (fun _ => by (refine ev3 @qq.eq_1 @qx.eq_1 @qo.eq_1 ?_; try exact True.intro)) ?_
 try (refine ev3 @uKey.eq_1 @Int.toNat_natCast @List.append_assoc.{0} ?_; try exact True.intro)
def xfc (l : List Bool) (i : { i : Nat // i ≤ l.length }) : St :=
 ⟨[(3, true, .d (.int .i64 (bitN (l.take i.val) : Nat))), (6, true, .d (.sl 1 (l.map encB))), (7, true, .d (.int .i64 l.length)), (8, true, .d (.int .i64 (i.val : Nat)))], [], [], 1⟩
theorem q1w : ∀ (l : List Bool) (b : Bool), bitN (l ++ [b]) = bitN l + b.toNat * 2 ^ l.length
 | [], b => by simp [bitN]
 | c :: l, b => by
  rw [List.cons_append, bitN, q1w l b, bitN, List.length_cons, Nat.pow_succ, Nat.mul_add, ← Nat.mul_assoc, Nat.mul_comm 2 b.toNat, Nat.mul_assoc, Nat.mul_comm 2 (2 ^ l.length)]
  omega
theorem xrq {u i : Nat} (hu : u < 2 ^ i) (hi : i ≤ 60) : IntKind.i64.wrap (bvOr 64 (u : Int) (IntKind.i64.wrap (1 * 2 ^ (min i 64)))) = ((u + 2 ^ i : Nat) : Int) := by
 have hp : (2 : Nat) ^ i ≤ 2 ^ 60 := Nat.pow_le_pow_right (by decide) hi
 have e1 : min i 64 = i := by omega
 have e2 : (1 : Int) * 2 ^ i = ((2 ^ i : Nat) : Int) := by simp
 rw [e1, e2, zk (n := ((2 ^ i : Nat) : Int)) (by unfold I64; omega)]
 have e3 : bvOr 64 (u : Int) ((2 ^ i : Nat) : Int) = ((u ||| 2 ^ i : Nat) : Int) := by
  unfold bvOr
  rw [BitVec.toNat_or, BitVec.ofInt_natCast, BitVec.ofInt_natCast, BitVec.toNat_ofNat, BitVec.toNat_ofNat, Nat.mod_eq_of_lt (by omega), Nat.mod_eq_of_lt (by omega)]
 have e4 := q4c u 1 i hu
 rw [Nat.one_mul] at e4
 rw [e3, e4, zk (by unfold I64; omega)]
theorem qxg (l : List Bool) (hl : l.length ≤ 60) : qg Tryz.prog 148 [.d (.sl 1 (l.map encB))] [] (.d (.int .i64 (bitN l : Nat))) [] := by
 refine F148.go ?_
 try (refine ev ?_; try exact True.intro)
 refine qk (xfc l) (fun i => l.length - i.val) ⟨0, Nat.zero_le _⟩ ?_ (fun i => ?_)
 ·try simp only [xfc, List.take_zero, bitN, Int.ofNat_zero, go_sem, Nat.reduceAdd, Nat.reduceMul, Nat.reduceSub, Nat.reduceEqDiff, Nat.reduceLT, Nat.reduceLeDiff, Nat.reduceBEq, reduceIte, reduceCtorEq, Int.reduceAdd, Int.reduceLT, Int.reduceLE, Int.reduceGT, Int.reduceGE, Int.reduceEq, Int.reduceNe, Int.reduceBEq, Int.reduceBNe, Int.reduceToNat, Int.reduceNeg]
 obtain ⟨i, hi⟩ := i
 try (refine ev1 @xfc.eq_1 ?_; try exact True.intro)
 (repeat (with_reducible refine ob ?_)); refine xq _ (fun h => ?_) (fun h => ?_)
 ·have hil : i < l.length := by simpa using h
  have hw := qf (show i < 9223372036854775807 by omega)
  have hlen : (l.take i).length = i := by rw [List.length_take]; omega
  have hsn : bitN (l.take (i + 1)) = bitN (l.take i) + (l[i]).toNat * 2 ^ i := by
   rw [← List.take_append_getElem hil, q1w, hlen]
  have hlt := qg2 (l.take i)
  rw [hlen] at hlt
  (refine ev2 (qi encB l hil) @encB.eq_1 ?_; try exact True.intro)
  (repeat (with_reducible refine ob ?_))
  refine xq _ (fun h2 => ?_) (fun h2 => ?_)
  ·have ho := xrq hlt (show i ≤ 60 by omega)
   rw [h2, Bool.toNat_true, Nat.one_mul] at hsn
   rw [← hsn] at ho
   try (refine ev2 @Int.toNat_natCast @ho ?_; try exact True.intro)
   (repeat (with_reducible refine ob ?_))
   refine ⟨⟨i + 1, hil⟩, ?_, by dsimp only; omega⟩
   try (refine ev2 @xfc.eq_1 @hw ?_; try exact True.intro)
  ·rw [h2, Bool.toNat_false, Nat.zero_mul, Nat.add_zero] at hsn
   try (refine ev ?_; try exact True.intro)
   refine ⟨⟨i + 1, hil⟩, ?_, by dsimp only; omega⟩
   try (refine ev3 @xfc.eq_1 @hw @hsn ?_; try exact True.intro)
 ·have hil : l.length ≤ i := by simpa using h
  try (refine ev1 (List.take_of_length_le hil) ?_; try exact True.intro)
theorem xki (x : Ue) (hp : I64 x.phase) (h1 : x.moved.length ≤ 60) (h2 : x.opened.length ≤ 60) : qg Tryz.prog 80 [.d (.agg (qq x))] [] (.d (.sl 1 (qd (qe4 x)))) [] := by
 have p1 : (2 : Nat) ^ x.moved.length ≤ 2 ^ 60 := Nat.pow_le_pow_right (by decide) h1
 have p2 : (2 : Nat) ^ x.opened.length ≤ 2 ^ 60 := Nat.pow_le_pow_right (by decide) h2
 have q1 := qg2 x.moved
 have q2 := qg2 x.opened
 have i1 : I64 (bitN x.moved : Nat) := by unfold I64; omega
 have i2 : I64 (bitN x.opened : Nat) := by unfold I64; omega
 have a1 := xt hp
 have a2 := xt i1
 refine F80.go ?_
 try (refine ev1 @qq.eq_1 ?_; try exact True.intro)
 refine clA F147 (kg [] x.phase (by simp) hp) ?_
 try (refine ev ?_; try exact True.intro)
 (repeat (with_reducible refine ob ?_)); first | refine cl F148 (qxg x.moved h1) ?_ | refine clF F148 (qxg x.moved h1) (fun _ => by (refine ev3 @qq.eq_1 @qx.eq_1 @qo.eq_1 ?_; try exact True.intro)) ?_
 try (refine ev ?_; try exact True.intro)
 refine clA F147 (kg ([] ++ wInt x.phase) _ (by rw [List.nil_append]; omega) i1) ?_
 try (refine ev ?_; try exact True.intro)
 (repeat (with_reducible refine ob ?_)); first | refine cl F148 (qxg x.opened h2) ?_ | refine clF F148 (qxg x.opened h2) (fun _ => by (refine ev3 @qq.eq_1 @qx.eq_1 @qo.eq_1 ?_; try exact True.intro)) ?_
 try (refine ev ?_; try exact True.intro)
 refine clA F147 (kg ([] ++ wInt x.phase ++ wInt (bitN x.moved : Nat)) _ (by rw [List.nil_append, List.length_append]; omega) i2) ?_
 try simp only [qe4, List.nil_append, go_sem, Nat.reduceAdd, Nat.reduceMul, Nat.reduceSub, Nat.reduceEqDiff, Nat.reduceLT, Nat.reduceLeDiff, Nat.reduceBEq, reduceIte, reduceCtorEq, Int.reduceAdd, Int.reduceLT, Int.reduceLE, Int.reduceGT, Int.reduceGE, Int.reduceEq, Int.reduceNe, Int.reduceBEq, Int.reduceBNe, Int.reduceToNat, Int.reduceNeg]
theorem xkj {a : Mg} (ha : MW a) (x : Ue) : ((xi a x.sess).2 && decide (x = a.ents.getD (xi a x.sess).1 default)) = decide (x ∈ a.ents) := by
 cases hf : (xi a x.sess).2 with
 | false =>
  have : x ∉ a.ents := fun h => by
   have := (qmw ha (s := x.sess)).2 ⟨x, h, rfl⟩
   rw [hf] at this; cases this
  simp [this]
 | true =>
  obtain ⟨hk, hs⟩ := qir hf
  rw [Bool.true_and, zc hk, decide_eq_decide]
  constructor
  ·intro h; rw [h]; exact List.getElem_mem hk
  ·intro h
   have hn : a.ents.Pairwise fun a b => a.sess ≠ b.sess := by
    have hp := ha.inc
    rw [List.pairwise_map] at hp
    exact hp.imp fun h => by omega
   by_cases hxy : x = a.ents[(xi a x.sess).1]
   ·exact hxy
   ·exact absurd hs.symm (q4y hn h (List.getElem_mem hk) hxy)
def Sch1 (a b : Mg) (i : { i : Nat // qcb (fun i => (xi b (a.ents.getD i default).sess).2) i = true }) : St :=
 ⟨[(2, true, .d (.ptr 0 0)), (3, true, .d (.ptr 1 0)), (31, true, .d (.sl 4 (a.ents.map qq))), (32, true, .d (.int .i64 a.ents.length)), (33, true, .d (.int .i64 (i.val : Nat)))], [zw a, zw b], [], 1⟩
def Sch2 (a b : Mg) (i : { i : Nat // i ≤ b.ents.length }) : St :=
 ⟨[(2, true, .d (.ptr 0 0)), (3, true, .d (.ptr 1 0)), (10, true, .own 0 3 (((b.ents.take i.val).flatMap (chOp a)).map qo)), (48, true, .d (.sl 4 (b.ents.map qq))), (49, true, .d (.int .i64 b.ents.length)), (50, true, .d (.int .i64 (i.val : Nat)))], [zw a, zw b], [0], 1⟩
theorem xfd {a b : Mg} : (a.ents.any fun x => !(xi b x.sess).2) = !qcb (fun i => (xi b (a.ents.getD i default).sess).2) a.ents.length := by
 rw [Bool.eq_iff_iff]
 simp only [List.any_eq_true, Bool.not_eq_true', ← Bool.not_eq_true, zd, Classical.not_forall]
 constructor
 ·rintro ⟨x, hx, h⟩
  obtain ⟨i, hi, rfl⟩ := List.getElem_of_mem hx
  exact ⟨i, hi, by rw [zc hi]; exact h⟩
 ·rintro ⟨i, hi, h⟩
  exact ⟨a.ents[i], List.getElem_mem hi, by rw [zc hi] at h; exact h⟩
theorem xrr (a : Mg) (l : List Ue) : (l.flatMap (chOp a)).length ≤ l.length := by
 induction l with
 | nil => simp
 | cons x l ih =>
  have : (chOp a x).length ≤ 1 := by unfold chOp; split <;> simp
  rw [List.flatMap_cons, List.length_append, List.length_cons]; omega
set_option maxRecDepth 10000 in
theorem xad (a b : Mg) (ha : a.Sm) (hb : b.Sm) : qg Tryz.prog 25 [.d (.agg (qx a)), .d (.agg (qx b))] [] (.tup [.d (.sl 3 ((zy a b).1.map qo)), .d (.int .i64 (zy a b).2)]) [] := by
 have hal := ha.1
 have hbl := hb.1
 refine F25.goT ?_
 try (refine ev1 @qx.eq_1 ?_; try exact True.intro)
 (repeat (with_reducible refine ob ?_)); first | refine cl F69 (y6 a ha) ?_ | refine clF F69 (y6 a ha) (fun _ => by (refine ev3 @qq.eq_1 @qx.eq_1 @qo.eq_1 ?_; try exact True.intro)) ?_
 try (refine ev ?_; try exact True.intro)
 (repeat (with_reducible refine ob ?_)); first | refine cl F69 (y6 b hb) ?_ | refine clF F69 (y6 b hb) (fun _ => by (refine ev3 @qq.eq_1 @qx.eq_1 @qo.eq_1 ?_; try exact True.intro)) ?_
 try (refine ev ?_; try exact True.intro)
 (repeat (with_reducible refine ob ?_))
 (repeat (with_reducible refine ob ?_)); refine xq _ (fun h => ?_) (fun h => ?_)
 ·have hx : zy a b = ([], 1) := by unfold zy; rw [if_pos h]
  try (refine ev2 @hx @List.map_nil.{0,0} ?_; try exact True.intro)
 have h0 := h
 simp only [Bool.or_eq_false_iff, Bool.not_eq_false', bne_eq_false_iff_eq] at h
 obtain ⟨⟨va, vb⟩, hr⟩ := h
 have wa := qa2.1 va
 have wb := qa2.1 vb
 try (refine ev ?_; try exact True.intro)
 refine qk (Sch1 a b) (fun i => a.ents.length - i.val) ⟨0, rfl⟩ ?_ (fun i => ?_)
 ·try (refine ev3 @Sch1.eq_1 @zw.eq_1 @Int.ofNat_zero ?_; try exact True.intro)
 obtain ⟨i, hi⟩ := i
 try (refine ev2 @Sch1.eq_1 @zw.eq_1 ?_; try exact True.intro)
 (repeat (with_reducible refine ob ?_)); refine xq _ (fun h => ?_) (fun h => ?_)
 ·have hil : i < a.ents.length := by simpa using h
  have k := qf8 b (a.ents[i]).sess hb
  simp only [qx] at k
  (refine ev2 (qi qq a.ents hil) @qq.eq_1 ?_; try exact True.intro)
  (repeat (with_reducible refine ob ?_))
  (repeat (with_reducible refine ob ?_)); first | refine cl F77 (k) ?_ | refine clF F77 (k) (fun _ => by (refine ev3 @qq.eq_1 @qx.eq_1 @qo.eq_1 ?_; try exact True.intro)) ?_
  try (refine ev ?_; try exact True.intro)
  refine xq _ (fun h2 => ?_) (fun h2 => ?_)
  ·have hg : (fun i => (xi b (a.ents.getD i default).sess).2) i = false := by simp only [zc hil]; simpa using h2
   have hx : zy a b = ([], 1) := by
    unfold zy
    rw [if_neg (by rw [h0]; simp), if_pos]
    rw [xfd, qfb hil hg]; rfl
   try (refine ev2 @hx @List.map_nil.{0,0} ?_; try exact True.intro)
  ·try (refine ev ?_; try exact True.intro)
   refine ⟨⟨i + 1, y5 hi (by simp only [zc hil]; simpa using h2)⟩, ?_, by dsimp only; omega⟩
   try (refine ev3 @Sch1.eq_1 @zw.eq_1 (qf (show i < 9223372036854775807 by omega)) ?_; try exact True.intro)
 have hil : a.ents.length ≤ i := by simpa using h
 have hall : qcb (fun i => (xi b (a.ents.getD i default).sess).2) a.ents.length = true := zd.2 fun j hj => zd.1 hi j (by omega)
 have hx : zy a b = (qrz a b, 0) := by
  unfold zy
  rw [if_neg (by rw [h0]; simp), if_neg]
  rw [xfd, hall]; simp
 rw [hx]
 try (refine ev ?_; try exact True.intro)
 refine qk (Sch2 a b) (fun i => b.ents.length - i.val) ⟨0, Nat.zero_le _⟩ ?_ (fun i => ?_)
 ·try (refine ev6 @Sch2.eq_1 @zw.eq_1 @Int.ofNat_zero @List.take_zero.{0} @List.flatMap_nil.{0,0} @List.map_nil.{0,0} ?_; try exact True.intro)
 obtain ⟨j, hj⟩ := i
 try (refine ev2 @Sch2.eq_1 @zw.eq_1 ?_; try exact True.intro)
 (repeat (with_reducible refine ob ?_)); refine xq _ (fun h => ?_) (fun h => ?_)
 ·have hjl : j < b.ents.length := by simpa using h
  have hxs := hb.2 _ (List.getElem_mem hjl)
  have hxe := wb.en _ (List.getElem_mem hjl)
  have kf := qf8 a (b.ents[j]).sess ha
  have hph : I64 (b.ents[j]).phase := by
   rw [hxe.ph]
   rcases qa3 b.ents[j] with h | h | h | h <;> rw [h.1] <;> unfold I64 <;> omega
  have kv := xki b.ents[j] hph (by have := hxe.ml; have := wb.r6; omega) (by have := hxe.ol; have := wb.r6; omega)
  simp only [qq] at kv
  have hlen := xrr a (b.ents.take j)
  rw [List.length_take] at hlen
  have hsnoc : (b.ents.take (j + 1)).flatMap (chOp a) = (b.ents.take j).flatMap (chOp a) ++ chOp a b.ents[j] := by
   rw [← List.take_append_getElem hjl, List.flatMap_append]; simp
  have hsame := xkj wa b.ents[j]
  have hw := qf (show j < 9223372036854775807 by omega)
  simp only [qx] at kf
  (refine ev2 (qi qq b.ents hjl) @qq.eq_1 ?_; try exact True.intro)
  (repeat (with_reducible refine ob ?_))
  (repeat (with_reducible refine ob ?_)); first | refine cl F77 (kf) ?_ | refine clF F77 (kf) (fun _ => by (refine ev3 @qq.eq_1 @qx.eq_1 @qo.eq_1 ?_; try exact True.intro)) ?_
  try (refine ev ?_; try exact True.intro)
  cases hf : (xi a (b.ents[j]).sess).2 with
  | false =>
   rw [hf, Bool.false_and] at hsame
   have hc : chOp a b.ents[j] = [⟨uKey b.ents[j].sess, false, qe4 b.ents[j]⟩] := by unfold chOp; rw [if_neg (of_decide_eq_false hsame.symm)]
   try (refine ev1 @hf ?_; try exact True.intro)
   (repeat (with_reducible refine ob ?_)); refine xcf ?_
   try (refine ev ?_; try exact True.intro)
   (repeat (with_reducible refine ob ?_)); refine no_ ?_
   try (refine ev ?_; try exact True.intro)
   (repeat (with_reducible refine ob ?_)); first | refine cl F79 (qxf (b.ents[j]).sess (by have := hxe.s1; omega) (by have := hxe.s32; omega)) ?_ | refine clF F79 (qxf (b.ents[j]).sess (by have := hxe.s1; omega) (by have := hxe.s32; omega)) (fun _ => by (refine ev3 @qq.eq_1 @qx.eq_1 @qo.eq_1 ?_; try exact True.intro)) ?_
   try (refine ev ?_; try exact True.intro)
   (repeat (with_reducible refine ob ?_)); first | refine cl F80 (kv) ?_ | refine clF F80 (kv) (fun _ => by (refine ev3 @qq.eq_1 @qx.eq_1 @qo.eq_1 ?_; try exact True.intro)) ?_
   try (refine ev ?_; try exact True.intro)
   (repeat (with_reducible refine ob ?_))
   refine ⟨⟨j + 1, hjl⟩, ?_, by dsimp only; omega⟩
   try simp only [Sch2, zw, hsnoc, hc, List.map_append, List.map_cons, List.map_nil, qo, hw, go_sem, Nat.reduceAdd, Nat.reduceMul, Nat.reduceSub, Nat.reduceEqDiff, Nat.reduceLT, Nat.reduceLeDiff, Nat.reduceBEq, reduceIte, reduceCtorEq, Int.reduceAdd, Int.reduceLT, Int.reduceLE, Int.reduceGT, Int.reduceGE, Int.reduceEq, Int.reduceNe, Int.reduceBEq, Int.reduceBNe, Int.reduceToNat, Int.reduceNeg]
  | true =>
   obtain ⟨hk, _⟩ := qir hf
   rw [hf, Bool.true_and, zc hk] at hsame
   generalize (xi a (b.ents[j]).sess).1 = k at hk hsame ⊢
   have hys := ha.2 _ (List.getElem_mem hk)
   have kq := qmc b.ents[j] a.ents[k] hxs
   simp only [qq] at kq
   try (refine ev2 @hf @Int.toNat_natCast ?_; try exact True.intro)
   (refine ev2 (qi qq a.ents hk) @qq.eq_1 ?_; try exact True.intro)
   (repeat (with_reducible refine ob ?_))
   (repeat (with_reducible refine ob ?_)); first | refine cl F78 (kq) ?_ | refine clF F78 (kq) (fun _ => by (refine ev3 @qq.eq_1 @qx.eq_1 @qo.eq_1 ?_; try exact True.intro)) ?_
   try (refine ev ?_; try exact True.intro)
   refine xq _ (fun h2 => ?_) (fun h2 => ?_)
   ·have hc : chOp a b.ents[j] = [] := by unfold chOp; rw [if_pos (of_decide_eq_true (hsame.symm.trans h2))]
    try (refine ev ?_; try exact True.intro)
    refine ⟨⟨j + 1, hjl⟩, ?_, by dsimp only; omega⟩
    try (refine ev6 @Sch2.eq_1 @zw.eq_1 @hsnoc @hc @List.append_nil.{0} @hw ?_; try exact True.intro)
   ·have hc : chOp a b.ents[j] = [⟨uKey b.ents[j].sess, false, qe4 b.ents[j]⟩] := by unfold chOp; rw [if_neg (of_decide_eq_false (hsame.symm.trans h2))]
    try (refine ev ?_; try exact True.intro)
    (repeat (with_reducible refine ob ?_)); first | refine cl F79 (qxf (b.ents[j]).sess (by have := hxe.s1; omega) (by have := hxe.s32; omega)) ?_ | refine clF F79 (qxf (b.ents[j]).sess (by have := hxe.s1; omega) (by have := hxe.s32; omega)) (fun _ => by (refine ev3 @qq.eq_1 @qx.eq_1 @qo.eq_1 ?_; try exact True.intro)) ?_
    try (refine ev ?_; try exact True.intro)
    (repeat (with_reducible refine ob ?_)); first | refine cl F80 (kv) ?_ | refine clF F80 (kv) (fun _ => by (refine ev3 @qq.eq_1 @qx.eq_1 @qo.eq_1 ?_; try exact True.intro)) ?_
    try (refine ev ?_; try exact True.intro)
    (repeat (with_reducible refine ob ?_))
    refine ⟨⟨j + 1, hjl⟩, ?_, by dsimp only; omega⟩
    try simp only [Sch2, zw, hsnoc, hc, List.map_append, List.map_cons, List.map_nil, qo, hw, go_sem, Nat.reduceAdd, Nat.reduceMul, Nat.reduceSub, Nat.reduceEqDiff, Nat.reduceLT, Nat.reduceLeDiff, Nat.reduceBEq, reduceIte, reduceCtorEq, Int.reduceAdd, Int.reduceLT, Int.reduceLE, Int.reduceGT, Int.reduceGE, Int.reduceEq, Int.reduceNe, Int.reduceBEq, Int.reduceBNe, Int.reduceToNat, Int.reduceNeg]
 ·have hjl : b.ents.length ≤ j := by simpa using h
  try (refine ev2 @qrz.eq_1 (List.take_of_length_le hjl) ?_; try exact True.intro)
end Go.Proofs.YtkcdbcbpbolgkaaGreatDoor
namespace Go.Proofs.YtkcdbcbpbolgkaaGreatDoor
open Go.Abs
structure MapM (K V : Type) where
 l : List (Nat × K × V)
 c : Nat
 deriving Inhabited
section
variable {K V : Type} [DecidableEq K]
def qe2 (k : K) (x : Nat × K × V) : Bool := decide (k = x.2.1)
def MapM.get (m : MapM K V) (k : K) : Option V := (m.l.find? (qe2 k)).map (·.2.2)
def MapM.put (m : MapM K V) (k : K) (v : V) : MapM K V := match m.l.findIdx? (qe2 k) with
 | some j => ⟨m.l.modify j fun e => (e.1, k, v), m.c⟩
 | none => ⟨m.l ++ [(m.c, k, v)], m.c + 1⟩
def encE (eK : K → D) (eV : V → D) (x : Nat × K × V) : Nat × D × D := (x.1, eK x.2.1, eV x.2.2)
structure KeyE (kd : KD) (eK : K → D) : Prop where
 is : ∀ a n b d, qba (eK a) (n, eK b, d) = decide (a = b)
 fit : ∀ a b, kd.fit (eK a) (eK b) = true
variable {kd : KD} {eK : K → D} {eV : V → D}
theorem KeyE.findIdx (h : KeyE kd eK) (k : K) (l : List (Nat × K × V)) : (l.map (encE eK eV)).findIdx? (qba (eK k)) = l.findIdx? (qe2 k) := by
 rw [List.findIdx?_map]
 congr 1
 funext x
 exact h.is k x.1 x.2.1 _
theorem KeyE.put (h : KeyE kd eK) (m : MapM K V) (k : K) (v : V) : qhb (eK k) (eV v) m.c (m.l.map (encE eK eV)) = (m.put k v).l.map (encE eK eV) := by
 unfold qhb MapM.put
 rw [h.findIdx]
 cases hf : m.l.findIdx? (qe2 k) with
 | none => simp [encE]
 | some j =>
  simp only
  apply List.ext_getElem?
  intro i
  rw [List.getElem?_modify, List.getElem?_map, List.getElem?_map, List.getElem?_modify]
  cases m.l[i]? with
  | none => rfl
  | some x =>
   show some (if j = i then _ else _) = some (encE eK eV (if j = i then _ else _))
   split <;> rfl
theorem KeyE.clock (h : KeyE kd eK) (m : MapM K V) (k : K) (v : V) : qb3 (eK k) m.c (m.l.map (encE eK eV)) = (m.put k v).c := by
 unfold qb3 MapM.put
 rw [h.findIdx]
 cases m.l.findIdx? (qe2 k) <;> rfl
theorem KeyE.find (h : KeyE kd eK) (m : MapM K V) (k : K) : qa5 (eK k) (m.l.map (encE eK eV)) = (m.get k).map eV := by
 unfold qa5 MapM.get
 rw [List.find?_map]
 have : qba (eK k) ∘ encE eK eV = qe2 k := by
  funext x
  exact h.is k x.1 x.2.1 _
 rw [this]
 cases m.l.find? (qe2 k) <;> rfl
theorem KeyE.keyFit (h : KeyE kd eK) (k : K) (l : List (Nat × K × V)) : keyFit kd (eK k) (l.map (encE eK eV)) = true := by
 simp only [Go.Abs.keyFit, h.fit, Bool.true_and, List.all_map]
 exact List.all_eq_true.2 fun x _ => h.fit _ _
theorem MapM.get_put (m : MapM K V) (k k' : K) (v : V) : (m.put k v).get k' = if k' = k then some v else m.get k' := by
 unfold MapM.put MapM.get
 cases hf : m.l.findIdx? (qe2 k) with
 | none =>
  have hn : ∀ x ∈ m.l, qe2 k x = false := by
   intro x hx
   have := List.findIdx?_eq_none_iff.1 hf x hx
   simpa using this
  simp only [List.find?_append, List.find?_cons, List.find?_nil]
  by_cases hk : k' = k
  ·subst hk
   have : m.l.find? (qe2 k') = none := List.find?_eq_none.2 fun x hx => by simp [hn x hx]
   simp [this, qe2]
  ·simp only [if_neg hk]
   have : qe2 k' (m.c, k, v) = false := by simp [qe2, hk]
   rw [this]
   cases m.l.find? (qe2 k') <;> rfl
 | some j =>
  obtain ⟨hj, hx, hb⟩ := List.findIdx?_eq_some_iff_getElem.1 hf
  have hkey : (m.l[j]).2.1 = k := by simpa [qe2, eq_comm] using hx
  simp only
  have gen : ∀ (l : List (Nat × K × V)) (j : Nat) (hj : j < l.length), (l[j]).2.1 = k → (∀ i (hi : i < j), (l[i]'(by omega)).2.1 ≠ k) →
    ((l.modify j fun e => (e.1, k, v)).find? (qe2 k')).map (·.2.2) = if k' = k then some v else (l.find? (qe2 k')).map (·.2.2) := by
   intro l
   induction l with
   | nil => intro j hj; simp at hj
   | cons e l ih =>
    intro j hj h1 h2
    cases j with
    | zero =>
     simp only [List.getElem_cons_zero] at h1
     simp only [List.modify_zero_cons, List.find?_cons]
     by_cases hk : k' = k
     ·subst hk; simp [qe2]
     ·simp [qe2, hk, h1]
    | succ j =>
     simp only [List.modify_succ_cons, List.find?_cons]
     have h0 : e.2.1 ≠ k := by simpa using h2 0 (by omega)
     have hr := ih j (by simpa using hj) (by simpa using h1) (fun i hi => by simpa using h2 (i + 1) (by omega))
     by_cases hk : k' = e.2.1
     ·subst hk
      simp [qe2, h0]
     ·have : qe2 k' e = false := by simp [qe2, hk]
      simp only [this]
      exact hr
  exact gen m.l j hj hkey fun i hi => by
   have := hb i hi
   simpa [qe2, eq_comm] using this
end
structure Pr where
 s : Int
 f : Int
 t : Int
 deriving DecidableEq, Inhabited
structure Tk where
 p : Pr
 n : Int
 deriving DecidableEq, Inhabited
structure TryM where
 count : Int
 next : Int
 deriving DecidableEq, Inhabited
structure OutM where
 to : Int
 p : Pk
 deriving DecidableEq, Inhabited
def qxh (p : Pr) : D := .agg [.int .i64 p.s, .int .i64 p.f, .int .i64 p.t]
def qxi (t : Tk) : D := .agg [.int .i64 t.p.s, .int .i64 t.p.f, .int .i64 t.p.t, .int .i64 t.n]
def qlk (y : TryM) : D := .agg [.int .i64 y.count, .int .i64 y.next]
def xe (o : OutM) : List D := .int .i64 o.to :: qe o.p
theorem qn0 (o : OutM) : D.noPtrL (xe o) = true := by simp only [xe, D.noPtrL, D.noPtr, qgp, Bool.and_self]
theorem quy : ∀ l : List OutM, D.noPtrR (l.map xe) = true
 | [] => rfl
 | o :: l => by simp only [List.map_cons, D.noPtrR, qn0, quy l, Bool.and_self]
attribute [go_sem] qn0 quy
theorem qxj : KeyE (.agg [.int, .int, .int]) qxh := by
 refine ⟨fun a n b d => ?_, fun a b => rfl⟩
 cases a; cases b
 simp only [qba, qxh, x8, qg5, Pr.mk.injEq, Bool.and_true, Bool.decide_and]
 try rfl
theorem qxk : KeyE (.agg [.int, .int, .int, .int]) qxi := by
 refine ⟨fun a n b d => ?_, fun a b => rfl⟩
 obtain ⟨⟨a1, a2, a3⟩, a4⟩ := a
 obtain ⟨⟨b1, b2, b3⟩, b4⟩ := b
 simp only [qba, qxi, x8, qg5, Tk.mk.injEq, Pr.mk.injEq, Bool.and_true, Bool.decide_and, Bool.and_assoc]
 rfl
structure Brk where
 roles : Int
 sess : Int
 s : Sto
 q : MapM Pr Qu
 m : Mg
 p : List OutM
 t : MapM Tk TryM
def qmy (q : Qu) : D := .agg (encQ q)
def qmO (m : MapM Pr Qu) : AObj := .map (m.l.map (encE qxh qmy)) m.c
def tmO (m : MapM Tk TryM) : AObj := .map (m.l.map (encE qxi qlk)) m.c
def qm (b : Brk) : List ASlot := [.d (.int .i64 b.roles), .d (.int .i64 b.sess), .d (.ptr 1 0), .d (.map 3), .d (.int .i64 b.m.roles), .d (.sl 4 (b.m.ents.map qq)), .own 0 10 (b.p.map xe), .d (.map 4)]
def brO (b : Brk) : List AObj := [.row (qm b), stoO b.s 2, mapO b.s.m, qmO b.q, tmO b.t]
def afB (b b' : Brk) : Bool → List AObj
 | true => [.row (qm b'), stoO b'.s 5, mapO b.s.m, qmO b'.q, tmO b'.t, mapO b'.s.m]
 | false => [.row (qm b'), stoO b'.s 2, mapO b'.s.m, qmO b'.q, tmO b'.t, .none]
def lkQ : Option Qu → D
 | some q => qmy q
 | none => .agg [.int .i64 0, .int .i64 0, .nilsl]
def noQ : Qu := ⟨0, 0, []⟩
def Brk.queue (b : Brk) (k : Pr) : Qu := (b.q.get k).getD noQ
theorem xok (m : MapM Pr Qu) (s f t : Int) : qgf false (.d (.agg [.int .i64 0, .int .i64 0, .nilsl])) (qa5 (.agg [.int .i64 s, .int .i64 f, .int .i64 t]) (m.l.map (encE qxh qmy))) = .d (lkQ (m.get ⟨s, f, t⟩)) := by
 have := qxj.find (eV := qmy) m ⟨s, f, t⟩
 simp only [qxh] at this
 rw [this]
 cases m.get ⟨s, f, t⟩ <;> rfl
theorem xkk (m : MapM Pr Qu) (s f t : Int) : keyFit (.agg [.int, .int, .int]) (.agg [.int .i64 s, .int .i64 f, .int .i64 t]) (m.l.map (encE qxh qmy)) = true := qxj.keyFit ⟨s, f, t⟩ m.l
theorem xte (m : MapM Pr Qu) (s f t : Int) (q : Qu) : qhb (.agg [.int .i64 s, .int .i64 f, .int .i64 t]) (.agg [.int .i64 q.acc, .int .i64 q.cons, .sl 9 (q.items.map qe)]) m.c (m.l.map (encE qxh qmy)) = (m.put ⟨s, f, t⟩ q).l.map (encE qxh qmy) := qxj.put (eV := qmy) m ⟨s, f, t⟩ q
theorem xfe (m : MapM Pr Qu) (s f t : Int) (q : Qu) : qb3 (.agg [.int .i64 s, .int .i64 f, .int .i64 t]) m.c (m.l.map (encE qxh qmy)) = (m.put ⟨s, f, t⟩ q).c := qxj.clock (eV := qmy) m ⟨s, f, t⟩ q
theorem xol (m : MapM Tk TryM) (s f t n : Int) : qgf true (.d (.agg [.int .i64 0, .int .i64 0])) (qa5 (.agg [.int .i64 s, .int .i64 f, .int .i64 t, .int .i64 n]) (m.l.map (encE qxi qlk))) =
  .tup [.d (.agg [.int .i64 ((m.get ⟨⟨s, f, t⟩, n⟩).getD ⟨0, 0⟩).count, .int .i64 ((m.get ⟨⟨s, f, t⟩, n⟩).getD ⟨0, 0⟩).next]), .d (.bool (m.get ⟨⟨s, f, t⟩, n⟩).isSome)] := by
 have := qxk.find (eV := qlk) m ⟨⟨s, f, t⟩, n⟩
 simp only [qxi] at this
 rw [this]
 cases m.get ⟨⟨s, f, t⟩, n⟩ <;> rfl
theorem xkl (m : MapM Tk TryM) (s f t n : Int) : keyFit (.agg [.int, .int, .int, .int]) (.agg [.int .i64 s, .int .i64 f, .int .i64 t, .int .i64 n]) (m.l.map (encE qxi qlk)) = true := qxk.keyFit ⟨⟨s, f, t⟩, n⟩ m.l
theorem xtf (m : MapM Tk TryM) (s f t n : Int) (c x : Int) : qhb (.agg [.int .i64 s, .int .i64 f, .int .i64 t, .int .i64 n]) (.agg [.int .i64 c, .int .i64 x]) m.c (m.l.map (encE qxi qlk)) = (m.put ⟨⟨s, f, t⟩, n⟩ ⟨c, x⟩).l.map (encE qxi qlk) := qxk.put (eV := qlk) m ⟨⟨s, f, t⟩, n⟩ ⟨c, x⟩
theorem xff (m : MapM Tk TryM) (s f t n : Int) (c x : Int) : qb3 (.agg [.int .i64 s, .int .i64 f, .int .i64 t, .int .i64 n]) m.c (m.l.map (encE qxi qlk)) = (m.put ⟨⟨s, f, t⟩, n⟩ ⟨c, x⟩).c := qxk.clock (eV := qlk) m ⟨⟨s, f, t⟩, n⟩ ⟨c, x⟩
attribute [go_sem] xok xkk xol xkl xte xtf
theorem xfg (o : Option Qu) : (lkQ o).noPtr = true := by
 cases o with
 | none => rfl
 | some q => simp only [lkQ, qmy, encQ, go_sem]
theorem qxl (o : Option Qu) : D.eqv (lkQ o) (.agg (encQ (o.getD noQ))) := by
 cases o with
 | none => exact (by simp only [lkQ, encQ, noQ, Option.getD_none, List.map_nil, go_sem])
 | some q => exact D.eqv_refl _
attribute [go_sem] xfg
end Go.Proofs.YtkcdbcbpbolgkaaGreatDoor
namespace Go.Proofs.YtkcdbcbpbolgkaaGreatDoor
open Go.Abs
noncomputable section
set_option maxRecDepth 100000
set_option linter.defProp false
def d103 := cut Tryz.prog Tryz.f103 news
@[go_sem] def E103 := ql d103
def F103 := fnC d103 follows Tryz.func103
def d192 := cut Tryz.prog Tryz.f192 news
@[go_sem] def E192 := ql d192
def F192 := fnC d192 follows Tryz.func192
def d107 := cut Tryz.prog Tryz.f107 news
@[go_sem] def E107 := ql d107
def F107 := fnC d107 follows Tryz.func107
def d20 := cut Tryz.prog Tryz.f20 news
@[go_sem] def E20 := ql d20
def F20 := fnC d20 follows Tryz.func20
def d131 := cut Tryz.prog Tryz.f131 news
@[go_sem] def E131 := ql d131
def F131 := fnC d131 follows Tryz.func131
def d64 := cut Tryz.prog Tryz.f64 news
@[go_sem] def E64 := ql d64
def F64 := fnC d64 follows Tryz.func64
end
def posB (r s : Int) : Bool := decide (r ≥ 1) && decide (r ≤ 6) && decide (s ≥ 1) && decide (s ≤ 32) && decide (IntKind.wrap .i64 (s * IntKind.wrap .i64 (IntKind.wrap .i64 (IntKind.wrap .i64 (5 * r) * IntKind.wrap .i64 (r - 1)) + 1)) ≤ 400)
theorem qr1 (r s : Int) : qg Tryz.prog 103 [.d (.int .i64 r), .d (.int .i64 s)] [] (.d (.bool (posB r s))) [] := by
 refine F103.go ?_
 try (refine ev1 @posB.eq_1 ?_; try exact True.intro)
def dig (d : Nat) : List UInt8 := [UInt8.ofNat (48 + d)]
theorem qow (d : Nat) (hd : d < 10) : qg Tryz.prog 192 [.d (.int .i64 (d : Nat))] [] (.d (.str (dig d))) [] := by
 refine F192.go ?_
 have e : ∀ d : Fin 10, (Utf8.encode (IntKind.i32.wrap (IntKind.i64.wrap (48 + ((d.val : Nat) : Int))))).data.toList = [UInt8.ofNat (48 + d.val)] := by decide
 have e := e ⟨d, hd⟩
 simp only at e
 try (refine ev2 @dig.eq_1 @e ?_; try exact True.intro)
def js (s f t : Nat) : List UInt8 := [113, 47] ++ dig (s / 10) ++ dig (s % 10) ++ [47] ++ dig f ++ [47] ++ dig t
theorem xom (s f t : Nat) (hs : s < 100) (hf : f < 10) (ht : t < 10) : qg Tryz.prog 107 [.d (.agg [.int .i64 (s : Nat), .int .i64 (f : Nat), .int .i64 (t : Nat)])] [] (.d (.str (js s f t))) [] := by
 have w1 : IntKind.i64.wrap ((s : Int).tdiv 10) = ((s / 10 : Nat) : Int) := by rw [show ((s : Int).tdiv 10) = ((s / 10 : Nat) : Int) from by rw [Int.tdiv_eq_ediv_of_nonneg (by omega)]; rfl]; exact wrap_i64 (by omega) (by omega)
 have w2 : IntKind.i64.wrap ((s : Int).tmod 10) = ((s % 10 : Nat) : Int) := by rw [show ((s : Int).tmod 10) = ((s % 10 : Nat) : Int) from by rw [Int.tmod_eq_emod_of_nonneg (by omega)]; rfl]; exact wrap_i64 (by omega) (by omega)
 have k1 := qow (s / 10) (by omega)
 have k2 := qow (s % 10) (by omega)
 have k3 := qow f hf
 have k4 := qow t ht
 refine F107.go ?_
 simp only [dig] at k1 k2 k3 k4
 try (refine ev1 @w1 ?_; try exact True.intro)
 (repeat (with_reducible refine ob ?_)); first | refine cl F192 (k1) ?_ | refine clF F192 (k1) (fun _ => by (refine ev4 @qe.eq_1 @encQ.eq_1 @qx.eq_1 @xe.eq_1 ?_; try exact True.intro)) ?_
 try (refine ev1 @w2 ?_; try exact True.intro)
 (repeat (with_reducible refine ob ?_)); first | refine cl F192 (k2) ?_ | refine clF F192 (k2) (fun _ => by (refine ev4 @qe.eq_1 @encQ.eq_1 @qx.eq_1 @xe.eq_1 ?_; try exact True.intro)) ?_
 try (refine ev ?_; try exact True.intro)
 (repeat (with_reducible refine ob ?_)); first | refine cl F192 (k3) ?_ | refine clF F192 (k3) (fun _ => by (refine ev4 @qe.eq_1 @encQ.eq_1 @qx.eq_1 @xe.eq_1 ?_; try exact True.intro)) ?_
 try (refine ev ?_; try exact True.intro)
 (repeat (with_reducible refine ob ?_)); first | refine cl F192 (k4) ?_ | refine clF F192 (k4) (fun _ => by (refine ev4 @qe.eq_1 @encQ.eq_1 @qx.eq_1 @xe.eq_1 ?_; try exact True.intro)) ?_
 try (refine ev2 @js.eq_1 @dig.eq_1 ?_; try exact True.intro)
def vl (p : Pk) : Pk := ⟨2, p.sess, 0, p.from_, p.to, p.seq, 0, [], []⟩
def noPk : Pk := ⟨0, 0, 0, 0, 0, 0, 0, [], []⟩
def qha (p : Pk) : Pk × Int := if !(p.kind == 1) || !qj p then (noPk, 1) else (vl p, 0)
theorem q69 (p : Pk) (hp : p.Sm) : qg Tryz.prog 20 [.d (.agg (qe p))] [] (.tup [.d (.agg (qe (qha p).1)), .d (.int .i64 (qha p).2)]) [] := by
 refine F20.goT ?_
 try (refine ev1 @qe.eq_1 ?_; try exact True.intro)
 cases hk : (p.kind == 1) with
 | false =>
  have hb : (p.kind != 1) = true := by simpa using hk
  have hx : qha p = (noPk, 1) := by unfold qha; rw [hk]; rfl
  try (refine ev1 @hb ?_; try exact True.intro)
  (repeat (with_reducible refine ob ?_)); refine xcf ?_
  try (refine ev ?_; try exact True.intro)
  (repeat (with_reducible refine ob ?_)); refine qck ?_
  try (refine ev3 @hx @noPk.eq_1 @List.map_nil.{0,0} ?_; try exact True.intro)
 | true =>
  have hb : (p.kind != 1) = false := by simpa using hk
  try (refine ev1 @hb ?_; try exact True.intro)
  (repeat (with_reducible refine ob ?_)); first | refine cl F70 (zr p hp.v hp.c) ?_ | refine clF F70 (zr p hp.v hp.c) (fun _ => by (refine ev4 @qe.eq_1 @encQ.eq_1 @qx.eq_1 @xe.eq_1 ?_; try exact True.intro)) ?_
  try (refine ev ?_; try exact True.intro)
  (repeat (with_reducible refine ob ?_)); refine xq _ (fun h => ?_) (fun h => ?_)
  ·have hx : qha p = (noPk, 1) := by unfold qha; rw [if_pos (by simp [h])]
   try (refine ev3 @hx @noPk.eq_1 @List.map_nil.{0,0} ?_; try exact True.intro)
  ·have hx : qha p = (vl p, 0) := by unfold qha; rw [if_neg (by simp [hk, h])]
   try (refine ev3 @hx @vl.eq_1 @List.map_nil.{0,0} ?_; try exact True.intro)
def qd4 (c : Int) : Int := if c < 1 then 0 else if c = 1 then 8 else if c = 2 then 16 else if c = 3 then 32 else 64
theorem q4z (c : Int) (hc : c ≤ 1000000) : qg Tryz.prog 131 [.d (.int .i64 c)] [] (.d (.int .i64 (qd4 c))) [] := by
 refine F131.go ?_
 try (refine ev ?_; try exact True.intro)
 (repeat (with_reducible refine ob ?_)); refine xq _ (fun h => ?_) (fun h => ?_)
 ·have hx : qd4 c = 0 := by unfold qd4; rw [if_pos (by simpa using h)]
  try (refine ev1 @hx ?_; try exact True.intro)
 ·have h0 : ¬ c < 1 := by simpa using h
  have hw : IntKind.i64.wrap (c - 1) = c - 1 := wrap_i64 (by omega) (by omega)
  try (refine ev1 @hw ?_; try exact True.intro)
  refine ⟨by split <;> omega, ?_⟩
  by_cases h1 : c = 1
  ·subst h1; decide
  by_cases h2 : c = 2
  ·subst h2; decide
  by_cases h3 : c = 3
  ·subst h3; decide
  by_cases h4 : c = 4
  ·subst h4; decide
  ·unfold qd4
   rw [if_neg h0, if_neg h1, if_neg h2, if_neg h3, if_pos (by omega)]
   decide
theorem xkm (b : Brk) : qg Tryz.prog 64 [.d (.ptr 0 0)] (brO b) (.d (.func (.func 130) [] [.ptr 5 0])) (brO b ++ [.row [.d (.ptr 0 0)]]) := by
 refine F64.go ?_
 try (refine ev6 @brO.eq_1 @qm.eq_1 @stoO.eq_1 @mapO.eq_1 @qmO.eq_1 @tmO.eq_1 ?_; try exact True.intro)
end Go.Proofs.YtkcdbcbpbolgkaaGreatDoor
namespace Go.Proofs.YtkcdbcbpbolgkaaGreatDoor
open Go.Abs
attribute [-go_sem] qgf
noncomputable section
set_option maxRecDepth 100000
set_option linter.defProp false
def xrs := cut Tryz.prog Tryz.f139 news [] [] true
@[go_sem] def xum := ql xrs
def xfh := fnC xrs follows Tryz.func139
def xrt := cut Tryz.prog Tryz.f102 news [] [] true
@[go_sem] def xun := ql xrt
def xfi := fnC xrt follows Tryz.func102
end
def qaf (b : Brk) (k : Pr) (name : List UInt8) (next : Qu) : Brk × Int × Bool :=
 if (vh (b.queue k) next name).2 ≠ 0 then (b, (vh (b.queue k) next name).2, false)
 else if (vh (b.queue k) next name).1 = [] then ({ b with q := b.q.put k next }, 0, false)
 else if (xg b.s (vh (b.queue k) next name).1).2 ≠ 0 then (b, (xg b.s (vh (b.queue k) next name).1).2, false)
 else ({ b with s := (xg b.s (vh (b.queue k) next name).1).1, q := b.q.put k next }, 0, true)
set_option maxRecDepth 10000 in
theorem qr2 (b : Brk) (s f t : Nat) (next : Qu) (hs : s < 100) (hf : f < 10) (ht : t < 10) (h1 : (b.queue ⟨s, f, t⟩).Sm) (h2 : (b.queue ⟨s, f, t⟩).W) (h3 : next.Sm) (h4 : next.W) (hF : b.s.file.length ≤ 100000000)
  (hl : (vh (b.queue ⟨s, f, t⟩) next (js s f t)).1.length ≤ 100000) :
  qg Tryz.prog 139 [.d (.ptr 0 0), .d (.agg [.int .i64 (s : Nat), .int .i64 (f : Nat), .int .i64 (t : Nat)]), .d (.agg (encQ next))] (brO b) (.d (.int .i64 (qaf b ⟨s, f, t⟩ (js s f t) next).2.1)) (afB b (qaf b ⟨s, f, t⟩ (js s f t) next).1 (qaf b ⟨s, f, t⟩ (js s f t) next).2.2) := by
 have kn := xom s f t hs hf ht
 have kc := q33 (b.queue ⟨s, f, t⟩) next (js s f t) h1 h2 h3 h4 (by simp [js, dig])
 have kq := qxl (b.q.get ⟨s, f, t⟩)
 simp only [encQ] at kc
 generalize hR : qaf b ⟨s, f, t⟩ (js s f t) next = R
 unfold qaf at hR
 refine xfh.go ?_
 try (refine ev7 @brO.eq_1 @qm.eq_1 @stoO.eq_1 @mapO.eq_1 @qmO.eq_1 @tmO.eq_1 @encQ.eq_1 ?_; try exact True.intro)
 (repeat (with_reducible refine ob ?_)); first | refine cl F107 (kn) ?_ | refine clF F107 (kn) (fun _ => by (refine ev3 @qe.eq_1 @xe.eq_1 @qo.eq_1 ?_; try exact True.intro)) ?_
 try (refine ev ?_; try exact True.intro)
 (repeat (with_reducible refine ob ?_)); refine clF F223 (kc) (fun hg => by exact ⟨kq, qc, qc, trivial⟩) ?_
 generalize vh (b.queue ⟨s, f, t⟩) next (js s f t) = C at hR hl ⊢
 obtain ⟨l, e⟩ := C
 simp only at hR hl ⊢
 try (refine ev ?_; try exact True.intro)
 by_cases he : e = 0
 ·subst he
  rw [if_neg (by simp)] at hR
  by_cases h0 : l = []
  ·subst h0
   rw [if_pos rfl] at hR
   subst hR
   try simp only [List.length_map, List.length_nil, List.map_nil, go_sem, Nat.reduceAdd, Nat.reduceMul, Nat.reduceSub, Nat.reduceEqDiff, Nat.reduceLT, Nat.reduceLeDiff, Nat.reduceBEq, reduceIte, reduceCtorEq, Int.reduceAdd, Int.reduceLT, Int.reduceLE, Int.reduceGT, Int.reduceGE, Int.reduceEq, Int.reduceNe, Int.reduceBEq, Int.reduceBNe, Int.reduceToNat, Int.reduceNeg]
   (repeat (with_reducible refine ob ?_)); refine no_ ?_
   try (refine ev ?_; try exact True.intro)
   (repeat (with_reducible refine ob ?_)); refine qck ?_
   try simp only [xfe _ _ _ _ next, go_sem, Nat.reduceAdd, Nat.reduceMul, Nat.reduceSub, Nat.reduceEqDiff, Nat.reduceLT, Nat.reduceLeDiff, Nat.reduceBEq, reduceIte, reduceCtorEq, Int.reduceAdd, Int.reduceLT, Int.reduceLE, Int.reduceGT, Int.reduceGE, Int.reduceEq, Int.reduceNe, Int.reduceBEq, Int.reduceBNe, Int.reduceToNat, Int.reduceNeg]
   refine pu ?_
   try simp only [afB, qm, mapO, stoO, qmO, tmO, go_sem, Nat.reduceAdd, Nat.reduceMul, Nat.reduceSub, Nat.reduceEqDiff, Nat.reduceLT, Nat.reduceLeDiff, Nat.reduceBEq, reduceIte, reduceCtorEq, Int.reduceAdd, Int.reduceLT, Int.reduceLE, Int.reduceGT, Int.reduceGE, Int.reduceEq, Int.reduceNe, Int.reduceBEq, Int.reduceBNe, Int.reduceToNat, Int.reduceNeg]
  ·rw [if_neg h0] at hR
   have hd : decide ((l.length : Int) > 0) = true := by
    have := List.length_pos_iff.2 h0
    simp only [decide_eq_true_eq]; omega
   have kk := qks b.s l hl hF
   try (refine ev2 @List.length_map.{0,0} @hd ?_; try exact True.intro)
   (repeat (with_reducible refine ob ?_)); refine qck ?_
   try (refine ev ?_; try exact True.intro)
   by_cases hc : (xg b.s l).2 = 0
   ·rw [if_neg (by simp [hc])] at hR
    subst hR
    have ha : qc8 b.s l = [stoO (xg b.s l).1 2, mapO b.s.m, mapO (xg b.s l).1.m] := by unfold qc8; rw [if_pos hc]
    rw [ha, hc] at kk
    simp only [stoO, mapO] at kk
    generalize (xg b.s l).1 = s' at kk ⊢
    (repeat (with_reducible refine ob ?_)); refine clO [1, 2, 7] F29 (kk) ?_ (hfit := by first | exact ⟨qc, trivial⟩ | exact ⟨qc, qc, trivial⟩ | (refine ev3 @qe.eq_1 @xe.eq_1 @qo.eq_1 ?_; try exact True.intro))
    try (refine ev ?_; try exact True.intro)
    (repeat (with_reducible refine ob ?_)); refine qck ?_
    try simp only [xfe _ _ _ _ next, go_sem, Nat.reduceAdd, Nat.reduceMul, Nat.reduceSub, Nat.reduceEqDiff, Nat.reduceLT, Nat.reduceLeDiff, Nat.reduceBEq, reduceIte, reduceCtorEq, Int.reduceAdd, Int.reduceLT, Int.reduceLE, Int.reduceGT, Int.reduceGE, Int.reduceEq, Int.reduceNe, Int.reduceBEq, Int.reduceBNe, Int.reduceToNat, Int.reduceNeg]
    refine qbc [0, 1, 2, 3, 4, 6, 7, 5] [.row (qm b), stoO s' 5, mapO b.s.m, qmO (b.q.put ⟨s, f, t⟩ next), tmO b.t, mapO s'.m, .row [.d (.int .i64 s), .d (.int .i64 f), .d (.int .i64 t)], .row [.d (.int .i64 next.acc), .d (.int .i64 next.cons), .d (.sl 9 (next.items.map qe))]] ?_ (by try (refine ev5 @qm.eq_1 @mapO.eq_1 @stoO.eq_1 @qmO.eq_1 @tmO.eq_1 ?_; try exact True.intro)) (hp := rfl)
    refine pu ?_
    try simp only [afB, qm, mapO, stoO, qmO, tmO, go_sem, Nat.reduceAdd, Nat.reduceMul, Nat.reduceSub, Nat.reduceEqDiff, Nat.reduceLT, Nat.reduceLeDiff, Nat.reduceBEq, reduceIte, reduceCtorEq, Int.reduceAdd, Int.reduceLT, Int.reduceLE, Int.reduceGT, Int.reduceGE, Int.reduceEq, Int.reduceNe, Int.reduceBEq, Int.reduceBNe, Int.reduceToNat, Int.reduceNeg]
   ·rw [if_pos hc] at hR
    subst hR
    have ha : qc8 b.s l = [stoO b.s 1, mapO b.s.m, .none] := by unfold qc8; rw [if_neg hc]
    rw [ha] at kk
    have hb : ((xg b.s l).2 == 0) = false := by simpa using hc
    simp only [stoO, mapO] at kk
    (repeat (with_reducible refine ob ?_)); refine clO [1, 2, 7] F29 (kk) ?_ (hfit := by first | exact ⟨qc, trivial⟩ | exact ⟨qc, qc, trivial⟩ | (refine ev3 @qe.eq_1 @xe.eq_1 @qo.eq_1 ?_; try exact True.intro))
    try (refine ev1 @hb ?_; try exact True.intro)
    (repeat (with_reducible refine ob ?_)); refine no_ ?_
    try (refine ev ?_; try exact True.intro)
    refine pu ?_
    try simp only [afB, qm, mapO, stoO, qmO, tmO, go_sem, Nat.reduceAdd, Nat.reduceMul, Nat.reduceSub, Nat.reduceEqDiff, Nat.reduceLT, Nat.reduceLeDiff, Nat.reduceBEq, reduceIte, reduceCtorEq, Int.reduceAdd, Int.reduceLT, Int.reduceLE, Int.reduceGT, Int.reduceGE, Int.reduceEq, Int.reduceNe, Int.reduceBEq, Int.reduceBNe, Int.reduceToNat, Int.reduceNeg]
 ·rw [if_pos he] at hR
  subst hR
  have hb : (e == 0) = false := by simpa using he
  try (refine ev1 @hb ?_; try exact True.intro)
  (repeat (with_reducible refine ob ?_)); refine no_ ?_
  try (refine ev1 @hb ?_; try exact True.intro)
  (repeat (with_reducible refine ob ?_)); refine no_ ?_
  try (refine ev ?_; try exact True.intro)
  refine pu ?_
  try simp only [afB, qm, stoO, mapO, qmO, tmO, go_sem, Nat.reduceAdd, Nat.reduceMul, Nat.reduceSub, Nat.reduceEqDiff, Nat.reduceLT, Nat.reduceLeDiff, Nat.reduceBEq, reduceIte, reduceCtorEq, Int.reduceAdd, Int.reduceLT, Int.reduceLE, Int.reduceGT, Int.reduceGE, Int.reduceEq, Int.reduceNe, Int.reduceBEq, Int.reduceBNe, Int.reduceToNat, Int.reduceNeg]
def qci (b : Brk) (next : Mg) : Brk × Int × Bool :=
 if (zy b.m next).2 ≠ 0 then (b, (zy b.m next).2, false)
 else if (zy b.m next).1 = [] then ({ b with m := next }, 0, false)
 else if (xg b.s (zy b.m next).1).2 ≠ 0 then (b, (xg b.s (zy b.m next).1).2, false)
 else ({ b with s := (xg b.s (zy b.m next).1).1, m := next }, 0, true)
set_option maxRecDepth 10000 in
theorem q1x (b : Brk) (next : Mg) (h1 : b.m.Sm) (h2 : next.Sm) (hF : b.s.file.length ≤ 100000000) (hl : (zy b.m next).1.length ≤ 100000) :
  qg Tryz.prog 102 [.d (.ptr 0 0), .d (.agg (qx next))] (brO b) (.d (.int .i64 (qci b next).2.1)) (afB b (qci b next).1 (qci b next).2.2) := by
 have kc := xad b.m next h1 h2
 simp only [qx] at kc
 generalize hR : qci b next = R
 unfold qci at hR
 refine xfi.go ?_
 try (refine ev7 @brO.eq_1 @qm.eq_1 @stoO.eq_1 @mapO.eq_1 @qmO.eq_1 @tmO.eq_1 @qx.eq_1 ?_; try exact True.intro)
 (repeat (with_reducible refine ob ?_)); first | refine cl F25 (kc) ?_ | refine clF F25 (kc) (fun _ => by (refine ev3 @qe.eq_1 @xe.eq_1 @qo.eq_1 ?_; try exact True.intro)) ?_
 generalize zy b.m next = C at hR hl ⊢
 obtain ⟨l, e⟩ := C
 simp only at hR hl ⊢
 try (refine ev ?_; try exact True.intro)
 by_cases he : e = 0
 ·subst he
  rw [if_neg (by simp)] at hR
  by_cases h0 : l = []
  ·subst h0
   rw [if_pos rfl] at hR
   subst hR
   try simp only [List.length_map, List.length_nil, List.map_nil, go_sem, Nat.reduceAdd, Nat.reduceMul, Nat.reduceSub, Nat.reduceEqDiff, Nat.reduceLT, Nat.reduceLeDiff, Nat.reduceBEq, reduceIte, reduceCtorEq, Int.reduceAdd, Int.reduceLT, Int.reduceLE, Int.reduceGT, Int.reduceGE, Int.reduceEq, Int.reduceNe, Int.reduceBEq, Int.reduceBNe, Int.reduceToNat, Int.reduceNeg]
   (repeat (with_reducible refine ob ?_)); refine no_ ?_
   try (refine ev ?_; try exact True.intro)
   (repeat (with_reducible refine ob ?_)); refine qck ?_
   try (refine ev ?_; try exact True.intro)
   refine pu ?_
   try simp only [afB, qm, mapO, stoO, qmO, tmO, go_sem, Nat.reduceAdd, Nat.reduceMul, Nat.reduceSub, Nat.reduceEqDiff, Nat.reduceLT, Nat.reduceLeDiff, Nat.reduceBEq, reduceIte, reduceCtorEq, Int.reduceAdd, Int.reduceLT, Int.reduceLE, Int.reduceGT, Int.reduceGE, Int.reduceEq, Int.reduceNe, Int.reduceBEq, Int.reduceBNe, Int.reduceToNat, Int.reduceNeg]
  ·rw [if_neg h0] at hR
   have hd : decide ((l.length : Int) > 0) = true := by
    have := List.length_pos_iff.2 h0
    simp only [decide_eq_true_eq]; omega
   have kk := qks b.s l hl hF
   try (refine ev2 @List.length_map.{0,0} @hd ?_; try exact True.intro)
   (repeat (with_reducible refine ob ?_)); refine qck ?_
   try (refine ev ?_; try exact True.intro)
   by_cases hc : (xg b.s l).2 = 0
   ·rw [if_neg (by simp [hc])] at hR
    subst hR
    have ha : qc8 b.s l = [stoO (xg b.s l).1 2, mapO b.s.m, mapO (xg b.s l).1.m] := by unfold qc8; rw [if_pos hc]
    rw [ha, hc] at kk
    simp only [stoO, mapO] at kk
    generalize (xg b.s l).1 = s' at kk ⊢
    (repeat (with_reducible refine ob ?_)); refine clO [1, 2, 6] F29 (kk) ?_ (hfit := by first | exact ⟨qc, trivial⟩ | exact ⟨qc, qc, trivial⟩ | (refine ev3 @qe.eq_1 @xe.eq_1 @qo.eq_1 ?_; try exact True.intro))
    try (refine ev ?_; try exact True.intro)
    (repeat (with_reducible refine ob ?_)); refine qck ?_
    try (refine ev ?_; try exact True.intro)
    refine qbc [0, 1, 2, 3, 4, 6, 5] [.row (qm { b with m := next }), stoO s' 5, mapO b.s.m, qmO b.q, tmO b.t, mapO s'.m, .row [.d (.int .i64 next.roles), .d (.sl 4 (next.ents.map qq))]] ?_ (by try (refine ev5 @qm.eq_1 @mapO.eq_1 @stoO.eq_1 @qmO.eq_1 @tmO.eq_1 ?_; try exact True.intro)) (hp := rfl)
    refine pu ?_
    try simp only [afB, qm, mapO, stoO, qmO, tmO, go_sem, Nat.reduceAdd, Nat.reduceMul, Nat.reduceSub, Nat.reduceEqDiff, Nat.reduceLT, Nat.reduceLeDiff, Nat.reduceBEq, reduceIte, reduceCtorEq, Int.reduceAdd, Int.reduceLT, Int.reduceLE, Int.reduceGT, Int.reduceGE, Int.reduceEq, Int.reduceNe, Int.reduceBEq, Int.reduceBNe, Int.reduceToNat, Int.reduceNeg]
   ·rw [if_pos hc] at hR
    subst hR
    have ha : qc8 b.s l = [stoO b.s 1, mapO b.s.m, .none] := by unfold qc8; rw [if_neg hc]
    rw [ha] at kk
    have hb : ((xg b.s l).2 == 0) = false := by simpa using hc
    simp only [stoO, mapO] at kk
    (repeat (with_reducible refine ob ?_)); refine clO [1, 2, 6] F29 (kk) ?_ (hfit := by first | exact ⟨qc, trivial⟩ | exact ⟨qc, qc, trivial⟩ | (refine ev3 @qe.eq_1 @xe.eq_1 @qo.eq_1 ?_; try exact True.intro))
    try (refine ev1 @hb ?_; try exact True.intro)
    (repeat (with_reducible refine ob ?_)); refine no_ ?_
    try (refine ev ?_; try exact True.intro)
    refine pu ?_
    try simp only [afB, qm, mapO, stoO, qmO, tmO, go_sem, Nat.reduceAdd, Nat.reduceMul, Nat.reduceSub, Nat.reduceEqDiff, Nat.reduceLT, Nat.reduceLeDiff, Nat.reduceBEq, reduceIte, reduceCtorEq, Int.reduceAdd, Int.reduceLT, Int.reduceLE, Int.reduceGT, Int.reduceGE, Int.reduceEq, Int.reduceNe, Int.reduceBEq, Int.reduceBNe, Int.reduceToNat, Int.reduceNeg]
 ·rw [if_pos he] at hR
  subst hR
  have hb : (e == 0) = false := by simpa using he
  try (refine ev1 @hb ?_; try exact True.intro)
  (repeat (with_reducible refine ob ?_)); refine no_ ?_
  try (refine ev1 @hb ?_; try exact True.intro)
  (repeat (with_reducible refine ob ?_)); refine no_ ?_
  try (refine ev ?_; try exact True.intro)
  refine pu ?_
  try simp only [afB, qm, stoO, mapO, qmO, tmO, go_sem, Nat.reduceAdd, Nat.reduceMul, Nat.reduceSub, Nat.reduceEqDiff, Nat.reduceLT, Nat.reduceLeDiff, Nat.reduceBEq, reduceIte, reduceCtorEq, Int.reduceAdd, Int.reduceLT, Int.reduceLE, Int.reduceGT, Int.reduceGE, Int.reduceEq, Int.reduceNe, Int.reduceBEq, Int.reduceBNe, Int.reduceToNat, Int.reduceNeg]
end Go.Proofs.YtkcdbcbpbolgkaaGreatDoor
namespace Go.Proofs.YtkcdbcbpbolgkaaGreatDoor
open Go.Abs
attribute [-go_sem] qgf
noncomputable section
set_option maxRecDepth 100000
set_option linter.defProp false
def d72d := cut Tryz.prog Tryz.f72 news [33] [] true
@[go_sem] def E72d := ql d72d
def F72d := fnC d72d follows Tryz.func72
def d73d := cut Tryz.prog Tryz.f73 news [21] [] true
@[go_sem] def E73d := ql d73d
def F73d := fnC d73d follows Tryz.func73
def d41d := cut Tryz.prog Tryz.f41 news [35] [] true
@[go_sem] def E41d := ql d41d
def F41d := fnC d41d follows Tryz.func41
end
def xn (b : Brk) (t : Nat) : List ASlot := [.d (.int .i64 b.roles), .d (.int .i64 b.sess), .d (.ptr 1 0), .d (.map 3), .d (.int .i64 b.m.roles), .d (.sl 4 (b.m.ents.map qq)), .own t 10 (b.p.map xe), .d (.map 4)]
def qs4 (b : Brk) (k : Pr) (name : List UInt8) (seq : Int) : Brk × Int × Bool :=
 if (xo (b.queue k) seq).2 ≠ 0 then (b, (xo (b.queue k) seq).2, false) else qaf b k name (xo (b.queue k) seq).1
set_option maxRecDepth 10000 in
theorem xkn (b : Brk) (p : Pk) (s f t : Nat) (hs : s < 100) (hf : f < 10) (ht : t < 10) (ps : p.sess = s) (pf : p.from_ = f) (pt : p.to = t) (hq : (b.queue ⟨s, f, t⟩).Sm) (hw : (b.queue ⟨s, f, t⟩).W)
  (ho : (xo (b.queue ⟨s, f, t⟩) p.seq).1.Sm) (hu : (xo (b.queue ⟨s, f, t⟩) p.seq).1.W) (hF : b.s.file.length ≤ 100000000)
  (hl : (vh (b.queue ⟨s, f, t⟩) (xo (b.queue ⟨s, f, t⟩) p.seq).1 (js s f t)).1.length ≤ 100000) :
  qg Tryz.prog 72 [.d (.ptr 0 0), .d (.agg (qe p))] (brO b) (.d (.int .i64 (qs4 b ⟨s, f, t⟩ (js s f t) p.seq).2.1)) (afB b (qs4 b ⟨s, f, t⟩ (js s f t) p.seq).1 (qs4 b ⟨s, f, t⟩ (js s f t) p.seq).2.2) := by
 have ko := q3u (b.queue ⟨s, f, t⟩) p.seq hq
 have kq := qxl (b.q.get ⟨s, f, t⟩)
 have kc := qr2 b s f t (xo (b.queue ⟨s, f, t⟩) p.seq).1 hs hf ht hq hw ho hu hF hl
 generalize hR : qs4 b ⟨s, f, t⟩ (js s f t) p.seq = R
 unfold qs4 at hR
 simp only [brO, qm, stoO, mapO, qmO, tmO, encQ] at kc
 simp only [encQ] at ko
 refine F72d.go ?_
 try simp only [brO, qm, stoO, mapO, qmO, tmO, qe, ps, pf, pt, go_sem, Nat.reduceAdd, Nat.reduceMul, Nat.reduceSub, Nat.reduceEqDiff, Nat.reduceLT, Nat.reduceLeDiff, Nat.reduceBEq, reduceIte, reduceCtorEq, Int.reduceAdd, Int.reduceLT, Int.reduceLE, Int.reduceGT, Int.reduceGE, Int.reduceEq, Int.reduceNe, Int.reduceBEq, Int.reduceBNe, Int.reduceToNat, Int.reduceNeg]
 (repeat (with_reducible refine ob ?_)); refine clF F140 (ko) (fun hg => by exact ⟨kq, qc, trivial⟩) ?_
 generalize xo (b.queue ⟨s, f, t⟩) p.seq = O at hR kc
 obtain ⟨nx, e⟩ := O
 simp only at hR kc ⊢
 try (refine ev ?_; try exact True.intro)
 by_cases he : e = 0
 ·subst he
  rw [if_neg (by simp)] at hR
  generalize qaf b ⟨s, f, t⟩ (js s f t) nx = C at hR kc
  obtain ⟨b1, e1, c⟩ := C
  subst hR
  simp only [afB, qm, stoO, mapO, qmO, tmO] at kc
  try (refine ev ?_; try exact True.intro)
  (repeat (with_reducible refine ob ?_)); refine no_ ?_
  try (refine ev ?_; try exact True.intro)
  cases c
  ·refine clT [0, 1, 2, 3, 4, 8] xfh kc ?_
   try (refine ev ?_; try exact True.intro)
   refine pu ?_
   try simp only [afB, qm, stoO, mapO, qmO, tmO, go_sem, Nat.reduceAdd, Nat.reduceMul, Nat.reduceSub, Nat.reduceEqDiff, Nat.reduceLT, Nat.reduceLeDiff, Nat.reduceBEq, reduceIte, reduceCtorEq, Int.reduceAdd, Int.reduceLT, Int.reduceLE, Int.reduceGT, Int.reduceGE, Int.reduceEq, Int.reduceNe, Int.reduceBEq, Int.reduceBNe, Int.reduceToNat, Int.reduceNeg]
  ·refine clT [0, 1, 2, 3, 4, 8] xfh kc ?_
   try (refine ev ?_; try exact True.intro)
   refine qbc [0, 1, 2, 3, 4, 6, 7, 8, 5] [.row (xn b1 512), stoO b1.s 5, mapO b.s.m, qmO b1.q, tmO b1.t, mapO b1.s.m, .row ((qe p).map .d), .row [.d (.int .i64 s), .d (.int .i64 f), .d (.int .i64 t)], .row [.d (.int .i64 nx.acc), .d (.int .i64 nx.cons), .d (.sl 9 (nx.items.map qe))]] ?_ (by try simp only [xn, mapO, stoO, qmO, tmO, qe, ps, pf, pt, go_sem, Nat.reduceAdd, Nat.reduceMul, Nat.reduceSub, Nat.reduceEqDiff, Nat.reduceLT, Nat.reduceLeDiff, Nat.reduceBEq, reduceIte, reduceCtorEq, Int.reduceAdd, Int.reduceLT, Int.reduceLE, Int.reduceGT, Int.reduceGE, Int.reduceEq, Int.reduceNe, Int.reduceBEq, Int.reduceBNe, Int.reduceToNat, Int.reduceNeg]) (hp := rfl)
   refine pu ?_
   try simp only [afB, qm, xn, stoO, mapO, qmO, tmO, go_sem, Nat.reduceAdd, Nat.reduceMul, Nat.reduceSub, Nat.reduceEqDiff, Nat.reduceLT, Nat.reduceLeDiff, Nat.reduceBEq, reduceIte, reduceCtorEq, Int.reduceAdd, Int.reduceLT, Int.reduceLE, Int.reduceGT, Int.reduceGE, Int.reduceEq, Int.reduceNe, Int.reduceBEq, Int.reduceBNe, Int.reduceToNat, Int.reduceNeg]
 ·rw [if_pos he] at hR
  subst hR
  have hb : (e != 0) = true := by simpa using he
  try (refine ev1 @hb ?_; try exact True.intro)
  (repeat (with_reducible refine ob ?_)); refine qck ?_
  try (refine ev ?_; try exact True.intro)
  refine pu ?_
  try simp only [afB, qm, stoO, mapO, qmO, tmO, go_sem, Nat.reduceAdd, Nat.reduceMul, Nat.reduceSub, Nat.reduceEqDiff, Nat.reduceLT, Nat.reduceLeDiff, Nat.reduceBEq, reduceIte, reduceCtorEq, Int.reduceAdd, Int.reduceLT, Int.reduceLE, Int.reduceGT, Int.reduceGE, Int.reduceEq, Int.reduceNe, Int.reduceBEq, Int.reduceBNe, Int.reduceToNat, Int.reduceNeg]
def qfk (b : Brk) (p : Pk) : Brk × Int × Bool :=
 if (xl b.m p).2 ≠ 0 then (b, (xl b.m p).2, false) else qci b (xl b.m p).1
set_option maxRecDepth 10000 in
theorem qr3 (b : Brk) (p : Pk) (hp : p.Sm) (h1 : b.m.Sm) (h2 : (xl b.m p).1.Sm) (hF : b.s.file.length ≤ 100000000) (hl : (zy b.m (xl b.m p).1).1.length ≤ 100000) :
  qg Tryz.prog 73 [.d (.ptr 0 0), .d (.agg (qe p))] (brO b) (.d (.int .i64 (qfk b p).2.1)) (afB b (qfk b p).1 (qfk b p).2.2) := by
 have ko := qjt b.m p h1 hp
 have kc := q1x b (xl b.m p).1 h1 h2 hF hl
 generalize hR : qfk b p = R
 unfold qfk at hR
 simp only [brO, qm, stoO, mapO, qmO, tmO, qx] at kc
 simp only [qx] at ko
 refine F73d.go ?_
 try (refine ev7 @brO.eq_1 @qm.eq_1 @stoO.eq_1 @mapO.eq_1 @qmO.eq_1 @tmO.eq_1 @qe.eq_1 ?_; try exact True.intro)
 (repeat (with_reducible refine ob ?_)); first | refine cl F75b (ko) ?_ | refine clF F75b (ko) (fun _ => by (refine ev3 @qe.eq_1 @xe.eq_1 @qo.eq_1 ?_; try exact True.intro)) ?_
 generalize xl b.m p = O at hR kc
 obtain ⟨nx, e⟩ := O
 simp only at hR kc ⊢
 try (refine ev ?_; try exact True.intro)
 by_cases he : e = 0
 ·subst he
  rw [if_neg (by simp)] at hR
  generalize qci b nx = C at hR kc
  obtain ⟨b1, e1, c⟩ := C
  subst hR
  simp only [afB, qm, stoO, mapO, qmO, tmO] at kc
  try (refine ev ?_; try exact True.intro)
  (repeat (with_reducible refine ob ?_)); refine no_ ?_
  try (refine ev ?_; try exact True.intro)
  cases c
  ·refine clT [0, 1, 2, 3, 4, 7] xfi kc ?_
   try (refine ev ?_; try exact True.intro)
   refine pu ?_
   try simp only [afB, qm, stoO, mapO, qmO, tmO, go_sem, Nat.reduceAdd, Nat.reduceMul, Nat.reduceSub, Nat.reduceEqDiff, Nat.reduceLT, Nat.reduceLeDiff, Nat.reduceBEq, reduceIte, reduceCtorEq, Int.reduceAdd, Int.reduceLT, Int.reduceLE, Int.reduceGT, Int.reduceGE, Int.reduceEq, Int.reduceNe, Int.reduceBEq, Int.reduceBNe, Int.reduceToNat, Int.reduceNeg]
  ·refine clT [0, 1, 2, 3, 4, 7] xfi kc ?_
   try (refine ev ?_; try exact True.intro)
   refine qbc [0, 1, 2, 3, 4, 6, 7, 5] [.row (xn b1 304), stoO b1.s 5, mapO b.s.m, qmO b1.q, tmO b1.t, mapO b1.s.m, .row ((qe p).map .d), .row [.d (.int .i64 nx.roles), .d (.sl 4 (nx.ents.map qq))]] ?_ (by try (refine ev6 @xn.eq_1 @mapO.eq_1 @stoO.eq_1 @qmO.eq_1 @tmO.eq_1 @qe.eq_1 ?_; try exact True.intro)) (hp := rfl)
   refine pu ?_
   try simp only [afB, qm, xn, stoO, mapO, qmO, tmO, go_sem, Nat.reduceAdd, Nat.reduceMul, Nat.reduceSub, Nat.reduceEqDiff, Nat.reduceLT, Nat.reduceLeDiff, Nat.reduceBEq, reduceIte, reduceCtorEq, Int.reduceAdd, Int.reduceLT, Int.reduceLE, Int.reduceGT, Int.reduceGE, Int.reduceEq, Int.reduceNe, Int.reduceBEq, Int.reduceBNe, Int.reduceToNat, Int.reduceNeg]
 ·rw [if_pos he] at hR
  subst hR
  have hb : (e != 0) = true := by simpa using he
  try (refine ev1 @hb ?_; try exact True.intro)
  (repeat (with_reducible refine ob ?_)); refine qck ?_
  try (refine ev ?_; try exact True.intro)
  refine pu ?_
  try simp only [afB, qm, stoO, mapO, qmO, tmO, go_sem, Nat.reduceAdd, Nat.reduceMul, Nat.reduceSub, Nat.reduceEqDiff, Nat.reduceLT, Nat.reduceLeDiff, Nat.reduceBEq, reduceIte, reduceCtorEq, Int.reduceAdd, Int.reduceLT, Int.reduceLE, Int.reduceGT, Int.reduceGE, Int.reduceEq, Int.reduceNe, Int.reduceBEq, Int.reduceBNe, Int.reduceToNat, Int.reduceNeg]
def qbn (b : Brk) (s : Int) : Brk × Int × Bool :=
 if decide (s < 1) || decide (s > b.sess) then (b, 2, false)
 else if (zx b.m s).2 ≠ 0 then (b, (zx b.m s).2, false) else qci b (zx b.m s).1
set_option maxRecDepth 10000 in
theorem quz (b : Brk) (s : Int) (h1 : b.m.Sm) (h2 : (zx b.m s).1.Sm) (hF : b.s.file.length ≤ 100000000) (hl : (zy b.m (zx b.m s).1).1.length ≤ 100000) :
  qg Tryz.prog 41 [.d (.ptr 0 0), .d (.int .i64 s)] (brO b) (.d (.int .i64 (qbn b s).2.1)) (afB b (qbn b s).1 (qbn b s).2.2) := by
 have ko := quu b.m s h1
 have kc := q1x b (zx b.m s).1 h1 h2 hF hl
 generalize hR : qbn b s = R
 unfold qbn at hR
 simp only [brO, qm, stoO, mapO, qmO, tmO, qx] at kc
 simp only [qx] at ko
 refine F41d.go ?_
 try (refine ev6 @brO.eq_1 @qm.eq_1 @stoO.eq_1 @mapO.eq_1 @qmO.eq_1 @tmO.eq_1 ?_; try exact True.intro)
 (repeat (with_reducible refine ob ?_)); refine no_ ?_
 try (refine ev ?_; try exact True.intro)
 (repeat (with_reducible refine ob ?_)); refine xq _ (fun h => ?_) (fun h => ?_)
 ·rw [if_pos h] at hR
  subst hR
  try (refine ev ?_; try exact True.intro)
  refine pu ?_
  try simp only [afB, qm, stoO, mapO, qmO, tmO, go_sem, Nat.reduceAdd, Nat.reduceMul, Nat.reduceSub, Nat.reduceEqDiff, Nat.reduceLT, Nat.reduceLeDiff, Nat.reduceBEq, reduceIte, reduceCtorEq, Int.reduceAdd, Int.reduceLT, Int.reduceLE, Int.reduceGT, Int.reduceGE, Int.reduceEq, Int.reduceNe, Int.reduceBEq, Int.reduceBNe, Int.reduceToNat, Int.reduceNeg]
 rw [if_neg (by simp [h])] at hR
 try (refine ev ?_; try exact True.intro)
 (repeat (with_reducible refine ob ?_)); first | refine cl F74b (ko) ?_ | refine clF F74b (ko) (fun _ => by (refine ev3 @qe.eq_1 @xe.eq_1 @qo.eq_1 ?_; try exact True.intro)) ?_
 generalize zx b.m s = O at hR kc
 obtain ⟨nx, e⟩ := O
 simp only at hR kc ⊢
 try (refine ev ?_; try exact True.intro)
 by_cases he : e = 0
 ·subst he
  rw [if_neg (by simp)] at hR
  generalize qci b nx = C at hR kc
  obtain ⟨b1, e1, c⟩ := C
  subst hR
  simp only [afB, qm, stoO, mapO, qmO, tmO] at kc
  try (refine ev ?_; try exact True.intro)
  (repeat (with_reducible refine ob ?_)); refine no_ ?_
  try (refine ev ?_; try exact True.intro)
  cases c
  ·refine clT [0, 1, 2, 3, 4, 6] xfi kc ?_
   try (refine ev ?_; try exact True.intro)
   refine pu ?_
   try simp only [afB, qm, stoO, mapO, qmO, tmO, go_sem, Nat.reduceAdd, Nat.reduceMul, Nat.reduceSub, Nat.reduceEqDiff, Nat.reduceLT, Nat.reduceLeDiff, Nat.reduceBEq, reduceIte, reduceCtorEq, Int.reduceAdd, Int.reduceLT, Int.reduceLE, Int.reduceGT, Int.reduceGE, Int.reduceEq, Int.reduceNe, Int.reduceBEq, Int.reduceBNe, Int.reduceToNat, Int.reduceNeg]
  ·refine clT [0, 1, 2, 3, 4, 6] xfi kc ?_
   try (refine ev ?_; try exact True.intro)
   refine qbc [0, 1, 2, 3, 4, 6, 5] [.row (xn b1 512), stoO b1.s 5, mapO b.s.m, qmO b1.q, tmO b1.t, mapO b1.s.m, .row [.d (.int .i64 nx.roles), .d (.sl 4 (nx.ents.map qq))]] ?_ (by try (refine ev5 @xn.eq_1 @mapO.eq_1 @stoO.eq_1 @qmO.eq_1 @tmO.eq_1 ?_; try exact True.intro)) (hp := rfl)
   refine pu ?_
   try simp only [afB, qm, xn, stoO, mapO, qmO, tmO, go_sem, Nat.reduceAdd, Nat.reduceMul, Nat.reduceSub, Nat.reduceEqDiff, Nat.reduceLT, Nat.reduceLeDiff, Nat.reduceBEq, reduceIte, reduceCtorEq, Int.reduceAdd, Int.reduceLT, Int.reduceLE, Int.reduceGT, Int.reduceGE, Int.reduceEq, Int.reduceNe, Int.reduceBEq, Int.reduceBNe, Int.reduceToNat, Int.reduceNeg]
 ·rw [if_pos he] at hR
  subst hR
  have hb : (e != 0) = true := by simpa using he
  try (refine ev1 @hb ?_; try exact True.intro)
  (repeat (with_reducible refine ob ?_)); refine qck ?_
  try (refine ev ?_; try exact True.intro)
  refine pu ?_
  try simp only [afB, qm, stoO, mapO, qmO, tmO, go_sem, Nat.reduceAdd, Nat.reduceMul, Nat.reduceSub, Nat.reduceEqDiff, Nat.reduceLT, Nat.reduceLeDiff, Nat.reduceBEq, reduceIte, reduceCtorEq, Int.reduceAdd, Int.reduceLT, Int.reduceLE, Int.reduceGT, Int.reduceGE, Int.reduceEq, Int.reduceNe, Int.reduceBEq, Int.reduceBNe, Int.reduceToNat, Int.reduceNeg]
end Go.Proofs.YtkcdbcbpbolgkaaGreatDoor
namespace Go.Proofs.YtkcdbcbpbolgkaaGreatDoor
open Go.Abs
attribute [-go_sem] qgf
noncomputable section
set_option maxRecDepth 100000
set_option linter.defProp false
def d71d := cut Tryz.prog Tryz.f71 news [33] [5] true
@[go_sem] def E71d := ql d71d
def F71d := fnC d71d follows Tryz.func71
end
def qbo (b : Brk) (k : Pr) (name : List UInt8) (p : Pk) : Brk × Int × Bool :=
 if (ze (b.queue k) p).2 = 0 then qaf b k name (ze (b.queue k) p).1 else (b, (ze (b.queue k) p).2, false)
def qfl (b : Brk) (p : Pk) : Brk := { b with p := b.p ++ [⟨p.from_, (qha p).1⟩] }
def qll (b : Brk) (k : Pr) (name : List UInt8) (p : Pk) : Brk × Int × Bool :=
 if (qbo b k name p).2.1 = 0 ∨ (qbo b k name p).2.1 = 21 then (qfl (qbo b k name p).1 p, (qbo b k name p).2) else qbo b k name p
theorem xae (b : Brk) (k : Pr) (name : List UInt8) (next : Qu) : (qaf b k name next).1.p = b.p := by
 unfold qaf
 split
 ·rfl
 ·split
  ·rfl
  ·split <;> rfl
def SbD (b : Brk) (p : Pk) (x : Brk × Int × Bool) : St :=
 ⟨[(0, true, .d (.ptr 0 0)), (3, true, .d (.ptr 5 0)), (7, true, .d (.int .i64 x.2.1))],
  (match x.2.2 with
   | true => [.row (qm x.1), stoO x.1.s 8, mapO b.s.m, qmO x.1.q, tmO x.1.t, .row ((qe p).map .d), .none, .none, mapO x.1.s.m]
   | false => [.row (qm x.1), stoO x.1.s 2, mapO x.1.s.m, qmO x.1.q, tmO x.1.t, .row ((qe p).map .d), .none, .none, .none]), [0], 1⟩
set_option maxRecDepth 10000 in
theorem xfj (b : Brk) (p : Pk) (s f t : Nat) (hs : s < 100) (hf : f < 10) (ht : t < 10) (ps : p.sess = s) (pf : p.from_ = f) (pt : p.to = t) (hp : p.Sm) (hq : (b.queue ⟨s, f, t⟩).Sm) (hw : (b.queue ⟨s, f, t⟩).W)
  (ho : (ze (b.queue ⟨s, f, t⟩) p).1.Sm) (hu : (ze (b.queue ⟨s, f, t⟩) p).1.W) (hF : b.s.file.length ≤ 100000000) (hP : b.p.length ≤ 1000000)
  (hl : (vh (b.queue ⟨s, f, t⟩) (ze (b.queue ⟨s, f, t⟩) p).1 (js s f t)).1.length ≤ 100000) :
  qg Tryz.prog 71 [.d (.ptr 0 0), .d (.agg (qe p))] (brO b) (.d (.int .i64 (qll b ⟨s, f, t⟩ (js s f t) p).2.1)) (afB b (qll b ⟨s, f, t⟩ (js s f t) p).1 (qll b ⟨s, f, t⟩ (js s f t) p).2.2) := by
 have ko := xcz (b.queue ⟨s, f, t⟩) p hq hp
 have kq := qxl (b.q.get ⟨s, f, t⟩)
 have kc := qr2 b s f t (ze (b.queue ⟨s, f, t⟩) p).1 hs hf ht hq hw ho hu hF hl
 have ka := q69 p hp
 have hD0 : qbo b ⟨s, f, t⟩ (js s f t) p = if (ze (b.queue ⟨s, f, t⟩) p).2 = 0 then qaf b ⟨s, f, t⟩ (js s f t) (ze (b.queue ⟨s, f, t⟩) p).1 else (b, (ze (b.queue ⟨s, f, t⟩) p).2, false) := rfl
 have hD : qll b ⟨s, f, t⟩ (js s f t) p = if (qbo b ⟨s, f, t⟩ (js s f t) p).2.1 = 0 ∨ (qbo b ⟨s, f, t⟩ (js s f t) p).2.1 = 21 then (qfl (qbo b ⟨s, f, t⟩ (js s f t) p).1 p, (qbo b ⟨s, f, t⟩ (js s f t) p).2) else qbo b ⟨s, f, t⟩ (js s f t) p := rfl
 generalize qll b ⟨s, f, t⟩ (js s f t) p = R at hD ⊢
 generalize qbo b ⟨s, f, t⟩ (js s f t) p = D0 at hD hD0
 simp only [brO, qm, stoO, mapO, qmO, tmO, encQ] at kc
 simp only [encQ] at ko
 refine F71d.go ?_
 try simp only [brO, qm, stoO, mapO, qmO, tmO, qe, ps, pf, pt, go_sem, Nat.reduceAdd, Nat.reduceMul, Nat.reduceSub, Nat.reduceEqDiff, Nat.reduceLT, Nat.reduceLeDiff, Nat.reduceBEq, reduceIte, reduceCtorEq, Int.reduceAdd, Int.reduceLT, Int.reduceLE, Int.reduceGT, Int.reduceGE, Int.reduceEq, Int.reduceNe, Int.reduceBEq, Int.reduceBNe, Int.reduceToNat, Int.reduceNeg]
 simp only [qe, ps, pf, pt] at ko
 (repeat (with_reducible refine ob ?_)); refine clF F138 (ko) (fun hg => by exact ⟨kq, qc, trivial⟩) ?_
 generalize ze (b.queue ⟨s, f, t⟩) p = O at hD0 kc
 obtain ⟨nx, e⟩ := O
 simp only at hD0 kc ⊢
 try (refine ev ?_; try exact True.intro)
 have hP0 : D0.1.p = b.p := by
  rw [hD0]
  split
  ·exact xae _ _ _ _
  ·rfl
 refine xm5 (fun x : { x : Brk × Int × Bool // x = D0 } => SbD b p x.val) ?_ (fun x => ?_)
 ·by_cases he : e = 0
  ·subst he
   rw [if_pos rfl] at hD0
   generalize qaf b ⟨s, f, t⟩ (js s f t) nx = C at hD0 kc
   obtain ⟨b1, e1, c⟩ := C
   subst hD0
   simp only [afB, qm, stoO, mapO, qmO, tmO] at kc
   try (refine ev ?_; try exact True.intro)
   (repeat (with_reducible refine ob ?_)); refine qck ?_
   try (refine ev ?_; try exact True.intro)
   cases c
   ·refine clT [0, 1, 2, 3, 4, 8] xfh kc ?_
    try (refine ev ?_; try exact True.intro)
    refine ⟨⟨_, rfl⟩, ?_⟩
    try simp only [SbD, qm, stoO, mapO, qmO, tmO, qe, ps, pf, pt, go_sem, Nat.reduceAdd, Nat.reduceMul, Nat.reduceSub, Nat.reduceEqDiff, Nat.reduceLT, Nat.reduceLeDiff, Nat.reduceBEq, reduceIte, reduceCtorEq, Int.reduceAdd, Int.reduceLT, Int.reduceLE, Int.reduceGT, Int.reduceGE, Int.reduceEq, Int.reduceNe, Int.reduceBEq, Int.reduceBNe, Int.reduceToNat, Int.reduceNeg]
   ·refine clT [0, 1, 2, 3, 4, 8] xfh kc ?_
    try (refine ev ?_; try exact True.intro)
    refine ⟨⟨_, rfl⟩, ?_⟩
    try simp only [SbD, qm, stoO, mapO, qmO, tmO, qe, ps, pf, pt, go_sem, Nat.reduceAdd, Nat.reduceMul, Nat.reduceSub, Nat.reduceEqDiff, Nat.reduceLT, Nat.reduceLeDiff, Nat.reduceBEq, reduceIte, reduceCtorEq, Int.reduceAdd, Int.reduceLT, Int.reduceLE, Int.reduceGT, Int.reduceGE, Int.reduceEq, Int.reduceNe, Int.reduceBEq, Int.reduceBNe, Int.reduceToNat, Int.reduceNeg]
  ·rw [if_neg he] at hD0
   subst hD0
   have hb : (e == 0) = false := by simpa using he
   try (refine ev1 @hb ?_; try exact True.intro)
   (repeat (with_reducible refine ob ?_)); refine no_ ?_
   try (refine ev ?_; try exact True.intro)
   refine ⟨⟨_, rfl⟩, ?_⟩
   try simp only [SbD, qm, stoO, mapO, qmO, tmO, qe, ps, pf, pt, go_sem, Nat.reduceAdd, Nat.reduceMul, Nat.reduceSub, Nat.reduceEqDiff, Nat.reduceLT, Nat.reduceLeDiff, Nat.reduceBEq, reduceIte, reduceCtorEq, Int.reduceAdd, Int.reduceLT, Int.reduceLE, Int.reduceGT, Int.reduceGE, Int.reduceEq, Int.reduceNe, Int.reduceBEq, Int.reduceBNe, Int.reduceToNat, Int.reduceNeg]
 ·obtain ⟨⟨b1, e1, c⟩, rfl⟩ := x
  simp only at hP0
  have hP1 : b1.p.length ≤ 1000000 := by rw [hP0]; exact hP
  simp only [qfl] at hD
  cases c
  ·try (refine ev7 @SbD.eq_1 @qm.eq_1 @stoO.eq_1 @mapO.eq_1 @qmO.eq_1 @tmO.eq_1 @qe.eq_1 ?_; try exact True.intro)
   refine pu ?_
   try (refine ev ?_; try exact True.intro)
   (repeat (with_reducible refine ob ?_)); refine xq _ (fun h => ?_) (fun h => ?_)
   ·have hx : e1 = 0 ∨ e1 = 21 := by simpa using h
    rw [if_pos hx] at hD
    subst hD
    try (refine ev ?_; try exact True.intro)
    (repeat (with_reducible refine ob ?_)); first | refine cl F20 (ka) ?_ | refine clF F20 (ka) (fun _ => by (refine ev3 @qe.eq_1 @xe.eq_1 @qo.eq_1 ?_; try exact True.intro)) ?_
    generalize qha p = A
    try (refine ev1 @qe.eq_1 ?_; try exact True.intro)
    (repeat (with_reducible refine ob ?_))
    refine pu ?_
    try simp only [afB, qm, stoO, mapO, qmO, tmO, qfl, List.map_append, List.map_cons, List.map_nil, xe, qe, go_sem, Nat.reduceAdd, Nat.reduceMul, Nat.reduceSub, Nat.reduceEqDiff, Nat.reduceLT, Nat.reduceLeDiff, Nat.reduceBEq, reduceIte, reduceCtorEq, Int.reduceAdd, Int.reduceLT, Int.reduceLE, Int.reduceGT, Int.reduceGE, Int.reduceEq, Int.reduceNe, Int.reduceBEq, Int.reduceBNe, Int.reduceToNat, Int.reduceNeg]
   ·have hx : ¬ (e1 = 0 ∨ e1 = 21) := by simpa using h
    rw [if_neg hx] at hD
    subst hD
    try (refine ev ?_; try exact True.intro)
    refine pu ?_
    try simp only [afB, qm, stoO, mapO, qmO, tmO, go_sem, Nat.reduceAdd, Nat.reduceMul, Nat.reduceSub, Nat.reduceEqDiff, Nat.reduceLT, Nat.reduceLeDiff, Nat.reduceBEq, reduceIte, reduceCtorEq, Int.reduceAdd, Int.reduceLT, Int.reduceLE, Int.reduceGT, Int.reduceGE, Int.reduceEq, Int.reduceNe, Int.reduceBEq, Int.reduceBNe, Int.reduceToNat, Int.reduceNeg]
  ·try (refine ev7 @SbD.eq_1 @qm.eq_1 @stoO.eq_1 @mapO.eq_1 @qmO.eq_1 @tmO.eq_1 @qe.eq_1 ?_; try exact True.intro)
   refine pu ?_
   try (refine ev ?_; try exact True.intro)
   (repeat (with_reducible refine ob ?_)); refine xq _ (fun h => ?_) (fun h => ?_)
   ·have hx : e1 = 0 ∨ e1 = 21 := by simpa using h
    rw [if_pos hx] at hD
    subst hD
    try (refine ev ?_; try exact True.intro)
    (repeat (with_reducible refine ob ?_)); first | refine cl F20 (ka) ?_ | refine clF F20 (ka) (fun _ => by (refine ev3 @qe.eq_1 @xe.eq_1 @qo.eq_1 ?_; try exact True.intro)) ?_
    generalize hA : qha p = A
    try (refine ev1 @qe.eq_1 ?_; try exact True.intro)
    (repeat (with_reducible refine ob ?_))
    refine qbc [0, 1, 2, 3, 4, 6, 7, 8, 5, 9] [.row (xn (qfl b1 p) 400), stoO b1.s 5, mapO b.s.m, qmO b1.q, tmO b1.t, mapO b1.s.m, .row ((qe p).map .d), .none, .none, .row ((qe A.1).map .d)] ?_ (by try simp only [xn, mapO, stoO, qmO, tmO, qfl, List.map_append, List.map_cons, List.map_nil, xe, qe, hA, go_sem, Nat.reduceAdd, Nat.reduceMul, Nat.reduceSub, Nat.reduceEqDiff, Nat.reduceLT, Nat.reduceLeDiff, Nat.reduceBEq, reduceIte, reduceCtorEq, Int.reduceAdd, Int.reduceLT, Int.reduceLE, Int.reduceGT, Int.reduceGE, Int.reduceEq, Int.reduceNe, Int.reduceBEq, Int.reduceBNe, Int.reduceToNat, Int.reduceNeg]) (hp := rfl)
    refine pu ?_
    try simp only [afB, qm, xn, stoO, mapO, qmO, tmO, qfl, List.map_append, List.map_cons, List.map_nil, xe, qe, hA, go_sem, Nat.reduceAdd, Nat.reduceMul, Nat.reduceSub, Nat.reduceEqDiff, Nat.reduceLT, Nat.reduceLeDiff, Nat.reduceBEq, reduceIte, reduceCtorEq, Int.reduceAdd, Int.reduceLT, Int.reduceLE, Int.reduceGT, Int.reduceGE, Int.reduceEq, Int.reduceNe, Int.reduceBEq, Int.reduceBNe, Int.reduceToNat, Int.reduceNeg]
   ·have hx : ¬ (e1 = 0 ∨ e1 = 21) := by simpa using h
    rw [if_neg hx] at hD
    subst hD
    try (refine ev ?_; try exact True.intro)
    refine qbc [0, 1, 2, 3, 4, 6, 7, 8, 5] [.row (qm b1), stoO b1.s 5, mapO b.s.m, qmO b1.q, tmO b1.t, mapO b1.s.m, .row ((qe p).map .d), .none, .none] ?_ (by try (refine ev6 @qm.eq_1 @mapO.eq_1 @stoO.eq_1 @qmO.eq_1 @tmO.eq_1 @qe.eq_1 ?_; try exact True.intro)) (hp := rfl)
    refine pu ?_
    try simp only [afB, qm, stoO, mapO, qmO, tmO, go_sem, Nat.reduceAdd, Nat.reduceMul, Nat.reduceSub, Nat.reduceEqDiff, Nat.reduceLT, Nat.reduceLeDiff, Nat.reduceBEq, reduceIte, reduceCtorEq, Int.reduceAdd, Int.reduceLT, Int.reduceLE, Int.reduceGT, Int.reduceGE, Int.reduceEq, Int.reduceNe, Int.reduceBEq, Int.reduceBNe, Int.reduceToNat, Int.reduceNeg]
end Go.Proofs.YtkcdbcbpbolgkaaGreatDoor
namespace Go.Proofs.YtkcdbcbpbolgkaaGreatDoor
open Go.Abs Go.RowKit
attribute [-go_sem] qgf
attribute [local go_sem] qwh xnb qwi
noncomputable section
set_option maxRecDepth 100000
set_option linter.defProp false
def d21d := cut Tryz.prog Tryz.f21 news [61] [] true
@[go_sem] def E21d := ql d21d
def F21d := fnC d21d follows Tryz.func21
end
def xru : Nat → Code → Code
 | n + 1, .seq _ y => xru n y
 | _, c => c
noncomputable def xfk : Code := xru 4 (Tryz.f21.body.getD .skip)
noncomputable def qr4 : SCode := .seq (.seq (.region (d21d.reg 5) 0 []) (.cond (.t 58) (.seq (.region (d21d.reg 6) 0 []) (.pause .ret)) .skip)) (.seq (.region (d21d.reg 7) 0 []) (.pause .ret))
theorem xaf : zm Tryz.prog [61] 62 news xfk = some qr4.erase := by kernel_rfl
def qr5 (k : Int) : D × Bool :=
 if k = 1 then (.func (.func 71) [.ptr 0 0] [], true) else if k = 2 then (.func (.func 72) [.ptr 0 0] [], true) else if k = 4 then (.func (.func 73) [.ptr 0 0] [], true) else (.nilfunc, false)
def SrY (b : Brk) (p : Pk) : St := ⟨[(0, true, .d (.ptr 0 0)), (3, true, .d (.ptr 5 0)), (6, true, .d (qr5 p.kind).1), (7, true, .d (.bool (qr5 p.kind).2))], brO b ++ [.row ((qe p).map .d), .none], [0], 1⟩
theorem xrv {α : Type} {l : List α} (h : l.length = 2) : ∃ a b, l = [a, b] := by
 match l, h with
 | [a, b], _ => exact ⟨a, b, rfl⟩
theorem xon {α : Type} {l : List α} (h : l.length = 9) : ∃ a b c d e f g i j, l = [a, b, c, d, e, f, g, i, j] := by
 match l, h with
 | [a, b, c, d, e, f, g, i, j], _ => exact ⟨a, b, c, d, e, f, g, i, j, rfl⟩
def qxm : Nat → Code → Code
 | 0, .seq x _ => x
 | n + 1, .seq _ y => qxm n y
 | _, c => c
noncomputable def q40 : Code := Tryz.f21.body.getD .skip
theorem xag : q40 = .seq (qxm 0 q40) (.seq (qxm 1 q40) (.seq (qxm 2 q40) (.seq (qxm 3 q40) xfk))) := by kernel_rfl
def mapW (W : World) (b : Nat) (es : List MapEntry) (c : Nat) : World := { W with heap := W.heap.setIfInBounds b (.map es.toArray c) }
theorem q41 {W : World} {b : Nat} {o : Obj} (es : List MapEntry) (c : Nat) (h : W.heap[b]? = some o) : (mapW W b es c).heap[b]? = some (.map es.toArray c) := (MapKept.heap_set h).1
theorem qmz {W : World} {b k : Nat} (es : List MapEntry) (c : Nat) (h : k ≠ b) : (mapW W b es c).heap[k]? = W.heap[k]? := by
 simp [mapW, Ne.symm h]
theorem xfl {W : World} {b : Nat} (es : List MapEntry) (c : Nat) : (mapW W b es c).heap.size = W.heap.size := by simp [mapW]
theorem q42 {W : World} {b c : Nat} {es : List MapEntry} (k : Int) (f : Value) (hh : W.heap[b]? = some (.map es.toArray c)) (hn : Instr.findNow (.int .i64) (.int .i64 k) es 0 = some none) :
  (Instr.mapUpdate 165 (.map (some b)) (.int .i64 k) f).run Tryz.prog W = .ok () (mapW W b (es ++ [{ key := .int .i64 k, val := f, born := c }]) (c + 1)) := by
 have hck : (Instr.checkKey false 10000 3 (.int .i64 k)).run Tryz.prog W = .ok () W := MapKept.run_checkKey (k := .int .i64 k) Tryz.underlying3 (by simp [MapKept.IsKey]) false 9999
 have hfk := MapKept.run_findKey (P := Tryz.prog) (w := W) Tryz.underlying3 hn
 simp [Instr.mapUpdate, run_underlying Tryz.underlying165, MapKept.run_getObj_map hh, hck, hfk, MapKept.run_setObj_map _ hh, Result.andThen, mapW]
theorem qxn {W : World} {b c : Nat} {es : List MapEntry} (k : Int) (j : Nat) (F : Value) (hh : W.heap[b]? = some (.map es.toArray c)) (hn : Instr.findNow (.int .i64) (.int .i64 k) es 0 = some (some (j, F))) :
  (Instr.lookup 165 (.map (some b)) (.int .i64 k) true).run Tryz.prog W = .ok (.tuple #[F, .bool true]) W := by
 have hck : ∀ e, (Instr.checkKey e 10000 3 (.int .i64 k)).run Tryz.prog W = .ok () W := fun e => MapKept.run_checkKey (k := .int .i64 k) Tryz.underlying3 (by simp [MapKept.IsKey]) e 9999
 have hfk := MapKept.run_findKey (P := Tryz.prog) (w := W) Tryz.underlying3 hn
 simp [Instr.lookup, run_underlying Tryz.underlying165, MapKept.run_getObj_map hh, hck, hfk, Result.andThen]
theorem xfm {W : World} {b c : Nat} {es : List MapEntry} (k : Int) (hh : W.heap[b]? = some (.map es.toArray c)) (hn : Instr.findNow (.int .i64) (.int .i64 k) es 0 = some none) :
  (Instr.lookup 165 (.map (some b)) (.int .i64 k) true).run Tryz.prog W = .ok (.tuple #[.nilFunc, .bool false]) W := by
 have hck : ∀ e, (Instr.checkKey e 10000 3 (.int .i64 k)).run Tryz.prog W = .ok () W := fun e => MapKept.run_checkKey (k := .int .i64 k) Tryz.underlying3 (by simp [MapKept.IsKey]) e 9999
 have hfk := MapKept.run_findKey (P := Tryz.prog) (w := W) Tryz.underlying3 hn
 have hz : (zeroValue 53).run Tryz.prog W = .ok .nilFunc W := by
  obtain ⟨i, hi, hz⟩ : ∃ i, Tryz.prog.info? 53 = some i ∧ i.zero = some .nilFunc := by
   have h : (Tryz.prog.info? 53).bind (fun i => i.zero) = some .nilFunc := by kernel_rfl
   exact Option.bind_eq_some_iff.1 h
  simp [zeroValue, typeInfo, hi, hz]
 simp [Instr.lookup, run_underlying Tryz.underlying165, MapKept.run_getObj_map hh, hck, hfk, hz, Result.andThen]
set_option maxRecDepth 100000 in
theorem xah (b : Brk) (p : Pk) (R : Exit → Act → World → Prop) (g : Ghost) (w : World) (vs : List Value) (hvl : vs.length = 2) (hd : Dom g w)
  (hs : SR 62 (below 1) g w (qhn [.d (.ptr 0 0), .d (.agg (qe p))] (brO b)) { tmps := vs.toArray ++ Array.replicate (62 - vs.toArray.size) undef, defers := [] })
  (hY : ∀ g1 w1 a1, SR 62 (below 1) g1 w1 (SrY b p) a1 → G g w g1 w1 → a1.defers = [] → xfk.wpIn (Fw none) 0 Tryz.prog R a1 w1) :
  q40.wpIn (Fw none) 0 Tryz.prog R { tmps := vs.toArray ++ Array.replicate (62 - vs.toArray.size) undef, defers := [] } w := by
 obtain ⟨v0, v1, rfl⟩ := xrv hvl
 simp only [List.size_toArray, List.length_cons, List.length_nil, Nat.reduceAdd, Nat.reduceSub, Array.replicate_succ, Array.replicate_zero, List.push_toArray, List.append_toArray, List.nil_append, List.cons_append] at hs ⊢
 have h0 := wj ((hs.slots 0 true _ rfl).1 rfl)
 have h1 := wj ((hs.slots 1 true _ rfl).1 rfl)
 simp only [List.getD_cons_zero, List.getD_cons_succ, Array.getD_eq_getD_getElem?, List.getElem?_toArray, List.getElem?_cons_zero, List.getElem?_cons_succ, Option.getD_some] at h0 h1
 cases h0 with
 | ptr bb _ _ hg =>
 generalize hds : qe p = ds at h1
 cases h1 with
 | agg us _ hl hcl hr =>
 subst hds
 obtain ⟨u0, u1, u2, u3, u4, u5, u6, u7, u8, rfl⟩ := xon (hl.trans rfl)
 have hk : u0 = .int .i64 p.kind := by
  have := hr 0 u0 _ rfl rfl
  cases this; rfl
 subst hk
 rw [xag]
 generalize xfk = Y at hY ⊢
 refine wpIn_seq ?_
 conv in (qxm 0 _) => whnf
 gi_wp2
 conv in (qxm 1 _) => whnf
 gi_wp2
 conv in (qxm 2 _) => whnf
 have alloc_at : ∀ (W : World) (o : Obj), (W.alloc o).heap[W.heap.size]? = some o := fun W o => heap_alloc_new W o
 have hB : ((w.alloc (.cells #[.int .i64 p.kind, u1, u2, u3, u4, u5, u6, u7, u8] 33)).alloc (.map #[] 0)).heap[w.heap.size + 1]? = some (.map ([] : List MapEntry).toArray 0) := by
  have := alloc_at (w.alloc (.cells #[.int .i64 p.kind, u1, u2, u3, u4, u5, u6, u7, u8] 33)) (.map #[] 0)
  simpa using this
 have i1 := q42 1 (.func (.func 71) #[.pointer (some ⟨bb, 0, none⟩)] #[]) hB rfl
 have hB1 := q41 ([] ++ [{ key := .int .i64 1, val := .func (.func 71) #[.pointer (some ⟨bb, 0, none⟩)] #[], born := 0 }]) 1 hB
 have i2 := q42 2 (.func (.func 72) #[.pointer (some ⟨bb, 0, none⟩)] #[]) hB1 rfl
 have hB2 := q41 ([] ++ [{ key := .int .i64 1, val := .func (.func 71) #[.pointer (some ⟨bb, 0, none⟩)] #[], born := 0 }] ++ [{ key := .int .i64 2, val := .func (.func 72) #[.pointer (some ⟨bb, 0, none⟩)] #[], born := 1 }]) 2 hB1
 have i3 := q42 4 (.func (.func 73) #[.pointer (some ⟨bb, 0, none⟩)] #[]) hB2 rfl
 have hB3 := q41 ([] ++ [{ key := .int .i64 1, val := .func (.func 71) #[.pointer (some ⟨bb, 0, none⟩)] #[], born := 0 }] ++ [{ key := .int .i64 2, val := .func (.func 72) #[.pointer (some ⟨bb, 0, none⟩)] #[], born := 1 }] ++ [{ key := .int .i64 4, val := .func (.func 73) #[.pointer (some ⟨bb, 0, none⟩)] #[], born := 2 }]) 3 hB2
 simp only [List.nil_append, List.cons_append, Nat.reduceAdd, Nat.zero_add] at i1 i2 i3 hB3
 gi_wp2_with (first | simp only [run_makeMap, Result.andThen_ok] | simp only [i1, Result.andThen_ok] | simp only [i2, Result.andThen_ok] | simp only [i3, Result.andThen_ok])
 clear i1 i2 i3 hB hB1 hB2
 generalize hW : mapW (mapW (mapW _ _ _ _) _ _ _) _ _ _ = W at hB3 ⊢
 have w1 : W.heap.size = w.heap.size + 2 := by rw [← hW]; simp [xfl]
 have w2 : ∀ k, k ≠ w.heap.size + 1 → W.heap[k]? = (w.alloc (.cells #[.int .i64 p.kind, u1, u2, u3, u4, u5, u6, u7, u8] 33)).heap[k]? := by
  intro k hk
  rw [← hW, qmz _ _ hk, qmz _ _ hk, qmz _ _ hk]
  by_cases hlt : k < (w.alloc (.cells #[.int .i64 p.kind, u1, u2, u3, u4, u5, u6, u7, u8] 33)).heap.size
  ·exact heap_alloc_old _ _ hlt
  ·rw [Array.getElem?_eq_none (by simp at hlt ⊢; omega), Array.getElem?_eq_none (by omega)]
 have w3 : W.os = w.os ∧ W.tape = w.tape ∧ W.output = w.output := by rw [← hW]; exact ⟨rfl, rfl, rfl⟩
 have w4 : W.heap[w.heap.size]? = some (.cells #[.int .i64 p.kind, u1, u2, u3, u4, u5, u6, u7, u8] 33 (0, 0)) := by
  rw [w2 _ (by omega)]; exact heap_alloc_new w _
 clear hW
 have hc : W.cell? ⟨w.heap.size, 0, none⟩ = some (.int .i64 p.kind) := by simp [World.cell?, w4]
 have hf : W.frozen? ⟨w.heap.size, 0, none⟩ = false := by simp [World.frozen?, w4]
 have rvf : ∀ (g' : Ghost) (f : FuncId), g' bb = .obj 0 → RV g' W (.func (.func f) #[.pointer (some ⟨bb, 0, none⟩)] #[]) (.func (.func f) [.ptr 0 0] []) := fun g' f hg' =>
  .func (.func f) [.pointer (some ⟨bb, 0, none⟩)] [] [.ptr 0 0] [] rfl rfl (fun j v d h1 h2 => by
   match j with
   | 0 => simp at h1 h2; subst h1; subst h2; exact .ptr bb 0 0 hg'
   | j + 1 => simp at h1) (fun j v d h1 => by simp at h1)
 have lk : ∃ F, (Instr.lookup 165 (.map (some (w.heap.size + 1))) (.int .i64 p.kind) true).run Tryz.prog W = .ok (.tuple #[F, .bool (qr5 p.kind).2]) W ∧ ∀ g' : Ghost, g' bb = .obj 0 → RV g' W F (qr5 p.kind).1 := by
  by_cases k1 : p.kind = 1
  ·refine ⟨_, by rw [k1]; exact qxn 1 0 _ hB3 rfl, fun g' hg' => ?_⟩
   rw [k1]; exact rvf g' _ hg'
  by_cases k2 : p.kind = 2
  ·refine ⟨_, by rw [k2]; exact qxn 2 1 _ hB3 rfl, fun g' hg' => ?_⟩
   rw [k2]; exact rvf g' _ hg'
  by_cases k4 : p.kind = 4
  ·refine ⟨_, by rw [k4]; exact qxn 4 2 _ hB3 rfl, fun g' hg' => ?_⟩
   rw [k4]; exact rvf g' _ hg'
  ·have hp : qr5 p.kind = (.nilfunc, false) := by unfold qr5; rw [if_neg k1, if_neg k2, if_neg k4]
   have e1 : (p.kind == 1) = false := by simpa using k1
   have e2 : (p.kind == 2) = false := by simpa using k2
   have e4 : (p.kind == 4) = false := by simpa using k4
   refine ⟨.nilFunc, by rw [hp]; exact xfm p.kind hB3 (by simp only [Instr.findNow, Instr.sameNow, e1, e2, e4, if_true]), fun g' hg' => ?_⟩
   rw [hp]; exact .nilfunc
 obtain ⟨F, lk, hF⟩ := lk
 clear hB3 rvf
 conv in (qxm 3 _) => whnf
 gi_wp2_with (simp only [lk, Result.andThen_ok])
 obtain ⟨wo, wt, wu⟩ := w3
 have s1 := hs.grow 2
 obtain ⟨hG1, s2⟩ := s1.newObj (id := 5) (new := (qe p).map .d) (vs := [.int .i64 p.kind, u1, u2, u3, u4, u5, u6, u7, u8]) (e := 33) rfl (by simp [qe]) (fun i s hi => by
  rw [List.getElem?_map, Option.map_eq_some_iff] at hi
  obtain ⟨d, hd', rfl⟩ := hi
  have hlt : i < 9 := by have := (List.getElem?_eq_some_iff.1 hd').1; simpa [qe] using this
  have hv : ∃ v, ([.int .i64 p.kind, u1, u2, u3, u4, u5, u6, u7, u8] : List Value)[i]? = some v := ⟨_, List.getElem?_eq_getElem (by simpa using hlt)⟩
  obtain ⟨v, hv⟩ := hv
  have hrv := hr i v d hv hd'
  exact ⟨v, hv, hrv.oneCell (hcl d (List.mem_of_getElem? hd')), hrv⟩) (fun s hm t ht => by
  obtain ⟨d, _, rfl⟩ := List.mem_map.1 hm
  simp [ASlot.toks] at ht)
 have hBout : ∀ k, (g.at w.heap.size (.obj 5)) k ≠ .out → k ≠ w.heap.size + 1 := by
  rintro k hk rfl
  rw [Ghost.at_ne g _ (by omega)] at hk
  exact hk (hd.1 _ (by omega))
 have s3 := s2.still (w' := W) (fun k hk => w2 k (hBout k hk)) (by rw [w1]; simp)
 have hbb : bb ≠ w.heap.size := fun h => by
  rw [h, hd.1 _ (Nat.le_refl _)] at hg; cases hg
 have hg' : (g.at w.heap.size (.obj 5)) bb = .obj 0 := by rw [Ghost.at_ne g _ hbb]; exact hg
 have hbox : (g.at w.heap.size (.obj 5)) w.heap.size = .obj 5 := Ghost.at_same _ _ _
 refine hY (g.at w.heap.size (.obj 5)) W _ (SR.plain (fr := (SrY b p).fr) s3 rfl rfl fun k d hk => ?_) (hG1.beyond wo wt wu (by rw [w1]; simp) fun k r hk _ _ => w2 k (by omega)) rfl
 simp only [SrY, Fr.get] at hk
 split at hk
 ·rename_i h; subst h; cases hk; exact .ptr bb 0 0 hg'
 split at hk
 ·rename_i h; subst h; cases hk; exact .ptr _ 0 5 hbox
 split at hk
 ·rename_i h; subst h; cases hk; exact hF _ hg'
 split at hk
 ·rename_i h; subst h; cases hk; exact .bool _
 ·cases hk
end Go.Proofs.YtkcdbcbpbolgkaaGreatDoor
namespace Go.Proofs.YtkcdbcbpbolgkaaGreatDoor
open Go.Abs
theorem qdc : yc ja = true := by decide
theorem q43 {p q r : Pk} (h1 : qiu p r = true) (h2 : qiu q r = true) : qiu p q = true := by
 simp only [qiu, Bool.and_eq_true, beq_iff_eq] at *
 grind
theorem jp {p : Pk} (h : vt p = true) : p.kind = 1 ∧ qj p = true ∧ 1 ≤ p.seq ∧ p.seq ≤ 1099511627776 ∧ 1 ≤ p.sess ∧ p.sess ≤ 32 ∧ 0 ≤ p.from_ ∧ p.from_ < 6 ∧ 0 ≤ p.to ∧ p.to < 6 ∧ p.from_ ≠ p.to := by
 simp only [vt, Bool.and_eq_true, beq_iff_eq] at h
 obtain ⟨hk, hv⟩ := h
 refine ⟨hk, hv, ?_⟩
 simp only [qj, qep, hk, if_true, data, qcx, role, Bool.and_eq_true, decide_eq_true_eq, bne_iff_ne, ne_eq] at hv
 grind
theorem qd5 (q : Qu) (seq : Int) : yc (xo q seq).1 = true := by
 unfold xo
 by_cases hv : yc q = true
 ·have h := (y7 q).1 hv
  simp only [hv, Bool.not_true, Bool.false_eq_true, if_false]
  split
  ·exact qdc
  ·rcases Nat.eq_zero_or_pos q.items.length with h0 | h0
   ·simp only [h0, Int.cast_ofNat_Int, beq_self_eq_true, Bool.true_or, if_true]
    exact qdc
   ·have hs := (h.item 0 h0).2.2
    have h1 := h.lo
    have h2 := h.le
    have h3 := h.hi
    have h4 := h.len
    have h5 := h.few
    have hs' : (q.items.getD 0 default).seq = q.cons + 1 := by rw [zc h0, hs]; simp
    rw [hs']
    split
    ·exact qdc
    ·rename_i hc
     have hseq : seq = q.cons + 1 := by simp at hc; exact hc.2
     subst hseq
     refine (y7 _).2 ⟨by dsimp only; omega, by dsimp only; omega, h3, by simp only [List.length_drop]; omega, by simp only [List.length_drop]; omega, fun i hi => ?_⟩
     simp only [List.length_drop] at hi
     obtain ⟨m1, m2, m3⟩ := h.item (1 + i) (by omega)
     obtain ⟨n1, n2, n3⟩ := h.item 1 (by omega)
     simp only [List.getElem_drop, Nat.add_zero]
     exact ⟨m1, q43 m2 n2, by rw [m3]; omega⟩
 ·have hv' : yc q = false := by simpa using hv
  simp only [hv', Bool.not_false, if_true]
  exact qdc
theorem qh4 {q : Qu} {p : Pk} (h : (ze q p).2 = 0) : yc q = true ∧ vt p = true ∧ (q.items ≠ [] → qiu p (q.items.getD 0 default) = true) ∧ p.seq = q.acc + 1 ∧ q.items.length ≠ 4 ∧ (ze q p).1 = ⟨p.seq, q.cons, q.items ++ [p]⟩ := by
 unfold ze at h ⊢
 split at h
 ·cases h
 rename_i hv
 split at h
 ·cases h
 rename_i c1
 split at h
 ·cases h
 rename_i c2
 split at h
 ·cases h
 rename_i c3
 rw [if_neg hv, if_neg c1, if_neg c2, if_neg c3]
 simp only [Bool.or_eq_true, Bool.not_eq_true', Bool.and_eq_true, decide_eq_true_eq, not_or, Bool.not_eq_false, not_and] at hv
 obtain ⟨⟨v1, v2⟩, v3⟩ := hv
 have hq := (y7 q).1 v1
 have h1 := hq.lo
 have h2 := hq.le
 have h3 := hq.hi
 have hw : IntKind.i64.wrap (q.acc + 1) = q.acc + 1 := wrap_i64 (by omega) (by omega)
 rw [hw] at c2
 simp only [decide_eq_true_eq, beq_iff_eq] at c1 c2 c3
 refine ⟨v1, v2, fun hne => v3 ?_, by omega, by omega, rfl⟩
 have := List.length_pos_iff.2 hne
 omega
theorem q7a {q : Qu} {p : Pk} (h : (ze q p).2 ≠ 0) : (ze q p).1 = ja := by
 revert h
 unfold ze
 split
 ·intro _; rfl
 split
 ·intro _; rfl
 split
 ·intro _; rfl
 split
 ·intro _; rfl
 ·intro h; exact absurd rfl h
theorem qg3 (q : Qu) (p : Pk) : yc (ze q p).1 = true := by
 by_cases h0 : (ze q p).2 = 0
 ·obtain ⟨v1, v2, v3, hs, hn4, he⟩ := qh4 h0
  rw [he]
  have h := (y7 q).1 v1
  have h1 := h.lo
  have h2 := h.le
  have h3 := h.hi
  have h4 := h.len
  have h5 := h.few
  have hm := jp v2
  refine (y7 _).2 ⟨h1, by dsimp only; omega, by dsimp only; omega, by simp only [List.length_append, List.length_cons, List.length_nil]; omega, by simp only [List.length_append, List.length_cons, List.length_nil]; omega, fun i hi => ?_⟩
  simp only [List.length_append, List.length_cons, List.length_nil] at hi
  by_cases hlt : i < q.items.length
  ·obtain ⟨m1, m2, m3⟩ := h.item i hlt
   simp only [List.getElem_append_left hlt, List.getElem_append_left (show 0 < q.items.length by omega)]
   exact ⟨m1, m2, m3⟩
  ·have hie : i = q.items.length := by omega
   subst hie
   rcases Nat.eq_zero_or_pos q.items.length with h0 | h0
   ·have hnil : q.items = [] := List.eq_nil_of_length_eq_zero h0
    simp only [hnil, List.nil_append, List.length_nil, List.getElem_cons_zero]
    refine ⟨v2, by simp [qiu], ?_⟩
    rw [hnil] at h4; simp at h4; omega
   ·have hv3 := v3 (List.length_pos_iff.1 h0)
    rw [zc h0] at hv3
    simp only [List.getElem_append_right (Nat.le_refl _), List.getElem_append_left h0, Nat.sub_self, List.getElem_cons_zero]
    exact ⟨v2, hv3, by omega⟩
 ·rw [q7a h0]; exact qdc
theorem qg4 {q : Qu} {s : Int} (h : (xo q s).2 = 0) : yc q = true ∧ q.items ≠ [] ∧ s = q.cons + 1 ∧ (xo q s).1 = ⟨q.acc, s, q.items.drop 1⟩ := by
 unfold xo at h ⊢
 split at h
 ·cases h
 rename_i hv
 split at h
 ·cases h
 rename_i c1
 split at h
 ·cases h
 rename_i c2
 rw [if_neg hv, if_neg c1, if_neg c2]
 have v1 : yc q = true := by simpa using hv
 have hq := (y7 q).1 v1
 have h0 : 0 < q.items.length := by
  simp only [Bool.or_eq_true, beq_iff_eq, not_or] at c2
  omega
 have hs := (hq.item 0 h0).2.2
 simp only [Bool.or_eq_true, bne_iff_ne, ne_eq, not_or, Decidable.not_not, zc h0, hs] at c2
 exact ⟨v1, List.length_pos_iff.1 h0, by have := c2.2; omega, rfl⟩
theorem qu0 {q : Qu} {s : Int} (h : (xo q s).2 ≠ 0) : (xo q s).1 = ja := by
 revert h
 unfold xo
 split
 ·intro _; rfl
 split
 ·intro _; rfl
 split
 ·intro _; rfl
 ·intro h; exact absurd rfl h
theorem qxo {q : Qu} (h : yc q = true) : q.Sm := by
 have hq := (y7 q).1 h
 refine ⟨by have := hq.few; omega, fun p hp => ?_⟩
 obtain ⟨i, hi, rfl⟩ := List.getElem_of_mem hp
 have := qer (jp (hq.item i hi).1).2.1
 exact ⟨by omega, by omega⟩
theorem qox : ja.W := ⟨by simp [ja, I64], by simp [ja, I64], by simp [ja]⟩
theorem xrw {q : Qu} (h : yc q = true) : I64 q.acc ∧ I64 q.cons := (xn5 h).I
theorem q44 {q : Qu} {p : Pk} (hq : q.W) (hp : p.W) : (ze q p).1.W := by
 by_cases h0 : (ze q p).2 = 0
 ·have he := (qh4 h0).2.2.2.2.2
  have hi := xrw (qg3 q p)
  rw [he] at hi ⊢
  refine ⟨hi.1, hi.2, fun x hx => ?_⟩
  rcases List.mem_append.1 hx with hx | hx
  ·exact hq.p x hx
  ·simp only [List.mem_cons, List.not_mem_nil, or_false] at hx
   subst hx; exact hp
 ·rw [q7a h0]; exact qox
theorem qr6 {q : Qu} {s : Int} (hq : q.W) : (xo q s).1.W := by
 by_cases h0 : (xo q s).2 = 0
 ·have he := (qg4 h0).2.2.2
  have hi := xrw (qd5 q s)
  rw [he] at hi ⊢
  exact ⟨hi.1, hi.2, fun x hx => hq.p x (List.mem_of_mem_drop hx)⟩
 ·rw [qu0 h0]; exact qox
theorem xoo : ∀ a b : Fin 10, dig a.val = dig b.val → a = b := by decide
theorem qoy {a b : Nat} (ha : a < 10) (hb : b < 10) (h : dig a = dig b) : a = b := by
 have := xoo ⟨a, ha⟩ ⟨b, hb⟩ h
 simpa using this
theorem qm0 (s f t : Nat) : (js s f t).length = 8 := rfl
theorem xai {s f t s' f' t' : Nat} (hs : s < 100) (hf : f < 10) (ht : t < 10) (hs' : s' < 100) (hf' : f' < 10) (ht' : t' < 10) (h : js s f t = js s' f' t') : s = s' ∧ f = f' ∧ t = t' := by
 simp only [js, dig, List.cons_append, List.nil_append, List.cons.injEq, and_true, true_and] at h
 obtain ⟨h1, h2, h3, h4⟩ := h
 have e1 := qoy (a := s / 10) (b := s' / 10) (by omega) (by omega) (by simp [dig, h1])
 have e2 := qoy (a := s % 10) (b := s' % 10) (by omega) (by omega) (by simp [dig, h2])
 have e3 := qoy hf hf' (by simp [dig, h3])
 have e4 := qoy ht ht' (by simp [dig, h4])
 omega
def Pr.name (x : Pr) : List UInt8 := js x.s.toNat x.f.toNat x.t.toNat
structure PrOk (n ss : Nat) (x : Pr) : Prop where
 s1 : 1 ≤ x.s
 s2 : x.s ≤ ss
 f0 : 0 ≤ x.f
 f1 : x.f < n
 t0 : 0 ≤ x.t
 t1 : x.t < n
 ne : x.f ≠ x.t
theorem xop {n ss : Nat} (hn : n ≤ 6) (hss : ss ≤ 32) {x y : Pr} (hx : PrOk n ss x) (hy : PrOk n ss y) (h : x ≠ y) (a b : List UInt8) (ha : a.length = 2) (hb : b.length = 2) : x.name ++ a ≠ y.name ++ b := by
 intro he
 have := (List.append_inj he (by simp [Pr.name, qm0])).1
 obtain ⟨x1, x2, x3⟩ := x
 obtain ⟨y1, y2, y3⟩ := y
 obtain ⟨a1, a2, a3, a4, a5, a6, a7⟩ := hx
 obtain ⟨b1, b2, b3, b4, b5, b6, b7⟩ := hy
 simp only at a1 a2 a3 a4 a5 a6 b1 b2 b3 b4 b5 b6
 obtain ⟨e1, e2, e3⟩ := xai (by simp only; omega) (by simp only; omega) (by simp only; omega) (by simp only; omega) (by simp only; omega) (by simp only; omega) this
 simp only at e1 e2 e3
 exact h (by rw [Pr.mk.injEq]; omega)
theorem q7b (x : Pr) (a : List UInt8) : pre uPfx (x.name ++ a) = false := rfl
theorem xaj (x : Pr) : qnm x.name = true := by simp [qnm, Pr.name, qm0]
theorem q1y {n : Nat} {s : Sto} (h : s.Ok n) (hn : s.m.l.length ≤ 390) {a b : Qu} {name : List UInt8} (hb : QV b) (wb : b.W) (hm : name.length ≤ 30) (hne : vu a b name 4 ≠ []) :
  (xg s (vu a b name 4)).2 = 0 ∧ (xg s (vu a b name 4)).1.Ok (n + 1) ∧ (xg s (vu a b name 4)).1.m.l.length ≤ s.m.l.length + 5 ∧ ∀ k, mGet k (xg s (vu a b name 4)).1.m = vk k (mGet k s.m) (vu a b name 4) := by
 have he := q6p hb wb hm hne
 have hl := qf6 a b name 4
 obtain ⟨y1, y2⟩ := qim (vu a b name 4) s.m (by omega)
 have hc : xg s (vu a b name 4) = (⟨yr s.file (qr (vu a b name 4)).1, s.synced, (jr s.m (vu a b name 4)).1⟩, 0) := by
  unfold xg
  rw [if_neg (by simp [he]), if_neg (by simp [y1])]
 have hok := qji h (vu a b name 4)
 rw [hc] at hok ⊢
 exact ⟨rfl, hok, by simp only; omega, fun k => qf4 k _ h.good.ok y1⟩
theorem xkp {m m' : Cont} {name : List UInt8} {q : Qu} (hr : Rep m name q) (h : ∀ a : List UInt8, a.length = 2 → mGet (name ++ a) m' = mGet (name ++ a) m) : Rep m' name q :=
 ⟨(h [47, 110] rfl).trans hr.1, fun d hd => (h [47, UInt8.ofNat (48 + d)] rfl).trans (hr.2 d hd)⟩
end Go.Proofs.YtkcdbcbpbolgkaaGreatDoor
namespace Go.Proofs.YtkcdbcbpbolgkaaGreatDoor
open Go.Abs
attribute [-go_sem] qgf
noncomputable section
set_option maxRecDepth 100000
set_option linter.defProp false
def d65 := cut Tryz.prog Tryz.f65 news
@[go_sem] def E65 := ql d65
def F65 := fnC d65 follows Tryz.func65
end
def qcj (b : Brk) (t : Tk) : TryM := (b.t.get t).getD ⟨0, 0⟩
def qm1 (b : Brk) (t : Tk) (now : Int) : Bool := !(b.t.get t).isSome || decide ((qcj b t).next ≤ now)
def qr7 (y : TryM) (now : Int) : TryM := ⟨y.count + 1, IntKind.wrap .i64 (now + qd4 (y.count + 1))⟩
def qfs (b : Brk) (tr : MapM Tk TryM) (t : Tk) (now : Int) (l : List OutM) (x : OutM) : MapM Tk TryM × List OutM :=
 if qm1 b t now then (tr.put t (qr7 (qcj b t) now), l ++ [x]) else (tr.put t (qcj b t), l)
set_option maxRecDepth 10000 in
theorem q1z (b : Brk) (tr : MapM Tk TryM) (s f t n now : Int) (l : List OutM) (x : OutM) (hc : 0 ≤ (qcj b ⟨⟨s, f, t⟩, n⟩).count ∧ (qcj b ⟨⟨s, f, t⟩, n⟩).count ≤ 100000) (hl : l.length ≤ 1000000) :
  qg Tryz.prog 65 [.d (.ptr 0 0), .d (.map 5), .d (.agg [.int .i64 s, .int .i64 f, .int .i64 t, .int .i64 n]), .d (.int .i64 now), .own 1 10 (l.map xe), .d (.agg (xe x))] (brO b ++ [tmO tr])
   (.own 1 10 ((qfs b tr ⟨⟨s, f, t⟩, n⟩ now l x).2.map xe)) (brO b ++ [tmO (qfs b tr ⟨⟨s, f, t⟩, n⟩ now l x).1]) := by
 have hw : IntKind.i64.wrap ((qcj b ⟨⟨s, f, t⟩, n⟩).count + 1) = (qcj b ⟨⟨s, f, t⟩, n⟩).count + 1 := wrap_i64 (by omega) (by omega)
 have ki := q4z ((qcj b ⟨⟨s, f, t⟩, n⟩).count + 1) (by omega)
 have hT : (b.t.get ⟨⟨s, f, t⟩, n⟩).getD ⟨0, 0⟩ = qcj b ⟨⟨s, f, t⟩, n⟩ := rfl
 generalize hR : qfs b tr ⟨⟨s, f, t⟩, n⟩ now l x = R
 unfold qfs qm1 at hR
 refine F65.go ?_
 try simp only [brO, qm, stoO, mapO, qmO, tmO, xe, qe, List.cons_append, List.nil_append, go_sem, Nat.reduceAdd, Nat.reduceMul, Nat.reduceSub, Nat.reduceEqDiff, Nat.reduceLT, Nat.reduceLeDiff, Nat.reduceBEq, reduceIte, reduceCtorEq, Int.reduceAdd, Int.reduceLT, Int.reduceLE, Int.reduceGT, Int.reduceGE, Int.reduceEq, Int.reduceNe, Int.reduceBEq, Int.reduceBNe, Int.reduceToNat, Int.reduceNeg]
 simp only [hT]
 generalize hy : qcj b ⟨⟨s, f, t⟩, n⟩ = y at hR hw ki hc
 (repeat (with_reducible refine ob ?_))
 (repeat (with_reducible refine ob ?_)); refine xq _ (fun h => ?_) (fun h => ?_)
 ·rw [if_pos h] at hR
  subst hR
  try (refine ev1 @hw ?_; try exact True.intro)
  (repeat (with_reducible refine ob ?_)); first | refine cl F131 (ki) ?_ | refine clF F131 (ki) (fun _ => by (refine ev2 @qe.eq_1 @xe.eq_1 ?_; try exact True.intro)) ?_
  try (refine ev ?_; try exact True.intro)
  (repeat (with_reducible refine ob ?_))
  try simp only [xff _ _ _ _ _ (y.count + 1) (IntKind.i64.wrap (now + qd4 (y.count + 1))), go_sem, Nat.reduceAdd, Nat.reduceMul, Nat.reduceSub, Nat.reduceEqDiff, Nat.reduceLT, Nat.reduceLeDiff, Nat.reduceBEq, reduceIte, reduceCtorEq, Int.reduceAdd, Int.reduceLT, Int.reduceLE, Int.reduceGT, Int.reduceGE, Int.reduceEq, Int.reduceNe, Int.reduceBEq, Int.reduceBNe, Int.reduceToNat, Int.reduceNeg]
  try (refine ev6 @qr7.eq_1 @List.map_append.{0,0} @List.map_cons.{0,0} @List.map_nil.{0,0} @xe.eq_1 @qe.eq_1 ?_; try exact True.intro)
 ·rw [if_neg (by rw [h]; exact Bool.false_ne_true)] at hR
  subst hR
  try simp only [xff _ _ _ _ _ y.count y.next, go_sem, Nat.reduceAdd, Nat.reduceMul, Nat.reduceSub, Nat.reduceEqDiff, Nat.reduceLT, Nat.reduceLeDiff, Nat.reduceBEq, reduceIte, reduceCtorEq, Int.reduceAdd, Int.reduceLT, Int.reduceLE, Int.reduceGT, Int.reduceGE, Int.reduceEq, Int.reduceNe, Int.reduceBEq, Int.reduceBNe, Int.reduceToNat, Int.reduceNeg]
end Go.Proofs.YtkcdbcbpbolgkaaGreatDoor
namespace Go.Proofs.YtkcdbcbpbolgkaaGreatDoor
open Go.Abs
noncomputable section
set_option maxRecDepth 100000
set_option linter.defProp false
def d45n := cut Tryz.prog Tryz.f45 news [] [] true
@[go_sem] def E45n := ql d45n
def F45n := fnC d45n follows Tryz.func45
def d38 := cut Tryz.prog Tryz.f38 news
@[go_sem] def E38 := ql d38
end
def j0 (r s : Int) : Brk := ⟨r, s, newS, ⟨[], 0⟩, ⟨r, []⟩, [], ⟨[], 0⟩⟩
theorem xak {r s : Int} (h : posB r s = true) : 1 ≤ r ∧ r ≤ 6 ∧ 1 ≤ s ∧ s ≤ 32 := by
 simp only [posB, Bool.and_eq_true, decide_eq_true_eq] at h
 omega
set_option maxRecDepth 10000 in
theorem xfn (r s : Int) (h : posB r s = true) : qg Tryz.prog 45 [.d (.int .i64 r), .d (.int .i64 s)] [] (.tup [.d (.ptr 0 0), .d (.int .i64 0)]) (brO (j0 r s)) := by
 have kp := qr1 r s
 rw [h] at kp
 obtain ⟨h1, h2, h3, h4⟩ := xak h
 have ku := q6i r
 have hu : qq5 r = (⟨r, []⟩, 0) := by unfold qq5; rw [if_neg (by simp; omega)]
 rw [hu] at ku
 simp only [qx] at ku
 have kn := xlh
 simp only [mapO, stoO] at kn
 refine F45n.goT ?_
 try (refine ev ?_; try exact True.intro)
 (repeat (with_reducible refine ob ?_)); first | refine cl F103 (kp) ?_ | refine clF F103 (kp) (fun _ => by (refine ev2 @qe.eq_1 @xe.eq_1 ?_; try exact True.intro)) ?_
 try (refine ev ?_; try exact True.intro)
 (repeat (with_reducible refine ob ?_)); refine no_ ?_
 try (refine ev ?_; try exact True.intro)
 (repeat (with_reducible refine ob ?_)); first | refine cl F43 (ku) ?_ | refine clF F43 (ku) (fun _ => by (refine ev2 @qe.eq_1 @xe.eq_1 ?_; try exact True.intro)) ?_
 try (refine ev ?_; try exact True.intro)
 (repeat (with_reducible refine ob ?_)); refine no_ ?_
 try (refine ev ?_; try exact True.intro)
 (repeat (with_reducible refine ob ?_)); refine clO [1, 2] F28 (kn) ?_ (hfit := by first | exact ⟨qc, trivial⟩ | exact ⟨qc, qc, trivial⟩ | (refine ev2 @qe.eq_1 @xe.eq_1 ?_; try exact True.intro))
 try (refine ev4 @qds.eq_1 @newS.eq_1 @List.map_nil.{0,0} @qu ?_; try exact True.intro)
 refine qbc [5, 2, 1, 3, 4, 0] [.row [.d (.int .i64 r), .d (.int .i64 s), .d (.ptr 1 0), .d (.map 3), .d (.int .i64 r), .d (.sl 4 []), .d .nilsl, .d (.map 4)], .row [.d (.sl 1 []), .d (.int .i64 0), .d (.map 2)], .map [] 0, .map [] 0, .map [] 0, .row [.d (.int .i64 r), .d (.sl 4 [])]] ?_ (by try (refine ev ?_; try exact True.intro)) (hp := rfl)
 refine pu ?_
 try simp only [brO, j0, qm, stoO, mapO, qmO, tmO, qds, newS, List.map_nil, qu, go_sem, Nat.reduceAdd, Nat.reduceMul, Nat.reduceSub, Nat.reduceEqDiff, Nat.reduceLT, Nat.reduceLeDiff, Nat.reduceBEq, reduceIte, reduceCtorEq, Int.reduceAdd, Int.reduceLT, Int.reduceLE, Int.reduceGT, Int.reduceGE, Int.reduceEq, Int.reduceNe, Int.reduceBEq, Int.reduceBNe, Int.reduceToNat, Int.reduceNeg]
end Go.Proofs.YtkcdbcbpbolgkaaGreatDoor
namespace Go.Proofs.YtkcdbcbpbolgkaaGreatDoor
open Go.Abs
attribute [-go_sem] qgf
noncomputable section
set_option maxRecDepth 100000
set_option linter.defProp false
def d14t := cut Tryz.prog Tryz.f14 news [41, 66, 93] [6, 9, 16] true
@[go_sem] def E14t := ql d14t
def F14t := fnC d14t follows Tryz.func14
end
def qof (s : Sto) : Sto := if (qn8 s).file.length > 16384 then qio (qn8 s) else qn8 s
def StA (b : Brk) (now : Int) (s : Sto) : St :=
 ⟨[(2, true, .d (.ptr 5 0)), (3, true, .d (.ptr 6 0)), (4, true, .d .nilsl)], [.row (qm b), stoO s 2, mapO s.m, qmO b.q, tmO b.t, .row [.d (.ptr 0 0)], .row [.d (.int .i64 now)]], [0], 1⟩
def qdm (b : Brk) (t : Nat) : List ASlot := [.d (.int .i64 b.roles), .d (.int .i64 b.sess), .d (.ptr 1 0), .d (.map 3), .d (.int .i64 b.m.roles), .d (.sl 4 (b.m.ents.map qq)), .own t 10 (b.p.map xe), .d (.map 4)]
def StB (b : Brk) (now : Int) (s : Sto) : St :=
 ⟨[(2, true, .d (.ptr 5 0)), (3, true, .d (.ptr 6 0)), (5, true, .d (.ptr 7 0)), (6, true, .d (.ptr 9 0))], [.row (qdm { b with p := [] } 1), stoO s 2, mapO s.m, qmO b.q, tmO b.t, .row [.d (.ptr 0 0)], .row [.d (.int .i64 now)], .row [.own 0 10 (b.p.map xe)], .map [] 0, .row [.d (.map 8)]], [0, 1], 1⟩
def q11 (b : Brk) (now : Int) (a : MapM Tk TryM × List OutM) (p : Nat × Nat × Nat) : MapM Tk TryM × List OutM :=
 if (x9 (b.queue ⟨p.1, p.2.1, p.2.2⟩)).2 then qfs b a.1 ⟨⟨p.1, p.2.1, p.2.2⟩, (x9 (b.queue ⟨p.1, p.2.1, p.2.2⟩)).1.seq⟩ now a.2 ⟨p.2.2, (x9 (b.queue ⟨p.1, p.2.1, p.2.2⟩)).1⟩ else a
def accT (b : Brk) (now : Int) (l : List (Nat × Nat × Nat)) : MapM Tk TryM × List OutM := l.foldl (q11 b now) (⟨[], 0⟩, b.p)
def fr0T : Fr := [(2, true, .d (.ptr 5 0)), (3, true, .d (.ptr 6 0)), (5, true, .d (.ptr 7 0)), (6, true, .d (.ptr 9 0))]
def StC (b : Brk) (now : Int) (s : Sto) (l : List (Nat × Nat × Nat)) (k : Nat) : St :=
 ⟨fr0T, [.row (qdm { b with p := [] } 1), stoO s 2, mapO s.m, qmO b.q, tmO b.t, .row [.d (.ptr 0 0)], .row [.d (.int .i64 now)], .row [.own 0 10 ((accT b now (l.take k)).2.map xe)], tmO (accT b now (l.take k)).1, .row [.d (.map 8)], .row [.d (.ptr 0 0)]], [0, 1], 1⟩
def stepO (b : Brk) (now : Int) (a : MapM Tk TryM × List OutM) (x : Pk) : MapM Tk TryM × List OutM := qfs b a.1 ⟨⟨x.sess, x.from_, -1⟩, x.label⟩ now a.2 ⟨x.from_, x⟩
def accO (b : Brk) (now : Int) (a : MapM Tk TryM × List OutM) (l : List Pk) : MapM Tk TryM × List OutM := l.foldl (stepO b now) a
def StD (b : Brk) (now : Int) (s : Sto) (l : List Pk) (a : MapM Tk TryM × List OutM) (i : Nat) : St :=
 ⟨[(2, true, .d (.ptr 5 0)), (3, true, .d (.ptr 6 0)), (5, true, .d (.ptr 7 0)), (6, true, .d (.ptr 9 0)), (71, true, .d (.sl 9 (l.map qe))), (72, true, .d (.int .i64 l.length)), (73, true, .d (.int .i64 (i : Nat)))],
  [.row (qdm { b with p := [] } 1), stoO s 2, mapO s.m, qmO b.q, tmO b.t, .row [.d (.ptr 0 0)], .row [.d (.int .i64 now)], .row [.own 0 10 (a.2.map xe)], tmO a.1, .row [.d (.map 8)]], [0, 1], 1⟩
def qxp (b : Brk) (t it : Nat) : List ASlot := [.d (.int .i64 b.roles), .d (.int .i64 b.sess), .d (.ptr 1 0), .d (.map 3), .d (.int .i64 b.m.roles), .d (.sl 4 (b.m.ents.map qq)), .own t 10 [], .d (.map it)]
def xrx (b : Brk) (now : Int) (n ss : Nat) : List AObj :=
 [.row (qxp b 0 5), stoO (qof b.s) 2, mapO (qof b.s).m, qmO b.q, tmO b.t, tmO (accO b now (accT b now (x6 n ss)) (xj b.m)).1]
set_option maxRecDepth 10000 in
theorem xoq (b : Brk) (now : Int) (n ss : Nat) (hn : n ≤ 6) (hss : ss ≤ 32) (br : b.roles = n) (bs : b.sess = ss) (hQ : ∀ k, (b.queue k).Sm) (hT : ∀ t, 0 ≤ (qcj b t).count ∧ (qcj b t).count ≤ 100000)
  (hA : ∀ k, (accT b now ((x6 n ss).take k)).2.length ≤ 1000000) (hM : b.m.Sm) (hB : ∀ i, (accO b now (accT b now (x6 n ss)) ((xj b.m).take i)).2.length ≤ 1000000) (hL : (xj b.m).length ≤ 1000000) (hs : b.s.m.Good) (hF : b.s.file.length ≤ 100000000) :
  qg Tryz.prog 14 [.d (.ptr 0 0), .d (.int .i64 now)] (brO b) (.own 1 10 ((accO b now (accT b now (x6 n ss)) (xj b.m)).2.map xe)) (xrx b now n ss) := by
 have k1 := xnc b.s (by omega)
 have k2 := xli (qn8 b.s) (show b.s.file.length ≤ _ by omega)
 have k3 := q92 (qn8 b.s) hs
 have hm : (qn8 b.s).m = b.s.m := rfl
 rw [hm] at k3
 simp only [stoO, mapO, hm] at k1 k2 k3
 unfold xrx
 refine F14t.go ?_
 try (refine ev6 @brO.eq_1 @qm.eq_1 @stoO.eq_1 @mapO.eq_1 @qmO.eq_1 @tmO.eq_1 ?_; try exact True.intro)
 (repeat (with_reducible refine ob ?_)); refine no_ ?_
 try (refine ev ?_; try exact True.intro)
 (repeat (with_reducible refine ob ?_)); refine clO [1, 2] F61 (k1) ?_ (hfit := by first | exact ⟨qc, trivial⟩ | exact ⟨qc, qc, trivial⟩ | (refine ev2 @qe.eq_1 @xe.eq_1 ?_; try exact True.intro))
 try (refine ev ?_; try exact True.intro)
 (repeat (with_reducible refine ob ?_)); refine clO [1, 2] F62 (k2) ?_ (hfit := by first | exact ⟨qc, trivial⟩ | exact ⟨qc, qc, trivial⟩ | (refine ev2 @qe.eq_1 @xe.eq_1 ?_; try exact True.intro))
 try (refine ev1 @qao.eq_1 ?_; try exact True.intro)
 refine xm5 (fun x : { x : Sto // x = qof b.s } => StA b now x.val) ?_ (fun x => ?_)
 ·(repeat (with_reducible refine ob ?_)); refine xq _ (fun h => ?_) (fun h => ?_)
  ·have hx : qof b.s = qio (qn8 b.s) := by unfold qof; rw [if_pos (by simp at h; omega)]
   have hy : (qio (qn8 b.s)).m = b.s.m := rfl
   try (refine ev ?_; try exact True.intro)
   (repeat (with_reducible refine ob ?_)); refine clO [1, 2] F63r (k3) ?_ (hfit := by first | exact ⟨qc, trivial⟩ | exact ⟨qc, qc, trivial⟩ | (refine ev2 @qe.eq_1 @xe.eq_1 ?_; try exact True.intro))
   try (refine ev ?_; try exact True.intro)
   refine ⟨⟨_, rfl⟩, ?_⟩
   try (refine ev8 @StA.eq_1 @hx @hy @qm.eq_1 @stoO.eq_1 @mapO.eq_1 @qmO.eq_1 @tmO.eq_1 ?_; try exact True.intro)
  ·have hx : qof b.s = qn8 b.s := by unfold qof; rw [if_neg (by simp at h; omega)]
   try (refine ev ?_; try exact True.intro)
   refine ⟨⟨_, rfl⟩, ?_⟩
   try (refine ev8 @StA.eq_1 @hx @hm @qm.eq_1 @stoO.eq_1 @mapO.eq_1 @qmO.eq_1 @tmO.eq_1 ?_; try exact True.intro)
 ·obtain ⟨s, hx⟩ := x
  try (refine ev6 @StA.eq_1 @qm.eq_1 @stoO.eq_1 @mapO.eq_1 @qmO.eq_1 @tmO.eq_1 ?_; try exact True.intro)
  refine pu ?_
  try (refine ev ?_; try exact True.intro)
  refine xm2 (st1 := StB b now s) (by try (refine ev6 @StB.eq_1 @qdm.eq_1 @stoO.eq_1 @mapO.eq_1 @qmO.eq_1 @tmO.eq_1 ?_; try exact True.intro)) ?_
  have kp := xkm { b with s := s, p := [] }
  simp only [brO, qm, stoO, mapO, qmO, tmO, List.map_nil, List.cons_append, List.nil_append] at kp
  try (refine ev7 @StB.eq_1 @qdm.eq_1 @stoO.eq_1 @mapO.eq_1 @qmO.eq_1 @tmO.eq_1 @List.map_nil.{0,0} ?_; try exact True.intro)
  refine clT [0, 1, 2, 3, 4, 10] F64 kp ?_
  try (refine ev ?_; try exact True.intro)
  refine xm1 130 10 0 11 [(n : Nat), (ss : Nat)] ((x6 n ss).map q87) (StC b now s (x6 n ss)) fr0T (q88 n ss (by omega) (by omega)) ?_ (fun k => rfl) (fun k => ⟨_, by simp only [StC, qdm, List.getElem?_cons_zero, br, bs]; rfl⟩) (fun k vs hk => ?_) ?_ (fun vs hv => ?_)
  ·try simp only [StC, fr0T, qdm, stoO, mapO, qmO, tmO, accT, List.take_zero, List.foldl_nil, List.map_nil, go_sem, Nat.reduceAdd, Nat.reduceMul, Nat.reduceSub, Nat.reduceEqDiff, Nat.reduceLT, Nat.reduceLeDiff, Nat.reduceBEq, reduceIte, reduceCtorEq, Int.reduceAdd, Int.reduceLT, Int.reduceLE, Int.reduceGT, Int.reduceGE, Int.reduceEq, Int.reduceNe, Int.reduceBEq, Int.reduceBNe, Int.reduceToNat, Int.reduceNeg]
  ·rw [List.getElem?_map, Option.map_eq_some_iff] at hk
   obtain ⟨p, hp, rfl⟩ := hk
   have kq := qxl (b.q.get ⟨p.1, p.2.1, p.2.2⟩)
   have kf := qzu (b.queue ⟨p.1, p.2.1, p.2.2⟩) (hQ _)
   have hstep : accT b now ((x6 n ss).take (k + 1)) = q11 b now (accT b now ((x6 n ss).take k)) p := by
    have hk : k < (x6 n ss).length := (List.getElem?_eq_some_iff.1 hp).1
    have he : (x6 n ss)[k] = p := (List.getElem?_eq_some_iff.1 hp).2
    rw [List.take_succ_eq_append_getElem hk, accT, List.foldl_append, he]; rfl
   have hAk := hA k
   have kr := fun x => q1z { b with s := s, p := [] } (accT b now ((x6 n ss).take k)).1 p.1 p.2.1 p.2.2 (x9 (b.queue ⟨p.1, p.2.1, p.2.2⟩)).1.seq now (accT b now ((x6 n ss).take k)).2 x (hT _) hAk
   simp only [brO, qm, stoO, mapO, qmO, tmO, List.map_nil, List.cons_append, List.nil_append, xe, qe] at kr
   simp only [encQ, qe] at kf
   simp only [encQ] at kq
   unfold StC
   rw [hstep]
   unfold q11
   generalize accT b now ((x6 n ss).take k) = acc at hAk kr ⊢
   try simp only [fr0T, q87, jk, qdm, stoO, mapO, qmO, tmO, go_sem, Nat.reduceAdd, Nat.reduceMul, Nat.reduceSub, Nat.reduceEqDiff, Nat.reduceLT, Nat.reduceLeDiff, Nat.reduceBEq, reduceIte, reduceCtorEq, Int.reduceAdd, Int.reduceLT, Int.reduceLE, Int.reduceGT, Int.reduceGE, Int.reduceEq, Int.reduceNe, Int.reduceBEq, Int.reduceBNe, Int.reduceToNat, Int.reduceNeg]
   (repeat (with_reducible refine ob ?_)); refine clF F15 (kf) (fun hg => by exact ⟨kq, trivial⟩) ?_
   generalize x9 (b.queue ⟨p.1, p.2.1, p.2.2⟩) = F at kr ⊢
   obtain ⟨x, ok⟩ := F
   simp only at kr ⊢
   try (refine ev ?_; try exact True.intro)
   cases ok
   ·try (refine ev ?_; try exact True.intro)
    (repeat (with_reducible refine ob ?_)); refine no_ ?_
    show Turn 11 _ _
    refine .weak ?_ (.refl _)
    try (refine ev ?_; try exact True.intro)
   ·have kr := kr ⟨p.2.2, x⟩
    have hbr : ∀ tr t now l x, qfs { b with s := s, p := [] } tr t now l x = qfs b tr t now l x := fun _ _ _ _ _ => rfl
    simp only [hbr] at kr
    try (refine ev ?_; try exact True.intro)
    (repeat (with_reducible refine ob ?_)); refine qck ?_
    try (refine ev ?_; try exact True.intro)
    generalize qfs b acc.1 ⟨⟨p.1, p.2.1, p.2.2⟩, x.seq⟩ now acc.2 ⟨p.2.2, x⟩ = acc2 at kr ⊢
    refine clT [0, 1, 2, 3, 4, 8] F65 kr ?_ (hn := by first | decide | (simp only [xu, vm, go_sem]; decide))
    try (refine ev ?_; try exact True.intro)
    show Turn 11 _ _
    refine .weak ?_ (.refl _)
    try (refine ev ?_; try exact True.intro)
    decide
  ·show AWp _ _ _ _ _
   simp only [StC, List.length_map, List.take_length]
   have ko := qev b.m hM
   simp only [qx] at ko
   generalize accT b now (x6 n ss) = acc at hB ⊢
   generalize xj b.m = O at ko hB hL ⊢
   refine pu ?_
   try (refine ev6 @fr0T.eq_1 @qdm.eq_1 @stoO.eq_1 @mapO.eq_1 @qmO.eq_1 @tmO.eq_1 ?_; try exact True.intro)
   (repeat (with_reducible refine ob ?_)); first | refine cl F18 (ko) ?_ | refine clF F18 (ko) (fun _ => by (refine ev2 @qe.eq_1 @xe.eq_1 ?_; try exact True.intro)) ?_
   try (refine ev1 @List.length_map.{0,0} ?_; try exact True.intro)
   refine qk (fun i : { i : Nat // i ≤ O.length } => StD b now s O (accO b now acc (O.take i.val)) i.val) (fun i => O.length - i.val) ⟨0, Nat.zero_le _⟩ ?_ (fun i => ?_)
   ·try simp only [StD, qdm, stoO, mapO, qmO, tmO, accO, List.take_zero, List.foldl_nil, List.map_nil, Int.ofNat_zero, go_sem, Nat.reduceAdd, Nat.reduceMul, Nat.reduceSub, Nat.reduceEqDiff, Nat.reduceLT, Nat.reduceLeDiff, Nat.reduceBEq, reduceIte, reduceCtorEq, Int.reduceAdd, Int.reduceLT, Int.reduceLE, Int.reduceGT, Int.reduceGE, Int.reduceEq, Int.reduceNe, Int.reduceBEq, Int.reduceBNe, Int.reduceToNat, Int.reduceNeg]
   obtain ⟨i, hi⟩ := i
   have hBi := hB i
   have kr := fun m f n x => q1z { b with s := s, p := [] } (accO b now acc (O.take i)).1 m f (-1) n now (accO b now acc (O.take i)).2 x (hT _) hBi
   have hbr : ∀ tr t now l x, qfs { b with s := s, p := [] } tr t now l x = qfs b tr t now l x := fun _ _ _ _ _ => rfl
   simp only [hbr, brO, qm, stoO, mapO, qmO, tmO, List.map_nil, List.cons_append, List.nil_append, xe, qe] at kr
   generalize ha : accO b now acc (O.take i) = a at hBi kr ⊢
   try (refine ev7 @StD.eq_1 @ha @qdm.eq_1 @stoO.eq_1 @mapO.eq_1 @qmO.eq_1 @tmO.eq_1 ?_; try exact True.intro)
   (repeat (with_reducible refine ob ?_)); refine xq _ (fun h => ?_) (fun h => ?_)
   ·have hil : i < O.length := by simp at h; omega
    have hstep : accO b now acc (O.take (i + 1)) = stepO b now a O[i] := by
     rw [List.take_succ_eq_append_getElem hil, accO, List.foldl_append, ← ha]; rfl
    have kr := kr (O[i]).sess (O[i]).from_ (O[i]).label ⟨(O[i]).from_, O[i]⟩
    (refine ev2 (qi qe O hil) @qe.eq_1 ?_; try exact True.intro)
    unfold stepO at hstep
    generalize qfs b a.1 ⟨⟨(O[i]).sess, (O[i]).from_, -1⟩, (O[i]).label⟩ now a.2 ⟨(O[i]).from_, O[i]⟩ = a2 at kr hstep ⊢
    (repeat (with_reducible refine ob ?_))
    refine clT [0, 1, 2, 3, 4, 8] F65 kr ?_ (hn := by first | decide | (simp only [xu, vm, go_sem]; decide))
    try (refine ev ?_; try exact True.intro)
    refine ⟨⟨i + 1, hil⟩, ?_, by dsimp only; omega⟩
    try (refine ev8 @StD.eq_1 @hstep @qdm.eq_1 @stoO.eq_1 @mapO.eq_1 @qmO.eq_1 @tmO.eq_1 (qf (show i < 9223372036854775807 by omega)) ?_; try exact True.intro)
    decide
   ·have hie : i = O.length := by simp at h; omega
    subst hie
    rw [List.take_length] at ha
    try (refine ev2 @ha hx.symm ?_; try exact True.intro)
    refine qbc [0, 1, 2, 3, 4, 6, 7, 8, 5, 9] [.row (qxp b 1 5), stoO s 2, mapO s.m, qmO b.q, tmO b.t, tmO a.1, .row [.d (.ptr 0 0)], .row [.d (.int .i64 now)], .row [.own 0 10 (a.2.map xe)], .row [.d (.map 5)]] ?_ (by try (refine ev5 @qxp.eq_1 @mapO.eq_1 @stoO.eq_1 @qmO.eq_1 @tmO.eq_1 ?_; try exact True.intro)) (hp := rfl)
    refine pu ?_
    try (refine ev5 @qxp.eq_1 @stoO.eq_1 @mapO.eq_1 @qmO.eq_1 @tmO.eq_1 ?_; try exact True.intro)
  ·obtain ⟨p, _, rfl⟩ := List.mem_map.1 hv
   exact ⟨rfl, rfl⟩
end Go.Proofs.YtkcdbcbpbolgkaaGreatDoor
namespace Go.Proofs.YtkcdbcbpbolgkaaGreatDoor
open Go.Abs
theorem q12 (b : Brk) (tr : MapM Tk TryM) (t : Tk) (now : Int) (l : List OutM) (x : OutM) : (qfs b tr t now l x).2.length ≤ l.length + 1 := by
 unfold qfs
 split <;> simp
theorem qxq {α β : Type} (f : β × List OutM → α → β × List OutM) (h : ∀ a x, (f a x).2.length ≤ a.2.length + 1) : ∀ (l : List α) (a : β × List OutM), (l.foldl f a).2.length ≤ a.2.length + l.length
 | [], a => by simp
 | x :: l, a => by
  have h1 := qxq f h l (f a x)
  have h2 := h a x
  simp only [List.foldl_cons, List.length_cons]
  omega
theorem q7c (b : Brk) (now : Int) (l : List (Nat × Nat × Nat)) : (accT b now l).2.length ≤ b.p.length + l.length :=
 qxq (q11 b now) (fun a x => by
  unfold q11
  split
  ·exact q12 _ _ _ _ _ _
  ·omega) l _
theorem q7d (b : Brk) (now : Int) (a : MapM Tk TryM × List OutM) (l : List Pk) : (accO b now a l).2.length ≤ a.2.length + l.length :=
 qxq (stepO b now) (fun a x => q12 _ _ _ _ _ _) l _
end Go.Proofs.YtkcdbcbpbolgkaaGreatDoor
namespace Go.Proofs.YtkcdbcbpbolgkaaGreatDoor
open Go.Abs
structure NS (n ss : Nat) : Prop where
 n1 : 1 ≤ n
 n6 : n ≤ 6
 s1 : 1 ≤ ss
 s32 : ss ≤ 32
structure BI (n ss k j : Nat) (b : Brk) : Prop where
 ro : b.roles = n
 se : b.sess = ss
 st : b.s.Ok (k + 401)
 ln : b.s.m.l.length ≤ 5 * k
 qv : ∀ x, yc (b.queue x) = true
 qw : ∀ x, (b.queue x).W
 kq : ∀ x, ¬ PrOk n ss x → b.q.get x = none
 qa : ∀ x, ∀ p ∈ (b.queue x).items, p.sess = x.s ∧ p.from_ = x.f ∧ p.to = x.t
 mw : MW b.m
 mr : b.m.roles = n
 ms : ∀ e ∈ b.m.ents, e.sess ≤ ss
 pl : b.p.length ≤ k
 tr : ∀ t, 0 ≤ (qcj b t).count ∧ (qcj b t).count ≤ j
 rq : ∀ x, PrOk n ss x → Rep b.s.m x.name (b.queue x)
 rm : URep b.s.m b.m
theorem q7e {n ss : Nat} (h : NS n ss) : BI n ss 0 0 (j0 n ss) := by
 have hq : ∀ x, (j0 n ss).queue x = noQ := fun x => rfl
 have ht : ∀ t, qcj (j0 n ss) t = ⟨0, 0⟩ := fun t => rfl
 refine ⟨rfl, rfl, q30 _, by simp [j0, newS, qds], fun x => by rw [hq]; decide, fun x => by rw [hq]; exact qox, fun x _ => rfl, fun x p hp => by rw [hq] at hp; simp [noQ] at hp, ⟨?_, ?_, ?_, ?_⟩, rfl, fun e he => by simp [j0] at he, by simp [j0], fun t => by rw [ht]; simp, fun x _ => by rw [hq]; exact xeg _, xaa _⟩
 ·have := h.n1; simp only [j0]; omega
 ·have := h.n6; simp only [j0]; omega
 ·simp [j0]
 ·intro x hx; simp [j0] at hx
theorem qbf (b : Brk) (s' : Sto) (x y : Pr) (q : Qu) : ({ b with s := s', q := b.q.put x q } : Brk).queue y = if y = x then q else b.queue y := by
 unfold Brk.queue
 simp only [MapM.get_put]
 split <;> rfl
section
variable {n ss k j : Nat} {b : Brk}
theorem BI.put (H : BI n ss k j b) {x : Pr} (hx : PrOk n ss x) {q : Qu} (v : yc q = true) (w : q.W) (a : ∀ p ∈ q.items, p.sess = x.s ∧ p.from_ = x.f ∧ p.to = x.t) {s' : Sto} (ok : s'.Ok (k + 1 + 401)) (ln : s'.m.l.length ≤ 5 * (k + 1))
  (rq : ∀ y, PrOk n ss y → Rep s'.m y.name (if y = x then q else b.queue y)) (rm : URep s'.m b.m) : BI n ss (k + 1) j { b with s := s', q := b.q.put x q } := by
 refine ⟨H.ro, H.se, ok, ln, fun y => ?_, fun y => ?_, fun y hy => ?_, fun y p hp => ?_, H.mw, H.mr, H.ms, Nat.le_succ_of_le H.pl, H.tr, fun y hy => ?_, rm⟩
 ·rw [qbf]; split
  ·exact v
  ·exact H.qv y
 ·rw [qbf]; split
  ·exact w
  ·exact H.qw y
 ·simp only [MapM.get_put]
  rw [if_neg (by rintro rfl; exact hy hx)]
  exact H.kq y hy
 ·rw [qbf] at hp
  split at hp
  ·rename_i h; subst h; exact a p hp
  ·exact H.qa y p hp
 ·rw [qbf]; exact rq y hy
theorem BI.change (hn : NS n ss) (H : BI n ss k j b) (hk : k ≤ 70) {x : Pr} (hx : PrOk n ss x) {q : Qu} (v : yc q = true) (w : q.W) (a : ∀ p ∈ q.items, p.sess = x.s ∧ p.from_ = x.f ∧ p.to = x.t) :
  ∃ s' c, qaf b x x.name q = ({ b with s := s', q := b.q.put x q }, 0, c) ∧ BI n ss (k + 1) j { b with s := s', q := b.q.put x q } := by
 have hch : vh (b.queue x) q x.name = (vu (b.queue x) q x.name 4, 0) := by
  unfold vh
  rw [if_neg]
  simp [H.qv x, v, xaj]
 have hln := H.ln
 unfold qaf
 rw [hch]
 rw [if_neg (by simp)]
 by_cases he : vu (b.queue x) q x.name 4 = []
 ·rw [if_pos he]
  obtain ⟨h1, h2⟩ := q6q he
  refine ⟨b.s, false, rfl, H.put hx v w a (H.st.mono (by omega)) (by omega) (fun y hy => ?_) H.rm⟩
  split
  ·rename_i h; subst h; exact xjx h1 h2 (H.rq y hy)
  ·exact H.rq y hy
 ·rw [if_neg he]
  obtain ⟨c1, c2, c3, c4⟩ := q1y (a := b.queue x) H.st (by omega) (xn5 v) w (show x.name.length ≤ 30 by simp [Pr.name, qm0]) he
  rw [if_neg (by simp [c1])]
  refine ⟨_, true, rfl, H.put hx v w a (c2.mono (by omega)) (by simp only; omega) (fun y hy => ?_) (xab H.rm fun k' hk' => ?_)⟩
  ·split
   ·rename_i h; subst h; exact xjw (H.rq y hy) c4
   ·rename_i h
    exact xef (xop hn.n6 hn.s32 hx hy (fun e => h e.symm)) (H.rq y hy) c4
  ·have hno : ∀ a : List UInt8, x.name ++ a ≠ k' := fun a h => by
    rw [← h, q7b] at hk'; cases hk'
   rw [c4, qil (b.queue x) q x.name k' (hno _) (fun d _ => hno _) _ 4 (Nat.le_refl _)]
theorem BI.manage (H : BI n ss k j b) (hk : k ≤ 70) {m' : Mg} (o : OneStep b.m m') (ms : ∀ e ∈ m'.ents, e.sess ≤ ss) :
  ∃ s', qci b m' = ({ b with s := s', m := m' }, 0, true) ∧ BI n ss (k + 1) j { b with s := s', m := m' } := by
 have hch := o.changes H.mw
 obtain ⟨y, hy, h1⟩ := o.one
 have hln := H.ln
 have hen := o.mw.en y hy
 obtain ⟨c1, c2, c3, c4⟩ := xac H.st (k := uKey y.sess) (v := qe4 y) (by omega) (by simp [uKey]) (by simp [uKey]) (by have := xfb o.mw.r6 hen; omega)
 unfold qci
 rw [hch, h1]
 rw [if_neg (by simp), if_neg (by simp), if_neg (by simp [c1])]
 refine ⟨_, rfl, H.ro, H.se, c2.mono (by omega), by simp only; omega, H.qv, H.qw, H.kq, H.qa, o.mw, o.roles.trans H.mr, ms, Nat.le_succ_of_le H.pl, H.tr, fun x hx => xkp (H.rq x hx) fun a _ => ?_, xfa H.mw o.mw o.keep H.rm fun k' => by rw [c4, h1]⟩
 rw [c4, qr0]
 intro o' ho'
 simp only [List.mem_cons, List.not_mem_nil, or_false] at ho'
 subst ho'
 intro h
 have := q7b x a
 rw [← h, xkd] at this
 cases this
end
def Pk.key (p : Pk) : Pr := ⟨p.sess, p.from_, p.to⟩
def qbj (k : Int) : Bool := k == 1 || k == 2 || k == 4
def qbw (b : Brk) (p : Pk) : Bool := qbj p.kind && qj p && !decide (p.sess > b.sess) && !decide (p.from_ ≥ b.roles) && !decide (p.to ≥ b.roles)
def zg (b : Brk) (p : Pk) : Brk × Int × Bool :=
 if !qbw b p then (b, 1, false)
 else if p.kind = 1 then qll b p.key p.key.name p
 else if p.kind = 2 then qs4 b p.key p.key.name p.seq
 else qfk b p
theorem qoz {n ss k j : Nat} {b : Brk} (H : BI n ss k j b) {p : Pk} (h : qbw b p = true) (hk : p.kind = 1 ∨ p.kind = 2) : PrOk n ss p.key := by
 have h1 := H.ro
 have h2 := H.se
 simp only [qbw, Bool.and_eq_true, Bool.not_eq_true', decide_eq_false_iff_not, qj, qep, decide_eq_true_eq] at h
 rcases hk with hk | hk
 ·simp only [hk, if_true, data, qcx, role, Bool.and_eq_true, decide_eq_true_eq, bne_iff_ne, ne_eq] at h
  exact ⟨by simp only [Pk.key]; omega, by simp only [Pk.key]; omega, by simp only [Pk.key]; omega, by simp only [Pk.key]; omega, by simp only [Pk.key]; omega, by simp only [Pk.key]; omega, by simp only [Pk.key]; omega⟩
 ·have e : ¬ ((2 : Int) = 1) := by decide
  simp only [hk, e, if_false, ack, qcx, role, Bool.and_eq_true, decide_eq_true_eq, bne_iff_ne, ne_eq, if_true] at h
  exact ⟨by simp only [Pk.key]; omega, by simp only [Pk.key]; omega, by simp only [Pk.key]; omega, by simp only [Pk.key]; omega, by simp only [Pk.key]; omega, by simp only [Pk.key]; omega, by simp only [Pk.key]; omega⟩
theorem xfo {p : Pk} (hk : p.kind = 4) (hv : qj p = true) : p = ve p.sess p.from_ p.label ∧ (p.label = 1 ∨ p.label = 2) := by
 have e1 : ¬ ((4 : Int) = 1) := by decide
 have e2 : ¬ ((4 : Int) = 2) := by decide
 simp only [qj, qep, hk, e1, e2, if_false, order, bare, Bool.and_eq_true, Bool.or_eq_true, decide_eq_true_eq, beq_iff_eq] at hv
 obtain ⟨_, ⟨⟨⟨_, hl⟩, ⟨⟨h1, h2⟩, h3⟩⟩, h4⟩, h5⟩ := hv
 refine ⟨?_, hl⟩
 have v0 : p.values = [] := List.eq_nil_of_length_eq_zero (by omega)
 have c0 : p.clock = [] := List.eq_nil_of_length_eq_zero (by omega)
 obtain ⟨a1, a2, a3, a4, a5, a6, a7, a8, a9⟩ := p
 simp only at hk h1 h4 h5 v0 c0
 subst hk; subst h1; subst h4; subst h5; subst v0; subst c0
 rfl
section
variable {n ss k j : Nat} {b : Brk}
theorem BI.ack (H : BI n ss k j b) (hb : b.p.length + 1 ≤ k) (p : Pk) : BI n ss k j (qfl b p) :=
 ⟨H.ro, H.se, H.st, H.ln, H.qv, H.qw, H.kq, H.qa, H.mw, H.mr, H.ms, by simp only [qfl, List.length_append, List.length_cons, List.length_nil]; exact hb, H.tr, H.rq, H.rm⟩
theorem BI.mono (H : BI n ss k j b) {k' j' : Nat} (h1 : k ≤ k') (h2 : j ≤ j') : BI n ss k' j' b :=
 ⟨H.ro, H.se, H.st.mono (by omega), by have := H.ln; omega, H.qv, H.qw, H.kq, H.qa, H.mw, H.mr, H.ms, by have := H.pl; omega, fun t => by have := H.tr t; omega, H.rq, H.rm⟩
inductive Rcv (n ss k j : Nat) (b : Brk) (p : Pk) : Brk × Int × Bool → Prop
 | no (e : Int) (he : e ≠ 0) (hd : p.kind = 1 → e ≠ 21) : Rcv n ss k j b p (b, e, false)
 | dup (hk : p.kind = 1) (hx : PrOk n ss p.key) (ho : (ze (b.queue p.key) p).2 = 21) (hv : qj p = true) (H : BI n ss (k + 1) j (qfl b p)) : Rcv n ss k j b p (qfl b p, 21, false)
 | data (s' : Sto) (c : Bool) (hk : p.kind = 1) (hx : PrOk n ss p.key) (ho : (ze (b.queue p.key) p).2 = 0) (hv : qj p = true) (H : BI n ss (k + 1) j { b with s := s', q := b.q.put p.key (ze (b.queue p.key) p).1, p := b.p ++ [⟨p.from_, (qha p).1⟩] }) :
   Rcv n ss k j b p ({ b with s := s', q := b.q.put p.key (ze (b.queue p.key) p).1, p := b.p ++ [⟨p.from_, (qha p).1⟩] }, 0, c)
 | ack (s' : Sto) (c : Bool) (hk : p.kind = 2) (hx : PrOk n ss p.key) (ho : (xo (b.queue p.key) p.seq).2 = 0) (H : BI n ss (k + 1) j { b with s := s', q := b.q.put p.key (xo (b.queue p.key) p.seq).1 }) :
   Rcv n ss k j b p ({ b with s := s', q := b.q.put p.key (xo (b.queue p.key) p.seq).1 }, 0, c)
 | rep (s' : Sto) (hk : p.kind = 4) (ho : (xl b.m p).2 = 0) (H : BI n ss (k + 1) j { b with s := s', m := (xl b.m p).1 }) : Rcv n ss k j b p ({ b with s := s', m := (xl b.m p).1 }, 0, true)
theorem q45 (H : BI n ss k j b) {p : Pk} (h : (ze (b.queue p.key) p).2 = 0) : ∀ x ∈ (ze (b.queue p.key) p).1.items, x.sess = p.key.s ∧ x.from_ = p.key.f ∧ x.to = p.key.t := by
 rw [(qh4 h).2.2.2.2.2]
 intro x hx
 rcases List.mem_append.1 hx with hx | hx
 ·exact H.qa _ x hx
 ·simp only [List.mem_cons, List.not_mem_nil, or_false] at hx
  subst hx; exact ⟨rfl, rfl, rfl⟩
theorem qlm (H : BI n ss k j b) {x : Pr} {s : Int} : ∀ p ∈ (xo (b.queue x) s).1.items, p.sess = x.s ∧ p.from_ = x.f ∧ p.to = x.t := by
 by_cases h : (xo (b.queue x) s).2 = 0
 ·rw [(qg4 h).2.2.2]
  exact fun p hp => H.qa x p (List.mem_of_mem_drop hp)
 ·rw [qu0 h]
  intro p hp; simp [ja] at hp
theorem xfp {m : Mg} {s r label : Int} {ss : Nat} (hm : MW m) (hl : label = 1 ∨ label = 2) (h : (xl m (ve s r label)).2 = 0) (ms : ∀ e ∈ m.ents, e.sess ≤ ss) (h1 : 1 ≤ s) (h32 : s ≤ 32) (h0 : 0 ≤ r) (hr : r < m.roles) : ∀ e ∈ (xl m (ve s r label)).1.ents, e.sess ≤ ss := by
 rcases qfi m s r label hm h1 h32 h0 hr hl with e | ⟨k, hk, hks, _, hb, _, e, he, hw⟩
 ·exact absurd h e
 ·rw [e]
  intro x hx
  rcases List.mem_or_eq_of_mem_set hx with h | h
  ·exact ms x h
  ·subst h
   rw [qg1]
   exact ms _ (List.getElem_mem hk)
theorem qgd (hn : NS n ss) (H : BI n ss k j b) (hk70 : k ≤ 70) (p : Pk) (hw : p.W) : Rcv n ss k j b p (zg b p) := by
 have hpl := H.pl
 unfold zg
 by_cases hok : qbw b p = true
 ·rw [if_neg (by simp [hok])]
  have hv : qj p = true := by
   simp only [qbw, Bool.and_eq_true] at hok; exact hok.1.1.1.2
  by_cases k1 : p.kind = 1
  ·rw [if_pos k1]
   have hx := qoz H hok (.inl k1)
   unfold qll qbo
   by_cases ho : (ze (b.queue p.key) p).2 = 0
   ·rw [if_pos ho]
    obtain ⟨s', c, e, H'⟩ := H.change hn hk70 hx (qg3 _ p) (q44 (H.qw _) hw) (q45 H ho)
    rw [e, if_pos (.inl rfl)]
    exact .data s' c k1 hx ho hv (H'.ack (by simp only; omega) p)
   ·rw [if_neg ho]
    by_cases h21 : (ze (b.queue p.key) p).2 = 21
    ·rw [if_pos (.inr h21), h21]
     exact .dup k1 hx h21 hv ((H.mono (Nat.le_succ k) (Nat.le_refl j)).ack (by omega) p)
    ·rw [if_neg (by simp only [not_or]; exact ⟨ho, h21⟩)]
     exact .no _ ho (fun _ => h21)
  ·rw [if_neg k1]
   by_cases k2 : p.kind = 2
   ·rw [if_pos k2]
    have hx := qoz H hok (.inr k2)
    unfold qs4
    by_cases ho : (xo (b.queue p.key) p.seq).2 = 0
    ·rw [if_neg (by simp [ho])]
     obtain ⟨s', c, e, H'⟩ := H.change hn hk70 hx (qd5 _ p.seq) (qr6 (H.qw _)) (qlm H)
     rw [e]
     exact .ack s' c k2 hx ho H'
    ·rw [if_pos ho]
     exact .no _ ho (fun h => absurd h k1)
   ·rw [if_neg k2]
    have k4 : p.kind = 4 := by
     simp only [qbw, qbj, Bool.and_eq_true, Bool.or_eq_true, beq_iff_eq] at hok
     rcases hok.1.1.1.1 with (h | h) | h
     ·exact absurd h k1
     ·exact absurd h k2
     ·exact h
    unfold qfk
    by_cases ho : (xl b.m p).2 = 0
    ·rw [if_neg (by simp [ho])]
     obtain ⟨hp, hl⟩ := xfo k4 hv
     have hon : OneStep b.m (xl b.m p).1 := by
      have := qux (s := p.sess) (r := p.from_) (label := p.label) H.mw hl (by rw [← hp]; exact ho)
      rwa [← hp] at this
     have hms : ∀ e ∈ (xl b.m p).1.ents, e.sess ≤ ss := by
      have hg : (!zh b.m || p.kind != 4 || !qj p || decide (p.from_ ≥ b.m.roles)) = false := by
       cases hgg : (!zh b.m || p.kind != 4 || !qj p || decide (p.from_ ≥ b.m.roles)) with
       | false => rfl
       | true => unfold xl at ho; rw [if_pos hgg] at ho; cases ho
      obtain ⟨_, _, _, g4, g5⟩ := xoc hg
      have hs : 1 ≤ p.sess ∧ p.sess ≤ 32 := by
       simp only [qj, qep, Bool.and_eq_true, decide_eq_true_eq] at hv
       omega
      have := xfp (s := p.sess) (r := p.from_) (label := p.label) (ss := ss) H.mw hl (by rw [← hp]; exact ho) H.ms hs.1 hs.2 g5 g4
      rwa [← hp] at this
     obtain ⟨s', e, H'⟩ := H.manage hk70 hon hms
     rw [e]
     exact .rep s' k4 ho H'
    ·rw [if_pos ho]
     exact .no _ ho (fun h => absurd h k1)
 ·rw [if_pos (by simpa using hok)]
  exact .no 1 (by decide) (fun _ => by decide)
theorem BI.recv (hn : NS n ss) (H : BI n ss k j b) (hk70 : k ≤ 70) (p : Pk) (hw : p.W) : BI n ss (k + 1) j (zg b p).1 := by
 have := qgd hn H hk70 p hw
 generalize zg b p = R at this
 cases this with
 | no e _ _ => exact H.mono (Nat.le_succ k) (Nat.le_refl j)
 | dup _ _ _ _ H' => exact H'
 | data _ _ _ _ _ _ H' => exact H'
 | ack _ _ _ _ _ H' => exact H'
 | rep _ _ _ H' => exact H'
theorem xkq {m : Mg} {s : Int} {ss : Nat} (hm : MW m) (h : (zx m s).2 = 0) (ms : ∀ e ∈ m.ents, e.sess ≤ ss) (h1 : 1 ≤ s) (h32 : s ≤ 32) (hs : s ≤ ss) : ∀ e ∈ (zx m s).1.ents, e.sess ≤ ss := by
 rcases qry m s hm h1 h32 with ⟨_, e⟩ | ⟨hf, a, c, he, e, hw⟩
 ·rw [e] at h; cases h
 ·rw [e]
  intro x hx
  rw [he] at ms
  simp only [List.mem_append, List.mem_singleton] at hx ms
  rcases hx with (hx | hx) | hx
  ·exact ms x (.inl hx)
  ·subst hx; exact hs
  ·exact ms x (.inr hx)
theorem qln (hn : NS n ss) (H : BI n ss k j b) (hk70 : k ≤ 70) (s : Int) : (∃ e, e ≠ 0 ∧ qbn b s = (b, e, false)) ∨ ∃ s', (zx b.m s).2 = 0 ∧ 1 ≤ s ∧ s ≤ ss ∧ qbn b s = ({ b with s := s', m := (zx b.m s).1 }, 0, true) ∧ BI n ss (k + 1) j { b with s := s', m := (zx b.m s).1 } := by
 unfold qbn
 by_cases h1 : (decide (s < 1) || decide (s > b.sess)) = true
 ·rw [if_pos h1]; exact .inl ⟨2, by decide, rfl⟩
 ·rw [if_neg h1]
  have hse := H.se
  have h32 := hn.s32
  simp only [Bool.or_eq_true, decide_eq_true_eq, not_or] at h1
  by_cases ho : (zx b.m s).2 = 0
  ·rw [if_neg (by simp [ho])]
   obtain ⟨s', e, H'⟩ := H.manage hk70 (q1v H.mw ho) (xkq H.mw ho H.ms (by omega) (by omega) (by omega))
   exact .inr ⟨s', ho, by omega, by omega, e, H'⟩
  ·rw [if_pos ho]; exact .inl ⟨_, ho, rfl⟩
theorem BI.begin (hn : NS n ss) (H : BI n ss k j b) (hk70 : k ≤ 70) (s : Int) : BI n ss (k + 1) j (qbn b s).1 := by
 rcases qln hn H hk70 s with ⟨e, _, h⟩ | ⟨s', _, _, _, h, H'⟩
 ·rw [h]; exact H.mono (Nat.le_succ k) (Nat.le_refl j)
 ·rw [h]; exact H'
end
end Go.Proofs.YtkcdbcbpbolgkaaGreatDoor
namespace Go.Proofs.YtkcdbcbpbolgkaaGreatDoor
open Go.Abs
theorem xkr {m : Cont} (h : m.Good) : (qw7 (jm m)).length ≤ 401 * 70000 := by
 have hel : (jm m).length ≤ 400 := by rw [qk5]; exact h.few
 have h0 := (xet (jm m) (xeu h) (jm m).length (Nat.le_refl _)).file
 have h1 : qw7 (jm m) = qcn (cAt (jm m) (jm m).length).1 (cAt (jm m) (jm m).length).2 := by rw [qw7, cAt, List.take_length]
 have h2 := qmr (cAt (jm m) (jm m).length).1 (cAt (jm m) (jm m).length).2
 have h3 := Nat.mul_le_mul_right 70000 hel
 rw [h1]; omega
theorem qxr (s : Sto) : (qof s).m = s.m := by unfold qof; split <;> rfl
theorem xks {s : Sto} {k : Nat} (h : s.Ok (k + 401)) : (qof s).Ok (k + 401) := by
 refine ⟨by rw [qxr]; exact h.good, ?_⟩
 unfold qof
 split
 ·have := xkr h.good
  exact Nat.le_trans this (Nat.mul_le_mul_right _ (by omega))
 ·exact h.file
theorem qge {α β : Type} (f : α → List β) (c : Nat) : ∀ (l : List α), (∀ x ∈ l, (f x).length ≤ c) → (l.flatMap f).length ≤ l.length * c
 | [], _ => by simp
 | x :: l, h => by
  have h1 := h x List.mem_cons_self
  have h2 := qge f c l fun y hy => h y (List.mem_cons_of_mem _ hy)
  rw [List.flatMap_cons, List.length_append, List.length_cons, Nat.add_mul]
  omega
theorem qu1 (n ss : Nat) : (x6 n ss).length ≤ ss * (n * n) := by
 unfold x6 in3
 have h1 : ∀ s f, (in1 n s f 0).length ≤ n := fun s f => by
  unfold in1
  have := qge (fun t => if f = t then [] else [(s, f, t)]) 1 (List.range' 0 (n - 0)) (fun x _ => by split <;> simp)
  simpa using this
 have h2 : ∀ s, (in2 n s 0).length ≤ n * n := fun s => by
  unfold in2
  have := qge (fun f => in1 n s f 0) n (List.range' 0 (n - 0)) (fun x _ => h1 s x)
  simpa using this
 have := qge (fun s => in2 n s 0) (n * n) (List.range' 1 (ss + 1 - 1)) (fun x _ => h2 x)
 simpa using this
theorem qu2 {m : Mg} (h : MW m) : (xj m).length ≤ 200 := by
 unfold xj
 split
 ·have hl : m.ents.length ≤ 32 := by
   have := qny h.inc (by intro x hx; obtain ⟨e, he, rfl⟩ := List.mem_map.1 hx; exact (h.en e he).s1) (by intro x hx; obtain ⟨e, he, rfl⟩ := List.mem_map.1 hx; exact (h.en e he).s32)
   rwa [List.length_map] at this
  have h6 := h.r6
  have hx : ∀ i ∈ List.range m.ents.length, (qq7 (m.ents.getD i default)).length ≤ 6 := fun i hi => by
   have hi' : i < m.ents.length := by simpa using hi
   rw [zc hi']
   have hen := h.en _ (List.getElem_mem hi')
   have h1 := qhv m.ents[i].sess (yt m.ents[i]) (za m.ents[i]) (za m.ents[i]).length
   have h2 : (za m.ents[i]).length ≤ 6 := by
    have := hen.ml; have := hen.ol
    unfold za; split <;> omega
   unfold qq7; omega
  have := qge (fun i => qq7 (m.ents.getD i default)) 6 (List.range m.ents.length) hx
  unfold ws
  simp only [List.length_range] at this
  omega
 ·simp
section
variable {n ss k j : Nat} {b : Brk}
def wz (b : Brk) (now : Int) (n ss : Nat) : Brk := { b with s := qof b.s, p := [], t := (accO b now (accT b now (x6 n ss)) (xj b.m)).1 }
def qad (b : Brk) (now : Int) (n ss : Nat) : List OutM := (accO b now (accT b now (x6 n ss)) (xj b.m)).2
def TrOk (j : Nat) (tr : MapM Tk TryM) : Prop := ∀ t, 0 ≤ ((tr.get t).getD ⟨0, 0⟩).count ∧ ((tr.get t).getD ⟨0, 0⟩).count ≤ j
theorem q7f {tr : MapM Tk TryM} (hb : ∀ t, 0 ≤ (qcj b t).count ∧ (qcj b t).count ≤ j) (h : TrOk (j + 1) tr) (t : Tk) (now : Int) (l : List OutM) (x : OutM) : TrOk (j + 1) (qfs b tr t now l x).1 := by
 have hbt := hb t
 intro u
 unfold qfs
 split
 ·simp only [MapM.get_put]
  split
  ·simp only [Option.getD_some, qr7]; omega
  ·exact h u
 ·simp only [MapM.get_put]
  split
  ·simp only [Option.getD_some]; omega
  ·exact h u
theorem qm2 {α β : Type} (P : β → Prop) (f : β → α → β) (h : ∀ a x, P a → P (f a x)) : ∀ (l : List α) (a : β), P a → P (l.foldl f a)
 | [], _, ha => ha
 | x :: l, a, ha => qm2 P f h l (f a x) (h a x ha)
theorem xry (hb : ∀ t, 0 ≤ (qcj b t).count ∧ (qcj b t).count ≤ j) (now : Int) (l : List (Nat × Nat × Nat)) (o : List Pk) : TrOk (j + 1) (accO b now (accT b now l) o).1 := by
 unfold accO
 refine qm2 (fun a : MapM Tk TryM × List OutM => TrOk (j + 1) a.1) _ (fun a x ha => q7f hb ha _ _ _ _) o _ ?_
 unfold accT
 refine qm2 (fun a : MapM Tk TryM × List OutM => TrOk (j + 1) a.1) _ (fun a x ha => ?_) l _ (fun t => by simp [MapM.get]; omega)
 unfold q11
 split
 ·exact q7f hb ha _ _ _ _
 ·exact ha
theorem BI.tick (H : BI n ss k j b) (now : Int) : BI n ss k (j + 1) (wz b now n ss) :=
 ⟨H.ro, H.se, xks H.st, by simp only [wz, qxr]; exact H.ln, H.qv, H.qw, H.kq, H.qa, H.mw, H.mr, H.ms, Nat.zero_le _, xry H.tr now _ _, fun x hx => by simp only [wz, qxr]; exact H.rq x hx, by simp only [wz, qxr]; exact H.rm⟩
theorem BI.qsm (H : BI n ss k j b) (x : Pr) : (b.queue x).Sm := qxo (H.qv x)
end
end Go.Proofs.YtkcdbcbpbolgkaaGreatDoor
namespace Go.Proofs.YtkcdbcbpbolgkaaGreatDoor
open Go.Abs
attribute [-go_sem] qgf
def QrB (b : Brk) (p : Pk) : SExit → St → Prop := q2z 5 [.tmp 4] [.d (.int .i64 (zg b p).2.1)] (afB b (zg b p).1 (zg b p).2.2)
theorem xos {k : Int} (h : qbj k = false) : qr5 k = (.nilfunc, false) := by
 simp only [qbj, Bool.or_eq_false_iff, beq_eq_false_iff_ne] at h
 unfold qr5
 rw [if_neg h.1.1, if_neg h.1.2, if_neg h.2]
theorem qis {b : Brk} {p : Pk} (h : qbj p.kind = true) : (!qbw b p) = (!qj p || decide (p.sess > b.sess) || decide (p.from_ ≥ b.roles) || decide (p.to ≥ b.roles)) := by
 unfold qbw
 rw [h]
 generalize qj p = A
 generalize decide (p.sess > b.sess) = B
 generalize decide (p.from_ ≥ b.roles) = C
 generalize decide (p.to ≥ b.roles) = E
 cases A <;> cases B <;> cases C <;> cases E <;> rfl
set_option maxRecDepth 10000 in
theorem xfr (b : Brk) (p : Pk) (R : Brk × Int × Bool) (hk : p.kind = 1) (hp : p.Sm) (hRd : R = qll b p.key p.key.name p)
  (kd : qbw b p = true → qg Tryz.prog 71 [.d (.ptr 0 0), .d (.agg (qe p))] (brO b) (.d (.int .i64 R.2.1)) (afB b R.1 R.2.2)) : AWp Tryz.prog 5 qr4 (QrB b p) (SrY b p) := by
 have hR : zg b p = if !qbw b p then (b, 1, false) else R := by unfold zg; rw [if_pos hk, hRd]
 have hpk : qr5 p.kind = (.func (.func 71) [.ptr 0 0] [], true) := by rw [hk]; rfl
 have kv := zr p hp.v hp.c
 have hrk : qbj p.kind = true := by rw [hk]; rfl
 unfold QrB qr4
 rw [hR, qis hrk]
 simp only [SrY, hpk]
 simp only [qe] at kv
 try (refine ev7 @brO.eq_1 @qm.eq_1 @stoO.eq_1 @mapO.eq_1 @qmO.eq_1 @tmO.eq_1 @qe.eq_1 ?_; try exact True.intro)
 (repeat (with_reducible refine ob ?_)); first | refine cl F70 (kv) ?_ | refine clF F70 (kv) (fun _ => by (refine ev3 @qe.eq_1 @xe.eq_1 @qo.eq_1 ?_; try exact True.intro)) ?_
 try (refine ev ?_; try exact True.intro)
 (repeat (with_reducible refine ob ?_))
 refine xq _ (fun h => ?_) (fun h => ?_)
 ·rw [if_pos h]
  try (refine ev ?_; try exact True.intro)
  refine pu ?_
  try simp only [afB, qm, stoO, mapO, qmO, tmO, go_sem, Nat.reduceAdd, Nat.reduceMul, Nat.reduceSub, Nat.reduceEqDiff, Nat.reduceLT, Nat.reduceLeDiff, Nat.reduceBEq, reduceIte, reduceCtorEq, Int.reduceAdd, Int.reduceLT, Int.reduceLE, Int.reduceGT, Int.reduceGE, Int.reduceEq, Int.reduceNe, Int.reduceBEq, Int.reduceBNe, Int.reduceToNat, Int.reduceNeg]
 rw [if_neg (by rw [h]; exact Bool.false_ne_true)]
 have kd := kd (by have e := qis (b := b) hrk; rw [h] at e; simpa using e)
 simp only [brO, qm, stoO, mapO, qmO, tmO, qe] at kd
 clear hR hRd
 obtain ⟨b1, e1, c⟩ := R
 simp only [afB, qm, stoO, mapO, qmO, tmO] at kd ⊢
 try (refine ev ?_; try exact True.intro)
 cases c
 ·refine clT [0, 1, 2, 3, 4, 6] F71d kd ?_
  try (refine ev ?_; try exact True.intro)
  refine pu ?_
  try simp only [afB, qm, stoO, mapO, qmO, tmO, go_sem, Nat.reduceAdd, Nat.reduceMul, Nat.reduceSub, Nat.reduceEqDiff, Nat.reduceLT, Nat.reduceLeDiff, Nat.reduceBEq, reduceIte, reduceCtorEq, Int.reduceAdd, Int.reduceLT, Int.reduceLE, Int.reduceGT, Int.reduceGE, Int.reduceEq, Int.reduceNe, Int.reduceBEq, Int.reduceBNe, Int.reduceToNat, Int.reduceNeg]
 ·refine clT [0, 1, 2, 3, 4, 6] F71d kd ?_
  try (refine ev ?_; try exact True.intro)
  refine qbc [0, 1, 2, 3, 4, 6, 5] [.row (xn b1 592), stoO b1.s 5, mapO b.s.m, qmO b1.q, tmO b1.t, mapO b1.s.m, .row ((qe p).map .d)] ?_ (by try (refine ev6 @xn.eq_1 @mapO.eq_1 @stoO.eq_1 @qmO.eq_1 @tmO.eq_1 @qe.eq_1 ?_; try exact True.intro)) (hp := rfl)
  refine pu ?_
  try simp only [afB, qm, xn, stoO, mapO, qmO, tmO, go_sem, Nat.reduceAdd, Nat.reduceMul, Nat.reduceSub, Nat.reduceEqDiff, Nat.reduceLT, Nat.reduceLeDiff, Nat.reduceBEq, reduceIte, reduceCtorEq, Int.reduceAdd, Int.reduceLT, Int.reduceLE, Int.reduceGT, Int.reduceGE, Int.reduceEq, Int.reduceNe, Int.reduceBEq, Int.reduceBNe, Int.reduceToNat, Int.reduceNeg]
set_option maxRecDepth 10000 in
theorem xkt (b : Brk) (p : Pk) (R : Brk × Int × Bool) (hk : p.kind = 2) (hp : p.Sm) (hRd : R = qs4 b p.key p.key.name p.seq)
  (kd : qbw b p = true → qg Tryz.prog 72 [.d (.ptr 0 0), .d (.agg (qe p))] (brO b) (.d (.int .i64 R.2.1)) (afB b R.1 R.2.2)) : AWp Tryz.prog 5 qr4 (QrB b p) (SrY b p) := by
 have hk1 : ¬ p.kind = 1 := by omega
 have hR : zg b p = if !qbw b p then (b, 1, false) else R := by unfold zg; rw [if_neg hk1, if_pos hk, hRd]
 have hpk : qr5 p.kind = (.func (.func 72) [.ptr 0 0] [], true) := by rw [hk]; rfl
 have kv := zr p hp.v hp.c
 have hrk : qbj p.kind = true := by rw [hk]; rfl
 unfold QrB qr4
 rw [hR, qis hrk]
 simp only [SrY, hpk]
 simp only [qe] at kv
 try (refine ev7 @brO.eq_1 @qm.eq_1 @stoO.eq_1 @mapO.eq_1 @qmO.eq_1 @tmO.eq_1 @qe.eq_1 ?_; try exact True.intro)
 (repeat (with_reducible refine ob ?_)); first | refine cl F70 (kv) ?_ | refine clF F70 (kv) (fun _ => by (refine ev3 @qe.eq_1 @xe.eq_1 @qo.eq_1 ?_; try exact True.intro)) ?_
 try (refine ev ?_; try exact True.intro)
 (repeat (with_reducible refine ob ?_))
 refine xq _ (fun h => ?_) (fun h => ?_)
 ·rw [if_pos h]
  try (refine ev ?_; try exact True.intro)
  refine pu ?_
  try simp only [afB, qm, stoO, mapO, qmO, tmO, go_sem, Nat.reduceAdd, Nat.reduceMul, Nat.reduceSub, Nat.reduceEqDiff, Nat.reduceLT, Nat.reduceLeDiff, Nat.reduceBEq, reduceIte, reduceCtorEq, Int.reduceAdd, Int.reduceLT, Int.reduceLE, Int.reduceGT, Int.reduceGE, Int.reduceEq, Int.reduceNe, Int.reduceBEq, Int.reduceBNe, Int.reduceToNat, Int.reduceNeg]
 rw [if_neg (by rw [h]; exact Bool.false_ne_true)]
 have kd := kd (by have e := qis (b := b) hrk; rw [h] at e; simpa using e)
 simp only [brO, qm, stoO, mapO, qmO, tmO, qe] at kd
 clear hR hRd
 obtain ⟨b1, e1, c⟩ := R
 simp only [afB, qm, stoO, mapO, qmO, tmO] at kd ⊢
 try (refine ev ?_; try exact True.intro)
 cases c
 ·refine clT [0, 1, 2, 3, 4, 6] F72d kd ?_
  try (refine ev ?_; try exact True.intro)
  refine pu ?_
  try simp only [afB, qm, stoO, mapO, qmO, tmO, go_sem, Nat.reduceAdd, Nat.reduceMul, Nat.reduceSub, Nat.reduceEqDiff, Nat.reduceLT, Nat.reduceLeDiff, Nat.reduceBEq, reduceIte, reduceCtorEq, Int.reduceAdd, Int.reduceLT, Int.reduceLE, Int.reduceGT, Int.reduceGE, Int.reduceEq, Int.reduceNe, Int.reduceBEq, Int.reduceBNe, Int.reduceToNat, Int.reduceNeg]
 ·refine clT [0, 1, 2, 3, 4, 6] F72d kd ?_
  try (refine ev ?_; try exact True.intro)
  refine qbc [0, 1, 2, 3, 4, 6, 5] [.row (xn b1 592), stoO b1.s 5, mapO b.s.m, qmO b1.q, tmO b1.t, mapO b1.s.m, .row ((qe p).map .d)] ?_ (by try (refine ev6 @xn.eq_1 @mapO.eq_1 @stoO.eq_1 @qmO.eq_1 @tmO.eq_1 @qe.eq_1 ?_; try exact True.intro)) (hp := rfl)
  refine pu ?_
  try simp only [afB, qm, xn, stoO, mapO, qmO, tmO, go_sem, Nat.reduceAdd, Nat.reduceMul, Nat.reduceSub, Nat.reduceEqDiff, Nat.reduceLT, Nat.reduceLeDiff, Nat.reduceBEq, reduceIte, reduceCtorEq, Int.reduceAdd, Int.reduceLT, Int.reduceLE, Int.reduceGT, Int.reduceGE, Int.reduceEq, Int.reduceNe, Int.reduceBEq, Int.reduceBNe, Int.reduceToNat, Int.reduceNeg]
set_option maxRecDepth 10000 in
theorem xku (b : Brk) (p : Pk) (R : Brk × Int × Bool) (hk : p.kind = 4) (hp : p.Sm) (hRd : R = qfk b p)
  (kd : qbw b p = true → qg Tryz.prog 73 [.d (.ptr 0 0), .d (.agg (qe p))] (brO b) (.d (.int .i64 R.2.1)) (afB b R.1 R.2.2)) : AWp Tryz.prog 5 qr4 (QrB b p) (SrY b p) := by
 have hk1 : ¬ p.kind = 1 := by omega
 have hk2 : ¬ p.kind = 2 := by omega
 have hR : zg b p = if !qbw b p then (b, 1, false) else R := by unfold zg; rw [if_neg hk1, if_neg hk2, hRd]
 have hpk : qr5 p.kind = (.func (.func 73) [.ptr 0 0] [], true) := by rw [hk]; rfl
 have kv := zr p hp.v hp.c
 have hrk : qbj p.kind = true := by rw [hk]; rfl
 unfold QrB qr4
 rw [hR, qis hrk]
 simp only [SrY, hpk]
 simp only [qe] at kv
 try (refine ev7 @brO.eq_1 @qm.eq_1 @stoO.eq_1 @mapO.eq_1 @qmO.eq_1 @tmO.eq_1 @qe.eq_1 ?_; try exact True.intro)
 (repeat (with_reducible refine ob ?_)); first | refine cl F70 (kv) ?_ | refine clF F70 (kv) (fun _ => by (refine ev3 @qe.eq_1 @xe.eq_1 @qo.eq_1 ?_; try exact True.intro)) ?_
 try (refine ev ?_; try exact True.intro)
 (repeat (with_reducible refine ob ?_))
 refine xq _ (fun h => ?_) (fun h => ?_)
 ·rw [if_pos h]
  try (refine ev ?_; try exact True.intro)
  refine pu ?_
  try simp only [afB, qm, stoO, mapO, qmO, tmO, go_sem, Nat.reduceAdd, Nat.reduceMul, Nat.reduceSub, Nat.reduceEqDiff, Nat.reduceLT, Nat.reduceLeDiff, Nat.reduceBEq, reduceIte, reduceCtorEq, Int.reduceAdd, Int.reduceLT, Int.reduceLE, Int.reduceGT, Int.reduceGE, Int.reduceEq, Int.reduceNe, Int.reduceBEq, Int.reduceBNe, Int.reduceToNat, Int.reduceNeg]
 rw [if_neg (by rw [h]; exact Bool.false_ne_true)]
 have kd := kd (by have e := qis (b := b) hrk; rw [h] at e; simpa using e)
 simp only [brO, qm, stoO, mapO, qmO, tmO, qe] at kd
 clear hR hRd
 obtain ⟨b1, e1, c⟩ := R
 simp only [afB, qm, stoO, mapO, qmO, tmO] at kd ⊢
 try (refine ev ?_; try exact True.intro)
 cases c
 ·refine clT [0, 1, 2, 3, 4, 6] F73d kd ?_
  try (refine ev ?_; try exact True.intro)
  refine pu ?_
  try simp only [afB, qm, stoO, mapO, qmO, tmO, go_sem, Nat.reduceAdd, Nat.reduceMul, Nat.reduceSub, Nat.reduceEqDiff, Nat.reduceLT, Nat.reduceLeDiff, Nat.reduceBEq, reduceIte, reduceCtorEq, Int.reduceAdd, Int.reduceLT, Int.reduceLE, Int.reduceGT, Int.reduceGE, Int.reduceEq, Int.reduceNe, Int.reduceBEq, Int.reduceBNe, Int.reduceToNat, Int.reduceNeg]
 ·refine clT [0, 1, 2, 3, 4, 6] F73d kd ?_
  try (refine ev ?_; try exact True.intro)
  refine qbc [0, 1, 2, 3, 4, 6, 5] [.row (xn b1 592), stoO b1.s 5, mapO b.s.m, qmO b1.q, tmO b1.t, mapO b1.s.m, .row ((qe p).map .d)] ?_ (by try (refine ev6 @xn.eq_1 @mapO.eq_1 @stoO.eq_1 @qmO.eq_1 @tmO.eq_1 @qe.eq_1 ?_; try exact True.intro)) (hp := rfl)
  refine pu ?_
  try simp only [afB, qm, xn, stoO, mapO, qmO, tmO, go_sem, Nat.reduceAdd, Nat.reduceMul, Nat.reduceSub, Nat.reduceEqDiff, Nat.reduceLT, Nat.reduceLeDiff, Nat.reduceBEq, reduceIte, reduceCtorEq, Int.reduceAdd, Int.reduceLT, Int.reduceLE, Int.reduceGT, Int.reduceGE, Int.reduceEq, Int.reduceNe, Int.reduceBEq, Int.reduceBNe, Int.reduceToNat, Int.reduceNeg]
set_option maxRecDepth 10000 in
theorem xot (b : Brk) (p : Pk) (hk : qbj p.kind = false) : AWp Tryz.prog 5 qr4 (QrB b p) (SrY b p) := by
 have hR : zg b p = (b, 1, false) := by
  unfold zg qbw
  rw [hk]; rfl
 unfold QrB qr4
 rw [hR]
 simp only [SrY, xos hk]
 try (refine ev7 @brO.eq_1 @qm.eq_1 @stoO.eq_1 @mapO.eq_1 @qmO.eq_1 @tmO.eq_1 @qe.eq_1 ?_; try exact True.intro)
 (repeat (with_reducible refine ob ?_)); refine xcf ?_
 try (refine ev ?_; try exact True.intro)
 (repeat (with_reducible refine ob ?_)); refine qck ?_
 try (refine ev ?_; try exact True.intro)
 refine pu ?_
 try simp only [afB, qm, stoO, mapO, qmO, tmO, go_sem, Nat.reduceAdd, Nat.reduceMul, Nat.reduceSub, Nat.reduceEqDiff, Nat.reduceLT, Nat.reduceLeDiff, Nat.reduceBEq, reduceIte, reduceCtorEq, Int.reduceAdd, Int.reduceLT, Int.reduceLE, Int.reduceGT, Int.reduceGE, Int.reduceEq, Int.reduceNe, Int.reduceBEq, Int.reduceBNe, Int.reduceToNat, Int.reduceNeg]
theorem xfs {n ss k j : Nat} {b : Brk} (hn : NS n ss) (H : BI n ss k j b) (hk70 : k ≤ 70) (p : Pk) (hp : p.Sm) (hw : p.W) : AWp Tryz.prog 5 qr4 (QrB b p) (SrY b p) := by
 by_cases hok : qbj p.kind = true
 ·have hF : b.s.file.length ≤ 100000000 := by
   have h1 := H.st.file
   exact Nat.le_trans h1 (Nat.le_trans (Nat.mul_le_mul_right 70000 (show k + 401 ≤ 471 by omega)) (by decide))
  have hP : b.p.length ≤ 1000000 := by have := H.pl; omega
  have hl : ∀ (a q : Qu) (nm : List UInt8), (vh a q nm).1.length ≤ 100000 := fun a q nm => by
   unfold vh
   split
   ·simp
   ·have := qf6 a q nm 4
    simp only; omega
  have nat : ∀ {x : Int}, 0 ≤ x → ∃ m : Nat, x = (m : Int) := fun h => ⟨_, (Int.toNat_of_nonneg h).symm⟩
  have h6 := hn.n6
  have h32 := hn.s32
  by_cases k1 : p.kind = 1
  ·refine xfr b p _ k1 hp rfl fun hr => ?_
   have hx := qoz H hr (.inl k1)
   obtain ⟨s, hs⟩ := nat (show 0 ≤ p.sess by have := hx.s1; simp only [Pk.key] at this; omega)
   obtain ⟨f, hf⟩ := nat (show 0 ≤ p.from_ by have := hx.f0; simp only [Pk.key] at this; omega)
   obtain ⟨t, ht⟩ := nat (show 0 ≤ p.to by have := hx.t0; simp only [Pk.key] at this; omega)
   have e : p.key = ⟨(s : Int), (f : Int), (t : Int)⟩ := by simp only [Pk.key, hs, hf, ht]
   have b1 := hx.s2
   have b2 := hx.f1
   have b3 := hx.t1
   simp only [e] at b1 b2 b3
   have := xfj b p s f t (by omega) (by omega) (by omega) hs hf ht hp (H.qsm _) (H.qw _) (qxo (qg3 _ _)) (q44 (H.qw _) hw) hF hP (hl _ _ _)
   have hnm : p.key.name = js s f t := by rw [e]; rfl
   rw [hnm, e]; exact this
  by_cases k2 : p.kind = 2
  ·refine xkt b p _ k2 hp rfl fun hr => ?_
   have hx := qoz H hr (.inr k2)
   obtain ⟨s, hs⟩ := nat (show 0 ≤ p.sess by have := hx.s1; simp only [Pk.key] at this; omega)
   obtain ⟨f, hf⟩ := nat (show 0 ≤ p.from_ by have := hx.f0; simp only [Pk.key] at this; omega)
   obtain ⟨t, ht⟩ := nat (show 0 ≤ p.to by have := hx.t0; simp only [Pk.key] at this; omega)
   have e : p.key = ⟨(s : Int), (f : Int), (t : Int)⟩ := by simp only [Pk.key, hs, hf, ht]
   have b1 := hx.s2
   have b2 := hx.f1
   have b3 := hx.t1
   simp only [e] at b1 b2 b3
   have := xkn b p s f t (by omega) (by omega) (by omega) hs hf ht (H.qsm _) (H.qw _) (qxo (qd5 _ p.seq)) (qr6 (H.qw _)) hF (hl _ _ _)
   have hnm : p.key.name = js s f t := by rw [e]; rfl
   rw [hnm, e]; exact this
  ·have k4 : p.kind = 4 := by
    simp only [qbj, Bool.or_eq_true, beq_iff_eq] at hok
    rcases hok with (h | h) | h
    ·exact absurd h k1
    ·exact absurd h k2
    ·exact h
   refine xku b p _ k4 hp rfl fun hr => ?_
   have hv : qj p = true := by simp only [qbw, Bool.and_eq_true] at hr; exact hr.1.1.1.2
   obtain ⟨hpe, hlb⟩ := xfo k4 hv
   by_cases ho : (xl b.m p).2 = 0
   ·have hon : OneStep b.m (xl b.m p).1 := by
     have := qux (s := p.sess) (r := p.from_) (label := p.label) H.mw hlb (by rw [← hpe]; exact ho)
     rwa [← hpe] at this
    refine qr3 b p hp H.mw.sm hon.mw.sm hF ?_
    obtain ⟨y, _, h1⟩ := hon.one
    rw [hon.changes H.mw, h1]; simp
   ·have h0 : (xl b.m p).1 = ⟨0, []⟩ := by
     revert ho
     unfold xl
     split
     ·intro _; rfl
     split
     ·intro _; rfl
     split
     ·intro _; rfl
     split
     ·intro _; rfl
     ·intro h; exact absurd rfl h
    refine qr3 b p hp H.mw.sm (by rw [h0]; exact ⟨by simp, by simp⟩) hF ?_
    rw [h0]
    unfold zy
    split
    ·simp
    split
    ·simp
    ·simp [qrz]
 ·exact xot b p (by simpa using hok)
theorem qlo {n ss k j : Nat} {b : Brk} (hn : NS n ss) (H : BI n ss k j b) (hk70 : k ≤ 70) (p : Pk) (hp : p.Sm) (hw : p.W) :
  qg Tryz.prog 21 [.d (.ptr 0 0), .d (.agg (qe p))] (brO b) (.d (.int .i64 (zg b p).2.1)) (afB b (zg b p).1 (zg b p).2.2) := by
 refine qv9 (rs := [.d (.int .i64 (zg b p).2.1)]) (c := q40) (rv := Tryz.f21.results.toList) (rvs := [.tmp 4]) Tryz.func21 (by kernel_rfl) (by simp) (by kernel_rfl) (Nat.le_of_ble_eq_true (by kernel_rfl)) rfl ?_ ?_
 ·intro t ht
  have : ltB 16 (vy [ASlot.d (.ptr 0 0), .d (.agg (qe p))] ++ xh (brO b)) = true := by simp only [brO, qm, stoO, mapO, qmO, tmO, go_sem]; rfl
  exact of_decide_eq_true (List.all_eq_true.1 this t ht)
 ·intro g w vs hvl hd hs h0
  refine xah b p _ g w vs hvl hd hs fun g1 w1 a1 hs1 hG1 hdf => ?_
  exact qy2 (k0 := 5) (mu := [61]) (N := 62) (news := news) follows h0 rfl xfk qr4 (QrB b p) _ (SrY b p) g1 w1 a1 xaf (xfs hn H hk70 p hp hw) hs1 hG1 (by rw [hdf]; exact ⟨by simp, by simp⟩) fun e st' g' w' a' hq hs' hG' hM' => ⟨e, st', g', rfl, hq, hs', hG', hM'⟩
end Go.Proofs.YtkcdbcbpbolgkaaGreatDoor
namespace Go.Proofs.YtkcdbcbpbolgkaaGreatDoor
open Go.Abs
noncomputable section
set_option maxRecDepth 100000
set_option linter.defProp false
def d12 := cut Tryz.prog Tryz.f12 news
@[go_sem] def E12 := ql d12
def F12 := fnC d12 follows Tryz.func12
def d37 := cut Tryz.prog Tryz.f37 news
@[go_sem] def E37 := ql d37
def F37 := fnC d37 follows Tryz.func37
def d60 := cut Tryz.prog Tryz.f60 news
@[go_sem] def E60 := ql d60
def F60 := fnC d60 follows Tryz.func60
end
structure Bst where
 kind : Int
 p : Pk
 n : Int
 deriving DecidableEq, Inhabited
def qag (x : Bst) : List D := [.int .i64 x.kind, .int .i64 x.p.kind, .int .i64 x.p.sess, .int .i64 x.p.epoch, .int .i64 x.p.from_, .int .i64 x.p.to, .int .i64 x.p.seq, .int .i64 x.p.label, .sl 3 (x.p.values.map xr), .sl 1 (x.p.clock.map encI), .int .i64 x.n]
theorem qn1 (x : Bst) : D.noPtrL (qag x) = true := by (refine ev1 @qag.eq_1 ?_; try exact True.intro)
theorem qu3 : ∀ l : List Bst, D.noPtrR (l.map qag) = true
 | [] => rfl
 | o :: l => by simp only [List.map_cons, D.noPtrR, qn1, qu3 l, Bool.and_self]
attribute [go_sem] qn1 qu3
def qu4 (x : Bst) : Bool := !(!qoc x.p || decide (x.n < 0) || decide (x.n > 1000))
def fewB (l : List Bst) : Bool := l.all qu4 && decide ((l.length : Int) ≤ 40)
def xkv (l : List Bst) (i : { i : Nat // (l.take i).all qu4 = true }) : St :=
 ⟨[(0, true, .d (.sl 11 (l.map qag))), (3, true, .d (.int .i64 (i.val : Nat)))], [], [], 1⟩
set_option maxRecDepth 10000 in
theorem xou (l : List Bst) (hl : l.length ≤ maxLen) (hx : ∀ x ∈ l, x.p.values.length ≤ maxLen) : qg Tryz.prog 12 [.d (.sl 11 (l.map qag))] [] (.d (.bool (fewB l))) [] := by
 unfold maxLen at hl
 refine F12.go ?_
 try (refine ev ?_; try exact True.intro)
 refine qk (xkv l) (fun i => l.length - i.val) ⟨0, rfl⟩ ?_ (fun i => ?_)
 ·try (refine ev2 @xkv.eq_1 @Int.ofNat_zero ?_; try exact True.intro)
 obtain ⟨i, hi⟩ := i
 try (refine ev1 @xkv.eq_1 ?_; try exact True.intro)
 (repeat (with_reducible refine ob ?_)); refine xq _ (fun h => ?_) (fun h => ?_)
 ·have hil : i < l.length := by simpa using h
  have kf := xis l[i].p (hx _ (List.getElem_mem hil))
  simp only [qe] at kf
  (refine ev2 (qi qag l hil) @qag.eq_1 ?_; try exact True.intro)
  (repeat (with_reducible refine ob ?_))
  (repeat (with_reducible refine ob ?_)); first | refine cl F36 (kf) ?_ | refine clF F36 (kf) (fun _ => by (refine ev2 @qe.eq_1 @encQ.eq_1 ?_; try exact True.intro)) ?_
  try simp only [qi qag l hil, qag, go_sem, Nat.reduceAdd, Nat.reduceMul, Nat.reduceSub, Nat.reduceEqDiff, Nat.reduceLT, Nat.reduceLeDiff, Nat.reduceBEq, reduceIte, reduceCtorEq, Int.reduceAdd, Int.reduceLT, Int.reduceLE, Int.reduceGT, Int.reduceGE, Int.reduceEq, Int.reduceNe, Int.reduceBEq, Int.reduceBNe, Int.reduceToNat, Int.reduceNeg]
  (repeat (with_reducible refine ob ?_))
  refine xq _ (fun h2 => ?_) (fun h2 => ?_)
  ·have hb : fewB l = false := by
    unfold fewB
    rw [qq1 hil (by simp only [qu4, h2, Bool.not_true])]; rfl
   try (refine ev1 @hb ?_; try exact True.intro)
  ·try (refine ev ?_; try exact True.intro)
   refine ⟨⟨i + 1, ?_⟩, ?_, by dsimp only; omega⟩
   ·rw [List.take_succ_eq_append_getElem hil, List.all_append, hi]
    simp only [List.all_cons, List.all_nil, qu4, h2, Bool.not_false, Bool.and_self]
   ·try (refine ev2 @xkv.eq_1 (qf (show i < 9223372036854775807 by omega)) ?_; try exact True.intro)
 ·have hil : l.length ≤ i := by simpa using h
  have hall : l.all qu4 = true := by rwa [List.take_of_length_le hil] at hi
  have hb : fewB l = decide ((l.length : Int) ≤ 40) := by unfold fewB; rw [hall]; rfl
  try (refine ev1 @hb ?_; try exact True.intro)
def qdn (a : Nat) : Nat := 1 + a % 4
theorem xam (a c : Nat) (ha : a < 256) (hc : c < 256) : qg Tryz.prog 37 [.d (.agg [.int .u8 (a : Nat), .int .u8 (c : Nat)])] [] (.tup [.d (.int .i64 (qdn a : Nat)), .d (.int .i64 (qdn c : Nat))]) [] := by
 have w1 : ∀ a : Nat, a < 256 → IntKind.i64.wrap (1 + (IntKind.i64.wrap (a : Int)).tmod 4) = ((qdn a : Nat) : Int) := fun a ha => by
  rw [wrap_i64 (n := (a : Int)) (by omega) (by omega), Int.tmod_eq_emod_of_nonneg (by omega), wrap_i64 (by omega) (by omega)]
  unfold qdn; omega
 have wa := w1 a ha
 have wc := w1 c hc
 refine F37.goT ?_
 try (refine ev2 @wa @wc ?_; try exact True.intro)
def wl (s : Int) : Pk := ⟨1, 1, 0, 0, 1, s, s % 40, [], [s, 0]⟩
theorem q13 : qg Tryz.prog 60 [.d (.int .i64 1)] [] (.d (.agg (qe (wl 1)))) [] := by
 refine F60.go ?_
 try (refine ev5 @qe.eq_1 @wl.eq_1 @encI.eq_1 @List.map_cons.{0,0} @List.map_nil.{0,0} ?_; try exact True.intro)
 try decide
end Go.Proofs.YtkcdbcbpbolgkaaGreatDoor
namespace Go.Proofs.YtkcdbcbpbolgkaaGreatDoor
open Go.Abs
def qdo (b : Brk) (it : Nat) : List ASlot := [.d (.int .i64 b.roles), .d (.int .i64 b.sess), .d (.ptr 1 0), .d (.map 3), .d (.int .i64 b.m.roles), .d (.sl 4 (b.m.ents.map qq)), .own 0 10 (b.p.map xe), .d (.map it)]
def tkO (b b' : Brk) : List AObj := [.row (qdo b' 5), stoO b'.s 2, mapO b'.s.m, qmO b'.q, tmO b.t, tmO b'.t]
theorem qjw {n ss k j : Nat} {b : Brk} (hn : NS n ss) (H : BI n ss k j b) (hk : k ≤ 70) (hj : j ≤ 1000) (now : Int) :
  qg Tryz.prog 14 [.d (.ptr 0 0), .d (.int .i64 now)] (brO b) (.own 1 10 ((qad b now n ss).map xe)) (tkO b (wz b now n ss)) := by
 have hpl := H.pl
 have h6 := hn.n6
 have h32 := hn.s32
 have hp := qu1 n ss
 have hq : ss * (n * n) ≤ 32 * (6 * 6) := Nat.mul_le_mul h32 (Nat.mul_le_mul h6 h6)
 have ho := qu2 H.mw
 have hT : ∀ l, (accT b now l).2.length ≤ b.p.length + l.length := q7c b now
 refine xoq b now n ss h6 h32 H.ro H.se H.qsm (fun t => ⟨(H.tr t).1, by have := (H.tr t).2; omega⟩) (fun i => ?_) H.mw.sm (fun i => ?_) (by omega) H.st.good ?_
 ·have := hT ((x6 n ss).take i)
  have := List.length_take_le i (x6 n ss)
  have : ((x6 n ss).take i).length ≤ (x6 n ss).length := List.length_take_le' _ _
  omega
 ·have h1 := q7d b now (accT b now (x6 n ss)) ((xj b.m).take i)
  have h2 := hT (x6 n ss)
  have h3 : ((xj b.m).take i).length ≤ (xj b.m).length := List.length_take_le' _ _
  omega
 ·have h1 := H.st.file
  exact Nat.le_trans h1 (Nat.le_trans (Nat.mul_le_mul_right 70000 (show k + 401 ≤ 471 by omega)) (by decide))
theorem qxs {b : Brk} {m : Pk} (h1 : x9 (b.queue ⟨1, 0, 1⟩) = (m, true)) (hs : m.seq = 1) (h2 : (x9 (b.queue ⟨1, 1, 0⟩)).2 = false) (h3 : xj b.m = []) (now : Int) :
  accO b now (accT b now (x6 2 1)) (xj b.m) = qfs b ⟨[], 0⟩ ⟨⟨1, 0, 1⟩, 1⟩ now b.p ⟨1, m⟩ := by
 have hp : x6 2 1 = [(1, 0, 1), (1, 1, 0)] := by decide
 have e3 : ((1 : Nat) : Int) = 1 := rfl
 have e0 : ((0 : Nat) : Int) = 0 := rfl
 rw [h3, hp]
 simp only [accO, List.foldl_nil, accT, List.foldl_cons, q11, e3, e0, h1, h2, hs, if_true, Bool.false_eq_true, if_false]
def awB (s' : Sto) : Brk := { j0 2 1 with s := s', q := (j0 2 1).q.put ⟨1, 0, 1⟩ ⟨1, 0, [wl 1]⟩, p := [⟨0, vl (wl 1)⟩] }
theorem xkw : NS 2 1 := ⟨by decide, by decide, by decide, by decide⟩
theorem xov : (wl 1).W := by
 refine ⟨fun x hx => ?_, fun x hx => by simp [wl] at hx, fun x hx => ?_⟩
 ·simp [kx, wl] at hx
  unfold I64; omega
 ·simp [wl] at hx
  unfold I64; omega
theorem xft : (wl 1).Sm := ⟨by simp [wl], by simp [wl]⟩
theorem xan : ∃ s' c, zg (j0 2 1) (wl 1) = (awB s', 0, c) ∧ BI 2 1 1 0 (awB s') := by
 have hr := qgd xkw (q7e xkw) (by decide) (wl 1) xov
 have hok : qbw (j0 2 1) (wl 1) = true := by decide
 have ho : (ze noQ (wl 1)) = (⟨1, 0, [wl 1]⟩, 0) := by decide
 have ha : qha (wl 1) = (vl (wl 1), 0) := by decide
 have hx : PrOk 2 1 (wl 1).key := ⟨by decide, by decide, by decide, by decide, by decide, by decide, by decide⟩
 have hq : (j0 2 1).queue (wl 1).key = noQ := rfl
 have H0 : BI 2 1 0 0 (j0 2 1) := q7e xkw
 obtain ⟨s', c, e, H'⟩ := H0.change xkw (by decide) hx (qg3 noQ (wl 1)) (q44 qox xov) (fun p hp => by rw [ho] at hp; simp at hp; subst hp; exact ⟨rfl, rfl, rfl⟩)
 refine ⟨s', c, ?_, ?_⟩
 ·have h0 : qbo (j0 2 1) (wl 1).key (wl 1).key.name (wl 1) = ({ j0 2 1 with s := s', q := (j0 2 1).q.put (wl 1).key (ze noQ (wl 1)).1 }, 0, c) := by
   unfold qbo
   rw [hq, if_pos (by rw [ho])]
   exact e
  unfold zg qll
  rw [if_neg (by simp [hok]), if_pos (show (wl 1).kind = 1 from rfl), h0, if_pos (.inl rfl)]
  simp only [qfl, ha, ho]
  rfl
 ·have := (H'.ack (b := { j0 2 1 with s := s', q := (j0 2 1).q.put (wl 1).key (ze noQ (wl 1)).1 }) (by simp [j0]) (wl 1))
  simp only [qfl, ha, ho] at this
  exact this
theorem awq (s' : Sto) (x : Pr) : (awB s').queue x = if x = ⟨1, 0, 1⟩ then ⟨1, 0, [wl 1]⟩ else noQ := qbf (j0 2 1) s' ⟨1, 0, 1⟩ x _
def aw1 (s' : Sto) : Brk := wz (awB s') 0 2 1
def aw2 (s' : Sto) : Brk := wz (aw1 s') 7 2 1
theorem qxt (s' : Sto) : x9 ((awB s').queue ⟨1, 0, 1⟩) = (wl 1, true) := by rw [awq, if_pos rfl]; rfl
theorem q46 (s' : Sto) : (x9 ((awB s').queue ⟨1, 1, 0⟩)).2 = false := by rw [awq, if_neg (by decide)]; rfl
theorem xfu : xj (j0 2 1).m = [] := by decide
theorem xrz (s' : Sto) : accO (awB s') 0 (accT (awB s') 0 (x6 2 1)) (xj (awB s').m) = (⟨[(0, ⟨⟨1, 0, 1⟩, 1⟩, ⟨1, 8⟩)], 1⟩, [⟨0, vl (wl 1)⟩, ⟨1, wl 1⟩]) := by
 rw [qxs (qxt s') rfl (q46 s') xfu]
 rfl
theorem xtj (s' : Sto) : (aw1 s').t = ⟨[(0, ⟨⟨1, 0, 1⟩, 1⟩, ⟨1, 8⟩)], 1⟩ := congrArg Prod.fst (xrz s')
theorem xr0 (s' : Sto) : accO (aw1 s') 7 (accT (aw1 s') 7 (x6 2 1)) (xj (aw1 s').m) = (⟨[(0, ⟨⟨1, 0, 1⟩, 1⟩, ⟨1, 8⟩)], 1⟩, []) := by
 rw [qxs (b := aw1 s') (qxt s') rfl (q46 s') xfu]
 unfold qfs qm1 qcj
 rw [xtj]
 rfl
theorem xtk (s' : Sto) : (aw2 s').t = ⟨[(0, ⟨⟨1, 0, 1⟩, 1⟩, ⟨1, 8⟩)], 1⟩ := congrArg Prod.fst (xr0 s')
theorem xtl (s' : Sto) : (accO (aw2 s') 8 (accT (aw2 s') 8 (x6 2 1)) (xj (aw2 s').m)).2 = [⟨1, wl 1⟩] := by
 rw [qxs (b := aw2 s') (qxt s') rfl (q46 s') xfu]
 unfold qfs qm1 qcj
 rw [xtk]
 rfl
end Go.Proofs.YtkcdbcbpbolgkaaGreatDoor
