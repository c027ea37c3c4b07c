/- Texts Gh, Gi, Gj, Gk, Gl, Tb, Tc, Ta, Ka, Kc, Kd, Kf, Ke, Kl, Kp, Kg, Kh, Ki, Kj, Kq, Kn, Ko, Ks, Kt. -/
import Derived.Test.YtkcdbcbpbolgkaaGreatDoorMoq
set_option linter.unusedSimpArgs false
set_option linter.unusedVariables false
namespace Go.Proofs.YtkcdbcbpbolgkaaGreatDoor
open Go.Abs
noncomputable section
set_option maxRecDepth 100000
set_option linter.defProp false
def d74b := cut Tryz.prog Tryz.f74 news [42] [9, 10] true
@[go_sem] def E74b := ql d74b
def F74b := fnC d74b follows Tryz.func74
end
theorem q4i : (Tryz.prog.funcs[142]?).any (fun fn => fn.body.isSome && !(fn.name == "runtime.NumGoroutine")) = true := by rw [Tryz.func142]; rfl
theorem qhz : ∀ l : List Ue, y8 (jm l) = true
 | [] => rfl
 | x :: l => by
  rw [x8]
  have := qhz l
  try (refine ev1 @this ?_; try exact True.intro)
theorem qrq (ι : List Nat) : ∀ l : List Ue, (jm l).map (ASlot.ren1 ι) = jm l
 | [] => rfl
 | x :: l => by
  rw [x8]
  have := qrq ι l
  try (refine ev2 @List.map_cons.{0,0} @this ?_; try exact True.intro)
attribute [go_sem] qhz qrq
theorem xej (l : List Ue) : ∀ r ∈ l.map qn, r.length = 4 := by
 intro r hr
 obtain ⟨x, _, rfl⟩ := List.mem_map.1 hr
 rfl
theorem xnr (l : List Ue) : ∀ d ∈ (l.map qn).flatten, d.isCell = true := by
 intro d hd
 obtain ⟨r, hr, hd⟩ := List.mem_flatten.1 hd
 obtain ⟨x, _, rfl⟩ := List.mem_map.1 hr
 simp only [qn, List.mem_cons, List.not_mem_nil, or_false] at hd
 rcases hd with rfl | rfl | rfl | rfl <;> rfl
def newE (roles s : Int) : Ue := ⟨s, 1, List.replicate roles.toNat false, List.replicate roles.toNat false⟩
def zt (m : Mg) (s : Int) : Mg × Int :=
 if !zd m then (⟨0, []⟩, 1) else if decide (s < 1) || decide (s > 32) then (⟨0, []⟩, 2) else if (xh m s).2 then (⟨0, []⟩, 9)
 else (⟨m.roles, m.ents.take (xh m s).1 ++ [newE m.roles s] ++ m.ents.drop (xh m s).1⟩, 0)
theorem qdv {m : Mg} (h : zd m = true) : 1 ≤ m.roles ∧ m.roles ≤ 6 := by
 simp only [zd, Bool.and_eq_true, decide_eq_true_eq] at h
 exact h.2
theorem xek (m : Mg) (s : Int) : (xh m s).1 ≤ m.ents.length := by
 unfold xh
 split
 ·exact Nat.le_of_lt (qq0 (by assumption)).2
 ·exact Nat.le_refl _
set_option maxRecDepth 10000 in
theorem quk (m : Mg) (s : Int) (hm : m.Sm) : qg Tryz.prog 74 [.d (.agg (qu m)), .d (.int .i64 s)] [] (.tup [.d (.agg (qu (zt m s).1)), .d (.int .i64 (zt m s).2)]) [] := by
 have hl := hm.1
 refine F74b.goT ?_
 try (refine ev1 @qu.eq_1 ?_; try exact True.intro)
 (repeat (with_reducible refine ob ?_)); first | refine cl F69 (yx m hm) ?_ | refine clF F69 (yx m hm) (fun _ => by (refine ev2 @qn.eq_1 @qu.eq_1 ?_; try exact True.intro)) ?_
 try (refine ev ?_; try exact True.intro)
 (repeat (with_reducible refine ob ?_)); refine xn _ (fun h => ?_) (fun h => ?_)
 ·have hb : zt m s = (⟨0, []⟩, 1) := by simp only [zt, h, if_true]
  try (refine ev2 @hb @List.map_nil.{0,0} ?_; try exact True.intro)
  refine pu ?_
  try (refine ev ?_; try exact True.intro)
 have hv : zd m = true := by simpa using h
 obtain ⟨hr1, hr2⟩ := qdv hv
 try (refine ev ?_; try exact True.intro)
 (repeat (with_reducible refine ob ?_)); refine xn _ (fun h => ?_) (fun h => ?_)
 ·have hb : zt m s = (⟨0, []⟩, 2) := by simp only [zt, hv, h]; rfl
  try (refine ev2 @hb @List.map_nil.{0,0} ?_; try exact True.intro)
  refine pu ?_
  try (refine ev ?_; try exact True.intro)
 have hs := h
 try (refine ev ?_; try exact True.intro)
 (repeat (with_reducible refine ob ?_)); first | refine cl F77 (qfz m s hm) ?_ | refine clF F77 (qfz m s hm) (fun _ => by (refine ev2 @qn.eq_1 @qu.eq_1 ?_; try exact True.intro)) ?_
 try (refine ev ?_; try exact True.intro)
 (repeat (with_reducible refine ob ?_)); refine xn _ (fun h => ?_) (fun h => ?_)
 ·have hb : zt m s = (⟨0, []⟩, 9) := by simp only [zt, hv, hs, h]; rfl
  try (refine ev2 @hb @List.map_nil.{0,0} ?_; try exact True.intro)
  refine pu ?_
  try (refine ev ?_; try exact True.intro)
 have hb : zt m s = (⟨m.roles, m.ents.take (xh m s).1 ++ [newE m.roles s] ++ m.ents.drop (xh m s).1⟩, 0) := by simp only [zt, hv, hs, h]; rfl
 try (refine ev1 @hb ?_; try exact True.intro)
 refine clO [2, 3, 4] xqa (xc0 m hm) ?_ (hfit := by first | exact ⟨qc, trivial⟩ | (refine ev1 @qu.eq_1 ?_; try exact True.intro))
 try (refine ev ?_; try exact True.intro)
 refine qqe (.cell 0 1) 4 4 (m.ents.map qn) ?_ rfl (xej _) (xnr _) (D.okWR_noPtr (qfy _)) (hn := by show (0 : Nat) ≠ 4; decide) (hp := by simp only [List.length_map]; rfl)
 refine pu ?_
 try (refine ev ?_; try exact True.intro)
 (repeat (with_reducible refine ob ?_))
 have hrow : qn (newE m.roles s) = [.int .i64 s, .int .i64 1, .sl 1 (List.replicate m.roles.toNat [.bool false]), .sl 1 (List.replicate m.roles.toNat [.bool false])] := by simp only [qn, newE, List.map_replicate, encB]
 have hnew : (m.ents.map qn).take (xh m s).1 ++ [qn (newE m.roles s)] ++ (m.ents.map qn).drop (xh m s).1 = (m.ents.take (xh m s).1 ++ [newE m.roles s] ++ m.ents.drop (xh m s).1).map qn := by simp
 have hins := xei (m.ents.map qn) (qn (newE m.roles s)) (xh m s).1 (by rw [List.length_map]; exact xek m s) (by rw [List.length_map]; exact hl) rfl
 rw [hnew] at hins
 refine qhj hins q4i rfl ⟨by try (refine ev1 @hrow ?_; try exact True.intro), by try (refine ev2 @qfy @qjg ?_; try exact True.intro), by simp only [xr]; simp, by simp only [xr]; simp⟩ (by simp [ASlot.toks]) (by simp [ASlot.toks]) ?_
 try (refine ev ?_; try exact True.intro)
 (repeat (with_reducible refine ob ?_))
 refine xhf (.cell 0 1) 640 4 ((m.ents.take (xh m s).1 ++ [newE m.roles s] ++ m.ents.drop (xh m s).1).map qn) ?_
 refine pu ?_
 try (refine ev ?_; try exact True.intro)
 refine pu ?_
 try (refine ev ?_; try exact True.intro)
 trace_state
end Go.Proofs.YtkcdbcbpbolgkaaGreatDoor
namespace Go.Proofs.YtkcdbcbpbolgkaaGreatDoor
open Go.Abs
noncomputable section
set_option maxRecDepth 100000
set_option linter.defProp false
def d75b := cut Tryz.prog Tryz.f75 news [] [16] true
@[go_sem] def E75b := ql d75b
def F75b := fnC d75b follows Tryz.func75
end
def jt (p : Pk) (x : Ue) : Ue :=
 if p.label == 2 then { x with opened := x.opened.set p.from_.toNat true } else { x with moved := x.moved.set p.from_.toNat true }
def ya (x : Ue) : Ue := { x with phase := zm x }
def qa8 (p : Pk) (x : Ue) : List Bool := if p.label == 2 then x.opened else x.moved
def xk (m : Mg) (p : Pk) : Mg × Int :=
 if !zd m || p.kind != 4 || !qk p || decide (p.from_ ≥ m.roles) then (⟨0, []⟩, 1)
 else if !(xh m p.sess).2 then (⟨0, []⟩, 8)
 else if (qa8 p (m.ents.getD (xh m p.sess).1 default)).getD p.from_.toNat false then (⟨0, []⟩, 21)
 else if p.label == 2 && (m.ents.getD (xh m p.sess).1 default).phase == 1 then (⟨0, []⟩, 7)
 else (⟨m.roles, m.ents.set (xh m p.sess).1 (ya (jt p (m.ents.getD (xh m p.sess).1 default)))⟩, 0)
theorem qms {s : ASlot} (hs : y8 [s] = true) : ∀ (l : List ASlot) (i : Nat), y8 l = true → y8 (l.set i s) = true
 | [], _, h => h
 | _ :: l, 0, h => by
  rw [List.set_cons_zero]
  simp only [y8, Bool.and_eq_true] at h hs ⊢
  exact ⟨hs.1, h.2⟩
 | x :: l, i + 1, h => by
  rw [List.set_cons_succ]
  simp only [y8, Bool.and_eq_true] at h ⊢
  exact ⟨h.1, qms hs l i h.2⟩
theorem q4j {l : List Ue} {k a b : Nat} {x : Ue} : y8 (refA (jm l) k a b x) = true := qms rfl _ _ (qms rfl _ _ (qhz l))
theorem qrr : ∀ l : List Bool, y8 (l.map fun b => .d (.bool b)) = true
 | [] => rfl
 | x :: l => by
  have := qrr l
  try (refine ev2 @List.map_cons.{0,0} @this ?_; try exact True.intro)
theorem xjp (ι : List Nat) (l : List Bool) : (l.map fun b => ASlot.d (.bool b)).map (ASlot.ren1 ι) = l.map fun b => .d (.bool b) := by
 rw [List.map_map]; rfl
theorem xjq {l : List Ue} {k : Nat} {x : Ue} (ι : List Nat) (a b : Nat) : (refA (jm l) k a b x).map (ASlot.ren1 ι) = refA (jm l) k (ι.getD a 0) (ι.getD b 0) x := by
 rw [refA, List.map_set, List.map_set, qrq]
 rfl
attribute [go_sem] q4j qrr xjp xjq
theorem xq1 {l : List Ue} {k a b j : Nat} {x : Ue} (hk : k < l.length) (hj : j < 2) : (refA (jm l) k a b x).getD (k * 4 + j) .bad = .d ((qn l[k]).getD j .nilsl) := by
 rw [List.getD_eq_getElem?_getD, refA, List.getElem?_set_ne (by omega), List.getElem?_set_ne (by omega), qhp l k j hk (by omega)]; rfl
theorem xel {l : List Ue} {k a b : Nat} {x : Ue} (hk : k < l.length) : (refA (jm l) k a b x).getD (k * 4 + 1) .bad = .d (.int .i64 l[k].phase) := xq1 hk (by decide)
theorem qwy {l : List Ue} {k a b : Nat} {x : Ue} (hk : k < l.length) : (refA (jm l) k a b x).getD (k * 4 + 2) .bad = .d (.ref a 0 1 x.moved.length) := by
 have hf := qej l
 rw [List.getD_eq_getElem?_getD, refA, List.getElem?_set_ne (by omega), List.getElem?_set_self (by omega)]; rfl
theorem qwz {l : List Ue} {k a b : Nat} {x : Ue} (hk : k < l.length) : (refA (jm l) k a b x).getD (k * 4 + 3) .bad = .d (.ref b 0 1 x.opened.length) := by
 have hf := qej l
 rw [List.getD_eq_getElem?_getD, refA, List.getElem?_set_self (by rw [List.length_set]; omega)]; rfl
theorem q6o {l : List Bool} {i : Nat} (h : i < l.length) : (l.map fun b => ASlot.d (.bool b)).getD i .bad = .d (.bool (l.getD i false)) := by
 rw [List.getD_eq_getElem?_getD, List.getElem?_map, List.getD_eq_getElem?_getD, List.getElem?_eq_getElem h]; rfl
theorem q6p (l : List Bool) (i : Nat) (b : Bool) : (l.map fun b => ASlot.d (.bool b)).set i (.d (.bool b)) = (l.set i b).map fun b => .d (.bool b) := by rw [List.map_set]
theorem xns {m : Mg} {p : Pk} (h : (!zd m || p.kind != 4 || !qk p || decide (p.from_ ≥ m.roles)) = false) : zd m = true ∧ p.kind = 4 ∧ qk p = true ∧ p.from_ < m.roles ∧ 0 ≤ p.from_ := by
 simp only [Bool.or_eq_false_iff, Bool.not_eq_false', bne_eq_false_iff_eq, decide_eq_false_iff_not] at h
 obtain ⟨⟨⟨h1, h2⟩, h3⟩, h4⟩ := h
 refine ⟨h1, h2, h3, by omega, ?_⟩
 simp [qk, order, role, h2] at h3
 omega
theorem qim {m : Mg} (h : zd m = true) {k : Nat} (hk : k < m.ents.length) : (m.ents[k].moved.length : Int) = m.roles ∧ (m.ents[k].opened.length : Int) = m.roles ∧ m.ents[k].phase = zm m.ents[k] := by
 simp only [zd, Bool.and_eq_true] at h
 have := za.1 h.1 k hk
 simp only [qei, x9 hk, Bool.not_eq_true', Bool.or_eq_false_iff, bne_eq_false_iff_eq] at this
 exact ⟨this.1.1.1.2, this.1.1.2, this.2⟩
theorem q6q (id es e : Nat) (rows r : List (List D)) (h : D.noPtrR r = true) : ((ASlot.d (.sl e r)).frz id es rows).only (neId id) = .d (.sl e r) := by simp only [ASlot.frz, D.frz, ASlot.only, ASlot.okS, D.okW, D.okWR_noPtr h, if_true]
theorem q1f (id es : Nat) (rows : List (List D)) : ∀ l : List Ue, (jm l).map (fun s => (s.frz id es rows).only (neId id)) = jm l
 | [] => rfl
 | x :: l => by
  rw [x8, List.map_cons, List.map_cons, List.map_cons, List.map_cons, q1f id es rows l, q6q _ _ _ _ _ (qcn _), q6q _ _ _ _ _ (qcn _)]
  rfl
theorem qw0 (l : List Ue) (i j : Nat) (u v : ASlot) (id es : Nat) (rows : List (List D)) : (((jm l).set i u).set j v).map (fun s => (s.frz id es rows).only (neId id)) = ((jm l).set i ((u.frz id es rows).only (neId id))).set j ((v.frz id es rows).only (neId id)) := by
 rw [List.map_set, List.map_set, q1f]
theorem q6r (l : List Ue) (k a b : Nat) (x : Ue) (id es : Nat) (rows : List (List D)) : (refA (jm l) k a b x).map (fun s => (s.frz id es rows).only (neId id)) =
  ((jm l).set (k * 4 + 2) (((ASlot.d (.ref a 0 1 x.moved.length)).frz id es rows).only (neId id))).set (k * 4 + 3) (((ASlot.d (.ref b 0 1 x.opened.length)).frz id es rows).only (neId id)) := qw0 ..
theorem q6s (l : List Bool) (id es : Nat) (rows : List (List D)) : (l.map fun b => ASlot.d (.bool b)).map (fun s => (s.frz id es rows).only (neId id)) = l.map fun b => .d (.bool b) := by
 rw [List.map_map]; rfl
theorem qin (l : List Bool) : (l.map fun b => ASlot.d (.bool b)).map ASlot.cellD = (l.map encB).flatten := by
 induction l with
 | nil => rfl
 | cons b l ih => simp only [List.map_cons, List.flatten_cons, encB, List.cons_append, List.nil_append, ih]; rfl
theorem qor (l : List Bool) : (l.map fun b => ASlot.d (.bool b)).all ASlot.isCellD = true := by
 rw [List.all_map]
 exact List.all_eq_true.2 fun b _ => rfl
theorem qos (l : List Bool) : ∀ r ∈ l.map encB, r.length = 1 := by
 intro r hr
 obtain ⟨x, _, rfl⟩ := List.mem_map.1 hr
 rfl
theorem qrs (l : List Ue) : (jm l).map ASlot.cellD = (l.map qn).flatten := by
 induction l with
 | nil => rfl
 | cons x l ih => rw [x8]; simp only [List.map_cons, List.flatten_cons, qn, List.cons_append, List.nil_append, ih]; rfl
theorem q1g (l : List Ue) : (jm l).all ASlot.isCellD = true := by
 induction l with
 | nil => rfl
 | cons x l ih => rw [x8]; simp only [List.all_cons, ih]; rfl
theorem qmt : ∀ (l : List Ue) (k : Nat) (y : Ue) (hk : k < l.length), y.sess = l[k].sess → y.phase = l[k].phase →
  ((jm l).set (k * 4 + 2) (.d (.sl 1 (y.moved.map encB)))).set (k * 4 + 3) (.d (.sl 1 (y.opened.map encB))) = jm (l.set k y)
 | x :: l, 0, y, _, h1, h2 => by
  simp only [List.getElem_cons_zero] at h1 h2
  rw [List.set_cons_zero, x8, x8, h1, h2]; rfl
 | x :: l, k + 1, y, hk, h1, h2 => by
  rw [List.set_cons_succ, x8, x8, ← qmt l k y (by simpa using hk) (by simpa using h1) (by simpa using h2), show (k + 1) * 4 + 2 = (k * 4 + 2) + 1 + 1 + 1 + 1 by omega, show (k + 1) * 4 + 3 = (k * 4 + 3) + 1 + 1 + 1 + 1 by omega]
  simp only [List.set_cons_succ]
theorem qep : ∀ (l : List Ue) (k : Nat) (y : Ue), k < l.length → (jm (l.set k y)).set (k * 4 + 1) (.d (.int .i64 (zm y))) = jm (l.set k (ya y))
 | x :: l, 0, y, _ => by
  rw [List.set_cons_zero, List.set_cons_zero, x8, x8]; rfl
 | x :: l, k + 1, y, hk => by
  rw [List.set_cons_succ, List.set_cons_succ, x8, x8, ← qep l k y (by simpa using hk), show (k + 1) * 4 + 1 = (k * 4 + 1) + 1 + 1 + 1 + 1 by omega]
  simp only [List.set_cons_succ]
theorem qmu : ∀ (l : List Ue) (k : Nat) (y : Ue), k < l.length → ((jm (l.set k y)).drop (k * 4)).take 4 = [.d (.int .i64 y.sess), .d (.int .i64 y.phase), .d (.sl 1 (y.moved.map encB)), .d (.sl 1 (y.opened.map encB))]
 | x :: l, 0, y, _ => by
  rw [List.set_cons_zero, x8]; rfl
 | x :: l, k + 1, y, hk => by
  rw [List.set_cons_succ, x8, ← qmu l k y (by simpa using hk), show (k + 1) * 4 = k * 4 + 1 + 1 + 1 + 1 by omega]
  simp only [List.drop_succ_cons]
theorem q1h {m : Mg} {s : Int} (h : (xh m s).2 = true) : (xh m s).1 < m.ents.length := by
 unfold xh at h ⊢
 split at h
 ·rename_i h1
  rw [if_pos h1]
  exact (qq0 h1).2
 ·cases h
set_option maxRecDepth 10000 in
theorem qjp (m : Mg) (p : Pk) (hm : m.Sm) (hp : p.Sm) : qg Tryz.prog 75 [.d (.agg (qu m)), .d (.agg (qe p))] [] (.tup [.d (.agg (qu (xk m p).1)), .d (.int .i64 (xk m p).2)]) [] := by
 have hl := hm.1
 refine F75b.goT ?_
 try (refine ev2 @qu.eq_1 @qe.eq_1 ?_; try exact True.intro)
 (repeat (with_reducible refine ob ?_)); first | refine cl F69 (yx m hm) ?_ | refine clF F69 (yx m hm) (fun _ => by (refine ev3 @qn.eq_1 @qu.eq_1 @qe.eq_1 ?_; try exact True.intro)) ?_
 try (refine ev ?_; try exact True.intro)
 (repeat (with_reducible refine ob ?_))
 (repeat (with_reducible refine ob ?_)); first | refine cl F70 (zo p hp.v hp.c) ?_ | refine clF F70 (zo p hp.v hp.c) (fun _ => by (refine ev3 @qn.eq_1 @qu.eq_1 @qe.eq_1 ?_; try exact True.intro)) ?_
 try (refine ev ?_; try exact True.intro)
 (repeat (with_reducible refine ob ?_)); refine xn _ (fun h => ?_) (fun h => ?_)
 ·have hb : xk m p = (⟨0, []⟩, 1) := by simp only [xk, h, if_true]
  try (refine ev2 @hb @List.map_nil.{0,0} ?_; try exact True.intro)
  refine pu ?_
  try (refine ev ?_; try exact True.intro)
 have h0 := h
 try (refine ev ?_; try exact True.intro)
 (repeat (with_reducible refine ob ?_)); first | refine cl F77 (qfz m p.sess hm) ?_ | refine clF F77 (qfz m p.sess hm) (fun _ => by (refine ev3 @qn.eq_1 @qu.eq_1 @qe.eq_1 ?_; try exact True.intro)) ?_
 try (refine ev ?_; try exact True.intro)
 (repeat (with_reducible refine ob ?_)); refine xn _ (fun h => ?_) (fun h => ?_)
 ·have hb : xk m p = (⟨0, []⟩, 8) := by simp only [xk, h0, h]; rfl
  try (refine ev2 @hb @List.map_nil.{0,0} ?_; try exact True.intro)
  refine pu ?_
  try (refine ev ?_; try exact True.intro)
 have h1 := h
 have hk : (xh m p.sess).1 < m.ents.length := q1h (by simpa using h)
 have hx := hm.2 _ (List.getElem_mem hk)
 obtain ⟨r1, r2, r3, r4, r5⟩ := xns h0
 obtain ⟨v1, v2, _⟩ := qim r1 hk
 have h7 := q3x m hm _ hk
 have hfl := qej m.ents
 have hu : xk m p = (if (qa8 p m.ents[(xh m p.sess).1]).getD p.from_.toNat false then (⟨0, []⟩, 21)
   else if p.label == 2 && m.ents[(xh m p.sess).1].phase == 1 then (⟨0, []⟩, 7)
   else (⟨m.roles, m.ents.set (xh m p.sess).1 (ya (jt p m.ents[(xh m p.sess).1]))⟩, 0)) := by
  simp only [xk, h0, h1, x9 hk]; rfl
 rw [hu]
 clear hu
 try (refine ev ?_; try exact True.intro)
 refine clO [3, 4, 5, 6, 7] xqc h7 ?_ (hfit := by first | exact ⟨qc, trivial⟩ | (refine ev1 @qu.eq_1 ?_; try exact True.intro))
 clear h7
 generalize (xh m p.sess).1 = k at hk hx v1 v2 ⊢
 try (refine ev ?_; try exact True.intro)
 (repeat (with_reducible refine ob ?_))
 refine xn _ (fun hl2 => ?_) (fun hl2 => ?_)
 ·simp only [qa8, jt, hl2, if_true, Bool.true_and]
  try simp only [qwy hk, qwz hk, go_sem, Nat.reduceAdd, Nat.reduceMul, Nat.reduceSub, Nat.reduceEqDiff, Nat.reduceLT, Nat.reduceLeDiff, Nat.reduceBEq, reduceIte, reduceCtorEq, Int.reduceAdd, Int.reduceLT, Int.reduceLE, Int.reduceGT, Int.reduceGE, Int.reduceEq, Int.reduceNe, Int.reduceBEq, Int.reduceBNe, Int.reduceToNat, Int.reduceNeg]
  (repeat (with_reducible refine ob ?_))
  try simp only [qwy hk, qwz hk, Nat.mul_one, q6o (l := m.ents[k].opened) (i := p.from_.toNat) (by omega), go_sem, Nat.reduceAdd, Nat.reduceMul, Nat.reduceSub, Nat.reduceEqDiff, Nat.reduceLT, Nat.reduceLeDiff, Nat.reduceBEq, reduceIte, reduceCtorEq, Int.reduceAdd, Int.reduceLT, Int.reduceLE, Int.reduceGT, Int.reduceGE, Int.reduceEq, Int.reduceNe, Int.reduceBEq, Int.reduceBNe, Int.reduceToNat, Int.reduceNeg]
  refine xn _ (fun h3 => ?_) (fun h3 => ?_)
  ·try (refine ev2 @h3 @List.map_nil.{0,0} ?_; try exact True.intro)
   refine pu ?_
   try (refine ev ?_; try exact True.intro)
  try simp only [xel hk, go_sem, Nat.reduceAdd, Nat.reduceMul, Nat.reduceSub, Nat.reduceEqDiff, Nat.reduceLT, Nat.reduceLeDiff, Nat.reduceBEq, reduceIte, reduceCtorEq, Int.reduceAdd, Int.reduceLT, Int.reduceLE, Int.reduceGT, Int.reduceGE, Int.reduceEq, Int.reduceNe, Int.reduceBEq, Int.reduceBNe, Int.reduceToNat, Int.reduceNeg]
  (repeat (with_reducible refine ob ?_))
  refine xn _ (fun h4 => ?_) (fun h4 => ?_)
  ·have h4' : (m.ents[k].phase == 1) = true := by simpa [hl2] using h4
   try (refine ev4 @h3 @h4' @hl2 @List.map_nil.{0,0} ?_; try exact True.intro)
   refine pu ?_
   try (refine ev ?_; try exact True.intro)
  have h4' : (m.ents[k].phase == 1) = false := by simpa [hl2] using h4
  simp only [h3, h4', Bool.false_eq_true, if_false]
  try (refine ev4 @h3 @hl2 @Nat.mul_one @q6p ?_; try exact True.intro)
  (repeat (with_reducible refine ob ?_))
  have hy : ∀ y : Ue, y = { m.ents[k] with opened := m.ents[k].opened.set p.from_.toNat true } → y.Sm := by rintro y rfl; exact ⟨by simpa using hx.1, by simpa using hx.2⟩
  generalize hyd : { m.ents[k] with opened := m.ents[k].opened.set p.from_.toNat true } = y at hy ⊢
  have hys : y.sess = m.ents[k].sess := by rw [← hyd]
  have hyp : y.phase = m.ents[k].phase := by rw [← hyd]
  have hym : m.ents[k].moved = y.moved := by rw [← hyd]
  have hyo : m.ents[k].opened.set p.from_.toNat true = y.opened := by rw [← hyd]
  have hml : m.ents[k].moved.length = y.moved.length := by simp [← hyd]
  have hol : m.ents[k].opened.length = y.opened.length := by simp [← hyd]
  simp only [hml, hol, hym, hyo]
  refine qqf 6 1 (y.moved.map encB) ?_ (qin _) (qor _) (qos _) (D.okWR_noPtr (qcn _))
  simp only [qy7, Fr.mapS, List.map_cons, List.map_nil, AObj.mapS, q6r, hml, hol, q6s, List.set_cons_zero, List.set_cons_succ]
  try (refine ev ?_; try exact True.intro)
  refine qqf 7 1 (y.opened.map encB) ?_ (qin _) (qor _) (qos _) (D.okWR_noPtr (qcn _))
  simp only [qy7, Fr.mapS, List.map_cons, List.map_nil, AObj.mapS, qw0, q6q _ _ _ _ _ (qcn _), List.set_cons_zero, List.set_cons_succ]
  try simp only [qmt m.ents k y hk hys hyp, go_sem, Nat.reduceAdd, Nat.reduceMul, Nat.reduceSub, Nat.reduceEqDiff, Nat.reduceLT, Nat.reduceLeDiff, Nat.reduceBEq, reduceIte, reduceCtorEq, Int.reduceAdd, Int.reduceLT, Int.reduceLE, Int.reduceGT, Int.reduceGE, Int.reduceEq, Int.reduceNe, Int.reduceBEq, Int.reduceBNe, Int.reduceToNat, Int.reduceNeg]
  refine pu ?_
  try simp only [qmu m.ents k y hk, List.length_set, go_sem, Nat.reduceAdd, Nat.reduceMul, Nat.reduceSub, Nat.reduceEqDiff, Nat.reduceLT, Nat.reduceLeDiff, Nat.reduceBEq, reduceIte, reduceCtorEq, Int.reduceAdd, Int.reduceLT, Int.reduceLE, Int.reduceGT, Int.reduceGE, Int.reduceEq, Int.reduceNe, Int.reduceBEq, Int.reduceBNe, Int.reduceToNat, Int.reduceNeg]
  (repeat (with_reducible refine ob ?_))
  (repeat (with_reducible refine ob ?_)); first | refine cl F134 (qbi y (hy y rfl)) ?_ | refine clF F134 (qbi y (hy y rfl)) (fun _ => by (refine ev3 @qn.eq_1 @qu.eq_1 @qe.eq_1 ?_; try exact True.intro)) ?_
  try (refine ev2 @List.length_set.{0} (qep m.ents k y hk) ?_; try exact True.intro)
  (repeat (with_reducible refine ob ?_))
  try simp only [qep m.ents k y hk, go_sem, Nat.reduceAdd, Nat.reduceMul, Nat.reduceSub, Nat.reduceEqDiff, Nat.reduceLT, Nat.reduceLeDiff, Nat.reduceBEq, reduceIte, reduceCtorEq, Int.reduceAdd, Int.reduceLT, Int.reduceLE, Int.reduceGT, Int.reduceGE, Int.reduceEq, Int.reduceNe, Int.reduceBEq, Int.reduceBNe, Int.reduceToNat, Int.reduceNeg]
  refine qqf 5 4 ((m.ents.set k (ya y)).map qn) ?_ (qrs _) (q1g _) (xej _) (D.okWR_noPtr (qfy _))
  refine pu ?_
  try (refine ev2 @List.length_set.{0} @List.length_map.{0,0} ?_; try exact True.intro)
 ·simp only [qa8, jt, hl2, Bool.false_and, Bool.false_eq_true, if_false]
  try simp only [qwy hk, qwz hk, go_sem, Nat.reduceAdd, Nat.reduceMul, Nat.reduceSub, Nat.reduceEqDiff, Nat.reduceLT, Nat.reduceLeDiff, Nat.reduceBEq, reduceIte, reduceCtorEq, Int.reduceAdd, Int.reduceLT, Int.reduceLE, Int.reduceGT, Int.reduceGE, Int.reduceEq, Int.reduceNe, Int.reduceBEq, Int.reduceBNe, Int.reduceToNat, Int.reduceNeg]
  (repeat (with_reducible refine ob ?_))
  try simp only [qwy hk, qwz hk, Nat.mul_one, q6o (l := m.ents[k].moved) (i := p.from_.toNat) (by omega), go_sem, Nat.reduceAdd, Nat.reduceMul, Nat.reduceSub, Nat.reduceEqDiff, Nat.reduceLT, Nat.reduceLeDiff, Nat.reduceBEq, reduceIte, reduceCtorEq, Int.reduceAdd, Int.reduceLT, Int.reduceLE, Int.reduceGT, Int.reduceGE, Int.reduceEq, Int.reduceNe, Int.reduceBEq, Int.reduceBNe, Int.reduceToNat, Int.reduceNeg]
  refine xn _ (fun h3 => ?_) (fun h3 => ?_)
  ·try (refine ev2 @h3 @List.map_nil.{0,0} ?_; try exact True.intro)
   refine pu ?_
   try (refine ev ?_; try exact True.intro)
  try simp only [xel hk, go_sem, Nat.reduceAdd, Nat.reduceMul, Nat.reduceSub, Nat.reduceEqDiff, Nat.reduceLT, Nat.reduceLeDiff, Nat.reduceBEq, reduceIte, reduceCtorEq, Int.reduceAdd, Int.reduceLT, Int.reduceLE, Int.reduceGT, Int.reduceGE, Int.reduceEq, Int.reduceNe, Int.reduceBEq, Int.reduceBNe, Int.reduceToNat, Int.reduceNeg]
  (repeat (with_reducible refine ob ?_))
  try (refine ev2 @hl2 @Bool.false_and ?_; try exact True.intro)
  (repeat (with_reducible refine ob ?_)); refine no_ ?_
  simp only [h3, Bool.false_eq_true, if_false]
  try (refine ev4 @h3 @hl2 @Nat.mul_one @q6p ?_; try exact True.intro)
  (repeat (with_reducible refine ob ?_))
  have hy : ∀ y : Ue, y = { m.ents[k] with moved := m.ents[k].moved.set p.from_.toNat true } → y.Sm := by rintro y rfl; exact ⟨by simpa using hx.1, by simpa using hx.2⟩
  generalize hyd : { m.ents[k] with moved := m.ents[k].moved.set p.from_.toNat true } = y at hy ⊢
  have hys : y.sess = m.ents[k].sess := by rw [← hyd]
  have hyp : y.phase = m.ents[k].phase := by rw [← hyd]
  have hym : m.ents[k].moved.set p.from_.toNat true = y.moved := by rw [← hyd]
  have hyo : m.ents[k].opened = y.opened := by rw [← hyd]
  have hml : m.ents[k].moved.length = y.moved.length := by simp [← hyd]
  have hol : m.ents[k].opened.length = y.opened.length := by simp [← hyd]
  simp only [hml, hol, hym, hyo]
  refine qqf 6 1 (y.moved.map encB) ?_ (qin _) (qor _) (qos _) (D.okWR_noPtr (qcn _))
  simp only [qy7, Fr.mapS, List.map_cons, List.map_nil, AObj.mapS, q6r, hml, hol, q6s, List.set_cons_zero, List.set_cons_succ]
  try (refine ev ?_; try exact True.intro)
  refine qqf 7 1 (y.opened.map encB) ?_ (qin _) (qor _) (qos _) (D.okWR_noPtr (qcn _))
  simp only [qy7, Fr.mapS, List.map_cons, List.map_nil, AObj.mapS, qw0, q6q _ _ _ _ _ (qcn _), List.set_cons_zero, List.set_cons_succ]
  try simp only [qmt m.ents k y hk hys hyp, go_sem, Nat.reduceAdd, Nat.reduceMul, Nat.reduceSub, Nat.reduceEqDiff, Nat.reduceLT, Nat.reduceLeDiff, Nat.reduceBEq, reduceIte, reduceCtorEq, Int.reduceAdd, Int.reduceLT, Int.reduceLE, Int.reduceGT, Int.reduceGE, Int.reduceEq, Int.reduceNe, Int.reduceBEq, Int.reduceBNe, Int.reduceToNat, Int.reduceNeg]
  refine pu ?_
  try simp only [qmu m.ents k y hk, List.length_set, go_sem, Nat.reduceAdd, Nat.reduceMul, Nat.reduceSub, Nat.reduceEqDiff, Nat.reduceLT, Nat.reduceLeDiff, Nat.reduceBEq, reduceIte, reduceCtorEq, Int.reduceAdd, Int.reduceLT, Int.reduceLE, Int.reduceGT, Int.reduceGE, Int.reduceEq, Int.reduceNe, Int.reduceBEq, Int.reduceBNe, Int.reduceToNat, Int.reduceNeg]
  (repeat (with_reducible refine ob ?_))
  (repeat (with_reducible refine ob ?_)); first | refine cl F134 (qbi y (hy y rfl)) ?_ | refine clF F134 (qbi y (hy y rfl)) (fun _ => by (refine ev3 @qn.eq_1 @qu.eq_1 @qe.eq_1 ?_; try exact True.intro)) ?_
  try (refine ev2 @List.length_set.{0} (qep m.ents k y hk) ?_; try exact True.intro)
  (repeat (with_reducible refine ob ?_))
  try simp only [qep m.ents k y hk, go_sem, Nat.reduceAdd, Nat.reduceMul, Nat.reduceSub, Nat.reduceEqDiff, Nat.reduceLT, Nat.reduceLeDiff, Nat.reduceBEq, reduceIte, reduceCtorEq, Int.reduceAdd, Int.reduceLT, Int.reduceLE, Int.reduceGT, Int.reduceGE, Int.reduceEq, Int.reduceNe, Int.reduceBEq, Int.reduceBNe, Int.reduceToNat, Int.reduceNeg]
  refine qqf 5 4 ((m.ents.set k (ya y)).map qn) ?_ (qrs _) (q1g _) (xej _) (D.okWR_noPtr (qfy _))
  refine pu ?_
  try (refine ev2 @List.length_set.{0} @List.length_map.{0,0} ?_; try exact True.intro)
end Go.Proofs.YtkcdbcbpbolgkaaGreatDoor
namespace Go.Proofs.YtkcdbcbpbolgkaaGreatDoor
open Go.Abs
noncomputable section
set_option maxRecDepth 100000
set_option linter.defProp false
def d22 := cut Tryz.prog Tryz.f22 news
@[go_sem] def E22 := ql d22
def d76 := cut Tryz.prog Tryz.f76 news
@[go_sem] def E76 := ql d76
end
theorem qjq {m : Mg} (h : zd m = true) {k : Nat} (hk : k < m.ents.length) : 1 ≤ m.ents[k].sess ∧ m.ents[k].sess ≤ 32 ∧ m.ents[k].phase ≠ 0 := by
 simp only [zd, Bool.and_eq_true] at h
 have := za.1 h.1 k hk
 simp only [qei, x9 hk, Bool.not_eq_true', Bool.or_eq_false_iff, bne_eq_false_iff_eq, decide_eq_false_iff_not, beq_eq_false_iff_ne] at this
 obtain ⟨⟨⟨⟨⟨⟨h1, h2⟩, _⟩, _⟩, _⟩, h3⟩, _⟩ := this
 exact ⟨by omega, by omega, h3⟩
def k9 (s r label : Int) : Pk := ⟨4, s, 0, r, 0, 0, label, [], []⟩
theorem b1 : zt ⟨2, []⟩ 5 = (⟨2, [⟨5, 1, [false, false], [false, false]⟩]⟩, 0) := by decide
theorem b2 : xp ⟨2, [⟨5, 1, [false, false], [false, false]⟩]⟩ = [qhq 5 0 1, qhq 5 1 1] := by decide
theorem b3 : xk ⟨2, [⟨5, 1, [false, false], [false, false]⟩]⟩ (k9 5 1 1) = (⟨2, [⟨5, 1, [false, true], [false, false]⟩]⟩, 0) := by decide
theorem b4 : xp ⟨2, [⟨5, 1, [false, true], [false, false]⟩]⟩ = [qhq 5 0 1] := by decide
theorem b5 : xk ⟨2, [⟨5, 1, [false, true], [false, false]⟩]⟩ (k9 5 0 1) = (⟨2, [⟨5, 2, [true, true], [false, false]⟩]⟩, 0) := by decide
theorem b6 : xp ⟨2, [⟨5, 2, [true, true], [false, false]⟩]⟩ = [qhq 5 0 2, qhq 5 1 2] := by decide
end Go.Proofs.YtkcdbcbpbolgkaaGreatDoor
namespace Go.Proofs.YtkcdbcbpbolgkaaGreatDoor
open Go.Abs
end Go.Proofs.YtkcdbcbpbolgkaaGreatDoor
namespace Go.Proofs.YtkcdbcbpbolgkaaGreatDoor
open Go.Abs
structure EnOk (r : Int) (x : Ue) : Prop where
 s1 : 1 ≤ x.sess
 s32 : x.sess ≤ 32
 ml : (x.moved.length : Int) = r
 ol : (x.opened.length : Int) = r
 ph : x.phase = zm x
 p0 : x.phase ≠ 0
structure MW (m : Mg) : Prop where
 r1 : 1 ≤ m.roles
 r6 : m.roles ≤ 6
 inc : (m.ents.map Ue.sess).Pairwise (· < ·)
 en : ∀ x ∈ m.ents, EnOk m.roles x
theorem qrt {l : List Int} (h : ∀ i (h : i + 1 < l.length), l[i] < l[i + 1]) : l.Pairwise (· < ·) := by
 rw [List.pairwise_iff_getElem]
 intro i j hi hj hij
 obtain ⟨d, rfl⟩ : ∃ d, j = i + 1 + d := ⟨j - (i + 1), by omega⟩
 induction d with
 | zero => exact h i hj
 | succ d ih => exact Int.lt_trans (ih (by omega) (by omega)) (h (i + 1 + d) hj)
theorem qau {m : Mg} : zd m = true ↔ MW m := by
 constructor
 ·intro h
  have hr := qdv h
  refine ⟨hr.1, hr.2, qrt fun i hi => ?_, fun x hx => ?_⟩
  ·have hi' : i + 1 < m.ents.length := by simpa using hi
   have h2 := h
   simp only [zd, Bool.and_eq_true] at h2
   have := za.1 h2.1 (i + 1) hi'
   rw [← enk m i hi' (by omega)] at this
   simp only [Bool.not_eq_true', Bool.or_eq_false_iff, Bool.and_eq_false_iff, decide_eq_false_iff_not] at this
   simp only [List.getElem_map]
   have := this.1.1.1.1.2
   omega
  ·obtain ⟨i, hi, rfl⟩ := List.getElem_of_mem hx
   obtain ⟨a1, a2, a3⟩ := qim h hi
   obtain ⟨b1, b2, b3⟩ := qjq h hi
   exact ⟨b1, b2, a1, a2, a3, b3⟩
 ·rintro ⟨r1, r6, inc, en⟩
  simp only [zd, Bool.and_eq_true, decide_eq_true_eq]
  refine ⟨za.2 fun i hi => ?_, r1, r6⟩
  obtain ⟨s1, s32, ml, ol, ph, p0⟩ := en _ (List.getElem_mem hi)
  rcases Nat.eq_zero_or_pos i with rfl | h0
  ·rw [← en0 m hi]
   simp only [Bool.not_eq_true', Bool.or_eq_false_iff, decide_eq_false_iff_not, bne_eq_false_iff_eq, beq_eq_false_iff_ne]
   exact ⟨⟨⟨⟨⟨by omega, by omega⟩, ml⟩, ol⟩, p0⟩, ph⟩
  ·obtain ⟨k, rfl⟩ : ∃ k, i = k + 1 := ⟨i - 1, by omega⟩
   rw [← enk m k hi (by omega)]
   have hlt := (List.pairwise_iff_getElem.1 inc) k (k + 1) (by simp; omega) (by simpa using hi) (by omega)
   simp only [List.getElem_map] at hlt
   simp only [Bool.not_eq_true', Bool.or_eq_false_iff, Bool.and_eq_false_iff, decide_eq_false_iff_not, bne_eq_false_iff_eq, beq_eq_false_iff_ne]
   exact ⟨⟨⟨⟨⟨⟨by omega, by omega⟩, .inr (by omega)⟩, ml⟩, ol⟩, p0⟩, ph⟩
theorem qnu {l : List Int} (h : l.Pairwise (· < ·)) (h1 : ∀ x ∈ l, 1 ≤ x) (h32 : ∀ x ∈ l, x ≤ 32) : l.length ≤ 32 := by
 have key : ∀ (i : Nat) (hi : i < l.length), (i : Int) + 1 ≤ l[i] := by
  intro i
  induction i with
  | zero => intro hi; have := h1 _ (List.getElem_mem hi); omega
  | succ i ih =>
   intro hi
   have := ih (by omega)
   have := (List.pairwise_iff_getElem.1 h) i (i + 1) (by omega) hi (by omega)
   omega
 rcases Nat.lt_or_ge 32 l.length with h' | h'
 ·have := key 32 h'
  have := h32 _ (List.getElem_mem h')
  omega
 ·exact h'
theorem MW.sm {m : Mg} (h : MW m) : m.Sm := by
 refine ⟨?_, fun x hx => ?_⟩
 ·have := qnu h.inc (by intro x hx; obtain ⟨e, he, rfl⟩ := List.mem_map.1 hx; exact (h.en e he).s1) (by intro x hx; obtain ⟨e, he, rfl⟩ := List.mem_map.1 hx; exact (h.en e he).s32)
  rw [List.length_map] at this
  omega
 ·have h1 := (h.en x hx).ml
  have h2 := (h.en x hx).ol
  have h6 := h.r6
  exact ⟨by omega, by omega⟩
theorem qio {m : Mg} {s : Int} (h : (xh m s).2 = true) : ∃ hk : (xh m s).1 < m.ents.length, m.ents[(xh m s).1].sess = s := by
 refine ⟨q1h h, ?_⟩
 unfold xh at h ⊢
 split at h
 ·rename_i h1
  simp only [h1, if_true] at h ⊢
  rw [x9 (qq0 h1).2] at h
  simpa using h
 ·cases h
theorem q1i {m : Mg} {s : Int} (hm : MW m) (h : (xh m s).2 = false) : (∀ x ∈ m.ents.take (xh m s).1, x.sess < s) ∧ ∀ x ∈ m.ents.drop (xh m s).1, s < x.sess := by
 unfold xh at h ⊢
 split at h
 ·rename_i h1
  obtain ⟨_, h2⟩ := qq0 h1
  simp only [h1, if_true] at h ⊢
  rw [x9 h2] at h
  have hge := List.findIdx_getElem (p := fun x : Ue => decide (x.sess ≥ s)) (xs := m.ents) (w := h2)
  simp only [decide_eq_true_eq] at hge
  simp only [beq_eq_false_iff_ne] at h
  refine ⟨fun x hx => ?_, fun x hx => ?_⟩
  ·obtain ⟨i, hi, rfl⟩ := List.getElem_of_mem hx
   have hi' : i < m.ents.findIdx (fun x => decide (x.sess ≥ s)) := by rw [List.length_take] at hi; omega
   have := List.not_of_lt_findIdx hi'
   simp at this
   simpa using this
  ·obtain ⟨i, hi, rfl⟩ := List.getElem_of_mem hx
   rw [List.getElem_drop]
   rw [List.length_drop] at hi
   rcases Nat.eq_zero_or_pos i with rfl | h0
   ·simp only [Nat.add_zero]; omega
   ·have := (List.pairwise_iff_getElem.1 hm.inc) (m.ents.findIdx (fun x => decide (x.sess ≥ s))) (m.ents.findIdx (fun x => decide (x.sess ≥ s)) + i) (by rw [List.length_map]; exact h2) (by rw [List.length_map]; omega) (by omega)
    simp only [List.getElem_map] at this
    omega
 ·rename_i h1
  simp only [h1] at h ⊢
  simp only [Bool.false_eq_true, if_false, List.take_length, List.drop_length]
  refine ⟨fun x hx => ?_, by simp⟩
  simp only [Bool.not_eq_true, List.any_eq_false, decide_eq_true_eq] at h1
  have := h1 x hx
  omega
theorem qmv {m : Mg} {s : Int} (hm : MW m) : (xh m s).2 = true ↔ ∃ x ∈ m.ents, x.sess = s := by
 constructor
 ·intro h
  obtain ⟨hk, hs⟩ := qio h
  exact ⟨_, List.getElem_mem hk, hs⟩
 ·rintro ⟨x, hx, hs⟩
  cases hf : (xh m s).2 with
  | true => rfl
  | false =>
   obtain ⟨h1, h2⟩ := q1i hm hf
   rw [← List.take_append_drop (xh m s).1 m.ents] at hx
   rcases List.mem_append.1 hx with hx | hx
   ·have := h1 x hx; omega
   ·have := h2 x hx; omega
theorem xnu {r s : Int} (h1 : 1 ≤ r) (h6 : r ≤ 6) (hs1 : 1 ≤ s) (hs2 : s ≤ 32) : EnOk r (newE r s) := by
 have hr : r = 1 ∨ r = 2 ∨ r = 3 ∨ r = 4 ∨ r = 5 ∨ r = 6 := by omega
 have hp : zm (newE r s) = 1 := by rcases hr with rfl | rfl | rfl | rfl | rfl | rfl <;> simp [zm, newE, hasB, List.replicate]
 exact ⟨hs1, hs2, by simp [newE]; omega, by simp [newE]; omega, by rw [hp]; rfl, by show (1 : Int) ≠ 0; decide⟩
theorem qru (m : Mg) (s : Int) (hm : MW m) (h1 : 1 ≤ s) (h32 : s ≤ 32) :
  ((xh m s).2 = true ∧ zt m s = (⟨0, []⟩, 9)) ∨ ((xh m s).2 = false ∧ ∃ a b, m.ents = a ++ b ∧ zt m s = (⟨m.roles, a ++ [newE m.roles s] ++ b⟩, 0) ∧ MW ⟨m.roles, a ++ [newE m.roles s] ++ b⟩) := by
 have hv := qau.2 hm
 have hs : (decide (s < 1) || decide (s > 32)) = false := by simp; omega
 cases hf : (xh m s).2 with
 | true => exact .inl ⟨rfl, by simp [zt, hv, hs, hf]⟩
 | false =>
  obtain ⟨f1, f2⟩ := q1i hm hf
  refine .inr ⟨rfl, _, _, (List.take_append_drop (xh m s).1 m.ents).symm, by simp [zt, hv, hs, hf], hm.r1, hm.r6, ?_, ?_⟩
  ·have hp := hm.inc
   rw [← List.take_append_drop (xh m s).1 m.ents, List.map_append, List.pairwise_append] at hp
   obtain ⟨p1, p2, p3⟩ := hp
   simp only [List.map_append, List.map_cons, List.map_nil, List.append_assoc, List.cons_append, List.nil_append]
   rw [List.pairwise_append, List.pairwise_cons]
   refine ⟨p1, ⟨fun y hy => ?_, p2⟩, fun y hy z hz => ?_⟩
   ·obtain ⟨e, he, rfl⟩ := List.mem_map.1 hy
    exact f2 e he
   ·obtain ⟨e, he, rfl⟩ := List.mem_map.1 hy
    rcases List.mem_cons.1 hz with rfl | hz
    ·exact f1 e he
    ·exact p3 _ hy _ hz
  ·intro x hx
   simp only [List.mem_append, List.mem_singleton] at hx
   rcases hx with (hx | hx) | hx
   ·exact hm.en x (List.mem_of_mem_take hx)
   ·subst hx; exact xnu hm.r1 hm.r6 h1 h32
   ·exact hm.en x (List.mem_of_mem_drop hx)
theorem q4k {s r label : Int} (h1 : 1 ≤ s) (h2 : s ≤ 32) (h3 : 0 ≤ r) (h4 : r < 6) (h5 : label = 1 ∨ label = 2) : qk (k9 s r label) = true := by
 rcases h5 with rfl | rfl <;> simp [qk, qez, order, role, bare, k9, h1, h2, h3, h4]
theorem xep {r : Int} {x : Ue} (hx : EnOk r x) (p : Pk) (h0 : zm (jt p x) ≠ 0) : EnOk r (ya (jt p x)) := by
 unfold jt at h0 ⊢
 split
 ·rename_i h; rw [if_pos h] at h0
  exact ⟨hx.s1, hx.s32, hx.ml, by simpa [ya] using hx.ol, rfl, h0⟩
 ·rename_i h; rw [if_neg h] at h0
  exact ⟨hx.s1, hx.s32, by simpa [ya] using hx.ml, hx.ol, rfl, h0⟩
theorem qgq (p : Pk) (x : Ue) : (ya (jt p x)).sess = x.sess := by unfold jt ya; split <;> rfl
theorem xnv {l : List Bool} : l.all idB = true ↔ ∀ b ∈ l, b = true := by simp [List.all_eq_true, idB]
theorem qav (x : Ue) : (zm x = 3 ∧ x.moved.all idB = true ∧ x.opened.all idB = true) ∨ (zm x = 2 ∧ x.moved.all idB = true ∧ x.opened.all idB = false) ∨
  (zm x = 0 ∧ x.moved.all idB = false ∧ x.opened.any idB = true) ∨ (zm x = 1 ∧ x.moved.all idB = false ∧ x.opened.any idB = false) := by
 simp only [zm, qmd, qz3]
 cases x.moved.all idB <;> cases x.opened.all idB <;> cases x.opened.any idB <;> simp
theorem qe7 (m : Mg) (s r label : Int) (hm : MW m) (h1 : 1 ≤ s) (h32 : s ≤ 32) (h0 : 0 ≤ r) (hr : r < m.roles) (hl : label = 1 ∨ label = 2) :
  ((xk m (k9 s r label)).2 ≠ 0) ∨ ∃ k, ∃ hk : k < m.ents.length, m.ents[k].sess = s ∧ (xh m s).1 = k ∧ (qa8 (k9 s r label) m.ents[k]).getD r.toNat false = false ∧ (label = 2 → m.ents[k].phase ≠ 1) ∧
   xk m (k9 s r label) = (⟨m.roles, m.ents.set k (ya (jt (k9 s r label) m.ents[k]))⟩, 0) ∧ EnOk m.roles (ya (jt (k9 s r label) m.ents[k])) ∧ MW ⟨m.roles, m.ents.set k (ya (jt (k9 s r label) m.ents[k]))⟩ := by
 have hv := qau.2 hm
 have hp := q4k h1 h32 h0 (by have := hm.r6; omega) hl
 have hg : (!zd m || (k9 s r label).kind != 4 || !qk (k9 s r label) || decide ((k9 s r label).from_ ≥ m.roles)) = false := by
  rw [hv, hp]; simp [k9]; omega
 cases hf : (xh m s).2 with
 | false =>
  refine .inl ?_
  have : (xh m (k9 s r label).sess).2 = false := hf
  simp only [xk, hg, this]; simp
 | true =>
  obtain ⟨hk, hs⟩ := qio hf
  have hu : xk m (k9 s r label) = (if (qa8 (k9 s r label) m.ents[(xh m s).1]).getD r.toNat false then (⟨0, []⟩, 21)
    else if label == 2 && m.ents[(xh m s).1].phase == 1 then (⟨0, []⟩, 7)
    else (⟨m.roles, m.ents.set (xh m s).1 (ya (jt (k9 s r label) m.ents[(xh m s).1]))⟩, 0)) := by
   have e1 : (k9 s r label).sess = s := rfl
   have e2 : (k9 s r label).from_ = r := rfl
   have e3 : (k9 s r label).label = label := rfl
   simp only [xk, hg]
   simp only [e1, e2, e3, hf, x9 hk]; rfl
  rw [hu]
  by_cases c1 : (qa8 (k9 s r label) m.ents[(xh m s).1]).getD r.toNat false = true
  ·exact .inl (by rw [if_pos c1]; simp)
  ·rw [if_neg c1]
   by_cases c2 : (label == 2 && m.ents[(xh m s).1].phase == 1) = true
   ·exact .inl (by rw [if_pos c2]; simp)
   ·rw [if_neg c2]
    have hx := hm.en _ (List.getElem_mem hk)
    have hnew : EnOk m.roles (ya (jt (k9 s r label) m.ents[(xh m s).1])) := by
     refine xep hx _ ?_
     have hpc := qav m.ents[(xh m s).1]
     have hph := hx.ph
     have hp0 := hx.p0
     have hm6 := hm.r6
     have hrl : r.toNat < m.ents[(xh m s).1].moved.length := by have := hx.ml; omega
     intro hz
     rcases hl with rfl | rfl
     ·have hno : ¬ m.ents[(xh m s).1].moved.all idB = true := by
       intro ha
       have := xnv.1 ha _ (List.getElem_mem hrl)
       exact c1 (by simp [qa8, k9, List.getD, hrl, this])
      rcases qav (jt (k9 s r 1) m.ents[(xh m s).1]) with ⟨h, _⟩ | ⟨h, _⟩ | ⟨_, _, h⟩ | ⟨h, _⟩
      ·omega
      ·omega
      ·have h' : m.ents[(xh m s).1].opened.any idB = true := h
       rcases hpc with ⟨_, h, _⟩ | ⟨_, h, _⟩ | ⟨h, _⟩ | ⟨_, _, h⟩
       ·exact hno h
       ·exact hno h
       ·omega
       ·rw [h] at h'; cases h'
      ·omega
     ·have hne : m.ents[(xh m s).1].phase ≠ 1 := by simpa using c2
      rcases qav (jt (k9 s r 2) m.ents[(xh m s).1]) with ⟨h, _⟩ | ⟨h, _⟩ | ⟨_, h, _⟩ | ⟨h, _⟩
      ·omega
      ·omega
      ·have h' : m.ents[(xh m s).1].moved.all idB = false := h
       rcases hpc with ⟨_, h, _⟩ | ⟨_, h, _⟩ | ⟨h, _⟩ | ⟨h, _⟩
       ·rw [h] at h'; cases h'
       ·rw [h] at h'; cases h'
       ·omega
       ·omega
      ·omega
    refine .inr ⟨_, hk, hs, rfl, by simpa using c1, fun hl2 => ?_, rfl, hnew, hm.r1, hm.r6, ?_, ?_⟩
    ·subst hl2; simpa using c2
    ·have : ((m.ents.set (xh m s).1 (ya (jt (k9 s r label) m.ents[(xh m s).1]))).map Ue.sess) = m.ents.map Ue.sess := by
      rw [List.map_set, qgq]
      refine List.ext_getElem? fun i => ?_
      rw [List.getElem?_set]
      split
      ·rename_i h; subst h; simp [hk]
      ·rfl
     simp only [this]
     exact hm.inc
    ·intro x hx'
     rcases List.mem_or_eq_of_mem_set hx' with h | h
     ·exact hm.en x h
     ·subst h; exact hnew
end Go.Proofs.YtkcdbcbpbolgkaaGreatDoor
namespace Go.Proofs.YtkcdbcbpbolgkaaGreatDoor
open Go.Abs
def bitN : List Bool → Nat
 | [] => 0
 | b :: l => b.toNat + 2 * bitN l
theorem qgr : ∀ l : List Bool, bitN l < 2 ^ l.length
 | [] => by simp [bitN]
 | b :: l => by
  have := qgr l
  have hb : b.toNat ≤ 1 := by cases b <;> decide
  rw [bitN, List.length_cons, Nat.pow_succ]; omega
def qes (x : Ue) : List UInt8 := wInt x.phase ++ wInt (bitN x.moved) ++ wInt (bitN x.opened)
def uPfx : List UInt8 := [117, 47]
def uKey (s : Int) : List UInt8 := [117, 47, UInt8.ofNat (48 + s.toNat / 10), UInt8.ofNat (48 + s.toNat % 10)]
theorem q6u : ∀ a b : Fin 33, (uKey (a.val : Int) = uKey (b.val : Int) → a = b) ∧ (a < b → Op.bytesLess (uKey (a.val : Int)) (uKey (b.val : Int)) = true) := by decide +kernel
theorem qw1 {a b : Int} (h1 : 0 ≤ a) (h2 : a ≤ 32) (h3 : 0 ≤ b) (h4 : b ≤ 32) (h : uKey a = uKey b) : a = b := by
 obtain ⟨m, rfl⟩ : ∃ m : Nat, a = m := ⟨a.toNat, by omega⟩
 obtain ⟨n, rfl⟩ : ∃ n : Nat, b = n := ⟨b.toNat, by omega⟩
 have := (q6u ⟨m, by omega⟩ ⟨n, by omega⟩).1 h
 simp at this
 omega
theorem xjs (s : Int) : pre uPfx (uKey s) = true := rfl
theorem q4m {l : List Ue} (h : l.Pairwise fun a b => a.sess ≠ b.sess) {x y : Ue} (hx : x ∈ l) (hy : y ∈ l) (hxy : x ≠ y) : x.sess ≠ y.sess := by
 induction l with
 | nil => cases hx
 | cons a l ih =>
  obtain ⟨h1, h2⟩ := List.pairwise_cons.1 h
  rcases List.mem_cons.1 hx with hx | hx <;> rcases List.mem_cons.1 hy with hy | hy
  ·exact absurd (hx.trans hy.symm) hxy
  ·rw [hx]; exact h1 y hy
  ·rw [hy]; exact fun e => h1 x hx e.symm
  ·exact ih h2 hx hy
def URep (m : Cont) (g : Mg) : Prop := ∀ k, pre uPfx k = true → mGet k m = (g.ents.find? fun x => uKey x.sess == k).map qes
end Go.Proofs.YtkcdbcbpbolgkaaGreatDoor
namespace Go.Proofs.YtkcdbcbpbolgkaaGreatDoor
open Go.Abs
def chOp (a : Mg) (x : Ue) : List OpS := if x ∈ a.ents then [] else [⟨uKey x.sess, false, qes x⟩]
def qrv (a b : Mg) : List OpS := b.ents.flatMap (chOp a)
def zu (a b : Mg) : List OpS × Int :=
 if (!zd a || !zd b || a.roles != b.roles) = true then ([], 1) else if (a.ents.any fun x => !(xh b x.sess).2) = true then ([], 1) else (qrv a b, 0)
theorem qmw (k : List UInt8) : ∀ (l : List OpS) (a : Option (List UInt8)) (l' : List OpS), vj k a (l ++ l') = vj k (vj k a l) l'
 | [], _, _ => rfl
 | o :: l, a, l' => by rw [List.cons_append, vj, vj, qmw k l]
theorem xes {a : Mg} {k : List UInt8} : ∀ {l : List Ue}, (∀ x ∈ l, uKey x.sess ≠ k) → ∀ g, vj k g (l.flatMap (chOp a)) = g
 | [], _, _ => rfl
 | x :: l, h, g => by
  have hx := h x List.mem_cons_self
  have : vj k g (chOp a x) = g := by
   unfold chOp; split
   ·rfl
   ·simp [vj, hx]
  rw [List.flatMap_cons, qmw, this, xes (fun y hy => h y (List.mem_cons_of_mem _ hy))]
theorem xet {a : Mg} {k : List UInt8} : ∀ {l : List Ue}, (l.map fun x => uKey x.sess).Nodup → ∀ g, vj k g (l.flatMap (chOp a)) = match l.find? (fun x => uKey x.sess == k) with
  | some x => if x ∈ a.ents then g else some (qes x)
  | none => g
 | [], _, _ => rfl
 | x :: l, h, g => by
  rw [List.map_cons, List.nodup_cons] at h
  obtain ⟨h1, h2⟩ := h
  rw [List.flatMap_cons, qmw]
  by_cases hk : uKey x.sess = k
  ·have hn : ∀ y ∈ l, uKey y.sess ≠ k := fun y hy e => h1 (List.mem_map.2 ⟨y, hy, by rw [e, hk]⟩)
   rw [xes hn]
   simp only [List.find?_cons, beq_iff_eq.2 hk]
   unfold chOp
   split
   ·rfl
   ·simp [vj, hk]
  ·have : vj k g (chOp a x) = g := by
    unfold chOp; split
    ·rfl
    ·simp [vj, hk]
   have hb : (uKey x.sess == k) = false := by simpa using hk
   rw [this, xet h2]
   simp only [List.find?_cons, hb]
theorem qum {g : Mg} (hg : MW g) : (g.ents.map fun x => uKey x.sess).Nodup := by
 have hp := hg.inc
 rw [List.pairwise_map] at hp
 unfold List.Nodup
 rw [List.pairwise_map]
 refine hp.imp_of_mem fun {a b} ha hb hab h => ?_
 have e1 := hg.en a ha
 have e2 := hg.en b hb
 have := qw1 (by have := e1.s1; omega) e1.s32 (by have := e2.s1; omega) e2.s32 h
 omega
theorem xjv {g : Mg} (hg : MW g) {x : Ue} (hx : x ∈ g.ents) : g.ents.find? (fun y => uKey y.sess == uKey x.sess) = some x := by
 have hn := qum hg
 generalize g.ents = l at hx hn ⊢
 induction l with
 | nil => cases hx
 | cons a l ih =>
  rw [List.map_cons, List.nodup_cons] at hn
  rcases List.mem_cons.1 hx with rfl | hx
  ·simp
  ·have : (uKey a.sess == uKey x.sess) = false := by
    rw [beq_eq_false_iff_ne]
    exact fun e => hn.1 (List.mem_map.2 ⟨x, hx, e.symm⟩)
   simp only [List.find?_cons, this]
   exact ih hx hn.2
theorem xeu {m m' : Cont} {a b : Mg} (ha : MW a) (hb : MW b) (hs : ∀ x ∈ a.ents, ∃ y ∈ b.ents, y.sess = x.sess) (hr : URep m a) (hg : ∀ k, mGet k m' = vj k (mGet k m) (qrv a b)) : URep m' b := by
 intro k hk
 rw [hg, qrv, xet (qum hb), hr k hk]
 cases hf : b.ents.find? (fun x => uKey x.sess == k) with
 | some x =>
  have hkx := List.find?_some hf
  simp only [beq_iff_eq] at hkx
  simp only [Option.map_some]
  split
  ·rename_i hxa
   rw [← hkx, xjv ha hxa]; rfl
  ·rfl
 | none =>
  simp only [Option.map_none, Option.map_eq_none_iff]
  rw [List.find?_eq_none] at hf ⊢
  intro x hx h
  obtain ⟨y, hy, e⟩ := hs x hx
  exact hf y hy (by rw [e]; exact h)
theorem q9s (roles : Int) : URep qdi ⟨roles, []⟩ := fun k _ => rfl
theorem q9t {m m' : Cont} {g : Mg} (hr : URep m g) (h : ∀ k, pre uPfx k = true → mGet k m' = mGet k m) : URep m' g := fun k hk => by rw [h k hk, hr k hk]
theorem qrw {k : List UInt8} : ∀ {l : List OpS}, (∀ o ∈ l, o.key ≠ k) → ∀ g, vj k g l = g
 | [], _, _ => rfl
 | o :: l, h, g => by rw [vj, if_neg (h o List.mem_cons_self), qrw fun x hx => h x (List.mem_cons_of_mem _ hx)]
theorem q9u {n : Nat} {s : Sto} (h : s.Ok n) (hm : s.m.l.length ≤ 390) {k v : List UInt8} (k1 : 1 ≤ k.length) (k4 : k.length ≤ 40) (hv : v.length ≤ 900) :
  (xf s [⟨k, false, v⟩]).2 = 0 ∧ (xf s [⟨k, false, v⟩]).1.Ok (n + 1) ∧ (xf s [⟨k, false, v⟩]).1.m.l.length ≤ s.m.l.length + 1 ∧ ∀ k', mGet k' (xf s [⟨k, false, v⟩]).1.m = vj k' (mGet k' s.m) [⟨k, false, v⟩] := by
 have hp : jz ⟨k, false, v⟩ = true := vy.2 ⟨k1, k4, hv, fun h => by cases h⟩
 have a1 := xo (n := (k.length : Int)) (xz (by omega))
 have a2 := xo (n := (v.length : Int)) (xz (by omega))
 have a3 := xo (n := (([⟨k, false, v⟩] : List OpS).length : Int)) (xz (by simp))
 have he : (qr [⟨k, false, v⟩]).2 = 0 := by
  unfold qr
  rw [if_neg (by simp [hp]), if_neg]
  simp only [Bool.or_eq_true, decide_eq_true_eq, not_or, wOps, wOp, qa0, List.length_append, List.flatMap_cons, List.flatMap_nil, List.append_nil, List.length_cons, List.length_nil] at a3 ⊢
  omega
 have hy : (jp s.m [⟨k, false, v⟩]).2 = true ∧ (jp s.m [⟨k, false, v⟩]).1.l.length ≤ s.m.l.length + 1 := by
  have hl := q5u k v s.m
  rw [jp, if_neg (by simp), if_neg (by simp only; omega), jp]
  exact ⟨rfl, hl⟩
 have hc : xf s [⟨k, false, v⟩] = (⟨yl s.file (qr [⟨k, false, v⟩]).1, s.synced, (jp s.m [⟨k, false, v⟩]).1⟩, 0) := by
  unfold xf
  rw [if_neg (by simp [he]), if_neg (by simp [hy.1])]
 have hok := qjf h [⟨k, false, v⟩]
 rw [hc] at hok ⊢
 exact ⟨rfl, hok, hy.2, fun k' => qfv k' _ h.good.ok hy.1⟩
theorem xev {r : Int} (h6 : r ≤ 6) {x : Ue} (hx : EnOk r x) : (qes x).length ≤ 30 := by
 have h1 : 0 ≤ r := by have := hx.ml; omega
 have h64 : (2 : Nat) ^ r.toNat ≤ 64 := Nat.le_trans (Nat.pow_le_pow_right (by decide) (show r.toNat ≤ 6 by omega)) (by decide)
 have hp : I64 x.phase := by
  rw [hx.ph]
  rcases qav x with h | h | h | h <;> rw [h.1] <;> unfold I64 <;> omega
 have a := xo hp
 have hb := qgr x.moved
 have hc := qgr x.opened
 have e1 : x.moved.length = r.toNat := by have := hx.ml; omega
 have e2 : x.opened.length = r.toNat := by have := hx.ol; omega
 rw [e1] at hb; rw [e2] at hc
 have b := xo (n := (bitN x.moved : Int)) (by unfold I64; omega)
 have c := xo (n := (bitN x.opened : Int)) (by unfold I64; omega)
 simp only [qes, List.length_append]; omega
theorem q1k {m : Mg} {r : Int} {a c : List Ue} {y : Ue} (ha : ∀ x ∈ a, x ∈ m.ents) (hc : ∀ x ∈ c, x ∈ m.ents) (hy : y ∉ m.ents) : qrv m ⟨r, a ++ y :: c⟩ = [⟨uKey y.sess, false, qes y⟩] := by
 have hn : ∀ l : List Ue, (∀ x ∈ l, x ∈ m.ents) → l.flatMap (chOp m) = [] := fun l hl => by
  rw [List.flatMap_eq_nil_iff]
  intro x hx
  rw [chOp, if_pos (hl x hx)]
 unfold qrv
 simp only [List.flatMap_append, List.flatMap_cons, hn a ha, hn c hc, List.nil_append, List.append_nil]
 rw [chOp, if_neg hy]
structure OneStep (m b : Mg) : Prop where
 mw : MW b
 roles : b.roles = m.roles
 keep : ∀ x ∈ m.ents, ∃ y ∈ b.ents, y.sess = x.sess
 one : ∃ y ∈ b.ents, qrv m b = [⟨uKey y.sess, false, qes y⟩]
theorem OneStep.changes {m b : Mg} (hm : MW m) (h : OneStep m b) : zu m b = (qrv m b, 0) := by
 have h1 : zd m = true := qau.2 hm
 have h2 : zd b = true := qau.2 h.mw
 unfold zu
 rw [if_neg (by simp [h1, h2, h.roles]), if_neg]
 simp only [List.any_eq_true, not_exists, not_and, Bool.not_eq_true', Bool.not_eq_false]
 intro x hx
 obtain ⟨y, hy, e⟩ := h.keep x hx
 exact (qmv h.mw).2 ⟨y, hy, e⟩
theorem q1l {m : Mg} {s : Int} (hm : MW m) (h : (zt m s).2 = 0) : OneStep m (zt m s).1 := by
 have hv := qau.2 hm
 have hs : 1 ≤ s ∧ s ≤ 32 := by
  unfold zt at h
  rw [hv] at h
  simp only [Bool.not_true, Bool.false_eq_true, if_false] at h
  split at h
  ·cases h
  ·rename_i hn
   simp at hn; omega
 rcases qru m s hm hs.1 hs.2 with ⟨_, e⟩ | ⟨hf, a, b, he, e, hw⟩
 ·rw [e] at h; cases h
 ·rw [e]
  refine ⟨hw, rfl, fun x hx => ?_, newE m.roles s, by simp, ?_⟩
  ·rw [he] at hx
   refine ⟨x, ?_, rfl⟩
   simp only [List.mem_append, List.mem_singleton]
   rcases List.mem_append.1 hx with h | h
   ·exact .inl (.inl h)
   ·exact .inr h
  ·have hy : newE m.roles s ∉ m.ents := fun h => by
    have := (qmv hm (s := s)).2 ⟨_, h, rfl⟩
    rw [hf] at this; cases this
   have := q1k (m := m) (r := m.roles) (a := a) (c := b) (fun x hx => by rw [he]; exact List.mem_append_left _ hx) (fun x hx => by rw [he]; exact List.mem_append_right _ hx) hy
   simpa [List.append_assoc] using this
theorem qun {m : Mg} {s r label : Int} (hm : MW m) (hl : label = 1 ∨ label = 2) (h : (xk m (k9 s r label)).2 = 0) : OneStep m (xk m (k9 s r label)).1 := by
 have hv := qau.2 hm
 have hs : 1 ≤ s ∧ s ≤ 32 ∧ 0 ≤ r ∧ r < m.roles := by
  unfold xk at h
  split at h
  ·cases h
  ·rename_i hn
   rw [hv] at hn
   simp only [k9, qk, qez, order, role, Bool.not_true, Bool.false_or, Bool.or_eq_true, bne_iff_ne, ne_eq, not_or, Bool.not_eq_true', decide_eq_true_eq] at hn
   simp at hn
   exact ⟨hn.1.1, of_decide_eq_true hn.1.2.1, hn.1.2.2.1, hn.2⟩
 obtain ⟨h1, h32, h0, hr⟩ := hs
 rcases qe7 m s r label hm h1 h32 h0 hr hl with e | ⟨k, hk, hks, _, hb, _, e, he, hw⟩
 ·exact absurd h e
 ·rw [e]
  have hset : m.ents.set k (ya (jt (k9 s r label) m.ents[k])) = m.ents.take k ++ ya (jt (k9 s r label) m.ents[k]) :: m.ents.drop (k + 1) := by rw [List.set_eq_take_append_cons_drop, if_pos hk]
  refine ⟨hw, rfl, fun x hx => ?_, ya (jt (k9 s r label) m.ents[k]), by rw [hset]; simp, ?_⟩
  ·obtain ⟨i, hi, rfl⟩ := List.getElem_of_mem hx
   by_cases hik : i = k
   ·subst hik
    exact ⟨_, List.mem_set hk _, qgq _ _⟩
   ·refine ⟨m.ents[i], ?_, rfl⟩
    have := List.getElem_set_ne (l := m.ents) (i := k) (j := i) (a := ya (jt (k9 s r label) m.ents[k])) (Ne.symm hik) (by simpa using hi)
    rw [← this]; exact List.getElem_mem _
  ·rw [hset]
   refine q1k (fun x hx => List.mem_of_mem_take hx) (fun x hx => List.mem_of_mem_drop hx) fun hmem => ?_
   have hx := hm.en _ (List.getElem_mem hk)
   have hy := he
   have hn : m.ents.Pairwise fun a b => a.sess ≠ b.sess := by
    have hp := hm.inc
    rw [List.pairwise_map] at hp
    exact hp.imp fun h => by omega
   have hsame : ya (jt (k9 s r label) m.ents[k]) = m.ents[k] := by
    by_cases hxy : ya (jt (k9 s r label) m.ents[k]) = m.ents[k]
    ·exact hxy
    ·exact absurd (qgq _ _) (q4m hn hmem (List.getElem_mem hk) hxy)
   have hrl : r.toNat < m.ents[k].moved.length := by have := hx.ml; omega
   have hrl2 : r.toNat < m.ents[k].opened.length := by have := hx.ol; omega
   rcases hl with rfl | rfl
   ·have e1 := congrArg Ue.moved hsame
    simp only [ya, jt, k9] at e1
    simp only [qa8, k9] at hb
    have := congrArg (fun l => l.getD r.toNat false) e1
    simp [List.getD, hrl] at this hb
    rw [this] at hb; cases hb
   ·have e1 := congrArg Ue.opened hsame
    simp only [ya, jt, k9] at e1
    simp only [qa8, k9] at hb
    have := congrArg (fun l => l.getD r.toNat false) e1
    simp [List.getD, hrl2] at this hb
    rw [this] at hb; cases hb
end Go.Proofs.YtkcdbcbpbolgkaaGreatDoor
namespace Go.Proofs.YtkcdbcbpbolgkaaGreatDoor
open Go.Abs
noncomputable section
set_option maxRecDepth 100000
set_option linter.defProp false
def d316 := cut Tryz.prog Tryz.f316 news
@[go_sem] def E316 := ql d316
def F316 := fnC d316 follows Tryz.func316
def d271 := cut Tryz.prog Tryz.f271 news
@[go_sem] def E271 := ql d271
def F271 := fnC d271 follows Tryz.func271
def d228 := cut Tryz.prog Tryz.f228 news
@[go_sem] def E228 := ql d228
def F228 := fnC d228 follows Tryz.func228
def d146 := cut Tryz.prog Tryz.f146 news
@[go_sem] def E146 := ql d146
def F146 := fnC d146 follows Tryz.func146
def d148 := cut Tryz.prog Tryz.f148 news
@[go_sem] def E148 := ql d148
def F148 := fnC d148 follows Tryz.func148
def d80 := cut Tryz.prog Tryz.f80 news
@[go_sem] def E80 := ql d80
def F80 := fnC d80 follows Tryz.func80
def d79 := cut Tryz.prog Tryz.f79 news
@[go_sem] def E79 := ql d79
def F79 := fnC d79 follows Tryz.func79
def d25 := cut Tryz.prog Tryz.f25 news
@[go_sem] def E25 := ql d25
def F25 := fnC d25 follows Tryz.func25
end
theorem xjw : ∀ n : Fin 10, (([48, 49, 50, 51, 52, 53, 54, 55, 56, 57, 97, 98, 99, 100, 101, 102, 103, 104, 105, 106, 107, 108, 109, 110, 111, 112, 113, 114, 115, 116, 117, 118, 119, 120, 121, 122] : List UInt8).drop n.val).take 1 = [UInt8.ofNat (48 + n.val)] := by decide
theorem q6w (n : Nat) (hn : n < 10) : qg Tryz.prog 316 [.d (.int .i64 (n : Nat))] [] (.d (.str [UInt8.ofNat (48 + n)])) [] := by
 have h1 : decide (((n : Nat) : Int) < 10) = true := by simp; omega
 have h2 := xjw ⟨n, hn⟩
 simp only at h2
 have h3 : IntKind.i64.wrap ((n : Int) + 1) = ((n + 1 : Nat) : Int) := qf (show n < 9223372036854775807 by omega)
 have h4 : n + 1 - n = 1 := by omega
 refine F316.go ?_
 try (refine ev1 @h1 ?_; try exact True.intro)
 (repeat (with_reducible refine ob ?_)); refine qcb ?_
 try (refine ev4 @h3 @Int.toNat_natCast @h4 @h2 ?_; try exact True.intro)
 omega
theorem qnv (n : Nat) (hn : n < 10) : qg Tryz.prog 271 [.d (.int .i64 (n : Nat)), .d (.int .i64 10)] [] (.d (.str [UInt8.ofNat (48 + n)])) [] := by
 have h1 : decide ((0 : Int) ≤ ((n : Nat) : Int)) = true := by simp
 have h2 : decide (((n : Nat) : Int) < 100) = true := by simp; omega
 refine F271.go ?_
 try (refine ev ?_; try exact True.intro)
 (repeat (with_reducible refine ob ?_)); refine qcb ?_
 try (refine ev2 @h1 @h2 ?_; try exact True.intro)
 (repeat (with_reducible refine ob ?_)); refine qcb ?_
 try (refine ev ?_; try exact True.intro)
 (repeat (with_reducible refine ob ?_)); first | refine cl F316 (q6w n hn) ?_ | refine clF F316 (q6w n hn) (fun _ => by (refine ev3 @qn.eq_1 @qu.eq_1 @qp.eq_1 ?_; try exact True.intro)) ?_
 try (refine ev ?_; try exact True.intro)
theorem q6x (n : Nat) (hn : n < 10) : qg Tryz.prog 228 [.d (.int .i64 (n : Nat))] [] (.d (.str [UInt8.ofNat (48 + n)])) [] := by
 refine F228.go ?_
 try (refine ev ?_; try exact True.intro)
 (repeat (with_reducible refine ob ?_)); first | refine cl F271 (qnv n hn) ?_ | refine clF F271 (qnv n hn) (fun _ => by (refine ev3 @qn.eq_1 @qu.eq_1 @qp.eq_1 ?_; try exact True.intro)) ?_
 try (refine ev ?_; try exact True.intro)
theorem qw2 (n : Nat) (hn : n < 10) : qg Tryz.prog 146 [.d (.int .i64 (n : Nat))] [] (.d (.str [UInt8.ofNat (48 + n)])) [] := by
 refine F146.go ?_
 try (refine ev ?_; try exact True.intro)
 (repeat (with_reducible refine ob ?_)); first | refine cl F228 (q6x n hn) ?_ | refine clF F228 (q6x n hn) (fun _ => by (refine ev3 @qn.eq_1 @qu.eq_1 @qp.eq_1 ?_; try exact True.intro)) ?_
 try (refine ev ?_; try exact True.intro)
theorem qw3 (s : Int) (h1 : 0 ≤ s) (h2 : s ≤ 99) : qg Tryz.prog 79 [.d (.int .i64 s)] [] (.d (.str (uKey s))) [] := by
 obtain ⟨n, rfl⟩ : ∃ n : Nat, s = n := ⟨s.toNat, by omega⟩
 have e1 : IntKind.i64.wrap ((n : Int).tdiv 10) = ((n / 10 : Nat) : Int) := by
  rw [Int.tdiv_eq_ediv_of_nonneg (by omega), zf (by unfold I64; omega)]; omega
 have e2 : ((n : Int)).tmod 10 = ((n % 10 : Nat) : Int) := by rw [Int.tmod_eq_emod_of_nonneg (by omega)]; omega
 refine F79.go ?_
 try (refine ev2 @e1 @e2 ?_; try exact True.intro)
 (repeat (with_reducible refine ob ?_)); first | refine cl F146 (qw2 (n / 10) (by omega)) ?_ | refine clF F146 (qw2 (n / 10) (by omega)) (fun _ => by (refine ev3 @qn.eq_1 @qu.eq_1 @qp.eq_1 ?_; try exact True.intro)) ?_
 try (refine ev ?_; try exact True.intro)
 (repeat (with_reducible refine ob ?_)); first | refine cl F146 (qw2 (n % 10) (by omega)) ?_ | refine clF F146 (qw2 (n % 10) (by omega)) (fun _ => by (refine ev3 @qn.eq_1 @qu.eq_1 @qp.eq_1 ?_; try exact True.intro)) ?_
 try (refine ev3 @uKey.eq_1 @Int.toNat_natCast @List.append_assoc.{0} ?_; try exact True.intro)
def xew (l : List Bool) (i : { i : Nat // i ≤ l.length }) : St :=
 ⟨[(3, true, .d (.int .i64 (bitN (l.take i.val) : Nat))), (6, true, .d (.sl 1 (l.map encB))), (7, true, .d (.int .i64 l.length)), (8, true, .d (.int .i64 (i.val : Nat)))], [], [], 1⟩
theorem q1m : ∀ (l : List Bool) (b : Bool), bitN (l ++ [b]) = bitN l + b.toNat * 2 ^ l.length
 | [], b => by simp [bitN]
 | c :: l, b => by
  rw [List.cons_append, bitN, q1m l b, bitN, List.length_cons, Nat.pow_succ, Nat.mul_add, ← Nat.mul_assoc, Nat.mul_comm 2 b.toNat, Nat.mul_assoc, Nat.mul_comm 2 (2 ^ l.length)]
  omega
theorem xq5 {u i : Nat} (hu : u < 2 ^ i) (hi : i ≤ 60) : IntKind.i64.wrap (bvOr 64 (u : Int) (IntKind.i64.wrap (1 * 2 ^ (min i 64)))) = ((u + 2 ^ i : Nat) : Int) := by
 have hp : (2 : Nat) ^ i ≤ 2 ^ 60 := Nat.pow_le_pow_right (by decide) hi
 have e1 : min i 64 = i := by omega
 have e2 : (1 : Int) * 2 ^ i = ((2 ^ i : Nat) : Int) := by simp
 rw [e1, e2, zf (n := ((2 ^ i : Nat) : Int)) (by unfold I64; omega)]
 have e3 : bvOr 64 (u : Int) ((2 ^ i : Nat) : Int) = ((u ||| 2 ^ i : Nat) : Int) := by
  unfold bvOr
  rw [BitVec.toNat_or, BitVec.ofInt_natCast, BitVec.ofInt_natCast, BitVec.toNat_ofNat, BitVec.toNat_ofNat, Nat.mod_eq_of_lt (by omega), Nat.mod_eq_of_lt (by omega)]
 have e4 := q30 u 1 i hu
 rw [Nat.one_mul] at e4
 rw [e3, e4, zf (by unfold I64; omega)]
theorem qw4 (l : List Bool) (hl : l.length ≤ 60) : qg Tryz.prog 148 [.d (.sl 1 (l.map encB))] [] (.d (.int .i64 (bitN l : Nat))) [] := by
 refine F148.go ?_
 try (refine ev ?_; try exact True.intro)
 refine qj (xew l) (fun i => l.length - i.val) ⟨0, Nat.zero_le _⟩ ?_ (fun i => ?_)
 ·try simp only [xew, List.take_zero, bitN, Int.ofNat_zero, go_sem, Nat.reduceAdd, Nat.reduceMul, Nat.reduceSub, Nat.reduceEqDiff, Nat.reduceLT, Nat.reduceLeDiff, Nat.reduceBEq, reduceIte, reduceCtorEq, Int.reduceAdd, Int.reduceLT, Int.reduceLE, Int.reduceGT, Int.reduceGE, Int.reduceEq, Int.reduceNe, Int.reduceBEq, Int.reduceBNe, Int.reduceToNat, Int.reduceNeg]
 obtain ⟨i, hi⟩ := i
 try (refine ev1 @xew.eq_1 ?_; try exact True.intro)
 (repeat (with_reducible refine ob ?_)); refine xn _ (fun h => ?_) (fun h => ?_)
 ·have hil : i < l.length := by simpa using h
  have hw := qf (show i < 9223372036854775807 by omega)
  have hlen : (l.take i).length = i := by rw [List.length_take]; omega
  have hsn : bitN (l.take (i + 1)) = bitN (l.take i) + (l[i]).toNat * 2 ^ i := by
   rw [← List.take_append_getElem hil, q1m, hlen]
  have hlt := qgr (l.take i)
  rw [hlen] at hlt
  (refine ev2 (qi encB l hil) @encB.eq_1 ?_; try exact True.intro)
  (repeat (with_reducible refine ob ?_))
  refine xn _ (fun h2 => ?_) (fun h2 => ?_)
  ·have ho := xq5 hlt (show i ≤ 60 by omega)
   rw [h2, Bool.toNat_true, Nat.one_mul] at hsn
   rw [← hsn] at ho
   try (refine ev2 @Int.toNat_natCast @ho ?_; try exact True.intro)
   (repeat (with_reducible refine ob ?_))
   refine ⟨⟨i + 1, hil⟩, ?_, by dsimp only; omega⟩
   try (refine ev2 @xew.eq_1 @hw ?_; try exact True.intro)
  ·rw [h2, Bool.toNat_false, Nat.zero_mul, Nat.add_zero] at hsn
   try (refine ev ?_; try exact True.intro)
   refine ⟨⟨i + 1, hil⟩, ?_, by dsimp only; omega⟩
   try (refine ev3 @xew.eq_1 @hw @hsn ?_; try exact True.intro)
 ·have hil : l.length ≤ i := by simpa using h
  try (refine ev1 (List.take_of_length_le hil) ?_; try exact True.intro)
theorem xjx (x : Ue) (hp : I64 x.phase) (h1 : x.moved.length ≤ 60) (h2 : x.opened.length ≤ 60) : qg Tryz.prog 80 [.d (.agg (qn x))] [] (.d (.sl 1 (qd (qes x)))) [] := by
 have p1 : (2 : Nat) ^ x.moved.length ≤ 2 ^ 60 := Nat.pow_le_pow_right (by decide) h1
 have p2 : (2 : Nat) ^ x.opened.length ≤ 2 ^ 60 := Nat.pow_le_pow_right (by decide) h2
 have q1 := qgr x.moved
 have q2 := qgr x.opened
 have i1 : I64 (bitN x.moved : Nat) := by unfold I64; omega
 have i2 : I64 (bitN x.opened : Nat) := by unfold I64; omega
 have a1 := xo hp
 have a2 := xo i1
 refine F80.go ?_
 try (refine ev1 @qn.eq_1 ?_; try exact True.intro)
 refine clA F147 (jy [] x.phase (by simp) hp) ?_
 try (refine ev ?_; try exact True.intro)
 (repeat (with_reducible refine ob ?_)); first | refine cl F148 (qw4 x.moved h1) ?_ | refine clF F148 (qw4 x.moved h1) (fun _ => by (refine ev3 @qn.eq_1 @qu.eq_1 @qp.eq_1 ?_; try exact True.intro)) ?_
 try (refine ev ?_; try exact True.intro)
 refine clA F147 (jy ([] ++ wInt x.phase) _ (by rw [List.nil_append]; omega) i1) ?_
 try (refine ev ?_; try exact True.intro)
 (repeat (with_reducible refine ob ?_)); first | refine cl F148 (qw4 x.opened h2) ?_ | refine clF F148 (qw4 x.opened h2) (fun _ => by (refine ev3 @qn.eq_1 @qu.eq_1 @qp.eq_1 ?_; try exact True.intro)) ?_
 try (refine ev ?_; try exact True.intro)
 refine clA F147 (jy ([] ++ wInt x.phase ++ wInt (bitN x.moved : Nat)) _ (by rw [List.nil_append, List.length_append]; omega) i2) ?_
 try simp only [qes, List.nil_append, go_sem, Nat.reduceAdd, Nat.reduceMul, Nat.reduceSub, Nat.reduceEqDiff, Nat.reduceLT, Nat.reduceLeDiff, Nat.reduceBEq, reduceIte, reduceCtorEq, Int.reduceAdd, Int.reduceLT, Int.reduceLE, Int.reduceGT, Int.reduceGE, Int.reduceEq, Int.reduceNe, Int.reduceBEq, Int.reduceBNe, Int.reduceToNat, Int.reduceNeg]
theorem xjy {a : Mg} (ha : MW a) (x : Ue) : ((xh a x.sess).2 && decide (x = a.ents.getD (xh a x.sess).1 default)) = decide (x ∈ a.ents) := by
 cases hf : (xh a x.sess).2 with
 | false =>
  have : x ∉ a.ents := fun h => by
   have := (qmv ha (s := x.sess)).2 ⟨x, h, rfl⟩
   rw [hf] at this; cases this
  simp [this]
 | true =>
  obtain ⟨hk, hs⟩ := qio hf
  rw [Bool.true_and, x9 hk, decide_eq_decide]
  constructor
  ·intro h; rw [h]; exact List.getElem_mem hk
  ·intro h
   have hn : a.ents.Pairwise fun a b => a.sess ≠ b.sess := by
    have hp := ha.inc
    rw [List.pairwise_map] at hp
    exact hp.imp fun h => by omega
   by_cases hxy : x = a.ents[(xh a x.sess).1]
   ·exact hxy
   ·exact absurd hs.symm (q4m hn h (List.getElem_mem hk) hxy)
def Sch1 (a b : Mg) (i : { i : Nat // qbz (fun i => (xh b (a.ents.getD i default).sess).2) i = true }) : St :=
 ⟨[(2, true, .d (.ptr 0 0)), (3, true, .d (.ptr 1 0)), (31, true, .d (.sl 4 (a.ents.map qn))), (32, true, .d (.int .i64 a.ents.length)), (33, true, .d (.int .i64 (i.val : Nat)))], [zr a, zr b], [], 1⟩
def Sch2 (a b : Mg) (i : { i : Nat // i ≤ b.ents.length }) : St :=
 ⟨[(2, true, .d (.ptr 0 0)), (3, true, .d (.ptr 1 0)), (10, true, .own 0 3 (((b.ents.take i.val).flatMap (chOp a)).map qp)), (48, true, .d (.sl 4 (b.ents.map qn))), (49, true, .d (.int .i64 b.ents.length)), (50, true, .d (.int .i64 (i.val : Nat)))], [zr a, zr b], [0], 1⟩
theorem xex {a b : Mg} : (a.ents.any fun x => !(xh b x.sess).2) = !qbz (fun i => (xh b (a.ents.getD i default).sess).2) a.ents.length := by
 rw [Bool.eq_iff_iff]
 simp only [List.any_eq_true, Bool.not_eq_true', ← Bool.not_eq_true, za, Classical.not_forall]
 constructor
 ·rintro ⟨x, hx, h⟩
  obtain ⟨i, hi, rfl⟩ := List.getElem_of_mem hx
  exact ⟨i, hi, by rw [x9 hi]; exact h⟩
 ·rintro ⟨i, hi, h⟩
  exact ⟨a.ents[i], List.getElem_mem hi, by rw [x9 hi] at h; exact h⟩
theorem xq6 (a : Mg) (l : List Ue) : (l.flatMap (chOp a)).length ≤ l.length := by
 induction l with
 | nil => simp
 | cons x l ih =>
  have : (chOp a x).length ≤ 1 := by unfold chOp; split <;> simp
  rw [List.flatMap_cons, List.length_append, List.length_cons]; omega
set_option maxRecDepth 10000 in
theorem q9v (a b : Mg) (ha : a.Sm) (hb : b.Sm) : qg Tryz.prog 25 [.d (.agg (qu a)), .d (.agg (qu b))] [] (.tup [.d (.sl 3 ((zu a b).1.map qp)), .d (.int .i64 (zu a b).2)]) [] := by
 have hal := ha.1
 have hbl := hb.1
 refine F25.goT ?_
 try (refine ev1 @qu.eq_1 ?_; try exact True.intro)
 (repeat (with_reducible refine ob ?_)); first | refine cl F69 (yx a ha) ?_ | refine clF F69 (yx a ha) (fun _ => by (refine ev3 @qn.eq_1 @qu.eq_1 @qp.eq_1 ?_; try exact True.intro)) ?_
 try (refine ev ?_; try exact True.intro)
 (repeat (with_reducible refine ob ?_)); first | refine cl F69 (yx b hb) ?_ | refine clF F69 (yx b hb) (fun _ => by (refine ev3 @qn.eq_1 @qu.eq_1 @qp.eq_1 ?_; try exact True.intro)) ?_
 try (refine ev ?_; try exact True.intro)
 (repeat (with_reducible refine ob ?_))
 (repeat (with_reducible refine ob ?_)); refine xn _ (fun h => ?_) (fun h => ?_)
 ·have hx : zu a b = ([], 1) := by unfold zu; rw [if_pos h]
  try (refine ev2 @hx @List.map_nil.{0,0} ?_; try exact True.intro)
 have h0 := h
 simp only [Bool.or_eq_false_iff, Bool.not_eq_false', bne_eq_false_iff_eq] at h
 obtain ⟨⟨va, vb⟩, hr⟩ := h
 have wa := qau.1 va
 have wb := qau.1 vb
 try (refine ev ?_; try exact True.intro)
 refine qj (Sch1 a b) (fun i => a.ents.length - i.val) ⟨0, rfl⟩ ?_ (fun i => ?_)
 ·try (refine ev3 @Sch1.eq_1 @zr.eq_1 @Int.ofNat_zero ?_; try exact True.intro)
 obtain ⟨i, hi⟩ := i
 try (refine ev2 @Sch1.eq_1 @zr.eq_1 ?_; try exact True.intro)
 (repeat (with_reducible refine ob ?_)); refine xn _ (fun h => ?_) (fun h => ?_)
 ·have hil : i < a.ents.length := by simpa using h
  have k := qfz b (a.ents[i]).sess hb
  simp only [qu] at k
  (refine ev2 (qi qn a.ents hil) @qn.eq_1 ?_; try exact True.intro)
  (repeat (with_reducible refine ob ?_))
  (repeat (with_reducible refine ob ?_)); first | refine cl F77 (k) ?_ | refine clF F77 (k) (fun _ => by (refine ev3 @qn.eq_1 @qu.eq_1 @qp.eq_1 ?_; try exact True.intro)) ?_
  try (refine ev ?_; try exact True.intro)
  refine xn _ (fun h2 => ?_) (fun h2 => ?_)
  ·have hg : (fun i => (xh b (a.ents.getD i default).sess).2) i = false := by simp only [x9 hil]; simpa using h2
   have hx : zu a b = ([], 1) := by
    unfold zu
    rw [if_neg (by rw [h0]; simp), if_pos]
    rw [xex, qe0 hil hg]; rfl
   try (refine ev2 @hx @List.map_nil.{0,0} ?_; try exact True.intro)
  ·try (refine ev ?_; try exact True.intro)
   refine ⟨⟨i + 1, yw hi (by simp only [x9 hil]; simpa using h2)⟩, ?_, by dsimp only; omega⟩
   try (refine ev3 @Sch1.eq_1 @zr.eq_1 (qf (show i < 9223372036854775807 by omega)) ?_; try exact True.intro)
 have hil : a.ents.length ≤ i := by simpa using h
 have hall : qbz (fun i => (xh b (a.ents.getD i default).sess).2) a.ents.length = true := za.2 fun j hj => za.1 hi j (by omega)
 have hx : zu a b = (qrv a b, 0) := by
  unfold zu
  rw [if_neg (by rw [h0]; simp), if_neg]
  rw [xex, hall]; simp
 rw [hx]
 try (refine ev ?_; try exact True.intro)
 refine qj (Sch2 a b) (fun i => b.ents.length - i.val) ⟨0, Nat.zero_le _⟩ ?_ (fun i => ?_)
 ·try (refine ev6 @Sch2.eq_1 @zr.eq_1 @Int.ofNat_zero @List.take_zero.{0} @List.flatMap_nil.{0,0} @List.map_nil.{0,0} ?_; try exact True.intro)
 obtain ⟨j, hj⟩ := i
 try (refine ev2 @Sch2.eq_1 @zr.eq_1 ?_; try exact True.intro)
 (repeat (with_reducible refine ob ?_)); refine xn _ (fun h => ?_) (fun h => ?_)
 ·have hjl : j < b.ents.length := by simpa using h
  have hxs := hb.2 _ (List.getElem_mem hjl)
  have hxe := wb.en _ (List.getElem_mem hjl)
  have kf := qfz a (b.ents[j]).sess ha
  have hph : I64 (b.ents[j]).phase := by
   rw [hxe.ph]
   rcases qav b.ents[j] with h | h | h | h <;> rw [h.1] <;> unfold I64 <;> omega
  have kv := xjx b.ents[j] hph (by have := hxe.ml; have := wb.r6; omega) (by have := hxe.ol; have := wb.r6; omega)
  simp only [qn] at kv
  have hlen := xq6 a (b.ents.take j)
  rw [List.length_take] at hlen
  have hsnoc : (b.ents.take (j + 1)).flatMap (chOp a) = (b.ents.take j).flatMap (chOp a) ++ chOp a b.ents[j] := by
   rw [← List.take_append_getElem hjl, List.flatMap_append]; simp
  have hsame := xjy wa b.ents[j]
  have hw := qf (show j < 9223372036854775807 by omega)
  simp only [qu] at kf
  (refine ev2 (qi qn b.ents hjl) @qn.eq_1 ?_; try exact True.intro)
  (repeat (with_reducible refine ob ?_))
  (repeat (with_reducible refine ob ?_)); first | refine cl F77 (kf) ?_ | refine clF F77 (kf) (fun _ => by (refine ev3 @qn.eq_1 @qu.eq_1 @qp.eq_1 ?_; try exact True.intro)) ?_
  try (refine ev ?_; try exact True.intro)
  cases hf : (xh a (b.ents[j]).sess).2 with
  | false =>
   rw [hf, Bool.false_and] at hsame
   have hc : chOp a b.ents[j] = [⟨uKey b.ents[j].sess, false, qes b.ents[j]⟩] := by unfold chOp; rw [if_neg (of_decide_eq_false hsame.symm)]
   try (refine ev1 @hf ?_; try exact True.intro)
   (repeat (with_reducible refine ob ?_)); refine qg3 ?_
   try (refine ev ?_; try exact True.intro)
   (repeat (with_reducible refine ob ?_)); refine no_ ?_
   try (refine ev ?_; try exact True.intro)
   (repeat (with_reducible refine ob ?_)); first | refine cl F79 (qw3 (b.ents[j]).sess (by have := hxe.s1; omega) (by have := hxe.s32; omega)) ?_ | refine clF F79 (qw3 (b.ents[j]).sess (by have := hxe.s1; omega) (by have := hxe.s32; omega)) (fun _ => by (refine ev3 @qn.eq_1 @qu.eq_1 @qp.eq_1 ?_; try exact True.intro)) ?_
   try (refine ev ?_; try exact True.intro)
   (repeat (with_reducible refine ob ?_)); first | refine cl F80 (kv) ?_ | refine clF F80 (kv) (fun _ => by (refine ev3 @qn.eq_1 @qu.eq_1 @qp.eq_1 ?_; try exact True.intro)) ?_
   try (refine ev ?_; try exact True.intro)
   (repeat (with_reducible refine ob ?_))
   refine ⟨⟨j + 1, hjl⟩, ?_, by dsimp only; omega⟩
   try simp only [Sch2, zr, hsnoc, hc, List.map_append, List.map_cons, List.map_nil, qp, hw, go_sem, Nat.reduceAdd, Nat.reduceMul, Nat.reduceSub, Nat.reduceEqDiff, Nat.reduceLT, Nat.reduceLeDiff, Nat.reduceBEq, reduceIte, reduceCtorEq, Int.reduceAdd, Int.reduceLT, Int.reduceLE, Int.reduceGT, Int.reduceGE, Int.reduceEq, Int.reduceNe, Int.reduceBEq, Int.reduceBNe, Int.reduceToNat, Int.reduceNeg]
  | true =>
   obtain ⟨hk, _⟩ := qio hf
   rw [hf, Bool.true_and, x9 hk] at hsame
   generalize (xh a (b.ents[j]).sess).1 = k at hk hsame ⊢
   have hys := ha.2 _ (List.getElem_mem hk)
   have kq := qmb b.ents[j] a.ents[k] hxs
   simp only [qn] at kq
   try (refine ev2 @hf @Int.toNat_natCast ?_; try exact True.intro)
   (refine ev2 (qi qn a.ents hk) @qn.eq_1 ?_; try exact True.intro)
   (repeat (with_reducible refine ob ?_))
   (repeat (with_reducible refine ob ?_)); first | refine cl F78 (kq) ?_ | refine clF F78 (kq) (fun _ => by (refine ev3 @qn.eq_1 @qu.eq_1 @qp.eq_1 ?_; try exact True.intro)) ?_
   try (refine ev ?_; try exact True.intro)
   refine xn _ (fun h2 => ?_) (fun h2 => ?_)
   ·have hc : chOp a b.ents[j] = [] := by unfold chOp; rw [if_pos (of_decide_eq_true (hsame.symm.trans h2))]
    try (refine ev ?_; try exact True.intro)
    refine ⟨⟨j + 1, hjl⟩, ?_, by dsimp only; omega⟩
    try (refine ev6 @Sch2.eq_1 @zr.eq_1 @hsnoc @hc @List.append_nil.{0} @hw ?_; try exact True.intro)
   ·have hc : chOp a b.ents[j] = [⟨uKey b.ents[j].sess, false, qes b.ents[j]⟩] := by unfold chOp; rw [if_neg (of_decide_eq_false (hsame.symm.trans h2))]
    try (refine ev ?_; try exact True.intro)
    (repeat (with_reducible refine ob ?_)); first | refine cl F79 (qw3 (b.ents[j]).sess (by have := hxe.s1; omega) (by have := hxe.s32; omega)) ?_ | refine clF F79 (qw3 (b.ents[j]).sess (by have := hxe.s1; omega) (by have := hxe.s32; omega)) (fun _ => by (refine ev3 @qn.eq_1 @qu.eq_1 @qp.eq_1 ?_; try exact True.intro)) ?_
    try (refine ev ?_; try exact True.intro)
    (repeat (with_reducible refine ob ?_)); first | refine cl F80 (kv) ?_ | refine clF F80 (kv) (fun _ => by (refine ev3 @qn.eq_1 @qu.eq_1 @qp.eq_1 ?_; try exact True.intro)) ?_
    try (refine ev ?_; try exact True.intro)
    (repeat (with_reducible refine ob ?_))
    refine ⟨⟨j + 1, hjl⟩, ?_, by dsimp only; omega⟩
    try simp only [Sch2, zr, hsnoc, hc, List.map_append, List.map_cons, List.map_nil, qp, hw, go_sem, Nat.reduceAdd, Nat.reduceMul, Nat.reduceSub, Nat.reduceEqDiff, Nat.reduceLT, Nat.reduceLeDiff, Nat.reduceBEq, reduceIte, reduceCtorEq, Int.reduceAdd, Int.reduceLT, Int.reduceLE, Int.reduceGT, Int.reduceGE, Int.reduceEq, Int.reduceNe, Int.reduceBEq, Int.reduceBNe, Int.reduceToNat, Int.reduceNeg]
 ·have hjl : b.ents.length ≤ j := by simpa using h
  try (refine ev2 @qrv.eq_1 (List.take_of_length_le hjl) ?_; try exact True.intro)
end Go.Proofs.YtkcdbcbpbolgkaaGreatDoor
namespace Go.Proofs.YtkcdbcbpbolgkaaGreatDoor
open Go.Abs
structure MapM (K V : Type) where
 l : List (Nat × K × V)
 c : Nat
 deriving Inhabited
section
variable {K V : Type} [DecidableEq K]
def qeq (k : K) (x : Nat × K × V) : Bool := decide (k = x.2.1)
def MapM.get (m : MapM K V) (k : K) : Option V := (m.l.find? (qeq k)).map (·.2.2)
def MapM.put (m : MapM K V) (k : K) (v : V) : MapM K V := match m.l.findIdx? (qeq k) with
 | some j => ⟨m.l.modify j fun e => (e.1, k, v), m.c⟩
 | none => ⟨m.l ++ [(m.c, k, v)], m.c + 1⟩
def encE (eK : K → D) (eV : V → D) (x : Nat × K × V) : Nat × D × D := (x.1, eK x.2.1, eV x.2.2)
structure KeyE (kd : KD) (eK : K → D) : Prop where
 is : ∀ a n b d, qa2 (eK a) (n, eK b, d) = decide (a = b)
 fit : ∀ a b, kd.fit (eK a) (eK b) = true
variable {kd : KD} {eK : K → D} {eV : V → D}
theorem KeyE.findIdx (h : KeyE kd eK) (k : K) (l : List (Nat × K × V)) : (l.map (encE eK eV)).findIdx? (qa2 (eK k)) = l.findIdx? (qeq k) := by
 rw [List.findIdx?_map]
 congr 1
 funext x
 exact h.is k x.1 x.2.1 _
theorem KeyE.put (h : KeyE kd eK) (m : MapM K V) (k : K) (v : V) : qg5 (eK k) (eV v) m.c (m.l.map (encE eK eV)) = (m.put k v).l.map (encE eK eV) := by
 unfold qg5 MapM.put
 rw [h.findIdx]
 cases hf : m.l.findIdx? (qeq k) with
 | none => simp [encE]
 | some j =>
  simp only
  apply List.ext_getElem?
  intro i
  rw [List.getElem?_modify, List.getElem?_map, List.getElem?_map, List.getElem?_modify]
  cases m.l[i]? with
  | none => rfl
  | some x =>
   show some (if j = i then _ else _) = some (encE eK eV (if j = i then _ else _))
   split <;> rfl
theorem KeyE.clock (h : KeyE kd eK) (m : MapM K V) (k : K) (v : V) : qbr (eK k) m.c (m.l.map (encE eK eV)) = (m.put k v).c := by
 unfold qbr MapM.put
 rw [h.findIdx]
 cases m.l.findIdx? (qeq k) <;> rfl
theorem KeyE.find (h : KeyE kd eK) (m : MapM K V) (k : K) : qax (eK k) (m.l.map (encE eK eV)) = (m.get k).map eV := by
 unfold qax MapM.get
 rw [List.find?_map]
 have : qa2 (eK k) ∘ encE eK eV = qeq k := by
  funext x
  exact h.is k x.1 x.2.1 _
 rw [this]
 cases m.l.find? (qeq k) <;> rfl
theorem KeyE.keyFit (h : KeyE kd eK) (k : K) (l : List (Nat × K × V)) : keyFit kd (eK k) (l.map (encE eK eV)) = true := by
 simp only [Go.Abs.keyFit, h.fit, Bool.true_and, List.all_map]
 exact List.all_eq_true.2 fun x _ => h.fit _ _
theorem MapM.get_put (m : MapM K V) (k k' : K) (v : V) : (m.put k v).get k' = if k' = k then some v else m.get k' := by
 unfold MapM.put MapM.get
 cases hf : m.l.findIdx? (qeq k) with
 | none =>
  have hn : ∀ x ∈ m.l, qeq k x = false := by
   intro x hx
   have := List.findIdx?_eq_none_iff.1 hf x hx
   simpa using this
  simp only [List.find?_append, List.find?_cons, List.find?_nil]
  by_cases hk : k' = k
  ·subst hk
   have : m.l.find? (qeq k') = none := List.find?_eq_none.2 fun x hx => by simp [hn x hx]
   simp [this, qeq]
  ·simp only [if_neg hk]
   have : qeq k' (m.c, k, v) = false := by simp [qeq, hk]
   rw [this]
   cases m.l.find? (qeq k') <;> rfl
 | some j =>
  obtain ⟨hj, hx, hb⟩ := List.findIdx?_eq_some_iff_getElem.1 hf
  have hkey : (m.l[j]).2.1 = k := by simpa [qeq, eq_comm] using hx
  simp only
  have gen : ∀ (l : List (Nat × K × V)) (j : Nat) (hj : j < l.length), (l[j]).2.1 = k → (∀ i (hi : i < j), (l[i]'(by omega)).2.1 ≠ k) →
    ((l.modify j fun e => (e.1, k, v)).find? (qeq k')).map (·.2.2) = if k' = k then some v else (l.find? (qeq k')).map (·.2.2) := by
   intro l
   induction l with
   | nil => intro j hj; simp at hj
   | cons e l ih =>
    intro j hj h1 h2
    cases j with
    | zero =>
     simp only [List.getElem_cons_zero] at h1
     simp only [List.modify_zero_cons, List.find?_cons]
     by_cases hk : k' = k
     ·subst hk; simp [qeq]
     ·simp [qeq, hk, h1]
    | succ j =>
     simp only [List.modify_succ_cons, List.find?_cons]
     have h0 : e.2.1 ≠ k := by simpa using h2 0 (by omega)
     have hr := ih j (by simpa using hj) (by simpa using h1) (fun i hi => by simpa using h2 (i + 1) (by omega))
     by_cases hk : k' = e.2.1
     ·subst hk
      simp [qeq, h0]
     ·have : qeq k' e = false := by simp [qeq, hk]
      simp only [this]
      exact hr
  exact gen m.l j hj hkey fun i hi => by
   have := hb i hi
   simpa [qeq, eq_comm] using this
end
structure Pr where
 s : Int
 f : Int
 t : Int
 deriving DecidableEq, Inhabited
structure Tk where
 p : Pr
 n : Int
 deriving DecidableEq, Inhabited
structure TryM where
 count : Int
 next : Int
 deriving DecidableEq, Inhabited
structure OutM where
 to : Int
 p : Pk
 deriving DecidableEq, Inhabited
def qw5 (p : Pr) : D := .agg [.int .i64 p.s, .int .i64 p.f, .int .i64 p.t]
def qw6 (t : Tk) : D := .agg [.int .i64 t.p.s, .int .i64 t.p.f, .int .i64 t.p.t, .int .i64 t.n]
def qlh (y : TryM) : D := .agg [.int .i64 y.count, .int .i64 y.next]
def xj (o : OutM) : List D := .int .i64 o.to :: qe o.p
theorem qnw (o : OutM) : D.noPtrL (xj o) = true := by simp only [xj, D.noPtrL, D.noPtr, qge, Bool.and_self]
theorem qup : ∀ l : List OutM, D.noPtrR (l.map xj) = true
 | [] => rfl
 | o :: l => by simp only [List.map_cons, D.noPtrR, qnw, qup l, Bool.and_self]
attribute [go_sem] qnw qup
theorem qw7 : KeyE (.agg [.int, .int, .int]) qw5 := by
 refine ⟨fun a n b d => ?_, fun a b => rfl⟩
 cases a; cases b
 simp only [qa2, qw5, x6, qgy, Pr.mk.injEq, Bool.and_true, Bool.decide_and]
 try rfl
theorem qw8 : KeyE (.agg [.int, .int, .int, .int]) qw6 := by
 refine ⟨fun a n b d => ?_, fun a b => rfl⟩
 obtain ⟨⟨a1, a2, a3⟩, a4⟩ := a
 obtain ⟨⟨b1, b2, b3⟩, b4⟩ := b
 simp only [qa2, qw6, x6, qgy, Tk.mk.injEq, Pr.mk.injEq, Bool.and_true, Bool.decide_and, Bool.and_assoc]
 rfl
structure Brk where
 roles : Int
 sess : Int
 s : Sto
 q : MapM Pr Qu
 m : Mg
 p : List OutM
 t : MapM Tk TryM
def qjs (q : Qu) : D := .agg (encQ q)
def qmO (m : MapM Pr Qu) : AObj := .map (m.l.map (encE qw5 qjs)) m.c
def tmO (m : MapM Tk TryM) : AObj := .map (m.l.map (encE qw6 qlh)) m.c
def qo (b : Brk) : List ASlot := [.d (.int .i64 b.roles), .d (.int .i64 b.sess), .d (.ptr 1 0), .d (.map 3), .d (.int .i64 b.m.roles), .d (.sl 4 (b.m.ents.map qn)), .own 0 10 (b.p.map xj), .d (.map 4)]
def brO (b : Brk) : List AObj := [.row (qo b), stoO b.s 2, mapO b.s.m, qmO b.q, tmO b.t]
def afB (b b' : Brk) : Bool → List AObj
 | true => [.row (qo b'), stoO b'.s 5, mapO b.s.m, qmO b'.q, tmO b'.t, mapO b'.s.m]
 | false => [.row (qo b'), stoO b'.s 2, mapO b'.s.m, qmO b'.q, tmO b'.t, .none]
def lkQ : Option Qu → D
 | some q => qjs q
 | none => .agg [.int .i64 0, .int .i64 0, .nilsl]
def noQ : Qu := ⟨0, 0, []⟩
def Brk.queue (b : Brk) (k : Pr) : Qu := (b.q.get k).getD noQ
theorem xn0 (m : MapM Pr Qu) (s f t : Int) : qfj false (.d (.agg [.int .i64 0, .int .i64 0, .nilsl])) (qax (.agg [.int .i64 s, .int .i64 f, .int .i64 t]) (m.l.map (encE qw5 qjs))) = .d (lkQ (m.get ⟨s, f, t⟩)) := by
 have := qw7.find (eV := qjs) m ⟨s, f, t⟩
 simp only [qw5] at this
 rw [this]
 cases m.get ⟨s, f, t⟩ <;> rfl
theorem xjz (m : MapM Pr Qu) (s f t : Int) : keyFit (.agg [.int, .int, .int]) (.agg [.int .i64 s, .int .i64 f, .int .i64 t]) (m.l.map (encE qw5 qjs)) = true := qw7.keyFit ⟨s, f, t⟩ m.l
theorem xsp (m : MapM Pr Qu) (s f t : Int) (q : Qu) : qg5 (.agg [.int .i64 s, .int .i64 f, .int .i64 t]) (.agg [.int .i64 q.acc, .int .i64 q.cons, .sl 9 (q.items.map qe)]) m.c (m.l.map (encE qw5 qjs)) = (m.put ⟨s, f, t⟩ q).l.map (encE qw5 qjs) := qw7.put (eV := qjs) m ⟨s, f, t⟩ q
theorem xey (m : MapM Pr Qu) (s f t : Int) (q : Qu) : qbr (.agg [.int .i64 s, .int .i64 f, .int .i64 t]) m.c (m.l.map (encE qw5 qjs)) = (m.put ⟨s, f, t⟩ q).c := qw7.clock (eV := qjs) m ⟨s, f, t⟩ q
theorem xn1 (m : MapM Tk TryM) (s f t n : Int) : qfj true (.d (.agg [.int .i64 0, .int .i64 0])) (qax (.agg [.int .i64 s, .int .i64 f, .int .i64 t, .int .i64 n]) (m.l.map (encE qw6 qlh))) =
  .tup [.d (.agg [.int .i64 ((m.get ⟨⟨s, f, t⟩, n⟩).getD ⟨0, 0⟩).count, .int .i64 ((m.get ⟨⟨s, f, t⟩, n⟩).getD ⟨0, 0⟩).next]), .d (.bool (m.get ⟨⟨s, f, t⟩, n⟩).isSome)] := by
 have := qw8.find (eV := qlh) m ⟨⟨s, f, t⟩, n⟩
 simp only [qw6] at this
 rw [this]
 cases m.get ⟨⟨s, f, t⟩, n⟩ <;> rfl
theorem xj0 (m : MapM Tk TryM) (s f t n : Int) : keyFit (.agg [.int, .int, .int, .int]) (.agg [.int .i64 s, .int .i64 f, .int .i64 t, .int .i64 n]) (m.l.map (encE qw6 qlh)) = true := qw8.keyFit ⟨⟨s, f, t⟩, n⟩ m.l
theorem xsq (m : MapM Tk TryM) (s f t n : Int) (c x : Int) : qg5 (.agg [.int .i64 s, .int .i64 f, .int .i64 t, .int .i64 n]) (.agg [.int .i64 c, .int .i64 x]) m.c (m.l.map (encE qw6 qlh)) = (m.put ⟨⟨s, f, t⟩, n⟩ ⟨c, x⟩).l.map (encE qw6 qlh) := qw8.put (eV := qlh) m ⟨⟨s, f, t⟩, n⟩ ⟨c, x⟩
theorem xez (m : MapM Tk TryM) (s f t n : Int) (c x : Int) : qbr (.agg [.int .i64 s, .int .i64 f, .int .i64 t, .int .i64 n]) m.c (m.l.map (encE qw6 qlh)) = (m.put ⟨⟨s, f, t⟩, n⟩ ⟨c, x⟩).c := qw8.clock (eV := qlh) m ⟨⟨s, f, t⟩, n⟩ ⟨c, x⟩
attribute [go_sem] xn0 xjz xn1 xj0 xsp xsq
theorem xe0 (o : Option Qu) : (lkQ o).noPtr = true := by
 cases o with
 | none => rfl
 | some q => simp only [lkQ, qjs, encQ, go_sem]
theorem qw9 (o : Option Qu) : D.eqv (lkQ o) (.agg (encQ (o.getD noQ))) := by
 cases o with
 | none => exact (by simp only [lkQ, encQ, noQ, Option.getD_none, List.map_nil, go_sem])
 | some q => exact D.eqv_refl _
attribute [go_sem] xe0
end Go.Proofs.YtkcdbcbpbolgkaaGreatDoor
namespace Go.Proofs.YtkcdbcbpbolgkaaGreatDoor
open Go.Abs
noncomputable section
set_option maxRecDepth 100000
set_option linter.defProp false
def d103 := cut Tryz.prog Tryz.f103 news
@[go_sem] def E103 := ql d103
def F103 := fnC d103 follows Tryz.func103
def d192 := cut Tryz.prog Tryz.f192 news
@[go_sem] def E192 := ql d192
def F192 := fnC d192 follows Tryz.func192
def d107 := cut Tryz.prog Tryz.f107 news
@[go_sem] def E107 := ql d107
def F107 := fnC d107 follows Tryz.func107
def d20 := cut Tryz.prog Tryz.f20 news
@[go_sem] def E20 := ql d20
def F20 := fnC d20 follows Tryz.func20
def d131 := cut Tryz.prog Tryz.f131 news
@[go_sem] def E131 := ql d131
def F131 := fnC d131 follows Tryz.func131
def d64 := cut Tryz.prog Tryz.f64 news
@[go_sem] def E64 := ql d64
def F64 := fnC d64 follows Tryz.func64
end
def posB (r s : Int) : Bool := decide (r ≥ 1) && decide (r ≤ 6) && decide (s ≥ 1) && decide (s ≤ 32) && decide (IntKind.wrap .i64 (s * IntKind.wrap .i64 (IntKind.wrap .i64 (IntKind.wrap .i64 (5 * r) * IntKind.wrap .i64 (r - 1)) + 1)) ≤ 400)
theorem qrx (r s : Int) : qg Tryz.prog 103 [.d (.int .i64 r), .d (.int .i64 s)] [] (.d (.bool (posB r s))) [] := by
 refine F103.go ?_
 try (refine ev1 @posB.eq_1 ?_; try exact True.intro)
def dig (d : Nat) : List UInt8 := [UInt8.ofNat (48 + d)]
theorem qot (d : Nat) (hd : d < 10) : qg Tryz.prog 192 [.d (.int .i64 (d : Nat))] [] (.d (.str (dig d))) [] := by
 refine F192.go ?_
 have e : ∀ d : Fin 10, (Utf8.encode (IntKind.i32.wrap (IntKind.i64.wrap (48 + ((d.val : Nat) : Int))))).data.toList = [UInt8.ofNat (48 + d.val)] := by decide
 have e := e ⟨d, hd⟩
 simp only at e
 try (refine ev2 @dig.eq_1 @e ?_; try exact True.intro)
def jq (s f t : Nat) : List UInt8 := [113, 47] ++ dig (s / 10) ++ dig (s % 10) ++ [47] ++ dig f ++ [47] ++ dig t
theorem xn2 (s f t : Nat) (hs : s < 100) (hf : f < 10) (ht : t < 10) : qg Tryz.prog 107 [.d (.agg [.int .i64 (s : Nat), .int .i64 (f : Nat), .int .i64 (t : Nat)])] [] (.d (.str (jq s f t))) [] := by
 have w1 : IntKind.i64.wrap ((s : Int).tdiv 10) = ((s / 10 : Nat) : Int) := by rw [show ((s : Int).tdiv 10) = ((s / 10 : Nat) : Int) from by rw [Int.tdiv_eq_ediv_of_nonneg (by omega)]; rfl]; exact wrap_i64 (by omega) (by omega)
 have w2 : IntKind.i64.wrap ((s : Int).tmod 10) = ((s % 10 : Nat) : Int) := by rw [show ((s : Int).tmod 10) = ((s % 10 : Nat) : Int) from by rw [Int.tmod_eq_emod_of_nonneg (by omega)]; rfl]; exact wrap_i64 (by omega) (by omega)
 have k1 := qot (s / 10) (by omega)
 have k2 := qot (s % 10) (by omega)
 have k3 := qot f hf
 have k4 := qot t ht
 refine F107.go ?_
 simp only [dig] at k1 k2 k3 k4
 try (refine ev1 @w1 ?_; try exact True.intro)
 (repeat (with_reducible refine ob ?_)); first | refine cl F192 (k1) ?_ | refine clF F192 (k1) (fun _ => by (refine ev4 @qe.eq_1 @encQ.eq_1 @qu.eq_1 @xj.eq_1 ?_; try exact True.intro)) ?_
 try (refine ev1 @w2 ?_; try exact True.intro)
 (repeat (with_reducible refine ob ?_)); first | refine cl F192 (k2) ?_ | refine clF F192 (k2) (fun _ => by (refine ev4 @qe.eq_1 @encQ.eq_1 @qu.eq_1 @xj.eq_1 ?_; try exact True.intro)) ?_
 try (refine ev ?_; try exact True.intro)
 (repeat (with_reducible refine ob ?_)); first | refine cl F192 (k3) ?_ | refine clF F192 (k3) (fun _ => by (refine ev4 @qe.eq_1 @encQ.eq_1 @qu.eq_1 @xj.eq_1 ?_; try exact True.intro)) ?_
 try (refine ev ?_; try exact True.intro)
 (repeat (with_reducible refine ob ?_)); first | refine cl F192 (k4) ?_ | refine clF F192 (k4) (fun _ => by (refine ev4 @qe.eq_1 @encQ.eq_1 @qu.eq_1 @xj.eq_1 ?_; try exact True.intro)) ?_
 try (refine ev2 @jq.eq_1 @dig.eq_1 ?_; try exact True.intro)
def qxa (p : Pk) : Pk := ⟨2, p.sess, 0, p.from_, p.to, p.seq, 0, [], []⟩
def noPk : Pk := ⟨0, 0, 0, 0, 0, 0, 0, [], []⟩
def qjt (p : Pk) : Pk × Int := if !(p.kind == 1) || !qk p then (noPk, 1) else (qxa p, 0)
theorem xj1 (p : Pk) (hp : p.Sm) : qg Tryz.prog 20 [.d (.agg (qe p))] [] (.tup [.d (.agg (qe (qjt p).1)), .d (.int .i64 (qjt p).2)]) [] := by
 refine F20.goT ?_
 try (refine ev1 @qe.eq_1 ?_; try exact True.intro)
 cases hk : (p.kind == 1) with
 | false =>
  have hb : (p.kind != 1) = true := by simpa using hk
  have hx : qjt p = (noPk, 1) := by unfold qjt; rw [hk]; rfl
  try (refine ev1 @hb ?_; try exact True.intro)
  (repeat (with_reducible refine ob ?_)); refine qg3 ?_
  try (refine ev ?_; try exact True.intro)
  (repeat (with_reducible refine ob ?_)); refine qcb ?_
  try (refine ev3 @hx @noPk.eq_1 @List.map_nil.{0,0} ?_; try exact True.intro)
 | true =>
  have hb : (p.kind != 1) = false := by simpa using hk
  try (refine ev1 @hb ?_; try exact True.intro)
  (repeat (with_reducible refine ob ?_)); first | refine cl F70 (zo p hp.v hp.c) ?_ | refine clF F70 (zo p hp.v hp.c) (fun _ => by (refine ev4 @qe.eq_1 @encQ.eq_1 @qu.eq_1 @xj.eq_1 ?_; try exact True.intro)) ?_
  try (refine ev ?_; try exact True.intro)
  (repeat (with_reducible refine ob ?_)); refine xn _ (fun h => ?_) (fun h => ?_)
  ·have hx : qjt p = (noPk, 1) := by unfold qjt; rw [if_pos (by simp [h])]
   try (refine ev3 @hx @noPk.eq_1 @List.map_nil.{0,0} ?_; try exact True.intro)
  ·have hx : qjt p = (qxa p, 0) := by unfold qjt; rw [if_neg (by simp [hk, h])]
   try (refine ev3 @hx @qxa.eq_1 @List.map_nil.{0,0} ?_; try exact True.intro)
def qip (c : Int) : Int := if c < 1 then 0 else if c = 1 then 8 else if c = 2 then 16 else if c = 3 then 32 else 64
theorem q4n (c : Int) (hc : c ≤ 1000000) : qg Tryz.prog 131 [.d (.int .i64 c)] [] (.d (.int .i64 (qip c))) [] := by
 refine F131.go ?_
 try (refine ev ?_; try exact True.intro)
 (repeat (with_reducible refine ob ?_)); refine xn _ (fun h => ?_) (fun h => ?_)
 ·have hx : qip c = 0 := by unfold qip; rw [if_pos (by simpa using h)]
  try (refine ev1 @hx ?_; try exact True.intro)
 ·have h0 : ¬ c < 1 := by simpa using h
  have hw : IntKind.i64.wrap (c - 1) = c - 1 := wrap_i64 (by omega) (by omega)
  try (refine ev1 @hw ?_; try exact True.intro)
  refine ⟨by split <;> omega, ?_⟩
  by_cases h1 : c = 1
  ·subst h1; decide
  by_cases h2 : c = 2
  ·subst h2; decide
  by_cases h3 : c = 3
  ·subst h3; decide
  by_cases h4 : c = 4
  ·subst h4; decide
  ·unfold qip
   rw [if_neg h0, if_neg h1, if_neg h2, if_neg h3, if_pos (by omega)]
   decide
theorem xj2 (b : Brk) : qg Tryz.prog 64 [.d (.ptr 0 0)] (brO b) (.d (.func (.func 130) [] [.ptr 5 0])) (brO b ++ [.row [.d (.ptr 0 0)]]) := by
 refine F64.go ?_
 try (refine ev6 @brO.eq_1 @qo.eq_1 @stoO.eq_1 @mapO.eq_1 @qmO.eq_1 @tmO.eq_1 ?_; try exact True.intro)
end Go.Proofs.YtkcdbcbpbolgkaaGreatDoor
namespace Go.Proofs.YtkcdbcbpbolgkaaGreatDoor
open Go.Abs
attribute [-go_sem] qfj
noncomputable section
set_option maxRecDepth 100000
set_option linter.defProp false
def xq7 := cut Tryz.prog Tryz.f139 news [] [] true
@[go_sem] def xtr := ql xq7
def xe1 := fnC xq7 follows Tryz.func139
def xq8 := cut Tryz.prog Tryz.f102 news [] [] true
@[go_sem] def xts := ql xq8
def xe2 := fnC xq8 follows Tryz.func102
end
def y9 (b : Brk) (k : Pr) (name : List UInt8) (next : Qu) : Brk × Int × Bool :=
 if (ve (b.queue k) next name).2 ≠ 0 then (b, (ve (b.queue k) next name).2, false)
 else if (ve (b.queue k) next name).1 = [] then ({ b with q := b.q.put k next }, 0, false)
 else if (xf b.s (ve (b.queue k) next name).1).2 ≠ 0 then (b, (xf b.s (ve (b.queue k) next name).1).2, false)
 else ({ b with s := (xf b.s (ve (b.queue k) next name).1).1, q := b.q.put k next }, 0, true)
set_option maxRecDepth 10000 in
theorem qry (b : Brk) (s f t : Nat) (next : Qu) (hs : s < 100) (hf : f < 10) (ht : t < 10) (h1 : (b.queue ⟨s, f, t⟩).Sm) (h2 : (b.queue ⟨s, f, t⟩).W) (h3 : next.Sm) (h4 : next.W) (hF : b.s.file.length ≤ 100000000)
  (hl : (ve (b.queue ⟨s, f, t⟩) next (jq s f t)).1.length ≤ 100000) :
  qg Tryz.prog 139 [.d (.ptr 0 0), .d (.agg [.int .i64 (s : Nat), .int .i64 (f : Nat), .int .i64 (t : Nat)]), .d (.agg (encQ next))] (brO b) (.d (.int .i64 (y9 b ⟨s, f, t⟩ (jq s f t) next).2.1)) (afB b (y9 b ⟨s, f, t⟩ (jq s f t) next).1 (y9 b ⟨s, f, t⟩ (jq s f t) next).2.2) := by
 have kn := xn2 s f t hs hf ht
 have kc := q3r (b.queue ⟨s, f, t⟩) next (jq s f t) h1 h2 h3 h4 (by simp [jq, dig])
 have kq := qw9 (b.q.get ⟨s, f, t⟩)
 simp only [encQ] at kc
 generalize hR : y9 b ⟨s, f, t⟩ (jq s f t) next = R
 unfold y9 at hR
 refine xe1.go ?_
 try (refine ev7 @brO.eq_1 @qo.eq_1 @stoO.eq_1 @mapO.eq_1 @qmO.eq_1 @tmO.eq_1 @encQ.eq_1 ?_; try exact True.intro)
 (repeat (with_reducible refine ob ?_)); first | refine cl F107 (kn) ?_ | refine clF F107 (kn) (fun _ => by (refine ev3 @qe.eq_1 @xj.eq_1 @qp.eq_1 ?_; try exact True.intro)) ?_
 try (refine ev ?_; try exact True.intro)
 (repeat (with_reducible refine ob ?_)); refine clF F223 (kc) (fun hg => by exact ⟨kq, qc, qc, trivial⟩) ?_
 generalize ve (b.queue ⟨s, f, t⟩) next (jq s f t) = C at hR hl ⊢
 obtain ⟨l, e⟩ := C
 simp only at hR hl ⊢
 try (refine ev ?_; try exact True.intro)
 by_cases he : e = 0
 ·subst he
  rw [if_neg (by simp)] at hR
  by_cases h0 : l = []
  ·subst h0
   rw [if_pos rfl] at hR
   subst hR
   try simp only [List.length_map, List.length_nil, List.map_nil, go_sem, Nat.reduceAdd, Nat.reduceMul, Nat.reduceSub, Nat.reduceEqDiff, Nat.reduceLT, Nat.reduceLeDiff, Nat.reduceBEq, reduceIte, reduceCtorEq, Int.reduceAdd, Int.reduceLT, Int.reduceLE, Int.reduceGT, Int.reduceGE, Int.reduceEq, Int.reduceNe, Int.reduceBEq, Int.reduceBNe, Int.reduceToNat, Int.reduceNeg]
   (repeat (with_reducible refine ob ?_)); refine no_ ?_
   try (refine ev ?_; try exact True.intro)
   (repeat (with_reducible refine ob ?_)); refine qcb ?_
   try simp only [xey _ _ _ _ next, go_sem, Nat.reduceAdd, Nat.reduceMul, Nat.reduceSub, Nat.reduceEqDiff, Nat.reduceLT, Nat.reduceLeDiff, Nat.reduceBEq, reduceIte, reduceCtorEq, Int.reduceAdd, Int.reduceLT, Int.reduceLE, Int.reduceGT, Int.reduceGE, Int.reduceEq, Int.reduceNe, Int.reduceBEq, Int.reduceBNe, Int.reduceToNat, Int.reduceNeg]
   refine pu ?_
   try simp only [afB, qo, mapO, stoO, qmO, tmO, go_sem, Nat.reduceAdd, Nat.reduceMul, Nat.reduceSub, Nat.reduceEqDiff, Nat.reduceLT, Nat.reduceLeDiff, Nat.reduceBEq, reduceIte, reduceCtorEq, Int.reduceAdd, Int.reduceLT, Int.reduceLE, Int.reduceGT, Int.reduceGE, Int.reduceEq, Int.reduceNe, Int.reduceBEq, Int.reduceBNe, Int.reduceToNat, Int.reduceNeg]
  ·rw [if_neg h0] at hR
   have hd : decide ((l.length : Int) > 0) = true := by
    have := List.length_pos_iff.2 h0
    simp only [decide_eq_true_eq]; omega
   have kk := qkp b.s l hl hF
   try (refine ev2 @List.length_map.{0,0} @hd ?_; try exact True.intro)
   (repeat (with_reducible refine ob ?_)); refine qcb ?_
   try (refine ev ?_; try exact True.intro)
   by_cases hc : (xf b.s l).2 = 0
   ·rw [if_neg (by simp [hc])] at hR
    subst hR
    have ha : qcx b.s l = [stoO (xf b.s l).1 2, mapO b.s.m, mapO (xf b.s l).1.m] := by unfold qcx; rw [if_pos hc]
    rw [ha, hc] at kk
    simp only [stoO, mapO] at kk
    generalize (xf b.s l).1 = s' at kk ⊢
    (repeat (with_reducible refine ob ?_)); refine clO [1, 2, 7] F29 (kk) ?_ (hfit := by first | exact ⟨qc, trivial⟩ | exact ⟨qc, qc, trivial⟩ | (refine ev3 @qe.eq_1 @xj.eq_1 @qp.eq_1 ?_; try exact True.intro))
    try (refine ev ?_; try exact True.intro)
    (repeat (with_reducible refine ob ?_)); refine qcb ?_
    try simp only [xey _ _ _ _ next, go_sem, Nat.reduceAdd, Nat.reduceMul, Nat.reduceSub, Nat.reduceEqDiff, Nat.reduceLT, Nat.reduceLeDiff, Nat.reduceBEq, reduceIte, reduceCtorEq, Int.reduceAdd, Int.reduceLT, Int.reduceLE, Int.reduceGT, Int.reduceGE, Int.reduceEq, Int.reduceNe, Int.reduceBEq, Int.reduceBNe, Int.reduceToNat, Int.reduceNeg]
    refine qdg [0, 1, 2, 3, 4, 6, 7, 5] [.row (qo b), stoO s' 5, mapO b.s.m, qmO (b.q.put ⟨s, f, t⟩ next), tmO b.t, mapO s'.m, .row [.d (.int .i64 s), .d (.int .i64 f), .d (.int .i64 t)], .row [.d (.int .i64 next.acc), .d (.int .i64 next.cons), .d (.sl 9 (next.items.map qe))]] ?_ (by try (refine ev5 @qo.eq_1 @mapO.eq_1 @stoO.eq_1 @qmO.eq_1 @tmO.eq_1 ?_; try exact True.intro)) (hp := rfl)
    refine pu ?_
    try simp only [afB, qo, mapO, stoO, qmO, tmO, go_sem, Nat.reduceAdd, Nat.reduceMul, Nat.reduceSub, Nat.reduceEqDiff, Nat.reduceLT, Nat.reduceLeDiff, Nat.reduceBEq, reduceIte, reduceCtorEq, Int.reduceAdd, Int.reduceLT, Int.reduceLE, Int.reduceGT, Int.reduceGE, Int.reduceEq, Int.reduceNe, Int.reduceBEq, Int.reduceBNe, Int.reduceToNat, Int.reduceNeg]
   ·rw [if_pos hc] at hR
    subst hR
    have ha : qcx b.s l = [stoO b.s 1, mapO b.s.m, .none] := by unfold qcx; rw [if_neg hc]
    rw [ha] at kk
    have hb : ((xf b.s l).2 == 0) = false := by simpa using hc
    simp only [stoO, mapO] at kk
    (repeat (with_reducible refine ob ?_)); refine clO [1, 2, 7] F29 (kk) ?_ (hfit := by first | exact ⟨qc, trivial⟩ | exact ⟨qc, qc, trivial⟩ | (refine ev3 @qe.eq_1 @xj.eq_1 @qp.eq_1 ?_; try exact True.intro))
    try (refine ev1 @hb ?_; try exact True.intro)
    (repeat (with_reducible refine ob ?_)); refine no_ ?_
    try (refine ev ?_; try exact True.intro)
    refine pu ?_
    try simp only [afB, qo, mapO, stoO, qmO, tmO, go_sem, Nat.reduceAdd, Nat.reduceMul, Nat.reduceSub, Nat.reduceEqDiff, Nat.reduceLT, Nat.reduceLeDiff, Nat.reduceBEq, reduceIte, reduceCtorEq, Int.reduceAdd, Int.reduceLT, Int.reduceLE, Int.reduceGT, Int.reduceGE, Int.reduceEq, Int.reduceNe, Int.reduceBEq, Int.reduceBNe, Int.reduceToNat, Int.reduceNeg]
 ·rw [if_pos he] at hR
  subst hR
  have hb : (e == 0) = false := by simpa using he
  try (refine ev1 @hb ?_; try exact True.intro)
  (repeat (with_reducible refine ob ?_)); refine no_ ?_
  try (refine ev1 @hb ?_; try exact True.intro)
  (repeat (with_reducible refine ob ?_)); refine no_ ?_
  try (refine ev ?_; try exact True.intro)
  refine pu ?_
  try simp only [afB, qo, stoO, mapO, qmO, tmO, go_sem, Nat.reduceAdd, Nat.reduceMul, Nat.reduceSub, Nat.reduceEqDiff, Nat.reduceLT, Nat.reduceLeDiff, Nat.reduceBEq, reduceIte, reduceCtorEq, Int.reduceAdd, Int.reduceLT, Int.reduceLE, Int.reduceGT, Int.reduceGE, Int.reduceEq, Int.reduceNe, Int.reduceBEq, Int.reduceBNe, Int.reduceToNat, Int.reduceNeg]
def qb7 (b : Brk) (next : Mg) : Brk × Int × Bool :=
 if (zu b.m next).2 ≠ 0 then (b, (zu b.m next).2, false)
 else if (zu b.m next).1 = [] then ({ b with m := next }, 0, false)
 else if (xf b.s (zu b.m next).1).2 ≠ 0 then (b, (xf b.s (zu b.m next).1).2, false)
 else ({ b with s := (xf b.s (zu b.m next).1).1, m := next }, 0, true)
set_option maxRecDepth 10000 in
theorem q1n (b : Brk) (next : Mg) (h1 : b.m.Sm) (h2 : next.Sm) (hF : b.s.file.length ≤ 100000000) (hl : (zu b.m next).1.length ≤ 100000) :
  qg Tryz.prog 102 [.d (.ptr 0 0), .d (.agg (qu next))] (brO b) (.d (.int .i64 (qb7 b next).2.1)) (afB b (qb7 b next).1 (qb7 b next).2.2) := by
 have kc := q9v b.m next h1 h2
 simp only [qu] at kc
 generalize hR : qb7 b next = R
 unfold qb7 at hR
 refine xe2.go ?_
 try (refine ev7 @brO.eq_1 @qo.eq_1 @stoO.eq_1 @mapO.eq_1 @qmO.eq_1 @tmO.eq_1 @qu.eq_1 ?_; try exact True.intro)
 (repeat (with_reducible refine ob ?_)); first | refine cl F25 (kc) ?_ | refine clF F25 (kc) (fun _ => by (refine ev3 @qe.eq_1 @xj.eq_1 @qp.eq_1 ?_; try exact True.intro)) ?_
 generalize zu b.m next = C at hR hl ⊢
 obtain ⟨l, e⟩ := C
 simp only at hR hl ⊢
 try (refine ev ?_; try exact True.intro)
 by_cases he : e = 0
 ·subst he
  rw [if_neg (by simp)] at hR
  by_cases h0 : l = []
  ·subst h0
   rw [if_pos rfl] at hR
   subst hR
   try simp only [List.length_map, List.length_nil, List.map_nil, go_sem, Nat.reduceAdd, Nat.reduceMul, Nat.reduceSub, Nat.reduceEqDiff, Nat.reduceLT, Nat.reduceLeDiff, Nat.reduceBEq, reduceIte, reduceCtorEq, Int.reduceAdd, Int.reduceLT, Int.reduceLE, Int.reduceGT, Int.reduceGE, Int.reduceEq, Int.reduceNe, Int.reduceBEq, Int.reduceBNe, Int.reduceToNat, Int.reduceNeg]
   (repeat (with_reducible refine ob ?_)); refine no_ ?_
   try (refine ev ?_; try exact True.intro)
   (repeat (with_reducible refine ob ?_)); refine qcb ?_
   try (refine ev ?_; try exact True.intro)
   refine pu ?_
   try simp only [afB, qo, mapO, stoO, qmO, tmO, go_sem, Nat.reduceAdd, Nat.reduceMul, Nat.reduceSub, Nat.reduceEqDiff, Nat.reduceLT, Nat.reduceLeDiff, Nat.reduceBEq, reduceIte, reduceCtorEq, Int.reduceAdd, Int.reduceLT, Int.reduceLE, Int.reduceGT, Int.reduceGE, Int.reduceEq, Int.reduceNe, Int.reduceBEq, Int.reduceBNe, Int.reduceToNat, Int.reduceNeg]
  ·rw [if_neg h0] at hR
   have hd : decide ((l.length : Int) > 0) = true := by
    have := List.length_pos_iff.2 h0
    simp only [decide_eq_true_eq]; omega
   have kk := qkp b.s l hl hF
   try (refine ev2 @List.length_map.{0,0} @hd ?_; try exact True.intro)
   (repeat (with_reducible refine ob ?_)); refine qcb ?_
   try (refine ev ?_; try exact True.intro)
   by_cases hc : (xf b.s l).2 = 0
   ·rw [if_neg (by simp [hc])] at hR
    subst hR
    have ha : qcx b.s l = [stoO (xf b.s l).1 2, mapO b.s.m, mapO (xf b.s l).1.m] := by unfold qcx; rw [if_pos hc]
    rw [ha, hc] at kk
    simp only [stoO, mapO] at kk
    generalize (xf b.s l).1 = s' at kk ⊢
    (repeat (with_reducible refine ob ?_)); refine clO [1, 2, 6] F29 (kk) ?_ (hfit := by first | exact ⟨qc, trivial⟩ | exact ⟨qc, qc, trivial⟩ | (refine ev3 @qe.eq_1 @xj.eq_1 @qp.eq_1 ?_; try exact True.intro))
    try (refine ev ?_; try exact True.intro)
    (repeat (with_reducible refine ob ?_)); refine qcb ?_
    try (refine ev ?_; try exact True.intro)
    refine qdg [0, 1, 2, 3, 4, 6, 5] [.row (qo { b with m := next }), stoO s' 5, mapO b.s.m, qmO b.q, tmO b.t, mapO s'.m, .row [.d (.int .i64 next.roles), .d (.sl 4 (next.ents.map qn))]] ?_ (by try (refine ev5 @qo.eq_1 @mapO.eq_1 @stoO.eq_1 @qmO.eq_1 @tmO.eq_1 ?_; try exact True.intro)) (hp := rfl)
    refine pu ?_
    try simp only [afB, qo, mapO, stoO, qmO, tmO, go_sem, Nat.reduceAdd, Nat.reduceMul, Nat.reduceSub, Nat.reduceEqDiff, Nat.reduceLT, Nat.reduceLeDiff, Nat.reduceBEq, reduceIte, reduceCtorEq, Int.reduceAdd, Int.reduceLT, Int.reduceLE, Int.reduceGT, Int.reduceGE, Int.reduceEq, Int.reduceNe, Int.reduceBEq, Int.reduceBNe, Int.reduceToNat, Int.reduceNeg]
   ·rw [if_pos hc] at hR
    subst hR
    have ha : qcx b.s l = [stoO b.s 1, mapO b.s.m, .none] := by unfold qcx; rw [if_neg hc]
    rw [ha] at kk
    have hb : ((xf b.s l).2 == 0) = false := by simpa using hc
    simp only [stoO, mapO] at kk
    (repeat (with_reducible refine ob ?_)); refine clO [1, 2, 6] F29 (kk) ?_ (hfit := by first | exact ⟨qc, trivial⟩ | exact ⟨qc, qc, trivial⟩ | (refine ev3 @qe.eq_1 @xj.eq_1 @qp.eq_1 ?_; try exact True.intro))
    try (refine ev1 @hb ?_; try exact True.intro)
    (repeat (with_reducible refine ob ?_)); refine no_ ?_
    try (refine ev ?_; try exact True.intro)
    refine pu ?_
    try simp only [afB, qo, mapO, stoO, qmO, tmO, go_sem, Nat.reduceAdd, Nat.reduceMul, Nat.reduceSub, Nat.reduceEqDiff, Nat.reduceLT, Nat.reduceLeDiff, Nat.reduceBEq, reduceIte, reduceCtorEq, Int.reduceAdd, Int.reduceLT, Int.reduceLE, Int.reduceGT, Int.reduceGE, Int.reduceEq, Int.reduceNe, Int.reduceBEq, Int.reduceBNe, Int.reduceToNat, Int.reduceNeg]
 ·rw [if_pos he] at hR
  subst hR
  have hb : (e == 0) = false := by simpa using he
  try (refine ev1 @hb ?_; try exact True.intro)
  (repeat (with_reducible refine ob ?_)); refine no_ ?_
  try (refine ev1 @hb ?_; try exact True.intro)
  (repeat (with_reducible refine ob ?_)); refine no_ ?_
  try (refine ev ?_; try exact True.intro)
  refine pu ?_
  try simp only [afB, qo, stoO, mapO, qmO, tmO, go_sem, Nat.reduceAdd, Nat.reduceMul, Nat.reduceSub, Nat.reduceEqDiff, Nat.reduceLT, Nat.reduceLeDiff, Nat.reduceBEq, reduceIte, reduceCtorEq, Int.reduceAdd, Int.reduceLT, Int.reduceLE, Int.reduceGT, Int.reduceGE, Int.reduceEq, Int.reduceNe, Int.reduceBEq, Int.reduceBNe, Int.reduceToNat, Int.reduceNeg]
end Go.Proofs.YtkcdbcbpbolgkaaGreatDoor
namespace Go.Proofs.YtkcdbcbpbolgkaaGreatDoor
open Go.Abs
attribute [-go_sem] qfj
noncomputable section
set_option maxRecDepth 100000
set_option linter.defProp false
def d72d := cut Tryz.prog Tryz.f72 news [33] [] true
@[go_sem] def E72d := ql d72d
def F72d := fnC d72d follows Tryz.func72
def d73d := cut Tryz.prog Tryz.f73 news [21] [] true
@[go_sem] def E73d := ql d73d
def F73d := fnC d73d follows Tryz.func73
def d41d := cut Tryz.prog Tryz.f41 news [35] [] true
@[go_sem] def E41d := ql d41d
def F41d := fnC d41d follows Tryz.func41
end
def ze (b : Brk) (t : Nat) : List ASlot := [.d (.int .i64 b.roles), .d (.int .i64 b.sess), .d (.ptr 1 0), .d (.map 3), .d (.int .i64 b.m.roles), .d (.sl 4 (b.m.ents.map qn)), .own t 10 (b.p.map xj), .d (.map 4)]
def q1o (b : Brk) (k : Pr) (name : List UInt8) (seq : Int) : Brk × Int × Bool :=
 if (xt (b.queue k) seq).2 ≠ 0 then (b, (xt (b.queue k) seq).2, false) else y9 b k name (xt (b.queue k) seq).1
set_option maxRecDepth 10000 in
theorem xj3 (b : Brk) (p : Pk) (s f t : Nat) (hs : s < 100) (hf : f < 10) (ht : t < 10) (ps : p.sess = s) (pf : p.from_ = f) (pt : p.to = t) (hq : (b.queue ⟨s, f, t⟩).Sm) (hw : (b.queue ⟨s, f, t⟩).W)
  (ho : (xt (b.queue ⟨s, f, t⟩) p.seq).1.Sm) (hu : (xt (b.queue ⟨s, f, t⟩) p.seq).1.W) (hF : b.s.file.length ≤ 100000000)
  (hl : (ve (b.queue ⟨s, f, t⟩) (xt (b.queue ⟨s, f, t⟩) p.seq).1 (jq s f t)).1.length ≤ 100000) :
  qg Tryz.prog 72 [.d (.ptr 0 0), .d (.agg (qe p))] (brO b) (.d (.int .i64 (q1o b ⟨s, f, t⟩ (jq s f t) p.seq).2.1)) (afB b (q1o b ⟨s, f, t⟩ (jq s f t) p.seq).1 (q1o b ⟨s, f, t⟩ (jq s f t) p.seq).2.2) := by
 have ko := q3i (b.queue ⟨s, f, t⟩) p.seq hq
 have kq := qw9 (b.q.get ⟨s, f, t⟩)
 have kc := qry b s f t (xt (b.queue ⟨s, f, t⟩) p.seq).1 hs hf ht hq hw ho hu hF hl
 generalize hR : q1o b ⟨s, f, t⟩ (jq s f t) p.seq = R
 unfold q1o at hR
 simp only [brO, qo, stoO, mapO, qmO, tmO, encQ] at kc
 simp only [encQ] at ko
 refine F72d.go ?_
 try simp only [brO, qo, stoO, mapO, qmO, tmO, qe, ps, pf, pt, go_sem, Nat.reduceAdd, Nat.reduceMul, Nat.reduceSub, Nat.reduceEqDiff, Nat.reduceLT, Nat.reduceLeDiff, Nat.reduceBEq, reduceIte, reduceCtorEq, Int.reduceAdd, Int.reduceLT, Int.reduceLE, Int.reduceGT, Int.reduceGE, Int.reduceEq, Int.reduceNe, Int.reduceBEq, Int.reduceBNe, Int.reduceToNat, Int.reduceNeg]
 (repeat (with_reducible refine ob ?_)); refine clF F140 (ko) (fun hg => by exact ⟨kq, qc, trivial⟩) ?_
 generalize xt (b.queue ⟨s, f, t⟩) p.seq = O at hR kc
 obtain ⟨nx, e⟩ := O
 simp only at hR kc ⊢
 try (refine ev ?_; try exact True.intro)
 by_cases he : e = 0
 ·subst he
  rw [if_neg (by simp)] at hR
  generalize y9 b ⟨s, f, t⟩ (jq s f t) nx = C at hR kc
  obtain ⟨b1, e1, c⟩ := C
  subst hR
  simp only [afB, qo, stoO, mapO, qmO, tmO] at kc
  try (refine ev ?_; try exact True.intro)
  (repeat (with_reducible refine ob ?_)); refine no_ ?_
  try (refine ev ?_; try exact True.intro)
  cases c
  ·refine clT [0, 1, 2, 3, 4, 8] xe1 kc ?_
   try (refine ev ?_; try exact True.intro)
   refine pu ?_
   try simp only [afB, qo, stoO, mapO, qmO, tmO, go_sem, Nat.reduceAdd, Nat.reduceMul, Nat.reduceSub, Nat.reduceEqDiff, Nat.reduceLT, Nat.reduceLeDiff, Nat.reduceBEq, reduceIte, reduceCtorEq, Int.reduceAdd, Int.reduceLT, Int.reduceLE, Int.reduceGT, Int.reduceGE, Int.reduceEq, Int.reduceNe, Int.reduceBEq, Int.reduceBNe, Int.reduceToNat, Int.reduceNeg]
  ·refine clT [0, 1, 2, 3, 4, 8] xe1 kc ?_
   try (refine ev ?_; try exact True.intro)
   refine qdg [0, 1, 2, 3, 4, 6, 7, 8, 5] [.row (ze b1 512), stoO b1.s 5, mapO b.s.m, qmO b1.q, tmO b1.t, mapO b1.s.m, .row ((qe p).map .d), .row [.d (.int .i64 s), .d (.int .i64 f), .d (.int .i64 t)], .row [.d (.int .i64 nx.acc), .d (.int .i64 nx.cons), .d (.sl 9 (nx.items.map qe))]] ?_ (by try simp only [ze, mapO, stoO, qmO, tmO, qe, ps, pf, pt, go_sem, Nat.reduceAdd, Nat.reduceMul, Nat.reduceSub, Nat.reduceEqDiff, Nat.reduceLT, Nat.reduceLeDiff, Nat.reduceBEq, reduceIte, reduceCtorEq, Int.reduceAdd, Int.reduceLT, Int.reduceLE, Int.reduceGT, Int.reduceGE, Int.reduceEq, Int.reduceNe, Int.reduceBEq, Int.reduceBNe, Int.reduceToNat, Int.reduceNeg]) (hp := rfl)
   refine pu ?_
   try simp only [afB, qo, ze, stoO, mapO, qmO, tmO, go_sem, Nat.reduceAdd, Nat.reduceMul, Nat.reduceSub, Nat.reduceEqDiff, Nat.reduceLT, Nat.reduceLeDiff, Nat.reduceBEq, reduceIte, reduceCtorEq, Int.reduceAdd, Int.reduceLT, Int.reduceLE, Int.reduceGT, Int.reduceGE, Int.reduceEq, Int.reduceNe, Int.reduceBEq, Int.reduceBNe, Int.reduceToNat, Int.reduceNeg]
 ·rw [if_pos he] at hR
  subst hR
  have hb : (e != 0) = true := by simpa using he
  try (refine ev1 @hb ?_; try exact True.intro)
  (repeat (with_reducible refine ob ?_)); refine qcb ?_
  try (refine ev ?_; try exact True.intro)
  refine pu ?_
  try simp only [afB, qo, stoO, mapO, qmO, tmO, go_sem, Nat.reduceAdd, Nat.reduceMul, Nat.reduceSub, Nat.reduceEqDiff, Nat.reduceLT, Nat.reduceLeDiff, Nat.reduceBEq, reduceIte, reduceCtorEq, Int.reduceAdd, Int.reduceLT, Int.reduceLE, Int.reduceGT, Int.reduceGE, Int.reduceEq, Int.reduceNe, Int.reduceBEq, Int.reduceBNe, Int.reduceToNat, Int.reduceNeg]
def qe9 (b : Brk) (p : Pk) : Brk × Int × Bool :=
 if (xk b.m p).2 ≠ 0 then (b, (xk b.m p).2, false) else qb7 b (xk b.m p).1
set_option maxRecDepth 10000 in
theorem qrz (b : Brk) (p : Pk) (hp : p.Sm) (h1 : b.m.Sm) (h2 : (xk b.m p).1.Sm) (hF : b.s.file.length ≤ 100000000) (hl : (zu b.m (xk b.m p).1).1.length ≤ 100000) :
  qg Tryz.prog 73 [.d (.ptr 0 0), .d (.agg (qe p))] (brO b) (.d (.int .i64 (qe9 b p).2.1)) (afB b (qe9 b p).1 (qe9 b p).2.2) := by
 have ko := qjp b.m p h1 hp
 have kc := q1n b (xk b.m p).1 h1 h2 hF hl
 generalize hR : qe9 b p = R
 unfold qe9 at hR
 simp only [brO, qo, stoO, mapO, qmO, tmO, qu] at kc
 simp only [qu] at ko
 refine F73d.go ?_
 try (refine ev7 @brO.eq_1 @qo.eq_1 @stoO.eq_1 @mapO.eq_1 @qmO.eq_1 @tmO.eq_1 @qe.eq_1 ?_; try exact True.intro)
 (repeat (with_reducible refine ob ?_)); first | refine cl F75b (ko) ?_ | refine clF F75b (ko) (fun _ => by (refine ev3 @qe.eq_1 @xj.eq_1 @qp.eq_1 ?_; try exact True.intro)) ?_
 generalize xk b.m p = O at hR kc
 obtain ⟨nx, e⟩ := O
 simp only at hR kc ⊢
 try (refine ev ?_; try exact True.intro)
 by_cases he : e = 0
 ·subst he
  rw [if_neg (by simp)] at hR
  generalize qb7 b nx = C at hR kc
  obtain ⟨b1, e1, c⟩ := C
  subst hR
  simp only [afB, qo, stoO, mapO, qmO, tmO] at kc
  try (refine ev ?_; try exact True.intro)
  (repeat (with_reducible refine ob ?_)); refine no_ ?_
  try (refine ev ?_; try exact True.intro)
  cases c
  ·refine clT [0, 1, 2, 3, 4, 7] xe2 kc ?_
   try (refine ev ?_; try exact True.intro)
   refine pu ?_
   try simp only [afB, qo, stoO, mapO, qmO, tmO, go_sem, Nat.reduceAdd, Nat.reduceMul, Nat.reduceSub, Nat.reduceEqDiff, Nat.reduceLT, Nat.reduceLeDiff, Nat.reduceBEq, reduceIte, reduceCtorEq, Int.reduceAdd, Int.reduceLT, Int.reduceLE, Int.reduceGT, Int.reduceGE, Int.reduceEq, Int.reduceNe, Int.reduceBEq, Int.reduceBNe, Int.reduceToNat, Int.reduceNeg]
  ·refine clT [0, 1, 2, 3, 4, 7] xe2 kc ?_
   try (refine ev ?_; try exact True.intro)
   refine qdg [0, 1, 2, 3, 4, 6, 7, 5] [.row (ze b1 304), stoO b1.s 5, mapO b.s.m, qmO b1.q, tmO b1.t, mapO b1.s.m, .row ((qe p).map .d), .row [.d (.int .i64 nx.roles), .d (.sl 4 (nx.ents.map qn))]] ?_ (by try (refine ev6 @ze.eq_1 @mapO.eq_1 @stoO.eq_1 @qmO.eq_1 @tmO.eq_1 @qe.eq_1 ?_; try exact True.intro)) (hp := rfl)
   refine pu ?_
   try simp only [afB, qo, ze, stoO, mapO, qmO, tmO, go_sem, Nat.reduceAdd, Nat.reduceMul, Nat.reduceSub, Nat.reduceEqDiff, Nat.reduceLT, Nat.reduceLeDiff, Nat.reduceBEq, reduceIte, reduceCtorEq, Int.reduceAdd, Int.reduceLT, Int.reduceLE, Int.reduceGT, Int.reduceGE, Int.reduceEq, Int.reduceNe, Int.reduceBEq, Int.reduceBNe, Int.reduceToNat, Int.reduceNeg]
 ·rw [if_pos he] at hR
  subst hR
  have hb : (e != 0) = true := by simpa using he
  try (refine ev1 @hb ?_; try exact True.intro)
  (repeat (with_reducible refine ob ?_)); refine qcb ?_
  try (refine ev ?_; try exact True.intro)
  refine pu ?_
  try simp only [afB, qo, stoO, mapO, qmO, tmO, go_sem, Nat.reduceAdd, Nat.reduceMul, Nat.reduceSub, Nat.reduceEqDiff, Nat.reduceLT, Nat.reduceLeDiff, Nat.reduceBEq, reduceIte, reduceCtorEq, Int.reduceAdd, Int.reduceLT, Int.reduceLE, Int.reduceGT, Int.reduceGE, Int.reduceEq, Int.reduceNe, Int.reduceBEq, Int.reduceBNe, Int.reduceToNat, Int.reduceNeg]
def qb8 (b : Brk) (s : Int) : Brk × Int × Bool :=
 if decide (s < 1) || decide (s > b.sess) then (b, 2, false)
 else if (zt b.m s).2 ≠ 0 then (b, (zt b.m s).2, false) else qb7 b (zt b.m s).1
set_option maxRecDepth 10000 in
theorem quq (b : Brk) (s : Int) (h1 : b.m.Sm) (h2 : (zt b.m s).1.Sm) (hF : b.s.file.length ≤ 100000000) (hl : (zu b.m (zt b.m s).1).1.length ≤ 100000) :
  qg Tryz.prog 41 [.d (.ptr 0 0), .d (.int .i64 s)] (brO b) (.d (.int .i64 (qb8 b s).2.1)) (afB b (qb8 b s).1 (qb8 b s).2.2) := by
 have ko := quk b.m s h1
 have kc := q1n b (zt b.m s).1 h1 h2 hF hl
 generalize hR : qb8 b s = R
 unfold qb8 at hR
 simp only [brO, qo, stoO, mapO, qmO, tmO, qu] at kc
 simp only [qu] at ko
 refine F41d.go ?_
 try (refine ev6 @brO.eq_1 @qo.eq_1 @stoO.eq_1 @mapO.eq_1 @qmO.eq_1 @tmO.eq_1 ?_; try exact True.intro)
 (repeat (with_reducible refine ob ?_)); refine no_ ?_
 try (refine ev ?_; try exact True.intro)
 (repeat (with_reducible refine ob ?_)); refine xn _ (fun h => ?_) (fun h => ?_)
 ·rw [if_pos h] at hR
  subst hR
  try (refine ev ?_; try exact True.intro)
  refine pu ?_
  try simp only [afB, qo, stoO, mapO, qmO, tmO, go_sem, Nat.reduceAdd, Nat.reduceMul, Nat.reduceSub, Nat.reduceEqDiff, Nat.reduceLT, Nat.reduceLeDiff, Nat.reduceBEq, reduceIte, reduceCtorEq, Int.reduceAdd, Int.reduceLT, Int.reduceLE, Int.reduceGT, Int.reduceGE, Int.reduceEq, Int.reduceNe, Int.reduceBEq, Int.reduceBNe, Int.reduceToNat, Int.reduceNeg]
 rw [if_neg (by simp [h])] at hR
 try (refine ev ?_; try exact True.intro)
 (repeat (with_reducible refine ob ?_)); first | refine cl F74b (ko) ?_ | refine clF F74b (ko) (fun _ => by (refine ev3 @qe.eq_1 @xj.eq_1 @qp.eq_1 ?_; try exact True.intro)) ?_
 generalize zt b.m s = O at hR kc
 obtain ⟨nx, e⟩ := O
 simp only at hR kc ⊢
 try (refine ev ?_; try exact True.intro)
 by_cases he : e = 0
 ·subst he
  rw [if_neg (by simp)] at hR
  generalize qb7 b nx = C at hR kc
  obtain ⟨b1, e1, c⟩ := C
  subst hR
  simp only [afB, qo, stoO, mapO, qmO, tmO] at kc
  try (refine ev ?_; try exact True.intro)
  (repeat (with_reducible refine ob ?_)); refine no_ ?_
  try (refine ev ?_; try exact True.intro)
  cases c
  ·refine clT [0, 1, 2, 3, 4, 6] xe2 kc ?_
   try (refine ev ?_; try exact True.intro)
   refine pu ?_
   try simp only [afB, qo, stoO, mapO, qmO, tmO, go_sem, Nat.reduceAdd, Nat.reduceMul, Nat.reduceSub, Nat.reduceEqDiff, Nat.reduceLT, Nat.reduceLeDiff, Nat.reduceBEq, reduceIte, reduceCtorEq, Int.reduceAdd, Int.reduceLT, Int.reduceLE, Int.reduceGT, Int.reduceGE, Int.reduceEq, Int.reduceNe, Int.reduceBEq, Int.reduceBNe, Int.reduceToNat, Int.reduceNeg]
  ·refine clT [0, 1, 2, 3, 4, 6] xe2 kc ?_
   try (refine ev ?_; try exact True.intro)
   refine qdg [0, 1, 2, 3, 4, 6, 5] [.row (ze b1 512), stoO b1.s 5, mapO b.s.m, qmO b1.q, tmO b1.t, mapO b1.s.m, .row [.d (.int .i64 nx.roles), .d (.sl 4 (nx.ents.map qn))]] ?_ (by try (refine ev5 @ze.eq_1 @mapO.eq_1 @stoO.eq_1 @qmO.eq_1 @tmO.eq_1 ?_; try exact True.intro)) (hp := rfl)
   refine pu ?_
   try simp only [afB, qo, ze, stoO, mapO, qmO, tmO, go_sem, Nat.reduceAdd, Nat.reduceMul, Nat.reduceSub, Nat.reduceEqDiff, Nat.reduceLT, Nat.reduceLeDiff, Nat.reduceBEq, reduceIte, reduceCtorEq, Int.reduceAdd, Int.reduceLT, Int.reduceLE, Int.reduceGT, Int.reduceGE, Int.reduceEq, Int.reduceNe, Int.reduceBEq, Int.reduceBNe, Int.reduceToNat, Int.reduceNeg]
 ·rw [if_pos he] at hR
  subst hR
  have hb : (e != 0) = true := by simpa using he
  try (refine ev1 @hb ?_; try exact True.intro)
  (repeat (with_reducible refine ob ?_)); refine qcb ?_
  try (refine ev ?_; try exact True.intro)
  refine pu ?_
  try simp only [afB, qo, stoO, mapO, qmO, tmO, go_sem, Nat.reduceAdd, Nat.reduceMul, Nat.reduceSub, Nat.reduceEqDiff, Nat.reduceLT, Nat.reduceLeDiff, Nat.reduceBEq, reduceIte, reduceCtorEq, Int.reduceAdd, Int.reduceLT, Int.reduceLE, Int.reduceGT, Int.reduceGE, Int.reduceEq, Int.reduceNe, Int.reduceBEq, Int.reduceBNe, Int.reduceToNat, Int.reduceNeg]
end Go.Proofs.YtkcdbcbpbolgkaaGreatDoor
namespace Go.Proofs.YtkcdbcbpbolgkaaGreatDoor
open Go.Abs
attribute [-go_sem] qfj
noncomputable section
set_option maxRecDepth 100000
set_option linter.defProp false
def d71d := cut Tryz.prog Tryz.f71 news [33] [5] true
@[go_sem] def E71d := ql d71d
def F71d := fnC d71d follows Tryz.func71
end
def qbc (b : Brk) (k : Pr) (name : List UInt8) (p : Pk) : Brk × Int × Bool :=
 if (zb (b.queue k) p).2 = 0 then y9 b k name (zb (b.queue k) p).1 else (b, (zb (b.queue k) p).2, false)
def qfa (b : Brk) (p : Pk) : Brk := { b with p := b.p ++ [⟨p.from_, (qjt p).1⟩] }
def qli (b : Brk) (k : Pr) (name : List UInt8) (p : Pk) : Brk × Int × Bool :=
 if (qbc b k name p).2.1 = 0 ∨ (qbc b k name p).2.1 = 21 then (qfa (qbc b k name p).1 p, (qbc b k name p).2) else qbc b k name p
theorem q9w (b : Brk) (k : Pr) (name : List UInt8) (next : Qu) : (y9 b k name next).1.p = b.p := by
 unfold y9
 split
 ·rfl
 ·split
  ·rfl
  ·split <;> rfl
def SbD (b : Brk) (p : Pk) (x : Brk × Int × Bool) : St :=
 ⟨[(0, true, .d (.ptr 0 0)), (3, true, .d (.ptr 5 0)), (7, true, .d (.int .i64 x.2.1))],
  (match x.2.2 with
   | true => [.row (qo x.1), stoO x.1.s 8, mapO b.s.m, qmO x.1.q, tmO x.1.t, .row ((qe p).map .d), .none, .none, mapO x.1.s.m]
   | false => [.row (qo x.1), stoO x.1.s 2, mapO x.1.s.m, qmO x.1.q, tmO x.1.t, .row ((qe p).map .d), .none, .none, .none]), [0], 1⟩
set_option maxRecDepth 10000 in
theorem xe3 (b : Brk) (p : Pk) (s f t : Nat) (hs : s < 100) (hf : f < 10) (ht : t < 10) (ps : p.sess = s) (pf : p.from_ = f) (pt : p.to = t) (hp : p.Sm) (hq : (b.queue ⟨s, f, t⟩).Sm) (hw : (b.queue ⟨s, f, t⟩).W)
  (ho : (zb (b.queue ⟨s, f, t⟩) p).1.Sm) (hu : (zb (b.queue ⟨s, f, t⟩) p).1.W) (hF : b.s.file.length ≤ 100000000) (hP : b.p.length ≤ 1000000)
  (hl : (ve (b.queue ⟨s, f, t⟩) (zb (b.queue ⟨s, f, t⟩) p).1 (jq s f t)).1.length ≤ 100000) :
  qg Tryz.prog 71 [.d (.ptr 0 0), .d (.agg (qe p))] (brO b) (.d (.int .i64 (qli b ⟨s, f, t⟩ (jq s f t) p).2.1)) (afB b (qli b ⟨s, f, t⟩ (jq s f t) p).1 (qli b ⟨s, f, t⟩ (jq s f t) p).2.2) := by
 have ko := xch (b.queue ⟨s, f, t⟩) p hq hp
 have kq := qw9 (b.q.get ⟨s, f, t⟩)
 have kc := qry b s f t (zb (b.queue ⟨s, f, t⟩) p).1 hs hf ht hq hw ho hu hF hl
 have ka := xj1 p hp
 have hD0 : qbc b ⟨s, f, t⟩ (jq s f t) p = if (zb (b.queue ⟨s, f, t⟩) p).2 = 0 then y9 b ⟨s, f, t⟩ (jq s f t) (zb (b.queue ⟨s, f, t⟩) p).1 else (b, (zb (b.queue ⟨s, f, t⟩) p).2, false) := rfl
 have hD : qli b ⟨s, f, t⟩ (jq s f t) p = if (qbc b ⟨s, f, t⟩ (jq s f t) p).2.1 = 0 ∨ (qbc b ⟨s, f, t⟩ (jq s f t) p).2.1 = 21 then (qfa (qbc b ⟨s, f, t⟩ (jq s f t) p).1 p, (qbc b ⟨s, f, t⟩ (jq s f t) p).2) else qbc b ⟨s, f, t⟩ (jq s f t) p := rfl
 generalize qli b ⟨s, f, t⟩ (jq s f t) p = R at hD ⊢
 generalize qbc b ⟨s, f, t⟩ (jq s f t) p = D0 at hD hD0
 simp only [brO, qo, stoO, mapO, qmO, tmO, encQ] at kc
 simp only [encQ] at ko
 refine F71d.go ?_
 try simp only [brO, qo, stoO, mapO, qmO, tmO, qe, ps, pf, pt, go_sem, Nat.reduceAdd, Nat.reduceMul, Nat.reduceSub, Nat.reduceEqDiff, Nat.reduceLT, Nat.reduceLeDiff, Nat.reduceBEq, reduceIte, reduceCtorEq, Int.reduceAdd, Int.reduceLT, Int.reduceLE, Int.reduceGT, Int.reduceGE, Int.reduceEq, Int.reduceNe, Int.reduceBEq, Int.reduceBNe, Int.reduceToNat, Int.reduceNeg]
 simp only [qe, ps, pf, pt] at ko
 (repeat (with_reducible refine ob ?_)); refine clF F138 (ko) (fun hg => by exact ⟨kq, qc, trivial⟩) ?_
 generalize zb (b.queue ⟨s, f, t⟩) p = O at hD0 kc
 obtain ⟨nx, e⟩ := O
 simp only at hD0 kc ⊢
 try (refine ev ?_; try exact True.intro)
 have hP0 : D0.1.p = b.p := by
  rw [hD0]
  split
  ·exact q9w _ _ _ _
  ·rfl
 refine xml (fun x : { x : Brk × Int × Bool // x = D0 } => SbD b p x.val) ?_ (fun x => ?_)
 ·by_cases he : e = 0
  ·subst he
   rw [if_pos rfl] at hD0
   generalize y9 b ⟨s, f, t⟩ (jq s f t) nx = C at hD0 kc
   obtain ⟨b1, e1, c⟩ := C
   subst hD0
   simp only [afB, qo, stoO, mapO, qmO, tmO] at kc
   try (refine ev ?_; try exact True.intro)
   (repeat (with_reducible refine ob ?_)); refine qcb ?_
   try (refine ev ?_; try exact True.intro)
   cases c
   ·refine clT [0, 1, 2, 3, 4, 8] xe1 kc ?_
    try (refine ev ?_; try exact True.intro)
    refine ⟨⟨_, rfl⟩, ?_⟩
    try simp only [SbD, qo, stoO, mapO, qmO, tmO, qe, ps, pf, pt, go_sem, Nat.reduceAdd, Nat.reduceMul, Nat.reduceSub, Nat.reduceEqDiff, Nat.reduceLT, Nat.reduceLeDiff, Nat.reduceBEq, reduceIte, reduceCtorEq, Int.reduceAdd, Int.reduceLT, Int.reduceLE, Int.reduceGT, Int.reduceGE, Int.reduceEq, Int.reduceNe, Int.reduceBEq, Int.reduceBNe, Int.reduceToNat, Int.reduceNeg]
   ·refine clT [0, 1, 2, 3, 4, 8] xe1 kc ?_
    try (refine ev ?_; try exact True.intro)
    refine ⟨⟨_, rfl⟩, ?_⟩
    try simp only [SbD, qo, stoO, mapO, qmO, tmO, qe, ps, pf, pt, go_sem, Nat.reduceAdd, Nat.reduceMul, Nat.reduceSub, Nat.reduceEqDiff, Nat.reduceLT, Nat.reduceLeDiff, Nat.reduceBEq, reduceIte, reduceCtorEq, Int.reduceAdd, Int.reduceLT, Int.reduceLE, Int.reduceGT, Int.reduceGE, Int.reduceEq, Int.reduceNe, Int.reduceBEq, Int.reduceBNe, Int.reduceToNat, Int.reduceNeg]
  ·rw [if_neg he] at hD0
   subst hD0
   have hb : (e == 0) = false := by simpa using he
   try (refine ev1 @hb ?_; try exact True.intro)
   (repeat (with_reducible refine ob ?_)); refine no_ ?_
   try (refine ev ?_; try exact True.intro)
   refine ⟨⟨_, rfl⟩, ?_⟩
   try simp only [SbD, qo, stoO, mapO, qmO, tmO, qe, ps, pf, pt, go_sem, Nat.reduceAdd, Nat.reduceMul, Nat.reduceSub, Nat.reduceEqDiff, Nat.reduceLT, Nat.reduceLeDiff, Nat.reduceBEq, reduceIte, reduceCtorEq, Int.reduceAdd, Int.reduceLT, Int.reduceLE, Int.reduceGT, Int.reduceGE, Int.reduceEq, Int.reduceNe, Int.reduceBEq, Int.reduceBNe, Int.reduceToNat, Int.reduceNeg]
 ·obtain ⟨⟨b1, e1, c⟩, rfl⟩ := x
  simp only at hP0
  have hP1 : b1.p.length ≤ 1000000 := by rw [hP0]; exact hP
  simp only [qfa] at hD
  cases c
  ·try (refine ev7 @SbD.eq_1 @qo.eq_1 @stoO.eq_1 @mapO.eq_1 @qmO.eq_1 @tmO.eq_1 @qe.eq_1 ?_; try exact True.intro)
   refine pu ?_
   try (refine ev ?_; try exact True.intro)
   (repeat (with_reducible refine ob ?_)); refine xn _ (fun h => ?_) (fun h => ?_)
   ·have hx : e1 = 0 ∨ e1 = 21 := by simpa using h
    rw [if_pos hx] at hD
    subst hD
    try (refine ev ?_; try exact True.intro)
    (repeat (with_reducible refine ob ?_)); first | refine cl F20 (ka) ?_ | refine clF F20 (ka) (fun _ => by (refine ev3 @qe.eq_1 @xj.eq_1 @qp.eq_1 ?_; try exact True.intro)) ?_
    generalize qjt p = A
    try (refine ev1 @qe.eq_1 ?_; try exact True.intro)
    (repeat (with_reducible refine ob ?_))
    refine pu ?_
    try simp only [afB, qo, stoO, mapO, qmO, tmO, qfa, List.map_append, List.map_cons, List.map_nil, xj, qe, go_sem, Nat.reduceAdd, Nat.reduceMul, Nat.reduceSub, Nat.reduceEqDiff, Nat.reduceLT, Nat.reduceLeDiff, Nat.reduceBEq, reduceIte, reduceCtorEq, Int.reduceAdd, Int.reduceLT, Int.reduceLE, Int.reduceGT, Int.reduceGE, Int.reduceEq, Int.reduceNe, Int.reduceBEq, Int.reduceBNe, Int.reduceToNat, Int.reduceNeg]
   ·have hx : ¬ (e1 = 0 ∨ e1 = 21) := by simpa using h
    rw [if_neg hx] at hD
    subst hD
    try (refine ev ?_; try exact True.intro)
    refine pu ?_
    try simp only [afB, qo, stoO, mapO, qmO, tmO, go_sem, Nat.reduceAdd, Nat.reduceMul, Nat.reduceSub, Nat.reduceEqDiff, Nat.reduceLT, Nat.reduceLeDiff, Nat.reduceBEq, reduceIte, reduceCtorEq, Int.reduceAdd, Int.reduceLT, Int.reduceLE, Int.reduceGT, Int.reduceGE, Int.reduceEq, Int.reduceNe, Int.reduceBEq, Int.reduceBNe, Int.reduceToNat, Int.reduceNeg]
  ·try (refine ev7 @SbD.eq_1 @qo.eq_1 @stoO.eq_1 @mapO.eq_1 @qmO.eq_1 @tmO.eq_1 @qe.eq_1 ?_; try exact True.intro)
   refine pu ?_
   try (refine ev ?_; try exact True.intro)
   (repeat (with_reducible refine ob ?_)); refine xn _ (fun h => ?_) (fun h => ?_)
   ·have hx : e1 = 0 ∨ e1 = 21 := by simpa using h
    rw [if_pos hx] at hD
    subst hD
    try (refine ev ?_; try exact True.intro)
    (repeat (with_reducible refine ob ?_)); first | refine cl F20 (ka) ?_ | refine clF F20 (ka) (fun _ => by (refine ev3 @qe.eq_1 @xj.eq_1 @qp.eq_1 ?_; try exact True.intro)) ?_
    generalize hA : qjt p = A
    try (refine ev1 @qe.eq_1 ?_; try exact True.intro)
    (repeat (with_reducible refine ob ?_))
    refine qdg [0, 1, 2, 3, 4, 6, 7, 8, 5, 9] [.row (ze (qfa b1 p) 400), stoO b1.s 5, mapO b.s.m, qmO b1.q, tmO b1.t, mapO b1.s.m, .row ((qe p).map .d), .none, .none, .row ((qe A.1).map .d)] ?_ (by try simp only [ze, mapO, stoO, qmO, tmO, qfa, List.map_append, List.map_cons, List.map_nil, xj, qe, hA, go_sem, Nat.reduceAdd, Nat.reduceMul, Nat.reduceSub, Nat.reduceEqDiff, Nat.reduceLT, Nat.reduceLeDiff, Nat.reduceBEq, reduceIte, reduceCtorEq, Int.reduceAdd, Int.reduceLT, Int.reduceLE, Int.reduceGT, Int.reduceGE, Int.reduceEq, Int.reduceNe, Int.reduceBEq, Int.reduceBNe, Int.reduceToNat, Int.reduceNeg]) (hp := rfl)
    refine pu ?_
    try simp only [afB, qo, ze, stoO, mapO, qmO, tmO, qfa, List.map_append, List.map_cons, List.map_nil, xj, qe, hA, go_sem, Nat.reduceAdd, Nat.reduceMul, Nat.reduceSub, Nat.reduceEqDiff, Nat.reduceLT, Nat.reduceLeDiff, Nat.reduceBEq, reduceIte, reduceCtorEq, Int.reduceAdd, Int.reduceLT, Int.reduceLE, Int.reduceGT, Int.reduceGE, Int.reduceEq, Int.reduceNe, Int.reduceBEq, Int.reduceBNe, Int.reduceToNat, Int.reduceNeg]
   ·have hx : ¬ (e1 = 0 ∨ e1 = 21) := by simpa using h
    rw [if_neg hx] at hD
    subst hD
    try (refine ev ?_; try exact True.intro)
    refine qdg [0, 1, 2, 3, 4, 6, 7, 8, 5] [.row (qo b1), stoO b1.s 5, mapO b.s.m, qmO b1.q, tmO b1.t, mapO b1.s.m, .row ((qe p).map .d), .none, .none] ?_ (by try (refine ev6 @qo.eq_1 @mapO.eq_1 @stoO.eq_1 @qmO.eq_1 @tmO.eq_1 @qe.eq_1 ?_; try exact True.intro)) (hp := rfl)
    refine pu ?_
    try simp only [afB, qo, stoO, mapO, qmO, tmO, go_sem, Nat.reduceAdd, Nat.reduceMul, Nat.reduceSub, Nat.reduceEqDiff, Nat.reduceLT, Nat.reduceLeDiff, Nat.reduceBEq, reduceIte, reduceCtorEq, Int.reduceAdd, Int.reduceLT, Int.reduceLE, Int.reduceGT, Int.reduceGE, Int.reduceEq, Int.reduceNe, Int.reduceBEq, Int.reduceBNe, Int.reduceToNat, Int.reduceNeg]
end Go.Proofs.YtkcdbcbpbolgkaaGreatDoor
namespace Go.Proofs.YtkcdbcbpbolgkaaGreatDoor
open Go.Abs Go.RowKit
attribute [-go_sem] qfj
attribute [local go_sem] qv4 xmr qv5
noncomputable section
set_option maxRecDepth 100000
set_option linter.defProp false
def d21d := cut Tryz.prog Tryz.f21 news [61] [] true
@[go_sem] def E21d := ql d21d
def F21d := fnC d21d follows Tryz.func21
end
def xq9 : Nat → Code → Code
 | n + 1, .seq _ y => xq9 n y
 | _, c => c
noncomputable def xe4 : Code := xq9 4 (Tryz.f21.body.getD .skip)
noncomputable def qr0 : SCode := .seq (.seq (.region (d21d.reg 5) 0 []) (.cond (.t 58) (.seq (.region (d21d.reg 6) 0 []) (.pause .ret)) .skip)) (.seq (.region (d21d.reg 7) 0 []) (.pause .ret))
theorem q9x : zg Tryz.prog [61] 62 news xe4 = some qr0.erase := by kernel_rfl
def qr1 (k : Int) : D × Bool :=
 if k = 1 then (.func (.func 71) [.ptr 0 0] [], true) else if k = 2 then (.func (.func 72) [.ptr 0 0] [], true) else if k = 4 then (.func (.func 73) [.ptr 0 0] [], true) else (.nilfunc, false)
def SrY (b : Brk) (p : Pk) : St := ⟨[(0, true, .d (.ptr 0 0)), (3, true, .d (.ptr 5 0)), (6, true, .d (qr1 p.kind).1), (7, true, .d (.bool (qr1 p.kind).2))], brO b ++ [.row ((qe p).map .d), .none], [0], 1⟩
theorem xra {α : Type} {l : List α} (h : l.length = 2) : ∃ a b, l = [a, b] := by
 match l, h with
 | [a, b], _ => exact ⟨a, b, rfl⟩
theorem xn3 {α : Type} {l : List α} (h : l.length = 9) : ∃ a b c d e f g i j, l = [a, b, c, d, e, f, g, i, j] := by
 match l, h with
 | [a, b, c, d, e, f, g, i, j], _ => exact ⟨a, b, c, d, e, f, g, i, j, rfl⟩
def qxb : Nat → Code → Code
 | 0, .seq x _ => x
 | n + 1, .seq _ y => qxb n y
 | _, c => c
noncomputable def q4o : Code := Tryz.f21.body.getD .skip
theorem q9y : q4o = .seq (qxb 0 q4o) (.seq (qxb 1 q4o) (.seq (qxb 2 q4o) (.seq (qxb 3 q4o) xe4))) := by kernel_rfl
def mapW (W : World) (b : Nat) (es : List MapEntry) (c : Nat) : World := { W with heap := W.heap.setIfInBounds b (.map es.toArray c) }
theorem q4p {W : World} {b : Nat} {o : Obj} (es : List MapEntry) (c : Nat) (h : W.heap[b]? = some o) : (mapW W b es c).heap[b]? = some (.map es.toArray c) := (MapKept.heap_set h).1
theorem qmx {W : World} {b k : Nat} (es : List MapEntry) (c : Nat) (h : k ≠ b) : (mapW W b es c).heap[k]? = W.heap[k]? := by
 simp [mapW, Ne.symm h]
theorem xe5 {W : World} {b : Nat} (es : List MapEntry) (c : Nat) : (mapW W b es c).heap.size = W.heap.size := by simp [mapW]
theorem q4q {W : World} {b c : Nat} {es : List MapEntry} (k : Int) (f : Value) (hh : W.heap[b]? = some (.map es.toArray c)) (hn : Instr.findNow (.int .i64) (.int .i64 k) es 0 = some none) :
  (Instr.mapUpdate 165 (.map (some b)) (.int .i64 k) f).run Tryz.prog W = .ok () (mapW W b (es ++ [{ key := .int .i64 k, val := f, born := c }]) (c + 1)) := by
 have hck : (Instr.checkKey false 10000 3 (.int .i64 k)).run Tryz.prog W = .ok () W := MapKept.run_checkKey (k := .int .i64 k) Tryz.underlying3 (by simp [MapKept.IsKey]) false 9999
 have hfk := MapKept.run_findKey (P := Tryz.prog) (w := W) Tryz.underlying3 hn
 simp [Instr.mapUpdate, run_underlying Tryz.underlying165, MapKept.run_getObj_map hh, hck, hfk, MapKept.run_setObj_map _ hh, Result.andThen, mapW]
theorem qxc {W : World} {b c : Nat} {es : List MapEntry} (k : Int) (j : Nat) (F : Value) (hh : W.heap[b]? = some (.map es.toArray c)) (hn : Instr.findNow (.int .i64) (.int .i64 k) es 0 = some (some (j, F))) :
  (Instr.lookup 165 (.map (some b)) (.int .i64 k) true).run Tryz.prog W = .ok (.tuple #[F, .bool true]) W := by
 have hck : ∀ e, (Instr.checkKey e 10000 3 (.int .i64 k)).run Tryz.prog W = .ok () W := fun e => MapKept.run_checkKey (k := .int .i64 k) Tryz.underlying3 (by simp [MapKept.IsKey]) e 9999
 have hfk := MapKept.run_findKey (P := Tryz.prog) (w := W) Tryz.underlying3 hn
 simp [Instr.lookup, run_underlying Tryz.underlying165, MapKept.run_getObj_map hh, hck, hfk, Result.andThen]
theorem xe6 {W : World} {b c : Nat} {es : List MapEntry} (k : Int) (hh : W.heap[b]? = some (.map es.toArray c)) (hn : Instr.findNow (.int .i64) (.int .i64 k) es 0 = some none) :
  (Instr.lookup 165 (.map (some b)) (.int .i64 k) true).run Tryz.prog W = .ok (.tuple #[.nilFunc, .bool false]) W := by
 have hck : ∀ e, (Instr.checkKey e 10000 3 (.int .i64 k)).run Tryz.prog W = .ok () W := fun e => MapKept.run_checkKey (k := .int .i64 k) Tryz.underlying3 (by simp [MapKept.IsKey]) e 9999
 have hfk := MapKept.run_findKey (P := Tryz.prog) (w := W) Tryz.underlying3 hn
 have hz : (zeroValue 53).run Tryz.prog W = .ok .nilFunc W := by
  obtain ⟨i, hi, hz⟩ : ∃ i, Tryz.prog.info? 53 = some i ∧ i.zero = some .nilFunc := by
   have h : (Tryz.prog.info? 53).bind (fun i => i.zero) = some .nilFunc := by kernel_rfl
   exact Option.bind_eq_some_iff.1 h
  simp [zeroValue, typeInfo, hi, hz]
 simp [Instr.lookup, run_underlying Tryz.underlying165, MapKept.run_getObj_map hh, hck, hfk, hz, Result.andThen]
set_option maxRecDepth 100000 in
theorem q9z (b : Brk) (p : Pk) (R : Exit → Act → World → Prop) (g : Ghost) (w : World) (vs : List Value) (hvl : vs.length = 2) (hd : Dom g w)
  (hs : SR 62 (below 1) g w (qhh [.d (.ptr 0 0), .d (.agg (qe p))] (brO b)) { tmps := vs.toArray ++ Array.replicate (62 - vs.toArray.size) undef, defers := [] })
  (hY : ∀ g1 w1 a1, SR 62 (below 1) g1 w1 (SrY b p) a1 → G g w g1 w1 → a1.defers = [] → xe4.wpIn (Fw none) 0 Tryz.prog R a1 w1) :
  q4o.wpIn (Fw none) 0 Tryz.prog R { tmps := vs.toArray ++ Array.replicate (62 - vs.toArray.size) undef, defers := [] } w := by
 obtain ⟨v0, v1, rfl⟩ := xra hvl
 simp only [List.size_toArray, List.length_cons, List.length_nil, Nat.reduceAdd, Nat.reduceSub, Array.replicate_succ, Array.replicate_zero, List.push_toArray, List.append_toArray, List.nil_append, List.cons_append] at hs ⊢
 have h0 := v8 ((hs.slots 0 true _ rfl).1 rfl)
 have h1 := v8 ((hs.slots 1 true _ rfl).1 rfl)
 simp only [List.getD_cons_zero, List.getD_cons_succ, Array.getD_eq_getD_getElem?, List.getElem?_toArray, List.getElem?_cons_zero, List.getElem?_cons_succ, Option.getD_some] at h0 h1
 cases h0 with
 | ptr bb _ _ hg =>
 generalize hds : qe p = ds at h1
 cases h1 with
 | agg us _ hl hcl hr =>
 subst hds
 obtain ⟨u0, u1, u2, u3, u4, u5, u6, u7, u8, rfl⟩ := xn3 (hl.trans rfl)
 have hk : u0 = .int .i64 p.kind := by
  have := hr 0 u0 _ rfl rfl
  cases this; rfl
 subst hk
 rw [q9y]
 generalize xe4 = Y at hY ⊢
 refine wpIn_seq ?_
 conv in (qxb 0 _) => whnf
 gi_wp2
 conv in (qxb 1 _) => whnf
 gi_wp2
 conv in (qxb 2 _) => whnf
 have alloc_at : ∀ (W : World) (o : Obj), (W.alloc o).heap[W.heap.size]? = some o := fun W o => heap_alloc_new W o
 have hB : ((w.alloc (.cells #[.int .i64 p.kind, u1, u2, u3, u4, u5, u6, u7, u8] 33)).alloc (.map #[] 0)).heap[w.heap.size + 1]? = some (.map ([] : List MapEntry).toArray 0) := by
  have := alloc_at (w.alloc (.cells #[.int .i64 p.kind, u1, u2, u3, u4, u5, u6, u7, u8] 33)) (.map #[] 0)
  simpa using this
 have i1 := q4q 1 (.func (.func 71) #[.pointer (some ⟨bb, 0, none⟩)] #[]) hB rfl
 have hB1 := q4p ([] ++ [{ key := .int .i64 1, val := .func (.func 71) #[.pointer (some ⟨bb, 0, none⟩)] #[], born := 0 }]) 1 hB
 have i2 := q4q 2 (.func (.func 72) #[.pointer (some ⟨bb, 0, none⟩)] #[]) hB1 rfl
 have hB2 := q4p ([] ++ [{ key := .int .i64 1, val := .func (.func 71) #[.pointer (some ⟨bb, 0, none⟩)] #[], born := 0 }] ++ [{ key := .int .i64 2, val := .func (.func 72) #[.pointer (some ⟨bb, 0, none⟩)] #[], born := 1 }]) 2 hB1
 have i3 := q4q 4 (.func (.func 73) #[.pointer (some ⟨bb, 0, none⟩)] #[]) hB2 rfl
 have hB3 := q4p ([] ++ [{ key := .int .i64 1, val := .func (.func 71) #[.pointer (some ⟨bb, 0, none⟩)] #[], born := 0 }] ++ [{ key := .int .i64 2, val := .func (.func 72) #[.pointer (some ⟨bb, 0, none⟩)] #[], born := 1 }] ++ [{ key := .int .i64 4, val := .func (.func 73) #[.pointer (some ⟨bb, 0, none⟩)] #[], born := 2 }]) 3 hB2
 simp only [List.nil_append, List.cons_append, Nat.reduceAdd, Nat.zero_add] at i1 i2 i3 hB3
 gi_wp2_with (first | simp only [run_makeMap, Result.andThen_ok] | simp only [i1, Result.andThen_ok] | simp only [i2, Result.andThen_ok] | simp only [i3, Result.andThen_ok])
 clear i1 i2 i3 hB hB1 hB2
 generalize hW : mapW (mapW (mapW _ _ _ _) _ _ _) _ _ _ = W at hB3 ⊢
 have w1 : W.heap.size = w.heap.size + 2 := by rw [← hW]; simp [xe5]
 have w2 : ∀ k, k ≠ w.heap.size + 1 → W.heap[k]? = (w.alloc (.cells #[.int .i64 p.kind, u1, u2, u3, u4, u5, u6, u7, u8] 33)).heap[k]? := by
  intro k hk
  rw [← hW, qmx _ _ hk, qmx _ _ hk, qmx _ _ hk]
  by_cases hlt : k < (w.alloc (.cells #[.int .i64 p.kind, u1, u2, u3, u4, u5, u6, u7, u8] 33)).heap.size
  ·exact heap_alloc_old _ _ hlt
  ·rw [Array.getElem?_eq_none (by simp at hlt ⊢; omega), Array.getElem?_eq_none (by omega)]
 have w3 : W.os = w.os ∧ W.tape = w.tape ∧ W.output = w.output := by rw [← hW]; exact ⟨rfl, rfl, rfl⟩
 have w4 : W.heap[w.heap.size]? = some (.cells #[.int .i64 p.kind, u1, u2, u3, u4, u5, u6, u7, u8] 33 (0, 0)) := by
  rw [w2 _ (by omega)]; exact heap_alloc_new w _
 clear hW
 have hc : W.cell? ⟨w.heap.size, 0, none⟩ = some (.int .i64 p.kind) := by simp [World.cell?, w4]
 have hf : W.frozen? ⟨w.heap.size, 0, none⟩ = false := by simp [World.frozen?, w4]
 have rvf : ∀ (g' : Ghost) (f : FuncId), g' bb = .obj 0 → RV g' W (.func (.func f) #[.pointer (some ⟨bb, 0, none⟩)] #[]) (.func (.func f) [.ptr 0 0] []) := fun g' f hg' =>
  .func (.func f) [.pointer (some ⟨bb, 0, none⟩)] [] [.ptr 0 0] [] rfl rfl (fun j v d h1 h2 => by
   match j with
   | 0 => simp at h1 h2; subst h1; subst h2; exact .ptr bb 0 0 hg'
   | j + 1 => simp at h1) (fun j v d h1 => by simp at h1)
 have lk : ∃ F, (Instr.lookup 165 (.map (some (w.heap.size + 1))) (.int .i64 p.kind) true).run Tryz.prog W = .ok (.tuple #[F, .bool (qr1 p.kind).2]) W ∧ ∀ g' : Ghost, g' bb = .obj 0 → RV g' W F (qr1 p.kind).1 := by
  by_cases k1 : p.kind = 1
  ·refine ⟨_, by rw [k1]; exact qxc 1 0 _ hB3 rfl, fun g' hg' => ?_⟩
   rw [k1]; exact rvf g' _ hg'
  by_cases k2 : p.kind = 2
  ·refine ⟨_, by rw [k2]; exact qxc 2 1 _ hB3 rfl, fun g' hg' => ?_⟩
   rw [k2]; exact rvf g' _ hg'
  by_cases k4 : p.kind = 4
  ·refine ⟨_, by rw [k4]; exact qxc 4 2 _ hB3 rfl, fun g' hg' => ?_⟩
   rw [k4]; exact rvf g' _ hg'
  ·have hp : qr1 p.kind = (.nilfunc, false) := by unfold qr1; rw [if_neg k1, if_neg k2, if_neg k4]
   have e1 : (p.kind == 1) = false := by simpa using k1
   have e2 : (p.kind == 2) = false := by simpa using k2
   have e4 : (p.kind == 4) = false := by simpa using k4
   refine ⟨.nilFunc, by rw [hp]; exact xe6 p.kind hB3 (by simp only [Instr.findNow, Instr.sameNow, e1, e2, e4, if_true]), fun g' hg' => ?_⟩
   rw [hp]; exact .nilfunc
 obtain ⟨F, lk, hF⟩ := lk
 clear hB3 rvf
 conv in (qxb 3 _) => whnf
 gi_wp2_with (simp only [lk, Result.andThen_ok])
 obtain ⟨wo, wt, wu⟩ := w3
 have s1 := hs.grow 2
 obtain ⟨hG1, s2⟩ := s1.newObj (id := 5) (new := (qe p).map .d) (vs := [.int .i64 p.kind, u1, u2, u3, u4, u5, u6, u7, u8]) (e := 33) rfl (by simp [qe]) (fun i s hi => by
  rw [List.getElem?_map, Option.map_eq_some_iff] at hi
  obtain ⟨d, hd', rfl⟩ := hi
  have hlt : i < 9 := by have := (List.getElem?_eq_some_iff.1 hd').1; simpa [qe] using this
  have hv : ∃ v, ([.int .i64 p.kind, u1, u2, u3, u4, u5, u6, u7, u8] : List Value)[i]? = some v := ⟨_, List.getElem?_eq_getElem (by simpa using hlt)⟩
  obtain ⟨v, hv⟩ := hv
  have hrv := hr i v d hv hd'
  exact ⟨v, hv, hrv.oneCell (hcl d (List.mem_of_getElem? hd')), hrv⟩) (fun s hm t ht => by
  obtain ⟨d, _, rfl⟩ := List.mem_map.1 hm
  simp [ASlot.toks] at ht)
 have hBout : ∀ k, (g.at w.heap.size (.obj 5)) k ≠ .out → k ≠ w.heap.size + 1 := by
  rintro k hk rfl
  rw [Ghost.at_ne g _ (by omega)] at hk
  exact hk (hd.1 _ (by omega))
 have s3 := s2.still (w' := W) (fun k hk => w2 k (hBout k hk)) (by rw [w1]; simp)
 have hbb : bb ≠ w.heap.size := fun h => by
  rw [h, hd.1 _ (Nat.le_refl _)] at hg; cases hg
 have hg' : (g.at w.heap.size (.obj 5)) bb = .obj 0 := by rw [Ghost.at_ne g _ hbb]; exact hg
 have hbox : (g.at w.heap.size (.obj 5)) w.heap.size = .obj 5 := Ghost.at_same _ _ _
 refine hY (g.at w.heap.size (.obj 5)) W _ (SR.plain (fr := (SrY b p).fr) s3 rfl rfl fun k d hk => ?_) (hG1.beyond wo wt wu (by rw [w1]; simp) fun k r hk _ _ => w2 k (by omega)) rfl
 simp only [SrY, Fr.get] at hk
 split at hk
 ·rename_i h; subst h; cases hk; exact .ptr bb 0 0 hg'
 split at hk
 ·rename_i h; subst h; cases hk; exact .ptr _ 0 5 hbox
 split at hk
 ·rename_i h; subst h; cases hk; exact hF _ hg'
 split at hk
 ·rename_i h; subst h; cases hk; exact .bool _
 ·cases hk
end Go.Proofs.YtkcdbcbpbolgkaaGreatDoor
namespace Go.Proofs.YtkcdbcbpbolgkaaGreatDoor
open Go.Abs
theorem qc1 : wy jb = true := by decide
theorem q4r {p q r : Pk} (h1 : qir p r = true) (h2 : qir q r = true) : qir p q = true := by
 simp only [qir, Bool.and_eq_true, beq_iff_eq] at *
 grind
theorem qlj {p : Pk} (h : qb0 p = true) : p.kind = 1 ∧ qk p = true ∧ 1 ≤ p.seq ∧ p.seq ≤ 1099511627776 ∧ 1 ≤ p.sess ∧ p.sess ≤ 32 ∧ 0 ≤ p.from_ ∧ p.from_ < 6 ∧ 0 ≤ p.to ∧ p.to < 6 ∧ p.from_ ≠ p.to := by
 simp only [qb0, Bool.and_eq_true, beq_iff_eq] at h
 obtain ⟨hk, hv⟩ := h
 refine ⟨hk, hv, ?_⟩
 simp only [qk, qez, hk, if_true, data, qdp, role, Bool.and_eq_true, decide_eq_true_eq, bne_iff_ne, ne_eq] at hv
 grind
theorem qgs (q : Qu) (seq : Int) : wy (xt q seq).1 = true := by
 unfold xt
 by_cases hv : wy q = true
 ·have h := (qbj q).1 hv
  simp only [hv, Bool.not_true, Bool.false_eq_true, if_false]
  split
  ·exact qc1
  ·rcases Nat.eq_zero_or_pos q.items.length with h0 | h0
   ·simp only [h0, Int.cast_ofNat_Int, beq_self_eq_true, Bool.true_or, if_true]
    exact qc1
   ·have hs := (h.item 0 h0).2.2
    have h1 := h.lo
    have h2 := h.le
    have h3 := h.hi
    have h4 := h.len
    have h5 := h.few
    have hs' : (q.items.getD 0 default).seq = q.cons + 1 := by rw [x9 h0, hs]; simp
    rw [hs']
    split
    ·exact qc1
    ·rename_i hc
     have hseq : seq = q.cons + 1 := by simp at hc; exact hc.2
     subst hseq
     refine (qbj _).2 ⟨by dsimp only; omega, by dsimp only; omega, h3, by simp only [List.length_drop]; omega, by simp only [List.length_drop]; omega, fun i hi => ?_⟩
     simp only [List.length_drop] at hi
     obtain ⟨m1, m2, m3⟩ := h.item (1 + i) (by omega)
     obtain ⟨n1, n2, n3⟩ := h.item 1 (by omega)
     simp only [List.getElem_drop, Nat.add_zero]
     exact ⟨m1, q4r m2 n2, by rw [m3]; omega⟩
 ·have hv' : wy q = false := by simpa using hv
  simp only [hv', Bool.not_false, if_true]
  exact qc1
theorem qh0 {q : Qu} {p : Pk} (h : (zb q p).2 = 0) : wy q = true ∧ qb0 p = true ∧ (q.items ≠ [] → qir p (q.items.getD 0 default) = true) ∧ p.seq = q.acc + 1 ∧ q.items.length ≠ 4 ∧ (zb q p).1 = ⟨p.seq, q.cons, q.items ++ [p]⟩ := by
 unfold zb at h ⊢
 split at h
 ·cases h
 rename_i hv
 split at h
 ·cases h
 rename_i c1
 split at h
 ·cases h
 rename_i c2
 split at h
 ·cases h
 rename_i c3
 rw [if_neg hv, if_neg c1, if_neg c2, if_neg c3]
 simp only [Bool.or_eq_true, Bool.not_eq_true', Bool.and_eq_true, decide_eq_true_eq, not_or, Bool.not_eq_false, not_and] at hv
 obtain ⟨⟨v1, v2⟩, v3⟩ := hv
 have hq := (qbj q).1 v1
 have h1 := hq.lo
 have h2 := hq.le
 have h3 := hq.hi
 have hw : IntKind.i64.wrap (q.acc + 1) = q.acc + 1 := wrap_i64 (by omega) (by omega)
 rw [hw] at c2
 simp only [decide_eq_true_eq, beq_iff_eq] at c1 c2 c3
 refine ⟨v1, v2, fun hne => v3 ?_, by omega, by omega, rfl⟩
 have := List.length_pos_iff.2 hne
 omega
theorem q6y {q : Qu} {p : Pk} (h : (zb q p).2 ≠ 0) : (zb q p).1 = jb := by
 revert h
 unfold zb
 split
 ·intro _; rfl
 split
 ·intro _; rfl
 split
 ·intro _; rfl
 split
 ·intro _; rfl
 ·intro h; exact absurd rfl h
theorem qgt (q : Qu) (p : Pk) : wy (zb q p).1 = true := by
 by_cases h0 : (zb q p).2 = 0
 ·obtain ⟨v1, v2, v3, hs, hn4, he⟩ := qh0 h0
  rw [he]
  have h := (qbj q).1 v1
  have h1 := h.lo
  have h2 := h.le
  have h3 := h.hi
  have h4 := h.len
  have h5 := h.few
  have hm := qlj v2
  refine (qbj _).2 ⟨h1, by dsimp only; omega, by dsimp only; omega, by simp only [List.length_append, List.length_cons, List.length_nil]; omega, by simp only [List.length_append, List.length_cons, List.length_nil]; omega, fun i hi => ?_⟩
  simp only [List.length_append, List.length_cons, List.length_nil] at hi
  by_cases hlt : i < q.items.length
  ·obtain ⟨m1, m2, m3⟩ := h.item i hlt
   simp only [List.getElem_append_left hlt, List.getElem_append_left (show 0 < q.items.length by omega)]
   exact ⟨m1, m2, m3⟩
  ·have hie : i = q.items.length := by omega
   subst hie
   rcases Nat.eq_zero_or_pos q.items.length with h0 | h0
   ·have hnil : q.items = [] := List.eq_nil_of_length_eq_zero h0
    simp only [hnil, List.nil_append, List.length_nil, List.getElem_cons_zero]
    refine ⟨v2, by simp [qir], ?_⟩
    rw [hnil] at h4; simp at h4; omega
   ·have hv3 := v3 (List.length_pos_iff.1 h0)
    rw [x9 h0] at hv3
    simp only [List.getElem_append_right (Nat.le_refl _), List.getElem_append_left h0, Nat.sub_self, List.getElem_cons_zero]
    exact ⟨v2, hv3, by omega⟩
 ·rw [q6y h0]; exact qc1
theorem qgu {q : Qu} {s : Int} (h : (xt q s).2 = 0) : wy q = true ∧ q.items ≠ [] ∧ s = q.cons + 1 ∧ (xt q s).1 = ⟨q.acc, s, q.items.drop 1⟩ := by
 unfold xt at h ⊢
 split at h
 ·cases h
 rename_i hv
 split at h
 ·cases h
 rename_i c1
 split at h
 ·cases h
 rename_i c2
 rw [if_neg hv, if_neg c1, if_neg c2]
 have v1 : wy q = true := by simpa using hv
 have hq := (qbj q).1 v1
 have h0 : 0 < q.items.length := by
  simp only [Bool.or_eq_true, beq_iff_eq, not_or] at c2
  omega
 have hs := (hq.item 0 h0).2.2
 simp only [Bool.or_eq_true, bne_iff_ne, ne_eq, not_or, Decidable.not_not, x9 h0, hs] at c2
 exact ⟨v1, List.length_pos_iff.1 h0, by have := c2.2; omega, rfl⟩
theorem qur {q : Qu} {s : Int} (h : (xt q s).2 ≠ 0) : (xt q s).1 = jb := by
 revert h
 unfold xt
 split
 ·intro _; rfl
 split
 ·intro _; rfl
 split
 ·intro _; rfl
 ·intro h; exact absurd rfl h
theorem qxd {q : Qu} (h : wy q = true) : q.Sm := by
 have hq := (qbj q).1 h
 refine ⟨by have := hq.few; omega, fun p hp => ?_⟩
 obtain ⟨i, hi, rfl⟩ := List.getElem_of_mem hp
 have := qko (qlj (hq.item i hi).1).2.1
 exact ⟨by omega, by omega⟩
theorem qou : jb.W := ⟨by simp [jb, I64], by simp [jb, I64], by simp [jb]⟩
theorem xrb {q : Qu} (h : wy q = true) : I64 q.acc ∧ I64 q.cons := (xnk h).I
theorem q4s {q : Qu} {p : Pk} (hq : q.W) (hp : p.W) : (zb q p).1.W := by
 by_cases h0 : (zb q p).2 = 0
 ·have he := (qh0 h0).2.2.2.2.2
  have hi := xrb (qgt q p)
  rw [he] at hi ⊢
  refine ⟨hi.1, hi.2, fun x hx => ?_⟩
  rcases List.mem_append.1 hx with hx | hx
  ·exact hq.p x hx
  ·simp only [List.mem_cons, List.not_mem_nil, or_false] at hx
   subst hx; exact hp
 ·rw [q6y h0]; exact qou
theorem q1p {q : Qu} {s : Int} (hq : q.W) : (xt q s).1.W := by
 by_cases h0 : (xt q s).2 = 0
 ·have he := (qgu h0).2.2.2
  have hi := xrb (qgs q s)
  rw [he] at hi ⊢
  exact ⟨hi.1, hi.2, fun x hx => hq.p x (List.mem_of_mem_drop hx)⟩
 ·rw [qur h0]; exact qou
theorem xn4 : ∀ a b : Fin 10, dig a.val = dig b.val → a = b := by decide
theorem qov {a b : Nat} (ha : a < 10) (hb : b < 10) (h : dig a = dig b) : a = b := by
 have := xn4 ⟨a, ha⟩ ⟨b, hb⟩ h
 simpa using this
theorem qmy (s f t : Nat) : (jq s f t).length = 8 := rfl
theorem q90 {s f t s' f' t' : Nat} (hs : s < 100) (hf : f < 10) (ht : t < 10) (hs' : s' < 100) (hf' : f' < 10) (ht' : t' < 10) (h : jq s f t = jq s' f' t') : s = s' ∧ f = f' ∧ t = t' := by
 simp only [jq, dig, List.cons_append, List.nil_append, List.cons.injEq, and_true, true_and] at h
 obtain ⟨h1, h2, h3, h4⟩ := h
 have e1 := qov (a := s / 10) (b := s' / 10) (by omega) (by omega) (by simp [dig, h1])
 have e2 := qov (a := s % 10) (b := s' % 10) (by omega) (by omega) (by simp [dig, h2])
 have e3 := qov hf hf' (by simp [dig, h3])
 have e4 := qov ht ht' (by simp [dig, h4])
 omega
def Pr.name (x : Pr) : List UInt8 := jq x.s.toNat x.f.toNat x.t.toNat
structure PrOk (n ss : Nat) (x : Pr) : Prop where
 s1 : 1 ≤ x.s
 s2 : x.s ≤ ss
 f0 : 0 ≤ x.f
 f1 : x.f < n
 t0 : 0 ≤ x.t
 t1 : x.t < n
 ne : x.f ≠ x.t
theorem xn5 {n ss : Nat} (hn : n ≤ 6) (hss : ss ≤ 32) {x y : Pr} (hx : PrOk n ss x) (hy : PrOk n ss y) (h : x ≠ y) (a b : List UInt8) (ha : a.length = 2) (hb : b.length = 2) : x.name ++ a ≠ y.name ++ b := by
 intro he
 have := (List.append_inj he (by simp [Pr.name, qmy])).1
 obtain ⟨x1, x2, x3⟩ := x
 obtain ⟨y1, y2, y3⟩ := y
 obtain ⟨a1, a2, a3, a4, a5, a6, a7⟩ := hx
 obtain ⟨b1, b2, b3, b4, b5, b6, b7⟩ := hy
 simp only at a1 a2 a3 a4 a5 a6 b1 b2 b3 b4 b5 b6
 obtain ⟨e1, e2, e3⟩ := q90 (by simp only; omega) (by simp only; omega) (by simp only; omega) (by simp only; omega) (by simp only; omega) (by simp only; omega) this
 simp only at e1 e2 e3
 exact h (by rw [Pr.mk.injEq]; omega)
theorem q6z (x : Pr) (a : List UInt8) : pre uPfx (x.name ++ a) = false := rfl
theorem q91 (x : Pr) : qni x.name = true := by simp [qni, Pr.name, qmy]
theorem q1q {n : Nat} {s : Sto} (h : s.Ok n) (hn : s.m.l.length ≤ 390) {a b : Qu} {name : List UInt8} (hb : QV b) (wb : b.W) (hm : name.length ≤ 30) (hne : vq a b name 4 ≠ []) :
  (xf s (vq a b name 4)).2 = 0 ∧ (xf s (vq a b name 4)).1.Ok (n + 1) ∧ (xf s (vq a b name 4)).1.m.l.length ≤ s.m.l.length + 5 ∧ ∀ k, mGet k (xf s (vq a b name 4)).1.m = vj k (mGet k s.m) (vq a b name 4) := by
 have he := q6e hb wb hm hne
 have hl := qfx a b name 4
 obtain ⟨y1, y2⟩ := qij (vq a b name 4) s.m (by omega)
 have hc : xf s (vq a b name 4) = (⟨yl s.file (qr (vq a b name 4)).1, s.synced, (jp s.m (vq a b name 4)).1⟩, 0) := by
  unfold xf
  rw [if_neg (by simp [he]), if_neg (by simp [y1])]
 have hok := qjf h (vq a b name 4)
 rw [hc] at hok ⊢
 exact ⟨rfl, hok, by simp only; omega, fun k => qfv k _ h.good.ok y1⟩
theorem xj5 {m m' : Cont} {name : List UInt8} {q : Qu} (hr : Rep m name q) (h : ∀ a : List UInt8, a.length = 2 → mGet (name ++ a) m' = mGet (name ++ a) m) : Rep m' name q :=
 ⟨(h [47, 110] rfl).trans hr.1, fun d hd => (h [47, UInt8.ofNat (48 + d)] rfl).trans (hr.2 d hd)⟩
end Go.Proofs.YtkcdbcbpbolgkaaGreatDoor
namespace Go.Proofs.YtkcdbcbpbolgkaaGreatDoor
open Go.Abs
attribute [-go_sem] qfj
noncomputable section
set_option maxRecDepth 100000
set_option linter.defProp false
def d65 := cut Tryz.prog Tryz.f65 news
@[go_sem] def E65 := ql d65
def F65 := fnC d65 follows Tryz.func65
end
def qfi (b : Brk) (t : Tk) : TryM := (b.t.get t).getD ⟨0, 0⟩
def xj6 (b : Brk) (t : Tk) (now : Int) : Bool := !(b.t.get t).isSome || decide ((qfi b t).next ≤ now)
def q4t (y : TryM) (now : Int) : TryM := ⟨y.count + 1, IntKind.wrap .i64 (now + qip (y.count + 1))⟩
def qgv (b : Brk) (tr : MapM Tk TryM) (t : Tk) (now : Int) (l : List OutM) (x : OutM) : MapM Tk TryM × List OutM :=
 if xj6 b t now then (tr.put t (q4t (qfi b t) now), l ++ [x]) else (tr.put t (qfi b t), l)
set_option maxRecDepth 10000 in
theorem q1r (b : Brk) (tr : MapM Tk TryM) (s f t n now : Int) (l : List OutM) (x : OutM) (hc : 0 ≤ (qfi b ⟨⟨s, f, t⟩, n⟩).count ∧ (qfi b ⟨⟨s, f, t⟩, n⟩).count ≤ 100000) (hl : l.length ≤ 1000000) :
  qg Tryz.prog 65 [.d (.ptr 0 0), .d (.map 5), .d (.agg [.int .i64 s, .int .i64 f, .int .i64 t, .int .i64 n]), .d (.int .i64 now), .own 1 10 (l.map xj), .d (.agg (xj x))] (brO b ++ [tmO tr])
   (.own 1 10 ((qgv b tr ⟨⟨s, f, t⟩, n⟩ now l x).2.map xj)) (brO b ++ [tmO (qgv b tr ⟨⟨s, f, t⟩, n⟩ now l x).1]) := by
 have hw : IntKind.i64.wrap ((qfi b ⟨⟨s, f, t⟩, n⟩).count + 1) = (qfi b ⟨⟨s, f, t⟩, n⟩).count + 1 := wrap_i64 (by omega) (by omega)
 have ki := q4n ((qfi b ⟨⟨s, f, t⟩, n⟩).count + 1) (by omega)
 have hT : (b.t.get ⟨⟨s, f, t⟩, n⟩).getD ⟨0, 0⟩ = qfi b ⟨⟨s, f, t⟩, n⟩ := rfl
 generalize hR : qgv b tr ⟨⟨s, f, t⟩, n⟩ now l x = R
 unfold qgv xj6 at hR
 refine F65.go ?_
 try simp only [brO, qo, stoO, mapO, qmO, tmO, xj, qe, List.cons_append, List.nil_append, go_sem, Nat.reduceAdd, Nat.reduceMul, Nat.reduceSub, Nat.reduceEqDiff, Nat.reduceLT, Nat.reduceLeDiff, Nat.reduceBEq, reduceIte, reduceCtorEq, Int.reduceAdd, Int.reduceLT, Int.reduceLE, Int.reduceGT, Int.reduceGE, Int.reduceEq, Int.reduceNe, Int.reduceBEq, Int.reduceBNe, Int.reduceToNat, Int.reduceNeg]
 simp only [hT]
 generalize hy : qfi b ⟨⟨s, f, t⟩, n⟩ = y at hR hw ki hc
 (repeat (with_reducible refine ob ?_))
 (repeat (with_reducible refine ob ?_)); refine xn _ (fun h => ?_) (fun h => ?_)
 ·rw [if_pos h] at hR
  subst hR
  try (refine ev1 @hw ?_; try exact True.intro)
  (repeat (with_reducible refine ob ?_)); first | refine cl F131 (ki) ?_ | refine clF F131 (ki) (fun _ => by (refine ev2 @qe.eq_1 @xj.eq_1 ?_; try exact True.intro)) ?_
  try (refine ev ?_; try exact True.intro)
  (repeat (with_reducible refine ob ?_))
  try simp only [xez _ _ _ _ _ (y.count + 1) (IntKind.i64.wrap (now + qip (y.count + 1))), go_sem, Nat.reduceAdd, Nat.reduceMul, Nat.reduceSub, Nat.reduceEqDiff, Nat.reduceLT, Nat.reduceLeDiff, Nat.reduceBEq, reduceIte, reduceCtorEq, Int.reduceAdd, Int.reduceLT, Int.reduceLE, Int.reduceGT, Int.reduceGE, Int.reduceEq, Int.reduceNe, Int.reduceBEq, Int.reduceBNe, Int.reduceToNat, Int.reduceNeg]
  try (refine ev6 @q4t.eq_1 @List.map_append.{0,0} @List.map_cons.{0,0} @List.map_nil.{0,0} @xj.eq_1 @qe.eq_1 ?_; try exact True.intro)
 ·rw [if_neg (by rw [h]; exact Bool.false_ne_true)] at hR
  subst hR
  try simp only [xez _ _ _ _ _ y.count y.next, go_sem, Nat.reduceAdd, Nat.reduceMul, Nat.reduceSub, Nat.reduceEqDiff, Nat.reduceLT, Nat.reduceLeDiff, Nat.reduceBEq, reduceIte, reduceCtorEq, Int.reduceAdd, Int.reduceLT, Int.reduceLE, Int.reduceGT, Int.reduceGE, Int.reduceEq, Int.reduceNe, Int.reduceBEq, Int.reduceBNe, Int.reduceToNat, Int.reduceNeg]
end Go.Proofs.YtkcdbcbpbolgkaaGreatDoor
namespace Go.Proofs.YtkcdbcbpbolgkaaGreatDoor
open Go.Abs
noncomputable section
set_option maxRecDepth 100000
set_option linter.defProp false
def d45n := cut Tryz.prog Tryz.f45 news [] [] true
@[go_sem] def E45n := ql d45n
def F45n := fnC d45n follows Tryz.func45
def d38 := cut Tryz.prog Tryz.f38 news
@[go_sem] def E38 := ql d38
def F38 := fnC d38 follows Tryz.func38
end
def vg (r s : Int) : Brk := ⟨r, s, newS, ⟨[], 0⟩, ⟨r, []⟩, [], ⟨[], 0⟩⟩
theorem q92 {r s : Int} (h : posB r s = true) : 1 ≤ r ∧ r ≤ 6 ∧ 1 ≤ s ∧ s ≤ 32 := by
 simp only [posB, Bool.and_eq_true, decide_eq_true_eq] at h
 omega
set_option maxRecDepth 10000 in
theorem xe7 (r s : Int) (h : posB r s = true) : qg Tryz.prog 45 [.d (.int .i64 r), .d (.int .i64 s)] [] (.tup [.d (.ptr 0 0), .d (.int .i64 0)]) (brO (vg r s)) := by
 have kp := qrx r s
 rw [h] at kp
 obtain ⟨h1, h2, h3, h4⟩ := q92 h
 have ku := q57 r
 have hu : qq1 r = (⟨r, []⟩, 0) := by unfold qq1; rw [if_neg (by simp; omega)]
 rw [hu] at ku
 simp only [qu] at ku
 have kn := xkw
 simp only [mapO, stoO] at kn
 refine F45n.goT ?_
 try (refine ev ?_; try exact True.intro)
 (repeat (with_reducible refine ob ?_)); first | refine cl F103 (kp) ?_ | refine clF F103 (kp) (fun _ => by (refine ev2 @qe.eq_1 @xj.eq_1 ?_; try exact True.intro)) ?_
 try (refine ev ?_; try exact True.intro)
 (repeat (with_reducible refine ob ?_)); refine no_ ?_
 try (refine ev ?_; try exact True.intro)
 (repeat (with_reducible refine ob ?_)); first | refine cl F43 (ku) ?_ | refine clF F43 (ku) (fun _ => by (refine ev2 @qe.eq_1 @xj.eq_1 ?_; try exact True.intro)) ?_
 try (refine ev ?_; try exact True.intro)
 (repeat (with_reducible refine ob ?_)); refine no_ ?_
 try (refine ev ?_; try exact True.intro)
 (repeat (with_reducible refine ob ?_)); refine clO [1, 2] F28 (kn) ?_ (hfit := by first | exact ⟨qc, trivial⟩ | exact ⟨qc, qc, trivial⟩ | (refine ev2 @qe.eq_1 @xj.eq_1 ?_; try exact True.intro))
 try (refine ev4 @qdi.eq_1 @newS.eq_1 @List.map_nil.{0,0} @qx ?_; try exact True.intro)
 refine qdg [5, 2, 1, 3, 4, 0] [.row [.d (.int .i64 r), .d (.int .i64 s), .d (.ptr 1 0), .d (.map 3), .d (.int .i64 r), .d (.sl 4 []), .d .nilsl, .d (.map 4)], .row [.d (.sl 1 []), .d (.int .i64 0), .d (.map 2)], .map [] 0, .map [] 0, .map [] 0, .row [.d (.int .i64 r), .d (.sl 4 [])]] ?_ (by try (refine ev ?_; try exact True.intro)) (hp := rfl)
 refine pu ?_
 try simp only [brO, vg, qo, stoO, mapO, qmO, tmO, qdi, newS, List.map_nil, qx, go_sem, Nat.reduceAdd, Nat.reduceMul, Nat.reduceSub, Nat.reduceEqDiff, Nat.reduceLT, Nat.reduceLeDiff, Nat.reduceBEq, reduceIte, reduceCtorEq, Int.reduceAdd, Int.reduceLT, Int.reduceLE, Int.reduceGT, Int.reduceGE, Int.reduceEq, Int.reduceNe, Int.reduceBEq, Int.reduceBNe, Int.reduceToNat, Int.reduceNeg]
theorem xn6 (b : Brk) (hf : b.s.file.length ≤ 1000000000) : qg Tryz.prog 38 [.d (.ptr 0 0)] (brO b) (.d (.agg (wz b.s.file b.s.synced))) (brO b) := by
 have kl := xcq b.s hf
 simp only [mapO, stoO] at kl
 refine F38.go ?_
 try (refine ev6 @brO.eq_1 @qo.eq_1 @stoO.eq_1 @mapO.eq_1 @qmO.eq_1 @tmO.eq_1 ?_; try exact True.intro)
 (repeat (with_reducible refine ob ?_)); refine no_ ?_
 try (refine ev ?_; try exact True.intro)
 simp only [wz] at kl
 (repeat (with_reducible refine ob ?_)); refine clO [1, 2] F62 (kl) ?_ (hfit := by first | exact ⟨qc, trivial⟩ | exact ⟨qc, qc, trivial⟩ | (refine ev2 @qe.eq_1 @xj.eq_1 ?_; try exact True.intro))
 try (refine ev1 @wz.eq_1 ?_; try exact True.intro)
end Go.Proofs.YtkcdbcbpbolgkaaGreatDoor
namespace Go.Proofs.YtkcdbcbpbolgkaaGreatDoor
open Go.Abs
attribute [-go_sem] qfj
noncomputable section
set_option maxRecDepth 100000
set_option linter.defProp false
def d14t := cut Tryz.prog Tryz.f14 news [41, 66, 93] [6, 9, 16] true
@[go_sem] def E14t := ql d14t
def F14t := fnC d14t follows Tryz.func14
end
def qoa (s : Sto) : Sto := if (qn4 s).file.length > 16384 then qil (qn4 s) else qn4 s
def StA (b : Brk) (now : Int) (s : Sto) : St :=
 ⟨[(2, true, .d (.ptr 5 0)), (3, true, .d (.ptr 6 0)), (4, true, .d .nilsl)], [.row (qo b), stoO s 2, mapO s.m, qmO b.q, tmO b.t, .row [.d (.ptr 0 0)], .row [.d (.int .i64 now)]], [0], 1⟩
def qdc (b : Brk) (t : Nat) : List ASlot := [.d (.int .i64 b.roles), .d (.int .i64 b.sess), .d (.ptr 1 0), .d (.map 3), .d (.int .i64 b.m.roles), .d (.sl 4 (b.m.ents.map qn)), .own t 10 (b.p.map xj), .d (.map 4)]
def StB (b : Brk) (now : Int) (s : Sto) : St :=
 ⟨[(2, true, .d (.ptr 5 0)), (3, true, .d (.ptr 6 0)), (5, true, .d (.ptr 7 0)), (6, true, .d (.ptr 9 0))], [.row (qdc { b with p := [] } 1), stoO s 2, mapO s.m, qmO b.q, tmO b.t, .row [.d (.ptr 0 0)], .row [.d (.int .i64 now)], .row [.own 0 10 (b.p.map xj)], .map [] 0, .row [.d (.map 8)]], [0, 1], 1⟩
def q4u (b : Brk) (now : Int) (a : MapM Tk TryM × List OutM) (p : Nat × Nat × Nat) : MapM Tk TryM × List OutM :=
 if (qfs (b.queue ⟨p.1, p.2.1, p.2.2⟩)).2 then qgv b a.1 ⟨⟨p.1, p.2.1, p.2.2⟩, (qfs (b.queue ⟨p.1, p.2.1, p.2.2⟩)).1.seq⟩ now a.2 ⟨p.2.2, (qfs (b.queue ⟨p.1, p.2.1, p.2.2⟩)).1⟩ else a
def accT (b : Brk) (now : Int) (l : List (Nat × Nat × Nat)) : MapM Tk TryM × List OutM := l.foldl (q4u b now) (⟨[], 0⟩, b.p)
def fr0T : Fr := [(2, true, .d (.ptr 5 0)), (3, true, .d (.ptr 6 0)), (5, true, .d (.ptr 7 0)), (6, true, .d (.ptr 9 0))]
def StC (b : Brk) (now : Int) (s : Sto) (l : List (Nat × Nat × Nat)) (k : Nat) : St :=
 ⟨fr0T, [.row (qdc { b with p := [] } 1), stoO s 2, mapO s.m, qmO b.q, tmO b.t, .row [.d (.ptr 0 0)], .row [.d (.int .i64 now)], .row [.own 0 10 ((accT b now (l.take k)).2.map xj)], tmO (accT b now (l.take k)).1, .row [.d (.map 8)], .row [.d (.ptr 0 0)]], [0, 1], 1⟩
def stepO (b : Brk) (now : Int) (a : MapM Tk TryM × List OutM) (x : Pk) : MapM Tk TryM × List OutM := qgv b a.1 ⟨⟨x.sess, x.from_, -1⟩, x.label⟩ now a.2 ⟨x.from_, x⟩
def accO (b : Brk) (now : Int) (a : MapM Tk TryM × List OutM) (l : List Pk) : MapM Tk TryM × List OutM := l.foldl (stepO b now) a
def StD (b : Brk) (now : Int) (s : Sto) (l : List Pk) (a : MapM Tk TryM × List OutM) (i : Nat) : St :=
 ⟨[(2, true, .d (.ptr 5 0)), (3, true, .d (.ptr 6 0)), (5, true, .d (.ptr 7 0)), (6, true, .d (.ptr 9 0)), (71, true, .d (.sl 9 (l.map qe))), (72, true, .d (.int .i64 l.length)), (73, true, .d (.int .i64 (i : Nat)))],
  [.row (qdc { b with p := [] } 1), stoO s 2, mapO s.m, qmO b.q, tmO b.t, .row [.d (.ptr 0 0)], .row [.d (.int .i64 now)], .row [.own 0 10 (a.2.map xj)], tmO a.1, .row [.d (.map 8)]], [0, 1], 1⟩
def qxe (b : Brk) (t it : Nat) : List ASlot := [.d (.int .i64 b.roles), .d (.int .i64 b.sess), .d (.ptr 1 0), .d (.map 3), .d (.int .i64 b.m.roles), .d (.sl 4 (b.m.ents.map qn)), .own t 10 [], .d (.map it)]
def xrc (b : Brk) (now : Int) (n ss : Nat) : List AObj :=
 [.row (qxe b 0 5), stoO (qoa b.s) 2, mapO (qoa b.s).m, qmO b.q, tmO b.t, tmO (accO b now (accT b now (jk n ss)) (xp b.m)).1]
set_option maxRecDepth 10000 in
theorem xn7 (b : Brk) (now : Int) (n ss : Nat) (hn : n ≤ 6) (hss : ss ≤ 32) (br : b.roles = n) (bs : b.sess = ss) (hQ : ∀ k, (b.queue k).Sm) (hT : ∀ t, 0 ≤ (qfi b t).count ∧ (qfi b t).count ≤ 100000)
  (hA : ∀ k, (accT b now ((jk n ss).take k)).2.length ≤ 1000000) (hM : b.m.Sm) (hB : ∀ i, (accO b now (accT b now (jk n ss)) ((xp b.m).take i)).2.length ≤ 1000000) (hL : (xp b.m).length ≤ 1000000) (hs : b.s.m.Good) (hF : b.s.file.length ≤ 100000000) :
  qg Tryz.prog 14 [.d (.ptr 0 0), .d (.int .i64 now)] (brO b) (.own 1 10 ((accO b now (accT b now (jk n ss)) (xp b.m)).2.map xj)) (xrc b now n ss) := by
 have k1 := xms b.s (by omega)
 have k2 := xcq (qn4 b.s) (show b.s.file.length ≤ _ by omega)
 have k3 := q9k (qn4 b.s) hs
 have hm : (qn4 b.s).m = b.s.m := rfl
 rw [hm] at k3
 simp only [stoO, mapO, hm] at k1 k2 k3
 unfold xrc
 refine F14t.go ?_
 try (refine ev6 @brO.eq_1 @qo.eq_1 @stoO.eq_1 @mapO.eq_1 @qmO.eq_1 @tmO.eq_1 ?_; try exact True.intro)
 (repeat (with_reducible refine ob ?_)); refine no_ ?_
 try (refine ev ?_; try exact True.intro)
 (repeat (with_reducible refine ob ?_)); refine clO [1, 2] F61 (k1) ?_ (hfit := by first | exact ⟨qc, trivial⟩ | exact ⟨qc, qc, trivial⟩ | (refine ev2 @qe.eq_1 @xj.eq_1 ?_; try exact True.intro))
 try (refine ev ?_; try exact True.intro)
 (repeat (with_reducible refine ob ?_)); refine clO [1, 2] F62 (k2) ?_ (hfit := by first | exact ⟨qc, trivial⟩ | exact ⟨qc, qc, trivial⟩ | (refine ev2 @qe.eq_1 @xj.eq_1 ?_; try exact True.intro))
 try (refine ev1 @wz.eq_1 ?_; try exact True.intro)
 refine xml (fun x : { x : Sto // x = qoa b.s } => StA b now x.val) ?_ (fun x => ?_)
 ·(repeat (with_reducible refine ob ?_)); refine xn _ (fun h => ?_) (fun h => ?_)
  ·have hx : qoa b.s = qil (qn4 b.s) := by unfold qoa; rw [if_pos (by simp at h; omega)]
   have hy : (qil (qn4 b.s)).m = b.s.m := rfl
   try (refine ev ?_; try exact True.intro)
   (repeat (with_reducible refine ob ?_)); refine clO [1, 2] F63r (k3) ?_ (hfit := by first | exact ⟨qc, trivial⟩ | exact ⟨qc, qc, trivial⟩ | (refine ev2 @qe.eq_1 @xj.eq_1 ?_; try exact True.intro))
   try (refine ev ?_; try exact True.intro)
   refine ⟨⟨_, rfl⟩, ?_⟩
   try (refine ev8 @StA.eq_1 @hx @hy @qo.eq_1 @stoO.eq_1 @mapO.eq_1 @qmO.eq_1 @tmO.eq_1 ?_; try exact True.intro)
  ·have hx : qoa b.s = qn4 b.s := by unfold qoa; rw [if_neg (by simp at h; omega)]
   try (refine ev ?_; try exact True.intro)
   refine ⟨⟨_, rfl⟩, ?_⟩
   try (refine ev8 @StA.eq_1 @hx @hm @qo.eq_1 @stoO.eq_1 @mapO.eq_1 @qmO.eq_1 @tmO.eq_1 ?_; try exact True.intro)
 ·obtain ⟨s, hx⟩ := x
  try (refine ev6 @StA.eq_1 @qo.eq_1 @stoO.eq_1 @mapO.eq_1 @qmO.eq_1 @tmO.eq_1 ?_; try exact True.intro)
  refine pu ?_
  try (refine ev ?_; try exact True.intro)
  refine xbx (st1 := StB b now s) (by try (refine ev6 @StB.eq_1 @qdc.eq_1 @stoO.eq_1 @mapO.eq_1 @qmO.eq_1 @tmO.eq_1 ?_; try exact True.intro)) ?_
  have kp := xj2 { b with s := s, p := [] }
  simp only [brO, qo, stoO, mapO, qmO, tmO, List.map_nil, List.cons_append, List.nil_append] at kp
  try (refine ev7 @StB.eq_1 @qdc.eq_1 @stoO.eq_1 @mapO.eq_1 @qmO.eq_1 @tmO.eq_1 @List.map_nil.{0,0} ?_; try exact True.intro)
  refine clT [0, 1, 2, 3, 4, 10] F64 kp ?_
  try (refine ev ?_; try exact True.intro)
  refine xmi 130 10 0 11 [(n : Nat), (ss : Nat)] ((jk n ss).map q8p) (StC b now s (jk n ss)) fr0T (q8q n ss (by omega) (by omega)) ?_ (fun k => rfl) (fun k => ⟨_, by simp only [StC, qdc, List.getElem?_cons_zero, br, bs]; rfl⟩) (fun k vs hk => ?_) ?_ (fun vs hv => ?_)
  ·try simp only [StC, fr0T, qdc, stoO, mapO, qmO, tmO, accT, List.take_zero, List.foldl_nil, List.map_nil, go_sem, Nat.reduceAdd, Nat.reduceMul, Nat.reduceSub, Nat.reduceEqDiff, Nat.reduceLT, Nat.reduceLeDiff, Nat.reduceBEq, reduceIte, reduceCtorEq, Int.reduceAdd, Int.reduceLT, Int.reduceLE, Int.reduceGT, Int.reduceGE, Int.reduceEq, Int.reduceNe, Int.reduceBEq, Int.reduceBNe, Int.reduceToNat, Int.reduceNeg]
  ·rw [List.getElem?_map, Option.map_eq_some_iff] at hk
   obtain ⟨p, hp, rfl⟩ := hk
   have kq := qw9 (b.q.get ⟨p.1, p.2.1, p.2.2⟩)
   have kf := xci (b.queue ⟨p.1, p.2.1, p.2.2⟩) (hQ _)
   have hstep : accT b now ((jk n ss).take (k + 1)) = q4u b now (accT b now ((jk n ss).take k)) p := by
    have hk : k < (jk n ss).length := (List.getElem?_eq_some_iff.1 hp).1
    have he : (jk n ss)[k] = p := (List.getElem?_eq_some_iff.1 hp).2
    rw [List.take_succ_eq_append_getElem hk, accT, List.foldl_append, he]; rfl
   have hAk := hA k
   have kr := fun x => q1r { b with s := s, p := [] } (accT b now ((jk n ss).take k)).1 p.1 p.2.1 p.2.2 (qfs (b.queue ⟨p.1, p.2.1, p.2.2⟩)).1.seq now (accT b now ((jk n ss).take k)).2 x (hT _) hAk
   simp only [brO, qo, stoO, mapO, qmO, tmO, List.map_nil, List.cons_append, List.nil_append, xj, qe] at kr
   simp only [encQ, qe] at kf
   simp only [encQ] at kq
   unfold StC
   rw [hstep]
   unfold q4u
   generalize accT b now ((jk n ss).take k) = acc at hAk kr ⊢
   try simp only [fr0T, q8p, ji, qdc, stoO, mapO, qmO, tmO, go_sem, Nat.reduceAdd, Nat.reduceMul, Nat.reduceSub, Nat.reduceEqDiff, Nat.reduceLT, Nat.reduceLeDiff, Nat.reduceBEq, reduceIte, reduceCtorEq, Int.reduceAdd, Int.reduceLT, Int.reduceLE, Int.reduceGT, Int.reduceGE, Int.reduceEq, Int.reduceNe, Int.reduceBEq, Int.reduceBNe, Int.reduceToNat, Int.reduceNeg]
   (repeat (with_reducible refine ob ?_)); refine clF F15 (kf) (fun hg => by exact ⟨kq, trivial⟩) ?_
   generalize qfs (b.queue ⟨p.1, p.2.1, p.2.2⟩) = F at kr ⊢
   obtain ⟨x, ok⟩ := F
   simp only at kr ⊢
   try (refine ev ?_; try exact True.intro)
   cases ok
   ·try (refine ev ?_; try exact True.intro)
    (repeat (with_reducible refine ob ?_)); refine no_ ?_
    show Turn 11 _ _
    refine .weak ?_ (.refl _)
    try (refine ev ?_; try exact True.intro)
   ·have kr := kr ⟨p.2.2, x⟩
    have hbr : ∀ tr t now l x, qgv { b with s := s, p := [] } tr t now l x = qgv b tr t now l x := fun _ _ _ _ _ => rfl
    simp only [hbr] at kr
    try (refine ev ?_; try exact True.intro)
    (repeat (with_reducible refine ob ?_)); refine qcb ?_
    try (refine ev ?_; try exact True.intro)
    generalize qgv b acc.1 ⟨⟨p.1, p.2.1, p.2.2⟩, x.seq⟩ now acc.2 ⟨p.2.2, x⟩ = acc2 at kr ⊢
    refine clT [0, 1, 2, 3, 4, 8] F65 kr ?_ (hn := by first | decide | (simp only [xr, vk, go_sem]; decide))
    try (refine ev ?_; try exact True.intro)
    show Turn 11 _ _
    refine .weak ?_ (.refl _)
    try (refine ev ?_; try exact True.intro)
    decide
  ·show AWp _ _ _ _ _
   simp only [StC, List.length_map, List.take_length]
   have ko := qgj b.m hM
   simp only [qu] at ko
   generalize accT b now (jk n ss) = acc at hB ⊢
   generalize xp b.m = O at ko hB hL ⊢
   refine pu ?_
   try (refine ev6 @fr0T.eq_1 @qdc.eq_1 @stoO.eq_1 @mapO.eq_1 @qmO.eq_1 @tmO.eq_1 ?_; try exact True.intro)
   (repeat (with_reducible refine ob ?_)); first | refine cl F18 (ko) ?_ | refine clF F18 (ko) (fun _ => by (refine ev2 @qe.eq_1 @xj.eq_1 ?_; try exact True.intro)) ?_
   try (refine ev1 @List.length_map.{0,0} ?_; try exact True.intro)
   refine qj (fun i : { i : Nat // i ≤ O.length } => StD b now s O (accO b now acc (O.take i.val)) i.val) (fun i => O.length - i.val) ⟨0, Nat.zero_le _⟩ ?_ (fun i => ?_)
   ·try simp only [StD, qdc, stoO, mapO, qmO, tmO, accO, List.take_zero, List.foldl_nil, List.map_nil, Int.ofNat_zero, go_sem, Nat.reduceAdd, Nat.reduceMul, Nat.reduceSub, Nat.reduceEqDiff, Nat.reduceLT, Nat.reduceLeDiff, Nat.reduceBEq, reduceIte, reduceCtorEq, Int.reduceAdd, Int.reduceLT, Int.reduceLE, Int.reduceGT, Int.reduceGE, Int.reduceEq, Int.reduceNe, Int.reduceBEq, Int.reduceBNe, Int.reduceToNat, Int.reduceNeg]
   obtain ⟨i, hi⟩ := i
   have hBi := hB i
   have kr := fun m f n x => q1r { b with s := s, p := [] } (accO b now acc (O.take i)).1 m f (-1) n now (accO b now acc (O.take i)).2 x (hT _) hBi
   have hbr : ∀ tr t now l x, qgv { b with s := s, p := [] } tr t now l x = qgv b tr t now l x := fun _ _ _ _ _ => rfl
   simp only [hbr, brO, qo, stoO, mapO, qmO, tmO, List.map_nil, List.cons_append, List.nil_append, xj, qe] at kr
   generalize ha : accO b now acc (O.take i) = a at hBi kr ⊢
   try (refine ev7 @StD.eq_1 @ha @qdc.eq_1 @stoO.eq_1 @mapO.eq_1 @qmO.eq_1 @tmO.eq_1 ?_; try exact True.intro)
   (repeat (with_reducible refine ob ?_)); refine xn _ (fun h => ?_) (fun h => ?_)
   ·have hil : i < O.length := by simp at h; omega
    have hstep : accO b now acc (O.take (i + 1)) = stepO b now a O[i] := by
     rw [List.take_succ_eq_append_getElem hil, accO, List.foldl_append, ← ha]; rfl
    have kr := kr (O[i]).sess (O[i]).from_ (O[i]).label ⟨(O[i]).from_, O[i]⟩
    (refine ev2 (qi qe O hil) @qe.eq_1 ?_; try exact True.intro)
    unfold stepO at hstep
    generalize qgv b a.1 ⟨⟨(O[i]).sess, (O[i]).from_, -1⟩, (O[i]).label⟩ now a.2 ⟨(O[i]).from_, O[i]⟩ = a2 at kr hstep ⊢
    (repeat (with_reducible refine ob ?_))
    refine clT [0, 1, 2, 3, 4, 8] F65 kr ?_ (hn := by first | decide | (simp only [xr, vk, go_sem]; decide))
    try (refine ev ?_; try exact True.intro)
    refine ⟨⟨i + 1, hil⟩, ?_, by dsimp only; omega⟩
    try (refine ev8 @StD.eq_1 @hstep @qdc.eq_1 @stoO.eq_1 @mapO.eq_1 @qmO.eq_1 @tmO.eq_1 (qf (show i < 9223372036854775807 by omega)) ?_; try exact True.intro)
    decide
   ·have hie : i = O.length := by simp at h; omega
    subst hie
    rw [List.take_length] at ha
    try (refine ev2 @ha hx.symm ?_; try exact True.intro)
    refine qdg [0, 1, 2, 3, 4, 6, 7, 8, 5, 9] [.row (qxe b 1 5), stoO s 2, mapO s.m, qmO b.q, tmO b.t, tmO a.1, .row [.d (.ptr 0 0)], .row [.d (.int .i64 now)], .row [.own 0 10 (a.2.map xj)], .row [.d (.map 5)]] ?_ (by try (refine ev5 @qxe.eq_1 @mapO.eq_1 @stoO.eq_1 @qmO.eq_1 @tmO.eq_1 ?_; try exact True.intro)) (hp := rfl)
    refine pu ?_
    try (refine ev5 @qxe.eq_1 @stoO.eq_1 @mapO.eq_1 @qmO.eq_1 @tmO.eq_1 ?_; try exact True.intro)
  ·obtain ⟨p, _, rfl⟩ := List.mem_map.1 hv
   exact ⟨rfl, rfl⟩
end Go.Proofs.YtkcdbcbpbolgkaaGreatDoor
namespace Go.Proofs.YtkcdbcbpbolgkaaGreatDoor
open Go.Abs
theorem q1s (b : Brk) (tr : MapM Tk TryM) (t : Tk) (now : Int) (l : List OutM) (x : OutM) : (qgv b tr t now l x).2.length ≤ l.length + 1 := by
 unfold qgv
 split <;> simp
theorem qxf {α β : Type} (f : β × List OutM → α → β × List OutM) (h : ∀ a x, (f a x).2.length ≤ a.2.length + 1) : ∀ (l : List α) (a : β × List OutM), (l.foldl f a).2.length ≤ a.2.length + l.length
 | [], a => by simp
 | x :: l, a => by
  have h1 := qxf f h l (f a x)
  have h2 := h a x
  simp only [List.foldl_cons, List.length_cons]
  omega
theorem xj7 (b : Brk) (now : Int) (l : List (Nat × Nat × Nat)) : (accT b now l).2.length ≤ b.p.length + l.length :=
 qxf (q4u b now) (fun a x => by
  unfold q4u
  split
  ·exact q1s _ _ _ _ _ _
  ·omega) l _
theorem xj8 (b : Brk) (now : Int) (a : MapM Tk TryM × List OutM) (l : List Pk) : (accO b now a l).2.length ≤ a.2.length + l.length :=
 qxf (stepO b now) (fun a x => q1s _ _ _ _ _ _) l _
end Go.Proofs.YtkcdbcbpbolgkaaGreatDoor
namespace Go.Proofs.YtkcdbcbpbolgkaaGreatDoor
open Go.Abs
structure NS (n ss : Nat) : Prop where
 n1 : 1 ≤ n
 n6 : n ≤ 6
 s1 : 1 ≤ ss
 s32 : ss ≤ 32
structure BI (n ss k j : Nat) (b : Brk) : Prop where
 ro : b.roles = n
 se : b.sess = ss
 st : b.s.Ok (k + 401)
 ln : b.s.m.l.length ≤ 5 * k
 qv : ∀ x, wy (b.queue x) = true
 qw : ∀ x, (b.queue x).W
 kq : ∀ x, ¬ PrOk n ss x → b.q.get x = none
 qa : ∀ x, ∀ p ∈ (b.queue x).items, p.sess = x.s ∧ p.from_ = x.f ∧ p.to = x.t
 mw : MW b.m
 mr : b.m.roles = n
 ms : ∀ e ∈ b.m.ents, e.sess ≤ ss
 pl : b.p.length ≤ k
 tr : ∀ t, 0 ≤ (qfi b t).count ∧ (qfi b t).count ≤ j
 rq : ∀ x, PrOk n ss x → Rep b.s.m x.name (b.queue x)
 rm : URep b.s.m b.m
theorem q60 {n ss : Nat} (h : NS n ss) : BI n ss 0 0 (vg n ss) := by
 have hq : ∀ x, (vg n ss).queue x = noQ := fun x => rfl
 have ht : ∀ t, qfi (vg n ss) t = ⟨0, 0⟩ := fun t => rfl
 refine ⟨rfl, rfl, q3o _, by simp [vg, newS, qdi], fun x => by rw [hq]; decide, fun x => by rw [hq]; exact qou, fun x _ => rfl, fun x p hp => by rw [hq] at hp; simp [noQ] at hp, ⟨?_, ?_, ?_, ?_⟩, rfl, fun e he => by simp [vg] at he, by simp [vg], fun t => by rw [ht]; simp, fun x _ => by rw [hq]; exact xd0 _, q9s _⟩
 ·have := h.n1; simp only [vg]; omega
 ·have := h.n6; simp only [vg]; omega
 ·simp [vg]
 ·intro x hx; simp [vg] at hx
theorem qb9 (b : Brk) (s' : Sto) (x y : Pr) (q : Qu) : ({ b with s := s', q := b.q.put x q } : Brk).queue y = if y = x then q else b.queue y := by
 unfold Brk.queue
 simp only [MapM.get_put]
 split <;> rfl
section
variable {n ss k j : Nat} {b : Brk}
theorem BI.put (H : BI n ss k j b) {x : Pr} (hx : PrOk n ss x) {q : Qu} (v : wy q = true) (w : q.W) (a : ∀ p ∈ q.items, p.sess = x.s ∧ p.from_ = x.f ∧ p.to = x.t) {s' : Sto} (ok : s'.Ok (k + 1 + 401)) (ln : s'.m.l.length ≤ 5 * (k + 1))
  (rq : ∀ y, PrOk n ss y → Rep s'.m y.name (if y = x then q else b.queue y)) (rm : URep s'.m b.m) : BI n ss (k + 1) j { b with s := s', q := b.q.put x q } := by
 refine ⟨H.ro, H.se, ok, ln, fun y => ?_, fun y => ?_, fun y hy => ?_, fun y p hp => ?_, H.mw, H.mr, H.ms, Nat.le_succ_of_le H.pl, H.tr, fun y hy => ?_, rm⟩
 ·rw [qb9]; split
  ·exact v
  ·exact H.qv y
 ·rw [qb9]; split
  ·exact w
  ·exact H.qw y
 ·simp only [MapM.get_put]
  rw [if_neg (by rintro rfl; exact hy hx)]
  exact H.kq y hy
 ·rw [qb9] at hp
  split at hp
  ·rename_i h; subst h; exact a p hp
  ·exact H.qa y p hp
 ·rw [qb9]; exact rq y hy
theorem BI.change (hn : NS n ss) (H : BI n ss k j b) (hk : k ≤ 70) {x : Pr} (hx : PrOk n ss x) {q : Qu} (v : wy q = true) (w : q.W) (a : ∀ p ∈ q.items, p.sess = x.s ∧ p.from_ = x.f ∧ p.to = x.t) :
  ∃ s' c, y9 b x x.name q = ({ b with s := s', q := b.q.put x q }, 0, c) ∧ BI n ss (k + 1) j { b with s := s', q := b.q.put x q } := by
 have hch : ve (b.queue x) q x.name = (vq (b.queue x) q x.name 4, 0) := by
  unfold ve
  rw [if_neg]
  simp [H.qv x, v, q91]
 have hln := H.ln
 unfold y9
 rw [hch]
 rw [if_neg (by simp)]
 by_cases he : vq (b.queue x) q x.name 4 = []
 ·rw [if_pos he]
  obtain ⟨h1, h2⟩ := q6f he
  refine ⟨b.s, false, rfl, H.put hx v w a (H.st.mono (by omega)) (by omega) (fun y hy => ?_) H.rm⟩
  split
  ·rename_i h; subst h; exact xjd h1 h2 (H.rq y hy)
  ·exact H.rq y hy
 ·rw [if_neg he]
  obtain ⟨c1, c2, c3, c4⟩ := q1q (a := b.queue x) H.st (by omega) (xnk v) w (show x.name.length ≤ 30 by simp [Pr.name, qmy]) he
  rw [if_neg (by simp [c1])]
  refine ⟨_, true, rfl, H.put hx v w a (c2.mono (by omega)) (by simp only; omega) (fun y hy => ?_) (q9t H.rm fun k' hk' => ?_)⟩
  ·split
   ·rename_i h; subst h; exact xjc (H.rq y hy) c4
   ·rename_i h
    exact xdz (xn5 hn.n6 hn.s32 hx hy (fun e => h e.symm)) (H.rq y hy) c4
  ·have hno : ∀ a : List UInt8, x.name ++ a ≠ k' := fun a h => by
    rw [← h, q6z] at hk'; cases hk'
   rw [c4, qii (b.queue x) q x.name k' (hno _) (fun d _ => hno _) _ 4 (Nat.le_refl _)]
theorem BI.manage (H : BI n ss k j b) (hk : k ≤ 70) {m' : Mg} (o : OneStep b.m m') (ms : ∀ e ∈ m'.ents, e.sess ≤ ss) :
  ∃ s', qb7 b m' = ({ b with s := s', m := m' }, 0, true) ∧ BI n ss (k + 1) j { b with s := s', m := m' } := by
 have hch := o.changes H.mw
 obtain ⟨y, hy, h1⟩ := o.one
 have hln := H.ln
 have hen := o.mw.en y hy
 obtain ⟨c1, c2, c3, c4⟩ := q9u H.st (k := uKey y.sess) (v := qes y) (by omega) (by simp [uKey]) (by simp [uKey]) (by have := xev o.mw.r6 hen; omega)
 unfold qb7
 rw [hch, h1]
 rw [if_neg (by simp), if_neg (by simp), if_neg (by simp [c1])]
 refine ⟨_, rfl, H.ro, H.se, c2.mono (by omega), by simp only; omega, H.qv, H.qw, H.kq, H.qa, o.mw, o.roles.trans H.mr, ms, Nat.le_succ_of_le H.pl, H.tr, fun x hx => xj5 (H.rq x hx) fun a _ => ?_, xeu H.mw o.mw o.keep H.rm fun k' => by rw [c4, h1]⟩
 rw [c4, qrw]
 intro o' ho'
 simp only [List.mem_cons, List.not_mem_nil, or_false] at ho'
 subst ho'
 intro h
 have := q6z x a
 rw [← h, xjs] at this
 cases this
end
def Pk.key (p : Pk) : Pr := ⟨p.sess, p.from_, p.to⟩
def qca (k : Int) : Bool := k == 1 || k == 2 || k == 4
def qc2 (b : Brk) (p : Pk) : Bool := qca p.kind && qk p && !decide (p.sess > b.sess) && !decide (p.from_ ≥ b.roles) && !decide (p.to ≥ b.roles)
def zw (b : Brk) (p : Pk) : Brk × Int × Bool :=
 if !qc2 b p then (b, 1, false)
 else if p.kind = 1 then qli b p.key p.key.name p
 else if p.kind = 2 then q1o b p.key p.key.name p.seq
 else qe9 b p
theorem qow {n ss k j : Nat} {b : Brk} (H : BI n ss k j b) {p : Pk} (h : qc2 b p = true) (hk : p.kind = 1 ∨ p.kind = 2) : PrOk n ss p.key := by
 have h1 := H.ro
 have h2 := H.se
 simp only [qc2, Bool.and_eq_true, Bool.not_eq_true', decide_eq_false_iff_not, qk, qez, decide_eq_true_eq] at h
 rcases hk with hk | hk
 ·simp only [hk, if_true, data, qdp, role, Bool.and_eq_true, decide_eq_true_eq, bne_iff_ne, ne_eq] at h
  exact ⟨by simp only [Pk.key]; omega, by simp only [Pk.key]; omega, by simp only [Pk.key]; omega, by simp only [Pk.key]; omega, by simp only [Pk.key]; omega, by simp only [Pk.key]; omega, by simp only [Pk.key]; omega⟩
 ·have e : ¬ ((2 : Int) = 1) := by decide
  simp only [hk, e, if_false, ack, qdp, role, Bool.and_eq_true, decide_eq_true_eq, bne_iff_ne, ne_eq, if_true] at h
  exact ⟨by simp only [Pk.key]; omega, by simp only [Pk.key]; omega, by simp only [Pk.key]; omega, by simp only [Pk.key]; omega, by simp only [Pk.key]; omega, by simp only [Pk.key]; omega, by simp only [Pk.key]; omega⟩
theorem xe8 {p : Pk} (hk : p.kind = 4) (hv : qk p = true) : p = k9 p.sess p.from_ p.label ∧ (p.label = 1 ∨ p.label = 2) := by
 have e1 : ¬ ((4 : Int) = 1) := by decide
 have e2 : ¬ ((4 : Int) = 2) := by decide
 simp only [qk, qez, hk, e1, e2, if_false, order, bare, Bool.and_eq_true, Bool.or_eq_true, decide_eq_true_eq, beq_iff_eq] at hv
 obtain ⟨_, ⟨⟨⟨_, hl⟩, ⟨⟨h1, h2⟩, h3⟩⟩, h4⟩, h5⟩ := hv
 refine ⟨?_, hl⟩
 have v0 : p.values = [] := List.eq_nil_of_length_eq_zero (by omega)
 have c0 : p.clock = [] := List.eq_nil_of_length_eq_zero (by omega)
 obtain ⟨a1, a2, a3, a4, a5, a6, a7, a8, a9⟩ := p
 simp only at hk h1 h4 h5 v0 c0
 subst hk; subst h1; subst h4; subst h5; subst v0; subst c0
 rfl
section
variable {n ss k j : Nat} {b : Brk}
theorem BI.ack (H : BI n ss k j b) (hb : b.p.length + 1 ≤ k) (p : Pk) : BI n ss k j (qfa b p) :=
 ⟨H.ro, H.se, H.st, H.ln, H.qv, H.qw, H.kq, H.qa, H.mw, H.mr, H.ms, by simp only [qfa, List.length_append, List.length_cons, List.length_nil]; exact hb, H.tr, H.rq, H.rm⟩
theorem BI.mono (H : BI n ss k j b) {k' j' : Nat} (h1 : k ≤ k') (h2 : j ≤ j') : BI n ss k' j' b :=
 ⟨H.ro, H.se, H.st.mono (by omega), by have := H.ln; omega, H.qv, H.qw, H.kq, H.qa, H.mw, H.mr, H.ms, by have := H.pl; omega, fun t => by have := H.tr t; omega, H.rq, H.rm⟩
inductive Rcv (n ss k j : Nat) (b : Brk) (p : Pk) : Brk × Int × Bool → Prop
 | no (e : Int) (he : e ≠ 0) (hd : p.kind = 1 → e ≠ 21) : Rcv n ss k j b p (b, e, false)
 | dup (hk : p.kind = 1) (hx : PrOk n ss p.key) (ho : (zb (b.queue p.key) p).2 = 21) (hv : qk p = true) (H : BI n ss (k + 1) j (qfa b p)) : Rcv n ss k j b p (qfa b p, 21, false)
 | data (s' : Sto) (c : Bool) (hk : p.kind = 1) (hx : PrOk n ss p.key) (ho : (zb (b.queue p.key) p).2 = 0) (hv : qk p = true) (H : BI n ss (k + 1) j { b with s := s', q := b.q.put p.key (zb (b.queue p.key) p).1, p := b.p ++ [⟨p.from_, (qjt p).1⟩] }) :
   Rcv n ss k j b p ({ b with s := s', q := b.q.put p.key (zb (b.queue p.key) p).1, p := b.p ++ [⟨p.from_, (qjt p).1⟩] }, 0, c)
 | ack (s' : Sto) (c : Bool) (hk : p.kind = 2) (hx : PrOk n ss p.key) (ho : (xt (b.queue p.key) p.seq).2 = 0) (H : BI n ss (k + 1) j { b with s := s', q := b.q.put p.key (xt (b.queue p.key) p.seq).1 }) :
   Rcv n ss k j b p ({ b with s := s', q := b.q.put p.key (xt (b.queue p.key) p.seq).1 }, 0, c)
 | rep (s' : Sto) (hk : p.kind = 4) (ho : (xk b.m p).2 = 0) (H : BI n ss (k + 1) j { b with s := s', m := (xk b.m p).1 }) : Rcv n ss k j b p ({ b with s := s', m := (xk b.m p).1 }, 0, true)
theorem q4v (H : BI n ss k j b) {p : Pk} (h : (zb (b.queue p.key) p).2 = 0) : ∀ x ∈ (zb (b.queue p.key) p).1.items, x.sess = p.key.s ∧ x.from_ = p.key.f ∧ x.to = p.key.t := by
 rw [(qh0 h).2.2.2.2.2]
 intro x hx
 rcases List.mem_append.1 hx with hx | hx
 ·exact H.qa _ x hx
 ·simp only [List.mem_cons, List.not_mem_nil, or_false] at hx
  subst hx; exact ⟨rfl, rfl, rfl⟩
theorem qxg (H : BI n ss k j b) {x : Pr} {s : Int} : ∀ p ∈ (xt (b.queue x) s).1.items, p.sess = x.s ∧ p.from_ = x.f ∧ p.to = x.t := by
 by_cases h : (xt (b.queue x) s).2 = 0
 ·rw [(qgu h).2.2.2]
  exact fun p hp => H.qa x p (List.mem_of_mem_drop hp)
 ·rw [qur h]
  intro p hp; simp [jb] at hp
theorem xe9 {m : Mg} {s r label : Int} {ss : Nat} (hm : MW m) (hl : label = 1 ∨ label = 2) (h : (xk m (k9 s r label)).2 = 0) (ms : ∀ e ∈ m.ents, e.sess ≤ ss) (h1 : 1 ≤ s) (h32 : s ≤ 32) (h0 : 0 ≤ r) (hr : r < m.roles) : ∀ e ∈ (xk m (k9 s r label)).1.ents, e.sess ≤ ss := by
 rcases qe7 m s r label hm h1 h32 h0 hr hl with e | ⟨k, hk, hks, _, hb, _, e, he, hw⟩
 ·exact absurd h e
 ·rw [e]
  intro x hx
  rcases List.mem_or_eq_of_mem_set hx with h | h
  ·exact ms x h
  ·subst h
   rw [qgq]
   exact ms _ (List.getElem_mem hk)
theorem qd6 (hn : NS n ss) (H : BI n ss k j b) (hk70 : k ≤ 70) (p : Pk) (hw : p.W) : Rcv n ss k j b p (zw b p) := by
 have hpl := H.pl
 unfold zw
 by_cases hok : qc2 b p = true
 ·rw [if_neg (by simp [hok])]
  have hv : qk p = true := by
   simp only [qc2, Bool.and_eq_true] at hok; exact hok.1.1.1.2
  by_cases k1 : p.kind = 1
  ·rw [if_pos k1]
   have hx := qow H hok (.inl k1)
   unfold qli qbc
   by_cases ho : (zb (b.queue p.key) p).2 = 0
   ·rw [if_pos ho]
    obtain ⟨s', c, e, H'⟩ := H.change hn hk70 hx (qgt _ p) (q4s (H.qw _) hw) (q4v H ho)
    rw [e, if_pos (.inl rfl)]
    exact .data s' c k1 hx ho hv (H'.ack (by simp only; omega) p)
   ·rw [if_neg ho]
    by_cases h21 : (zb (b.queue p.key) p).2 = 21
    ·rw [if_pos (.inr h21), h21]
     exact .dup k1 hx h21 hv ((H.mono (Nat.le_succ k) (Nat.le_refl j)).ack (by omega) p)
    ·rw [if_neg (by simp only [not_or]; exact ⟨ho, h21⟩)]
     exact .no _ ho (fun _ => h21)
  ·rw [if_neg k1]
   by_cases k2 : p.kind = 2
   ·rw [if_pos k2]
    have hx := qow H hok (.inr k2)
    unfold q1o
    by_cases ho : (xt (b.queue p.key) p.seq).2 = 0
    ·rw [if_neg (by simp [ho])]
     obtain ⟨s', c, e, H'⟩ := H.change hn hk70 hx (qgs _ p.seq) (q1p (H.qw _)) (qxg H)
     rw [e]
     exact .ack s' c k2 hx ho H'
    ·rw [if_pos ho]
     exact .no _ ho (fun h => absurd h k1)
   ·rw [if_neg k2]
    have k4 : p.kind = 4 := by
     simp only [qc2, qca, Bool.and_eq_true, Bool.or_eq_true, beq_iff_eq] at hok
     rcases hok.1.1.1.1 with (h | h) | h
     ·exact absurd h k1
     ·exact absurd h k2
     ·exact h
    unfold qe9
    by_cases ho : (xk b.m p).2 = 0
    ·rw [if_neg (by simp [ho])]
     obtain ⟨hp, hl⟩ := xe8 k4 hv
     have hon : OneStep b.m (xk b.m p).1 := by
      have := qun (s := p.sess) (r := p.from_) (label := p.label) H.mw hl (by rw [← hp]; exact ho)
      rwa [← hp] at this
     have hms : ∀ e ∈ (xk b.m p).1.ents, e.sess ≤ ss := by
      have hg : (!zd b.m || p.kind != 4 || !qk p || decide (p.from_ ≥ b.m.roles)) = false := by
       cases hgg : (!zd b.m || p.kind != 4 || !qk p || decide (p.from_ ≥ b.m.roles)) with
       | false => rfl
       | true => unfold xk at ho; rw [if_pos hgg] at ho; cases ho
      obtain ⟨_, _, _, g4, g5⟩ := xns hg
      have hs : 1 ≤ p.sess ∧ p.sess ≤ 32 := by
       simp only [qk, qez, Bool.and_eq_true, decide_eq_true_eq] at hv
       omega
      have := xe9 (s := p.sess) (r := p.from_) (label := p.label) (ss := ss) H.mw hl (by rw [← hp]; exact ho) H.ms hs.1 hs.2 g5 g4
      rwa [← hp] at this
     obtain ⟨s', e, H'⟩ := H.manage hk70 hon hms
     rw [e]
     exact .rep s' k4 ho H'
    ·rw [if_pos ho]
     exact .no _ ho (fun h => absurd h k1)
 ·rw [if_pos (by simpa using hok)]
  exact .no 1 (by decide) (fun _ => by decide)
theorem BI.recv (hn : NS n ss) (H : BI n ss k j b) (hk70 : k ≤ 70) (p : Pk) (hw : p.W) : BI n ss (k + 1) j (zw b p).1 := by
 have := qd6 hn H hk70 p hw
 generalize zw b p = R at this
 cases this with
 | no e _ _ => exact H.mono (Nat.le_succ k) (Nat.le_refl j)
 | dup _ _ _ _ H' => exact H'
 | data _ _ _ _ _ _ H' => exact H'
 | ack _ _ _ _ _ H' => exact H'
 | rep _ _ _ H' => exact H'
theorem xj9 {m : Mg} {s : Int} {ss : Nat} (hm : MW m) (h : (zt m s).2 = 0) (ms : ∀ e ∈ m.ents, e.sess ≤ ss) (h1 : 1 ≤ s) (h32 : s ≤ 32) (hs : s ≤ ss) : ∀ e ∈ (zt m s).1.ents, e.sess ≤ ss := by
 rcases qru m s hm h1 h32 with ⟨_, e⟩ | ⟨hf, a, c, he, e, hw⟩
 ·rw [e] at h; cases h
 ·rw [e]
  intro x hx
  rw [he] at ms
  simp only [List.mem_append, List.mem_singleton] at hx ms
  rcases hx with (hx | hx) | hx
  ·exact ms x (.inl hx)
  ·subst hx; exact hs
  ·exact ms x (.inr hx)
theorem qxh (hn : NS n ss) (H : BI n ss k j b) (hk70 : k ≤ 70) (s : Int) : (∃ e, e ≠ 0 ∧ qb8 b s = (b, e, false)) ∨ ∃ s', (zt b.m s).2 = 0 ∧ 1 ≤ s ∧ s ≤ ss ∧ qb8 b s = ({ b with s := s', m := (zt b.m s).1 }, 0, true) ∧ BI n ss (k + 1) j { b with s := s', m := (zt b.m s).1 } := by
 unfold qb8
 by_cases h1 : (decide (s < 1) || decide (s > b.sess)) = true
 ·rw [if_pos h1]; exact .inl ⟨2, by decide, rfl⟩
 ·rw [if_neg h1]
  have hse := H.se
  have h32 := hn.s32
  simp only [Bool.or_eq_true, decide_eq_true_eq, not_or] at h1
  by_cases ho : (zt b.m s).2 = 0
  ·rw [if_neg (by simp [ho])]
   obtain ⟨s', e, H'⟩ := H.manage hk70 (q1l H.mw ho) (xj9 H.mw ho H.ms (by omega) (by omega) (by omega))
   exact .inr ⟨s', ho, by omega, by omega, e, H'⟩
  ·rw [if_pos ho]; exact .inl ⟨_, ho, rfl⟩
theorem BI.begin (hn : NS n ss) (H : BI n ss k j b) (hk70 : k ≤ 70) (s : Int) : BI n ss (k + 1) j (qb8 b s).1 := by
 rcases qxh hn H hk70 s with ⟨e, _, h⟩ | ⟨s', _, _, _, h, H'⟩
 ·rw [h]; exact H.mono (Nat.le_succ k) (Nat.le_refl j)
 ·rw [h]; exact H'
end
end Go.Proofs.YtkcdbcbpbolgkaaGreatDoor
namespace Go.Proofs.YtkcdbcbpbolgkaaGreatDoor
open Go.Abs
theorem xka {m : Cont} (h : m.Good) : (qwv (jl m)).length ≤ 401 * 70000 := by
 have hel : (jl m).length ≤ 400 := by rw [qk2]; exact h.few
 have h0 := (xed (jl m) (xee h) (jl m).length (Nat.le_refl _)).file
 have h1 : qwv (jl m) = qce (cAt (jl m) (jl m).length).1 (cAt (jl m) (jl m).length).2 := by rw [qwv, cAt, List.take_length]
 have h2 := qmq (cAt (jl m) (jl m).length).1 (cAt (jl m) (jl m).length).2
 have h3 := Nat.mul_le_mul_right 70000 hel
 rw [h1]; omega
theorem qxi (s : Sto) : (qoa s).m = s.m := by unfold qoa; split <;> rfl
theorem xkb {s : Sto} {k : Nat} (h : s.Ok (k + 401)) : (qoa s).Ok (k + 401) := by
 refine ⟨by rw [qxi]; exact h.good, ?_⟩
 unfold qoa
 split
 ·have := xka h.good
  exact Nat.le_trans this (Nat.mul_le_mul_right _ (by omega))
 ·exact h.file
theorem qf4 {α β : Type} (f : α → List β) (c : Nat) : ∀ (l : List α), (∀ x ∈ l, (f x).length ≤ c) → (l.flatMap f).length ≤ l.length * c
 | [], _ => by simp
 | x :: l, h => by
  have h1 := h x List.mem_cons_self
  have h2 := qf4 f c l fun y hy => h y (List.mem_cons_of_mem _ hy)
  rw [List.flatMap_cons, List.length_append, List.length_cons, Nat.add_mul]
  omega
theorem q93 (n ss : Nat) : (jk n ss).length ≤ ss * (n * n) := by
 unfold jk in3
 have h1 : ∀ s f, (in1 n s f 0).length ≤ n := fun s f => by
  unfold in1
  have := qf4 (fun t => if f = t then [] else [(s, f, t)]) 1 (List.range' 0 (n - 0)) (fun x _ => by split <;> simp)
  simpa using this
 have h2 : ∀ s, (in2 n s 0).length ≤ n * n := fun s => by
  unfold in2
  have := qf4 (fun f => in1 n s f 0) n (List.range' 0 (n - 0)) (fun x _ => h1 s x)
  simpa using this
 have := qf4 (fun s => in2 n s 0) (n * n) (List.range' 1 (ss + 1 - 1)) (fun x _ => h2 x)
 simpa using this
theorem q94 {m : Mg} (h : MW m) : (xp m).length ≤ 200 := by
 unfold xp
 split
 ·have hl : m.ents.length ≤ 32 := by
   have := qnu h.inc (by intro x hx; obtain ⟨e, he, rfl⟩ := List.mem_map.1 hx; exact (h.en e he).s1) (by intro x hx; obtain ⟨e, he, rfl⟩ := List.mem_map.1 hx; exact (h.en e he).s32)
   rwa [List.length_map] at this
  have h6 := h.r6
  have hx : ∀ i ∈ List.range m.ents.length, (qwf (m.ents.getD i default)).length ≤ 6 := fun i hi => by
   have hi' : i < m.ents.length := by simpa using hi
   rw [x9 hi']
   have hen := h.en _ (List.getElem_mem hi')
   have h1 := qhr m.ents[i].sess (ym m.ents[i]) (x7 m.ents[i]) (x7 m.ents[i]).length
   have h2 : (x7 m.ents[i]).length ≤ 6 := by
    have := hen.ml; have := hen.ol
    unfold x7; split <;> omega
   unfold qwf; omega
  have := qf4 (fun i => qwf (m.ents.getD i default)) 6 (List.range m.ents.length) hx
  unfold yn
  simp only [List.length_range] at this
  omega
 ·simp
section
variable {n ss k j : Nat} {b : Brk}
def qfb (b : Brk) (now : Int) (n ss : Nat) : Brk := { b with s := qoa b.s, p := [], t := (accO b now (accT b now (jk n ss)) (xp b.m)).1 }
def qr2 (b : Brk) (now : Int) (n ss : Nat) : List OutM := (accO b now (accT b now (jk n ss)) (xp b.m)).2
def TrOk (j : Nat) (tr : MapM Tk TryM) : Prop := ∀ t, 0 ≤ ((tr.get t).getD ⟨0, 0⟩).count ∧ ((tr.get t).getD ⟨0, 0⟩).count ≤ j
theorem q61 {tr : MapM Tk TryM} (hb : ∀ t, 0 ≤ (qfi b t).count ∧ (qfi b t).count ≤ j) (h : TrOk (j + 1) tr) (t : Tk) (now : Int) (l : List OutM) (x : OutM) : TrOk (j + 1) (qgv b tr t now l x).1 := by
 have hbt := hb t
 intro u
 unfold qgv
 split
 ·simp only [MapM.get_put]
  split
  ·simp only [Option.getD_some, q4t]; omega
  ·exact h u
 ·simp only [MapM.get_put]
  split
  ·simp only [Option.getD_some]; omega
  ·exact h u
theorem qmz {α β : Type} (P : β → Prop) (f : β → α → β) (h : ∀ a x, P a → P (f a x)) : ∀ (l : List α) (a : β), P a → P (l.foldl f a)
 | [], _, ha => ha
 | x :: l, a, ha => qmz P f h l (f a x) (h a x ha)
theorem xrd (hb : ∀ t, 0 ≤ (qfi b t).count ∧ (qfi b t).count ≤ j) (now : Int) (l : List (Nat × Nat × Nat)) (o : List Pk) : TrOk (j + 1) (accO b now (accT b now l) o).1 := by
 unfold accO
 refine qmz (fun a : MapM Tk TryM × List OutM => TrOk (j + 1) a.1) _ (fun a x ha => q61 hb ha _ _ _ _) o _ ?_
 unfold accT
 refine qmz (fun a : MapM Tk TryM × List OutM => TrOk (j + 1) a.1) _ (fun a x ha => ?_) l _ (fun t => by simp [MapM.get]; omega)
 unfold q4u
 split
 ·exact q61 hb ha _ _ _ _
 ·exact ha
theorem BI.tick (H : BI n ss k j b) (now : Int) : BI n ss k (j + 1) (qfb b now n ss) :=
 ⟨H.ro, H.se, xkb H.st, by simp only [qfb, qxi]; exact H.ln, H.qv, H.qw, H.kq, H.qa, H.mw, H.mr, H.ms, Nat.zero_le _, xrd H.tr now _ _, fun x hx => by simp only [qfb, qxi]; exact H.rq x hx, by simp only [qfb, qxi]; exact H.rm⟩
theorem BI.qsm (H : BI n ss k j b) (x : Pr) : (b.queue x).Sm := qxd (H.qv x)
end
end Go.Proofs.YtkcdbcbpbolgkaaGreatDoor
namespace Go.Proofs.YtkcdbcbpbolgkaaGreatDoor
open Go.Abs
attribute [-go_sem] qfj
def QrB (b : Brk) (p : Pk) : SExit → St → Prop := q2n 5 [.tmp 4] [.d (.int .i64 (zw b p).2.1)] (afB b (zw b p).1 (zw b p).2.2)
theorem xn8 {k : Int} (h : qca k = false) : qr1 k = (.nilfunc, false) := by
 simp only [qca, Bool.or_eq_false_iff, beq_eq_false_iff_ne] at h
 unfold qr1
 rw [if_neg h.1.1, if_neg h.1.2, if_neg h.2]
theorem qiq {b : Brk} {p : Pk} (h : qca p.kind = true) : (!qc2 b p) = (!qk p || decide (p.sess > b.sess) || decide (p.from_ ≥ b.roles) || decide (p.to ≥ b.roles)) := by
 unfold qc2
 rw [h]
 generalize qk p = A
 generalize decide (p.sess > b.sess) = B
 generalize decide (p.from_ ≥ b.roles) = C
 generalize decide (p.to ≥ b.roles) = E
 cases A <;> cases B <;> cases C <;> cases E <;> rfl
set_option maxRecDepth 10000 in
theorem xfb (b : Brk) (p : Pk) (R : Brk × Int × Bool) (hk : p.kind = 1) (hp : p.Sm) (hRd : R = qli b p.key p.key.name p)
  (kd : qc2 b p = true → qg Tryz.prog 71 [.d (.ptr 0 0), .d (.agg (qe p))] (brO b) (.d (.int .i64 R.2.1)) (afB b R.1 R.2.2)) : AWp Tryz.prog 5 qr0 (QrB b p) (SrY b p) := by
 have hR : zw b p = if !qc2 b p then (b, 1, false) else R := by unfold zw; rw [if_pos hk, hRd]
 have hpk : qr1 p.kind = (.func (.func 71) [.ptr 0 0] [], true) := by rw [hk]; rfl
 have kv := zo p hp.v hp.c
 have hrk : qca p.kind = true := by rw [hk]; rfl
 unfold QrB qr0
 rw [hR, qiq hrk]
 simp only [SrY, hpk]
 simp only [qe] at kv
 try (refine ev7 @brO.eq_1 @qo.eq_1 @stoO.eq_1 @mapO.eq_1 @qmO.eq_1 @tmO.eq_1 @qe.eq_1 ?_; try exact True.intro)
 (repeat (with_reducible refine ob ?_)); first | refine cl F70 (kv) ?_ | refine clF F70 (kv) (fun _ => by (refine ev3 @qe.eq_1 @xj.eq_1 @qp.eq_1 ?_; try exact True.intro)) ?_
 try (refine ev ?_; try exact True.intro)
 (repeat (with_reducible refine ob ?_))
 refine xn _ (fun h => ?_) (fun h => ?_)
 ·rw [if_pos h]
  try (refine ev ?_; try exact True.intro)
  refine pu ?_
  try simp only [afB, qo, stoO, mapO, qmO, tmO, go_sem, Nat.reduceAdd, Nat.reduceMul, Nat.reduceSub, Nat.reduceEqDiff, Nat.reduceLT, Nat.reduceLeDiff, Nat.reduceBEq, reduceIte, reduceCtorEq, Int.reduceAdd, Int.reduceLT, Int.reduceLE, Int.reduceGT, Int.reduceGE, Int.reduceEq, Int.reduceNe, Int.reduceBEq, Int.reduceBNe, Int.reduceToNat, Int.reduceNeg]
 rw [if_neg (by rw [h]; exact Bool.false_ne_true)]
 have kd := kd (by have e := qiq (b := b) hrk; rw [h] at e; simpa using e)
 simp only [brO, qo, stoO, mapO, qmO, tmO, qe] at kd
 clear hR hRd
 obtain ⟨b1, e1, c⟩ := R
 simp only [afB, qo, stoO, mapO, qmO, tmO] at kd ⊢
 try (refine ev ?_; try exact True.intro)
 cases c
 ·refine clT [0, 1, 2, 3, 4, 6] F71d kd ?_
  try (refine ev ?_; try exact True.intro)
  refine pu ?_
  try simp only [afB, qo, stoO, mapO, qmO, tmO, go_sem, Nat.reduceAdd, Nat.reduceMul, Nat.reduceSub, Nat.reduceEqDiff, Nat.reduceLT, Nat.reduceLeDiff, Nat.reduceBEq, reduceIte, reduceCtorEq, Int.reduceAdd, Int.reduceLT, Int.reduceLE, Int.reduceGT, Int.reduceGE, Int.reduceEq, Int.reduceNe, Int.reduceBEq, Int.reduceBNe, Int.reduceToNat, Int.reduceNeg]
 ·refine clT [0, 1, 2, 3, 4, 6] F71d kd ?_
  try (refine ev ?_; try exact True.intro)
  refine qdg [0, 1, 2, 3, 4, 6, 5] [.row (ze b1 592), stoO b1.s 5, mapO b.s.m, qmO b1.q, tmO b1.t, mapO b1.s.m, .row ((qe p).map .d)] ?_ (by try (refine ev6 @ze.eq_1 @mapO.eq_1 @stoO.eq_1 @qmO.eq_1 @tmO.eq_1 @qe.eq_1 ?_; try exact True.intro)) (hp := rfl)
  refine pu ?_
  try simp only [afB, qo, ze, stoO, mapO, qmO, tmO, go_sem, Nat.reduceAdd, Nat.reduceMul, Nat.reduceSub, Nat.reduceEqDiff, Nat.reduceLT, Nat.reduceLeDiff, Nat.reduceBEq, reduceIte, reduceCtorEq, Int.reduceAdd, Int.reduceLT, Int.reduceLE, Int.reduceGT, Int.reduceGE, Int.reduceEq, Int.reduceNe, Int.reduceBEq, Int.reduceBNe, Int.reduceToNat, Int.reduceNeg]
set_option maxRecDepth 10000 in
theorem xkc (b : Brk) (p : Pk) (R : Brk × Int × Bool) (hk : p.kind = 2) (hp : p.Sm) (hRd : R = q1o b p.key p.key.name p.seq)
  (kd : qc2 b p = true → qg Tryz.prog 72 [.d (.ptr 0 0), .d (.agg (qe p))] (brO b) (.d (.int .i64 R.2.1)) (afB b R.1 R.2.2)) : AWp Tryz.prog 5 qr0 (QrB b p) (SrY b p) := by
 have hk1 : ¬ p.kind = 1 := by omega
 have hR : zw b p = if !qc2 b p then (b, 1, false) else R := by unfold zw; rw [if_neg hk1, if_pos hk, hRd]
 have hpk : qr1 p.kind = (.func (.func 72) [.ptr 0 0] [], true) := by rw [hk]; rfl
 have kv := zo p hp.v hp.c
 have hrk : qca p.kind = true := by rw [hk]; rfl
 unfold QrB qr0
 rw [hR, qiq hrk]
 simp only [SrY, hpk]
 simp only [qe] at kv
 try (refine ev7 @brO.eq_1 @qo.eq_1 @stoO.eq_1 @mapO.eq_1 @qmO.eq_1 @tmO.eq_1 @qe.eq_1 ?_; try exact True.intro)
 (repeat (with_reducible refine ob ?_)); first | refine cl F70 (kv) ?_ | refine clF F70 (kv) (fun _ => by (refine ev3 @qe.eq_1 @xj.eq_1 @qp.eq_1 ?_; try exact True.intro)) ?_
 try (refine ev ?_; try exact True.intro)
 (repeat (with_reducible refine ob ?_))
 refine xn _ (fun h => ?_) (fun h => ?_)
 ·rw [if_pos h]
  try (refine ev ?_; try exact True.intro)
  refine pu ?_
  try simp only [afB, qo, stoO, mapO, qmO, tmO, go_sem, Nat.reduceAdd, Nat.reduceMul, Nat.reduceSub, Nat.reduceEqDiff, Nat.reduceLT, Nat.reduceLeDiff, Nat.reduceBEq, reduceIte, reduceCtorEq, Int.reduceAdd, Int.reduceLT, Int.reduceLE, Int.reduceGT, Int.reduceGE, Int.reduceEq, Int.reduceNe, Int.reduceBEq, Int.reduceBNe, Int.reduceToNat, Int.reduceNeg]
 rw [if_neg (by rw [h]; exact Bool.false_ne_true)]
 have kd := kd (by have e := qiq (b := b) hrk; rw [h] at e; simpa using e)
 simp only [brO, qo, stoO, mapO, qmO, tmO, qe] at kd
 clear hR hRd
 obtain ⟨b1, e1, c⟩ := R
 simp only [afB, qo, stoO, mapO, qmO, tmO] at kd ⊢
 try (refine ev ?_; try exact True.intro)
 cases c
 ·refine clT [0, 1, 2, 3, 4, 6] F72d kd ?_
  try (refine ev ?_; try exact True.intro)
  refine pu ?_
  try simp only [afB, qo, stoO, mapO, qmO, tmO, go_sem, Nat.reduceAdd, Nat.reduceMul, Nat.reduceSub, Nat.reduceEqDiff, Nat.reduceLT, Nat.reduceLeDiff, Nat.reduceBEq, reduceIte, reduceCtorEq, Int.reduceAdd, Int.reduceLT, Int.reduceLE, Int.reduceGT, Int.reduceGE, Int.reduceEq, Int.reduceNe, Int.reduceBEq, Int.reduceBNe, Int.reduceToNat, Int.reduceNeg]
 ·refine clT [0, 1, 2, 3, 4, 6] F72d kd ?_
  try (refine ev ?_; try exact True.intro)
  refine qdg [0, 1, 2, 3, 4, 6, 5] [.row (ze b1 592), stoO b1.s 5, mapO b.s.m, qmO b1.q, tmO b1.t, mapO b1.s.m, .row ((qe p).map .d)] ?_ (by try (refine ev6 @ze.eq_1 @mapO.eq_1 @stoO.eq_1 @qmO.eq_1 @tmO.eq_1 @qe.eq_1 ?_; try exact True.intro)) (hp := rfl)
  refine pu ?_
  try simp only [afB, qo, ze, stoO, mapO, qmO, tmO, go_sem, Nat.reduceAdd, Nat.reduceMul, Nat.reduceSub, Nat.reduceEqDiff, Nat.reduceLT, Nat.reduceLeDiff, Nat.reduceBEq, reduceIte, reduceCtorEq, Int.reduceAdd, Int.reduceLT, Int.reduceLE, Int.reduceGT, Int.reduceGE, Int.reduceEq, Int.reduceNe, Int.reduceBEq, Int.reduceBNe, Int.reduceToNat, Int.reduceNeg]
set_option maxRecDepth 10000 in
theorem xkd (b : Brk) (p : Pk) (R : Brk × Int × Bool) (hk : p.kind = 4) (hp : p.Sm) (hRd : R = qe9 b p)
  (kd : qc2 b p = true → qg Tryz.prog 73 [.d (.ptr 0 0), .d (.agg (qe p))] (brO b) (.d (.int .i64 R.2.1)) (afB b R.1 R.2.2)) : AWp Tryz.prog 5 qr0 (QrB b p) (SrY b p) := by
 have hk1 : ¬ p.kind = 1 := by omega
 have hk2 : ¬ p.kind = 2 := by omega
 have hR : zw b p = if !qc2 b p then (b, 1, false) else R := by unfold zw; rw [if_neg hk1, if_neg hk2, hRd]
 have hpk : qr1 p.kind = (.func (.func 73) [.ptr 0 0] [], true) := by rw [hk]; rfl
 have kv := zo p hp.v hp.c
 have hrk : qca p.kind = true := by rw [hk]; rfl
 unfold QrB qr0
 rw [hR, qiq hrk]
 simp only [SrY, hpk]
 simp only [qe] at kv
 try (refine ev7 @brO.eq_1 @qo.eq_1 @stoO.eq_1 @mapO.eq_1 @qmO.eq_1 @tmO.eq_1 @qe.eq_1 ?_; try exact True.intro)
 (repeat (with_reducible refine ob ?_)); first | refine cl F70 (kv) ?_ | refine clF F70 (kv) (fun _ => by (refine ev3 @qe.eq_1 @xj.eq_1 @qp.eq_1 ?_; try exact True.intro)) ?_
 try (refine ev ?_; try exact True.intro)
 (repeat (with_reducible refine ob ?_))
 refine xn _ (fun h => ?_) (fun h => ?_)
 ·rw [if_pos h]
  try (refine ev ?_; try exact True.intro)
  refine pu ?_
  try simp only [afB, qo, stoO, mapO, qmO, tmO, go_sem, Nat.reduceAdd, Nat.reduceMul, Nat.reduceSub, Nat.reduceEqDiff, Nat.reduceLT, Nat.reduceLeDiff, Nat.reduceBEq, reduceIte, reduceCtorEq, Int.reduceAdd, Int.reduceLT, Int.reduceLE, Int.reduceGT, Int.reduceGE, Int.reduceEq, Int.reduceNe, Int.reduceBEq, Int.reduceBNe, Int.reduceToNat, Int.reduceNeg]
 rw [if_neg (by rw [h]; exact Bool.false_ne_true)]
 have kd := kd (by have e := qiq (b := b) hrk; rw [h] at e; simpa using e)
 simp only [brO, qo, stoO, mapO, qmO, tmO, qe] at kd
 clear hR hRd
 obtain ⟨b1, e1, c⟩ := R
 simp only [afB, qo, stoO, mapO, qmO, tmO] at kd ⊢
 try (refine ev ?_; try exact True.intro)
 cases c
 ·refine clT [0, 1, 2, 3, 4, 6] F73d kd ?_
  try (refine ev ?_; try exact True.intro)
  refine pu ?_
  try simp only [afB, qo, stoO, mapO, qmO, tmO, go_sem, Nat.reduceAdd, Nat.reduceMul, Nat.reduceSub, Nat.reduceEqDiff, Nat.reduceLT, Nat.reduceLeDiff, Nat.reduceBEq, reduceIte, reduceCtorEq, Int.reduceAdd, Int.reduceLT, Int.reduceLE, Int.reduceGT, Int.reduceGE, Int.reduceEq, Int.reduceNe, Int.reduceBEq, Int.reduceBNe, Int.reduceToNat, Int.reduceNeg]
 ·refine clT [0, 1, 2, 3, 4, 6] F73d kd ?_
  try (refine ev ?_; try exact True.intro)
  refine qdg [0, 1, 2, 3, 4, 6, 5] [.row (ze b1 592), stoO b1.s 5, mapO b.s.m, qmO b1.q, tmO b1.t, mapO b1.s.m, .row ((qe p).map .d)] ?_ (by try (refine ev6 @ze.eq_1 @mapO.eq_1 @stoO.eq_1 @qmO.eq_1 @tmO.eq_1 @qe.eq_1 ?_; try exact True.intro)) (hp := rfl)
  refine pu ?_
  try simp only [afB, qo, ze, stoO, mapO, qmO, tmO, go_sem, Nat.reduceAdd, Nat.reduceMul, Nat.reduceSub, Nat.reduceEqDiff, Nat.reduceLT, Nat.reduceLeDiff, Nat.reduceBEq, reduceIte, reduceCtorEq, Int.reduceAdd, Int.reduceLT, Int.reduceLE, Int.reduceGT, Int.reduceGE, Int.reduceEq, Int.reduceNe, Int.reduceBEq, Int.reduceBNe, Int.reduceToNat, Int.reduceNeg]
set_option maxRecDepth 10000 in
theorem xn9 (b : Brk) (p : Pk) (hk : qca p.kind = false) : AWp Tryz.prog 5 qr0 (QrB b p) (SrY b p) := by
 have hR : zw b p = (b, 1, false) := by
  unfold zw qc2
  rw [hk]; rfl
 unfold QrB qr0
 rw [hR]
 simp only [SrY, xn8 hk]
 try (refine ev7 @brO.eq_1 @qo.eq_1 @stoO.eq_1 @mapO.eq_1 @qmO.eq_1 @tmO.eq_1 @qe.eq_1 ?_; try exact True.intro)
 (repeat (with_reducible refine ob ?_)); refine qg3 ?_
 try (refine ev ?_; try exact True.intro)
 (repeat (with_reducible refine ob ?_)); refine qcb ?_
 try (refine ev ?_; try exact True.intro)
 refine pu ?_
 try simp only [afB, qo, stoO, mapO, qmO, tmO, go_sem, Nat.reduceAdd, Nat.reduceMul, Nat.reduceSub, Nat.reduceEqDiff, Nat.reduceLT, Nat.reduceLeDiff, Nat.reduceBEq, reduceIte, reduceCtorEq, Int.reduceAdd, Int.reduceLT, Int.reduceLE, Int.reduceGT, Int.reduceGE, Int.reduceEq, Int.reduceNe, Int.reduceBEq, Int.reduceBNe, Int.reduceToNat, Int.reduceNeg]
theorem xfc {n ss k j : Nat} {b : Brk} (hn : NS n ss) (H : BI n ss k j b) (hk70 : k ≤ 70) (p : Pk) (hp : p.Sm) (hw : p.W) : AWp Tryz.prog 5 qr0 (QrB b p) (SrY b p) := by
 by_cases hok : qca p.kind = true
 ·have hF : b.s.file.length ≤ 100000000 := by
   have h1 := H.st.file
   exact Nat.le_trans h1 (Nat.le_trans (Nat.mul_le_mul_right 70000 (show k + 401 ≤ 471 by omega)) (by decide))
  have hP : b.p.length ≤ 1000000 := by have := H.pl; omega
  have hl : ∀ (a q : Qu) (nm : List UInt8), (ve a q nm).1.length ≤ 100000 := fun a q nm => by
   unfold ve
   split
   ·simp
   ·have := qfx a q nm 4
    simp only; omega
  have nat : ∀ {x : Int}, 0 ≤ x → ∃ m : Nat, x = (m : Int) := fun h => ⟨_, (Int.toNat_of_nonneg h).symm⟩
  have h6 := hn.n6
  have h32 := hn.s32
  by_cases k1 : p.kind = 1
  ·refine xfb b p _ k1 hp rfl fun hr => ?_
   have hx := qow H hr (.inl k1)
   obtain ⟨s, hs⟩ := nat (show 0 ≤ p.sess by have := hx.s1; simp only [Pk.key] at this; omega)
   obtain ⟨f, hf⟩ := nat (show 0 ≤ p.from_ by have := hx.f0; simp only [Pk.key] at this; omega)
   obtain ⟨t, ht⟩ := nat (show 0 ≤ p.to by have := hx.t0; simp only [Pk.key] at this; omega)
   have e : p.key = ⟨(s : Int), (f : Int), (t : Int)⟩ := by simp only [Pk.key, hs, hf, ht]
   have b1 := hx.s2
   have b2 := hx.f1
   have b3 := hx.t1
   simp only [e] at b1 b2 b3
   have := xe3 b p s f t (by omega) (by omega) (by omega) hs hf ht hp (H.qsm _) (H.qw _) (qxd (qgt _ _)) (q4s (H.qw _) hw) hF hP (hl _ _ _)
   have hnm : p.key.name = jq s f t := by rw [e]; rfl
   rw [hnm, e]; exact this
  by_cases k2 : p.kind = 2
  ·refine xkc b p _ k2 hp rfl fun hr => ?_
   have hx := qow H hr (.inr k2)
   obtain ⟨s, hs⟩ := nat (show 0 ≤ p.sess by have := hx.s1; simp only [Pk.key] at this; omega)
   obtain ⟨f, hf⟩ := nat (show 0 ≤ p.from_ by have := hx.f0; simp only [Pk.key] at this; omega)
   obtain ⟨t, ht⟩ := nat (show 0 ≤ p.to by have := hx.t0; simp only [Pk.key] at this; omega)
   have e : p.key = ⟨(s : Int), (f : Int), (t : Int)⟩ := by simp only [Pk.key, hs, hf, ht]
   have b1 := hx.s2
   have b2 := hx.f1
   have b3 := hx.t1
   simp only [e] at b1 b2 b3
   have := xj3 b p s f t (by omega) (by omega) (by omega) hs hf ht (H.qsm _) (H.qw _) (qxd (qgs _ p.seq)) (q1p (H.qw _)) hF (hl _ _ _)
   have hnm : p.key.name = jq s f t := by rw [e]; rfl
   rw [hnm, e]; exact this
  ·have k4 : p.kind = 4 := by
    simp only [qca, Bool.or_eq_true, beq_iff_eq] at hok
    rcases hok with (h | h) | h
    ·exact absurd h k1
    ·exact absurd h k2
    ·exact h
   refine xkd b p _ k4 hp rfl fun hr => ?_
   have hv : qk p = true := by simp only [qc2, Bool.and_eq_true] at hr; exact hr.1.1.1.2
   obtain ⟨hpe, hlb⟩ := xe8 k4 hv
   by_cases ho : (xk b.m p).2 = 0
   ·have hon : OneStep b.m (xk b.m p).1 := by
     have := qun (s := p.sess) (r := p.from_) (label := p.label) H.mw hlb (by rw [← hpe]; exact ho)
     rwa [← hpe] at this
    refine qrz b p hp H.mw.sm hon.mw.sm hF ?_
    obtain ⟨y, _, h1⟩ := hon.one
    rw [hon.changes H.mw, h1]; simp
   ·have h0 : (xk b.m p).1 = ⟨0, []⟩ := by
     revert ho
     unfold xk
     split
     ·intro _; rfl
     split
     ·intro _; rfl
     split
     ·intro _; rfl
     split
     ·intro _; rfl
     ·intro h; exact absurd rfl h
    refine qrz b p hp H.mw.sm (by rw [h0]; exact ⟨by simp, by simp⟩) hF ?_
    rw [h0]
    unfold zu
    split
    ·simp
    split
    ·simp
    ·simp [qrv]
 ·exact xn9 b p (by simpa using hok)
theorem qlk {n ss k j : Nat} {b : Brk} (hn : NS n ss) (H : BI n ss k j b) (hk70 : k ≤ 70) (p : Pk) (hp : p.Sm) (hw : p.W) :
  qg Tryz.prog 21 [.d (.ptr 0 0), .d (.agg (qe p))] (brO b) (.d (.int .i64 (zw b p).2.1)) (afB b (zw b p).1 (zw b p).2.2) := by
 refine qvw (rs := [.d (.int .i64 (zw b p).2.1)]) (c := q4o) (rv := Tryz.f21.results.toList) (rvs := [.tmp 4]) Tryz.func21 (by kernel_rfl) (by simp) (by kernel_rfl) (Nat.le_of_ble_eq_true (by kernel_rfl)) rfl ?_ ?_
 ·intro t ht
  have : ltB 16 (vt [ASlot.d (.ptr 0 0), .d (.agg (qe p))] ++ xg (brO b)) = true := by simp only [brO, qo, stoO, mapO, qmO, tmO, go_sem]; rfl
  exact of_decide_eq_true (List.all_eq_true.1 this t ht)
 ·intro g w vs hvl hd hs h0
  refine q9z b p _ g w vs hvl hd hs fun g1 w1 a1 hs1 hG1 hdf => ?_
  exact qys (k0 := 5) (mu := [61]) (N := 62) (news := news) follows h0 rfl xe4 qr0 (QrB b p) _ (SrY b p) g1 w1 a1 q9x (xfc hn H hk70 p hp hw) hs1 hG1 (by rw [hdf]; exact ⟨by simp, by simp⟩) fun e st' g' w' a' hq hs' hG' hM' => ⟨e, st', g', rfl, hq, hs', hG', hM'⟩
end Go.Proofs.YtkcdbcbpbolgkaaGreatDoor
namespace Go.Proofs.YtkcdbcbpbolgkaaGreatDoor
open Go.Abs
noncomputable section
set_option maxRecDepth 100000
set_option linter.defProp false
def d12 := cut Tryz.prog Tryz.f12 news
@[go_sem] def E12 := ql d12
def F12 := fnC d12 follows Tryz.func12
def d37 := cut Tryz.prog Tryz.f37 news
@[go_sem] def E37 := ql d37
def F37 := fnC d37 follows Tryz.func37
def d60 := cut Tryz.prog Tryz.f60 news
@[go_sem] def E60 := ql d60
def F60 := fnC d60 follows Tryz.func60
end
structure Bst where
 kind : Int
 p : Pk
 n : Int
 deriving DecidableEq, Inhabited
def qaa (x : Bst) : List D := [.int .i64 x.kind, .int .i64 x.p.kind, .int .i64 x.p.sess, .int .i64 x.p.epoch, .int .i64 x.p.from_, .int .i64 x.p.to, .int .i64 x.p.seq, .int .i64 x.p.label, .sl 3 (x.p.values.map xq), .sl 1 (x.p.clock.map encI), .int .i64 x.n]
theorem qnx (x : Bst) : D.noPtrL (qaa x) = true := by (refine ev1 @qaa.eq_1 ?_; try exact True.intro)
theorem qus : ∀ l : List Bst, D.noPtrR (l.map qaa) = true
 | [] => rfl
 | o :: l => by simp only [List.map_cons, D.noPtrR, qnx, qus l, Bool.and_self]
attribute [go_sem] qnx qus
def qut (x : Bst) : Bool := !(!qma x.p || decide (x.n < 0) || decide (x.n > 1000))
def fewB (l : List Bst) : Bool := l.all qut && decide ((l.length : Int) ≤ 40)
def xke (l : List Bst) (i : { i : Nat // (l.take i).all qut = true }) : St :=
 ⟨[(0, true, .d (.sl 11 (l.map qaa))), (3, true, .d (.int .i64 (i.val : Nat)))], [], [], 1⟩
set_option maxRecDepth 10000 in
theorem xoa (l : List Bst) (hl : l.length ≤ maxLen) (hx : ∀ x ∈ l, x.p.values.length ≤ maxLen) : qg Tryz.prog 12 [.d (.sl 11 (l.map qaa))] [] (.d (.bool (fewB l))) [] := by
 unfold maxLen at hl
 refine F12.go ?_
 try (refine ev ?_; try exact True.intro)
 refine qj (xke l) (fun i => l.length - i.val) ⟨0, rfl⟩ ?_ (fun i => ?_)
 ·try (refine ev2 @xke.eq_1 @Int.ofNat_zero ?_; try exact True.intro)
 obtain ⟨i, hi⟩ := i
 try (refine ev1 @xke.eq_1 ?_; try exact True.intro)
 (repeat (with_reducible refine ob ?_)); refine xn _ (fun h => ?_) (fun h => ?_)
 ·have hil : i < l.length := by simpa using h
  have kf := q53 l[i].p (hx _ (List.getElem_mem hil))
  simp only [qe] at kf
  (refine ev2 (qi qaa l hil) @qaa.eq_1 ?_; try exact True.intro)
  (repeat (with_reducible refine ob ?_))
  (repeat (with_reducible refine ob ?_)); first | refine cl F36 (kf) ?_ | refine clF F36 (kf) (fun _ => by (refine ev2 @qe.eq_1 @encQ.eq_1 ?_; try exact True.intro)) ?_
  try simp only [qi qaa l hil, qaa, go_sem, Nat.reduceAdd, Nat.reduceMul, Nat.reduceSub, Nat.reduceEqDiff, Nat.reduceLT, Nat.reduceLeDiff, Nat.reduceBEq, reduceIte, reduceCtorEq, Int.reduceAdd, Int.reduceLT, Int.reduceLE, Int.reduceGT, Int.reduceGE, Int.reduceEq, Int.reduceNe, Int.reduceBEq, Int.reduceBNe, Int.reduceToNat, Int.reduceNeg]
  (repeat (with_reducible refine ob ?_))
  refine xn _ (fun h2 => ?_) (fun h2 => ?_)
  ·have hb : fewB l = false := by
    unfold fewB
    rw [qqx hil (by simp only [qut, h2, Bool.not_true])]; rfl
   try (refine ev1 @hb ?_; try exact True.intro)
  ·try (refine ev ?_; try exact True.intro)
   refine ⟨⟨i + 1, ?_⟩, ?_, by dsimp only; omega⟩
   ·rw [List.take_succ_eq_append_getElem hil, List.all_append, hi]
    simp only [List.all_cons, List.all_nil, qut, h2, Bool.not_false, Bool.and_self]
   ·try (refine ev2 @xke.eq_1 (qf (show i < 9223372036854775807 by omega)) ?_; try exact True.intro)
 ·have hil : l.length ≤ i := by simpa using h
  have hall : l.all qut = true := by rwa [List.take_of_length_le hil] at hi
  have hb : fewB l = decide ((l.length : Int) ≤ 40) := by unfold fewB; rw [hall]; rfl
  try (refine ev1 @hb ?_; try exact True.intro)
def qdd (a : Nat) : Nat := 1 + a % 4
theorem quu (a c : Nat) (ha : a < 256) (hc : c < 256) : qg Tryz.prog 37 [.d (.agg [.int .u8 (a : Nat), .int .u8 (c : Nat)])] [] (.tup [.d (.int .i64 (qdd a : Nat)), .d (.int .i64 (qdd c : Nat))]) [] := by
 have w1 : ∀ a : Nat, a < 256 → IntKind.i64.wrap (1 + (IntKind.i64.wrap (a : Int)).tmod 4) = ((qdd a : Nat) : Int) := fun a ha => by
  rw [wrap_i64 (n := (a : Int)) (by omega) (by omega), Int.tmod_eq_emod_of_nonneg (by omega), wrap_i64 (by omega) (by omega)]
  unfold qdd; omega
 have wa := w1 a ha
 have wc := w1 c hc
 refine F37.goT ?_
 try (refine ev2 @wa @wc ?_; try exact True.intro)
def wd (s : Int) : Pk := ⟨1, 1, 0, 0, 1, s, s % 40, [], [s, 0]⟩
theorem q1t : qg Tryz.prog 60 [.d (.int .i64 1)] [] (.d (.agg (qe (wd 1)))) [] := by
 refine F60.go ?_
 try (refine ev5 @qe.eq_1 @wd.eq_1 @encI.eq_1 @List.map_cons.{0,0} @List.map_nil.{0,0} ?_; try exact True.intro)
 try decide
end Go.Proofs.YtkcdbcbpbolgkaaGreatDoor
namespace Go.Proofs.YtkcdbcbpbolgkaaGreatDoor
open Go.Abs
def qgw (b : Brk) (it : Nat) : List ASlot := [.d (.int .i64 b.roles), .d (.int .i64 b.sess), .d (.ptr 1 0), .d (.map 3), .d (.int .i64 b.m.roles), .d (.sl 4 (b.m.ents.map qn)), .own 0 10 (b.p.map xj), .d (.map it)]
def tkO (b b' : Brk) : List AObj := [.row (qgw b' 5), stoO b'.s 2, mapO b'.s.m, qmO b'.q, tmO b.t, tmO b'.t]
theorem qxj {n ss k j : Nat} {b : Brk} (hn : NS n ss) (H : BI n ss k j b) (hk : k ≤ 70) (hj : j ≤ 1000) (now : Int) :
  qg Tryz.prog 14 [.d (.ptr 0 0), .d (.int .i64 now)] (brO b) (.own 1 10 ((qr2 b now n ss).map xj)) (tkO b (qfb b now n ss)) := by
 have hpl := H.pl
 have h6 := hn.n6
 have h32 := hn.s32
 have hp := q93 n ss
 have hq : ss * (n * n) ≤ 32 * (6 * 6) := Nat.mul_le_mul h32 (Nat.mul_le_mul h6 h6)
 have ho := q94 H.mw
 have hT : ∀ l, (accT b now l).2.length ≤ b.p.length + l.length := xj7 b now
 refine xn7 b now n ss h6 h32 H.ro H.se H.qsm (fun t => ⟨(H.tr t).1, by have := (H.tr t).2; omega⟩) (fun i => ?_) H.mw.sm (fun i => ?_) (by omega) H.st.good ?_
 ·have := hT ((jk n ss).take i)
  have := List.length_take_le i (jk n ss)
  have : ((jk n ss).take i).length ≤ (jk n ss).length := List.length_take_le' _ _
  omega
 ·have h1 := xj8 b now (accT b now (jk n ss)) ((xp b.m).take i)
  have h2 := hT (jk n ss)
  have h3 : ((xp b.m).take i).length ≤ (xp b.m).length := List.length_take_le' _ _
  omega
 ·have h1 := H.st.file
  exact Nat.le_trans h1 (Nat.le_trans (Nat.mul_le_mul_right 70000 (show k + 401 ≤ 471 by omega)) (by decide))
theorem qxk {b : Brk} {m : Pk} (h1 : qfs (b.queue ⟨1, 0, 1⟩) = (m, true)) (hs : m.seq = 1) (h2 : (qfs (b.queue ⟨1, 1, 0⟩)).2 = false) (h3 : xp b.m = []) (now : Int) :
  accO b now (accT b now (jk 2 1)) (xp b.m) = qgv b ⟨[], 0⟩ ⟨⟨1, 0, 1⟩, 1⟩ now b.p ⟨1, m⟩ := by
 have hp : jk 2 1 = [(1, 0, 1), (1, 1, 0)] := by decide
 have e3 : ((1 : Nat) : Int) = 1 := rfl
 have e0 : ((0 : Nat) : Int) = 0 := rfl
 rw [h3, hp]
 simp only [accO, List.foldl_nil, accT, List.foldl_cons, q4u, e3, e0, h1, h2, hs, if_true, Bool.false_eq_true, if_false]
def awB (s' : Sto) : Brk := { vg 2 1 with s := s', q := (vg 2 1).q.put ⟨1, 0, 1⟩ ⟨1, 0, [wd 1]⟩, p := [⟨0, qxa (wd 1)⟩] }
theorem xkf : NS 2 1 := ⟨by decide, by decide, by decide, by decide⟩
theorem xob : (wd 1).W := by
 refine ⟨fun x hx => ?_, fun x hx => by simp [wd] at hx, fun x hx => ?_⟩
 ·simp [k7, wd] at hx
  unfold I64; omega
 ·simp [wd] at hx
  unfold I64; omega
theorem xfd : (wd 1).Sm := ⟨by simp [wd], by simp [wd]⟩
theorem q95 : ∃ s' c, zw (vg 2 1) (wd 1) = (awB s', 0, c) ∧ BI 2 1 1 0 (awB s') := by
 have hr := qd6 xkf (q60 xkf) (by decide) (wd 1) xob
 have hok : qc2 (vg 2 1) (wd 1) = true := by decide
 have ho : (zb noQ (wd 1)) = (⟨1, 0, [wd 1]⟩, 0) := by decide
 have ha : qjt (wd 1) = (qxa (wd 1), 0) := by decide
 have hx : PrOk 2 1 (wd 1).key := ⟨by decide, by decide, by decide, by decide, by decide, by decide, by decide⟩
 have hq : (vg 2 1).queue (wd 1).key = noQ := rfl
 have H0 : BI 2 1 0 0 (vg 2 1) := q60 xkf
 obtain ⟨s', c, e, H'⟩ := H0.change xkf (by decide) hx (qgt noQ (wd 1)) (q4s qou xob) (fun p hp => by rw [ho] at hp; simp at hp; subst hp; exact ⟨rfl, rfl, rfl⟩)
 refine ⟨s', c, ?_, ?_⟩
 ·have h0 : qbc (vg 2 1) (wd 1).key (wd 1).key.name (wd 1) = ({ vg 2 1 with s := s', q := (vg 2 1).q.put (wd 1).key (zb noQ (wd 1)).1 }, 0, c) := by
   unfold qbc
   rw [hq, if_pos (by rw [ho])]
   exact e
  unfold zw qli
  rw [if_neg (by simp [hok]), if_pos (show (wd 1).kind = 1 from rfl), h0, if_pos (.inl rfl)]
  simp only [qfa, ha, ho]
  rfl
 ·have := (H'.ack (b := { vg 2 1 with s := s', q := (vg 2 1).q.put (wd 1).key (zb noQ (wd 1)).1 }) (by simp [vg]) (wd 1))
  simp only [qfa, ha, ho] at this
  exact this
theorem awq (s' : Sto) (x : Pr) : (awB s').queue x = if x = ⟨1, 0, 1⟩ then ⟨1, 0, [wd 1]⟩ else noQ := qb9 (vg 2 1) s' ⟨1, 0, 1⟩ x _
def aw1 (s' : Sto) : Brk := qfb (awB s') 0 2 1
def aw2 (s' : Sto) : Brk := qfb (aw1 s') 7 2 1
theorem qxl (s' : Sto) : qfs ((awB s').queue ⟨1, 0, 1⟩) = (wd 1, true) := by rw [awq, if_pos rfl]; rfl
theorem q4w (s' : Sto) : (qfs ((awB s').queue ⟨1, 1, 0⟩)).2 = false := by rw [awq, if_neg (by decide)]; rfl
theorem xfe : xp (vg 2 1).m = [] := by decide
theorem xre (s' : Sto) : accO (awB s') 0 (accT (awB s') 0 (jk 2 1)) (xp (awB s').m) = (⟨[(0, ⟨⟨1, 0, 1⟩, 1⟩, ⟨1, 8⟩)], 1⟩, [⟨0, qxa (wd 1)⟩, ⟨1, wd 1⟩]) := by
 rw [qxk (qxl s') rfl (q4w s') xfe]
 rfl
theorem xst (s' : Sto) : (aw1 s').t = ⟨[(0, ⟨⟨1, 0, 1⟩, 1⟩, ⟨1, 8⟩)], 1⟩ := congrArg Prod.fst (xre s')
theorem xrf (s' : Sto) : accO (aw1 s') 7 (accT (aw1 s') 7 (jk 2 1)) (xp (aw1 s').m) = (⟨[(0, ⟨⟨1, 0, 1⟩, 1⟩, ⟨1, 8⟩)], 1⟩, []) := by
 rw [qxk (b := aw1 s') (qxl s') rfl (q4w s') xfe]
 unfold qgv xj6 qfi
 rw [xst]
 rfl
theorem xsu (s' : Sto) : (aw2 s').t = ⟨[(0, ⟨⟨1, 0, 1⟩, 1⟩, ⟨1, 8⟩)], 1⟩ := congrArg Prod.fst (xrf s')
theorem xsv (s' : Sto) : (accO (aw2 s') 8 (accT (aw2 s') 8 (jk 2 1)) (xp (aw2 s').m)).2 = [⟨1, wd 1⟩] := by
 rw [qxk (b := aw2 s') (qxl s') rfl (q4w s') xfe]
 unfold qgv xj6 qfi
 rw [xsu]
 rfl
end Go.Proofs.YtkcdbcbpbolgkaaGreatDoor
