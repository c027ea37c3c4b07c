/- Texts Yh, Ci, Cj, Vr, Vb, Vp, Yk, Vd, Ve, Vf, Vg, Vh, Zb, Zc, Zd, Ze, Zg, Zj, Zk, Zl, Zm, Ws. -/
import Derived.Test.YtkcdbcbpbolgkaaGreatDoorMoo
set_option linter.unusedSimpArgs false
set_option linter.unusedVariables false
namespace Go.Proofs.YtkcdbcbpbolgkaaGreatDoor
open Go.Abs
theorem toNat_ofNat {n : Nat} (h : n < 256) : (UInt8.ofNat n).toNat = n := by simp [UInt8.toNat_ofNat]; omega
end Go.Proofs.YtkcdbcbpbolgkaaGreatDoor
namespace Go.Proofs.YtkcdbcbpbolgkaaGreatDoor
open Go.Abs
noncomputable section
set_option maxRecDepth 100000
set_option linter.defProp false
def d205 := cut Tryz.prog Tryz.f205 news
@[go_sem] def E205 := ql d205
def d199 := cut Tryz.prog Tryz.f199 news
@[go_sem] def E199 := ql d199
def d49 := cut Tryz.prog Tryz.f49 news
@[go_sem] def E49 := ql d49
end
end Go.Proofs.YtkcdbcbpbolgkaaGreatDoor
namespace Go.Proofs.YtkcdbcbpbolgkaaGreatDoor
open Go.Abs
noncomputable section
set_option maxRecDepth 100000
set_option linter.defProp false
def d50 := cut Tryz.prog Tryz.f50 news
@[go_sem] def E50 := ql d50
end
end Go.Proofs.YtkcdbcbpbolgkaaGreatDoor
namespace Go.Proofs.YtkcdbcbpbolgkaaGreatDoor
open Go.Abs
structure QW0 (q : Qu) : Prop where
 lo : 0 ≤ q.cons
 le : q.cons ≤ q.acc
 hi : q.acc ≤ 1099511627776
 len : (q.items.length : Int) = q.acc - q.cons
 few : q.items.length ≤ 4
 item : ∀ (i : Nat) (h : i < q.items.length), qb0 q.items[i] = true ∧ qir q.items[i] (q.items[0]'(by omega)) = true ∧ q.items[i].seq = q.cons + 1 + i
theorem xk6 {c : Int} {i : Nat} (h1 : 0 ≤ c) (h2 : c ≤ 1099511627776) (h3 : i ≤ 4) : IntKind.i64.wrap (IntKind.i64.wrap (c + 1) + (i : Int)) = c + 1 + i := by
 rw [wrap_i64 (n := c + 1) (by omega) (by omega), wrap_i64 (by omega) (by omega)]
theorem q0j {q : Qu} {i : Nat} (h1 : 0 ≤ q.cons) (h2 : q.cons ≤ 1099511627776) (h3 : q.items.length ≤ 4) (hi : i < q.items.length) :
  qql q i = true ↔ qb0 q.items[i] = true ∧ qir q.items[i] (q.items[0]'(by omega)) = true ∧ q.items[i].seq = q.cons + 1 + i := by
 have h0 : 0 < q.items.length := by omega
 simp only [qql, x9 hi, x9 h0, Bool.and_eq_true, beq_iff_eq, xk6 h1 h2 (show i ≤ 4 by omega), and_assoc]
theorem qbj (q : Qu) : wy q = true ↔ QW0 q := by
 simp only [wy, Bool.and_eq_true, decide_eq_true_eq, beq_iff_eq, za]
 constructor
 ·rintro ⟨h, ⟨⟨⟨h1, h2⟩, h3⟩, h4⟩, h5⟩
  rw [wrap_i64 (by omega) (by omega)] at h4
  exact ⟨h1, h2, h3, h4, by omega, fun i hi => (q0j h1 (by omega) (by omega) hi).1 (h i hi)⟩
 ·rintro ⟨h1, h2, h3, h4, h5, h6⟩
  rw [wrap_i64 (by omega) (by omega)]
  exact ⟨fun i hi => (q0j h1 (by omega) h5 hi).2 (h6 i hi), ⟨⟨⟨h1, h2⟩, h3⟩, h4⟩, by omega⟩
end Go.Proofs.YtkcdbcbpbolgkaaGreatDoor
namespace Go.Proofs.YtkcdbcbpbolgkaaGreatDoor
open Go.Abs
noncomputable section
set_option maxRecDepth 100000
set_option linter.defProp false
def d301 := cut Tryz.prog Tryz.f301 news
@[go_sem] def E301 := ql d301
def d304 := cut Tryz.prog Tryz.f304 news
@[go_sem] def E304 := ql d304
def d300 := cut Tryz.prog Tryz.f300 news
@[go_sem] def E300 := ql d300
def d303 := cut Tryz.prog Tryz.f303 news
@[go_sem] def E303 := ql d303
def d299 := cut Tryz.prog Tryz.f299 news
@[go_sem] def E299 := ql d299
def d302 := cut Tryz.prog Tryz.f302 news
@[go_sem] def E302 := ql d302
def d298 := cut Tryz.prog Tryz.f298 news
@[go_sem] def E298 := ql d298
def d254 := cut Tryz.prog Tryz.f254 news
@[go_sem] def E254 := ql d254
def d253 := cut Tryz.prog Tryz.f253 news
@[go_sem] def E253 := ql d253
end
end Go.Proofs.YtkcdbcbpbolgkaaGreatDoor
namespace Go.Proofs.YtkcdbcbpbolgkaaGreatDoor
open Go.Abs
end Go.Proofs.YtkcdbcbpbolgkaaGreatDoor
namespace Go.Proofs.YtkcdbcbpbolgkaaGreatDoor
open Go.Abs
end Go.Proofs.YtkcdbcbpbolgkaaGreatDoor
namespace Go.Proofs.YtkcdbcbpbolgkaaGreatDoor
open Go.Abs
noncomputable section
set_option maxRecDepth 100000
set_option linter.defProp false
def d252 := cut Tryz.prog Tryz.f252 news
@[go_sem] def E252 := ql d252
def d187 := cut Tryz.prog Tryz.f187 news
@[go_sem] def E187 := ql d187
end
end Go.Proofs.YtkcdbcbpbolgkaaGreatDoor
namespace Go.Proofs.YtkcdbcbpbolgkaaGreatDoor
open Go.Abs
noncomputable section
set_option maxRecDepth 100000
set_option linter.defProp false
def xqq := cut Tryz.prog Tryz.f106 news [] [8]
@[go_sem] def xto := ql xqq
end
end Go.Proofs.YtkcdbcbpbolgkaaGreatDoor
namespace Go.Proofs.YtkcdbcbpbolgkaaGreatDoor
open Go.Abs
theorem qcq {n : Int} (h0 : 0 ≤ n) (h1 : n ≤ 1099511627776) : (wInt n).length ≤ 6 :=
 ql3 5 _ (by
  unfold zz; rw [if_pos h0]; have : (128 : Nat) ^ (5 + 1) = 4398046511104 := by decide
  omega)
theorem qrc {p : Pk} (h : qk p = true) : (∀ x ∈ k7 p, 0 ≤ x ∧ x ≤ 1099511627776) ∧ (∀ v ∈ p.values, qa4 v = true) ∧ ∀ x ∈ p.clock, 0 ≤ x ∧ x ≤ 1099511627776 := by
 unfold qk qez at h
 simp only [Bool.and_eq_true, decide_eq_true_eq] at h
 obtain ⟨⟨⟨⟨k1, k2⟩, k3⟩, k4⟩, h⟩ := h
 have hd : (∀ x ∈ [p.epoch, p.from_, p.to, p.seq, p.label], 0 ≤ x ∧ x ≤ 1099511627776) → ∀ x ∈ k7 p, 0 ≤ x ∧ x ≤ 1099511627776 := by
  intro h x hx
  simp only [k7, List.mem_cons] at hx
  rcases hx with rfl | rfl | hx
  ·omega
  ·omega
  ·exact h x (by simpa using hx)
 have bareC : bare p = true → p.epoch = 0 ∧ (∀ v ∈ p.values, qa4 v = true) ∧ ∀ x ∈ p.clock, 0 ≤ x ∧ x ≤ 1099511627776 := by
  intro hb
  simp only [bare, Bool.and_eq_true, beq_iff_eq] at hb
  have h1 : p.values = [] := List.eq_nil_of_length_eq_zero (by omega)
  have h2 : p.clock = [] := List.eq_nil_of_length_eq_zero (by omega)
  rw [h1, h2]
  exact ⟨hb.1.1, fun v hv => (by cases hv), fun v hv => (by cases hv)⟩
 split at h
 ·simp only [data, qdp, role, Bool.and_eq_true, Bool.or_eq_true, decide_eq_true_eq, beq_iff_eq, Bool.not_eq_true', List.any_eq_false, Bool.or_eq_false_iff, decide_eq_false_iff_not, Bool.not_eq_false', not_or, Bool.not_eq_true] at h
  refine ⟨hd fun x hx => ?_, fun v hv => ?_, fun x hx => ?_⟩
  ·simp only [List.mem_cons, List.not_mem_nil, or_false] at hx
   rcases hx with rfl | rfl | rfl | rfl | rfl <;> omega
  ·have := h.1.2 v hv; simpa using this
  ·have := h.2 x hx; omega
 ·split at h
  ·simp only [ack, qdp, role, Bool.and_eq_true, decide_eq_true_eq, beq_iff_eq] at h
   obtain ⟨b1, b2, b3⟩ := bareC h.1.2
   refine ⟨hd fun x hx => ?_, b2, b3⟩
   simp only [List.mem_cons, List.not_mem_nil, or_false] at hx
   rcases hx with rfl | rfl | rfl | rfl | rfl <;> omega
  ·simp only [order, role, Bool.and_eq_true, Bool.or_eq_true, decide_eq_true_eq, beq_iff_eq] at h
   obtain ⟨b1, b2, b3⟩ := bareC h.1.1.2
   refine ⟨hd fun x hx => ?_, b2, b3⟩
   simp only [List.mem_cons, List.not_mem_nil, or_false] at hx
   rcases hx with rfl | rfl | rfl | rfl | rfl <;> omega
theorem qua {p : Pk} (h : qk p = true) : ∀ x ∈ k7 p, 0 ≤ x ∧ x ≤ 1099511627776 := (qrc h).1
theorem qnq {p : Pk} (h : qk p = true) : ∀ v ∈ p.values, qa4 v = true := (qrc h).2.1
theorem qrd {p : Pk} (h : qk p = true) : ∀ x ∈ p.clock, 0 ≤ x ∧ x ≤ 1099511627776 := (qrc h).2.2
theorem xnh {v : AV} (hp : qa4 v = true) (hs : v.Sm) : (wAV v).length ≤ 60 := by
 obtain ⟨k, n, s⟩ := v
 unfold qa4 at hp
 have hk : k = 1 ∨ k = 2 := by grind
 have h1 := qcq (n := k) (by omega) (by omega)
 have h2 := xo hs.2.1
 unfold wAV
 rw [List.length_append]
 simp only at h1 h2 ⊢
 split
 ·omega
 ·split
  ·have h40 : (s.length : Int) ≤ 40 := by grind
   have h3 := qcq (n := s.length) (by omega) (by omega)
   simp only [qa0, List.length_append]; omega
  ·simp only [List.length_nil]; omega
theorem xk7 {p : Pk} (hv : qk p = true) (hw : p.W) : (w5 p).length ≤ 340 := by
 obtain ⟨f1, f2⟩ := qko hv
 have a1 := qb2 wInt 6 (k7 p) fun x hx => qcq (qua hv x hx).1 (qua hv x hx).2
 have a2 := qb2 wAV 60 p.values fun x hx => xnh (qnq hv x hx) (hw.v x hx)
 have a3 := qb2 wInt 6 p.clock fun x hx => qcq (qrd hv x hx).1 (qrd hv x hx).2
 have b2 := qcq (n := p.values.length) (by omega) (by omega)
 have b3 := qcq (n := p.clock.length) (by omega) (by omega)
 have h7 : (k7 p).length = 7 := rfl
 simp only [w5, wAVs, ql8, List.length_append]
 omega
theorem xni (p : Pk) (hw : p.W) : (qa1 p).1.length ≤ 348 := by
 unfold qa1
 split
 ·rename_i h
  have := xk7 h hw
  simp only [qhm, List.length_append, kz]; omega
 ·simp
end Go.Proofs.YtkcdbcbpbolgkaaGreatDoor
namespace Go.Proofs.YtkcdbcbpbolgkaaGreatDoor
open Go.Abs
def qit (v : List UInt8) : Option (List UInt8) := if v = [] then none else some v
def Rep (m : Cont) (name : List UInt8) (q : Qu) : Prop := mGet (nKey name) m = qit (qaj q) ∧ ∀ d, d < 4 → mGet (sKey name d) m = qit (qa5 q d)
theorem qih (k : List UInt8) : ∀ (l : List OpS) (a : Option (List UInt8)) (l' : List OpS), vj k a (l ++ l') = vj k (vj k a l) l'
 | [], _, _ => rfl
 | o :: l, a, l' => qih k l _ l'
theorem qub {k o n : List UInt8} : vj k (qit o) (chg k o n) = qit n := by
 unfold chg
 split
 ·rename_i h; rw [h]; rfl
 ·simp only [vj, if_true, qit]
  by_cases hn : n = [] <;> simp [hn]
theorem qc0 {k k' o n : List UInt8} {a : Option (List UInt8)} (h : k' ≠ k) : vj k a (chg k' o n) = a := by
 unfold chg
 split
 ·rfl
 ·simp only [vj, if_neg h]
theorem xk8 (name : List UInt8) {d : Nat} (hd : d < 4) : nKey name ≠ sKey name d := by
 intro h
 have := List.append_cancel_left h
 have h4 : d = 0 ∨ d = 1 ∨ d = 2 ∨ d = 3 := by omega
 rcases h4 with rfl | rfl | rfl | rfl <;> exact absurd this (by decide)
theorem xqr (name : List UInt8) {d e : Nat} (hd : d < 4) (he : e < 4) (h : d ≠ e) : sKey name d ≠ sKey name e := by
 intro hk
 have := List.append_cancel_left hk
 have h4 : d = 0 ∨ d = 1 ∨ d = 2 ∨ d = 3 := by omega
 have h5 : e = 0 ∨ e = 1 ∨ e = 2 ∨ e = 3 := by omega
 rcases h4 with rfl | rfl | rfl | rfl <;> rcases h5 with rfl | rfl | rfl | rfl <;> first | exact absurd rfl h | exact absurd this (by decide)
theorem q0v (a b : Qu) (name : List UInt8) : ∀ D, D ≤ 4 → vj (nKey name) (qit (qaj a)) (vq a b name D) = qit (qaj b)
 | 0, _ => qub
 | D + 1, h => by rw [vq, qih, q0v a b name D (by omega), qc0 (Ne.symm (xk8 name (by omega)))]
theorem q0w (a b : Qu) (name : List UInt8) {e : Nat} (he : e < 4) : ∀ D, D ≤ 4 → vj (sKey name e) (qit (qa5 a e)) (vq a b name D) = qit (if e < D then qa5 b e else qa5 a e)
 | 0, _ => by rw [vq, qc0 (xk8 name he)]; simp
 | D + 1, h => by
  rw [vq, qih, q0w a b name he D (by omega)]
  by_cases hD : D = e
  ·subst hD
   rw [if_neg (by omega), qub, if_pos (by omega)]
  ·rw [qc0 (xqr name (by omega) he hD)]
   by_cases hl : e < D
   ·rw [if_pos hl, if_pos (by omega)]
   ·rw [if_neg hl, if_neg (by omega)]
theorem qii (a b : Qu) (name k : List UInt8) (h0 : nKey name ≠ k) (hs : ∀ d, d < 4 → sKey name d ≠ k) (x : Option (List UInt8)) : ∀ D, D ≤ 4 → vj k x (vq a b name D) = x
 | 0, _ => qc0 h0
 | D + 1, h => by rw [vq, qih, qii a b name k h0 hs x D (by omega), qc0 (hs D (by omega))]
structure QV (q : Qu) : Prop where
 c0 : 0 ≤ q.cons
 c1 : q.cons ≤ q.acc
 c2 : q.acc ≤ 1099511627776
 len : (q.items.length : Int) = q.acc - q.cons
 few : q.items.length ≤ 4
 it : ∀ i (h : i < q.items.length), qk q.items[i] = true ∧ q.items[i].seq = q.cons + 1 + i
theorem xnk {q : Qu} (h : wy q = true) : QV q := by
 unfold wy at h
 simp only [Bool.and_eq_true, decide_eq_true_eq, beq_iff_eq] at h
 obtain ⟨ha, ⟨⟨⟨c0, c1⟩, c2⟩, c3⟩, c4⟩ := h
 rw [zf (by unfold I64; omega)] at c3
 refine ⟨c0, c1, c2, c3, by omega, fun i hi => ?_⟩
 have := za.1 ha i hi
 unfold qql qb0 at this
 simp only [Bool.and_eq_true, beq_iff_eq] at this
 rw [x9 hi, zf (n := q.cons + 1) (by unfold I64; omega), zf (by unfold I64; omega)] at this
 exact ⟨this.1.1.2, this.2⟩
theorem QV.I {q : Qu} (h : QV q) : I64 q.acc ∧ I64 q.cons := by
 obtain ⟨c0, c1, c2, _, _, _⟩ := h
 unfold I64; omega
end Go.Proofs.YtkcdbcbpbolgkaaGreatDoor
namespace Go.Proofs.YtkcdbcbpbolgkaaGreatDoor
open Go.Abs
theorem xdx {k o n : List UInt8} {x : OpS} (h : x ∈ chg k o n) : x.key = k ∧ x.val = n ∧ (x.del = true → n = []) := by
 unfold chg at h
 split at h
 ·cases h
 ·simp only [List.mem_cons, List.not_mem_nil, or_false] at h
  subst h
  exact ⟨rfl, rfl, fun h => by simpa using h⟩
theorem qwo {a b : Qu} {name : List UInt8} {x : OpS} : ∀ {D : Nat}, x ∈ vq a b name D → x.key.length = name.length + 2 ∧ (x.val = qaj b ∨ ∃ d : Nat, x.val = qa5 b d) ∧ (x.del = true → x.val = [])
 | 0, h => by
  obtain ⟨h1, h2, h3⟩ := xdx h
  exact ⟨by rw [h1]; simp [nKey], .inl h2, fun hd => by rw [h2]; exact h3 hd⟩
 | D + 1, h => by
  rcases List.mem_append.1 h with h | h
  ·exact qwo h
  ·obtain ⟨h1, h2, h3⟩ := xdx h
   exact ⟨by rw [h1]; simp [sKey], .inr ⟨D, h2⟩, fun hd => by rw [h2]; exact h3 hd⟩
theorem xja {q : Qu} (h : QV q) : (qaj q).length ≤ 12 := by
 obtain ⟨c0, c1, c2, _, _, _⟩ := h
 have h1 := qcq (n := q.acc) (by omega) (by omega)
 have h2 := qcq (n := q.cons) (by omega) (by omega)
 unfold qaj
 split
 ·simp
 ·rw [List.length_append]; omega
theorem xjb {q : Qu} (hw : q.W) (d : Int) : (qa5 q d).length ≤ 348 := by
 unfold qa5
 split
 ·rename_i p hp
  exact xni p (hw.p _ (List.mem_of_find?_eq_some hp))
 ·simp
theorem xdy {q : Qu} (h : QV q) (hw : q.W) {v : List UInt8} (hv : v = qaj q ∨ ∃ d : Nat, v = qa5 q d) : v.length ≤ 348 := by
 rcases hv with rfl | ⟨d, rfl⟩
 ·have := xja h; omega
 ·exact xjb hw d
theorem q0x {s : List UInt8} (h : s.length ≤ 1000000) : (qa0 s).length ≤ s.length + 6 := by
 have := qcq (n := s.length) (by omega) (by omega)
 rw [qa0, List.length_append]; omega
theorem q6e {a b : Qu} {name : List UInt8} (hb : QV b) (wb : b.W) (hn : name.length ≤ 30) (hne : vq a b name 4 ≠ []) : (qr (vq a b name 4)).2 = 0 := by
 have hl := qfx a b name 4
 have hp : ∀ o ∈ vq a b name 4, jz o = true := fun o ho => by
  obtain ⟨h1, h2, h3⟩ := qwo ho
  have h4 := xdy hb wb h2
  exact vy.2 ⟨by omega, by omega, by omega, fun hd => by rw [h3 hd]; rfl⟩
 have hs := qb2 wOp 393 (vq a b name 4) fun o ho => by
  obtain ⟨h1, h2, h3⟩ := qwo ho
  have h4 := xdy hb wb h2
  have h5 := q0x (s := o.key) (by omega)
  have h6 := q0x (s := o.val) (by omega)
  simp only [wOp, List.length_append, List.length_cons, List.length_nil]; omega
 have hc := qcq (n := (vq a b name 4).length) (by omega) (by omega)
 have hpos : 0 < (vq a b name 4).length := List.length_pos_iff.2 hne
 unfold qr
 rw [if_neg, if_neg]
 ·simp only [Bool.or_eq_true, decide_eq_true_eq, not_or, wOps, List.length_append]
  omega
 ·simp only [Bool.or_eq_true, decide_eq_true_eq, not_or, List.any_eq_true, not_exists, not_and]
  exact ⟨by omega, fun o ho => by simp [hp o ho]⟩
theorem qij : ∀ (l : List OpS) (m : Cont), m.l.length + l.length ≤ 400 → (jp m l).2 = true ∧ (jp m l).1.l.length ≤ m.l.length + l.length
 | [], m, h => ⟨rfl, Nat.le_refl _⟩
 | o :: l, m, h => by
  rw [jp]
  simp only [List.length_cons] at h ⊢
  split
  ·have h1 := qv9 o.key m
   have := qij l (mDel o.key m) (by omega)
   exact ⟨this.1, by omega⟩
  ·have h1 := q5u o.key o.val m
   rw [if_neg (by omega)]
   have := qij l (mPut o.key o.val m) (by omega)
   exact ⟨this.1, by omega⟩
structure Sto.Few (n : Nat) (s : Sto) : Prop where
 ok : s.Ok n
 len : s.m.l.length ≤ 5 * n
theorem Sto.Few.v {n : Nat} {s : Sto} (h : s.Few n) : ∀ x ∈ s.m.l, x.2.2.length ≤ 1000000 := fun x hx => by
 have := (h.ok.good.small x hx).2.2; omega
theorem xjc {m m' : Cont} {a b : Qu} {name : List UInt8} (hr : Rep m name a) (hg : ∀ k, mGet k m' = vj k (mGet k m) (vq a b name 4)) : Rep m' name b := by
 refine ⟨by rw [hg, hr.1, q0v a b name 4 (Nat.le_refl _)], fun d hd => ?_⟩
 rw [hg, hr.2 d hd, q0w a b name hd 4 (Nat.le_refl _), if_pos hd]
theorem xdz {m m' : Cont} {a b c : Qu} {name other : List UInt8} (hno : ∀ (x y : List UInt8), x.length = 2 → y.length = 2 → name ++ x ≠ other ++ y) (hr : Rep m other c) (hg : ∀ k, mGet k m' = vj k (mGet k m) (vq a b name 4)) : Rep m' other c := by
 refine ⟨?_, fun d hd => ?_⟩
 ·rw [hg, qii a b name (nKey other) (hno [47, 110] [47, 110] rfl rfl) (fun d _ => hno [47, UInt8.ofNat (48 + d)] [47, 110] rfl rfl) _ 4 (Nat.le_refl _), hr.1]
 ·rw [hg, qii a b name (sKey other d) (hno [47, 110] [47, UInt8.ofNat (48 + d)] rfl rfl) (fun e _ => hno [47, UInt8.ofNat (48 + e)] [47, UInt8.ofNat (48 + d)] rfl rfl) _ 4 (Nat.le_refl _), hr.2 d hd]
theorem xd0 (name : List UInt8) : Rep qdi name jb := ⟨rfl, fun d _ => rfl⟩
theorem xd1 {k o n : List UInt8} (h : chg k o n = []) : o = n := by
 unfold chg at h
 split at h
 ·assumption
 ·cases h
theorem q6f {a b : Qu} {name : List UInt8} : ∀ {D : Nat}, vq a b name D = [] → qaj a = qaj b ∧ ∀ d, d < D → qa5 a d = qa5 b d
 | 0, h => ⟨xd1 h, fun d hd => absurd hd (Nat.not_lt_zero _)⟩
 | D + 1, h => by
  obtain ⟨h1, h2⟩ := List.append_eq_nil_iff.1 h
  obtain ⟨i1, i2⟩ := q6f h1
  refine ⟨i1, fun d hd => ?_⟩
  rcases Nat.lt_or_ge d D with hl | hl
  ·exact i2 d hl
  ·have : d = D := by omega
   subst this; exact xd1 h2
theorem xjd {m : Cont} {a b : Qu} {name : List UInt8} (h1 : qaj a = qaj b) (h2 : ∀ d : Nat, d < 4 → qa5 a d = qa5 b d) (hr : Rep m name a) : Rep m name b := ⟨by rw [← h1]; exact hr.1, fun d hd => by rw [← h2 d hd]; exact hr.2 d hd⟩
end Go.Proofs.YtkcdbcbpbolgkaaGreatDoor
namespace Go.Proofs.YtkcdbcbpbolgkaaGreatDoor
open Go.Abs
structure Rds where
 pos : Nat
 seed : Nat
 now : List UInt8
 recs : List (List UInt8)
 ends : List Nat
 deriving Inhabited
def Rds.used (s : Rds) : Nat := s.ends.getLastD 0
structure Rds.Ok (b : List UInt8) (s : Rds) : Prop where
 pos : s.pos ≤ b.length
 seed : s.seed < 18446744073709551616
 now : s.now.length ≤ 2000
 recs : s.recs.length ≤ s.pos
 ends : s.ends.length ≤ s.pos
 used : s.used ≤ s.pos
 small : ∀ r ∈ s.recs, r.length ≤ 2000
end Go.Proofs.YtkcdbcbpbolgkaaGreatDoor
namespace Go.Proofs.YtkcdbcbpbolgkaaGreatDoor
open Go.Abs
def zc (rs : List (List UInt8)) : List UInt8 := rs.foldl yl []
structure Behind (rs : List (List UInt8)) (s : Rds) : Prop where
 pos : s.pos = (zc rs).length
 seed : s.seed = qbm (zc rs)
 now : s.now = []
 recs : s.recs = rs
 used : s.used = (zc rs).length
structure ReadOf (rs : List (List UInt8)) (k j : Nat) (x : Rds × Int) : Prop where
 le : j ≤ rs.length
 recs : x.1.recs = rs.take j
 used : x.1.used = (zc (rs.take j)).length
 fit : (zc (rs.take j)).length ≤ k
 all : ∀ i, i ≤ rs.length → (zc (rs.take i)).length ≤ k → i ≤ j
end Go.Proofs.YtkcdbcbpbolgkaaGreatDoor
namespace Go.Proofs.YtkcdbcbpbolgkaaGreatDoor
open Go.Abs
noncomputable section
set_option maxRecDepth 100000
set_option linter.defProp false
def d339 := cut Tryz.prog Tryz.f339 news
@[go_sem] def E339 := ql d339
def d342 := cut Tryz.prog Tryz.f342 news
@[go_sem] def E342 := ql d342
def d338 := cut Tryz.prog Tryz.f338 news
@[go_sem] def E338 := ql d338
def d328 := cut Tryz.prog Tryz.f328 news
@[go_sem] def E328 := ql d328
def d190 := cut Tryz.prog Tryz.f190 news
@[go_sem] def E190 := ql d190
def d290 := cut Tryz.prog Tryz.f290 news
@[go_sem] def E290 := ql d290
end
def y6 (l : List Nat) : List (List D) := l.map fun n => [.int .i64 (n : Nat)]
end Go.Proofs.YtkcdbcbpbolgkaaGreatDoor
namespace Go.Proofs.YtkcdbcbpbolgkaaGreatDoor
open Go.Abs
noncomputable section
set_option maxRecDepth 100000
set_option linter.defProp false
def d289 := cut Tryz.prog Tryz.f289 news
@[go_sem] def E289 := ql d289
def d248 := cut Tryz.prog Tryz.f248 news
@[go_sem] def E248 := ql d248
def d181 := cut Tryz.prog Tryz.f181 news
@[go_sem] def E181 := ql d181
end
def qb6 (l : List (List UInt8)) : List (List D) := l.map fun r => [.sl 1 (qd r)]
theorem qwq (l : List (List UInt8)) : D.noPtrR (qb6 l) = true := xw (fun r => by simp only [D.noPtrL, D.noPtr, yv, Bool.and_self]) l
theorem q4d (l : List (List UInt8)) : (qb6 l).length = l.length := by simp [qb6]
theorem q4e : qb6 [] = [] := rfl
theorem qwr (l : List Nat) : D.noPtrR (y6 l) = true := xw (fun _ => rfl) l
theorem q4f (l : List Nat) : (y6 l).length = l.length := by simp [y6]
theorem q4g : y6 [] = [] := rfl
attribute [go_sem] qwq q4d q4e qwr q4f q4g
end Go.Proofs.YtkcdbcbpbolgkaaGreatDoor
namespace Go.Proofs.YtkcdbcbpbolgkaaGreatDoor
open Go.Abs
noncomputable section
set_option maxRecDepth 100000
set_option linter.defProp false
def d105 := cut Tryz.prog Tryz.f105 news
@[go_sem] def E105 := ql d105
end
end Go.Proofs.YtkcdbcbpbolgkaaGreatDoor
namespace Go.Proofs.YtkcdbcbpbolgkaaGreatDoor
open Go.Abs
def eRun : List En → List (List OpS) → Option (List En)
 | m, [] => some m
 | m, t :: ts => if (qaw m t).2 = false then none else eRun (qaw m t).1 ts
def qeo (ts : List (List OpS)) : List UInt8 := zc (ts.map wOps)
structure Bk (s : Sto) (ts : List (List OpS)) : Prop where
 file : s.file = qeo ts
 enc : ∀ t ∈ ts, (qr t).2 = 0
 run : eRun [] ts = some (jl s.m)
end Go.Proofs.YtkcdbcbpbolgkaaGreatDoor
namespace Go.Proofs.YtkcdbcbpbolgkaaGreatDoor
open Go.Abs
def jx (l : List OpS) : List D := (l.map qp).flatten
theorem qd5 (l : List OpS) : (jx l).length = l.length * 3 := by induction l <;> simp_all [jx, qp]; omega
theorem qak (l : List OpS) : D.noPtrL (jx l) = true := by
 rw [D.noPtrL_iff]
 exact fun d hd => (D.noPtrR_iff _).1 (qby l) d hd
theorem qcm (l : List OpS) : (jx l).all D.isCell = true := by induction l <;> simp_all [jx, qp, D.isCell]
theorem q1b (l : List OpS) (ex : List D) : ∀ {i : Nat} (h : i < l.length), ((jx l ++ ex).drop (i * 3)).take 3 = qp l[i] := by
 induction l with
 | nil => intro i h; simp at h
 | cons o l ih =>
  intro i h
  have hf : jx (o :: l) = .str o.key :: .bool o.del :: .sl 1 (qd o.val) :: jx l := rfl
  rw [hf]
  cases i with
  | zero => rfl
  | succ i =>
   rw [show (i + 1) * 3 = i * 3 + 1 + 1 + 1 by omega]
   exact ih (by simpa using h)
def q6l (k : FuncId) (l : List OpS) (ex : List D) (f : OpS → Bool) (i : { i : Nat // (l.take i).any f = false }) : St :=
 ⟨[(0, true, .d (.ref 0 0 3 l.length)), (1, true, .d (.func (.func k) [] [])), (7, true, .d (.int .i64 l.length)), (8, true, .d (.int .i64 (i.val : Nat)))], [.row ((jx l ++ ex).map .d)], [], 1⟩
theorem q9i {k : FuncId} {f : OpS → Bool} (hb : (Tryz.prog.funcs[k]?).any (fun fn => fn.body.isSome && !(fn.name == "runtime.NumGoroutine")) = true)
  (hf : ∀ v, qg Tryz.prog k [.d (.agg (qp v))] [] (.d (.bool (f v))) []) (l : List OpS) (ex : List D) (hex : D.noPtrL ex = true) (hl : l.length ≤ maxLen) :
  qg Tryz.prog 231 [.d (.ref 0 0 3 l.length), .d (.func (.func k) [] [])] [.row ((jx l ++ ex).map .d)] (.d (.int .i64 (idx f l))) [.row ((jx l ++ ex).map .d)] := by
 have hlf := qd5 l
 have hnp : D.noPtrL (jx l ++ ex) = true := by rw [qaq, qak, hex]; rfl
 refine F231.go ?_
 try (refine ev ?_; try exact True.intro)
 refine qj (q6l k l ex f) (fun i => l.length - i.val) ⟨0, rfl⟩ ?_ (fun i => ?_)
 ·try (refine ev2 @q6l.eq_1 @hnp ?_; try exact True.intro)
 obtain ⟨i, hi⟩ := i
 try (refine ev1 @q6l.eq_1 ?_; try exact True.intro)
 (repeat (with_reducible refine ob ?_)); refine xn _ (fun h => ?_) (fun h => ?_)
 ·have hil : i < l.length := by simpa using h
  try (refine ev4 (q1b l ex hil) @List.length_map.{0,0} @List.length_append.{0} @hlf ?_; try exact True.intro)
  refine ⟨by omega, ⟨by omega, by omega, rfl⟩, ?_⟩
  refine xu (hf l[i]) hb (fun h => h) (fun _ => ⟨qc, trivial⟩) (by try (refine ev1 @qp.eq_1 ?_; try exact True.intro)) rfl rfl ?_
  try (refine ev ?_; try exact True.intro)
  (repeat (with_reducible refine ob ?_)); refine xn _ (fun h => ?_) (fun h => ?_)
  ·try (refine ev2 (qey hi hil h) @hnp ?_; try exact True.intro)
  ·try (refine ev ?_; try exact True.intro)
   refine ⟨⟨i + 1, vn hi hil (by simpa using h)⟩, ?_, by dsimp only; omega⟩
   try (refine ev3 @q6l.eq_1 @hnp (qf (show i < 9223372036854775807 by unfold maxLen at hl; omega)) ?_; try exact True.intro)
 ·have hil : l.length ≤ i := by simpa using h
  try (refine ev2 (qex hi hil) @hnp ?_; try exact True.intro)
theorem qwu {k : FuncId} {f : OpS → Bool} (hb : (Tryz.prog.funcs[k]?).any (fun fn => fn.body.isSome && !(fn.name == "runtime.NumGoroutine")) = true)
  (hf : ∀ v, qg Tryz.prog k [.d (.agg (qp v))] [] (.d (.bool (f v))) []) (l : List OpS) (ex : List D) (hex : D.noPtrL ex = true) (hl : l.length ≤ maxLen) :
  qg Tryz.prog 152 [.d (.ref 0 0 3 l.length), .d (.func (.func k) [] [])] [.row ((jx l ++ ex).map .d)] (.d (.bool (l.any f))) [.row ((jx l ++ ex).map .d)] := by
 have hnp : D.noPtrL (jx l ++ ex) = true := by rw [qaq, qak, hex]; rfl
 have hc := q9i hb hf l ex hex hl
 refine F152.go ?_
 try (refine ev ?_; try exact True.intro)
 refine clO [0] F231 hc ?_ (hik := by try (refine ev2 @hnp @D.inKL_noPtr ?_; try exact True.intro)) (hold := by try (refine ev1 @hnp ?_; try exact True.intro)) (htk := by try (refine ev1 @hnp ?_; try exact True.intro))
 try (refine ev2 @qtk @hnp ?_; try exact True.intro)
def xjj (l : List OpS) (ex : List D) (i : { i : Nat // i ≤ l.length }) : St :=
 ⟨[(0, true, .d (.ref 0 0 3 l.length)), (4, true, .own 0 1 (qd (wInt l.length ++ (l.take i.val).flatMap wOp))), (17, true, .d (.ref 0 0 3 l.length)), (18, true, .d (.int .i64 l.length)), (19, true, .d (.int .i64 (i.val : Nat)))], [.row ((jx l ++ ex).map .d)], [0], 1⟩
set_option maxRecDepth 10000 in
theorem qrn (l : List OpS) (ex : List D) (hex : D.noPtrL ex = true) (hl : l.length ≤ 100000) :
  qg Tryz.prog 85 [.d (.ref 0 0 3 l.length)] [.row ((jx l ++ ex).map .d)] (.tup [.d (.sl 1 (qd (qr l).1)), .d (.int .i64 (qr l).2)]) [.row ((jx l ++ ex).map .d)] := by
 have hlf := qd5 l
 have hnp : D.noPtrL (jx l ++ ex) = true := by rw [qaq, qak, hex]; rfl
 have hc := qwu qhk ql4 l ex hex (by unfold maxLen; omega)
 refine F85.goT ?_
 by_cases h0 : l.length = 0
 ·have hd : (((l.length : Nat) : Int) == 0) = true := by rw [h0]; rfl
  have hb : qr l = ([], 1) := by
   unfold qr
   rw [if_pos]
   simp [h0]
  try (refine ev1 @hd ?_; try exact True.intro)
  (repeat (with_reducible refine ob ?_)); refine qg3 ?_
  try (refine ev ?_; try exact True.intro)
  (repeat (with_reducible refine ob ?_)); refine qcb ?_
  try (refine ev3 @hb @qx @hnp ?_; try exact True.intro)
 have hd : (((l.length : Nat) : Int) == 0) = false := by rw [beq_eq_false_iff_ne]; omega
 try (refine ev1 @hd ?_; try exact True.intro)
 refine clO [0] F152 hc ?_ (hik := by try (refine ev2 @hnp @D.inKL_noPtr ?_; try exact True.intro)) (hold := by try (refine ev1 @hnp ?_; try exact True.intro)) (htk := by try (refine ev1 @hnp ?_; try exact True.intro))
 try (refine ev ?_; try exact True.intro)
 (repeat (with_reducible refine ob ?_)); refine xn _ (fun h => ?_) (fun h => ?_)
 ·have hb : qr l = ([], 1) := by
   unfold qr
   rw [if_pos]
   rw [h]; simp
  try (refine ev3 @hb @qx @hnp ?_; try exact True.intro)
 have hne : ¬ (decide (l.length = 0) || l.any (fun o => !jz o)) = true := by
  rw [h]; simp [h0]
 have hpr : ∀ o ∈ l, jz o = true := by
  simp only [Bool.or_eq_true, not_or, List.any_eq_true, not_exists, not_and] at hne
  intro o ho
  simpa using hne.2 o ho
 have hwl := qh6 hpr
 have hil0 := xo (xz (n := l.length) (by omega))
 try (refine ev ?_; try exact True.intro)
 refine clA F147 (jy [] l.length (by simp) (xz (by omega))) ?_
 try (refine ev ?_; try exact True.intro)
 refine qj (xjj l ex) (fun i => l.length - i.val) ⟨0, Nat.zero_le _⟩ ?_ (fun i => ?_)
 ·try (refine ev3 @xjj.eq_1 @List.take_zero.{0} @hnp ?_; try exact True.intro)
 obtain ⟨i, hi⟩ := i
 try (refine ev1 @xjj.eq_1 ?_; try exact True.intro)
 (repeat (with_reducible refine ob ?_)); refine xn _ (fun h => ?_) (fun h => ?_)
 ·have hil : i < l.length := by simpa using h
  have ho := hpr l[i] (List.getElem_mem hil)
  obtain ⟨p1, p2, p3, _⟩ := vy.1 ho
  have hpre : (wInt l.length ++ (l.take i).flatMap wOp).length ≤ 100000020 := by
   have := qh6 (l := l.take i) (fun o h => hpr o (List.mem_of_mem_take h))
   simp only [List.length_append, List.length_take] at this ⊢
   have : min i l.length ≤ 100000 := by omega
   omega
  have k1 := qeg l[i].key (by omega)
  try (refine ev4 (q1b l ex hil) @List.length_map.{0,0} @hlf @qp.eq_1 ?_; try exact True.intro)
  refine ⟨by omega, ⟨by omega, by omega⟩, ?_⟩
  refine clA F157 (qja (wInt l.length ++ (l.take i).flatMap wOp) l[i].key (by omega)) ?_
  try (refine ev ?_; try exact True.intro)
  refine clA F156 (qqj ((wInt l.length ++ (l.take i).flatMap wOp) ++ qa0 l[i].key) l[i].del (by simp only [List.length_append] at hpre ⊢; omega)) ?_
  try (refine ev ?_; try exact True.intro)
  refine clA F155 (qnf ((wInt l.length ++ (l.take i).flatMap wOp) ++ qa0 l[i].key ++ [if l[i].del then 1 else 0]) l[i].val (by simp only [List.length_append, List.length_cons, List.length_nil] at hpre ⊢; omega)) ?_
  try (refine ev ?_; try exact True.intro)
  have e : wInt l.length ++ (l.take i).flatMap wOp ++ qa0 l[i].key ++ [if l[i].del then 1 else 0] ++ qa0 l[i].val = wInt l.length ++ (l.take (i + 1)).flatMap wOp := by
   rw [qfr wOp l hil, wOp]; simp only [List.append_assoc]
  refine ⟨⟨i + 1, hil⟩, ?_, by dsimp only; omega⟩
  try (refine ev4 @xjj.eq_1 @e @hnp (qf (show i < 9223372036854775807 by omega)) ?_; try exact True.intro)
 ·have hie : i = l.length := by simp at h; omega
  subst hie
  try (refine ev1 @List.take_length.{0} ?_; try exact True.intro)
  have hw : wInt l.length ++ l.flatMap wOp = wOps l := rfl
  have hw2 : (wOps l).length = (wInt l.length).length + (l.flatMap wOp).length := by rw [wOps, List.length_append]
  try (refine ev1 @hw ?_; try exact True.intro)
  (repeat (with_reducible refine ob ?_)); refine xn _ (fun h => ?_) (fun h => ?_)
  ·have hb : qr l = ([], 6) := by
    unfold qr
    rw [if_neg hne, if_pos]
    simp only [Bool.or_eq_true, decide_eq_true_eq] at h ⊢
    omega
   try (refine ev3 @hb @qx @hnp ?_; try exact True.intro)
  ·have hb : qr l = (wOps l, 0) := by
    unfold qr
    rw [if_neg hne, if_neg]
    simp only [Bool.or_eq_true, Bool.or_eq_false_iff, decide_eq_true_eq, decide_eq_false_iff_not] at h ⊢
    omega
   try (refine ev2 @hb @hnp ?_; try exact True.intro)
end Go.Proofs.YtkcdbcbpbolgkaaGreatDoor
namespace Go.Proofs.YtkcdbcbpbolgkaaGreatDoor
open Go.Abs
noncomputable section
set_option maxRecDepth 100000
set_option linter.defProp false
def d63r := cut Tryz.prog Tryz.f63 news [30, 1000030, 41, 1000041] [8, 14, 16]
@[go_sem] def E63r := ql d63r
def F63r := fnC d63r follows Tryz.func63
def d129 := cut Tryz.prog Tryz.f129 news
@[go_sem] def E129 := ql d129
def F129 := fnC d129 follows Tryz.func129
end
def qce (file : List UInt8) (ops : List OpS) : List UInt8 := if (qr ops).2 = 0 then yl file (qr ops).1 else file
def cOp (e : En) : OpS := ⟨e.1, false, e.2⟩
def qjo (x : List UInt8 × List OpS) (e : En) : List UInt8 × List OpS := if (qr (x.2 ++ [cOp e])).2 ≠ 0 then (qce x.1 x.2, [cOp e]) else (x.1, x.2 ++ [cOp e])
def cAt (l : List En) (i : Nat) : List UInt8 × List OpS := (l.take i).foldl qjo ([], [])
def qwv (l : List En) : List UInt8 := qce (l.foldl qjo ([], [])).1 (l.foldl qjo ([], [])).2
def qil (s : Sto) : Sto := ⟨qwv (qc7 s.m []), (qwv (qc7 s.m [])).length, s.m⟩
theorem qww (l : List En) {i : Nat} (h : i < l.length) : cAt l (i + 1) = qjo (cAt l i) l[i] := by
 unfold cAt
 rw [List.take_succ_eq_append_getElem h, List.foldl_append]; rfl
theorem qwx (file : List UInt8) (ops : List OpS) (ex : List D) (hex : D.noPtrL ex = true) (ho : ops.length ≤ 100000) (hf : file.length ≤ 100000000) :
  qg Tryz.prog 129 [.d (.ptr 0 0), .d (.ptr 1 0)] [.row [.d (.ref 2 0 3 ops.length)], .row [.d (.sl 1 (qd file)), .d (.int .i64 0)], .row ((jx ops ++ ex).map .d)] (.tup [])
   [.row [.d .nilsl], .row [.d (.sl 1 (qd (qce file ops))), .d (.int .i64 0)], .row ((jx ops ++ ex).map .d)] := by
 have hnp : D.noPtrL (jx ops ++ ex) = true := by rw [qaq, qak, hex]; rfl
 have hE := qrn ops ex hex ho
 refine F129.goT ?_
 try (refine ev ?_; try exact True.intro)
 refine clO [2] F85 hE ?_ (hik := by try (refine ev2 @hnp @D.inKL_noPtr ?_; try exact True.intro)) (hold := by try (refine ev1 @hnp ?_; try exact True.intro)) (htk := by try (refine ev1 @hnp ?_; try exact True.intro))
 try (refine ev1 @hnp ?_; try exact True.intro)
 refine xn _ (fun h => ?_) (fun h => ?_)
 ·have he : (qr ops).2 = 0 := by simpa using h
  have hc : qce file ops = yl file (qr ops).1 := by rw [qce, if_pos he]
  try (refine ev ?_; try exact True.intro)
  (repeat (with_reducible refine ob ?_)); first | refine cl F88 (qkn file (qr ops).1 0 hf (qai ops)) ?_ | refine clF F88 (qkn file (qr ops).1 0 hf (qai ops)) (fun _ => by (refine ev3 @qp.eq_1 @k8.eq_1 @zk.eq_1 ?_; try exact True.intro)) ?_
  try (refine ev3 @wz.eq_1 @hc @hnp ?_; try exact True.intro)
 ·have he : ¬ (qr ops).2 = 0 := by simpa using h
  have hc : qce file ops = file := by rw [qce, if_neg he]
  try (refine ev2 @hc @hnp ?_; try exact True.intro)
theorem xtp {os : List AObj} {id : Nat} {ops : List OpS} {ex : List D} {o : OpS} {rd : Option Nat} {ok : Prop} (h : qh os id = ((jx ops ++ ex).map .d)) : yi os id 3 ops.length ⟨[qp o], rd, ok⟩ = (jx (ops ++ [o])).map .d := by
 have hl := qd5 ops
 have h1 : jx (ops ++ [o]) = jx ops ++ qp o := by simp [jx]
 unfold yi
 rw [h, ← List.map_take, List.take_append_of_le_length (by omega), List.take_of_length_le (by omega), h1, List.map_append]
 simp
theorem q9j {os : List AObj} {id : Nat} {ops : List OpS} {ex : List D} {e : En} {rd : Option Nat} {ok : Prop} (h : qh os id = ((jx ops ++ ex).map .d)) : yi os id 3 ops.length ⟨[[.str e.1, .bool false, .sl 1 (qd e.2)]], rd, ok⟩ = (jx (ops ++ [cOp e])).map .d := xtp (o := cOp e) h
structure CIs (i : Nat) (x : List UInt8 × List OpS) : Prop where
 file : x.1.length ≤ i * 70000
 ops : x.2 = [] ∨ (qr x.2).2 = 0
theorem xs4 {e : En} (h : kvOk (0, e.1, e.2)) : (qr [cOp e]).2 = 0 := by
 obtain ⟨h1, h2, h3⟩ := h
 simp only at h1 h2 h3
 have hp : jz (cOp e) = true := vy.2 ⟨h1, h2, h3, fun h => by cases h⟩
 have hw := q3d hp
 have hi := xo (xz (n := 1) (by omega))
 have hl : (wOps [cOp e]).length ≤ 2000 := by
  simp only [wOps, List.flatMap_cons, List.flatMap_nil, List.append_nil, List.length_append, List.length_singleton]
  omega
 unfold qr
 have q1 : ¬ (decide ([cOp e].length = 0) || [cOp e].any (fun o => !jz o)) = true := by
  rw [List.any_cons, hp]
  exact Bool.false_ne_true
 rw [if_neg q1, if_neg (by simp only [List.length_singleton, Bool.or_eq_true, decide_eq_true_eq]; omega)]
theorem qmq (file : List UInt8) (ops : List OpS) : (qce file ops).length ≤ file.length + 70000 := by
 unfold qce
 split
 ·exact qqw _ _ (qai ops)
 ·omega
theorem xjk {i : Nat} {x : List UInt8 × List OpS} {e : En} (h : CIs i x) (he : kvOk (0, e.1, e.2)) : CIs (i + 1) (qjo x e) := by
 have hf := h.file
 unfold qjo
 split
 ·have := qmq x.1 x.2
  exact ⟨by show (qce x.1 x.2).length ≤ _; rw [Nat.add_mul]; omega, .inr (xs4 he)⟩
 ·rename_i hn
  refine ⟨?_, .inr (by simpa only [ne_eq, Classical.not_not] using hn)⟩
  have h2 : i * 70000 ≤ (i + 1) * 70000 := Nat.mul_le_mul_right _ (Nat.le_succ i)
  exact Nat.le_trans hf h2
theorem CIs.few {i : Nat} {x : List UInt8 × List OpS} (h : CIs i x) : x.2.length ≤ 20 := by
 rcases h.ops with h | h
 ·rw [h]; simp
 ·exact (v6 h).1
theorem xed (l : List En) (hl : ∀ e ∈ l, kvOk (0, e.1, e.2)) : ∀ i, i ≤ l.length → CIs i (cAt l i)
 | 0, _ => ⟨by simp [cAt], .inl (by simp [cAt])⟩
 | i + 1, h => by
  rw [qww l h]
  exact xjk (xed l hl i (by omega)) (hl _ (List.getElem_mem h))
def Scom (s : Sto) (l : List En) (i : Nat) (x : List UInt8 × List OpS) : St :=
 ⟨[(0, true, .d (.ptr 0 0)), (3, true, .d (.ptr 2 0)), (4, true, .d (.ptr 3 0)), (5, true, .d (.func (.func 129) [] [.ptr 3 0, .ptr 2 0])), (15, true, .d (.sl 2 (l.map k8))), (16, true, .d (.int .i64 l.length)), (17, true, .d (.int .i64 (i : Nat)))],
  [stoO s 1, mapO s.m, .row [.d (.sl 1 (qd x.1)), .d (.int .i64 0)], .row [.uni 0 3 (x.2.map qp)]], [0], 1⟩
set_option maxRecDepth 10000 in
theorem q9k (s : Sto) (hs : s.m.Good) :
  qg Tryz.prog 63 [.d (.ptr 0 0)] [stoO s 1, mapO s.m] (.d (.int .i64 0)) [stoO (qil s) 1, mapO s.m] := by
 have hls := xmy s [] hs.ok (by have := hs.few; omega) (fun x hx => by have := (hs.small x hx).2.2; omega)
 have hll : (qc7 s.m []).length ≤ 400 := Nat.le_trans (xcw s.m []) hs.few
 have hkv : ∀ e ∈ qc7 s.m [], kvOk (0, e.1, e.2) := by
  intro e he
  rw [qc7, (v7 _).mem_iff, preL, List.mem_map] at he
  obtain ⟨y, hy, rfl⟩ := he
  exact hs.small y (List.mem_filter.1 hy).1
 have hfin : qwv (qc7 s.m []) = qce (cAt (qc7 s.m []) (qc7 s.m []).length).1 (cAt (qc7 s.m []) (qc7 s.m []).length).2 := by rw [qwv, cAt, List.take_length]
 unfold qil
 simp only [stoO, mapO] at hls
 generalize qc7 s.m [] = l at hls hll hkv hfin
 refine F63r.go ?_
 try (refine ev2 @stoO.eq_1 @mapO.eq_1 ?_; try exact True.intro)
 (repeat (with_reducible refine ob ?_)); refine no_ ?_
 try (refine ev ?_; try exact True.intro)
 refine clO [0, 1] F92u hls ?_
 try (refine ev ?_; try exact True.intro)
 refine qj (fun i : { i : Nat // i ≤ l.length } => Scom s l i.val (cAt l i.val)) (fun i => l.length - i.val) ⟨0, Nat.zero_le _⟩ ?_ (fun i => ?_)
 ·have h0 : cAt l 0 = ([], []) := rfl
  try (refine ev7 @Scom.eq_1 @stoO.eq_1 @mapO.eq_1 @h0 @List.map_nil.{0,0} @qx @Int.ofNat_zero ?_; try exact True.intro)
 obtain ⟨i, hi⟩ := i
 have hci := xed l hkv i hi
 have hcf := hci.few
 have hcl := hci.file
 try (refine ev3 @Scom.eq_1 @stoO.eq_1 @mapO.eq_1 ?_; try exact True.intro)
 refine xn _ (fun hc => ?_) (fun hc => ?_)
 ·have hil : i < l.length := by simpa using hc
  have hnx := qww l hil
  generalize cAt l i = x at hci hcf hcl hnx
  obtain ⟨file, ops⟩ := x
  simp only at hci hcf hcl
  try (refine ev ?_; try exact True.intro)
  refine qqd (.cell 3 0) 0 3 (ops.map qp) ?_
  refine pu ?_
  have he2 : jx (ops ++ [cOp l[i]]) = jx ops ++ qp (cOp l[i]) := by simp [jx]
  have hF := F129
  have hnp1 := qak ops
  have hnp2 := qak (ops ++ [cOp l[i]])
  have hE := qrn (ops ++ [cOp l[i]]) [] rfl (by simp only [List.length_append, List.length_singleton]; omega)
  have hfA := qwx file ops (qp (cOp l[i])) (qjb _) (by omega) (by omega)
  have hfB := qwx file ops [] rfl (by omega) (by omega)
  rw [List.append_nil] at hE hfB
  rw [← he2] at hfA
  simp only [List.length_append, List.length_singleton] at hE
  have hfd : (ops.map qp).flatten = jx ops := rfl
  try (refine ev3 (qi k8 l hil) @k8.eq_1 @hfd ?_; try exact True.intro)
  refine ⟨by omega, ?_⟩
  refine qqg 4 ops.length rfl ?_ ?_ ?_ ?_ ?_
  ·rw [q9j (e := l[i]) (ex := []) (by rw [List.append_nil]; rfl)]
   try (refine ev2 @hnp2 @hnp1 ?_; try exact True.intro)
   refine clO [4] F85 hE ?_ (hik := by try (refine ev2 @hnp2 @D.inKL_noPtr ?_; try exact True.intro)) (hold := by try (refine ev1 @hnp2 ?_; try exact True.intro)) (htk := by try (refine ev1 @hnp2 ?_; try exact True.intro))
   try (refine ev2 @hnp2 @hnp1 ?_; try exact True.intro)
   refine xn _ (fun hx => ?_) (fun hx => ?_)
   ·skip
    have hxe : qjo (file, ops) l[i] = (qce file ops, [cOp l[i]]) := by rw [qjo, if_pos (by simpa using hx)]
    rw [hxe] at hnx
    try (refine ev ?_; try exact True.intro)
    refine clO [3, 2, 4] hF hfA ?_ (hik := by try (refine ev3 @hnp2 @hnp1 @D.inKL_noPtr ?_; try exact True.intro)) (hold := by try (refine ev2 @hnp2 @hnp1 ?_; try exact True.intro)) (htk := by try (refine ev2 @hnp2 @hnp1 ?_; try exact True.intro))
    try (refine ev2 @hnp2 @hnp1 ?_; try exact True.intro)
    refine qtj rfl ?_ ⟨by show 1 * 48 ≤ 140737488355328; decide, by show 1 ≤ 9223372036854775807; decide⟩
    try (refine ev2 @hnp2 @hnp1 ?_; try exact True.intro)
    refine qqe (.cell 3 0) 8 3 ([cOp l[i]].map qp) ?_ (hc := rfl) (hes := ?_) (hcl := ?_) (hok := D.okWR_noPtr (qby _)) (hn := by simp [Pos.notIn])
    ·refine pu ?_
     try (refine ev2 @hnp2 @hnp1 ?_; try exact True.intro)
     refine ⟨⟨i + 1, hil⟩, ?_, by dsimp only; omega⟩
     try (refine ev7 @Scom.eq_1 @stoO.eq_1 @mapO.eq_1 @hnx @hnp1 @hnp2 (qf (show i < 9223372036854775807 by omega)) ?_; try exact True.intro)
    ·intro r hr
     obtain ⟨x, _, rfl⟩ := List.mem_map.1 hr
     rfl
    ·exact fun d hd => List.all_eq_true.1 (qcm _) d hd
   ·skip
    have hxo : qjo (file, ops) l[i] = (file, ops ++ [cOp l[i]]) := by rw [qjo, if_neg (by simpa using hx)]
    rw [hxo] at hnx
    try (refine ev ?_; try exact True.intro)
    refine qqg 4 ops.length rfl ?_ ?_ ?_ ?_ ?_
    ·rw [q9j (e := l[i]) (ex := qp (cOp l[i])) (by rw [← he2]; rfl)]
     try (refine ev2 @hnp2 @hnp1 ?_; try exact True.intro)
     refine qqe (.cell 3 0) 4 3 ((ops ++ [cOp l[i]]).map qp) ?_ (hc := rfl) (hes := ?_) (hcl := ?_) (hok := D.okWR_noPtr (qby _)) (hp := by simp only [List.length_map, List.length_append, List.length_singleton]; rfl) (hn := by simp [Pos.notIn])
     ·refine pu ?_
      try (refine ev2 @hnp2 @hnp1 ?_; try exact True.intro)
      refine ⟨⟨i + 1, hil⟩, ?_, by dsimp only; omega⟩
      try (refine ev7 @Scom.eq_1 @stoO.eq_1 @mapO.eq_1 @hnx @hnp1 @hnp2 (qf (show i < 9223372036854775807 by omega)) ?_; try exact True.intro)
     ·intro r hr
      obtain ⟨x, _, rfl⟩ := List.mem_map.1 hr
      rfl
     ·exact fun d hd => List.all_eq_true.1 (qcm _) d hd
    ·rw [q9j (e := l[i]) (ex := qp (cOp l[i])) (by rw [← he2]; rfl)]
     try (refine ev2 @hnp2 @hnp1 ?_; try exact True.intro)
     refine qqe (.cell 3 0) 8 3 ((ops ++ [cOp l[i]]).map qp) ?_ (hc := rfl) (hes := ?_) (hcl := ?_) (hok := D.okWR_noPtr (qby _)) (hp := by simp only [List.length_map, List.length_append, List.length_singleton]; rfl) (hn := by simp [Pos.notIn])
     ·refine pu ?_
      try (refine ev2 @hnp2 @hnp1 ?_; try exact True.intro)
      refine ⟨⟨i + 1, hil⟩, ?_, by dsimp only; omega⟩
      try (refine ev7 @Scom.eq_1 @stoO.eq_1 @mapO.eq_1 @hnx @hnp1 @hnp2 (qf (show i < 9223372036854775807 by omega)) ?_; try exact True.intro)
     ·intro r hr
      obtain ⟨x, _, rfl⟩ := List.mem_map.1 hr
      rfl
     ·exact fun d hd => List.all_eq_true.1 (qcm _) d hd
    ·show ops.length * 3 ≤ ((jx (ops ++ [cOp l[i]])).map ASlot.d).length; rw [List.length_map, qd5, List.length_append]; omega
    ·show (ops.length + 1) * 48 ≤ _; omega
    ·show ops.length + 1 ≤ _; omega
  ·rw [q9j (e := l[i]) (ex := []) (by rw [List.append_nil]; rfl)]
   try (refine ev2 @hnp2 @hnp1 ?_; try exact True.intro)
   refine clO [7] F85 hE ?_ (hik := by try (refine ev2 @hnp2 @D.inKL_noPtr ?_; try exact True.intro)) (hold := by try (refine ev1 @hnp2 ?_; try exact True.intro)) (htk := by try (refine ev1 @hnp2 ?_; try exact True.intro))
   try (refine ev2 @hnp2 @hnp1 ?_; try exact True.intro)
   refine xn _ (fun hx => ?_) (fun hx => ?_)
   ·skip
    have hxe : qjo (file, ops) l[i] = (qce file ops, [cOp l[i]]) := by rw [qjo, if_pos (by simpa using hx)]
    rw [hxe] at hnx
    try (refine ev ?_; try exact True.intro)
    refine clO [3, 2, 4] hF hfB ?_ (hik := by try (refine ev3 @hnp2 @hnp1 @D.inKL_noPtr ?_; try exact True.intro)) (hold := by try (refine ev2 @hnp2 @hnp1 ?_; try exact True.intro)) (htk := by try (refine ev2 @hnp2 @hnp1 ?_; try exact True.intro))
    try (refine ev2 @hnp2 @hnp1 ?_; try exact True.intro)
    refine qtj rfl ?_ ⟨by show 1 * 48 ≤ 140737488355328; decide, by show 1 ≤ 9223372036854775807; decide⟩
    try (refine ev2 @hnp2 @hnp1 ?_; try exact True.intro)
    refine qqe (.cell 3 0) 8 3 ([cOp l[i]].map qp) ?_ (hc := rfl) (hes := ?_) (hcl := ?_) (hok := D.okWR_noPtr (qby _)) (hn := by simp [Pos.notIn])
    ·refine pu ?_
     try (refine ev2 @hnp2 @hnp1 ?_; try exact True.intro)
     refine ⟨⟨i + 1, hil⟩, ?_, by dsimp only; omega⟩
     try (refine ev7 @Scom.eq_1 @stoO.eq_1 @mapO.eq_1 @hnx @hnp1 @hnp2 (qf (show i < 9223372036854775807 by omega)) ?_; try exact True.intro)
    ·intro r hr
     obtain ⟨x, _, rfl⟩ := List.mem_map.1 hr
     rfl
    ·exact fun d hd => List.all_eq_true.1 (qcm _) d hd
   ·skip
    have hxo : qjo (file, ops) l[i] = (file, ops ++ [cOp l[i]]) := by rw [qjo, if_neg (by simpa using hx)]
    rw [hxo] at hnx
    try (refine ev ?_; try exact True.intro)
    refine qqg 4 ops.length rfl ?_ ?_ ?_ ?_ ?_
    ·rw [q9j (e := l[i]) (ex := []) (by rw [List.append_nil]; rfl)]
     try (refine ev2 @hnp2 @hnp1 ?_; try exact True.intro)
     refine qqe (.cell 3 0) 4 3 ((ops ++ [cOp l[i]]).map qp) ?_ (hc := rfl) (hes := ?_) (hcl := ?_) (hok := D.okWR_noPtr (qby _)) (hp := by simp only [List.length_map, List.length_append, List.length_singleton]; rfl) (hn := by simp [Pos.notIn])
     ·refine pu ?_
      try (refine ev2 @hnp2 @hnp1 ?_; try exact True.intro)
      refine ⟨⟨i + 1, hil⟩, ?_, by dsimp only; omega⟩
      try (refine ev7 @Scom.eq_1 @stoO.eq_1 @mapO.eq_1 @hnx @hnp1 @hnp2 (qf (show i < 9223372036854775807 by omega)) ?_; try exact True.intro)
     ·intro r hr
      obtain ⟨x, _, rfl⟩ := List.mem_map.1 hr
      rfl
     ·exact fun d hd => List.all_eq_true.1 (qcm _) d hd
    ·rw [q9j (e := l[i]) (ex := []) (by rw [List.append_nil]; rfl)]
     try (refine ev2 @hnp2 @hnp1 ?_; try exact True.intro)
     refine qqe (.cell 3 0) 8 3 ((ops ++ [cOp l[i]]).map qp) ?_ (hc := rfl) (hes := ?_) (hcl := ?_) (hok := D.okWR_noPtr (qby _)) (hp := by simp only [List.length_map, List.length_append, List.length_singleton]; rfl) (hn := by simp [Pos.notIn])
     ·refine pu ?_
      try (refine ev2 @hnp2 @hnp1 ?_; try exact True.intro)
      refine ⟨⟨i + 1, hil⟩, ?_, by dsimp only; omega⟩
      try (refine ev7 @Scom.eq_1 @stoO.eq_1 @mapO.eq_1 @hnx @hnp1 @hnp2 (qf (show i < 9223372036854775807 by omega)) ?_; try exact True.intro)
     ·intro r hr
      obtain ⟨x, _, rfl⟩ := List.mem_map.1 hr
      rfl
     ·exact fun d hd => List.all_eq_true.1 (qcm _) d hd
    ·show ops.length * 3 ≤ ((jx ops).map ASlot.d).length; rw [List.length_map, qd5]; omega
    ·show (ops.length + 1) * 48 ≤ _; omega
    ·show ops.length + 1 ≤ _; omega
  ·show ops.length * 3 ≤ ((jx ops).map ASlot.d).length
   rw [List.length_map, qd5]; omega
  ·show (ops.length + 1) * 48 ≤ _; omega
  ·show ops.length + 1 ≤ _; omega
 ·have hie : i = l.length := by
   have : l.length ≤ i := by simpa using hc
   omega
  subst hie
  generalize cAt l l.length = x at hci hcf hcl hfin
  obtain ⟨file, ops⟩ := x
  simp only at hci hcf hcl hfin
  have hnp1 := qak ops
  have hfd : (ops.map qp).flatten = jx ops := rfl
  have hfB := qwx file ops [] rfl (by omega) (by omega)
  rw [List.append_nil] at hfB
  have hcf2 := qmq file ops
  try (refine ev ?_; try exact True.intro)
  refine qqd (.cell 3 0) 0 3 (ops.map qp) ?_
  refine pu ?_
  try (refine ev2 @hfd @hnp1 ?_; try exact True.intro)
  refine clO [3, 2, 4] F129 hfB ?_ (hik := by try (refine ev2 @hnp1 @D.inKL_noPtr ?_; try exact True.intro)) (hold := by try (refine ev1 @hnp1 ?_; try exact True.intro)) (htk := by try (refine ev1 @hnp1 ?_; try exact True.intro))
  try (refine ev1 @hnp1 ?_; try exact True.intro)
  (repeat (with_reducible refine ob ?_)); first | refine cl F128 (qia (qce file ops) 0 (by omega)) ?_ | refine clF F128 (qia (qce file ops) 0 (by omega)) (fun _ => by (refine ev3 @qp.eq_1 @k8.eq_1 @zk.eq_1 ?_; try exact True.intro)) ?_
  try (refine ev3 @wz.eq_1 @hfin @hnp1 ?_; try exact True.intro)
end Go.Proofs.YtkcdbcbpbolgkaaGreatDoor
namespace Go.Proofs.YtkcdbcbpbolgkaaGreatDoor
open Go.Abs
structure CTx (x : List UInt8 × List OpS) (ts : List (List OpS)) (ops : List OpS) : Prop where
 file : x.1 = qeo ts
 enc : ∀ t ∈ ts, (qr t).2 = 0
 now : x.2 = [] ∨ (qr x.2).2 = 0
 all : ts.flatten ++ x.2 = ops
theorem xee {m : Cont} (hm : m.Good) : ∀ e ∈ jl m, kvOk (0, e.1, e.2) := by
 intro e he
 rw [jl, qc7, (v7 _).mem_iff, preL, List.mem_map] at he
 obtain ⟨y, hy, rfl⟩ := he
 exact hm.small y (List.mem_filter.1 hy).1
end Go.Proofs.YtkcdbcbpbolgkaaGreatDoor
namespace Go.Proofs.YtkcdbcbpbolgkaaGreatDoor
open Go.Abs
set_option maxRecDepth 100000
theorem qmr {α : Type} {enc : α → List D} {Q : α → Prop} : ∀ {rows : List (List D)}, (∀ r ∈ rows, ∃ x, r = enc x ∧ Q x) → ∃ l : List α, rows = l.map enc ∧ ∀ x ∈ l, Q x
 | [], _ => ⟨[], rfl, by simp⟩
 | r :: rows, h => by
  obtain ⟨x, rfl, hx⟩ := h r (by simp)
  obtain ⟨l, rfl, hl⟩ := qmr (enc := enc) (Q := Q) (rows := rows) (fun r hr => h r (by simp [hr]))
  exact ⟨x :: l, rfl, by simpa using ⟨hx, hl⟩⟩
theorem xef {n : Int} (h : (Lit.int .i64 n).wf = true) : I64 n := by
 have h1 : IntKind.i64.min = -9223372036854775808 := by decide
 have h2 : IntKind.i64.max = 9223372036854775807 := by decide
 simp only [Lit.wf, Bool.and_eq_true, decide_eq_true_eq, h1, h2] at h
 exact h
theorem xsl {n : Int} (h : (Lit.int .u8 n).wf = true) : 0 ≤ n ∧ n ≤ 255 := by
 have h1 : IntKind.u8.min = 0 := by decide
 have h2 : IntKind.u8.max = 255 := by decide
 simp only [Lit.wf, Bool.and_eq_true, decide_eq_true_eq, h1, h2] at h
 exact h
theorem xqz {n : Nat} {ds : List D} (h : Shp Tryz.prog (n + 1) 3 ds) : ∃ x, ds = [.int .i64 x] ∧ I64 x := by
 simp only [Shp, Tryz.underlying3] at h
 obtain ⟨x, rfl, h⟩ := h
 exact ⟨x, rfl, xef h⟩
theorem xno {n : Nat} {ds : List D} (h : Shp Tryz.prog (n + 1) 5 ds) : ∃ x : Nat, ds = [.int .u8 (x : Nat)] ∧ x < 256 := by
 simp only [Shp, Tryz.underlying5] at h
 obtain ⟨x, rfl, h⟩ := h
 have := xsl h
 refine ⟨x.toNat, ?_, by omega⟩
 rw [Int.toNat_of_nonneg this.1]
end Go.Proofs.YtkcdbcbpbolgkaaGreatDoor
