/- Texts Yh, Ci, Cj, Vr, Vb, Vp, Yk, Vd, Ve, Vf, Vg, Vh, Zb, Zc, Zd, Ze, Zg, Zj, Zk, Zl, Zm, Ws. -/
import Derived.Test.YtkcdbcbpbolgkaaGreatDoorMqo
set_option linter.unusedSimpArgs false
set_option linter.unusedVariables false
namespace Go.Proofs.YtkcdbcbpbolgkaaGreatDoor
open Go.Abs
theorem toNat_ofNat {n : Nat} (h : n < 256) : (UInt8.ofNat n).toNat = n := by simp [UInt8.toNat_ofNat]; omega
end Go.Proofs.YtkcdbcbpbolgkaaGreatDoor
namespace Go.Proofs.YtkcdbcbpbolgkaaGreatDoor
open Go.Abs
noncomputable section
set_option maxRecDepth 100000
set_option linter.defProp false
def d205 := cut Tryz.prog Tryz.f205 news
@[go_sem] def E205 := ql d205
def d199 := cut Tryz.prog Tryz.f199 news
@[go_sem] def E199 := ql d199
def d49 := cut Tryz.prog Tryz.f49 news
@[go_sem] def E49 := ql d49
end
end Go.Proofs.YtkcdbcbpbolgkaaGreatDoor
namespace Go.Proofs.YtkcdbcbpbolgkaaGreatDoor
open Go.Abs
noncomputable section
set_option maxRecDepth 100000
set_option linter.defProp false
def d50 := cut Tryz.prog Tryz.f50 news
@[go_sem] def E50 := ql d50
end
end Go.Proofs.YtkcdbcbpbolgkaaGreatDoor
namespace Go.Proofs.YtkcdbcbpbolgkaaGreatDoor
open Go.Abs
structure QW0 (q : Qu) : Prop where
 lo : 0 ≤ q.cons
 le : q.cons ≤ q.acc
 hi : q.acc ≤ 1099511627776
 len : (q.items.length : Int) = q.acc - q.cons
 few : q.items.length ≤ 4
 item : ∀ (i : Nat) (h : i < q.items.length), vt q.items[i] = true ∧ qiu q.items[i] (q.items[0]'(by omega)) = true ∧ q.items[i].seq = q.cons + 1 + i
theorem xls {c : Int} {i : Nat} (h1 : 0 ≤ c) (h2 : c ≤ 1099511627776) (h3 : i ≤ 4) : IntKind.i64.wrap (IntKind.i64.wrap (c + 1) + (i : Int)) = c + 1 + i := by
 rw [wrap_i64 (n := c + 1) (by omega) (by omega), wrap_i64 (by omega) (by omega)]
theorem q0t {q : Qu} {i : Nat} (h1 : 0 ≤ q.cons) (h2 : q.cons ≤ 1099511627776) (h3 : q.items.length ≤ 4) (hi : i < q.items.length) :
  qqp q i = true ↔ vt q.items[i] = true ∧ qiu q.items[i] (q.items[0]'(by omega)) = true ∧ q.items[i].seq = q.cons + 1 + i := by
 have h0 : 0 < q.items.length := by omega
 simp only [qqp, zc hi, zc h0, Bool.and_eq_true, beq_iff_eq, xls h1 h2 (show i ≤ 4 by omega), and_assoc]
theorem y7 (q : Qu) : yc q = true ↔ QW0 q := by
 simp only [yc, Bool.and_eq_true, decide_eq_true_eq, beq_iff_eq, zd]
 constructor
 ·rintro ⟨h, ⟨⟨⟨h1, h2⟩, h3⟩, h4⟩, h5⟩
  rw [wrap_i64 (by omega) (by omega)] at h4
  exact ⟨h1, h2, h3, h4, by omega, fun i hi => (q0t h1 (by omega) (by omega) hi).1 (h i hi)⟩
 ·rintro ⟨h1, h2, h3, h4, h5, h6⟩
  rw [wrap_i64 (by omega) (by omega)]
  exact ⟨fun i hi => (q0t h1 (by omega) h5 hi).2 (h6 i hi), ⟨⟨⟨h1, h2⟩, h3⟩, h4⟩, by omega⟩
end Go.Proofs.YtkcdbcbpbolgkaaGreatDoor
namespace Go.Proofs.YtkcdbcbpbolgkaaGreatDoor
open Go.Abs
noncomputable section
set_option maxRecDepth 100000
set_option linter.defProp false
def d301 := cut Tryz.prog Tryz.f301 news
@[go_sem] def E301 := ql d301
def d304 := cut Tryz.prog Tryz.f304 news
@[go_sem] def E304 := ql d304
def d300 := cut Tryz.prog Tryz.f300 news
@[go_sem] def E300 := ql d300
def d303 := cut Tryz.prog Tryz.f303 news
@[go_sem] def E303 := ql d303
def d299 := cut Tryz.prog Tryz.f299 news
@[go_sem] def E299 := ql d299
def d302 := cut Tryz.prog Tryz.f302 news
@[go_sem] def E302 := ql d302
def d298 := cut Tryz.prog Tryz.f298 news
@[go_sem] def E298 := ql d298
def d254 := cut Tryz.prog Tryz.f254 news
@[go_sem] def E254 := ql d254
def d253 := cut Tryz.prog Tryz.f253 news
@[go_sem] def E253 := ql d253
end
end Go.Proofs.YtkcdbcbpbolgkaaGreatDoor
namespace Go.Proofs.YtkcdbcbpbolgkaaGreatDoor
open Go.Abs
end Go.Proofs.YtkcdbcbpbolgkaaGreatDoor
namespace Go.Proofs.YtkcdbcbpbolgkaaGreatDoor
open Go.Abs
end Go.Proofs.YtkcdbcbpbolgkaaGreatDoor
namespace Go.Proofs.YtkcdbcbpbolgkaaGreatDoor
open Go.Abs
noncomputable section
set_option maxRecDepth 100000
set_option linter.defProp false
def d252 := cut Tryz.prog Tryz.f252 news
@[go_sem] def E252 := ql d252
def d187 := cut Tryz.prog Tryz.f187 news
@[go_sem] def E187 := ql d187
end
end Go.Proofs.YtkcdbcbpbolgkaaGreatDoor
namespace Go.Proofs.YtkcdbcbpbolgkaaGreatDoor
open Go.Abs
noncomputable section
set_option maxRecDepth 100000
set_option linter.defProp false
def xrb := cut Tryz.prog Tryz.f106 news [] [8]
@[go_sem] def xuk := ql xrb
end
end Go.Proofs.YtkcdbcbpbolgkaaGreatDoor
namespace Go.Proofs.YtkcdbcbpbolgkaaGreatDoor
open Go.Abs
theorem qc1 {n : Int} (h0 : 0 ≤ n) (h1 : n ≤ 1099511627776) : (wInt n).length ≤ 6 :=
 ql6 5 _ (by
  unfold zz; rw [if_pos h0]; have : (128 : Nat) ^ (5 + 1) = 4398046511104 := by decide
  omega)
theorem qrg {p : Pk} (h : qj p = true) : (∀ x ∈ kx p, 0 ≤ x ∧ x ≤ 1099511627776) ∧ (∀ v ∈ p.values, qbd v = true) ∧ ∀ x ∈ p.clock, 0 ≤ x ∧ x ≤ 1099511627776 := by
 unfold qj qep at h
 simp only [Bool.and_eq_true, decide_eq_true_eq] at h
 obtain ⟨⟨⟨⟨k1, k2⟩, k3⟩, k4⟩, h⟩ := h
 have hd : (∀ x ∈ [p.epoch, p.from_, p.to, p.seq, p.label], 0 ≤ x ∧ x ≤ 1099511627776) → ∀ x ∈ kx p, 0 ≤ x ∧ x ≤ 1099511627776 := by
  intro h x hx
  simp only [kx, List.mem_cons] at hx
  rcases hx with rfl | rfl | hx
  ·omega
  ·omega
  ·exact h x (by simpa using hx)
 have bareC : bare p = true → p.epoch = 0 ∧ (∀ v ∈ p.values, qbd v = true) ∧ ∀ x ∈ p.clock, 0 ≤ x ∧ x ≤ 1099511627776 := by
  intro hb
  simp only [bare, Bool.and_eq_true, beq_iff_eq] at hb
  have h1 : p.values = [] := List.eq_nil_of_length_eq_zero (by omega)
  have h2 : p.clock = [] := List.eq_nil_of_length_eq_zero (by omega)
  rw [h1, h2]
  exact ⟨hb.1.1, fun v hv => (by cases hv), fun v hv => (by cases hv)⟩
 split at h
 ·simp only [data, qcx, role, Bool.and_eq_true, Bool.or_eq_true, decide_eq_true_eq, beq_iff_eq, Bool.not_eq_true', List.any_eq_false, Bool.or_eq_false_iff, decide_eq_false_iff_not, Bool.not_eq_false', not_or, Bool.not_eq_true] at h
  refine ⟨hd fun x hx => ?_, fun v hv => ?_, fun x hx => ?_⟩
  ·simp only [List.mem_cons, List.not_mem_nil, or_false] at hx
   rcases hx with rfl | rfl | rfl | rfl | rfl <;> omega
  ·have := h.1.2 v hv; simpa using this
  ·have := h.2 x hx; omega
 ·split at h
  ·simp only [ack, qcx, role, Bool.and_eq_true, decide_eq_true_eq, beq_iff_eq] at h
   obtain ⟨b1, b2, b3⟩ := bareC h.1.2
   refine ⟨hd fun x hx => ?_, b2, b3⟩
   simp only [List.mem_cons, List.not_mem_nil, or_false] at hx
   rcases hx with rfl | rfl | rfl | rfl | rfl <;> omega
  ·simp only [order, role, Bool.and_eq_true, Bool.or_eq_true, decide_eq_true_eq, beq_iff_eq] at h
   obtain ⟨b1, b2, b3⟩ := bareC h.1.1.2
   refine ⟨hd fun x hx => ?_, b2, b3⟩
   simp only [List.mem_cons, List.not_mem_nil, or_false] at hx
   rcases hx with rfl | rfl | rfl | rfl | rfl <;> omega
theorem quj {p : Pk} (h : qj p = true) : ∀ x ∈ kx p, 0 ≤ x ∧ x ≤ 1099511627776 := (qrg h).1
theorem qnu {p : Pk} (h : qj p = true) : ∀ v ∈ p.values, qbd v = true := (qrg h).2.1
theorem qrh {p : Pk} (h : qj p = true) : ∀ x ∈ p.clock, 0 ≤ x ∧ x ≤ 1099511627776 := (qrg h).2.2
theorem xn2 {v : AV} (hp : qbd v = true) (hs : v.Sm) : (wAV v).length ≤ 60 := by
 obtain ⟨k, n, s⟩ := v
 unfold qbd at hp
 have hk : k = 1 ∨ k = 2 := by grind
 have h1 := qc1 (n := k) (by omega) (by omega)
 have h2 := xt hs.2.1
 unfold wAV
 rw [List.length_append]
 simp only at h1 h2 ⊢
 split
 ·omega
 ·split
  ·have h40 : (s.length : Int) ≤ 40 := by grind
   have h3 := qc1 (n := s.length) (by omega) (by omega)
   simp only [qa8, List.length_append]; omega
  ·simp only [List.length_nil]; omega
theorem xlt {p : Pk} (hv : qj p = true) (hw : p.W) : (yd p).length ≤ 340 := by
 obtain ⟨f1, f2⟩ := qer hv
 have a1 := qcd wInt 6 (kx p) fun x hx => qc1 (quj hv x hx).1 (quj hv x hx).2
 have a2 := qcd wAV 60 p.values fun x hx => xn2 (qnu hv x hx) (hw.v x hx)
 have a3 := qcd wInt 6 p.clock fun x hx => qc1 (qrh hv x hx).1 (qrh hv x hx).2
 have b2 := qc1 (n := p.values.length) (by omega) (by omega)
 have b3 := qc1 (n := p.clock.length) (by omega) (by omega)
 have h7 : (kx p).length = 7 := rfl
 simp only [yd, wAVs, qma, List.length_append]
 omega
theorem xn3 (p : Pk) (hw : p.W) : (qa9 p).1.length ≤ 348 := by
 unfold qa9
 split
 ·rename_i h
  have := xlt h hw
  simp only [qhr, List.length_append, k9]; omega
 ·simp
end Go.Proofs.YtkcdbcbpbolgkaaGreatDoor
namespace Go.Proofs.YtkcdbcbpbolgkaaGreatDoor
open Go.Abs
def qiw (v : List UInt8) : Option (List UInt8) := if v = [] then none else some v
def Rep (m : Cont) (name : List UInt8) (q : Qu) : Prop := mGet (nKey name) m = qiw (qaq q) ∧ ∀ d, d < 4 → mGet (sKey name d) m = qiw (qbe q d)
theorem qik (k : List UInt8) : ∀ (l : List OpS) (a : Option (List UInt8)) (l' : List OpS), vk k a (l ++ l') = vk k (vk k a l) l'
 | [], _, _ => rfl
 | o :: l, a, l' => qik k l _ l'
theorem quk {k o n : List UInt8} : vk k (qiw o) (chg k o n) = qiw n := by
 unfold chg
 split
 ·rename_i h; rw [h]; rfl
 ·simp only [vk, if_true, qiw]
  by_cases hn : n = [] <;> simp [hn]
theorem qdb {k k' o n : List UInt8} {a : Option (List UInt8)} (h : k' ≠ k) : vk k a (chg k' o n) = a := by
 unfold chg
 split
 ·rfl
 ·simp only [vk, if_neg h]
theorem xlu (name : List UInt8) {d : Nat} (hd : d < 4) : nKey name ≠ sKey name d := by
 intro h
 have := List.append_cancel_left h
 have h4 : d = 0 ∨ d = 1 ∨ d = 2 ∨ d = 3 := by omega
 rcases h4 with rfl | rfl | rfl | rfl <;> exact absurd this (by decide)
theorem xrc (name : List UInt8) {d e : Nat} (hd : d < 4) (he : e < 4) (h : d ≠ e) : sKey name d ≠ sKey name e := by
 intro hk
 have := List.append_cancel_left hk
 have h4 : d = 0 ∨ d = 1 ∨ d = 2 ∨ d = 3 := by omega
 have h5 : e = 0 ∨ e = 1 ∨ e = 2 ∨ e = 3 := by omega
 rcases h4 with rfl | rfl | rfl | rfl <;> rcases h5 with rfl | rfl | rfl | rfl <;> first | exact absurd rfl h | exact absurd this (by decide)
theorem q05 (a b : Qu) (name : List UInt8) : ∀ D, D ≤ 4 → vk (nKey name) (qiw (qaq a)) (vu a b name D) = qiw (qaq b)
 | 0, _ => quk
 | D + 1, h => by rw [vu, qik, q05 a b name D (by omega), qdb (Ne.symm (xlu name (by omega)))]
theorem q06 (a b : Qu) (name : List UInt8) {e : Nat} (he : e < 4) : ∀ D, D ≤ 4 → vk (sKey name e) (qiw (qbe a e)) (vu a b name D) = qiw (if e < D then qbe b e else qbe a e)
 | 0, _ => by rw [vu, qdb (xlu name he)]; simp
 | D + 1, h => by
  rw [vu, qik, q06 a b name he D (by omega)]
  by_cases hD : D = e
  ·subst hD
   rw [if_neg (by omega), quk, if_pos (by omega)]
  ·rw [qdb (xrc name (by omega) he hD)]
   by_cases hl : e < D
   ·rw [if_pos hl, if_pos (by omega)]
   ·rw [if_neg hl, if_neg (by omega)]
theorem qil (a b : Qu) (name k : List UInt8) (h0 : nKey name ≠ k) (hs : ∀ d, d < 4 → sKey name d ≠ k) (x : Option (List UInt8)) : ∀ D, D ≤ 4 → vk k x (vu a b name D) = x
 | 0, _ => qdb h0
 | D + 1, h => by rw [vu, qik, qil a b name k h0 hs x D (by omega), qdb (hs D (by omega))]
structure QV (q : Qu) : Prop where
 c0 : 0 ≤ q.cons
 c1 : q.cons ≤ q.acc
 c2 : q.acc ≤ 1099511627776
 len : (q.items.length : Int) = q.acc - q.cons
 few : q.items.length ≤ 4
 it : ∀ i (h : i < q.items.length), qj q.items[i] = true ∧ q.items[i].seq = q.cons + 1 + i
theorem xn5 {q : Qu} (h : yc q = true) : QV q := by
 unfold yc at h
 simp only [Bool.and_eq_true, decide_eq_true_eq, beq_iff_eq] at h
 obtain ⟨ha, ⟨⟨⟨c0, c1⟩, c2⟩, c3⟩, c4⟩ := h
 rw [zk (by unfold I64; omega)] at c3
 refine ⟨c0, c1, c2, c3, by omega, fun i hi => ?_⟩
 have := zd.1 ha i hi
 unfold qqp vt at this
 simp only [Bool.and_eq_true, beq_iff_eq] at this
 rw [zc hi, zk (n := q.cons + 1) (by unfold I64; omega), zk (by unfold I64; omega)] at this
 exact ⟨this.1.1.2, this.2⟩
theorem QV.I {q : Qu} (h : QV q) : I64 q.acc ∧ I64 q.cons := by
 obtain ⟨c0, c1, c2, _, _, _⟩ := h
 unfold I64; omega
end Go.Proofs.YtkcdbcbpbolgkaaGreatDoor
namespace Go.Proofs.YtkcdbcbpbolgkaaGreatDoor
open Go.Abs
theorem xed {k o n : List UInt8} {x : OpS} (h : x ∈ chg k o n) : x.key = k ∧ x.val = n ∧ (x.del = true → n = []) := by
 unfold chg at h
 split at h
 ·cases h
 ·simp only [List.mem_cons, List.not_mem_nil, or_false] at h
  subst h
  exact ⟨rfl, rfl, fun h => by simpa using h⟩
theorem qw0 {a b : Qu} {name : List UInt8} {x : OpS} : ∀ {D : Nat}, x ∈ vu a b name D → x.key.length = name.length + 2 ∧ (x.val = qaq b ∨ ∃ d : Nat, x.val = qbe b d) ∧ (x.del = true → x.val = [])
 | 0, h => by
  obtain ⟨h1, h2, h3⟩ := xed h
  exact ⟨by rw [h1]; simp [nKey], .inl h2, fun hd => by rw [h2]; exact h3 hd⟩
 | D + 1, h => by
  rcases List.mem_append.1 h with h | h
  ·exact qw0 h
  ·obtain ⟨h1, h2, h3⟩ := xed h
   exact ⟨by rw [h1]; simp [sKey], .inr ⟨D, h2⟩, fun hd => by rw [h2]; exact h3 hd⟩
theorem xju {q : Qu} (h : QV q) : (qaq q).length ≤ 12 := by
 obtain ⟨c0, c1, c2, _, _, _⟩ := h
 have h1 := qc1 (n := q.acc) (by omega) (by omega)
 have h2 := qc1 (n := q.cons) (by omega) (by omega)
 unfold qaq
 split
 ·simp
 ·rw [List.length_append]; omega
theorem xjv {q : Qu} (hw : q.W) (d : Int) : (qbe q d).length ≤ 348 := by
 unfold qbe
 split
 ·rename_i p hp
  exact xn3 p (hw.p _ (List.mem_of_find?_eq_some hp))
 ·simp
theorem xee {q : Qu} (h : QV q) (hw : q.W) {v : List UInt8} (hv : v = qaq q ∨ ∃ d : Nat, v = qbe q d) : v.length ≤ 348 := by
 rcases hv with rfl | ⟨d, rfl⟩
 ·have := xju h; omega
 ·exact xjv hw d
theorem q07 {s : List UInt8} (h : s.length ≤ 1000000) : (qa8 s).length ≤ s.length + 6 := by
 have := qc1 (n := s.length) (by omega) (by omega)
 rw [qa8, List.length_append]; omega
theorem q6p {a b : Qu} {name : List UInt8} (hb : QV b) (wb : b.W) (hn : name.length ≤ 30) (hne : vu a b name 4 ≠ []) : (qr (vu a b name 4)).2 = 0 := by
 have hl := qf6 a b name 4
 have hp : ∀ o ∈ vu a b name 4, kj o = true := fun o ho => by
  obtain ⟨h1, h2, h3⟩ := qw0 ho
  have h4 := xee hb wb h2
  exact we.2 ⟨by omega, by omega, by omega, fun hd => by rw [h3 hd]; rfl⟩
 have hs := qcd wOp 393 (vu a b name 4) fun o ho => by
  obtain ⟨h1, h2, h3⟩ := qw0 ho
  have h4 := xee hb wb h2
  have h5 := q07 (s := o.key) (by omega)
  have h6 := q07 (s := o.val) (by omega)
  simp only [wOp, List.length_append, List.length_cons, List.length_nil]; omega
 have hc := qc1 (n := (vu a b name 4).length) (by omega) (by omega)
 have hpos : 0 < (vu a b name 4).length := List.length_pos_iff.2 hne
 unfold qr
 rw [if_neg, if_neg]
 ·simp only [Bool.or_eq_true, decide_eq_true_eq, not_or, wOps, List.length_append]
  omega
 ·simp only [Bool.or_eq_true, decide_eq_true_eq, not_or, List.any_eq_true, not_exists, not_and]
  exact ⟨by omega, fun o ho => by simp [hp o ho]⟩
theorem qim : ∀ (l : List OpS) (m : Cont), m.l.length + l.length ≤ 400 → (jr m l).2 = true ∧ (jr m l).1.l.length ≤ m.l.length + l.length
 | [], m, h => ⟨rfl, Nat.le_refl _⟩
 | o :: l, m, h => by
  rw [jr]
  simp only [List.length_cons] at h ⊢
  split
  ·have h1 := qwm o.key m
   have := qim l (mDel o.key m) (by omega)
   exact ⟨this.1, by omega⟩
  ·have h1 := q56 o.key o.val m
   rw [if_neg (by omega)]
   have := qim l (mPut o.key o.val m) (by omega)
   exact ⟨this.1, by omega⟩
structure Sto.Few (n : Nat) (s : Sto) : Prop where
 ok : s.Ok n
 len : s.m.l.length ≤ 5 * n
theorem Sto.Few.v {n : Nat} {s : Sto} (h : s.Few n) : ∀ x ∈ s.m.l, x.2.2.length ≤ 1000000 := fun x hx => by
 have := (h.ok.good.small x hx).2.2; omega
theorem xjw {m m' : Cont} {a b : Qu} {name : List UInt8} (hr : Rep m name a) (hg : ∀ k, mGet k m' = vk k (mGet k m) (vu a b name 4)) : Rep m' name b := by
 refine ⟨by rw [hg, hr.1, q05 a b name 4 (Nat.le_refl _)], fun d hd => ?_⟩
 rw [hg, hr.2 d hd, q06 a b name hd 4 (Nat.le_refl _), if_pos hd]
theorem xef {m m' : Cont} {a b c : Qu} {name other : List UInt8} (hno : ∀ (x y : List UInt8), x.length = 2 → y.length = 2 → name ++ x ≠ other ++ y) (hr : Rep m other c) (hg : ∀ k, mGet k m' = vk k (mGet k m) (vu a b name 4)) : Rep m' other c := by
 refine ⟨?_, fun d hd => ?_⟩
 ·rw [hg, qil a b name (nKey other) (hno [47, 110] [47, 110] rfl rfl) (fun d _ => hno [47, UInt8.ofNat (48 + d)] [47, 110] rfl rfl) _ 4 (Nat.le_refl _), hr.1]
 ·rw [hg, qil a b name (sKey other d) (hno [47, 110] [47, UInt8.ofNat (48 + d)] rfl rfl) (fun e _ => hno [47, UInt8.ofNat (48 + e)] [47, UInt8.ofNat (48 + d)] rfl rfl) _ 4 (Nat.le_refl _), hr.2 d hd]
theorem xeg (name : List UInt8) : Rep qds name ja := ⟨rfl, fun d _ => rfl⟩
theorem xeh {k o n : List UInt8} (h : chg k o n = []) : o = n := by
 unfold chg at h
 split at h
 ·assumption
 ·cases h
theorem q6q {a b : Qu} {name : List UInt8} : ∀ {D : Nat}, vu a b name D = [] → qaq a = qaq b ∧ ∀ d, d < D → qbe a d = qbe b d
 | 0, h => ⟨xeh h, fun d hd => absurd hd (Nat.not_lt_zero _)⟩
 | D + 1, h => by
  obtain ⟨h1, h2⟩ := List.append_eq_nil_iff.1 h
  obtain ⟨i1, i2⟩ := q6q h1
  refine ⟨i1, fun d hd => ?_⟩
  rcases Nat.lt_or_ge d D with hl | hl
  ·exact i2 d hl
  ·have : d = D := by omega
   subst this; exact xeh h2
theorem xjx {m : Cont} {a b : Qu} {name : List UInt8} (h1 : qaq a = qaq b) (h2 : ∀ d : Nat, d < 4 → qbe a d = qbe b d) (hr : Rep m name a) : Rep m name b := ⟨by rw [← h1]; exact hr.1, fun d hd => by rw [← h2 d hd]; exact hr.2 d hd⟩
end Go.Proofs.YtkcdbcbpbolgkaaGreatDoor
namespace Go.Proofs.YtkcdbcbpbolgkaaGreatDoor
open Go.Abs
structure Rds where
 pos : Nat
 seed : Nat
 now : List UInt8
 recs : List (List UInt8)
 ends : List Nat
 deriving Inhabited
def Rds.used (s : Rds) : Nat := s.ends.getLastD 0
structure Rds.Ok (b : List UInt8) (s : Rds) : Prop where
 pos : s.pos ≤ b.length
 seed : s.seed < 18446744073709551616
 now : s.now.length ≤ 2000
 recs : s.recs.length ≤ s.pos
 ends : s.ends.length ≤ s.pos
 used : s.used ≤ s.pos
 small : ∀ r ∈ s.recs, r.length ≤ 2000
end Go.Proofs.YtkcdbcbpbolgkaaGreatDoor
namespace Go.Proofs.YtkcdbcbpbolgkaaGreatDoor
open Go.Abs
def zf (rs : List (List UInt8)) : List UInt8 := rs.foldl yr []
structure Behind (rs : List (List UInt8)) (s : Rds) : Prop where
 pos : s.pos = (zf rs).length
 seed : s.seed = qby (zf rs)
 now : s.now = []
 recs : s.recs = rs
 used : s.used = (zf rs).length
structure ReadOf (rs : List (List UInt8)) (k j : Nat) (x : Rds × Int) : Prop where
 le : j ≤ rs.length
 recs : x.1.recs = rs.take j
 used : x.1.used = (zf (rs.take j)).length
 fit : (zf (rs.take j)).length ≤ k
 all : ∀ i, i ≤ rs.length → (zf (rs.take i)).length ≤ k → i ≤ j
end Go.Proofs.YtkcdbcbpbolgkaaGreatDoor
namespace Go.Proofs.YtkcdbcbpbolgkaaGreatDoor
open Go.Abs
noncomputable section
set_option maxRecDepth 100000
set_option linter.defProp false
def d339 := cut Tryz.prog Tryz.f339 news
@[go_sem] def E339 := ql d339
def d342 := cut Tryz.prog Tryz.f342 news
@[go_sem] def E342 := ql d342
def d338 := cut Tryz.prog Tryz.f338 news
@[go_sem] def E338 := ql d338
def d328 := cut Tryz.prog Tryz.f328 news
@[go_sem] def E328 := ql d328
def d190 := cut Tryz.prog Tryz.f190 news
@[go_sem] def E190 := ql d190
def d290 := cut Tryz.prog Tryz.f290 news
@[go_sem] def E290 := ql d290
end
def qac (l : List Nat) : List (List D) := l.map fun n => [.int .i64 (n : Nat)]
end Go.Proofs.YtkcdbcbpbolgkaaGreatDoor
namespace Go.Proofs.YtkcdbcbpbolgkaaGreatDoor
open Go.Abs
noncomputable section
set_option maxRecDepth 100000
set_option linter.defProp false
def d289 := cut Tryz.prog Tryz.f289 news
@[go_sem] def E289 := ql d289
def d248 := cut Tryz.prog Tryz.f248 news
@[go_sem] def E248 := ql d248
def d181 := cut Tryz.prog Tryz.f181 news
@[go_sem] def E181 := ql d181
end
def qch (l : List (List UInt8)) : List (List D) := l.map fun r => [.sl 1 (qd r)]
theorem qw2 (l : List (List UInt8)) : D.noPtrR (qch l) = true := xx (fun r => by simp only [D.noPtrL, D.noPtr, y4, Bool.and_self]) l
theorem q4p (l : List (List UInt8)) : (qch l).length = l.length := by simp [qch]
theorem q4q : qch [] = [] := rfl
theorem qw3 (l : List Nat) : D.noPtrR (qac l) = true := xx (fun _ => rfl) l
theorem q4r (l : List Nat) : (qac l).length = l.length := by simp [qac]
theorem q4s : qac [] = [] := rfl
attribute [go_sem] qw2 q4p q4q qw3 q4r q4s
end Go.Proofs.YtkcdbcbpbolgkaaGreatDoor
namespace Go.Proofs.YtkcdbcbpbolgkaaGreatDoor
open Go.Abs
noncomputable section
set_option maxRecDepth 100000
set_option linter.defProp false
def d105 := cut Tryz.prog Tryz.f105 news
@[go_sem] def E105 := ql d105
end
end Go.Proofs.YtkcdbcbpbolgkaaGreatDoor
namespace Go.Proofs.YtkcdbcbpbolgkaaGreatDoor
open Go.Abs
def eRun : List En → List (List OpS) → Option (List En)
 | m, [] => some m
 | m, t :: ts => if (qa4 m t).2 = false then none else eRun (qa4 m t).1 ts
def qe0 (ts : List (List OpS)) : List UInt8 := zf (ts.map wOps)
structure Bk (s : Sto) (ts : List (List OpS)) : Prop where
 file : s.file = qe0 ts
 enc : ∀ t ∈ ts, (qr t).2 = 0
 run : eRun [] ts = some (jm s.m)
end Go.Proofs.YtkcdbcbpbolgkaaGreatDoor
namespace Go.Proofs.YtkcdbcbpbolgkaaGreatDoor
open Go.Abs
def jz (l : List OpS) : List D := (l.map qo).flatten
theorem qef (l : List OpS) : (jz l).length = l.length * 3 := by induction l <;> simp_all [jz, qo]; omega
theorem qar (l : List OpS) : D.noPtrL (jz l) = true := by
 rw [D.noPtrL_iff]
 exact fun d hd => (D.noPtrR_iff _).1 (qca l) d hd
theorem qcw (l : List OpS) : (jz l).all D.isCell = true := by induction l <;> simp_all [jz, qo, D.isCell]
theorem q1l (l : List OpS) (ex : List D) : ∀ {i : Nat} (h : i < l.length), ((jz l ++ ex).drop (i * 3)).take 3 = qo l[i] := by
 induction l with
 | nil => intro i h; simp at h
 | cons o l ih =>
  intro i h
  have hf : jz (o :: l) = .str o.key :: .bool o.del :: .sl 1 (qd o.val) :: jz l := rfl
  rw [hf]
  cases i with
  | zero => rfl
  | succ i =>
   rw [show (i + 1) * 3 = i * 3 + 1 + 1 + 1 by omega]
   exact ih (by simpa using h)
def q6w (k : FuncId) (l : List OpS) (ex : List D) (f : OpS → Bool) (i : { i : Nat // (l.take i).any f = false }) : St :=
 ⟨[(0, true, .d (.ref 0 0 3 l.length)), (1, true, .d (.func (.func k) [] [])), (7, true, .d (.int .i64 l.length)), (8, true, .d (.int .i64 (i.val : Nat)))], [.row ((jz l ++ ex).map .d)], [], 1⟩
theorem q90 {k : FuncId} {f : OpS → Bool} (hb : (Tryz.prog.funcs[k]?).any (fun fn => fn.body.isSome && !(fn.name == "runtime.NumGoroutine")) = true)
  (hf : ∀ v, qg Tryz.prog k [.d (.agg (qo v))] [] (.d (.bool (f v))) []) (l : List OpS) (ex : List D) (hex : D.noPtrL ex = true) (hl : l.length ≤ maxLen) :
  qg Tryz.prog 231 [.d (.ref 0 0 3 l.length), .d (.func (.func k) [] [])] [.row ((jz l ++ ex).map .d)] (.d (.int .i64 (idx f l))) [.row ((jz l ++ ex).map .d)] := by
 have hlf := qef l
 have hnp : D.noPtrL (jz l ++ ex) = true := by rw [qay, qar, hex]; rfl
 refine F231.go ?_
 try (refine ev ?_; try exact True.intro)
 refine qk (q6w k l ex f) (fun i => l.length - i.val) ⟨0, rfl⟩ ?_ (fun i => ?_)
 ·try (refine ev2 @q6w.eq_1 @hnp ?_; try exact True.intro)
 obtain ⟨i, hi⟩ := i
 try (refine ev1 @q6w.eq_1 ?_; try exact True.intro)
 (repeat (with_reducible refine ob ?_)); refine xq _ (fun h => ?_) (fun h => ?_)
 ·have hil : i < l.length := by simpa using h
  try (refine ev4 (q1l l ex hil) @List.length_map.{0,0} @List.length_append.{0} @hlf ?_; try exact True.intro)
  refine ⟨by omega, ⟨by omega, by omega, rfl⟩, ?_⟩
  refine xw (hf l[i]) hb (fun h => h) (fun _ => ⟨qc, trivial⟩) (by try (refine ev1 @qo.eq_1 ?_; try exact True.intro)) rfl rfl ?_
  try (refine ev ?_; try exact True.intro)
  (repeat (with_reducible refine ob ?_)); refine xq _ (fun h => ?_) (fun h => ?_)
  ·try (refine ev2 (qfa hi hil h) @hnp ?_; try exact True.intro)
  ·try (refine ev ?_; try exact True.intro)
   refine ⟨⟨i + 1, vq hi hil (by simpa using h)⟩, ?_, by dsimp only; omega⟩
   try (refine ev3 @q6w.eq_1 @hnp (qf (show i < 9223372036854775807 by unfold maxLen at hl; omega)) ?_; try exact True.intro)
 ·have hil : l.length ≤ i := by simpa using h
  try (refine ev2 (qe9 hi hil) @hnp ?_; try exact True.intro)
theorem qw6 {k : FuncId} {f : OpS → Bool} (hb : (Tryz.prog.funcs[k]?).any (fun fn => fn.body.isSome && !(fn.name == "runtime.NumGoroutine")) = true)
  (hf : ∀ v, qg Tryz.prog k [.d (.agg (qo v))] [] (.d (.bool (f v))) []) (l : List OpS) (ex : List D) (hex : D.noPtrL ex = true) (hl : l.length ≤ maxLen) :
  qg Tryz.prog 152 [.d (.ref 0 0 3 l.length), .d (.func (.func k) [] [])] [.row ((jz l ++ ex).map .d)] (.d (.bool (l.any f))) [.row ((jz l ++ ex).map .d)] := by
 have hnp : D.noPtrL (jz l ++ ex) = true := by rw [qay, qar, hex]; rfl
 have hc := q90 hb hf l ex hex hl
 refine F152.go ?_
 try (refine ev ?_; try exact True.intro)
 refine clO [0] F231 hc ?_ (hik := by try (refine ev2 @hnp @D.inKL_noPtr ?_; try exact True.intro)) (hold := by try (refine ev1 @hnp ?_; try exact True.intro)) (htk := by try (refine ev1 @hnp ?_; try exact True.intro))
 try (refine ev2 @qtu @hnp ?_; try exact True.intro)
def xj3 (l : List OpS) (ex : List D) (i : { i : Nat // i ≤ l.length }) : St :=
 ⟨[(0, true, .d (.ref 0 0 3 l.length)), (4, true, .own 0 1 (qd (wInt l.length ++ (l.take i.val).flatMap wOp))), (17, true, .d (.ref 0 0 3 l.length)), (18, true, .d (.int .i64 l.length)), (19, true, .d (.int .i64 (i.val : Nat)))], [.row ((jz l ++ ex).map .d)], [0], 1⟩
set_option maxRecDepth 10000 in
theorem qrr (l : List OpS) (ex : List D) (hex : D.noPtrL ex = true) (hl : l.length ≤ 100000) :
  qg Tryz.prog 85 [.d (.ref 0 0 3 l.length)] [.row ((jz l ++ ex).map .d)] (.tup [.d (.sl 1 (qd (qr l).1)), .d (.int .i64 (qr l).2)]) [.row ((jz l ++ ex).map .d)] := by
 have hlf := qef l
 have hnp : D.noPtrL (jz l ++ ex) = true := by rw [qay, qar, hex]; rfl
 have hc := qw6 qhp ql7 l ex hex (by unfold maxLen; omega)
 refine F85.goT ?_
 by_cases h0 : l.length = 0
 ·have hd : (((l.length : Nat) : Int) == 0) = true := by rw [h0]; rfl
  have hb : qr l = ([], 1) := by
   unfold qr
   rw [if_pos]
   simp [h0]
  try (refine ev1 @hd ?_; try exact True.intro)
  (repeat (with_reducible refine ob ?_)); refine xcf ?_
  try (refine ev ?_; try exact True.intro)
  (repeat (with_reducible refine ob ?_)); refine qck ?_
  try (refine ev3 @hb @qu @hnp ?_; try exact True.intro)
 have hd : (((l.length : Nat) : Int) == 0) = false := by rw [beq_eq_false_iff_ne]; omega
 try (refine ev1 @hd ?_; try exact True.intro)
 refine clO [0] F152 hc ?_ (hik := by try (refine ev2 @hnp @D.inKL_noPtr ?_; try exact True.intro)) (hold := by try (refine ev1 @hnp ?_; try exact True.intro)) (htk := by try (refine ev1 @hnp ?_; try exact True.intro))
 try (refine ev ?_; try exact True.intro)
 (repeat (with_reducible refine ob ?_)); refine xq _ (fun h => ?_) (fun h => ?_)
 ·have hb : qr l = ([], 1) := by
   unfold qr
   rw [if_pos]
   rw [h]; simp
  try (refine ev3 @hb @qu @hnp ?_; try exact True.intro)
 have hne : ¬ (decide (l.length = 0) || l.any (fun o => !kj o)) = true := by
  rw [h]; simp [h0]
 have hpr : ∀ o ∈ l, kj o = true := by
  simp only [Bool.or_eq_true, not_or, List.any_eq_true, not_exists, not_and] at hne
  intro o ho
  simpa using hne.2 o ho
 have hwl := qh9 hpr
 have hil0 := xt (x5 (n := l.length) (by omega))
 try (refine ev ?_; try exact True.intro)
 refine clA F147 (kg [] l.length (by simp) (x5 (by omega))) ?_
 try (refine ev ?_; try exact True.intro)
 refine qk (xj3 l ex) (fun i => l.length - i.val) ⟨0, Nat.zero_le _⟩ ?_ (fun i => ?_)
 ·try (refine ev3 @xj3.eq_1 @List.take_zero.{0} @hnp ?_; try exact True.intro)
 obtain ⟨i, hi⟩ := i
 try (refine ev1 @xj3.eq_1 ?_; try exact True.intro)
 (repeat (with_reducible refine ob ?_)); refine xq _ (fun h => ?_) (fun h => ?_)
 ·have hil : i < l.length := by simpa using h
  have ho := hpr l[i] (List.getElem_mem hil)
  obtain ⟨p1, p2, p3, _⟩ := we.1 ho
  have hpre : (wInt l.length ++ (l.take i).flatMap wOp).length ≤ 100000020 := by
   have := qh9 (l := l.take i) (fun o h => hpr o (List.mem_of_mem_take h))
   simp only [List.length_append, List.length_take] at this ⊢
   have : min i l.length ≤ 100000 := by omega
   omega
  have k1 := qeq l[i].key (by omega)
  try (refine ev4 (q1l l ex hil) @List.length_map.{0,0} @hlf @qo.eq_1 ?_; try exact True.intro)
  refine ⟨by omega, ⟨by omega, by omega⟩, ?_⟩
  refine clA F157 (qjd (wInt l.length ++ (l.take i).flatMap wOp) l[i].key (by omega)) ?_
  try (refine ev ?_; try exact True.intro)
  refine clA F156 (qqn ((wInt l.length ++ (l.take i).flatMap wOp) ++ qa8 l[i].key) l[i].del (by simp only [List.length_append] at hpre ⊢; omega)) ?_
  try (refine ev ?_; try exact True.intro)
  refine clA F155 (qnj ((wInt l.length ++ (l.take i).flatMap wOp) ++ qa8 l[i].key ++ [if l[i].del then 1 else 0]) l[i].val (by simp only [List.length_append, List.length_cons, List.length_nil] at hpre ⊢; omega)) ?_
  try (refine ev ?_; try exact True.intro)
  have e : wInt l.length ++ (l.take i).flatMap wOp ++ qa8 l[i].key ++ [if l[i].del then 1 else 0] ++ qa8 l[i].val = wInt l.length ++ (l.take (i + 1)).flatMap wOp := by
   rw [qf1 wOp l hil, wOp]; simp only [List.append_assoc]
  refine ⟨⟨i + 1, hil⟩, ?_, by dsimp only; omega⟩
  try (refine ev4 @xj3.eq_1 @e @hnp (qf (show i < 9223372036854775807 by omega)) ?_; try exact True.intro)
 ·have hie : i = l.length := by simp at h; omega
  subst hie
  try (refine ev1 @List.take_length.{0} ?_; try exact True.intro)
  have hw : wInt l.length ++ l.flatMap wOp = wOps l := rfl
  have hw2 : (wOps l).length = (wInt l.length).length + (l.flatMap wOp).length := by rw [wOps, List.length_append]
  try (refine ev1 @hw ?_; try exact True.intro)
  (repeat (with_reducible refine ob ?_)); refine xq _ (fun h => ?_) (fun h => ?_)
  ·have hb : qr l = ([], 6) := by
    unfold qr
    rw [if_neg hne, if_pos]
    simp only [Bool.or_eq_true, decide_eq_true_eq] at h ⊢
    omega
   try (refine ev3 @hb @qu @hnp ?_; try exact True.intro)
  ·have hb : qr l = (wOps l, 0) := by
    unfold qr
    rw [if_neg hne, if_neg]
    simp only [Bool.or_eq_true, Bool.or_eq_false_iff, decide_eq_true_eq, decide_eq_false_iff_not] at h ⊢
    omega
   try (refine ev2 @hb @hnp ?_; try exact True.intro)
end Go.Proofs.YtkcdbcbpbolgkaaGreatDoor
namespace Go.Proofs.YtkcdbcbpbolgkaaGreatDoor
open Go.Abs
noncomputable section
set_option maxRecDepth 100000
set_option linter.defProp false
def d63r := cut Tryz.prog Tryz.f63 news [30, 1000030, 41, 1000041] [8, 14, 16]
@[go_sem] def E63r := ql d63r
def F63r := fnC d63r follows Tryz.func63
def d129 := cut Tryz.prog Tryz.f129 news
@[go_sem] def E129 := ql d129
def F129 := fnC d129 follows Tryz.func129
end
def qcn (file : List UInt8) (ops : List OpS) : List UInt8 := if (qr ops).2 = 0 then yr file (qr ops).1 else file
def cOp (e : En) : OpS := ⟨e.1, false, e.2⟩
def qjs (x : List UInt8 × List OpS) (e : En) : List UInt8 × List OpS := if (qr (x.2 ++ [cOp e])).2 ≠ 0 then (qcn x.1 x.2, [cOp e]) else (x.1, x.2 ++ [cOp e])
def cAt (l : List En) (i : Nat) : List UInt8 × List OpS := (l.take i).foldl qjs ([], [])
def qw7 (l : List En) : List UInt8 := qcn (l.foldl qjs ([], [])).1 (l.foldl qjs ([], [])).2
def qio (s : Sto) : Sto := ⟨qw7 (qdh s.m []), (qw7 (qdh s.m [])).length, s.m⟩
theorem qw8 (l : List En) {i : Nat} (h : i < l.length) : cAt l (i + 1) = qjs (cAt l i) l[i] := by
 unfold cAt
 rw [List.take_succ_eq_append_getElem h, List.foldl_append]; rfl
theorem qw9 (file : List UInt8) (ops : List OpS) (ex : List D) (hex : D.noPtrL ex = true) (ho : ops.length ≤ 100000) (hf : file.length ≤ 100000000) :
  qg Tryz.prog 129 [.d (.ptr 0 0), .d (.ptr 1 0)] [.row [.d (.ref 2 0 3 ops.length)], .row [.d (.sl 1 (qd file)), .d (.int .i64 0)], .row ((jz ops ++ ex).map .d)] (.tup [])
   [.row [.d .nilsl], .row [.d (.sl 1 (qd (qcn file ops))), .d (.int .i64 0)], .row ((jz ops ++ ex).map .d)] := by
 have hnp : D.noPtrL (jz ops ++ ex) = true := by rw [qay, qar, hex]; rfl
 have hE := qrr ops ex hex ho
 refine F129.goT ?_
 try (refine ev ?_; try exact True.intro)
 refine clO [2] F85 hE ?_ (hik := by try (refine ev2 @hnp @D.inKL_noPtr ?_; try exact True.intro)) (hold := by try (refine ev1 @hnp ?_; try exact True.intro)) (htk := by try (refine ev1 @hnp ?_; try exact True.intro))
 try (refine ev1 @hnp ?_; try exact True.intro)
 refine xq _ (fun h => ?_) (fun h => ?_)
 ·have he : (qr ops).2 = 0 := by simpa using h
  have hc : qcn file ops = yr file (qr ops).1 := by rw [qcn, if_pos he]
  try (refine ev ?_; try exact True.intro)
  (repeat (with_reducible refine ob ?_)); first | refine cl F88 (qkr file (qr ops).1 0 hf (qap ops)) ?_ | refine clF F88 (qkr file (qr ops).1 0 hf (qap ops)) (fun _ => by (refine ev3 @qo.eq_1 @vd.eq_1 @zo.eq_1 ?_; try exact True.intro)) ?_
  try (refine ev3 @qao.eq_1 @hc @hnp ?_; try exact True.intro)
 ·have he : ¬ (qr ops).2 = 0 := by simpa using h
  have hc : qcn file ops = file := by rw [qcn, if_neg he]
  try (refine ev2 @hc @hnp ?_; try exact True.intro)
theorem xul {os : List AObj} {id : Nat} {ops : List OpS} {ex : List D} {o : OpS} {rd : Option Nat} {ok : Prop} (h : qh os id = ((jz ops ++ ex).map .d)) : yo os id 3 ops.length ⟨[qo o], rd, ok⟩ = (jz (ops ++ [o])).map .d := by
 have hl := qef ops
 have h1 : jz (ops ++ [o]) = jz ops ++ qo o := by simp [jz]
 unfold yo
 rw [h, ← List.map_take, List.take_append_of_le_length (by omega), List.take_of_length_le (by omega), h1, List.map_append]
 simp
theorem q91 {os : List AObj} {id : Nat} {ops : List OpS} {ex : List D} {e : En} {rd : Option Nat} {ok : Prop} (h : qh os id = ((jz ops ++ ex).map .d)) : yo os id 3 ops.length ⟨[[.str e.1, .bool false, .sl 1 (qd e.2)]], rd, ok⟩ = (jz (ops ++ [cOp e])).map .d := xul (o := cOp e) h
structure CIs (i : Nat) (x : List UInt8 × List OpS) : Prop where
 file : x.1.length ≤ i * 70000
 ops : x.2 = [] ∨ (qr x.2).2 = 0
theorem xtz {e : En} (h : kvOk (0, e.1, e.2)) : (qr [cOp e]).2 = 0 := by
 obtain ⟨h1, h2, h3⟩ := h
 simp only at h1 h2 h3
 have hp : kj (cOp e) = true := we.2 ⟨h1, h2, h3, fun h => by cases h⟩
 have hw := q3p hp
 have hi := xt (x5 (n := 1) (by omega))
 have hl : (wOps [cOp e]).length ≤ 2000 := by
  simp only [wOps, List.flatMap_cons, List.flatMap_nil, List.append_nil, List.length_append, List.length_singleton]
  omega
 unfold qr
 have q1 : ¬ (decide ([cOp e].length = 0) || [cOp e].any (fun o => !kj o)) = true := by
  rw [List.any_cons, hp]
  exact Bool.false_ne_true
 rw [if_neg q1, if_neg (by simp only [List.length_singleton, Bool.or_eq_true, decide_eq_true_eq]; omega)]
theorem qmr (file : List UInt8) (ops : List OpS) : (qcn file ops).length ≤ file.length + 70000 := by
 unfold qcn
 split
 ·exact qq0 _ _ (qap ops)
 ·omega
theorem xj4 {i : Nat} {x : List UInt8 × List OpS} {e : En} (h : CIs i x) (he : kvOk (0, e.1, e.2)) : CIs (i + 1) (qjs x e) := by
 have hf := h.file
 unfold qjs
 split
 ·have := qmr x.1 x.2
  exact ⟨by show (qcn x.1 x.2).length ≤ _; rw [Nat.add_mul]; omega, .inr (xtz he)⟩
 ·rename_i hn
  refine ⟨?_, .inr (by simpa only [ne_eq, Classical.not_not] using hn)⟩
  have h2 : i * 70000 ≤ (i + 1) * 70000 := Nat.mul_le_mul_right _ (Nat.le_succ i)
  exact Nat.le_trans hf h2
theorem CIs.few {i : Nat} {x : List UInt8 × List OpS} (h : CIs i x) : x.2.length ≤ 20 := by
 rcases h.ops with h | h
 ·rw [h]; simp
 ·exact (wh h).1
theorem xet (l : List En) (hl : ∀ e ∈ l, kvOk (0, e.1, e.2)) : ∀ i, i ≤ l.length → CIs i (cAt l i)
 | 0, _ => ⟨by simp [cAt], .inl (by simp [cAt])⟩
 | i + 1, h => by
  rw [qw8 l h]
  exact xj4 (xet l hl i (by omega)) (hl _ (List.getElem_mem h))
def Scom (s : Sto) (l : List En) (i : Nat) (x : List UInt8 × List OpS) : St :=
 ⟨[(0, true, .d (.ptr 0 0)), (3, true, .d (.ptr 2 0)), (4, true, .d (.ptr 3 0)), (5, true, .d (.func (.func 129) [] [.ptr 3 0, .ptr 2 0])), (15, true, .d (.sl 2 (l.map vd))), (16, true, .d (.int .i64 l.length)), (17, true, .d (.int .i64 (i : Nat)))],
  [stoO s 1, mapO s.m, .row [.d (.sl 1 (qd x.1)), .d (.int .i64 0)], .row [.uni 0 3 (x.2.map qo)]], [0], 1⟩
set_option maxRecDepth 10000 in
theorem q92 (s : Sto) (hs : s.m.Good) :
  qg Tryz.prog 63 [.d (.ptr 0 0)] [stoO s 1, mapO s.m] (.d (.int .i64 0)) [stoO (qio s) 1, mapO s.m] := by
 have hls := xni s [] hs.ok (by have := hs.few; omega) (fun x hx => by have := (hs.small x hx).2.2; omega)
 have hll : (qdh s.m []).length ≤ 400 := Nat.le_trans (xdc s.m []) hs.few
 have hkv : ∀ e ∈ qdh s.m [], kvOk (0, e.1, e.2) := by
  intro e he
  rw [qdh, (wi _).mem_iff, preL, List.mem_map] at he
  obtain ⟨y, hy, rfl⟩ := he
  exact hs.small y (List.mem_filter.1 hy).1
 have hfin : qw7 (qdh s.m []) = qcn (cAt (qdh s.m []) (qdh s.m []).length).1 (cAt (qdh s.m []) (qdh s.m []).length).2 := by rw [qw7, cAt, List.take_length]
 unfold qio
 simp only [stoO, mapO] at hls
 generalize qdh s.m [] = l at hls hll hkv hfin
 refine F63r.go ?_
 try (refine ev2 @stoO.eq_1 @mapO.eq_1 ?_; try exact True.intro)
 (repeat (with_reducible refine ob ?_)); refine no_ ?_
 try (refine ev ?_; try exact True.intro)
 refine clO [0, 1] F92u hls ?_
 try (refine ev ?_; try exact True.intro)
 refine qk (fun i : { i : Nat // i ≤ l.length } => Scom s l i.val (cAt l i.val)) (fun i => l.length - i.val) ⟨0, Nat.zero_le _⟩ ?_ (fun i => ?_)
 ·have h0 : cAt l 0 = ([], []) := rfl
  try (refine ev7 @Scom.eq_1 @stoO.eq_1 @mapO.eq_1 @h0 @List.map_nil.{0,0} @qu @Int.ofNat_zero ?_; try exact True.intro)
 obtain ⟨i, hi⟩ := i
 have hci := xet l hkv i hi
 have hcf := hci.few
 have hcl := hci.file
 try (refine ev3 @Scom.eq_1 @stoO.eq_1 @mapO.eq_1 ?_; try exact True.intro)
 refine xq _ (fun hc => ?_) (fun hc => ?_)
 ·have hil : i < l.length := by simpa using hc
  have hnx := qw8 l hil
  generalize cAt l i = x at hci hcf hcl hnx
  obtain ⟨file, ops⟩ := x
  simp only at hci hcf hcl
  try (refine ev ?_; try exact True.intro)
  refine qqh (.cell 3 0) 0 3 (ops.map qo) ?_
  refine pu ?_
  have he2 : jz (ops ++ [cOp l[i]]) = jz ops ++ qo (cOp l[i]) := by simp [jz]
  have hF := F129
  have hnp1 := qar ops
  have hnp2 := qar (ops ++ [cOp l[i]])
  have hE := qrr (ops ++ [cOp l[i]]) [] rfl (by simp only [List.length_append, List.length_singleton]; omega)
  have hfA := qw9 file ops (qo (cOp l[i])) (qje _) (by omega) (by omega)
  have hfB := qw9 file ops [] rfl (by omega) (by omega)
  rw [List.append_nil] at hE hfB
  rw [← he2] at hfA
  simp only [List.length_append, List.length_singleton] at hE
  have hfd : (ops.map qo).flatten = jz ops := rfl
  try (refine ev3 (qi vd l hil) @vd.eq_1 @hfd ?_; try exact True.intro)
  refine ⟨by omega, ?_⟩
  refine qqk 4 ops.length rfl ?_ ?_ ?_ ?_ ?_
  ·rw [q91 (e := l[i]) (ex := []) (by rw [List.append_nil]; rfl)]
   try (refine ev2 @hnp2 @hnp1 ?_; try exact True.intro)
   refine clO [4] F85 hE ?_ (hik := by try (refine ev2 @hnp2 @D.inKL_noPtr ?_; try exact True.intro)) (hold := by try (refine ev1 @hnp2 ?_; try exact True.intro)) (htk := by try (refine ev1 @hnp2 ?_; try exact True.intro))
   try (refine ev2 @hnp2 @hnp1 ?_; try exact True.intro)
   refine xq _ (fun hx => ?_) (fun hx => ?_)
   ·skip
    have hxe : qjs (file, ops) l[i] = (qcn file ops, [cOp l[i]]) := by rw [qjs, if_pos (by simpa using hx)]
    rw [hxe] at hnx
    try (refine ev ?_; try exact True.intro)
    refine clO [3, 2, 4] hF hfA ?_ (hik := by try (refine ev3 @hnp2 @hnp1 @D.inKL_noPtr ?_; try exact True.intro)) (hold := by try (refine ev2 @hnp2 @hnp1 ?_; try exact True.intro)) (htk := by try (refine ev2 @hnp2 @hnp1 ?_; try exact True.intro))
    try (refine ev2 @hnp2 @hnp1 ?_; try exact True.intro)
    refine qtt rfl ?_ ⟨by show 1 * 48 ≤ 140737488355328; decide, by show 1 ≤ 9223372036854775807; decide⟩
    try (refine ev2 @hnp2 @hnp1 ?_; try exact True.intro)
    refine qqi (.cell 3 0) 8 3 ([cOp l[i]].map qo) ?_ (hc := rfl) (hes := ?_) (hcl := ?_) (hok := D.okWR_noPtr (qca _)) (hn := by simp [Pos.notIn])
    ·refine pu ?_
     try (refine ev2 @hnp2 @hnp1 ?_; try exact True.intro)
     refine ⟨⟨i + 1, hil⟩, ?_, by dsimp only; omega⟩
     try (refine ev7 @Scom.eq_1 @stoO.eq_1 @mapO.eq_1 @hnx @hnp1 @hnp2 (qf (show i < 9223372036854775807 by omega)) ?_; try exact True.intro)
    ·intro r hr
     obtain ⟨x, _, rfl⟩ := List.mem_map.1 hr
     rfl
    ·exact fun d hd => List.all_eq_true.1 (qcw _) d hd
   ·skip
    have hxo : qjs (file, ops) l[i] = (file, ops ++ [cOp l[i]]) := by rw [qjs, if_neg (by simpa using hx)]
    rw [hxo] at hnx
    try (refine ev ?_; try exact True.intro)
    refine qqk 4 ops.length rfl ?_ ?_ ?_ ?_ ?_
    ·rw [q91 (e := l[i]) (ex := qo (cOp l[i])) (by rw [← he2]; rfl)]
     try (refine ev2 @hnp2 @hnp1 ?_; try exact True.intro)
     refine qqi (.cell 3 0) 4 3 ((ops ++ [cOp l[i]]).map qo) ?_ (hc := rfl) (hes := ?_) (hcl := ?_) (hok := D.okWR_noPtr (qca _)) (hp := by simp only [List.length_map, List.length_append, List.length_singleton]; rfl) (hn := by simp [Pos.notIn])
     ·refine pu ?_
      try (refine ev2 @hnp2 @hnp1 ?_; try exact True.intro)
      refine ⟨⟨i + 1, hil⟩, ?_, by dsimp only; omega⟩
      try (refine ev7 @Scom.eq_1 @stoO.eq_1 @mapO.eq_1 @hnx @hnp1 @hnp2 (qf (show i < 9223372036854775807 by omega)) ?_; try exact True.intro)
     ·intro r hr
      obtain ⟨x, _, rfl⟩ := List.mem_map.1 hr
      rfl
     ·exact fun d hd => List.all_eq_true.1 (qcw _) d hd
    ·rw [q91 (e := l[i]) (ex := qo (cOp l[i])) (by rw [← he2]; rfl)]
     try (refine ev2 @hnp2 @hnp1 ?_; try exact True.intro)
     refine qqi (.cell 3 0) 8 3 ((ops ++ [cOp l[i]]).map qo) ?_ (hc := rfl) (hes := ?_) (hcl := ?_) (hok := D.okWR_noPtr (qca _)) (hp := by simp only [List.length_map, List.length_append, List.length_singleton]; rfl) (hn := by simp [Pos.notIn])
     ·refine pu ?_
      try (refine ev2 @hnp2 @hnp1 ?_; try exact True.intro)
      refine ⟨⟨i + 1, hil⟩, ?_, by dsimp only; omega⟩
      try (refine ev7 @Scom.eq_1 @stoO.eq_1 @mapO.eq_1 @hnx @hnp1 @hnp2 (qf (show i < 9223372036854775807 by omega)) ?_; try exact True.intro)
     ·intro r hr
      obtain ⟨x, _, rfl⟩ := List.mem_map.1 hr
      rfl
     ·exact fun d hd => List.all_eq_true.1 (qcw _) d hd
    ·show ops.length * 3 ≤ ((jz (ops ++ [cOp l[i]])).map ASlot.d).length; rw [List.length_map, qef, List.length_append]; omega
    ·show (ops.length + 1) * 48 ≤ _; omega
    ·show ops.length + 1 ≤ _; omega
  ·rw [q91 (e := l[i]) (ex := []) (by rw [List.append_nil]; rfl)]
   try (refine ev2 @hnp2 @hnp1 ?_; try exact True.intro)
   refine clO [7] F85 hE ?_ (hik := by try (refine ev2 @hnp2 @D.inKL_noPtr ?_; try exact True.intro)) (hold := by try (refine ev1 @hnp2 ?_; try exact True.intro)) (htk := by try (refine ev1 @hnp2 ?_; try exact True.intro))
   try (refine ev2 @hnp2 @hnp1 ?_; try exact True.intro)
   refine xq _ (fun hx => ?_) (fun hx => ?_)
   ·skip
    have hxe : qjs (file, ops) l[i] = (qcn file ops, [cOp l[i]]) := by rw [qjs, if_pos (by simpa using hx)]
    rw [hxe] at hnx
    try (refine ev ?_; try exact True.intro)
    refine clO [3, 2, 4] hF hfB ?_ (hik := by try (refine ev3 @hnp2 @hnp1 @D.inKL_noPtr ?_; try exact True.intro)) (hold := by try (refine ev2 @hnp2 @hnp1 ?_; try exact True.intro)) (htk := by try (refine ev2 @hnp2 @hnp1 ?_; try exact True.intro))
    try (refine ev2 @hnp2 @hnp1 ?_; try exact True.intro)
    refine qtt rfl ?_ ⟨by show 1 * 48 ≤ 140737488355328; decide, by show 1 ≤ 9223372036854775807; decide⟩
    try (refine ev2 @hnp2 @hnp1 ?_; try exact True.intro)
    refine qqi (.cell 3 0) 8 3 ([cOp l[i]].map qo) ?_ (hc := rfl) (hes := ?_) (hcl := ?_) (hok := D.okWR_noPtr (qca _)) (hn := by simp [Pos.notIn])
    ·refine pu ?_
     try (refine ev2 @hnp2 @hnp1 ?_; try exact True.intro)
     refine ⟨⟨i + 1, hil⟩, ?_, by dsimp only; omega⟩
     try (refine ev7 @Scom.eq_1 @stoO.eq_1 @mapO.eq_1 @hnx @hnp1 @hnp2 (qf (show i < 9223372036854775807 by omega)) ?_; try exact True.intro)
    ·intro r hr
     obtain ⟨x, _, rfl⟩ := List.mem_map.1 hr
     rfl
    ·exact fun d hd => List.all_eq_true.1 (qcw _) d hd
   ·skip
    have hxo : qjs (file, ops) l[i] = (file, ops ++ [cOp l[i]]) := by rw [qjs, if_neg (by simpa using hx)]
    rw [hxo] at hnx
    try (refine ev ?_; try exact True.intro)
    refine qqk 4 ops.length rfl ?_ ?_ ?_ ?_ ?_
    ·rw [q91 (e := l[i]) (ex := []) (by rw [List.append_nil]; rfl)]
     try (refine ev2 @hnp2 @hnp1 ?_; try exact True.intro)
     refine qqi (.cell 3 0) 4 3 ((ops ++ [cOp l[i]]).map qo) ?_ (hc := rfl) (hes := ?_) (hcl := ?_) (hok := D.okWR_noPtr (qca _)) (hp := by simp only [List.length_map, List.length_append, List.length_singleton]; rfl) (hn := by simp [Pos.notIn])
     ·refine pu ?_
      try (refine ev2 @hnp2 @hnp1 ?_; try exact True.intro)
      refine ⟨⟨i + 1, hil⟩, ?_, by dsimp only; omega⟩
      try (refine ev7 @Scom.eq_1 @stoO.eq_1 @mapO.eq_1 @hnx @hnp1 @hnp2 (qf (show i < 9223372036854775807 by omega)) ?_; try exact True.intro)
     ·intro r hr
      obtain ⟨x, _, rfl⟩ := List.mem_map.1 hr
      rfl
     ·exact fun d hd => List.all_eq_true.1 (qcw _) d hd
    ·rw [q91 (e := l[i]) (ex := []) (by rw [List.append_nil]; rfl)]
     try (refine ev2 @hnp2 @hnp1 ?_; try exact True.intro)
     refine qqi (.cell 3 0) 8 3 ((ops ++ [cOp l[i]]).map qo) ?_ (hc := rfl) (hes := ?_) (hcl := ?_) (hok := D.okWR_noPtr (qca _)) (hp := by simp only [List.length_map, List.length_append, List.length_singleton]; rfl) (hn := by simp [Pos.notIn])
     ·refine pu ?_
      try (refine ev2 @hnp2 @hnp1 ?_; try exact True.intro)
      refine ⟨⟨i + 1, hil⟩, ?_, by dsimp only; omega⟩
      try (refine ev7 @Scom.eq_1 @stoO.eq_1 @mapO.eq_1 @hnx @hnp1 @hnp2 (qf (show i < 9223372036854775807 by omega)) ?_; try exact True.intro)
     ·intro r hr
      obtain ⟨x, _, rfl⟩ := List.mem_map.1 hr
      rfl
     ·exact fun d hd => List.all_eq_true.1 (qcw _) d hd
    ·show ops.length * 3 ≤ ((jz ops).map ASlot.d).length; rw [List.length_map, qef]; omega
    ·show (ops.length + 1) * 48 ≤ _; omega
    ·show ops.length + 1 ≤ _; omega
  ·show ops.length * 3 ≤ ((jz ops).map ASlot.d).length
   rw [List.length_map, qef]; omega
  ·show (ops.length + 1) * 48 ≤ _; omega
  ·show ops.length + 1 ≤ _; omega
 ·have hie : i = l.length := by
   have : l.length ≤ i := by simpa using hc
   omega
  subst hie
  generalize cAt l l.length = x at hci hcf hcl hfin
  obtain ⟨file, ops⟩ := x
  simp only at hci hcf hcl hfin
  have hnp1 := qar ops
  have hfd : (ops.map qo).flatten = jz ops := rfl
  have hfB := qw9 file ops [] rfl (by omega) (by omega)
  rw [List.append_nil] at hfB
  have hcf2 := qmr file ops
  try (refine ev ?_; try exact True.intro)
  refine qqh (.cell 3 0) 0 3 (ops.map qo) ?_
  refine pu ?_
  try (refine ev2 @hfd @hnp1 ?_; try exact True.intro)
  refine clO [3, 2, 4] F129 hfB ?_ (hik := by try (refine ev2 @hnp1 @D.inKL_noPtr ?_; try exact True.intro)) (hold := by try (refine ev1 @hnp1 ?_; try exact True.intro)) (htk := by try (refine ev1 @hnp1 ?_; try exact True.intro))
  try (refine ev1 @hnp1 ?_; try exact True.intro)
  (repeat (with_reducible refine ob ?_)); first | refine cl F128 (qid (qcn file ops) 0 (by omega)) ?_ | refine clF F128 (qid (qcn file ops) 0 (by omega)) (fun _ => by (refine ev3 @qo.eq_1 @vd.eq_1 @zo.eq_1 ?_; try exact True.intro)) ?_
  try (refine ev3 @qao.eq_1 @hfin @hnp1 ?_; try exact True.intro)
end Go.Proofs.YtkcdbcbpbolgkaaGreatDoor
namespace Go.Proofs.YtkcdbcbpbolgkaaGreatDoor
open Go.Abs
structure CTx (x : List UInt8 × List OpS) (ts : List (List OpS)) (ops : List OpS) : Prop where
 file : x.1 = qe0 ts
 enc : ∀ t ∈ ts, (qr t).2 = 0
 now : x.2 = [] ∨ (qr x.2).2 = 0
 all : ts.flatten ++ x.2 = ops
theorem xeu {m : Cont} (hm : m.Good) : ∀ e ∈ jm m, kvOk (0, e.1, e.2) := by
 intro e he
 rw [jm, qdh, (wi _).mem_iff, preL, List.mem_map] at he
 obtain ⟨y, hy, rfl⟩ := he
 exact hm.small y (List.mem_filter.1 hy).1
end Go.Proofs.YtkcdbcbpbolgkaaGreatDoor
namespace Go.Proofs.YtkcdbcbpbolgkaaGreatDoor
open Go.Abs
set_option maxRecDepth 100000
theorem qms {α : Type} {enc : α → List D} {Q : α → Prop} : ∀ {rows : List (List D)}, (∀ r ∈ rows, ∃ x, r = enc x ∧ Q x) → ∃ l : List α, rows = l.map enc ∧ ∀ x ∈ l, Q x
 | [], _ => ⟨[], rfl, by simp⟩
 | r :: rows, h => by
  obtain ⟨x, rfl, hx⟩ := h r (by simp)
  obtain ⟨l, rfl, hl⟩ := qms (enc := enc) (Q := Q) (rows := rows) (fun r hr => h r (by simp [hr]))
  exact ⟨x :: l, rfl, by simpa using ⟨hx, hl⟩⟩
theorem xev {n : Int} (h : (Lit.int .i64 n).wf = true) : I64 n := by
 have h1 : IntKind.i64.min = -9223372036854775808 := by decide
 have h2 : IntKind.i64.max = 9223372036854775807 := by decide
 simp only [Lit.wf, Bool.and_eq_true, decide_eq_true_eq, h1, h2] at h
 exact h
theorem xs9 {n : Int} (h : (Lit.int .u8 n).wf = true) : 0 ≤ n ∧ n ≤ 255 := by
 have h1 : IntKind.u8.min = 0 := by decide
 have h2 : IntKind.u8.max = 255 := by decide
 simp only [Lit.wf, Bool.and_eq_true, decide_eq_true_eq, h1, h2] at h
 exact h
theorem xrk {n : Nat} {ds : List D} (h : Shp Tryz.prog (n + 1) 3 ds) : ∃ x, ds = [.int .i64 x] ∧ I64 x := by
 simp only [Shp, Tryz.underlying3] at h
 obtain ⟨x, rfl, h⟩ := h
 exact ⟨x, rfl, xev h⟩
theorem xj6 {n : Nat} {ds : List D} (h : Shp Tryz.prog (n + 1) 5 ds) : ∃ x : Nat, ds = [.int .u8 (x : Nat)] ∧ x < 256 := by
 simp only [Shp, Tryz.underlying5] at h
 obtain ⟨x, rfl, h⟩ := h
 have := xs9 h
 refine ⟨x.toNat, ?_, by omega⟩
 rw [Int.toNat_of_nonneg this.1]
theorem xta (n : Int) : argS Tryz.prog 5 [.int .u8 n] = .d (.int .u8 n) := by simp only [argS, Tryz.underlying5]; rfl
end Go.Proofs.YtkcdbcbpbolgkaaGreatDoor
