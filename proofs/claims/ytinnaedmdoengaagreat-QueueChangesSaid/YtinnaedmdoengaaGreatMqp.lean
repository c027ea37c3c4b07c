/- Texts Ye, Yf, Yg, Yh, Vp, Ub, Vc, Ve, Vf, Vg, Uc, Zg, Zj, Zk, Zl, Zm, Zp, Zr, Zh, Zi, Zs. -/
import Derived.Test.YtinnaedmdoengaaGreatMqo
import Derived.Calls
import Derived.Orders
import Derived.Tactics
import Derived.Laws.AppendOwn
import Derived.Laws.Slices
import Derived.Laws.Closers25
import Derived.Laws.StructEq
import Derived.Laws.BytesString
import Derived.Laws.CopyRow
import Derived.MapKept
import Derived.Maps.RangeRun
import Derived.TacticsIn
import Derived.OrdersIn
import Derived.RangeFuncRecord
import Derived.RangeFuncLeaves
import Derived.IntWalk
import Derived.ProofKit
import Derived.OpenShut
import Derived.Carry
import Derived.Test.YtinnaedmdoengaaGreatProg
import Derived.KernelRfl
import Derived.OwnWalkIn
import Derived.TacticsInMore
import Derived.LoopIn
import Derived.WalkKit
import Derived.Lib.Strings
import Derived.Lib.Slices
import Derived.Lib.Walk
import Derived.Lib.Bytealg
import Derived.Shelf.SlSortCmp.WholeK
import Derived.Shelf.SlSortCmp.NoneTotal

namespace Go.Proofs.YtinnaedmdoengaaGreat
open Go.Abs
set_option linter.unusedSimpArgs false
set_option linter.unusedVariables false
def dG : Nat → Nat → Nat → List UInt8 → Option (Int × List UInt8)
 | 0, _, _, _ => none
 | _ + 1, _, _, [] => none
 | k + 1, j, u, c :: l =>
  if c.toNat < 128 then (if ((c.toNat == 0 && decide (0 < j)) || (decide (j = 9) && decide (c.toNat > 1))) = true then none else some (unz (u + c.toNat * 128 ^ j), l))
  else dG k (j + 1) (u + c.toNat % 128 * 128 ^ j) l
def dInt (l : List UInt8) : Option (Int × List UInt8) := dG 10 0 0 l
def Got {α : Type} (o : Option (α × List UInt8)) (b : List UInt8) (x : α × Rd) : Prop := match o with
 | some (v, l) => x = (v, ⟨b, b.length - l.length, false⟩)
 | none => x.2.failed = true
def qh9 {α : Type} (z : α) (f : Rd → α × Rd) (d : List UInt8 → Option (α × List UInt8)) : Prop :=
 ∀ r : Rd, r.Ok → f r = if r.failed = true then (z, r) else match d (r.b.drop r.pos) with
  | some (v, l) => (v, ⟨r.b, r.b.length - l.length, false⟩)
  | none => (z, ⟨r.b, r.pos, true⟩)
def qje {α : Type} (d : List UInt8 → Option (α × List UInt8)) : Prop := ∀ l0 v l, d l0 = some (v, l) → ∃ p, l0 = p ++ l
theorem zr {b : List UInt8} {p : Nat} {q l : List UInt8} (hp : p ≤ b.length) (h : b.drop p = q ++ l) : b.drop (b.length - l.length) = l ∧ l.length ≤ b.length := by
 have h1 := congrArg List.length h
 simp only [List.length_drop, List.length_append] at h1
 have h2 : b.drop (p + q.length) = l := by rw [← List.drop_drop, h, List.drop_left]
 have e : b.length - l.length = p + q.length := by omega
 rw [e]; exact ⟨h2, by omega⟩
theorem q55 : ∀ (k j u : Nat) {l0 : List UInt8} {v : Int} {l : List UInt8}, dG k j u l0 = some (v, l) → ∃ p, l0 = p ++ l
 | 0, _, _, _, _, _, h => by simp [dG] at h
 | k + 1, j, u, [], _, _, h => by simp [dG] at h
 | k + 1, j, u, c :: l0, v, l, h => by
  rw [dG] at h
  split at h
  ·split at h
   ·cases h
   ·cases h; exact ⟨[c], rfl⟩
  ·obtain ⟨p, rfl⟩ := q55 k (j + 1) _ h
   exact ⟨c :: p, rfl⟩
theorem qm9 : qje dInt := fun _ _ _ h => q55 10 0 0 h
theorem qpq {r : Rd} (hr : r.Ok) (hf : r.failed = false) {c : UInt8} {l : List UInt8} (h : r.b.drop r.pos = c :: l) : vj 1 r = ([c], ⟨r.b, r.pos + 1, false⟩) ∧ r.b.drop (r.pos + 1) = l := by
 have hl := congrArg List.length h
 simp only [List.length_drop, List.length_cons] at hl
 have h2 : r.b.drop (r.pos + 1) = l := by rw [← List.drop_drop, h]; rfl
 refine ⟨?_, h2⟩
 unfold vj
 rw [if_neg (by simp [hf]; omega), h, hf]; rfl
theorem qu9 {r : Rd} (hf : r.failed = false) (h : r.b.drop r.pos = []) : vj 1 r = ([], ⟨r.b, r.pos, true⟩) := by
 have hl := congrArg List.length h
 simp only [List.length_drop, List.length_nil] at hl
 unfold vj
 rw [if_pos (by simp [hf]; omega)]
theorem qe7 {j : Nat} (h : j ≤ 8) : 128 ^ (j + 1) ≤ 9223372036854775808 := by
 have h1 : 128 ^ (j + 1) ≤ 128 ^ 9 := Nat.pow_le_pow_right (by decide) (by omega)
 have h2 : (128 : Nat) ^ 9 = 9223372036854775808 := by decide
 omega
theorem q56 : ∀ (k j u : Nat) {r : Rd}, j + k = 10 → u < 128 ^ j → r.Ok → r.failed = false →
  Got (dG k j u (r.b.drop r.pos)) r.b (qh2 k j u r)
 | 0, j, u, r, _, _, _, _ => by simp only [Got, dG, qh2]
 | k + 1, j, u, r, hj, hu, hr, hf => by
  cases hd : r.b.drop r.pos with
  | nil =>
   simp only [dG]
   rw [qh2, qu9 hf hd, if_pos rfl]
   exact (rfl : true = true)
  | cons c l =>
   obtain ⟨h1, h2⟩ := qpq hr hf hd
   have hlt := qag c
   have hlen := congrArg List.length hd
   simp only [List.length_drop, List.length_cons] at hlen
   rw [qh2, h1, dG]
   simp only [Bool.false_eq_true, if_false, List.headD_cons]
   by_cases hc : c.toNat < 128
   ·simp only [hc, if_true]
    by_cases hb : ((c.toNat == 0 && decide (0 < j)) || (decide (j = 9) && decide (c.toNat > 1))) = true
    ·rw [if_pos hb]
     exact hb
    ·rw [if_neg hb]
     simp only [Bool.not_eq_true] at hb
     have hm : c.toNat % 128 = c.toNat := Nat.mod_eq_of_lt hc
     have hs : u + c.toNat * 128 ^ j < 18446744073709551616 := by
      rcases Nat.lt_or_ge j 9 with h9 | h9
      ·have hp := qe7 (j := j) (by omega)
       rw [Nat.pow_succ] at hp
       have : c.toNat * 128 ^ j ≤ 127 * 128 ^ j := Nat.mul_le_mul_right _ (by omega)
       omega
      ·have : j = 9 := by omega
       subst this
       simp at hb
       have e : (128 : Nat) ^ 9 = 9223372036854775808 := by decide
       rw [e] at hu ⊢
       omega
     rw [hm, Nat.mod_eq_of_lt hs]
     simp only [Got, Prod.mk.injEq, Rd.mk.injEq]
     exact ⟨trivial, trivial, by omega, hb⟩
   ·simp only [hc, if_false]
    cases k with
    | zero => simp only [Got, dG, qh2]
    | succ k =>
     have hp := qe7 (j := j) (by omega)
     have hu2 : u + c.toNat % 128 * 128 ^ j < 128 ^ (j + 1) := by
      have h3 : c.toNat % 128 * 128 ^ j ≤ 127 * 128 ^ j := Nat.mul_le_mul_right _ (by omega)
      rw [Nat.pow_succ]
      omega
     rw [Nat.mod_eq_of_lt (show u + c.toNat % 128 * 128 ^ j < 18446744073709551616 by omega)]
     have ih := q56 (k + 1) (j + 1) (u + c.toNat % 128 * 128 ^ j) (r := ⟨r.b, r.pos + 1, false⟩) (by omega) hu2 ⟨hr.len, by have := hr.pos; simp only; omega⟩ rfl
     rw [show (⟨r.b, r.pos + 1, false⟩ : Rd).b.drop (⟨r.b, r.pos + 1, false⟩ : Rd).pos = l from h2] at ih
     exact ih
theorem qzw {r : Rd} (hr : r.Ok) (hf : r.failed = false) : Got (dInt (r.b.drop r.pos)) r.b (rInt r) := q56 10 0 0 rfl (by decide) hr hf
theorem qaw {α : Type} {z : α} {f : Rd → α × Rd} {d : List UInt8 → Option (α × List UInt8)} (hi : ∀ r : Rd, r.Ok → (f r).2.b = r.b)
  (h : ∀ r : Rd, r.Ok → r.failed = false → Got (d (r.b.drop r.pos)) r.b (f r)) : qh9 z (qbs z f) d := by
 intro r hr
 unfold qbs
 by_cases hf : r.failed = true
 ·rw [if_pos hf, if_pos hf]
 ·rw [if_neg hf, if_neg hf]
  have := h r hr (by simpa using hf)
  cases hd : d (r.b.drop r.pos) with
  | none =>
   rw [hd] at this
   simp only [Got] at this
   rw [if_pos this, hi r hr, this]
  | some x =>
   obtain ⟨v, l⟩ := x
   rw [hd] at this
   simp only [Got] at this
   rw [this, if_neg (by simp)]
theorem qbh : qh9 0 ky dInt := qaw (fun r hr => (qcw hr).2) (fun r hr hf => qzw hr hf)
def xw (lo hi : Int) (l0 : List UInt8) : Option (Int × List UInt8) := match dInt l0 with
 | some (n, l) => if n < lo ∨ n > hi then none else some (n, l)
 | none => none
theorem kz (lo hi : Int) : qje (xw lo hi) := by
 intro l0 v l h
 unfold xw at h
 split at h
 ·rename_i hd
  split at h
  ·cases h
  ·cases h; exact qm9 _ _ _ hd
 ·cases h
theorem qfw (lo hi : Int) {r : Rd} (hr : r.Ok) (hf : r.failed = false) : Got (xw lo hi (r.b.drop r.pos)) r.b (xg lo hi r) := by
 have h := qzw hr hf
 unfold xw
 cases hd : dInt (r.b.drop r.pos) with
 | none =>
  rw [hd] at h
  simp only [Got] at h ⊢
  simp only [xg, Rd.fail, h, Bool.true_or]
 | some x =>
  obtain ⟨n, l⟩ := x
  rw [hd] at h
  simp only [Got] at h ⊢
  by_cases hn : n < lo ∨ n > hi
  ·rw [if_pos hn]
   simp only [xg, Rd.fail, h, Bool.false_or]
   simpa using hn
  ·rw [if_neg hn]
   simp only [xg, Rd.fail, h, Bool.false_or]
   have : (decide (n < lo) || decide (n > hi)) = false := by simpa using hn
   rw [this]
theorem qch (lo hi : Int) : qh9 0 (za lo hi) (xw lo hi) := qaw (fun r hr => (jp hr lo hi).2) (fun r hr hf => qfw lo hi hr hf)
def yx (most : Int) (l0 : List UInt8) : Option (List UInt8 × List UInt8) := match xw 0 most l0 with
 | some (n, l) => if l.length < n.toNat then none else some (l.take n.toNat, l.drop n.toNat)
 | none => none
theorem qva (most : Int) {r : Rd} (hr : r.Ok) (hf : r.failed = false) : Got (yx most (r.b.drop r.pos)) r.b (vr most r) := by
 have h := qfw 0 most hr hf
 unfold yx
 cases hd : xw 0 most (r.b.drop r.pos) with
 | none =>
  rw [hd] at h
  simp only [Got] at h ⊢
  unfold vr
  rw [if_pos h]; exact h
 | some x =>
  obtain ⟨n, l⟩ := x
  rw [hd] at h
  simp only [Got] at h ⊢
  obtain ⟨p, hp⟩ := kz _ _ _ _ _ hd
  obtain ⟨t1, t2⟩ := zr hr.pos hp
  have e : r.b.length - (r.b.length - l.length) = l.length := by omega
  by_cases hn : l.length < n.toNat
  ·rw [if_pos hn]
   simp only [vr, h, Bool.false_eq_true, if_false, vj, Bool.false_or]
   rw [e, if_pos (by simpa using hn)]
  ·rw [if_neg hn]
   simp only [vr, h, Bool.false_eq_true, if_false, vj, Bool.false_or]
   rw [e, if_neg (by simpa using hn), t1]
   have : r.b.length - l.length + n.toNat = r.b.length - (l.drop n.toNat).length := by rw [List.length_drop]; omega
   rw [this]
theorem wv (most : Int) : qh9 [] (vt most) (yx most) := qaw (fun r hr => (qgr hr most).2) (fun r hr hf => qva most hr hf)
end Go.Proofs.YtinnaedmdoengaaGreat
namespace Go.Proofs.YtinnaedmdoengaaGreat
open Go.Abs
set_option linter.unusedSimpArgs false
set_option linter.unusedVariables false
noncomputable section
set_option maxRecDepth 100000
set_option linter.defProp false
def d79 := cut Tryz.prog Tryz.f79 news
@[go_sem] def E79 := ql d79
def F79 := fnC d79 follows Tryz.func79
end
def qna (b : List UInt8) (pos : Nat) (f : Bool) (i u : Nat) : St :=
 ⟨[(0, true, .d (.ptr 0 0)), (3, true, .d (.int .u64 (u : Nat))), (4, true, .d (.int .u64 (128 ^ (i - pos) % 18446744073709551616 : Nat))), (5, true, .d (.int .i64 (i : Nat)))], [rdO ⟨b, pos, f⟩], [], 1⟩
theorem xao {u d j : Nat} (hu : u < 128 ^ j) (hd : d < 128) (hj : j ≤ 9) (h9 : j = 9 → d ≤ 1) :
  IntKind.u64.wrap ((u : Int) + IntKind.u64.wrap ((d : Int) * ((128 ^ j % 18446744073709551616 : Nat) : Int))) = ((u + d * 128 ^ j : Nat) : Int) ∧ u + d * 128 ^ j < 18446744073709551616 ∧ u + d * 128 ^ j < 128 ^ (j + 1) := by
 have hp : 128 ^ j ≤ 128 ^ 9 := Nat.pow_le_pow_right (by decide) hj
 have hp9 : (128 : Nat) ^ 9 = 9223372036854775808 := by decide
 rw [Nat.mod_eq_of_lt (by omega)]
 have hs : d * 128 ^ j ≤ 9223372036854775808 := by
  rcases Nat.lt_or_ge j 9 with h | h
  ·have := qe7 (j := j) (by omega)
   rw [Nat.pow_succ] at this
   have : d * 128 ^ j ≤ 127 * 128 ^ j := Nat.mul_le_mul_right _ (by omega)
   omega
  ·have : j = 9 := by omega
   subst this
   have := h9 rfl
   rw [hp9]; omega
 have h3 : d * 128 ^ j ≤ 127 * 128 ^ j := Nat.mul_le_mul_right _ (by omega)
 refine ⟨?_, by omega, by rw [Nat.pow_succ]; omega⟩
 rw [show ((d : Int) * ((128 ^ j : Nat) : Int)) = ((d * 128 ^ j : Nat) : Int) by rw [Int.natCast_mul], f2 _ (by omega), show ((u : Int) + ((d * 128 ^ j : Nat) : Int)) = ((u + d * 128 ^ j : Nat) : Int) by omega, f2 _ (by omega)]
theorem q2q (j : Nat) : IntKind.u64.wrap (((128 ^ j % 18446744073709551616 : Nat) : Int) * 128) = ((128 ^ (j + 1) % 18446744073709551616 : Nat) : Int) := by
 rw [qgn, Nat.pow_succ]
 generalize 128 ^ j = x
 omega
set_option maxRecDepth 10000 in
theorem yo (r : Rd) (hr : r.Ok) : qg Tryz.prog 79 [.d (.ptr 0 0)] [rdO r] (.d (.int .i64 (ky r).1)) [rdO (ky r).2] := by
 have hrd := qbh r hr
 obtain ⟨hln, hpos⟩ := hr
 obtain ⟨b, pos, f⟩ := r
 simp only at hln hpos hrd
 refine F79.go ?_
 cases f
 ·simp only [Bool.false_eq_true, if_false] at hrd
  have w9 : IntKind.i64.wrap ((pos : Int) + 9) = ((pos + 9 : Nat) : Int) := by rw [xk (by unfold I64; omega)]; omega
  have w10 : IntKind.i64.wrap ((pos : Int) + 10) = ((pos + 10 : Nat) : Int) := by rw [xk (by unfold I64; omega)]; omega
  try (refine ev1 @rdO.eq_1 ?_; try exact True.intro)
  refine qj (fun x : { x : Nat × Nat // pos ≤ x.1 ∧ x.1 ≤ pos + 10 ∧ x.1 ≤ b.length ∧ x.2 < 128 ^ (x.1 - pos) ∧ dG (10 - (x.1 - pos)) (x.1 - pos) x.2 (b.drop x.1) = dInt (b.drop pos) } => qna b pos false x.val.1 x.val.2) (fun x => pos + 10 - x.val.1)
   ⟨(pos, 0), Nat.le_refl _, by simp, hpos, by simp, by simp only [Nat.sub_self]; rfl⟩ ?_ (fun x => ?_)
  ·have e1 : 128 ^ (pos - pos) % 18446744073709551616 = 1 := by rw [Nat.sub_self]
   try (refine ev4 @qna.eq_1 @e1 @rdO.eq_1 @Int.ofNat_zero ?_; try exact True.intro)
  obtain ⟨⟨i, u⟩, h1, h2, h3, h4, h5⟩ := x
  simp only at h1 h2 h3 h4 h5
  have hnone : dInt (b.drop pos) = none → ky ⟨b, pos, false⟩ = (0, ⟨b, pos, true⟩) := fun h => by rw [hrd, h]
  try (refine ev3 @qna.eq_1 @rdO.eq_1 @w10 ?_; try exact True.intro)
  refine xt _ (fun hc => ?_) (fun hc => ?_)
  ·simp only [Bool.and_eq_true, decide_eq_true_eq] at hc
   have hil : i < b.length := by omega
   have hi10 : i < pos + 10 := by omega
   rw [List.drop_eq_getElem_cons hil, show 10 - (i - pos) = (10 - (i + 1 - pos)) + 1 by omega, dG] at h5
   have hlt := qag b[i]
   have hd : IntKind.u64.wrap (((b[i].toNat : Nat) : Int).tmod 128) = ((b[i].toNat % 128 : Nat) : Int) := by
    rw [Int.tmod_eq_emod_of_nonneg (by omega), show ((b[i].toNat : Nat) : Int) % 128 = ((b[i].toNat % 128 : Nat) : Int) by omega, f2 _ (by omega)]
   try (refine ev3 (xn b hil) @hd @w9 ?_; try exact True.intro)
   refine ⟨by omega, ?_⟩
   refine xt _ (fun hb => ?_) (fun hb => ?_)
   ·have hx : dInt (b.drop pos) = none := by
     simp at hb
     rw [← h5]
     by_cases hc : b[i].toNat < 128
     ·rw [if_pos hc, if_pos]
      simp; omega
     ·rw [if_neg hc, show 10 - (i + 1 - pos) = 0 by omega]; rfl
    try (refine ev1 (hnone hx) ?_; try exact True.intro)
   ·have hb2 : i - pos = 9 → b[i].toNat % 128 ≤ 1 := by
     intro h9
     simp at hb
     have := hb (by omega)
     omega
    obtain ⟨s1, s2, s3⟩ := xao h4 (Nat.mod_lt b[i].toNat (show 128 > 0 by decide)) (show i - pos ≤ 9 by omega) hb2
    have s4 := q2q (i - pos)
    try (refine ev3 @s1 @s4 (xn b hil) ?_; try exact True.intro)
    (repeat (with_reducible refine ob ?_))
    refine xt _ (fun hc => ?_) (fun hc => ?_)
    ·have hc2 : ¬ b[i].toNat < 128 := by simp at hc; omega
     rw [if_neg hc2] at h5
     try (refine ev ?_; try exact True.intro)
     have hj : i + 1 - pos = i - pos + 1 := by omega
     refine ⟨⟨(i + 1, u + b[i].toNat % 128 * 128 ^ (i - pos)), by simp only; omega, by simp only; omega, by simp only; omega, by simp only [hj]; exact s3, by simp only [hj] at h5 ⊢; exact h5⟩, ?_, by simp only; omega⟩
     try (refine ev4 @qna.eq_1 @rdO.eq_1 @hj (qi (show i < 9223372036854775807 by omega)) ?_; try exact True.intro)
    ·have hc2 : b[i].toNat < 128 := by simp at hc; omega
     rw [if_pos hc2] at h5
     have hm : b[i].toNat % 128 = b[i].toNat := Nat.mod_eq_of_lt hc2
     rw [hm] at s1 s2 s3 hb2 hb
     try (refine ev1 @hm ?_; try exact True.intro)
     refine xt _ (fun hz => ?_) (fun hz => ?_)
     ·have hx : dInt (b.drop pos) = none := by
       rw [← h5, if_pos]
       simp at hz ⊢; omega
      try (refine ev1 (hnone hx) ?_; try exact True.intro)
     ·have hx : ky ⟨b, pos, false⟩ = (unz (u + b[i].toNat * 128 ^ (i - pos)), ⟨b, i + 1, false⟩) := by
       rw [hrd, ← h5, if_neg (by simp at hz hb ⊢; omega)]
       simp only [List.length_drop]
       rw [show b.length - (b.length - (i + 1)) = i + 1 by omega]
      generalize hU : u + b[i].toNat * 128 ^ (i - pos) = u' at s2 hx ⊢
      have hU2 : (u : Int) + ((b[i].toNat * 128 ^ (i - pos) : Nat) : Int) = ((u' : Nat) : Int) := by rw [← hU, Int.natCast_add]
      have q2 : (u' : Int).tmod 2 = ((u' % 2 : Nat) : Int) := by rw [Int.tmod_eq_emod_of_nonneg (by omega)]; omega
      have q3 : IntKind.u64.wrap ((u' : Int).tdiv 2) = ((u' / 2 : Nat) : Int) := by rw [Int.tdiv_eq_ediv_of_nonneg (by omega), show ((u' : Int) / 2) = ((u' / 2 : Nat) : Int) by omega, f2 _ (by omega)]
      have q4 : IntKind.i64.wrap ((u' / 2 : Nat) : Int) = ((u' / 2 : Nat) : Int) := xk (by unfold I64; omega)
      try (refine ev3 @hU2 @hx (qi (show i < 9223372036854775807 by omega)) ?_; try exact True.intro)
      try (refine ev2 @q2 @hx ?_; try exact True.intro)
      rcases Nat.mod_two_eq_zero_or_one u' with hp | hp
      ·have q5 : unz u' = ((u' / 2 : Nat) : Int) := by unfold unz; rw [if_pos hp]
       have q6 : ((((u' % 2 : Nat) : Int)) == 1) = false := by rw [hp]; rfl
       try (refine ev1 @q6 ?_; try exact True.intro)
       (repeat (with_reducible refine ob ?_)); refine no_ ?_
       try (refine ev4 @hU2 @q3 @q4 @q5 ?_; try exact True.intro)
      ·have q5 : unz u' = IntKind.i64.wrap (IntKind.i64.wrap (0 - ((u' / 2 : Nat) : Int)) - 1) := by
        unfold unz; rw [if_neg (by omega), xk (n := 0 - ((u' / 2 : Nat) : Int)) (by unfold I64; omega), xk (by unfold I64; omega)]; omega
       have q6 : ((((u' % 2 : Nat) : Int)) == 1) = true := by rw [hp]; rfl
       try (refine ev1 @q6 ?_; try exact True.intro)
       (repeat (with_reducible refine ob ?_)); refine qb9 ?_
       try (refine ev4 @hU2 @q3 @q4 @q5 ?_; try exact True.intro)
  ·have hx : dInt (b.drop pos) = none := by
    rw [← h5]
    simp only [Bool.and_eq_false_iff, decide_eq_false_iff_not] at hc
    rcases Nat.lt_or_ge i (pos + 10) with hi | hi
    ·rw [List.drop_of_length_le (by omega), show 10 - (i - pos) = (9 - (i - pos)) + 1 by omega]; rfl
    ·rw [show 10 - (i - pos) = 0 by omega]; rfl
   try (refine ev1 (hnone hx) ?_; try exact True.intro)
 ·simp only [if_true] at hrd
  try (refine ev2 @rdO.eq_1 @hrd ?_; try exact True.intro)
  refine qj (fun x : Unit => qna b pos true pos 0) (fun x => 0) () ?_ (fun x => ?_)
  ·have e1 : 128 ^ (pos - pos) % 18446744073709551616 = 1 := by rw [Nat.sub_self]
   try (refine ev4 @qna.eq_1 @e1 @rdO.eq_1 @Int.ofNat_zero ?_; try exact True.intro)
  try (refine ev2 @qna.eq_1 @rdO.eq_1 ?_; try exact True.intro)
  (repeat (with_reducible refine ob ?_)); refine no_ ?_
  try (refine ev ?_; try exact True.intro)
end Go.Proofs.YtinnaedmdoengaaGreat
namespace Go.Proofs.YtinnaedmdoengaaGreat
open Go.Abs
set_option linter.unusedSimpArgs false
set_option linter.unusedVariables false
noncomputable section
set_option maxRecDepth 100000
set_option linter.defProp false
def d178 := cut Tryz.prog Tryz.f178 news
@[go_sem] def E178 := ql d178
def F178 := fnC d178 follows Tryz.func178
def d117 := cut Tryz.prog Tryz.f117 news
@[go_sem] def E117 := ql d117
def F117 := fnC d117 follows Tryz.func117
def d119 := cut Tryz.prog Tryz.f119 news
@[go_sem] def E119 := ql d119
def d120 := cut Tryz.prog Tryz.f120 news
@[go_sem] def E120 := ql d120
def F120 := fnC d120 follows Tryz.func120
def d118 := cut Tryz.prog Tryz.f118 news
@[go_sem] def E118 := ql d118
def F118 := fnC d118 follows Tryz.func118
def d80 := cut Tryz.prog Tryz.f80 news
@[go_sem] def E80 := ql d80
def F80 := fnC d80 follows Tryz.func80
end
theorem qdk (r : Rd) (p : Nat) : qg Tryz.prog 178 [.d (.ptr 0 0), .d (.int .i64 (p : Nat))] [rdO r] (.tup []) [rdO ⟨r.b, p, true⟩] := by
 refine F178.goT ?_
 try (refine ev1 @rdO.eq_1 ?_; try exact True.intro)
theorem qa5 (r : Rd) (lo hi : Int) (hr : r.Ok) : qg Tryz.prog 117 [.d (.ptr 0 0), .d (.int .i64 lo), .d (.int .i64 hi)] [rdO r] (.d (.int .i64 (za lo hi r).1)) [rdO (za lo hi r).2] := by
 have hc := yo r hr
 have h1 := qbh r hr
 have h2 := qch lo hi r hr
 obtain ⟨b, pos, f⟩ := r
 refine F117.go ?_
 cases f
 ·simp only [Bool.false_eq_true, if_false, xw] at h1 h2
  cases hd : dInt (b.drop pos) with
  | none =>
   rw [hd] at h1 h2
   simp only at h1 h2
   rw [h1] at hc
   rw [h2]
   simp only [rdO] at hc
   try (refine ev1 @rdO.eq_1 ?_; try exact True.intro)
   (repeat (with_reducible refine ob ?_)); refine clO [0] F79 (hc) ?_ (hfit := by first | exact ⟨qc, trivial⟩ | exact ⟨qc, qc, trivial⟩ | (refine ev3 @qh.eq_1 @qp.eq_1 @xi.eq_1 ?_; try exact True.intro))
   try (refine ev ?_; try exact True.intro)
   (repeat (with_reducible refine ob ?_)); refine qb9 ?_
   try (refine ev ?_; try exact True.intro)
  | some x =>
   obtain ⟨n, l⟩ := x
   rw [hd] at h1 h2
   simp only at h1 h2
   rw [h1] at hc
   simp only [rdO] at hc
   try (refine ev1 @rdO.eq_1 ?_; try exact True.intro)
   (repeat (with_reducible refine ob ?_)); refine clO [0] F79 (hc) ?_ (hfit := by first | exact ⟨qc, trivial⟩ | exact ⟨qc, qc, trivial⟩ | (refine ev3 @qh.eq_1 @qp.eq_1 @xi.eq_1 ?_; try exact True.intro))
   try (refine ev ?_; try exact True.intro)
   (repeat (with_reducible refine ob ?_)); refine no_ ?_
   try (refine ev ?_; try exact True.intro)
   have hb : ((decide (n < lo) || decide (n > hi)) = true) = (n < lo ∨ n > hi) := by simp
   refine ⟨fun h => by rw [h]; rfl, ?_⟩
   refine xt _ (fun h => ?_) (fun h => ?_)
   ·rw [hb] at h
    rw [if_pos h] at h2
    simp only at h2
    have hfl := qdk ⟨b, b.length - l.length, false⟩ pos
    simp only [rdO] at hfl
    rw [h2]
    try (refine ev ?_; try exact True.intro)
    (repeat (with_reducible refine ob ?_)); refine clO [0] F178 (hfl) ?_ (hfit := by first | exact ⟨qc, trivial⟩ | exact ⟨qc, qc, trivial⟩ | (refine ev3 @qh.eq_1 @qp.eq_1 @xi.eq_1 ?_; try exact True.intro))
    try (refine ev ?_; try exact True.intro)
   ·have h' : ¬ (n < lo ∨ n > hi) := by rw [← hb, h]; simp
    rw [if_neg h'] at h2
    simp only at h2
    rw [h2]
    try (refine ev ?_; try exact True.intro)
 ·simp only [if_true] at h1 h2
  rw [h1] at hc
  rw [h2]
  simp only [rdO] at hc
  try (refine ev1 @rdO.eq_1 ?_; try exact True.intro)
  (repeat (with_reducible refine ob ?_)); refine clO [0] F79 (hc) ?_ (hfit := by first | exact ⟨qc, trivial⟩ | exact ⟨qc, qc, trivial⟩ | (refine ev3 @qh.eq_1 @qp.eq_1 @xi.eq_1 ?_; try exact True.intro))
  try (refine ev ?_; try exact True.intro)
  (repeat (with_reducible refine ob ?_)); refine qb9 ?_
  try (refine ev ?_; try exact True.intro)
theorem qpr (r : Rd) (most : Nat) (hr : r.Ok) (hm : most ≤ 1000000000) : qg Tryz.prog 120 [.d (.ptr 0 0), .d (.int .i64 (most : Nat))] [rdO r] (.d (.sl 1 (qd (vt most r).1))) [rdO (vt most r).2] := by
 have hc := qa5 r 0 most hr
 have h1 := qch 0 most r hr
 have h2 := wv most r hr
 obtain ⟨hln, hpos⟩ := hr
 obtain ⟨b, pos, f⟩ := r
 simp only at hln hpos
 refine F120.go ?_
 have hfl := fun q => qdk ⟨b, q, true⟩ pos
 have hfl2 := fun q => qdk ⟨b, q, false⟩ pos
 simp only [rdO] at hfl hfl2
 cases f
 ·simp only [Bool.false_eq_true, if_false, yx] at h1 h2
  cases hd : xw 0 most (b.drop pos) with
  | none =>
   rw [hd] at h1 h2
   simp only at h1 h2
   rw [h1] at hc
   rw [h2]
   simp only [rdO] at hc
   try (refine ev1 @rdO.eq_1 ?_; try exact True.intro)
   (repeat (with_reducible refine ob ?_)); refine clO [0] F117 (hc) ?_ (hfit := by first | exact ⟨qc, trivial⟩ | exact ⟨qc, qc, trivial⟩ | (refine ev3 @qh.eq_1 @qp.eq_1 @xi.eq_1 ?_; try exact True.intro))
   try (refine ev ?_; try exact True.intro)
   (repeat (with_reducible refine ob ?_)); refine qb9 ?_
   try (refine ev ?_; try exact True.intro)
   (repeat (with_reducible refine ob ?_)); refine clO [0] F178 ((hfl pos)) ?_ (hfit := by first | exact ⟨qc, trivial⟩ | exact ⟨qc, qc, trivial⟩ | (refine ev3 @qh.eq_1 @qp.eq_1 @xi.eq_1 ?_; try exact True.intro))
   try (refine ev1 @qm ?_; try exact True.intro)
  | some x =>
   obtain ⟨n, l⟩ := x
   obtain ⟨p, hp⟩ := kz _ _ _ _ _ hd
   obtain ⟨t1, t2⟩ := zr hpos hp
   have hn0 : 0 ≤ n ∧ n ≤ most := by
    unfold xw at hd
    split at hd
    ·split at hd
     ·cases hd
     ·cases hd; omega
    ·cases hd
   rw [hd] at h1 h2
   simp only at h1 h2
   rw [h1] at hc
   obtain ⟨m, rfl⟩ : ∃ m : Nat, n = m := ⟨n.toNat, by omega⟩
   simp only [Int.toNat_natCast] at h2
   simp only [rdO] at hc
   have e1 : IntKind.i64.wrap ((b.length : Int) - ((b.length - l.length : Nat) : Int)) = ((l.length : Nat) : Int) := by rw [xk (by unfold I64; omega)]; omega
   try (refine ev1 @rdO.eq_1 ?_; try exact True.intro)
   (repeat (with_reducible refine ob ?_)); refine clO [0] F117 (hc) ?_ (hfit := by first | exact ⟨qc, trivial⟩ | exact ⟨qc, qc, trivial⟩ | (refine ev3 @qh.eq_1 @qp.eq_1 @xi.eq_1 ?_; try exact True.intro))
   try (refine ev1 @e1 ?_; try exact True.intro)
   refine xt _ (fun h => ?_) (fun h => ?_)
   ·rw [if_pos (show l.length < m by simp at h; omega)] at h2
    simp only at h2
    rw [h2]
    try (refine ev ?_; try exact True.intro)
    (repeat (with_reducible refine ob ?_)); refine clO [0] F178 ((hfl2 (b.length - l.length))) ?_ (hfit := by first | exact ⟨qc, trivial⟩ | exact ⟨qc, qc, trivial⟩ | (refine ev3 @qh.eq_1 @qp.eq_1 @xi.eq_1 ?_; try exact True.intro))
    try (refine ev1 @qm ?_; try exact True.intro)
   ·have hle : m ≤ l.length := by simp at h; omega
    rw [if_neg (show ¬ l.length < m by omega)] at h2
    simp only at h2
    rw [h2]
    generalize hq : b.length - l.length = q at t1 e1
    have e2 : IntKind.i64.wrap ((q : Int) + (m : Int)) = ((q + m : Nat) : Int) := by rw [xk (by unfold I64; omega)]; omega
    have e3 : IntKind.i64.wrap ((q : Int) + (m : Int) - (m : Int)) = ((q : Nat) : Int) := by rw [xk (by unfold I64; omega)]; omega
    have e5 : ((q : Int) + (m : Int)).toNat = q + m := by omega
    have e4 : q + m - q = m := by omega
    have e6 : b.length - (l.drop m).length = q + m := by rw [List.length_drop]; omega
    try (refine ev3 @hq @e2 @e6 ?_; try exact True.intro)
    try (refine ev1 @e3 ?_; try exact True.intro)
    rw [e5, e4, xq, xf, t1, zu]
    have hlm : (l.take m).length ≤ 1000000000 := by rw [List.length_take]; omega
    exact ⟨by omega, by omega, by simp only [go_sem]⟩
 ·simp only [if_true] at h1 h2
  rw [h1] at hc
  rw [h2]
  simp only [rdO] at hc
  try (refine ev1 @rdO.eq_1 ?_; try exact True.intro)
  (repeat (with_reducible refine ob ?_)); refine clO [0] F117 (hc) ?_ (hfit := by first | exact ⟨qc, trivial⟩ | exact ⟨qc, qc, trivial⟩ | (refine ev3 @qh.eq_1 @qp.eq_1 @xi.eq_1 ?_; try exact True.intro))
  try (refine ev ?_; try exact True.intro)
  (repeat (with_reducible refine ob ?_)); refine qb9 ?_
  try (refine ev ?_; try exact True.intro)
  (repeat (with_reducible refine ob ?_)); refine clO [0] F178 ((hfl pos)) ?_ (hfit := by first | exact ⟨qc, trivial⟩ | exact ⟨qc, qc, trivial⟩ | (refine ev3 @qh.eq_1 @qp.eq_1 @xi.eq_1 ?_; try exact True.intro))
  try (refine ev1 @qm ?_; try exact True.intro)
theorem qnb (r : Rd) (most : Nat) (hr : r.Ok) (hm : most ≤ 1000000000) : qg Tryz.prog 118 [.d (.ptr 0 0), .d (.int .i64 (most : Nat))] [rdO r] (.d (.str (vt most r).1)) [rdO (vt most r).2] := by
 have hc := qpr r most hr hm
 simp only [rdO] at hc
 refine F118.go ?_
 try (refine ev1 @rdO.eq_1 ?_; try exact True.intro)
 (repeat (with_reducible refine ob ?_)); refine clO [0] F120 (hc) ?_ (hfit := by first | exact ⟨qc, trivial⟩ | exact ⟨qc, qc, trivial⟩ | (refine ev3 @qh.eq_1 @qp.eq_1 @xi.eq_1 ?_; try exact True.intro))
 try (refine ev ?_; try exact True.intro)
theorem qru (r : Rd) (hr : r.Ok) : qg Tryz.prog 80 [.d (.ptr 0 0)] [rdO r] (.d (.int .i64 (rEnd r))) [rdO r] := by
 obtain ⟨hln, hpos⟩ := hr
 obtain ⟨b, pos, f⟩ := r
 simp only at hln hpos
 refine F80.go ?_
 cases f
 ·try (refine ev1 @rdO.eq_1 ?_; try exact True.intro)
  refine xt _ (fun h => ?_) (fun h => ?_)
  ·have hx : rEnd ⟨b, pos, false⟩ = 4 := by unfold rEnd; rw [if_pos]; simp at h ⊢; omega
   try (refine ev1 @hx ?_; try exact True.intro)
  ·have hx : rEnd ⟨b, pos, false⟩ = 0 := by unfold rEnd; rw [if_neg]; simp at h ⊢; omega
   try (refine ev1 @hx ?_; try exact True.intro)
 ·try (refine ev1 @rdO.eq_1 ?_; try exact True.intro)
  (repeat (with_reducible refine ob ?_)); refine qb9 ?_
  try (refine ev1 @rEnd.eq_1 ?_; try exact True.intro)
noncomputable section
set_option maxRecDepth 100000
set_option linter.defProp false
def d61 := cut Tryz.prog Tryz.f61 news
@[go_sem] def E61 := ql d61
end
end Go.Proofs.YtinnaedmdoengaaGreat
namespace Go.Proofs.YtinnaedmdoengaaGreat
open Go.Abs
set_option linter.unusedSimpArgs false
set_option linter.unusedVariables false
theorem xfo (v : Nat) : zz (unz v) = v := by
 unfold zz unz
 split <;> split <;> omega
theorem xfp (n : Int) : unz (zz n) = n := by
 unfold zz unz
 split <;> split <;> omega
theorem toNat_ofNat {n : Nat} (h : n < 256) : (UInt8.ofNat n).toNat = n := by simp [UInt8.toNat_ofNat]; omega
theorem xfq (k : Nat) : ∀ (j u v : Nat) (l : List UInt8), j + (k + 1) = 10 → v * 128 ^ j < 18446744073709551616 → (v = 0 → j = 0) → dG (k + 1) j u (qbj v ++ l) = some (unz (u + v * 128 ^ j), l) := by
 have small : ∀ (k j u v : Nat) (l : List UInt8), v < 128 → v * 128 ^ j < 18446744073709551616 → (v = 0 → j = 0) → dG (k + 1) j u (qbj v ++ l) = some (unz (u + v * 128 ^ j), l) := by
  intro k j u v l hv hb h0
  rw [qau hv, List.singleton_append, dG, toNat_ofNat (by omega), if_pos hv, if_neg]
  simp only [Bool.or_eq_true, Bool.and_eq_true, beq_iff_eq, decide_eq_true_eq, not_or, not_and]
  refine ⟨fun h => by have := h0 h; omega, fun h => ?_⟩
  subst h
  have e : (128 : Nat) ^ 9 = 9223372036854775808 := by decide
  rw [e] at hb; omega
 induction k with
 | zero =>
  intro j u v l hj hb h0
  refine small 0 j u v l ?_ hb h0
  have : j = 9 := by omega
  subst this
  have e : (128 : Nat) ^ 9 = 9223372036854775808 := by decide
  rw [e] at hb; omega
 | succ k ih =>
  intro j u v l hj hb h0
  by_cases hv : v < 128
  ·exact small _ j u v l hv hb h0
  ·have hm : v % 128 + 128 < 256 := by omega
   rw [qca hv, List.cons_append, dG, toNat_ofNat hm, if_neg (by omega)]
   have e1 : (v % 128 + 128) % 128 = v % 128 := by omega
   have e2 : v % 128 * 128 ^ j + v / 128 * 128 ^ (j + 1) = v * 128 ^ j := by
    rw [Nat.pow_succ, Nat.mul_comm (128 ^ j) 128, ← Nat.mul_assoc, ← Nat.add_mul]
    congr 1; omega
   have hle : v / 128 * 128 ^ (j + 1) ≤ v * 128 ^ j := by omega
   rw [e1, ih (j + 1) _ (v / 128) l (by omega) (by omega) (by omega)]
   rw [Nat.add_assoc, e2]
theorem qay {n : Int} (hn : I64 n) (l : List UInt8) : dInt (wInt n ++ l) = some (n, l) := by
 have := xfq 9 0 0 (zz n) l rfl (by rw [Nat.pow_zero, Nat.mul_one]; exact q9d hn) (fun _ => rfl)
 rw [Nat.pow_zero, Nat.mul_one, Nat.zero_add, xfp] at this
 exact this
theorem xb0 : ∀ (k j u : Nat) {l0 : List UInt8} {x : Int} {l : List UInt8}, j + k = 10 → dG k j u l0 = some (x, l) →
  ∃ v, x = unz (u + v * 128 ^ j) ∧ l0 = qbj v ++ l ∧ (v = 0 → j = 0) ∧ v * 128 ^ j < 18446744073709551616
 | 0, j, u, l0, x, l, hj, h => by simp [dG] at h
 | k + 1, j, u, [], x, l, hj, h => by simp [dG] at h
 | k + 1, j, u, c :: l0, x, l, hj, h => by
  rw [dG] at h
  have hlt := qag c
  split at h
  ·rename_i hc
   split at h
   ·cases h
   ·rename_i hb
    cases h
    simp only [Bool.or_eq_true, Bool.and_eq_true, beq_iff_eq, decide_eq_true_eq, not_or, not_and] at hb
    refine ⟨c.toNat, rfl, ?_, fun h => by have := hb.1 h; omega, ?_⟩
    ·rw [qau hc, List.singleton_append]
     congr 1
     exact (UInt8.ofNat_toNat).symm
    ·rcases Nat.lt_or_ge j 9 with h9 | h9
     ·have hp := qe7 (j := j) (by omega)
      rw [Nat.pow_succ] at hp
      have : c.toNat * 128 ^ j ≤ 127 * 128 ^ j := Nat.mul_le_mul_right _ (by omega)
      omega
     ·have : j = 9 := by omega
      subst this
      have := hb.2 rfl
      have e : (128 : Nat) ^ 9 = 9223372036854775808 := by decide
      rw [e]; omega
  ·rename_i hc
   obtain ⟨v, h1, h2, h3, h4⟩ := xb0 k (j + 1) _ (by omega) h
   have e2 : c.toNat % 128 * 128 ^ j + v * 128 ^ (j + 1) = (v * 128 + c.toNat % 128) * 128 ^ j := by
    rw [Nat.pow_succ, Nat.mul_comm (128 ^ j) 128, ← Nat.mul_assoc, ← Nat.add_mul, Nat.add_comm]
   have hv : v ≠ 0 := fun h => by have := h3 h; omega
   have hk : k ≠ 0 := by
    rintro rfl
    simp [dG] at h
   refine ⟨v * 128 + c.toNat % 128, by rw [h1, Nat.add_assoc, e2], ?_, fun h => by omega, ?_⟩
   ·rw [h2, qca (u := v * 128 + c.toNat % 128) (by omega), List.cons_append]
    have e3 : (v * 128 + c.toNat % 128) % 128 + 128 = c.toNat := by omega
    have e4 : (v * 128 + c.toNat % 128) / 128 = v := by omega
    rw [e3, e4]
    congr 1
    exact (UInt8.ofNat_toNat).symm
   ·rw [← e2]
    have hp := qe7 (j := j) (by omega)
    have h5 : c.toNat % 128 * 128 ^ j ≤ 127 * 128 ^ j := Nat.mul_le_mul_right _ (by omega)
    have h6 : v * 128 ^ (j + 1) % 128 ^ (j + 1) = 0 := Nat.mul_mod_left _ _
    have h7 : (18446744073709551616 : Nat) % 128 ^ (j + 1) = 0 := by
     have : (18446744073709551616 : Nat) = 2 * 128 ^ 9 := by decide
     rw [this, ← Nat.pow_sub_mul_pow 128 (show j + 1 ≤ 9 by omega), ← Nat.mul_assoc]
     exact Nat.mul_mod_left _ _
    have h8 : 127 * 128 ^ j < 128 ^ (j + 1) := by rw [Nat.pow_succ]; have : 0 < 128 ^ j := Nat.pow_pos (by decide); omega
    generalize hP : 128 ^ (j + 1) = P at h4 h6 h7 h8 ⊢
    obtain ⟨q, hq⟩ := Nat.dvd_of_mod_eq_zero h7
    rw [hq] at h4 ⊢
    have : v < q := by
     rw [Nat.mul_comm P q] at h4
     exact Nat.lt_of_mul_lt_mul_right h4
    have : (v + 1) * P ≤ q * P := Nat.mul_le_mul_right _ this
    rw [Nat.add_mul, Nat.one_mul] at this
    rw [Nat.mul_comm P q]
    omega
theorem qcx {l0 : List UInt8} {n : Int} {l : List UInt8} (h : dInt l0 = some (n, l)) : I64 n ∧ l0 = wInt n ++ l := by
 obtain ⟨v, h1, h2, _, h4⟩ := xb0 10 0 0 rfl h
 rw [Nat.pow_zero, Nat.mul_one] at h1 h4
 rw [Nat.zero_add] at h1
 subst h1
 refine ⟨?_, by rw [wInt, xfo]; exact h2⟩
 unfold I64 unz
 split <;> omega
theorem qjf {most : Int} {s : List UInt8} (hs : (s.length : Int) ≤ most) (hm : most ≤ 1000000000) (l : List UInt8) : yx most (yh s ++ l) = some (s, l) := by
 unfold yx xw yh
 rw [List.append_assoc, qay (xp (by omega))]
 simp only
 rw [if_neg (by omega)]
 simp only [Int.toNat_natCast, List.length_append]
 rw [if_neg (by omega), List.take_left, List.drop_left]
theorem qjg {most : Int} {l0 s l : List UInt8} (h : yx most l0 = some (s, l)) : l0 = yh s ++ l ∧ (s.length : Int) ≤ most := by
 unfold yx xw at h
 cases hd : dInt l0 with
 | none => rw [hd] at h; cases h
 | some x =>
  obtain ⟨n, l1⟩ := x
  rw [hd] at h
  simp only at h
  by_cases hn : n < 0 ∨ n > most
  ·rw [if_pos hn] at h; cases h
  ·rw [if_neg hn] at h
   simp only at h
   split at h
   ·cases h
   ·rename_i hl
    cases h
    obtain ⟨_, h1⟩ := qcx hd
    have e : ((l1.take n.toNat).length : Int) = n := by rw [List.length_take]; omega
    refine ⟨?_, by omega⟩
    unfold yh
    rw [e, List.append_assoc, List.take_append_drop]
    exact h1
theorem qbt {α : Type} {b : List UInt8} {v : α} {l : List UInt8} {x : α × Rd} (h : Got (some (v, l)) b x) : x = (v, ⟨b, b.length - l.length, false⟩) := h
theorem wi {α : Type} {z : α} {f : Rd → α × Rd} {d : List UInt8 → Option (α × List UInt8)} (hd : qh9 z f d) {r : Rd} (hr : r.Ok) (hf : r.failed = false) {v : α} {l : List UInt8} (h : d (r.b.drop r.pos) = some (v, l)) : f r = (v, ⟨r.b, r.b.length - l.length, false⟩) := by
 rw [hd r hr, if_neg (by simp [hf]), h]
theorem qfx {α : Type} {z : α} {f : Rd → α × Rd} {d : List UInt8 → Option (α × List UInt8)} (hd : qh9 z f d) {r : Rd} (hr : r.Ok) (hf : r.failed = true) : f r = (z, r) := by
 rw [hd r hr, if_pos hf]
end Go.Proofs.YtinnaedmdoengaaGreat
namespace Go.Proofs.YtinnaedmdoengaaGreat
open Go.Abs
set_option linter.unusedSimpArgs false
set_option linter.unusedVariables false
def qea {α : Type} (d : List UInt8 → Option (α × List UInt8)) : Nat → List UInt8 → Option (List α × List UInt8)
 | 0, l => some ([], l)
 | n + 1, l => match d l with
  | none => none
  | some (v, l1) => match qea d n l1 with
   | none => none
   | some (vs, l2) => some (v :: vs, l2)
def qgt {α : Type} (most : Int) (d : List UInt8 → Option (α × List UInt8)) (l0 : List UInt8) : Option (List α × List UInt8) := match xw 0 most l0 with
 | none => none
 | some (n, l) => qea d n.toNat l
def dAV (l0 : List UInt8) : Option (AV × List UInt8) := match xw 1 2 l0 with
 | none => none
 | some (k, l) => if k = 1 then (match dInt l with
   | none => none
   | some (n, l1) => some (⟨k, n, []⟩, l1)) else (match yx 40 l with
   | none => none
   | some (s, l1) => some (⟨k, 0, s⟩, l1))
theorem qvd {α : Type} {d : List UInt8 → Option (α × List UInt8)} {w : α → List UInt8} (l : List UInt8) : ∀ xs : List α, (∀ x ∈ xs, ∀ l, d (w x ++ l) = some (x, l)) → qea d xs.length (xs.flatMap w ++ l) = some (xs, l)
 | [], _ => rfl
 | x :: xs, h => by
  have ih := qvd l xs fun y hy => h y (by simp [hy])
  simp only [List.length_cons, qea, List.flatMap_cons, List.append_assoc, h x (by simp), ih]
theorem qve {α : Type} {d : List UInt8 → Option (α × List UInt8)} {w : α → List UInt8} (h : ∀ l0 x l, d l0 = some (x, l) → l0 = w x ++ l) : ∀ (n : Nat) {l0 : List UInt8} {xs : List α} {l : List UInt8}, qea d n l0 = some (xs, l) → l0 = xs.flatMap w ++ l ∧ xs.length = n
 | 0, l0, xs, l, e => by cases e; exact ⟨rfl, rfl⟩
 | n + 1, l0, xs, l, e => by
  rw [qea] at e
  cases h1 : d l0 with
  | none => rw [h1] at e; cases e
  | some x =>
   obtain ⟨v, l1⟩ := x
   rw [h1] at e
   simp only at e
   cases h2 : qea d n l1 with
   | none => rw [h2] at e; cases e
   | some x =>
    obtain ⟨vs, l2⟩ := x
    rw [h2] at e
    cases e
    obtain ⟨e1, e2⟩ := qve h n h2
    rw [h _ _ _ h1, e1]
    simp [e2]
theorem qe8 {lo hi n : Int} (h1 : lo ≤ n) (h2 : n ≤ hi) (hn : I64 n) (l : List UInt8) : xw lo hi (wInt n ++ l) = some (n, l) := by
 unfold xw
 rw [qay hn]
 simp only
 rw [if_neg (by omega)]
theorem qe9 {lo hi n : Int} {l0 l : List UInt8} (h : xw lo hi l0 = some (n, l)) : l0 = wInt n ++ l ∧ lo ≤ n ∧ n ≤ hi ∧ I64 n := by
 unfold xw at h
 split at h
 ·rename_i hd
  split at h
  ·cases h
  ·cases h
   obtain ⟨h1, h2⟩ := qcx hd
   exact ⟨h2, by omega, by omega, h1⟩
 ·cases h
theorem qvf {α : Type} {most : Nat} (hm : most ≤ 1000) {d : List UInt8 → Option (α × List UInt8)} {w : α → List UInt8} {xs : List α} (hl : xs.length ≤ most) (h : ∀ x ∈ xs, ∀ l, d (w x ++ l) = some (x, l)) (l : List UInt8) : qgt most d (wInt xs.length ++ xs.flatMap w ++ l) = some (xs, l) := by
 unfold qgt
 rw [List.append_assoc, qe8 (by omega) (by omega) (xp (by omega))]
 simp only [Int.toNat_natCast]
 exact qvd l xs h
theorem qvg {α : Type} {most : Int} {d : List UInt8 → Option (α × List UInt8)} {w : α → List UInt8} (h : ∀ l0 x l, d l0 = some (x, l) → l0 = w x ++ l) {l0 : List UInt8} {xs : List α} {l : List UInt8} (e : qgt most d l0 = some (xs, l)) : l0 = wInt xs.length ++ xs.flatMap w ++ l ∧ (xs.length : Int) ≤ most := by
 unfold qgt at e
 cases h1 : xw 0 most l0 with
 | none => rw [h1] at e; cases e
 | some x =>
  obtain ⟨n, l1⟩ := x
  rw [h1] at e
  obtain ⟨a1, a2, a3, _⟩ := qe9 h1
  obtain ⟨b1, b2⟩ := qve h _ e
  have : (xs.length : Int) = n := by omega
  rw [this, a1, b1, List.append_assoc]
  exact ⟨rfl, a3⟩
theorem xdp {v : AV} (hv : v.Sm) (hp : yj v = true) (l : List UInt8) : dAV (wAV v ++ l) = some (v, l) := by
 obtain ⟨h1, h2, h3⟩ := hv
 obtain ⟨k, n, s⟩ := v
 simp only at h1 h2 h3
 unfold dAV wAV
 by_cases hk : k = 1
 ·subst hk
  have hs : s = [] := by simpa [yj] using hp
  rw [if_pos rfl, List.append_assoc, qe8 (by decide) (by decide) h1]
  simp only [if_true]
  rw [qay h2]
  simp only [hs]
 ·by_cases hk2 : k = 2
  ·subst hk2
   have hs : n = 0 ∧ (s.length : Int) ≤ 40 := by simpa [yj] using hp
   rw [if_neg hk, if_pos rfl, List.append_assoc, qe8 (by decide) (by decide) h1]
   simp only
   rw [if_neg hk, qjf hs.2 (by decide)]
   simp only [hs.1]
  ·simp [yj, hk, hk2] at hp
theorem q6c {l0 : List UInt8} {v : AV} {l : List UInt8} (h : dAV l0 = some (v, l)) : l0 = wAV v ++ l ∧ v.Sm := by
 unfold dAV at h
 cases h1 : xw 1 2 l0 with
 | none => rw [h1] at h; cases h
 | some x =>
  obtain ⟨k, l1⟩ := x
  rw [h1] at h
  obtain ⟨a1, a2, a3, a4⟩ := qe9 h1
  simp only at h
  by_cases hk : k = 1
  ·rw [if_pos hk] at h
   cases h2 : dInt l1 with
   | none => rw [h2] at h; cases h
   | some x =>
    obtain ⟨n, l2⟩ := x
    rw [h2] at h
    cases h
    obtain ⟨b1, b2⟩ := qcx h2
    refine ⟨?_, a4, b1, by simp⟩
    rw [a1, b2, wAV, if_pos hk, List.append_assoc]
  ·rw [if_neg hk] at h
   cases h2 : yx 40 l1 with
   | none => rw [h2] at h; cases h
   | some x =>
    obtain ⟨s, l2⟩ := x
    rw [h2] at h
    cases h
    obtain ⟨b1, b2⟩ := qjg h2
    refine ⟨?_, a4, by unfold I64; simp, by simp only; omega⟩
    rw [a1, b1, wAV, if_neg hk, if_pos (show k = 2 by omega), List.append_assoc]
theorem qzx : qje dAV := fun _ _ _ h => ⟨_, (q6c h).1⟩
theorem q6d {α : Type} {d : List UInt8 → Option (α × List UInt8)} {f : Rd → α × Rd} (ht : qje d) (hf : ∀ r : Rd, r.Ok → r.failed = false → Got (d (r.b.drop r.pos)) r.b (f r)) :
  ∀ (n : Nat) {r : Rd}, r.Ok → r.failed = false → Got (qea d n (r.b.drop r.pos)) r.b (yz f n r)
 | 0, r, hr, h0 => by
  have := hr.pos
  simp only [Got, qea, yz, List.length_drop]
  rw [show r.b.length - (r.b.length - r.pos) = r.pos by omega, ← h0]
 | n + 1, r, hr, h0 => by
  have h1 := hf r hr h0
  rw [qea, yz, if_neg (by simp [h0])]
  cases hd : d (r.b.drop r.pos) with
  | none =>
   rw [hd] at h1
   simp only [Got] at h1 ⊢
   cases n with
   | zero => exact h1
   | succ n => rw [yz, if_pos h1]; exact h1
  | some x =>
   obtain ⟨v, l⟩ := x
   rw [hd] at h1
   have h1 := qbt h1
   obtain ⟨p, hp⟩ := ht _ _ _ hd
   obtain ⟨t1, t2⟩ := zr hr.pos hp
   have ih := q6d ht hf n (r := ⟨r.b, r.b.length - l.length, false⟩) ⟨hr.len, Nat.sub_le _ _⟩ rfl
   simp only [t1] at ih
   rw [h1]
   simp only
   cases hm : qea d n l with
   | none => rw [hm] at ih; exact ih
   | some x =>
    obtain ⟨vs, l2⟩ := x
    rw [hm] at ih
    have ih := qbt ih
    simp only [Got, ih]
theorem q6e {α : Type} {d : List UInt8 → Option (α × List UInt8)} {f : Rd → α × Rd} (ht : qje d) (hf : ∀ r : Rd, r.Ok → r.failed = false → Got (d (r.b.drop r.pos)) r.b (f r)) (most : Int)
  {r : Rd} (hr : r.Ok) (h0 : r.failed = false) : Got (qgt most d (r.b.drop r.pos)) r.b (qdg most f r) := by
 have h1 := qfw 0 most hr h0
 unfold qgt qdg
 cases hd : xw 0 most (r.b.drop r.pos) with
 | none =>
  rw [hd] at h1
  simp only [Got] at h1 ⊢
  generalize xg 0 most r = y at h1 ⊢
  cases y.1.toNat with
  | zero => exact h1
  | succ n => rw [yz, if_pos h1]; exact h1
 | some x =>
  obtain ⟨n, l⟩ := x
  rw [hd] at h1
  have h1 := qbt h1
  obtain ⟨p, hp⟩ := kz _ _ _ _ _ hd
  obtain ⟨t1, t2⟩ := zr hr.pos hp
  have h2 := q6d ht hf n.toNat (r := ⟨r.b, r.b.length - l.length, false⟩) ⟨hr.len, Nat.sub_le _ _⟩ rfl
  simp only [t1] at h2
  rw [h1]
  exact h2
theorem xfr {r : Rd} (hr : r.Ok) (h0 : r.failed = false) : Got (dAV (r.b.drop r.pos)) r.b (rAV r) := by
 have h1 := qfw 1 2 hr h0
 unfold dAV rAV
 cases hd : xw 1 2 (r.b.drop r.pos) with
 | none =>
  rw [hd] at h1
  simp only [Got] at h1 ⊢
  rw [if_pos h1]; exact h1
 | some x =>
  obtain ⟨n, l⟩ := x
  rw [hd] at h1
  have h1 := qbt h1
  obtain ⟨p, hp⟩ := kz _ _ _ _ _ hd
  obtain ⟨t1, t2⟩ := zr hr.pos hp
  have hr1 : (⟨r.b, r.b.length - l.length, false⟩ : Rd).Ok := ⟨hr.len, Nat.sub_le _ _⟩
  rw [h1]
  simp only [Bool.false_eq_true, if_false]
  by_cases hn : n = 1
  ·have h2 := qzw hr1 rfl
   simp only [t1] at h2
   rw [if_pos hn, if_pos hn]
   cases hd2 : dInt l with
   | none => rw [hd2] at h2; exact h2
   | some x =>
    obtain ⟨v, l2⟩ := x
    rw [hd2] at h2
    have h2 := qbt h2
    simp only [Got, h2]
  ·have h2 := qva 40 hr1 rfl
   simp only [t1] at h2
   rw [if_neg hn, if_neg hn]
   cases hd2 : yx 40 l with
   | none => rw [hd2] at h2; exact h2
   | some x =>
    obtain ⟨v, l2⟩ := x
    rw [hd2] at h2
    have h2 := qbt h2
    simp only [Got, h2]
theorem qrx (most : Int) : qh9 [] (qap most) (qgt most dInt) := qaw (fun r hr => (qh4 (fun _ h => qcw h) hr most).2) fun r hr hf => q6e qm9 (fun _ h1 h2 => qzw h1 h2) most hr hf
theorem qx8 (most : Int) : qh9 [] (qbg most) (qgt most dAV) := qaw (fun r hr => (qh4 (fun _ h => qm5 h) hr most).2) fun r hr hf => q6e qzx (fun _ h1 h2 => xfr h1 h2) most hr hf
end Go.Proofs.YtinnaedmdoengaaGreat
namespace Go.Proofs.YtinnaedmdoengaaGreat
open Go.Abs
set_option linter.unusedSimpArgs false
set_option linter.unusedVariables false
noncomputable section
set_option maxRecDepth 100000
set_option linter.defProp false
def d194 := cut Tryz.prog Tryz.f194 news
@[go_sem] def E194 := ql d194
def F194 := fnC d194 follows Tryz.func194
def d140 := cut Tryz.prog Tryz.f140 news
@[go_sem] def E140 := ql d140
def F140 := fnC d140 follows Tryz.func140
def d139 := cut Tryz.prog Tryz.f139 news
@[go_sem] def E139 := ql d139
def F139 := fnC d139 follows Tryz.func139
end
def rAVP := qbs (default : AV) rAV
theorem xb1 : qh9 default rAVP dAV := qaw (fun r hr => (qm5 hr).2) fun r hr hf => xfr hr hf
theorem xar {r : Rd} (h : r.Ok) : (rAVP r).2.Ok ∧ (rAVP r).2.b = r.b := qcf h (qm5 h)
theorem xas : qx default = [.int .i64 0, .int .i64 0, .str []] := rfl
theorem xdq (r : Rd) (hr : r.Ok) : qg Tryz.prog 194 [.d (.ptr 0 0)] [rdO r] (.d (.agg (qx (rAVP r).1))) [rdO (rAVP r).2] := by
 have hb := qa5 r 1 2 hr
 have hbd := qch 1 2 r hr
 have hd := xb1 r hr
 obtain ⟨hln, hpos⟩ := hr
 obtain ⟨b, p, f⟩ := r
 simp only at hln hpos
 have hfl := fun q => qdk ⟨b, q, true⟩ p
 simp only [rdO] at hfl
 have hT := fun q (hq : q ≤ b.length) => qnb ⟨b, q, true⟩ 40 ⟨hln, hq⟩ (by decide)
 have hTe := fun q (hq : q ≤ b.length) => qfx (wv 40) (r := ⟨b, q, true⟩) ⟨hln, hq⟩ rfl
 refine F194.go ?_
 have bad : ∀ q : Nat, q ≤ b.length → qg Tryz.prog 118 [.d (.ptr 0 0), .d (.int .i64 40)] [.row [.d (.sl 1 (qd b)), .d (.int .i64 (q : Nat)), .d (.bool true)]] (.d (.str [])) [.row [.d (.sl 1 (qd b)), .d (.int .i64 (q : Nat)), .d (.bool true)]] := fun q hq => by
  have h1 := hT q hq
  have h2 := hTe q hq
  rw [show ((40 : Nat) : Int) = 40 from rfl, h2] at h1
  exact h1
 cases f
 ·simp only [Bool.false_eq_true, if_false] at hbd hd
  unfold dAV at hd
  cases hB : xw 1 2 (b.drop p) with
  | none =>
   rw [hB] at hbd hd
   simp only at hbd hd
   rw [hbd] at hb
   rw [hd]
   simp only [rdO] at hb
   try (refine ev1 @rdO.eq_1 ?_; try exact True.intro)
   (repeat (with_reducible refine ob ?_)); refine clO [0] F117 (hb) ?_ (hfit := by first | exact ⟨qc, trivial⟩ | exact ⟨qc, qc, trivial⟩ | (refine ev2 @qx.eq_1 @encI.eq_1 ?_; try exact True.intro))
   try (refine ev ?_; try exact True.intro)
   (repeat (with_reducible refine ob ?_)); refine no_ ?_
   try (refine ev ?_; try exact True.intro)
   (repeat (with_reducible refine ob ?_)); refine clO [0] F118 ((bad p hpos)) ?_ (hfit := by first | exact ⟨qc, trivial⟩ | exact ⟨qc, qc, trivial⟩ | (refine ev2 @qx.eq_1 @encI.eq_1 ?_; try exact True.intro))
   try (refine ev ?_; try exact True.intro)
   (repeat (with_reducible refine ob ?_)); refine qb9 ?_
   try (refine ev ?_; try exact True.intro)
   (repeat (with_reducible refine ob ?_)); refine clO [0] F178 ((hfl p)) ?_ (hfit := by first | exact ⟨qc, trivial⟩ | exact ⟨qc, qc, trivial⟩ | (refine ev2 @qx.eq_1 @encI.eq_1 ?_; try exact True.intro))
   try (refine ev1 @xas ?_; try exact True.intro)
  | some x =>
   obtain ⟨k, l⟩ := x
   rw [hB] at hbd hd
   simp only at hbd hd
   rw [hbd] at hb
   obtain ⟨p1, hp1⟩ := kz _ _ _ _ _ hB
   obtain ⟨t1, t2⟩ := zr hpos hp1
   generalize hq : b.length - l.length = q at hb t1 t2
   have hqb : q ≤ b.length := by omega
   have hI := yo ⟨b, q, false⟩ ⟨hln, hqb⟩
   have hId := qbh ⟨b, q, false⟩ ⟨hln, hqb⟩
   have hX := qnb ⟨b, q, false⟩ 40 ⟨hln, hqb⟩ (by decide)
   have hXd := wv 40 ⟨b, q, false⟩ ⟨hln, hqb⟩
   rw [show ((40 : Nat) : Int) = 40 from rfl] at hX
   simp only [Bool.false_eq_true, if_false, t1] at hId hXd
   simp only [rdO] at hb
   try (refine ev1 @rdO.eq_1 ?_; try exact True.intro)
   (repeat (with_reducible refine ob ?_)); refine clO [0] F117 (hb) ?_ (hfit := by first | exact ⟨qc, trivial⟩ | exact ⟨qc, qc, trivial⟩ | (refine ev2 @qx.eq_1 @encI.eq_1 ?_; try exact True.intro))
   try (refine ev ?_; try exact True.intro)
   refine xt _ (fun hk => ?_) (fun hk => ?_)
   ·have hk1 : k = 1 := by simpa using hk
    rw [if_pos hk1] at hd
    cases hi : dInt l with
    | none =>
     rw [hi] at hId hd
     simp only at hId hd
     rw [hId] at hI
     rw [hd]
     simp only [rdO] at hI
     try (refine ev ?_; try exact True.intro)
     (repeat (with_reducible refine ob ?_)); refine clO [0] F79 (hI) ?_ (hfit := by first | exact ⟨qc, trivial⟩ | exact ⟨qc, qc, trivial⟩ | (refine ev2 @qx.eq_1 @encI.eq_1 ?_; try exact True.intro))
     try (refine ev ?_; try exact True.intro)
     (repeat (with_reducible refine ob ?_)); refine qb9 ?_
     try (refine ev ?_; try exact True.intro)
     (repeat (with_reducible refine ob ?_)); refine clO [0] F178 ((hfl q)) ?_ (hfit := by first | exact ⟨qc, trivial⟩ | exact ⟨qc, qc, trivial⟩ | (refine ev2 @qx.eq_1 @encI.eq_1 ?_; try exact True.intro))
     try (refine ev1 @xas ?_; try exact True.intro)
    | some y =>
     obtain ⟨n, l1⟩ := y
     rw [hi] at hId hd
     simp only at hId hd
     rw [hId] at hI
     rw [hd]
     simp only [rdO] at hI
     try (refine ev ?_; try exact True.intro)
     (repeat (with_reducible refine ob ?_)); refine clO [0] F79 (hI) ?_ (hfit := by first | exact ⟨qc, trivial⟩ | exact ⟨qc, qc, trivial⟩ | (refine ev2 @qx.eq_1 @encI.eq_1 ?_; try exact True.intro))
     try (refine ev ?_; try exact True.intro)
     (repeat (with_reducible refine ob ?_)); refine no_ ?_
     try (refine ev1 @qx.eq_1 ?_; try exact True.intro)
   ·have hk1 : k ≠ 1 := by simpa using hk
    rw [if_neg hk1] at hd
    cases hi : yx 40 l with
    | none =>
     rw [hi] at hXd hd
     simp only at hXd hd
     rw [hXd] at hX
     rw [hd]
     simp only [rdO] at hX
     try (refine ev ?_; try exact True.intro)
     (repeat (with_reducible refine ob ?_)); refine clO [0] F118 (hX) ?_ (hfit := by first | exact ⟨qc, trivial⟩ | exact ⟨qc, qc, trivial⟩ | (refine ev2 @qx.eq_1 @encI.eq_1 ?_; try exact True.intro))
     try (refine ev ?_; try exact True.intro)
     (repeat (with_reducible refine ob ?_)); refine qb9 ?_
     try (refine ev ?_; try exact True.intro)
     (repeat (with_reducible refine ob ?_)); refine clO [0] F178 ((hfl q)) ?_ (hfit := by first | exact ⟨qc, trivial⟩ | exact ⟨qc, qc, trivial⟩ | (refine ev2 @qx.eq_1 @encI.eq_1 ?_; try exact True.intro))
     try (refine ev1 @xas ?_; try exact True.intro)
    | some y =>
     obtain ⟨s, l1⟩ := y
     rw [hi] at hXd hd
     simp only at hXd hd
     rw [hXd] at hX
     rw [hd]
     simp only [rdO] at hX
     try (refine ev ?_; try exact True.intro)
     (repeat (with_reducible refine ob ?_)); refine clO [0] F118 (hX) ?_ (hfit := by first | exact ⟨qc, trivial⟩ | exact ⟨qc, qc, trivial⟩ | (refine ev2 @qx.eq_1 @encI.eq_1 ?_; try exact True.intro))
     try (refine ev ?_; try exact True.intro)
     (repeat (with_reducible refine ob ?_)); refine no_ ?_
     try (refine ev1 @qx.eq_1 ?_; try exact True.intro)
 ·simp only [if_true] at hbd hd
  rw [hbd] at hb
  rw [hd]
  simp only [rdO] at hb
  try (refine ev1 @rdO.eq_1 ?_; try exact True.intro)
  (repeat (with_reducible refine ob ?_)); refine clO [0] F117 (hb) ?_ (hfit := by first | exact ⟨qc, trivial⟩ | exact ⟨qc, qc, trivial⟩ | (refine ev2 @qx.eq_1 @encI.eq_1 ?_; try exact True.intro))
  try (refine ev ?_; try exact True.intro)
  (repeat (with_reducible refine ob ?_)); refine no_ ?_
  try (refine ev ?_; try exact True.intro)
  (repeat (with_reducible refine ob ?_)); refine clO [0] F118 ((bad p hpos)) ?_ (hfit := by first | exact ⟨qc, trivial⟩ | exact ⟨qc, qc, trivial⟩ | (refine ev2 @qx.eq_1 @encI.eq_1 ?_; try exact True.intro))
  try (refine ev ?_; try exact True.intro)
  (repeat (with_reducible refine ob ?_)); refine qb9 ?_
  try (refine ev ?_; try exact True.intro)
  (repeat (with_reducible refine ob ?_)); refine clO [0] F178 ((hfl p)) ?_ (hfit := by first | exact ⟨qc, trivial⟩ | exact ⟨qc, qc, trivial⟩ | (refine ev2 @qx.eq_1 @encI.eq_1 ?_; try exact True.intro))
  try (refine ev1 @xas ?_; try exact True.intro)
def SrLi {α : Type} (es : Nat) (enc : α → List D) (p : Nat) (n : Int) (x : Nat × List α × Rd) : St :=
 ⟨[(0, true, .d (.ptr 0 0)), (5, true, .d (.int .i64 (p : Nat))), (6, true, .d (.int .i64 n)), (7, true, .own 0 es (x.2.1.map enc)), (8, true, .d (.int .i64 (x.1 : Nat)))], [rdO x.2.2], [0], 1⟩
structure LInv {α : Type} (d : List UInt8 → Option (α × List UInt8)) (F : List α × Rd) (b : List UInt8) (p : Nat) (n : Int) (x : Nat × List α × Rd) : Prop where
 eb : x.2.2.b = b
 ok : x.2.2.Ok
 bad : x.2.2.failed = true → F = ([], ⟨b, p, true⟩)
 good : x.2.2.failed = false → n ≤ 1000 ∧ x.2.1.length = x.1 ∧ F = match qea d (n.toNat - x.1) (b.drop x.2.2.pos) with
  | some (vs, l) => (x.2.1 ++ vs, ⟨b, b.length - l.length, false⟩)
  | none => ([], ⟨b, p, true⟩)
theorem xb2 {α : Type} {d : List UInt8 → Option (α × List UInt8)} {z : List α} {f : Rd → List α × Rd} {most : Nat} (hm : most ≤ 1000) (hd : qh9 [] f (qgt most d)) (r : Rd) (hr : r.Ok) : LInv d (f r) r.b r.pos (za 0 most r).1 (0, [], (za 0 most r).2) := by
 have h1 := qch 0 most r hr
 have h2 := hd r hr
 have h3 := qd8 hr 0 most
 refine ⟨h3.2, h3.1, fun hf => ?_, fun hf => ?_⟩
 ·simp only at hf
  by_cases h0 : r.failed = true
  ·rw [h2, if_pos h0]; cases r; simp only at h0; rw [h0]
  ·rw [if_neg h0] at h1 h2
   unfold qgt at h2
   cases hb : xw 0 most (r.b.drop r.pos) with
   | none => rw [hb] at h2; exact h2
   | some x => rw [hb] at h1; rw [h1] at hf; cases hf
 ·simp only at hf ⊢
  by_cases h0 : r.failed = true
  ·rw [if_pos h0] at h1; rw [h1, h0] at hf; cases hf
  ·rw [if_neg h0] at h1 h2
   unfold qgt at h2
   cases hb : xw 0 most (r.b.drop r.pos) with
   | none => rw [hb] at h1; rw [h1] at hf; cases hf
   | some x =>
    obtain ⟨n, l⟩ := x
    obtain ⟨e1, e2, e3, _⟩ := qe9 hb
    obtain ⟨t1, t2⟩ := zr hr.pos e1
    rw [hb] at h1 h2
    simp only at h1 h2
    rw [h1, h2]
    simp only [t1, Nat.sub_zero, List.nil_append]
    exact ⟨by omega, rfl, by cases qea d n.toNat l <;> rfl⟩
theorem xb3 {α : Type} {d : List UInt8 → Option (α × List UInt8)} {z : α} {F : List α × Rd} {b : List UInt8} {p : Nat} {n : Int} {i : Nat} {l : List α} {r : Rd} {f : Rd → α × Rd} (hd : qh9 z f d) (ht : qje d) (h : LInv d F b p n (i, l, r)) (hf : r.failed = false) (hi : (i : Int) < n) (hv : (f r).2.Ok ∧ (f r).2.b = r.b) :
  LInv d F b p n (i + 1, l ++ [(f r).1], (f r).2) := by
 obtain ⟨hb, hr, h1, h2⟩ := h
 obtain ⟨g1, g2, g3⟩ := h2 hf
 simp only at hb hr g1 g2 g3
 subst hb
 have hx := hd r hr
 rw [if_neg (by simp [hf])] at hx
 rw [show n.toNat - i = (n.toNat - (i + 1)) + 1 by omega, qea] at g3
 refine ⟨hv.2, hv.1, fun hb => ?_, fun hb => ?_⟩
 ·simp only at hb
  cases hc : d (r.b.drop r.pos) with
  | none => rw [hc] at g3; exact g3
  | some y => rw [hc] at hx; rw [hx] at hb; cases hb
 ·simp only at hb ⊢
  cases hc : d (r.b.drop r.pos) with
  | none => rw [hc] at hx; rw [hx] at hb; cases hb
  | some y =>
   obtain ⟨v, l1⟩ := y
   obtain ⟨q, hq⟩ := ht _ _ _ hc
   obtain ⟨t1, t2⟩ := zr hr.pos hq
   rw [hc] at hx g3
   simp only at hx g3
   rw [hx, g3]
   simp only [t1]
   refine ⟨g1, by simp [g2], ?_⟩
   cases qea d (n.toNat - (i + 1)) l1 with
   | none => rfl
   | some w => simp
theorem xb4 {α : Type} {d : List UInt8 → Option (α × List UInt8)} {F : List α × Rd} {b : List UInt8} {p : Nat} {n : Int} {i : Nat} {l : List α} {r : Rd} (h : LInv d F b p n (i, l, r)) (hf : r.failed = false) (hi : ¬ (i : Int) < n) : F = (l, r) := by
 obtain ⟨hb, hr, h1, h2⟩ := h
 obtain ⟨g1, g2, g3⟩ := h2 hf
 have hp := hr.pos
 simp only at hb hr g1 g2 g3 hp
 subst hb
 rw [show n.toNat - i = 0 by omega, qea] at g3
 simp only at g3
 rw [g3, List.append_nil, List.length_drop, show r.b.length - (r.b.length - r.pos) = r.pos by omega, ← hf]
set_option maxRecDepth 10000 in
theorem q6f (r : Rd) (most : Nat) (hr : r.Ok) (hm : most ≤ 1000) : qg Tryz.prog 140 [.d (.ptr 0 0), .d (.int .i64 (most : Nat))] [rdO r] (.d (.sl 1 ((qap most r).1.map encI))) [rdO (qap most r).2] := by
 have hb := qa5 r 0 most hr
 have h0 := xb2 (z := []) hm (qrx most) r hr
 obtain ⟨b, p, f⟩ := r
 simp only at h0
 generalize za 0 most ⟨b, p, f⟩ = x at hb h0
 obtain ⟨n, r1⟩ := x
 simp only at h0
 simp only [rdO] at hb
 generalize qap most ⟨b, p, f⟩ = F at h0 ⊢
 refine F140.go ?_
 try (refine ev1 @rdO.eq_1 ?_; try exact True.intro)
 (repeat (with_reducible refine ob ?_)); refine clO [0] F117 (hb) ?_ (hfit := by first | exact ⟨qc, trivial⟩ | exact ⟨qc, qc, trivial⟩ | (refine ev2 @qx.eq_1 @encI.eq_1 ?_; try exact True.intro))
 try (refine ev ?_; try exact True.intro)
 refine qj (fun x : { x : Nat × List Int × Rd // LInv dInt F b p n x } => SrLi 1 encI p n x.val) (fun x => n.toNat - x.val.1) ⟨(0, [], r1), h0⟩ ?_ (fun x => ?_)
 ·try (refine ev4 @SrLi.eq_1 @rdO.eq_1 @List.map_nil.{0,0} @Int.ofNat_zero ?_; try exact True.intro)
 obtain ⟨⟨i, l, rb, rp, rf⟩, hx⟩ := x
 have hfl := qdk ⟨rb, rp, rf⟩ p
 simp only [rdO] at hfl
 cases rf
 ·obtain ⟨g1, g2, _⟩ := hx.good rfl
  simp only at g2
  try (refine ev2 @SrLi.eq_1 @rdO.eq_1 ?_; try exact True.intro)
  refine xt _ (fun h => ?_) (fun h => ?_)
  ·have hlt : (i : Int) < n := by simpa using h
   have hv := yo ⟨rb, rp, false⟩ hx.ok
   have hn := xb3 qbh qm9 hx rfl hlt (vu hx.ok)
   simp only [rdO, encI] at hv
   try (refine ev ?_; try exact True.intro)
   (repeat (with_reducible refine ob ?_)); refine clO [0] F79 (hv) ?_ (hfit := by first | exact ⟨qc, trivial⟩ | exact ⟨qc, qc, trivial⟩ | (refine ev2 @qx.eq_1 @encI.eq_1 ?_; try exact True.intro))
   try (refine ev ?_; try exact True.intro)
   (repeat (with_reducible refine ob ?_))
   refine ⟨⟨(i + 1, l ++ [(ky ⟨rb, rp, false⟩).1], (ky ⟨rb, rp, false⟩).2), hn⟩, ?_, by simp only; omega⟩
   try (refine ev7 @SrLi.eq_1 @rdO.eq_1 @List.map_append.{0,0} @List.map_cons.{0,0} @List.map_nil.{0,0} @encI.eq_1 (qi (show i < 9223372036854775807 by omega)) ?_; try exact True.intro)
  ·have hF := xb4 hx rfl (by simpa using h)
   try (refine ev ?_; try exact True.intro)
   (repeat (with_reducible refine ob ?_)); refine no_ ?_
   try (refine ev1 @hF ?_; try exact True.intro)
 ·have hF := hx.bad rfl
  have hbb := hx.eb
  simp only at hbb
  subst hbb
  try (refine ev2 @SrLi.eq_1 @rdO.eq_1 ?_; try exact True.intro)
  refine xt _ (fun h => ?_) (fun h => ?_)
  ·simp at h
  ·try (refine ev ?_; try exact True.intro)
   (repeat (with_reducible refine ob ?_)); refine qb9 ?_
   try (refine ev ?_; try exact True.intro)
   (repeat (with_reducible refine ob ?_)); refine clO [0] F178 (hfl) ?_ (hfit := by first | exact ⟨qc, trivial⟩ | exact ⟨qc, qc, trivial⟩ | (refine ev2 @qx.eq_1 @encI.eq_1 ?_; try exact True.intro))
   try (refine ev2 @hF @List.map_nil.{0,0} ?_; try exact True.intro)
set_option maxRecDepth 10000 in
theorem xat (r : Rd) (most : Nat) (hr : r.Ok) (hm : most ≤ 1000) : qg Tryz.prog 139 [.d (.ptr 0 0), .d (.int .i64 (most : Nat))] [rdO r] (.d (.sl 3 ((qbg most r).1.map qx))) [rdO (qbg most r).2] := by
 have hb := qa5 r 0 most hr
 have h0 := xb2 (z := []) hm (qx8 most) r hr
 obtain ⟨b, p, f⟩ := r
 simp only at h0
 generalize za 0 most ⟨b, p, f⟩ = x at hb h0
 obtain ⟨n, r1⟩ := x
 simp only at h0
 simp only [rdO] at hb
 generalize qbg most ⟨b, p, f⟩ = F at h0 ⊢
 refine F139.go ?_
 try (refine ev1 @rdO.eq_1 ?_; try exact True.intro)
 (repeat (with_reducible refine ob ?_)); refine clO [0] F117 (hb) ?_ (hfit := by first | exact ⟨qc, trivial⟩ | exact ⟨qc, qc, trivial⟩ | (refine ev2 @qx.eq_1 @encI.eq_1 ?_; try exact True.intro))
 try (refine ev ?_; try exact True.intro)
 refine qj (fun x : { x : Nat × List AV × Rd // LInv dAV F b p n x } => SrLi 3 qx p n x.val) (fun x => n.toNat - x.val.1) ⟨(0, [], r1), h0⟩ ?_ (fun x => ?_)
 ·try (refine ev4 @SrLi.eq_1 @rdO.eq_1 @List.map_nil.{0,0} @Int.ofNat_zero ?_; try exact True.intro)
 obtain ⟨⟨i, l, rb, rp, rf⟩, hx⟩ := x
 have hfl := qdk ⟨rb, rp, rf⟩ p
 simp only [rdO] at hfl
 cases rf
 ·obtain ⟨g1, g2, _⟩ := hx.good rfl
  simp only at g2
  try (refine ev2 @SrLi.eq_1 @rdO.eq_1 ?_; try exact True.intro)
  refine xt _ (fun h => ?_) (fun h => ?_)
  ·have hlt : (i : Int) < n := by simpa using h
   have hv := xdq ⟨rb, rp, false⟩ hx.ok
   have hn := xb3 xb1 qzx hx rfl hlt (xar hx.ok)
   simp only [rdO, qx] at hv
   try (refine ev ?_; try exact True.intro)
   (repeat (with_reducible refine ob ?_)); refine clO [0] F194 (hv) ?_ (hfit := by first | exact ⟨qc, trivial⟩ | exact ⟨qc, qc, trivial⟩ | (refine ev2 @qx.eq_1 @encI.eq_1 ?_; try exact True.intro))
   try (refine ev ?_; try exact True.intro)
   (repeat (with_reducible refine ob ?_))
   refine ⟨⟨(i + 1, l ++ [(rAVP ⟨rb, rp, false⟩).1], (rAVP ⟨rb, rp, false⟩).2), hn⟩, ?_, by simp only; omega⟩
   try (refine ev7 @SrLi.eq_1 @rdO.eq_1 @List.map_append.{0,0} @List.map_cons.{0,0} @List.map_nil.{0,0} @qx.eq_1 (qi (show i < 9223372036854775807 by omega)) ?_; try exact True.intro)
  ·have hF := xb4 hx rfl (by simpa using h)
   try (refine ev ?_; try exact True.intro)
   (repeat (with_reducible refine ob ?_)); refine no_ ?_
   try (refine ev1 @hF ?_; try exact True.intro)
 ·have hF := hx.bad rfl
  have hbb := hx.eb
  simp only at hbb
  subst hbb
  try (refine ev2 @SrLi.eq_1 @rdO.eq_1 ?_; try exact True.intro)
  refine xt _ (fun h => ?_) (fun h => ?_)
  ·simp at h
  ·try (refine ev ?_; try exact True.intro)
   (repeat (with_reducible refine ob ?_)); refine qb9 ?_
   try (refine ev ?_; try exact True.intro)
   (repeat (with_reducible refine ob ?_)); refine clO [0] F178 (hfl) ?_ (hfit := by first | exact ⟨qc, trivial⟩ | exact ⟨qc, qc, trivial⟩ | (refine ev2 @qx.eq_1 @encI.eq_1 ?_; try exact True.intro))
   try (refine ev2 @hF @List.map_nil.{0,0} ?_; try exact True.intro)
end Go.Proofs.YtinnaedmdoengaaGreat
namespace Go.Proofs.YtinnaedmdoengaaGreat
open Go.Abs
set_option linter.unusedSimpArgs false
set_option linter.unusedVariables false
theorem xdr (s : List UInt8) : (((s.length : Nat) : Int) == 0) = (s == []) := by cases s <;> simp <;> omega
noncomputable section
set_option maxRecDepth 100000
set_option linter.defProp false
def d46 := cut Tryz.prog Tryz.f46 news
@[go_sem] def E46 := ql d46
def F46 := fnC d46 follows Tryz.func46
def d48 := cut Tryz.prog Tryz.f48 news
@[go_sem] def E48 := ql d48
def F48 := fnC d48 follows Tryz.func48
def d45 := cut Tryz.prog Tryz.f45 news
@[go_sem] def E45 := ql d45
def F45 := fnC d45 follows Tryz.func45
def d47 := cut Tryz.prog Tryz.f47 news
@[go_sem] def E47 := ql d47
def F47 := fnC d47 follows Tryz.func47
def d44 := cut Tryz.prog Tryz.f44 news
@[go_sem] def E44 := ql d44
def F44 := fnC d44 follows Tryz.func44
def d43 := cut Tryz.prog Tryz.f43 news
@[go_sem] def E43 := ql d43
def F43 := fnC d43 follows Tryz.func43
def d57v := cut Tryz.prog Tryz.f57 news
@[go_sem] def E57v := ql d57v
def F57v := fnC d57v follows Tryz.func57
def d11 := cut Tryz.prog Tryz.f11 news
@[go_sem] def E11 := ql d11
def F11 := fnC d11 follows Tryz.func11
end
theorem qdl (a b : List UInt8) : qg Tryz.prog 57 [.d (.sl 1 (qd a)), .d (.sl 1 (qd b))] [] (.d (.bool (a == b))) [] := by
 refine F57v.go ?_
 try (refine ev ?_; try exact True.intro)
def qbm (s : List UInt8) : Bool := decide ((s.length : Int) ≥ 1) && decide ((s.length : Int) ≤ 30)
theorem qid (s : List UInt8) : qg Tryz.prog 43 [.d (.str s)] [] (.d (.bool (qbm s))) [] := by
 refine F43.go ?_
 try (refine ev1 @qbm.eq_1 ?_; try exact True.intro)
def nKey (s : List UInt8) : List UInt8 := s ++ [47, 110]
def sKey (s : List UInt8) (d : Nat) : List UInt8 := s ++ [47, UInt8.ofNat (48 + d)]
theorem qry (s : List UInt8) (h : s.length ≤ 1000) : qg Tryz.prog 45 [.d (.str s)] [] (.d (.str (nKey s))) [] := by
 refine F45.go ?_
 try (refine ev1 @nKey.eq_1 ?_; try exact True.intro)
 omega
theorem qjj (s : List UInt8) (d : Nat) (h : s.length ≤ 1000) (hd : d < 4) : qg Tryz.prog 47 [.d (.str s), .d (.int .i64 d)] [] (.d (.str (sKey s d))) [] := by
 refine F47.go ?_
 have h4 : d = 0 ∨ d = 1 ∨ d = 2 ∨ d = 3 := by omega
 have e0 : (Utf8.encode (IntKind.i32.wrap (IntKind.i64.wrap 48))).data.toList = [48] := by decide
 have e1 : (Utf8.encode (IntKind.i32.wrap (IntKind.i64.wrap 49))).data.toList = [49] := by decide
 have e2 : (Utf8.encode (IntKind.i32.wrap (IntKind.i64.wrap 50))).data.toList = [50] := by decide
 have e3 : (Utf8.encode (IntKind.i32.wrap (IntKind.i64.wrap 51))).data.toList = [51] := by decide
 rcases h4 with rfl | rfl | rfl | rfl
 all_goals
  try (refine ev6 @sKey.eq_1 @e0 @e1 @e2 @e3 @List.append_assoc.{0} ?_; try exact True.intro)
  exact ⟨by omega, by omega, rfl⟩
def zy (q : Qu) : List UInt8 := if q.acc = 0 ∧ q.cons = 0 then [] else wInt q.acc ++ wInt q.cons
theorem qie (q : Qu) (h1 : I64 q.acc) (h2 : I64 q.cons) : qg Tryz.prog 46 [.d (.agg (encQ q))] [] (.d (.sl 1 (qd (zy q)))) [] := by
 have a1 := xj h1
 refine F46.go ?_
 try (refine ev1 @encQ.eq_1 ?_; try exact True.intro)
 refine xt _ (fun h => ?_) (fun h => ?_)
 ·have hb : zy q = [] := by unfold zy; rw [if_pos]; simpa using h
  try (refine ev2 @hb @qm ?_; try exact True.intro)
 ·have hb : zy q = wInt q.acc ++ wInt q.cons := by unfold zy; rw [if_neg]; simpa using h
  try (refine ev ?_; try exact True.intro)
  refine clA F91 (kg [] q.acc (by simp) h1) ?_
  try (refine ev ?_; try exact True.intro)
  refine clA F91 (kg ([] ++ wInt q.acc) q.cons (by rw [List.nil_append]; omega) h2) ?_
  try (refine ev1 @hb ?_; try exact True.intro)
theorem qrz {α : Type} {f : α → Bool} {l : List α} {i : Nat} (hi : (l.take i).find? f = none) (hil : i < l.length) (h : f l[i] = true) : l.find? f = some l[i] := by
 have e : l.find? f = (l.take i ++ l.drop i).find? f := by rw [List.take_append_drop]
 rw [e, List.find?_append, hi, List.drop_eq_getElem_cons hil]
 simp only [Option.none_or, List.find?_cons, h]
def jw (q : Qu) (d : Int) : List UInt8 := match q.items.find? (fun p => p.seq.tmod 4 == d) with
 | some p => (jf p).1
 | none => []
def qzy (q : Qu) (d : Int) (i : { i : Nat // (q.items.take i).find? (fun p => p.seq.tmod 4 == d) = none }) : St :=
 ⟨[(1, true, .d (.int .i64 d)), (10, true, .d (.sl 9 (q.items.map qe))), (11, true, .d (.int .i64 q.items.length)), (12, true, .d (.int .i64 (i.val : Nat)))], [], [], 1⟩
structure Qu.W (q : Qu) : Prop where
 a : I64 q.acc
 c : I64 q.cons
 p : ∀ p ∈ q.items, p.W
set_option maxRecDepth 10000 in
theorem qif (q : Qu) (d : Int) (hq : q.Sm) (hw : q.W) : qg Tryz.prog 48 [.d (.agg (encQ q)), .d (.int .i64 d)] [] (.d (.sl 1 (qd (jw q d)))) [] := by
 have hl := hq.1
 refine F48.go ?_
 try (refine ev1 @encQ.eq_1 ?_; try exact True.intro)
 refine qj (qzy q d) (fun i => q.items.length - i.val) ⟨0, rfl⟩ ?_ (fun i => ?_)
 ·try (refine ev2 @qzy.eq_1 @Int.ofNat_zero ?_; try exact True.intro)
 obtain ⟨i, hi⟩ := i
 try (refine ev1 @qzy.eq_1 ?_; try exact True.intro)
 refine xt _ (fun h => ?_) (fun h => ?_)
 ·have hil : i < q.items.length := by simpa using h
  have hen := q1y q.items[i] (hq.2 _ (List.getElem_mem hil)) (hw.p _ (List.getElem_mem hil))
  simp only [qe] at hen
  try (refine ev2 (qq qe q.items hil) @qe.eq_1 ?_; try exact True.intro)
  (repeat (with_reducible refine ob ?_))
  refine xt _ (fun h => ?_) (fun h => ?_)
  ·have hb : jw q d = (jf q.items[i]).1 := by
    unfold jw; rw [qrz hi hil h]
   try (refine ev ?_; try exact True.intro)
   (repeat (with_reducible refine ob ?_)); first | refine cl F92 (hen) ?_ | refine clF F92 (hen) (fun _ => by (refine ev3 @qe.eq_1 @encQ.eq_1 @qh.eq_1 ?_; try exact True.intro)) ?_
   try (refine ev1 @hb ?_; try exact True.intro)
  ·try (refine ev ?_; try exact True.intro)
   refine ⟨⟨i + 1, ?_⟩, ?_, by dsimp only; omega⟩
   ·rw [List.take_succ_eq_append_getElem hil, List.find?_append, hi]
    simp only [Option.none_or, List.find?_cons, h, List.find?_nil]
   ·try (refine ev2 @qzy.eq_1 (qi (show i < 9223372036854775807 by omega)) ?_; try exact True.intro)
 ·have hil : q.items.length ≤ i := by simpa using h
  have hb : jw q d = [] := by
   rw [List.take_of_length_le hil] at hi
   unfold jw; rw [hi]
  try (refine ev2 @hb @qm ?_; try exact True.intro)
def chg (k : List UInt8) (old next : List UInt8) : List OpS := if old = next then [] else [⟨k, next == [], next⟩]
theorem qvh (l : List OpS) (k old next : List UInt8) (hl : l.length ≤ 1000) : qg Tryz.prog 44 [.own 0 3 (l.map qh), .d (.str k), .d (.sl 1 (qd old)), .d (.sl 1 (qd next))] [] (.own 0 3 ((l ++ chg k old next).map qh)) [] := by
 refine F44.go ?_
 try (refine ev ?_; try exact True.intro)
 (repeat (with_reducible refine ob ?_)); first | refine cl F57v (qdl old next) ?_ | refine clF F57v (qdl old next) (fun _ => by (refine ev3 @qe.eq_1 @encQ.eq_1 @qh.eq_1 ?_; try exact True.intro)) ?_
 try (refine ev ?_; try exact True.intro)
 refine xt _ (fun h => ?_) (fun h => ?_)
 ·have hb : chg k old next = [] := by unfold chg; rw [if_pos (by simpa using h)]
  try (refine ev2 @hb @List.append_nil.{0} ?_; try exact True.intro)
 ·have hb : chg k old next = [⟨k, next == [], next⟩] := by unfold chg; rw [if_neg (by simpa using h)]
  try (refine ev6 @hb @List.map_append.{0,0} @List.map_cons.{0,0} @List.map_nil.{0,0} @qh.eq_1 @xdr ?_; try exact True.intro)
  omega
def zt (a b : Qu) (name : List UInt8) : Nat → List OpS
 | 0 => chg (nKey name) (zy a) (zy b)
 | d + 1 => zt a b name d ++ chg (sKey name d) (jw a d) (jw b d)
def k7 (a b : Qu) (name : List UInt8) : List OpS × Int := if (!jx a || !jx b || !qbm name) = true then ([], 1) else (zt a b name 4, 0)
theorem qx9 (k a b : List UInt8) : (chg k a b).length ≤ 1 := by unfold chg; split <;> simp
theorem qa6 (a b : Qu) (name : List UInt8) : ∀ d, (zt a b name d).length ≤ d + 1
 | 0 => qx9 _ _ _
 | d + 1 => by
  have := qa6 a b name d
  have := qx9 (sKey name d) (jw a d) (jw b d)
  rw [zt, List.length_append]; omega
def xau (a b : Qu) (name : List UInt8) (d : Nat) : St :=
 ⟨[(2, true, .d (.str name)), (3, true, .d (.ptr 0 0)), (4, true, .d (.ptr 1 0)), (8, true, .own 0 3 ((zt a b name d).map qh)), (30, true, .d (.int .i64 (d : Nat)))], [.row ((encQ a).map .d), .row ((encQ b).map .d)], [0], 1⟩
set_option maxRecDepth 10000 in
theorem qnc (a b : Qu) (name : List UInt8) (ha : a.Sm) (wa : a.W) (hb : b.Sm) (wb : b.W) (hn : name.length ≤ 1000) :
  qg Tryz.prog 11 [.d (.agg (encQ a)), .d (.agg (encQ b)), .d (.str name)] [] (.tup [.d (.sl 3 ((k7 a b name).1.map qh)), .d (.int .i64 (k7 a b name).2)]) [] := by
 refine F11.goT ?_
 try (refine ev1 @encQ.eq_1 ?_; try exact True.intro)
 (repeat (with_reducible refine ob ?_)); first | refine cl F42 (qcb a ha) ?_ | refine clF F42 (qcb a ha) (fun _ => by (refine ev3 @qe.eq_1 @encQ.eq_1 @qh.eq_1 ?_; try exact True.intro)) ?_
 try (refine ev ?_; try exact True.intro)
 (repeat (with_reducible refine ob ?_)); first | refine cl F42 (qcb b hb) ?_ | refine clF F42 (qcb b hb) (fun _ => by (refine ev3 @qe.eq_1 @encQ.eq_1 @qh.eq_1 ?_; try exact True.intro)) ?_
 try (refine ev ?_; try exact True.intro)
 (repeat (with_reducible refine ob ?_)); first | refine cl F43 (qid name) ?_ | refine clF F43 (qid name) (fun _ => by (refine ev3 @qe.eq_1 @encQ.eq_1 @qh.eq_1 ?_; try exact True.intro)) ?_
 try (refine ev ?_; try exact True.intro)
 (repeat (with_reducible refine ob ?_))
 refine xt _ (fun h => ?_) (fun h => ?_)
 ·have hx : k7 a b name = ([], 1) := by unfold k7; rw [if_pos h]
  try (refine ev2 @hx @List.map_nil.{0,0} ?_; try exact True.intro)
 have hx : k7 a b name = (zt a b name 4, 0) := by unfold k7; rw [if_neg]; simp [h]
 try (refine ev ?_; try exact True.intro)
 (repeat (with_reducible refine ob ?_)); first | refine cl F45 (qry name hn) ?_ | refine clF F45 (qry name hn) (fun _ => by (refine ev3 @qe.eq_1 @encQ.eq_1 @qh.eq_1 ?_; try exact True.intro)) ?_
 try (refine ev ?_; try exact True.intro)
 (repeat (with_reducible refine ob ?_)); first | refine cl F46 (qie a wa.a wa.c) ?_ | refine clF F46 (qie a wa.a wa.c) (fun _ => by (refine ev3 @qe.eq_1 @encQ.eq_1 @qh.eq_1 ?_; try exact True.intro)) ?_
 try (refine ev ?_; try exact True.intro)
 (repeat (with_reducible refine ob ?_)); first | refine cl F46 (qie b wb.a wb.c) ?_ | refine clF F46 (qie b wb.a wb.c) (fun _ => by (refine ev3 @qe.eq_1 @encQ.eq_1 @qh.eq_1 ?_; try exact True.intro)) ?_
 try (refine ev ?_; try exact True.intro)
 refine clA F44 (qvh [] (nKey name) (zy a) (zy b) (by simp)) ?_
 try (refine ev ?_; try exact True.intro)
 refine qj (fun d : { d : Nat // d ≤ 4 } => xau a b name d.val) (fun d => 4 - d.val) ⟨0, Nat.zero_le _⟩ ?_ (fun d => ?_)
 ·try simp only [xau, Int.ofNat_zero, zt, encQ, go_sem, Nat.reduceAdd, Nat.reduceMul, Nat.reduceSub, Nat.reduceEqDiff, Nat.reduceLT, Nat.reduceLeDiff, Nat.reduceBEq, reduceIte, reduceCtorEq, Int.reduceAdd, Int.reduceLT, Int.reduceLE, Int.reduceGT, Int.reduceGE, Int.reduceEq, Int.reduceNe, Int.reduceBEq, Int.reduceBNe, Int.reduceToNat, Int.reduceNeg]
 obtain ⟨d, hd⟩ := d
 try (refine ev2 @xau.eq_1 @encQ.eq_1 ?_; try exact True.intro)
 refine xt _ (fun h => ?_) (fun h => ?_)
 ·have hl : d < 4 := by simp at h; omega
  have := qa6 a b name d
  try (refine ev ?_; try exact True.intro)
  (repeat (with_reducible refine ob ?_)); first | refine cl F47 (qjj name d hn hl) ?_ | refine clF F47 (qjj name d hn hl) (fun _ => by (refine ev3 @qe.eq_1 @encQ.eq_1 @qh.eq_1 ?_; try exact True.intro)) ?_
  try (refine ev ?_; try exact True.intro)
  (repeat (with_reducible refine ob ?_)); first | refine cl F48 (qif a d ha wa) ?_ | refine clF F48 (qif a d ha wa) (fun _ => by (refine ev3 @qe.eq_1 @encQ.eq_1 @qh.eq_1 ?_; try exact True.intro)) ?_
  try (refine ev ?_; try exact True.intro)
  (repeat (with_reducible refine ob ?_)); first | refine cl F48 (qif b d hb wb) ?_ | refine clF F48 (qif b d hb wb) (fun _ => by (refine ev3 @qe.eq_1 @encQ.eq_1 @qh.eq_1 ?_; try exact True.intro)) ?_
  try (refine ev ?_; try exact True.intro)
  refine clA F44 (qvh (zt a b name d) (sKey name d) (jw a d) (jw b d) (by omega)) ?_
  try (refine ev ?_; try exact True.intro)
  refine ⟨⟨d + 1, hl⟩, ?_, by dsimp only; omega⟩
  try simp only [xau, encQ, zt, qi (show d < 9223372036854775807 by omega), go_sem, Nat.reduceAdd, Nat.reduceMul, Nat.reduceSub, Nat.reduceEqDiff, Nat.reduceLT, Nat.reduceLeDiff, Nat.reduceBEq, reduceIte, reduceCtorEq, Int.reduceAdd, Int.reduceLT, Int.reduceLE, Int.reduceGT, Int.reduceGE, Int.reduceEq, Int.reduceNe, Int.reduceBEq, Int.reduceBNe, Int.reduceToNat, Int.reduceNeg]
 ·have hl : d = 4 := by simp at h; omega
  subst hl
  try (refine ev1 @hx ?_; try exact True.intro)
end Go.Proofs.YtinnaedmdoengaaGreat
namespace Go.Proofs.YtinnaedmdoengaaGreat
open Go.Abs
set_option linter.unusedSimpArgs false
set_option linter.unusedVariables false
theorem xds {u : Nat} (h : u < 18446744073709551616) : I64 (unz u) := by unfold unz I64; split <;> omega
theorem yp : I64 0 := by unfold I64; omega
theorem qvi : ∀ (k i u : Nat) (r : Rd), I64 (qh2 k i u r).1
 | 0, i, u, r => yp
 | k + 1, i, u, r => by
  rw [qh2]
  split
  ·exact yp
  ·split
   ·exact xds (Nat.mod_lt _ (by decide))
   ·exact qvi k _ _ _
theorem qk9 (r : Rd) : I64 (rInt r).1 := qvi 10 0 0 r
theorem qnd (r : Rd) : I64 (ky r).1 := by
 unfold ky qbs
 split
 ·exact yp
 ·split
  ·exact yp
  ·exact qk9 r
theorem qya (most : Nat) (r : Rd) : (vr most r).1.length ≤ most := by
 unfold vr
 split
 ·exact Nat.zero_le _
 ·rename_i h
  have := (qav (by simpa using h)).2
  unfold vj
  split
  ·exact Nat.zero_le _
  ·simp only [List.length_take]; omega
theorem xfs (r : Rd) : (rAV r).1.Sm := by
 have hb : I64 (xg 1 2 r).1 := qk9 r
 unfold rAV
 split
 ·exact ⟨hb, yp, Nat.zero_le _⟩
 ·split
  ·exact ⟨hb, qk9 _, Nat.zero_le _⟩
  ·exact ⟨hb, yp, Nat.le_trans (qya 40 _) (by decide)⟩
theorem qne {α : Type} {f : Rd → α × Rd} {Q : α → Prop} (h : ∀ r, Q (f r).1) : ∀ (n : Nat) (r : Rd), ∀ x ∈ (yz f n r).1, Q x
 | 0, r, x, hx => by cases hx
 | n + 1, r, x, hx => by
  rw [yz] at hx
  split at hx
  ·cases hx
  ·rcases List.mem_cons.1 hx with rfl | hx
   ·exact h r
   ·exact qne h n _ x hx
theorem qvj {α : Type} {f : Rd → List α × Rd} {Q : α → Prop} (h : ∀ r, ∀ x ∈ (f r).1, Q x) (r : Rd) : ∀ x ∈ (qbs [] f r).1, Q x := by
 unfold qbs
 split
 ·intro x hx; cases hx
 ·split
  ·intro x hx; cases hx
  ·exact h r
theorem qvk (r : Rd) : ∀ n, ∀ x ∈ (yd n r).1, I64 x
 | 0, x, hx => by cases hx
 | n + 1, x, hx => by
  rcases List.mem_append.1 hx with hx | hx
  ·exact qvk r n x hx
  ·simp at hx; subst hx; exact qnd _
theorem xav {l : List Int} (h : ∀ x ∈ l, I64 x) (i : Nat) : I64 (l.getD i 0) := by
 rw [List.getD_eq_getElem?_getD]
 cases hg : l[i]? with
 | none => exact yp
 | some x => exact h x (List.mem_of_getElem? hg)
theorem xft {l : List Int} {v : List AV} {c : List Int} (h1 : ∀ x ∈ l, I64 x) (h2 : ∀ x ∈ v, x.Sm) (h3 : ∀ x ∈ c, I64 x) : (pkOf l v c).W := by
 refine ⟨fun x hx => ?_, h2, h3⟩
 simp only [x7, pkOf, List.mem_cons, List.not_mem_nil, or_false] at hx
 rcases hx with rfl | rfl | rfl | rfl | rfl | rfl | rfl <;> exact xav h1 _
theorem q6g : (default : Pk).W := ⟨fun x hx => by
 simp only [x7, List.mem_cons, List.not_mem_nil, or_false] at hx
 rcases hx with rfl | rfl | rfl | rfl | rfl | rfl | rfl <;> exact yp, fun x hx => (by cases hx), fun x hx => (by cases hx)⟩
theorem qnf (b : List UInt8) : (kf b).1.W ∧ (kf b).1.Sm := by
 have h1 : (qks (jy b).1).1.W := xft (qvk _ 7) (qvj (fun r => qne xfs _ _) _) (qvj (fun r => qne qk9 _ _) _)
 have h2 : (qks (jy b).1).1.Sm := ⟨Nat.le_trans (qdi (fun r => qdh (f := rAV) (most := 4) (r := r)) _) (by decide), Nat.le_trans (qdi (fun r => qdh (f := rInt) (most := 6) (r := r)) _) (by decide)⟩
 have h3 : (default : Pk).Sm := ⟨Nat.zero_le _, Nat.zero_le _⟩
 unfold kf
 split
 ·exact ⟨q6g, h3⟩
 ·split
  ·exact ⟨q6g, h3⟩
  ·exact ⟨h1, h2⟩
def qam : Option (List UInt8) → Int × Int
 | none => (0, 0)
 | some b => ((ky ⟨b, 0, false⟩).1, (ky (ky ⟨b, 0, false⟩).2).1)
def q2r (x : Int × Int) : Bool := decide (x.2 < 0) || decide (x.1 < x.2) || decide (x.1 > 1099511627776) || decide (IntKind.i64.wrap (x.1 - x.2) > 4)
def ldAt (m : Cont) (name : List UInt8) (k : Nat) : Pk × Int := kf (optV (mGet (sKey name (k % 4)) m))
def vw (m : Cont) (name : List UInt8) : Nat → Nat → Option (List Pk)
 | 0, _ => some []
 | n + 1, k => if (ldAt m name k).2 ≠ 0 then none else (vw m name n (k + 1)).map ((ldAt m name k).1 :: ·)
def qkg (m : Cont) (name : List UInt8) (q : Qu) : Bool := !jx q || (!((mGet (nKey name) m).isSome == decide (((zy q).length : Int) > 0))) || !(optV (mGet (nKey name) m) == zy q)
def qng (m : Cont) (name : List UInt8) (q : Qu) (d : Nat) : Bool := (!((mGet (sKey name d) m).isSome == decide (((jw q d).length : Int) > 0))) || !(optV (mGet (sKey name d) m) == jw q d)
def q6h (m : Cont) (name : List UInt8) (a c : Int) : Option (List Pk) → Qu × Int
 | none => (xm, 4)
 | some l => if (qkg m name ⟨a, c, l⟩ || !qef (fun d => !qng m name ⟨a, c, l⟩ d) 4) = true then (xm, 4) else (⟨a, c, l⟩, 0)
def qcm (m : Cont) (name : List UInt8) : Qu × Int :=
 if (!qbm name) = true then (xm, 1) else
 if q2r (qam (mGet (nKey name) m)) = true then (xm, 4) else
 q6h m name (qam (mGet (nKey name) m)).1 (qam (mGet (nKey name) m)).2 (vw m name ((qam (mGet (nKey name) m)).1 - (qam (mGet (nKey name) m)).2).toNat ((qam (mGet (nKey name) m)).2.toNat + 1))
theorem qfy (m : Cont) (hm : ∀ x ∈ m.l, x.2.2.length ≤ 1000000) (k : List UInt8) : (optV (mGet k m)).length ≤ 1000000 := by
 unfold optV mGet
 cases hf : m.l.find? (x8 k) with
 | none => simp
 | some x => exact hm x (List.mem_of_find?_eq_some hf)
noncomputable section
set_option maxRecDepth 100000
set_option linter.defProp false
def d15j := cut Tryz.prog Tryz.f15 news [] [8]
@[go_sem] def E15j := ql d15j
def F15j := fnC d15j follows Tryz.func15
end
def ji : AObj := .row [.d (.int .i64 0), .d (.int .i64 0), .d .nilsl]
def SL0 (s : Sto) (name : List UInt8) (g : Option (List UInt8)) (x : Unit) : St :=
 ⟨[(0, true, .d (.ptr 0 0)), (1, true, .d (.str name)), (4, true, .d (.ptr 2 0)), (6, true, .d (.ptr 3 0)), (7, true, .d (.sl 1 (qd (optV g)))), (8, true, .d (.bool g.isSome))],
  [stoO s 1, mapO s.m, ji, .row [.d (.int .i64 (qam g).1), .d (.int .i64 (qam g).2), .d .nilsl]], [], 1⟩
def SL1 (s : Sto) (name : List UInt8) (g : Option (List UInt8)) (a c : Int) (k : Nat) (l : List Pk) : St :=
 ⟨[(0, true, .d (.ptr 0 0)), (1, true, .d (.str name)), (4, true, .d (.ptr 2 0)), (6, true, .d (.ptr 3 0)), (7, true, .d (.sl 1 (qd (optV g)))), (8, true, .d (.bool g.isSome)), (10, true, .d (.int .i64 (k : Nat)))],
  [stoO s 1, mapO s.m, ji, .row [.d (.int .i64 a), .d (.int .i64 c), .own 0 9 (l.map qe)]], [0], 1⟩
def SL2 (s : Sto) (name : List UInt8) (a c : Int) (d : Nat) (l : List Pk) : St :=
 ⟨[(0, true, .d (.ptr 0 0)), (1, true, .d (.str name)), (4, true, .d (.ptr 2 0)), (6, true, .d (.ptr 3 0)), (113, true, .d (.int .i64 (d : Nat)))],
  [stoO s 1, mapO s.m, ji, .row [.d (.int .i64 a), .d (.int .i64 c), .own 0 9 (l.map qe)]], [0], 1⟩
set_option maxRecDepth 10000 in
theorem qig (s : Sto) (name : List UInt8) (hm : ∀ x ∈ s.m.l, x.2.2.length ≤ 1000000) (hn : name.length ≤ 1000) :
  qg Tryz.prog 15 [.d (.ptr 0 0), .d (.str name)] [stoO s 1, mapO s.m] (.tup [.d (.agg (encQ (qcm s.m name).1)), .d (.int .i64 (qcm s.m name).2)]) [stoO s 1, mapO s.m] := by
 have hg := fun k => xe8 s k hm
 simp only [stoO, mapO] at hg
 refine F15j.goT ?_
 try (refine ev2 @stoO.eq_1 @mapO.eq_1 ?_; try exact True.intro)
 (repeat (with_reducible refine ob ?_)); first | refine cl F43 (qid name) ?_ | refine clF F43 (qid name) (fun _ => by (refine ev2 @qe.eq_1 @encQ.eq_1 ?_; try exact True.intro)) ?_
 try (refine ev ?_; try exact True.intro)
 refine xt _ (fun h => ?_) (fun h => ?_)
 ·have hb : qcm s.m name = (xm, 1) := by unfold qcm; rw [if_pos h]
  try (refine ev4 @hb @encQ.eq_1 @xm.eq_1 @List.map_nil.{0,0} ?_; try exact True.intro)
 have hb0 : (!qbm name) ≠ true := by rw [h]; simp
 try (refine ev ?_; try exact True.intro)
 (repeat (with_reducible refine ob ?_)); first | refine cl F45 (qry name hn) ?_ | refine clF F45 (qry name hn) (fun _ => by (refine ev2 @qe.eq_1 @encQ.eq_1 ?_; try exact True.intro)) ?_
 try (refine ev ?_; try exact True.intro)
 (repeat (with_reducible refine ob ?_)); refine clO [0, 1] F26 ((hg (nKey name))) ?_ (hfit := by first | exact ⟨qc, trivial⟩ | exact ⟨qc, qc, trivial⟩ | (refine ev2 @qe.eq_1 @encQ.eq_1 ?_; try exact True.intro))
 try (refine ev ?_; try exact True.intro)
 generalize hgn : mGet (nKey name) s.m = g
 have hgl : (optV g).length ≤ 1000000 := by rw [← hgn]; exact qfy s.m hm _
 refine xe1 (SL0 s name g) ?_ ?_
 ·cases g with
  | none =>
   simp only [Option.isSome_none]
   (repeat (with_reducible refine ob ?_)); refine no_ ?_
   try (refine ev ?_; try exact True.intro)
   refine ⟨(), ?_⟩
   try simp only [SL0, stoO, mapO, ji, qam, Option.isSome_none, go_sem, Nat.reduceAdd, Nat.reduceMul, Nat.reduceSub, Nat.reduceEqDiff, Nat.reduceLT, Nat.reduceLeDiff, Nat.reduceBEq, reduceIte, reduceCtorEq, Int.reduceAdd, Int.reduceLT, Int.reduceLE, Int.reduceGT, Int.reduceGE, Int.reduceEq, Int.reduceNe, Int.reduceBEq, Int.reduceBNe, Int.reduceToNat, Int.reduceNeg]
  | some b =>
   have hbl : b.length ≤ 1000000000 := by simp only [optV, Option.getD_some] at hgl; omega
   have hnew := qrl b hbl
   have r0 : (⟨b, 0, false⟩ : Rd).Ok := ⟨hbl, Nat.zero_le _⟩
   have i1 := qro ⟨b, 0, false⟩ r0
   have r1 := (vu r0).1
   have i2 := qro _ r1
   simp only [rdO] at hnew i1 i2
   simp only [Option.isSome_some, optV, Option.getD_some]
   (repeat (with_reducible refine ob ?_)); refine qb9 ?_
   try (refine ev ?_; try exact True.intro)
   refine clO [4] F54 hnew ?_
   try (refine ev ?_; try exact True.intro)
   (repeat (with_reducible refine ob ?_)); refine clO [4] F55 (i1) ?_ (hfit := by first | exact ⟨qc, trivial⟩ | exact ⟨qc, qc, trivial⟩ | (refine ev2 @qe.eq_1 @encQ.eq_1 ?_; try exact True.intro))
   try (refine ev ?_; try exact True.intro)
   (repeat (with_reducible refine ob ?_)); refine clO [4] F55 (i2) ?_ (hfit := by first | exact ⟨qc, trivial⟩ | exact ⟨qc, qc, trivial⟩ | (refine ev2 @qe.eq_1 @encQ.eq_1 ?_; try exact True.intro))
   try (refine ev ?_; try exact True.intro)
   refine ⟨(), ?_⟩
   try simp only [SL0, stoO, mapO, ji, qam, Option.isSome_some, optV, Option.getD_some, go_sem, Nat.reduceAdd, Nat.reduceMul, Nat.reduceSub, Nat.reduceEqDiff, Nat.reduceLT, Nat.reduceLeDiff, Nat.reduceBEq, reduceIte, reduceCtorEq, Int.reduceAdd, Int.reduceLT, Int.reduceLE, Int.reduceGT, Int.reduceGE, Int.reduceEq, Int.reduceNe, Int.reduceBEq, Int.reduceBNe, Int.reduceToNat, Int.reduceNeg]
 intro _
 refine pu ?_
 generalize hx : qam g = x
 obtain ⟨a, c⟩ := x
 have hL : qcm s.m name = if q2r (a, c) = true then (xm, (4 : Int)) else q6h s.m name a c (vw s.m name (a - c).toNat (c.toNat + 1)) := by
  unfold qcm
  rw [if_neg hb0, hgn, hx]
 try (refine ev5 @SL0.eq_1 @hx @stoO.eq_1 @mapO.eq_1 @ji.eq_1 ?_; try exact True.intro)
 (repeat (with_reducible refine ob ?_))
 refine xt _ (fun h1 => ?_) (fun h1 => ?_)
 ·have hb : qcm s.m name = (xm, 4) := by rw [hL, if_pos (show q2r (a, c) = true from h1)]
  try (refine ev4 @hb @encQ.eq_1 @xm.eq_1 @List.map_nil.{0,0} ?_; try exact True.intro)
 have h1' := h1
 simp only [Bool.or_eq_false_iff, decide_eq_false_iff_not] at h1
 obtain ⟨⟨⟨c0, c1⟩, c2⟩, c3⟩ := h1
 rw [xk (by unfold I64; omega)] at c3
 obtain ⟨n, rfl⟩ : ∃ n : Nat, c = n := ⟨c.toNat, by omega⟩
 obtain ⟨w, rfl⟩ : ∃ w : Nat, a = ((n + w : Nat) : Int) := ⟨(a - n).toNat, by omega⟩
 have e1 : (((n + w : Nat) : Int) - (n : Int)).toNat = w := by omega
 have e2 : IntKind.i64.wrap ((n : Int) + 1) = ((n + 1 : Nat) : Int) := by rw [xk (by unfold I64; omega)]; omega
 rw [if_neg (by rw [show q2r (((n + w : Nat) : Int), (n : Int)) = false from h1']; simp), e1, Int.toNat_natCast] at hL
 try (refine ev1 @e2 ?_; try exact True.intro)
 refine qj (fun x : { x : Nat × List Pk // x.1 ≤ w ∧ x.2.length = x.1 ∧ (∀ p ∈ x.2, p.W ∧ p.Sm) ∧ vw s.m name w (n + 1) = (vw s.m name (w - x.1) (n + 1 + x.1)).map (x.2 ++ ·) } => SL1 s name g (n + w : Nat) n (n + 1 + x.val.1) x.val.2) (fun x => w - x.val.1)
  ⟨(0, []), Nat.zero_le _, rfl, fun p hp => (by cases hp), by simp⟩ ?_ (fun x => ?_)
 ·try (refine ev6 @SL1.eq_1 @stoO.eq_1 @mapO.eq_1 @ji.eq_1 @List.map_nil.{0,0} @Nat.add_zero ?_; try exact True.intro)
 obtain ⟨⟨i, l⟩, x1, x2, x3, x4⟩ := x
 simp only at x1 x2 x3 x4
 try (refine ev4 @SL1.eq_1 @stoO.eq_1 @mapO.eq_1 @ji.eq_1 ?_; try exact True.intro)
 refine xt _ (fun h => ?_) (fun h => ?_)
 ·have hiw : i < w := by simp at h; omega
  have e3 : w - i = (w - (i + 1)) + 1 := by omega
  have e4 : (((n + 1 + i : Nat) : Int)).tmod 4 = (((n + 1 + i) % 4 : Nat) : Int) := by rw [Int.tmod_eq_emod_of_nonneg (by omega)]; omega
  rw [e3, vw] at x4
  have hkd := q2l (optV (mGet (sKey name ((n + 1 + i) % 4)) s.m)) (by have := qfy s.m hm (sKey name ((n + 1 + i) % 4)); omega)
  obtain ⟨w1, w2⟩ := qnf (optV (mGet (sKey name ((n + 1 + i) % 4)) s.m))
  simp only [qe] at hkd
  try (refine ev1 @e4 ?_; try exact True.intro)
  (repeat (with_reducible refine ob ?_)); first | refine cl F47 (qjj name ((n + 1 + i) % 4) hn (Nat.mod_lt _ (by decide))) ?_ | refine clF F47 (qjj name ((n + 1 + i) % 4) hn (Nat.mod_lt _ (by decide))) (fun _ => by (refine ev2 @qe.eq_1 @encQ.eq_1 ?_; try exact True.intro)) ?_
  try (refine ev ?_; try exact True.intro)
  (repeat (with_reducible refine ob ?_)); refine clO [0, 1] F26 ((hg (sKey name ((n + 1 + i) % 4)))) ?_ (hfit := by first | exact ⟨qc, trivial⟩ | exact ⟨qc, qc, trivial⟩ | (refine ev2 @qe.eq_1 @encQ.eq_1 ?_; try exact True.intro))
  try (refine ev ?_; try exact True.intro)
  (repeat (with_reducible refine ob ?_)); first | refine cl F56 (hkd) ?_ | refine clF F56 (hkd) (fun _ => by (refine ev2 @qe.eq_1 @encQ.eq_1 ?_; try exact True.intro)) ?_
  try (refine ev ?_; try exact True.intro)
  have hat : ldAt s.m name (n + 1 + i) = kf (optV (mGet (sKey name ((n + 1 + i) % 4)) s.m)) := rfl
  rw [hat] at x4
  generalize kf (optV (mGet (sKey name ((n + 1 + i) % 4)) s.m)) = y at hkd w1 w2 x4 ⊢
  obtain ⟨p, e⟩ := y
  simp only at w1 w2 x4
  refine xt _ (fun h => ?_) (fun h => ?_)
  ·have hb : qcm s.m name = (xm, 4) := by rw [hL, x4, if_pos (by simpa using h)]; rfl
   try (refine ev4 @hb @encQ.eq_1 @xm.eq_1 @List.map_nil.{0,0} ?_; try exact True.intro)
  ·rw [if_neg (by simpa using h), Option.map_map] at x4
   try (refine ev ?_; try exact True.intro)
   (repeat (with_reducible refine ob ?_))
   refine ⟨⟨(i + 1, l ++ [p]), hiw, by simp [x2], fun q hq => ?_, ?_⟩, ?_, by dsimp only; omega⟩
   ·rcases List.mem_append.1 hq with hq | hq
    ·exact x3 q hq
    ·simp at hq; subst hq; exact ⟨w1, w2⟩
   ·rw [x4]
    congr 1
    funext z; simp
   ·have hwr : IntKind.i64.wrap ((n : Int) + 1 + (i : Int) + 1) = (n : Int) + 1 + ((i : Int) + 1) := by rw [xk (by unfold I64; omega)]; omega
    try (refine ev8 @SL1.eq_1 @stoO.eq_1 @mapO.eq_1 @ji.eq_1 @List.map_append.{0,0} @List.map_cons.{0,0} @List.map_nil.{0,0} @qe.eq_1 ?_; try exact True.intro)
    try (refine ev1 @hwr ?_; try exact True.intro)
 have hiw : i = w := by simp at h; omega
 subst hiw
 rw [Nat.sub_self, vw] at x4
 rw [x4, Option.map_some, List.append_nil] at hL
 generalize hq : (⟨((n + i : Nat) : Int), (n : Int), l⟩ : Qu) = q
 have hqe : encQ q = [.int .i64 ((n + i : Nat) : Int), .int .i64 (n : Int), .sl 9 (l.map qe)] := by rw [← hq]; rfl
 have hqs : q.Sm := by rw [← hq]; exact ⟨by simp only; omega, fun p hp => (x3 p hp).2⟩
 have hqw : q.W := by rw [← hq]; exact ⟨by unfold I64; simp only; omega, by unfold I64; simp only; omega, fun p hp => (x3 p hp).1⟩
 simp only [q6h, hq] at hL
 have kv := qcb q hqs
 have kn := qie q hqw.a hqw.c
 have ks := fun d => qif q d hqs hqw
 simp only [hqe] at kv kn ks
 try (refine ev ?_; try exact True.intro)
 (repeat (with_reducible refine ob ?_)); first | refine cl F42 (kv) ?_ | refine clF F42 (kv) (fun _ => by (refine ev2 @qe.eq_1 @encQ.eq_1 ?_; try exact True.intro)) ?_
 try (refine ev ?_; try exact True.intro)
 (repeat (with_reducible refine ob ?_)); first | refine cl F46 (kn) ?_ | refine clF F46 (kn) (fun _ => by (refine ev2 @qe.eq_1 @encQ.eq_1 ?_; try exact True.intro)) ?_
 try (refine ev ?_; try exact True.intro)
 (repeat (with_reducible refine ob ?_)); first | refine cl F46 (kn) ?_ | refine clF F46 (kn) (fun _ => by (refine ev2 @qe.eq_1 @encQ.eq_1 ?_; try exact True.intro)) ?_
 try (refine ev ?_; try exact True.intro)
 (repeat (with_reducible refine ob ?_)); first | refine cl F57v (qdl (optV g) (zy q)) ?_ | refine clF F57v (qdl (optV g) (zy q)) (fun _ => by (refine ev2 @qe.eq_1 @encQ.eq_1 ?_; try exact True.intro)) ?_
 try (refine ev ?_; try exact True.intro)
 (repeat (with_reducible refine ob ?_))
 refine xt _ (fun h => ?_) (fun h => ?_)
 ·have h1 : qkg s.m name q = true := by unfold qkg; rw [hgn]; exact h
  have hb : qcm s.m name = (xm, 4) := by rw [hL, h1]; rfl
  try (refine ev4 @hb @encQ.eq_1 @xm.eq_1 @List.map_nil.{0,0} ?_; try exact True.intro)
 have h1 : qkg s.m name q = false := by unfold qkg; rw [hgn]; exact h
 try (refine ev ?_; try exact True.intro)
 refine qj (fun x : { d : Nat // d ≤ 4 ∧ qef (fun d => !qng s.m name q d) d = true } => SL2 s name (n + i : Nat) n x.val l) (fun x => 4 - x.val) ⟨0, Nat.zero_le _, rfl⟩ ?_ (fun x => ?_)
 ·try (refine ev5 @SL2.eq_1 @stoO.eq_1 @mapO.eq_1 @ji.eq_1 @Int.ofNat_zero ?_; try exact True.intro)
 obtain ⟨d, d1, d2⟩ := x
 try (refine ev4 @SL2.eq_1 @stoO.eq_1 @mapO.eq_1 @ji.eq_1 ?_; try exact True.intro)
 refine xt _ (fun h => ?_) (fun h => ?_)
 ·have hd : d < 4 := by simp at h; omega
  try (refine ev ?_; try exact True.intro)
  (repeat (with_reducible refine ob ?_)); first | refine cl F47 (qjj name d hn hd) ?_ | refine clF F47 (qjj name d hn hd) (fun _ => by (refine ev2 @qe.eq_1 @encQ.eq_1 ?_; try exact True.intro)) ?_
  try (refine ev ?_; try exact True.intro)
  (repeat (with_reducible refine ob ?_)); refine clO [0, 1] F26 ((hg (sKey name d))) ?_ (hfit := by first | exact ⟨qc, trivial⟩ | exact ⟨qc, qc, trivial⟩ | (refine ev2 @qe.eq_1 @encQ.eq_1 ?_; try exact True.intro))
  try (refine ev ?_; try exact True.intro)
  (repeat (with_reducible refine ob ?_)); first | refine cl F48 (ks d) ?_ | refine clF F48 (ks d) (fun _ => by (refine ev2 @qe.eq_1 @encQ.eq_1 ?_; try exact True.intro)) ?_
  try (refine ev ?_; try exact True.intro)
  (repeat (with_reducible refine ob ?_)); first | refine cl F48 (ks d) ?_ | refine clF F48 (ks d) (fun _ => by (refine ev2 @qe.eq_1 @encQ.eq_1 ?_; try exact True.intro)) ?_
  try (refine ev ?_; try exact True.intro)
  (repeat (with_reducible refine ob ?_)); first | refine cl F57v (qdl (optV (mGet (sKey name d) s.m)) (jw q d)) ?_ | refine clF F57v (qdl (optV (mGet (sKey name d) s.m)) (jw q d)) (fun _ => by (refine ev2 @qe.eq_1 @encQ.eq_1 ?_; try exact True.intro)) ?_
  try (refine ev ?_; try exact True.intro)
  (repeat (with_reducible refine ob ?_))
  refine xt _ (fun h => ?_) (fun h => ?_)
  ·have h2 : qng s.m name q d = true := h
   have hb : qcm s.m name = (xm, 4) := by rw [hL, h1, qq3 hd (by rw [h2]; rfl)]; rfl
   try (refine ev4 @hb @encQ.eq_1 @xm.eq_1 @List.map_nil.{0,0} ?_; try exact True.intro)
  ·have h2 : qng s.m name q d = false := h
   try (refine ev ?_; try exact True.intro)
   refine ⟨⟨d + 1, hd, qi3 d2 (by rw [h2]; rfl)⟩, ?_, by dsimp only; omega⟩
   try (refine ev5 @SL2.eq_1 @stoO.eq_1 @mapO.eq_1 @ji.eq_1 (qi (show d < 9223372036854775807 by omega)) ?_; try exact True.intro)
 ·have hd : d = 4 := by simp at h; omega
  subst hd
  have hb : qcm s.m name = (q, 0) := by rw [hL, h1, d2]; rfl
  try (refine ev2 @hb @hqe ?_; try exact True.intro)
end Go.Proofs.YtinnaedmdoengaaGreat
namespace Go.Proofs.YtinnaedmdoengaaGreat
open Go.Abs
set_option linter.unusedSimpArgs false
set_option linter.unusedVariables false
theorem qaz {n : Int} (h0 : 0 ≤ n) (h1 : n ≤ 1099511627776) : (wInt n).length ≤ 6 :=
 qi0 5 _ (by
  unfold zz; rw [if_pos h0]; have : (128 : Nat) ^ (5 + 1) = 4398046511104 := by decide
  omega)
theorem qnh {p : Pk} (h : xe p = true) : (∀ x ∈ x7 p, 0 ≤ x ∧ x ≤ 1099511627776) ∧ (∀ v ∈ p.values, yj v = true) ∧ ∀ x ∈ p.clock, 0 ≤ x ∧ x ≤ 1099511627776 := by
 unfold xe qml at h
 simp only [Bool.and_eq_true, decide_eq_true_eq] at h
 obtain ⟨⟨⟨⟨k1, k2⟩, k3⟩, k4⟩, h⟩ := h
 have hd : (∀ x ∈ [p.epoch, p.from_, p.to, p.seq, p.label], 0 ≤ x ∧ x ≤ 1099511627776) → ∀ x ∈ x7 p, 0 ≤ x ∧ x ≤ 1099511627776 := by
  intro h x hx
  simp only [x7, List.mem_cons] at hx
  rcases hx with rfl | rfl | hx
  ·omega
  ·omega
  ·exact h x (by simpa using hx)
 have bareC : bare p = true → p.epoch = 0 ∧ (∀ v ∈ p.values, yj v = true) ∧ ∀ x ∈ p.clock, 0 ≤ x ∧ x ≤ 1099511627776 := by
  intro hb
  simp only [bare, Bool.and_eq_true, beq_iff_eq] at hb
  have h1 : p.values = [] := List.eq_nil_of_length_eq_zero (by omega)
  have h2 : p.clock = [] := List.eq_nil_of_length_eq_zero (by omega)
  rw [h1, h2]
  exact ⟨hb.1.1, fun v hv => (by cases hv), fun v hv => (by cases hv)⟩
 split at h
 ·simp only [data, qdy, role, Bool.and_eq_true, Bool.or_eq_true, decide_eq_true_eq, beq_iff_eq, Bool.not_eq_true', List.any_eq_false, Bool.or_eq_false_iff, decide_eq_false_iff_not, Bool.not_eq_false', not_or, Bool.not_eq_true] at h
  refine ⟨hd fun x hx => ?_, fun v hv => ?_, fun x hx => ?_⟩
  ·simp only [List.mem_cons, List.not_mem_nil, or_false] at hx
   rcases hx with rfl | rfl | rfl | rfl | rfl <;> omega
  ·have := h.1.2 v hv; simpa using this
  ·have := h.2 x hx; omega
 ·split at h
  ·simp only [ack, qdy, role, Bool.and_eq_true, decide_eq_true_eq, beq_iff_eq] at h
   obtain ⟨b1, b2, b3⟩ := bareC h.1.2
   refine ⟨hd fun x hx => ?_, b2, b3⟩
   simp only [List.mem_cons, List.not_mem_nil, or_false] at hx
   rcases hx with rfl | rfl | rfl | rfl | rfl <;> omega
  ·simp only [order, role, Bool.and_eq_true, Bool.or_eq_true, decide_eq_true_eq, beq_iff_eq] at h
   obtain ⟨b1, b2, b3⟩ := bareC h.1.1.2
   refine ⟨hd fun x hx => ?_, b2, b3⟩
   simp only [List.mem_cons, List.not_mem_nil, or_false] at hx
   rcases hx with rfl | rfl | rfl | rfl | rfl <;> omega
theorem qpt {p : Pk} (h : xe p = true) : ∀ x ∈ x7 p, 0 ≤ x ∧ x ≤ 1099511627776 := (qnh h).1
theorem qkh {p : Pk} (h : xe p = true) : ∀ v ∈ p.values, yj v = true := (qnh h).2.1
theorem qni {p : Pk} (h : xe p = true) : ∀ x ∈ p.clock, 0 ≤ x ∧ x ≤ 1099511627776 := (qnh h).2.2
theorem qyb (s : List UInt8) : jy (qcj s) = (s, 0) := by
 have h8 := zc (fnv 14695981039346656037 s)
 have hl : (qcj s).length = s.length + 8 := by rw [qcj, List.length_append, h8]
 have h1 : (qcj s).take ((qcj s).length - 8) = s := by rw [hl, Nat.add_sub_cancel, qcj, List.take_left]
 have h2 : (qcj s).drop ((qcj s).length - 8) = be8 (fnv 14695981039346656037 s) := by rw [hl, Nat.add_sub_cancel, qcj, List.drop_left]
 unfold jy
 rw [if_neg (by omega), h1, h2, if_pos rfl]
theorem qvl {s : List UInt8} (hs : s.length ≤ 1000000000) {hd : List Int} {rest : List UInt8} (h : s = hd.flatMap wInt ++ rest) (hi : ∀ x ∈ hd, I64 x) :
  ∀ n, n ≤ hd.length → yd n ⟨s, 0, false⟩ = (hd.take n, ⟨s, s.length - ((hd.drop n).flatMap wInt ++ rest).length, false⟩) ∧ s.drop (s.length - ((hd.drop n).flatMap wInt ++ rest).length) = (hd.drop n).flatMap wInt ++ rest
 | 0, _ => by
  have e : s.length - (hd.flatMap wInt ++ rest).length = 0 := by rw [← h, Nat.sub_self]
  simp only [yd, List.take_zero, List.drop_zero, e, and_true]
  exact ⟨trivial, h⟩
 | n + 1, hn => by
  obtain ⟨h1, h2⟩ := qvl hs h hi n (by omega)
  have hc := List.drop_eq_getElem_cons (show n < hd.length by omega)
  rw [hc, List.flatMap_cons, List.append_assoc] at h1 h2
  have hx := hi _ (List.getElem_mem (show n < hd.length by omega))
  have hr : (⟨s, s.length - (wInt hd[n] ++ ((hd.drop (n + 1)).flatMap wInt ++ rest)).length, false⟩ : Rd).Ok := ⟨hs, Nat.sub_le _ _⟩
  have hd1 := wi qbh hr rfl (v := hd[n]) (l := (hd.drop (n + 1)).flatMap wInt ++ rest) (by simp only [h2]; exact qay hx _)
  refine ⟨?_, (zr (Nat.sub_le _ _) h2).1⟩
  rw [yd, h1, hd1, List.take_succ_eq_append_getElem (show n < hd.length by omega)]
theorem q6i {p : Pk} (hv : xe p = true) (hw : p.W) (hs : (zx p).length ≤ 1000000000) : qks (zx p) = (p, ⟨zx p, (zx p).length, false⟩) := by
 obtain ⟨f1, f2⟩ := qhs hv
 have h0 : zx p = (x7 p).flatMap wInt ++ (wAVs p.values ++ qd0 p.clock) := by rw [zx, List.append_assoc]
 obtain ⟨h1, h2⟩ := qvl hs h0 hw.h 7 (Nat.le_refl _)
 rw [show (x7 p).drop 7 = [] from rfl, List.flatMap_nil, List.nil_append] at h1 h2
 rw [show (x7 p).take 7 = x7 p from rfl] at h1
 have d1 : qgt 4 dAV (wAVs p.values ++ qd0 p.clock) = some (p.values, qd0 p.clock) := qvf (most := 4) (by decide) f1 (fun x hx l => xdp (hw.v x hx) (qkh hv x hx) l) _
 have d2 : qgt 6 dInt (qd0 p.clock ++ []) = some (p.clock, []) := qvf (most := 6) (by decide) f2 (fun x hx l => qay (hw.c x hx) l) []
 have a1 := wi (qx8 4) (r := ⟨zx p, (zx p).length - (wAVs p.values ++ qd0 p.clock).length, false⟩) ⟨hs, Nat.sub_le _ _⟩ rfl (v := p.values) (l := qd0 p.clock)
  (by simp only [h2]; exact d1)
 have h3 := (zr (Nat.sub_le _ _) h2).1
 have a2 := wi (qrx 6) (r := ⟨zx p, (zx p).length - (qd0 p.clock).length, false⟩) ⟨hs, Nat.sub_le _ _⟩ rfl (v := p.clock) (l := [])
  (by simp only [h3]; rw [List.append_nil] at d2; exact d2)
 simp only at a1 a2
 simp only [qks, h1, a1, a2, List.length_nil, Nat.sub_zero]
 rfl
theorem qyc {p : Pk} (hv : xe p = true) (hw : p.W) (hs : (zx p).length ≤ 1000000000) : kf (qcj (zx p)) = (p, 0) := by
 unfold kf
 rw [qyb, q6i hv hw hs, if_neg (by simp), if_neg]
 simp [hv, rEnd]
theorem xdt {v : AV} (hp : yj v = true) (hs : v.Sm) : (wAV v).length ≤ 60 := by
 obtain ⟨k, n, s⟩ := v
 unfold yj at hp
 have hk : k = 1 ∨ k = 2 := by grind
 have h1 := qaz (n := k) (by omega) (by omega)
 have h2 := xj hs.2.1
 unfold wAV
 rw [List.length_append]
 simp only at h1 h2 ⊢
 split
 ·omega
 ·split
  ·have h40 : (s.length : Int) ≤ 40 := by grind
   have h3 := qaz (n := s.length) (by omega) (by omega)
   simp only [yh, List.length_append]; omega
  ·simp only [List.length_nil]; omega
theorem xb5 {p : Pk} (hv : xe p = true) (hw : p.W) : (zx p).length ≤ 340 := by
 obtain ⟨f1, f2⟩ := qhs hv
 have a1 := kw wInt 6 (x7 p) fun x hx => qaz (qpt hv x hx).1 (qpt hv x hx).2
 have a2 := kw wAV 60 p.values fun x hx => xdt (qkh hv x hx) (hw.v x hx)
 have a3 := kw wInt 6 p.clock fun x hx => qaz (qni hv x hx).1 (qni hv x hx).2
 have b2 := qaz (n := p.values.length) (by omega) (by omega)
 have b3 := qaz (n := p.clock.length) (by omega) (by omega)
 have h7 : (x7 p).length = 7 := rfl
 simp only [zx, wAVs, qd0, List.length_append]
 omega
theorem xdv {p : Pk} (hv : xe p = true) (hw : p.W) : kf (jf p).1 = (p, 0) := by
 have hs := xb5 hv hw
 rw [jf, if_pos hv]
 exact qyc hv hw (by omega)
theorem q6j {p : Pk} (hv : xe p = true) : (jf p).1 ≠ [] := by
 rw [jf, if_pos hv]
 intro h
 have := congrArg List.length h
 simp [qcj, zc] at this
end Go.Proofs.YtinnaedmdoengaaGreat
namespace Go.Proofs.YtinnaedmdoengaaGreat
open Go.Abs
set_option linter.unusedSimpArgs false
set_option linter.unusedVariables false
def qbi (v : List UInt8) : Option (List UInt8) := if v = [] then none else some v
theorem qyd (v : List UInt8) : optV (qbi v) = v := by unfold qbi optV; split <;> simp_all
theorem qr0 (v : List UInt8) : (qbi v).isSome = decide ((v.length : Int) > 0) := by
 cases v with
 | nil => rfl
 | cons c v => simp [qbi]
def Rep (m : Cont) (name : List UInt8) (q : Qu) : Prop := mGet (nKey name) m = qbi (zy q) ∧ ∀ d, d < 4 → mGet (sKey name d) m = qbi (jw q d)
structure QV (q : Qu) : Prop where
 c0 : 0 ≤ q.cons
 c1 : q.cons ≤ q.acc
 c2 : q.acc ≤ 1099511627776
 len : (q.items.length : Int) = q.acc - q.cons
 few : q.items.length ≤ 4
 it : ∀ i (h : i < q.items.length), xe q.items[i] = true ∧ q.items[i].seq = q.cons + 1 + i
theorem qr1 {q : Qu} (h : jx q = true) : QV q := by
 unfold jx at h
 simp only [Bool.and_eq_true, decide_eq_true_eq, beq_iff_eq] at h
 obtain ⟨ha, ⟨⟨⟨c0, c1⟩, c2⟩, c3⟩, c4⟩ := h
 rw [xk (by unfold I64; omega)] at c3
 refine ⟨c0, c1, c2, c3, by omega, fun i hi => ?_⟩
 have := qaj.1 ha i hi
 unfold qmm qbc at this
 simp only [Bool.and_eq_true, beq_iff_eq] at this
 rw [qc2 hi, xk (n := q.cons + 1) (by unfold I64; omega), xk (by unfold I64; omega)] at this
 exact ⟨this.1.1.2, this.2⟩
theorem QV.I {q : Qu} (h : QV q) : I64 q.acc ∧ I64 q.cons := by
 obtain ⟨c0, c1, c2, _, _, _⟩ := h
 unfold I64; omega
theorem q6k {q : Qu} (h : QV q) {i : Nat} (hi : i < q.items.length) {d : Nat} (hd : (d : Int) = (q.cons + 1 + i).tmod 4) : jw q d = (jf q.items[i]).1 := by
 have hf : q.items.find? (fun p => p.seq.tmod 4 == (d : Int)) = some q.items[i] := by
  refine qrz (List.find?_eq_none.2 fun p hp => ?_) hi ?_
  ·obtain ⟨j, hj, rfl⟩ := List.getElem_of_mem hp
   rw [List.length_take] at hj
   rw [List.getElem_take, (h.it j (by omega)).2, hd]
   have h1 := h.c0
   have h2 := h.few
   rw [Int.tmod_eq_emod_of_nonneg (by omega), Int.tmod_eq_emod_of_nonneg (by omega)]
   simp only [beq_iff_eq]
   omega
  ·rw [(h.it i hi).2, hd]; simp
 unfold jw
 rw [hf]
theorem q6l {q : Qu} (h : QV q) {d : Nat} (hd : ∀ i : Nat, i < q.items.length → (d : Int) ≠ (q.cons + 1 + i).tmod 4) : jw q d = [] := by
 have hf : q.items.find? (fun p => p.seq.tmod 4 == (d : Int)) = none := List.find?_eq_none.2 fun p hp => by
  obtain ⟨j, hj, rfl⟩ := List.getElem_of_mem hp
  rw [(h.it j hj).2]
  have := hd j hj
  simp only [beq_iff_eq]
  omega
 unfold jw
 rw [hf]
theorem q6m {q : Qu} (h : QV q) : qam (qbi (zy q)) = (q.acc, q.cons) := by
 obtain ⟨i1, i2⟩ := h.I
 by_cases hz : q.acc = 0 ∧ q.cons = 0
 ·have : zy q = [] := by unfold zy; rw [if_pos hz]
  rw [this]
  simp only [qbi, if_true, qam, hz.1, hz.2]
 ·have hb : zy q = wInt q.acc ++ wInt q.cons := by unfold zy; rw [if_neg hz]
  have hp := qk1 q.acc
  have l1 := xj i1
  have l2 := xj i2
  have hne : zy q ≠ [] := by rw [hb]; intro h; have := congrArg List.length h; rw [List.length_append, List.length_nil] at this; omega
  have hl : (zy q).length ≤ 1000000000 := by rw [hb, List.length_append]; omega
  have r1 := wi qbh (r := ⟨zy q, 0, false⟩) ⟨hl, Nat.zero_le _⟩ rfl (v := q.acc) (l := wInt q.cons) (by simp only [List.drop_zero, hb]; exact qay i1 _)
  have ht := (zr (b := zy q) (p := 0) (q := wInt q.acc) (l := wInt q.cons) (Nat.zero_le _) (by rw [List.drop_zero, hb])).1
  have r2 := wi qbh (r := ⟨zy q, (zy q).length - (wInt q.cons).length, false⟩) ⟨hl, Nat.sub_le _ _⟩ rfl (v := q.cons) (l := []) (by simp only [ht]; have := qay i2 []; rwa [List.append_nil] at this)
  simp only at r1 r2
  simp only [qbi, if_neg hne, qam, r1, r2]
theorem qjl {m : Cont} {name : List UInt8} {q : Qu} (h : QV q) (hw : q.W) (hr : Rep m name q) : ∀ n i, n + i = q.items.length → vw m name n (q.cons.toNat + 1 + i) = some (q.items.drop i)
 | 0, i, hi => by rw [vw, List.drop_of_length_le (by omega)]
 | n + 1, i, hi => by
  have h0 := h.c0
  have hil : i < q.items.length := by omega
  have hk : ((q.cons.toNat + 1 + i) % 4 : Nat) = (((q.cons.toNat + 1 + i) % 4 : Nat) : Int) := rfl
  have hsl : jw q ((q.cons.toNat + 1 + i) % 4 : Nat) = (jf q.items[i]).1 := q6k h hil (by rw [Int.tmod_eq_emod_of_nonneg (by omega)]; omega)
  have hat : ldAt m name (q.cons.toNat + 1 + i) = (q.items[i], 0) := by
   unfold ldAt
   rw [hr.2 _ (Nat.mod_lt _ (by decide)), hsl, qyd]
   exact xdv (h.it i hil).1 (hw.p _ (List.getElem_mem hil))
  have ih := qjl h hw hr n (i + 1) (by omega)
  rw [vw, hat, if_neg (by simp)]
  rw [show q.cons.toNat + 1 + i + 1 = q.cons.toNat + 1 + (i + 1) by omega, ih, List.drop_eq_getElem_cons hil]
  rfl
theorem qeb {m : Cont} {name : List UInt8} {q : Qu} (h : jx q = true) (hw : q.W) (hn : qbm name = true) (hr : Rep m name q) : qcm m name = (q, 0) := by
 have hv := qr1 h
 have hv2 := hv
 obtain ⟨c0, c1, c2, c3, c4, _⟩ := hv2
 have e1 : (q.acc - q.cons).toNat = q.items.length := by omega
 have hi := qjl hv hw hr q.items.length 0 (by omega)
 have hb : q2r (q.acc, q.cons) = false := by
  unfold q2r
  simp only [Bool.or_eq_false_iff, decide_eq_false_iff_not]
  rw [xk (by unfold I64; omega)]
  exact ⟨⟨⟨by omega, by omega⟩, by omega⟩, by omega⟩
 have b1 : qkg m name q = false := by
  unfold qkg
  rw [hr.1, qyd, qr0, h]; simp
 have b2 : qef (fun d => !qng m name q d) 4 = true := qaj.2 fun d hd => by
  unfold qng
  rw [hr.2 d hd, qyd, qr0]; simp
 unfold qcm
 rw [if_neg (by simp [hn]), hr.1, q6m hv, if_neg (by rw [hb]; simp), e1]
 simp only
 rw [show q.cons.toNat + 1 = q.cons.toNat + 1 + 0 from rfl, hi, List.drop_zero, q6h, b1, b2]
 rfl
end Go.Proofs.YtinnaedmdoengaaGreat
namespace Go.Proofs.YtinnaedmdoengaaGreat
open Go.Abs
set_option linter.unusedSimpArgs false
set_option linter.unusedVariables false
noncomputable section
set_option maxRecDepth 100000
set_option linter.defProp false
def d81 := cut Tryz.prog Tryz.f81 news
@[go_sem] def E81 := ql d81
def F81 := fnC d81 follows Tryz.func81
def d70 := cut Tryz.prog Tryz.f70 news
@[go_sem] def E70 := ql d70
def F70 := fnC d70 follows Tryz.func70
def d72 := cut Tryz.prog Tryz.f72 news
@[go_sem] def E72 := ql d72
def F72 := fnC d72 follows Tryz.func72
def d69u := cut Tryz.prog Tryz.f69 news [28] [] true
@[go_sem] def E69u := ql d69u
def F69u := fnC d69u follows Tryz.func69
def d71 := cut Tryz.prog Tryz.f71 news
@[go_sem] def E71 := ql d71
def F71 := fnC d71 follows Tryz.func71
def d68 := cut Tryz.prog Tryz.f68 news
@[go_sem] def E68 := ql d68
def F68 := fnC d68 follows Tryz.func68
def d30 := cut Tryz.prog Tryz.f30 news
@[go_sem] def E30 := ql d30
def F30 := fnC d30 follows Tryz.func30
end
set_option maxRecDepth 10000 in
theorem q2s (b : List UInt8) (hb : b.length ≤ 1000000000) : qg Tryz.prog 81 [.d (.sl 1 (qd b))] [] (.tup [.d (.agg (qe (kf b).1)), .d (.int .i64 (kf b).2)]) [] := by
 have hop := q2o b hb
 have hln := qja b
 unfold kf
 generalize jy b = x at hop hln ⊢
 obtain ⟨s, e⟩ := x
 simp only at hln
 refine F81.goT ?_
 try (refine ev ?_; try exact True.intro)
 (repeat (with_reducible refine ob ?_)); first | refine cl F138 (hop) ?_ | refine clF F138 (hop) (fun _ => by (refine ev3 @qe.eq_1 @encQ.eq_1 @qh.eq_1 ?_; try exact True.intro)) ?_
 try (refine ev ?_; try exact True.intro)
 refine xt _ (fun h => ?_) (fun h => ?_)
 ·rw [if_pos (by simpa using h)]
  try (refine ev1 @qe.eq_1 ?_; try exact True.intro)
  exact ⟨rfl, rfl, rfl, rfl, rfl, rfl, rfl, rfl, rfl⟩
 have he : e = 0 := by simpa using h
 rw [if_neg (by simp [he])]
 have o0 : (⟨s, 0, false⟩ : Rd).Ok := ⟨by simp only; omega, Nat.zero_le _⟩
 have c0 := yo _ o0
 have o1 := (vu o0).1
 have hH : yd 7 ⟨s, 0, false⟩ = yd 7 ⟨s, 0, false⟩ := rfl
 conv at hH => rhs; simp only [yd, List.nil_append]
 simp only [rdO, Int.ofNat_zero] at c0
 generalize ky ⟨s, 0, false⟩ = x0 at c0 o1 hH
 obtain ⟨a0, r1⟩ := x0
 have c1 := yo _ o1
 have o2 := (vu o1).1
 simp only [rdO] at c1
 generalize ky r1 = x1 at c1 o2 hH
 obtain ⟨a1, r2⟩ := x1
 have c2 := yo _ o2
 have o3 := (vu o2).1
 simp only [rdO] at c2
 generalize ky r2 = x2 at c2 o3 hH
 obtain ⟨a2, r3⟩ := x2
 have c3 := yo _ o3
 have o4 := (vu o3).1
 simp only [rdO] at c3
 generalize ky r3 = x3 at c3 o4 hH
 obtain ⟨a3, r4⟩ := x3
 have c4 := yo _ o4
 have o5 := (vu o4).1
 simp only [rdO] at c4
 generalize ky r4 = x4 at c4 o5 hH
 obtain ⟨a4, r5⟩ := x4
 have c5 := yo _ o5
 have o6 := (vu o5).1
 simp only [rdO] at c5
 generalize ky r5 = x5 at c5 o6 hH
 obtain ⟨a5, r6⟩ := x5
 have c6 := yo _ o6
 have o7 := (vu o6).1
 simp only [rdO] at c6
 generalize ky r6 = x6 at c6 o7 hH
 obtain ⟨a6, r7⟩ := x6
 simp only [List.cons_append, List.nil_append] at hH
 have cV := xat r7 4 o7 (by decide)
 have iV := (qm6 o7 4).1
 have lV := qdi (fun r => qdh (f := rAV) (most := 4) (r := r)) r7
 have cC := q6f _ 6 iV (by decide)
 have iC := (qpj iV 6).1
 have lC := qdi (fun r => qdh (f := rInt) (most := 6) (r := r)) (qbg 4 r7).2
 have cE := qru _ iC
 simp only [rdO, Int.cast_ofNat_Int] at cV cC cE lV lC
 simp only [qks, hH]
 try (refine ev ?_; try exact True.intro)
 refine clO [1] F79 c0 ?_
 try (refine ev ?_; try exact True.intro)
 refine clO [1] F79 c1 ?_
 try (refine ev ?_; try exact True.intro)
 refine clO [1] F79 c2 ?_
 try (refine ev ?_; try exact True.intro)
 refine clO [1] F79 c3 ?_
 try (refine ev ?_; try exact True.intro)
 refine clO [1] F79 c4 ?_
 try (refine ev ?_; try exact True.intro)
 refine clO [1] F79 c5 ?_
 try (refine ev ?_; try exact True.intro)
 refine clO [1] F79 c6 ?_
 try (refine ev ?_; try exact True.intro)
 refine clO [1] F139 cV ?_
 try (refine ev ?_; try exact True.intro)
 refine clO [1] F140 cC ?_
 try (refine ev ?_; try exact True.intro)
 (repeat (with_reducible refine ob ?_)); refine clO [1] F80 (cE) ?_ (hfit := by first | exact ⟨qc, trivial⟩ | exact ⟨qc, qc, trivial⟩ | (refine ev3 @qe.eq_1 @encQ.eq_1 @qh.eq_1 ?_; try exact True.intro))
 try (refine ev ?_; try exact True.intro)
 generalize hp : pkOf [a0, a1, a2, a3, a4, a5, a6] (qbg 4 r7).1 (qap 6 (qbg 4 r7).2).1 = p
 have hpe : qe p = [.int .i64 a0, .int .i64 a1, .int .i64 a2, .int .i64 a3, .int .i64 a4, .int .i64 a5, .int .i64 a6, .sl 3 ((qbg 4 r7).1.map qx), .sl 1 ((qap 6 (qbg 4 r7).2).1.map encI)] := by rw [← hp]; rfl
 have hpm : p.Sm := by rw [← hp]; exact ⟨Nat.le_trans lV (by decide), Nat.le_trans lC (by decide)⟩
 have hv := qfv p hpm
 rw [qpp, hpe] at hv
 (repeat (with_reducible refine ob ?_)); first | refine cl F40 (hv) ?_ | refine clF F40 (hv) (fun _ => by (refine ev3 @qe.eq_1 @encQ.eq_1 @qh.eq_1 ?_; try exact True.intro)) ?_
 try (refine ev ?_; try exact True.intro)
 (repeat (with_reducible refine ob ?_))
 refine xt _ (fun h => ?_) (fun h => ?_)
 ·rw [if_pos h]
  try (refine ev1 @qe.eq_1 ?_; try exact True.intro)
  exact ⟨rfl, rfl, rfl, rfl, rfl, rfl, rfl, rfl, rfl⟩
 ·rw [if_neg (by rw [h]; simp)]
  try (refine ev2 @hpe @qdz ?_; try exact True.intro)
def nHas (q : Qu) : Bool := !(q.acc == 0 && q.cons == 0)
def sHas (q : Qu) (d : Int) : Bool := (q.items.find? (fun p => p.seq.tmod 4 == d)).isSome
theorem qzz (q : Qu) (h1 : I64 q.acc) (h2 : I64 q.cons) : qg Tryz.prog 70 [.d (.agg (encQ q))] [] (.d (.agg [.bool (nHas q), .sl 1 (qd (zy q))])) [] := by
 have a1 := xj h1
 have a2 := xj h2
 refine F70.go ?_
 try (refine ev1 @encQ.eq_1 ?_; try exact True.intro)
 refine xt _ (fun h => ?_) (fun h => ?_)
 ·have hb : zy q = [] := by unfold zy; rw [if_pos]; simpa using h
  have hc : nHas q = false := by unfold nHas; rw [h]; rfl
  try (refine ev3 @hb @hc @qm ?_; try exact True.intro)
 ·have hb : zy q = wInt q.acc ++ wInt q.cons := by unfold zy; rw [if_neg]; simpa using h
  have hc : nHas q = true := by unfold nHas; rw [h]; rfl
  try (refine ev ?_; try exact True.intro)
  refine clA F125 (yl q.acc h1) ?_
  try (refine ev ?_; try exact True.intro)
  refine clA F125 (yl q.cons h2) ?_
  try (refine ev3 @qt @hb @hc ?_; try exact True.intro)
  omega
def qz0 (q : Qu) (d : Int) (i : { i : Nat // (q.items.take i).find? (fun p => p.seq.tmod 4 == d) = none }) : St :=
 ⟨[(1, true, .d (.int .i64 d)), (2, true, .d (.ptr 0 0)), (4, true, .d (.ptr 1 0)), (5, true, .d (.int .i64 (i.val : Nat)))], [.row [.d (.int .i64 q.acc), .d (.int .i64 q.cons), .d (.sl 9 (q.items.map qe))], .row [.d (.bool false), .d .nilsl]], [], 1⟩
set_option maxRecDepth 10000 in
theorem qz1 (q : Qu) (d : Int) (hq : q.Sm) (hw : q.W) : qg Tryz.prog 72 [.d (.agg (encQ q)), .d (.int .i64 d)] [] (.d (.agg [.bool (sHas q d), .sl 1 (qd (jw q d))])) [] := by
 have hl := hq.1
 refine F72.go ?_
 try (refine ev1 @encQ.eq_1 ?_; try exact True.intro)
 refine qj (qz0 q d) (fun i => q.items.length - i.val) ⟨0, rfl⟩ ?_ (fun i => ?_)
 ·try (refine ev2 @qz0.eq_1 @Int.ofNat_zero ?_; try exact True.intro)
 obtain ⟨i, hi⟩ := i
 try (refine ev1 @qz0.eq_1 ?_; try exact True.intro)
 refine xt _ (fun h => ?_) (fun h => ?_)
 ·have hil : i < q.items.length := by simpa using h
  have hen := qu8 q.items[i] (hq.2 _ (List.getElem_mem hil)) (hw.p _ (List.getElem_mem hil))
  simp only [qe] at hen
  try (refine ev2 (qq qe q.items hil) @qe.eq_1 ?_; try exact True.intro)
  (repeat (with_reducible refine ob ?_))
  refine xt _ (fun h => ?_) (fun h => ?_)
  ·have hf := qrz hi hil h
   have hb : jw q d = (jf q.items[i]).1 := by unfold jw; rw [hf]
   have hc : sHas q d = true := by unfold sHas; rw [hf]; rfl
   try (refine ev2 (qq qe q.items hil) @qe.eq_1 ?_; try exact True.intro)
   (repeat (with_reducible refine ob ?_))
   (repeat (with_reducible refine ob ?_)); first | refine cl F126 (hen) ?_ | refine clF F126 (hen) (fun _ => by (refine ev3 @qe.eq_1 @encQ.eq_1 @qh.eq_1 ?_; try exact True.intro)) ?_
   try (refine ev2 @hb @hc ?_; try exact True.intro)
  ·try (refine ev ?_; try exact True.intro)
   refine ⟨⟨i + 1, ?_⟩, ?_, by dsimp only; omega⟩
   ·rw [List.take_succ_eq_append_getElem hil, List.find?_append, hi]
    simp only [Option.none_or, List.find?_cons, h, List.find?_nil]
   ·try (refine ev2 @qz0.eq_1 (qi (show i < 9223372036854775807 by omega)) ?_; try exact True.intro)
 ·have hil : q.items.length ≤ i := by simpa using h
  rw [List.take_of_length_le hil] at hi
  have hb : jw q d = [] := by unfold jw; rw [hi]
  have hc : sHas q d = false := by unfold sHas; rw [hi]; rfl
  try (refine ev3 @hb @hc @qm ?_; try exact True.intro)
theorem qpv (k v1 v2 : List UInt8) : qg Tryz.prog 69 [.d (.str k), .d (.agg [.bool (!(v1 == [])), .sl 1 (qd v1)]), .d (.agg [.bool (!(v2 == [])), .sl 1 (qd v2)])] [] (.own 0 3 ((chg k v1 v2).map qh)) [] := by
 refine F69u.go ?_
 try (refine ev ?_; try exact True.intro)
 (repeat (with_reducible refine ob ?_))
 have hx : ((!(v1 == [])) == (!(v2 == [])) && v1 == v2) = (v1 == v2) := by
  by_cases h : v1 = v2
  ·subst h; simp
  ·have : (v1 == v2) = false := by simpa using h
   rw [this, Bool.and_false]
 refine xt _ (fun h => ?_) (fun h => ?_)
 ·have hb : chg k v1 v2 = [] := by unfold chg; rw [if_pos]; rw [hx] at h; simpa using h
  try (refine ev ?_; try exact True.intro)
  refine pu ?_
  try (refine ev2 @hb @List.map_nil.{0,0} ?_; try exact True.intro)
 ·have hb : chg k v1 v2 = [⟨k, v2 == [], v2⟩] := by unfold chg; rw [if_neg]; rw [hx] at h; simpa using h
  try (refine ev ?_; try exact True.intro)
  refine q83 (.fr 6) 400 3 [qh ⟨k, v2 == [], v2⟩] ?_
  refine pu ?_
  try (refine ev4 @hb @List.map_cons.{0,0} @List.map_nil.{0,0} @qh.eq_1 ?_; try exact True.intro)
theorem qih (s : List UInt8) : qg Tryz.prog 68 [.d (.str s)] [] (.d (.bool (qbm s))) [] := by
 refine F68.go ?_
 try (refine ev1 @qbm.eq_1 ?_; try exact True.intro)
theorem qjm (s : List UInt8) (d : Nat) (h : s.length ≤ 1000) (hd : d < 4) : qg Tryz.prog 71 [.d (.str s), .d (.int .i64 d)] [] (.d (.str (sKey s d))) [] := by
 refine F71.go ?_
 have h4 : d = 0 ∨ d = 1 ∨ d = 2 ∨ d = 3 := by omega
 rcases h4 with rfl | rfl | rfl | rfl
 all_goals
  have w1 : IntKind.i64.wrap 1 = 1 := rfl
  have w2 : IntKind.i64.wrap 2 = 2 := rfl
  have w3 : IntKind.i64.wrap 3 = 3 := rfl
  have w4 : IntKind.i64.wrap 4 = 4 := rfl
  try (refine ev6 @sKey.eq_1 @w1 @w2 @w3 @w4 @List.append_assoc.{0} ?_; try exact True.intro)
  exact ⟨by omega, by omega, rfl⟩
theorem xdw (q : Qu) : nHas q = !(zy q == []) := by
 unfold nHas zy
 have hp := qk1 q.acc
 by_cases h : q.acc = 0 ∧ q.cons = 0
 ·rw [if_pos h, h.1, h.2]; rfl
 ·rw [if_neg h]
  have h1 : (wInt q.acc ++ wInt q.cons == []) = false := by
   rw [beq_eq_false_iff_ne]
   intro he
   have := congrArg List.length he
   rw [List.length_append, List.length_nil] at this
   omega
  rw [h1]
  simp only [Bool.not_false, Bool.not_eq_true', Bool.and_eq_false_iff, beq_eq_false_iff_ne]
  omega
theorem q6n {q : Qu} (h : QV q) (d : Int) : sHas q d = !(jw q d == []) := by
 unfold sHas jw
 cases hf : q.items.find? (fun p => p.seq.tmod 4 == d) with
 | none => rfl
 | some p =>
  obtain ⟨i, hi, rfl⟩ := List.getElem_of_mem (List.mem_of_find?_eq_some hf)
  have := q6j (h.it i hi).1
  simp [this]
def xaw (a b : Qu) (name : List UInt8) (d : Nat) : St :=
 ⟨[(2, true, .d (.str name)), (3, true, .d (.ptr 0 0)), (4, true, .d (.ptr 1 0)), (8, true, .own 0 3 ((zt a b name d).map qh)), (9, true, .d (.int .i64 (d : Nat)))], [.row ((encQ a).map .d), .row ((encQ b).map .d)], [0], 1⟩
set_option maxRecDepth 10000 in
theorem qye (a b : Qu) (name : List UInt8) (ha : a.Sm) (wa : a.W) (hb : b.Sm) (wb : b.W) (hn : name.length ≤ 1000) :
  qg Tryz.prog 30 [.d (.agg (encQ a)), .d (.agg (encQ b)), .d (.str name)] [] (.tup [.d (.sl 3 ((k7 a b name).1.map qh)), .d (.int .i64 (k7 a b name).2)]) [] := by
 have va := qdj a ha
 have vb := qdj b hb
 rw [qjd] at va vb
 refine F30.goT ?_
 try (refine ev1 @encQ.eq_1 ?_; try exact True.intro)
 (repeat (with_reducible refine ob ?_)); first | refine cl F9 (va) ?_ | refine clF F9 (va) (fun _ => by (refine ev3 @qe.eq_1 @encQ.eq_1 @qh.eq_1 ?_; try exact True.intro)) ?_
 try (refine ev ?_; try exact True.intro)
 (repeat (with_reducible refine ob ?_)); first | refine cl F9 (vb) ?_ | refine clF F9 (vb) (fun _ => by (refine ev3 @qe.eq_1 @encQ.eq_1 @qh.eq_1 ?_; try exact True.intro)) ?_
 try (refine ev ?_; try exact True.intro)
 (repeat (with_reducible refine ob ?_)); first | refine cl F68 (qih name) ?_ | refine clF F68 (qih name) (fun _ => by (refine ev3 @qe.eq_1 @encQ.eq_1 @qh.eq_1 ?_; try exact True.intro)) ?_
 try (refine ev ?_; try exact True.intro)
 (repeat (with_reducible refine ob ?_))
 refine xt _ (fun h => ?_) (fun h => ?_)
 ·have hx : k7 a b name = ([], 1) := by unfold k7; rw [if_pos h]
  try (refine ev2 @hx @List.map_nil.{0,0} ?_; try exact True.intro)
 have hx : k7 a b name = (zt a b name 4, 0) := by unfold k7; rw [if_neg]; simp [h]
 have hv : jx a = true ∧ jx b = true := by cases h1 : jx a <;> cases h2 : jx b <;> simp_all
 have qa := qr1 hv.1
 have qb := qr1 hv.2
 have na := qzz a wa.a wa.c
 have nb := qzz b wb.a wb.c
 have sa := fun d => qz1 a d ha wa
 have sb := fun d => qz1 b d hb wb
 rw [xdw] at na nb
 simp only [q6n qa] at sa
 simp only [q6n qb] at sb
 simp only [encQ] at na nb sa sb
 have hk : name ++ [47, 110] = nKey name := rfl
 try (refine ev1 @hk ?_; try exact True.intro)
 (repeat (with_reducible refine ob ?_)); first | refine cl F70 (na) ?_ | refine clF F70 (na) (fun _ => by (refine ev3 @qe.eq_1 @encQ.eq_1 @qh.eq_1 ?_; try exact True.intro)) ?_
 try (refine ev ?_; try exact True.intro)
 (repeat (with_reducible refine ob ?_)); first | refine cl F70 (nb) ?_ | refine clF F70 (nb) (fun _ => by (refine ev3 @qe.eq_1 @encQ.eq_1 @qh.eq_1 ?_; try exact True.intro)) ?_
 try (refine ev ?_; try exact True.intro)
 (repeat (with_reducible refine ob ?_))
 refine clA F69u (qpv (nKey name) (zy a) (zy b)) ?_
 try (refine ev ?_; try exact True.intro)
 (repeat (with_reducible refine ob ?_))
 refine qj (fun d : { d : Nat // d ≤ 4 } => xaw a b name d.val) (fun d => 4 - d.val) ⟨0, Nat.zero_le _⟩ ?_ (fun d => ?_)
 ·try simp only [xaw, Int.ofNat_zero, zt, encQ, go_sem, Nat.reduceAdd, Nat.reduceMul, Nat.reduceSub, Nat.reduceEqDiff, Nat.reduceLT, Nat.reduceLeDiff, Nat.reduceBEq, reduceIte, reduceCtorEq, Int.reduceAdd, Int.reduceLT, Int.reduceLE, Int.reduceGT, Int.reduceGE, Int.reduceEq, Int.reduceNe, Int.reduceBEq, Int.reduceBNe, Int.reduceToNat, Int.reduceNeg]
 obtain ⟨d, hd⟩ := d
 try (refine ev2 @xaw.eq_1 @encQ.eq_1 ?_; try exact True.intro)
 refine xt _ (fun h => ?_) (fun h => ?_)
 ·have hl : d < 4 := by simp at h; omega
  have := qa6 a b name d
  have hcl := qx9 (sKey name d) (jw a d) (jw b d)
  try (refine ev ?_; try exact True.intro)
  (repeat (with_reducible refine ob ?_)); first | refine cl F71 (qjm name d hn hl) ?_ | refine clF F71 (qjm name d hn hl) (fun _ => by (refine ev3 @qe.eq_1 @encQ.eq_1 @qh.eq_1 ?_; try exact True.intro)) ?_
  try (refine ev ?_; try exact True.intro)
  (repeat (with_reducible refine ob ?_)); first | refine cl F72 (sa d) ?_ | refine clF F72 (sa d) (fun _ => by (refine ev3 @qe.eq_1 @encQ.eq_1 @qh.eq_1 ?_; try exact True.intro)) ?_
  try (refine ev ?_; try exact True.intro)
  (repeat (with_reducible refine ob ?_)); first | refine cl F72 (sb d) ?_ | refine clF F72 (sb d) (fun _ => by (refine ev3 @qe.eq_1 @encQ.eq_1 @qh.eq_1 ?_; try exact True.intro)) ?_
  try (refine ev ?_; try exact True.intro)
  (repeat (with_reducible refine ob ?_))
  refine clA F69u (qpv (sKey name d) (jw a d) (jw b d)) ?_
  try (refine ev ?_; try exact True.intro)
  (repeat (with_reducible refine ob ?_))
  refine ⟨⟨d + 1, hl⟩, ?_, by dsimp only; omega⟩
  try simp only [xaw, encQ, zt, List.map_append, qi (show d < 9223372036854775807 by omega), go_sem, Nat.reduceAdd, Nat.reduceMul, Nat.reduceSub, Nat.reduceEqDiff, Nat.reduceLT, Nat.reduceLeDiff, Nat.reduceBEq, reduceIte, reduceCtorEq, Int.reduceAdd, Int.reduceLT, Int.reduceLE, Int.reduceGT, Int.reduceGE, Int.reduceEq, Int.reduceNe, Int.reduceBEq, Int.reduceBNe, Int.reduceToNat, Int.reduceNeg]
 ·have hl : d = 4 := by simp at h; omega
  subst hl
  try (refine ev1 @hx ?_; try exact True.intro)
end Go.Proofs.YtinnaedmdoengaaGreat
namespace Go.Proofs.YtinnaedmdoengaaGreat
open Go.Abs
set_option linter.unusedSimpArgs false
set_option linter.unusedVariables false
noncomputable section
set_option maxRecDepth 100000
set_option linter.defProp false
def d18 := cut Tryz.prog Tryz.f18 news
@[go_sem] def E18 := ql d18
end
end Go.Proofs.YtinnaedmdoengaaGreat
namespace Go.Proofs.YtinnaedmdoengaaGreat
open Go.Abs
set_option linter.unusedSimpArgs false
set_option linter.unusedVariables false
def eRun : List En → List (List OpS) → Option (List En)
 | m, [] => some m
 | m, t :: ts => if (kx m t).2 = false then none else eRun (kx m t).1 ts
def qci (ts : List (List OpS)) : List UInt8 := xy (ts.map wOps)
structure Bk (s : Sto) (ts : List (List OpS)) : Prop where
 file : s.file = qci ts
 enc : ∀ t ∈ ts, (qo t).2 = 0
 run : eRun [] ts = some (zm s.m)
end Go.Proofs.YtinnaedmdoengaaGreat
namespace Go.Proofs.YtinnaedmdoengaaGreat
open Go.Abs
set_option linter.unusedSimpArgs false
set_option linter.unusedVariables false
end Go.Proofs.YtinnaedmdoengaaGreat
namespace Go.Proofs.YtinnaedmdoengaaGreat
open Go.Abs
set_option linter.unusedSimpArgs false
set_option linter.unusedVariables false
noncomputable section
set_option maxRecDepth 100000
set_option linter.defProp false
def d67r := cut Tryz.prog Tryz.f67 news [30, 1000030, 41, 1000041] [8, 14, 16]
@[go_sem] def E67r := ql d67r
def d124 := cut Tryz.prog Tryz.f124 news
@[go_sem] def E124 := ql d124
end
structure CIs (i : Nat) (x : List UInt8 × List OpS) : Prop where
 file : x.1.length ≤ i * 70000
 ops : x.2 = [] ∨ (qo x.2).2 = 0
theorem CIs.few {i : Nat} {x : List UInt8 × List OpS} (h : CIs i x) : x.2.length ≤ 20 := by
 rcases h.ops with h | h
 ·rw [h]; simp
 ·exact (ju h).1
end Go.Proofs.YtinnaedmdoengaaGreat
namespace Go.Proofs.YtinnaedmdoengaaGreat
open Go.Abs
set_option linter.unusedSimpArgs false
set_option linter.unusedVariables false
structure CTx (x : List UInt8 × List OpS) (ts : List (List OpS)) (ops : List OpS) : Prop where
 file : x.1 = qci ts
 enc : ∀ t ∈ ts, (qo t).2 = 0
 now : x.2 = [] ∨ (qo x.2).2 = 0
 all : ts.flatten ++ x.2 = ops
theorem qfc : ∀ (n : Nat) (r : List UInt8), r.length ≤ n → (partsOf r).length = (r.length - 1) / 22 + 1
 | n, r, hn => by
  by_cases h : r.length > 22
  ·rw [kq h]
   cases n with
   | zero => omega
   | succ n =>
    have := qfc n (r.drop 22) (by rw [List.length_drop]; omega)
    rw [List.length_drop] at this
    rw [List.length_cons, this]
    omega
  ·rw [ku h]
   simp only [List.length_singleton]
   omega
end Go.Proofs.YtinnaedmdoengaaGreat
namespace Go.Proofs.YtinnaedmdoengaaGreat
open Go.Abs
set_option linter.unusedSimpArgs false
set_option linter.unusedVariables false
def hAll (f : List UInt8) : Nat → Nat
 | 0 => q16
 | k + 1 => fnv (hAll f k) (qu f (32 * k))
theorem qyf (f : List UInt8) : ∀ k, hAll f k < 18446744073709551616
 | 0 => by show q16 < _; decide
 | k + 1 => qc9 (qyf f k) _
theorem qz5 (f g : List UInt8) : ∀ k, 32 * k ≤ f.length → hAll (f ++ g) k = hAll f k
 | 0, _ => rfl
 | k + 1, h => by
  have e : qu (f ++ g) (32 * k) = qu f (32 * k) := by
   unfold qu
   rw [List.drop_append_of_le_length (by omega), List.take_append_of_le_length (by rw [List.length_drop]; omega)]
  rw [hAll, hAll, qz5 f g k (by omega), e]
def Chain (f : List UInt8) (h : Nat) : Prop := ∃ n, f.length = 32 * n ∧ hAll f n = h
theorem Chain.lt {f : List UInt8} {h : Nat} (hc : Chain f h) : h < 18446744073709551616 := by
 obtain ⟨n, _, h2⟩ := hc
 rw [← h2]; exact qyf f n
theorem q2z {f : List UInt8} {h : Nat} (hc : Chain f h) {p : Nat × List UInt8} (hp : p.2.length ≤ 22) : Chain (f ++ (xu p ++ be8 (fnv h (xu p)))) (fnv h (xu p)) := by
 obtain ⟨n, h1, h2⟩ := hc
 have hl := wh hp
 refine ⟨n + 1, by simp only [List.length_append, zc]; omega, ?_⟩
 have e : qu (f ++ (xu p ++ be8 (fnv h (xu p)))) (32 * n) = xu p := by
  unfold qu
  rw [← h1, List.drop_left, ← hl, List.take_left]
 rw [hAll, qz5 _ _ n (by omega), h2, e]
theorem qgx : ∀ (l : List (Nat × List UInt8)) {f : List UInt8} {h : Nat}, Chain f h → (∀ p ∈ l, p.2.length ≤ 22) → Chain (f ++ zp h l) (qcl h l)
 | [], f, h, hc, _ => by simpa [zp, qcl] using hc
 | p :: l, f, h, hc, hl => by
  have := qgx l (q2z hc (hl p (by simp))) (fun q hq => hl q (by simp [hq]))
  rw [zp, qcl]
  rwa [List.append_assoc] at this
theorem qvt : Chain [] (k9 []) := ⟨0, rfl, rfl⟩
theorem qpz (p : Nat × List UInt8) : ∀ (l : List (Nat × List UInt8)) (h : Nat), zp h (l ++ [p]) = zp h l ++ (xu p ++ be8 (fnv (qcl h l) (xu p)))
 | [], h => by simp [zp, qcl]
 | q :: l, h => by simp only [List.cons_append, zp, qcl, qpz p l, List.append_assoc]
theorem qvu : ∀ (n : Nat) (r : List UInt8), r.length ≤ n → ∀ (i : Nat) (h : i < (partsOf r).length), (partsOf r)[i] = if i + 1 = (partsOf r).length then (2, r.drop (22 * i)) else (1, (r.drop (22 * i)).take 22)
 | n, r, hn, i, h => by
  by_cases h22 : r.length > 22
  ·have e := kq h22
   cases n with
   | zero => omega
   | succ n =>
    have hl : (partsOf r).length = (partsOf (r.drop 22)).length + 1 := by rw [e]; rfl
    cases i with
    | zero =>
     have := qrd (r.drop 22)
     have h0 : 0 < (partsOf (r.drop 22)).length := List.length_pos_iff.2 this
     rw [if_neg (by omega)]
     simp only [e, List.getElem_cons_zero, Nat.mul_zero, List.drop_zero]
    | succ i =>
     have ih := qvu n (r.drop 22) (by rw [List.length_drop]; omega) i (by omega)
     simp only [e, List.getElem_cons_succ, ih, List.length_cons, Nat.add_right_cancel_iff, List.drop_drop]
     rw [show 22 + 22 * i = 22 * (i + 1) by omega]
  ·have e := ku h22
   have hl : (partsOf r).length = 1 := by rw [e]; rfl
   have hi : i = 0 := by omega
   subst hi
   rw [if_pos (by omega)]
   simp only [e, List.getElem_cons_zero, Nat.mul_zero, List.drop_zero]
end Go.Proofs.YtinnaedmdoengaaGreat
namespace Go.Proofs.YtinnaedmdoengaaGreat
open Go.Abs
set_option linter.unusedSimpArgs false
set_option linter.unusedVariables false
noncomputable section
set_option maxRecDepth 100000
set_option linter.defProp false
def d131 := cut Tryz.prog Tryz.f131 news
@[go_sem] def E131 := ql d131
def F131 := fnC d131 follows Tryz.func131
def d133 := cut Tryz.prog Tryz.f133 news
@[go_sem] def E133 := ql d133
def F133 := fnC d133 follows Tryz.func133
def d132 := cut Tryz.prog Tryz.f132 news
@[go_sem] def E132 := ql d132
def F132 := fnC d132 follows Tryz.func132
def d74 := cut Tryz.prog Tryz.f74 news
@[go_sem] def E74 := ql d74
def F74 := fnC d74 follows Tryz.func74
end
theorem q6p (r : List UInt8) (hr : r.length ≤ 2000) : qg Tryz.prog 131 [.d (.sl 1 (qd r))] [] (.d (.int .i64 ((partsOf r).length : Nat))) [] := by
 have hn := qfc _ r (Nat.le_refl _)
 obtain ⟨q, hq⟩ : ∃ q, q = (r.length + 21) / 22 := ⟨_, rfl⟩
 have w1 : IntKind.i64.wrap ((r.length : Int) + 22) = (r.length : Int) + 22 := by rw [xk (by unfold I64; omega)]
 have w2 : IntKind.i64.wrap ((r.length : Int) + 22 - 1) = (r.length : Int) + 21 := by rw [xk (by unfold I64; omega)]; omega
 have w3 : ((r.length : Int) + 21).tdiv 22 = (q : Nat) := by rw [Int.tdiv_eq_ediv_of_nonneg (by omega)]; omega
 have w4 : IntKind.i64.wrap (q : Nat) = (q : Nat) := xk (by unfold I64; omega)
 refine F131.go ?_
 try (refine ev4 @w1 @w2 @w3 @w4 ?_; try exact True.intro)
 refine xt _ (fun hc => ?_) (fun hc => ?_)
 ·have e : (partsOf r).length = 1 := by simp at hc; omega
  try (refine ev1 @e ?_; try exact True.intro)
 ·have e : (partsOf r).length = q := by simp at hc; omega
  try (refine ev1 @e ?_; try exact True.intro)
def qz6 (f : List UInt8) (k : Nat) : St :=
 ⟨[(0, true, .d (.sl 1 (qd f))), (3, true, .d (.int .u64 (hAll f k : Nat))), (4, true, .d (.int .i64 (32 * k : Nat)))], [], [], 1⟩
theorem xa4 (f : List UInt8) {h : Nat} (hc : Chain f h) (hf : f.length ≤ 200000000) : qg Tryz.prog 133 [.d (.sl 1 (qd f))] [] (.d (.int .u64 (h : Nat))) [] := by
 obtain ⟨n, h1, rfl⟩ := hc
 refine F133.go ?_
 try (refine ev ?_; try exact True.intro)
 refine qj (fun k : { k : Nat // k ≤ n } => qz6 f k.val) (fun k => n - k.val) ⟨0, Nat.zero_le _⟩ ?_ (fun k => ?_)
 ·try simp only [qz6, hAll, q16, Nat.mul_zero, Int.ofNat_zero, go_sem, Nat.reduceAdd, Nat.reduceMul, Nat.reduceSub, Nat.reduceEqDiff, Nat.reduceLT, Nat.reduceLeDiff, Nat.reduceBEq, reduceIte, reduceCtorEq, Int.reduceAdd, Int.reduceLT, Int.reduceLE, Int.reduceGT, Int.reduceGE, Int.reduceEq, Int.reduceNe, Int.reduceBEq, Int.reduceBNe, Int.reduceToNat, Int.reduceNeg]
 obtain ⟨k, hk⟩ := k
 try (refine ev1 @qz6.eq_1 ?_; try exact True.intro)
 obtain ⟨p, hp⟩ : ∃ p, p = 32 * k := ⟨_, rfl⟩
 have hp1 : 32 * (k + 1) = p + 32 := by omega
 rw [← hp]
 have w1 : IntKind.i64.wrap ((p : Int) + 32) = (p : Int) + 32 := by rw [xk (by unfold I64; omega)]
 have w2 : IntKind.i64.wrap ((p : Int) + 2) = (p : Int) + 2 := by rw [xk (by unfold I64; omega)]
 have w3 : IntKind.i64.wrap ((p : Int) + 2 + 22) = (p : Int) + 24 := by rw [xk (by unfold I64; omega)]; omega
 try (refine ev1 @w1 ?_; try exact True.intro)
 refine xt _ (fun hc => ?_) (fun hc => ?_)
 ·have hkn : k < n := by simp at hc; omega
  have e1 : ((p : Int) + 24).toNat - p = 24 := by omega
  have e2 : ((qd f).drop p).take 24 = qd (qu f p) := by rw [xq, xf, qu]
  try (refine ev4 @w2 @w3 @e1 @e2 ?_; try exact True.intro)
  refine ⟨by omega, ?_⟩
  (repeat (with_reducible refine ob ?_)); refine cl F175 (qk6 (hAll f k) (qu f p) (qyf f k) (by rw [qu, List.length_take]; omega)) ?_
  try (refine ev ?_; try exact True.intro)
  refine ⟨⟨k + 1, hkn⟩, ?_, by dsimp only; omega⟩
  try simp only [qz6, w1, hAll, hp1, ← hp, go_sem, Nat.reduceAdd, Nat.reduceMul, Nat.reduceSub, Nat.reduceEqDiff, Nat.reduceLT, Nat.reduceLeDiff, Nat.reduceBEq, reduceIte, reduceCtorEq, Int.reduceAdd, Int.reduceLT, Int.reduceLE, Int.reduceGT, Int.reduceGE, Int.reduceEq, Int.reduceNe, Int.reduceBEq, Int.reduceBNe, Int.reduceToNat, Int.reduceNeg]
 ·have hkn : k = n := by simp at hc; omega
  subst hkn
  try (refine ev ?_; try exact True.intro)
def qii (p : Nat × List UInt8) (j : Nat) : List UInt8 := [UInt8.ofNat p.1, UInt8.ofNat p.2.length] ++ p.2 ++ List.replicate j 0
theorem qyg (p : Nat × List UInt8) (j : Nat) : qii p j ++ [0] = qii p (j + 1) := by rw [qii, List.append_assoc, ← List.replicate_succ']; rfl
def qz7 (p : Nat × List UInt8) (h : Nat) (j : Nat) : St :=
 ⟨[(2, true, .d (.int .u64 (h : Nat))), (7, true, .own 0 1 (qd (qii p j)))], [], [0], 1⟩
theorem xa5 (p : Nat × List UInt8) (h : Nat) (hp : p.1 = 1 ∨ p.1 = 2) (hl : p.2.length ≤ 22) (hh : h < 18446744073709551616) :
  qg Tryz.prog 132 [.d (.int .i64 (p.1 : Nat)), .d (.sl 1 (qd p.2)), .d (.int .u64 (h : Nat))] [] (.d (.sl 1 (qd (xu p ++ be8 (fnv h (xu p)))))) [] := by
 have u1 : IntKind.u8.wrap ((p.1 : Nat) : Int) = ((UInt8.ofNat p.1).toNat : Int) := by rw [qew, UInt8.toNat_ofNat']; omega
 have u2 : IntKind.u8.wrap ((p.2.length : Nat) : Int) = ((UInt8.ofNat p.2.length).toNat : Int) := by rw [qew, UInt8.toNat_ofNat']; omega
 have u3 : [[D.int .u8 ((UInt8.ofNat p.1).toNat : Int)], [D.int .u8 ((UInt8.ofNat p.2.length).toNat : Int)]] = qd [UInt8.ofNat p.1, UInt8.ofNat p.2.length] := rfl
 have u4 : UInt8.ofNat p.1 :: UInt8.ofNat p.2.length :: p.2 = qii p 0 := by simp [qii]
 refine F132.go ?_
 try (refine ev4 @u1 @u2 @u3 @qt ?_; try exact True.intro)
 refine ⟨by omega, ?_⟩
 refine qj (fun j : { j : Nat // j ≤ 22 - p.2.length } => qz7 p h j.val) (fun j => 22 - p.2.length - j.val) ⟨0, Nat.zero_le _⟩ ?_ (fun j => ?_)
 ·try (refine ev2 @qz7.eq_1 @u4 ?_; try exact True.intro)
 obtain ⟨j, hj⟩ := j
 have hln : (qii p j).length = 2 + p.2.length + j := by simp [qii]; omega
 have hsu := qyg p j
 try (refine ev2 @qz7.eq_1 @hln ?_; try exact True.intro)
 refine xt _ (fun hc => ?_) (fun hc => ?_)
 ·have hjn : j < 22 - p.2.length := by simp at hc; omega
  have u5 : [[D.int .u8 0]] = qd [0] := rfl
  try (refine ev3 @u5 @qt @hsu ?_; try exact True.intro)
  refine ⟨by omega, ⟨j + 1, hjn⟩, ?_, by dsimp only; omega⟩
  try (refine ev1 @qz7.eq_1 ?_; try exact True.intro)
 ·have hjn : j = 22 - p.2.length := by simp at hc; omega
  have e : qii p j = xu p := by rw [hjn]; rfl
  have h24 := wh hl
  rw [e]
  try (refine ev ?_; try exact True.intro)
  (repeat (with_reducible refine ob ?_)); refine cl F175 (qk6 h (xu p) hh (by omega)) ?_
  try (refine ev ?_; try exact True.intro)
  (repeat (with_reducible refine ob ?_)); refine cl q5s (qh1 (fnv h (xu p)) (qc9 hh _)) ?_
  try (refine ev3 @qt @zc @h24 ?_; try exact True.intro)
def q6q (file r : List UInt8) (synced : Int) (i : Nat) : St :=
 ⟨[(1, true, .d (.sl 1 (qd r))), (2, true, .d (.ptr 0 0)), (4, true, .d (.ptr 1 0)), (7, true, .d (.int .i64 ((partsOf r).length : Nat))), (6, true, .own 0 1 (qd (file ++ zp (k9 file) ((partsOf r).take i)))), (8, true, .d (.int .i64 (i : Nat)))],
  [.row [.d (.sl 1 (qd file)), .d (.int .i64 synced)], .row [.d .nilsl, .d (.int .i64 0)]], [0], 1⟩
set_option maxRecDepth 10000 in
theorem qp0 (file r : List UInt8) (synced : Int) (hc : Chain file (k9 file)) (hf : file.length ≤ 100000000) (hr : r.length ≤ 2000) :
  qg Tryz.prog 74 [.d (.agg (vh file synced)), .d (.sl 1 (qd r))] [] (.tup [.d (.agg (vh (vd file r) synced)), .d (.int .i64 0)]) [] := by
 have hr0 : decide ((r.length : Int) > 2000) = false := by simp; omega
 have hn := qfc _ r (Nat.le_refl _)
 refine F74.goT ?_
 try (refine ev1 @vh.eq_1 ?_; try exact True.intro)
 try (refine ev1 @hr0 ?_; try exact True.intro)
 (repeat (with_reducible refine ob ?_)); refine no_ ?_
 try (refine ev ?_; try exact True.intro)
 refine ⟨by omega, ?_⟩
 (repeat (with_reducible refine ob ?_)); refine cl F131 (q6p r hr) ?_
 try (refine ev ?_; try exact True.intro)
 refine qj (fun i : { i : Nat // i ≤ (partsOf r).length } => q6q file r synced i.val) (fun i => (partsOf r).length - i.val) ⟨0, Nat.zero_le _⟩ ?_ (fun i => ?_)
 ·try simp only [q6q, List.take_zero, zp, List.append_nil, Int.ofNat_zero, go_sem, Nat.reduceAdd, Nat.reduceMul, Nat.reduceSub, Nat.reduceEqDiff, Nat.reduceLT, Nat.reduceLeDiff, Nat.reduceBEq, reduceIte, reduceCtorEq, Int.reduceAdd, Int.reduceLT, Int.reduceLE, Int.reduceGT, Int.reduceGE, Int.reduceEq, Int.reduceNe, Int.reduceBEq, Int.reduceBNe, Int.reduceToNat, Int.reduceNeg]
 obtain ⟨i, hi⟩ := i
 try (refine ev1 @q6q.eq_1 ?_; try exact True.intro)
 refine xt _ (fun hd => ?_) (fun hd => ?_)
 ·have hil : i < (partsOf r).length := by simpa using hd
  obtain ⟨p1, p2⟩ := jt _ r (Nat.le_refl _) _ (List.getElem_mem hil)
  have hg := qvu _ r (Nat.le_refl _) i hil
  have hsn := qpz (partsOf r)[i] ((partsOf r).take i) (k9 file)
  rw [← List.take_succ_eq_append_getElem hil] at hsn
  replace hsn := (congrArg (file ++ ·) hsn).trans (List.append_assoc ..).symm
  have hch := qgx ((partsOf r).take i) hc fun p hp => (jt _ r (Nat.le_refl _) p (List.mem_of_mem_take hp)).2
  have hcl : (zp (k9 file) ((partsOf r).take i)).length = 32 * i := by
   rw [qft fun p hp => (jt _ r (Nat.le_refl _) p (List.mem_of_mem_take hp)).2, List.length_take]; omega
  have hfl : (file ++ zp (k9 file) ((partsOf r).take i)).length = file.length + 32 * i := by rw [List.length_append, hcl]
  have hlt := hch.lt
  have hsd := xa4 _ hch (by omega)
  have hce := xa5 (partsOf r)[i] _ p1 p2 hlt
  generalize qcl (k9 file) ((partsOf r).take i) = g at *
  generalize file ++ zp (k9 file) ((partsOf r).take i) = fi at *
  generalize (partsOf r)[i] = pi at *
  obtain ⟨q, hq⟩ : ∃ q, q = 22 * i := ⟨_, rfl⟩
  rw [← hq] at hg
  have w1 : IntKind.i64.wrap ((i : Int) + 1) = (i : Int) + 1 := by rw [xk (by unfold I64; omega)]
  have w2 : IntKind.i64.wrap (((i : Int) + 1) * 22) = (q : Int) + 22 := by rw [xk (by unfold I64; omega)]; omega
  have w3 : IntKind.i64.wrap ((i : Int) * 22) = (q : Int) := by rw [xk (by unfold I64; omega)]; omega
  have w4 : IntKind.i64.wrap (((partsOf r).length : Int) - 1) = ((partsOf r).length : Int) - 1 := by rw [xk (by unfold I64; omega)]
  try (refine ev3 @w1 @w2 @w4 ?_; try exact True.intro)
  refine xt _ (fun he => ?_) (fun he => ?_)
  ·have hil1 : i + 1 = (partsOf r).length := by simp at he; omega
   rw [if_pos hil1] at hg
   subst hg
   have e1 : ((qd r).drop q).take (r.length - q) = qd (r.drop q) := by rw [xq, xf, List.take_of_length_le (by rw [List.length_drop]; omega)]
   have hpl : (r.drop q).length = r.length - q := List.length_drop ..
   change qg _ _ [.d (.int .i64 2), .d (.sl 1 (qd (r.drop q))), .d (.int .u64 (g : Nat))] _ _ _ at hce
   try (refine ev2 @w3 @e1 ?_; try exact True.intro)
   refine ⟨by omega, ?_⟩
   (repeat (with_reducible refine ob ?_)); refine cl F133 (hsd) ?_
   try (refine ev ?_; try exact True.intro)
   (repeat (with_reducible refine ob ?_)); refine cl F132 (hce) ?_
   try (refine ev3 @qt @zc (wh p2) ?_; try exact True.intro)
   refine ⟨by omega, ⟨i + 1, hil⟩, ?_, by dsimp only; omega⟩
   try (refine ev3 @q6q.eq_1 @hsn @w1 ?_; try exact True.intro)
  ·have hil1 : ¬ i + 1 = (partsOf r).length := by simp at he; omega
   rw [if_neg hil1] at hg
   subst hg
   have e0 : ((q : Int) + 22).toNat - q = 22 := by omega
   have e1 : ((qd r).drop q).take 22 = qd ((r.drop q).take 22) := by rw [xq, xf]
   change qg _ _ [.d (.int .i64 1), .d (.sl 1 (qd ((r.drop q).take 22))), .d (.int .u64 (g : Nat))] _ _ _ at hce
   try (refine ev3 @w3 @e0 @e1 ?_; try exact True.intro)
   refine ⟨by omega, ?_⟩
   (repeat (with_reducible refine ob ?_)); refine cl F133 (hsd) ?_
   try (refine ev ?_; try exact True.intro)
   (repeat (with_reducible refine ob ?_)); refine cl F132 (hce) ?_
   try (refine ev3 @qt @zc (wh p2) ?_; try exact True.intro)
   refine ⟨by omega, ⟨i + 1, hil⟩, ?_, by dsimp only; omega⟩
   try (refine ev3 @q6q.eq_1 @hsn @w1 ?_; try exact True.intro)
 ·have hin : i = (partsOf r).length := by simp at hd; omega
  subst hin
  have hwa := (qb0 file r).symm
  try (refine ev2 @List.take_length.{0} @hwa ?_; try exact True.intro)
end Go.Proofs.YtinnaedmdoengaaGreat
namespace Go.Proofs.YtinnaedmdoengaaGreat
open Go.Abs
set_option linter.unusedSimpArgs false
set_option linter.unusedVariables false
noncomputable section
set_option maxRecDepth 100000
set_option linter.defProp false
def d122 := cut Tryz.prog Tryz.f122 news
@[go_sem] def E122 := ql d122
def F122 := fnC d122 follows Tryz.func122
def d121 := cut Tryz.prog Tryz.f121 news
@[go_sem] def E121 := ql d121
def F121 := fnC d121 follows Tryz.func121
def d62 := cut Tryz.prog Tryz.f62 news
@[go_sem] def E62 := ql d62
def F62 := fnC d62 follows Tryz.func62
end
theorem qz8 (x : En) : ∀ l : List En, (eSet x l).length ≤ l.length + 1
 | [] => by simp [eSet]
 | y :: l => by
  have := qz8 x l
  rw [eSet]
  split
  ·simp only [List.length_cons]; omega
  ·split <;> simp
theorem qz9 (k : List UInt8) (l : List En) : (eDel k l).length ≤ l.length := List.length_filter_le _ _
theorem qyh (x : En) : ∀ (l : List En) (i : Nat) (hi : i ≤ l.length), (∀ y ∈ l.take i, Op.bytesLess y.1 x.1 = true) → (∀ h : i < l.length, Op.bytesLess l[i].1 x.1 = false) →
  eSet x l = l.take i ++ [x] ++ l.drop (if ∃ h : i < l.length, l[i].1 = x.1 then i + 1 else i)
 | [], i, hi, _, _ => by
  have : i = 0 := by simpa using hi
  subst this
  simp [eSet]
 | y :: l, 0, _, _, h2 => by
  have := h2 (by simp)
  simp only [List.getElem_cons_zero] at this
  rw [eSet, this]
  by_cases he : y.1 = x.1 <;> simp [he]
 | y :: l, i + 1, hi, h1, h2 => by
  have hy := h1 y (by simp)
  have ih := qyh x l i (by simpa using hi) (fun z hz => h1 z (by simp [hz])) (fun h => by have := h2 (by simpa using h); simpa only [List.getElem_cons_succ] using this)
  rw [eSet, if_pos hy, ih]
  simp only [List.take_succ_cons, List.cons_append, List.length_cons, Nat.add_lt_add_iff_right, List.getElem_cons_succ]
  split <;> simp
def q6r (l : List En) (x : En) (i : { i : Nat // i ≤ l.length ∧ ∀ y ∈ l.take i, Op.bytesLess y.1 x.1 = true }) : St :=
 ⟨[(0, true, .d (.sl 2 (l.map qp))), (3, true, .d (.ptr 0 0)), (5, true, .own 0 2 ((l.take i.val).map qp)), (6, true, .d (.int .i64 (i.val : Nat)))], [.row [.d (.str x.1), .d (.sl 1 (qd x.2))]], [0], 1⟩
theorem q6s (l : List En) (x : En) (hl : l.length ≤ 100000) : qg Tryz.prog 122 [.d (.sl 2 (l.map qp)), .d (.agg (qp x))] [] (.d (.sl 2 ((eSet x l).map qp))) [] := by
 refine F122.go ?_
 try (refine ev1 @qp.eq_1 ?_; try exact True.intro)
 refine qj (q6r l x) (fun i => l.length - i.val) ⟨0, Nat.zero_le _, by simp⟩ ?_ (fun i => ?_)
 ·try (refine ev4 @q6r.eq_1 @List.take_zero.{0} @List.map_nil.{0,0} @Int.ofNat_zero ?_; try exact True.intro)
 obtain ⟨i, hi, ha⟩ := i
 have w1 : IntKind.i64.wrap ((i : Int) + 1) = ((i + 1 : Nat) : Int) := qi (show i < 9223372036854775807 by omega)
 have tl : (l.take i).length ≤ i := by rw [List.length_take]; omega
 by_cases hil : i < l.length
 ·have hd : decide ((i : Int) < (l.length : Int)) = true := by simpa using hil
  try (refine ev4 @q6r.eq_1 @hd (qq qp l hil) @qp.eq_1 ?_; try exact True.intro)
  (repeat (with_reducible refine ob ?_))
  refine xt _ (fun hb => ?_) (fun hb => ?_)
  ·try (refine ev2 (qq qp l hil) @qp.eq_1 ?_; try exact True.intro)
   (repeat (with_reducible refine ob ?_))
   refine ⟨⟨i + 1, hil, fun y hy => ?_⟩, ?_, by dsimp only; omega⟩
   ·rw [List.take_succ_eq_append_getElem hil] at hy
    rcases List.mem_append.1 hy with hy | hy
    ·exact ha y hy
    ·simp only [List.mem_singleton] at hy; subst hy; exact hb
   try (refine ev4 @q6r.eq_1 (qd7 qp l hil) @qp.eq_1 @w1 ?_; try exact True.intro)
  ·have hx := qyh x l i hi ha (fun _ => hb)
   by_cases he : l[i].1 = x.1
   ·have he2 : (l[i].1 == x.1) = true := by simpa using he
    rw [if_pos ⟨hil, he⟩] at hx
    have hm : (eSet x l).map qp = (l.take i).map qp ++ [[D.str x.1, D.sl 1 (qd x.2)]] ++ (l.map qp).drop (i + 1) := by rw [hx]; simp [List.map_drop, qp]
    have ht : ((l.map qp).drop (i + 1)).take (l.length - (i + 1)) = (l.map qp).drop (i + 1) := List.take_of_length_le (by simp)
    have e1 : ((i : Int) + 1).toNat = i + 1 := by omega
    try (refine ev4 @hd (qq qp l hil) @qp.eq_1 @he2 ?_; try exact True.intro)
    refine ⟨by omega, by omega, ?_⟩
    (repeat (with_reducible refine ob ?_)); refine qb9 ?_
    try (refine ev4 @w1 @e1 @ht @hm ?_; try exact True.intro)
    refine ⟨by omega, by simp only [List.length_drop, List.length_map]; omega, ?_⟩
    rw [← hm]
    exact D.okWR_noPtr (qcd _)
   ·have he2 : (l[i].1 == x.1) = false := by simpa using he
    rw [if_neg (fun ⟨_, h⟩ => he h)] at hx
    have hm : (eSet x l).map qp = (l.take i).map qp ++ [[D.str x.1, D.sl 1 (qd x.2)]] ++ (l.map qp).drop i := by rw [hx]; simp [List.map_drop, qp]
    have ht : ((l.map qp).drop i).take (l.length - i) = (l.map qp).drop i := List.take_of_length_le (by simp)
    try (refine ev4 @hd (qq qp l hil) @qp.eq_1 @he2 ?_; try exact True.intro)
    refine ⟨by omega, by omega, ?_⟩
    (repeat (with_reducible refine ob ?_)); refine no_ ?_
    try (refine ev3 @Int.toNat_natCast @ht @hm ?_; try exact True.intro)
    refine ⟨by omega, by simp only [List.length_drop, List.length_map]; omega, ?_⟩
    rw [← hm]
    exact D.okWR_noPtr (qcd _)
 ·have hd : decide ((i : Int) < (l.length : Int)) = false := by simpa using hil
  have hx := qyh x l i hi ha (fun h => (hil h).elim)
  rw [if_neg (fun ⟨h, _⟩ => hil h)] at hx
  have hm : (eSet x l).map qp = (l.take i).map qp ++ [[D.str x.1, D.sl 1 (qd x.2)]] ++ (l.map qp).drop i := by rw [hx]; simp [List.map_drop, qp]
  have ht : ((l.map qp).drop i).take (l.length - i) = (l.map qp).drop i := List.take_of_length_le (by simp)
  have hg : (l.map qp).getD i [] = [] := by rw [List.getD_eq_getElem?_getD, List.getElem?_eq_none (by rw [List.length_map]; omega)]; rfl
  try (refine ev4 @q6r.eq_1 @hd @hg @Out.bad.eq_1 ?_; try exact True.intro)
  (repeat (with_reducible refine ob ?_))
  try (refine ev3 @hd @hg @Out.bad.eq_1 ?_; try exact True.intro)
  (repeat (with_reducible refine ob ?_)); refine no_ ?_
  try (refine ev3 @hd @hg @Out.bad.eq_1 ?_; try exact True.intro)
  refine ⟨by omega, ?_⟩
  (repeat (with_reducible refine ob ?_)); refine no_ ?_
  try (refine ev3 @Int.toNat_natCast @ht @hm ?_; try exact True.intro)
  refine ⟨by omega, by simp only [List.length_drop, List.length_map]; omega, ?_⟩
  rw [← hm]
  exact D.okWR_noPtr (qcd _)
def q6t (l : List En) (k : List UInt8) (i : { i : Nat // i ≤ l.length }) : St :=
 ⟨[(0, true, .d (.sl 2 (l.map qp))), (1, true, .d (.str k)), (5, true, .own 0 2 ((eDel k (l.take i.val)).map qp)), (6, true, .d (.int .i64 (i.val : Nat)))], [], [0], 1⟩
theorem qvv (k : List UInt8) (l : List En) {i : Nat} (h : i < l.length) : eDel k (l.take (i + 1)) = if l[i].1 = k then eDel k (l.take i) else eDel k (l.take i) ++ [l[i]] := by
 rw [List.take_succ_eq_append_getElem h, eDel, List.filter_append]
 split
 ·rename_i he; simp [eDel, he]
 ·rename_i he; simp [eDel, he]
theorem qp1 (l : List En) (k : List UInt8) (hl : l.length ≤ 100000) : qg Tryz.prog 121 [.d (.sl 2 (l.map qp)), .d (.str k)] [] (.d (.sl 2 ((eDel k l).map qp))) [] := by
 refine F121.go ?_
 try (refine ev ?_; try exact True.intro)
 refine qj (q6t l k) (fun i => l.length - i.val) ⟨0, Nat.zero_le _⟩ ?_ (fun i => ?_)
 ·try (refine ev6 @q6t.eq_1 @List.take_zero.{0} @eDel.eq_1 @List.filter_nil.{0} @List.map_nil.{0,0} @Int.ofNat_zero ?_; try exact True.intro)
 obtain ⟨i, hi⟩ := i
 have hdl := qz9 k (l.take i)
 rw [List.length_take] at hdl
 try (refine ev1 @q6t.eq_1 ?_; try exact True.intro)
 (repeat (with_reducible refine ob ?_)); refine xt _ (fun h => ?_) (fun h => ?_)
 ·have hil : i < l.length := by simpa using h
  try (refine ev2 (qq qp l hil) @qp.eq_1 ?_; try exact True.intro)
  (repeat (with_reducible refine ob ?_))
  refine xt _ (fun hk => ?_) (fun hk => ?_)
  ·have hx : eDel k (l.take (i + 1)) = eDel k (l.take i) ++ [l[i]] := by rw [qvv k l hil, if_neg (by simpa using hk)]
   try (refine ev2 (qq qp l hil) @qp.eq_1 ?_; try exact True.intro)
   (repeat (with_reducible refine ob ?_))
   refine ⟨⟨i + 1, hil⟩, ?_, by dsimp only; omega⟩
   try (refine ev7 @q6t.eq_1 @hx @List.map_append.{0,0} @List.map_cons.{0,0} @List.map_nil.{0,0} @qp.eq_1 (qi (show i < 9223372036854775807 by omega)) ?_; try exact True.intro)
  ·have hx : eDel k (l.take (i + 1)) = eDel k (l.take i) := by rw [qvv k l hil, if_pos (by simpa using hk)]
   try (refine ev ?_; try exact True.intro)
   refine ⟨⟨i + 1, hil⟩, ?_, by dsimp only; omega⟩
   try (refine ev3 @q6t.eq_1 @hx (qi (show i < 9223372036854775807 by omega)) ?_; try exact True.intro)
 ·have hil : i = l.length := by
   have : l.length ≤ i := by simpa using h
   omega
  subst hil
  try (refine ev1 @List.take_length.{0} ?_; try exact True.intro)
def qnn (l : List En) (ops : List OpS) (n : Nat) (i : Nat) (m : List En) : St :=
 ⟨[(0, true, .d (.sl 2 (m.map qp))), (1, true, .d (.sl 3 (ops.map qh))), (6, true, .d (.int .i64 (i : Nat)))], [], [], 1⟩
theorem qij (l : List En) (ops : List OpS) (hl : l.length ≤ 400) (ho : ops.length ≤ 100000) (hv : ∀ o ∈ ops, o.val.length ≤ 1000000) :
  qg Tryz.prog 62 [.d (.sl 2 (l.map qp)), .d (.sl 3 (ops.map qh))] [] (.tup [.d (.sl 2 ((kx l ops).1.map qp)), .d (.bool (kx l ops).2)]) [] := by
 refine F62.goT ?_
 try (refine ev ?_; try exact True.intro)
 refine qj (fun x : { x : Nat × List En // x.1 ≤ ops.length ∧ x.2.length ≤ 400 ∧ kx x.2 (ops.drop x.1) = kx l ops } => qnn l ops 0 x.val.1 x.val.2) (fun x => ops.length - x.val.1) ⟨(0, l), Nat.zero_le _, hl, rfl⟩ ?_ (fun x => ?_)
 ·try (refine ev2 @qnn.eq_1 @Int.ofNat_zero ?_; try exact True.intro)
 obtain ⟨⟨i, m⟩, hi, hm, hx⟩ := x
 simp only at hi hm hx
 try (refine ev1 @qnn.eq_1 ?_; try exact True.intro)
 refine xt _ (fun hc => ?_) (fun hc => ?_)
 ·have hil : i < ops.length := by simpa using hc
  rw [List.drop_eq_getElem_cons hil, kx] at hx
  have hvi := hv _ (List.getElem_mem hil)
  try (refine ev2 (qq qh ops hil) @qh.eq_1 ?_; try exact True.intro)
  (repeat (with_reducible refine ob ?_))
  refine xt _ (fun hd => ?_) (fun hd => ?_)
  ·have ho : eOp m ops[i] = eDel ops[i].key m := by rw [eOp, if_pos hd]
   have hle := qz9 ops[i].key m
   try (refine ev2 (qq qh ops hil) @qh.eq_1 ?_; try exact True.intro)
   (repeat (with_reducible refine ob ?_))
   (repeat (with_reducible refine ob ?_)); first | refine cl F121 (qp1 m ops[i].key (by omega)) ?_ | refine clF F121 (qp1 m ops[i].key (by omega)) (fun _ => by (refine ev3 @qh.eq_1 @qp.eq_1 @xi.eq_1 ?_; try exact True.intro)) ?_
   rw [← ho] at hle ⊢
   generalize eOp m ops[i] = m' at hle hx
   try (refine ev ?_; try exact True.intro)
   refine xt _ (fun h4 => ?_) (fun h4 => ?_)
   ·rw [if_pos (by simp at h4; omega)] at hx
    try (refine ev1 hx.symm ?_; try exact True.intro)
   ·have h4' : m'.length ≤ 400 := by simp at h4; omega
    rw [if_neg (by omega)] at hx
    try (refine ev ?_; try exact True.intro)
    refine ⟨⟨(i + 1, m'), hil, h4', hx⟩, ?_, by dsimp only; omega⟩
    try (refine ev2 @qnn.eq_1 (qi (show i < 9223372036854775807 by omega)) ?_; try exact True.intro)
  ·have ho : eOp m ops[i] = eSet (ops[i].key, ops[i].val) m := by rw [eOp, if_neg (by simp [hd])]
   have hle := qz8 (ops[i].key, ops[i].val) m
   try (refine ev2 (qq qh ops hil) @qh.eq_1 ?_; try exact True.intro)
   (repeat (with_reducible refine ob ?_))
   (repeat (with_reducible refine ob ?_)); first | refine cl F122 (q6s m (ops[i].key, ops[i].val) (by omega)) ?_ | refine clF F122 (q6s m (ops[i].key, ops[i].val) (by omega)) (fun _ => by (refine ev3 @qh.eq_1 @qp.eq_1 @xi.eq_1 ?_; try exact True.intro)) ?_
   rw [← ho] at hle ⊢
   generalize eOp m ops[i] = m' at hle hx
   try (refine ev ?_; try exact True.intro)
   refine xt _ (fun h4 => ?_) (fun h4 => ?_)
   ·rw [if_pos (by simp at h4; omega)] at hx
    try (refine ev1 hx.symm ?_; try exact True.intro)
   ·have h4' : m'.length ≤ 400 := by simp at h4; omega
    rw [if_neg (by omega)] at hx
    try (refine ev ?_; try exact True.intro)
    refine ⟨⟨(i + 1, m'), hil, h4', hx⟩, ?_, by dsimp only; omega⟩
    try (refine ev2 @qnn.eq_1 (qi (show i < 9223372036854775807 by omega)) ?_; try exact True.intro)
 ·have hie : i = ops.length := by
   have : ops.length ≤ i := by simpa using hc
   omega
  subst hie
  rw [List.drop_length, kx] at hx
  try (refine ev1 hx.symm ?_; try exact True.intro)
end Go.Proofs.YtinnaedmdoengaaGreat
namespace Go.Proofs.YtinnaedmdoengaaGreat
open Go.Abs
set_option linter.unusedSimpArgs false
set_option linter.unusedVariables false
noncomputable section
set_option maxRecDepth 100000
set_option linter.defProp false
def d19 := cut Tryz.prog Tryz.f19 news
@[go_sem] def E19 := ql d19
def d20 := cut Tryz.prog Tryz.f20 news
@[go_sem] def E20 := ql d20
end
def qec (file : List UInt8) (synced : Int) (m : List En) : List D := [.sl 1 (qd file), .int .i64 synced, .sl 2 (m.map qp)]
theorem qyi (file : List UInt8) (synced : Int) (m : List En) : D.noPtrL (qec file synced m) = true := by simp only [qec, D.noPtrL, D.noPtr, jo, qcd, Bool.and_self]
attribute [go_sem] qyi
noncomputable section
set_option maxRecDepth 100000
set_option linter.defProp false
def d4 := cut Tryz.prog Tryz.f4 news
@[go_sem] def E4 := ql d4
end
end Go.Proofs.YtinnaedmdoengaaGreat
namespace Go.Proofs.YtinnaedmdoengaaGreat
open Go.Abs
set_option linter.unusedSimpArgs false
set_option linter.unusedVariables false
noncomputable section
set_option maxRecDepth 100000
set_option linter.defProp false
def d64 := cut Tryz.prog Tryz.f64 news
@[go_sem] def E64 := ql d64
def d27 := cut Tryz.prog Tryz.f27 news
@[go_sem] def E27 := ql d27
def F27 := fnC d27 follows Tryz.func27
def d28 := cut Tryz.prog Tryz.f28 news
@[go_sem] def E28 := ql d28
def d32 := cut Tryz.prog Tryz.f32 news
@[go_sem] def E32 := ql d32
def F32 := fnC d32 follows Tryz.func32
end
def stR (s : Sto) : List D := qec s.file s.synced (zm s.m)
theorem xdz {α : Type} {f : α → Bool} {l : List α} {i : Nat} (h : i < l.length) (hn : (l.take i).find? f = none) (hf : f l[i] = true) : l.find? f = some l[i] := by
 have e : l = l.take i ++ (l[i] :: l.drop (i + 1)) := by rw [← List.drop_eq_getElem_cons h, List.take_append_drop]
 generalize l[i] = x at *
 rw [e, List.find?_append, hn, List.find?_cons_of_pos hf]; rfl
theorem q6v {α : Type} {f : α → Bool} {l : List α} {i : Nat} (h : i < l.length) (hn : (l.take i).find? f = none) (hf : f l[i] = false) : (l.take (i + 1)).find? f = none := by
 rw [List.take_succ_eq_append_getElem h, List.find?_append, hn, List.find?_cons_of_neg (by simp [hf])]; rfl
def xa6 (f : List UInt8) (y : Int) (m : List En) (k : List UInt8) (i : Nat) : St :=
 ⟨[(1, true, .d (.str k)), (2, true, .d (.ptr 0 0)), (6, true, .d (.int .i64 (i : Nat)))], [.row [.d (.sl 1 (qd f)), .d (.int .i64 y), .d (.sl 2 (m.map qp))]], [], 1⟩
theorem xa7 (f : List UInt8) (y : Int) (m : List En) (k : List UInt8) (hm : m.length ≤ 1000000) :
  qg Tryz.prog 27 [.d (.agg (qec f y m)), .d (.str k)] [] (.tup [.d (.sl 1 (qd (optV (eGet k m)))), .d (.bool (eGet k m).isSome)]) [] := by
 refine F27.goT ?_
 try (refine ev1 @qec.eq_1 ?_; try exact True.intro)
 refine qj (fun i : { i : Nat // i ≤ m.length ∧ (m.take i).find? (fun e => e.1 == k) = none } => xa6 f y m k i.val) (fun i => m.length - i.val) ⟨0, Nat.zero_le _, rfl⟩ ?_ (fun i => ?_)
 ·try (refine ev2 @xa6.eq_1 @Int.ofNat_zero ?_; try exact True.intro)
 obtain ⟨i, hi, hn⟩ := i
 try (refine ev1 @xa6.eq_1 ?_; try exact True.intro)
 refine xt _ (fun hc => ?_) (fun hc => ?_)
 ·have hil : i < m.length := by simpa using hc
  try (refine ev2 (qq qp m hil) @qp.eq_1 ?_; try exact True.intro)
  (repeat (with_reducible refine ob ?_))
  refine xt _ (fun hd => ?_) (fun hd => ?_)
  ·have hg : eGet k m = some m[i].2 := by rw [eGet, xdz hil hn (by simpa using hd)]; rfl
   try (refine ev2 (qq qp m hil) @qp.eq_1 ?_; try exact True.intro)
   (repeat (with_reducible refine ob ?_))
   try (refine ev3 @hg @optV.eq_1 @Option.isSome_some.{0} ?_; try exact True.intro)
  ·try (refine ev ?_; try exact True.intro)
   refine ⟨⟨i + 1, hil, q6v hil hn (by simpa using hd)⟩, ?_, by dsimp only; omega⟩
   try (refine ev2 @xa6.eq_1 (qi (show i < 9223372036854775807 by omega)) ?_; try exact True.intro)
 ·have hie : i = m.length := by
   have : m.length ≤ i := by simpa using hc
   omega
  subst hie
  rw [List.take_length] at hn
  have hg : eGet k m = none := by rw [eGet, hn]; rfl
  try (refine ev4 @hg @optV.eq_1 @Option.isSome_none.{0} @qm ?_; try exact True.intro)
set_option maxRecDepth 10000 in
theorem qyj (s : Sto) (l : List OpS) (hs : s.m.Good) (hl : l.length ≤ 100000) (hv : ∀ o ∈ l, o.val.length ≤ 1000000) (hc : Chain s.file (k9 s.file)) (hf : s.file.length ≤ 100000000) :
  qg Tryz.prog 32 [.d (.agg (stR s)), .d (.sl 3 (l.map qh))] [] (.tup [.d (.agg (stR (xh s l).1)), .d (.int .i64 (xh s l).2)]) [] := by
 obtain ⟨k1, k2⟩ := qdd l hs.ok hs.few
 have hel : (zm s.m).length ≤ 400 := by rw [qcu]; exact hs.few
 refine F32.goT ?_
 try (refine ev2 @stR.eq_1 @qec.eq_1 ?_; try exact True.intro)
 (repeat (with_reducible refine ob ?_)); first | refine cl F73 (qcv l hl) ?_ | refine clF F73 (qcv l hl) (fun _ => by (refine ev3 @qh.eq_1 @qp.eq_1 @xi.eq_1 ?_; try exact True.intro)) ?_
 try (refine ev ?_; try exact True.intro)
 refine xt _ (fun he => ?_) (fun he => ?_)
 ·have h1 : xh s l = (s, (qo l).2) := by rw [xh, if_pos (by simpa using he)]
  try (refine ev1 @h1 ?_; try exact True.intro)
 have he0 : (qo l).2 = 0 := by simpa using he
 try (refine ev ?_; try exact True.intro)
 (repeat (with_reducible refine ob ?_)); first | refine cl F62 (qij (zm s.m) l hel hl hv) ?_ | refine clF F62 (qij (zm s.m) l hel hl hv) (fun _ => by (refine ev3 @qh.eq_1 @qp.eq_1 @xi.eq_1 ?_; try exact True.intro)) ?_
 try (refine ev ?_; try exact True.intro)
 refine xt _ (fun ha => ?_) (fun ha => ?_)
 ·have h1 : xh s l = (s, 28) := by rw [xh, if_neg (by simpa using he0), if_pos (by rw [k1]; simpa using ha)]
  try (refine ev1 @h1 ?_; try exact True.intro)
 have ha1 : (jg s.m l).2 = true := by rw [k1]; simpa using ha
 have h1 : xh s l = (⟨vd s.file (qo l).1, s.synced, (jg s.m l).1⟩, 0) := by rw [xh, if_neg (by simpa using he0), if_neg (by simp [ha1])]
 have h2 := (k2 ha1).1
 try (refine ev ?_; try exact True.intro)
 (repeat (with_reducible refine ob ?_)); first | refine cl F74 (qp0 s.file (qo l).1 s.synced hc hf (ve l)) ?_ | refine clF F74 (qp0 s.file (qo l).1 s.synced hc hf (ve l)) (fun _ => by (refine ev3 @qh.eq_1 @qp.eq_1 @xi.eq_1 ?_; try exact True.intro)) ?_
 try (refine ev3 @h1 @vh.eq_1 @h2 ?_; try exact True.intro)
end Go.Proofs.YtinnaedmdoengaaGreat
