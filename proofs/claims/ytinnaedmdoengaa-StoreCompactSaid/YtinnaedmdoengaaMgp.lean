/- Texts Yf, Yg, Yh, Zg, Zj, Zk, Zl, Zm, Zn, Ws. -/
import Derived.Test.YtinnaedmdoengaaMgo
import Derived.Calls
import Derived.Orders
import Derived.Tactics
import Derived.Laws.AppendOwn
import Derived.Laws.Slices
import Derived.Laws.Closers25
import Derived.Laws.StructEq
import Derived.Laws.BytesString
import Derived.Laws.CopyRow
import Derived.MapKept
import Derived.Maps.RangeRun
import Derived.TacticsIn
import Derived.OrdersIn
import Derived.RangeFuncRecord
import Derived.RangeFuncLeaves
import Derived.IntWalk
import Derived.ProofKit
import Derived.OpenShut
import Derived.Carry
import Derived.Test.YtinnaedmdoengaaProg
import Derived.KernelRfl
import Derived.OwnWalkIn
import Derived.TacticsInMore
import Derived.LoopIn
import Derived.WalkKit
import Derived.Lib.Strings
import Derived.Lib.Slices
import Derived.Lib.Walk
import Derived.Lib.Bytealg
import Derived.Shelf.SlSortCmp.WholeK
import Derived.Shelf.SlSortCmp.NoneTotal

namespace Go.Proofs.Ytinnaedmdoengaa
open Go.Abs
set_option linter.unusedSimpArgs false
set_option linter.unusedVariables false
noncomputable section
set_option maxRecDepth 100000
def s119r0 : List SOper := [
 ⟨some 2, .mov (.k (.d (.int .i64 0))), none⟩]
def s119r1 : List SOper := [
 ⟨some 3, .mov (.k (.d (.int .u64 0))), none⟩,
 ⟨some 4, .mov (.k (.d (.int .u64 1))), none⟩]
def s119r2 : List SOper := [
 ⟨some 7, .mov (.t 0), none⟩,
 ⟨some 8, .nilCheck (.t 7), none⟩,
 ⟨some 9, .faddr 1 (.t 8), none⟩,
 ⟨some 10, .load none (.t 9), none⟩,
 ⟨some 5, .mov (.t 10), none⟩]
def s119r3 : List SOper := [
 ⟨some 11, .mov (.t 5), none⟩,
 ⟨some 12, .mov (.t 0), none⟩,
 ⟨some 13, .nilCheck (.t 12), none⟩,
 ⟨some 14, .faddr 0 (.t 13), none⟩,
 ⟨some 15, .load none (.t 14), none⟩,
 ⟨some 16, .len (.t 15), none⟩,
 ⟨some 17, .bin .lss (.t 11) (.t 16), none⟩,
 ⟨some 18, .mov (.t 17), none⟩,
 ⟨some 19, .mov (.t 5), some (18, true)⟩,
 ⟨some 20, .mov (.t 0), some (18, true)⟩,
 ⟨some 21, .nilCheck (.t 20), some (18, true)⟩,
 ⟨some 22, .faddr 1 (.t 21), some (18, true)⟩,
 ⟨some 23, .load none (.t 22), some (18, true)⟩,
 ⟨some 24, .bin .add (.t 23) (.k (.d (.int .i64 10))), some (18, true)⟩,
 ⟨some 25, .bin .lss (.t 19) (.t 24), some (18, true)⟩,
 ⟨some 26, .pick (.t 18) (.t 25) (.k (.d (.bool false))), none⟩,
 ⟨some 27, .mov (.t 26), none⟩,
 ⟨some 28, .mov (.t 0), some (27, true)⟩,
 ⟨some 29, .nilCheck (.t 28), some (27, true)⟩,
 ⟨some 30, .faddr 2 (.t 29), some (27, true)⟩,
 ⟨some 31, .load none (.t 30), some (27, true)⟩,
 ⟨some 32, .not (.t 31), some (27, true)⟩,
 ⟨some 33, .pick (.t 27) (.t 32) (.k (.d (.bool false))), none⟩]
def s119r4 : List SOper := [
 ⟨some 36, .mov (.t 0), none⟩,
 ⟨some 37, .nilCheck (.t 36), none⟩,
 ⟨some 38, .faddr 0 (.t 37), none⟩,
 ⟨some 39, .load none (.t 38), none⟩,
 ⟨some 40, .mov (.t 5), none⟩,
 ⟨some 41, .iaddr 1 (.t 39) (.t 40), none⟩,
 ⟨some 42, .load none (.t 41), none⟩,
 ⟨some 43, .bin .rem (.t 42) (.k (.d (.int .u8 128))), none⟩,
 ⟨some 44, .conv .u64 (.t 43), none⟩,
 ⟨some 6, .mov (.t 44), none⟩]
def s119r5 : List SOper := [
 ⟨some 45, .mov (.t 5), none⟩,
 ⟨some 46, .mov (.t 0), none⟩,
 ⟨some 47, .nilCheck (.t 46), none⟩,
 ⟨some 48, .faddr 1 (.t 47), none⟩,
 ⟨some 49, .load none (.t 48), none⟩,
 ⟨some 50, .bin .add (.t 49) (.k (.d (.int .i64 9))), none⟩,
 ⟨some 51, .bin .eql (.t 45) (.t 50), none⟩,
 ⟨some 52, .mov (.t 51), none⟩,
 ⟨some 53, .mov (.t 6), some (52, true)⟩,
 ⟨some 54, .bin .gtr (.t 53) (.k (.d (.int .u64 1))), some (52, true)⟩,
 ⟨some 55, .pick (.t 52) (.t 54) (.k (.d (.bool false))), none⟩]
def s119r6 : List SOper := [
 ⟨some 56, .mov (.t 3), none⟩,
 ⟨some 57, .mov (.t 6), none⟩,
 ⟨some 58, .mov (.t 4), none⟩,
 ⟨some 59, .bin .mul (.t 57) (.t 58), none⟩,
 ⟨some 60, .bin .add (.t 56) (.t 59), none⟩,
 ⟨some 3, .mov (.t 60), none⟩]
def s119r7 : List SOper := [
 ⟨some 61, .mov (.t 4), none⟩,
 ⟨some 62, .bin .mul (.t 61) (.k (.d (.int .u64 128))), none⟩,
 ⟨some 4, .mov (.t 62), none⟩]
def s119r8 : List SOper := [
 ⟨some 63, .mov (.t 0), none⟩,
 ⟨some 64, .nilCheck (.t 63), none⟩,
 ⟨some 65, .faddr 0 (.t 64), none⟩,
 ⟨some 66, .load none (.t 65), none⟩,
 ⟨some 67, .mov (.t 5), none⟩,
 ⟨some 68, .iaddr 1 (.t 66) (.t 67), none⟩,
 ⟨some 69, .load none (.t 68), none⟩,
 ⟨some 70, .bin .geq (.t 69) (.k (.d (.int .u8 128))), none⟩]
def s119r9 : List SOper := [
 ⟨some 71, .mov (.t 6), none⟩,
 ⟨some 72, .bin .eql (.t 71) (.k (.d (.int .u64 0))), none⟩,
 ⟨some 73, .mov (.t 72), none⟩,
 ⟨some 74, .mov (.t 5), some (73, true)⟩,
 ⟨some 75, .mov (.t 0), some (73, true)⟩,
 ⟨some 76, .nilCheck (.t 75), some (73, true)⟩,
 ⟨some 77, .faddr 1 (.t 76), some (73, true)⟩,
 ⟨some 78, .load none (.t 77), some (73, true)⟩,
 ⟨some 79, .bin .gtr (.t 74) (.t 78), some (73, true)⟩,
 ⟨some 80, .pick (.t 73) (.t 79) (.k (.d (.bool false))), none⟩]
def s119r10 : List SOper := [
 ⟨some 81, .mov (.t 0), none⟩,
 ⟨some 82, .mov (.t 5), none⟩,
 ⟨some 83, .bin .add (.t 82) (.k (.d (.int .i64 1))), none⟩,
 ⟨some 84, .nilCheck (.t 81), none⟩,
 ⟨some 85, .faddr 1 (.t 84), none⟩,
 ⟨none, .store none (.t 85) (.t 83), none⟩]
def s119r11 : List SOper := [
 ⟨some 86, .mov (.t 3), none⟩,
 ⟨some 87, .bin .rem (.t 86) (.k (.d (.int .u64 2))), none⟩,
 ⟨some 88, .bin .eql (.t 87) (.k (.d (.int .u64 1))), none⟩]
def s119r12 : List SOper := [
 ⟨some 89, .mov (.t 3), none⟩,
 ⟨some 90, .bin .quo (.t 89) (.k (.d (.int .u64 2))), none⟩,
 ⟨some 91, .conv .i64 (.t 90), none⟩,
 ⟨some 92, .neg (.t 91), none⟩,
 ⟨some 93, .bin .sub (.t 92) (.k (.d (.int .i64 1))), none⟩,
 ⟨some 2, .mov (.t 93), none⟩]
def s119r13 : List SOper := [
 ⟨some 94, .mov (.t 3), none⟩,
 ⟨some 95, .bin .quo (.t 94) (.k (.d (.int .u64 2))), none⟩,
 ⟨some 96, .conv .i64 (.t 95), none⟩,
 ⟨some 2, .mov (.t 96), none⟩]
def s119r14 : List SOper := [
 ⟨some 34, .mov (.t 5), none⟩,
 ⟨some 35, .bin .add (.t 34) (.k (.d (.int .i64 1))), none⟩,
 ⟨some 5, .mov (.t 35), none⟩]
def s119l15 : SCode := (.seq (.seq (.region s119r3 0 []) (.cond (.t 33) .skip (.exit 0))) (.seq (.block 1 (.seq (.region s119r4 0 []) (.seq (.seq (.region s119r5 0 []) (.cond (.t 55) (.exit 0) .skip)) (.seq (.region s119r6 0 []) (.seq (.region s119r7 0 []) (.seq (.seq (.region s119r8 0 []) (.cond (.t 70) (.exit 1) .skip)) (.seq (.seq (.region s119r9 0 []) (.cond (.t 80) (.exit 0) .skip)) (.seq (.region s119r10 0 []) (.seq (.seq (.region s119r11 0 []) (.cond (.t 88) (.seq (.region s119r12 0 []) .ret) .skip)) (.seq (.region s119r13 0 []) .ret)))))))))) (.region s119r14 0 [])))
theorem qw0 : CodeIs s119l15.eq_1 := qc s119l15.eq_1
def s119r16 : List SOper := [
 ⟨some 97, .mov (.t 0), none⟩,
 ⟨some 98, .nilCheck (.t 97), none⟩,
 ⟨some 99, .faddr 2 (.t 98), none⟩,
 ⟨none, .store none (.t 99) (.k (.d (.bool true))), none⟩]
def s119r17 : List SOper := [
 ⟨some 2, .mov (.k (.d (.int .i64 0))), none⟩]
def s119 : SCode := (.seq (.region s119r0 0 []) (.seq (.region s119r1 0 []) (.seq (.seq (.region s119r2 0 []) (.block 0 (.loop s119l15))) (.seq (.region s119r16 0 []) (.seq (.region s119r17 0 []) .ret)))))
theorem xg7 : CodeIs s119.eq_1 := qc s119.eq_1
theorem q4i : RegIs s119r0.eq_1 := qa
theorem q4j : RegIs s119r1.eq_1 := qa
theorem q4k : RegIs s119r2.eq_1 := qa
theorem q4l : RegIs s119r3.eq_1 := qa
theorem q4m : RegIs s119r4.eq_1 := qa
theorem q4n : RegIs s119r5.eq_1 := qa
theorem q4o : RegIs s119r6.eq_1 := qa
theorem q4p : RegIs s119r7.eq_1 := qa
theorem q4q : RegIs s119r8.eq_1 := qa
theorem q4r : RegIs s119r9.eq_1 := qa
theorem qw1 : RegIs s119r10.eq_1 := qa
theorem qw2 : RegIs s119r11.eq_1 := qa
theorem qw3 : RegIs s119r12.eq_1 := qa
theorem qw4 : RegIs s119r13.eq_1 := qa
theorem qw5 : RegIs s119r14.eq_1 := qa
theorem qw6 : RegIs s119r16.eq_1 := qa
theorem qw7 : RegIs s119r17.eq_1 := qa
attribute [go_sem] q4i q4j q4k q4l q4m q4n q4o q4p q4q q4r qw1 qw2 qw3 qw4 qw5 qw0 qw6 qw7 xg7
theorem q6h : FnIs Try.prog 119 Try.f119 [] news s119 [.tmp 2] 100 := xg follows Try.func119
end
def SrrInt (b : List UInt8) (pos : Nat) (f : Bool) (i u : Nat) : St :=
 ⟨[(0, true, .d (.ptr 0 0)), (3, true, .d (.int .u64 (u : Nat))), (4, true, .d (.int .u64 (128 ^ (i - pos) % 18446744073709551616 : Nat))), (5, true, .d (.int .i64 (i : Nat)))], [rdO ⟨b, pos, f⟩], [], 1⟩
theorem quf {u d j : Nat} (hu : u < 128 ^ j) (hd : d < 128) (hj : j ≤ 9) (h9 : j = 9 → d ≤ 1) :
  IntKind.u64.wrap ((u : Int) + IntKind.u64.wrap ((d : Int) * ((128 ^ j % 18446744073709551616 : Nat) : Int))) = ((u + d * 128 ^ j : Nat) : Int) ∧ u + d * 128 ^ j < 18446744073709551616 ∧ u + d * 128 ^ j < 128 ^ (j + 1) := by
 have hp : 128 ^ j ≤ 128 ^ 9 := Nat.pow_le_pow_right (by decide) hj
 have hp9 : (128 : Nat) ^ 9 = 9223372036854775808 := by decide
 rw [Nat.mod_eq_of_lt (by omega)]
 have hs : d * 128 ^ j ≤ 9223372036854775808 := by
  rcases Nat.lt_or_ge j 9 with h | h
  ·have := vy (j := j) (by omega)
   rw [Nat.pow_succ] at this
   have : d * 128 ^ j ≤ 127 * 128 ^ j := Nat.mul_le_mul_right _ (by omega)
   omega
  ·have : j = 9 := by omega
   subst this
   have := h9 rfl
   rw [hp9]; omega
 have h3 : d * 128 ^ j ≤ 127 * 128 ^ j := Nat.mul_le_mul_right _ (by omega)
 refine ⟨?_, by omega, by rw [Nat.pow_succ]; omega⟩
 rw [show ((d : Int) * ((128 ^ j : Nat) : Int)) = ((d * 128 ^ j : Nat) : Int) by rw [Int.natCast_mul], f2 _ (by omega), show ((u : Int) + ((d * 128 ^ j : Nat) : Int)) = ((u + d * 128 ^ j : Nat) : Int) by omega, f2 _ (by omega)]
theorem qok (j : Nat) : IntKind.u64.wrap (((128 ^ j % 18446744073709551616 : Nat) : Int) * 128) = ((128 ^ (j + 1) % 18446744073709551616 : Nat) : Int) := by
 rw [yd, Nat.pow_succ]
 generalize 128 ^ j = x
 omega
set_option maxRecDepth 10000 in
theorem qug (r : Rd) (hr : r.Ok) : ACall Try.prog 119 [.d (.ptr 0 0)] [rdO r] (.d (.int .i64 (rIntP r).1)) [rdO (rIntP r).2] := by
 have hrd := qrk r hr
 obtain ⟨hln, hpos⟩ := hr
 obtain ⟨b, pos, f⟩ := r
 simp only at hln hpos hrd
 refine q6h.go ?_
 cases f
 ·simp only [Bool.false_eq_true, if_false] at hrd
  have w9 : IntKind.i64.wrap ((pos : Int) + 9) = ((pos + 9 : Nat) : Int) := by rw [qu (by unfold I64; omega)]; omega
  have w10 : IntKind.i64.wrap ((pos : Int) + 10) = ((pos + 10 : Nat) : Int) := by rw [qu (by unfold I64; omega)]; omega
  try simp only [rdO, go_sem, Nat.reduceAdd, Nat.reduceMul, Nat.reduceSub, Nat.reduceEqDiff, Nat.reduceLT, Nat.reduceLeDiff, Nat.reduceBEq, reduceIte, reduceCtorEq, Int.reduceAdd, Int.reduceLT, Int.reduceLE, Int.reduceGT, Int.reduceGE, Int.reduceEq, Int.reduceNe, Int.reduceBEq, Int.reduceBNe, Int.reduceToNat, Int.reduceNeg]
  refine ql (fun x : { x : Nat × Nat // pos ≤ x.1 ∧ x.1 ≤ pos + 10 ∧ x.1 ≤ b.length ∧ x.2 < 128 ^ (x.1 - pos) ∧ dG (10 - (x.1 - pos)) (x.1 - pos) x.2 (b.drop x.1) = dInt (b.drop pos) } => SrrInt b pos false x.val.1 x.val.2) (fun x => pos + 10 - x.val.1)
   ⟨(pos, 0), Nat.le_refl _, by simp, hpos, by simp, by simp only [Nat.sub_self]; rfl⟩ ?_ (fun x => ?_)
  ·have e1 : 128 ^ (pos - pos) % 18446744073709551616 = 1 := by rw [Nat.sub_self]
   try simp only [SrrInt, e1, rdO, Int.ofNat_zero, go_sem, Nat.reduceAdd, Nat.reduceMul, Nat.reduceSub, Nat.reduceEqDiff, Nat.reduceLT, Nat.reduceLeDiff, Nat.reduceBEq, reduceIte, reduceCtorEq, Int.reduceAdd, Int.reduceLT, Int.reduceLE, Int.reduceGT, Int.reduceGE, Int.reduceEq, Int.reduceNe, Int.reduceBEq, Int.reduceBNe, Int.reduceToNat, Int.reduceNeg]
  obtain ⟨⟨i, u⟩, h1, h2, h3, h4, h5⟩ := x
  simp only at h1 h2 h3 h4 h5
  have hnone : dInt (b.drop pos) = none → rIntP ⟨b, pos, false⟩ = (0, ⟨b, pos, true⟩) := fun h => by rw [hrd, h]
  try simp only [SrrInt, rdO, w10, go_sem, Nat.reduceAdd, Nat.reduceMul, Nat.reduceSub, Nat.reduceEqDiff, Nat.reduceLT, Nat.reduceLeDiff, Nat.reduceBEq, reduceIte, reduceCtorEq, Int.reduceAdd, Int.reduceLT, Int.reduceLE, Int.reduceGT, Int.reduceGE, Int.reduceEq, Int.reduceNe, Int.reduceBEq, Int.reduceBNe, Int.reduceToNat, Int.reduceNeg]
  refine xt _ (fun hc => ?_) (fun hc => ?_)
  ·simp only [Bool.and_eq_true, decide_eq_true_eq] at hc
   have hil : i < b.length := by omega
   have hi10 : i < pos + 10 := by omega
   rw [List.drop_eq_getElem_cons hil, show 10 - (i - pos) = (10 - (i + 1 - pos)) + 1 by omega, dG] at h5
   have hlt := kc b[i]
   have hd : IntKind.u64.wrap (((b[i].toNat : Nat) : Int).tmod 128) = ((b[i].toNat % 128 : Nat) : Int) := by
    rw [Int.tmod_eq_emod_of_nonneg (by omega), show ((b[i].toNat : Nat) : Int) % 128 = ((b[i].toNat % 128 : Nat) : Int) by omega, f2 _ (by omega)]
   try simp only [qq b hil, hd, w9, go_sem, Nat.reduceAdd, Nat.reduceMul, Nat.reduceSub, Nat.reduceEqDiff, Nat.reduceLT, Nat.reduceLeDiff, Nat.reduceBEq, reduceIte, reduceCtorEq, Int.reduceAdd, Int.reduceLT, Int.reduceLE, Int.reduceGT, Int.reduceGE, Int.reduceEq, Int.reduceNe, Int.reduceBEq, Int.reduceBNe, Int.reduceToNat, Int.reduceNeg]
   refine ⟨by omega, ?_⟩
   refine xt _ (fun hb => ?_) (fun hb => ?_)
   ·have hx : dInt (b.drop pos) = none := by
     simp at hb
     rw [← h5]
     by_cases hc : b[i].toNat < 128
     ·rw [if_pos hc, if_pos]
      simp; omega
     ·rw [if_neg hc, show 10 - (i + 1 - pos) = 0 by omega]; rfl
    try simp only [hnone hx, go_sem, Nat.reduceAdd, Nat.reduceMul, Nat.reduceSub, Nat.reduceEqDiff, Nat.reduceLT, Nat.reduceLeDiff, Nat.reduceBEq, reduceIte, reduceCtorEq, Int.reduceAdd, Int.reduceLT, Int.reduceLE, Int.reduceGT, Int.reduceGE, Int.reduceEq, Int.reduceNe, Int.reduceBEq, Int.reduceBNe, Int.reduceToNat, Int.reduceNeg]
   ·have hb2 : i - pos = 9 → b[i].toNat % 128 ≤ 1 := by
     intro h9
     simp at hb
     have := hb (by omega)
     omega
    obtain ⟨s1, s2, s3⟩ := quf h4 (Nat.mod_lt b[i].toNat (show 128 > 0 by decide)) (show i - pos ≤ 9 by omega) hb2
    have s4 := qok (i - pos)
    try simp only [s1, s4, qq b hil, go_sem, Nat.reduceAdd, Nat.reduceMul, Nat.reduceSub, Nat.reduceEqDiff, Nat.reduceLT, Nat.reduceLeDiff, Nat.reduceBEq, reduceIte, reduceCtorEq, Int.reduceAdd, Int.reduceLT, Int.reduceLE, Int.reduceGT, Int.reduceGE, Int.reduceEq, Int.reduceNe, Int.reduceBEq, Int.reduceBNe, Int.reduceToNat, Int.reduceNeg]
    (repeat (with_reducible refine ob ?_))
    refine xt _ (fun hc => ?_) (fun hc => ?_)
    ·have hc2 : ¬ b[i].toNat < 128 := by simp at hc; omega
     rw [if_neg hc2] at h5
     try (refine ev ?_; try exact True.intro)
     have hj : i + 1 - pos = i - pos + 1 := by omega
     refine ⟨⟨(i + 1, u + b[i].toNat % 128 * 128 ^ (i - pos)), by simp only; omega, by simp only; omega, by simp only; omega, by simp only [hj]; exact s3, by simp only [hj] at h5 ⊢; exact h5⟩, ?_, by simp only; omega⟩
     try simp only [SrrInt, rdO, hj, qk (show i < 9223372036854775807 by omega), go_sem, Nat.reduceAdd, Nat.reduceMul, Nat.reduceSub, Nat.reduceEqDiff, Nat.reduceLT, Nat.reduceLeDiff, Nat.reduceBEq, reduceIte, reduceCtorEq, Int.reduceAdd, Int.reduceLT, Int.reduceLE, Int.reduceGT, Int.reduceGE, Int.reduceEq, Int.reduceNe, Int.reduceBEq, Int.reduceBNe, Int.reduceToNat, Int.reduceNeg]
    ·have hc2 : b[i].toNat < 128 := by simp at hc; omega
     rw [if_pos hc2] at h5
     have hm : b[i].toNat % 128 = b[i].toNat := Nat.mod_eq_of_lt hc2
     rw [hm] at s1 s2 s3 hb2 hb
     try simp only [hm, go_sem, Nat.reduceAdd, Nat.reduceMul, Nat.reduceSub, Nat.reduceEqDiff, Nat.reduceLT, Nat.reduceLeDiff, Nat.reduceBEq, reduceIte, reduceCtorEq, Int.reduceAdd, Int.reduceLT, Int.reduceLE, Int.reduceGT, Int.reduceGE, Int.reduceEq, Int.reduceNe, Int.reduceBEq, Int.reduceBNe, Int.reduceToNat, Int.reduceNeg]
     refine xt _ (fun hz => ?_) (fun hz => ?_)
     ·have hx : dInt (b.drop pos) = none := by
       rw [← h5, if_pos]
       simp at hz ⊢; omega
      try simp only [hnone hx, go_sem, Nat.reduceAdd, Nat.reduceMul, Nat.reduceSub, Nat.reduceEqDiff, Nat.reduceLT, Nat.reduceLeDiff, Nat.reduceBEq, reduceIte, reduceCtorEq, Int.reduceAdd, Int.reduceLT, Int.reduceLE, Int.reduceGT, Int.reduceGE, Int.reduceEq, Int.reduceNe, Int.reduceBEq, Int.reduceBNe, Int.reduceToNat, Int.reduceNeg]
     ·have hx : rIntP ⟨b, pos, false⟩ = (unz (u + b[i].toNat * 128 ^ (i - pos)), ⟨b, i + 1, false⟩) := by
       rw [hrd, ← h5, if_neg (by simp at hz hb ⊢; omega)]
       simp only [List.length_drop]
       rw [show b.length - (b.length - (i + 1)) = i + 1 by omega]
      generalize hU : u + b[i].toNat * 128 ^ (i - pos) = u' at s2 hx ⊢
      have hU2 : (u : Int) + ((b[i].toNat * 128 ^ (i - pos) : Nat) : Int) = ((u' : Nat) : Int) := by rw [← hU, Int.natCast_add]
      have q2 : (u' : Int).tmod 2 = ((u' % 2 : Nat) : Int) := by rw [Int.tmod_eq_emod_of_nonneg (by omega)]; omega
      have q3 : IntKind.u64.wrap ((u' : Int).tdiv 2) = ((u' / 2 : Nat) : Int) := by rw [Int.tdiv_eq_ediv_of_nonneg (by omega), show ((u' : Int) / 2) = ((u' / 2 : Nat) : Int) by omega, f2 _ (by omega)]
      have q4 : IntKind.i64.wrap ((u' / 2 : Nat) : Int) = ((u' / 2 : Nat) : Int) := qu (by unfold I64; omega)
      try simp only [hU2, hx, qk (show i < 9223372036854775807 by omega), go_sem, Nat.reduceAdd, Nat.reduceMul, Nat.reduceSub, Nat.reduceEqDiff, Nat.reduceLT, Nat.reduceLeDiff, Nat.reduceBEq, reduceIte, reduceCtorEq, Int.reduceAdd, Int.reduceLT, Int.reduceLE, Int.reduceGT, Int.reduceGE, Int.reduceEq, Int.reduceNe, Int.reduceBEq, Int.reduceBNe, Int.reduceToNat, Int.reduceNeg]
      try simp only [q2, hx, go_sem, Nat.reduceAdd, Nat.reduceMul, Nat.reduceSub, Nat.reduceEqDiff, Nat.reduceLT, Nat.reduceLeDiff, Nat.reduceBEq, reduceIte, reduceCtorEq, Int.reduceAdd, Int.reduceLT, Int.reduceLE, Int.reduceGT, Int.reduceGE, Int.reduceEq, Int.reduceNe, Int.reduceBEq, Int.reduceBNe, Int.reduceToNat, Int.reduceNeg]
      rcases Nat.mod_two_eq_zero_or_one u' with hp | hp
      ·have q5 : unz u' = ((u' / 2 : Nat) : Int) := by unfold unz; rw [if_pos hp]
       have q6 : ((((u' % 2 : Nat) : Int)) == 1) = false := by rw [hp]; rfl
       try simp only [q6, go_sem, Nat.reduceAdd, Nat.reduceMul, Nat.reduceSub, Nat.reduceEqDiff, Nat.reduceLT, Nat.reduceLeDiff, Nat.reduceBEq, reduceIte, reduceCtorEq, Int.reduceAdd, Int.reduceLT, Int.reduceLE, Int.reduceGT, Int.reduceGE, Int.reduceEq, Int.reduceNe, Int.reduceBEq, Int.reduceBNe, Int.reduceToNat, Int.reduceNeg]
       (repeat (with_reducible refine ob ?_)); refine no_ ?_
       try simp only [hU2, q3, q4, q5, go_sem, Nat.reduceAdd, Nat.reduceMul, Nat.reduceSub, Nat.reduceEqDiff, Nat.reduceLT, Nat.reduceLeDiff, Nat.reduceBEq, reduceIte, reduceCtorEq, Int.reduceAdd, Int.reduceLT, Int.reduceLE, Int.reduceGT, Int.reduceGE, Int.reduceEq, Int.reduceNe, Int.reduceBEq, Int.reduceBNe, Int.reduceToNat, Int.reduceNeg]
      ·have q5 : unz u' = IntKind.i64.wrap (IntKind.i64.wrap (0 - ((u' / 2 : Nat) : Int)) - 1) := by
        unfold unz; rw [if_neg (by omega), qu (n := 0 - ((u' / 2 : Nat) : Int)) (by unfold I64; omega), qu (by unfold I64; omega)]; omega
       have q6 : ((((u' % 2 : Nat) : Int)) == 1) = true := by rw [hp]; rfl
       try simp only [q6, go_sem, Nat.reduceAdd, Nat.reduceMul, Nat.reduceSub, Nat.reduceEqDiff, Nat.reduceLT, Nat.reduceLeDiff, Nat.reduceBEq, reduceIte, reduceCtorEq, Int.reduceAdd, Int.reduceLT, Int.reduceLE, Int.reduceGT, Int.reduceGE, Int.reduceEq, Int.reduceNe, Int.reduceBEq, Int.reduceBNe, Int.reduceToNat, Int.reduceNeg]
       (repeat (with_reducible refine ob ?_)); refine y8 ?_
       try simp only [hU2, q3, q4, q5, go_sem, Nat.reduceAdd, Nat.reduceMul, Nat.reduceSub, Nat.reduceEqDiff, Nat.reduceLT, Nat.reduceLeDiff, Nat.reduceBEq, reduceIte, reduceCtorEq, Int.reduceAdd, Int.reduceLT, Int.reduceLE, Int.reduceGT, Int.reduceGE, Int.reduceEq, Int.reduceNe, Int.reduceBEq, Int.reduceBNe, Int.reduceToNat, Int.reduceNeg]
  ·have hx : dInt (b.drop pos) = none := by
    rw [← h5]
    simp only [Bool.and_eq_false_iff, decide_eq_false_iff_not] at hc
    rcases Nat.lt_or_ge i (pos + 10) with hi | hi
    ·rw [List.drop_of_length_le (by omega), show 10 - (i - pos) = (9 - (i - pos)) + 1 by omega]; rfl
    ·rw [show 10 - (i - pos) = 0 by omega]; rfl
   try simp only [hnone hx, go_sem, Nat.reduceAdd, Nat.reduceMul, Nat.reduceSub, Nat.reduceEqDiff, Nat.reduceLT, Nat.reduceLeDiff, Nat.reduceBEq, reduceIte, reduceCtorEq, Int.reduceAdd, Int.reduceLT, Int.reduceLE, Int.reduceGT, Int.reduceGE, Int.reduceEq, Int.reduceNe, Int.reduceBEq, Int.reduceBNe, Int.reduceToNat, Int.reduceNeg]
 ·simp only [if_true] at hrd
  try simp only [rdO, hrd, go_sem, Nat.reduceAdd, Nat.reduceMul, Nat.reduceSub, Nat.reduceEqDiff, Nat.reduceLT, Nat.reduceLeDiff, Nat.reduceBEq, reduceIte, reduceCtorEq, Int.reduceAdd, Int.reduceLT, Int.reduceLE, Int.reduceGT, Int.reduceGE, Int.reduceEq, Int.reduceNe, Int.reduceBEq, Int.reduceBNe, Int.reduceToNat, Int.reduceNeg]
  refine ql (fun x : Unit => SrrInt b pos true pos 0) (fun x => 0) () ?_ (fun x => ?_)
  ·have e1 : 128 ^ (pos - pos) % 18446744073709551616 = 1 := by rw [Nat.sub_self]
   try simp only [SrrInt, e1, rdO, Int.ofNat_zero, go_sem, Nat.reduceAdd, Nat.reduceMul, Nat.reduceSub, Nat.reduceEqDiff, Nat.reduceLT, Nat.reduceLeDiff, Nat.reduceBEq, reduceIte, reduceCtorEq, Int.reduceAdd, Int.reduceLT, Int.reduceLE, Int.reduceGT, Int.reduceGE, Int.reduceEq, Int.reduceNe, Int.reduceBEq, Int.reduceBNe, Int.reduceToNat, Int.reduceNeg]
  try simp only [SrrInt, rdO, go_sem, Nat.reduceAdd, Nat.reduceMul, Nat.reduceSub, Nat.reduceEqDiff, Nat.reduceLT, Nat.reduceLeDiff, Nat.reduceBEq, reduceIte, reduceCtorEq, Int.reduceAdd, Int.reduceLT, Int.reduceLE, Int.reduceGT, Int.reduceGE, Int.reduceEq, Int.reduceNe, Int.reduceBEq, Int.reduceBNe, Int.reduceToNat, Int.reduceNeg]
  (repeat (with_reducible refine ob ?_)); refine no_ ?_
  try (refine ev ?_; try exact True.intro)
end Go.Proofs.Ytinnaedmdoengaa
namespace Go.Proofs.Ytinnaedmdoengaa
open Go.Abs
set_option linter.unusedSimpArgs false
set_option linter.unusedVariables false
noncomputable section
set_option maxRecDepth 100000
def s120r0 : List SOper := [
 ⟨some 4, .mov (.t 0), none⟩,
 ⟨some 5, .mov (.t 0), none⟩,
 ⟨some 6, .mov (.t 1), none⟩,
 ⟨some 7, .nilCheck (.t 4), none⟩,
 ⟨some 8, .faddr 1 (.t 7), none⟩,
 ⟨none, .store none (.t 8) (.t 6), none⟩,
 ⟨some 9, .nilCheck (.t 5), none⟩,
 ⟨some 10, .faddr 2 (.t 9), none⟩,
 ⟨none, .store none (.t 10) (.k (.d (.bool true))), none⟩]
def s120 : SCode := (.region s120r0 0 [])
theorem xg8 : CodeIs s120.eq_1 := qc s120.eq_1
theorem q4s : RegIs s120r0.eq_1 := qa
attribute [go_sem] q4s xg8
theorem q4t : FnIs Try.prog 120 Try.f120 [] news s120 [] 11 := xg follows Try.func120
def s85r0 : List SOper := [
 ⟨some 6, .mov (.k (.d (.int .i64 0))), none⟩]
def s85r1 : List SOper := [
 ⟨some 9, .mov (.t 0), none⟩,
 ⟨some 10, .nilCheck (.t 9), none⟩,
 ⟨some 11, .faddr 1 (.t 10), none⟩,
 ⟨some 12, .load none (.t 11), none⟩,
 ⟨some 7, .mov (.t 12), none⟩]
def s85r2 : List SOper := [
 ⟨some 13, .mov (.t 0), none⟩,
 ⟨some 14, .call (.k (.d (.func (.func 119) [] []))) [(.t 13)], none⟩,
 ⟨some 8, .mov (.t 14), none⟩]
def s85r3 : List SOper := [
 ⟨some 15, .mov (.t 0), none⟩,
 ⟨some 16, .nilCheck (.t 15), none⟩,
 ⟨some 17, .faddr 2 (.t 16), none⟩,
 ⟨some 18, .load none (.t 17), none⟩]
def s85r4 : List SOper := [
 ⟨some 6, .mov (.k (.d (.int .i64 0))), none⟩]
def s85r5 : List SOper := [
 ⟨some 19, .mov (.t 8), none⟩,
 ⟨some 20, .mov (.t 1), none⟩,
 ⟨some 21, .bin .lss (.t 19) (.t 20), none⟩,
 ⟨some 22, .mov (.t 21), none⟩,
 ⟨some 23, .mov (.t 8), some (22, false)⟩,
 ⟨some 24, .mov (.t 2), some (22, false)⟩,
 ⟨some 25, .bin .gtr (.t 23) (.t 24), some (22, false)⟩,
 ⟨some 26, .pick (.t 22) (.k (.d (.bool true))) (.t 25), none⟩]
def s85r6 : List SOper := [
 ⟨some 27, .mov (.t 0), none⟩,
 ⟨some 28, .mov (.t 7), none⟩,
 ⟨some 29, .call (.k (.d (.func (.func 120) [] []))) [(.t 27), (.t 28)], none⟩]
def s85r7 : List SOper := [
 ⟨some 6, .mov (.k (.d (.int .i64 0))), none⟩]
def s85r8 : List SOper := [
 ⟨some 30, .mov (.t 8), none⟩,
 ⟨some 6, .mov (.t 30), none⟩]
def s85 : SCode := (.seq (.region s85r0 0 []) (.seq (.region s85r1 0 []) (.seq (.region s85r2 0 []) (.seq (.seq (.region s85r3 0 []) (.cond (.t 18) (.seq (.region s85r4 0 []) .ret) .skip)) (.seq (.seq (.region s85r5 0 []) (.cond (.t 26) (.seq (.region s85r6 0 []) (.seq (.region s85r7 0 []) .ret)) .skip)) (.seq (.region s85r8 0 []) .ret))))))
theorem e85 : CodeIs s85.eq_1 := qc s85.eq_1
theorem xc8 : RegIs s85r0.eq_1 := qa
theorem xc9 : RegIs s85r1.eq_1 := qa
theorem xda : RegIs s85r2.eq_1 := qa
theorem xdb : RegIs s85r3.eq_1 := qa
theorem xdc : RegIs s85r4.eq_1 := qa
theorem xdd : RegIs s85r5.eq_1 := qa
theorem xde : RegIs s85r6.eq_1 := qa
theorem xdf : RegIs s85r7.eq_1 := qa
theorem xdg : RegIs s85r8.eq_1 := qa
attribute [go_sem] xc8 xc9 xda xdb xdc xdd xde xdf xdg e85
theorem F85 : FnIs Try.prog 85 Try.f85 [] news s85 [.tmp 6] 31 := xg follows Try.func85
def s87r0 : List SOper := [
 ⟨some 2, .mov (.k (.d (.bool false))), none⟩]
def s87r1 : List SOper := [
 ⟨some 3, .mov (.t 0), none⟩,
 ⟨some 4, .nilCheck (.t 3), none⟩,
 ⟨some 5, .faddr 2 (.t 4), none⟩,
 ⟨some 6, .load none (.t 5), none⟩,
 ⟨some 7, .mov (.t 6), none⟩,
 ⟨some 8, .mov (.t 0), some (7, false)⟩,
 ⟨some 9, .nilCheck (.t 8), some (7, false)⟩,
 ⟨some 10, .faddr 1 (.t 9), some (7, false)⟩,
 ⟨some 11, .load none (.t 10), some (7, false)⟩,
 ⟨some 12, .mov (.t 0), some (7, false)⟩,
 ⟨some 13, .nilCheck (.t 12), some (7, false)⟩,
 ⟨some 14, .faddr 0 (.t 13), some (7, false)⟩,
 ⟨some 15, .load none (.t 14), some (7, false)⟩,
 ⟨some 16, .len (.t 15), some (7, false)⟩,
 ⟨some 17, .bin .geq (.t 11) (.t 16), some (7, false)⟩,
 ⟨some 18, .pick (.t 7) (.k (.d (.bool true))) (.t 17), none⟩,
 ⟨some 19, .mov (.t 18), none⟩,
 ⟨some 20, .mov (.t 0), some (19, false)⟩,
 ⟨some 21, .nilCheck (.t 20), some (19, false)⟩,
 ⟨some 22, .faddr 0 (.t 21), some (19, false)⟩,
 ⟨some 23, .load none (.t 22), some (19, false)⟩,
 ⟨some 24, .mov (.t 0), some (19, false)⟩,
 ⟨some 25, .nilCheck (.t 24), some (19, false)⟩,
 ⟨some 26, .faddr 1 (.t 25), some (19, false)⟩,
 ⟨some 27, .load none (.t 26), some (19, false)⟩,
 ⟨some 28, .iaddr 1 (.t 23) (.t 27), some (19, false)⟩,
 ⟨some 29, .load none (.t 28), some (19, false)⟩,
 ⟨some 30, .bin .gtr (.t 29) (.k (.d (.int .u8 1))), some (19, false)⟩,
 ⟨some 31, .pick (.t 19) (.k (.d (.bool true))) (.t 30), none⟩]
def s87r2 : List SOper := [
 ⟨some 32, .mov (.t 0), none⟩,
 ⟨some 33, .nilCheck (.t 32), none⟩,
 ⟨some 34, .faddr 2 (.t 33), none⟩,
 ⟨none, .store none (.t 34) (.k (.d (.bool true))), none⟩]
def s87r3 : List SOper := [
 ⟨some 2, .mov (.k (.d (.bool false))), none⟩]
def s87r4 : List SOper := [
 ⟨some 35, .mov (.t 0), none⟩,
 ⟨some 36, .nilCheck (.t 35), none⟩,
 ⟨some 37, .faddr 1 (.t 36), none⟩,
 ⟨some 38, .load none (.t 37), none⟩,
 ⟨some 39, .bin .add (.t 38) (.k (.d (.int .i64 1))), none⟩,
 ⟨some 40, .nilCheck (.t 35), none⟩,
 ⟨some 41, .faddr 1 (.t 40), none⟩,
 ⟨none, .store none (.t 41) (.t 39), none⟩]
def s87r5 : List SOper := [
 ⟨some 42, .mov (.t 0), none⟩,
 ⟨some 43, .nilCheck (.t 42), none⟩,
 ⟨some 44, .faddr 0 (.t 43), none⟩,
 ⟨some 45, .load none (.t 44), none⟩,
 ⟨some 46, .mov (.t 0), none⟩,
 ⟨some 47, .nilCheck (.t 46), none⟩,
 ⟨some 48, .faddr 1 (.t 47), none⟩,
 ⟨some 49, .load none (.t 48), none⟩,
 ⟨some 50, .bin .sub (.t 49) (.k (.d (.int .i64 1))), none⟩,
 ⟨some 51, .iaddr 1 (.t 45) (.t 50), none⟩,
 ⟨some 52, .load none (.t 51), none⟩,
 ⟨some 53, .bin .eql (.t 52) (.k (.d (.int .u8 1))), none⟩,
 ⟨some 2, .mov (.t 53), none⟩]
def s87 : SCode := (.seq (.region s87r0 0 []) (.seq (.seq (.region s87r1 0 []) (.cond (.t 31) (.seq (.region s87r2 0 []) (.seq (.region s87r3 0 []) .ret)) .skip)) (.seq (.region s87r4 0 []) (.seq (.region s87r5 0 []) .ret))))
theorem e87 : CodeIs s87.eq_1 := qc s87.eq_1
theorem xdh : RegIs s87r0.eq_1 := qa
theorem xdi : RegIs s87r1.eq_1 := qa
theorem xdj : RegIs s87r2.eq_1 := qa
theorem xdk : RegIs s87r3.eq_1 := qa
theorem xdl : RegIs s87r4.eq_1 := qa
theorem xdm : RegIs s87r5.eq_1 := qa
attribute [go_sem] xdh xdi xdj xdk xdl xdm e87
theorem F87 : FnIs Try.prog 87 Try.f87 [] news s87 [.tmp 2] 54 := xg follows Try.func87
def s88r0 : List SOper := [
 ⟨some 4, .mov (.k (.d .nilsl)), none⟩]
def s88r1 : List SOper := [
 ⟨some 7, .mov (.t 0), none⟩,
 ⟨some 8, .nilCheck (.t 7), none⟩,
 ⟨some 9, .faddr 1 (.t 8), none⟩,
 ⟨some 10, .load none (.t 9), none⟩,
 ⟨some 5, .mov (.t 10), none⟩]
def s88r2 : List SOper := [
 ⟨some 11, .mov (.t 0), none⟩,
 ⟨some 12, .mov (.t 1), none⟩,
 ⟨some 13, .call (.k (.d (.func (.func 85) [] []))) [(.t 11), (.k (.d (.int .i64 0))), (.t 12)], none⟩,
 ⟨some 6, .mov (.t 13), none⟩]
def s88r3 : List SOper := [
 ⟨some 14, .mov (.t 0), none⟩,
 ⟨some 15, .nilCheck (.t 14), none⟩,
 ⟨some 16, .faddr 2 (.t 15), none⟩,
 ⟨some 17, .load none (.t 16), none⟩,
 ⟨some 18, .mov (.t 17), none⟩,
 ⟨some 19, .mov (.t 6), some (18, false)⟩,
 ⟨some 20, .mov (.t 0), some (18, false)⟩,
 ⟨some 21, .nilCheck (.t 20), some (18, false)⟩,
 ⟨some 22, .faddr 0 (.t 21), some (18, false)⟩,
 ⟨some 23, .load none (.t 22), some (18, false)⟩,
 ⟨some 24, .len (.t 23), some (18, false)⟩,
 ⟨some 25, .mov (.t 0), some (18, false)⟩,
 ⟨some 26, .nilCheck (.t 25), some (18, false)⟩,
 ⟨some 27, .faddr 1 (.t 26), some (18, false)⟩,
 ⟨some 28, .load none (.t 27), some (18, false)⟩,
 ⟨some 29, .bin .sub (.t 24) (.t 28), some (18, false)⟩,
 ⟨some 30, .bin .gtr (.t 19) (.t 29), some (18, false)⟩,
 ⟨some 31, .pick (.t 18) (.k (.d (.bool true))) (.t 30), none⟩]
def s88r4 : List SOper := [
 ⟨some 32, .mov (.t 0), none⟩,
 ⟨some 33, .mov (.t 5), none⟩,
 ⟨some 34, .call (.k (.d (.func (.func 120) [] []))) [(.t 32), (.t 33)], none⟩]
def s88r5 : List SOper := [
 ⟨some 4, .mov (.k (.d .nilsl)), none⟩]
def s88r6 : List SOper := [
 ⟨some 35, .mov (.t 0), none⟩,
 ⟨some 36, .nilCheck (.t 35), none⟩,
 ⟨some 37, .faddr 1 (.t 36), none⟩,
 ⟨some 38, .load none (.t 37), none⟩,
 ⟨some 39, .mov (.t 6), none⟩,
 ⟨some 40, .bin .add (.t 38) (.t 39), none⟩,
 ⟨some 41, .nilCheck (.t 35), none⟩,
 ⟨some 42, .faddr 1 (.t 41), none⟩,
 ⟨none, .store none (.t 42) (.t 40), none⟩]
def s88r7 : List SOper := [
 ⟨some 43, .buildSlice false 1 0 [(.int .u8 0)] [], none⟩,
 ⟨some 44, .mov (.t 0), none⟩,
 ⟨some 45, .nilCheck (.t 44), none⟩,
 ⟨some 46, .faddr 0 (.t 45), none⟩,
 ⟨some 47, .load none (.t 46), none⟩,
 ⟨some 48, .mov (.t 0), none⟩,
 ⟨some 49, .nilCheck (.t 48), none⟩,
 ⟨some 50, .faddr 1 (.t 49), none⟩,
 ⟨some 51, .load none (.t 50), none⟩,
 ⟨some 52, .mov (.t 6), none⟩,
 ⟨some 53, .bin .sub (.t 51) (.t 52), none⟩,
 ⟨some 54, .mov (.t 0), none⟩,
 ⟨some 55, .nilCheck (.t 54), none⟩,
 ⟨some 56, .faddr 1 (.t 55), none⟩,
 ⟨some 57, .load none (.t 56), none⟩,
 ⟨some 58, .slice 1 (.t 47) (some (.t 53)) (some (.t 57)) none, none⟩,
 ⟨some 59, .append false 1 1 (.t 43) (.t 58), none⟩,
 ⟨some 4, .mov (.t 59), none⟩]
def s88 : SCode := (.seq (.region s88r0 0 []) (.seq (.region s88r1 0 []) (.seq (.region s88r2 0 []) (.seq (.seq (.region s88r3 0 []) (.cond (.t 31) (.seq (.region s88r4 0 []) (.seq (.region s88r5 0 []) .ret)) .skip)) (.seq (.region s88r6 0 []) (.seq (.region s88r7 0 []) .ret))))))
theorem e88 : CodeIs s88.eq_1 := qc s88.eq_1
theorem xdn : RegIs s88r0.eq_1 := qa
theorem xdo : RegIs s88r1.eq_1 := qa
theorem xdp : RegIs s88r2.eq_1 := qa
theorem xdq : RegIs s88r3.eq_1 := qa
theorem xdr : RegIs s88r4.eq_1 := qa
theorem xds : RegIs s88r5.eq_1 := qa
theorem xdt : RegIs s88r6.eq_1 := qa
theorem xdu : RegIs s88r7.eq_1 := qa
attribute [go_sem] xdn xdo xdp xdq xdr xds xdt xdu e88
theorem F88 : FnIs Try.prog 88 Try.f88 [] news s88 [.tmp 4] 60 := xg follows Try.func88
def s86r0 : List SOper := [
 ⟨some 4, .mov (.k (.d (.str []))), none⟩]
def s86r1 : List SOper := [
 ⟨some 5, .mov (.t 0), none⟩,
 ⟨some 6, .mov (.t 1), none⟩,
 ⟨some 7, .call (.k (.d (.func (.func 88) [] []))) [(.t 5), (.t 6)], none⟩,
 ⟨some 8, .b2s (.t 7), none⟩,
 ⟨some 4, .mov (.t 8), none⟩]
def s86 : SCode := (.seq (.region s86r0 0 []) (.seq (.region s86r1 0 []) .ret))
theorem e86 : CodeIs s86.eq_1 := qc s86.eq_1
theorem xdv : RegIs s86r0.eq_1 := qa
theorem xdw : RegIs s86r1.eq_1 := qa
attribute [go_sem] xdv xdw e86
theorem F86 : FnIs Try.prog 86 Try.f86 [] news s86 [.tmp 4] 9 := xg follows Try.func86
def s89r0 : List SOper := [
 ⟨some 2, .mov (.k (.d (.int .i64 0))), none⟩]
def s89r1 : List SOper := [
 ⟨some 3, .mov (.t 0), none⟩,
 ⟨some 4, .nilCheck (.t 3), none⟩,
 ⟨some 5, .faddr 2 (.t 4), none⟩,
 ⟨some 6, .load none (.t 5), none⟩,
 ⟨some 7, .mov (.t 6), none⟩,
 ⟨some 8, .mov (.t 0), some (7, false)⟩,
 ⟨some 9, .nilCheck (.t 8), some (7, false)⟩,
 ⟨some 10, .faddr 1 (.t 9), some (7, false)⟩,
 ⟨some 11, .load none (.t 10), some (7, false)⟩,
 ⟨some 12, .mov (.t 0), some (7, false)⟩,
 ⟨some 13, .nilCheck (.t 12), some (7, false)⟩,
 ⟨some 14, .faddr 0 (.t 13), some (7, false)⟩,
 ⟨some 15, .load none (.t 14), some (7, false)⟩,
 ⟨some 16, .len (.t 15), some (7, false)⟩,
 ⟨some 17, .bin .neq (.t 11) (.t 16), some (7, false)⟩,
 ⟨some 18, .pick (.t 7) (.k (.d (.bool true))) (.t 17), none⟩]
def s89r2 : List SOper := [
 ⟨some 2, .mov (.k (.d (.int .i64 4))), none⟩]
def s89r3 : List SOper := [
 ⟨some 2, .mov (.k (.d (.int .i64 0))), none⟩]
def s89 : SCode := (.seq (.region s89r0 0 []) (.seq (.seq (.region s89r1 0 []) (.cond (.t 18) (.seq (.region s89r2 0 []) .ret) .skip)) (.seq (.region s89r3 0 []) .ret)))
theorem e89 : CodeIs s89.eq_1 := qc s89.eq_1
theorem xdx : RegIs s89r0.eq_1 := qa
theorem xdy : RegIs s89r1.eq_1 := qa
theorem xdz : RegIs s89r2.eq_1 := qa
theorem xd0 : RegIs s89r3.eq_1 := qa
attribute [go_sem] xdx xdy xdz xd0 e89
theorem F89 : FnIs Try.prog 89 Try.f89 [] news s89 [.tmp 2] 19 := xg follows Try.func89
end
theorem qdo (r : Rd) (p : Nat) : ACall Try.prog 120 [.d (.ptr 0 0), .d (.int .i64 (p : Nat))] [rdO r] (.tup []) [rdO ⟨r.b, p, true⟩] := by
 refine q4t.goT ?_
 try simp only [rdO, go_sem, Nat.reduceAdd, Nat.reduceMul, Nat.reduceSub, Nat.reduceEqDiff, Nat.reduceLT, Nat.reduceLeDiff, Nat.reduceBEq, reduceIte, reduceCtorEq, Int.reduceAdd, Int.reduceLT, Int.reduceLE, Int.reduceGT, Int.reduceGE, Int.reduceEq, Int.reduceNe, Int.reduceBEq, Int.reduceBNe, Int.reduceToNat, Int.reduceNeg]
theorem qbt (r : Rd) (lo hi : Int) (hr : r.Ok) : ACall Try.prog 85 [.d (.ptr 0 0), .d (.int .i64 lo), .d (.int .i64 hi)] [rdO r] (.d (.int .i64 (rBoundedP lo hi r).1)) [rdO (rBoundedP lo hi r).2] := by
 have hc := qug r hr
 have h1 := qrk r hr
 have h2 := yh lo hi r hr
 obtain ⟨b, pos, f⟩ := r
 refine F85.go ?_
 cases f
 ·simp only [Bool.false_eq_true, if_false, dBounded] at h1 h2
  cases hd : dInt (b.drop pos) with
  | none =>
   rw [hd] at h1 h2
   simp only at h1 h2
   rw [h1] at hc
   rw [h2]
   simp only [rdO] at hc
   try simp only [rdO, go_sem, Nat.reduceAdd, Nat.reduceMul, Nat.reduceSub, Nat.reduceEqDiff, Nat.reduceLT, Nat.reduceLeDiff, Nat.reduceBEq, reduceIte, reduceCtorEq, Int.reduceAdd, Int.reduceLT, Int.reduceLE, Int.reduceGT, Int.reduceGE, Int.reduceEq, Int.reduceNe, Int.reduceBEq, Int.reduceBNe, Int.reduceToNat, Int.reduceNeg]
   (repeat (with_reducible refine ob ?_)); refine clO [0] q6h (hc) ?_ (hfit := by first | exact ⟨qb, trivial⟩ | exact ⟨qb, qb, trivial⟩ | simp only [encOp, encEn, encStep, go_sem, Nat.reduceAdd, Nat.reduceMul, Nat.reduceSub, Nat.reduceEqDiff, Nat.reduceLT, Nat.reduceLeDiff, Nat.reduceBEq, reduceIte, reduceCtorEq, Int.reduceAdd, Int.reduceLT, Int.reduceLE, Int.reduceGT, Int.reduceGE, Int.reduceEq, Int.reduceNe, Int.reduceBEq, Int.reduceBNe, Int.reduceToNat, Int.reduceNeg])
   try (refine ev ?_; try exact True.intro)
   (repeat (with_reducible refine ob ?_)); refine y8 ?_
   try (refine ev ?_; try exact True.intro)
  | some x =>
   obtain ⟨n, l⟩ := x
   rw [hd] at h1 h2
   simp only at h1 h2
   rw [h1] at hc
   simp only [rdO] at hc
   try simp only [rdO, go_sem, Nat.reduceAdd, Nat.reduceMul, Nat.reduceSub, Nat.reduceEqDiff, Nat.reduceLT, Nat.reduceLeDiff, Nat.reduceBEq, reduceIte, reduceCtorEq, Int.reduceAdd, Int.reduceLT, Int.reduceLE, Int.reduceGT, Int.reduceGE, Int.reduceEq, Int.reduceNe, Int.reduceBEq, Int.reduceBNe, Int.reduceToNat, Int.reduceNeg]
   (repeat (with_reducible refine ob ?_)); refine clO [0] q6h (hc) ?_ (hfit := by first | exact ⟨qb, trivial⟩ | exact ⟨qb, qb, trivial⟩ | simp only [encOp, encEn, encStep, go_sem, Nat.reduceAdd, Nat.reduceMul, Nat.reduceSub, Nat.reduceEqDiff, Nat.reduceLT, Nat.reduceLeDiff, Nat.reduceBEq, reduceIte, reduceCtorEq, Int.reduceAdd, Int.reduceLT, Int.reduceLE, Int.reduceGT, Int.reduceGE, Int.reduceEq, Int.reduceNe, Int.reduceBEq, Int.reduceBNe, Int.reduceToNat, Int.reduceNeg])
   try (refine ev ?_; try exact True.intro)
   (repeat (with_reducible refine ob ?_)); refine no_ ?_
   try (refine ev ?_; try exact True.intro)
   have hb : ((decide (n < lo) || decide (n > hi)) = true) = (n < lo ∨ n > hi) := by simp
   refine ⟨fun h => by rw [h]; rfl, ?_⟩
   refine xt _ (fun h => ?_) (fun h => ?_)
   ·rw [hb] at h
    rw [if_pos h] at h2
    simp only at h2
    have hfl := qdo ⟨b, b.length - l.length, false⟩ pos
    simp only [rdO] at hfl
    rw [h2]
    try (refine ev ?_; try exact True.intro)
    (repeat (with_reducible refine ob ?_)); refine clO [0] q4t (hfl) ?_ (hfit := by first | exact ⟨qb, trivial⟩ | exact ⟨qb, qb, trivial⟩ | simp only [encOp, encEn, encStep, go_sem, Nat.reduceAdd, Nat.reduceMul, Nat.reduceSub, Nat.reduceEqDiff, Nat.reduceLT, Nat.reduceLeDiff, Nat.reduceBEq, reduceIte, reduceCtorEq, Int.reduceAdd, Int.reduceLT, Int.reduceLE, Int.reduceGT, Int.reduceGE, Int.reduceEq, Int.reduceNe, Int.reduceBEq, Int.reduceBNe, Int.reduceToNat, Int.reduceNeg])
    try (refine ev ?_; try exact True.intro)
   ·have h' : ¬ (n < lo ∨ n > hi) := by rw [← hb, h]; simp
    rw [if_neg h'] at h2
    simp only at h2
    rw [h2]
    try (refine ev ?_; try exact True.intro)
 ·simp only [if_true] at h1 h2
  rw [h1] at hc
  rw [h2]
  simp only [rdO] at hc
  try simp only [rdO, go_sem, Nat.reduceAdd, Nat.reduceMul, Nat.reduceSub, Nat.reduceEqDiff, Nat.reduceLT, Nat.reduceLeDiff, Nat.reduceBEq, reduceIte, reduceCtorEq, Int.reduceAdd, Int.reduceLT, Int.reduceLE, Int.reduceGT, Int.reduceGE, Int.reduceEq, Int.reduceNe, Int.reduceBEq, Int.reduceBNe, Int.reduceToNat, Int.reduceNeg]
  (repeat (with_reducible refine ob ?_)); refine clO [0] q6h (hc) ?_ (hfit := by first | exact ⟨qb, trivial⟩ | exact ⟨qb, qb, trivial⟩ | simp only [encOp, encEn, encStep, go_sem, Nat.reduceAdd, Nat.reduceMul, Nat.reduceSub, Nat.reduceEqDiff, Nat.reduceLT, Nat.reduceLeDiff, Nat.reduceBEq, reduceIte, reduceCtorEq, Int.reduceAdd, Int.reduceLT, Int.reduceLE, Int.reduceGT, Int.reduceGE, Int.reduceEq, Int.reduceNe, Int.reduceBEq, Int.reduceBNe, Int.reduceToNat, Int.reduceNeg])
  try (refine ev ?_; try exact True.intro)
  (repeat (with_reducible refine ob ?_)); refine y8 ?_
  try (refine ev ?_; try exact True.intro)
theorem qfi (r : Rd) (most : Nat) (hr : r.Ok) (hm : most ≤ 1000000000) : ACall Try.prog 88 [.d (.ptr 0 0), .d (.int .i64 (most : Nat))] [rdO r] (.d (.sl 1 (byteRows (rBytesP most r).1))) [rdO (rBytesP most r).2] := by
 have hc := qbt r 0 most hr
 have h1 := yh 0 most r hr
 have h2 := zr most r hr
 obtain ⟨hln, hpos⟩ := hr
 obtain ⟨b, pos, f⟩ := r
 simp only at hln hpos
 refine F88.go ?_
 have hfl := fun q => qdo ⟨b, q, true⟩ pos
 have hfl2 := fun q => qdo ⟨b, q, false⟩ pos
 simp only [rdO] at hfl hfl2
 cases f
 ·simp only [Bool.false_eq_true, if_false, dBytes] at h1 h2
  cases hd : dBounded 0 most (b.drop pos) with
  | none =>
   rw [hd] at h1 h2
   simp only at h1 h2
   rw [h1] at hc
   rw [h2]
   simp only [rdO] at hc
   try simp only [rdO, go_sem, Nat.reduceAdd, Nat.reduceMul, Nat.reduceSub, Nat.reduceEqDiff, Nat.reduceLT, Nat.reduceLeDiff, Nat.reduceBEq, reduceIte, reduceCtorEq, Int.reduceAdd, Int.reduceLT, Int.reduceLE, Int.reduceGT, Int.reduceGE, Int.reduceEq, Int.reduceNe, Int.reduceBEq, Int.reduceBNe, Int.reduceToNat, Int.reduceNeg]
   (repeat (with_reducible refine ob ?_)); refine clO [0] F85 (hc) ?_ (hfit := by first | exact ⟨qb, trivial⟩ | exact ⟨qb, qb, trivial⟩ | simp only [encOp, encEn, encStep, go_sem, Nat.reduceAdd, Nat.reduceMul, Nat.reduceSub, Nat.reduceEqDiff, Nat.reduceLT, Nat.reduceLeDiff, Nat.reduceBEq, reduceIte, reduceCtorEq, Int.reduceAdd, Int.reduceLT, Int.reduceLE, Int.reduceGT, Int.reduceGE, Int.reduceEq, Int.reduceNe, Int.reduceBEq, Int.reduceBNe, Int.reduceToNat, Int.reduceNeg])
   try (refine ev ?_; try exact True.intro)
   (repeat (with_reducible refine ob ?_)); refine y8 ?_
   try (refine ev ?_; try exact True.intro)
   (repeat (with_reducible refine ob ?_)); refine clO [0] q4t ((hfl pos)) ?_ (hfit := by first | exact ⟨qb, trivial⟩ | exact ⟨qb, qb, trivial⟩ | simp only [encOp, encEn, encStep, go_sem, Nat.reduceAdd, Nat.reduceMul, Nat.reduceSub, Nat.reduceEqDiff, Nat.reduceLT, Nat.reduceLeDiff, Nat.reduceBEq, reduceIte, reduceCtorEq, Int.reduceAdd, Int.reduceLT, Int.reduceLE, Int.reduceGT, Int.reduceGE, Int.reduceEq, Int.reduceNe, Int.reduceBEq, Int.reduceBNe, Int.reduceToNat, Int.reduceNeg])
   try simp only [qj, go_sem, Nat.reduceAdd, Nat.reduceMul, Nat.reduceSub, Nat.reduceEqDiff, Nat.reduceLT, Nat.reduceLeDiff, Nat.reduceBEq, reduceIte, reduceCtorEq, Int.reduceAdd, Int.reduceLT, Int.reduceLE, Int.reduceGT, Int.reduceGE, Int.reduceEq, Int.reduceNe, Int.reduceBEq, Int.reduceBNe, Int.reduceToNat, Int.reduceNeg]
  | some x =>
   obtain ⟨n, l⟩ := x
   obtain ⟨p, hp⟩ := jk _ _ _ _ _ hd
   obtain ⟨t1, t2⟩ := kq hpos hp
   have hn0 : 0 ≤ n ∧ n ≤ most := by
    unfold dBounded at hd
    split at hd
    ·split at hd
     ·cases hd
     ·cases hd; omega
    ·cases hd
   rw [hd] at h1 h2
   simp only at h1 h2
   rw [h1] at hc
   obtain ⟨m, rfl⟩ : ∃ m : Nat, n = m := ⟨n.toNat, by omega⟩
   simp only [Int.toNat_natCast] at h2
   simp only [rdO] at hc
   have e1 : IntKind.i64.wrap ((b.length : Int) - ((b.length - l.length : Nat) : Int)) = ((l.length : Nat) : Int) := by rw [qu (by unfold I64; omega)]; omega
   try simp only [rdO, go_sem, Nat.reduceAdd, Nat.reduceMul, Nat.reduceSub, Nat.reduceEqDiff, Nat.reduceLT, Nat.reduceLeDiff, Nat.reduceBEq, reduceIte, reduceCtorEq, Int.reduceAdd, Int.reduceLT, Int.reduceLE, Int.reduceGT, Int.reduceGE, Int.reduceEq, Int.reduceNe, Int.reduceBEq, Int.reduceBNe, Int.reduceToNat, Int.reduceNeg]
   (repeat (with_reducible refine ob ?_)); refine clO [0] F85 (hc) ?_ (hfit := by first | exact ⟨qb, trivial⟩ | exact ⟨qb, qb, trivial⟩ | simp only [encOp, encEn, encStep, go_sem, Nat.reduceAdd, Nat.reduceMul, Nat.reduceSub, Nat.reduceEqDiff, Nat.reduceLT, Nat.reduceLeDiff, Nat.reduceBEq, reduceIte, reduceCtorEq, Int.reduceAdd, Int.reduceLT, Int.reduceLE, Int.reduceGT, Int.reduceGE, Int.reduceEq, Int.reduceNe, Int.reduceBEq, Int.reduceBNe, Int.reduceToNat, Int.reduceNeg])
   try simp only [e1, go_sem, Nat.reduceAdd, Nat.reduceMul, Nat.reduceSub, Nat.reduceEqDiff, Nat.reduceLT, Nat.reduceLeDiff, Nat.reduceBEq, reduceIte, reduceCtorEq, Int.reduceAdd, Int.reduceLT, Int.reduceLE, Int.reduceGT, Int.reduceGE, Int.reduceEq, Int.reduceNe, Int.reduceBEq, Int.reduceBNe, Int.reduceToNat, Int.reduceNeg]
   refine xt _ (fun h => ?_) (fun h => ?_)
   ·rw [if_pos (show l.length < m by simp at h; omega)] at h2
    simp only at h2
    rw [h2]
    try (refine ev ?_; try exact True.intro)
    (repeat (with_reducible refine ob ?_)); refine clO [0] q4t ((hfl2 (b.length - l.length))) ?_ (hfit := by first | exact ⟨qb, trivial⟩ | exact ⟨qb, qb, trivial⟩ | simp only [encOp, encEn, encStep, go_sem, Nat.reduceAdd, Nat.reduceMul, Nat.reduceSub, Nat.reduceEqDiff, Nat.reduceLT, Nat.reduceLeDiff, Nat.reduceBEq, reduceIte, reduceCtorEq, Int.reduceAdd, Int.reduceLT, Int.reduceLE, Int.reduceGT, Int.reduceGE, Int.reduceEq, Int.reduceNe, Int.reduceBEq, Int.reduceBNe, Int.reduceToNat, Int.reduceNeg])
    try simp only [qj, go_sem, Nat.reduceAdd, Nat.reduceMul, Nat.reduceSub, Nat.reduceEqDiff, Nat.reduceLT, Nat.reduceLeDiff, Nat.reduceBEq, reduceIte, reduceCtorEq, Int.reduceAdd, Int.reduceLT, Int.reduceLE, Int.reduceGT, Int.reduceGE, Int.reduceEq, Int.reduceNe, Int.reduceBEq, Int.reduceBNe, Int.reduceToNat, Int.reduceNeg]
   ·have hle : m ≤ l.length := by simp at h; omega
    rw [if_neg (show ¬ l.length < m by omega)] at h2
    simp only at h2
    rw [h2]
    generalize hq : b.length - l.length = q at t1 e1
    have e2 : IntKind.i64.wrap ((q : Int) + (m : Int)) = ((q + m : Nat) : Int) := by rw [qu (by unfold I64; omega)]; omega
    have e3 : IntKind.i64.wrap ((q : Int) + (m : Int) - (m : Int)) = ((q : Nat) : Int) := by rw [qu (by unfold I64; omega)]; omega
    have e5 : ((q : Int) + (m : Int)).toNat = q + m := by omega
    have e4 : q + m - q = m := by omega
    have e6 : b.length - (l.drop m).length = q + m := by rw [List.length_drop]; omega
    try simp only [hq, e2, e6, go_sem, Nat.reduceAdd, Nat.reduceMul, Nat.reduceSub, Nat.reduceEqDiff, Nat.reduceLT, Nat.reduceLeDiff, Nat.reduceBEq, reduceIte, reduceCtorEq, Int.reduceAdd, Int.reduceLT, Int.reduceLE, Int.reduceGT, Int.reduceGE, Int.reduceEq, Int.reduceNe, Int.reduceBEq, Int.reduceBNe, Int.reduceToNat, Int.reduceNeg]
    try simp only [e3, go_sem, Nat.reduceAdd, Nat.reduceMul, Nat.reduceSub, Nat.reduceEqDiff, Nat.reduceLT, Nat.reduceLeDiff, Nat.reduceBEq, reduceIte, reduceCtorEq, Int.reduceAdd, Int.reduceLT, Int.reduceLE, Int.reduceGT, Int.reduceGE, Int.reduceEq, Int.reduceNe, Int.reduceBEq, Int.reduceBNe, Int.reduceToNat, Int.reduceNeg]
    rw [e5, e4, xp, qx, t1, qz]
    have hlm : (l.take m).length ≤ 1000000000 := by rw [List.length_take]; omega
    exact ⟨by omega, by omega, by simp only [go_sem]⟩
 ·simp only [if_true] at h1 h2
  rw [h1] at hc
  rw [h2]
  simp only [rdO] at hc
  try simp only [rdO, go_sem, Nat.reduceAdd, Nat.reduceMul, Nat.reduceSub, Nat.reduceEqDiff, Nat.reduceLT, Nat.reduceLeDiff, Nat.reduceBEq, reduceIte, reduceCtorEq, Int.reduceAdd, Int.reduceLT, Int.reduceLE, Int.reduceGT, Int.reduceGE, Int.reduceEq, Int.reduceNe, Int.reduceBEq, Int.reduceBNe, Int.reduceToNat, Int.reduceNeg]
  (repeat (with_reducible refine ob ?_)); refine clO [0] F85 (hc) ?_ (hfit := by first | exact ⟨qb, trivial⟩ | exact ⟨qb, qb, trivial⟩ | simp only [encOp, encEn, encStep, go_sem, Nat.reduceAdd, Nat.reduceMul, Nat.reduceSub, Nat.reduceEqDiff, Nat.reduceLT, Nat.reduceLeDiff, Nat.reduceBEq, reduceIte, reduceCtorEq, Int.reduceAdd, Int.reduceLT, Int.reduceLE, Int.reduceGT, Int.reduceGE, Int.reduceEq, Int.reduceNe, Int.reduceBEq, Int.reduceBNe, Int.reduceToNat, Int.reduceNeg])
  try (refine ev ?_; try exact True.intro)
  (repeat (with_reducible refine ob ?_)); refine y8 ?_
  try (refine ev ?_; try exact True.intro)
  (repeat (with_reducible refine ob ?_)); refine clO [0] q4t ((hfl pos)) ?_ (hfit := by first | exact ⟨qb, trivial⟩ | exact ⟨qb, qb, trivial⟩ | simp only [encOp, encEn, encStep, go_sem, Nat.reduceAdd, Nat.reduceMul, Nat.reduceSub, Nat.reduceEqDiff, Nat.reduceLT, Nat.reduceLeDiff, Nat.reduceBEq, reduceIte, reduceCtorEq, Int.reduceAdd, Int.reduceLT, Int.reduceLE, Int.reduceGT, Int.reduceGE, Int.reduceEq, Int.reduceNe, Int.reduceBEq, Int.reduceBNe, Int.reduceToNat, Int.reduceNeg])
  try simp only [qj, go_sem, Nat.reduceAdd, Nat.reduceMul, Nat.reduceSub, Nat.reduceEqDiff, Nat.reduceLT, Nat.reduceLeDiff, Nat.reduceBEq, reduceIte, reduceCtorEq, Int.reduceAdd, Int.reduceLT, Int.reduceLE, Int.reduceGT, Int.reduceGE, Int.reduceEq, Int.reduceNe, Int.reduceBEq, Int.reduceBNe, Int.reduceToNat, Int.reduceNeg]
theorem qrm (r : Rd) (most : Nat) (hr : r.Ok) (hm : most ≤ 1000000000) : ACall Try.prog 86 [.d (.ptr 0 0), .d (.int .i64 (most : Nat))] [rdO r] (.d (.str (rBytesP most r).1)) [rdO (rBytesP most r).2] := by
 have hc := qfi r most hr hm
 simp only [rdO] at hc
 refine F86.go ?_
 try simp only [rdO, go_sem, Nat.reduceAdd, Nat.reduceMul, Nat.reduceSub, Nat.reduceEqDiff, Nat.reduceLT, Nat.reduceLeDiff, Nat.reduceBEq, reduceIte, reduceCtorEq, Int.reduceAdd, Int.reduceLT, Int.reduceLE, Int.reduceGT, Int.reduceGE, Int.reduceEq, Int.reduceNe, Int.reduceBEq, Int.reduceBNe, Int.reduceToNat, Int.reduceNeg]
 (repeat (with_reducible refine ob ?_)); refine clO [0] F88 (hc) ?_ (hfit := by first | exact ⟨qb, trivial⟩ | exact ⟨qb, qb, trivial⟩ | simp only [encOp, encEn, encStep, go_sem, Nat.reduceAdd, Nat.reduceMul, Nat.reduceSub, Nat.reduceEqDiff, Nat.reduceLT, Nat.reduceLeDiff, Nat.reduceBEq, reduceIte, reduceCtorEq, Int.reduceAdd, Int.reduceLT, Int.reduceLE, Int.reduceGT, Int.reduceGE, Int.reduceEq, Int.reduceNe, Int.reduceBEq, Int.reduceBNe, Int.reduceToNat, Int.reduceNeg])
 try (refine ev ?_; try exact True.intro)
theorem qrn (r : Rd) (hr : r.Ok) : ACall Try.prog 87 [.d (.ptr 0 0)] [rdO r] (.d (.bool (rBoolP r).1)) [rdO (rBoolP r).2] := by
 have h2 := qaq r hr
 obtain ⟨hln, hpos⟩ := hr
 obtain ⟨b, pos, f⟩ := r
 simp only at hln hpos
 refine F87.go ?_
 cases f
 ·simp only [Bool.false_eq_true, if_false] at h2
  by_cases hlt : pos < b.length
  ·have hg : decide (((pos : Nat) : Int) ≥ ((b.length : Nat) : Int)) = false := by simp; omega
   have hw : IntKind.i64.wrap ((pos : Int) + 1) = ((pos + 1 : Nat) : Int) := by rw [qu (by unfold I64; omega)]; omega
   have hw2 : IntKind.i64.wrap ((pos : Int) + 1 - 1) = ((pos : Nat) : Int) := by rw [qu (by unfold I64; omega)]; omega
   rw [List.drop_eq_getElem_cons hlt, dBool] at h2
   try simp only [rdO, hg, qq b hlt, go_sem, Nat.reduceAdd, Nat.reduceMul, Nat.reduceSub, Nat.reduceEqDiff, Nat.reduceLT, Nat.reduceLeDiff, Nat.reduceBEq, reduceIte, reduceCtorEq, Int.reduceAdd, Int.reduceLT, Int.reduceLE, Int.reduceGT, Int.reduceGE, Int.reduceEq, Int.reduceNe, Int.reduceBEq, Int.reduceBNe, Int.reduceToNat, Int.reduceNeg]
   (repeat (with_reducible refine ob ?_))
   refine xt _ (fun h => ?_) (fun h => ?_)
   ·rw [if_pos (show b[pos].toNat > 1 by simp at h; omega)] at h2
    simp only at h2
    rw [h2]
    try (refine ev ?_; try exact True.intro)
   ·rw [if_neg (show ¬ b[pos].toNat > 1 by simp at h; omega)] at h2
    simp only [List.length_drop] at h2
    rw [show b.length - (b.length - (pos + 1)) = pos + 1 by omega] at h2
    rw [h2]
    try simp only [hw, go_sem, Nat.reduceAdd, Nat.reduceMul, Nat.reduceSub, Nat.reduceEqDiff, Nat.reduceLT, Nat.reduceLeDiff, Nat.reduceBEq, reduceIte, reduceCtorEq, Int.reduceAdd, Int.reduceLT, Int.reduceLE, Int.reduceGT, Int.reduceGE, Int.reduceEq, Int.reduceNe, Int.reduceBEq, Int.reduceBNe, Int.reduceToNat, Int.reduceNeg]
    try simp only [hw2, qq b hlt, go_sem, Nat.reduceAdd, Nat.reduceMul, Nat.reduceSub, Nat.reduceEqDiff, Nat.reduceLT, Nat.reduceLeDiff, Nat.reduceBEq, reduceIte, reduceCtorEq, Int.reduceAdd, Int.reduceLT, Int.reduceLE, Int.reduceGT, Int.reduceGE, Int.reduceEq, Int.reduceNe, Int.reduceBEq, Int.reduceBNe, Int.reduceToNat, Int.reduceNeg]
    (repeat (with_reducible refine ob ?_))
    try simp only [qu6, go_sem, Nat.reduceAdd, Nat.reduceMul, Nat.reduceSub, Nat.reduceEqDiff, Nat.reduceLT, Nat.reduceLeDiff, Nat.reduceBEq, reduceIte, reduceCtorEq, Int.reduceAdd, Int.reduceLT, Int.reduceLE, Int.reduceGT, Int.reduceGE, Int.reduceEq, Int.reduceNe, Int.reduceBEq, Int.reduceBNe, Int.reduceToNat, Int.reduceNeg]
  ·have hg : decide (((pos : Nat) : Int) ≥ ((b.length : Nat) : Int)) = true := by simp; omega
   have hgd : (byteRows b).getD pos [] = [] := by rw [List.getD_eq_getElem?_getD, List.getElem?_eq_none (by rw [qz]; omega)]; rfl
   rw [List.drop_of_length_le (by omega), dBool] at h2
   simp only at h2
   rw [h2]
   try simp only [rdO, hg, hgd, go_sem, Nat.reduceAdd, Nat.reduceMul, Nat.reduceSub, Nat.reduceEqDiff, Nat.reduceLT, Nat.reduceLeDiff, Nat.reduceBEq, reduceIte, reduceCtorEq, Int.reduceAdd, Int.reduceLT, Int.reduceLE, Int.reduceGT, Int.reduceGE, Int.reduceEq, Int.reduceNe, Int.reduceBEq, Int.reduceBNe, Int.reduceToNat, Int.reduceNeg]
   (repeat (with_reducible refine ob ?_)); refine y8 ?_
   try (refine ev ?_; try exact True.intro)
 ·simp only [if_true] at h2
  rw [h2]
  try simp only [rdO, go_sem, Nat.reduceAdd, Nat.reduceMul, Nat.reduceSub, Nat.reduceEqDiff, Nat.reduceLT, Nat.reduceLeDiff, Nat.reduceBEq, reduceIte, reduceCtorEq, Int.reduceAdd, Int.reduceLT, Int.reduceLE, Int.reduceGT, Int.reduceGE, Int.reduceEq, Int.reduceNe, Int.reduceBEq, Int.reduceBNe, Int.reduceToNat, Int.reduceNeg]
  by_cases hlt : pos < b.length
  ·try simp only [qq b hlt, go_sem, Nat.reduceAdd, Nat.reduceMul, Nat.reduceSub, Nat.reduceEqDiff, Nat.reduceLT, Nat.reduceLeDiff, Nat.reduceBEq, reduceIte, reduceCtorEq, Int.reduceAdd, Int.reduceLT, Int.reduceLE, Int.reduceGT, Int.reduceGE, Int.reduceEq, Int.reduceNe, Int.reduceBEq, Int.reduceBNe, Int.reduceToNat, Int.reduceNeg]
   (repeat (with_reducible refine ob ?_)); refine y8 ?_
   try (refine ev ?_; try exact True.intro)
  ·have hgd : (byteRows b).getD pos [] = [] := by rw [List.getD_eq_getElem?_getD, List.getElem?_eq_none (by rw [qz]; omega)]; rfl
   try simp only [hgd, go_sem, Nat.reduceAdd, Nat.reduceMul, Nat.reduceSub, Nat.reduceEqDiff, Nat.reduceLT, Nat.reduceLeDiff, Nat.reduceBEq, reduceIte, reduceCtorEq, Int.reduceAdd, Int.reduceLT, Int.reduceLE, Int.reduceGT, Int.reduceGE, Int.reduceEq, Int.reduceNe, Int.reduceBEq, Int.reduceBNe, Int.reduceToNat, Int.reduceNeg]
   (repeat (with_reducible refine ob ?_)); refine y8 ?_
   try (refine ev ?_; try exact True.intro)
theorem quh (r : Rd) (hr : r.Ok) : ACall Try.prog 89 [.d (.ptr 0 0)] [rdO r] (.d (.int .i64 (rEnd r))) [rdO r] := by
 obtain ⟨hln, hpos⟩ := hr
 obtain ⟨b, pos, f⟩ := r
 simp only at hln hpos
 refine F89.go ?_
 cases f
 ·try simp only [rdO, go_sem, Nat.reduceAdd, Nat.reduceMul, Nat.reduceSub, Nat.reduceEqDiff, Nat.reduceLT, Nat.reduceLeDiff, Nat.reduceBEq, reduceIte, reduceCtorEq, Int.reduceAdd, Int.reduceLT, Int.reduceLE, Int.reduceGT, Int.reduceGE, Int.reduceEq, Int.reduceNe, Int.reduceBEq, Int.reduceBNe, Int.reduceToNat, Int.reduceNeg]
  refine xt _ (fun h => ?_) (fun h => ?_)
  ·have hx : rEnd ⟨b, pos, false⟩ = 4 := by unfold rEnd; rw [if_pos]; simp at h ⊢; omega
   try simp only [hx, go_sem, Nat.reduceAdd, Nat.reduceMul, Nat.reduceSub, Nat.reduceEqDiff, Nat.reduceLT, Nat.reduceLeDiff, Nat.reduceBEq, reduceIte, reduceCtorEq, Int.reduceAdd, Int.reduceLT, Int.reduceLE, Int.reduceGT, Int.reduceGE, Int.reduceEq, Int.reduceNe, Int.reduceBEq, Int.reduceBNe, Int.reduceToNat, Int.reduceNeg]
  ·have hx : rEnd ⟨b, pos, false⟩ = 0 := by unfold rEnd; rw [if_neg]; simp at h ⊢; omega
   try simp only [hx, go_sem, Nat.reduceAdd, Nat.reduceMul, Nat.reduceSub, Nat.reduceEqDiff, Nat.reduceLT, Nat.reduceLeDiff, Nat.reduceBEq, reduceIte, reduceCtorEq, Int.reduceAdd, Int.reduceLT, Int.reduceLE, Int.reduceGT, Int.reduceGE, Int.reduceEq, Int.reduceNe, Int.reduceBEq, Int.reduceBNe, Int.reduceToNat, Int.reduceNeg]
 ·try simp only [rdO, go_sem, Nat.reduceAdd, Nat.reduceMul, Nat.reduceSub, Nat.reduceEqDiff, Nat.reduceLT, Nat.reduceLeDiff, Nat.reduceBEq, reduceIte, reduceCtorEq, Int.reduceAdd, Int.reduceLT, Int.reduceLE, Int.reduceGT, Int.reduceGE, Int.reduceEq, Int.reduceNe, Int.reduceBEq, Int.reduceBNe, Int.reduceToNat, Int.reduceNeg]
  (repeat (with_reducible refine ob ?_)); refine y8 ?_
  try simp only [rEnd, go_sem, Nat.reduceAdd, Nat.reduceMul, Nat.reduceSub, Nat.reduceEqDiff, Nat.reduceLT, Nat.reduceLeDiff, Nat.reduceBEq, reduceIte, reduceCtorEq, Int.reduceAdd, Int.reduceLT, Int.reduceLE, Int.reduceGT, Int.reduceGE, Int.reduceEq, Int.reduceNe, Int.reduceBEq, Int.reduceBNe, Int.reduceToNat, Int.reduceNeg]
noncomputable section
set_option maxRecDepth 100000
def s33r0 : List SOper := [
 ⟨some 2, .mov (.k (.d .nilsl)), none⟩,
 ⟨some 3, .mov (.k (.d (.int .i64 0))), none⟩]
def s33r1 : List SOper := [
 ⟨some 11, .buildSlice false 1 0 [(.int .u8 0)] [], none⟩,
 ⟨some 12, .mov (.t 0), none⟩,
 ⟨some 13, .append false 1 1 (.t 11) (.t 12), none⟩,
 ⟨some 14, .build [.nilsl, (.int .i64 0), (.bool false)] [(0, 1, (.t 13))], none⟩,
 ⟨some 15, .box 1 (.t 14), none⟩,
 ⟨some 4, .mov (.t 15), none⟩]
def s33r2 : List SOper := [
 ⟨some 16, .mov (.t 4), none⟩,
 ⟨some 17, .call (.k (.d (.func (.func 85) [] []))) [(.t 16), (.k (.d (.int .i64 1))), (.k (.d (.int .i64 20)))], none⟩,
 ⟨some 5, .mov (.t 17), none⟩]
def s33r3 : List SOper := [
 ⟨some 6, .mov (.k (.d .nilsl)), none⟩]
def s33r4 : List SOper := [
 ⟨some 7, .mov (.k (.d (.int .i64 0))), none⟩]
def s33r5 : List SOper := [
 ⟨some 18, .mov (.t 7), none⟩,
 ⟨some 19, .mov (.t 5), none⟩,
 ⟨some 20, .bin .lss (.t 18) (.t 19), none⟩]
def s33r6 : List SOper := [
 ⟨some 23, .mov (.t 4), none⟩,
 ⟨some 24, .call (.k (.d (.func (.func 86) [] []))) [(.t 23), (.k (.d (.int .i64 40)))], none⟩,
 ⟨some 25, .mov (.t 4), none⟩,
 ⟨some 26, .call (.k (.d (.func (.func 87) [] []))) [(.t 25)], none⟩,
 ⟨some 27, .build [(.str []), (.bool false), .nilsl] [(0, 1, (.t 24)), (1, 1, (.t 26))], none⟩,
 ⟨some 8, .alloc 1 [(.d (.str [])), (.d (.bool false)), (.d .nilsl)], none⟩,
 ⟨none, .store (some 3) (.t 8) (.t 27), none⟩]
def s33r7 : List SOper := [
 ⟨some 28, .mov (.t 4), none⟩,
 ⟨some 29, .call (.k (.d (.func (.func 88) [] []))) [(.t 28), (.k (.d (.int .i64 900)))], none⟩,
 ⟨some 30, .faddr 2 (.t 8), none⟩,
 ⟨none, .store none (.t 30) (.t 29), none⟩]
def s33r8 : List SOper := [
 ⟨some 31, .mov (.t 6), none⟩,
 ⟨some 32, .load (some 3) (.t 8), none⟩,
 ⟨some 33, .buildSlice false 3 1 [(.str []), (.bool false), .nilsl] [(0, 3, (.t 32))], none⟩,
 ⟨some 34, .append false 3 48 (.t 31) (.t 33), none⟩,
 ⟨some 6, .mov (.t 34), none⟩]
def s33r9 : List SOper := [
 ⟨some 21, .mov (.t 7), none⟩,
 ⟨some 22, .bin .add (.t 21) (.k (.d (.int .i64 1))), none⟩,
 ⟨some 7, .mov (.t 22), none⟩]
def s33l10 : SCode := (.seq (.seq (.region s33r5 0 []) (.cond (.t 20) .skip (.exit 0))) (.seq (.block 1 (.seq (.region s33r6 1 []) (.seq (.region s33r7 0 []) (.region s33r8 0 [])))) (.region s33r9 0 [])))
theorem q4u : CodeIs s33l10.eq_1 := qc s33l10.eq_1
def s33r11 : List SOper := [
 ⟨some 35, .mov (.t 4), none⟩,
 ⟨some 36, .call (.k (.d (.func (.func 89) [] []))) [(.t 35)], none⟩,
 ⟨some 37, .bin .neq (.t 36) (.k (.d (.int .i64 0))), none⟩]
def s33r12 : List SOper := [
 ⟨some 2, .mov (.k (.d .nilsl)), none⟩,
 ⟨some 3, .mov (.k (.d (.int .i64 4))), none⟩]
def s33r13 : List SOper := [
 ⟨some 39, .mov (.t 6), none⟩,
 ⟨some 40, .call (.k (.d (.func (.func 31) [] []))) [(.t 39)], none⟩,
 ⟨some 38, .mov (.t 40), none⟩,
 ⟨some 41, .extract 0 (.t 38), none⟩,
 ⟨some 42, .extract 1 (.t 38), none⟩,
 ⟨some 9, .mov (.t 41), none⟩,
 ⟨some 10, .mov (.t 42), none⟩]
def s33r14 : List SOper := [
 ⟨some 43, .mov (.t 10), none⟩,
 ⟨some 44, .bin .neq (.t 43) (.k (.d (.int .i64 0))), none⟩]
def s33r15 : List SOper := [
 ⟨some 2, .mov (.k (.d .nilsl)), none⟩,
 ⟨some 3, .mov (.k (.d (.int .i64 4))), none⟩]
def s33r16 : List SOper := [
 ⟨some 45, .mov (.t 6), none⟩,
 ⟨some 2, .mov (.t 45), none⟩,
 ⟨some 3, .mov (.k (.d (.int .i64 0))), none⟩]
def s33 : SCode := (.seq (.region s33r0 0 []) (.seq (.region s33r1 1 []) (.seq (.region s33r2 0 []) (.seq (.region s33r3 0 []) (.seq (.seq (.region s33r4 0 []) (.block 0 (.loop s33l10))) (.seq (.seq (.region s33r11 0 []) (.cond (.t 37) (.seq (.region s33r12 0 []) .ret) .skip)) (.seq (.seq (.region s33r13 0 []) (.seq (.region s33r14 0 []) (.cond (.t 44) (.seq (.region s33r15 0 []) .ret) .skip))) (.seq (.region s33r16 0 []) .ret))))))))
theorem e33 : CodeIs s33.eq_1 := qc s33.eq_1
theorem xd1 : RegIs s33r0.eq_1 := qa
theorem xd2 : RegIs s33r1.eq_1 := qa
theorem xd3 : RegIs s33r2.eq_1 := qa
theorem xd4 : RegIs s33r3.eq_1 := qa
theorem xd5 : RegIs s33r4.eq_1 := qa
theorem xd6 : RegIs s33r5.eq_1 := qa
theorem xd7 : RegIs s33r6.eq_1 := qa
theorem xd8 : RegIs s33r7.eq_1 := qa
theorem xd9 : RegIs s33r8.eq_1 := qa
theorem xea : RegIs s33r9.eq_1 := qa
theorem q4v : RegIs s33r11.eq_1 := qa
theorem q4w : RegIs s33r12.eq_1 := qa
theorem q4x : RegIs s33r13.eq_1 := qa
theorem q4y : RegIs s33r14.eq_1 := qa
theorem q4z : RegIs s33r15.eq_1 := qa
theorem q40 : RegIs s33r16.eq_1 := qa
attribute [go_sem] xd1 xd2 xd3 xd4 xd5 xd6 xd7 xd8 xd9 xea q4u q4v q4w q4x q4y q4z q40 e33
theorem F33 : FnIs Try.prog 33 Try.f33 [] news s33 [.tmp 2, .tmp 3] 46 := xg follows Try.func33
end
def Srdec (n : Nat) (r : Rd) (i : { i : Nat // i ≤ n }) : St :=
 ⟨[(4, true, .d (.ptr 0 0)), (5, true, .d (.int .i64 (n : Nat))), (6, true, .own 0 3 ((rOpsA i.val r).1.map encOp)), (7, true, .d (.int .i64 (i.val : Nat)))], [rdO (rOpsA i.val r).2], [0], 1⟩
set_option maxRecDepth 10000 in
theorem qu8 (b : List UInt8) (hb : b.length ≤ 1000000000) : ACall Try.prog 33 [.d (.sl 1 (byteRows b))] [] (.tup [.d (.sl 3 ((sDecode b).1.map encOp)), .d (.int .i64 (sDecode b).2)]) [] := by
 have hr0 : (⟨b, 0, false⟩ : Rd).Ok := ⟨hb, Nat.zero_le _⟩
 have hbd := qbt ⟨b, 0, false⟩ 1 20 hr0
 have hin := qbs ⟨b, 0, false⟩ 1 20
 have hinv := (qao hr0 1 20).1
 unfold sDecode decRd
 generalize rBoundedP 1 20 ⟨b, 0, false⟩ = x at hbd hin hinv ⊢
 obtain ⟨n, r⟩ := x
 simp only at hin hinv
 have hn0 : n = ((n.toNat : Nat) : Int) := by omega
 generalize n.toNat = m at hn0
 subst hn0
 simp only [rdO, Int.ofNat_zero] at hbd
 refine F33.goT ?_
 try (refine ev ?_; try exact True.intro)
 (repeat (with_reducible refine ob ?_))
 (repeat (with_reducible refine ob ?_)); refine clO [0] F85 (hbd) ?_ (hfit := by first | exact ⟨qb, trivial⟩ | exact ⟨qb, qb, trivial⟩ | simp only [encOp, encEn, encStep, go_sem, Nat.reduceAdd, Nat.reduceMul, Nat.reduceSub, Nat.reduceEqDiff, Nat.reduceLT, Nat.reduceLeDiff, Nat.reduceBEq, reduceIte, reduceCtorEq, Int.reduceAdd, Int.reduceLT, Int.reduceLE, Int.reduceGT, Int.reduceGE, Int.reduceEq, Int.reduceNe, Int.reduceBEq, Int.reduceBNe, Int.reduceToNat, Int.reduceNeg])
 try (refine ev ?_; try exact True.intro)
 refine ql (Srdec m r) (fun i => m - i.val) ⟨0, Nat.zero_le _⟩ ?_ (fun i => ?_)
 ·try simp only [Srdec, rdO, rOpsA, List.map_nil, Int.ofNat_zero, go_sem, Nat.reduceAdd, Nat.reduceMul, Nat.reduceSub, Nat.reduceEqDiff, Nat.reduceLT, Nat.reduceLeDiff, Nat.reduceBEq, reduceIte, reduceCtorEq, Int.reduceAdd, Int.reduceLT, Int.reduceLE, Int.reduceGT, Int.reduceGE, Int.reduceEq, Int.reduceNe, Int.reduceBEq, Int.reduceBNe, Int.reduceToNat, Int.reduceNeg]
 obtain ⟨i, hi⟩ := i
 have hri := qap hinv i
 try simp only [Srdec, rdO, go_sem, Nat.reduceAdd, Nat.reduceMul, Nat.reduceSub, Nat.reduceEqDiff, Nat.reduceLT, Nat.reduceLeDiff, Nat.reduceBEq, reduceIte, reduceCtorEq, Int.reduceAdd, Int.reduceLT, Int.reduceLE, Int.reduceGT, Int.reduceGE, Int.reduceEq, Int.reduceNe, Int.reduceBEq, Int.reduceBNe, Int.reduceToNat, Int.reduceNeg]
 (repeat (with_reducible refine ob ?_)); refine xt _ (fun h => ?_) (fun h => ?_)
 ·have hil : i < m := by simp at h; omega
  have hT := qrm (rOpsA i r).2 40 hri.1 (by decide)
  have hiT := va hri.1 40
  have hB := qrn _ hiT.1
  have hiB := qa7 hiT.1
  have hV := qfi _ 900 hiB.1 (by decide)
  simp only [rdO] at hT hB hV
  try (refine ev ?_; try exact True.intro)
  (repeat (with_reducible refine ob ?_)); refine clO [0] F86 (hT) ?_ (hfit := by first | exact ⟨qb, trivial⟩ | exact ⟨qb, qb, trivial⟩ | simp only [encOp, encEn, encStep, go_sem, Nat.reduceAdd, Nat.reduceMul, Nat.reduceSub, Nat.reduceEqDiff, Nat.reduceLT, Nat.reduceLeDiff, Nat.reduceBEq, reduceIte, reduceCtorEq, Int.reduceAdd, Int.reduceLT, Int.reduceLE, Int.reduceGT, Int.reduceGE, Int.reduceEq, Int.reduceNe, Int.reduceBEq, Int.reduceBNe, Int.reduceToNat, Int.reduceNeg])
  try (refine ev ?_; try exact True.intro)
  (repeat (with_reducible refine ob ?_)); refine clO [0] F87 (hB) ?_ (hfit := by first | exact ⟨qb, trivial⟩ | exact ⟨qb, qb, trivial⟩ | simp only [encOp, encEn, encStep, go_sem, Nat.reduceAdd, Nat.reduceMul, Nat.reduceSub, Nat.reduceEqDiff, Nat.reduceLT, Nat.reduceLeDiff, Nat.reduceBEq, reduceIte, reduceCtorEq, Int.reduceAdd, Int.reduceLT, Int.reduceLE, Int.reduceGT, Int.reduceGE, Int.reduceEq, Int.reduceNe, Int.reduceBEq, Int.reduceBNe, Int.reduceToNat, Int.reduceNeg])
  try (refine ev ?_; try exact True.intro)
  (repeat (with_reducible refine ob ?_)); refine clO [0] F88 (hV) ?_ (hfit := by first | exact ⟨qb, trivial⟩ | exact ⟨qb, qb, trivial⟩ | simp only [encOp, encEn, encStep, go_sem, Nat.reduceAdd, Nat.reduceMul, Nat.reduceSub, Nat.reduceEqDiff, Nat.reduceLT, Nat.reduceLeDiff, Nat.reduceBEq, reduceIte, reduceCtorEq, Int.reduceAdd, Int.reduceLT, Int.reduceLE, Int.reduceGT, Int.reduceGE, Int.reduceEq, Int.reduceNe, Int.reduceBEq, Int.reduceBNe, Int.reduceToNat, Int.reduceNeg])
  try (refine ev ?_; try exact True.intro)
  (repeat (with_reducible refine ob ?_))
  refine ⟨⟨i + 1, hil⟩, ?_, by dsimp only; omega⟩
  try simp only [Srdec, rdO, rOpsA, rOp, List.map_append, List.map_cons, List.map_nil, encOp, qk (show i < 9223372036854775807 by omega), go_sem, Nat.reduceAdd, Nat.reduceMul, Nat.reduceSub, Nat.reduceEqDiff, Nat.reduceLT, Nat.reduceLeDiff, Nat.reduceBEq, reduceIte, reduceCtorEq, Int.reduceAdd, Int.reduceLT, Int.reduceLE, Int.reduceGT, Int.reduceGE, Int.reduceEq, Int.reduceNe, Int.reduceBEq, Int.reduceBNe, Int.reduceToNat, Int.reduceNeg]
 ·have hil : i = m := by simp at h; omega
  subst hil
  have hE := quh (rOpsA i r).2 hri.1
  simp only [rdO] at hE
  try (refine ev ?_; try exact True.intro)
  (repeat (with_reducible refine ob ?_)); refine clO [0] F89 (hE) ?_ (hfit := by first | exact ⟨qb, trivial⟩ | exact ⟨qb, qb, trivial⟩ | simp only [encOp, encEn, encStep, go_sem, Nat.reduceAdd, Nat.reduceMul, Nat.reduceSub, Nat.reduceEqDiff, Nat.reduceLT, Nat.reduceLeDiff, Nat.reduceBEq, reduceIte, reduceCtorEq, Int.reduceAdd, Int.reduceLT, Int.reduceLE, Int.reduceGT, Int.reduceGE, Int.reduceEq, Int.reduceNe, Int.reduceBEq, Int.reduceBNe, Int.reduceToNat, Int.reduceNeg])
  try (refine ev ?_; try exact True.intro)
  refine xt _ (fun h => ?_) (fun h => ?_)
  ·rw [if_pos (show rEnd (rOpsA i r).2 ≠ 0 by simpa using h)]
   try (refine ev ?_; try exact True.intro)
  ·rw [if_neg (show ¬ rEnd (rOpsA i r).2 ≠ 0 by simpa using h)]
   try (refine ev ?_; try exact True.intro)
   (repeat (with_reducible refine ob ?_)); first | refine cl F31 (qbr (rOpsA i r).1 (by omega)) ?_ | refine clF F31 (qbr (rOpsA i r).1 (by omega)) (fun _ => by simp only [encOp, encEn, encStep, go_sem, Nat.reduceAdd, Nat.reduceMul, Nat.reduceSub, Nat.reduceEqDiff, Nat.reduceLT, Nat.reduceLeDiff, Nat.reduceBEq, reduceIte, reduceCtorEq, Int.reduceAdd, Int.reduceLT, Int.reduceLE, Int.reduceGT, Int.reduceGE, Int.reduceEq, Int.reduceNe, Int.reduceBEq, Int.reduceBNe, Int.reduceToNat, Int.reduceNeg]) ?_
   try (refine ev ?_; try exact True.intro)
   refine xt _ (fun h => ?_) (fun h => ?_)
   ·rw [if_pos (show (sEncode (rOpsA i r).1).2 ≠ 0 by simpa using h)]
    try (refine ev ?_; try exact True.intro)
   ·rw [if_neg (show ¬ (sEncode (rOpsA i r).1).2 ≠ 0 by simpa using h)]
    try (refine ev ?_; try exact True.intro)
end Go.Proofs.Ytinnaedmdoengaa
namespace Go.Proofs.Ytinnaedmdoengaa
open Go.Abs
set_option linter.unusedSimpArgs false
set_option linter.unusedVariables false
theorem q41 (v : Nat) : zz (unz v) = v := by
 unfold zz unz
 split <;> split <;> omega
theorem q42 (n : Int) : unz (zz n) = n := by
 unfold zz unz
 split <;> split <;> omega
theorem toNat_ofNat {n : Nat} (h : n < 256) : (UInt8.ofNat n).toNat = n := by simp [UInt8.toNat_ofNat]; omega
theorem q43 (k : Nat) : ∀ (j u v : Nat) (l : List UInt8), j + (k + 1) = 10 → v * 128 ^ j < 18446744073709551616 → (v = 0 → j = 0) → dG (k + 1) j u (vbytes v ++ l) = some (unz (u + v * 128 ^ j), l) := by
 have small : ∀ (k j u v : Nat) (l : List UInt8), v < 128 → v * 128 ^ j < 18446744073709551616 → (v = 0 → j = 0) → dG (k + 1) j u (vbytes v ++ l) = some (unz (u + v * 128 ^ j), l) := by
  intro k j u v l hv hb h0
  rw [zy hv, List.singleton_append, dG, toNat_ofNat (by omega), if_pos hv, if_neg]
  simp only [Bool.or_eq_true, Bool.and_eq_true, beq_iff_eq, decide_eq_true_eq, not_or, not_and]
  refine ⟨fun h => by have := h0 h; omega, fun h => ?_⟩
  subst h
  have e : (128 : Nat) ^ 9 = 9223372036854775808 := by decide
  rw [e] at hb; omega
 induction k with
 | zero =>
  intro j u v l hj hb h0
  refine small 0 j u v l ?_ hb h0
  have : j = 9 := by omega
  subst this
  have e : (128 : Nat) ^ 9 = 9223372036854775808 := by decide
  rw [e] at hb; omega
 | succ k ih =>
  intro j u v l hj hb h0
  by_cases hv : v < 128
  ·exact small _ j u v l hv hb h0
  ·have hm : v % 128 + 128 < 256 := by omega
   rw [jx hv, List.cons_append, dG, toNat_ofNat hm, if_neg (by omega)]
   have e1 : (v % 128 + 128) % 128 = v % 128 := by omega
   have e2 : v % 128 * 128 ^ j + v / 128 * 128 ^ (j + 1) = v * 128 ^ j := by
    rw [Nat.pow_succ, Nat.mul_comm (128 ^ j) 128, ← Nat.mul_assoc, ← Nat.add_mul]
    congr 1; omega
   have hle : v / 128 * 128 ^ (j + 1) ≤ v * 128 ^ j := by omega
   rw [e1, ih (j + 1) _ (v / 128) l (by omega) (by omega) (by omega)]
   rw [Nat.add_assoc, e2]
theorem qmj {n : Int} (hn : I64 n) (l : List UInt8) : dInt (wInt n ++ l) = some (n, l) := by
 have := q43 9 0 0 (zz n) l rfl (by rw [Nat.pow_zero, Nat.mul_one]; exact qtu hn) (fun _ => rfl)
 rw [Nat.pow_zero, Nat.mul_one, Nat.zero_add, q42] at this
 exact this
theorem qu9 : ∀ (k j u : Nat) {l0 : List UInt8} {x : Int} {l : List UInt8}, j + k = 10 → dG k j u l0 = some (x, l) →
  ∃ v, x = unz (u + v * 128 ^ j) ∧ l0 = vbytes v ++ l ∧ (v = 0 → j = 0) ∧ v * 128 ^ j < 18446744073709551616
 | 0, j, u, l0, x, l, hj, h => by simp [dG] at h
 | k + 1, j, u, [], x, l, hj, h => by simp [dG] at h
 | k + 1, j, u, c :: l0, x, l, hj, h => by
  rw [dG] at h
  have hlt := kc c
  split at h
  ·rename_i hc
   split at h
   ·cases h
   ·rename_i hb
    cases h
    simp only [Bool.or_eq_true, Bool.and_eq_true, beq_iff_eq, decide_eq_true_eq, not_or, not_and] at hb
    refine ⟨c.toNat, rfl, ?_, fun h => by have := hb.1 h; omega, ?_⟩
    ·rw [zy hc, List.singleton_append]
     congr 1
     exact (UInt8.ofNat_toNat).symm
    ·rcases Nat.lt_or_ge j 9 with h9 | h9
     ·have hp := vy (j := j) (by omega)
      rw [Nat.pow_succ] at hp
      have : c.toNat * 128 ^ j ≤ 127 * 128 ^ j := Nat.mul_le_mul_right _ (by omega)
      omega
     ·have : j = 9 := by omega
      subst this
      have := hb.2 rfl
      have e : (128 : Nat) ^ 9 = 9223372036854775808 := by decide
      rw [e]; omega
  ·rename_i hc
   obtain ⟨v, h1, h2, h3, h4⟩ := qu9 k (j + 1) _ (by omega) h
   have e2 : c.toNat % 128 * 128 ^ j + v * 128 ^ (j + 1) = (v * 128 + c.toNat % 128) * 128 ^ j := by
    rw [Nat.pow_succ, Nat.mul_comm (128 ^ j) 128, ← Nat.mul_assoc, ← Nat.add_mul, Nat.add_comm]
   have hv : v ≠ 0 := fun h => by have := h3 h; omega
   have hk : k ≠ 0 := by
    rintro rfl
    simp [dG] at h
   refine ⟨v * 128 + c.toNat % 128, by rw [h1, Nat.add_assoc, e2], ?_, fun h => by omega, ?_⟩
   ·rw [h2, jx (u := v * 128 + c.toNat % 128) (by omega), List.cons_append]
    have e3 : (v * 128 + c.toNat % 128) % 128 + 128 = c.toNat := by omega
    have e4 : (v * 128 + c.toNat % 128) / 128 = v := by omega
    rw [e3, e4]
    congr 1
    exact (UInt8.ofNat_toNat).symm
   ·rw [← e2]
    have hp := vy (j := j) (by omega)
    have h5 : c.toNat % 128 * 128 ^ j ≤ 127 * 128 ^ j := Nat.mul_le_mul_right _ (by omega)
    have h6 : v * 128 ^ (j + 1) % 128 ^ (j + 1) = 0 := Nat.mul_mod_left _ _
    have h7 : (18446744073709551616 : Nat) % 128 ^ (j + 1) = 0 := by
     have : (18446744073709551616 : Nat) = 2 * 128 ^ 9 := by decide
     rw [this, ← Nat.pow_sub_mul_pow 128 (show j + 1 ≤ 9 by omega), ← Nat.mul_assoc]
     exact Nat.mul_mod_left _ _
    have h8 : 127 * 128 ^ j < 128 ^ (j + 1) := by rw [Nat.pow_succ]; have : 0 < 128 ^ j := Nat.pow_pos (by decide); omega
    generalize hP : 128 ^ (j + 1) = P at h4 h6 h7 h8 ⊢
    obtain ⟨q, hq⟩ := Nat.dvd_of_mod_eq_zero h7
    rw [hq] at h4 ⊢
    have : v < q := by
     rw [Nat.mul_comm P q] at h4
     exact Nat.lt_of_mul_lt_mul_right h4
    have : (v + 1) * P ≤ q * P := Nat.mul_le_mul_right _ this
    rw [Nat.add_mul, Nat.one_mul] at this
    rw [Nat.mul_comm P q]
    omega
theorem qmk {l0 : List UInt8} {n : Int} {l : List UInt8} (h : dInt l0 = some (n, l)) : I64 n ∧ l0 = wInt n ++ l := by
 obtain ⟨v, h1, h2, _, h4⟩ := qu9 10 0 0 rfl h
 rw [Nat.pow_zero, Nat.mul_one] at h1 h4
 rw [Nat.zero_add] at h1
 subst h1
 refine ⟨?_, by rw [wInt, q41]; exact h2⟩
 unfold I64 unz
 split <;> omega
theorem qfj {most : Int} {s : List UInt8} (hs : (s.length : Int) ≤ most) (hm : most ≤ 1000000000) (l : List UInt8) : dBytes most (wText s ++ l) = some (s, l) := by
 unfold dBytes dBounded wText
 rw [List.append_assoc, qmj (xc (by omega))]
 simp only
 rw [if_neg (by omega)]
 simp only [Int.toNat_natCast, List.length_append]
 rw [if_neg (by omega), List.take_left, List.drop_left]
theorem qfk {most : Int} {l0 s l : List UInt8} (h : dBytes most l0 = some (s, l)) : l0 = wText s ++ l ∧ (s.length : Int) ≤ most := by
 unfold dBytes dBounded at h
 cases hd : dInt l0 with
 | none => rw [hd] at h; cases h
 | some x =>
  obtain ⟨n, l1⟩ := x
  rw [hd] at h
  simp only at h
  by_cases hn : n < 0 ∨ n > most
  ·rw [if_pos hn] at h; cases h
  ·rw [if_neg hn] at h
   simp only at h
   split at h
   ·cases h
   ·rename_i hl
    cases h
    obtain ⟨_, h1⟩ := qmk hd
    have e : ((l1.take n.toNat).length : Int) = n := by rw [List.length_take]; omega
    refine ⟨?_, by omega⟩
    unfold wText
    rw [e, List.append_assoc, List.take_append_drop]
    exact h1
theorem qro (v : Bool) (l : List UInt8) : dBool ([if v then 1 else 0] ++ l) = some (v, l) := by cases v <;> rfl
theorem qrp {l0 : List UInt8} {v : Bool} {l : List UInt8} (h : dBool l0 = some (v, l)) : l0 = [if v then 1 else 0] ++ l := by
 cases l0 with
 | nil => cases h
 | cons c l1 =>
  rw [dBool] at h
  split at h
  ·cases h
  ·rename_i hc
   cases h
   have : c.toNat = 0 ∨ c.toNat = 1 := by omega
   rcases this with h | h
   ·have : c = 0 := UInt8.toNat_inj.1 h
    subst this; rfl
   ·have : c = 1 := UInt8.toNat_inj.1 h
    subst this; rfl
def dOp (l0 : List UInt8) : Option (OpS × List UInt8) := match dBytes 40 l0 with
 | none => none
 | some (k, l1) => match dBool l1 with
  | none => none
  | some (d, l2) => match dBytes 900 l2 with
   | none => none
   | some (v, l3) => some (⟨k, d, v⟩, l3)
theorem qw8 {o : OpS} (ho : sProper o = true) (l : List UInt8) : dOp (wOp o ++ l) = some (o, l) := by
 obtain ⟨_, h1, h2, _⟩ := xo.1 ho
 unfold dOp wOp
 rw [List.append_assoc, List.append_assoc, qfj (by omega) (by omega)]
 simp only
 rw [qro]
 simp only
 rw [qfj (by omega) (by omega)]
theorem qrq {l0 : List UInt8} {o : OpS} {l : List UInt8} (h : dOp l0 = some (o, l)) : l0 = wOp o ++ l := by
 unfold dOp at h
 cases h1 : dBytes 40 l0 with
 | none => rw [h1] at h; cases h
 | some x =>
  obtain ⟨k, l1⟩ := x
  rw [h1] at h
  simp only at h
  cases h2 : dBool l1 with
  | none => rw [h2] at h; cases h
  | some x =>
   obtain ⟨d, l2⟩ := x
   rw [h2] at h
   simp only at h
   cases h3 : dBytes 900 l2 with
   | none => rw [h3] at h; cases h
   | some x =>
    obtain ⟨v, l3⟩ := x
    rw [h3] at h
    cases h
    rw [(qfk h1).1, qrp h2, (qfk h3).1, wOp, List.append_assoc, List.append_assoc]
def dOpsA : Nat → List UInt8 → Option (List OpS × List UInt8)
 | 0, l => some ([], l)
 | n + 1, l0 => match dOpsA n l0 with
  | none => none
  | some (ops, l) => match dOp l with
   | none => none
   | some (o, l') => some (ops ++ [o], l')
theorem qji (l : List OpS) (hp : ∀ o ∈ l, sProper o = true) (rest : List UInt8) : ∀ k, k ≤ l.length → dOpsA k (l.flatMap wOp ++ rest) = some (l.take k, (l.drop k).flatMap wOp ++ rest)
 | 0, _ => rfl
 | k + 1, hk => by
  rw [dOpsA, qji l hp rest k (by omega)]
  simp only
  rw [List.drop_eq_getElem_cons (by omega), List.flatMap_cons, List.append_assoc, qw8 (hp _ (List.getElem_mem (by omega)))]
  simp only
  rw [List.take_succ_eq_append_getElem (by omega)]
theorem qar : ∀ (n : Nat) {l0 : List UInt8} {ops : List OpS} {l : List UInt8}, dOpsA n l0 = some (ops, l) → l0 = ops.flatMap wOp ++ l ∧ ops.length = n
 | 0, l0, ops, l, h => by cases h; exact ⟨rfl, rfl⟩
 | n + 1, l0, ops, l, h => by
  rw [dOpsA] at h
  cases h1 : dOpsA n l0 with
  | none => rw [h1] at h; cases h
  | some x =>
   obtain ⟨ops1, l1⟩ := x
   rw [h1] at h
   simp only at h
   cases h2 : dOp l1 with
   | none => rw [h2] at h; cases h
   | some x =>
    obtain ⟨o, l2⟩ := x
    rw [h2] at h
    cases h
    obtain ⟨e1, e2⟩ := qar n h1
    rw [e1, qrq h2]
    simp [e2]
theorem qui {r : Rd} (hr : r.Ok) (hf : r.failed = true) : (rOp r).2.failed = true := by
 have h1 := zr 40 r hr
 rw [if_pos hf] at h1
 have h2 := qaq r hr
 rw [if_pos hf] at h2
 have h3 := zr 900 r hr
 rw [if_pos hf] at h3
 simp only [rOp, h1, h2, h3, hf]
theorem qgw {α : Type} {b : List UInt8} {v : α} {l : List UInt8} {x : α × Rd} (h : Got (some (v, l)) b x) : x = (v, ⟨b, b.length - l.length, false⟩) := h
theorem qa8 {α : Type} {z : α} {f : Rd → α × Rd} {d : List UInt8 → Option (α × List UInt8)} (hd : Reads z f d) {r : Rd} (hr : r.Ok) (hf : r.failed = false) {v : α} {l : List UInt8} (h : d (r.b.drop r.pos) = some (v, l)) : f r = (v, ⟨r.b, r.b.length - l.length, false⟩) := by
 rw [hd r hr, if_neg (by simp [hf]), h]
theorem qa9 {α : Type} {z : α} {f : Rd → α × Rd} {d : List UInt8 → Option (α × List UInt8)} (hd : Reads z f d) {r : Rd} (hr : r.Ok) (hf : r.failed = false) (h : d (r.b.drop r.pos) = none) : (f r).2 = ⟨r.b, r.pos, true⟩ := by
 rw [hd r hr, if_neg (by simp [hf]), h]
theorem qba {α : Type} {z : α} {f : Rd → α × Rd} {d : List UInt8 → Option (α × List UInt8)} (hd : Reads z f d) {r : Rd} (hr : r.Ok) (hf : r.failed = true) : f r = (z, r) := by
 rw [hd r hr, if_pos hf]
theorem xeb {r : Rd} (hr : r.Ok) (hf : r.failed = false) : Got (dOp (r.b.drop r.pos)) r.b (rOp r) := by
 unfold dOp
 cases h1 : dBytes 40 (r.b.drop r.pos) with
 | none =>
  have e1 := qa9 (zr 40) hr hf h1
  have hr1 : (⟨r.b, r.pos, true⟩ : Rd).Ok := ⟨hr.len, hr.pos⟩
  simp only [Got, rOp, e1, qba qaq hr1 rfl, qba (zr 900) hr1 rfl]
 | some x =>
  obtain ⟨k, l1⟩ := x
  have e1 := qa8 (zr 40) hr hf h1
  obtain ⟨p1, hp1⟩ := qlk _ _ _ _ h1
  obtain ⟨t1, t2⟩ := kq hr.pos hp1
  have hr1 : (⟨r.b, r.b.length - l1.length, false⟩ : Rd).Ok := ⟨hr.len, Nat.sub_le _ _⟩
  simp only
  cases h2 : dBool l1 with
  | none =>
   have e2 := qa9 qaq hr1 rfl (by simp only [t1]; exact h2)
   simp only at e2
   have hr2 : (⟨r.b, r.b.length - l1.length, true⟩ : Rd).Ok := ⟨hr.len, Nat.sub_le _ _⟩
   simp only [Got, rOp, e1, e2, qba (zr 900) hr2 rfl]
  | some x =>
   obtain ⟨d, l2⟩ := x
   have e2 := qa8 qaq hr1 rfl (v := d) (l := l2) (by simp only [t1]; exact h2)
   simp only at e2
   obtain ⟨p2, hp2⟩ := qoj _ _ _ h2
   obtain ⟨t3, t4⟩ := kq (b := r.b) (p := r.b.length - l1.length) (Nat.sub_le _ _) (by rw [t1]; exact hp2)
   have hr2 : (⟨r.b, r.b.length - l2.length, false⟩ : Rd).Ok := ⟨hr.len, Nat.sub_le _ _⟩
   simp only
   cases h3 : dBytes 900 l2 with
   | none =>
    have e3 := qa9 (zr 900) hr2 rfl (by simp only [t3]; exact h3)
    simp only [Got, rOp, e1, e2, e3]
   | some x =>
    obtain ⟨v, l3⟩ := x
    have e3 := qa8 (zr 900) hr2 rfl (v := v) (l := l3) (by simp only [t3]; exact h3)
    simp only [Got, rOp, e1, e2, e3]
theorem q6i : Tails dOp := fun _ _ _ h => ⟨_, qrq h⟩
theorem qrr {r : Rd} (hr : r.Ok) (hf : r.failed = false) : ∀ n, Got (dOpsA n (r.b.drop r.pos)) r.b (rOpsA n r)
 | 0 => by
  have := hr.pos
  simp only [Got, dOpsA, rOpsA, List.length_drop]
  rw [show r.b.length - (r.b.length - r.pos) = r.pos by omega, ← hf]
 | n + 1 => by
  have ih := qrr hr hf n
  have hi := qap hr n
  rw [dOpsA]
  cases h1 : dOpsA n (r.b.drop r.pos) with
  | none =>
   rw [h1] at ih
   simp only [Got] at ih ⊢
   simp only [rOpsA]
   exact qui hi.1 ih
  | some x =>
   obtain ⟨ops, l⟩ := x
   rw [h1] at ih
   have ih := qgw ih
   obtain ⟨e1, _⟩ := qar n h1
   obtain ⟨t1, t2⟩ := kq hr.pos e1
   have hr1 : (⟨r.b, r.b.length - l.length, false⟩ : Rd).Ok := ⟨hr.len, Nat.sub_le _ _⟩
   have h2 := xeb hr1 rfl
   simp only [t1] at h2
   simp only
   cases h3 : dOp l with
   | none =>
    rw [h3] at h2
    simp only [Got] at h2 ⊢
    simp only [rOpsA, ih, h2]
   | some x =>
    obtain ⟨o, l'⟩ := x
    rw [h3] at h2
    have h2 := qgw h2
    simp only [Got, rOpsA, ih, h2]
theorem qjj {b : List UInt8} (hb : b.length ≤ 1000000000) : sDecode b = match dBounded 1 20 b with
  | none => ([], 4)
  | some (n, l) => match dOpsA n.toNat l with
   | some (ops, []) => if (sEncode ops).2 ≠ 0 then ([], 4) else (ops, 0)
   | _ => ([], 4) := by
 have hr0 : (⟨b, 0, false⟩ : Rd).Ok := ⟨hb, Nat.zero_le _⟩
 have h1 := yh 1 20 ⟨b, 0, false⟩ hr0
 simp only [Bool.false_eq_true, if_false, List.drop_zero] at h1
 unfold sDecode decRd
 cases hd : dBounded 1 20 b with
 | none =>
  rw [hd] at h1
  simp only at h1
  rw [h1, if_pos]
  simp [rOpsA, rEnd]
 | some x =>
  obtain ⟨n, l⟩ := x
  rw [hd] at h1
  simp only at h1
  rw [h1]
  obtain ⟨p, hp⟩ := jk _ _ _ _ _ hd
  obtain ⟨t1, t2⟩ := kq (b := b) (p := 0) (Nat.zero_le _) (by rw [List.drop_zero]; exact hp)
  have hr1 : (⟨b, b.length - l.length, false⟩ : Rd).Ok := ⟨hb, Nat.sub_le _ _⟩
  have h2 := qrr hr1 rfl n.toNat
  simp only [t1] at h2
  simp only
  cases h3 : dOpsA n.toNat l with
  | none =>
   rw [h3] at h2
   simp only [Got] at h2
   rw [if_pos (by unfold rEnd; rw [h2]; simp)]
  | some x =>
   obtain ⟨ops, l2⟩ := x
   rw [h3] at h2
   have h2 := qgw h2
   rw [h2]
   obtain ⟨e1, _⟩ := qar _ h3
   have hl := congrArg List.length e1
   simp only [List.length_append] at hl
   cases l2 with
   | nil =>
    simp only
    rw [if_neg (by unfold rEnd; simp)]
   | cons c l2 =>
    simp only
    rw [if_pos]
    unfold rEnd
    simp only [List.length_cons] at hl ⊢
    rw [if_pos]
    ·simp
    ·simp; omega
theorem qgx {l : List OpS} (h : (sEncode l).2 = 0) : sDecode (sEncode l).1 = (l, 0) := by
 obtain ⟨h20, hp, he⟩ := xe h
 have hlen := x5 l
 rw [qjj (by omega), he]
 have hl0 : l.length ≠ 0 := by
  intro h0
  unfold sEncode at h
  rw [if_pos (by simp [h0])] at h
  simp at h
 have e1 : dBounded 1 20 (wOps l) = some ((l.length : Int), l.flatMap wOp) := by
  unfold dBounded wOps
  rw [qmj (xc (by omega))]
  simp only
  rw [if_neg (by omega)]
 have e2 := qji l hp [] l.length (Nat.le_refl _)
 rw [List.append_nil, List.take_length, List.drop_length, List.flatMap_nil, List.append_nil] at e2
 rw [e1]
 simp only [Int.toNat_natCast]
 rw [e2]
 simp only
 rw [if_neg (by simp [h])]
theorem qgy {b : List UInt8} (hb : b.length ≤ 1000000000) (h : (sDecode b).2 = 0) : sEncode (sDecode b).1 = (b, 0) := by
 have hd := qjj hb
 cases h1 : dBounded 1 20 b with
 | none => rw [h1] at hd; simp only at hd; rw [hd] at h; simp at h
 | some x =>
  obtain ⟨n, l⟩ := x
  rw [h1] at hd
  simp only at hd
  cases h2 : dOpsA n.toNat l with
  | none => rw [h2] at hd; simp only at hd; rw [hd] at h; simp at h
  | some x =>
   obtain ⟨ops, l2⟩ := x
   rw [h2] at hd
   cases l2 with
   | cons c l2 => simp only at hd; rw [hd] at h; simp at h
   | nil =>
    simp only at hd
    by_cases he : (sEncode ops).2 ≠ 0
    ·rw [if_pos he] at hd; rw [hd] at h; simp at h
    ·rw [if_neg he] at hd
     have he : (sEncode ops).2 = 0 := by simpa using he
     rw [hd]
     obtain ⟨_, _, e⟩ := xe he
     rw [e]
     obtain ⟨e1, e2⟩ := qar _ h2
     unfold dBounded at h1
     cases h3 : dInt b with
     | none => rw [h3] at h1; cases h1
     | some x =>
      obtain ⟨m, l3⟩ := x
      rw [h3] at h1
      simp only at h1
      split at h1
      ·cases h1
      ·cases h1
       obtain ⟨_, e3⟩ := qmk h3
       have : ((ops.length : Nat) : Int) = n := by omega
       rw [wOps, this, e3, e1, List.append_nil]
end Go.Proofs.Ytinnaedmdoengaa
namespace Go.Proofs.Ytinnaedmdoengaa
open Go.Abs
set_option linter.unusedSimpArgs false
set_option linter.unusedVariables false
noncomputable section
set_option maxRecDepth 100000
def s37r0 : List SOper := [
 ⟨some 2, .mov (.k (.d .nilptr)), none⟩,
 ⟨some 3, .mov (.k (.d (.int .i64 0))), none⟩]
def s37r1 : List SOper := [
 ⟨some 11, .call (.k (.d (.func (.func 12) [] []))) [], none⟩,
 ⟨some 4, .mov (.t 11), none⟩]
def s37r2 : List SOper := [
 ⟨some 13, .mov (.t 0), none⟩,
 ⟨some 14, .call (.k (.d (.func (.func 90) [] []))) [(.t 13)], none⟩,
 ⟨some 12, .mov (.t 14), none⟩,
 ⟨some 15, .extract 0 (.t 12), none⟩,
 ⟨some 16, .extract 1 (.t 12), none⟩,
 ⟨some 5, .alloc 1 [(.d .nilsl), (.d (.int .i64 0))], none⟩,
 ⟨none, .store (some 2) (.t 5) (.t 15), none⟩,
 ⟨some 6, .mov (.t 16), none⟩]
def s37r3 : List SOper := [
 ⟨some 17, .mov (.t 4), none⟩,
 ⟨some 18, .load (some 2) (.t 5), none⟩,
 ⟨some 19, .nilCheck (.t 17), none⟩,
 ⟨some 20, .faddr 0 (.t 19), none⟩,
 ⟨none, .store (some 2) (.t 20) (.t 18), none⟩]
def s37r4 : List SOper := [
 ⟨some 21, .mov (.t 6), none⟩,
 ⟨some 22, .len (.t 21), none⟩,
 ⟨some 23, .mov (.k (.d (.int .i64 0))), none⟩]
def s37r5 : List SOper := [
 ⟨some 24, .bin .lss (.t 23) (.t 22), none⟩]
def s37r6 : List SOper := [
 ⟨some 25, .iaddr 1 (.t 21) (.t 23), none⟩,
 ⟨some 26, .load none (.t 25), none⟩,
 ⟨some 8, .mov (.t 26), none⟩]
def s37r7 : List SOper := [
 ⟨some 28, .mov (.t 8), none⟩,
 ⟨some 29, .call (.k (.d (.func (.func 32) [] []))) [(.t 28)], none⟩,
 ⟨some 27, .mov (.t 29), none⟩,
 ⟨some 30, .extract 0 (.t 27), none⟩,
 ⟨some 31, .extract 1 (.t 27), none⟩,
 ⟨some 9, .mov (.t 30), none⟩,
 ⟨some 10, .mov (.t 31), none⟩]
def s37r8 : List SOper := [
 ⟨some 32, .mov (.t 10), none⟩,
 ⟨some 33, .bin .neq (.t 32) (.k (.d (.int .i64 0))), none⟩,
 ⟨some 34, .mov (.t 33), none⟩,
 ⟨some 35, .mov (.t 4), some (34, false)⟩,
 ⟨some 36, .nilCheck (.t 35), some (34, false)⟩,
 ⟨some 37, .faddr 2 (.t 36), some (34, false)⟩,
 ⟨some 38, .load none (.t 37), some (34, false)⟩,
 ⟨some 39, .mov (.t 9), some (34, false)⟩,
 ⟨some 40, .call (.k (.d (.func (.func 41) [] []))) [(.t 38), (.t 39)], some (34, false)⟩,
 ⟨some 41, .not (.t 40), some (34, false)⟩,
 ⟨some 42, .pick (.t 34) (.k (.d (.bool true))) (.t 41), none⟩]
def s37r9 : List SOper := [
 ⟨some 2, .mov (.k (.d .nilptr)), none⟩,
 ⟨some 3, .mov (.k (.d (.int .i64 4))), none⟩]
def s37r10 : List SOper := [
 ⟨some 43, .bin .add (.t 23) (.k (.d (.int .i64 1))), none⟩,
 ⟨some 23, .mov (.t 43), none⟩]
def s37l11 : SCode := (.seq (.region s37r5 0 []) (.seq (.cond (.t 24) .skip (.exit 0)) (.seq (.block 1 (.seq (.region s37r6 0 []) (.seq (.region s37r7 0 []) (.seq (.region s37r8 0 []) (.cond (.t 42) (.seq (.region s37r9 0 []) .ret) .skip))))) (.region s37r10 0 []))))
theorem q44 : CodeIs s37l11.eq_1 := qc s37l11.eq_1
def s37r12 : List SOper := [
 ⟨some 44, .mov (.t 4), none⟩,
 ⟨some 2, .mov (.t 44), none⟩,
 ⟨some 3, .mov (.k (.d (.int .i64 0))), none⟩]
def s37 : SCode := (.seq (.region s37r0 0 []) (.seq (.region s37r1 2 []) (.seq (.region s37r2 1 []) (.seq (.region s37r3 0 []) (.seq (.seq (.region s37r4 0 []) (.block 0 (.loop s37l11))) (.seq (.region s37r12 0 []) .ret))))))
theorem e37 : CodeIs s37.eq_1 := qc s37.eq_1
theorem xec : RegIs s37r0.eq_1 := qa
theorem xed : RegIs s37r1.eq_1 := qa
theorem xee : RegIs s37r2.eq_1 := qa
theorem xef : RegIs s37r3.eq_1 := qa
theorem xeg : RegIs s37r4.eq_1 := qa
theorem xeh : RegIs s37r5.eq_1 := qa
theorem xei : RegIs s37r6.eq_1 := qa
theorem xej : RegIs s37r7.eq_1 := qa
theorem xek : RegIs s37r8.eq_1 := qa
theorem xel : RegIs s37r9.eq_1 := qa
theorem q45 : RegIs s37r10.eq_1 := qa
theorem q46 : RegIs s37r12.eq_1 := qa
attribute [go_sem] xec xed xee xef xeg xeh xei xej xek xel q45 q44 q46 e37
theorem F37 : FnIs Try.prog 37 Try.f37 [] news s37 [.tmp 2, .tmp 3] 45 := xg follows Try.func37
end
def openA : Cont → List (List UInt8) → Option Cont
 | m, [] => some m
 | m, b :: l => if (sDecode b).2 ≠ 0 then none else if (mApply m (sDecode b).1).2 = false then none else openA (mApply m (sDecode b).1).1 l
def sOpen (file : List UInt8) : Option Sto := (openA emptyC (wRecs file)).map fun m => ⟨file.take (wUsed file), (wUsed file : Nat), m⟩
def openE (file : List UInt8) : Int := if (sOpen file).isSome then 0 else 4
def openP (file : List UInt8) : D := if (sOpen file).isSome then .ptr 1 0 else .nilptr
def openO (file : List UInt8) : List AObj := match sOpen file with
 | some s => [mapO s.m, stoO s 0]
 | none => [.none, .none]
theorem qbu {b : List UInt8} (hb : b.length ≤ 1000000000) (h : (sDecode b).2 = 0) : (sDecode b).1.length ≤ 20 ∧ ∀ o ∈ (sDecode b).1, sProper o = true := by
 have h1 := qgy hb h
 obtain ⟨k1, k2, _⟩ := xe (by rw [h1] : (sEncode (sDecode b).1).2 = 0)
 exact ⟨k1, k2⟩
theorem qjk (l : List (List UInt8)) {i : Nat} (h : i < l.length) : (recRows l).getD i [] = [.sl 1 (byteRows l[i])] := qt (fun r : List UInt8 => [D.sl 1 (byteRows r)]) l h []
def Sopen (file : List UInt8) (i : Nat) (m : Cont) : St :=
 ⟨[(4, true, .d (.ptr 1 0)), (21, true, .d (.sl 1 (recRows (wRecs file)))), (22, true, .d (.int .i64 (wRecs file).length)), (23, true, .d (.int .i64 (i : Nat)))], [mapO m, stoO ⟨file.take (wUsed file), (wUsed file : Nat), m⟩ 0], [], 1⟩
set_option maxRecDepth 10000 in
theorem qrs (file : List UInt8) (hb : file.length ≤ 1000000000) : ACall Try.prog 37 [.d (.sl 1 (byteRows file))] [] (.tup [.d (openP file), .d (.int .i64 (openE file))]) (openO file) := by
 have k0 := qgs
 have hln := qq8 file
 simp only [stoO, mapO] at k0
 refine F37.goT ?_
 try (refine ev ?_; try exact True.intro)
 refine clO [0, 1] F12 k0 ?_
 try (refine ev ?_; try exact True.intro)
 (repeat (with_reducible refine ob ?_)); first | refine cl F90 (qfb file hb) ?_ | refine clF F90 (qfb file hb) (fun _ => by simp only [encOp, encEn, encStep, go_sem, Nat.reduceAdd, Nat.reduceMul, Nat.reduceSub, Nat.reduceEqDiff, Nat.reduceLT, Nat.reduceLeDiff, Nat.reduceBEq, reduceIte, reduceCtorEq, Int.reduceAdd, Int.reduceLT, Int.reduceLE, Int.reduceGT, Int.reduceGE, Int.reduceEq, Int.reduceNe, Int.reduceBEq, Int.reduceBNe, Int.reduceToNat, Int.reduceNeg]) ?_
 try (refine ev1 @encLog.eq_1 ?_; try exact True.intro)
 refine ql (fun x : { x : Nat × Cont // x.1 ≤ (wRecs file).length ∧ openA x.2 ((wRecs file).drop x.1) = openA emptyC (wRecs file) } => Sopen file x.val.1 x.val.2) (fun x => (wRecs file).length - x.val.1) ⟨(0, emptyC), Nat.zero_le _, by simp⟩ ?_ (fun x => ?_)
 ·try (refine ev5 @Sopen.eq_1 @stoO.eq_1 @mapO.eq_1 @newS.eq_1 @Int.ofNat_zero ?_; try exact True.intro)
 obtain ⟨⟨i, m⟩, hi, hx⟩ := x
 simp only at hi hx
 try (refine ev3 @Sopen.eq_1 @stoO.eq_1 @mapO.eq_1 ?_; try exact True.intro)
 refine xt _ (fun hc => ?_) (fun hc => ?_)
 ·have hil : i < (wRecs file).length := by simpa using hc
  have hr := qdj file _ (List.getElem_mem hil)
  rw [List.drop_eq_getElem_cons hil, openA] at hx
  try simp only [qjk _ hil, go_sem, Nat.reduceAdd, Nat.reduceMul, Nat.reduceSub, Nat.reduceEqDiff, Nat.reduceLT, Nat.reduceLeDiff, Nat.reduceBEq, reduceIte, reduceCtorEq, Int.reduceAdd, Int.reduceLT, Int.reduceLE, Int.reduceGT, Int.reduceGE, Int.reduceEq, Int.reduceNe, Int.reduceBEq, Int.reduceBNe, Int.reduceToNat, Int.reduceNeg]
  (repeat (with_reducible refine ob ?_))
  (repeat (with_reducible refine ob ?_)); first | refine cl F32 (qff (wRecs file)[i] (by omega)) ?_ | refine clF F32 (qff (wRecs file)[i] (by omega)) (fun _ => by simp only [encOp, encEn, encStep, go_sem, Nat.reduceAdd, Nat.reduceMul, Nat.reduceSub, Nat.reduceEqDiff, Nat.reduceLT, Nat.reduceLeDiff, Nat.reduceBEq, reduceIte, reduceCtorEq, Int.reduceAdd, Int.reduceLT, Int.reduceLE, Int.reduceGT, Int.reduceGE, Int.reduceEq, Int.reduceNe, Int.reduceBEq, Int.reduceBNe, Int.reduceToNat, Int.reduceNeg]) ?_
  try (refine ev ?_; try exact True.intro)
  by_cases he : (sDecode (wRecs file)[i]).2 = 0
  ·rw [if_neg (by simpa using he)] at hx
   obtain ⟨g1, g2⟩ := qbu (by omega) he
   have hap := ql8 m (sDecode (wRecs file)[i]).1 (by omega) (fun o ho => by have := (xo.1 (g2 o ho)).2.2.1; omega)
   simp only [mapO] at hap
   have hz : (((sDecode (wRecs file)[i]).2 : Int) != 0) = false := by rw [he]; rfl
   try (refine ev1 @hz ?_; try exact True.intro)
   (repeat (with_reducible refine ob ?_)); refine clO [0] F41 (hap) ?_ (hfit := by first | exact ⟨qb, trivial⟩ | exact ⟨qb, qb, trivial⟩ | simp only [encOp, encEn, encStep, go_sem, Nat.reduceAdd, Nat.reduceMul, Nat.reduceSub, Nat.reduceEqDiff, Nat.reduceLT, Nat.reduceLeDiff, Nat.reduceBEq, reduceIte, reduceCtorEq, Int.reduceAdd, Int.reduceLT, Int.reduceLE, Int.reduceGT, Int.reduceGE, Int.reduceEq, Int.reduceNe, Int.reduceBEq, Int.reduceBNe, Int.reduceToNat, Int.reduceNeg])
   try (refine ev ?_; try exact True.intro)
   refine xt _ (fun ha => ?_) (fun ha => ?_)
   ·rw [if_pos (by simpa using ha)] at hx
    have hs : sOpen file = none := by rw [sOpen, ← hx]; rfl
    have hP : openP file = .nilptr := by rw [openP, hs]; rfl
    have hE : openE file = 4 := by rw [openE, hs]; rfl
    have hO : openO file = [.none, .none] := by rw [openO, hs]
    try (refine ev3 @hP @hE @hO ?_; try exact True.intro)
   ·rw [if_neg (by simpa using ha)] at hx
    try (refine ev ?_; try exact True.intro)
    refine ⟨⟨(i + 1, (mApply m (sDecode (wRecs file)[i]).1).1), hil, hx⟩, ?_, by dsimp only; omega⟩
    try (refine ev4 @Sopen.eq_1 @stoO.eq_1 @mapO.eq_1 (qk (show i < 9223372036854775807 by omega)) ?_; try exact True.intro)
  ·rw [if_pos (by simpa using he)] at hx
   have hz : (((sDecode (wRecs file)[i]).2 : Int) != 0) = true := by simpa using he
   have hs : sOpen file = none := by rw [sOpen, ← hx]; rfl
   try (refine ev1 @hz ?_; try exact True.intro)
   (repeat (with_reducible refine ob ?_)); refine qx2 ?_
   try (refine ev ?_; try exact True.intro)
   (repeat (with_reducible refine ob ?_)); refine y8 ?_
   have hP : openP file = .nilptr := by rw [openP, hs]; rfl
   have hE : openE file = 4 := by rw [openE, hs]; rfl
   have hO : openO file = [.none, .none] := by rw [openO, hs]
   try (refine ev3 @hP @hE @hO ?_; try exact True.intro)
 ·have hie : i = (wRecs file).length := by
   have : (wRecs file).length ≤ i := by simpa using hc
   omega
  subst hie
  rw [List.drop_length, openA] at hx
  have hs : sOpen file = some ⟨file.take (wUsed file), (wUsed file : Nat), m⟩ := by rw [sOpen, ← hx]; rfl
  have hP : openP file = .ptr 1 0 := by rw [openP, hs]; rfl
  have hE : openE file = 0 := by rw [openE, hs]; rfl
  have hO : openO file = [mapO m, stoO ⟨file.take (wUsed file), (wUsed file : Nat), m⟩ 0] := by rw [openO, hs]
  try (refine ev5 @hP @hE @hO @stoO.eq_1 @mapO.eq_1 ?_; try exact True.intro)
theorem quj {file : List UInt8} {s : Sto} (hb : file.length ≤ 1000000000) (h : sOpen file = some s) : ACall Try.prog 37 [.d (.sl 1 (byteRows file))] [] (.tup [.d (.ptr 1 0), .d (.int .i64 0)]) [mapO s.m, stoO s 0] := by
 have := qrs file hb
 have hP : openP file = .ptr 1 0 := by rw [openP, h]; rfl
 have hE : openE file = 0 := by rw [openE, h]; rfl
 rw [hP, hE, openO, h] at this
 exact this
theorem xem {file : List UInt8} (hb : file.length ≤ 1000000000) (h : sOpen file = none) : ACall Try.prog 37 [.d (.sl 1 (byteRows file))] [] (.tup [.d .nilptr, .d (.int .i64 4)]) [.none, .none] := by
 have := qrs file hb
 have hP : openP file = .nilptr := by rw [openP, h]; rfl
 have hE : openE file = 4 := by rw [openE, h]; rfl
 rw [hP, hE, openO, h] at this
 exact this
theorem qfl : ∀ (l : List (List UInt8)) {m m' : Cont}, (∀ r ∈ l, r.length ≤ 2000) → m.Good → openA m l = some m' → m'.Good
 | [], m, m', _, hm, h => by cases h; exact hm
 | b :: l, m, m', hl, hm, h => by
  rw [openA] at h
  split at h
  ·cases h
  ·rename_i he
   split at h
   ·cases h
   ·rename_i ha
    have hbl := hl b List.mem_cons_self
    have hg := qbu (b := b) (by omega) (by simpa using he)
    exact qfl l (fun r hr => hl r (List.mem_cons_of_mem _ hr)) (ky _ hm hg.2 (by simpa using ha)) h
theorem qdp : emptyC.Good := (qgo 0).good
theorem qfm {file : List UInt8} {s : Sto} (h : sOpen file = some s) : s.m.Good ∧ s.file = file.take (wUsed file) ∧ s.synced = (wUsed file : Nat) := by
 unfold sOpen at h
 rw [Option.map_eq_some_iff] at h
 obtain ⟨m, hm, rfl⟩ := h
 exact ⟨qfl _ (qdj file) qdp hm, rfl, rfl⟩
end Go.Proofs.Ytinnaedmdoengaa
namespace Go.Proofs.Ytinnaedmdoengaa
open Go.Abs
set_option linter.unusedSimpArgs false
set_option linter.unusedVariables false
def eOpenA : List En → List (List UInt8) → Option (List En)
 | m, [] => some m
 | m, b :: l => if (sDecode b).2 ≠ 0 then none else if (eApply m (sDecode b).1).2 = false then none else eOpenA (eApply m (sDecode b).1).1 l
theorem qjl : ∀ (l : List (List UInt8)) {m : Cont}, m.Ok → m.l.length ≤ 400 → (openA m l).map entsOf = eOpenA (entsOf m) l
 | [], m, _, _ => rfl
 | b :: l, m, h, hl => by
  rw [openA, eOpenA]
  split
  ·rfl
  ·obtain ⟨k1, k2⟩ := ko (sDecode b).1 h hl
   rw [← k1]
   split
   ·rfl
   ·rename_i ha
    obtain ⟨k3, k4, k5⟩ := k2 (by simpa using ha)
    rw [qjl l k4 k5, k3]
theorem qfn : ∀ (ops : List OpS) (m : List En), m.length ≤ 400 → (eApply m ops).2 = true → (eApply m ops).1.length ≤ 400
 | [], m, h, _ => h
 | o :: ops, m, h, hy => by
  rw [eApply] at hy ⊢
  split at hy
  ·cases hy
  ·rename_i h4
   rw [if_neg h4]
   exact qfn ops _ (by omega) hy
theorem qol : ∀ (l : List (List UInt8)) {m m' : List En}, m.length ≤ 400 → eOpenA m l = some m' → m'.length ≤ 400
 | [], m, m', h, he => by cases he; exact h
 | b :: l, m, m', h, he => by
  rw [eOpenA] at he
  split at he
  ·cases he
  ·split at he
   ·cases he
   ·rename_i ha
    exact qol l (qfn _ m h (by simpa using ha)) he
theorem vz : entsOf emptyC = [] := List.eq_nil_of_length_eq_zero (by rw [qah]; rfl)
def eRun : List En → List (List OpS) → Option (List En)
 | m, [] => some m
 | m, t :: ts => if (eApply m t).2 = false then none else eRun (eApply m t).1 ts
theorem qgz : ∀ (a b : List (List OpS)) (m : List En), eRun m (a ++ b) = (eRun m a).bind fun m' => eRun m' b
 | [], b, m => rfl
 | t :: a, b, m => by
  rw [List.cons_append, eRun, eRun]
  split
  ·rfl
  ·exact qgz a b _
theorem quk {m r : List En} {ts : List (List OpS)} (h : eRun m ts = some r) (j : Nat) : ∃ r', eRun m (ts.take j) = some r' := by
 rw [← List.take_append_drop j ts, qgz] at h
 cases he : eRun m (ts.take j) with
 | none => rw [he] at h; cases h
 | some r' => exact ⟨r', rfl⟩
theorem qfo : ∀ (a b : List OpS) (m : List En), eApply m (a ++ b) = if (eApply m a).2 = false then ([], false) else eApply (eApply m a).1 b
 | [], b, m => rfl
 | o :: a, b, m => by
  rw [List.cons_append, eApply, eApply]
  split
  ·rfl
  ·exact qfo a b _
theorem qjm : ∀ (ts : List (List OpS)) (m r : List En), eApply m ts.flatten = (r, true) → eRun m ts = some r
 | [], m, r, h => by
  rw [List.flatten_nil, eApply] at h
  cases h; rfl
 | t :: ts, m, r, h => by
  rw [List.flatten_cons, qfo] at h
  rw [eRun]
  split at h
  ·cases h
  ·rename_i ha
   rw [if_neg ha]
   exact qjm ts _ r h
theorem qjn : ∀ (ts : List (List OpS)) (m : List En), (∀ t ∈ ts, (sEncode t).2 = 0) → eOpenA m (ts.map wOps) = eRun m ts
 | [], m, _ => rfl
 | t :: ts, m, h => by
  have h0 := h t List.mem_cons_self
  obtain ⟨_, _, he⟩ := xe h0
  have hd := qgx h0
  rw [he] at hd
  rw [List.map_cons, eOpenA, hd, eRun]
  simp only [ne_eq, not_true_eq_false, if_false]
  split
  ·rfl
  ·exact qjn ts _ fun x hx => h x (List.mem_cons_of_mem _ hx)
def txFile (ts : List (List OpS)) : List UInt8 := fileOf (ts.map wOps)
theorem yi (ts : List (List OpS)) (t : List OpS) : txFile (ts ++ [t]) = wAppend (txFile ts) (wOps t) := by rw [txFile, List.map_append, List.map_cons, List.map_nil, qe9]; rfl
theorem qul {ts : List (List OpS)} (h : ∀ t ∈ ts, (sEncode t).2 = 0) : ∀ r ∈ ts.map wOps, r.length ≤ 2000 := by
 intro r hr
 obtain ⟨t, ht, rfl⟩ := List.mem_map.1 hr
 have h1 := x5 t
 rw [(xe (h t ht)).2.2] at h1
 exact h1
structure Bk (s : Sto) (ts : List (List OpS)) : Prop where
 file : s.file = txFile ts
 enc : ∀ t ∈ ts, (sEncode t).2 = 0
 run : eRun [] ts = some (entsOf s.m)
theorem qrt : Bk newS [] := ⟨rfl, by simp, by rw [show newS.m = emptyC from rfl, vz]; rfl⟩
theorem qjo {s : Sto} {ts : List (List OpS)} {l : List OpS} (h : Bk s ts) (hg : s.m.Good) (hc : (sCommit s l).2 = 0) : Bk (sCommit s l).1 (ts ++ [l]) := by
 rcases kz s l with ⟨c1, _⟩ | ⟨_, c2, c3, c4⟩
 ·exact (c1 hc).elim
 ·obtain ⟨k1, k2⟩ := ko l hg.ok hg.few
  obtain ⟨k3, _, _⟩ := k2 c3
  have he := (xe c2).2.2
  rw [c4]
  refine ⟨?_, fun t ht => ?_, ?_⟩
  ·simp only [he]
   rw [yi, h.file]
  ·rcases List.mem_append.1 ht with ht | ht
   ·exact h.enc t ht
   ·simp at ht; subst ht; exact c2
  ·simp only
   rw [qgz, h.run, k3]
   rw [c3] at k1
   simp only [Option.bind_some, eRun, ← k1, Bool.true_eq_false, if_false]
theorem xen {s : Sto} {ts : List (List OpS)} (h : Bk s ts) : Bk (sSync s) ts := ⟨h.file, h.enc, h.run⟩
theorem qru {s : Sto} {ts : List (List OpS)} (h : Bk s ts) (k : Nat) : ∃ (j : Nat) (s' : Sto), j ≤ ts.length ∧ sOpen (s.file.take k) = some s' ∧ eRun [] (ts.take j) = some (entsOf s'.m) ∧ (txFile (ts.take j)).length ≤ k ∧
  s'.file = txFile (ts.take j) ∧ s'.synced = (s'.file.length : Nat) ∧ ∀ i, i ≤ ts.length → (txFile (ts.take i)).length ≤ k → i ≤ j := by
 obtain ⟨j, q1, q2, q3, q4, q5⟩ := qoa (ts.map wOps) k (qul h.enc)
 rw [List.length_map] at q1 q5
 have hf : fileOf (ts.map wOps) = s.file := h.file.symm
 rw [hf] at q2 q3
 have hmt : ∀ i, (ts.map wOps).take i = (ts.take i).map wOps := fun i => (List.map_take ..).symm
 rw [hmt] at q2 q3 q4
 obtain ⟨r, hr⟩ := quk h.run j
 have ho := qjl (wRecs (s.file.take k)) (m := emptyC) qdp.ok (Nat.zero_le _)
 rw [vz] at ho
 have hw : wRecs (s.file.take k) = (ts.take j).map wOps := q2
 rw [hw, qjn _ _ (fun t ht => h.enc t (List.mem_of_mem_take ht)), hr, ← hw] at ho
 rw [Option.map_eq_some_iff] at ho
 obtain ⟨m, hm, he⟩ := ho
 have hu : wUsed (s.file.take k) = (txFile (ts.take j)).length := q3
 refine ⟨j, ⟨(s.file.take k).take (wUsed (s.file.take k)), (wUsed (s.file.take k) : Nat), m⟩, q1, by rw [sOpen, hm]; rfl, by rw [hr, ← he], q4, ?_, ?_, fun i hi hk => q5 i hi (by rw [hmt]; exact hk)⟩
 ·simp only [hu]
  have hmin : min (txFile (ts.take j)).length k = (txFile (ts.take j)).length := Nat.min_eq_left q4
  rw [List.take_take, hmin]
  have := qn9 (ts.map wOps) j (by rw [List.length_map]; exact q1)
  rw [hmt, hf] at this
  exact this
 ·simp only
  have := qmi (s.file.take k)
  rw [List.length_take, Nat.min_eq_left this]
end Go.Proofs.Ytinnaedmdoengaa
namespace Go.Proofs.Ytinnaedmdoengaa
open Go.Abs
set_option linter.unusedSimpArgs false
set_option linter.unusedVariables false
def flatOp (l : List OpS) : List D := (l.map encOp).flatten
theorem jq (l : List OpS) : (flatOp l).length = l.length * 3 := by induction l <;> simp_all [flatOp, encOp]; omega
theorem x6 (l : List OpS) : D.noPtrL (flatOp l) = true := by
 rw [D.noPtrL_iff]
 exact fun d hd => (D.noPtrR_iff _).1 (zq l) d hd
theorem jb (l : List OpS) : (flatOp l).all D.isCell = true := by induction l <;> simp_all [flatOp, encOp, D.isCell]
theorem qjp (l : List OpS) (ex : List D) : ∀ {i : Nat} (h : i < l.length), ((flatOp l ++ ex).drop (i * 3)).take 3 = encOp l[i] := by
 induction l with
 | nil => intro i h; simp at h
 | cons o l ih =>
  intro i h
  have hf : flatOp (o :: l) = .str o.key :: .bool o.del :: .sl 1 (byteRows o.val) :: flatOp l := rfl
  rw [hf]
  cases i with
  | zero => rfl
  | succ i =>
   rw [show (i + 1) * 3 = i * 3 + 1 + 1 + 1 by omega]
   exact ih (by simpa using h)
def SidxOR (k : FuncId) (l : List OpS) (ex : List D) (f : OpS → Bool) (i : { i : Nat // (l.take i).any f = false }) : St :=
 ⟨[(0, true, .d (.ref 0 0 3 l.length)), (1, true, .d (.func (.func k) [] [])), (7, true, .d (.int .i64 l.length)), (8, true, .d (.int .i64 (i.val : Nat)))], [.row ((flatOp l ++ ex).map .d)], [], 1⟩
theorem qom {k : FuncId} {f : OpS → Bool} (hb : (Try.prog.funcs[k]?).any (fun fn => fn.body.isSome && !(fn.name == "runtime.NumGoroutine")) = true)
  (hf : ∀ v, ACall Try.prog k [.d (.agg (encOp v))] [] (.d (.bool (f v))) []) (l : List OpS) (ex : List D) (hex : D.noPtrL ex = true) (hl : l.length ≤ maxLen) :
  ACall Try.prog 110 [.d (.ref 0 0 3 l.length), .d (.func (.func k) [] [])] [.row ((flatOp l ++ ex).map .d)] (.d (.int .i64 (idx f l))) [.row ((flatOp l ++ ex).map .d)] := by
 have hlf := jq l
 have hnp : D.noPtrL (flatOp l ++ ex) = true := by rw [zb, x6, hex]; rfl
 refine qzy.go ?_
 try (refine ev ?_; try exact True.intro)
 refine ql (SidxOR k l ex f) (fun i => l.length - i.val) ⟨0, rfl⟩ ?_ (fun i => ?_)
 ·try (refine ev2 @SidxOR.eq_1 @hnp ?_; try exact True.intro)
 obtain ⟨i, hi⟩ := i
 try (refine ev1 @SidxOR.eq_1 ?_; try exact True.intro)
 (repeat (with_reducible refine ob ?_)); refine xt _ (fun h => ?_) (fun h => ?_)
 ·have hil : i < l.length := by simpa using h
  try (refine ev4 (qjp l ex hil) @List.length_map.{0,0} @List.length_append.{0} @hlf ?_; try exact True.intro)
  refine ⟨by omega, ⟨by omega, by omega, rfl⟩, ?_⟩
  refine qm (hf l[i]) hb (fun h => h) (fun _ => ⟨qb, trivial⟩) (by try (refine ev1 @encOp.eq_1 ?_; try exact True.intro)) rfl rfl ?_
  try (refine ev ?_; try exact True.intro)
  (repeat (with_reducible refine ob ?_)); refine xt _ (fun h => ?_) (fun h => ?_)
  ·try (refine ev2 (qaa hi hil h) @hnp ?_; try exact True.intro)
  ·try (refine ev ?_; try exact True.intro)
   refine ⟨⟨i + 1, zp hi hil (by simpa using h)⟩, ?_, by dsimp only; omega⟩
   try (refine ev3 @SidxOR.eq_1 @hnp (qk (show i < 9223372036854775807 by unfold maxLen at hl; omega)) ?_; try exact True.intro)
 ·have hil : l.length ≤ i := by simpa using h
  try (refine ev2 (y9 hi hil) @hnp ?_; try exact True.intro)
theorem qg0 {k : FuncId} {f : OpS → Bool} (hb : (Try.prog.funcs[k]?).any (fun fn => fn.body.isSome && !(fn.name == "runtime.NumGoroutine")) = true)
  (hf : ∀ v, ACall Try.prog k [.d (.agg (encOp v))] [] (.d (.bool (f v))) []) (l : List OpS) (ex : List D) (hex : D.noPtrL ex = true) (hl : l.length ≤ maxLen) :
  ACall Try.prog 68 [.d (.ref 0 0 3 l.length), .d (.func (.func k) [] [])] [.row ((flatOp l ++ ex).map .d)] (.d (.bool (l.any f))) [.row ((flatOp l ++ ex).map .d)] := by
 have hnp : D.noPtrL (flatOp l ++ ex) = true := by rw [zb, x6, hex]; rfl
 have hc := qom hb hf l ex hex hl
 refine F68.go ?_
 try (refine ev ?_; try exact True.intro)
 refine clO [0] qzy hc ?_ (hik := by try (refine ev2 @hnp @D.inKL_noPtr ?_; try exact True.intro)) (hold := by try (refine ev1 @hnp ?_; try exact True.intro)) (htk := by try (refine ev1 @hnp ?_; try exact True.intro))
 try (refine ev2 @qim @hnp ?_; try exact True.intro)
def SencR (l : List OpS) (ex : List D) (i : { i : Nat // i ≤ l.length }) : St :=
 ⟨[(0, true, .d (.ref 0 0 3 l.length)), (4, true, .own 0 1 (byteRows (wInt l.length ++ (l.take i.val).flatMap wOp))), (17, true, .d (.ref 0 0 3 l.length)), (18, true, .d (.int .i64 l.length)), (19, true, .d (.int .i64 (i.val : Nat)))], [.row ((flatOp l ++ ex).map .d)], [0], 1⟩
set_option maxRecDepth 10000 in
theorem qdq (l : List OpS) (ex : List D) (hex : D.noPtrL ex = true) (hl : l.length ≤ 100000) :
  ACall Try.prog 30 [.d (.ref 0 0 3 l.length)] [.row ((flatOp l ++ ex).map .d)] (.tup [.d (.sl 1 (byteRows (sEncode l).1)), .d (.int .i64 (sEncode l).2)]) [.row ((flatOp l ++ ex).map .d)] := by
 have hlf := jq l
 have hnp : D.noPtrL (flatOp l ++ ex) = true := by rw [zb, x6, hex]; rfl
 have hc := qg0 vr qa1 l ex hex (by unfold maxLen; omega)
 refine F30.goT ?_
 by_cases h0 : l.length = 0
 ·have hd : (((l.length : Nat) : Int) == 0) = true := by rw [h0]; rfl
  have hb : sEncode l = ([], 1) := by
   unfold sEncode
   rw [if_pos]
   simp [h0]
  try (refine ev1 @hd ?_; try exact True.intro)
  (repeat (with_reducible refine ob ?_)); refine qx2 ?_
  try (refine ev ?_; try exact True.intro)
  (repeat (with_reducible refine ob ?_)); refine y8 ?_
  try (refine ev3 @hb @qj @hnp ?_; try exact True.intro)
 have hd : (((l.length : Nat) : Int) == 0) = false := by rw [beq_eq_false_iff_ne]; omega
 try (refine ev1 @hd ?_; try exact True.intro)
 refine clO [0] F68 hc ?_ (hik := by try (refine ev2 @hnp @D.inKL_noPtr ?_; try exact True.intro)) (hold := by try (refine ev1 @hnp ?_; try exact True.intro)) (htk := by try (refine ev1 @hnp ?_; try exact True.intro))
 try (refine ev ?_; try exact True.intro)
 (repeat (with_reducible refine ob ?_)); refine xt _ (fun h => ?_) (fun h => ?_)
 ·have hb : sEncode l = ([], 1) := by
   unfold sEncode
   rw [if_pos]
   rw [h]; simp
  try (refine ev3 @hb @qj @hnp ?_; try exact True.intro)
 have hne : ¬ (decide (l.length = 0) || l.any (fun o => !sProper o)) = true := by
  rw [h]; simp [h0]
 have hpr : ∀ o ∈ l, sProper o = true := by
  simp only [Bool.or_eq_true, not_or, List.any_eq_true, not_exists, not_and] at hne
  intro o ho
  simpa using hne.2 o ho
 have hwl := wa hpr
 have hil0 := zo (xc (n := l.length) (by omega))
 try (refine ev ?_; try exact True.intro)
 refine clA F71 (v8 [] l.length (by simp) (xc (by omega))) ?_
 try (refine ev ?_; try exact True.intro)
 refine ql (SencR l ex) (fun i => l.length - i.val) ⟨0, Nat.zero_le _⟩ ?_ (fun i => ?_)
 ·try (refine ev3 @SencR.eq_1 @List.take_zero.{0} @hnp ?_; try exact True.intro)
 obtain ⟨i, hi⟩ := i
 try (refine ev1 @SencR.eq_1 ?_; try exact True.intro)
 (repeat (with_reducible refine ob ?_)); refine xt _ (fun h => ?_) (fun h => ?_)
 ·have hil : i < l.length := by simpa using h
  have ho := hpr l[i] (List.getElem_mem hil)
  obtain ⟨p1, p2, p3, _⟩ := xo.1 ho
  have hpre : (wInt l.length ++ (l.take i).flatMap wOp).length ≤ 100000020 := by
   have := wa (l := l.take i) (fun o h => hpr o (List.mem_of_mem_take h))
   simp only [List.length_append, List.length_take] at this ⊢
   have : min i l.length ≤ 100000 := by omega
   omega
  have k1 := kk l[i].key (by omega)
  try (refine ev4 (qjp l ex hil) @List.length_map.{0,0} @hlf @encOp.eq_1 ?_; try exact True.intro)
  refine ⟨by omega, ⟨by omega, by omega⟩, ?_⟩
  refine clA F74 (qc4 (wInt l.length ++ (l.take i).flatMap wOp) l[i].key (by omega)) ?_
  try (refine ev ?_; try exact True.intro)
  refine clA F73 (qc3 ((wInt l.length ++ (l.take i).flatMap wOp) ++ wText l[i].key) l[i].del (by simp only [List.length_append] at hpre ⊢; omega)) ?_
  try (refine ev ?_; try exact True.intro)
  refine clA F72 (qbn ((wInt l.length ++ (l.take i).flatMap wOp) ++ wText l[i].key ++ [if l[i].del then 1 else 0]) l[i].val (by simp only [List.length_append, List.length_cons, List.length_nil] at hpre ⊢; omega)) ?_
  try (refine ev ?_; try exact True.intro)
  have e : wInt l.length ++ (l.take i).flatMap wOp ++ wText l[i].key ++ [if l[i].del then 1 else 0] ++ wText l[i].val = wInt l.length ++ (l.take (i + 1)).flatMap wOp := by
   rw [qc5 wOp l hil, wOp]; simp only [List.append_assoc]
  refine ⟨⟨i + 1, hil⟩, ?_, by dsimp only; omega⟩
  try (refine ev4 @SencR.eq_1 @e @hnp (qk (show i < 9223372036854775807 by omega)) ?_; try exact True.intro)
 ·have hie : i = l.length := by simp at h; omega
  subst hie
  try (refine ev1 @List.take_length.{0} ?_; try exact True.intro)
  have hw : wInt l.length ++ l.flatMap wOp = wOps l := rfl
  have hw2 : (wOps l).length = (wInt l.length).length + (l.flatMap wOp).length := by rw [wOps, List.length_append]
  try (refine ev1 @hw ?_; try exact True.intro)
  (repeat (with_reducible refine ob ?_)); refine xt _ (fun h => ?_) (fun h => ?_)
  ·have hb : sEncode l = ([], 6) := by
    unfold sEncode
    rw [if_neg hne, if_pos]
    simp only [Bool.or_eq_true, decide_eq_true_eq] at h ⊢
    omega
   try (refine ev3 @hb @qj @hnp ?_; try exact True.intro)
  ·have hb : sEncode l = (wOps l, 0) := by
    unfold sEncode
    rw [if_neg hne, if_neg]
    simp only [Bool.or_eq_true, Bool.or_eq_false_iff, decide_eq_true_eq, decide_eq_false_iff_not] at h ⊢
    omega
   try (refine ev2 @hb @hnp ?_; try exact True.intro)
end Go.Proofs.Ytinnaedmdoengaa
namespace Go.Proofs.Ytinnaedmdoengaa
open Go.Abs
set_option linter.unusedSimpArgs false
set_option linter.unusedVariables false
noncomputable section
set_option maxRecDepth 100000
def s27rr0 : List SOper := [
 ⟨some 2, .mov (.k (.d (.int .i64 0))), none⟩]
def s27rr1 : List SOper := [
 ⟨some 11, .mov (.t 0), none⟩,
 ⟨some 12, .eqnil false .ptr (.t 11), none⟩]
def s27rr2 : List SOper := [
 ⟨some 2, .mov (.k (.d (.int .i64 7))), none⟩]
def s27rr3 : List SOper := [
 ⟨some 3, .alloc 1 [(.d .nilsl), (.d (.int .i64 0))], none⟩]
def s27rr4 : List SOper := [
 ⟨some 4, .alloc 1 [(.d .nilsl)], none⟩]
def s27rr5 : List SOper := [
 ⟨some 13, .mkFunc (.func 67) [] [(.t 4), (.t 3)], none⟩,
 ⟨some 5, .mov (.t 13), none⟩]
def s27rr6 : List SOper := [
 ⟨some 14, .mov (.t 0), none⟩,
 ⟨some 15, .call (.k (.d (.func (.func 17) [] []))) [(.t 14), (.k (.d (.str [])))], none⟩,
 ⟨some 16, .len (.t 15), none⟩,
 ⟨some 17, .mov (.k (.d (.int .i64 0))), none⟩]
def s27rr7 : List SOper := [
 ⟨some 18, .bin .lss (.t 17) (.t 16), none⟩]
def s27rr8 : List SOper := [
 ⟨some 19, .iaddr 2 (.t 15) (.t 17), none⟩,
 ⟨some 20, .load (some 2) (.t 19), none⟩,
 ⟨some 7, .alloc 1 [(.d (.str [])), (.d .nilsl)], none⟩,
 ⟨none, .store (some 2) (.t 7) (.t 20), none⟩]
def s27rr9 : List SOper := [
 ⟨some 21, .faddr 0 (.t 7), none⟩,
 ⟨some 22, .load none (.t 21), none⟩,
 ⟨some 23, .faddr 1 (.t 7), none⟩,
 ⟨some 24, .load none (.t 23), none⟩,
 ⟨some 25, .build [(.str []), (.bool false), .nilsl] [(0, 1, (.t 22)), (2, 1, (.t 24))], none⟩,
 ⟨some 8, .alloc 1 [(.d (.str [])), (.d (.bool false)), (.d .nilsl)], none⟩,
 ⟨none, .store (some 3) (.t 8) (.t 25), none⟩]
def s27rr10 : List SOper := [
 ⟨some 27, .load none (.t 4), none⟩,
 ⟨some 28, .load (some 3) (.t 8), none⟩,
 ⟨some 29, .buildSlice false 3 1 [(.str []), (.bool false), .nilsl] [(0, 3, (.t 28))], none⟩,
 ⟨some 30, .appendR 1 3 48 (.t 27) (.t 29), none⟩,
 ⟨some 31, .call (.k (.d (.func (.func 30) [] []))) [(.t 30)], none⟩,
 ⟨some 26, .mov (.t 31), none⟩,
 ⟨some 32, .extract 0 (.t 26), none⟩,
 ⟨some 33, .extract 1 (.t 26), none⟩,
 ⟨some 9, .mov (.t 32), none⟩,
 ⟨some 10, .mov (.t 33), none⟩]
def s27rr11 : List SOper := [
 ⟨some 34, .mov (.t 10), none⟩,
 ⟨some 35, .bin .neq (.t 34) (.k (.d (.int .i64 0))), none⟩]
def s27rr12 : List SOper := [
 ⟨some 36, .mov (.t 5), none⟩,
 ⟨some 37, .call (.t 36) [], none⟩]
def s27rr13 : List SOper := [
 ⟨some 38, .load none (.t 4), none⟩,
 ⟨some 39, .load (some 3) (.t 8), none⟩,
 ⟨some 40, .buildSlice false 3 1 [(.str []), (.bool false), .nilsl] [(0, 3, (.t 39))], none⟩,
 ⟨some 41, .appendR 1 3 48 (.t 38) (.t 40), none⟩,
 ⟨none, .store none (.t 4) (.t 41), none⟩]
def s27rr14 : List SOper := [
 ⟨some 42, .bin .add (.t 17) (.k (.d (.int .i64 1))), none⟩,
 ⟨some 17, .mov (.t 42), none⟩]
def s27rl15 : SCode := (.seq (.region s27rr7 0 []) (.seq (.cond (.t 18) .skip (.exit 0)) (.seq (.block 1 (.seq (.pause (.region s27rr8 1 [])) (.seq (.region s27rr9 1 []) (.seq (.seq (.region s27rr10 1 []) (.seq (.region s27rr11 0 []) (.cond (.t 35) (.region s27rr12 0 []) .skip))) (.region s27rr13 1 []))))) (.pause (.region s27rr14 0 [])))))
theorem qw9 : CodeIs s27rl15.eq_1 := qc s27rl15.eq_1
def s27rr16 : List SOper := [
 ⟨some 43, .mov (.t 5), none⟩,
 ⟨some 44, .call (.t 43) [], none⟩]
def s27rr17 : List SOper := [
 ⟨some 45, .mov (.t 0), none⟩,
 ⟨some 46, .load (some 2) (.t 3), none⟩,
 ⟨some 47, .call (.k (.d (.func (.func 66) [] []))) [(.t 46)], none⟩,
 ⟨some 48, .nilCheck (.t 45), none⟩,
 ⟨some 49, .faddr 0 (.t 48), none⟩,
 ⟨none, .store (some 2) (.t 49) (.t 47), none⟩]
def s27rr18 : List SOper := [
 ⟨some 2, .mov (.k (.d (.int .i64 0))), none⟩]
def s27r : SCode := (.seq (.region s27rr0 0 []) (.seq (.seq (.region s27rr1 0 []) (.cond (.t 12) (.seq (.region s27rr2 0 []) .ret) .skip)) (.seq (.region s27rr3 1 []) (.seq (.region s27rr4 1 []) (.seq (.region s27rr5 0 []) (.seq (.seq (.region s27rr6 0 []) (.block 0 (.loop s27rl15))) (.seq (.pause (.region s27rr16 0 [])) (.seq (.region s27rr17 0 []) (.seq (.region s27rr18 0 []) .ret)))))))))
theorem xg9 : CodeIs s27r.eq_1 := qc s27r.eq_1
theorem q47 : RegIs s27rr0.eq_1 := qa
theorem q48 : RegIs s27rr1.eq_1 := qa
theorem q49 : RegIs s27rr2.eq_1 := qa
theorem q5a : RegIs s27rr3.eq_1 := qa
theorem q5b : RegIs s27rr4.eq_1 := qa
theorem q5c : RegIs s27rr5.eq_1 := qa
theorem q5d : RegIs s27rr6.eq_1 := qa
theorem q5e : RegIs s27rr7.eq_1 := qa
theorem q5f : RegIs s27rr8.eq_1 := qa
theorem q5g : RegIs s27rr9.eq_1 := qa
theorem qxa : RegIs s27rr10.eq_1 := qa
theorem qxb : RegIs s27rr11.eq_1 := qa
theorem qxc : RegIs s27rr12.eq_1 := qa
theorem qxd : RegIs s27rr13.eq_1 := qa
theorem qxe : RegIs s27rr14.eq_1 := qa
theorem qxf : RegIs s27rr16.eq_1 := qa
theorem qxg : RegIs s27rr17.eq_1 := qa
theorem qxh : RegIs s27rr18.eq_1 := qa
attribute [go_sem] q47 q48 q49 q5a q5b q5c q5d q5e q5f q5g qxa qxb qxc qxd qxe qw9 qxf qxg qxh xg9
theorem xf1 : FnIs Try.prog 27 Try.f27 [30, 1000030, 41, 1000041] news s27r [.tmp 2] 50 := xg follows Try.func27
def s67r0 : List SOper := [
 ⟨some 5, .load none (.t 0), none⟩,
 ⟨some 6, .call (.k (.d (.func (.func 30) [] []))) [(.t 5)], none⟩,
 ⟨some 4, .mov (.t 6), none⟩,
 ⟨some 7, .extract 0 (.t 4), none⟩,
 ⟨some 8, .extract 1 (.t 4), none⟩,
 ⟨some 2, .mov (.t 7), none⟩,
 ⟨some 3, .mov (.t 8), none⟩]
def s67r1 : List SOper := [
 ⟨some 9, .mov (.t 3), none⟩,
 ⟨some 10, .bin .eql (.t 9) (.k (.d (.int .i64 0))), none⟩]
def s67r2 : List SOper := [
 ⟨some 12, .load (some 2) (.t 1), none⟩,
 ⟨some 13, .mov (.t 2), none⟩,
 ⟨some 14, .call (.k (.d (.func (.func 42) [] []))) [(.t 12), (.t 13)], none⟩,
 ⟨some 11, .mov (.t 14), none⟩,
 ⟨some 15, .extract 0 (.t 11), none⟩,
 ⟨some 16, .extract 1 (.t 11), none⟩,
 ⟨none, .store (some 2) (.t 1) (.t 15), none⟩]
def s67r3 : List SOper := [
 ⟨none, .store none (.t 0) (.k (.d .nilsl)), none⟩]
def s67 : SCode := (.seq (.seq (.region s67r0 0 []) (.seq (.region s67r1 0 []) (.cond (.t 10) (.region s67r2 0 []) .skip))) (.region s67r3 0 []))
theorem e67 : CodeIs s67.eq_1 := qc s67.eq_1
theorem xeo : RegIs s67r0.eq_1 := qa
theorem xep : RegIs s67r1.eq_1 := qa
theorem xeq : RegIs s67r2.eq_1 := qa
theorem xer : RegIs s67r3.eq_1 := qa
attribute [go_sem] xeo xep xeq xer e67
theorem F67 : FnIs Try.prog 67 Try.f67 [] news s67 [] 17 := xg follows Try.func67
end
def cFlush (file : List UInt8) (ops : List OpS) : List UInt8 := if (sEncode ops).2 = 0 then wAppend file (sEncode ops).1 else file
def cOp (e : En) : OpS := ⟨e.1, false, e.2⟩
def cStep (x : List UInt8 × List OpS) (e : En) : List UInt8 × List OpS := if (sEncode (x.2 ++ [cOp e])).2 ≠ 0 then (cFlush x.1 x.2, [cOp e]) else (x.1, x.2 ++ [cOp e])
def cAt (l : List En) (i : Nat) : List UInt8 × List OpS := (l.take i).foldl cStep ([], [])
def cFile (l : List En) : List UInt8 := cFlush (l.foldl cStep ([], [])).1 (l.foldl cStep ([], [])).2
def sCompact (s : Sto) : Sto := ⟨cFile (sList s.m []), (cFile (sList s.m [])).length, s.m⟩
theorem qg1 (l : List En) {i : Nat} (h : i < l.length) : cAt l (i + 1) = cStep (cAt l i) l[i] := by
 unfold cAt
 rw [List.take_succ_eq_append_getElem h, List.foldl_append]; rfl
theorem qg2 (file : List UInt8) (ops : List OpS) (ex : List D) (hex : D.noPtrL ex = true) (ho : ops.length ≤ 100000) (hf : file.length ≤ 100000000) :
  ACall Try.prog 67 [.d (.ptr 0 0), .d (.ptr 1 0)] [.row [.d (.ref 2 0 3 ops.length)], .row [.d (.sl 1 (byteRows file)), .d (.int .i64 0)], .row ((flatOp ops ++ ex).map .d)] (.tup [])
   [.row [.d .nilsl], .row [.d (.sl 1 (byteRows (cFlush file ops))), .d (.int .i64 0)], .row ((flatOp ops ++ ex).map .d)] := by
 have hnp : D.noPtrL (flatOp ops ++ ex) = true := by rw [zb, x6, hex]; rfl
 have hE := qdq ops ex hex ho
 refine F67.goT ?_
 try (refine ev ?_; try exact True.intro)
 refine clO [2] F30 hE ?_ (hik := by try (refine ev2 @hnp @D.inKL_noPtr ?_; try exact True.intro)) (hold := by try (refine ev1 @hnp ?_; try exact True.intro)) (htk := by try (refine ev1 @hnp ?_; try exact True.intro))
 try (refine ev1 @hnp ?_; try exact True.intro)
 refine xt _ (fun h => ?_) (fun h => ?_)
 ·have he : (sEncode ops).2 = 0 := by simpa using h
  have hc : cFlush file ops = wAppend file (sEncode ops).1 := by rw [cFlush, if_pos he]
  try (refine ev ?_; try exact True.intro)
  (repeat (with_reducible refine ob ?_)); first | refine cl F42 (qac file (sEncode ops).1 0 hf (x5 ops)) ?_ | refine clF F42 (qac file (sEncode ops).1 0 hf (x5 ops)) (fun _ => by (refine ev3 @encOp.eq_1 @encEn.eq_1 @encStep.eq_1 ?_; try exact True.intro)) ?_
  try (refine ev3 @encLog.eq_1 @hc @hnp ?_; try exact True.intro)
 ·have he : ¬ (sEncode ops).2 = 0 := by simpa using h
  have hc : cFlush file ops = file := by rw [cFlush, if_neg he]
  try (refine ev2 @hc @hnp ?_; try exact True.intro)
theorem xha {os : List AObj} {id : Nat} {ops : List OpS} {ex : List D} {o : OpS} {rd : Option Nat} {ok : Prop} (h : objCells os id = ((flatOp ops ++ ex).map .d)) : appCells os id 3 ops.length ⟨[encOp o], rd, ok⟩ = (flatOp (ops ++ [o])).map .d := by
 have hl := jq ops
 have h1 : flatOp (ops ++ [o]) = flatOp ops ++ encOp o := by simp [flatOp]
 unfold appCells
 rw [h, ← List.map_take, List.take_append_of_le_length (by omega), List.take_of_length_le (by omega), h1, List.map_append]
 simp
theorem qon {os : List AObj} {id : Nat} {ops : List OpS} {ex : List D} {e : En} {rd : Option Nat} {ok : Prop} (h : objCells os id = ((flatOp ops ++ ex).map .d)) : appCells os id 3 ops.length ⟨[[.str e.1, .bool false, .sl 1 (byteRows e.2)]], rd, ok⟩ = (flatOp (ops ++ [cOp e])).map .d := xha (o := cOp e) h
structure CIs (i : Nat) (x : List UInt8 × List OpS) : Prop where
 file : x.1.length ≤ i * 70000
 ops : x.2 = [] ∨ (sEncode x.2).2 = 0
theorem xes {e : En} (h : kvOk (0, e.1, e.2)) : (sEncode [cOp e]).2 = 0 := by
 obtain ⟨h1, h2, h3⟩ := h
 simp only at h1 h2 h3
 have hp : sProper (cOp e) = true := xo.2 ⟨h1, h2, h3, fun h => by cases h⟩
 have hw := qk2 hp
 have hi := zo (xc (n := 1) (by omega))
 have hl : (wOps [cOp e]).length ≤ 2000 := by
  simp only [wOps, List.flatMap_cons, List.flatMap_nil, List.append_nil, List.length_append, List.length_singleton]
  omega
 unfold sEncode
 have q1 : ¬ (decide ([cOp e].length = 0) || [cOp e].any (fun o => !sProper o)) = true := by
  rw [List.any_cons, hp]
  exact Bool.false_ne_true
 rw [if_neg q1, if_neg (by simp only [List.length_singleton, Bool.or_eq_true, decide_eq_true_eq]; omega)]
theorem qbb (file : List UInt8) (ops : List OpS) : (cFlush file ops).length ≤ file.length + 70000 := by
 unfold cFlush
 split
 ·exact qdd _ _ (x5 ops)
 ·omega
theorem qum {i : Nat} {x : List UInt8 × List OpS} {e : En} (h : CIs i x) (he : kvOk (0, e.1, e.2)) : CIs (i + 1) (cStep x e) := by
 have hf := h.file
 unfold cStep
 split
 ·have := qbb x.1 x.2
  exact ⟨by show (cFlush x.1 x.2).length ≤ _; rw [Nat.add_mul]; omega, .inr (xes he)⟩
 ·rename_i hn
  refine ⟨?_, .inr (by simpa only [ne_eq, Classical.not_not] using hn)⟩
  have h2 : i * 70000 ≤ (i + 1) * 70000 := Nat.mul_le_mul_right _ (Nat.le_succ i)
  exact Nat.le_trans hf h2
theorem CIs.few {i : Nat} {x : List UInt8 × List OpS} (h : CIs i x) : x.2.length ≤ 20 := by
 rcases h.ops with h | h
 ·rw [h]; simp
 ·exact (xe h).1
theorem qrv (l : List En) (hl : ∀ e ∈ l, kvOk (0, e.1, e.2)) : ∀ i, i ≤ l.length → CIs i (cAt l i)
 | 0, _ => ⟨by simp [cAt], .inl (by simp [cAt])⟩
 | i + 1, h => by
  rw [qg1 l h]
  exact qum (qrv l hl i (by omega)) (hl _ (List.getElem_mem h))
def Scom (s : Sto) (l : List En) (i : Nat) (x : List UInt8 × List OpS) : St :=
 ⟨[(0, true, .d (.ptr 0 0)), (3, true, .d (.ptr 2 0)), (4, true, .d (.ptr 3 0)), (5, true, .d (.func (.func 67) [] [.ptr 3 0, .ptr 2 0])), (15, true, .d (.sl 2 (l.map encEn))), (16, true, .d (.int .i64 l.length)), (17, true, .d (.int .i64 (i : Nat)))],
  [stoO s 1, mapO s.m, .row [.d (.sl 1 (byteRows x.1)), .d (.int .i64 0)], .row [.uni 0 3 (x.2.map encOp)]], [0], 1⟩
set_option maxRecDepth 10000 in
theorem qoo (s : Sto) (hs : s.m.Good) :
  ACall Try.prog 27 [.d (.ptr 0 0)] [stoO s 1, mapO s.m] (.d (.int .i64 0)) [stoO (sCompact s) 1, mapO s.m] := by
 have hls := qqs s [] hs.ok (by have := hs.few; omega) (fun x hx => by have := (hs.small x hx).2.2; omega)
 have hll : (sList s.m []).length ≤ 400 := Nat.le_trans (qi6 s.m []) hs.few
 have hkv : ∀ e ∈ sList s.m [], kvOk (0, e.1, e.2) := by
  intro e he
  rw [sList, (xf _).mem_iff, preL, List.mem_map] at he
  obtain ⟨y, hy, rfl⟩ := he
  exact hs.small y (List.mem_filter.1 hy).1
 have hfin : cFile (sList s.m []) = cFlush (cAt (sList s.m []) (sList s.m []).length).1 (cAt (sList s.m []) (sList s.m []).length).2 := by rw [cFile, cAt, List.take_length]
 unfold sCompact
 simp only [stoO, mapO] at hls
 generalize sList s.m [] = l at hls hll hkv hfin
 refine xf1.go ?_
 try (refine ev2 @stoO.eq_1 @mapO.eq_1 ?_; try exact True.intro)
 (repeat (with_reducible refine ob ?_)); refine no_ ?_
 try (refine ev ?_; try exact True.intro)
 refine clO [0, 1] q96 hls ?_
 try (refine ev ?_; try exact True.intro)
 refine ql (fun i : { i : Nat // i ≤ l.length } => Scom s l i.val (cAt l i.val)) (fun i => l.length - i.val) ⟨0, Nat.zero_le _⟩ ?_ (fun i => ?_)
 ·have h0 : cAt l 0 = ([], []) := rfl
  try (refine ev7 @Scom.eq_1 @stoO.eq_1 @mapO.eq_1 @h0 @List.map_nil.{0,0} @qj @Int.ofNat_zero ?_; try exact True.intro)
 obtain ⟨i, hi⟩ := i
 have hci := qrv l hkv i hi
 have hcf := hci.few
 have hcl := hci.file
 try (refine ev3 @Scom.eq_1 @stoO.eq_1 @mapO.eq_1 ?_; try exact True.intro)
 refine xt _ (fun hc => ?_) (fun hc => ?_)
 ·have hil : i < l.length := by simpa using hc
  have hnx := qg1 l hil
  generalize cAt l i = x at hci hcf hcl hnx
  obtain ⟨file, ops⟩ := x
  simp only at hci hcf hcl
  try (refine ev ?_; try exact True.intro)
  refine qp3 (.cell 3 0) 0 3 (ops.map encOp) ?_
  refine pu ?_
  have he2 : flatOp (ops ++ [cOp l[i]]) = flatOp ops ++ encOp (cOp l[i]) := by simp [flatOp]
  have hF := F67
  have hnp1 := x6 ops
  have hnp2 := x6 (ops ++ [cOp l[i]])
  have hE := qdq (ops ++ [cOp l[i]]) [] rfl (by simp only [List.length_append, List.length_singleton]; omega)
  have hfA := qg2 file ops (encOp (cOp l[i])) (yc _) (by omega) (by omega)
  have hfB := qg2 file ops [] rfl (by omega) (by omega)
  rw [List.append_nil] at hE hfB
  rw [← he2] at hfA
  simp only [List.length_append, List.length_singleton] at hE
  have hfd : (ops.map encOp).flatten = flatOp ops := rfl
  try (refine ev3 (qt encEn l hil) @encEn.eq_1 @hfd ?_; try exact True.intro)
  refine ⟨by omega, ?_⟩
  refine qc0 4 ops.length rfl ?_ ?_ ?_ ?_ ?_
  ·rw [qon (e := l[i]) (ex := []) (by rw [List.append_nil]; rfl)]
   try (refine ev2 @hnp2 @hnp1 ?_; try exact True.intro)
   refine clO [4] F30 hE ?_ (hik := by try (refine ev2 @hnp2 @D.inKL_noPtr ?_; try exact True.intro)) (hold := by try (refine ev1 @hnp2 ?_; try exact True.intro)) (htk := by try (refine ev1 @hnp2 ?_; try exact True.intro))
   try (refine ev2 @hnp2 @hnp1 ?_; try exact True.intro)
   refine xt _ (fun hx => ?_) (fun hx => ?_)
   ·skip
    have hxe : cStep (file, ops) l[i] = (cFlush file ops, [cOp l[i]]) := by rw [cStep, if_pos (by simpa using hx)]
    rw [hxe] at hnx
    try (refine ev ?_; try exact True.intro)
    refine clO [3, 2, 4] hF hfA ?_ (hik := by try (refine ev3 @hnp2 @hnp1 @D.inKL_noPtr ?_; try exact True.intro)) (hold := by try (refine ev2 @hnp2 @hnp1 ?_; try exact True.intro)) (htk := by try (refine ev2 @hnp2 @hnp1 ?_; try exact True.intro))
    try (refine ev2 @hnp2 @hnp1 ?_; try exact True.intro)
    refine qey rfl ?_ ⟨by show 1 * 48 ≤ 140737488355328; decide, by show 1 ≤ 9223372036854775807; decide⟩
    try (refine ev2 @hnp2 @hnp1 ?_; try exact True.intro)
    refine qew (.cell 3 0) 8 3 ([cOp l[i]].map encOp) ?_ (hc := rfl) (hes := ?_) (hcl := ?_) (hok := D.okWR_noPtr (zq _)) (hn := by simp [Pos.notIn])
    ·refine pu ?_
     try (refine ev2 @hnp2 @hnp1 ?_; try exact True.intro)
     refine ⟨⟨i + 1, hil⟩, ?_, by dsimp only; omega⟩
     try (refine ev7 @Scom.eq_1 @stoO.eq_1 @mapO.eq_1 @hnx @hnp1 @hnp2 (qk (show i < 9223372036854775807 by omega)) ?_; try exact True.intro)
    ·intro r hr
     obtain ⟨x, _, rfl⟩ := List.mem_map.1 hr
     rfl
    ·exact fun d hd => List.all_eq_true.1 (jb _) d hd
   ·skip
    have hxo : cStep (file, ops) l[i] = (file, ops ++ [cOp l[i]]) := by rw [cStep, if_neg (by simpa using hx)]
    rw [hxo] at hnx
    try (refine ev ?_; try exact True.intro)
    refine qc0 4 ops.length rfl ?_ ?_ ?_ ?_ ?_
    ·rw [qon (e := l[i]) (ex := encOp (cOp l[i])) (by rw [← he2]; rfl)]
     try (refine ev2 @hnp2 @hnp1 ?_; try exact True.intro)
     refine qew (.cell 3 0) 4 3 ((ops ++ [cOp l[i]]).map encOp) ?_ (hc := rfl) (hes := ?_) (hcl := ?_) (hok := D.okWR_noPtr (zq _)) (hp := by simp only [List.length_map, List.length_append, List.length_singleton]; rfl) (hn := by simp [Pos.notIn])
     ·refine pu ?_
      try (refine ev2 @hnp2 @hnp1 ?_; try exact True.intro)
      refine ⟨⟨i + 1, hil⟩, ?_, by dsimp only; omega⟩
      try (refine ev7 @Scom.eq_1 @stoO.eq_1 @mapO.eq_1 @hnx @hnp1 @hnp2 (qk (show i < 9223372036854775807 by omega)) ?_; try exact True.intro)
     ·intro r hr
      obtain ⟨x, _, rfl⟩ := List.mem_map.1 hr
      rfl
     ·exact fun d hd => List.all_eq_true.1 (jb _) d hd
    ·rw [qon (e := l[i]) (ex := encOp (cOp l[i])) (by rw [← he2]; rfl)]
     try (refine ev2 @hnp2 @hnp1 ?_; try exact True.intro)
     refine qew (.cell 3 0) 8 3 ((ops ++ [cOp l[i]]).map encOp) ?_ (hc := rfl) (hes := ?_) (hcl := ?_) (hok := D.okWR_noPtr (zq _)) (hp := by simp only [List.length_map, List.length_append, List.length_singleton]; rfl) (hn := by simp [Pos.notIn])
     ·refine pu ?_
      try (refine ev2 @hnp2 @hnp1 ?_; try exact True.intro)
      refine ⟨⟨i + 1, hil⟩, ?_, by dsimp only; omega⟩
      try (refine ev7 @Scom.eq_1 @stoO.eq_1 @mapO.eq_1 @hnx @hnp1 @hnp2 (qk (show i < 9223372036854775807 by omega)) ?_; try exact True.intro)
     ·intro r hr
      obtain ⟨x, _, rfl⟩ := List.mem_map.1 hr
      rfl
     ·exact fun d hd => List.all_eq_true.1 (jb _) d hd
    ·show ops.length * 3 ≤ ((flatOp (ops ++ [cOp l[i]])).map ASlot.d).length; rw [List.length_map, jq, List.length_append]; omega
    ·show (ops.length + 1) * 48 ≤ _; omega
    ·show ops.length + 1 ≤ _; omega
  ·rw [qon (e := l[i]) (ex := []) (by rw [List.append_nil]; rfl)]
   try (refine ev2 @hnp2 @hnp1 ?_; try exact True.intro)
   refine clO [7] F30 hE ?_ (hik := by try (refine ev2 @hnp2 @D.inKL_noPtr ?_; try exact True.intro)) (hold := by try (refine ev1 @hnp2 ?_; try exact True.intro)) (htk := by try (refine ev1 @hnp2 ?_; try exact True.intro))
   try (refine ev2 @hnp2 @hnp1 ?_; try exact True.intro)
   refine xt _ (fun hx => ?_) (fun hx => ?_)
   ·skip
    have hxe : cStep (file, ops) l[i] = (cFlush file ops, [cOp l[i]]) := by rw [cStep, if_pos (by simpa using hx)]
    rw [hxe] at hnx
    try (refine ev ?_; try exact True.intro)
    refine clO [3, 2, 4] hF hfB ?_ (hik := by try (refine ev3 @hnp2 @hnp1 @D.inKL_noPtr ?_; try exact True.intro)) (hold := by try (refine ev2 @hnp2 @hnp1 ?_; try exact True.intro)) (htk := by try (refine ev2 @hnp2 @hnp1 ?_; try exact True.intro))
    try (refine ev2 @hnp2 @hnp1 ?_; try exact True.intro)
    refine qey rfl ?_ ⟨by show 1 * 48 ≤ 140737488355328; decide, by show 1 ≤ 9223372036854775807; decide⟩
    try (refine ev2 @hnp2 @hnp1 ?_; try exact True.intro)
    refine qew (.cell 3 0) 8 3 ([cOp l[i]].map encOp) ?_ (hc := rfl) (hes := ?_) (hcl := ?_) (hok := D.okWR_noPtr (zq _)) (hn := by simp [Pos.notIn])
    ·refine pu ?_
     try (refine ev2 @hnp2 @hnp1 ?_; try exact True.intro)
     refine ⟨⟨i + 1, hil⟩, ?_, by dsimp only; omega⟩
     try (refine ev7 @Scom.eq_1 @stoO.eq_1 @mapO.eq_1 @hnx @hnp1 @hnp2 (qk (show i < 9223372036854775807 by omega)) ?_; try exact True.intro)
    ·intro r hr
     obtain ⟨x, _, rfl⟩ := List.mem_map.1 hr
     rfl
    ·exact fun d hd => List.all_eq_true.1 (jb _) d hd
   ·skip
    have hxo : cStep (file, ops) l[i] = (file, ops ++ [cOp l[i]]) := by rw [cStep, if_neg (by simpa using hx)]
    rw [hxo] at hnx
    try (refine ev ?_; try exact True.intro)
    refine qc0 4 ops.length rfl ?_ ?_ ?_ ?_ ?_
    ·rw [qon (e := l[i]) (ex := []) (by rw [List.append_nil]; rfl)]
     try (refine ev2 @hnp2 @hnp1 ?_; try exact True.intro)
     refine qew (.cell 3 0) 4 3 ((ops ++ [cOp l[i]]).map encOp) ?_ (hc := rfl) (hes := ?_) (hcl := ?_) (hok := D.okWR_noPtr (zq _)) (hp := by simp only [List.length_map, List.length_append, List.length_singleton]; rfl) (hn := by simp [Pos.notIn])
     ·refine pu ?_
      try (refine ev2 @hnp2 @hnp1 ?_; try exact True.intro)
      refine ⟨⟨i + 1, hil⟩, ?_, by dsimp only; omega⟩
      try (refine ev7 @Scom.eq_1 @stoO.eq_1 @mapO.eq_1 @hnx @hnp1 @hnp2 (qk (show i < 9223372036854775807 by omega)) ?_; try exact True.intro)
     ·intro r hr
      obtain ⟨x, _, rfl⟩ := List.mem_map.1 hr
      rfl
     ·exact fun d hd => List.all_eq_true.1 (jb _) d hd
    ·rw [qon (e := l[i]) (ex := []) (by rw [List.append_nil]; rfl)]
     try (refine ev2 @hnp2 @hnp1 ?_; try exact True.intro)
     refine qew (.cell 3 0) 8 3 ((ops ++ [cOp l[i]]).map encOp) ?_ (hc := rfl) (hes := ?_) (hcl := ?_) (hok := D.okWR_noPtr (zq _)) (hp := by simp only [List.length_map, List.length_append, List.length_singleton]; rfl) (hn := by simp [Pos.notIn])
     ·refine pu ?_
      try (refine ev2 @hnp2 @hnp1 ?_; try exact True.intro)
      refine ⟨⟨i + 1, hil⟩, ?_, by dsimp only; omega⟩
      try (refine ev7 @Scom.eq_1 @stoO.eq_1 @mapO.eq_1 @hnx @hnp1 @hnp2 (qk (show i < 9223372036854775807 by omega)) ?_; try exact True.intro)
     ·intro r hr
      obtain ⟨x, _, rfl⟩ := List.mem_map.1 hr
      rfl
     ·exact fun d hd => List.all_eq_true.1 (jb _) d hd
    ·show ops.length * 3 ≤ ((flatOp ops).map ASlot.d).length; rw [List.length_map, jq]; omega
    ·show (ops.length + 1) * 48 ≤ _; omega
    ·show ops.length + 1 ≤ _; omega
  ·show ops.length * 3 ≤ ((flatOp ops).map ASlot.d).length
   rw [List.length_map, jq]; omega
  ·show (ops.length + 1) * 48 ≤ _; omega
  ·show ops.length + 1 ≤ _; omega
 ·have hie : i = l.length := by
   have : l.length ≤ i := by simpa using hc
   omega
  subst hie
  generalize cAt l l.length = x at hci hcf hcl hfin
  obtain ⟨file, ops⟩ := x
  simp only at hci hcf hcl hfin
  have hnp1 := x6 ops
  have hfd : (ops.map encOp).flatten = flatOp ops := rfl
  have hfB := qg2 file ops [] rfl (by omega) (by omega)
  rw [List.append_nil] at hfB
  have hcf2 := qbb file ops
  try (refine ev ?_; try exact True.intro)
  refine qp3 (.cell 3 0) 0 3 (ops.map encOp) ?_
  refine pu ?_
  try (refine ev2 @hfd @hnp1 ?_; try exact True.intro)
  refine clO [3, 2, 4] F67 hfB ?_ (hik := by try (refine ev2 @hnp1 @D.inKL_noPtr ?_; try exact True.intro)) (hold := by try (refine ev1 @hnp1 ?_; try exact True.intro)) (htk := by try (refine ev1 @hnp1 ?_; try exact True.intro))
  try (refine ev1 @hnp1 ?_; try exact True.intro)
  (repeat (with_reducible refine ob ?_)); first | refine cl F66 (wc (cFlush file ops) 0 (by omega)) ?_ | refine clF F66 (wc (cFlush file ops) 0 (by omega)) (fun _ => by (refine ev3 @encOp.eq_1 @encEn.eq_1 @encStep.eq_1 ?_; try exact True.intro)) ?_
  try (refine ev3 @encLog.eq_1 @hfin @hnp1 ?_; try exact True.intro)
end Go.Proofs.Ytinnaedmdoengaa
namespace Go.Proofs.Ytinnaedmdoengaa
open Go.Abs
set_option linter.unusedSimpArgs false
set_option linter.unusedVariables false
theorem qjq (x : En) : ∀ (a : List En), (∀ y ∈ a, cmpB y.1 x.1 < 0) → eSet x a = a ++ [x]
 | [], _ => rfl
 | y :: a, h => by
  have hy := h y List.mem_cons_self
  rw [eSet, wh, if_pos (by simpa using hy), qjq x a (fun z hz => h z (List.mem_cons_of_mem _ hz))]
  rfl
theorem v6 : ∀ (b a : List En), Sorted (a ++ b) → (a ++ b).length ≤ 400 → eApply a (b.map cOp) = (a ++ b, true)
 | [], a, _, _ => by rw [List.map_nil, eApply, List.append_nil]
 | e :: b, a, hs, hl => by
  have hlast : eSet e a = a ++ [e] := qjq e a fun y hy => (List.pairwise_append.1 hs).2.2 y hy e List.mem_cons_self
  have ho : eOp a (cOp e) = a ++ [e] := by rw [eOp, if_neg (by simp [cOp])]; exact hlast
  have happ : a ++ e :: b = (a ++ [e]) ++ b := by simp
  rw [List.map_cons, eApply, ho, if_neg (by simp only [List.length_append, List.length_cons, List.length_nil] at hl ⊢; omega), happ]
  rw [happ] at hs hl
  exact v6 b (a ++ [e]) hs hl
structure CTx (x : List UInt8 × List OpS) (ts : List (List OpS)) (ops : List OpS) : Prop where
 file : x.1 = txFile ts
 enc : ∀ t ∈ ts, (sEncode t).2 = 0
 now : x.2 = [] ∨ (sEncode x.2).2 = 0
 all : ts.flatten ++ x.2 = ops
theorem q5h {t : List OpS} (h : (sEncode t).2 = 0) : t ≠ [] := by
 rintro rfl
 simp [sEncode] at h
theorem qml {x : List UInt8 × List OpS} {ts : List (List OpS)} {ops : List OpS} (h : CTx x ts ops) : ∃ ts', cFlush x.1 x.2 = txFile ts' ∧ (∀ t ∈ ts', (sEncode t).2 = 0) ∧ ts'.flatten = ops := by
 unfold cFlush
 by_cases he : (sEncode x.2).2 = 0
 ·rw [if_pos he, (xe he).2.2]
  refine ⟨ts ++ [x.2], by rw [yi, h.file], fun t ht => ?_, by rw [← h.all]; simp⟩
  rcases List.mem_append.1 ht with ht | ht
  ·exact h.enc t ht
  ·simp at ht; subst ht; exact he
 ·rw [if_neg he]
  have hn : x.2 = [] := h.now.resolve_right he
  refine ⟨ts, h.file, h.enc, ?_⟩
  have := h.all
  rw [hn, List.append_nil] at this
  exact this
theorem qva (l : List En) (hl : ∀ e ∈ l, kvOk (0, e.1, e.2)) : ∀ i, i ≤ l.length → ∃ ts, CTx (cAt l i) ts ((l.take i).map cOp)
 | 0, _ => ⟨[], ⟨rfl, by simp, .inl rfl, rfl⟩⟩
 | i + 1, h => by
  obtain ⟨ts, hts⟩ := qva l hl i (by omega)
  have hk := xes (hl _ (List.getElem_mem (show i < l.length from h)))
  rw [qg1 l h]
  have hmap : (l.take (i + 1)).map cOp = (l.take i).map cOp ++ [cOp l[i]] := by rw [List.take_succ_eq_append_getElem h, List.map_append]; rfl
  unfold cStep
  split
  ·obtain ⟨ts', q1, q2, q3⟩ := qml hts
   exact ⟨ts', ⟨q1, q2, .inr hk, by rw [hmap, q3]⟩⟩
  ·rename_i hn
   exact ⟨ts, ⟨hts.file, hts.enc, .inr (by simpa only [ne_eq, Classical.not_not] using hn), by rw [hmap, ← hts.all, List.append_assoc]⟩⟩
theorem qrw {m : Cont} (hm : m.Good) : ∀ e ∈ entsOf m, kvOk (0, e.1, e.2) := by
 intro e he
 rw [entsOf, sList, (xf _).mem_iff, preL, List.mem_map] at he
 obtain ⟨y, hy, rfl⟩ := he
 exact hm.small y (List.mem_filter.1 hy).1
theorem qop {s : Sto} (hs : s.m.Good) : ∃ ts, Bk (sCompact s) ts ∧ ts.flatten = (entsOf s.m).map cOp := by
 obtain ⟨ts0, h0⟩ := qva (entsOf s.m) (qrw hs) (entsOf s.m).length (Nat.le_refl _)
 rw [List.take_length] at h0
 obtain ⟨ts, q1, q2, q3⟩ := qml h0
 have hf : cFile (entsOf s.m) = txFile ts := by
  rw [cFile, ← q1, cAt, List.take_length]
 have hap := v6 (entsOf s.m) [] (xq hs.ok) (by rw [List.nil_append, qah]; exact hs.few)
 rw [List.nil_append, ← q3] at hap
 exact ⟨ts, ⟨hf, q2, qjm ts [] _ hap⟩, q3⟩
theorem qdr : ∀ (n : Nat) (r : List UInt8), r.length ≤ n → (partsOf r).length = (r.length - 1) / 22 + 1
 | n, r, hn => by
  by_cases h : r.length > 22
  ·rw [xm h]
   cases n with
   | zero => omega
   | succ n =>
    have := qdr n (r.drop 22) (by rw [List.length_drop]; omega)
    rw [List.length_drop] at this
    rw [List.length_cons, this]
    omega
  ·rw [xn h]
   simp only [List.length_singleton]
   omega
def txLen (ts : List (List OpS)) : Nat := (ts.map fun t => (partsOf (wOps t)).length).sum
theorem qfp (ts : List (List OpS)) : (txFile ts).length = 32 * txLen ts := by
 refine qaj (P := fun ts => (txFile ts).length = 32 * txLen ts) rfl (fun l x ih => ?_) _ ts rfl
 rw [yi, wi, List.length_append, qai, ih]
 simp only [txLen, List.map_append, List.sum_append, List.map_cons, List.map_nil, List.sum_cons, List.sum_nil]
 omega
theorem qmm {n : Nat} (h : n ≤ 20) : (wInt n).length = 1 := by
 have hz : zz (n : Int) < 128 := by unfold zz; rw [if_pos (by omega)]; omega
 rw [wInt, zy hz]; rfl
theorem qvb (o : OpS) : (partsOf (wOps [o])).length = (wOp o).length / 22 + 1 := by
 have h1 : (wInt ((([o] : List OpS)).length : Nat)).length = 1 := qmm (by simp)
 have h2 : (wOps [o]).length = 1 + (wOp o).length := by rw [wOps, List.length_append, h1]; simp
 rw [qdr _ _ (Nat.le_refl _), h2]
 congr 2
 omega
theorem qvc : ∀ (t : List OpS), t ≠ [] → (t.flatMap wOp).length / 22 + 1 ≤ (t.map fun o => (partsOf (wOps [o])).length).sum
 | [], h => (h rfl).elim
 | [o], _ => by simp [qvb]
 | o :: o' :: t, _ => by
  have ih := qvc (o' :: t) (by simp)
  rw [List.flatMap_cons, List.length_append, List.map_cons, List.sum_cons, qvb]
  omega
theorem xet {t : List OpS} (h : (sEncode t).2 = 0) : (partsOf (wOps t)).length ≤ (t.map fun o => (partsOf (wOps [o])).length).sum := by
 have h20 := (xe h).1
 have := qvc t (q5h h)
 have hl : (wOps t).length = 1 + (t.flatMap wOp).length := by rw [wOps, List.length_append, qmm h20]
 rw [qdr _ _ (Nat.le_refl _), hl]
 have e : 1 + (t.flatMap wOp).length - 1 = (t.flatMap wOp).length := by omega
 rw [e]; exact this
theorem qmn : ∀ (ts : List (List OpS)), (∀ t ∈ ts, (sEncode t).2 = 0) → txLen ts ≤ txLen (ts.flatten.map fun o => [o])
 | [], _ => Nat.le_refl _
 | t :: ts, h => by
  have ih := qmn ts fun x hx => h x (List.mem_cons_of_mem _ hx)
  have h1 := xet (h t List.mem_cons_self)
  simp only [txLen, List.map_cons, List.sum_cons, List.flatten_cons, List.map_append, List.sum_append, List.map_map] at ih ⊢
  have h2 : (List.map ((fun t => (partsOf (wOps t)).length) ∘ fun o => [o]) t).sum = (t.map fun o => (partsOf (wOps [o])).length).sum := rfl
  rw [h2]
  omega
end Go.Proofs.Ytinnaedmdoengaa
namespace Go.Proofs.Ytinnaedmdoengaa
open Go.Abs
set_option linter.unusedSimpArgs false
set_option linter.unusedVariables false
noncomputable section
set_option maxRecDepth 100000
def s38r0 : List SOper := [
 ⟨some 2, .box 1 (.t 0), none⟩,
 ⟨some 4, .mov (.k (.d .nilsl)), none⟩]
def s38r1 : List SOper := [
 ⟨some 6, .faddr 1 (.t 2), none⟩,
 ⟨some 7, .load none (.t 6), none⟩,
 ⟨some 8, .bin .lss (.t 7) (.k (.d (.int .i64 0))), none⟩,
 ⟨some 9, .mov (.t 8), none⟩,
 ⟨some 10, .faddr 1 (.t 2), some (9, false)⟩,
 ⟨some 11, .load none (.t 10), some (9, false)⟩,
 ⟨some 12, .faddr 0 (.t 2), some (9, false)⟩,
 ⟨some 13, .load none (.t 12), some (9, false)⟩,
 ⟨some 14, .len (.t 13), some (9, false)⟩,
 ⟨some 15, .bin .gtr (.t 11) (.t 14), some (9, false)⟩,
 ⟨some 16, .pick (.t 9) (.k (.d (.bool true))) (.t 15), none⟩]
def s38r2 : List SOper := [
 ⟨some 4, .mov (.k (.d .nilsl)), none⟩]
def s38r3 : List SOper := [
 ⟨some 17, .mov (.t 1), none⟩,
 ⟨some 18, .minmax true (.k (.d (.int .i64 0))) (.t 17), none⟩,
 ⟨some 19, .faddr 0 (.t 2), none⟩,
 ⟨some 20, .load none (.t 19), none⟩,
 ⟨some 21, .len (.t 20), none⟩,
 ⟨some 22, .faddr 1 (.t 2), none⟩,
 ⟨some 23, .load none (.t 22), none⟩,
 ⟨some 24, .bin .sub (.t 21) (.t 23), none⟩,
 ⟨some 25, .bin .add (.t 24) (.k (.d (.int .i64 1))), none⟩,
 ⟨some 26, .bin .rem (.t 18) (.t 25), none⟩,
 ⟨some 5, .mov (.t 26), none⟩]
def s38r4 : List SOper := [
 ⟨some 27, .faddr 0 (.t 2), none⟩,
 ⟨some 28, .load none (.t 27), none⟩,
 ⟨some 29, .faddr 1 (.t 2), none⟩,
 ⟨some 30, .load none (.t 29), none⟩,
 ⟨some 31, .mov (.t 5), none⟩,
 ⟨some 32, .bin .add (.t 30) (.t 31), none⟩,
 ⟨some 33, .slice 1 (.t 28) none (some (.t 32)) none, none⟩,
 ⟨some 34, .call (.k (.d (.func (.func 43) [] []))) [(.t 33)], none⟩,
 ⟨some 4, .mov (.t 34), none⟩]
def s38 : SCode := (.seq (.region s38r0 1 []) (.seq (.seq (.region s38r1 0 []) (.cond (.t 16) (.seq (.region s38r2 0 []) .ret) .skip)) (.seq (.region s38r3 0 []) (.seq (.region s38r4 0 []) .ret))))
theorem e38 : CodeIs s38.eq_1 := qc s38.eq_1
theorem xeu : RegIs s38r0.eq_1 := qa
theorem xev : RegIs s38r1.eq_1 := qa
theorem xew : RegIs s38r2.eq_1 := qa
theorem xex : RegIs s38r3.eq_1 := qa
theorem xey : RegIs s38r4.eq_1 := qa
attribute [go_sem] xeu xev xew xex xey e38
theorem F38 : FnIs Try.prog 38 Try.f38 [] news s38 [.tmp 4] 35 := xg follows Try.func38
def s39r0 : List SOper := [
 ⟨some 4, .mov (.k (.d (.bool false))), none⟩]
def s39r1 : List SOper := [
 ⟨some 6, .mov (.t 0), none⟩,
 ⟨some 7, .len (.t 6), none⟩,
 ⟨some 8, .mov (.t 1), none⟩,
 ⟨some 9, .len (.t 8), none⟩,
 ⟨some 10, .bin .neq (.t 7) (.t 9), none⟩]
def s39r2 : List SOper := [
 ⟨some 4, .mov (.k (.d (.bool false))), none⟩]
def s39r3 : List SOper := [
 ⟨some 5, .mov (.k (.d (.int .i64 0))), none⟩]
def s39r4 : List SOper := [
 ⟨some 11, .mov (.t 5), none⟩,
 ⟨some 12, .mov (.t 0), none⟩,
 ⟨some 13, .len (.t 12), none⟩,
 ⟨some 14, .bin .lss (.t 11) (.t 13), none⟩]
def s39r5 : List SOper := [
 ⟨some 17, .mov (.t 0), none⟩,
 ⟨some 18, .mov (.t 5), none⟩,
 ⟨some 19, .iaddr 2 (.t 17) (.t 18), none⟩,
 ⟨some 20, .faddr 0 (.t 19), none⟩,
 ⟨some 21, .load none (.t 20), none⟩,
 ⟨some 22, .mov (.t 1), none⟩,
 ⟨some 23, .mov (.t 5), none⟩,
 ⟨some 24, .iaddr 2 (.t 22) (.t 23), none⟩,
 ⟨some 25, .faddr 0 (.t 24), none⟩,
 ⟨some 26, .load none (.t 25), none⟩,
 ⟨some 27, .bin .neq (.t 21) (.t 26), none⟩,
 ⟨some 28, .mov (.t 27), none⟩,
 ⟨some 29, .mov (.t 0), some (28, false)⟩,
 ⟨some 30, .mov (.t 5), some (28, false)⟩,
 ⟨some 31, .iaddr 2 (.t 29) (.t 30), some (28, false)⟩,
 ⟨some 32, .faddr 1 (.t 31), some (28, false)⟩,
 ⟨some 33, .load none (.t 32), some (28, false)⟩,
 ⟨some 34, .b2s (.t 33), some (28, false)⟩,
 ⟨some 35, .mov (.t 1), some (28, false)⟩,
 ⟨some 36, .mov (.t 5), some (28, false)⟩,
 ⟨some 37, .iaddr 2 (.t 35) (.t 36), some (28, false)⟩,
 ⟨some 38, .faddr 1 (.t 37), some (28, false)⟩,
 ⟨some 39, .load none (.t 38), some (28, false)⟩,
 ⟨some 40, .b2s (.t 39), some (28, false)⟩,
 ⟨some 41, .bin .neq (.t 34) (.t 40), some (28, false)⟩,
 ⟨some 42, .pick (.t 28) (.k (.d (.bool true))) (.t 41), none⟩]
def s39r6 : List SOper := [
 ⟨some 4, .mov (.k (.d (.bool false))), none⟩]
def s39r7 : List SOper := [
 ⟨some 15, .mov (.t 5), none⟩,
 ⟨some 16, .bin .add (.t 15) (.k (.d (.int .i64 1))), none⟩,
 ⟨some 5, .mov (.t 16), none⟩]
def s39l8 : SCode := (.seq (.seq (.region s39r4 0 []) (.cond (.t 14) .skip (.exit 0))) (.seq (.block 1 (.seq (.region s39r5 0 []) (.cond (.t 42) (.seq (.region s39r6 0 []) .ret) .skip))) (.region s39r7 0 [])))
theorem xez : CodeIs s39l8.eq_1 := qc s39l8.eq_1
def s39r9 : List SOper := [
 ⟨some 4, .mov (.k (.d (.bool true))), none⟩]
def s39 : SCode := (.seq (.region s39r0 0 []) (.seq (.seq (.region s39r1 0 []) (.cond (.t 10) (.seq (.region s39r2 0 []) .ret) .skip)) (.seq (.seq (.region s39r3 0 []) (.block 0 (.loop s39l8))) (.seq (.region s39r9 0 []) .ret))))
theorem e39 : CodeIs s39.eq_1 := qc s39.eq_1
theorem xe0 : RegIs s39r0.eq_1 := qa
theorem xe1 : RegIs s39r1.eq_1 := qa
theorem xe2 : RegIs s39r2.eq_1 := qa
theorem xe3 : RegIs s39r3.eq_1 := qa
theorem xe4 : RegIs s39r4.eq_1 := qa
theorem xe5 : RegIs s39r5.eq_1 := qa
theorem xe6 : RegIs s39r6.eq_1 := qa
theorem xe7 : RegIs s39r7.eq_1 := qa
theorem xe8 : RegIs s39r9.eq_1 := qa
attribute [go_sem] xe0 xe1 xe2 xe3 xe4 xe5 xe6 xe7 xez xe8 e39
theorem F39 : FnIs Try.prog 39 Try.f39 [] news s39 [.tmp 4] 43 := xg follows Try.func39
def s8mr0 : List SOper := [
 ⟨some 2, .mov (.k (.d (.bool false))), none⟩]
def s8mr1 : List SOper := [
 ⟨some 12, .call (.k (.d (.func (.func 10) [] []))) [], none⟩,
 ⟨some 13, .not (.t 12), none⟩]
def s8mr2 : List SOper := [
 ⟨some 2, .mov (.k (.d (.bool false))), none⟩]
def s8mr3 : List SOper := [
 ⟨some 14, .mov (.t 0), none⟩,
 ⟨some 15, .call (.k (.d (.func (.func 11) [] []))) [(.t 14)], none⟩,
 ⟨some 16, .not (.t 15), none⟩]
def s8mr4 : List SOper := [
 ⟨some 2, .mov (.k (.d (.bool true))), none⟩]
def s8mr5 : List SOper := [
 ⟨some 17, .call (.k (.d (.func (.func 12) [] []))) [], none⟩,
 ⟨some 3, .mov (.t 17), none⟩]
def s8mr6 : List SOper := [
 ⟨some 4, .mov (.k (.d (.int .i64 0))), none⟩]
def s8mr7 : List SOper := [
 ⟨some 18, .mov (.t 4), none⟩,
 ⟨some 19, .mov (.t 0), none⟩,
 ⟨some 20, .len (.t 19), none⟩,
 ⟨some 21, .bin .lss (.t 18) (.t 20), none⟩]
def s8mr8 : List SOper := [
 ⟨some 24, .mov (.t 3), none⟩,
 ⟨some 25, .mov (.t 0), none⟩,
 ⟨some 26, .mov (.t 4), none⟩,
 ⟨some 27, .iaddr 2 (.t 25) (.t 26), none⟩,
 ⟨some 28, .faddr 1 (.t 27), none⟩,
 ⟨some 29, .load none (.t 28), none⟩,
 ⟨some 30, .call (.k (.d (.func (.func 14) [] []))) [(.t 29)], none⟩,
 ⟨some 31, .call (.k (.d (.func (.func 13) [] []))) [(.t 24), (.t 30)], none⟩]
def s8mr9 : List SOper := [
 ⟨some 22, .mov (.t 4), none⟩,
 ⟨some 23, .bin .add (.t 22) (.k (.d (.int .i64 1))), none⟩,
 ⟨some 4, .mov (.t 23), none⟩]
def s8ml10 : SCode := (.seq (.seq (.region s8mr7 0 []) (.cond (.t 21) .skip (.exit 0))) (.seq (.block 1 (.region s8mr8 1 [])) (.pause (.region s8mr9 0 []))))
theorem q5i : CodeIs s8ml10.eq_1 := qc s8ml10.eq_1
def s8mr11 : List SOper := [
 ⟨some 32, .mov (.t 3), none⟩,
 ⟨some 33, .call (.k (.d (.func (.func 36) [] []))) [(.t 32), (.k (.d (.str [])))], none⟩,
 ⟨some 5, .mov (.t 33), none⟩]
def s8mr12 : List SOper := [
 ⟨some 34, .mov (.t 3), none⟩,
 ⟨some 35, .call (.k (.d (.func (.func 27) [] []))) [(.t 34)], none⟩,
 ⟨some 6, .mov (.t 35), none⟩]
def s8mr13 : List SOper := [
 ⟨some 36, .mov (.t 3), none⟩,
 ⟨some 37, .call (.k (.d (.func (.func 28) [] []))) [(.t 36)], none⟩,
 ⟨some 7, .alloc 1 [(.d .nilsl), (.d (.int .i64 0))], none⟩,
 ⟨none, .store (some 2) (.t 7) (.t 37), none⟩]
def s8mr14 : List SOper := [
 ⟨some 39, .load (some 2) (.t 7), none⟩,
 ⟨some 40, .call (.k (.d (.func (.func 38) [] []))) [(.t 39), (.k (.d (.int .i64 0)))], none⟩,
 ⟨some 41, .call (.k (.d (.func (.func 37) [] []))) [(.t 40)], none⟩,
 ⟨some 38, .mov (.t 41), none⟩,
 ⟨some 42, .extract 0 (.t 38), none⟩,
 ⟨some 43, .extract 1 (.t 38), none⟩,
 ⟨some 8, .mov (.t 42), none⟩,
 ⟨some 9, .mov (.t 43), none⟩]
def s8mr15 : List SOper := [
 ⟨some 44, .mov (.t 6), none⟩,
 ⟨some 45, .bin .neq (.t 44) (.k (.d (.int .i64 0))), none⟩,
 ⟨some 46, .mov (.t 45), none⟩,
 ⟨some 47, .mov (.t 9), some (46, false)⟩,
 ⟨some 48, .bin .neq (.t 47) (.k (.d (.int .i64 0))), some (46, false)⟩,
 ⟨some 49, .pick (.t 46) (.k (.d (.bool true))) (.t 48), none⟩,
 ⟨some 50, .mov (.t 49), none⟩,
 ⟨some 51, .mov (.t 3), some (50, false)⟩,
 ⟨some 52, .call (.k (.d (.func (.func 36) [] []))) [(.t 51), (.k (.d (.str [])))], some (50, false)⟩,
 ⟨some 53, .mov (.t 5), some (50, false)⟩,
 ⟨some 54, .call (.k (.d (.func (.func 39) [] []))) [(.t 52), (.t 53)], some (50, false)⟩,
 ⟨some 55, .not (.t 54), some (50, false)⟩,
 ⟨some 56, .pick (.t 50) (.k (.d (.bool true))) (.t 55), none⟩,
 ⟨some 57, .mov (.t 56), none⟩,
 ⟨some 58, .mov (.t 8), some (57, false)⟩,
 ⟨some 59, .call (.k (.d (.func (.func 36) [] []))) [(.t 58), (.k (.d (.str [])))], some (57, false)⟩,
 ⟨some 60, .mov (.t 5), some (57, false)⟩,
 ⟨some 61, .call (.k (.d (.func (.func 39) [] []))) [(.t 59), (.t 60)], some (57, false)⟩,
 ⟨some 62, .not (.t 61), some (57, false)⟩,
 ⟨some 63, .pick (.t 57) (.k (.d (.bool true))) (.t 62), none⟩,
 ⟨some 64, .mov (.t 63), none⟩,
 ⟨some 65, .faddr 1 (.t 7), some (64, false)⟩,
 ⟨some 66, .load none (.t 65), some (64, false)⟩,
 ⟨some 67, .faddr 0 (.t 7), some (64, false)⟩,
 ⟨some 68, .load none (.t 67), some (64, false)⟩,
 ⟨some 69, .len (.t 68), some (64, false)⟩,
 ⟨some 70, .bin .neq (.t 66) (.t 69), some (64, false)⟩,
 ⟨some 71, .pick (.t 64) (.k (.d (.bool true))) (.t 70), none⟩]
def s8mr16 : List SOper := [
 ⟨some 2, .mov (.k (.d (.bool false))), none⟩]
def s8mr17 : List SOper := [
 ⟨some 72, .call (.k (.d (.func (.func 12) [] []))) [], none⟩,
 ⟨some 10, .mov (.t 72), none⟩]
def s8mr18 : List SOper := [
 ⟨some 11, .mov (.k (.d (.int .i64 0))), none⟩]
def s8mr19 : List SOper := [
 ⟨some 73, .mov (.t 11), none⟩,
 ⟨some 74, .mov (.t 5), none⟩,
 ⟨some 75, .len (.t 74), none⟩,
 ⟨some 76, .bin .lss (.t 73) (.t 75), none⟩]
def s8mr20 : List SOper := [
 ⟨some 79, .mov (.t 10), none⟩,
 ⟨some 80, .mov (.t 5), none⟩,
 ⟨some 81, .mov (.t 11), none⟩,
 ⟨some 82, .iaddr 2 (.t 80) (.t 81), none⟩,
 ⟨some 83, .faddr 0 (.t 82), none⟩,
 ⟨some 84, .load none (.t 83), none⟩,
 ⟨some 85, .mov (.t 5), none⟩,
 ⟨some 86, .mov (.t 11), none⟩,
 ⟨some 87, .iaddr 2 (.t 85) (.t 86), none⟩,
 ⟨some 88, .faddr 1 (.t 87), none⟩,
 ⟨some 89, .load none (.t 88), none⟩,
 ⟨some 90, .build [(.str []), (.bool false), .nilsl] [(0, 1, (.t 84)), (2, 1, (.t 89))], none⟩,
 ⟨some 91, .buildSlice false 3 1 [(.str []), (.bool false), .nilsl] [(0, 3, (.t 90))], none⟩,
 ⟨some 92, .call (.k (.d (.func (.func 13) [] []))) [(.t 79), (.t 91)], none⟩,
 ⟨some 93, .bin .neq (.t 92) (.k (.d (.int .i64 0))), none⟩]
def s8mr21 : List SOper := [
 ⟨some 2, .mov (.k (.d (.bool false))), none⟩]
def s8mr22 : List SOper := [
 ⟨some 77, .mov (.t 11), none⟩,
 ⟨some 78, .bin .add (.t 77) (.k (.d (.int .i64 1))), none⟩,
 ⟨some 11, .mov (.t 78), none⟩]
def s8ml23 : SCode := (.seq (.seq (.region s8mr19 0 []) (.cond (.t 76) .skip (.exit 2))) (.seq (.block 3 (.seq (.region s8mr20 1 []) (.cond (.t 93) (.seq (.region s8mr21 0 []) .ret) .skip))) (.pause (.region s8mr22 0 []))))
theorem q5j : CodeIs s8ml23.eq_1 := qc s8ml23.eq_1
def s8mr24 : List SOper := [
 ⟨some 94, .faddr 0 (.t 7), none⟩,
 ⟨some 95, .load none (.t 94), none⟩,
 ⟨some 96, .len (.t 95), none⟩,
 ⟨some 97, .mov (.t 10), none⟩,
 ⟨some 98, .call (.k (.d (.func (.func 28) [] []))) [(.t 97)], none⟩,
 ⟨some 99, .field none 0 (.t 98), none⟩,
 ⟨some 100, .len (.t 99), none⟩,
 ⟨some 101, .bin .leq (.t 96) (.t 100), none⟩,
 ⟨some 2, .mov (.t 101), none⟩]
def s8m : SCode := (.seq (.region s8mr0 0 []) (.seq (.seq (.region s8mr1 0 []) (.cond (.t 13) (.seq (.region s8mr2 0 []) .ret) .skip)) (.seq (.seq (.region s8mr3 0 []) (.cond (.t 16) (.seq (.region s8mr4 0 []) .ret) .skip)) (.seq (.region s8mr5 2 []) (.seq (.seq (.region s8mr6 0 []) (.block 0 (.loop s8ml10))) (.seq (.region s8mr11 0 []) (.seq (.region s8mr12 0 []) (.seq (.region s8mr13 1 []) (.seq (.region s8mr14 2 []) (.seq (.seq (.region s8mr15 0 []) (.cond (.t 71) (.seq (.region s8mr16 0 []) .ret) .skip)) (.seq (.pause (.region s8mr17 2 [])) (.seq (.seq (.region s8mr18 0 []) (.block 2 (.loop s8ml23))) (.seq (.region s8mr24 0 [(1, 4)]) .ret)))))))))))))
theorem e8m : CodeIs s8m.eq_1 := qc s8m.eq_1
theorem xe9 : RegIs s8mr0.eq_1 := qa
theorem xfa : RegIs s8mr1.eq_1 := qa
theorem xfb : RegIs s8mr2.eq_1 := qa
theorem xfc : RegIs s8mr3.eq_1 := qa
theorem xfd : RegIs s8mr4.eq_1 := qa
theorem xfe : RegIs s8mr5.eq_1 := qa
theorem xff : RegIs s8mr6.eq_1 := qa
theorem xfg : RegIs s8mr7.eq_1 := qa
theorem xfh : RegIs s8mr8.eq_1 := qa
theorem xfi : RegIs s8mr9.eq_1 := qa
theorem q5k : RegIs s8mr11.eq_1 := qa
theorem q5l : RegIs s8mr12.eq_1 := qa
theorem q5m : RegIs s8mr13.eq_1 := qa
theorem q5n : RegIs s8mr14.eq_1 := qa
theorem q5o : RegIs s8mr15.eq_1 := qa
theorem q5p : RegIs s8mr16.eq_1 := qa
theorem q5q : RegIs s8mr17.eq_1 := qa
theorem q5r : RegIs s8mr18.eq_1 := qa
theorem q5s : RegIs s8mr19.eq_1 := qa
theorem q5t : RegIs s8mr20.eq_1 := qa
theorem q5u : RegIs s8mr21.eq_1 := qa
theorem q5v : RegIs s8mr22.eq_1 := qa
theorem q5w : RegIs s8mr24.eq_1 := qa
attribute [go_sem] xe9 xfa xfb xfc xfd xfe xff xfg xfh xfi q5i q5k q5l q5m q5n q5o q5p q5q q5r q5s q5t q5u q5v q5j q5w e8m
theorem F8m : FnIs Try.prog 8 Try.f8 [] news s8m [.tmp 2] 102 := xg follows Try.func8
end
theorem qll (file : List UInt8) (n k : Nat) (hn : n ≤ file.length) (hf : file.length ≤ 100000000) (hk : k ≤ 100000) :
  ACall Try.prog 38 [.d (.agg (encLog file n)), .d (.int .i64 k)] [] (.d (.sl 1 (byteRows (file.take (n + k % (file.length - n + 1)))))) [] := by
 have d1 : decide (((n : Nat) : Int) < 0) = false := by simp
 have d2 : decide (((n : Nat) : Int) > (file.length : Int)) = false := by simp; omega
 have w1 : IntKind.i64.wrap ((file.length : Int) - (n : Int)) = ((file.length - n : Nat) : Int) := by rw [qu (by unfold I64; omega)]; omega
 have w2 : IntKind.i64.wrap (((file.length - n : Nat) : Int) + 1) = ((file.length - n + 1 : Nat) : Int) := by rw [qu (by unfold I64; omega)]; omega
 have hlt := Nat.mod_lt k (show file.length - n + 1 > 0 by omega)
 have w3 : (k : Int).tmod ((file.length - n + 1 : Nat) : Int) = ((k % (file.length - n + 1) : Nat) : Int) := by rw [Int.tmod_eq_emod_of_nonneg (by omega)]; rfl
 have w4 : IntKind.i64.wrap ((n : Int) + ((k % (file.length - n + 1) : Nat) : Int)) = ((n + k % (file.length - n + 1) : Nat) : Int) := by rw [qu (by unfold I64; omega)]; omega
 refine F38.go ?_
 try (refine ev3 @encLog.eq_1 @d1 @d2 ?_; try exact True.intro)
 (repeat (with_reducible refine ob ?_)); refine no_ ?_
 have hmx : (if (k : Int) > 0 then (k : Int) else 0) = (k : Int) := by split <;> omega
 try (refine ev2 @w1 @hmx ?_; try exact True.intro)
 have hw : IntKind.i64.wrap ((n : Int) + (k : Int).tmod (IntKind.i64.wrap (((file.length - n : Nat) : Int) + 1))) = ((n + k % (file.length - n + 1) : Nat) : Int) := by rw [w2, w3, w4]
 have e1 : ((byteRows file).take ((((n + k % (file.length - n + 1) : Nat) : Int)).toNat - 0)) = byteRows (file.take (n + k % (file.length - n + 1))) := by rw [Int.toNat_natCast, Nat.sub_zero, qx]
 rw [hw, e1]
 refine ⟨by rw [w2]; omega, ⟨by omega, by omega⟩, ?_⟩
 (repeat (with_reducible refine ob ?_)); first | refine cl F43 (xi (file.take (n + k % (file.length - n + 1))) (by rw [List.length_take]; omega)) ?_ | refine clF F43 (xi (file.take (n + k % (file.length - n + 1))) (by rw [List.length_take]; omega)) (fun _ => by (refine ev3 @encOp.eq_1 @encEn.eq_1 @encStep.eq_1 ?_; try exact True.intro)) ?_
 try (refine ev ?_; try exact True.intro)
def SsameEn (a b : List En) (i : Nat) : St :=
 ⟨[(0, true, .d (.sl 2 (a.map encEn))), (1, true, .d (.sl 2 (b.map encEn))), (5, true, .d (.int .i64 (i : Nat)))], [], [], 1⟩
set_option maxRecDepth 10000 in
theorem qrx (a b : List En) (ha : a.length ≤ 100000) (hb : b.length ≤ 100000) : ACall Try.prog 39 [.d (.sl 2 (a.map encEn)), .d (.sl 2 (b.map encEn))] [] (.d (.bool (a == b))) [] := by
 refine F39.go ?_
 try (refine ev ?_; try exact True.intro)
 refine xt _ (fun hc => ?_) (fun hc => ?_)
 ·have hf : (a == b) = false := by
   rw [beq_eq_false_iff_ne]
   rintro rfl
   simp at hc
  try (refine ev1 @hf ?_; try exact True.intro)
 have hab : a.length = b.length := by simp at hc; omega
 try (refine ev ?_; try exact True.intro)
 refine ql (fun i : { i : Nat // i ≤ a.length ∧ a.take i = b.take i } => SsameEn a b i.val) (fun i => a.length - i.val) ⟨0, Nat.zero_le _, rfl⟩ ?_ (fun i => ?_)
 ·try (refine ev2 @SsameEn.eq_1 @Int.ofNat_zero ?_; try exact True.intro)
 obtain ⟨i, hi, ht⟩ := i
 try (refine ev1 @SsameEn.eq_1 ?_; try exact True.intro)
 refine xt _ (fun hc => ?_) (fun hc => ?_)
 ·have hil : i < a.length := by simpa using hc
  have hib : i < b.length := by omega
  try (refine ev3 (qt encEn a hil) (qt encEn b hib) @encEn.eq_1 ?_; try exact True.intro)
  refine ⟨by omega, by omega, fun h => ⟨h, h, by omega⟩, fun h => ⟨h, h, by omega⟩, fun h => by simpa using h, ?_⟩
  refine xt _ (fun hd => ?_) (fun hd => ?_)
  ·have hf : (a == b) = false := by
    rw [beq_eq_false_iff_ne]
    rintro rfl
    simp at hd
   try (refine ev1 @hf ?_; try exact True.intro)
  ·have hab2 : a[i] = b[i] := by
    simp only [Bool.or_eq_false_iff, Bool.not_eq_false', beq_iff_eq] at hd
    exact Prod.ext hd.1 (by first | exact hd.2 | simpa using hd.2)
   try (refine ev ?_; try exact True.intro)
   refine ⟨⟨i + 1, hil, by rw [List.take_succ_eq_append_getElem hil, List.take_succ_eq_append_getElem hib, ht, hab2]⟩, ?_, by dsimp only; omega⟩
   try (refine ev2 @SsameEn.eq_1 (qk (show i < 9223372036854775807 by omega)) ?_; try exact True.intro)
 ·have hie : i = a.length := by
   have : a.length ≤ i := by simpa using hc
   omega
  have : a = b := by
   have h1 : a.take i = a := by rw [hie, List.take_length]
   have h2 : b.take i = b := by rw [hie, hab, List.take_length]
   rw [h1, h2] at ht
   exact ht
  have hf : (a == b) = true := by rw [this]; exact beq_self_eq_true b
  try (refine ev1 @hf ?_; try exact True.intro)
def ScoA (l : List StepS) (i : Nat) (s : Sto) : St :=
 ⟨[(0, true, .d (.sl 2 (l.map encStep))), (2, true, .d (.bool false)), (3, true, .d (.ptr 1 0)), (4, true, .d (.int .i64 (i : Nat)))], [mapO s.m, stoO s 0], [], 1⟩
def ScoB (be : List En) (fe : List UInt8) : St :=
 ⟨[(2, true, .d (.bool false)), (5, true, .d (.sl 2 (be.map encEn))), (7, true, .d (.ptr 2 0))], [.none, .none, .row [.d (.sl 1 (byteRows fe)), .d (.int .i64 fe.length)]], [], 1⟩
def ScoC (be : List En) (fe : List UInt8) (i : Nat) (s : Sto) : St :=
 ⟨[(2, true, .d (.bool false)), (5, true, .d (.sl 2 (be.map encEn))), (7, true, .d (.ptr 2 0)), (10, true, .d (.ptr 1 0)), (11, true, .d (.int .i64 (i : Nat)))], [mapO s.m, stoO s 0, .row [.d (.sl 1 (byteRows fe)), .d (.int .i64 fe.length)]], [], 1⟩
theorem xhb {s : Sto} {l : List OpS} (h : s.synced = 0) : (sCommit s l).1.synced = 0 := by
 rcases kz s l with ⟨_, c2⟩ | ⟨_, _, _, c4⟩
 ·rw [c2]; exact h
 ·rw [c4]; exact h
set_option maxRecDepth 10000 in
theorem qds (l : List StepS) (hl : l.length ≤ maxLen) (hx : ∀ x ∈ l, x.ops.length ≤ maxLen) : ACall Try.prog 8 [.d (.sl 2 (l.map encStep))] [] (.d (.bool true)) [] := by
 refine F8m.go ?_
 try (refine ev ?_; try exact True.intro)
 (repeat (with_reducible refine ob ?_)); first | refine cl F10 (qfa) ?_ | refine clF F10 (qfa) (fun _ => by (refine ev3 @encOp.eq_1 @encEn.eq_1 @encStep.eq_1 ?_; try exact True.intro)) ?_
 try (refine ev ?_; try exact True.intro)
 (repeat (with_reducible refine ob ?_)); refine no_ ?_
 try (refine ev ?_; try exact True.intro)
 (repeat (with_reducible refine ob ?_)); first | refine cl F11 (qq2 l hl hx) ?_ | refine clF F11 (qq2 l hl hx) (fun _ => by (refine ev3 @encOp.eq_1 @encEn.eq_1 @encStep.eq_1 ?_; try exact True.intro)) ?_
 try (refine ev ?_; try exact True.intro)
 (repeat (with_reducible refine ob ?_)); refine xt _ (fun h => ?_) (fun h => ?_)
 ·try (refine ev ?_; try exact True.intro)
 obtain ⟨h15, hfew⟩ := qq3 (by simpa using h)
 have k0 := qgs
 simp only [stoO, mapO] at k0
 try (refine ev ?_; try exact True.intro)
 refine clO [0, 1] F12 k0 ?_
 try (refine ev ?_; try exact True.intro)
 refine ql (fun x : { x : Nat × Sto // x.1 ≤ l.length ∧ x.2.Ok x.1 ∧ ∃ ts, Bk x.2 ts } => ScoA l x.val.1 x.val.2) (fun x => l.length - x.val.1) ⟨(0, newS), Nat.zero_le _, qgo 0, [], qrt⟩ ?_ (fun x => ?_)
 ·try (refine ev4 @ScoA.eq_1 @stoO.eq_1 @mapO.eq_1 @Int.ofNat_zero ?_; try exact True.intro)
 obtain ⟨⟨i, s⟩, hi, hs, ts, hb⟩ := x
 simp only at hi hs hb
 try (refine ev3 @ScoA.eq_1 @stoO.eq_1 @mapO.eq_1 ?_; try exact True.intro)
 refine xt _ (fun hc => ?_) (fun hc => ?_)
 ·have hil : i < l.length := by simpa using hc
  obtain ⟨q1, q2⟩ := qt9 (hfew _ (List.getElem_mem hil))
  have hf := hs.file
  have hs2 := k7 hs l[i].ops
  try (refine ev2 (qt encStep l hil) @encStep.eq_1 ?_; try exact True.intro)
  (repeat (with_reducible refine ob ?_))
  (repeat (with_reducible refine ob ?_)); first | refine cl F14 (q05 l[i].ops (by omega) (fun o ho => by have := (q2 o ho).2; omega)) ?_ | refine clF F14 (q05 l[i].ops (by omega) (fun o ho => by have := (q2 o ho).2; omega)) (fun _ => by (refine ev3 @encOp.eq_1 @encEn.eq_1 @encStep.eq_1 ?_; try exact True.intro)) ?_
  try (refine ev ?_; try exact True.intro)
  by_cases c1 : (sCommit s l[i].ops).2 = 0
  ·have k1 := wg (s := s) (l := l[i].ops) (by omega) (by omega) c1
   have hb2 := qjo hb hs.good c1
   simp only [stoO, mapO] at k1
   refine clO [1, 0, 2] F13 k1 ?_
   generalize (sCommit s l[i].ops).1 = s' at hs2 hb2 ⊢
   try (refine ev ?_; try exact True.intro)
   refine qux [2, 1, 0] [mapO s'.m, stoO s' 0, mapO s.m] ?_ (by try (refine ev2 @mapO.eq_1 @stoO.eq_1 ?_; try exact True.intro)) (hp := rfl)
   refine pu ?_
   try (refine ev2 @mapO.eq_1 @stoO.eq_1 ?_; try exact True.intro)
   refine ⟨⟨(i + 1, s'), hil, hs2, _, hb2⟩, ?_, by dsimp only; omega⟩
   try (refine ev4 @ScoA.eq_1 @stoO.eq_1 @mapO.eq_1 (qk (show i < 9223372036854775807 by omega)) ?_; try exact True.intro)
  ·have k1 := qqt (s := s) (l := l[i].ops) (by omega) (by omega) c1
   simp only [stoO, mapO] at k1
   refine clO [1, 0, 2] F13 k1 ?_
   try (refine ev ?_; try exact True.intro)
   refine pu ?_
   try (refine ev ?_; try exact True.intro)
   refine ⟨⟨(i + 1, s), hil, hs.mono (Nat.le_succ _), ts, hb⟩, ?_, by dsimp only; omega⟩
   try (refine ev4 @ScoA.eq_1 @stoO.eq_1 @mapO.eq_1 (qk (show i < 9223372036854775807 by omega)) ?_; try exact True.intro)
 ·have hfl : s.file.length ≤ 1050000 := by have := hs.file; omega
  obtain ⟨cs, hcb, hcf⟩ := qop hs.good
  have hkv := qrw hs.good
  have hel : (entsOf s.m).length ≤ 400 := by rw [qah]; exact hs.good.few
  have hsrt := xq hs.good.ok
  have hcon := wj s [] i hs
  have hcom := qoo s hs.good
  have hse := qrx (entsOf s.m) (entsOf s.m) (by omega) (by omega)
  rw [beq_self_eq_true] at hse
  change ACall _ _ _ _ (.d (.sl 2 ((entsOf s.m).map encEn))) _ at hcon
  have hcl : (cFile (entsOf s.m)).length ≤ 100000000 := by
   have h0 := (qrv (entsOf s.m) hkv (entsOf s.m).length (Nat.le_refl _)).file
   have h1 : cFile (entsOf s.m) = cFlush (cAt (entsOf s.m) (entsOf s.m).length).1 (cAt (entsOf s.m) (entsOf s.m).length).2 := by rw [cFile, cAt, List.take_length]
   have h2 := qbb (cAt (entsOf s.m) (entsOf s.m).length).1 (cAt (entsOf s.m) (entsOf s.m).length).2
   have h3 := Nat.mul_le_mul_right 70000 hel
   rw [h1]; omega
  have hle : (cFile (entsOf s.m)).length ≤ txLen ((entsOf s.m).map fun e => [cOp e]) * 32 := by
   have h1 : cFile (entsOf s.m) = txFile cs := hcb.file
   have h2 := qmn cs hcb.enc
   rw [hcf, List.map_map] at h2
   have h3 : (entsOf s.m).map ((fun o => [o]) ∘ cOp) = (entsOf s.m).map fun e => [cOp e] := rfl
   rw [h3] at h2
   rw [h1, qfp]; omega
  obtain ⟨j, s', p1, p2, p3, p4, p5, p6, p7⟩ := qru hcb (cFile (entsOf s.m)).length
  have hj : j = cs.length := by
   have := p7 cs.length (Nat.le_refl _) (by rw [List.take_length, ← hcb.file]; exact Nat.le_refl _)
   omega
  have hm' : entsOf s'.m = entsOf s.m := by
   rw [hj, List.take_length, hcb.run] at p3
   exact (Option.some.inj p3).symm
  have hsc : (sCompact s).file = cFile (entsOf s.m) := rfl
  rw [hsc, List.take_length] at p2
  have hcc := qll (cFile (entsOf s.m)) (cFile (entsOf s.m)).length 0 (Nat.le_refl _) hcl (by omega)
  rw [Nat.sub_self, Nat.zero_mod, Nat.add_zero, List.take_length] at hcc
  have hop := quj (by omega) p2
  have hg' := (qfm p2).1
  have hlog := quz (sCompact s) (by rw [hsc]; omega)
  have hcon2 := wj (sCompact s) [] 2000 ⟨hs.good, by rw [hsc]; omega⟩
  have hcon3 := wj s' [] 2000 ⟨hg', by have := (qfm p2).2.1; rw [this, List.length_take]; omega⟩
  change ACall _ _ _ _ (.d (.sl 2 ((entsOf s.m).map encEn))) _ at hcon2
  change ACall _ _ _ _ (.d (.sl 2 ((entsOf s'.m).map encEn))) _ at hcon3
  rw [hm'] at hcon3
  have e1 : (sCompact s).m = s.m := rfl
  have e2 : (sCompact s).synced = ((cFile (entsOf s.m)).length : Nat) := rfl
  simp only [stoO, mapO, hsc, e1, e2] at hcon hcom hlog hcon2 hcon3 hop
  generalize hbe : entsOf s.m = be at *
  generalize hfe : cFile be = fe at *
  try (refine ev ?_; try exact True.intro)
  refine clO [1, 0] F36 hcon ?_
  try (refine ev ?_; try exact True.intro)
  refine clO [1, 0] xf1 hcom ?_
  try (refine ev ?_; try exact True.intro)
  refine clO [1, 0] F28 hlog ?_
  try (refine ev1 @encLog.eq_1 ?_; try exact True.intro)
  (repeat (with_reducible refine ob ?_)); first | refine cl F38 (hcc) ?_ | refine clF F38 (hcc) (fun _ => by (refine ev3 @encOp.eq_1 @encEn.eq_1 @encStep.eq_1 ?_; try exact True.intro)) ?_
  try (refine ev ?_; try exact True.intro)
  refine clO [3, 4] F37 hop ?_
  try (refine ev ?_; try exact True.intro)
  refine clO [1, 0] F36 hcon2 ?_
  try (refine ev ?_; try exact True.intro)
  (repeat (with_reducible refine ob ?_)); first | refine cl F39 (hse) ?_ | refine clF F39 (hse) (fun _ => by (refine ev3 @encOp.eq_1 @encEn.eq_1 @encStep.eq_1 ?_; try exact True.intro)) ?_
  try (refine ev ?_; try exact True.intro)
  refine clO [4, 3] F36 hcon3 ?_
  try (refine ev ?_; try exact True.intro)
  (repeat (with_reducible refine ob ?_)); first | refine cl F39 (hse) ?_ | refine clF F39 (hse) (fun _ => by (refine ev3 @encOp.eq_1 @encEn.eq_1 @encStep.eq_1 ?_; try exact True.intro)) ?_
  try (refine ev ?_; try exact True.intro)
  (repeat (with_reducible refine ob ?_)); refine no_ ?_
  try (refine ev ?_; try exact True.intro)
  refine qv6 (st1 := ScoB be fe) ?_ ?_
  ·try (refine ev1 @ScoB.eq_1 ?_; try exact True.intro)
  have k0 := qgs
  simp only [stoO, mapO] at k0
  try (refine ev1 @ScoB.eq_1 ?_; try exact True.intro)
  refine clO [0, 1] F12 k0 ?_
  try (refine ev ?_; try exact True.intro)
  refine ql (fun x : { x : Nat × Sto // x.1 ≤ be.length ∧ x.2.Ok x.1 ∧ Bk x.2 ((be.take x.1).map fun e => [cOp e]) ∧ entsOf x.2.m = be.take x.1 } => ScoC be fe x.val.1 x.val.2) (fun x => be.length - x.val.1) ⟨(0, newS), Nat.zero_le _, qgo 0, qrt, vz⟩ ?_ (fun x => ?_)
  ·try (refine ev4 @ScoC.eq_1 @stoO.eq_1 @mapO.eq_1 @Int.ofNat_zero ?_; try exact True.intro)
  obtain ⟨⟨i2, s2⟩, hi2, hs2, hb2, he2⟩ := x
  simp only at hi2 hs2 hb2 he2
  have hf2 := hs2.file
  try (refine ev3 @ScoC.eq_1 @stoO.eq_1 @mapO.eq_1 ?_; try exact True.intro)
  refine xt _ (fun hd => ?_) (fun hd => ?_)
  ·have hil : i2 < be.length := by simpa using hd
   have hkv2 := hkv _ (List.getElem_mem hil)
   have hone := xes hkv2
   have hap := v6 [be[i2]] (be.take i2) (by rw [← List.take_succ_eq_append_getElem hil]; exact List.Pairwise.sublist (List.take_sublist ..) hsrt) (by rw [← List.take_succ_eq_append_getElem hil, List.length_take]; omega)
   rw [← he2, List.map_cons, List.map_nil] at hap
   obtain ⟨g1, g2⟩ := ko [cOp be[i2]] hs2.good.ok hs2.good.few
   rw [hap] at g1 g2
   have c1 : (sCommit s2 [cOp be[i2]]).2 = 0 := by
    unfold sCommit
    rw [if_neg (by rw [hone]; simp), if_neg (by rw [g1]; simp)]
   have k1 := wg (s := s2) (l := [cOp be[i2]]) (by simp) (by omega) c1
   have hb3 := qjo hb2 hs2.good c1
   have hs3 := k7 hs2 [cOp be[i2]]
   have he3 : entsOf (sCommit s2 [cOp be[i2]]).1.m = be.take (i2 + 1) := by
    have h1 : (sCommit s2 [cOp be[i2]]).1.m = (mApply s2.m [cOp be[i2]]).1 := by
     unfold sCommit
     rw [if_neg (by rw [hone]; simp), if_neg (by rw [g1]; simp)]
    rw [h1, (g2 g1).1, he2, ← List.take_succ_eq_append_getElem hil]
   have hmp : (be.take i2).map (fun e => [cOp e]) ++ [[cOp be[i2]]] = (be.take (i2 + 1)).map fun e => [cOp e] := by
    rw [List.take_succ_eq_append_getElem hil, List.map_append]; rfl
   rw [hmp] at hb3
   have ho1 : [cOp be[i2]].map encOp = [[.str be[i2].1, .bool false, .sl 1 (byteRows be[i2].2)]] := rfl
   rw [ho1] at k1
   simp only [stoO, mapO] at k1
   try (refine ev2 (qt encEn be hil) @encEn.eq_1 ?_; try exact True.intro)
   refine ⟨by omega, by omega, ?_⟩
   refine clO [1, 0, 3] F13 k1 ?_
   generalize (sCommit s2 [cOp be[i2]]).1 = s3 at hs3 hb3 he3 ⊢
   try (refine ev ?_; try exact True.intro)
   (repeat (with_reducible refine ob ?_)); refine no_ ?_
   try (refine ev ?_; try exact True.intro)
   refine qux [3, 1, 2, 0] [mapO s3.m, stoO s3 0, .row [.d (.sl 1 (byteRows fe)), .d (.int .i64 fe.length)], mapO s2.m] ?_ (by try (refine ev2 @mapO.eq_1 @stoO.eq_1 ?_; try exact True.intro)) (hp := rfl)
   refine pu ?_
   try (refine ev2 @mapO.eq_1 @stoO.eq_1 ?_; try exact True.intro)
   refine ⟨⟨(i2 + 1, s3), hil, hs3, hb3, he3⟩, ?_, by dsimp only; omega⟩
   try (refine ev4 @ScoC.eq_1 @stoO.eq_1 @mapO.eq_1 (qk (show i2 < 9223372036854775807 by omega)) ?_; try exact True.intro)
  ·have hie : i2 = be.length := by
    have : be.length ≤ i2 := by simpa using hd
    omega
   subst hie
   rw [List.take_length] at hb2
   have hf3 : s2.file.length = 32 * txLen (be.map fun e => [cOp e]) := by rw [hb2.file, qfp]
   have hlog2 := quz s2 (by omega)
   simp only [stoO, mapO] at hlog2
   have hdl : decide ((fe.length : Int) ≤ (s2.file.length : Int)) = true := by simp; omega
   try (refine ev ?_; try exact True.intro)
   refine clO [1, 0] F28 hlog2 ?_
   try (refine ev2 @encLog.eq_1 @hdl ?_; try exact True.intro)
end Go.Proofs.Ytinnaedmdoengaa
namespace Go.Proofs.Ytinnaedmdoengaa
open Go.Abs
set_option linter.unusedSimpArgs false
set_option maxRecDepth 100000
theorem qg3 {α : Type} {enc : α → List D} {Q : α → Prop} : ∀ {rows : List (List D)}, (∀ r ∈ rows, ∃ x, r = enc x ∧ Q x) → ∃ l : List α, rows = l.map enc ∧ ∀ x ∈ l, Q x
 | [], _ => ⟨[], rfl, by simp⟩
 | r :: rows, h => by
  obtain ⟨x, rfl, hx⟩ := h r (by simp)
  obtain ⟨l, rfl, hl⟩ := qg3 (enc := enc) (Q := Q) (rows := rows) (fun r hr => h r (by simp [hr]))
  exact ⟨x :: l, rfl, by simpa using ⟨hx, hl⟩⟩
theorem q5x {n : Int} (h : (Lit.int .i64 n).wf = true) : I64 n := by
 have h1 : IntKind.i64.min = -9223372036854775808 := by decide
 have h2 : IntKind.i64.max = 9223372036854775807 := by decide
 simp only [Lit.wf, Bool.and_eq_true, decide_eq_true_eq, h1, h2] at h
 exact h
theorem xfj {n : Int} (h : (Lit.int .u8 n).wf = true) : 0 ≤ n ∧ n ≤ 255 := by
 have h1 : IntKind.u8.min = 0 := by decide
 have h2 : IntKind.u8.max = 255 := by decide
 simp only [Lit.wf, Bool.and_eq_true, decide_eq_true_eq, h1, h2] at h
 exact h
theorem q5y {n : Nat} {ds : List D} (h : Shp Try.prog (n + 1) 3 ds) : ∃ x, ds = [.int .i64 x] ∧ I64 x := by
 simp only [Shp, Try.underlying3] at h
 obtain ⟨x, rfl, h⟩ := h
 exact ⟨x, rfl, q5x h⟩
theorem xfk {n : Nat} {ds : List D} (h : Shp Try.prog (n + 1) 5 ds) : ∃ x : Nat, ds = [.int .u8 (x : Nat)] ∧ x < 256 := by
 simp only [Shp, Try.underlying5] at h
 obtain ⟨x, rfl, h⟩ := h
 have := xfj h
 refine ⟨x.toNat, ?_, by omega⟩
 rw [Int.toNat_of_nonneg this.1]
theorem qxi {n : Nat} {ds : List D} (h : Shp Try.prog (n + 1) 5 ds) : ∃ c : UInt8, ds = [byteD c] ∧ True := by
 obtain ⟨x, rfl, hx⟩ := xfk h
 refine ⟨UInt8.ofNat x, ?_, trivial⟩
 simp [byteD, UInt8.toNat_ofNat]
 omega
theorem qjr (s : List UInt8) : s.map (fun c => [byteD c]) = byteRows s := by
 induction s with
 | nil => rfl
 | cons c s ih => rw [List.map_cons, ih]; rfl
theorem qun : Try.prog.cellsOf 5 = 1 := by kernel_rfl
theorem qup {n : Nat} {ds : List D} (h : Shp Try.prog (n + 2) 34 ds) : ∃ s : List UInt8, ds = [.sl 1 (byteRows s)] ∧ s.length ≤ maxLen := by
 rw [Shp] at h
 simp only [Try.underlying34] at h
 obtain ⟨r, rfl, l, h⟩ := h
 obtain ⟨s, rfl, _⟩ := qg3 fun r hr => qxi (h r hr)
 exact ⟨s, by rw [qun, qjr], by simpa using l⟩
theorem q5z {n : Nat} {ds : List D} (h : Shp Try.prog (n + 1) 9 ds) : ∃ s : List UInt8, ds = [.str s] ∧ s.length ≤ maxLen := by
 simp only [Shp, Try.underlying9] at h
 exact h
theorem qxj {n : Nat} {ds : List D} (h : Shp Try.prog (n + 3) 36 ds) : ∃ o : OpS, ds = encOp o ∧ o.key.length ≤ maxLen ∧ o.val.length ≤ maxLen := by
 rw [Shp] at h
 simp only [Try.underlying36, ShpFs] at h
 obtain ⟨_, _, rfl, h1, _, _, rfl, h2, _, _, rfl, h3, rfl⟩ := h
 obtain ⟨a1, rfl, l1⟩ := q5z h1
 simp only [Shp, Try.underlying4] at h2
 obtain ⟨a2, rfl⟩ := h2
 obtain ⟨a3, rfl, l3⟩ := qup h3
 exact ⟨⟨a1, a2, a3⟩, rfl, l1, l3⟩
theorem qoq : Try.prog.cellsOf 36 = 3 := by kernel_rfl
theorem q50 {n : Nat} {ds : List D} (h : Shp Try.prog (n + 4) 31 ds) : ∃ l : List OpS, ds = [.sl 3 (l.map encOp)] ∧ l.length ≤ maxLen := by
 rw [Shp] at h
 simp only [Try.underlying31] at h
 obtain ⟨r, rfl, l, h⟩ := h
 obtain ⟨s, rfl, _⟩ := qg3 fun r hr => qxj (h r hr)
 exact ⟨s, by rw [qoq], by simpa using l⟩
theorem qry {n : Nat} {ds : List D} (h : Shp Try.prog (n + 5) 33 ds) : ∃ x : StepS, ds = encStep x ∧ x.ops.length ≤ maxLen := by
 rw [Shp] at h
 simp only [Try.underlying33, ShpFs] at h
 obtain ⟨_, _, rfl, h1, _, _, rfl, h2, rfl⟩ := h
 obtain ⟨a1, rfl, _⟩ := q5y h1
 obtain ⟨a2, rfl, l2⟩ := q50 h2
 exact ⟨⟨a1, a2⟩, rfl, l2⟩
theorem qjs : Try.prog.cellsOf 33 = 2 := by kernel_rfl
theorem quq {n : Nat} {ds : List D} (h : Shp Try.prog (n + 6) 22 ds) : ∃ l : List StepS, ds = [.sl 2 (l.map encStep)] ∧ l.length ≤ maxLen ∧ ∀ x ∈ l, x.ops.length ≤ maxLen := by
 rw [Shp] at h
 simp only [Try.underlying22] at h
 obtain ⟨r, rfl, l, h⟩ := h
 obtain ⟨s, rfl, hs⟩ := qg3 fun r hr => qry (h r hr)
 exact ⟨s, by rw [qjs], by simpa using l, hs⟩
theorem qur (l : List StepS) : argS Try.prog 22 [.sl 2 (l.map encStep)] = .d (.sl 2 (l.map encStep)) := by simp only [argS, Try.underlying22]; rfl
theorem xf2 (l : List OpS) : argS Try.prog 31 [.sl 3 (l.map encOp)] = .d (.sl 3 (l.map encOp)) := by simp only [argS, Try.underlying31]; rfl
theorem q6j (s : List UInt8) : argS Try.prog 34 [.sl 1 (byteRows s)] = .d (.sl 1 (byteRows s)) := by simp only [argS, Try.underlying34]; rfl
theorem xf3 (s : List UInt8) : argS Try.prog 9 [.str s] = .d (.str s) := by simp only [argS, Try.underlying9]; rfl
theorem xhc (n : Int) : argS Try.prog 5 [.int .u8 n] = .d (.int .u8 n) := by simp only [argS, Try.underlying5]; rfl
end Go.Proofs.Ytinnaedmdoengaa
