/- Texts Yf, Yg, Yh, Zg, Zj, Zk, Zl, Zm, Zn, Zo, Ws. -/
import Derived.Test.YtinnaedmdoengaaMgo
import Derived.Calls
import Derived.Orders
import Derived.Tactics
import Derived.Laws.AppendOwn
import Derived.Laws.Slices
import Derived.Laws.Closers25
import Derived.Laws.StructEq
import Derived.Laws.BytesString
import Derived.Laws.CopyRow
import Derived.MapKept
import Derived.Maps.RangeRun
import Derived.TacticsIn
import Derived.OrdersIn
import Derived.RangeFuncRecord
import Derived.RangeFuncLeaves
import Derived.IntWalk
import Derived.ProofKit
import Derived.OpenShut
import Derived.Carry
import Derived.Test.YtinnaedmdoengaaProg
import Derived.KernelRfl
import Derived.OwnWalkIn
import Derived.TacticsInMore
import Derived.LoopIn
import Derived.WalkKit
import Derived.Lib.Strings
import Derived.Lib.Slices
import Derived.Lib.Walk
import Derived.Lib.Bytealg
import Derived.Shelf.SlSortCmp.WholeK
import Derived.Shelf.SlSortCmp.NoneTotal

namespace Go.Proofs.Ytinnaedmdoengaa
open Go.Abs
set_option linter.unusedSimpArgs false
set_option linter.unusedVariables false
noncomputable section
set_option maxRecDepth 100000
def s119r0 : List SOper := [
 ⟨some 2, .mov (.k (.d (.int .i64 0))), none⟩]
def s119r1 : List SOper := [
 ⟨some 3, .mov (.k (.d (.int .u64 0))), none⟩,
 ⟨some 4, .mov (.k (.d (.int .u64 1))), none⟩]
def s119r2 : List SOper := [
 ⟨some 7, .mov (.t 0), none⟩,
 ⟨some 8, .nilCheck (.t 7), none⟩,
 ⟨some 9, .faddr 1 (.t 8), none⟩,
 ⟨some 10, .load none (.t 9), none⟩,
 ⟨some 5, .mov (.t 10), none⟩]
def s119r3 : List SOper := [
 ⟨some 11, .mov (.t 5), none⟩,
 ⟨some 12, .mov (.t 0), none⟩,
 ⟨some 13, .nilCheck (.t 12), none⟩,
 ⟨some 14, .faddr 0 (.t 13), none⟩,
 ⟨some 15, .load none (.t 14), none⟩,
 ⟨some 16, .len (.t 15), none⟩,
 ⟨some 17, .bin .lss (.t 11) (.t 16), none⟩,
 ⟨some 18, .mov (.t 17), none⟩,
 ⟨some 19, .mov (.t 5), some (18, true)⟩,
 ⟨some 20, .mov (.t 0), some (18, true)⟩,
 ⟨some 21, .nilCheck (.t 20), some (18, true)⟩,
 ⟨some 22, .faddr 1 (.t 21), some (18, true)⟩,
 ⟨some 23, .load none (.t 22), some (18, true)⟩,
 ⟨some 24, .bin .add (.t 23) (.k (.d (.int .i64 10))), some (18, true)⟩,
 ⟨some 25, .bin .lss (.t 19) (.t 24), some (18, true)⟩,
 ⟨some 26, .pick (.t 18) (.t 25) (.k (.d (.bool false))), none⟩,
 ⟨some 27, .mov (.t 26), none⟩,
 ⟨some 28, .mov (.t 0), some (27, true)⟩,
 ⟨some 29, .nilCheck (.t 28), some (27, true)⟩,
 ⟨some 30, .faddr 2 (.t 29), some (27, true)⟩,
 ⟨some 31, .load none (.t 30), some (27, true)⟩,
 ⟨some 32, .not (.t 31), some (27, true)⟩,
 ⟨some 33, .pick (.t 27) (.t 32) (.k (.d (.bool false))), none⟩]
def s119r4 : List SOper := [
 ⟨some 36, .mov (.t 0), none⟩,
 ⟨some 37, .nilCheck (.t 36), none⟩,
 ⟨some 38, .faddr 0 (.t 37), none⟩,
 ⟨some 39, .load none (.t 38), none⟩,
 ⟨some 40, .mov (.t 5), none⟩,
 ⟨some 41, .iaddr 1 (.t 39) (.t 40), none⟩,
 ⟨some 42, .load none (.t 41), none⟩,
 ⟨some 43, .bin .rem (.t 42) (.k (.d (.int .u8 128))), none⟩,
 ⟨some 44, .conv .u64 (.t 43), none⟩,
 ⟨some 6, .mov (.t 44), none⟩]
def s119r5 : List SOper := [
 ⟨some 45, .mov (.t 5), none⟩,
 ⟨some 46, .mov (.t 0), none⟩,
 ⟨some 47, .nilCheck (.t 46), none⟩,
 ⟨some 48, .faddr 1 (.t 47), none⟩,
 ⟨some 49, .load none (.t 48), none⟩,
 ⟨some 50, .bin .add (.t 49) (.k (.d (.int .i64 9))), none⟩,
 ⟨some 51, .bin .eql (.t 45) (.t 50), none⟩,
 ⟨some 52, .mov (.t 51), none⟩,
 ⟨some 53, .mov (.t 6), some (52, true)⟩,
 ⟨some 54, .bin .gtr (.t 53) (.k (.d (.int .u64 1))), some (52, true)⟩,
 ⟨some 55, .pick (.t 52) (.t 54) (.k (.d (.bool false))), none⟩]
def s119r6 : List SOper := [
 ⟨some 56, .mov (.t 3), none⟩,
 ⟨some 57, .mov (.t 6), none⟩,
 ⟨some 58, .mov (.t 4), none⟩,
 ⟨some 59, .bin .mul (.t 57) (.t 58), none⟩,
 ⟨some 60, .bin .add (.t 56) (.t 59), none⟩,
 ⟨some 3, .mov (.t 60), none⟩]
def s119r7 : List SOper := [
 ⟨some 61, .mov (.t 4), none⟩,
 ⟨some 62, .bin .mul (.t 61) (.k (.d (.int .u64 128))), none⟩,
 ⟨some 4, .mov (.t 62), none⟩]
def s119r8 : List SOper := [
 ⟨some 63, .mov (.t 0), none⟩,
 ⟨some 64, .nilCheck (.t 63), none⟩,
 ⟨some 65, .faddr 0 (.t 64), none⟩,
 ⟨some 66, .load none (.t 65), none⟩,
 ⟨some 67, .mov (.t 5), none⟩,
 ⟨some 68, .iaddr 1 (.t 66) (.t 67), none⟩,
 ⟨some 69, .load none (.t 68), none⟩,
 ⟨some 70, .bin .geq (.t 69) (.k (.d (.int .u8 128))), none⟩]
def s119r9 : List SOper := [
 ⟨some 71, .mov (.t 6), none⟩,
 ⟨some 72, .bin .eql (.t 71) (.k (.d (.int .u64 0))), none⟩,
 ⟨some 73, .mov (.t 72), none⟩,
 ⟨some 74, .mov (.t 5), some (73, true)⟩,
 ⟨some 75, .mov (.t 0), some (73, true)⟩,
 ⟨some 76, .nilCheck (.t 75), some (73, true)⟩,
 ⟨some 77, .faddr 1 (.t 76), some (73, true)⟩,
 ⟨some 78, .load none (.t 77), some (73, true)⟩,
 ⟨some 79, .bin .gtr (.t 74) (.t 78), some (73, true)⟩,
 ⟨some 80, .pick (.t 73) (.t 79) (.k (.d (.bool false))), none⟩]
def s119r10 : List SOper := [
 ⟨some 81, .mov (.t 0), none⟩,
 ⟨some 82, .mov (.t 5), none⟩,
 ⟨some 83, .bin .add (.t 82) (.k (.d (.int .i64 1))), none⟩,
 ⟨some 84, .nilCheck (.t 81), none⟩,
 ⟨some 85, .faddr 1 (.t 84), none⟩,
 ⟨none, .store none (.t 85) (.t 83), none⟩]
def s119r11 : List SOper := [
 ⟨some 86, .mov (.t 3), none⟩,
 ⟨some 87, .bin .rem (.t 86) (.k (.d (.int .u64 2))), none⟩,
 ⟨some 88, .bin .eql (.t 87) (.k (.d (.int .u64 1))), none⟩]
def s119r12 : List SOper := [
 ⟨some 89, .mov (.t 3), none⟩,
 ⟨some 90, .bin .quo (.t 89) (.k (.d (.int .u64 2))), none⟩,
 ⟨some 91, .conv .i64 (.t 90), none⟩,
 ⟨some 92, .neg (.t 91), none⟩,
 ⟨some 93, .bin .sub (.t 92) (.k (.d (.int .i64 1))), none⟩,
 ⟨some 2, .mov (.t 93), none⟩]
def s119r13 : List SOper := [
 ⟨some 94, .mov (.t 3), none⟩,
 ⟨some 95, .bin .quo (.t 94) (.k (.d (.int .u64 2))), none⟩,
 ⟨some 96, .conv .i64 (.t 95), none⟩,
 ⟨some 2, .mov (.t 96), none⟩]
def s119r14 : List SOper := [
 ⟨some 34, .mov (.t 5), none⟩,
 ⟨some 35, .bin .add (.t 34) (.k (.d (.int .i64 1))), none⟩,
 ⟨some 5, .mov (.t 35), none⟩]
def s119l15 : SCode := (.seq (.seq (.region s119r3 0 []) (.cond (.t 33) .skip (.exit 0))) (.seq (.block 1 (.seq (.region s119r4 0 []) (.seq (.seq (.region s119r5 0 []) (.cond (.t 55) (.exit 0) .skip)) (.seq (.region s119r6 0 []) (.seq (.region s119r7 0 []) (.seq (.seq (.region s119r8 0 []) (.cond (.t 70) (.exit 1) .skip)) (.seq (.seq (.region s119r9 0 []) (.cond (.t 80) (.exit 0) .skip)) (.seq (.region s119r10 0 []) (.seq (.seq (.region s119r11 0 []) (.cond (.t 88) (.seq (.region s119r12 0 []) .ret) .skip)) (.seq (.region s119r13 0 []) .ret)))))))))) (.region s119r14 0 [])))
theorem qxc : CodeIs s119l15.eq_1 := qc s119l15.eq_1
def s119r16 : List SOper := [
 ⟨some 97, .mov (.t 0), none⟩,
 ⟨some 98, .nilCheck (.t 97), none⟩,
 ⟨some 99, .faddr 2 (.t 98), none⟩,
 ⟨none, .store none (.t 99) (.k (.d (.bool true))), none⟩]
def s119r17 : List SOper := [
 ⟨some 2, .mov (.k (.d (.int .i64 0))), none⟩]
def s119 : SCode := (.seq (.region s119r0 0 []) (.seq (.region s119r1 0 []) (.seq (.seq (.region s119r2 0 []) (.block 0 (.loop s119l15))) (.seq (.region s119r16 0 []) (.seq (.region s119r17 0 []) .ret)))))
theorem xij : CodeIs s119.eq_1 := qc s119.eq_1
theorem q4v : RegIs s119r0.eq_1 := qa
theorem q4w : RegIs s119r1.eq_1 := qa
theorem q4x : RegIs s119r2.eq_1 := qa
theorem q4y : RegIs s119r3.eq_1 := qa
theorem q4z : RegIs s119r4.eq_1 := qa
theorem q40 : RegIs s119r5.eq_1 := qa
theorem q41 : RegIs s119r6.eq_1 := qa
theorem q42 : RegIs s119r7.eq_1 := qa
theorem q43 : RegIs s119r8.eq_1 := qa
theorem q44 : RegIs s119r9.eq_1 := qa
theorem qxd : RegIs s119r10.eq_1 := qa
theorem qxe : RegIs s119r11.eq_1 := qa
theorem qxf : RegIs s119r12.eq_1 := qa
theorem qxg : RegIs s119r13.eq_1 := qa
theorem qxh : RegIs s119r14.eq_1 := qa
theorem qxi : RegIs s119r16.eq_1 := qa
theorem qxj : RegIs s119r17.eq_1 := qa
attribute [go_sem] q4v q4w q4x q4y q4z q40 q41 q42 q43 q44 qxd qxe qxf qxg qxh qxc qxi qxj xij
theorem q7l : FnIs Try.prog 119 Try.f119 [] news s119 [.tmp 2] 100 := xe follows Try.func119
end
def SrrInt (b : List UInt8) (pos : Nat) (f : Bool) (i u : Nat) : St :=
 ⟨[(0, true, .d (.ptr 0 0)), (3, true, .d (.int .u64 (u : Nat))), (4, true, .d (.int .u64 (128 ^ (i - pos) % 18446744073709551616 : Nat))), (5, true, .d (.int .i64 (i : Nat)))], [rdO ⟨b, pos, f⟩], [], 1⟩
theorem qut {u d j : Nat} (hu : u < 128 ^ j) (hd : d < 128) (hj : j ≤ 9) (h9 : j = 9 → d ≤ 1) :
  IntKind.u64.wrap ((u : Int) + IntKind.u64.wrap ((d : Int) * ((128 ^ j % 18446744073709551616 : Nat) : Int))) = ((u + d * 128 ^ j : Nat) : Int) ∧ u + d * 128 ^ j < 18446744073709551616 ∧ u + d * 128 ^ j < 128 ^ (j + 1) := by
 have hp : 128 ^ j ≤ 128 ^ 9 := Nat.pow_le_pow_right (by decide) hj
 have hp9 : (128 : Nat) ^ 9 = 9223372036854775808 := by decide
 rw [Nat.mod_eq_of_lt (by omega)]
 have hs : d * 128 ^ j ≤ 9223372036854775808 := by
  rcases Nat.lt_or_ge j 9 with h | h
  ·have := v8 (j := j) (by omega)
   rw [Nat.pow_succ] at this
   have : d * 128 ^ j ≤ 127 * 128 ^ j := Nat.mul_le_mul_right _ (by omega)
   omega
  ·have : j = 9 := by omega
   subst this
   have := h9 rfl
   rw [hp9]; omega
 have h3 : d * 128 ^ j ≤ 127 * 128 ^ j := Nat.mul_le_mul_right _ (by omega)
 refine ⟨?_, by omega, by rw [Nat.pow_succ]; omega⟩
 rw [show ((d : Int) * ((128 ^ j : Nat) : Int)) = ((d * 128 ^ j : Nat) : Int) by rw [Int.natCast_mul], f2 _ (by omega), show ((u : Int) + ((d * 128 ^ j : Nat) : Int)) = ((u + d * 128 ^ j : Nat) : Int) by omega, f2 _ (by omega)]
theorem qo1 (j : Nat) : IntKind.u64.wrap (((128 ^ j % 18446744073709551616 : Nat) : Int) * 128) = ((128 ^ (j + 1) % 18446744073709551616 : Nat) : Int) := by
 rw [yi, Nat.pow_succ]
 generalize 128 ^ j = x
 omega
set_option maxRecDepth 10000 in
theorem quu (r : Rd) (hr : r.Ok) : ACall Try.prog 119 [.d (.ptr 0 0)] [rdO r] (.d (.int .i64 (rIntP r).1)) [rdO (rIntP r).2] := by
 have hrd := qr0 r hr
 obtain ⟨hln, hpos⟩ := hr
 obtain ⟨b, pos, f⟩ := r
 simp only at hln hpos hrd
 refine q7l.go ?_
 cases f
 ·simp only [Bool.false_eq_true, if_false] at hrd
  have w9 : IntKind.i64.wrap ((pos : Int) + 9) = ((pos + 9 : Nat) : Int) := by rw [qu (by unfold I64; omega)]; omega
  have w10 : IntKind.i64.wrap ((pos : Int) + 10) = ((pos + 10 : Nat) : Int) := by rw [qu (by unfold I64; omega)]; omega
  try simp only [rdO, go_sem, Nat.reduceAdd, Nat.reduceMul, Nat.reduceSub, Nat.reduceEqDiff, Nat.reduceLT, Nat.reduceLeDiff, Nat.reduceBEq, reduceIte, reduceCtorEq, Int.reduceAdd, Int.reduceLT, Int.reduceLE, Int.reduceGT, Int.reduceGE, Int.reduceEq, Int.reduceNe, Int.reduceBEq, Int.reduceBNe, Int.reduceToNat, Int.reduceNeg]
  refine ql (fun x : { x : Nat × Nat // pos ≤ x.1 ∧ x.1 ≤ pos + 10 ∧ x.1 ≤ b.length ∧ x.2 < 128 ^ (x.1 - pos) ∧ dG (10 - (x.1 - pos)) (x.1 - pos) x.2 (b.drop x.1) = dInt (b.drop pos) } => SrrInt b pos false x.val.1 x.val.2) (fun x => pos + 10 - x.val.1)
   ⟨(pos, 0), Nat.le_refl _, by simp, hpos, by simp, by simp only [Nat.sub_self]; rfl⟩ ?_ (fun x => ?_)
  ·have e1 : 128 ^ (pos - pos) % 18446744073709551616 = 1 := by rw [Nat.sub_self]
   try simp only [SrrInt, e1, rdO, Int.ofNat_zero, go_sem, Nat.reduceAdd, Nat.reduceMul, Nat.reduceSub, Nat.reduceEqDiff, Nat.reduceLT, Nat.reduceLeDiff, Nat.reduceBEq, reduceIte, reduceCtorEq, Int.reduceAdd, Int.reduceLT, Int.reduceLE, Int.reduceGT, Int.reduceGE, Int.reduceEq, Int.reduceNe, Int.reduceBEq, Int.reduceBNe, Int.reduceToNat, Int.reduceNeg]
  obtain ⟨⟨i, u⟩, h1, h2, h3, h4, h5⟩ := x
  simp only at h1 h2 h3 h4 h5
  have hnone : dInt (b.drop pos) = none → rIntP ⟨b, pos, false⟩ = (0, ⟨b, pos, true⟩) := fun h => by rw [hrd, h]
  try simp only [SrrInt, rdO, w10, go_sem, Nat.reduceAdd, Nat.reduceMul, Nat.reduceSub, Nat.reduceEqDiff, Nat.reduceLT, Nat.reduceLeDiff, Nat.reduceBEq, reduceIte, reduceCtorEq, Int.reduceAdd, Int.reduceLT, Int.reduceLE, Int.reduceGT, Int.reduceGE, Int.reduceEq, Int.reduceNe, Int.reduceBEq, Int.reduceBNe, Int.reduceToNat, Int.reduceNeg]
  refine xk _ (fun hc => ?_) (fun hc => ?_)
  ·simp only [Bool.and_eq_true, decide_eq_true_eq] at hc
   have hil : i < b.length := by omega
   have hi10 : i < pos + 10 := by omega
   rw [List.drop_eq_getElem_cons hil, show 10 - (i - pos) = (10 - (i + 1 - pos)) + 1 by omega, dG] at h5
   have hlt := kj b[i]
   have hd : IntKind.u64.wrap (((b[i].toNat : Nat) : Int).tmod 128) = ((b[i].toNat % 128 : Nat) : Int) := by
    rw [Int.tmod_eq_emod_of_nonneg (by omega), show ((b[i].toNat : Nat) : Int) % 128 = ((b[i].toNat % 128 : Nat) : Int) by omega, f2 _ (by omega)]
   try simp only [qr b hil, hd, w9, go_sem, Nat.reduceAdd, Nat.reduceMul, Nat.reduceSub, Nat.reduceEqDiff, Nat.reduceLT, Nat.reduceLeDiff, Nat.reduceBEq, reduceIte, reduceCtorEq, Int.reduceAdd, Int.reduceLT, Int.reduceLE, Int.reduceGT, Int.reduceGE, Int.reduceEq, Int.reduceNe, Int.reduceBEq, Int.reduceBNe, Int.reduceToNat, Int.reduceNeg]
   refine ⟨by omega, ?_⟩
   refine xk _ (fun hb => ?_) (fun hb => ?_)
   ·have hx : dInt (b.drop pos) = none := by
     simp at hb
     rw [← h5]
     by_cases hc : b[i].toNat < 128
     ·rw [if_pos hc, if_pos]
      simp; omega
     ·rw [if_neg hc, show 10 - (i + 1 - pos) = 0 by omega]; rfl
    try simp only [hnone hx, go_sem, Nat.reduceAdd, Nat.reduceMul, Nat.reduceSub, Nat.reduceEqDiff, Nat.reduceLT, Nat.reduceLeDiff, Nat.reduceBEq, reduceIte, reduceCtorEq, Int.reduceAdd, Int.reduceLT, Int.reduceLE, Int.reduceGT, Int.reduceGE, Int.reduceEq, Int.reduceNe, Int.reduceBEq, Int.reduceBNe, Int.reduceToNat, Int.reduceNeg]
   ·have hb2 : i - pos = 9 → b[i].toNat % 128 ≤ 1 := by
     intro h9
     simp at hb
     have := hb (by omega)
     omega
    obtain ⟨s1, s2, s3⟩ := qut h4 (Nat.mod_lt b[i].toNat (show 128 > 0 by decide)) (show i - pos ≤ 9 by omega) hb2
    have s4 := qo1 (i - pos)
    try simp only [s1, s4, qr b hil, go_sem, Nat.reduceAdd, Nat.reduceMul, Nat.reduceSub, Nat.reduceEqDiff, Nat.reduceLT, Nat.reduceLeDiff, Nat.reduceBEq, reduceIte, reduceCtorEq, Int.reduceAdd, Int.reduceLT, Int.reduceLE, Int.reduceGT, Int.reduceGE, Int.reduceEq, Int.reduceNe, Int.reduceBEq, Int.reduceBNe, Int.reduceToNat, Int.reduceNeg]
    (repeat (with_reducible refine ob ?_))
    refine xk _ (fun hc => ?_) (fun hc => ?_)
    ·have hc2 : ¬ b[i].toNat < 128 := by simp at hc; omega
     rw [if_neg hc2] at h5
     try (refine ev ?_; try exact True.intro)
     have hj : i + 1 - pos = i - pos + 1 := by omega
     refine ⟨⟨(i + 1, u + b[i].toNat % 128 * 128 ^ (i - pos)), by simp only; omega, by simp only; omega, by simp only; omega, by simp only [hj]; exact s3, by simp only [hj] at h5 ⊢; exact h5⟩, ?_, by simp only; omega⟩
     try simp only [SrrInt, rdO, hj, qj (show i < 9223372036854775807 by omega), go_sem, Nat.reduceAdd, Nat.reduceMul, Nat.reduceSub, Nat.reduceEqDiff, Nat.reduceLT, Nat.reduceLeDiff, Nat.reduceBEq, reduceIte, reduceCtorEq, Int.reduceAdd, Int.reduceLT, Int.reduceLE, Int.reduceGT, Int.reduceGE, Int.reduceEq, Int.reduceNe, Int.reduceBEq, Int.reduceBNe, Int.reduceToNat, Int.reduceNeg]
    ·have hc2 : b[i].toNat < 128 := by simp at hc; omega
     rw [if_pos hc2] at h5
     have hm : b[i].toNat % 128 = b[i].toNat := Nat.mod_eq_of_lt hc2
     rw [hm] at s1 s2 s3 hb2 hb
     try simp only [hm, go_sem, Nat.reduceAdd, Nat.reduceMul, Nat.reduceSub, Nat.reduceEqDiff, Nat.reduceLT, Nat.reduceLeDiff, Nat.reduceBEq, reduceIte, reduceCtorEq, Int.reduceAdd, Int.reduceLT, Int.reduceLE, Int.reduceGT, Int.reduceGE, Int.reduceEq, Int.reduceNe, Int.reduceBEq, Int.reduceBNe, Int.reduceToNat, Int.reduceNeg]
     refine xk _ (fun hz => ?_) (fun hz => ?_)
     ·have hx : dInt (b.drop pos) = none := by
       rw [← h5, if_pos]
       simp at hz ⊢; omega
      try simp only [hnone hx, go_sem, Nat.reduceAdd, Nat.reduceMul, Nat.reduceSub, Nat.reduceEqDiff, Nat.reduceLT, Nat.reduceLeDiff, Nat.reduceBEq, reduceIte, reduceCtorEq, Int.reduceAdd, Int.reduceLT, Int.reduceLE, Int.reduceGT, Int.reduceGE, Int.reduceEq, Int.reduceNe, Int.reduceBEq, Int.reduceBNe, Int.reduceToNat, Int.reduceNeg]
     ·have hx : rIntP ⟨b, pos, false⟩ = (unz (u + b[i].toNat * 128 ^ (i - pos)), ⟨b, i + 1, false⟩) := by
       rw [hrd, ← h5, if_neg (by simp at hz hb ⊢; omega)]
       simp only [List.length_drop]
       rw [show b.length - (b.length - (i + 1)) = i + 1 by omega]
      generalize hU : u + b[i].toNat * 128 ^ (i - pos) = u' at s2 hx ⊢
      have hU2 : (u : Int) + ((b[i].toNat * 128 ^ (i - pos) : Nat) : Int) = ((u' : Nat) : Int) := by rw [← hU, Int.natCast_add]
      have q2 : (u' : Int).tmod 2 = ((u' % 2 : Nat) : Int) := by rw [Int.tmod_eq_emod_of_nonneg (by omega)]; omega
      have q3 : IntKind.u64.wrap ((u' : Int).tdiv 2) = ((u' / 2 : Nat) : Int) := by rw [Int.tdiv_eq_ediv_of_nonneg (by omega), show ((u' : Int) / 2) = ((u' / 2 : Nat) : Int) by omega, f2 _ (by omega)]
      have q4 : IntKind.i64.wrap ((u' / 2 : Nat) : Int) = ((u' / 2 : Nat) : Int) := qu (by unfold I64; omega)
      try simp only [hU2, hx, qj (show i < 9223372036854775807 by omega), go_sem, Nat.reduceAdd, Nat.reduceMul, Nat.reduceSub, Nat.reduceEqDiff, Nat.reduceLT, Nat.reduceLeDiff, Nat.reduceBEq, reduceIte, reduceCtorEq, Int.reduceAdd, Int.reduceLT, Int.reduceLE, Int.reduceGT, Int.reduceGE, Int.reduceEq, Int.reduceNe, Int.reduceBEq, Int.reduceBNe, Int.reduceToNat, Int.reduceNeg]
      try simp only [q2, hx, go_sem, Nat.reduceAdd, Nat.reduceMul, Nat.reduceSub, Nat.reduceEqDiff, Nat.reduceLT, Nat.reduceLeDiff, Nat.reduceBEq, reduceIte, reduceCtorEq, Int.reduceAdd, Int.reduceLT, Int.reduceLE, Int.reduceGT, Int.reduceGE, Int.reduceEq, Int.reduceNe, Int.reduceBEq, Int.reduceBNe, Int.reduceToNat, Int.reduceNeg]
      rcases Nat.mod_two_eq_zero_or_one u' with hp | hp
      ·have q5 : unz u' = ((u' / 2 : Nat) : Int) := by unfold unz; rw [if_pos hp]
       have q6 : ((((u' % 2 : Nat) : Int)) == 1) = false := by rw [hp]; rfl
       try simp only [q6, go_sem, Nat.reduceAdd, Nat.reduceMul, Nat.reduceSub, Nat.reduceEqDiff, Nat.reduceLT, Nat.reduceLeDiff, Nat.reduceBEq, reduceIte, reduceCtorEq, Int.reduceAdd, Int.reduceLT, Int.reduceLE, Int.reduceGT, Int.reduceGE, Int.reduceEq, Int.reduceNe, Int.reduceBEq, Int.reduceBNe, Int.reduceToNat, Int.reduceNeg]
       (repeat (with_reducible refine ob ?_)); refine no_ ?_
       try simp only [hU2, q3, q4, q5, go_sem, Nat.reduceAdd, Nat.reduceMul, Nat.reduceSub, Nat.reduceEqDiff, Nat.reduceLT, Nat.reduceLeDiff, Nat.reduceBEq, reduceIte, reduceCtorEq, Int.reduceAdd, Int.reduceLT, Int.reduceLE, Int.reduceGT, Int.reduceGE, Int.reduceEq, Int.reduceNe, Int.reduceBEq, Int.reduceBNe, Int.reduceToNat, Int.reduceNeg]
      ·have q5 : unz u' = IntKind.i64.wrap (IntKind.i64.wrap (0 - ((u' / 2 : Nat) : Int)) - 1) := by
        unfold unz; rw [if_neg (by omega), qu (n := 0 - ((u' / 2 : Nat) : Int)) (by unfold I64; omega), qu (by unfold I64; omega)]; omega
       have q6 : ((((u' % 2 : Nat) : Int)) == 1) = true := by rw [hp]; rfl
       try simp only [q6, go_sem, Nat.reduceAdd, Nat.reduceMul, Nat.reduceSub, Nat.reduceEqDiff, Nat.reduceLT, Nat.reduceLeDiff, Nat.reduceBEq, reduceIte, reduceCtorEq, Int.reduceAdd, Int.reduceLT, Int.reduceLE, Int.reduceGT, Int.reduceGE, Int.reduceEq, Int.reduceNe, Int.reduceBEq, Int.reduceBNe, Int.reduceToNat, Int.reduceNeg]
       (repeat (with_reducible refine ob ?_)); refine yo ?_
       try simp only [hU2, q3, q4, q5, go_sem, Nat.reduceAdd, Nat.reduceMul, Nat.reduceSub, Nat.reduceEqDiff, Nat.reduceLT, Nat.reduceLeDiff, Nat.reduceBEq, reduceIte, reduceCtorEq, Int.reduceAdd, Int.reduceLT, Int.reduceLE, Int.reduceGT, Int.reduceGE, Int.reduceEq, Int.reduceNe, Int.reduceBEq, Int.reduceBNe, Int.reduceToNat, Int.reduceNeg]
  ·have hx : dInt (b.drop pos) = none := by
    rw [← h5]
    simp only [Bool.and_eq_false_iff, decide_eq_false_iff_not] at hc
    rcases Nat.lt_or_ge i (pos + 10) with hi | hi
    ·rw [List.drop_of_length_le (by omega), show 10 - (i - pos) = (9 - (i - pos)) + 1 by omega]; rfl
    ·rw [show 10 - (i - pos) = 0 by omega]; rfl
   try simp only [hnone hx, go_sem, Nat.reduceAdd, Nat.reduceMul, Nat.reduceSub, Nat.reduceEqDiff, Nat.reduceLT, Nat.reduceLeDiff, Nat.reduceBEq, reduceIte, reduceCtorEq, Int.reduceAdd, Int.reduceLT, Int.reduceLE, Int.reduceGT, Int.reduceGE, Int.reduceEq, Int.reduceNe, Int.reduceBEq, Int.reduceBNe, Int.reduceToNat, Int.reduceNeg]
 ·simp only [if_true] at hrd
  try simp only [rdO, hrd, go_sem, Nat.reduceAdd, Nat.reduceMul, Nat.reduceSub, Nat.reduceEqDiff, Nat.reduceLT, Nat.reduceLeDiff, Nat.reduceBEq, reduceIte, reduceCtorEq, Int.reduceAdd, Int.reduceLT, Int.reduceLE, Int.reduceGT, Int.reduceGE, Int.reduceEq, Int.reduceNe, Int.reduceBEq, Int.reduceBNe, Int.reduceToNat, Int.reduceNeg]
  refine ql (fun x : Unit => SrrInt b pos true pos 0) (fun x => 0) () ?_ (fun x => ?_)
  ·have e1 : 128 ^ (pos - pos) % 18446744073709551616 = 1 := by rw [Nat.sub_self]
   try simp only [SrrInt, e1, rdO, Int.ofNat_zero, go_sem, Nat.reduceAdd, Nat.reduceMul, Nat.reduceSub, Nat.reduceEqDiff, Nat.reduceLT, Nat.reduceLeDiff, Nat.reduceBEq, reduceIte, reduceCtorEq, Int.reduceAdd, Int.reduceLT, Int.reduceLE, Int.reduceGT, Int.reduceGE, Int.reduceEq, Int.reduceNe, Int.reduceBEq, Int.reduceBNe, Int.reduceToNat, Int.reduceNeg]
  try simp only [SrrInt, rdO, go_sem, Nat.reduceAdd, Nat.reduceMul, Nat.reduceSub, Nat.reduceEqDiff, Nat.reduceLT, Nat.reduceLeDiff, Nat.reduceBEq, reduceIte, reduceCtorEq, Int.reduceAdd, Int.reduceLT, Int.reduceLE, Int.reduceGT, Int.reduceGE, Int.reduceEq, Int.reduceNe, Int.reduceBEq, Int.reduceBNe, Int.reduceToNat, Int.reduceNeg]
  (repeat (with_reducible refine ob ?_)); refine no_ ?_
  try (refine ev ?_; try exact True.intro)
end Go.Proofs.Ytinnaedmdoengaa
namespace Go.Proofs.Ytinnaedmdoengaa
open Go.Abs
set_option linter.unusedSimpArgs false
set_option linter.unusedVariables false
noncomputable section
set_option maxRecDepth 100000
def s120r0 : List SOper := [
 ⟨some 4, .mov (.t 0), none⟩,
 ⟨some 5, .mov (.t 0), none⟩,
 ⟨some 6, .mov (.t 1), none⟩,
 ⟨some 7, .nilCheck (.t 4), none⟩,
 ⟨some 8, .faddr 1 (.t 7), none⟩,
 ⟨none, .store none (.t 8) (.t 6), none⟩,
 ⟨some 9, .nilCheck (.t 5), none⟩,
 ⟨some 10, .faddr 2 (.t 9), none⟩,
 ⟨none, .store none (.t 10) (.k (.d (.bool true))), none⟩]
def s120 : SCode := (.region s120r0 0 [])
theorem xik : CodeIs s120.eq_1 := qc s120.eq_1
theorem q45 : RegIs s120r0.eq_1 := qa
attribute [go_sem] q45 xik
theorem q46 : FnIs Try.prog 120 Try.f120 [] news s120 [] 11 := xe follows Try.func120
def s85r0 : List SOper := [
 ⟨some 6, .mov (.k (.d (.int .i64 0))), none⟩]
def s85r1 : List SOper := [
 ⟨some 9, .mov (.t 0), none⟩,
 ⟨some 10, .nilCheck (.t 9), none⟩,
 ⟨some 11, .faddr 1 (.t 10), none⟩,
 ⟨some 12, .load none (.t 11), none⟩,
 ⟨some 7, .mov (.t 12), none⟩]
def s85r2 : List SOper := [
 ⟨some 13, .mov (.t 0), none⟩,
 ⟨some 14, .call (.k (.d (.func (.func 119) [] []))) [(.t 13)], none⟩,
 ⟨some 8, .mov (.t 14), none⟩]
def s85r3 : List SOper := [
 ⟨some 15, .mov (.t 0), none⟩,
 ⟨some 16, .nilCheck (.t 15), none⟩,
 ⟨some 17, .faddr 2 (.t 16), none⟩,
 ⟨some 18, .load none (.t 17), none⟩]
def s85r4 : List SOper := [
 ⟨some 6, .mov (.k (.d (.int .i64 0))), none⟩]
def s85r5 : List SOper := [
 ⟨some 19, .mov (.t 8), none⟩,
 ⟨some 20, .mov (.t 1), none⟩,
 ⟨some 21, .bin .lss (.t 19) (.t 20), none⟩,
 ⟨some 22, .mov (.t 21), none⟩,
 ⟨some 23, .mov (.t 8), some (22, false)⟩,
 ⟨some 24, .mov (.t 2), some (22, false)⟩,
 ⟨some 25, .bin .gtr (.t 23) (.t 24), some (22, false)⟩,
 ⟨some 26, .pick (.t 22) (.k (.d (.bool true))) (.t 25), none⟩]
def s85r6 : List SOper := [
 ⟨some 27, .mov (.t 0), none⟩,
 ⟨some 28, .mov (.t 7), none⟩,
 ⟨some 29, .call (.k (.d (.func (.func 120) [] []))) [(.t 27), (.t 28)], none⟩]
def s85r7 : List SOper := [
 ⟨some 6, .mov (.k (.d (.int .i64 0))), none⟩]
def s85r8 : List SOper := [
 ⟨some 30, .mov (.t 8), none⟩,
 ⟨some 6, .mov (.t 30), none⟩]
def s85 : SCode := (.seq (.region s85r0 0 []) (.seq (.region s85r1 0 []) (.seq (.region s85r2 0 []) (.seq (.seq (.region s85r3 0 []) (.cond (.t 18) (.seq (.region s85r4 0 []) .ret) .skip)) (.seq (.seq (.region s85r5 0 []) (.cond (.t 26) (.seq (.region s85r6 0 []) (.seq (.region s85r7 0 []) .ret)) .skip)) (.seq (.region s85r8 0 []) .ret))))))
theorem e85 : CodeIs s85.eq_1 := qc s85.eq_1
theorem xeb : RegIs s85r0.eq_1 := qa
theorem xec : RegIs s85r1.eq_1 := qa
theorem xed : RegIs s85r2.eq_1 := qa
theorem xee : RegIs s85r3.eq_1 := qa
theorem xef : RegIs s85r4.eq_1 := qa
theorem xeg : RegIs s85r5.eq_1 := qa
theorem xeh : RegIs s85r6.eq_1 := qa
theorem xei : RegIs s85r7.eq_1 := qa
theorem xej : RegIs s85r8.eq_1 := qa
attribute [go_sem] xeb xec xed xee xef xeg xeh xei xej e85
theorem F85 : FnIs Try.prog 85 Try.f85 [] news s85 [.tmp 6] 31 := xe follows Try.func85
def s87r0 : List SOper := [
 ⟨some 2, .mov (.k (.d (.bool false))), none⟩]
def s87r1 : List SOper := [
 ⟨some 3, .mov (.t 0), none⟩,
 ⟨some 4, .nilCheck (.t 3), none⟩,
 ⟨some 5, .faddr 2 (.t 4), none⟩,
 ⟨some 6, .load none (.t 5), none⟩,
 ⟨some 7, .mov (.t 6), none⟩,
 ⟨some 8, .mov (.t 0), some (7, false)⟩,
 ⟨some 9, .nilCheck (.t 8), some (7, false)⟩,
 ⟨some 10, .faddr 1 (.t 9), some (7, false)⟩,
 ⟨some 11, .load none (.t 10), some (7, false)⟩,
 ⟨some 12, .mov (.t 0), some (7, false)⟩,
 ⟨some 13, .nilCheck (.t 12), some (7, false)⟩,
 ⟨some 14, .faddr 0 (.t 13), some (7, false)⟩,
 ⟨some 15, .load none (.t 14), some (7, false)⟩,
 ⟨some 16, .len (.t 15), some (7, false)⟩,
 ⟨some 17, .bin .geq (.t 11) (.t 16), some (7, false)⟩,
 ⟨some 18, .pick (.t 7) (.k (.d (.bool true))) (.t 17), none⟩,
 ⟨some 19, .mov (.t 18), none⟩,
 ⟨some 20, .mov (.t 0), some (19, false)⟩,
 ⟨some 21, .nilCheck (.t 20), some (19, false)⟩,
 ⟨some 22, .faddr 0 (.t 21), some (19, false)⟩,
 ⟨some 23, .load none (.t 22), some (19, false)⟩,
 ⟨some 24, .mov (.t 0), some (19, false)⟩,
 ⟨some 25, .nilCheck (.t 24), some (19, false)⟩,
 ⟨some 26, .faddr 1 (.t 25), some (19, false)⟩,
 ⟨some 27, .load none (.t 26), some (19, false)⟩,
 ⟨some 28, .iaddr 1 (.t 23) (.t 27), some (19, false)⟩,
 ⟨some 29, .load none (.t 28), some (19, false)⟩,
 ⟨some 30, .bin .gtr (.t 29) (.k (.d (.int .u8 1))), some (19, false)⟩,
 ⟨some 31, .pick (.t 19) (.k (.d (.bool true))) (.t 30), none⟩]
def s87r2 : List SOper := [
 ⟨some 32, .mov (.t 0), none⟩,
 ⟨some 33, .nilCheck (.t 32), none⟩,
 ⟨some 34, .faddr 2 (.t 33), none⟩,
 ⟨none, .store none (.t 34) (.k (.d (.bool true))), none⟩]
def s87r3 : List SOper := [
 ⟨some 2, .mov (.k (.d (.bool false))), none⟩]
def s87r4 : List SOper := [
 ⟨some 35, .mov (.t 0), none⟩,
 ⟨some 36, .nilCheck (.t 35), none⟩,
 ⟨some 37, .faddr 1 (.t 36), none⟩,
 ⟨some 38, .load none (.t 37), none⟩,
 ⟨some 39, .bin .add (.t 38) (.k (.d (.int .i64 1))), none⟩,
 ⟨some 40, .nilCheck (.t 35), none⟩,
 ⟨some 41, .faddr 1 (.t 40), none⟩,
 ⟨none, .store none (.t 41) (.t 39), none⟩]
def s87r5 : List SOper := [
 ⟨some 42, .mov (.t 0), none⟩,
 ⟨some 43, .nilCheck (.t 42), none⟩,
 ⟨some 44, .faddr 0 (.t 43), none⟩,
 ⟨some 45, .load none (.t 44), none⟩,
 ⟨some 46, .mov (.t 0), none⟩,
 ⟨some 47, .nilCheck (.t 46), none⟩,
 ⟨some 48, .faddr 1 (.t 47), none⟩,
 ⟨some 49, .load none (.t 48), none⟩,
 ⟨some 50, .bin .sub (.t 49) (.k (.d (.int .i64 1))), none⟩,
 ⟨some 51, .iaddr 1 (.t 45) (.t 50), none⟩,
 ⟨some 52, .load none (.t 51), none⟩,
 ⟨some 53, .bin .eql (.t 52) (.k (.d (.int .u8 1))), none⟩,
 ⟨some 2, .mov (.t 53), none⟩]
def s87 : SCode := (.seq (.region s87r0 0 []) (.seq (.seq (.region s87r1 0 []) (.cond (.t 31) (.seq (.region s87r2 0 []) (.seq (.region s87r3 0 []) .ret)) .skip)) (.seq (.region s87r4 0 []) (.seq (.region s87r5 0 []) .ret))))
theorem e87 : CodeIs s87.eq_1 := qc s87.eq_1
theorem xek : RegIs s87r0.eq_1 := qa
theorem xel : RegIs s87r1.eq_1 := qa
theorem xem : RegIs s87r2.eq_1 := qa
theorem xen : RegIs s87r3.eq_1 := qa
theorem xeo : RegIs s87r4.eq_1 := qa
theorem xep : RegIs s87r5.eq_1 := qa
attribute [go_sem] xek xel xem xen xeo xep e87
theorem F87 : FnIs Try.prog 87 Try.f87 [] news s87 [.tmp 2] 54 := xe follows Try.func87
def s88r0 : List SOper := [
 ⟨some 4, .mov (.k (.d .nilsl)), none⟩]
def s88r1 : List SOper := [
 ⟨some 7, .mov (.t 0), none⟩,
 ⟨some 8, .nilCheck (.t 7), none⟩,
 ⟨some 9, .faddr 1 (.t 8), none⟩,
 ⟨some 10, .load none (.t 9), none⟩,
 ⟨some 5, .mov (.t 10), none⟩]
def s88r2 : List SOper := [
 ⟨some 11, .mov (.t 0), none⟩,
 ⟨some 12, .mov (.t 1), none⟩,
 ⟨some 13, .call (.k (.d (.func (.func 85) [] []))) [(.t 11), (.k (.d (.int .i64 0))), (.t 12)], none⟩,
 ⟨some 6, .mov (.t 13), none⟩]
def s88r3 : List SOper := [
 ⟨some 14, .mov (.t 0), none⟩,
 ⟨some 15, .nilCheck (.t 14), none⟩,
 ⟨some 16, .faddr 2 (.t 15), none⟩,
 ⟨some 17, .load none (.t 16), none⟩,
 ⟨some 18, .mov (.t 17), none⟩,
 ⟨some 19, .mov (.t 6), some (18, false)⟩,
 ⟨some 20, .mov (.t 0), some (18, false)⟩,
 ⟨some 21, .nilCheck (.t 20), some (18, false)⟩,
 ⟨some 22, .faddr 0 (.t 21), some (18, false)⟩,
 ⟨some 23, .load none (.t 22), some (18, false)⟩,
 ⟨some 24, .len (.t 23), some (18, false)⟩,
 ⟨some 25, .mov (.t 0), some (18, false)⟩,
 ⟨some 26, .nilCheck (.t 25), some (18, false)⟩,
 ⟨some 27, .faddr 1 (.t 26), some (18, false)⟩,
 ⟨some 28, .load none (.t 27), some (18, false)⟩,
 ⟨some 29, .bin .sub (.t 24) (.t 28), some (18, false)⟩,
 ⟨some 30, .bin .gtr (.t 19) (.t 29), some (18, false)⟩,
 ⟨some 31, .pick (.t 18) (.k (.d (.bool true))) (.t 30), none⟩]
def s88r4 : List SOper := [
 ⟨some 32, .mov (.t 0), none⟩,
 ⟨some 33, .mov (.t 5), none⟩,
 ⟨some 34, .call (.k (.d (.func (.func 120) [] []))) [(.t 32), (.t 33)], none⟩]
def s88r5 : List SOper := [
 ⟨some 4, .mov (.k (.d .nilsl)), none⟩]
def s88r6 : List SOper := [
 ⟨some 35, .mov (.t 0), none⟩,
 ⟨some 36, .nilCheck (.t 35), none⟩,
 ⟨some 37, .faddr 1 (.t 36), none⟩,
 ⟨some 38, .load none (.t 37), none⟩,
 ⟨some 39, .mov (.t 6), none⟩,
 ⟨some 40, .bin .add (.t 38) (.t 39), none⟩,
 ⟨some 41, .nilCheck (.t 35), none⟩,
 ⟨some 42, .faddr 1 (.t 41), none⟩,
 ⟨none, .store none (.t 42) (.t 40), none⟩]
def s88r7 : List SOper := [
 ⟨some 43, .buildSlice false 1 0 [(.int .u8 0)] [], none⟩,
 ⟨some 44, .mov (.t 0), none⟩,
 ⟨some 45, .nilCheck (.t 44), none⟩,
 ⟨some 46, .faddr 0 (.t 45), none⟩,
 ⟨some 47, .load none (.t 46), none⟩,
 ⟨some 48, .mov (.t 0), none⟩,
 ⟨some 49, .nilCheck (.t 48), none⟩,
 ⟨some 50, .faddr 1 (.t 49), none⟩,
 ⟨some 51, .load none (.t 50), none⟩,
 ⟨some 52, .mov (.t 6), none⟩,
 ⟨some 53, .bin .sub (.t 51) (.t 52), none⟩,
 ⟨some 54, .mov (.t 0), none⟩,
 ⟨some 55, .nilCheck (.t 54), none⟩,
 ⟨some 56, .faddr 1 (.t 55), none⟩,
 ⟨some 57, .load none (.t 56), none⟩,
 ⟨some 58, .slice 1 (.t 47) (some (.t 53)) (some (.t 57)) none, none⟩,
 ⟨some 59, .append false 1 1 (.t 43) (.t 58), none⟩,
 ⟨some 4, .mov (.t 59), none⟩]
def s88 : SCode := (.seq (.region s88r0 0 []) (.seq (.region s88r1 0 []) (.seq (.region s88r2 0 []) (.seq (.seq (.region s88r3 0 []) (.cond (.t 31) (.seq (.region s88r4 0 []) (.seq (.region s88r5 0 []) .ret)) .skip)) (.seq (.region s88r6 0 []) (.seq (.region s88r7 0 []) .ret))))))
theorem e88 : CodeIs s88.eq_1 := qc s88.eq_1
theorem xeq : RegIs s88r0.eq_1 := qa
theorem xer : RegIs s88r1.eq_1 := qa
theorem xes : RegIs s88r2.eq_1 := qa
theorem xet : RegIs s88r3.eq_1 := qa
theorem xeu : RegIs s88r4.eq_1 := qa
theorem xev : RegIs s88r5.eq_1 := qa
theorem xew : RegIs s88r6.eq_1 := qa
theorem xex : RegIs s88r7.eq_1 := qa
attribute [go_sem] xeq xer xes xet xeu xev xew xex e88
theorem F88 : FnIs Try.prog 88 Try.f88 [] news s88 [.tmp 4] 60 := xe follows Try.func88
def s86r0 : List SOper := [
 ⟨some 4, .mov (.k (.d (.str []))), none⟩]
def s86r1 : List SOper := [
 ⟨some 5, .mov (.t 0), none⟩,
 ⟨some 6, .mov (.t 1), none⟩,
 ⟨some 7, .call (.k (.d (.func (.func 88) [] []))) [(.t 5), (.t 6)], none⟩,
 ⟨some 8, .b2s (.t 7), none⟩,
 ⟨some 4, .mov (.t 8), none⟩]
def s86 : SCode := (.seq (.region s86r0 0 []) (.seq (.region s86r1 0 []) .ret))
theorem e86 : CodeIs s86.eq_1 := qc s86.eq_1
theorem xey : RegIs s86r0.eq_1 := qa
theorem xez : RegIs s86r1.eq_1 := qa
attribute [go_sem] xey xez e86
theorem F86 : FnIs Try.prog 86 Try.f86 [] news s86 [.tmp 4] 9 := xe follows Try.func86
def s89r0 : List SOper := [
 ⟨some 2, .mov (.k (.d (.int .i64 0))), none⟩]
def s89r1 : List SOper := [
 ⟨some 3, .mov (.t 0), none⟩,
 ⟨some 4, .nilCheck (.t 3), none⟩,
 ⟨some 5, .faddr 2 (.t 4), none⟩,
 ⟨some 6, .load none (.t 5), none⟩,
 ⟨some 7, .mov (.t 6), none⟩,
 ⟨some 8, .mov (.t 0), some (7, false)⟩,
 ⟨some 9, .nilCheck (.t 8), some (7, false)⟩,
 ⟨some 10, .faddr 1 (.t 9), some (7, false)⟩,
 ⟨some 11, .load none (.t 10), some (7, false)⟩,
 ⟨some 12, .mov (.t 0), some (7, false)⟩,
 ⟨some 13, .nilCheck (.t 12), some (7, false)⟩,
 ⟨some 14, .faddr 0 (.t 13), some (7, false)⟩,
 ⟨some 15, .load none (.t 14), some (7, false)⟩,
 ⟨some 16, .len (.t 15), some (7, false)⟩,
 ⟨some 17, .bin .neq (.t 11) (.t 16), some (7, false)⟩,
 ⟨some 18, .pick (.t 7) (.k (.d (.bool true))) (.t 17), none⟩]
def s89r2 : List SOper := [
 ⟨some 2, .mov (.k (.d (.int .i64 4))), none⟩]
def s89r3 : List SOper := [
 ⟨some 2, .mov (.k (.d (.int .i64 0))), none⟩]
def s89 : SCode := (.seq (.region s89r0 0 []) (.seq (.seq (.region s89r1 0 []) (.cond (.t 18) (.seq (.region s89r2 0 []) .ret) .skip)) (.seq (.region s89r3 0 []) .ret)))
theorem e89 : CodeIs s89.eq_1 := qc s89.eq_1
theorem xe0 : RegIs s89r0.eq_1 := qa
theorem xe1 : RegIs s89r1.eq_1 := qa
theorem xe2 : RegIs s89r2.eq_1 := qa
theorem xe3 : RegIs s89r3.eq_1 := qa
attribute [go_sem] xe0 xe1 xe2 xe3 e89
theorem F89 : FnIs Try.prog 89 Try.f89 [] news s89 [.tmp 2] 19 := xe follows Try.func89
end
theorem qdt (r : Rd) (p : Nat) : ACall Try.prog 120 [.d (.ptr 0 0), .d (.int .i64 (p : Nat))] [rdO r] (.tup []) [rdO ⟨r.b, p, true⟩] := by
 refine q46.goT ?_
 try simp only [rdO, go_sem, Nat.reduceAdd, Nat.reduceMul, Nat.reduceSub, Nat.reduceEqDiff, Nat.reduceLT, Nat.reduceLeDiff, Nat.reduceBEq, reduceIte, reduceCtorEq, Int.reduceAdd, Int.reduceLT, Int.reduceLE, Int.reduceGT, Int.reduceGE, Int.reduceEq, Int.reduceNe, Int.reduceBEq, Int.reduceBNe, Int.reduceToNat, Int.reduceNeg]
theorem qby (r : Rd) (lo hi : Int) (hr : r.Ok) : ACall Try.prog 85 [.d (.ptr 0 0), .d (.int .i64 lo), .d (.int .i64 hi)] [rdO r] (.d (.int .i64 (rBoundedP lo hi r).1)) [rdO (rBoundedP lo hi r).2] := by
 have hc := quu r hr
 have h1 := qr0 r hr
 have h2 := ym lo hi r hr
 obtain ⟨b, pos, f⟩ := r
 refine F85.go ?_
 cases f
 ·simp only [Bool.false_eq_true, if_false, dBounded] at h1 h2
  cases hd : dInt (b.drop pos) with
  | none =>
   rw [hd] at h1 h2
   simp only at h1 h2
   rw [h1] at hc
   rw [h2]
   simp only [rdO] at hc
   try simp only [rdO, go_sem, Nat.reduceAdd, Nat.reduceMul, Nat.reduceSub, Nat.reduceEqDiff, Nat.reduceLT, Nat.reduceLeDiff, Nat.reduceBEq, reduceIte, reduceCtorEq, Int.reduceAdd, Int.reduceLT, Int.reduceLE, Int.reduceGT, Int.reduceGE, Int.reduceEq, Int.reduceNe, Int.reduceBEq, Int.reduceBNe, Int.reduceToNat, Int.reduceNeg]
   (repeat (with_reducible refine ob ?_)); refine clO [0] q7l (hc) ?_ (hfit := by first | exact ⟨qb, trivial⟩ | exact ⟨qb, qb, trivial⟩ | simp only [encOp, encEn, encStep, go_sem, Nat.reduceAdd, Nat.reduceMul, Nat.reduceSub, Nat.reduceEqDiff, Nat.reduceLT, Nat.reduceLeDiff, Nat.reduceBEq, reduceIte, reduceCtorEq, Int.reduceAdd, Int.reduceLT, Int.reduceLE, Int.reduceGT, Int.reduceGE, Int.reduceEq, Int.reduceNe, Int.reduceBEq, Int.reduceBNe, Int.reduceToNat, Int.reduceNeg])
   try (refine ev ?_; try exact True.intro)
   (repeat (with_reducible refine ob ?_)); refine yo ?_
   try (refine ev ?_; try exact True.intro)
  | some x =>
   obtain ⟨n, l⟩ := x
   rw [hd] at h1 h2
   simp only at h1 h2
   rw [h1] at hc
   simp only [rdO] at hc
   try simp only [rdO, go_sem, Nat.reduceAdd, Nat.reduceMul, Nat.reduceSub, Nat.reduceEqDiff, Nat.reduceLT, Nat.reduceLeDiff, Nat.reduceBEq, reduceIte, reduceCtorEq, Int.reduceAdd, Int.reduceLT, Int.reduceLE, Int.reduceGT, Int.reduceGE, Int.reduceEq, Int.reduceNe, Int.reduceBEq, Int.reduceBNe, Int.reduceToNat, Int.reduceNeg]
   (repeat (with_reducible refine ob ?_)); refine clO [0] q7l (hc) ?_ (hfit := by first | exact ⟨qb, trivial⟩ | exact ⟨qb, qb, trivial⟩ | simp only [encOp, encEn, encStep, go_sem, Nat.reduceAdd, Nat.reduceMul, Nat.reduceSub, Nat.reduceEqDiff, Nat.reduceLT, Nat.reduceLeDiff, Nat.reduceBEq, reduceIte, reduceCtorEq, Int.reduceAdd, Int.reduceLT, Int.reduceLE, Int.reduceGT, Int.reduceGE, Int.reduceEq, Int.reduceNe, Int.reduceBEq, Int.reduceBNe, Int.reduceToNat, Int.reduceNeg])
   try (refine ev ?_; try exact True.intro)
   (repeat (with_reducible refine ob ?_)); refine no_ ?_
   try (refine ev ?_; try exact True.intro)
   have hb : ((decide (n < lo) || decide (n > hi)) = true) = (n < lo ∨ n > hi) := by simp
   refine ⟨fun h => by rw [h]; rfl, ?_⟩
   refine xk _ (fun h => ?_) (fun h => ?_)
   ·rw [hb] at h
    rw [if_pos h] at h2
    simp only at h2
    have hfl := qdt ⟨b, b.length - l.length, false⟩ pos
    simp only [rdO] at hfl
    rw [h2]
    try (refine ev ?_; try exact True.intro)
    (repeat (with_reducible refine ob ?_)); refine clO [0] q46 (hfl) ?_ (hfit := by first | exact ⟨qb, trivial⟩ | exact ⟨qb, qb, trivial⟩ | simp only [encOp, encEn, encStep, go_sem, Nat.reduceAdd, Nat.reduceMul, Nat.reduceSub, Nat.reduceEqDiff, Nat.reduceLT, Nat.reduceLeDiff, Nat.reduceBEq, reduceIte, reduceCtorEq, Int.reduceAdd, Int.reduceLT, Int.reduceLE, Int.reduceGT, Int.reduceGE, Int.reduceEq, Int.reduceNe, Int.reduceBEq, Int.reduceBNe, Int.reduceToNat, Int.reduceNeg])
    try (refine ev ?_; try exact True.intro)
   ·have h' : ¬ (n < lo ∨ n > hi) := by rw [← hb, h]; simp
    rw [if_neg h'] at h2
    simp only at h2
    rw [h2]
    try (refine ev ?_; try exact True.intro)
 ·simp only [if_true] at h1 h2
  rw [h1] at hc
  rw [h2]
  simp only [rdO] at hc
  try simp only [rdO, go_sem, Nat.reduceAdd, Nat.reduceMul, Nat.reduceSub, Nat.reduceEqDiff, Nat.reduceLT, Nat.reduceLeDiff, Nat.reduceBEq, reduceIte, reduceCtorEq, Int.reduceAdd, Int.reduceLT, Int.reduceLE, Int.reduceGT, Int.reduceGE, Int.reduceEq, Int.reduceNe, Int.reduceBEq, Int.reduceBNe, Int.reduceToNat, Int.reduceNeg]
  (repeat (with_reducible refine ob ?_)); refine clO [0] q7l (hc) ?_ (hfit := by first | exact ⟨qb, trivial⟩ | exact ⟨qb, qb, trivial⟩ | simp only [encOp, encEn, encStep, go_sem, Nat.reduceAdd, Nat.reduceMul, Nat.reduceSub, Nat.reduceEqDiff, Nat.reduceLT, Nat.reduceLeDiff, Nat.reduceBEq, reduceIte, reduceCtorEq, Int.reduceAdd, Int.reduceLT, Int.reduceLE, Int.reduceGT, Int.reduceGE, Int.reduceEq, Int.reduceNe, Int.reduceBEq, Int.reduceBNe, Int.reduceToNat, Int.reduceNeg])
  try (refine ev ?_; try exact True.intro)
  (repeat (with_reducible refine ob ?_)); refine yo ?_
  try (refine ev ?_; try exact True.intro)
theorem qfn (r : Rd) (most : Nat) (hr : r.Ok) (hm : most ≤ 1000000000) : ACall Try.prog 88 [.d (.ptr 0 0), .d (.int .i64 (most : Nat))] [rdO r] (.d (.sl 1 (byteRows (rBytesP most r).1))) [rdO (rBytesP most r).2] := by
 have hc := qby r 0 most hr
 have h1 := ym 0 most r hr
 have h2 := zt most r hr
 obtain ⟨hln, hpos⟩ := hr
 obtain ⟨b, pos, f⟩ := r
 simp only at hln hpos
 refine F88.go ?_
 have hfl := fun q => qdt ⟨b, q, true⟩ pos
 have hfl2 := fun q => qdt ⟨b, q, false⟩ pos
 simp only [rdO] at hfl hfl2
 cases f
 ·simp only [Bool.false_eq_true, if_false, dBytes] at h1 h2
  cases hd : dBounded 0 most (b.drop pos) with
  | none =>
   rw [hd] at h1 h2
   simp only at h1 h2
   rw [h1] at hc
   rw [h2]
   simp only [rdO] at hc
   try simp only [rdO, go_sem, Nat.reduceAdd, Nat.reduceMul, Nat.reduceSub, Nat.reduceEqDiff, Nat.reduceLT, Nat.reduceLeDiff, Nat.reduceBEq, reduceIte, reduceCtorEq, Int.reduceAdd, Int.reduceLT, Int.reduceLE, Int.reduceGT, Int.reduceGE, Int.reduceEq, Int.reduceNe, Int.reduceBEq, Int.reduceBNe, Int.reduceToNat, Int.reduceNeg]
   (repeat (with_reducible refine ob ?_)); refine clO [0] F85 (hc) ?_ (hfit := by first | exact ⟨qb, trivial⟩ | exact ⟨qb, qb, trivial⟩ | simp only [encOp, encEn, encStep, go_sem, Nat.reduceAdd, Nat.reduceMul, Nat.reduceSub, Nat.reduceEqDiff, Nat.reduceLT, Nat.reduceLeDiff, Nat.reduceBEq, reduceIte, reduceCtorEq, Int.reduceAdd, Int.reduceLT, Int.reduceLE, Int.reduceGT, Int.reduceGE, Int.reduceEq, Int.reduceNe, Int.reduceBEq, Int.reduceBNe, Int.reduceToNat, Int.reduceNeg])
   try (refine ev ?_; try exact True.intro)
   (repeat (with_reducible refine ob ?_)); refine yo ?_
   try (refine ev ?_; try exact True.intro)
   (repeat (with_reducible refine ob ?_)); refine clO [0] q46 ((hfl pos)) ?_ (hfit := by first | exact ⟨qb, trivial⟩ | exact ⟨qb, qb, trivial⟩ | simp only [encOp, encEn, encStep, go_sem, Nat.reduceAdd, Nat.reduceMul, Nat.reduceSub, Nat.reduceEqDiff, Nat.reduceLT, Nat.reduceLeDiff, Nat.reduceBEq, reduceIte, reduceCtorEq, Int.reduceAdd, Int.reduceLT, Int.reduceLE, Int.reduceGT, Int.reduceGE, Int.reduceEq, Int.reduceNe, Int.reduceBEq, Int.reduceBNe, Int.reduceToNat, Int.reduceNeg])
   try simp only [qk, go_sem, Nat.reduceAdd, Nat.reduceMul, Nat.reduceSub, Nat.reduceEqDiff, Nat.reduceLT, Nat.reduceLeDiff, Nat.reduceBEq, reduceIte, reduceCtorEq, Int.reduceAdd, Int.reduceLT, Int.reduceLE, Int.reduceGT, Int.reduceGE, Int.reduceEq, Int.reduceNe, Int.reduceBEq, Int.reduceBNe, Int.reduceToNat, Int.reduceNeg]
  | some x =>
   obtain ⟨n, l⟩ := x
   obtain ⟨p, hp⟩ := jn _ _ _ _ _ hd
   obtain ⟨t1, t2⟩ := ky hpos hp
   have hn0 : 0 ≤ n ∧ n ≤ most := by
    unfold dBounded at hd
    split at hd
    ·split at hd
     ·cases hd
     ·cases hd; omega
    ·cases hd
   rw [hd] at h1 h2
   simp only at h1 h2
   rw [h1] at hc
   obtain ⟨m, rfl⟩ : ∃ m : Nat, n = m := ⟨n.toNat, by omega⟩
   simp only [Int.toNat_natCast] at h2
   simp only [rdO] at hc
   have e1 : IntKind.i64.wrap ((b.length : Int) - ((b.length - l.length : Nat) : Int)) = ((l.length : Nat) : Int) := by rw [qu (by unfold I64; omega)]; omega
   try simp only [rdO, go_sem, Nat.reduceAdd, Nat.reduceMul, Nat.reduceSub, Nat.reduceEqDiff, Nat.reduceLT, Nat.reduceLeDiff, Nat.reduceBEq, reduceIte, reduceCtorEq, Int.reduceAdd, Int.reduceLT, Int.reduceLE, Int.reduceGT, Int.reduceGE, Int.reduceEq, Int.reduceNe, Int.reduceBEq, Int.reduceBNe, Int.reduceToNat, Int.reduceNeg]
   (repeat (with_reducible refine ob ?_)); refine clO [0] F85 (hc) ?_ (hfit := by first | exact ⟨qb, trivial⟩ | exact ⟨qb, qb, trivial⟩ | simp only [encOp, encEn, encStep, go_sem, Nat.reduceAdd, Nat.reduceMul, Nat.reduceSub, Nat.reduceEqDiff, Nat.reduceLT, Nat.reduceLeDiff, Nat.reduceBEq, reduceIte, reduceCtorEq, Int.reduceAdd, Int.reduceLT, Int.reduceLE, Int.reduceGT, Int.reduceGE, Int.reduceEq, Int.reduceNe, Int.reduceBEq, Int.reduceBNe, Int.reduceToNat, Int.reduceNeg])
   try simp only [e1, go_sem, Nat.reduceAdd, Nat.reduceMul, Nat.reduceSub, Nat.reduceEqDiff, Nat.reduceLT, Nat.reduceLeDiff, Nat.reduceBEq, reduceIte, reduceCtorEq, Int.reduceAdd, Int.reduceLT, Int.reduceLE, Int.reduceGT, Int.reduceGE, Int.reduceEq, Int.reduceNe, Int.reduceBEq, Int.reduceBNe, Int.reduceToNat, Int.reduceNeg]
   refine xk _ (fun h => ?_) (fun h => ?_)
   ·rw [if_pos (show l.length < m by simp at h; omega)] at h2
    simp only at h2
    rw [h2]
    try (refine ev ?_; try exact True.intro)
    (repeat (with_reducible refine ob ?_)); refine clO [0] q46 ((hfl2 (b.length - l.length))) ?_ (hfit := by first | exact ⟨qb, trivial⟩ | exact ⟨qb, qb, trivial⟩ | simp only [encOp, encEn, encStep, go_sem, Nat.reduceAdd, Nat.reduceMul, Nat.reduceSub, Nat.reduceEqDiff, Nat.reduceLT, Nat.reduceLeDiff, Nat.reduceBEq, reduceIte, reduceCtorEq, Int.reduceAdd, Int.reduceLT, Int.reduceLE, Int.reduceGT, Int.reduceGE, Int.reduceEq, Int.reduceNe, Int.reduceBEq, Int.reduceBNe, Int.reduceToNat, Int.reduceNeg])
    try simp only [qk, go_sem, Nat.reduceAdd, Nat.reduceMul, Nat.reduceSub, Nat.reduceEqDiff, Nat.reduceLT, Nat.reduceLeDiff, Nat.reduceBEq, reduceIte, reduceCtorEq, Int.reduceAdd, Int.reduceLT, Int.reduceLE, Int.reduceGT, Int.reduceGE, Int.reduceEq, Int.reduceNe, Int.reduceBEq, Int.reduceBNe, Int.reduceToNat, Int.reduceNeg]
   ·have hle : m ≤ l.length := by simp at h; omega
    rw [if_neg (show ¬ l.length < m by omega)] at h2
    simp only at h2
    rw [h2]
    generalize hq : b.length - l.length = q at t1 e1
    have e2 : IntKind.i64.wrap ((q : Int) + (m : Int)) = ((q + m : Nat) : Int) := by rw [qu (by unfold I64; omega)]; omega
    have e3 : IntKind.i64.wrap ((q : Int) + (m : Int) - (m : Int)) = ((q : Nat) : Int) := by rw [qu (by unfold I64; omega)]; omega
    have e5 : ((q : Int) + (m : Int)).toNat = q + m := by omega
    have e4 : q + m - q = m := by omega
    have e6 : b.length - (l.drop m).length = q + m := by rw [List.length_drop]; omega
    try simp only [hq, e2, e6, go_sem, Nat.reduceAdd, Nat.reduceMul, Nat.reduceSub, Nat.reduceEqDiff, Nat.reduceLT, Nat.reduceLeDiff, Nat.reduceBEq, reduceIte, reduceCtorEq, Int.reduceAdd, Int.reduceLT, Int.reduceLE, Int.reduceGT, Int.reduceGE, Int.reduceEq, Int.reduceNe, Int.reduceBEq, Int.reduceBNe, Int.reduceToNat, Int.reduceNeg]
    try simp only [e3, go_sem, Nat.reduceAdd, Nat.reduceMul, Nat.reduceSub, Nat.reduceEqDiff, Nat.reduceLT, Nat.reduceLeDiff, Nat.reduceBEq, reduceIte, reduceCtorEq, Int.reduceAdd, Int.reduceLT, Int.reduceLE, Int.reduceGT, Int.reduceGE, Int.reduceEq, Int.reduceNe, Int.reduceBEq, Int.reduceBNe, Int.reduceToNat, Int.reduceNeg]
    rw [e5, e4, xq, qx, t1, qz]
    have hlm : (l.take m).length ≤ 1000000000 := by rw [List.length_take]; omega
    exact ⟨by omega, by omega, by simp only [go_sem]⟩
 ·simp only [if_true] at h1 h2
  rw [h1] at hc
  rw [h2]
  simp only [rdO] at hc
  try simp only [rdO, go_sem, Nat.reduceAdd, Nat.reduceMul, Nat.reduceSub, Nat.reduceEqDiff, Nat.reduceLT, Nat.reduceLeDiff, Nat.reduceBEq, reduceIte, reduceCtorEq, Int.reduceAdd, Int.reduceLT, Int.reduceLE, Int.reduceGT, Int.reduceGE, Int.reduceEq, Int.reduceNe, Int.reduceBEq, Int.reduceBNe, Int.reduceToNat, Int.reduceNeg]
  (repeat (with_reducible refine ob ?_)); refine clO [0] F85 (hc) ?_ (hfit := by first | exact ⟨qb, trivial⟩ | exact ⟨qb, qb, trivial⟩ | simp only [encOp, encEn, encStep, go_sem, Nat.reduceAdd, Nat.reduceMul, Nat.reduceSub, Nat.reduceEqDiff, Nat.reduceLT, Nat.reduceLeDiff, Nat.reduceBEq, reduceIte, reduceCtorEq, Int.reduceAdd, Int.reduceLT, Int.reduceLE, Int.reduceGT, Int.reduceGE, Int.reduceEq, Int.reduceNe, Int.reduceBEq, Int.reduceBNe, Int.reduceToNat, Int.reduceNeg])
  try (refine ev ?_; try exact True.intro)
  (repeat (with_reducible refine ob ?_)); refine yo ?_
  try (refine ev ?_; try exact True.intro)
  (repeat (with_reducible refine ob ?_)); refine clO [0] q46 ((hfl pos)) ?_ (hfit := by first | exact ⟨qb, trivial⟩ | exact ⟨qb, qb, trivial⟩ | simp only [encOp, encEn, encStep, go_sem, Nat.reduceAdd, Nat.reduceMul, Nat.reduceSub, Nat.reduceEqDiff, Nat.reduceLT, Nat.reduceLeDiff, Nat.reduceBEq, reduceIte, reduceCtorEq, Int.reduceAdd, Int.reduceLT, Int.reduceLE, Int.reduceGT, Int.reduceGE, Int.reduceEq, Int.reduceNe, Int.reduceBEq, Int.reduceBNe, Int.reduceToNat, Int.reduceNeg])
  try simp only [qk, go_sem, Nat.reduceAdd, Nat.reduceMul, Nat.reduceSub, Nat.reduceEqDiff, Nat.reduceLT, Nat.reduceLeDiff, Nat.reduceBEq, reduceIte, reduceCtorEq, Int.reduceAdd, Int.reduceLT, Int.reduceLE, Int.reduceGT, Int.reduceGE, Int.reduceEq, Int.reduceNe, Int.reduceBEq, Int.reduceBNe, Int.reduceToNat, Int.reduceNeg]
theorem qr2 (r : Rd) (most : Nat) (hr : r.Ok) (hm : most ≤ 1000000000) : ACall Try.prog 86 [.d (.ptr 0 0), .d (.int .i64 (most : Nat))] [rdO r] (.d (.str (rBytesP most r).1)) [rdO (rBytesP most r).2] := by
 have hc := qfn r most hr hm
 simp only [rdO] at hc
 refine F86.go ?_
 try simp only [rdO, go_sem, Nat.reduceAdd, Nat.reduceMul, Nat.reduceSub, Nat.reduceEqDiff, Nat.reduceLT, Nat.reduceLeDiff, Nat.reduceBEq, reduceIte, reduceCtorEq, Int.reduceAdd, Int.reduceLT, Int.reduceLE, Int.reduceGT, Int.reduceGE, Int.reduceEq, Int.reduceNe, Int.reduceBEq, Int.reduceBNe, Int.reduceToNat, Int.reduceNeg]
 (repeat (with_reducible refine ob ?_)); refine clO [0] F88 (hc) ?_ (hfit := by first | exact ⟨qb, trivial⟩ | exact ⟨qb, qb, trivial⟩ | simp only [encOp, encEn, encStep, go_sem, Nat.reduceAdd, Nat.reduceMul, Nat.reduceSub, Nat.reduceEqDiff, Nat.reduceLT, Nat.reduceLeDiff, Nat.reduceBEq, reduceIte, reduceCtorEq, Int.reduceAdd, Int.reduceLT, Int.reduceLE, Int.reduceGT, Int.reduceGE, Int.reduceEq, Int.reduceNe, Int.reduceBEq, Int.reduceBNe, Int.reduceToNat, Int.reduceNeg])
 try (refine ev ?_; try exact True.intro)
theorem qr3 (r : Rd) (hr : r.Ok) : ACall Try.prog 87 [.d (.ptr 0 0)] [rdO r] (.d (.bool (rBoolP r).1)) [rdO (rBoolP r).2] := by
 have h2 := qav r hr
 obtain ⟨hln, hpos⟩ := hr
 obtain ⟨b, pos, f⟩ := r
 simp only at hln hpos
 refine F87.go ?_
 cases f
 ·simp only [Bool.false_eq_true, if_false] at h2
  by_cases hlt : pos < b.length
  ·have hg : decide (((pos : Nat) : Int) ≥ ((b.length : Nat) : Int)) = false := by simp; omega
   have hw : IntKind.i64.wrap ((pos : Int) + 1) = ((pos + 1 : Nat) : Int) := by rw [qu (by unfold I64; omega)]; omega
   have hw2 : IntKind.i64.wrap ((pos : Int) + 1 - 1) = ((pos : Nat) : Int) := by rw [qu (by unfold I64; omega)]; omega
   rw [List.drop_eq_getElem_cons hlt, dBool] at h2
   try simp only [rdO, hg, qr b hlt, go_sem, Nat.reduceAdd, Nat.reduceMul, Nat.reduceSub, Nat.reduceEqDiff, Nat.reduceLT, Nat.reduceLeDiff, Nat.reduceBEq, reduceIte, reduceCtorEq, Int.reduceAdd, Int.reduceLT, Int.reduceLE, Int.reduceGT, Int.reduceGE, Int.reduceEq, Int.reduceNe, Int.reduceBEq, Int.reduceBNe, Int.reduceToNat, Int.reduceNeg]
   (repeat (with_reducible refine ob ?_))
   refine xk _ (fun h => ?_) (fun h => ?_)
   ·rw [if_pos (show b[pos].toNat > 1 by simp at h; omega)] at h2
    simp only at h2
    rw [h2]
    try (refine ev ?_; try exact True.intro)
   ·rw [if_neg (show ¬ b[pos].toNat > 1 by simp at h; omega)] at h2
    simp only [List.length_drop] at h2
    rw [show b.length - (b.length - (pos + 1)) = pos + 1 by omega] at h2
    rw [h2]
    try simp only [hw, go_sem, Nat.reduceAdd, Nat.reduceMul, Nat.reduceSub, Nat.reduceEqDiff, Nat.reduceLT, Nat.reduceLeDiff, Nat.reduceBEq, reduceIte, reduceCtorEq, Int.reduceAdd, Int.reduceLT, Int.reduceLE, Int.reduceGT, Int.reduceGE, Int.reduceEq, Int.reduceNe, Int.reduceBEq, Int.reduceBNe, Int.reduceToNat, Int.reduceNeg]
    try simp only [hw2, qr b hlt, go_sem, Nat.reduceAdd, Nat.reduceMul, Nat.reduceSub, Nat.reduceEqDiff, Nat.reduceLT, Nat.reduceLeDiff, Nat.reduceBEq, reduceIte, reduceCtorEq, Int.reduceAdd, Int.reduceLT, Int.reduceLE, Int.reduceGT, Int.reduceGE, Int.reduceEq, Int.reduceNe, Int.reduceBEq, Int.reduceBNe, Int.reduceToNat, Int.reduceNeg]
    (repeat (with_reducible refine ob ?_))
    try simp only [qvh, go_sem, Nat.reduceAdd, Nat.reduceMul, Nat.reduceSub, Nat.reduceEqDiff, Nat.reduceLT, Nat.reduceLeDiff, Nat.reduceBEq, reduceIte, reduceCtorEq, Int.reduceAdd, Int.reduceLT, Int.reduceLE, Int.reduceGT, Int.reduceGE, Int.reduceEq, Int.reduceNe, Int.reduceBEq, Int.reduceBNe, Int.reduceToNat, Int.reduceNeg]
  ·have hg : decide (((pos : Nat) : Int) ≥ ((b.length : Nat) : Int)) = true := by simp; omega
   have hgd : (byteRows b).getD pos [] = [] := by rw [List.getD_eq_getElem?_getD, List.getElem?_eq_none (by rw [qz]; omega)]; rfl
   rw [List.drop_of_length_le (by omega), dBool] at h2
   simp only at h2
   rw [h2]
   try simp only [rdO, hg, hgd, go_sem, Nat.reduceAdd, Nat.reduceMul, Nat.reduceSub, Nat.reduceEqDiff, Nat.reduceLT, Nat.reduceLeDiff, Nat.reduceBEq, reduceIte, reduceCtorEq, Int.reduceAdd, Int.reduceLT, Int.reduceLE, Int.reduceGT, Int.reduceGE, Int.reduceEq, Int.reduceNe, Int.reduceBEq, Int.reduceBNe, Int.reduceToNat, Int.reduceNeg]
   (repeat (with_reducible refine ob ?_)); refine yo ?_
   try (refine ev ?_; try exact True.intro)
 ·simp only [if_true] at h2
  rw [h2]
  try simp only [rdO, go_sem, Nat.reduceAdd, Nat.reduceMul, Nat.reduceSub, Nat.reduceEqDiff, Nat.reduceLT, Nat.reduceLeDiff, Nat.reduceBEq, reduceIte, reduceCtorEq, Int.reduceAdd, Int.reduceLT, Int.reduceLE, Int.reduceGT, Int.reduceGE, Int.reduceEq, Int.reduceNe, Int.reduceBEq, Int.reduceBNe, Int.reduceToNat, Int.reduceNeg]
  by_cases hlt : pos < b.length
  ·try simp only [qr b hlt, go_sem, Nat.reduceAdd, Nat.reduceMul, Nat.reduceSub, Nat.reduceEqDiff, Nat.reduceLT, Nat.reduceLeDiff, Nat.reduceBEq, reduceIte, reduceCtorEq, Int.reduceAdd, Int.reduceLT, Int.reduceLE, Int.reduceGT, Int.reduceGE, Int.reduceEq, Int.reduceNe, Int.reduceBEq, Int.reduceBNe, Int.reduceToNat, Int.reduceNeg]
   (repeat (with_reducible refine ob ?_)); refine yo ?_
   try (refine ev ?_; try exact True.intro)
  ·have hgd : (byteRows b).getD pos [] = [] := by rw [List.getD_eq_getElem?_getD, List.getElem?_eq_none (by rw [qz]; omega)]; rfl
   try simp only [hgd, go_sem, Nat.reduceAdd, Nat.reduceMul, Nat.reduceSub, Nat.reduceEqDiff, Nat.reduceLT, Nat.reduceLeDiff, Nat.reduceBEq, reduceIte, reduceCtorEq, Int.reduceAdd, Int.reduceLT, Int.reduceLE, Int.reduceGT, Int.reduceGE, Int.reduceEq, Int.reduceNe, Int.reduceBEq, Int.reduceBNe, Int.reduceToNat, Int.reduceNeg]
   (repeat (with_reducible refine ob ?_)); refine yo ?_
   try (refine ev ?_; try exact True.intro)
theorem quv (r : Rd) (hr : r.Ok) : ACall Try.prog 89 [.d (.ptr 0 0)] [rdO r] (.d (.int .i64 (rEnd r))) [rdO r] := by
 obtain ⟨hln, hpos⟩ := hr
 obtain ⟨b, pos, f⟩ := r
 simp only at hln hpos
 refine F89.go ?_
 cases f
 ·try simp only [rdO, go_sem, Nat.reduceAdd, Nat.reduceMul, Nat.reduceSub, Nat.reduceEqDiff, Nat.reduceLT, Nat.reduceLeDiff, Nat.reduceBEq, reduceIte, reduceCtorEq, Int.reduceAdd, Int.reduceLT, Int.reduceLE, Int.reduceGT, Int.reduceGE, Int.reduceEq, Int.reduceNe, Int.reduceBEq, Int.reduceBNe, Int.reduceToNat, Int.reduceNeg]
  refine xk _ (fun h => ?_) (fun h => ?_)
  ·have hx : rEnd ⟨b, pos, false⟩ = 4 := by unfold rEnd; rw [if_pos]; simp at h ⊢; omega
   try simp only [hx, go_sem, Nat.reduceAdd, Nat.reduceMul, Nat.reduceSub, Nat.reduceEqDiff, Nat.reduceLT, Nat.reduceLeDiff, Nat.reduceBEq, reduceIte, reduceCtorEq, Int.reduceAdd, Int.reduceLT, Int.reduceLE, Int.reduceGT, Int.reduceGE, Int.reduceEq, Int.reduceNe, Int.reduceBEq, Int.reduceBNe, Int.reduceToNat, Int.reduceNeg]
  ·have hx : rEnd ⟨b, pos, false⟩ = 0 := by unfold rEnd; rw [if_neg]; simp at h ⊢; omega
   try simp only [hx, go_sem, Nat.reduceAdd, Nat.reduceMul, Nat.reduceSub, Nat.reduceEqDiff, Nat.reduceLT, Nat.reduceLeDiff, Nat.reduceBEq, reduceIte, reduceCtorEq, Int.reduceAdd, Int.reduceLT, Int.reduceLE, Int.reduceGT, Int.reduceGE, Int.reduceEq, Int.reduceNe, Int.reduceBEq, Int.reduceBNe, Int.reduceToNat, Int.reduceNeg]
 ·try simp only [rdO, go_sem, Nat.reduceAdd, Nat.reduceMul, Nat.reduceSub, Nat.reduceEqDiff, Nat.reduceLT, Nat.reduceLeDiff, Nat.reduceBEq, reduceIte, reduceCtorEq, Int.reduceAdd, Int.reduceLT, Int.reduceLE, Int.reduceGT, Int.reduceGE, Int.reduceEq, Int.reduceNe, Int.reduceBEq, Int.reduceBNe, Int.reduceToNat, Int.reduceNeg]
  (repeat (with_reducible refine ob ?_)); refine yo ?_
  try simp only [rEnd, go_sem, Nat.reduceAdd, Nat.reduceMul, Nat.reduceSub, Nat.reduceEqDiff, Nat.reduceLT, Nat.reduceLeDiff, Nat.reduceBEq, reduceIte, reduceCtorEq, Int.reduceAdd, Int.reduceLT, Int.reduceLE, Int.reduceGT, Int.reduceGE, Int.reduceEq, Int.reduceNe, Int.reduceBEq, Int.reduceBNe, Int.reduceToNat, Int.reduceNeg]
noncomputable section
set_option maxRecDepth 100000
def s33r0 : List SOper := [
 ⟨some 2, .mov (.k (.d .nilsl)), none⟩,
 ⟨some 3, .mov (.k (.d (.int .i64 0))), none⟩]
def s33r1 : List SOper := [
 ⟨some 11, .buildSlice false 1 0 [(.int .u8 0)] [], none⟩,
 ⟨some 12, .mov (.t 0), none⟩,
 ⟨some 13, .append false 1 1 (.t 11) (.t 12), none⟩,
 ⟨some 14, .build [.nilsl, (.int .i64 0), (.bool false)] [(0, 1, (.t 13))], none⟩,
 ⟨some 15, .box 1 (.t 14), none⟩,
 ⟨some 4, .mov (.t 15), none⟩]
def s33r2 : List SOper := [
 ⟨some 16, .mov (.t 4), none⟩,
 ⟨some 17, .call (.k (.d (.func (.func 85) [] []))) [(.t 16), (.k (.d (.int .i64 1))), (.k (.d (.int .i64 20)))], none⟩,
 ⟨some 5, .mov (.t 17), none⟩]
def s33r3 : List SOper := [
 ⟨some 6, .mov (.k (.d .nilsl)), none⟩]
def s33r4 : List SOper := [
 ⟨some 7, .mov (.k (.d (.int .i64 0))), none⟩]
def s33r5 : List SOper := [
 ⟨some 18, .mov (.t 7), none⟩,
 ⟨some 19, .mov (.t 5), none⟩,
 ⟨some 20, .bin .lss (.t 18) (.t 19), none⟩]
def s33r6 : List SOper := [
 ⟨some 23, .mov (.t 4), none⟩,
 ⟨some 24, .call (.k (.d (.func (.func 86) [] []))) [(.t 23), (.k (.d (.int .i64 40)))], none⟩,
 ⟨some 25, .mov (.t 4), none⟩,
 ⟨some 26, .call (.k (.d (.func (.func 87) [] []))) [(.t 25)], none⟩,
 ⟨some 27, .build [(.str []), (.bool false), .nilsl] [(0, 1, (.t 24)), (1, 1, (.t 26))], none⟩,
 ⟨some 8, .alloc 1 [(.d (.str [])), (.d (.bool false)), (.d .nilsl)], none⟩,
 ⟨none, .store (some 3) (.t 8) (.t 27), none⟩]
def s33r7 : List SOper := [
 ⟨some 28, .mov (.t 4), none⟩,
 ⟨some 29, .call (.k (.d (.func (.func 88) [] []))) [(.t 28), (.k (.d (.int .i64 900)))], none⟩,
 ⟨some 30, .faddr 2 (.t 8), none⟩,
 ⟨none, .store none (.t 30) (.t 29), none⟩]
def s33r8 : List SOper := [
 ⟨some 31, .mov (.t 6), none⟩,
 ⟨some 32, .load (some 3) (.t 8), none⟩,
 ⟨some 33, .buildSlice false 3 1 [(.str []), (.bool false), .nilsl] [(0, 3, (.t 32))], none⟩,
 ⟨some 34, .append false 3 48 (.t 31) (.t 33), none⟩,
 ⟨some 6, .mov (.t 34), none⟩]
def s33r9 : List SOper := [
 ⟨some 21, .mov (.t 7), none⟩,
 ⟨some 22, .bin .add (.t 21) (.k (.d (.int .i64 1))), none⟩,
 ⟨some 7, .mov (.t 22), none⟩]
def s33l10 : SCode := (.seq (.seq (.region s33r5 0 []) (.cond (.t 20) .skip (.exit 0))) (.seq (.block 1 (.seq (.region s33r6 1 []) (.seq (.region s33r7 0 []) (.region s33r8 0 [])))) (.region s33r9 0 [])))
theorem q47 : CodeIs s33l10.eq_1 := qc s33l10.eq_1
def s33r11 : List SOper := [
 ⟨some 35, .mov (.t 4), none⟩,
 ⟨some 36, .call (.k (.d (.func (.func 89) [] []))) [(.t 35)], none⟩,
 ⟨some 37, .bin .neq (.t 36) (.k (.d (.int .i64 0))), none⟩]
def s33r12 : List SOper := [
 ⟨some 2, .mov (.k (.d .nilsl)), none⟩,
 ⟨some 3, .mov (.k (.d (.int .i64 4))), none⟩]
def s33r13 : List SOper := [
 ⟨some 39, .mov (.t 6), none⟩,
 ⟨some 40, .call (.k (.d (.func (.func 31) [] []))) [(.t 39)], none⟩,
 ⟨some 38, .mov (.t 40), none⟩,
 ⟨some 41, .extract 0 (.t 38), none⟩,
 ⟨some 42, .extract 1 (.t 38), none⟩,
 ⟨some 9, .mov (.t 41), none⟩,
 ⟨some 10, .mov (.t 42), none⟩]
def s33r14 : List SOper := [
 ⟨some 43, .mov (.t 10), none⟩,
 ⟨some 44, .bin .neq (.t 43) (.k (.d (.int .i64 0))), none⟩]
def s33r15 : List SOper := [
 ⟨some 2, .mov (.k (.d .nilsl)), none⟩,
 ⟨some 3, .mov (.k (.d (.int .i64 4))), none⟩]
def s33r16 : List SOper := [
 ⟨some 45, .mov (.t 6), none⟩,
 ⟨some 2, .mov (.t 45), none⟩,
 ⟨some 3, .mov (.k (.d (.int .i64 0))), none⟩]
def s33 : SCode := (.seq (.region s33r0 0 []) (.seq (.region s33r1 1 []) (.seq (.region s33r2 0 []) (.seq (.region s33r3 0 []) (.seq (.seq (.region s33r4 0 []) (.block 0 (.loop s33l10))) (.seq (.seq (.region s33r11 0 []) (.cond (.t 37) (.seq (.region s33r12 0 []) .ret) .skip)) (.seq (.seq (.region s33r13 0 []) (.seq (.region s33r14 0 []) (.cond (.t 44) (.seq (.region s33r15 0 []) .ret) .skip))) (.seq (.region s33r16 0 []) .ret))))))))
theorem e33 : CodeIs s33.eq_1 := qc s33.eq_1
theorem xe4 : RegIs s33r0.eq_1 := qa
theorem xe5 : RegIs s33r1.eq_1 := qa
theorem xe6 : RegIs s33r2.eq_1 := qa
theorem xe7 : RegIs s33r3.eq_1 := qa
theorem xe8 : RegIs s33r4.eq_1 := qa
theorem xe9 : RegIs s33r5.eq_1 := qa
theorem xfa : RegIs s33r6.eq_1 := qa
theorem xfb : RegIs s33r7.eq_1 := qa
theorem xfc : RegIs s33r8.eq_1 := qa
theorem xfd : RegIs s33r9.eq_1 := qa
theorem q48 : RegIs s33r11.eq_1 := qa
theorem q49 : RegIs s33r12.eq_1 := qa
theorem q5a : RegIs s33r13.eq_1 := qa
theorem q5b : RegIs s33r14.eq_1 := qa
theorem q5c : RegIs s33r15.eq_1 := qa
theorem q5d : RegIs s33r16.eq_1 := qa
attribute [go_sem] xe4 xe5 xe6 xe7 xe8 xe9 xfa xfb xfc xfd q47 q48 q49 q5a q5b q5c q5d e33
theorem F33 : FnIs Try.prog 33 Try.f33 [] news s33 [.tmp 2, .tmp 3] 46 := xe follows Try.func33
end
def Srdec (n : Nat) (r : Rd) (i : { i : Nat // i ≤ n }) : St :=
 ⟨[(4, true, .d (.ptr 0 0)), (5, true, .d (.int .i64 (n : Nat))), (6, true, .own 0 3 ((rOpsA i.val r).1.map encOp)), (7, true, .d (.int .i64 (i.val : Nat)))], [rdO (rOpsA i.val r).2], [0], 1⟩
set_option maxRecDepth 10000 in
theorem qvj (b : List UInt8) (hb : b.length ≤ 1000000000) : ACall Try.prog 33 [.d (.sl 1 (byteRows b))] [] (.tup [.d (.sl 3 ((sDecode b).1.map encOp)), .d (.int .i64 (sDecode b).2)]) [] := by
 have hr0 : (⟨b, 0, false⟩ : Rd).Ok := ⟨hb, Nat.zero_le _⟩
 have hbd := qby ⟨b, 0, false⟩ 1 20 hr0
 have hin := qbx ⟨b, 0, false⟩ 1 20
 have hinv := (qat hr0 1 20).1
 unfold sDecode decRd
 generalize rBoundedP 1 20 ⟨b, 0, false⟩ = x at hbd hin hinv ⊢
 obtain ⟨n, r⟩ := x
 simp only at hin hinv
 have hn0 : n = ((n.toNat : Nat) : Int) := by omega
 generalize n.toNat = m at hn0
 subst hn0
 simp only [rdO, Int.ofNat_zero] at hbd
 refine F33.goT ?_
 try (refine ev ?_; try exact True.intro)
 (repeat (with_reducible refine ob ?_))
 (repeat (with_reducible refine ob ?_)); refine clO [0] F85 (hbd) ?_ (hfit := by first | exact ⟨qb, trivial⟩ | exact ⟨qb, qb, trivial⟩ | simp only [encOp, encEn, encStep, go_sem, Nat.reduceAdd, Nat.reduceMul, Nat.reduceSub, Nat.reduceEqDiff, Nat.reduceLT, Nat.reduceLeDiff, Nat.reduceBEq, reduceIte, reduceCtorEq, Int.reduceAdd, Int.reduceLT, Int.reduceLE, Int.reduceGT, Int.reduceGE, Int.reduceEq, Int.reduceNe, Int.reduceBEq, Int.reduceBNe, Int.reduceToNat, Int.reduceNeg])
 try (refine ev ?_; try exact True.intro)
 refine ql (Srdec m r) (fun i => m - i.val) ⟨0, Nat.zero_le _⟩ ?_ (fun i => ?_)
 ·try simp only [Srdec, rdO, rOpsA, List.map_nil, Int.ofNat_zero, go_sem, Nat.reduceAdd, Nat.reduceMul, Nat.reduceSub, Nat.reduceEqDiff, Nat.reduceLT, Nat.reduceLeDiff, Nat.reduceBEq, reduceIte, reduceCtorEq, Int.reduceAdd, Int.reduceLT, Int.reduceLE, Int.reduceGT, Int.reduceGE, Int.reduceEq, Int.reduceNe, Int.reduceBEq, Int.reduceBNe, Int.reduceToNat, Int.reduceNeg]
 obtain ⟨i, hi⟩ := i
 have hri := qau hinv i
 try simp only [Srdec, rdO, go_sem, Nat.reduceAdd, Nat.reduceMul, Nat.reduceSub, Nat.reduceEqDiff, Nat.reduceLT, Nat.reduceLeDiff, Nat.reduceBEq, reduceIte, reduceCtorEq, Int.reduceAdd, Int.reduceLT, Int.reduceLE, Int.reduceGT, Int.reduceGE, Int.reduceEq, Int.reduceNe, Int.reduceBEq, Int.reduceBNe, Int.reduceToNat, Int.reduceNeg]
 (repeat (with_reducible refine ob ?_)); refine xk _ (fun h => ?_) (fun h => ?_)
 ·have hil : i < m := by simp at h; omega
  have hT := qr2 (rOpsA i r).2 40 hri.1 (by decide)
  have hiT := vg hri.1 40
  have hB := qr3 _ hiT.1
  have hiB := qbd hiT.1
  have hV := qfn _ 900 hiB.1 (by decide)
  simp only [rdO] at hT hB hV
  try (refine ev ?_; try exact True.intro)
  (repeat (with_reducible refine ob ?_)); refine clO [0] F86 (hT) ?_ (hfit := by first | exact ⟨qb, trivial⟩ | exact ⟨qb, qb, trivial⟩ | simp only [encOp, encEn, encStep, go_sem, Nat.reduceAdd, Nat.reduceMul, Nat.reduceSub, Nat.reduceEqDiff, Nat.reduceLT, Nat.reduceLeDiff, Nat.reduceBEq, reduceIte, reduceCtorEq, Int.reduceAdd, Int.reduceLT, Int.reduceLE, Int.reduceGT, Int.reduceGE, Int.reduceEq, Int.reduceNe, Int.reduceBEq, Int.reduceBNe, Int.reduceToNat, Int.reduceNeg])
  try (refine ev ?_; try exact True.intro)
  (repeat (with_reducible refine ob ?_)); refine clO [0] F87 (hB) ?_ (hfit := by first | exact ⟨qb, trivial⟩ | exact ⟨qb, qb, trivial⟩ | simp only [encOp, encEn, encStep, go_sem, Nat.reduceAdd, Nat.reduceMul, Nat.reduceSub, Nat.reduceEqDiff, Nat.reduceLT, Nat.reduceLeDiff, Nat.reduceBEq, reduceIte, reduceCtorEq, Int.reduceAdd, Int.reduceLT, Int.reduceLE, Int.reduceGT, Int.reduceGE, Int.reduceEq, Int.reduceNe, Int.reduceBEq, Int.reduceBNe, Int.reduceToNat, Int.reduceNeg])
  try (refine ev ?_; try exact True.intro)
  (repeat (with_reducible refine ob ?_)); refine clO [0] F88 (hV) ?_ (hfit := by first | exact ⟨qb, trivial⟩ | exact ⟨qb, qb, trivial⟩ | simp only [encOp, encEn, encStep, go_sem, Nat.reduceAdd, Nat.reduceMul, Nat.reduceSub, Nat.reduceEqDiff, Nat.reduceLT, Nat.reduceLeDiff, Nat.reduceBEq, reduceIte, reduceCtorEq, Int.reduceAdd, Int.reduceLT, Int.reduceLE, Int.reduceGT, Int.reduceGE, Int.reduceEq, Int.reduceNe, Int.reduceBEq, Int.reduceBNe, Int.reduceToNat, Int.reduceNeg])
  try (refine ev ?_; try exact True.intro)
  (repeat (with_reducible refine ob ?_))
  refine ⟨⟨i + 1, hil⟩, ?_, by dsimp only; omega⟩
  try simp only [Srdec, rdO, rOpsA, rOp, List.map_append, List.map_cons, List.map_nil, encOp, qj (show i < 9223372036854775807 by omega), go_sem, Nat.reduceAdd, Nat.reduceMul, Nat.reduceSub, Nat.reduceEqDiff, Nat.reduceLT, Nat.reduceLeDiff, Nat.reduceBEq, reduceIte, reduceCtorEq, Int.reduceAdd, Int.reduceLT, Int.reduceLE, Int.reduceGT, Int.reduceGE, Int.reduceEq, Int.reduceNe, Int.reduceBEq, Int.reduceBNe, Int.reduceToNat, Int.reduceNeg]
 ·have hil : i = m := by simp at h; omega
  subst hil
  have hE := quv (rOpsA i r).2 hri.1
  simp only [rdO] at hE
  try (refine ev ?_; try exact True.intro)
  (repeat (with_reducible refine ob ?_)); refine clO [0] F89 (hE) ?_ (hfit := by first | exact ⟨qb, trivial⟩ | exact ⟨qb, qb, trivial⟩ | simp only [encOp, encEn, encStep, go_sem, Nat.reduceAdd, Nat.reduceMul, Nat.reduceSub, Nat.reduceEqDiff, Nat.reduceLT, Nat.reduceLeDiff, Nat.reduceBEq, reduceIte, reduceCtorEq, Int.reduceAdd, Int.reduceLT, Int.reduceLE, Int.reduceGT, Int.reduceGE, Int.reduceEq, Int.reduceNe, Int.reduceBEq, Int.reduceBNe, Int.reduceToNat, Int.reduceNeg])
  try (refine ev ?_; try exact True.intro)
  refine xk _ (fun h => ?_) (fun h => ?_)
  ·rw [if_pos (show rEnd (rOpsA i r).2 ≠ 0 by simpa using h)]
   try (refine ev ?_; try exact True.intro)
  ·rw [if_neg (show ¬ rEnd (rOpsA i r).2 ≠ 0 by simpa using h)]
   try (refine ev ?_; try exact True.intro)
   (repeat (with_reducible refine ob ?_)); first | refine cl F31 (qbw (rOpsA i r).1 (by omega)) ?_ | refine clF F31 (qbw (rOpsA i r).1 (by omega)) (fun _ => by simp only [encOp, encEn, encStep, go_sem, Nat.reduceAdd, Nat.reduceMul, Nat.reduceSub, Nat.reduceEqDiff, Nat.reduceLT, Nat.reduceLeDiff, Nat.reduceBEq, reduceIte, reduceCtorEq, Int.reduceAdd, Int.reduceLT, Int.reduceLE, Int.reduceGT, Int.reduceGE, Int.reduceEq, Int.reduceNe, Int.reduceBEq, Int.reduceBNe, Int.reduceToNat, Int.reduceNeg]) ?_
   try (refine ev ?_; try exact True.intro)
   refine xk _ (fun h => ?_) (fun h => ?_)
   ·rw [if_pos (show (sEncode (rOpsA i r).1).2 ≠ 0 by simpa using h)]
    try (refine ev ?_; try exact True.intro)
   ·rw [if_neg (show ¬ (sEncode (rOpsA i r).1).2 ≠ 0 by simpa using h)]
    try (refine ev ?_; try exact True.intro)
end Go.Proofs.Ytinnaedmdoengaa
namespace Go.Proofs.Ytinnaedmdoengaa
open Go.Abs
set_option linter.unusedSimpArgs false
set_option linter.unusedVariables false
theorem q5e (v : Nat) : zz (unz v) = v := by
 unfold zz unz
 split <;> split <;> omega
theorem q5f (n : Int) : unz (zz n) = n := by
 unfold zz unz
 split <;> split <;> omega
theorem toNat_ofNat {n : Nat} (h : n < 256) : (UInt8.ofNat n).toNat = n := by simp [UInt8.toNat_ofNat]; omega
theorem q5g (k : Nat) : ∀ (j u v : Nat) (l : List UInt8), j + (k + 1) = 10 → v * 128 ^ j < 18446744073709551616 → (v = 0 → j = 0) → dG (k + 1) j u (vbytes v ++ l) = some (unz (u + v * 128 ^ j), l) := by
 have small : ∀ (k j u v : Nat) (l : List UInt8), v < 128 → v * 128 ^ j < 18446744073709551616 → (v = 0 → j = 0) → dG (k + 1) j u (vbytes v ++ l) = some (unz (u + v * 128 ^ j), l) := by
  intro k j u v l hv hb h0
  rw [ja hv, List.singleton_append, dG, toNat_ofNat (by omega), if_pos hv, if_neg]
  simp only [Bool.or_eq_true, Bool.and_eq_true, beq_iff_eq, decide_eq_true_eq, not_or, not_and]
  refine ⟨fun h => by have := h0 h; omega, fun h => ?_⟩
  subst h
  have e : (128 : Nat) ^ 9 = 9223372036854775808 := by decide
  rw [e] at hb; omega
 induction k with
 | zero =>
  intro j u v l hj hb h0
  refine small 0 j u v l ?_ hb h0
  have : j = 9 := by omega
  subst this
  have e : (128 : Nat) ^ 9 = 9223372036854775808 := by decide
  rw [e] at hb; omega
 | succ k ih =>
  intro j u v l hj hb h0
  by_cases hv : v < 128
  ·exact small _ j u v l hv hb h0
  ·have hm : v % 128 + 128 < 256 := by omega
   rw [j0 hv, List.cons_append, dG, toNat_ofNat hm, if_neg (by omega)]
   have e1 : (v % 128 + 128) % 128 = v % 128 := by omega
   have e2 : v % 128 * 128 ^ j + v / 128 * 128 ^ (j + 1) = v * 128 ^ j := by
    rw [Nat.pow_succ, Nat.mul_comm (128 ^ j) 128, ← Nat.mul_assoc, ← Nat.add_mul]
    congr 1; omega
   have hle : v / 128 * 128 ^ (j + 1) ≤ v * 128 ^ j := by omega
   rw [e1, ih (j + 1) _ (v / 128) l (by omega) (by omega) (by omega)]
   rw [Nat.add_assoc, e2]
theorem qmy {n : Int} (hn : I64 n) (l : List UInt8) : dInt (wInt n ++ l) = some (n, l) := by
 have := q5g 9 0 0 (zz n) l rfl (by rw [Nat.pow_zero, Nat.mul_one]; exact qt7 hn) (fun _ => rfl)
 rw [Nat.pow_zero, Nat.mul_one, Nat.zero_add, q5f] at this
 exact this
theorem qvk : ∀ (k j u : Nat) {l0 : List UInt8} {x : Int} {l : List UInt8}, j + k = 10 → dG k j u l0 = some (x, l) →
  ∃ v, x = unz (u + v * 128 ^ j) ∧ l0 = vbytes v ++ l ∧ (v = 0 → j = 0) ∧ v * 128 ^ j < 18446744073709551616
 | 0, j, u, l0, x, l, hj, h => by simp [dG] at h
 | k + 1, j, u, [], x, l, hj, h => by simp [dG] at h
 | k + 1, j, u, c :: l0, x, l, hj, h => by
  rw [dG] at h
  have hlt := kj c
  split at h
  ·rename_i hc
   split at h
   ·cases h
   ·rename_i hb
    cases h
    simp only [Bool.or_eq_true, Bool.and_eq_true, beq_iff_eq, decide_eq_true_eq, not_or, not_and] at hb
    refine ⟨c.toNat, rfl, ?_, fun h => by have := hb.1 h; omega, ?_⟩
    ·rw [ja hc, List.singleton_append]
     congr 1
     exact (UInt8.ofNat_toNat).symm
    ·rcases Nat.lt_or_ge j 9 with h9 | h9
     ·have hp := v8 (j := j) (by omega)
      rw [Nat.pow_succ] at hp
      have : c.toNat * 128 ^ j ≤ 127 * 128 ^ j := Nat.mul_le_mul_right _ (by omega)
      omega
     ·have : j = 9 := by omega
      subst this
      have := hb.2 rfl
      have e : (128 : Nat) ^ 9 = 9223372036854775808 := by decide
      rw [e]; omega
  ·rename_i hc
   obtain ⟨v, h1, h2, h3, h4⟩ := qvk k (j + 1) _ (by omega) h
   have e2 : c.toNat % 128 * 128 ^ j + v * 128 ^ (j + 1) = (v * 128 + c.toNat % 128) * 128 ^ j := by
    rw [Nat.pow_succ, Nat.mul_comm (128 ^ j) 128, ← Nat.mul_assoc, ← Nat.add_mul, Nat.add_comm]
   have hv : v ≠ 0 := fun h => by have := h3 h; omega
   have hk : k ≠ 0 := by
    rintro rfl
    simp [dG] at h
   refine ⟨v * 128 + c.toNat % 128, by rw [h1, Nat.add_assoc, e2], ?_, fun h => by omega, ?_⟩
   ·rw [h2, j0 (u := v * 128 + c.toNat % 128) (by omega), List.cons_append]
    have e3 : (v * 128 + c.toNat % 128) % 128 + 128 = c.toNat := by omega
    have e4 : (v * 128 + c.toNat % 128) / 128 = v := by omega
    rw [e3, e4]
    congr 1
    exact (UInt8.ofNat_toNat).symm
   ·rw [← e2]
    have hp := v8 (j := j) (by omega)
    have h5 : c.toNat % 128 * 128 ^ j ≤ 127 * 128 ^ j := Nat.mul_le_mul_right _ (by omega)
    have h6 : v * 128 ^ (j + 1) % 128 ^ (j + 1) = 0 := Nat.mul_mod_left _ _
    have h7 : (18446744073709551616 : Nat) % 128 ^ (j + 1) = 0 := by
     have : (18446744073709551616 : Nat) = 2 * 128 ^ 9 := by decide
     rw [this, ← Nat.pow_sub_mul_pow 128 (show j + 1 ≤ 9 by omega), ← Nat.mul_assoc]
     exact Nat.mul_mod_left _ _
    have h8 : 127 * 128 ^ j < 128 ^ (j + 1) := by rw [Nat.pow_succ]; have : 0 < 128 ^ j := Nat.pow_pos (by decide); omega
    generalize hP : 128 ^ (j + 1) = P at h4 h6 h7 h8 ⊢
    obtain ⟨q, hq⟩ := Nat.dvd_of_mod_eq_zero h7
    rw [hq] at h4 ⊢
    have : v < q := by
     rw [Nat.mul_comm P q] at h4
     exact Nat.lt_of_mul_lt_mul_right h4
    have : (v + 1) * P ≤ q * P := Nat.mul_le_mul_right _ this
    rw [Nat.add_mul, Nat.one_mul] at this
    rw [Nat.mul_comm P q]
    omega
theorem qmz {l0 : List UInt8} {n : Int} {l : List UInt8} (h : dInt l0 = some (n, l)) : I64 n ∧ l0 = wInt n ++ l := by
 obtain ⟨v, h1, h2, _, h4⟩ := qvk 10 0 0 rfl h
 rw [Nat.pow_zero, Nat.mul_one] at h1 h4
 rw [Nat.zero_add] at h1
 subst h1
 refine ⟨?_, by rw [wInt, q5e]; exact h2⟩
 unfold I64 unz
 split <;> omega
theorem qfo {most : Int} {s : List UInt8} (hs : (s.length : Int) ≤ most) (hm : most ≤ 1000000000) (l : List UInt8) : dBytes most (wText s ++ l) = some (s, l) := by
 unfold dBytes dBounded wText
 rw [List.append_assoc, qmy (xc (by omega))]
 simp only
 rw [if_neg (by omega)]
 simp only [Int.toNat_natCast, List.length_append]
 rw [if_neg (by omega), List.take_left, List.drop_left]
theorem qfp {most : Int} {l0 s l : List UInt8} (h : dBytes most l0 = some (s, l)) : l0 = wText s ++ l ∧ (s.length : Int) ≤ most := by
 unfold dBytes dBounded at h
 cases hd : dInt l0 with
 | none => rw [hd] at h; cases h
 | some x =>
  obtain ⟨n, l1⟩ := x
  rw [hd] at h
  simp only at h
  by_cases hn : n < 0 ∨ n > most
  ·rw [if_pos hn] at h; cases h
  ·rw [if_neg hn] at h
   simp only at h
   split at h
   ·cases h
   ·rename_i hl
    cases h
    obtain ⟨_, h1⟩ := qmz hd
    have e : ((l1.take n.toNat).length : Int) = n := by rw [List.length_take]; omega
    refine ⟨?_, by omega⟩
    unfold wText
    rw [e, List.append_assoc, List.take_append_drop]
    exact h1
theorem qr4 (v : Bool) (l : List UInt8) : dBool ([if v then 1 else 0] ++ l) = some (v, l) := by cases v <;> rfl
theorem qr5 {l0 : List UInt8} {v : Bool} {l : List UInt8} (h : dBool l0 = some (v, l)) : l0 = [if v then 1 else 0] ++ l := by
 cases l0 with
 | nil => cases h
 | cons c l1 =>
  rw [dBool] at h
  split at h
  ·cases h
  ·rename_i hc
   cases h
   have : c.toNat = 0 ∨ c.toNat = 1 := by omega
   rcases this with h | h
   ·have : c = 0 := UInt8.toNat_inj.1 h
    subst this; rfl
   ·have : c = 1 := UInt8.toNat_inj.1 h
    subst this; rfl
def dOp (l0 : List UInt8) : Option (OpS × List UInt8) := match dBytes 40 l0 with
 | none => none
 | some (k, l1) => match dBool l1 with
  | none => none
  | some (d, l2) => match dBytes 900 l2 with
   | none => none
   | some (v, l3) => some (⟨k, d, v⟩, l3)
theorem qxk {o : OpS} (ho : sProper o = true) (l : List UInt8) : dOp (wOp o ++ l) = some (o, l) := by
 obtain ⟨_, h1, h2, _⟩ := xp.1 ho
 unfold dOp wOp
 rw [List.append_assoc, List.append_assoc, qfo (by omega) (by omega)]
 simp only
 rw [qr4]
 simp only
 rw [qfo (by omega) (by omega)]
theorem qr6 {l0 : List UInt8} {o : OpS} {l : List UInt8} (h : dOp l0 = some (o, l)) : l0 = wOp o ++ l := by
 unfold dOp at h
 cases h1 : dBytes 40 l0 with
 | none => rw [h1] at h; cases h
 | some x =>
  obtain ⟨k, l1⟩ := x
  rw [h1] at h
  simp only at h
  cases h2 : dBool l1 with
  | none => rw [h2] at h; cases h
  | some x =>
   obtain ⟨d, l2⟩ := x
   rw [h2] at h
   simp only at h
   cases h3 : dBytes 900 l2 with
   | none => rw [h3] at h; cases h
   | some x =>
    obtain ⟨v, l3⟩ := x
    rw [h3] at h
    cases h
    rw [(qfp h1).1, qr5 h2, (qfp h3).1, wOp, List.append_assoc, List.append_assoc]
def dOpsA : Nat → List UInt8 → Option (List OpS × List UInt8)
 | 0, l => some ([], l)
 | n + 1, l0 => match dOpsA n l0 with
  | none => none
  | some (ops, l) => match dOp l with
   | none => none
   | some (o, l') => some (ops ++ [o], l')
theorem qjr (l : List OpS) (hp : ∀ o ∈ l, sProper o = true) (rest : List UInt8) : ∀ k, k ≤ l.length → dOpsA k (l.flatMap wOp ++ rest) = some (l.take k, (l.drop k).flatMap wOp ++ rest)
 | 0, _ => rfl
 | k + 1, hk => by
  rw [dOpsA, qjr l hp rest k (by omega)]
  simp only
  rw [List.drop_eq_getElem_cons (by omega), List.flatMap_cons, List.append_assoc, qxk (hp _ (List.getElem_mem (by omega)))]
  simp only
  rw [List.take_succ_eq_append_getElem (by omega)]
theorem qaw : ∀ (n : Nat) {l0 : List UInt8} {ops : List OpS} {l : List UInt8}, dOpsA n l0 = some (ops, l) → l0 = ops.flatMap wOp ++ l ∧ ops.length = n
 | 0, l0, ops, l, h => by cases h; exact ⟨rfl, rfl⟩
 | n + 1, l0, ops, l, h => by
  rw [dOpsA] at h
  cases h1 : dOpsA n l0 with
  | none => rw [h1] at h; cases h
  | some x =>
   obtain ⟨ops1, l1⟩ := x
   rw [h1] at h
   simp only at h
   cases h2 : dOp l1 with
   | none => rw [h2] at h; cases h
   | some x =>
    obtain ⟨o, l2⟩ := x
    rw [h2] at h
    cases h
    obtain ⟨e1, e2⟩ := qaw n h1
    rw [e1, qr6 h2]
    simp [e2]
theorem quw {r : Rd} (hr : r.Ok) (hf : r.failed = true) : (rOp r).2.failed = true := by
 have h1 := zt 40 r hr
 rw [if_pos hf] at h1
 have h2 := qav r hr
 rw [if_pos hf] at h2
 have h3 := zt 900 r hr
 rw [if_pos hf] at h3
 simp only [rOp, h1, h2, h3, hf]
theorem qg1 {α : Type} {b : List UInt8} {v : α} {l : List UInt8} {x : α × Rd} (h : Got (some (v, l)) b x) : x = (v, ⟨b, b.length - l.length, false⟩) := h
theorem qbe {α : Type} {z : α} {f : Rd → α × Rd} {d : List UInt8 → Option (α × List UInt8)} (hd : Reads z f d) {r : Rd} (hr : r.Ok) (hf : r.failed = false) {v : α} {l : List UInt8} (h : d (r.b.drop r.pos) = some (v, l)) : f r = (v, ⟨r.b, r.b.length - l.length, false⟩) := by
 rw [hd r hr, if_neg (by simp [hf]), h]
theorem qbf {α : Type} {z : α} {f : Rd → α × Rd} {d : List UInt8 → Option (α × List UInt8)} (hd : Reads z f d) {r : Rd} (hr : r.Ok) (hf : r.failed = false) (h : d (r.b.drop r.pos) = none) : (f r).2 = ⟨r.b, r.pos, true⟩ := by
 rw [hd r hr, if_neg (by simp [hf]), h]
theorem qbg {α : Type} {z : α} {f : Rd → α × Rd} {d : List UInt8 → Option (α × List UInt8)} (hd : Reads z f d) {r : Rd} (hr : r.Ok) (hf : r.failed = true) : f r = (z, r) := by
 rw [hd r hr, if_pos hf]
theorem xfe {r : Rd} (hr : r.Ok) (hf : r.failed = false) : Got (dOp (r.b.drop r.pos)) r.b (rOp r) := by
 unfold dOp
 cases h1 : dBytes 40 (r.b.drop r.pos) with
 | none =>
  have e1 := qbf (zt 40) hr hf h1
  have hr1 : (⟨r.b, r.pos, true⟩ : Rd).Ok := ⟨hr.len, hr.pos⟩
  simp only [Got, rOp, e1, qbg qav hr1 rfl, qbg (zt 900) hr1 rfl]
 | some x =>
  obtain ⟨k, l1⟩ := x
  have e1 := qbe (zt 40) hr hf h1
  obtain ⟨p1, hp1⟩ := qlv _ _ _ _ h1
  obtain ⟨t1, t2⟩ := ky hr.pos hp1
  have hr1 : (⟨r.b, r.b.length - l1.length, false⟩ : Rd).Ok := ⟨hr.len, Nat.sub_le _ _⟩
  simp only
  cases h2 : dBool l1 with
  | none =>
   have e2 := qbf qav hr1 rfl (by simp only [t1]; exact h2)
   simp only at e2
   have hr2 : (⟨r.b, r.b.length - l1.length, true⟩ : Rd).Ok := ⟨hr.len, Nat.sub_le _ _⟩
   simp only [Got, rOp, e1, e2, qbg (zt 900) hr2 rfl]
  | some x =>
   obtain ⟨d, l2⟩ := x
   have e2 := qbe qav hr1 rfl (v := d) (l := l2) (by simp only [t1]; exact h2)
   simp only at e2
   obtain ⟨p2, hp2⟩ := qo0 _ _ _ h2
   obtain ⟨t3, t4⟩ := ky (b := r.b) (p := r.b.length - l1.length) (Nat.sub_le _ _) (by rw [t1]; exact hp2)
   have hr2 : (⟨r.b, r.b.length - l2.length, false⟩ : Rd).Ok := ⟨hr.len, Nat.sub_le _ _⟩
   simp only
   cases h3 : dBytes 900 l2 with
   | none =>
    have e3 := qbf (zt 900) hr2 rfl (by simp only [t3]; exact h3)
    simp only [Got, rOp, e1, e2, e3]
   | some x =>
    obtain ⟨v, l3⟩ := x
    have e3 := qbe (zt 900) hr2 rfl (v := v) (l := l3) (by simp only [t3]; exact h3)
    simp only [Got, rOp, e1, e2, e3]
theorem q7m : Tails dOp := fun _ _ _ h => ⟨_, qr6 h⟩
theorem qr7 {r : Rd} (hr : r.Ok) (hf : r.failed = false) : ∀ n, Got (dOpsA n (r.b.drop r.pos)) r.b (rOpsA n r)
 | 0 => by
  have := hr.pos
  simp only [Got, dOpsA, rOpsA, List.length_drop]
  rw [show r.b.length - (r.b.length - r.pos) = r.pos by omega, ← hf]
 | n + 1 => by
  have ih := qr7 hr hf n
  have hi := qau hr n
  rw [dOpsA]
  cases h1 : dOpsA n (r.b.drop r.pos) with
  | none =>
   rw [h1] at ih
   simp only [Got] at ih ⊢
   simp only [rOpsA]
   exact quw hi.1 ih
  | some x =>
   obtain ⟨ops, l⟩ := x
   rw [h1] at ih
   have ih := qg1 ih
   obtain ⟨e1, _⟩ := qaw n h1
   obtain ⟨t1, t2⟩ := ky hr.pos e1
   have hr1 : (⟨r.b, r.b.length - l.length, false⟩ : Rd).Ok := ⟨hr.len, Nat.sub_le _ _⟩
   have h2 := xfe hr1 rfl
   simp only [t1] at h2
   simp only
   cases h3 : dOp l with
   | none =>
    rw [h3] at h2
    simp only [Got] at h2 ⊢
    simp only [rOpsA, ih, h2]
   | some x =>
    obtain ⟨o, l'⟩ := x
    rw [h3] at h2
    have h2 := qg1 h2
    simp only [Got, rOpsA, ih, h2]
theorem qjs {b : List UInt8} (hb : b.length ≤ 1000000000) : sDecode b = match dBounded 1 20 b with
  | none => ([], 4)
  | some (n, l) => match dOpsA n.toNat l with
   | some (ops, []) => if (sEncode ops).2 ≠ 0 then ([], 4) else (ops, 0)
   | _ => ([], 4) := by
 have hr0 : (⟨b, 0, false⟩ : Rd).Ok := ⟨hb, Nat.zero_le _⟩
 have h1 := ym 1 20 ⟨b, 0, false⟩ hr0
 simp only [Bool.false_eq_true, if_false, List.drop_zero] at h1
 unfold sDecode decRd
 cases hd : dBounded 1 20 b with
 | none =>
  rw [hd] at h1
  simp only at h1
  rw [h1, if_pos]
  simp [rOpsA, rEnd]
 | some x =>
  obtain ⟨n, l⟩ := x
  rw [hd] at h1
  simp only at h1
  rw [h1]
  obtain ⟨p, hp⟩ := jn _ _ _ _ _ hd
  obtain ⟨t1, t2⟩ := ky (b := b) (p := 0) (Nat.zero_le _) (by rw [List.drop_zero]; exact hp)
  have hr1 : (⟨b, b.length - l.length, false⟩ : Rd).Ok := ⟨hb, Nat.sub_le _ _⟩
  have h2 := qr7 hr1 rfl n.toNat
  simp only [t1] at h2
  simp only
  cases h3 : dOpsA n.toNat l with
  | none =>
   rw [h3] at h2
   simp only [Got] at h2
   rw [if_pos (by unfold rEnd; rw [h2]; simp)]
  | some x =>
   obtain ⟨ops, l2⟩ := x
   rw [h3] at h2
   have h2 := qg1 h2
   rw [h2]
   obtain ⟨e1, _⟩ := qaw _ h3
   have hl := congrArg List.length e1
   simp only [List.length_append] at hl
   cases l2 with
   | nil =>
    simp only
    rw [if_neg (by unfold rEnd; simp)]
   | cons c l2 =>
    simp only
    rw [if_pos]
    unfold rEnd
    simp only [List.length_cons] at hl ⊢
    rw [if_pos]
    ·simp
    ·simp; omega
theorem qg2 {l : List OpS} (h : (sEncode l).2 = 0) : sDecode (sEncode l).1 = (l, 0) := by
 obtain ⟨h20, hp, he⟩ := xf h
 have hlen := x5 l
 rw [qjs (by omega), he]
 have hl0 : l.length ≠ 0 := by
  intro h0
  unfold sEncode at h
  rw [if_pos (by simp [h0])] at h
  simp at h
 have e1 : dBounded 1 20 (wOps l) = some ((l.length : Int), l.flatMap wOp) := by
  unfold dBounded wOps
  rw [qmy (xc (by omega))]
  simp only
  rw [if_neg (by omega)]
 have e2 := qjr l hp [] l.length (Nat.le_refl _)
 rw [List.append_nil, List.take_length, List.drop_length, List.flatMap_nil, List.append_nil] at e2
 rw [e1]
 simp only [Int.toNat_natCast]
 rw [e2]
 simp only
 rw [if_neg (by simp [h])]
theorem qg3 {b : List UInt8} (hb : b.length ≤ 1000000000) (h : (sDecode b).2 = 0) : sEncode (sDecode b).1 = (b, 0) := by
 have hd := qjs hb
 cases h1 : dBounded 1 20 b with
 | none => rw [h1] at hd; simp only at hd; rw [hd] at h; simp at h
 | some x =>
  obtain ⟨n, l⟩ := x
  rw [h1] at hd
  simp only at hd
  cases h2 : dOpsA n.toNat l with
  | none => rw [h2] at hd; simp only at hd; rw [hd] at h; simp at h
  | some x =>
   obtain ⟨ops, l2⟩ := x
   rw [h2] at hd
   cases l2 with
   | cons c l2 => simp only at hd; rw [hd] at h; simp at h
   | nil =>
    simp only at hd
    by_cases he : (sEncode ops).2 ≠ 0
    ·rw [if_pos he] at hd; rw [hd] at h; simp at h
    ·rw [if_neg he] at hd
     have he : (sEncode ops).2 = 0 := by simpa using he
     rw [hd]
     obtain ⟨_, _, e⟩ := xf he
     rw [e]
     obtain ⟨e1, e2⟩ := qaw _ h2
     unfold dBounded at h1
     cases h3 : dInt b with
     | none => rw [h3] at h1; cases h1
     | some x =>
      obtain ⟨m, l3⟩ := x
      rw [h3] at h1
      simp only at h1
      split at h1
      ·cases h1
      ·cases h1
       obtain ⟨_, e3⟩ := qmz h3
       have : ((ops.length : Nat) : Int) = n := by omega
       rw [wOps, this, e3, e1, List.append_nil]
end Go.Proofs.Ytinnaedmdoengaa
namespace Go.Proofs.Ytinnaedmdoengaa
open Go.Abs
set_option linter.unusedSimpArgs false
set_option linter.unusedVariables false
noncomputable section
set_option maxRecDepth 100000
def s37r0 : List SOper := [
 ⟨some 2, .mov (.k (.d .nilptr)), none⟩,
 ⟨some 3, .mov (.k (.d (.int .i64 0))), none⟩]
def s37r1 : List SOper := [
 ⟨some 11, .call (.k (.d (.func (.func 12) [] []))) [], none⟩,
 ⟨some 4, .mov (.t 11), none⟩]
def s37r2 : List SOper := [
 ⟨some 13, .mov (.t 0), none⟩,
 ⟨some 14, .call (.k (.d (.func (.func 90) [] []))) [(.t 13)], none⟩,
 ⟨some 12, .mov (.t 14), none⟩,
 ⟨some 15, .extract 0 (.t 12), none⟩,
 ⟨some 16, .extract 1 (.t 12), none⟩,
 ⟨some 5, .alloc 1 [(.d .nilsl), (.d (.int .i64 0))], none⟩,
 ⟨none, .store (some 2) (.t 5) (.t 15), none⟩,
 ⟨some 6, .mov (.t 16), none⟩]
def s37r3 : List SOper := [
 ⟨some 17, .mov (.t 4), none⟩,
 ⟨some 18, .load (some 2) (.t 5), none⟩,
 ⟨some 19, .nilCheck (.t 17), none⟩,
 ⟨some 20, .faddr 0 (.t 19), none⟩,
 ⟨none, .store (some 2) (.t 20) (.t 18), none⟩]
def s37r4 : List SOper := [
 ⟨some 21, .mov (.t 6), none⟩,
 ⟨some 22, .len (.t 21), none⟩,
 ⟨some 23, .mov (.k (.d (.int .i64 0))), none⟩]
def s37r5 : List SOper := [
 ⟨some 24, .bin .lss (.t 23) (.t 22), none⟩]
def s37r6 : List SOper := [
 ⟨some 25, .iaddr 1 (.t 21) (.t 23), none⟩,
 ⟨some 26, .load none (.t 25), none⟩,
 ⟨some 8, .mov (.t 26), none⟩]
def s37r7 : List SOper := [
 ⟨some 28, .mov (.t 8), none⟩,
 ⟨some 29, .call (.k (.d (.func (.func 32) [] []))) [(.t 28)], none⟩,
 ⟨some 27, .mov (.t 29), none⟩,
 ⟨some 30, .extract 0 (.t 27), none⟩,
 ⟨some 31, .extract 1 (.t 27), none⟩,
 ⟨some 9, .mov (.t 30), none⟩,
 ⟨some 10, .mov (.t 31), none⟩]
def s37r8 : List SOper := [
 ⟨some 32, .mov (.t 10), none⟩,
 ⟨some 33, .bin .neq (.t 32) (.k (.d (.int .i64 0))), none⟩,
 ⟨some 34, .mov (.t 33), none⟩,
 ⟨some 35, .mov (.t 4), some (34, false)⟩,
 ⟨some 36, .nilCheck (.t 35), some (34, false)⟩,
 ⟨some 37, .faddr 2 (.t 36), some (34, false)⟩,
 ⟨some 38, .load none (.t 37), some (34, false)⟩,
 ⟨some 39, .mov (.t 9), some (34, false)⟩,
 ⟨some 40, .call (.k (.d (.func (.func 41) [] []))) [(.t 38), (.t 39)], some (34, false)⟩,
 ⟨some 41, .not (.t 40), some (34, false)⟩,
 ⟨some 42, .pick (.t 34) (.k (.d (.bool true))) (.t 41), none⟩]
def s37r9 : List SOper := [
 ⟨some 2, .mov (.k (.d .nilptr)), none⟩,
 ⟨some 3, .mov (.k (.d (.int .i64 4))), none⟩]
def s37r10 : List SOper := [
 ⟨some 43, .bin .add (.t 23) (.k (.d (.int .i64 1))), none⟩,
 ⟨some 23, .mov (.t 43), none⟩]
def s37l11 : SCode := (.seq (.region s37r5 0 []) (.seq (.cond (.t 24) .skip (.exit 0)) (.seq (.block 1 (.seq (.region s37r6 0 []) (.seq (.region s37r7 0 []) (.seq (.region s37r8 0 []) (.cond (.t 42) (.seq (.region s37r9 0 []) .ret) .skip))))) (.region s37r10 0 []))))
theorem q5h : CodeIs s37l11.eq_1 := qc s37l11.eq_1
def s37r12 : List SOper := [
 ⟨some 44, .mov (.t 4), none⟩,
 ⟨some 2, .mov (.t 44), none⟩,
 ⟨some 3, .mov (.k (.d (.int .i64 0))), none⟩]
def s37 : SCode := (.seq (.region s37r0 0 []) (.seq (.region s37r1 2 []) (.seq (.region s37r2 1 []) (.seq (.region s37r3 0 []) (.seq (.seq (.region s37r4 0 []) (.block 0 (.loop s37l11))) (.seq (.region s37r12 0 []) .ret))))))
theorem e37 : CodeIs s37.eq_1 := qc s37.eq_1
theorem xff : RegIs s37r0.eq_1 := qa
theorem xfg : RegIs s37r1.eq_1 := qa
theorem xfh : RegIs s37r2.eq_1 := qa
theorem xfi : RegIs s37r3.eq_1 := qa
theorem xfj : RegIs s37r4.eq_1 := qa
theorem xfk : RegIs s37r5.eq_1 := qa
theorem xfl : RegIs s37r6.eq_1 := qa
theorem xfm : RegIs s37r7.eq_1 := qa
theorem xfn : RegIs s37r8.eq_1 := qa
theorem xfo : RegIs s37r9.eq_1 := qa
theorem q5i : RegIs s37r10.eq_1 := qa
theorem q5j : RegIs s37r12.eq_1 := qa
attribute [go_sem] xff xfg xfh xfi xfj xfk xfl xfm xfn xfo q5i q5h q5j e37
theorem F37 : FnIs Try.prog 37 Try.f37 [] news s37 [.tmp 2, .tmp 3] 45 := xe follows Try.func37
end
def openA : Cont → List (List UInt8) → Option Cont
 | m, [] => some m
 | m, b :: l => if (sDecode b).2 ≠ 0 then none else if (mApply m (sDecode b).1).2 = false then none else openA (mApply m (sDecode b).1).1 l
def sOpen (file : List UInt8) : Option Sto := (openA emptyC (wRecs file)).map fun m => ⟨file.take (wUsed file), (wUsed file : Nat), m⟩
def openE (file : List UInt8) : Int := if (sOpen file).isSome then 0 else 4
def openP (file : List UInt8) : D := if (sOpen file).isSome then .ptr 1 0 else .nilptr
def openO (file : List UInt8) : List AObj := match sOpen file with
 | some s => [mapO s.m, stoO s 0]
 | none => [.none, .none]
theorem qbz {b : List UInt8} (hb : b.length ≤ 1000000000) (h : (sDecode b).2 = 0) : (sDecode b).1.length ≤ 20 ∧ ∀ o ∈ (sDecode b).1, sProper o = true := by
 have h1 := qg3 hb h
 obtain ⟨k1, k2, _⟩ := xf (by rw [h1] : (sEncode (sDecode b).1).2 = 0)
 exact ⟨k1, k2⟩
theorem qjt (l : List (List UInt8)) {i : Nat} (h : i < l.length) : (recRows l).getD i [] = [.sl 1 (byteRows l[i])] := qq (fun r : List UInt8 => [D.sl 1 (byteRows r)]) l h []
def Sopen (file : List UInt8) (i : Nat) (m : Cont) : St :=
 ⟨[(4, true, .d (.ptr 1 0)), (21, true, .d (.sl 1 (recRows (wRecs file)))), (22, true, .d (.int .i64 (wRecs file).length)), (23, true, .d (.int .i64 (i : Nat)))], [mapO m, stoO ⟨file.take (wUsed file), (wUsed file : Nat), m⟩ 0], [], 1⟩
set_option maxRecDepth 10000 in
theorem qr8 (file : List UInt8) (hb : file.length ≤ 1000000000) : ACall Try.prog 37 [.d (.sl 1 (byteRows file))] [] (.tup [.d (openP file), .d (.int .i64 (openE file))]) (openO file) := by
 have k0 := qdn
 have hln := qro file
 simp only [stoO, mapO] at k0
 refine F37.goT ?_
 try (refine ev ?_; try exact True.intro)
 refine clO [0, 1] F12 k0 ?_
 try (refine ev ?_; try exact True.intro)
 (repeat (with_reducible refine ob ?_)); first | refine cl F90 (qfg file hb) ?_ | refine clF F90 (qfg file hb) (fun _ => by simp only [encOp, encEn, encStep, go_sem, Nat.reduceAdd, Nat.reduceMul, Nat.reduceSub, Nat.reduceEqDiff, Nat.reduceLT, Nat.reduceLeDiff, Nat.reduceBEq, reduceIte, reduceCtorEq, Int.reduceAdd, Int.reduceLT, Int.reduceLE, Int.reduceGT, Int.reduceGE, Int.reduceEq, Int.reduceNe, Int.reduceBEq, Int.reduceBNe, Int.reduceToNat, Int.reduceNeg]) ?_
 try (refine ev1 @encLog.eq_1 ?_; try exact True.intro)
 refine ql (fun x : { x : Nat × Cont // x.1 ≤ (wRecs file).length ∧ openA x.2 ((wRecs file).drop x.1) = openA emptyC (wRecs file) } => Sopen file x.val.1 x.val.2) (fun x => (wRecs file).length - x.val.1) ⟨(0, emptyC), Nat.zero_le _, by simp⟩ ?_ (fun x => ?_)
 ·try (refine ev5 @Sopen.eq_1 @stoO.eq_1 @mapO.eq_1 @newS.eq_1 @Int.ofNat_zero ?_; try exact True.intro)
 obtain ⟨⟨i, m⟩, hi, hx⟩ := x
 simp only at hi hx
 try (refine ev3 @Sopen.eq_1 @stoO.eq_1 @mapO.eq_1 ?_; try exact True.intro)
 refine xk _ (fun hc => ?_) (fun hc => ?_)
 ·have hil : i < (wRecs file).length := by simpa using hc
  have hr := qdo file _ (List.getElem_mem hil)
  rw [List.drop_eq_getElem_cons hil, openA] at hx
  try simp only [qjt _ hil, go_sem, Nat.reduceAdd, Nat.reduceMul, Nat.reduceSub, Nat.reduceEqDiff, Nat.reduceLT, Nat.reduceLeDiff, Nat.reduceBEq, reduceIte, reduceCtorEq, Int.reduceAdd, Int.reduceLT, Int.reduceLE, Int.reduceGT, Int.reduceGE, Int.reduceEq, Int.reduceNe, Int.reduceBEq, Int.reduceBNe, Int.reduceToNat, Int.reduceNeg]
  (repeat (with_reducible refine ob ?_))
  (repeat (with_reducible refine ob ?_)); first | refine cl F32 (qfk (wRecs file)[i] (by omega)) ?_ | refine clF F32 (qfk (wRecs file)[i] (by omega)) (fun _ => by simp only [encOp, encEn, encStep, go_sem, Nat.reduceAdd, Nat.reduceMul, Nat.reduceSub, Nat.reduceEqDiff, Nat.reduceLT, Nat.reduceLeDiff, Nat.reduceBEq, reduceIte, reduceCtorEq, Int.reduceAdd, Int.reduceLT, Int.reduceLE, Int.reduceGT, Int.reduceGE, Int.reduceEq, Int.reduceNe, Int.reduceBEq, Int.reduceBNe, Int.reduceToNat, Int.reduceNeg]) ?_
  try (refine ev ?_; try exact True.intro)
  by_cases he : (sDecode (wRecs file)[i]).2 = 0
  ·rw [if_neg (by simpa using he)] at hx
   obtain ⟨g1, g2⟩ := qbz (by omega) he
   have hap := qmm m (sDecode (wRecs file)[i]).1 (by omega) (fun o ho => by have := (xp.1 (g2 o ho)).2.2.1; omega)
   simp only [mapO] at hap
   have hz : (((sDecode (wRecs file)[i]).2 : Int) != 0) = false := by rw [he]; rfl
   try (refine ev1 @hz ?_; try exact True.intro)
   (repeat (with_reducible refine ob ?_)); refine clO [0] F41 (hap) ?_ (hfit := by first | exact ⟨qb, trivial⟩ | exact ⟨qb, qb, trivial⟩ | simp only [encOp, encEn, encStep, go_sem, Nat.reduceAdd, Nat.reduceMul, Nat.reduceSub, Nat.reduceEqDiff, Nat.reduceLT, Nat.reduceLeDiff, Nat.reduceBEq, reduceIte, reduceCtorEq, Int.reduceAdd, Int.reduceLT, Int.reduceLE, Int.reduceGT, Int.reduceGE, Int.reduceEq, Int.reduceNe, Int.reduceBEq, Int.reduceBNe, Int.reduceToNat, Int.reduceNeg])
   try (refine ev ?_; try exact True.intro)
   refine xk _ (fun ha => ?_) (fun ha => ?_)
   ·rw [if_pos (by simpa using ha)] at hx
    have hs : sOpen file = none := by rw [sOpen, ← hx]; rfl
    have hP : openP file = .nilptr := by rw [openP, hs]; rfl
    have hE : openE file = 4 := by rw [openE, hs]; rfl
    have hO : openO file = [.none, .none] := by rw [openO, hs]
    try (refine ev3 @hP @hE @hO ?_; try exact True.intro)
   ·rw [if_neg (by simpa using ha)] at hx
    try (refine ev ?_; try exact True.intro)
    refine ⟨⟨(i + 1, (mApply m (sDecode (wRecs file)[i]).1).1), hil, hx⟩, ?_, by dsimp only; omega⟩
    try (refine ev4 @Sopen.eq_1 @stoO.eq_1 @mapO.eq_1 (qj (show i < 9223372036854775807 by omega)) ?_; try exact True.intro)
  ·rw [if_pos (by simpa using he)] at hx
   have hz : (((sDecode (wRecs file)[i]).2 : Int) != 0) = true := by simpa using he
   have hs : sOpen file = none := by rw [sOpen, ← hx]; rfl
   try (refine ev1 @hz ?_; try exact True.intro)
   (repeat (with_reducible refine ob ?_)); refine qyg ?_
   try (refine ev ?_; try exact True.intro)
   (repeat (with_reducible refine ob ?_)); refine yo ?_
   have hP : openP file = .nilptr := by rw [openP, hs]; rfl
   have hE : openE file = 4 := by rw [openE, hs]; rfl
   have hO : openO file = [.none, .none] := by rw [openO, hs]
   try (refine ev3 @hP @hE @hO ?_; try exact True.intro)
 ·have hie : i = (wRecs file).length := by
   have : (wRecs file).length ≤ i := by simpa using hc
   omega
  subst hie
  rw [List.drop_length, openA] at hx
  have hs : sOpen file = some ⟨file.take (wUsed file), (wUsed file : Nat), m⟩ := by rw [sOpen, ← hx]; rfl
  have hP : openP file = .ptr 1 0 := by rw [openP, hs]; rfl
  have hE : openE file = 0 := by rw [openE, hs]; rfl
  have hO : openO file = [mapO m, stoO ⟨file.take (wUsed file), (wUsed file : Nat), m⟩ 0] := by rw [openO, hs]
  try (refine ev5 @hP @hE @hO @stoO.eq_1 @mapO.eq_1 ?_; try exact True.intro)
theorem qm0 {file : List UInt8} {s : Sto} (hb : file.length ≤ 1000000000) (h : sOpen file = some s) : ACall Try.prog 37 [.d (.sl 1 (byteRows file))] [] (.tup [.d (.ptr 1 0), .d (.int .i64 0)]) [mapO s.m, stoO s 0] := by
 have := qr8 file hb
 have hP : openP file = .ptr 1 0 := by rw [openP, h]; rfl
 have hE : openE file = 0 := by rw [openE, h]; rfl
 rw [hP, hE, openO, h] at this
 exact this
theorem xfp {file : List UInt8} (hb : file.length ≤ 1000000000) (h : sOpen file = none) : ACall Try.prog 37 [.d (.sl 1 (byteRows file))] [] (.tup [.d .nilptr, .d (.int .i64 4)]) [.none, .none] := by
 have := qr8 file hb
 have hP : openP file = .nilptr := by rw [openP, h]; rfl
 have hE : openE file = 4 := by rw [openE, h]; rfl
 rw [hP, hE, openO, h] at this
 exact this
theorem qfq : ∀ (l : List (List UInt8)) {m m' : Cont}, (∀ r ∈ l, r.length ≤ 2000) → m.Good → openA m l = some m' → m'.Good
 | [], m, m', _, hm, h => by cases h; exact hm
 | b :: l, m, m', hl, hm, h => by
  rw [openA] at h
  split at h
  ·cases h
  ·rename_i he
   split at h
   ·cases h
   ·rename_i ha
    have hbl := hl b List.mem_cons_self
    have hg := qbz (b := b) (by omega) (by simpa using he)
    exact qfq l (fun r hr => hl r (List.mem_cons_of_mem _ hr)) (vb _ hm hg.2 (by simpa using ha)) h
theorem qdu : emptyC.Good := (qa9 0).good
theorem wn {file : List UInt8} {s : Sto} (h : sOpen file = some s) : s.m.Good ∧ s.file = file.take (wUsed file) ∧ s.synced = (wUsed file : Nat) := by
 unfold sOpen at h
 rw [Option.map_eq_some_iff] at h
 obtain ⟨m, hm, rfl⟩ := h
 exact ⟨qfq _ (qdo file) qdu hm, rfl, rfl⟩
end Go.Proofs.Ytinnaedmdoengaa
namespace Go.Proofs.Ytinnaedmdoengaa
open Go.Abs
set_option linter.unusedSimpArgs false
set_option linter.unusedVariables false
def eOpenA : List En → List (List UInt8) → Option (List En)
 | m, [] => some m
 | m, b :: l => if (sDecode b).2 ≠ 0 then none else if (eApply m (sDecode b).1).2 = false then none else eOpenA (eApply m (sDecode b).1).1 l
theorem qju : ∀ (l : List (List UInt8)) {m : Cont}, m.Ok → m.l.length ≤ 400 → (openA m l).map entsOf = eOpenA (entsOf m) l
 | [], m, _, _ => rfl
 | b :: l, m, h, hl => by
  rw [openA, eOpenA]
  split
  ·rfl
  ·obtain ⟨k1, k2⟩ := kx (sDecode b).1 h hl
   rw [← k1]
   split
   ·rfl
   ·rename_i ha
    obtain ⟨k3, k4, k5⟩ := k2 (by simpa using ha)
    rw [qju l k4 k5, k3]
theorem qfr : ∀ (ops : List OpS) (m : List En), m.length ≤ 400 → (eApply m ops).2 = true → (eApply m ops).1.length ≤ 400
 | [], m, h, _ => h
 | o :: ops, m, h, hy => by
  rw [eApply] at hy ⊢
  split at hy
  ·cases hy
  ·rename_i h4
   rw [if_neg h4]
   exact qfr ops _ (by omega) hy
theorem qo2 : ∀ (l : List (List UInt8)) {m m' : List En}, m.length ≤ 400 → eOpenA m l = some m' → m'.length ≤ 400
 | [], m, m', h, he => by cases he; exact h
 | b :: l, m, m', h, he => by
  rw [eOpenA] at he
  split at he
  ·cases he
  ·split at he
   ·cases he
   ·rename_i ha
    exact qo2 l (qfr _ m h (by simpa using ha)) he
theorem ki : entsOf emptyC = [] := List.eq_nil_of_length_eq_zero (by rw [jd]; rfl)
def eRun : List En → List (List OpS) → Option (List En)
 | m, [] => some m
 | m, t :: ts => if (eApply m t).2 = false then none else eRun (eApply m t).1 ts
theorem qg4 : ∀ (a b : List (List OpS)) (m : List En), eRun m (a ++ b) = (eRun m a).bind fun m' => eRun m' b
 | [], b, m => rfl
 | t :: a, b, m => by
  rw [List.cons_append, eRun, eRun]
  split
  ·rfl
  ·exact qg4 a b _
theorem qux {m r : List En} {ts : List (List OpS)} (h : eRun m ts = some r) (j : Nat) : ∃ r', eRun m (ts.take j) = some r' := by
 rw [← List.take_append_drop j ts, qg4] at h
 cases he : eRun m (ts.take j) with
 | none => rw [he] at h; cases h
 | some r' => exact ⟨r', rfl⟩
theorem qfs : ∀ (a b : List OpS) (m : List En), eApply m (a ++ b) = if (eApply m a).2 = false then ([], false) else eApply (eApply m a).1 b
 | [], b, m => rfl
 | o :: a, b, m => by
  rw [List.cons_append, eApply, eApply]
  split
  ·rfl
  ·exact qfs a b _
theorem qjv : ∀ (ts : List (List OpS)) (m r : List En), eApply m ts.flatten = (r, true) → eRun m ts = some r
 | [], m, r, h => by
  rw [List.flatten_nil, eApply] at h
  cases h; rfl
 | t :: ts, m, r, h => by
  rw [List.flatten_cons, qfs] at h
  rw [eRun]
  split at h
  ·cases h
  ·rename_i ha
   rw [if_neg ha]
   exact qjv ts _ r h
theorem qjw : ∀ (ts : List (List OpS)) (m : List En), (∀ t ∈ ts, (sEncode t).2 = 0) → eOpenA m (ts.map wOps) = eRun m ts
 | [], m, _ => rfl
 | t :: ts, m, h => by
  have h0 := h t List.mem_cons_self
  obtain ⟨_, _, he⟩ := xf h0
  have hd := qg2 h0
  rw [he] at hd
  rw [List.map_cons, eOpenA, hd, eRun]
  simp only [ne_eq, not_true_eq_false, if_false]
  split
  ·rfl
  ·exact qjw ts _ fun x hx => h x (List.mem_cons_of_mem _ hx)
def txFile (ts : List (List OpS)) : List UInt8 := fileOf (ts.map wOps)
theorem yn (ts : List (List OpS)) (t : List OpS) : txFile (ts ++ [t]) = wAppend (txFile ts) (wOps t) := by rw [txFile, List.map_append, List.map_cons, List.map_nil, qff]; rfl
theorem quy {ts : List (List OpS)} (h : ∀ t ∈ ts, (sEncode t).2 = 0) : ∀ r ∈ ts.map wOps, r.length ≤ 2000 := by
 intro r hr
 obtain ⟨t, ht, rfl⟩ := List.mem_map.1 hr
 have h1 := x5 t
 rw [(xf (h t ht)).2.2] at h1
 exact h1
structure Bk (s : Sto) (ts : List (List OpS)) : Prop where
 file : s.file = txFile ts
 enc : ∀ t ∈ ts, (sEncode t).2 = 0
 run : eRun [] ts = some (entsOf s.m)
theorem qlw : Bk newS [] := ⟨rfl, by simp, by rw [show newS.m = emptyC from rfl, ki]; rfl⟩
theorem qdv {s : Sto} {ts : List (List OpS)} {l : List OpS} (h : Bk s ts) (hg : s.m.Good) (hc : (sCommit s l).2 = 0) : Bk (sCommit s l).1 (ts ++ [l]) := by
 rcases jm s l with ⟨c1, _⟩ | ⟨_, c2, c3, c4⟩
 ·exact (c1 hc).elim
 ·obtain ⟨k1, k2⟩ := kx l hg.ok hg.few
  obtain ⟨k3, _, _⟩ := k2 c3
  have he := (xf c2).2.2
  rw [c4]
  refine ⟨?_, fun t ht => ?_, ?_⟩
  ·simp only [he]
   rw [yn, h.file]
  ·rcases List.mem_append.1 ht with ht | ht
   ·exact h.enc t ht
   ·simp at ht; subst ht; exact c2
  ·simp only
   rw [qg4, h.run, k3]
   rw [c3] at k1
   simp only [Option.bind_some, eRun, ← k1, Bool.true_eq_false, if_false]
theorem qxl {s : Sto} {ts : List (List OpS)} (h : Bk s ts) : Bk (sSync s) ts := ⟨h.file, h.enc, h.run⟩
theorem qjx {s : Sto} {ts : List (List OpS)} (h : Bk s ts) (k : Nat) : ∃ (j : Nat) (s' : Sto), j ≤ ts.length ∧ sOpen (s.file.take k) = some s' ∧ eRun [] (ts.take j) = some (entsOf s'.m) ∧ (txFile (ts.take j)).length ≤ k ∧
  s'.file = txFile (ts.take j) ∧ s'.synced = (s'.file.length : Nat) ∧ ∀ i, i ≤ ts.length → (txFile (ts.take i)).length ≤ k → i ≤ j := by
 obtain ⟨j, q1, q2, q3, q4, q5⟩ := qor (ts.map wOps) k (quy h.enc)
 rw [List.length_map] at q1 q5
 have hf : fileOf (ts.map wOps) = s.file := h.file.symm
 rw [hf] at q2 q3
 have hmt : ∀ i, (ts.map wOps).take i = (ts.take i).map wOps := fun i => (List.map_take ..).symm
 rw [hmt] at q2 q3 q4
 obtain ⟨r, hr⟩ := qux h.run j
 have ho := qju (wRecs (s.file.take k)) (m := emptyC) qdu.ok (Nat.zero_le _)
 rw [ki] at ho
 have hw : wRecs (s.file.take k) = (ts.take j).map wOps := q2
 rw [hw, qjw _ _ (fun t ht => h.enc t (List.mem_of_mem_take ht)), hr, ← hw] at ho
 rw [Option.map_eq_some_iff] at ho
 obtain ⟨m, hm, he⟩ := ho
 have hu : wUsed (s.file.take k) = (txFile (ts.take j)).length := q3
 refine ⟨j, ⟨(s.file.take k).take (wUsed (s.file.take k)), (wUsed (s.file.take k) : Nat), m⟩, q1, by rw [sOpen, hm]; rfl, by rw [hr, ← he], q4, ?_, ?_, fun i hi hk => q5 i hi (by rw [hmt]; exact hk)⟩
 ·simp only [hu]
  have hmin : min (txFile (ts.take j)).length k = (txFile (ts.take j)).length := Nat.min_eq_left q4
  rw [List.take_take, hmin]
  have := qoq (ts.map wOps) j (by rw [List.length_map]; exact q1)
  rw [hmt, hf] at this
  exact this
 ·simp only
  have := qmx (s.file.take k)
  rw [List.length_take, Nat.min_eq_left this]
end Go.Proofs.Ytinnaedmdoengaa
namespace Go.Proofs.Ytinnaedmdoengaa
open Go.Abs
set_option linter.unusedSimpArgs false
set_option linter.unusedVariables false
def flatOp (l : List OpS) : List D := (l.map encOp).flatten
theorem jt (l : List OpS) : (flatOp l).length = l.length * 3 := by induction l <;> simp_all [flatOp, encOp]; omega
theorem x6 (l : List OpS) : D.noPtrL (flatOp l) = true := by
 rw [D.noPtrL_iff]
 exact fun d hd => (D.noPtrR_iff _).1 (zr l) d hd
theorem jc (l : List OpS) : (flatOp l).all D.isCell = true := by induction l <;> simp_all [flatOp, encOp, D.isCell]
theorem qjy (l : List OpS) (ex : List D) : ∀ {i : Nat} (h : i < l.length), ((flatOp l ++ ex).drop (i * 3)).take 3 = encOp l[i] := by
 induction l with
 | nil => intro i h; simp at h
 | cons o l ih =>
  intro i h
  have hf : flatOp (o :: l) = .str o.key :: .bool o.del :: .sl 1 (byteRows o.val) :: flatOp l := rfl
  rw [hf]
  cases i with
  | zero => rfl
  | succ i =>
   rw [show (i + 1) * 3 = i * 3 + 1 + 1 + 1 by omega]
   exact ih (by simpa using h)
def SidxOR (k : FuncId) (l : List OpS) (ex : List D) (f : OpS → Bool) (i : { i : Nat // (l.take i).any f = false }) : St :=
 ⟨[(0, true, .d (.ref 0 0 3 l.length)), (1, true, .d (.func (.func k) [] [])), (7, true, .d (.int .i64 l.length)), (8, true, .d (.int .i64 (i.val : Nat)))], [.row ((flatOp l ++ ex).map .d)], [], 1⟩
theorem qo3 {k : FuncId} {f : OpS → Bool} (hb : (Try.prog.funcs[k]?).any (fun fn => fn.body.isSome && !(fn.name == "runtime.NumGoroutine")) = true)
  (hf : ∀ v, ACall Try.prog k [.d (.agg (encOp v))] [] (.d (.bool (f v))) []) (l : List OpS) (ex : List D) (hex : D.noPtrL ex = true) (hl : l.length ≤ maxLen) :
  ACall Try.prog 110 [.d (.ref 0 0 3 l.length), .d (.func (.func k) [] [])] [.row ((flatOp l ++ ex).map .d)] (.d (.int .i64 (idx f l))) [.row ((flatOp l ++ ex).map .d)] := by
 have hlf := jt l
 have hnp : D.noPtrL (flatOp l ++ ex) = true := by rw [zb, x6, hex]; rfl
 refine q0c.go ?_
 try (refine ev ?_; try exact True.intro)
 refine ql (SidxOR k l ex f) (fun i => l.length - i.val) ⟨0, rfl⟩ ?_ (fun i => ?_)
 ·try (refine ev2 @SidxOR.eq_1 @hnp ?_; try exact True.intro)
 obtain ⟨i, hi⟩ := i
 try (refine ev1 @SidxOR.eq_1 ?_; try exact True.intro)
 (repeat (with_reducible refine ob ?_)); refine xk _ (fun h => ?_) (fun h => ?_)
 ·have hil : i < l.length := by simpa using h
  try (refine ev4 (qjy l ex hil) @List.length_map.{0,0} @List.length_append.{0} @hlf ?_; try exact True.intro)
  refine ⟨by omega, ⟨by omega, by omega, rfl⟩, ?_⟩
  refine qm (hf l[i]) hb (fun h => h) (fun _ => ⟨qb, trivial⟩) (by try (refine ev1 @encOp.eq_1 ?_; try exact True.intro)) rfl rfl ?_
  try (refine ev ?_; try exact True.intro)
  (repeat (with_reducible refine ob ?_)); refine xk _ (fun h => ?_) (fun h => ?_)
  ·try (refine ev2 (qaf hi hil h) @hnp ?_; try exact True.intro)
  ·try (refine ev ?_; try exact True.intro)
   refine ⟨⟨i + 1, zq hi hil (by simpa using h)⟩, ?_, by dsimp only; omega⟩
   try (refine ev3 @SidxOR.eq_1 @hnp (qj (show i < 9223372036854775807 by unfold maxLen at hl; omega)) ?_; try exact True.intro)
 ·have hil : l.length ≤ i := by simpa using h
  try (refine ev2 (qae hi hil) @hnp ?_; try exact True.intro)
theorem qg5 {k : FuncId} {f : OpS → Bool} (hb : (Try.prog.funcs[k]?).any (fun fn => fn.body.isSome && !(fn.name == "runtime.NumGoroutine")) = true)
  (hf : ∀ v, ACall Try.prog k [.d (.agg (encOp v))] [] (.d (.bool (f v))) []) (l : List OpS) (ex : List D) (hex : D.noPtrL ex = true) (hl : l.length ≤ maxLen) :
  ACall Try.prog 68 [.d (.ref 0 0 3 l.length), .d (.func (.func k) [] [])] [.row ((flatOp l ++ ex).map .d)] (.d (.bool (l.any f))) [.row ((flatOp l ++ ex).map .d)] := by
 have hnp : D.noPtrL (flatOp l ++ ex) = true := by rw [zb, x6, hex]; rfl
 have hc := qo3 hb hf l ex hex hl
 refine F68.go ?_
 try (refine ev ?_; try exact True.intro)
 refine clO [0] q0c hc ?_ (hik := by try (refine ev2 @hnp @D.inKL_noPtr ?_; try exact True.intro)) (hold := by try (refine ev1 @hnp ?_; try exact True.intro)) (htk := by try (refine ev1 @hnp ?_; try exact True.intro))
 try (refine ev2 @qit @hnp ?_; try exact True.intro)
def SencR (l : List OpS) (ex : List D) (i : { i : Nat // i ≤ l.length }) : St :=
 ⟨[(0, true, .d (.ref 0 0 3 l.length)), (4, true, .own 0 1 (byteRows (wInt l.length ++ (l.take i.val).flatMap wOp))), (17, true, .d (.ref 0 0 3 l.length)), (18, true, .d (.int .i64 l.length)), (19, true, .d (.int .i64 (i.val : Nat)))], [.row ((flatOp l ++ ex).map .d)], [0], 1⟩
set_option maxRecDepth 10000 in
theorem qdw (l : List OpS) (ex : List D) (hex : D.noPtrL ex = true) (hl : l.length ≤ 100000) :
  ACall Try.prog 30 [.d (.ref 0 0 3 l.length)] [.row ((flatOp l ++ ex).map .d)] (.tup [.d (.sl 1 (byteRows (sEncode l).1)), .d (.int .i64 (sEncode l).2)]) [.row ((flatOp l ++ ex).map .d)] := by
 have hlf := jt l
 have hnp : D.noPtrL (flatOp l ++ ex) = true := by rw [zb, x6, hex]; rfl
 have hc := qg5 vy qa6 l ex hex (by unfold maxLen; omega)
 refine F30.goT ?_
 by_cases h0 : l.length = 0
 ·have hd : (((l.length : Nat) : Int) == 0) = true := by rw [h0]; rfl
  have hb : sEncode l = ([], 1) := by
   unfold sEncode
   rw [if_pos]
   simp [h0]
  try (refine ev1 @hd ?_; try exact True.intro)
  (repeat (with_reducible refine ob ?_)); refine qyg ?_
  try (refine ev ?_; try exact True.intro)
  (repeat (with_reducible refine ob ?_)); refine yo ?_
  try (refine ev3 @hb @qk @hnp ?_; try exact True.intro)
 have hd : (((l.length : Nat) : Int) == 0) = false := by rw [beq_eq_false_iff_ne]; omega
 try (refine ev1 @hd ?_; try exact True.intro)
 refine clO [0] F68 hc ?_ (hik := by try (refine ev2 @hnp @D.inKL_noPtr ?_; try exact True.intro)) (hold := by try (refine ev1 @hnp ?_; try exact True.intro)) (htk := by try (refine ev1 @hnp ?_; try exact True.intro))
 try (refine ev ?_; try exact True.intro)
 (repeat (with_reducible refine ob ?_)); refine xk _ (fun h => ?_) (fun h => ?_)
 ·have hb : sEncode l = ([], 1) := by
   unfold sEncode
   rw [if_pos]
   rw [h]; simp
  try (refine ev3 @hb @qk @hnp ?_; try exact True.intro)
 have hne : ¬ (decide (l.length = 0) || l.any (fun o => !sProper o)) = true := by
  rw [h]; simp [h0]
 have hpr : ∀ o ∈ l, sProper o = true := by
  simp only [Bool.or_eq_true, not_or, List.any_eq_true, not_exists, not_and] at hne
  intro o ho
  simpa using hne.2 o ho
 have hwl := wd hpr
 have hil0 := zp (xc (n := l.length) (by omega))
 try (refine ev ?_; try exact True.intro)
 refine clA F71 (wc [] l.length (by simp) (xc (by omega))) ?_
 try (refine ev ?_; try exact True.intro)
 refine ql (SencR l ex) (fun i => l.length - i.val) ⟨0, Nat.zero_le _⟩ ?_ (fun i => ?_)
 ·try (refine ev3 @SencR.eq_1 @List.take_zero.{0} @hnp ?_; try exact True.intro)
 obtain ⟨i, hi⟩ := i
 try (refine ev1 @SencR.eq_1 ?_; try exact True.intro)
 (repeat (with_reducible refine ob ?_)); refine xk _ (fun h => ?_) (fun h => ?_)
 ·have hil : i < l.length := by simpa using h
  have ho := hpr l[i] (List.getElem_mem hil)
  obtain ⟨p1, p2, p3, _⟩ := xp.1 ho
  have hpre : (wInt l.length ++ (l.take i).flatMap wOp).length ≤ 100000020 := by
   have := wd (l := l.take i) (fun o h => hpr o (List.mem_of_mem_take h))
   simp only [List.length_append, List.length_take] at this ⊢
   have : min i l.length ≤ 100000 := by omega
   omega
  have k1 := ku l[i].key (by omega)
  try (refine ev4 (qjy l ex hil) @List.length_map.{0,0} @hlf @encOp.eq_1 ?_; try exact True.intro)
  refine ⟨by omega, ⟨by omega, by omega⟩, ?_⟩
  refine clA F74 (qc9 (wInt l.length ++ (l.take i).flatMap wOp) l[i].key (by omega)) ?_
  try (refine ev ?_; try exact True.intro)
  refine clA F73 (qc8 ((wInt l.length ++ (l.take i).flatMap wOp) ++ wText l[i].key) l[i].del (by simp only [List.length_append] at hpre ⊢; omega)) ?_
  try (refine ev ?_; try exact True.intro)
  refine clA F72 (qbs ((wInt l.length ++ (l.take i).flatMap wOp) ++ wText l[i].key ++ [if l[i].del then 1 else 0]) l[i].val (by simp only [List.length_append, List.length_cons, List.length_nil] at hpre ⊢; omega)) ?_
  try (refine ev ?_; try exact True.intro)
  have e : wInt l.length ++ (l.take i).flatMap wOp ++ wText l[i].key ++ [if l[i].del then 1 else 0] ++ wText l[i].val = wInt l.length ++ (l.take (i + 1)).flatMap wOp := by
   rw [qda wOp l hil, wOp]; simp only [List.append_assoc]
  refine ⟨⟨i + 1, hil⟩, ?_, by dsimp only; omega⟩
  try (refine ev4 @SencR.eq_1 @e @hnp (qj (show i < 9223372036854775807 by omega)) ?_; try exact True.intro)
 ·have hie : i = l.length := by simp at h; omega
  subst hie
  try (refine ev1 @List.take_length.{0} ?_; try exact True.intro)
  have hw : wInt l.length ++ l.flatMap wOp = wOps l := rfl
  have hw2 : (wOps l).length = (wInt l.length).length + (l.flatMap wOp).length := by rw [wOps, List.length_append]
  try (refine ev1 @hw ?_; try exact True.intro)
  (repeat (with_reducible refine ob ?_)); refine xk _ (fun h => ?_) (fun h => ?_)
  ·have hb : sEncode l = ([], 6) := by
    unfold sEncode
    rw [if_neg hne, if_pos]
    simp only [Bool.or_eq_true, decide_eq_true_eq] at h ⊢
    omega
   try (refine ev3 @hb @qk @hnp ?_; try exact True.intro)
  ·have hb : sEncode l = (wOps l, 0) := by
    unfold sEncode
    rw [if_neg hne, if_neg]
    simp only [Bool.or_eq_true, Bool.or_eq_false_iff, decide_eq_true_eq, decide_eq_false_iff_not] at h ⊢
    omega
   try (refine ev2 @hb @hnp ?_; try exact True.intro)
end Go.Proofs.Ytinnaedmdoengaa
namespace Go.Proofs.Ytinnaedmdoengaa
open Go.Abs
set_option linter.unusedSimpArgs false
set_option linter.unusedVariables false
noncomputable section
set_option maxRecDepth 100000
def s27rr0 : List SOper := [
 ⟨some 2, .mov (.k (.d (.int .i64 0))), none⟩]
def s27rr1 : List SOper := [
 ⟨some 11, .mov (.t 0), none⟩,
 ⟨some 12, .eqnil false .ptr (.t 11), none⟩]
def s27rr2 : List SOper := [
 ⟨some 2, .mov (.k (.d (.int .i64 7))), none⟩]
def s27rr3 : List SOper := [
 ⟨some 3, .alloc 1 [(.d .nilsl), (.d (.int .i64 0))], none⟩]
def s27rr4 : List SOper := [
 ⟨some 4, .alloc 1 [(.d .nilsl)], none⟩]
def s27rr5 : List SOper := [
 ⟨some 13, .mkFunc (.func 67) [] [(.t 4), (.t 3)], none⟩,
 ⟨some 5, .mov (.t 13), none⟩]
def s27rr6 : List SOper := [
 ⟨some 14, .mov (.t 0), none⟩,
 ⟨some 15, .call (.k (.d (.func (.func 17) [] []))) [(.t 14), (.k (.d (.str [])))], none⟩,
 ⟨some 16, .len (.t 15), none⟩,
 ⟨some 17, .mov (.k (.d (.int .i64 0))), none⟩]
def s27rr7 : List SOper := [
 ⟨some 18, .bin .lss (.t 17) (.t 16), none⟩]
def s27rr8 : List SOper := [
 ⟨some 19, .iaddr 2 (.t 15) (.t 17), none⟩,
 ⟨some 20, .load (some 2) (.t 19), none⟩,
 ⟨some 7, .alloc 1 [(.d (.str [])), (.d .nilsl)], none⟩,
 ⟨none, .store (some 2) (.t 7) (.t 20), none⟩]
def s27rr9 : List SOper := [
 ⟨some 21, .faddr 0 (.t 7), none⟩,
 ⟨some 22, .load none (.t 21), none⟩,
 ⟨some 23, .faddr 1 (.t 7), none⟩,
 ⟨some 24, .load none (.t 23), none⟩,
 ⟨some 25, .build [(.str []), (.bool false), .nilsl] [(0, 1, (.t 22)), (2, 1, (.t 24))], none⟩,
 ⟨some 8, .alloc 1 [(.d (.str [])), (.d (.bool false)), (.d .nilsl)], none⟩,
 ⟨none, .store (some 3) (.t 8) (.t 25), none⟩]
def s27rr10 : List SOper := [
 ⟨some 27, .load none (.t 4), none⟩,
 ⟨some 28, .load (some 3) (.t 8), none⟩,
 ⟨some 29, .buildSlice false 3 1 [(.str []), (.bool false), .nilsl] [(0, 3, (.t 28))], none⟩,
 ⟨some 30, .appendR 1 3 48 (.t 27) (.t 29), none⟩,
 ⟨some 31, .call (.k (.d (.func (.func 30) [] []))) [(.t 30)], none⟩,
 ⟨some 26, .mov (.t 31), none⟩,
 ⟨some 32, .extract 0 (.t 26), none⟩,
 ⟨some 33, .extract 1 (.t 26), none⟩,
 ⟨some 9, .mov (.t 32), none⟩,
 ⟨some 10, .mov (.t 33), none⟩]
def s27rr11 : List SOper := [
 ⟨some 34, .mov (.t 10), none⟩,
 ⟨some 35, .bin .neq (.t 34) (.k (.d (.int .i64 0))), none⟩]
def s27rr12 : List SOper := [
 ⟨some 36, .mov (.t 5), none⟩,
 ⟨some 37, .call (.t 36) [], none⟩]
def s27rr13 : List SOper := [
 ⟨some 38, .load none (.t 4), none⟩,
 ⟨some 39, .load (some 3) (.t 8), none⟩,
 ⟨some 40, .buildSlice false 3 1 [(.str []), (.bool false), .nilsl] [(0, 3, (.t 39))], none⟩,
 ⟨some 41, .appendR 1 3 48 (.t 38) (.t 40), none⟩,
 ⟨none, .store none (.t 4) (.t 41), none⟩]
def s27rr14 : List SOper := [
 ⟨some 42, .bin .add (.t 17) (.k (.d (.int .i64 1))), none⟩,
 ⟨some 17, .mov (.t 42), none⟩]
def s27rl15 : SCode := (.seq (.region s27rr7 0 []) (.seq (.cond (.t 18) .skip (.exit 0)) (.seq (.block 1 (.seq (.pause (.region s27rr8 1 [])) (.seq (.region s27rr9 1 []) (.seq (.seq (.region s27rr10 1 []) (.seq (.region s27rr11 0 []) (.cond (.t 35) (.region s27rr12 0 []) .skip))) (.region s27rr13 1 []))))) (.pause (.region s27rr14 0 [])))))
theorem qxm : CodeIs s27rl15.eq_1 := qc s27rl15.eq_1
def s27rr16 : List SOper := [
 ⟨some 43, .mov (.t 5), none⟩,
 ⟨some 44, .call (.t 43) [], none⟩]
def s27rr17 : List SOper := [
 ⟨some 45, .mov (.t 0), none⟩,
 ⟨some 46, .load (some 2) (.t 3), none⟩,
 ⟨some 47, .call (.k (.d (.func (.func 66) [] []))) [(.t 46)], none⟩,
 ⟨some 48, .nilCheck (.t 45), none⟩,
 ⟨some 49, .faddr 0 (.t 48), none⟩,
 ⟨none, .store (some 2) (.t 49) (.t 47), none⟩]
def s27rr18 : List SOper := [
 ⟨some 2, .mov (.k (.d (.int .i64 0))), none⟩]
def s27r : SCode := (.seq (.region s27rr0 0 []) (.seq (.seq (.region s27rr1 0 []) (.cond (.t 12) (.seq (.region s27rr2 0 []) .ret) .skip)) (.seq (.region s27rr3 1 []) (.seq (.region s27rr4 1 []) (.seq (.region s27rr5 0 []) (.seq (.seq (.region s27rr6 0 []) (.block 0 (.loop s27rl15))) (.seq (.pause (.region s27rr16 0 [])) (.seq (.region s27rr17 0 []) (.seq (.region s27rr18 0 []) .ret)))))))))
theorem xil : CodeIs s27r.eq_1 := qc s27r.eq_1
theorem q5k : RegIs s27rr0.eq_1 := qa
theorem q5l : RegIs s27rr1.eq_1 := qa
theorem q5m : RegIs s27rr2.eq_1 := qa
theorem q5n : RegIs s27rr3.eq_1 := qa
theorem q5o : RegIs s27rr4.eq_1 := qa
theorem q5p : RegIs s27rr5.eq_1 := qa
theorem q5q : RegIs s27rr6.eq_1 := qa
theorem q5r : RegIs s27rr7.eq_1 := qa
theorem q5s : RegIs s27rr8.eq_1 := qa
theorem q5t : RegIs s27rr9.eq_1 := qa
theorem qxn : RegIs s27rr10.eq_1 := qa
theorem qxo : RegIs s27rr11.eq_1 := qa
theorem qxp : RegIs s27rr12.eq_1 := qa
theorem qxq : RegIs s27rr13.eq_1 := qa
theorem qxr : RegIs s27rr14.eq_1 := qa
theorem qxs : RegIs s27rr16.eq_1 := qa
theorem qxt : RegIs s27rr17.eq_1 := qa
theorem qxu : RegIs s27rr18.eq_1 := qa
attribute [go_sem] q5k q5l q5m q5n q5o q5p q5q q5r q5s q5t qxn qxo qxp qxq qxr qxm qxs qxt qxu xil
theorem xfq : FnIs Try.prog 27 Try.f27 [30, 1000030, 41, 1000041] news s27r [.tmp 2] 50 := xe follows Try.func27
def s67r0 : List SOper := [
 ⟨some 5, .load none (.t 0), none⟩,
 ⟨some 6, .call (.k (.d (.func (.func 30) [] []))) [(.t 5)], none⟩,
 ⟨some 4, .mov (.t 6), none⟩,
 ⟨some 7, .extract 0 (.t 4), none⟩,
 ⟨some 8, .extract 1 (.t 4), none⟩,
 ⟨some 2, .mov (.t 7), none⟩,
 ⟨some 3, .mov (.t 8), none⟩]
def s67r1 : List SOper := [
 ⟨some 9, .mov (.t 3), none⟩,
 ⟨some 10, .bin .eql (.t 9) (.k (.d (.int .i64 0))), none⟩]
def s67r2 : List SOper := [
 ⟨some 12, .load (some 2) (.t 1), none⟩,
 ⟨some 13, .mov (.t 2), none⟩,
 ⟨some 14, .call (.k (.d (.func (.func 42) [] []))) [(.t 12), (.t 13)], none⟩,
 ⟨some 11, .mov (.t 14), none⟩,
 ⟨some 15, .extract 0 (.t 11), none⟩,
 ⟨some 16, .extract 1 (.t 11), none⟩,
 ⟨none, .store (some 2) (.t 1) (.t 15), none⟩]
def s67r3 : List SOper := [
 ⟨none, .store none (.t 0) (.k (.d .nilsl)), none⟩]
def s67 : SCode := (.seq (.seq (.region s67r0 0 []) (.seq (.region s67r1 0 []) (.cond (.t 10) (.region s67r2 0 []) .skip))) (.region s67r3 0 []))
theorem e67 : CodeIs s67.eq_1 := qc s67.eq_1
theorem xfr : RegIs s67r0.eq_1 := qa
theorem xfs : RegIs s67r1.eq_1 := qa
theorem xft : RegIs s67r2.eq_1 := qa
theorem xfu : RegIs s67r3.eq_1 := qa
attribute [go_sem] xfr xfs xft xfu e67
theorem F67 : FnIs Try.prog 67 Try.f67 [] news s67 [] 17 := xe follows Try.func67
end
def cFlush (file : List UInt8) (ops : List OpS) : List UInt8 := if (sEncode ops).2 = 0 then wAppend file (sEncode ops).1 else file
def cOp (e : En) : OpS := ⟨e.1, false, e.2⟩
def cStep (x : List UInt8 × List OpS) (e : En) : List UInt8 × List OpS := if (sEncode (x.2 ++ [cOp e])).2 ≠ 0 then (cFlush x.1 x.2, [cOp e]) else (x.1, x.2 ++ [cOp e])
def cAt (l : List En) (i : Nat) : List UInt8 × List OpS := (l.take i).foldl cStep ([], [])
def cFile (l : List En) : List UInt8 := cFlush (l.foldl cStep ([], [])).1 (l.foldl cStep ([], [])).2
def sCompact (s : Sto) : Sto := ⟨cFile (sList s.m []), (cFile (sList s.m [])).length, s.m⟩
theorem qg6 (l : List En) {i : Nat} (h : i < l.length) : cAt l (i + 1) = cStep (cAt l i) l[i] := by
 unfold cAt
 rw [List.take_succ_eq_append_getElem h, List.foldl_append]; rfl
theorem qg7 (file : List UInt8) (ops : List OpS) (ex : List D) (hex : D.noPtrL ex = true) (ho : ops.length ≤ 100000) (hf : file.length ≤ 100000000) :
  ACall Try.prog 67 [.d (.ptr 0 0), .d (.ptr 1 0)] [.row [.d (.ref 2 0 3 ops.length)], .row [.d (.sl 1 (byteRows file)), .d (.int .i64 0)], .row ((flatOp ops ++ ex).map .d)] (.tup [])
   [.row [.d .nilsl], .row [.d (.sl 1 (byteRows (cFlush file ops))), .d (.int .i64 0)], .row ((flatOp ops ++ ex).map .d)] := by
 have hnp : D.noPtrL (flatOp ops ++ ex) = true := by rw [zb, x6, hex]; rfl
 have hE := qdw ops ex hex ho
 refine F67.goT ?_
 try (refine ev ?_; try exact True.intro)
 refine clO [2] F30 hE ?_ (hik := by try (refine ev2 @hnp @D.inKL_noPtr ?_; try exact True.intro)) (hold := by try (refine ev1 @hnp ?_; try exact True.intro)) (htk := by try (refine ev1 @hnp ?_; try exact True.intro))
 try (refine ev1 @hnp ?_; try exact True.intro)
 refine xk _ (fun h => ?_) (fun h => ?_)
 ·have he : (sEncode ops).2 = 0 := by simpa using h
  have hc : cFlush file ops = wAppend file (sEncode ops).1 := by rw [cFlush, if_pos he]
  try (refine ev ?_; try exact True.intro)
  (repeat (with_reducible refine ob ?_)); first | refine cl F42 (qah file (sEncode ops).1 0 hf (x5 ops)) ?_ | refine clF F42 (qah file (sEncode ops).1 0 hf (x5 ops)) (fun _ => by (refine ev3 @encOp.eq_1 @encEn.eq_1 @encStep.eq_1 ?_; try exact True.intro)) ?_
  try (refine ev3 @encLog.eq_1 @hc @hnp ?_; try exact True.intro)
 ·have he : ¬ (sEncode ops).2 = 0 := by simpa using h
  have hc : cFlush file ops = file := by rw [cFlush, if_neg he]
  try (refine ev2 @hc @hnp ?_; try exact True.intro)
theorem xim {os : List AObj} {id : Nat} {ops : List OpS} {ex : List D} {o : OpS} {rd : Option Nat} {ok : Prop} (h : objCells os id = ((flatOp ops ++ ex).map .d)) : appCells os id 3 ops.length ⟨[encOp o], rd, ok⟩ = (flatOp (ops ++ [o])).map .d := by
 have hl := jt ops
 have h1 : flatOp (ops ++ [o]) = flatOp ops ++ encOp o := by simp [flatOp]
 unfold appCells
 rw [h, ← List.map_take, List.take_append_of_le_length (by omega), List.take_of_length_le (by omega), h1, List.map_append]
 simp
theorem qo4 {os : List AObj} {id : Nat} {ops : List OpS} {ex : List D} {e : En} {rd : Option Nat} {ok : Prop} (h : objCells os id = ((flatOp ops ++ ex).map .d)) : appCells os id 3 ops.length ⟨[[.str e.1, .bool false, .sl 1 (byteRows e.2)]], rd, ok⟩ = (flatOp (ops ++ [cOp e])).map .d := xim (o := cOp e) h
structure CIs (i : Nat) (x : List UInt8 × List OpS) : Prop where
 file : x.1.length ≤ i * 70000
 ops : x.2 = [] ∨ (sEncode x.2).2 = 0
theorem xfv {e : En} (h : kvOk (0, e.1, e.2)) : (sEncode [cOp e]).2 = 0 := by
 obtain ⟨h1, h2, h3⟩ := h
 simp only at h1 h2 h3
 have hp : sProper (cOp e) = true := xp.2 ⟨h1, h2, h3, fun h => by cases h⟩
 have hw := qld hp
 have hi := zp (xc (n := 1) (by omega))
 have hl : (wOps [cOp e]).length ≤ 2000 := by
  simp only [wOps, List.flatMap_cons, List.flatMap_nil, List.append_nil, List.length_append, List.length_singleton]
  omega
 unfold sEncode
 have q1 : ¬ (decide ([cOp e].length = 0) || [cOp e].any (fun o => !sProper o)) = true := by
  rw [List.any_cons, hp]
  exact Bool.false_ne_true
 rw [if_neg q1, if_neg (by simp only [List.length_singleton, Bool.or_eq_true, decide_eq_true_eq]; omega)]
theorem wo (file : List UInt8) (ops : List OpS) : (cFlush file ops).length ≤ file.length + 70000 := by
 unfold cFlush
 split
 ·exact qdh _ _ (x5 ops)
 ·omega
theorem quz {i : Nat} {x : List UInt8 × List OpS} {e : En} (h : CIs i x) (he : kvOk (0, e.1, e.2)) : CIs (i + 1) (cStep x e) := by
 have hf := h.file
 unfold cStep
 split
 ·have := wo x.1 x.2
  exact ⟨by show (cFlush x.1 x.2).length ≤ _; rw [Nat.add_mul]; omega, .inr (xfv he)⟩
 ·rename_i hn
  refine ⟨?_, .inr (by simpa only [ne_eq, Classical.not_not] using hn)⟩
  have h2 : i * 70000 ≤ (i + 1) * 70000 := Nat.mul_le_mul_right _ (Nat.le_succ i)
  exact Nat.le_trans hf h2
theorem CIs.few {i : Nat} {x : List UInt8 × List OpS} (h : CIs i x) : x.2.length ≤ 20 := by
 rcases h.ops with h | h
 ·rw [h]; simp
 ·exact (xf h).1
theorem qm1 (l : List En) (hl : ∀ e ∈ l, kvOk (0, e.1, e.2)) : ∀ i, i ≤ l.length → CIs i (cAt l i)
 | 0, _ => ⟨by simp [cAt], .inl (by simp [cAt])⟩
 | i + 1, h => by
  rw [qg6 l h]
  exact quz (qm1 l hl i (by omega)) (hl _ (List.getElem_mem h))
def Scom (s : Sto) (l : List En) (i : Nat) (x : List UInt8 × List OpS) : St :=
 ⟨[(0, true, .d (.ptr 0 0)), (3, true, .d (.ptr 2 0)), (4, true, .d (.ptr 3 0)), (5, true, .d (.func (.func 67) [] [.ptr 3 0, .ptr 2 0])), (15, true, .d (.sl 2 (l.map encEn))), (16, true, .d (.int .i64 l.length)), (17, true, .d (.int .i64 (i : Nat)))],
  [stoO s 1, mapO s.m, .row [.d (.sl 1 (byteRows x.1)), .d (.int .i64 0)], .row [.uni 0 3 (x.2.map encOp)]], [0], 1⟩
set_option maxRecDepth 10000 in
theorem qft (s : Sto) (hs : s.m.Good) :
  ACall Try.prog 27 [.d (.ptr 0 0)] [stoO s 1, mapO s.m] (.d (.int .i64 0)) [stoO (sCompact s) 1, mapO s.m] := by
 have hls := qrb s [] hs.ok (by have := hs.few; omega) (fun x hx => by have := (hs.small x hx).2.2; omega)
 have hll : (sList s.m []).length ≤ 400 := Nat.le_trans (qje s.m []) hs.few
 have hkv : ∀ e ∈ sList s.m [], kvOk (0, e.1, e.2) := by
  intro e he
  rw [sList, (xg _).mem_iff, preL, List.mem_map] at he
  obtain ⟨y, hy, rfl⟩ := he
  exact hs.small y (List.mem_filter.1 hy).1
 have hfin : cFile (sList s.m []) = cFlush (cAt (sList s.m []) (sList s.m []).length).1 (cAt (sList s.m []) (sList s.m []).length).2 := by rw [cFile, cAt, List.take_length]
 unfold sCompact
 simp only [stoO, mapO] at hls
 generalize sList s.m [] = l at hls hll hkv hfin
 refine xfq.go ?_
 try (refine ev2 @stoO.eq_1 @mapO.eq_1 ?_; try exact True.intro)
 (repeat (with_reducible refine ob ?_)); refine no_ ?_
 try (refine ev ?_; try exact True.intro)
 refine clO [0, 1] xa9 hls ?_
 try (refine ev ?_; try exact True.intro)
 refine ql (fun i : { i : Nat // i ≤ l.length } => Scom s l i.val (cAt l i.val)) (fun i => l.length - i.val) ⟨0, Nat.zero_le _⟩ ?_ (fun i => ?_)
 ·have h0 : cAt l 0 = ([], []) := rfl
  try (refine ev7 @Scom.eq_1 @stoO.eq_1 @mapO.eq_1 @h0 @List.map_nil.{0,0} @qk @Int.ofNat_zero ?_; try exact True.intro)
 obtain ⟨i, hi⟩ := i
 have hci := qm1 l hkv i hi
 have hcf := hci.few
 have hcl := hci.file
 try (refine ev3 @Scom.eq_1 @stoO.eq_1 @mapO.eq_1 ?_; try exact True.intro)
 refine xk _ (fun hc => ?_) (fun hc => ?_)
 ·have hil : i < l.length := by simpa using hc
  have hnx := qg6 l hil
  generalize cAt l i = x at hci hcf hcl hnx
  obtain ⟨file, ops⟩ := x
  simp only at hci hcf hcl
  try (refine ev ?_; try exact True.intro)
  refine qqk (.cell 3 0) 0 3 (ops.map encOp) ?_
  refine pu ?_
  have he2 : flatOp (ops ++ [cOp l[i]]) = flatOp ops ++ encOp (cOp l[i]) := by simp [flatOp]
  have hF := F67
  have hnp1 := x6 ops
  have hnp2 := x6 (ops ++ [cOp l[i]])
  have hE := qdw (ops ++ [cOp l[i]]) [] rfl (by simp only [List.length_append, List.length_singleton]; omega)
  have hfA := qg7 file ops (encOp (cOp l[i])) (yh _) (by omega) (by omega)
  have hfB := qg7 file ops [] rfl (by omega) (by omega)
  rw [List.append_nil] at hE hfB
  rw [← he2] at hfA
  simp only [List.length_append, List.length_singleton] at hE
  have hfd : (ops.map encOp).flatten = flatOp ops := rfl
  try (refine ev3 (qq encEn l hil) @encEn.eq_1 @hfd ?_; try exact True.intro)
  refine ⟨by omega, ?_⟩
  refine qc5 4 ops.length rfl ?_ ?_ ?_ ?_ ?_
  ·rw [qo4 (e := l[i]) (ex := []) (by rw [List.append_nil]; rfl)]
   try (refine ev2 @hnp2 @hnp1 ?_; try exact True.intro)
   refine clO [4] F30 hE ?_ (hik := by try (refine ev2 @hnp2 @D.inKL_noPtr ?_; try exact True.intro)) (hold := by try (refine ev1 @hnp2 ?_; try exact True.intro)) (htk := by try (refine ev1 @hnp2 ?_; try exact True.intro))
   try (refine ev2 @hnp2 @hnp1 ?_; try exact True.intro)
   refine xk _ (fun hx => ?_) (fun hx => ?_)
   ·skip
    have hxe : cStep (file, ops) l[i] = (cFlush file ops, [cOp l[i]]) := by rw [cStep, if_pos (by simpa using hx)]
    rw [hxe] at hnx
    try (refine ev ?_; try exact True.intro)
    refine clO [3, 2, 4] hF hfA ?_ (hik := by try (refine ev3 @hnp2 @hnp1 @D.inKL_noPtr ?_; try exact True.intro)) (hold := by try (refine ev2 @hnp2 @hnp1 ?_; try exact True.intro)) (htk := by try (refine ev2 @hnp2 @hnp1 ?_; try exact True.intro))
    try (refine ev2 @hnp2 @hnp1 ?_; try exact True.intro)
    refine qe4 rfl ?_ ⟨by show 1 * 48 ≤ 140737488355328; decide, by show 1 ≤ 9223372036854775807; decide⟩
    try (refine ev2 @hnp2 @hnp1 ?_; try exact True.intro)
    refine qe2 (.cell 3 0) 8 3 ([cOp l[i]].map encOp) ?_ (hc := rfl) (hes := ?_) (hcl := ?_) (hok := D.okWR_noPtr (zr _)) (hn := by simp [Pos.notIn])
    ·refine pu ?_
     try (refine ev2 @hnp2 @hnp1 ?_; try exact True.intro)
     refine ⟨⟨i + 1, hil⟩, ?_, by dsimp only; omega⟩
     try (refine ev7 @Scom.eq_1 @stoO.eq_1 @mapO.eq_1 @hnx @hnp1 @hnp2 (qj (show i < 9223372036854775807 by omega)) ?_; try exact True.intro)
    ·intro r hr
     obtain ⟨x, _, rfl⟩ := List.mem_map.1 hr
     rfl
    ·exact fun d hd => List.all_eq_true.1 (jc _) d hd
   ·skip
    have hxo : cStep (file, ops) l[i] = (file, ops ++ [cOp l[i]]) := by rw [cStep, if_neg (by simpa using hx)]
    rw [hxo] at hnx
    try (refine ev ?_; try exact True.intro)
    refine qc5 4 ops.length rfl ?_ ?_ ?_ ?_ ?_
    ·rw [qo4 (e := l[i]) (ex := encOp (cOp l[i])) (by rw [← he2]; rfl)]
     try (refine ev2 @hnp2 @hnp1 ?_; try exact True.intro)
     refine qe2 (.cell 3 0) 4 3 ((ops ++ [cOp l[i]]).map encOp) ?_ (hc := rfl) (hes := ?_) (hcl := ?_) (hok := D.okWR_noPtr (zr _)) (hp := by simp only [List.length_map, List.length_append, List.length_singleton]; rfl) (hn := by simp [Pos.notIn])
     ·refine pu ?_
      try (refine ev2 @hnp2 @hnp1 ?_; try exact True.intro)
      refine ⟨⟨i + 1, hil⟩, ?_, by dsimp only; omega⟩
      try (refine ev7 @Scom.eq_1 @stoO.eq_1 @mapO.eq_1 @hnx @hnp1 @hnp2 (qj (show i < 9223372036854775807 by omega)) ?_; try exact True.intro)
     ·intro r hr
      obtain ⟨x, _, rfl⟩ := List.mem_map.1 hr
      rfl
     ·exact fun d hd => List.all_eq_true.1 (jc _) d hd
    ·rw [qo4 (e := l[i]) (ex := encOp (cOp l[i])) (by rw [← he2]; rfl)]
     try (refine ev2 @hnp2 @hnp1 ?_; try exact True.intro)
     refine qe2 (.cell 3 0) 8 3 ((ops ++ [cOp l[i]]).map encOp) ?_ (hc := rfl) (hes := ?_) (hcl := ?_) (hok := D.okWR_noPtr (zr _)) (hp := by simp only [List.length_map, List.length_append, List.length_singleton]; rfl) (hn := by simp [Pos.notIn])
     ·refine pu ?_
      try (refine ev2 @hnp2 @hnp1 ?_; try exact True.intro)
      refine ⟨⟨i + 1, hil⟩, ?_, by dsimp only; omega⟩
      try (refine ev7 @Scom.eq_1 @stoO.eq_1 @mapO.eq_1 @hnx @hnp1 @hnp2 (qj (show i < 9223372036854775807 by omega)) ?_; try exact True.intro)
     ·intro r hr
      obtain ⟨x, _, rfl⟩ := List.mem_map.1 hr
      rfl
     ·exact fun d hd => List.all_eq_true.1 (jc _) d hd
    ·show ops.length * 3 ≤ ((flatOp (ops ++ [cOp l[i]])).map ASlot.d).length; rw [List.length_map, jt, List.length_append]; omega
    ·show (ops.length + 1) * 48 ≤ _; omega
    ·show ops.length + 1 ≤ _; omega
  ·rw [qo4 (e := l[i]) (ex := []) (by rw [List.append_nil]; rfl)]
   try (refine ev2 @hnp2 @hnp1 ?_; try exact True.intro)
   refine clO [7] F30 hE ?_ (hik := by try (refine ev2 @hnp2 @D.inKL_noPtr ?_; try exact True.intro)) (hold := by try (refine ev1 @hnp2 ?_; try exact True.intro)) (htk := by try (refine ev1 @hnp2 ?_; try exact True.intro))
   try (refine ev2 @hnp2 @hnp1 ?_; try exact True.intro)
   refine xk _ (fun hx => ?_) (fun hx => ?_)
   ·skip
    have hxe : cStep (file, ops) l[i] = (cFlush file ops, [cOp l[i]]) := by rw [cStep, if_pos (by simpa using hx)]
    rw [hxe] at hnx
    try (refine ev ?_; try exact True.intro)
    refine clO [3, 2, 4] hF hfB ?_ (hik := by try (refine ev3 @hnp2 @hnp1 @D.inKL_noPtr ?_; try exact True.intro)) (hold := by try (refine ev2 @hnp2 @hnp1 ?_; try exact True.intro)) (htk := by try (refine ev2 @hnp2 @hnp1 ?_; try exact True.intro))
    try (refine ev2 @hnp2 @hnp1 ?_; try exact True.intro)
    refine qe4 rfl ?_ ⟨by show 1 * 48 ≤ 140737488355328; decide, by show 1 ≤ 9223372036854775807; decide⟩
    try (refine ev2 @hnp2 @hnp1 ?_; try exact True.intro)
    refine qe2 (.cell 3 0) 8 3 ([cOp l[i]].map encOp) ?_ (hc := rfl) (hes := ?_) (hcl := ?_) (hok := D.okWR_noPtr (zr _)) (hn := by simp [Pos.notIn])
    ·refine pu ?_
     try (refine ev2 @hnp2 @hnp1 ?_; try exact True.intro)
     refine ⟨⟨i + 1, hil⟩, ?_, by dsimp only; omega⟩
     try (refine ev7 @Scom.eq_1 @stoO.eq_1 @mapO.eq_1 @hnx @hnp1 @hnp2 (qj (show i < 9223372036854775807 by omega)) ?_; try exact True.intro)
    ·intro r hr
     obtain ⟨x, _, rfl⟩ := List.mem_map.1 hr
     rfl
    ·exact fun d hd => List.all_eq_true.1 (jc _) d hd
   ·skip
    have hxo : cStep (file, ops) l[i] = (file, ops ++ [cOp l[i]]) := by rw [cStep, if_neg (by simpa using hx)]
    rw [hxo] at hnx
    try (refine ev ?_; try exact True.intro)
    refine qc5 4 ops.length rfl ?_ ?_ ?_ ?_ ?_
    ·rw [qo4 (e := l[i]) (ex := []) (by rw [List.append_nil]; rfl)]
     try (refine ev2 @hnp2 @hnp1 ?_; try exact True.intro)
     refine qe2 (.cell 3 0) 4 3 ((ops ++ [cOp l[i]]).map encOp) ?_ (hc := rfl) (hes := ?_) (hcl := ?_) (hok := D.okWR_noPtr (zr _)) (hp := by simp only [List.length_map, List.length_append, List.length_singleton]; rfl) (hn := by simp [Pos.notIn])
     ·refine pu ?_
      try (refine ev2 @hnp2 @hnp1 ?_; try exact True.intro)
      refine ⟨⟨i + 1, hil⟩, ?_, by dsimp only; omega⟩
      try (refine ev7 @Scom.eq_1 @stoO.eq_1 @mapO.eq_1 @hnx @hnp1 @hnp2 (qj (show i < 9223372036854775807 by omega)) ?_; try exact True.intro)
     ·intro r hr
      obtain ⟨x, _, rfl⟩ := List.mem_map.1 hr
      rfl
     ·exact fun d hd => List.all_eq_true.1 (jc _) d hd
    ·rw [qo4 (e := l[i]) (ex := []) (by rw [List.append_nil]; rfl)]
     try (refine ev2 @hnp2 @hnp1 ?_; try exact True.intro)
     refine qe2 (.cell 3 0) 8 3 ((ops ++ [cOp l[i]]).map encOp) ?_ (hc := rfl) (hes := ?_) (hcl := ?_) (hok := D.okWR_noPtr (zr _)) (hp := by simp only [List.length_map, List.length_append, List.length_singleton]; rfl) (hn := by simp [Pos.notIn])
     ·refine pu ?_
      try (refine ev2 @hnp2 @hnp1 ?_; try exact True.intro)
      refine ⟨⟨i + 1, hil⟩, ?_, by dsimp only; omega⟩
      try (refine ev7 @Scom.eq_1 @stoO.eq_1 @mapO.eq_1 @hnx @hnp1 @hnp2 (qj (show i < 9223372036854775807 by omega)) ?_; try exact True.intro)
     ·intro r hr
      obtain ⟨x, _, rfl⟩ := List.mem_map.1 hr
      rfl
     ·exact fun d hd => List.all_eq_true.1 (jc _) d hd
    ·show ops.length * 3 ≤ ((flatOp ops).map ASlot.d).length; rw [List.length_map, jt]; omega
    ·show (ops.length + 1) * 48 ≤ _; omega
    ·show ops.length + 1 ≤ _; omega
  ·show ops.length * 3 ≤ ((flatOp ops).map ASlot.d).length
   rw [List.length_map, jt]; omega
  ·show (ops.length + 1) * 48 ≤ _; omega
  ·show ops.length + 1 ≤ _; omega
 ·have hie : i = l.length := by
   have : l.length ≤ i := by simpa using hc
   omega
  subst hie
  generalize cAt l l.length = x at hci hcf hcl hfin
  obtain ⟨file, ops⟩ := x
  simp only at hci hcf hcl hfin
  have hnp1 := x6 ops
  have hfd : (ops.map encOp).flatten = flatOp ops := rfl
  have hfB := qg7 file ops [] rfl (by omega) (by omega)
  rw [List.append_nil] at hfB
  have hcf2 := wo file ops
  try (refine ev ?_; try exact True.intro)
  refine qqk (.cell 3 0) 0 3 (ops.map encOp) ?_
  refine pu ?_
  try (refine ev2 @hfd @hnp1 ?_; try exact True.intro)
  refine clO [3, 2, 4] F67 hfB ?_ (hik := by try (refine ev2 @hnp1 @D.inKL_noPtr ?_; try exact True.intro)) (hold := by try (refine ev1 @hnp1 ?_; try exact True.intro)) (htk := by try (refine ev1 @hnp1 ?_; try exact True.intro))
  try (refine ev1 @hnp1 ?_; try exact True.intro)
  (repeat (with_reducible refine ob ?_)); first | refine cl F66 (wg (cFlush file ops) 0 (by omega)) ?_ | refine clF F66 (wg (cFlush file ops) 0 (by omega)) (fun _ => by (refine ev3 @encOp.eq_1 @encEn.eq_1 @encStep.eq_1 ?_; try exact True.intro)) ?_
  try (refine ev3 @encLog.eq_1 @hfin @hnp1 ?_; try exact True.intro)
end Go.Proofs.Ytinnaedmdoengaa
namespace Go.Proofs.Ytinnaedmdoengaa
open Go.Abs
set_option linter.unusedSimpArgs false
set_option linter.unusedVariables false
theorem qjz (x : En) : ∀ (a : List En), (∀ y ∈ a, cmpB y.1 x.1 < 0) → eSet x a = a ++ [x]
 | [], _ => rfl
 | y :: a, h => by
  have hy := h y List.mem_cons_self
  rw [eSet, wj, if_pos (by simpa using hy), qjz x a (fun z hz => h z (List.mem_cons_of_mem _ hz))]
  rfl
theorem wa : ∀ (b a : List En), Sorted (a ++ b) → (a ++ b).length ≤ 400 → eApply a (b.map cOp) = (a ++ b, true)
 | [], a, _, _ => by rw [List.map_nil, eApply, List.append_nil]
 | e :: b, a, hs, hl => by
  have hlast : eSet e a = a ++ [e] := qjz e a fun y hy => (List.pairwise_append.1 hs).2.2 y hy e List.mem_cons_self
  have ho : eOp a (cOp e) = a ++ [e] := by rw [eOp, if_neg (by simp [cOp])]; exact hlast
  have happ : a ++ e :: b = (a ++ [e]) ++ b := by simp
  rw [List.map_cons, eApply, ho, if_neg (by simp only [List.length_append, List.length_cons, List.length_nil] at hl ⊢; omega), happ]
  rw [happ] at hs hl
  exact wa b (a ++ [e]) hs hl
structure CTx (x : List UInt8 × List OpS) (ts : List (List OpS)) (ops : List OpS) : Prop where
 file : x.1 = txFile ts
 enc : ∀ t ∈ ts, (sEncode t).2 = 0
 now : x.2 = [] ∨ (sEncode x.2).2 = 0
 all : ts.flatten ++ x.2 = ops
theorem q5u {t : List OpS} (h : (sEncode t).2 = 0) : t ≠ [] := by
 rintro rfl
 simp [sEncode] at h
theorem qm2 {x : List UInt8 × List OpS} {ts : List (List OpS)} {ops : List OpS} (h : CTx x ts ops) : ∃ ts', cFlush x.1 x.2 = txFile ts' ∧ (∀ t ∈ ts', (sEncode t).2 = 0) ∧ ts'.flatten = ops := by
 unfold cFlush
 by_cases he : (sEncode x.2).2 = 0
 ·rw [if_pos he, (xf he).2.2]
  refine ⟨ts ++ [x.2], by rw [yn, h.file], fun t ht => ?_, by rw [← h.all]; simp⟩
  rcases List.mem_append.1 ht with ht | ht
  ·exact h.enc t ht
  ·simp at ht; subst ht; exact he
 ·rw [if_neg he]
  have hn : x.2 = [] := h.now.resolve_right he
  refine ⟨ts, h.file, h.enc, ?_⟩
  have := h.all
  rw [hn, List.append_nil] at this
  exact this
theorem qvl (l : List En) (hl : ∀ e ∈ l, kvOk (0, e.1, e.2)) : ∀ i, i ≤ l.length → ∃ ts, CTx (cAt l i) ts ((l.take i).map cOp)
 | 0, _ => ⟨[], ⟨rfl, by simp, .inl rfl, rfl⟩⟩
 | i + 1, h => by
  obtain ⟨ts, hts⟩ := qvl l hl i (by omega)
  have hk := xfv (hl _ (List.getElem_mem (show i < l.length from h)))
  rw [qg6 l h]
  have hmap : (l.take (i + 1)).map cOp = (l.take i).map cOp ++ [cOp l[i]] := by rw [List.take_succ_eq_append_getElem h, List.map_append]; rfl
  unfold cStep
  split
  ·obtain ⟨ts', q1, q2, q3⟩ := qm2 hts
   exact ⟨ts', ⟨q1, q2, .inr hk, by rw [hmap, q3]⟩⟩
  ·rename_i hn
   exact ⟨ts, ⟨hts.file, hts.enc, .inr (by simpa only [ne_eq, Classical.not_not] using hn), by rw [hmap, ← hts.all, List.append_assoc]⟩⟩
theorem qlx {m : Cont} (hm : m.Good) : ∀ e ∈ entsOf m, kvOk (0, e.1, e.2) := by
 intro e he
 rw [entsOf, sList, (xg _).mem_iff, preL, List.mem_map] at he
 obtain ⟨y, hy, rfl⟩ := he
 exact hm.small y (List.mem_filter.1 hy).1
theorem qfu {s : Sto} (hs : s.m.Good) : ∃ ts, Bk (sCompact s) ts ∧ ts.flatten = (entsOf s.m).map cOp := by
 obtain ⟨ts0, h0⟩ := qvl (entsOf s.m) (qlx hs) (entsOf s.m).length (Nat.le_refl _)
 rw [List.take_length] at h0
 obtain ⟨ts, q1, q2, q3⟩ := qm2 h0
 have hf : cFile (entsOf s.m) = txFile ts := by
  rw [cFile, ← q1, cAt, List.take_length]
 have hap := wa (entsOf s.m) [] (xr hs.ok) (by rw [List.nil_append, jd]; exact hs.few)
 rw [List.nil_append, ← q3] at hap
 exact ⟨ts, ⟨hf, q2, qjv ts [] _ hap⟩, q3⟩
theorem qdx : ∀ (n : Nat) (r : List UInt8), r.length ≤ n → (partsOf r).length = (r.length - 1) / 22 + 1
 | n, r, hn => by
  by_cases h : r.length > 22
  ·rw [xn h]
   cases n with
   | zero => omega
   | succ n =>
    have := qdx n (r.drop 22) (by rw [List.length_drop]; omega)
    rw [List.length_drop] at this
    rw [List.length_cons, this]
    omega
  ·rw [xo h]
   simp only [List.length_singleton]
   omega
def txLen (ts : List (List OpS)) : Nat := (ts.map fun t => (partsOf (wOps t)).length).sum
theorem qfv (ts : List (List OpS)) : (txFile ts).length = 32 * txLen ts := by
 refine qao (P := fun ts => (txFile ts).length = 32 * txLen ts) rfl (fun l x ih => ?_) _ ts rfl
 rw [yn, wk, List.length_append, qan, ih]
 simp only [txLen, List.map_append, List.sum_append, List.map_cons, List.map_nil, List.sum_cons, List.sum_nil]
 omega
theorem qm3 {n : Nat} (h : n ≤ 20) : (wInt n).length = 1 := by
 have hz : zz (n : Int) < 128 := by unfold zz; rw [if_pos (by omega)]; omega
 rw [wInt, ja hz]; rfl
theorem qvm (o : OpS) : (partsOf (wOps [o])).length = (wOp o).length / 22 + 1 := by
 have h1 : (wInt ((([o] : List OpS)).length : Nat)).length = 1 := qm3 (by simp)
 have h2 : (wOps [o]).length = 1 + (wOp o).length := by rw [wOps, List.length_append, h1]; simp
 rw [qdx _ _ (Nat.le_refl _), h2]
 congr 2
 omega
theorem qvn : ∀ (t : List OpS), t ≠ [] → (t.flatMap wOp).length / 22 + 1 ≤ (t.map fun o => (partsOf (wOps [o])).length).sum
 | [], h => (h rfl).elim
 | [o], _ => by simp [qvm]
 | o :: o' :: t, _ => by
  have ih := qvn (o' :: t) (by simp)
  rw [List.flatMap_cons, List.length_append, List.map_cons, List.sum_cons, qvm]
  omega
theorem xfw {t : List OpS} (h : (sEncode t).2 = 0) : (partsOf (wOps t)).length ≤ (t.map fun o => (partsOf (wOps [o])).length).sum := by
 have h20 := (xf h).1
 have := qvn t (q5u h)
 have hl : (wOps t).length = 1 + (t.flatMap wOp).length := by rw [wOps, List.length_append, qm3 h20]
 rw [qdx _ _ (Nat.le_refl _), hl]
 have e : 1 + (t.flatMap wOp).length - 1 = (t.flatMap wOp).length := by omega
 rw [e]; exact this
theorem qm4 : ∀ (ts : List (List OpS)), (∀ t ∈ ts, (sEncode t).2 = 0) → txLen ts ≤ txLen (ts.flatten.map fun o => [o])
 | [], _ => Nat.le_refl _
 | t :: ts, h => by
  have ih := qm4 ts fun x hx => h x (List.mem_cons_of_mem _ hx)
  have h1 := xfw (h t List.mem_cons_self)
  simp only [txLen, List.map_cons, List.sum_cons, List.flatten_cons, List.map_append, List.sum_append, List.map_map] at ih ⊢
  have h2 : (List.map ((fun t => (partsOf (wOps t)).length) ∘ fun o => [o]) t).sum = (t.map fun o => (partsOf (wOps [o])).length).sum := rfl
  rw [h2]
  omega
end Go.Proofs.Ytinnaedmdoengaa
namespace Go.Proofs.Ytinnaedmdoengaa
open Go.Abs
set_option linter.unusedSimpArgs false
set_option linter.unusedVariables false
noncomputable section
set_option maxRecDepth 100000
def s38r0 : List SOper := [
 ⟨some 2, .box 1 (.t 0), none⟩,
 ⟨some 4, .mov (.k (.d .nilsl)), none⟩]
def s38r1 : List SOper := [
 ⟨some 6, .faddr 1 (.t 2), none⟩,
 ⟨some 7, .load none (.t 6), none⟩,
 ⟨some 8, .bin .lss (.t 7) (.k (.d (.int .i64 0))), none⟩,
 ⟨some 9, .mov (.t 8), none⟩,
 ⟨some 10, .faddr 1 (.t 2), some (9, false)⟩,
 ⟨some 11, .load none (.t 10), some (9, false)⟩,
 ⟨some 12, .faddr 0 (.t 2), some (9, false)⟩,
 ⟨some 13, .load none (.t 12), some (9, false)⟩,
 ⟨some 14, .len (.t 13), some (9, false)⟩,
 ⟨some 15, .bin .gtr (.t 11) (.t 14), some (9, false)⟩,
 ⟨some 16, .pick (.t 9) (.k (.d (.bool true))) (.t 15), none⟩]
def s38r2 : List SOper := [
 ⟨some 4, .mov (.k (.d .nilsl)), none⟩]
def s38r3 : List SOper := [
 ⟨some 17, .mov (.t 1), none⟩,
 ⟨some 18, .minmax true (.k (.d (.int .i64 0))) (.t 17), none⟩,
 ⟨some 19, .faddr 0 (.t 2), none⟩,
 ⟨some 20, .load none (.t 19), none⟩,
 ⟨some 21, .len (.t 20), none⟩,
 ⟨some 22, .faddr 1 (.t 2), none⟩,
 ⟨some 23, .load none (.t 22), none⟩,
 ⟨some 24, .bin .sub (.t 21) (.t 23), none⟩,
 ⟨some 25, .bin .add (.t 24) (.k (.d (.int .i64 1))), none⟩,
 ⟨some 26, .bin .rem (.t 18) (.t 25), none⟩,
 ⟨some 5, .mov (.t 26), none⟩]
def s38r4 : List SOper := [
 ⟨some 27, .faddr 0 (.t 2), none⟩,
 ⟨some 28, .load none (.t 27), none⟩,
 ⟨some 29, .faddr 1 (.t 2), none⟩,
 ⟨some 30, .load none (.t 29), none⟩,
 ⟨some 31, .mov (.t 5), none⟩,
 ⟨some 32, .bin .add (.t 30) (.t 31), none⟩,
 ⟨some 33, .slice 1 (.t 28) none (some (.t 32)) none, none⟩,
 ⟨some 34, .call (.k (.d (.func (.func 43) [] []))) [(.t 33)], none⟩,
 ⟨some 4, .mov (.t 34), none⟩]
def s38 : SCode := (.seq (.region s38r0 1 []) (.seq (.seq (.region s38r1 0 []) (.cond (.t 16) (.seq (.region s38r2 0 []) .ret) .skip)) (.seq (.region s38r3 0 []) (.seq (.region s38r4 0 []) .ret))))
theorem e38 : CodeIs s38.eq_1 := qc s38.eq_1
theorem xfx : RegIs s38r0.eq_1 := qa
theorem xfy : RegIs s38r1.eq_1 := qa
theorem xfz : RegIs s38r2.eq_1 := qa
theorem xf0 : RegIs s38r3.eq_1 := qa
theorem xf1 : RegIs s38r4.eq_1 := qa
attribute [go_sem] xfx xfy xfz xf0 xf1 e38
theorem F38 : FnIs Try.prog 38 Try.f38 [] news s38 [.tmp 4] 35 := xe follows Try.func38
def s39r0 : List SOper := [
 ⟨some 4, .mov (.k (.d (.bool false))), none⟩]
def s39r1 : List SOper := [
 ⟨some 6, .mov (.t 0), none⟩,
 ⟨some 7, .len (.t 6), none⟩,
 ⟨some 8, .mov (.t 1), none⟩,
 ⟨some 9, .len (.t 8), none⟩,
 ⟨some 10, .bin .neq (.t 7) (.t 9), none⟩]
def s39r2 : List SOper := [
 ⟨some 4, .mov (.k (.d (.bool false))), none⟩]
def s39r3 : List SOper := [
 ⟨some 5, .mov (.k (.d (.int .i64 0))), none⟩]
def s39r4 : List SOper := [
 ⟨some 11, .mov (.t 5), none⟩,
 ⟨some 12, .mov (.t 0), none⟩,
 ⟨some 13, .len (.t 12), none⟩,
 ⟨some 14, .bin .lss (.t 11) (.t 13), none⟩]
def s39r5 : List SOper := [
 ⟨some 17, .mov (.t 0), none⟩,
 ⟨some 18, .mov (.t 5), none⟩,
 ⟨some 19, .iaddr 2 (.t 17) (.t 18), none⟩,
 ⟨some 20, .faddr 0 (.t 19), none⟩,
 ⟨some 21, .load none (.t 20), none⟩,
 ⟨some 22, .mov (.t 1), none⟩,
 ⟨some 23, .mov (.t 5), none⟩,
 ⟨some 24, .iaddr 2 (.t 22) (.t 23), none⟩,
 ⟨some 25, .faddr 0 (.t 24), none⟩,
 ⟨some 26, .load none (.t 25), none⟩,
 ⟨some 27, .bin .neq (.t 21) (.t 26), none⟩,
 ⟨some 28, .mov (.t 27), none⟩,
 ⟨some 29, .mov (.t 0), some (28, false)⟩,
 ⟨some 30, .mov (.t 5), some (28, false)⟩,
 ⟨some 31, .iaddr 2 (.t 29) (.t 30), some (28, false)⟩,
 ⟨some 32, .faddr 1 (.t 31), some (28, false)⟩,
 ⟨some 33, .load none (.t 32), some (28, false)⟩,
 ⟨some 34, .b2s (.t 33), some (28, false)⟩,
 ⟨some 35, .mov (.t 1), some (28, false)⟩,
 ⟨some 36, .mov (.t 5), some (28, false)⟩,
 ⟨some 37, .iaddr 2 (.t 35) (.t 36), some (28, false)⟩,
 ⟨some 38, .faddr 1 (.t 37), some (28, false)⟩,
 ⟨some 39, .load none (.t 38), some (28, false)⟩,
 ⟨some 40, .b2s (.t 39), some (28, false)⟩,
 ⟨some 41, .bin .neq (.t 34) (.t 40), some (28, false)⟩,
 ⟨some 42, .pick (.t 28) (.k (.d (.bool true))) (.t 41), none⟩]
def s39r6 : List SOper := [
 ⟨some 4, .mov (.k (.d (.bool false))), none⟩]
def s39r7 : List SOper := [
 ⟨some 15, .mov (.t 5), none⟩,
 ⟨some 16, .bin .add (.t 15) (.k (.d (.int .i64 1))), none⟩,
 ⟨some 5, .mov (.t 16), none⟩]
def s39l8 : SCode := (.seq (.seq (.region s39r4 0 []) (.cond (.t 14) .skip (.exit 0))) (.seq (.block 1 (.seq (.region s39r5 0 []) (.cond (.t 42) (.seq (.region s39r6 0 []) .ret) .skip))) (.region s39r7 0 [])))
theorem xf2 : CodeIs s39l8.eq_1 := qc s39l8.eq_1
def s39r9 : List SOper := [
 ⟨some 4, .mov (.k (.d (.bool true))), none⟩]
def s39 : SCode := (.seq (.region s39r0 0 []) (.seq (.seq (.region s39r1 0 []) (.cond (.t 10) (.seq (.region s39r2 0 []) .ret) .skip)) (.seq (.seq (.region s39r3 0 []) (.block 0 (.loop s39l8))) (.seq (.region s39r9 0 []) .ret))))
theorem e39 : CodeIs s39.eq_1 := qc s39.eq_1
theorem xf3 : RegIs s39r0.eq_1 := qa
theorem xf4 : RegIs s39r1.eq_1 := qa
theorem xf5 : RegIs s39r2.eq_1 := qa
theorem xf6 : RegIs s39r3.eq_1 := qa
theorem xf7 : RegIs s39r4.eq_1 := qa
theorem xf8 : RegIs s39r5.eq_1 := qa
theorem xf9 : RegIs s39r6.eq_1 := qa
theorem xga : RegIs s39r7.eq_1 := qa
theorem xgb : RegIs s39r9.eq_1 := qa
attribute [go_sem] xf3 xf4 xf5 xf6 xf7 xf8 xf9 xga xf2 xgb e39
theorem F39 : FnIs Try.prog 39 Try.f39 [] news s39 [.tmp 4] 43 := xe follows Try.func39
def s8mr0 : List SOper := [
 ⟨some 2, .mov (.k (.d (.bool false))), none⟩]
def s8mr1 : List SOper := [
 ⟨some 12, .call (.k (.d (.func (.func 10) [] []))) [], none⟩,
 ⟨some 13, .not (.t 12), none⟩]
def s8mr2 : List SOper := [
 ⟨some 2, .mov (.k (.d (.bool false))), none⟩]
def s8mr3 : List SOper := [
 ⟨some 14, .mov (.t 0), none⟩,
 ⟨some 15, .call (.k (.d (.func (.func 11) [] []))) [(.t 14)], none⟩,
 ⟨some 16, .not (.t 15), none⟩]
def s8mr4 : List SOper := [
 ⟨some 2, .mov (.k (.d (.bool true))), none⟩]
def s8mr5 : List SOper := [
 ⟨some 17, .call (.k (.d (.func (.func 12) [] []))) [], none⟩,
 ⟨some 3, .mov (.t 17), none⟩]
def s8mr6 : List SOper := [
 ⟨some 4, .mov (.k (.d (.int .i64 0))), none⟩]
def s8mr7 : List SOper := [
 ⟨some 18, .mov (.t 4), none⟩,
 ⟨some 19, .mov (.t 0), none⟩,
 ⟨some 20, .len (.t 19), none⟩,
 ⟨some 21, .bin .lss (.t 18) (.t 20), none⟩]
def s8mr8 : List SOper := [
 ⟨some 24, .mov (.t 3), none⟩,
 ⟨some 25, .mov (.t 0), none⟩,
 ⟨some 26, .mov (.t 4), none⟩,
 ⟨some 27, .iaddr 2 (.t 25) (.t 26), none⟩,
 ⟨some 28, .faddr 1 (.t 27), none⟩,
 ⟨some 29, .load none (.t 28), none⟩,
 ⟨some 30, .call (.k (.d (.func (.func 14) [] []))) [(.t 29)], none⟩,
 ⟨some 31, .call (.k (.d (.func (.func 13) [] []))) [(.t 24), (.t 30)], none⟩]
def s8mr9 : List SOper := [
 ⟨some 22, .mov (.t 4), none⟩,
 ⟨some 23, .bin .add (.t 22) (.k (.d (.int .i64 1))), none⟩,
 ⟨some 4, .mov (.t 23), none⟩]
def s8ml10 : SCode := (.seq (.seq (.region s8mr7 0 []) (.cond (.t 21) .skip (.exit 0))) (.seq (.block 1 (.region s8mr8 1 [])) (.pause (.region s8mr9 0 []))))
theorem q5v : CodeIs s8ml10.eq_1 := qc s8ml10.eq_1
def s8mr11 : List SOper := [
 ⟨some 32, .mov (.t 3), none⟩,
 ⟨some 33, .call (.k (.d (.func (.func 36) [] []))) [(.t 32), (.k (.d (.str [])))], none⟩,
 ⟨some 5, .mov (.t 33), none⟩]
def s8mr12 : List SOper := [
 ⟨some 34, .mov (.t 3), none⟩,
 ⟨some 35, .call (.k (.d (.func (.func 27) [] []))) [(.t 34)], none⟩,
 ⟨some 6, .mov (.t 35), none⟩]
def s8mr13 : List SOper := [
 ⟨some 36, .mov (.t 3), none⟩,
 ⟨some 37, .call (.k (.d (.func (.func 28) [] []))) [(.t 36)], none⟩,
 ⟨some 7, .alloc 1 [(.d .nilsl), (.d (.int .i64 0))], none⟩,
 ⟨none, .store (some 2) (.t 7) (.t 37), none⟩]
def s8mr14 : List SOper := [
 ⟨some 39, .load (some 2) (.t 7), none⟩,
 ⟨some 40, .call (.k (.d (.func (.func 38) [] []))) [(.t 39), (.k (.d (.int .i64 0)))], none⟩,
 ⟨some 41, .call (.k (.d (.func (.func 37) [] []))) [(.t 40)], none⟩,
 ⟨some 38, .mov (.t 41), none⟩,
 ⟨some 42, .extract 0 (.t 38), none⟩,
 ⟨some 43, .extract 1 (.t 38), none⟩,
 ⟨some 8, .mov (.t 42), none⟩,
 ⟨some 9, .mov (.t 43), none⟩]
def s8mr15 : List SOper := [
 ⟨some 44, .mov (.t 6), none⟩,
 ⟨some 45, .bin .neq (.t 44) (.k (.d (.int .i64 0))), none⟩,
 ⟨some 46, .mov (.t 45), none⟩,
 ⟨some 47, .mov (.t 9), some (46, false)⟩,
 ⟨some 48, .bin .neq (.t 47) (.k (.d (.int .i64 0))), some (46, false)⟩,
 ⟨some 49, .pick (.t 46) (.k (.d (.bool true))) (.t 48), none⟩,
 ⟨some 50, .mov (.t 49), none⟩,
 ⟨some 51, .mov (.t 3), some (50, false)⟩,
 ⟨some 52, .call (.k (.d (.func (.func 36) [] []))) [(.t 51), (.k (.d (.str [])))], some (50, false)⟩,
 ⟨some 53, .mov (.t 5), some (50, false)⟩,
 ⟨some 54, .call (.k (.d (.func (.func 39) [] []))) [(.t 52), (.t 53)], some (50, false)⟩,
 ⟨some 55, .not (.t 54), some (50, false)⟩,
 ⟨some 56, .pick (.t 50) (.k (.d (.bool true))) (.t 55), none⟩,
 ⟨some 57, .mov (.t 56), none⟩,
 ⟨some 58, .mov (.t 8), some (57, false)⟩,
 ⟨some 59, .call (.k (.d (.func (.func 36) [] []))) [(.t 58), (.k (.d (.str [])))], some (57, false)⟩,
 ⟨some 60, .mov (.t 5), some (57, false)⟩,
 ⟨some 61, .call (.k (.d (.func (.func 39) [] []))) [(.t 59), (.t 60)], some (57, false)⟩,
 ⟨some 62, .not (.t 61), some (57, false)⟩,
 ⟨some 63, .pick (.t 57) (.k (.d (.bool true))) (.t 62), none⟩,
 ⟨some 64, .mov (.t 63), none⟩,
 ⟨some 65, .faddr 1 (.t 7), some (64, false)⟩,
 ⟨some 66, .load none (.t 65), some (64, false)⟩,
 ⟨some 67, .faddr 0 (.t 7), some (64, false)⟩,
 ⟨some 68, .load none (.t 67), some (64, false)⟩,
 ⟨some 69, .len (.t 68), some (64, false)⟩,
 ⟨some 70, .bin .neq (.t 66) (.t 69), some (64, false)⟩,
 ⟨some 71, .pick (.t 64) (.k (.d (.bool true))) (.t 70), none⟩]
def s8mr16 : List SOper := [
 ⟨some 2, .mov (.k (.d (.bool false))), none⟩]
def s8mr17 : List SOper := [
 ⟨some 72, .call (.k (.d (.func (.func 12) [] []))) [], none⟩,
 ⟨some 10, .mov (.t 72), none⟩]
def s8mr18 : List SOper := [
 ⟨some 11, .mov (.k (.d (.int .i64 0))), none⟩]
def s8mr19 : List SOper := [
 ⟨some 73, .mov (.t 11), none⟩,
 ⟨some 74, .mov (.t 5), none⟩,
 ⟨some 75, .len (.t 74), none⟩,
 ⟨some 76, .bin .lss (.t 73) (.t 75), none⟩]
def s8mr20 : List SOper := [
 ⟨some 79, .mov (.t 10), none⟩,
 ⟨some 80, .mov (.t 5), none⟩,
 ⟨some 81, .mov (.t 11), none⟩,
 ⟨some 82, .iaddr 2 (.t 80) (.t 81), none⟩,
 ⟨some 83, .faddr 0 (.t 82), none⟩,
 ⟨some 84, .load none (.t 83), none⟩,
 ⟨some 85, .mov (.t 5), none⟩,
 ⟨some 86, .mov (.t 11), none⟩,
 ⟨some 87, .iaddr 2 (.t 85) (.t 86), none⟩,
 ⟨some 88, .faddr 1 (.t 87), none⟩,
 ⟨some 89, .load none (.t 88), none⟩,
 ⟨some 90, .build [(.str []), (.bool false), .nilsl] [(0, 1, (.t 84)), (2, 1, (.t 89))], none⟩,
 ⟨some 91, .buildSlice false 3 1 [(.str []), (.bool false), .nilsl] [(0, 3, (.t 90))], none⟩,
 ⟨some 92, .call (.k (.d (.func (.func 13) [] []))) [(.t 79), (.t 91)], none⟩,
 ⟨some 93, .bin .neq (.t 92) (.k (.d (.int .i64 0))), none⟩]
def s8mr21 : List SOper := [
 ⟨some 2, .mov (.k (.d (.bool false))), none⟩]
def s8mr22 : List SOper := [
 ⟨some 77, .mov (.t 11), none⟩,
 ⟨some 78, .bin .add (.t 77) (.k (.d (.int .i64 1))), none⟩,
 ⟨some 11, .mov (.t 78), none⟩]
def s8ml23 : SCode := (.seq (.seq (.region s8mr19 0 []) (.cond (.t 76) .skip (.exit 2))) (.seq (.block 3 (.seq (.region s8mr20 1 []) (.cond (.t 93) (.seq (.region s8mr21 0 []) .ret) .skip))) (.pause (.region s8mr22 0 []))))
theorem q5w : CodeIs s8ml23.eq_1 := qc s8ml23.eq_1
def s8mr24 : List SOper := [
 ⟨some 94, .faddr 0 (.t 7), none⟩,
 ⟨some 95, .load none (.t 94), none⟩,
 ⟨some 96, .len (.t 95), none⟩,
 ⟨some 97, .mov (.t 10), none⟩,
 ⟨some 98, .call (.k (.d (.func (.func 28) [] []))) [(.t 97)], none⟩,
 ⟨some 99, .field none 0 (.t 98), none⟩,
 ⟨some 100, .len (.t 99), none⟩,
 ⟨some 101, .bin .leq (.t 96) (.t 100), none⟩,
 ⟨some 2, .mov (.t 101), none⟩]
def s8m : SCode := (.seq (.region s8mr0 0 []) (.seq (.seq (.region s8mr1 0 []) (.cond (.t 13) (.seq (.region s8mr2 0 []) .ret) .skip)) (.seq (.seq (.region s8mr3 0 []) (.cond (.t 16) (.seq (.region s8mr4 0 []) .ret) .skip)) (.seq (.region s8mr5 2 []) (.seq (.seq (.region s8mr6 0 []) (.block 0 (.loop s8ml10))) (.seq (.region s8mr11 0 []) (.seq (.region s8mr12 0 []) (.seq (.region s8mr13 1 []) (.seq (.region s8mr14 2 []) (.seq (.seq (.region s8mr15 0 []) (.cond (.t 71) (.seq (.region s8mr16 0 []) .ret) .skip)) (.seq (.pause (.region s8mr17 2 [])) (.seq (.seq (.region s8mr18 0 []) (.block 2 (.loop s8ml23))) (.seq (.region s8mr24 0 [(1, 4)]) .ret)))))))))))))
theorem e8m : CodeIs s8m.eq_1 := qc s8m.eq_1
theorem xgc : RegIs s8mr0.eq_1 := qa
theorem xgd : RegIs s8mr1.eq_1 := qa
theorem xge : RegIs s8mr2.eq_1 := qa
theorem xgf : RegIs s8mr3.eq_1 := qa
theorem xgg : RegIs s8mr4.eq_1 := qa
theorem xgh : RegIs s8mr5.eq_1 := qa
theorem xgi : RegIs s8mr6.eq_1 := qa
theorem xgj : RegIs s8mr7.eq_1 := qa
theorem xgk : RegIs s8mr8.eq_1 := qa
theorem xgl : RegIs s8mr9.eq_1 := qa
theorem q5x : RegIs s8mr11.eq_1 := qa
theorem q5y : RegIs s8mr12.eq_1 := qa
theorem q5z : RegIs s8mr13.eq_1 := qa
theorem q50 : RegIs s8mr14.eq_1 := qa
theorem q51 : RegIs s8mr15.eq_1 := qa
theorem q52 : RegIs s8mr16.eq_1 := qa
theorem q53 : RegIs s8mr17.eq_1 := qa
theorem q54 : RegIs s8mr18.eq_1 := qa
theorem q55 : RegIs s8mr19.eq_1 := qa
theorem q56 : RegIs s8mr20.eq_1 := qa
theorem q57 : RegIs s8mr21.eq_1 := qa
theorem q58 : RegIs s8mr22.eq_1 := qa
theorem q59 : RegIs s8mr24.eq_1 := qa
attribute [go_sem] xgc xgd xge xgf xgg xgh xgi xgj xgk xgl q5v q5x q5y q5z q50 q51 q52 q53 q54 q55 q56 q57 q58 q5w q59 e8m
theorem F8m : FnIs Try.prog 8 Try.f8 [] news s8m [.tmp 2] 102 := xe follows Try.func8
end
theorem qdy (file : List UInt8) (n k : Nat) (hn : n ≤ file.length) (hf : file.length ≤ 100000000) (hk : k ≤ 100000) :
  ACall Try.prog 38 [.d (.agg (encLog file n)), .d (.int .i64 k)] [] (.d (.sl 1 (byteRows (file.take (n + k % (file.length - n + 1)))))) [] := by
 have d1 : decide (((n : Nat) : Int) < 0) = false := by simp
 have d2 : decide (((n : Nat) : Int) > (file.length : Int)) = false := by simp; omega
 have w1 : IntKind.i64.wrap ((file.length : Int) - (n : Int)) = ((file.length - n : Nat) : Int) := by rw [qu (by unfold I64; omega)]; omega
 have w2 : IntKind.i64.wrap (((file.length - n : Nat) : Int) + 1) = ((file.length - n + 1 : Nat) : Int) := by rw [qu (by unfold I64; omega)]; omega
 have hlt := Nat.mod_lt k (show file.length - n + 1 > 0 by omega)
 have w3 : (k : Int).tmod ((file.length - n + 1 : Nat) : Int) = ((k % (file.length - n + 1) : Nat) : Int) := by rw [Int.tmod_eq_emod_of_nonneg (by omega)]; rfl
 have w4 : IntKind.i64.wrap ((n : Int) + ((k % (file.length - n + 1) : Nat) : Int)) = ((n + k % (file.length - n + 1) : Nat) : Int) := by rw [qu (by unfold I64; omega)]; omega
 refine F38.go ?_
 try (refine ev3 @encLog.eq_1 @d1 @d2 ?_; try exact True.intro)
 (repeat (with_reducible refine ob ?_)); refine no_ ?_
 have hmx : (if (k : Int) > 0 then (k : Int) else 0) = (k : Int) := by split <;> omega
 try (refine ev2 @w1 @hmx ?_; try exact True.intro)
 have hw : IntKind.i64.wrap ((n : Int) + (k : Int).tmod (IntKind.i64.wrap (((file.length - n : Nat) : Int) + 1))) = ((n + k % (file.length - n + 1) : Nat) : Int) := by rw [w2, w3, w4]
 have e1 : ((byteRows file).take ((((n + k % (file.length - n + 1) : Nat) : Int)).toNat - 0)) = byteRows (file.take (n + k % (file.length - n + 1))) := by rw [Int.toNat_natCast, Nat.sub_zero, qx]
 rw [hw, e1]
 refine ⟨by rw [w2]; omega, ⟨by omega, by omega⟩, ?_⟩
 (repeat (with_reducible refine ob ?_)); first | refine cl F43 (xi (file.take (n + k % (file.length - n + 1))) (by rw [List.length_take]; omega)) ?_ | refine clF F43 (xi (file.take (n + k % (file.length - n + 1))) (by rw [List.length_take]; omega)) (fun _ => by (refine ev3 @encOp.eq_1 @encEn.eq_1 @encStep.eq_1 ?_; try exact True.intro)) ?_
 try (refine ev ?_; try exact True.intro)
def SsameEn (a b : List En) (i : Nat) : St :=
 ⟨[(0, true, .d (.sl 2 (a.map encEn))), (1, true, .d (.sl 2 (b.map encEn))), (5, true, .d (.int .i64 (i : Nat)))], [], [], 1⟩
set_option maxRecDepth 10000 in
theorem qj0 (a b : List En) (ha : a.length ≤ 100000) (hb : b.length ≤ 100000) : ACall Try.prog 39 [.d (.sl 2 (a.map encEn)), .d (.sl 2 (b.map encEn))] [] (.d (.bool (a == b))) [] := by
 refine F39.go ?_
 try (refine ev ?_; try exact True.intro)
 refine xk _ (fun hc => ?_) (fun hc => ?_)
 ·have hf : (a == b) = false := by
   rw [beq_eq_false_iff_ne]
   rintro rfl
   simp at hc
  try (refine ev1 @hf ?_; try exact True.intro)
 have hab : a.length = b.length := by simp at hc; omega
 try (refine ev ?_; try exact True.intro)
 refine ql (fun i : { i : Nat // i ≤ a.length ∧ a.take i = b.take i } => SsameEn a b i.val) (fun i => a.length - i.val) ⟨0, Nat.zero_le _, rfl⟩ ?_ (fun i => ?_)
 ·try (refine ev2 @SsameEn.eq_1 @Int.ofNat_zero ?_; try exact True.intro)
 obtain ⟨i, hi, ht⟩ := i
 try (refine ev1 @SsameEn.eq_1 ?_; try exact True.intro)
 refine xk _ (fun hc => ?_) (fun hc => ?_)
 ·have hil : i < a.length := by simpa using hc
  have hib : i < b.length := by omega
  try (refine ev3 (qq encEn a hil) (qq encEn b hib) @encEn.eq_1 ?_; try exact True.intro)
  refine ⟨by omega, by omega, fun h => ⟨h, h, by omega⟩, fun h => ⟨h, h, by omega⟩, fun h => by simpa using h, ?_⟩
  refine xk _ (fun hd => ?_) (fun hd => ?_)
  ·have hf : (a == b) = false := by
    rw [beq_eq_false_iff_ne]
    rintro rfl
    simp at hd
   try (refine ev1 @hf ?_; try exact True.intro)
  ·have hab2 : a[i] = b[i] := by
    simp only [Bool.or_eq_false_iff, Bool.not_eq_false', beq_iff_eq] at hd
    exact Prod.ext hd.1 (by first | exact hd.2 | simpa using hd.2)
   try (refine ev ?_; try exact True.intro)
   refine ⟨⟨i + 1, hil, by rw [List.take_succ_eq_append_getElem hil, List.take_succ_eq_append_getElem hib, ht, hab2]⟩, ?_, by dsimp only; omega⟩
   try (refine ev2 @SsameEn.eq_1 (qj (show i < 9223372036854775807 by omega)) ?_; try exact True.intro)
 ·have hie : i = a.length := by
   have : a.length ≤ i := by simpa using hc
   omega
  have : a = b := by
   have h1 : a.take i = a := by rw [hie, List.take_length]
   have h2 : b.take i = b := by rw [hie, hab, List.take_length]
   rw [h1, h2] at ht
   exact ht
  have hf : (a == b) = true := by rw [this]; exact beq_self_eq_true b
  try (refine ev1 @hf ?_; try exact True.intro)
def ScoA (l : List StepS) (i : Nat) (s : Sto) : St :=
 ⟨[(0, true, .d (.sl 2 (l.map encStep))), (2, true, .d (.bool false)), (3, true, .d (.ptr 1 0)), (4, true, .d (.int .i64 (i : Nat)))], [mapO s.m, stoO s 0], [], 1⟩
def ScoB (be : List En) (fe : List UInt8) : St :=
 ⟨[(2, true, .d (.bool false)), (5, true, .d (.sl 2 (be.map encEn))), (7, true, .d (.ptr 2 0))], [.none, .none, .row [.d (.sl 1 (byteRows fe)), .d (.int .i64 fe.length)]], [], 1⟩
def ScoC (be : List En) (fe : List UInt8) (i : Nat) (s : Sto) : St :=
 ⟨[(2, true, .d (.bool false)), (5, true, .d (.sl 2 (be.map encEn))), (7, true, .d (.ptr 2 0)), (10, true, .d (.ptr 1 0)), (11, true, .d (.int .i64 (i : Nat)))], [mapO s.m, stoO s 0, .row [.d (.sl 1 (byteRows fe)), .d (.int .i64 fe.length)]], [], 1⟩
theorem xin {s : Sto} {l : List OpS} (h : s.synced = 0) : (sCommit s l).1.synced = 0 := by
 rcases jm s l with ⟨_, c2⟩ | ⟨_, _, _, c4⟩
 ·rw [c2]; exact h
 ·rw [c4]; exact h
set_option maxRecDepth 10000 in
theorem qr9 (l : List StepS) (hl : l.length ≤ maxLen) (hx : ∀ x ∈ l, x.ops.length ≤ maxLen) : ACall Try.prog 8 [.d (.sl 2 (l.map encStep))] [] (.d (.bool true)) [] := by
 refine F8m.go ?_
 try (refine ev ?_; try exact True.intro)
 (repeat (with_reducible refine ob ?_)); first | refine cl F10 (wl) ?_ | refine clF F10 (wl) (fun _ => by (refine ev3 @encOp.eq_1 @encEn.eq_1 @encStep.eq_1 ?_; try exact True.intro)) ?_
 try (refine ev ?_; try exact True.intro)
 (repeat (with_reducible refine ob ?_)); refine no_ ?_
 try (refine ev ?_; try exact True.intro)
 (repeat (with_reducible refine ob ?_)); first | refine cl F11 (qgx l hl hx) ?_ | refine clF F11 (qgx l hl hx) (fun _ => by (refine ev3 @encOp.eq_1 @encEn.eq_1 @encStep.eq_1 ?_; try exact True.intro)) ?_
 try (refine ev ?_; try exact True.intro)
 (repeat (with_reducible refine ob ?_)); refine xk _ (fun h => ?_) (fun h => ?_)
 ·try (refine ev ?_; try exact True.intro)
 obtain ⟨h15, hfew⟩ := qjf (by simpa using h)
 have k0 := qdn
 simp only [stoO, mapO] at k0
 try (refine ev ?_; try exact True.intro)
 refine clO [0, 1] F12 k0 ?_
 try (refine ev ?_; try exact True.intro)
 refine ql (fun x : { x : Nat × Sto // x.1 ≤ l.length ∧ x.2.Ok x.1 ∧ ∃ ts, Bk x.2 ts } => ScoA l x.val.1 x.val.2) (fun x => l.length - x.val.1) ⟨(0, newS), Nat.zero_le _, qa9 0, [], qlw⟩ ?_ (fun x => ?_)
 ·try (refine ev4 @ScoA.eq_1 @stoO.eq_1 @mapO.eq_1 @Int.ofNat_zero ?_; try exact True.intro)
 obtain ⟨⟨i, s⟩, hi, hs, ts, hb⟩ := x
 simp only at hi hs hb
 try (refine ev3 @ScoA.eq_1 @stoO.eq_1 @mapO.eq_1 ?_; try exact True.intro)
 refine xk _ (fun hc => ?_) (fun hc => ?_)
 ·have hil : i < l.length := by simpa using hc
  obtain ⟨q1, q2⟩ := qmw (hfew _ (List.getElem_mem hil))
  have hf := hs.file
  have hs2 := ka hs l[i].ops
  try (refine ev2 (qq encStep l hil) @encStep.eq_1 ?_; try exact True.intro)
  (repeat (with_reducible refine ob ?_))
  (repeat (with_reducible refine ob ?_)); first | refine cl F14 (qum l[i].ops (by omega) (fun o ho => by have := (q2 o ho).2; omega)) ?_ | refine clF F14 (qum l[i].ops (by omega) (fun o ho => by have := (q2 o ho).2; omega)) (fun _ => by (refine ev3 @encOp.eq_1 @encEn.eq_1 @encStep.eq_1 ?_; try exact True.intro)) ?_
  try (refine ev ?_; try exact True.intro)
  by_cases c1 : (sCommit s l[i].ops).2 = 0
  ·have k1 := kw (s := s) (l := l[i].ops) (by omega) (by omega) c1
   have hb2 := qdv hb hs.good c1
   simp only [stoO, mapO] at k1
   refine clO [1, 0, 2] F13 k1 ?_
   generalize (sCommit s l[i].ops).1 = s' at hs2 hb2 ⊢
   try (refine ev ?_; try exact True.intro)
   refine qql [2, 1, 0] [mapO s'.m, stoO s' 0, mapO s.m] ?_ (by try (refine ev2 @mapO.eq_1 @stoO.eq_1 ?_; try exact True.intro)) (hp := rfl)
   refine pu ?_
   try (refine ev2 @mapO.eq_1 @stoO.eq_1 ?_; try exact True.intro)
   refine ⟨⟨(i + 1, s'), hil, hs2, _, hb2⟩, ?_, by dsimp only; omega⟩
   try (refine ev4 @ScoA.eq_1 @stoO.eq_1 @mapO.eq_1 (qj (show i < 9223372036854775807 by omega)) ?_; try exact True.intro)
  ·have k1 := qi8 (s := s) (l := l[i].ops) (by omega) (by omega) c1
   simp only [stoO, mapO] at k1
   refine clO [1, 0, 2] F13 k1 ?_
   try (refine ev ?_; try exact True.intro)
   refine pu ?_
   try (refine ev ?_; try exact True.intro)
   refine ⟨⟨(i + 1, s), hil, hs.mono (Nat.le_succ _), ts, hb⟩, ?_, by dsimp only; omega⟩
   try (refine ev4 @ScoA.eq_1 @stoO.eq_1 @mapO.eq_1 (qj (show i < 9223372036854775807 by omega)) ?_; try exact True.intro)
 ·have hfl : s.file.length ≤ 1050000 := by have := hs.file; omega
  obtain ⟨cs, hcb, hcf⟩ := qfu hs.good
  have hkv := qlx hs.good
  have hel : (entsOf s.m).length ≤ 400 := by rw [jd]; exact hs.good.few
  have hsrt := xr hs.good.ok
  have hcon := zc s [] i hs
  have hcom := qft s hs.good
  have hse := qj0 (entsOf s.m) (entsOf s.m) (by omega) (by omega)
  rw [beq_self_eq_true] at hse
  change ACall _ _ _ _ (.d (.sl 2 ((entsOf s.m).map encEn))) _ at hcon
  have hcl : (cFile (entsOf s.m)).length ≤ 100000000 := by
   have h0 := (qm1 (entsOf s.m) hkv (entsOf s.m).length (Nat.le_refl _)).file
   have h1 : cFile (entsOf s.m) = cFlush (cAt (entsOf s.m) (entsOf s.m).length).1 (cAt (entsOf s.m) (entsOf s.m).length).2 := by rw [cFile, cAt, List.take_length]
   have h2 := wo (cAt (entsOf s.m) (entsOf s.m).length).1 (cAt (entsOf s.m) (entsOf s.m).length).2
   have h3 := Nat.mul_le_mul_right 70000 hel
   rw [h1]; omega
  have hle : (cFile (entsOf s.m)).length ≤ txLen ((entsOf s.m).map fun e => [cOp e]) * 32 := by
   have h1 : cFile (entsOf s.m) = txFile cs := hcb.file
   have h2 := qm4 cs hcb.enc
   rw [hcf, List.map_map] at h2
   have h3 : (entsOf s.m).map ((fun o => [o]) ∘ cOp) = (entsOf s.m).map fun e => [cOp e] := rfl
   rw [h3] at h2
   rw [h1, qfv]; omega
  obtain ⟨j, s', p1, p2, p3, p4, p5, p6, p7⟩ := qjx hcb (cFile (entsOf s.m)).length
  have hj : j = cs.length := by
   have := p7 cs.length (Nat.le_refl _) (by rw [List.take_length, ← hcb.file]; exact Nat.le_refl _)
   omega
  have hm' : entsOf s'.m = entsOf s.m := by
   rw [hj, List.take_length, hcb.run] at p3
   exact (Option.some.inj p3).symm
  have hsc : (sCompact s).file = cFile (entsOf s.m) := rfl
  rw [hsc, List.take_length] at p2
  have hcc := qdy (cFile (entsOf s.m)) (cFile (entsOf s.m)).length 0 (Nat.le_refl _) hcl (by omega)
  rw [Nat.sub_self, Nat.zero_mod, Nat.add_zero, List.take_length] at hcc
  have hop := qm0 (by omega) p2
  have hg' := (wn p2).1
  have hlog := qq7 (sCompact s) (by rw [hsc]; omega)
  have hcon2 := zc (sCompact s) [] 2000 ⟨hs.good, by rw [hsc]; omega⟩
  have hcon3 := zc s' [] 2000 ⟨hg', by have := (wn p2).2.1; rw [this, List.length_take]; omega⟩
  change ACall _ _ _ _ (.d (.sl 2 ((entsOf s.m).map encEn))) _ at hcon2
  change ACall _ _ _ _ (.d (.sl 2 ((entsOf s'.m).map encEn))) _ at hcon3
  rw [hm'] at hcon3
  have e1 : (sCompact s).m = s.m := rfl
  have e2 : (sCompact s).synced = ((cFile (entsOf s.m)).length : Nat) := rfl
  simp only [stoO, mapO, hsc, e1, e2] at hcon hcom hlog hcon2 hcon3 hop
  generalize hbe : entsOf s.m = be at *
  generalize hfe : cFile be = fe at *
  try (refine ev ?_; try exact True.intro)
  refine clO [1, 0] F36 hcon ?_
  try (refine ev ?_; try exact True.intro)
  refine clO [1, 0] xfq hcom ?_
  try (refine ev ?_; try exact True.intro)
  refine clO [1, 0] F28 hlog ?_
  try (refine ev1 @encLog.eq_1 ?_; try exact True.intro)
  (repeat (with_reducible refine ob ?_)); first | refine cl F38 (hcc) ?_ | refine clF F38 (hcc) (fun _ => by (refine ev3 @encOp.eq_1 @encEn.eq_1 @encStep.eq_1 ?_; try exact True.intro)) ?_
  try (refine ev ?_; try exact True.intro)
  refine clO [3, 4] F37 hop ?_
  try (refine ev ?_; try exact True.intro)
  refine clO [1, 0] F36 hcon2 ?_
  try (refine ev ?_; try exact True.intro)
  (repeat (with_reducible refine ob ?_)); first | refine cl F39 (hse) ?_ | refine clF F39 (hse) (fun _ => by (refine ev3 @encOp.eq_1 @encEn.eq_1 @encStep.eq_1 ?_; try exact True.intro)) ?_
  try (refine ev ?_; try exact True.intro)
  refine clO [4, 3] F36 hcon3 ?_
  try (refine ev ?_; try exact True.intro)
  (repeat (with_reducible refine ob ?_)); first | refine cl F39 (hse) ?_ | refine clF F39 (hse) (fun _ => by (refine ev3 @encOp.eq_1 @encEn.eq_1 @encStep.eq_1 ?_; try exact True.intro)) ?_
  try (refine ev ?_; try exact True.intro)
  (repeat (with_reducible refine ob ?_)); refine no_ ?_
  try (refine ev ?_; try exact True.intro)
  refine qwh (st1 := ScoB be fe) ?_ ?_
  ·try (refine ev1 @ScoB.eq_1 ?_; try exact True.intro)
  have k0 := qdn
  simp only [stoO, mapO] at k0
  try (refine ev1 @ScoB.eq_1 ?_; try exact True.intro)
  refine clO [0, 1] F12 k0 ?_
  try (refine ev ?_; try exact True.intro)
  refine ql (fun x : { x : Nat × Sto // x.1 ≤ be.length ∧ x.2.Ok x.1 ∧ Bk x.2 ((be.take x.1).map fun e => [cOp e]) ∧ entsOf x.2.m = be.take x.1 } => ScoC be fe x.val.1 x.val.2) (fun x => be.length - x.val.1) ⟨(0, newS), Nat.zero_le _, qa9 0, qlw, ki⟩ ?_ (fun x => ?_)
  ·try (refine ev4 @ScoC.eq_1 @stoO.eq_1 @mapO.eq_1 @Int.ofNat_zero ?_; try exact True.intro)
  obtain ⟨⟨i2, s2⟩, hi2, hs2, hb2, he2⟩ := x
  simp only at hi2 hs2 hb2 he2
  have hf2 := hs2.file
  try (refine ev3 @ScoC.eq_1 @stoO.eq_1 @mapO.eq_1 ?_; try exact True.intro)
  refine xk _ (fun hd => ?_) (fun hd => ?_)
  ·have hil : i2 < be.length := by simpa using hd
   have hkv2 := hkv _ (List.getElem_mem hil)
   have hone := xfv hkv2
   have hap := wa [be[i2]] (be.take i2) (by rw [← List.take_succ_eq_append_getElem hil]; exact List.Pairwise.sublist (List.take_sublist ..) hsrt) (by rw [← List.take_succ_eq_append_getElem hil, List.length_take]; omega)
   rw [← he2, List.map_cons, List.map_nil] at hap
   obtain ⟨g1, g2⟩ := kx [cOp be[i2]] hs2.good.ok hs2.good.few
   rw [hap] at g1 g2
   have c1 : (sCommit s2 [cOp be[i2]]).2 = 0 := by
    unfold sCommit
    rw [if_neg (by rw [hone]; simp), if_neg (by rw [g1]; simp)]
   have k1 := kw (s := s2) (l := [cOp be[i2]]) (by simp) (by omega) c1
   have hb3 := qdv hb2 hs2.good c1
   have hs3 := ka hs2 [cOp be[i2]]
   have he3 : entsOf (sCommit s2 [cOp be[i2]]).1.m = be.take (i2 + 1) := by
    have h1 : (sCommit s2 [cOp be[i2]]).1.m = (mApply s2.m [cOp be[i2]]).1 := by
     unfold sCommit
     rw [if_neg (by rw [hone]; simp), if_neg (by rw [g1]; simp)]
    rw [h1, (g2 g1).1, he2, ← List.take_succ_eq_append_getElem hil]
   have hmp : (be.take i2).map (fun e => [cOp e]) ++ [[cOp be[i2]]] = (be.take (i2 + 1)).map fun e => [cOp e] := by
    rw [List.take_succ_eq_append_getElem hil, List.map_append]; rfl
   rw [hmp] at hb3
   have ho1 : [cOp be[i2]].map encOp = [[.str be[i2].1, .bool false, .sl 1 (byteRows be[i2].2)]] := rfl
   rw [ho1] at k1
   simp only [stoO, mapO] at k1
   try (refine ev2 (qq encEn be hil) @encEn.eq_1 ?_; try exact True.intro)
   refine ⟨by omega, by omega, ?_⟩
   refine clO [1, 0, 3] F13 k1 ?_
   generalize (sCommit s2 [cOp be[i2]]).1 = s3 at hs3 hb3 he3 ⊢
   try (refine ev ?_; try exact True.intro)
   (repeat (with_reducible refine ob ?_)); refine no_ ?_
   try (refine ev ?_; try exact True.intro)
   refine qql [3, 1, 2, 0] [mapO s3.m, stoO s3 0, .row [.d (.sl 1 (byteRows fe)), .d (.int .i64 fe.length)], mapO s2.m] ?_ (by try (refine ev2 @mapO.eq_1 @stoO.eq_1 ?_; try exact True.intro)) (hp := rfl)
   refine pu ?_
   try (refine ev2 @mapO.eq_1 @stoO.eq_1 ?_; try exact True.intro)
   refine ⟨⟨(i2 + 1, s3), hil, hs3, hb3, he3⟩, ?_, by dsimp only; omega⟩
   try (refine ev4 @ScoC.eq_1 @stoO.eq_1 @mapO.eq_1 (qj (show i2 < 9223372036854775807 by omega)) ?_; try exact True.intro)
  ·have hie : i2 = be.length := by
    have : be.length ≤ i2 := by simpa using hd
    omega
   subst hie
   rw [List.take_length] at hb2
   have hf3 : s2.file.length = 32 * txLen (be.map fun e => [cOp e]) := by rw [hb2.file, qfv]
   have hlog2 := qq7 s2 (by omega)
   simp only [stoO, mapO] at hlog2
   have hdl : decide ((fe.length : Int) ≤ (s2.file.length : Int)) = true := by simp; omega
   try (refine ev ?_; try exact True.intro)
   refine clO [1, 0] F28 hlog2 ?_
   try (refine ev2 @encLog.eq_1 @hdl ?_; try exact True.intro)
end Go.Proofs.Ytinnaedmdoengaa
namespace Go.Proofs.Ytinnaedmdoengaa
open Go.Abs
set_option linter.unusedSimpArgs false
set_option linter.unusedVariables false
noncomputable section
set_option maxRecDepth 100000
def s9mr0 : List SOper := [
 ⟨some 4, .mov (.k (.d (.bool false))), none⟩]
def s9mr1 : List SOper := [
 ⟨some 12, .call (.k (.d (.func (.func 10) [] []))) [], none⟩,
 ⟨some 13, .not (.t 12), none⟩]
def s9mr2 : List SOper := [
 ⟨some 4, .mov (.k (.d (.bool false))), none⟩]
def s9mr3 : List SOper := [
 ⟨some 14, .mov (.t 0), none⟩,
 ⟨some 15, .call (.k (.d (.func (.func 11) [] []))) [(.t 14)], none⟩,
 ⟨some 16, .not (.t 15), none⟩]
def s9mr4 : List SOper := [
 ⟨some 4, .mov (.k (.d (.bool true))), none⟩]
def s9mr5 : List SOper := [
 ⟨some 17, .call (.k (.d (.func (.func 12) [] []))) [], none⟩,
 ⟨some 5, .mov (.t 17), none⟩]
def s9mr6 : List SOper := [
 ⟨some 18, .mov (.t 5), none⟩,
 ⟨some 19, .call (.k (.d (.func (.func 36) [] []))) [(.t 18), (.k (.d (.str [])))], none⟩,
 ⟨some 20, .buildSlice false 1 1 [.nilsl] [(0, 1, (.t 19))], none⟩,
 ⟨some 6, .mov (.t 20), none⟩]
def s9mr7 : List SOper := [
 ⟨some 7, .mov (.k (.d (.int .i64 0))), none⟩]
def s9mr8 : List SOper := [
 ⟨some 21, .mov (.t 7), none⟩,
 ⟨some 22, .mov (.t 0), none⟩,
 ⟨some 23, .len (.t 22), none⟩,
 ⟨some 24, .bin .lss (.t 21) (.t 23), none⟩]
def s9mr9 : List SOper := [
 ⟨some 27, .mov (.t 0), none⟩,
 ⟨some 28, .mov (.t 7), none⟩,
 ⟨some 29, .iaddr 2 (.t 27) (.t 28), none⟩,
 ⟨some 30, .faddr 0 (.t 29), none⟩,
 ⟨some 31, .load none (.t 30), none⟩]
def s9mr10 : List SOper := [
 ⟨some 33, .bin .eql (.t 31) (.k (.d (.int .i64 0))), none⟩,
 ⟨some 32, .mov (.t 33), none⟩]
def s9mr11 : List SOper := [
 ⟨some 34, .mov (.t 5), none⟩,
 ⟨some 35, .mov (.t 0), none⟩,
 ⟨some 36, .mov (.t 7), none⟩,
 ⟨some 37, .iaddr 2 (.t 35) (.t 36), none⟩,
 ⟨some 38, .faddr 1 (.t 37), none⟩,
 ⟨some 39, .load none (.t 38), none⟩,
 ⟨some 40, .call (.k (.d (.func (.func 14) [] []))) [(.t 39)], none⟩,
 ⟨some 41, .call (.k (.d (.func (.func 13) [] []))) [(.t 34), (.t 40)], none⟩,
 ⟨some 42, .bin .eql (.t 41) (.k (.d (.int .i64 0))), none⟩]
def s9mr12 : List SOper := [
 ⟨some 43, .mov (.t 6), none⟩,
 ⟨some 44, .mov (.t 5), none⟩,
 ⟨some 45, .call (.k (.d (.func (.func 36) [] []))) [(.t 44), (.k (.d (.str [])))], none⟩,
 ⟨some 46, .buildSlice false 1 1 [.nilsl] [(0, 1, (.t 45))], none⟩,
 ⟨some 47, .append false 1 24 (.t 43) (.t 46), none⟩,
 ⟨some 6, .mov (.t 47), none⟩]
def s9mr13 : List SOper := [
 ⟨some 49, .bin .eql (.t 31) (.k (.d (.int .i64 1))), none⟩,
 ⟨some 48, .mov (.t 49), none⟩]
def s9mr14 : List SOper := [
 ⟨some 50, .mov (.t 5), none⟩,
 ⟨some 51, .call (.k (.d (.func (.func 26) [] []))) [(.t 50)], none⟩,
 ⟨some 52, .bin .neq (.t 51) (.k (.d (.int .i64 0))), none⟩]
def s9mr15 : List SOper := [
 ⟨some 4, .mov (.k (.d (.bool false))), none⟩]
def s9mr16 : List SOper := [
 ⟨some 53, .mov (.t 5), none⟩,
 ⟨some 54, .call (.k (.d (.func (.func 36) [] []))) [(.t 53), (.k (.d (.str [])))], none⟩,
 ⟨some 55, .buildSlice false 1 1 [.nilsl] [(0, 1, (.t 54))], none⟩,
 ⟨some 6, .mov (.t 55), none⟩]
def s9mr17 : List SOper := [
 ⟨some 57, .bin .eql (.t 31) (.k (.d (.int .i64 2))), none⟩,
 ⟨some 56, .mov (.t 57), none⟩]
def s9mr18 : List SOper := [
 ⟨some 58, .mov (.t 5), none⟩,
 ⟨some 59, .call (.k (.d (.func (.func 27) [] []))) [(.t 58)], none⟩,
 ⟨some 60, .bin .neq (.t 59) (.k (.d (.int .i64 0))), none⟩]
def s9mr19 : List SOper := [
 ⟨some 4, .mov (.k (.d (.bool false))), none⟩]
def s9mr20 : List SOper := [
 ⟨some 61, .mov (.t 5), none⟩,
 ⟨some 62, .call (.k (.d (.func (.func 36) [] []))) [(.t 61), (.k (.d (.str [])))], none⟩,
 ⟨some 63, .buildSlice false 1 1 [.nilsl] [(0, 1, (.t 62))], none⟩,
 ⟨some 6, .mov (.t 63), none⟩]
def s9mr21 : List SOper := [
 ⟨some 25, .mov (.t 7), none⟩,
 ⟨some 26, .bin .add (.t 25) (.k (.d (.int .i64 1))), none⟩,
 ⟨some 7, .mov (.t 26), none⟩]
def s9ml22 : SCode := (.seq (.seq (.region s9mr8 0 []) (.cond (.t 24) .skip (.exit 0))) (.seq (.block 1 (.seq (.region s9mr9 0 []) (.block 2 (.seq (.region s9mr10 0 []) (.cond (.t 32) (.seq (.region s9mr11 1 []) (.cond (.t 42) (.region s9mr12 0 []) .skip)) (.seq (.region s9mr13 0 []) (.cond (.t 48) (.seq (.seq (.region s9mr14 0 []) (.cond (.t 52) (.seq (.region s9mr15 0 []) .ret) .skip)) (.region s9mr16 0 [])) (.seq (.region s9mr17 0 []) (.cond (.t 56) (.seq (.seq (.region s9mr18 0 []) (.cond (.t 60) (.seq (.region s9mr19 0 []) .ret) .skip)) (.region s9mr20 0 [])) .skip))))))))) (.pause (.region s9mr21 0 []))))
theorem q6a : CodeIs s9ml22.eq_1 := qc s9ml22.eq_1
def s9mr23 : List SOper := [
 ⟨some 65, .mov (.t 5), none⟩,
 ⟨some 66, .call (.k (.d (.func (.func 28) [] []))) [(.t 65)], none⟩,
 ⟨some 67, .mov (.t 1), none⟩,
 ⟨some 68, .conv .i64 (.t 67), none⟩,
 ⟨some 69, .call (.k (.d (.func (.func 38) [] []))) [(.t 66), (.t 68)], none⟩,
 ⟨some 70, .call (.k (.d (.func (.func 37) [] []))) [(.t 69)], none⟩,
 ⟨some 64, .mov (.t 70), none⟩,
 ⟨some 71, .extract 0 (.t 64), none⟩,
 ⟨some 72, .extract 1 (.t 64), none⟩,
 ⟨some 8, .mov (.t 71), none⟩,
 ⟨some 9, .mov (.t 72), none⟩]
def s9mr24 : List SOper := [
 ⟨some 73, .mov (.t 9), none⟩,
 ⟨some 74, .bin .neq (.t 73) (.k (.d (.int .i64 0))), none⟩]
def s9mr25 : List SOper := [
 ⟨some 4, .mov (.k (.d (.bool false))), none⟩]
def s9mr26 : List SOper := [
 ⟨some 75, .mov (.t 8), none⟩,
 ⟨some 76, .call (.k (.d (.func (.func 36) [] []))) [(.t 75), (.k (.d (.str [])))], none⟩,
 ⟨some 10, .mov (.t 76), none⟩]
def s9mr27 : List SOper := [
 ⟨some 11, .mov (.k (.d (.int .i64 0))), none⟩]
def s9mr28 : List SOper := [
 ⟨some 77, .mov (.t 11), none⟩,
 ⟨some 78, .mov (.t 6), none⟩,
 ⟨some 79, .len (.t 78), none⟩,
 ⟨some 80, .bin .lss (.t 77) (.t 79), none⟩]
def s9mr29 : List SOper := [
 ⟨some 83, .mov (.t 10), none⟩,
 ⟨some 84, .mov (.t 6), none⟩,
 ⟨some 85, .mov (.t 11), none⟩,
 ⟨some 86, .iaddr 1 (.t 84) (.t 85), none⟩,
 ⟨some 87, .load none (.t 86), none⟩,
 ⟨some 88, .call (.k (.d (.func (.func 39) [] []))) [(.t 83), (.t 87)], none⟩]
def s9mr30 : List SOper := [
 ⟨some 4, .mov (.k (.d (.bool true))), none⟩]
def s9mr31 : List SOper := [
 ⟨some 81, .mov (.t 11), none⟩,
 ⟨some 82, .bin .add (.t 81) (.k (.d (.int .i64 1))), none⟩,
 ⟨some 11, .mov (.t 82), none⟩]
def s9ml32 : SCode := (.seq (.seq (.region s9mr28 0 []) (.cond (.t 80) .skip (.exit 3))) (.seq (.block 4 (.seq (.region s9mr29 0 []) (.cond (.t 88) (.seq (.region s9mr30 0 []) .ret) .skip))) (.region s9mr31 0 [])))
theorem q6b : CodeIs s9ml32.eq_1 := qc s9ml32.eq_1
def s9mr33 : List SOper := [
 ⟨some 4, .mov (.k (.d (.bool false))), none⟩]
def s9m : SCode := (.seq (.region s9mr0 0 []) (.seq (.seq (.region s9mr1 0 []) (.cond (.t 13) (.seq (.region s9mr2 0 []) .ret) .skip)) (.seq (.seq (.region s9mr3 0 []) (.cond (.t 16) (.seq (.region s9mr4 0 []) .ret) .skip)) (.seq (.region s9mr5 2 []) (.seq (.region s9mr6 0 []) (.seq (.seq (.region s9mr7 0 []) (.block 0 (.loop s9ml22))) (.seq (.region s9mr23 2 []) (.seq (.seq (.region s9mr24 0 []) (.cond (.t 74) (.seq (.region s9mr25 0 []) .ret) .skip)) (.seq (.region s9mr26 0 []) (.seq (.seq (.region s9mr27 0 []) (.block 3 (.loop s9ml32))) (.seq (.region s9mr33 0 []) .ret)))))))))))
theorem e9m : CodeIs s9m.eq_1 := qc s9m.eq_1
theorem xgm : RegIs s9mr0.eq_1 := qa
theorem xgn : RegIs s9mr1.eq_1 := qa
theorem xgo : RegIs s9mr2.eq_1 := qa
theorem xgp : RegIs s9mr3.eq_1 := qa
theorem xgq : RegIs s9mr4.eq_1 := qa
theorem xgr : RegIs s9mr5.eq_1 := qa
theorem xgs : RegIs s9mr6.eq_1 := qa
theorem xgt : RegIs s9mr7.eq_1 := qa
theorem xgu : RegIs s9mr8.eq_1 := qa
theorem xgv : RegIs s9mr9.eq_1 := qa
theorem q6c : RegIs s9mr10.eq_1 := qa
theorem q6d : RegIs s9mr11.eq_1 := qa
theorem q6e : RegIs s9mr12.eq_1 := qa
theorem q6f : RegIs s9mr13.eq_1 := qa
theorem q6g : RegIs s9mr14.eq_1 := qa
theorem q6h : RegIs s9mr15.eq_1 := qa
theorem q6i : RegIs s9mr16.eq_1 := qa
theorem q6j : RegIs s9mr17.eq_1 := qa
theorem q6k : RegIs s9mr18.eq_1 := qa
theorem q6l : RegIs s9mr19.eq_1 := qa
theorem q6m : RegIs s9mr20.eq_1 := qa
theorem q6n : RegIs s9mr21.eq_1 := qa
theorem q6o : RegIs s9mr23.eq_1 := qa
theorem q6p : RegIs s9mr24.eq_1 := qa
theorem q6q : RegIs s9mr25.eq_1 := qa
theorem q6r : RegIs s9mr26.eq_1 := qa
theorem q6s : RegIs s9mr27.eq_1 := qa
theorem q6t : RegIs s9mr28.eq_1 := qa
theorem q6u : RegIs s9mr29.eq_1 := qa
theorem q6v : RegIs s9mr30.eq_1 := qa
theorem q6w : RegIs s9mr31.eq_1 := qa
theorem q6x : RegIs s9mr33.eq_1 := qa
attribute [go_sem] xgm xgn xgo xgp xgq xgr xgs xgt xgu xgv q6c q6d q6e q6f q6g q6h q6i q6j q6k q6l q6m q6n q6a q6o q6p q6q q6r q6s q6t q6u q6v q6w q6b q6x e9m
theorem F9m : FnIs Try.prog 9 Try.f9 [] news s9m [.tmp 4] 89 := xe follows Try.func9
end
def hisRows (H : List (List En)) : List (List D) := H.map fun l => [.sl 2 (l.map encEn)]
theorem qg8 (H : List (List En)) : D.noPtrR (hisRows H) = true := qo (fun r => by simp only [D.noPtrL, D.noPtr, qak, Bool.and_self]) H
theorem qdz (H : List (List En)) : (hisRows H).length = H.length := by simp [hisRows]
theorem qly (l : List En) : [[D.sl 2 (l.map encEn)]] = hisRows [l] := rfl
theorem qlz (a b : List (List En)) : hisRows a ++ hisRows b = hisRows (a ++ b) := by simp [hisRows]
theorem qj1 (H : List (List En)) {i : Nat} (h : i < H.length) : (hisRows H).getD i [] = [.sl 2 (H[i].map encEn)] := qq (fun l : List En => [D.sl 2 (l.map encEn)]) H h []
attribute [go_sem] qg8 qdz
structure His (s : Sto) (ts : List (List OpS)) (n : Nat) (H : List (List En)) : Prop where
 bk : Bk s ts
 le : n ≤ ts.length
 sync : s.synced = ((txFile (ts.take n)).length : Nat)
 len : H.length = ts.length - n + 1
 run : ∀ k (h : k < H.length), eRun [] (ts.take (n + k)) = some H[k]
theorem qxv : His newS [] 0 [[]] := ⟨qlw, Nat.le_refl _, rfl, rfl, fun k h => by
 have : k = 0 := by simpa using h
 subst this; rfl⟩
theorem qo5 {s : Sto} {ts : List (List OpS)} {n : Nat} {H : List (List En)} {l : List OpS} (h : His s ts n H) (hg : s.m.Good) (hc : (sCommit s l).2 = 0) : His (sCommit s l).1 (ts ++ [l]) n (H ++ [entsOf (sCommit s l).1.m]) := by
 have hb := qdv h.bk hg hc
 have hle := h.le
 have hs : (sCommit s l).1.synced = s.synced := by
  rcases jm s l with ⟨_, c2⟩ | ⟨_, _, _, c4⟩
  ·rw [c2]
  ·rw [c4]
 have hln := h.len
 refine ⟨hb, by rw [List.length_append]; omega, by rw [hs, h.sync, List.take_append_of_le_length hle], by simp only [List.length_append, List.length_singleton]; omega, fun k hk => ?_⟩
 by_cases hk2 : k < H.length
 ·rw [List.take_append_of_le_length (by omega), List.getElem_append_left hk2]
  exact h.run k hk2
 ·have hk3 : k = H.length := by simp only [List.length_append, List.length_singleton] at hk; omega
  subst hk3
  rw [List.getElem_append_right (by omega), List.take_of_length_le (by simp only [List.length_append, List.length_singleton]; omega), hb.run]
  simp
theorem qsa {s : Sto} {ts : List (List OpS)} (h : Bk s ts) (hs : s.synced = (s.file.length : Nat)) : His s ts ts.length [entsOf s.m] := by
 refine ⟨h, Nat.le_refl _, by rw [List.take_length, ← h.file]; exact hs, by simp, fun k hk => ?_⟩
 have : k = 0 := by simpa using hk
 subst this
 rw [Nat.add_zero, List.take_length]
 exact h.run
theorem qo6 (ts : List (List OpS)) (n : Nat) : (txFile (ts.take n)).length ≤ (txFile ts).length := by
 have h := wx (ts.map wOps) n (n + (ts.map wOps).length) (by omega)
 rw [← List.map_take, List.take_of_length_le (show (ts.map wOps).length ≤ n + (ts.map wOps).length by omega)] at h
 exact h
theorem qu0 {m : Cont} (h : m.Good) : (cFile (entsOf m)).length ≤ 401 * 70000 := by
 have hel : (entsOf m).length ≤ 400 := by rw [jd]; exact h.few
 have h0 := (qm1 (entsOf m) (qlx h) (entsOf m).length (Nat.le_refl _)).file
 have h1 : cFile (entsOf m) = cFlush (cAt (entsOf m) (entsOf m).length).1 (cAt (entsOf m) (entsOf m).length).2 := by rw [cFile, cAt, List.take_length]
 have h2 := wo (cAt (entsOf m) (entsOf m).length).1 (cAt (entsOf m) (entsOf m).length).2
 have h3 := Nat.mul_le_mul_right 70000 hel
 rw [h1]; omega
def ScrA (l : List StepS) (keep : Nat) (i : Nat) (s : Sto) (H : List (List En)) : St :=
 ⟨[(0, true, .d (.sl 2 (l.map encStep))), (1, true, .d (.int .u16 (keep : Nat))), (4, true, .d (.bool false)), (5, true, .d (.ptr 1 0)), (6, true, .own 0 1 (hisRows H)), (7, true, .d (.int .i64 (i : Nat)))], [mapO s.m, stoO s 0], [0], 1⟩
def ScrB (got : List En) (H : List (List En)) (i : Nat) : St :=
 ⟨[(4, true, .d (.bool false)), (6, true, .own 0 1 (hisRows H)), (10, true, .d (.sl 2 (got.map encEn))), (11, true, .d (.int .i64 (i : Nat)))], [], [0], 1⟩
set_option maxRecDepth 10000 in
theorem qg9 (l : List StepS) (keep : Nat) (hk : keep < 65536) (hl : l.length ≤ maxLen) (hx : ∀ x ∈ l, x.ops.length ≤ maxLen) : ACall Try.prog 9 [.d (.sl 2 (l.map encStep)), .d (.int .u16 keep)] [] (.d (.bool true)) [] := by
 refine F9m.go ?_
 try (refine ev ?_; try exact True.intro)
 (repeat (with_reducible refine ob ?_)); first | refine cl F10 (wl) ?_ | refine clF F10 (wl) (fun _ => by (refine ev3 @encOp.eq_1 @encEn.eq_1 @encStep.eq_1 ?_; try exact True.intro)) ?_
 try (refine ev ?_; try exact True.intro)
 (repeat (with_reducible refine ob ?_)); refine no_ ?_
 try (refine ev ?_; try exact True.intro)
 (repeat (with_reducible refine ob ?_)); first | refine cl F11 (qgx l hl hx) ?_ | refine clF F11 (qgx l hl hx) (fun _ => by (refine ev3 @encOp.eq_1 @encEn.eq_1 @encStep.eq_1 ?_; try exact True.intro)) ?_
 try (refine ev ?_; try exact True.intro)
 (repeat (with_reducible refine ob ?_)); refine xk _ (fun h => ?_) (fun h => ?_)
 ·try (refine ev ?_; try exact True.intro)
 obtain ⟨h15, hfew⟩ := qjf (by simpa using h)
 have k0 := qdn
 have hc0 := zc newS [] 0 (qa9 0)
 have e0 : sList newS.m [] = [] := ki
 rw [e0] at hc0
 simp only [stoO, mapO] at k0 hc0
 try (refine ev ?_; try exact True.intro)
 refine clO [0, 1] F12 k0 ?_
 try (refine ev ?_; try exact True.intro)
 refine clO [1, 0] F36 hc0 ?_
 try (refine ev ?_; try exact True.intro)
 refine ql (fun x : { x : Nat × Sto × List (List En) // x.1 ≤ l.length ∧ x.2.1.Ok (401 + x.1) ∧ x.2.2.length ≤ x.1 + 1 ∧ (∀ y ∈ x.2.2, y.length ≤ 100000) ∧ ∃ ts n, His x.2.1 ts n x.2.2 } => ScrA l keep x.val.1 x.val.2.1 x.val.2.2) (fun x => l.length - x.val.1) ⟨(0, newS, [[]]), Nat.zero_le _, qa9 _, by simp, by simp, [], 0, qxv⟩ ?_ (fun x => ?_)
 ·try (refine ev7 @ScrA.eq_1 @stoO.eq_1 @mapO.eq_1 @Int.ofNat_zero @hisRows.eq_1 @List.map_cons.{0,0} @List.map_nil.{0,0} ?_; try exact True.intro)
 obtain ⟨⟨i, s, H⟩, hi, hs, htl, hHs0, ts, n, hh⟩ := x
 simp only at hi hs hh htl hHs0
 have hHl := hh.len
 try (refine ev3 @ScrA.eq_1 @stoO.eq_1 @mapO.eq_1 ?_; try exact True.intro)
 refine xk _ (fun hc => ?_) (fun hc => ?_)
 ·have hil : i < l.length := by simpa using hc
  obtain ⟨q1, q2⟩ := qmw (hfew _ (List.getElem_mem hil))
  have hf := hs.file
  try (refine ev2 (qq encStep l hil) @encStep.eq_1 ?_; try exact True.intro)
  (repeat (with_reducible refine ob ?_))
  have hw : IntKind.i64.wrap ((i : Int) + 1) = ((i + 1 : Nat) : Int) := qj (show i < 9223372036854775807 by omega)
  refine xk _ (fun hk0 => ?_) (fun hk0 => ?_)
  ·
   try (refine ev2 (qq encStep l hil) @encStep.eq_1 ?_; try exact True.intro)
   (repeat (with_reducible refine ob ?_))
   (repeat (with_reducible refine ob ?_)); first | refine cl F14 (qum l[i].ops (by omega) (fun o ho => by have := (q2 o ho).2; omega)) ?_ | refine clF F14 (qum l[i].ops (by omega) (fun o ho => by have := (q2 o ho).2; omega)) (fun _ => by (refine ev3 @encOp.eq_1 @encEn.eq_1 @encStep.eq_1 ?_; try exact True.intro)) ?_
   try (refine ev ?_; try exact True.intro)
   by_cases c1 : (sCommit s l[i].ops).2 = 0
   ·have k1 := kw (s := s) (l := l[i].ops) (by omega) (by omega) c1
    have hh2 := qo5 hh hs.good c1
    have hs2 := ka hs l[i].ops
    simp only [stoO, mapO] at k1
    refine clO [1, 0, 2] F13 k1 ?_
    generalize (sCommit s l[i].ops).1 = s' at hs2 hh2 ⊢
    have hcn := zc s' [] _ hs2
    change ACall _ _ _ _ (.d (.sl 2 ((entsOf s'.m).map encEn))) _ at hcn
    simp only [stoO, mapO] at hcn
    try (refine ev ?_; try exact True.intro)
    (repeat (with_reducible refine ob ?_)); refine yo ?_
    try (refine ev ?_; try exact True.intro)
    refine clO [1, 2] F36 hcn ?_
    try (refine ev2 @qly @qlz ?_; try exact True.intro)
    refine ⟨by omega, ?_⟩
    refine qql [2, 1, 0] [mapO s'.m, stoO s' 0, mapO s.m] ?_ (by try (refine ev2 @mapO.eq_1 @stoO.eq_1 ?_; try exact True.intro)) (hp := rfl)
    refine pu ?_
    try (refine ev2 @mapO.eq_1 @stoO.eq_1 ?_; try exact True.intro)
    refine ⟨⟨(i + 1, s', H ++ [entsOf s'.m]), hil, hs2, by simp only [List.length_append, List.length_singleton]; omega, by intro y hy; rcases List.mem_append.mp hy with hy | hy; exact hHs0 y hy; rw [List.mem_singleton.mp hy, jd]; have := hs2.good.few; omega, _, n, hh2⟩, ?_, by dsimp only; omega⟩
    try (refine ev4 @ScrA.eq_1 @stoO.eq_1 @mapO.eq_1 @hw ?_; try exact True.intro)
   ·have k1 := qi8 (s := s) (l := l[i].ops) (by omega) (by omega) c1
    have hne : ((sCommit s l[i].ops).2 == 0) = false := by simpa using c1
    simp only [stoO, mapO] at k1
    refine clO [1, 0, 2] F13 k1 ?_
    try (refine ev1 @hne ?_; try exact True.intro)
    (repeat (with_reducible refine ob ?_)); refine no_ ?_
    try (refine ev ?_; try exact True.intro)
    refine pu ?_
    try (refine ev ?_; try exact True.intro)
    refine ⟨⟨(i + 1, s, H), hil, hs.mono (Nat.le_succ _), by simp only; omega, hHs0, ts, n, hh⟩, ?_, by dsimp only; omega⟩
    try (refine ev4 @ScrA.eq_1 @stoO.eq_1 @mapO.eq_1 @hw ?_; try exact True.intro)
  ·try (refine ev ?_; try exact True.intro)
   refine xk _ (fun hk1 => ?_) (fun hk1 => ?_)
   ·
    have k1 := qwo s (by omega)
    have hh2 := qsa (s := sSync s) (qxl hh.bk) rfl
    have hs2 : (sSync s).Ok (401 + (i + 1)) := ⟨hs.good, Nat.le_trans hs.file (Nat.mul_le_mul_right 70000 (Nat.le_succ _))⟩
    have hcn := zc (sSync s) [] _ hs2
    change ACall _ _ _ _ (.d (.sl 2 ((entsOf (sSync s).m).map encEn))) _ at hcn
    have e1 : (sSync s).m = s.m := rfl
    simp only [stoO, mapO, e1] at k1 hcn hh2
    try (refine ev ?_; try exact True.intro)
    refine clO [1, 0] F26 k1 ?_
    try (refine ev ?_; try exact True.intro)
    (repeat (with_reducible refine ob ?_)); refine no_ ?_
    try (refine ev ?_; try exact True.intro)
    refine clO [1, 0] F36 hcn ?_
    try (refine ev ?_; try exact True.intro)
    refine pu ?_
    try (refine ev ?_; try exact True.intro)
    refine ⟨⟨(i + 1, (sSync s), [entsOf s.m]), hil, hs2, by simp, by intro y hy; rw [List.mem_singleton.mp hy, jd]; have := hs.good.few; omega, _, _, hh2⟩, ?_, by dsimp only; omega⟩
    try (refine ev8 @ScrA.eq_1 @stoO.eq_1 @mapO.eq_1 @hw @e1 @hisRows.eq_1 @List.map_cons.{0,0} @List.map_nil.{0,0} ?_; try exact True.intro)
   ·try (refine ev ?_; try exact True.intro)
    refine xk _ (fun hk2 => ?_) (fun hk2 => ?_)
    ·
     have k1 := qft s hs.good
     obtain ⟨cs, hcb, hcf⟩ := qfu hs.good
     have hh2 := qsa hcb rfl
     have hs2 : (sCompact s).Ok (401 + (i + 1)) := ⟨hs.good, by
      show (cFile (entsOf s.m)).length ≤ _
      exact Nat.le_trans (qu0 hs.good) (Nat.mul_le_mul_right 70000 (Nat.le_add_right 401 (i + 1)))⟩
     have hcn := zc (sCompact s) [] _ hs2
     change ACall _ _ _ _ (.d (.sl 2 ((entsOf (sCompact s).m).map encEn))) _ at hcn
     have e1 : (sCompact s).m = s.m := rfl
     simp only [stoO, mapO, e1] at k1 hcn hh2
     try (refine ev ?_; try exact True.intro)
     refine clO [1, 0] xfq k1 ?_
     try (refine ev ?_; try exact True.intro)
     (repeat (with_reducible refine ob ?_)); refine no_ ?_
     try (refine ev ?_; try exact True.intro)
     refine clO [1, 0] F36 hcn ?_
     try (refine ev ?_; try exact True.intro)
     refine pu ?_
     try (refine ev ?_; try exact True.intro)
     refine ⟨⟨(i + 1, (sCompact s), [entsOf s.m]), hil, hs2, by simp, by intro y hy; rw [List.mem_singleton.mp hy, jd]; have := hs.good.few; omega, _, _, hh2⟩, ?_, by dsimp only; omega⟩
     try (refine ev8 @ScrA.eq_1 @stoO.eq_1 @mapO.eq_1 @hw @e1 @hisRows.eq_1 @List.map_cons.{0,0} @List.map_nil.{0,0} ?_; try exact True.intro)
    ·try (refine ev ?_; try exact True.intro)
     refine pu ?_
     try (refine ev ?_; try exact True.intro)
     refine ⟨⟨(i + 1, s, H), hil, hs.mono (Nat.le_succ _), by simp only; omega, hHs0, ts, n, hh⟩, ?_, by dsimp only; omega⟩
     try (refine ev4 @ScrA.eq_1 @stoO.eq_1 @mapO.eq_1 @hw ?_; try exact True.intro)
 ·have hie : i = l.length := by
   have : l.length ≤ i := by simpa using hc
   omega
  subst hie
  have hf := hs.file
  have hcl : (txFile (ts.take n)).length ≤ s.file.length := by rw [hh.bk.file]; exact qo6 ts n
  have hsy := hh.sync
  have hcf : s.file.length ≤ 100000000 := by omega
  have hlog := qq7 s (by omega)
  have hcc := qdy s.file (txFile (ts.take n)).length keep hcl hcf (by omega)
  have hKn : (txFile (ts.take n)).length ≤ (txFile (ts.take n)).length + keep % (s.file.length - (txFile (ts.take n)).length + 1) := Nat.le_add_right _ _
  generalize (txFile (ts.take n)).length + keep % (s.file.length - (txFile (ts.take n)).length + 1) = K at hcc hKn
  obtain ⟨j, s', p1, p2, p3, p4, p5, p6, p7⟩ := qjx hh.bk K
  have hnj : n ≤ j := p7 n hh.le hKn
  have hop := qm0 (by rw [List.length_take]; omega) p2
  have hg' := (wn p2).1
  have hcn := zc s' [] 2000 ⟨hg', by have := (wn p2).2.1; rw [this, List.length_take, List.length_take]; omega⟩
  change ACall _ _ _ _ (.d (.sl 2 ((entsOf s'.m).map encEn))) _ at hcn
  have hwk : IntKind.i64.wrap (keep : Int) = (keep : Int) := qu (by unfold I64; omega)
  have hgl : (entsOf s'.m).length ≤ 400 := by rw [jd]; exact hg'.few
  have hHg : H[j - n]? = some (entsOf s'.m) := by
   have hjl : j - n < H.length := by omega
   have h1 := hh.run (j - n) hjl
   rw [show n + (j - n) = j by omega, p3] at h1
   rw [List.getElem?_eq_getElem hjl, Option.some.inj h1]
  have hHs : ∀ x ∈ H, x.length ≤ 100000 := hHs0
  have hHn : H.length ≤ 100 := by omega
  have hjn : j - n < H.length := by omega
  simp only [stoO, mapO, hsy] at hlog hop hcn
  generalize entsOf s'.m = got at hHg hcn hgl
  try (refine ev2 @hwk @hsy ?_; try exact True.intro)
  refine clO [1, 0] F28 hlog ?_
  try (refine ev2 @encLog.eq_1 @hwk ?_; try exact True.intro)
  (repeat (with_reducible refine ob ?_)); first | refine cl F38 (hcc) ?_ | refine clF F38 (hcc) (fun _ => by (refine ev3 @encOp.eq_1 @encEn.eq_1 @encStep.eq_1 ?_; try exact True.intro)) ?_
  try (refine ev ?_; try exact True.intro)
  refine clO [2, 3] F37 hop ?_
  try (refine ev ?_; try exact True.intro)
  (repeat (with_reducible refine ob ?_)); refine no_ ?_
  try (refine ev ?_; try exact True.intro)
  refine clO [3, 2] F36 hcn ?_
  try (refine ev ?_; try exact True.intro)
  refine ql (fun x : { x : Nat // x ≤ j - n } => ScrB got H x.val) (fun x => H.length - x.val) ⟨0, Nat.zero_le _⟩ ?_ (fun x => ?_)
  ·try (refine ev2 @ScrB.eq_1 @Int.ofNat_zero ?_; try exact True.intro)
  obtain ⟨x, hx1⟩ := x
  simp only
  have hxl : x < H.length := by omega
  have hse := qj0 got H[x] (by omega) (hHs _ (List.getElem_mem hxl))
  try (refine ev1 @ScrB.eq_1 ?_; try exact True.intro)
  refine xk _ (fun hd => ?_) (fun hd => ?_)
  ·try (refine ev1 (qj1 H hxl) ?_; try exact True.intro)
   refine ⟨by omega, ?_⟩
   (repeat (with_reducible refine ob ?_)); first | refine cl F39 (hse) ?_ | refine clF F39 (hse) (fun _ => by (refine ev3 @encOp.eq_1 @encEn.eq_1 @encStep.eq_1 ?_; try exact True.intro)) ?_
   try (refine ev ?_; try exact True.intro)
   refine xk _ (fun he => ?_) (fun he => ?_)
   ·try (refine ev ?_; try exact True.intro)
   ·have hxn : x ≠ j - n := by
     rintro rfl
     rw [List.getElem?_eq_getElem hxl] at hHg
     rw [Option.some.inj hHg, beq_self_eq_true] at he
     cases he
    try (refine ev ?_; try exact True.intro)
    refine ⟨⟨x + 1, by omega⟩, ?_, by dsimp only; omega⟩
    try (refine ev2 @ScrB.eq_1 (qj (show x < 9223372036854775807 by omega)) ?_; try exact True.intro)
  ·exfalso
   have : ¬ x < H.length := by simpa [qdz] using hd
   omega
end Go.Proofs.Ytinnaedmdoengaa
namespace Go.Proofs.Ytinnaedmdoengaa
open Go.Abs
set_option linter.unusedSimpArgs false
set_option maxRecDepth 100000
theorem qha {α : Type} {enc : α → List D} {Q : α → Prop} : ∀ {rows : List (List D)}, (∀ r ∈ rows, ∃ x, r = enc x ∧ Q x) → ∃ l : List α, rows = l.map enc ∧ ∀ x ∈ l, Q x
 | [], _ => ⟨[], rfl, by simp⟩
 | r :: rows, h => by
  obtain ⟨x, rfl, hx⟩ := h r (by simp)
  obtain ⟨l, rfl, hl⟩ := qha (enc := enc) (Q := Q) (rows := rows) (fun r hr => h r (by simp [hr]))
  exact ⟨x :: l, rfl, by simpa using ⟨hx, hl⟩⟩
theorem q6y {n : Int} (h : (Lit.int .i64 n).wf = true) : I64 n := by
 have h1 : IntKind.i64.min = -9223372036854775808 := by decide
 have h2 : IntKind.i64.max = 9223372036854775807 := by decide
 simp only [Lit.wf, Bool.and_eq_true, decide_eq_true_eq, h1, h2] at h
 exact h
theorem xgw {n : Int} (h : (Lit.int .u8 n).wf = true) : 0 ≤ n ∧ n ≤ 255 := by
 have h1 : IntKind.u8.min = 0 := by decide
 have h2 : IntKind.u8.max = 255 := by decide
 simp only [Lit.wf, Bool.and_eq_true, decide_eq_true_eq, h1, h2] at h
 exact h
theorem q6z {n : Nat} {ds : List D} (h : Shp Try.prog (n + 1) 3 ds) : ∃ x, ds = [.int .i64 x] ∧ I64 x := by
 simp only [Shp, Try.underlying3] at h
 obtain ⟨x, rfl, h⟩ := h
 exact ⟨x, rfl, q6y h⟩
theorem xgx {n : Nat} {ds : List D} (h : Shp Try.prog (n + 1) 5 ds) : ∃ x : Nat, ds = [.int .u8 (x : Nat)] ∧ x < 256 := by
 simp only [Shp, Try.underlying5] at h
 obtain ⟨x, rfl, h⟩ := h
 have := xgw h
 refine ⟨x.toNat, ?_, by omega⟩
 rw [Int.toNat_of_nonneg this.1]
theorem qxw {n : Nat} {ds : List D} (h : Shp Try.prog (n + 1) 5 ds) : ∃ c : UInt8, ds = [byteD c] ∧ True := by
 obtain ⟨x, rfl, hx⟩ := xgx h
 refine ⟨UInt8.ofNat x, ?_, trivial⟩
 simp [byteD, UInt8.toNat_ofNat]
 omega
theorem qj2 (s : List UInt8) : s.map (fun c => [byteD c]) = byteRows s := by
 induction s with
 | nil => rfl
 | cons c s ih => rw [List.map_cons, ih]; rfl
theorem qu1 : Try.prog.cellsOf 5 = 1 := by kernel_rfl
theorem qu2 {n : Nat} {ds : List D} (h : Shp Try.prog (n + 2) 34 ds) : ∃ s : List UInt8, ds = [.sl 1 (byteRows s)] ∧ s.length ≤ maxLen := by
 rw [Shp] at h
 simp only [Try.underlying34] at h
 obtain ⟨r, rfl, l, h⟩ := h
 obtain ⟨s, rfl, _⟩ := qha fun r hr => qxw (h r hr)
 exact ⟨s, by rw [qu1, qj2], by simpa using l⟩
theorem q60 {n : Nat} {ds : List D} (h : Shp Try.prog (n + 1) 9 ds) : ∃ s : List UInt8, ds = [.str s] ∧ s.length ≤ maxLen := by
 simp only [Shp, Try.underlying9] at h
 exact h
theorem qxx {n : Nat} {ds : List D} (h : Shp Try.prog (n + 3) 36 ds) : ∃ o : OpS, ds = encOp o ∧ o.key.length ≤ maxLen ∧ o.val.length ≤ maxLen := by
 rw [Shp] at h
 simp only [Try.underlying36, ShpFs] at h
 obtain ⟨_, _, rfl, h1, _, _, rfl, h2, _, _, rfl, h3, rfl⟩ := h
 obtain ⟨a1, rfl, l1⟩ := q60 h1
 simp only [Shp, Try.underlying4] at h2
 obtain ⟨a2, rfl⟩ := h2
 obtain ⟨a3, rfl, l3⟩ := qu2 h3
 exact ⟨⟨a1, a2, a3⟩, rfl, l1, l3⟩
theorem qo7 : Try.prog.cellsOf 36 = 3 := by kernel_rfl
theorem q61 {n : Nat} {ds : List D} (h : Shp Try.prog (n + 4) 31 ds) : ∃ l : List OpS, ds = [.sl 3 (l.map encOp)] ∧ l.length ≤ maxLen := by
 rw [Shp] at h
 simp only [Try.underlying31] at h
 obtain ⟨r, rfl, l, h⟩ := h
 obtain ⟨s, rfl, _⟩ := qha fun r hr => qxx (h r hr)
 exact ⟨s, by rw [qo7], by simpa using l⟩
theorem qsb {n : Nat} {ds : List D} (h : Shp Try.prog (n + 5) 33 ds) : ∃ x : StepS, ds = encStep x ∧ x.ops.length ≤ maxLen := by
 rw [Shp] at h
 simp only [Try.underlying33, ShpFs] at h
 obtain ⟨_, _, rfl, h1, _, _, rfl, h2, rfl⟩ := h
 obtain ⟨a1, rfl, _⟩ := q6z h1
 obtain ⟨a2, rfl, l2⟩ := q61 h2
 exact ⟨⟨a1, a2⟩, rfl, l2⟩
theorem qj3 : Try.prog.cellsOf 33 = 2 := by kernel_rfl
theorem qu3 {n : Nat} {ds : List D} (h : Shp Try.prog (n + 6) 22 ds) : ∃ l : List StepS, ds = [.sl 2 (l.map encStep)] ∧ l.length ≤ maxLen ∧ ∀ x ∈ l, x.ops.length ≤ maxLen := by
 rw [Shp] at h
 simp only [Try.underlying22] at h
 obtain ⟨r, rfl, l, h⟩ := h
 obtain ⟨s, rfl, hs⟩ := qha fun r hr => qsb (h r hr)
 exact ⟨s, by rw [qj3], by simpa using l, hs⟩
theorem qu4 (l : List StepS) : argS Try.prog 22 [.sl 2 (l.map encStep)] = .d (.sl 2 (l.map encStep)) := by simp only [argS, Try.underlying22]; rfl
theorem xhe (l : List OpS) : argS Try.prog 31 [.sl 3 (l.map encOp)] = .d (.sl 3 (l.map encOp)) := by simp only [argS, Try.underlying31]; rfl
theorem q7n (s : List UInt8) : argS Try.prog 34 [.sl 1 (byteRows s)] = .d (.sl 1 (byteRows s)) := by simp only [argS, Try.underlying34]; rfl
theorem xhf (s : List UInt8) : argS Try.prog 9 [.str s] = .d (.str s) := by simp only [argS, Try.underlying9]; rfl
theorem xio (n : Int) : argS Try.prog 5 [.int .u8 n] = .d (.int .u8 n) := by simp only [argS, Try.underlying5]; rfl
end Go.Proofs.Ytinnaedmdoengaa
