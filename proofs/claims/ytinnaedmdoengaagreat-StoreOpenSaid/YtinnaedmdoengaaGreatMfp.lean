/- Texts Yc, Ye, Yf, Yg, Yh, Zg, Zh, Zi, Ws. -/
import Derived.Test.YtinnaedmdoengaaGreatMfo
import Derived.Calls
import Derived.Orders
import Derived.Tactics
import Derived.Laws.AppendOwn
import Derived.Laws.Slices
import Derived.Laws.Closers25
import Derived.Laws.StructEq
import Derived.Laws.BytesString
import Derived.Laws.CopyRow
import Derived.MapKept
import Derived.Maps.RangeRun
import Derived.TacticsIn
import Derived.OrdersIn
import Derived.RangeFuncRecord
import Derived.RangeFuncLeaves
import Derived.IntWalk
import Derived.ProofKit
import Derived.OpenShut
import Derived.Carry
import Derived.Test.YtinnaedmdoengaaGreatProg
import Derived.KernelRfl
import Derived.OwnWalkIn
import Derived.TacticsInMore
import Derived.LoopIn
import Derived.WalkKit
import Derived.Lib.Strings
import Derived.Lib.Slices
import Derived.Lib.Walk
import Derived.Lib.Bytealg
import Derived.Shelf.SlSortCmp.WholeK
import Derived.Shelf.SlSortCmp.NoneTotal

namespace Go.Proofs.YtinnaedmdoengaaGreat
open Go.Abs
set_option linter.unusedSimpArgs false
set_option linter.unusedVariables false
theorem q5y {r : Rd} (h : r.Ok) : (rIntP r).2.Ok ∧ (rIntP r).2.b = r.b := y5 h (qbu h)
theorem y6 {r : Rd} (h : r.Ok) (lo hi : Int) : (rBoundedP lo hi r).2.Ok ∧ (rBoundedP lo hi r).2.b = r.b := y5 h (zq h lo hi)
theorem qat {r : Rd} (h : r.Ok) : (rBoolP r).2.Ok ∧ (rBoolP r).2.b = r.b := y5 h (qey h)
theorem ky {r : Rd} (h : r.Ok) (most : Int) : (rBytesP most r).2.Ok ∧ (rBytesP most r).2.b = r.b := y5 h (qda h most)
theorem qbe (r : Rd) (lo hi : Int) : (rBoundedP lo hi r).1 = 0 ∨ (lo ≤ (rBoundedP lo hi r).1 ∧ (rBoundedP lo hi r).1 ≤ hi) := by
 unfold rBoundedP rPart
 split
 ·exact .inl rfl
 ·split
  ·exact .inl rfl
  ·rename_i h
   exact .inr (qc9 (by simpa using h))
def rOp (r : Rd) : OpS × Rd :=
 (⟨(rBytesP 40 r).1, (rBoolP (rBytesP 40 r).2).1, (rBytesP 900 (rBoolP (rBytesP 40 r).2).2).1⟩, (rBytesP 900 (rBoolP (rBytesP 40 r).2).2).2)
def rOpsA : Nat → Rd → List OpS × Rd
 | 0, r => ([], r)
 | n + 1, r => ((rOpsA n r).1 ++ [(rOp (rOpsA n r).2).1], (rOp (rOpsA n r).2).2)
theorem qwq {r : Rd} (h : r.Ok) : (rOp r).2.Ok ∧ (rOp r).2.b = r.b := by
 have h1 := ky h 40
 have h2 := qat h1.1
 have h3 := ky h2.1 900
 exact ⟨h3.1, h3.2.trans (h2.2.trans h1.2)⟩
theorem y7 {r : Rd} (h : r.Ok) : ∀ n, (rOpsA n r).2.Ok ∧ (rOpsA n r).2.b = r.b ∧ (rOpsA n r).1.length = n
 | 0 => ⟨h, rfl, rfl⟩
 | n + 1 => by
  have ih := y7 h n
  have := qwq ih.1
  exact ⟨this.1, this.2.trans ih.2.1, by simp only [rOpsA, List.length_append, ih.2.2, List.length_singleton]⟩
def decRd (b : List UInt8) : List OpS × Rd := rOpsA (rBoundedP 1 20 ⟨b, 0, false⟩).1.toNat (rBoundedP 1 20 ⟨b, 0, false⟩).2
def sDecode (b : List UInt8) : List OpS × Int := if rEnd (decRd b).2 ≠ 0 then ([], 4) else if (sEncode (decRd b).1).2 ≠ 0 then ([], 4) else ((decRd b).1, 0)
noncomputable section
set_option maxRecDepth 100000
def s59r0 : List SOper := [
 ⟨some 2, .mov (.k (.d .nilsl)), none⟩,
 ⟨some 3, .mov (.k (.d (.int .i64 0))), none⟩]
def s59r1 : List SOper := [
 ⟨some 10, .mov (.t 0), none⟩,
 ⟨some 11, .call (.k (.d (.func (.func 54) [] []))) [(.t 10)], none⟩,
 ⟨some 4, .mov (.t 11), none⟩]
def s59r2 : List SOper := [
 ⟨some 12, .mov (.t 4), none⟩,
 ⟨some 13, .call (.k (.d (.func (.func 112) [] []))) [(.t 12), (.k (.d (.int .i64 1))), (.k (.d (.int .i64 20)))], none⟩,
 ⟨some 5, .mov (.t 13), none⟩]
def s59r3 : List SOper := [
 ⟨some 6, .mov (.k (.d .nilsl)), none⟩]
def s59r4 : List SOper := [
 ⟨some 14, .mov (.t 5), none⟩,
 ⟨some 15, .mov (.k (.d (.int .i64 0))), none⟩]
def s59r5 : List SOper := [
 ⟨some 16, .bin .lss (.t 15) (.t 14), none⟩]
def s59r6 : List SOper := [
 ⟨some 17, .mov (.t 4), none⟩,
 ⟨some 18, .call (.k (.d (.func (.func 113) [] []))) [(.t 17), (.k (.d (.int .i64 40)))], none⟩,
 ⟨some 19, .build [(.str []), (.bool false), .nilsl] [(0, 1, (.t 18))], none⟩,
 ⟨some 7, .alloc 1 [(.d (.str [])), (.d (.bool false)), (.d .nilsl)], none⟩,
 ⟨none, .store (some 3) (.t 7) (.t 19), none⟩]
def s59r7 : List SOper := [
 ⟨some 20, .mov (.t 4), none⟩,
 ⟨some 21, .call (.k (.d (.func (.func 114) [] []))) [(.t 20)], none⟩,
 ⟨some 22, .faddr 1 (.t 7), none⟩,
 ⟨none, .store none (.t 22) (.t 21), none⟩]
def s59r8 : List SOper := [
 ⟨some 23, .mov (.t 4), none⟩,
 ⟨some 24, .call (.k (.d (.func (.func 115) [] []))) [(.t 23), (.k (.d (.int .i64 900)))], none⟩,
 ⟨some 25, .faddr 2 (.t 7), none⟩,
 ⟨none, .store none (.t 25) (.t 24), none⟩]
def s59r9 : List SOper := [
 ⟨some 26, .mov (.t 6), none⟩,
 ⟨some 27, .load (some 3) (.t 7), none⟩,
 ⟨some 28, .buildSlice false 3 1 [(.str []), (.bool false), .nilsl] [(0, 3, (.t 27))], none⟩,
 ⟨some 29, .append false 3 48 (.t 26) (.t 28), none⟩,
 ⟨some 6, .mov (.t 29), none⟩]
def s59r10 : List SOper := [
 ⟨some 30, .bin .add (.t 15) (.k (.d (.int .i64 1))), none⟩,
 ⟨some 15, .mov (.t 30), none⟩]
def s59l11 : SCode := (.seq (.region s59r5 0 []) (.seq (.cond (.t 16) .skip (.exit 0)) (.seq (.block 1 (.seq (.region s59r6 1 []) (.seq (.region s59r7 0 []) (.seq (.region s59r8 0 []) (.region s59r9 0 []))))) (.region s59r10 0 []))))
theorem q5z : CodeIs s59l11.eq_1 := qc s59l11.eq_1
def s59r12 : List SOper := [
 ⟨some 31, .mov (.t 4), none⟩,
 ⟨some 32, .call (.k (.d (.func (.func 109) [] []))) [(.t 31)], none⟩,
 ⟨some 33, .bin .neq (.t 32) (.k (.d (.int .i64 0))), none⟩]
def s59r13 : List SOper := [
 ⟨some 2, .mov (.k (.d .nilsl)), none⟩,
 ⟨some 3, .mov (.k (.d (.int .i64 4))), none⟩]
def s59r14 : List SOper := [
 ⟨some 35, .mov (.t 6), none⟩,
 ⟨some 36, .call (.k (.d (.func (.func 50) [] []))) [(.t 35)], none⟩,
 ⟨some 34, .mov (.t 36), none⟩,
 ⟨some 37, .extract 0 (.t 34), none⟩,
 ⟨some 38, .extract 1 (.t 34), none⟩,
 ⟨some 8, .mov (.t 37), none⟩,
 ⟨some 9, .mov (.t 38), none⟩]
def s59r15 : List SOper := [
 ⟨some 39, .mov (.t 9), none⟩,
 ⟨some 40, .bin .neq (.t 39) (.k (.d (.int .i64 0))), none⟩]
def s59r16 : List SOper := [
 ⟨some 2, .mov (.k (.d .nilsl)), none⟩,
 ⟨some 3, .mov (.k (.d (.int .i64 4))), none⟩]
def s59r17 : List SOper := [
 ⟨some 41, .mov (.t 6), none⟩,
 ⟨some 2, .mov (.t 41), none⟩,
 ⟨some 3, .mov (.k (.d (.int .i64 0))), none⟩]
def s59 : SCode := (.seq (.region s59r0 0 []) (.seq (.region s59r1 1 []) (.seq (.region s59r2 0 []) (.seq (.region s59r3 0 []) (.seq (.seq (.region s59r4 0 []) (.block 0 (.loop s59l11))) (.seq (.seq (.region s59r12 0 []) (.cond (.t 33) (.seq (.region s59r13 0 []) .ret) .skip)) (.seq (.seq (.region s59r14 0 []) (.seq (.region s59r15 0 []) (.cond (.t 40) (.seq (.region s59r16 0 []) .ret) .skip))) (.seq (.region s59r17 0 []) .ret))))))))
theorem e59 : CodeIs s59.eq_1 := qc s59.eq_1
theorem xd2 : RegIs s59r0.eq_1 := qa
theorem xd3 : RegIs s59r1.eq_1 := qa
theorem xd4 : RegIs s59r2.eq_1 := qa
theorem xd5 : RegIs s59r3.eq_1 := qa
theorem xd6 : RegIs s59r4.eq_1 := qa
theorem xd7 : RegIs s59r5.eq_1 := qa
theorem xd8 : RegIs s59r6.eq_1 := qa
theorem xd9 : RegIs s59r7.eq_1 := qa
theorem xea : RegIs s59r8.eq_1 := qa
theorem xeb : RegIs s59r9.eq_1 := qa
theorem q50 : RegIs s59r10.eq_1 := qa
theorem q51 : RegIs s59r12.eq_1 := qa
theorem q52 : RegIs s59r13.eq_1 := qa
theorem q53 : RegIs s59r14.eq_1 := qa
theorem q54 : RegIs s59r15.eq_1 := qa
theorem q55 : RegIs s59r16.eq_1 := qa
theorem q56 : RegIs s59r17.eq_1 := qa
attribute [go_sem] xd2 xd3 xd4 xd5 xd6 xd7 xd8 xd9 xea xeb q50 q5z q51 q52 q53 q54 q55 q56 e59
theorem F59 : FnIs Tryz.prog 59 Tryz.f59 [] news s59 [.tmp 2, .tmp 3] 42 := qz follows Tryz.func59
end
def Sdec (n : Nat) (r : Rd) (i : { i : Nat // i ≤ n }) : St :=
 ⟨[(4, true, .d (.ptr 0 0)), (6, true, .own 0 3 ((rOpsA i.val r).1.map encOp)), (14, true, .d (.int .i64 (n : Nat))), (15, true, .d (.int .i64 (i.val : Nat)))], [rdO (rOpsA i.val r).2], [0], 1⟩
set_option maxRecDepth 10000 in
theorem qe0 (b : List UInt8) (hb : b.length ≤ 1000000000) : ACall Tryz.prog 59 [.d (.sl 1 (byteRows b))] [] (.tup [.d (.sl 3 ((sDecode b).1.map encOp)), .d (.int .i64 (sDecode b).2)]) [] := by
 have hnew := qto b hb
 have hr0 : (⟨b, 0, false⟩ : Rd).Ok := ⟨hb, Nat.zero_le _⟩
 have hbd := qiz ⟨b, 0, false⟩ 1 20 hr0
 have hin := qbe ⟨b, 0, false⟩ 1 20
 have hinv := (y6 hr0 1 20).1
 unfold sDecode decRd
 generalize rBoundedP 1 20 ⟨b, 0, false⟩ = x at hbd hin hinv ⊢
 obtain ⟨n, r⟩ := x
 simp only at hin hinv
 have hn0 : n = ((n.toNat : Nat) : Int) := by omega
 generalize n.toNat = m at hn0
 subst hn0
 simp only [rdO] at hnew hbd
 refine F59.goT ?_
 try (refine ev ?_; try exact True.intro)
 (repeat (with_reducible refine ob ?_)); refine clO [0] F54 (hnew) ?_ (hfit := by first | exact ⟨qb, trivial⟩ | exact ⟨qb, qb, trivial⟩ | simp only [encOp, encEn, encStep, go_sem, Nat.reduceAdd, Nat.reduceMul, Nat.reduceSub, Nat.reduceEqDiff, Nat.reduceLT, Nat.reduceLeDiff, Nat.reduceBEq, reduceIte, reduceCtorEq, Int.reduceAdd, Int.reduceLT, Int.reduceLE, Int.reduceGT, Int.reduceGE, Int.reduceEq, Int.reduceNe, Int.reduceBEq, Int.reduceBNe, Int.reduceToNat, Int.reduceNeg])
 try (refine ev ?_; try exact True.intro)
 (repeat (with_reducible refine ob ?_)); refine clO [0] xg2 (hbd) ?_ (hfit := by first | exact ⟨qb, trivial⟩ | exact ⟨qb, qb, trivial⟩ | simp only [encOp, encEn, encStep, go_sem, Nat.reduceAdd, Nat.reduceMul, Nat.reduceSub, Nat.reduceEqDiff, Nat.reduceLT, Nat.reduceLeDiff, Nat.reduceBEq, reduceIte, reduceCtorEq, Int.reduceAdd, Int.reduceLT, Int.reduceLE, Int.reduceGT, Int.reduceGE, Int.reduceEq, Int.reduceNe, Int.reduceBEq, Int.reduceBNe, Int.reduceToNat, Int.reduceNeg])
 try (refine ev ?_; try exact True.intro)
 refine qm (Sdec m r) (fun i => m - i.val) ⟨0, Nat.zero_le _⟩ ?_ (fun i => ?_)
 ·try simp only [Sdec, rdO, rOpsA, List.map_nil, Int.ofNat_zero, go_sem, Nat.reduceAdd, Nat.reduceMul, Nat.reduceSub, Nat.reduceEqDiff, Nat.reduceLT, Nat.reduceLeDiff, Nat.reduceBEq, reduceIte, reduceCtorEq, Int.reduceAdd, Int.reduceLT, Int.reduceLE, Int.reduceGT, Int.reduceGE, Int.reduceEq, Int.reduceNe, Int.reduceBEq, Int.reduceBNe, Int.reduceToNat, Int.reduceNeg]
 obtain ⟨i, hi⟩ := i
 have hri := y7 hinv i
 try (refine ev2 @Sdec.eq_1 @rdO.eq_1 ?_; try exact True.intro)
 (repeat (with_reducible refine ob ?_)); refine xf _ (fun h => ?_) (fun h => ?_)
 ·have hil : i < m := by simp at h; omega
  have hT := qqv (rOpsA i r).2 40 hri.1 (by decide)
  have hiT := ky hri.1 40
  have hB := qqu _ hiT.1
  have hiB := qat hiT.1
  have hV := qez _ 900 hiB.1 (by decide)
  simp only [rdO] at hT hB hV
  try (refine ev ?_; try exact True.intro)
  (repeat (with_reducible refine ob ?_)); refine clO [0] xg4 (hT) ?_ (hfit := by first | exact ⟨qb, trivial⟩ | exact ⟨qb, qb, trivial⟩ | simp only [encOp, encEn, encStep, go_sem, Nat.reduceAdd, Nat.reduceMul, Nat.reduceSub, Nat.reduceEqDiff, Nat.reduceLT, Nat.reduceLeDiff, Nat.reduceBEq, reduceIte, reduceCtorEq, Int.reduceAdd, Int.reduceLT, Int.reduceLE, Int.reduceGT, Int.reduceGE, Int.reduceEq, Int.reduceNe, Int.reduceBEq, Int.reduceBNe, Int.reduceToNat, Int.reduceNeg])
  try (refine ev ?_; try exact True.intro)
  (repeat (with_reducible refine ob ?_)); refine clO [0] xg3 (hB) ?_ (hfit := by first | exact ⟨qb, trivial⟩ | exact ⟨qb, qb, trivial⟩ | simp only [encOp, encEn, encStep, go_sem, Nat.reduceAdd, Nat.reduceMul, Nat.reduceSub, Nat.reduceEqDiff, Nat.reduceLT, Nat.reduceLeDiff, Nat.reduceBEq, reduceIte, reduceCtorEq, Int.reduceAdd, Int.reduceLT, Int.reduceLE, Int.reduceGT, Int.reduceGE, Int.reduceEq, Int.reduceNe, Int.reduceBEq, Int.reduceBNe, Int.reduceToNat, Int.reduceNeg])
  try (refine ev ?_; try exact True.intro)
  (repeat (with_reducible refine ob ?_)); refine clO [0] xd1 (hV) ?_ (hfit := by first | exact ⟨qb, trivial⟩ | exact ⟨qb, qb, trivial⟩ | simp only [encOp, encEn, encStep, go_sem, Nat.reduceAdd, Nat.reduceMul, Nat.reduceSub, Nat.reduceEqDiff, Nat.reduceLT, Nat.reduceLeDiff, Nat.reduceBEq, reduceIte, reduceCtorEq, Int.reduceAdd, Int.reduceLT, Int.reduceLE, Int.reduceGT, Int.reduceGE, Int.reduceEq, Int.reduceNe, Int.reduceBEq, Int.reduceBNe, Int.reduceToNat, Int.reduceNeg])
  try (refine ev ?_; try exact True.intro)
  (repeat (with_reducible refine ob ?_))
  refine ⟨⟨i + 1, hil⟩, ?_, by dsimp only; omega⟩
  try simp only [Sdec, rdO, rOpsA, rOp, List.map_append, List.map_cons, List.map_nil, encOp, qk (show i < 9223372036854775807 by omega), go_sem, Nat.reduceAdd, Nat.reduceMul, Nat.reduceSub, Nat.reduceEqDiff, Nat.reduceLT, Nat.reduceLeDiff, Nat.reduceBEq, reduceIte, reduceCtorEq, Int.reduceAdd, Int.reduceLT, Int.reduceLE, Int.reduceGT, Int.reduceGE, Int.reduceEq, Int.reduceNe, Int.reduceBEq, Int.reduceBNe, Int.reduceToNat, Int.reduceNeg]
 ·have hil : i = m := by simp at h; omega
  subst hil
  have hE := qwj (rOpsA i r).2 hri.1
  simp only [rdO] at hE
  try (refine ev ?_; try exact True.intro)
  (repeat (with_reducible refine ob ?_)); refine clO [0] xgv (hE) ?_ (hfit := by first | exact ⟨qb, trivial⟩ | exact ⟨qb, qb, trivial⟩ | simp only [encOp, encEn, encStep, go_sem, Nat.reduceAdd, Nat.reduceMul, Nat.reduceSub, Nat.reduceEqDiff, Nat.reduceLT, Nat.reduceLeDiff, Nat.reduceBEq, reduceIte, reduceCtorEq, Int.reduceAdd, Int.reduceLT, Int.reduceLE, Int.reduceGT, Int.reduceGE, Int.reduceEq, Int.reduceNe, Int.reduceBEq, Int.reduceBNe, Int.reduceToNat, Int.reduceNeg])
  try (refine ev ?_; try exact True.intro)
  refine xf _ (fun h => ?_) (fun h => ?_)
  ·rw [if_pos (show rEnd (rOpsA i r).2 ≠ 0 by simpa using h)]
   try (refine ev ?_; try exact True.intro)
  ·rw [if_neg (show ¬ rEnd (rOpsA i r).2 ≠ 0 by simpa using h)]
   try (refine ev ?_; try exact True.intro)
   (repeat (with_reducible refine ob ?_)); first | refine cl F50 (vu (rOpsA i r).1 (by omega)) ?_ | refine clF F50 (vu (rOpsA i r).1 (by omega)) (fun _ => by simp only [encOp, encEn, encStep, go_sem, Nat.reduceAdd, Nat.reduceMul, Nat.reduceSub, Nat.reduceEqDiff, Nat.reduceLT, Nat.reduceLeDiff, Nat.reduceBEq, reduceIte, reduceCtorEq, Int.reduceAdd, Int.reduceLT, Int.reduceLE, Int.reduceGT, Int.reduceGE, Int.reduceEq, Int.reduceNe, Int.reduceBEq, Int.reduceBNe, Int.reduceToNat, Int.reduceNeg]) ?_
   try (refine ev ?_; try exact True.intro)
   refine xf _ (fun h => ?_) (fun h => ?_)
   ·rw [if_pos (show (sEncode (rOpsA i r).1).2 ≠ 0 by simpa using h)]
    try (refine ev ?_; try exact True.intro)
   ·rw [if_neg (show ¬ (sEncode (rOpsA i r).1).2 ≠ 0 by simpa using h)]
    try (refine ev ?_; try exact True.intro)
end Go.Proofs.YtinnaedmdoengaaGreat
namespace Go.Proofs.YtinnaedmdoengaaGreat
open Go.Abs
set_option linter.unusedSimpArgs false
set_option linter.unusedVariables false
def dG : Nat → Nat → Nat → List UInt8 → Option (Int × List UInt8)
 | 0, _, _, _ => none
 | _ + 1, _, _, [] => none
 | k + 1, j, u, c :: l =>
  if c.toNat < 128 then (if ((c.toNat == 0 && decide (0 < j)) || (decide (j = 9) && decide (c.toNat > 1))) = true then none else some (unz (u + c.toNat * 128 ^ j), l))
  else dG k (j + 1) (u + c.toNat % 128 * 128 ^ j) l
def dInt (l : List UInt8) : Option (Int × List UInt8) := dG 10 0 0 l
def Got {α : Type} (o : Option (α × List UInt8)) (b : List UInt8) (x : α × Rd) : Prop := match o with
 | some (v, l) => x = (v, ⟨b, b.length - l.length, false⟩)
 | none => x.2.failed = true
def Reads {α : Type} (z : α) (f : Rd → α × Rd) (d : List UInt8 → Option (α × List UInt8)) : Prop :=
 ∀ r : Rd, r.Ok → f r = if r.failed = true then (z, r) else match d (r.b.drop r.pos) with
  | some (v, l) => (v, ⟨r.b, r.b.length - l.length, false⟩)
  | none => (z, ⟨r.b, r.pos, true⟩)
def Tails {α : Type} (d : List UInt8 → Option (α × List UInt8)) : Prop := ∀ l0 v l, d l0 = some (v, l) → ∃ p, l0 = p ++ l
theorem kg {b : List UInt8} {p : Nat} {q l : List UInt8} (hp : p ≤ b.length) (h : b.drop p = q ++ l) : b.drop (b.length - l.length) = l ∧ l.length ≤ b.length := by
 have h1 := congrArg List.length h
 simp only [List.length_drop, List.length_append] at h1
 have h2 : b.drop (p + q.length) = l := by rw [← List.drop_drop, h, List.drop_left]
 have e : b.length - l.length = p + q.length := by omega
 rw [e]; exact ⟨h2, by omega⟩
theorem qqw : ∀ (k j u : Nat) {l0 : List UInt8} {v : Int} {l : List UInt8}, dG k j u l0 = some (v, l) → ∃ p, l0 = p ++ l
 | 0, _, _, _, _, _, h => by simp [dG] at h
 | k + 1, j, u, [], _, _, h => by simp [dG] at h
 | k + 1, j, u, c :: l0, v, l, h => by
  rw [dG] at h
  split at h
  ·split at h
   ·cases h
   ·cases h; exact ⟨[c], rfl⟩
  ·obtain ⟨p, rfl⟩ := qqw k (j + 1) _ h
   exact ⟨c :: p, rfl⟩
theorem qqx : Tails dInt := fun _ _ _ h => qqw 10 0 0 h
theorem qe1 {r : Rd} (hr : r.Ok) (hf : r.failed = false) {c : UInt8} {l : List UInt8} (h : r.b.drop r.pos = c :: l) : rNext 1 r = ([c], ⟨r.b, r.pos + 1, false⟩) ∧ r.b.drop (r.pos + 1) = l := by
 have hl := congrArg List.length h
 simp only [List.length_drop, List.length_cons] at hl
 have h2 : r.b.drop (r.pos + 1) = l := by rw [← List.drop_drop, h]; rfl
 refine ⟨?_, h2⟩
 unfold rNext
 rw [if_neg (by simp [hf]; omega), h, hf]; rfl
theorem qi0 {r : Rd} (hf : r.failed = false) (h : r.b.drop r.pos = []) : rNext 1 r = ([], ⟨r.b, r.pos, true⟩) := by
 have hl := congrArg List.length h
 simp only [List.length_drop, List.length_nil] at hl
 unfold rNext
 rw [if_pos (by simp [hf]; omega)]
theorem vr {j : Nat} (h : j ≤ 8) : 128 ^ (j + 1) ≤ 9223372036854775808 := by
 have h1 : 128 ^ (j + 1) ≤ 128 ^ 9 := Nat.pow_le_pow_right (by decide) (by omega)
 have h2 : (128 : Nat) ^ 9 = 9223372036854775808 := by decide
 omega
theorem qqy : ∀ (k j u : Nat) {r : Rd}, j + k = 10 → u < 128 ^ j → r.Ok → r.failed = false →
  Got (dG k j u (r.b.drop r.pos)) r.b (rIntG k j u r)
 | 0, j, u, r, _, _, _, _ => by simp only [Got, dG, rIntG]
 | k + 1, j, u, r, hj, hu, hr, hf => by
  cases hd : r.b.drop r.pos with
  | nil =>
   simp only [dG]
   rw [rIntG, qi0 hf hd, if_pos rfl]
   exact (rfl : true = true)
  | cons c l =>
   obtain ⟨h1, h2⟩ := qe1 hr hf hd
   have hlt := zf c
   have hlen := congrArg List.length hd
   simp only [List.length_drop, List.length_cons] at hlen
   rw [rIntG, h1, dG]
   simp only [Bool.false_eq_true, if_false, List.headD_cons]
   by_cases hc : c.toNat < 128
   ·simp only [hc, if_true]
    by_cases hb : ((c.toNat == 0 && decide (0 < j)) || (decide (j = 9) && decide (c.toNat > 1))) = true
    ·rw [if_pos hb]
     exact hb
    ·rw [if_neg hb]
     simp only [Bool.not_eq_true] at hb
     have hm : c.toNat % 128 = c.toNat := Nat.mod_eq_of_lt hc
     have hs : u + c.toNat * 128 ^ j < 18446744073709551616 := by
      rcases Nat.lt_or_ge j 9 with h9 | h9
      ·have hp := vr (j := j) (by omega)
       rw [Nat.pow_succ] at hp
       have : c.toNat * 128 ^ j ≤ 127 * 128 ^ j := Nat.mul_le_mul_right _ (by omega)
       omega
      ·have : j = 9 := by omega
       subst this
       simp at hb
       have e : (128 : Nat) ^ 9 = 9223372036854775808 := by decide
       rw [e] at hu ⊢
       omega
     rw [hm, Nat.mod_eq_of_lt hs]
     simp only [Got, Prod.mk.injEq, Rd.mk.injEq]
     exact ⟨trivial, trivial, by omega, hb⟩
   ·simp only [hc, if_false]
    cases k with
    | zero => simp only [Got, dG, rIntG]
    | succ k =>
     have hp := vr (j := j) (by omega)
     have hu2 : u + c.toNat % 128 * 128 ^ j < 128 ^ (j + 1) := by
      have h3 : c.toNat % 128 * 128 ^ j ≤ 127 * 128 ^ j := Nat.mul_le_mul_right _ (by omega)
      rw [Nat.pow_succ]
      omega
     rw [Nat.mod_eq_of_lt (show u + c.toNat % 128 * 128 ^ j < 18446744073709551616 by omega)]
     have ih := qqy (k + 1) (j + 1) (u + c.toNat % 128 * 128 ^ j) (r := ⟨r.b, r.pos + 1, false⟩) (by omega) hu2 ⟨hr.len, by have := hr.pos; simp only; omega⟩ rfl
     rw [show (⟨r.b, r.pos + 1, false⟩ : Rd).b.drop (⟨r.b, r.pos + 1, false⟩ : Rd).pos = l from h2] at ih
     exact ih
theorem que {r : Rd} (hr : r.Ok) (hf : r.failed = false) : Got (dInt (r.b.drop r.pos)) r.b (rInt r) := qqy 10 0 0 rfl (by decide) hr hf
theorem v6 {α : Type} {z : α} {f : Rd → α × Rd} {d : List UInt8 → Option (α × List UInt8)} (hi : ∀ r : Rd, r.Ok → (f r).2.b = r.b)
  (h : ∀ r : Rd, r.Ok → r.failed = false → Got (d (r.b.drop r.pos)) r.b (f r)) : Reads z (rPart z f) d := by
 intro r hr
 unfold rPart
 by_cases hf : r.failed = true
 ·rw [if_pos hf, if_pos hf]
 ·rw [if_neg hf, if_neg hf]
  have := h r hr (by simpa using hf)
  cases hd : d (r.b.drop r.pos) with
  | none =>
   rw [hd] at this
   simp only [Got] at this
   rw [if_pos this, hi r hr, this]
  | some x =>
   obtain ⟨v, l⟩ := x
   rw [hd] at this
   simp only [Got] at this
   rw [this, if_neg (by simp)]
theorem qqz : Reads 0 rIntP dInt := v6 (fun r hr => (qbu hr).2) (fun r hr hf => que hr hf)
def dBounded (lo hi : Int) (l0 : List UInt8) : Option (Int × List UInt8) := match dInt l0 with
 | some (n, l) => if n < lo ∨ n > hi then none else some (n, l)
 | none => none
theorem jc (lo hi : Int) : Tails (dBounded lo hi) := by
 intro l0 v l h
 unfold dBounded at h
 split at h
 ·rename_i hd
  split at h
  ·cases h
  ·cases h; exact qqx _ _ _ hd
 ·cases h
theorem qe2 (lo hi : Int) {r : Rd} (hr : r.Ok) (hf : r.failed = false) : Got (dBounded lo hi (r.b.drop r.pos)) r.b (rBounded lo hi r) := by
 have h := que hr hf
 unfold dBounded
 cases hd : dInt (r.b.drop r.pos) with
 | none =>
  rw [hd] at h
  simp only [Got] at h ⊢
  simp only [rBounded, Rd.fail, h, Bool.true_or]
 | some x =>
  obtain ⟨n, l⟩ := x
  rw [hd] at h
  simp only [Got] at h ⊢
  by_cases hn : n < lo ∨ n > hi
  ·rw [if_pos hn]
   simp only [rBounded, Rd.fail, h, Bool.false_or]
   simpa using hn
  ·rw [if_neg hn]
   simp only [rBounded, Rd.fail, h, Bool.false_or]
   have : (decide (n < lo) || decide (n > hi)) = false := by simpa using hn
   rw [this]
theorem ww (lo hi : Int) : Reads 0 (rBoundedP lo hi) (dBounded lo hi) := v6 (fun r hr => (zq hr lo hi).2) (fun r hr hf => qe2 lo hi hr hf)
def dBytes (most : Int) (l0 : List UInt8) : Option (List UInt8 × List UInt8) := match dBounded 0 most l0 with
 | some (n, l) => if l.length < n.toNat then none else some (l.take n.toNat, l.drop n.toNat)
 | none => none
theorem qk3 (most : Int) : Tails (dBytes most) := by
 intro l0 v l h
 unfold dBytes at h
 split at h
 ·rename_i n l1 hd
  split at h
  ·cases h
  ·cases h
   obtain ⟨p, rfl⟩ := jc _ _ _ _ _ hd
   exact ⟨p ++ l1.take n.toNat, by rw [List.append_assoc, List.take_append_drop]⟩
 ·cases h
theorem qq0 (most : Int) {r : Rd} (hr : r.Ok) (hf : r.failed = false) : Got (dBytes most (r.b.drop r.pos)) r.b (rBytes0 most r) := by
 have h := qe2 0 most hr hf
 unfold dBytes
 cases hd : dBounded 0 most (r.b.drop r.pos) with
 | none =>
  rw [hd] at h
  simp only [Got] at h ⊢
  unfold rBytes0
  rw [if_pos h]; exact h
 | some x =>
  obtain ⟨n, l⟩ := x
  rw [hd] at h
  simp only [Got] at h ⊢
  obtain ⟨p, hp⟩ := jc _ _ _ _ _ hd
  obtain ⟨t1, t2⟩ := kg hr.pos hp
  have e : r.b.length - (r.b.length - l.length) = l.length := by omega
  by_cases hn : l.length < n.toNat
  ·rw [if_pos hn]
   simp only [rBytes0, h, Bool.false_eq_true, if_false, rNext, Bool.false_or]
   rw [e, if_pos (by simpa using hn)]
  ·rw [if_neg hn]
   simp only [rBytes0, h, Bool.false_eq_true, if_false, rNext, Bool.false_or]
   rw [e, if_neg (by simpa using hn), t1]
   have : r.b.length - l.length + n.toNat = r.b.length - (l.drop n.toNat).length := by rw [List.length_drop]; omega
   rw [this]
theorem zh (most : Int) : Reads [] (rBytesP most) (dBytes most) := v6 (fun r hr => (qda hr most).2) (fun r hr hf => qq0 most hr hf)
def dBool : List UInt8 → Option (Bool × List UInt8)
 | [] => none
 | c :: l => if c.toNat > 1 then none else some (c.toNat == 1, l)
theorem qn1 : Tails dBool := by
 intro l0 v l h
 cases l0 with
 | nil => cases h
 | cons c l1 =>
  rw [dBool] at h
  split at h
  ·cases h
  ·cases h; exact ⟨[c], rfl⟩
theorem qts {r : Rd} (hr : r.Ok) (hf : r.failed = false) : Got (dBool (r.b.drop r.pos)) r.b (rBool0 r) := by
 cases hd : r.b.drop r.pos with
 | nil => simp only [Got, dBool, rBool0, qi0 hf hd, Rd.fail, Bool.true_or]
 | cons c l =>
  obtain ⟨h1, h2⟩ := qe1 hr hf hd
  have hlen := congrArg List.length hd
  simp only [List.length_drop, List.length_cons] at hlen
  simp only [Got, dBool]
  by_cases hc : c.toNat > 1
  ·rw [if_pos hc]
   simp only [rBool0, h1, Rd.fail, Bool.false_or, List.headD_cons, decide_eq_true hc]
  ·rw [if_neg hc]
   simp only [rBool0, h1, Rd.fail, Bool.false_or, List.headD_cons, decide_eq_false hc, Bool.not_false, Bool.true_and]
   have : r.b.length - l.length = r.pos + 1 := by omega
   rw [this]
theorem y8 : Reads false rBoolP dBool := v6 (fun r hr => (qey hr).2) (fun r hr hf => qts hr hf)
end Go.Proofs.YtinnaedmdoengaaGreat
namespace Go.Proofs.YtinnaedmdoengaaGreat
open Go.Abs
set_option linter.unusedSimpArgs false
set_option linter.unusedVariables false
noncomputable section
set_option maxRecDepth 100000
def s79r0 : List SOper := [
 ⟨some 2, .mov (.k (.d (.int .i64 0))), none⟩]
def s79r1 : List SOper := [
 ⟨some 3, .mov (.k (.d (.int .u64 0))), none⟩,
 ⟨some 4, .mov (.k (.d (.int .u64 1))), none⟩]
def s79r2 : List SOper := [
 ⟨some 7, .mov (.t 0), none⟩,
 ⟨some 8, .nilCheck (.t 7), none⟩,
 ⟨some 9, .faddr 1 (.t 8), none⟩,
 ⟨some 10, .load none (.t 9), none⟩,
 ⟨some 5, .mov (.t 10), none⟩]
def s79r3 : List SOper := [
 ⟨some 11, .mov (.t 5), none⟩,
 ⟨some 12, .mov (.t 0), none⟩,
 ⟨some 13, .nilCheck (.t 12), none⟩,
 ⟨some 14, .faddr 0 (.t 13), none⟩,
 ⟨some 15, .load none (.t 14), none⟩,
 ⟨some 16, .len (.t 15), none⟩,
 ⟨some 17, .bin .lss (.t 11) (.t 16), none⟩,
 ⟨some 18, .mov (.t 17), none⟩,
 ⟨some 19, .mov (.t 5), some (18, true)⟩,
 ⟨some 20, .mov (.t 0), some (18, true)⟩,
 ⟨some 21, .nilCheck (.t 20), some (18, true)⟩,
 ⟨some 22, .faddr 1 (.t 21), some (18, true)⟩,
 ⟨some 23, .load none (.t 22), some (18, true)⟩,
 ⟨some 24, .bin .add (.t 23) (.k (.d (.int .i64 10))), some (18, true)⟩,
 ⟨some 25, .bin .lss (.t 19) (.t 24), some (18, true)⟩,
 ⟨some 26, .pick (.t 18) (.t 25) (.k (.d (.bool false))), none⟩,
 ⟨some 27, .mov (.t 26), none⟩,
 ⟨some 28, .mov (.t 0), some (27, true)⟩,
 ⟨some 29, .nilCheck (.t 28), some (27, true)⟩,
 ⟨some 30, .faddr 2 (.t 29), some (27, true)⟩,
 ⟨some 31, .load none (.t 30), some (27, true)⟩,
 ⟨some 32, .not (.t 31), some (27, true)⟩,
 ⟨some 33, .pick (.t 27) (.t 32) (.k (.d (.bool false))), none⟩]
def s79r4 : List SOper := [
 ⟨some 36, .mov (.t 0), none⟩,
 ⟨some 37, .nilCheck (.t 36), none⟩,
 ⟨some 38, .faddr 0 (.t 37), none⟩,
 ⟨some 39, .load none (.t 38), none⟩,
 ⟨some 40, .mov (.t 5), none⟩,
 ⟨some 41, .iaddr 1 (.t 39) (.t 40), none⟩,
 ⟨some 42, .load none (.t 41), none⟩,
 ⟨some 43, .bin .rem (.t 42) (.k (.d (.int .u8 128))), none⟩,
 ⟨some 44, .conv .u64 (.t 43), none⟩,
 ⟨some 6, .mov (.t 44), none⟩]
def s79r5 : List SOper := [
 ⟨some 45, .mov (.t 5), none⟩,
 ⟨some 46, .mov (.t 0), none⟩,
 ⟨some 47, .nilCheck (.t 46), none⟩,
 ⟨some 48, .faddr 1 (.t 47), none⟩,
 ⟨some 49, .load none (.t 48), none⟩,
 ⟨some 50, .bin .add (.t 49) (.k (.d (.int .i64 9))), none⟩,
 ⟨some 51, .bin .eql (.t 45) (.t 50), none⟩,
 ⟨some 52, .mov (.t 51), none⟩,
 ⟨some 53, .mov (.t 6), some (52, true)⟩,
 ⟨some 54, .bin .gtr (.t 53) (.k (.d (.int .u64 1))), some (52, true)⟩,
 ⟨some 55, .pick (.t 52) (.t 54) (.k (.d (.bool false))), none⟩]
def s79r6 : List SOper := [
 ⟨some 56, .mov (.t 3), none⟩,
 ⟨some 57, .mov (.t 6), none⟩,
 ⟨some 58, .mov (.t 4), none⟩,
 ⟨some 59, .bin .mul (.t 57) (.t 58), none⟩,
 ⟨some 60, .bin .add (.t 56) (.t 59), none⟩,
 ⟨some 3, .mov (.t 60), none⟩]
def s79r7 : List SOper := [
 ⟨some 61, .mov (.t 4), none⟩,
 ⟨some 62, .bin .mul (.t 61) (.k (.d (.int .u64 128))), none⟩,
 ⟨some 4, .mov (.t 62), none⟩]
def s79r8 : List SOper := [
 ⟨some 63, .mov (.t 0), none⟩,
 ⟨some 64, .nilCheck (.t 63), none⟩,
 ⟨some 65, .faddr 0 (.t 64), none⟩,
 ⟨some 66, .load none (.t 65), none⟩,
 ⟨some 67, .mov (.t 5), none⟩,
 ⟨some 68, .iaddr 1 (.t 66) (.t 67), none⟩,
 ⟨some 69, .load none (.t 68), none⟩,
 ⟨some 70, .bin .geq (.t 69) (.k (.d (.int .u8 128))), none⟩]
def s79r9 : List SOper := [
 ⟨some 71, .mov (.t 6), none⟩,
 ⟨some 72, .bin .eql (.t 71) (.k (.d (.int .u64 0))), none⟩,
 ⟨some 73, .mov (.t 72), none⟩,
 ⟨some 74, .mov (.t 5), some (73, true)⟩,
 ⟨some 75, .mov (.t 0), some (73, true)⟩,
 ⟨some 76, .nilCheck (.t 75), some (73, true)⟩,
 ⟨some 77, .faddr 1 (.t 76), some (73, true)⟩,
 ⟨some 78, .load none (.t 77), some (73, true)⟩,
 ⟨some 79, .bin .gtr (.t 74) (.t 78), some (73, true)⟩,
 ⟨some 80, .pick (.t 73) (.t 79) (.k (.d (.bool false))), none⟩]
def s79r10 : List SOper := [
 ⟨some 81, .mov (.t 0), none⟩,
 ⟨some 82, .mov (.t 5), none⟩,
 ⟨some 83, .bin .add (.t 82) (.k (.d (.int .i64 1))), none⟩,
 ⟨some 84, .nilCheck (.t 81), none⟩,
 ⟨some 85, .faddr 1 (.t 84), none⟩,
 ⟨none, .store none (.t 85) (.t 83), none⟩]
def s79r11 : List SOper := [
 ⟨some 86, .mov (.t 3), none⟩,
 ⟨some 87, .bin .rem (.t 86) (.k (.d (.int .u64 2))), none⟩,
 ⟨some 88, .bin .eql (.t 87) (.k (.d (.int .u64 1))), none⟩]
def s79r12 : List SOper := [
 ⟨some 89, .mov (.t 3), none⟩,
 ⟨some 90, .bin .quo (.t 89) (.k (.d (.int .u64 2))), none⟩,
 ⟨some 91, .conv .i64 (.t 90), none⟩,
 ⟨some 92, .neg (.t 91), none⟩,
 ⟨some 93, .bin .sub (.t 92) (.k (.d (.int .i64 1))), none⟩,
 ⟨some 2, .mov (.t 93), none⟩]
def s79r13 : List SOper := [
 ⟨some 94, .mov (.t 3), none⟩,
 ⟨some 95, .bin .quo (.t 94) (.k (.d (.int .u64 2))), none⟩,
 ⟨some 96, .conv .i64 (.t 95), none⟩,
 ⟨some 2, .mov (.t 96), none⟩]
def s79r14 : List SOper := [
 ⟨some 34, .mov (.t 5), none⟩,
 ⟨some 35, .bin .add (.t 34) (.k (.d (.int .i64 1))), none⟩,
 ⟨some 5, .mov (.t 35), none⟩]
def s79l15 : SCode := (.seq (.seq (.region s79r3 0 []) (.cond (.t 33) .skip (.exit 0))) (.seq (.block 1 (.seq (.region s79r4 0 []) (.seq (.seq (.region s79r5 0 []) (.cond (.t 55) (.exit 0) .skip)) (.seq (.region s79r6 0 []) (.seq (.region s79r7 0 []) (.seq (.seq (.region s79r8 0 []) (.cond (.t 70) (.exit 1) .skip)) (.seq (.seq (.region s79r9 0 []) (.cond (.t 80) (.exit 0) .skip)) (.seq (.region s79r10 0 []) (.seq (.seq (.region s79r11 0 []) (.cond (.t 88) (.seq (.region s79r12 0 []) .ret) .skip)) (.seq (.region s79r13 0 []) .ret)))))))))) (.region s79r14 0 [])))
theorem q57 : CodeIs s79l15.eq_1 := qc s79l15.eq_1
def s79r16 : List SOper := [
 ⟨some 97, .mov (.t 0), none⟩,
 ⟨some 98, .nilCheck (.t 97), none⟩,
 ⟨some 99, .faddr 2 (.t 98), none⟩,
 ⟨none, .store none (.t 99) (.k (.d (.bool true))), none⟩]
def s79r17 : List SOper := [
 ⟨some 2, .mov (.k (.d (.int .i64 0))), none⟩]
def s79 : SCode := (.seq (.region s79r0 0 []) (.seq (.region s79r1 0 []) (.seq (.seq (.region s79r2 0 []) (.block 0 (.loop s79l15))) (.seq (.region s79r16 0 []) (.seq (.region s79r17 0 []) .ret)))))
theorem e79 : CodeIs s79.eq_1 := qc s79.eq_1
theorem xec : RegIs s79r0.eq_1 := qa
theorem xed : RegIs s79r1.eq_1 := qa
theorem xee : RegIs s79r2.eq_1 := qa
theorem xef : RegIs s79r3.eq_1 := qa
theorem xeg : RegIs s79r4.eq_1 := qa
theorem xeh : RegIs s79r5.eq_1 := qa
theorem xei : RegIs s79r6.eq_1 := qa
theorem xej : RegIs s79r7.eq_1 := qa
theorem xek : RegIs s79r8.eq_1 := qa
theorem xel : RegIs s79r9.eq_1 := qa
theorem q58 : RegIs s79r10.eq_1 := qa
theorem q59 : RegIs s79r11.eq_1 := qa
theorem q6a : RegIs s79r12.eq_1 := qa
theorem q6b : RegIs s79r13.eq_1 := qa
theorem q6c : RegIs s79r14.eq_1 := qa
theorem q6d : RegIs s79r16.eq_1 := qa
theorem q6e : RegIs s79r17.eq_1 := qa
attribute [go_sem] xec xed xee xef xeg xeh xei xej xek xel q58 q59 q6a q6b q6c q57 q6d q6e e79
theorem F79 : FnIs Tryz.prog 79 Tryz.f79 [] news s79 [.tmp 2] 100 := qz follows Tryz.func79
end
def SrrInt (b : List UInt8) (pos : Nat) (f : Bool) (i u : Nat) : St :=
 ⟨[(0, true, .d (.ptr 0 0)), (3, true, .d (.int .u64 (u : Nat))), (4, true, .d (.int .u64 (128 ^ (i - pos) % 18446744073709551616 : Nat))), (5, true, .d (.int .i64 (i : Nat)))], [rdO ⟨b, pos, f⟩], [], 1⟩
theorem qtt {u d j : Nat} (hu : u < 128 ^ j) (hd : d < 128) (hj : j ≤ 9) (h9 : j = 9 → d ≤ 1) :
  IntKind.u64.wrap ((u : Int) + IntKind.u64.wrap ((d : Int) * ((128 ^ j % 18446744073709551616 : Nat) : Int))) = ((u + d * 128 ^ j : Nat) : Int) ∧ u + d * 128 ^ j < 18446744073709551616 ∧ u + d * 128 ^ j < 128 ^ (j + 1) := by
 have hp : 128 ^ j ≤ 128 ^ 9 := Nat.pow_le_pow_right (by decide) hj
 have hp9 : (128 : Nat) ^ 9 = 9223372036854775808 := by decide
 rw [Nat.mod_eq_of_lt (by omega)]
 have hs : d * 128 ^ j ≤ 9223372036854775808 := by
  rcases Nat.lt_or_ge j 9 with h | h
  ·have := vr (j := j) (by omega)
   rw [Nat.pow_succ] at this
   have : d * 128 ^ j ≤ 127 * 128 ^ j := Nat.mul_le_mul_right _ (by omega)
   omega
  ·have : j = 9 := by omega
   subst this
   have := h9 rfl
   rw [hp9]; omega
 have h3 : d * 128 ^ j ≤ 127 * 128 ^ j := Nat.mul_le_mul_right _ (by omega)
 refine ⟨?_, by omega, by rw [Nat.pow_succ]; omega⟩
 rw [show ((d : Int) * ((128 ^ j : Nat) : Int)) = ((d * 128 ^ j : Nat) : Int) by rw [Int.natCast_mul], f2 _ (by omega), show ((u : Int) + ((d * 128 ^ j : Nat) : Int)) = ((u + d * 128 ^ j : Nat) : Int) by omega, f2 _ (by omega)]
theorem qn2 (j : Nat) : IntKind.u64.wrap (((128 ^ j % 18446744073709551616 : Nat) : Int) * 128) = ((128 ^ (j + 1) % 18446744073709551616 : Nat) : Int) := by
 rw [ws, Nat.pow_succ]
 generalize 128 ^ j = x
 omega
set_option maxRecDepth 10000 in
theorem qtu (r : Rd) (hr : r.Ok) : ACall Tryz.prog 79 [.d (.ptr 0 0)] [rdO r] (.d (.int .i64 (rIntP r).1)) [rdO (rIntP r).2] := by
 have hrd := qqz r hr
 obtain ⟨hln, hpos⟩ := hr
 obtain ⟨b, pos, f⟩ := r
 simp only at hln hpos hrd
 refine F79.go ?_
 cases f
 ·simp only [Bool.false_eq_true, if_false] at hrd
  have w9 : IntKind.i64.wrap ((pos : Int) + 9) = ((pos + 9 : Nat) : Int) := by rw [qt (by unfold I64; omega)]; omega
  have w10 : IntKind.i64.wrap ((pos : Int) + 10) = ((pos + 10 : Nat) : Int) := by rw [qt (by unfold I64; omega)]; omega
  try (refine ev1 @rdO.eq_1 ?_; try exact True.intro)
  refine qm (fun x : { x : Nat × Nat // pos ≤ x.1 ∧ x.1 ≤ pos + 10 ∧ x.1 ≤ b.length ∧ x.2 < 128 ^ (x.1 - pos) ∧ dG (10 - (x.1 - pos)) (x.1 - pos) x.2 (b.drop x.1) = dInt (b.drop pos) } => SrrInt b pos false x.val.1 x.val.2) (fun x => pos + 10 - x.val.1)
   ⟨(pos, 0), Nat.le_refl _, by simp, hpos, by simp, by simp only [Nat.sub_self]; rfl⟩ ?_ (fun x => ?_)
  ·have e1 : 128 ^ (pos - pos) % 18446744073709551616 = 1 := by rw [Nat.sub_self]
   try (refine ev4 @SrrInt.eq_1 @e1 @rdO.eq_1 @Int.ofNat_zero ?_; try exact True.intro)
  obtain ⟨⟨i, u⟩, h1, h2, h3, h4, h5⟩ := x
  simp only at h1 h2 h3 h4 h5
  have hnone : dInt (b.drop pos) = none → rIntP ⟨b, pos, false⟩ = (0, ⟨b, pos, true⟩) := fun h => by rw [hrd, h]
  try (refine ev3 @SrrInt.eq_1 @rdO.eq_1 @w10 ?_; try exact True.intro)
  refine xf _ (fun hc => ?_) (fun hc => ?_)
  ·simp only [Bool.and_eq_true, decide_eq_true_eq] at hc
   have hil : i < b.length := by omega
   have hi10 : i < pos + 10 := by omega
   rw [List.drop_eq_getElem_cons hil, show 10 - (i - pos) = (10 - (i + 1 - pos)) + 1 by omega, dG] at h5
   have hlt := zf b[i]
   have hd : IntKind.u64.wrap (((b[i].toNat : Nat) : Int).tmod 128) = ((b[i].toNat % 128 : Nat) : Int) := by
    rw [Int.tmod_eq_emod_of_nonneg (by omega), show ((b[i].toNat : Nat) : Int) % 128 = ((b[i].toNat % 128 : Nat) : Int) by omega, f2 _ (by omega)]
   try (refine ev3 (ql b hil) @hd @w9 ?_; try exact True.intro)
   refine ⟨by omega, ?_⟩
   refine xf _ (fun hb => ?_) (fun hb => ?_)
   ·have hx : dInt (b.drop pos) = none := by
     simp at hb
     rw [← h5]
     by_cases hc : b[i].toNat < 128
     ·rw [if_pos hc, if_pos]
      simp; omega
     ·rw [if_neg hc, show 10 - (i + 1 - pos) = 0 by omega]; rfl
    try (refine ev1 (hnone hx) ?_; try exact True.intro)
   ·have hb2 : i - pos = 9 → b[i].toNat % 128 ≤ 1 := by
     intro h9
     simp at hb
     have := hb (by omega)
     omega
    obtain ⟨s1, s2, s3⟩ := qtt h4 (Nat.mod_lt b[i].toNat (show 128 > 0 by decide)) (show i - pos ≤ 9 by omega) hb2
    have s4 := qn2 (i - pos)
    try (refine ev3 @s1 @s4 (ql b hil) ?_; try exact True.intro)
    (repeat (with_reducible refine ob ?_))
    refine xf _ (fun hc => ?_) (fun hc => ?_)
    ·have hc2 : ¬ b[i].toNat < 128 := by simp at hc; omega
     rw [if_neg hc2] at h5
     try (refine ev ?_; try exact True.intro)
     have hj : i + 1 - pos = i - pos + 1 := by omega
     refine ⟨⟨(i + 1, u + b[i].toNat % 128 * 128 ^ (i - pos)), by simp only; omega, by simp only; omega, by simp only; omega, by simp only [hj]; exact s3, by simp only [hj] at h5 ⊢; exact h5⟩, ?_, by simp only; omega⟩
     try (refine ev4 @SrrInt.eq_1 @rdO.eq_1 @hj (qk (show i < 9223372036854775807 by omega)) ?_; try exact True.intro)
    ·have hc2 : b[i].toNat < 128 := by simp at hc; omega
     rw [if_pos hc2] at h5
     have hm : b[i].toNat % 128 = b[i].toNat := Nat.mod_eq_of_lt hc2
     rw [hm] at s1 s2 s3 hb2 hb
     try (refine ev1 @hm ?_; try exact True.intro)
     refine xf _ (fun hz => ?_) (fun hz => ?_)
     ·have hx : dInt (b.drop pos) = none := by
       rw [← h5, if_pos]
       simp at hz ⊢; omega
      try (refine ev1 (hnone hx) ?_; try exact True.intro)
     ·have hx : rIntP ⟨b, pos, false⟩ = (unz (u + b[i].toNat * 128 ^ (i - pos)), ⟨b, i + 1, false⟩) := by
       rw [hrd, ← h5, if_neg (by simp at hz hb ⊢; omega)]
       simp only [List.length_drop]
       rw [show b.length - (b.length - (i + 1)) = i + 1 by omega]
      generalize hU : u + b[i].toNat * 128 ^ (i - pos) = u' at s2 hx ⊢
      have hU2 : (u : Int) + ((b[i].toNat * 128 ^ (i - pos) : Nat) : Int) = ((u' : Nat) : Int) := by rw [← hU, Int.natCast_add]
      have q2 : (u' : Int).tmod 2 = ((u' % 2 : Nat) : Int) := by rw [Int.tmod_eq_emod_of_nonneg (by omega)]; omega
      have q3 : IntKind.u64.wrap ((u' : Int).tdiv 2) = ((u' / 2 : Nat) : Int) := by rw [Int.tdiv_eq_ediv_of_nonneg (by omega), show ((u' : Int) / 2) = ((u' / 2 : Nat) : Int) by omega, f2 _ (by omega)]
      have q4 : IntKind.i64.wrap ((u' / 2 : Nat) : Int) = ((u' / 2 : Nat) : Int) := qt (by unfold I64; omega)
      try (refine ev3 @hU2 @hx (qk (show i < 9223372036854775807 by omega)) ?_; try exact True.intro)
      try (refine ev2 @q2 @hx ?_; try exact True.intro)
      rcases Nat.mod_two_eq_zero_or_one u' with hp | hp
      ·have q5 : unz u' = ((u' / 2 : Nat) : Int) := by unfold unz; rw [if_pos hp]
       have q6 : ((((u' % 2 : Nat) : Int)) == 1) = false := by rw [hp]; rfl
       try (refine ev1 @q6 ?_; try exact True.intro)
       (repeat (with_reducible refine ob ?_)); refine no_ ?_
       try (refine ev4 @hU2 @q3 @q4 @q5 ?_; try exact True.intro)
      ·have q5 : unz u' = IntKind.i64.wrap (IntKind.i64.wrap (0 - ((u' / 2 : Nat) : Int)) - 1) := by
        unfold unz; rw [if_neg (by omega), qt (n := 0 - ((u' / 2 : Nat) : Int)) (by unfold I64; omega), qt (by unfold I64; omega)]; omega
       have q6 : ((((u' % 2 : Nat) : Int)) == 1) = true := by rw [hp]; rfl
       try (refine ev1 @q6 ?_; try exact True.intro)
       (repeat (with_reducible refine ob ?_)); refine wx ?_
       try (refine ev4 @hU2 @q3 @q4 @q5 ?_; try exact True.intro)
  ·have hx : dInt (b.drop pos) = none := by
    rw [← h5]
    simp only [Bool.and_eq_false_iff, decide_eq_false_iff_not] at hc
    rcases Nat.lt_or_ge i (pos + 10) with hi | hi
    ·rw [List.drop_of_length_le (by omega), show 10 - (i - pos) = (9 - (i - pos)) + 1 by omega]; rfl
    ·rw [show 10 - (i - pos) = 0 by omega]; rfl
   try (refine ev1 (hnone hx) ?_; try exact True.intro)
 ·simp only [if_true] at hrd
  try (refine ev2 @rdO.eq_1 @hrd ?_; try exact True.intro)
  refine qm (fun x : Unit => SrrInt b pos true pos 0) (fun x => 0) () ?_ (fun x => ?_)
  ·have e1 : 128 ^ (pos - pos) % 18446744073709551616 = 1 := by rw [Nat.sub_self]
   try (refine ev4 @SrrInt.eq_1 @e1 @rdO.eq_1 @Int.ofNat_zero ?_; try exact True.intro)
  try (refine ev2 @SrrInt.eq_1 @rdO.eq_1 ?_; try exact True.intro)
  (repeat (with_reducible refine ob ?_)); refine no_ ?_
  try (refine ev ?_; try exact True.intro)
end Go.Proofs.YtinnaedmdoengaaGreat
namespace Go.Proofs.YtinnaedmdoengaaGreat
open Go.Abs
set_option linter.unusedSimpArgs false
set_option linter.unusedVariables false
noncomputable section
set_option maxRecDepth 100000
def s178r0 : List SOper := [
 ⟨some 4, .mov (.t 0), none⟩,
 ⟨some 5, .mov (.t 0), none⟩,
 ⟨some 6, .mov (.t 1), none⟩,
 ⟨some 7, .nilCheck (.t 4), none⟩,
 ⟨some 8, .faddr 1 (.t 7), none⟩,
 ⟨none, .store none (.t 8) (.t 6), none⟩,
 ⟨some 9, .nilCheck (.t 5), none⟩,
 ⟨some 10, .faddr 2 (.t 9), none⟩,
 ⟨none, .store none (.t 10) (.k (.d (.bool true))), none⟩]
def s178 : SCode := (.region s178r0 0 [])
theorem xiv : CodeIs s178.eq_1 := qc s178.eq_1
theorem q6f : RegIs s178r0.eq_1 := qa
attribute [go_sem] q6f xiv
theorem q6g : FnIs Tryz.prog 178 Tryz.f178 [] news s178 [] 11 := qz follows Tryz.func178
def s117r0 : List SOper := [
 ⟨some 6, .mov (.k (.d (.int .i64 0))), none⟩]
def s117r1 : List SOper := [
 ⟨some 9, .mov (.t 0), none⟩,
 ⟨some 10, .nilCheck (.t 9), none⟩,
 ⟨some 11, .faddr 1 (.t 10), none⟩,
 ⟨some 12, .load none (.t 11), none⟩,
 ⟨some 7, .mov (.t 12), none⟩]
def s117r2 : List SOper := [
 ⟨some 13, .mov (.t 0), none⟩,
 ⟨some 14, .call (.k (.d (.func (.func 79) [] []))) [(.t 13)], none⟩,
 ⟨some 8, .mov (.t 14), none⟩]
def s117r3 : List SOper := [
 ⟨some 15, .mov (.t 0), none⟩,
 ⟨some 16, .nilCheck (.t 15), none⟩,
 ⟨some 17, .faddr 2 (.t 16), none⟩,
 ⟨some 18, .load none (.t 17), none⟩]
def s117r4 : List SOper := [
 ⟨some 6, .mov (.k (.d (.int .i64 0))), none⟩]
def s117r5 : List SOper := [
 ⟨some 19, .mov (.t 8), none⟩,
 ⟨some 20, .mov (.t 1), none⟩,
 ⟨some 21, .bin .lss (.t 19) (.t 20), none⟩,
 ⟨some 22, .mov (.t 21), none⟩,
 ⟨some 23, .mov (.t 8), some (22, false)⟩,
 ⟨some 24, .mov (.t 2), some (22, false)⟩,
 ⟨some 25, .bin .gtr (.t 23) (.t 24), some (22, false)⟩,
 ⟨some 26, .pick (.t 22) (.k (.d (.bool true))) (.t 25), none⟩]
def s117r6 : List SOper := [
 ⟨some 27, .mov (.t 0), none⟩,
 ⟨some 28, .mov (.t 7), none⟩,
 ⟨some 29, .call (.k (.d (.func (.func 178) [] []))) [(.t 27), (.t 28)], none⟩]
def s117r7 : List SOper := [
 ⟨some 6, .mov (.k (.d (.int .i64 0))), none⟩]
def s117r8 : List SOper := [
 ⟨some 30, .mov (.t 8), none⟩,
 ⟨some 6, .mov (.t 30), none⟩]
def s117 : SCode := (.seq (.region s117r0 0 []) (.seq (.region s117r1 0 []) (.seq (.region s117r2 0 []) (.seq (.seq (.region s117r3 0 []) (.cond (.t 18) (.seq (.region s117r4 0 []) .ret) .skip)) (.seq (.seq (.region s117r5 0 []) (.cond (.t 26) (.seq (.region s117r6 0 []) (.seq (.region s117r7 0 []) .ret)) .skip)) (.seq (.region s117r8 0 []) .ret))))))
theorem xiw : CodeIs s117.eq_1 := qc s117.eq_1
theorem q6h : RegIs s117r0.eq_1 := qa
theorem q6i : RegIs s117r1.eq_1 := qa
theorem q6j : RegIs s117r2.eq_1 := qa
theorem q6k : RegIs s117r3.eq_1 := qa
theorem q6l : RegIs s117r4.eq_1 := qa
theorem q6m : RegIs s117r5.eq_1 := qa
theorem q6n : RegIs s117r6.eq_1 := qa
theorem q6o : RegIs s117r7.eq_1 := qa
theorem q6p : RegIs s117r8.eq_1 := qa
attribute [go_sem] q6h q6i q6j q6k q6l q6m q6n q6o q6p xiw
theorem q6q : FnIs Tryz.prog 117 Tryz.f117 [] news s117 [.tmp 6] 31 := qz follows Tryz.func117
def s119r0 : List SOper := [
 ⟨some 2, .mov (.k (.d (.bool false))), none⟩]
def s119r1 : List SOper := [
 ⟨some 3, .mov (.t 0), none⟩,
 ⟨some 4, .nilCheck (.t 3), none⟩,
 ⟨some 5, .faddr 2 (.t 4), none⟩,
 ⟨some 6, .load none (.t 5), none⟩,
 ⟨some 7, .mov (.t 6), none⟩,
 ⟨some 8, .mov (.t 0), some (7, false)⟩,
 ⟨some 9, .nilCheck (.t 8), some (7, false)⟩,
 ⟨some 10, .faddr 1 (.t 9), some (7, false)⟩,
 ⟨some 11, .load none (.t 10), some (7, false)⟩,
 ⟨some 12, .mov (.t 0), some (7, false)⟩,
 ⟨some 13, .nilCheck (.t 12), some (7, false)⟩,
 ⟨some 14, .faddr 0 (.t 13), some (7, false)⟩,
 ⟨some 15, .load none (.t 14), some (7, false)⟩,
 ⟨some 16, .len (.t 15), some (7, false)⟩,
 ⟨some 17, .bin .geq (.t 11) (.t 16), some (7, false)⟩,
 ⟨some 18, .pick (.t 7) (.k (.d (.bool true))) (.t 17), none⟩,
 ⟨some 19, .mov (.t 18), none⟩,
 ⟨some 20, .mov (.t 0), some (19, false)⟩,
 ⟨some 21, .nilCheck (.t 20), some (19, false)⟩,
 ⟨some 22, .faddr 0 (.t 21), some (19, false)⟩,
 ⟨some 23, .load none (.t 22), some (19, false)⟩,
 ⟨some 24, .mov (.t 0), some (19, false)⟩,
 ⟨some 25, .nilCheck (.t 24), some (19, false)⟩,
 ⟨some 26, .faddr 1 (.t 25), some (19, false)⟩,
 ⟨some 27, .load none (.t 26), some (19, false)⟩,
 ⟨some 28, .iaddr 1 (.t 23) (.t 27), some (19, false)⟩,
 ⟨some 29, .load none (.t 28), some (19, false)⟩,
 ⟨some 30, .bin .gtr (.t 29) (.k (.d (.int .u8 1))), some (19, false)⟩,
 ⟨some 31, .pick (.t 19) (.k (.d (.bool true))) (.t 30), none⟩]
def s119r2 : List SOper := [
 ⟨some 32, .mov (.t 0), none⟩,
 ⟨some 33, .nilCheck (.t 32), none⟩,
 ⟨some 34, .faddr 2 (.t 33), none⟩,
 ⟨none, .store none (.t 34) (.k (.d (.bool true))), none⟩]
def s119r3 : List SOper := [
 ⟨some 2, .mov (.k (.d (.bool false))), none⟩]
def s119r4 : List SOper := [
 ⟨some 35, .mov (.t 0), none⟩,
 ⟨some 36, .nilCheck (.t 35), none⟩,
 ⟨some 37, .faddr 1 (.t 36), none⟩,
 ⟨some 38, .load none (.t 37), none⟩,
 ⟨some 39, .bin .add (.t 38) (.k (.d (.int .i64 1))), none⟩,
 ⟨some 40, .nilCheck (.t 35), none⟩,
 ⟨some 41, .faddr 1 (.t 40), none⟩,
 ⟨none, .store none (.t 41) (.t 39), none⟩]
def s119r5 : List SOper := [
 ⟨some 42, .mov (.t 0), none⟩,
 ⟨some 43, .nilCheck (.t 42), none⟩,
 ⟨some 44, .faddr 0 (.t 43), none⟩,
 ⟨some 45, .load none (.t 44), none⟩,
 ⟨some 46, .mov (.t 0), none⟩,
 ⟨some 47, .nilCheck (.t 46), none⟩,
 ⟨some 48, .faddr 1 (.t 47), none⟩,
 ⟨some 49, .load none (.t 48), none⟩,
 ⟨some 50, .bin .sub (.t 49) (.k (.d (.int .i64 1))), none⟩,
 ⟨some 51, .iaddr 1 (.t 45) (.t 50), none⟩,
 ⟨some 52, .load none (.t 51), none⟩,
 ⟨some 53, .bin .eql (.t 52) (.k (.d (.int .u8 1))), none⟩,
 ⟨some 2, .mov (.t 53), none⟩]
def s119 : SCode := (.seq (.region s119r0 0 []) (.seq (.seq (.region s119r1 0 []) (.cond (.t 31) (.seq (.region s119r2 0 []) (.seq (.region s119r3 0 []) .ret)) .skip)) (.seq (.region s119r4 0 []) (.seq (.region s119r5 0 []) .ret))))
theorem xix : CodeIs s119.eq_1 := qc s119.eq_1
theorem q6r : RegIs s119r0.eq_1 := qa
theorem q6s : RegIs s119r1.eq_1 := qa
theorem q6t : RegIs s119r2.eq_1 := qa
theorem q6u : RegIs s119r3.eq_1 := qa
theorem q6v : RegIs s119r4.eq_1 := qa
theorem q6w : RegIs s119r5.eq_1 := qa
attribute [go_sem] q6r q6s q6t q6u q6v q6w xix
theorem xg5 : FnIs Tryz.prog 119 Tryz.f119 [] news s119 [.tmp 2] 54 := qz follows Tryz.func119
def s120r0 : List SOper := [
 ⟨some 4, .mov (.k (.d .nilsl)), none⟩]
def s120r1 : List SOper := [
 ⟨some 7, .mov (.t 0), none⟩,
 ⟨some 8, .nilCheck (.t 7), none⟩,
 ⟨some 9, .faddr 1 (.t 8), none⟩,
 ⟨some 10, .load none (.t 9), none⟩,
 ⟨some 5, .mov (.t 10), none⟩]
def s120r2 : List SOper := [
 ⟨some 11, .mov (.t 0), none⟩,
 ⟨some 12, .mov (.t 1), none⟩,
 ⟨some 13, .call (.k (.d (.func (.func 117) [] []))) [(.t 11), (.k (.d (.int .i64 0))), (.t 12)], none⟩,
 ⟨some 6, .mov (.t 13), none⟩]
def s120r3 : List SOper := [
 ⟨some 14, .mov (.t 0), none⟩,
 ⟨some 15, .nilCheck (.t 14), none⟩,
 ⟨some 16, .faddr 2 (.t 15), none⟩,
 ⟨some 17, .load none (.t 16), none⟩,
 ⟨some 18, .mov (.t 17), none⟩,
 ⟨some 19, .mov (.t 6), some (18, false)⟩,
 ⟨some 20, .mov (.t 0), some (18, false)⟩,
 ⟨some 21, .nilCheck (.t 20), some (18, false)⟩,
 ⟨some 22, .faddr 0 (.t 21), some (18, false)⟩,
 ⟨some 23, .load none (.t 22), some (18, false)⟩,
 ⟨some 24, .len (.t 23), some (18, false)⟩,
 ⟨some 25, .mov (.t 0), some (18, false)⟩,
 ⟨some 26, .nilCheck (.t 25), some (18, false)⟩,
 ⟨some 27, .faddr 1 (.t 26), some (18, false)⟩,
 ⟨some 28, .load none (.t 27), some (18, false)⟩,
 ⟨some 29, .bin .sub (.t 24) (.t 28), some (18, false)⟩,
 ⟨some 30, .bin .gtr (.t 19) (.t 29), some (18, false)⟩,
 ⟨some 31, .pick (.t 18) (.k (.d (.bool true))) (.t 30), none⟩]
def s120r4 : List SOper := [
 ⟨some 32, .mov (.t 0), none⟩,
 ⟨some 33, .mov (.t 5), none⟩,
 ⟨some 34, .call (.k (.d (.func (.func 178) [] []))) [(.t 32), (.t 33)], none⟩]
def s120r5 : List SOper := [
 ⟨some 4, .mov (.k (.d .nilsl)), none⟩]
def s120r6 : List SOper := [
 ⟨some 35, .mov (.t 0), none⟩,
 ⟨some 36, .nilCheck (.t 35), none⟩,
 ⟨some 37, .faddr 1 (.t 36), none⟩,
 ⟨some 38, .load none (.t 37), none⟩,
 ⟨some 39, .mov (.t 6), none⟩,
 ⟨some 40, .bin .add (.t 38) (.t 39), none⟩,
 ⟨some 41, .nilCheck (.t 35), none⟩,
 ⟨some 42, .faddr 1 (.t 41), none⟩,
 ⟨none, .store none (.t 42) (.t 40), none⟩]
def s120r7 : List SOper := [
 ⟨some 43, .buildSlice false 1 0 [(.int .u8 0)] [], none⟩,
 ⟨some 44, .mov (.t 0), none⟩,
 ⟨some 45, .nilCheck (.t 44), none⟩,
 ⟨some 46, .faddr 0 (.t 45), none⟩,
 ⟨some 47, .load none (.t 46), none⟩,
 ⟨some 48, .mov (.t 0), none⟩,
 ⟨some 49, .nilCheck (.t 48), none⟩,
 ⟨some 50, .faddr 1 (.t 49), none⟩,
 ⟨some 51, .load none (.t 50), none⟩,
 ⟨some 52, .mov (.t 6), none⟩,
 ⟨some 53, .bin .sub (.t 51) (.t 52), none⟩,
 ⟨some 54, .mov (.t 0), none⟩,
 ⟨some 55, .nilCheck (.t 54), none⟩,
 ⟨some 56, .faddr 1 (.t 55), none⟩,
 ⟨some 57, .load none (.t 56), none⟩,
 ⟨some 58, .slice 1 (.t 47) (some (.t 53)) (some (.t 57)) none, none⟩,
 ⟨some 59, .append false 1 1 (.t 43) (.t 58), none⟩,
 ⟨some 4, .mov (.t 59), none⟩]
def s120 : SCode := (.seq (.region s120r0 0 []) (.seq (.region s120r1 0 []) (.seq (.region s120r2 0 []) (.seq (.seq (.region s120r3 0 []) (.cond (.t 31) (.seq (.region s120r4 0 []) (.seq (.region s120r5 0 []) .ret)) .skip)) (.seq (.region s120r6 0 []) (.seq (.region s120r7 0 []) .ret))))))
theorem xiy : CodeIs s120.eq_1 := qc s120.eq_1
theorem q6x : RegIs s120r0.eq_1 := qa
theorem q6y : RegIs s120r1.eq_1 := qa
theorem q6z : RegIs s120r2.eq_1 := qa
theorem q60 : RegIs s120r3.eq_1 := qa
theorem q61 : RegIs s120r4.eq_1 := qa
theorem q62 : RegIs s120r5.eq_1 := qa
theorem q63 : RegIs s120r6.eq_1 := qa
theorem q64 : RegIs s120r7.eq_1 := qa
attribute [go_sem] q6x q6y q6z q60 q61 q62 q63 q64 xiy
theorem xem : FnIs Tryz.prog 120 Tryz.f120 [] news s120 [.tmp 4] 60 := qz follows Tryz.func120
def s118r0 : List SOper := [
 ⟨some 4, .mov (.k (.d (.str []))), none⟩]
def s118r1 : List SOper := [
 ⟨some 5, .mov (.t 0), none⟩,
 ⟨some 6, .mov (.t 1), none⟩,
 ⟨some 7, .call (.k (.d (.func (.func 120) [] []))) [(.t 5), (.t 6)], none⟩,
 ⟨some 8, .b2s (.t 7), none⟩,
 ⟨some 4, .mov (.t 8), none⟩]
def s118 : SCode := (.seq (.region s118r0 0 []) (.seq (.region s118r1 0 []) .ret))
theorem xiz : CodeIs s118.eq_1 := qc s118.eq_1
theorem q65 : RegIs s118r0.eq_1 := qa
theorem q66 : RegIs s118r1.eq_1 := qa
attribute [go_sem] q65 q66 xiz
theorem xg6 : FnIs Tryz.prog 118 Tryz.f118 [] news s118 [.tmp 4] 9 := qz follows Tryz.func118
def s80r0 : List SOper := [
 ⟨some 2, .mov (.k (.d (.int .i64 0))), none⟩]
def s80r1 : List SOper := [
 ⟨some 3, .mov (.t 0), none⟩,
 ⟨some 4, .nilCheck (.t 3), none⟩,
 ⟨some 5, .faddr 2 (.t 4), none⟩,
 ⟨some 6, .load none (.t 5), none⟩,
 ⟨some 7, .mov (.t 6), none⟩,
 ⟨some 8, .mov (.t 0), some (7, false)⟩,
 ⟨some 9, .nilCheck (.t 8), some (7, false)⟩,
 ⟨some 10, .faddr 1 (.t 9), some (7, false)⟩,
 ⟨some 11, .load none (.t 10), some (7, false)⟩,
 ⟨some 12, .mov (.t 0), some (7, false)⟩,
 ⟨some 13, .nilCheck (.t 12), some (7, false)⟩,
 ⟨some 14, .faddr 0 (.t 13), some (7, false)⟩,
 ⟨some 15, .load none (.t 14), some (7, false)⟩,
 ⟨some 16, .len (.t 15), some (7, false)⟩,
 ⟨some 17, .bin .neq (.t 11) (.t 16), some (7, false)⟩,
 ⟨some 18, .pick (.t 7) (.k (.d (.bool true))) (.t 17), none⟩]
def s80r2 : List SOper := [
 ⟨some 2, .mov (.k (.d (.int .i64 4))), none⟩]
def s80r3 : List SOper := [
 ⟨some 2, .mov (.k (.d (.int .i64 0))), none⟩]
def s80 : SCode := (.seq (.region s80r0 0 []) (.seq (.seq (.region s80r1 0 []) (.cond (.t 18) (.seq (.region s80r2 0 []) .ret) .skip)) (.seq (.region s80r3 0 []) .ret)))
theorem e80 : CodeIs s80.eq_1 := qc s80.eq_1
theorem xen : RegIs s80r0.eq_1 := qa
theorem xeo : RegIs s80r1.eq_1 := qa
theorem xep : RegIs s80r2.eq_1 := qa
theorem xeq : RegIs s80r3.eq_1 := qa
attribute [go_sem] xen xeo xep xeq e80
theorem F80 : FnIs Tryz.prog 80 Tryz.f80 [] news s80 [.tmp 2] 19 := qz follows Tryz.func80
end
theorem qdc (r : Rd) (p : Nat) : ACall Tryz.prog 178 [.d (.ptr 0 0), .d (.int .i64 (p : Nat))] [rdO r] (.tup []) [rdO ⟨r.b, p, true⟩] := by
 refine q6g.goT ?_
 try (refine ev1 @rdO.eq_1 ?_; try exact True.intro)
theorem qbf (r : Rd) (lo hi : Int) (hr : r.Ok) : ACall Tryz.prog 117 [.d (.ptr 0 0), .d (.int .i64 lo), .d (.int .i64 hi)] [rdO r] (.d (.int .i64 (rBoundedP lo hi r).1)) [rdO (rBoundedP lo hi r).2] := by
 have hc := qtu r hr
 have h1 := qqz r hr
 have h2 := ww lo hi r hr
 obtain ⟨b, pos, f⟩ := r
 refine q6q.go ?_
 cases f
 ·simp only [Bool.false_eq_true, if_false, dBounded] at h1 h2
  cases hd : dInt (b.drop pos) with
  | none =>
   rw [hd] at h1 h2
   simp only at h1 h2
   rw [h1] at hc
   rw [h2]
   simp only [rdO] at hc
   try (refine ev1 @rdO.eq_1 ?_; try exact True.intro)
   (repeat (with_reducible refine ob ?_)); refine clO [0] F79 (hc) ?_ (hfit := by first | exact ⟨qb, trivial⟩ | exact ⟨qb, qb, trivial⟩ | simp only [encOp, encEn, encStep, go_sem, Nat.reduceAdd, Nat.reduceMul, Nat.reduceSub, Nat.reduceEqDiff, Nat.reduceLT, Nat.reduceLeDiff, Nat.reduceBEq, reduceIte, reduceCtorEq, Int.reduceAdd, Int.reduceLT, Int.reduceLE, Int.reduceGT, Int.reduceGE, Int.reduceEq, Int.reduceNe, Int.reduceBEq, Int.reduceBNe, Int.reduceToNat, Int.reduceNeg])
   try (refine ev ?_; try exact True.intro)
   (repeat (with_reducible refine ob ?_)); refine wx ?_
   try (refine ev ?_; try exact True.intro)
  | some x =>
   obtain ⟨n, l⟩ := x
   rw [hd] at h1 h2
   simp only at h1 h2
   rw [h1] at hc
   simp only [rdO] at hc
   try (refine ev1 @rdO.eq_1 ?_; try exact True.intro)
   (repeat (with_reducible refine ob ?_)); refine clO [0] F79 (hc) ?_ (hfit := by first | exact ⟨qb, trivial⟩ | exact ⟨qb, qb, trivial⟩ | simp only [encOp, encEn, encStep, go_sem, Nat.reduceAdd, Nat.reduceMul, Nat.reduceSub, Nat.reduceEqDiff, Nat.reduceLT, Nat.reduceLeDiff, Nat.reduceBEq, reduceIte, reduceCtorEq, Int.reduceAdd, Int.reduceLT, Int.reduceLE, Int.reduceGT, Int.reduceGE, Int.reduceEq, Int.reduceNe, Int.reduceBEq, Int.reduceBNe, Int.reduceToNat, Int.reduceNeg])
   try (refine ev ?_; try exact True.intro)
   (repeat (with_reducible refine ob ?_)); refine no_ ?_
   try (refine ev ?_; try exact True.intro)
   have hb : ((decide (n < lo) || decide (n > hi)) = true) = (n < lo ∨ n > hi) := by simp
   refine ⟨fun h => by rw [h]; rfl, ?_⟩
   refine xf _ (fun h => ?_) (fun h => ?_)
   ·rw [hb] at h
    rw [if_pos h] at h2
    simp only at h2
    have hfl := qdc ⟨b, b.length - l.length, false⟩ pos
    simp only [rdO] at hfl
    rw [h2]
    try (refine ev ?_; try exact True.intro)
    (repeat (with_reducible refine ob ?_)); refine clO [0] q6g (hfl) ?_ (hfit := by first | exact ⟨qb, trivial⟩ | exact ⟨qb, qb, trivial⟩ | simp only [encOp, encEn, encStep, go_sem, Nat.reduceAdd, Nat.reduceMul, Nat.reduceSub, Nat.reduceEqDiff, Nat.reduceLT, Nat.reduceLeDiff, Nat.reduceBEq, reduceIte, reduceCtorEq, Int.reduceAdd, Int.reduceLT, Int.reduceLE, Int.reduceGT, Int.reduceGE, Int.reduceEq, Int.reduceNe, Int.reduceBEq, Int.reduceBNe, Int.reduceToNat, Int.reduceNeg])
    try (refine ev ?_; try exact True.intro)
   ·have h' : ¬ (n < lo ∨ n > hi) := by rw [← hb, h]; simp
    rw [if_neg h'] at h2
    simp only at h2
    rw [h2]
    try (refine ev ?_; try exact True.intro)
 ·simp only [if_true] at h1 h2
  rw [h1] at hc
  rw [h2]
  simp only [rdO] at hc
  try (refine ev1 @rdO.eq_1 ?_; try exact True.intro)
  (repeat (with_reducible refine ob ?_)); refine clO [0] F79 (hc) ?_ (hfit := by first | exact ⟨qb, trivial⟩ | exact ⟨qb, qb, trivial⟩ | simp only [encOp, encEn, encStep, go_sem, Nat.reduceAdd, Nat.reduceMul, Nat.reduceSub, Nat.reduceEqDiff, Nat.reduceLT, Nat.reduceLeDiff, Nat.reduceBEq, reduceIte, reduceCtorEq, Int.reduceAdd, Int.reduceLT, Int.reduceLE, Int.reduceGT, Int.reduceGE, Int.reduceEq, Int.reduceNe, Int.reduceBEq, Int.reduceBNe, Int.reduceToNat, Int.reduceNeg])
  try (refine ev ?_; try exact True.intro)
  (repeat (with_reducible refine ob ?_)); refine wx ?_
  try (refine ev ?_; try exact True.intro)
theorem qe3 (r : Rd) (most : Nat) (hr : r.Ok) (hm : most ≤ 1000000000) : ACall Tryz.prog 120 [.d (.ptr 0 0), .d (.int .i64 (most : Nat))] [rdO r] (.d (.sl 1 (byteRows (rBytesP most r).1))) [rdO (rBytesP most r).2] := by
 have hc := qbf r 0 most hr
 have h1 := ww 0 most r hr
 have h2 := zh most r hr
 obtain ⟨hln, hpos⟩ := hr
 obtain ⟨b, pos, f⟩ := r
 simp only at hln hpos
 refine xem.go ?_
 have hfl := fun q => qdc ⟨b, q, true⟩ pos
 have hfl2 := fun q => qdc ⟨b, q, false⟩ pos
 simp only [rdO] at hfl hfl2
 cases f
 ·simp only [Bool.false_eq_true, if_false, dBytes] at h1 h2
  cases hd : dBounded 0 most (b.drop pos) with
  | none =>
   rw [hd] at h1 h2
   simp only at h1 h2
   rw [h1] at hc
   rw [h2]
   simp only [rdO] at hc
   try (refine ev1 @rdO.eq_1 ?_; try exact True.intro)
   (repeat (with_reducible refine ob ?_)); refine clO [0] q6q (hc) ?_ (hfit := by first | exact ⟨qb, trivial⟩ | exact ⟨qb, qb, trivial⟩ | simp only [encOp, encEn, encStep, go_sem, Nat.reduceAdd, Nat.reduceMul, Nat.reduceSub, Nat.reduceEqDiff, Nat.reduceLT, Nat.reduceLeDiff, Nat.reduceBEq, reduceIte, reduceCtorEq, Int.reduceAdd, Int.reduceLT, Int.reduceLE, Int.reduceGT, Int.reduceGE, Int.reduceEq, Int.reduceNe, Int.reduceBEq, Int.reduceBNe, Int.reduceToNat, Int.reduceNeg])
   try (refine ev ?_; try exact True.intro)
   (repeat (with_reducible refine ob ?_)); refine wx ?_
   try (refine ev ?_; try exact True.intro)
   (repeat (with_reducible refine ob ?_)); refine clO [0] q6g ((hfl pos)) ?_ (hfit := by first | exact ⟨qb, trivial⟩ | exact ⟨qb, qb, trivial⟩ | simp only [encOp, encEn, encStep, go_sem, Nat.reduceAdd, Nat.reduceMul, Nat.reduceSub, Nat.reduceEqDiff, Nat.reduceLT, Nat.reduceLeDiff, Nat.reduceBEq, reduceIte, reduceCtorEq, Int.reduceAdd, Int.reduceLT, Int.reduceLE, Int.reduceGT, Int.reduceGE, Int.reduceEq, Int.reduceNe, Int.reduceBEq, Int.reduceBNe, Int.reduceToNat, Int.reduceNeg])
   try (refine ev1 @qj ?_; try exact True.intro)
  | some x =>
   obtain ⟨n, l⟩ := x
   obtain ⟨p, hp⟩ := jc _ _ _ _ _ hd
   obtain ⟨t1, t2⟩ := kg hpos hp
   have hn0 : 0 ≤ n ∧ n ≤ most := by
    unfold dBounded at hd
    split at hd
    ·split at hd
     ·cases hd
     ·cases hd; omega
    ·cases hd
   rw [hd] at h1 h2
   simp only at h1 h2
   rw [h1] at hc
   obtain ⟨m, rfl⟩ : ∃ m : Nat, n = m := ⟨n.toNat, by omega⟩
   simp only [Int.toNat_natCast] at h2
   simp only [rdO] at hc
   have e1 : IntKind.i64.wrap ((b.length : Int) - ((b.length - l.length : Nat) : Int)) = ((l.length : Nat) : Int) := by rw [qt (by unfold I64; omega)]; omega
   try (refine ev1 @rdO.eq_1 ?_; try exact True.intro)
   (repeat (with_reducible refine ob ?_)); refine clO [0] q6q (hc) ?_ (hfit := by first | exact ⟨qb, trivial⟩ | exact ⟨qb, qb, trivial⟩ | simp only [encOp, encEn, encStep, go_sem, Nat.reduceAdd, Nat.reduceMul, Nat.reduceSub, Nat.reduceEqDiff, Nat.reduceLT, Nat.reduceLeDiff, Nat.reduceBEq, reduceIte, reduceCtorEq, Int.reduceAdd, Int.reduceLT, Int.reduceLE, Int.reduceGT, Int.reduceGE, Int.reduceEq, Int.reduceNe, Int.reduceBEq, Int.reduceBNe, Int.reduceToNat, Int.reduceNeg])
   try (refine ev1 @e1 ?_; try exact True.intro)
   refine xf _ (fun h => ?_) (fun h => ?_)
   ·rw [if_pos (show l.length < m by simp at h; omega)] at h2
    simp only at h2
    rw [h2]
    try (refine ev ?_; try exact True.intro)
    (repeat (with_reducible refine ob ?_)); refine clO [0] q6g ((hfl2 (b.length - l.length))) ?_ (hfit := by first | exact ⟨qb, trivial⟩ | exact ⟨qb, qb, trivial⟩ | simp only [encOp, encEn, encStep, go_sem, Nat.reduceAdd, Nat.reduceMul, Nat.reduceSub, Nat.reduceEqDiff, Nat.reduceLT, Nat.reduceLeDiff, Nat.reduceBEq, reduceIte, reduceCtorEq, Int.reduceAdd, Int.reduceLT, Int.reduceLE, Int.reduceGT, Int.reduceGE, Int.reduceEq, Int.reduceNe, Int.reduceBEq, Int.reduceBNe, Int.reduceToNat, Int.reduceNeg])
    try (refine ev1 @qj ?_; try exact True.intro)
   ·have hle : m ≤ l.length := by simp at h; omega
    rw [if_neg (show ¬ l.length < m by omega)] at h2
    simp only at h2
    rw [h2]
    generalize hq : b.length - l.length = q at t1 e1
    have e2 : IntKind.i64.wrap ((q : Int) + (m : Int)) = ((q + m : Nat) : Int) := by rw [qt (by unfold I64; omega)]; omega
    have e3 : IntKind.i64.wrap ((q : Int) + (m : Int) - (m : Int)) = ((q : Nat) : Int) := by rw [qt (by unfold I64; omega)]; omega
    have e5 : ((q : Int) + (m : Int)).toNat = q + m := by omega
    have e4 : q + m - q = m := by omega
    have e6 : b.length - (l.drop m).length = q + m := by rw [List.length_drop]; omega
    try (refine ev3 @hq @e2 @e6 ?_; try exact True.intro)
    try (refine ev1 @e3 ?_; try exact True.intro)
    rw [e5, e4, qw, qp, t1, qx]
    have hlm : (l.take m).length ≤ 1000000000 := by rw [List.length_take]; omega
    exact ⟨by omega, by omega, by simp only [go_sem]⟩
 ·simp only [if_true] at h1 h2
  rw [h1] at hc
  rw [h2]
  simp only [rdO] at hc
  try (refine ev1 @rdO.eq_1 ?_; try exact True.intro)
  (repeat (with_reducible refine ob ?_)); refine clO [0] q6q (hc) ?_ (hfit := by first | exact ⟨qb, trivial⟩ | exact ⟨qb, qb, trivial⟩ | simp only [encOp, encEn, encStep, go_sem, Nat.reduceAdd, Nat.reduceMul, Nat.reduceSub, Nat.reduceEqDiff, Nat.reduceLT, Nat.reduceLeDiff, Nat.reduceBEq, reduceIte, reduceCtorEq, Int.reduceAdd, Int.reduceLT, Int.reduceLE, Int.reduceGT, Int.reduceGE, Int.reduceEq, Int.reduceNe, Int.reduceBEq, Int.reduceBNe, Int.reduceToNat, Int.reduceNeg])
  try (refine ev ?_; try exact True.intro)
  (repeat (with_reducible refine ob ?_)); refine wx ?_
  try (refine ev ?_; try exact True.intro)
  (repeat (with_reducible refine ob ?_)); refine clO [0] q6g ((hfl pos)) ?_ (hfit := by first | exact ⟨qb, trivial⟩ | exact ⟨qb, qb, trivial⟩ | simp only [encOp, encEn, encStep, go_sem, Nat.reduceAdd, Nat.reduceMul, Nat.reduceSub, Nat.reduceEqDiff, Nat.reduceLT, Nat.reduceLeDiff, Nat.reduceBEq, reduceIte, reduceCtorEq, Int.reduceAdd, Int.reduceLT, Int.reduceLE, Int.reduceGT, Int.reduceGE, Int.reduceEq, Int.reduceNe, Int.reduceBEq, Int.reduceBNe, Int.reduceToNat, Int.reduceNeg])
  try (refine ev1 @qj ?_; try exact True.intro)
theorem qq1 (r : Rd) (most : Nat) (hr : r.Ok) (hm : most ≤ 1000000000) : ACall Tryz.prog 118 [.d (.ptr 0 0), .d (.int .i64 (most : Nat))] [rdO r] (.d (.str (rBytesP most r).1)) [rdO (rBytesP most r).2] := by
 have hc := qe3 r most hr hm
 simp only [rdO] at hc
 refine xg6.go ?_
 try (refine ev1 @rdO.eq_1 ?_; try exact True.intro)
 (repeat (with_reducible refine ob ?_)); refine clO [0] xem (hc) ?_ (hfit := by first | exact ⟨qb, trivial⟩ | exact ⟨qb, qb, trivial⟩ | simp only [encOp, encEn, encStep, go_sem, Nat.reduceAdd, Nat.reduceMul, Nat.reduceSub, Nat.reduceEqDiff, Nat.reduceLT, Nat.reduceLeDiff, Nat.reduceBEq, reduceIte, reduceCtorEq, Int.reduceAdd, Int.reduceLT, Int.reduceLE, Int.reduceGT, Int.reduceGE, Int.reduceEq, Int.reduceNe, Int.reduceBEq, Int.reduceBNe, Int.reduceToNat, Int.reduceNeg])
 try (refine ev ?_; try exact True.intro)
theorem qq2 (r : Rd) (hr : r.Ok) : ACall Tryz.prog 119 [.d (.ptr 0 0)] [rdO r] (.d (.bool (rBoolP r).1)) [rdO (rBoolP r).2] := by
 have h2 := y8 r hr
 obtain ⟨hln, hpos⟩ := hr
 obtain ⟨b, pos, f⟩ := r
 simp only at hln hpos
 refine xg5.go ?_
 cases f
 ·simp only [Bool.false_eq_true, if_false] at h2
  by_cases hlt : pos < b.length
  ·have hg : decide (((pos : Nat) : Int) ≥ ((b.length : Nat) : Int)) = false := by simp; omega
   have hw : IntKind.i64.wrap ((pos : Int) + 1) = ((pos + 1 : Nat) : Int) := by rw [qt (by unfold I64; omega)]; omega
   have hw2 : IntKind.i64.wrap ((pos : Int) + 1 - 1) = ((pos : Nat) : Int) := by rw [qt (by unfold I64; omega)]; omega
   rw [List.drop_eq_getElem_cons hlt, dBool] at h2
   try (refine ev3 @rdO.eq_1 @hg (ql b hlt) ?_; try exact True.intro)
   (repeat (with_reducible refine ob ?_))
   refine xf _ (fun h => ?_) (fun h => ?_)
   ·rw [if_pos (show b[pos].toNat > 1 by simp at h; omega)] at h2
    simp only at h2
    rw [h2]
    try (refine ev ?_; try exact True.intro)
   ·rw [if_neg (show ¬ b[pos].toNat > 1 by simp at h; omega)] at h2
    simp only [List.length_drop] at h2
    rw [show b.length - (b.length - (pos + 1)) = pos + 1 by omega] at h2
    rw [h2]
    try (refine ev1 @hw ?_; try exact True.intro)
    try (refine ev2 @hw2 (ql b hlt) ?_; try exact True.intro)
    (repeat (with_reducible refine ob ?_))
    try (refine ev1 @qud ?_; try exact True.intro)
  ·have hg : decide (((pos : Nat) : Int) ≥ ((b.length : Nat) : Int)) = true := by simp; omega
   have hgd : (byteRows b).getD pos [] = [] := by rw [List.getD_eq_getElem?_getD, List.getElem?_eq_none (by rw [qx]; omega)]; rfl
   rw [List.drop_of_length_le (by omega), dBool] at h2
   simp only at h2
   rw [h2]
   try (refine ev3 @rdO.eq_1 @hg @hgd ?_; try exact True.intro)
   (repeat (with_reducible refine ob ?_)); refine wx ?_
   try (refine ev ?_; try exact True.intro)
 ·simp only [if_true] at h2
  rw [h2]
  try (refine ev1 @rdO.eq_1 ?_; try exact True.intro)
  by_cases hlt : pos < b.length
  ·try (refine ev1 (ql b hlt) ?_; try exact True.intro)
   (repeat (with_reducible refine ob ?_)); refine wx ?_
   try (refine ev ?_; try exact True.intro)
  ·have hgd : (byteRows b).getD pos [] = [] := by rw [List.getD_eq_getElem?_getD, List.getElem?_eq_none (by rw [qx]; omega)]; rfl
   try (refine ev1 @hgd ?_; try exact True.intro)
   (repeat (with_reducible refine ob ?_)); refine wx ?_
   try (refine ev ?_; try exact True.intro)
theorem qtv (r : Rd) (hr : r.Ok) : ACall Tryz.prog 80 [.d (.ptr 0 0)] [rdO r] (.d (.int .i64 (rEnd r))) [rdO r] := by
 obtain ⟨hln, hpos⟩ := hr
 obtain ⟨b, pos, f⟩ := r
 simp only at hln hpos
 refine F80.go ?_
 cases f
 ·try (refine ev1 @rdO.eq_1 ?_; try exact True.intro)
  refine xf _ (fun h => ?_) (fun h => ?_)
  ·have hx : rEnd ⟨b, pos, false⟩ = 4 := by unfold rEnd; rw [if_pos]; simp at h ⊢; omega
   try (refine ev1 @hx ?_; try exact True.intro)
  ·have hx : rEnd ⟨b, pos, false⟩ = 0 := by unfold rEnd; rw [if_neg]; simp at h ⊢; omega
   try (refine ev1 @hx ?_; try exact True.intro)
 ·try (refine ev1 @rdO.eq_1 ?_; try exact True.intro)
  (repeat (with_reducible refine ob ?_)); refine wx ?_
  try (refine ev1 @rEnd.eq_1 ?_; try exact True.intro)
noncomputable section
set_option maxRecDepth 100000
def s61r0 : List SOper := [
 ⟨some 2, .mov (.k (.d .nilsl)), none⟩,
 ⟨some 3, .mov (.k (.d (.int .i64 0))), none⟩]
def s61r1 : List SOper := [
 ⟨some 11, .buildSlice false 1 0 [(.int .u8 0)] [], none⟩,
 ⟨some 12, .mov (.t 0), none⟩,
 ⟨some 13, .append false 1 1 (.t 11) (.t 12), none⟩,
 ⟨some 14, .build [.nilsl, (.int .i64 0), (.bool false)] [(0, 1, (.t 13))], none⟩,
 ⟨some 15, .box 1 (.t 14), none⟩,
 ⟨some 4, .mov (.t 15), none⟩]
def s61r2 : List SOper := [
 ⟨some 16, .mov (.t 4), none⟩,
 ⟨some 17, .call (.k (.d (.func (.func 117) [] []))) [(.t 16), (.k (.d (.int .i64 1))), (.k (.d (.int .i64 20)))], none⟩,
 ⟨some 5, .mov (.t 17), none⟩]
def s61r3 : List SOper := [
 ⟨some 6, .mov (.k (.d .nilsl)), none⟩]
def s61r4 : List SOper := [
 ⟨some 7, .mov (.k (.d (.int .i64 0))), none⟩]
def s61r5 : List SOper := [
 ⟨some 18, .mov (.t 7), none⟩,
 ⟨some 19, .mov (.t 5), none⟩,
 ⟨some 20, .bin .lss (.t 18) (.t 19), none⟩]
def s61r6 : List SOper := [
 ⟨some 23, .mov (.t 4), none⟩,
 ⟨some 24, .call (.k (.d (.func (.func 118) [] []))) [(.t 23), (.k (.d (.int .i64 40)))], none⟩,
 ⟨some 25, .mov (.t 4), none⟩,
 ⟨some 26, .call (.k (.d (.func (.func 119) [] []))) [(.t 25)], none⟩,
 ⟨some 27, .build [(.str []), (.bool false), .nilsl] [(0, 1, (.t 24)), (1, 1, (.t 26))], none⟩,
 ⟨some 8, .alloc 1 [(.d (.str [])), (.d (.bool false)), (.d .nilsl)], none⟩,
 ⟨none, .store (some 3) (.t 8) (.t 27), none⟩]
def s61r7 : List SOper := [
 ⟨some 28, .mov (.t 4), none⟩,
 ⟨some 29, .call (.k (.d (.func (.func 120) [] []))) [(.t 28), (.k (.d (.int .i64 900)))], none⟩,
 ⟨some 30, .faddr 2 (.t 8), none⟩,
 ⟨none, .store none (.t 30) (.t 29), none⟩]
def s61r8 : List SOper := [
 ⟨some 31, .mov (.t 6), none⟩,
 ⟨some 32, .load (some 3) (.t 8), none⟩,
 ⟨some 33, .buildSlice false 3 1 [(.str []), (.bool false), .nilsl] [(0, 3, (.t 32))], none⟩,
 ⟨some 34, .append false 3 48 (.t 31) (.t 33), none⟩,
 ⟨some 6, .mov (.t 34), none⟩]
def s61r9 : List SOper := [
 ⟨some 21, .mov (.t 7), none⟩,
 ⟨some 22, .bin .add (.t 21) (.k (.d (.int .i64 1))), none⟩,
 ⟨some 7, .mov (.t 22), none⟩]
def s61l10 : SCode := (.seq (.seq (.region s61r5 0 []) (.cond (.t 20) .skip (.exit 0))) (.seq (.block 1 (.seq (.region s61r6 1 []) (.seq (.region s61r7 0 []) (.region s61r8 0 [])))) (.region s61r9 0 [])))
theorem q67 : CodeIs s61l10.eq_1 := qc s61l10.eq_1
def s61r11 : List SOper := [
 ⟨some 35, .mov (.t 4), none⟩,
 ⟨some 36, .call (.k (.d (.func (.func 80) [] []))) [(.t 35)], none⟩,
 ⟨some 37, .bin .neq (.t 36) (.k (.d (.int .i64 0))), none⟩]
def s61r12 : List SOper := [
 ⟨some 2, .mov (.k (.d .nilsl)), none⟩,
 ⟨some 3, .mov (.k (.d (.int .i64 4))), none⟩]
def s61r13 : List SOper := [
 ⟨some 39, .mov (.t 6), none⟩,
 ⟨some 40, .call (.k (.d (.func (.func 73) [] []))) [(.t 39)], none⟩,
 ⟨some 38, .mov (.t 40), none⟩,
 ⟨some 41, .extract 0 (.t 38), none⟩,
 ⟨some 42, .extract 1 (.t 38), none⟩,
 ⟨some 9, .mov (.t 41), none⟩,
 ⟨some 10, .mov (.t 42), none⟩]
def s61r14 : List SOper := [
 ⟨some 43, .mov (.t 10), none⟩,
 ⟨some 44, .bin .neq (.t 43) (.k (.d (.int .i64 0))), none⟩]
def s61r15 : List SOper := [
 ⟨some 2, .mov (.k (.d .nilsl)), none⟩,
 ⟨some 3, .mov (.k (.d (.int .i64 4))), none⟩]
def s61r16 : List SOper := [
 ⟨some 45, .mov (.t 6), none⟩,
 ⟨some 2, .mov (.t 45), none⟩,
 ⟨some 3, .mov (.k (.d (.int .i64 0))), none⟩]
def s61 : SCode := (.seq (.region s61r0 0 []) (.seq (.region s61r1 1 []) (.seq (.region s61r2 0 []) (.seq (.region s61r3 0 []) (.seq (.seq (.region s61r4 0 []) (.block 0 (.loop s61l10))) (.seq (.seq (.region s61r11 0 []) (.cond (.t 37) (.seq (.region s61r12 0 []) .ret) .skip)) (.seq (.seq (.region s61r13 0 []) (.seq (.region s61r14 0 []) (.cond (.t 44) (.seq (.region s61r15 0 []) .ret) .skip))) (.seq (.region s61r16 0 []) .ret))))))))
theorem e61 : CodeIs s61.eq_1 := qc s61.eq_1
theorem xer : RegIs s61r0.eq_1 := qa
theorem xes : RegIs s61r1.eq_1 := qa
theorem xet : RegIs s61r2.eq_1 := qa
theorem xeu : RegIs s61r3.eq_1 := qa
theorem xev : RegIs s61r4.eq_1 := qa
theorem xew : RegIs s61r5.eq_1 := qa
theorem xex : RegIs s61r6.eq_1 := qa
theorem xey : RegIs s61r7.eq_1 := qa
theorem xez : RegIs s61r8.eq_1 := qa
theorem xe0 : RegIs s61r9.eq_1 := qa
theorem q68 : RegIs s61r11.eq_1 := qa
theorem q69 : RegIs s61r12.eq_1 := qa
theorem q7a : RegIs s61r13.eq_1 := qa
theorem q7b : RegIs s61r14.eq_1 := qa
theorem q7c : RegIs s61r15.eq_1 := qa
theorem q7d : RegIs s61r16.eq_1 := qa
attribute [go_sem] xer xes xet xeu xev xew xex xey xez xe0 q67 q68 q69 q7a q7b q7c q7d e61
theorem F61 : FnIs Tryz.prog 61 Tryz.f61 [] news s61 [.tmp 2, .tmp 3] 46 := qz follows Tryz.func61
end
def Srdec (n : Nat) (r : Rd) (i : { i : Nat // i ≤ n }) : St :=
 ⟨[(4, true, .d (.ptr 0 0)), (5, true, .d (.int .i64 (n : Nat))), (6, true, .own 0 3 ((rOpsA i.val r).1.map encOp)), (7, true, .d (.int .i64 (i.val : Nat)))], [rdO (rOpsA i.val r).2], [0], 1⟩
set_option maxRecDepth 10000 in
theorem qbg (b : List UInt8) (hb : b.length ≤ 1000000000) : ACall Tryz.prog 61 [.d (.sl 1 (byteRows b))] [] (.tup [.d (.sl 3 ((sDecode b).1.map encOp)), .d (.int .i64 (sDecode b).2)]) [] := by
 have hr0 : (⟨b, 0, false⟩ : Rd).Ok := ⟨hb, Nat.zero_le _⟩
 have hbd := qbf ⟨b, 0, false⟩ 1 20 hr0
 have hin := qbe ⟨b, 0, false⟩ 1 20
 have hinv := (y6 hr0 1 20).1
 unfold sDecode decRd
 generalize rBoundedP 1 20 ⟨b, 0, false⟩ = x at hbd hin hinv ⊢
 obtain ⟨n, r⟩ := x
 simp only at hin hinv
 have hn0 : n = ((n.toNat : Nat) : Int) := by omega
 generalize n.toNat = m at hn0
 subst hn0
 simp only [rdO, Int.ofNat_zero] at hbd
 refine F61.goT ?_
 try (refine ev ?_; try exact True.intro)
 (repeat (with_reducible refine ob ?_))
 (repeat (with_reducible refine ob ?_)); refine clO [0] q6q (hbd) ?_ (hfit := by first | exact ⟨qb, trivial⟩ | exact ⟨qb, qb, trivial⟩ | simp only [encOp, encEn, encStep, go_sem, Nat.reduceAdd, Nat.reduceMul, Nat.reduceSub, Nat.reduceEqDiff, Nat.reduceLT, Nat.reduceLeDiff, Nat.reduceBEq, reduceIte, reduceCtorEq, Int.reduceAdd, Int.reduceLT, Int.reduceLE, Int.reduceGT, Int.reduceGE, Int.reduceEq, Int.reduceNe, Int.reduceBEq, Int.reduceBNe, Int.reduceToNat, Int.reduceNeg])
 try (refine ev ?_; try exact True.intro)
 refine qm (Srdec m r) (fun i => m - i.val) ⟨0, Nat.zero_le _⟩ ?_ (fun i => ?_)
 ·try simp only [Srdec, rdO, rOpsA, List.map_nil, Int.ofNat_zero, go_sem, Nat.reduceAdd, Nat.reduceMul, Nat.reduceSub, Nat.reduceEqDiff, Nat.reduceLT, Nat.reduceLeDiff, Nat.reduceBEq, reduceIte, reduceCtorEq, Int.reduceAdd, Int.reduceLT, Int.reduceLE, Int.reduceGT, Int.reduceGE, Int.reduceEq, Int.reduceNe, Int.reduceBEq, Int.reduceBNe, Int.reduceToNat, Int.reduceNeg]
 obtain ⟨i, hi⟩ := i
 have hri := y7 hinv i
 try (refine ev2 @Srdec.eq_1 @rdO.eq_1 ?_; try exact True.intro)
 (repeat (with_reducible refine ob ?_)); refine xf _ (fun h => ?_) (fun h => ?_)
 ·have hil : i < m := by simp at h; omega
  have hT := qq1 (rOpsA i r).2 40 hri.1 (by decide)
  have hiT := ky hri.1 40
  have hB := qq2 _ hiT.1
  have hiB := qat hiT.1
  have hV := qe3 _ 900 hiB.1 (by decide)
  simp only [rdO] at hT hB hV
  try (refine ev ?_; try exact True.intro)
  (repeat (with_reducible refine ob ?_)); refine clO [0] xg6 (hT) ?_ (hfit := by first | exact ⟨qb, trivial⟩ | exact ⟨qb, qb, trivial⟩ | simp only [encOp, encEn, encStep, go_sem, Nat.reduceAdd, Nat.reduceMul, Nat.reduceSub, Nat.reduceEqDiff, Nat.reduceLT, Nat.reduceLeDiff, Nat.reduceBEq, reduceIte, reduceCtorEq, Int.reduceAdd, Int.reduceLT, Int.reduceLE, Int.reduceGT, Int.reduceGE, Int.reduceEq, Int.reduceNe, Int.reduceBEq, Int.reduceBNe, Int.reduceToNat, Int.reduceNeg])
  try (refine ev ?_; try exact True.intro)
  (repeat (with_reducible refine ob ?_)); refine clO [0] xg5 (hB) ?_ (hfit := by first | exact ⟨qb, trivial⟩ | exact ⟨qb, qb, trivial⟩ | simp only [encOp, encEn, encStep, go_sem, Nat.reduceAdd, Nat.reduceMul, Nat.reduceSub, Nat.reduceEqDiff, Nat.reduceLT, Nat.reduceLeDiff, Nat.reduceBEq, reduceIte, reduceCtorEq, Int.reduceAdd, Int.reduceLT, Int.reduceLE, Int.reduceGT, Int.reduceGE, Int.reduceEq, Int.reduceNe, Int.reduceBEq, Int.reduceBNe, Int.reduceToNat, Int.reduceNeg])
  try (refine ev ?_; try exact True.intro)
  (repeat (with_reducible refine ob ?_)); refine clO [0] xem (hV) ?_ (hfit := by first | exact ⟨qb, trivial⟩ | exact ⟨qb, qb, trivial⟩ | simp only [encOp, encEn, encStep, go_sem, Nat.reduceAdd, Nat.reduceMul, Nat.reduceSub, Nat.reduceEqDiff, Nat.reduceLT, Nat.reduceLeDiff, Nat.reduceBEq, reduceIte, reduceCtorEq, Int.reduceAdd, Int.reduceLT, Int.reduceLE, Int.reduceGT, Int.reduceGE, Int.reduceEq, Int.reduceNe, Int.reduceBEq, Int.reduceBNe, Int.reduceToNat, Int.reduceNeg])
  try (refine ev ?_; try exact True.intro)
  (repeat (with_reducible refine ob ?_))
  refine ⟨⟨i + 1, hil⟩, ?_, by dsimp only; omega⟩
  try simp only [Srdec, rdO, rOpsA, rOp, List.map_append, List.map_cons, List.map_nil, encOp, qk (show i < 9223372036854775807 by omega), go_sem, Nat.reduceAdd, Nat.reduceMul, Nat.reduceSub, Nat.reduceEqDiff, Nat.reduceLT, Nat.reduceLeDiff, Nat.reduceBEq, reduceIte, reduceCtorEq, Int.reduceAdd, Int.reduceLT, Int.reduceLE, Int.reduceGT, Int.reduceGE, Int.reduceEq, Int.reduceNe, Int.reduceBEq, Int.reduceBNe, Int.reduceToNat, Int.reduceNeg]
 ·have hil : i = m := by simp at h; omega
  subst hil
  have hE := qtv (rOpsA i r).2 hri.1
  simp only [rdO] at hE
  try (refine ev ?_; try exact True.intro)
  (repeat (with_reducible refine ob ?_)); refine clO [0] F80 (hE) ?_ (hfit := by first | exact ⟨qb, trivial⟩ | exact ⟨qb, qb, trivial⟩ | simp only [encOp, encEn, encStep, go_sem, Nat.reduceAdd, Nat.reduceMul, Nat.reduceSub, Nat.reduceEqDiff, Nat.reduceLT, Nat.reduceLeDiff, Nat.reduceBEq, reduceIte, reduceCtorEq, Int.reduceAdd, Int.reduceLT, Int.reduceLE, Int.reduceGT, Int.reduceGE, Int.reduceEq, Int.reduceNe, Int.reduceBEq, Int.reduceBNe, Int.reduceToNat, Int.reduceNeg])
  try (refine ev ?_; try exact True.intro)
  refine xf _ (fun h => ?_) (fun h => ?_)
  ·rw [if_pos (show rEnd (rOpsA i r).2 ≠ 0 by simpa using h)]
   try (refine ev ?_; try exact True.intro)
  ·rw [if_neg (show ¬ rEnd (rOpsA i r).2 ≠ 0 by simpa using h)]
   try (refine ev ?_; try exact True.intro)
   (repeat (with_reducible refine ob ?_)); first | refine cl F73 (qbd (rOpsA i r).1 (by omega)) ?_ | refine clF F73 (qbd (rOpsA i r).1 (by omega)) (fun _ => by simp only [encOp, encEn, encStep, go_sem, Nat.reduceAdd, Nat.reduceMul, Nat.reduceSub, Nat.reduceEqDiff, Nat.reduceLT, Nat.reduceLeDiff, Nat.reduceBEq, reduceIte, reduceCtorEq, Int.reduceAdd, Int.reduceLT, Int.reduceLE, Int.reduceGT, Int.reduceGE, Int.reduceEq, Int.reduceNe, Int.reduceBEq, Int.reduceBNe, Int.reduceToNat, Int.reduceNeg]) ?_
   try (refine ev ?_; try exact True.intro)
   refine xf _ (fun h => ?_) (fun h => ?_)
   ·rw [if_pos (show (sEncode (rOpsA i r).1).2 ≠ 0 by simpa using h)]
    try (refine ev ?_; try exact True.intro)
   ·rw [if_neg (show ¬ (sEncode (rOpsA i r).1).2 ≠ 0 by simpa using h)]
    try (refine ev ?_; try exact True.intro)
end Go.Proofs.YtinnaedmdoengaaGreat
namespace Go.Proofs.YtinnaedmdoengaaGreat
open Go.Abs
set_option linter.unusedSimpArgs false
set_option linter.unusedVariables false
theorem q7e (v : Nat) : zz (unz v) = v := by
 unfold zz unz
 split <;> split <;> omega
theorem q7f (n : Int) : unz (zz n) = n := by
 unfold zz unz
 split <;> split <;> omega
theorem toNat_ofNat {n : Nat} (h : n < 256) : (UInt8.ofNat n).toNat = n := by simp [UInt8.toNat_ofNat]; omega
theorem q7g (k : Nat) : ∀ (j u v : Nat) (l : List UInt8), j + (k + 1) = 10 → v * 128 ^ j < 18446744073709551616 → (v = 0 → j = 0) → dG (k + 1) j u (vbytes v ++ l) = some (unz (u + v * 128 ^ j), l) := by
 have small : ∀ (k j u v : Nat) (l : List UInt8), v < 128 → v * 128 ^ j < 18446744073709551616 → (v = 0 → j = 0) → dG (k + 1) j u (vbytes v ++ l) = some (unz (u + v * 128 ^ j), l) := by
  intro k j u v l hv hb h0
  rw [jq hv, List.singleton_append, dG, toNat_ofNat (by omega), if_pos hv, if_neg]
  simp only [Bool.or_eq_true, Bool.and_eq_true, beq_iff_eq, decide_eq_true_eq, not_or, not_and]
  refine ⟨fun h => by have := h0 h; omega, fun h => ?_⟩
  subst h
  have e : (128 : Nat) ^ 9 = 9223372036854775808 := by decide
  rw [e] at hb; omega
 induction k with
 | zero =>
  intro j u v l hj hb h0
  refine small 0 j u v l ?_ hb h0
  have : j = 9 := by omega
  subst this
  have e : (128 : Nat) ^ 9 = 9223372036854775808 := by decide
  rw [e] at hb; omega
 | succ k ih =>
  intro j u v l hj hb h0
  by_cases hv : v < 128
  ·exact small _ j u v l hv hb h0
  ·have hm : v % 128 + 128 < 256 := by omega
   rw [jp hv, List.cons_append, dG, toNat_ofNat hm, if_neg (by omega)]
   have e1 : (v % 128 + 128) % 128 = v % 128 := by omega
   have e2 : v % 128 * 128 ^ j + v / 128 * 128 ^ (j + 1) = v * 128 ^ j := by
    rw [Nat.pow_succ, Nat.mul_comm (128 ^ j) 128, ← Nat.mul_assoc, ← Nat.add_mul]
    congr 1; omega
   have hle : v / 128 * 128 ^ (j + 1) ≤ v * 128 ^ j := by omega
   rw [e1, ih (j + 1) _ (v / 128) l (by omega) (by omega) (by omega)]
   rw [Nat.add_assoc, e2]
theorem ql1 {n : Int} (hn : I64 n) (l : List UInt8) : dInt (wInt n ++ l) = some (n, l) := by
 have := q7g 9 0 0 (zz n) l rfl (by rw [Nat.pow_zero, Nat.mul_one]; exact qs7 hn) (fun _ => rfl)
 rw [Nat.pow_zero, Nat.mul_one, Nat.zero_add, q7f] at this
 exact this
theorem quf : ∀ (k j u : Nat) {l0 : List UInt8} {x : Int} {l : List UInt8}, j + k = 10 → dG k j u l0 = some (x, l) →
  ∃ v, x = unz (u + v * 128 ^ j) ∧ l0 = vbytes v ++ l ∧ (v = 0 → j = 0) ∧ v * 128 ^ j < 18446744073709551616
 | 0, j, u, l0, x, l, hj, h => by simp [dG] at h
 | k + 1, j, u, [], x, l, hj, h => by simp [dG] at h
 | k + 1, j, u, c :: l0, x, l, hj, h => by
  rw [dG] at h
  have hlt := zf c
  split at h
  ·rename_i hc
   split at h
   ·cases h
   ·rename_i hb
    cases h
    simp only [Bool.or_eq_true, Bool.and_eq_true, beq_iff_eq, decide_eq_true_eq, not_or, not_and] at hb
    refine ⟨c.toNat, rfl, ?_, fun h => by have := hb.1 h; omega, ?_⟩
    ·rw [jq hc, List.singleton_append]
     congr 1
     exact (UInt8.ofNat_toNat).symm
    ·rcases Nat.lt_or_ge j 9 with h9 | h9
     ·have hp := vr (j := j) (by omega)
      rw [Nat.pow_succ] at hp
      have : c.toNat * 128 ^ j ≤ 127 * 128 ^ j := Nat.mul_le_mul_right _ (by omega)
      omega
     ·have : j = 9 := by omega
      subst this
      have := hb.2 rfl
      have e : (128 : Nat) ^ 9 = 9223372036854775808 := by decide
      rw [e]; omega
  ·rename_i hc
   obtain ⟨v, h1, h2, h3, h4⟩ := quf k (j + 1) _ (by omega) h
   have e2 : c.toNat % 128 * 128 ^ j + v * 128 ^ (j + 1) = (v * 128 + c.toNat % 128) * 128 ^ j := by
    rw [Nat.pow_succ, Nat.mul_comm (128 ^ j) 128, ← Nat.mul_assoc, ← Nat.add_mul, Nat.add_comm]
   have hv : v ≠ 0 := fun h => by have := h3 h; omega
   have hk : k ≠ 0 := by
    rintro rfl
    simp [dG] at h
   refine ⟨v * 128 + c.toNat % 128, by rw [h1, Nat.add_assoc, e2], ?_, fun h => by omega, ?_⟩
   ·rw [h2, jp (u := v * 128 + c.toNat % 128) (by omega), List.cons_append]
    have e3 : (v * 128 + c.toNat % 128) % 128 + 128 = c.toNat := by omega
    have e4 : (v * 128 + c.toNat % 128) / 128 = v := by omega
    rw [e3, e4]
    congr 1
    exact (UInt8.ofNat_toNat).symm
   ·rw [← e2]
    have hp := vr (j := j) (by omega)
    have h5 : c.toNat % 128 * 128 ^ j ≤ 127 * 128 ^ j := Nat.mul_le_mul_right _ (by omega)
    have h6 : v * 128 ^ (j + 1) % 128 ^ (j + 1) = 0 := Nat.mul_mod_left _ _
    have h7 : (18446744073709551616 : Nat) % 128 ^ (j + 1) = 0 := by
     have : (18446744073709551616 : Nat) = 2 * 128 ^ 9 := by decide
     rw [this, ← Nat.pow_sub_mul_pow 128 (show j + 1 ≤ 9 by omega), ← Nat.mul_assoc]
     exact Nat.mul_mod_left _ _
    have h8 : 127 * 128 ^ j < 128 ^ (j + 1) := by rw [Nat.pow_succ]; have : 0 < 128 ^ j := Nat.pow_pos (by decide); omega
    generalize hP : 128 ^ (j + 1) = P at h4 h6 h7 h8 ⊢
    obtain ⟨q, hq⟩ := Nat.dvd_of_mod_eq_zero h7
    rw [hq] at h4 ⊢
    have : v < q := by
     rw [Nat.mul_comm P q] at h4
     exact Nat.lt_of_mul_lt_mul_right h4
    have : (v + 1) * P ≤ q * P := Nat.mul_le_mul_right _ this
    rw [Nat.add_mul, Nat.one_mul] at this
    rw [Nat.mul_comm P q]
    omega
theorem ql2 {l0 : List UInt8} {n : Int} {l : List UInt8} (h : dInt l0 = some (n, l)) : I64 n ∧ l0 = wInt n ++ l := by
 obtain ⟨v, h1, h2, _, h4⟩ := quf 10 0 0 rfl h
 rw [Nat.pow_zero, Nat.mul_one] at h1 h4
 rw [Nat.zero_add] at h1
 subst h1
 refine ⟨?_, by rw [wInt, q7e]; exact h2⟩
 unfold I64 unz
 split <;> omega
theorem qe4 {most : Int} {s : List UInt8} (hs : (s.length : Int) ≤ most) (hm : most ≤ 1000000000) (l : List UInt8) : dBytes most (wText s ++ l) = some (s, l) := by
 unfold dBytes dBounded wText
 rw [List.append_assoc, ql1 (xh (by omega))]
 simp only
 rw [if_neg (by omega)]
 simp only [Int.toNat_natCast, List.length_append]
 rw [if_neg (by omega), List.take_left, List.drop_left]
theorem qe5 {most : Int} {l0 s l : List UInt8} (h : dBytes most l0 = some (s, l)) : l0 = wText s ++ l ∧ (s.length : Int) ≤ most := by
 unfold dBytes dBounded at h
 cases hd : dInt l0 with
 | none => rw [hd] at h; cases h
 | some x =>
  obtain ⟨n, l1⟩ := x
  rw [hd] at h
  simp only at h
  by_cases hn : n < 0 ∨ n > most
  ·rw [if_pos hn] at h; cases h
  ·rw [if_neg hn] at h
   simp only at h
   split at h
   ·cases h
   ·rename_i hl
    cases h
    obtain ⟨_, h1⟩ := ql2 hd
    have e : ((l1.take n.toNat).length : Int) = n := by rw [List.length_take]; omega
    refine ⟨?_, by omega⟩
    unfold wText
    rw [e, List.append_assoc, List.take_append_drop]
    exact h1
theorem qq3 (v : Bool) (l : List UInt8) : dBool ([if v then 1 else 0] ++ l) = some (v, l) := by cases v <;> rfl
theorem qq4 {l0 : List UInt8} {v : Bool} {l : List UInt8} (h : dBool l0 = some (v, l)) : l0 = [if v then 1 else 0] ++ l := by
 cases l0 with
 | nil => cases h
 | cons c l1 =>
  rw [dBool] at h
  split at h
  ·cases h
  ·rename_i hc
   cases h
   have : c.toNat = 0 ∨ c.toNat = 1 := by omega
   rcases this with h | h
   ·have : c = 0 := UInt8.toNat_inj.1 h
    subst this; rfl
   ·have : c = 1 := UInt8.toNat_inj.1 h
    subst this; rfl
def dOp (l0 : List UInt8) : Option (OpS × List UInt8) := match dBytes 40 l0 with
 | none => none
 | some (k, l1) => match dBool l1 with
  | none => none
  | some (d, l2) => match dBytes 900 l2 with
   | none => none
   | some (v, l3) => some (⟨k, d, v⟩, l3)
theorem qwr {o : OpS} (ho : sProper o = true) (l : List UInt8) : dOp (wOp o ++ l) = some (o, l) := by
 obtain ⟨_, h1, h2, _⟩ := xl.1 ho
 unfold dOp wOp
 rw [List.append_assoc, List.append_assoc, qe4 (by omega) (by omega)]
 simp only
 rw [qq3]
 simp only
 rw [qe4 (by omega) (by omega)]
theorem qq5 {l0 : List UInt8} {o : OpS} {l : List UInt8} (h : dOp l0 = some (o, l)) : l0 = wOp o ++ l := by
 unfold dOp at h
 cases h1 : dBytes 40 l0 with
 | none => rw [h1] at h; cases h
 | some x =>
  obtain ⟨k, l1⟩ := x
  rw [h1] at h
  simp only at h
  cases h2 : dBool l1 with
  | none => rw [h2] at h; cases h
  | some x =>
   obtain ⟨d, l2⟩ := x
   rw [h2] at h
   simp only at h
   cases h3 : dBytes 900 l2 with
   | none => rw [h3] at h; cases h
   | some x =>
    obtain ⟨v, l3⟩ := x
    rw [h3] at h
    cases h
    rw [(qe5 h1).1, qq4 h2, (qe5 h3).1, wOp, List.append_assoc, List.append_assoc]
def dOpsA : Nat → List UInt8 → Option (List OpS × List UInt8)
 | 0, l => some ([], l)
 | n + 1, l0 => match dOpsA n l0 with
  | none => none
  | some (ops, l) => match dOp l with
   | none => none
   | some (o, l') => some (ops ++ [o], l')
theorem qi1 (l : List OpS) (hp : ∀ o ∈ l, sProper o = true) (rest : List UInt8) : ∀ k, k ≤ l.length → dOpsA k (l.flatMap wOp ++ rest) = some (l.take k, (l.drop k).flatMap wOp ++ rest)
 | 0, _ => rfl
 | k + 1, hk => by
  rw [dOpsA, qi1 l hp rest k (by omega)]
  simp only
  rw [List.drop_eq_getElem_cons (by omega), List.flatMap_cons, List.append_assoc, qwr (hp _ (List.getElem_mem (by omega)))]
  simp only
  rw [List.take_succ_eq_append_getElem (by omega)]
theorem y9 : ∀ (n : Nat) {l0 : List UInt8} {ops : List OpS} {l : List UInt8}, dOpsA n l0 = some (ops, l) → l0 = ops.flatMap wOp ++ l ∧ ops.length = n
 | 0, l0, ops, l, h => by cases h; exact ⟨rfl, rfl⟩
 | n + 1, l0, ops, l, h => by
  rw [dOpsA] at h
  cases h1 : dOpsA n l0 with
  | none => rw [h1] at h; cases h
  | some x =>
   obtain ⟨ops1, l1⟩ := x
   rw [h1] at h
   simp only at h
   cases h2 : dOp l1 with
   | none => rw [h2] at h; cases h
   | some x =>
    obtain ⟨o, l2⟩ := x
    rw [h2] at h
    cases h
    obtain ⟨e1, e2⟩ := y9 n h1
    rw [e1, qq5 h2]
    simp [e2]
theorem qtw {r : Rd} (hr : r.Ok) (hf : r.failed = true) : (rOp r).2.failed = true := by
 have h1 := zh 40 r hr
 rw [if_pos hf] at h1
 have h2 := y8 r hr
 rw [if_pos hf] at h2
 have h3 := zh 900 r hr
 rw [if_pos hf] at h3
 simp only [rOp, h1, h2, h3, hf]
theorem qgi {α : Type} {b : List UInt8} {v : α} {l : List UInt8} {x : α × Rd} (h : Got (some (v, l)) b x) : x = (v, ⟨b, b.length - l.length, false⟩) := h
theorem qau {α : Type} {z : α} {f : Rd → α × Rd} {d : List UInt8 → Option (α × List UInt8)} (hd : Reads z f d) {r : Rd} (hr : r.Ok) (hf : r.failed = false) {v : α} {l : List UInt8} (h : d (r.b.drop r.pos) = some (v, l)) : f r = (v, ⟨r.b, r.b.length - l.length, false⟩) := by
 rw [hd r hr, if_neg (by simp [hf]), h]
theorem qav {α : Type} {z : α} {f : Rd → α × Rd} {d : List UInt8 → Option (α × List UInt8)} (hd : Reads z f d) {r : Rd} (hr : r.Ok) (hf : r.failed = false) (h : d (r.b.drop r.pos) = none) : (f r).2 = ⟨r.b, r.pos, true⟩ := by
 rw [hd r hr, if_neg (by simp [hf]), h]
theorem qaw {α : Type} {z : α} {f : Rd → α × Rd} {d : List UInt8 → Option (α × List UInt8)} (hd : Reads z f d) {r : Rd} (hr : r.Ok) (hf : r.failed = true) : f r = (z, r) := by
 rw [hd r hr, if_pos hf]
theorem xe1 {r : Rd} (hr : r.Ok) (hf : r.failed = false) : Got (dOp (r.b.drop r.pos)) r.b (rOp r) := by
 unfold dOp
 cases h1 : dBytes 40 (r.b.drop r.pos) with
 | none =>
  have e1 := qav (zh 40) hr hf h1
  have hr1 : (⟨r.b, r.pos, true⟩ : Rd).Ok := ⟨hr.len, hr.pos⟩
  simp only [Got, rOp, e1, qaw y8 hr1 rfl, qaw (zh 900) hr1 rfl]
 | some x =>
  obtain ⟨k, l1⟩ := x
  have e1 := qau (zh 40) hr hf h1
  obtain ⟨p1, hp1⟩ := qk3 _ _ _ _ h1
  obtain ⟨t1, t2⟩ := kg hr.pos hp1
  have hr1 : (⟨r.b, r.b.length - l1.length, false⟩ : Rd).Ok := ⟨hr.len, Nat.sub_le _ _⟩
  simp only
  cases h2 : dBool l1 with
  | none =>
   have e2 := qav y8 hr1 rfl (by simp only [t1]; exact h2)
   simp only at e2
   have hr2 : (⟨r.b, r.b.length - l1.length, true⟩ : Rd).Ok := ⟨hr.len, Nat.sub_le _ _⟩
   simp only [Got, rOp, e1, e2, qaw (zh 900) hr2 rfl]
  | some x =>
   obtain ⟨d, l2⟩ := x
   have e2 := qau y8 hr1 rfl (v := d) (l := l2) (by simp only [t1]; exact h2)
   simp only at e2
   obtain ⟨p2, hp2⟩ := qn1 _ _ _ h2
   obtain ⟨t3, t4⟩ := kg (b := r.b) (p := r.b.length - l1.length) (Nat.sub_le _ _) (by rw [t1]; exact hp2)
   have hr2 : (⟨r.b, r.b.length - l2.length, false⟩ : Rd).Ok := ⟨hr.len, Nat.sub_le _ _⟩
   simp only
   cases h3 : dBytes 900 l2 with
   | none =>
    have e3 := qav (zh 900) hr2 rfl (by simp only [t3]; exact h3)
    simp only [Got, rOp, e1, e2, e3]
   | some x =>
    obtain ⟨v, l3⟩ := x
    have e3 := qau (zh 900) hr2 rfl (v := v) (l := l3) (by simp only [t3]; exact h3)
    simp only [Got, rOp, e1, e2, e3]
theorem q8v : Tails dOp := fun _ _ _ h => ⟨_, qq5 h⟩
theorem qq6 {r : Rd} (hr : r.Ok) (hf : r.failed = false) : ∀ n, Got (dOpsA n (r.b.drop r.pos)) r.b (rOpsA n r)
 | 0 => by
  have := hr.pos
  simp only [Got, dOpsA, rOpsA, List.length_drop]
  rw [show r.b.length - (r.b.length - r.pos) = r.pos by omega, ← hf]
 | n + 1 => by
  have ih := qq6 hr hf n
  have hi := y7 hr n
  rw [dOpsA]
  cases h1 : dOpsA n (r.b.drop r.pos) with
  | none =>
   rw [h1] at ih
   simp only [Got] at ih ⊢
   simp only [rOpsA]
   exact qtw hi.1 ih
  | some x =>
   obtain ⟨ops, l⟩ := x
   rw [h1] at ih
   have ih := qgi ih
   obtain ⟨e1, _⟩ := y9 n h1
   obtain ⟨t1, t2⟩ := kg hr.pos e1
   have hr1 : (⟨r.b, r.b.length - l.length, false⟩ : Rd).Ok := ⟨hr.len, Nat.sub_le _ _⟩
   have h2 := xe1 hr1 rfl
   simp only [t1] at h2
   simp only
   cases h3 : dOp l with
   | none =>
    rw [h3] at h2
    simp only [Got] at h2 ⊢
    simp only [rOpsA, ih, h2]
   | some x =>
    obtain ⟨o, l'⟩ := x
    rw [h3] at h2
    have h2 := qgi h2
    simp only [Got, rOpsA, ih, h2]
theorem qi2 {b : List UInt8} (hb : b.length ≤ 1000000000) : sDecode b = match dBounded 1 20 b with
  | none => ([], 4)
  | some (n, l) => match dOpsA n.toNat l with
   | some (ops, []) => if (sEncode ops).2 ≠ 0 then ([], 4) else (ops, 0)
   | _ => ([], 4) := by
 have hr0 : (⟨b, 0, false⟩ : Rd).Ok := ⟨hb, Nat.zero_le _⟩
 have h1 := ww 1 20 ⟨b, 0, false⟩ hr0
 simp only [Bool.false_eq_true, if_false, List.drop_zero] at h1
 unfold sDecode decRd
 cases hd : dBounded 1 20 b with
 | none =>
  rw [hd] at h1
  simp only at h1
  rw [h1, if_pos]
  simp [rOpsA, rEnd]
 | some x =>
  obtain ⟨n, l⟩ := x
  rw [hd] at h1
  simp only at h1
  rw [h1]
  obtain ⟨p, hp⟩ := jc _ _ _ _ _ hd
  obtain ⟨t1, t2⟩ := kg (b := b) (p := 0) (Nat.zero_le _) (by rw [List.drop_zero]; exact hp)
  have hr1 : (⟨b, b.length - l.length, false⟩ : Rd).Ok := ⟨hb, Nat.sub_le _ _⟩
  have h2 := qq6 hr1 rfl n.toNat
  simp only [t1] at h2
  simp only
  cases h3 : dOpsA n.toNat l with
  | none =>
   rw [h3] at h2
   simp only [Got] at h2
   rw [if_pos (by unfold rEnd; rw [h2]; simp)]
  | some x =>
   obtain ⟨ops, l2⟩ := x
   rw [h3] at h2
   have h2 := qgi h2
   rw [h2]
   obtain ⟨e1, _⟩ := y9 _ h3
   have hl := congrArg List.length e1
   simp only [List.length_append] at hl
   cases l2 with
   | nil =>
    simp only
    rw [if_neg (by unfold rEnd; simp)]
   | cons c l2 =>
    simp only
    rw [if_pos]
    unfold rEnd
    simp only [List.length_cons] at hl ⊢
    rw [if_pos]
    ·simp
    ·simp; omega
theorem qtx {l : List OpS} (h : (sEncode l).2 = 0) : sDecode (sEncode l).1 = (l, 0) := by
 obtain ⟨h20, hp, he⟩ := jr h
 have hlen := kq l
 rw [qi2 (by omega), he]
 have hl0 : l.length ≠ 0 := by
  intro h0
  unfold sEncode at h
  rw [if_pos (by simp [h0])] at h
  simp at h
 have e1 : dBounded 1 20 (wOps l) = some ((l.length : Int), l.flatMap wOp) := by
  unfold dBounded wOps
  rw [ql1 (xh (by omega))]
  simp only
  rw [if_neg (by omega)]
 have e2 := qi1 l hp [] l.length (Nat.le_refl _)
 rw [List.append_nil, List.take_length, List.drop_length, List.flatMap_nil, List.append_nil] at e2
 rw [e1]
 simp only [Int.toNat_natCast]
 rw [e2]
 simp only
 rw [if_neg (by simp [h])]
theorem qgj {b : List UInt8} (hb : b.length ≤ 1000000000) (h : (sDecode b).2 = 0) : sEncode (sDecode b).1 = (b, 0) := by
 have hd := qi2 hb
 cases h1 : dBounded 1 20 b with
 | none => rw [h1] at hd; simp only at hd; rw [hd] at h; simp at h
 | some x =>
  obtain ⟨n, l⟩ := x
  rw [h1] at hd
  simp only at hd
  cases h2 : dOpsA n.toNat l with
  | none => rw [h2] at hd; simp only at hd; rw [hd] at h; simp at h
  | some x =>
   obtain ⟨ops, l2⟩ := x
   rw [h2] at hd
   cases l2 with
   | cons c l2 => simp only at hd; rw [hd] at h; simp at h
   | nil =>
    simp only at hd
    by_cases he : (sEncode ops).2 ≠ 0
    ·rw [if_pos he] at hd; rw [hd] at h; simp at h
    ·rw [if_neg he] at hd
     have he : (sEncode ops).2 = 0 := by simpa using he
     rw [hd]
     obtain ⟨_, _, e⟩ := jr he
     rw [e]
     obtain ⟨e1, e2⟩ := y9 _ h2
     unfold dBounded at h1
     cases h3 : dInt b with
     | none => rw [h3] at h1; cases h1
     | some x =>
      obtain ⟨m, l3⟩ := x
      rw [h3] at h1
      simp only at h1
      split at h1
      ·cases h1
      ·cases h1
       obtain ⟨_, e3⟩ := ql2 h3
       have : ((ops.length : Nat) : Int) = n := by omega
       rw [wOps, this, e3, e1, List.append_nil]
end Go.Proofs.YtinnaedmdoengaaGreat
namespace Go.Proofs.YtinnaedmdoengaaGreat
open Go.Abs
set_option linter.unusedSimpArgs false
set_option linter.unusedVariables false
noncomputable section
set_option maxRecDepth 100000
def s18r0 : List SOper := [
 ⟨some 2, .mov (.k (.d .nilptr)), none⟩,
 ⟨some 3, .mov (.k (.d (.int .i64 0))), none⟩]
def s18r1 : List SOper := [
 ⟨some 11, .call (.k (.d (.func (.func 10) [] []))) [], none⟩,
 ⟨some 4, .mov (.t 11), none⟩]
def s18r2 : List SOper := [
 ⟨some 13, .mov (.t 0), none⟩,
 ⟨some 14, .call (.k (.d (.func (.func 58) [] []))) [(.t 13)], none⟩,
 ⟨some 12, .mov (.t 14), none⟩,
 ⟨some 15, .extract 0 (.t 12), none⟩,
 ⟨some 16, .extract 1 (.t 12), none⟩,
 ⟨some 5, .alloc 1 [(.d .nilsl), (.d (.int .i64 0))], none⟩,
 ⟨none, .store (some 2) (.t 5) (.t 15), none⟩,
 ⟨some 6, .mov (.t 16), none⟩]
def s18r3 : List SOper := [
 ⟨some 17, .mov (.t 4), none⟩,
 ⟨some 18, .load (some 2) (.t 5), none⟩,
 ⟨some 19, .nilCheck (.t 17), none⟩,
 ⟨some 20, .faddr 0 (.t 19), none⟩,
 ⟨none, .store (some 2) (.t 20) (.t 18), none⟩]
def s18r4 : List SOper := [
 ⟨some 21, .mov (.t 6), none⟩,
 ⟨some 22, .len (.t 21), none⟩,
 ⟨some 23, .mov (.k (.d (.int .i64 0))), none⟩]
def s18r5 : List SOper := [
 ⟨some 24, .bin .lss (.t 23) (.t 22), none⟩]
def s18r6 : List SOper := [
 ⟨some 25, .iaddr 1 (.t 21) (.t 23), none⟩,
 ⟨some 26, .load none (.t 25), none⟩,
 ⟨some 8, .mov (.t 26), none⟩]
def s18r7 : List SOper := [
 ⟨some 28, .mov (.t 8), none⟩,
 ⟨some 29, .call (.k (.d (.func (.func 59) [] []))) [(.t 28)], none⟩,
 ⟨some 27, .mov (.t 29), none⟩,
 ⟨some 30, .extract 0 (.t 27), none⟩,
 ⟨some 31, .extract 1 (.t 27), none⟩,
 ⟨some 9, .mov (.t 30), none⟩,
 ⟨some 10, .mov (.t 31), none⟩]
def s18r8 : List SOper := [
 ⟨some 32, .mov (.t 10), none⟩,
 ⟨some 33, .bin .neq (.t 32) (.k (.d (.int .i64 0))), none⟩,
 ⟨some 34, .mov (.t 33), none⟩,
 ⟨some 35, .mov (.t 4), some (34, false)⟩,
 ⟨some 36, .nilCheck (.t 35), some (34, false)⟩,
 ⟨some 37, .faddr 2 (.t 36), some (34, false)⟩,
 ⟨some 38, .load none (.t 37), some (34, false)⟩,
 ⟨some 39, .mov (.t 9), some (34, false)⟩,
 ⟨some 40, .call (.k (.d (.func (.func 52) [] []))) [(.t 38), (.t 39)], some (34, false)⟩,
 ⟨some 41, .not (.t 40), some (34, false)⟩,
 ⟨some 42, .pick (.t 34) (.k (.d (.bool true))) (.t 41), none⟩]
def s18r9 : List SOper := [
 ⟨some 2, .mov (.k (.d .nilptr)), none⟩,
 ⟨some 3, .mov (.k (.d (.int .i64 4))), none⟩]
def s18r10 : List SOper := [
 ⟨some 43, .bin .add (.t 23) (.k (.d (.int .i64 1))), none⟩,
 ⟨some 23, .mov (.t 43), none⟩]
def s18l11 : SCode := (.seq (.region s18r5 0 []) (.seq (.cond (.t 24) .skip (.exit 0)) (.seq (.block 1 (.seq (.region s18r6 0 []) (.seq (.region s18r7 0 []) (.seq (.region s18r8 0 []) (.cond (.t 42) (.seq (.region s18r9 0 []) .ret) .skip))))) (.region s18r10 0 []))))
theorem q7h : CodeIs s18l11.eq_1 := qc s18l11.eq_1
def s18r12 : List SOper := [
 ⟨some 44, .mov (.t 4), none⟩,
 ⟨some 2, .mov (.t 44), none⟩,
 ⟨some 3, .mov (.k (.d (.int .i64 0))), none⟩]
def s18 : SCode := (.seq (.region s18r0 0 []) (.seq (.region s18r1 2 []) (.seq (.region s18r2 1 []) (.seq (.region s18r3 0 []) (.seq (.seq (.region s18r4 0 []) (.block 0 (.loop s18l11))) (.seq (.region s18r12 0 []) .ret))))))
theorem e18 : CodeIs s18.eq_1 := qc s18.eq_1
theorem xe2 : RegIs s18r0.eq_1 := qa
theorem xe3 : RegIs s18r1.eq_1 := qa
theorem xe4 : RegIs s18r2.eq_1 := qa
theorem xe5 : RegIs s18r3.eq_1 := qa
theorem xe6 : RegIs s18r4.eq_1 := qa
theorem xe7 : RegIs s18r5.eq_1 := qa
theorem xe8 : RegIs s18r6.eq_1 := qa
theorem xe9 : RegIs s18r7.eq_1 := qa
theorem xfa : RegIs s18r8.eq_1 := qa
theorem xfb : RegIs s18r9.eq_1 := qa
theorem q7i : RegIs s18r10.eq_1 := qa
theorem q7j : RegIs s18r12.eq_1 := qa
attribute [go_sem] xe2 xe3 xe4 xe5 xe6 xe7 xe8 xe9 xfa xfb q7i q7h q7j e18
theorem F18 : FnIs Tryz.prog 18 Tryz.f18 [] news s18 [.tmp 2, .tmp 3] 45 := qz follows Tryz.func18
end
def openA : Cont → List (List UInt8) → Option Cont
 | m, [] => some m
 | m, b :: l => if (sDecode b).2 ≠ 0 then none else if (mApply m (sDecode b).1).2 = false then none else openA (mApply m (sDecode b).1).1 l
def sOpen (file : List UInt8) : Option Sto := (openA emptyC (wRecs file)).map fun m => ⟨file.take (wUsed file), (wUsed file : Nat), m⟩
def openE (file : List UInt8) : Int := if (sOpen file).isSome then 0 else 4
def openP (file : List UInt8) : D := if (sOpen file).isSome then .ptr 1 0 else .nilptr
def openO (file : List UInt8) : List AObj := match sOpen file with
 | some s => [mapO s.m, stoO s 0]
 | none => [.none, .none]
theorem vt {b : List UInt8} (hb : b.length ≤ 1000000000) (h : (sDecode b).2 = 0) : (sDecode b).1.length ≤ 20 ∧ ∀ o ∈ (sDecode b).1, sProper o = true := by
 have h1 := qgj hb h
 obtain ⟨k1, k2, _⟩ := jr (by rw [h1] : (sEncode (sDecode b).1).2 = 0)
 exact ⟨k1, k2⟩
theorem qbh (l : List (List UInt8)) {i : Nat} (h : i < l.length) : (recRows l).getD i [] = [.sl 1 (byteRows l[i])] := qq (fun r : List UInt8 => [D.sl 1 (byteRows r)]) l h []
def Sopen (file : List UInt8) (i : Nat) (m : Cont) : St :=
 ⟨[(4, true, .d (.ptr 1 0)), (21, true, .d (.sl 1 (recRows (wRecs file)))), (22, true, .d (.int .i64 (wRecs file).length)), (23, true, .d (.int .i64 (i : Nat)))], [mapO m, stoO ⟨file.take (wUsed file), (wUsed file : Nat), m⟩ 0], [], 1⟩
set_option maxRecDepth 10000 in
theorem qq7 (file : List UInt8) (hb : file.length ≤ 1000000000) : ACall Tryz.prog 18 [.d (.sl 1 (byteRows file))] [] (.tup [.d (openP file), .d (.int .i64 (openE file))]) (openO file) := by
 have k0 := qqi
 have hln := qis file
 simp only [stoO, mapO] at k0
 refine F18.goT ?_
 try (refine ev ?_; try exact True.intro)
 refine clO [0, 1] F10 k0 ?_
 try (refine ev ?_; try exact True.intro)
 (repeat (with_reducible refine ob ?_)); first | refine cl F58 (qew file hb) ?_ | refine clF F58 (qew file hb) (fun _ => by simp only [encOp, encEn, encStep, go_sem, Nat.reduceAdd, Nat.reduceMul, Nat.reduceSub, Nat.reduceEqDiff, Nat.reduceLT, Nat.reduceLeDiff, Nat.reduceBEq, reduceIte, reduceCtorEq, Int.reduceAdd, Int.reduceLT, Int.reduceLE, Int.reduceGT, Int.reduceGE, Int.reduceEq, Int.reduceNe, Int.reduceBEq, Int.reduceBNe, Int.reduceToNat, Int.reduceNeg]) ?_
 try (refine ev1 @encLog.eq_1 ?_; try exact True.intro)
 refine qm (fun x : { x : Nat × Cont // x.1 ≤ (wRecs file).length ∧ openA x.2 ((wRecs file).drop x.1) = openA emptyC (wRecs file) } => Sopen file x.val.1 x.val.2) (fun x => (wRecs file).length - x.val.1) ⟨(0, emptyC), Nat.zero_le _, by simp⟩ ?_ (fun x => ?_)
 ·try (refine ev5 @Sopen.eq_1 @stoO.eq_1 @mapO.eq_1 @newS.eq_1 @Int.ofNat_zero ?_; try exact True.intro)
 obtain ⟨⟨i, m⟩, hi, hx⟩ := x
 simp only at hi hx
 try (refine ev3 @Sopen.eq_1 @stoO.eq_1 @mapO.eq_1 ?_; try exact True.intro)
 refine xf _ (fun hc => ?_) (fun hc => ?_)
 ·have hil : i < (wRecs file).length := by simpa using hc
  have hr := wv file _ (List.getElem_mem hil)
  rw [List.drop_eq_getElem_cons hil, openA] at hx
  try simp only [qbh _ hil, go_sem, Nat.reduceAdd, Nat.reduceMul, Nat.reduceSub, Nat.reduceEqDiff, Nat.reduceLT, Nat.reduceLeDiff, Nat.reduceBEq, reduceIte, reduceCtorEq, Int.reduceAdd, Int.reduceLT, Int.reduceLE, Int.reduceGT, Int.reduceGE, Int.reduceEq, Int.reduceNe, Int.reduceBEq, Int.reduceBNe, Int.reduceToNat, Int.reduceNeg]
  (repeat (with_reducible refine ob ?_))
  (repeat (with_reducible refine ob ?_)); first | refine cl F59 (qe0 (wRecs file)[i] (by omega)) ?_ | refine clF F59 (qe0 (wRecs file)[i] (by omega)) (fun _ => by simp only [encOp, encEn, encStep, go_sem, Nat.reduceAdd, Nat.reduceMul, Nat.reduceSub, Nat.reduceEqDiff, Nat.reduceLT, Nat.reduceLeDiff, Nat.reduceBEq, reduceIte, reduceCtorEq, Int.reduceAdd, Int.reduceLT, Int.reduceLE, Int.reduceGT, Int.reduceGE, Int.reduceEq, Int.reduceNe, Int.reduceBEq, Int.reduceBNe, Int.reduceToNat, Int.reduceNeg]) ?_
  try (refine ev ?_; try exact True.intro)
  by_cases he : (sDecode (wRecs file)[i]).2 = 0
  ·rw [if_neg (by simpa using he)] at hx
   obtain ⟨g1, g2⟩ := vt (by omega) he
   have hap := qlr m (sDecode (wRecs file)[i]).1 (by omega) (fun o ho => by have := (xl.1 (g2 o ho)).2.2.1; omega)
   simp only [mapO] at hap
   have hz : (((sDecode (wRecs file)[i]).2 : Int) != 0) = false := by rw [he]; rfl
   try (refine ev1 @hz ?_; try exact True.intro)
   (repeat (with_reducible refine ob ?_)); refine clO [0] F52 (hap) ?_ (hfit := by first | exact ⟨qb, trivial⟩ | exact ⟨qb, qb, trivial⟩ | simp only [encOp, encEn, encStep, go_sem, Nat.reduceAdd, Nat.reduceMul, Nat.reduceSub, Nat.reduceEqDiff, Nat.reduceLT, Nat.reduceLeDiff, Nat.reduceBEq, reduceIte, reduceCtorEq, Int.reduceAdd, Int.reduceLT, Int.reduceLE, Int.reduceGT, Int.reduceGE, Int.reduceEq, Int.reduceNe, Int.reduceBEq, Int.reduceBNe, Int.reduceToNat, Int.reduceNeg])
   try (refine ev ?_; try exact True.intro)
   refine xf _ (fun ha => ?_) (fun ha => ?_)
   ·rw [if_pos (by simpa using ha)] at hx
    have hs : sOpen file = none := by rw [sOpen, ← hx]; rfl
    have hP : openP file = .nilptr := by rw [openP, hs]; rfl
    have hE : openE file = 4 := by rw [openE, hs]; rfl
    have hO : openO file = [.none, .none] := by rw [openO, hs]
    try (refine ev3 @hP @hE @hO ?_; try exact True.intro)
   ·rw [if_neg (by simpa using ha)] at hx
    try (refine ev ?_; try exact True.intro)
    refine ⟨⟨(i + 1, (mApply m (sDecode (wRecs file)[i]).1).1), hil, hx⟩, ?_, by dsimp only; omega⟩
    try (refine ev4 @Sopen.eq_1 @stoO.eq_1 @mapO.eq_1 (qk (show i < 9223372036854775807 by omega)) ?_; try exact True.intro)
  ·rw [if_pos (by simpa using he)] at hx
   have hz : (((sDecode (wRecs file)[i]).2 : Int) != 0) = true := by simpa using he
   have hs : sOpen file = none := by rw [sOpen, ← hx]; rfl
   try (refine ev1 @hz ?_; try exact True.intro)
   (repeat (with_reducible refine ob ?_)); refine q83 ?_
   try (refine ev ?_; try exact True.intro)
   (repeat (with_reducible refine ob ?_)); refine wx ?_
   have hP : openP file = .nilptr := by rw [openP, hs]; rfl
   have hE : openE file = 4 := by rw [openE, hs]; rfl
   have hO : openO file = [.none, .none] := by rw [openO, hs]
   try (refine ev3 @hP @hE @hO ?_; try exact True.intro)
 ·have hie : i = (wRecs file).length := by
   have : (wRecs file).length ≤ i := by simpa using hc
   omega
  subst hie
  rw [List.drop_length, openA] at hx
  have hs : sOpen file = some ⟨file.take (wUsed file), (wUsed file : Nat), m⟩ := by rw [sOpen, ← hx]; rfl
  have hP : openP file = .ptr 1 0 := by rw [openP, hs]; rfl
  have hE : openE file = 0 := by rw [openE, hs]; rfl
  have hO : openO file = [mapO m, stoO ⟨file.take (wUsed file), (wUsed file : Nat), m⟩ 0] := by rw [openO, hs]
  try (refine ev5 @hP @hE @hO @stoO.eq_1 @mapO.eq_1 ?_; try exact True.intro)
theorem qty {file : List UInt8} {s : Sto} (hb : file.length ≤ 1000000000) (h : sOpen file = some s) : ACall Tryz.prog 18 [.d (.sl 1 (byteRows file))] [] (.tup [.d (.ptr 1 0), .d (.int .i64 0)]) [mapO s.m, stoO s 0] := by
 have := qq7 file hb
 have hP : openP file = .ptr 1 0 := by rw [openP, h]; rfl
 have hE : openE file = 0 := by rw [openE, h]; rfl
 rw [hP, hE, openO, h] at this
 exact this
theorem qws {file : List UInt8} (hb : file.length ≤ 1000000000) (h : sOpen file = none) : ACall Tryz.prog 18 [.d (.sl 1 (byteRows file))] [] (.tup [.d .nilptr, .d (.int .i64 4)]) [.none, .none] := by
 have := qq7 file hb
 have hP : openP file = .nilptr := by rw [openP, h]; rfl
 have hE : openE file = 4 := by rw [openE, h]; rfl
 rw [hP, hE, openO, h] at this
 exact this
theorem qe6 : ∀ (l : List (List UInt8)) {m m' : Cont}, (∀ r ∈ l, r.length ≤ 2000) → m.Good → openA m l = some m' → m'.Good
 | [], m, m', _, hm, h => by cases h; exact hm
 | b :: l, m, m', hl, hm, h => by
  rw [openA] at h
  split at h
  ·cases h
  ·rename_i he
   split at h
   ·cases h
   ·rename_i ha
    have hbl := hl b List.mem_cons_self
    have hg := vt (b := b) (by omega) (by simpa using he)
    exact qe6 l (fun r hr => hl r (List.mem_cons_of_mem _ hr)) (kr _ hm hg.2 (by simpa using ha)) h
theorem qdd : emptyC.Good := (qp7 0).good
theorem qn3 {file : List UInt8} {s : Sto} (h : sOpen file = some s) : s.m.Good ∧ s.file = file.take (wUsed file) ∧ s.synced = (wUsed file : Nat) := by
 unfold sOpen at h
 rw [Option.map_eq_some_iff] at h
 obtain ⟨m, hm, rfl⟩ := h
 exact ⟨qe6 _ (wv file) qdd hm, rfl, rfl⟩
end Go.Proofs.YtinnaedmdoengaaGreat
namespace Go.Proofs.YtinnaedmdoengaaGreat
open Go.Abs
set_option linter.unusedSimpArgs false
set_option linter.unusedVariables false
noncomputable section
set_option maxRecDepth 100000
def s122r0 : List SOper := [
 ⟨some 3, .box 1 (.t 1), none⟩,
 ⟨some 4, .mov (.k (.d .nilsl)), none⟩]
def s122r1 : List SOper := [
 ⟨some 5, .mov (.k (.d .nilsl)), none⟩]
def s122r2 : List SOper := [
 ⟨some 6, .mov (.k (.d (.int .i64 0))), none⟩]
def s122r3 : List SOper := [
 ⟨some 7, .mov (.t 6), none⟩,
 ⟨some 8, .mov (.t 0), none⟩,
 ⟨some 9, .len (.t 8), none⟩,
 ⟨some 10, .bin .lss (.t 7) (.t 9), none⟩,
 ⟨some 11, .mov (.t 10), none⟩,
 ⟨some 12, .mov (.t 0), some (11, true)⟩,
 ⟨some 13, .mov (.t 6), some (11, true)⟩,
 ⟨some 14, .iaddr 2 (.t 12) (.t 13), some (11, true)⟩,
 ⟨some 15, .faddr 0 (.t 14), some (11, true)⟩,
 ⟨some 16, .load none (.t 15), some (11, true)⟩,
 ⟨some 17, .faddr 0 (.t 3), some (11, true)⟩,
 ⟨some 18, .load none (.t 17), some (11, true)⟩,
 ⟨some 19, .bin .lss (.t 16) (.t 18), some (11, true)⟩,
 ⟨some 20, .pick (.t 11) (.t 19) (.k (.d (.bool false))), none⟩]
def s122r4 : List SOper := [
 ⟨some 21, .mov (.t 5), none⟩,
 ⟨some 22, .mov (.t 0), none⟩,
 ⟨some 23, .mov (.t 6), none⟩,
 ⟨some 24, .iaddr 2 (.t 22) (.t 23), none⟩,
 ⟨some 25, .load (some 2) (.t 24), none⟩,
 ⟨some 26, .buildSlice false 2 1 [(.str []), .nilsl] [(0, 2, (.t 25))], none⟩,
 ⟨some 27, .append false 2 40 (.t 21) (.t 26), none⟩,
 ⟨some 5, .mov (.t 27), none⟩]
def s122r5 : List SOper := [
 ⟨some 28, .mov (.t 6), none⟩,
 ⟨some 29, .bin .add (.t 28) (.k (.d (.int .i64 1))), none⟩,
 ⟨some 6, .mov (.t 29), none⟩]
def s122l6 : SCode := (.seq (.seq (.region s122r3 0 []) (.cond (.t 20) .skip (.exit 0))) (.block 1 (.seq (.region s122r4 0 []) (.region s122r5 0 []))))
theorem q7k : CodeIs s122l6.eq_1 := qc s122l6.eq_1
def s122r7 : List SOper := [
 ⟨some 30, .mov (.t 5), none⟩,
 ⟨some 31, .load (some 2) (.t 3), none⟩,
 ⟨some 32, .buildSlice false 2 1 [(.str []), .nilsl] [(0, 2, (.t 31))], none⟩,
 ⟨some 33, .append false 2 40 (.t 30) (.t 32), none⟩,
 ⟨some 5, .mov (.t 33), none⟩]
def s122r8 : List SOper := [
 ⟨some 34, .mov (.t 6), none⟩,
 ⟨some 35, .mov (.t 0), none⟩,
 ⟨some 36, .len (.t 35), none⟩,
 ⟨some 37, .bin .lss (.t 34) (.t 36), none⟩,
 ⟨some 38, .mov (.t 37), none⟩,
 ⟨some 39, .mov (.t 0), some (38, true)⟩,
 ⟨some 40, .mov (.t 6), some (38, true)⟩,
 ⟨some 41, .iaddr 2 (.t 39) (.t 40), some (38, true)⟩,
 ⟨some 42, .faddr 0 (.t 41), some (38, true)⟩,
 ⟨some 43, .load none (.t 42), some (38, true)⟩,
 ⟨some 44, .faddr 0 (.t 3), some (38, true)⟩,
 ⟨some 45, .load none (.t 44), some (38, true)⟩,
 ⟨some 46, .bin .eql (.t 43) (.t 45), some (38, true)⟩,
 ⟨some 47, .pick (.t 38) (.t 46) (.k (.d (.bool false))), none⟩]
def s122r9 : List SOper := [
 ⟨some 48, .mov (.t 6), none⟩,
 ⟨some 49, .bin .add (.t 48) (.k (.d (.int .i64 1))), none⟩,
 ⟨some 6, .mov (.t 49), none⟩]
def s122r10 : List SOper := [
 ⟨some 50, .mov (.t 5), none⟩,
 ⟨some 51, .mov (.t 0), none⟩,
 ⟨some 52, .mov (.t 6), none⟩,
 ⟨some 53, .slice 2 (.t 51) (some (.t 52)) none none, none⟩,
 ⟨some 54, .append false 2 40 (.t 50) (.t 53), none⟩,
 ⟨some 4, .mov (.t 54), none⟩]
def s122 : SCode := (.seq (.region s122r0 1 []) (.seq (.region s122r1 0 []) (.seq (.region s122r2 0 []) (.seq (.block 0 (.loop s122l6)) (.seq (.region s122r7 0 []) (.seq (.seq (.region s122r8 0 []) (.cond (.t 47) (.region s122r9 0 []) .skip)) (.seq (.region s122r10 0 []) .ret)))))))
theorem xi0 : CodeIs s122.eq_1 := qc s122.eq_1
theorem q7l : RegIs s122r0.eq_1 := qa
theorem q7m : RegIs s122r1.eq_1 := qa
theorem q7n : RegIs s122r2.eq_1 := qa
theorem q7o : RegIs s122r3.eq_1 := qa
theorem q7p : RegIs s122r4.eq_1 := qa
theorem q7q : RegIs s122r5.eq_1 := qa
theorem q7r : RegIs s122r7.eq_1 := qa
theorem q7s : RegIs s122r8.eq_1 := qa
theorem q7t : RegIs s122r9.eq_1 := qa
theorem qwt : RegIs s122r10.eq_1 := qa
attribute [go_sem] q7l q7m q7n q7o q7p q7q q7k q7r q7s q7t qwt xi0
theorem xfc : FnIs Tryz.prog 122 Tryz.f122 [] news s122 [.tmp 4] 55 := qz follows Tryz.func122
def s121r0 : List SOper := [
 ⟨some 4, .mov (.k (.d .nilsl)), none⟩]
def s121r1 : List SOper := [
 ⟨some 5, .mov (.k (.d .nilsl)), none⟩]
def s121r2 : List SOper := [
 ⟨some 6, .mov (.k (.d (.int .i64 0))), none⟩]
def s121r3 : List SOper := [
 ⟨some 7, .mov (.t 6), none⟩,
 ⟨some 8, .mov (.t 0), none⟩,
 ⟨some 9, .len (.t 8), none⟩,
 ⟨some 10, .bin .lss (.t 7) (.t 9), none⟩]
def s121r4 : List SOper := [
 ⟨some 13, .mov (.t 0), none⟩,
 ⟨some 14, .mov (.t 6), none⟩,
 ⟨some 15, .iaddr 2 (.t 13) (.t 14), none⟩,
 ⟨some 16, .faddr 0 (.t 15), none⟩,
 ⟨some 17, .load none (.t 16), none⟩,
 ⟨some 18, .mov (.t 1), none⟩,
 ⟨some 19, .bin .neq (.t 17) (.t 18), none⟩]
def s121r5 : List SOper := [
 ⟨some 20, .mov (.t 5), none⟩,
 ⟨some 21, .mov (.t 0), none⟩,
 ⟨some 22, .mov (.t 6), none⟩,
 ⟨some 23, .iaddr 2 (.t 21) (.t 22), none⟩,
 ⟨some 24, .load (some 2) (.t 23), none⟩,
 ⟨some 25, .buildSlice false 2 1 [(.str []), .nilsl] [(0, 2, (.t 24))], none⟩,
 ⟨some 26, .append false 2 40 (.t 20) (.t 25), none⟩,
 ⟨some 5, .mov (.t 26), none⟩]
def s121r6 : List SOper := [
 ⟨some 11, .mov (.t 6), none⟩,
 ⟨some 12, .bin .add (.t 11) (.k (.d (.int .i64 1))), none⟩,
 ⟨some 6, .mov (.t 12), none⟩]
def s121l7 : SCode := (.seq (.seq (.region s121r3 0 []) (.cond (.t 10) .skip (.exit 0))) (.seq (.block 1 (.seq (.region s121r4 0 []) (.cond (.t 19) (.region s121r5 0 []) .skip))) (.region s121r6 0 [])))
theorem q7u : CodeIs s121l7.eq_1 := qc s121l7.eq_1
def s121r8 : List SOper := [
 ⟨some 27, .mov (.t 5), none⟩,
 ⟨some 4, .mov (.t 27), none⟩]
def s121 : SCode := (.seq (.region s121r0 0 []) (.seq (.region s121r1 0 []) (.seq (.seq (.region s121r2 0 []) (.block 0 (.loop s121l7))) (.seq (.region s121r8 0 []) .ret))))
theorem xi1 : CodeIs s121.eq_1 := qc s121.eq_1
theorem q7v : RegIs s121r0.eq_1 := qa
theorem q7w : RegIs s121r1.eq_1 := qa
theorem q7x : RegIs s121r2.eq_1 := qa
theorem q7y : RegIs s121r3.eq_1 := qa
theorem q7z : RegIs s121r4.eq_1 := qa
theorem q70 : RegIs s121r5.eq_1 := qa
theorem q71 : RegIs s121r6.eq_1 := qa
theorem q72 : RegIs s121r8.eq_1 := qa
attribute [go_sem] q7v q7w q7x q7y q7z q70 q71 q7u q72 xi1
theorem xfd : FnIs Tryz.prog 121 Tryz.f121 [] news s121 [.tmp 4] 28 := qz follows Tryz.func121
def s62r0 : List SOper := [
 ⟨some 4, .mov (.k (.d .nilsl)), none⟩,
 ⟨some 5, .mov (.k (.d (.bool false))), none⟩]
def s62r1 : List SOper := [
 ⟨some 6, .mov (.k (.d (.int .i64 0))), none⟩]
def s62r2 : List SOper := [
 ⟨some 7, .mov (.t 6), none⟩,
 ⟨some 8, .mov (.t 1), none⟩,
 ⟨some 9, .len (.t 8), none⟩,
 ⟨some 10, .bin .lss (.t 7) (.t 9), none⟩]
def s62r3 : List SOper := [
 ⟨some 13, .mov (.t 1), none⟩,
 ⟨some 14, .mov (.t 6), none⟩,
 ⟨some 15, .iaddr 3 (.t 13) (.t 14), none⟩,
 ⟨some 16, .faddr 1 (.t 15), none⟩,
 ⟨some 17, .load none (.t 16), none⟩]
def s62r4 : List SOper := [
 ⟨some 18, .mov (.t 0), none⟩,
 ⟨some 19, .mov (.t 1), none⟩,
 ⟨some 20, .mov (.t 6), none⟩,
 ⟨some 21, .iaddr 3 (.t 19) (.t 20), none⟩,
 ⟨some 22, .faddr 0 (.t 21), none⟩,
 ⟨some 23, .load none (.t 22), none⟩,
 ⟨some 24, .call (.k (.d (.func (.func 121) [] []))) [(.t 18), (.t 23)], none⟩,
 ⟨some 0, .mov (.t 24), none⟩]
def s62r5 : List SOper := [
 ⟨some 25, .mov (.t 0), none⟩,
 ⟨some 26, .mov (.t 1), none⟩,
 ⟨some 27, .mov (.t 6), none⟩,
 ⟨some 28, .iaddr 3 (.t 26) (.t 27), none⟩,
 ⟨some 29, .faddr 0 (.t 28), none⟩,
 ⟨some 30, .load none (.t 29), none⟩,
 ⟨some 31, .buildSlice false 1 0 [(.int .u8 0)] [], none⟩,
 ⟨some 32, .mov (.t 1), none⟩,
 ⟨some 33, .mov (.t 6), none⟩,
 ⟨some 34, .iaddr 3 (.t 32) (.t 33), none⟩,
 ⟨some 35, .faddr 2 (.t 34), none⟩,
 ⟨some 36, .load none (.t 35), none⟩,
 ⟨some 37, .append false 1 1 (.t 31) (.t 36), none⟩,
 ⟨some 38, .build [(.str []), .nilsl] [(0, 1, (.t 30)), (1, 1, (.t 37))], none⟩,
 ⟨some 39, .call (.k (.d (.func (.func 122) [] []))) [(.t 25), (.t 38)], none⟩,
 ⟨some 0, .mov (.t 39), none⟩]
def s62r6 : List SOper := [
 ⟨some 40, .mov (.t 0), none⟩,
 ⟨some 41, .len (.t 40), none⟩,
 ⟨some 42, .bin .gtr (.t 41) (.k (.d (.int .i64 400))), none⟩]
def s62r7 : List SOper := [
 ⟨some 4, .mov (.k (.d .nilsl)), none⟩,
 ⟨some 5, .mov (.k (.d (.bool false))), none⟩]
def s62r8 : List SOper := [
 ⟨some 11, .mov (.t 6), none⟩,
 ⟨some 12, .bin .add (.t 11) (.k (.d (.int .i64 1))), none⟩,
 ⟨some 6, .mov (.t 12), none⟩]
def s62l9 : SCode := (.seq (.seq (.region s62r2 0 []) (.cond (.t 10) .skip (.exit 0))) (.seq (.block 1 (.seq (.seq (.region s62r3 0 []) (.cond (.t 17) (.region s62r4 0 []) (.region s62r5 0 []))) (.seq (.region s62r6 0 []) (.cond (.t 42) (.seq (.region s62r7 0 []) .ret) .skip)))) (.region s62r8 0 [])))
theorem xfe : CodeIs s62l9.eq_1 := qc s62l9.eq_1
def s62r10 : List SOper := [
 ⟨some 43, .mov (.t 0), none⟩,
 ⟨some 4, .mov (.t 43), none⟩,
 ⟨some 5, .mov (.k (.d (.bool true))), none⟩]
def s62 : SCode := (.seq (.region s62r0 0 []) (.seq (.seq (.region s62r1 0 []) (.block 0 (.loop s62l9))) (.seq (.region s62r10 0 []) .ret)))
theorem e62 : CodeIs s62.eq_1 := qc s62.eq_1
theorem xff : RegIs s62r0.eq_1 := qa
theorem xfg : RegIs s62r1.eq_1 := qa
theorem xfh : RegIs s62r2.eq_1 := qa
theorem xfi : RegIs s62r3.eq_1 := qa
theorem xfj : RegIs s62r4.eq_1 := qa
theorem xfk : RegIs s62r5.eq_1 := qa
theorem xfl : RegIs s62r6.eq_1 := qa
theorem xfm : RegIs s62r7.eq_1 := qa
theorem xfn : RegIs s62r8.eq_1 := qa
theorem q73 : RegIs s62r10.eq_1 := qa
attribute [go_sem] xff xfg xfh xfi xfj xfk xfl xfm xfn xfe q73 e62
theorem F62 : FnIs Tryz.prog 62 Tryz.f62 [] news s62 [.tmp 4, .tmp 5] 44 := qz follows Tryz.func62
end
theorem ql3 (x : En) : ∀ l : List En, (eSet x l).length ≤ l.length + 1
 | [] => by simp [eSet]
 | y :: l => by
  have := ql3 x l
  rw [eSet]
  split
  ·simp only [List.length_cons]; omega
  ·split <;> simp
theorem ql4 (k : List UInt8) (l : List En) : (eDel k l).length ≤ l.length := List.length_filter_le _ _
theorem qk4 (x : En) : ∀ (l : List En) (i : Nat) (hi : i ≤ l.length), (∀ y ∈ l.take i, Op.bytesLess y.1 x.1 = true) → (∀ h : i < l.length, Op.bytesLess l[i].1 x.1 = false) →
  eSet x l = l.take i ++ [x] ++ l.drop (if ∃ h : i < l.length, l[i].1 = x.1 then i + 1 else i)
 | [], i, hi, _, _ => by
  have : i = 0 := by simpa using hi
  subst this
  simp [eSet]
 | y :: l, 0, _, _, h2 => by
  have := h2 (by simp)
  simp only [List.getElem_cons_zero] at this
  rw [eSet, this]
  by_cases he : y.1 = x.1 <;> simp [he]
 | y :: l, i + 1, hi, h1, h2 => by
  have hy := h1 y (by simp)
  have ih := qk4 x l i (by simpa using hi) (fun z hz => h1 z (by simp [hz])) (fun h => by have := h2 (by simpa using h); simpa only [List.getElem_cons_succ] using this)
  rw [eSet, if_pos hy, ih]
  simp only [List.take_succ_cons, List.cons_append, List.length_cons, Nat.add_lt_add_iff_right, List.getElem_cons_succ]
  split <;> simp
def Seset (l : List En) (x : En) (i : { i : Nat // i ≤ l.length ∧ ∀ y ∈ l.take i, Op.bytesLess y.1 x.1 = true }) : St :=
 ⟨[(0, true, .d (.sl 2 (l.map encEn))), (3, true, .d (.ptr 0 0)), (5, true, .own 0 2 ((l.take i.val).map encEn)), (6, true, .d (.int .i64 (i.val : Nat)))], [.row [.d (.str x.1), .d (.sl 1 (byteRows x.2))]], [0], 1⟩
theorem qq8 (l : List En) (x : En) (hl : l.length ≤ 100000) : ACall Tryz.prog 122 [.d (.sl 2 (l.map encEn)), .d (.agg (encEn x))] [] (.d (.sl 2 ((eSet x l).map encEn))) [] := by
 refine xfc.go ?_
 try (refine ev1 @encEn.eq_1 ?_; try exact True.intro)
 refine qm (Seset l x) (fun i => l.length - i.val) ⟨0, Nat.zero_le _, by simp⟩ ?_ (fun i => ?_)
 ·try (refine ev4 @Seset.eq_1 @List.take_zero.{0} @List.map_nil.{0,0} @Int.ofNat_zero ?_; try exact True.intro)
 obtain ⟨i, hi, ha⟩ := i
 have w1 : IntKind.i64.wrap ((i : Int) + 1) = ((i + 1 : Nat) : Int) := qk (show i < 9223372036854775807 by omega)
 have tl : (l.take i).length ≤ i := by rw [List.length_take]; omega
 by_cases hil : i < l.length
 ·have hd : decide ((i : Int) < (l.length : Int)) = true := by simpa using hil
  try (refine ev4 @Seset.eq_1 @hd (qq encEn l hil) @encEn.eq_1 ?_; try exact True.intro)
  (repeat (with_reducible refine ob ?_))
  refine xf _ (fun hb => ?_) (fun hb => ?_)
  ·try (refine ev2 (qq encEn l hil) @encEn.eq_1 ?_; try exact True.intro)
   (repeat (with_reducible refine ob ?_))
   refine ⟨⟨i + 1, hil, fun y hy => ?_⟩, ?_, by dsimp only; omega⟩
   ·rw [List.take_succ_eq_append_getElem hil] at hy
    rcases List.mem_append.1 hy with hy | hy
    ·exact ha y hy
    ·simp only [List.mem_singleton] at hy; subst hy; exact hb
   try (refine ev4 @Seset.eq_1 (kw encEn l hil) @encEn.eq_1 @w1 ?_; try exact True.intro)
  ·have hx := qk4 x l i hi ha (fun _ => hb)
   by_cases he : l[i].1 = x.1
   ·have he2 : (l[i].1 == x.1) = true := by simpa using he
    rw [if_pos ⟨hil, he⟩] at hx
    have hm : (eSet x l).map encEn = (l.take i).map encEn ++ [[D.str x.1, D.sl 1 (byteRows x.2)]] ++ (l.map encEn).drop (i + 1) := by rw [hx]; simp [List.map_drop, encEn]
    have ht : ((l.map encEn).drop (i + 1)).take (l.length - (i + 1)) = (l.map encEn).drop (i + 1) := List.take_of_length_le (by simp)
    have e1 : ((i : Int) + 1).toNat = i + 1 := by omega
    try (refine ev4 @hd (qq encEn l hil) @encEn.eq_1 @he2 ?_; try exact True.intro)
    refine ⟨by omega, by omega, ?_⟩
    (repeat (with_reducible refine ob ?_)); refine wx ?_
    try (refine ev4 @w1 @e1 @ht @hm ?_; try exact True.intro)
    refine ⟨by omega, by simp only [List.length_drop, List.length_map]; omega, ?_⟩
    rw [← hm]
    exact D.okWR_noPtr (js _)
   ·have he2 : (l[i].1 == x.1) = false := by simpa using he
    rw [if_neg (fun ⟨_, h⟩ => he h)] at hx
    have hm : (eSet x l).map encEn = (l.take i).map encEn ++ [[D.str x.1, D.sl 1 (byteRows x.2)]] ++ (l.map encEn).drop i := by rw [hx]; simp [List.map_drop, encEn]
    have ht : ((l.map encEn).drop i).take (l.length - i) = (l.map encEn).drop i := List.take_of_length_le (by simp)
    try (refine ev4 @hd (qq encEn l hil) @encEn.eq_1 @he2 ?_; try exact True.intro)
    refine ⟨by omega, by omega, ?_⟩
    (repeat (with_reducible refine ob ?_)); refine no_ ?_
    try (refine ev3 @Int.toNat_natCast @ht @hm ?_; try exact True.intro)
    refine ⟨by omega, by simp only [List.length_drop, List.length_map]; omega, ?_⟩
    rw [← hm]
    exact D.okWR_noPtr (js _)
 ·have hd : decide ((i : Int) < (l.length : Int)) = false := by simpa using hil
  have hx := qk4 x l i hi ha (fun h => (hil h).elim)
  rw [if_neg (fun ⟨h, _⟩ => hil h)] at hx
  have hm : (eSet x l).map encEn = (l.take i).map encEn ++ [[D.str x.1, D.sl 1 (byteRows x.2)]] ++ (l.map encEn).drop i := by rw [hx]; simp [List.map_drop, encEn]
  have ht : ((l.map encEn).drop i).take (l.length - i) = (l.map encEn).drop i := List.take_of_length_le (by simp)
  have hg : (l.map encEn).getD i [] = [] := by rw [List.getD_eq_getElem?_getD, List.getElem?_eq_none (by rw [List.length_map]; omega)]; rfl
  try (refine ev4 @Seset.eq_1 @hd @hg @Out.bad.eq_1 ?_; try exact True.intro)
  (repeat (with_reducible refine ob ?_))
  try (refine ev3 @hd @hg @Out.bad.eq_1 ?_; try exact True.intro)
  (repeat (with_reducible refine ob ?_)); refine no_ ?_
  try (refine ev3 @hd @hg @Out.bad.eq_1 ?_; try exact True.intro)
  refine ⟨by omega, ?_⟩
  (repeat (with_reducible refine ob ?_)); refine no_ ?_
  try (refine ev3 @Int.toNat_natCast @ht @hm ?_; try exact True.intro)
  refine ⟨by omega, by simp only [List.length_drop, List.length_map]; omega, ?_⟩
  rw [← hm]
  exact D.okWR_noPtr (js _)
def Sedel (l : List En) (k : List UInt8) (i : { i : Nat // i ≤ l.length }) : St :=
 ⟨[(0, true, .d (.sl 2 (l.map encEn))), (1, true, .d (.str k)), (5, true, .own 0 2 ((eDel k (l.take i.val)).map encEn)), (6, true, .d (.int .i64 (i.val : Nat)))], [], [0], 1⟩
theorem qi3 (k : List UInt8) (l : List En) {i : Nat} (h : i < l.length) : eDel k (l.take (i + 1)) = if l[i].1 = k then eDel k (l.take i) else eDel k (l.take i) ++ [l[i]] := by
 rw [List.take_succ_eq_append_getElem h, eDel, List.filter_append]
 split
 ·rename_i he; simp [eDel, he]
 ·rename_i he; simp [eDel, he]
theorem qe7 (l : List En) (k : List UInt8) (hl : l.length ≤ 100000) : ACall Tryz.prog 121 [.d (.sl 2 (l.map encEn)), .d (.str k)] [] (.d (.sl 2 ((eDel k l).map encEn))) [] := by
 refine xfd.go ?_
 try (refine ev ?_; try exact True.intro)
 refine qm (Sedel l k) (fun i => l.length - i.val) ⟨0, Nat.zero_le _⟩ ?_ (fun i => ?_)
 ·try (refine ev6 @Sedel.eq_1 @List.take_zero.{0} @eDel.eq_1 @List.filter_nil.{0} @List.map_nil.{0,0} @Int.ofNat_zero ?_; try exact True.intro)
 obtain ⟨i, hi⟩ := i
 have hdl := ql4 k (l.take i)
 rw [List.length_take] at hdl
 try (refine ev1 @Sedel.eq_1 ?_; try exact True.intro)
 (repeat (with_reducible refine ob ?_)); refine xf _ (fun h => ?_) (fun h => ?_)
 ·have hil : i < l.length := by simpa using h
  try (refine ev2 (qq encEn l hil) @encEn.eq_1 ?_; try exact True.intro)
  (repeat (with_reducible refine ob ?_))
  refine xf _ (fun hk => ?_) (fun hk => ?_)
  ·have hx : eDel k (l.take (i + 1)) = eDel k (l.take i) ++ [l[i]] := by rw [qi3 k l hil, if_neg (by simpa using hk)]
   try (refine ev2 (qq encEn l hil) @encEn.eq_1 ?_; try exact True.intro)
   (repeat (with_reducible refine ob ?_))
   refine ⟨⟨i + 1, hil⟩, ?_, by dsimp only; omega⟩
   try (refine ev7 @Sedel.eq_1 @hx @List.map_append.{0,0} @List.map_cons.{0,0} @List.map_nil.{0,0} @encEn.eq_1 (qk (show i < 9223372036854775807 by omega)) ?_; try exact True.intro)
  ·have hx : eDel k (l.take (i + 1)) = eDel k (l.take i) := by rw [qi3 k l hil, if_pos (by simpa using hk)]
   try (refine ev ?_; try exact True.intro)
   refine ⟨⟨i + 1, hil⟩, ?_, by dsimp only; omega⟩
   try (refine ev3 @Sedel.eq_1 @hx (qk (show i < 9223372036854775807 by omega)) ?_; try exact True.intro)
 ·have hil : i = l.length := by
   have : l.length ≤ i := by simpa using h
   omega
  subst hil
  try (refine ev1 @List.take_length.{0} ?_; try exact True.intro)
def SeApply (l : List En) (ops : List OpS) (n : Nat) (i : Nat) (m : List En) : St :=
 ⟨[(0, true, .d (.sl 2 (m.map encEn))), (1, true, .d (.sl 3 (ops.map encOp))), (6, true, .d (.int .i64 (i : Nat)))], [], [], 1⟩
theorem qi4 (l : List En) (ops : List OpS) (hl : l.length ≤ 400) (ho : ops.length ≤ 100000) (hv : ∀ o ∈ ops, o.val.length ≤ 1000000) :
  ACall Tryz.prog 62 [.d (.sl 2 (l.map encEn)), .d (.sl 3 (ops.map encOp))] [] (.tup [.d (.sl 2 ((eApply l ops).1.map encEn)), .d (.bool (eApply l ops).2)]) [] := by
 refine F62.goT ?_
 try (refine ev ?_; try exact True.intro)
 refine qm (fun x : { x : Nat × List En // x.1 ≤ ops.length ∧ x.2.length ≤ 400 ∧ eApply x.2 (ops.drop x.1) = eApply l ops } => SeApply l ops 0 x.val.1 x.val.2) (fun x => ops.length - x.val.1) ⟨(0, l), Nat.zero_le _, hl, rfl⟩ ?_ (fun x => ?_)
 ·try (refine ev2 @SeApply.eq_1 @Int.ofNat_zero ?_; try exact True.intro)
 obtain ⟨⟨i, m⟩, hi, hm, hx⟩ := x
 simp only at hi hm hx
 try (refine ev1 @SeApply.eq_1 ?_; try exact True.intro)
 refine xf _ (fun hc => ?_) (fun hc => ?_)
 ·have hil : i < ops.length := by simpa using hc
  rw [List.drop_eq_getElem_cons hil, eApply] at hx
  have hvi := hv _ (List.getElem_mem hil)
  try (refine ev2 (qq encOp ops hil) @encOp.eq_1 ?_; try exact True.intro)
  (repeat (with_reducible refine ob ?_))
  refine xf _ (fun hd => ?_) (fun hd => ?_)
  ·have ho : eOp m ops[i] = eDel ops[i].key m := by rw [eOp, if_pos hd]
   have hle := ql4 ops[i].key m
   try (refine ev2 (qq encOp ops hil) @encOp.eq_1 ?_; try exact True.intro)
   (repeat (with_reducible refine ob ?_))
   (repeat (with_reducible refine ob ?_)); first | refine cl xfd (qe7 m ops[i].key (by omega)) ?_ | refine clF xfd (qe7 m ops[i].key (by omega)) (fun _ => by simp only [encOp, encEn, encStep, go_sem, Nat.reduceAdd, Nat.reduceMul, Nat.reduceSub, Nat.reduceEqDiff, Nat.reduceLT, Nat.reduceLeDiff, Nat.reduceBEq, reduceIte, reduceCtorEq, Int.reduceAdd, Int.reduceLT, Int.reduceLE, Int.reduceGT, Int.reduceGE, Int.reduceEq, Int.reduceNe, Int.reduceBEq, Int.reduceBNe, Int.reduceToNat, Int.reduceNeg]) ?_
   rw [← ho] at hle ⊢
   generalize eOp m ops[i] = m' at hle hx
   try (refine ev ?_; try exact True.intro)
   refine xf _ (fun h4 => ?_) (fun h4 => ?_)
   ·rw [if_pos (by simp at h4; omega)] at hx
    try (refine ev1 hx.symm ?_; try exact True.intro)
   ·have h4' : m'.length ≤ 400 := by simp at h4; omega
    rw [if_neg (by omega)] at hx
    try (refine ev ?_; try exact True.intro)
    refine ⟨⟨(i + 1, m'), hil, h4', hx⟩, ?_, by dsimp only; omega⟩
    try (refine ev2 @SeApply.eq_1 (qk (show i < 9223372036854775807 by omega)) ?_; try exact True.intro)
  ·have ho : eOp m ops[i] = eSet (ops[i].key, ops[i].val) m := by rw [eOp, if_neg (by simp [hd])]
   have hle := ql3 (ops[i].key, ops[i].val) m
   try (refine ev2 (qq encOp ops hil) @encOp.eq_1 ?_; try exact True.intro)
   (repeat (with_reducible refine ob ?_))
   (repeat (with_reducible refine ob ?_)); first | refine cl xfc (qq8 m (ops[i].key, ops[i].val) (by omega)) ?_ | refine clF xfc (qq8 m (ops[i].key, ops[i].val) (by omega)) (fun _ => by simp only [encOp, encEn, encStep, go_sem, Nat.reduceAdd, Nat.reduceMul, Nat.reduceSub, Nat.reduceEqDiff, Nat.reduceLT, Nat.reduceLeDiff, Nat.reduceBEq, reduceIte, reduceCtorEq, Int.reduceAdd, Int.reduceLT, Int.reduceLE, Int.reduceGT, Int.reduceGE, Int.reduceEq, Int.reduceNe, Int.reduceBEq, Int.reduceBNe, Int.reduceToNat, Int.reduceNeg]) ?_
   rw [← ho] at hle ⊢
   generalize eOp m ops[i] = m' at hle hx
   try (refine ev ?_; try exact True.intro)
   refine xf _ (fun h4 => ?_) (fun h4 => ?_)
   ·rw [if_pos (by simp at h4; omega)] at hx
    try (refine ev1 hx.symm ?_; try exact True.intro)
   ·have h4' : m'.length ≤ 400 := by simp at h4; omega
    rw [if_neg (by omega)] at hx
    try (refine ev ?_; try exact True.intro)
    refine ⟨⟨(i + 1, m'), hil, h4', hx⟩, ?_, by dsimp only; omega⟩
    try (refine ev2 @SeApply.eq_1 (qk (show i < 9223372036854775807 by omega)) ?_; try exact True.intro)
 ·have hie : i = ops.length := by
   have : ops.length ≤ i := by simpa using hc
   omega
  subst hie
  rw [List.drop_length, eApply] at hx
  try (refine ev1 hx.symm ?_; try exact True.intro)
end Go.Proofs.YtinnaedmdoengaaGreat
namespace Go.Proofs.YtinnaedmdoengaaGreat
open Go.Abs
set_option linter.unusedSimpArgs false
set_option linter.unusedVariables false
noncomputable section
set_option maxRecDepth 100000
def s19r0 : List SOper := [
 ⟨some 2, .alloc 1 [(.d .nilsl), (.d (.int .i64 0)), (.d .nilsl)], none⟩,
 ⟨some 3, .mov (.k (.d (.int .i64 0))), none⟩]
def s19r1 : List SOper := [
 ⟨some 13, .mov (.t 0), none⟩,
 ⟨some 14, .call (.k (.d (.func (.func 60) [] []))) [(.t 13)], none⟩,
 ⟨some 12, .mov (.t 14), none⟩,
 ⟨some 15, .extract 0 (.t 12), none⟩,
 ⟨some 16, .extract 1 (.t 12), none⟩,
 ⟨some 4, .alloc 1 [(.d .nilsl), (.d (.int .i64 0))], none⟩,
 ⟨none, .store (some 2) (.t 4) (.t 15), none⟩,
 ⟨some 5, .mov (.t 16), none⟩]
def s19r2 : List SOper := [
 ⟨some 17, .load (some 2) (.t 4), none⟩,
 ⟨some 18, .build [.nilsl, (.int .i64 0), .nilsl] [(0, 2, (.t 17))], none⟩,
 ⟨some 6, .alloc 1 [(.d .nilsl), (.d (.int .i64 0)), (.d .nilsl)], none⟩,
 ⟨none, .store (some 3) (.t 6) (.t 18), none⟩]
def s19r3 : List SOper := [
 ⟨some 7, .mov (.k (.d (.int .i64 0))), none⟩]
def s19r4 : List SOper := [
 ⟨some 19, .mov (.t 7), none⟩,
 ⟨some 20, .mov (.t 5), none⟩,
 ⟨some 21, .len (.t 20), none⟩,
 ⟨some 22, .bin .lss (.t 19) (.t 21), none⟩]
def s19r5 : List SOper := [
 ⟨some 26, .mov (.t 5), none⟩,
 ⟨some 27, .mov (.t 7), none⟩,
 ⟨some 28, .iaddr 1 (.t 26) (.t 27), none⟩,
 ⟨some 29, .load none (.t 28), none⟩,
 ⟨some 30, .call (.k (.d (.func (.func 61) [] []))) [(.t 29)], none⟩,
 ⟨some 25, .mov (.t 30), none⟩,
 ⟨some 31, .extract 0 (.t 25), none⟩,
 ⟨some 32, .extract 1 (.t 25), none⟩,
 ⟨some 8, .mov (.t 31), none⟩,
 ⟨some 9, .mov (.t 32), none⟩]
def s19r6 : List SOper := [
 ⟨some 33, .mov (.t 9), none⟩,
 ⟨some 34, .bin .neq (.t 33) (.k (.d (.int .i64 0))), none⟩]
def s19r7 : List SOper := [
 ⟨some 35, .build [.nilsl, (.int .i64 0), .nilsl] [], none⟩,
 ⟨none, .store (some 3) (.t 2) (.t 35), none⟩,
 ⟨some 3, .mov (.k (.d (.int .i64 4))), none⟩]
def s19r8 : List SOper := [
 ⟨some 37, .faddr 2 (.t 6), none⟩,
 ⟨some 38, .load none (.t 37), none⟩,
 ⟨some 39, .mov (.t 8), none⟩,
 ⟨some 40, .call (.k (.d (.func (.func 62) [] []))) [(.t 38), (.t 39)], none⟩,
 ⟨some 36, .mov (.t 40), none⟩,
 ⟨some 41, .extract 0 (.t 36), none⟩,
 ⟨some 42, .extract 1 (.t 36), none⟩,
 ⟨some 10, .mov (.t 41), none⟩,
 ⟨some 11, .mov (.t 42), none⟩]
def s19r9 : List SOper := [
 ⟨some 43, .mov (.t 11), none⟩,
 ⟨some 44, .not (.t 43), none⟩]
def s19r10 : List SOper := [
 ⟨some 45, .build [.nilsl, (.int .i64 0), .nilsl] [], none⟩,
 ⟨none, .store (some 3) (.t 2) (.t 45), none⟩,
 ⟨some 3, .mov (.k (.d (.int .i64 4))), none⟩]
def s19r11 : List SOper := [
 ⟨some 46, .mov (.t 10), none⟩,
 ⟨some 47, .faddr 2 (.t 6), none⟩,
 ⟨none, .store none (.t 47) (.t 46), none⟩]
def s19r12 : List SOper := [
 ⟨some 23, .mov (.t 7), none⟩,
 ⟨some 24, .bin .add (.t 23) (.k (.d (.int .i64 1))), none⟩,
 ⟨some 7, .mov (.t 24), none⟩]
def s19l13 : SCode := (.seq (.seq (.region s19r4 0 []) (.cond (.t 22) .skip (.exit 0))) (.seq (.block 1 (.seq (.region s19r5 0 []) (.seq (.seq (.region s19r6 0 []) (.cond (.t 34) (.seq (.region s19r7 0 []) .ret) .skip)) (.seq (.region s19r8 0 []) (.seq (.seq (.region s19r9 0 []) (.cond (.t 44) (.seq (.region s19r10 0 []) .ret) .skip)) (.region s19r11 0 [])))))) (.region s19r12 0 [])))
theorem q74 : CodeIs s19l13.eq_1 := qc s19l13.eq_1
def s19r14 : List SOper := [
 ⟨some 48, .load (some 3) (.t 6), none⟩,
 ⟨none, .store (some 3) (.t 2) (.t 48), none⟩,
 ⟨some 3, .mov (.k (.d (.int .i64 0))), none⟩]
def s19 : SCode := (.seq (.region s19r0 1 []) (.seq (.region s19r1 1 []) (.seq (.region s19r2 1 []) (.seq (.seq (.region s19r3 0 []) (.block 0 (.loop s19l13))) (.seq (.region s19r14 0 []) .ret)))))
theorem e19 : CodeIs s19.eq_1 := qc s19.eq_1
theorem xfo : RegIs s19r0.eq_1 := qa
theorem xfp : RegIs s19r1.eq_1 := qa
theorem xfq : RegIs s19r2.eq_1 := qa
theorem xfr : RegIs s19r3.eq_1 := qa
theorem xfs : RegIs s19r4.eq_1 := qa
theorem xft : RegIs s19r5.eq_1 := qa
theorem xfu : RegIs s19r6.eq_1 := qa
theorem xfv : RegIs s19r7.eq_1 := qa
theorem xfw : RegIs s19r8.eq_1 := qa
theorem xfx : RegIs s19r9.eq_1 := qa
theorem q75 : RegIs s19r10.eq_1 := qa
theorem q76 : RegIs s19r11.eq_1 := qa
theorem q77 : RegIs s19r12.eq_1 := qa
theorem q78 : RegIs s19r14.eq_1 := qa
attribute [go_sem] xfo xfp xfq xfr xfs xft xfu xfv xfw xfx q75 q76 q77 q74 q78 e19
theorem F19 : FnIs Tryz.prog 19 Tryz.f19 [] news s19 [.cell 2 (some 3), .tmp 3] 49 := qz follows Tryz.func19
def s20r0 : List SOper := [
 ⟨some 4, .mov (.k (.d (.bool false))), none⟩]
def s20r1 : List SOper := [
 ⟨some 6, .mov (.t 0), none⟩,
 ⟨some 7, .len (.t 6), none⟩,
 ⟨some 8, .mov (.t 1), none⟩,
 ⟨some 9, .len (.t 8), none⟩,
 ⟨some 10, .bin .neq (.t 7) (.t 9), none⟩]
def s20r2 : List SOper := [
 ⟨some 4, .mov (.k (.d (.bool false))), none⟩]
def s20r3 : List SOper := [
 ⟨some 5, .mov (.k (.d (.int .i64 0))), none⟩]
def s20r4 : List SOper := [
 ⟨some 11, .mov (.t 5), none⟩,
 ⟨some 12, .mov (.t 0), none⟩,
 ⟨some 13, .len (.t 12), none⟩,
 ⟨some 14, .bin .lss (.t 11) (.t 13), none⟩]
def s20r5 : List SOper := [
 ⟨some 17, .mov (.t 0), none⟩,
 ⟨some 18, .mov (.t 5), none⟩,
 ⟨some 19, .iaddr 2 (.t 17) (.t 18), none⟩,
 ⟨some 20, .faddr 0 (.t 19), none⟩,
 ⟨some 21, .load none (.t 20), none⟩,
 ⟨some 22, .mov (.t 1), none⟩,
 ⟨some 23, .mov (.t 5), none⟩,
 ⟨some 24, .iaddr 2 (.t 22) (.t 23), none⟩,
 ⟨some 25, .faddr 0 (.t 24), none⟩,
 ⟨some 26, .load none (.t 25), none⟩,
 ⟨some 27, .bin .neq (.t 21) (.t 26), none⟩,
 ⟨some 28, .mov (.t 27), none⟩,
 ⟨some 29, .mov (.t 0), some (28, false)⟩,
 ⟨some 30, .mov (.t 5), some (28, false)⟩,
 ⟨some 31, .iaddr 2 (.t 29) (.t 30), some (28, false)⟩,
 ⟨some 32, .faddr 1 (.t 31), some (28, false)⟩,
 ⟨some 33, .load none (.t 32), some (28, false)⟩,
 ⟨some 34, .b2s (.t 33), some (28, false)⟩,
 ⟨some 35, .mov (.t 1), some (28, false)⟩,
 ⟨some 36, .mov (.t 5), some (28, false)⟩,
 ⟨some 37, .iaddr 2 (.t 35) (.t 36), some (28, false)⟩,
 ⟨some 38, .faddr 1 (.t 37), some (28, false)⟩,
 ⟨some 39, .load none (.t 38), some (28, false)⟩,
 ⟨some 40, .b2s (.t 39), some (28, false)⟩,
 ⟨some 41, .bin .neq (.t 34) (.t 40), some (28, false)⟩,
 ⟨some 42, .pick (.t 28) (.k (.d (.bool true))) (.t 41), none⟩]
def s20r6 : List SOper := [
 ⟨some 4, .mov (.k (.d (.bool false))), none⟩]
def s20r7 : List SOper := [
 ⟨some 15, .mov (.t 5), none⟩,
 ⟨some 16, .bin .add (.t 15) (.k (.d (.int .i64 1))), none⟩,
 ⟨some 5, .mov (.t 16), none⟩]
def s20l8 : SCode := (.seq (.seq (.region s20r4 0 []) (.cond (.t 14) .skip (.exit 0))) (.seq (.block 1 (.seq (.region s20r5 0 []) (.cond (.t 42) (.seq (.region s20r6 0 []) .ret) .skip))) (.region s20r7 0 [])))
theorem xfy : CodeIs s20l8.eq_1 := qc s20l8.eq_1
def s20r9 : List SOper := [
 ⟨some 4, .mov (.k (.d (.bool true))), none⟩]
def s20 : SCode := (.seq (.region s20r0 0 []) (.seq (.seq (.region s20r1 0 []) (.cond (.t 10) (.seq (.region s20r2 0 []) .ret) .skip)) (.seq (.seq (.region s20r3 0 []) (.block 0 (.loop s20l8))) (.seq (.region s20r9 0 []) .ret))))
theorem e20 : CodeIs s20.eq_1 := qc s20.eq_1
theorem xfz : RegIs s20r0.eq_1 := qa
theorem xf0 : RegIs s20r1.eq_1 := qa
theorem xf1 : RegIs s20r2.eq_1 := qa
theorem xf2 : RegIs s20r3.eq_1 := qa
theorem xf3 : RegIs s20r4.eq_1 := qa
theorem xf4 : RegIs s20r5.eq_1 := qa
theorem xf5 : RegIs s20r6.eq_1 := qa
theorem xf6 : RegIs s20r7.eq_1 := qa
theorem xf7 : RegIs s20r9.eq_1 := qa
attribute [go_sem] xfz xf0 xf1 xf2 xf3 xf4 xf5 xf6 xfy xf7 e20
theorem F20 : FnIs Tryz.prog 20 Tryz.f20 [] news s20 [.tmp 4] 43 := qz follows Tryz.func20
end
def eOpenA : List En → List (List UInt8) → Option (List En)
 | m, [] => some m
 | m, b :: l => if (sDecode b).2 ≠ 0 then none else if (eApply m (sDecode b).1).2 = false then none else eOpenA (eApply m (sDecode b).1).1 l
theorem qi5 : ∀ (l : List (List UInt8)) {m : Cont}, m.Ok → m.l.length ≤ 400 → (openA m l).map entsOf = eOpenA (entsOf m) l
 | [], m, _, _ => rfl
 | b :: l, m, h, hl => by
  rw [openA, eOpenA]
  split
  ·rfl
  ·obtain ⟨k1, k2⟩ := qaq (sDecode b).1 h hl
   rw [← k1]
   split
   ·rfl
   ·rename_i ha
    obtain ⟨k3, k4, k5⟩ := k2 (by simpa using ha)
    rw [qi5 l k4 k5, k3]
theorem qax : ∀ (ops : List OpS) (m : List En), m.length ≤ 400 → (eApply m ops).2 = true → (eApply m ops).1.length ≤ 400
 | [], m, h, _ => h
 | o :: ops, m, h, hy => by
  rw [eApply] at hy ⊢
  split at hy
  ·cases hy
  ·rename_i h4
   rw [if_neg h4]
   exact qax ops _ (by omega) hy
def encSt (file : List UInt8) (synced : Int) (m : List En) : List D := [.sl 1 (byteRows file), .int .i64 synced, .sl 2 (m.map encEn)]
theorem qk5 (file : List UInt8) (synced : Int) (m : List En) : D.noPtrL (encSt file synced m) = true := by simp only [encSt, D.noPtrL, D.noPtr, xa, js, Bool.and_self]
attribute [go_sem] qk5
def rOpenV (file : List UInt8) : List D := match eOpenA [] (wRecs file) with
 | some m => encSt (file.take (wUsed file)) (wUsed file : Nat) m
 | none => [.nilsl, .int .i64 0, .nilsl]
def rOpenE (file : List UInt8) : Int := match eOpenA [] (wRecs file) with
 | some m => 0
 | none => 4
def SrOpen (file : List UInt8) (i : Nat) (m : List En) : St :=
 ⟨[(2, true, .d (.ptr 0 0)), (5, true, .d (.sl 1 (recRows (wRecs file)))), (6, true, .d (.ptr 2 0)), (7, true, .d (.int .i64 (i : Nat)))], [.row [.d .nilsl, .d (.int .i64 0), .d .nilsl], .row [.d (.sl 1 (byteRows (file.take (wUsed file)))), .d (.int .i64 (wUsed file : Nat))], .row [.d (.sl 1 (byteRows (file.take (wUsed file)))), .d (.int .i64 (wUsed file : Nat)), .d (.sl 2 (m.map encEn))]], [], 1⟩
set_option maxRecDepth 10000 in
theorem qi6 (file : List UInt8) (hb : file.length ≤ 1000000000) : ACall Tryz.prog 19 [.d (.sl 1 (byteRows file))] [] (.tup [.d (.agg (rOpenV file)), .d (.int .i64 (rOpenE file))]) [] := by
 have hln := qis file
 refine F19.goT ?_
 try (refine ev ?_; try exact True.intro)
 (repeat (with_reducible refine ob ?_)); first | refine cl F60 (ql0 file hb) ?_ | refine clF F60 (ql0 file hb) (fun _ => by simp only [encOp, encEn, encStep, go_sem, Nat.reduceAdd, Nat.reduceMul, Nat.reduceSub, Nat.reduceEqDiff, Nat.reduceLT, Nat.reduceLeDiff, Nat.reduceBEq, reduceIte, reduceCtorEq, Int.reduceAdd, Int.reduceLT, Int.reduceLE, Int.reduceGT, Int.reduceGE, Int.reduceEq, Int.reduceNe, Int.reduceBEq, Int.reduceBNe, Int.reduceToNat, Int.reduceNeg]) ?_
 try (refine ev1 @encLog.eq_1 ?_; try exact True.intro)
 refine qm (fun x : { x : Nat × List En // x.1 ≤ (wRecs file).length ∧ x.2.length ≤ 400 ∧ eOpenA x.2 ((wRecs file).drop x.1) = eOpenA [] (wRecs file) } => SrOpen file x.val.1 x.val.2) (fun x => (wRecs file).length - x.val.1) ⟨(0, []), Nat.zero_le _, by simp, by simp⟩ ?_ (fun x => ?_)
 ·try (refine ev3 @SrOpen.eq_1 @Int.ofNat_zero @List.map_nil.{0,0} ?_; try exact True.intro)
 obtain ⟨⟨i, m⟩, hi, hm, hx⟩ := x
 simp only at hi hm hx
 try (refine ev1 @SrOpen.eq_1 ?_; try exact True.intro)
 refine xf _ (fun hc => ?_) (fun hc => ?_)
 ·have hil : i < (wRecs file).length := by simpa using hc
  have hr := wv file _ (List.getElem_mem hil)
  rw [List.drop_eq_getElem_cons hil, eOpenA] at hx
  try simp only [qbh _ hil, go_sem, Nat.reduceAdd, Nat.reduceMul, Nat.reduceSub, Nat.reduceEqDiff, Nat.reduceLT, Nat.reduceLeDiff, Nat.reduceBEq, reduceIte, reduceCtorEq, Int.reduceAdd, Int.reduceLT, Int.reduceLE, Int.reduceGT, Int.reduceGE, Int.reduceEq, Int.reduceNe, Int.reduceBEq, Int.reduceBNe, Int.reduceToNat, Int.reduceNeg]
  (repeat (with_reducible refine ob ?_))
  (repeat (with_reducible refine ob ?_)); first | refine cl F61 (qbg (wRecs file)[i] (by omega)) ?_ | refine clF F61 (qbg (wRecs file)[i] (by omega)) (fun _ => by simp only [encOp, encEn, encStep, go_sem, Nat.reduceAdd, Nat.reduceMul, Nat.reduceSub, Nat.reduceEqDiff, Nat.reduceLT, Nat.reduceLeDiff, Nat.reduceBEq, reduceIte, reduceCtorEq, Int.reduceAdd, Int.reduceLT, Int.reduceLE, Int.reduceGT, Int.reduceGE, Int.reduceEq, Int.reduceNe, Int.reduceBEq, Int.reduceBNe, Int.reduceToNat, Int.reduceNeg]) ?_
  try (refine ev ?_; try exact True.intro)
  refine xf _ (fun he => ?_) (fun he => ?_)
  ·rw [if_pos (by simpa using he)] at hx
   have hV : rOpenV file = [.nilsl, .int .i64 0, .nilsl] := by rw [rOpenV, ← hx]
   have hE : rOpenE file = 4 := by rw [rOpenE, ← hx]
   try (refine ev2 @hV @hE ?_; try exact True.intro)
  ·rw [if_neg (by simpa using he)] at hx
   obtain ⟨g1, g2⟩ := vt (b := (wRecs file)[i]) (by omega) (by simpa using he)
   try (refine ev ?_; try exact True.intro)
   (repeat (with_reducible refine ob ?_)); first | refine cl F62 (qi4 m (sDecode (wRecs file)[i]).1 hm (by omega) (fun o ho => by have := (xl.1 (g2 o ho)).2.2.1; omega)) ?_ | refine clF F62 (qi4 m (sDecode (wRecs file)[i]).1 hm (by omega) (fun o ho => by have := (xl.1 (g2 o ho)).2.2.1; omega)) (fun _ => by simp only [encOp, encEn, encStep, go_sem, Nat.reduceAdd, Nat.reduceMul, Nat.reduceSub, Nat.reduceEqDiff, Nat.reduceLT, Nat.reduceLeDiff, Nat.reduceBEq, reduceIte, reduceCtorEq, Int.reduceAdd, Int.reduceLT, Int.reduceLE, Int.reduceGT, Int.reduceGE, Int.reduceEq, Int.reduceNe, Int.reduceBEq, Int.reduceBNe, Int.reduceToNat, Int.reduceNeg]) ?_
   try (refine ev ?_; try exact True.intro)
   refine xf _ (fun ha => ?_) (fun ha => ?_)
   ·rw [if_pos (by simpa using ha)] at hx
    have hV : rOpenV file = [.nilsl, .int .i64 0, .nilsl] := by rw [rOpenV, ← hx]
    have hE : rOpenE file = 4 := by rw [rOpenE, ← hx]
    try (refine ev2 @hV @hE ?_; try exact True.intro)
   ·rw [if_neg (by simpa using ha)] at hx
    have hl4 := qax (sDecode (wRecs file)[i]).1 m hm (by simpa using ha)
    try (refine ev ?_; try exact True.intro)
    refine ⟨⟨(i + 1, (eApply m (sDecode (wRecs file)[i]).1).1), hil, hl4, hx⟩, ?_, by dsimp only; omega⟩
    try (refine ev2 @SrOpen.eq_1 (qk (show i < 9223372036854775807 by omega)) ?_; try exact True.intro)
 ·have hie : i = (wRecs file).length := by
   have : (wRecs file).length ≤ i := by simpa using hc
   omega
  subst hie
  rw [List.drop_length, eOpenA] at hx
  have hV : rOpenV file = encSt (file.take (wUsed file)) (wUsed file : Nat) m := by rw [rOpenV, ← hx]
  have hE : rOpenE file = 0 := by rw [rOpenE, ← hx]
  try (refine ev3 @hV @hE @encSt.eq_1 ?_; try exact True.intro)
theorem q8w {α : Type} (f : α → Bool) (l : List α) : (l.all f = true) = ∀ i, (h : i < l.length) → f l[i] = true := by
 rw [List.all_eq_true]
 refine propext ⟨fun h i hi => h _ (List.getElem_mem hi), fun h x hx => ?_⟩
 obtain ⟨i, hi, rfl⟩ := List.getElem_of_mem hx
 exact h i hi
def SsameEn (a b : List En) (i : Nat) : St :=
 ⟨[(0, true, .d (.sl 2 (a.map encEn))), (1, true, .d (.sl 2 (b.map encEn))), (5, true, .d (.int .i64 (i : Nat)))], [], [], 1⟩
set_option maxRecDepth 10000 in
theorem qq9 (a b : List En) (ha : a.length ≤ 100000) (hb : b.length ≤ 100000) : ACall Tryz.prog 20 [.d (.sl 2 (a.map encEn)), .d (.sl 2 (b.map encEn))] [] (.d (.bool (a == b))) [] := by
 refine F20.go ?_
 try (refine ev ?_; try exact True.intro)
 refine xf _ (fun hc => ?_) (fun hc => ?_)
 ·have hf : (a == b) = false := by
   rw [beq_eq_false_iff_ne]
   rintro rfl
   simp at hc
  try (refine ev1 @hf ?_; try exact True.intro)
 have hab : a.length = b.length := by simp at hc; omega
 try (refine ev ?_; try exact True.intro)
 refine qm (fun i : { i : Nat // i ≤ a.length ∧ a.take i = b.take i } => SsameEn a b i.val) (fun i => a.length - i.val) ⟨0, Nat.zero_le _, rfl⟩ ?_ (fun i => ?_)
 ·try (refine ev2 @SsameEn.eq_1 @Int.ofNat_zero ?_; try exact True.intro)
 obtain ⟨i, hi, ht⟩ := i
 try (refine ev1 @SsameEn.eq_1 ?_; try exact True.intro)
 refine xf _ (fun hc => ?_) (fun hc => ?_)
 ·have hil : i < a.length := by simpa using hc
  have hib : i < b.length := by omega
  try (refine ev3 (qq encEn a hil) (qq encEn b hib) @encEn.eq_1 ?_; try exact True.intro)
  refine ⟨by omega, by omega, fun h => ⟨h, h, by omega⟩, fun h => ⟨h, h, by omega⟩, fun h => by simpa using h, ?_⟩
  refine xf _ (fun hd => ?_) (fun hd => ?_)
  ·have hf : (a == b) = false := by
    rw [beq_eq_false_iff_ne]
    rintro rfl
    simp at hd
   try (refine ev1 @hf ?_; try exact True.intro)
  ·have hab2 : a[i] = b[i] := by
    simp only [Bool.or_eq_false_iff, Bool.not_eq_false', beq_iff_eq] at hd
    exact Prod.ext hd.1 (by first | exact hd.2 | simpa using hd.2)
   try (refine ev ?_; try exact True.intro)
   refine ⟨⟨i + 1, hil, by rw [List.take_succ_eq_append_getElem hil, List.take_succ_eq_append_getElem hib, ht, hab2]⟩, ?_, by dsimp only; omega⟩
   try (refine ev2 @SsameEn.eq_1 (qk (show i < 9223372036854775807 by omega)) ?_; try exact True.intro)
 ·have hie : i = a.length := by
   have : a.length ≤ i := by simpa using hc
   omega
  have : a = b := by
   have h1 : a.take i = a := by rw [hie, List.take_length]
   have h2 : b.take i = b := by rw [hie, hab, List.take_length]
   rw [h1, h2] at ht
   exact ht
  have hf : (a == b) = true := by rw [this]; exact beq_self_eq_true b
  try (refine ev1 @hf ?_; try exact True.intro)
noncomputable section
set_option maxRecDepth 100000
def s4r0 : List SOper := [
 ⟨some 2, .mov (.k (.d (.bool false))), none⟩]
def s4r1 : List SOper := [
 ⟨some 7, .call (.k (.d (.func (.func 17) [] []))) [], none⟩,
 ⟨some 8, .not (.t 7), none⟩]
def s4r2 : List SOper := [
 ⟨some 2, .mov (.k (.d (.bool false))), none⟩]
def s4r3 : List SOper := [
 ⟨some 9, .mov (.t 0), none⟩,
 ⟨some 10, .len (.t 9), none⟩,
 ⟨some 11, .bin .gtr (.t 10) (.k (.d (.int .i64 3000))), none⟩]
def s4r4 : List SOper := [
 ⟨some 2, .mov (.k (.d (.bool true))), none⟩]
def s4r5 : List SOper := [
 ⟨some 13, .mov (.t 0), none⟩,
 ⟨some 14, .call (.k (.d (.func (.func 18) [] []))) [(.t 13)], none⟩,
 ⟨some 12, .mov (.t 14), none⟩,
 ⟨some 15, .extract 0 (.t 12), none⟩,
 ⟨some 16, .extract 1 (.t 12), none⟩,
 ⟨some 3, .mov (.t 15), none⟩,
 ⟨some 4, .mov (.t 16), none⟩]
def s4r6 : List SOper := [
 ⟨some 18, .mov (.t 0), none⟩,
 ⟨some 19, .call (.k (.d (.func (.func 19) [] []))) [(.t 18)], none⟩,
 ⟨some 17, .mov (.t 19), none⟩,
 ⟨some 20, .extract 0 (.t 17), none⟩,
 ⟨some 21, .extract 1 (.t 17), none⟩,
 ⟨some 5, .alloc 1 [(.d .nilsl), (.d (.int .i64 0)), (.d .nilsl)], none⟩,
 ⟨none, .store (some 3) (.t 5) (.t 20), none⟩,
 ⟨some 6, .mov (.t 21), none⟩]
def s4r7 : List SOper := [
 ⟨some 22, .mov (.t 4), none⟩,
 ⟨some 23, .mov (.t 6), none⟩,
 ⟨some 24, .bin .neq (.t 22) (.t 23), none⟩]
def s4r8 : List SOper := [
 ⟨some 2, .mov (.k (.d (.bool false))), none⟩]
def s4r9 : List SOper := [
 ⟨some 25, .mov (.t 4), none⟩,
 ⟨some 26, .bin .neq (.t 25) (.k (.d (.int .i64 0))), none⟩]
def s4r10 : List SOper := [
 ⟨some 27, .mov (.t 3), none⟩,
 ⟨some 28, .eqnil false .ptr (.t 27), none⟩,
 ⟨some 2, .mov (.t 28), none⟩]
def s4r11 : List SOper := [
 ⟨some 29, .mov (.t 3), none⟩,
 ⟨some 30, .call (.k (.d (.func (.func 21) [] []))) [(.t 29), (.k (.d (.str [])))], none⟩,
 ⟨some 31, .faddr 2 (.t 5), none⟩,
 ⟨some 32, .load none (.t 31), none⟩,
 ⟨some 33, .call (.k (.d (.func (.func 20) [] []))) [(.t 30), (.t 32)], none⟩,
 ⟨some 34, .mov (.t 33), none⟩,
 ⟨some 35, .mov (.t 3), some (34, true)⟩,
 ⟨some 36, .call (.k (.d (.func (.func 22) [] []))) [(.t 35)], some (34, true)⟩,
 ⟨some 37, .field none 0 (.t 36), some (34, true)⟩,
 ⟨some 38, .b2s (.t 37), some (34, true)⟩,
 ⟨some 39, .faddr 0 (.t 5), some (34, true)⟩,
 ⟨some 40, .faddr 0 (.t 39), some (34, true)⟩,
 ⟨some 41, .load none (.t 40), some (34, true)⟩,
 ⟨some 42, .b2s (.t 41), some (34, true)⟩,
 ⟨some 43, .bin .eql (.t 38) (.t 42), some (34, true)⟩,
 ⟨some 44, .pick (.t 34) (.t 43) (.k (.d (.bool false))), none⟩,
 ⟨some 45, .mov (.t 44), none⟩,
 ⟨some 46, .mov (.t 3), some (45, true)⟩,
 ⟨some 47, .call (.k (.d (.func (.func 22) [] []))) [(.t 46)], some (45, true)⟩,
 ⟨some 48, .field none 1 (.t 47), some (45, true)⟩,
 ⟨some 49, .faddr 0 (.t 5), some (45, true)⟩,
 ⟨some 50, .faddr 1 (.t 49), some (45, true)⟩,
 ⟨some 51, .load none (.t 50), some (45, true)⟩,
 ⟨some 52, .bin .eql (.t 48) (.t 51), some (45, true)⟩,
 ⟨some 53, .pick (.t 45) (.t 52) (.k (.d (.bool false))), none⟩,
 ⟨some 2, .mov (.t 53), none⟩]
def s4 : SCode := (.seq (.region s4r0 0 []) (.seq (.seq (.region s4r1 0 []) (.cond (.t 8) (.seq (.region s4r2 0 []) .ret) .skip)) (.seq (.seq (.region s4r3 0 []) (.cond (.t 11) (.seq (.region s4r4 0 []) .ret) .skip)) (.seq (.region s4r5 2 []) (.seq (.region s4r6 1 []) (.seq (.seq (.region s4r7 0 []) (.cond (.t 24) (.seq (.region s4r8 0 []) .ret) .skip)) (.seq (.seq (.region s4r9 0 []) (.cond (.t 26) (.seq (.region s4r10 0 []) .ret) .skip)) (.seq (.region s4r11 0 [(1, 3), (7, 12), (7, 13), (18, 22)]) .ret))))))))
theorem e4 : CodeIs s4.eq_1 := qc s4.eq_1
theorem xi2 : RegIs s4r0.eq_1 := qa
theorem xi3 : RegIs s4r1.eq_1 := qa
theorem xi4 : RegIs s4r2.eq_1 := qa
theorem xi5 : RegIs s4r3.eq_1 := qa
theorem xi6 : RegIs s4r4.eq_1 := qa
theorem xi7 : RegIs s4r5.eq_1 := qa
theorem xi8 : RegIs s4r6.eq_1 := qa
theorem xi9 : RegIs s4r7.eq_1 := qa
theorem xja : RegIs s4r8.eq_1 := qa
theorem xjb : RegIs s4r9.eq_1 := qa
theorem xf8 : RegIs s4r10.eq_1 := qa
theorem xf9 : RegIs s4r11.eq_1 := qa
attribute [go_sem] xi2 xi3 xi4 xi5 xi6 xi7 xi8 xi9 xja xjb xf8 xf9 e4
theorem F4 : FnIs Tryz.prog 4 Tryz.f4 [] news s4 [.tmp 2] 54 := qz follows Tryz.func4
end
theorem qn4 : ∀ (l : List (List UInt8)) {m m' : List En}, m.length ≤ 400 → eOpenA m l = some m' → m'.length ≤ 400
 | [], m, m', h, he => by cases he; exact h
 | b :: l, m, m', h, he => by
  rw [eOpenA] at he
  split at he
  ·cases he
  ·split at he
   ·cases he
   ·rename_i ha
    exact qn4 l (qax _ m h (by simpa using ha)) he
theorem qi7 : entsOf emptyC = [] := List.eq_nil_of_length_eq_zero (by rw [qbs]; rfl)
set_option maxRecDepth 10000 in
theorem qi8 (file : List UInt8) (hb : file.length ≤ maxLen) : ACall Tryz.prog 4 [.d (.sl 1 (byteRows file))] [] (.d (.bool true)) [] := by
 refine F4.go ?_
 try (refine ev ?_; try exact True.intro)
 (repeat (with_reducible refine ob ?_)); first | refine cl F17 (qev) ?_ | refine clF F17 (qev) (fun _ => by simp only [encOp, encEn, encStep, go_sem, Nat.reduceAdd, Nat.reduceMul, Nat.reduceSub, Nat.reduceEqDiff, Nat.reduceLT, Nat.reduceLeDiff, Nat.reduceBEq, reduceIte, reduceCtorEq, Int.reduceAdd, Int.reduceLT, Int.reduceLE, Int.reduceGT, Int.reduceGE, Int.reduceEq, Int.reduceNe, Int.reduceBEq, Int.reduceBNe, Int.reduceToNat, Int.reduceNeg]) ?_
 try (refine ev ?_; try exact True.intro)
 (repeat (with_reducible refine ob ?_)); refine no_ ?_
 try (refine ev ?_; try exact True.intro)
 (repeat (with_reducible refine ob ?_)); refine xf _ (fun h => ?_) (fun h => ?_)
 ·try (refine ev ?_; try exact True.intro)
 have hb3 : file.length ≤ 3000 := by simp at h; omega
 have hrel := qi5 (wRecs file) (m := emptyC) qdd.ok (Nat.zero_le _)
 rw [qi7] at hrel
 cases hs : sOpen file with
 | none =>
  have ho := qws (by omega) hs
  have hm : openA emptyC (wRecs file) = none := by
   unfold sOpen at hs
   rwa [Option.map_eq_none_iff] at hs
  rw [hm] at hrel
  have hV : rOpenV file = [.nilsl, .int .i64 0, .nilsl] := by rw [rOpenV, ← hrel]; rfl
  have hE : rOpenE file = 4 := by rw [rOpenE, ← hrel]; rfl
  have hr := qi6 file (by omega)
  rw [hV, hE] at hr
  try (refine ev ?_; try exact True.intro)
  refine clO [0, 1] F18 ho ?_
  try (refine ev ?_; try exact True.intro)
  (repeat (with_reducible refine ob ?_)); first | refine cl F19 (hr) ?_ | refine clF F19 (hr) (fun _ => by simp only [encOp, encEn, encStep, go_sem, Nat.reduceAdd, Nat.reduceMul, Nat.reduceSub, Nat.reduceEqDiff, Nat.reduceLT, Nat.reduceLeDiff, Nat.reduceBEq, reduceIte, reduceCtorEq, Int.reduceAdd, Int.reduceLT, Int.reduceLE, Int.reduceGT, Int.reduceGE, Int.reduceEq, Int.reduceNe, Int.reduceBEq, Int.reduceBNe, Int.reduceToNat, Int.reduceNeg]) ?_
  try (refine ev ?_; try exact True.intro)
  (repeat (with_reducible refine ob ?_)); refine no_ ?_
  try (refine ev ?_; try exact True.intro)
  (repeat (with_reducible refine ob ?_)); refine wx ?_
  try (refine ev ?_; try exact True.intro)
 | some s =>
  obtain ⟨g1, g2, g3⟩ := qn3 hs
  have ho := qty (by omega) hs
  have hm : openA emptyC (wRecs file) = some s.m := by
   unfold sOpen at hs
   rw [Option.map_eq_some_iff] at hs
   obtain ⟨m, hm, rfl⟩ := hs
   exact hm
  rw [hm] at hrel
  have hV : rOpenV file = encSt s.file s.synced (entsOf s.m) := by rw [rOpenV, ← hrel, g2, g3]; rfl
  have hE : rOpenE file = 0 := by rw [rOpenE, ← hrel]; rfl
  have hr := qi6 file (by omega)
  rw [hV, hE] at hr
  have hfl : s.file.length ≤ 3000 := by rw [g2, List.length_take]; omega
  have hcon := qeu s [] 1 ⟨g1, by omega⟩
  have hlog := q0k s (by omega)
  have hel : (entsOf s.m).length ≤ 400 := by rw [qbs]; exact g1.few
  have hse := qq9 (entsOf s.m) (entsOf s.m) (by omega) (by omega)
  rw [beq_self_eq_true] at hse
  change ACall _ _ _ _ (.d (.sl 2 ((entsOf s.m).map encEn))) _ at hcon
  simp only [stoO, mapO] at ho hcon hlog
  try (refine ev ?_; try exact True.intro)
  refine clO [0, 1] F18 ho ?_
  try (refine ev ?_; try exact True.intro)
  (repeat (with_reducible refine ob ?_)); first | refine cl F19 (hr) ?_ | refine clF F19 (hr) (fun _ => by simp only [encOp, encEn, encStep, go_sem, Nat.reduceAdd, Nat.reduceMul, Nat.reduceSub, Nat.reduceEqDiff, Nat.reduceLT, Nat.reduceLeDiff, Nat.reduceBEq, reduceIte, reduceCtorEq, Int.reduceAdd, Int.reduceLT, Int.reduceLE, Int.reduceGT, Int.reduceGE, Int.reduceEq, Int.reduceNe, Int.reduceBEq, Int.reduceBNe, Int.reduceToNat, Int.reduceNeg]) ?_
  try (refine ev1 @encSt.eq_1 ?_; try exact True.intro)
  (repeat (with_reducible refine ob ?_)); refine no_ ?_
  try (refine ev ?_; try exact True.intro)
  (repeat (with_reducible refine ob ?_)); refine no_ ?_
  try (refine ev ?_; try exact True.intro)
  (repeat (with_reducible refine ob ?_))
  refine clO [1, 0] F21 hcon ?_
  try (refine ev ?_; try exact True.intro)
  (repeat (with_reducible refine ob ?_))
  (repeat (with_reducible refine ob ?_)); first | refine cl F20 (hse) ?_ | refine clF F20 (hse) (fun _ => by simp only [encOp, encEn, encStep, go_sem, Nat.reduceAdd, Nat.reduceMul, Nat.reduceSub, Nat.reduceEqDiff, Nat.reduceLT, Nat.reduceLeDiff, Nat.reduceBEq, reduceIte, reduceCtorEq, Int.reduceAdd, Int.reduceLT, Int.reduceLE, Int.reduceGT, Int.reduceGE, Int.reduceEq, Int.reduceNe, Int.reduceBEq, Int.reduceBNe, Int.reduceToNat, Int.reduceNeg]) ?_
  try (refine ev ?_; try exact True.intro)
  (repeat (with_reducible refine ob ?_))
  refine clO [1, 0] F22 hlog ?_
  try (refine ev1 @encLog.eq_1 ?_; try exact True.intro)
  refine clO [1, 0] F22 hlog ?_
  try (refine ev1 @encLog.eq_1 ?_; try exact True.intro)
end Go.Proofs.YtinnaedmdoengaaGreat
namespace Go.Proofs.YtinnaedmdoengaaGreat
open Go.Abs
set_option linter.unusedSimpArgs false
set_option maxRecDepth 100000
theorem qgk {α : Type} {enc : α → List D} {Q : α → Prop} : ∀ {rows : List (List D)}, (∀ r ∈ rows, ∃ x, r = enc x ∧ Q x) → ∃ l : List α, rows = l.map enc ∧ ∀ x ∈ l, Q x
 | [], _ => ⟨[], rfl, by simp⟩
 | r :: rows, h => by
  obtain ⟨x, rfl, hx⟩ := h r (by simp)
  obtain ⟨l, rfl, hl⟩ := qgk (enc := enc) (Q := Q) (rows := rows) (fun r hr => h r (by simp [hr]))
  exact ⟨x :: l, rfl, by simpa using ⟨hx, hl⟩⟩
theorem q79 {n : Int} (h : (Lit.int .i64 n).wf = true) : I64 n := by
 have h1 : IntKind.i64.min = -9223372036854775808 := by decide
 have h2 : IntKind.i64.max = 9223372036854775807 := by decide
 simp only [Lit.wf, Bool.and_eq_true, decide_eq_true_eq, h1, h2] at h
 exact h
theorem xga {n : Int} (h : (Lit.int .u8 n).wf = true) : 0 ≤ n ∧ n ≤ 255 := by
 have h1 : IntKind.u8.min = 0 := by decide
 have h2 : IntKind.u8.max = 255 := by decide
 simp only [Lit.wf, Bool.and_eq_true, decide_eq_true_eq, h1, h2] at h
 exact h
theorem q8a {n : Nat} {ds : List D} (h : Shp Tryz.prog (n + 1) 3 ds) : ∃ x, ds = [.int .i64 x] ∧ I64 x := by
 simp only [Shp, Tryz.underlying3] at h
 obtain ⟨x, rfl, h⟩ := h
 exact ⟨x, rfl, q79 h⟩
theorem xgb {n : Nat} {ds : List D} (h : Shp Tryz.prog (n + 1) 5 ds) : ∃ x : Nat, ds = [.int .u8 (x : Nat)] ∧ x < 256 := by
 simp only [Shp, Tryz.underlying5] at h
 obtain ⟨x, rfl, h⟩ := h
 have := xga h
 refine ⟨x.toNat, ?_, by omega⟩
 rw [Int.toNat_of_nonneg this.1]
theorem qwu {n : Nat} {ds : List D} (h : Shp Tryz.prog (n + 1) 5 ds) : ∃ c : UInt8, ds = [byteD c] ∧ True := by
 obtain ⟨x, rfl, hx⟩ := xgb h
 refine ⟨UInt8.ofNat x, ?_, trivial⟩
 simp [byteD, UInt8.toNat_ofNat]
 omega
theorem qi9 (s : List UInt8) : s.map (fun c => [byteD c]) = byteRows s := by
 induction s with
 | nil => rfl
 | cons c s ih => rw [List.map_cons, ih]; rfl
theorem qtz : Tryz.prog.cellsOf 5 = 1 := by kernel_rfl
theorem ql5 {n : Nat} {ds : List D} (h : Shp Tryz.prog (n + 2) 42 ds) : ∃ s : List UInt8, ds = [.sl 1 (byteRows s)] ∧ s.length ≤ maxLen := by
 rw [Shp] at h
 simp only [Tryz.underlying42] at h
 obtain ⟨r, rfl, l, h⟩ := h
 obtain ⟨s, rfl, _⟩ := qgk fun r hr => qwu (h r hr)
 exact ⟨s, by rw [qtz, qi9], by simpa using l⟩
theorem q8b {n : Nat} {ds : List D} (h : Shp Tryz.prog (n + 1) 9 ds) : ∃ s : List UInt8, ds = [.str s] ∧ s.length ≤ maxLen := by
 simp only [Shp, Tryz.underlying9] at h
 exact h
theorem qwv {n : Nat} {ds : List D} (h : Shp Tryz.prog (n + 3) 76 ds) : ∃ o : OpS, ds = encOp o ∧ o.key.length ≤ maxLen ∧ o.val.length ≤ maxLen := by
 rw [Shp] at h
 simp only [Tryz.underlying76, ShpFs] at h
 obtain ⟨_, _, rfl, h1, _, _, rfl, h2, _, _, rfl, h3, rfl⟩ := h
 obtain ⟨a1, rfl, l1⟩ := q8b h1
 simp only [Shp, Tryz.underlying4] at h2
 obtain ⟨a2, rfl⟩ := h2
 obtain ⟨a3, rfl, l3⟩ := ql5 h3
 exact ⟨⟨a1, a2, a3⟩, rfl, l1, l3⟩
theorem qn5 : Tryz.prog.cellsOf 76 = 3 := by kernel_rfl
theorem q8c {n : Nat} {ds : List D} (h : Shp Tryz.prog (n + 4) 62 ds) : ∃ l : List OpS, ds = [.sl 3 (l.map encOp)] ∧ l.length ≤ maxLen := by
 rw [Shp] at h
 simp only [Tryz.underlying62] at h
 obtain ⟨r, rfl, l, h⟩ := h
 obtain ⟨s, rfl, _⟩ := qgk fun r hr => qwv (h r hr)
 exact ⟨s, by rw [qn5], by simpa using l⟩
theorem qra {n : Nat} {ds : List D} (h : Shp Tryz.prog (n + 5) 64 ds) : ∃ x : StepS, ds = encStep x ∧ x.ops.length ≤ maxLen := by
 rw [Shp] at h
 simp only [Tryz.underlying64, ShpFs] at h
 obtain ⟨_, _, rfl, h1, _, _, rfl, h2, rfl⟩ := h
 obtain ⟨a1, rfl, _⟩ := q8a h1
 obtain ⟨a2, rfl, l2⟩ := q8c h2
 exact ⟨⟨a1, a2⟩, rfl, l2⟩
theorem qja : Tryz.prog.cellsOf 64 = 2 := by kernel_rfl
theorem q8x {n : Nat} {ds : List D} (h : Shp Tryz.prog (n + 6) 57 ds) : ∃ l : List StepS, ds = [.sl 2 (l.map encStep)] ∧ l.length ≤ maxLen ∧ ∀ x ∈ l, x.ops.length ≤ maxLen := by
 rw [Shp] at h
 simp only [Tryz.underlying57] at h
 obtain ⟨r, rfl, l, h⟩ := h
 obtain ⟨s, rfl, hs⟩ := qgk fun r hr => qra (h r hr)
 exact ⟨s, by rw [qja], by simpa using l, hs⟩
theorem q8y (l : List StepS) : argS Tryz.prog 57 [.sl 2 (l.map encStep)] = .d (.sl 2 (l.map encStep)) := by simp only [argS, Tryz.underlying57]; rfl
theorem xg7 (l : List OpS) : argS Tryz.prog 62 [.sl 3 (l.map encOp)] = .d (.sl 3 (l.map encOp)) := by simp only [argS, Tryz.underlying62]; rfl
theorem qt0 (s : List UInt8) : argS Tryz.prog 42 [.sl 1 (byteRows s)] = .d (.sl 1 (byteRows s)) := by simp only [argS, Tryz.underlying42]; rfl
theorem xg8 (s : List UInt8) : argS Tryz.prog 9 [.str s] = .d (.str s) := by simp only [argS, Tryz.underlying9]; rfl
theorem xjc (n : Int) : argS Tryz.prog 5 [.int .u8 n] = .d (.int .u8 n) := by simp only [argS, Tryz.underlying5]; rfl
end Go.Proofs.YtinnaedmdoengaaGreat
