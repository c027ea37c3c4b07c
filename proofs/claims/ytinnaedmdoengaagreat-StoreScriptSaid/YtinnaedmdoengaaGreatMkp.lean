/- Texts Yc, Ye, Yf, Yg, Yh, Zg, Zj, Zk, Zl, Zm, Zp, Zr, Zh, Zi, Zs. -/
import Derived.Test.YtinnaedmdoengaaGreatMko
import Derived.Calls
import Derived.Orders
import Derived.Tactics
import Derived.Laws.AppendOwn
import Derived.Laws.Slices
import Derived.Laws.Closers25
import Derived.Laws.StructEq
import Derived.Laws.BytesString
import Derived.Laws.CopyRow
import Derived.MapKept
import Derived.Maps.RangeRun
import Derived.TacticsIn
import Derived.OrdersIn
import Derived.RangeFuncRecord
import Derived.RangeFuncLeaves
import Derived.IntWalk
import Derived.ProofKit
import Derived.OpenShut
import Derived.Carry
import Derived.Test.YtinnaedmdoengaaGreatProg
import Derived.KernelRfl
import Derived.OwnWalkIn
import Derived.TacticsInMore
import Derived.LoopIn
import Derived.WalkKit
import Derived.Lib.Strings
import Derived.Lib.Slices
import Derived.Lib.Walk
import Derived.Lib.Bytealg
import Derived.Shelf.SlSortCmp.WholeK
import Derived.Shelf.SlSortCmp.NoneTotal

namespace Go.Proofs.YtinnaedmdoengaaGreat
open Go.Abs
set_option linter.unusedSimpArgs false
set_option linter.unusedVariables false
theorem qfl {r : Rd} (h : r.Ok) (lo hi : Int) : (zg lo hi r).2.Ok ∧ (zg lo hi r).2.b = r.b := qfk h (yt h lo hi)
theorem qgg {r : Rd} (h : r.Ok) : (qbn r).2.Ok ∧ (qbn r).2.b = r.b := qfk h (qln h)
theorem qcb {r : Rd} (h : r.Ok) (most : Int) : (kj most r).2.Ok ∧ (kj most r).2.b = r.b := qfk h (qjp h most)
theorem qha (r : Rd) (lo hi : Int) : (zg lo hi r).1 = 0 ∨ (lo ≤ (zg lo hi r).1 ∧ (zg lo hi r).1 ≤ hi) := by
 unfold zg qfj
 split
 ·exact .inl rfl
 ·split
  ·exact .inl rfl
  ·rename_i h
   exact .inr (qjo (by simpa using h))
def rOp (r : Rd) : OpS × Rd :=
 (⟨(kj 40 r).1, (qbn (kj 40 r).2).1, (kj 900 (qbn (kj 40 r).2).2).1⟩, (kj 900 (qbn (kj 40 r).2).2).2)
def kz : Nat → Rd → List OpS × Rd
 | 0, r => ([], r)
 | n + 1, r => ((kz n r).1 ++ [(rOp (kz n r).2).1], (rOp (kz n r).2).2)
theorem xj5 {r : Rd} (h : r.Ok) : (rOp r).2.Ok ∧ (rOp r).2.b = r.b := by
 have h1 := qcb h 40
 have h2 := qgg h1.1
 have h3 := qcb h2.1 900
 exact ⟨h3.1, h3.2.trans (h2.2.trans h1.2)⟩
theorem qfm {r : Rd} (h : r.Ok) : ∀ n, (kz n r).2.Ok ∧ (kz n r).2.b = r.b ∧ (kz n r).1.length = n
 | 0 => ⟨h, rfl, rfl⟩
 | n + 1 => by
  have ih := qfm h n
  have := xj5 ih.1
  exact ⟨this.1, this.2.trans ih.2.1, by simp only [kz, List.length_append, ih.2.2, List.length_singleton]⟩
def qwe (b : List UInt8) : List OpS × Rd := kz (zg 1 20 ⟨b, 0, false⟩).1.toNat (zg 1 20 ⟨b, 0, false⟩).2
def xx (b : List UInt8) : List OpS × Int := if rEnd (qwe b).2 ≠ 0 then ([], 4) else if (ql (qwe b).1).2 ≠ 0 then ([], 4) else ((qwe b).1, 0)
noncomputable section
set_option maxRecDepth 100000
def xx0 : List SOper := [
 ⟨some 2, .mov (.k (.d .nilsl)), none⟩,
 ⟨some 3, .mov (.k (.d (.int .i64 0))), none⟩]
def xx1 : List SOper := [
 ⟨some 10, .mov (.t 0), none⟩,
 ⟨some 11, .call (.k (.d (.func (.func 54) [] []))) [(.t 10)], none⟩,
 ⟨some 4, .mov (.t 11), none⟩]
def xx2 : List SOper := [
 ⟨some 12, .mov (.t 4), none⟩,
 ⟨some 13, .call (.k (.d (.func (.func 112) [] []))) [(.t 12), (.k (.d (.int .i64 1))), (.k (.d (.int .i64 20)))], none⟩,
 ⟨some 5, .mov (.t 13), none⟩]
def xx3 : List SOper := [
 ⟨some 6, .mov (.k (.d .nilsl)), none⟩]
def xx4 : List SOper := [
 ⟨some 14, .mov (.t 5), none⟩,
 ⟨some 15, .mov (.k (.d (.int .i64 0))), none⟩]
def xx5 : List SOper := [
 ⟨some 16, .bin .lss (.t 15) (.t 14), none⟩]
def xx6 : List SOper := [
 ⟨some 17, .mov (.t 4), none⟩,
 ⟨some 18, .call (.k (.d (.func (.func 113) [] []))) [(.t 17), (.k (.d (.int .i64 40)))], none⟩,
 ⟨some 19, .build [(.str []), (.bool false), .nilsl] [(0, 1, (.t 18))], none⟩,
 ⟨some 7, .alloc 1 [(.d (.str [])), (.d (.bool false)), (.d .nilsl)], none⟩,
 ⟨none, .store (some 3) (.t 7) (.t 19), none⟩]
def xx7 : List SOper := [
 ⟨some 20, .mov (.t 4), none⟩,
 ⟨some 21, .call (.k (.d (.func (.func 114) [] []))) [(.t 20)], none⟩,
 ⟨some 22, .faddr 1 (.t 7), none⟩,
 ⟨none, .store none (.t 22) (.t 21), none⟩]
def xx8 : List SOper := [
 ⟨some 23, .mov (.t 4), none⟩,
 ⟨some 24, .call (.k (.d (.func (.func 115) [] []))) [(.t 23), (.k (.d (.int .i64 900)))], none⟩,
 ⟨some 25, .faddr 2 (.t 7), none⟩,
 ⟨none, .store none (.t 25) (.t 24), none⟩]
def xx9 : List SOper := [
 ⟨some 26, .mov (.t 6), none⟩,
 ⟨some 27, .load (some 3) (.t 7), none⟩,
 ⟨some 28, .buildSlice false 3 1 [(.str []), (.bool false), .nilsl] [(0, 3, (.t 27))], none⟩,
 ⟨some 29, .append false 3 48 (.t 26) (.t 28), none⟩,
 ⟨some 6, .mov (.t 29), none⟩]
def xdy : List SOper := [
 ⟨some 30, .bin .add (.t 15) (.k (.d (.int .i64 1))), none⟩,
 ⟨some 15, .mov (.t 30), none⟩]
def q03 : SCode := (.seq (.region xx5 0 []) (.seq (.cond (.t 16) .skip (.exit 0)) (.seq (.block 1 (.seq (.region xx6 1 []) (.seq (.region xx7 0 []) (.seq (.region xx8 0 []) (.region xx9 0 []))))) (.region xdy 0 []))))
theorem xya : qg q03.eq_1 := qh q03.eq_1
def xdz : List SOper := [
 ⟨some 31, .mov (.t 4), none⟩,
 ⟨some 32, .call (.k (.d (.func (.func 109) [] []))) [(.t 31)], none⟩,
 ⟨some 33, .bin .neq (.t 32) (.k (.d (.int .i64 0))), none⟩]
def xd0 : List SOper := [
 ⟨some 2, .mov (.k (.d .nilsl)), none⟩,
 ⟨some 3, .mov (.k (.d (.int .i64 4))), none⟩]
def xd1 : List SOper := [
 ⟨some 35, .mov (.t 6), none⟩,
 ⟨some 36, .call (.k (.d (.func (.func 50) [] []))) [(.t 35)], none⟩,
 ⟨some 34, .mov (.t 36), none⟩,
 ⟨some 37, .extract 0 (.t 34), none⟩,
 ⟨some 38, .extract 1 (.t 34), none⟩,
 ⟨some 8, .mov (.t 37), none⟩,
 ⟨some 9, .mov (.t 38), none⟩]
def xd2 : List SOper := [
 ⟨some 39, .mov (.t 9), none⟩,
 ⟨some 40, .bin .neq (.t 39) (.k (.d (.int .i64 0))), none⟩]
def xd3 : List SOper := [
 ⟨some 2, .mov (.k (.d .nilsl)), none⟩,
 ⟨some 3, .mov (.k (.d (.int .i64 4))), none⟩]
def xd4 : List SOper := [
 ⟨some 41, .mov (.t 6), none⟩,
 ⟨some 2, .mov (.t 41), none⟩,
 ⟨some 3, .mov (.k (.d (.int .i64 0))), none⟩]
def s59 : SCode := (.seq (.region xx0 0 []) (.seq (.region xx1 1 []) (.seq (.region xx2 0 []) (.seq (.region xx3 0 []) (.seq (.seq (.region xx4 0 []) (.block 0 (.loop q03))) (.seq (.seq (.region xdz 0 []) (.cond (.t 33) (.seq (.region xd0 0 []) .ret) .skip)) (.seq (.seq (.region xd1 0 []) (.seq (.region xd2 0 []) (.cond (.t 40) (.seq (.region xd3 0 []) .ret) .skip))) (.seq (.region xd4 0 []) .ret))))))))
theorem e59 : qg s59.eq_1 := qh s59.eq_1
theorem zbu : qa xx0.eq_1 := qc
theorem zbv : qa xx1.eq_1 := qc
theorem zbw : qa xx2.eq_1 := qc
theorem zbx : qa xx3.eq_1 := qc
theorem zby : qa xx4.eq_1 := qc
theorem zbz : qa xx5.eq_1 := qc
theorem zb0 : qa xx6.eq_1 := qc
theorem zb1 : qa xx7.eq_1 := qc
theorem zb2 : qa xx8.eq_1 := qc
theorem zb3 : qa xx9.eq_1 := qc
theorem xyb : qa xdy.eq_1 := qc
theorem xyc : qa xdz.eq_1 := qc
theorem xyd : qa xd0.eq_1 := qc
theorem xye : qa xd1.eq_1 := qc
theorem xyf : qa xd2.eq_1 := qc
theorem xyg : qa xd3.eq_1 := qc
theorem xyh : qa xd4.eq_1 := qc
attribute [go_sem] zbu zbv zbw zbx zby zbz zb0 zb1 zb2 zb3 xyb xya xyc xyd xye xyf xyg xyh e59
theorem F59 : FnIs Tryz.prog 59 Tryz.f59 [] news s59 [.tmp 2, .tmp 3] 42 := zc follows Tryz.func59
end
def Sdec (n : Nat) (r : Rd) (i : { i : Nat // i ≤ n }) : St :=
 ⟨[(4, true, .d (.ptr 0 0)), (6, true, .own 0 3 ((kz i.val r).1.map qk)), (14, true, .d (.int .i64 (n : Nat))), (15, true, .d (.int .i64 (i.val : Nat)))], [rdO (kz i.val r).2], [0], 1⟩
set_option maxRecDepth 10000 in
theorem qlp (b : List UInt8) (hb : b.length ≤ 1000000000) : qo Tryz.prog 59 [.d (.sl 1 (qd b))] [] (.tup [.d (.sl 3 ((xx b).1.map qk)), .d (.int .i64 (xx b).2)]) [] := by
 have hnew := q5c b hb
 have hr0 : (⟨b, 0, false⟩ : Rd).Ok := ⟨hb, Nat.zero_le _⟩
 have hbd := qqa ⟨b, 0, false⟩ 1 20 hr0
 have hin := qha ⟨b, 0, false⟩ 1 20
 have hinv := (qfl hr0 1 20).1
 unfold xx qwe
 generalize zg 1 20 ⟨b, 0, false⟩ = x at hbd hin hinv ⊢
 obtain ⟨n, r⟩ := x
 simp only at hin hinv
 have hn0 : n = ((n.toNat : Nat) : Int) := by omega
 generalize n.toNat = m at hn0
 subst hn0
 simp only [rdO] at hnew hbd
 refine F59.goT ?_
 try (refine ev ?_; try exact True.intro)
 (repeat (with_reducible refine ob ?_)); refine clO [0] F54 (hnew) ?_ (hfit := by first | exact ⟨qe, trivial⟩ | exact ⟨qe, qe, trivial⟩ | (refine ev3 @qk.eq_1 @qn.eq_1 @qj.eq_1 ?_; try exact True.intro))
 try (refine ev ?_; try exact True.intro)
 (repeat (with_reducible refine ob ?_)); refine clO [0] zgw (hbd) ?_ (hfit := by first | exact ⟨qe, trivial⟩ | exact ⟨qe, qe, trivial⟩ | (refine ev3 @qk.eq_1 @qn.eq_1 @qj.eq_1 ?_; try exact True.intro))
 try (refine ev ?_; try exact True.intro)
 refine xc (Sdec m r) (fun i => m - i.val) ⟨0, Nat.zero_le _⟩ ?_ (fun i => ?_)
 ·try simp only [Sdec, rdO, kz, List.map_nil, Int.ofNat_zero, go_sem, Nat.reduceAdd, Nat.reduceMul, Nat.reduceSub, Nat.reduceEqDiff, Nat.reduceLT, Nat.reduceLeDiff, Nat.reduceBEq, reduceIte, reduceCtorEq, Int.reduceAdd, Int.reduceLT, Int.reduceLE, Int.reduceGT, Int.reduceGE, Int.reduceEq, Int.reduceNe, Int.reduceBEq, Int.reduceBNe, Int.reduceToNat, Int.reduceNeg]
 obtain ⟨i, hi⟩ := i
 have hri := qfm hinv i
 try (refine ev2 @Sdec.eq_1 @rdO.eq_1 ?_; try exact True.intro)
 (repeat (with_reducible refine ob ?_)); refine zk _ (fun h => ?_) (fun h => ?_)
 ·have hil : i < m := by simp at h; omega
  have hT := q02 (kz i r).2 40 hri.1 (by decide)
  have hiT := qcb hri.1 40
  have hB := q01 _ hiT.1
  have hiB := qgg hiT.1
  have hV := qlo _ 900 hiB.1 (by decide)
  simp only [rdO] at hT hB hV
  try (refine ev ?_; try exact True.intro)
  (repeat (with_reducible refine ob ?_)); refine clO [0] zgy (hT) ?_ (hfit := by first | exact ⟨qe, trivial⟩ | exact ⟨qe, qe, trivial⟩ | (refine ev3 @qk.eq_1 @qn.eq_1 @qj.eq_1 ?_; try exact True.intro))
  try (refine ev ?_; try exact True.intro)
  (repeat (with_reducible refine ob ?_)); refine clO [0] zgx (hB) ?_ (hfit := by first | exact ⟨qe, trivial⟩ | exact ⟨qe, qe, trivial⟩ | (refine ev3 @qk.eq_1 @qn.eq_1 @qj.eq_1 ?_; try exact True.intro))
  try (refine ev ?_; try exact True.intro)
  (repeat (with_reducible refine ob ?_)); refine clO [0] zbt (hV) ?_ (hfit := by first | exact ⟨qe, trivial⟩ | exact ⟨qe, qe, trivial⟩ | (refine ev3 @qk.eq_1 @qn.eq_1 @qj.eq_1 ?_; try exact True.intro))
  try (refine ev ?_; try exact True.intro)
  (repeat (with_reducible refine ob ?_))
  refine ⟨⟨i + 1, hil⟩, ?_, by dsimp only; omega⟩
  try simp only [Sdec, rdO, kz, rOp, List.map_append, List.map_cons, List.map_nil, qk, qt (show i < 9223372036854775807 by omega), go_sem, Nat.reduceAdd, Nat.reduceMul, Nat.reduceSub, Nat.reduceEqDiff, Nat.reduceLT, Nat.reduceLeDiff, Nat.reduceBEq, reduceIte, reduceCtorEq, Int.reduceAdd, Int.reduceLT, Int.reduceLE, Int.reduceGT, Int.reduceGE, Int.reduceEq, Int.reduceNe, Int.reduceBEq, Int.reduceBNe, Int.reduceToNat, Int.reduceNeg]
 ·have hil : i = m := by simp at h; omega
  subst hil
  have hE := xjy (kz i r).2 hri.1
  simp only [rdO] at hE
  try (refine ev ?_; try exact True.intro)
  (repeat (with_reducible refine ob ?_)); refine clO [0] zgp (hE) ?_ (hfit := by first | exact ⟨qe, trivial⟩ | exact ⟨qe, qe, trivial⟩ | (refine ev3 @qk.eq_1 @qn.eq_1 @qj.eq_1 ?_; try exact True.intro))
  try (refine ev ?_; try exact True.intro)
  refine zk _ (fun h => ?_) (fun h => ?_)
  ·rw [if_pos (show rEnd (kz i r).2 ≠ 0 by simpa using h)]
   try (refine ev ?_; try exact True.intro)
  ·rw [if_neg (show ¬ rEnd (kz i r).2 ≠ 0 by simpa using h)]
   try (refine ev ?_; try exact True.intro)
   (repeat (with_reducible refine ob ?_)); first | refine cl F50 (qdb (kz i r).1 (by omega)) ?_ | refine clF F50 (qdb (kz i r).1 (by omega)) (fun _ => by (refine ev3 @qk.eq_1 @qn.eq_1 @qj.eq_1 ?_; try exact True.intro)) ?_
   try (refine ev ?_; try exact True.intro)
   refine zk _ (fun h => ?_) (fun h => ?_)
   ·rw [if_pos (show (ql (kz i r).1).2 ≠ 0 by simpa using h)]
    try (refine ev ?_; try exact True.intro)
   ·rw [if_neg (show ¬ (ql (kz i r).1).2 ≠ 0 by simpa using h)]
    try (refine ev ?_; try exact True.intro)
end Go.Proofs.YtinnaedmdoengaaGreat
namespace Go.Proofs.YtinnaedmdoengaaGreat
open Go.Abs
set_option linter.unusedSimpArgs false
set_option linter.unusedVariables false
def dG : Nat → Nat → Nat → List UInt8 → Option (Int × List UInt8)
 | 0, _, _, _ => none
 | _ + 1, _, _, [] => none
 | k + 1, j, u, c :: l =>
  if c.toNat < 128 then (if ((c.toNat == 0 && decide (0 < j)) || (decide (j = 9) && decide (c.toNat > 1))) = true then none else some (unz (u + c.toNat * 128 ^ j), l))
  else dG k (j + 1) (u + c.toNat % 128 * 128 ^ j) l
def dInt (l : List UInt8) : Option (Int × List UInt8) := dG 10 0 0 l
def Got {α : Type} (o : Option (α × List UInt8)) (b : List UInt8) (x : α × Rd) : Prop := match o with
 | some (v, l) => x = (v, ⟨b, b.length - l.length, false⟩)
 | none => x.2.failed = true
def qqb {α : Type} (z : α) (f : Rd → α × Rd) (d : List UInt8 → Option (α × List UInt8)) : Prop :=
 ∀ r : Rd, r.Ok → f r = if r.failed = true then (z, r) else match d (r.b.drop r.pos) with
  | some (v, l) => (v, ⟨r.b, r.b.length - l.length, false⟩)
  | none => (z, ⟨r.b, r.pos, true⟩)
def q04 {α : Type} (d : List UInt8 → Option (α × List UInt8)) : Prop := ∀ l0 v l, d l0 = some (v, l) → ∃ p, l0 = p ++ l
theorem qbo {b : List UInt8} {p : Nat} {q l : List UInt8} (hp : p ≤ b.length) (h : b.drop p = q ++ l) : b.drop (b.length - l.length) = l ∧ l.length ≤ b.length := by
 have h1 := congrArg List.length h
 simp only [List.length_drop, List.length_append] at h1
 have h2 : b.drop (p + q.length) = l := by rw [← List.drop_drop, h, List.drop_left]
 have e : b.length - l.length = p + q.length := by omega
 rw [e]; exact ⟨h2, by omega⟩
theorem q05 : ∀ (k j u : Nat) {l0 : List UInt8} {v : Int} {l : List UInt8}, dG k j u l0 = some (v, l) → ∃ p, l0 = p ++ l
 | 0, _, _, _, _, _, h => by simp [dG] at h
 | k + 1, j, u, [], _, _, h => by simp [dG] at h
 | k + 1, j, u, c :: l0, v, l, h => by
  rw [dG] at h
  split at h
  ·split at h
   ·cases h
   ·cases h; exact ⟨[c], rfl⟩
  ·obtain ⟨p, rfl⟩ := q05 k (j + 1) _ h
   exact ⟨c :: p, rfl⟩
theorem q06 : q04 dInt := fun _ _ _ h => q05 10 0 0 h
theorem qlq {r : Rd} (hr : r.Ok) (hf : r.failed = false) {c : UInt8} {l : List UInt8} (h : r.b.drop r.pos = c :: l) : ki 1 r = ([c], ⟨r.b, r.pos + 1, false⟩) ∧ r.b.drop (r.pos + 1) = l := by
 have hl := congrArg List.length h
 simp only [List.length_drop, List.length_cons] at hl
 have h2 : r.b.drop (r.pos + 1) = l := by rw [← List.drop_drop, h]; rfl
 refine ⟨?_, h2⟩
 unfold ki
 rw [if_neg (by simp [hf]; omega), h, hf]; rfl
theorem qqc {r : Rd} (hf : r.failed = false) (h : r.b.drop r.pos = []) : ki 1 r = ([], ⟨r.b, r.pos, true⟩) := by
 have hl := congrArg List.length h
 simp only [List.length_drop, List.length_nil] at hl
 unfold ki
 rw [if_pos (by simp [hf]; omega)]
theorem qc3 {j : Nat} (h : j ≤ 8) : 128 ^ (j + 1) ≤ 9223372036854775808 := by
 have h1 : 128 ^ (j + 1) ≤ 128 ^ 9 := Nat.pow_le_pow_right (by decide) (by omega)
 have h2 : (128 : Nat) ^ 9 = 9223372036854775808 := by decide
 omega
theorem q07 : ∀ (k j u : Nat) {r : Rd}, j + k = 10 → u < 128 ^ j → r.Ok → r.failed = false →
  Got (dG k j u (r.b.drop r.pos)) r.b (qho k j u r)
 | 0, j, u, r, _, _, _, _ => by simp only [Got, dG, qho]
 | k + 1, j, u, r, hj, hu, hr, hf => by
  cases hd : r.b.drop r.pos with
  | nil =>
   simp only [dG]
   rw [qho, qqc hf hd, if_pos rfl]
   exact (rfl : true = true)
  | cons c l =>
   obtain ⟨h1, h2⟩ := qlq hr hf hd
   have hlt := w7 c
   have hlen := congrArg List.length hd
   simp only [List.length_drop, List.length_cons] at hlen
   rw [qho, h1, dG]
   simp only [Bool.false_eq_true, if_false, List.headD_cons]
   by_cases hc : c.toNat < 128
   ·simp only [hc, if_true]
    by_cases hb : ((c.toNat == 0 && decide (0 < j)) || (decide (j = 9) && decide (c.toNat > 1))) = true
    ·rw [if_pos hb]
     exact hb
    ·rw [if_neg hb]
     simp only [Bool.not_eq_true] at hb
     have hm : c.toNat % 128 = c.toNat := Nat.mod_eq_of_lt hc
     have hs : u + c.toNat * 128 ^ j < 18446744073709551616 := by
      rcases Nat.lt_or_ge j 9 with h9 | h9
      ·have hp := qc3 (j := j) (by omega)
       rw [Nat.pow_succ] at hp
       have : c.toNat * 128 ^ j ≤ 127 * 128 ^ j := Nat.mul_le_mul_right _ (by omega)
       omega
      ·have : j = 9 := by omega
       subst this
       simp at hb
       have e : (128 : Nat) ^ 9 = 9223372036854775808 := by decide
       rw [e] at hu ⊢
       omega
     rw [hm, Nat.mod_eq_of_lt hs]
     simp only [Got, Prod.mk.injEq, Rd.mk.injEq]
     exact ⟨trivial, trivial, by omega, hb⟩
   ·simp only [hc, if_false]
    cases k with
    | zero => simp only [Got, dG, qho]
    | succ k =>
     have hp := qc3 (j := j) (by omega)
     have hu2 : u + c.toNat % 128 * 128 ^ j < 128 ^ (j + 1) := by
      have h3 : c.toNat % 128 * 128 ^ j ≤ 127 * 128 ^ j := Nat.mul_le_mul_right _ (by omega)
      rw [Nat.pow_succ]
      omega
     rw [Nat.mod_eq_of_lt (show u + c.toNat % 128 * 128 ^ j < 18446744073709551616 by omega)]
     have ih := q07 (k + 1) (j + 1) (u + c.toNat % 128 * 128 ^ j) (r := ⟨r.b, r.pos + 1, false⟩) (by omega) hu2 ⟨hr.len, by have := hr.pos; simp only; omega⟩ rfl
     rw [show (⟨r.b, r.pos + 1, false⟩ : Rd).b.drop (⟨r.b, r.pos + 1, false⟩ : Rd).pos = l from h2] at ih
     exact ih
theorem xd5 {r : Rd} (hr : r.Ok) (hf : r.failed = false) : Got (dInt (r.b.drop r.pos)) r.b (rInt r) := q07 10 0 0 rfl (by decide) hr hf
theorem qdl {α : Type} {z : α} {f : Rd → α × Rd} {d : List UInt8 → Option (α × List UInt8)} (hi : ∀ r : Rd, r.Ok → (f r).2.b = r.b)
  (h : ∀ r : Rd, r.Ok → r.failed = false → Got (d (r.b.drop r.pos)) r.b (f r)) : qqb z (qfj z f) d := by
 intro r hr
 unfold qfj
 by_cases hf : r.failed = true
 ·rw [if_pos hf, if_pos hf]
 ·rw [if_neg hf, if_neg hf]
  have := h r hr (by simpa using hf)
  cases hd : d (r.b.drop r.pos) with
  | none =>
   rw [hd] at this
   simp only [Got] at this
   rw [if_pos this, hi r hr, this]
  | some x =>
   obtain ⟨v, l⟩ := x
   rw [hd] at this
   simp only [Got] at this
   rw [this, if_neg (by simp)]
theorem q08 : qqb 0 qhp dInt := qdl (fun r hr => (qhv hr).2) (fun r hr hf => xd5 hr hf)
def jm (lo hi : Int) (l0 : List UInt8) : Option (Int × List UInt8) := match dInt l0 with
 | some (n, l) => if n < lo ∨ n > hi then none else some (n, l)
 | none => none
theorem qad (lo hi : Int) : q04 (jm lo hi) := by
 intro l0 v l h
 unfold jm at h
 split at h
 ·rename_i hd
  split at h
  ·cases h
  ·cases h; exact q06 _ _ _ hd
 ·cases h
theorem qlr (lo hi : Int) {r : Rd} (hr : r.Ok) (hf : r.failed = false) : Got (jm lo hi (r.b.drop r.pos)) r.b (za lo hi r) := by
 have h := xd5 hr hf
 unfold jm
 cases hd : dInt (r.b.drop r.pos) with
 | none =>
  rw [hd] at h
  simp only [Got] at h ⊢
  simp only [za, Rd.fail, h, Bool.true_or]
 | some x =>
  obtain ⟨n, l⟩ := x
  rw [hd] at h
  simp only [Got] at h ⊢
  by_cases hn : n < lo ∨ n > hi
  ·rw [if_pos hn]
   simp only [za, Rd.fail, h, Bool.false_or]
   simpa using hn
  ·rw [if_neg hn]
   simp only [za, Rd.fail, h, Bool.false_or]
   have : (decide (n < lo) || decide (n > hi)) = false := by simpa using hn
   rw [this]
theorem qed (lo hi : Int) : qqb 0 (zg lo hi) (jm lo hi) := qdl (fun r hr => (yt hr lo hi).2) (fun r hr hf => qlr lo hi hr hf)
def y6 (most : Int) (l0 : List UInt8) : Option (List UInt8 × List UInt8) := match jm 0 most l0 with
 | some (n, l) => if l.length < n.toNat then none else some (l.take n.toNat, l.drop n.toNat)
 | none => none
theorem qsr (most : Int) : q04 (y6 most) := by
 intro l0 v l h
 unfold y6 at h
 split at h
 ·rename_i n l1 hd
  split at h
  ·cases h
  ·cases h
   obtain ⟨p, rfl⟩ := qad _ _ _ _ _ hd
   exact ⟨p ++ l1.take n.toNat, by rw [List.append_assoc, List.take_append_drop]⟩
 ·cases h
theorem q09 (most : Int) {r : Rd} (hr : r.Ok) (hf : r.failed = false) : Got (y6 most (r.b.drop r.pos)) r.b (wa most r) := by
 have h := qlr 0 most hr hf
 unfold y6
 cases hd : jm 0 most (r.b.drop r.pos) with
 | none =>
  rw [hd] at h
  simp only [Got] at h ⊢
  unfold wa
  rw [if_pos h]; exact h
 | some x =>
  obtain ⟨n, l⟩ := x
  rw [hd] at h
  simp only [Got] at h ⊢
  obtain ⟨p, hp⟩ := qad _ _ _ _ _ hd
  obtain ⟨t1, t2⟩ := qbo hr.pos hp
  have e : r.b.length - (r.b.length - l.length) = l.length := by omega
  by_cases hn : l.length < n.toNat
  ·rw [if_pos hn]
   simp only [wa, h, Bool.false_eq_true, if_false, ki, Bool.false_or]
   rw [e, if_pos (by simpa using hn)]
  ·rw [if_neg hn]
   simp only [wa, h, Bool.false_eq_true, if_false, ki, Bool.false_or]
   rw [e, if_neg (by simpa using hn), t1]
   have : r.b.length - l.length + n.toNat = r.b.length - (l.drop n.toNat).length := by rw [List.length_drop]; omega
   rw [this]
theorem w8 (most : Int) : qqb [] (kj most) (y6 most) := qdl (fun r hr => (qjp hr most).2) (fun r hr hf => q09 most hr hf)
def qfn : List UInt8 → Option (Bool × List UInt8)
 | [] => none
 | c :: l => if c.toNat > 1 then none else some (c.toNat == 1, l)
theorem qwf : q04 qfn := by
 intro l0 v l h
 cases l0 with
 | nil => cases h
 | cons c l1 =>
  rw [qfn] at h
  split at h
  ·cases h
  ·cases h; exact ⟨[c], rfl⟩
theorem q5h {r : Rd} (hr : r.Ok) (hf : r.failed = false) : Got (qfn (r.b.drop r.pos)) r.b (qc2 r) := by
 cases hd : r.b.drop r.pos with
 | nil => simp only [Got, qfn, qc2, qqc hf hd, Rd.fail, Bool.true_or]
 | cons c l =>
  obtain ⟨h1, h2⟩ := qlq hr hf hd
  have hlen := congrArg List.length hd
  simp only [List.length_drop, List.length_cons] at hlen
  simp only [Got, qfn]
  by_cases hc : c.toNat > 1
  ·rw [if_pos hc]
   simp only [qc2, h1, Rd.fail, Bool.false_or, List.headD_cons, decide_eq_true hc]
  ·rw [if_neg hc]
   simp only [qc2, h1, Rd.fail, Bool.false_or, List.headD_cons, decide_eq_false hc, Bool.not_false, Bool.true_and]
   have : r.b.length - l.length = r.pos + 1 := by omega
   rw [this]
theorem qfo : qqb false qbn qfn := qdl (fun r hr => (qln hr).2) (fun r hr hf => q5h hr hf)
end Go.Proofs.YtinnaedmdoengaaGreat
namespace Go.Proofs.YtinnaedmdoengaaGreat
open Go.Abs
set_option linter.unusedSimpArgs false
set_option linter.unusedVariables false
noncomputable section
set_option maxRecDepth 100000
def xyi : List SOper := [
 ⟨some 2, .mov (.k (.d (.int .i64 0))), none⟩]
def xyj : List SOper := [
 ⟨some 3, .mov (.k (.d (.int .u64 0))), none⟩,
 ⟨some 4, .mov (.k (.d (.int .u64 1))), none⟩]
def xyk : List SOper := [
 ⟨some 7, .mov (.t 0), none⟩,
 ⟨some 8, .nilCheck (.t 7), none⟩,
 ⟨some 9, .faddr 1 (.t 8), none⟩,
 ⟨some 10, .load none (.t 9), none⟩,
 ⟨some 5, .mov (.t 10), none⟩]
def xyl : List SOper := [
 ⟨some 11, .mov (.t 5), none⟩,
 ⟨some 12, .mov (.t 0), none⟩,
 ⟨some 13, .nilCheck (.t 12), none⟩,
 ⟨some 14, .faddr 0 (.t 13), none⟩,
 ⟨some 15, .load none (.t 14), none⟩,
 ⟨some 16, .len (.t 15), none⟩,
 ⟨some 17, .bin .lss (.t 11) (.t 16), none⟩,
 ⟨some 18, .mov (.t 17), none⟩,
 ⟨some 19, .mov (.t 5), some (18, true)⟩,
 ⟨some 20, .mov (.t 0), some (18, true)⟩,
 ⟨some 21, .nilCheck (.t 20), some (18, true)⟩,
 ⟨some 22, .faddr 1 (.t 21), some (18, true)⟩,
 ⟨some 23, .load none (.t 22), some (18, true)⟩,
 ⟨some 24, .bin .add (.t 23) (.k (.d (.int .i64 10))), some (18, true)⟩,
 ⟨some 25, .bin .lss (.t 19) (.t 24), some (18, true)⟩,
 ⟨some 26, .pick (.t 18) (.t 25) (.k (.d (.bool false))), none⟩,
 ⟨some 27, .mov (.t 26), none⟩,
 ⟨some 28, .mov (.t 0), some (27, true)⟩,
 ⟨some 29, .nilCheck (.t 28), some (27, true)⟩,
 ⟨some 30, .faddr 2 (.t 29), some (27, true)⟩,
 ⟨some 31, .load none (.t 30), some (27, true)⟩,
 ⟨some 32, .not (.t 31), some (27, true)⟩,
 ⟨some 33, .pick (.t 27) (.t 32) (.k (.d (.bool false))), none⟩]
def xym : List SOper := [
 ⟨some 36, .mov (.t 0), none⟩,
 ⟨some 37, .nilCheck (.t 36), none⟩,
 ⟨some 38, .faddr 0 (.t 37), none⟩,
 ⟨some 39, .load none (.t 38), none⟩,
 ⟨some 40, .mov (.t 5), none⟩,
 ⟨some 41, .iaddr 1 (.t 39) (.t 40), none⟩,
 ⟨some 42, .load none (.t 41), none⟩,
 ⟨some 43, .bin .rem (.t 42) (.k (.d (.int .u8 128))), none⟩,
 ⟨some 44, .conv .u64 (.t 43), none⟩,
 ⟨some 6, .mov (.t 44), none⟩]
def xyn : List SOper := [
 ⟨some 45, .mov (.t 5), none⟩,
 ⟨some 46, .mov (.t 0), none⟩,
 ⟨some 47, .nilCheck (.t 46), none⟩,
 ⟨some 48, .faddr 1 (.t 47), none⟩,
 ⟨some 49, .load none (.t 48), none⟩,
 ⟨some 50, .bin .add (.t 49) (.k (.d (.int .i64 9))), none⟩,
 ⟨some 51, .bin .eql (.t 45) (.t 50), none⟩,
 ⟨some 52, .mov (.t 51), none⟩,
 ⟨some 53, .mov (.t 6), some (52, true)⟩,
 ⟨some 54, .bin .gtr (.t 53) (.k (.d (.int .u64 1))), some (52, true)⟩,
 ⟨some 55, .pick (.t 52) (.t 54) (.k (.d (.bool false))), none⟩]
def xyo : List SOper := [
 ⟨some 56, .mov (.t 3), none⟩,
 ⟨some 57, .mov (.t 6), none⟩,
 ⟨some 58, .mov (.t 4), none⟩,
 ⟨some 59, .bin .mul (.t 57) (.t 58), none⟩,
 ⟨some 60, .bin .add (.t 56) (.t 59), none⟩,
 ⟨some 3, .mov (.t 60), none⟩]
def xyp : List SOper := [
 ⟨some 61, .mov (.t 4), none⟩,
 ⟨some 62, .bin .mul (.t 61) (.k (.d (.int .u64 128))), none⟩,
 ⟨some 4, .mov (.t 62), none⟩]
def xyq : List SOper := [
 ⟨some 63, .mov (.t 0), none⟩,
 ⟨some 64, .nilCheck (.t 63), none⟩,
 ⟨some 65, .faddr 0 (.t 64), none⟩,
 ⟨some 66, .load none (.t 65), none⟩,
 ⟨some 67, .mov (.t 5), none⟩,
 ⟨some 68, .iaddr 1 (.t 66) (.t 67), none⟩,
 ⟨some 69, .load none (.t 68), none⟩,
 ⟨some 70, .bin .geq (.t 69) (.k (.d (.int .u8 128))), none⟩]
def xyr : List SOper := [
 ⟨some 71, .mov (.t 6), none⟩,
 ⟨some 72, .bin .eql (.t 71) (.k (.d (.int .u64 0))), none⟩,
 ⟨some 73, .mov (.t 72), none⟩,
 ⟨some 74, .mov (.t 5), some (73, true)⟩,
 ⟨some 75, .mov (.t 0), some (73, true)⟩,
 ⟨some 76, .nilCheck (.t 75), some (73, true)⟩,
 ⟨some 77, .faddr 1 (.t 76), some (73, true)⟩,
 ⟨some 78, .load none (.t 77), some (73, true)⟩,
 ⟨some 79, .bin .gtr (.t 74) (.t 78), some (73, true)⟩,
 ⟨some 80, .pick (.t 73) (.t 79) (.k (.d (.bool false))), none⟩]
def xd6 : List SOper := [
 ⟨some 81, .mov (.t 0), none⟩,
 ⟨some 82, .mov (.t 5), none⟩,
 ⟨some 83, .bin .add (.t 82) (.k (.d (.int .i64 1))), none⟩,
 ⟨some 84, .nilCheck (.t 81), none⟩,
 ⟨some 85, .faddr 1 (.t 84), none⟩,
 ⟨none, .store none (.t 85) (.t 83), none⟩]
def xd7 : List SOper := [
 ⟨some 86, .mov (.t 3), none⟩,
 ⟨some 87, .bin .rem (.t 86) (.k (.d (.int .u64 2))), none⟩,
 ⟨some 88, .bin .eql (.t 87) (.k (.d (.int .u64 1))), none⟩]
def xd8 : List SOper := [
 ⟨some 89, .mov (.t 3), none⟩,
 ⟨some 90, .bin .quo (.t 89) (.k (.d (.int .u64 2))), none⟩,
 ⟨some 91, .conv .i64 (.t 90), none⟩,
 ⟨some 92, .neg (.t 91), none⟩,
 ⟨some 93, .bin .sub (.t 92) (.k (.d (.int .i64 1))), none⟩,
 ⟨some 2, .mov (.t 93), none⟩]
def xd9 : List SOper := [
 ⟨some 94, .mov (.t 3), none⟩,
 ⟨some 95, .bin .quo (.t 94) (.k (.d (.int .u64 2))), none⟩,
 ⟨some 96, .conv .i64 (.t 95), none⟩,
 ⟨some 2, .mov (.t 96), none⟩]
def xea : List SOper := [
 ⟨some 34, .mov (.t 5), none⟩,
 ⟨some 35, .bin .add (.t 34) (.k (.d (.int .i64 1))), none⟩,
 ⟨some 5, .mov (.t 35), none⟩]
def q1a : SCode := (.seq (.seq (.region xyl 0 []) (.cond (.t 33) .skip (.exit 0))) (.seq (.block 1 (.seq (.region xym 0 []) (.seq (.seq (.region xyn 0 []) (.cond (.t 55) (.exit 0) .skip)) (.seq (.region xyo 0 []) (.seq (.region xyp 0 []) (.seq (.seq (.region xyq 0 []) (.cond (.t 70) (.exit 1) .skip)) (.seq (.seq (.region xyr 0 []) (.cond (.t 80) (.exit 0) .skip)) (.seq (.region xd6 0 []) (.seq (.seq (.region xd7 0 []) (.cond (.t 88) (.seq (.region xd8 0 []) .ret) .skip)) (.seq (.region xd9 0 []) .ret)))))))))) (.region xea 0 [])))
theorem xys : qg q1a.eq_1 := qh q1a.eq_1
def xeb : List SOper := [
 ⟨some 97, .mov (.t 0), none⟩,
 ⟨some 98, .nilCheck (.t 97), none⟩,
 ⟨some 99, .faddr 2 (.t 98), none⟩,
 ⟨none, .store none (.t 99) (.k (.d (.bool true))), none⟩]
def xec : List SOper := [
 ⟨some 2, .mov (.k (.d (.int .i64 0))), none⟩]
def s79 : SCode := (.seq (.region xyi 0 []) (.seq (.region xyj 0 []) (.seq (.seq (.region xyk 0 []) (.block 0 (.loop q1a))) (.seq (.region xeb 0 []) (.seq (.region xec 0 []) .ret)))))
theorem e79 : qg s79.eq_1 := qh s79.eq_1
theorem zb4 : qa xyi.eq_1 := qc
theorem zb5 : qa xyj.eq_1 := qc
theorem zb6 : qa xyk.eq_1 := qc
theorem zb7 : qa xyl.eq_1 := qc
theorem zb8 : qa xym.eq_1 := qc
theorem zb9 : qa xyn.eq_1 := qc
theorem zca : qa xyo.eq_1 := qc
theorem zcb : qa xyp.eq_1 := qc
theorem zcc : qa xyq.eq_1 := qc
theorem zcd : qa xyr.eq_1 := qc
theorem xyt : qa xd6.eq_1 := qc
theorem xyu : qa xd7.eq_1 := qc
theorem xyv : qa xd8.eq_1 := qc
theorem xyw : qa xd9.eq_1 := qc
theorem xyx : qa xea.eq_1 := qc
theorem xyy : qa xeb.eq_1 := qc
theorem xyz : qa xec.eq_1 := qc
attribute [go_sem] zb4 zb5 zb6 zb7 zb8 zb9 zca zcb zcc zcd xyt xyu xyv xyw xyx xys xyy xyz e79
theorem F79 : FnIs Tryz.prog 79 Tryz.f79 [] news s79 [.tmp 2] 100 := zc follows Tryz.func79
end
def qjr (b : List UInt8) (pos : Nat) (f : Bool) (i u : Nat) : St :=
 ⟨[(0, true, .d (.ptr 0 0)), (3, true, .d (.int .u64 (u : Nat))), (4, true, .d (.int .u64 (128 ^ (i - pos) % 18446744073709551616 : Nat))), (5, true, .d (.int .i64 (i : Nat)))], [rdO ⟨b, pos, f⟩], [], 1⟩
theorem q5i {u d j : Nat} (hu : u < 128 ^ j) (hd : d < 128) (hj : j ≤ 9) (h9 : j = 9 → d ≤ 1) :
  IntKind.u64.wrap ((u : Int) + IntKind.u64.wrap ((d : Int) * ((128 ^ j % 18446744073709551616 : Nat) : Int))) = ((u + d * 128 ^ j : Nat) : Int) ∧ u + d * 128 ^ j < 18446744073709551616 ∧ u + d * 128 ^ j < 128 ^ (j + 1) := by
 have hp : 128 ^ j ≤ 128 ^ 9 := Nat.pow_le_pow_right (by decide) hj
 have hp9 : (128 : Nat) ^ 9 = 9223372036854775808 := by decide
 rw [Nat.mod_eq_of_lt (by omega)]
 have hs : d * 128 ^ j ≤ 9223372036854775808 := by
  rcases Nat.lt_or_ge j 9 with h | h
  ·have := qc3 (j := j) (by omega)
   rw [Nat.pow_succ] at this
   have : d * 128 ^ j ≤ 127 * 128 ^ j := Nat.mul_le_mul_right _ (by omega)
   omega
  ·have : j = 9 := by omega
   subst this
   have := h9 rfl
   rw [hp9]; omega
 have h3 : d * 128 ^ j ≤ 127 * 128 ^ j := Nat.mul_le_mul_right _ (by omega)
 refine ⟨?_, by omega, by rw [Nat.pow_succ]; omega⟩
 rw [show ((d : Int) * ((128 ^ j : Nat) : Int)) = ((d * 128 ^ j : Nat) : Int) by rw [Int.natCast_mul], f2 _ (by omega), show ((u : Int) + ((d * 128 ^ j : Nat) : Int)) = ((u + d * 128 ^ j : Nat) : Int) by omega, f2 _ (by omega)]
theorem qwg (j : Nat) : IntKind.u64.wrap (((128 ^ j % 18446744073709551616 : Nat) : Int) * 128) = ((128 ^ (j + 1) % 18446744073709551616 : Nat) : Int) := by
 rw [qd8, Nat.pow_succ]
 generalize 128 ^ j = x
 omega
set_option maxRecDepth 10000 in
theorem q5j (r : Rd) (hr : r.Ok) : qo Tryz.prog 79 [.d (.ptr 0 0)] [rdO r] (.d (.int .i64 (qhp r).1)) [rdO (qhp r).2] := by
 have hrd := q08 r hr
 obtain ⟨hln, hpos⟩ := hr
 obtain ⟨b, pos, f⟩ := r
 simp only at hln hpos hrd
 refine F79.go ?_
 cases f
 ·simp only [Bool.false_eq_true, if_false] at hrd
  have w9 : IntKind.i64.wrap ((pos : Int) + 9) = ((pos + 9 : Nat) : Int) := by rw [xl (by unfold I64; omega)]; omega
  have w10 : IntKind.i64.wrap ((pos : Int) + 10) = ((pos + 10 : Nat) : Int) := by rw [xl (by unfold I64; omega)]; omega
  try (refine ev1 @rdO.eq_1 ?_; try exact True.intro)
  refine xc (fun x : { x : Nat × Nat // pos ≤ x.1 ∧ x.1 ≤ pos + 10 ∧ x.1 ≤ b.length ∧ x.2 < 128 ^ (x.1 - pos) ∧ dG (10 - (x.1 - pos)) (x.1 - pos) x.2 (b.drop x.1) = dInt (b.drop pos) } => qjr b pos false x.val.1 x.val.2) (fun x => pos + 10 - x.val.1)
   ⟨(pos, 0), Nat.le_refl _, by simp, hpos, by simp, by simp only [Nat.sub_self]; rfl⟩ ?_ (fun x => ?_)
  ·have e1 : 128 ^ (pos - pos) % 18446744073709551616 = 1 := by rw [Nat.sub_self]
   try (refine ev4 @qjr.eq_1 @e1 @rdO.eq_1 @Int.ofNat_zero ?_; try exact True.intro)
  obtain ⟨⟨i, u⟩, h1, h2, h3, h4, h5⟩ := x
  simp only at h1 h2 h3 h4 h5
  have hnone : dInt (b.drop pos) = none → qhp ⟨b, pos, false⟩ = (0, ⟨b, pos, true⟩) := fun h => by rw [hrd, h]
  try (refine ev3 @qjr.eq_1 @rdO.eq_1 @w10 ?_; try exact True.intro)
  refine zk _ (fun hc => ?_) (fun hc => ?_)
  ·simp only [Bool.and_eq_true, decide_eq_true_eq] at hc
   have hil : i < b.length := by omega
   have hi10 : i < pos + 10 := by omega
   rw [List.drop_eq_getElem_cons hil, show 10 - (i - pos) = (10 - (i + 1 - pos)) + 1 by omega, dG] at h5
   have hlt := w7 b[i]
   have hd : IntKind.u64.wrap (((b[i].toNat : Nat) : Int).tmod 128) = ((b[i].toNat % 128 : Nat) : Int) := by
    rw [Int.tmod_eq_emod_of_nonneg (by omega), show ((b[i].toNat : Nat) : Int) % 128 = ((b[i].toNat % 128 : Nat) : Int) by omega, f2 _ (by omega)]
   try (refine ev3 (xg b hil) @hd @w9 ?_; try exact True.intro)
   refine ⟨by omega, ?_⟩
   refine zk _ (fun hb => ?_) (fun hb => ?_)
   ·have hx : dInt (b.drop pos) = none := by
     simp at hb
     rw [← h5]
     by_cases hc : b[i].toNat < 128
     ·rw [if_pos hc, if_pos]
      simp; omega
     ·rw [if_neg hc, show 10 - (i + 1 - pos) = 0 by omega]; rfl
    try (refine ev1 (hnone hx) ?_; try exact True.intro)
   ·have hb2 : i - pos = 9 → b[i].toNat % 128 ≤ 1 := by
     intro h9
     simp at hb
     have := hb (by omega)
     omega
    obtain ⟨s1, s2, s3⟩ := q5i h4 (Nat.mod_lt b[i].toNat (show 128 > 0 by decide)) (show i - pos ≤ 9 by omega) hb2
    have s4 := qwg (i - pos)
    try (refine ev3 @s1 @s4 (xg b hil) ?_; try exact True.intro)
    (repeat (with_reducible refine ob ?_))
    refine zk _ (fun hc => ?_) (fun hc => ?_)
    ·have hc2 : ¬ b[i].toNat < 128 := by simp at hc; omega
     rw [if_neg hc2] at h5
     try (refine ev ?_; try exact True.intro)
     have hj : i + 1 - pos = i - pos + 1 := by omega
     refine ⟨⟨(i + 1, u + b[i].toNat % 128 * 128 ^ (i - pos)), by simp only; omega, by simp only; omega, by simp only; omega, by simp only [hj]; exact s3, by simp only [hj] at h5 ⊢; exact h5⟩, ?_, by simp only; omega⟩
     try (refine ev4 @qjr.eq_1 @rdO.eq_1 @hj (qt (show i < 9223372036854775807 by omega)) ?_; try exact True.intro)
    ·have hc2 : b[i].toNat < 128 := by simp at hc; omega
     rw [if_pos hc2] at h5
     have hm : b[i].toNat % 128 = b[i].toNat := Nat.mod_eq_of_lt hc2
     rw [hm] at s1 s2 s3 hb2 hb
     try (refine ev1 @hm ?_; try exact True.intro)
     refine zk _ (fun hz => ?_) (fun hz => ?_)
     ·have hx : dInt (b.drop pos) = none := by
       rw [← h5, if_pos]
       simp at hz ⊢; omega
      try (refine ev1 (hnone hx) ?_; try exact True.intro)
     ·have hx : qhp ⟨b, pos, false⟩ = (unz (u + b[i].toNat * 128 ^ (i - pos)), ⟨b, i + 1, false⟩) := by
       rw [hrd, ← h5, if_neg (by simp at hz hb ⊢; omega)]
       simp only [List.length_drop]
       rw [show b.length - (b.length - (i + 1)) = i + 1 by omega]
      generalize hU : u + b[i].toNat * 128 ^ (i - pos) = u' at s2 hx ⊢
      have hU2 : (u : Int) + ((b[i].toNat * 128 ^ (i - pos) : Nat) : Int) = ((u' : Nat) : Int) := by rw [← hU, Int.natCast_add]
      have q2 : (u' : Int).tmod 2 = ((u' % 2 : Nat) : Int) := by rw [Int.tmod_eq_emod_of_nonneg (by omega)]; omega
      have q3 : IntKind.u64.wrap ((u' : Int).tdiv 2) = ((u' / 2 : Nat) : Int) := by rw [Int.tdiv_eq_ediv_of_nonneg (by omega), show ((u' : Int) / 2) = ((u' / 2 : Nat) : Int) by omega, f2 _ (by omega)]
      have q4 : IntKind.i64.wrap ((u' / 2 : Nat) : Int) = ((u' / 2 : Nat) : Int) := xl (by unfold I64; omega)
      try (refine ev3 @hU2 @hx (qt (show i < 9223372036854775807 by omega)) ?_; try exact True.intro)
      try (refine ev2 @q2 @hx ?_; try exact True.intro)
      rcases Nat.mod_two_eq_zero_or_one u' with hp | hp
      ·have q5 : unz u' = ((u' / 2 : Nat) : Int) := by unfold unz; rw [if_pos hp]
       have q6 : ((((u' % 2 : Nat) : Int)) == 1) = false := by rw [hp]; rfl
       try (refine ev1 @q6 ?_; try exact True.intro)
       (repeat (with_reducible refine ob ?_)); refine no_ ?_
       try (refine ev4 @hU2 @q3 @q4 @q5 ?_; try exact True.intro)
      ·have q5 : unz u' = IntKind.i64.wrap (IntKind.i64.wrap (0 - ((u' / 2 : Nat) : Int)) - 1) := by
        unfold unz; rw [if_neg (by omega), xl (n := 0 - ((u' / 2 : Nat) : Int)) (by unfold I64; omega), xl (by unfold I64; omega)]; omega
       have q6 : ((((u' % 2 : Nat) : Int)) == 1) = true := by rw [hp]; rfl
       try (refine ev1 @q6 ?_; try exact True.intro)
       (repeat (with_reducible refine ob ?_)); refine qct ?_
       try (refine ev4 @hU2 @q3 @q4 @q5 ?_; try exact True.intro)
  ·have hx : dInt (b.drop pos) = none := by
    rw [← h5]
    simp only [Bool.and_eq_false_iff, decide_eq_false_iff_not] at hc
    rcases Nat.lt_or_ge i (pos + 10) with hi | hi
    ·rw [List.drop_of_length_le (by omega), show 10 - (i - pos) = (9 - (i - pos)) + 1 by omega]; rfl
    ·rw [show 10 - (i - pos) = 0 by omega]; rfl
   try (refine ev1 (hnone hx) ?_; try exact True.intro)
 ·simp only [if_true] at hrd
  try (refine ev2 @rdO.eq_1 @hrd ?_; try exact True.intro)
  refine xc (fun x : Unit => qjr b pos true pos 0) (fun x => 0) () ?_ (fun x => ?_)
  ·have e1 : 128 ^ (pos - pos) % 18446744073709551616 = 1 := by rw [Nat.sub_self]
   try (refine ev4 @qjr.eq_1 @e1 @rdO.eq_1 @Int.ofNat_zero ?_; try exact True.intro)
  try (refine ev2 @qjr.eq_1 @rdO.eq_1 ?_; try exact True.intro)
  (repeat (with_reducible refine ob ?_)); refine no_ ?_
  try (refine ev ?_; try exact True.intro)
end Go.Proofs.YtinnaedmdoengaaGreat
namespace Go.Proofs.YtinnaedmdoengaaGreat
open Go.Abs
set_option linter.unusedSimpArgs false
set_option linter.unusedVariables false
noncomputable section
set_option maxRecDepth 100000
def xed : List SOper := [
 ⟨some 4, .mov (.t 0), none⟩,
 ⟨some 5, .mov (.t 0), none⟩,
 ⟨some 6, .mov (.t 1), none⟩,
 ⟨some 7, .nilCheck (.t 4), none⟩,
 ⟨some 8, .faddr 1 (.t 7), none⟩,
 ⟨none, .store none (.t 8) (.t 6), none⟩,
 ⟨some 9, .nilCheck (.t 5), none⟩,
 ⟨some 10, .faddr 2 (.t 9), none⟩,
 ⟨none, .store none (.t 10) (.k (.d (.bool true))), none⟩]
def s178 : SCode := (.region xed 0 [])
theorem zis : qg s178.eq_1 := qh s178.eq_1
theorem xy0 : qa xed.eq_1 := qc
attribute [go_sem] xy0 zis
theorem xy1 : FnIs Tryz.prog 178 Tryz.f178 [] news s178 [] 11 := zc follows Tryz.func178
def xee : List SOper := [
 ⟨some 6, .mov (.k (.d (.int .i64 0))), none⟩]
def xef : List SOper := [
 ⟨some 9, .mov (.t 0), none⟩,
 ⟨some 10, .nilCheck (.t 9), none⟩,
 ⟨some 11, .faddr 1 (.t 10), none⟩,
 ⟨some 12, .load none (.t 11), none⟩,
 ⟨some 7, .mov (.t 12), none⟩]
def xeg : List SOper := [
 ⟨some 13, .mov (.t 0), none⟩,
 ⟨some 14, .call (.k (.d (.func (.func 79) [] []))) [(.t 13)], none⟩,
 ⟨some 8, .mov (.t 14), none⟩]
def xeh : List SOper := [
 ⟨some 15, .mov (.t 0), none⟩,
 ⟨some 16, .nilCheck (.t 15), none⟩,
 ⟨some 17, .faddr 2 (.t 16), none⟩,
 ⟨some 18, .load none (.t 17), none⟩]
def xei : List SOper := [
 ⟨some 6, .mov (.k (.d (.int .i64 0))), none⟩]
def xej : List SOper := [
 ⟨some 19, .mov (.t 8), none⟩,
 ⟨some 20, .mov (.t 1), none⟩,
 ⟨some 21, .bin .lss (.t 19) (.t 20), none⟩,
 ⟨some 22, .mov (.t 21), none⟩,
 ⟨some 23, .mov (.t 8), some (22, false)⟩,
 ⟨some 24, .mov (.t 2), some (22, false)⟩,
 ⟨some 25, .bin .gtr (.t 23) (.t 24), some (22, false)⟩,
 ⟨some 26, .pick (.t 22) (.k (.d (.bool true))) (.t 25), none⟩]
def xek : List SOper := [
 ⟨some 27, .mov (.t 0), none⟩,
 ⟨some 28, .mov (.t 7), none⟩,
 ⟨some 29, .call (.k (.d (.func (.func 178) [] []))) [(.t 27), (.t 28)], none⟩]
def xel : List SOper := [
 ⟨some 6, .mov (.k (.d (.int .i64 0))), none⟩]
def xem : List SOper := [
 ⟨some 30, .mov (.t 8), none⟩,
 ⟨some 6, .mov (.t 30), none⟩]
def s117 : SCode := (.seq (.region xee 0 []) (.seq (.region xef 0 []) (.seq (.region xeg 0 []) (.seq (.seq (.region xeh 0 []) (.cond (.t 18) (.seq (.region xei 0 []) .ret) .skip)) (.seq (.seq (.region xej 0 []) (.cond (.t 26) (.seq (.region xek 0 []) (.seq (.region xel 0 []) .ret)) .skip)) (.seq (.region xem 0 []) .ret))))))
theorem zit : qg s117.eq_1 := qh s117.eq_1
theorem xy2 : qa xee.eq_1 := qc
theorem xy3 : qa xef.eq_1 := qc
theorem xy4 : qa xeg.eq_1 := qc
theorem xy5 : qa xeh.eq_1 := qc
theorem xy6 : qa xei.eq_1 := qc
theorem xy7 : qa xej.eq_1 := qc
theorem xy8 : qa xek.eq_1 := qc
theorem xy9 : qa xel.eq_1 := qc
theorem xza : qa xem.eq_1 := qc
attribute [go_sem] xy2 xy3 xy4 xy5 xy6 xy7 xy8 xy9 xza zit
theorem xzb : FnIs Tryz.prog 117 Tryz.f117 [] news s117 [.tmp 6] 31 := zc follows Tryz.func117
def xen : List SOper := [
 ⟨some 2, .mov (.k (.d (.bool false))), none⟩]
def xeo : List SOper := [
 ⟨some 3, .mov (.t 0), none⟩,
 ⟨some 4, .nilCheck (.t 3), none⟩,
 ⟨some 5, .faddr 2 (.t 4), none⟩,
 ⟨some 6, .load none (.t 5), none⟩,
 ⟨some 7, .mov (.t 6), none⟩,
 ⟨some 8, .mov (.t 0), some (7, false)⟩,
 ⟨some 9, .nilCheck (.t 8), some (7, false)⟩,
 ⟨some 10, .faddr 1 (.t 9), some (7, false)⟩,
 ⟨some 11, .load none (.t 10), some (7, false)⟩,
 ⟨some 12, .mov (.t 0), some (7, false)⟩,
 ⟨some 13, .nilCheck (.t 12), some (7, false)⟩,
 ⟨some 14, .faddr 0 (.t 13), some (7, false)⟩,
 ⟨some 15, .load none (.t 14), some (7, false)⟩,
 ⟨some 16, .len (.t 15), some (7, false)⟩,
 ⟨some 17, .bin .geq (.t 11) (.t 16), some (7, false)⟩,
 ⟨some 18, .pick (.t 7) (.k (.d (.bool true))) (.t 17), none⟩,
 ⟨some 19, .mov (.t 18), none⟩,
 ⟨some 20, .mov (.t 0), some (19, false)⟩,
 ⟨some 21, .nilCheck (.t 20), some (19, false)⟩,
 ⟨some 22, .faddr 0 (.t 21), some (19, false)⟩,
 ⟨some 23, .load none (.t 22), some (19, false)⟩,
 ⟨some 24, .mov (.t 0), some (19, false)⟩,
 ⟨some 25, .nilCheck (.t 24), some (19, false)⟩,
 ⟨some 26, .faddr 1 (.t 25), some (19, false)⟩,
 ⟨some 27, .load none (.t 26), some (19, false)⟩,
 ⟨some 28, .iaddr 1 (.t 23) (.t 27), some (19, false)⟩,
 ⟨some 29, .load none (.t 28), some (19, false)⟩,
 ⟨some 30, .bin .gtr (.t 29) (.k (.d (.int .u8 1))), some (19, false)⟩,
 ⟨some 31, .pick (.t 19) (.k (.d (.bool true))) (.t 30), none⟩]
def xep : List SOper := [
 ⟨some 32, .mov (.t 0), none⟩,
 ⟨some 33, .nilCheck (.t 32), none⟩,
 ⟨some 34, .faddr 2 (.t 33), none⟩,
 ⟨none, .store none (.t 34) (.k (.d (.bool true))), none⟩]
def xeq : List SOper := [
 ⟨some 2, .mov (.k (.d (.bool false))), none⟩]
def xer : List SOper := [
 ⟨some 35, .mov (.t 0), none⟩,
 ⟨some 36, .nilCheck (.t 35), none⟩,
 ⟨some 37, .faddr 1 (.t 36), none⟩,
 ⟨some 38, .load none (.t 37), none⟩,
 ⟨some 39, .bin .add (.t 38) (.k (.d (.int .i64 1))), none⟩,
 ⟨some 40, .nilCheck (.t 35), none⟩,
 ⟨some 41, .faddr 1 (.t 40), none⟩,
 ⟨none, .store none (.t 41) (.t 39), none⟩]
def xes : List SOper := [
 ⟨some 42, .mov (.t 0), none⟩,
 ⟨some 43, .nilCheck (.t 42), none⟩,
 ⟨some 44, .faddr 0 (.t 43), none⟩,
 ⟨some 45, .load none (.t 44), none⟩,
 ⟨some 46, .mov (.t 0), none⟩,
 ⟨some 47, .nilCheck (.t 46), none⟩,
 ⟨some 48, .faddr 1 (.t 47), none⟩,
 ⟨some 49, .load none (.t 48), none⟩,
 ⟨some 50, .bin .sub (.t 49) (.k (.d (.int .i64 1))), none⟩,
 ⟨some 51, .iaddr 1 (.t 45) (.t 50), none⟩,
 ⟨some 52, .load none (.t 51), none⟩,
 ⟨some 53, .bin .eql (.t 52) (.k (.d (.int .u8 1))), none⟩,
 ⟨some 2, .mov (.t 53), none⟩]
def s119 : SCode := (.seq (.region xen 0 []) (.seq (.seq (.region xeo 0 []) (.cond (.t 31) (.seq (.region xep 0 []) (.seq (.region xeq 0 []) .ret)) .skip)) (.seq (.region xer 0 []) (.seq (.region xes 0 []) .ret))))
theorem ziu : qg s119.eq_1 := qh s119.eq_1
theorem xzc : qa xen.eq_1 := qc
theorem xzd : qa xeo.eq_1 := qc
theorem xze : qa xep.eq_1 := qc
theorem xzf : qa xeq.eq_1 := qc
theorem xzg : qa xer.eq_1 := qc
theorem xzh : qa xes.eq_1 := qc
attribute [go_sem] xzc xzd xze xzf xzg xzh ziu
theorem zgz : FnIs Tryz.prog 119 Tryz.f119 [] news s119 [.tmp 2] 54 := zc follows Tryz.func119
def xet : List SOper := [
 ⟨some 4, .mov (.k (.d .nilsl)), none⟩]
def xeu : List SOper := [
 ⟨some 7, .mov (.t 0), none⟩,
 ⟨some 8, .nilCheck (.t 7), none⟩,
 ⟨some 9, .faddr 1 (.t 8), none⟩,
 ⟨some 10, .load none (.t 9), none⟩,
 ⟨some 5, .mov (.t 10), none⟩]
def xev : List SOper := [
 ⟨some 11, .mov (.t 0), none⟩,
 ⟨some 12, .mov (.t 1), none⟩,
 ⟨some 13, .call (.k (.d (.func (.func 117) [] []))) [(.t 11), (.k (.d (.int .i64 0))), (.t 12)], none⟩,
 ⟨some 6, .mov (.t 13), none⟩]
def xew : List SOper := [
 ⟨some 14, .mov (.t 0), none⟩,
 ⟨some 15, .nilCheck (.t 14), none⟩,
 ⟨some 16, .faddr 2 (.t 15), none⟩,
 ⟨some 17, .load none (.t 16), none⟩,
 ⟨some 18, .mov (.t 17), none⟩,
 ⟨some 19, .mov (.t 6), some (18, false)⟩,
 ⟨some 20, .mov (.t 0), some (18, false)⟩,
 ⟨some 21, .nilCheck (.t 20), some (18, false)⟩,
 ⟨some 22, .faddr 0 (.t 21), some (18, false)⟩,
 ⟨some 23, .load none (.t 22), some (18, false)⟩,
 ⟨some 24, .len (.t 23), some (18, false)⟩,
 ⟨some 25, .mov (.t 0), some (18, false)⟩,
 ⟨some 26, .nilCheck (.t 25), some (18, false)⟩,
 ⟨some 27, .faddr 1 (.t 26), some (18, false)⟩,
 ⟨some 28, .load none (.t 27), some (18, false)⟩,
 ⟨some 29, .bin .sub (.t 24) (.t 28), some (18, false)⟩,
 ⟨some 30, .bin .gtr (.t 19) (.t 29), some (18, false)⟩,
 ⟨some 31, .pick (.t 18) (.k (.d (.bool true))) (.t 30), none⟩]
def xex : List SOper := [
 ⟨some 32, .mov (.t 0), none⟩,
 ⟨some 33, .mov (.t 5), none⟩,
 ⟨some 34, .call (.k (.d (.func (.func 178) [] []))) [(.t 32), (.t 33)], none⟩]
def xey : List SOper := [
 ⟨some 4, .mov (.k (.d .nilsl)), none⟩]
def xez : List SOper := [
 ⟨some 35, .mov (.t 0), none⟩,
 ⟨some 36, .nilCheck (.t 35), none⟩,
 ⟨some 37, .faddr 1 (.t 36), none⟩,
 ⟨some 38, .load none (.t 37), none⟩,
 ⟨some 39, .mov (.t 6), none⟩,
 ⟨some 40, .bin .add (.t 38) (.t 39), none⟩,
 ⟨some 41, .nilCheck (.t 35), none⟩,
 ⟨some 42, .faddr 1 (.t 41), none⟩,
 ⟨none, .store none (.t 42) (.t 40), none⟩]
def xe0 : List SOper := [
 ⟨some 43, .buildSlice false 1 0 [(.int .u8 0)] [], none⟩,
 ⟨some 44, .mov (.t 0), none⟩,
 ⟨some 45, .nilCheck (.t 44), none⟩,
 ⟨some 46, .faddr 0 (.t 45), none⟩,
 ⟨some 47, .load none (.t 46), none⟩,
 ⟨some 48, .mov (.t 0), none⟩,
 ⟨some 49, .nilCheck (.t 48), none⟩,
 ⟨some 50, .faddr 1 (.t 49), none⟩,
 ⟨some 51, .load none (.t 50), none⟩,
 ⟨some 52, .mov (.t 6), none⟩,
 ⟨some 53, .bin .sub (.t 51) (.t 52), none⟩,
 ⟨some 54, .mov (.t 0), none⟩,
 ⟨some 55, .nilCheck (.t 54), none⟩,
 ⟨some 56, .faddr 1 (.t 55), none⟩,
 ⟨some 57, .load none (.t 56), none⟩,
 ⟨some 58, .slice 1 (.t 47) (some (.t 53)) (some (.t 57)) none, none⟩,
 ⟨some 59, .append false 1 1 (.t 43) (.t 58), none⟩,
 ⟨some 4, .mov (.t 59), none⟩]
def s120 : SCode := (.seq (.region xet 0 []) (.seq (.region xeu 0 []) (.seq (.region xev 0 []) (.seq (.seq (.region xew 0 []) (.cond (.t 31) (.seq (.region xex 0 []) (.seq (.region xey 0 []) .ret)) .skip)) (.seq (.region xez 0 []) (.seq (.region xe0 0 []) .ret))))))
theorem ziv : qg s120.eq_1 := qh s120.eq_1
theorem xzi : qa xet.eq_1 := qc
theorem xzj : qa xeu.eq_1 := qc
theorem xzk : qa xev.eq_1 := qc
theorem xzl : qa xew.eq_1 := qc
theorem xzm : qa xex.eq_1 := qc
theorem xzn : qa xey.eq_1 := qc
theorem xzo : qa xez.eq_1 := qc
theorem xzp : qa xe0.eq_1 := qc
attribute [go_sem] xzi xzj xzk xzl xzm xzn xzo xzp ziv
theorem zce : FnIs Tryz.prog 120 Tryz.f120 [] news s120 [.tmp 4] 60 := zc follows Tryz.func120
def xe1 : List SOper := [
 ⟨some 4, .mov (.k (.d (.str []))), none⟩]
def xe2 : List SOper := [
 ⟨some 5, .mov (.t 0), none⟩,
 ⟨some 6, .mov (.t 1), none⟩,
 ⟨some 7, .call (.k (.d (.func (.func 120) [] []))) [(.t 5), (.t 6)], none⟩,
 ⟨some 8, .b2s (.t 7), none⟩,
 ⟨some 4, .mov (.t 8), none⟩]
def s118 : SCode := (.seq (.region xe1 0 []) (.seq (.region xe2 0 []) .ret))
theorem ziw : qg s118.eq_1 := qh s118.eq_1
theorem xzq : qa xe1.eq_1 := qc
theorem xzr : qa xe2.eq_1 := qc
attribute [go_sem] xzq xzr ziw
theorem zg0 : FnIs Tryz.prog 118 Tryz.f118 [] news s118 [.tmp 4] 9 := zc follows Tryz.func118
def xzs : List SOper := [
 ⟨some 2, .mov (.k (.d (.int .i64 0))), none⟩]
def xzt : List SOper := [
 ⟨some 3, .mov (.t 0), none⟩,
 ⟨some 4, .nilCheck (.t 3), none⟩,
 ⟨some 5, .faddr 2 (.t 4), none⟩,
 ⟨some 6, .load none (.t 5), none⟩,
 ⟨some 7, .mov (.t 6), none⟩,
 ⟨some 8, .mov (.t 0), some (7, false)⟩,
 ⟨some 9, .nilCheck (.t 8), some (7, false)⟩,
 ⟨some 10, .faddr 1 (.t 9), some (7, false)⟩,
 ⟨some 11, .load none (.t 10), some (7, false)⟩,
 ⟨some 12, .mov (.t 0), some (7, false)⟩,
 ⟨some 13, .nilCheck (.t 12), some (7, false)⟩,
 ⟨some 14, .faddr 0 (.t 13), some (7, false)⟩,
 ⟨some 15, .load none (.t 14), some (7, false)⟩,
 ⟨some 16, .len (.t 15), some (7, false)⟩,
 ⟨some 17, .bin .neq (.t 11) (.t 16), some (7, false)⟩,
 ⟨some 18, .pick (.t 7) (.k (.d (.bool true))) (.t 17), none⟩]
def xzu : List SOper := [
 ⟨some 2, .mov (.k (.d (.int .i64 4))), none⟩]
def xzv : List SOper := [
 ⟨some 2, .mov (.k (.d (.int .i64 0))), none⟩]
def s80 : SCode := (.seq (.region xzs 0 []) (.seq (.seq (.region xzt 0 []) (.cond (.t 18) (.seq (.region xzu 0 []) .ret) .skip)) (.seq (.region xzv 0 []) .ret)))
theorem e80 : qg s80.eq_1 := qh s80.eq_1
theorem zcf : qa xzs.eq_1 := qc
theorem zcg : qa xzt.eq_1 := qc
theorem zch : qa xzu.eq_1 := qc
theorem zci : qa xzv.eq_1 := qc
attribute [go_sem] zcf zcg zch zci e80
theorem F80 : FnIs Tryz.prog 80 Tryz.f80 [] news s80 [.tmp 2] 19 := zc follows Tryz.func80
end
theorem qjs (r : Rd) (p : Nat) : qo Tryz.prog 178 [.d (.ptr 0 0), .d (.int .i64 (p : Nat))] [rdO r] (.tup []) [rdO ⟨r.b, p, true⟩] := by
 refine xy1.goT ?_
 try (refine ev1 @rdO.eq_1 ?_; try exact True.intro)
theorem qhb (r : Rd) (lo hi : Int) (hr : r.Ok) : qo Tryz.prog 117 [.d (.ptr 0 0), .d (.int .i64 lo), .d (.int .i64 hi)] [rdO r] (.d (.int .i64 (zg lo hi r).1)) [rdO (zg lo hi r).2] := by
 have hc := q5j r hr
 have h1 := q08 r hr
 have h2 := qed lo hi r hr
 obtain ⟨b, pos, f⟩ := r
 refine xzb.go ?_
 cases f
 ·simp only [Bool.false_eq_true, if_false, jm] at h1 h2
  cases hd : dInt (b.drop pos) with
  | none =>
   rw [hd] at h1 h2
   simp only at h1 h2
   rw [h1] at hc
   rw [h2]
   simp only [rdO] at hc
   try (refine ev1 @rdO.eq_1 ?_; try exact True.intro)
   (repeat (with_reducible refine ob ?_)); refine clO [0] F79 (hc) ?_ (hfit := by first | exact ⟨qe, trivial⟩ | exact ⟨qe, qe, trivial⟩ | (refine ev3 @qk.eq_1 @qn.eq_1 @qj.eq_1 ?_; try exact True.intro))
   try (refine ev ?_; try exact True.intro)
   (repeat (with_reducible refine ob ?_)); refine qct ?_
   try (refine ev ?_; try exact True.intro)
  | some x =>
   obtain ⟨n, l⟩ := x
   rw [hd] at h1 h2
   simp only at h1 h2
   rw [h1] at hc
   simp only [rdO] at hc
   try (refine ev1 @rdO.eq_1 ?_; try exact True.intro)
   (repeat (with_reducible refine ob ?_)); refine clO [0] F79 (hc) ?_ (hfit := by first | exact ⟨qe, trivial⟩ | exact ⟨qe, qe, trivial⟩ | (refine ev3 @qk.eq_1 @qn.eq_1 @qj.eq_1 ?_; try exact True.intro))
   try (refine ev ?_; try exact True.intro)
   (repeat (with_reducible refine ob ?_)); refine no_ ?_
   try (refine ev ?_; try exact True.intro)
   have hb : ((decide (n < lo) || decide (n > hi)) = true) = (n < lo ∨ n > hi) := by simp
   refine ⟨fun h => by rw [h]; rfl, ?_⟩
   refine zk _ (fun h => ?_) (fun h => ?_)
   ·rw [hb] at h
    rw [if_pos h] at h2
    simp only at h2
    have hfl := qjs ⟨b, b.length - l.length, false⟩ pos
    simp only [rdO] at hfl
    rw [h2]
    try (refine ev ?_; try exact True.intro)
    (repeat (with_reducible refine ob ?_)); refine clO [0] xy1 (hfl) ?_ (hfit := by first | exact ⟨qe, trivial⟩ | exact ⟨qe, qe, trivial⟩ | (refine ev3 @qk.eq_1 @qn.eq_1 @qj.eq_1 ?_; try exact True.intro))
    try (refine ev ?_; try exact True.intro)
   ·have h' : ¬ (n < lo ∨ n > hi) := by rw [← hb, h]; simp
    rw [if_neg h'] at h2
    simp only at h2
    rw [h2]
    try (refine ev ?_; try exact True.intro)
 ·simp only [if_true] at h1 h2
  rw [h1] at hc
  rw [h2]
  simp only [rdO] at hc
  try (refine ev1 @rdO.eq_1 ?_; try exact True.intro)
  (repeat (with_reducible refine ob ?_)); refine clO [0] F79 (hc) ?_ (hfit := by first | exact ⟨qe, trivial⟩ | exact ⟨qe, qe, trivial⟩ | (refine ev3 @qk.eq_1 @qn.eq_1 @qj.eq_1 ?_; try exact True.intro))
  try (refine ev ?_; try exact True.intro)
  (repeat (with_reducible refine ob ?_)); refine qct ?_
  try (refine ev ?_; try exact True.intro)
theorem qls (r : Rd) (most : Nat) (hr : r.Ok) (hm : most ≤ 1000000000) : qo Tryz.prog 120 [.d (.ptr 0 0), .d (.int .i64 (most : Nat))] [rdO r] (.d (.sl 1 (qd (kj most r).1))) [rdO (kj most r).2] := by
 have hc := qhb r 0 most hr
 have h1 := qed 0 most r hr
 have h2 := w8 most r hr
 obtain ⟨hln, hpos⟩ := hr
 obtain ⟨b, pos, f⟩ := r
 simp only at hln hpos
 refine zce.go ?_
 have hfl := fun q => qjs ⟨b, q, true⟩ pos
 have hfl2 := fun q => qjs ⟨b, q, false⟩ pos
 simp only [rdO] at hfl hfl2
 cases f
 ·simp only [Bool.false_eq_true, if_false, y6] at h1 h2
  cases hd : jm 0 most (b.drop pos) with
  | none =>
   rw [hd] at h1 h2
   simp only at h1 h2
   rw [h1] at hc
   rw [h2]
   simp only [rdO] at hc
   try (refine ev1 @rdO.eq_1 ?_; try exact True.intro)
   (repeat (with_reducible refine ob ?_)); refine clO [0] xzb (hc) ?_ (hfit := by first | exact ⟨qe, trivial⟩ | exact ⟨qe, qe, trivial⟩ | (refine ev3 @qk.eq_1 @qn.eq_1 @qj.eq_1 ?_; try exact True.intro))
   try (refine ev ?_; try exact True.intro)
   (repeat (with_reducible refine ob ?_)); refine qct ?_
   try (refine ev ?_; try exact True.intro)
   (repeat (with_reducible refine ob ?_)); refine clO [0] xy1 ((hfl pos)) ?_ (hfit := by first | exact ⟨qe, trivial⟩ | exact ⟨qe, qe, trivial⟩ | (refine ev3 @qk.eq_1 @qn.eq_1 @qj.eq_1 ?_; try exact True.intro))
   try (refine ev1 @qu ?_; try exact True.intro)
  | some x =>
   obtain ⟨n, l⟩ := x
   obtain ⟨p, hp⟩ := qad _ _ _ _ _ hd
   obtain ⟨t1, t2⟩ := qbo hpos hp
   have hn0 : 0 ≤ n ∧ n ≤ most := by
    unfold jm at hd
    split at hd
    ·split at hd
     ·cases hd
     ·cases hd; omega
    ·cases hd
   rw [hd] at h1 h2
   simp only at h1 h2
   rw [h1] at hc
   obtain ⟨m, rfl⟩ : ∃ m : Nat, n = m := ⟨n.toNat, by omega⟩
   simp only [Int.toNat_natCast] at h2
   simp only [rdO] at hc
   have e1 : IntKind.i64.wrap ((b.length : Int) - ((b.length - l.length : Nat) : Int)) = ((l.length : Nat) : Int) := by rw [xl (by unfold I64; omega)]; omega
   try (refine ev1 @rdO.eq_1 ?_; try exact True.intro)
   (repeat (with_reducible refine ob ?_)); refine clO [0] xzb (hc) ?_ (hfit := by first | exact ⟨qe, trivial⟩ | exact ⟨qe, qe, trivial⟩ | (refine ev3 @qk.eq_1 @qn.eq_1 @qj.eq_1 ?_; try exact True.intro))
   try (refine ev1 @e1 ?_; try exact True.intro)
   refine zk _ (fun h => ?_) (fun h => ?_)
   ·rw [if_pos (show l.length < m by simp at h; omega)] at h2
    simp only at h2
    rw [h2]
    try (refine ev ?_; try exact True.intro)
    (repeat (with_reducible refine ob ?_)); refine clO [0] xy1 ((hfl2 (b.length - l.length))) ?_ (hfit := by first | exact ⟨qe, trivial⟩ | exact ⟨qe, qe, trivial⟩ | (refine ev3 @qk.eq_1 @qn.eq_1 @qj.eq_1 ?_; try exact True.intro))
    try (refine ev1 @qu ?_; try exact True.intro)
   ·have hle : m ≤ l.length := by simp at h; omega
    rw [if_neg (show ¬ l.length < m by omega)] at h2
    simp only at h2
    rw [h2]
    generalize hq : b.length - l.length = q at t1 e1
    have e2 : IntKind.i64.wrap ((q : Int) + (m : Int)) = ((q + m : Nat) : Int) := by rw [xl (by unfold I64; omega)]; omega
    have e3 : IntKind.i64.wrap ((q : Int) + (m : Int) - (m : Int)) = ((q : Nat) : Int) := by rw [xl (by unfold I64; omega)]; omega
    have e5 : ((q : Int) + (m : Int)).toNat = q + m := by omega
    have e4 : q + m - q = m := by omega
    have e6 : b.length - (l.drop m).length = q + m := by rw [List.length_drop]; omega
    try (refine ev3 @hq @e2 @e6 ?_; try exact True.intro)
    try (refine ev1 @e3 ?_; try exact True.intro)
    rw [e5, e4, xq, xj, t1, zr]
    have hlm : (l.take m).length ≤ 1000000000 := by rw [List.length_take]; omega
    exact ⟨by omega, by omega, by simp only [go_sem]⟩
 ·simp only [if_true] at h1 h2
  rw [h1] at hc
  rw [h2]
  simp only [rdO] at hc
  try (refine ev1 @rdO.eq_1 ?_; try exact True.intro)
  (repeat (with_reducible refine ob ?_)); refine clO [0] xzb (hc) ?_ (hfit := by first | exact ⟨qe, trivial⟩ | exact ⟨qe, qe, trivial⟩ | (refine ev3 @qk.eq_1 @qn.eq_1 @qj.eq_1 ?_; try exact True.intro))
  try (refine ev ?_; try exact True.intro)
  (repeat (with_reducible refine ob ?_)); refine qct ?_
  try (refine ev ?_; try exact True.intro)
  (repeat (with_reducible refine ob ?_)); refine clO [0] xy1 ((hfl pos)) ?_ (hfit := by first | exact ⟨qe, trivial⟩ | exact ⟨qe, qe, trivial⟩ | (refine ev3 @qk.eq_1 @qn.eq_1 @qj.eq_1 ?_; try exact True.intro))
  try (refine ev1 @qu ?_; try exact True.intro)
theorem q1b (r : Rd) (most : Nat) (hr : r.Ok) (hm : most ≤ 1000000000) : qo Tryz.prog 118 [.d (.ptr 0 0), .d (.int .i64 (most : Nat))] [rdO r] (.d (.str (kj most r).1)) [rdO (kj most r).2] := by
 have hc := qls r most hr hm
 simp only [rdO] at hc
 refine zg0.go ?_
 try (refine ev1 @rdO.eq_1 ?_; try exact True.intro)
 (repeat (with_reducible refine ob ?_)); refine clO [0] zce (hc) ?_ (hfit := by first | exact ⟨qe, trivial⟩ | exact ⟨qe, qe, trivial⟩ | (refine ev3 @qk.eq_1 @qn.eq_1 @qj.eq_1 ?_; try exact True.intro))
 try (refine ev ?_; try exact True.intro)
theorem q1c (r : Rd) (hr : r.Ok) : qo Tryz.prog 119 [.d (.ptr 0 0)] [rdO r] (.d (.bool (qbn r).1)) [rdO (qbn r).2] := by
 have h2 := qfo r hr
 obtain ⟨hln, hpos⟩ := hr
 obtain ⟨b, pos, f⟩ := r
 simp only at hln hpos
 refine zgz.go ?_
 cases f
 ·simp only [Bool.false_eq_true, if_false] at h2
  by_cases hlt : pos < b.length
  ·have hg : decide (((pos : Nat) : Int) ≥ ((b.length : Nat) : Int)) = false := by simp; omega
   have hw : IntKind.i64.wrap ((pos : Int) + 1) = ((pos + 1 : Nat) : Int) := by rw [xl (by unfold I64; omega)]; omega
   have hw2 : IntKind.i64.wrap ((pos : Int) + 1 - 1) = ((pos : Nat) : Int) := by rw [xl (by unfold I64; omega)]; omega
   rw [List.drop_eq_getElem_cons hlt, qfn] at h2
   try (refine ev3 @rdO.eq_1 @hg (xg b hlt) ?_; try exact True.intro)
   (repeat (with_reducible refine ob ?_))
   refine zk _ (fun h => ?_) (fun h => ?_)
   ·rw [if_pos (show b[pos].toNat > 1 by simp at h; omega)] at h2
    simp only at h2
    rw [h2]
    try (refine ev ?_; try exact True.intro)
   ·rw [if_neg (show ¬ b[pos].toNat > 1 by simp at h; omega)] at h2
    simp only [List.length_drop] at h2
    rw [show b.length - (b.length - (pos + 1)) = pos + 1 by omega] at h2
    rw [h2]
    try (refine ev1 @hw ?_; try exact True.intro)
    try (refine ev2 @hw2 (xg b hlt) ?_; try exact True.intro)
    (repeat (with_reducible refine ob ?_))
    try (refine ev1 @xdx ?_; try exact True.intro)
  ·have hg : decide (((pos : Nat) : Int) ≥ ((b.length : Nat) : Int)) = true := by simp; omega
   have hgd : (qd b).getD pos [] = [] := by rw [List.getD_eq_getElem?_getD, List.getElem?_eq_none (by rw [zr]; omega)]; rfl
   rw [List.drop_of_length_le (by omega), qfn] at h2
   simp only at h2
   rw [h2]
   try (refine ev3 @rdO.eq_1 @hg @hgd ?_; try exact True.intro)
   (repeat (with_reducible refine ob ?_)); refine qct ?_
   try (refine ev ?_; try exact True.intro)
 ·simp only [if_true] at h2
  rw [h2]
  try (refine ev1 @rdO.eq_1 ?_; try exact True.intro)
  by_cases hlt : pos < b.length
  ·try (refine ev1 (xg b hlt) ?_; try exact True.intro)
   (repeat (with_reducible refine ob ?_)); refine qct ?_
   try (refine ev ?_; try exact True.intro)
  ·have hgd : (qd b).getD pos [] = [] := by rw [List.getD_eq_getElem?_getD, List.getElem?_eq_none (by rw [zr]; omega)]; rfl
   try (refine ev1 @hgd ?_; try exact True.intro)
   (repeat (with_reducible refine ob ?_)); refine qct ?_
   try (refine ev ?_; try exact True.intro)
theorem q5k (r : Rd) (hr : r.Ok) : qo Tryz.prog 80 [.d (.ptr 0 0)] [rdO r] (.d (.int .i64 (rEnd r))) [rdO r] := by
 obtain ⟨hln, hpos⟩ := hr
 obtain ⟨b, pos, f⟩ := r
 simp only at hln hpos
 refine F80.go ?_
 cases f
 ·try (refine ev1 @rdO.eq_1 ?_; try exact True.intro)
  refine zk _ (fun h => ?_) (fun h => ?_)
  ·have hx : rEnd ⟨b, pos, false⟩ = 4 := by unfold rEnd; rw [if_pos]; simp at h ⊢; omega
   try (refine ev1 @hx ?_; try exact True.intro)
  ·have hx : rEnd ⟨b, pos, false⟩ = 0 := by unfold rEnd; rw [if_neg]; simp at h ⊢; omega
   try (refine ev1 @hx ?_; try exact True.intro)
 ·try (refine ev1 @rdO.eq_1 ?_; try exact True.intro)
  (repeat (with_reducible refine ob ?_)); refine qct ?_
  try (refine ev1 @rEnd.eq_1 ?_; try exact True.intro)
noncomputable section
set_option maxRecDepth 100000
def xzw : List SOper := [
 ⟨some 2, .mov (.k (.d .nilsl)), none⟩,
 ⟨some 3, .mov (.k (.d (.int .i64 0))), none⟩]
def xzx : List SOper := [
 ⟨some 11, .buildSlice false 1 0 [(.int .u8 0)] [], none⟩,
 ⟨some 12, .mov (.t 0), none⟩,
 ⟨some 13, .append false 1 1 (.t 11) (.t 12), none⟩,
 ⟨some 14, .build [.nilsl, (.int .i64 0), (.bool false)] [(0, 1, (.t 13))], none⟩,
 ⟨some 15, .box 1 (.t 14), none⟩,
 ⟨some 4, .mov (.t 15), none⟩]
def xzy : List SOper := [
 ⟨some 16, .mov (.t 4), none⟩,
 ⟨some 17, .call (.k (.d (.func (.func 117) [] []))) [(.t 16), (.k (.d (.int .i64 1))), (.k (.d (.int .i64 20)))], none⟩,
 ⟨some 5, .mov (.t 17), none⟩]
def xzz : List SOper := [
 ⟨some 6, .mov (.k (.d .nilsl)), none⟩]
def xz0 : List SOper := [
 ⟨some 7, .mov (.k (.d (.int .i64 0))), none⟩]
def xz1 : List SOper := [
 ⟨some 18, .mov (.t 7), none⟩,
 ⟨some 19, .mov (.t 5), none⟩,
 ⟨some 20, .bin .lss (.t 18) (.t 19), none⟩]
def xz2 : List SOper := [
 ⟨some 23, .mov (.t 4), none⟩,
 ⟨some 24, .call (.k (.d (.func (.func 118) [] []))) [(.t 23), (.k (.d (.int .i64 40)))], none⟩,
 ⟨some 25, .mov (.t 4), none⟩,
 ⟨some 26, .call (.k (.d (.func (.func 119) [] []))) [(.t 25)], none⟩,
 ⟨some 27, .build [(.str []), (.bool false), .nilsl] [(0, 1, (.t 24)), (1, 1, (.t 26))], none⟩,
 ⟨some 8, .alloc 1 [(.d (.str [])), (.d (.bool false)), (.d .nilsl)], none⟩,
 ⟨none, .store (some 3) (.t 8) (.t 27), none⟩]
def xz3 : List SOper := [
 ⟨some 28, .mov (.t 4), none⟩,
 ⟨some 29, .call (.k (.d (.func (.func 120) [] []))) [(.t 28), (.k (.d (.int .i64 900)))], none⟩,
 ⟨some 30, .faddr 2 (.t 8), none⟩,
 ⟨none, .store none (.t 30) (.t 29), none⟩]
def xz4 : List SOper := [
 ⟨some 31, .mov (.t 6), none⟩,
 ⟨some 32, .load (some 3) (.t 8), none⟩,
 ⟨some 33, .buildSlice false 3 1 [(.str []), (.bool false), .nilsl] [(0, 3, (.t 32))], none⟩,
 ⟨some 34, .append false 3 48 (.t 31) (.t 33), none⟩,
 ⟨some 6, .mov (.t 34), none⟩]
def xz5 : List SOper := [
 ⟨some 21, .mov (.t 7), none⟩,
 ⟨some 22, .bin .add (.t 21) (.k (.d (.int .i64 1))), none⟩,
 ⟨some 7, .mov (.t 22), none⟩]
def q1d : SCode := (.seq (.seq (.region xz1 0 []) (.cond (.t 20) .skip (.exit 0))) (.seq (.block 1 (.seq (.region xz2 1 []) (.seq (.region xz3 0 []) (.region xz4 0 [])))) (.region xz5 0 [])))
theorem xz6 : qg q1d.eq_1 := qh q1d.eq_1
def xe3 : List SOper := [
 ⟨some 35, .mov (.t 4), none⟩,
 ⟨some 36, .call (.k (.d (.func (.func 80) [] []))) [(.t 35)], none⟩,
 ⟨some 37, .bin .neq (.t 36) (.k (.d (.int .i64 0))), none⟩]
def xe4 : List SOper := [
 ⟨some 2, .mov (.k (.d .nilsl)), none⟩,
 ⟨some 3, .mov (.k (.d (.int .i64 4))), none⟩]
def xe5 : List SOper := [
 ⟨some 39, .mov (.t 6), none⟩,
 ⟨some 40, .call (.k (.d (.func (.func 73) [] []))) [(.t 39)], none⟩,
 ⟨some 38, .mov (.t 40), none⟩,
 ⟨some 41, .extract 0 (.t 38), none⟩,
 ⟨some 42, .extract 1 (.t 38), none⟩,
 ⟨some 9, .mov (.t 41), none⟩,
 ⟨some 10, .mov (.t 42), none⟩]
def xe6 : List SOper := [
 ⟨some 43, .mov (.t 10), none⟩,
 ⟨some 44, .bin .neq (.t 43) (.k (.d (.int .i64 0))), none⟩]
def xe7 : List SOper := [
 ⟨some 2, .mov (.k (.d .nilsl)), none⟩,
 ⟨some 3, .mov (.k (.d (.int .i64 4))), none⟩]
def xe8 : List SOper := [
 ⟨some 45, .mov (.t 6), none⟩,
 ⟨some 2, .mov (.t 45), none⟩,
 ⟨some 3, .mov (.k (.d (.int .i64 0))), none⟩]
def s61 : SCode := (.seq (.region xzw 0 []) (.seq (.region xzx 1 []) (.seq (.region xzy 0 []) (.seq (.region xzz 0 []) (.seq (.seq (.region xz0 0 []) (.block 0 (.loop q1d))) (.seq (.seq (.region xe3 0 []) (.cond (.t 37) (.seq (.region xe4 0 []) .ret) .skip)) (.seq (.seq (.region xe5 0 []) (.seq (.region xe6 0 []) (.cond (.t 44) (.seq (.region xe7 0 []) .ret) .skip))) (.seq (.region xe8 0 []) .ret))))))))
theorem e61 : qg s61.eq_1 := qh s61.eq_1
theorem zcj : qa xzw.eq_1 := qc
theorem zck : qa xzx.eq_1 := qc
theorem zcl : qa xzy.eq_1 := qc
theorem zcm : qa xzz.eq_1 := qc
theorem zcn : qa xz0.eq_1 := qc
theorem zco : qa xz1.eq_1 := qc
theorem zcp : qa xz2.eq_1 := qc
theorem zcq : qa xz3.eq_1 := qc
theorem zcr : qa xz4.eq_1 := qc
theorem zcs : qa xz5.eq_1 := qc
theorem xz7 : qa xe3.eq_1 := qc
theorem xz8 : qa xe4.eq_1 := qc
theorem xz9 : qa xe5.eq_1 := qc
theorem x0a : qa xe6.eq_1 := qc
theorem x0b : qa xe7.eq_1 := qc
theorem x0c : qa xe8.eq_1 := qc
attribute [go_sem] zcj zck zcl zcm zcn zco zcp zcq zcr zcs xz6 xz7 xz8 xz9 x0a x0b x0c e61
theorem F61 : FnIs Tryz.prog 61 Tryz.f61 [] news s61 [.tmp 2, .tmp 3] 46 := zc follows Tryz.func61
end
def q5l (n : Nat) (r : Rd) (i : { i : Nat // i ≤ n }) : St :=
 ⟨[(4, true, .d (.ptr 0 0)), (5, true, .d (.int .i64 (n : Nat))), (6, true, .own 0 3 ((kz i.val r).1.map qk)), (7, true, .d (.int .i64 (i.val : Nat)))], [rdO (kz i.val r).2], [0], 1⟩
set_option maxRecDepth 10000 in
theorem qhc (b : List UInt8) (hb : b.length ≤ 1000000000) : qo Tryz.prog 61 [.d (.sl 1 (qd b))] [] (.tup [.d (.sl 3 ((xx b).1.map qk)), .d (.int .i64 (xx b).2)]) [] := by
 have hr0 : (⟨b, 0, false⟩ : Rd).Ok := ⟨hb, Nat.zero_le _⟩
 have hbd := qhb ⟨b, 0, false⟩ 1 20 hr0
 have hin := qha ⟨b, 0, false⟩ 1 20
 have hinv := (qfl hr0 1 20).1
 unfold xx qwe
 generalize zg 1 20 ⟨b, 0, false⟩ = x at hbd hin hinv ⊢
 obtain ⟨n, r⟩ := x
 simp only at hin hinv
 have hn0 : n = ((n.toNat : Nat) : Int) := by omega
 generalize n.toNat = m at hn0
 subst hn0
 simp only [rdO, Int.ofNat_zero] at hbd
 refine F61.goT ?_
 try (refine ev ?_; try exact True.intro)
 (repeat (with_reducible refine ob ?_))
 (repeat (with_reducible refine ob ?_)); refine clO [0] xzb (hbd) ?_ (hfit := by first | exact ⟨qe, trivial⟩ | exact ⟨qe, qe, trivial⟩ | (refine ev3 @qk.eq_1 @qn.eq_1 @qj.eq_1 ?_; try exact True.intro))
 try (refine ev ?_; try exact True.intro)
 refine xc (q5l m r) (fun i => m - i.val) ⟨0, Nat.zero_le _⟩ ?_ (fun i => ?_)
 ·try simp only [q5l, rdO, kz, List.map_nil, Int.ofNat_zero, go_sem, Nat.reduceAdd, Nat.reduceMul, Nat.reduceSub, Nat.reduceEqDiff, Nat.reduceLT, Nat.reduceLeDiff, Nat.reduceBEq, reduceIte, reduceCtorEq, Int.reduceAdd, Int.reduceLT, Int.reduceLE, Int.reduceGT, Int.reduceGE, Int.reduceEq, Int.reduceNe, Int.reduceBEq, Int.reduceBNe, Int.reduceToNat, Int.reduceNeg]
 obtain ⟨i, hi⟩ := i
 have hri := qfm hinv i
 try (refine ev2 @q5l.eq_1 @rdO.eq_1 ?_; try exact True.intro)
 (repeat (with_reducible refine ob ?_)); refine zk _ (fun h => ?_) (fun h => ?_)
 ·have hil : i < m := by simp at h; omega
  have hT := q1b (kz i r).2 40 hri.1 (by decide)
  have hiT := qcb hri.1 40
  have hB := q1c _ hiT.1
  have hiB := qgg hiT.1
  have hV := qls _ 900 hiB.1 (by decide)
  simp only [rdO] at hT hB hV
  try (refine ev ?_; try exact True.intro)
  (repeat (with_reducible refine ob ?_)); refine clO [0] zg0 (hT) ?_ (hfit := by first | exact ⟨qe, trivial⟩ | exact ⟨qe, qe, trivial⟩ | (refine ev3 @qk.eq_1 @qn.eq_1 @qj.eq_1 ?_; try exact True.intro))
  try (refine ev ?_; try exact True.intro)
  (repeat (with_reducible refine ob ?_)); refine clO [0] zgz (hB) ?_ (hfit := by first | exact ⟨qe, trivial⟩ | exact ⟨qe, qe, trivial⟩ | (refine ev3 @qk.eq_1 @qn.eq_1 @qj.eq_1 ?_; try exact True.intro))
  try (refine ev ?_; try exact True.intro)
  (repeat (with_reducible refine ob ?_)); refine clO [0] zce (hV) ?_ (hfit := by first | exact ⟨qe, trivial⟩ | exact ⟨qe, qe, trivial⟩ | (refine ev3 @qk.eq_1 @qn.eq_1 @qj.eq_1 ?_; try exact True.intro))
  try (refine ev ?_; try exact True.intro)
  (repeat (with_reducible refine ob ?_))
  refine ⟨⟨i + 1, hil⟩, ?_, by dsimp only; omega⟩
  try simp only [q5l, rdO, kz, rOp, List.map_append, List.map_cons, List.map_nil, qk, qt (show i < 9223372036854775807 by omega), go_sem, Nat.reduceAdd, Nat.reduceMul, Nat.reduceSub, Nat.reduceEqDiff, Nat.reduceLT, Nat.reduceLeDiff, Nat.reduceBEq, reduceIte, reduceCtorEq, Int.reduceAdd, Int.reduceLT, Int.reduceLE, Int.reduceGT, Int.reduceGE, Int.reduceEq, Int.reduceNe, Int.reduceBEq, Int.reduceBNe, Int.reduceToNat, Int.reduceNeg]
 ·have hil : i = m := by simp at h; omega
  subst hil
  have hE := q5k (kz i r).2 hri.1
  simp only [rdO] at hE
  try (refine ev ?_; try exact True.intro)
  (repeat (with_reducible refine ob ?_)); refine clO [0] F80 (hE) ?_ (hfit := by first | exact ⟨qe, trivial⟩ | exact ⟨qe, qe, trivial⟩ | (refine ev3 @qk.eq_1 @qn.eq_1 @qj.eq_1 ?_; try exact True.intro))
  try (refine ev ?_; try exact True.intro)
  refine zk _ (fun h => ?_) (fun h => ?_)
  ·rw [if_pos (show rEnd (kz i r).2 ≠ 0 by simpa using h)]
   try (refine ev ?_; try exact True.intro)
  ·rw [if_neg (show ¬ rEnd (kz i r).2 ≠ 0 by simpa using h)]
   try (refine ev ?_; try exact True.intro)
   (repeat (with_reducible refine ob ?_)); first | refine cl F73 (jc (kz i r).1 (by omega)) ?_ | refine clF F73 (jc (kz i r).1 (by omega)) (fun _ => by (refine ev3 @qk.eq_1 @qn.eq_1 @qj.eq_1 ?_; try exact True.intro)) ?_
   try (refine ev ?_; try exact True.intro)
   refine zk _ (fun h => ?_) (fun h => ?_)
   ·rw [if_pos (show (ql (kz i r).1).2 ≠ 0 by simpa using h)]
    try (refine ev ?_; try exact True.intro)
   ·rw [if_neg (show ¬ (ql (kz i r).1).2 ≠ 0 by simpa using h)]
    try (refine ev ?_; try exact True.intro)
end Go.Proofs.YtinnaedmdoengaaGreat
namespace Go.Proofs.YtinnaedmdoengaaGreat
open Go.Abs
set_option linter.unusedSimpArgs false
set_option linter.unusedVariables false
theorem x0d (v : Nat) : zz (unz v) = v := by
 unfold zz unz
 split <;> split <;> omega
theorem x0e (n : Int) : unz (zz n) = n := by
 unfold zz unz
 split <;> split <;> omega
theorem toNat_ofNat {n : Nat} (h : n < 256) : (UInt8.ofNat n).toNat = n := by simp [UInt8.toNat_ofNat]; omega
theorem x0f (k : Nat) : ∀ (j u v : Nat) (l : List UInt8), j + (k + 1) = 10 → v * 128 ^ j < 18446744073709551616 → (v = 0 → j = 0) → dG (k + 1) j u (y4 v ++ l) = some (unz (u + v * 128 ^ j), l) := by
 have small : ∀ (k j u v : Nat) (l : List UInt8), v < 128 → v * 128 ^ j < 18446744073709551616 → (v = 0 → j = 0) → dG (k + 1) j u (y4 v ++ l) = some (unz (u + v * 128 ^ j), l) := by
  intro k j u v l hv hb h0
  rw [yh hv, List.singleton_append, dG, toNat_ofNat (by omega), if_pos hv, if_neg]
  simp only [Bool.or_eq_true, Bool.and_eq_true, beq_iff_eq, decide_eq_true_eq, not_or, not_and]
  refine ⟨fun h => by have := h0 h; omega, fun h => ?_⟩
  subst h
  have e : (128 : Nat) ^ 9 = 9223372036854775808 := by decide
  rw [e] at hb; omega
 induction k with
 | zero =>
  intro j u v l hj hb h0
  refine small 0 j u v l ?_ hb h0
  have : j = 9 := by omega
  subst this
  have e : (128 : Nat) ^ 9 = 9223372036854775808 := by decide
  rw [e] at hb; omega
 | succ k ih =>
  intro j u v l hj hb h0
  by_cases hv : v < 128
  ·exact small _ j u v l hv hb h0
  ·have hm : v % 128 + 128 < 256 := by omega
   rw [qas hv, List.cons_append, dG, toNat_ofNat hm, if_neg (by omega)]
   have e1 : (v % 128 + 128) % 128 = v % 128 := by omega
   have e2 : v % 128 * 128 ^ j + v / 128 * 128 ^ (j + 1) = v * 128 ^ j := by
    rw [Nat.pow_succ, Nat.mul_comm (128 ^ j) 128, ← Nat.mul_assoc, ← Nat.add_mul]
    congr 1; omega
   have hle : v / 128 * 128 ^ (j + 1) ≤ v * 128 ^ j := by omega
   rw [e1, ih (j + 1) _ (v / 128) l (by omega) (by omega) (by omega)]
   rw [Nat.add_assoc, e2]
theorem qtx {n : Int} (hn : I64 n) (l : List UInt8) : dInt (wInt n ++ l) = some (n, l) := by
 have := x0f 9 0 0 (zz n) l rfl (by rw [Nat.pow_zero, Nat.mul_one]; exact q4l hn) (fun _ => rfl)
 rw [Nat.pow_zero, Nat.mul_one, Nat.zero_add, x0e] at this
 exact this
theorem xe9 : ∀ (k j u : Nat) {l0 : List UInt8} {x : Int} {l : List UInt8}, j + k = 10 → dG k j u l0 = some (x, l) →
  ∃ v, x = unz (u + v * 128 ^ j) ∧ l0 = y4 v ++ l ∧ (v = 0 → j = 0) ∧ v * 128 ^ j < 18446744073709551616
 | 0, j, u, l0, x, l, hj, h => by simp [dG] at h
 | k + 1, j, u, [], x, l, hj, h => by simp [dG] at h
 | k + 1, j, u, c :: l0, x, l, hj, h => by
  rw [dG] at h
  have hlt := w7 c
  split at h
  ·rename_i hc
   split at h
   ·cases h
   ·rename_i hb
    cases h
    simp only [Bool.or_eq_true, Bool.and_eq_true, beq_iff_eq, decide_eq_true_eq, not_or, not_and] at hb
    refine ⟨c.toNat, rfl, ?_, fun h => by have := hb.1 h; omega, ?_⟩
    ·rw [yh hc, List.singleton_append]
     congr 1
     exact (UInt8.ofNat_toNat).symm
    ·rcases Nat.lt_or_ge j 9 with h9 | h9
     ·have hp := qc3 (j := j) (by omega)
      rw [Nat.pow_succ] at hp
      have : c.toNat * 128 ^ j ≤ 127 * 128 ^ j := Nat.mul_le_mul_right _ (by omega)
      omega
     ·have : j = 9 := by omega
      subst this
      have := hb.2 rfl
      have e : (128 : Nat) ^ 9 = 9223372036854775808 := by decide
      rw [e]; omega
  ·rename_i hc
   obtain ⟨v, h1, h2, h3, h4⟩ := xe9 k (j + 1) _ (by omega) h
   have e2 : c.toNat % 128 * 128 ^ j + v * 128 ^ (j + 1) = (v * 128 + c.toNat % 128) * 128 ^ j := by
    rw [Nat.pow_succ, Nat.mul_comm (128 ^ j) 128, ← Nat.mul_assoc, ← Nat.add_mul, Nat.add_comm]
   have hv : v ≠ 0 := fun h => by have := h3 h; omega
   have hk : k ≠ 0 := by
    rintro rfl
    simp [dG] at h
   refine ⟨v * 128 + c.toNat % 128, by rw [h1, Nat.add_assoc, e2], ?_, fun h => by omega, ?_⟩
   ·rw [h2, qas (u := v * 128 + c.toNat % 128) (by omega), List.cons_append]
    have e3 : (v * 128 + c.toNat % 128) % 128 + 128 = c.toNat := by omega
    have e4 : (v * 128 + c.toNat % 128) / 128 = v := by omega
    rw [e3, e4]
    congr 1
    exact (UInt8.ofNat_toNat).symm
   ·rw [← e2]
    have hp := qc3 (j := j) (by omega)
    have h5 : c.toNat % 128 * 128 ^ j ≤ 127 * 128 ^ j := Nat.mul_le_mul_right _ (by omega)
    have h6 : v * 128 ^ (j + 1) % 128 ^ (j + 1) = 0 := Nat.mul_mod_left _ _
    have h7 : (18446744073709551616 : Nat) % 128 ^ (j + 1) = 0 := by
     have : (18446744073709551616 : Nat) = 2 * 128 ^ 9 := by decide
     rw [this, ← Nat.pow_sub_mul_pow 128 (show j + 1 ≤ 9 by omega), ← Nat.mul_assoc]
     exact Nat.mul_mod_left _ _
    have h8 : 127 * 128 ^ j < 128 ^ (j + 1) := by rw [Nat.pow_succ]; have : 0 < 128 ^ j := Nat.pow_pos (by decide); omega
    generalize hP : 128 ^ (j + 1) = P at h4 h6 h7 h8 ⊢
    obtain ⟨q, hq⟩ := Nat.dvd_of_mod_eq_zero h7
    rw [hq] at h4 ⊢
    have : v < q := by
     rw [Nat.mul_comm P q] at h4
     exact Nat.lt_of_mul_lt_mul_right h4
    have : (v + 1) * P ≤ q * P := Nat.mul_le_mul_right _ this
    rw [Nat.add_mul, Nat.one_mul] at this
    rw [Nat.mul_comm P q]
    omega
theorem qty {l0 : List UInt8} {n : Int} {l : List UInt8} (h : dInt l0 = some (n, l)) : I64 n ∧ l0 = wInt n ++ l := by
 obtain ⟨v, h1, h2, _, h4⟩ := xe9 10 0 0 rfl h
 rw [Nat.pow_zero, Nat.mul_one] at h1 h4
 rw [Nat.zero_add] at h1
 subst h1
 refine ⟨?_, by rw [wInt, x0d]; exact h2⟩
 unfold I64 unz
 split <;> omega
theorem qlt {most : Int} {s : List UInt8} (hs : (s.length : Int) ≤ most) (hm : most ≤ 1000000000) (l : List UInt8) : y6 most (yi s ++ l) = some (s, l) := by
 unfold y6 jm yi
 rw [List.append_assoc, qtx (zy (by omega))]
 simp only
 rw [if_neg (by omega)]
 simp only [Int.toNat_natCast, List.length_append]
 rw [if_neg (by omega), List.take_left, List.drop_left]
theorem qlu {most : Int} {l0 s l : List UInt8} (h : y6 most l0 = some (s, l)) : l0 = yi s ++ l ∧ (s.length : Int) ≤ most := by
 unfold y6 jm at h
 cases hd : dInt l0 with
 | none => rw [hd] at h; cases h
 | some x =>
  obtain ⟨n, l1⟩ := x
  rw [hd] at h
  simp only at h
  by_cases hn : n < 0 ∨ n > most
  ·rw [if_pos hn] at h; cases h
  ·rw [if_neg hn] at h
   simp only at h
   split at h
   ·cases h
   ·rename_i hl
    cases h
    obtain ⟨_, h1⟩ := qty hd
    have e : ((l1.take n.toNat).length : Int) = n := by rw [List.length_take]; omega
    refine ⟨?_, by omega⟩
    unfold yi
    rw [e, List.append_assoc, List.take_append_drop]
    exact h1
theorem q1e (v : Bool) (l : List UInt8) : qfn ([if v then 1 else 0] ++ l) = some (v, l) := by cases v <;> rfl
theorem q1f {l0 : List UInt8} {v : Bool} {l : List UInt8} (h : qfn l0 = some (v, l)) : l0 = [if v then 1 else 0] ++ l := by
 cases l0 with
 | nil => cases h
 | cons c l1 =>
  rw [qfn] at h
  split at h
  ·cases h
  ·rename_i hc
   cases h
   have : c.toNat = 0 ∨ c.toNat = 1 := by omega
   rcases this with h | h
   ·have : c = 0 := UInt8.toNat_inj.1 h
    subst this; rfl
   ·have : c = 1 := UInt8.toNat_inj.1 h
    subst this; rfl
def dOp (l0 : List UInt8) : Option (OpS × List UInt8) := match y6 40 l0 with
 | none => none
 | some (k, l1) => match qfn l1 with
  | none => none
  | some (d, l2) => match y6 900 l2 with
   | none => none
   | some (v, l3) => some (⟨k, d, v⟩, l3)
theorem xj6 {o : OpS} (ho : zu o = true) (l : List UInt8) : dOp (wOp o ++ l) = some (o, l) := by
 obtain ⟨_, h1, h2, _⟩ := jg.1 ho
 unfold dOp wOp
 rw [List.append_assoc, List.append_assoc, qlt (by omega) (by omega)]
 simp only
 rw [q1e]
 simp only
 rw [qlt (by omega) (by omega)]
theorem q1g {l0 : List UInt8} {o : OpS} {l : List UInt8} (h : dOp l0 = some (o, l)) : l0 = wOp o ++ l := by
 unfold dOp at h
 cases h1 : y6 40 l0 with
 | none => rw [h1] at h; cases h
 | some x =>
  obtain ⟨k, l1⟩ := x
  rw [h1] at h
  simp only at h
  cases h2 : qfn l1 with
  | none => rw [h2] at h; cases h
  | some x =>
   obtain ⟨d, l2⟩ := x
   rw [h2] at h
   simp only at h
   cases h3 : y6 900 l2 with
   | none => rw [h3] at h; cases h
   | some x =>
    obtain ⟨v, l3⟩ := x
    rw [h3] at h
    cases h
    rw [(qlu h1).1, q1f h2, (qlu h3).1, wOp, List.append_assoc, List.append_assoc]
def qgh : Nat → List UInt8 → Option (List OpS × List UInt8)
 | 0, l => some ([], l)
 | n + 1, l0 => match qgh n l0 with
  | none => none
  | some (ops, l) => match dOp l with
   | none => none
   | some (o, l') => some (ops ++ [o], l')
theorem qqd (l : List OpS) (hp : ∀ o ∈ l, zu o = true) (rest : List UInt8) : ∀ k, k ≤ l.length → qgh k (l.flatMap wOp ++ rest) = some (l.take k, (l.drop k).flatMap wOp ++ rest)
 | 0, _ => rfl
 | k + 1, hk => by
  rw [qgh, qqd l hp rest k (by omega)]
  simp only
  rw [List.drop_eq_getElem_cons (by omega), List.flatMap_cons, List.append_assoc, xj6 (hp _ (List.getElem_mem (by omega)))]
  simp only
  rw [List.take_succ_eq_append_getElem (by omega)]
theorem qfp : ∀ (n : Nat) {l0 : List UInt8} {ops : List OpS} {l : List UInt8}, qgh n l0 = some (ops, l) → l0 = ops.flatMap wOp ++ l ∧ ops.length = n
 | 0, l0, ops, l, h => by cases h; exact ⟨rfl, rfl⟩
 | n + 1, l0, ops, l, h => by
  rw [qgh] at h
  cases h1 : qgh n l0 with
  | none => rw [h1] at h; cases h
  | some x =>
   obtain ⟨ops1, l1⟩ := x
   rw [h1] at h
   simp only at h
   cases h2 : dOp l1 with
   | none => rw [h2] at h; cases h
   | some x =>
    obtain ⟨o, l2⟩ := x
    rw [h2] at h
    cases h
    obtain ⟨e1, e2⟩ := qfp n h1
    rw [e1, q1g h2]
    simp [e2]
theorem q5m {r : Rd} (hr : r.Ok) (hf : r.failed = true) : (rOp r).2.failed = true := by
 have h1 := w8 40 r hr
 rw [if_pos hf] at h1
 have h2 := qfo r hr
 rw [if_pos hf] at h2
 have h3 := w8 900 r hr
 rw [if_pos hf] at h3
 simp only [rOp, h1, h2, h3, hf]
theorem qnd {α : Type} {b : List UInt8} {v : α} {l : List UInt8} {x : α × Rd} (h : Got (some (v, l)) b x) : x = (v, ⟨b, b.length - l.length, false⟩) := h
theorem qgi {α : Type} {z : α} {f : Rd → α × Rd} {d : List UInt8 → Option (α × List UInt8)} (hd : qqb z f d) {r : Rd} (hr : r.Ok) (hf : r.failed = false) {v : α} {l : List UInt8} (h : d (r.b.drop r.pos) = some (v, l)) : f r = (v, ⟨r.b, r.b.length - l.length, false⟩) := by
 rw [hd r hr, if_neg (by simp [hf]), h]
theorem qgj {α : Type} {z : α} {f : Rd → α × Rd} {d : List UInt8 → Option (α × List UInt8)} (hd : qqb z f d) {r : Rd} (hr : r.Ok) (hf : r.failed = false) (h : d (r.b.drop r.pos) = none) : (f r).2 = ⟨r.b, r.pos, true⟩ := by
 rw [hd r hr, if_neg (by simp [hf]), h]
theorem qgk {α : Type} {z : α} {f : Rd → α × Rd} {d : List UInt8 → Option (α × List UInt8)} (hd : qqb z f d) {r : Rd} (hr : r.Ok) (hf : r.failed = true) : f r = (z, r) := by
 rw [hd r hr, if_pos hf]
theorem zct {r : Rd} (hr : r.Ok) (hf : r.failed = false) : Got (dOp (r.b.drop r.pos)) r.b (rOp r) := by
 unfold dOp
 cases h1 : y6 40 (r.b.drop r.pos) with
 | none =>
  have e1 := qgj (w8 40) hr hf h1
  have hr1 : (⟨r.b, r.pos, true⟩ : Rd).Ok := ⟨hr.len, hr.pos⟩
  simp only [Got, rOp, e1, qgk qfo hr1 rfl, qgk (w8 900) hr1 rfl]
 | some x =>
  obtain ⟨k, l1⟩ := x
  have e1 := qgi (w8 40) hr hf h1
  obtain ⟨p1, hp1⟩ := qsr _ _ _ _ h1
  obtain ⟨t1, t2⟩ := qbo hr.pos hp1
  have hr1 : (⟨r.b, r.b.length - l1.length, false⟩ : Rd).Ok := ⟨hr.len, Nat.sub_le _ _⟩
  simp only
  cases h2 : qfn l1 with
  | none =>
   have e2 := qgj qfo hr1 rfl (by simp only [t1]; exact h2)
   simp only at e2
   have hr2 : (⟨r.b, r.b.length - l1.length, true⟩ : Rd).Ok := ⟨hr.len, Nat.sub_le _ _⟩
   simp only [Got, rOp, e1, e2, qgk (w8 900) hr2 rfl]
  | some x =>
   obtain ⟨d, l2⟩ := x
   have e2 := qgi qfo hr1 rfl (v := d) (l := l2) (by simp only [t1]; exact h2)
   simp only at e2
   obtain ⟨p2, hp2⟩ := qwf _ _ _ h2
   obtain ⟨t3, t4⟩ := qbo (b := r.b) (p := r.b.length - l1.length) (Nat.sub_le _ _) (by rw [t1]; exact hp2)
   have hr2 : (⟨r.b, r.b.length - l2.length, false⟩ : Rd).Ok := ⟨hr.len, Nat.sub_le _ _⟩
   simp only
   cases h3 : y6 900 l2 with
   | none =>
    have e3 := qgj (w8 900) hr2 rfl (by simp only [t3]; exact h3)
    simp only [Got, rOp, e1, e2, e3]
   | some x =>
    obtain ⟨v, l3⟩ := x
    have e3 := qgi (w8 900) hr2 rfl (v := v) (l := l3) (by simp only [t3]; exact h3)
    simp only [Got, rOp, e1, e2, e3]
theorem q1h {r : Rd} (hr : r.Ok) (hf : r.failed = false) : ∀ n, Got (qgh n (r.b.drop r.pos)) r.b (kz n r)
 | 0 => by
  have := hr.pos
  simp only [Got, qgh, kz, List.length_drop]
  rw [show r.b.length - (r.b.length - r.pos) = r.pos by omega, ← hf]
 | n + 1 => by
  have ih := q1h hr hf n
  have hi := qfm hr n
  rw [qgh]
  cases h1 : qgh n (r.b.drop r.pos) with
  | none =>
   rw [h1] at ih
   simp only [Got] at ih ⊢
   simp only [kz]
   exact q5m hi.1 ih
  | some x =>
   obtain ⟨ops, l⟩ := x
   rw [h1] at ih
   have ih := qnd ih
   obtain ⟨e1, _⟩ := qfp n h1
   obtain ⟨t1, t2⟩ := qbo hr.pos e1
   have hr1 : (⟨r.b, r.b.length - l.length, false⟩ : Rd).Ok := ⟨hr.len, Nat.sub_le _ _⟩
   have h2 := zct hr1 rfl
   simp only [t1] at h2
   simp only
   cases h3 : dOp l with
   | none =>
    rw [h3] at h2
    simp only [Got] at h2 ⊢
    simp only [kz, ih, h2]
   | some x =>
    obtain ⟨o, l'⟩ := x
    rw [h3] at h2
    have h2 := qnd h2
    simp only [Got, kz, ih, h2]
theorem qqe {b : List UInt8} (hb : b.length ≤ 1000000000) : xx b = match jm 1 20 b with
  | none => ([], 4)
  | some (n, l) => match qgh n.toNat l with
   | some (ops, []) => if (ql ops).2 ≠ 0 then ([], 4) else (ops, 0)
   | _ => ([], 4) := by
 have hr0 : (⟨b, 0, false⟩ : Rd).Ok := ⟨hb, Nat.zero_le _⟩
 have h1 := qed 1 20 ⟨b, 0, false⟩ hr0
 simp only [Bool.false_eq_true, if_false, List.drop_zero] at h1
 unfold xx qwe
 cases hd : jm 1 20 b with
 | none =>
  rw [hd] at h1
  simp only at h1
  rw [h1, if_pos]
  simp [kz, rEnd]
 | some x =>
  obtain ⟨n, l⟩ := x
  rw [hd] at h1
  simp only at h1
  rw [h1]
  obtain ⟨p, hp⟩ := qad _ _ _ _ _ hd
  obtain ⟨t1, t2⟩ := qbo (b := b) (p := 0) (Nat.zero_le _) (by rw [List.drop_zero]; exact hp)
  have hr1 : (⟨b, b.length - l.length, false⟩ : Rd).Ok := ⟨hb, Nat.sub_le _ _⟩
  have h2 := q1h hr1 rfl n.toNat
  simp only [t1] at h2
  simp only
  cases h3 : qgh n.toNat l with
  | none =>
   rw [h3] at h2
   simp only [Got] at h2
   rw [if_pos (by unfold rEnd; rw [h2]; simp)]
  | some x =>
   obtain ⟨ops, l2⟩ := x
   rw [h3] at h2
   have h2 := qnd h2
   rw [h2]
   obtain ⟨e1, _⟩ := qfp _ h3
   have hl := congrArg List.length e1
   simp only [List.length_append] at hl
   cases l2 with
   | nil =>
    simp only
    rw [if_neg (by unfold rEnd; simp)]
   | cons c l2 =>
    simp only
    rw [if_pos]
    unfold rEnd
    simp only [List.length_cons] at hl ⊢
    rw [if_pos]
    ·simp
    ·simp; omega
theorem qne {l : List OpS} (h : (ql l).2 = 0) : xx (ql l).1 = (l, 0) := by
 obtain ⟨h20, hp, he⟩ := jk h
 have hlen := x9 l
 rw [qqe (by omega), he]
 have hl0 : l.length ≠ 0 := by
  intro h0
  unfold ql at h
  rw [if_pos (by simp [h0])] at h
  simp at h
 have e1 : jm 1 20 (wOps l) = some ((l.length : Int), l.flatMap wOp) := by
  unfold jm wOps
  rw [qtx (zy (by omega))]
  simp only
  rw [if_neg (by omega)]
 have e2 := qqd l hp [] l.length (Nat.le_refl _)
 rw [List.append_nil, List.take_length, List.drop_length, List.flatMap_nil, List.append_nil] at e2
 rw [e1]
 simp only [Int.toNat_natCast]
 rw [e2]
 simp only
 rw [if_neg (by simp [h])]
theorem qnf {b : List UInt8} (hb : b.length ≤ 1000000000) (h : (xx b).2 = 0) : ql (xx b).1 = (b, 0) := by
 have hd := qqe hb
 cases h1 : jm 1 20 b with
 | none => rw [h1] at hd; simp only at hd; rw [hd] at h; simp at h
 | some x =>
  obtain ⟨n, l⟩ := x
  rw [h1] at hd
  simp only at hd
  cases h2 : qgh n.toNat l with
  | none => rw [h2] at hd; simp only at hd; rw [hd] at h; simp at h
  | some x =>
   obtain ⟨ops, l2⟩ := x
   rw [h2] at hd
   cases l2 with
   | cons c l2 => simp only at hd; rw [hd] at h; simp at h
   | nil =>
    simp only at hd
    by_cases he : (ql ops).2 ≠ 0
    ·rw [if_pos he] at hd; rw [hd] at h; simp at h
    ·rw [if_neg he] at hd
     have he : (ql ops).2 = 0 := by simpa using he
     rw [hd]
     obtain ⟨_, _, e⟩ := jk he
     rw [e]
     obtain ⟨e1, e2⟩ := qfp _ h2
     unfold jm at h1
     cases h3 : dInt b with
     | none => rw [h3] at h1; cases h1
     | some x =>
      obtain ⟨m, l3⟩ := x
      rw [h3] at h1
      simp only at h1
      split at h1
      ·cases h1
      ·cases h1
       obtain ⟨_, e3⟩ := qty h3
       have : ((ops.length : Nat) : Int) = n := by omega
       rw [wOps, this, e3, e1, List.append_nil]
end Go.Proofs.YtinnaedmdoengaaGreat
namespace Go.Proofs.YtinnaedmdoengaaGreat
open Go.Abs
set_option linter.unusedSimpArgs false
set_option linter.unusedVariables false
noncomputable section
set_option maxRecDepth 100000
def x0g : List SOper := [
 ⟨some 2, .mov (.k (.d .nilptr)), none⟩,
 ⟨some 3, .mov (.k (.d (.int .i64 0))), none⟩]
def x0h : List SOper := [
 ⟨some 11, .call (.k (.d (.func (.func 10) [] []))) [], none⟩,
 ⟨some 4, .mov (.t 11), none⟩]
def x0i : List SOper := [
 ⟨some 13, .mov (.t 0), none⟩,
 ⟨some 14, .call (.k (.d (.func (.func 58) [] []))) [(.t 13)], none⟩,
 ⟨some 12, .mov (.t 14), none⟩,
 ⟨some 15, .extract 0 (.t 12), none⟩,
 ⟨some 16, .extract 1 (.t 12), none⟩,
 ⟨some 5, .alloc 1 [(.d .nilsl), (.d (.int .i64 0))], none⟩,
 ⟨none, .store (some 2) (.t 5) (.t 15), none⟩,
 ⟨some 6, .mov (.t 16), none⟩]
def x0j : List SOper := [
 ⟨some 17, .mov (.t 4), none⟩,
 ⟨some 18, .load (some 2) (.t 5), none⟩,
 ⟨some 19, .nilCheck (.t 17), none⟩,
 ⟨some 20, .faddr 0 (.t 19), none⟩,
 ⟨none, .store (some 2) (.t 20) (.t 18), none⟩]
def x0k : List SOper := [
 ⟨some 21, .mov (.t 6), none⟩,
 ⟨some 22, .len (.t 21), none⟩,
 ⟨some 23, .mov (.k (.d (.int .i64 0))), none⟩]
def x0l : List SOper := [
 ⟨some 24, .bin .lss (.t 23) (.t 22), none⟩]
def x0m : List SOper := [
 ⟨some 25, .iaddr 1 (.t 21) (.t 23), none⟩,
 ⟨some 26, .load none (.t 25), none⟩,
 ⟨some 8, .mov (.t 26), none⟩]
def x0n : List SOper := [
 ⟨some 28, .mov (.t 8), none⟩,
 ⟨some 29, .call (.k (.d (.func (.func 59) [] []))) [(.t 28)], none⟩,
 ⟨some 27, .mov (.t 29), none⟩,
 ⟨some 30, .extract 0 (.t 27), none⟩,
 ⟨some 31, .extract 1 (.t 27), none⟩,
 ⟨some 9, .mov (.t 30), none⟩,
 ⟨some 10, .mov (.t 31), none⟩]
def x0o : List SOper := [
 ⟨some 32, .mov (.t 10), none⟩,
 ⟨some 33, .bin .neq (.t 32) (.k (.d (.int .i64 0))), none⟩,
 ⟨some 34, .mov (.t 33), none⟩,
 ⟨some 35, .mov (.t 4), some (34, false)⟩,
 ⟨some 36, .nilCheck (.t 35), some (34, false)⟩,
 ⟨some 37, .faddr 2 (.t 36), some (34, false)⟩,
 ⟨some 38, .load none (.t 37), some (34, false)⟩,
 ⟨some 39, .mov (.t 9), some (34, false)⟩,
 ⟨some 40, .call (.k (.d (.func (.func 52) [] []))) [(.t 38), (.t 39)], some (34, false)⟩,
 ⟨some 41, .not (.t 40), some (34, false)⟩,
 ⟨some 42, .pick (.t 34) (.k (.d (.bool true))) (.t 41), none⟩]
def x0p : List SOper := [
 ⟨some 2, .mov (.k (.d .nilptr)), none⟩,
 ⟨some 3, .mov (.k (.d (.int .i64 4))), none⟩]
def xfa : List SOper := [
 ⟨some 43, .bin .add (.t 23) (.k (.d (.int .i64 1))), none⟩,
 ⟨some 23, .mov (.t 43), none⟩]
def q1i : SCode := (.seq (.region x0l 0 []) (.seq (.cond (.t 24) .skip (.exit 0)) (.seq (.block 1 (.seq (.region x0m 0 []) (.seq (.region x0n 0 []) (.seq (.region x0o 0 []) (.cond (.t 42) (.seq (.region x0p 0 []) .ret) .skip))))) (.region xfa 0 []))))
theorem x0q : qg q1i.eq_1 := qh q1i.eq_1
def xfb : List SOper := [
 ⟨some 44, .mov (.t 4), none⟩,
 ⟨some 2, .mov (.t 44), none⟩,
 ⟨some 3, .mov (.k (.d (.int .i64 0))), none⟩]
def s18 : SCode := (.seq (.region x0g 0 []) (.seq (.region x0h 2 []) (.seq (.region x0i 1 []) (.seq (.region x0j 0 []) (.seq (.seq (.region x0k 0 []) (.block 0 (.loop q1i))) (.seq (.region xfb 0 []) .ret))))))
theorem e18 : qg s18.eq_1 := qh s18.eq_1
theorem zcu : qa x0g.eq_1 := qc
theorem zcv : qa x0h.eq_1 := qc
theorem zcw : qa x0i.eq_1 := qc
theorem zcx : qa x0j.eq_1 := qc
theorem zcy : qa x0k.eq_1 := qc
theorem zcz : qa x0l.eq_1 := qc
theorem zc0 : qa x0m.eq_1 := qc
theorem zc1 : qa x0n.eq_1 := qc
theorem zc2 : qa x0o.eq_1 := qc
theorem zc3 : qa x0p.eq_1 := qc
theorem x0r : qa xfa.eq_1 := qc
theorem x0s : qa xfb.eq_1 := qc
attribute [go_sem] zcu zcv zcw zcx zcy zcz zc0 zc1 zc2 zc3 x0r x0q x0s e18
theorem F18 : FnIs Tryz.prog 18 Tryz.f18 [] news s18 [.tmp 2, .tmp 3] 45 := zc follows Tryz.func18
end
def qgl : Cont → List (List UInt8) → Option Cont
 | m, [] => some m
 | m, b :: l => if (xx b).2 ≠ 0 then none else if (jn m (xx b).1).2 = false then none else qgl (jn m (xx b).1).1 l
def qbp (file : List UInt8) : Option Sto := (qgl y5 (jd file)).map fun m => ⟨file.take (wi file), (wi file : Nat), m⟩
def qjt (file : List UInt8) : Int := if (qbp file).isSome then 0 else 4
def qju (file : List UInt8) : D := if (qbp file).isSome then .ptr 1 0 else .nilptr
def qng (file : List UInt8) : List AObj := match qbp file with
 | some s => [mapO s.m, stoO s 0]
 | none => [.none, .none]
theorem qc4 {b : List UInt8} (hb : b.length ≤ 1000000000) (h : (xx b).2 = 0) : (xx b).1.length ≤ 20 ∧ ∀ o ∈ (xx b).1, zu o = true := by
 have h1 := qnf hb h
 obtain ⟨k1, k2, _⟩ := jk (by rw [h1] : (ql (xx b).1).2 = 0)
 exact ⟨k1, k2⟩
theorem qhd (l : List (List UInt8)) {i : Nat} (h : i < l.length) : (kw l).getD i [] = [.sl 1 (qd l[i])] := xi (fun r : List UInt8 => [D.sl 1 (qd r)]) l h []
def q5n (file : List UInt8) (i : Nat) (m : Cont) : St :=
 ⟨[(4, true, .d (.ptr 1 0)), (21, true, .d (.sl 1 (kw (jd file)))), (22, true, .d (.int .i64 (jd file).length)), (23, true, .d (.int .i64 (i : Nat)))], [mapO m, stoO ⟨file.take (wi file), (wi file : Nat), m⟩ 0], [], 1⟩
set_option maxRecDepth 10000 in
theorem q1j (file : List UInt8) (hb : file.length ≤ 1000000000) : qo Tryz.prog 18 [.d (.sl 1 (qd file))] [] (.tup [.d (qju file), .d (.int .i64 (qjt file))]) (qng file) := by
 have k0 := qse
 have hln := qp1 file
 simp only [stoO, mapO] at k0
 refine F18.goT ?_
 try (refine ev ?_; try exact True.intro)
 refine clO [0, 1] F10 k0 ?_
 try (refine ev ?_; try exact True.intro)
 (repeat (with_reducible refine ob ?_)); first | refine cl F58 (qll file hb) ?_ | refine clF F58 (qll file hb) (fun _ => by (refine ev3 @qk.eq_1 @qn.eq_1 @qj.eq_1 ?_; try exact True.intro)) ?_
 try (refine ev1 @zt.eq_1 ?_; try exact True.intro)
 refine xc (fun x : { x : Nat × Cont // x.1 ≤ (jd file).length ∧ qgl x.2 ((jd file).drop x.1) = qgl y5 (jd file) } => q5n file x.val.1 x.val.2) (fun x => (jd file).length - x.val.1) ⟨(0, y5), Nat.zero_le _, by simp⟩ ?_ (fun x => ?_)
 ·try (refine ev5 @q5n.eq_1 @stoO.eq_1 @mapO.eq_1 @newS.eq_1 @Int.ofNat_zero ?_; try exact True.intro)
 obtain ⟨⟨i, m⟩, hi, hx⟩ := x
 simp only at hi hx
 try (refine ev3 @q5n.eq_1 @stoO.eq_1 @mapO.eq_1 ?_; try exact True.intro)
 refine zk _ (fun hc => ?_) (fun hc => ?_)
 ·have hil : i < (jd file).length := by simpa using hc
  have hr := qec file _ (List.getElem_mem hil)
  rw [List.drop_eq_getElem_cons hil, qgl] at hx
  try simp only [qhd _ hil, go_sem, Nat.reduceAdd, Nat.reduceMul, Nat.reduceSub, Nat.reduceEqDiff, Nat.reduceLT, Nat.reduceLeDiff, Nat.reduceBEq, reduceIte, reduceCtorEq, Int.reduceAdd, Int.reduceLT, Int.reduceLE, Int.reduceGT, Int.reduceGE, Int.reduceEq, Int.reduceNe, Int.reduceBEq, Int.reduceBNe, Int.reduceToNat, Int.reduceNeg]
  (repeat (with_reducible refine ob ?_))
  (repeat (with_reducible refine ob ?_)); first | refine cl F59 (qlp (jd file)[i] (by omega)) ?_ | refine clF F59 (qlp (jd file)[i] (by omega)) (fun _ => by (refine ev3 @qk.eq_1 @qn.eq_1 @qj.eq_1 ?_; try exact True.intro)) ?_
  try (refine ev ?_; try exact True.intro)
  by_cases he : (xx (jd file)[i]).2 = 0
  ·rw [if_neg (by simpa using he)] at hx
   obtain ⟨g1, g2⟩ := qc4 (by omega) he
   have hap := qtn m (xx (jd file)[i]).1 (by omega) (fun o ho => by have := (jg.1 (g2 o ho)).2.2.1; omega)
   simp only [mapO] at hap
   have hz : (((xx (jd file)[i]).2 : Int) != 0) = false := by rw [he]; rfl
   try (refine ev1 @hz ?_; try exact True.intro)
   (repeat (with_reducible refine ob ?_)); refine clO [0] F52 (hap) ?_ (hfit := by first | exact ⟨qe, trivial⟩ | exact ⟨qe, qe, trivial⟩ | (refine ev3 @qk.eq_1 @qn.eq_1 @qj.eq_1 ?_; try exact True.intro))
   try (refine ev ?_; try exact True.intro)
   refine zk _ (fun ha => ?_) (fun ha => ?_)
   ·rw [if_pos (by simpa using ha)] at hx
    have hs : qbp file = none := by rw [qbp, ← hx]; rfl
    have hP : qju file = .nilptr := by rw [qju, hs]; rfl
    have hE : qjt file = 4 := by rw [qjt, hs]; rfl
    have hO : qng file = [.none, .none] := by rw [qng, hs]
    try (refine ev3 @hP @hE @hO ?_; try exact True.intro)
   ·rw [if_neg (by simpa using ha)] at hx
    try (refine ev ?_; try exact True.intro)
    refine ⟨⟨(i + 1, (jn m (xx (jd file)[i]).1).1), hil, hx⟩, ?_, by dsimp only; omega⟩
    try (refine ev4 @q5n.eq_1 @stoO.eq_1 @mapO.eq_1 (qt (show i < 9223372036854775807 by omega)) ?_; try exact True.intro)
  ·rw [if_pos (by simpa using he)] at hx
   have hz : (((xx (jd file)[i]).2 : Int) != 0) = true := by simpa using he
   have hs : qbp file = none := by rw [qbp, ← hx]; rfl
   try (refine ev1 @hz ?_; try exact True.intro)
   (repeat (with_reducible refine ob ?_)); refine xlb ?_
   try (refine ev ?_; try exact True.intro)
   (repeat (with_reducible refine ob ?_)); refine qct ?_
   have hP : qju file = .nilptr := by rw [qju, hs]; rfl
   have hE : qjt file = 4 := by rw [qjt, hs]; rfl
   have hO : qng file = [.none, .none] := by rw [qng, hs]
   try (refine ev3 @hP @hE @hO ?_; try exact True.intro)
 ·have hie : i = (jd file).length := by
   have : (jd file).length ≤ i := by simpa using hc
   omega
  subst hie
  rw [List.drop_length, qgl] at hx
  have hs : qbp file = some ⟨file.take (wi file), (wi file : Nat), m⟩ := by rw [qbp, ← hx]; rfl
  have hP : qju file = .ptr 1 0 := by rw [qju, hs]; rfl
  have hE : qjt file = 0 := by rw [qjt, hs]; rfl
  have hO : qng file = [mapO m, stoO ⟨file.take (wi file), (wi file : Nat), m⟩ 0] := by rw [qng, hs]
  try (refine ev5 @hP @hE @hO @stoO.eq_1 @mapO.eq_1 ?_; try exact True.intro)
theorem qtz {file : List UInt8} {s : Sto} (hb : file.length ≤ 1000000000) (h : qbp file = some s) : qo Tryz.prog 18 [.d (.sl 1 (qd file))] [] (.tup [.d (.ptr 1 0), .d (.int .i64 0)]) [mapO s.m, stoO s 0] := by
 have := q1j file hb
 have hP : qju file = .ptr 1 0 := by rw [qju, h]; rfl
 have hE : qjt file = 0 := by rw [qjt, h]; rfl
 rw [hP, hE, qng, h] at this
 exact this
theorem qlv : ∀ (l : List (List UInt8)) {m m' : Cont}, (∀ r ∈ l, r.length ≤ 2000) → m.Good → qgl m l = some m' → m'.Good
 | [], m, m', _, hm, h => by cases h; exact hm
 | b :: l, m, m', hl, hm, h => by
  rw [qgl] at h
  split at h
  ·cases h
  ·rename_i he
   split at h
   ·cases h
   ·rename_i ha
    have hbl := hl b List.mem_cons_self
    have hg := qc4 (b := b) (by omega) (by simpa using he)
    exact qlv l (fun r hr => hl r (List.mem_cons_of_mem _ hr)) (qb4 _ hm hg.2 (by simpa using ha)) h
theorem qcc : y5.Good := (qm0 0).good
theorem qgm {file : List UInt8} {s : Sto} (h : qbp file = some s) : s.m.Good ∧ s.file = file.take (wi file) ∧ s.synced = (wi file : Nat) := by
 unfold qbp at h
 rw [Option.map_eq_some_iff] at h
 obtain ⟨m, hm, rfl⟩ := h
 exact ⟨qlv _ (qec file) qcc hm, rfl, rfl⟩
end Go.Proofs.YtinnaedmdoengaaGreat
namespace Go.Proofs.YtinnaedmdoengaaGreat
open Go.Abs
set_option linter.unusedSimpArgs false
set_option linter.unusedVariables false
def qa5 : List En → List (List UInt8) → Option (List En)
 | m, [] => some m
 | m, b :: l => if (xx b).2 ≠ 0 then none else if (jx m (xx b).1).2 = false then none else qa5 (jx m (xx b).1).1 l
theorem qfq : ∀ (l : List (List UInt8)) {m : Cont}, m.Ok → m.l.length ≤ 400 → (qgl m l).map qy = qa5 (qy m) l
 | [], m, _, _ => rfl
 | b :: l, m, h, hl => by
  rw [qgl, qa5]
  split
  ·rfl
  ·obtain ⟨k1, k2⟩ := qbl (xx b).1 h hl
   rw [← k1]
   split
   ·rfl
   ·rename_i ha
    obtain ⟨k3, k4, k5⟩ := k2 (by simpa using ha)
    rw [qfq l k4 k5, k3]
theorem qgn : ∀ (ops : List OpS) (m : List En), m.length ≤ 400 → (jx m ops).2 = true → (jx m ops).1.length ≤ 400
 | [], m, h, _ => h
 | o :: ops, m, h, hy => by
  rw [jx] at hy ⊢
  split at hy
  ·cases hy
  ·rename_i h4
   rw [if_neg h4]
   exact qgn ops _ (by omega) hy
theorem yu : qy y5 = [] := List.eq_nil_of_length_eq_zero (by rw [yn]; rfl)
def eRun : List En → List (List OpS) → Option (List En)
 | m, [] => some m
 | m, t :: ts => if (jx m t).2 = false then none else eRun (jx m t).1 ts
theorem qnh : ∀ (a b : List (List OpS)) (m : List En), eRun m (a ++ b) = (eRun m a).bind fun m' => eRun m' b
 | [], b, m => rfl
 | t :: a, b, m => by
  rw [List.cons_append, eRun, eRun]
  split
  ·rfl
  ·exact qnh a b _
theorem q5o {m r : List En} {ts : List (List OpS)} (h : eRun m ts = some r) (j : Nat) : ∃ r', eRun m (ts.take j) = some r' := by
 rw [← List.take_append_drop j ts, qnh] at h
 cases he : eRun m (ts.take j) with
 | none => rw [he] at h; cases h
 | some r' => exact ⟨r', rfl⟩
theorem qlw : ∀ (a b : List OpS) (m : List En), jx m (a ++ b) = if (jx m a).2 = false then ([], false) else jx (jx m a).1 b
 | [], b, m => rfl
 | o :: a, b, m => by
  rw [List.cons_append, jx, jx]
  split
  ·rfl
  ·exact qlw a b _
theorem qqf : ∀ (ts : List (List OpS)) (m r : List En), jx m ts.flatten = (r, true) → eRun m ts = some r
 | [], m, r, h => by
  rw [List.flatten_nil, jx] at h
  cases h; rfl
 | t :: ts, m, r, h => by
  rw [List.flatten_cons, qlw] at h
  rw [eRun]
  split at h
  ·cases h
  ·rename_i ha
   rw [if_neg ha]
   exact qqf ts _ r h
theorem qqg : ∀ (ts : List (List OpS)) (m : List En), (∀ t ∈ ts, (ql t).2 = 0) → qa5 m (ts.map wOps) = eRun m ts
 | [], m, _ => rfl
 | t :: ts, m, h => by
  have h0 := h t List.mem_cons_self
  obtain ⟨_, _, he⟩ := jk h0
  have hd := qne h0
  rw [he] at hd
  rw [List.map_cons, qa5, hd, eRun]
  simp only [ne_eq, not_true_eq_false, if_false]
  split
  ·rfl
  ·exact qqg ts _ fun x hx => h x (List.mem_cons_of_mem _ hx)
def qav (ts : List (List OpS)) : List UInt8 := xo (ts.map wOps)
theorem qee (ts : List (List OpS)) (t : List OpS) : qav (ts ++ [t]) = jz (qav ts) (wOps t) := by rw [qav, List.map_append, List.map_cons, List.map_nil, qgf]; rfl
theorem q5p {ts : List (List OpS)} (h : ∀ t ∈ ts, (ql t).2 = 0) : ∀ r ∈ ts.map wOps, r.length ≤ 2000 := by
 intro r hr
 obtain ⟨t, ht, rfl⟩ := List.mem_map.1 hr
 have h1 := x9 t
 rw [(jk (h t ht)).2.2] at h1
 exact h1
structure Bk (s : Sto) (ts : List (List OpS)) : Prop where
 file : s.file = qav ts
 enc : ∀ t ∈ ts, (ql t).2 = 0
 run : eRun [] ts = some (qy s.m)
theorem q1k : Bk newS [] := ⟨rfl, by simp, by rw [show newS.m = y5 from rfl, yu]; rfl⟩
theorem q1l {s : Sto} {ts : List (List OpS)} {l : List OpS} (h : Bk s ts) (hg : s.m.Good) (hc : (xf s l).2 = 0) : Bk (xf s l).1 (ts ++ [l]) := by
 rcases qb5 s l with ⟨c1, _⟩ | ⟨_, c2, c3, c4⟩
 ·exact (c1 hc).elim
 ·obtain ⟨k1, k2⟩ := qbl l hg.ok hg.few
  obtain ⟨k3, _, _⟩ := k2 c3
  have he := (jk c2).2.2
  rw [c4]
  refine ⟨?_, fun t ht => ?_, ?_⟩
  ·simp only [he]
   rw [qee, h.file]
  ·rcases List.mem_append.1 ht with ht | ht
   ·exact h.enc t ht
   ·simp at ht; subst ht; exact c2
  ·simp only
   rw [qnh, h.run, k3]
   rw [c3] at k1
   simp only [Option.bind_some, eRun, ← k1, Bool.true_eq_false, if_false]
theorem xj8 {s : Sto} {ts : List (List OpS)} (h : Bk s ts) : Bk (qfb s) ts := ⟨h.file, h.enc, h.run⟩
theorem q1m {s : Sto} {ts : List (List OpS)} (h : Bk s ts) (k : Nat) : ∃ (j : Nat) (s' : Sto), j ≤ ts.length ∧ qbp (s.file.take k) = some s' ∧ eRun [] (ts.take j) = some (qy s'.m) ∧ (qav (ts.take j)).length ≤ k ∧
  s'.file = qav (ts.take j) ∧ s'.synced = (s'.file.length : Nat) ∧ ∀ i, i ≤ ts.length → (qav (ts.take i)).length ≤ k → i ≤ j := by
 obtain ⟨j, q1, q2, q3, q4, q5⟩ := qv4 (ts.map wOps) k (q5p h.enc)
 rw [List.length_map] at q1 q5
 have hf : xo (ts.map wOps) = s.file := h.file.symm
 rw [hf] at q2 q3
 have hmt : ∀ i, (ts.map wOps).take i = (ts.take i).map wOps := fun i => (List.map_take ..).symm
 rw [hmt] at q2 q3 q4
 obtain ⟨r, hr⟩ := q5o h.run j
 have ho := qfq (jd (s.file.take k)) (m := y5) qcc.ok (Nat.zero_le _)
 rw [yu] at ho
 have hw : jd (s.file.take k) = (ts.take j).map wOps := q2
 rw [hw, qqg _ _ (fun t ht => h.enc t (List.mem_of_mem_take ht)), hr, ← hw] at ho
 rw [Option.map_eq_some_iff] at ho
 obtain ⟨m, hm, he⟩ := ho
 have hu : wi (s.file.take k) = (qav (ts.take j)).length := q3
 refine ⟨j, ⟨(s.file.take k).take (wi (s.file.take k)), (wi (s.file.take k) : Nat), m⟩, q1, by rw [qbp, hm]; rfl, by rw [hr, ← he], q4, ?_, ?_, fun i hi hk => q5 i hi (by rw [hmt]; exact hk)⟩
 ·simp only [hu]
  have hmin : min (qav (ts.take j)).length k = (qav (ts.take j)).length := Nat.min_eq_left q4
  rw [List.take_take, hmin]
  have := qv3 (ts.map wOps) j (by rw [List.length_map]; exact q1)
  rw [hmt, hf] at this
  exact this
 ·simp only
  have := qm9 (s.file.take k)
  rw [List.length_take, Nat.min_eq_left this]
end Go.Proofs.YtinnaedmdoengaaGreat
namespace Go.Proofs.YtinnaedmdoengaaGreat
open Go.Abs
set_option linter.unusedSimpArgs false
set_option linter.unusedVariables false
def zh (l : List OpS) : List D := (l.map qk).flatten
theorem qak (l : List OpS) : (zh l).length = l.length * 3 := by induction l <;> simp_all [zh, qk]; omega
theorem vn (l : List OpS) : D.noPtrL (zh l) = true := by
 rw [D.noPtrL_iff]
 exact fun d hd => (D.noPtrR_iff _).1 (wz l) d hd
theorem ym (l : List OpS) : (zh l).all D.isCell = true := by induction l <;> simp_all [zh, qk, D.isCell]
theorem qqh (l : List OpS) (ex : List D) : ∀ {i : Nat} (h : i < l.length), ((zh l ++ ex).drop (i * 3)).take 3 = qk l[i] := by
 induction l with
 | nil => intro i h; simp at h
 | cons o l ih =>
  intro i h
  have hf : zh (o :: l) = .str o.key :: .bool o.del :: .sl 1 (qd o.val) :: zh l := rfl
  rw [hf]
  cases i with
  | zero => rfl
  | succ i =>
   rw [show (i + 1) * 3 = i * 3 + 1 + 1 + 1 by omega]
   exact ih (by simpa using h)
def qt0 (k : FuncId) (l : List OpS) (ex : List D) (f : OpS → Bool) (i : { i : Nat // (l.take i).any f = false }) : St :=
 ⟨[(0, true, .d (.ref 0 0 3 l.length)), (1, true, .d (.func (.func k) [] [])), (7, true, .d (.int .i64 l.length)), (8, true, .d (.int .i64 (i.val : Nat)))], [.row ((zh l ++ ex).map .d)], [], 1⟩
theorem qwi {k : FuncId} {f : OpS → Bool} (hb : (Tryz.prog.funcs[k]?).any (fun fn => fn.body.isSome && !(fn.name == "runtime.NumGoroutine")) = true)
  (hf : ∀ v, qo Tryz.prog k [.d (.agg (qk v))] [] (.d (.bool (f v))) []) (l : List OpS) (ex : List D) (hex : D.noPtrL ex = true) (hl : l.length ≤ maxLen) :
  qo Tryz.prog 149 [.d (.ref 0 0 3 l.length), .d (.func (.func k) [] [])] [.row ((zh l ++ ex).map .d)] (.d (.int .i64 (idx f l))) [.row ((zh l ++ ex).map .d)] := by
 have hlf := qak l
 have hnp : D.noPtrL (zh l ++ ex) = true := by rw [vw, vn, hex]; rfl
 refine xno.go ?_
 try (refine ev ?_; try exact True.intro)
 refine xc (qt0 k l ex f) (fun i => l.length - i.val) ⟨0, rfl⟩ ?_ (fun i => ?_)
 ·try (refine ev2 @qt0.eq_1 @hnp ?_; try exact True.intro)
 obtain ⟨i, hi⟩ := i
 try (refine ev1 @qt0.eq_1 ?_; try exact True.intro)
 (repeat (with_reducible refine ob ?_)); refine zk _ (fun h => ?_) (fun h => ?_)
 ·have hil : i < l.length := by simpa using h
  try (refine ev4 (qqh l ex hil) @List.length_map.{0,0} @List.length_append.{0} @hlf ?_; try exact True.intro)
  refine ⟨by omega, ⟨by omega, by omega, rfl⟩, ?_⟩
  refine xk (hf l[i]) hb (fun h => h) (fun _ => ⟨qe, trivial⟩) (by try (refine ev1 @qk.eq_1 ?_; try exact True.intro)) rfl rfl ?_
  try (refine ev ?_; try exact True.intro)
  (repeat (with_reducible refine ob ?_)); refine zk _ (fun h => ?_) (fun h => ?_)
  ·try (refine ev2 (qe7 hi hil h) @hnp ?_; try exact True.intro)
  ·try (refine ev ?_; try exact True.intro)
   refine ⟨⟨i + 1, wy hi hil (by simpa using h)⟩, ?_, by dsimp only; omega⟩
   try (refine ev3 @qt0.eq_1 @hnp (qt (show i < 9223372036854775807 by unfold maxLen at hl; omega)) ?_; try exact True.intro)
 ·have hil : l.length ≤ i := by simpa using h
  try (refine ev2 (qe6 hi hil) @hnp ?_; try exact True.intro)
theorem qni {k : FuncId} {f : OpS → Bool} (hb : (Tryz.prog.funcs[k]?).any (fun fn => fn.body.isSome && !(fn.name == "runtime.NumGoroutine")) = true)
  (hf : ∀ v, qo Tryz.prog k [.d (.agg (qk v))] [] (.d (.bool (f v))) []) (l : List OpS) (ex : List D) (hex : D.noPtrL ex = true) (hl : l.length ≤ maxLen) :
  qo Tryz.prog 94 [.d (.ref 0 0 3 l.length), .d (.func (.func k) [] [])] [.row ((zh l ++ ex).map .d)] (.d (.bool (l.any f))) [.row ((zh l ++ ex).map .d)] := by
 have hnp : D.noPtrL (zh l ++ ex) = true := by rw [vw, vn, hex]; rfl
 have hc := qwi hb hf l ex hex hl
 refine F94.go ?_
 try (refine ev ?_; try exact True.intro)
 refine clO [0] xno hc ?_ (hik := by try (refine ev2 @hnp @D.inKL_noPtr ?_; try exact True.intro)) (hold := by try (refine ev1 @hnp ?_; try exact True.intro)) (htk := by try (refine ev1 @hnp ?_; try exact True.intro))
 try (refine ev2 @qpc @hnp ?_; try exact True.intro)
def q5q (l : List OpS) (ex : List D) (i : { i : Nat // i ≤ l.length }) : St :=
 ⟨[(0, true, .d (.ref 0 0 3 l.length)), (4, true, .own 0 1 (qd (wInt l.length ++ (l.take i.val).flatMap wOp))), (17, true, .d (.ref 0 0 3 l.length)), (18, true, .d (.int .i64 l.length)), (19, true, .d (.int .i64 (i.val : Nat)))], [.row ((zh l ++ ex).map .d)], [0], 1⟩
set_option maxRecDepth 10000 in
theorem qjv (l : List OpS) (ex : List D) (hex : D.noPtrL ex = true) (hl : l.length ≤ 100000) :
  qo Tryz.prog 50 [.d (.ref 0 0 3 l.length)] [.row ((zh l ++ ex).map .d)] (.tup [.d (.sl 1 (qd (ql l).1)), .d (.int .i64 (ql l).2)]) [.row ((zh l ++ ex).map .d)] := by
 have hlf := qak l
 have hnp : D.noPtrL (zh l ++ ex) = true := by rw [vw, vn, hex]; rfl
 have hc := qni qcv qga l ex hex (by unfold maxLen; omega)
 refine F50.goT ?_
 by_cases h0 : l.length = 0
 ·have hd : (((l.length : Nat) : Int) == 0) = true := by rw [h0]; rfl
  have hb : ql l = ([], 1) := by
   unfold ql
   rw [if_pos]
   simp [h0]
  try (refine ev1 @hd ?_; try exact True.intro)
  (repeat (with_reducible refine ob ?_)); refine xlb ?_
  try (refine ev ?_; try exact True.intro)
  (repeat (with_reducible refine ob ?_)); refine qct ?_
  try (refine ev3 @hb @qu @hnp ?_; try exact True.intro)
 have hd : (((l.length : Nat) : Int) == 0) = false := by rw [beq_eq_false_iff_ne]; omega
 try (refine ev1 @hd ?_; try exact True.intro)
 refine clO [0] F94 hc ?_ (hik := by try (refine ev2 @hnp @D.inKL_noPtr ?_; try exact True.intro)) (hold := by try (refine ev1 @hnp ?_; try exact True.intro)) (htk := by try (refine ev1 @hnp ?_; try exact True.intro))
 try (refine ev ?_; try exact True.intro)
 (repeat (with_reducible refine ob ?_)); refine zk _ (fun h => ?_) (fun h => ?_)
 ·have hb : ql l = ([], 1) := by
   unfold ql
   rw [if_pos]
   rw [h]; simp
  try (refine ev3 @hb @qu @hnp ?_; try exact True.intro)
 have hne : ¬ (decide (l.length = 0) || l.any (fun o => !zu o)) = true := by
  rw [h]; simp [h0]
 have hpr : ∀ o ∈ l, zu o = true := by
  simp only [Bool.or_eq_true, not_or, List.any_eq_true, not_exists, not_and] at hne
  intro o ho
  simpa using hne.2 o ho
 have hwl := qda hpr
 have hil0 := wx (zy (n := l.length) (by omega))
 try (refine ev ?_; try exact True.intro)
 refine clA F91 (qc9 [] l.length (by simp) (zy (by omega))) ?_
 try (refine ev ?_; try exact True.intro)
 refine xc (q5q l ex) (fun i => l.length - i.val) ⟨0, Nat.zero_le _⟩ ?_ (fun i => ?_)
 ·try (refine ev3 @q5q.eq_1 @List.take_zero.{0} @hnp ?_; try exact True.intro)
 obtain ⟨i, hi⟩ := i
 try (refine ev1 @q5q.eq_1 ?_; try exact True.intro)
 (repeat (with_reducible refine ob ?_)); refine zk _ (fun h => ?_) (fun h => ?_)
 ·have hil : i < l.length := by simpa using h
  have ho := hpr l[i] (List.getElem_mem hil)
  obtain ⟨p1, p2, p3, _⟩ := jg.1 ho
  have hpre : (wInt l.length ++ (l.take i).flatMap wOp).length ≤ 100000020 := by
   have := qda (l := l.take i) (fun o h => hpr o (List.mem_of_mem_take h))
   simp only [List.length_append, List.length_take] at this ⊢
   have : min i l.length ≤ 100000 := by omega
   omega
  have k1 := qbh l[i].key (by omega)
  try (refine ev4 (qqh l ex hil) @List.length_map.{0,0} @hlf @qk.eq_1 ?_; try exact True.intro)
  refine ⟨by omega, ⟨by omega, by omega⟩, ?_⟩
  refine clA F99 (qi8 (wInt l.length ++ (l.take i).flatMap wOp) l[i].key (by omega)) ?_
  try (refine ev ?_; try exact True.intro)
  refine clA F98 (qi7 ((wInt l.length ++ (l.take i).flatMap wOp) ++ yi l[i].key) l[i].del (by simp only [List.length_append] at hpre ⊢; omega)) ?_
  try (refine ev ?_; try exact True.intro)
  refine clA F97 (qg4 ((wInt l.length ++ (l.take i).flatMap wOp) ++ yi l[i].key ++ [if l[i].del then 1 else 0]) l[i].val (by simp only [List.length_append, List.length_cons, List.length_nil] at hpre ⊢; omega)) ?_
  try (refine ev ?_; try exact True.intro)
  have e : wInt l.length ++ (l.take i).flatMap wOp ++ yi l[i].key ++ [if l[i].del then 1 else 0] ++ yi l[i].val = wInt l.length ++ (l.take (i + 1)).flatMap wOp := by
   rw [qi9 wOp l hil, wOp]; simp only [List.append_assoc]
  refine ⟨⟨i + 1, hil⟩, ?_, by dsimp only; omega⟩
  try (refine ev4 @q5q.eq_1 @e @hnp (qt (show i < 9223372036854775807 by omega)) ?_; try exact True.intro)
 ·have hie : i = l.length := by simp at h; omega
  subst hie
  try (refine ev1 @List.take_length.{0} ?_; try exact True.intro)
  have hw : wInt l.length ++ l.flatMap wOp = wOps l := rfl
  have hw2 : (wOps l).length = (wInt l.length).length + (l.flatMap wOp).length := by rw [wOps, List.length_append]
  try (refine ev1 @hw ?_; try exact True.intro)
  (repeat (with_reducible refine ob ?_)); refine zk _ (fun h => ?_) (fun h => ?_)
  ·have hb : ql l = ([], 6) := by
    unfold ql
    rw [if_neg hne, if_pos]
    simp only [Bool.or_eq_true, decide_eq_true_eq] at h ⊢
    omega
   try (refine ev3 @hb @qu @hnp ?_; try exact True.intro)
  ·have hb : ql l = (wOps l, 0) := by
    unfold ql
    rw [if_neg hne, if_neg]
    simp only [Bool.or_eq_true, Bool.or_eq_false_iff, decide_eq_true_eq, decide_eq_false_iff_not] at h ⊢
    omega
   try (refine ev2 @hb @hnp ?_; try exact True.intro)
end Go.Proofs.YtinnaedmdoengaaGreat
namespace Go.Proofs.YtinnaedmdoengaaGreat
open Go.Abs
set_option linter.unusedSimpArgs false
set_option linter.unusedVariables false
noncomputable section
set_option maxRecDepth 100000
def xfc : List SOper := [
 ⟨some 2, .mov (.k (.d (.int .i64 0))), none⟩]
def xfd : List SOper := [
 ⟨some 11, .mov (.t 0), none⟩,
 ⟨some 12, .eqnil false .ptr (.t 11), none⟩]
def xfe : List SOper := [
 ⟨some 2, .mov (.k (.d (.int .i64 7))), none⟩]
def xff : List SOper := [
 ⟨some 3, .alloc 1 [(.d .nilsl), (.d (.int .i64 0))], none⟩]
def xfg : List SOper := [
 ⟨some 4, .alloc 1 [(.d .nilsl)], none⟩]
def xfh : List SOper := [
 ⟨some 13, .mkFunc (.func 124) [] [(.t 4), (.t 3)], none⟩,
 ⟨some 5, .mov (.t 13), none⟩]
def xfi : List SOper := [
 ⟨some 14, .mov (.t 0), none⟩,
 ⟨some 15, .call (.k (.d (.func (.func 33) [] []))) [(.t 14), (.k (.d (.str [])))], none⟩,
 ⟨some 16, .len (.t 15), none⟩,
 ⟨some 17, .mov (.k (.d (.int .i64 0))), none⟩]
def xfj : List SOper := [
 ⟨some 18, .bin .lss (.t 17) (.t 16), none⟩]
def xfk : List SOper := [
 ⟨some 19, .iaddr 2 (.t 15) (.t 17), none⟩,
 ⟨some 20, .load (some 2) (.t 19), none⟩,
 ⟨some 7, .alloc 1 [(.d (.str [])), (.d .nilsl)], none⟩,
 ⟨none, .store (some 2) (.t 7) (.t 20), none⟩]
def xfl : List SOper := [
 ⟨some 21, .faddr 0 (.t 7), none⟩,
 ⟨some 22, .load none (.t 21), none⟩,
 ⟨some 23, .faddr 1 (.t 7), none⟩,
 ⟨some 24, .load none (.t 23), none⟩,
 ⟨some 25, .build [(.str []), (.bool false), .nilsl] [(0, 1, (.t 22)), (2, 1, (.t 24))], none⟩,
 ⟨some 8, .alloc 1 [(.d (.str [])), (.d (.bool false)), (.d .nilsl)], none⟩,
 ⟨none, .store (some 3) (.t 8) (.t 25), none⟩]
def q1n : List SOper := [
 ⟨some 27, .load none (.t 4), none⟩,
 ⟨some 28, .load (some 3) (.t 8), none⟩,
 ⟨some 29, .buildSlice false 3 1 [(.str []), (.bool false), .nilsl] [(0, 3, (.t 28))], none⟩,
 ⟨some 30, .appendR 1 3 48 (.t 27) (.t 29), none⟩,
 ⟨some 31, .call (.k (.d (.func (.func 50) [] []))) [(.t 30)], none⟩,
 ⟨some 26, .mov (.t 31), none⟩,
 ⟨some 32, .extract 0 (.t 26), none⟩,
 ⟨some 33, .extract 1 (.t 26), none⟩,
 ⟨some 9, .mov (.t 32), none⟩,
 ⟨some 10, .mov (.t 33), none⟩]
def q1o : List SOper := [
 ⟨some 34, .mov (.t 10), none⟩,
 ⟨some 35, .bin .neq (.t 34) (.k (.d (.int .i64 0))), none⟩]
def q1p : List SOper := [
 ⟨some 36, .mov (.t 5), none⟩,
 ⟨some 37, .call (.t 36) [], none⟩]
def q1q : List SOper := [
 ⟨some 38, .load none (.t 4), none⟩,
 ⟨some 39, .load (some 3) (.t 8), none⟩,
 ⟨some 40, .buildSlice false 3 1 [(.str []), (.bool false), .nilsl] [(0, 3, (.t 39))], none⟩,
 ⟨some 41, .appendR 1 3 48 (.t 38) (.t 40), none⟩,
 ⟨none, .store none (.t 4) (.t 41), none⟩]
def q1r : List SOper := [
 ⟨some 42, .bin .add (.t 17) (.k (.d (.int .i64 1))), none⟩,
 ⟨some 17, .mov (.t 42), none⟩]
def qss : SCode := (.seq (.region xfj 0 []) (.seq (.cond (.t 18) .skip (.exit 0)) (.seq (.block 1 (.seq (.pause (.region xfk 1 [])) (.seq (.region xfl 1 []) (.seq (.seq (.region q1n 1 []) (.seq (.region q1o 0 []) (.cond (.t 35) (.region q1p 0 []) .skip))) (.region q1q 1 []))))) (.pause (.region q1r 0 [])))))
theorem xj9 : qg qss.eq_1 := qh qss.eq_1
def q1s : List SOper := [
 ⟨some 43, .mov (.t 5), none⟩,
 ⟨some 44, .call (.t 43) [], none⟩]
def q1t : List SOper := [
 ⟨some 45, .mov (.t 0), none⟩,
 ⟨some 46, .load (some 2) (.t 3), none⟩,
 ⟨some 47, .call (.k (.d (.func (.func 123) [] []))) [(.t 46)], none⟩,
 ⟨some 48, .nilCheck (.t 45), none⟩,
 ⟨some 49, .faddr 0 (.t 48), none⟩,
 ⟨none, .store (some 2) (.t 49) (.t 47), none⟩]
def q1u : List SOper := [
 ⟨some 2, .mov (.k (.d (.int .i64 0))), none⟩]
def s67r : SCode := (.seq (.region xfc 0 []) (.seq (.seq (.region xfd 0 []) (.cond (.t 12) (.seq (.region xfe 0 []) .ret) .skip)) (.seq (.region xff 1 []) (.seq (.region xfg 1 []) (.seq (.region xfh 0 []) (.seq (.seq (.region xfi 0 []) (.block 0 (.loop qss))) (.seq (.pause (.region q1s 0 [])) (.seq (.region q1t 0 []) (.seq (.region q1u 0 []) .ret)))))))))
theorem zix : qg s67r.eq_1 := qh s67r.eq_1
theorem x0t : qa xfc.eq_1 := qc
theorem x0u : qa xfd.eq_1 := qc
theorem x0v : qa xfe.eq_1 := qc
theorem x0w : qa xff.eq_1 := qc
theorem x0x : qa xfg.eq_1 := qc
theorem x0y : qa xfh.eq_1 := qc
theorem x0z : qa xfi.eq_1 := qc
theorem x00 : qa xfj.eq_1 := qc
theorem x01 : qa xfk.eq_1 := qc
theorem x02 : qa xfl.eq_1 := qc
theorem xka : qa q1n.eq_1 := qc
theorem xkb : qa q1o.eq_1 := qc
theorem xkc : qa q1p.eq_1 := qc
theorem xkd : qa q1q.eq_1 := qc
theorem xke : qa q1r.eq_1 := qc
theorem xkf : qa q1s.eq_1 := qc
theorem xkg : qa q1t.eq_1 := qc
theorem xkh : qa q1u.eq_1 := qc
attribute [go_sem] x0t x0u x0v x0w x0x x0y x0z x00 x01 x02 xka xkb xkc xkd xke xj9 xkf xkg xkh zix
theorem zg1 : FnIs Tryz.prog 67 Tryz.f67 [30, 1000030, 41, 1000041] news s67r [.tmp 2] 50 := zc follows Tryz.func67
def xfm : List SOper := [
 ⟨some 5, .load none (.t 0), none⟩,
 ⟨some 6, .call (.k (.d (.func (.func 50) [] []))) [(.t 5)], none⟩,
 ⟨some 4, .mov (.t 6), none⟩,
 ⟨some 7, .extract 0 (.t 4), none⟩,
 ⟨some 8, .extract 1 (.t 4), none⟩,
 ⟨some 2, .mov (.t 7), none⟩,
 ⟨some 3, .mov (.t 8), none⟩]
def xfn : List SOper := [
 ⟨some 9, .mov (.t 3), none⟩,
 ⟨some 10, .bin .eql (.t 9) (.k (.d (.int .i64 0))), none⟩]
def xfo : List SOper := [
 ⟨some 12, .load (some 2) (.t 1), none⟩,
 ⟨some 13, .mov (.t 2), none⟩,
 ⟨some 14, .call (.k (.d (.func (.func 53) [] []))) [(.t 12), (.t 13)], none⟩,
 ⟨some 11, .mov (.t 14), none⟩,
 ⟨some 15, .extract 0 (.t 11), none⟩,
 ⟨some 16, .extract 1 (.t 11), none⟩,
 ⟨none, .store (some 2) (.t 1) (.t 15), none⟩]
def xfp : List SOper := [
 ⟨none, .store none (.t 0) (.k (.d .nilsl)), none⟩]
def s124 : SCode := (.seq (.seq (.region xfm 0 []) (.seq (.region xfn 0 []) (.cond (.t 10) (.region xfo 0 []) .skip))) (.region xfp 0 []))
theorem ziy : qg s124.eq_1 := qh s124.eq_1
theorem x03 : qa xfm.eq_1 := qc
theorem x04 : qa xfn.eq_1 := qc
theorem x05 : qa xfo.eq_1 := qc
theorem x06 : qa xfp.eq_1 := qc
attribute [go_sem] x03 x04 x05 x06 ziy
theorem zc4 : FnIs Tryz.prog 124 Tryz.f124 [] news s124 [] 17 := zc follows Tryz.func124
end
def v7 (file : List UInt8) (ops : List OpS) : List UInt8 := if (ql ops).2 = 0 then jz file (ql ops).1 else file
def cOp (e : En) : OpS := ⟨e.1, false, e.2⟩
def qcd (x : List UInt8 × List OpS) (e : En) : List UInt8 × List OpS := if (ql (x.2 ++ [cOp e])).2 ≠ 0 then (v7 x.1 x.2, [cOp e]) else (x.1, x.2 ++ [cOp e])
def cAt (l : List En) (i : Nat) : List UInt8 × List OpS := (l.take i).foldl qcd ([], [])
def qc5 (l : List En) : List UInt8 := v7 (l.foldl qcd ([], [])).1 (l.foldl qcd ([], [])).2
def vz (s : Sto) : Sto := ⟨qc5 (yl s.m []), (qc5 (yl s.m [])).length, s.m⟩
theorem qhw (l : List En) {i : Nat} (h : i < l.length) : cAt l (i + 1) = qcd (cAt l i) l[i] := by
 unfold cAt
 rw [List.take_succ_eq_append_getElem h, List.foldl_append]; rfl
theorem qnj (file : List UInt8) (ops : List OpS) (ex : List D) (hex : D.noPtrL ex = true) (ho : ops.length ≤ 100000) (hf : file.length ≤ 100000000) :
  qo Tryz.prog 124 [.d (.ptr 0 0), .d (.ptr 1 0)] [.row [.d (.ref 2 0 3 ops.length)], .row [.d (.sl 1 (qd file)), .d (.int .i64 0)], .row ((zh ops ++ ex).map .d)] (.tup [])
   [.row [.d .nilsl], .row [.d (.sl 1 (qd (v7 file ops))), .d (.int .i64 0)], .row ((zh ops ++ ex).map .d)] := by
 have hnp : D.noPtrL (zh ops ++ ex) = true := by rw [vw, vn, hex]; rfl
 have hE := qjv ops ex hex ho
 refine zc4.goT ?_
 try (refine ev ?_; try exact True.intro)
 refine clO [2] F50 hE ?_ (hik := by try (refine ev2 @hnp @D.inKL_noPtr ?_; try exact True.intro)) (hold := by try (refine ev1 @hnp ?_; try exact True.intro)) (htk := by try (refine ev1 @hnp ?_; try exact True.intro))
 try (refine ev1 @hnp ?_; try exact True.intro)
 refine zk _ (fun h => ?_) (fun h => ?_)
 ·have he : (ql ops).2 = 0 := by simpa using h
  have hc : v7 file ops = jz file (ql ops).1 := by rw [v7, if_pos he]
  try (refine ev ?_; try exact True.intro)
  (repeat (with_reducible refine ob ?_)); first | refine cl F53 (qe9 file (ql ops).1 0 hf (x9 ops)) ?_ | refine clF F53 (qe9 file (ql ops).1 0 hf (x9 ops)) (fun _ => by (refine ev3 @qk.eq_1 @qn.eq_1 @qj.eq_1 ?_; try exact True.intro)) ?_
  try (refine ev3 @zt.eq_1 @hc @hnp ?_; try exact True.intro)
 ·have he : ¬ (ql ops).2 = 0 := by simpa using h
  have hc : v7 file ops = file := by rw [v7, if_neg he]
  try (refine ev2 @hc @hnp ?_; try exact True.intro)
theorem ziz {os : List AObj} {id : Nat} {ops : List OpS} {ex : List D} {o : OpS} {rd : Option Nat} {ok : Prop} (h : qf os id = ((zh ops ++ ex).map .d)) : ku os id 3 ops.length ⟨[qk o], rd, ok⟩ = (zh (ops ++ [o])).map .d := by
 have hl := qak ops
 have h1 : zh (ops ++ [o]) = zh ops ++ qk o := by simp [zh]
 unfold ku
 rw [h, ← List.map_take, List.take_append_of_le_length (by omega), List.take_of_length_le (by omega), h1, List.map_append]
 simp
theorem qwj {os : List AObj} {id : Nat} {ops : List OpS} {ex : List D} {e : En} {rd : Option Nat} {ok : Prop} (h : qf os id = ((zh ops ++ ex).map .d)) : ku os id 3 ops.length ⟨[[.str e.1, .bool false, .sl 1 (qd e.2)]], rd, ok⟩ = (zh (ops ++ [cOp e])).map .d := ziz (o := cOp e) h
structure CIs (i : Nat) (x : List UInt8 × List OpS) : Prop where
 file : x.1.length ≤ i * 70000
 ops : x.2 = [] ∨ (ql x.2).2 = 0
theorem zc5 {e : En} (h : kvOk (0, e.1, e.2)) : (ql [cOp e]).2 = 0 := by
 obtain ⟨h1, h2, h3⟩ := h
 simp only at h1 h2 h3
 have hp : zu (cOp e) = true := jg.2 ⟨h1, h2, h3, fun h => by cases h⟩
 have hw := qr3 hp
 have hi := wx (zy (n := 1) (by omega))
 have hl : (wOps [cOp e]).length ≤ 2000 := by
  simp only [wOps, List.flatMap_cons, List.flatMap_nil, List.append_nil, List.length_append, List.length_singleton]
  omega
 unfold ql
 have q1 : ¬ (decide ([cOp e].length = 0) || [cOp e].any (fun o => !zu o)) = true := by
  rw [List.any_cons, hp]
  exact Bool.false_ne_true
 rw [if_neg q1, if_neg (by simp only [List.length_singleton, Bool.or_eq_true, decide_eq_true_eq]; omega)]
theorem qgo (file : List UInt8) (ops : List OpS) : (v7 file ops).length ≤ file.length + 70000 := by
 unfold v7
 split
 ·exact qjg _ _ (x9 ops)
 ·omega
theorem q5r {i : Nat} {x : List UInt8 × List OpS} {e : En} (h : CIs i x) (he : kvOk (0, e.1, e.2)) : CIs (i + 1) (qcd x e) := by
 have hf := h.file
 unfold qcd
 split
 ·have := qgo x.1 x.2
  exact ⟨by show (v7 x.1 x.2).length ≤ _; rw [Nat.add_mul]; omega, .inr (zc5 he)⟩
 ·rename_i hn
  refine ⟨?_, .inr (by simpa only [ne_eq, Classical.not_not] using hn)⟩
  have h2 : i * 70000 ≤ (i + 1) * 70000 := Nat.mul_le_mul_right _ (Nat.le_succ i)
  exact Nat.le_trans hf h2
theorem CIs.few {i : Nat} {x : List UInt8 × List OpS} (h : CIs i x) : x.2.length ≤ 20 := by
 rcases h.ops with h | h
 ·rw [h]; simp
 ·exact (jk h).1
theorem qt1 (l : List En) (hl : ∀ e ∈ l, kvOk (0, e.1, e.2)) : ∀ i, i ≤ l.length → CIs i (cAt l i)
 | 0, _ => ⟨by simp [cAt], .inl (by simp [cAt])⟩
 | i + 1, h => by
  rw [qhw l h]
  exact q5r (qt1 l hl i (by omega)) (hl _ (List.getElem_mem h))
def Scom (s : Sto) (l : List En) (i : Nat) (x : List UInt8 × List OpS) : St :=
 ⟨[(0, true, .d (.ptr 0 0)), (3, true, .d (.ptr 2 0)), (4, true, .d (.ptr 3 0)), (5, true, .d (.func (.func 124) [] [.ptr 3 0, .ptr 2 0])), (15, true, .d (.sl 2 (l.map qn))), (16, true, .d (.int .i64 l.length)), (17, true, .d (.int .i64 (i : Nat)))],
  [stoO s 1, mapO s.m, .row [.d (.sl 1 (qd x.1)), .d (.int .i64 0)], .row [.uni 0 3 (x.2.map qk)]], [0], 1⟩
set_option maxRecDepth 10000 in
theorem qwk (s : Sto) (hs : s.m.Good) :
  qo Tryz.prog 67 [.d (.ptr 0 0)] [stoO s 1, mapO s.m] (.d (.int .i64 0)) [stoO (vz s) 1, mapO s.m] := by
 have hls := qza s [] hs.ok (by have := hs.few; omega) (fun x hx => by have := (hs.small x hx).2.2; omega)
 have hll : (yl s.m []).length ≤ 400 := Nat.le_trans (qjl s.m []) hs.few
 have hkv : ∀ e ∈ yl s.m [], kvOk (0, e.1, e.2) := by
  intro e he
  rw [yl, (jl _).mem_iff, preL, List.mem_map] at he
  obtain ⟨y, hy, rfl⟩ := he
  exact hs.small y (List.mem_filter.1 hy).1
 have hfin : qc5 (yl s.m []) = v7 (cAt (yl s.m []) (yl s.m []).length).1 (cAt (yl s.m []) (yl s.m []).length).2 := by rw [qc5, cAt, List.take_length]
 unfold vz
 simp only [stoO, mapO] at hls
 generalize yl s.m [] = l at hls hll hkv hfin
 refine zg1.go ?_
 try (refine ev2 @stoO.eq_1 @mapO.eq_1 ?_; try exact True.intro)
 (repeat (with_reducible refine ob ?_)); refine no_ ?_
 try (refine ev ?_; try exact True.intro)
 refine clO [0, 1] x9r hls ?_
 try (refine ev ?_; try exact True.intro)
 refine xc (fun i : { i : Nat // i ≤ l.length } => Scom s l i.val (cAt l i.val)) (fun i => l.length - i.val) ⟨0, Nat.zero_le _⟩ ?_ (fun i => ?_)
 ·have h0 : cAt l 0 = ([], []) := rfl
  try (refine ev7 @Scom.eq_1 @stoO.eq_1 @mapO.eq_1 @h0 @List.map_nil.{0,0} @qu @Int.ofNat_zero ?_; try exact True.intro)
 obtain ⟨i, hi⟩ := i
 have hci := qt1 l hkv i hi
 have hcf := hci.few
 have hcl := hci.file
 try (refine ev3 @Scom.eq_1 @stoO.eq_1 @mapO.eq_1 ?_; try exact True.intro)
 refine zk _ (fun hc => ?_) (fun hc => ?_)
 ·have hil : i < l.length := by simpa using hc
  have hnx := qhw l hil
  generalize cAt l i = x at hci hcf hcl hnx
  obtain ⟨file, ops⟩ := x
  simp only at hci hcf hcl
  try (refine ev ?_; try exact True.intro)
  refine qtg (.cell 3 0) 0 3 (ops.map qk) ?_
  refine pu ?_
  have he2 : zh (ops ++ [cOp l[i]]) = zh ops ++ qk (cOp l[i]) := by simp [zh]
  have hF := zc4
  have hnp1 := vn ops
  have hnp2 := vn (ops ++ [cOp l[i]])
  have hE := qjv (ops ++ [cOp l[i]]) [] rfl (by simp only [List.length_append, List.length_singleton]; omega)
  have hfA := qnj file ops (qk (cOp l[i])) (qd7 _) (by omega) (by omega)
  have hfB := qnj file ops [] rfl (by omega) (by omega)
  rw [List.append_nil] at hE hfB
  rw [← he2] at hfA
  simp only [List.length_append, List.length_singleton] at hE
  have hfd : (ops.map qk).flatten = zh ops := rfl
  try (refine ev3 (xi qn l hil) @qn.eq_1 @hfd ?_; try exact True.intro)
  refine ⟨by omega, ?_⟩
  refine qi5 4 ops.length rfl ?_ ?_ ?_ ?_ ?_
  ·rw [qwj (e := l[i]) (ex := []) (by rw [List.append_nil]; rfl)]
   try (refine ev2 @hnp2 @hnp1 ?_; try exact True.intro)
   refine clO [4] F50 hE ?_ (hik := by try (refine ev2 @hnp2 @D.inKL_noPtr ?_; try exact True.intro)) (hold := by try (refine ev1 @hnp2 ?_; try exact True.intro)) (htk := by try (refine ev1 @hnp2 ?_; try exact True.intro))
   try (refine ev2 @hnp2 @hnp1 ?_; try exact True.intro)
   refine zk _ (fun hx => ?_) (fun hx => ?_)
   ·skip
    have hxe : qcd (file, ops) l[i] = (v7 file ops, [cOp l[i]]) := by rw [qcd, if_pos (by simpa using hx)]
    rw [hxe] at hnx
    try (refine ev ?_; try exact True.intro)
    refine clO [3, 2, 4] hF hfA ?_ (hik := by try (refine ev3 @hnp2 @hnp1 @D.inKL_noPtr ?_; try exact True.intro)) (hold := by try (refine ev2 @hnp2 @hnp1 ?_; try exact True.intro)) (htk := by try (refine ev2 @hnp2 @hnp1 ?_; try exact True.intro))
    try (refine ev2 @hnp2 @hnp1 ?_; try exact True.intro)
    refine qk9 rfl ?_ ⟨by show 1 * 48 ≤ 140737488355328; decide, by show 1 ≤ 9223372036854775807; decide⟩
    try (refine ev2 @hnp2 @hnp1 ?_; try exact True.intro)
    refine qk7 (.cell 3 0) 8 3 ([cOp l[i]].map qk) ?_ (hc := rfl) (hes := ?_) (hcl := ?_) (hok := D.okWR_noPtr (wz _)) (hn := by simp [Pos.notIn])
    ·refine pu ?_
     try (refine ev2 @hnp2 @hnp1 ?_; try exact True.intro)
     refine ⟨⟨i + 1, hil⟩, ?_, by dsimp only; omega⟩
     try (refine ev7 @Scom.eq_1 @stoO.eq_1 @mapO.eq_1 @hnx @hnp1 @hnp2 (qt (show i < 9223372036854775807 by omega)) ?_; try exact True.intro)
    ·intro r hr
     obtain ⟨x, _, rfl⟩ := List.mem_map.1 hr
     rfl
    ·exact fun d hd => List.all_eq_true.1 (ym _) d hd
   ·skip
    have hxo : qcd (file, ops) l[i] = (file, ops ++ [cOp l[i]]) := by rw [qcd, if_neg (by simpa using hx)]
    rw [hxo] at hnx
    try (refine ev ?_; try exact True.intro)
    refine qi5 4 ops.length rfl ?_ ?_ ?_ ?_ ?_
    ·rw [qwj (e := l[i]) (ex := qk (cOp l[i])) (by rw [← he2]; rfl)]
     try (refine ev2 @hnp2 @hnp1 ?_; try exact True.intro)
     refine qk7 (.cell 3 0) 4 3 ((ops ++ [cOp l[i]]).map qk) ?_ (hc := rfl) (hes := ?_) (hcl := ?_) (hok := D.okWR_noPtr (wz _)) (hp := by simp only [List.length_map, List.length_append, List.length_singleton]; rfl) (hn := by simp [Pos.notIn])
     ·refine pu ?_
      try (refine ev2 @hnp2 @hnp1 ?_; try exact True.intro)
      refine ⟨⟨i + 1, hil⟩, ?_, by dsimp only; omega⟩
      try (refine ev7 @Scom.eq_1 @stoO.eq_1 @mapO.eq_1 @hnx @hnp1 @hnp2 (qt (show i < 9223372036854775807 by omega)) ?_; try exact True.intro)
     ·intro r hr
      obtain ⟨x, _, rfl⟩ := List.mem_map.1 hr
      rfl
     ·exact fun d hd => List.all_eq_true.1 (ym _) d hd
    ·rw [qwj (e := l[i]) (ex := qk (cOp l[i])) (by rw [← he2]; rfl)]
     try (refine ev2 @hnp2 @hnp1 ?_; try exact True.intro)
     refine qk7 (.cell 3 0) 8 3 ((ops ++ [cOp l[i]]).map qk) ?_ (hc := rfl) (hes := ?_) (hcl := ?_) (hok := D.okWR_noPtr (wz _)) (hp := by simp only [List.length_map, List.length_append, List.length_singleton]; rfl) (hn := by simp [Pos.notIn])
     ·refine pu ?_
      try (refine ev2 @hnp2 @hnp1 ?_; try exact True.intro)
      refine ⟨⟨i + 1, hil⟩, ?_, by dsimp only; omega⟩
      try (refine ev7 @Scom.eq_1 @stoO.eq_1 @mapO.eq_1 @hnx @hnp1 @hnp2 (qt (show i < 9223372036854775807 by omega)) ?_; try exact True.intro)
     ·intro r hr
      obtain ⟨x, _, rfl⟩ := List.mem_map.1 hr
      rfl
     ·exact fun d hd => List.all_eq_true.1 (ym _) d hd
    ·show ops.length * 3 ≤ ((zh (ops ++ [cOp l[i]])).map ASlot.d).length; rw [List.length_map, qak, List.length_append]; omega
    ·show (ops.length + 1) * 48 ≤ _; omega
    ·show ops.length + 1 ≤ _; omega
  ·rw [qwj (e := l[i]) (ex := []) (by rw [List.append_nil]; rfl)]
   try (refine ev2 @hnp2 @hnp1 ?_; try exact True.intro)
   refine clO [7] F50 hE ?_ (hik := by try (refine ev2 @hnp2 @D.inKL_noPtr ?_; try exact True.intro)) (hold := by try (refine ev1 @hnp2 ?_; try exact True.intro)) (htk := by try (refine ev1 @hnp2 ?_; try exact True.intro))
   try (refine ev2 @hnp2 @hnp1 ?_; try exact True.intro)
   refine zk _ (fun hx => ?_) (fun hx => ?_)
   ·skip
    have hxe : qcd (file, ops) l[i] = (v7 file ops, [cOp l[i]]) := by rw [qcd, if_pos (by simpa using hx)]
    rw [hxe] at hnx
    try (refine ev ?_; try exact True.intro)
    refine clO [3, 2, 4] hF hfB ?_ (hik := by try (refine ev3 @hnp2 @hnp1 @D.inKL_noPtr ?_; try exact True.intro)) (hold := by try (refine ev2 @hnp2 @hnp1 ?_; try exact True.intro)) (htk := by try (refine ev2 @hnp2 @hnp1 ?_; try exact True.intro))
    try (refine ev2 @hnp2 @hnp1 ?_; try exact True.intro)
    refine qk9 rfl ?_ ⟨by show 1 * 48 ≤ 140737488355328; decide, by show 1 ≤ 9223372036854775807; decide⟩
    try (refine ev2 @hnp2 @hnp1 ?_; try exact True.intro)
    refine qk7 (.cell 3 0) 8 3 ([cOp l[i]].map qk) ?_ (hc := rfl) (hes := ?_) (hcl := ?_) (hok := D.okWR_noPtr (wz _)) (hn := by simp [Pos.notIn])
    ·refine pu ?_
     try (refine ev2 @hnp2 @hnp1 ?_; try exact True.intro)
     refine ⟨⟨i + 1, hil⟩, ?_, by dsimp only; omega⟩
     try (refine ev7 @Scom.eq_1 @stoO.eq_1 @mapO.eq_1 @hnx @hnp1 @hnp2 (qt (show i < 9223372036854775807 by omega)) ?_; try exact True.intro)
    ·intro r hr
     obtain ⟨x, _, rfl⟩ := List.mem_map.1 hr
     rfl
    ·exact fun d hd => List.all_eq_true.1 (ym _) d hd
   ·skip
    have hxo : qcd (file, ops) l[i] = (file, ops ++ [cOp l[i]]) := by rw [qcd, if_neg (by simpa using hx)]
    rw [hxo] at hnx
    try (refine ev ?_; try exact True.intro)
    refine qi5 4 ops.length rfl ?_ ?_ ?_ ?_ ?_
    ·rw [qwj (e := l[i]) (ex := []) (by rw [List.append_nil]; rfl)]
     try (refine ev2 @hnp2 @hnp1 ?_; try exact True.intro)
     refine qk7 (.cell 3 0) 4 3 ((ops ++ [cOp l[i]]).map qk) ?_ (hc := rfl) (hes := ?_) (hcl := ?_) (hok := D.okWR_noPtr (wz _)) (hp := by simp only [List.length_map, List.length_append, List.length_singleton]; rfl) (hn := by simp [Pos.notIn])
     ·refine pu ?_
      try (refine ev2 @hnp2 @hnp1 ?_; try exact True.intro)
      refine ⟨⟨i + 1, hil⟩, ?_, by dsimp only; omega⟩
      try (refine ev7 @Scom.eq_1 @stoO.eq_1 @mapO.eq_1 @hnx @hnp1 @hnp2 (qt (show i < 9223372036854775807 by omega)) ?_; try exact True.intro)
     ·intro r hr
      obtain ⟨x, _, rfl⟩ := List.mem_map.1 hr
      rfl
     ·exact fun d hd => List.all_eq_true.1 (ym _) d hd
    ·rw [qwj (e := l[i]) (ex := []) (by rw [List.append_nil]; rfl)]
     try (refine ev2 @hnp2 @hnp1 ?_; try exact True.intro)
     refine qk7 (.cell 3 0) 8 3 ((ops ++ [cOp l[i]]).map qk) ?_ (hc := rfl) (hes := ?_) (hcl := ?_) (hok := D.okWR_noPtr (wz _)) (hp := by simp only [List.length_map, List.length_append, List.length_singleton]; rfl) (hn := by simp [Pos.notIn])
     ·refine pu ?_
      try (refine ev2 @hnp2 @hnp1 ?_; try exact True.intro)
      refine ⟨⟨i + 1, hil⟩, ?_, by dsimp only; omega⟩
      try (refine ev7 @Scom.eq_1 @stoO.eq_1 @mapO.eq_1 @hnx @hnp1 @hnp2 (qt (show i < 9223372036854775807 by omega)) ?_; try exact True.intro)
     ·intro r hr
      obtain ⟨x, _, rfl⟩ := List.mem_map.1 hr
      rfl
     ·exact fun d hd => List.all_eq_true.1 (ym _) d hd
    ·show ops.length * 3 ≤ ((zh ops).map ASlot.d).length; rw [List.length_map, qak]; omega
    ·show (ops.length + 1) * 48 ≤ _; omega
    ·show ops.length + 1 ≤ _; omega
  ·show ops.length * 3 ≤ ((zh ops).map ASlot.d).length
   rw [List.length_map, qak]; omega
  ·show (ops.length + 1) * 48 ≤ _; omega
  ·show ops.length + 1 ≤ _; omega
 ·have hie : i = l.length := by
   have : l.length ≤ i := by simpa using hc
   omega
  subst hie
  generalize cAt l l.length = x at hci hcf hcl hfin
  obtain ⟨file, ops⟩ := x
  simp only at hci hcf hcl hfin
  have hnp1 := vn ops
  have hfd : (ops.map qk).flatten = zh ops := rfl
  have hfB := qnj file ops [] rfl (by omega) (by omega)
  rw [List.append_nil] at hfB
  have hcf2 := qgo file ops
  try (refine ev ?_; try exact True.intro)
  refine qtg (.cell 3 0) 0 3 (ops.map qk) ?_
  refine pu ?_
  try (refine ev2 @hfd @hnp1 ?_; try exact True.intro)
  refine clO [3, 2, 4] zc4 hfB ?_ (hik := by try (refine ev2 @hnp1 @D.inKL_noPtr ?_; try exact True.intro)) (hold := by try (refine ev1 @hnp1 ?_; try exact True.intro)) (htk := by try (refine ev1 @hnp1 ?_; try exact True.intro))
  try (refine ev1 @hnp1 ?_; try exact True.intro)
  (repeat (with_reducible refine ob ?_)); first | refine cl xqq (qdc (v7 file ops) 0 (by omega)) ?_ | refine clF xqq (qdc (v7 file ops) 0 (by omega)) (fun _ => by (refine ev3 @qk.eq_1 @qn.eq_1 @qj.eq_1 ?_; try exact True.intro)) ?_
  try (refine ev3 @zt.eq_1 @hfin @hnp1 ?_; try exact True.intro)
end Go.Proofs.YtinnaedmdoengaaGreat
namespace Go.Proofs.YtinnaedmdoengaaGreat
open Go.Abs
set_option linter.unusedSimpArgs false
set_option linter.unusedVariables false
theorem qqi (x : En) : ∀ (a : List En), (∀ y ∈ a, cmpB y.1 x.1 < 0) → eSet x a = a ++ [x]
 | [], _ => rfl
 | y :: a, h => by
  have hy := h y List.mem_cons_self
  rw [eSet, qdf, if_pos (by simpa using hy), qqi x a (fun z hz => h z (List.mem_cons_of_mem _ hz))]
  rfl
theorem qhe : ∀ (b a : List En), Sorted (a ++ b) → (a ++ b).length ≤ 400 → jx a (b.map cOp) = (a ++ b, true)
 | [], a, _, _ => by rw [List.map_nil, jx, List.append_nil]
 | e :: b, a, hs, hl => by
  have hlast : eSet e a = a ++ [e] := qqi e a fun y hy => (List.pairwise_append.1 hs).2.2 y hy e List.mem_cons_self
  have ho : eOp a (cOp e) = a ++ [e] := by rw [eOp, if_neg (by simp [cOp])]; exact hlast
  have happ : a ++ e :: b = (a ++ [e]) ++ b := by simp
  rw [List.map_cons, jx, ho, if_neg (by simp only [List.length_append, List.length_cons, List.length_nil] at hl ⊢; omega), happ]
  rw [happ] at hs hl
  exact qhe b (a ++ [e]) hs hl
structure CTx (x : List UInt8 × List OpS) (ts : List (List OpS)) (ops : List OpS) : Prop where
 file : x.1 = qav ts
 enc : ∀ t ∈ ts, (ql t).2 = 0
 now : x.2 = [] ∨ (ql x.2).2 = 0
 all : ts.flatten ++ x.2 = ops
theorem qt2 {x : List UInt8 × List OpS} {ts : List (List OpS)} {ops : List OpS} (h : CTx x ts ops) : ∃ ts', v7 x.1 x.2 = qav ts' ∧ (∀ t ∈ ts', (ql t).2 = 0) ∧ ts'.flatten = ops := by
 unfold v7
 by_cases he : (ql x.2).2 = 0
 ·rw [if_pos he, (jk he).2.2]
  refine ⟨ts ++ [x.2], by rw [qee, h.file], fun t ht => ?_, by rw [← h.all]; simp⟩
  rcases List.mem_append.1 ht with ht | ht
  ·exact h.enc t ht
  ·simp at ht; subst ht; exact he
 ·rw [if_neg he]
  have hn : x.2 = [] := h.now.resolve_right he
  refine ⟨ts, h.file, h.enc, ?_⟩
  have := h.all
  rw [hn, List.append_nil] at this
  exact this
theorem q1v (l : List En) (hl : ∀ e ∈ l, kvOk (0, e.1, e.2)) : ∀ i, i ≤ l.length → ∃ ts, CTx (cAt l i) ts ((l.take i).map cOp)
 | 0, _ => ⟨[], ⟨rfl, by simp, .inl rfl, rfl⟩⟩
 | i + 1, h => by
  obtain ⟨ts, hts⟩ := q1v l hl i (by omega)
  have hk := zc5 (hl _ (List.getElem_mem (show i < l.length from h)))
  rw [qhw l h]
  have hmap : (l.take (i + 1)).map cOp = (l.take i).map cOp ++ [cOp l[i]] := by rw [List.take_succ_eq_append_getElem h, List.map_append]; rfl
  unfold qcd
  split
  ·obtain ⟨ts', q1, q2, q3⟩ := qt2 hts
   exact ⟨ts', ⟨q1, q2, .inr hk, by rw [hmap, q3]⟩⟩
  ·rename_i hn
   exact ⟨ts, ⟨hts.file, hts.enc, .inr (by simpa only [ne_eq, Classical.not_not] using hn), by rw [hmap, ← hts.all, List.append_assoc]⟩⟩
theorem qnk {m : Cont} (hm : m.Good) : ∀ e ∈ qy m, kvOk (0, e.1, e.2) := by
 intro e he
 rw [qy, yl, (jl _).mem_iff, preL, List.mem_map] at he
 obtain ⟨y, hy, rfl⟩ := he
 exact hm.small y (List.mem_filter.1 hy).1
theorem qwl {s : Sto} (hs : s.m.Good) : ∃ ts, Bk (vz s) ts ∧ ts.flatten = (qy s.m).map cOp := by
 obtain ⟨ts0, h0⟩ := q1v (qy s.m) (qnk hs) (qy s.m).length (Nat.le_refl _)
 rw [List.take_length] at h0
 obtain ⟨ts, q1, q2, q3⟩ := qt2 h0
 have hf : qc5 (qy s.m) = qav ts := by
  rw [qc5, ← q1, cAt, List.take_length]
 have hap := qhe (qy s.m) [] (vy hs.ok) (by rw [List.nil_append, yn]; exact hs.few)
 rw [List.nil_append, ← q3] at hap
 exact ⟨ts, ⟨hf, q2, qqf ts [] _ hap⟩, q3⟩
theorem qc6 : ∀ (n : Nat) (r : List UInt8), r.length ≤ n → (partsOf r).length = (r.length - 1) / 22 + 1
 | n, r, hn => by
  by_cases h : r.length > 22
  ·rw [jv h]
   cases n with
   | zero => omega
   | succ n =>
    have := qc6 n (r.drop 22) (by rw [List.length_drop]; omega)
    rw [List.length_drop] at this
    rw [List.length_cons, this]
    omega
  ·rw [jw h]
   simp only [List.length_singleton]
   omega
end Go.Proofs.YtinnaedmdoengaaGreat
namespace Go.Proofs.YtinnaedmdoengaaGreat
open Go.Abs
set_option linter.unusedSimpArgs false
set_option linter.unusedVariables false
def hAll (f : List UInt8) : Nat → Nat
 | 0 => qv0
 | k + 1 => fnv (hAll f k) (qr f (32 * k))
theorem qst (f : List UInt8) : ∀ k, hAll f k < 18446744073709551616
 | 0 => by show qv0 < _; decide
 | k + 1 => qe8 (qst f k) _
theorem qt4 (f g : List UInt8) : ∀ k, 32 * k ≤ f.length → hAll (f ++ g) k = hAll f k
 | 0, _ => rfl
 | k + 1, h => by
  have e : qr (f ++ g) (32 * k) = qr f (32 * k) := by
   unfold qr
   rw [List.drop_append_of_le_length (by omega), List.take_append_of_le_length (by rw [List.length_drop]; omega)]
  rw [hAll, hAll, qt4 f g k (by omega), e]
def Chain (f : List UInt8) (h : Nat) : Prop := ∃ n, f.length = 32 * n ∧ hAll f n = h
theorem Chain.lt {f : List UInt8} {h : Nat} (hc : Chain f h) : h < 18446744073709551616 := by
 obtain ⟨n, _, h2⟩ := hc
 rw [← h2]; exact qst f n
theorem qwn {f : List UInt8} {h : Nat} (hc : Chain f h) {p : Nat × List UInt8} (hp : p.2.length ≤ 22) : Chain (f ++ (xm p ++ be8 (fnv h (xm p)))) (fnv h (xm p)) := by
 obtain ⟨n, h1, h2⟩ := hc
 have hl := k9 hp
 refine ⟨n + 1, by simp only [List.length_append, ja]; omega, ?_⟩
 have e : qr (f ++ (xm p ++ be8 (fnv h (xm p)))) (32 * n) = xm p := by
  unfold qr
  rw [← h1, List.drop_left, ← hl, List.take_left]
 rw [hAll, qt4 _ _ n (by omega), h2, e]
theorem qef : ∀ (l : List (Nat × List UInt8)) {f : List UInt8} {h : Nat}, Chain f h → (∀ p ∈ l, p.2.length ≤ 22) → Chain (f ++ x7 h l) (qaw h l)
 | [], f, h, hc, _ => by simpa [x7, qaw] using hc
 | p :: l, f, h, hc, hl => by
  have := qef l (qwn hc (hl p (by simp))) (fun q hq => hl q (by simp [hq]))
  rw [x7, qaw]
  rwa [List.append_assoc] at this
theorem qqj {f : List UInt8} (hc : Chain f (jh f)) (r : List UInt8) : Chain (jz f r) (jh (jz f r)) := by
 rw [qg8, qaj]
 exact qef _ hc fun p hp => (jj _ r (Nat.le_refl _) p hp).2
theorem q1w : Chain [] (jh []) := ⟨0, rfl, rfl⟩
theorem qlx (rs : List (List UInt8)) : Chain (xo rs) (jh (xo rs)) :=
 qdi (P := fun rs => Chain (xo rs) (jh (xo rs))) q1w (fun l x h => by
  rw [qgf]
  exact qqj h x) _ rs rfl
theorem qly (p : Nat × List UInt8) : ∀ (l : List (Nat × List UInt8)) (h : Nat), x7 h (l ++ [p]) = x7 h l ++ (xm p ++ be8 (fnv (qaw h l) (xm p)))
 | [], h => by simp [x7, qaw]
 | q :: l, h => by simp only [List.cons_append, x7, qaw, qly p l, List.append_assoc]
theorem qqk : ∀ (n : Nat) (r : List UInt8), r.length ≤ n → ∀ (i : Nat) (h : i < (partsOf r).length), (partsOf r)[i] = if i + 1 = (partsOf r).length then (2, r.drop (22 * i)) else (1, (r.drop (22 * i)).take 22)
 | n, r, hn, i, h => by
  by_cases h22 : r.length > 22
  ·have e := jv h22
   cases n with
   | zero => omega
   | succ n =>
    have hl : (partsOf r).length = (partsOf (r.drop 22)).length + 1 := by rw [e]; rfl
    cases i with
    | zero =>
     have := qm4 (r.drop 22)
     have h0 : 0 < (partsOf (r.drop 22)).length := List.length_pos_iff.2 this
     rw [if_neg (by omega)]
     simp only [e, List.getElem_cons_zero, Nat.mul_zero, List.drop_zero]
    | succ i =>
     have ih := qqk n (r.drop 22) (by rw [List.length_drop]; omega) i (by omega)
     simp only [e, List.getElem_cons_succ, ih, List.length_cons, Nat.add_right_cancel_iff, List.drop_drop]
     rw [show 22 + 22 * i = 22 * (i + 1) by omega]
  ·have e := jw h22
   have hl : (partsOf r).length = 1 := by rw [e]; rfl
   have hi : i = 0 := by omega
   subst hi
   rw [if_pos (by omega)]
   simp only [e, List.getElem_cons_zero, Nat.mul_zero, List.drop_zero]
end Go.Proofs.YtinnaedmdoengaaGreat
namespace Go.Proofs.YtinnaedmdoengaaGreat
open Go.Abs
set_option linter.unusedSimpArgs false
set_option linter.unusedVariables false
noncomputable section
set_option maxRecDepth 100000
def xfs : List SOper := [
 ⟨some 2, .mov (.k (.d (.int .i64 0))), none⟩]
def xft : List SOper := [
 ⟨some 4, .mov (.t 0), none⟩,
 ⟨some 5, .len (.t 4), none⟩,
 ⟨some 6, .bin .add (.t 5) (.k (.d (.int .i64 22))), none⟩,
 ⟨some 7, .bin .sub (.t 6) (.k (.d (.int .i64 1))), none⟩,
 ⟨some 8, .bin .quo (.t 7) (.k (.d (.int .i64 22))), none⟩,
 ⟨some 3, .mov (.t 8), none⟩]
def xfu : List SOper := [
 ⟨some 9, .mov (.t 3), none⟩,
 ⟨some 10, .bin .eql (.t 9) (.k (.d (.int .i64 0))), none⟩]
def xfv : List SOper := [
 ⟨some 2, .mov (.k (.d (.int .i64 1))), none⟩]
def xfw : List SOper := [
 ⟨some 11, .mov (.t 3), none⟩,
 ⟨some 2, .mov (.t 11), none⟩]
def s131 : SCode := (.seq (.region xfs 0 []) (.seq (.region xft 0 []) (.seq (.seq (.region xfu 0 []) (.cond (.t 10) (.seq (.region xfv 0 []) .ret) .skip)) (.seq (.region xfw 0 []) .ret))))
theorem zi0 : qg s131.eq_1 := qh s131.eq_1
theorem x08 : qa xfs.eq_1 := qc
theorem x09 : qa xft.eq_1 := qc
theorem x1a : qa xfu.eq_1 := qc
theorem x1b : qa xfv.eq_1 := qc
theorem x1c : qa xfw.eq_1 := qc
attribute [go_sem] x08 x09 x1a x1b x1c zi0
theorem zg2 : FnIs Tryz.prog 131 Tryz.f131 [] news s131 [.tmp 2] 12 := zc follows Tryz.func131
def xfx : List SOper := [
 ⟨some 2, .mov (.k (.d (.int .u64 0))), none⟩]
def xfy : List SOper := [
 ⟨some 3, .mov (.k (.d (.int .u64 14695981039346656037))), none⟩]
def xfz : List SOper := [
 ⟨some 4, .mov (.k (.d (.int .i64 0))), none⟩]
def xf0 : List SOper := [
 ⟨some 5, .mov (.t 4), none⟩,
 ⟨some 6, .bin .add (.t 5) (.k (.d (.int .i64 32))), none⟩,
 ⟨some 7, .mov (.t 0), none⟩,
 ⟨some 8, .len (.t 7), none⟩,
 ⟨some 9, .bin .leq (.t 6) (.t 8), none⟩]
def xf1 : List SOper := [
 ⟨some 12, .mov (.t 3), none⟩,
 ⟨some 13, .mov (.t 0), none⟩,
 ⟨some 14, .mov (.t 4), none⟩,
 ⟨some 15, .mov (.t 4), none⟩,
 ⟨some 16, .bin .add (.t 15) (.k (.d (.int .i64 2))), none⟩,
 ⟨some 17, .bin .add (.t 16) (.k (.d (.int .i64 22))), none⟩,
 ⟨some 18, .slice 1 (.t 13) (some (.t 14)) (some (.t 17)) none, none⟩,
 ⟨some 19, .call (.k (.d (.func (.func 175) [] []))) [(.t 12), (.t 18)], none⟩,
 ⟨some 3, .mov (.t 19), none⟩]
def xf2 : List SOper := [
 ⟨some 10, .mov (.t 4), none⟩,
 ⟨some 11, .bin .add (.t 10) (.k (.d (.int .i64 32))), none⟩,
 ⟨some 4, .mov (.t 11), none⟩]
def q1x : SCode := (.seq (.seq (.region xf0 0 []) (.cond (.t 9) .skip (.exit 0))) (.seq (.block 1 (.region xf1 0 [])) (.region xf2 0 [])))
theorem x1d : qg q1x.eq_1 := qh q1x.eq_1
def xf3 : List SOper := [
 ⟨some 20, .mov (.t 3), none⟩,
 ⟨some 2, .mov (.t 20), none⟩]
def s133 : SCode := (.seq (.region xfx 0 []) (.seq (.region xfy 0 []) (.seq (.seq (.region xfz 0 []) (.block 0 (.loop q1x))) (.seq (.region xf3 0 []) .ret))))
theorem zi1 : qg s133.eq_1 := qh s133.eq_1
theorem x1e : qa xfx.eq_1 := qc
theorem x1f : qa xfy.eq_1 := qc
theorem x1g : qa xfz.eq_1 := qc
theorem x1h : qa xf0.eq_1 := qc
theorem x1i : qa xf1.eq_1 := qc
theorem x1j : qa xf2.eq_1 := qc
theorem x1k : qa xf3.eq_1 := qc
attribute [go_sem] x1e x1f x1g x1h x1i x1j x1d x1k zi1
theorem zc7 : FnIs Tryz.prog 133 Tryz.f133 [] news s133 [.tmp 2] 21 := zc follows Tryz.func133
def xf4 : List SOper := [
 ⟨some 6, .mov (.k (.d .nilsl)), none⟩]
def xf5 : List SOper := [
 ⟨some 8, .mov (.t 0), none⟩,
 ⟨some 9, .conv .u8 (.t 8), none⟩,
 ⟨some 10, .mov (.t 1), none⟩,
 ⟨some 11, .len (.t 10), none⟩,
 ⟨some 12, .conv .u8 (.t 11), none⟩,
 ⟨some 13, .buildSlice false 1 2 [(.int .u8 0)] [(0, 1, (.t 9)), (1, 1, (.t 12))], none⟩,
 ⟨some 7, .mov (.t 13), none⟩]
def xf6 : List SOper := [
 ⟨some 14, .mov (.t 7), none⟩,
 ⟨some 15, .mov (.t 1), none⟩,
 ⟨some 16, .append false 1 1 (.t 14) (.t 15), none⟩,
 ⟨some 7, .mov (.t 16), none⟩]
def xf7 : List SOper := [
 ⟨some 17, .mov (.t 7), none⟩,
 ⟨some 18, .len (.t 17), none⟩,
 ⟨some 19, .bin .lss (.t 18) (.k (.d (.int .i64 24))), none⟩]
def xf8 : List SOper := [
 ⟨some 20, .mov (.t 7), none⟩,
 ⟨some 21, .buildSlice false 1 1 [(.int .u8 0)] [(0, 1, (.k (.d (.int .u8 0))))], none⟩,
 ⟨some 22, .append false 1 1 (.t 20) (.t 21), none⟩,
 ⟨some 7, .mov (.t 22), none⟩]
def q1y : SCode := (.seq (.seq (.region xf7 0 []) (.cond (.t 19) .skip (.exit 0))) (.block 1 (.region xf8 0 [])))
theorem x1l : qg q1y.eq_1 := qh q1y.eq_1
def xf9 : List SOper := [
 ⟨some 23, .mov (.t 7), none⟩,
 ⟨some 24, .mov (.t 2), none⟩,
 ⟨some 25, .mov (.t 7), none⟩,
 ⟨some 26, .call (.k (.d (.func (.func 175) [] []))) [(.t 24), (.t 25)], none⟩,
 ⟨some 27, .call (.k (.d (.func (.func 176) [] []))) [(.t 26)], none⟩,
 ⟨some 28, .append false 1 1 (.t 23) (.t 27), none⟩,
 ⟨some 6, .mov (.t 28), none⟩]
def s132 : SCode := (.seq (.region xf4 0 []) (.seq (.region xf5 0 []) (.seq (.region xf6 0 []) (.seq (.block 0 (.loop q1y)) (.seq (.region xf9 0 []) .ret)))))
theorem zi2 : qg s132.eq_1 := qh s132.eq_1
theorem x1m : qa xf4.eq_1 := qc
theorem x1n : qa xf5.eq_1 := qc
theorem x1o : qa xf6.eq_1 := qc
theorem x1p : qa xf7.eq_1 := qc
theorem x1q : qa xf8.eq_1 := qc
theorem x1r : qa xf9.eq_1 := qc
attribute [go_sem] x1m x1n x1o x1p x1q x1l x1r zi2
theorem zc8 : FnIs Tryz.prog 132 Tryz.f132 [] news s132 [.tmp 6] 29 := zc follows Tryz.func132
def x1s : List SOper := [
 ⟨some 2, .box 2 (.t 0), none⟩,
 ⟨some 4, .alloc 1 [(.d .nilsl), (.d (.int .i64 0))], none⟩,
 ⟨some 5, .mov (.k (.d (.int .i64 0))), none⟩]
def x1t : List SOper := [
 ⟨some 11, .mov (.t 1), none⟩,
 ⟨some 12, .len (.t 11), none⟩,
 ⟨some 13, .bin .gtr (.t 12) (.k (.d (.int .i64 2000))), none⟩]
def x1u : List SOper := [
 ⟨some 14, .build [.nilsl, (.int .i64 0)] [], none⟩,
 ⟨none, .store (some 2) (.t 4) (.t 14), none⟩,
 ⟨some 5, .mov (.k (.d (.int .i64 6))), none⟩]
def x1v : List SOper := [
 ⟨some 15, .buildSlice false 1 0 [(.int .u8 0)] [], none⟩,
 ⟨some 16, .faddr 0 (.t 2), none⟩,
 ⟨some 17, .load none (.t 16), none⟩,
 ⟨some 18, .append false 1 1 (.t 15) (.t 17), none⟩,
 ⟨some 6, .mov (.t 18), none⟩]
def x1w : List SOper := [
 ⟨some 19, .mov (.t 1), none⟩,
 ⟨some 20, .call (.k (.d (.func (.func 131) [] []))) [(.t 19)], none⟩,
 ⟨some 7, .mov (.t 20), none⟩]
def x1x : List SOper := [
 ⟨some 8, .mov (.k (.d (.int .i64 0))), none⟩]
def x1y : List SOper := [
 ⟨some 21, .mov (.t 8), none⟩,
 ⟨some 22, .mov (.t 7), none⟩,
 ⟨some 23, .bin .lss (.t 21) (.t 22), none⟩]
def x1z : List SOper := [
 ⟨some 26, .mov (.t 8), none⟩,
 ⟨some 27, .bin .add (.t 26) (.k (.d (.int .i64 1))), none⟩,
 ⟨some 28, .bin .mul (.t 27) (.k (.d (.int .i64 22))), none⟩,
 ⟨some 9, .mov (.k (.d (.int .i64 1))), none⟩,
 ⟨some 10, .mov (.t 28), none⟩]
def x10 : List SOper := [
 ⟨some 29, .mov (.t 8), none⟩,
 ⟨some 30, .mov (.t 7), none⟩,
 ⟨some 31, .bin .sub (.t 30) (.k (.d (.int .i64 1))), none⟩,
 ⟨some 32, .bin .eql (.t 29) (.t 31), none⟩]
def x11 : List SOper := [
 ⟨some 33, .mov (.t 1), none⟩,
 ⟨some 34, .len (.t 33), none⟩,
 ⟨some 9, .mov (.k (.d (.int .i64 2))), none⟩,
 ⟨some 10, .mov (.t 34), none⟩]
def xga : List SOper := [
 ⟨some 35, .mov (.t 6), none⟩,
 ⟨some 36, .mov (.t 9), none⟩,
 ⟨some 37, .mov (.t 1), none⟩,
 ⟨some 38, .mov (.t 8), none⟩,
 ⟨some 39, .bin .mul (.t 38) (.k (.d (.int .i64 22))), none⟩,
 ⟨some 40, .mov (.t 10), none⟩,
 ⟨some 41, .slice 1 (.t 37) (some (.t 39)) (some (.t 40)) none, none⟩,
 ⟨some 42, .mov (.t 6), none⟩,
 ⟨some 43, .call (.k (.d (.func (.func 133) [] []))) [(.t 42)], none⟩,
 ⟨some 44, .call (.k (.d (.func (.func 132) [] []))) [(.t 36), (.t 41), (.t 43)], none⟩,
 ⟨some 45, .append false 1 1 (.t 35) (.t 44), none⟩,
 ⟨some 6, .mov (.t 45), none⟩]
def xgb : List SOper := [
 ⟨some 24, .mov (.t 8), none⟩,
 ⟨some 25, .bin .add (.t 24) (.k (.d (.int .i64 1))), none⟩,
 ⟨some 8, .mov (.t 25), none⟩]
def q1z : SCode := (.seq (.seq (.region x1y 0 []) (.cond (.t 23) .skip (.exit 0))) (.seq (.block 1 (.seq (.region x1z 0 []) (.seq (.seq (.region x10 0 []) (.cond (.t 32) (.region x11 0 []) .skip)) (.region xga 0 [])))) (.region xgb 0 [])))
theorem x12 : qg q1z.eq_1 := qh q1z.eq_1
def xgc : List SOper := [
 ⟨some 46, .mov (.t 6), none⟩,
 ⟨some 47, .faddr 1 (.t 2), none⟩,
 ⟨some 48, .load none (.t 47), none⟩,
 ⟨some 49, .build [.nilsl, (.int .i64 0)] [(0, 1, (.t 46)), (1, 1, (.t 48))], none⟩,
 ⟨none, .store (some 2) (.t 4) (.t 49), none⟩,
 ⟨some 5, .mov (.k (.d (.int .i64 0))), none⟩]
def s74 : SCode := (.seq (.region x1s 2 []) (.seq (.seq (.region x1t 0 []) (.cond (.t 13) (.seq (.region x1u 0 []) .ret) .skip)) (.seq (.region x1v 0 []) (.seq (.region x1w 0 []) (.seq (.seq (.region x1x 0 []) (.block 0 (.loop q1z))) (.seq (.region xgc 0 []) .ret))))))
theorem e74 : qg s74.eq_1 := qh s74.eq_1
theorem zc9 : qa x1s.eq_1 := qc
theorem zda : qa x1t.eq_1 := qc
theorem zdb : qa x1u.eq_1 := qc
theorem zdc : qa x1v.eq_1 := qc
theorem zdd : qa x1w.eq_1 := qc
theorem zde : qa x1x.eq_1 := qc
theorem zdf : qa x1y.eq_1 := qc
theorem zdg : qa x1z.eq_1 := qc
theorem zdh : qa x10.eq_1 := qc
theorem zdi : qa x11.eq_1 := qc
theorem x13 : qa xga.eq_1 := qc
theorem x14 : qa xgb.eq_1 := qc
theorem x15 : qa xgc.eq_1 := qc
attribute [go_sem] zc9 zda zdb zdc zdd zde zdf zdg zdh zdi x13 x14 x12 x15 e74
theorem F74 : FnIs Tryz.prog 74 Tryz.f74 [] news s74 [.cell 4 (some 2), .tmp 5] 50 := zc follows Tryz.func74
end
theorem q11 (r : List UInt8) (hr : r.length ≤ 2000) : qo Tryz.prog 131 [.d (.sl 1 (qd r))] [] (.d (.int .i64 ((partsOf r).length : Nat))) [] := by
 have hn := qc6 _ r (Nat.le_refl _)
 obtain ⟨q, hq⟩ : ∃ q, q = (r.length + 21) / 22 := ⟨_, rfl⟩
 have w1 : IntKind.i64.wrap ((r.length : Int) + 22) = (r.length : Int) + 22 := by rw [xl (by unfold I64; omega)]
 have w2 : IntKind.i64.wrap ((r.length : Int) + 22 - 1) = (r.length : Int) + 21 := by rw [xl (by unfold I64; omega)]; omega
 have w3 : ((r.length : Int) + 21).tdiv 22 = (q : Nat) := by rw [Int.tdiv_eq_ediv_of_nonneg (by omega)]; omega
 have w4 : IntKind.i64.wrap (q : Nat) = (q : Nat) := xl (by unfold I64; omega)
 refine zg2.go ?_
 try (refine ev4 @w1 @w2 @w3 @w4 ?_; try exact True.intro)
 refine zk _ (fun hc => ?_) (fun hc => ?_)
 ·have e : (partsOf r).length = 1 := by simp at hc; omega
  try (refine ev1 @e ?_; try exact True.intro)
 ·have e : (partsOf r).length = q := by simp at hc; omega
  try (refine ev1 @e ?_; try exact True.intro)
def qt5 (f : List UInt8) (k : Nat) : St :=
 ⟨[(0, true, .d (.sl 1 (qd f))), (3, true, .d (.int .u64 (hAll f k : Nat))), (4, true, .d (.int .i64 (32 * k : Nat)))], [], [], 1⟩
theorem q5t (f : List UInt8) {h : Nat} (hc : Chain f h) (hf : f.length ≤ 200000000) : qo Tryz.prog 133 [.d (.sl 1 (qd f))] [] (.d (.int .u64 (h : Nat))) [] := by
 obtain ⟨n, h1, rfl⟩ := hc
 refine zc7.go ?_
 try (refine ev ?_; try exact True.intro)
 refine xc (fun k : { k : Nat // k ≤ n } => qt5 f k.val) (fun k => n - k.val) ⟨0, Nat.zero_le _⟩ ?_ (fun k => ?_)
 ·try simp only [qt5, hAll, qv0, Nat.mul_zero, Int.ofNat_zero, go_sem, Nat.reduceAdd, Nat.reduceMul, Nat.reduceSub, Nat.reduceEqDiff, Nat.reduceLT, Nat.reduceLeDiff, Nat.reduceBEq, reduceIte, reduceCtorEq, Int.reduceAdd, Int.reduceLT, Int.reduceLE, Int.reduceGT, Int.reduceGE, Int.reduceEq, Int.reduceNe, Int.reduceBEq, Int.reduceBNe, Int.reduceToNat, Int.reduceNeg]
 obtain ⟨k, hk⟩ := k
 try (refine ev1 @qt5.eq_1 ?_; try exact True.intro)
 obtain ⟨p, hp⟩ : ∃ p, p = 32 * k := ⟨_, rfl⟩
 have hp1 : 32 * (k + 1) = p + 32 := by omega
 rw [← hp]
 have w1 : IntKind.i64.wrap ((p : Int) + 32) = (p : Int) + 32 := by rw [xl (by unfold I64; omega)]
 have w2 : IntKind.i64.wrap ((p : Int) + 2) = (p : Int) + 2 := by rw [xl (by unfold I64; omega)]
 have w3 : IntKind.i64.wrap ((p : Int) + 2 + 22) = (p : Int) + 24 := by rw [xl (by unfold I64; omega)]; omega
 try (refine ev1 @w1 ?_; try exact True.intro)
 refine zk _ (fun hc => ?_) (fun hc => ?_)
 ·have hkn : k < n := by simp at hc; omega
  have e1 : ((p : Int) + 24).toNat - p = 24 := by omega
  have e2 : ((qd f).drop p).take 24 = qd (qr f p) := by rw [xq, xj, qr]
  try (refine ev4 @w2 @w3 @e1 @e2 ?_; try exact True.intro)
  refine ⟨by omega, ?_⟩
  (repeat (with_reducible refine ob ?_)); refine cl x6m (qna (hAll f k) (qr f p) (qst f k) (by rw [qr, List.length_take]; omega)) ?_
  try (refine ev ?_; try exact True.intro)
  refine ⟨⟨k + 1, hkn⟩, ?_, by dsimp only; omega⟩
  try simp only [qt5, w1, hAll, hp1, ← hp, go_sem, Nat.reduceAdd, Nat.reduceMul, Nat.reduceSub, Nat.reduceEqDiff, Nat.reduceLT, Nat.reduceLeDiff, Nat.reduceBEq, reduceIte, reduceCtorEq, Int.reduceAdd, Int.reduceLT, Int.reduceLE, Int.reduceGT, Int.reduceGE, Int.reduceEq, Int.reduceNe, Int.reduceBEq, Int.reduceBNe, Int.reduceToNat, Int.reduceNeg]
 ·have hkn : k = n := by simp at hc; omega
  subst hkn
  try (refine ev ?_; try exact True.intro)
def qfr (p : Nat × List UInt8) (j : Nat) : List UInt8 := [UInt8.ofNat p.1, UInt8.ofNat p.2.length] ++ p.2 ++ List.replicate j 0
theorem qsu (p : Nat × List UInt8) (j : Nat) : qfr p j ++ [0] = qfr p (j + 1) := by rw [qfr, List.append_assoc, ← List.replicate_succ']; rfl
def qt6 (p : Nat × List UInt8) (h : Nat) (j : Nat) : St :=
 ⟨[(2, true, .d (.int .u64 (h : Nat))), (7, true, .own 0 1 (qd (qfr p j)))], [], [0], 1⟩
theorem q5u (p : Nat × List UInt8) (h : Nat) (hp : p.1 = 1 ∨ p.1 = 2) (hl : p.2.length ≤ 22) (hh : h < 18446744073709551616) :
  qo Tryz.prog 132 [.d (.int .i64 (p.1 : Nat)), .d (.sl 1 (qd p.2)), .d (.int .u64 (h : Nat))] [] (.d (.sl 1 (qd (xm p ++ be8 (fnv h (xm p)))))) [] := by
 have u1 : IntKind.u8.wrap ((p.1 : Nat) : Int) = ((UInt8.ofNat p.1).toNat : Int) := by rw [qcu, UInt8.toNat_ofNat']; omega
 have u2 : IntKind.u8.wrap ((p.2.length : Nat) : Int) = ((UInt8.ofNat p.2.length).toNat : Int) := by rw [qcu, UInt8.toNat_ofNat']; omega
 have u3 : [[D.int .u8 ((UInt8.ofNat p.1).toNat : Int)], [D.int .u8 ((UInt8.ofNat p.2.length).toNat : Int)]] = qd [UInt8.ofNat p.1, UInt8.ofNat p.2.length] := rfl
 have u4 : UInt8.ofNat p.1 :: UInt8.ofNat p.2.length :: p.2 = qfr p 0 := by simp [qfr]
 refine zc8.go ?_
 try (refine ev4 @u1 @u2 @u3 @xd ?_; try exact True.intro)
 refine ⟨by omega, ?_⟩
 refine xc (fun j : { j : Nat // j ≤ 22 - p.2.length } => qt6 p h j.val) (fun j => 22 - p.2.length - j.val) ⟨0, Nat.zero_le _⟩ ?_ (fun j => ?_)
 ·try (refine ev2 @qt6.eq_1 @u4 ?_; try exact True.intro)
 obtain ⟨j, hj⟩ := j
 have hln : (qfr p j).length = 2 + p.2.length + j := by simp [qfr]; omega
 have hsu := qsu p j
 try (refine ev2 @qt6.eq_1 @hln ?_; try exact True.intro)
 refine zk _ (fun hc => ?_) (fun hc => ?_)
 ·have hjn : j < 22 - p.2.length := by simp at hc; omega
  have u5 : [[D.int .u8 0]] = qd [0] := rfl
  try (refine ev3 @u5 @xd @hsu ?_; try exact True.intro)
  refine ⟨by omega, ⟨j + 1, hjn⟩, ?_, by dsimp only; omega⟩
  try (refine ev1 @qt6.eq_1 ?_; try exact True.intro)
 ·have hjn : j = 22 - p.2.length := by simp at hc; omega
  have e : qfr p j = xm p := by rw [hjn]; rfl
  have h24 := k9 hl
  rw [e]
  try (refine ev ?_; try exact True.intro)
  (repeat (with_reducible refine ob ?_)); refine cl x6m (qna h (xm p) hh (by omega)) ?_
  try (refine ev ?_; try exact True.intro)
  (repeat (with_reducible refine ob ?_)); refine cl xjk (qp2 (fnv h (xm p)) (qe8 hh _)) ?_
  try (refine ev3 @xd @ja @h24 ?_; try exact True.intro)
def q12 (file r : List UInt8) (synced : Int) (i : Nat) : St :=
 ⟨[(1, true, .d (.sl 1 (qd r))), (2, true, .d (.ptr 0 0)), (4, true, .d (.ptr 1 0)), (7, true, .d (.int .i64 ((partsOf r).length : Nat))), (6, true, .own 0 1 (qd (file ++ x7 (jh file) ((partsOf r).take i)))), (8, true, .d (.int .i64 (i : Nat)))],
  [.row [.d (.sl 1 (qd file)), .d (.int .i64 synced)], .row [.d .nilsl, .d (.int .i64 0)]], [0], 1⟩
set_option maxRecDepth 10000 in
theorem qal (file r : List UInt8) (synced : Int) (hc : Chain file (jh file)) (hf : file.length ≤ 100000000) (hr : r.length ≤ 2000) :
  qo Tryz.prog 74 [.d (.agg (zt file synced)), .d (.sl 1 (qd r))] [] (.tup [.d (.agg (zt (jz file r) synced)), .d (.int .i64 0)]) [] := by
 have hr0 : decide ((r.length : Int) > 2000) = false := by simp; omega
 have hn := qc6 _ r (Nat.le_refl _)
 refine F74.goT ?_
 try (refine ev1 @zt.eq_1 ?_; try exact True.intro)
 try (refine ev1 @hr0 ?_; try exact True.intro)
 (repeat (with_reducible refine ob ?_)); refine no_ ?_
 try (refine ev ?_; try exact True.intro)
 refine ⟨by omega, ?_⟩
 (repeat (with_reducible refine ob ?_)); refine cl zg2 (q11 r hr) ?_
 try (refine ev ?_; try exact True.intro)
 refine xc (fun i : { i : Nat // i ≤ (partsOf r).length } => q12 file r synced i.val) (fun i => (partsOf r).length - i.val) ⟨0, Nat.zero_le _⟩ ?_ (fun i => ?_)
 ·try simp only [q12, List.take_zero, x7, List.append_nil, Int.ofNat_zero, go_sem, Nat.reduceAdd, Nat.reduceMul, Nat.reduceSub, Nat.reduceEqDiff, Nat.reduceLT, Nat.reduceLeDiff, Nat.reduceBEq, reduceIte, reduceCtorEq, Int.reduceAdd, Int.reduceLT, Int.reduceLE, Int.reduceGT, Int.reduceGE, Int.reduceEq, Int.reduceNe, Int.reduceBEq, Int.reduceBNe, Int.reduceToNat, Int.reduceNeg]
 obtain ⟨i, hi⟩ := i
 try (refine ev1 @q12.eq_1 ?_; try exact True.intro)
 refine zk _ (fun hd => ?_) (fun hd => ?_)
 ·have hil : i < (partsOf r).length := by simpa using hd
  obtain ⟨p1, p2⟩ := jj _ r (Nat.le_refl _) _ (List.getElem_mem hil)
  have hg := qqk _ r (Nat.le_refl _) i hil
  have hsn := qly (partsOf r)[i] ((partsOf r).take i) (jh file)
  rw [← List.take_succ_eq_append_getElem hil] at hsn
  replace hsn := (congrArg (file ++ ·) hsn).trans (List.append_assoc ..).symm
  have hch := qef ((partsOf r).take i) hc fun p hp => (jj _ r (Nat.le_refl _) p (List.mem_of_mem_take hp)).2
  have hcl : (x7 (jh file) ((partsOf r).take i)).length = 32 * i := by
   rw [qdh fun p hp => (jj _ r (Nat.le_refl _) p (List.mem_of_mem_take hp)).2, List.length_take]; omega
  have hfl : (file ++ x7 (jh file) ((partsOf r).take i)).length = file.length + 32 * i := by rw [List.length_append, hcl]
  have hlt := hch.lt
  have hsd := q5t _ hch (by omega)
  have hce := q5u (partsOf r)[i] _ p1 p2 hlt
  generalize qaw (jh file) ((partsOf r).take i) = g at *
  generalize file ++ x7 (jh file) ((partsOf r).take i) = fi at *
  generalize (partsOf r)[i] = pi at *
  obtain ⟨q, hq⟩ : ∃ q, q = 22 * i := ⟨_, rfl⟩
  rw [← hq] at hg
  have w1 : IntKind.i64.wrap ((i : Int) + 1) = (i : Int) + 1 := by rw [xl (by unfold I64; omega)]
  have w2 : IntKind.i64.wrap (((i : Int) + 1) * 22) = (q : Int) + 22 := by rw [xl (by unfold I64; omega)]; omega
  have w3 : IntKind.i64.wrap ((i : Int) * 22) = (q : Int) := by rw [xl (by unfold I64; omega)]; omega
  have w4 : IntKind.i64.wrap (((partsOf r).length : Int) - 1) = ((partsOf r).length : Int) - 1 := by rw [xl (by unfold I64; omega)]
  try (refine ev3 @w1 @w2 @w4 ?_; try exact True.intro)
  refine zk _ (fun he => ?_) (fun he => ?_)
  ·have hil1 : i + 1 = (partsOf r).length := by simp at he; omega
   rw [if_pos hil1] at hg
   subst hg
   have e1 : ((qd r).drop q).take (r.length - q) = qd (r.drop q) := by rw [xq, xj, List.take_of_length_le (by rw [List.length_drop]; omega)]
   have hpl : (r.drop q).length = r.length - q := List.length_drop ..
   change qo _ _ [.d (.int .i64 2), .d (.sl 1 (qd (r.drop q))), .d (.int .u64 (g : Nat))] _ _ _ at hce
   try (refine ev2 @w3 @e1 ?_; try exact True.intro)
   refine ⟨by omega, ?_⟩
   (repeat (with_reducible refine ob ?_)); refine cl zc7 (hsd) ?_
   try (refine ev ?_; try exact True.intro)
   (repeat (with_reducible refine ob ?_)); refine cl zc8 (hce) ?_
   try (refine ev3 @xd @ja (k9 p2) ?_; try exact True.intro)
   refine ⟨by omega, ⟨i + 1, hil⟩, ?_, by dsimp only; omega⟩
   try (refine ev3 @q12.eq_1 @hsn @w1 ?_; try exact True.intro)
  ·have hil1 : ¬ i + 1 = (partsOf r).length := by simp at he; omega
   rw [if_neg hil1] at hg
   subst hg
   have e0 : ((q : Int) + 22).toNat - q = 22 := by omega
   have e1 : ((qd r).drop q).take 22 = qd ((r.drop q).take 22) := by rw [xq, xj]
   change qo _ _ [.d (.int .i64 1), .d (.sl 1 (qd ((r.drop q).take 22))), .d (.int .u64 (g : Nat))] _ _ _ at hce
   try (refine ev3 @w3 @e0 @e1 ?_; try exact True.intro)
   refine ⟨by omega, ?_⟩
   (repeat (with_reducible refine ob ?_)); refine cl zc7 (hsd) ?_
   try (refine ev ?_; try exact True.intro)
   (repeat (with_reducible refine ob ?_)); refine cl zc8 (hce) ?_
   try (refine ev3 @xd @ja (k9 p2) ?_; try exact True.intro)
   refine ⟨by omega, ⟨i + 1, hil⟩, ?_, by dsimp only; omega⟩
   try (refine ev3 @q12.eq_1 @hsn @w1 ?_; try exact True.intro)
 ·have hin : i = (partsOf r).length := by simp at hd; omega
  subst hin
  have hwa := (qaj file r).symm
  try (refine ev2 @List.take_length.{0} @hwa ?_; try exact True.intro)
end Go.Proofs.YtinnaedmdoengaaGreat
namespace Go.Proofs.YtinnaedmdoengaaGreat
open Go.Abs
set_option linter.unusedSimpArgs false
set_option linter.unusedVariables false
noncomputable section
set_option maxRecDepth 100000
def xgd : List SOper := [
 ⟨some 3, .box 1 (.t 1), none⟩,
 ⟨some 4, .mov (.k (.d .nilsl)), none⟩]
def xge : List SOper := [
 ⟨some 5, .mov (.k (.d .nilsl)), none⟩]
def xgf : List SOper := [
 ⟨some 6, .mov (.k (.d (.int .i64 0))), none⟩]
def xgg : List SOper := [
 ⟨some 7, .mov (.t 6), none⟩,
 ⟨some 8, .mov (.t 0), none⟩,
 ⟨some 9, .len (.t 8), none⟩,
 ⟨some 10, .bin .lss (.t 7) (.t 9), none⟩,
 ⟨some 11, .mov (.t 10), none⟩,
 ⟨some 12, .mov (.t 0), some (11, true)⟩,
 ⟨some 13, .mov (.t 6), some (11, true)⟩,
 ⟨some 14, .iaddr 2 (.t 12) (.t 13), some (11, true)⟩,
 ⟨some 15, .faddr 0 (.t 14), some (11, true)⟩,
 ⟨some 16, .load none (.t 15), some (11, true)⟩,
 ⟨some 17, .faddr 0 (.t 3), some (11, true)⟩,
 ⟨some 18, .load none (.t 17), some (11, true)⟩,
 ⟨some 19, .bin .lss (.t 16) (.t 18), some (11, true)⟩,
 ⟨some 20, .pick (.t 11) (.t 19) (.k (.d (.bool false))), none⟩]
def xgh : List SOper := [
 ⟨some 21, .mov (.t 5), none⟩,
 ⟨some 22, .mov (.t 0), none⟩,
 ⟨some 23, .mov (.t 6), none⟩,
 ⟨some 24, .iaddr 2 (.t 22) (.t 23), none⟩,
 ⟨some 25, .load (some 2) (.t 24), none⟩,
 ⟨some 26, .buildSlice false 2 1 [(.str []), .nilsl] [(0, 2, (.t 25))], none⟩,
 ⟨some 27, .append false 2 40 (.t 21) (.t 26), none⟩,
 ⟨some 5, .mov (.t 27), none⟩]
def xgi : List SOper := [
 ⟨some 28, .mov (.t 6), none⟩,
 ⟨some 29, .bin .add (.t 28) (.k (.d (.int .i64 1))), none⟩,
 ⟨some 6, .mov (.t 29), none⟩]
def q13 : SCode := (.seq (.seq (.region xgg 0 []) (.cond (.t 20) .skip (.exit 0))) (.block 1 (.seq (.region xgh 0 []) (.region xgi 0 []))))
theorem x16 : qg q13.eq_1 := qh q13.eq_1
def xgj : List SOper := [
 ⟨some 30, .mov (.t 5), none⟩,
 ⟨some 31, .load (some 2) (.t 3), none⟩,
 ⟨some 32, .buildSlice false 2 1 [(.str []), .nilsl] [(0, 2, (.t 31))], none⟩,
 ⟨some 33, .append false 2 40 (.t 30) (.t 32), none⟩,
 ⟨some 5, .mov (.t 33), none⟩]
def xgk : List SOper := [
 ⟨some 34, .mov (.t 6), none⟩,
 ⟨some 35, .mov (.t 0), none⟩,
 ⟨some 36, .len (.t 35), none⟩,
 ⟨some 37, .bin .lss (.t 34) (.t 36), none⟩,
 ⟨some 38, .mov (.t 37), none⟩,
 ⟨some 39, .mov (.t 0), some (38, true)⟩,
 ⟨some 40, .mov (.t 6), some (38, true)⟩,
 ⟨some 41, .iaddr 2 (.t 39) (.t 40), some (38, true)⟩,
 ⟨some 42, .faddr 0 (.t 41), some (38, true)⟩,
 ⟨some 43, .load none (.t 42), some (38, true)⟩,
 ⟨some 44, .faddr 0 (.t 3), some (38, true)⟩,
 ⟨some 45, .load none (.t 44), some (38, true)⟩,
 ⟨some 46, .bin .eql (.t 43) (.t 45), some (38, true)⟩,
 ⟨some 47, .pick (.t 38) (.t 46) (.k (.d (.bool false))), none⟩]
def xgl : List SOper := [
 ⟨some 48, .mov (.t 6), none⟩,
 ⟨some 49, .bin .add (.t 48) (.k (.d (.int .i64 1))), none⟩,
 ⟨some 6, .mov (.t 49), none⟩]
def q14 : List SOper := [
 ⟨some 50, .mov (.t 5), none⟩,
 ⟨some 51, .mov (.t 0), none⟩,
 ⟨some 52, .mov (.t 6), none⟩,
 ⟨some 53, .slice 2 (.t 51) (some (.t 52)) none none, none⟩,
 ⟨some 54, .append false 2 40 (.t 50) (.t 53), none⟩,
 ⟨some 4, .mov (.t 54), none⟩]
def s122 : SCode := (.seq (.region xgd 1 []) (.seq (.region xge 0 []) (.seq (.region xgf 0 []) (.seq (.block 0 (.loop q13)) (.seq (.region xgj 0 []) (.seq (.seq (.region xgk 0 []) (.cond (.t 47) (.region xgl 0 []) .skip)) (.seq (.region q14 0 []) .ret)))))))
theorem zi3 : qg s122.eq_1 := qh s122.eq_1
theorem x17 : qa xgd.eq_1 := qc
theorem x18 : qa xge.eq_1 := qc
theorem x19 : qa xgf.eq_1 := qc
theorem x2a : qa xgg.eq_1 := qc
theorem x2b : qa xgh.eq_1 := qc
theorem x2c : qa xgi.eq_1 := qc
theorem x2d : qa xgj.eq_1 := qc
theorem x2e : qa xgk.eq_1 := qc
theorem x2f : qa xgl.eq_1 := qc
theorem xki : qa q14.eq_1 := qc
attribute [go_sem] x17 x18 x19 x2a x2b x2c x16 x2d x2e x2f xki zi3
theorem zdj : FnIs Tryz.prog 122 Tryz.f122 [] news s122 [.tmp 4] 55 := zc follows Tryz.func122
def xgm : List SOper := [
 ⟨some 4, .mov (.k (.d .nilsl)), none⟩]
def xgn : List SOper := [
 ⟨some 5, .mov (.k (.d .nilsl)), none⟩]
def xgo : List SOper := [
 ⟨some 6, .mov (.k (.d (.int .i64 0))), none⟩]
def xgp : List SOper := [
 ⟨some 7, .mov (.t 6), none⟩,
 ⟨some 8, .mov (.t 0), none⟩,
 ⟨some 9, .len (.t 8), none⟩,
 ⟨some 10, .bin .lss (.t 7) (.t 9), none⟩]
def xgq : List SOper := [
 ⟨some 13, .mov (.t 0), none⟩,
 ⟨some 14, .mov (.t 6), none⟩,
 ⟨some 15, .iaddr 2 (.t 13) (.t 14), none⟩,
 ⟨some 16, .faddr 0 (.t 15), none⟩,
 ⟨some 17, .load none (.t 16), none⟩,
 ⟨some 18, .mov (.t 1), none⟩,
 ⟨some 19, .bin .neq (.t 17) (.t 18), none⟩]
def xgr : List SOper := [
 ⟨some 20, .mov (.t 5), none⟩,
 ⟨some 21, .mov (.t 0), none⟩,
 ⟨some 22, .mov (.t 6), none⟩,
 ⟨some 23, .iaddr 2 (.t 21) (.t 22), none⟩,
 ⟨some 24, .load (some 2) (.t 23), none⟩,
 ⟨some 25, .buildSlice false 2 1 [(.str []), .nilsl] [(0, 2, (.t 24))], none⟩,
 ⟨some 26, .append false 2 40 (.t 20) (.t 25), none⟩,
 ⟨some 5, .mov (.t 26), none⟩]
def xgs : List SOper := [
 ⟨some 11, .mov (.t 6), none⟩,
 ⟨some 12, .bin .add (.t 11) (.k (.d (.int .i64 1))), none⟩,
 ⟨some 6, .mov (.t 12), none⟩]
def q15 : SCode := (.seq (.seq (.region xgp 0 []) (.cond (.t 10) .skip (.exit 0))) (.seq (.block 1 (.seq (.region xgq 0 []) (.cond (.t 19) (.region xgr 0 []) .skip))) (.region xgs 0 [])))
theorem x2g : qg q15.eq_1 := qh q15.eq_1
def xgt : List SOper := [
 ⟨some 27, .mov (.t 5), none⟩,
 ⟨some 4, .mov (.t 27), none⟩]
def s121 : SCode := (.seq (.region xgm 0 []) (.seq (.region xgn 0 []) (.seq (.seq (.region xgo 0 []) (.block 0 (.loop q15))) (.seq (.region xgt 0 []) .ret))))
theorem zi4 : qg s121.eq_1 := qh s121.eq_1
theorem x2h : qa xgm.eq_1 := qc
theorem x2i : qa xgn.eq_1 := qc
theorem x2j : qa xgo.eq_1 := qc
theorem x2k : qa xgp.eq_1 := qc
theorem x2l : qa xgq.eq_1 := qc
theorem x2m : qa xgr.eq_1 := qc
theorem x2n : qa xgs.eq_1 := qc
theorem x2o : qa xgt.eq_1 := qc
attribute [go_sem] x2h x2i x2j x2k x2l x2m x2n x2g x2o zi4
theorem zdk : FnIs Tryz.prog 121 Tryz.f121 [] news s121 [.tmp 4] 28 := zc follows Tryz.func121
def x2p : List SOper := [
 ⟨some 4, .mov (.k (.d .nilsl)), none⟩,
 ⟨some 5, .mov (.k (.d (.bool false))), none⟩]
def x2q : List SOper := [
 ⟨some 6, .mov (.k (.d (.int .i64 0))), none⟩]
def x2r : List SOper := [
 ⟨some 7, .mov (.t 6), none⟩,
 ⟨some 8, .mov (.t 1), none⟩,
 ⟨some 9, .len (.t 8), none⟩,
 ⟨some 10, .bin .lss (.t 7) (.t 9), none⟩]
def x2s : List SOper := [
 ⟨some 13, .mov (.t 1), none⟩,
 ⟨some 14, .mov (.t 6), none⟩,
 ⟨some 15, .iaddr 3 (.t 13) (.t 14), none⟩,
 ⟨some 16, .faddr 1 (.t 15), none⟩,
 ⟨some 17, .load none (.t 16), none⟩]
def x2t : List SOper := [
 ⟨some 18, .mov (.t 0), none⟩,
 ⟨some 19, .mov (.t 1), none⟩,
 ⟨some 20, .mov (.t 6), none⟩,
 ⟨some 21, .iaddr 3 (.t 19) (.t 20), none⟩,
 ⟨some 22, .faddr 0 (.t 21), none⟩,
 ⟨some 23, .load none (.t 22), none⟩,
 ⟨some 24, .call (.k (.d (.func (.func 121) [] []))) [(.t 18), (.t 23)], none⟩,
 ⟨some 0, .mov (.t 24), none⟩]
def x2u : List SOper := [
 ⟨some 25, .mov (.t 0), none⟩,
 ⟨some 26, .mov (.t 1), none⟩,
 ⟨some 27, .mov (.t 6), none⟩,
 ⟨some 28, .iaddr 3 (.t 26) (.t 27), none⟩,
 ⟨some 29, .faddr 0 (.t 28), none⟩,
 ⟨some 30, .load none (.t 29), none⟩,
 ⟨some 31, .buildSlice false 1 0 [(.int .u8 0)] [], none⟩,
 ⟨some 32, .mov (.t 1), none⟩,
 ⟨some 33, .mov (.t 6), none⟩,
 ⟨some 34, .iaddr 3 (.t 32) (.t 33), none⟩,
 ⟨some 35, .faddr 2 (.t 34), none⟩,
 ⟨some 36, .load none (.t 35), none⟩,
 ⟨some 37, .append false 1 1 (.t 31) (.t 36), none⟩,
 ⟨some 38, .build [(.str []), .nilsl] [(0, 1, (.t 30)), (1, 1, (.t 37))], none⟩,
 ⟨some 39, .call (.k (.d (.func (.func 122) [] []))) [(.t 25), (.t 38)], none⟩,
 ⟨some 0, .mov (.t 39), none⟩]
def x2v : List SOper := [
 ⟨some 40, .mov (.t 0), none⟩,
 ⟨some 41, .len (.t 40), none⟩,
 ⟨some 42, .bin .gtr (.t 41) (.k (.d (.int .i64 400))), none⟩]
def x2w : List SOper := [
 ⟨some 4, .mov (.k (.d .nilsl)), none⟩,
 ⟨some 5, .mov (.k (.d (.bool false))), none⟩]
def x2x : List SOper := [
 ⟨some 11, .mov (.t 6), none⟩,
 ⟨some 12, .bin .add (.t 11) (.k (.d (.int .i64 1))), none⟩,
 ⟨some 6, .mov (.t 12), none⟩]
def xkj : SCode := (.seq (.seq (.region x2r 0 []) (.cond (.t 10) .skip (.exit 0))) (.seq (.block 1 (.seq (.seq (.region x2s 0 []) (.cond (.t 17) (.region x2t 0 []) (.region x2u 0 []))) (.seq (.region x2v 0 []) (.cond (.t 42) (.seq (.region x2w 0 []) .ret) .skip)))) (.region x2x 0 [])))
theorem zdl : qg xkj.eq_1 := qh xkj.eq_1
def xgu : List SOper := [
 ⟨some 43, .mov (.t 0), none⟩,
 ⟨some 4, .mov (.t 43), none⟩,
 ⟨some 5, .mov (.k (.d (.bool true))), none⟩]
def s62 : SCode := (.seq (.region x2p 0 []) (.seq (.seq (.region x2q 0 []) (.block 0 (.loop xkj))) (.seq (.region xgu 0 []) .ret)))
theorem e62 : qg s62.eq_1 := qh s62.eq_1
theorem zdm : qa x2p.eq_1 := qc
theorem zdn : qa x2q.eq_1 := qc
theorem zdo : qa x2r.eq_1 := qc
theorem zdp : qa x2s.eq_1 := qc
theorem zdq : qa x2t.eq_1 := qc
theorem zdr : qa x2u.eq_1 := qc
theorem zds : qa x2v.eq_1 := qc
theorem zdt : qa x2w.eq_1 := qc
theorem zdu : qa x2x.eq_1 := qc
theorem x2y : qa xgu.eq_1 := qc
attribute [go_sem] zdm zdn zdo zdp zdq zdr zds zdt zdu zdl x2y e62
theorem F62 : FnIs Tryz.prog 62 Tryz.f62 [] news s62 [.tmp 4, .tmp 5] 44 := zc follows Tryz.func62
end
theorem qt7 (x : En) : ∀ l : List En, (eSet x l).length ≤ l.length + 1
 | [] => by simp [eSet]
 | y :: l => by
  have := qt7 x l
  rw [eSet]
  split
  ·simp only [List.length_cons]; omega
  ·split <;> simp
theorem qt8 (k : List UInt8) (l : List En) : (eDel k l).length ≤ l.length := List.length_filter_le _ _
theorem qsv (x : En) : ∀ (l : List En) (i : Nat) (hi : i ≤ l.length), (∀ y ∈ l.take i, Op.bytesLess y.1 x.1 = true) → (∀ h : i < l.length, Op.bytesLess l[i].1 x.1 = false) →
  eSet x l = l.take i ++ [x] ++ l.drop (if ∃ h : i < l.length, l[i].1 = x.1 then i + 1 else i)
 | [], i, hi, _, _ => by
  have : i = 0 := by simpa using hi
  subst this
  simp [eSet]
 | y :: l, 0, _, _, h2 => by
  have := h2 (by simp)
  simp only [List.getElem_cons_zero] at this
  rw [eSet, this]
  by_cases he : y.1 = x.1 <;> simp [he]
 | y :: l, i + 1, hi, h1, h2 => by
  have hy := h1 y (by simp)
  have ih := qsv x l i (by simpa using hi) (fun z hz => h1 z (by simp [hz])) (fun h => by have := h2 (by simpa using h); simpa only [List.getElem_cons_succ] using this)
  rw [eSet, if_pos hy, ih]
  simp only [List.take_succ_cons, List.cons_append, List.length_cons, Nat.add_lt_add_iff_right, List.getElem_cons_succ]
  split <;> simp
def q16 (l : List En) (x : En) (i : { i : Nat // i ≤ l.length ∧ ∀ y ∈ l.take i, Op.bytesLess y.1 x.1 = true }) : St :=
 ⟨[(0, true, .d (.sl 2 (l.map qn))), (3, true, .d (.ptr 0 0)), (5, true, .own 0 2 ((l.take i.val).map qn)), (6, true, .d (.int .i64 (i.val : Nat)))], [.row [.d (.str x.1), .d (.sl 1 (qd x.2))]], [0], 1⟩
theorem q17 (l : List En) (x : En) (hl : l.length ≤ 100000) : qo Tryz.prog 122 [.d (.sl 2 (l.map qn)), .d (.agg (qn x))] [] (.d (.sl 2 ((eSet x l).map qn))) [] := by
 refine zdj.go ?_
 try (refine ev1 @qn.eq_1 ?_; try exact True.intro)
 refine xc (q16 l x) (fun i => l.length - i.val) ⟨0, Nat.zero_le _, by simp⟩ ?_ (fun i => ?_)
 ·try (refine ev4 @q16.eq_1 @List.take_zero.{0} @List.map_nil.{0,0} @Int.ofNat_zero ?_; try exact True.intro)
 obtain ⟨i, hi, ha⟩ := i
 have w1 : IntKind.i64.wrap ((i : Int) + 1) = ((i + 1 : Nat) : Int) := qt (show i < 9223372036854775807 by omega)
 have tl : (l.take i).length ≤ i := by rw [List.length_take]; omega
 by_cases hil : i < l.length
 ·have hd : decide ((i : Int) < (l.length : Int)) = true := by simpa using hil
  try (refine ev4 @q16.eq_1 @hd (xi qn l hil) @qn.eq_1 ?_; try exact True.intro)
  (repeat (with_reducible refine ob ?_))
  refine zk _ (fun hb => ?_) (fun hb => ?_)
  ·try (refine ev2 (xi qn l hil) @qn.eq_1 ?_; try exact True.intro)
   (repeat (with_reducible refine ob ?_))
   refine ⟨⟨i + 1, hil, fun y hy => ?_⟩, ?_, by dsimp only; omega⟩
   ·rw [List.take_succ_eq_append_getElem hil] at hy
    rcases List.mem_append.1 hy with hy | hy
    ·exact ha y hy
    ·simp only [List.mem_singleton] at hy; subst hy; exact hb
   try (refine ev4 @q16.eq_1 (qb9 qn l hil) @qn.eq_1 @w1 ?_; try exact True.intro)
  ·have hx := qsv x l i hi ha (fun _ => hb)
   by_cases he : l[i].1 = x.1
   ·have he2 : (l[i].1 == x.1) = true := by simpa using he
    rw [if_pos ⟨hil, he⟩] at hx
    have hm : (eSet x l).map qn = (l.take i).map qn ++ [[D.str x.1, D.sl 1 (qd x.2)]] ++ (l.map qn).drop (i + 1) := by rw [hx]; simp [List.map_drop, qn]
    have ht : ((l.map qn).drop (i + 1)).take (l.length - (i + 1)) = (l.map qn).drop (i + 1) := List.take_of_length_le (by simp)
    have e1 : ((i : Int) + 1).toNat = i + 1 := by omega
    try (refine ev4 @hd (xi qn l hil) @qn.eq_1 @he2 ?_; try exact True.intro)
    refine ⟨by omega, by omega, ?_⟩
    (repeat (with_reducible refine ob ?_)); refine qct ?_
    try (refine ev4 @w1 @e1 @ht @hm ?_; try exact True.intro)
    refine ⟨by omega, by simp only [List.length_drop, List.length_map]; omega, ?_⟩
    rw [← hm]
    exact D.okWR_noPtr (qat _)
   ·have he2 : (l[i].1 == x.1) = false := by simpa using he
    rw [if_neg (fun ⟨_, h⟩ => he h)] at hx
    have hm : (eSet x l).map qn = (l.take i).map qn ++ [[D.str x.1, D.sl 1 (qd x.2)]] ++ (l.map qn).drop i := by rw [hx]; simp [List.map_drop, qn]
    have ht : ((l.map qn).drop i).take (l.length - i) = (l.map qn).drop i := List.take_of_length_le (by simp)
    try (refine ev4 @hd (xi qn l hil) @qn.eq_1 @he2 ?_; try exact True.intro)
    refine ⟨by omega, by omega, ?_⟩
    (repeat (with_reducible refine ob ?_)); refine no_ ?_
    try (refine ev3 @Int.toNat_natCast @ht @hm ?_; try exact True.intro)
    refine ⟨by omega, by simp only [List.length_drop, List.length_map]; omega, ?_⟩
    rw [← hm]
    exact D.okWR_noPtr (qat _)
 ·have hd : decide ((i : Int) < (l.length : Int)) = false := by simpa using hil
  have hx := qsv x l i hi ha (fun h => (hil h).elim)
  rw [if_neg (fun ⟨h, _⟩ => hil h)] at hx
  have hm : (eSet x l).map qn = (l.take i).map qn ++ [[D.str x.1, D.sl 1 (qd x.2)]] ++ (l.map qn).drop i := by rw [hx]; simp [List.map_drop, qn]
  have ht : ((l.map qn).drop i).take (l.length - i) = (l.map qn).drop i := List.take_of_length_le (by simp)
  have hg : (l.map qn).getD i [] = [] := by rw [List.getD_eq_getElem?_getD, List.getElem?_eq_none (by rw [List.length_map]; omega)]; rfl
  try (refine ev4 @q16.eq_1 @hd @hg @Out.bad.eq_1 ?_; try exact True.intro)
  (repeat (with_reducible refine ob ?_))
  try (refine ev3 @hd @hg @Out.bad.eq_1 ?_; try exact True.intro)
  (repeat (with_reducible refine ob ?_)); refine no_ ?_
  try (refine ev3 @hd @hg @Out.bad.eq_1 ?_; try exact True.intro)
  refine ⟨by omega, ?_⟩
  (repeat (with_reducible refine ob ?_)); refine no_ ?_
  try (refine ev3 @Int.toNat_natCast @ht @hm ?_; try exact True.intro)
  refine ⟨by omega, by simp only [List.length_drop, List.length_map]; omega, ?_⟩
  rw [← hm]
  exact D.okWR_noPtr (qat _)
def q18 (l : List En) (k : List UInt8) (i : { i : Nat // i ≤ l.length }) : St :=
 ⟨[(0, true, .d (.sl 2 (l.map qn))), (1, true, .d (.str k)), (5, true, .own 0 2 ((eDel k (l.take i.val)).map qn)), (6, true, .d (.int .i64 (i.val : Nat)))], [], [0], 1⟩
theorem qql (k : List UInt8) (l : List En) {i : Nat} (h : i < l.length) : eDel k (l.take (i + 1)) = if l[i].1 = k then eDel k (l.take i) else eDel k (l.take i) ++ [l[i]] := by
 rw [List.take_succ_eq_append_getElem h, eDel, List.filter_append]
 split
 ·rename_i he; simp [eDel, he]
 ·rename_i he; simp [eDel, he]
theorem qlz (l : List En) (k : List UInt8) (hl : l.length ≤ 100000) : qo Tryz.prog 121 [.d (.sl 2 (l.map qn)), .d (.str k)] [] (.d (.sl 2 ((eDel k l).map qn))) [] := by
 refine zdk.go ?_
 try (refine ev ?_; try exact True.intro)
 refine xc (q18 l k) (fun i => l.length - i.val) ⟨0, Nat.zero_le _⟩ ?_ (fun i => ?_)
 ·try (refine ev6 @q18.eq_1 @List.take_zero.{0} @eDel.eq_1 @List.filter_nil.{0} @List.map_nil.{0,0} @Int.ofNat_zero ?_; try exact True.intro)
 obtain ⟨i, hi⟩ := i
 have hdl := qt8 k (l.take i)
 rw [List.length_take] at hdl
 try (refine ev1 @q18.eq_1 ?_; try exact True.intro)
 (repeat (with_reducible refine ob ?_)); refine zk _ (fun h => ?_) (fun h => ?_)
 ·have hil : i < l.length := by simpa using h
  try (refine ev2 (xi qn l hil) @qn.eq_1 ?_; try exact True.intro)
  (repeat (with_reducible refine ob ?_))
  refine zk _ (fun hk => ?_) (fun hk => ?_)
  ·have hx : eDel k (l.take (i + 1)) = eDel k (l.take i) ++ [l[i]] := by rw [qql k l hil, if_neg (by simpa using hk)]
   try (refine ev2 (xi qn l hil) @qn.eq_1 ?_; try exact True.intro)
   (repeat (with_reducible refine ob ?_))
   refine ⟨⟨i + 1, hil⟩, ?_, by dsimp only; omega⟩
   try (refine ev7 @q18.eq_1 @hx @List.map_append.{0,0} @List.map_cons.{0,0} @List.map_nil.{0,0} @qn.eq_1 (qt (show i < 9223372036854775807 by omega)) ?_; try exact True.intro)
  ·have hx : eDel k (l.take (i + 1)) = eDel k (l.take i) := by rw [qql k l hil, if_pos (by simpa using hk)]
   try (refine ev ?_; try exact True.intro)
   refine ⟨⟨i + 1, hil⟩, ?_, by dsimp only; omega⟩
   try (refine ev3 @q18.eq_1 @hx (qt (show i < 9223372036854775807 by omega)) ?_; try exact True.intro)
 ·have hil : i = l.length := by
   have : l.length ≤ i := by simpa using h
   omega
  subst hil
  try (refine ev1 @List.take_length.{0} ?_; try exact True.intro)
def qjw (l : List En) (ops : List OpS) (n : Nat) (i : Nat) (m : List En) : St :=
 ⟨[(0, true, .d (.sl 2 (m.map qn))), (1, true, .d (.sl 3 (ops.map qk))), (6, true, .d (.int .i64 (i : Nat)))], [], [], 1⟩
theorem qfs (l : List En) (ops : List OpS) (hl : l.length ≤ 400) (ho : ops.length ≤ 100000) (hv : ∀ o ∈ ops, o.val.length ≤ 1000000) :
  qo Tryz.prog 62 [.d (.sl 2 (l.map qn)), .d (.sl 3 (ops.map qk))] [] (.tup [.d (.sl 2 ((jx l ops).1.map qn)), .d (.bool (jx l ops).2)]) [] := by
 refine F62.goT ?_
 try (refine ev ?_; try exact True.intro)
 refine xc (fun x : { x : Nat × List En // x.1 ≤ ops.length ∧ x.2.length ≤ 400 ∧ jx x.2 (ops.drop x.1) = jx l ops } => qjw l ops 0 x.val.1 x.val.2) (fun x => ops.length - x.val.1) ⟨(0, l), Nat.zero_le _, hl, rfl⟩ ?_ (fun x => ?_)
 ·try (refine ev2 @qjw.eq_1 @Int.ofNat_zero ?_; try exact True.intro)
 obtain ⟨⟨i, m⟩, hi, hm, hx⟩ := x
 simp only at hi hm hx
 try (refine ev1 @qjw.eq_1 ?_; try exact True.intro)
 refine zk _ (fun hc => ?_) (fun hc => ?_)
 ·have hil : i < ops.length := by simpa using hc
  rw [List.drop_eq_getElem_cons hil, jx] at hx
  have hvi := hv _ (List.getElem_mem hil)
  try (refine ev2 (xi qk ops hil) @qk.eq_1 ?_; try exact True.intro)
  (repeat (with_reducible refine ob ?_))
  refine zk _ (fun hd => ?_) (fun hd => ?_)
  ·have ho : eOp m ops[i] = eDel ops[i].key m := by rw [eOp, if_pos hd]
   have hle := qt8 ops[i].key m
   try (refine ev2 (xi qk ops hil) @qk.eq_1 ?_; try exact True.intro)
   (repeat (with_reducible refine ob ?_))
   (repeat (with_reducible refine ob ?_)); first | refine cl zdk (qlz m ops[i].key (by omega)) ?_ | refine clF zdk (qlz m ops[i].key (by omega)) (fun _ => by (refine ev3 @qk.eq_1 @qn.eq_1 @qj.eq_1 ?_; try exact True.intro)) ?_
   rw [← ho] at hle ⊢
   generalize eOp m ops[i] = m' at hle hx
   try (refine ev ?_; try exact True.intro)
   refine zk _ (fun h4 => ?_) (fun h4 => ?_)
   ·rw [if_pos (by simp at h4; omega)] at hx
    try (refine ev1 hx.symm ?_; try exact True.intro)
   ·have h4' : m'.length ≤ 400 := by simp at h4; omega
    rw [if_neg (by omega)] at hx
    try (refine ev ?_; try exact True.intro)
    refine ⟨⟨(i + 1, m'), hil, h4', hx⟩, ?_, by dsimp only; omega⟩
    try (refine ev2 @qjw.eq_1 (qt (show i < 9223372036854775807 by omega)) ?_; try exact True.intro)
  ·have ho : eOp m ops[i] = eSet (ops[i].key, ops[i].val) m := by rw [eOp, if_neg (by simp [hd])]
   have hle := qt7 (ops[i].key, ops[i].val) m
   try (refine ev2 (xi qk ops hil) @qk.eq_1 ?_; try exact True.intro)
   (repeat (with_reducible refine ob ?_))
   (repeat (with_reducible refine ob ?_)); first | refine cl zdj (q17 m (ops[i].key, ops[i].val) (by omega)) ?_ | refine clF zdj (q17 m (ops[i].key, ops[i].val) (by omega)) (fun _ => by (refine ev3 @qk.eq_1 @qn.eq_1 @qj.eq_1 ?_; try exact True.intro)) ?_
   rw [← ho] at hle ⊢
   generalize eOp m ops[i] = m' at hle hx
   try (refine ev ?_; try exact True.intro)
   refine zk _ (fun h4 => ?_) (fun h4 => ?_)
   ·rw [if_pos (by simp at h4; omega)] at hx
    try (refine ev1 hx.symm ?_; try exact True.intro)
   ·have h4' : m'.length ≤ 400 := by simp at h4; omega
    rw [if_neg (by omega)] at hx
    try (refine ev ?_; try exact True.intro)
    refine ⟨⟨(i + 1, m'), hil, h4', hx⟩, ?_, by dsimp only; omega⟩
    try (refine ev2 @qjw.eq_1 (qt (show i < 9223372036854775807 by omega)) ?_; try exact True.intro)
 ·have hie : i = ops.length := by
   have : ops.length ≤ i := by simpa using hc
   omega
  subst hie
  rw [List.drop_length, jx] at hx
  try (refine ev1 hx.symm ?_; try exact True.intro)
end Go.Proofs.YtinnaedmdoengaaGreat
namespace Go.Proofs.YtinnaedmdoengaaGreat
open Go.Abs
set_option linter.unusedSimpArgs false
set_option linter.unusedVariables false
noncomputable section
set_option maxRecDepth 100000
def x2z : List SOper := [
 ⟨some 2, .alloc 1 [(.d .nilsl), (.d (.int .i64 0)), (.d .nilsl)], none⟩,
 ⟨some 3, .mov (.k (.d (.int .i64 0))), none⟩]
def x20 : List SOper := [
 ⟨some 13, .mov (.t 0), none⟩,
 ⟨some 14, .call (.k (.d (.func (.func 60) [] []))) [(.t 13)], none⟩,
 ⟨some 12, .mov (.t 14), none⟩,
 ⟨some 15, .extract 0 (.t 12), none⟩,
 ⟨some 16, .extract 1 (.t 12), none⟩,
 ⟨some 4, .alloc 1 [(.d .nilsl), (.d (.int .i64 0))], none⟩,
 ⟨none, .store (some 2) (.t 4) (.t 15), none⟩,
 ⟨some 5, .mov (.t 16), none⟩]
def x21 : List SOper := [
 ⟨some 17, .load (some 2) (.t 4), none⟩,
 ⟨some 18, .build [.nilsl, (.int .i64 0), .nilsl] [(0, 2, (.t 17))], none⟩,
 ⟨some 6, .alloc 1 [(.d .nilsl), (.d (.int .i64 0)), (.d .nilsl)], none⟩,
 ⟨none, .store (some 3) (.t 6) (.t 18), none⟩]
def x22 : List SOper := [
 ⟨some 7, .mov (.k (.d (.int .i64 0))), none⟩]
def x23 : List SOper := [
 ⟨some 19, .mov (.t 7), none⟩,
 ⟨some 20, .mov (.t 5), none⟩,
 ⟨some 21, .len (.t 20), none⟩,
 ⟨some 22, .bin .lss (.t 19) (.t 21), none⟩]
def x24 : List SOper := [
 ⟨some 26, .mov (.t 5), none⟩,
 ⟨some 27, .mov (.t 7), none⟩,
 ⟨some 28, .iaddr 1 (.t 26) (.t 27), none⟩,
 ⟨some 29, .load none (.t 28), none⟩,
 ⟨some 30, .call (.k (.d (.func (.func 61) [] []))) [(.t 29)], none⟩,
 ⟨some 25, .mov (.t 30), none⟩,
 ⟨some 31, .extract 0 (.t 25), none⟩,
 ⟨some 32, .extract 1 (.t 25), none⟩,
 ⟨some 8, .mov (.t 31), none⟩,
 ⟨some 9, .mov (.t 32), none⟩]
def x25 : List SOper := [
 ⟨some 33, .mov (.t 9), none⟩,
 ⟨some 34, .bin .neq (.t 33) (.k (.d (.int .i64 0))), none⟩]
def x26 : List SOper := [
 ⟨some 35, .build [.nilsl, (.int .i64 0), .nilsl] [], none⟩,
 ⟨none, .store (some 3) (.t 2) (.t 35), none⟩,
 ⟨some 3, .mov (.k (.d (.int .i64 4))), none⟩]
def x27 : List SOper := [
 ⟨some 37, .faddr 2 (.t 6), none⟩,
 ⟨some 38, .load none (.t 37), none⟩,
 ⟨some 39, .mov (.t 8), none⟩,
 ⟨some 40, .call (.k (.d (.func (.func 62) [] []))) [(.t 38), (.t 39)], none⟩,
 ⟨some 36, .mov (.t 40), none⟩,
 ⟨some 41, .extract 0 (.t 36), none⟩,
 ⟨some 42, .extract 1 (.t 36), none⟩,
 ⟨some 10, .mov (.t 41), none⟩,
 ⟨some 11, .mov (.t 42), none⟩]
def x28 : List SOper := [
 ⟨some 43, .mov (.t 11), none⟩,
 ⟨some 44, .not (.t 43), none⟩]
def xgv : List SOper := [
 ⟨some 45, .build [.nilsl, (.int .i64 0), .nilsl] [], none⟩,
 ⟨none, .store (some 3) (.t 2) (.t 45), none⟩,
 ⟨some 3, .mov (.k (.d (.int .i64 4))), none⟩]
def xgw : List SOper := [
 ⟨some 46, .mov (.t 10), none⟩,
 ⟨some 47, .faddr 2 (.t 6), none⟩,
 ⟨none, .store none (.t 47) (.t 46), none⟩]
def xgx : List SOper := [
 ⟨some 23, .mov (.t 7), none⟩,
 ⟨some 24, .bin .add (.t 23) (.k (.d (.int .i64 1))), none⟩,
 ⟨some 7, .mov (.t 24), none⟩]
def q19 : SCode := (.seq (.seq (.region x23 0 []) (.cond (.t 22) .skip (.exit 0))) (.seq (.block 1 (.seq (.region x24 0 []) (.seq (.seq (.region x25 0 []) (.cond (.t 34) (.seq (.region x26 0 []) .ret) .skip)) (.seq (.region x27 0 []) (.seq (.seq (.region x28 0 []) (.cond (.t 44) (.seq (.region xgv 0 []) .ret) .skip)) (.region xgw 0 [])))))) (.region xgx 0 [])))
theorem x29 : qg q19.eq_1 := qh q19.eq_1
def xgy : List SOper := [
 ⟨some 48, .load (some 3) (.t 6), none⟩,
 ⟨none, .store (some 3) (.t 2) (.t 48), none⟩,
 ⟨some 3, .mov (.k (.d (.int .i64 0))), none⟩]
def s19 : SCode := (.seq (.region x2z 1 []) (.seq (.region x20 1 []) (.seq (.region x21 1 []) (.seq (.seq (.region x22 0 []) (.block 0 (.loop q19))) (.seq (.region xgy 0 []) .ret)))))
theorem e19 : qg s19.eq_1 := qh s19.eq_1
theorem zdv : qa x2z.eq_1 := qc
theorem zdw : qa x20.eq_1 := qc
theorem zdx : qa x21.eq_1 := qc
theorem zdy : qa x22.eq_1 := qc
theorem zdz : qa x23.eq_1 := qc
theorem zd0 : qa x24.eq_1 := qc
theorem zd1 : qa x25.eq_1 := qc
theorem zd2 : qa x26.eq_1 := qc
theorem zd3 : qa x27.eq_1 := qc
theorem zd4 : qa x28.eq_1 := qc
theorem x3a : qa xgv.eq_1 := qc
theorem x3b : qa xgw.eq_1 := qc
theorem x3c : qa xgx.eq_1 := qc
theorem x3d : qa xgy.eq_1 := qc
attribute [go_sem] zdv zdw zdx zdy zdz zd0 zd1 zd2 zd3 zd4 x3a x3b x3c x29 x3d e19
theorem F19 : FnIs Tryz.prog 19 Tryz.f19 [] news s19 [.cell 2 (some 3), .tmp 3] 49 := zc follows Tryz.func19
def x3e : List SOper := [
 ⟨some 4, .mov (.k (.d (.bool false))), none⟩]
def x3f : List SOper := [
 ⟨some 6, .mov (.t 0), none⟩,
 ⟨some 7, .len (.t 6), none⟩,
 ⟨some 8, .mov (.t 1), none⟩,
 ⟨some 9, .len (.t 8), none⟩,
 ⟨some 10, .bin .neq (.t 7) (.t 9), none⟩]
def x3g : List SOper := [
 ⟨some 4, .mov (.k (.d (.bool false))), none⟩]
def x3h : List SOper := [
 ⟨some 5, .mov (.k (.d (.int .i64 0))), none⟩]
def x3i : List SOper := [
 ⟨some 11, .mov (.t 5), none⟩,
 ⟨some 12, .mov (.t 0), none⟩,
 ⟨some 13, .len (.t 12), none⟩,
 ⟨some 14, .bin .lss (.t 11) (.t 13), none⟩]
def x3j : List SOper := [
 ⟨some 17, .mov (.t 0), none⟩,
 ⟨some 18, .mov (.t 5), none⟩,
 ⟨some 19, .iaddr 2 (.t 17) (.t 18), none⟩,
 ⟨some 20, .faddr 0 (.t 19), none⟩,
 ⟨some 21, .load none (.t 20), none⟩,
 ⟨some 22, .mov (.t 1), none⟩,
 ⟨some 23, .mov (.t 5), none⟩,
 ⟨some 24, .iaddr 2 (.t 22) (.t 23), none⟩,
 ⟨some 25, .faddr 0 (.t 24), none⟩,
 ⟨some 26, .load none (.t 25), none⟩,
 ⟨some 27, .bin .neq (.t 21) (.t 26), none⟩,
 ⟨some 28, .mov (.t 27), none⟩,
 ⟨some 29, .mov (.t 0), some (28, false)⟩,
 ⟨some 30, .mov (.t 5), some (28, false)⟩,
 ⟨some 31, .iaddr 2 (.t 29) (.t 30), some (28, false)⟩,
 ⟨some 32, .faddr 1 (.t 31), some (28, false)⟩,
 ⟨some 33, .load none (.t 32), some (28, false)⟩,
 ⟨some 34, .b2s (.t 33), some (28, false)⟩,
 ⟨some 35, .mov (.t 1), some (28, false)⟩,
 ⟨some 36, .mov (.t 5), some (28, false)⟩,
 ⟨some 37, .iaddr 2 (.t 35) (.t 36), some (28, false)⟩,
 ⟨some 38, .faddr 1 (.t 37), some (28, false)⟩,
 ⟨some 39, .load none (.t 38), some (28, false)⟩,
 ⟨some 40, .b2s (.t 39), some (28, false)⟩,
 ⟨some 41, .bin .neq (.t 34) (.t 40), some (28, false)⟩,
 ⟨some 42, .pick (.t 28) (.k (.d (.bool true))) (.t 41), none⟩]
def x3k : List SOper := [
 ⟨some 4, .mov (.k (.d (.bool false))), none⟩]
def x3l : List SOper := [
 ⟨some 15, .mov (.t 5), none⟩,
 ⟨some 16, .bin .add (.t 15) (.k (.d (.int .i64 1))), none⟩,
 ⟨some 5, .mov (.t 16), none⟩]
def xkk : SCode := (.seq (.seq (.region x3i 0 []) (.cond (.t 14) .skip (.exit 0))) (.seq (.block 1 (.seq (.region x3j 0 []) (.cond (.t 42) (.seq (.region x3k 0 []) .ret) .skip))) (.region x3l 0 [])))
theorem zd5 : qg xkk.eq_1 := qh xkk.eq_1
def x3m : List SOper := [
 ⟨some 4, .mov (.k (.d (.bool true))), none⟩]
def s20 : SCode := (.seq (.region x3e 0 []) (.seq (.seq (.region x3f 0 []) (.cond (.t 10) (.seq (.region x3g 0 []) .ret) .skip)) (.seq (.seq (.region x3h 0 []) (.block 0 (.loop xkk))) (.seq (.region x3m 0 []) .ret))))
theorem e20 : qg s20.eq_1 := qh s20.eq_1
theorem zd6 : qa x3e.eq_1 := qc
theorem zd7 : qa x3f.eq_1 := qc
theorem zd8 : qa x3g.eq_1 := qc
theorem zd9 : qa x3h.eq_1 := qc
theorem zea : qa x3i.eq_1 := qc
theorem zeb : qa x3j.eq_1 := qc
theorem zec : qa x3k.eq_1 := qc
theorem zed : qa x3l.eq_1 := qc
theorem zee : qa x3m.eq_1 := qc
attribute [go_sem] zd6 zd7 zd8 zd9 zea zeb zec zed zd5 zee e20
theorem F20 : FnIs Tryz.prog 20 Tryz.f20 [] news s20 [.tmp 4] 43 := zc follows Tryz.func20
end
def v6 (file : List UInt8) (synced : Int) (m : List En) : List D := [.sl 1 (qd file), .int .i64 synced, .sl 2 (m.map qn)]
theorem qsw (file : List UInt8) (synced : Int) (m : List En) : D.noPtrL (v6 file synced m) = true := by simp only [v6, D.noPtrL, D.noPtr, jb, qat, Bool.and_self]
attribute [go_sem] qsw
def qbq (file : List UInt8) : List D := match qa5 [] (jd file) with
 | some m => v6 (file.take (wi file)) (wi file : Nat) m
 | none => [.nilsl, .int .i64 0, .nilsl]
def qbr (file : List UInt8) : Int := match qa5 [] (jd file) with
 | some m => 0
 | none => 4
def qt9 (file : List UInt8) (i : Nat) (m : List En) : St :=
 ⟨[(2, true, .d (.ptr 0 0)), (5, true, .d (.sl 1 (kw (jd file)))), (6, true, .d (.ptr 2 0)), (7, true, .d (.int .i64 (i : Nat)))], [.row [.d .nilsl, .d (.int .i64 0), .d .nilsl], .row [.d (.sl 1 (qd (file.take (wi file)))), .d (.int .i64 (wi file : Nat))], .row [.d (.sl 1 (qd (file.take (wi file)))), .d (.int .i64 (wi file : Nat)), .d (.sl 2 (m.map qn))]], [], 1⟩
set_option maxRecDepth 10000 in
theorem qjx (file : List UInt8) (hb : file.length ≤ 1000000000) : qo Tryz.prog 19 [.d (.sl 1 (qd file))] [] (.tup [.d (.agg (qbq file)), .d (.int .i64 (qbr file))]) [] := by
 have hln := qp1 file
 refine F19.goT ?_
 try (refine ev ?_; try exact True.intro)
 (repeat (with_reducible refine ob ?_)); first | refine cl F60 (qtw file hb) ?_ | refine clF F60 (qtw file hb) (fun _ => by (refine ev3 @qk.eq_1 @qn.eq_1 @qj.eq_1 ?_; try exact True.intro)) ?_
 try (refine ev1 @zt.eq_1 ?_; try exact True.intro)
 refine xc (fun x : { x : Nat × List En // x.1 ≤ (jd file).length ∧ x.2.length ≤ 400 ∧ qa5 x.2 ((jd file).drop x.1) = qa5 [] (jd file) } => qt9 file x.val.1 x.val.2) (fun x => (jd file).length - x.val.1) ⟨(0, []), Nat.zero_le _, by simp, by simp⟩ ?_ (fun x => ?_)
 ·try (refine ev3 @qt9.eq_1 @Int.ofNat_zero @List.map_nil.{0,0} ?_; try exact True.intro)
 obtain ⟨⟨i, m⟩, hi, hm, hx⟩ := x
 simp only at hi hm hx
 try (refine ev1 @qt9.eq_1 ?_; try exact True.intro)
 refine zk _ (fun hc => ?_) (fun hc => ?_)
 ·have hil : i < (jd file).length := by simpa using hc
  have hr := qec file _ (List.getElem_mem hil)
  rw [List.drop_eq_getElem_cons hil, qa5] at hx
  try simp only [qhd _ hil, go_sem, Nat.reduceAdd, Nat.reduceMul, Nat.reduceSub, Nat.reduceEqDiff, Nat.reduceLT, Nat.reduceLeDiff, Nat.reduceBEq, reduceIte, reduceCtorEq, Int.reduceAdd, Int.reduceLT, Int.reduceLE, Int.reduceGT, Int.reduceGE, Int.reduceEq, Int.reduceNe, Int.reduceBEq, Int.reduceBNe, Int.reduceToNat, Int.reduceNeg]
  (repeat (with_reducible refine ob ?_))
  (repeat (with_reducible refine ob ?_)); first | refine cl F61 (qhc (jd file)[i] (by omega)) ?_ | refine clF F61 (qhc (jd file)[i] (by omega)) (fun _ => by (refine ev3 @qk.eq_1 @qn.eq_1 @qj.eq_1 ?_; try exact True.intro)) ?_
  try (refine ev ?_; try exact True.intro)
  refine zk _ (fun he => ?_) (fun he => ?_)
  ·rw [if_pos (by simpa using he)] at hx
   have hV : qbq file = [.nilsl, .int .i64 0, .nilsl] := by rw [qbq, ← hx]
   have hE : qbr file = 4 := by rw [qbr, ← hx]
   try (refine ev2 @hV @hE ?_; try exact True.intro)
  ·rw [if_neg (by simpa using he)] at hx
   obtain ⟨g1, g2⟩ := qc4 (b := (jd file)[i]) (by omega) (by simpa using he)
   try (refine ev ?_; try exact True.intro)
   (repeat (with_reducible refine ob ?_)); first | refine cl F62 (qfs m (xx (jd file)[i]).1 hm (by omega) (fun o ho => by have := (jg.1 (g2 o ho)).2.2.1; omega)) ?_ | refine clF F62 (qfs m (xx (jd file)[i]).1 hm (by omega) (fun o ho => by have := (jg.1 (g2 o ho)).2.2.1; omega)) (fun _ => by (refine ev3 @qk.eq_1 @qn.eq_1 @qj.eq_1 ?_; try exact True.intro)) ?_
   try (refine ev ?_; try exact True.intro)
   refine zk _ (fun ha => ?_) (fun ha => ?_)
   ·rw [if_pos (by simpa using ha)] at hx
    have hV : qbq file = [.nilsl, .int .i64 0, .nilsl] := by rw [qbq, ← hx]
    have hE : qbr file = 4 := by rw [qbr, ← hx]
    try (refine ev2 @hV @hE ?_; try exact True.intro)
   ·rw [if_neg (by simpa using ha)] at hx
    have hl4 := qgn (xx (jd file)[i]).1 m hm (by simpa using ha)
    try (refine ev ?_; try exact True.intro)
    refine ⟨⟨(i + 1, (jx m (xx (jd file)[i]).1).1), hil, hl4, hx⟩, ?_, by dsimp only; omega⟩
    try (refine ev2 @qt9.eq_1 (qt (show i < 9223372036854775807 by omega)) ?_; try exact True.intro)
 ·have hie : i = (jd file).length := by
   have : (jd file).length ≤ i := by simpa using hc
   omega
  subst hie
  rw [List.drop_length, qa5] at hx
  have hV : qbq file = v6 (file.take (wi file)) (wi file : Nat) m := by rw [qbq, ← hx]
  have hE : qbr file = 0 := by rw [qbr, ← hx]
  try (refine ev3 @hV @hE @v6.eq_1 ?_; try exact True.intro)
def qnl (a b : List En) (i : Nat) : St :=
 ⟨[(0, true, .d (.sl 2 (a.map qn))), (1, true, .d (.sl 2 (b.map qn))), (5, true, .d (.int .i64 (i : Nat)))], [], [], 1⟩
set_option maxRecDepth 10000 in
theorem qjy (a b : List En) (ha : a.length ≤ 100000) (hb : b.length ≤ 100000) : qo Tryz.prog 20 [.d (.sl 2 (a.map qn)), .d (.sl 2 (b.map qn))] [] (.d (.bool (a == b))) [] := by
 refine F20.go ?_
 try (refine ev ?_; try exact True.intro)
 refine zk _ (fun hc => ?_) (fun hc => ?_)
 ·have hf : (a == b) = false := by
   rw [beq_eq_false_iff_ne]
   rintro rfl
   simp at hc
  try (refine ev1 @hf ?_; try exact True.intro)
 have hab : a.length = b.length := by simp at hc; omega
 try (refine ev ?_; try exact True.intro)
 refine xc (fun i : { i : Nat // i ≤ a.length ∧ a.take i = b.take i } => qnl a b i.val) (fun i => a.length - i.val) ⟨0, Nat.zero_le _, rfl⟩ ?_ (fun i => ?_)
 ·try (refine ev2 @qnl.eq_1 @Int.ofNat_zero ?_; try exact True.intro)
 obtain ⟨i, hi, ht⟩ := i
 try (refine ev1 @qnl.eq_1 ?_; try exact True.intro)
 refine zk _ (fun hc => ?_) (fun hc => ?_)
 ·have hil : i < a.length := by simpa using hc
  have hib : i < b.length := by omega
  try (refine ev3 (xi qn a hil) (xi qn b hib) @qn.eq_1 ?_; try exact True.intro)
  refine ⟨by omega, by omega, fun h => ⟨h, h, by omega⟩, fun h => ⟨h, h, by omega⟩, fun h => by simpa using h, ?_⟩
  refine zk _ (fun hd => ?_) (fun hd => ?_)
  ·have hf : (a == b) = false := by
    rw [beq_eq_false_iff_ne]
    rintro rfl
    simp at hd
   try (refine ev1 @hf ?_; try exact True.intro)
  ·have hab2 : a[i] = b[i] := by
    simp only [Bool.or_eq_false_iff, Bool.not_eq_false', beq_iff_eq] at hd
    exact Prod.ext hd.1 (by first | exact hd.2 | simpa using hd.2)
   try (refine ev ?_; try exact True.intro)
   refine ⟨⟨i + 1, hil, by rw [List.take_succ_eq_append_getElem hil, List.take_succ_eq_append_getElem hib, ht, hab2]⟩, ?_, by dsimp only; omega⟩
   try (refine ev2 @qnl.eq_1 (qt (show i < 9223372036854775807 by omega)) ?_; try exact True.intro)
 ·have hie : i = a.length := by
   have : a.length ≤ i := by simpa using hc
   omega
  have : a = b := by
   have h1 : a.take i = a := by rw [hie, List.take_length]
   have h2 : b.take i = b := by rw [hie, hab, List.take_length]
   rw [h1, h2] at ht
   exact ht
  have hf : (a == b) = true := by rw [this]; exact beq_self_eq_true b
  try (refine ev1 @hf ?_; try exact True.intro)
noncomputable section
set_option maxRecDepth 100000
def s4r0 : List SOper := [
 ⟨some 2, .mov (.k (.d (.bool false))), none⟩]
def s4r1 : List SOper := [
 ⟨some 7, .call (.k (.d (.func (.func 17) [] []))) [], none⟩,
 ⟨some 8, .not (.t 7), none⟩]
def s4r2 : List SOper := [
 ⟨some 2, .mov (.k (.d (.bool false))), none⟩]
def s4r3 : List SOper := [
 ⟨some 9, .mov (.t 0), none⟩,
 ⟨some 10, .len (.t 9), none⟩,
 ⟨some 11, .bin .gtr (.t 10) (.k (.d (.int .i64 3000))), none⟩]
def s4r4 : List SOper := [
 ⟨some 2, .mov (.k (.d (.bool true))), none⟩]
def s4r5 : List SOper := [
 ⟨some 13, .mov (.t 0), none⟩,
 ⟨some 14, .call (.k (.d (.func (.func 18) [] []))) [(.t 13)], none⟩,
 ⟨some 12, .mov (.t 14), none⟩,
 ⟨some 15, .extract 0 (.t 12), none⟩,
 ⟨some 16, .extract 1 (.t 12), none⟩,
 ⟨some 3, .mov (.t 15), none⟩,
 ⟨some 4, .mov (.t 16), none⟩]
def s4r6 : List SOper := [
 ⟨some 18, .mov (.t 0), none⟩,
 ⟨some 19, .call (.k (.d (.func (.func 19) [] []))) [(.t 18)], none⟩,
 ⟨some 17, .mov (.t 19), none⟩,
 ⟨some 20, .extract 0 (.t 17), none⟩,
 ⟨some 21, .extract 1 (.t 17), none⟩,
 ⟨some 5, .alloc 1 [(.d .nilsl), (.d (.int .i64 0)), (.d .nilsl)], none⟩,
 ⟨none, .store (some 3) (.t 5) (.t 20), none⟩,
 ⟨some 6, .mov (.t 21), none⟩]
def s4r7 : List SOper := [
 ⟨some 22, .mov (.t 4), none⟩,
 ⟨some 23, .mov (.t 6), none⟩,
 ⟨some 24, .bin .neq (.t 22) (.t 23), none⟩]
def s4r8 : List SOper := [
 ⟨some 2, .mov (.k (.d (.bool false))), none⟩]
def s4r9 : List SOper := [
 ⟨some 25, .mov (.t 4), none⟩,
 ⟨some 26, .bin .neq (.t 25) (.k (.d (.int .i64 0))), none⟩]
def x3n : List SOper := [
 ⟨some 27, .mov (.t 3), none⟩,
 ⟨some 28, .eqnil false .ptr (.t 27), none⟩,
 ⟨some 2, .mov (.t 28), none⟩]
def x3o : List SOper := [
 ⟨some 29, .mov (.t 3), none⟩,
 ⟨some 30, .call (.k (.d (.func (.func 21) [] []))) [(.t 29), (.k (.d (.str [])))], none⟩,
 ⟨some 31, .faddr 2 (.t 5), none⟩,
 ⟨some 32, .load none (.t 31), none⟩,
 ⟨some 33, .call (.k (.d (.func (.func 20) [] []))) [(.t 30), (.t 32)], none⟩,
 ⟨some 34, .mov (.t 33), none⟩,
 ⟨some 35, .mov (.t 3), some (34, true)⟩,
 ⟨some 36, .call (.k (.d (.func (.func 22) [] []))) [(.t 35)], some (34, true)⟩,
 ⟨some 37, .field none 0 (.t 36), some (34, true)⟩,
 ⟨some 38, .b2s (.t 37), some (34, true)⟩,
 ⟨some 39, .faddr 0 (.t 5), some (34, true)⟩,
 ⟨some 40, .faddr 0 (.t 39), some (34, true)⟩,
 ⟨some 41, .load none (.t 40), some (34, true)⟩,
 ⟨some 42, .b2s (.t 41), some (34, true)⟩,
 ⟨some 43, .bin .eql (.t 38) (.t 42), some (34, true)⟩,
 ⟨some 44, .pick (.t 34) (.t 43) (.k (.d (.bool false))), none⟩,
 ⟨some 45, .mov (.t 44), none⟩,
 ⟨some 46, .mov (.t 3), some (45, true)⟩,
 ⟨some 47, .call (.k (.d (.func (.func 22) [] []))) [(.t 46)], some (45, true)⟩,
 ⟨some 48, .field none 1 (.t 47), some (45, true)⟩,
 ⟨some 49, .faddr 0 (.t 5), some (45, true)⟩,
 ⟨some 50, .faddr 1 (.t 49), some (45, true)⟩,
 ⟨some 51, .load none (.t 50), some (45, true)⟩,
 ⟨some 52, .bin .eql (.t 48) (.t 51), some (45, true)⟩,
 ⟨some 53, .pick (.t 45) (.t 52) (.k (.d (.bool false))), none⟩,
 ⟨some 2, .mov (.t 53), none⟩]
def s4 : SCode := (.seq (.region s4r0 0 []) (.seq (.seq (.region s4r1 0 []) (.cond (.t 8) (.seq (.region s4r2 0 []) .ret) .skip)) (.seq (.seq (.region s4r3 0 []) (.cond (.t 11) (.seq (.region s4r4 0 []) .ret) .skip)) (.seq (.region s4r5 2 []) (.seq (.region s4r6 1 []) (.seq (.seq (.region s4r7 0 []) (.cond (.t 24) (.seq (.region s4r8 0 []) .ret) .skip)) (.seq (.seq (.region s4r9 0 []) (.cond (.t 26) (.seq (.region x3n 0 []) .ret) .skip)) (.seq (.region x3o 0 [(1, 3), (7, 12), (7, 13), (18, 22)]) .ret))))))))
theorem e4 : qg s4.eq_1 := qh s4.eq_1
theorem zi5 : qa s4r0.eq_1 := qc
theorem zi6 : qa s4r1.eq_1 := qc
theorem zi7 : qa s4r2.eq_1 := qc
theorem zi8 : qa s4r3.eq_1 := qc
theorem zi9 : qa s4r4.eq_1 := qc
theorem zja : qa s4r5.eq_1 := qc
theorem zjb : qa s4r6.eq_1 := qc
theorem zjc : qa s4r7.eq_1 := qc
theorem zjd : qa s4r8.eq_1 := qc
theorem zje : qa s4r9.eq_1 := qc
theorem zef : qa x3n.eq_1 := qc
theorem zeg : qa x3o.eq_1 := qc
attribute [go_sem] zi5 zi6 zi7 zi8 zi9 zja zjb zjc zjd zje zef zeg e4
end
end Go.Proofs.YtinnaedmdoengaaGreat
namespace Go.Proofs.YtinnaedmdoengaaGreat
open Go.Abs
set_option linter.unusedSimpArgs false
set_option linter.unusedVariables false
noncomputable section
set_option maxRecDepth 100000
def x3p : List SOper := [
 ⟨some 1, .box 2 (.t 0), none⟩,
 ⟨some 2, .alloc 1 [(.d .nilsl), (.d (.int .i64 0)), (.d .nilsl)], none⟩]
def x3q : List SOper := [
 ⟨some 3, .faddr 0 (.t 1), none⟩,
 ⟨some 4, .faddr 0 (.t 3), none⟩,
 ⟨some 5, .load none (.t 4), none⟩,
 ⟨some 6, .len (.t 5), none⟩,
 ⟨some 7, .faddr 0 (.t 1), none⟩,
 ⟨some 8, .faddr 1 (.t 7), none⟩,
 ⟨none, .store none (.t 8) (.t 6), none⟩]
def x3r : List SOper := [
 ⟨some 9, .load (some 3) (.t 1), none⟩,
 ⟨none, .store (some 3) (.t 2) (.t 9), none⟩]
def s64 : SCode := (.seq (.region x3p 2 []) (.seq (.region x3q 0 []) (.seq (.region x3r 0 []) .ret)))
theorem e64 : qg s64.eq_1 := qh s64.eq_1
theorem zeh : qa x3p.eq_1 := qc
theorem zei : qa x3q.eq_1 := qc
theorem zej : qa x3r.eq_1 := qc
attribute [go_sem] zeh zei zej e64
theorem F64 : FnIs Tryz.prog 64 Tryz.f64 [] news s64 [.cell 2 (some 3)] 10 := zc follows Tryz.func64
def x3s : List SOper := [
 ⟨some 2, .box 1 (.t 0), none⟩,
 ⟨some 4, .mov (.k (.d .nilsl)), none⟩,
 ⟨some 5, .mov (.k (.d (.bool false))), none⟩]
def x3t : List SOper := [
 ⟨some 6, .mov (.k (.d (.int .i64 0))), none⟩]
def x3u : List SOper := [
 ⟨some 7, .mov (.t 6), none⟩,
 ⟨some 8, .faddr 2 (.t 2), none⟩,
 ⟨some 9, .load none (.t 8), none⟩,
 ⟨some 10, .len (.t 9), none⟩,
 ⟨some 11, .bin .lss (.t 7) (.t 10), none⟩]
def x3v : List SOper := [
 ⟨some 14, .faddr 2 (.t 2), none⟩,
 ⟨some 15, .load none (.t 14), none⟩,
 ⟨some 16, .mov (.t 6), none⟩,
 ⟨some 17, .iaddr 2 (.t 15) (.t 16), none⟩,
 ⟨some 18, .faddr 0 (.t 17), none⟩,
 ⟨some 19, .load none (.t 18), none⟩,
 ⟨some 20, .mov (.t 1), none⟩,
 ⟨some 21, .bin .eql (.t 19) (.t 20), none⟩]
def x3w : List SOper := [
 ⟨some 22, .faddr 2 (.t 2), none⟩,
 ⟨some 23, .load none (.t 22), none⟩,
 ⟨some 24, .mov (.t 6), none⟩,
 ⟨some 25, .iaddr 2 (.t 23) (.t 24), none⟩,
 ⟨some 26, .faddr 1 (.t 25), none⟩,
 ⟨some 27, .load none (.t 26), none⟩,
 ⟨some 4, .mov (.t 27), none⟩,
 ⟨some 5, .mov (.k (.d (.bool true))), none⟩]
def x3x : List SOper := [
 ⟨some 12, .mov (.t 6), none⟩,
 ⟨some 13, .bin .add (.t 12) (.k (.d (.int .i64 1))), none⟩,
 ⟨some 6, .mov (.t 13), none⟩]
def xkl : SCode := (.seq (.seq (.region x3u 0 []) (.cond (.t 11) .skip (.exit 0))) (.seq (.block 1 (.seq (.region x3v 0 []) (.cond (.t 21) (.seq (.region x3w 0 []) .ret) .skip))) (.region x3x 0 [])))
theorem zek : qg xkl.eq_1 := qh xkl.eq_1
def x3y : List SOper := [
 ⟨some 4, .mov (.k (.d .nilsl)), none⟩,
 ⟨some 5, .mov (.k (.d (.bool false))), none⟩]
def s27 : SCode := (.seq (.region x3s 1 []) (.seq (.seq (.region x3t 0 []) (.block 0 (.loop xkl))) (.seq (.region x3y 0 []) .ret)))
theorem e27 : qg s27.eq_1 := qh s27.eq_1
theorem zel : qa x3s.eq_1 := qc
theorem zem : qa x3t.eq_1 := qc
theorem zen : qa x3u.eq_1 := qc
theorem zeo : qa x3v.eq_1 := qc
theorem zep : qa x3w.eq_1 := qc
theorem zeq : qa x3x.eq_1 := qc
theorem zer : qa x3y.eq_1 := qc
attribute [go_sem] zel zem zen zeo zep zeq zek zer e27
theorem F27 : FnIs Tryz.prog 27 Tryz.f27 [] news s27 [.tmp 4, .tmp 5] 28 := zc follows Tryz.func27
def x3z : List SOper := [
 ⟨some 2, .box 1 (.t 0), none⟩,
 ⟨some 4, .mov (.k (.d .nilsl)), none⟩]
def x30 : List SOper := [
 ⟨some 5, .mov (.k (.d .nilsl)), none⟩]
def x31 : List SOper := [
 ⟨some 6, .mov (.k (.d (.int .i64 0))), none⟩]
def x32 : List SOper := [
 ⟨some 8, .mov (.t 6), none⟩,
 ⟨some 9, .faddr 2 (.t 2), none⟩,
 ⟨some 10, .load none (.t 9), none⟩,
 ⟨some 11, .len (.t 10), none⟩,
 ⟨some 12, .bin .lss (.t 8) (.t 11), none⟩]
def x33 : List SOper := [
 ⟨some 15, .faddr 2 (.t 2), none⟩,
 ⟨some 16, .load none (.t 15), none⟩,
 ⟨some 17, .mov (.t 6), none⟩,
 ⟨some 18, .iaddr 2 (.t 16) (.t 17), none⟩,
 ⟨some 19, .faddr 0 (.t 18), none⟩,
 ⟨some 20, .load none (.t 19), none⟩,
 ⟨some 7, .mov (.t 20), none⟩]
def x34 : List SOper := [
 ⟨some 21, .mov (.t 7), none⟩,
 ⟨some 22, .lenS (.t 21), none⟩,
 ⟨some 23, .mov (.t 1), none⟩,
 ⟨some 24, .lenS (.t 23), none⟩,
 ⟨some 25, .bin .geq (.t 22) (.t 24), none⟩,
 ⟨some 26, .mov (.t 25), none⟩,
 ⟨some 27, .mov (.t 7), some (26, true)⟩,
 ⟨some 28, .mov (.t 1), some (26, true)⟩,
 ⟨some 29, .lenS (.t 28), some (26, true)⟩,
 ⟨some 30, .sliceS (.t 27) none (some (.t 29)), some (26, true)⟩,
 ⟨some 31, .mov (.t 1), some (26, true)⟩,
 ⟨some 32, .bin .eql (.t 30) (.t 31), some (26, true)⟩,
 ⟨some 33, .pick (.t 26) (.t 32) (.k (.d (.bool false))), none⟩]
def x35 : List SOper := [
 ⟨some 34, .mov (.t 5), none⟩,
 ⟨some 35, .faddr 2 (.t 2), none⟩,
 ⟨some 36, .load none (.t 35), none⟩,
 ⟨some 37, .mov (.t 6), none⟩,
 ⟨some 38, .iaddr 2 (.t 36) (.t 37), none⟩,
 ⟨some 39, .load (some 2) (.t 38), none⟩,
 ⟨some 40, .buildSlice false 2 1 [(.str []), .nilsl] [(0, 2, (.t 39))], none⟩,
 ⟨some 41, .append false 2 40 (.t 34) (.t 40), none⟩,
 ⟨some 5, .mov (.t 41), none⟩]
def x36 : List SOper := [
 ⟨some 13, .mov (.t 6), none⟩,
 ⟨some 14, .bin .add (.t 13) (.k (.d (.int .i64 1))), none⟩,
 ⟨some 6, .mov (.t 14), none⟩]
def xkm : SCode := (.seq (.seq (.region x32 0 []) (.cond (.t 12) .skip (.exit 0))) (.seq (.block 1 (.seq (.region x33 0 []) (.seq (.region x34 0 []) (.cond (.t 33) (.region x35 0 []) .skip)))) (.region x36 0 [])))
theorem zes : qg xkm.eq_1 := qh xkm.eq_1
def x37 : List SOper := [
 ⟨some 42, .mov (.t 5), none⟩,
 ⟨some 4, .mov (.t 42), none⟩]
def s28 : SCode := (.seq (.region x3z 1 []) (.seq (.region x30 0 []) (.seq (.seq (.region x31 0 []) (.block 0 (.loop xkm))) (.seq (.region x37 0 []) .ret))))
theorem e28 : qg s28.eq_1 := qh s28.eq_1
theorem zet : qa x3z.eq_1 := qc
theorem zeu : qa x30.eq_1 := qc
theorem zev : qa x31.eq_1 := qc
theorem zew : qa x32.eq_1 := qc
theorem zex : qa x33.eq_1 := qc
theorem zey : qa x34.eq_1 := qc
theorem zez : qa x35.eq_1 := qc
theorem ze0 : qa x36.eq_1 := qc
theorem ze1 : qa x37.eq_1 := qc
attribute [go_sem] zet zeu zev zew zex zey zez ze0 zes ze1 e28
theorem F28 : FnIs Tryz.prog 28 Tryz.f28 [] news s28 [.tmp 4] 43 := zc follows Tryz.func28
def x38 : List SOper := [
 ⟨some 2, .box 2 (.t 0), none⟩,
 ⟨some 4, .alloc 1 [(.d .nilsl), (.d (.int .i64 0)), (.d .nilsl)], none⟩,
 ⟨some 5, .mov (.k (.d (.int .i64 0))), none⟩]
def x39 : List SOper := [
 ⟨some 13, .mov (.t 1), none⟩,
 ⟨some 14, .call (.k (.d (.func (.func 73) [] []))) [(.t 13)], none⟩,
 ⟨some 12, .mov (.t 14), none⟩,
 ⟨some 15, .extract 0 (.t 12), none⟩,
 ⟨some 16, .extract 1 (.t 12), none⟩,
 ⟨some 6, .mov (.t 15), none⟩,
 ⟨some 7, .mov (.t 16), none⟩]
def x4a : List SOper := [
 ⟨some 17, .mov (.t 7), none⟩,
 ⟨some 18, .bin .neq (.t 17) (.k (.d (.int .i64 0))), none⟩]
def x4b : List SOper := [
 ⟨some 19, .load (some 3) (.t 2), none⟩,
 ⟨some 20, .mov (.t 7), none⟩,
 ⟨none, .store (some 3) (.t 4) (.t 19), none⟩,
 ⟨some 5, .mov (.t 20), none⟩]
def x4c : List SOper := [
 ⟨some 22, .faddr 2 (.t 2), none⟩,
 ⟨some 23, .load none (.t 22), none⟩,
 ⟨some 24, .mov (.t 1), none⟩,
 ⟨some 25, .call (.k (.d (.func (.func 62) [] []))) [(.t 23), (.t 24)], none⟩,
 ⟨some 21, .mov (.t 25), none⟩,
 ⟨some 26, .extract 0 (.t 21), none⟩,
 ⟨some 27, .extract 1 (.t 21), none⟩,
 ⟨some 8, .mov (.t 26), none⟩,
 ⟨some 9, .mov (.t 27), none⟩]
def x4d : List SOper := [
 ⟨some 28, .mov (.t 9), none⟩,
 ⟨some 29, .not (.t 28), none⟩]
def x4e : List SOper := [
 ⟨some 30, .load (some 3) (.t 2), none⟩,
 ⟨none, .store (some 3) (.t 4) (.t 30), none⟩,
 ⟨some 5, .mov (.k (.d (.int .i64 28))), none⟩]
def x4f : List SOper := [
 ⟨some 32, .faddr 0 (.t 2), none⟩,
 ⟨some 33, .load (some 2) (.t 32), none⟩,
 ⟨some 34, .mov (.t 6), none⟩,
 ⟨some 35, .call (.k (.d (.func (.func 74) [] []))) [(.t 33), (.t 34)], none⟩,
 ⟨some 31, .mov (.t 35), none⟩,
 ⟨some 36, .extract 0 (.t 31), none⟩,
 ⟨some 37, .extract 1 (.t 31), none⟩,
 ⟨some 10, .alloc 1 [(.d .nilsl), (.d (.int .i64 0))], none⟩,
 ⟨none, .store (some 2) (.t 10) (.t 36), none⟩,
 ⟨some 11, .mov (.t 37), none⟩]
def x4g : List SOper := [
 ⟨some 38, .load (some 2) (.t 10), none⟩,
 ⟨some 39, .mov (.t 8), none⟩,
 ⟨some 40, .build [.nilsl, (.int .i64 0), .nilsl] [(0, 2, (.t 38)), (2, 1, (.t 39))], none⟩,
 ⟨none, .store (some 3) (.t 4) (.t 40), none⟩,
 ⟨some 5, .mov (.k (.d (.int .i64 0))), none⟩]
def s32 : SCode := (.seq (.region x38 2 []) (.seq (.region x39 0 []) (.seq (.seq (.region x4a 0 []) (.cond (.t 18) (.seq (.region x4b 0 []) .ret) .skip)) (.seq (.region x4c 0 []) (.seq (.seq (.region x4d 0 []) (.cond (.t 29) (.seq (.region x4e 0 []) .ret) .skip)) (.seq (.region x4f 1 []) (.seq (.region x4g 0 []) .ret)))))))
theorem e32 : qg s32.eq_1 := qh s32.eq_1
theorem ze2 : qa x38.eq_1 := qc
theorem ze3 : qa x39.eq_1 := qc
theorem ze4 : qa x4a.eq_1 := qc
theorem ze5 : qa x4b.eq_1 := qc
theorem ze6 : qa x4c.eq_1 := qc
theorem ze7 : qa x4d.eq_1 := qc
theorem ze8 : qa x4e.eq_1 := qc
theorem ze9 : qa x4f.eq_1 := qc
theorem zfa : qa x4g.eq_1 := qc
attribute [go_sem] ze2 ze3 ze4 ze5 ze6 ze7 ze8 ze9 zfa e32
theorem F32 : FnIs Tryz.prog 32 Tryz.f32 [] news s32 [.cell 4 (some 3), .tmp 5] 41 := zc follows Tryz.func32
end
def stR (s : Sto) : List D := v6 s.file s.synced (qy s.m)
theorem qqm (s : Sto) (hf : s.file.length ≤ 1000000000) : qo Tryz.prog 64 [.d (.agg (stR s))] [] (.d (.agg (stR (qfb s)))) [] := by
 refine F64.go ?_
 try (refine ev3 @stR.eq_1 @v6.eq_1 @qfb.eq_1 ?_; try exact True.intro)
theorem xkn {α : Type} {f : α → Bool} {l : List α} {i : Nat} (h : i < l.length) (hn : (l.take i).find? f = none) (hf : f l[i] = true) : l.find? f = some l[i] := by
 have e : l = l.take i ++ (l[i] :: l.drop (i + 1)) := by rw [← List.drop_eq_getElem_cons h, List.take_append_drop]
 generalize l[i] = x at *
 rw [e, List.find?_append, hn, List.find?_cons_of_pos hf]; rfl
theorem q2a {α : Type} {f : α → Bool} {l : List α} {i : Nat} (h : i < l.length) (hn : (l.take i).find? f = none) (hf : f l[i] = false) : (l.take (i + 1)).find? f = none := by
 rw [List.take_succ_eq_append_getElem h, List.find?_append, hn, List.find?_cons_of_neg (by simp [hf])]; rfl
def q5v (f : List UInt8) (y : Int) (m : List En) (k : List UInt8) (i : Nat) : St :=
 ⟨[(1, true, .d (.str k)), (2, true, .d (.ptr 0 0)), (6, true, .d (.int .i64 (i : Nat)))], [.row [.d (.sl 1 (qd f)), .d (.int .i64 y), .d (.sl 2 (m.map qn))]], [], 1⟩
theorem q5w (f : List UInt8) (y : Int) (m : List En) (k : List UInt8) (hm : m.length ≤ 1000000) :
  qo Tryz.prog 27 [.d (.agg (v6 f y m)), .d (.str k)] [] (.tup [.d (.sl 1 (qd (optV (eGet k m)))), .d (.bool (eGet k m).isSome)]) [] := by
 refine F27.goT ?_
 try (refine ev1 @v6.eq_1 ?_; try exact True.intro)
 refine xc (fun i : { i : Nat // i ≤ m.length ∧ (m.take i).find? (fun e => e.1 == k) = none } => q5v f y m k i.val) (fun i => m.length - i.val) ⟨0, Nat.zero_le _, rfl⟩ ?_ (fun i => ?_)
 ·try (refine ev2 @q5v.eq_1 @Int.ofNat_zero ?_; try exact True.intro)
 obtain ⟨i, hi, hn⟩ := i
 try (refine ev1 @q5v.eq_1 ?_; try exact True.intro)
 refine zk _ (fun hc => ?_) (fun hc => ?_)
 ·have hil : i < m.length := by simpa using hc
  try (refine ev2 (xi qn m hil) @qn.eq_1 ?_; try exact True.intro)
  (repeat (with_reducible refine ob ?_))
  refine zk _ (fun hd => ?_) (fun hd => ?_)
  ·have hg : eGet k m = some m[i].2 := by rw [eGet, xkn hil hn (by simpa using hd)]; rfl
   try (refine ev2 (xi qn m hil) @qn.eq_1 ?_; try exact True.intro)
   (repeat (with_reducible refine ob ?_))
   try (refine ev3 @hg @optV.eq_1 @Option.isSome_some.{0} ?_; try exact True.intro)
  ·try (refine ev ?_; try exact True.intro)
   refine ⟨⟨i + 1, hil, q2a hil hn (by simpa using hd)⟩, ?_, by dsimp only; omega⟩
   try (refine ev2 @q5v.eq_1 (qt (show i < 9223372036854775807 by omega)) ?_; try exact True.intro)
 ·have hie : i = m.length := by
   have : m.length ≤ i := by simpa using hc
   omega
  subst hie
  rw [List.take_length] at hn
  have hg : eGet k m = none := by rw [eGet, hn]; rfl
  try (refine ev4 @hg @optV.eq_1 @Option.isSome_none.{0} @qu ?_; try exact True.intro)
theorem qwo (p : List UInt8) (l : List En) {i : Nat} (h : i < l.length) : qhn p (l.take (i + 1)) = if pre p l[i].1 = true then qhn p (l.take i) ++ [l[i]] else qhn p (l.take i) := by
 rw [List.take_succ_eq_append_getElem h, qhn, List.filter_append, qhn]
 by_cases hp : pre p l[i].1 = true <;> simp [hp]
def qqn (f : List UInt8) (y : Int) (m : List En) (p : List UInt8) (i : Nat) : St :=
 ⟨[(1, true, .d (.str p)), (2, true, .d (.ptr 0 0)), (5, true, .own 0 2 ((qhn p (m.take i)).map qn)), (6, true, .d (.int .i64 (i : Nat)))], [.row [.d (.sl 1 (qd f)), .d (.int .i64 y), .d (.sl 2 (m.map qn))]], [0], 1⟩
theorem q2b (f : List UInt8) (y : Int) (m : List En) (p : List UInt8) (hm : m.length ≤ 1000000) (hp : p.length ≤ 1000000) (hk : ∀ e ∈ m, e.1.length ≤ 1000000) :
  qo Tryz.prog 28 [.d (.agg (v6 f y m)), .d (.str p)] [] (.d (.sl 2 ((qhn p m).map qn))) [] := by
 refine F28.go ?_
 try (refine ev1 @v6.eq_1 ?_; try exact True.intro)
 refine xc (fun i : { i : Nat // i ≤ m.length } => qqn f y m p i.val) (fun i => m.length - i.val) ⟨0, Nat.zero_le _⟩ ?_ (fun i => ?_)
 ·try (refine ev6 @qqn.eq_1 @Int.ofNat_zero @List.map_nil.{0,0} @List.take_zero.{0} @qhn.eq_1 @List.filter_nil.{0} ?_; try exact True.intro)
 obtain ⟨i, hi⟩ := i
 try (refine ev1 @qqn.eq_1 ?_; try exact True.intro)
 refine zk _ (fun hc => ?_) (fun hc => ?_)
 ·have hil : i < m.length := by simpa using hc
  have hki := hk _ (List.getElem_mem hil)
  have hsn := qwo p m hil
  have hfl : (qhn p (m.take i)).length ≤ i := by
   have h1 : (qhn p (m.take i)).length ≤ (m.take i).length := List.length_filter_le _ _
   rw [List.length_take] at h1; omega
  try (refine ev2 (xi qn m hil) @qn.eq_1 ?_; try exact True.intro)
  (repeat (with_reducible refine ob ?_))
  try (refine ev ?_; try exact True.intro)
  refine zk _ (fun hd => ?_) (fun hd => ?_)
  ·have hpr : pre p m[i].1 = true := by
    simp only [Bool.and_eq_true, decide_eq_true_eq, beq_iff_eq, Nat.sub_zero] at hd
    simp only [pre, Bool.and_eq_true, decide_eq_true_eq, beq_iff_eq]
    exact ⟨by omega, hd.2⟩
   rw [if_pos hpr] at hsn
   try (refine ev2 (xi qn m hil) @qn.eq_1 ?_; try exact True.intro)
   (repeat (with_reducible refine ob ?_))
   refine ⟨⟨i + 1, hil⟩, ?_, by dsimp only; omega⟩
   try (refine ev7 @qqn.eq_1 @hsn @List.map_append.{0,0} @List.map_cons.{0,0} @List.map_nil.{0,0} @qn.eq_1 (qt (show i < 9223372036854775807 by omega)) ?_; try exact True.intro)
  ·have hpr : ¬ pre p m[i].1 = true := by
    intro h
    simp only [pre, Bool.and_eq_true, decide_eq_true_eq, beq_iff_eq] at h
    simp only [Bool.and_eq_false_iff, decide_eq_false_iff_not, beq_eq_false_iff_ne, Nat.sub_zero] at hd
    rcases hd with hd | hd
    ·exact hd (by omega)
    ·exact hd h.2
   rw [if_neg hpr] at hsn
   try (refine ev ?_; try exact True.intro)
   refine ⟨⟨i + 1, hil⟩, ?_, by dsimp only; omega⟩
   try (refine ev3 @qqn.eq_1 @hsn (qt (show i < 9223372036854775807 by omega)) ?_; try exact True.intro)
 ·have hie : i = m.length := by
   have : m.length ≤ i := by simpa using hc
   omega
  subst hie
  try (refine ev1 @List.take_length.{0} ?_; try exact True.intro)
set_option maxRecDepth 10000 in
theorem qjz (s : Sto) (l : List OpS) (hs : s.m.Good) (hl : l.length ≤ 100000) (hv : ∀ o ∈ l, o.val.length ≤ 1000000) (hc : Chain s.file (jh s.file)) (hf : s.file.length ≤ 100000000) :
  qo Tryz.prog 32 [.d (.agg (stR s)), .d (.sl 3 (l.map qk))] [] (.tup [.d (.agg (stR (xf s l).1)), .d (.int .i64 (xf s l).2)]) [] := by
 obtain ⟨k1, k2⟩ := qbl l hs.ok hs.few
 have hel : (qy s.m).length ≤ 400 := by rw [yn]; exact hs.few
 refine F32.goT ?_
 try (refine ev2 @stR.eq_1 @v6.eq_1 ?_; try exact True.intro)
 (repeat (with_reducible refine ob ?_)); first | refine cl F73 (jc l hl) ?_ | refine clF F73 (jc l hl) (fun _ => by (refine ev3 @qk.eq_1 @qn.eq_1 @qj.eq_1 ?_; try exact True.intro)) ?_
 try (refine ev ?_; try exact True.intro)
 refine zk _ (fun he => ?_) (fun he => ?_)
 ·have h1 : xf s l = (s, (ql l).2) := by rw [xf, if_pos (by simpa using he)]
  try (refine ev1 @h1 ?_; try exact True.intro)
 have he0 : (ql l).2 = 0 := by simpa using he
 try (refine ev ?_; try exact True.intro)
 (repeat (with_reducible refine ob ?_)); first | refine cl F62 (qfs (qy s.m) l hel hl hv) ?_ | refine clF F62 (qfs (qy s.m) l hel hl hv) (fun _ => by (refine ev3 @qk.eq_1 @qn.eq_1 @qj.eq_1 ?_; try exact True.intro)) ?_
 try (refine ev ?_; try exact True.intro)
 refine zk _ (fun ha => ?_) (fun ha => ?_)
 ·have h1 : xf s l = (s, 28) := by rw [xf, if_neg (by simpa using he0), if_pos (by rw [k1]; simpa using ha)]
  try (refine ev1 @h1 ?_; try exact True.intro)
 have ha1 : (jn s.m l).2 = true := by rw [k1]; simpa using ha
 have h1 : xf s l = (⟨jz s.file (ql l).1, s.synced, (jn s.m l).1⟩, 0) := by rw [xf, if_neg (by simpa using he0), if_neg (by simp [ha1])]
 have h2 := (k2 ha1).1
 try (refine ev ?_; try exact True.intro)
 (repeat (with_reducible refine ob ?_)); first | refine cl F74 (qal s.file (ql l).1 s.synced hc hf (x9 l)) ?_ | refine clF F74 (qal s.file (ql l).1 s.synced hc hf (x9 l)) (fun _ => by (refine ev3 @qk.eq_1 @qn.eq_1 @qj.eq_1 ?_; try exact True.intro)) ?_
 try (refine ev3 @h1 @zt.eq_1 @h2 ?_; try exact True.intro)
end Go.Proofs.YtinnaedmdoengaaGreat
