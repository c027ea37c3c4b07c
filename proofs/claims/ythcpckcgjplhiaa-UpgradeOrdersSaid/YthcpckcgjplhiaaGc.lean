/- Package upgrade: copies. -/
import Derived.Test.YthcpckcgjplhiaaGb
namespace Go.Proofs.Ythcpckcgjplhiaa
open Go.Abs
set_option linter.unusedSimpArgs false

section
variable {P : Program} {k0 o : Nat} {p : List (Nat × Nat)} {Q : SExit → St → Prop} {st : St}
noncomputable def s111ur0 : List SOper := [
  ⟨some 2, .mov (.k (.d .nilsl)), none⟩]
noncomputable def s111ur1 : List SOper := [
  ⟨some 3, .mov (.t 0), none⟩,
  ⟨some 4, .eqnilS false (.t 3), none⟩]
noncomputable def s111ur2 : List SOper := [
  ⟨some 2, .mov (.k (.d .nilsl)), none⟩]
noncomputable def s111ur3 : List SOper := [
  ⟨some 5, .buildSlice false 4 0 [(.int .i64 0), (.int .i64 0), .nilsl, .nilsl] [], none⟩,
  ⟨some 6, .mov (.t 0), none⟩,
  ⟨some 7, .append true 4 64 (.t 5) (.t 6), none⟩,
  ⟨some 2, .mov (.t 7), none⟩]
noncomputable def s111u : SCode := (.seq (.region s111ur0 0 []) (.seq (.seq (.region s111ur1 0 []) (.cond (.t 4) (.seq (.region s111ur2 0 []) .ret) .skip)) (.seq (.region s111ur3 0 []) .ret)))
theorem e111u : AWp P k0 s111u Q st = AWp P k0 (.seq (.region s111ur0 0 []) (.seq (.seq (.region s111ur1 0 []) (.cond (.t 4) (.seq (.region s111ur2 0 []) .ret) .skip)) (.seq (.region s111ur3 0 []) .ret))) Q st := rfl
theorem u111ur0 : goReg P s111ur0 o p Q st = goLit P (litOf s111ur0.eq_1) o p Q st := goReg_of _
theorem u111ur1 : goReg P s111ur1 o p Q st = goLit P (litOf s111ur1.eq_1) o p Q st := goReg_of _
theorem u111ur2 : goReg P s111ur2 o p Q st = goLit P (litOf s111ur2.eq_1) o p Q st := goReg_of _
theorem u111ur3 : goReg P s111ur3 o p Q st = goLit P (litOf s111ur3.eq_1) o p Q st := goReg_of _
attribute [go_sem] u111ur0 u111ur1 u111ur2 u111ur3 e111u
set_option maxRecDepth 100000 in
theorem F111u : FnIs Try.prog 111 Try.f111 [7] news s111u [.tmp 2] 8 := ⟨follows, Try.func111, by kernel_rfl, by kernel_rfl, by kernel_rfl, by kernel_rfl⟩

noncomputable def s112ur0 : List SOper := [
  ⟨some 2, .mov (.k (.d .nilsl)), none⟩]
noncomputable def s112ur1 : List SOper := [
  ⟨some 3, .mov (.t 0), none⟩,
  ⟨some 4, .eqnilS false (.t 3), none⟩]
noncomputable def s112ur2 : List SOper := [
  ⟨some 2, .mov (.k (.d .nilsl)), none⟩]
noncomputable def s112ur3 : List SOper := [
  ⟨some 5, .buildSlice false 1 0 [(.bool false)] [], none⟩,
  ⟨some 6, .mov (.t 0), none⟩,
  ⟨some 7, .append true 1 1 (.t 5) (.t 6), none⟩,
  ⟨some 2, .mov (.t 7), none⟩]
noncomputable def s112u : SCode := (.seq (.region s112ur0 0 []) (.seq (.seq (.region s112ur1 0 []) (.cond (.t 4) (.seq (.region s112ur2 0 []) .ret) .skip)) (.seq (.region s112ur3 0 []) .ret)))
theorem e112u : AWp P k0 s112u Q st = AWp P k0 (.seq (.region s112ur0 0 []) (.seq (.seq (.region s112ur1 0 []) (.cond (.t 4) (.seq (.region s112ur2 0 []) .ret) .skip)) (.seq (.region s112ur3 0 []) .ret))) Q st := rfl
theorem u112ur0 : goReg P s112ur0 o p Q st = goLit P (litOf s112ur0.eq_1) o p Q st := goReg_of _
theorem u112ur1 : goReg P s112ur1 o p Q st = goLit P (litOf s112ur1.eq_1) o p Q st := goReg_of _
theorem u112ur2 : goReg P s112ur2 o p Q st = goLit P (litOf s112ur2.eq_1) o p Q st := goReg_of _
theorem u112ur3 : goReg P s112ur3 o p Q st = goLit P (litOf s112ur3.eq_1) o p Q st := goReg_of _
attribute [go_sem] u112ur0 u112ur1 u112ur2 u112ur3 e112u
set_option maxRecDepth 100000 in
theorem F112u : FnIs Try.prog 112 Try.f112 [7] news s112u [.tmp 2] 8 := ⟨follows, Try.func112, by kernel_rfl, by kernel_rfl, by kernel_rfl, by kernel_rfl⟩

noncomputable def s112r0 : List SOper := [
  ⟨some 2, .mov (.k (.d .nilsl)), none⟩]
noncomputable def s112r1 : List SOper := [
  ⟨some 3, .mov (.t 0), none⟩,
  ⟨some 4, .eqnilS false (.t 3), none⟩]
noncomputable def s112r2 : List SOper := [
  ⟨some 2, .mov (.k (.d .nilsl)), none⟩]
noncomputable def s112r3 : List SOper := [
  ⟨some 5, .buildSlice false 1 0 [(.bool false)] [], none⟩,
  ⟨some 6, .mov (.t 0), none⟩,
  ⟨some 7, .append false 1 1 (.t 5) (.t 6), none⟩,
  ⟨some 2, .mov (.t 7), none⟩]
noncomputable def s112 : SCode := (.seq (.region s112r0 0 []) (.seq (.seq (.region s112r1 0 []) (.cond (.t 4) (.seq (.region s112r2 0 []) .ret) .skip)) (.seq (.region s112r3 0 []) .ret)))
theorem e112 : AWp P k0 s112 Q st = AWp P k0 (.seq (.region s112r0 0 []) (.seq (.seq (.region s112r1 0 []) (.cond (.t 4) (.seq (.region s112r2 0 []) .ret) .skip)) (.seq (.region s112r3 0 []) .ret))) Q st := rfl
theorem u112r0 : goReg P s112r0 o p Q st = goLit P (litOf s112r0.eq_1) o p Q st := goReg_of _
theorem u112r1 : goReg P s112r1 o p Q st = goLit P (litOf s112r1.eq_1) o p Q st := goReg_of _
theorem u112r2 : goReg P s112r2 o p Q st = goLit P (litOf s112r2.eq_1) o p Q st := goReg_of _
theorem u112r3 : goReg P s112r3 o p Q st = goLit P (litOf s112r3.eq_1) o p Q st := goReg_of _
attribute [go_sem] u112r0 u112r1 u112r2 u112r3 e112
set_option maxRecDepth 100000 in
theorem F112 : FnIs Try.prog 112 Try.f112 [] news s112 [.tmp 2] 8 := ⟨follows, Try.func112, by kernel_rfl, by kernel_rfl, by kernel_rfl, by kernel_rfl⟩

end

theorem cloneE_ok (l : List En) (hl : l.length ≤ 1000) : ACall Try.prog 111 [.d (.sl 4 (l.map encEn))] [] (.uni 0 4 (l.map encEn)) [] := by
  refine F111u.go ?_
  try (refine ev ?_; try exact True.intro)
  refine nilO_of rfl rfl (fun b hb => ?_)
  try (refine ev ?_; try exact True.intro)
  (repeat (with_reducible refine ob ?_)); refine iff_ _ (fun h => ?_) (fun h => ?_)
  · try simp only [hb h, go_sem, Nat.reduceAdd, Nat.reduceMul, Nat.reduceSub, Nat.reduceEqDiff, Nat.reduceLT, Nat.reduceLeDiff, Nat.reduceBEq, reduceIte, reduceCtorEq, Int.reduceAdd, Int.reduceLT, Int.reduceLE, Int.reduceGT, Int.reduceGE, Int.reduceEq, Int.reduceNe, Int.reduceBEq, Int.reduceBNe, Int.reduceToNat, Int.reduceNeg]
  · try (refine ev ?_; try exact True.intro)
    omega
theorem cloneBu_ok (l : List Bool) (hl : l.length ≤ 1000) : ACall Try.prog 112 [.d (.sl 1 (l.map encB))] [] (.uni 0 1 (l.map encB)) [] := by
  refine F112u.go ?_
  try (refine ev ?_; try exact True.intro)
  refine nilO_of rfl rfl (fun b hb => ?_)
  try (refine ev ?_; try exact True.intro)
  (repeat (with_reducible refine ob ?_)); refine iff_ _ (fun h => ?_) (fun h => ?_)
  · try simp only [hb h, go_sem, Nat.reduceAdd, Nat.reduceMul, Nat.reduceSub, Nat.reduceEqDiff, Nat.reduceLT, Nat.reduceLeDiff, Nat.reduceBEq, reduceIte, reduceCtorEq, Int.reduceAdd, Int.reduceLT, Int.reduceLE, Int.reduceGT, Int.reduceGE, Int.reduceEq, Int.reduceNe, Int.reduceBEq, Int.reduceBNe, Int.reduceToNat, Int.reduceNeg]
  · try (refine ev ?_; try exact True.intro)
    omega
theorem cloneB_ok (l : List Bool) (hl : l.length ≤ 1000) : ACall Try.prog 112 [.d (.sl 1 (l.map encB))] [] (.d (.sl 1 (l.map encB))) [] := by
  refine F112.go ?_
  try (refine ev ?_; try exact True.intro)
  refine nilO_of rfl rfl (fun b hb => ?_)
  try (refine ev ?_; try exact True.intro)
  (repeat (with_reducible refine ob ?_)); refine iff_ _ (fun h => ?_) (fun h => ?_)
  · try simp only [hb h, go_sem, Nat.reduceAdd, Nat.reduceMul, Nat.reduceSub, Nat.reduceEqDiff, Nat.reduceLT, Nat.reduceLeDiff, Nat.reduceBEq, reduceIte, reduceCtorEq, Int.reduceAdd, Int.reduceLT, Int.reduceLE, Int.reduceGT, Int.reduceGE, Int.reduceEq, Int.reduceNe, Int.reduceBEq, Int.reduceBNe, Int.reduceToNat, Int.reduceNeg]
  · try (refine ev ?_; try exact True.intro)
    omega
end Go.Proofs.Ythcpckcgjplhiaa
