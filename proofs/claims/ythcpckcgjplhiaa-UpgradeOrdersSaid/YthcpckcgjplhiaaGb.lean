/- Package upgrade: searches and comparisons. -/
import Derived.Test.YthcpckcgjplhiaaGa
namespace Go.Proofs.Ythcpckcgjplhiaa
open Go.Abs
set_option linter.unusedSimpArgs false

section
variable {P : Program} {k0 o : Nat} {p : List (Nat × Nat)} {Q : SExit → St → Prop} {st : St}
noncomputable def s110r0 : List SOper := [
  ⟨some 2, .box 1 (.t 0), none⟩,
  ⟨some 3, .mov (.k (.d (.bool false))), none⟩]
noncomputable def s110r1 : List SOper := [
  ⟨some 4, .faddr 0 (.t 2), none⟩,
  ⟨some 5, .load none (.t 4), none⟩,
  ⟨some 6, .load none (.t 1), none⟩,
  ⟨some 7, .bin .geq (.t 5) (.t 6), none⟩,
  ⟨some 3, .mov (.t 7), none⟩]
noncomputable def s110 : SCode := (.seq (.region s110r0 1 []) (.seq (.region s110r1 0 []) .ret))
theorem e110 : AWp P k0 s110 Q st = AWp P k0 (.seq (.region s110r0 1 []) (.seq (.region s110r1 0 []) .ret)) Q st := rfl
theorem u110r0 : goReg P s110r0 o p Q st = goLit P (litOf s110r0.eq_1) o p Q st := goReg_of _
theorem u110r1 : goReg P s110r1 o p Q st = goLit P (litOf s110r1.eq_1) o p Q st := goReg_of _
attribute [go_sem] u110r0 u110r1 e110
set_option maxRecDepth 100000 in
theorem F110 : FnIs Try.prog 110 Try.f110 [] news s110 [.tmp 3] 8 := ⟨follows, Try.func110, by kernel_rfl, by kernel_rfl, by kernel_rfl, by kernel_rfl⟩

noncomputable def s84r0 : List SOper := [
  ⟨some 2, .box 1 (.t 0), none⟩,
  ⟨some 3, .mov (.k (.d (.bool false))), none⟩]
noncomputable def s84r1 : List SOper := [
  ⟨some 4, .faddr 0 (.t 2), none⟩,
  ⟨some 5, .load none (.t 4), none⟩,
  ⟨some 6, .load none (.t 1), none⟩,
  ⟨some 7, .bin .eql (.t 5) (.t 6), none⟩,
  ⟨some 3, .mov (.t 7), none⟩]
noncomputable def s84 : SCode := (.seq (.region s84r0 1 []) (.seq (.region s84r1 0 []) .ret))
theorem e84 : AWp P k0 s84 Q st = AWp P k0 (.seq (.region s84r0 1 []) (.seq (.region s84r1 0 []) .ret)) Q st := rfl
theorem u84r0 : goReg P s84r0 o p Q st = goLit P (litOf s84r0.eq_1) o p Q st := goReg_of _
theorem u84r1 : goReg P s84r1 o p Q st = goLit P (litOf s84r1.eq_1) o p Q st := goReg_of _
attribute [go_sem] u84r0 u84r1 e84
set_option maxRecDepth 100000 in
theorem F84 : FnIs Try.prog 84 Try.f84 [] news s84 [.tmp 3] 8 := ⟨follows, Try.func84, by kernel_rfl, by kernel_rfl, by kernel_rfl, by kernel_rfl⟩

noncomputable def s83r0 : List SOper := [
  ⟨some 4, .mov (.k (.d (.int .i64 0))), none⟩]
noncomputable def s83r1 : List SOper := [
  ⟨some 6, .mov (.t 0), none⟩,
  ⟨some 7, .len (.t 6), none⟩,
  ⟨some 8, .mov (.k (.d (.int .i64 0))), none⟩]
noncomputable def s83r2 : List SOper := [
  ⟨some 9, .bin .lss (.t 8) (.t 7), none⟩]
noncomputable def s83r3 : List SOper := [
  ⟨some 10, .mov (.t 8), none⟩,
  ⟨some 5, .mov (.t 10), none⟩]
noncomputable def s83r4 : List SOper := [
  ⟨some 11, .mov (.t 1), none⟩,
  ⟨some 12, .mov (.t 0), none⟩,
  ⟨some 13, .mov (.t 5), none⟩,
  ⟨some 14, .iaddr 4 (.t 12) (.t 13), none⟩,
  ⟨some 15, .load (some 4) (.t 14), none⟩,
  ⟨some 16, .call (.t 11) [(.t 15)], none⟩]
noncomputable def s83r5 : List SOper := [
  ⟨some 17, .mov (.t 5), none⟩,
  ⟨some 4, .mov (.t 17), none⟩]
noncomputable def s83r6 : List SOper := [
  ⟨some 18, .bin .add (.t 8) (.k (.d (.int .i64 1))), none⟩,
  ⟨some 8, .mov (.t 18), none⟩]
noncomputable def s83l7 : SCode := (.seq (.region s83r2 0 []) (.seq (.cond (.t 9) .skip (.exit 0)) (.seq (.block 1 (.seq (.region s83r3 0 []) (.seq (.region s83r4 0 []) (.cond (.t 16) (.seq (.region s83r5 0 []) .ret) .skip)))) (.region s83r6 0 []))))
theorem e83l7 : AWp P k0 s83l7 Q st = AWp P k0 (.seq (.region s83r2 0 []) (.seq (.cond (.t 9) .skip (.exit 0)) (.seq (.block 1 (.seq (.region s83r3 0 []) (.seq (.region s83r4 0 []) (.cond (.t 16) (.seq (.region s83r5 0 []) .ret) .skip)))) (.region s83r6 0 [])))) Q st := rfl
noncomputable def s83r8 : List SOper := [
  ⟨some 4, .mov (.k (.d (.int .i64 (-1)))), none⟩]
noncomputable def s83 : SCode := (.seq (.region s83r0 0 []) (.seq (.seq (.region s83r1 0 []) (.block 0 (.loop s83l7))) (.seq (.region s83r8 0 []) .ret)))
theorem e83 : AWp P k0 s83 Q st = AWp P k0 (.seq (.region s83r0 0 []) (.seq (.seq (.region s83r1 0 []) (.block 0 (.loop s83l7))) (.seq (.region s83r8 0 []) .ret))) Q st := rfl
theorem u83r0 : goReg P s83r0 o p Q st = goLit P (litOf s83r0.eq_1) o p Q st := goReg_of _
theorem u83r1 : goReg P s83r1 o p Q st = goLit P (litOf s83r1.eq_1) o p Q st := goReg_of _
theorem u83r2 : goReg P s83r2 o p Q st = goLit P (litOf s83r2.eq_1) o p Q st := goReg_of _
theorem u83r3 : goReg P s83r3 o p Q st = goLit P (litOf s83r3.eq_1) o p Q st := goReg_of _
theorem u83r4 : goReg P s83r4 o p Q st = goLit P (litOf s83r4.eq_1) o p Q st := goReg_of _
theorem u83r5 : goReg P s83r5 o p Q st = goLit P (litOf s83r5.eq_1) o p Q st := goReg_of _
theorem u83r6 : goReg P s83r6 o p Q st = goLit P (litOf s83r6.eq_1) o p Q st := goReg_of _
theorem u83r8 : goReg P s83r8 o p Q st = goLit P (litOf s83r8.eq_1) o p Q st := goReg_of _
attribute [go_sem] u83r0 u83r1 u83r2 u83r3 u83r4 u83r5 u83r6 e83l7 u83r8 e83
set_option maxRecDepth 100000 in
theorem F83 : FnIs Try.prog 83 Try.f83 [] news s83 [.tmp 4] 19 := ⟨follows, Try.func83, by kernel_rfl, by kernel_rfl, by kernel_rfl, by kernel_rfl⟩

noncomputable def s85r0 : List SOper := [
  ⟨some 2, .box 2 (.t 0), none⟩,
  ⟨some 3, .box 1 (.t 1), none⟩,
  ⟨some 4, .mov (.k (.d (.int .i64 0))), none⟩,
  ⟨some 5, .mov (.k (.d (.bool false))), none⟩]
noncomputable def s85r1 : List SOper := [
  ⟨some 7, .faddr 1 (.t 2), none⟩,
  ⟨some 8, .load none (.t 7), none⟩,
  ⟨some 9, .mkFunc (.func 110) [] [(.t 3)], none⟩,
  ⟨some 10, .call (.k (.d (.func (.func 83) [] []))) [(.t 8), (.t 9)], none⟩,
  ⟨some 6, .mov (.t 10), none⟩]
noncomputable def s85r2 : List SOper := [
  ⟨some 11, .mov (.t 6), none⟩,
  ⟨some 12, .bin .lss (.t 11) (.k (.d (.int .i64 0))), none⟩]
noncomputable def s85r3 : List SOper := [
  ⟨some 13, .faddr 1 (.t 2), none⟩,
  ⟨some 14, .load none (.t 13), none⟩,
  ⟨some 15, .len (.t 14), none⟩,
  ⟨some 4, .mov (.t 15), none⟩,
  ⟨some 5, .mov (.k (.d (.bool false))), none⟩]
noncomputable def s85r4 : List SOper := [
  ⟨some 16, .mov (.t 6), none⟩,
  ⟨some 17, .faddr 1 (.t 2), none⟩,
  ⟨some 18, .load none (.t 17), none⟩,
  ⟨some 19, .mov (.t 6), none⟩,
  ⟨some 20, .iaddr 4 (.t 18) (.t 19), none⟩,
  ⟨some 21, .faddr 0 (.t 20), none⟩,
  ⟨some 22, .load none (.t 21), none⟩,
  ⟨some 23, .load none (.t 3), none⟩,
  ⟨some 24, .bin .eql (.t 22) (.t 23), none⟩,
  ⟨some 4, .mov (.t 16), none⟩,
  ⟨some 5, .mov (.t 24), none⟩]
noncomputable def s85 : SCode := (.seq (.region s85r0 2 []) (.seq (.region s85r1 0 []) (.seq (.seq (.region s85r2 0 []) (.cond (.t 12) (.seq (.region s85r3 0 []) .ret) .skip)) (.seq (.region s85r4 0 []) .ret))))
theorem e85 : AWp P k0 s85 Q st = AWp P k0 (.seq (.region s85r0 2 []) (.seq (.region s85r1 0 []) (.seq (.seq (.region s85r2 0 []) (.cond (.t 12) (.seq (.region s85r3 0 []) .ret) .skip)) (.seq (.region s85r4 0 []) .ret)))) Q st := rfl
theorem u85r0 : goReg P s85r0 o p Q st = goLit P (litOf s85r0.eq_1) o p Q st := goReg_of _
theorem u85r1 : goReg P s85r1 o p Q st = goLit P (litOf s85r1.eq_1) o p Q st := goReg_of _
theorem u85r2 : goReg P s85r2 o p Q st = goLit P (litOf s85r2.eq_1) o p Q st := goReg_of _
theorem u85r3 : goReg P s85r3 o p Q st = goLit P (litOf s85r3.eq_1) o p Q st := goReg_of _
theorem u85r4 : goReg P s85r4 o p Q st = goLit P (litOf s85r4.eq_1) o p Q st := goReg_of _
attribute [go_sem] u85r0 u85r1 u85r2 u85r3 u85r4 e85
set_option maxRecDepth 100000 in
theorem F85 : FnIs Try.prog 85 Try.f85 [] news s85 [.tmp 4, .tmp 5] 25 := ⟨follows, Try.func85, by kernel_rfl, by kernel_rfl, by kernel_rfl, by kernel_rfl⟩

noncomputable def s50r0 : List SOper := [
  ⟨some 2, .box 2 (.t 0), none⟩,
  ⟨some 3, .box 1 (.t 1), none⟩,
  ⟨some 4, .mov (.k (.d (.int .i64 0))), none⟩]
noncomputable def s50r1 : List SOper := [
  ⟨some 6, .faddr 1 (.t 2), none⟩,
  ⟨some 7, .load none (.t 6), none⟩,
  ⟨some 8, .mkFunc (.func 84) [] [(.t 3)], none⟩,
  ⟨some 9, .call (.k (.d (.func (.func 83) [] []))) [(.t 7), (.t 8)], none⟩,
  ⟨some 5, .mov (.t 9), none⟩]
noncomputable def s50r2 : List SOper := [
  ⟨some 10, .mov (.t 5), none⟩,
  ⟨some 11, .bin .lss (.t 10) (.k (.d (.int .i64 0))), none⟩]
noncomputable def s50r3 : List SOper := [
  ⟨some 4, .mov (.k (.d (.int .i64 0))), none⟩]
noncomputable def s50r4 : List SOper := [
  ⟨some 12, .faddr 1 (.t 2), none⟩,
  ⟨some 13, .load none (.t 12), none⟩,
  ⟨some 14, .mov (.t 5), none⟩,
  ⟨some 15, .iaddr 4 (.t 13) (.t 14), none⟩,
  ⟨some 16, .faddr 1 (.t 15), none⟩,
  ⟨some 17, .load none (.t 16), none⟩,
  ⟨some 4, .mov (.t 17), none⟩]
noncomputable def s50 : SCode := (.seq (.region s50r0 2 []) (.seq (.region s50r1 0 []) (.seq (.seq (.region s50r2 0 []) (.cond (.t 11) (.seq (.region s50r3 0 []) .ret) .skip)) (.seq (.region s50r4 0 []) .ret))))
theorem e50 : AWp P k0 s50 Q st = AWp P k0 (.seq (.region s50r0 2 []) (.seq (.region s50r1 0 []) (.seq (.seq (.region s50r2 0 []) (.cond (.t 11) (.seq (.region s50r3 0 []) .ret) .skip)) (.seq (.region s50r4 0 []) .ret)))) Q st := rfl
theorem u50r0 : goReg P s50r0 o p Q st = goLit P (litOf s50r0.eq_1) o p Q st := goReg_of _
theorem u50r1 : goReg P s50r1 o p Q st = goLit P (litOf s50r1.eq_1) o p Q st := goReg_of _
theorem u50r2 : goReg P s50r2 o p Q st = goLit P (litOf s50r2.eq_1) o p Q st := goReg_of _
theorem u50r3 : goReg P s50r3 o p Q st = goLit P (litOf s50r3.eq_1) o p Q st := goReg_of _
theorem u50r4 : goReg P s50r4 o p Q st = goLit P (litOf s50r4.eq_1) o p Q st := goReg_of _
attribute [go_sem] u50r0 u50r1 u50r2 u50r3 u50r4 e50
set_option maxRecDepth 100000 in
theorem F50 : FnIs Try.prog 50 Try.f50 [] news s50 [.tmp 4] 18 := ⟨follows, Try.func50, by kernel_rfl, by kernel_rfl, by kernel_rfl, by kernel_rfl⟩

noncomputable def s118r0 : List SOper := [
  ⟨some 4, .mov (.k (.d (.bool false))), none⟩]
noncomputable def s118r1 : List SOper := [
  ⟨some 6, .mov (.t 0), none⟩,
  ⟨some 7, .len (.t 6), none⟩,
  ⟨some 8, .mov (.t 1), none⟩,
  ⟨some 9, .len (.t 8), none⟩,
  ⟨some 10, .bin .neq (.t 7) (.t 9), none⟩]
noncomputable def s118r2 : List SOper := [
  ⟨some 4, .mov (.k (.d (.bool false))), none⟩]
noncomputable def s118r3 : List SOper := [
  ⟨some 11, .mov (.t 0), none⟩,
  ⟨some 12, .len (.t 11), none⟩,
  ⟨some 13, .mov (.k (.d (.int .i64 0))), none⟩]
noncomputable def s118r4 : List SOper := [
  ⟨some 14, .bin .lss (.t 13) (.t 12), none⟩]
noncomputable def s118r5 : List SOper := [
  ⟨some 15, .mov (.t 13), none⟩,
  ⟨some 5, .mov (.t 15), none⟩]
noncomputable def s118r6 : List SOper := [
  ⟨some 16, .mov (.t 0), none⟩,
  ⟨some 17, .mov (.t 5), none⟩,
  ⟨some 18, .iaddr 1 (.t 16) (.t 17), none⟩,
  ⟨some 19, .load none (.t 18), none⟩,
  ⟨some 20, .mov (.t 1), none⟩,
  ⟨some 21, .mov (.t 5), none⟩,
  ⟨some 22, .iaddr 1 (.t 20) (.t 21), none⟩,
  ⟨some 23, .load none (.t 22), none⟩,
  ⟨some 24, .eqb true (.t 19) (.t 23), none⟩]
noncomputable def s118r7 : List SOper := [
  ⟨some 4, .mov (.k (.d (.bool false))), none⟩]
noncomputable def s118r8 : List SOper := [
  ⟨some 25, .bin .add (.t 13) (.k (.d (.int .i64 1))), none⟩,
  ⟨some 13, .mov (.t 25), none⟩]
noncomputable def s118l9 : SCode := (.seq (.region s118r4 0 []) (.seq (.cond (.t 14) .skip (.exit 0)) (.seq (.block 1 (.seq (.region s118r5 0 []) (.seq (.region s118r6 0 []) (.cond (.t 24) (.seq (.region s118r7 0 []) .ret) .skip)))) (.region s118r8 0 []))))
theorem e118l9 : AWp P k0 s118l9 Q st = AWp P k0 (.seq (.region s118r4 0 []) (.seq (.cond (.t 14) .skip (.exit 0)) (.seq (.block 1 (.seq (.region s118r5 0 []) (.seq (.region s118r6 0 []) (.cond (.t 24) (.seq (.region s118r7 0 []) .ret) .skip)))) (.region s118r8 0 [])))) Q st := rfl
noncomputable def s118r10 : List SOper := [
  ⟨some 4, .mov (.k (.d (.bool true))), none⟩]
noncomputable def s118 : SCode := (.seq (.region s118r0 0 []) (.seq (.seq (.region s118r1 0 []) (.cond (.t 10) (.seq (.region s118r2 0 []) .ret) .skip)) (.seq (.seq (.region s118r3 0 []) (.block 0 (.loop s118l9))) (.seq (.region s118r10 0 []) .ret))))
theorem e118 : AWp P k0 s118 Q st = AWp P k0 (.seq (.region s118r0 0 []) (.seq (.seq (.region s118r1 0 []) (.cond (.t 10) (.seq (.region s118r2 0 []) .ret) .skip)) (.seq (.seq (.region s118r3 0 []) (.block 0 (.loop s118l9))) (.seq (.region s118r10 0 []) .ret)))) Q st := rfl
theorem u118r0 : goReg P s118r0 o p Q st = goLit P (litOf s118r0.eq_1) o p Q st := goReg_of _
theorem u118r1 : goReg P s118r1 o p Q st = goLit P (litOf s118r1.eq_1) o p Q st := goReg_of _
theorem u118r2 : goReg P s118r2 o p Q st = goLit P (litOf s118r2.eq_1) o p Q st := goReg_of _
theorem u118r3 : goReg P s118r3 o p Q st = goLit P (litOf s118r3.eq_1) o p Q st := goReg_of _
theorem u118r4 : goReg P s118r4 o p Q st = goLit P (litOf s118r4.eq_1) o p Q st := goReg_of _
theorem u118r5 : goReg P s118r5 o p Q st = goLit P (litOf s118r5.eq_1) o p Q st := goReg_of _
theorem u118r6 : goReg P s118r6 o p Q st = goLit P (litOf s118r6.eq_1) o p Q st := goReg_of _
theorem u118r7 : goReg P s118r7 o p Q st = goLit P (litOf s118r7.eq_1) o p Q st := goReg_of _
theorem u118r8 : goReg P s118r8 o p Q st = goLit P (litOf s118r8.eq_1) o p Q st := goReg_of _
theorem u118r10 : goReg P s118r10 o p Q st = goLit P (litOf s118r10.eq_1) o p Q st := goReg_of _
attribute [go_sem] u118r0 u118r1 u118r2 u118r3 u118r4 u118r5 u118r6 u118r7 u118r8 e118l9 u118r10 e118
set_option maxRecDepth 100000 in
theorem F118 : FnIs Try.prog 118 Try.f118 [] news s118 [.tmp 4] 26 := ⟨follows, Try.func118, by kernel_rfl, by kernel_rfl, by kernel_rfl, by kernel_rfl⟩

noncomputable def s94r0 : List SOper := [
  ⟨some 2, .box 2 (.t 0), none⟩,
  ⟨some 3, .box 1 (.t 1), none⟩,
  ⟨some 4, .mov (.k (.d (.bool false))), none⟩]
noncomputable def s94r1 : List SOper := [
  ⟨some 5, .faddr 0 (.t 2), none⟩,
  ⟨some 6, .load none (.t 5), none⟩,
  ⟨some 7, .faddr 0 (.t 3), none⟩,
  ⟨some 8, .load none (.t 7), none⟩,
  ⟨some 9, .bin .eql (.t 6) (.t 8), none⟩,
  ⟨some 10, .mov (.t 9), none⟩,
  ⟨some 11, .faddr 1 (.t 2), some (10, true)⟩,
  ⟨some 12, .load none (.t 11), some (10, true)⟩,
  ⟨some 13, .faddr 1 (.t 3), some (10, true)⟩,
  ⟨some 14, .load none (.t 13), some (10, true)⟩,
  ⟨some 15, .bin .eql (.t 12) (.t 14), some (10, true)⟩,
  ⟨some 16, .pick (.t 10) (.t 15) (.k (.d (.bool false))), none⟩,
  ⟨some 17, .mov (.t 16), none⟩,
  ⟨some 18, .faddr 2 (.t 2), some (17, true)⟩,
  ⟨some 19, .load none (.t 18), some (17, true)⟩,
  ⟨some 20, .faddr 2 (.t 3), some (17, true)⟩,
  ⟨some 21, .load none (.t 20), some (17, true)⟩,
  ⟨some 22, .call (.k (.d (.func (.func 118) [] []))) [(.t 19), (.t 21)], some (17, true)⟩,
  ⟨some 23, .pick (.t 17) (.t 22) (.k (.d (.bool false))), none⟩,
  ⟨some 24, .mov (.t 23), none⟩,
  ⟨some 25, .faddr 3 (.t 2), some (24, true)⟩,
  ⟨some 26, .load none (.t 25), some (24, true)⟩,
  ⟨some 27, .faddr 3 (.t 3), some (24, true)⟩,
  ⟨some 28, .load none (.t 27), some (24, true)⟩,
  ⟨some 29, .call (.k (.d (.func (.func 118) [] []))) [(.t 26), (.t 28)], some (24, true)⟩,
  ⟨some 30, .pick (.t 24) (.t 29) (.k (.d (.bool false))), none⟩,
  ⟨some 4, .mov (.t 30), none⟩]
noncomputable def s94 : SCode := (.seq (.region s94r0 2 []) (.seq (.region s94r1 0 []) .ret))
theorem e94 : AWp P k0 s94 Q st = AWp P k0 (.seq (.region s94r0 2 []) (.seq (.region s94r1 0 []) .ret)) Q st := rfl
theorem u94r0 : goReg P s94r0 o p Q st = goLit P (litOf s94r0.eq_1) o p Q st := goReg_of _
theorem u94r1 : goReg P s94r1 o p Q st = goLit P (litOf s94r1.eq_1) o p Q st := goReg_of _
attribute [go_sem] u94r0 u94r1 e94
set_option maxRecDepth 100000 in
theorem F94 : FnIs Try.prog 94 Try.f94 [] news s94 [.tmp 4] 31 := ⟨follows, Try.func94, by kernel_rfl, by kernel_rfl, by kernel_rfl, by kernel_rfl⟩

noncomputable def s93r0 : List SOper := [
  ⟨some 6, .mov (.k (.d (.bool false))), none⟩]
noncomputable def s93r1 : List SOper := [
  ⟨some 10, .mov (.t 0), none⟩,
  ⟨some 11, .len (.t 10), none⟩,
  ⟨some 12, .mov (.t 1), none⟩,
  ⟨some 13, .len (.t 12), none⟩,
  ⟨some 14, .bin .neq (.t 11) (.t 13), none⟩]
noncomputable def s93r2 : List SOper := [
  ⟨some 6, .mov (.k (.d (.bool false))), none⟩]
noncomputable def s93r3 : List SOper := [
  ⟨some 15, .mov (.t 0), none⟩,
  ⟨some 16, .len (.t 15), none⟩,
  ⟨some 17, .mov (.k (.d (.int .i64 0))), none⟩]
noncomputable def s93r4 : List SOper := [
  ⟨some 18, .bin .lss (.t 17) (.t 16), none⟩]
noncomputable def s93r5 : List SOper := [
  ⟨some 19, .mov (.t 17), none⟩,
  ⟨some 20, .iaddr 4 (.t 15) (.t 17), none⟩,
  ⟨some 21, .load (some 4) (.t 20), none⟩,
  ⟨some 8, .alloc 1 [(.d (.int .i64 0)), (.d (.int .i64 0)), (.d .nilsl), (.d .nilsl)], none⟩,
  ⟨some 7, .mov (.t 19), none⟩,
  ⟨none, .store (some 4) (.t 8) (.t 21), none⟩]
noncomputable def s93r6 : List SOper := [
  ⟨some 22, .mov (.t 1), none⟩,
  ⟨some 23, .mov (.t 7), none⟩,
  ⟨some 24, .iaddr 4 (.t 22) (.t 23), none⟩,
  ⟨some 25, .load (some 4) (.t 24), none⟩,
  ⟨some 9, .alloc 1 [(.d (.int .i64 0)), (.d (.int .i64 0)), (.d .nilsl), (.d .nilsl)], none⟩,
  ⟨none, .store (some 4) (.t 9) (.t 25), none⟩]
noncomputable def s93r7 : List SOper := [
  ⟨some 26, .mov (.t 2), none⟩,
  ⟨some 27, .load (some 4) (.t 8), none⟩,
  ⟨some 28, .load (some 4) (.t 9), none⟩,
  ⟨some 29, .call (.t 26) [(.t 27), (.t 28)], none⟩,
  ⟨some 30, .not (.t 29), none⟩]
noncomputable def s93r8 : List SOper := [
  ⟨some 6, .mov (.k (.d (.bool false))), none⟩]
noncomputable def s93r9 : List SOper := [
  ⟨some 31, .bin .add (.t 17) (.k (.d (.int .i64 1))), none⟩,
  ⟨some 17, .mov (.t 31), none⟩]
noncomputable def s93l10 : SCode := (.seq (.region s93r4 0 []) (.seq (.cond (.t 18) .skip (.exit 0)) (.seq (.block 1 (.seq (.region s93r5 1 []) (.seq (.region s93r6 1 []) (.seq (.region s93r7 0 []) (.cond (.t 30) (.seq (.region s93r8 0 []) .ret) .skip))))) (.region s93r9 0 []))))
theorem e93l10 : AWp P k0 s93l10 Q st = AWp P k0 (.seq (.region s93r4 0 []) (.seq (.cond (.t 18) .skip (.exit 0)) (.seq (.block 1 (.seq (.region s93r5 1 []) (.seq (.region s93r6 1 []) (.seq (.region s93r7 0 []) (.cond (.t 30) (.seq (.region s93r8 0 []) .ret) .skip))))) (.region s93r9 0 [])))) Q st := rfl
noncomputable def s93r11 : List SOper := [
  ⟨some 6, .mov (.k (.d (.bool true))), none⟩]
noncomputable def s93 : SCode := (.seq (.region s93r0 0 []) (.seq (.seq (.region s93r1 0 []) (.cond (.t 14) (.seq (.region s93r2 0 []) .ret) .skip)) (.seq (.seq (.region s93r3 0 []) (.block 0 (.loop s93l10))) (.seq (.region s93r11 0 []) .ret))))
theorem e93 : AWp P k0 s93 Q st = AWp P k0 (.seq (.region s93r0 0 []) (.seq (.seq (.region s93r1 0 []) (.cond (.t 14) (.seq (.region s93r2 0 []) .ret) .skip)) (.seq (.seq (.region s93r3 0 []) (.block 0 (.loop s93l10))) (.seq (.region s93r11 0 []) .ret)))) Q st := rfl
theorem u93r0 : goReg P s93r0 o p Q st = goLit P (litOf s93r0.eq_1) o p Q st := goReg_of _
theorem u93r1 : goReg P s93r1 o p Q st = goLit P (litOf s93r1.eq_1) o p Q st := goReg_of _
theorem u93r2 : goReg P s93r2 o p Q st = goLit P (litOf s93r2.eq_1) o p Q st := goReg_of _
theorem u93r3 : goReg P s93r3 o p Q st = goLit P (litOf s93r3.eq_1) o p Q st := goReg_of _
theorem u93r4 : goReg P s93r4 o p Q st = goLit P (litOf s93r4.eq_1) o p Q st := goReg_of _
theorem u93r5 : goReg P s93r5 o p Q st = goLit P (litOf s93r5.eq_1) o p Q st := goReg_of _
theorem u93r6 : goReg P s93r6 o p Q st = goLit P (litOf s93r6.eq_1) o p Q st := goReg_of _
theorem u93r7 : goReg P s93r7 o p Q st = goLit P (litOf s93r7.eq_1) o p Q st := goReg_of _
theorem u93r8 : goReg P s93r8 o p Q st = goLit P (litOf s93r8.eq_1) o p Q st := goReg_of _
theorem u93r9 : goReg P s93r9 o p Q st = goLit P (litOf s93r9.eq_1) o p Q st := goReg_of _
theorem u93r11 : goReg P s93r11 o p Q st = goLit P (litOf s93r11.eq_1) o p Q st := goReg_of _
attribute [go_sem] u93r0 u93r1 u93r2 u93r3 u93r4 u93r5 u93r6 u93r7 u93r8 u93r9 e93l10 u93r11 e93
set_option maxRecDepth 100000 in
theorem F93 : FnIs Try.prog 93 Try.f93 [] news s93 [.tmp 6] 32 := ⟨follows, Try.func93, by kernel_rfl, by kernel_rfl, by kernel_rfl, by kernel_rfl⟩

noncomputable def s62r0 : List SOper := [
  ⟨some 2, .box 2 (.t 0), none⟩,
  ⟨some 3, .box 1 (.t 1), none⟩,
  ⟨some 4, .mov (.k (.d (.bool false))), none⟩]
noncomputable def s62r1 : List SOper := [
  ⟨some 5, .faddr 0 (.t 2), none⟩,
  ⟨some 6, .load none (.t 5), none⟩,
  ⟨some 7, .faddr 0 (.t 3), none⟩,
  ⟨some 8, .load none (.t 7), none⟩,
  ⟨some 9, .bin .eql (.t 6) (.t 8), none⟩,
  ⟨some 10, .mov (.t 9), none⟩,
  ⟨some 11, .faddr 1 (.t 2), some (10, true)⟩,
  ⟨some 12, .load none (.t 11), some (10, true)⟩,
  ⟨some 13, .faddr 1 (.t 3), some (10, true)⟩,
  ⟨some 14, .load none (.t 13), some (10, true)⟩,
  ⟨some 15, .call (.k (.d (.func (.func 93) [] []))) [(.t 12), (.t 14), (.k (.d (.func (.func 94) [] [])))], some (10, true)⟩,
  ⟨some 16, .pick (.t 10) (.t 15) (.k (.d (.bool false))), none⟩,
  ⟨some 4, .mov (.t 16), none⟩]
noncomputable def s62 : SCode := (.seq (.region s62r0 2 []) (.seq (.region s62r1 0 []) .ret))
theorem e62 : AWp P k0 s62 Q st = AWp P k0 (.seq (.region s62r0 2 []) (.seq (.region s62r1 0 []) .ret)) Q st := rfl
theorem u62r0 : goReg P s62r0 o p Q st = goLit P (litOf s62r0.eq_1) o p Q st := goReg_of _
theorem u62r1 : goReg P s62r1 o p Q st = goLit P (litOf s62r1.eq_1) o p Q st := goReg_of _
attribute [go_sem] u62r0 u62r1 e62
set_option maxRecDepth 100000 in
theorem F62 : FnIs Try.prog 62 Try.f62 [] news s62 [.tmp 4] 17 := ⟨follows, Try.func62, by kernel_rfl, by kernel_rfl, by kernel_rfl, by kernel_rfl⟩

noncomputable def s48r0 : List SOper := [
  ⟨some 2, .alloc 1 [(.d (.int .i64 0)), (.d .nilsl)], none⟩,
  ⟨some 3, .mov (.k (.d (.int .i64 0))), none⟩]
noncomputable def s48r1 : List SOper := [
  ⟨some 4, .mov (.t 0), none⟩,
  ⟨some 5, .bin .lss (.t 4) (.k (.d (.int .i64 1))), none⟩,
  ⟨some 6, .mov (.t 5), none⟩,
  ⟨some 7, .mov (.t 0), some (6, false)⟩,
  ⟨some 8, .bin .gtr (.t 7) (.k (.d (.int .i64 6))), some (6, false)⟩,
  ⟨some 9, .pick (.t 6) (.k (.d (.bool true))) (.t 8), none⟩]
noncomputable def s48r2 : List SOper := [
  ⟨some 10, .build [(.int .i64 0), .nilsl] [], none⟩,
  ⟨none, .store (some 2) (.t 2) (.t 10), none⟩,
  ⟨some 3, .mov (.k (.d (.int .i64 2))), none⟩]
noncomputable def s48r3 : List SOper := [
  ⟨some 11, .mov (.t 0), none⟩,
  ⟨some 12, .build [(.int .i64 0), .nilsl] [(0, 1, (.t 11))], none⟩,
  ⟨none, .store (some 2) (.t 2) (.t 12), none⟩,
  ⟨some 3, .mov (.k (.d (.int .i64 0))), none⟩]
noncomputable def s48 : SCode := (.seq (.region s48r0 1 []) (.seq (.seq (.region s48r1 0 []) (.cond (.t 9) (.seq (.region s48r2 0 []) .ret) .skip)) (.seq (.region s48r3 0 []) .ret)))
theorem e48 : AWp P k0 s48 Q st = AWp P k0 (.seq (.region s48r0 1 []) (.seq (.seq (.region s48r1 0 []) (.cond (.t 9) (.seq (.region s48r2 0 []) .ret) .skip)) (.seq (.region s48r3 0 []) .ret))) Q st := rfl
theorem u48r0 : goReg P s48r0 o p Q st = goLit P (litOf s48r0.eq_1) o p Q st := goReg_of _
theorem u48r1 : goReg P s48r1 o p Q st = goLit P (litOf s48r1.eq_1) o p Q st := goReg_of _
theorem u48r2 : goReg P s48r2 o p Q st = goLit P (litOf s48r2.eq_1) o p Q st := goReg_of _
theorem u48r3 : goReg P s48r3 o p Q st = goLit P (litOf s48r3.eq_1) o p Q st := goReg_of _
attribute [go_sem] u48r0 u48r1 u48r2 u48r3 e48
set_option maxRecDepth 100000 in
theorem F48 : FnIs Try.prog 48 Try.f48 [] news s48 [.cell 2 (some 2), .tmp 3] 13 := ⟨follows, Try.func48, by kernel_rfl, by kernel_rfl, by kernel_rfl, by kernel_rfl⟩

end

def sObj (s : Int) : AObj := .row [.d (.int .i64 s)]
attribute [go_sem] sObj
theorem findC_ok (x : En) (s : Int) : ACall Try.prog 110 [.d (.agg (encEn x)), .d (.ptr 0 0)] [sObj s] (.d (.bool (decide (x.sess ≥ s)))) [sObj s] := by
  refine F110.go ?_
  try simp only [encEn, sObj, go_sem, Nat.reduceAdd, Nat.reduceMul, Nat.reduceSub, Nat.reduceEqDiff, Nat.reduceLT, Nat.reduceLeDiff, Nat.reduceBEq, reduceIte, reduceCtorEq, Int.reduceAdd, Int.reduceLT, Int.reduceLE, Int.reduceGT, Int.reduceGE, Int.reduceEq, Int.reduceNe, Int.reduceBEq, Int.reduceBNe, Int.reduceToNat, Int.reduceNeg]
theorem phaseC_ok (x : En) (s : Int) : ACall Try.prog 84 [.d (.agg (encEn x)), .d (.ptr 0 0)] [sObj s] (.d (.bool (x.sess == s))) [sObj s] := by
  refine F84.go ?_
  try simp only [encEn, sObj, go_sem, Nat.reduceAdd, Nat.reduceMul, Nat.reduceSub, Nat.reduceEqDiff, Nat.reduceLT, Nat.reduceLeDiff, Nat.reduceBEq, reduceIte, reduceCtorEq, Int.reduceAdd, Int.reduceLT, Int.reduceLE, Int.reduceGT, Int.reduceGE, Int.reduceEq, Int.reduceNe, Int.reduceBEq, Int.reduceBNe, Int.reduceToNat, Int.reduceNeg]

def SidxE (l : List En) (k : FuncId) (s : Int) (f : En → Bool) (i : { i : Nat // (l.take i).any f = false }) : St :=
  ⟨[(0, true, .d (.sl 4 (l.map encEn))), (1, true, .d (.func (.func k) [] [.ptr 0 0])), (6, true, .d (.sl 4 (l.map encEn))), (7, true, .d (.int .i64 l.length)), (8, true, .d (.int .i64 (i.val : Nat)))],
   [sObj s], [], 1⟩

theorem indexGe_ok (l : List En) (s : Int) (hl : l.length ≤ 1000) : ACall Try.prog 83 [.d (.sl 4 (l.map encEn)), .d (.func (.func 110) [] [.ptr 0 0])] [sObj s]
    (.d (.int .i64 (idx (fun x => decide (x.sess ≥ s)) l))) [sObj s] := by
  refine F83.go ?_
  try (refine ev ?_; try exact True.intro)
  refine AWp_loop (SidxE l 110 s (fun x => decide (x.sess ≥ s))) (fun i => l.length - i.val) ⟨0, rfl⟩ ?_ (fun i => ?_)
  · try simp only [SidxE, sObj, go_sem, Nat.reduceAdd, Nat.reduceMul, Nat.reduceSub, Nat.reduceEqDiff, Nat.reduceLT, Nat.reduceLeDiff, Nat.reduceBEq, reduceIte, reduceCtorEq, Int.reduceAdd, Int.reduceLT, Int.reduceLE, Int.reduceGT, Int.reduceGE, Int.reduceEq, Int.reduceNe, Int.reduceBEq, Int.reduceBNe, Int.reduceToNat, Int.reduceNeg]
  obtain ⟨i, hi⟩ := i
  try simp only [SidxE, go_sem, Nat.reduceAdd, Nat.reduceMul, Nat.reduceSub, Nat.reduceEqDiff, Nat.reduceLT, Nat.reduceLeDiff, Nat.reduceBEq, reduceIte, reduceCtorEq, Int.reduceAdd, Int.reduceLT, Int.reduceLE, Int.reduceGT, Int.reduceGE, Int.reduceEq, Int.reduceNe, Int.reduceBEq, Int.reduceBNe, Int.reduceToNat, Int.reduceNeg]
  (repeat (with_reducible refine ob ?_)); refine iff_ _ (fun h => ?_) (fun h => ?_)
  · have hil : i < l.length := by simpa using h
    simp only [getD_map encEn l hil, encEn, go_sem, Nat.reduceAdd, Nat.reduceMul, Nat.reduceSub, Nat.reduceEqDiff, Nat.reduceLT, Nat.reduceLeDiff, Nat.reduceBEq, reduceIte, reduceCtorEq, Int.reduceAdd, Int.reduceLT, Int.reduceLE, Int.reduceGT, Int.reduceGE, Int.reduceEq, Int.reduceNe, Int.reduceBEq, Int.reduceBNe, Int.reduceToNat, Int.reduceNeg]
    (repeat (with_reducible refine ob ?_)); refine clO [0] F110 (findC_ok l[i] s) ?_ (hfit := by first | exact ⟨matchA_refl, trivial⟩ | exact ⟨matchA_refl, matchA_refl, trivial⟩ | simp only [encEn, encMg, go_sem, Nat.reduceAdd, Nat.reduceMul, Nat.reduceSub, Nat.reduceEqDiff, Nat.reduceLT, Nat.reduceLeDiff, Nat.reduceBEq, reduceIte, reduceCtorEq, Int.reduceAdd, Int.reduceLT, Int.reduceLE, Int.reduceGT, Int.reduceGE, Int.reduceEq, Int.reduceNe, Int.reduceBEq, Int.reduceBNe, Int.reduceToNat, Int.reduceNeg])
    try simp only [sObj, go_sem, Nat.reduceAdd, Nat.reduceMul, Nat.reduceSub, Nat.reduceEqDiff, Nat.reduceLT, Nat.reduceLeDiff, Nat.reduceBEq, reduceIte, reduceCtorEq, Int.reduceAdd, Int.reduceLT, Int.reduceLE, Int.reduceGT, Int.reduceGE, Int.reduceEq, Int.reduceNe, Int.reduceBEq, Int.reduceBNe, Int.reduceToNat, Int.reduceNeg]
    refine iff_ _ (fun h2 => ?_) (fun h2 => ?_)
    · try simp only [idx_some (f := fun x => decide (x.sess ≥ s)) hi hil h2, go_sem, Nat.reduceAdd, Nat.reduceMul, Nat.reduceSub, Nat.reduceEqDiff, Nat.reduceLT, Nat.reduceLeDiff, Nat.reduceBEq, reduceIte, reduceCtorEq, Int.reduceAdd, Int.reduceLT, Int.reduceLE, Int.reduceGT, Int.reduceGE, Int.reduceEq, Int.reduceNe, Int.reduceBEq, Int.reduceBNe, Int.reduceToNat, Int.reduceNeg]
    · try (refine ev ?_; try exact True.intro)
      refine ⟨⟨i + 1, take_any_succ hi hil h2⟩, ?_, by dsimp only; omega⟩
      try simp only [SidxE, sObj, wrap_succ (show i < 9223372036854775807 by omega), go_sem, Nat.reduceAdd, Nat.reduceMul, Nat.reduceSub, Nat.reduceEqDiff, Nat.reduceLT, Nat.reduceLeDiff, Nat.reduceBEq, reduceIte, reduceCtorEq, Int.reduceAdd, Int.reduceLT, Int.reduceLE, Int.reduceGT, Int.reduceGE, Int.reduceEq, Int.reduceNe, Int.reduceBEq, Int.reduceBNe, Int.reduceToNat, Int.reduceNeg]
  · try simp only [idx_none hi (by simpa using h), sObj, go_sem, Nat.reduceAdd, Nat.reduceMul, Nat.reduceSub, Nat.reduceEqDiff, Nat.reduceLT, Nat.reduceLeDiff, Nat.reduceBEq, reduceIte, reduceCtorEq, Int.reduceAdd, Int.reduceLT, Int.reduceLE, Int.reduceGT, Int.reduceGE, Int.reduceEq, Int.reduceNe, Int.reduceBEq, Int.reduceBNe, Int.reduceToNat, Int.reduceNeg]

theorem indexEq_ok (l : List En) (s : Int) (hl : l.length ≤ 1000) : ACall Try.prog 83 [.d (.sl 4 (l.map encEn)), .d (.func (.func 84) [] [.ptr 0 0])] [sObj s]
    (.d (.int .i64 (idx (fun x => x.sess == s) l))) [sObj s] := by
  refine F83.go ?_
  try (refine ev ?_; try exact True.intro)
  refine AWp_loop (SidxE l 84 s (fun x => x.sess == s)) (fun i => l.length - i.val) ⟨0, rfl⟩ ?_ (fun i => ?_)
  · try simp only [SidxE, sObj, go_sem, Nat.reduceAdd, Nat.reduceMul, Nat.reduceSub, Nat.reduceEqDiff, Nat.reduceLT, Nat.reduceLeDiff, Nat.reduceBEq, reduceIte, reduceCtorEq, Int.reduceAdd, Int.reduceLT, Int.reduceLE, Int.reduceGT, Int.reduceGE, Int.reduceEq, Int.reduceNe, Int.reduceBEq, Int.reduceBNe, Int.reduceToNat, Int.reduceNeg]
  obtain ⟨i, hi⟩ := i
  try simp only [SidxE, go_sem, Nat.reduceAdd, Nat.reduceMul, Nat.reduceSub, Nat.reduceEqDiff, Nat.reduceLT, Nat.reduceLeDiff, Nat.reduceBEq, reduceIte, reduceCtorEq, Int.reduceAdd, Int.reduceLT, Int.reduceLE, Int.reduceGT, Int.reduceGE, Int.reduceEq, Int.reduceNe, Int.reduceBEq, Int.reduceBNe, Int.reduceToNat, Int.reduceNeg]
  (repeat (with_reducible refine ob ?_)); refine iff_ _ (fun h => ?_) (fun h => ?_)
  · have hil : i < l.length := by simpa using h
    simp only [getD_map encEn l hil, encEn, go_sem, Nat.reduceAdd, Nat.reduceMul, Nat.reduceSub, Nat.reduceEqDiff, Nat.reduceLT, Nat.reduceLeDiff, Nat.reduceBEq, reduceIte, reduceCtorEq, Int.reduceAdd, Int.reduceLT, Int.reduceLE, Int.reduceGT, Int.reduceGE, Int.reduceEq, Int.reduceNe, Int.reduceBEq, Int.reduceBNe, Int.reduceToNat, Int.reduceNeg]
    (repeat (with_reducible refine ob ?_)); refine clO [0] F84 (phaseC_ok l[i] s) ?_ (hfit := by first | exact ⟨matchA_refl, trivial⟩ | exact ⟨matchA_refl, matchA_refl, trivial⟩ | simp only [encEn, encMg, go_sem, Nat.reduceAdd, Nat.reduceMul, Nat.reduceSub, Nat.reduceEqDiff, Nat.reduceLT, Nat.reduceLeDiff, Nat.reduceBEq, reduceIte, reduceCtorEq, Int.reduceAdd, Int.reduceLT, Int.reduceLE, Int.reduceGT, Int.reduceGE, Int.reduceEq, Int.reduceNe, Int.reduceBEq, Int.reduceBNe, Int.reduceToNat, Int.reduceNeg])
    try simp only [sObj, go_sem, Nat.reduceAdd, Nat.reduceMul, Nat.reduceSub, Nat.reduceEqDiff, Nat.reduceLT, Nat.reduceLeDiff, Nat.reduceBEq, reduceIte, reduceCtorEq, Int.reduceAdd, Int.reduceLT, Int.reduceLE, Int.reduceGT, Int.reduceGE, Int.reduceEq, Int.reduceNe, Int.reduceBEq, Int.reduceBNe, Int.reduceToNat, Int.reduceNeg]
    refine iff_ _ (fun h2 => ?_) (fun h2 => ?_)
    · try simp only [idx_some (f := fun x => x.sess == s) hi hil h2, go_sem, Nat.reduceAdd, Nat.reduceMul, Nat.reduceSub, Nat.reduceEqDiff, Nat.reduceLT, Nat.reduceLeDiff, Nat.reduceBEq, reduceIte, reduceCtorEq, Int.reduceAdd, Int.reduceLT, Int.reduceLE, Int.reduceGT, Int.reduceGE, Int.reduceEq, Int.reduceNe, Int.reduceBEq, Int.reduceBNe, Int.reduceToNat, Int.reduceNeg]
    · try (refine ev ?_; try exact True.intro)
      refine ⟨⟨i + 1, take_any_succ hi hil h2⟩, ?_, by dsimp only; omega⟩
      try simp only [SidxE, sObj, wrap_succ (show i < 9223372036854775807 by omega), go_sem, Nat.reduceAdd, Nat.reduceMul, Nat.reduceSub, Nat.reduceEqDiff, Nat.reduceLT, Nat.reduceLeDiff, Nat.reduceBEq, reduceIte, reduceCtorEq, Int.reduceAdd, Int.reduceLT, Int.reduceLE, Int.reduceGT, Int.reduceGE, Int.reduceEq, Int.reduceNe, Int.reduceBEq, Int.reduceBNe, Int.reduceToNat, Int.reduceNeg]
  · try simp only [idx_none hi (by simpa using h), sObj, go_sem, Nat.reduceAdd, Nat.reduceMul, Nat.reduceSub, Nat.reduceEqDiff, Nat.reduceLT, Nat.reduceLeDiff, Nat.reduceBEq, reduceIte, reduceCtorEq, Int.reduceAdd, Int.reduceLT, Int.reduceLE, Int.reduceGT, Int.reduceGE, Int.reduceEq, Int.reduceNe, Int.reduceBEq, Int.reduceBNe, Int.reduceToNat, Int.reduceNeg]

def upFind (m : Mg) (s : Int) : Nat × Bool :=
  if m.ents.any (fun x => decide (x.sess ≥ s)) then (m.ents.findIdx (fun x => decide (x.sess ≥ s)), (m.ents.getD (m.ents.findIdx (fun x => decide (x.sess ≥ s))) default).sess == s) else (m.ents.length, false)

theorem idx_lt0 {α : Type} (f : α → Bool) (l : List α) : decide (idx f l < 0) = !l.any f := by
  unfold idx
  cases l.any f <;> simp
theorem idx_any {α : Type} {f : α → Bool} {l : List α} (h : l.any f = true) : idx f l = (l.findIdx f : Int) ∧ l.findIdx f < l.length := by
  refine ⟨by simp [idx, h], ?_⟩
  rw [List.findIdx_lt_length]
  simpa using h

theorem upFind_ok (m : Mg) (s : Int) (hm : m.Sm) : ACall Try.prog 85 [.d (.agg (encMg m)), .d (.int .i64 s)] [] (.tup [.d (.int .i64 ((upFind m s).1 : Nat)), .d (.bool (upFind m s).2)]) [] := by
  refine F85.goT ?_
  try simp only [encMg, go_sem, Nat.reduceAdd, Nat.reduceMul, Nat.reduceSub, Nat.reduceEqDiff, Nat.reduceLT, Nat.reduceLeDiff, Nat.reduceBEq, reduceIte, reduceCtorEq, Int.reduceAdd, Int.reduceLT, Int.reduceLE, Int.reduceGT, Int.reduceGE, Int.reduceEq, Int.reduceNe, Int.reduceBEq, Int.reduceBNe, Int.reduceToNat, Int.reduceNeg]
  (repeat (with_reducible refine ob ?_)); refine clO [1] F83 (indexGe_ok m.ents s hm.1) ?_ (hfit := by first | exact ⟨matchA_refl, trivial⟩ | exact ⟨matchA_refl, matchA_refl, trivial⟩ | simp only [encEn, encMg, go_sem, Nat.reduceAdd, Nat.reduceMul, Nat.reduceSub, Nat.reduceEqDiff, Nat.reduceLT, Nat.reduceLeDiff, Nat.reduceBEq, reduceIte, reduceCtorEq, Int.reduceAdd, Int.reduceLT, Int.reduceLE, Int.reduceGT, Int.reduceGE, Int.reduceEq, Int.reduceNe, Int.reduceBEq, Int.reduceBNe, Int.reduceToNat, Int.reduceNeg])
  try simp only [idx_lt0, sObj, go_sem, Nat.reduceAdd, Nat.reduceMul, Nat.reduceSub, Nat.reduceEqDiff, Nat.reduceLT, Nat.reduceLeDiff, Nat.reduceBEq, reduceIte, reduceCtorEq, Int.reduceAdd, Int.reduceLT, Int.reduceLE, Int.reduceGT, Int.reduceGE, Int.reduceEq, Int.reduceNe, Int.reduceBEq, Int.reduceBNe, Int.reduceToNat, Int.reduceNeg]
  (repeat (with_reducible refine ob ?_)); refine iff_ _ (fun h => ?_) (fun h => ?_)
  · have hf : m.ents.any (fun x => decide (x.sess ≥ s)) = false := by simpa using h
    have hu : upFind m s = (m.ents.length, false) := by simp [upFind, hf]
    try simp only [hu, go_sem, Nat.reduceAdd, Nat.reduceMul, Nat.reduceSub, Nat.reduceEqDiff, Nat.reduceLT, Nat.reduceLeDiff, Nat.reduceBEq, reduceIte, reduceCtorEq, Int.reduceAdd, Int.reduceLT, Int.reduceLE, Int.reduceGT, Int.reduceGE, Int.reduceEq, Int.reduceNe, Int.reduceBEq, Int.reduceBNe, Int.reduceToNat, Int.reduceNeg]
  · have hf : m.ents.any (fun x => decide (x.sess ≥ s)) = true := by simpa using h
    obtain ⟨h1, h2⟩ := idx_any hf
    have hu : upFind m s = (m.ents.findIdx (fun x => decide (x.sess ≥ s)), (m.ents.getD (m.ents.findIdx (fun x => decide (x.sess ≥ s))) default).sess == s) := by simp [upFind, hf]
    rw [hu, getD_lt h2]
    rw [h1]
    generalize m.ents.findIdx (fun x => decide (x.sess ≥ s)) = k at h2 ⊢
    try simp only [getD_map encEn m.ents h2, encEn, go_sem, Nat.reduceAdd, Nat.reduceMul, Nat.reduceSub, Nat.reduceEqDiff, Nat.reduceLT, Nat.reduceLeDiff, Nat.reduceBEq, reduceIte, reduceCtorEq, Int.reduceAdd, Int.reduceLT, Int.reduceLE, Int.reduceGT, Int.reduceGE, Int.reduceEq, Int.reduceNe, Int.reduceBEq, Int.reduceBNe, Int.reduceToNat, Int.reduceNeg]
    (repeat (with_reducible refine ob ?_))
    try simp only [getD_map encEn m.ents h2, encEn, go_sem, Nat.reduceAdd, Nat.reduceMul, Nat.reduceSub, Nat.reduceEqDiff, Nat.reduceLT, Nat.reduceLeDiff, Nat.reduceBEq, reduceIte, reduceCtorEq, Int.reduceAdd, Int.reduceLT, Int.reduceLE, Int.reduceGT, Int.reduceGE, Int.reduceEq, Int.reduceNe, Int.reduceBEq, Int.reduceBNe, Int.reduceToNat, Int.reduceNeg]
    first | omega | exact ⟨by omega, by omega⟩ | skip

def upPhaseOf (m : Mg) (s : Int) : Int := if m.ents.any (fun x => x.sess == s) then (m.ents.getD (m.ents.findIdx (fun x => x.sess == s)) default).phase else 0
theorem upPhaseOf_ok (m : Mg) (s : Int) (hm : m.Sm) : ACall Try.prog 50 [.d (.agg (encMg m)), .d (.int .i64 s)] [] (.d (.int .i64 (upPhaseOf m s))) [] := by
  refine F50.go ?_
  try simp only [encMg, go_sem, Nat.reduceAdd, Nat.reduceMul, Nat.reduceSub, Nat.reduceEqDiff, Nat.reduceLT, Nat.reduceLeDiff, Nat.reduceBEq, reduceIte, reduceCtorEq, Int.reduceAdd, Int.reduceLT, Int.reduceLE, Int.reduceGT, Int.reduceGE, Int.reduceEq, Int.reduceNe, Int.reduceBEq, Int.reduceBNe, Int.reduceToNat, Int.reduceNeg]
  (repeat (with_reducible refine ob ?_)); refine clO [1] F83 (indexEq_ok m.ents s hm.1) ?_ (hfit := by first | exact ⟨matchA_refl, trivial⟩ | exact ⟨matchA_refl, matchA_refl, trivial⟩ | simp only [encEn, encMg, go_sem, Nat.reduceAdd, Nat.reduceMul, Nat.reduceSub, Nat.reduceEqDiff, Nat.reduceLT, Nat.reduceLeDiff, Nat.reduceBEq, reduceIte, reduceCtorEq, Int.reduceAdd, Int.reduceLT, Int.reduceLE, Int.reduceGT, Int.reduceGE, Int.reduceEq, Int.reduceNe, Int.reduceBEq, Int.reduceBNe, Int.reduceToNat, Int.reduceNeg])
  try simp only [idx_lt0, sObj, go_sem, Nat.reduceAdd, Nat.reduceMul, Nat.reduceSub, Nat.reduceEqDiff, Nat.reduceLT, Nat.reduceLeDiff, Nat.reduceBEq, reduceIte, reduceCtorEq, Int.reduceAdd, Int.reduceLT, Int.reduceLE, Int.reduceGT, Int.reduceGE, Int.reduceEq, Int.reduceNe, Int.reduceBEq, Int.reduceBNe, Int.reduceToNat, Int.reduceNeg]
  (repeat (with_reducible refine ob ?_)); refine iff_ _ (fun h => ?_) (fun h => ?_)
  · have hf : m.ents.any (fun x => x.sess == s) = false := by simpa using h
    have hu : upPhaseOf m s = 0 := by simp only [upPhaseOf, hf]; rfl
    try simp only [hu, go_sem, Nat.reduceAdd, Nat.reduceMul, Nat.reduceSub, Nat.reduceEqDiff, Nat.reduceLT, Nat.reduceLeDiff, Nat.reduceBEq, reduceIte, reduceCtorEq, Int.reduceAdd, Int.reduceLT, Int.reduceLE, Int.reduceGT, Int.reduceGE, Int.reduceEq, Int.reduceNe, Int.reduceBEq, Int.reduceBNe, Int.reduceToNat, Int.reduceNeg]
  · have hf : m.ents.any (fun x => x.sess == s) = true := by simpa using h
    obtain ⟨h1, h2⟩ := idx_any hf
    have hu : upPhaseOf m s = m.ents[m.ents.findIdx (fun x => x.sess == s)].phase := by simp only [upPhaseOf, hf, getD_lt h2, if_true]
    rw [hu, h1]
    generalize m.ents.findIdx (fun x => x.sess == s) = k at h2 ⊢
    try simp only [getD_map encEn m.ents h2, encEn, go_sem, Nat.reduceAdd, Nat.reduceMul, Nat.reduceSub, Nat.reduceEqDiff, Nat.reduceLT, Nat.reduceLeDiff, Nat.reduceBEq, reduceIte, reduceCtorEq, Int.reduceAdd, Int.reduceLT, Int.reduceLE, Int.reduceGT, Int.reduceGE, Int.reduceEq, Int.reduceNe, Int.reduceBEq, Int.reduceBNe, Int.reduceToNat, Int.reduceNeg]
    (repeat (with_reducible refine ob ?_))
    try simp only [getD_map encEn m.ents h2, encEn, go_sem, Nat.reduceAdd, Nat.reduceMul, Nat.reduceSub, Nat.reduceEqDiff, Nat.reduceLT, Nat.reduceLeDiff, Nat.reduceBEq, reduceIte, reduceCtorEq, Int.reduceAdd, Int.reduceLT, Int.reduceLE, Int.reduceGT, Int.reduceGE, Int.reduceEq, Int.reduceNe, Int.reduceBEq, Int.reduceBNe, Int.reduceToNat, Int.reduceNeg]
    first | omega | exact ⟨by omega, by omega⟩ | skip

theorem eqB_ok (l m : List Bool) (hl : l.length ≤ 1000) :
    ACall Try.prog 118 [.d (.sl 1 (l.map encB)), .d (.sl 1 (m.map encB))] [] (.d (.bool (decide (l = m)))) [] := by
  refine F118.go ?_
  try (refine ev ?_; try exact True.intro)
  refine iff_ _ (fun h => ?_) (fun h => ?_)
  · have hne : decide (l = m) = false := by rw [decide_eq_false_iff_not]; rintro rfl; simp at h
    try simp only [hne, go_sem, Nat.reduceAdd, Nat.reduceMul, Nat.reduceSub, Nat.reduceEqDiff, Nat.reduceLT, Nat.reduceLeDiff, Nat.reduceBEq, reduceIte, reduceCtorEq, Int.reduceAdd, Int.reduceLT, Int.reduceLE, Int.reduceGT, Int.reduceGE, Int.reduceEq, Int.reduceNe, Int.reduceBEq, Int.reduceBNe, Int.reduceToNat, Int.reduceNeg]
  · have hlm : l.length = m.length := by simp at h; omega
    try (refine ev ?_; try exact True.intro)
    refine AWp_loop (Seq 1 encB l m) (fun i => l.length - i.val) ⟨0, rfl⟩ ?_ (fun i => ?_)
    · try simp only [Seq, go_sem, Nat.reduceAdd, Nat.reduceMul, Nat.reduceSub, Nat.reduceEqDiff, Nat.reduceLT, Nat.reduceLeDiff, Nat.reduceBEq, reduceIte, reduceCtorEq, Int.reduceAdd, Int.reduceLT, Int.reduceLE, Int.reduceGT, Int.reduceGE, Int.reduceEq, Int.reduceNe, Int.reduceBEq, Int.reduceBNe, Int.reduceToNat, Int.reduceNeg]
    · obtain ⟨i, hi⟩ := i
      try simp only [Seq, go_sem, Nat.reduceAdd, Nat.reduceMul, Nat.reduceSub, Nat.reduceEqDiff, Nat.reduceLT, Nat.reduceLeDiff, Nat.reduceBEq, reduceIte, reduceCtorEq, Int.reduceAdd, Int.reduceLT, Int.reduceLE, Int.reduceGT, Int.reduceGE, Int.reduceEq, Int.reduceNe, Int.reduceBEq, Int.reduceBNe, Int.reduceToNat, Int.reduceNeg]
      refine iff_ _ (fun h => ?_) (fun h => ?_)
      · have hil : i < l.length := by simpa using h
        have him : i < m.length := by omega
        try simp only [getD_map encB l hil, getD_map encB m him, encB, go_sem, Nat.reduceAdd, Nat.reduceMul, Nat.reduceSub, Nat.reduceEqDiff, Nat.reduceLT, Nat.reduceLeDiff, Nat.reduceBEq, reduceIte, reduceCtorEq, Int.reduceAdd, Int.reduceLT, Int.reduceLE, Int.reduceGT, Int.reduceGE, Int.reduceEq, Int.reduceNe, Int.reduceBEq, Int.reduceBNe, Int.reduceToNat, Int.reduceNeg]
        refine ⟨by omega, by omega, ?_⟩
        refine iff_ _ (fun h2 => ?_) (fun h2 => ?_)
        · have hne : l[i] ≠ m[i] := by simpa using h2
          try simp only [eq_ne hil him hne, go_sem, Nat.reduceAdd, Nat.reduceMul, Nat.reduceSub, Nat.reduceEqDiff, Nat.reduceLT, Nat.reduceLeDiff, Nat.reduceBEq, reduceIte, reduceCtorEq, Int.reduceAdd, Int.reduceLT, Int.reduceLE, Int.reduceGT, Int.reduceGE, Int.reduceEq, Int.reduceNe, Int.reduceBEq, Int.reduceBNe, Int.reduceToNat, Int.reduceNeg]
        · have he : l[i] = m[i] := by simpa using h2
          try (refine ev ?_; try exact True.intro)
          refine ⟨⟨i + 1, take_eq_succ hi hil him he⟩, ?_, by dsimp only; omega⟩
          try simp only [Seq, wrap_succ (show i < 9223372036854775807 by omega), go_sem, Nat.reduceAdd, Nat.reduceMul, Nat.reduceSub, Nat.reduceEqDiff, Nat.reduceLT, Nat.reduceLeDiff, Nat.reduceBEq, reduceIte, reduceCtorEq, Int.reduceAdd, Int.reduceLT, Int.reduceLE, Int.reduceGT, Int.reduceGE, Int.reduceEq, Int.reduceNe, Int.reduceBEq, Int.reduceBNe, Int.reduceToNat, Int.reduceNeg]
      · have he : decide (l = m) = true := by
          have : l.length ≤ i := by simpa using h
          rw [List.take_of_length_le this, List.take_of_length_le (by omega)] at hi
          simp [hi]
        try simp only [he, go_sem, Nat.reduceAdd, Nat.reduceMul, Nat.reduceSub, Nat.reduceEqDiff, Nat.reduceLT, Nat.reduceLeDiff, Nat.reduceBEq, reduceIte, reduceCtorEq, Int.reduceAdd, Int.reduceLT, Int.reduceLE, Int.reduceGT, Int.reduceGE, Int.reduceEq, Int.reduceNe, Int.reduceBEq, Int.reduceBNe, Int.reduceToNat, Int.reduceNeg]

theorem beq_En (x y : En) : (x.sess == y.sess && x.phase == y.phase && decide (x.moved = y.moved) && decide (x.opened = y.opened)) = decide (x = y) := by
  obtain ⟨a1, a2, a3, a4⟩ := x
  obtain ⟨b1, b2, b3, b4⟩ := y
  rw [Bool.eq_iff_iff]
  simp [and_assoc]

theorem enEqual_ok (x y : En) (hx : x.Sm) : ACall Try.prog 94 [.d (.agg (encEn x)), .d (.agg (encEn y))] [] (.d (.bool (decide (x = y)))) [] := by
  refine F94.go ?_
  try simp only [encEn, go_sem, Nat.reduceAdd, Nat.reduceMul, Nat.reduceSub, Nat.reduceEqDiff, Nat.reduceLT, Nat.reduceLeDiff, Nat.reduceBEq, reduceIte, reduceCtorEq, Int.reduceAdd, Int.reduceLT, Int.reduceLE, Int.reduceGT, Int.reduceGE, Int.reduceEq, Int.reduceNe, Int.reduceBEq, Int.reduceBNe, Int.reduceToNat, Int.reduceNeg]
  (repeat (with_reducible refine ob ?_)); first | refine cl F118 (eqB_ok x.moved y.moved hx.1) ?_ | refine clF F118 (eqB_ok x.moved y.moved hx.1) (fun _ => by simp only [encEn, encMg, go_sem, Nat.reduceAdd, Nat.reduceMul, Nat.reduceSub, Nat.reduceEqDiff, Nat.reduceLT, Nat.reduceLeDiff, Nat.reduceBEq, reduceIte, reduceCtorEq, Int.reduceAdd, Int.reduceLT, Int.reduceLE, Int.reduceGT, Int.reduceGE, Int.reduceEq, Int.reduceNe, Int.reduceBEq, Int.reduceBNe, Int.reduceToNat, Int.reduceNeg]) ?_
  try (refine ev ?_; try exact True.intro)
  (repeat (with_reducible refine ob ?_))
  (repeat (with_reducible refine ob ?_)); first | refine cl F118 (eqB_ok x.opened y.opened hx.2) ?_ | refine clF F118 (eqB_ok x.opened y.opened hx.2) (fun _ => by simp only [encEn, encMg, go_sem, Nat.reduceAdd, Nat.reduceMul, Nat.reduceSub, Nat.reduceEqDiff, Nat.reduceLT, Nat.reduceLeDiff, Nat.reduceBEq, reduceIte, reduceCtorEq, Int.reduceAdd, Int.reduceLT, Int.reduceLE, Int.reduceGT, Int.reduceGE, Int.reduceEq, Int.reduceNe, Int.reduceBEq, Int.reduceBNe, Int.reduceToNat, Int.reduceNeg]) ?_
  try simp only [beq_En, go_sem, Nat.reduceAdd, Nat.reduceMul, Nat.reduceSub, Nat.reduceEqDiff, Nat.reduceLT, Nat.reduceLeDiff, Nat.reduceBEq, reduceIte, reduceCtorEq, Int.reduceAdd, Int.reduceLT, Int.reduceLE, Int.reduceGT, Int.reduceGE, Int.reduceEq, Int.reduceNe, Int.reduceBEq, Int.reduceBNe, Int.reduceToNat, Int.reduceNeg]

def SeqE (l m : List En) (i : { i : Nat // allTo (eqAt (fun x y => decide (x = y)) l m) i = true }) : St :=
  ⟨[(1, true, .d (.sl 4 (m.map encEn))), (2, true, .d (.func (.func 94) [] [])), (15, true, .d (.sl 4 (l.map encEn))), (16, true, .d (.int .i64 l.length)), (17, true, .d (.int .i64 (i.val : Nat)))], [], [], 1⟩

set_option maxRecDepth 10000 in
theorem eqEns_ok (l m : List En) (hl : l.length ≤ 1000) (hp : ∀ x ∈ l, x.Sm) :
    ACall Try.prog 93 [.d (.sl 4 (l.map encEn)), .d (.sl 4 (m.map encEn)), .d (.func (.func 94) [] [])] [] (.d (.bool (decide (l = m)))) [] := by
  refine F93.go ?_
  try (refine ev ?_; try exact True.intro)
  refine iff_ _ (fun h => ?_) (fun h => ?_)
  · have hne : decide (l = m) = false := by rw [decide_eq_false_iff_not]; rintro rfl; simp at h
    try simp only [hne, go_sem, Nat.reduceAdd, Nat.reduceMul, Nat.reduceSub, Nat.reduceEqDiff, Nat.reduceLT, Nat.reduceLeDiff, Nat.reduceBEq, reduceIte, reduceCtorEq, Int.reduceAdd, Int.reduceLT, Int.reduceLE, Int.reduceGT, Int.reduceGE, Int.reduceEq, Int.reduceNe, Int.reduceBEq, Int.reduceBNe, Int.reduceToNat, Int.reduceNeg]
  · have hlm : l.length = m.length := by simp at h; omega
    try (refine ev ?_; try exact True.intro)
    refine AWp_loop (SeqE l m) (fun i => l.length - i.val) ⟨0, rfl⟩ ?_ (fun i => ?_)
    · try simp only [SeqE, go_sem, Nat.reduceAdd, Nat.reduceMul, Nat.reduceSub, Nat.reduceEqDiff, Nat.reduceLT, Nat.reduceLeDiff, Nat.reduceBEq, reduceIte, reduceCtorEq, Int.reduceAdd, Int.reduceLT, Int.reduceLE, Int.reduceGT, Int.reduceGE, Int.reduceEq, Int.reduceNe, Int.reduceBEq, Int.reduceBNe, Int.reduceToNat, Int.reduceNeg]
    · obtain ⟨i, hi⟩ := i
      try simp only [SeqE, go_sem, Nat.reduceAdd, Nat.reduceMul, Nat.reduceSub, Nat.reduceEqDiff, Nat.reduceLT, Nat.reduceLeDiff, Nat.reduceBEq, reduceIte, reduceCtorEq, Int.reduceAdd, Int.reduceLT, Int.reduceLE, Int.reduceGT, Int.reduceGE, Int.reduceEq, Int.reduceNe, Int.reduceBEq, Int.reduceBNe, Int.reduceToNat, Int.reduceNeg]
      refine iff_ _ (fun h => ?_) (fun h => ?_)
      · have hil : i < l.length := by simpa using h
        have him : i < m.length := by omega
        simp only [getD_map encEn l hil, getD_map encEn m him, encEn, go_sem, Nat.reduceAdd, Nat.reduceMul, Nat.reduceSub, Nat.reduceEqDiff, Nat.reduceLT, Nat.reduceLeDiff, Nat.reduceBEq, reduceIte, reduceCtorEq, Int.reduceAdd, Int.reduceLT, Int.reduceLE, Int.reduceGT, Int.reduceGE, Int.reduceEq, Int.reduceNe, Int.reduceBEq, Int.reduceBNe, Int.reduceToNat, Int.reduceNeg]
        (repeat (with_reducible refine ob ?_))
        (repeat (with_reducible refine ob ?_)); first | refine cl F94 (enEqual_ok l[i] m[i] (hp _ (List.getElem_mem hil))) ?_ | refine clF F94 (enEqual_ok l[i] m[i] (hp _ (List.getElem_mem hil))) (fun _ => by simp only [encEn, encMg, go_sem, Nat.reduceAdd, Nat.reduceMul, Nat.reduceSub, Nat.reduceEqDiff, Nat.reduceLT, Nat.reduceLeDiff, Nat.reduceBEq, reduceIte, reduceCtorEq, Int.reduceAdd, Int.reduceLT, Int.reduceLE, Int.reduceGT, Int.reduceGE, Int.reduceEq, Int.reduceNe, Int.reduceBEq, Int.reduceBNe, Int.reduceToNat, Int.reduceNeg]) ?_
        try (refine ev ?_; try exact True.intro)
        refine iff_ _ (fun h2 => ?_) (fun h2 => ?_)
        · have hne : l[i] ≠ m[i] := by simpa using h2
          try simp only [eq_ne hil him hne, go_sem, Nat.reduceAdd, Nat.reduceMul, Nat.reduceSub, Nat.reduceEqDiff, Nat.reduceLT, Nat.reduceLeDiff, Nat.reduceBEq, reduceIte, reduceCtorEq, Int.reduceAdd, Int.reduceLT, Int.reduceLE, Int.reduceGT, Int.reduceGE, Int.reduceEq, Int.reduceNe, Int.reduceBEq, Int.reduceBNe, Int.reduceToNat, Int.reduceNeg]
        · have he : l[i] = m[i] := by simpa using h2
          try (refine ev ?_; try exact True.intro)
          refine ⟨⟨i + 1, allTo_step hi (by simp [eqAt, hil, him, he])⟩, ?_, by dsimp only; omega⟩
          try simp only [SeqE, wrap_succ (show i < 9223372036854775807 by omega), go_sem, Nat.reduceAdd, Nat.reduceMul, Nat.reduceSub, Nat.reduceEqDiff, Nat.reduceLT, Nat.reduceLeDiff, Nat.reduceBEq, reduceIte, reduceCtorEq, Int.reduceAdd, Int.reduceLT, Int.reduceLE, Int.reduceGT, Int.reduceGE, Int.reduceEq, Int.reduceNe, Int.reduceBEq, Int.reduceBNe, Int.reduceToNat, Int.reduceNeg]
      · have he : decide (l = m) = true := by
          have : l.length ≤ i := by simpa using h
          rw [← eqBy_eq]
          simp only [eqBy, hlm, beq_self_eq_true, Bool.true_and]
          exact allTo_iff.2 fun j hj => allTo_iff.1 hi j (by omega)
        try simp only [he, go_sem, Nat.reduceAdd, Nat.reduceMul, Nat.reduceSub, Nat.reduceEqDiff, Nat.reduceLT, Nat.reduceLeDiff, Nat.reduceBEq, reduceIte, reduceCtorEq, Int.reduceAdd, Int.reduceLT, Int.reduceLE, Int.reduceGT, Int.reduceGE, Int.reduceEq, Int.reduceNe, Int.reduceBEq, Int.reduceBNe, Int.reduceToNat, Int.reduceNeg]

theorem beq_Mg (a b : Mg) : (a.roles == b.roles && decide (a.ents = b.ents)) = decide (a = b) := by
  obtain ⟨a1, a2⟩ := a
  obtain ⟨b1, b2⟩ := b
  rw [Bool.eq_iff_iff]
  simp

theorem mgEqual_ok (a b : Mg) (ha : a.Sm) : ACall Try.prog 62 [.d (.agg (encMg a)), .d (.agg (encMg b))] [] (.d (.bool (decide (a = b)))) [] := by
  refine F62.go ?_
  try simp only [encMg, go_sem, Nat.reduceAdd, Nat.reduceMul, Nat.reduceSub, Nat.reduceEqDiff, Nat.reduceLT, Nat.reduceLeDiff, Nat.reduceBEq, reduceIte, reduceCtorEq, Int.reduceAdd, Int.reduceLT, Int.reduceLE, Int.reduceGT, Int.reduceGE, Int.reduceEq, Int.reduceNe, Int.reduceBEq, Int.reduceBNe, Int.reduceToNat, Int.reduceNeg]
  (repeat (with_reducible refine ob ?_)); first | refine cl F93 (eqEns_ok a.ents b.ents ha.1 ha.2) ?_ | refine clF F93 (eqEns_ok a.ents b.ents ha.1 ha.2) (fun _ => by simp only [encEn, encMg, go_sem, Nat.reduceAdd, Nat.reduceMul, Nat.reduceSub, Nat.reduceEqDiff, Nat.reduceLT, Nat.reduceLeDiff, Nat.reduceBEq, reduceIte, reduceCtorEq, Int.reduceAdd, Int.reduceLT, Int.reduceLE, Int.reduceGT, Int.reduceGE, Int.reduceEq, Int.reduceNe, Int.reduceBEq, Int.reduceBNe, Int.reduceToNat, Int.reduceNeg]) ?_
  try (refine ev ?_; try exact True.intro)
  exact beq_Mg a b

def upNew (n : Int) : Mg × Int := if decide (n < 1) || decide (n > 6) then (⟨0, []⟩, 2) else (⟨n, []⟩, 0)
theorem upNew_ok (n : Int) : ACall Try.prog 48 [.d (.int .i64 n)] [] (.tup [.d (.agg (encMg (upNew n).1)), .d (.int .i64 (upNew n).2)]) [] := by
  refine F48.goT ?_
  try (refine ev ?_; try exact True.intro)
  (repeat (with_reducible refine ob ?_)); refine iff_ _ (fun h => ?_) (fun h => ?_)
  · try simp only [upNew, h, encMg, List.map_nil, go_sem, Nat.reduceAdd, Nat.reduceMul, Nat.reduceSub, Nat.reduceEqDiff, Nat.reduceLT, Nat.reduceLeDiff, Nat.reduceBEq, reduceIte, reduceCtorEq, Int.reduceAdd, Int.reduceLT, Int.reduceLE, Int.reduceGT, Int.reduceGE, Int.reduceEq, Int.reduceNe, Int.reduceBEq, Int.reduceBNe, Int.reduceToNat, Int.reduceNeg]
  · try simp only [upNew, h, encMg, List.map_nil, go_sem, Nat.reduceAdd, Nat.reduceMul, Nat.reduceSub, Nat.reduceEqDiff, Nat.reduceLT, Nat.reduceLeDiff, Nat.reduceBEq, reduceIte, reduceCtorEq, Int.reduceAdd, Int.reduceLT, Int.reduceLE, Int.reduceGT, Int.reduceGE, Int.reduceEq, Int.reduceNe, Int.reduceBEq, Int.reduceBNe, Int.reduceToNat, Int.reduceNeg]
end Go.Proofs.Ythcpckcgjplhiaa
