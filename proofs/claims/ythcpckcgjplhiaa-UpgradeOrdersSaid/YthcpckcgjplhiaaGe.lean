/- The reference of layer 53: the functions that only look. -/
import Derived.Test.YthcpckcgjplhiaaGb
namespace Go.Proofs.Ythcpckcgjplhiaa
open Go.Abs
set_option linter.unusedSimpArgs false

section
variable {P : Program} {k0 o : Nat} {p : List (Nat × Nat)} {Q : SExit → St → Prop} {st : St}
noncomputable def s116r0 : List SOper := [
  ⟨some 2, .mov (.k (.d (.bool false))), none⟩]
noncomputable def s116r1 : List SOper := [
  ⟨some 3, .mov (.k (.d (.int .i64 0))), none⟩]
noncomputable def s116r2 : List SOper := [
  ⟨some 4, .mov (.t 3), none⟩,
  ⟨some 5, .mov (.t 0), none⟩,
  ⟨some 6, .len (.t 5), none⟩,
  ⟨some 7, .bin .lss (.t 4) (.t 6), none⟩]
noncomputable def s116r3 : List SOper := [
  ⟨some 10, .mov (.t 0), none⟩,
  ⟨some 11, .mov (.t 3), none⟩,
  ⟨some 12, .iaddr 1 (.t 10) (.t 11), none⟩,
  ⟨some 13, .load none (.t 12), none⟩,
  ⟨some 14, .not (.t 13), none⟩]
noncomputable def s116r4 : List SOper := [
  ⟨some 2, .mov (.k (.d (.bool false))), none⟩]
noncomputable def s116r5 : List SOper := [
  ⟨some 8, .mov (.t 3), none⟩,
  ⟨some 9, .bin .add (.t 8) (.k (.d (.int .i64 1))), none⟩,
  ⟨some 3, .mov (.t 9), none⟩]
noncomputable def s116l6 : SCode := (.seq (.seq (.region s116r2 0 []) (.cond (.t 7) .skip (.exit 0))) (.seq (.block 1 (.seq (.region s116r3 0 []) (.cond (.t 14) (.seq (.region s116r4 0 []) .ret) .skip))) (.region s116r5 0 [])))
theorem e116l6 : AWp P k0 s116l6 Q st = AWp P k0 (.seq (.seq (.region s116r2 0 []) (.cond (.t 7) .skip (.exit 0))) (.seq (.block 1 (.seq (.region s116r3 0 []) (.cond (.t 14) (.seq (.region s116r4 0 []) .ret) .skip))) (.region s116r5 0 []))) Q st := rfl
noncomputable def s116r7 : List SOper := [
  ⟨some 2, .mov (.k (.d (.bool true))), none⟩]
noncomputable def s116 : SCode := (.seq (.region s116r0 0 []) (.seq (.seq (.region s116r1 0 []) (.block 0 (.loop s116l6))) (.seq (.region s116r7 0 []) .ret)))
theorem e116 : AWp P k0 s116 Q st = AWp P k0 (.seq (.region s116r0 0 []) (.seq (.seq (.region s116r1 0 []) (.block 0 (.loop s116l6))) (.seq (.region s116r7 0 []) .ret))) Q st := rfl
theorem u116r0 : goReg P s116r0 o p Q st = goLit P (litOf s116r0.eq_1) o p Q st := goReg_of _
theorem u116r1 : goReg P s116r1 o p Q st = goLit P (litOf s116r1.eq_1) o p Q st := goReg_of _
theorem u116r2 : goReg P s116r2 o p Q st = goLit P (litOf s116r2.eq_1) o p Q st := goReg_of _
theorem u116r3 : goReg P s116r3 o p Q st = goLit P (litOf s116r3.eq_1) o p Q st := goReg_of _
theorem u116r4 : goReg P s116r4 o p Q st = goLit P (litOf s116r4.eq_1) o p Q st := goReg_of _
theorem u116r5 : goReg P s116r5 o p Q st = goLit P (litOf s116r5.eq_1) o p Q st := goReg_of _
theorem u116r7 : goReg P s116r7 o p Q st = goLit P (litOf s116r7.eq_1) o p Q st := goReg_of _
attribute [go_sem] u116r0 u116r1 u116r2 u116r3 u116r4 u116r5 e116l6 u116r7 e116
set_option maxRecDepth 100000 in
theorem F116 : FnIs Try.prog 116 Try.f116 [] news s116 [.tmp 2] 15 := ⟨follows, Try.func116, by kernel_rfl, by kernel_rfl, by kernel_rfl, by kernel_rfl⟩

noncomputable def s117r0 : List SOper := [
  ⟨some 2, .mov (.k (.d (.bool false))), none⟩]
noncomputable def s117r1 : List SOper := [
  ⟨some 3, .mov (.k (.d (.int .i64 0))), none⟩]
noncomputable def s117r2 : List SOper := [
  ⟨some 4, .mov (.t 3), none⟩,
  ⟨some 5, .mov (.t 0), none⟩,
  ⟨some 6, .len (.t 5), none⟩,
  ⟨some 7, .bin .lss (.t 4) (.t 6), none⟩]
noncomputable def s117r3 : List SOper := [
  ⟨some 10, .mov (.t 0), none⟩,
  ⟨some 11, .mov (.t 3), none⟩,
  ⟨some 12, .iaddr 1 (.t 10) (.t 11), none⟩,
  ⟨some 13, .load none (.t 12), none⟩]
noncomputable def s117r4 : List SOper := [
  ⟨some 2, .mov (.k (.d (.bool true))), none⟩]
noncomputable def s117r5 : List SOper := [
  ⟨some 8, .mov (.t 3), none⟩,
  ⟨some 9, .bin .add (.t 8) (.k (.d (.int .i64 1))), none⟩,
  ⟨some 3, .mov (.t 9), none⟩]
noncomputable def s117l6 : SCode := (.seq (.seq (.region s117r2 0 []) (.cond (.t 7) .skip (.exit 0))) (.seq (.block 1 (.seq (.region s117r3 0 []) (.cond (.t 13) (.seq (.region s117r4 0 []) .ret) .skip))) (.region s117r5 0 [])))
theorem e117l6 : AWp P k0 s117l6 Q st = AWp P k0 (.seq (.seq (.region s117r2 0 []) (.cond (.t 7) .skip (.exit 0))) (.seq (.block 1 (.seq (.region s117r3 0 []) (.cond (.t 13) (.seq (.region s117r4 0 []) .ret) .skip))) (.region s117r5 0 []))) Q st := rfl
noncomputable def s117r7 : List SOper := [
  ⟨some 2, .mov (.k (.d (.bool false))), none⟩]
noncomputable def s117 : SCode := (.seq (.region s117r0 0 []) (.seq (.seq (.region s117r1 0 []) (.block 0 (.loop s117l6))) (.seq (.region s117r7 0 []) .ret)))
theorem e117 : AWp P k0 s117 Q st = AWp P k0 (.seq (.region s117r0 0 []) (.seq (.seq (.region s117r1 0 []) (.block 0 (.loop s117l6))) (.seq (.region s117r7 0 []) .ret))) Q st := rfl
theorem u117r0 : goReg P s117r0 o p Q st = goLit P (litOf s117r0.eq_1) o p Q st := goReg_of _
theorem u117r1 : goReg P s117r1 o p Q st = goLit P (litOf s117r1.eq_1) o p Q st := goReg_of _
theorem u117r2 : goReg P s117r2 o p Q st = goLit P (litOf s117r2.eq_1) o p Q st := goReg_of _
theorem u117r3 : goReg P s117r3 o p Q st = goLit P (litOf s117r3.eq_1) o p Q st := goReg_of _
theorem u117r4 : goReg P s117r4 o p Q st = goLit P (litOf s117r4.eq_1) o p Q st := goReg_of _
theorem u117r5 : goReg P s117r5 o p Q st = goLit P (litOf s117r5.eq_1) o p Q st := goReg_of _
theorem u117r7 : goReg P s117r7 o p Q st = goLit P (litOf s117r7.eq_1) o p Q st := goReg_of _
attribute [go_sem] u117r0 u117r1 u117r2 u117r3 u117r4 u117r5 e117l6 u117r7 e117
set_option maxRecDepth 100000 in
theorem F117 : FnIs Try.prog 117 Try.f117 [] news s117 [.tmp 2] 14 := ⟨follows, Try.func117, by kernel_rfl, by kernel_rfl, by kernel_rfl, by kernel_rfl⟩

noncomputable def s91r0 : List SOper := [
  ⟨some 1, .box 1 (.t 0), none⟩,
  ⟨some 2, .mov (.k (.d (.int .i64 0))), none⟩]
noncomputable def s91r1 : List SOper := [
  ⟨some 4, .faddr 2 (.t 1), none⟩,
  ⟨some 5, .load none (.t 4), none⟩,
  ⟨some 6, .call (.k (.d (.func (.func 116) [] []))) [(.t 5)], none⟩,
  ⟨some 7, .not (.t 6), none⟩,
  ⟨some 8, .mov (.t 7), none⟩,
  ⟨some 9, .faddr 3 (.t 1), some (8, true)⟩,
  ⟨some 10, .load none (.t 9), some (8, true)⟩,
  ⟨some 11, .call (.k (.d (.func (.func 117) [] []))) [(.t 10)], some (8, true)⟩,
  ⟨some 12, .not (.t 11), some (8, true)⟩,
  ⟨some 13, .pick (.t 8) (.t 12) (.k (.d (.bool false))), none⟩,
  ⟨some 3, .mov (.t 13), none⟩]
noncomputable def s91r2 : List SOper := [
  ⟨some 2, .mov (.k (.d (.int .i64 1))), none⟩]
noncomputable def s91r3 : List SOper := [
  ⟨some 15, .faddr 2 (.t 1), none⟩,
  ⟨some 16, .load none (.t 15), none⟩,
  ⟨some 17, .call (.k (.d (.func (.func 116) [] []))) [(.t 16)], none⟩,
  ⟨some 18, .mov (.t 17), none⟩,
  ⟨some 19, .faddr 3 (.t 1), some (18, true)⟩,
  ⟨some 20, .load none (.t 19), some (18, true)⟩,
  ⟨some 21, .call (.k (.d (.func (.func 116) [] []))) [(.t 20)], some (18, true)⟩,
  ⟨some 22, .not (.t 21), some (18, true)⟩,
  ⟨some 23, .pick (.t 18) (.t 22) (.k (.d (.bool false))), none⟩,
  ⟨some 14, .mov (.t 23), none⟩]
noncomputable def s91r4 : List SOper := [
  ⟨some 2, .mov (.k (.d (.int .i64 2))), none⟩]
noncomputable def s91r5 : List SOper := [
  ⟨some 25, .faddr 2 (.t 1), none⟩,
  ⟨some 26, .load none (.t 25), none⟩,
  ⟨some 27, .call (.k (.d (.func (.func 116) [] []))) [(.t 26)], none⟩,
  ⟨some 28, .mov (.t 27), none⟩,
  ⟨some 29, .faddr 3 (.t 1), some (28, true)⟩,
  ⟨some 30, .load none (.t 29), some (28, true)⟩,
  ⟨some 31, .call (.k (.d (.func (.func 116) [] []))) [(.t 30)], some (28, true)⟩,
  ⟨some 32, .pick (.t 28) (.t 31) (.k (.d (.bool false))), none⟩,
  ⟨some 24, .mov (.t 32), none⟩]
noncomputable def s91r6 : List SOper := [
  ⟨some 2, .mov (.k (.d (.int .i64 3))), none⟩]
noncomputable def s91r7 : List SOper := [
  ⟨some 2, .mov (.k (.d (.int .i64 0))), none⟩]
noncomputable def s91 : SCode := (.seq (.region s91r0 1 []) (.seq (.block 0 (.seq (.region s91r1 0 []) (.cond (.t 3) (.seq (.region s91r2 0 []) .ret) (.seq (.region s91r3 0 []) (.cond (.t 14) (.seq (.region s91r4 0 []) .ret) (.seq (.region s91r5 0 []) (.cond (.t 24) (.seq (.region s91r6 0 []) .ret) .skip))))))) (.seq (.region s91r7 0 []) .ret)))
theorem e91 : AWp P k0 s91 Q st = AWp P k0 (.seq (.region s91r0 1 []) (.seq (.block 0 (.seq (.region s91r1 0 []) (.cond (.t 3) (.seq (.region s91r2 0 []) .ret) (.seq (.region s91r3 0 []) (.cond (.t 14) (.seq (.region s91r4 0 []) .ret) (.seq (.region s91r5 0 []) (.cond (.t 24) (.seq (.region s91r6 0 []) .ret) .skip))))))) (.seq (.region s91r7 0 []) .ret))) Q st := rfl
theorem u91r0 : goReg P s91r0 o p Q st = goLit P (litOf s91r0.eq_1) o p Q st := goReg_of _
theorem u91r1 : goReg P s91r1 o p Q st = goLit P (litOf s91r1.eq_1) o p Q st := goReg_of _
theorem u91r2 : goReg P s91r2 o p Q st = goLit P (litOf s91r2.eq_1) o p Q st := goReg_of _
theorem u91r3 : goReg P s91r3 o p Q st = goLit P (litOf s91r3.eq_1) o p Q st := goReg_of _
theorem u91r4 : goReg P s91r4 o p Q st = goLit P (litOf s91r4.eq_1) o p Q st := goReg_of _
theorem u91r5 : goReg P s91r5 o p Q st = goLit P (litOf s91r5.eq_1) o p Q st := goReg_of _
theorem u91r6 : goReg P s91r6 o p Q st = goLit P (litOf s91r6.eq_1) o p Q st := goReg_of _
theorem u91r7 : goReg P s91r7 o p Q st = goLit P (litOf s91r7.eq_1) o p Q st := goReg_of _
attribute [go_sem] u91r0 u91r1 u91r2 u91r3 u91r4 u91r5 u91r6 u91r7 e91
set_option maxRecDepth 100000 in
theorem F91 : FnIs Try.prog 91 Try.f91 [] news s91 [.tmp 2] 33 := ⟨follows, Try.func91, by kernel_rfl, by kernel_rfl, by kernel_rfl, by kernel_rfl⟩

noncomputable def s60r0 : List SOper := [
  ⟨some 1, .box 1 (.t 0), none⟩,
  ⟨some 2, .mov (.k (.d (.bool false))), none⟩]
noncomputable def s60r1 : List SOper := [
  ⟨some 5, .faddr 0 (.t 1), none⟩,
  ⟨some 6, .load none (.t 5), none⟩,
  ⟨some 7, .bin .lss (.t 6) (.k (.d (.int .i64 1))), none⟩,
  ⟨some 8, .mov (.t 7), none⟩,
  ⟨some 9, .faddr 0 (.t 1), some (8, false)⟩,
  ⟨some 10, .load none (.t 9), some (8, false)⟩,
  ⟨some 11, .bin .gtr (.t 10) (.k (.d (.int .i64 6))), some (8, false)⟩,
  ⟨some 12, .pick (.t 8) (.k (.d (.bool true))) (.t 11), none⟩]
noncomputable def s60r2 : List SOper := [
  ⟨some 2, .mov (.k (.d (.bool false))), none⟩]
noncomputable def s60r3 : List SOper := [
  ⟨some 3, .mov (.k (.d (.int .i64 0))), none⟩]
noncomputable def s60r4 : List SOper := [
  ⟨some 13, .mov (.t 3), none⟩,
  ⟨some 14, .faddr 1 (.t 1), none⟩,
  ⟨some 15, .load none (.t 14), none⟩,
  ⟨some 16, .len (.t 15), none⟩,
  ⟨some 17, .bin .lss (.t 13) (.t 16), none⟩]
noncomputable def s60r5 : List SOper := [
  ⟨some 20, .faddr 1 (.t 1), none⟩,
  ⟨some 21, .load none (.t 20), none⟩,
  ⟨some 22, .mov (.t 3), none⟩,
  ⟨some 23, .iaddr 4 (.t 21) (.t 22), none⟩,
  ⟨some 24, .load (some 4) (.t 23), none⟩,
  ⟨some 4, .alloc 1 [(.d (.int .i64 0)), (.d (.int .i64 0)), (.d .nilsl), (.d .nilsl)], none⟩,
  ⟨none, .store (some 4) (.t 4) (.t 24), none⟩]
noncomputable def s60r6 : List SOper := [
  ⟨some 25, .faddr 0 (.t 4), none⟩,
  ⟨some 26, .load none (.t 25), none⟩,
  ⟨some 27, .bin .lss (.t 26) (.k (.d (.int .i64 1))), none⟩,
  ⟨some 28, .mov (.t 27), none⟩,
  ⟨some 29, .faddr 0 (.t 4), some (28, false)⟩,
  ⟨some 30, .load none (.t 29), some (28, false)⟩,
  ⟨some 31, .bin .gtr (.t 30) (.k (.d (.int .i64 32))), some (28, false)⟩,
  ⟨some 32, .pick (.t 28) (.k (.d (.bool true))) (.t 31), none⟩,
  ⟨some 33, .mov (.t 32), none⟩,
  ⟨some 34, .mov (.t 3), some (33, false)⟩,
  ⟨some 35, .bin .gtr (.t 34) (.k (.d (.int .i64 0))), some (33, false)⟩,
  ⟨some 36, .mov (.t 35), some (33, false)⟩,
  ⟨some 37, .faddr 1 (.t 1), some (36, true)⟩,
  ⟨some 38, .load none (.t 37), some (36, true)⟩,
  ⟨some 39, .mov (.t 3), some (36, true)⟩,
  ⟨some 40, .bin .sub (.t 39) (.k (.d (.int .i64 1))), some (36, true)⟩,
  ⟨some 41, .iaddr 4 (.t 38) (.t 40), some (36, true)⟩,
  ⟨some 42, .faddr 0 (.t 41), some (36, true)⟩,
  ⟨some 43, .load none (.t 42), some (36, true)⟩,
  ⟨some 44, .faddr 0 (.t 4), some (36, true)⟩,
  ⟨some 45, .load none (.t 44), some (36, true)⟩,
  ⟨some 46, .bin .geq (.t 43) (.t 45), some (36, true)⟩,
  ⟨some 47, .pick (.t 36) (.t 46) (.k (.d (.bool false))), some (33, false)⟩,
  ⟨some 48, .pick (.t 33) (.k (.d (.bool true))) (.t 47), none⟩,
  ⟨some 49, .mov (.t 48), none⟩,
  ⟨some 50, .faddr 2 (.t 4), some (49, false)⟩,
  ⟨some 51, .load none (.t 50), some (49, false)⟩,
  ⟨some 52, .len (.t 51), some (49, false)⟩,
  ⟨some 53, .faddr 0 (.t 1), some (49, false)⟩,
  ⟨some 54, .load none (.t 53), some (49, false)⟩,
  ⟨some 55, .bin .neq (.t 52) (.t 54), some (49, false)⟩,
  ⟨some 56, .pick (.t 49) (.k (.d (.bool true))) (.t 55), none⟩,
  ⟨some 57, .mov (.t 56), none⟩,
  ⟨some 58, .faddr 3 (.t 4), some (57, false)⟩,
  ⟨some 59, .load none (.t 58), some (57, false)⟩,
  ⟨some 60, .len (.t 59), some (57, false)⟩,
  ⟨some 61, .faddr 0 (.t 1), some (57, false)⟩,
  ⟨some 62, .load none (.t 61), some (57, false)⟩,
  ⟨some 63, .bin .neq (.t 60) (.t 62), some (57, false)⟩,
  ⟨some 64, .pick (.t 57) (.k (.d (.bool true))) (.t 63), none⟩,
  ⟨some 65, .mov (.t 64), none⟩,
  ⟨some 66, .faddr 1 (.t 4), some (65, false)⟩,
  ⟨some 67, .load none (.t 66), some (65, false)⟩,
  ⟨some 68, .bin .eql (.t 67) (.k (.d (.int .i64 0))), some (65, false)⟩,
  ⟨some 69, .pick (.t 65) (.k (.d (.bool true))) (.t 68), none⟩,
  ⟨some 70, .mov (.t 69), none⟩,
  ⟨some 71, .faddr 1 (.t 4), some (70, false)⟩,
  ⟨some 72, .load none (.t 71), some (70, false)⟩,
  ⟨some 73, .load (some 4) (.t 4), some (70, false)⟩,
  ⟨some 74, .call (.k (.d (.func (.func 91) [] []))) [(.t 73)], some (70, false)⟩,
  ⟨some 75, .bin .neq (.t 72) (.t 74), some (70, false)⟩,
  ⟨some 76, .pick (.t 70) (.k (.d (.bool true))) (.t 75), none⟩]
noncomputable def s60r7 : List SOper := [
  ⟨some 2, .mov (.k (.d (.bool false))), none⟩]
noncomputable def s60r8 : List SOper := [
  ⟨some 18, .mov (.t 3), none⟩,
  ⟨some 19, .bin .add (.t 18) (.k (.d (.int .i64 1))), none⟩,
  ⟨some 3, .mov (.t 19), none⟩]
noncomputable def s60l9 : SCode := (.seq (.seq (.region s60r4 0 []) (.cond (.t 17) .skip (.exit 0))) (.seq (.block 1 (.seq (.region s60r5 1 []) (.seq (.region s60r6 0 [(47, 49)]) (.cond (.t 76) (.seq (.region s60r7 0 []) .ret) .skip)))) (.region s60r8 0 [])))
theorem e60l9 : AWp P k0 s60l9 Q st = AWp P k0 (.seq (.seq (.region s60r4 0 []) (.cond (.t 17) .skip (.exit 0))) (.seq (.block 1 (.seq (.region s60r5 1 []) (.seq (.region s60r6 0 [(47, 49)]) (.cond (.t 76) (.seq (.region s60r7 0 []) .ret) .skip)))) (.region s60r8 0 []))) Q st := rfl
noncomputable def s60r10 : List SOper := [
  ⟨some 2, .mov (.k (.d (.bool true))), none⟩]
noncomputable def s60 : SCode := (.seq (.region s60r0 1 []) (.seq (.seq (.region s60r1 0 []) (.cond (.t 12) (.seq (.region s60r2 0 []) .ret) .skip)) (.seq (.seq (.region s60r3 0 []) (.block 0 (.loop s60l9))) (.seq (.region s60r10 0 []) .ret))))
theorem e60 : AWp P k0 s60 Q st = AWp P k0 (.seq (.region s60r0 1 []) (.seq (.seq (.region s60r1 0 []) (.cond (.t 12) (.seq (.region s60r2 0 []) .ret) .skip)) (.seq (.seq (.region s60r3 0 []) (.block 0 (.loop s60l9))) (.seq (.region s60r10 0 []) .ret)))) Q st := rfl
theorem u60r0 : goReg P s60r0 o p Q st = goLit P (litOf s60r0.eq_1) o p Q st := goReg_of _
theorem u60r1 : goReg P s60r1 o p Q st = goLit P (litOf s60r1.eq_1) o p Q st := goReg_of _
theorem u60r2 : goReg P s60r2 o p Q st = goLit P (litOf s60r2.eq_1) o p Q st := goReg_of _
theorem u60r3 : goReg P s60r3 o p Q st = goLit P (litOf s60r3.eq_1) o p Q st := goReg_of _
theorem u60r4 : goReg P s60r4 o p Q st = goLit P (litOf s60r4.eq_1) o p Q st := goReg_of _
theorem u60r5 : goReg P s60r5 o p Q st = goLit P (litOf s60r5.eq_1) o p Q st := goReg_of _
theorem u60r6 : goReg P s60r6 o p Q st = goLit P (litOf s60r6.eq_1) o p Q st := goReg_of _
theorem u60r7 : goReg P s60r7 o p Q st = goLit P (litOf s60r7.eq_1) o p Q st := goReg_of _
theorem u60r8 : goReg P s60r8 o p Q st = goLit P (litOf s60r8.eq_1) o p Q st := goReg_of _
theorem u60r10 : goReg P s60r10 o p Q st = goLit P (litOf s60r10.eq_1) o p Q st := goReg_of _
attribute [go_sem] u60r0 u60r1 u60r2 u60r3 u60r4 u60r5 u60r6 u60r7 u60r8 e60l9 u60r10 e60
set_option maxRecDepth 100000 in
theorem F60 : FnIs Try.prog 60 Try.f60 [] news s60 [.tmp 2] 77 := ⟨follows, Try.func60, by kernel_rfl, by kernel_rfl, by kernel_rfl, by kernel_rfl⟩

noncomputable def s89r0 : List SOper := [
  ⟨some 2, .box 1 (.t 0), none⟩,
  ⟨some 4, .mov (.k (.d (.int .i64 0))), none⟩]
noncomputable def s89r1 : List SOper := [
  ⟨some 5, .mov (.k (.d (.int .i64 0))), none⟩]
noncomputable def s89r2 : List SOper := [
  ⟨some 6, .mov (.t 5), none⟩,
  ⟨some 7, .faddr 1 (.t 2), none⟩,
  ⟨some 8, .load none (.t 7), none⟩,
  ⟨some 9, .len (.t 8), none⟩,
  ⟨some 10, .bin .lss (.t 6) (.t 9), none⟩]
noncomputable def s89r3 : List SOper := [
  ⟨some 13, .faddr 1 (.t 2), none⟩,
  ⟨some 14, .load none (.t 13), none⟩,
  ⟨some 15, .mov (.t 5), none⟩,
  ⟨some 16, .iaddr 4 (.t 14) (.t 15), none⟩,
  ⟨some 17, .faddr 0 (.t 16), none⟩,
  ⟨some 18, .load none (.t 17), none⟩,
  ⟨some 19, .mov (.t 1), none⟩,
  ⟨some 20, .bin .eql (.t 18) (.t 19), none⟩]
noncomputable def s89r4 : List SOper := [
  ⟨some 21, .mov (.t 5), none⟩,
  ⟨some 4, .mov (.t 21), none⟩]
noncomputable def s89r5 : List SOper := [
  ⟨some 11, .mov (.t 5), none⟩,
  ⟨some 12, .bin .add (.t 11) (.k (.d (.int .i64 1))), none⟩,
  ⟨some 5, .mov (.t 12), none⟩]
noncomputable def s89l6 : SCode := (.seq (.seq (.region s89r2 0 []) (.cond (.t 10) .skip (.exit 0))) (.seq (.block 1 (.seq (.region s89r3 0 []) (.cond (.t 20) (.seq (.region s89r4 0 []) .ret) .skip))) (.region s89r5 0 [])))
theorem e89l6 : AWp P k0 s89l6 Q st = AWp P k0 (.seq (.seq (.region s89r2 0 []) (.cond (.t 10) .skip (.exit 0))) (.seq (.block 1 (.seq (.region s89r3 0 []) (.cond (.t 20) (.seq (.region s89r4 0 []) .ret) .skip))) (.region s89r5 0 []))) Q st := rfl
noncomputable def s89r7 : List SOper := [
  ⟨some 4, .mov (.k (.d (.int .i64 (-1)))), none⟩]
noncomputable def s89 : SCode := (.seq (.region s89r0 1 []) (.seq (.seq (.region s89r1 0 []) (.block 0 (.loop s89l6))) (.seq (.region s89r7 0 []) .ret)))
theorem e89 : AWp P k0 s89 Q st = AWp P k0 (.seq (.region s89r0 1 []) (.seq (.seq (.region s89r1 0 []) (.block 0 (.loop s89l6))) (.seq (.region s89r7 0 []) .ret))) Q st := rfl
theorem u89r0 : goReg P s89r0 o p Q st = goLit P (litOf s89r0.eq_1) o p Q st := goReg_of _
theorem u89r1 : goReg P s89r1 o p Q st = goLit P (litOf s89r1.eq_1) o p Q st := goReg_of _
theorem u89r2 : goReg P s89r2 o p Q st = goLit P (litOf s89r2.eq_1) o p Q st := goReg_of _
theorem u89r3 : goReg P s89r3 o p Q st = goLit P (litOf s89r3.eq_1) o p Q st := goReg_of _
theorem u89r4 : goReg P s89r4 o p Q st = goLit P (litOf s89r4.eq_1) o p Q st := goReg_of _
theorem u89r5 : goReg P s89r5 o p Q st = goLit P (litOf s89r5.eq_1) o p Q st := goReg_of _
theorem u89r7 : goReg P s89r7 o p Q st = goLit P (litOf s89r7.eq_1) o p Q st := goReg_of _
attribute [go_sem] u89r0 u89r1 u89r2 u89r3 u89r4 u89r5 e89l6 u89r7 e89
set_option maxRecDepth 100000 in
theorem F89 : FnIs Try.prog 89 Try.f89 [] news s89 [.tmp 4] 22 := ⟨follows, Try.func89, by kernel_rfl, by kernel_rfl, by kernel_rfl, by kernel_rfl⟩

noncomputable def s61r0 : List SOper := [
  ⟨some 2, .box 1 (.t 0), none⟩,
  ⟨some 4, .mov (.k (.d (.int .i64 0))), none⟩]
noncomputable def s61r1 : List SOper := [
  ⟨some 6, .load (some 2) (.t 2), none⟩,
  ⟨some 7, .mov (.t 1), none⟩,
  ⟨some 8, .call (.k (.d (.func (.func 89) [] []))) [(.t 6), (.t 7)], none⟩,
  ⟨some 5, .mov (.t 8), none⟩]
noncomputable def s61r2 : List SOper := [
  ⟨some 9, .mov (.t 5), none⟩,
  ⟨some 10, .bin .geq (.t 9) (.k (.d (.int .i64 0))), none⟩]
noncomputable def s61r3 : List SOper := [
  ⟨some 11, .faddr 1 (.t 2), none⟩,
  ⟨some 12, .load none (.t 11), none⟩,
  ⟨some 13, .mov (.t 5), none⟩,
  ⟨some 14, .iaddr 4 (.t 12) (.t 13), none⟩,
  ⟨some 15, .faddr 1 (.t 14), none⟩,
  ⟨some 16, .load none (.t 15), none⟩,
  ⟨some 4, .mov (.t 16), none⟩]
noncomputable def s61r4 : List SOper := [
  ⟨some 4, .mov (.k (.d (.int .i64 0))), none⟩]
noncomputable def s61 : SCode := (.seq (.region s61r0 1 []) (.seq (.seq (.region s61r1 0 []) (.seq (.region s61r2 0 []) (.cond (.t 10) (.seq (.region s61r3 0 []) .ret) .skip))) (.seq (.region s61r4 0 []) .ret)))
theorem e61 : AWp P k0 s61 Q st = AWp P k0 (.seq (.region s61r0 1 []) (.seq (.seq (.region s61r1 0 []) (.seq (.region s61r2 0 []) (.cond (.t 10) (.seq (.region s61r3 0 []) .ret) .skip))) (.seq (.region s61r4 0 []) .ret))) Q st := rfl
theorem u61r0 : goReg P s61r0 o p Q st = goLit P (litOf s61r0.eq_1) o p Q st := goReg_of _
theorem u61r1 : goReg P s61r1 o p Q st = goLit P (litOf s61r1.eq_1) o p Q st := goReg_of _
theorem u61r2 : goReg P s61r2 o p Q st = goLit P (litOf s61r2.eq_1) o p Q st := goReg_of _
theorem u61r3 : goReg P s61r3 o p Q st = goLit P (litOf s61r3.eq_1) o p Q st := goReg_of _
theorem u61r4 : goReg P s61r4 o p Q st = goLit P (litOf s61r4.eq_1) o p Q st := goReg_of _
attribute [go_sem] u61r0 u61r1 u61r2 u61r3 u61r4 e61
set_option maxRecDepth 100000 in
theorem F61 : FnIs Try.prog 61 Try.f61 [] news s61 [.tmp 4] 17 := ⟨follows, Try.func61, by kernel_rfl, by kernel_rfl, by kernel_rfl, by kernel_rfl⟩

noncomputable def s92r0 : List SOper := [
  ⟨some 4, .mov (.k (.d (.bool false))), none⟩]
noncomputable def s92r1 : List SOper := [
  ⟨some 6, .mov (.t 0), none⟩,
  ⟨some 7, .len (.t 6), none⟩,
  ⟨some 8, .mov (.t 1), none⟩,
  ⟨some 9, .len (.t 8), none⟩,
  ⟨some 10, .bin .neq (.t 7) (.t 9), none⟩]
noncomputable def s92r2 : List SOper := [
  ⟨some 4, .mov (.k (.d (.bool false))), none⟩]
noncomputable def s92r3 : List SOper := [
  ⟨some 5, .mov (.k (.d (.int .i64 0))), none⟩]
noncomputable def s92r4 : List SOper := [
  ⟨some 11, .mov (.t 5), none⟩,
  ⟨some 12, .mov (.t 0), none⟩,
  ⟨some 13, .len (.t 12), none⟩,
  ⟨some 14, .bin .lss (.t 11) (.t 13), none⟩]
noncomputable def s92r5 : List SOper := [
  ⟨some 17, .mov (.t 0), none⟩,
  ⟨some 18, .mov (.t 5), none⟩,
  ⟨some 19, .iaddr 1 (.t 17) (.t 18), none⟩,
  ⟨some 20, .load none (.t 19), none⟩,
  ⟨some 21, .mov (.t 1), none⟩,
  ⟨some 22, .mov (.t 5), none⟩,
  ⟨some 23, .iaddr 1 (.t 21) (.t 22), none⟩,
  ⟨some 24, .load none (.t 23), none⟩,
  ⟨some 25, .eqb true (.t 20) (.t 24), none⟩]
noncomputable def s92r6 : List SOper := [
  ⟨some 4, .mov (.k (.d (.bool false))), none⟩]
noncomputable def s92r7 : List SOper := [
  ⟨some 15, .mov (.t 5), none⟩,
  ⟨some 16, .bin .add (.t 15) (.k (.d (.int .i64 1))), none⟩,
  ⟨some 5, .mov (.t 16), none⟩]
noncomputable def s92l8 : SCode := (.seq (.seq (.region s92r4 0 []) (.cond (.t 14) .skip (.exit 0))) (.seq (.block 1 (.seq (.region s92r5 0 []) (.cond (.t 25) (.seq (.region s92r6 0 []) .ret) .skip))) (.region s92r7 0 [])))
theorem e92l8 : AWp P k0 s92l8 Q st = AWp P k0 (.seq (.seq (.region s92r4 0 []) (.cond (.t 14) .skip (.exit 0))) (.seq (.block 1 (.seq (.region s92r5 0 []) (.cond (.t 25) (.seq (.region s92r6 0 []) .ret) .skip))) (.region s92r7 0 []))) Q st := rfl
noncomputable def s92r9 : List SOper := [
  ⟨some 4, .mov (.k (.d (.bool true))), none⟩]
noncomputable def s92 : SCode := (.seq (.region s92r0 0 []) (.seq (.seq (.region s92r1 0 []) (.cond (.t 10) (.seq (.region s92r2 0 []) .ret) .skip)) (.seq (.seq (.region s92r3 0 []) (.block 0 (.loop s92l8))) (.seq (.region s92r9 0 []) .ret))))
theorem e92 : AWp P k0 s92 Q st = AWp P k0 (.seq (.region s92r0 0 []) (.seq (.seq (.region s92r1 0 []) (.cond (.t 10) (.seq (.region s92r2 0 []) .ret) .skip)) (.seq (.seq (.region s92r3 0 []) (.block 0 (.loop s92l8))) (.seq (.region s92r9 0 []) .ret)))) Q st := rfl
theorem u92r0 : goReg P s92r0 o p Q st = goLit P (litOf s92r0.eq_1) o p Q st := goReg_of _
theorem u92r1 : goReg P s92r1 o p Q st = goLit P (litOf s92r1.eq_1) o p Q st := goReg_of _
theorem u92r2 : goReg P s92r2 o p Q st = goLit P (litOf s92r2.eq_1) o p Q st := goReg_of _
theorem u92r3 : goReg P s92r3 o p Q st = goLit P (litOf s92r3.eq_1) o p Q st := goReg_of _
theorem u92r4 : goReg P s92r4 o p Q st = goLit P (litOf s92r4.eq_1) o p Q st := goReg_of _
theorem u92r5 : goReg P s92r5 o p Q st = goLit P (litOf s92r5.eq_1) o p Q st := goReg_of _
theorem u92r6 : goReg P s92r6 o p Q st = goLit P (litOf s92r6.eq_1) o p Q st := goReg_of _
theorem u92r7 : goReg P s92r7 o p Q st = goLit P (litOf s92r7.eq_1) o p Q st := goReg_of _
theorem u92r9 : goReg P s92r9 o p Q st = goLit P (litOf s92r9.eq_1) o p Q st := goReg_of _
attribute [go_sem] u92r0 u92r1 u92r2 u92r3 u92r4 u92r5 u92r6 u92r7 e92l8 u92r9 e92
set_option maxRecDepth 100000 in
theorem F92 : FnIs Try.prog 92 Try.f92 [] news s92 [.tmp 4] 26 := ⟨follows, Try.func92, by kernel_rfl, by kernel_rfl, by kernel_rfl, by kernel_rfl⟩

noncomputable def s57r0 : List SOper := [
  ⟨some 2, .box 2 (.t 0), none⟩,
  ⟨some 3, .box 1 (.t 1), none⟩,
  ⟨some 4, .mov (.k (.d (.bool false))), none⟩]
noncomputable def s57r1 : List SOper := [
  ⟨some 8, .faddr 0 (.t 2), none⟩,
  ⟨some 9, .load none (.t 8), none⟩,
  ⟨some 10, .faddr 0 (.t 3), none⟩,
  ⟨some 11, .load none (.t 10), none⟩,
  ⟨some 12, .bin .neq (.t 9) (.t 11), none⟩,
  ⟨some 13, .mov (.t 12), none⟩,
  ⟨some 14, .faddr 1 (.t 2), some (13, false)⟩,
  ⟨some 15, .load none (.t 14), some (13, false)⟩,
  ⟨some 16, .len (.t 15), some (13, false)⟩,
  ⟨some 17, .faddr 1 (.t 3), some (13, false)⟩,
  ⟨some 18, .load none (.t 17), some (13, false)⟩,
  ⟨some 19, .len (.t 18), some (13, false)⟩,
  ⟨some 20, .bin .neq (.t 16) (.t 19), some (13, false)⟩,
  ⟨some 21, .pick (.t 13) (.k (.d (.bool true))) (.t 20), none⟩]
noncomputable def s57r2 : List SOper := [
  ⟨some 4, .mov (.k (.d (.bool false))), none⟩]
noncomputable def s57r3 : List SOper := [
  ⟨some 5, .mov (.k (.d (.int .i64 0))), none⟩]
noncomputable def s57r4 : List SOper := [
  ⟨some 22, .mov (.t 5), none⟩,
  ⟨some 23, .faddr 1 (.t 2), none⟩,
  ⟨some 24, .load none (.t 23), none⟩,
  ⟨some 25, .len (.t 24), none⟩,
  ⟨some 26, .bin .lss (.t 22) (.t 25), none⟩]
noncomputable def s57r5 : List SOper := [
  ⟨some 29, .faddr 1 (.t 2), none⟩,
  ⟨some 30, .load none (.t 29), none⟩,
  ⟨some 31, .mov (.t 5), none⟩,
  ⟨some 32, .iaddr 4 (.t 30) (.t 31), none⟩,
  ⟨some 33, .load (some 4) (.t 32), none⟩,
  ⟨some 34, .faddr 1 (.t 3), none⟩,
  ⟨some 35, .load none (.t 34), none⟩,
  ⟨some 36, .mov (.t 5), none⟩,
  ⟨some 37, .iaddr 4 (.t 35) (.t 36), none⟩,
  ⟨some 38, .load (some 4) (.t 37), none⟩,
  ⟨some 6, .alloc 2 [(.d (.int .i64 0)), (.d (.int .i64 0)), (.d .nilsl), (.d .nilsl)], none⟩,
  ⟨some 7, .alloc 1 [(.d (.int .i64 0)), (.d (.int .i64 0)), (.d .nilsl), (.d .nilsl)], none⟩,
  ⟨none, .store (some 4) (.t 6) (.t 33), none⟩,
  ⟨none, .store (some 4) (.t 7) (.t 38), none⟩]
noncomputable def s57r6 : List SOper := [
  ⟨some 39, .faddr 0 (.t 6), none⟩,
  ⟨some 40, .load none (.t 39), none⟩,
  ⟨some 41, .faddr 0 (.t 7), none⟩,
  ⟨some 42, .load none (.t 41), none⟩,
  ⟨some 43, .bin .neq (.t 40) (.t 42), none⟩,
  ⟨some 44, .mov (.t 43), none⟩,
  ⟨some 45, .faddr 1 (.t 6), some (44, false)⟩,
  ⟨some 46, .load none (.t 45), some (44, false)⟩,
  ⟨some 47, .faddr 1 (.t 7), some (44, false)⟩,
  ⟨some 48, .load none (.t 47), some (44, false)⟩,
  ⟨some 49, .bin .neq (.t 46) (.t 48), some (44, false)⟩,
  ⟨some 50, .pick (.t 44) (.k (.d (.bool true))) (.t 49), none⟩,
  ⟨some 51, .mov (.t 50), none⟩,
  ⟨some 52, .faddr 2 (.t 6), some (51, false)⟩,
  ⟨some 53, .load none (.t 52), some (51, false)⟩,
  ⟨some 54, .faddr 2 (.t 7), some (51, false)⟩,
  ⟨some 55, .load none (.t 54), some (51, false)⟩,
  ⟨some 56, .call (.k (.d (.func (.func 92) [] []))) [(.t 53), (.t 55)], some (51, false)⟩,
  ⟨some 57, .not (.t 56), some (51, false)⟩,
  ⟨some 58, .pick (.t 51) (.k (.d (.bool true))) (.t 57), none⟩,
  ⟨some 59, .mov (.t 58), none⟩,
  ⟨some 60, .faddr 3 (.t 6), some (59, false)⟩,
  ⟨some 61, .load none (.t 60), some (59, false)⟩,
  ⟨some 62, .faddr 3 (.t 7), some (59, false)⟩,
  ⟨some 63, .load none (.t 62), some (59, false)⟩,
  ⟨some 64, .call (.k (.d (.func (.func 92) [] []))) [(.t 61), (.t 63)], some (59, false)⟩,
  ⟨some 65, .not (.t 64), some (59, false)⟩,
  ⟨some 66, .pick (.t 59) (.k (.d (.bool true))) (.t 65), none⟩]
noncomputable def s57r7 : List SOper := [
  ⟨some 4, .mov (.k (.d (.bool false))), none⟩]
noncomputable def s57r8 : List SOper := [
  ⟨some 27, .mov (.t 5), none⟩,
  ⟨some 28, .bin .add (.t 27) (.k (.d (.int .i64 1))), none⟩,
  ⟨some 5, .mov (.t 28), none⟩]
noncomputable def s57l9 : SCode := (.seq (.seq (.region s57r4 0 []) (.cond (.t 26) .skip (.exit 0))) (.seq (.block 1 (.seq (.region s57r5 2 [(1, 10), (4, 10), (6, 10), (9, 10), (1, 11), (4, 11), (6, 11), (9, 11), (10, 11), (6, 12), (9, 12)]) (.seq (.region s57r6 0 []) (.cond (.t 66) (.seq (.region s57r7 0 []) .ret) .skip)))) (.region s57r8 0 [])))
theorem e57l9 : AWp P k0 s57l9 Q st = AWp P k0 (.seq (.seq (.region s57r4 0 []) (.cond (.t 26) .skip (.exit 0))) (.seq (.block 1 (.seq (.region s57r5 2 [(1, 10), (4, 10), (6, 10), (9, 10), (1, 11), (4, 11), (6, 11), (9, 11), (10, 11), (6, 12), (9, 12)]) (.seq (.region s57r6 0 []) (.cond (.t 66) (.seq (.region s57r7 0 []) .ret) .skip)))) (.region s57r8 0 []))) Q st := rfl
noncomputable def s57r10 : List SOper := [
  ⟨some 4, .mov (.k (.d (.bool true))), none⟩]
noncomputable def s57 : SCode := (.seq (.region s57r0 2 []) (.seq (.seq (.region s57r1 0 []) (.cond (.t 21) (.seq (.region s57r2 0 []) .ret) .skip)) (.seq (.seq (.region s57r3 0 []) (.block 0 (.loop s57l9))) (.seq (.region s57r10 0 []) .ret))))
theorem e57 : AWp P k0 s57 Q st = AWp P k0 (.seq (.region s57r0 2 []) (.seq (.seq (.region s57r1 0 []) (.cond (.t 21) (.seq (.region s57r2 0 []) .ret) .skip)) (.seq (.seq (.region s57r3 0 []) (.block 0 (.loop s57l9))) (.seq (.region s57r10 0 []) .ret)))) Q st := rfl
theorem u57r0 : goReg P s57r0 o p Q st = goLit P (litOf s57r0.eq_1) o p Q st := goReg_of _
theorem u57r1 : goReg P s57r1 o p Q st = goLit P (litOf s57r1.eq_1) o p Q st := goReg_of _
theorem u57r2 : goReg P s57r2 o p Q st = goLit P (litOf s57r2.eq_1) o p Q st := goReg_of _
theorem u57r3 : goReg P s57r3 o p Q st = goLit P (litOf s57r3.eq_1) o p Q st := goReg_of _
theorem u57r4 : goReg P s57r4 o p Q st = goLit P (litOf s57r4.eq_1) o p Q st := goReg_of _
theorem u57r5 : goReg P s57r5 o p Q st = goLit P (litOf s57r5.eq_1) o p Q st := goReg_of _
theorem u57r6 : goReg P s57r6 o p Q st = goLit P (litOf s57r6.eq_1) o p Q st := goReg_of _
theorem u57r7 : goReg P s57r7 o p Q st = goLit P (litOf s57r7.eq_1) o p Q st := goReg_of _
theorem u57r8 : goReg P s57r8 o p Q st = goLit P (litOf s57r8.eq_1) o p Q st := goReg_of _
theorem u57r10 : goReg P s57r10 o p Q st = goLit P (litOf s57r10.eq_1) o p Q st := goReg_of _
attribute [go_sem] u57r0 u57r1 u57r2 u57r3 u57r4 u57r5 u57r6 u57r7 u57r8 e57l9 u57r10 e57
set_option maxRecDepth 100000 in
theorem F57 : FnIs Try.prog 57 Try.f57 [] news s57 [.tmp 4] 67 := ⟨follows, Try.func57, by kernel_rfl, by kernel_rfl, by kernel_rfl, by kernel_rfl⟩

noncomputable def s42r0 : List SOper := [
  ⟨some 1, .box 1 (.t 0), none⟩,
  ⟨some 2, .mov (.k (.d (.bool false))), none⟩]
noncomputable def s42r1 : List SOper := [
  ⟨some 3, .mov (.k (.d (.int .i64 0))), none⟩]
noncomputable def s42r2 : List SOper := [
  ⟨some 4, .mov (.t 3), none⟩,
  ⟨some 5, .faddr 1 (.t 1), none⟩,
  ⟨some 6, .load none (.t 5), none⟩,
  ⟨some 7, .len (.t 6), none⟩,
  ⟨some 8, .bin .lss (.t 4) (.t 7), none⟩]
noncomputable def s42r3 : List SOper := [
  ⟨some 11, .faddr 1 (.t 1), none⟩,
  ⟨some 12, .load none (.t 11), none⟩,
  ⟨some 13, .mov (.t 3), none⟩,
  ⟨some 14, .iaddr 4 (.t 12) (.t 13), none⟩,
  ⟨some 15, .faddr 2 (.t 14), none⟩,
  ⟨some 16, .load none (.t 15), none⟩,
  ⟨some 17, .len (.t 16), none⟩,
  ⟨some 18, .bin .gtr (.t 17) (.k (.d (.int .i64 10))), none⟩,
  ⟨some 19, .mov (.t 18), none⟩,
  ⟨some 20, .faddr 1 (.t 1), some (19, false)⟩,
  ⟨some 21, .load none (.t 20), some (19, false)⟩,
  ⟨some 22, .mov (.t 3), some (19, false)⟩,
  ⟨some 23, .iaddr 4 (.t 21) (.t 22), some (19, false)⟩,
  ⟨some 24, .faddr 3 (.t 23), some (19, false)⟩,
  ⟨some 25, .load none (.t 24), some (19, false)⟩,
  ⟨some 26, .len (.t 25), some (19, false)⟩,
  ⟨some 27, .bin .gtr (.t 26) (.k (.d (.int .i64 10))), some (19, false)⟩,
  ⟨some 28, .pick (.t 19) (.k (.d (.bool true))) (.t 27), none⟩]
noncomputable def s42r4 : List SOper := [
  ⟨some 2, .mov (.k (.d (.bool false))), none⟩]
noncomputable def s42r5 : List SOper := [
  ⟨some 9, .mov (.t 3), none⟩,
  ⟨some 10, .bin .add (.t 9) (.k (.d (.int .i64 1))), none⟩,
  ⟨some 3, .mov (.t 10), none⟩]
noncomputable def s42l6 : SCode := (.seq (.seq (.region s42r2 0 []) (.cond (.t 8) .skip (.exit 0))) (.seq (.block 1 (.seq (.region s42r3 0 []) (.cond (.t 28) (.seq (.region s42r4 0 []) .ret) .skip))) (.region s42r5 0 [])))
theorem e42l6 : AWp P k0 s42l6 Q st = AWp P k0 (.seq (.seq (.region s42r2 0 []) (.cond (.t 8) .skip (.exit 0))) (.seq (.block 1 (.seq (.region s42r3 0 []) (.cond (.t 28) (.seq (.region s42r4 0 []) .ret) .skip))) (.region s42r5 0 []))) Q st := rfl
noncomputable def s42r7 : List SOper := [
  ⟨some 29, .faddr 1 (.t 1), none⟩,
  ⟨some 30, .load none (.t 29), none⟩,
  ⟨some 31, .len (.t 30), none⟩,
  ⟨some 32, .bin .leq (.t 31) (.k (.d (.int .i64 12))), none⟩,
  ⟨some 2, .mov (.t 32), none⟩]
noncomputable def s42 : SCode := (.seq (.region s42r0 1 []) (.seq (.seq (.region s42r1 0 []) (.block 0 (.loop s42l6))) (.seq (.region s42r7 0 []) .ret)))
theorem e42 : AWp P k0 s42 Q st = AWp P k0 (.seq (.region s42r0 1 []) (.seq (.seq (.region s42r1 0 []) (.block 0 (.loop s42l6))) (.seq (.region s42r7 0 []) .ret))) Q st := rfl
theorem u42r0 : goReg P s42r0 o p Q st = goLit P (litOf s42r0.eq_1) o p Q st := goReg_of _
theorem u42r1 : goReg P s42r1 o p Q st = goLit P (litOf s42r1.eq_1) o p Q st := goReg_of _
theorem u42r2 : goReg P s42r2 o p Q st = goLit P (litOf s42r2.eq_1) o p Q st := goReg_of _
theorem u42r3 : goReg P s42r3 o p Q st = goLit P (litOf s42r3.eq_1) o p Q st := goReg_of _
theorem u42r4 : goReg P s42r4 o p Q st = goLit P (litOf s42r4.eq_1) o p Q st := goReg_of _
theorem u42r5 : goReg P s42r5 o p Q st = goLit P (litOf s42r5.eq_1) o p Q st := goReg_of _
theorem u42r7 : goReg P s42r7 o p Q st = goLit P (litOf s42r7.eq_1) o p Q st := goReg_of _
attribute [go_sem] u42r0 u42r1 u42r2 u42r3 u42r4 u42r5 e42l6 u42r7 e42
set_option maxRecDepth 100000 in
theorem F42 : FnIs Try.prog 42 Try.f42 [] news s42 [.tmp 2] 33 := ⟨follows, Try.func42, by kernel_rfl, by kernel_rfl, by kernel_rfl, by kernel_rfl⟩

noncomputable def s56r0 : List SOper := [
  ⟨some 2, .alloc 1 [(.d (.int .i64 0)), (.d .nilsl)], none⟩,
  ⟨some 3, .mov (.k (.d (.int .i64 0))), none⟩]
noncomputable def s56r1 : List SOper := [
  ⟨some 4, .mov (.t 0), none⟩,
  ⟨some 5, .bin .lss (.t 4) (.k (.d (.int .i64 1))), none⟩,
  ⟨some 6, .mov (.t 5), none⟩,
  ⟨some 7, .mov (.t 0), some (6, false)⟩,
  ⟨some 8, .bin .gtr (.t 7) (.k (.d (.int .i64 6))), some (6, false)⟩,
  ⟨some 9, .pick (.t 6) (.k (.d (.bool true))) (.t 8), none⟩]
noncomputable def s56r2 : List SOper := [
  ⟨some 10, .build [(.int .i64 0), .nilsl] [], none⟩,
  ⟨none, .store (some 2) (.t 2) (.t 10), none⟩,
  ⟨some 3, .mov (.k (.d (.int .i64 2))), none⟩]
noncomputable def s56r3 : List SOper := [
  ⟨some 11, .mov (.t 0), none⟩,
  ⟨some 12, .build [(.int .i64 0), .nilsl] [(0, 1, (.t 11))], none⟩,
  ⟨none, .store (some 2) (.t 2) (.t 12), none⟩,
  ⟨some 3, .mov (.k (.d (.int .i64 0))), none⟩]
noncomputable def s56 : SCode := (.seq (.region s56r0 1 []) (.seq (.seq (.region s56r1 0 []) (.cond (.t 9) (.seq (.region s56r2 0 []) .ret) .skip)) (.seq (.region s56r3 0 []) .ret)))
theorem e56 : AWp P k0 s56 Q st = AWp P k0 (.seq (.region s56r0 1 []) (.seq (.seq (.region s56r1 0 []) (.cond (.t 9) (.seq (.region s56r2 0 []) .ret) .skip)) (.seq (.region s56r3 0 []) .ret))) Q st := rfl
theorem u56r0 : goReg P s56r0 o p Q st = goLit P (litOf s56r0.eq_1) o p Q st := goReg_of _
theorem u56r1 : goReg P s56r1 o p Q st = goLit P (litOf s56r1.eq_1) o p Q st := goReg_of _
theorem u56r2 : goReg P s56r2 o p Q st = goLit P (litOf s56r2.eq_1) o p Q st := goReg_of _
theorem u56r3 : goReg P s56r3 o p Q st = goLit P (litOf s56r3.eq_1) o p Q st := goReg_of _
attribute [go_sem] u56r0 u56r1 u56r2 u56r3 e56
set_option maxRecDepth 100000 in
theorem F56 : FnIs Try.prog 56 Try.f56 [] news s56 [.cell 2 (some 2), .tmp 3] 13 := ⟨follows, Try.func56, by kernel_rfl, by kernel_rfl, by kernel_rfl, by kernel_rfl⟩

end

def idB (b : Bool) : Bool := b
def SallB (l : List Bool) (i : { i : Nat // (l.take i).all idB = true }) : St := ⟨[(0, true, .d (.sl 1 (l.map encB))), (2, true, .d (.bool false)), (3, true, .d (.int .i64 (i.val : Nat)))], [], [], 1⟩
theorem all53_ok (l : List Bool) (hl : l.length ≤ 1000) : ACall Try.prog 116 [.d (.sl 1 (l.map encB))] [] (.d (.bool (l.all idB))) [] := by
  refine F116.go ?_
  try (refine ev ?_; try exact True.intro)
  refine AWp_loop (SallB l) (fun i => l.length - i.val) ⟨0, rfl⟩ ?_ (fun i => ?_)
  · try simp only [SallB, go_sem, Nat.reduceAdd, Nat.reduceMul, Nat.reduceSub, Nat.reduceEqDiff, Nat.reduceLT, Nat.reduceLeDiff, Nat.reduceBEq, reduceIte, reduceCtorEq, Int.reduceAdd, Int.reduceLT, Int.reduceLE, Int.reduceGT, Int.reduceGE, Int.reduceEq, Int.reduceNe, Int.reduceBEq, Int.reduceBNe, Int.reduceToNat, Int.reduceNeg]
  obtain ⟨i, hi⟩ := i
  try simp only [SallB, go_sem, Nat.reduceAdd, Nat.reduceMul, Nat.reduceSub, Nat.reduceEqDiff, Nat.reduceLT, Nat.reduceLeDiff, Nat.reduceBEq, reduceIte, reduceCtorEq, Int.reduceAdd, Int.reduceLT, Int.reduceLE, Int.reduceGT, Int.reduceGE, Int.reduceEq, Int.reduceNe, Int.reduceBEq, Int.reduceBNe, Int.reduceToNat, Int.reduceNeg]
  (repeat (with_reducible refine ob ?_)); refine iff_ _ (fun h => ?_) (fun h => ?_)
  · have hil : i < l.length := by simpa using h
    try simp only [getD_map encB l hil, encB, go_sem, Nat.reduceAdd, Nat.reduceMul, Nat.reduceSub, Nat.reduceEqDiff, Nat.reduceLT, Nat.reduceLeDiff, Nat.reduceBEq, reduceIte, reduceCtorEq, Int.reduceAdd, Int.reduceLT, Int.reduceLE, Int.reduceGT, Int.reduceGE, Int.reduceEq, Int.reduceNe, Int.reduceBEq, Int.reduceBNe, Int.reduceToNat, Int.reduceNeg]
    (repeat (with_reducible refine ob ?_))
    refine iff_ _ (fun h2 => ?_) (fun h2 => ?_)
    · have hg : idB l[i] = false := by simpa [idB] using h2
      try simp only [all_no hil hg, go_sem, Nat.reduceAdd, Nat.reduceMul, Nat.reduceSub, Nat.reduceEqDiff, Nat.reduceLT, Nat.reduceLeDiff, Nat.reduceBEq, reduceIte, reduceCtorEq, Int.reduceAdd, Int.reduceLT, Int.reduceLE, Int.reduceGT, Int.reduceGE, Int.reduceEq, Int.reduceNe, Int.reduceBEq, Int.reduceBNe, Int.reduceToNat, Int.reduceNeg]
    · have hg : idB l[i] = true := by simpa [idB] using h2
      try (refine ev ?_; try exact True.intro)
      refine ⟨⟨i + 1, take_all_succ hi hil hg⟩, ?_, by dsimp only; omega⟩
      try simp only [SallB, wrap_succ (show i < 9223372036854775807 by omega), go_sem, Nat.reduceAdd, Nat.reduceMul, Nat.reduceSub, Nat.reduceEqDiff, Nat.reduceLT, Nat.reduceLeDiff, Nat.reduceBEq, reduceIte, reduceCtorEq, Int.reduceAdd, Int.reduceLT, Int.reduceLE, Int.reduceGT, Int.reduceGE, Int.reduceEq, Int.reduceNe, Int.reduceBEq, Int.reduceBNe, Int.reduceToNat, Int.reduceNeg]
  · have hall : l.all idB = true := all_done hi (by simpa using h)
    try simp only [hall, go_sem, Nat.reduceAdd, Nat.reduceMul, Nat.reduceSub, Nat.reduceEqDiff, Nat.reduceLT, Nat.reduceLeDiff, Nat.reduceBEq, reduceIte, reduceCtorEq, Int.reduceAdd, Int.reduceLT, Int.reduceLE, Int.reduceGT, Int.reduceGE, Int.reduceEq, Int.reduceNe, Int.reduceBEq, Int.reduceBNe, Int.reduceToNat, Int.reduceNeg]

def SsomeB (l : List Bool) (i : { i : Nat // (l.take i).any idB = false }) : St := ⟨[(0, true, .d (.sl 1 (l.map encB))), (2, true, .d (.bool false)), (3, true, .d (.int .i64 (i.val : Nat)))], [], [], 1⟩
theorem any_yes {α : Type} {f : α → Bool} {l : List α} {i : Nat} (hi : i < l.length) (hf : f l[i] = true) : l.any f = true := List.any_eq_true.2 ⟨_, List.getElem_mem hi, hf⟩
theorem any_done {α : Type} {f : α → Bool} {l : List α} {i : Nat} (h : (l.take i).any f = false) (hi : l.length ≤ i) : l.any f = false := by rwa [List.take_of_length_le hi] at h
theorem some53_ok (l : List Bool) (hl : l.length ≤ 1000) : ACall Try.prog 117 [.d (.sl 1 (l.map encB))] [] (.d (.bool (l.any idB))) [] := by
  refine F117.go ?_
  try (refine ev ?_; try exact True.intro)
  refine AWp_loop (SsomeB l) (fun i => l.length - i.val) ⟨0, rfl⟩ ?_ (fun i => ?_)
  · try simp only [SsomeB, go_sem, Nat.reduceAdd, Nat.reduceMul, Nat.reduceSub, Nat.reduceEqDiff, Nat.reduceLT, Nat.reduceLeDiff, Nat.reduceBEq, reduceIte, reduceCtorEq, Int.reduceAdd, Int.reduceLT, Int.reduceLE, Int.reduceGT, Int.reduceGE, Int.reduceEq, Int.reduceNe, Int.reduceBEq, Int.reduceBNe, Int.reduceToNat, Int.reduceNeg]
  obtain ⟨i, hi⟩ := i
  try simp only [SsomeB, go_sem, Nat.reduceAdd, Nat.reduceMul, Nat.reduceSub, Nat.reduceEqDiff, Nat.reduceLT, Nat.reduceLeDiff, Nat.reduceBEq, reduceIte, reduceCtorEq, Int.reduceAdd, Int.reduceLT, Int.reduceLE, Int.reduceGT, Int.reduceGE, Int.reduceEq, Int.reduceNe, Int.reduceBEq, Int.reduceBNe, Int.reduceToNat, Int.reduceNeg]
  (repeat (with_reducible refine ob ?_)); refine iff_ _ (fun h => ?_) (fun h => ?_)
  · have hil : i < l.length := by simpa using h
    try simp only [getD_map encB l hil, encB, go_sem, Nat.reduceAdd, Nat.reduceMul, Nat.reduceSub, Nat.reduceEqDiff, Nat.reduceLT, Nat.reduceLeDiff, Nat.reduceBEq, reduceIte, reduceCtorEq, Int.reduceAdd, Int.reduceLT, Int.reduceLE, Int.reduceGT, Int.reduceGE, Int.reduceEq, Int.reduceNe, Int.reduceBEq, Int.reduceBNe, Int.reduceToNat, Int.reduceNeg]
    (repeat (with_reducible refine ob ?_))
    refine iff_ _ (fun h2 => ?_) (fun h2 => ?_)
    · have hg : idB l[i] = true := by simpa [idB] using h2
      try simp only [any_yes hil hg, go_sem, Nat.reduceAdd, Nat.reduceMul, Nat.reduceSub, Nat.reduceEqDiff, Nat.reduceLT, Nat.reduceLeDiff, Nat.reduceBEq, reduceIte, reduceCtorEq, Int.reduceAdd, Int.reduceLT, Int.reduceLE, Int.reduceGT, Int.reduceGE, Int.reduceEq, Int.reduceNe, Int.reduceBEq, Int.reduceBNe, Int.reduceToNat, Int.reduceNeg]
    · have hg : idB l[i] = false := by simpa [idB] using h2
      try (refine ev ?_; try exact True.intro)
      refine ⟨⟨i + 1, take_any_succ hi hil hg⟩, ?_, by dsimp only; omega⟩
      try simp only [SsomeB, wrap_succ (show i < 9223372036854775807 by omega), go_sem, Nat.reduceAdd, Nat.reduceMul, Nat.reduceSub, Nat.reduceEqDiff, Nat.reduceLT, Nat.reduceLeDiff, Nat.reduceBEq, reduceIte, reduceCtorEq, Int.reduceAdd, Int.reduceLT, Int.reduceLE, Int.reduceGT, Int.reduceGE, Int.reduceEq, Int.reduceNe, Int.reduceBEq, Int.reduceBNe, Int.reduceToNat, Int.reduceNeg]
  · have hall : l.any idB = false := any_done hi (by simpa using h)
    try simp only [hall, go_sem, Nat.reduceAdd, Nat.reduceMul, Nat.reduceSub, Nat.reduceEqDiff, Nat.reduceLT, Nat.reduceLeDiff, Nat.reduceBEq, reduceIte, reduceCtorEq, Int.reduceAdd, Int.reduceLT, Int.reduceLE, Int.reduceGT, Int.reduceGE, Int.reduceEq, Int.reduceNe, Int.reduceBEq, Int.reduceBNe, Int.reduceToNat, Int.reduceNeg]

def ph53 (x : En) : Int :=
  if !x.moved.all idB && !x.opened.any idB then 1 else if x.moved.all idB && !x.opened.all idB then 2 else if x.moved.all idB && x.opened.all idB then 3 else 0
theorem hasB_false (l : List Bool) : hasB false l = !l.all idB := by
  induction l with
  | nil => rfl
  | cons b l ih => cases b <;> simp_all [hasB, idB]
theorem hasB_true (l : List Bool) : hasB true l = l.any idB := by
  induction l with
  | nil => rfl
  | cons b l ih => cases b <;> simp_all [hasB, idB]
theorem ph53_eq (x : En) : ph53 x = upPhase x := by
  simp only [ph53, upPhase, hasB_false, hasB_true]
  cases x.moved.all idB <;> cases x.opened.all idB <;> cases x.opened.any idB <;> rfl
theorem phase53_ok (x : En) (hx : x.Sm) : ACall Try.prog 91 [.d (.agg (encEn x))] [] (.d (.int .i64 (upPhase x))) [] := by
  rw [← ph53_eq]
  refine F91.go ?_
  try simp only [encEn, go_sem, Nat.reduceAdd, Nat.reduceMul, Nat.reduceSub, Nat.reduceEqDiff, Nat.reduceLT, Nat.reduceLeDiff, Nat.reduceBEq, reduceIte, reduceCtorEq, Int.reduceAdd, Int.reduceLT, Int.reduceLE, Int.reduceGT, Int.reduceGE, Int.reduceEq, Int.reduceNe, Int.reduceBEq, Int.reduceBNe, Int.reduceToNat, Int.reduceNeg]
  (repeat (with_reducible refine ob ?_)); first | refine cl F116 (all53_ok x.moved hx.1) ?_ | refine clF F116 (all53_ok x.moved hx.1) (fun _ => by simp only [encEn, encMg, go_sem, Nat.reduceAdd, Nat.reduceMul, Nat.reduceSub, Nat.reduceEqDiff, Nat.reduceLT, Nat.reduceLeDiff, Nat.reduceBEq, reduceIte, reduceCtorEq, Int.reduceAdd, Int.reduceLT, Int.reduceLE, Int.reduceGT, Int.reduceGE, Int.reduceEq, Int.reduceNe, Int.reduceBEq, Int.reduceBNe, Int.reduceToNat, Int.reduceNeg]) ?_
  try (refine ev ?_; try exact True.intro)
  (repeat (with_reducible refine ob ?_)); first | refine cl F117 (some53_ok x.opened hx.2) ?_ | refine clF F117 (some53_ok x.opened hx.2) (fun _ => by simp only [encEn, encMg, go_sem, Nat.reduceAdd, Nat.reduceMul, Nat.reduceSub, Nat.reduceEqDiff, Nat.reduceLT, Nat.reduceLeDiff, Nat.reduceBEq, reduceIte, reduceCtorEq, Int.reduceAdd, Int.reduceLT, Int.reduceLE, Int.reduceGT, Int.reduceGE, Int.reduceEq, Int.reduceNe, Int.reduceBEq, Int.reduceBNe, Int.reduceToNat, Int.reduceNeg]) ?_
  try (refine ev ?_; try exact True.intro)
  refine iff_ _ (fun h1 => ?_) (fun h1 => ?_)
  · have e : ph53 x = 1 := by simp_all [ph53]
    try simp only [e, go_sem, Nat.reduceAdd, Nat.reduceMul, Nat.reduceSub, Nat.reduceEqDiff, Nat.reduceLT, Nat.reduceLeDiff, Nat.reduceBEq, reduceIte, reduceCtorEq, Int.reduceAdd, Int.reduceLT, Int.reduceLE, Int.reduceGT, Int.reduceGE, Int.reduceEq, Int.reduceNe, Int.reduceBEq, Int.reduceBNe, Int.reduceToNat, Int.reduceNeg]
  try (refine ev ?_; try exact True.intro)
  (repeat (with_reducible refine ob ?_)); first | refine cl F116 (all53_ok x.moved hx.1) ?_ | refine clF F116 (all53_ok x.moved hx.1) (fun _ => by simp only [encEn, encMg, go_sem, Nat.reduceAdd, Nat.reduceMul, Nat.reduceSub, Nat.reduceEqDiff, Nat.reduceLT, Nat.reduceLeDiff, Nat.reduceBEq, reduceIte, reduceCtorEq, Int.reduceAdd, Int.reduceLT, Int.reduceLE, Int.reduceGT, Int.reduceGE, Int.reduceEq, Int.reduceNe, Int.reduceBEq, Int.reduceBNe, Int.reduceToNat, Int.reduceNeg]) ?_
  try (refine ev ?_; try exact True.intro)
  (repeat (with_reducible refine ob ?_)); first | refine cl F116 (all53_ok x.opened hx.2) ?_ | refine clF F116 (all53_ok x.opened hx.2) (fun _ => by simp only [encEn, encMg, go_sem, Nat.reduceAdd, Nat.reduceMul, Nat.reduceSub, Nat.reduceEqDiff, Nat.reduceLT, Nat.reduceLeDiff, Nat.reduceBEq, reduceIte, reduceCtorEq, Int.reduceAdd, Int.reduceLT, Int.reduceLE, Int.reduceGT, Int.reduceGE, Int.reduceEq, Int.reduceNe, Int.reduceBEq, Int.reduceBNe, Int.reduceToNat, Int.reduceNeg]) ?_
  try (refine ev ?_; try exact True.intro)
  refine iff_ _ (fun h2 => ?_) (fun h2 => ?_)
  · have e : ph53 x = 2 := by simp only [ph53, h1, h2]; rfl
    try simp only [e, go_sem, Nat.reduceAdd, Nat.reduceMul, Nat.reduceSub, Nat.reduceEqDiff, Nat.reduceLT, Nat.reduceLeDiff, Nat.reduceBEq, reduceIte, reduceCtorEq, Int.reduceAdd, Int.reduceLT, Int.reduceLE, Int.reduceGT, Int.reduceGE, Int.reduceEq, Int.reduceNe, Int.reduceBEq, Int.reduceBNe, Int.reduceToNat, Int.reduceNeg]
  try (refine ev ?_; try exact True.intro)
  (repeat (with_reducible refine ob ?_)); first | refine cl F116 (all53_ok x.moved hx.1) ?_ | refine clF F116 (all53_ok x.moved hx.1) (fun _ => by simp only [encEn, encMg, go_sem, Nat.reduceAdd, Nat.reduceMul, Nat.reduceSub, Nat.reduceEqDiff, Nat.reduceLT, Nat.reduceLeDiff, Nat.reduceBEq, reduceIte, reduceCtorEq, Int.reduceAdd, Int.reduceLT, Int.reduceLE, Int.reduceGT, Int.reduceGE, Int.reduceEq, Int.reduceNe, Int.reduceBEq, Int.reduceBNe, Int.reduceToNat, Int.reduceNeg]) ?_
  try (refine ev ?_; try exact True.intro)
  (repeat (with_reducible refine ob ?_)); first | refine cl F116 (all53_ok x.opened hx.2) ?_ | refine clF F116 (all53_ok x.opened hx.2) (fun _ => by simp only [encEn, encMg, go_sem, Nat.reduceAdd, Nat.reduceMul, Nat.reduceSub, Nat.reduceEqDiff, Nat.reduceLT, Nat.reduceLeDiff, Nat.reduceBEq, reduceIte, reduceCtorEq, Int.reduceAdd, Int.reduceLT, Int.reduceLE, Int.reduceGT, Int.reduceGE, Int.reduceEq, Int.reduceNe, Int.reduceBEq, Int.reduceBNe, Int.reduceToNat, Int.reduceNeg]) ?_
  try (refine ev ?_; try exact True.intro)
  refine iff_ _ (fun h3 => ?_) (fun h3 => ?_)
  · have e : ph53 x = 3 := by simp only [ph53, h1, h2, h3]; rfl
    try simp only [e, go_sem, Nat.reduceAdd, Nat.reduceMul, Nat.reduceSub, Nat.reduceEqDiff, Nat.reduceLT, Nat.reduceLeDiff, Nat.reduceBEq, reduceIte, reduceCtorEq, Int.reduceAdd, Int.reduceLT, Int.reduceLE, Int.reduceGT, Int.reduceGE, Int.reduceEq, Int.reduceNe, Int.reduceBEq, Int.reduceBNe, Int.reduceToNat, Int.reduceNeg]
  · have e : ph53 x = 0 := by simp only [ph53, h1, h2, h3]; rfl
    try simp only [e, go_sem, Nat.reduceAdd, Nat.reduceMul, Nat.reduceSub, Nat.reduceEqDiff, Nat.reduceLT, Nat.reduceLeDiff, Nat.reduceBEq, reduceIte, reduceCtorEq, Int.reduceAdd, Int.reduceLT, Int.reduceLE, Int.reduceGT, Int.reduceGE, Int.reduceEq, Int.reduceNe, Int.reduceBEq, Int.reduceBNe, Int.reduceToNat, Int.reduceNeg]

def Sv53 (m : Mg) (i : { i : Nat // allTo (fun i => !enBad m i) i = true }) : St := ⟨[(1, true, .d (.ptr 0 0)), (2, true, .d (.bool false)), (3, true, .d (.int .i64 (i.val : Nat)))], [mgObj m], [], 1⟩

set_option maxRecDepth 10000 in
theorem valid53_ok (m : Mg) (hm : m.Sm) : ACall Try.prog 60 [.d (.agg (encMg m))] [] (.d (.bool (upValid m))) [] := by
  have hl := hm.1
  refine F60.go ?_
  try simp only [encMg, go_sem, Nat.reduceAdd, Nat.reduceMul, Nat.reduceSub, Nat.reduceEqDiff, Nat.reduceLT, Nat.reduceLeDiff, Nat.reduceBEq, reduceIte, reduceCtorEq, Int.reduceAdd, Int.reduceLT, Int.reduceLE, Int.reduceGT, Int.reduceGE, Int.reduceEq, Int.reduceNe, Int.reduceBEq, Int.reduceBNe, Int.reduceToNat, Int.reduceNeg]
  (repeat (with_reducible refine ob ?_)); refine iff_ _ (fun h => ?_) (fun h => ?_)
  · have hb : (decide (m.roles ≥ 1) && decide (m.roles ≤ 6)) = false := by
      simp only [Bool.or_eq_true, decide_eq_true_eq] at h
      rw [Bool.and_eq_false_iff, decide_eq_false_iff_not, decide_eq_false_iff_not]
      omega
    try simp only [upValid, hb, Bool.and_false, go_sem, Nat.reduceAdd, Nat.reduceMul, Nat.reduceSub, Nat.reduceEqDiff, Nat.reduceLT, Nat.reduceLeDiff, Nat.reduceBEq, reduceIte, reduceCtorEq, Int.reduceAdd, Int.reduceLT, Int.reduceLE, Int.reduceGT, Int.reduceGE, Int.reduceEq, Int.reduceNe, Int.reduceBEq, Int.reduceBNe, Int.reduceToNat, Int.reduceNeg]
  have hb : (decide (m.roles ≥ 1) && decide (m.roles ≤ 6)) = true := by
    simp only [Bool.or_eq_false_iff, decide_eq_false_iff_not] at h
    simp only [Bool.and_eq_true, decide_eq_true_eq]
    omega
  try (refine ev ?_; try exact True.intro)
  refine AWp_loop (Sv53 m) (fun i => m.ents.length - i.val) ⟨0, rfl⟩ ?_ (fun i => ?_)
  · try simp only [Sv53, mgObj, go_sem, Nat.reduceAdd, Nat.reduceMul, Nat.reduceSub, Nat.reduceEqDiff, Nat.reduceLT, Nat.reduceLeDiff, Nat.reduceBEq, reduceIte, reduceCtorEq, Int.reduceAdd, Int.reduceLT, Int.reduceLE, Int.reduceGT, Int.reduceGE, Int.reduceEq, Int.reduceNe, Int.reduceBEq, Int.reduceBNe, Int.reduceToNat, Int.reduceNeg]
  obtain ⟨i, hi⟩ := i
  try simp only [Sv53, mgObj, go_sem, Nat.reduceAdd, Nat.reduceMul, Nat.reduceSub, Nat.reduceEqDiff, Nat.reduceLT, Nat.reduceLeDiff, Nat.reduceBEq, reduceIte, reduceCtorEq, Int.reduceAdd, Int.reduceLT, Int.reduceLE, Int.reduceGT, Int.reduceGE, Int.reduceEq, Int.reduceNe, Int.reduceBEq, Int.reduceBNe, Int.reduceToNat, Int.reduceNeg]
  (repeat (with_reducible refine ob ?_)); refine iff_ _ (fun h => ?_) (fun h => ?_)
  · have hil : i < m.ents.length := by simpa using h
    have hx := hm.2 _ (List.getElem_mem hil)
    rcases Nat.eq_zero_or_pos i with h0 | h0
    · subst h0
      simp only [getD_map encEn m.ents hil, encEn, Int.toNat_zero, w01, go_sem, Nat.reduceAdd, Nat.reduceMul, Nat.reduceSub, Nat.reduceEqDiff, Nat.reduceLT, Nat.reduceLeDiff, Nat.reduceBEq, reduceIte, reduceCtorEq, Int.reduceAdd, Int.reduceLT, Int.reduceLE, Int.reduceGT, Int.reduceGE, Int.reduceEq, Int.reduceNe, Int.reduceBEq, Int.reduceBNe, Int.reduceToNat, Int.reduceNeg]
      (repeat (with_reducible refine ob ?_))
      try (refine ev ?_; try exact True.intro)
      (repeat (with_reducible refine ob ?_))
      (repeat (with_reducible refine ob ?_)); first | refine cl F91 (phase53_ok m.ents[0] hx) ?_ | refine clF F91 (phase53_ok m.ents[0] hx) (fun _ => by simp only [encEn, encMg, go_sem, Nat.reduceAdd, Nat.reduceMul, Nat.reduceSub, Nat.reduceEqDiff, Nat.reduceLT, Nat.reduceLeDiff, Nat.reduceBEq, reduceIte, reduceCtorEq, Int.reduceAdd, Int.reduceLT, Int.reduceLE, Int.reduceGT, Int.reduceGE, Int.reduceEq, Int.reduceNe, Int.reduceBEq, Int.reduceBNe, Int.reduceToNat, Int.reduceNeg]) ?_
      try (refine ev ?_; try exact True.intro)
      refine ⟨fun h => by rw [h]; rfl, ?_⟩
      refine AWp_cond (enBad m 0) rfl ?_ (fun h2 => ?_) (fun h2 => ?_)
      · try simp only [en0 m hil, go_sem, Nat.reduceAdd, Nat.reduceMul, Nat.reduceSub, Nat.reduceEqDiff, Nat.reduceLT, Nat.reduceLeDiff, Nat.reduceBEq, reduceIte, reduceCtorEq, Int.reduceAdd, Int.reduceLT, Int.reduceLE, Int.reduceGT, Int.reduceGE, Int.reduceEq, Int.reduceNe, Int.reduceBEq, Int.reduceBNe, Int.reduceToNat, Int.reduceNeg]
      · have hg : (!enBad m 0) = false := by simp [h2]
        try simp only [upValid, allTo_no (g := fun i => !enBad m i) hil hg, go_sem, Nat.reduceAdd, Nat.reduceMul, Nat.reduceSub, Nat.reduceEqDiff, Nat.reduceLT, Nat.reduceLeDiff, Nat.reduceBEq, reduceIte, reduceCtorEq, Int.reduceAdd, Int.reduceLT, Int.reduceLE, Int.reduceGT, Int.reduceGE, Int.reduceEq, Int.reduceNe, Int.reduceBEq, Int.reduceBNe, Int.reduceToNat, Int.reduceNeg]
      · try (refine ev ?_; try exact True.intro)
        refine ⟨⟨1, allTo_step hi (by simp [h2])⟩, ?_, by dsimp only; omega⟩
        try simp only [Sv53, mgObj, show IntKind.i64.wrap 1 = 1 by decide, go_sem, Nat.reduceAdd, Nat.reduceMul, Nat.reduceSub, Nat.reduceEqDiff, Nat.reduceLT, Nat.reduceLeDiff, Nat.reduceBEq, reduceIte, reduceCtorEq, Int.reduceAdd, Int.reduceLT, Int.reduceLE, Int.reduceGT, Int.reduceGE, Int.reduceEq, Int.reduceNe, Int.reduceBEq, Int.reduceBNe, Int.reduceToNat, Int.reduceNeg]
    · obtain ⟨k, rfl⟩ : ∃ k, i = k + 1 := ⟨i - 1, by omega⟩
      have hk : k < m.ents.length := by omega
      have hw : IntKind.i64.wrap (((k : Nat) : Int) + 1 - 1) = ((k : Nat) : Int) := by rw [wrap_i64 (by omega) (by omega)]; omega
      have hw2 : IntKind.i64.wrap (((k : Nat) : Int) + 1 + 1) = ((k : Nat) : Int) + 1 + 1 := by rw [wrap_i64 (by omega) (by omega)]
      simp only [getD_map encEn m.ents hil, getD_map encEn m.ents hk, hw, encEn, go_sem, Nat.reduceAdd, Nat.reduceMul, Nat.reduceSub, Nat.reduceEqDiff, Nat.reduceLT, Nat.reduceLeDiff, Nat.reduceBEq, reduceIte, reduceCtorEq, Int.reduceAdd, Int.reduceLT, Int.reduceLE, Int.reduceGT, Int.reduceGE, Int.reduceEq, Int.reduceNe, Int.reduceBEq, Int.reduceBNe, Int.reduceToNat, Int.reduceNeg]
      (repeat (with_reducible refine ob ?_))
      try simp only [getD_map encEn m.ents hk, hw, encEn, go_sem, Nat.reduceAdd, Nat.reduceMul, Nat.reduceSub, Nat.reduceEqDiff, Nat.reduceLT, Nat.reduceLeDiff, Nat.reduceBEq, reduceIte, reduceCtorEq, Int.reduceAdd, Int.reduceLT, Int.reduceLE, Int.reduceGT, Int.reduceGE, Int.reduceEq, Int.reduceNe, Int.reduceBEq, Int.reduceBNe, Int.reduceToNat, Int.reduceNeg]
      (repeat (with_reducible refine ob ?_))
      (repeat (with_reducible refine ob ?_)); first | refine cl F91 (phase53_ok m.ents[k+1] hx) ?_ | refine clF F91 (phase53_ok m.ents[k+1] hx) (fun _ => by simp only [encEn, encMg, go_sem, Nat.reduceAdd, Nat.reduceMul, Nat.reduceSub, Nat.reduceEqDiff, Nat.reduceLT, Nat.reduceLeDiff, Nat.reduceBEq, reduceIte, reduceCtorEq, Int.reduceAdd, Int.reduceLT, Int.reduceLE, Int.reduceGT, Int.reduceGE, Int.reduceEq, Int.reduceNe, Int.reduceBEq, Int.reduceBNe, Int.reduceToNat, Int.reduceNeg]) ?_
      try (refine ev ?_; try exact True.intro)
      refine ⟨fun h => by rw [h]; rfl, ?_⟩
      refine AWp_cond (enBad m (k + 1)) rfl ?_ (fun h2 => ?_) (fun h2 => ?_)
      · try simp only [enk m k hil hk, go_sem, Nat.reduceAdd, Nat.reduceMul, Nat.reduceSub, Nat.reduceEqDiff, Nat.reduceLT, Nat.reduceLeDiff, Nat.reduceBEq, reduceIte, reduceCtorEq, Int.reduceAdd, Int.reduceLT, Int.reduceLE, Int.reduceGT, Int.reduceGE, Int.reduceEq, Int.reduceNe, Int.reduceBEq, Int.reduceBNe, Int.reduceToNat, Int.reduceNeg]
      · have hg : (!enBad m (k + 1)) = false := by simp [h2]
        try simp only [upValid, allTo_no (g := fun i => !enBad m i) hil hg, go_sem, Nat.reduceAdd, Nat.reduceMul, Nat.reduceSub, Nat.reduceEqDiff, Nat.reduceLT, Nat.reduceLeDiff, Nat.reduceBEq, reduceIte, reduceCtorEq, Int.reduceAdd, Int.reduceLT, Int.reduceLE, Int.reduceGT, Int.reduceGE, Int.reduceEq, Int.reduceNe, Int.reduceBEq, Int.reduceBNe, Int.reduceToNat, Int.reduceNeg]
      · try (refine ev ?_; try exact True.intro)
        refine ⟨⟨k + 1 + 1, allTo_step hi (by simp [h2])⟩, ?_, by dsimp only; omega⟩
        try simp only [Sv53, mgObj, hw2, go_sem, Nat.reduceAdd, Nat.reduceMul, Nat.reduceSub, Nat.reduceEqDiff, Nat.reduceLT, Nat.reduceLeDiff, Nat.reduceBEq, reduceIte, reduceCtorEq, Int.reduceAdd, Int.reduceLT, Int.reduceLE, Int.reduceGT, Int.reduceGE, Int.reduceEq, Int.reduceNe, Int.reduceBEq, Int.reduceBNe, Int.reduceToNat, Int.reduceNeg]
  · have hil : m.ents.length ≤ i := by simpa using h
    have ha : allTo (fun i => !enBad m i) m.ents.length = true := allTo_iff.2 fun j hj => allTo_iff.1 hi j (by omega)
    try (refine ev ?_; try exact True.intro)
    (repeat (with_reducible refine ob ?_))
    simp only [upValid, ha, hb, go_sem, Nat.reduceAdd, Nat.reduceMul, Nat.reduceSub, Nat.reduceEqDiff, Nat.reduceLT, Nat.reduceLeDiff, Nat.reduceBEq, reduceIte, reduceCtorEq, Int.reduceAdd, Int.reduceLT, Int.reduceLE, Int.reduceGT, Int.reduceGE, Int.reduceEq, Int.reduceNe, Int.reduceBEq, Int.reduceBNe, Int.reduceToNat, Int.reduceNeg]

def Six53 (m : Mg) (s : Int) (i : { i : Nat // (m.ents.take i).any (fun x => x.sess == s) = false }) : St :=
  ⟨[(1, true, .d (.int .i64 s)), (2, true, .d (.ptr 0 0)), (4, true, .d (.int .i64 0)), (5, true, .d (.int .i64 (i.val : Nat)))], [mgObj m], [], 1⟩
theorem index53_ok (m : Mg) (s : Int) (hm : m.Sm) : ACall Try.prog 89 [.d (.agg (encMg m)), .d (.int .i64 s)] [] (.d (.int .i64 (idx (fun x => x.sess == s) m.ents))) [] := by
  have hl := hm.1
  refine F89.go ?_
  try simp only [encMg, go_sem, Nat.reduceAdd, Nat.reduceMul, Nat.reduceSub, Nat.reduceEqDiff, Nat.reduceLT, Nat.reduceLeDiff, Nat.reduceBEq, reduceIte, reduceCtorEq, Int.reduceAdd, Int.reduceLT, Int.reduceLE, Int.reduceGT, Int.reduceGE, Int.reduceEq, Int.reduceNe, Int.reduceBEq, Int.reduceBNe, Int.reduceToNat, Int.reduceNeg]
  refine AWp_loop (Six53 m s) (fun i => m.ents.length - i.val) ⟨0, rfl⟩ ?_ (fun i => ?_)
  · try simp only [Six53, mgObj, go_sem, Nat.reduceAdd, Nat.reduceMul, Nat.reduceSub, Nat.reduceEqDiff, Nat.reduceLT, Nat.reduceLeDiff, Nat.reduceBEq, reduceIte, reduceCtorEq, Int.reduceAdd, Int.reduceLT, Int.reduceLE, Int.reduceGT, Int.reduceGE, Int.reduceEq, Int.reduceNe, Int.reduceBEq, Int.reduceBNe, Int.reduceToNat, Int.reduceNeg]
  obtain ⟨i, hi⟩ := i
  try simp only [Six53, mgObj, go_sem, Nat.reduceAdd, Nat.reduceMul, Nat.reduceSub, Nat.reduceEqDiff, Nat.reduceLT, Nat.reduceLeDiff, Nat.reduceBEq, reduceIte, reduceCtorEq, Int.reduceAdd, Int.reduceLT, Int.reduceLE, Int.reduceGT, Int.reduceGE, Int.reduceEq, Int.reduceNe, Int.reduceBEq, Int.reduceBNe, Int.reduceToNat, Int.reduceNeg]
  (repeat (with_reducible refine ob ?_)); refine iff_ _ (fun h => ?_) (fun h => ?_)
  · have hil : i < m.ents.length := by simpa using h
    simp only [getD_map encEn m.ents hil, encEn, go_sem, Nat.reduceAdd, Nat.reduceMul, Nat.reduceSub, Nat.reduceEqDiff, Nat.reduceLT, Nat.reduceLeDiff, Nat.reduceBEq, reduceIte, reduceCtorEq, Int.reduceAdd, Int.reduceLT, Int.reduceLE, Int.reduceGT, Int.reduceGE, Int.reduceEq, Int.reduceNe, Int.reduceBEq, Int.reduceBNe, Int.reduceToNat, Int.reduceNeg]
    (repeat (with_reducible refine ob ?_))
    refine iff_ _ (fun h2 => ?_) (fun h2 => ?_)
    · try simp only [idx_some (f := fun x : En => x.sess == s) hi hil h2, go_sem, Nat.reduceAdd, Nat.reduceMul, Nat.reduceSub, Nat.reduceEqDiff, Nat.reduceLT, Nat.reduceLeDiff, Nat.reduceBEq, reduceIte, reduceCtorEq, Int.reduceAdd, Int.reduceLT, Int.reduceLE, Int.reduceGT, Int.reduceGE, Int.reduceEq, Int.reduceNe, Int.reduceBEq, Int.reduceBNe, Int.reduceToNat, Int.reduceNeg]
    · try (refine ev ?_; try exact True.intro)
      refine ⟨⟨i + 1, take_any_succ hi hil h2⟩, ?_, by dsimp only; omega⟩
      try simp only [Six53, mgObj, wrap_succ (show i < 9223372036854775807 by omega), go_sem, Nat.reduceAdd, Nat.reduceMul, Nat.reduceSub, Nat.reduceEqDiff, Nat.reduceLT, Nat.reduceLeDiff, Nat.reduceBEq, reduceIte, reduceCtorEq, Int.reduceAdd, Int.reduceLT, Int.reduceLE, Int.reduceGT, Int.reduceGE, Int.reduceEq, Int.reduceNe, Int.reduceBEq, Int.reduceBNe, Int.reduceToNat, Int.reduceNeg]
  · try simp only [idx_none hi (by simpa using h), go_sem, Nat.reduceAdd, Nat.reduceMul, Nat.reduceSub, Nat.reduceEqDiff, Nat.reduceLT, Nat.reduceLeDiff, Nat.reduceBEq, reduceIte, reduceCtorEq, Int.reduceAdd, Int.reduceLT, Int.reduceLE, Int.reduceGT, Int.reduceGE, Int.reduceEq, Int.reduceNe, Int.reduceBEq, Int.reduceBNe, Int.reduceToNat, Int.reduceNeg]

theorem phaseOf53_ok (m : Mg) (s : Int) (hm : m.Sm) : ACall Try.prog 61 [.d (.agg (encMg m)), .d (.int .i64 s)] [] (.d (.int .i64 (upPhaseOf m s))) [] := by
  refine F61.go ?_
  try simp only [encMg, go_sem, Nat.reduceAdd, Nat.reduceMul, Nat.reduceSub, Nat.reduceEqDiff, Nat.reduceLT, Nat.reduceLeDiff, Nat.reduceBEq, reduceIte, reduceCtorEq, Int.reduceAdd, Int.reduceLT, Int.reduceLE, Int.reduceGT, Int.reduceGE, Int.reduceEq, Int.reduceNe, Int.reduceBEq, Int.reduceBNe, Int.reduceToNat, Int.reduceNeg]
  (repeat (with_reducible refine ob ?_)); first | refine cl F89 (index53_ok m s hm) ?_ | refine clF F89 (index53_ok m s hm) (fun _ => by simp only [encEn, encMg, go_sem, Nat.reduceAdd, Nat.reduceMul, Nat.reduceSub, Nat.reduceEqDiff, Nat.reduceLT, Nat.reduceLeDiff, Nat.reduceBEq, reduceIte, reduceCtorEq, Int.reduceAdd, Int.reduceLT, Int.reduceLE, Int.reduceGT, Int.reduceGE, Int.reduceEq, Int.reduceNe, Int.reduceBEq, Int.reduceBNe, Int.reduceToNat, Int.reduceNeg]) ?_
  try simp only [idx_ge, go_sem, Nat.reduceAdd, Nat.reduceMul, Nat.reduceSub, Nat.reduceEqDiff, Nat.reduceLT, Nat.reduceLeDiff, Nat.reduceBEq, reduceIte, reduceCtorEq, Int.reduceAdd, Int.reduceLT, Int.reduceLE, Int.reduceGT, Int.reduceGE, Int.reduceEq, Int.reduceNe, Int.reduceBEq, Int.reduceBNe, Int.reduceToNat, Int.reduceNeg]
  (repeat (with_reducible refine ob ?_)); refine iff_ _ (fun h => ?_) (fun h => ?_)
  · have hf : m.ents.any (fun x => x.sess == s) = true := by simpa using h
    obtain ⟨h1, h2⟩ := idx_any hf
    have hu : upPhaseOf m s = m.ents[m.ents.findIdx (fun x => x.sess == s)].phase := by simp only [upPhaseOf, hf, getD_lt h2, if_true]
    rw [hu, h1]
    generalize m.ents.findIdx (fun x => x.sess == s) = k at h2 ⊢
    try simp only [getD_map encEn m.ents h2, encEn, go_sem, Nat.reduceAdd, Nat.reduceMul, Nat.reduceSub, Nat.reduceEqDiff, Nat.reduceLT, Nat.reduceLeDiff, Nat.reduceBEq, reduceIte, reduceCtorEq, Int.reduceAdd, Int.reduceLT, Int.reduceLE, Int.reduceGT, Int.reduceGE, Int.reduceEq, Int.reduceNe, Int.reduceBEq, Int.reduceBNe, Int.reduceToNat, Int.reduceNeg]
    (repeat (with_reducible refine ob ?_))
    try simp only [getD_map encEn m.ents h2, encEn, go_sem, Nat.reduceAdd, Nat.reduceMul, Nat.reduceSub, Nat.reduceEqDiff, Nat.reduceLT, Nat.reduceLeDiff, Nat.reduceBEq, reduceIte, reduceCtorEq, Int.reduceAdd, Int.reduceLT, Int.reduceLE, Int.reduceGT, Int.reduceGE, Int.reduceEq, Int.reduceNe, Int.reduceBEq, Int.reduceBNe, Int.reduceToNat, Int.reduceNeg]
    first | omega | exact ⟨by omega, by omega⟩ | skip
  · have hf : m.ents.any (fun x => x.sess == s) = false := by simpa using h
    have hu : upPhaseOf m s = 0 := by simp only [upPhaseOf, hf]; rfl
    try simp only [hu, go_sem, Nat.reduceAdd, Nat.reduceMul, Nat.reduceSub, Nat.reduceEqDiff, Nat.reduceLT, Nat.reduceLeDiff, Nat.reduceBEq, reduceIte, reduceCtorEq, Int.reduceAdd, Int.reduceLT, Int.reduceLE, Int.reduceGT, Int.reduceGE, Int.reduceEq, Int.reduceNe, Int.reduceBEq, Int.reduceBNe, Int.reduceToNat, Int.reduceNeg]

def SsameB (l m : List Bool) (i : { i : Nat // l.take i = m.take i }) : St :=
  ⟨[(0, true, .d (.sl 1 (l.map encB))), (1, true, .d (.sl 1 (m.map encB))), (4, true, .d (.bool false)), (5, true, .d (.int .i64 (i.val : Nat)))], [], [], 1⟩
theorem sameB_ok (l m : List Bool) (hl : l.length ≤ 1000) : ACall Try.prog 92 [.d (.sl 1 (l.map encB)), .d (.sl 1 (m.map encB))] [] (.d (.bool (decide (l = m)))) [] := by
  refine F92.go ?_
  try (refine ev ?_; try exact True.intro)
  refine iff_ _ (fun h => ?_) (fun h => ?_)
  · have hne : decide (l = m) = false := by rw [decide_eq_false_iff_not]; rintro rfl; simp at h
    try simp only [hne, go_sem, Nat.reduceAdd, Nat.reduceMul, Nat.reduceSub, Nat.reduceEqDiff, Nat.reduceLT, Nat.reduceLeDiff, Nat.reduceBEq, reduceIte, reduceCtorEq, Int.reduceAdd, Int.reduceLT, Int.reduceLE, Int.reduceGT, Int.reduceGE, Int.reduceEq, Int.reduceNe, Int.reduceBEq, Int.reduceBNe, Int.reduceToNat, Int.reduceNeg]
  · have hlm : l.length = m.length := by simp at h; omega
    try (refine ev ?_; try exact True.intro)
    refine AWp_loop (SsameB l m) (fun i => l.length - i.val) ⟨0, rfl⟩ ?_ (fun i => ?_)
    · try simp only [SsameB, go_sem, Nat.reduceAdd, Nat.reduceMul, Nat.reduceSub, Nat.reduceEqDiff, Nat.reduceLT, Nat.reduceLeDiff, Nat.reduceBEq, reduceIte, reduceCtorEq, Int.reduceAdd, Int.reduceLT, Int.reduceLE, Int.reduceGT, Int.reduceGE, Int.reduceEq, Int.reduceNe, Int.reduceBEq, Int.reduceBNe, Int.reduceToNat, Int.reduceNeg]
    · obtain ⟨i, hi⟩ := i
      try simp only [SsameB, go_sem, Nat.reduceAdd, Nat.reduceMul, Nat.reduceSub, Nat.reduceEqDiff, Nat.reduceLT, Nat.reduceLeDiff, Nat.reduceBEq, reduceIte, reduceCtorEq, Int.reduceAdd, Int.reduceLT, Int.reduceLE, Int.reduceGT, Int.reduceGE, Int.reduceEq, Int.reduceNe, Int.reduceBEq, Int.reduceBNe, Int.reduceToNat, Int.reduceNeg]
      refine iff_ _ (fun h => ?_) (fun h => ?_)
      · have hil : i < l.length := by simpa using h
        have him : i < m.length := by omega
        try simp only [getD_map encB l hil, getD_map encB m him, encB, go_sem, Nat.reduceAdd, Nat.reduceMul, Nat.reduceSub, Nat.reduceEqDiff, Nat.reduceLT, Nat.reduceLeDiff, Nat.reduceBEq, reduceIte, reduceCtorEq, Int.reduceAdd, Int.reduceLT, Int.reduceLE, Int.reduceGT, Int.reduceGE, Int.reduceEq, Int.reduceNe, Int.reduceBEq, Int.reduceBNe, Int.reduceToNat, Int.reduceNeg]
        refine ⟨by omega, by omega, ?_⟩
        refine iff_ _ (fun h2 => ?_) (fun h2 => ?_)
        · have hne : l[i] ≠ m[i] := by simpa using h2
          try simp only [eq_ne hil him hne, go_sem, Nat.reduceAdd, Nat.reduceMul, Nat.reduceSub, Nat.reduceEqDiff, Nat.reduceLT, Nat.reduceLeDiff, Nat.reduceBEq, reduceIte, reduceCtorEq, Int.reduceAdd, Int.reduceLT, Int.reduceLE, Int.reduceGT, Int.reduceGE, Int.reduceEq, Int.reduceNe, Int.reduceBEq, Int.reduceBNe, Int.reduceToNat, Int.reduceNeg]
        · have he : l[i] = m[i] := by simpa using h2
          try (refine ev ?_; try exact True.intro)
          refine ⟨⟨i + 1, take_eq_succ hi hil him he⟩, ?_, by dsimp only; omega⟩
          try simp only [SsameB, wrap_succ (show i < 9223372036854775807 by omega), go_sem, Nat.reduceAdd, Nat.reduceMul, Nat.reduceSub, Nat.reduceEqDiff, Nat.reduceLT, Nat.reduceLeDiff, Nat.reduceBEq, reduceIte, reduceCtorEq, Int.reduceAdd, Int.reduceLT, Int.reduceLE, Int.reduceGT, Int.reduceGE, Int.reduceEq, Int.reduceNe, Int.reduceBEq, Int.reduceBNe, Int.reduceToNat, Int.reduceNeg]
      · have he : decide (l = m) = true := take_eq_done hi (by simpa using h) hlm
        try simp only [he, go_sem, Nat.reduceAdd, Nat.reduceMul, Nat.reduceSub, Nat.reduceEqDiff, Nat.reduceLT, Nat.reduceLeDiff, Nat.reduceBEq, reduceIte, reduceCtorEq, Int.reduceAdd, Int.reduceLT, Int.reduceLE, Int.reduceGT, Int.reduceGE, Int.reduceEq, Int.reduceNe, Int.reduceBEq, Int.reduceBNe, Int.reduceToNat, Int.reduceNeg]

def fewE (x : En) : Bool := !(decide ((x.moved.length : Int) > 10) || decide ((x.opened.length : Int) > 10))
def fewM (m : Mg) : Bool := m.ents.all fewE && decide ((m.ents.length : Int) ≤ 12)
def SfewM (m : Mg) (i : { i : Nat // (m.ents.take i).all fewE = true }) : St := ⟨[(1, true, .d (.ptr 0 0)), (2, true, .d (.bool false)), (3, true, .d (.int .i64 (i.val : Nat)))], [mgObj m], [], 1⟩
theorem fewM_ok (m : Mg) (hl : m.ents.length ≤ maxLen) : ACall Try.prog 42 [.d (.agg (encMg m))] [] (.d (.bool (fewM m))) [] := by
  refine F42.go ?_
  try simp only [encMg, go_sem, Nat.reduceAdd, Nat.reduceMul, Nat.reduceSub, Nat.reduceEqDiff, Nat.reduceLT, Nat.reduceLeDiff, Nat.reduceBEq, reduceIte, reduceCtorEq, Int.reduceAdd, Int.reduceLT, Int.reduceLE, Int.reduceGT, Int.reduceGE, Int.reduceEq, Int.reduceNe, Int.reduceBEq, Int.reduceBNe, Int.reduceToNat, Int.reduceNeg]
  refine AWp_loop (SfewM m) (fun i => m.ents.length - i.val) ⟨0, rfl⟩ ?_ (fun i => ?_)
  · try simp only [SfewM, mgObj, go_sem, Nat.reduceAdd, Nat.reduceMul, Nat.reduceSub, Nat.reduceEqDiff, Nat.reduceLT, Nat.reduceLeDiff, Nat.reduceBEq, reduceIte, reduceCtorEq, Int.reduceAdd, Int.reduceLT, Int.reduceLE, Int.reduceGT, Int.reduceGE, Int.reduceEq, Int.reduceNe, Int.reduceBEq, Int.reduceBNe, Int.reduceToNat, Int.reduceNeg]
  obtain ⟨i, hi⟩ := i
  try simp only [SfewM, mgObj, go_sem, Nat.reduceAdd, Nat.reduceMul, Nat.reduceSub, Nat.reduceEqDiff, Nat.reduceLT, Nat.reduceLeDiff, Nat.reduceBEq, reduceIte, reduceCtorEq, Int.reduceAdd, Int.reduceLT, Int.reduceLE, Int.reduceGT, Int.reduceGE, Int.reduceEq, Int.reduceNe, Int.reduceBEq, Int.reduceBNe, Int.reduceToNat, Int.reduceNeg]
  (repeat (with_reducible refine ob ?_)); refine iff_ _ (fun h => ?_) (fun h => ?_)
  · have hil : i < m.ents.length := by simpa using h
    simp only [getD_map encEn m.ents hil, encEn, go_sem, Nat.reduceAdd, Nat.reduceMul, Nat.reduceSub, Nat.reduceEqDiff, Nat.reduceLT, Nat.reduceLeDiff, Nat.reduceBEq, reduceIte, reduceCtorEq, Int.reduceAdd, Int.reduceLT, Int.reduceLE, Int.reduceGT, Int.reduceGE, Int.reduceEq, Int.reduceNe, Int.reduceBEq, Int.reduceBNe, Int.reduceToNat, Int.reduceNeg]
    (repeat (with_reducible refine ob ?_))
    try (refine ev ?_; try exact True.intro)
    (repeat (with_reducible refine ob ?_))
    refine iff_ _ (fun h2 => ?_) (fun h2 => ?_)
    · have hg : fewE m.ents[i] = false := by simp only [fewE, h2]; rfl
      try simp only [fewM, all_no hil hg, go_sem, Nat.reduceAdd, Nat.reduceMul, Nat.reduceSub, Nat.reduceEqDiff, Nat.reduceLT, Nat.reduceLeDiff, Nat.reduceBEq, reduceIte, reduceCtorEq, Int.reduceAdd, Int.reduceLT, Int.reduceLE, Int.reduceGT, Int.reduceGE, Int.reduceEq, Int.reduceNe, Int.reduceBEq, Int.reduceBNe, Int.reduceToNat, Int.reduceNeg]
    · have hg : fewE m.ents[i] = true := by simp only [fewE, h2]; rfl
      try (refine ev ?_; try exact True.intro)
      refine ⟨⟨i + 1, take_all_succ hi hil hg⟩, ?_, by dsimp only; omega⟩
      try simp only [SfewM, mgObj, wrap_succ (show i < 9223372036854775807 by unfold maxLen at hl; omega), go_sem, Nat.reduceAdd, Nat.reduceMul, Nat.reduceSub, Nat.reduceEqDiff, Nat.reduceLT, Nat.reduceLeDiff, Nat.reduceBEq, reduceIte, reduceCtorEq, Int.reduceAdd, Int.reduceLT, Int.reduceLE, Int.reduceGT, Int.reduceGE, Int.reduceEq, Int.reduceNe, Int.reduceBEq, Int.reduceBNe, Int.reduceToNat, Int.reduceNeg]
  · have hall : m.ents.all fewE = true := all_done hi (by simpa using h)
    try simp only [fewM, hall, go_sem, Nat.reduceAdd, Nat.reduceMul, Nat.reduceSub, Nat.reduceEqDiff, Nat.reduceLT, Nat.reduceLeDiff, Nat.reduceBEq, reduceIte, reduceCtorEq, Int.reduceAdd, Int.reduceLT, Int.reduceLE, Int.reduceGT, Int.reduceGE, Int.reduceEq, Int.reduceNe, Int.reduceBEq, Int.reduceBNe, Int.reduceToNat, Int.reduceNeg]

def Seq53 (a b : Mg) (i : { i : Nat // a.ents.take i = b.ents.take i }) : St :=
  ⟨[(2, true, .d (.ptr 0 0)), (3, true, .d (.ptr 1 0)), (4, true, .d (.bool false)), (5, true, .d (.int .i64 (i.val : Nat)))], [mgObj a, mgObj b], [], 1⟩
theorem bne_En (x y : En) : (x.sess != y.sess || x.phase != y.phase || !decide (x.moved = y.moved) || !decide (x.opened = y.opened)) = !decide (x = y) := by
  rw [← beq_En x y]
  simp only [Bool.not_and, bne]
set_option maxRecDepth 10000 in
theorem equal53_ok (a b : Mg) (ha : a.Sm) : ACall Try.prog 57 [.d (.agg (encMg a)), .d (.agg (encMg b))] [] (.d (.bool (decide (a = b)))) [] := by
  have hl := ha.1
  refine F57.go ?_
  try simp only [encMg, go_sem, Nat.reduceAdd, Nat.reduceMul, Nat.reduceSub, Nat.reduceEqDiff, Nat.reduceLT, Nat.reduceLeDiff, Nat.reduceBEq, reduceIte, reduceCtorEq, Int.reduceAdd, Int.reduceLT, Int.reduceLE, Int.reduceGT, Int.reduceGE, Int.reduceEq, Int.reduceNe, Int.reduceBEq, Int.reduceBNe, Int.reduceToNat, Int.reduceNeg]
  (repeat (with_reducible refine ob ?_))
  try (refine ev ?_; try exact True.intro)
  refine iff_ _ (fun h => ?_) (fun h => ?_)
  · have hne : decide (a = b) = false := by rw [decide_eq_false_iff_not]; rintro rfl; simp at h
    try simp only [hne, go_sem, Nat.reduceAdd, Nat.reduceMul, Nat.reduceSub, Nat.reduceEqDiff, Nat.reduceLT, Nat.reduceLeDiff, Nat.reduceBEq, reduceIte, reduceCtorEq, Int.reduceAdd, Int.reduceLT, Int.reduceLE, Int.reduceGT, Int.reduceGE, Int.reduceEq, Int.reduceNe, Int.reduceBEq, Int.reduceBNe, Int.reduceToNat, Int.reduceNeg]
  · have hr : a.roles = b.roles := by simp at h; omega
    have hlm : a.ents.length = b.ents.length := by simp at h; omega
    try (refine ev ?_; try exact True.intro)
    refine AWp_loop (Seq53 a b) (fun i => a.ents.length - i.val) ⟨0, rfl⟩ ?_ (fun i => ?_)
    · try simp only [Seq53, mgObj, go_sem, Nat.reduceAdd, Nat.reduceMul, Nat.reduceSub, Nat.reduceEqDiff, Nat.reduceLT, Nat.reduceLeDiff, Nat.reduceBEq, reduceIte, reduceCtorEq, Int.reduceAdd, Int.reduceLT, Int.reduceLE, Int.reduceGT, Int.reduceGE, Int.reduceEq, Int.reduceNe, Int.reduceBEq, Int.reduceBNe, Int.reduceToNat, Int.reduceNeg]
    · obtain ⟨i, hi⟩ := i
      try simp only [Seq53, mgObj, go_sem, Nat.reduceAdd, Nat.reduceMul, Nat.reduceSub, Nat.reduceEqDiff, Nat.reduceLT, Nat.reduceLeDiff, Nat.reduceBEq, reduceIte, reduceCtorEq, Int.reduceAdd, Int.reduceLT, Int.reduceLE, Int.reduceGT, Int.reduceGE, Int.reduceEq, Int.reduceNe, Int.reduceBEq, Int.reduceBNe, Int.reduceToNat, Int.reduceNeg]
      refine iff_ _ (fun h => ?_) (fun h => ?_)
      · have hil : i < a.ents.length := by simpa using h
        have him : i < b.ents.length := by omega
        have hx := ha.2 _ (List.getElem_mem hil)
        simp only [getD_map encEn a.ents hil, getD_map encEn b.ents him, encEn, go_sem, Nat.reduceAdd, Nat.reduceMul, Nat.reduceSub, Nat.reduceEqDiff, Nat.reduceLT, Nat.reduceLeDiff, Nat.reduceBEq, reduceIte, reduceCtorEq, Int.reduceAdd, Int.reduceLT, Int.reduceLE, Int.reduceGT, Int.reduceGE, Int.reduceEq, Int.reduceNe, Int.reduceBEq, Int.reduceBNe, Int.reduceToNat, Int.reduceNeg]
        (repeat (with_reducible refine ob ?_))
        try (refine ev ?_; try exact True.intro)
        (repeat (with_reducible refine ob ?_))
        (repeat (with_reducible refine ob ?_)); first | refine cl F92 (sameB_ok a.ents[i].moved b.ents[i].moved hx.1) ?_ | refine clF F92 (sameB_ok a.ents[i].moved b.ents[i].moved hx.1) (fun _ => by simp only [encEn, encMg, go_sem, Nat.reduceAdd, Nat.reduceMul, Nat.reduceSub, Nat.reduceEqDiff, Nat.reduceLT, Nat.reduceLeDiff, Nat.reduceBEq, reduceIte, reduceCtorEq, Int.reduceAdd, Int.reduceLT, Int.reduceLE, Int.reduceGT, Int.reduceGE, Int.reduceEq, Int.reduceNe, Int.reduceBEq, Int.reduceBNe, Int.reduceToNat, Int.reduceNeg]) ?_
        try (refine ev ?_; try exact True.intro)
        (repeat (with_reducible refine ob ?_))
        (repeat (with_reducible refine ob ?_)); first | refine cl F92 (sameB_ok a.ents[i].opened b.ents[i].opened hx.2) ?_ | refine clF F92 (sameB_ok a.ents[i].opened b.ents[i].opened hx.2) (fun _ => by simp only [encEn, encMg, go_sem, Nat.reduceAdd, Nat.reduceMul, Nat.reduceSub, Nat.reduceEqDiff, Nat.reduceLT, Nat.reduceLeDiff, Nat.reduceBEq, reduceIte, reduceCtorEq, Int.reduceAdd, Int.reduceLT, Int.reduceLE, Int.reduceGT, Int.reduceGE, Int.reduceEq, Int.reduceNe, Int.reduceBEq, Int.reduceBNe, Int.reduceToNat, Int.reduceNeg]) ?_
        try simp only [bne_En, go_sem, Nat.reduceAdd, Nat.reduceMul, Nat.reduceSub, Nat.reduceEqDiff, Nat.reduceLT, Nat.reduceLeDiff, Nat.reduceBEq, reduceIte, reduceCtorEq, Int.reduceAdd, Int.reduceLT, Int.reduceLE, Int.reduceGT, Int.reduceGE, Int.reduceEq, Int.reduceNe, Int.reduceBEq, Int.reduceBNe, Int.reduceToNat, Int.reduceNeg]
        (repeat (with_reducible refine ob ?_))
        try simp only [bne_En, go_sem, Nat.reduceAdd, Nat.reduceMul, Nat.reduceSub, Nat.reduceEqDiff, Nat.reduceLT, Nat.reduceLeDiff, Nat.reduceBEq, reduceIte, reduceCtorEq, Int.reduceAdd, Int.reduceLT, Int.reduceLE, Int.reduceGT, Int.reduceGE, Int.reduceEq, Int.reduceNe, Int.reduceBEq, Int.reduceBNe, Int.reduceToNat, Int.reduceNeg]
        refine iff_ _ (fun h2 => ?_) (fun h2 => ?_)
        · have hne : a.ents[i] ≠ b.ents[i] := by simpa using h2
          have hne2 : decide (a = b) = false := by rw [decide_eq_false_iff_not]; rintro rfl; exact hne rfl
          try simp only [hne2, go_sem, Nat.reduceAdd, Nat.reduceMul, Nat.reduceSub, Nat.reduceEqDiff, Nat.reduceLT, Nat.reduceLeDiff, Nat.reduceBEq, reduceIte, reduceCtorEq, Int.reduceAdd, Int.reduceLT, Int.reduceLE, Int.reduceGT, Int.reduceGE, Int.reduceEq, Int.reduceNe, Int.reduceBEq, Int.reduceBNe, Int.reduceToNat, Int.reduceNeg]
        · have he : a.ents[i] = b.ents[i] := by simpa using h2
          try (refine ev ?_; try exact True.intro)
          refine ⟨⟨i + 1, take_eq_succ hi hil him he⟩, ?_, by dsimp only; omega⟩
          try simp only [Seq53, mgObj, wrap_succ (show i < 9223372036854775807 by omega), go_sem, Nat.reduceAdd, Nat.reduceMul, Nat.reduceSub, Nat.reduceEqDiff, Nat.reduceLT, Nat.reduceLeDiff, Nat.reduceBEq, reduceIte, reduceCtorEq, Int.reduceAdd, Int.reduceLT, Int.reduceLE, Int.reduceGT, Int.reduceGE, Int.reduceEq, Int.reduceNe, Int.reduceBEq, Int.reduceBNe, Int.reduceToNat, Int.reduceNeg]
      · have he : decide (a = b) = true := by
          have h1 := take_eq_done hi (by simpa using h) hlm
          rw [← beq_Mg, hr, h1]; simp
        try simp only [he, go_sem, Nat.reduceAdd, Nat.reduceMul, Nat.reduceSub, Nat.reduceEqDiff, Nat.reduceLT, Nat.reduceLeDiff, Nat.reduceBEq, reduceIte, reduceCtorEq, Int.reduceAdd, Int.reduceLT, Int.reduceLE, Int.reduceGT, Int.reduceGE, Int.reduceEq, Int.reduceNe, Int.reduceBEq, Int.reduceBNe, Int.reduceToNat, Int.reduceNeg]

theorem new53_ok (n : Int) : ACall Try.prog 56 [.d (.int .i64 n)] [] (.tup [.d (.agg (encMg (upNew n).1)), .d (.int .i64 (upNew n).2)]) [] := by
  refine F56.goT ?_
  try (refine ev ?_; try exact True.intro)
  (repeat (with_reducible refine ob ?_)); refine iff_ _ (fun h => ?_) (fun h => ?_)
  · try simp only [upNew, h, encMg, List.map_nil, go_sem, Nat.reduceAdd, Nat.reduceMul, Nat.reduceSub, Nat.reduceEqDiff, Nat.reduceLT, Nat.reduceLeDiff, Nat.reduceBEq, reduceIte, reduceCtorEq, Int.reduceAdd, Int.reduceLT, Int.reduceLE, Int.reduceGT, Int.reduceGE, Int.reduceEq, Int.reduceNe, Int.reduceBEq, Int.reduceBNe, Int.reduceToNat, Int.reduceNeg]
  · try simp only [upNew, h, encMg, List.map_nil, go_sem, Nat.reduceAdd, Nat.reduceMul, Nat.reduceSub, Nat.reduceEqDiff, Nat.reduceLT, Nat.reduceLeDiff, Nat.reduceBEq, reduceIte, reduceCtorEq, Int.reduceAdd, Int.reduceLT, Int.reduceLE, Int.reduceGT, Int.reduceGE, Int.reduceEq, Int.reduceNe, Int.reduceBEq, Int.reduceBNe, Int.reduceToNat, Int.reduceNeg]
end Go.Proofs.Ythcpckcgjplhiaa
