/- Orders: the program's and the reference's. -/
import Derived.Test.YthcpckcgjplhiaaGe
namespace Go.Proofs.Ythcpckcgjplhiaa
open Go.Abs
set_option linter.unusedSimpArgs false

section
variable {P : Program} {k0 o : Nat} {p : List (Nat × Nat)} {Q : SExit → St → Prop} {st : St}
noncomputable def s43r0 : List SOper := [
  ⟨some 1, .box 1 (.t 0), none⟩,
  ⟨some 2, .mov (.k (.d .nilsl)), none⟩]
noncomputable def s43r1 : List SOper := [
  ⟨some 10, .load (some 2) (.t 1), none⟩,
  ⟨some 11, .call (.k (.d (.func (.func 59) [] []))) [(.t 10)], none⟩,
  ⟨some 12, .not (.t 11), none⟩]
noncomputable def s43r2 : List SOper := [
  ⟨some 2, .mov (.k (.d .nilsl)), none⟩]
noncomputable def s43r3 : List SOper := [
  ⟨some 3, .mov (.k (.d .nilsl)), none⟩]
noncomputable def s43r4 : List SOper := [
  ⟨some 13, .faddr 1 (.t 1), none⟩,
  ⟨some 14, .load none (.t 13), none⟩,
  ⟨some 15, .len (.t 14), none⟩,
  ⟨some 16, .mov (.k (.d (.int .i64 0))), none⟩]
noncomputable def s43r5 : List SOper := [
  ⟨some 17, .bin .lss (.t 16) (.t 15), none⟩]
noncomputable def s43r6 : List SOper := [
  ⟨some 18, .iaddr 4 (.t 14) (.t 16), none⟩,
  ⟨some 19, .load (some 4) (.t 18), none⟩,
  ⟨some 5, .alloc 1 [(.d (.int .i64 0)), (.d (.int .i64 0)), (.d .nilsl), (.d .nilsl)], none⟩,
  ⟨none, .store (some 4) (.t 5) (.t 19), none⟩]
noncomputable def s43r7 : List SOper := [
  ⟨some 20, .faddr 2 (.t 5), none⟩,
  ⟨some 21, .load none (.t 20), none⟩,
  ⟨some 6, .mov (.t 21), none⟩,
  ⟨some 7, .mov (.k (.d (.int .i64 1))), none⟩]
noncomputable def s43r8 : List SOper := [
  ⟨some 22, .faddr 1 (.t 5), none⟩,
  ⟨some 23, .load none (.t 22), none⟩,
  ⟨some 24, .bin .neq (.t 23) (.k (.d (.int .i64 1))), none⟩]
noncomputable def s43r9 : List SOper := [
  ⟨some 25, .faddr 3 (.t 5), none⟩,
  ⟨some 26, .load none (.t 25), none⟩,
  ⟨some 6, .mov (.t 26), none⟩,
  ⟨some 7, .mov (.k (.d (.int .i64 2))), none⟩]
noncomputable def s43r10 : List SOper := [
  ⟨some 27, .mov (.t 6), none⟩,
  ⟨some 28, .len (.t 27), none⟩,
  ⟨some 29, .mov (.k (.d (.int .i64 0))), none⟩]
noncomputable def s43r11 : List SOper := [
  ⟨some 30, .bin .lss (.t 29) (.t 28), none⟩]
noncomputable def s43r12 : List SOper := [
  ⟨some 31, .mov (.t 29), none⟩,
  ⟨some 32, .iaddr 1 (.t 27) (.t 29), none⟩,
  ⟨some 33, .load none (.t 32), none⟩,
  ⟨some 8, .mov (.t 31), none⟩,
  ⟨some 9, .mov (.t 33), none⟩]
noncomputable def s43r13 : List SOper := [
  ⟨some 34, .mov (.t 9), none⟩,
  ⟨some 35, .not (.t 34), none⟩]
noncomputable def s43r14 : List SOper := [
  ⟨some 36, .mov (.t 3), none⟩,
  ⟨some 37, .faddr 0 (.t 5), none⟩,
  ⟨some 38, .load none (.t 37), none⟩,
  ⟨some 39, .mov (.t 8), none⟩,
  ⟨some 40, .mov (.t 7), none⟩,
  ⟨some 41, .build [(.int .i64 0), (.int .i64 0), (.int .i64 0), (.int .i64 0), (.int .i64 0), (.int .i64 0), (.int .i64 0), .nilsl, .nilsl] [(0, 1, (.k (.d (.int .i64 3)))), (1, 1, (.t 38)), (3, 1, (.t 39)), (6, 1, (.t 40))], none⟩,
  ⟨some 42, .buildSlice false 9 1 [(.int .i64 0), (.int .i64 0), (.int .i64 0), (.int .i64 0), (.int .i64 0), (.int .i64 0), (.int .i64 0), .nilsl, .nilsl] [(0, 9, (.t 41))], none⟩,
  ⟨some 43, .append false 9 104 (.t 36) (.t 42), none⟩,
  ⟨some 3, .mov (.t 43), none⟩]
noncomputable def s43r15 : List SOper := [
  ⟨some 44, .bin .add (.t 29) (.k (.d (.int .i64 1))), none⟩,
  ⟨some 29, .mov (.t 44), none⟩]
noncomputable def s43l16 : SCode := (.seq (.region s43r11 0 []) (.seq (.cond (.t 30) .skip (.exit 2)) (.seq (.block 3 (.seq (.region s43r12 0 []) (.seq (.region s43r13 0 []) (.cond (.t 35) (.region s43r14 0 []) .skip)))) (.region s43r15 0 []))))
theorem e43l16 : AWp P k0 s43l16 Q st = AWp P k0 (.seq (.region s43r11 0 []) (.seq (.cond (.t 30) .skip (.exit 2)) (.seq (.block 3 (.seq (.region s43r12 0 []) (.seq (.region s43r13 0 []) (.cond (.t 35) (.region s43r14 0 []) .skip)))) (.region s43r15 0 [])))) Q st := rfl
noncomputable def s43r17 : List SOper := [
  ⟨some 45, .bin .add (.t 16) (.k (.d (.int .i64 1))), none⟩,
  ⟨some 16, .mov (.t 45), none⟩]
noncomputable def s43l18 : SCode := (.seq (.region s43r5 0 []) (.seq (.cond (.t 17) .skip (.exit 0)) (.seq (.block 1 (.seq (.region s43r6 1 []) (.seq (.region s43r7 0 []) (.seq (.seq (.region s43r8 0 []) (.cond (.t 24) (.region s43r9 0 []) .skip)) (.seq (.region s43r10 0 []) (.block 2 (.loop s43l16))))))) (.region s43r17 0 []))))
theorem e43l18 : AWp P k0 s43l18 Q st = AWp P k0 (.seq (.region s43r5 0 []) (.seq (.cond (.t 17) .skip (.exit 0)) (.seq (.block 1 (.seq (.region s43r6 1 []) (.seq (.region s43r7 0 []) (.seq (.seq (.region s43r8 0 []) (.cond (.t 24) (.region s43r9 0 []) .skip)) (.seq (.region s43r10 0 []) (.block 2 (.loop s43l16))))))) (.region s43r17 0 [])))) Q st := rfl
noncomputable def s43r19 : List SOper := [
  ⟨some 46, .mov (.t 3), none⟩,
  ⟨some 2, .mov (.t 46), none⟩]
noncomputable def s43 : SCode := (.seq (.region s43r0 1 []) (.seq (.seq (.region s43r1 0 []) (.cond (.t 12) (.seq (.region s43r2 0 []) .ret) .skip)) (.seq (.region s43r3 0 []) (.seq (.seq (.region s43r4 0 []) (.block 0 (.loop s43l18))) (.seq (.region s43r19 0 []) .ret)))))
theorem e43 : AWp P k0 s43 Q st = AWp P k0 (.seq (.region s43r0 1 []) (.seq (.seq (.region s43r1 0 []) (.cond (.t 12) (.seq (.region s43r2 0 []) .ret) .skip)) (.seq (.region s43r3 0 []) (.seq (.seq (.region s43r4 0 []) (.block 0 (.loop s43l18))) (.seq (.region s43r19 0 []) .ret))))) Q st := rfl
theorem u43r0 : goReg P s43r0 o p Q st = goLit P (litOf s43r0.eq_1) o p Q st := goReg_of _
theorem u43r1 : goReg P s43r1 o p Q st = goLit P (litOf s43r1.eq_1) o p Q st := goReg_of _
theorem u43r2 : goReg P s43r2 o p Q st = goLit P (litOf s43r2.eq_1) o p Q st := goReg_of _
theorem u43r3 : goReg P s43r3 o p Q st = goLit P (litOf s43r3.eq_1) o p Q st := goReg_of _
theorem u43r4 : goReg P s43r4 o p Q st = goLit P (litOf s43r4.eq_1) o p Q st := goReg_of _
theorem u43r5 : goReg P s43r5 o p Q st = goLit P (litOf s43r5.eq_1) o p Q st := goReg_of _
theorem u43r6 : goReg P s43r6 o p Q st = goLit P (litOf s43r6.eq_1) o p Q st := goReg_of _
theorem u43r7 : goReg P s43r7 o p Q st = goLit P (litOf s43r7.eq_1) o p Q st := goReg_of _
theorem u43r8 : goReg P s43r8 o p Q st = goLit P (litOf s43r8.eq_1) o p Q st := goReg_of _
theorem u43r9 : goReg P s43r9 o p Q st = goLit P (litOf s43r9.eq_1) o p Q st := goReg_of _
theorem u43r10 : goReg P s43r10 o p Q st = goLit P (litOf s43r10.eq_1) o p Q st := goReg_of _
theorem u43r11 : goReg P s43r11 o p Q st = goLit P (litOf s43r11.eq_1) o p Q st := goReg_of _
theorem u43r12 : goReg P s43r12 o p Q st = goLit P (litOf s43r12.eq_1) o p Q st := goReg_of _
theorem u43r13 : goReg P s43r13 o p Q st = goLit P (litOf s43r13.eq_1) o p Q st := goReg_of _
theorem u43r14 : goReg P s43r14 o p Q st = goLit P (litOf s43r14.eq_1) o p Q st := goReg_of _
theorem u43r15 : goReg P s43r15 o p Q st = goLit P (litOf s43r15.eq_1) o p Q st := goReg_of _
theorem u43r17 : goReg P s43r17 o p Q st = goLit P (litOf s43r17.eq_1) o p Q st := goReg_of _
theorem u43r19 : goReg P s43r19 o p Q st = goLit P (litOf s43r19.eq_1) o p Q st := goReg_of _
attribute [go_sem] u43r0 u43r1 u43r2 u43r3 u43r4 u43r5 u43r6 u43r7 u43r8 u43r9 u43r10 u43r11 u43r12 u43r13 u43r14 u43r15 e43l16 u43r17 e43l18 u43r19 e43
set_option maxRecDepth 100000 in
theorem F43 : FnIs Try.prog 43 Try.f43 [] news s43 [.tmp 2] 47 := ⟨follows, Try.func43, by kernel_rfl, by kernel_rfl, by kernel_rfl, by kernel_rfl⟩

noncomputable def s45r0 : List SOper := [
  ⟨some 1, .box 1 (.t 0), none⟩,
  ⟨some 2, .mov (.k (.d .nilsl)), none⟩]
noncomputable def s45r1 : List SOper := [
  ⟨some 7, .load (some 2) (.t 1), none⟩,
  ⟨some 8, .call (.k (.d (.func (.func 60) [] []))) [(.t 7)], none⟩,
  ⟨some 9, .not (.t 8), none⟩]
noncomputable def s45r2 : List SOper := [
  ⟨some 2, .mov (.k (.d .nilsl)), none⟩]
noncomputable def s45r3 : List SOper := [
  ⟨some 3, .mov (.k (.d .nilsl)), none⟩]
noncomputable def s45r4 : List SOper := [
  ⟨some 4, .mov (.k (.d (.int .i64 0))), none⟩]
noncomputable def s45r5 : List SOper := [
  ⟨some 10, .mov (.t 4), none⟩,
  ⟨some 11, .faddr 1 (.t 1), none⟩,
  ⟨some 12, .load none (.t 11), none⟩,
  ⟨some 13, .len (.t 12), none⟩,
  ⟨some 14, .bin .lss (.t 10) (.t 13), none⟩]
noncomputable def s45r6 : List SOper := [
  ⟨some 17, .faddr 1 (.t 1), none⟩,
  ⟨some 18, .load none (.t 17), none⟩,
  ⟨some 19, .mov (.t 4), none⟩,
  ⟨some 20, .iaddr 4 (.t 18) (.t 19), none⟩,
  ⟨some 21, .load (some 4) (.t 20), none⟩,
  ⟨some 5, .alloc 1 [(.d (.int .i64 0)), (.d (.int .i64 0)), (.d .nilsl), (.d .nilsl)], none⟩,
  ⟨none, .store (some 4) (.t 5) (.t 21), none⟩]
noncomputable def s45r7 : List SOper := [
  ⟨some 6, .mov (.k (.d (.int .i64 0))), none⟩]
noncomputable def s45r8 : List SOper := [
  ⟨some 22, .mov (.t 6), none⟩,
  ⟨some 23, .faddr 0 (.t 1), none⟩,
  ⟨some 24, .load none (.t 23), none⟩,
  ⟨some 25, .bin .lss (.t 22) (.t 24), none⟩]
noncomputable def s45r9 : List SOper := [
  ⟨some 28, .faddr 1 (.t 5), none⟩,
  ⟨some 29, .load none (.t 28), none⟩,
  ⟨some 30, .bin .eql (.t 29) (.k (.d (.int .i64 1))), none⟩,
  ⟨some 31, .mov (.t 30), none⟩,
  ⟨some 32, .faddr 2 (.t 5), some (31, true)⟩,
  ⟨some 33, .load none (.t 32), some (31, true)⟩,
  ⟨some 34, .mov (.t 6), some (31, true)⟩,
  ⟨some 35, .iaddr 1 (.t 33) (.t 34), some (31, true)⟩,
  ⟨some 36, .load none (.t 35), some (31, true)⟩,
  ⟨some 37, .not (.t 36), some (31, true)⟩,
  ⟨some 38, .pick (.t 31) (.t 37) (.k (.d (.bool false))), none⟩]
noncomputable def s45r10 : List SOper := [
  ⟨some 39, .mov (.t 3), none⟩,
  ⟨some 40, .faddr 0 (.t 5), none⟩,
  ⟨some 41, .load none (.t 40), none⟩,
  ⟨some 42, .mov (.t 6), none⟩,
  ⟨some 43, .build [(.int .i64 0), (.int .i64 0), (.int .i64 0), (.int .i64 0), (.int .i64 0), (.int .i64 0), (.int .i64 0), .nilsl, .nilsl] [(0, 1, (.k (.d (.int .i64 3)))), (1, 1, (.t 41)), (3, 1, (.t 42)), (6, 1, (.k (.d (.int .i64 1))))], none⟩,
  ⟨some 44, .buildSlice false 9 1 [(.int .i64 0), (.int .i64 0), (.int .i64 0), (.int .i64 0), (.int .i64 0), (.int .i64 0), (.int .i64 0), .nilsl, .nilsl] [(0, 9, (.t 43))], none⟩,
  ⟨some 45, .append false 9 104 (.t 39) (.t 44), none⟩,
  ⟨some 3, .mov (.t 45), none⟩]
noncomputable def s45r11 : List SOper := [
  ⟨some 46, .faddr 1 (.t 5), none⟩,
  ⟨some 47, .load none (.t 46), none⟩,
  ⟨some 48, .bin .eql (.t 47) (.k (.d (.int .i64 2))), none⟩,
  ⟨some 49, .mov (.t 48), none⟩,
  ⟨some 50, .faddr 3 (.t 5), some (49, true)⟩,
  ⟨some 51, .load none (.t 50), some (49, true)⟩,
  ⟨some 52, .mov (.t 6), some (49, true)⟩,
  ⟨some 53, .iaddr 1 (.t 51) (.t 52), some (49, true)⟩,
  ⟨some 54, .load none (.t 53), some (49, true)⟩,
  ⟨some 55, .not (.t 54), some (49, true)⟩,
  ⟨some 56, .pick (.t 49) (.t 55) (.k (.d (.bool false))), none⟩]
noncomputable def s45r12 : List SOper := [
  ⟨some 57, .mov (.t 3), none⟩,
  ⟨some 58, .faddr 0 (.t 5), none⟩,
  ⟨some 59, .load none (.t 58), none⟩,
  ⟨some 60, .mov (.t 6), none⟩,
  ⟨some 61, .build [(.int .i64 0), (.int .i64 0), (.int .i64 0), (.int .i64 0), (.int .i64 0), (.int .i64 0), (.int .i64 0), .nilsl, .nilsl] [(0, 1, (.k (.d (.int .i64 3)))), (1, 1, (.t 59)), (3, 1, (.t 60)), (6, 1, (.k (.d (.int .i64 2))))], none⟩,
  ⟨some 62, .buildSlice false 9 1 [(.int .i64 0), (.int .i64 0), (.int .i64 0), (.int .i64 0), (.int .i64 0), (.int .i64 0), (.int .i64 0), .nilsl, .nilsl] [(0, 9, (.t 61))], none⟩,
  ⟨some 63, .append false 9 104 (.t 57) (.t 62), none⟩,
  ⟨some 3, .mov (.t 63), none⟩]
noncomputable def s45r13 : List SOper := [
  ⟨some 26, .mov (.t 6), none⟩,
  ⟨some 27, .bin .add (.t 26) (.k (.d (.int .i64 1))), none⟩,
  ⟨some 6, .mov (.t 27), none⟩]
noncomputable def s45l14 : SCode := (.seq (.seq (.region s45r8 0 []) (.cond (.t 25) .skip (.exit 2))) (.seq (.block 3 (.seq (.seq (.region s45r9 0 []) (.cond (.t 38) (.region s45r10 0 []) .skip)) (.seq (.region s45r11 0 []) (.cond (.t 56) (.region s45r12 0 []) .skip)))) (.region s45r13 0 [])))
theorem e45l14 : AWp P k0 s45l14 Q st = AWp P k0 (.seq (.seq (.region s45r8 0 []) (.cond (.t 25) .skip (.exit 2))) (.seq (.block 3 (.seq (.seq (.region s45r9 0 []) (.cond (.t 38) (.region s45r10 0 []) .skip)) (.seq (.region s45r11 0 []) (.cond (.t 56) (.region s45r12 0 []) .skip)))) (.region s45r13 0 []))) Q st := rfl
noncomputable def s45r15 : List SOper := [
  ⟨some 15, .mov (.t 4), none⟩,
  ⟨some 16, .bin .add (.t 15) (.k (.d (.int .i64 1))), none⟩,
  ⟨some 4, .mov (.t 16), none⟩]
noncomputable def s45l16 : SCode := (.seq (.seq (.region s45r5 0 []) (.cond (.t 14) .skip (.exit 0))) (.seq (.block 1 (.seq (.region s45r6 1 []) (.seq (.region s45r7 0 []) (.block 2 (.loop s45l14))))) (.region s45r15 0 [])))
theorem e45l16 : AWp P k0 s45l16 Q st = AWp P k0 (.seq (.seq (.region s45r5 0 []) (.cond (.t 14) .skip (.exit 0))) (.seq (.block 1 (.seq (.region s45r6 1 []) (.seq (.region s45r7 0 []) (.block 2 (.loop s45l14))))) (.region s45r15 0 []))) Q st := rfl
noncomputable def s45r17 : List SOper := [
  ⟨some 64, .mov (.t 3), none⟩,
  ⟨some 2, .mov (.t 64), none⟩]
noncomputable def s45 : SCode := (.seq (.region s45r0 1 []) (.seq (.seq (.region s45r1 0 []) (.cond (.t 9) (.seq (.region s45r2 0 []) .ret) .skip)) (.seq (.region s45r3 0 []) (.seq (.seq (.region s45r4 0 []) (.block 0 (.loop s45l16))) (.seq (.region s45r17 0 []) .ret)))))
theorem e45 : AWp P k0 s45 Q st = AWp P k0 (.seq (.region s45r0 1 []) (.seq (.seq (.region s45r1 0 []) (.cond (.t 9) (.seq (.region s45r2 0 []) .ret) .skip)) (.seq (.region s45r3 0 []) (.seq (.seq (.region s45r4 0 []) (.block 0 (.loop s45l16))) (.seq (.region s45r17 0 []) .ret))))) Q st := rfl
theorem u45r0 : goReg P s45r0 o p Q st = goLit P (litOf s45r0.eq_1) o p Q st := goReg_of _
theorem u45r1 : goReg P s45r1 o p Q st = goLit P (litOf s45r1.eq_1) o p Q st := goReg_of _
theorem u45r2 : goReg P s45r2 o p Q st = goLit P (litOf s45r2.eq_1) o p Q st := goReg_of _
theorem u45r3 : goReg P s45r3 o p Q st = goLit P (litOf s45r3.eq_1) o p Q st := goReg_of _
theorem u45r4 : goReg P s45r4 o p Q st = goLit P (litOf s45r4.eq_1) o p Q st := goReg_of _
theorem u45r5 : goReg P s45r5 o p Q st = goLit P (litOf s45r5.eq_1) o p Q st := goReg_of _
theorem u45r6 : goReg P s45r6 o p Q st = goLit P (litOf s45r6.eq_1) o p Q st := goReg_of _
theorem u45r7 : goReg P s45r7 o p Q st = goLit P (litOf s45r7.eq_1) o p Q st := goReg_of _
theorem u45r8 : goReg P s45r8 o p Q st = goLit P (litOf s45r8.eq_1) o p Q st := goReg_of _
theorem u45r9 : goReg P s45r9 o p Q st = goLit P (litOf s45r9.eq_1) o p Q st := goReg_of _
theorem u45r10 : goReg P s45r10 o p Q st = goLit P (litOf s45r10.eq_1) o p Q st := goReg_of _
theorem u45r11 : goReg P s45r11 o p Q st = goLit P (litOf s45r11.eq_1) o p Q st := goReg_of _
theorem u45r12 : goReg P s45r12 o p Q st = goLit P (litOf s45r12.eq_1) o p Q st := goReg_of _
theorem u45r13 : goReg P s45r13 o p Q st = goLit P (litOf s45r13.eq_1) o p Q st := goReg_of _
theorem u45r15 : goReg P s45r15 o p Q st = goLit P (litOf s45r15.eq_1) o p Q st := goReg_of _
theorem u45r17 : goReg P s45r17 o p Q st = goLit P (litOf s45r17.eq_1) o p Q st := goReg_of _
attribute [go_sem] u45r0 u45r1 u45r2 u45r3 u45r4 u45r5 u45r6 u45r7 u45r8 u45r9 u45r10 u45r11 u45r12 u45r13 e45l14 u45r15 e45l16 u45r17 e45
set_option maxRecDepth 100000 in
theorem F45 : FnIs Try.prog 45 Try.f45 [] news s45 [.tmp 2] 65 := ⟨follows, Try.func45, by kernel_rfl, by kernel_rfl, by kernel_rfl, by kernel_rfl⟩

noncomputable def s44r0 : List SOper := [
  ⟨some 1, .box 2 (.t 0), none⟩,
  ⟨some 2, .alloc 1 [(.d (.int .i64 0)), (.d .nilsl)], none⟩]
noncomputable def s44r1 : List SOper := [
  ⟨some 5, .faddr 0 (.t 1), none⟩,
  ⟨some 6, .load none (.t 5), none⟩,
  ⟨some 7, .build [(.int .i64 0), .nilsl] [(0, 1, (.t 6))], none⟩,
  ⟨some 3, .alloc 1 [(.d (.int .i64 0)), (.d .nilsl)], none⟩,
  ⟨none, .store (some 2) (.t 3) (.t 7), none⟩]
noncomputable def s44r2 : List SOper := [
  ⟨some 4, .mov (.k (.d (.int .i64 0))), none⟩]
noncomputable def s44r3 : List SOper := [
  ⟨some 8, .mov (.t 4), none⟩,
  ⟨some 9, .faddr 1 (.t 1), none⟩,
  ⟨some 10, .load none (.t 9), none⟩,
  ⟨some 11, .len (.t 10), none⟩,
  ⟨some 12, .bin .lss (.t 8) (.t 11), none⟩]
noncomputable def s44r4 : List SOper := [
  ⟨some 15, .faddr 1 (.t 3), none⟩,
  ⟨some 16, .load none (.t 15), none⟩,
  ⟨some 17, .faddr 1 (.t 1), none⟩,
  ⟨some 18, .load none (.t 17), none⟩,
  ⟨some 19, .mov (.t 4), none⟩,
  ⟨some 20, .iaddr 4 (.t 18) (.t 19), none⟩,
  ⟨some 21, .load (some 4) (.t 20), none⟩,
  ⟨some 22, .buildSlice false 4 1 [(.int .i64 0), (.int .i64 0), .nilsl, .nilsl] [(0, 4, (.t 21))], none⟩,
  ⟨some 23, .append false 4 64 (.t 16) (.t 22), none⟩,
  ⟨some 24, .faddr 1 (.t 3), none⟩,
  ⟨none, .store none (.t 24) (.t 23), none⟩]
noncomputable def s44r5 : List SOper := [
  ⟨some 13, .mov (.t 4), none⟩,
  ⟨some 14, .bin .add (.t 13) (.k (.d (.int .i64 1))), none⟩,
  ⟨some 4, .mov (.t 14), none⟩]
noncomputable def s44l6 : SCode := (.seq (.seq (.region s44r3 0 []) (.cond (.t 12) .skip (.exit 0))) (.seq (.block 1 (.region s44r4 0 [])) (.region s44r5 0 [])))
theorem e44l6 : AWp P k0 s44l6 Q st = AWp P k0 (.seq (.seq (.region s44r3 0 []) (.cond (.t 12) .skip (.exit 0))) (.seq (.block 1 (.region s44r4 0 [])) (.region s44r5 0 []))) Q st := rfl
noncomputable def s44r7 : List SOper := [
  ⟨some 25, .load (some 2) (.t 3), none⟩,
  ⟨none, .store (some 2) (.t 2) (.t 25), none⟩]
noncomputable def s44 : SCode := (.seq (.region s44r0 2 []) (.seq (.region s44r1 1 []) (.seq (.seq (.region s44r2 0 []) (.block 0 (.loop s44l6))) (.seq (.region s44r7 0 []) .ret))))
theorem e44 : AWp P k0 s44 Q st = AWp P k0 (.seq (.region s44r0 2 []) (.seq (.region s44r1 1 []) (.seq (.seq (.region s44r2 0 []) (.block 0 (.loop s44l6))) (.seq (.region s44r7 0 []) .ret)))) Q st := rfl
theorem u44r0 : goReg P s44r0 o p Q st = goLit P (litOf s44r0.eq_1) o p Q st := goReg_of _
theorem u44r1 : goReg P s44r1 o p Q st = goLit P (litOf s44r1.eq_1) o p Q st := goReg_of _
theorem u44r2 : goReg P s44r2 o p Q st = goLit P (litOf s44r2.eq_1) o p Q st := goReg_of _
theorem u44r3 : goReg P s44r3 o p Q st = goLit P (litOf s44r3.eq_1) o p Q st := goReg_of _
theorem u44r4 : goReg P s44r4 o p Q st = goLit P (litOf s44r4.eq_1) o p Q st := goReg_of _
theorem u44r5 : goReg P s44r5 o p Q st = goLit P (litOf s44r5.eq_1) o p Q st := goReg_of _
theorem u44r7 : goReg P s44r7 o p Q st = goLit P (litOf s44r7.eq_1) o p Q st := goReg_of _
attribute [go_sem] u44r0 u44r1 u44r2 u44r3 u44r4 u44r5 e44l6 u44r7 e44
set_option maxRecDepth 100000 in
theorem F44 : FnIs Try.prog 44 Try.f44 [] news s44 [.cell 2 (some 2)] 26 := ⟨follows, Try.func44, by kernel_rfl, by kernel_rfl, by kernel_rfl, by kernel_rfl⟩

noncomputable def s58r0 : List SOper := [
  ⟨some 1, .box 2 (.t 0), none⟩,
  ⟨some 2, .alloc 1 [(.d (.int .i64 0)), (.d .nilsl)], none⟩]
noncomputable def s58r1 : List SOper := [
  ⟨some 5, .faddr 0 (.t 1), none⟩,
  ⟨some 6, .load none (.t 5), none⟩,
  ⟨some 7, .build [(.int .i64 0), .nilsl] [(0, 1, (.t 6))], none⟩,
  ⟨some 3, .alloc 1 [(.d (.int .i64 0)), (.d .nilsl)], none⟩,
  ⟨none, .store (some 2) (.t 3) (.t 7), none⟩]
noncomputable def s58r2 : List SOper := [
  ⟨some 4, .mov (.k (.d (.int .i64 0))), none⟩]
noncomputable def s58r3 : List SOper := [
  ⟨some 8, .mov (.t 4), none⟩,
  ⟨some 9, .faddr 1 (.t 1), none⟩,
  ⟨some 10, .load none (.t 9), none⟩,
  ⟨some 11, .len (.t 10), none⟩,
  ⟨some 12, .bin .lss (.t 8) (.t 11), none⟩]
noncomputable def s58r4 : List SOper := [
  ⟨some 15, .faddr 1 (.t 3), none⟩,
  ⟨some 16, .load none (.t 15), none⟩,
  ⟨some 17, .faddr 1 (.t 1), none⟩,
  ⟨some 18, .load none (.t 17), none⟩,
  ⟨some 19, .mov (.t 4), none⟩,
  ⟨some 20, .iaddr 4 (.t 18) (.t 19), none⟩,
  ⟨some 21, .load (some 4) (.t 20), none⟩,
  ⟨some 22, .buildSlice false 4 1 [(.int .i64 0), (.int .i64 0), .nilsl, .nilsl] [(0, 4, (.t 21))], none⟩,
  ⟨some 23, .append false 4 64 (.t 16) (.t 22), none⟩,
  ⟨some 24, .faddr 1 (.t 3), none⟩,
  ⟨none, .store none (.t 24) (.t 23), none⟩]
noncomputable def s58r5 : List SOper := [
  ⟨some 13, .mov (.t 4), none⟩,
  ⟨some 14, .bin .add (.t 13) (.k (.d (.int .i64 1))), none⟩,
  ⟨some 4, .mov (.t 14), none⟩]
noncomputable def s58l6 : SCode := (.seq (.seq (.region s58r3 0 []) (.cond (.t 12) .skip (.exit 0))) (.seq (.block 1 (.region s58r4 0 [])) (.region s58r5 0 [])))
theorem e58l6 : AWp P k0 s58l6 Q st = AWp P k0 (.seq (.seq (.region s58r3 0 []) (.cond (.t 12) .skip (.exit 0))) (.seq (.block 1 (.region s58r4 0 [])) (.region s58r5 0 []))) Q st := rfl
noncomputable def s58r7 : List SOper := [
  ⟨some 25, .load (some 2) (.t 3), none⟩,
  ⟨none, .store (some 2) (.t 2) (.t 25), none⟩]
noncomputable def s58 : SCode := (.seq (.region s58r0 2 []) (.seq (.region s58r1 1 []) (.seq (.seq (.region s58r2 0 []) (.block 0 (.loop s58l6))) (.seq (.region s58r7 0 []) .ret))))
theorem e58 : AWp P k0 s58 Q st = AWp P k0 (.seq (.region s58r0 2 []) (.seq (.region s58r1 1 []) (.seq (.seq (.region s58r2 0 []) (.block 0 (.loop s58l6))) (.seq (.region s58r7 0 []) .ret)))) Q st := rfl
theorem u58r0 : goReg P s58r0 o p Q st = goLit P (litOf s58r0.eq_1) o p Q st := goReg_of _
theorem u58r1 : goReg P s58r1 o p Q st = goLit P (litOf s58r1.eq_1) o p Q st := goReg_of _
theorem u58r2 : goReg P s58r2 o p Q st = goLit P (litOf s58r2.eq_1) o p Q st := goReg_of _
theorem u58r3 : goReg P s58r3 o p Q st = goLit P (litOf s58r3.eq_1) o p Q st := goReg_of _
theorem u58r4 : goReg P s58r4 o p Q st = goLit P (litOf s58r4.eq_1) o p Q st := goReg_of _
theorem u58r5 : goReg P s58r5 o p Q st = goLit P (litOf s58r5.eq_1) o p Q st := goReg_of _
theorem u58r7 : goReg P s58r7 o p Q st = goLit P (litOf s58r7.eq_1) o p Q st := goReg_of _
attribute [go_sem] u58r0 u58r1 u58r2 u58r3 u58r4 u58r5 e58l6 u58r7 e58
set_option maxRecDepth 100000 in
theorem F58 : FnIs Try.prog 58 Try.f58 [] news s58 [.cell 2 (some 2)] 26 := ⟨follows, Try.func58, by kernel_rfl, by kernel_rfl, by kernel_rfl, by kernel_rfl⟩

end

def ordPk (s r label : Int) : Pk := ⟨3, s, 0, r, 0, 0, label, [], []⟩
def ordAt (s label : Int) (marks : List Bool) (r : Nat) : List Pk := if marks.getD r true then [] else [ordPk s r label]
def ordTo (s label : Int) (marks : List Bool) (n : Nat) : List Pk := (List.range n).flatMap (ordAt s label marks)
def enMarks (x : En) : List Bool := if x.phase != 1 then x.opened else x.moved
def enLabel (x : En) : Int := if x.phase != 1 then 2 else 1
def enOrd (x : En) : List Pk := ordTo x.sess (enLabel x) (enMarks x) (enMarks x).length
def ordersTo (m : Mg) (n : Nat) : List Pk := (List.range n).flatMap fun i => enOrd (m.ents.getD i default)
def upOrders (m : Mg) : List Pk := if upValid m then ordersTo m m.ents.length else []

theorem ordersTo0 (m : Mg) : ordersTo m 0 = [] := rfl
theorem ordTo0 (s label : Int) (marks : List Bool) : ordTo s label marks 0 = [] := rfl
theorem ordTo_succ (s label : Int) (marks : List Bool) (n : Nat) : ordTo s label marks (n + 1) = ordTo s label marks n ++ ordAt s label marks n := by simp [ordTo, List.range_succ]
theorem ordersTo_succ (m : Mg) (n : Nat) : ordersTo m (n + 1) = ordersTo m n ++ enOrd (m.ents.getD n default) := by simp [ordersTo, List.range_succ]
theorem ordTo_len (s label : Int) (marks : List Bool) : ∀ n, (ordTo s label marks n).length ≤ n
  | 0 => by simp [ordTo]
  | n + 1 => by
    rw [ordTo_succ, List.length_append]
    have := ordTo_len s label marks n
    have : (ordAt s label marks n).length ≤ 1 := by unfold ordAt; split <;> simp
    omega
theorem enMarks_len (x : En) (hx : x.Sm) : (enMarks x).length ≤ 1000 := by unfold enMarks; split; exact hx.2; exact hx.1
theorem enOrd_len (x : En) (hx : x.Sm) : (enOrd x).length ≤ 1000 := Nat.le_trans (ordTo_len _ _ _ _) (enMarks_len x hx)
theorem ordersTo_len (m : Mg) (hm : m.Sm) : ∀ n, n ≤ m.ents.length → (ordersTo m n).length ≤ n * 1000
  | 0, _ => by simp [ordersTo]
  | n + 1, h => by
    have h1 : n < m.ents.length := h
    rw [ordersTo_succ, List.length_append, getD_lt h1]
    have := ordersTo_len m hm n (by omega)
    have := enOrd_len _ (hm.2 _ (List.getElem_mem h1))
    omega

def enObj (x : En) : AObj := .row [.d (.int .i64 x.sess), .d (.int .i64 x.phase), .d (.sl 1 (x.moved.map encB)), .d (.sl 1 (x.opened.map encB))]
def SordO (m : Mg) (i : { i : Nat // i ≤ m.ents.length }) : St :=
  ⟨[(2, true, .d .nilsl), (3, true, .own 0 9 ((ordersTo m i.val).map encPk)), (14, true, .d (.sl 4 (m.ents.map encEn))), (15, true, .d (.int .i64 m.ents.length)), (16, true, .d (.int .i64 (i.val : Nat)))], [mgObj m], [0], 1⟩
def SordI (m : Mg) (i : Nat) (x : En) (r : { r : Nat // r ≤ (enMarks x).length }) : St :=
  ⟨[(2, true, .d .nilsl), (3, true, .own 0 9 ((ordersTo m i ++ ordTo x.sess (enLabel x) (enMarks x) r.val).map encPk)), (5, true, .d (.ptr 1 0)), (7, true, .d (.int .i64 (enLabel x))), (14, true, .d (.sl 4 (m.ents.map encEn))), (15, true, .d (.int .i64 m.ents.length)), (16, true, .d (.int .i64 (i : Nat))),
    (27, true, .d (.sl 1 ((enMarks x).map encB))), (28, true, .d (.int .i64 (enMarks x).length)), (29, true, .d (.int .i64 (r.val : Nat)))], [mgObj m, enObj x], [0], 1⟩

theorem upOrdI (m : Mg) (hm : m.Sm) (i : Nat) (hi : i < m.ents.length) (x : En) (hx : x.Sm) (Q : SExit → St → Prop) (st : St) (h0 : Weak 0 st (SordI m i x ⟨0, Nat.zero_le _⟩))
    (hQ : ∀ b, Q .normal ⟨(30, true, .d (.bool b)) :: (SordI m i x ⟨(enMarks x).length, Nat.le_refl _⟩).fr, [mgObj m, enObj x], [0], 2⟩) : AWp Try.prog 0 (.block 2 (.loop s43l16)) Q st := by
  have hml := enMarks_len x hx
  have hol := ordersTo_len m hm i (by omega)
  have hl := hm.1
  try (refine ev ?_; try exact True.intro)
  refine AWp_loop (SordI m i x) (fun r => (enMarks x).length - r.val) ⟨0, Nat.zero_le _⟩ h0 (fun r => ?_)
  obtain ⟨r, hr⟩ := r
  try simp only [SordI, mgObj, enObj, go_sem, Nat.reduceAdd, Nat.reduceMul, Nat.reduceSub, Nat.reduceEqDiff, Nat.reduceLT, Nat.reduceLeDiff, Nat.reduceBEq, reduceIte, reduceCtorEq, Int.reduceAdd, Int.reduceLT, Int.reduceLE, Int.reduceGT, Int.reduceGE, Int.reduceEq, Int.reduceNe, Int.reduceBEq, Int.reduceBNe, Int.reduceToNat, Int.reduceNeg]
  (repeat (with_reducible refine ob ?_)); refine iff_ _ (fun h => ?_) (fun h => ?_)
  · have hil : r < (enMarks x).length := by simpa using h
    simp only [getD_map encB (enMarks x) hil, encB, go_sem, Nat.reduceAdd, Nat.reduceMul, Nat.reduceSub, Nat.reduceEqDiff, Nat.reduceLT, Nat.reduceLeDiff, Nat.reduceBEq, reduceIte, reduceCtorEq, Int.reduceAdd, Int.reduceLT, Int.reduceLE, Int.reduceGT, Int.reduceGE, Int.reduceEq, Int.reduceNe, Int.reduceBEq, Int.reduceBNe, Int.reduceToNat, Int.reduceNeg]
    (repeat (with_reducible refine ob ?_))
    refine iff_ _ (fun h2 => ?_) (fun h2 => ?_)
    · have hb : (enMarks x)[r] = false := by simpa using h2
      have ha : ordAt x.sess (enLabel x) (enMarks x) r = [ordPk x.sess r (enLabel x)] := by simp [ordAt, hil, hb]
      have hlt := ordTo_len x.sess (enLabel x) (enMarks x) r
      try (refine ev ?_; try exact True.intro)
      (repeat (with_reducible refine ob ?_))
      refine ⟨⟨r + 1, hil⟩, ?_, by dsimp only; omega⟩
      try simp only [SordI, mgObj, enObj, ordTo_succ, ha, ← List.append_assoc, List.map_append, List.map_cons, List.map_nil, ordPk, encPk, wrap_succ (show r < 9223372036854775807 by omega), go_sem, Nat.reduceAdd, Nat.reduceMul, Nat.reduceSub, Nat.reduceEqDiff, Nat.reduceLT, Nat.reduceLeDiff, Nat.reduceBEq, reduceIte, reduceCtorEq, Int.reduceAdd, Int.reduceLT, Int.reduceLE, Int.reduceGT, Int.reduceGE, Int.reduceEq, Int.reduceNe, Int.reduceBEq, Int.reduceBNe, Int.reduceToNat, Int.reduceNeg]
    · have hb : (enMarks x)[r] = true := by simpa using h2
      have ha : ordAt x.sess (enLabel x) (enMarks x) r = [] := by simp [ordAt, hil, hb]
      try (refine ev ?_; try exact True.intro)
      refine ⟨⟨r + 1, hil⟩, ?_, by dsimp only; omega⟩
      try simp only [SordI, mgObj, enObj, ordTo_succ, ha, List.append_nil, wrap_succ (show r < 9223372036854775807 by omega), go_sem, Nat.reduceAdd, Nat.reduceMul, Nat.reduceSub, Nat.reduceEqDiff, Nat.reduceLT, Nat.reduceLeDiff, Nat.reduceBEq, reduceIte, reduceCtorEq, Int.reduceAdd, Int.reduceLT, Int.reduceLE, Int.reduceGT, Int.reduceGE, Int.reduceEq, Int.reduceNe, Int.reduceBEq, Int.reduceBNe, Int.reduceToNat, Int.reduceNeg]
  · have hil : r = (enMarks x).length := by have : (enMarks x).length ≤ r := by simpa using h
                                            omega
    subst hil
    try (refine ev ?_; try exact True.intro)
    exact hQ _

set_option maxRecDepth 10000 in
theorem upOrders_ok (m : Mg) (hm : m.Sm) : ACall Try.prog 43 [.d (.agg (encMg m))] [] (.d (.sl 9 ((upOrders m).map encPk))) [] := by
  have hl := hm.1
  refine F43.go ?_
  try simp only [encMg, go_sem, Nat.reduceAdd, Nat.reduceMul, Nat.reduceSub, Nat.reduceEqDiff, Nat.reduceLT, Nat.reduceLeDiff, Nat.reduceBEq, reduceIte, reduceCtorEq, Int.reduceAdd, Int.reduceLT, Int.reduceLE, Int.reduceGT, Int.reduceGE, Int.reduceEq, Int.reduceNe, Int.reduceBEq, Int.reduceBNe, Int.reduceToNat, Int.reduceNeg]
  (repeat (with_reducible refine ob ?_)); first | refine cl F59 (upValid_ok m hm) ?_ | refine clF F59 (upValid_ok m hm) (fun _ => by simp only [encEn, encMg, encPk, go_sem, Nat.reduceAdd, Nat.reduceMul, Nat.reduceSub, Nat.reduceEqDiff, Nat.reduceLT, Nat.reduceLeDiff, Nat.reduceBEq, reduceIte, reduceCtorEq, Int.reduceAdd, Int.reduceLT, Int.reduceLE, Int.reduceGT, Int.reduceGE, Int.reduceEq, Int.reduceNe, Int.reduceBEq, Int.reduceBNe, Int.reduceToNat, Int.reduceNeg]) ?_
  try (refine ev ?_; try exact True.intro)
  refine iff_ _ (fun hv => ?_) (fun hv => ?_)
  · have hu : upOrders m = [] := by simp at hv; simp [upOrders, hv]
    try simp only [hu, List.map_nil, go_sem, Nat.reduceAdd, Nat.reduceMul, Nat.reduceSub, Nat.reduceEqDiff, Nat.reduceLT, Nat.reduceLeDiff, Nat.reduceBEq, reduceIte, reduceCtorEq, Int.reduceAdd, Int.reduceLT, Int.reduceLE, Int.reduceGT, Int.reduceGE, Int.reduceEq, Int.reduceNe, Int.reduceBEq, Int.reduceBNe, Int.reduceToNat, Int.reduceNeg]
  have hu : upOrders m = ordersTo m m.ents.length := by simp at hv; simp [upOrders, hv]
  rw [hu]
  try (refine ev ?_; try exact True.intro)
  refine AWp_loop (SordO m) (fun i => m.ents.length - i.val) ⟨0, Nat.zero_le _⟩ ?_ (fun i => ?_)
  · try simp only [SordO, mgObj, ordersTo0, List.map_nil, go_sem, Nat.reduceAdd, Nat.reduceMul, Nat.reduceSub, Nat.reduceEqDiff, Nat.reduceLT, Nat.reduceLeDiff, Nat.reduceBEq, reduceIte, reduceCtorEq, Int.reduceAdd, Int.reduceLT, Int.reduceLE, Int.reduceGT, Int.reduceGE, Int.reduceEq, Int.reduceNe, Int.reduceBEq, Int.reduceBNe, Int.reduceToNat, Int.reduceNeg]
  obtain ⟨i, hi⟩ := i
  try simp only [SordO, mgObj, go_sem, Nat.reduceAdd, Nat.reduceMul, Nat.reduceSub, Nat.reduceEqDiff, Nat.reduceLT, Nat.reduceLeDiff, Nat.reduceBEq, reduceIte, reduceCtorEq, Int.reduceAdd, Int.reduceLT, Int.reduceLE, Int.reduceGT, Int.reduceGE, Int.reduceEq, Int.reduceNe, Int.reduceBEq, Int.reduceBNe, Int.reduceToNat, Int.reduceNeg]
  (repeat (with_reducible refine ob ?_)); refine iff_ _ (fun h => ?_) (fun h => ?_)
  · have hil : i < m.ents.length := by simpa using h
    have hx := hm.2 _ (List.getElem_mem hil)
    simp only [getD_map encEn m.ents hil, encEn, go_sem, Nat.reduceAdd, Nat.reduceMul, Nat.reduceSub, Nat.reduceEqDiff, Nat.reduceLT, Nat.reduceLeDiff, Nat.reduceBEq, reduceIte, reduceCtorEq, Int.reduceAdd, Int.reduceLT, Int.reduceLE, Int.reduceGT, Int.reduceGE, Int.reduceEq, Int.reduceNe, Int.reduceBEq, Int.reduceBNe, Int.reduceToNat, Int.reduceNeg]
    (repeat (with_reducible refine ob ?_))
    refine iff_ _ (fun h2 => ?_) (fun h2 => ?_)
    · have e1 : enMarks m.ents[i] = m.ents[i].opened := by simp only [enMarks, h2, if_true]
      have e2 : enLabel m.ents[i] = 2 := by simp only [enLabel, h2, if_true]
      try (refine ev ?_; try exact True.intro)
      refine upOrdI m hm i hil m.ents[i] hx _ _ ?_ (fun b => ?_)
      · try simp only [SordI, mgObj, enObj, e1, e2, ordTo0, List.append_nil, go_sem, Nat.reduceAdd, Nat.reduceMul, Nat.reduceSub, Nat.reduceEqDiff, Nat.reduceLT, Nat.reduceLeDiff, Nat.reduceBEq, reduceIte, reduceCtorEq, Int.reduceAdd, Int.reduceLT, Int.reduceLE, Int.reduceGT, Int.reduceGE, Int.reduceEq, Int.reduceNe, Int.reduceBEq, Int.reduceBNe, Int.reduceToNat, Int.reduceNeg]
      · try simp only [SordI, mgObj, enObj, go_sem, Nat.reduceAdd, Nat.reduceMul, Nat.reduceSub, Nat.reduceEqDiff, Nat.reduceLT, Nat.reduceLeDiff, Nat.reduceBEq, reduceIte, reduceCtorEq, Int.reduceAdd, Int.reduceLT, Int.reduceLE, Int.reduceGT, Int.reduceGE, Int.reduceEq, Int.reduceNe, Int.reduceBEq, Int.reduceBNe, Int.reduceToNat, Int.reduceNeg]
        refine ⟨⟨i + 1, hil⟩, ?_, by dsimp only; omega⟩
        try simp only [SordO, mgObj, ordersTo_succ, getD_lt hil, enOrd, wrap_succ (show i < 9223372036854775807 by omega), go_sem, Nat.reduceAdd, Nat.reduceMul, Nat.reduceSub, Nat.reduceEqDiff, Nat.reduceLT, Nat.reduceLeDiff, Nat.reduceBEq, reduceIte, reduceCtorEq, Int.reduceAdd, Int.reduceLT, Int.reduceLE, Int.reduceGT, Int.reduceGE, Int.reduceEq, Int.reduceNe, Int.reduceBEq, Int.reduceBNe, Int.reduceToNat, Int.reduceNeg]
    · have e1 : enMarks m.ents[i] = m.ents[i].moved := by simp only [enMarks, h2]; rfl
      have e2 : enLabel m.ents[i] = 1 := by simp only [enLabel, h2]; rfl
      try (refine ev ?_; try exact True.intro)
      refine upOrdI m hm i hil m.ents[i] hx _ _ ?_ (fun b => ?_)
      · try simp only [SordI, mgObj, enObj, e1, e2, ordTo0, List.append_nil, go_sem, Nat.reduceAdd, Nat.reduceMul, Nat.reduceSub, Nat.reduceEqDiff, Nat.reduceLT, Nat.reduceLeDiff, Nat.reduceBEq, reduceIte, reduceCtorEq, Int.reduceAdd, Int.reduceLT, Int.reduceLE, Int.reduceGT, Int.reduceGE, Int.reduceEq, Int.reduceNe, Int.reduceBEq, Int.reduceBNe, Int.reduceToNat, Int.reduceNeg]
      · try simp only [SordI, mgObj, enObj, go_sem, Nat.reduceAdd, Nat.reduceMul, Nat.reduceSub, Nat.reduceEqDiff, Nat.reduceLT, Nat.reduceLeDiff, Nat.reduceBEq, reduceIte, reduceCtorEq, Int.reduceAdd, Int.reduceLT, Int.reduceLE, Int.reduceGT, Int.reduceGE, Int.reduceEq, Int.reduceNe, Int.reduceBEq, Int.reduceBNe, Int.reduceToNat, Int.reduceNeg]
        refine ⟨⟨i + 1, hil⟩, ?_, by dsimp only; omega⟩
        try simp only [SordO, mgObj, ordersTo_succ, getD_lt hil, enOrd, wrap_succ (show i < 9223372036854775807 by omega), go_sem, Nat.reduceAdd, Nat.reduceMul, Nat.reduceSub, Nat.reduceEqDiff, Nat.reduceLT, Nat.reduceLeDiff, Nat.reduceBEq, reduceIte, reduceCtorEq, Int.reduceAdd, Int.reduceLT, Int.reduceLE, Int.reduceGT, Int.reduceGE, Int.reduceEq, Int.reduceNe, Int.reduceBEq, Int.reduceBNe, Int.reduceToNat, Int.reduceNeg]
  · have hil : i = m.ents.length := by have : m.ents.length ≤ i := by simpa using h
                                       omega
    subst hil
    try (refine ev ?_; try exact True.intro)

def Sto53 (m : Mg) (i : { i : Nat // i ≤ m.ents.length }) : St :=
  ⟨[(1, true, .d (.ptr 0 0)), (2, true, .d (.ptr 1 0)), (3, true, .d (.ptr 2 0)), (4, true, .d (.int .i64 (i.val : Nat)))],
   [mgObj m, .row [.d (.int .i64 0), .d .nilsl], .row [.d (.int .i64 m.roles), .own 0 4 ((m.ents.take i.val).map encEn)]], [0], 1⟩

set_option maxRecDepth 10000 in
theorem to53_ok (m : Mg) (hm : m.ents.length ≤ 1000) : ACall Try.prog 44 [.d (.agg (encMg m))] [] (.d (.agg (encMg m))) [] := by
  refine F44.go ?_
  try simp only [encMg, go_sem, Nat.reduceAdd, Nat.reduceMul, Nat.reduceSub, Nat.reduceEqDiff, Nat.reduceLT, Nat.reduceLeDiff, Nat.reduceBEq, reduceIte, reduceCtorEq, Int.reduceAdd, Int.reduceLT, Int.reduceLE, Int.reduceGT, Int.reduceGE, Int.reduceEq, Int.reduceNe, Int.reduceBEq, Int.reduceBNe, Int.reduceToNat, Int.reduceNeg]
  refine AWp_loop (Sto53 m) (fun i => m.ents.length - i.val) ⟨0, Nat.zero_le _⟩ ?_ (fun i => ?_)
  · try simp only [Sto53, mgObj, go_sem, Nat.reduceAdd, Nat.reduceMul, Nat.reduceSub, Nat.reduceEqDiff, Nat.reduceLT, Nat.reduceLeDiff, Nat.reduceBEq, reduceIte, reduceCtorEq, Int.reduceAdd, Int.reduceLT, Int.reduceLE, Int.reduceGT, Int.reduceGE, Int.reduceEq, Int.reduceNe, Int.reduceBEq, Int.reduceBNe, Int.reduceToNat, Int.reduceNeg]
  obtain ⟨i, hi⟩ := i
  try simp only [Sto53, mgObj, go_sem, Nat.reduceAdd, Nat.reduceMul, Nat.reduceSub, Nat.reduceEqDiff, Nat.reduceLT, Nat.reduceLeDiff, Nat.reduceBEq, reduceIte, reduceCtorEq, Int.reduceAdd, Int.reduceLT, Int.reduceLE, Int.reduceGT, Int.reduceGE, Int.reduceEq, Int.reduceNe, Int.reduceBEq, Int.reduceBNe, Int.reduceToNat, Int.reduceNeg]
  (repeat (with_reducible refine ob ?_)); refine iff_ _ (fun h => ?_) (fun h => ?_)
  · have hil : i < m.ents.length := by simpa using h
    simp only [getD_map encEn m.ents hil, encEn, go_sem, Nat.reduceAdd, Nat.reduceMul, Nat.reduceSub, Nat.reduceEqDiff, Nat.reduceLT, Nat.reduceLeDiff, Nat.reduceBEq, reduceIte, reduceCtorEq, Int.reduceAdd, Int.reduceLT, Int.reduceLE, Int.reduceGT, Int.reduceGE, Int.reduceEq, Int.reduceNe, Int.reduceBEq, Int.reduceBNe, Int.reduceToNat, Int.reduceNeg]
    (repeat (with_reducible refine ob ?_))
    have hlt : (m.ents.take i).length ≤ 1000 := by simp; omega
    try (refine ev ?_; try exact True.intro)
    (repeat (with_reducible refine ob ?_))
    refine ⟨⟨i + 1, hil⟩, ?_, by dsimp only; omega⟩
    try simp only [Sto53, mgObj, map_take_succ encEn m.ents hil, encEn, wrap_succ (show i < 9223372036854775807 by omega), go_sem, Nat.reduceAdd, Nat.reduceMul, Nat.reduceSub, Nat.reduceEqDiff, Nat.reduceLT, Nat.reduceLeDiff, Nat.reduceBEq, reduceIte, reduceCtorEq, Int.reduceAdd, Int.reduceLT, Int.reduceLE, Int.reduceGT, Int.reduceGE, Int.reduceEq, Int.reduceNe, Int.reduceBEq, Int.reduceBNe, Int.reduceToNat, Int.reduceNeg]
  · have hil : i = m.ents.length := by have : m.ents.length ≤ i := by simpa using h
                                       omega
    subst hil
    try simp only [List.take_length, go_sem, Nat.reduceAdd, Nat.reduceMul, Nat.reduceSub, Nat.reduceEqDiff, Nat.reduceLT, Nat.reduceLeDiff, Nat.reduceBEq, reduceIte, reduceCtorEq, Int.reduceAdd, Int.reduceLT, Int.reduceLE, Int.reduceGT, Int.reduceGE, Int.reduceEq, Int.reduceNe, Int.reduceBEq, Int.reduceBNe, Int.reduceToNat, Int.reduceNeg]
set_option maxRecDepth 10000 in
theorem from53_ok (m : Mg) (hm : m.ents.length ≤ 1000) : ACall Try.prog 58 [.d (.agg (encMg m))] [] (.d (.agg (encMg m))) [] := by
  refine F58.go ?_
  try simp only [encMg, go_sem, Nat.reduceAdd, Nat.reduceMul, Nat.reduceSub, Nat.reduceEqDiff, Nat.reduceLT, Nat.reduceLeDiff, Nat.reduceBEq, reduceIte, reduceCtorEq, Int.reduceAdd, Int.reduceLT, Int.reduceLE, Int.reduceGT, Int.reduceGE, Int.reduceEq, Int.reduceNe, Int.reduceBEq, Int.reduceBNe, Int.reduceToNat, Int.reduceNeg]
  refine AWp_loop (Sto53 m) (fun i => m.ents.length - i.val) ⟨0, Nat.zero_le _⟩ ?_ (fun i => ?_)
  · try simp only [Sto53, mgObj, go_sem, Nat.reduceAdd, Nat.reduceMul, Nat.reduceSub, Nat.reduceEqDiff, Nat.reduceLT, Nat.reduceLeDiff, Nat.reduceBEq, reduceIte, reduceCtorEq, Int.reduceAdd, Int.reduceLT, Int.reduceLE, Int.reduceGT, Int.reduceGE, Int.reduceEq, Int.reduceNe, Int.reduceBEq, Int.reduceBNe, Int.reduceToNat, Int.reduceNeg]
  obtain ⟨i, hi⟩ := i
  try simp only [Sto53, mgObj, go_sem, Nat.reduceAdd, Nat.reduceMul, Nat.reduceSub, Nat.reduceEqDiff, Nat.reduceLT, Nat.reduceLeDiff, Nat.reduceBEq, reduceIte, reduceCtorEq, Int.reduceAdd, Int.reduceLT, Int.reduceLE, Int.reduceGT, Int.reduceGE, Int.reduceEq, Int.reduceNe, Int.reduceBEq, Int.reduceBNe, Int.reduceToNat, Int.reduceNeg]
  (repeat (with_reducible refine ob ?_)); refine iff_ _ (fun h => ?_) (fun h => ?_)
  · have hil : i < m.ents.length := by simpa using h
    simp only [getD_map encEn m.ents hil, encEn, go_sem, Nat.reduceAdd, Nat.reduceMul, Nat.reduceSub, Nat.reduceEqDiff, Nat.reduceLT, Nat.reduceLeDiff, Nat.reduceBEq, reduceIte, reduceCtorEq, Int.reduceAdd, Int.reduceLT, Int.reduceLE, Int.reduceGT, Int.reduceGE, Int.reduceEq, Int.reduceNe, Int.reduceBEq, Int.reduceBNe, Int.reduceToNat, Int.reduceNeg]
    (repeat (with_reducible refine ob ?_))
    have hlt : (m.ents.take i).length ≤ 1000 := by simp; omega
    try (refine ev ?_; try exact True.intro)
    (repeat (with_reducible refine ob ?_))
    refine ⟨⟨i + 1, hil⟩, ?_, by dsimp only; omega⟩
    try simp only [Sto53, mgObj, map_take_succ encEn m.ents hil, encEn, wrap_succ (show i < 9223372036854775807 by omega), go_sem, Nat.reduceAdd, Nat.reduceMul, Nat.reduceSub, Nat.reduceEqDiff, Nat.reduceLT, Nat.reduceLeDiff, Nat.reduceBEq, reduceIte, reduceCtorEq, Int.reduceAdd, Int.reduceLT, Int.reduceLE, Int.reduceGT, Int.reduceGE, Int.reduceEq, Int.reduceNe, Int.reduceBEq, Int.reduceBNe, Int.reduceToNat, Int.reduceNeg]
  · have hil : i = m.ents.length := by have : m.ents.length ≤ i := by simpa using h
                                       omega
    subst hil
    try simp only [List.take_length, go_sem, Nat.reduceAdd, Nat.reduceMul, Nat.reduceSub, Nat.reduceEqDiff, Nat.reduceLT, Nat.reduceLeDiff, Nat.reduceBEq, reduceIte, reduceCtorEq, Int.reduceAdd, Int.reduceLT, Int.reduceLE, Int.reduceGT, Int.reduceGE, Int.reduceEq, Int.reduceNe, Int.reduceBEq, Int.reduceBNe, Int.reduceToNat, Int.reduceNeg]
end Go.Proofs.Ythcpckcgjplhiaa
