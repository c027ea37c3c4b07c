/- The reference's comparisons. -/
import Derived.Test.YthcpckcgjplhiaaCg
namespace Go.Proofs.Ythcpckcgjplhiaa
open Go.Abs
set_option linter.unusedSimpArgs false

section
variable {P : Program} {k0 o : Nat} {p : List (Nat × Nat)} {Q : SExit → St → Prop} {st : St}
noncomputable def s78r0 : List SOper := [
  ⟨some 4, .mov (.k (.d (.bool false))), none⟩]
noncomputable def s78r1 : List SOper := [
  ⟨some 6, .mov (.t 0), none⟩,
  ⟨some 7, .len (.t 6), none⟩,
  ⟨some 8, .mov (.t 1), none⟩,
  ⟨some 9, .len (.t 8), none⟩,
  ⟨some 10, .bin .neq (.t 7) (.t 9), none⟩]
noncomputable def s78r2 : List SOper := [
  ⟨some 4, .mov (.k (.d (.bool false))), none⟩]
noncomputable def s78r3 : List SOper := [
  ⟨some 5, .mov (.k (.d (.int .i64 0))), none⟩]
noncomputable def s78r4 : List SOper := [
  ⟨some 11, .mov (.t 5), none⟩,
  ⟨some 12, .mov (.t 0), none⟩,
  ⟨some 13, .len (.t 12), none⟩,
  ⟨some 14, .bin .lss (.t 11) (.t 13), none⟩]
noncomputable def s78r5 : List SOper := [
  ⟨some 17, .mov (.t 0), none⟩,
  ⟨some 18, .mov (.t 5), none⟩,
  ⟨some 19, .iaddr 3 (.t 17) (.t 18), none⟩,
  ⟨some 20, .load (some 3) (.t 19), none⟩,
  ⟨some 21, .mov (.t 1), none⟩,
  ⟨some 22, .mov (.t 5), none⟩,
  ⟨some 23, .iaddr 3 (.t 21) (.t 22), none⟩,
  ⟨some 24, .load (some 3) (.t 23), none⟩,
  ⟨some 25, .eqAgg true [.int, .int, .str] (.t 20) (.t 24), none⟩]
noncomputable def s78r6 : List SOper := [
  ⟨some 4, .mov (.k (.d (.bool false))), none⟩]
noncomputable def s78r7 : List SOper := [
  ⟨some 15, .mov (.t 5), none⟩,
  ⟨some 16, .bin .add (.t 15) (.k (.d (.int .i64 1))), none⟩,
  ⟨some 5, .mov (.t 16), none⟩]
noncomputable def s78l8 : SCode := (.seq (.seq (.region s78r4 0 []) (.cond (.t 14) .skip (.exit 0))) (.seq (.block 1 (.seq (.region s78r5 0 []) (.cond (.t 25) (.seq (.region s78r6 0 []) .ret) .skip))) (.region s78r7 0 [])))
theorem e78l8 : AWp P k0 s78l8 Q st = AWp P k0 (.seq (.seq (.region s78r4 0 []) (.cond (.t 14) .skip (.exit 0))) (.seq (.block 1 (.seq (.region s78r5 0 []) (.cond (.t 25) (.seq (.region s78r6 0 []) .ret) .skip))) (.region s78r7 0 []))) Q st := rfl
noncomputable def s78r9 : List SOper := [
  ⟨some 4, .mov (.k (.d (.bool true))), none⟩]
noncomputable def s78 : SCode := (.seq (.region s78r0 0 []) (.seq (.seq (.region s78r1 0 []) (.cond (.t 10) (.seq (.region s78r2 0 []) .ret) .skip)) (.seq (.seq (.region s78r3 0 []) (.block 0 (.loop s78l8))) (.seq (.region s78r9 0 []) .ret))))
theorem e78 : AWp P k0 s78 Q st = AWp P k0 (.seq (.region s78r0 0 []) (.seq (.seq (.region s78r1 0 []) (.cond (.t 10) (.seq (.region s78r2 0 []) .ret) .skip)) (.seq (.seq (.region s78r3 0 []) (.block 0 (.loop s78l8))) (.seq (.region s78r9 0 []) .ret)))) Q st := rfl
theorem u78r0 : goReg P s78r0 o p Q st = goLit P (litOf s78r0.eq_1) o p Q st := goReg_of _
theorem u78r1 : goReg P s78r1 o p Q st = goLit P (litOf s78r1.eq_1) o p Q st := goReg_of _
theorem u78r2 : goReg P s78r2 o p Q st = goLit P (litOf s78r2.eq_1) o p Q st := goReg_of _
theorem u78r3 : goReg P s78r3 o p Q st = goLit P (litOf s78r3.eq_1) o p Q st := goReg_of _
theorem u78r4 : goReg P s78r4 o p Q st = goLit P (litOf s78r4.eq_1) o p Q st := goReg_of _
theorem u78r5 : goReg P s78r5 o p Q st = goLit P (litOf s78r5.eq_1) o p Q st := goReg_of _
theorem u78r6 : goReg P s78r6 o p Q st = goLit P (litOf s78r6.eq_1) o p Q st := goReg_of _
theorem u78r7 : goReg P s78r7 o p Q st = goLit P (litOf s78r7.eq_1) o p Q st := goReg_of _
theorem u78r9 : goReg P s78r9 o p Q st = goLit P (litOf s78r9.eq_1) o p Q st := goReg_of _
attribute [go_sem] u78r0 u78r1 u78r2 u78r3 u78r4 u78r5 u78r6 u78r7 e78l8 u78r9 e78
set_option maxRecDepth 100000 in
theorem F78 : FnIs Try.prog 78 Try.f78 [] news s78 [.tmp 4] 26 := ⟨follows, Try.func78, by kernel_rfl, by kernel_rfl, by kernel_rfl, by kernel_rfl⟩

noncomputable def s79r0 : List SOper := [
  ⟨some 4, .mov (.k (.d (.bool false))), none⟩]
noncomputable def s79r1 : List SOper := [
  ⟨some 6, .mov (.t 0), none⟩,
  ⟨some 7, .len (.t 6), none⟩,
  ⟨some 8, .mov (.t 1), none⟩,
  ⟨some 9, .len (.t 8), none⟩,
  ⟨some 10, .bin .neq (.t 7) (.t 9), none⟩]
noncomputable def s79r2 : List SOper := [
  ⟨some 4, .mov (.k (.d (.bool false))), none⟩]
noncomputable def s79r3 : List SOper := [
  ⟨some 5, .mov (.k (.d (.int .i64 0))), none⟩]
noncomputable def s79r4 : List SOper := [
  ⟨some 11, .mov (.t 5), none⟩,
  ⟨some 12, .mov (.t 0), none⟩,
  ⟨some 13, .len (.t 12), none⟩,
  ⟨some 14, .bin .lss (.t 11) (.t 13), none⟩]
noncomputable def s79r5 : List SOper := [
  ⟨some 17, .mov (.t 0), none⟩,
  ⟨some 18, .mov (.t 5), none⟩,
  ⟨some 19, .iaddr 1 (.t 17) (.t 18), none⟩,
  ⟨some 20, .load none (.t 19), none⟩,
  ⟨some 21, .mov (.t 1), none⟩,
  ⟨some 22, .mov (.t 5), none⟩,
  ⟨some 23, .iaddr 1 (.t 21) (.t 22), none⟩,
  ⟨some 24, .load none (.t 23), none⟩,
  ⟨some 25, .bin .neq (.t 20) (.t 24), none⟩]
noncomputable def s79r6 : List SOper := [
  ⟨some 4, .mov (.k (.d (.bool false))), none⟩]
noncomputable def s79r7 : List SOper := [
  ⟨some 15, .mov (.t 5), none⟩,
  ⟨some 16, .bin .add (.t 15) (.k (.d (.int .i64 1))), none⟩,
  ⟨some 5, .mov (.t 16), none⟩]
noncomputable def s79l8 : SCode := (.seq (.seq (.region s79r4 0 []) (.cond (.t 14) .skip (.exit 0))) (.seq (.block 1 (.seq (.region s79r5 0 []) (.cond (.t 25) (.seq (.region s79r6 0 []) .ret) .skip))) (.region s79r7 0 [])))
theorem e79l8 : AWp P k0 s79l8 Q st = AWp P k0 (.seq (.seq (.region s79r4 0 []) (.cond (.t 14) .skip (.exit 0))) (.seq (.block 1 (.seq (.region s79r5 0 []) (.cond (.t 25) (.seq (.region s79r6 0 []) .ret) .skip))) (.region s79r7 0 []))) Q st := rfl
noncomputable def s79r9 : List SOper := [
  ⟨some 4, .mov (.k (.d (.bool true))), none⟩]
noncomputable def s79 : SCode := (.seq (.region s79r0 0 []) (.seq (.seq (.region s79r1 0 []) (.cond (.t 10) (.seq (.region s79r2 0 []) .ret) .skip)) (.seq (.seq (.region s79r3 0 []) (.block 0 (.loop s79l8))) (.seq (.region s79r9 0 []) .ret))))
theorem e79 : AWp P k0 s79 Q st = AWp P k0 (.seq (.region s79r0 0 []) (.seq (.seq (.region s79r1 0 []) (.cond (.t 10) (.seq (.region s79r2 0 []) .ret) .skip)) (.seq (.seq (.region s79r3 0 []) (.block 0 (.loop s79l8))) (.seq (.region s79r9 0 []) .ret)))) Q st := rfl
theorem u79r0 : goReg P s79r0 o p Q st = goLit P (litOf s79r0.eq_1) o p Q st := goReg_of _
theorem u79r1 : goReg P s79r1 o p Q st = goLit P (litOf s79r1.eq_1) o p Q st := goReg_of _
theorem u79r2 : goReg P s79r2 o p Q st = goLit P (litOf s79r2.eq_1) o p Q st := goReg_of _
theorem u79r3 : goReg P s79r3 o p Q st = goLit P (litOf s79r3.eq_1) o p Q st := goReg_of _
theorem u79r4 : goReg P s79r4 o p Q st = goLit P (litOf s79r4.eq_1) o p Q st := goReg_of _
theorem u79r5 : goReg P s79r5 o p Q st = goLit P (litOf s79r5.eq_1) o p Q st := goReg_of _
theorem u79r6 : goReg P s79r6 o p Q st = goLit P (litOf s79r6.eq_1) o p Q st := goReg_of _
theorem u79r7 : goReg P s79r7 o p Q st = goLit P (litOf s79r7.eq_1) o p Q st := goReg_of _
theorem u79r9 : goReg P s79r9 o p Q st = goLit P (litOf s79r9.eq_1) o p Q st := goReg_of _
attribute [go_sem] u79r0 u79r1 u79r2 u79r3 u79r4 u79r5 u79r6 u79r7 e79l8 u79r9 e79
set_option maxRecDepth 100000 in
theorem F79 : FnIs Try.prog 79 Try.f79 [] news s79 [.tmp 4] 26 := ⟨follows, Try.func79, by kernel_rfl, by kernel_rfl, by kernel_rfl, by kernel_rfl⟩

noncomputable def s46r0 : List SOper := [
  ⟨some 2, .box 2 (.t 0), none⟩,
  ⟨some 3, .box 1 (.t 1), none⟩,
  ⟨some 4, .mov (.k (.d (.bool false))), none⟩]
noncomputable def s46r1 : List SOper := [
  ⟨some 5, .faddr 0 (.t 2), none⟩,
  ⟨some 6, .load none (.t 5), none⟩,
  ⟨some 7, .faddr 0 (.t 3), none⟩,
  ⟨some 8, .load none (.t 7), none⟩,
  ⟨some 9, .bin .eql (.t 6) (.t 8), none⟩,
  ⟨some 10, .mov (.t 9), none⟩,
  ⟨some 11, .faddr 1 (.t 2), some (10, true)⟩,
  ⟨some 12, .load none (.t 11), some (10, true)⟩,
  ⟨some 13, .faddr 1 (.t 3), some (10, true)⟩,
  ⟨some 14, .load none (.t 13), some (10, true)⟩,
  ⟨some 15, .bin .eql (.t 12) (.t 14), some (10, true)⟩,
  ⟨some 16, .pick (.t 10) (.t 15) (.k (.d (.bool false))), none⟩,
  ⟨some 17, .mov (.t 16), none⟩,
  ⟨some 18, .faddr 2 (.t 2), some (17, true)⟩,
  ⟨some 19, .load none (.t 18), some (17, true)⟩,
  ⟨some 20, .faddr 2 (.t 3), some (17, true)⟩,
  ⟨some 21, .load none (.t 20), some (17, true)⟩,
  ⟨some 22, .bin .eql (.t 19) (.t 21), some (17, true)⟩,
  ⟨some 23, .pick (.t 17) (.t 22) (.k (.d (.bool false))), none⟩,
  ⟨some 24, .mov (.t 23), none⟩,
  ⟨some 25, .faddr 3 (.t 2), some (24, true)⟩,
  ⟨some 26, .load none (.t 25), some (24, true)⟩,
  ⟨some 27, .faddr 3 (.t 3), some (24, true)⟩,
  ⟨some 28, .load none (.t 27), some (24, true)⟩,
  ⟨some 29, .bin .eql (.t 26) (.t 28), some (24, true)⟩,
  ⟨some 30, .pick (.t 24) (.t 29) (.k (.d (.bool false))), none⟩,
  ⟨some 31, .mov (.t 30), none⟩,
  ⟨some 32, .faddr 4 (.t 2), some (31, true)⟩,
  ⟨some 33, .load none (.t 32), some (31, true)⟩,
  ⟨some 34, .faddr 4 (.t 3), some (31, true)⟩,
  ⟨some 35, .load none (.t 34), some (31, true)⟩,
  ⟨some 36, .bin .eql (.t 33) (.t 35), some (31, true)⟩,
  ⟨some 37, .pick (.t 31) (.t 36) (.k (.d (.bool false))), none⟩,
  ⟨some 38, .mov (.t 37), none⟩,
  ⟨some 39, .faddr 5 (.t 2), some (38, true)⟩,
  ⟨some 40, .load none (.t 39), some (38, true)⟩,
  ⟨some 41, .faddr 5 (.t 3), some (38, true)⟩,
  ⟨some 42, .load none (.t 41), some (38, true)⟩,
  ⟨some 43, .bin .eql (.t 40) (.t 42), some (38, true)⟩,
  ⟨some 44, .pick (.t 38) (.t 43) (.k (.d (.bool false))), none⟩,
  ⟨some 45, .mov (.t 44), none⟩,
  ⟨some 46, .faddr 6 (.t 2), some (45, true)⟩,
  ⟨some 47, .load none (.t 46), some (45, true)⟩,
  ⟨some 48, .faddr 6 (.t 3), some (45, true)⟩,
  ⟨some 49, .load none (.t 48), some (45, true)⟩,
  ⟨some 50, .bin .eql (.t 47) (.t 49), some (45, true)⟩,
  ⟨some 51, .pick (.t 45) (.t 50) (.k (.d (.bool false))), none⟩,
  ⟨some 52, .mov (.t 51), none⟩,
  ⟨some 53, .faddr 7 (.t 2), some (52, true)⟩,
  ⟨some 54, .load none (.t 53), some (52, true)⟩,
  ⟨some 55, .faddr 7 (.t 3), some (52, true)⟩,
  ⟨some 56, .load none (.t 55), some (52, true)⟩,
  ⟨some 57, .call (.k (.d (.func (.func 78) [] []))) [(.t 54), (.t 56)], some (52, true)⟩,
  ⟨some 58, .pick (.t 52) (.t 57) (.k (.d (.bool false))), none⟩,
  ⟨some 59, .mov (.t 58), none⟩,
  ⟨some 60, .faddr 8 (.t 2), some (59, true)⟩,
  ⟨some 61, .load none (.t 60), some (59, true)⟩,
  ⟨some 62, .faddr 8 (.t 3), some (59, true)⟩,
  ⟨some 63, .load none (.t 62), some (59, true)⟩,
  ⟨some 64, .call (.k (.d (.func (.func 79) [] []))) [(.t 61), (.t 63)], some (59, true)⟩,
  ⟨some 65, .pick (.t 59) (.t 64) (.k (.d (.bool false))), none⟩,
  ⟨some 4, .mov (.t 65), none⟩]
noncomputable def s46 : SCode := (.seq (.region s46r0 2 []) (.seq (.region s46r1 0 []) .ret))
theorem e46 : AWp P k0 s46 Q st = AWp P k0 (.seq (.region s46r0 2 []) (.seq (.region s46r1 0 []) .ret)) Q st := rfl
theorem u46r0 : goReg P s46r0 o p Q st = goLit P (litOf s46r0.eq_1) o p Q st := goReg_of _
theorem u46r1 : goReg P s46r1 o p Q st = goLit P (litOf s46r1.eq_1) o p Q st := goReg_of _
attribute [go_sem] u46r0 u46r1 e46
set_option maxRecDepth 100000 in
theorem F46 : FnIs Try.prog 46 Try.f46 [] news s46 [.tmp 4] 66 := ⟨follows, Try.func46, by kernel_rfl, by kernel_rfl, by kernel_rfl, by kernel_rfl⟩

noncomputable def s69r0 : List SOper := [
  ⟨some 4, .mov (.k (.d (.bool false))), none⟩]
noncomputable def s69r1 : List SOper := [
  ⟨some 6, .mov (.t 0), none⟩,
  ⟨some 7, .len (.t 6), none⟩,
  ⟨some 8, .mov (.t 1), none⟩,
  ⟨some 9, .len (.t 8), none⟩,
  ⟨some 10, .bin .neq (.t 7) (.t 9), none⟩]
noncomputable def s69r2 : List SOper := [
  ⟨some 4, .mov (.k (.d (.bool false))), none⟩]
noncomputable def s69r3 : List SOper := [
  ⟨some 5, .mov (.k (.d (.int .i64 0))), none⟩]
noncomputable def s69r4 : List SOper := [
  ⟨some 11, .mov (.t 5), none⟩,
  ⟨some 12, .mov (.t 0), none⟩,
  ⟨some 13, .len (.t 12), none⟩,
  ⟨some 14, .bin .lss (.t 11) (.t 13), none⟩]
noncomputable def s69r5 : List SOper := [
  ⟨some 17, .mov (.t 0), none⟩,
  ⟨some 18, .mov (.t 5), none⟩,
  ⟨some 19, .iaddr 9 (.t 17) (.t 18), none⟩,
  ⟨some 20, .load (some 9) (.t 19), none⟩,
  ⟨some 21, .mov (.t 1), none⟩,
  ⟨some 22, .mov (.t 5), none⟩,
  ⟨some 23, .iaddr 9 (.t 21) (.t 22), none⟩,
  ⟨some 24, .load (some 9) (.t 23), none⟩,
  ⟨some 25, .call (.k (.d (.func (.func 46) [] []))) [(.t 20), (.t 24)], none⟩,
  ⟨some 26, .not (.t 25), none⟩]
noncomputable def s69r6 : List SOper := [
  ⟨some 4, .mov (.k (.d (.bool false))), none⟩]
noncomputable def s69r7 : List SOper := [
  ⟨some 15, .mov (.t 5), none⟩,
  ⟨some 16, .bin .add (.t 15) (.k (.d (.int .i64 1))), none⟩,
  ⟨some 5, .mov (.t 16), none⟩]
noncomputable def s69l8 : SCode := (.seq (.seq (.region s69r4 0 []) (.cond (.t 14) .skip (.exit 0))) (.seq (.block 1 (.seq (.region s69r5 0 []) (.cond (.t 26) (.seq (.region s69r6 0 []) .ret) .skip))) (.region s69r7 0 [])))
theorem e69l8 : AWp P k0 s69l8 Q st = AWp P k0 (.seq (.seq (.region s69r4 0 []) (.cond (.t 14) .skip (.exit 0))) (.seq (.block 1 (.seq (.region s69r5 0 []) (.cond (.t 26) (.seq (.region s69r6 0 []) .ret) .skip))) (.region s69r7 0 []))) Q st := rfl
noncomputable def s69r9 : List SOper := [
  ⟨some 4, .mov (.k (.d (.bool true))), none⟩]
noncomputable def s69 : SCode := (.seq (.region s69r0 0 []) (.seq (.seq (.region s69r1 0 []) (.cond (.t 10) (.seq (.region s69r2 0 []) .ret) .skip)) (.seq (.seq (.region s69r3 0 []) (.block 0 (.loop s69l8))) (.seq (.region s69r9 0 []) .ret))))
theorem e69 : AWp P k0 s69 Q st = AWp P k0 (.seq (.region s69r0 0 []) (.seq (.seq (.region s69r1 0 []) (.cond (.t 10) (.seq (.region s69r2 0 []) .ret) .skip)) (.seq (.seq (.region s69r3 0 []) (.block 0 (.loop s69l8))) (.seq (.region s69r9 0 []) .ret)))) Q st := rfl
theorem u69r0 : goReg P s69r0 o p Q st = goLit P (litOf s69r0.eq_1) o p Q st := goReg_of _
theorem u69r1 : goReg P s69r1 o p Q st = goLit P (litOf s69r1.eq_1) o p Q st := goReg_of _
theorem u69r2 : goReg P s69r2 o p Q st = goLit P (litOf s69r2.eq_1) o p Q st := goReg_of _
theorem u69r3 : goReg P s69r3 o p Q st = goLit P (litOf s69r3.eq_1) o p Q st := goReg_of _
theorem u69r4 : goReg P s69r4 o p Q st = goLit P (litOf s69r4.eq_1) o p Q st := goReg_of _
theorem u69r5 : goReg P s69r5 o p Q st = goLit P (litOf s69r5.eq_1) o p Q st := goReg_of _
theorem u69r6 : goReg P s69r6 o p Q st = goLit P (litOf s69r6.eq_1) o p Q st := goReg_of _
theorem u69r7 : goReg P s69r7 o p Q st = goLit P (litOf s69r7.eq_1) o p Q st := goReg_of _
theorem u69r9 : goReg P s69r9 o p Q st = goLit P (litOf s69r9.eq_1) o p Q st := goReg_of _
attribute [go_sem] u69r0 u69r1 u69r2 u69r3 u69r4 u69r5 u69r6 u69r7 e69l8 u69r9 e69
set_option maxRecDepth 100000 in
theorem F69 : FnIs Try.prog 69 Try.f69 [] news s69 [.tmp 4] 27 := ⟨follows, Try.func69, by kernel_rfl, by kernel_rfl, by kernel_rfl, by kernel_rfl⟩

noncomputable def s37r0 : List SOper := [
  ⟨some 1, .box 1 (.t 0), none⟩,
  ⟨some 2, .mov (.k (.d (.bool false))), none⟩]
noncomputable def s37r1 : List SOper := [
  ⟨some 3, .mov (.k (.d (.int .i64 0))), none⟩]
noncomputable def s37r2 : List SOper := [
  ⟨some 4, .mov (.t 3), none⟩,
  ⟨some 5, .faddr 7 (.t 1), none⟩,
  ⟨some 6, .load none (.t 5), none⟩,
  ⟨some 7, .len (.t 6), none⟩,
  ⟨some 8, .bin .lss (.t 4) (.t 7), none⟩]
noncomputable def s37r3 : List SOper := [
  ⟨some 11, .faddr 7 (.t 1), none⟩,
  ⟨some 12, .load none (.t 11), none⟩,
  ⟨some 13, .mov (.t 3), none⟩,
  ⟨some 14, .iaddr 3 (.t 12) (.t 13), none⟩,
  ⟨some 15, .faddr 2 (.t 14), none⟩,
  ⟨some 16, .load none (.t 15), none⟩,
  ⟨some 17, .lenS (.t 16), none⟩,
  ⟨some 18, .bin .gtr (.t 17) (.k (.d (.int .i64 100))), none⟩]
noncomputable def s37r4 : List SOper := [
  ⟨some 2, .mov (.k (.d (.bool false))), none⟩]
noncomputable def s37r5 : List SOper := [
  ⟨some 9, .mov (.t 3), none⟩,
  ⟨some 10, .bin .add (.t 9) (.k (.d (.int .i64 1))), none⟩,
  ⟨some 3, .mov (.t 10), none⟩]
noncomputable def s37l6 : SCode := (.seq (.seq (.region s37r2 0 []) (.cond (.t 8) .skip (.exit 0))) (.seq (.block 1 (.seq (.region s37r3 0 []) (.cond (.t 18) (.seq (.region s37r4 0 []) .ret) .skip))) (.region s37r5 0 [])))
theorem e37l6 : AWp P k0 s37l6 Q st = AWp P k0 (.seq (.seq (.region s37r2 0 []) (.cond (.t 8) .skip (.exit 0))) (.seq (.block 1 (.seq (.region s37r3 0 []) (.cond (.t 18) (.seq (.region s37r4 0 []) .ret) .skip))) (.region s37r5 0 []))) Q st := rfl
noncomputable def s37r7 : List SOper := [
  ⟨some 19, .faddr 7 (.t 1), none⟩,
  ⟨some 20, .load none (.t 19), none⟩,
  ⟨some 21, .len (.t 20), none⟩,
  ⟨some 22, .bin .leq (.t 21) (.k (.d (.int .i64 10))), none⟩,
  ⟨some 23, .mov (.t 22), none⟩,
  ⟨some 24, .faddr 8 (.t 1), some (23, true)⟩,
  ⟨some 25, .load none (.t 24), some (23, true)⟩,
  ⟨some 26, .len (.t 25), some (23, true)⟩,
  ⟨some 27, .bin .leq (.t 26) (.k (.d (.int .i64 10))), some (23, true)⟩,
  ⟨some 28, .pick (.t 23) (.t 27) (.k (.d (.bool false))), none⟩,
  ⟨some 2, .mov (.t 28), none⟩]
noncomputable def s37 : SCode := (.seq (.region s37r0 1 []) (.seq (.seq (.region s37r1 0 []) (.block 0 (.loop s37l6))) (.seq (.region s37r7 0 []) .ret)))
theorem e37 : AWp P k0 s37 Q st = AWp P k0 (.seq (.region s37r0 1 []) (.seq (.seq (.region s37r1 0 []) (.block 0 (.loop s37l6))) (.seq (.region s37r7 0 []) .ret))) Q st := rfl
theorem u37r0 : goReg P s37r0 o p Q st = goLit P (litOf s37r0.eq_1) o p Q st := goReg_of _
theorem u37r1 : goReg P s37r1 o p Q st = goLit P (litOf s37r1.eq_1) o p Q st := goReg_of _
theorem u37r2 : goReg P s37r2 o p Q st = goLit P (litOf s37r2.eq_1) o p Q st := goReg_of _
theorem u37r3 : goReg P s37r3 o p Q st = goLit P (litOf s37r3.eq_1) o p Q st := goReg_of _
theorem u37r4 : goReg P s37r4 o p Q st = goLit P (litOf s37r4.eq_1) o p Q st := goReg_of _
theorem u37r5 : goReg P s37r5 o p Q st = goLit P (litOf s37r5.eq_1) o p Q st := goReg_of _
theorem u37r7 : goReg P s37r7 o p Q st = goLit P (litOf s37r7.eq_1) o p Q st := goReg_of _
attribute [go_sem] u37r0 u37r1 u37r2 u37r3 u37r4 u37r5 e37l6 u37r7 e37
set_option maxRecDepth 100000 in
theorem F37 : FnIs Try.prog 37 Try.f37 [] news s37 [.tmp 2] 29 := ⟨follows, Try.func37, by kernel_rfl, by kernel_rfl, by kernel_rfl, by kernel_rfl⟩

noncomputable def s26r0 : List SOper := [
  ⟨some 1, .box 1 (.t 0), none⟩,
  ⟨some 2, .mov (.k (.d (.bool false))), none⟩]
noncomputable def s26r1 : List SOper := [
  ⟨some 3, .mov (.k (.d (.int .i64 0))), none⟩]
noncomputable def s26r2 : List SOper := [
  ⟨some 4, .mov (.t 3), none⟩,
  ⟨some 5, .faddr 2 (.t 1), none⟩,
  ⟨some 6, .load none (.t 5), none⟩,
  ⟨some 7, .len (.t 6), none⟩,
  ⟨some 8, .bin .lss (.t 4) (.t 7), none⟩]
noncomputable def s26r3 : List SOper := [
  ⟨some 11, .faddr 2 (.t 1), none⟩,
  ⟨some 12, .load none (.t 11), none⟩,
  ⟨some 13, .mov (.t 3), none⟩,
  ⟨some 14, .iaddr 9 (.t 12) (.t 13), none⟩,
  ⟨some 15, .load (some 9) (.t 14), none⟩,
  ⟨some 16, .call (.k (.d (.func (.func 37) [] []))) [(.t 15)], none⟩,
  ⟨some 17, .not (.t 16), none⟩]
noncomputable def s26r4 : List SOper := [
  ⟨some 2, .mov (.k (.d (.bool false))), none⟩]
noncomputable def s26r5 : List SOper := [
  ⟨some 9, .mov (.t 3), none⟩,
  ⟨some 10, .bin .add (.t 9) (.k (.d (.int .i64 1))), none⟩,
  ⟨some 3, .mov (.t 10), none⟩]
noncomputable def s26l6 : SCode := (.seq (.seq (.region s26r2 0 []) (.cond (.t 8) .skip (.exit 0))) (.seq (.block 1 (.seq (.region s26r3 0 []) (.cond (.t 17) (.seq (.region s26r4 0 []) .ret) .skip))) (.region s26r5 0 [])))
theorem e26l6 : AWp P k0 s26l6 Q st = AWp P k0 (.seq (.seq (.region s26r2 0 []) (.cond (.t 8) .skip (.exit 0))) (.seq (.block 1 (.seq (.region s26r3 0 []) (.cond (.t 17) (.seq (.region s26r4 0 []) .ret) .skip))) (.region s26r5 0 []))) Q st := rfl
noncomputable def s26r7 : List SOper := [
  ⟨some 18, .faddr 2 (.t 1), none⟩,
  ⟨some 19, .load none (.t 18), none⟩,
  ⟨some 20, .len (.t 19), none⟩,
  ⟨some 21, .bin .leq (.t 20) (.k (.d (.int .i64 8))), none⟩,
  ⟨some 2, .mov (.t 21), none⟩]
noncomputable def s26 : SCode := (.seq (.region s26r0 1 []) (.seq (.seq (.region s26r1 0 []) (.block 0 (.loop s26l6))) (.seq (.region s26r7 0 []) .ret)))
theorem e26 : AWp P k0 s26 Q st = AWp P k0 (.seq (.region s26r0 1 []) (.seq (.seq (.region s26r1 0 []) (.block 0 (.loop s26l6))) (.seq (.region s26r7 0 []) .ret))) Q st := rfl
theorem u26r0 : goReg P s26r0 o p Q st = goLit P (litOf s26r0.eq_1) o p Q st := goReg_of _
theorem u26r1 : goReg P s26r1 o p Q st = goLit P (litOf s26r1.eq_1) o p Q st := goReg_of _
theorem u26r2 : goReg P s26r2 o p Q st = goLit P (litOf s26r2.eq_1) o p Q st := goReg_of _
theorem u26r3 : goReg P s26r3 o p Q st = goLit P (litOf s26r3.eq_1) o p Q st := goReg_of _
theorem u26r4 : goReg P s26r4 o p Q st = goLit P (litOf s26r4.eq_1) o p Q st := goReg_of _
theorem u26r5 : goReg P s26r5 o p Q st = goLit P (litOf s26r5.eq_1) o p Q st := goReg_of _
theorem u26r7 : goReg P s26r7 o p Q st = goLit P (litOf s26r7.eq_1) o p Q st := goReg_of _
attribute [go_sem] u26r0 u26r1 u26r2 u26r3 u26r4 u26r5 e26l6 u26r7 e26
set_option maxRecDepth 100000 in
theorem F26 : FnIs Try.prog 26 Try.f26 [] news s26 [.tmp 2] 22 := ⟨follows, Try.func26, by kernel_rfl, by kernel_rfl, by kernel_rfl, by kernel_rfl⟩

end

def Ssame {α : Type} (es : Nat) (enc : α → List D) (l m : List α) (i : { i : Nat // l.take i = m.take i }) : St :=
  ⟨[(0, true, .d (.sl es (l.map enc))), (1, true, .d (.sl es (m.map enc))), (5, true, .d (.int .i64 (i.val : Nat)))], [], [], 1⟩

theorem take_eq_done {α : Type} [DecidableEq α] {l m : List α} {i : Nat} (h : l.take i = m.take i) (hi : l.length ≤ i) (hlm : l.length = m.length) : decide (l = m) = true := by
  rw [List.take_of_length_le hi, List.take_of_length_le (by omega)] at h
  simp [h]

theorem sameV_ok (l m : List AV) (hl : l.length ≤ 1000) : ACall Try.prog 78 [.d (.sl 3 (l.map encAV)), .d (.sl 3 (m.map encAV))] [] (.d (.bool (decide (l = m)))) [] := by
  first | refine F78.go ?_ | refine F78.goT ?_
  simp only [go_sem, Nat.reduceAdd, Nat.reduceMul, Nat.reduceSub, Nat.reduceEqDiff, Nat.reduceLT, Nat.reduceLeDiff, Nat.reduceBEq, reduceIte, reduceCtorEq, Int.reduceAdd, Int.reduceLT, Int.reduceLE, Int.reduceGT, Int.reduceGE, Int.reduceEq, Int.reduceNe, Int.reduceBEq, Int.reduceBNe, Int.reduceToNat, Int.reduceNeg]
  refine AWp_cond _ rfl rfl (fun h => ?_) (fun h => ?_)
  · have hne : decide (l = m) = false := by rw [decide_eq_false_iff_not]; rintro rfl; simp at h
    try simp only [hne, go_sem, Nat.reduceAdd, Nat.reduceMul, Nat.reduceSub, Nat.reduceEqDiff, Nat.reduceLT, Nat.reduceLeDiff, Nat.reduceBEq, reduceIte, reduceCtorEq, Int.reduceAdd, Int.reduceLT, Int.reduceLE, Int.reduceGT, Int.reduceGE, Int.reduceEq, Int.reduceNe, Int.reduceBEq, Int.reduceBNe, Int.reduceToNat, Int.reduceNeg]
  have hlm : l.length = m.length := by simp at h; omega
  try (refine ev ?_; try exact True.intro)
  refine AWp_loop (Ssame 3 encAV l m) (fun i => l.length - i.val) ⟨0, rfl⟩ ?_ (fun i => ?_)
  · try simp only [Ssame, go_sem, Nat.reduceAdd, Nat.reduceMul, Nat.reduceSub, Nat.reduceEqDiff, Nat.reduceLT, Nat.reduceLeDiff, Nat.reduceBEq, reduceIte, reduceCtorEq, Int.reduceAdd, Int.reduceLT, Int.reduceLE, Int.reduceGT, Int.reduceGE, Int.reduceEq, Int.reduceNe, Int.reduceBEq, Int.reduceBNe, Int.reduceToNat, Int.reduceNeg]
  obtain ⟨i, hi⟩ := i
  try simp only [Ssame, go_sem, Nat.reduceAdd, Nat.reduceMul, Nat.reduceSub, Nat.reduceEqDiff, Nat.reduceLT, Nat.reduceLeDiff, Nat.reduceBEq, reduceIte, reduceCtorEq, Int.reduceAdd, Int.reduceLT, Int.reduceLE, Int.reduceGT, Int.reduceGE, Int.reduceEq, Int.reduceNe, Int.reduceBEq, Int.reduceBNe, Int.reduceToNat, Int.reduceNeg]
  refine AWp_cond _ rfl rfl (fun h => ?_) (fun h => ?_)
  · have hil : i < l.length := by simpa using h
    have him : i < m.length := by omega
    simp only [getD_map encAV l hil, getD_map encAV m him, encAV, beq_AV, go_sem, Nat.reduceAdd, Nat.reduceMul, Nat.reduceSub, Nat.reduceEqDiff, Nat.reduceLT, Nat.reduceLeDiff, Nat.reduceBEq, reduceIte, reduceCtorEq, Int.reduceAdd, Int.reduceLT, Int.reduceLE, Int.reduceGT, Int.reduceGE, Int.reduceEq, Int.reduceNe, Int.reduceBEq, Int.reduceBNe, Int.reduceToNat, Int.reduceNeg]
    (repeat (with_reducible refine ob ?_))
    skip
    refine AWp_cond _ rfl rfl (fun h2 => ?_) (fun h2 => ?_)
    · have hne : l[i] ≠ m[i] := by simpa using h2
      try simp only [eq_ne hil him hne, go_sem, Nat.reduceAdd, Nat.reduceMul, Nat.reduceSub, Nat.reduceEqDiff, Nat.reduceLT, Nat.reduceLeDiff, Nat.reduceBEq, reduceIte, reduceCtorEq, Int.reduceAdd, Int.reduceLT, Int.reduceLE, Int.reduceGT, Int.reduceGE, Int.reduceEq, Int.reduceNe, Int.reduceBEq, Int.reduceBNe, Int.reduceToNat, Int.reduceNeg]
    · have he : l[i] = m[i] := by simpa using h2
      try (refine ev ?_; try exact True.intro)
      refine ⟨⟨i + 1, take_eq_succ hi hil him he⟩, ?_, by dsimp only; omega⟩
      simp only [Ssame, wrap_succ (show i < 9223372036854775807 by omega), go_sem, Nat.reduceAdd, Nat.reduceMul, Nat.reduceSub, Nat.reduceEqDiff, Nat.reduceLT, Nat.reduceLeDiff, Nat.reduceBEq, reduceIte, reduceCtorEq, Int.reduceAdd, Int.reduceLT, Int.reduceLE, Int.reduceGT, Int.reduceGE, Int.reduceEq, Int.reduceNe, Int.reduceBEq, Int.reduceBNe, Int.reduceToNat, Int.reduceNeg]
  · try simp only [take_eq_done hi (by simpa using h) hlm, go_sem, Nat.reduceAdd, Nat.reduceMul, Nat.reduceSub, Nat.reduceEqDiff, Nat.reduceLT, Nat.reduceLeDiff, Nat.reduceBEq, reduceIte, reduceCtorEq, Int.reduceAdd, Int.reduceLT, Int.reduceLE, Int.reduceGT, Int.reduceGE, Int.reduceEq, Int.reduceNe, Int.reduceBEq, Int.reduceBNe, Int.reduceToNat, Int.reduceNeg]

theorem sameI_ok (l m : List Int) (hl : l.length ≤ 1000) : ACall Try.prog 79 [.d (.sl 1 (l.map encI)), .d (.sl 1 (m.map encI))] [] (.d (.bool (decide (l = m)))) [] := by
  first | refine F79.go ?_ | refine F79.goT ?_
  simp only [go_sem, Nat.reduceAdd, Nat.reduceMul, Nat.reduceSub, Nat.reduceEqDiff, Nat.reduceLT, Nat.reduceLeDiff, Nat.reduceBEq, reduceIte, reduceCtorEq, Int.reduceAdd, Int.reduceLT, Int.reduceLE, Int.reduceGT, Int.reduceGE, Int.reduceEq, Int.reduceNe, Int.reduceBEq, Int.reduceBNe, Int.reduceToNat, Int.reduceNeg]
  refine AWp_cond _ rfl rfl (fun h => ?_) (fun h => ?_)
  · have hne : decide (l = m) = false := by rw [decide_eq_false_iff_not]; rintro rfl; simp at h
    try simp only [hne, go_sem, Nat.reduceAdd, Nat.reduceMul, Nat.reduceSub, Nat.reduceEqDiff, Nat.reduceLT, Nat.reduceLeDiff, Nat.reduceBEq, reduceIte, reduceCtorEq, Int.reduceAdd, Int.reduceLT, Int.reduceLE, Int.reduceGT, Int.reduceGE, Int.reduceEq, Int.reduceNe, Int.reduceBEq, Int.reduceBNe, Int.reduceToNat, Int.reduceNeg]
  have hlm : l.length = m.length := by simp at h; omega
  try (refine ev ?_; try exact True.intro)
  refine AWp_loop (Ssame 1 encI l m) (fun i => l.length - i.val) ⟨0, rfl⟩ ?_ (fun i => ?_)
  · try simp only [Ssame, go_sem, Nat.reduceAdd, Nat.reduceMul, Nat.reduceSub, Nat.reduceEqDiff, Nat.reduceLT, Nat.reduceLeDiff, Nat.reduceBEq, reduceIte, reduceCtorEq, Int.reduceAdd, Int.reduceLT, Int.reduceLE, Int.reduceGT, Int.reduceGE, Int.reduceEq, Int.reduceNe, Int.reduceBEq, Int.reduceBNe, Int.reduceToNat, Int.reduceNeg]
  obtain ⟨i, hi⟩ := i
  try simp only [Ssame, go_sem, Nat.reduceAdd, Nat.reduceMul, Nat.reduceSub, Nat.reduceEqDiff, Nat.reduceLT, Nat.reduceLeDiff, Nat.reduceBEq, reduceIte, reduceCtorEq, Int.reduceAdd, Int.reduceLT, Int.reduceLE, Int.reduceGT, Int.reduceGE, Int.reduceEq, Int.reduceNe, Int.reduceBEq, Int.reduceBNe, Int.reduceToNat, Int.reduceNeg]
  refine AWp_cond _ rfl rfl (fun h => ?_) (fun h => ?_)
  · have hil : i < l.length := by simpa using h
    have him : i < m.length := by omega
    simp only [getD_map encI l hil, getD_map encI m him, encI, encI, go_sem, Nat.reduceAdd, Nat.reduceMul, Nat.reduceSub, Nat.reduceEqDiff, Nat.reduceLT, Nat.reduceLeDiff, Nat.reduceBEq, reduceIte, reduceCtorEq, Int.reduceAdd, Int.reduceLT, Int.reduceLE, Int.reduceGT, Int.reduceGE, Int.reduceEq, Int.reduceNe, Int.reduceBEq, Int.reduceBNe, Int.reduceToNat, Int.reduceNeg]
    (repeat (with_reducible refine ob ?_))
    skip
    refine AWp_cond _ rfl rfl (fun h2 => ?_) (fun h2 => ?_)
    · have hne : l[i] ≠ m[i] := by simpa using h2
      try simp only [eq_ne hil him hne, go_sem, Nat.reduceAdd, Nat.reduceMul, Nat.reduceSub, Nat.reduceEqDiff, Nat.reduceLT, Nat.reduceLeDiff, Nat.reduceBEq, reduceIte, reduceCtorEq, Int.reduceAdd, Int.reduceLT, Int.reduceLE, Int.reduceGT, Int.reduceGE, Int.reduceEq, Int.reduceNe, Int.reduceBEq, Int.reduceBNe, Int.reduceToNat, Int.reduceNeg]
    · have he : l[i] = m[i] := by simpa using h2
      try (refine ev ?_; try exact True.intro)
      refine ⟨⟨i + 1, take_eq_succ hi hil him he⟩, ?_, by dsimp only; omega⟩
      simp only [Ssame, wrap_succ (show i < 9223372036854775807 by omega), go_sem, Nat.reduceAdd, Nat.reduceMul, Nat.reduceSub, Nat.reduceEqDiff, Nat.reduceLT, Nat.reduceLeDiff, Nat.reduceBEq, reduceIte, reduceCtorEq, Int.reduceAdd, Int.reduceLT, Int.reduceLE, Int.reduceGT, Int.reduceGE, Int.reduceEq, Int.reduceNe, Int.reduceBEq, Int.reduceBNe, Int.reduceToNat, Int.reduceNeg]
  · try simp only [take_eq_done hi (by simpa using h) hlm, go_sem, Nat.reduceAdd, Nat.reduceMul, Nat.reduceSub, Nat.reduceEqDiff, Nat.reduceLT, Nat.reduceLeDiff, Nat.reduceBEq, reduceIte, reduceCtorEq, Int.reduceAdd, Int.reduceLT, Int.reduceLE, Int.reduceGT, Int.reduceGE, Int.reduceEq, Int.reduceNe, Int.reduceBEq, Int.reduceBNe, Int.reduceToNat, Int.reduceNeg]

set_option maxRecDepth 10000 in
theorem pkEqual46_ok (p q : Pk) (hp : p.Sm) :
    ACall Try.prog 46 [.d (.agg (encPk p)), .d (.agg (encPk q))] [] (.d (.bool (decide (p = q)))) [] := by
  first | refine F46.go ?_ | refine F46.goT ?_
  simp only [encPk, go_sem, Nat.reduceAdd, Nat.reduceMul, Nat.reduceSub, Nat.reduceEqDiff, Nat.reduceLT, Nat.reduceLeDiff, Nat.reduceBEq, reduceIte, reduceCtorEq, Int.reduceAdd, Int.reduceLT, Int.reduceLE, Int.reduceGT, Int.reduceGE, Int.reduceEq, Int.reduceNe, Int.reduceBEq, Int.reduceBNe, Int.reduceToNat, Int.reduceNeg]
  (repeat (with_reducible refine ob ?_)); first | refine cl F78 (sameV_ok p.values q.values hp.1) ?_ | refine clF F78 (sameV_ok p.values q.values hp.1) (fun _ => by simp only [encPk, encAV, encI, go_sem, Nat.reduceAdd, Nat.reduceMul, Nat.reduceSub, Nat.reduceEqDiff, Nat.reduceLT, Nat.reduceLeDiff, Nat.reduceBEq, reduceIte, reduceCtorEq, Int.reduceAdd, Int.reduceLT, Int.reduceLE, Int.reduceGT, Int.reduceGE, Int.reduceEq, Int.reduceNe, Int.reduceBEq, Int.reduceBNe, Int.reduceToNat, Int.reduceNeg]) ?_
  try (refine ev ?_; try exact True.intro)
  (repeat (with_reducible refine ob ?_)); first | refine cl F79 (sameI_ok p.clock q.clock hp.2) ?_ | refine clF F79 (sameI_ok p.clock q.clock hp.2) (fun _ => by simp only [encPk, encAV, encI, go_sem, Nat.reduceAdd, Nat.reduceMul, Nat.reduceSub, Nat.reduceEqDiff, Nat.reduceLT, Nat.reduceLeDiff, Nat.reduceBEq, reduceIte, reduceCtorEq, Int.reduceAdd, Int.reduceLT, Int.reduceLE, Int.reduceGT, Int.reduceGE, Int.reduceEq, Int.reduceNe, Int.reduceBEq, Int.reduceBNe, Int.reduceToNat, Int.reduceNeg]) ?_
  try simp only [beq_Pk, go_sem, Nat.reduceAdd, Nat.reduceMul, Nat.reduceSub, Nat.reduceEqDiff, Nat.reduceLT, Nat.reduceLeDiff, Nat.reduceBEq, reduceIte, reduceCtorEq, Int.reduceAdd, Int.reduceLT, Int.reduceLE, Int.reduceGT, Int.reduceGE, Int.reduceEq, Int.reduceNe, Int.reduceBEq, Int.reduceBNe, Int.reduceToNat, Int.reduceNeg]

theorem sameP_ok (l m : List Pk) (hl : l.length ≤ 1000) (hp : ∀ p ∈ l, p.Sm) : ACall Try.prog 69 [.d (.sl 9 (l.map encPk)), .d (.sl 9 (m.map encPk))] [] (.d (.bool (decide (l = m)))) [] := by
  first | refine F69.go ?_ | refine F69.goT ?_
  simp only [go_sem, Nat.reduceAdd, Nat.reduceMul, Nat.reduceSub, Nat.reduceEqDiff, Nat.reduceLT, Nat.reduceLeDiff, Nat.reduceBEq, reduceIte, reduceCtorEq, Int.reduceAdd, Int.reduceLT, Int.reduceLE, Int.reduceGT, Int.reduceGE, Int.reduceEq, Int.reduceNe, Int.reduceBEq, Int.reduceBNe, Int.reduceToNat, Int.reduceNeg]
  refine AWp_cond _ rfl rfl (fun h => ?_) (fun h => ?_)
  · have hne : decide (l = m) = false := by rw [decide_eq_false_iff_not]; rintro rfl; simp at h
    try simp only [hne, go_sem, Nat.reduceAdd, Nat.reduceMul, Nat.reduceSub, Nat.reduceEqDiff, Nat.reduceLT, Nat.reduceLeDiff, Nat.reduceBEq, reduceIte, reduceCtorEq, Int.reduceAdd, Int.reduceLT, Int.reduceLE, Int.reduceGT, Int.reduceGE, Int.reduceEq, Int.reduceNe, Int.reduceBEq, Int.reduceBNe, Int.reduceToNat, Int.reduceNeg]
  have hlm : l.length = m.length := by simp at h; omega
  try (refine ev ?_; try exact True.intro)
  refine AWp_loop (Ssame 9 encPk l m) (fun i => l.length - i.val) ⟨0, rfl⟩ ?_ (fun i => ?_)
  · try simp only [Ssame, go_sem, Nat.reduceAdd, Nat.reduceMul, Nat.reduceSub, Nat.reduceEqDiff, Nat.reduceLT, Nat.reduceLeDiff, Nat.reduceBEq, reduceIte, reduceCtorEq, Int.reduceAdd, Int.reduceLT, Int.reduceLE, Int.reduceGT, Int.reduceGE, Int.reduceEq, Int.reduceNe, Int.reduceBEq, Int.reduceBNe, Int.reduceToNat, Int.reduceNeg]
  obtain ⟨i, hi⟩ := i
  try simp only [Ssame, go_sem, Nat.reduceAdd, Nat.reduceMul, Nat.reduceSub, Nat.reduceEqDiff, Nat.reduceLT, Nat.reduceLeDiff, Nat.reduceBEq, reduceIte, reduceCtorEq, Int.reduceAdd, Int.reduceLT, Int.reduceLE, Int.reduceGT, Int.reduceGE, Int.reduceEq, Int.reduceNe, Int.reduceBEq, Int.reduceBNe, Int.reduceToNat, Int.reduceNeg]
  refine AWp_cond _ rfl rfl (fun h => ?_) (fun h => ?_)
  · have hil : i < l.length := by simpa using h
    have him : i < m.length := by omega
    simp only [getD_map encPk l hil, getD_map encPk m him, encPk, encPk, go_sem, Nat.reduceAdd, Nat.reduceMul, Nat.reduceSub, Nat.reduceEqDiff, Nat.reduceLT, Nat.reduceLeDiff, Nat.reduceBEq, reduceIte, reduceCtorEq, Int.reduceAdd, Int.reduceLT, Int.reduceLE, Int.reduceGT, Int.reduceGE, Int.reduceEq, Int.reduceNe, Int.reduceBEq, Int.reduceBNe, Int.reduceToNat, Int.reduceNeg]
    (repeat (with_reducible refine ob ?_))
    ((repeat (with_reducible refine ob ?_)); first | refine cl F46 (pkEqual46_ok l[i] m[i] (hp _ (List.getElem_mem hil))) ?_ | refine clF F46 (pkEqual46_ok l[i] m[i] (hp _ (List.getElem_mem hil))) (fun _ => by simp only [encPk, encAV, encI, go_sem, Nat.reduceAdd, Nat.reduceMul, Nat.reduceSub, Nat.reduceEqDiff, Nat.reduceLT, Nat.reduceLeDiff, Nat.reduceBEq, reduceIte, reduceCtorEq, Int.reduceAdd, Int.reduceLT, Int.reduceLE, Int.reduceGT, Int.reduceGE, Int.reduceEq, Int.reduceNe, Int.reduceBEq, Int.reduceBNe, Int.reduceToNat, Int.reduceNeg]) ?_); try (refine ev ?_; try exact True.intro)
    refine AWp_cond _ rfl rfl (fun h2 => ?_) (fun h2 => ?_)
    · have hne : l[i] ≠ m[i] := by simpa using h2
      try simp only [eq_ne hil him hne, go_sem, Nat.reduceAdd, Nat.reduceMul, Nat.reduceSub, Nat.reduceEqDiff, Nat.reduceLT, Nat.reduceLeDiff, Nat.reduceBEq, reduceIte, reduceCtorEq, Int.reduceAdd, Int.reduceLT, Int.reduceLE, Int.reduceGT, Int.reduceGE, Int.reduceEq, Int.reduceNe, Int.reduceBEq, Int.reduceBNe, Int.reduceToNat, Int.reduceNeg]
    · have he : l[i] = m[i] := by simpa using h2
      try (refine ev ?_; try exact True.intro)
      refine ⟨⟨i + 1, take_eq_succ hi hil him he⟩, ?_, by dsimp only; omega⟩
      simp only [Ssame, wrap_succ (show i < 9223372036854775807 by omega), go_sem, Nat.reduceAdd, Nat.reduceMul, Nat.reduceSub, Nat.reduceEqDiff, Nat.reduceLT, Nat.reduceLeDiff, Nat.reduceBEq, reduceIte, reduceCtorEq, Int.reduceAdd, Int.reduceLT, Int.reduceLE, Int.reduceGT, Int.reduceGE, Int.reduceEq, Int.reduceNe, Int.reduceBEq, Int.reduceBNe, Int.reduceToNat, Int.reduceNeg]
  · try simp only [take_eq_done hi (by simpa using h) hlm, go_sem, Nat.reduceAdd, Nat.reduceMul, Nat.reduceSub, Nat.reduceEqDiff, Nat.reduceLT, Nat.reduceLeDiff, Nat.reduceBEq, reduceIte, reduceCtorEq, Int.reduceAdd, Int.reduceLT, Int.reduceLE, Int.reduceGT, Int.reduceGE, Int.reduceEq, Int.reduceNe, Int.reduceBEq, Int.reduceBNe, Int.reduceToNat, Int.reduceNeg]

def short46 (v : AV) : Bool := !decide ((v.s.length : Int) > 100)
def few46 (p : Pk) : Bool := p.values.all short46 && (decide ((p.values.length : Int) ≤ 10) && decide ((p.clock.length : Int) ≤ 10))
def Sfew46 (p : Pk) (i : { i : Nat // (p.values.take i).all short46 = true }) : St := ⟨[(1, true, .d (.ptr 0 0)), (3, true, .d (.int .i64 (i.val : Nat)))], [pkObj p], [], 1⟩
theorem few46_ok (p : Pk) (hp : p.values.length ≤ maxLen) : ACall Try.prog 37 [.d (.agg (encPk p))] [] (.d (.bool (few46 p))) [] := by
  unfold maxLen at hp
  first | refine F37.go ?_ | refine F37.goT ?_
  simp only [encPk, go_sem, Nat.reduceAdd, Nat.reduceMul, Nat.reduceSub, Nat.reduceEqDiff, Nat.reduceLT, Nat.reduceLeDiff, Nat.reduceBEq, reduceIte, reduceCtorEq, Int.reduceAdd, Int.reduceLT, Int.reduceLE, Int.reduceGT, Int.reduceGE, Int.reduceEq, Int.reduceNe, Int.reduceBEq, Int.reduceBNe, Int.reduceToNat, Int.reduceNeg]
  refine AWp_loop (Sfew46 p) (fun i => p.values.length - i.val) ⟨0, rfl⟩ ?_ (fun i => ?_)
  · try simp only [Sfew46, pkObj, go_sem, Nat.reduceAdd, Nat.reduceMul, Nat.reduceSub, Nat.reduceEqDiff, Nat.reduceLT, Nat.reduceLeDiff, Nat.reduceBEq, reduceIte, reduceCtorEq, Int.reduceAdd, Int.reduceLT, Int.reduceLE, Int.reduceGT, Int.reduceGE, Int.reduceEq, Int.reduceNe, Int.reduceBEq, Int.reduceBNe, Int.reduceToNat, Int.reduceNeg]
  obtain ⟨i, hi⟩ := i
  try simp only [Sfew46, pkObj, go_sem, Nat.reduceAdd, Nat.reduceMul, Nat.reduceSub, Nat.reduceEqDiff, Nat.reduceLT, Nat.reduceLeDiff, Nat.reduceBEq, reduceIte, reduceCtorEq, Int.reduceAdd, Int.reduceLT, Int.reduceLE, Int.reduceGT, Int.reduceGE, Int.reduceEq, Int.reduceNe, Int.reduceBEq, Int.reduceBNe, Int.reduceToNat, Int.reduceNeg]
  refine AWp_cond _ rfl rfl (fun h => ?_) (fun h => ?_)
  · have hil : i < p.values.length := by simpa using h
    simp only [getD_map encAV p.values hil, encAV, go_sem, Nat.reduceAdd, Nat.reduceMul, Nat.reduceSub, Nat.reduceEqDiff, Nat.reduceLT, Nat.reduceLeDiff, Nat.reduceBEq, reduceIte, reduceCtorEq, Int.reduceAdd, Int.reduceLT, Int.reduceLE, Int.reduceGT, Int.reduceGE, Int.reduceEq, Int.reduceNe, Int.reduceBEq, Int.reduceBNe, Int.reduceToNat, Int.reduceNeg]
    (repeat (with_reducible refine ob ?_))
    refine AWp_cond _ rfl rfl (fun h2 => ?_) (fun h2 => ?_)
    · have hg : short46 p.values[i] = false := by simp only [short46, h2]; rfl
      simp only [few46, all_no hil hg, go_sem, Nat.reduceAdd, Nat.reduceMul, Nat.reduceSub, Nat.reduceEqDiff, Nat.reduceLT, Nat.reduceLeDiff, Nat.reduceBEq, reduceIte, reduceCtorEq, Int.reduceAdd, Int.reduceLT, Int.reduceLE, Int.reduceGT, Int.reduceGE, Int.reduceEq, Int.reduceNe, Int.reduceBEq, Int.reduceBNe, Int.reduceToNat, Int.reduceNeg]
    · have hg : short46 p.values[i] = true := by simp only [short46, h2]; rfl
      try (refine ev ?_; try exact True.intro)
      refine ⟨⟨i + 1, take_all_succ hi hil hg⟩, ?_, by dsimp only; omega⟩
      simp only [Sfew46, pkObj, wrap_succ (show i < 9223372036854775807 by omega), go_sem, Nat.reduceAdd, Nat.reduceMul, Nat.reduceSub, Nat.reduceEqDiff, Nat.reduceLT, Nat.reduceLeDiff, Nat.reduceBEq, reduceIte, reduceCtorEq, Int.reduceAdd, Int.reduceLT, Int.reduceLE, Int.reduceGT, Int.reduceGE, Int.reduceEq, Int.reduceNe, Int.reduceBEq, Int.reduceBNe, Int.reduceToNat, Int.reduceNeg]
  · have hall : p.values.all short46 = true := all_done hi (by simpa using h)
    simp only [few46, hall, go_sem, Nat.reduceAdd, Nat.reduceMul, Nat.reduceSub, Nat.reduceEqDiff, Nat.reduceLT, Nat.reduceLeDiff, Nat.reduceBEq, reduceIte, reduceCtorEq, Int.reduceAdd, Int.reduceLT, Int.reduceLE, Int.reduceGT, Int.reduceGE, Int.reduceEq, Int.reduceNe, Int.reduceBEq, Int.reduceBNe, Int.reduceToNat, Int.reduceNeg]

def qObj (q : Qu) : AObj := .row [.d (.int .i64 q.acc), .d (.int .i64 q.cons), .d (.sl 9 (q.items.map encPk))]
def fewQ (q : Qu) : Bool := q.items.all few46 && decide ((q.items.length : Int) ≤ 8)
def SfewQ (q : Qu) (i : { i : Nat // (q.items.take i).all few46 = true }) : St := ⟨[(1, true, .d (.ptr 0 0)), (3, true, .d (.int .i64 (i.val : Nat)))], [qObj q], [], 1⟩
theorem fewQ_ok (q : Qu) (hq : q.items.length ≤ maxLen) (hv : ∀ p ∈ q.items, p.values.length ≤ maxLen) : ACall Try.prog 26 [.d (.agg (encQ q))] [] (.d (.bool (fewQ q))) [] := by
  unfold maxLen at hq
  first | refine F26.go ?_ | refine F26.goT ?_
  simp only [encQ, go_sem, Nat.reduceAdd, Nat.reduceMul, Nat.reduceSub, Nat.reduceEqDiff, Nat.reduceLT, Nat.reduceLeDiff, Nat.reduceBEq, reduceIte, reduceCtorEq, Int.reduceAdd, Int.reduceLT, Int.reduceLE, Int.reduceGT, Int.reduceGE, Int.reduceEq, Int.reduceNe, Int.reduceBEq, Int.reduceBNe, Int.reduceToNat, Int.reduceNeg]
  refine AWp_loop (SfewQ q) (fun i => q.items.length - i.val) ⟨0, rfl⟩ ?_ (fun i => ?_)
  · try simp only [SfewQ, qObj, go_sem, Nat.reduceAdd, Nat.reduceMul, Nat.reduceSub, Nat.reduceEqDiff, Nat.reduceLT, Nat.reduceLeDiff, Nat.reduceBEq, reduceIte, reduceCtorEq, Int.reduceAdd, Int.reduceLT, Int.reduceLE, Int.reduceGT, Int.reduceGE, Int.reduceEq, Int.reduceNe, Int.reduceBEq, Int.reduceBNe, Int.reduceToNat, Int.reduceNeg]
  obtain ⟨i, hi⟩ := i
  try simp only [SfewQ, qObj, go_sem, Nat.reduceAdd, Nat.reduceMul, Nat.reduceSub, Nat.reduceEqDiff, Nat.reduceLT, Nat.reduceLeDiff, Nat.reduceBEq, reduceIte, reduceCtorEq, Int.reduceAdd, Int.reduceLT, Int.reduceLE, Int.reduceGT, Int.reduceGE, Int.reduceEq, Int.reduceNe, Int.reduceBEq, Int.reduceBNe, Int.reduceToNat, Int.reduceNeg]
  refine AWp_cond _ rfl rfl (fun h => ?_) (fun h => ?_)
  · have hil : i < q.items.length := by simpa using h
    simp only [getD_map encPk q.items hil, encPk, go_sem, Nat.reduceAdd, Nat.reduceMul, Nat.reduceSub, Nat.reduceEqDiff, Nat.reduceLT, Nat.reduceLeDiff, Nat.reduceBEq, reduceIte, reduceCtorEq, Int.reduceAdd, Int.reduceLT, Int.reduceLE, Int.reduceGT, Int.reduceGE, Int.reduceEq, Int.reduceNe, Int.reduceBEq, Int.reduceBNe, Int.reduceToNat, Int.reduceNeg]
    (repeat (with_reducible refine ob ?_))
    (repeat (with_reducible refine ob ?_)); first | refine cl F37 (few46_ok q.items[i] (hv _ (List.getElem_mem hil))) ?_ | refine clF F37 (few46_ok q.items[i] (hv _ (List.getElem_mem hil))) (fun _ => by simp only [encPk, encAV, encI, go_sem, Nat.reduceAdd, Nat.reduceMul, Nat.reduceSub, Nat.reduceEqDiff, Nat.reduceLT, Nat.reduceLeDiff, Nat.reduceBEq, reduceIte, reduceCtorEq, Int.reduceAdd, Int.reduceLT, Int.reduceLE, Int.reduceGT, Int.reduceGE, Int.reduceEq, Int.reduceNe, Int.reduceBEq, Int.reduceBNe, Int.reduceToNat, Int.reduceNeg]) ?_
    try (refine ev ?_; try exact True.intro)
    refine AWp_cond _ rfl rfl (fun h2 => ?_) (fun h2 => ?_)
    · have hg : few46 q.items[i] = false := by simpa using h2
      simp only [fewQ, all_no hil hg, go_sem, Nat.reduceAdd, Nat.reduceMul, Nat.reduceSub, Nat.reduceEqDiff, Nat.reduceLT, Nat.reduceLeDiff, Nat.reduceBEq, reduceIte, reduceCtorEq, Int.reduceAdd, Int.reduceLT, Int.reduceLE, Int.reduceGT, Int.reduceGE, Int.reduceEq, Int.reduceNe, Int.reduceBEq, Int.reduceBNe, Int.reduceToNat, Int.reduceNeg]
    · have hg : few46 q.items[i] = true := by simpa using h2
      try (refine ev ?_; try exact True.intro)
      refine ⟨⟨i + 1, take_all_succ hi hil hg⟩, ?_, by dsimp only; omega⟩
      simp only [SfewQ, qObj, wrap_succ (show i < 9223372036854775807 by omega), go_sem, Nat.reduceAdd, Nat.reduceMul, Nat.reduceSub, Nat.reduceEqDiff, Nat.reduceLT, Nat.reduceLeDiff, Nat.reduceBEq, reduceIte, reduceCtorEq, Int.reduceAdd, Int.reduceLT, Int.reduceLE, Int.reduceGT, Int.reduceGE, Int.reduceEq, Int.reduceNe, Int.reduceBEq, Int.reduceBNe, Int.reduceToNat, Int.reduceNeg]
  · have hall : q.items.all few46 = true := all_done hi (by simpa using h)
    simp only [fewQ, hall, go_sem, Nat.reduceAdd, Nat.reduceMul, Nat.reduceSub, Nat.reduceEqDiff, Nat.reduceLT, Nat.reduceLeDiff, Nat.reduceBEq, reduceIte, reduceCtorEq, Int.reduceAdd, Int.reduceLT, Int.reduceLE, Int.reduceGT, Int.reduceGE, Int.reduceEq, Int.reduceNe, Int.reduceBEq, Int.reduceBNe, Int.reduceToNat, Int.reduceNeg]

theorem few46_sm {p : Pk} (h : few46 p = true) : p.Sm := by
  simp only [few46, Bool.and_eq_true, decide_eq_true_eq] at h
  exact ⟨by omega, by omega⟩
theorem fewQ_sm {q : Qu} (h : fewQ q = true) : q.Sm ∧ q.items.length ≤ 8 := by
  simp only [fewQ, Bool.and_eq_true, decide_eq_true_eq, List.all_eq_true] at h
  exact ⟨⟨by omega, fun p hp => few46_sm (h.1 p hp)⟩, by omega⟩
end Go.Proofs.Ythcpckcgjplhiaa
