/- Orders of the reference; the example that every statement checks first; UpgradeOrders. -/
import Derived.Test.YthcpckcgjplhiaaGi
import Derived.Test.YthcpckcgjplhiaaGg
namespace Go.Proofs.Ythcpckcgjplhiaa
open Go.Abs
set_option linter.unusedSimpArgs false

section
variable {P : Program} {k0 o : Nat} {p : List (Nat × Nat)} {Q : SExit → St → Prop} {st : St}
noncomputable def s41r0 : List SOper := [
  ⟨some 0, .mov (.k (.d (.bool false))), none⟩]
noncomputable def s41r1 : List SOper := [
  ⟨some 10, .call (.k (.d (.func (.func 48) [] []))) [(.k (.d (.int .i64 2)))], none⟩,
  ⟨some 9, .mov (.t 10), none⟩,
  ⟨some 11, .extract 0 (.t 9), none⟩,
  ⟨some 12, .extract 1 (.t 9), none⟩,
  ⟨some 1, .alloc 1 [(.d (.int .i64 0)), (.d .nilsl)], none⟩,
  ⟨none, .store (some 2) (.t 1) (.t 11), none⟩,
  ⟨some 2, .mov (.t 12), none⟩]
noncomputable def s41r2 : List SOper := [
  ⟨some 14, .load (some 2) (.t 1), none⟩,
  ⟨some 15, .call (.k (.d (.func (.func 51) [] []))) [(.t 14), (.k (.d (.int .i64 5)))], none⟩,
  ⟨some 13, .mov (.t 15), none⟩,
  ⟨some 16, .extract 0 (.t 13), none⟩,
  ⟨some 17, .extract 1 (.t 13), none⟩,
  ⟨none, .store (some 2) (.t 1) (.t 16), none⟩,
  ⟨some 3, .mov (.t 17), none⟩]
noncomputable def s41r3 : List SOper := [
  ⟨some 18, .load (some 2) (.t 1), none⟩,
  ⟨some 19, .call (.k (.d (.func (.func 43) [] []))) [(.t 18)], none⟩,
  ⟨some 4, .mov (.t 19), none⟩]
noncomputable def s41r4 : List SOper := [
  ⟨some 21, .load (some 2) (.t 1), none⟩,
  ⟨some 22, .call (.k (.d (.func (.func 53) [] []))) [(.k (.d (.int .i64 5))), (.k (.d (.int .i64 1))), (.k (.d (.int .i64 1)))], none⟩,
  ⟨some 23, .call (.k (.d (.func (.func 52) [] []))) [(.t 21), (.t 22)], none⟩,
  ⟨some 20, .mov (.t 23), none⟩,
  ⟨some 24, .extract 0 (.t 20), none⟩,
  ⟨some 25, .extract 1 (.t 20), none⟩,
  ⟨none, .store (some 2) (.t 1) (.t 24), none⟩,
  ⟨some 5, .mov (.t 25), none⟩]
noncomputable def s41r5 : List SOper := [
  ⟨some 26, .load (some 2) (.t 1), none⟩,
  ⟨some 27, .call (.k (.d (.func (.func 43) [] []))) [(.t 26)], none⟩,
  ⟨some 6, .mov (.t 27), none⟩]
noncomputable def s41r6 : List SOper := [
  ⟨some 29, .load (some 2) (.t 1), none⟩,
  ⟨some 30, .call (.k (.d (.func (.func 53) [] []))) [(.k (.d (.int .i64 5))), (.k (.d (.int .i64 0))), (.k (.d (.int .i64 1)))], none⟩,
  ⟨some 31, .call (.k (.d (.func (.func 52) [] []))) [(.t 29), (.t 30)], none⟩,
  ⟨some 28, .mov (.t 31), none⟩,
  ⟨some 32, .extract 0 (.t 28), none⟩,
  ⟨some 33, .extract 1 (.t 28), none⟩,
  ⟨none, .store (some 2) (.t 1) (.t 32), none⟩,
  ⟨some 7, .mov (.t 33), none⟩]
noncomputable def s41r7 : List SOper := [
  ⟨some 34, .load (some 2) (.t 1), none⟩,
  ⟨some 35, .call (.k (.d (.func (.func 43) [] []))) [(.t 34)], none⟩,
  ⟨some 8, .mov (.t 35), none⟩]
noncomputable def s41r8 : List SOper := [
  ⟨some 36, .mov (.t 2), none⟩,
  ⟨some 37, .bin .eql (.t 36) (.k (.d (.int .i64 0))), none⟩,
  ⟨some 38, .mov (.t 37), none⟩,
  ⟨some 39, .mov (.t 3), some (38, true)⟩,
  ⟨some 40, .bin .eql (.t 39) (.k (.d (.int .i64 0))), some (38, true)⟩,
  ⟨some 41, .pick (.t 38) (.t 40) (.k (.d (.bool false))), none⟩,
  ⟨some 42, .mov (.t 41), none⟩,
  ⟨some 43, .mov (.t 5), some (42, true)⟩,
  ⟨some 44, .bin .eql (.t 43) (.k (.d (.int .i64 0))), some (42, true)⟩,
  ⟨some 45, .pick (.t 42) (.t 44) (.k (.d (.bool false))), none⟩,
  ⟨some 46, .mov (.t 45), none⟩,
  ⟨some 47, .mov (.t 7), some (46, true)⟩,
  ⟨some 48, .bin .eql (.t 47) (.k (.d (.int .i64 0))), some (46, true)⟩,
  ⟨some 49, .pick (.t 46) (.t 48) (.k (.d (.bool false))), none⟩,
  ⟨some 50, .mov (.t 49), none⟩,
  ⟨some 51, .mov (.t 4), some (50, true)⟩,
  ⟨some 52, .len (.t 51), some (50, true)⟩,
  ⟨some 53, .bin .eql (.t 52) (.k (.d (.int .i64 2))), some (50, true)⟩,
  ⟨some 54, .pick (.t 50) (.t 53) (.k (.d (.bool false))), none⟩,
  ⟨some 55, .mov (.t 54), none⟩,
  ⟨some 56, .mov (.t 6), some (55, true)⟩,
  ⟨some 57, .len (.t 56), some (55, true)⟩,
  ⟨some 58, .bin .eql (.t 57) (.k (.d (.int .i64 1))), some (55, true)⟩,
  ⟨some 59, .pick (.t 55) (.t 58) (.k (.d (.bool false))), none⟩,
  ⟨some 60, .mov (.t 59), none⟩,
  ⟨some 61, .mov (.t 6), some (60, true)⟩,
  ⟨some 62, .iaddr 9 (.t 61) (.k (.d (.int .i64 0))), some (60, true)⟩,
  ⟨some 63, .faddr 3 (.t 62), some (60, true)⟩,
  ⟨some 64, .load none (.t 63), some (60, true)⟩,
  ⟨some 65, .bin .eql (.t 64) (.k (.d (.int .i64 0))), some (60, true)⟩,
  ⟨some 66, .pick (.t 60) (.t 65) (.k (.d (.bool false))), none⟩,
  ⟨some 67, .mov (.t 66), none⟩,
  ⟨some 68, .mov (.t 8), some (67, true)⟩,
  ⟨some 69, .len (.t 68), some (67, true)⟩,
  ⟨some 70, .bin .eql (.t 69) (.k (.d (.int .i64 2))), some (67, true)⟩,
  ⟨some 71, .pick (.t 67) (.t 70) (.k (.d (.bool false))), none⟩,
  ⟨some 72, .mov (.t 71), none⟩,
  ⟨some 73, .mov (.t 8), some (72, true)⟩,
  ⟨some 74, .iaddr 9 (.t 73) (.k (.d (.int .i64 0))), some (72, true)⟩,
  ⟨some 75, .faddr 6 (.t 74), some (72, true)⟩,
  ⟨some 76, .load none (.t 75), some (72, true)⟩,
  ⟨some 77, .bin .eql (.t 76) (.k (.d (.int .i64 2))), some (72, true)⟩,
  ⟨some 78, .pick (.t 72) (.t 77) (.k (.d (.bool false))), none⟩,
  ⟨some 0, .mov (.t 78), none⟩]
noncomputable def s41 : SCode := (.seq (.region s41r0 0 []) (.seq (.region s41r1 1 []) (.seq (.region s41r2 0 []) (.seq (.region s41r3 0 []) (.seq (.region s41r4 0 [(0, 1)]) (.seq (.region s41r5 0 []) (.seq (.region s41r6 0 [(0, 1)]) (.seq (.region s41r7 0 []) (.seq (.region s41r8 0 []) .ret)))))))))
theorem e41 : AWp P k0 s41 Q st = AWp P k0 (.seq (.region s41r0 0 []) (.seq (.region s41r1 1 []) (.seq (.region s41r2 0 []) (.seq (.region s41r3 0 []) (.seq (.region s41r4 0 [(0, 1)]) (.seq (.region s41r5 0 []) (.seq (.region s41r6 0 [(0, 1)]) (.seq (.region s41r7 0 []) (.seq (.region s41r8 0 []) .ret))))))))) Q st := rfl
theorem u41r0 : goReg P s41r0 o p Q st = goLit P (litOf s41r0.eq_1) o p Q st := goReg_of _
theorem u41r1 : goReg P s41r1 o p Q st = goLit P (litOf s41r1.eq_1) o p Q st := goReg_of _
theorem u41r2 : goReg P s41r2 o p Q st = goLit P (litOf s41r2.eq_1) o p Q st := goReg_of _
theorem u41r3 : goReg P s41r3 o p Q st = goLit P (litOf s41r3.eq_1) o p Q st := goReg_of _
theorem u41r4 : goReg P s41r4 o p Q st = goLit P (litOf s41r4.eq_1) o p Q st := goReg_of _
theorem u41r5 : goReg P s41r5 o p Q st = goLit P (litOf s41r5.eq_1) o p Q st := goReg_of _
theorem u41r6 : goReg P s41r6 o p Q st = goLit P (litOf s41r6.eq_1) o p Q st := goReg_of _
theorem u41r7 : goReg P s41r7 o p Q st = goLit P (litOf s41r7.eq_1) o p Q st := goReg_of _
theorem u41r8 : goReg P s41r8 o p Q st = goLit P (litOf s41r8.eq_1) o p Q st := goReg_of _
attribute [go_sem] u41r0 u41r1 u41r2 u41r3 u41r4 u41r5 u41r6 u41r7 u41r8 e41
set_option maxRecDepth 100000 in
theorem F41 : FnIs Try.prog 41 Try.f41 [] news s41 [.tmp 0] 79 := ⟨follows, Try.func41, by kernel_rfl, by kernel_rfl, by kernel_rfl, by kernel_rfl⟩

noncomputable def s7r0 : List SOper := [
  ⟨some 1, .box 1 (.t 0), none⟩,
  ⟨some 2, .mov (.k (.d (.bool false))), none⟩]
noncomputable def s7r1 : List SOper := [
  ⟨some 6, .call (.k (.d (.func (.func 41) [] []))) [], none⟩,
  ⟨some 7, .not (.t 6), none⟩]
noncomputable def s7r2 : List SOper := [
  ⟨some 2, .mov (.k (.d (.bool false))), none⟩]
noncomputable def s7r3 : List SOper := [
  ⟨some 8, .load (some 2) (.t 1), none⟩,
  ⟨some 9, .call (.k (.d (.func (.func 42) [] []))) [(.t 8)], none⟩,
  ⟨some 10, .not (.t 9), none⟩]
noncomputable def s7r4 : List SOper := [
  ⟨some 2, .mov (.k (.d (.bool true))), none⟩]
noncomputable def s7r5 : List SOper := [
  ⟨some 11, .load (some 2) (.t 1), none⟩,
  ⟨some 12, .call (.k (.d (.func (.func 44) [] []))) [(.t 11)], none⟩,
  ⟨some 13, .call (.k (.d (.func (.func 43) [] []))) [(.t 12)], none⟩,
  ⟨some 14, .load (some 2) (.t 1), none⟩,
  ⟨some 15, .call (.k (.d (.func (.func 45) [] []))) [(.t 14)], none⟩,
  ⟨some 3, .mov (.t 13), none⟩,
  ⟨some 4, .mov (.t 15), none⟩]
noncomputable def s7r6 : List SOper := [
  ⟨some 16, .mov (.t 3), none⟩,
  ⟨some 17, .len (.t 16), none⟩,
  ⟨some 18, .mov (.t 4), none⟩,
  ⟨some 19, .len (.t 18), none⟩,
  ⟨some 20, .bin .neq (.t 17) (.t 19), none⟩]
noncomputable def s7r7 : List SOper := [
  ⟨some 2, .mov (.k (.d (.bool false))), none⟩]
noncomputable def s7r8 : List SOper := [
  ⟨some 5, .mov (.k (.d (.int .i64 0))), none⟩]
noncomputable def s7r9 : List SOper := [
  ⟨some 21, .mov (.t 5), none⟩,
  ⟨some 22, .mov (.t 3), none⟩,
  ⟨some 23, .len (.t 22), none⟩,
  ⟨some 24, .bin .lss (.t 21) (.t 23), none⟩]
noncomputable def s7r10 : List SOper := [
  ⟨some 27, .mov (.t 3), none⟩,
  ⟨some 28, .mov (.t 5), none⟩,
  ⟨some 29, .iaddr 9 (.t 27) (.t 28), none⟩,
  ⟨some 30, .load (some 9) (.t 29), none⟩,
  ⟨some 31, .mov (.t 4), none⟩,
  ⟨some 32, .mov (.t 5), none⟩,
  ⟨some 33, .iaddr 9 (.t 31) (.t 32), none⟩,
  ⟨some 34, .load (some 9) (.t 33), none⟩,
  ⟨some 35, .call (.k (.d (.func (.func 46) [] []))) [(.t 30), (.t 34)], none⟩,
  ⟨some 36, .not (.t 35), none⟩,
  ⟨some 37, .mov (.t 36), none⟩,
  ⟨some 38, .mov (.t 3), some (37, false)⟩,
  ⟨some 39, .mov (.t 5), some (37, false)⟩,
  ⟨some 40, .iaddr 9 (.t 38) (.t 39), some (37, false)⟩,
  ⟨some 41, .load (some 9) (.t 40), some (37, false)⟩,
  ⟨some 42, .call (.k (.d (.func (.func 47) [] []))) [(.t 41)], some (37, false)⟩,
  ⟨some 43, .not (.t 42), some (37, false)⟩,
  ⟨some 44, .pick (.t 37) (.k (.d (.bool true))) (.t 43), none⟩]
noncomputable def s7r11 : List SOper := [
  ⟨some 2, .mov (.k (.d (.bool false))), none⟩]
noncomputable def s7r12 : List SOper := [
  ⟨some 25, .mov (.t 5), none⟩,
  ⟨some 26, .bin .add (.t 25) (.k (.d (.int .i64 1))), none⟩,
  ⟨some 5, .mov (.t 26), none⟩]
noncomputable def s7l13 : SCode := (.seq (.seq (.region s7r9 0 []) (.cond (.t 24) .skip (.exit 0))) (.seq (.block 1 (.seq (.region s7r10 0 []) (.cond (.t 44) (.seq (.region s7r11 0 []) .ret) .skip))) (.region s7r12 0 [])))
theorem e7l13 : AWp P k0 s7l13 Q st = AWp P k0 (.seq (.seq (.region s7r9 0 []) (.cond (.t 24) .skip (.exit 0))) (.seq (.block 1 (.seq (.region s7r10 0 []) (.cond (.t 44) (.seq (.region s7r11 0 []) .ret) .skip))) (.region s7r12 0 []))) Q st := rfl
noncomputable def s7r14 : List SOper := [
  ⟨some 2, .mov (.k (.d (.bool true))), none⟩]
noncomputable def s7 : SCode := (.seq (.region s7r0 1 []) (.seq (.seq (.region s7r1 0 []) (.cond (.t 7) (.seq (.region s7r2 0 []) .ret) .skip)) (.seq (.seq (.region s7r3 0 []) (.cond (.t 10) (.seq (.region s7r4 0 []) .ret) .skip)) (.seq (.region s7r5 0 [(1, 3), (2, 3)]) (.seq (.seq (.region s7r6 0 []) (.cond (.t 20) (.seq (.region s7r7 0 []) .ret) .skip)) (.seq (.seq (.region s7r8 0 []) (.block 0 (.loop s7l13))) (.seq (.region s7r14 0 []) .ret)))))))
theorem e7 : AWp P k0 s7 Q st = AWp P k0 (.seq (.region s7r0 1 []) (.seq (.seq (.region s7r1 0 []) (.cond (.t 7) (.seq (.region s7r2 0 []) .ret) .skip)) (.seq (.seq (.region s7r3 0 []) (.cond (.t 10) (.seq (.region s7r4 0 []) .ret) .skip)) (.seq (.region s7r5 0 [(1, 3), (2, 3)]) (.seq (.seq (.region s7r6 0 []) (.cond (.t 20) (.seq (.region s7r7 0 []) .ret) .skip)) (.seq (.seq (.region s7r8 0 []) (.block 0 (.loop s7l13))) (.seq (.region s7r14 0 []) .ret))))))) Q st := rfl
theorem u7r0 : goReg P s7r0 o p Q st = goLit P (litOf s7r0.eq_1) o p Q st := goReg_of _
theorem u7r1 : goReg P s7r1 o p Q st = goLit P (litOf s7r1.eq_1) o p Q st := goReg_of _
theorem u7r2 : goReg P s7r2 o p Q st = goLit P (litOf s7r2.eq_1) o p Q st := goReg_of _
theorem u7r3 : goReg P s7r3 o p Q st = goLit P (litOf s7r3.eq_1) o p Q st := goReg_of _
theorem u7r4 : goReg P s7r4 o p Q st = goLit P (litOf s7r4.eq_1) o p Q st := goReg_of _
theorem u7r5 : goReg P s7r5 o p Q st = goLit P (litOf s7r5.eq_1) o p Q st := goReg_of _
theorem u7r6 : goReg P s7r6 o p Q st = goLit P (litOf s7r6.eq_1) o p Q st := goReg_of _
theorem u7r7 : goReg P s7r7 o p Q st = goLit P (litOf s7r7.eq_1) o p Q st := goReg_of _
theorem u7r8 : goReg P s7r8 o p Q st = goLit P (litOf s7r8.eq_1) o p Q st := goReg_of _
theorem u7r9 : goReg P s7r9 o p Q st = goLit P (litOf s7r9.eq_1) o p Q st := goReg_of _
theorem u7r10 : goReg P s7r10 o p Q st = goLit P (litOf s7r10.eq_1) o p Q st := goReg_of _
theorem u7r11 : goReg P s7r11 o p Q st = goLit P (litOf s7r11.eq_1) o p Q st := goReg_of _
theorem u7r12 : goReg P s7r12 o p Q st = goLit P (litOf s7r12.eq_1) o p Q st := goReg_of _
theorem u7r14 : goReg P s7r14 o p Q st = goLit P (litOf s7r14.eq_1) o p Q st := goReg_of _
attribute [go_sem] u7r0 u7r1 u7r2 u7r3 u7r4 u7r5 u7r6 u7r7 u7r8 u7r9 u7r10 u7r11 u7r12 e7l13 u7r14 e7
set_option maxRecDepth 100000 in
theorem F7 : FnIs Try.prog 7 Try.f7 [] news s7 [.tmp 2] 45 := ⟨follows, Try.func7, by kernel_rfl, by kernel_rfl, by kernel_rfl, by kernel_rfl⟩

noncomputable def s53r0 : List SOper := [
  ⟨some 6, .alloc 1 [(.d (.int .i64 0)), (.d (.int .i64 0)), (.d (.int .i64 0)), (.d (.int .i64 0)), (.d (.int .i64 0)), (.d (.int .i64 0)), (.d (.int .i64 0)), (.d .nilsl), (.d .nilsl)], none⟩]
noncomputable def s53r1 : List SOper := [
  ⟨some 7, .mov (.t 0), none⟩,
  ⟨some 8, .mov (.t 1), none⟩,
  ⟨some 9, .mov (.t 2), none⟩,
  ⟨some 10, .build [(.int .i64 0), (.int .i64 0), (.int .i64 0), (.int .i64 0), (.int .i64 0), (.int .i64 0), (.int .i64 0), .nilsl, .nilsl] [(0, 1, (.k (.d (.int .i64 4)))), (1, 1, (.t 7)), (3, 1, (.t 8)), (6, 1, (.t 9))], none⟩,
  ⟨none, .store (some 9) (.t 6) (.t 10), none⟩]
noncomputable def s53 : SCode := (.seq (.region s53r0 1 []) (.seq (.region s53r1 0 []) .ret))
theorem e53 : AWp P k0 s53 Q st = AWp P k0 (.seq (.region s53r0 1 []) (.seq (.region s53r1 0 []) .ret)) Q st := rfl
theorem u53r0 : goReg P s53r0 o p Q st = goLit P (litOf s53r0.eq_1) o p Q st := goReg_of _
theorem u53r1 : goReg P s53r1 o p Q st = goLit P (litOf s53r1.eq_1) o p Q st := goReg_of _
attribute [go_sem] u53r0 u53r1 e53
set_option maxRecDepth 100000 in
theorem F53 : FnIs Try.prog 53 Try.f53 [] news s53 [.cell 6 (some 9)] 11 := ⟨follows, Try.func53, by kernel_rfl, by kernel_rfl, by kernel_rfl, by kernel_rfl⟩

end

theorem upValid_at2 {m : Mg} (h : upValid m = true) {k : Nat} (hk : k < m.ents.length) : 1 ≤ m.ents[k].sess ∧ m.ents[k].sess ≤ 32 ∧ m.ents[k].phase ≠ 0 := by
  simp only [upValid, Bool.and_eq_true] at h
  have := allTo_iff.1 h.1 k hk
  simp only [enBad, getD_lt hk, Bool.not_eq_true', Bool.or_eq_false_iff, bne_eq_false_iff_eq, decide_eq_false_iff_not, beq_eq_false_iff_ne] at this
  obtain ⟨⟨⟨⟨⟨⟨h1, h2⟩, _⟩, _⟩, _⟩, h3⟩, _⟩ := this
  exact ⟨by omega, by omega, h3⟩

theorem ref_step (x : En) (n r : Nat) (h1 : x.moved.length = n) (h2 : x.opened.length = n) (h3 : x.phase = upPhase x) (h0 : x.phase ≠ 0) (hr : r < n) :
    ordAt x.sess (enLabel x) (enMarks x) r = (if x.phase == 1 && !x.moved.getD r false then [ordPk x.sess r 1] else []) ++ (if x.phase == 2 && !x.opened.getD r false then [ordPk x.sess r 2] else []) := by
  have hm : r < x.moved.length := by omega
  have ho : r < x.opened.length := by omega
  have hp : x.phase = 1 ∨ x.phase = 2 ∨ x.phase = 3 := by
    have h4 : upPhase x = 0 ∨ upPhase x = 1 ∨ upPhase x = 2 ∨ upPhase x = 3 := by
      unfold upPhase
      cases hasB false x.moved <;> cases hasB false x.opened <;> cases hasB true x.opened <;> simp
    omega
  rcases hp with hp | hp | hp
  · simp [ordAt, enLabel, enMarks, hp, List.getD, hm, ho]
    cases x.moved[r] <;> simp
  · simp [ordAt, enLabel, enMarks, hp, List.getD, hm, ho]
    cases x.opened[r] <;> simp
  · have ha : x.opened.all idB = true := by
      rw [hp] at h3
      simp only [upPhase, hasB_false] at h3
      cases hq : x.opened.all idB with
      | true => rfl
      | false =>
        rw [hq] at h3
        simp at h3
        split at h3
        · simp at h3
        · split at h3 <;> simp at h3
    have hb : x.opened[r] = true := by
      rw [List.all_eq_true] at ha
      exact ha _ (List.getElem_mem ho)
    simp [ordAt, enLabel, enMarks, hp, List.getD, ho, hb]

def SrO (m : Mg) (i : { i : Nat // i ≤ m.ents.length }) : St :=
  ⟨[(1, true, .d (.ptr 0 0)), (2, true, .d .nilsl), (3, true, .own 0 9 ((ordersTo m i.val).map encPk)), (4, true, .d (.int .i64 (i.val : Nat)))], [mgObj m], [0], 1⟩
def SrI (m : Mg) (i : Nat) (x : En) (n : Nat) (r : { r : Nat // r ≤ n }) : St :=
  ⟨[(1, true, .d (.ptr 0 0)), (2, true, .d .nilsl), (3, true, .own 0 9 ((ordersTo m i ++ ordTo x.sess (enLabel x) (enMarks x) r.val).map encPk)), (4, true, .d (.int .i64 (i : Nat))), (5, true, .d (.ptr 1 0)), (6, true, .d (.int .i64 (r.val : Nat)))], [mgObj m, enObj x], [0], 1⟩

theorem refOrdI (m : Mg) (hm : m.Sm) (i n : Nat) (hn : (n : Int) = m.roles) (hi : i < m.ents.length) (x : En) (hx : x.Sm) (h1 : x.moved.length = n) (h2 : x.opened.length = n) (h3 : x.phase = upPhase x) (h0 : x.phase ≠ 0) (Q : SExit → St → Prop) (st : St) (hw : Weak 0 st (SrI m i x n ⟨0, Nat.zero_le _⟩))
    (hQ : ∀ b : Bool, Q .normal ⟨(25, true, .d (.bool b)) :: (24, true, .d (.int .i64 m.roles)) :: (23, true, .d (.ptr 0 0)) :: (22, true, .d (.int .i64 n)) :: (SrI m i x n ⟨n, Nat.le_refl _⟩).fr, [mgObj m, enObj x], [0], 5⟩) : AWp Try.prog 0 (.block 2 (.loop s45l14)) Q st := by
  have hol := ordersTo_len m hm i (by omega)
  have hl := hm.1
  have hn1 : n ≤ 1000 := by have := hx.1; omega
  try (refine ev ?_; try exact True.intro)
  refine AWp_loop (SrI m i x n) (fun r => n - r.val) ⟨0, Nat.zero_le _⟩ hw (fun r => ?_)
  obtain ⟨r, hr⟩ := r
  have hlt := ordTo_len x.sess (enLabel x) (enMarks x) r
  try simp only [SrI, mgObj, enObj, ← hn, go_sem, Nat.reduceAdd, Nat.reduceMul, Nat.reduceSub, Nat.reduceEqDiff, Nat.reduceLT, Nat.reduceLeDiff, Nat.reduceBEq, reduceIte, reduceCtorEq, Int.reduceAdd, Int.reduceLT, Int.reduceLE, Int.reduceGT, Int.reduceGE, Int.reduceEq, Int.reduceNe, Int.reduceBEq, Int.reduceBNe, Int.reduceToNat, Int.reduceNeg]
  (repeat (with_reducible refine ob ?_)); refine iff_ _ (fun h => ?_) (fun h => ?_)
  · have hil : r < n := by simpa using h
    have hst := ref_step x n r h1 h2 h3 h0 hil
    have hm1 : r < x.moved.length := by omega
    have ho1 : r < x.opened.length := by omega
    rw [getD_lt hm1, getD_lt ho1] at hst
    simp only [getD_map encB x.moved hm1, encB, go_sem, Nat.reduceAdd, Nat.reduceMul, Nat.reduceSub, Nat.reduceEqDiff, Nat.reduceLT, Nat.reduceLeDiff, Nat.reduceBEq, reduceIte, reduceCtorEq, Int.reduceAdd, Int.reduceLT, Int.reduceLE, Int.reduceGT, Int.reduceGE, Int.reduceEq, Int.reduceNe, Int.reduceBEq, Int.reduceBNe, Int.reduceToNat, Int.reduceNeg]
    (repeat (with_reducible refine ob ?_))
    refine iff_ _ (fun c1 => ?_) (fun c1 => ?_)
    · rw [c1] at hst
      have c2 : (x.phase == 2 && !x.opened[r]) = false := by
        simp only [Bool.and_eq_true, beq_iff_eq] at c1
        simp [c1.1]
      rw [c2] at hst
      simp only [if_true, Bool.false_eq_true, if_false, List.append_nil] at hst
      try (refine ev ?_; try exact True.intro)
      (repeat (with_reducible refine ob ?_))
      simp only [getD_map encB x.opened ho1, encB, go_sem, Nat.reduceAdd, Nat.reduceMul, Nat.reduceSub, Nat.reduceEqDiff, Nat.reduceLT, Nat.reduceLeDiff, Nat.reduceBEq, reduceIte, reduceCtorEq, Int.reduceAdd, Int.reduceLT, Int.reduceLE, Int.reduceGT, Int.reduceGE, Int.reduceEq, Int.reduceNe, Int.reduceBEq, Int.reduceBNe, Int.reduceToNat, Int.reduceNeg]
      (repeat (with_reducible refine ob ?_))
      refine AWp_cond false rfl ?_ (fun h => Bool.noConfusion h) (fun _ => ?_)
      · try simp only [c2, go_sem, Nat.reduceAdd, Nat.reduceMul, Nat.reduceSub, Nat.reduceEqDiff, Nat.reduceLT, Nat.reduceLeDiff, Nat.reduceBEq, reduceIte, reduceCtorEq, Int.reduceAdd, Int.reduceLT, Int.reduceLE, Int.reduceGT, Int.reduceGE, Int.reduceEq, Int.reduceNe, Int.reduceBEq, Int.reduceBNe, Int.reduceToNat, Int.reduceNeg]
      try (refine ev ?_; try exact True.intro)
      refine ⟨⟨r + 1, hil⟩, ?_, by dsimp only; omega⟩
      try simp only [SrI, mgObj, enObj, ordTo_succ, hst, ← List.append_assoc, List.map_append, List.map_cons, List.map_nil, ordPk, encPk, wrap_succ (show r < 9223372036854775807 by omega), go_sem, Nat.reduceAdd, Nat.reduceMul, Nat.reduceSub, Nat.reduceEqDiff, Nat.reduceLT, Nat.reduceLeDiff, Nat.reduceBEq, reduceIte, reduceCtorEq, Int.reduceAdd, Int.reduceLT, Int.reduceLE, Int.reduceGT, Int.reduceGE, Int.reduceEq, Int.reduceNe, Int.reduceBEq, Int.reduceBNe, Int.reduceToNat, Int.reduceNeg]
      exact hn
    · rw [c1] at hst
      try (refine ev ?_; try exact True.intro)
      simp only [getD_map encB x.opened ho1, encB, go_sem, Nat.reduceAdd, Nat.reduceMul, Nat.reduceSub, Nat.reduceEqDiff, Nat.reduceLT, Nat.reduceLeDiff, Nat.reduceBEq, reduceIte, reduceCtorEq, Int.reduceAdd, Int.reduceLT, Int.reduceLE, Int.reduceGT, Int.reduceGE, Int.reduceEq, Int.reduceNe, Int.reduceBEq, Int.reduceBNe, Int.reduceToNat, Int.reduceNeg]
      (repeat (with_reducible refine ob ?_))
      refine iff_ _ (fun c2 => ?_) (fun c2 => ?_)
      · rw [c2] at hst
        simp only [if_true, Bool.false_eq_true, if_false, List.nil_append] at hst
        try (refine ev ?_; try exact True.intro)
        (repeat (with_reducible refine ob ?_))
        refine ⟨⟨r + 1, hil⟩, ?_, by dsimp only; omega⟩
        try simp only [SrI, mgObj, enObj, ordTo_succ, hst, ← List.append_assoc, List.map_append, List.map_cons, List.map_nil, ordPk, encPk, wrap_succ (show r < 9223372036854775807 by omega), go_sem, Nat.reduceAdd, Nat.reduceMul, Nat.reduceSub, Nat.reduceEqDiff, Nat.reduceLT, Nat.reduceLeDiff, Nat.reduceBEq, reduceIte, reduceCtorEq, Int.reduceAdd, Int.reduceLT, Int.reduceLE, Int.reduceGT, Int.reduceGE, Int.reduceEq, Int.reduceNe, Int.reduceBEq, Int.reduceBNe, Int.reduceToNat, Int.reduceNeg]
        exact hn
      · rw [c2] at hst
        simp only [Bool.false_eq_true, if_false, List.nil_append] at hst
        try (refine ev ?_; try exact True.intro)
        refine ⟨⟨r + 1, hil⟩, ?_, by dsimp only; omega⟩
        try simp only [SrI, mgObj, enObj, ordTo_succ, hst, List.append_nil, wrap_succ (show r < 9223372036854775807 by omega), go_sem, Nat.reduceAdd, Nat.reduceMul, Nat.reduceSub, Nat.reduceEqDiff, Nat.reduceLT, Nat.reduceLeDiff, Nat.reduceBEq, reduceIte, reduceCtorEq, Int.reduceAdd, Int.reduceLT, Int.reduceLE, Int.reduceGT, Int.reduceGE, Int.reduceEq, Int.reduceNe, Int.reduceBEq, Int.reduceBNe, Int.reduceToNat, Int.reduceNeg]
        exact hn
  · have hil : r = n := by have : n ≤ r := by simpa using h
                           omega
    subst hil
    try (refine ev ?_; try exact True.intro)
    simp only [SrI, mgObj, enObj, ← hn] at hQ
    exact hQ _

set_option maxRecDepth 10000 in
theorem refOrders_ok (m : Mg) (hm : m.Sm) : ACall Try.prog 45 [.d (.agg (encMg m))] [] (.d (.sl 9 ((upOrders m).map encPk))) [] := by
  have hl := hm.1
  refine F45.go ?_
  try simp only [encMg, go_sem, Nat.reduceAdd, Nat.reduceMul, Nat.reduceSub, Nat.reduceEqDiff, Nat.reduceLT, Nat.reduceLeDiff, Nat.reduceBEq, reduceIte, reduceCtorEq, Int.reduceAdd, Int.reduceLT, Int.reduceLE, Int.reduceGT, Int.reduceGE, Int.reduceEq, Int.reduceNe, Int.reduceBEq, Int.reduceBNe, Int.reduceToNat, Int.reduceNeg]
  (repeat (with_reducible refine ob ?_)); first | refine cl F60 (valid53_ok m hm) ?_ | refine clF F60 (valid53_ok m hm) (fun _ => by simp only [encEn, encMg, encPk, go_sem, Nat.reduceAdd, Nat.reduceMul, Nat.reduceSub, Nat.reduceEqDiff, Nat.reduceLT, Nat.reduceLeDiff, Nat.reduceBEq, reduceIte, reduceCtorEq, Int.reduceAdd, Int.reduceLT, Int.reduceLE, Int.reduceGT, Int.reduceGE, Int.reduceEq, Int.reduceNe, Int.reduceBEq, Int.reduceBNe, Int.reduceToNat, Int.reduceNeg]) ?_
  try (refine ev ?_; try exact True.intro)
  refine iff_ _ (fun hv => ?_) (fun hv => ?_)
  · have hu : upOrders m = [] := by simp at hv; simp [upOrders, hv]
    try simp only [hu, List.map_nil, go_sem, Nat.reduceAdd, Nat.reduceMul, Nat.reduceSub, Nat.reduceEqDiff, Nat.reduceLT, Nat.reduceLeDiff, Nat.reduceBEq, reduceIte, reduceCtorEq, Int.reduceAdd, Int.reduceLT, Int.reduceLE, Int.reduceGT, Int.reduceGE, Int.reduceEq, Int.reduceNe, Int.reduceBEq, Int.reduceBNe, Int.reduceToNat, Int.reduceNeg]
  have hu : upOrders m = ordersTo m m.ents.length := by simp at hv; simp [upOrders, hv]
  have hvv : upValid m = true := by simpa using hv
  have hro := upValid_roles hvv
  rw [hu]
  try (refine ev ?_; try exact True.intro)
  refine AWp_loop (SrO m) (fun i => m.ents.length - i.val) ⟨0, Nat.zero_le _⟩ ?_ (fun i => ?_)
  · try simp only [SrO, mgObj, ordersTo0, List.map_nil, go_sem, Nat.reduceAdd, Nat.reduceMul, Nat.reduceSub, Nat.reduceEqDiff, Nat.reduceLT, Nat.reduceLeDiff, Nat.reduceBEq, reduceIte, reduceCtorEq, Int.reduceAdd, Int.reduceLT, Int.reduceLE, Int.reduceGT, Int.reduceGE, Int.reduceEq, Int.reduceNe, Int.reduceBEq, Int.reduceBNe, Int.reduceToNat, Int.reduceNeg]
  obtain ⟨i, hi⟩ := i
  try simp only [SrO, mgObj, go_sem, Nat.reduceAdd, Nat.reduceMul, Nat.reduceSub, Nat.reduceEqDiff, Nat.reduceLT, Nat.reduceLeDiff, Nat.reduceBEq, reduceIte, reduceCtorEq, Int.reduceAdd, Int.reduceLT, Int.reduceLE, Int.reduceGT, Int.reduceGE, Int.reduceEq, Int.reduceNe, Int.reduceBEq, Int.reduceBNe, Int.reduceToNat, Int.reduceNeg]
  (repeat (with_reducible refine ob ?_)); refine iff_ _ (fun h => ?_) (fun h => ?_)
  · have hil : i < m.ents.length := by simpa using h
    have hx := hm.2 _ (List.getElem_mem hil)
    obtain ⟨a1, a2, a3⟩ := upValid_at hvv hil
    obtain ⟨_, _, a4⟩ := upValid_at2 hvv hil
    have hml : (enMarks m.ents[i]).length = m.roles.toNat := by unfold enMarks; split <;> omega
    simp only [getD_map encEn m.ents hil, encEn, go_sem, Nat.reduceAdd, Nat.reduceMul, Nat.reduceSub, Nat.reduceEqDiff, Nat.reduceLT, Nat.reduceLeDiff, Nat.reduceBEq, reduceIte, reduceCtorEq, Int.reduceAdd, Int.reduceLT, Int.reduceLE, Int.reduceGT, Int.reduceGE, Int.reduceEq, Int.reduceNe, Int.reduceBEq, Int.reduceBNe, Int.reduceToNat, Int.reduceNeg]
    (repeat (with_reducible refine ob ?_))
    refine refOrdI m hm i m.roles.toNat (by omega) hil m.ents[i] hx (by omega) (by omega) a3 a4 _ _ ?_ (fun b => ?_)
    · try simp only [SrI, mgObj, enObj, ordTo0, List.append_nil, go_sem, Nat.reduceAdd, Nat.reduceMul, Nat.reduceSub, Nat.reduceEqDiff, Nat.reduceLT, Nat.reduceLeDiff, Nat.reduceBEq, reduceIte, reduceCtorEq, Int.reduceAdd, Int.reduceLT, Int.reduceLE, Int.reduceGT, Int.reduceGE, Int.reduceEq, Int.reduceNe, Int.reduceBEq, Int.reduceBNe, Int.reduceToNat, Int.reduceNeg]
    · try simp only [SrI, mgObj, enObj, go_sem, Nat.reduceAdd, Nat.reduceMul, Nat.reduceSub, Nat.reduceEqDiff, Nat.reduceLT, Nat.reduceLeDiff, Nat.reduceBEq, reduceIte, reduceCtorEq, Int.reduceAdd, Int.reduceLT, Int.reduceLE, Int.reduceGT, Int.reduceGE, Int.reduceEq, Int.reduceNe, Int.reduceBEq, Int.reduceBNe, Int.reduceToNat, Int.reduceNeg]
      refine ⟨⟨i + 1, hil⟩, ?_, by dsimp only; omega⟩
      have he : (enMarks m.ents[i]).length = m.roles.toNat := hml
      try simp only [SrO, mgObj, ordersTo_succ, getD_lt hil, enOrd, hml, wrap_succ (show i < 9223372036854775807 by omega), go_sem, Nat.reduceAdd, Nat.reduceMul, Nat.reduceSub, Nat.reduceEqDiff, Nat.reduceLT, Nat.reduceLeDiff, Nat.reduceBEq, reduceIte, reduceCtorEq, Int.reduceAdd, Int.reduceLT, Int.reduceLE, Int.reduceGT, Int.reduceGE, Int.reduceEq, Int.reduceNe, Int.reduceBEq, Int.reduceBNe, Int.reduceToNat, Int.reduceNeg]
  · have hil : i = m.ents.length := by have : m.ents.length ≤ i := by simpa using h
                                       omega
    subst hil
    try (refine ev ?_; try exact True.intro)

def repPk (s r label : Int) : Pk := ⟨4, s, 0, r, 0, 0, label, [], []⟩
theorem repPk_sm (s r label : Int) : (repPk s r label).Sm := ⟨Nat.zero_le _, Nat.zero_le _⟩
theorem report53_ok (s r label : Int) : ACall Try.prog 53 [.d (.int .i64 s), .d (.int .i64 r), .d (.int .i64 label)] [] (.d (.agg (encPk (repPk s r label)))) [] := by
  refine F53.go ?_
  try simp only [encPk, repPk, List.map_nil, go_sem, Nat.reduceAdd, Nat.reduceMul, Nat.reduceSub, Nat.reduceEqDiff, Nat.reduceLT, Nat.reduceLeDiff, Nat.reduceBEq, reduceIte, reduceCtorEq, Int.reduceAdd, Int.reduceLT, Int.reduceLE, Int.reduceGT, Int.reduceGE, Int.reduceEq, Int.reduceNe, Int.reduceBEq, Int.reduceBNe, Int.reduceToNat, Int.reduceNeg]

theorem b1 : upBegin ⟨2, []⟩ 5 = (⟨2, [⟨5, 1, [false, false], [false, false]⟩]⟩, 0) := by decide
theorem b2 : upOrders ⟨2, [⟨5, 1, [false, false], [false, false]⟩]⟩ = [ordPk 5 0 1, ordPk 5 1 1] := by decide
theorem b3 : upReport ⟨2, [⟨5, 1, [false, false], [false, false]⟩]⟩ (repPk 5 1 1) = (⟨2, [⟨5, 1, [false, true], [false, false]⟩]⟩, 0) := by decide
theorem b4 : upOrders ⟨2, [⟨5, 1, [false, true], [false, false]⟩]⟩ = [ordPk 5 0 1] := by decide
theorem b5 : upReport ⟨2, [⟨5, 1, [false, true], [false, false]⟩]⟩ (repPk 5 0 1) = (⟨2, [⟨5, 2, [true, true], [false, false]⟩]⟩, 0) := by decide
theorem b6 : upOrders ⟨2, [⟨5, 2, [true, true], [false, false]⟩]⟩ = [ordPk 5 0 2, ordPk 5 1 2] := by decide
theorem smOne (x : En) (h : x.moved.length ≤ 1000) (k : x.opened.length ≤ 1000) : (⟨2, [x]⟩ : Mg).Sm := ⟨by simp, by intro y hy; simp only [List.mem_singleton] at hy; subst hy; exact ⟨h, k⟩⟩
theorem smNil (n : Int) : (⟨n, []⟩ : Mg).Sm := ⟨by simp, by simp⟩

set_option maxRecDepth 10000 in
theorem awake53_ok : ACall Try.prog 41 [] [] (.d (.bool true)) [] := by
  have c0 := upNew_ok 2
  have c1 := upBegin_ok ⟨2, []⟩ 5 (smNil 2)
  have c2 := upOrders_ok ⟨2, [⟨5, 1, [false, false], [false, false]⟩]⟩ (smOne _ (by simp) (by simp))
  have c3 := upReport_ok ⟨2, [⟨5, 1, [false, false], [false, false]⟩]⟩ (repPk 5 1 1) (smOne _ (by simp) (by simp)) (repPk_sm _ _ _)
  have c4 := upOrders_ok ⟨2, [⟨5, 1, [false, true], [false, false]⟩]⟩ (smOne _ (by simp) (by simp))
  have c5 := upReport_ok ⟨2, [⟨5, 1, [false, true], [false, false]⟩]⟩ (repPk 5 0 1) (smOne _ (by simp) (by simp)) (repPk_sm _ _ _)
  have c6 := upOrders_ok ⟨2, [⟨5, 2, [true, true], [false, false]⟩]⟩ (smOne _ (by simp) (by simp))
  have n0 : upNew 2 = (⟨2, []⟩, 0) := by decide
  rw [n0] at c0; rw [b1] at c1; rw [b2] at c2; rw [b3] at c3; rw [b4] at c4; rw [b5] at c5; rw [b6] at c6
  refine F41.go ?_
  try (refine ev ?_; try exact True.intro)
  (repeat (with_reducible refine ob ?_)); first | refine cl F48 (c0) ?_ | refine clF F48 (c0) (fun _ => by simp only [encEn, encMg, encPk, go_sem, Nat.reduceAdd, Nat.reduceMul, Nat.reduceSub, Nat.reduceEqDiff, Nat.reduceLT, Nat.reduceLeDiff, Nat.reduceBEq, reduceIte, reduceCtorEq, Int.reduceAdd, Int.reduceLT, Int.reduceLE, Int.reduceGT, Int.reduceGE, Int.reduceEq, Int.reduceNe, Int.reduceBEq, Int.reduceBNe, Int.reduceToNat, Int.reduceNeg]) ?_
  try simp only [encMg, List.map_nil, go_sem, Nat.reduceAdd, Nat.reduceMul, Nat.reduceSub, Nat.reduceEqDiff, Nat.reduceLT, Nat.reduceLeDiff, Nat.reduceBEq, reduceIte, reduceCtorEq, Int.reduceAdd, Int.reduceLT, Int.reduceLE, Int.reduceGT, Int.reduceGE, Int.reduceEq, Int.reduceNe, Int.reduceBEq, Int.reduceBNe, Int.reduceToNat, Int.reduceNeg]
  (repeat (with_reducible refine ob ?_)); first | refine cl F51b (c1) ?_ | refine clF F51b (c1) (fun _ => by simp only [encEn, encMg, encPk, go_sem, Nat.reduceAdd, Nat.reduceMul, Nat.reduceSub, Nat.reduceEqDiff, Nat.reduceLT, Nat.reduceLeDiff, Nat.reduceBEq, reduceIte, reduceCtorEq, Int.reduceAdd, Int.reduceLT, Int.reduceLE, Int.reduceGT, Int.reduceGE, Int.reduceEq, Int.reduceNe, Int.reduceBEq, Int.reduceBNe, Int.reduceToNat, Int.reduceNeg]) ?_
  try simp only [encMg, go_sem, Nat.reduceAdd, Nat.reduceMul, Nat.reduceSub, Nat.reduceEqDiff, Nat.reduceLT, Nat.reduceLeDiff, Nat.reduceBEq, reduceIte, reduceCtorEq, Int.reduceAdd, Int.reduceLT, Int.reduceLE, Int.reduceGT, Int.reduceGE, Int.reduceEq, Int.reduceNe, Int.reduceBEq, Int.reduceBNe, Int.reduceToNat, Int.reduceNeg]
  (repeat (with_reducible refine ob ?_)); first | refine cl F43 (c2) ?_ | refine clF F43 (c2) (fun _ => by simp only [encEn, encMg, encPk, go_sem, Nat.reduceAdd, Nat.reduceMul, Nat.reduceSub, Nat.reduceEqDiff, Nat.reduceLT, Nat.reduceLeDiff, Nat.reduceBEq, reduceIte, reduceCtorEq, Int.reduceAdd, Int.reduceLT, Int.reduceLE, Int.reduceGT, Int.reduceGE, Int.reduceEq, Int.reduceNe, Int.reduceBEq, Int.reduceBNe, Int.reduceToNat, Int.reduceNeg]) ?_
  try simp only [encMg, go_sem, Nat.reduceAdd, Nat.reduceMul, Nat.reduceSub, Nat.reduceEqDiff, Nat.reduceLT, Nat.reduceLeDiff, Nat.reduceBEq, reduceIte, reduceCtorEq, Int.reduceAdd, Int.reduceLT, Int.reduceLE, Int.reduceGT, Int.reduceGE, Int.reduceEq, Int.reduceNe, Int.reduceBEq, Int.reduceBNe, Int.reduceToNat, Int.reduceNeg]
  (repeat (with_reducible refine ob ?_)); first | refine cl F53 (report53_ok 5 1 1) ?_ | refine clF F53 (report53_ok 5 1 1) (fun _ => by simp only [encEn, encMg, encPk, go_sem, Nat.reduceAdd, Nat.reduceMul, Nat.reduceSub, Nat.reduceEqDiff, Nat.reduceLT, Nat.reduceLeDiff, Nat.reduceBEq, reduceIte, reduceCtorEq, Int.reduceAdd, Int.reduceLT, Int.reduceLE, Int.reduceGT, Int.reduceGE, Int.reduceEq, Int.reduceNe, Int.reduceBEq, Int.reduceBNe, Int.reduceToNat, Int.reduceNeg]) ?_
  try (refine ev ?_; try exact True.intro)
  (repeat (with_reducible refine ob ?_)); first | refine cl F52b (c3) ?_ | refine clF F52b (c3) (fun _ => by simp only [encEn, encMg, encPk, go_sem, Nat.reduceAdd, Nat.reduceMul, Nat.reduceSub, Nat.reduceEqDiff, Nat.reduceLT, Nat.reduceLeDiff, Nat.reduceBEq, reduceIte, reduceCtorEq, Int.reduceAdd, Int.reduceLT, Int.reduceLE, Int.reduceGT, Int.reduceGE, Int.reduceEq, Int.reduceNe, Int.reduceBEq, Int.reduceBNe, Int.reduceToNat, Int.reduceNeg]) ?_
  try simp only [encMg, go_sem, Nat.reduceAdd, Nat.reduceMul, Nat.reduceSub, Nat.reduceEqDiff, Nat.reduceLT, Nat.reduceLeDiff, Nat.reduceBEq, reduceIte, reduceCtorEq, Int.reduceAdd, Int.reduceLT, Int.reduceLE, Int.reduceGT, Int.reduceGE, Int.reduceEq, Int.reduceNe, Int.reduceBEq, Int.reduceBNe, Int.reduceToNat, Int.reduceNeg]
  clear c0 c1 c2 c3
  (repeat (with_reducible refine ob ?_)); first | refine cl F43 (c4) ?_ | refine clF F43 (c4) (fun _ => by simp only [encEn, encMg, encPk, go_sem, Nat.reduceAdd, Nat.reduceMul, Nat.reduceSub, Nat.reduceEqDiff, Nat.reduceLT, Nat.reduceLeDiff, Nat.reduceBEq, reduceIte, reduceCtorEq, Int.reduceAdd, Int.reduceLT, Int.reduceLE, Int.reduceGT, Int.reduceGE, Int.reduceEq, Int.reduceNe, Int.reduceBEq, Int.reduceBNe, Int.reduceToNat, Int.reduceNeg]) ?_
  try simp only [encMg, go_sem, Nat.reduceAdd, Nat.reduceMul, Nat.reduceSub, Nat.reduceEqDiff, Nat.reduceLT, Nat.reduceLeDiff, Nat.reduceBEq, reduceIte, reduceCtorEq, Int.reduceAdd, Int.reduceLT, Int.reduceLE, Int.reduceGT, Int.reduceGE, Int.reduceEq, Int.reduceNe, Int.reduceBEq, Int.reduceBNe, Int.reduceToNat, Int.reduceNeg]
  (repeat (with_reducible refine ob ?_)); first | refine cl F53 (report53_ok 5 0 1) ?_ | refine clF F53 (report53_ok 5 0 1) (fun _ => by simp only [encEn, encMg, encPk, go_sem, Nat.reduceAdd, Nat.reduceMul, Nat.reduceSub, Nat.reduceEqDiff, Nat.reduceLT, Nat.reduceLeDiff, Nat.reduceBEq, reduceIte, reduceCtorEq, Int.reduceAdd, Int.reduceLT, Int.reduceLE, Int.reduceGT, Int.reduceGE, Int.reduceEq, Int.reduceNe, Int.reduceBEq, Int.reduceBNe, Int.reduceToNat, Int.reduceNeg]) ?_
  try (refine ev ?_; try exact True.intro)
  (repeat (with_reducible refine ob ?_)); first | refine cl F52b (c5) ?_ | refine clF F52b (c5) (fun _ => by simp only [encEn, encMg, encPk, go_sem, Nat.reduceAdd, Nat.reduceMul, Nat.reduceSub, Nat.reduceEqDiff, Nat.reduceLT, Nat.reduceLeDiff, Nat.reduceBEq, reduceIte, reduceCtorEq, Int.reduceAdd, Int.reduceLT, Int.reduceLE, Int.reduceGT, Int.reduceGE, Int.reduceEq, Int.reduceNe, Int.reduceBEq, Int.reduceBNe, Int.reduceToNat, Int.reduceNeg]) ?_
  try simp only [encMg, go_sem, Nat.reduceAdd, Nat.reduceMul, Nat.reduceSub, Nat.reduceEqDiff, Nat.reduceLT, Nat.reduceLeDiff, Nat.reduceBEq, reduceIte, reduceCtorEq, Int.reduceAdd, Int.reduceLT, Int.reduceLE, Int.reduceGT, Int.reduceGE, Int.reduceEq, Int.reduceNe, Int.reduceBEq, Int.reduceBNe, Int.reduceToNat, Int.reduceNeg]
  (repeat (with_reducible refine ob ?_)); first | refine cl F43 (c6) ?_ | refine clF F43 (c6) (fun _ => by simp only [encEn, encMg, encPk, go_sem, Nat.reduceAdd, Nat.reduceMul, Nat.reduceSub, Nat.reduceEqDiff, Nat.reduceLT, Nat.reduceLeDiff, Nat.reduceBEq, reduceIte, reduceCtorEq, Int.reduceAdd, Int.reduceLT, Int.reduceLE, Int.reduceGT, Int.reduceGE, Int.reduceEq, Int.reduceNe, Int.reduceBEq, Int.reduceBNe, Int.reduceToNat, Int.reduceNeg]) ?_
  try simp only [encMg, go_sem, Nat.reduceAdd, Nat.reduceMul, Nat.reduceSub, Nat.reduceEqDiff, Nat.reduceLT, Nat.reduceLeDiff, Nat.reduceBEq, reduceIte, reduceCtorEq, Int.reduceAdd, Int.reduceLT, Int.reduceLE, Int.reduceGT, Int.reduceGE, Int.reduceEq, Int.reduceNe, Int.reduceBEq, Int.reduceBNe, Int.reduceToNat, Int.reduceNeg]
  (repeat (with_reducible refine ob ?_))
  try simp only [encPk, ordPk, go_sem, Nat.reduceAdd, Nat.reduceMul, Nat.reduceSub, Nat.reduceEqDiff, Nat.reduceLT, Nat.reduceLeDiff, Nat.reduceBEq, reduceIte, reduceCtorEq, Int.reduceAdd, Int.reduceLT, Int.reduceLE, Int.reduceGT, Int.reduceGE, Int.reduceEq, Int.reduceNe, Int.reduceBEq, Int.reduceBNe, Int.reduceToNat, Int.reduceNeg]
end Go.Proofs.Ythcpckcgjplhiaa
