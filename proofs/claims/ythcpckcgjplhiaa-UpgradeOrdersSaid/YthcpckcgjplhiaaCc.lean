/- Equality and copies of slices of packets' parts; packet.Equal. -/
import Derived.Test.YthcpckcgjplhiaaCb
namespace Go.Proofs.Ythcpckcgjplhiaa
open Go.Abs
set_option linter.unusedSimpArgs false

theorem eq_ne {α : Type} [DecidableEq α] {l m : List α} {i : Nat} (h1 : i < l.length) (h2 : i < m.length) (h : l[i] ≠ m[i]) : decide (l = m) = false := by
  rw [decide_eq_false_iff_not]
  rintro rfl
  exact h rfl

theorem take_eq_succ {α : Type} {l m : List α} {i : Nat} (h : l.take i = m.take i) (h1 : i < l.length) (h2 : i < m.length) (he : l[i] = m[i]) : l.take (i + 1) = m.take (i + 1) := by
  rw [List.take_succ_eq_append_getElem h1, List.take_succ_eq_append_getElem h2, h, he]

theorem beq_AV (v w : AV) : (v.kind == w.kind && (v.n == w.n && v.s == w.s)) = decide (v = w) := by
  obtain ⟨a, b, c⟩ := v
  obtain ⟨d, e, f⟩ := w
  rw [Bool.eq_iff_iff]
  simp

section
variable {P : Program} {k0 o : Nat} {p : List (Nat × Nat)} {Q : SExit → St → Prop} {st : St}
noncomputable def s73r0 : List SOper := [
  ⟨some 4, .mov (.k (.d (.bool false))), none⟩]
noncomputable def s73r1 : List SOper := [
  ⟨some 6, .mov (.t 0), none⟩,
  ⟨some 7, .len (.t 6), none⟩,
  ⟨some 8, .mov (.t 1), none⟩,
  ⟨some 9, .len (.t 8), none⟩,
  ⟨some 10, .bin .neq (.t 7) (.t 9), none⟩]
noncomputable def s73r2 : List SOper := [
  ⟨some 4, .mov (.k (.d (.bool false))), none⟩]
noncomputable def s73r3 : List SOper := [
  ⟨some 11, .mov (.t 0), none⟩,
  ⟨some 12, .len (.t 11), none⟩,
  ⟨some 13, .mov (.k (.d (.int .i64 0))), none⟩]
noncomputable def s73r4 : List SOper := [
  ⟨some 14, .bin .lss (.t 13) (.t 12), none⟩]
noncomputable def s73r5 : List SOper := [
  ⟨some 15, .mov (.t 13), none⟩,
  ⟨some 5, .mov (.t 15), none⟩]
noncomputable def s73r6 : List SOper := [
  ⟨some 16, .mov (.t 0), none⟩,
  ⟨some 17, .mov (.t 5), none⟩,
  ⟨some 18, .iaddr 3 (.t 16) (.t 17), none⟩,
  ⟨some 19, .load (some 3) (.t 18), none⟩,
  ⟨some 20, .mov (.t 1), none⟩,
  ⟨some 21, .mov (.t 5), none⟩,
  ⟨some 22, .iaddr 3 (.t 20) (.t 21), none⟩,
  ⟨some 23, .load (some 3) (.t 22), none⟩,
  ⟨some 24, .eqAgg true [.int, .int, .str] (.t 19) (.t 23), none⟩]
noncomputable def s73r7 : List SOper := [
  ⟨some 4, .mov (.k (.d (.bool false))), none⟩]
noncomputable def s73r8 : List SOper := [
  ⟨some 25, .bin .add (.t 13) (.k (.d (.int .i64 1))), none⟩,
  ⟨some 13, .mov (.t 25), none⟩]
noncomputable def s73l9 : SCode := (.seq (.region s73r4 0 []) (.seq (.cond (.t 14) .skip (.exit 0)) (.seq (.block 1 (.seq (.region s73r5 0 []) (.seq (.region s73r6 0 []) (.cond (.t 24) (.seq (.region s73r7 0 []) .ret) .skip)))) (.region s73r8 0 []))))
theorem e73l9 : AWp P k0 s73l9 Q st = AWp P k0 (.seq (.region s73r4 0 []) (.seq (.cond (.t 14) .skip (.exit 0)) (.seq (.block 1 (.seq (.region s73r5 0 []) (.seq (.region s73r6 0 []) (.cond (.t 24) (.seq (.region s73r7 0 []) .ret) .skip)))) (.region s73r8 0 [])))) Q st := rfl
noncomputable def s73r10 : List SOper := [
  ⟨some 4, .mov (.k (.d (.bool true))), none⟩]
noncomputable def s73 : SCode := (.seq (.region s73r0 0 []) (.seq (.seq (.region s73r1 0 []) (.cond (.t 10) (.seq (.region s73r2 0 []) .ret) .skip)) (.seq (.seq (.region s73r3 0 []) (.block 0 (.loop s73l9))) (.seq (.region s73r10 0 []) .ret))))
theorem e73 : AWp P k0 s73 Q st = AWp P k0 (.seq (.region s73r0 0 []) (.seq (.seq (.region s73r1 0 []) (.cond (.t 10) (.seq (.region s73r2 0 []) .ret) .skip)) (.seq (.seq (.region s73r3 0 []) (.block 0 (.loop s73l9))) (.seq (.region s73r10 0 []) .ret)))) Q st := rfl
theorem u73r0 : goReg P s73r0 o p Q st = goLit P (litOf s73r0.eq_1) o p Q st := goReg_of _
theorem u73r1 : goReg P s73r1 o p Q st = goLit P (litOf s73r1.eq_1) o p Q st := goReg_of _
theorem u73r2 : goReg P s73r2 o p Q st = goLit P (litOf s73r2.eq_1) o p Q st := goReg_of _
theorem u73r3 : goReg P s73r3 o p Q st = goLit P (litOf s73r3.eq_1) o p Q st := goReg_of _
theorem u73r4 : goReg P s73r4 o p Q st = goLit P (litOf s73r4.eq_1) o p Q st := goReg_of _
theorem u73r5 : goReg P s73r5 o p Q st = goLit P (litOf s73r5.eq_1) o p Q st := goReg_of _
theorem u73r6 : goReg P s73r6 o p Q st = goLit P (litOf s73r6.eq_1) o p Q st := goReg_of _
theorem u73r7 : goReg P s73r7 o p Q st = goLit P (litOf s73r7.eq_1) o p Q st := goReg_of _
theorem u73r8 : goReg P s73r8 o p Q st = goLit P (litOf s73r8.eq_1) o p Q st := goReg_of _
theorem u73r10 : goReg P s73r10 o p Q st = goLit P (litOf s73r10.eq_1) o p Q st := goReg_of _
attribute [go_sem] u73r0 u73r1 u73r2 u73r3 u73r4 u73r5 u73r6 u73r7 u73r8 e73l9 u73r10 e73
set_option maxRecDepth 100000 in
theorem F73 : FnIs Try.prog 73 Try.f73 [] news s73 [.tmp 4] 26 := ⟨follows, Try.func73, by kernel_rfl, by kernel_rfl, by kernel_rfl, by kernel_rfl⟩

noncomputable def s74r0 : List SOper := [
  ⟨some 4, .mov (.k (.d (.bool false))), none⟩]
noncomputable def s74r1 : List SOper := [
  ⟨some 6, .mov (.t 0), none⟩,
  ⟨some 7, .len (.t 6), none⟩,
  ⟨some 8, .mov (.t 1), none⟩,
  ⟨some 9, .len (.t 8), none⟩,
  ⟨some 10, .bin .neq (.t 7) (.t 9), none⟩]
noncomputable def s74r2 : List SOper := [
  ⟨some 4, .mov (.k (.d (.bool false))), none⟩]
noncomputable def s74r3 : List SOper := [
  ⟨some 11, .mov (.t 0), none⟩,
  ⟨some 12, .len (.t 11), none⟩,
  ⟨some 13, .mov (.k (.d (.int .i64 0))), none⟩]
noncomputable def s74r4 : List SOper := [
  ⟨some 14, .bin .lss (.t 13) (.t 12), none⟩]
noncomputable def s74r5 : List SOper := [
  ⟨some 15, .mov (.t 13), none⟩,
  ⟨some 5, .mov (.t 15), none⟩]
noncomputable def s74r6 : List SOper := [
  ⟨some 16, .mov (.t 0), none⟩,
  ⟨some 17, .mov (.t 5), none⟩,
  ⟨some 18, .iaddr 1 (.t 16) (.t 17), none⟩,
  ⟨some 19, .load none (.t 18), none⟩,
  ⟨some 20, .mov (.t 1), none⟩,
  ⟨some 21, .mov (.t 5), none⟩,
  ⟨some 22, .iaddr 1 (.t 20) (.t 21), none⟩,
  ⟨some 23, .load none (.t 22), none⟩,
  ⟨some 24, .bin .neq (.t 19) (.t 23), none⟩]
noncomputable def s74r7 : List SOper := [
  ⟨some 4, .mov (.k (.d (.bool false))), none⟩]
noncomputable def s74r8 : List SOper := [
  ⟨some 25, .bin .add (.t 13) (.k (.d (.int .i64 1))), none⟩,
  ⟨some 13, .mov (.t 25), none⟩]
noncomputable def s74l9 : SCode := (.seq (.region s74r4 0 []) (.seq (.cond (.t 14) .skip (.exit 0)) (.seq (.block 1 (.seq (.region s74r5 0 []) (.seq (.region s74r6 0 []) (.cond (.t 24) (.seq (.region s74r7 0 []) .ret) .skip)))) (.region s74r8 0 []))))
theorem e74l9 : AWp P k0 s74l9 Q st = AWp P k0 (.seq (.region s74r4 0 []) (.seq (.cond (.t 14) .skip (.exit 0)) (.seq (.block 1 (.seq (.region s74r5 0 []) (.seq (.region s74r6 0 []) (.cond (.t 24) (.seq (.region s74r7 0 []) .ret) .skip)))) (.region s74r8 0 [])))) Q st := rfl
noncomputable def s74r10 : List SOper := [
  ⟨some 4, .mov (.k (.d (.bool true))), none⟩]
noncomputable def s74 : SCode := (.seq (.region s74r0 0 []) (.seq (.seq (.region s74r1 0 []) (.cond (.t 10) (.seq (.region s74r2 0 []) .ret) .skip)) (.seq (.seq (.region s74r3 0 []) (.block 0 (.loop s74l9))) (.seq (.region s74r10 0 []) .ret))))
theorem e74 : AWp P k0 s74 Q st = AWp P k0 (.seq (.region s74r0 0 []) (.seq (.seq (.region s74r1 0 []) (.cond (.t 10) (.seq (.region s74r2 0 []) .ret) .skip)) (.seq (.seq (.region s74r3 0 []) (.block 0 (.loop s74l9))) (.seq (.region s74r10 0 []) .ret)))) Q st := rfl
theorem u74r0 : goReg P s74r0 o p Q st = goLit P (litOf s74r0.eq_1) o p Q st := goReg_of _
theorem u74r1 : goReg P s74r1 o p Q st = goLit P (litOf s74r1.eq_1) o p Q st := goReg_of _
theorem u74r2 : goReg P s74r2 o p Q st = goLit P (litOf s74r2.eq_1) o p Q st := goReg_of _
theorem u74r3 : goReg P s74r3 o p Q st = goLit P (litOf s74r3.eq_1) o p Q st := goReg_of _
theorem u74r4 : goReg P s74r4 o p Q st = goLit P (litOf s74r4.eq_1) o p Q st := goReg_of _
theorem u74r5 : goReg P s74r5 o p Q st = goLit P (litOf s74r5.eq_1) o p Q st := goReg_of _
theorem u74r6 : goReg P s74r6 o p Q st = goLit P (litOf s74r6.eq_1) o p Q st := goReg_of _
theorem u74r7 : goReg P s74r7 o p Q st = goLit P (litOf s74r7.eq_1) o p Q st := goReg_of _
theorem u74r8 : goReg P s74r8 o p Q st = goLit P (litOf s74r8.eq_1) o p Q st := goReg_of _
theorem u74r10 : goReg P s74r10 o p Q st = goLit P (litOf s74r10.eq_1) o p Q st := goReg_of _
attribute [go_sem] u74r0 u74r1 u74r2 u74r3 u74r4 u74r5 u74r6 u74r7 u74r8 e74l9 u74r10 e74
set_option maxRecDepth 100000 in
theorem F74 : FnIs Try.prog 74 Try.f74 [] news s74 [.tmp 4] 26 := ⟨follows, Try.func74, by kernel_rfl, by kernel_rfl, by kernel_rfl, by kernel_rfl⟩

noncomputable def s97r0 : List SOper := [
  ⟨some 2, .mov (.k (.d .nilsl)), none⟩]
noncomputable def s97r1 : List SOper := [
  ⟨some 3, .mov (.t 0), none⟩,
  ⟨some 4, .eqnilS false (.t 3), none⟩]
noncomputable def s97r2 : List SOper := [
  ⟨some 2, .mov (.k (.d .nilsl)), none⟩]
noncomputable def s97r3 : List SOper := [
  ⟨some 5, .buildSlice false 3 0 [(.int .i64 0), (.int .i64 0), (.str [])] [], none⟩,
  ⟨some 6, .mov (.t 0), none⟩,
  ⟨some 7, .append false 3 32 (.t 5) (.t 6), none⟩,
  ⟨some 2, .mov (.t 7), none⟩]
noncomputable def s97 : SCode := (.seq (.region s97r0 0 []) (.seq (.seq (.region s97r1 0 []) (.cond (.t 4) (.seq (.region s97r2 0 []) .ret) .skip)) (.seq (.region s97r3 0 []) .ret)))
theorem e97 : AWp P k0 s97 Q st = AWp P k0 (.seq (.region s97r0 0 []) (.seq (.seq (.region s97r1 0 []) (.cond (.t 4) (.seq (.region s97r2 0 []) .ret) .skip)) (.seq (.region s97r3 0 []) .ret))) Q st := rfl
theorem u97r0 : goReg P s97r0 o p Q st = goLit P (litOf s97r0.eq_1) o p Q st := goReg_of _
theorem u97r1 : goReg P s97r1 o p Q st = goLit P (litOf s97r1.eq_1) o p Q st := goReg_of _
theorem u97r2 : goReg P s97r2 o p Q st = goLit P (litOf s97r2.eq_1) o p Q st := goReg_of _
theorem u97r3 : goReg P s97r3 o p Q st = goLit P (litOf s97r3.eq_1) o p Q st := goReg_of _
attribute [go_sem] u97r0 u97r1 u97r2 u97r3 e97
set_option maxRecDepth 100000 in
theorem F97 : FnIs Try.prog 97 Try.f97 [] news s97 [.tmp 2] 8 := ⟨follows, Try.func97, by kernel_rfl, by kernel_rfl, by kernel_rfl, by kernel_rfl⟩

noncomputable def s98r0 : List SOper := [
  ⟨some 2, .mov (.k (.d .nilsl)), none⟩]
noncomputable def s98r1 : List SOper := [
  ⟨some 3, .mov (.t 0), none⟩,
  ⟨some 4, .eqnilS false (.t 3), none⟩]
noncomputable def s98r2 : List SOper := [
  ⟨some 2, .mov (.k (.d .nilsl)), none⟩]
noncomputable def s98r3 : List SOper := [
  ⟨some 5, .buildSlice false 1 0 [(.int .i64 0)] [], none⟩,
  ⟨some 6, .mov (.t 0), none⟩,
  ⟨some 7, .append false 1 8 (.t 5) (.t 6), none⟩,
  ⟨some 2, .mov (.t 7), none⟩]
noncomputable def s98 : SCode := (.seq (.region s98r0 0 []) (.seq (.seq (.region s98r1 0 []) (.cond (.t 4) (.seq (.region s98r2 0 []) .ret) .skip)) (.seq (.region s98r3 0 []) .ret)))
theorem e98 : AWp P k0 s98 Q st = AWp P k0 (.seq (.region s98r0 0 []) (.seq (.seq (.region s98r1 0 []) (.cond (.t 4) (.seq (.region s98r2 0 []) .ret) .skip)) (.seq (.region s98r3 0 []) .ret))) Q st := rfl
theorem u98r0 : goReg P s98r0 o p Q st = goLit P (litOf s98r0.eq_1) o p Q st := goReg_of _
theorem u98r1 : goReg P s98r1 o p Q st = goLit P (litOf s98r1.eq_1) o p Q st := goReg_of _
theorem u98r2 : goReg P s98r2 o p Q st = goLit P (litOf s98r2.eq_1) o p Q st := goReg_of _
theorem u98r3 : goReg P s98r3 o p Q st = goLit P (litOf s98r3.eq_1) o p Q st := goReg_of _
attribute [go_sem] u98r0 u98r1 u98r2 u98r3 e98
set_option maxRecDepth 100000 in
theorem F98 : FnIs Try.prog 98 Try.f98 [] news s98 [.tmp 2] 8 := ⟨follows, Try.func98, by kernel_rfl, by kernel_rfl, by kernel_rfl, by kernel_rfl⟩

noncomputable def s36r0 : List SOper := [
  ⟨some 2, .box 2 (.t 0), none⟩,
  ⟨some 3, .box 1 (.t 1), none⟩,
  ⟨some 4, .mov (.k (.d (.bool false))), none⟩]
noncomputable def s36r1 : List SOper := [
  ⟨some 5, .faddr 0 (.t 2), none⟩,
  ⟨some 6, .load none (.t 5), none⟩,
  ⟨some 7, .faddr 0 (.t 3), none⟩,
  ⟨some 8, .load none (.t 7), none⟩,
  ⟨some 9, .bin .eql (.t 6) (.t 8), none⟩,
  ⟨some 10, .mov (.t 9), none⟩,
  ⟨some 11, .faddr 1 (.t 2), some (10, true)⟩,
  ⟨some 12, .load none (.t 11), some (10, true)⟩,
  ⟨some 13, .faddr 1 (.t 3), some (10, true)⟩,
  ⟨some 14, .load none (.t 13), some (10, true)⟩,
  ⟨some 15, .bin .eql (.t 12) (.t 14), some (10, true)⟩,
  ⟨some 16, .pick (.t 10) (.t 15) (.k (.d (.bool false))), none⟩,
  ⟨some 17, .mov (.t 16), none⟩,
  ⟨some 18, .faddr 2 (.t 2), some (17, true)⟩,
  ⟨some 19, .load none (.t 18), some (17, true)⟩,
  ⟨some 20, .faddr 2 (.t 3), some (17, true)⟩,
  ⟨some 21, .load none (.t 20), some (17, true)⟩,
  ⟨some 22, .bin .eql (.t 19) (.t 21), some (17, true)⟩,
  ⟨some 23, .pick (.t 17) (.t 22) (.k (.d (.bool false))), none⟩,
  ⟨some 24, .mov (.t 23), none⟩,
  ⟨some 25, .faddr 3 (.t 2), some (24, true)⟩,
  ⟨some 26, .load none (.t 25), some (24, true)⟩,
  ⟨some 27, .faddr 3 (.t 3), some (24, true)⟩,
  ⟨some 28, .load none (.t 27), some (24, true)⟩,
  ⟨some 29, .bin .eql (.t 26) (.t 28), some (24, true)⟩,
  ⟨some 30, .pick (.t 24) (.t 29) (.k (.d (.bool false))), none⟩,
  ⟨some 31, .mov (.t 30), none⟩,
  ⟨some 32, .faddr 4 (.t 2), some (31, true)⟩,
  ⟨some 33, .load none (.t 32), some (31, true)⟩,
  ⟨some 34, .faddr 4 (.t 3), some (31, true)⟩,
  ⟨some 35, .load none (.t 34), some (31, true)⟩,
  ⟨some 36, .bin .eql (.t 33) (.t 35), some (31, true)⟩,
  ⟨some 37, .pick (.t 31) (.t 36) (.k (.d (.bool false))), none⟩,
  ⟨some 38, .mov (.t 37), none⟩,
  ⟨some 39, .faddr 5 (.t 2), some (38, true)⟩,
  ⟨some 40, .load none (.t 39), some (38, true)⟩,
  ⟨some 41, .faddr 5 (.t 3), some (38, true)⟩,
  ⟨some 42, .load none (.t 41), some (38, true)⟩,
  ⟨some 43, .bin .eql (.t 40) (.t 42), some (38, true)⟩,
  ⟨some 44, .pick (.t 38) (.t 43) (.k (.d (.bool false))), none⟩,
  ⟨some 45, .mov (.t 44), none⟩,
  ⟨some 46, .faddr 6 (.t 2), some (45, true)⟩,
  ⟨some 47, .load none (.t 46), some (45, true)⟩,
  ⟨some 48, .faddr 6 (.t 3), some (45, true)⟩,
  ⟨some 49, .load none (.t 48), some (45, true)⟩,
  ⟨some 50, .bin .eql (.t 47) (.t 49), some (45, true)⟩,
  ⟨some 51, .pick (.t 45) (.t 50) (.k (.d (.bool false))), none⟩,
  ⟨some 52, .mov (.t 51), none⟩,
  ⟨some 53, .faddr 7 (.t 2), some (52, true)⟩,
  ⟨some 54, .load none (.t 53), some (52, true)⟩,
  ⟨some 55, .faddr 7 (.t 3), some (52, true)⟩,
  ⟨some 56, .load none (.t 55), some (52, true)⟩,
  ⟨some 57, .call (.k (.d (.func (.func 73) [] []))) [(.t 54), (.t 56)], some (52, true)⟩,
  ⟨some 58, .pick (.t 52) (.t 57) (.k (.d (.bool false))), none⟩,
  ⟨some 59, .mov (.t 58), none⟩,
  ⟨some 60, .faddr 8 (.t 2), some (59, true)⟩,
  ⟨some 61, .load none (.t 60), some (59, true)⟩,
  ⟨some 62, .faddr 8 (.t 3), some (59, true)⟩,
  ⟨some 63, .load none (.t 62), some (59, true)⟩,
  ⟨some 64, .call (.k (.d (.func (.func 74) [] []))) [(.t 61), (.t 63)], some (59, true)⟩,
  ⟨some 65, .pick (.t 59) (.t 64) (.k (.d (.bool false))), none⟩,
  ⟨some 4, .mov (.t 65), none⟩]
noncomputable def s36 : SCode := (.seq (.region s36r0 2 []) (.seq (.region s36r1 0 []) .ret))
theorem e36 : AWp P k0 s36 Q st = AWp P k0 (.seq (.region s36r0 2 []) (.seq (.region s36r1 0 []) .ret)) Q st := rfl
theorem u36r0 : goReg P s36r0 o p Q st = goLit P (litOf s36r0.eq_1) o p Q st := goReg_of _
theorem u36r1 : goReg P s36r1 o p Q st = goLit P (litOf s36r1.eq_1) o p Q st := goReg_of _
attribute [go_sem] u36r0 u36r1 e36
set_option maxRecDepth 100000 in
theorem F36 : FnIs Try.prog 36 Try.f36 [] news s36 [.tmp 4] 66 := ⟨follows, Try.func36, by kernel_rfl, by kernel_rfl, by kernel_rfl, by kernel_rfl⟩

end

def Seq {α : Type} (es : Nat) (enc : α → List D) (l m : List α) (i : { i : Nat // l.take i = m.take i }) : St :=
  ⟨[(0, true, .d (.sl es (l.map enc))), (1, true, .d (.sl es (m.map enc))), (12, true, .d (.int .i64 l.length)), (13, true, .d (.int .i64 (i.val : Nat)))], [], [], 1⟩

theorem eqV_ok (l m : List AV) (hl : l.length ≤ maxLen) :
    ACall Try.prog 73 [.d (.sl 3 (l.map encAV)), .d (.sl 3 (m.map encAV))] [] (.d (.bool (decide (l = m)))) [] := by
  first | refine F73.go ?_ | refine F73.goT ?_
  simp only [go_sem, Nat.reduceAdd, Nat.reduceMul, Nat.reduceSub, Nat.reduceEqDiff, Nat.reduceLT, Nat.reduceLeDiff, Nat.reduceBEq, reduceIte, reduceCtorEq, Int.reduceAdd, Int.reduceLT, Int.reduceLE, Int.reduceGT, Int.reduceGE, Int.reduceEq, Int.reduceNe, Int.reduceBEq, Int.reduceBNe, Int.reduceToNat, Int.reduceNeg]
  refine AWp_cond _ rfl rfl (fun h => ?_) (fun h => ?_)
  · have hne : decide (l = m) = false := by rw [decide_eq_false_iff_not]; rintro rfl; simp at h
    simp only [hne, go_sem, Nat.reduceAdd, Nat.reduceMul, Nat.reduceSub, Nat.reduceEqDiff, Nat.reduceLT, Nat.reduceLeDiff, Nat.reduceBEq, reduceIte, reduceCtorEq, Int.reduceAdd, Int.reduceLT, Int.reduceLE, Int.reduceGT, Int.reduceGE, Int.reduceEq, Int.reduceNe, Int.reduceBEq, Int.reduceBNe, Int.reduceToNat, Int.reduceNeg]
  · have hlm : l.length = m.length := by simp at h; omega
    simp only [go_sem, Nat.reduceAdd, Nat.reduceMul, Nat.reduceSub, Nat.reduceEqDiff, Nat.reduceLT, Nat.reduceLeDiff, Nat.reduceBEq, reduceIte, reduceCtorEq, Int.reduceAdd, Int.reduceLT, Int.reduceLE, Int.reduceGT, Int.reduceGE, Int.reduceEq, Int.reduceNe, Int.reduceBEq, Int.reduceBNe, Int.reduceToNat, Int.reduceNeg]
    refine AWp_loop (Seq 3 encAV l m) (fun i => l.length - i.val) ⟨0, rfl⟩ ?_ (fun i => ?_)
    · simp only [Seq, noPtrR_map encAV_noPtr, go_sem, Nat.reduceAdd, Nat.reduceMul, Nat.reduceSub, Nat.reduceEqDiff, Nat.reduceLT, Nat.reduceLeDiff, Nat.reduceBEq, reduceIte, reduceCtorEq, Int.reduceAdd, Int.reduceLT, Int.reduceLE, Int.reduceGT, Int.reduceGE, Int.reduceEq, Int.reduceNe, Int.reduceBEq, Int.reduceBNe, Int.reduceToNat, Int.reduceNeg]
    · obtain ⟨i, hi⟩ := i
      simp only [Seq, go_sem, Nat.reduceAdd, Nat.reduceMul, Nat.reduceSub, Nat.reduceEqDiff, Nat.reduceLT, Nat.reduceLeDiff, Nat.reduceBEq, reduceIte, reduceCtorEq, Int.reduceAdd, Int.reduceLT, Int.reduceLE, Int.reduceGT, Int.reduceGE, Int.reduceEq, Int.reduceNe, Int.reduceBEq, Int.reduceBNe, Int.reduceToNat, Int.reduceNeg]
      refine AWp_cond _ rfl rfl (fun h => ?_) (fun h => ?_)
      · have hil : i < l.length := by simpa using h
        have him : i < m.length := by omega
        simp only [getD_map encAV l hil, getD_map encAV m him, encAV, beq_AV, go_sem, Nat.reduceAdd, Nat.reduceMul, Nat.reduceSub, Nat.reduceEqDiff, Nat.reduceLT, Nat.reduceLeDiff, Nat.reduceBEq, reduceIte, reduceCtorEq, Int.reduceAdd, Int.reduceLT, Int.reduceLE, Int.reduceGT, Int.reduceGE, Int.reduceEq, Int.reduceNe, Int.reduceBEq, Int.reduceBNe, Int.reduceToNat, Int.reduceNeg]
        refine ⟨by omega, by omega, ?_⟩
        refine AWp_cond _ rfl rfl (fun h2 => ?_) (fun h2 => ?_)
        · have hne : l[i] ≠ m[i] := by simpa using h2
          simp only [eq_ne hil him hne, go_sem, Nat.reduceAdd, Nat.reduceMul, Nat.reduceSub, Nat.reduceEqDiff, Nat.reduceLT, Nat.reduceLeDiff, Nat.reduceBEq, reduceIte, reduceCtorEq, Int.reduceAdd, Int.reduceLT, Int.reduceLE, Int.reduceGT, Int.reduceGE, Int.reduceEq, Int.reduceNe, Int.reduceBEq, Int.reduceBNe, Int.reduceToNat, Int.reduceNeg]
        · have he : l[i] = m[i] := by simpa using h2
          simp only [go_sem, Nat.reduceAdd, Nat.reduceMul, Nat.reduceSub, Nat.reduceEqDiff, Nat.reduceLT, Nat.reduceLeDiff, Nat.reduceBEq, reduceIte, reduceCtorEq, Int.reduceAdd, Int.reduceLT, Int.reduceLE, Int.reduceGT, Int.reduceGE, Int.reduceEq, Int.reduceNe, Int.reduceBEq, Int.reduceBNe, Int.reduceToNat, Int.reduceNeg]
          refine ⟨⟨i + 1, take_eq_succ hi hil him he⟩, ?_, by dsimp only; omega⟩
          simp only [Seq, wrap_succ (show i < 9223372036854775807 by unfold maxLen at hl; omega), noPtrR_map encAV_noPtr, go_sem, Nat.reduceAdd, Nat.reduceMul, Nat.reduceSub, Nat.reduceEqDiff, Nat.reduceLT, Nat.reduceLeDiff, Nat.reduceBEq, reduceIte, reduceCtorEq, Int.reduceAdd, Int.reduceLT, Int.reduceLE, Int.reduceGT, Int.reduceGE, Int.reduceEq, Int.reduceNe, Int.reduceBEq, Int.reduceBNe, Int.reduceToNat, Int.reduceNeg]
      · have he : decide (l = m) = true := by
          have : l.length ≤ i := by simpa using h
          rw [List.take_of_length_le this, List.take_of_length_le (by omega)] at hi
          simp [hi]
        simp only [he, go_sem, Nat.reduceAdd, Nat.reduceMul, Nat.reduceSub, Nat.reduceEqDiff, Nat.reduceLT, Nat.reduceLeDiff, Nat.reduceBEq, reduceIte, reduceCtorEq, Int.reduceAdd, Int.reduceLT, Int.reduceLE, Int.reduceGT, Int.reduceGE, Int.reduceEq, Int.reduceNe, Int.reduceBEq, Int.reduceBNe, Int.reduceToNat, Int.reduceNeg]

theorem cloneV_ok (l : List AV) (hl : l.length ≤ 1000000) :
    ACall Try.prog 97 [.d (.sl 3 (l.map encAV))] [] (.d (.sl 3 (l.map encAV))) [] := by
  first | refine F97.go ?_ | refine F97.goT ?_
  simp only [go_sem, Nat.reduceAdd, Nat.reduceMul, Nat.reduceSub, Nat.reduceEqDiff, Nat.reduceLT, Nat.reduceLeDiff, Nat.reduceBEq, reduceIte, reduceCtorEq, Int.reduceAdd, Int.reduceLT, Int.reduceLE, Int.reduceGT, Int.reduceGE, Int.reduceEq, Int.reduceNe, Int.reduceBEq, Int.reduceBNe, Int.reduceToNat, Int.reduceNeg]
  refine nilO_of rfl rfl (fun b hb => ?_)
  try (refine ev ?_; try exact True.intro)
  refine AWp_cond _ rfl rfl (fun h => ?_) (fun h => ?_)
  · try simp only [hb h, go_sem, Nat.reduceAdd, Nat.reduceMul, Nat.reduceSub, Nat.reduceEqDiff, Nat.reduceLT, Nat.reduceLeDiff, Nat.reduceBEq, reduceIte, reduceCtorEq, Int.reduceAdd, Int.reduceLT, Int.reduceLE, Int.reduceGT, Int.reduceGE, Int.reduceEq, Int.reduceNe, Int.reduceBEq, Int.reduceBNe, Int.reduceToNat, Int.reduceNeg]
  · try (refine ev ?_; try exact True.intro)
    omega

theorem cloneI_ok (l : List Int) (hl : l.length ≤ 1000000) :
    ACall Try.prog 98 [.d (.sl 1 (l.map encI))] [] (.d (.sl 1 (l.map encI))) [] := by
  first | refine F98.go ?_ | refine F98.goT ?_
  simp only [go_sem, Nat.reduceAdd, Nat.reduceMul, Nat.reduceSub, Nat.reduceEqDiff, Nat.reduceLT, Nat.reduceLeDiff, Nat.reduceBEq, reduceIte, reduceCtorEq, Int.reduceAdd, Int.reduceLT, Int.reduceLE, Int.reduceGT, Int.reduceGE, Int.reduceEq, Int.reduceNe, Int.reduceBEq, Int.reduceBNe, Int.reduceToNat, Int.reduceNeg]
  refine nilO_of rfl rfl (fun b hb => ?_)
  try (refine ev ?_; try exact True.intro)
  refine AWp_cond _ rfl rfl (fun h => ?_) (fun h => ?_)
  · try simp only [hb h, go_sem, Nat.reduceAdd, Nat.reduceMul, Nat.reduceSub, Nat.reduceEqDiff, Nat.reduceLT, Nat.reduceLeDiff, Nat.reduceBEq, reduceIte, reduceCtorEq, Int.reduceAdd, Int.reduceLT, Int.reduceLE, Int.reduceGT, Int.reduceGE, Int.reduceEq, Int.reduceNe, Int.reduceBEq, Int.reduceBNe, Int.reduceToNat, Int.reduceNeg]
  · try (refine ev ?_; try exact True.intro)
    omega

theorem eqI_ok (l m : List Int) (hl : l.length ≤ maxLen) :
    ACall Try.prog 74 [.d (.sl 1 (l.map encI)), .d (.sl 1 (m.map encI))] [] (.d (.bool (decide (l = m)))) [] := by
  first | refine F74.go ?_ | refine F74.goT ?_
  simp only [go_sem, Nat.reduceAdd, Nat.reduceMul, Nat.reduceSub, Nat.reduceEqDiff, Nat.reduceLT, Nat.reduceLeDiff, Nat.reduceBEq, reduceIte, reduceCtorEq, Int.reduceAdd, Int.reduceLT, Int.reduceLE, Int.reduceGT, Int.reduceGE, Int.reduceEq, Int.reduceNe, Int.reduceBEq, Int.reduceBNe, Int.reduceToNat, Int.reduceNeg]
  refine AWp_cond _ rfl rfl (fun h => ?_) (fun h => ?_)
  · have hne : decide (l = m) = false := by rw [decide_eq_false_iff_not]; rintro rfl; simp at h
    try simp only [hne, go_sem, Nat.reduceAdd, Nat.reduceMul, Nat.reduceSub, Nat.reduceEqDiff, Nat.reduceLT, Nat.reduceLeDiff, Nat.reduceBEq, reduceIte, reduceCtorEq, Int.reduceAdd, Int.reduceLT, Int.reduceLE, Int.reduceGT, Int.reduceGE, Int.reduceEq, Int.reduceNe, Int.reduceBEq, Int.reduceBNe, Int.reduceToNat, Int.reduceNeg]
  · have hlm : l.length = m.length := by simp at h; omega
    try (refine ev ?_; try exact True.intro)
    refine AWp_loop (Seq 1 encI l m) (fun i => l.length - i.val) ⟨0, rfl⟩ ?_ (fun i => ?_)
    · try simp only [Seq, go_sem, Nat.reduceAdd, Nat.reduceMul, Nat.reduceSub, Nat.reduceEqDiff, Nat.reduceLT, Nat.reduceLeDiff, Nat.reduceBEq, reduceIte, reduceCtorEq, Int.reduceAdd, Int.reduceLT, Int.reduceLE, Int.reduceGT, Int.reduceGE, Int.reduceEq, Int.reduceNe, Int.reduceBEq, Int.reduceBNe, Int.reduceToNat, Int.reduceNeg]
    · obtain ⟨i, hi⟩ := i
      try simp only [Seq, go_sem, Nat.reduceAdd, Nat.reduceMul, Nat.reduceSub, Nat.reduceEqDiff, Nat.reduceLT, Nat.reduceLeDiff, Nat.reduceBEq, reduceIte, reduceCtorEq, Int.reduceAdd, Int.reduceLT, Int.reduceLE, Int.reduceGT, Int.reduceGE, Int.reduceEq, Int.reduceNe, Int.reduceBEq, Int.reduceBNe, Int.reduceToNat, Int.reduceNeg]
      refine AWp_cond _ rfl rfl (fun h => ?_) (fun h => ?_)
      · have hil : i < l.length := by simpa using h
        have him : i < m.length := by omega
        try simp only [getD_map encI l hil, getD_map encI m him, encI, go_sem, Nat.reduceAdd, Nat.reduceMul, Nat.reduceSub, Nat.reduceEqDiff, Nat.reduceLT, Nat.reduceLeDiff, Nat.reduceBEq, reduceIte, reduceCtorEq, Int.reduceAdd, Int.reduceLT, Int.reduceLE, Int.reduceGT, Int.reduceGE, Int.reduceEq, Int.reduceNe, Int.reduceBEq, Int.reduceBNe, Int.reduceToNat, Int.reduceNeg]
        refine ⟨by omega, by omega, ?_⟩
        refine AWp_cond _ rfl rfl (fun h2 => ?_) (fun h2 => ?_)
        · have hne : l[i] ≠ m[i] := by simpa using h2
          try simp only [eq_ne hil him hne, go_sem, Nat.reduceAdd, Nat.reduceMul, Nat.reduceSub, Nat.reduceEqDiff, Nat.reduceLT, Nat.reduceLeDiff, Nat.reduceBEq, reduceIte, reduceCtorEq, Int.reduceAdd, Int.reduceLT, Int.reduceLE, Int.reduceGT, Int.reduceGE, Int.reduceEq, Int.reduceNe, Int.reduceBEq, Int.reduceBNe, Int.reduceToNat, Int.reduceNeg]
        · have he : l[i] = m[i] := by simpa using h2
          try (refine ev ?_; try exact True.intro)
          refine ⟨⟨i + 1, take_eq_succ hi hil him he⟩, ?_, by dsimp only; omega⟩
          try simp only [Seq, wrap_succ (show i < 9223372036854775807 by unfold maxLen at hl; omega), go_sem, Nat.reduceAdd, Nat.reduceMul, Nat.reduceSub, Nat.reduceEqDiff, Nat.reduceLT, Nat.reduceLeDiff, Nat.reduceBEq, reduceIte, reduceCtorEq, Int.reduceAdd, Int.reduceLT, Int.reduceLE, Int.reduceGT, Int.reduceGE, Int.reduceEq, Int.reduceNe, Int.reduceBEq, Int.reduceBNe, Int.reduceToNat, Int.reduceNeg]
      · have he : decide (l = m) = true := by
          have : l.length ≤ i := by simpa using h
          rw [List.take_of_length_le this, List.take_of_length_le (by omega)] at hi
          simp [hi]
        try simp only [he, go_sem, Nat.reduceAdd, Nat.reduceMul, Nat.reduceSub, Nat.reduceEqDiff, Nat.reduceLT, Nat.reduceLeDiff, Nat.reduceBEq, reduceIte, reduceCtorEq, Int.reduceAdd, Int.reduceLT, Int.reduceLE, Int.reduceGT, Int.reduceGE, Int.reduceEq, Int.reduceNe, Int.reduceBEq, Int.reduceBNe, Int.reduceToNat, Int.reduceNeg]

theorem beq_Pk (p q : Pk) : (p.kind == q.kind && p.sess == q.sess && p.epoch == q.epoch && p.from_ == q.from_ && p.to == q.to && p.seq == q.seq && p.label == q.label && decide (p.values = q.values) && decide (p.clock = q.clock)) = decide (p = q) := by
  obtain ⟨a1, a2, a3, a4, a5, a6, a7, a8, a9⟩ := p
  obtain ⟨b1, b2, b3, b4, b5, b6, b7, b8, b9⟩ := q
  rw [Bool.eq_iff_iff]
  simp [and_assoc]

set_option maxRecDepth 10000 in
theorem pkEqual_ok (p q : Pk) (h1 : p.values.length ≤ maxLen) (h2 : p.clock.length ≤ maxLen) :
    ACall Try.prog 36 [.d (.agg (encPk p)), .d (.agg (encPk q))] [] (.d (.bool (decide (p = q)))) [] := by
  first | refine F36.go ?_ | refine F36.goT ?_
  simp only [encPk, go_sem, Nat.reduceAdd, Nat.reduceMul, Nat.reduceSub, Nat.reduceEqDiff, Nat.reduceLT, Nat.reduceLeDiff, Nat.reduceBEq, reduceIte, reduceCtorEq, Int.reduceAdd, Int.reduceLT, Int.reduceLE, Int.reduceGT, Int.reduceGE, Int.reduceEq, Int.reduceNe, Int.reduceBEq, Int.reduceBNe, Int.reduceToNat, Int.reduceNeg]
  (repeat (with_reducible refine ob ?_)); refine cl F73 (eqV_ok p.values q.values h1) ?_
  try (refine ev ?_; try exact True.intro)
  (repeat (with_reducible refine ob ?_)); refine cl F74 (eqI_ok p.clock q.clock h2) ?_
  try simp only [beq_Pk, go_sem, Nat.reduceAdd, Nat.reduceMul, Nat.reduceSub, Nat.reduceEqDiff, Nat.reduceLT, Nat.reduceLeDiff, Nat.reduceBEq, reduceIte, reduceCtorEq, Int.reduceAdd, Int.reduceLT, Int.reduceLE, Int.reduceGT, Int.reduceGE, Int.reduceEq, Int.reduceNe, Int.reduceBEq, Int.reduceBNe, Int.reduceToNat, Int.reduceNeg]
end Go.Proofs.Ythcpckcgjplhiaa
