/- The reference's packets. -/
import Derived.Test.YthcpckcgjplhiaaCf
namespace Go.Proofs.Ythcpckcgjplhiaa
open Go.Abs
set_option linter.unusedSimpArgs false

theorem take_all_succ {α : Type} {f : α → Bool} {l : List α} {i : Nat} (h : (l.take i).all f = true) (hi : i < l.length) (hf : f l[i] = true) : (l.take (i + 1)).all f = true := by
  rw [List.take_succ_eq_append_getElem hi, List.all_append, h]
  simp [hf]
theorem all_no {α : Type} {f : α → Bool} {l : List α} {i : Nat} (hi : i < l.length) (hf : f l[i] = false) : l.all f = false := by
  rw [List.all_eq_false]
  exact ⟨l[i], List.getElem_mem hi, by simp [hf]⟩
theorem all_done {α : Type} {f : α → Bool} {l : List α} {i : Nat} (h : (l.take i).all f = true) (hi : l.length ≤ i) : l.all f = true := by
  rwa [List.take_of_length_le hi] at h

section
variable {P : Program} {k0 o : Nat} {p : List (Nat × Nat)} {Q : SExit → St → Prop} {st : St}
noncomputable def s99r0 : List SOper := [
  ⟨some 6, .mov (.k (.d (.bool false))), none⟩]
noncomputable def s99r1 : List SOper := [
  ⟨some 7, .mov (.t 0), none⟩,
  ⟨some 8, .mov (.t 1), none⟩,
  ⟨some 9, .bin .geq (.t 7) (.t 8), none⟩,
  ⟨some 10, .mov (.t 9), none⟩,
  ⟨some 11, .mov (.t 0), some (10, true)⟩,
  ⟨some 12, .mov (.t 2), some (10, true)⟩,
  ⟨some 13, .bin .leq (.t 11) (.t 12), some (10, true)⟩,
  ⟨some 14, .pick (.t 10) (.t 13) (.k (.d (.bool false))), none⟩,
  ⟨some 6, .mov (.t 14), none⟩]
noncomputable def s99 : SCode := (.seq (.region s99r0 0 []) (.seq (.region s99r1 0 []) .ret))
theorem e99 : AWp P k0 s99 Q st = AWp P k0 (.seq (.region s99r0 0 []) (.seq (.region s99r1 0 []) .ret)) Q st := rfl
theorem u99r0 : goReg P s99r0 o p Q st = goLit P (litOf s99r0.eq_1) o p Q st := goReg_of _
theorem u99r1 : goReg P s99r1 o p Q st = goLit P (litOf s99r1.eq_1) o p Q st := goReg_of _
attribute [go_sem] u99r0 u99r1 e99
set_option maxRecDepth 100000 in
theorem F99 : FnIs Try.prog 99 Try.f99 [] news s99 [.tmp 6] 15 := ⟨follows, Try.func99, by kernel_rfl, by kernel_rfl, by kernel_rfl, by kernel_rfl⟩

noncomputable def s100r0 : List SOper := [
  ⟨some 1, .box 1 (.t 0), none⟩,
  ⟨some 2, .mov (.k (.d (.bool false))), none⟩]
noncomputable def s100r1 : List SOper := [
  ⟨some 3, .faddr 3 (.t 1), none⟩,
  ⟨some 4, .load none (.t 3), none⟩,
  ⟨some 5, .call (.k (.d (.func (.func 99) [] []))) [(.t 4), (.k (.d (.int .i64 0))), (.k (.d (.int .i64 5)))], none⟩,
  ⟨some 6, .mov (.t 5), none⟩,
  ⟨some 7, .faddr 4 (.t 1), some (6, true)⟩,
  ⟨some 8, .load none (.t 7), some (6, true)⟩,
  ⟨some 9, .call (.k (.d (.func (.func 99) [] []))) [(.t 8), (.k (.d (.int .i64 0))), (.k (.d (.int .i64 5)))], some (6, true)⟩,
  ⟨some 10, .pick (.t 6) (.t 9) (.k (.d (.bool false))), none⟩,
  ⟨some 11, .mov (.t 10), none⟩,
  ⟨some 12, .faddr 3 (.t 1), some (11, true)⟩,
  ⟨some 13, .load none (.t 12), some (11, true)⟩,
  ⟨some 14, .faddr 4 (.t 1), some (11, true)⟩,
  ⟨some 15, .load none (.t 14), some (11, true)⟩,
  ⟨some 16, .bin .neq (.t 13) (.t 15), some (11, true)⟩,
  ⟨some 17, .pick (.t 11) (.t 16) (.k (.d (.bool false))), none⟩,
  ⟨some 2, .mov (.t 17), none⟩]
noncomputable def s100 : SCode := (.seq (.region s100r0 1 []) (.seq (.region s100r1 0 []) .ret))
theorem e100 : AWp P k0 s100 Q st = AWp P k0 (.seq (.region s100r0 1 []) (.seq (.region s100r1 0 []) .ret)) Q st := rfl
theorem u100r0 : goReg P s100r0 o p Q st = goLit P (litOf s100r0.eq_1) o p Q st := goReg_of _
theorem u100r1 : goReg P s100r1 o p Q st = goLit P (litOf s100r1.eq_1) o p Q st := goReg_of _
attribute [go_sem] u100r0 u100r1 e100
set_option maxRecDepth 100000 in
theorem F100 : FnIs Try.prog 100 Try.f100 [] news s100 [.tmp 2] 18 := ⟨follows, Try.func100, by kernel_rfl, by kernel_rfl, by kernel_rfl, by kernel_rfl⟩

noncomputable def s119r0 : List SOper := [
  ⟨some 1, .box 1 (.t 0), none⟩,
  ⟨some 2, .mov (.k (.d (.bool false))), none⟩]
noncomputable def s119r1 : List SOper := [
  ⟨some 3, .faddr 0 (.t 1), none⟩,
  ⟨some 4, .load none (.t 3), none⟩,
  ⟨some 5, .bin .eql (.t 4) (.k (.d (.int .i64 1))), none⟩,
  ⟨some 6, .mov (.t 5), none⟩,
  ⟨some 7, .faddr 2 (.t 1), some (6, true)⟩,
  ⟨some 8, .load none (.t 7), some (6, true)⟩,
  ⟨some 9, .bin .eql (.t 8) (.k (.d (.str []))), some (6, true)⟩,
  ⟨some 10, .pick (.t 6) (.t 9) (.k (.d (.bool false))), none⟩,
  ⟨some 11, .mov (.t 10), none⟩,
  ⟨some 12, .faddr 0 (.t 1), some (11, false)⟩,
  ⟨some 13, .load none (.t 12), some (11, false)⟩,
  ⟨some 14, .bin .eql (.t 13) (.k (.d (.int .i64 2))), some (11, false)⟩,
  ⟨some 15, .mov (.t 14), some (11, false)⟩,
  ⟨some 16, .faddr 1 (.t 1), some (15, true)⟩,
  ⟨some 17, .load none (.t 16), some (15, true)⟩,
  ⟨some 18, .bin .eql (.t 17) (.k (.d (.int .i64 0))), some (15, true)⟩,
  ⟨some 19, .pick (.t 15) (.t 18) (.k (.d (.bool false))), some (11, false)⟩,
  ⟨some 20, .pick (.t 11) (.k (.d (.bool true))) (.t 19), none⟩,
  ⟨some 2, .mov (.t 20), none⟩]
noncomputable def s119 : SCode := (.seq (.region s119r0 1 []) (.seq (.region s119r1 0 []) .ret))
theorem e119 : AWp P k0 s119 Q st = AWp P k0 (.seq (.region s119r0 1 []) (.seq (.region s119r1 0 []) .ret)) Q st := rfl
theorem u119r0 : goReg P s119r0 o p Q st = goLit P (litOf s119r0.eq_1) o p Q st := goReg_of _
theorem u119r1 : goReg P s119r1 o p Q st = goLit P (litOf s119r1.eq_1) o p Q st := goReg_of _
attribute [go_sem] u119r0 u119r1 e119
set_option maxRecDepth 100000 in
theorem F119 : FnIs Try.prog 119 Try.f119 [] news s119 [.tmp 2] 21 := ⟨follows, Try.func119, by kernel_rfl, by kernel_rfl, by kernel_rfl, by kernel_rfl⟩

noncomputable def s101r0 : List SOper := [
  ⟨some 1, .box 1 (.t 0), none⟩,
  ⟨some 2, .mov (.k (.d (.bool false))), none⟩]
noncomputable def s101r1 : List SOper := [
  ⟨some 5, .faddr 7 (.t 1), none⟩,
  ⟨some 6, .load none (.t 5), none⟩,
  ⟨some 7, .len (.t 6), none⟩,
  ⟨some 8, .bin .gtr (.t 7) (.k (.d (.int .i64 4))), none⟩,
  ⟨some 9, .mov (.t 8), none⟩,
  ⟨some 10, .faddr 8 (.t 1), some (9, false)⟩,
  ⟨some 11, .load none (.t 10), some (9, false)⟩,
  ⟨some 12, .len (.t 11), some (9, false)⟩,
  ⟨some 13, .bin .gtr (.t 12) (.k (.d (.int .i64 6))), some (9, false)⟩,
  ⟨some 14, .pick (.t 9) (.k (.d (.bool true))) (.t 13), none⟩]
noncomputable def s101r2 : List SOper := [
  ⟨some 2, .mov (.k (.d (.bool false))), none⟩]
noncomputable def s101r3 : List SOper := [
  ⟨some 3, .mov (.k (.d (.int .i64 0))), none⟩]
noncomputable def s101r4 : List SOper := [
  ⟨some 15, .mov (.t 3), none⟩,
  ⟨some 16, .faddr 7 (.t 1), none⟩,
  ⟨some 17, .load none (.t 16), none⟩,
  ⟨some 18, .len (.t 17), none⟩,
  ⟨some 19, .bin .lss (.t 15) (.t 18), none⟩]
noncomputable def s101r5 : List SOper := [
  ⟨some 22, .faddr 7 (.t 1), none⟩,
  ⟨some 23, .load none (.t 22), none⟩,
  ⟨some 24, .mov (.t 3), none⟩,
  ⟨some 25, .iaddr 3 (.t 23) (.t 24), none⟩,
  ⟨some 26, .load (some 3) (.t 25), none⟩,
  ⟨some 27, .call (.k (.d (.func (.func 119) [] []))) [(.t 26)], none⟩,
  ⟨some 28, .not (.t 27), none⟩,
  ⟨some 29, .mov (.t 28), none⟩,
  ⟨some 30, .faddr 7 (.t 1), some (29, false)⟩,
  ⟨some 31, .load none (.t 30), some (29, false)⟩,
  ⟨some 32, .mov (.t 3), some (29, false)⟩,
  ⟨some 33, .iaddr 3 (.t 31) (.t 32), some (29, false)⟩,
  ⟨some 34, .faddr 2 (.t 33), some (29, false)⟩,
  ⟨some 35, .load none (.t 34), some (29, false)⟩,
  ⟨some 36, .lenS (.t 35), some (29, false)⟩,
  ⟨some 37, .bin .gtr (.t 36) (.k (.d (.int .i64 40))), some (29, false)⟩,
  ⟨some 38, .pick (.t 29) (.k (.d (.bool true))) (.t 37), none⟩]
noncomputable def s101r6 : List SOper := [
  ⟨some 2, .mov (.k (.d (.bool false))), none⟩]
noncomputable def s101r7 : List SOper := [
  ⟨some 20, .mov (.t 3), none⟩,
  ⟨some 21, .bin .add (.t 20) (.k (.d (.int .i64 1))), none⟩,
  ⟨some 3, .mov (.t 21), none⟩]
noncomputable def s101l8 : SCode := (.seq (.seq (.region s101r4 0 []) (.cond (.t 19) .skip (.exit 0))) (.seq (.block 1 (.seq (.region s101r5 0 []) (.cond (.t 38) (.seq (.region s101r6 0 []) .ret) .skip))) (.region s101r7 0 [])))
theorem e101l8 : AWp P k0 s101l8 Q st = AWp P k0 (.seq (.seq (.region s101r4 0 []) (.cond (.t 19) .skip (.exit 0))) (.seq (.block 1 (.seq (.region s101r5 0 []) (.cond (.t 38) (.seq (.region s101r6 0 []) .ret) .skip))) (.region s101r7 0 []))) Q st := rfl
noncomputable def s101r9 : List SOper := [
  ⟨some 4, .mov (.k (.d (.int .i64 0))), none⟩]
noncomputable def s101r10 : List SOper := [
  ⟨some 39, .mov (.t 4), none⟩,
  ⟨some 40, .faddr 8 (.t 1), none⟩,
  ⟨some 41, .load none (.t 40), none⟩,
  ⟨some 42, .len (.t 41), none⟩,
  ⟨some 43, .bin .lss (.t 39) (.t 42), none⟩]
noncomputable def s101r11 : List SOper := [
  ⟨some 46, .faddr 8 (.t 1), none⟩,
  ⟨some 47, .load none (.t 46), none⟩,
  ⟨some 48, .mov (.t 4), none⟩,
  ⟨some 49, .iaddr 1 (.t 47) (.t 48), none⟩,
  ⟨some 50, .load none (.t 49), none⟩,
  ⟨some 51, .call (.k (.d (.func (.func 99) [] []))) [(.t 50), (.k (.d (.int .i64 0))), (.k (.d (.int .i64 1099511627776)))], none⟩,
  ⟨some 52, .not (.t 51), none⟩]
noncomputable def s101r12 : List SOper := [
  ⟨some 2, .mov (.k (.d (.bool false))), none⟩]
noncomputable def s101r13 : List SOper := [
  ⟨some 44, .mov (.t 4), none⟩,
  ⟨some 45, .bin .add (.t 44) (.k (.d (.int .i64 1))), none⟩,
  ⟨some 4, .mov (.t 45), none⟩]
noncomputable def s101l14 : SCode := (.seq (.seq (.region s101r10 0 []) (.cond (.t 43) .skip (.exit 2))) (.seq (.block 3 (.seq (.region s101r11 0 []) (.cond (.t 52) (.seq (.region s101r12 0 []) .ret) .skip))) (.region s101r13 0 [])))
theorem e101l14 : AWp P k0 s101l14 Q st = AWp P k0 (.seq (.seq (.region s101r10 0 []) (.cond (.t 43) .skip (.exit 2))) (.seq (.block 3 (.seq (.region s101r11 0 []) (.cond (.t 52) (.seq (.region s101r12 0 []) .ret) .skip))) (.region s101r13 0 []))) Q st := rfl
noncomputable def s101r15 : List SOper := [
  ⟨some 2, .mov (.k (.d (.bool true))), none⟩]
noncomputable def s101 : SCode := (.seq (.region s101r0 1 []) (.seq (.seq (.region s101r1 0 []) (.cond (.t 14) (.seq (.region s101r2 0 []) .ret) .skip)) (.seq (.seq (.region s101r3 0 []) (.block 0 (.loop s101l8))) (.seq (.seq (.region s101r9 0 []) (.block 2 (.loop s101l14))) (.seq (.region s101r15 0 []) .ret)))))
theorem e101 : AWp P k0 s101 Q st = AWp P k0 (.seq (.region s101r0 1 []) (.seq (.seq (.region s101r1 0 []) (.cond (.t 14) (.seq (.region s101r2 0 []) .ret) .skip)) (.seq (.seq (.region s101r3 0 []) (.block 0 (.loop s101l8))) (.seq (.seq (.region s101r9 0 []) (.block 2 (.loop s101l14))) (.seq (.region s101r15 0 []) .ret))))) Q st := rfl
theorem u101r0 : goReg P s101r0 o p Q st = goLit P (litOf s101r0.eq_1) o p Q st := goReg_of _
theorem u101r1 : goReg P s101r1 o p Q st = goLit P (litOf s101r1.eq_1) o p Q st := goReg_of _
theorem u101r2 : goReg P s101r2 o p Q st = goLit P (litOf s101r2.eq_1) o p Q st := goReg_of _
theorem u101r3 : goReg P s101r3 o p Q st = goLit P (litOf s101r3.eq_1) o p Q st := goReg_of _
theorem u101r4 : goReg P s101r4 o p Q st = goLit P (litOf s101r4.eq_1) o p Q st := goReg_of _
theorem u101r5 : goReg P s101r5 o p Q st = goLit P (litOf s101r5.eq_1) o p Q st := goReg_of _
theorem u101r6 : goReg P s101r6 o p Q st = goLit P (litOf s101r6.eq_1) o p Q st := goReg_of _
theorem u101r7 : goReg P s101r7 o p Q st = goLit P (litOf s101r7.eq_1) o p Q st := goReg_of _
theorem u101r9 : goReg P s101r9 o p Q st = goLit P (litOf s101r9.eq_1) o p Q st := goReg_of _
theorem u101r10 : goReg P s101r10 o p Q st = goLit P (litOf s101r10.eq_1) o p Q st := goReg_of _
theorem u101r11 : goReg P s101r11 o p Q st = goLit P (litOf s101r11.eq_1) o p Q st := goReg_of _
theorem u101r12 : goReg P s101r12 o p Q st = goLit P (litOf s101r12.eq_1) o p Q st := goReg_of _
theorem u101r13 : goReg P s101r13 o p Q st = goLit P (litOf s101r13.eq_1) o p Q st := goReg_of _
theorem u101r15 : goReg P s101r15 o p Q st = goLit P (litOf s101r15.eq_1) o p Q st := goReg_of _
attribute [go_sem] u101r0 u101r1 u101r2 u101r3 u101r4 u101r5 u101r6 u101r7 e101l8 u101r9 u101r10 u101r11 u101r12 u101r13 e101l14 u101r15 e101
set_option maxRecDepth 100000 in
theorem F101 : FnIs Try.prog 101 Try.f101 [] news s101 [.tmp 2] 53 := ⟨follows, Try.func101, by kernel_rfl, by kernel_rfl, by kernel_rfl, by kernel_rfl⟩

noncomputable def s75r0 : List SOper := [
  ⟨some 1, .box 1 (.t 0), none⟩,
  ⟨some 2, .mov (.k (.d (.bool false))), none⟩]
noncomputable def s75r1 : List SOper := [
  ⟨some 4, .faddr 1 (.t 1), none⟩,
  ⟨some 5, .load none (.t 4), none⟩,
  ⟨some 6, .call (.k (.d (.func (.func 99) [] []))) [(.t 5), (.k (.d (.int .i64 1))), (.k (.d (.int .i64 32)))], none⟩,
  ⟨some 7, .not (.t 6), none⟩]
noncomputable def s75r2 : List SOper := [
  ⟨some 2, .mov (.k (.d (.bool false))), none⟩]
noncomputable def s75r3 : List SOper := [
  ⟨some 8, .faddr 2 (.t 1), none⟩,
  ⟨some 9, .load none (.t 8), none⟩,
  ⟨some 10, .bin .eql (.t 9) (.k (.d (.int .i64 0))), none⟩,
  ⟨some 11, .mov (.t 10), none⟩,
  ⟨some 12, .faddr 7 (.t 1), some (11, true)⟩,
  ⟨some 13, .load none (.t 12), some (11, true)⟩,
  ⟨some 14, .len (.t 13), some (11, true)⟩,
  ⟨some 15, .bin .eql (.t 14) (.k (.d (.int .i64 0))), some (11, true)⟩,
  ⟨some 16, .pick (.t 11) (.t 15) (.k (.d (.bool false))), none⟩,
  ⟨some 17, .mov (.t 16), none⟩,
  ⟨some 18, .faddr 8 (.t 1), some (17, true)⟩,
  ⟨some 19, .load none (.t 18), some (17, true)⟩,
  ⟨some 20, .len (.t 19), some (17, true)⟩,
  ⟨some 21, .bin .eql (.t 20) (.k (.d (.int .i64 0))), some (17, true)⟩,
  ⟨some 22, .pick (.t 17) (.t 21) (.k (.d (.bool false))), none⟩,
  ⟨some 3, .mov (.t 22), none⟩]
noncomputable def s75r4 : List SOper := [
  ⟨some 23, .faddr 0 (.t 1), none⟩,
  ⟨some 24, .load none (.t 23), none⟩]
noncomputable def s75r5 : List SOper := [
  ⟨some 26, .bin .eql (.t 24) (.k (.d (.int .i64 1))), none⟩,
  ⟨some 25, .mov (.t 26), none⟩]
noncomputable def s75r6 : List SOper := [
  ⟨some 27, .faddr 2 (.t 1), none⟩,
  ⟨some 28, .load none (.t 27), none⟩,
  ⟨some 29, .call (.k (.d (.func (.func 99) [] []))) [(.t 28), (.k (.d (.int .i64 0))), (.k (.d (.int .i64 1)))], none⟩,
  ⟨some 30, .mov (.t 29), none⟩,
  ⟨some 31, .load (some 9) (.t 1), some (30, true)⟩,
  ⟨some 32, .call (.k (.d (.func (.func 100) [] []))) [(.t 31)], some (30, true)⟩,
  ⟨some 33, .pick (.t 30) (.t 32) (.k (.d (.bool false))), none⟩,
  ⟨some 34, .mov (.t 33), none⟩,
  ⟨some 35, .faddr 5 (.t 1), some (34, true)⟩,
  ⟨some 36, .load none (.t 35), some (34, true)⟩,
  ⟨some 37, .call (.k (.d (.func (.func 99) [] []))) [(.t 36), (.k (.d (.int .i64 1))), (.k (.d (.int .i64 1099511627776)))], some (34, true)⟩,
  ⟨some 38, .pick (.t 34) (.t 37) (.k (.d (.bool false))), none⟩,
  ⟨some 39, .mov (.t 38), none⟩,
  ⟨some 40, .faddr 6 (.t 1), some (39, true)⟩,
  ⟨some 41, .load none (.t 40), some (39, true)⟩,
  ⟨some 42, .call (.k (.d (.func (.func 99) [] []))) [(.t 41), (.k (.d (.int .i64 0))), (.k (.d (.int .i64 39)))], some (39, true)⟩,
  ⟨some 43, .pick (.t 39) (.t 42) (.k (.d (.bool false))), none⟩,
  ⟨some 44, .mov (.t 43), none⟩,
  ⟨some 45, .load (some 9) (.t 1), some (44, true)⟩,
  ⟨some 46, .call (.k (.d (.func (.func 101) [] []))) [(.t 45)], some (44, true)⟩,
  ⟨some 47, .pick (.t 44) (.t 46) (.k (.d (.bool false))), none⟩,
  ⟨some 2, .mov (.t 47), none⟩]
noncomputable def s75r7 : List SOper := [
  ⟨some 49, .bin .eql (.t 24) (.k (.d (.int .i64 2))), none⟩,
  ⟨some 48, .mov (.t 49), none⟩]
noncomputable def s75r8 : List SOper := [
  ⟨some 50, .load (some 9) (.t 1), none⟩,
  ⟨some 51, .call (.k (.d (.func (.func 100) [] []))) [(.t 50)], none⟩,
  ⟨some 52, .mov (.t 51), none⟩,
  ⟨some 53, .faddr 5 (.t 1), some (52, true)⟩,
  ⟨some 54, .load none (.t 53), some (52, true)⟩,
  ⟨some 55, .call (.k (.d (.func (.func 99) [] []))) [(.t 54), (.k (.d (.int .i64 1))), (.k (.d (.int .i64 1099511627776)))], some (52, true)⟩,
  ⟨some 56, .pick (.t 52) (.t 55) (.k (.d (.bool false))), none⟩,
  ⟨some 57, .mov (.t 56), none⟩,
  ⟨some 58, .faddr 6 (.t 1), some (57, true)⟩,
  ⟨some 59, .load none (.t 58), some (57, true)⟩,
  ⟨some 60, .bin .eql (.t 59) (.k (.d (.int .i64 0))), some (57, true)⟩,
  ⟨some 61, .pick (.t 57) (.t 60) (.k (.d (.bool false))), none⟩,
  ⟨some 62, .mov (.t 61), none⟩,
  ⟨some 63, .mov (.t 3), some (62, true)⟩,
  ⟨some 64, .pick (.t 62) (.t 63) (.k (.d (.bool false))), none⟩,
  ⟨some 2, .mov (.t 64), none⟩]
noncomputable def s75r9 : List SOper := [
  ⟨some 66, .bin .eql (.t 24) (.k (.d (.int .i64 3))), none⟩,
  ⟨some 65, .mov (.t 66), none⟩]
noncomputable def s75r10 : List SOper := [
  ⟨some 67, .bin .eql (.t 24) (.k (.d (.int .i64 4))), none⟩,
  ⟨some 65, .mov (.t 67), none⟩]
noncomputable def s75r11 : List SOper := [
  ⟨some 68, .faddr 3 (.t 1), none⟩,
  ⟨some 69, .load none (.t 68), none⟩,
  ⟨some 70, .call (.k (.d (.func (.func 99) [] []))) [(.t 69), (.k (.d (.int .i64 0))), (.k (.d (.int .i64 5)))], none⟩,
  ⟨some 71, .mov (.t 70), none⟩,
  ⟨some 72, .faddr 4 (.t 1), some (71, true)⟩,
  ⟨some 73, .load none (.t 72), some (71, true)⟩,
  ⟨some 74, .bin .eql (.t 73) (.k (.d (.int .i64 0))), some (71, true)⟩,
  ⟨some 75, .pick (.t 71) (.t 74) (.k (.d (.bool false))), none⟩,
  ⟨some 76, .mov (.t 75), none⟩,
  ⟨some 77, .faddr 5 (.t 1), some (76, true)⟩,
  ⟨some 78, .load none (.t 77), some (76, true)⟩,
  ⟨some 79, .bin .eql (.t 78) (.k (.d (.int .i64 0))), some (76, true)⟩,
  ⟨some 80, .pick (.t 76) (.t 79) (.k (.d (.bool false))), none⟩,
  ⟨some 81, .mov (.t 80), none⟩,
  ⟨some 82, .faddr 6 (.t 1), some (81, true)⟩,
  ⟨some 83, .load none (.t 82), some (81, true)⟩,
  ⟨some 84, .call (.k (.d (.func (.func 99) [] []))) [(.t 83), (.k (.d (.int .i64 1))), (.k (.d (.int .i64 2)))], some (81, true)⟩,
  ⟨some 85, .pick (.t 81) (.t 84) (.k (.d (.bool false))), none⟩,
  ⟨some 86, .mov (.t 85), none⟩,
  ⟨some 87, .mov (.t 3), some (86, true)⟩,
  ⟨some 88, .pick (.t 86) (.t 87) (.k (.d (.bool false))), none⟩,
  ⟨some 2, .mov (.t 88), none⟩]
noncomputable def s75r12 : List SOper := [
  ⟨some 2, .mov (.k (.d (.bool false))), none⟩]
noncomputable def s75 : SCode := (.seq (.region s75r0 1 []) (.seq (.seq (.region s75r1 0 []) (.cond (.t 7) (.seq (.region s75r2 0 []) .ret) .skip)) (.seq (.region s75r3 0 []) (.seq (.seq (.region s75r4 0 []) (.block 0 (.seq (.region s75r5 0 []) (.cond (.t 25) (.seq (.region s75r6 0 []) .ret) (.seq (.region s75r7 0 []) (.cond (.t 48) (.seq (.region s75r8 0 []) .ret) (.seq (.seq (.region s75r9 0 []) (.cond (.t 65) .skip (.region s75r10 0 []))) (.cond (.t 65) (.seq (.region s75r11 0 []) .ret) .skip)))))))) (.seq (.region s75r12 0 []) .ret)))))
theorem e75 : AWp P k0 s75 Q st = AWp P k0 (.seq (.region s75r0 1 []) (.seq (.seq (.region s75r1 0 []) (.cond (.t 7) (.seq (.region s75r2 0 []) .ret) .skip)) (.seq (.region s75r3 0 []) (.seq (.seq (.region s75r4 0 []) (.block 0 (.seq (.region s75r5 0 []) (.cond (.t 25) (.seq (.region s75r6 0 []) .ret) (.seq (.region s75r7 0 []) (.cond (.t 48) (.seq (.region s75r8 0 []) .ret) (.seq (.seq (.region s75r9 0 []) (.cond (.t 65) .skip (.region s75r10 0 []))) (.cond (.t 65) (.seq (.region s75r11 0 []) .ret) .skip)))))))) (.seq (.region s75r12 0 []) .ret))))) Q st := rfl
theorem u75r0 : goReg P s75r0 o p Q st = goLit P (litOf s75r0.eq_1) o p Q st := goReg_of _
theorem u75r1 : goReg P s75r1 o p Q st = goLit P (litOf s75r1.eq_1) o p Q st := goReg_of _
theorem u75r2 : goReg P s75r2 o p Q st = goLit P (litOf s75r2.eq_1) o p Q st := goReg_of _
theorem u75r3 : goReg P s75r3 o p Q st = goLit P (litOf s75r3.eq_1) o p Q st := goReg_of _
theorem u75r4 : goReg P s75r4 o p Q st = goLit P (litOf s75r4.eq_1) o p Q st := goReg_of _
theorem u75r5 : goReg P s75r5 o p Q st = goLit P (litOf s75r5.eq_1) o p Q st := goReg_of _
theorem u75r6 : goReg P s75r6 o p Q st = goLit P (litOf s75r6.eq_1) o p Q st := goReg_of _
theorem u75r7 : goReg P s75r7 o p Q st = goLit P (litOf s75r7.eq_1) o p Q st := goReg_of _
theorem u75r8 : goReg P s75r8 o p Q st = goLit P (litOf s75r8.eq_1) o p Q st := goReg_of _
theorem u75r9 : goReg P s75r9 o p Q st = goLit P (litOf s75r9.eq_1) o p Q st := goReg_of _
theorem u75r10 : goReg P s75r10 o p Q st = goLit P (litOf s75r10.eq_1) o p Q st := goReg_of _
theorem u75r11 : goReg P s75r11 o p Q st = goLit P (litOf s75r11.eq_1) o p Q st := goReg_of _
theorem u75r12 : goReg P s75r12 o p Q st = goLit P (litOf s75r12.eq_1) o p Q st := goReg_of _
attribute [go_sem] u75r0 u75r1 u75r2 u75r3 u75r4 u75r5 u75r6 u75r7 u75r8 u75r9 u75r10 u75r11 u75r12 e75
set_option maxRecDepth 100000 in
theorem F75 : FnIs Try.prog 75 Try.f75 [] news s75 [.tmp 2] 89 := ⟨follows, Try.func75, by kernel_rfl, by kernel_rfl, by kernel_rfl, by kernel_rfl⟩

end

def in46 (n lo hi : Int) : Bool := decide (n ≥ lo) && decide (n ≤ hi)
theorem in46_ok (n lo hi : Int) : ACall Try.prog 99 [.d (.int .i64 n), .d (.int .i64 lo), .d (.int .i64 hi)] [] (.d (.bool (in46 n lo hi))) [] := by
  first | refine F99.go ?_ | refine F99.goT ?_
  simp only [go_sem, Nat.reduceAdd, Nat.reduceMul, Nat.reduceSub, Nat.reduceEqDiff, Nat.reduceLT, Nat.reduceLeDiff, Nat.reduceBEq, reduceIte, reduceCtorEq, Int.reduceAdd, Int.reduceLT, Int.reduceLE, Int.reduceGT, Int.reduceGE, Int.reduceEq, Int.reduceNe, Int.reduceBEq, Int.reduceBNe, Int.reduceToNat, Int.reduceNeg]
  rfl

def pair46 (p : Pk) : Bool := in46 p.from_ 0 5 && in46 p.to 0 5 && p.from_ != p.to
theorem pair46_ok (p : Pk) : ACall Try.prog 100 [.d (.agg (encPk p))] [] (.d (.bool (pair46 p))) [] := by
  first | refine F100.go ?_ | refine F100.goT ?_
  simp only [encPk, go_sem, Nat.reduceAdd, Nat.reduceMul, Nat.reduceSub, Nat.reduceEqDiff, Nat.reduceLT, Nat.reduceLeDiff, Nat.reduceBEq, reduceIte, reduceCtorEq, Int.reduceAdd, Int.reduceLT, Int.reduceLE, Int.reduceGT, Int.reduceGE, Int.reduceEq, Int.reduceNe, Int.reduceBEq, Int.reduceBNe, Int.reduceToNat, Int.reduceNeg]
  (repeat (with_reducible refine ob ?_)); first | refine cl F99 (in46_ok _ _ _) ?_ | refine clF F99 (in46_ok _ _ _) (fun _ => by simp only [encPk, encAV, encI, go_sem, Nat.reduceAdd, Nat.reduceMul, Nat.reduceSub, Nat.reduceEqDiff, Nat.reduceLT, Nat.reduceLeDiff, Nat.reduceBEq, reduceIte, reduceCtorEq, Int.reduceAdd, Int.reduceLT, Int.reduceLE, Int.reduceGT, Int.reduceGE, Int.reduceEq, Int.reduceNe, Int.reduceBEq, Int.reduceBNe, Int.reduceToNat, Int.reduceNeg]) ?_
  try (refine ev ?_; try exact True.intro)
  (repeat (with_reducible refine ob ?_)); first | refine cl F99 (in46_ok _ _ _) ?_ | refine clF F99 (in46_ok _ _ _) (fun _ => by simp only [encPk, encAV, encI, go_sem, Nat.reduceAdd, Nat.reduceMul, Nat.reduceSub, Nat.reduceEqDiff, Nat.reduceLT, Nat.reduceLeDiff, Nat.reduceBEq, reduceIte, reduceCtorEq, Int.reduceAdd, Int.reduceLT, Int.reduceLE, Int.reduceGT, Int.reduceGE, Int.reduceEq, Int.reduceNe, Int.reduceBEq, Int.reduceBNe, Int.reduceToNat, Int.reduceNeg]) ?_
  try (refine ev ?_; try exact True.intro)
  rfl

def proper46 (v : AV) : Bool := v.kind == 1 && v.s == [] || v.kind == 2 && v.n == 0
theorem proper46_ok (v : AV) : ACall Try.prog 119 [.d (.agg (encAV v))] [] (.d (.bool (proper46 v))) [] := by
  first | refine F119.go ?_ | refine F119.goT ?_
  simp only [encAV, go_sem, Nat.reduceAdd, Nat.reduceMul, Nat.reduceSub, Nat.reduceEqDiff, Nat.reduceLT, Nat.reduceLeDiff, Nat.reduceBEq, reduceIte, reduceCtorEq, Int.reduceAdd, Int.reduceLT, Int.reduceLE, Int.reduceGT, Int.reduceGE, Int.reduceEq, Int.reduceNe, Int.reduceBEq, Int.reduceBNe, Int.reduceToNat, Int.reduceNeg]
  (repeat (with_reducible refine ob ?_))
  rfl

def val46 (v : AV) : Bool := !(!proper46 v || decide ((v.s.length : Int) > 40))
def clk46 (n : Int) : Bool := in46 n 0 1099511627776
def content46 (p : Pk) : Bool := !(decide ((p.values.length : Int) > 4) || decide ((p.clock.length : Int) > 6)) && p.values.all val46 && p.clock.all clk46

def pkObj (p : Pk) : AObj := .row [.d (.int .i64 p.kind), .d (.int .i64 p.sess), .d (.int .i64 p.epoch), .d (.int .i64 p.from_), .d (.int .i64 p.to), .d (.int .i64 p.seq), .d (.int .i64 p.label), .d (.sl 3 (p.values.map encAV)), .d (.sl 1 (p.clock.map encI))]
def Scont1 (p : Pk) (i : { i : Nat // (p.values.take i).all val46 = true }) : St := ⟨[(1, true, .d (.ptr 0 0)), (3, true, .d (.int .i64 (i.val : Nat)))], [pkObj p], [], 1⟩
def Scont2 (p : Pk) (i : { i : Nat // (p.clock.take i).all clk46 = true }) : St := ⟨[(1, true, .d (.ptr 0 0)), (4, true, .d (.int .i64 (i.val : Nat)))], [pkObj p], [], 1⟩

theorem content46_ok (p : Pk) (hp : p.Sm) : ACall Try.prog 101 [.d (.agg (encPk p))] [] (.d (.bool (content46 p))) [] := by
  obtain ⟨hp1, hp2⟩ := hp
  first | refine F101.go ?_ | refine F101.goT ?_
  simp only [encPk, go_sem, Nat.reduceAdd, Nat.reduceMul, Nat.reduceSub, Nat.reduceEqDiff, Nat.reduceLT, Nat.reduceLeDiff, Nat.reduceBEq, reduceIte, reduceCtorEq, Int.reduceAdd, Int.reduceLT, Int.reduceLE, Int.reduceGT, Int.reduceGE, Int.reduceEq, Int.reduceNe, Int.reduceBEq, Int.reduceBNe, Int.reduceToNat, Int.reduceNeg]
  (repeat (with_reducible refine ob ?_))
  refine AWp_cond _ rfl rfl (fun h0 => ?_) (fun h0 => ?_)
  · simp only [content46, h0, go_sem, Nat.reduceAdd, Nat.reduceMul, Nat.reduceSub, Nat.reduceEqDiff, Nat.reduceLT, Nat.reduceLeDiff, Nat.reduceBEq, reduceIte, reduceCtorEq, Int.reduceAdd, Int.reduceLT, Int.reduceLE, Int.reduceGT, Int.reduceGE, Int.reduceEq, Int.reduceNe, Int.reduceBEq, Int.reduceBNe, Int.reduceToNat, Int.reduceNeg]
  try (refine ev ?_; try exact True.intro)
  refine AWp_loop (Scont1 p) (fun i => p.values.length - i.val) ⟨0, rfl⟩ ?_ (fun i => ?_)
  · try simp only [Scont1, pkObj, go_sem, Nat.reduceAdd, Nat.reduceMul, Nat.reduceSub, Nat.reduceEqDiff, Nat.reduceLT, Nat.reduceLeDiff, Nat.reduceBEq, reduceIte, reduceCtorEq, Int.reduceAdd, Int.reduceLT, Int.reduceLE, Int.reduceGT, Int.reduceGE, Int.reduceEq, Int.reduceNe, Int.reduceBEq, Int.reduceBNe, Int.reduceToNat, Int.reduceNeg]
  obtain ⟨i, hi⟩ := i
  try simp only [Scont1, pkObj, go_sem, Nat.reduceAdd, Nat.reduceMul, Nat.reduceSub, Nat.reduceEqDiff, Nat.reduceLT, Nat.reduceLeDiff, Nat.reduceBEq, reduceIte, reduceCtorEq, Int.reduceAdd, Int.reduceLT, Int.reduceLE, Int.reduceGT, Int.reduceGE, Int.reduceEq, Int.reduceNe, Int.reduceBEq, Int.reduceBNe, Int.reduceToNat, Int.reduceNeg]
  refine AWp_cond _ rfl rfl (fun h => ?_) (fun h => ?_)
  · have hil : i < p.values.length := by simpa using h
    simp only [getD_map encAV p.values hil, encAV, go_sem, Nat.reduceAdd, Nat.reduceMul, Nat.reduceSub, Nat.reduceEqDiff, Nat.reduceLT, Nat.reduceLeDiff, Nat.reduceBEq, reduceIte, reduceCtorEq, Int.reduceAdd, Int.reduceLT, Int.reduceLE, Int.reduceGT, Int.reduceGE, Int.reduceEq, Int.reduceNe, Int.reduceBEq, Int.reduceBNe, Int.reduceToNat, Int.reduceNeg]
    (repeat (with_reducible refine ob ?_))
    (repeat (with_reducible refine ob ?_)); first | refine cl F119 (proper46_ok p.values[i]) ?_ | refine clF F119 (proper46_ok p.values[i]) (fun _ => by simp only [encPk, encAV, encI, go_sem, Nat.reduceAdd, Nat.reduceMul, Nat.reduceSub, Nat.reduceEqDiff, Nat.reduceLT, Nat.reduceLeDiff, Nat.reduceBEq, reduceIte, reduceCtorEq, Int.reduceAdd, Int.reduceLT, Int.reduceLE, Int.reduceGT, Int.reduceGE, Int.reduceEq, Int.reduceNe, Int.reduceBEq, Int.reduceBNe, Int.reduceToNat, Int.reduceNeg]) ?_
    try simp only [getD_map encAV p.values hil, encAV, go_sem, Nat.reduceAdd, Nat.reduceMul, Nat.reduceSub, Nat.reduceEqDiff, Nat.reduceLT, Nat.reduceLeDiff, Nat.reduceBEq, reduceIte, reduceCtorEq, Int.reduceAdd, Int.reduceLT, Int.reduceLE, Int.reduceGT, Int.reduceGE, Int.reduceEq, Int.reduceNe, Int.reduceBEq, Int.reduceBNe, Int.reduceToNat, Int.reduceNeg]
    (repeat (with_reducible refine ob ?_))
    refine AWp_cond _ rfl rfl (fun h2 => ?_) (fun h2 => ?_)
    · have hg : val46 p.values[i] = false := by simp only [val46, h2]; rfl
      simp only [content46, all_no hil hg, go_sem, Nat.reduceAdd, Nat.reduceMul, Nat.reduceSub, Nat.reduceEqDiff, Nat.reduceLT, Nat.reduceLeDiff, Nat.reduceBEq, reduceIte, reduceCtorEq, Int.reduceAdd, Int.reduceLT, Int.reduceLE, Int.reduceGT, Int.reduceGE, Int.reduceEq, Int.reduceNe, Int.reduceBEq, Int.reduceBNe, Int.reduceToNat, Int.reduceNeg]
    · have hg : val46 p.values[i] = true := by simp only [val46, h2]; rfl
      try (refine ev ?_; try exact True.intro)
      refine ⟨⟨i + 1, take_all_succ hi hil hg⟩, ?_, by dsimp only; omega⟩
      simp only [Scont1, pkObj, wrap_succ (show i < 9223372036854775807 by omega), go_sem, Nat.reduceAdd, Nat.reduceMul, Nat.reduceSub, Nat.reduceEqDiff, Nat.reduceLT, Nat.reduceLeDiff, Nat.reduceBEq, reduceIte, reduceCtorEq, Int.reduceAdd, Int.reduceLT, Int.reduceLE, Int.reduceGT, Int.reduceGE, Int.reduceEq, Int.reduceNe, Int.reduceBEq, Int.reduceBNe, Int.reduceToNat, Int.reduceNeg]
  · have hall : p.values.all val46 = true := all_done hi (by simpa using h)
    try (refine ev ?_; try exact True.intro)
    refine AWp_loop (Scont2 p) (fun i => p.clock.length - i.val) ⟨0, rfl⟩ ?_ (fun i => ?_)
    · try simp only [Scont2, pkObj, go_sem, Nat.reduceAdd, Nat.reduceMul, Nat.reduceSub, Nat.reduceEqDiff, Nat.reduceLT, Nat.reduceLeDiff, Nat.reduceBEq, reduceIte, reduceCtorEq, Int.reduceAdd, Int.reduceLT, Int.reduceLE, Int.reduceGT, Int.reduceGE, Int.reduceEq, Int.reduceNe, Int.reduceBEq, Int.reduceBNe, Int.reduceToNat, Int.reduceNeg]
    obtain ⟨i, hi⟩ := i
    try simp only [Scont2, pkObj, go_sem, Nat.reduceAdd, Nat.reduceMul, Nat.reduceSub, Nat.reduceEqDiff, Nat.reduceLT, Nat.reduceLeDiff, Nat.reduceBEq, reduceIte, reduceCtorEq, Int.reduceAdd, Int.reduceLT, Int.reduceLE, Int.reduceGT, Int.reduceGE, Int.reduceEq, Int.reduceNe, Int.reduceBEq, Int.reduceBNe, Int.reduceToNat, Int.reduceNeg]
    refine AWp_cond _ rfl rfl (fun h => ?_) (fun h => ?_)
    · have hil : i < p.clock.length := by simpa using h
      simp only [getD_map encI p.clock hil, encI, go_sem, Nat.reduceAdd, Nat.reduceMul, Nat.reduceSub, Nat.reduceEqDiff, Nat.reduceLT, Nat.reduceLeDiff, Nat.reduceBEq, reduceIte, reduceCtorEq, Int.reduceAdd, Int.reduceLT, Int.reduceLE, Int.reduceGT, Int.reduceGE, Int.reduceEq, Int.reduceNe, Int.reduceBEq, Int.reduceBNe, Int.reduceToNat, Int.reduceNeg]
      (repeat (with_reducible refine ob ?_))
      (repeat (with_reducible refine ob ?_)); first | refine cl F99 (in46_ok p.clock[i] _ _) ?_ | refine clF F99 (in46_ok p.clock[i] _ _) (fun _ => by simp only [encPk, encAV, encI, go_sem, Nat.reduceAdd, Nat.reduceMul, Nat.reduceSub, Nat.reduceEqDiff, Nat.reduceLT, Nat.reduceLeDiff, Nat.reduceBEq, reduceIte, reduceCtorEq, Int.reduceAdd, Int.reduceLT, Int.reduceLE, Int.reduceGT, Int.reduceGE, Int.reduceEq, Int.reduceNe, Int.reduceBEq, Int.reduceBNe, Int.reduceToNat, Int.reduceNeg]) ?_
      try (refine ev ?_; try exact True.intro)
      refine AWp_cond _ rfl rfl (fun h2 => ?_) (fun h2 => ?_)
      · have hg : clk46 p.clock[i] = false := by simpa [clk46] using h2
        simp only [content46, all_no hil hg, go_sem, Nat.reduceAdd, Nat.reduceMul, Nat.reduceSub, Nat.reduceEqDiff, Nat.reduceLT, Nat.reduceLeDiff, Nat.reduceBEq, reduceIte, reduceCtorEq, Int.reduceAdd, Int.reduceLT, Int.reduceLE, Int.reduceGT, Int.reduceGE, Int.reduceEq, Int.reduceNe, Int.reduceBEq, Int.reduceBNe, Int.reduceToNat, Int.reduceNeg]
      · have hg : clk46 p.clock[i] = true := by simpa [clk46] using h2
        try (refine ev ?_; try exact True.intro)
        refine ⟨⟨i + 1, take_all_succ hi hil hg⟩, ?_, by dsimp only; omega⟩
        simp only [Scont2, pkObj, wrap_succ (show i < 9223372036854775807 by omega), go_sem, Nat.reduceAdd, Nat.reduceMul, Nat.reduceSub, Nat.reduceEqDiff, Nat.reduceLT, Nat.reduceLeDiff, Nat.reduceBEq, reduceIte, reduceCtorEq, Int.reduceAdd, Int.reduceLT, Int.reduceLE, Int.reduceGT, Int.reduceGE, Int.reduceEq, Int.reduceNe, Int.reduceBEq, Int.reduceBNe, Int.reduceToNat, Int.reduceNeg]
    · have hall2 := all_done hi (by simpa using h)
      simp only [content46, h0, hall, hall2, go_sem, Nat.reduceAdd, Nat.reduceMul, Nat.reduceSub, Nat.reduceEqDiff, Nat.reduceLT, Nat.reduceLeDiff, Nat.reduceBEq, reduceIte, reduceCtorEq, Int.reduceAdd, Int.reduceLT, Int.reduceLE, Int.reduceGT, Int.reduceGE, Int.reduceEq, Int.reduceNe, Int.reduceBEq, Int.reduceBNe, Int.reduceToNat, Int.reduceNeg]

def empty46 (p : Pk) : Bool := p.epoch == 0 && (p.values.length : Int) == 0 && (p.clock.length : Int) == 0
def valid46 (p : Pk) : Bool :=
  if !in46 p.sess 1 32 then false
  else if p.kind == 1 then in46 p.epoch 0 1 && pair46 p && in46 p.seq 1 1099511627776 && in46 p.label 0 39 && content46 p
  else if p.kind == 2 then pair46 p && in46 p.seq 1 1099511627776 && p.label == 0 && empty46 p
  else if p.kind == 3 || p.kind == 4 then in46 p.from_ 0 5 && p.to == 0 && p.seq == 0 && in46 p.label 1 2 && empty46 p
  else false

set_option maxRecDepth 10000 in
theorem valid46_ok (p : Pk) (hp : p.Sm) : ACall Try.prog 75 [.d (.agg (encPk p))] [] (.d (.bool (valid46 p))) [] := by
  first | refine F75.go ?_ | refine F75.goT ?_
  simp only [encPk, go_sem, Nat.reduceAdd, Nat.reduceMul, Nat.reduceSub, Nat.reduceEqDiff, Nat.reduceLT, Nat.reduceLeDiff, Nat.reduceBEq, reduceIte, reduceCtorEq, Int.reduceAdd, Int.reduceLT, Int.reduceLE, Int.reduceGT, Int.reduceGE, Int.reduceEq, Int.reduceNe, Int.reduceBEq, Int.reduceBNe, Int.reduceToNat, Int.reduceNeg]
  (repeat (with_reducible refine ob ?_)); first | refine cl F99 (in46_ok _ _ _) ?_ | refine clF F99 (in46_ok _ _ _) (fun _ => by simp only [encPk, encAV, encI, go_sem, Nat.reduceAdd, Nat.reduceMul, Nat.reduceSub, Nat.reduceEqDiff, Nat.reduceLT, Nat.reduceLeDiff, Nat.reduceBEq, reduceIte, reduceCtorEq, Int.reduceAdd, Int.reduceLT, Int.reduceLE, Int.reduceGT, Int.reduceGE, Int.reduceEq, Int.reduceNe, Int.reduceBEq, Int.reduceBNe, Int.reduceToNat, Int.reduceNeg]) ?_
  try (refine ev ?_; try exact True.intro)
  have he : (p.epoch == 0 && (p.values.length : Int) == 0 && (p.clock.length : Int) == 0) = empty46 p := rfl
  refine AWp_cond _ rfl rfl (fun h0 => ?_) (fun h0 => ?_)
  · simp only [valid46, h0, go_sem, Nat.reduceAdd, Nat.reduceMul, Nat.reduceSub, Nat.reduceEqDiff, Nat.reduceLT, Nat.reduceLeDiff, Nat.reduceBEq, reduceIte, reduceCtorEq, Int.reduceAdd, Int.reduceLT, Int.reduceLE, Int.reduceGT, Int.reduceGE, Int.reduceEq, Int.reduceNe, Int.reduceBEq, Int.reduceBNe, Int.reduceToNat, Int.reduceNeg]
  try simp only [he, go_sem, Nat.reduceAdd, Nat.reduceMul, Nat.reduceSub, Nat.reduceEqDiff, Nat.reduceLT, Nat.reduceLeDiff, Nat.reduceBEq, reduceIte, reduceCtorEq, Int.reduceAdd, Int.reduceLT, Int.reduceLE, Int.reduceGT, Int.reduceGE, Int.reduceEq, Int.reduceNe, Int.reduceBEq, Int.reduceBNe, Int.reduceToNat, Int.reduceNeg]
  refine AWp_cond _ rfl rfl (fun h1 => ?_) (fun h1 => ?_)
  · try (refine ev ?_; try exact True.intro)
    (repeat (with_reducible refine ob ?_)); first | refine cl F99 (in46_ok _ _ _) ?_ | refine clF F99 (in46_ok _ _ _) (fun _ => by simp only [encPk, encAV, encI, go_sem, Nat.reduceAdd, Nat.reduceMul, Nat.reduceSub, Nat.reduceEqDiff, Nat.reduceLT, Nat.reduceLeDiff, Nat.reduceBEq, reduceIte, reduceCtorEq, Int.reduceAdd, Int.reduceLT, Int.reduceLE, Int.reduceGT, Int.reduceGE, Int.reduceEq, Int.reduceNe, Int.reduceBEq, Int.reduceBNe, Int.reduceToNat, Int.reduceNeg]) ?_
    try (refine ev ?_; try exact True.intro)
    (repeat (with_reducible refine ob ?_)); first | refine cl F100 (pair46_ok p) ?_ | refine clF F100 (pair46_ok p) (fun _ => by simp only [encPk, encAV, encI, go_sem, Nat.reduceAdd, Nat.reduceMul, Nat.reduceSub, Nat.reduceEqDiff, Nat.reduceLT, Nat.reduceLeDiff, Nat.reduceBEq, reduceIte, reduceCtorEq, Int.reduceAdd, Int.reduceLT, Int.reduceLE, Int.reduceGT, Int.reduceGE, Int.reduceEq, Int.reduceNe, Int.reduceBEq, Int.reduceBNe, Int.reduceToNat, Int.reduceNeg]) ?_
    try (refine ev ?_; try exact True.intro)
    (repeat (with_reducible refine ob ?_)); first | refine cl F99 (in46_ok _ _ _) ?_ | refine clF F99 (in46_ok _ _ _) (fun _ => by simp only [encPk, encAV, encI, go_sem, Nat.reduceAdd, Nat.reduceMul, Nat.reduceSub, Nat.reduceEqDiff, Nat.reduceLT, Nat.reduceLeDiff, Nat.reduceBEq, reduceIte, reduceCtorEq, Int.reduceAdd, Int.reduceLT, Int.reduceLE, Int.reduceGT, Int.reduceGE, Int.reduceEq, Int.reduceNe, Int.reduceBEq, Int.reduceBNe, Int.reduceToNat, Int.reduceNeg]) ?_
    try (refine ev ?_; try exact True.intro)
    (repeat (with_reducible refine ob ?_)); first | refine cl F99 (in46_ok _ _ _) ?_ | refine clF F99 (in46_ok _ _ _) (fun _ => by simp only [encPk, encAV, encI, go_sem, Nat.reduceAdd, Nat.reduceMul, Nat.reduceSub, Nat.reduceEqDiff, Nat.reduceLT, Nat.reduceLeDiff, Nat.reduceBEq, reduceIte, reduceCtorEq, Int.reduceAdd, Int.reduceLT, Int.reduceLE, Int.reduceGT, Int.reduceGE, Int.reduceEq, Int.reduceNe, Int.reduceBEq, Int.reduceBNe, Int.reduceToNat, Int.reduceNeg]) ?_
    try (refine ev ?_; try exact True.intro)
    (repeat (with_reducible refine ob ?_)); first | refine cl F101 (content46_ok p hp) ?_ | refine clF F101 (content46_ok p hp) (fun _ => by simp only [encPk, encAV, encI, go_sem, Nat.reduceAdd, Nat.reduceMul, Nat.reduceSub, Nat.reduceEqDiff, Nat.reduceLT, Nat.reduceLeDiff, Nat.reduceBEq, reduceIte, reduceCtorEq, Int.reduceAdd, Int.reduceLT, Int.reduceLE, Int.reduceGT, Int.reduceGE, Int.reduceEq, Int.reduceNe, Int.reduceBEq, Int.reduceBNe, Int.reduceToNat, Int.reduceNeg]) ?_
    simp only [valid46, h0, h1, go_sem, Nat.reduceAdd, Nat.reduceMul, Nat.reduceSub, Nat.reduceEqDiff, Nat.reduceLT, Nat.reduceLeDiff, Nat.reduceBEq, reduceIte, reduceCtorEq, Int.reduceAdd, Int.reduceLT, Int.reduceLE, Int.reduceGT, Int.reduceGE, Int.reduceEq, Int.reduceNe, Int.reduceBEq, Int.reduceBNe, Int.reduceToNat, Int.reduceNeg]
  try (refine ev ?_; try exact True.intro)
  refine AWp_cond _ rfl rfl (fun h2 => ?_) (fun h2 => ?_)
  · try (refine ev ?_; try exact True.intro)
    (repeat (with_reducible refine ob ?_)); first | refine cl F100 (pair46_ok p) ?_ | refine clF F100 (pair46_ok p) (fun _ => by simp only [encPk, encAV, encI, go_sem, Nat.reduceAdd, Nat.reduceMul, Nat.reduceSub, Nat.reduceEqDiff, Nat.reduceLT, Nat.reduceLeDiff, Nat.reduceBEq, reduceIte, reduceCtorEq, Int.reduceAdd, Int.reduceLT, Int.reduceLE, Int.reduceGT, Int.reduceGE, Int.reduceEq, Int.reduceNe, Int.reduceBEq, Int.reduceBNe, Int.reduceToNat, Int.reduceNeg]) ?_
    try (refine ev ?_; try exact True.intro)
    (repeat (with_reducible refine ob ?_)); first | refine cl F99 (in46_ok _ _ _) ?_ | refine clF F99 (in46_ok _ _ _) (fun _ => by simp only [encPk, encAV, encI, go_sem, Nat.reduceAdd, Nat.reduceMul, Nat.reduceSub, Nat.reduceEqDiff, Nat.reduceLT, Nat.reduceLeDiff, Nat.reduceBEq, reduceIte, reduceCtorEq, Int.reduceAdd, Int.reduceLT, Int.reduceLE, Int.reduceGT, Int.reduceGE, Int.reduceEq, Int.reduceNe, Int.reduceBEq, Int.reduceBNe, Int.reduceToNat, Int.reduceNeg]) ?_
    simp only [valid46, h0, h1, h2, go_sem, Nat.reduceAdd, Nat.reduceMul, Nat.reduceSub, Nat.reduceEqDiff, Nat.reduceLT, Nat.reduceLeDiff, Nat.reduceBEq, reduceIte, reduceCtorEq, Int.reduceAdd, Int.reduceLT, Int.reduceLE, Int.reduceGT, Int.reduceGE, Int.reduceEq, Int.reduceNe, Int.reduceBEq, Int.reduceBNe, Int.reduceToNat, Int.reduceNeg]
  try (refine ev ?_; try exact True.intro)
  refine AWp_cond _ rfl rfl (fun h3 => ?_) (fun h3 => ?_)
  · try (refine ev ?_; try exact True.intro)
    refine AWp_cond _ rfl rfl (fun _ => ?_) (fun hx => Bool.noConfusion (h3.symm.trans hx))
    try (refine ev ?_; try exact True.intro)
    (repeat (with_reducible refine ob ?_)); first | refine cl F99 (in46_ok _ _ _) ?_ | refine clF F99 (in46_ok _ _ _) (fun _ => by simp only [encPk, encAV, encI, go_sem, Nat.reduceAdd, Nat.reduceMul, Nat.reduceSub, Nat.reduceEqDiff, Nat.reduceLT, Nat.reduceLeDiff, Nat.reduceBEq, reduceIte, reduceCtorEq, Int.reduceAdd, Int.reduceLT, Int.reduceLE, Int.reduceGT, Int.reduceGE, Int.reduceEq, Int.reduceNe, Int.reduceBEq, Int.reduceBNe, Int.reduceToNat, Int.reduceNeg]) ?_
    try (refine ev ?_; try exact True.intro)
    (repeat (with_reducible refine ob ?_)); first | refine cl F99 (in46_ok _ _ _) ?_ | refine clF F99 (in46_ok _ _ _) (fun _ => by simp only [encPk, encAV, encI, go_sem, Nat.reduceAdd, Nat.reduceMul, Nat.reduceSub, Nat.reduceEqDiff, Nat.reduceLT, Nat.reduceLeDiff, Nat.reduceBEq, reduceIte, reduceCtorEq, Int.reduceAdd, Int.reduceLT, Int.reduceLE, Int.reduceGT, Int.reduceGE, Int.reduceEq, Int.reduceNe, Int.reduceBEq, Int.reduceBNe, Int.reduceToNat, Int.reduceNeg]) ?_
    simp only [valid46, h0, h1, h2, h3, go_sem, Nat.reduceAdd, Nat.reduceMul, Nat.reduceSub, Nat.reduceEqDiff, Nat.reduceLT, Nat.reduceLeDiff, Nat.reduceBEq, reduceIte, reduceCtorEq, Int.reduceAdd, Int.reduceLT, Int.reduceLE, Int.reduceGT, Int.reduceGE, Int.reduceEq, Int.reduceNe, Int.reduceBEq, Int.reduceBNe, Int.reduceToNat, Int.reduceNeg]
  try (refine ev ?_; try exact True.intro)
  refine AWp_cond _ rfl rfl (fun h4 => ?_) (fun h4 => ?_)
  · try (refine ev ?_; try exact True.intro)
    (repeat (with_reducible refine ob ?_)); first | refine cl F99 (in46_ok _ _ _) ?_ | refine clF F99 (in46_ok _ _ _) (fun _ => by simp only [encPk, encAV, encI, go_sem, Nat.reduceAdd, Nat.reduceMul, Nat.reduceSub, Nat.reduceEqDiff, Nat.reduceLT, Nat.reduceLeDiff, Nat.reduceBEq, reduceIte, reduceCtorEq, Int.reduceAdd, Int.reduceLT, Int.reduceLE, Int.reduceGT, Int.reduceGE, Int.reduceEq, Int.reduceNe, Int.reduceBEq, Int.reduceBNe, Int.reduceToNat, Int.reduceNeg]) ?_
    try (refine ev ?_; try exact True.intro)
    (repeat (with_reducible refine ob ?_)); first | refine cl F99 (in46_ok _ _ _) ?_ | refine clF F99 (in46_ok _ _ _) (fun _ => by simp only [encPk, encAV, encI, go_sem, Nat.reduceAdd, Nat.reduceMul, Nat.reduceSub, Nat.reduceEqDiff, Nat.reduceLT, Nat.reduceLeDiff, Nat.reduceBEq, reduceIte, reduceCtorEq, Int.reduceAdd, Int.reduceLT, Int.reduceLE, Int.reduceGT, Int.reduceGE, Int.reduceEq, Int.reduceNe, Int.reduceBEq, Int.reduceBNe, Int.reduceToNat, Int.reduceNeg]) ?_
    simp only [valid46, h0, h1, h2, h3, h4, go_sem, Nat.reduceAdd, Nat.reduceMul, Nat.reduceSub, Nat.reduceEqDiff, Nat.reduceLT, Nat.reduceLeDiff, Nat.reduceBEq, reduceIte, reduceCtorEq, Int.reduceAdd, Int.reduceLT, Int.reduceLE, Int.reduceGT, Int.reduceGE, Int.reduceEq, Int.reduceNe, Int.reduceBEq, Int.reduceBNe, Int.reduceToNat, Int.reduceNeg]
  · simp only [valid46, h0, h1, h2, h3, h4, go_sem, Nat.reduceAdd, Nat.reduceMul, Nat.reduceSub, Nat.reduceEqDiff, Nat.reduceLT, Nat.reduceLeDiff, Nat.reduceBEq, reduceIte, reduceCtorEq, Int.reduceAdd, Int.reduceLT, Int.reduceLE, Int.reduceGT, Int.reduceGE, Int.reduceEq, Int.reduceNe, Int.reduceBEq, Int.reduceBNe, Int.reduceToNat, Int.reduceNeg]
end Go.Proofs.Ythcpckcgjplhiaa
