/- Queues: what the functions of package queue answer. -/
import Derived.Test.YthcpckcgjplhiaaCc
namespace Go.Proofs.Ythcpckcgjplhiaa
open Go.Abs
set_option linter.unusedSimpArgs false

/-- All numbers below n pass. -/
def allTo (g : Nat → Bool) (n : Nat) : Bool := (List.range n).all g
theorem allTo_succ (g : Nat → Bool) (n : Nat) : allTo g (n + 1) = (allTo g n && g n) := by simp [allTo, List.range_succ]
theorem allTo_step {g : Nat → Bool} {n : Nat} (h : allTo g n = true) (hg : g n = true) : allTo g (n + 1) = true := by rw [allTo_succ, h, hg]; rfl
theorem allTo_no {g : Nat → Bool} {i n : Nat} (hi : i < n) (hg : g i = false) : allTo g n = false := by
  simp only [allTo, List.all_eq_false]
  exact ⟨i, by simpa using hi, by simp [hg]⟩
theorem allTo_iff {g : Nat → Bool} {n : Nat} : allTo g n = true ↔ ∀ i, i < n → g i = true := by simp [allTo]

structure Qu where
  acc : Int
  cons : Int
  items : List Pk
  deriving DecidableEq, Inhabited

def encQ (q : Qu) : List D := [.int .i64 q.acc, .int .i64 q.cons, .sl 9 (q.items.map encPk)]
theorem encQ_noPtr (q : Qu) : D.noPtrL (encQ q) = true := by simp only [encQ, go_sem, Nat.reduceAdd, Nat.reduceMul, Nat.reduceSub, Nat.reduceEqDiff, Nat.reduceLT, Nat.reduceLeDiff, Nat.reduceBEq, reduceIte, reduceCtorEq, Int.reduceAdd, Int.reduceLT, Int.reduceLE, Int.reduceGT, Int.reduceGE, Int.reduceEq, Int.reduceNe, Int.reduceBEq, Int.reduceBNe, Int.reduceToNat, Int.reduceNeg]
attribute [go_sem] encQ_noPtr

/-- Few values. -/
def Pk.Sm (p : Pk) : Prop := p.values.length ≤ 1000 ∧ p.clock.length ≤ 1000
def Qu.Sm (q : Qu) : Prop := q.items.length ≤ 1000 ∧ ∀ p ∈ q.items, p.Sm
theorem Pk.Sm.v {p : Pk} (h : p.Sm) : p.values.length ≤ maxLen := by have := h.1; unfold maxLen; omega
theorem Pk.Sm.c {p : Pk} (h : p.Sm) : p.clock.length ≤ maxLen := by have := h.2; unfold maxLen; omega

section
variable {P : Program} {k0 o : Nat} {p : List (Nat × Nat)} {Q : SExit → St → Prop} {st : St}
noncomputable def s70r0 : List SOper := [
  ⟨some 1, .box 1 (.t 0), none⟩,
  ⟨some 2, .mov (.k (.d (.bool false))), none⟩]
noncomputable def s70r1 : List SOper := [
  ⟨some 3, .faddr 0 (.t 1), none⟩,
  ⟨some 4, .load none (.t 3), none⟩,
  ⟨some 5, .bin .eql (.t 4) (.k (.d (.int .i64 1))), none⟩,
  ⟨some 6, .mov (.t 5), none⟩,
  ⟨some 7, .load (some 9) (.t 1), some (6, true)⟩,
  ⟨some 8, .call (.k (.d (.func (.func 47) [] []))) [(.t 7)], some (6, true)⟩,
  ⟨some 9, .pick (.t 6) (.t 8) (.k (.d (.bool false))), none⟩,
  ⟨some 2, .mov (.t 9), none⟩]
noncomputable def s70 : SCode := (.seq (.region s70r0 1 []) (.seq (.region s70r1 0 []) .ret))
theorem e70 : AWp P k0 s70 Q st = AWp P k0 (.seq (.region s70r0 1 []) (.seq (.region s70r1 0 []) .ret)) Q st := rfl
theorem u70r0 : goReg P s70r0 o p Q st = goLit P (litOf s70r0.eq_1) o p Q st := goReg_of _
theorem u70r1 : goReg P s70r1 o p Q st = goLit P (litOf s70r1.eq_1) o p Q st := goReg_of _
attribute [go_sem] u70r0 u70r1 e70
set_option maxRecDepth 100000 in
theorem F70 : FnIs Try.prog 70 Try.f70 [] news s70 [.tmp 2] 10 := ⟨follows, Try.func70, by kernel_rfl, by kernel_rfl, by kernel_rfl, by kernel_rfl⟩

noncomputable def s71r0 : List SOper := [
  ⟨some 2, .box 2 (.t 0), none⟩,
  ⟨some 3, .box 1 (.t 1), none⟩,
  ⟨some 4, .mov (.k (.d (.bool false))), none⟩]
noncomputable def s71r1 : List SOper := [
  ⟨some 5, .faddr 1 (.t 2), none⟩,
  ⟨some 6, .load none (.t 5), none⟩,
  ⟨some 7, .faddr 1 (.t 3), none⟩,
  ⟨some 8, .load none (.t 7), none⟩,
  ⟨some 9, .bin .eql (.t 6) (.t 8), none⟩,
  ⟨some 10, .mov (.t 9), none⟩,
  ⟨some 11, .faddr 3 (.t 2), some (10, true)⟩,
  ⟨some 12, .load none (.t 11), some (10, true)⟩,
  ⟨some 13, .faddr 3 (.t 3), some (10, true)⟩,
  ⟨some 14, .load none (.t 13), some (10, true)⟩,
  ⟨some 15, .bin .eql (.t 12) (.t 14), some (10, true)⟩,
  ⟨some 16, .pick (.t 10) (.t 15) (.k (.d (.bool false))), none⟩,
  ⟨some 17, .mov (.t 16), none⟩,
  ⟨some 18, .faddr 4 (.t 2), some (17, true)⟩,
  ⟨some 19, .load none (.t 18), some (17, true)⟩,
  ⟨some 20, .faddr 4 (.t 3), some (17, true)⟩,
  ⟨some 21, .load none (.t 20), some (17, true)⟩,
  ⟨some 22, .bin .eql (.t 19) (.t 21), some (17, true)⟩,
  ⟨some 23, .pick (.t 17) (.t 22) (.k (.d (.bool false))), none⟩,
  ⟨some 4, .mov (.t 23), none⟩]
noncomputable def s71 : SCode := (.seq (.region s71r0 2 []) (.seq (.region s71r1 0 []) .ret))
theorem e71 : AWp P k0 s71 Q st = AWp P k0 (.seq (.region s71r0 2 []) (.seq (.region s71r1 0 []) .ret)) Q st := rfl
theorem u71r0 : goReg P s71r0 o p Q st = goLit P (litOf s71r0.eq_1) o p Q st := goReg_of _
theorem u71r1 : goReg P s71r1 o p Q st = goLit P (litOf s71r1.eq_1) o p Q st := goReg_of _
attribute [go_sem] u71r0 u71r1 e71
set_option maxRecDepth 100000 in
theorem F71 : FnIs Try.prog 71 Try.f71 [] news s71 [.tmp 4] 24 := ⟨follows, Try.func71, by kernel_rfl, by kernel_rfl, by kernel_rfl, by kernel_rfl⟩

noncomputable def s32r0 : List SOper := [
  ⟨some 1, .box 1 (.t 0), none⟩,
  ⟨some 2, .mov (.k (.d (.bool false))), none⟩]
noncomputable def s32r1 : List SOper := [
  ⟨some 5, .faddr 2 (.t 1), none⟩,
  ⟨some 6, .load none (.t 5), none⟩,
  ⟨some 7, .len (.t 6), none⟩,
  ⟨some 8, .mov (.k (.d (.int .i64 0))), none⟩]
noncomputable def s32r2 : List SOper := [
  ⟨some 9, .bin .lss (.t 8) (.t 7), none⟩]
noncomputable def s32r3 : List SOper := [
  ⟨some 10, .mov (.t 8), none⟩,
  ⟨some 11, .iaddr 9 (.t 6) (.t 8), none⟩,
  ⟨some 12, .load (some 9) (.t 11), none⟩,
  ⟨some 4, .alloc 1 [(.d (.int .i64 0)), (.d (.int .i64 0)), (.d (.int .i64 0)), (.d (.int .i64 0)), (.d (.int .i64 0)), (.d (.int .i64 0)), (.d (.int .i64 0)), (.d .nilsl), (.d .nilsl)], none⟩,
  ⟨some 3, .mov (.t 10), none⟩,
  ⟨none, .store (some 9) (.t 4) (.t 12), none⟩]
noncomputable def s32r4 : List SOper := [
  ⟨some 13, .load (some 9) (.t 4), none⟩,
  ⟨some 14, .call (.k (.d (.func (.func 70) [] []))) [(.t 13)], none⟩,
  ⟨some 15, .not (.t 14), none⟩,
  ⟨some 16, .mov (.t 15), none⟩,
  ⟨some 17, .load (some 9) (.t 4), some (16, false)⟩,
  ⟨some 18, .faddr 2 (.t 1), some (16, false)⟩,
  ⟨some 19, .load none (.t 18), some (16, false)⟩,
  ⟨some 20, .iaddr 9 (.t 19) (.k (.d (.int .i64 0))), some (16, false)⟩,
  ⟨some 21, .load (some 9) (.t 20), some (16, false)⟩,
  ⟨some 22, .call (.k (.d (.func (.func 71) [] []))) [(.t 17), (.t 21)], some (16, false)⟩,
  ⟨some 23, .not (.t 22), some (16, false)⟩,
  ⟨some 24, .pick (.t 16) (.k (.d (.bool true))) (.t 23), none⟩,
  ⟨some 25, .mov (.t 24), none⟩,
  ⟨some 26, .faddr 5 (.t 4), some (25, false)⟩,
  ⟨some 27, .load none (.t 26), some (25, false)⟩,
  ⟨some 28, .faddr 1 (.t 1), some (25, false)⟩,
  ⟨some 29, .load none (.t 28), some (25, false)⟩,
  ⟨some 30, .bin .add (.t 29) (.k (.d (.int .i64 1))), some (25, false)⟩,
  ⟨some 31, .mov (.t 3), some (25, false)⟩,
  ⟨some 32, .bin .add (.t 30) (.t 31), some (25, false)⟩,
  ⟨some 33, .bin .neq (.t 27) (.t 32), some (25, false)⟩,
  ⟨some 34, .pick (.t 25) (.k (.d (.bool true))) (.t 33), none⟩]
noncomputable def s32r5 : List SOper := [
  ⟨some 2, .mov (.k (.d (.bool false))), none⟩]
noncomputable def s32r6 : List SOper := [
  ⟨some 35, .bin .add (.t 8) (.k (.d (.int .i64 1))), none⟩,
  ⟨some 8, .mov (.t 35), none⟩]
noncomputable def s32l7 : SCode := (.seq (.region s32r2 0 []) (.seq (.cond (.t 9) .skip (.exit 0)) (.seq (.block 1 (.seq (.region s32r3 1 []) (.seq (.region s32r4 0 []) (.cond (.t 34) (.seq (.region s32r5 0 []) .ret) .skip)))) (.region s32r6 0 []))))
theorem e32l7 : AWp P k0 s32l7 Q st = AWp P k0 (.seq (.region s32r2 0 []) (.seq (.cond (.t 9) .skip (.exit 0)) (.seq (.block 1 (.seq (.region s32r3 1 []) (.seq (.region s32r4 0 []) (.cond (.t 34) (.seq (.region s32r5 0 []) .ret) .skip)))) (.region s32r6 0 [])))) Q st := rfl
noncomputable def s32r8 : List SOper := [
  ⟨some 36, .faddr 1 (.t 1), none⟩,
  ⟨some 37, .load none (.t 36), none⟩,
  ⟨some 38, .bin .geq (.t 37) (.k (.d (.int .i64 0))), none⟩,
  ⟨some 39, .mov (.t 38), none⟩,
  ⟨some 40, .faddr 1 (.t 1), some (39, true)⟩,
  ⟨some 41, .load none (.t 40), some (39, true)⟩,
  ⟨some 42, .faddr 0 (.t 1), some (39, true)⟩,
  ⟨some 43, .load none (.t 42), some (39, true)⟩,
  ⟨some 44, .bin .leq (.t 41) (.t 43), some (39, true)⟩,
  ⟨some 45, .pick (.t 39) (.t 44) (.k (.d (.bool false))), none⟩,
  ⟨some 46, .mov (.t 45), none⟩,
  ⟨some 47, .faddr 0 (.t 1), some (46, true)⟩,
  ⟨some 48, .load none (.t 47), some (46, true)⟩,
  ⟨some 49, .bin .leq (.t 48) (.k (.d (.int .i64 1099511627776))), some (46, true)⟩,
  ⟨some 50, .pick (.t 46) (.t 49) (.k (.d (.bool false))), none⟩,
  ⟨some 51, .mov (.t 50), none⟩,
  ⟨some 52, .faddr 2 (.t 1), some (51, true)⟩,
  ⟨some 53, .load none (.t 52), some (51, true)⟩,
  ⟨some 54, .len (.t 53), some (51, true)⟩,
  ⟨some 55, .faddr 0 (.t 1), some (51, true)⟩,
  ⟨some 56, .load none (.t 55), some (51, true)⟩,
  ⟨some 57, .faddr 1 (.t 1), some (51, true)⟩,
  ⟨some 58, .load none (.t 57), some (51, true)⟩,
  ⟨some 59, .bin .sub (.t 56) (.t 58), some (51, true)⟩,
  ⟨some 60, .bin .eql (.t 54) (.t 59), some (51, true)⟩,
  ⟨some 61, .pick (.t 51) (.t 60) (.k (.d (.bool false))), none⟩,
  ⟨some 62, .mov (.t 61), none⟩,
  ⟨some 63, .faddr 2 (.t 1), some (62, true)⟩,
  ⟨some 64, .load none (.t 63), some (62, true)⟩,
  ⟨some 65, .len (.t 64), some (62, true)⟩,
  ⟨some 66, .bin .leq (.t 65) (.k (.d (.int .i64 4))), some (62, true)⟩,
  ⟨some 67, .pick (.t 62) (.t 66) (.k (.d (.bool false))), none⟩,
  ⟨some 2, .mov (.t 67), none⟩]
noncomputable def s32 : SCode := (.seq (.region s32r0 1 []) (.seq (.seq (.region s32r1 0 []) (.block 0 (.loop s32l7))) (.seq (.region s32r8 0 []) .ret)))
theorem e32 : AWp P k0 s32 Q st = AWp P k0 (.seq (.region s32r0 1 []) (.seq (.seq (.region s32r1 0 []) (.block 0 (.loop s32l7))) (.seq (.region s32r8 0 []) .ret))) Q st := rfl
theorem u32r0 : goReg P s32r0 o p Q st = goLit P (litOf s32r0.eq_1) o p Q st := goReg_of _
theorem u32r1 : goReg P s32r1 o p Q st = goLit P (litOf s32r1.eq_1) o p Q st := goReg_of _
theorem u32r2 : goReg P s32r2 o p Q st = goLit P (litOf s32r2.eq_1) o p Q st := goReg_of _
theorem u32r3 : goReg P s32r3 o p Q st = goLit P (litOf s32r3.eq_1) o p Q st := goReg_of _
theorem u32r4 : goReg P s32r4 o p Q st = goLit P (litOf s32r4.eq_1) o p Q st := goReg_of _
theorem u32r5 : goReg P s32r5 o p Q st = goLit P (litOf s32r5.eq_1) o p Q st := goReg_of _
theorem u32r6 : goReg P s32r6 o p Q st = goLit P (litOf s32r6.eq_1) o p Q st := goReg_of _
theorem u32r8 : goReg P s32r8 o p Q st = goLit P (litOf s32r8.eq_1) o p Q st := goReg_of _
attribute [go_sem] u32r0 u32r1 u32r2 u32r3 u32r4 u32r5 u32r6 e32l7 u32r8 e32
set_option maxRecDepth 100000 in
theorem F32 : FnIs Try.prog 32 Try.f32 [] news s32 [.tmp 2] 68 := ⟨follows, Try.func32, by kernel_rfl, by kernel_rfl, by kernel_rfl, by kernel_rfl⟩

noncomputable def s72r0 : List SOper := [
  ⟨some 1, .box 2 (.t 0), none⟩,
  ⟨some 2, .alloc 1 [(.d (.int .i64 0)), (.d (.int .i64 0)), (.d (.int .i64 0)), (.d (.int .i64 0)), (.d (.int .i64 0)), (.d (.int .i64 0)), (.d (.int .i64 0)), (.d .nilsl), (.d .nilsl)], none⟩]
noncomputable def s72r1 : List SOper := [
  ⟨some 3, .faddr 7 (.t 1), none⟩,
  ⟨some 4, .load none (.t 3), none⟩,
  ⟨some 5, .call (.k (.d (.func (.func 97) [] []))) [(.t 4)], none⟩,
  ⟨some 6, .faddr 8 (.t 1), none⟩,
  ⟨some 7, .load none (.t 6), none⟩,
  ⟨some 8, .call (.k (.d (.func (.func 98) [] []))) [(.t 7)], none⟩,
  ⟨some 9, .faddr 7 (.t 1), none⟩,
  ⟨none, .store none (.t 9) (.t 5), none⟩,
  ⟨some 10, .faddr 8 (.t 1), none⟩,
  ⟨none, .store none (.t 10) (.t 8), none⟩]
noncomputable def s72r2 : List SOper := [
  ⟨some 11, .load (some 9) (.t 1), none⟩,
  ⟨none, .store (some 9) (.t 2) (.t 11), none⟩]
noncomputable def s72 : SCode := (.seq (.region s72r0 2 []) (.seq (.region s72r1 0 [(2, 4)]) (.seq (.region s72r2 0 []) .ret)))
theorem e72 : AWp P k0 s72 Q st = AWp P k0 (.seq (.region s72r0 2 []) (.seq (.region s72r1 0 [(2, 4)]) (.seq (.region s72r2 0 []) .ret))) Q st := rfl
theorem u72r0 : goReg P s72r0 o p Q st = goLit P (litOf s72r0.eq_1) o p Q st := goReg_of _
theorem u72r1 : goReg P s72r1 o p Q st = goLit P (litOf s72r1.eq_1) o p Q st := goReg_of _
theorem u72r2 : goReg P s72r2 o p Q st = goLit P (litOf s72r2.eq_1) o p Q st := goReg_of _
attribute [go_sem] u72r0 u72r1 u72r2 e72
set_option maxRecDepth 100000 in
theorem F72 : FnIs Try.prog 72 Try.f72 [] news s72 [.cell 2 (some 9)] 12 := ⟨follows, Try.func72, by kernel_rfl, by kernel_rfl, by kernel_rfl, by kernel_rfl⟩

noncomputable def s68r0 : List SOper := [
  ⟨some 2, .mov (.k (.d .nilsl)), none⟩]
noncomputable def s68r1 : List SOper := [
  ⟨some 3, .mov (.k (.d .nilsl)), none⟩]
noncomputable def s68r2 : List SOper := [
  ⟨some 6, .mov (.t 0), none⟩,
  ⟨some 7, .len (.t 6), none⟩,
  ⟨some 8, .mov (.k (.d (.int .i64 0))), none⟩]
noncomputable def s68r3 : List SOper := [
  ⟨some 9, .bin .lss (.t 8) (.t 7), none⟩]
noncomputable def s68r4 : List SOper := [
  ⟨some 10, .iaddr 9 (.t 6) (.t 8), none⟩,
  ⟨some 11, .load (some 9) (.t 10), none⟩,
  ⟨some 5, .alloc 1 [(.d (.int .i64 0)), (.d (.int .i64 0)), (.d (.int .i64 0)), (.d (.int .i64 0)), (.d (.int .i64 0)), (.d (.int .i64 0)), (.d (.int .i64 0)), (.d .nilsl), (.d .nilsl)], none⟩,
  ⟨none, .store (some 9) (.t 5) (.t 11), none⟩]
noncomputable def s68r5 : List SOper := [
  ⟨some 12, .mov (.t 3), none⟩,
  ⟨some 13, .load (some 9) (.t 5), none⟩,
  ⟨some 14, .call (.k (.d (.func (.func 72) [] []))) [(.t 13)], none⟩,
  ⟨some 15, .buildSlice false 9 1 [(.int .i64 0), (.int .i64 0), (.int .i64 0), (.int .i64 0), (.int .i64 0), (.int .i64 0), (.int .i64 0), .nilsl, .nilsl] [(0, 9, (.t 14))], none⟩,
  ⟨some 16, .append false 9 104 (.t 12) (.t 15), none⟩,
  ⟨some 3, .mov (.t 16), none⟩]
noncomputable def s68r6 : List SOper := [
  ⟨some 17, .bin .add (.t 8) (.k (.d (.int .i64 1))), none⟩,
  ⟨some 8, .mov (.t 17), none⟩]
noncomputable def s68l7 : SCode := (.seq (.region s68r3 0 []) (.seq (.cond (.t 9) .skip (.exit 0)) (.seq (.block 1 (.seq (.region s68r4 1 []) (.region s68r5 0 []))) (.region s68r6 0 []))))
theorem e68l7 : AWp P k0 s68l7 Q st = AWp P k0 (.seq (.region s68r3 0 []) (.seq (.cond (.t 9) .skip (.exit 0)) (.seq (.block 1 (.seq (.region s68r4 1 []) (.region s68r5 0 []))) (.region s68r6 0 [])))) Q st := rfl
noncomputable def s68r8 : List SOper := [
  ⟨some 18, .mov (.t 3), none⟩,
  ⟨some 2, .mov (.t 18), none⟩]
noncomputable def s68 : SCode := (.seq (.region s68r0 0 []) (.seq (.region s68r1 0 []) (.seq (.seq (.region s68r2 0 []) (.block 0 (.loop s68l7))) (.seq (.region s68r8 0 []) .ret))))
theorem e68 : AWp P k0 s68 Q st = AWp P k0 (.seq (.region s68r0 0 []) (.seq (.region s68r1 0 []) (.seq (.seq (.region s68r2 0 []) (.block 0 (.loop s68l7))) (.seq (.region s68r8 0 []) .ret)))) Q st := rfl
theorem u68r0 : goReg P s68r0 o p Q st = goLit P (litOf s68r0.eq_1) o p Q st := goReg_of _
theorem u68r1 : goReg P s68r1 o p Q st = goLit P (litOf s68r1.eq_1) o p Q st := goReg_of _
theorem u68r2 : goReg P s68r2 o p Q st = goLit P (litOf s68r2.eq_1) o p Q st := goReg_of _
theorem u68r3 : goReg P s68r3 o p Q st = goLit P (litOf s68r3.eq_1) o p Q st := goReg_of _
theorem u68r4 : goReg P s68r4 o p Q st = goLit P (litOf s68r4.eq_1) o p Q st := goReg_of _
theorem u68r5 : goReg P s68r5 o p Q st = goLit P (litOf s68r5.eq_1) o p Q st := goReg_of _
theorem u68r6 : goReg P s68r6 o p Q st = goLit P (litOf s68r6.eq_1) o p Q st := goReg_of _
theorem u68r8 : goReg P s68r8 o p Q st = goLit P (litOf s68r8.eq_1) o p Q st := goReg_of _
attribute [go_sem] u68r0 u68r1 u68r2 u68r3 u68r4 u68r5 u68r6 e68l7 u68r8 e68
set_option maxRecDepth 100000 in
theorem F68 : FnIs Try.prog 68 Try.f68 [] news s68 [.tmp 2] 19 := ⟨follows, Try.func68, by kernel_rfl, by kernel_rfl, by kernel_rfl, by kernel_rfl⟩

end

def message (p : Pk) : Bool := p.kind == 1 && packetValid p
theorem message_ok (p : Pk) (hp : p.Sm) : ACall Try.prog 70 [.d (.agg (encPk p))] [] (.d (.bool (message p))) [] := by
  first | refine F70.go ?_ | refine F70.goT ?_
  simp only [encPk, go_sem, Nat.reduceAdd, Nat.reduceMul, Nat.reduceSub, Nat.reduceEqDiff, Nat.reduceLT, Nat.reduceLeDiff, Nat.reduceBEq, reduceIte, reduceCtorEq, Int.reduceAdd, Int.reduceLT, Int.reduceLE, Int.reduceGT, Int.reduceGE, Int.reduceEq, Int.reduceNe, Int.reduceBEq, Int.reduceBNe, Int.reduceToNat, Int.reduceNeg]
  (repeat (with_reducible refine ob ?_)); first | refine cl F47 (packetValid_ok p hp.v hp.c) ?_ | refine clF F47 (packetValid_ok p hp.v hp.c) (fun _ => by simp only [encPk, encQ, go_sem, Nat.reduceAdd, Nat.reduceMul, Nat.reduceSub, Nat.reduceEqDiff, Nat.reduceLT, Nat.reduceLeDiff, Nat.reduceBEq, reduceIte, reduceCtorEq, Int.reduceAdd, Int.reduceLT, Int.reduceLE, Int.reduceGT, Int.reduceGE, Int.reduceEq, Int.reduceNe, Int.reduceBEq, Int.reduceBNe, Int.reduceToNat, Int.reduceNeg]) ?_
  try (refine ev ?_; try exact True.intro)
  rfl

def alike (p q : Pk) : Bool := p.sess == q.sess && p.from_ == q.from_ && p.to == q.to
theorem alike_ok (p q : Pk) : ACall Try.prog 71 [.d (.agg (encPk p)), .d (.agg (encPk q))] [] (.d (.bool (alike p q))) [] := by
  first | refine F71.go ?_ | refine F71.goT ?_
  simp only [encPk, go_sem, Nat.reduceAdd, Nat.reduceMul, Nat.reduceSub, Nat.reduceEqDiff, Nat.reduceLT, Nat.reduceLeDiff, Nat.reduceBEq, reduceIte, reduceCtorEq, Int.reduceAdd, Int.reduceLT, Int.reduceLE, Int.reduceGT, Int.reduceGE, Int.reduceEq, Int.reduceNe, Int.reduceBEq, Int.reduceBNe, Int.reduceToNat, Int.reduceNeg]
  rfl

def qItem (q : Qu) (i : Nat) : Bool :=
  message (q.items.getD i default) && alike (q.items.getD i default) (q.items.getD 0 default) && (q.items.getD i default).seq == IntKind.i64.wrap (IntKind.i64.wrap (q.cons + 1) + (i : Int))
def qValid (q : Qu) : Bool := allTo (qItem q) q.items.length && (decide (q.cons ≥ 0) && decide (q.cons ≤ q.acc) && decide (q.acc ≤ 1099511627776) && ((q.items.length : Int) == IntKind.i64.wrap (q.acc - q.cons)) && decide ((q.items.length : Int) ≤ 4))

def SqValid (q : Qu) (i : { i : Nat // allTo (qItem q) i = true }) : St :=
  ⟨[(1, true, .d (.ptr 0 0)), (6, true, .d (.sl 9 (q.items.map encPk))), (7, true, .d (.int .i64 q.items.length)), (8, true, .d (.int .i64 (i.val : Nat)))],
   [.row [.d (.int .i64 q.acc), .d (.int .i64 q.cons), .d (.sl 9 (q.items.map encPk))]], [], 1⟩

theorem getD_lt {α : Type} {l : List α} {i : Nat} (h : i < l.length) (d : α) : l.getD i d = l[i] := by simp [List.getD, h]

set_option maxRecDepth 10000 in
theorem qValid_ok (q : Qu) (hq : q.Sm) : ACall Try.prog 32 [.d (.agg (encQ q))] [] (.d (.bool (qValid q))) [] := by
  have hl := hq.1
  first | refine F32.go ?_ | refine F32.goT ?_
  simp only [encQ, go_sem, Nat.reduceAdd, Nat.reduceMul, Nat.reduceSub, Nat.reduceEqDiff, Nat.reduceLT, Nat.reduceLeDiff, Nat.reduceBEq, reduceIte, reduceCtorEq, Int.reduceAdd, Int.reduceLT, Int.reduceLE, Int.reduceGT, Int.reduceGE, Int.reduceEq, Int.reduceNe, Int.reduceBEq, Int.reduceBNe, Int.reduceToNat, Int.reduceNeg]
  refine AWp_loop (SqValid q) (fun i => q.items.length - i.val) ⟨0, rfl⟩ ?_ (fun i => ?_)
  · try simp only [SqValid, go_sem, Nat.reduceAdd, Nat.reduceMul, Nat.reduceSub, Nat.reduceEqDiff, Nat.reduceLT, Nat.reduceLeDiff, Nat.reduceBEq, reduceIte, reduceCtorEq, Int.reduceAdd, Int.reduceLT, Int.reduceLE, Int.reduceGT, Int.reduceGE, Int.reduceEq, Int.reduceNe, Int.reduceBEq, Int.reduceBNe, Int.reduceToNat, Int.reduceNeg]
  · obtain ⟨i, hi⟩ := i
    try simp only [SqValid, go_sem, Nat.reduceAdd, Nat.reduceMul, Nat.reduceSub, Nat.reduceEqDiff, Nat.reduceLT, Nat.reduceLeDiff, Nat.reduceBEq, reduceIte, reduceCtorEq, Int.reduceAdd, Int.reduceLT, Int.reduceLE, Int.reduceGT, Int.reduceGE, Int.reduceEq, Int.reduceNe, Int.reduceBEq, Int.reduceBNe, Int.reduceToNat, Int.reduceNeg]
    refine AWp_cond _ rfl rfl (fun h => ?_) (fun h => ?_)
    · have hil : i < q.items.length := by simpa using h
      have h0 : 0 < q.items.length := by omega
      have hw : IntKind.i64.wrap (IntKind.i64.wrap (q.cons + 1) + (i : Int)) = IntKind.i64.wrap (IntKind.i64.wrap (q.cons + 1) + (i : Int)) := rfl
      simp only [getD_map encPk q.items hil, getD_map encPk q.items h0, Int.toNat_zero, encPk, go_sem, Nat.reduceAdd, Nat.reduceMul, Nat.reduceSub, Nat.reduceEqDiff, Nat.reduceLT, Nat.reduceLeDiff, Nat.reduceBEq, reduceIte, reduceCtorEq, Int.reduceAdd, Int.reduceLT, Int.reduceLE, Int.reduceGT, Int.reduceGE, Int.reduceEq, Int.reduceNe, Int.reduceBEq, Int.reduceBNe, Int.reduceToNat, Int.reduceNeg]
      refine ⟨by omega, ?_⟩
      (repeat (with_reducible refine ob ?_)); first | refine cl F70 (message_ok q.items[i] (hq.2 _ (List.getElem_mem hil))) ?_ | refine clF F70 (message_ok q.items[i] (hq.2 _ (List.getElem_mem hil))) (fun _ => by simp only [encPk, encQ, go_sem, Nat.reduceAdd, Nat.reduceMul, Nat.reduceSub, Nat.reduceEqDiff, Nat.reduceLT, Nat.reduceLeDiff, Nat.reduceBEq, reduceIte, reduceCtorEq, Int.reduceAdd, Int.reduceLT, Int.reduceLE, Int.reduceGT, Int.reduceGE, Int.reduceEq, Int.reduceNe, Int.reduceBEq, Int.reduceBNe, Int.reduceToNat, Int.reduceNeg]) ?_
      try simp only [getD_map encPk q.items h0, go_sem, Nat.reduceAdd, Nat.reduceMul, Nat.reduceSub, Nat.reduceEqDiff, Nat.reduceLT, Nat.reduceLeDiff, Nat.reduceBEq, reduceIte, reduceCtorEq, Int.reduceAdd, Int.reduceLT, Int.reduceLE, Int.reduceGT, Int.reduceGE, Int.reduceEq, Int.reduceNe, Int.reduceBEq, Int.reduceBNe, Int.reduceToNat, Int.reduceNeg]
      refine ⟨fun _ => ⟨by omega, by omega⟩, by simp [encPk], ?_⟩
      simp only [encPk, go_sem, Nat.reduceAdd, Nat.reduceMul, Nat.reduceSub, Nat.reduceEqDiff, Nat.reduceLT, Nat.reduceLeDiff, Nat.reduceBEq, reduceIte, reduceCtorEq, Int.reduceAdd, Int.reduceLT, Int.reduceLE, Int.reduceGT, Int.reduceGE, Int.reduceEq, Int.reduceNe, Int.reduceBEq, Int.reduceBNe, Int.reduceToNat, Int.reduceNeg]
      (repeat (with_reducible refine ob ?_)); first | refine cl F71 (alike_ok q.items[i] q.items[0]) ?_ | refine clF F71 (alike_ok q.items[i] q.items[0]) (fun _ => by simp only [encPk, encQ, go_sem, Nat.reduceAdd, Nat.reduceMul, Nat.reduceSub, Nat.reduceEqDiff, Nat.reduceLT, Nat.reduceLeDiff, Nat.reduceBEq, reduceIte, reduceCtorEq, Int.reduceAdd, Int.reduceLT, Int.reduceLE, Int.reduceGT, Int.reduceGE, Int.reduceEq, Int.reduceNe, Int.reduceBEq, Int.reduceBNe, Int.reduceToNat, Int.reduceNeg]) ?_
      try (refine ev ?_; try exact True.intro)
      (repeat (with_reducible refine ob ?_))
      have hx : (!message q.items[i] || !alike q.items[i] q.items[0] || q.items[i].seq != IntKind.i64.wrap (IntKind.i64.wrap (q.cons + 1) + (i : Int))) = !qItem q i := by
        simp only [qItem, getD_lt hil, getD_lt h0, Bool.not_and]; rfl
      refine AWp_cond (!qItem q i) rfl ?_ (fun h2 => ?_) (fun h2 => ?_)
      · try simp only [hx, go_sem, Nat.reduceAdd, Nat.reduceMul, Nat.reduceSub, Nat.reduceEqDiff, Nat.reduceLT, Nat.reduceLeDiff, Nat.reduceBEq, reduceIte, reduceCtorEq, Int.reduceAdd, Int.reduceLT, Int.reduceLE, Int.reduceGT, Int.reduceGE, Int.reduceEq, Int.reduceNe, Int.reduceBEq, Int.reduceBNe, Int.reduceToNat, Int.reduceNeg]
      · have hg : qItem q i = false := by simpa using h2
        simp only [qValid, allTo_no hil hg, go_sem, Nat.reduceAdd, Nat.reduceMul, Nat.reduceSub, Nat.reduceEqDiff, Nat.reduceLT, Nat.reduceLeDiff, Nat.reduceBEq, reduceIte, reduceCtorEq, Int.reduceAdd, Int.reduceLT, Int.reduceLE, Int.reduceGT, Int.reduceGE, Int.reduceEq, Int.reduceNe, Int.reduceBEq, Int.reduceBNe, Int.reduceToNat, Int.reduceNeg]
      · have hg : qItem q i = true := by simpa using h2
        try (refine ev ?_; try exact True.intro)
        refine ⟨⟨i + 1, allTo_step hi hg⟩, ?_, by dsimp only; omega⟩
        try simp only [SqValid, wrap_succ (show i < 9223372036854775807 by omega), go_sem, Nat.reduceAdd, Nat.reduceMul, Nat.reduceSub, Nat.reduceEqDiff, Nat.reduceLT, Nat.reduceLeDiff, Nat.reduceBEq, reduceIte, reduceCtorEq, Int.reduceAdd, Int.reduceLT, Int.reduceLE, Int.reduceGT, Int.reduceGE, Int.reduceEq, Int.reduceNe, Int.reduceBEq, Int.reduceBNe, Int.reduceToNat, Int.reduceNeg]
    · have hil : q.items.length ≤ i := by simpa using h
      have ha : allTo (qItem q) q.items.length = true := allTo_iff.2 fun j hj => allTo_iff.1 hi j (by omega)
      try (refine ev ?_; try exact True.intro)
      (repeat (with_reducible refine ob ?_))
      simp only [qValid, ha, go_sem, Nat.reduceAdd, Nat.reduceMul, Nat.reduceSub, Nat.reduceEqDiff, Nat.reduceLT, Nat.reduceLeDiff, Nat.reduceBEq, reduceIte, reduceCtorEq, Int.reduceAdd, Int.reduceLT, Int.reduceLE, Int.reduceGT, Int.reduceGE, Int.reduceEq, Int.reduceNe, Int.reduceBEq, Int.reduceBNe, Int.reduceToNat, Int.reduceNeg]

theorem clone_ok (p : Pk) (hp : p.Sm) : ACall Try.prog 72 [.d (.agg (encPk p))] [] (.d (.agg (encPk p))) [] := by
  obtain ⟨h1, h2⟩ := hp
  first | refine F72.go ?_ | refine F72.goT ?_
  simp only [encPk, go_sem, Nat.reduceAdd, Nat.reduceMul, Nat.reduceSub, Nat.reduceEqDiff, Nat.reduceLT, Nat.reduceLeDiff, Nat.reduceBEq, reduceIte, reduceCtorEq, Int.reduceAdd, Int.reduceLT, Int.reduceLE, Int.reduceGT, Int.reduceGE, Int.reduceEq, Int.reduceNe, Int.reduceBEq, Int.reduceBNe, Int.reduceToNat, Int.reduceNeg]
  (repeat (with_reducible refine ob ?_)); first | refine cl F97 (cloneV_ok p.values (by omega)) ?_ | refine clF F97 (cloneV_ok p.values (by omega)) (fun _ => by simp only [encPk, encQ, go_sem, Nat.reduceAdd, Nat.reduceMul, Nat.reduceSub, Nat.reduceEqDiff, Nat.reduceLT, Nat.reduceLeDiff, Nat.reduceBEq, reduceIte, reduceCtorEq, Int.reduceAdd, Int.reduceLT, Int.reduceLE, Int.reduceGT, Int.reduceGE, Int.reduceEq, Int.reduceNe, Int.reduceBEq, Int.reduceBNe, Int.reduceToNat, Int.reduceNeg]) ?_
  try (refine ev ?_; try exact True.intro)
  (repeat (with_reducible refine ob ?_)); first | refine cl F98 (cloneI_ok p.clock (by omega)) ?_ | refine clF F98 (cloneI_ok p.clock (by omega)) (fun _ => by simp only [encPk, encQ, go_sem, Nat.reduceAdd, Nat.reduceMul, Nat.reduceSub, Nat.reduceEqDiff, Nat.reduceLT, Nat.reduceLeDiff, Nat.reduceBEq, reduceIte, reduceCtorEq, Int.reduceAdd, Int.reduceLT, Int.reduceLE, Int.reduceGT, Int.reduceGE, Int.reduceEq, Int.reduceNe, Int.reduceBEq, Int.reduceBNe, Int.reduceToNat, Int.reduceNeg]) ?_
  try (refine ev ?_; try exact True.intro)

def Sclones (l : List Pk) (i : { i : Nat // i ≤ l.length }) : St :=
  ⟨[(3, true, .own 0 9 ((l.take i.val).map encPk)), (6, true, .d (.sl 9 (l.map encPk))), (7, true, .d (.int .i64 l.length)), (8, true, .d (.int .i64 (i.val : Nat)))], [], [0], 1⟩

set_option maxRecDepth 10000 in
theorem clones_ok (l : List Pk) (hl : l.length ≤ 1000) (hp : ∀ p ∈ l, p.Sm) : ACall Try.prog 68 [.d (.sl 9 (l.map encPk))] [] (.own 0 9 (l.map encPk)) [] := by
  first | refine F68.go ?_ | refine F68.goT ?_
  simp only [go_sem, Nat.reduceAdd, Nat.reduceMul, Nat.reduceSub, Nat.reduceEqDiff, Nat.reduceLT, Nat.reduceLeDiff, Nat.reduceBEq, reduceIte, reduceCtorEq, Int.reduceAdd, Int.reduceLT, Int.reduceLE, Int.reduceGT, Int.reduceGE, Int.reduceEq, Int.reduceNe, Int.reduceBEq, Int.reduceBNe, Int.reduceToNat, Int.reduceNeg]
  refine AWp_loop (Sclones l) (fun i => l.length - i.val) ⟨0, Nat.zero_le _⟩ ?_ (fun i => ?_)
  · try simp only [Sclones, go_sem, Nat.reduceAdd, Nat.reduceMul, Nat.reduceSub, Nat.reduceEqDiff, Nat.reduceLT, Nat.reduceLeDiff, Nat.reduceBEq, reduceIte, reduceCtorEq, Int.reduceAdd, Int.reduceLT, Int.reduceLE, Int.reduceGT, Int.reduceGE, Int.reduceEq, Int.reduceNe, Int.reduceBEq, Int.reduceBNe, Int.reduceToNat, Int.reduceNeg]
    trace_state
  · obtain ⟨i, hi⟩ := i
    try simp only [Sclones, go_sem, Nat.reduceAdd, Nat.reduceMul, Nat.reduceSub, Nat.reduceEqDiff, Nat.reduceLT, Nat.reduceLeDiff, Nat.reduceBEq, reduceIte, reduceCtorEq, Int.reduceAdd, Int.reduceLT, Int.reduceLE, Int.reduceGT, Int.reduceGE, Int.reduceEq, Int.reduceNe, Int.reduceBEq, Int.reduceBNe, Int.reduceToNat, Int.reduceNeg]
    refine AWp_cond _ rfl rfl (fun h => ?_) (fun h => ?_)
    · have hil : i < l.length := by simpa using h
      simp only [getD_map encPk l hil, encPk, go_sem, Nat.reduceAdd, Nat.reduceMul, Nat.reduceSub, Nat.reduceEqDiff, Nat.reduceLT, Nat.reduceLeDiff, Nat.reduceBEq, reduceIte, reduceCtorEq, Int.reduceAdd, Int.reduceLT, Int.reduceLE, Int.reduceGT, Int.reduceGE, Int.reduceEq, Int.reduceNe, Int.reduceBEq, Int.reduceBNe, Int.reduceToNat, Int.reduceNeg]
      (repeat (with_reducible refine ob ?_))
      (repeat (with_reducible refine ob ?_)); first | refine cl F72 (clone_ok l[i] (hp _ (List.getElem_mem hil))) ?_ | refine clF F72 (clone_ok l[i] (hp _ (List.getElem_mem hil))) (fun _ => by simp only [encPk, encQ, go_sem, Nat.reduceAdd, Nat.reduceMul, Nat.reduceSub, Nat.reduceEqDiff, Nat.reduceLT, Nat.reduceLeDiff, Nat.reduceBEq, reduceIte, reduceCtorEq, Int.reduceAdd, Int.reduceLT, Int.reduceLE, Int.reduceGT, Int.reduceGE, Int.reduceEq, Int.reduceNe, Int.reduceBEq, Int.reduceBNe, Int.reduceToNat, Int.reduceNeg]) ?_
      simp only [encPk, go_sem, Nat.reduceAdd, Nat.reduceMul, Nat.reduceSub, Nat.reduceEqDiff, Nat.reduceLT, Nat.reduceLeDiff, Nat.reduceBEq, reduceIte, reduceCtorEq, Int.reduceAdd, Int.reduceLT, Int.reduceLE, Int.reduceGT, Int.reduceGE, Int.reduceEq, Int.reduceNe, Int.reduceBEq, Int.reduceBNe, Int.reduceToNat, Int.reduceNeg]
      have hlt : (l.take i).length ≤ 1000 := by simp; omega
      refine ⟨⟨by omega, by omega⟩, ⟨i + 1, hil⟩, ?_, by dsimp only; omega⟩
      simp only [Sclones, map_take_succ encPk l hil, encPk, wrap_succ (show i < 9223372036854775807 by omega), go_sem, Nat.reduceAdd, Nat.reduceMul, Nat.reduceSub, Nat.reduceEqDiff, Nat.reduceLT, Nat.reduceLeDiff, Nat.reduceBEq, reduceIte, reduceCtorEq, Int.reduceAdd, Int.reduceLT, Int.reduceLE, Int.reduceGT, Int.reduceGE, Int.reduceEq, Int.reduceNe, Int.reduceBEq, Int.reduceBNe, Int.reduceToNat, Int.reduceNeg]
    · have hil : i = l.length := by have : l.length ≤ i := by simpa using h
                                    omega
      subst hil
      try simp only [List.take_length, go_sem, Nat.reduceAdd, Nat.reduceMul, Nat.reduceSub, Nat.reduceEqDiff, Nat.reduceLT, Nat.reduceLeDiff, Nat.reduceBEq, reduceIte, reduceCtorEq, Int.reduceAdd, Int.reduceLT, Int.reduceLE, Int.reduceGT, Int.reduceGE, Int.reduceEq, Int.reduceNe, Int.reduceBEq, Int.reduceBNe, Int.reduceToNat, Int.reduceNeg]

end Go.Proofs.Ythcpckcgjplhiaa
