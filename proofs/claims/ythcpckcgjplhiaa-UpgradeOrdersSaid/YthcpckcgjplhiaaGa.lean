/- Package upgrade: what its small functions answer. -/
import Derived.Test.YthcpckcgjplhiaaCh
namespace Go.Proofs.Ythcpckcgjplhiaa
open Go.Abs
set_option linter.unusedSimpArgs false

/-- upgrade.Entry, farandoleref53.Entry -/
structure En where
  sess : Int
  phase : Int
  moved : List Bool
  opened : List Bool
  deriving DecidableEq, Inhabited
def encB (b : Bool) : List D := [.bool b]
theorem encB_noPtr (b : Bool) : D.noPtrL (encB b) = true := rfl
theorem noPtrR_B (l : List Bool) : D.noPtrR (l.map encB) = true := noPtrR_map encB_noPtr l
def encEn (x : En) : List D := [.int .i64 x.sess, .int .i64 x.phase, .sl 1 (x.moved.map encB), .sl 1 (x.opened.map encB)]
theorem encEn_noPtr (x : En) : D.noPtrL (encEn x) = true := by simp only [encEn, D.noPtrL, D.noPtr, noPtrR_B, Bool.and_self]
theorem noPtrR_En (l : List En) : D.noPtrR (l.map encEn) = true := noPtrR_map encEn_noPtr l
structure Mg where
  roles : Int
  ents : List En
  deriving DecidableEq, Inhabited
def encMg (m : Mg) : List D := [.int .i64 m.roles, .sl 4 (m.ents.map encEn)]
theorem encMg_noPtr (m : Mg) : D.noPtrL (encMg m) = true := by simp only [encMg, D.noPtrL, D.noPtr, noPtrR_En, Bool.and_self]
attribute [go_sem] encB_noPtr noPtrR_B encEn_noPtr noPtrR_En encMg_noPtr

def En.Sm (x : En) : Prop := x.moved.length ≤ 1000 ∧ x.opened.length ≤ 1000
def Mg.Sm (m : Mg) : Prop := m.ents.length ≤ 1000 ∧ ∀ x ∈ m.ents, x.Sm

section
variable {P : Program} {k0 o : Nat} {p : List (Nat × Nat)} {Q : SExit → St → Prop} {st : St}
noncomputable def s123r0 : List SOper := [
  ⟨some 4, .mov (.k (.d (.int .i64 0))), none⟩]
noncomputable def s123r1 : List SOper := [
  ⟨some 6, .mov (.t 0), none⟩,
  ⟨some 7, .len (.t 6), none⟩,
  ⟨some 8, .mov (.k (.d (.int .i64 0))), none⟩]
noncomputable def s123r2 : List SOper := [
  ⟨some 9, .bin .lss (.t 8) (.t 7), none⟩]
noncomputable def s123r3 : List SOper := [
  ⟨some 10, .mov (.t 8), none⟩,
  ⟨some 5, .mov (.t 10), none⟩]
noncomputable def s123r4 : List SOper := [
  ⟨some 11, .mov (.t 1), none⟩,
  ⟨some 12, .mov (.t 0), none⟩,
  ⟨some 13, .mov (.t 5), none⟩,
  ⟨some 14, .iaddr 1 (.t 12) (.t 13), none⟩,
  ⟨some 15, .load none (.t 14), none⟩,
  ⟨some 16, .eqb false (.t 11) (.t 15), none⟩]
noncomputable def s123r5 : List SOper := [
  ⟨some 17, .mov (.t 5), none⟩,
  ⟨some 4, .mov (.t 17), none⟩]
noncomputable def s123r6 : List SOper := [
  ⟨some 18, .bin .add (.t 8) (.k (.d (.int .i64 1))), none⟩,
  ⟨some 8, .mov (.t 18), none⟩]
noncomputable def s123l7 : SCode := (.seq (.region s123r2 0 []) (.seq (.cond (.t 9) .skip (.exit 0)) (.seq (.block 1 (.seq (.region s123r3 0 []) (.seq (.region s123r4 0 []) (.cond (.t 16) (.seq (.region s123r5 0 []) .ret) .skip)))) (.region s123r6 0 []))))
theorem e123l7 : AWp P k0 s123l7 Q st = AWp P k0 (.seq (.region s123r2 0 []) (.seq (.cond (.t 9) .skip (.exit 0)) (.seq (.block 1 (.seq (.region s123r3 0 []) (.seq (.region s123r4 0 []) (.cond (.t 16) (.seq (.region s123r5 0 []) .ret) .skip)))) (.region s123r6 0 [])))) Q st := rfl
noncomputable def s123r8 : List SOper := [
  ⟨some 4, .mov (.k (.d (.int .i64 (-1)))), none⟩]
noncomputable def s123 : SCode := (.seq (.region s123r0 0 []) (.seq (.seq (.region s123r1 0 []) (.block 0 (.loop s123l7))) (.seq (.region s123r8 0 []) .ret)))
theorem e123 : AWp P k0 s123 Q st = AWp P k0 (.seq (.region s123r0 0 []) (.seq (.seq (.region s123r1 0 []) (.block 0 (.loop s123l7))) (.seq (.region s123r8 0 []) .ret))) Q st := rfl
theorem u123r0 : goReg P s123r0 o p Q st = goLit P (litOf s123r0.eq_1) o p Q st := goReg_of _
theorem u123r1 : goReg P s123r1 o p Q st = goLit P (litOf s123r1.eq_1) o p Q st := goReg_of _
theorem u123r2 : goReg P s123r2 o p Q st = goLit P (litOf s123r2.eq_1) o p Q st := goReg_of _
theorem u123r3 : goReg P s123r3 o p Q st = goLit P (litOf s123r3.eq_1) o p Q st := goReg_of _
theorem u123r4 : goReg P s123r4 o p Q st = goLit P (litOf s123r4.eq_1) o p Q st := goReg_of _
theorem u123r5 : goReg P s123r5 o p Q st = goLit P (litOf s123r5.eq_1) o p Q st := goReg_of _
theorem u123r6 : goReg P s123r6 o p Q st = goLit P (litOf s123r6.eq_1) o p Q st := goReg_of _
theorem u123r8 : goReg P s123r8 o p Q st = goLit P (litOf s123r8.eq_1) o p Q st := goReg_of _
attribute [go_sem] u123r0 u123r1 u123r2 u123r3 u123r4 u123r5 u123r6 e123l7 u123r8 e123
set_option maxRecDepth 100000 in
theorem F123 : FnIs Try.prog 123 Try.f123 [] news s123 [.tmp 4] 19 := ⟨follows, Try.func123, by kernel_rfl, by kernel_rfl, by kernel_rfl, by kernel_rfl⟩

noncomputable def s115r0 : List SOper := [
  ⟨some 4, .mov (.k (.d (.bool false))), none⟩]
noncomputable def s115r1 : List SOper := [
  ⟨some 5, .mov (.t 0), none⟩,
  ⟨some 6, .mov (.t 1), none⟩,
  ⟨some 7, .call (.k (.d (.func (.func 123) [] []))) [(.t 5), (.t 6)], none⟩,
  ⟨some 8, .bin .geq (.t 7) (.k (.d (.int .i64 0))), none⟩,
  ⟨some 4, .mov (.t 8), none⟩]
noncomputable def s115 : SCode := (.seq (.region s115r0 0 []) (.seq (.region s115r1 0 []) .ret))
theorem e115 : AWp P k0 s115 Q st = AWp P k0 (.seq (.region s115r0 0 []) (.seq (.region s115r1 0 []) .ret)) Q st := rfl
theorem u115r0 : goReg P s115r0 o p Q st = goLit P (litOf s115r0.eq_1) o p Q st := goReg_of _
theorem u115r1 : goReg P s115r1 o p Q st = goLit P (litOf s115r1.eq_1) o p Q st := goReg_of _
attribute [go_sem] u115r0 u115r1 e115
set_option maxRecDepth 100000 in
theorem F115 : FnIs Try.prog 115 Try.f115 [] news s115 [.tmp 4] 9 := ⟨follows, Try.func115, by kernel_rfl, by kernel_rfl, by kernel_rfl, by kernel_rfl⟩

noncomputable def s88r0 : List SOper := [
  ⟨some 1, .box 1 (.t 0), none⟩,
  ⟨some 2, .mov (.k (.d (.int .i64 0))), none⟩]
noncomputable def s88r1 : List SOper := [
  ⟨some 5, .faddr 2 (.t 1), none⟩,
  ⟨some 6, .load none (.t 5), none⟩,
  ⟨some 7, .call (.k (.d (.func (.func 115) [] []))) [(.t 6), (.k (.d (.bool false)))], none⟩,
  ⟨some 8, .not (.t 7), none⟩,
  ⟨some 9, .faddr 3 (.t 1), none⟩,
  ⟨some 10, .load none (.t 9), none⟩,
  ⟨some 11, .call (.k (.d (.func (.func 115) [] []))) [(.t 10), (.k (.d (.bool false)))], none⟩,
  ⟨some 12, .not (.t 11), none⟩,
  ⟨some 3, .mov (.t 8), none⟩,
  ⟨some 4, .mov (.t 12), none⟩]
noncomputable def s88r2 : List SOper := [
  ⟨some 14, .mov (.t 3), none⟩,
  ⟨some 15, .mov (.t 14), none⟩,
  ⟨some 16, .mov (.t 4), some (15, true)⟩,
  ⟨some 17, .pick (.t 15) (.t 16) (.k (.d (.bool false))), none⟩,
  ⟨some 13, .mov (.t 17), none⟩]
noncomputable def s88r3 : List SOper := [
  ⟨some 2, .mov (.k (.d (.int .i64 3))), none⟩]
noncomputable def s88r4 : List SOper := [
  ⟨some 19, .mov (.t 3), none⟩,
  ⟨some 18, .mov (.t 19), none⟩]
noncomputable def s88r5 : List SOper := [
  ⟨some 2, .mov (.k (.d (.int .i64 2))), none⟩]
noncomputable def s88r6 : List SOper := [
  ⟨some 21, .faddr 3 (.t 1), none⟩,
  ⟨some 22, .load none (.t 21), none⟩,
  ⟨some 23, .call (.k (.d (.func (.func 115) [] []))) [(.t 22), (.k (.d (.bool true)))], none⟩,
  ⟨some 20, .mov (.t 23), none⟩]
noncomputable def s88r7 : List SOper := [
  ⟨some 2, .mov (.k (.d (.int .i64 0))), none⟩]
noncomputable def s88r8 : List SOper := [
  ⟨some 2, .mov (.k (.d (.int .i64 1))), none⟩]
noncomputable def s88 : SCode := (.seq (.region s88r0 1 []) (.seq (.region s88r1 0 [(2, 5)]) (.seq (.block 0 (.seq (.region s88r2 0 []) (.cond (.t 13) (.seq (.region s88r3 0 []) .ret) (.seq (.region s88r4 0 []) (.cond (.t 18) (.seq (.region s88r5 0 []) .ret) (.seq (.region s88r6 0 []) (.cond (.t 20) (.seq (.region s88r7 0 []) .ret) .skip))))))) (.seq (.region s88r8 0 []) .ret))))
theorem e88 : AWp P k0 s88 Q st = AWp P k0 (.seq (.region s88r0 1 []) (.seq (.region s88r1 0 [(2, 5)]) (.seq (.block 0 (.seq (.region s88r2 0 []) (.cond (.t 13) (.seq (.region s88r3 0 []) .ret) (.seq (.region s88r4 0 []) (.cond (.t 18) (.seq (.region s88r5 0 []) .ret) (.seq (.region s88r6 0 []) (.cond (.t 20) (.seq (.region s88r7 0 []) .ret) .skip))))))) (.seq (.region s88r8 0 []) .ret)))) Q st := rfl
theorem u88r0 : goReg P s88r0 o p Q st = goLit P (litOf s88r0.eq_1) o p Q st := goReg_of _
theorem u88r1 : goReg P s88r1 o p Q st = goLit P (litOf s88r1.eq_1) o p Q st := goReg_of _
theorem u88r2 : goReg P s88r2 o p Q st = goLit P (litOf s88r2.eq_1) o p Q st := goReg_of _
theorem u88r3 : goReg P s88r3 o p Q st = goLit P (litOf s88r3.eq_1) o p Q st := goReg_of _
theorem u88r4 : goReg P s88r4 o p Q st = goLit P (litOf s88r4.eq_1) o p Q st := goReg_of _
theorem u88r5 : goReg P s88r5 o p Q st = goLit P (litOf s88r5.eq_1) o p Q st := goReg_of _
theorem u88r6 : goReg P s88r6 o p Q st = goLit P (litOf s88r6.eq_1) o p Q st := goReg_of _
theorem u88r7 : goReg P s88r7 o p Q st = goLit P (litOf s88r7.eq_1) o p Q st := goReg_of _
theorem u88r8 : goReg P s88r8 o p Q st = goLit P (litOf s88r8.eq_1) o p Q st := goReg_of _
attribute [go_sem] u88r0 u88r1 u88r2 u88r3 u88r4 u88r5 u88r6 u88r7 u88r8 e88
set_option maxRecDepth 100000 in
theorem F88 : FnIs Try.prog 88 Try.f88 [] news s88 [.tmp 2] 24 := ⟨follows, Try.func88, by kernel_rfl, by kernel_rfl, by kernel_rfl, by kernel_rfl⟩

noncomputable def s59r0 : List SOper := [
  ⟨some 1, .box 1 (.t 0), none⟩,
  ⟨some 2, .mov (.k (.d (.bool false))), none⟩]
noncomputable def s59r1 : List SOper := [
  ⟨some 5, .faddr 1 (.t 1), none⟩,
  ⟨some 6, .load none (.t 5), none⟩,
  ⟨some 7, .len (.t 6), none⟩,
  ⟨some 8, .mov (.k (.d (.int .i64 0))), none⟩]
noncomputable def s59r2 : List SOper := [
  ⟨some 9, .bin .lss (.t 8) (.t 7), none⟩]
noncomputable def s59r3 : List SOper := [
  ⟨some 10, .mov (.t 8), none⟩,
  ⟨some 11, .iaddr 4 (.t 6) (.t 8), none⟩,
  ⟨some 12, .load (some 4) (.t 11), none⟩,
  ⟨some 4, .alloc 1 [(.d (.int .i64 0)), (.d (.int .i64 0)), (.d .nilsl), (.d .nilsl)], none⟩,
  ⟨some 3, .mov (.t 10), none⟩,
  ⟨none, .store (some 4) (.t 4) (.t 12), none⟩]
noncomputable def s59r4 : List SOper := [
  ⟨some 13, .faddr 0 (.t 4), none⟩,
  ⟨some 14, .load none (.t 13), none⟩,
  ⟨some 15, .bin .lss (.t 14) (.k (.d (.int .i64 1))), none⟩,
  ⟨some 16, .mov (.t 15), none⟩,
  ⟨some 17, .faddr 0 (.t 4), some (16, false)⟩,
  ⟨some 18, .load none (.t 17), some (16, false)⟩,
  ⟨some 19, .bin .gtr (.t 18) (.k (.d (.int .i64 32))), some (16, false)⟩,
  ⟨some 20, .pick (.t 16) (.k (.d (.bool true))) (.t 19), none⟩,
  ⟨some 21, .mov (.t 20), none⟩,
  ⟨some 22, .mov (.t 3), some (21, false)⟩,
  ⟨some 23, .bin .gtr (.t 22) (.k (.d (.int .i64 0))), some (21, false)⟩,
  ⟨some 24, .mov (.t 23), some (21, false)⟩,
  ⟨some 25, .faddr 0 (.t 4), some (24, true)⟩,
  ⟨some 26, .load none (.t 25), some (24, true)⟩,
  ⟨some 27, .faddr 1 (.t 1), some (24, true)⟩,
  ⟨some 28, .load none (.t 27), some (24, true)⟩,
  ⟨some 29, .mov (.t 3), some (24, true)⟩,
  ⟨some 30, .bin .sub (.t 29) (.k (.d (.int .i64 1))), some (24, true)⟩,
  ⟨some 31, .iaddr 4 (.t 28) (.t 30), some (24, true)⟩,
  ⟨some 32, .faddr 0 (.t 31), some (24, true)⟩,
  ⟨some 33, .load none (.t 32), some (24, true)⟩,
  ⟨some 34, .bin .leq (.t 26) (.t 33), some (24, true)⟩,
  ⟨some 35, .pick (.t 24) (.t 34) (.k (.d (.bool false))), some (21, false)⟩,
  ⟨some 36, .pick (.t 21) (.k (.d (.bool true))) (.t 35), none⟩,
  ⟨some 37, .mov (.t 36), none⟩,
  ⟨some 38, .faddr 2 (.t 4), some (37, false)⟩,
  ⟨some 39, .load none (.t 38), some (37, false)⟩,
  ⟨some 40, .len (.t 39), some (37, false)⟩,
  ⟨some 41, .faddr 0 (.t 1), some (37, false)⟩,
  ⟨some 42, .load none (.t 41), some (37, false)⟩,
  ⟨some 43, .bin .neq (.t 40) (.t 42), some (37, false)⟩,
  ⟨some 44, .pick (.t 37) (.k (.d (.bool true))) (.t 43), none⟩,
  ⟨some 45, .mov (.t 44), none⟩,
  ⟨some 46, .faddr 3 (.t 4), some (45, false)⟩,
  ⟨some 47, .load none (.t 46), some (45, false)⟩,
  ⟨some 48, .len (.t 47), some (45, false)⟩,
  ⟨some 49, .faddr 0 (.t 1), some (45, false)⟩,
  ⟨some 50, .load none (.t 49), some (45, false)⟩,
  ⟨some 51, .bin .neq (.t 48) (.t 50), some (45, false)⟩,
  ⟨some 52, .pick (.t 45) (.k (.d (.bool true))) (.t 51), none⟩,
  ⟨some 53, .mov (.t 52), none⟩,
  ⟨some 54, .faddr 1 (.t 4), some (53, false)⟩,
  ⟨some 55, .load none (.t 54), some (53, false)⟩,
  ⟨some 56, .bin .eql (.t 55) (.k (.d (.int .i64 0))), some (53, false)⟩,
  ⟨some 57, .pick (.t 53) (.k (.d (.bool true))) (.t 56), none⟩,
  ⟨some 58, .mov (.t 57), none⟩,
  ⟨some 59, .faddr 1 (.t 4), some (58, false)⟩,
  ⟨some 60, .load none (.t 59), some (58, false)⟩,
  ⟨some 61, .load (some 4) (.t 4), some (58, false)⟩,
  ⟨some 62, .call (.k (.d (.func (.func 88) [] []))) [(.t 61)], some (58, false)⟩,
  ⟨some 63, .bin .neq (.t 60) (.t 62), some (58, false)⟩,
  ⟨some 64, .pick (.t 58) (.k (.d (.bool true))) (.t 63), none⟩]
noncomputable def s59r5 : List SOper := [
  ⟨some 2, .mov (.k (.d (.bool false))), none⟩]
noncomputable def s59r6 : List SOper := [
  ⟨some 65, .bin .add (.t 8) (.k (.d (.int .i64 1))), none⟩,
  ⟨some 8, .mov (.t 65), none⟩]
noncomputable def s59l7 : SCode := (.seq (.region s59r2 0 []) (.seq (.cond (.t 9) .skip (.exit 0)) (.seq (.block 1 (.seq (.region s59r3 1 []) (.seq (.region s59r4 0 [(47, 49)]) (.cond (.t 64) (.seq (.region s59r5 0 []) .ret) .skip)))) (.region s59r6 0 []))))
theorem e59l7 : AWp P k0 s59l7 Q st = AWp P k0 (.seq (.region s59r2 0 []) (.seq (.cond (.t 9) .skip (.exit 0)) (.seq (.block 1 (.seq (.region s59r3 1 []) (.seq (.region s59r4 0 [(47, 49)]) (.cond (.t 64) (.seq (.region s59r5 0 []) .ret) .skip)))) (.region s59r6 0 [])))) Q st := rfl
noncomputable def s59r8 : List SOper := [
  ⟨some 66, .faddr 0 (.t 1), none⟩,
  ⟨some 67, .load none (.t 66), none⟩,
  ⟨some 68, .bin .geq (.t 67) (.k (.d (.int .i64 1))), none⟩,
  ⟨some 69, .mov (.t 68), none⟩,
  ⟨some 70, .faddr 0 (.t 1), some (69, true)⟩,
  ⟨some 71, .load none (.t 70), some (69, true)⟩,
  ⟨some 72, .bin .leq (.t 71) (.k (.d (.int .i64 6))), some (69, true)⟩,
  ⟨some 73, .pick (.t 69) (.t 72) (.k (.d (.bool false))), none⟩,
  ⟨some 2, .mov (.t 73), none⟩]
noncomputable def s59 : SCode := (.seq (.region s59r0 1 []) (.seq (.seq (.region s59r1 0 []) (.block 0 (.loop s59l7))) (.seq (.region s59r8 0 []) .ret)))
theorem e59 : AWp P k0 s59 Q st = AWp P k0 (.seq (.region s59r0 1 []) (.seq (.seq (.region s59r1 0 []) (.block 0 (.loop s59l7))) (.seq (.region s59r8 0 []) .ret))) Q st := rfl
theorem u59r0 : goReg P s59r0 o p Q st = goLit P (litOf s59r0.eq_1) o p Q st := goReg_of _
theorem u59r1 : goReg P s59r1 o p Q st = goLit P (litOf s59r1.eq_1) o p Q st := goReg_of _
theorem u59r2 : goReg P s59r2 o p Q st = goLit P (litOf s59r2.eq_1) o p Q st := goReg_of _
theorem u59r3 : goReg P s59r3 o p Q st = goLit P (litOf s59r3.eq_1) o p Q st := goReg_of _
theorem u59r4 : goReg P s59r4 o p Q st = goLit P (litOf s59r4.eq_1) o p Q st := goReg_of _
theorem u59r5 : goReg P s59r5 o p Q st = goLit P (litOf s59r5.eq_1) o p Q st := goReg_of _
theorem u59r6 : goReg P s59r6 o p Q st = goLit P (litOf s59r6.eq_1) o p Q st := goReg_of _
theorem u59r8 : goReg P s59r8 o p Q st = goLit P (litOf s59r8.eq_1) o p Q st := goReg_of _
attribute [go_sem] u59r0 u59r1 u59r2 u59r3 u59r4 u59r5 u59r6 e59l7 u59r8 e59
set_option maxRecDepth 100000 in
theorem F59 : FnIs Try.prog 59 Try.f59 [] news s59 [.tmp 2] 74 := ⟨follows, Try.func59, by kernel_rfl, by kernel_rfl, by kernel_rfl, by kernel_rfl⟩

end

def hasB (v : Bool) (l : List Bool) : Bool := l.any fun b => v == b

def SidxB (l : List Bool) (v : Bool) (i : { i : Nat // (l.take i).any (fun b => v == b) = false }) : St :=
  ⟨[(0, true, .d (.sl 1 (l.map encB))), (1, true, .d (.bool v)), (7, true, .d (.int .i64 l.length)), (8, true, .d (.int .i64 (i.val : Nat)))], [], [], 1⟩

theorem indexB_ok (l : List Bool) (v : Bool) (hl : l.length ≤ 1000) : ACall Try.prog 123 [.d (.sl 1 (l.map encB)), .d (.bool v)] [] (.d (.int .i64 (idx (fun b => v == b) l))) [] := by
  refine F123.go ?_
  try (refine ev ?_; try exact True.intro)
  refine AWp_loop (SidxB l v) (fun i => l.length - i.val) ⟨0, rfl⟩ ?_ (fun i => ?_)
  · try simp only [SidxB, go_sem, Nat.reduceAdd, Nat.reduceMul, Nat.reduceSub, Nat.reduceEqDiff, Nat.reduceLT, Nat.reduceLeDiff, Nat.reduceBEq, reduceIte, reduceCtorEq, Int.reduceAdd, Int.reduceLT, Int.reduceLE, Int.reduceGT, Int.reduceGE, Int.reduceEq, Int.reduceNe, Int.reduceBEq, Int.reduceBNe, Int.reduceToNat, Int.reduceNeg]
  obtain ⟨i, hi⟩ := i
  try simp only [SidxB, go_sem, Nat.reduceAdd, Nat.reduceMul, Nat.reduceSub, Nat.reduceEqDiff, Nat.reduceLT, Nat.reduceLeDiff, Nat.reduceBEq, reduceIte, reduceCtorEq, Int.reduceAdd, Int.reduceLT, Int.reduceLE, Int.reduceGT, Int.reduceGE, Int.reduceEq, Int.reduceNe, Int.reduceBEq, Int.reduceBNe, Int.reduceToNat, Int.reduceNeg]
  (repeat (with_reducible refine ob ?_)); refine iff_ _ (fun h => ?_) (fun h => ?_)
  · have hil : i < l.length := by simpa using h
    simp only [getD_map encB l hil, encB, go_sem, Nat.reduceAdd, Nat.reduceMul, Nat.reduceSub, Nat.reduceEqDiff, Nat.reduceLT, Nat.reduceLeDiff, Nat.reduceBEq, reduceIte, reduceCtorEq, Int.reduceAdd, Int.reduceLT, Int.reduceLE, Int.reduceGT, Int.reduceGE, Int.reduceEq, Int.reduceNe, Int.reduceBEq, Int.reduceBNe, Int.reduceToNat, Int.reduceNeg]
    (repeat (with_reducible refine ob ?_))
    refine iff_ _ (fun h2 => ?_) (fun h2 => ?_)
    · try simp only [idx_some (f := fun b => v == b) hi hil h2, go_sem, Nat.reduceAdd, Nat.reduceMul, Nat.reduceSub, Nat.reduceEqDiff, Nat.reduceLT, Nat.reduceLeDiff, Nat.reduceBEq, reduceIte, reduceCtorEq, Int.reduceAdd, Int.reduceLT, Int.reduceLE, Int.reduceGT, Int.reduceGE, Int.reduceEq, Int.reduceNe, Int.reduceBEq, Int.reduceBNe, Int.reduceToNat, Int.reduceNeg]
    · try (refine ev ?_; try exact True.intro)
      refine ⟨⟨i + 1, take_any_succ hi hil h2⟩, ?_, by dsimp only; omega⟩
      try simp only [SidxB, wrap_succ (show i < 9223372036854775807 by omega), go_sem, Nat.reduceAdd, Nat.reduceMul, Nat.reduceSub, Nat.reduceEqDiff, Nat.reduceLT, Nat.reduceLeDiff, Nat.reduceBEq, reduceIte, reduceCtorEq, Int.reduceAdd, Int.reduceLT, Int.reduceLE, Int.reduceGT, Int.reduceGE, Int.reduceEq, Int.reduceNe, Int.reduceBEq, Int.reduceBNe, Int.reduceToNat, Int.reduceNeg]
  · have hil : l.length ≤ i := by simpa using h
    try simp only [idx_none hi hil, go_sem, Nat.reduceAdd, Nat.reduceMul, Nat.reduceSub, Nat.reduceEqDiff, Nat.reduceLT, Nat.reduceLeDiff, Nat.reduceBEq, reduceIte, reduceCtorEq, Int.reduceAdd, Int.reduceLT, Int.reduceLE, Int.reduceGT, Int.reduceGE, Int.reduceEq, Int.reduceNe, Int.reduceBEq, Int.reduceBNe, Int.reduceToNat, Int.reduceNeg]

theorem containsB_ok (l : List Bool) (v : Bool) (hl : l.length ≤ 1000) : ACall Try.prog 115 [.d (.sl 1 (l.map encB)), .d (.bool v)] [] (.d (.bool (hasB v l))) [] := by
  refine F115.go ?_
  try (refine ev ?_; try exact True.intro)
  (repeat (with_reducible refine ob ?_)); first | refine cl F123 (indexB_ok l v hl) ?_ | refine clF F123 (indexB_ok l v hl) (fun _ => by simp only [encEn, encMg, go_sem, Nat.reduceAdd, Nat.reduceMul, Nat.reduceSub, Nat.reduceEqDiff, Nat.reduceLT, Nat.reduceLeDiff, Nat.reduceBEq, reduceIte, reduceCtorEq, Int.reduceAdd, Int.reduceLT, Int.reduceLE, Int.reduceGT, Int.reduceGE, Int.reduceEq, Int.reduceNe, Int.reduceBEq, Int.reduceBNe, Int.reduceToNat, Int.reduceNeg]) ?_
  try simp only [idx_ge, hasB, go_sem, Nat.reduceAdd, Nat.reduceMul, Nat.reduceSub, Nat.reduceEqDiff, Nat.reduceLT, Nat.reduceLeDiff, Nat.reduceBEq, reduceIte, reduceCtorEq, Int.reduceAdd, Int.reduceLT, Int.reduceLE, Int.reduceGT, Int.reduceGE, Int.reduceEq, Int.reduceNe, Int.reduceBEq, Int.reduceBNe, Int.reduceToNat, Int.reduceNeg]

def upPhase (x : En) : Int :=
  if !hasB false x.moved && !hasB false x.opened then 3 else if !hasB false x.moved then 2 else if hasB true x.opened then 0 else 1

theorem upPhase_ok (x : En) (hx : x.Sm) : ACall Try.prog 88 [.d (.agg (encEn x))] [] (.d (.int .i64 (upPhase x))) [] := by
  refine F88.go ?_
  try simp only [encEn, go_sem, Nat.reduceAdd, Nat.reduceMul, Nat.reduceSub, Nat.reduceEqDiff, Nat.reduceLT, Nat.reduceLeDiff, Nat.reduceBEq, reduceIte, reduceCtorEq, Int.reduceAdd, Int.reduceLT, Int.reduceLE, Int.reduceGT, Int.reduceGE, Int.reduceEq, Int.reduceNe, Int.reduceBEq, Int.reduceBNe, Int.reduceToNat, Int.reduceNeg]
  (repeat (with_reducible refine ob ?_)); first | refine cl F115 (containsB_ok x.moved false hx.1) ?_ | refine clF F115 (containsB_ok x.moved false hx.1) (fun _ => by simp only [encEn, encMg, go_sem, Nat.reduceAdd, Nat.reduceMul, Nat.reduceSub, Nat.reduceEqDiff, Nat.reduceLT, Nat.reduceLeDiff, Nat.reduceBEq, reduceIte, reduceCtorEq, Int.reduceAdd, Int.reduceLT, Int.reduceLE, Int.reduceGT, Int.reduceGE, Int.reduceEq, Int.reduceNe, Int.reduceBEq, Int.reduceBNe, Int.reduceToNat, Int.reduceNeg]) ?_
  try (refine ev ?_; try exact True.intro)
  (repeat (with_reducible refine ob ?_)); first | refine cl F115 (containsB_ok x.opened false hx.2) ?_ | refine clF F115 (containsB_ok x.opened false hx.2) (fun _ => by simp only [encEn, encMg, go_sem, Nat.reduceAdd, Nat.reduceMul, Nat.reduceSub, Nat.reduceEqDiff, Nat.reduceLT, Nat.reduceLeDiff, Nat.reduceBEq, reduceIte, reduceCtorEq, Int.reduceAdd, Int.reduceLT, Int.reduceLE, Int.reduceGT, Int.reduceGE, Int.reduceEq, Int.reduceNe, Int.reduceBEq, Int.reduceBNe, Int.reduceToNat, Int.reduceNeg]) ?_
  try (refine ev ?_; try exact True.intro)
  refine iff_ _ (fun h1 => ?_) (fun h1 => ?_)
  · have e : upPhase x = 3 := by simp_all [upPhase]
    try simp only [e, go_sem, Nat.reduceAdd, Nat.reduceMul, Nat.reduceSub, Nat.reduceEqDiff, Nat.reduceLT, Nat.reduceLeDiff, Nat.reduceBEq, reduceIte, reduceCtorEq, Int.reduceAdd, Int.reduceLT, Int.reduceLE, Int.reduceGT, Int.reduceGE, Int.reduceEq, Int.reduceNe, Int.reduceBEq, Int.reduceBNe, Int.reduceToNat, Int.reduceNeg]
  try (refine ev ?_; try exact True.intro)
  refine iff_ _ (fun h2 => ?_) (fun h2 => ?_)
  · have e : upPhase x = 2 := by simp_all [upPhase]
    try simp only [e, go_sem, Nat.reduceAdd, Nat.reduceMul, Nat.reduceSub, Nat.reduceEqDiff, Nat.reduceLT, Nat.reduceLeDiff, Nat.reduceBEq, reduceIte, reduceCtorEq, Int.reduceAdd, Int.reduceLT, Int.reduceLE, Int.reduceGT, Int.reduceGE, Int.reduceEq, Int.reduceNe, Int.reduceBEq, Int.reduceBNe, Int.reduceToNat, Int.reduceNeg]
  try (refine ev ?_; try exact True.intro)
  (repeat (with_reducible refine ob ?_)); first | refine cl F115 (containsB_ok x.opened true hx.2) ?_ | refine clF F115 (containsB_ok x.opened true hx.2) (fun _ => by simp only [encEn, encMg, go_sem, Nat.reduceAdd, Nat.reduceMul, Nat.reduceSub, Nat.reduceEqDiff, Nat.reduceLT, Nat.reduceLeDiff, Nat.reduceBEq, reduceIte, reduceCtorEq, Int.reduceAdd, Int.reduceLT, Int.reduceLE, Int.reduceGT, Int.reduceGE, Int.reduceEq, Int.reduceNe, Int.reduceBEq, Int.reduceBNe, Int.reduceToNat, Int.reduceNeg]) ?_
  try (refine ev ?_; try exact True.intro)
  refine iff_ _ (fun h3 => ?_) (fun h3 => ?_)
  · have e : upPhase x = 0 := by simp_all [upPhase]
    try simp only [e, go_sem, Nat.reduceAdd, Nat.reduceMul, Nat.reduceSub, Nat.reduceEqDiff, Nat.reduceLT, Nat.reduceLeDiff, Nat.reduceBEq, reduceIte, reduceCtorEq, Int.reduceAdd, Int.reduceLT, Int.reduceLE, Int.reduceGT, Int.reduceGE, Int.reduceEq, Int.reduceNe, Int.reduceBEq, Int.reduceBNe, Int.reduceToNat, Int.reduceNeg]
  · have e : upPhase x = 1 := by simp_all [upPhase]
    try simp only [e, go_sem, Nat.reduceAdd, Nat.reduceMul, Nat.reduceSub, Nat.reduceEqDiff, Nat.reduceLT, Nat.reduceLeDiff, Nat.reduceBEq, reduceIte, reduceCtorEq, Int.reduceAdd, Int.reduceLT, Int.reduceLE, Int.reduceGT, Int.reduceGE, Int.reduceEq, Int.reduceNe, Int.reduceBEq, Int.reduceBNe, Int.reduceToNat, Int.reduceNeg]

theorem w01 : (IntKind.i64.wrap (0 - 1)).toNat = 0 := by decide

def enBad (m : Mg) (i : Nat) : Bool :=
  decide ((m.ents.getD i default).sess < 1) || decide ((m.ents.getD i default).sess > 32) || (decide ((i : Int) > 0) && decide ((m.ents.getD i default).sess ≤ (m.ents.getD (i - 1) default).sess)) ||
  ((m.ents.getD i default).moved.length : Int) != m.roles || ((m.ents.getD i default).opened.length : Int) != m.roles || (m.ents.getD i default).phase == 0 || (m.ents.getD i default).phase != upPhase (m.ents.getD i default)
def upValid (m : Mg) : Bool := allTo (fun i => !enBad m i) m.ents.length && (decide (m.roles ≥ 1) && decide (m.roles ≤ 6))

theorem en0 (m : Mg) (h : 0 < m.ents.length) : (decide (m.ents[0].sess < 1) || decide (m.ents[0].sess > 32) || (m.ents[0].moved.length : Int) != m.roles || (m.ents[0].opened.length : Int) != m.roles || m.ents[0].phase == 0 || m.ents[0].phase != upPhase m.ents[0]) = enBad m 0 := by
  simp only [enBad, getD_lt h, Int.ofNat_zero, decide_false, Bool.false_and, Bool.or_false, Int.natCast_zero, show ¬ ((0 : Int) > 0) by omega]
theorem enk (m : Mg) (k : Nat) (h : k + 1 < m.ents.length) (h' : k < m.ents.length) : (decide (m.ents[k+1].sess < 1) || decide (m.ents[k+1].sess > 32) || (decide ((k : Int) + 1 > 0) && decide (m.ents[k+1].sess ≤ m.ents[k].sess)) || (m.ents[k+1].moved.length : Int) != m.roles || (m.ents[k+1].opened.length : Int) != m.roles || m.ents[k+1].phase == 0 || m.ents[k+1].phase != upPhase m.ents[k+1]) = enBad m (k + 1) := by
  simp only [enBad, getD_lt h, Nat.add_sub_cancel, getD_lt h', Int.natCast_add, Int.cast_ofNat_Int]

def mgObj (m : Mg) : AObj := .row [.d (.int .i64 m.roles), .d (.sl 4 (m.ents.map encEn))]
def SupValid (m : Mg) (i : { i : Nat // allTo (fun i => !enBad m i) i = true }) : St :=
  ⟨[(1, true, .d (.ptr 0 0)), (6, true, .d (.sl 4 (m.ents.map encEn))), (7, true, .d (.int .i64 m.ents.length)), (8, true, .d (.int .i64 (i.val : Nat)))], [mgObj m], [], 1⟩

set_option maxRecDepth 10000 in
theorem upValid_ok (m : Mg) (hm : m.Sm) : ACall Try.prog 59 [.d (.agg (encMg m))] [] (.d (.bool (upValid m))) [] := by
  have hl := hm.1
  refine F59.go ?_
  try simp only [encMg, go_sem, Nat.reduceAdd, Nat.reduceMul, Nat.reduceSub, Nat.reduceEqDiff, Nat.reduceLT, Nat.reduceLeDiff, Nat.reduceBEq, reduceIte, reduceCtorEq, Int.reduceAdd, Int.reduceLT, Int.reduceLE, Int.reduceGT, Int.reduceGE, Int.reduceEq, Int.reduceNe, Int.reduceBEq, Int.reduceBNe, Int.reduceToNat, Int.reduceNeg]
  refine AWp_loop (SupValid m) (fun i => m.ents.length - i.val) ⟨0, rfl⟩ ?_ (fun i => ?_)
  · try simp only [SupValid, mgObj, go_sem, Nat.reduceAdd, Nat.reduceMul, Nat.reduceSub, Nat.reduceEqDiff, Nat.reduceLT, Nat.reduceLeDiff, Nat.reduceBEq, reduceIte, reduceCtorEq, Int.reduceAdd, Int.reduceLT, Int.reduceLE, Int.reduceGT, Int.reduceGE, Int.reduceEq, Int.reduceNe, Int.reduceBEq, Int.reduceBNe, Int.reduceToNat, Int.reduceNeg]
  obtain ⟨i, hi⟩ := i
  try simp only [SupValid, mgObj, go_sem, Nat.reduceAdd, Nat.reduceMul, Nat.reduceSub, Nat.reduceEqDiff, Nat.reduceLT, Nat.reduceLeDiff, Nat.reduceBEq, reduceIte, reduceCtorEq, Int.reduceAdd, Int.reduceLT, Int.reduceLE, Int.reduceGT, Int.reduceGE, Int.reduceEq, Int.reduceNe, Int.reduceBEq, Int.reduceBNe, Int.reduceToNat, Int.reduceNeg]
  (repeat (with_reducible refine ob ?_)); refine iff_ _ (fun h => ?_) (fun h => ?_)
  · have hil : i < m.ents.length := by simpa using h
    have hx := hm.2 _ (List.getElem_mem hil)
    rcases Nat.eq_zero_or_pos i with h0 | h0
    · subst h0
      simp only [getD_map encEn m.ents hil, encEn, Int.toNat_zero, w01, go_sem, Nat.reduceAdd, Nat.reduceMul, Nat.reduceSub, Nat.reduceEqDiff, Nat.reduceLT, Nat.reduceLeDiff, Nat.reduceBEq, reduceIte, reduceCtorEq, Int.reduceAdd, Int.reduceLT, Int.reduceLE, Int.reduceGT, Int.reduceGE, Int.reduceEq, Int.reduceNe, Int.reduceBEq, Int.reduceBNe, Int.reduceToNat, Int.reduceNeg]
      (repeat (with_reducible refine ob ?_))
      (repeat (with_reducible refine ob ?_)); first | refine cl F88 (upPhase_ok m.ents[0] hx) ?_ | refine clF F88 (upPhase_ok m.ents[0] hx) (fun _ => by simp only [encEn, encMg, go_sem, Nat.reduceAdd, Nat.reduceMul, Nat.reduceSub, Nat.reduceEqDiff, Nat.reduceLT, Nat.reduceLeDiff, Nat.reduceBEq, reduceIte, reduceCtorEq, Int.reduceAdd, Int.reduceLT, Int.reduceLE, Int.reduceGT, Int.reduceGE, Int.reduceEq, Int.reduceNe, Int.reduceBEq, Int.reduceBNe, Int.reduceToNat, Int.reduceNeg]) ?_
      try (refine ev ?_; try exact True.intro)
      refine ⟨fun h => by rw [h]; rfl, ?_⟩
      refine AWp_cond (enBad m 0) rfl ?_ (fun h2 => ?_) (fun h2 => ?_)
      · try simp only [en0 m hil, go_sem, Nat.reduceAdd, Nat.reduceMul, Nat.reduceSub, Nat.reduceEqDiff, Nat.reduceLT, Nat.reduceLeDiff, Nat.reduceBEq, reduceIte, reduceCtorEq, Int.reduceAdd, Int.reduceLT, Int.reduceLE, Int.reduceGT, Int.reduceGE, Int.reduceEq, Int.reduceNe, Int.reduceBEq, Int.reduceBNe, Int.reduceToNat, Int.reduceNeg]
      · have hg : (!enBad m 0) = false := by simp [h2]
        try simp only [upValid, allTo_no (g := fun i => !enBad m i) hil hg, go_sem, Nat.reduceAdd, Nat.reduceMul, Nat.reduceSub, Nat.reduceEqDiff, Nat.reduceLT, Nat.reduceLeDiff, Nat.reduceBEq, reduceIte, reduceCtorEq, Int.reduceAdd, Int.reduceLT, Int.reduceLE, Int.reduceGT, Int.reduceGE, Int.reduceEq, Int.reduceNe, Int.reduceBEq, Int.reduceBNe, Int.reduceToNat, Int.reduceNeg]
      · try (refine ev ?_; try exact True.intro)
        refine ⟨⟨1, allTo_step hi (by simp [h2])⟩, ?_, by dsimp only; omega⟩
        try simp only [SupValid, mgObj, show IntKind.i64.wrap 1 = 1 by decide, go_sem, Nat.reduceAdd, Nat.reduceMul, Nat.reduceSub, Nat.reduceEqDiff, Nat.reduceLT, Nat.reduceLeDiff, Nat.reduceBEq, reduceIte, reduceCtorEq, Int.reduceAdd, Int.reduceLT, Int.reduceLE, Int.reduceGT, Int.reduceGE, Int.reduceEq, Int.reduceNe, Int.reduceBEq, Int.reduceBNe, Int.reduceToNat, Int.reduceNeg]
    · obtain ⟨k, rfl⟩ : ∃ k, i = k + 1 := ⟨i - 1, by omega⟩
      have hk : k < m.ents.length := by omega
      have hw : IntKind.i64.wrap (((k : Nat) : Int) + 1 - 1) = ((k : Nat) : Int) := by rw [wrap_i64 (by omega) (by omega)]; omega
      have hw2 : IntKind.i64.wrap (((k : Nat) : Int) + 1 + 1) = ((k : Nat) : Int) + 1 + 1 := by rw [wrap_i64 (by omega) (by omega)]
      simp only [getD_map encEn m.ents hil, getD_map encEn m.ents hk, hw, encEn, go_sem, Nat.reduceAdd, Nat.reduceMul, Nat.reduceSub, Nat.reduceEqDiff, Nat.reduceLT, Nat.reduceLeDiff, Nat.reduceBEq, reduceIte, reduceCtorEq, Int.reduceAdd, Int.reduceLT, Int.reduceLE, Int.reduceGT, Int.reduceGE, Int.reduceEq, Int.reduceNe, Int.reduceBEq, Int.reduceBNe, Int.reduceToNat, Int.reduceNeg]
      (repeat (with_reducible refine ob ?_))
      (repeat (with_reducible refine ob ?_)); first | refine cl F88 (upPhase_ok m.ents[k+1] hx) ?_ | refine clF F88 (upPhase_ok m.ents[k+1] hx) (fun _ => by simp only [encEn, encMg, go_sem, Nat.reduceAdd, Nat.reduceMul, Nat.reduceSub, Nat.reduceEqDiff, Nat.reduceLT, Nat.reduceLeDiff, Nat.reduceBEq, reduceIte, reduceCtorEq, Int.reduceAdd, Int.reduceLT, Int.reduceLE, Int.reduceGT, Int.reduceGE, Int.reduceEq, Int.reduceNe, Int.reduceBEq, Int.reduceBNe, Int.reduceToNat, Int.reduceNeg]) ?_
      try (refine ev ?_; try exact True.intro)
      refine ⟨fun h => by rw [h]; rfl, ?_⟩
      refine AWp_cond (enBad m (k + 1)) rfl ?_ (fun h2 => ?_) (fun h2 => ?_)
      · try simp only [enk m k hil hk, go_sem, Nat.reduceAdd, Nat.reduceMul, Nat.reduceSub, Nat.reduceEqDiff, Nat.reduceLT, Nat.reduceLeDiff, Nat.reduceBEq, reduceIte, reduceCtorEq, Int.reduceAdd, Int.reduceLT, Int.reduceLE, Int.reduceGT, Int.reduceGE, Int.reduceEq, Int.reduceNe, Int.reduceBEq, Int.reduceBNe, Int.reduceToNat, Int.reduceNeg]
      · have hg : (!enBad m (k + 1)) = false := by simp [h2]
        try simp only [upValid, allTo_no (g := fun i => !enBad m i) hil hg, go_sem, Nat.reduceAdd, Nat.reduceMul, Nat.reduceSub, Nat.reduceEqDiff, Nat.reduceLT, Nat.reduceLeDiff, Nat.reduceBEq, reduceIte, reduceCtorEq, Int.reduceAdd, Int.reduceLT, Int.reduceLE, Int.reduceGT, Int.reduceGE, Int.reduceEq, Int.reduceNe, Int.reduceBEq, Int.reduceBNe, Int.reduceToNat, Int.reduceNeg]
      · try (refine ev ?_; try exact True.intro)
        refine ⟨⟨k + 1 + 1, allTo_step hi (by simp [h2])⟩, ?_, by dsimp only; omega⟩
        try simp only [SupValid, mgObj, hw2, go_sem, Nat.reduceAdd, Nat.reduceMul, Nat.reduceSub, Nat.reduceEqDiff, Nat.reduceLT, Nat.reduceLeDiff, Nat.reduceBEq, reduceIte, reduceCtorEq, Int.reduceAdd, Int.reduceLT, Int.reduceLE, Int.reduceGT, Int.reduceGE, Int.reduceEq, Int.reduceNe, Int.reduceBEq, Int.reduceBNe, Int.reduceToNat, Int.reduceNeg]
  · have hil : m.ents.length ≤ i := by simpa using h
    have ha : allTo (fun i => !enBad m i) m.ents.length = true := allTo_iff.2 fun j hj => allTo_iff.1 hi j (by omega)
    try (refine ev ?_; try exact True.intro)
    (repeat (with_reducible refine ob ?_))
    simp only [upValid, ha, go_sem, Nat.reduceAdd, Nat.reduceMul, Nat.reduceSub, Nat.reduceEqDiff, Nat.reduceLT, Nat.reduceLeDiff, Nat.reduceBEq, reduceIte, reduceCtorEq, Int.reduceAdd, Int.reduceLT, Int.reduceLE, Int.reduceGT, Int.reduceGE, Int.reduceEq, Int.reduceNe, Int.reduceBEq, Int.reduceBNe, Int.reduceToNat, Int.reduceNeg]
end Go.Proofs.Ythcpckcgjplhiaa
