/- Texts Ga, Gb, Gc, Gd, Ge, Gg, Da, Gs. -/
import Derived.Test.YthcpckcgjplhiaaMdi
import Derived.Calls
import Derived.Orders
import Derived.Tactics
import Derived.Laws.AppendOwn
import Derived.Laws.Slices
import Derived.Laws.Closers25
import Derived.Laws.StructEq
import Derived.Laws.BytesString
import Derived.Laws.CopyRow
import Derived.IntWalk
import Derived.ProofKit
import Derived.OpenShut
import Derived.Carry
import Derived.Test.YthcpckcgjplhiaaProg
import Derived.KernelRfl
/- Package upgrade: what its small functions answer. -/
namespace Go.Proofs.Ythcpckcgjplhiaa
open Go.Abs
set_option linter.unusedSimpArgs false

/-- upgrade.Entry, farandoleref53.Entry -/
structure En where
  sess : Int
  phase : Int
  moved : List Bool
  opened : List Bool
  deriving DecidableEq, Inhabited
def encB (b : Bool) : List D := [.bool b]
theorem encB_noPtr (b : Bool) : D.noPtrL (encB b) = true := rfl
theorem noPtrR_B (l : List Bool) : D.noPtrR (l.map encB) = true := noPtrR_map encB_noPtr l
def encEn (x : En) : List D := [.int .i64 x.sess, .int .i64 x.phase, .sl 1 (x.moved.map encB), .sl 1 (x.opened.map encB)]
theorem encEn_noPtr (x : En) : D.noPtrL (encEn x) = true := by simp only [encEn, D.noPtrL, D.noPtr, noPtrR_B, Bool.and_self]
theorem noPtrR_En (l : List En) : D.noPtrR (l.map encEn) = true := noPtrR_map encEn_noPtr l
structure Mg where
  roles : Int
  ents : List En
  deriving DecidableEq, Inhabited
def encMg (m : Mg) : List D := [.int .i64 m.roles, .sl 4 (m.ents.map encEn)]
theorem encMg_noPtr (m : Mg) : D.noPtrL (encMg m) = true := by simp only [encMg, D.noPtrL, D.noPtr, noPtrR_En, Bool.and_self]
attribute [go_sem] encB_noPtr noPtrR_B encEn_noPtr noPtrR_En encMg_noPtr

def En.Sm (x : En) : Prop := x.moved.length ≤ 1000 ∧ x.opened.length ≤ 1000
def Mg.Sm (m : Mg) : Prop := m.ents.length ≤ 1000 ∧ ∀ x ∈ m.ents, x.Sm

section
variable {P : Program} {k0 o : Nat} {p : List (Nat × Nat)} {Q : SExit → St → Prop} {st : St}
noncomputable def s123r0 : List SOper := [
  ⟨some 4, .mov (.k (.d (.int .i64 0))), none⟩]
noncomputable def s123r1 : List SOper := [
  ⟨some 6, .mov (.t 0), none⟩,
  ⟨some 7, .len (.t 6), none⟩,
  ⟨some 8, .mov (.k (.d (.int .i64 0))), none⟩]
noncomputable def s123r2 : List SOper := [
  ⟨some 9, .bin .lss (.t 8) (.t 7), none⟩]
noncomputable def s123r3 : List SOper := [
  ⟨some 10, .mov (.t 8), none⟩,
  ⟨some 5, .mov (.t 10), none⟩]
noncomputable def s123r4 : List SOper := [
  ⟨some 11, .mov (.t 1), none⟩,
  ⟨some 12, .mov (.t 0), none⟩,
  ⟨some 13, .mov (.t 5), none⟩,
  ⟨some 14, .iaddr 1 (.t 12) (.t 13), none⟩,
  ⟨some 15, .load none (.t 14), none⟩,
  ⟨some 16, .eqb false (.t 11) (.t 15), none⟩]
noncomputable def s123r5 : List SOper := [
  ⟨some 17, .mov (.t 5), none⟩,
  ⟨some 4, .mov (.t 17), none⟩]
noncomputable def s123r6 : List SOper := [
  ⟨some 18, .bin .add (.t 8) (.k (.d (.int .i64 1))), none⟩,
  ⟨some 8, .mov (.t 18), none⟩]
noncomputable def s123l7 : SCode := (.seq (.region s123r2 0 []) (.seq (.cond (.t 9) .skip (.exit 0)) (.seq (.block 1 (.seq (.region s123r3 0 []) (.seq (.region s123r4 0 []) (.cond (.t 16) (.seq (.region s123r5 0 []) .ret) .skip)))) (.region s123r6 0 []))))
theorem e123l7 : AWp P k0 s123l7 Q st = AWp P k0 (.seq (.region s123r2 0 []) (.seq (.cond (.t 9) .skip (.exit 0)) (.seq (.block 1 (.seq (.region s123r3 0 []) (.seq (.region s123r4 0 []) (.cond (.t 16) (.seq (.region s123r5 0 []) .ret) .skip)))) (.region s123r6 0 [])))) Q st := rfl
noncomputable def s123r8 : List SOper := [
  ⟨some 4, .mov (.k (.d (.int .i64 (-1)))), none⟩]
noncomputable def s123 : SCode := (.seq (.region s123r0 0 []) (.seq (.seq (.region s123r1 0 []) (.block 0 (.loop s123l7))) (.seq (.region s123r8 0 []) .ret)))
theorem e123 : AWp P k0 s123 Q st = AWp P k0 (.seq (.region s123r0 0 []) (.seq (.seq (.region s123r1 0 []) (.block 0 (.loop s123l7))) (.seq (.region s123r8 0 []) .ret))) Q st := rfl
theorem u123r0 : goReg P s123r0 o p Q st = goLit P (litOf s123r0.eq_1) o p Q st := goReg_of _
theorem u123r1 : goReg P s123r1 o p Q st = goLit P (litOf s123r1.eq_1) o p Q st := goReg_of _
theorem u123r2 : goReg P s123r2 o p Q st = goLit P (litOf s123r2.eq_1) o p Q st := goReg_of _
theorem u123r3 : goReg P s123r3 o p Q st = goLit P (litOf s123r3.eq_1) o p Q st := goReg_of _
theorem u123r4 : goReg P s123r4 o p Q st = goLit P (litOf s123r4.eq_1) o p Q st := goReg_of _
theorem u123r5 : goReg P s123r5 o p Q st = goLit P (litOf s123r5.eq_1) o p Q st := goReg_of _
theorem u123r6 : goReg P s123r6 o p Q st = goLit P (litOf s123r6.eq_1) o p Q st := goReg_of _
theorem u123r8 : goReg P s123r8 o p Q st = goLit P (litOf s123r8.eq_1) o p Q st := goReg_of _
attribute [go_sem] u123r0 u123r1 u123r2 u123r3 u123r4 u123r5 u123r6 e123l7 u123r8 e123
set_option maxRecDepth 100000 in
theorem F123 : FnIs Try.prog 123 Try.f123 [] news s123 [.tmp 4] 19 := ⟨follows, Try.func123, by kernel_rfl, by kernel_rfl, by kernel_rfl, by kernel_rfl⟩

noncomputable def s115r0 : List SOper := [
  ⟨some 4, .mov (.k (.d (.bool false))), none⟩]
noncomputable def s115r1 : List SOper := [
  ⟨some 5, .mov (.t 0), none⟩,
  ⟨some 6, .mov (.t 1), none⟩,
  ⟨some 7, .call (.k (.d (.func (.func 123) [] []))) [(.t 5), (.t 6)], none⟩,
  ⟨some 8, .bin .geq (.t 7) (.k (.d (.int .i64 0))), none⟩,
  ⟨some 4, .mov (.t 8), none⟩]
noncomputable def s115 : SCode := (.seq (.region s115r0 0 []) (.seq (.region s115r1 0 []) .ret))
theorem e115 : AWp P k0 s115 Q st = AWp P k0 (.seq (.region s115r0 0 []) (.seq (.region s115r1 0 []) .ret)) Q st := rfl
theorem u115r0 : goReg P s115r0 o p Q st = goLit P (litOf s115r0.eq_1) o p Q st := goReg_of _
theorem u115r1 : goReg P s115r1 o p Q st = goLit P (litOf s115r1.eq_1) o p Q st := goReg_of _
attribute [go_sem] u115r0 u115r1 e115
set_option maxRecDepth 100000 in
theorem F115 : FnIs Try.prog 115 Try.f115 [] news s115 [.tmp 4] 9 := ⟨follows, Try.func115, by kernel_rfl, by kernel_rfl, by kernel_rfl, by kernel_rfl⟩

noncomputable def s88r0 : List SOper := [
  ⟨some 1, .box 1 (.t 0), none⟩,
  ⟨some 2, .mov (.k (.d (.int .i64 0))), none⟩]
noncomputable def s88r1 : List SOper := [
  ⟨some 5, .faddr 2 (.t 1), none⟩,
  ⟨some 6, .load none (.t 5), none⟩,
  ⟨some 7, .call (.k (.d (.func (.func 115) [] []))) [(.t 6), (.k (.d (.bool false)))], none⟩,
  ⟨some 8, .not (.t 7), none⟩,
  ⟨some 9, .faddr 3 (.t 1), none⟩,
  ⟨some 10, .load none (.t 9), none⟩,
  ⟨some 11, .call (.k (.d (.func (.func 115) [] []))) [(.t 10), (.k (.d (.bool false)))], none⟩,
  ⟨some 12, .not (.t 11), none⟩,
  ⟨some 3, .mov (.t 8), none⟩,
  ⟨some 4, .mov (.t 12), none⟩]
noncomputable def s88r2 : List SOper := [
  ⟨some 14, .mov (.t 3), none⟩,
  ⟨some 15, .mov (.t 14), none⟩,
  ⟨some 16, .mov (.t 4), some (15, true)⟩,
  ⟨some 17, .pick (.t 15) (.t 16) (.k (.d (.bool false))), none⟩,
  ⟨some 13, .mov (.t 17), none⟩]
noncomputable def s88r3 : List SOper := [
  ⟨some 2, .mov (.k (.d (.int .i64 3))), none⟩]
noncomputable def s88r4 : List SOper := [
  ⟨some 19, .mov (.t 3), none⟩,
  ⟨some 18, .mov (.t 19), none⟩]
noncomputable def s88r5 : List SOper := [
  ⟨some 2, .mov (.k (.d (.int .i64 2))), none⟩]
noncomputable def s88r6 : List SOper := [
  ⟨some 21, .faddr 3 (.t 1), none⟩,
  ⟨some 22, .load none (.t 21), none⟩,
  ⟨some 23, .call (.k (.d (.func (.func 115) [] []))) [(.t 22), (.k (.d (.bool true)))], none⟩,
  ⟨some 20, .mov (.t 23), none⟩]
noncomputable def s88r7 : List SOper := [
  ⟨some 2, .mov (.k (.d (.int .i64 0))), none⟩]
noncomputable def s88r8 : List SOper := [
  ⟨some 2, .mov (.k (.d (.int .i64 1))), none⟩]
noncomputable def s88 : SCode := (.seq (.region s88r0 1 []) (.seq (.region s88r1 0 [(2, 5)]) (.seq (.block 0 (.seq (.region s88r2 0 []) (.cond (.t 13) (.seq (.region s88r3 0 []) .ret) (.seq (.region s88r4 0 []) (.cond (.t 18) (.seq (.region s88r5 0 []) .ret) (.seq (.region s88r6 0 []) (.cond (.t 20) (.seq (.region s88r7 0 []) .ret) .skip))))))) (.seq (.region s88r8 0 []) .ret))))
theorem e88 : AWp P k0 s88 Q st = AWp P k0 (.seq (.region s88r0 1 []) (.seq (.region s88r1 0 [(2, 5)]) (.seq (.block 0 (.seq (.region s88r2 0 []) (.cond (.t 13) (.seq (.region s88r3 0 []) .ret) (.seq (.region s88r4 0 []) (.cond (.t 18) (.seq (.region s88r5 0 []) .ret) (.seq (.region s88r6 0 []) (.cond (.t 20) (.seq (.region s88r7 0 []) .ret) .skip))))))) (.seq (.region s88r8 0 []) .ret)))) Q st := rfl
theorem u88r0 : goReg P s88r0 o p Q st = goLit P (litOf s88r0.eq_1) o p Q st := goReg_of _
theorem u88r1 : goReg P s88r1 o p Q st = goLit P (litOf s88r1.eq_1) o p Q st := goReg_of _
theorem u88r2 : goReg P s88r2 o p Q st = goLit P (litOf s88r2.eq_1) o p Q st := goReg_of _
theorem u88r3 : goReg P s88r3 o p Q st = goLit P (litOf s88r3.eq_1) o p Q st := goReg_of _
theorem u88r4 : goReg P s88r4 o p Q st = goLit P (litOf s88r4.eq_1) o p Q st := goReg_of _
theorem u88r5 : goReg P s88r5 o p Q st = goLit P (litOf s88r5.eq_1) o p Q st := goReg_of _
theorem u88r6 : goReg P s88r6 o p Q st = goLit P (litOf s88r6.eq_1) o p Q st := goReg_of _
theorem u88r7 : goReg P s88r7 o p Q st = goLit P (litOf s88r7.eq_1) o p Q st := goReg_of _
theorem u88r8 : goReg P s88r8 o p Q st = goLit P (litOf s88r8.eq_1) o p Q st := goReg_of _
attribute [go_sem] u88r0 u88r1 u88r2 u88r3 u88r4 u88r5 u88r6 u88r7 u88r8 e88
set_option maxRecDepth 100000 in
theorem F88 : FnIs Try.prog 88 Try.f88 [] news s88 [.tmp 2] 24 := ⟨follows, Try.func88, by kernel_rfl, by kernel_rfl, by kernel_rfl, by kernel_rfl⟩

noncomputable def s59r0 : List SOper := [
  ⟨some 1, .box 1 (.t 0), none⟩,
  ⟨some 2, .mov (.k (.d (.bool false))), none⟩]
noncomputable def s59r1 : List SOper := [
  ⟨some 5, .faddr 1 (.t 1), none⟩,
  ⟨some 6, .load none (.t 5), none⟩,
  ⟨some 7, .len (.t 6), none⟩,
  ⟨some 8, .mov (.k (.d (.int .i64 0))), none⟩]
noncomputable def s59r2 : List SOper := [
  ⟨some 9, .bin .lss (.t 8) (.t 7), none⟩]
noncomputable def s59r3 : List SOper := [
  ⟨some 10, .mov (.t 8), none⟩,
  ⟨some 11, .iaddr 4 (.t 6) (.t 8), none⟩,
  ⟨some 12, .load (some 4) (.t 11), none⟩,
  ⟨some 4, .alloc 1 [(.d (.int .i64 0)), (.d (.int .i64 0)), (.d .nilsl), (.d .nilsl)], none⟩,
  ⟨some 3, .mov (.t 10), none⟩,
  ⟨none, .store (some 4) (.t 4) (.t 12), none⟩]
noncomputable def s59r4 : List SOper := [
  ⟨some 13, .faddr 0 (.t 4), none⟩,
  ⟨some 14, .load none (.t 13), none⟩,
  ⟨some 15, .bin .lss (.t 14) (.k (.d (.int .i64 1))), none⟩,
  ⟨some 16, .mov (.t 15), none⟩,
  ⟨some 17, .faddr 0 (.t 4), some (16, false)⟩,
  ⟨some 18, .load none (.t 17), some (16, false)⟩,
  ⟨some 19, .bin .gtr (.t 18) (.k (.d (.int .i64 32))), some (16, false)⟩,
  ⟨some 20, .pick (.t 16) (.k (.d (.bool true))) (.t 19), none⟩,
  ⟨some 21, .mov (.t 20), none⟩,
  ⟨some 22, .mov (.t 3), some (21, false)⟩,
  ⟨some 23, .bin .gtr (.t 22) (.k (.d (.int .i64 0))), some (21, false)⟩,
  ⟨some 24, .mov (.t 23), some (21, false)⟩,
  ⟨some 25, .faddr 0 (.t 4), some (24, true)⟩,
  ⟨some 26, .load none (.t 25), some (24, true)⟩,
  ⟨some 27, .faddr 1 (.t 1), some (24, true)⟩,
  ⟨some 28, .load none (.t 27), some (24, true)⟩,
  ⟨some 29, .mov (.t 3), some (24, true)⟩,
  ⟨some 30, .bin .sub (.t 29) (.k (.d (.int .i64 1))), some (24, true)⟩,
  ⟨some 31, .iaddr 4 (.t 28) (.t 30), some (24, true)⟩,
  ⟨some 32, .faddr 0 (.t 31), some (24, true)⟩,
  ⟨some 33, .load none (.t 32), some (24, true)⟩,
  ⟨some 34, .bin .leq (.t 26) (.t 33), some (24, true)⟩,
  ⟨some 35, .pick (.t 24) (.t 34) (.k (.d (.bool false))), some (21, false)⟩,
  ⟨some 36, .pick (.t 21) (.k (.d (.bool true))) (.t 35), none⟩,
  ⟨some 37, .mov (.t 36), none⟩,
  ⟨some 38, .faddr 2 (.t 4), some (37, false)⟩,
  ⟨some 39, .load none (.t 38), some (37, false)⟩,
  ⟨some 40, .len (.t 39), some (37, false)⟩,
  ⟨some 41, .faddr 0 (.t 1), some (37, false)⟩,
  ⟨some 42, .load none (.t 41), some (37, false)⟩,
  ⟨some 43, .bin .neq (.t 40) (.t 42), some (37, false)⟩,
  ⟨some 44, .pick (.t 37) (.k (.d (.bool true))) (.t 43), none⟩,
  ⟨some 45, .mov (.t 44), none⟩,
  ⟨some 46, .faddr 3 (.t 4), some (45, false)⟩,
  ⟨some 47, .load none (.t 46), some (45, false)⟩,
  ⟨some 48, .len (.t 47), some (45, false)⟩,
  ⟨some 49, .faddr 0 (.t 1), some (45, false)⟩,
  ⟨some 50, .load none (.t 49), some (45, false)⟩,
  ⟨some 51, .bin .neq (.t 48) (.t 50), some (45, false)⟩,
  ⟨some 52, .pick (.t 45) (.k (.d (.bool true))) (.t 51), none⟩,
  ⟨some 53, .mov (.t 52), none⟩,
  ⟨some 54, .faddr 1 (.t 4), some (53, false)⟩,
  ⟨some 55, .load none (.t 54), some (53, false)⟩,
  ⟨some 56, .bin .eql (.t 55) (.k (.d (.int .i64 0))), some (53, false)⟩,
  ⟨some 57, .pick (.t 53) (.k (.d (.bool true))) (.t 56), none⟩,
  ⟨some 58, .mov (.t 57), none⟩,
  ⟨some 59, .faddr 1 (.t 4), some (58, false)⟩,
  ⟨some 60, .load none (.t 59), some (58, false)⟩,
  ⟨some 61, .load (some 4) (.t 4), some (58, false)⟩,
  ⟨some 62, .call (.k (.d (.func (.func 88) [] []))) [(.t 61)], some (58, false)⟩,
  ⟨some 63, .bin .neq (.t 60) (.t 62), some (58, false)⟩,
  ⟨some 64, .pick (.t 58) (.k (.d (.bool true))) (.t 63), none⟩]
noncomputable def s59r5 : List SOper := [
  ⟨some 2, .mov (.k (.d (.bool false))), none⟩]
noncomputable def s59r6 : List SOper := [
  ⟨some 65, .bin .add (.t 8) (.k (.d (.int .i64 1))), none⟩,
  ⟨some 8, .mov (.t 65), none⟩]
noncomputable def s59l7 : SCode := (.seq (.region s59r2 0 []) (.seq (.cond (.t 9) .skip (.exit 0)) (.seq (.block 1 (.seq (.region s59r3 1 []) (.seq (.region s59r4 0 [(47, 49)]) (.cond (.t 64) (.seq (.region s59r5 0 []) .ret) .skip)))) (.region s59r6 0 []))))
theorem e59l7 : AWp P k0 s59l7 Q st = AWp P k0 (.seq (.region s59r2 0 []) (.seq (.cond (.t 9) .skip (.exit 0)) (.seq (.block 1 (.seq (.region s59r3 1 []) (.seq (.region s59r4 0 [(47, 49)]) (.cond (.t 64) (.seq (.region s59r5 0 []) .ret) .skip)))) (.region s59r6 0 [])))) Q st := rfl
noncomputable def s59r8 : List SOper := [
  ⟨some 66, .faddr 0 (.t 1), none⟩,
  ⟨some 67, .load none (.t 66), none⟩,
  ⟨some 68, .bin .geq (.t 67) (.k (.d (.int .i64 1))), none⟩,
  ⟨some 69, .mov (.t 68), none⟩,
  ⟨some 70, .faddr 0 (.t 1), some (69, true)⟩,
  ⟨some 71, .load none (.t 70), some (69, true)⟩,
  ⟨some 72, .bin .leq (.t 71) (.k (.d (.int .i64 6))), some (69, true)⟩,
  ⟨some 73, .pick (.t 69) (.t 72) (.k (.d (.bool false))), none⟩,
  ⟨some 2, .mov (.t 73), none⟩]
noncomputable def s59 : SCode := (.seq (.region s59r0 1 []) (.seq (.seq (.region s59r1 0 []) (.block 0 (.loop s59l7))) (.seq (.region s59r8 0 []) .ret)))
theorem e59 : AWp P k0 s59 Q st = AWp P k0 (.seq (.region s59r0 1 []) (.seq (.seq (.region s59r1 0 []) (.block 0 (.loop s59l7))) (.seq (.region s59r8 0 []) .ret))) Q st := rfl
theorem u59r0 : goReg P s59r0 o p Q st = goLit P (litOf s59r0.eq_1) o p Q st := goReg_of _
theorem u59r1 : goReg P s59r1 o p Q st = goLit P (litOf s59r1.eq_1) o p Q st := goReg_of _
theorem u59r2 : goReg P s59r2 o p Q st = goLit P (litOf s59r2.eq_1) o p Q st := goReg_of _
theorem u59r3 : goReg P s59r3 o p Q st = goLit P (litOf s59r3.eq_1) o p Q st := goReg_of _
theorem u59r4 : goReg P s59r4 o p Q st = goLit P (litOf s59r4.eq_1) o p Q st := goReg_of _
theorem u59r5 : goReg P s59r5 o p Q st = goLit P (litOf s59r5.eq_1) o p Q st := goReg_of _
theorem u59r6 : goReg P s59r6 o p Q st = goLit P (litOf s59r6.eq_1) o p Q st := goReg_of _
theorem u59r8 : goReg P s59r8 o p Q st = goLit P (litOf s59r8.eq_1) o p Q st := goReg_of _
attribute [go_sem] u59r0 u59r1 u59r2 u59r3 u59r4 u59r5 u59r6 e59l7 u59r8 e59
set_option maxRecDepth 100000 in
theorem F59 : FnIs Try.prog 59 Try.f59 [] news s59 [.tmp 2] 74 := ⟨follows, Try.func59, by kernel_rfl, by kernel_rfl, by kernel_rfl, by kernel_rfl⟩

end

def hasB (v : Bool) (l : List Bool) : Bool := l.any fun b => v == b

def SidxB (l : List Bool) (v : Bool) (i : { i : Nat // (l.take i).any (fun b => v == b) = false }) : St :=
  ⟨[(0, true, .d (.sl 1 (l.map encB))), (1, true, .d (.bool v)), (7, true, .d (.int .i64 l.length)), (8, true, .d (.int .i64 (i.val : Nat)))], [], [], 1⟩

theorem indexB_ok (l : List Bool) (v : Bool) (hl : l.length ≤ 1000) : ACall Try.prog 123 [.d (.sl 1 (l.map encB)), .d (.bool v)] [] (.d (.int .i64 (idx (fun b => v == b) l))) [] := by
  refine F123.go ?_
  try (refine ev ?_; try exact True.intro)
  refine AWp_loop (SidxB l v) (fun i => l.length - i.val) ⟨0, rfl⟩ ?_ (fun i => ?_)
  · try simp only [SidxB, go_sem, Nat.reduceAdd, Nat.reduceMul, Nat.reduceSub, Nat.reduceEqDiff, Nat.reduceLT, Nat.reduceLeDiff, Nat.reduceBEq, reduceIte, reduceCtorEq, Int.reduceAdd, Int.reduceLT, Int.reduceLE, Int.reduceGT, Int.reduceGE, Int.reduceEq, Int.reduceNe, Int.reduceBEq, Int.reduceBNe, Int.reduceToNat, Int.reduceNeg]
  obtain ⟨i, hi⟩ := i
  try simp only [SidxB, go_sem, Nat.reduceAdd, Nat.reduceMul, Nat.reduceSub, Nat.reduceEqDiff, Nat.reduceLT, Nat.reduceLeDiff, Nat.reduceBEq, reduceIte, reduceCtorEq, Int.reduceAdd, Int.reduceLT, Int.reduceLE, Int.reduceGT, Int.reduceGE, Int.reduceEq, Int.reduceNe, Int.reduceBEq, Int.reduceBNe, Int.reduceToNat, Int.reduceNeg]
  (repeat (with_reducible refine ob ?_)); refine iff_ _ (fun h => ?_) (fun h => ?_)
  · have hil : i < l.length := by simpa using h
    simp only [getD_map encB l hil, encB, go_sem, Nat.reduceAdd, Nat.reduceMul, Nat.reduceSub, Nat.reduceEqDiff, Nat.reduceLT, Nat.reduceLeDiff, Nat.reduceBEq, reduceIte, reduceCtorEq, Int.reduceAdd, Int.reduceLT, Int.reduceLE, Int.reduceGT, Int.reduceGE, Int.reduceEq, Int.reduceNe, Int.reduceBEq, Int.reduceBNe, Int.reduceToNat, Int.reduceNeg]
    (repeat (with_reducible refine ob ?_))
    refine iff_ _ (fun h2 => ?_) (fun h2 => ?_)
    · try simp only [idx_some (f := fun b => v == b) hi hil h2, go_sem, Nat.reduceAdd, Nat.reduceMul, Nat.reduceSub, Nat.reduceEqDiff, Nat.reduceLT, Nat.reduceLeDiff, Nat.reduceBEq, reduceIte, reduceCtorEq, Int.reduceAdd, Int.reduceLT, Int.reduceLE, Int.reduceGT, Int.reduceGE, Int.reduceEq, Int.reduceNe, Int.reduceBEq, Int.reduceBNe, Int.reduceToNat, Int.reduceNeg]
    · try (refine ev ?_; try exact True.intro)
      refine ⟨⟨i + 1, take_any_succ hi hil h2⟩, ?_, by dsimp only; omega⟩
      try simp only [SidxB, wrap_succ (show i < 9223372036854775807 by omega), go_sem, Nat.reduceAdd, Nat.reduceMul, Nat.reduceSub, Nat.reduceEqDiff, Nat.reduceLT, Nat.reduceLeDiff, Nat.reduceBEq, reduceIte, reduceCtorEq, Int.reduceAdd, Int.reduceLT, Int.reduceLE, Int.reduceGT, Int.reduceGE, Int.reduceEq, Int.reduceNe, Int.reduceBEq, Int.reduceBNe, Int.reduceToNat, Int.reduceNeg]
  · have hil : l.length ≤ i := by simpa using h
    try simp only [idx_none hi hil, go_sem, Nat.reduceAdd, Nat.reduceMul, Nat.reduceSub, Nat.reduceEqDiff, Nat.reduceLT, Nat.reduceLeDiff, Nat.reduceBEq, reduceIte, reduceCtorEq, Int.reduceAdd, Int.reduceLT, Int.reduceLE, Int.reduceGT, Int.reduceGE, Int.reduceEq, Int.reduceNe, Int.reduceBEq, Int.reduceBNe, Int.reduceToNat, Int.reduceNeg]

theorem containsB_ok (l : List Bool) (v : Bool) (hl : l.length ≤ 1000) : ACall Try.prog 115 [.d (.sl 1 (l.map encB)), .d (.bool v)] [] (.d (.bool (hasB v l))) [] := by
  refine F115.go ?_
  try (refine ev ?_; try exact True.intro)
  (repeat (with_reducible refine ob ?_)); first | refine cl F123 (indexB_ok l v hl) ?_ | refine clF F123 (indexB_ok l v hl) (fun _ => by simp only [encEn, encMg, go_sem, Nat.reduceAdd, Nat.reduceMul, Nat.reduceSub, Nat.reduceEqDiff, Nat.reduceLT, Nat.reduceLeDiff, Nat.reduceBEq, reduceIte, reduceCtorEq, Int.reduceAdd, Int.reduceLT, Int.reduceLE, Int.reduceGT, Int.reduceGE, Int.reduceEq, Int.reduceNe, Int.reduceBEq, Int.reduceBNe, Int.reduceToNat, Int.reduceNeg]) ?_
  try simp only [idx_ge, hasB, go_sem, Nat.reduceAdd, Nat.reduceMul, Nat.reduceSub, Nat.reduceEqDiff, Nat.reduceLT, Nat.reduceLeDiff, Nat.reduceBEq, reduceIte, reduceCtorEq, Int.reduceAdd, Int.reduceLT, Int.reduceLE, Int.reduceGT, Int.reduceGE, Int.reduceEq, Int.reduceNe, Int.reduceBEq, Int.reduceBNe, Int.reduceToNat, Int.reduceNeg]

def upPhase (x : En) : Int :=
  if !hasB false x.moved && !hasB false x.opened then 3 else if !hasB false x.moved then 2 else if hasB true x.opened then 0 else 1

theorem upPhase_ok (x : En) (hx : x.Sm) : ACall Try.prog 88 [.d (.agg (encEn x))] [] (.d (.int .i64 (upPhase x))) [] := by
  refine F88.go ?_
  try simp only [encEn, go_sem, Nat.reduceAdd, Nat.reduceMul, Nat.reduceSub, Nat.reduceEqDiff, Nat.reduceLT, Nat.reduceLeDiff, Nat.reduceBEq, reduceIte, reduceCtorEq, Int.reduceAdd, Int.reduceLT, Int.reduceLE, Int.reduceGT, Int.reduceGE, Int.reduceEq, Int.reduceNe, Int.reduceBEq, Int.reduceBNe, Int.reduceToNat, Int.reduceNeg]
  (repeat (with_reducible refine ob ?_)); first | refine cl F115 (containsB_ok x.moved false hx.1) ?_ | refine clF F115 (containsB_ok x.moved false hx.1) (fun _ => by simp only [encEn, encMg, go_sem, Nat.reduceAdd, Nat.reduceMul, Nat.reduceSub, Nat.reduceEqDiff, Nat.reduceLT, Nat.reduceLeDiff, Nat.reduceBEq, reduceIte, reduceCtorEq, Int.reduceAdd, Int.reduceLT, Int.reduceLE, Int.reduceGT, Int.reduceGE, Int.reduceEq, Int.reduceNe, Int.reduceBEq, Int.reduceBNe, Int.reduceToNat, Int.reduceNeg]) ?_
  try (refine ev ?_; try exact True.intro)
  (repeat (with_reducible refine ob ?_)); first | refine cl F115 (containsB_ok x.opened false hx.2) ?_ | refine clF F115 (containsB_ok x.opened false hx.2) (fun _ => by simp only [encEn, encMg, go_sem, Nat.reduceAdd, Nat.reduceMul, Nat.reduceSub, Nat.reduceEqDiff, Nat.reduceLT, Nat.reduceLeDiff, Nat.reduceBEq, reduceIte, reduceCtorEq, Int.reduceAdd, Int.reduceLT, Int.reduceLE, Int.reduceGT, Int.reduceGE, Int.reduceEq, Int.reduceNe, Int.reduceBEq, Int.reduceBNe, Int.reduceToNat, Int.reduceNeg]) ?_
  try (refine ev ?_; try exact True.intro)
  refine iff_ _ (fun h1 => ?_) (fun h1 => ?_)
  · have e : upPhase x = 3 := by simp_all [upPhase]
    try simp only [e, go_sem, Nat.reduceAdd, Nat.reduceMul, Nat.reduceSub, Nat.reduceEqDiff, Nat.reduceLT, Nat.reduceLeDiff, Nat.reduceBEq, reduceIte, reduceCtorEq, Int.reduceAdd, Int.reduceLT, Int.reduceLE, Int.reduceGT, Int.reduceGE, Int.reduceEq, Int.reduceNe, Int.reduceBEq, Int.reduceBNe, Int.reduceToNat, Int.reduceNeg]
  try (refine ev ?_; try exact True.intro)
  refine iff_ _ (fun h2 => ?_) (fun h2 => ?_)
  · have e : upPhase x = 2 := by simp_all [upPhase]
    try simp only [e, go_sem, Nat.reduceAdd, Nat.reduceMul, Nat.reduceSub, Nat.reduceEqDiff, Nat.reduceLT, Nat.reduceLeDiff, Nat.reduceBEq, reduceIte, reduceCtorEq, Int.reduceAdd, Int.reduceLT, Int.reduceLE, Int.reduceGT, Int.reduceGE, Int.reduceEq, Int.reduceNe, Int.reduceBEq, Int.reduceBNe, Int.reduceToNat, Int.reduceNeg]
  try (refine ev ?_; try exact True.intro)
  (repeat (with_reducible refine ob ?_)); first | refine cl F115 (containsB_ok x.opened true hx.2) ?_ | refine clF F115 (containsB_ok x.opened true hx.2) (fun _ => by simp only [encEn, encMg, go_sem, Nat.reduceAdd, Nat.reduceMul, Nat.reduceSub, Nat.reduceEqDiff, Nat.reduceLT, Nat.reduceLeDiff, Nat.reduceBEq, reduceIte, reduceCtorEq, Int.reduceAdd, Int.reduceLT, Int.reduceLE, Int.reduceGT, Int.reduceGE, Int.reduceEq, Int.reduceNe, Int.reduceBEq, Int.reduceBNe, Int.reduceToNat, Int.reduceNeg]) ?_
  try (refine ev ?_; try exact True.intro)
  refine iff_ _ (fun h3 => ?_) (fun h3 => ?_)
  · have e : upPhase x = 0 := by simp_all [upPhase]
    try simp only [e, go_sem, Nat.reduceAdd, Nat.reduceMul, Nat.reduceSub, Nat.reduceEqDiff, Nat.reduceLT, Nat.reduceLeDiff, Nat.reduceBEq, reduceIte, reduceCtorEq, Int.reduceAdd, Int.reduceLT, Int.reduceLE, Int.reduceGT, Int.reduceGE, Int.reduceEq, Int.reduceNe, Int.reduceBEq, Int.reduceBNe, Int.reduceToNat, Int.reduceNeg]
  · have e : upPhase x = 1 := by simp_all [upPhase]
    try simp only [e, go_sem, Nat.reduceAdd, Nat.reduceMul, Nat.reduceSub, Nat.reduceEqDiff, Nat.reduceLT, Nat.reduceLeDiff, Nat.reduceBEq, reduceIte, reduceCtorEq, Int.reduceAdd, Int.reduceLT, Int.reduceLE, Int.reduceGT, Int.reduceGE, Int.reduceEq, Int.reduceNe, Int.reduceBEq, Int.reduceBNe, Int.reduceToNat, Int.reduceNeg]

theorem w01 : (IntKind.i64.wrap (0 - 1)).toNat = 0 := by decide

def enBad (m : Mg) (i : Nat) : Bool :=
  decide ((m.ents.getD i default).sess < 1) || decide ((m.ents.getD i default).sess > 32) || (decide ((i : Int) > 0) && decide ((m.ents.getD i default).sess ≤ (m.ents.getD (i - 1) default).sess)) ||
  ((m.ents.getD i default).moved.length : Int) != m.roles || ((m.ents.getD i default).opened.length : Int) != m.roles || (m.ents.getD i default).phase == 0 || (m.ents.getD i default).phase != upPhase (m.ents.getD i default)
def upValid (m : Mg) : Bool := allTo (fun i => !enBad m i) m.ents.length && (decide (m.roles ≥ 1) && decide (m.roles ≤ 6))

theorem en0 (m : Mg) (h : 0 < m.ents.length) : (decide (m.ents[0].sess < 1) || decide (m.ents[0].sess > 32) || (m.ents[0].moved.length : Int) != m.roles || (m.ents[0].opened.length : Int) != m.roles || m.ents[0].phase == 0 || m.ents[0].phase != upPhase m.ents[0]) = enBad m 0 := by
  simp only [enBad, getD_lt h, Int.ofNat_zero, decide_false, Bool.false_and, Bool.or_false, Int.natCast_zero, show ¬ ((0 : Int) > 0) by omega]
theorem enk (m : Mg) (k : Nat) (h : k + 1 < m.ents.length) (h' : k < m.ents.length) : (decide (m.ents[k+1].sess < 1) || decide (m.ents[k+1].sess > 32) || (decide ((k : Int) + 1 > 0) && decide (m.ents[k+1].sess ≤ m.ents[k].sess)) || (m.ents[k+1].moved.length : Int) != m.roles || (m.ents[k+1].opened.length : Int) != m.roles || m.ents[k+1].phase == 0 || m.ents[k+1].phase != upPhase m.ents[k+1]) = enBad m (k + 1) := by
  simp only [enBad, getD_lt h, Nat.add_sub_cancel, getD_lt h', Int.natCast_add, Int.cast_ofNat_Int]

def mgObj (m : Mg) : AObj := .row [.d (.int .i64 m.roles), .d (.sl 4 (m.ents.map encEn))]
def SupValid (m : Mg) (i : { i : Nat // allTo (fun i => !enBad m i) i = true }) : St :=
  ⟨[(1, true, .d (.ptr 0 0)), (6, true, .d (.sl 4 (m.ents.map encEn))), (7, true, .d (.int .i64 m.ents.length)), (8, true, .d (.int .i64 (i.val : Nat)))], [mgObj m], [], 1⟩

set_option maxRecDepth 10000 in
theorem upValid_ok (m : Mg) (hm : m.Sm) : ACall Try.prog 59 [.d (.agg (encMg m))] [] (.d (.bool (upValid m))) [] := by
  have hl := hm.1
  refine F59.go ?_
  try simp only [encMg, go_sem, Nat.reduceAdd, Nat.reduceMul, Nat.reduceSub, Nat.reduceEqDiff, Nat.reduceLT, Nat.reduceLeDiff, Nat.reduceBEq, reduceIte, reduceCtorEq, Int.reduceAdd, Int.reduceLT, Int.reduceLE, Int.reduceGT, Int.reduceGE, Int.reduceEq, Int.reduceNe, Int.reduceBEq, Int.reduceBNe, Int.reduceToNat, Int.reduceNeg]
  refine AWp_loop (SupValid m) (fun i => m.ents.length - i.val) ⟨0, rfl⟩ ?_ (fun i => ?_)
  · try simp only [SupValid, mgObj, go_sem, Nat.reduceAdd, Nat.reduceMul, Nat.reduceSub, Nat.reduceEqDiff, Nat.reduceLT, Nat.reduceLeDiff, Nat.reduceBEq, reduceIte, reduceCtorEq, Int.reduceAdd, Int.reduceLT, Int.reduceLE, Int.reduceGT, Int.reduceGE, Int.reduceEq, Int.reduceNe, Int.reduceBEq, Int.reduceBNe, Int.reduceToNat, Int.reduceNeg]
  obtain ⟨i, hi⟩ := i
  try simp only [SupValid, mgObj, go_sem, Nat.reduceAdd, Nat.reduceMul, Nat.reduceSub, Nat.reduceEqDiff, Nat.reduceLT, Nat.reduceLeDiff, Nat.reduceBEq, reduceIte, reduceCtorEq, Int.reduceAdd, Int.reduceLT, Int.reduceLE, Int.reduceGT, Int.reduceGE, Int.reduceEq, Int.reduceNe, Int.reduceBEq, Int.reduceBNe, Int.reduceToNat, Int.reduceNeg]
  (repeat (with_reducible refine ob ?_)); refine iff_ _ (fun h => ?_) (fun h => ?_)
  · have hil : i < m.ents.length := by simpa using h
    have hx := hm.2 _ (List.getElem_mem hil)
    rcases Nat.eq_zero_or_pos i with h0 | h0
    · subst h0
      simp only [getD_map encEn m.ents hil, encEn, Int.toNat_zero, w01, go_sem, Nat.reduceAdd, Nat.reduceMul, Nat.reduceSub, Nat.reduceEqDiff, Nat.reduceLT, Nat.reduceLeDiff, Nat.reduceBEq, reduceIte, reduceCtorEq, Int.reduceAdd, Int.reduceLT, Int.reduceLE, Int.reduceGT, Int.reduceGE, Int.reduceEq, Int.reduceNe, Int.reduceBEq, Int.reduceBNe, Int.reduceToNat, Int.reduceNeg]
      (repeat (with_reducible refine ob ?_))
      (repeat (with_reducible refine ob ?_)); first | refine cl F88 (upPhase_ok m.ents[0] hx) ?_ | refine clF F88 (upPhase_ok m.ents[0] hx) (fun _ => by simp only [encEn, encMg, go_sem, Nat.reduceAdd, Nat.reduceMul, Nat.reduceSub, Nat.reduceEqDiff, Nat.reduceLT, Nat.reduceLeDiff, Nat.reduceBEq, reduceIte, reduceCtorEq, Int.reduceAdd, Int.reduceLT, Int.reduceLE, Int.reduceGT, Int.reduceGE, Int.reduceEq, Int.reduceNe, Int.reduceBEq, Int.reduceBNe, Int.reduceToNat, Int.reduceNeg]) ?_
      try (refine ev ?_; try exact True.intro)
      refine ⟨fun h => by rw [h]; rfl, ?_⟩
      refine AWp_cond (enBad m 0) rfl ?_ (fun h2 => ?_) (fun h2 => ?_)
      · try simp only [en0 m hil, go_sem, Nat.reduceAdd, Nat.reduceMul, Nat.reduceSub, Nat.reduceEqDiff, Nat.reduceLT, Nat.reduceLeDiff, Nat.reduceBEq, reduceIte, reduceCtorEq, Int.reduceAdd, Int.reduceLT, Int.reduceLE, Int.reduceGT, Int.reduceGE, Int.reduceEq, Int.reduceNe, Int.reduceBEq, Int.reduceBNe, Int.reduceToNat, Int.reduceNeg]
      · have hg : (!enBad m 0) = false := by simp [h2]
        try simp only [upValid, allTo_no (g := fun i => !enBad m i) hil hg, go_sem, Nat.reduceAdd, Nat.reduceMul, Nat.reduceSub, Nat.reduceEqDiff, Nat.reduceLT, Nat.reduceLeDiff, Nat.reduceBEq, reduceIte, reduceCtorEq, Int.reduceAdd, Int.reduceLT, Int.reduceLE, Int.reduceGT, Int.reduceGE, Int.reduceEq, Int.reduceNe, Int.reduceBEq, Int.reduceBNe, Int.reduceToNat, Int.reduceNeg]
      · try (refine ev ?_; try exact True.intro)
        refine ⟨⟨1, allTo_step hi (by simp [h2])⟩, ?_, by dsimp only; omega⟩
        try simp only [SupValid, mgObj, show IntKind.i64.wrap 1 = 1 by decide, go_sem, Nat.reduceAdd, Nat.reduceMul, Nat.reduceSub, Nat.reduceEqDiff, Nat.reduceLT, Nat.reduceLeDiff, Nat.reduceBEq, reduceIte, reduceCtorEq, Int.reduceAdd, Int.reduceLT, Int.reduceLE, Int.reduceGT, Int.reduceGE, Int.reduceEq, Int.reduceNe, Int.reduceBEq, Int.reduceBNe, Int.reduceToNat, Int.reduceNeg]
    · obtain ⟨k, rfl⟩ : ∃ k, i = k + 1 := ⟨i - 1, by omega⟩
      have hk : k < m.ents.length := by omega
      have hw : IntKind.i64.wrap (((k : Nat) : Int) + 1 - 1) = ((k : Nat) : Int) := by rw [wrap_i64 (by omega) (by omega)]; omega
      have hw2 : IntKind.i64.wrap (((k : Nat) : Int) + 1 + 1) = ((k : Nat) : Int) + 1 + 1 := by rw [wrap_i64 (by omega) (by omega)]
      simp only [getD_map encEn m.ents hil, getD_map encEn m.ents hk, hw, encEn, go_sem, Nat.reduceAdd, Nat.reduceMul, Nat.reduceSub, Nat.reduceEqDiff, Nat.reduceLT, Nat.reduceLeDiff, Nat.reduceBEq, reduceIte, reduceCtorEq, Int.reduceAdd, Int.reduceLT, Int.reduceLE, Int.reduceGT, Int.reduceGE, Int.reduceEq, Int.reduceNe, Int.reduceBEq, Int.reduceBNe, Int.reduceToNat, Int.reduceNeg]
      (repeat (with_reducible refine ob ?_))
      (repeat (with_reducible refine ob ?_)); first | refine cl F88 (upPhase_ok m.ents[k+1] hx) ?_ | refine clF F88 (upPhase_ok m.ents[k+1] hx) (fun _ => by simp only [encEn, encMg, go_sem, Nat.reduceAdd, Nat.reduceMul, Nat.reduceSub, Nat.reduceEqDiff, Nat.reduceLT, Nat.reduceLeDiff, Nat.reduceBEq, reduceIte, reduceCtorEq, Int.reduceAdd, Int.reduceLT, Int.reduceLE, Int.reduceGT, Int.reduceGE, Int.reduceEq, Int.reduceNe, Int.reduceBEq, Int.reduceBNe, Int.reduceToNat, Int.reduceNeg]) ?_
      try (refine ev ?_; try exact True.intro)
      refine ⟨fun h => by rw [h]; rfl, ?_⟩
      refine AWp_cond (enBad m (k + 1)) rfl ?_ (fun h2 => ?_) (fun h2 => ?_)
      · try simp only [enk m k hil hk, go_sem, Nat.reduceAdd, Nat.reduceMul, Nat.reduceSub, Nat.reduceEqDiff, Nat.reduceLT, Nat.reduceLeDiff, Nat.reduceBEq, reduceIte, reduceCtorEq, Int.reduceAdd, Int.reduceLT, Int.reduceLE, Int.reduceGT, Int.reduceGE, Int.reduceEq, Int.reduceNe, Int.reduceBEq, Int.reduceBNe, Int.reduceToNat, Int.reduceNeg]
      · have hg : (!enBad m (k + 1)) = false := by simp [h2]
        try simp only [upValid, allTo_no (g := fun i => !enBad m i) hil hg, go_sem, Nat.reduceAdd, Nat.reduceMul, Nat.reduceSub, Nat.reduceEqDiff, Nat.reduceLT, Nat.reduceLeDiff, Nat.reduceBEq, reduceIte, reduceCtorEq, Int.reduceAdd, Int.reduceLT, Int.reduceLE, Int.reduceGT, Int.reduceGE, Int.reduceEq, Int.reduceNe, Int.reduceBEq, Int.reduceBNe, Int.reduceToNat, Int.reduceNeg]
      · try (refine ev ?_; try exact True.intro)
        refine ⟨⟨k + 1 + 1, allTo_step hi (by simp [h2])⟩, ?_, by dsimp only; omega⟩
        try simp only [SupValid, mgObj, hw2, go_sem, Nat.reduceAdd, Nat.reduceMul, Nat.reduceSub, Nat.reduceEqDiff, Nat.reduceLT, Nat.reduceLeDiff, Nat.reduceBEq, reduceIte, reduceCtorEq, Int.reduceAdd, Int.reduceLT, Int.reduceLE, Int.reduceGT, Int.reduceGE, Int.reduceEq, Int.reduceNe, Int.reduceBEq, Int.reduceBNe, Int.reduceToNat, Int.reduceNeg]
  · have hil : m.ents.length ≤ i := by simpa using h
    have ha : allTo (fun i => !enBad m i) m.ents.length = true := allTo_iff.2 fun j hj => allTo_iff.1 hi j (by omega)
    try (refine ev ?_; try exact True.intro)
    (repeat (with_reducible refine ob ?_))
    simp only [upValid, ha, go_sem, Nat.reduceAdd, Nat.reduceMul, Nat.reduceSub, Nat.reduceEqDiff, Nat.reduceLT, Nat.reduceLeDiff, Nat.reduceBEq, reduceIte, reduceCtorEq, Int.reduceAdd, Int.reduceLT, Int.reduceLE, Int.reduceGT, Int.reduceGE, Int.reduceEq, Int.reduceNe, Int.reduceBEq, Int.reduceBNe, Int.reduceToNat, Int.reduceNeg]
end Go.Proofs.Ythcpckcgjplhiaa

/- Package upgrade: searches and comparisons. -/
namespace Go.Proofs.Ythcpckcgjplhiaa
open Go.Abs
set_option linter.unusedSimpArgs false

section
variable {P : Program} {k0 o : Nat} {p : List (Nat × Nat)} {Q : SExit → St → Prop} {st : St}
noncomputable def s110r0 : List SOper := [
  ⟨some 2, .box 1 (.t 0), none⟩,
  ⟨some 3, .mov (.k (.d (.bool false))), none⟩]
noncomputable def s110r1 : List SOper := [
  ⟨some 4, .faddr 0 (.t 2), none⟩,
  ⟨some 5, .load none (.t 4), none⟩,
  ⟨some 6, .load none (.t 1), none⟩,
  ⟨some 7, .bin .geq (.t 5) (.t 6), none⟩,
  ⟨some 3, .mov (.t 7), none⟩]
noncomputable def s110 : SCode := (.seq (.region s110r0 1 []) (.seq (.region s110r1 0 []) .ret))
theorem e110 : AWp P k0 s110 Q st = AWp P k0 (.seq (.region s110r0 1 []) (.seq (.region s110r1 0 []) .ret)) Q st := rfl
theorem u110r0 : goReg P s110r0 o p Q st = goLit P (litOf s110r0.eq_1) o p Q st := goReg_of _
theorem u110r1 : goReg P s110r1 o p Q st = goLit P (litOf s110r1.eq_1) o p Q st := goReg_of _
attribute [go_sem] u110r0 u110r1 e110
set_option maxRecDepth 100000 in
theorem F110 : FnIs Try.prog 110 Try.f110 [] news s110 [.tmp 3] 8 := ⟨follows, Try.func110, by kernel_rfl, by kernel_rfl, by kernel_rfl, by kernel_rfl⟩

noncomputable def s84r0 : List SOper := [
  ⟨some 2, .box 1 (.t 0), none⟩,
  ⟨some 3, .mov (.k (.d (.bool false))), none⟩]
noncomputable def s84r1 : List SOper := [
  ⟨some 4, .faddr 0 (.t 2), none⟩,
  ⟨some 5, .load none (.t 4), none⟩,
  ⟨some 6, .load none (.t 1), none⟩,
  ⟨some 7, .bin .eql (.t 5) (.t 6), none⟩,
  ⟨some 3, .mov (.t 7), none⟩]
noncomputable def s84 : SCode := (.seq (.region s84r0 1 []) (.seq (.region s84r1 0 []) .ret))
theorem e84 : AWp P k0 s84 Q st = AWp P k0 (.seq (.region s84r0 1 []) (.seq (.region s84r1 0 []) .ret)) Q st := rfl
theorem u84r0 : goReg P s84r0 o p Q st = goLit P (litOf s84r0.eq_1) o p Q st := goReg_of _
theorem u84r1 : goReg P s84r1 o p Q st = goLit P (litOf s84r1.eq_1) o p Q st := goReg_of _
attribute [go_sem] u84r0 u84r1 e84
set_option maxRecDepth 100000 in
theorem F84 : FnIs Try.prog 84 Try.f84 [] news s84 [.tmp 3] 8 := ⟨follows, Try.func84, by kernel_rfl, by kernel_rfl, by kernel_rfl, by kernel_rfl⟩

noncomputable def s83r0 : List SOper := [
  ⟨some 4, .mov (.k (.d (.int .i64 0))), none⟩]
noncomputable def s83r1 : List SOper := [
  ⟨some 6, .mov (.t 0), none⟩,
  ⟨some 7, .len (.t 6), none⟩,
  ⟨some 8, .mov (.k (.d (.int .i64 0))), none⟩]
noncomputable def s83r2 : List SOper := [
  ⟨some 9, .bin .lss (.t 8) (.t 7), none⟩]
noncomputable def s83r3 : List SOper := [
  ⟨some 10, .mov (.t 8), none⟩,
  ⟨some 5, .mov (.t 10), none⟩]
noncomputable def s83r4 : List SOper := [
  ⟨some 11, .mov (.t 1), none⟩,
  ⟨some 12, .mov (.t 0), none⟩,
  ⟨some 13, .mov (.t 5), none⟩,
  ⟨some 14, .iaddr 4 (.t 12) (.t 13), none⟩,
  ⟨some 15, .load (some 4) (.t 14), none⟩,
  ⟨some 16, .call (.t 11) [(.t 15)], none⟩]
noncomputable def s83r5 : List SOper := [
  ⟨some 17, .mov (.t 5), none⟩,
  ⟨some 4, .mov (.t 17), none⟩]
noncomputable def s83r6 : List SOper := [
  ⟨some 18, .bin .add (.t 8) (.k (.d (.int .i64 1))), none⟩,
  ⟨some 8, .mov (.t 18), none⟩]
noncomputable def s83l7 : SCode := (.seq (.region s83r2 0 []) (.seq (.cond (.t 9) .skip (.exit 0)) (.seq (.block 1 (.seq (.region s83r3 0 []) (.seq (.region s83r4 0 []) (.cond (.t 16) (.seq (.region s83r5 0 []) .ret) .skip)))) (.region s83r6 0 []))))
theorem e83l7 : AWp P k0 s83l7 Q st = AWp P k0 (.seq (.region s83r2 0 []) (.seq (.cond (.t 9) .skip (.exit 0)) (.seq (.block 1 (.seq (.region s83r3 0 []) (.seq (.region s83r4 0 []) (.cond (.t 16) (.seq (.region s83r5 0 []) .ret) .skip)))) (.region s83r6 0 [])))) Q st := rfl
noncomputable def s83r8 : List SOper := [
  ⟨some 4, .mov (.k (.d (.int .i64 (-1)))), none⟩]
noncomputable def s83 : SCode := (.seq (.region s83r0 0 []) (.seq (.seq (.region s83r1 0 []) (.block 0 (.loop s83l7))) (.seq (.region s83r8 0 []) .ret)))
theorem e83 : AWp P k0 s83 Q st = AWp P k0 (.seq (.region s83r0 0 []) (.seq (.seq (.region s83r1 0 []) (.block 0 (.loop s83l7))) (.seq (.region s83r8 0 []) .ret))) Q st := rfl
theorem u83r0 : goReg P s83r0 o p Q st = goLit P (litOf s83r0.eq_1) o p Q st := goReg_of _
theorem u83r1 : goReg P s83r1 o p Q st = goLit P (litOf s83r1.eq_1) o p Q st := goReg_of _
theorem u83r2 : goReg P s83r2 o p Q st = goLit P (litOf s83r2.eq_1) o p Q st := goReg_of _
theorem u83r3 : goReg P s83r3 o p Q st = goLit P (litOf s83r3.eq_1) o p Q st := goReg_of _
theorem u83r4 : goReg P s83r4 o p Q st = goLit P (litOf s83r4.eq_1) o p Q st := goReg_of _
theorem u83r5 : goReg P s83r5 o p Q st = goLit P (litOf s83r5.eq_1) o p Q st := goReg_of _
theorem u83r6 : goReg P s83r6 o p Q st = goLit P (litOf s83r6.eq_1) o p Q st := goReg_of _
theorem u83r8 : goReg P s83r8 o p Q st = goLit P (litOf s83r8.eq_1) o p Q st := goReg_of _
attribute [go_sem] u83r0 u83r1 u83r2 u83r3 u83r4 u83r5 u83r6 e83l7 u83r8 e83
set_option maxRecDepth 100000 in
theorem F83 : FnIs Try.prog 83 Try.f83 [] news s83 [.tmp 4] 19 := ⟨follows, Try.func83, by kernel_rfl, by kernel_rfl, by kernel_rfl, by kernel_rfl⟩

noncomputable def s85r0 : List SOper := [
  ⟨some 2, .box 2 (.t 0), none⟩,
  ⟨some 3, .box 1 (.t 1), none⟩,
  ⟨some 4, .mov (.k (.d (.int .i64 0))), none⟩,
  ⟨some 5, .mov (.k (.d (.bool false))), none⟩]
noncomputable def s85r1 : List SOper := [
  ⟨some 7, .faddr 1 (.t 2), none⟩,
  ⟨some 8, .load none (.t 7), none⟩,
  ⟨some 9, .mkFunc (.func 110) [] [(.t 3)], none⟩,
  ⟨some 10, .call (.k (.d (.func (.func 83) [] []))) [(.t 8), (.t 9)], none⟩,
  ⟨some 6, .mov (.t 10), none⟩]
noncomputable def s85r2 : List SOper := [
  ⟨some 11, .mov (.t 6), none⟩,
  ⟨some 12, .bin .lss (.t 11) (.k (.d (.int .i64 0))), none⟩]
noncomputable def s85r3 : List SOper := [
  ⟨some 13, .faddr 1 (.t 2), none⟩,
  ⟨some 14, .load none (.t 13), none⟩,
  ⟨some 15, .len (.t 14), none⟩,
  ⟨some 4, .mov (.t 15), none⟩,
  ⟨some 5, .mov (.k (.d (.bool false))), none⟩]
noncomputable def s85r4 : List SOper := [
  ⟨some 16, .mov (.t 6), none⟩,
  ⟨some 17, .faddr 1 (.t 2), none⟩,
  ⟨some 18, .load none (.t 17), none⟩,
  ⟨some 19, .mov (.t 6), none⟩,
  ⟨some 20, .iaddr 4 (.t 18) (.t 19), none⟩,
  ⟨some 21, .faddr 0 (.t 20), none⟩,
  ⟨some 22, .load none (.t 21), none⟩,
  ⟨some 23, .load none (.t 3), none⟩,
  ⟨some 24, .bin .eql (.t 22) (.t 23), none⟩,
  ⟨some 4, .mov (.t 16), none⟩,
  ⟨some 5, .mov (.t 24), none⟩]
noncomputable def s85 : SCode := (.seq (.region s85r0 2 []) (.seq (.region s85r1 0 []) (.seq (.seq (.region s85r2 0 []) (.cond (.t 12) (.seq (.region s85r3 0 []) .ret) .skip)) (.seq (.region s85r4 0 []) .ret))))
theorem e85 : AWp P k0 s85 Q st = AWp P k0 (.seq (.region s85r0 2 []) (.seq (.region s85r1 0 []) (.seq (.seq (.region s85r2 0 []) (.cond (.t 12) (.seq (.region s85r3 0 []) .ret) .skip)) (.seq (.region s85r4 0 []) .ret)))) Q st := rfl
theorem u85r0 : goReg P s85r0 o p Q st = goLit P (litOf s85r0.eq_1) o p Q st := goReg_of _
theorem u85r1 : goReg P s85r1 o p Q st = goLit P (litOf s85r1.eq_1) o p Q st := goReg_of _
theorem u85r2 : goReg P s85r2 o p Q st = goLit P (litOf s85r2.eq_1) o p Q st := goReg_of _
theorem u85r3 : goReg P s85r3 o p Q st = goLit P (litOf s85r3.eq_1) o p Q st := goReg_of _
theorem u85r4 : goReg P s85r4 o p Q st = goLit P (litOf s85r4.eq_1) o p Q st := goReg_of _
attribute [go_sem] u85r0 u85r1 u85r2 u85r3 u85r4 e85
set_option maxRecDepth 100000 in
theorem F85 : FnIs Try.prog 85 Try.f85 [] news s85 [.tmp 4, .tmp 5] 25 := ⟨follows, Try.func85, by kernel_rfl, by kernel_rfl, by kernel_rfl, by kernel_rfl⟩

noncomputable def s50r0 : List SOper := [
  ⟨some 2, .box 2 (.t 0), none⟩,
  ⟨some 3, .box 1 (.t 1), none⟩,
  ⟨some 4, .mov (.k (.d (.int .i64 0))), none⟩]
noncomputable def s50r1 : List SOper := [
  ⟨some 6, .faddr 1 (.t 2), none⟩,
  ⟨some 7, .load none (.t 6), none⟩,
  ⟨some 8, .mkFunc (.func 84) [] [(.t 3)], none⟩,
  ⟨some 9, .call (.k (.d (.func (.func 83) [] []))) [(.t 7), (.t 8)], none⟩,
  ⟨some 5, .mov (.t 9), none⟩]
noncomputable def s50r2 : List SOper := [
  ⟨some 10, .mov (.t 5), none⟩,
  ⟨some 11, .bin .lss (.t 10) (.k (.d (.int .i64 0))), none⟩]
noncomputable def s50r3 : List SOper := [
  ⟨some 4, .mov (.k (.d (.int .i64 0))), none⟩]
noncomputable def s50r4 : List SOper := [
  ⟨some 12, .faddr 1 (.t 2), none⟩,
  ⟨some 13, .load none (.t 12), none⟩,
  ⟨some 14, .mov (.t 5), none⟩,
  ⟨some 15, .iaddr 4 (.t 13) (.t 14), none⟩,
  ⟨some 16, .faddr 1 (.t 15), none⟩,
  ⟨some 17, .load none (.t 16), none⟩,
  ⟨some 4, .mov (.t 17), none⟩]
noncomputable def s50 : SCode := (.seq (.region s50r0 2 []) (.seq (.region s50r1 0 []) (.seq (.seq (.region s50r2 0 []) (.cond (.t 11) (.seq (.region s50r3 0 []) .ret) .skip)) (.seq (.region s50r4 0 []) .ret))))
theorem e50 : AWp P k0 s50 Q st = AWp P k0 (.seq (.region s50r0 2 []) (.seq (.region s50r1 0 []) (.seq (.seq (.region s50r2 0 []) (.cond (.t 11) (.seq (.region s50r3 0 []) .ret) .skip)) (.seq (.region s50r4 0 []) .ret)))) Q st := rfl
theorem u50r0 : goReg P s50r0 o p Q st = goLit P (litOf s50r0.eq_1) o p Q st := goReg_of _
theorem u50r1 : goReg P s50r1 o p Q st = goLit P (litOf s50r1.eq_1) o p Q st := goReg_of _
theorem u50r2 : goReg P s50r2 o p Q st = goLit P (litOf s50r2.eq_1) o p Q st := goReg_of _
theorem u50r3 : goReg P s50r3 o p Q st = goLit P (litOf s50r3.eq_1) o p Q st := goReg_of _
theorem u50r4 : goReg P s50r4 o p Q st = goLit P (litOf s50r4.eq_1) o p Q st := goReg_of _
attribute [go_sem] u50r0 u50r1 u50r2 u50r3 u50r4 e50
set_option maxRecDepth 100000 in
theorem F50 : FnIs Try.prog 50 Try.f50 [] news s50 [.tmp 4] 18 := ⟨follows, Try.func50, by kernel_rfl, by kernel_rfl, by kernel_rfl, by kernel_rfl⟩

noncomputable def s118r0 : List SOper := [
  ⟨some 4, .mov (.k (.d (.bool false))), none⟩]
noncomputable def s118r1 : List SOper := [
  ⟨some 6, .mov (.t 0), none⟩,
  ⟨some 7, .len (.t 6), none⟩,
  ⟨some 8, .mov (.t 1), none⟩,
  ⟨some 9, .len (.t 8), none⟩,
  ⟨some 10, .bin .neq (.t 7) (.t 9), none⟩]
noncomputable def s118r2 : List SOper := [
  ⟨some 4, .mov (.k (.d (.bool false))), none⟩]
noncomputable def s118r3 : List SOper := [
  ⟨some 11, .mov (.t 0), none⟩,
  ⟨some 12, .len (.t 11), none⟩,
  ⟨some 13, .mov (.k (.d (.int .i64 0))), none⟩]
noncomputable def s118r4 : List SOper := [
  ⟨some 14, .bin .lss (.t 13) (.t 12), none⟩]
noncomputable def s118r5 : List SOper := [
  ⟨some 15, .mov (.t 13), none⟩,
  ⟨some 5, .mov (.t 15), none⟩]
noncomputable def s118r6 : List SOper := [
  ⟨some 16, .mov (.t 0), none⟩,
  ⟨some 17, .mov (.t 5), none⟩,
  ⟨some 18, .iaddr 1 (.t 16) (.t 17), none⟩,
  ⟨some 19, .load none (.t 18), none⟩,
  ⟨some 20, .mov (.t 1), none⟩,
  ⟨some 21, .mov (.t 5), none⟩,
  ⟨some 22, .iaddr 1 (.t 20) (.t 21), none⟩,
  ⟨some 23, .load none (.t 22), none⟩,
  ⟨some 24, .eqb true (.t 19) (.t 23), none⟩]
noncomputable def s118r7 : List SOper := [
  ⟨some 4, .mov (.k (.d (.bool false))), none⟩]
noncomputable def s118r8 : List SOper := [
  ⟨some 25, .bin .add (.t 13) (.k (.d (.int .i64 1))), none⟩,
  ⟨some 13, .mov (.t 25), none⟩]
noncomputable def s118l9 : SCode := (.seq (.region s118r4 0 []) (.seq (.cond (.t 14) .skip (.exit 0)) (.seq (.block 1 (.seq (.region s118r5 0 []) (.seq (.region s118r6 0 []) (.cond (.t 24) (.seq (.region s118r7 0 []) .ret) .skip)))) (.region s118r8 0 []))))
theorem e118l9 : AWp P k0 s118l9 Q st = AWp P k0 (.seq (.region s118r4 0 []) (.seq (.cond (.t 14) .skip (.exit 0)) (.seq (.block 1 (.seq (.region s118r5 0 []) (.seq (.region s118r6 0 []) (.cond (.t 24) (.seq (.region s118r7 0 []) .ret) .skip)))) (.region s118r8 0 [])))) Q st := rfl
noncomputable def s118r10 : List SOper := [
  ⟨some 4, .mov (.k (.d (.bool true))), none⟩]
noncomputable def s118 : SCode := (.seq (.region s118r0 0 []) (.seq (.seq (.region s118r1 0 []) (.cond (.t 10) (.seq (.region s118r2 0 []) .ret) .skip)) (.seq (.seq (.region s118r3 0 []) (.block 0 (.loop s118l9))) (.seq (.region s118r10 0 []) .ret))))
theorem e118 : AWp P k0 s118 Q st = AWp P k0 (.seq (.region s118r0 0 []) (.seq (.seq (.region s118r1 0 []) (.cond (.t 10) (.seq (.region s118r2 0 []) .ret) .skip)) (.seq (.seq (.region s118r3 0 []) (.block 0 (.loop s118l9))) (.seq (.region s118r10 0 []) .ret)))) Q st := rfl
theorem u118r0 : goReg P s118r0 o p Q st = goLit P (litOf s118r0.eq_1) o p Q st := goReg_of _
theorem u118r1 : goReg P s118r1 o p Q st = goLit P (litOf s118r1.eq_1) o p Q st := goReg_of _
theorem u118r2 : goReg P s118r2 o p Q st = goLit P (litOf s118r2.eq_1) o p Q st := goReg_of _
theorem u118r3 : goReg P s118r3 o p Q st = goLit P (litOf s118r3.eq_1) o p Q st := goReg_of _
theorem u118r4 : goReg P s118r4 o p Q st = goLit P (litOf s118r4.eq_1) o p Q st := goReg_of _
theorem u118r5 : goReg P s118r5 o p Q st = goLit P (litOf s118r5.eq_1) o p Q st := goReg_of _
theorem u118r6 : goReg P s118r6 o p Q st = goLit P (litOf s118r6.eq_1) o p Q st := goReg_of _
theorem u118r7 : goReg P s118r7 o p Q st = goLit P (litOf s118r7.eq_1) o p Q st := goReg_of _
theorem u118r8 : goReg P s118r8 o p Q st = goLit P (litOf s118r8.eq_1) o p Q st := goReg_of _
theorem u118r10 : goReg P s118r10 o p Q st = goLit P (litOf s118r10.eq_1) o p Q st := goReg_of _
attribute [go_sem] u118r0 u118r1 u118r2 u118r3 u118r4 u118r5 u118r6 u118r7 u118r8 e118l9 u118r10 e118
set_option maxRecDepth 100000 in
theorem F118 : FnIs Try.prog 118 Try.f118 [] news s118 [.tmp 4] 26 := ⟨follows, Try.func118, by kernel_rfl, by kernel_rfl, by kernel_rfl, by kernel_rfl⟩

noncomputable def s94r0 : List SOper := [
  ⟨some 2, .box 2 (.t 0), none⟩,
  ⟨some 3, .box 1 (.t 1), none⟩,
  ⟨some 4, .mov (.k (.d (.bool false))), none⟩]
noncomputable def s94r1 : List SOper := [
  ⟨some 5, .faddr 0 (.t 2), none⟩,
  ⟨some 6, .load none (.t 5), none⟩,
  ⟨some 7, .faddr 0 (.t 3), none⟩,
  ⟨some 8, .load none (.t 7), none⟩,
  ⟨some 9, .bin .eql (.t 6) (.t 8), none⟩,
  ⟨some 10, .mov (.t 9), none⟩,
  ⟨some 11, .faddr 1 (.t 2), some (10, true)⟩,
  ⟨some 12, .load none (.t 11), some (10, true)⟩,
  ⟨some 13, .faddr 1 (.t 3), some (10, true)⟩,
  ⟨some 14, .load none (.t 13), some (10, true)⟩,
  ⟨some 15, .bin .eql (.t 12) (.t 14), some (10, true)⟩,
  ⟨some 16, .pick (.t 10) (.t 15) (.k (.d (.bool false))), none⟩,
  ⟨some 17, .mov (.t 16), none⟩,
  ⟨some 18, .faddr 2 (.t 2), some (17, true)⟩,
  ⟨some 19, .load none (.t 18), some (17, true)⟩,
  ⟨some 20, .faddr 2 (.t 3), some (17, true)⟩,
  ⟨some 21, .load none (.t 20), some (17, true)⟩,
  ⟨some 22, .call (.k (.d (.func (.func 118) [] []))) [(.t 19), (.t 21)], some (17, true)⟩,
  ⟨some 23, .pick (.t 17) (.t 22) (.k (.d (.bool false))), none⟩,
  ⟨some 24, .mov (.t 23), none⟩,
  ⟨some 25, .faddr 3 (.t 2), some (24, true)⟩,
  ⟨some 26, .load none (.t 25), some (24, true)⟩,
  ⟨some 27, .faddr 3 (.t 3), some (24, true)⟩,
  ⟨some 28, .load none (.t 27), some (24, true)⟩,
  ⟨some 29, .call (.k (.d (.func (.func 118) [] []))) [(.t 26), (.t 28)], some (24, true)⟩,
  ⟨some 30, .pick (.t 24) (.t 29) (.k (.d (.bool false))), none⟩,
  ⟨some 4, .mov (.t 30), none⟩]
noncomputable def s94 : SCode := (.seq (.region s94r0 2 []) (.seq (.region s94r1 0 []) .ret))
theorem e94 : AWp P k0 s94 Q st = AWp P k0 (.seq (.region s94r0 2 []) (.seq (.region s94r1 0 []) .ret)) Q st := rfl
theorem u94r0 : goReg P s94r0 o p Q st = goLit P (litOf s94r0.eq_1) o p Q st := goReg_of _
theorem u94r1 : goReg P s94r1 o p Q st = goLit P (litOf s94r1.eq_1) o p Q st := goReg_of _
attribute [go_sem] u94r0 u94r1 e94
set_option maxRecDepth 100000 in
theorem F94 : FnIs Try.prog 94 Try.f94 [] news s94 [.tmp 4] 31 := ⟨follows, Try.func94, by kernel_rfl, by kernel_rfl, by kernel_rfl, by kernel_rfl⟩

noncomputable def s93r0 : List SOper := [
  ⟨some 6, .mov (.k (.d (.bool false))), none⟩]
noncomputable def s93r1 : List SOper := [
  ⟨some 10, .mov (.t 0), none⟩,
  ⟨some 11, .len (.t 10), none⟩,
  ⟨some 12, .mov (.t 1), none⟩,
  ⟨some 13, .len (.t 12), none⟩,
  ⟨some 14, .bin .neq (.t 11) (.t 13), none⟩]
noncomputable def s93r2 : List SOper := [
  ⟨some 6, .mov (.k (.d (.bool false))), none⟩]
noncomputable def s93r3 : List SOper := [
  ⟨some 15, .mov (.t 0), none⟩,
  ⟨some 16, .len (.t 15), none⟩,
  ⟨some 17, .mov (.k (.d (.int .i64 0))), none⟩]
noncomputable def s93r4 : List SOper := [
  ⟨some 18, .bin .lss (.t 17) (.t 16), none⟩]
noncomputable def s93r5 : List SOper := [
  ⟨some 19, .mov (.t 17), none⟩,
  ⟨some 20, .iaddr 4 (.t 15) (.t 17), none⟩,
  ⟨some 21, .load (some 4) (.t 20), none⟩,
  ⟨some 8, .alloc 1 [(.d (.int .i64 0)), (.d (.int .i64 0)), (.d .nilsl), (.d .nilsl)], none⟩,
  ⟨some 7, .mov (.t 19), none⟩,
  ⟨none, .store (some 4) (.t 8) (.t 21), none⟩]
noncomputable def s93r6 : List SOper := [
  ⟨some 22, .mov (.t 1), none⟩,
  ⟨some 23, .mov (.t 7), none⟩,
  ⟨some 24, .iaddr 4 (.t 22) (.t 23), none⟩,
  ⟨some 25, .load (some 4) (.t 24), none⟩,
  ⟨some 9, .alloc 1 [(.d (.int .i64 0)), (.d (.int .i64 0)), (.d .nilsl), (.d .nilsl)], none⟩,
  ⟨none, .store (some 4) (.t 9) (.t 25), none⟩]
noncomputable def s93r7 : List SOper := [
  ⟨some 26, .mov (.t 2), none⟩,
  ⟨some 27, .load (some 4) (.t 8), none⟩,
  ⟨some 28, .load (some 4) (.t 9), none⟩,
  ⟨some 29, .call (.t 26) [(.t 27), (.t 28)], none⟩,
  ⟨some 30, .not (.t 29), none⟩]
noncomputable def s93r8 : List SOper := [
  ⟨some 6, .mov (.k (.d (.bool false))), none⟩]
noncomputable def s93r9 : List SOper := [
  ⟨some 31, .bin .add (.t 17) (.k (.d (.int .i64 1))), none⟩,
  ⟨some 17, .mov (.t 31), none⟩]
noncomputable def s93l10 : SCode := (.seq (.region s93r4 0 []) (.seq (.cond (.t 18) .skip (.exit 0)) (.seq (.block 1 (.seq (.region s93r5 1 []) (.seq (.region s93r6 1 []) (.seq (.region s93r7 0 []) (.cond (.t 30) (.seq (.region s93r8 0 []) .ret) .skip))))) (.region s93r9 0 []))))
theorem e93l10 : AWp P k0 s93l10 Q st = AWp P k0 (.seq (.region s93r4 0 []) (.seq (.cond (.t 18) .skip (.exit 0)) (.seq (.block 1 (.seq (.region s93r5 1 []) (.seq (.region s93r6 1 []) (.seq (.region s93r7 0 []) (.cond (.t 30) (.seq (.region s93r8 0 []) .ret) .skip))))) (.region s93r9 0 [])))) Q st := rfl
noncomputable def s93r11 : List SOper := [
  ⟨some 6, .mov (.k (.d (.bool true))), none⟩]
noncomputable def s93 : SCode := (.seq (.region s93r0 0 []) (.seq (.seq (.region s93r1 0 []) (.cond (.t 14) (.seq (.region s93r2 0 []) .ret) .skip)) (.seq (.seq (.region s93r3 0 []) (.block 0 (.loop s93l10))) (.seq (.region s93r11 0 []) .ret))))
theorem e93 : AWp P k0 s93 Q st = AWp P k0 (.seq (.region s93r0 0 []) (.seq (.seq (.region s93r1 0 []) (.cond (.t 14) (.seq (.region s93r2 0 []) .ret) .skip)) (.seq (.seq (.region s93r3 0 []) (.block 0 (.loop s93l10))) (.seq (.region s93r11 0 []) .ret)))) Q st := rfl
theorem u93r0 : goReg P s93r0 o p Q st = goLit P (litOf s93r0.eq_1) o p Q st := goReg_of _
theorem u93r1 : goReg P s93r1 o p Q st = goLit P (litOf s93r1.eq_1) o p Q st := goReg_of _
theorem u93r2 : goReg P s93r2 o p Q st = goLit P (litOf s93r2.eq_1) o p Q st := goReg_of _
theorem u93r3 : goReg P s93r3 o p Q st = goLit P (litOf s93r3.eq_1) o p Q st := goReg_of _
theorem u93r4 : goReg P s93r4 o p Q st = goLit P (litOf s93r4.eq_1) o p Q st := goReg_of _
theorem u93r5 : goReg P s93r5 o p Q st = goLit P (litOf s93r5.eq_1) o p Q st := goReg_of _
theorem u93r6 : goReg P s93r6 o p Q st = goLit P (litOf s93r6.eq_1) o p Q st := goReg_of _
theorem u93r7 : goReg P s93r7 o p Q st = goLit P (litOf s93r7.eq_1) o p Q st := goReg_of _
theorem u93r8 : goReg P s93r8 o p Q st = goLit P (litOf s93r8.eq_1) o p Q st := goReg_of _
theorem u93r9 : goReg P s93r9 o p Q st = goLit P (litOf s93r9.eq_1) o p Q st := goReg_of _
theorem u93r11 : goReg P s93r11 o p Q st = goLit P (litOf s93r11.eq_1) o p Q st := goReg_of _
attribute [go_sem] u93r0 u93r1 u93r2 u93r3 u93r4 u93r5 u93r6 u93r7 u93r8 u93r9 e93l10 u93r11 e93
set_option maxRecDepth 100000 in
theorem F93 : FnIs Try.prog 93 Try.f93 [] news s93 [.tmp 6] 32 := ⟨follows, Try.func93, by kernel_rfl, by kernel_rfl, by kernel_rfl, by kernel_rfl⟩

noncomputable def s62r0 : List SOper := [
  ⟨some 2, .box 2 (.t 0), none⟩,
  ⟨some 3, .box 1 (.t 1), none⟩,
  ⟨some 4, .mov (.k (.d (.bool false))), none⟩]
noncomputable def s62r1 : List SOper := [
  ⟨some 5, .faddr 0 (.t 2), none⟩,
  ⟨some 6, .load none (.t 5), none⟩,
  ⟨some 7, .faddr 0 (.t 3), none⟩,
  ⟨some 8, .load none (.t 7), none⟩,
  ⟨some 9, .bin .eql (.t 6) (.t 8), none⟩,
  ⟨some 10, .mov (.t 9), none⟩,
  ⟨some 11, .faddr 1 (.t 2), some (10, true)⟩,
  ⟨some 12, .load none (.t 11), some (10, true)⟩,
  ⟨some 13, .faddr 1 (.t 3), some (10, true)⟩,
  ⟨some 14, .load none (.t 13), some (10, true)⟩,
  ⟨some 15, .call (.k (.d (.func (.func 93) [] []))) [(.t 12), (.t 14), (.k (.d (.func (.func 94) [] [])))], some (10, true)⟩,
  ⟨some 16, .pick (.t 10) (.t 15) (.k (.d (.bool false))), none⟩,
  ⟨some 4, .mov (.t 16), none⟩]
noncomputable def s62 : SCode := (.seq (.region s62r0 2 []) (.seq (.region s62r1 0 []) .ret))
theorem e62 : AWp P k0 s62 Q st = AWp P k0 (.seq (.region s62r0 2 []) (.seq (.region s62r1 0 []) .ret)) Q st := rfl
theorem u62r0 : goReg P s62r0 o p Q st = goLit P (litOf s62r0.eq_1) o p Q st := goReg_of _
theorem u62r1 : goReg P s62r1 o p Q st = goLit P (litOf s62r1.eq_1) o p Q st := goReg_of _
attribute [go_sem] u62r0 u62r1 e62
set_option maxRecDepth 100000 in
theorem F62 : FnIs Try.prog 62 Try.f62 [] news s62 [.tmp 4] 17 := ⟨follows, Try.func62, by kernel_rfl, by kernel_rfl, by kernel_rfl, by kernel_rfl⟩

noncomputable def s48r0 : List SOper := [
  ⟨some 2, .alloc 1 [(.d (.int .i64 0)), (.d .nilsl)], none⟩,
  ⟨some 3, .mov (.k (.d (.int .i64 0))), none⟩]
noncomputable def s48r1 : List SOper := [
  ⟨some 4, .mov (.t 0), none⟩,
  ⟨some 5, .bin .lss (.t 4) (.k (.d (.int .i64 1))), none⟩,
  ⟨some 6, .mov (.t 5), none⟩,
  ⟨some 7, .mov (.t 0), some (6, false)⟩,
  ⟨some 8, .bin .gtr (.t 7) (.k (.d (.int .i64 6))), some (6, false)⟩,
  ⟨some 9, .pick (.t 6) (.k (.d (.bool true))) (.t 8), none⟩]
noncomputable def s48r2 : List SOper := [
  ⟨some 10, .build [(.int .i64 0), .nilsl] [], none⟩,
  ⟨none, .store (some 2) (.t 2) (.t 10), none⟩,
  ⟨some 3, .mov (.k (.d (.int .i64 2))), none⟩]
noncomputable def s48r3 : List SOper := [
  ⟨some 11, .mov (.t 0), none⟩,
  ⟨some 12, .build [(.int .i64 0), .nilsl] [(0, 1, (.t 11))], none⟩,
  ⟨none, .store (some 2) (.t 2) (.t 12), none⟩,
  ⟨some 3, .mov (.k (.d (.int .i64 0))), none⟩]
noncomputable def s48 : SCode := (.seq (.region s48r0 1 []) (.seq (.seq (.region s48r1 0 []) (.cond (.t 9) (.seq (.region s48r2 0 []) .ret) .skip)) (.seq (.region s48r3 0 []) .ret)))
theorem e48 : AWp P k0 s48 Q st = AWp P k0 (.seq (.region s48r0 1 []) (.seq (.seq (.region s48r1 0 []) (.cond (.t 9) (.seq (.region s48r2 0 []) .ret) .skip)) (.seq (.region s48r3 0 []) .ret))) Q st := rfl
theorem u48r0 : goReg P s48r0 o p Q st = goLit P (litOf s48r0.eq_1) o p Q st := goReg_of _
theorem u48r1 : goReg P s48r1 o p Q st = goLit P (litOf s48r1.eq_1) o p Q st := goReg_of _
theorem u48r2 : goReg P s48r2 o p Q st = goLit P (litOf s48r2.eq_1) o p Q st := goReg_of _
theorem u48r3 : goReg P s48r3 o p Q st = goLit P (litOf s48r3.eq_1) o p Q st := goReg_of _
attribute [go_sem] u48r0 u48r1 u48r2 u48r3 e48
set_option maxRecDepth 100000 in
theorem F48 : FnIs Try.prog 48 Try.f48 [] news s48 [.cell 2 (some 2), .tmp 3] 13 := ⟨follows, Try.func48, by kernel_rfl, by kernel_rfl, by kernel_rfl, by kernel_rfl⟩

end

def sObj (s : Int) : AObj := .row [.d (.int .i64 s)]
attribute [go_sem] sObj
theorem findC_ok (x : En) (s : Int) : ACall Try.prog 110 [.d (.agg (encEn x)), .d (.ptr 0 0)] [sObj s] (.d (.bool (decide (x.sess ≥ s)))) [sObj s] := by
  refine F110.go ?_
  try simp only [encEn, sObj, go_sem, Nat.reduceAdd, Nat.reduceMul, Nat.reduceSub, Nat.reduceEqDiff, Nat.reduceLT, Nat.reduceLeDiff, Nat.reduceBEq, reduceIte, reduceCtorEq, Int.reduceAdd, Int.reduceLT, Int.reduceLE, Int.reduceGT, Int.reduceGE, Int.reduceEq, Int.reduceNe, Int.reduceBEq, Int.reduceBNe, Int.reduceToNat, Int.reduceNeg]
theorem phaseC_ok (x : En) (s : Int) : ACall Try.prog 84 [.d (.agg (encEn x)), .d (.ptr 0 0)] [sObj s] (.d (.bool (x.sess == s))) [sObj s] := by
  refine F84.go ?_
  try simp only [encEn, sObj, go_sem, Nat.reduceAdd, Nat.reduceMul, Nat.reduceSub, Nat.reduceEqDiff, Nat.reduceLT, Nat.reduceLeDiff, Nat.reduceBEq, reduceIte, reduceCtorEq, Int.reduceAdd, Int.reduceLT, Int.reduceLE, Int.reduceGT, Int.reduceGE, Int.reduceEq, Int.reduceNe, Int.reduceBEq, Int.reduceBNe, Int.reduceToNat, Int.reduceNeg]

def SidxE (l : List En) (k : FuncId) (s : Int) (f : En → Bool) (i : { i : Nat // (l.take i).any f = false }) : St :=
  ⟨[(0, true, .d (.sl 4 (l.map encEn))), (1, true, .d (.func (.func k) [] [.ptr 0 0])), (6, true, .d (.sl 4 (l.map encEn))), (7, true, .d (.int .i64 l.length)), (8, true, .d (.int .i64 (i.val : Nat)))],
   [sObj s], [], 1⟩

theorem indexGe_ok (l : List En) (s : Int) (hl : l.length ≤ 1000) : ACall Try.prog 83 [.d (.sl 4 (l.map encEn)), .d (.func (.func 110) [] [.ptr 0 0])] [sObj s]
    (.d (.int .i64 (idx (fun x => decide (x.sess ≥ s)) l))) [sObj s] := by
  refine F83.go ?_
  try (refine ev ?_; try exact True.intro)
  refine AWp_loop (SidxE l 110 s (fun x => decide (x.sess ≥ s))) (fun i => l.length - i.val) ⟨0, rfl⟩ ?_ (fun i => ?_)
  · try simp only [SidxE, sObj, go_sem, Nat.reduceAdd, Nat.reduceMul, Nat.reduceSub, Nat.reduceEqDiff, Nat.reduceLT, Nat.reduceLeDiff, Nat.reduceBEq, reduceIte, reduceCtorEq, Int.reduceAdd, Int.reduceLT, Int.reduceLE, Int.reduceGT, Int.reduceGE, Int.reduceEq, Int.reduceNe, Int.reduceBEq, Int.reduceBNe, Int.reduceToNat, Int.reduceNeg]
  obtain ⟨i, hi⟩ := i
  try simp only [SidxE, go_sem, Nat.reduceAdd, Nat.reduceMul, Nat.reduceSub, Nat.reduceEqDiff, Nat.reduceLT, Nat.reduceLeDiff, Nat.reduceBEq, reduceIte, reduceCtorEq, Int.reduceAdd, Int.reduceLT, Int.reduceLE, Int.reduceGT, Int.reduceGE, Int.reduceEq, Int.reduceNe, Int.reduceBEq, Int.reduceBNe, Int.reduceToNat, Int.reduceNeg]
  (repeat (with_reducible refine ob ?_)); refine iff_ _ (fun h => ?_) (fun h => ?_)
  · have hil : i < l.length := by simpa using h
    simp only [getD_map encEn l hil, encEn, go_sem, Nat.reduceAdd, Nat.reduceMul, Nat.reduceSub, Nat.reduceEqDiff, Nat.reduceLT, Nat.reduceLeDiff, Nat.reduceBEq, reduceIte, reduceCtorEq, Int.reduceAdd, Int.reduceLT, Int.reduceLE, Int.reduceGT, Int.reduceGE, Int.reduceEq, Int.reduceNe, Int.reduceBEq, Int.reduceBNe, Int.reduceToNat, Int.reduceNeg]
    (repeat (with_reducible refine ob ?_)); refine clO [0] F110 (findC_ok l[i] s) ?_ (hfit := by first | exact ⟨matchA_refl, trivial⟩ | exact ⟨matchA_refl, matchA_refl, trivial⟩ | simp only [encEn, encMg, go_sem, Nat.reduceAdd, Nat.reduceMul, Nat.reduceSub, Nat.reduceEqDiff, Nat.reduceLT, Nat.reduceLeDiff, Nat.reduceBEq, reduceIte, reduceCtorEq, Int.reduceAdd, Int.reduceLT, Int.reduceLE, Int.reduceGT, Int.reduceGE, Int.reduceEq, Int.reduceNe, Int.reduceBEq, Int.reduceBNe, Int.reduceToNat, Int.reduceNeg])
    try simp only [sObj, go_sem, Nat.reduceAdd, Nat.reduceMul, Nat.reduceSub, Nat.reduceEqDiff, Nat.reduceLT, Nat.reduceLeDiff, Nat.reduceBEq, reduceIte, reduceCtorEq, Int.reduceAdd, Int.reduceLT, Int.reduceLE, Int.reduceGT, Int.reduceGE, Int.reduceEq, Int.reduceNe, Int.reduceBEq, Int.reduceBNe, Int.reduceToNat, Int.reduceNeg]
    refine iff_ _ (fun h2 => ?_) (fun h2 => ?_)
    · try simp only [idx_some (f := fun x => decide (x.sess ≥ s)) hi hil h2, go_sem, Nat.reduceAdd, Nat.reduceMul, Nat.reduceSub, Nat.reduceEqDiff, Nat.reduceLT, Nat.reduceLeDiff, Nat.reduceBEq, reduceIte, reduceCtorEq, Int.reduceAdd, Int.reduceLT, Int.reduceLE, Int.reduceGT, Int.reduceGE, Int.reduceEq, Int.reduceNe, Int.reduceBEq, Int.reduceBNe, Int.reduceToNat, Int.reduceNeg]
    · try (refine ev ?_; try exact True.intro)
      refine ⟨⟨i + 1, take_any_succ hi hil h2⟩, ?_, by dsimp only; omega⟩
      try simp only [SidxE, sObj, wrap_succ (show i < 9223372036854775807 by omega), go_sem, Nat.reduceAdd, Nat.reduceMul, Nat.reduceSub, Nat.reduceEqDiff, Nat.reduceLT, Nat.reduceLeDiff, Nat.reduceBEq, reduceIte, reduceCtorEq, Int.reduceAdd, Int.reduceLT, Int.reduceLE, Int.reduceGT, Int.reduceGE, Int.reduceEq, Int.reduceNe, Int.reduceBEq, Int.reduceBNe, Int.reduceToNat, Int.reduceNeg]
  · try simp only [idx_none hi (by simpa using h), sObj, go_sem, Nat.reduceAdd, Nat.reduceMul, Nat.reduceSub, Nat.reduceEqDiff, Nat.reduceLT, Nat.reduceLeDiff, Nat.reduceBEq, reduceIte, reduceCtorEq, Int.reduceAdd, Int.reduceLT, Int.reduceLE, Int.reduceGT, Int.reduceGE, Int.reduceEq, Int.reduceNe, Int.reduceBEq, Int.reduceBNe, Int.reduceToNat, Int.reduceNeg]

theorem indexEq_ok (l : List En) (s : Int) (hl : l.length ≤ 1000) : ACall Try.prog 83 [.d (.sl 4 (l.map encEn)), .d (.func (.func 84) [] [.ptr 0 0])] [sObj s]
    (.d (.int .i64 (idx (fun x => x.sess == s) l))) [sObj s] := by
  refine F83.go ?_
  try (refine ev ?_; try exact True.intro)
  refine AWp_loop (SidxE l 84 s (fun x => x.sess == s)) (fun i => l.length - i.val) ⟨0, rfl⟩ ?_ (fun i => ?_)
  · try simp only [SidxE, sObj, go_sem, Nat.reduceAdd, Nat.reduceMul, Nat.reduceSub, Nat.reduceEqDiff, Nat.reduceLT, Nat.reduceLeDiff, Nat.reduceBEq, reduceIte, reduceCtorEq, Int.reduceAdd, Int.reduceLT, Int.reduceLE, Int.reduceGT, Int.reduceGE, Int.reduceEq, Int.reduceNe, Int.reduceBEq, Int.reduceBNe, Int.reduceToNat, Int.reduceNeg]
  obtain ⟨i, hi⟩ := i
  try simp only [SidxE, go_sem, Nat.reduceAdd, Nat.reduceMul, Nat.reduceSub, Nat.reduceEqDiff, Nat.reduceLT, Nat.reduceLeDiff, Nat.reduceBEq, reduceIte, reduceCtorEq, Int.reduceAdd, Int.reduceLT, Int.reduceLE, Int.reduceGT, Int.reduceGE, Int.reduceEq, Int.reduceNe, Int.reduceBEq, Int.reduceBNe, Int.reduceToNat, Int.reduceNeg]
  (repeat (with_reducible refine ob ?_)); refine iff_ _ (fun h => ?_) (fun h => ?_)
  · have hil : i < l.length := by simpa using h
    simp only [getD_map encEn l hil, encEn, go_sem, Nat.reduceAdd, Nat.reduceMul, Nat.reduceSub, Nat.reduceEqDiff, Nat.reduceLT, Nat.reduceLeDiff, Nat.reduceBEq, reduceIte, reduceCtorEq, Int.reduceAdd, Int.reduceLT, Int.reduceLE, Int.reduceGT, Int.reduceGE, Int.reduceEq, Int.reduceNe, Int.reduceBEq, Int.reduceBNe, Int.reduceToNat, Int.reduceNeg]
    (repeat (with_reducible refine ob ?_)); refine clO [0] F84 (phaseC_ok l[i] s) ?_ (hfit := by first | exact ⟨matchA_refl, trivial⟩ | exact ⟨matchA_refl, matchA_refl, trivial⟩ | simp only [encEn, encMg, go_sem, Nat.reduceAdd, Nat.reduceMul, Nat.reduceSub, Nat.reduceEqDiff, Nat.reduceLT, Nat.reduceLeDiff, Nat.reduceBEq, reduceIte, reduceCtorEq, Int.reduceAdd, Int.reduceLT, Int.reduceLE, Int.reduceGT, Int.reduceGE, Int.reduceEq, Int.reduceNe, Int.reduceBEq, Int.reduceBNe, Int.reduceToNat, Int.reduceNeg])
    try simp only [sObj, go_sem, Nat.reduceAdd, Nat.reduceMul, Nat.reduceSub, Nat.reduceEqDiff, Nat.reduceLT, Nat.reduceLeDiff, Nat.reduceBEq, reduceIte, reduceCtorEq, Int.reduceAdd, Int.reduceLT, Int.reduceLE, Int.reduceGT, Int.reduceGE, Int.reduceEq, Int.reduceNe, Int.reduceBEq, Int.reduceBNe, Int.reduceToNat, Int.reduceNeg]
    refine iff_ _ (fun h2 => ?_) (fun h2 => ?_)
    · try simp only [idx_some (f := fun x => x.sess == s) hi hil h2, go_sem, Nat.reduceAdd, Nat.reduceMul, Nat.reduceSub, Nat.reduceEqDiff, Nat.reduceLT, Nat.reduceLeDiff, Nat.reduceBEq, reduceIte, reduceCtorEq, Int.reduceAdd, Int.reduceLT, Int.reduceLE, Int.reduceGT, Int.reduceGE, Int.reduceEq, Int.reduceNe, Int.reduceBEq, Int.reduceBNe, Int.reduceToNat, Int.reduceNeg]
    · try (refine ev ?_; try exact True.intro)
      refine ⟨⟨i + 1, take_any_succ hi hil h2⟩, ?_, by dsimp only; omega⟩
      try simp only [SidxE, sObj, wrap_succ (show i < 9223372036854775807 by omega), go_sem, Nat.reduceAdd, Nat.reduceMul, Nat.reduceSub, Nat.reduceEqDiff, Nat.reduceLT, Nat.reduceLeDiff, Nat.reduceBEq, reduceIte, reduceCtorEq, Int.reduceAdd, Int.reduceLT, Int.reduceLE, Int.reduceGT, Int.reduceGE, Int.reduceEq, Int.reduceNe, Int.reduceBEq, Int.reduceBNe, Int.reduceToNat, Int.reduceNeg]
  · try simp only [idx_none hi (by simpa using h), sObj, go_sem, Nat.reduceAdd, Nat.reduceMul, Nat.reduceSub, Nat.reduceEqDiff, Nat.reduceLT, Nat.reduceLeDiff, Nat.reduceBEq, reduceIte, reduceCtorEq, Int.reduceAdd, Int.reduceLT, Int.reduceLE, Int.reduceGT, Int.reduceGE, Int.reduceEq, Int.reduceNe, Int.reduceBEq, Int.reduceBNe, Int.reduceToNat, Int.reduceNeg]

def upFind (m : Mg) (s : Int) : Nat × Bool :=
  if m.ents.any (fun x => decide (x.sess ≥ s)) then (m.ents.findIdx (fun x => decide (x.sess ≥ s)), (m.ents.getD (m.ents.findIdx (fun x => decide (x.sess ≥ s))) default).sess == s) else (m.ents.length, false)

theorem idx_lt0 {α : Type} (f : α → Bool) (l : List α) : decide (idx f l < 0) = !l.any f := by
  unfold idx
  cases l.any f <;> simp
theorem idx_any {α : Type} {f : α → Bool} {l : List α} (h : l.any f = true) : idx f l = (l.findIdx f : Int) ∧ l.findIdx f < l.length := by
  refine ⟨by simp [idx, h], ?_⟩
  rw [List.findIdx_lt_length]
  simpa using h

theorem upFind_ok (m : Mg) (s : Int) (hm : m.Sm) : ACall Try.prog 85 [.d (.agg (encMg m)), .d (.int .i64 s)] [] (.tup [.d (.int .i64 ((upFind m s).1 : Nat)), .d (.bool (upFind m s).2)]) [] := by
  refine F85.goT ?_
  try simp only [encMg, go_sem, Nat.reduceAdd, Nat.reduceMul, Nat.reduceSub, Nat.reduceEqDiff, Nat.reduceLT, Nat.reduceLeDiff, Nat.reduceBEq, reduceIte, reduceCtorEq, Int.reduceAdd, Int.reduceLT, Int.reduceLE, Int.reduceGT, Int.reduceGE, Int.reduceEq, Int.reduceNe, Int.reduceBEq, Int.reduceBNe, Int.reduceToNat, Int.reduceNeg]
  (repeat (with_reducible refine ob ?_)); refine clO [1] F83 (indexGe_ok m.ents s hm.1) ?_ (hfit := by first | exact ⟨matchA_refl, trivial⟩ | exact ⟨matchA_refl, matchA_refl, trivial⟩ | simp only [encEn, encMg, go_sem, Nat.reduceAdd, Nat.reduceMul, Nat.reduceSub, Nat.reduceEqDiff, Nat.reduceLT, Nat.reduceLeDiff, Nat.reduceBEq, reduceIte, reduceCtorEq, Int.reduceAdd, Int.reduceLT, Int.reduceLE, Int.reduceGT, Int.reduceGE, Int.reduceEq, Int.reduceNe, Int.reduceBEq, Int.reduceBNe, Int.reduceToNat, Int.reduceNeg])
  try simp only [idx_lt0, sObj, go_sem, Nat.reduceAdd, Nat.reduceMul, Nat.reduceSub, Nat.reduceEqDiff, Nat.reduceLT, Nat.reduceLeDiff, Nat.reduceBEq, reduceIte, reduceCtorEq, Int.reduceAdd, Int.reduceLT, Int.reduceLE, Int.reduceGT, Int.reduceGE, Int.reduceEq, Int.reduceNe, Int.reduceBEq, Int.reduceBNe, Int.reduceToNat, Int.reduceNeg]
  (repeat (with_reducible refine ob ?_)); refine iff_ _ (fun h => ?_) (fun h => ?_)
  · have hf : m.ents.any (fun x => decide (x.sess ≥ s)) = false := by simpa using h
    have hu : upFind m s = (m.ents.length, false) := by simp [upFind, hf]
    try simp only [hu, go_sem, Nat.reduceAdd, Nat.reduceMul, Nat.reduceSub, Nat.reduceEqDiff, Nat.reduceLT, Nat.reduceLeDiff, Nat.reduceBEq, reduceIte, reduceCtorEq, Int.reduceAdd, Int.reduceLT, Int.reduceLE, Int.reduceGT, Int.reduceGE, Int.reduceEq, Int.reduceNe, Int.reduceBEq, Int.reduceBNe, Int.reduceToNat, Int.reduceNeg]
  · have hf : m.ents.any (fun x => decide (x.sess ≥ s)) = true := by simpa using h
    obtain ⟨h1, h2⟩ := idx_any hf
    have hu : upFind m s = (m.ents.findIdx (fun x => decide (x.sess ≥ s)), (m.ents.getD (m.ents.findIdx (fun x => decide (x.sess ≥ s))) default).sess == s) := by simp [upFind, hf]
    rw [hu, getD_lt h2]
    rw [h1]
    generalize m.ents.findIdx (fun x => decide (x.sess ≥ s)) = k at h2 ⊢
    try simp only [getD_map encEn m.ents h2, encEn, go_sem, Nat.reduceAdd, Nat.reduceMul, Nat.reduceSub, Nat.reduceEqDiff, Nat.reduceLT, Nat.reduceLeDiff, Nat.reduceBEq, reduceIte, reduceCtorEq, Int.reduceAdd, Int.reduceLT, Int.reduceLE, Int.reduceGT, Int.reduceGE, Int.reduceEq, Int.reduceNe, Int.reduceBEq, Int.reduceBNe, Int.reduceToNat, Int.reduceNeg]
    (repeat (with_reducible refine ob ?_))
    try simp only [getD_map encEn m.ents h2, encEn, go_sem, Nat.reduceAdd, Nat.reduceMul, Nat.reduceSub, Nat.reduceEqDiff, Nat.reduceLT, Nat.reduceLeDiff, Nat.reduceBEq, reduceIte, reduceCtorEq, Int.reduceAdd, Int.reduceLT, Int.reduceLE, Int.reduceGT, Int.reduceGE, Int.reduceEq, Int.reduceNe, Int.reduceBEq, Int.reduceBNe, Int.reduceToNat, Int.reduceNeg]
    first | omega | exact ⟨by omega, by omega⟩ | skip

def upPhaseOf (m : Mg) (s : Int) : Int := if m.ents.any (fun x => x.sess == s) then (m.ents.getD (m.ents.findIdx (fun x => x.sess == s)) default).phase else 0
theorem upPhaseOf_ok (m : Mg) (s : Int) (hm : m.Sm) : ACall Try.prog 50 [.d (.agg (encMg m)), .d (.int .i64 s)] [] (.d (.int .i64 (upPhaseOf m s))) [] := by
  refine F50.go ?_
  try simp only [encMg, go_sem, Nat.reduceAdd, Nat.reduceMul, Nat.reduceSub, Nat.reduceEqDiff, Nat.reduceLT, Nat.reduceLeDiff, Nat.reduceBEq, reduceIte, reduceCtorEq, Int.reduceAdd, Int.reduceLT, Int.reduceLE, Int.reduceGT, Int.reduceGE, Int.reduceEq, Int.reduceNe, Int.reduceBEq, Int.reduceBNe, Int.reduceToNat, Int.reduceNeg]
  (repeat (with_reducible refine ob ?_)); refine clO [1] F83 (indexEq_ok m.ents s hm.1) ?_ (hfit := by first | exact ⟨matchA_refl, trivial⟩ | exact ⟨matchA_refl, matchA_refl, trivial⟩ | simp only [encEn, encMg, go_sem, Nat.reduceAdd, Nat.reduceMul, Nat.reduceSub, Nat.reduceEqDiff, Nat.reduceLT, Nat.reduceLeDiff, Nat.reduceBEq, reduceIte, reduceCtorEq, Int.reduceAdd, Int.reduceLT, Int.reduceLE, Int.reduceGT, Int.reduceGE, Int.reduceEq, Int.reduceNe, Int.reduceBEq, Int.reduceBNe, Int.reduceToNat, Int.reduceNeg])
  try simp only [idx_lt0, sObj, go_sem, Nat.reduceAdd, Nat.reduceMul, Nat.reduceSub, Nat.reduceEqDiff, Nat.reduceLT, Nat.reduceLeDiff, Nat.reduceBEq, reduceIte, reduceCtorEq, Int.reduceAdd, Int.reduceLT, Int.reduceLE, Int.reduceGT, Int.reduceGE, Int.reduceEq, Int.reduceNe, Int.reduceBEq, Int.reduceBNe, Int.reduceToNat, Int.reduceNeg]
  (repeat (with_reducible refine ob ?_)); refine iff_ _ (fun h => ?_) (fun h => ?_)
  · have hf : m.ents.any (fun x => x.sess == s) = false := by simpa using h
    have hu : upPhaseOf m s = 0 := by simp only [upPhaseOf, hf]; rfl
    try simp only [hu, go_sem, Nat.reduceAdd, Nat.reduceMul, Nat.reduceSub, Nat.reduceEqDiff, Nat.reduceLT, Nat.reduceLeDiff, Nat.reduceBEq, reduceIte, reduceCtorEq, Int.reduceAdd, Int.reduceLT, Int.reduceLE, Int.reduceGT, Int.reduceGE, Int.reduceEq, Int.reduceNe, Int.reduceBEq, Int.reduceBNe, Int.reduceToNat, Int.reduceNeg]
  · have hf : m.ents.any (fun x => x.sess == s) = true := by simpa using h
    obtain ⟨h1, h2⟩ := idx_any hf
    have hu : upPhaseOf m s = m.ents[m.ents.findIdx (fun x => x.sess == s)].phase := by simp only [upPhaseOf, hf, getD_lt h2, if_true]
    rw [hu, h1]
    generalize m.ents.findIdx (fun x => x.sess == s) = k at h2 ⊢
    try simp only [getD_map encEn m.ents h2, encEn, go_sem, Nat.reduceAdd, Nat.reduceMul, Nat.reduceSub, Nat.reduceEqDiff, Nat.reduceLT, Nat.reduceLeDiff, Nat.reduceBEq, reduceIte, reduceCtorEq, Int.reduceAdd, Int.reduceLT, Int.reduceLE, Int.reduceGT, Int.reduceGE, Int.reduceEq, Int.reduceNe, Int.reduceBEq, Int.reduceBNe, Int.reduceToNat, Int.reduceNeg]
    (repeat (with_reducible refine ob ?_))
    try simp only [getD_map encEn m.ents h2, encEn, go_sem, Nat.reduceAdd, Nat.reduceMul, Nat.reduceSub, Nat.reduceEqDiff, Nat.reduceLT, Nat.reduceLeDiff, Nat.reduceBEq, reduceIte, reduceCtorEq, Int.reduceAdd, Int.reduceLT, Int.reduceLE, Int.reduceGT, Int.reduceGE, Int.reduceEq, Int.reduceNe, Int.reduceBEq, Int.reduceBNe, Int.reduceToNat, Int.reduceNeg]
    first | omega | exact ⟨by omega, by omega⟩ | skip

theorem eqB_ok (l m : List Bool) (hl : l.length ≤ 1000) :
    ACall Try.prog 118 [.d (.sl 1 (l.map encB)), .d (.sl 1 (m.map encB))] [] (.d (.bool (decide (l = m)))) [] := by
  refine F118.go ?_
  try (refine ev ?_; try exact True.intro)
  refine iff_ _ (fun h => ?_) (fun h => ?_)
  · have hne : decide (l = m) = false := by rw [decide_eq_false_iff_not]; rintro rfl; simp at h
    try simp only [hne, go_sem, Nat.reduceAdd, Nat.reduceMul, Nat.reduceSub, Nat.reduceEqDiff, Nat.reduceLT, Nat.reduceLeDiff, Nat.reduceBEq, reduceIte, reduceCtorEq, Int.reduceAdd, Int.reduceLT, Int.reduceLE, Int.reduceGT, Int.reduceGE, Int.reduceEq, Int.reduceNe, Int.reduceBEq, Int.reduceBNe, Int.reduceToNat, Int.reduceNeg]
  · have hlm : l.length = m.length := by simp at h; omega
    try (refine ev ?_; try exact True.intro)
    refine AWp_loop (Seq 1 encB l m) (fun i => l.length - i.val) ⟨0, rfl⟩ ?_ (fun i => ?_)
    · try simp only [Seq, go_sem, Nat.reduceAdd, Nat.reduceMul, Nat.reduceSub, Nat.reduceEqDiff, Nat.reduceLT, Nat.reduceLeDiff, Nat.reduceBEq, reduceIte, reduceCtorEq, Int.reduceAdd, Int.reduceLT, Int.reduceLE, Int.reduceGT, Int.reduceGE, Int.reduceEq, Int.reduceNe, Int.reduceBEq, Int.reduceBNe, Int.reduceToNat, Int.reduceNeg]
    · obtain ⟨i, hi⟩ := i
      try simp only [Seq, go_sem, Nat.reduceAdd, Nat.reduceMul, Nat.reduceSub, Nat.reduceEqDiff, Nat.reduceLT, Nat.reduceLeDiff, Nat.reduceBEq, reduceIte, reduceCtorEq, Int.reduceAdd, Int.reduceLT, Int.reduceLE, Int.reduceGT, Int.reduceGE, Int.reduceEq, Int.reduceNe, Int.reduceBEq, Int.reduceBNe, Int.reduceToNat, Int.reduceNeg]
      refine iff_ _ (fun h => ?_) (fun h => ?_)
      · have hil : i < l.length := by simpa using h
        have him : i < m.length := by omega
        try simp only [getD_map encB l hil, getD_map encB m him, encB, go_sem, Nat.reduceAdd, Nat.reduceMul, Nat.reduceSub, Nat.reduceEqDiff, Nat.reduceLT, Nat.reduceLeDiff, Nat.reduceBEq, reduceIte, reduceCtorEq, Int.reduceAdd, Int.reduceLT, Int.reduceLE, Int.reduceGT, Int.reduceGE, Int.reduceEq, Int.reduceNe, Int.reduceBEq, Int.reduceBNe, Int.reduceToNat, Int.reduceNeg]
        refine ⟨by omega, by omega, ?_⟩
        refine iff_ _ (fun h2 => ?_) (fun h2 => ?_)
        · have hne : l[i] ≠ m[i] := by simpa using h2
          try simp only [eq_ne hil him hne, go_sem, Nat.reduceAdd, Nat.reduceMul, Nat.reduceSub, Nat.reduceEqDiff, Nat.reduceLT, Nat.reduceLeDiff, Nat.reduceBEq, reduceIte, reduceCtorEq, Int.reduceAdd, Int.reduceLT, Int.reduceLE, Int.reduceGT, Int.reduceGE, Int.reduceEq, Int.reduceNe, Int.reduceBEq, Int.reduceBNe, Int.reduceToNat, Int.reduceNeg]
        · have he : l[i] = m[i] := by simpa using h2
          try (refine ev ?_; try exact True.intro)
          refine ⟨⟨i + 1, take_eq_succ hi hil him he⟩, ?_, by dsimp only; omega⟩
          try simp only [Seq, wrap_succ (show i < 9223372036854775807 by omega), go_sem, Nat.reduceAdd, Nat.reduceMul, Nat.reduceSub, Nat.reduceEqDiff, Nat.reduceLT, Nat.reduceLeDiff, Nat.reduceBEq, reduceIte, reduceCtorEq, Int.reduceAdd, Int.reduceLT, Int.reduceLE, Int.reduceGT, Int.reduceGE, Int.reduceEq, Int.reduceNe, Int.reduceBEq, Int.reduceBNe, Int.reduceToNat, Int.reduceNeg]
      · have he : decide (l = m) = true := by
          have : l.length ≤ i := by simpa using h
          rw [List.take_of_length_le this, List.take_of_length_le (by omega)] at hi
          simp [hi]
        try simp only [he, go_sem, Nat.reduceAdd, Nat.reduceMul, Nat.reduceSub, Nat.reduceEqDiff, Nat.reduceLT, Nat.reduceLeDiff, Nat.reduceBEq, reduceIte, reduceCtorEq, Int.reduceAdd, Int.reduceLT, Int.reduceLE, Int.reduceGT, Int.reduceGE, Int.reduceEq, Int.reduceNe, Int.reduceBEq, Int.reduceBNe, Int.reduceToNat, Int.reduceNeg]

theorem beq_En (x y : En) : (x.sess == y.sess && x.phase == y.phase && decide (x.moved = y.moved) && decide (x.opened = y.opened)) = decide (x = y) := by
  obtain ⟨a1, a2, a3, a4⟩ := x
  obtain ⟨b1, b2, b3, b4⟩ := y
  rw [Bool.eq_iff_iff]
  simp [and_assoc]

theorem enEqual_ok (x y : En) (hx : x.Sm) : ACall Try.prog 94 [.d (.agg (encEn x)), .d (.agg (encEn y))] [] (.d (.bool (decide (x = y)))) [] := by
  refine F94.go ?_
  try simp only [encEn, go_sem, Nat.reduceAdd, Nat.reduceMul, Nat.reduceSub, Nat.reduceEqDiff, Nat.reduceLT, Nat.reduceLeDiff, Nat.reduceBEq, reduceIte, reduceCtorEq, Int.reduceAdd, Int.reduceLT, Int.reduceLE, Int.reduceGT, Int.reduceGE, Int.reduceEq, Int.reduceNe, Int.reduceBEq, Int.reduceBNe, Int.reduceToNat, Int.reduceNeg]
  (repeat (with_reducible refine ob ?_)); first | refine cl F118 (eqB_ok x.moved y.moved hx.1) ?_ | refine clF F118 (eqB_ok x.moved y.moved hx.1) (fun _ => by simp only [encEn, encMg, go_sem, Nat.reduceAdd, Nat.reduceMul, Nat.reduceSub, Nat.reduceEqDiff, Nat.reduceLT, Nat.reduceLeDiff, Nat.reduceBEq, reduceIte, reduceCtorEq, Int.reduceAdd, Int.reduceLT, Int.reduceLE, Int.reduceGT, Int.reduceGE, Int.reduceEq, Int.reduceNe, Int.reduceBEq, Int.reduceBNe, Int.reduceToNat, Int.reduceNeg]) ?_
  try (refine ev ?_; try exact True.intro)
  (repeat (with_reducible refine ob ?_))
  (repeat (with_reducible refine ob ?_)); first | refine cl F118 (eqB_ok x.opened y.opened hx.2) ?_ | refine clF F118 (eqB_ok x.opened y.opened hx.2) (fun _ => by simp only [encEn, encMg, go_sem, Nat.reduceAdd, Nat.reduceMul, Nat.reduceSub, Nat.reduceEqDiff, Nat.reduceLT, Nat.reduceLeDiff, Nat.reduceBEq, reduceIte, reduceCtorEq, Int.reduceAdd, Int.reduceLT, Int.reduceLE, Int.reduceGT, Int.reduceGE, Int.reduceEq, Int.reduceNe, Int.reduceBEq, Int.reduceBNe, Int.reduceToNat, Int.reduceNeg]) ?_
  try simp only [beq_En, go_sem, Nat.reduceAdd, Nat.reduceMul, Nat.reduceSub, Nat.reduceEqDiff, Nat.reduceLT, Nat.reduceLeDiff, Nat.reduceBEq, reduceIte, reduceCtorEq, Int.reduceAdd, Int.reduceLT, Int.reduceLE, Int.reduceGT, Int.reduceGE, Int.reduceEq, Int.reduceNe, Int.reduceBEq, Int.reduceBNe, Int.reduceToNat, Int.reduceNeg]

def SeqE (l m : List En) (i : { i : Nat // allTo (eqAt (fun x y => decide (x = y)) l m) i = true }) : St :=
  ⟨[(1, true, .d (.sl 4 (m.map encEn))), (2, true, .d (.func (.func 94) [] [])), (15, true, .d (.sl 4 (l.map encEn))), (16, true, .d (.int .i64 l.length)), (17, true, .d (.int .i64 (i.val : Nat)))], [], [], 1⟩

set_option maxRecDepth 10000 in
theorem eqEns_ok (l m : List En) (hl : l.length ≤ 1000) (hp : ∀ x ∈ l, x.Sm) :
    ACall Try.prog 93 [.d (.sl 4 (l.map encEn)), .d (.sl 4 (m.map encEn)), .d (.func (.func 94) [] [])] [] (.d (.bool (decide (l = m)))) [] := by
  refine F93.go ?_
  try (refine ev ?_; try exact True.intro)
  refine iff_ _ (fun h => ?_) (fun h => ?_)
  · have hne : decide (l = m) = false := by rw [decide_eq_false_iff_not]; rintro rfl; simp at h
    try simp only [hne, go_sem, Nat.reduceAdd, Nat.reduceMul, Nat.reduceSub, Nat.reduceEqDiff, Nat.reduceLT, Nat.reduceLeDiff, Nat.reduceBEq, reduceIte, reduceCtorEq, Int.reduceAdd, Int.reduceLT, Int.reduceLE, Int.reduceGT, Int.reduceGE, Int.reduceEq, Int.reduceNe, Int.reduceBEq, Int.reduceBNe, Int.reduceToNat, Int.reduceNeg]
  · have hlm : l.length = m.length := by simp at h; omega
    try (refine ev ?_; try exact True.intro)
    refine AWp_loop (SeqE l m) (fun i => l.length - i.val) ⟨0, rfl⟩ ?_ (fun i => ?_)
    · try simp only [SeqE, go_sem, Nat.reduceAdd, Nat.reduceMul, Nat.reduceSub, Nat.reduceEqDiff, Nat.reduceLT, Nat.reduceLeDiff, Nat.reduceBEq, reduceIte, reduceCtorEq, Int.reduceAdd, Int.reduceLT, Int.reduceLE, Int.reduceGT, Int.reduceGE, Int.reduceEq, Int.reduceNe, Int.reduceBEq, Int.reduceBNe, Int.reduceToNat, Int.reduceNeg]
    · obtain ⟨i, hi⟩ := i
      try simp only [SeqE, go_sem, Nat.reduceAdd, Nat.reduceMul, Nat.reduceSub, Nat.reduceEqDiff, Nat.reduceLT, Nat.reduceLeDiff, Nat.reduceBEq, reduceIte, reduceCtorEq, Int.reduceAdd, Int.reduceLT, Int.reduceLE, Int.reduceGT, Int.reduceGE, Int.reduceEq, Int.reduceNe, Int.reduceBEq, Int.reduceBNe, Int.reduceToNat, Int.reduceNeg]
      refine iff_ _ (fun h => ?_) (fun h => ?_)
      · have hil : i < l.length := by simpa using h
        have him : i < m.length := by omega
        simp only [getD_map encEn l hil, getD_map encEn m him, encEn, go_sem, Nat.reduceAdd, Nat.reduceMul, Nat.reduceSub, Nat.reduceEqDiff, Nat.reduceLT, Nat.reduceLeDiff, Nat.reduceBEq, reduceIte, reduceCtorEq, Int.reduceAdd, Int.reduceLT, Int.reduceLE, Int.reduceGT, Int.reduceGE, Int.reduceEq, Int.reduceNe, Int.reduceBEq, Int.reduceBNe, Int.reduceToNat, Int.reduceNeg]
        (repeat (with_reducible refine ob ?_))
        (repeat (with_reducible refine ob ?_)); first | refine cl F94 (enEqual_ok l[i] m[i] (hp _ (List.getElem_mem hil))) ?_ | refine clF F94 (enEqual_ok l[i] m[i] (hp _ (List.getElem_mem hil))) (fun _ => by simp only [encEn, encMg, go_sem, Nat.reduceAdd, Nat.reduceMul, Nat.reduceSub, Nat.reduceEqDiff, Nat.reduceLT, Nat.reduceLeDiff, Nat.reduceBEq, reduceIte, reduceCtorEq, Int.reduceAdd, Int.reduceLT, Int.reduceLE, Int.reduceGT, Int.reduceGE, Int.reduceEq, Int.reduceNe, Int.reduceBEq, Int.reduceBNe, Int.reduceToNat, Int.reduceNeg]) ?_
        try (refine ev ?_; try exact True.intro)
        refine iff_ _ (fun h2 => ?_) (fun h2 => ?_)
        · have hne : l[i] ≠ m[i] := by simpa using h2
          try simp only [eq_ne hil him hne, go_sem, Nat.reduceAdd, Nat.reduceMul, Nat.reduceSub, Nat.reduceEqDiff, Nat.reduceLT, Nat.reduceLeDiff, Nat.reduceBEq, reduceIte, reduceCtorEq, Int.reduceAdd, Int.reduceLT, Int.reduceLE, Int.reduceGT, Int.reduceGE, Int.reduceEq, Int.reduceNe, Int.reduceBEq, Int.reduceBNe, Int.reduceToNat, Int.reduceNeg]
        · have he : l[i] = m[i] := by simpa using h2
          try (refine ev ?_; try exact True.intro)
          refine ⟨⟨i + 1, allTo_step hi (by simp [eqAt, hil, him, he])⟩, ?_, by dsimp only; omega⟩
          try simp only [SeqE, wrap_succ (show i < 9223372036854775807 by omega), go_sem, Nat.reduceAdd, Nat.reduceMul, Nat.reduceSub, Nat.reduceEqDiff, Nat.reduceLT, Nat.reduceLeDiff, Nat.reduceBEq, reduceIte, reduceCtorEq, Int.reduceAdd, Int.reduceLT, Int.reduceLE, Int.reduceGT, Int.reduceGE, Int.reduceEq, Int.reduceNe, Int.reduceBEq, Int.reduceBNe, Int.reduceToNat, Int.reduceNeg]
      · have he : decide (l = m) = true := by
          have : l.length ≤ i := by simpa using h
          rw [← eqBy_eq]
          simp only [eqBy, hlm, beq_self_eq_true, Bool.true_and]
          exact allTo_iff.2 fun j hj => allTo_iff.1 hi j (by omega)
        try simp only [he, go_sem, Nat.reduceAdd, Nat.reduceMul, Nat.reduceSub, Nat.reduceEqDiff, Nat.reduceLT, Nat.reduceLeDiff, Nat.reduceBEq, reduceIte, reduceCtorEq, Int.reduceAdd, Int.reduceLT, Int.reduceLE, Int.reduceGT, Int.reduceGE, Int.reduceEq, Int.reduceNe, Int.reduceBEq, Int.reduceBNe, Int.reduceToNat, Int.reduceNeg]

theorem beq_Mg (a b : Mg) : (a.roles == b.roles && decide (a.ents = b.ents)) = decide (a = b) := by
  obtain ⟨a1, a2⟩ := a
  obtain ⟨b1, b2⟩ := b
  rw [Bool.eq_iff_iff]
  simp

theorem mgEqual_ok (a b : Mg) (ha : a.Sm) : ACall Try.prog 62 [.d (.agg (encMg a)), .d (.agg (encMg b))] [] (.d (.bool (decide (a = b)))) [] := by
  refine F62.go ?_
  try simp only [encMg, go_sem, Nat.reduceAdd, Nat.reduceMul, Nat.reduceSub, Nat.reduceEqDiff, Nat.reduceLT, Nat.reduceLeDiff, Nat.reduceBEq, reduceIte, reduceCtorEq, Int.reduceAdd, Int.reduceLT, Int.reduceLE, Int.reduceGT, Int.reduceGE, Int.reduceEq, Int.reduceNe, Int.reduceBEq, Int.reduceBNe, Int.reduceToNat, Int.reduceNeg]
  (repeat (with_reducible refine ob ?_)); first | refine cl F93 (eqEns_ok a.ents b.ents ha.1 ha.2) ?_ | refine clF F93 (eqEns_ok a.ents b.ents ha.1 ha.2) (fun _ => by simp only [encEn, encMg, go_sem, Nat.reduceAdd, Nat.reduceMul, Nat.reduceSub, Nat.reduceEqDiff, Nat.reduceLT, Nat.reduceLeDiff, Nat.reduceBEq, reduceIte, reduceCtorEq, Int.reduceAdd, Int.reduceLT, Int.reduceLE, Int.reduceGT, Int.reduceGE, Int.reduceEq, Int.reduceNe, Int.reduceBEq, Int.reduceBNe, Int.reduceToNat, Int.reduceNeg]) ?_
  try (refine ev ?_; try exact True.intro)
  exact beq_Mg a b

def upNew (n : Int) : Mg × Int := if decide (n < 1) || decide (n > 6) then (⟨0, []⟩, 2) else (⟨n, []⟩, 0)
theorem upNew_ok (n : Int) : ACall Try.prog 48 [.d (.int .i64 n)] [] (.tup [.d (.agg (encMg (upNew n).1)), .d (.int .i64 (upNew n).2)]) [] := by
  refine F48.goT ?_
  try (refine ev ?_; try exact True.intro)
  (repeat (with_reducible refine ob ?_)); refine iff_ _ (fun h => ?_) (fun h => ?_)
  · try simp only [upNew, h, encMg, List.map_nil, go_sem, Nat.reduceAdd, Nat.reduceMul, Nat.reduceSub, Nat.reduceEqDiff, Nat.reduceLT, Nat.reduceLeDiff, Nat.reduceBEq, reduceIte, reduceCtorEq, Int.reduceAdd, Int.reduceLT, Int.reduceLE, Int.reduceGT, Int.reduceGE, Int.reduceEq, Int.reduceNe, Int.reduceBEq, Int.reduceBNe, Int.reduceToNat, Int.reduceNeg]
  · try simp only [upNew, h, encMg, List.map_nil, go_sem, Nat.reduceAdd, Nat.reduceMul, Nat.reduceSub, Nat.reduceEqDiff, Nat.reduceLT, Nat.reduceLeDiff, Nat.reduceBEq, reduceIte, reduceCtorEq, Int.reduceAdd, Int.reduceLT, Int.reduceLE, Int.reduceGT, Int.reduceGE, Int.reduceEq, Int.reduceNe, Int.reduceBEq, Int.reduceBNe, Int.reduceToNat, Int.reduceNeg]
end Go.Proofs.Ythcpckcgjplhiaa

/- Package upgrade: copies. -/
namespace Go.Proofs.Ythcpckcgjplhiaa
open Go.Abs
set_option linter.unusedSimpArgs false

section
variable {P : Program} {k0 o : Nat} {p : List (Nat × Nat)} {Q : SExit → St → Prop} {st : St}
noncomputable def s111ur0 : List SOper := [
  ⟨some 2, .mov (.k (.d .nilsl)), none⟩]
noncomputable def s111ur1 : List SOper := [
  ⟨some 3, .mov (.t 0), none⟩,
  ⟨some 4, .eqnilS false (.t 3), none⟩]
noncomputable def s111ur2 : List SOper := [
  ⟨some 2, .mov (.k (.d .nilsl)), none⟩]
noncomputable def s111ur3 : List SOper := [
  ⟨some 5, .buildSlice false 4 0 [(.int .i64 0), (.int .i64 0), .nilsl, .nilsl] [], none⟩,
  ⟨some 6, .mov (.t 0), none⟩,
  ⟨some 7, .append true 4 64 (.t 5) (.t 6), none⟩,
  ⟨some 2, .mov (.t 7), none⟩]
noncomputable def s111u : SCode := (.seq (.region s111ur0 0 []) (.seq (.seq (.region s111ur1 0 []) (.cond (.t 4) (.seq (.region s111ur2 0 []) .ret) .skip)) (.seq (.region s111ur3 0 []) .ret)))
theorem e111u : AWp P k0 s111u Q st = AWp P k0 (.seq (.region s111ur0 0 []) (.seq (.seq (.region s111ur1 0 []) (.cond (.t 4) (.seq (.region s111ur2 0 []) .ret) .skip)) (.seq (.region s111ur3 0 []) .ret))) Q st := rfl
theorem u111ur0 : goReg P s111ur0 o p Q st = goLit P (litOf s111ur0.eq_1) o p Q st := goReg_of _
theorem u111ur1 : goReg P s111ur1 o p Q st = goLit P (litOf s111ur1.eq_1) o p Q st := goReg_of _
theorem u111ur2 : goReg P s111ur2 o p Q st = goLit P (litOf s111ur2.eq_1) o p Q st := goReg_of _
theorem u111ur3 : goReg P s111ur3 o p Q st = goLit P (litOf s111ur3.eq_1) o p Q st := goReg_of _
attribute [go_sem] u111ur0 u111ur1 u111ur2 u111ur3 e111u
set_option maxRecDepth 100000 in
theorem F111u : FnIs Try.prog 111 Try.f111 [7] news s111u [.tmp 2] 8 := ⟨follows, Try.func111, by kernel_rfl, by kernel_rfl, by kernel_rfl, by kernel_rfl⟩

noncomputable def s112ur0 : List SOper := [
  ⟨some 2, .mov (.k (.d .nilsl)), none⟩]
noncomputable def s112ur1 : List SOper := [
  ⟨some 3, .mov (.t 0), none⟩,
  ⟨some 4, .eqnilS false (.t 3), none⟩]
noncomputable def s112ur2 : List SOper := [
  ⟨some 2, .mov (.k (.d .nilsl)), none⟩]
noncomputable def s112ur3 : List SOper := [
  ⟨some 5, .buildSlice false 1 0 [(.bool false)] [], none⟩,
  ⟨some 6, .mov (.t 0), none⟩,
  ⟨some 7, .append true 1 1 (.t 5) (.t 6), none⟩,
  ⟨some 2, .mov (.t 7), none⟩]
noncomputable def s112u : SCode := (.seq (.region s112ur0 0 []) (.seq (.seq (.region s112ur1 0 []) (.cond (.t 4) (.seq (.region s112ur2 0 []) .ret) .skip)) (.seq (.region s112ur3 0 []) .ret)))
theorem e112u : AWp P k0 s112u Q st = AWp P k0 (.seq (.region s112ur0 0 []) (.seq (.seq (.region s112ur1 0 []) (.cond (.t 4) (.seq (.region s112ur2 0 []) .ret) .skip)) (.seq (.region s112ur3 0 []) .ret))) Q st := rfl
theorem u112ur0 : goReg P s112ur0 o p Q st = goLit P (litOf s112ur0.eq_1) o p Q st := goReg_of _
theorem u112ur1 : goReg P s112ur1 o p Q st = goLit P (litOf s112ur1.eq_1) o p Q st := goReg_of _
theorem u112ur2 : goReg P s112ur2 o p Q st = goLit P (litOf s112ur2.eq_1) o p Q st := goReg_of _
theorem u112ur3 : goReg P s112ur3 o p Q st = goLit P (litOf s112ur3.eq_1) o p Q st := goReg_of _
attribute [go_sem] u112ur0 u112ur1 u112ur2 u112ur3 e112u
set_option maxRecDepth 100000 in
theorem F112u : FnIs Try.prog 112 Try.f112 [7] news s112u [.tmp 2] 8 := ⟨follows, Try.func112, by kernel_rfl, by kernel_rfl, by kernel_rfl, by kernel_rfl⟩

noncomputable def s112r0 : List SOper := [
  ⟨some 2, .mov (.k (.d .nilsl)), none⟩]
noncomputable def s112r1 : List SOper := [
  ⟨some 3, .mov (.t 0), none⟩,
  ⟨some 4, .eqnilS false (.t 3), none⟩]
noncomputable def s112r2 : List SOper := [
  ⟨some 2, .mov (.k (.d .nilsl)), none⟩]
noncomputable def s112r3 : List SOper := [
  ⟨some 5, .buildSlice false 1 0 [(.bool false)] [], none⟩,
  ⟨some 6, .mov (.t 0), none⟩,
  ⟨some 7, .append false 1 1 (.t 5) (.t 6), none⟩,
  ⟨some 2, .mov (.t 7), none⟩]
noncomputable def s112 : SCode := (.seq (.region s112r0 0 []) (.seq (.seq (.region s112r1 0 []) (.cond (.t 4) (.seq (.region s112r2 0 []) .ret) .skip)) (.seq (.region s112r3 0 []) .ret)))
theorem e112 : AWp P k0 s112 Q st = AWp P k0 (.seq (.region s112r0 0 []) (.seq (.seq (.region s112r1 0 []) (.cond (.t 4) (.seq (.region s112r2 0 []) .ret) .skip)) (.seq (.region s112r3 0 []) .ret))) Q st := rfl
theorem u112r0 : goReg P s112r0 o p Q st = goLit P (litOf s112r0.eq_1) o p Q st := goReg_of _
theorem u112r1 : goReg P s112r1 o p Q st = goLit P (litOf s112r1.eq_1) o p Q st := goReg_of _
theorem u112r2 : goReg P s112r2 o p Q st = goLit P (litOf s112r2.eq_1) o p Q st := goReg_of _
theorem u112r3 : goReg P s112r3 o p Q st = goLit P (litOf s112r3.eq_1) o p Q st := goReg_of _
attribute [go_sem] u112r0 u112r1 u112r2 u112r3 e112
set_option maxRecDepth 100000 in
theorem F112 : FnIs Try.prog 112 Try.f112 [] news s112 [.tmp 2] 8 := ⟨follows, Try.func112, by kernel_rfl, by kernel_rfl, by kernel_rfl, by kernel_rfl⟩

end

theorem cloneE_ok (l : List En) (hl : l.length ≤ 1000) : ACall Try.prog 111 [.d (.sl 4 (l.map encEn))] [] (.uni 0 4 (l.map encEn)) [] := by
  refine F111u.go ?_
  try (refine ev ?_; try exact True.intro)
  refine nilO_of rfl rfl (fun b hb => ?_)
  try (refine ev ?_; try exact True.intro)
  (repeat (with_reducible refine ob ?_)); refine iff_ _ (fun h => ?_) (fun h => ?_)
  · try simp only [hb h, go_sem, Nat.reduceAdd, Nat.reduceMul, Nat.reduceSub, Nat.reduceEqDiff, Nat.reduceLT, Nat.reduceLeDiff, Nat.reduceBEq, reduceIte, reduceCtorEq, Int.reduceAdd, Int.reduceLT, Int.reduceLE, Int.reduceGT, Int.reduceGE, Int.reduceEq, Int.reduceNe, Int.reduceBEq, Int.reduceBNe, Int.reduceToNat, Int.reduceNeg]
  · try (refine ev ?_; try exact True.intro)
    omega
theorem cloneBu_ok (l : List Bool) (hl : l.length ≤ 1000) : ACall Try.prog 112 [.d (.sl 1 (l.map encB))] [] (.uni 0 1 (l.map encB)) [] := by
  refine F112u.go ?_
  try (refine ev ?_; try exact True.intro)
  refine nilO_of rfl rfl (fun b hb => ?_)
  try (refine ev ?_; try exact True.intro)
  (repeat (with_reducible refine ob ?_)); refine iff_ _ (fun h => ?_) (fun h => ?_)
  · try simp only [hb h, go_sem, Nat.reduceAdd, Nat.reduceMul, Nat.reduceSub, Nat.reduceEqDiff, Nat.reduceLT, Nat.reduceLeDiff, Nat.reduceBEq, reduceIte, reduceCtorEq, Int.reduceAdd, Int.reduceLT, Int.reduceLE, Int.reduceGT, Int.reduceGE, Int.reduceEq, Int.reduceNe, Int.reduceBEq, Int.reduceBNe, Int.reduceToNat, Int.reduceNeg]
  · try (refine ev ?_; try exact True.intro)
    omega
theorem cloneB_ok (l : List Bool) (hl : l.length ≤ 1000) : ACall Try.prog 112 [.d (.sl 1 (l.map encB))] [] (.d (.sl 1 (l.map encB))) [] := by
  refine F112.go ?_
  try (refine ev ?_; try exact True.intro)
  refine nilO_of rfl rfl (fun b hb => ?_)
  try (refine ev ?_; try exact True.intro)
  (repeat (with_reducible refine ob ?_)); refine iff_ _ (fun h => ?_) (fun h => ?_)
  · try simp only [hb h, go_sem, Nat.reduceAdd, Nat.reduceMul, Nat.reduceSub, Nat.reduceEqDiff, Nat.reduceLT, Nat.reduceLeDiff, Nat.reduceBEq, reduceIte, reduceCtorEq, Int.reduceAdd, Int.reduceLT, Int.reduceLE, Int.reduceGT, Int.reduceGE, Int.reduceEq, Int.reduceNe, Int.reduceBEq, Int.reduceBNe, Int.reduceToNat, Int.reduceNeg]
  · try (refine ev ?_; try exact True.intro)
    omega
end Go.Proofs.Ythcpckcgjplhiaa

/- Package upgrade: copies of managers. -/
namespace Go.Proofs.Ythcpckcgjplhiaa
open Go.Abs
set_option linter.unusedSimpArgs false

section
variable {P : Program} {k0 o : Nat} {p : List (Nat × Nat)} {Q : SExit → St → Prop} {st : St}
noncomputable def s86ur0 : List SOper := [
  ⟨some 1, .box 2 (.t 0), none⟩,
  ⟨some 2, .alloc 1 [(.d (.int .i64 0)), (.d .nilsl)], none⟩]
noncomputable def s86ur1 : List SOper := [
  ⟨some 5, .faddr 1 (.t 1), none⟩,
  ⟨some 6, .load none (.t 5), none⟩,
  ⟨some 7, .call (.k (.d (.func (.func 111) [] []))) [(.t 6)], none⟩,
  ⟨some 8, .faddr 1 (.t 1), none⟩,
  ⟨none, .store none (.t 8) (.t 7), none⟩]
noncomputable def s86ur2 : List SOper := [
  ⟨some 9, .faddr 1 (.t 1), none⟩,
  ⟨some 10, .load none (.t 9), none⟩,
  ⟨some 11, .len (.t 10), none⟩,
  ⟨some 12, .mov (.k (.d (.int .i64 0))), none⟩]
noncomputable def s86ur3 : List SOper := [
  ⟨some 13, .bin .lss (.t 12) (.t 11), none⟩]
noncomputable def s86ur4 : List SOper := [
  ⟨some 14, .mov (.t 12), none⟩,
  ⟨some 3, .mov (.t 14), none⟩]
noncomputable def s86ur5 : List SOper := [
  ⟨some 15, .faddr 1 (.t 1), none⟩,
  ⟨some 16, .load none (.t 15), none⟩,
  ⟨some 17, .mov (.t 3), none⟩,
  ⟨some 18, .iaddr 4 (.t 16) (.t 17), none⟩,
  ⟨some 4, .mov (.t 18), none⟩]
noncomputable def s86ur6 : List SOper := [
  ⟨some 19, .mov (.t 4), none⟩,
  ⟨some 20, .mov (.t 4), none⟩,
  ⟨some 21, .mov (.t 4), none⟩,
  ⟨some 22, .nilCheck (.t 21), none⟩,
  ⟨some 23, .faddr 2 (.t 22), none⟩,
  ⟨some 24, .load none (.t 23), none⟩,
  ⟨some 25, .call (.k (.d (.func (.func 112) [] []))) [(.t 24)], none⟩,
  ⟨some 26, .mov (.t 4), none⟩,
  ⟨some 27, .nilCheck (.t 26), none⟩,
  ⟨some 28, .faddr 3 (.t 27), none⟩,
  ⟨some 29, .load none (.t 28), none⟩,
  ⟨some 30, .call (.k (.d (.func (.func 112) [] []))) [(.t 29)], none⟩,
  ⟨some 31, .nilCheck (.t 19), none⟩,
  ⟨some 32, .faddr 2 (.t 31), none⟩,
  ⟨none, .store none (.t 32) (.t 25), none⟩,
  ⟨some 33, .nilCheck (.t 20), none⟩,
  ⟨some 34, .faddr 3 (.t 33), none⟩,
  ⟨none, .store none (.t 34) (.t 30), none⟩]
noncomputable def s86ur7 : List SOper := [
  ⟨some 35, .bin .add (.t 12) (.k (.d (.int .i64 1))), none⟩,
  ⟨some 12, .mov (.t 35), none⟩]
noncomputable def s86ul8 : SCode := (.seq (.region s86ur3 0 []) (.seq (.cond (.t 13) .skip (.exit 0)) (.seq (.block 1 (.seq (.region s86ur4 0 []) (.seq (.region s86ur5 0 []) (.region s86ur6 0 [(6, 10)])))) (.pause (.region s86ur7 0 [])))))
theorem e86ul8 : AWp P k0 s86ul8 Q st = AWp P k0 (.seq (.region s86ur3 0 []) (.seq (.cond (.t 13) .skip (.exit 0)) (.seq (.block 1 (.seq (.region s86ur4 0 []) (.seq (.region s86ur5 0 []) (.region s86ur6 0 [(6, 10)])))) (.pause (.region s86ur7 0 []))))) Q st := rfl
noncomputable def s86ur9 : List SOper := [
  ⟨some 36, .load (some 2) (.t 1), none⟩,
  ⟨none, .store (some 2) (.t 2) (.t 36), none⟩]
noncomputable def s86u : SCode := (.seq (.region s86ur0 2 []) (.seq (.region s86ur1 0 []) (.seq (.seq (.pause (.region s86ur2 0 [])) (.block 0 (.loop s86ul8))) (.seq (.region s86ur9 0 []) (.pause .ret)))))
theorem e86u : AWp P k0 s86u Q st = AWp P k0 (.seq (.region s86ur0 2 []) (.seq (.region s86ur1 0 []) (.seq (.seq (.pause (.region s86ur2 0 [])) (.block 0 (.loop s86ul8))) (.seq (.region s86ur9 0 []) (.pause .ret))))) Q st := rfl
theorem u86ur0 : goReg P s86ur0 o p Q st = goLit P (litOf s86ur0.eq_1) o p Q st := goReg_of _
theorem u86ur1 : goReg P s86ur1 o p Q st = goLit P (litOf s86ur1.eq_1) o p Q st := goReg_of _
theorem u86ur2 : goReg P s86ur2 o p Q st = goLit P (litOf s86ur2.eq_1) o p Q st := goReg_of _
theorem u86ur3 : goReg P s86ur3 o p Q st = goLit P (litOf s86ur3.eq_1) o p Q st := goReg_of _
theorem u86ur4 : goReg P s86ur4 o p Q st = goLit P (litOf s86ur4.eq_1) o p Q st := goReg_of _
theorem u86ur5 : goReg P s86ur5 o p Q st = goLit P (litOf s86ur5.eq_1) o p Q st := goReg_of _
theorem u86ur6 : goReg P s86ur6 o p Q st = goLit P (litOf s86ur6.eq_1) o p Q st := goReg_of _
theorem u86ur7 : goReg P s86ur7 o p Q st = goLit P (litOf s86ur7.eq_1) o p Q st := goReg_of _
theorem u86ur9 : goReg P s86ur9 o p Q st = goLit P (litOf s86ur9.eq_1) o p Q st := goReg_of _
attribute [go_sem] u86ur0 u86ur1 u86ur2 u86ur3 u86ur4 u86ur5 u86ur6 u86ur7 e86ul8 u86ur9 e86u
set_option maxRecDepth 100000 in
theorem F86u : FnIs Try.prog 86 Try.f86 [] news s86u [.cell 2 (some 2)] 37 := ⟨follows, Try.func86, by kernel_rfl, by kernel_rfl, by kernel_rfl, by kernel_rfl⟩

end

theorem retok_uni0 (b es : Nat) (rows : List (List D)) : retok b (.uni 0 es rows) = .uni b es rows := by simp [retok, renT, ASlot.toks]
theorem retok_own0 (b es : Nat) (rows : List (List D)) : retok b (.own 0 es rows) = .own b es rows := by simp [retok, renT, ASlot.toks]
attribute [go_sem] retok_uni0 retok_own0
def flatE (l : List En) : List ASlot := (l.map encEn).flatten.map ASlot.d
theorem flatE_def (l : List En) : List.map ASlot.d (l.map encEn).flatten = flatE l := rfl
theorem flatE_cons (x : En) (l : List En) : flatE (x :: l) = .d (.int .i64 x.sess) :: .d (.int .i64 x.phase) :: .d (.sl 1 (x.moved.map encB)) :: .d (.sl 1 (x.opened.map encB)) :: flatE l := rfl
theorem flatE_len : ∀ l : List En, (flatE l).length = l.length * 4
  | [] => rfl
  | x :: l => by rw [flatE_cons]; simp only [List.length_cons, flatE_len l]; omega
theorem flatE_get : ∀ (l : List En) (i j : Nat) (_ : i < l.length) (_ : j < 4), (flatE l)[i * 4 + j]? = some (.d ((encEn l[i]).getD j .nilsl))
  | x :: l, 0, j, _, hj => by
    rw [flatE_cons]
    have : j = 0 ∨ j = 1 ∨ j = 2 ∨ j = 3 := by omega
    rcases this with rfl | rfl | rfl | rfl <;> rfl
  | x :: l, i + 1, j, hi, hj => by
    rw [flatE_cons, show (i + 1) * 4 + j = (i * 4 + j) + 1 + 1 + 1 + 1 by omega]
    simp only [List.getElem?_cons_succ]
    exact flatE_get l i j (by simpa using hi) hj
theorem flatE_getD (l : List En) (i j : Nat) (hi : i < l.length) (hj : j < 4) : (flatE l).getD (i * 4 + j) .bad = .d ((encEn l[i]).getD j .nilsl) := by
  rw [List.getD_eq_getElem?_getD, flatE_get l i j hi hj]; rfl
theorem flatE_set (l : List En) (i j : Nat) (hi : i < l.length) (hj : j < 4) : (flatE l).set (i * 4 + j) (.d ((encEn l[i]).getD j .nilsl)) = flatE l := by
  refine List.ext_getElem? fun k => ?_
  rw [List.getElem?_set]
  split
  · rename_i h; subst h
    rw [flatE_get l i j hi hj]
    have := (List.getElem?_eq_some_iff.1 (flatE_get l i j hi hj)).1
    simp [this]
  · rfl

theorem flatE_g2 {l : List En} {i : Nat} (hi : i < l.length) : (flatE l).getD (i * 4 + 2) .bad = .d (.sl 1 (l[i].moved.map encB)) := flatE_getD l i 2 hi (by decide)
theorem flatE_g3 {l : List En} {i : Nat} (hi : i < l.length) : (flatE l).getD (i * 4 + 3) .bad = .d (.sl 1 (l[i].opened.map encB)) := flatE_getD l i 3 hi (by decide)
theorem flatE_s2 {l : List En} {i : Nat} (hi : i < l.length) : (flatE l).set (i * 4 + 2) (.d (.sl 1 (l[i].moved.map encB))) = flatE l := flatE_set l i 2 hi (by decide)
theorem flatE_s3 {l : List En} {i : Nat} (hi : i < l.length) : (flatE l).set (i * 4 + 3) (.d (.sl 1 (l[i].opened.map encB))) = flatE l := flatE_set l i 3 hi (by decide)
theorem csW_flatE (keep : Nat → Bool) : ∀ l : List En, csW keep (flatE l) (flatE l)
  | [] => by simp only [flatE, List.map_nil, List.flatten_nil, csW]
  | x :: l => by
    rw [flatE_cons]
    have := csW_flatE keep l
    try simp only [this, go_sem, Nat.reduceAdd, Nat.reduceMul, Nat.reduceSub, Nat.reduceEqDiff, Nat.reduceLT, Nat.reduceLeDiff, Nat.reduceBEq, reduceIte, reduceCtorEq, Int.reduceAdd, Int.reduceLT, Int.reduceLE, Int.reduceGT, Int.reduceGE, Int.reduceEq, Int.reduceNe, Int.reduceBEq, Int.reduceBNe, Int.reduceToNat, Int.reduceNeg]
theorem pairsCs_flatE : ∀ l : List En, pairsCs (flatE l) (flatE l) = []
  | [] => rfl
  | x :: l => by
    rw [flatE_cons]
    have := pairsCs_flatE l
    try simp only [this, go_sem, Nat.reduceAdd, Nat.reduceMul, Nat.reduceSub, Nat.reduceEqDiff, Nat.reduceLT, Nat.reduceLeDiff, Nat.reduceBEq, reduceIte, reduceCtorEq, Int.reduceAdd, Int.reduceLT, Int.reduceLE, Int.reduceGT, Int.reduceGE, Int.reduceEq, Int.reduceNe, Int.reduceBEq, Int.reduceBNe, Int.reduceToNat, Int.reduceNeg]
theorem toks_flatE : ∀ l : List En, (flatE l).flatMap ASlot.toks = []
  | [] => rfl
  | x :: l => by
    rw [flatE_cons]
    have := toks_flatE l
    try simp only [List.flatMap_cons, this, go_sem, Nat.reduceAdd, Nat.reduceMul, Nat.reduceSub, Nat.reduceEqDiff, Nat.reduceLT, Nat.reduceLeDiff, Nat.reduceBEq, reduceIte, reduceCtorEq, Int.reduceAdd, Int.reduceLT, Int.reduceLE, Int.reduceGT, Int.reduceGE, Int.reduceEq, Int.reduceNe, Int.reduceBEq, Int.reduceBNe, Int.reduceToNat, Int.reduceNeg]
attribute [go_sem] csW_flatE pairsCs_flatE toks_flatE flatE_len

def Scop (m : Mg) (i : { i : Nat // i ≤ m.ents.length }) : St :=
  ⟨[(1, true, .d (.ptr 0 0)), (2, true, .d (.ptr 1 0)), (11, true, .d (.int .i64 m.ents.length)), (12, true, .d (.int .i64 (i.val : Nat)))],
   [.row [.d (.int .i64 m.roles), .d (.ref 2 0 4 m.ents.length)], .row [.d (.int .i64 0), .d .nilsl], .row (flatE m.ents)], [], 1⟩

set_option maxRecDepth 10000 in
theorem copied_ok (m : Mg) (hm : m.Sm) : ACall Try.prog 86 [.d (.agg (encMg m))] [] (.d (.agg [.int .i64 m.roles, .ref 2 0 4 m.ents.length])) [.none, .none, .row (flatE m.ents)] := by
  have hl := hm.1
  refine F86u.go ?_
  try simp only [encMg, go_sem, Nat.reduceAdd, Nat.reduceMul, Nat.reduceSub, Nat.reduceEqDiff, Nat.reduceLT, Nat.reduceLeDiff, Nat.reduceBEq, reduceIte, reduceCtorEq, Int.reduceAdd, Int.reduceLT, Int.reduceLE, Int.reduceGT, Int.reduceGE, Int.reduceEq, Int.reduceNe, Int.reduceBEq, Int.reduceBNe, Int.reduceToNat, Int.reduceNeg]
  refine clA F111u (cloneE_ok m.ents hm.1) ?_
  try (refine ev ?_; try exact True.intro)
  try (refine ev ?_; try exact True.intro)
  (repeat (with_reducible refine ob ?_))
  refine pu_u2o (.cell 0 1) _ 4 (m.ents.map encEn) ?_
  refine pu ?_
  try (refine ev ?_; try exact True.intro)
  refine AWp_loop (Scop m) (fun i => m.ents.length - i.val) ⟨0, Nat.zero_le _⟩ ?_ (fun i => ?_)
  · try simp only [Scop, flatE_def, go_sem, Nat.reduceAdd, Nat.reduceMul, Nat.reduceSub, Nat.reduceEqDiff, Nat.reduceLT, Nat.reduceLeDiff, Nat.reduceBEq, reduceIte, reduceCtorEq, Int.reduceAdd, Int.reduceLT, Int.reduceLE, Int.reduceGT, Int.reduceGE, Int.reduceEq, Int.reduceNe, Int.reduceBEq, Int.reduceBNe, Int.reduceToNat, Int.reduceNeg]
  obtain ⟨i, hi⟩ := i
  try simp only [Scop, go_sem, Nat.reduceAdd, Nat.reduceMul, Nat.reduceSub, Nat.reduceEqDiff, Nat.reduceLT, Nat.reduceLeDiff, Nat.reduceBEq, reduceIte, reduceCtorEq, Int.reduceAdd, Int.reduceLT, Int.reduceLE, Int.reduceGT, Int.reduceGE, Int.reduceEq, Int.reduceNe, Int.reduceBEq, Int.reduceBNe, Int.reduceToNat, Int.reduceNeg]
  (repeat (with_reducible refine ob ?_)); refine iff_ _ (fun h => ?_) (fun h => ?_)
  · have hil : i < m.ents.length := by simpa using h
    have hx := hm.2 _ (List.getElem_mem hil)
    try (refine ev ?_; try exact True.intro)
    (repeat (with_reducible refine ob ?_))
    rw [flatE_g2 hil]
    (repeat (with_reducible refine ob ?_)); first | refine cl F112 (cloneB_ok m.ents[i].moved hx.1) ?_ | refine clF F112 (cloneB_ok m.ents[i].moved hx.1) (fun _ => by simp only [encEn, encMg, go_sem, Nat.reduceAdd, Nat.reduceMul, Nat.reduceSub, Nat.reduceEqDiff, Nat.reduceLT, Nat.reduceLeDiff, Nat.reduceBEq, reduceIte, reduceCtorEq, Int.reduceAdd, Int.reduceLT, Int.reduceLE, Int.reduceGT, Int.reduceGE, Int.reduceEq, Int.reduceNe, Int.reduceBEq, Int.reduceBNe, Int.reduceToNat, Int.reduceNeg]) ?_
    try (refine ev ?_; try exact True.intro)
    (repeat (with_reducible refine ob ?_))
    rw [flatE_g3 hil]
    (repeat (with_reducible refine ob ?_)); first | refine cl F112 (cloneB_ok m.ents[i].opened hx.2) ?_ | refine clF F112 (cloneB_ok m.ents[i].opened hx.2) (fun _ => by simp only [encEn, encMg, go_sem, Nat.reduceAdd, Nat.reduceMul, Nat.reduceSub, Nat.reduceEqDiff, Nat.reduceLT, Nat.reduceLeDiff, Nat.reduceBEq, reduceIte, reduceCtorEq, Int.reduceAdd, Int.reduceLT, Int.reduceLE, Int.reduceGT, Int.reduceGE, Int.reduceEq, Int.reduceNe, Int.reduceBEq, Int.reduceBNe, Int.reduceToNat, Int.reduceNeg]) ?_
    try simp only [flatE_s2 hil, flatE_s3 hil, go_sem, Nat.reduceAdd, Nat.reduceMul, Nat.reduceSub, Nat.reduceEqDiff, Nat.reduceLT, Nat.reduceLeDiff, Nat.reduceBEq, reduceIte, reduceCtorEq, Int.reduceAdd, Int.reduceLT, Int.reduceLE, Int.reduceGT, Int.reduceGE, Int.reduceEq, Int.reduceNe, Int.reduceBEq, Int.reduceBNe, Int.reduceToNat, Int.reduceNeg]
    (repeat (with_reducible refine ob ?_))
    try simp only [flatE_s2 hil, flatE_s3 hil, go_sem, Nat.reduceAdd, Nat.reduceMul, Nat.reduceSub, Nat.reduceEqDiff, Nat.reduceLT, Nat.reduceLeDiff, Nat.reduceBEq, reduceIte, reduceCtorEq, Int.reduceAdd, Int.reduceLT, Int.reduceLE, Int.reduceGT, Int.reduceGE, Int.reduceEq, Int.reduceNe, Int.reduceBEq, Int.reduceBNe, Int.reduceToNat, Int.reduceNeg]
    (repeat (with_reducible refine ob ?_))
    try simp only [flatE_s2 hil, flatE_s3 hil, go_sem, Nat.reduceAdd, Nat.reduceMul, Nat.reduceSub, Nat.reduceEqDiff, Nat.reduceLT, Nat.reduceLeDiff, Nat.reduceBEq, reduceIte, reduceCtorEq, Int.reduceAdd, Int.reduceLT, Int.reduceLE, Int.reduceGT, Int.reduceGE, Int.reduceEq, Int.reduceNe, Int.reduceBEq, Int.reduceBNe, Int.reduceToNat, Int.reduceNeg]
    refine pu ?_
    try (refine ev ?_; try exact True.intro)
    refine ⟨⟨i + 1, hil⟩, ?_, by dsimp only; omega⟩
    try simp only [Scop, wrap_succ (show i < 9223372036854775807 by omega), go_sem, Nat.reduceAdd, Nat.reduceMul, Nat.reduceSub, Nat.reduceEqDiff, Nat.reduceLT, Nat.reduceLeDiff, Nat.reduceBEq, reduceIte, reduceCtorEq, Int.reduceAdd, Int.reduceLT, Int.reduceLE, Int.reduceGT, Int.reduceGE, Int.reduceEq, Int.reduceNe, Int.reduceBEq, Int.reduceBNe, Int.reduceToNat, Int.reduceNeg]
  · have hil : i = m.ents.length := by have : m.ents.length ≤ i := by simpa using h
                                       omega
    subst hil
    try (refine ev ?_; try exact True.intro)
    refine pu ?_
    try (refine ev ?_; try exact True.intro)
    trace_state

theorem csW_set {keep : Nat → Bool} {s : ASlot} (hs : slotW keep s s) : ∀ (l : List ASlot) (i : Nat), csW keep l l → csW keep (l.set i s) (l.set i s)
  | [], _, h => h
  | _ :: _, 0, h => ⟨hs, h.2⟩
  | _ :: l, i + 1, h => ⟨h.1, csW_set hs l i h.2⟩
theorem pairsCs_set {s : ASlot} (hs : tokPair s s = []) : ∀ (l : List ASlot) (i : Nat), pairsCs l l = [] → pairsCs (l.set i s) (l.set i s) = []
  | [], _, h => h
  | x :: l, 0, h => by
    rw [List.set_cons_zero, pairsCs_cons]
    rw [pairsCs_cons, List.append_eq_nil_iff] at h
    rw [hs, h.2]; rfl
  | x :: l, i + 1, h => by
    rw [List.set_cons_succ, pairsCs_cons]
    rw [pairsCs_cons, List.append_eq_nil_iff] at h
    rw [h.1, pairsCs_set hs l i h.2]; rfl
theorem toks_set {s : ASlot} (hs : s.toks = []) : ∀ (l : List ASlot) (i : Nat), l.flatMap ASlot.toks = [] → (l.set i s).flatMap ASlot.toks = []
  | [], _, h => h
  | x :: l, 0, h => by
    rw [List.set_cons_zero, List.flatMap_cons]
    rw [List.flatMap_cons, List.append_eq_nil_iff] at h
    rw [hs, h.2]; rfl
  | x :: l, i + 1, h => by
    rw [List.set_cons_succ, List.flatMap_cons]
    rw [List.flatMap_cons, List.append_eq_nil_iff] at h
    rw [h.1, toks_set hs l i h.2]; rfl

section
variable {P : Program} {k0 o : Nat} {p : List (Nat × Nat)} {Q : SExit → St → Prop} {st : St}
noncomputable def s86vr0 : List SOper := [
  ⟨some 1, .box 2 (.t 0), none⟩,
  ⟨some 2, .alloc 1 [(.d (.int .i64 0)), (.d .nilsl)], none⟩]
noncomputable def s86vr1 : List SOper := [
  ⟨some 5, .faddr 1 (.t 1), none⟩,
  ⟨some 6, .load none (.t 5), none⟩,
  ⟨some 7, .call (.k (.d (.func (.func 111) [] []))) [(.t 6)], none⟩,
  ⟨some 8, .faddr 1 (.t 1), none⟩,
  ⟨none, .store none (.t 8) (.t 7), none⟩]
noncomputable def s86vr2 : List SOper := [
  ⟨some 9, .faddr 1 (.t 1), none⟩,
  ⟨some 10, .load none (.t 9), none⟩,
  ⟨some 11, .len (.t 10), none⟩,
  ⟨some 12, .mov (.k (.d (.int .i64 0))), none⟩]
noncomputable def s86vr3 : List SOper := [
  ⟨some 13, .bin .lss (.t 12) (.t 11), none⟩]
noncomputable def s86vr4 : List SOper := [
  ⟨some 14, .mov (.t 12), none⟩,
  ⟨some 3, .mov (.t 14), none⟩]
noncomputable def s86vr5 : List SOper := [
  ⟨some 15, .faddr 1 (.t 1), none⟩,
  ⟨some 16, .load none (.t 15), none⟩,
  ⟨some 17, .mov (.t 3), none⟩,
  ⟨some 18, .iaddr 4 (.t 16) (.t 17), none⟩,
  ⟨some 4, .mov (.t 18), none⟩]
noncomputable def s86vr6 : List SOper := [
  ⟨some 19, .mov (.t 4), none⟩,
  ⟨some 20, .mov (.t 4), none⟩,
  ⟨some 21, .mov (.t 4), none⟩,
  ⟨some 22, .nilCheck (.t 21), none⟩,
  ⟨some 23, .faddr 2 (.t 22), none⟩,
  ⟨some 24, .load none (.t 23), none⟩,
  ⟨some 25, .call (.k (.d (.func (.func 112) [] []))) [(.t 24)], none⟩,
  ⟨some 26, .mov (.t 4), none⟩,
  ⟨some 27, .nilCheck (.t 26), none⟩,
  ⟨some 28, .faddr 3 (.t 27), none⟩,
  ⟨some 29, .load none (.t 28), none⟩,
  ⟨some 30, .call (.k (.d (.func (.func 112) [] []))) [(.t 29)], none⟩,
  ⟨some 31, .nilCheck (.t 19), none⟩,
  ⟨some 32, .faddr 2 (.t 31), none⟩,
  ⟨none, .store none (.t 32) (.t 25), none⟩,
  ⟨some 33, .nilCheck (.t 20), none⟩,
  ⟨some 34, .faddr 3 (.t 33), none⟩,
  ⟨none, .store none (.t 34) (.t 30), none⟩]
noncomputable def s86vr7 : List SOper := [
  ⟨some 35, .bin .add (.t 12) (.k (.d (.int .i64 1))), none⟩,
  ⟨some 12, .mov (.t 35), none⟩]
noncomputable def s86vl8 : SCode := (.seq (.region s86vr3 0 []) (.seq (.cond (.t 13) .skip (.exit 0)) (.seq (.block 1 (.seq (.region s86vr4 0 []) (.seq (.region s86vr5 0 []) (.region s86vr6 0 [(6, 10)])))) (.pause (.region s86vr7 0 [])))))
theorem e86vl8 : AWp P k0 s86vl8 Q st = AWp P k0 (.seq (.region s86vr3 0 []) (.seq (.cond (.t 13) .skip (.exit 0)) (.seq (.block 1 (.seq (.region s86vr4 0 []) (.seq (.region s86vr5 0 []) (.region s86vr6 0 [(6, 10)])))) (.pause (.region s86vr7 0 []))))) Q st := rfl
noncomputable def s86vr9 : List SOper := [
  ⟨some 36, .load (some 2) (.t 1), none⟩,
  ⟨none, .store (some 2) (.t 2) (.t 36), none⟩]
noncomputable def s86v : SCode := (.seq (.region s86vr0 2 []) (.seq (.region s86vr1 0 []) (.seq (.seq (.pause (.region s86vr2 0 [])) (.block 0 (.loop s86vl8))) (.seq (.region s86vr9 0 []) (.pause .ret)))))
theorem e86v : AWp P k0 s86v Q st = AWp P k0 (.seq (.region s86vr0 2 []) (.seq (.region s86vr1 0 []) (.seq (.seq (.pause (.region s86vr2 0 [])) (.block 0 (.loop s86vl8))) (.seq (.region s86vr9 0 []) (.pause .ret))))) Q st := rfl
theorem u86vr0 : goReg P s86vr0 o p Q st = goLit P (litOf s86vr0.eq_1) o p Q st := goReg_of _
theorem u86vr1 : goReg P s86vr1 o p Q st = goLit P (litOf s86vr1.eq_1) o p Q st := goReg_of _
theorem u86vr2 : goReg P s86vr2 o p Q st = goLit P (litOf s86vr2.eq_1) o p Q st := goReg_of _
theorem u86vr3 : goReg P s86vr3 o p Q st = goLit P (litOf s86vr3.eq_1) o p Q st := goReg_of _
theorem u86vr4 : goReg P s86vr4 o p Q st = goLit P (litOf s86vr4.eq_1) o p Q st := goReg_of _
theorem u86vr5 : goReg P s86vr5 o p Q st = goLit P (litOf s86vr5.eq_1) o p Q st := goReg_of _
theorem u86vr6 : goReg P s86vr6 o p Q st = goLit P (litOf s86vr6.eq_1) o p Q st := goReg_of _
theorem u86vr7 : goReg P s86vr7 o p Q st = goLit P (litOf s86vr7.eq_1) o p Q st := goReg_of _
theorem u86vr9 : goReg P s86vr9 o p Q st = goLit P (litOf s86vr9.eq_1) o p Q st := goReg_of _
attribute [go_sem] u86vr0 u86vr1 u86vr2 u86vr3 u86vr4 u86vr5 u86vr6 u86vr7 e86vl8 u86vr9 e86v
set_option maxRecDepth 100000 in
theorem F86v : FnIs Try.prog 86 Try.f86 [] news s86v [.cell 2 (some 2)] 37 := ⟨follows, Try.func86, by kernel_rfl, by kernel_rfl, by kernel_rfl, by kernel_rfl⟩

end

def refA (l : List ASlot) (k a b : Nat) (x : En) : List ASlot := (l.set (k * 4 + 2) (.d (.ref a 0 1 x.moved.length))).set (k * 4 + 3) (.d (.ref b 0 1 x.opened.length))
def bitO (l : List Bool) : AObj := .row ((l.map encB).flatten.map ASlot.d)
theorem bitO_def (l : List Bool) : AObj.row ((l.map encB).flatten.map ASlot.d) = bitO l := rfl

theorem refA_len (l : List ASlot) (k a b : Nat) (x : En) : (refA l k a b x).length = l.length := by simp [refA]
theorem refA_g2 {l : List En} {k a b i : Nat} {x : En} (hik : i ≠ k) (hi : i < l.length) : (refA (flatE l) k a b x).getD (i * 4 + 2) .bad = .d (.sl 1 (l[i].moved.map encB)) := by
  rw [← flatE_g2 hi, List.getD_eq_getElem?_getD, List.getD_eq_getElem?_getD, refA, List.getElem?_set_ne (by omega), List.getElem?_set_ne (by omega)]
theorem refA_g3 {l : List En} {k a b i : Nat} {x : En} (hik : i ≠ k) (hi : i < l.length) : (refA (flatE l) k a b x).getD (i * 4 + 3) .bad = .d (.sl 1 (l[i].opened.map encB)) := by
  rw [← flatE_g3 hi, List.getD_eq_getElem?_getD, List.getD_eq_getElem?_getD, refA, List.getElem?_set_ne (by omega), List.getElem?_set_ne (by omega)]
theorem refA_s2 {l : List En} {k a b i : Nat} {x : En} (hik : i ≠ k) (hi : i < l.length) : (refA (flatE l) k a b x).set (i * 4 + 2) (.d (.sl 1 (l[i].moved.map encB))) = refA (flatE l) k a b x := by
  rw [refA, List.set_comm _ _ (show k * 4 + 3 ≠ i * 4 + 2 by omega), List.set_comm _ _ (show k * 4 + 2 ≠ i * 4 + 2 by omega), flatE_s2 hi]
theorem refA_s3 {l : List En} {k a b i : Nat} {x : En} (hik : i ≠ k) (hi : i < l.length) : (refA (flatE l) k a b x).set (i * 4 + 3) (.d (.sl 1 (l[i].opened.map encB))) = refA (flatE l) k a b x := by
  rw [refA, List.set_comm _ _ (show k * 4 + 3 ≠ i * 4 + 3 by omega), List.set_comm _ _ (show k * 4 + 2 ≠ i * 4 + 3 by omega), flatE_s3 hi]
theorem csW_refA {keep : Nat → Bool} {l : List En} {k a b : Nat} {x : En} (ha : keep a = true) (hb : keep b = true) : csW keep (refA (flatE l) k a b x) (refA (flatE l) k a b x) :=
  csW_set (by try simp only [ha, hb, go_sem, Nat.reduceAdd, Nat.reduceMul, Nat.reduceSub, Nat.reduceEqDiff, Nat.reduceLT, Nat.reduceLeDiff, Nat.reduceBEq, reduceIte, reduceCtorEq, Int.reduceAdd, Int.reduceLT, Int.reduceLE, Int.reduceGT, Int.reduceGE, Int.reduceEq, Int.reduceNe, Int.reduceBEq, Int.reduceBNe, Int.reduceToNat, Int.reduceNeg]) _ _ (csW_set (by try simp only [ha, hb, go_sem, Nat.reduceAdd, Nat.reduceMul, Nat.reduceSub, Nat.reduceEqDiff, Nat.reduceLT, Nat.reduceLeDiff, Nat.reduceBEq, reduceIte, reduceCtorEq, Int.reduceAdd, Int.reduceLT, Int.reduceLE, Int.reduceGT, Int.reduceGE, Int.reduceEq, Int.reduceNe, Int.reduceBEq, Int.reduceBNe, Int.reduceToNat, Int.reduceNeg]) _ _ (csW_flatE keep l))
theorem pairsCs_refA {l : List En} {k a b : Nat} {x : En} : pairsCs (refA (flatE l) k a b x) (refA (flatE l) k a b x) = [] := pairsCs_set rfl _ _ (pairsCs_set rfl _ _ (pairsCs_flatE l))
theorem toks_refA {l : List En} {k a b : Nat} {x : En} : (refA (flatE l) k a b x).flatMap ASlot.toks = [] := toks_set rfl _ _ (toks_set rfl _ _ (toks_flatE l))
theorem bits_def (l : List Bool) : List.map ASlot.d (l.map encB).flatten = l.map fun b => .d (.bool b) := by
  induction l with
  | nil => rfl
  | cons b l ih => simp only [List.map_cons, List.flatten_cons, encB, List.cons_append, List.nil_append, ih]
theorem csW_bits (keep : Nat → Bool) : ∀ l : List Bool, csW keep (l.map fun b => .d (.bool b)) (l.map fun b => .d (.bool b))
  | [] => trivial
  | x :: l => by
    have := csW_bits keep l
    try simp only [List.map_cons, this, go_sem, Nat.reduceAdd, Nat.reduceMul, Nat.reduceSub, Nat.reduceEqDiff, Nat.reduceLT, Nat.reduceLeDiff, Nat.reduceBEq, reduceIte, reduceCtorEq, Int.reduceAdd, Int.reduceLT, Int.reduceLE, Int.reduceGT, Int.reduceGE, Int.reduceEq, Int.reduceNe, Int.reduceBEq, Int.reduceBNe, Int.reduceToNat, Int.reduceNeg]
theorem pairsCs_bits : ∀ l : List Bool, pairsCs (l.map fun b => .d (.bool b)) (l.map fun b => .d (.bool b)) = []
  | [] => rfl
  | x :: l => by
    have := pairsCs_bits l
    try simp only [List.map_cons, this, go_sem, Nat.reduceAdd, Nat.reduceMul, Nat.reduceSub, Nat.reduceEqDiff, Nat.reduceLT, Nat.reduceLeDiff, Nat.reduceBEq, reduceIte, reduceCtorEq, Int.reduceAdd, Int.reduceLT, Int.reduceLE, Int.reduceGT, Int.reduceGE, Int.reduceEq, Int.reduceNe, Int.reduceBEq, Int.reduceBNe, Int.reduceToNat, Int.reduceNeg]
theorem toks_bits : ∀ l : List Bool, ((l.map fun b => .d (.bool b)).flatMap ASlot.toks : List Nat) = []
  | [] => rfl
  | x :: l => by
    have := toks_bits l
    try simp only [List.map_cons, List.flatMap_cons, this, go_sem, Nat.reduceAdd, Nat.reduceMul, Nat.reduceSub, Nat.reduceEqDiff, Nat.reduceLT, Nat.reduceLeDiff, Nat.reduceBEq, reduceIte, reduceCtorEq, Int.reduceAdd, Int.reduceLT, Int.reduceLE, Int.reduceGT, Int.reduceGE, Int.reduceEq, Int.reduceNe, Int.reduceBEq, Int.reduceBNe, Int.reduceToNat, Int.reduceNeg]
attribute [go_sem] refA_len csW_refA pairsCs_refA toks_refA bits_def csW_bits pairsCs_bits toks_bits

theorem refA_def (l : List ASlot) (k a b : Nat) (x : En) : (l.set (k * 4 + 2) (.d (.ref a 0 1 x.moved.length))).set (k * 4 + 3) (.d (.ref b 0 1 x.opened.length)) = refA l k a b x := rfl
theorem set4 {l : List ASlot} {a b : Nat} {u v x y : ASlot} (h : a ≠ b) : (((l.set a u).set b v).set a x).set b y = (l.set a x).set b y := by
  rw [List.set_comm _ _ (Ne.symm h), List.set_set, List.set_set]

def ScopA (m : Mg) (k : Nat) (x : En) (i : { i : Nat // i ≤ m.ents.length }) : St :=
  ⟨[(1, true, .d (.ptr 0 0)), (2, true, .d (.ptr 1 0)), (11, true, .d (.int .i64 m.ents.length)), (12, true, .d (.int .i64 (i.val : Nat)))],
   if i.val ≤ k then [.row [.d (.int .i64 m.roles), .d (.ref 2 0 4 m.ents.length)], .row [.d (.int .i64 0), .d .nilsl], .row (flatE m.ents)]
   else [.row [.d (.int .i64 m.roles), .d (.ref 2 0 4 m.ents.length)], .row [.d (.int .i64 0), .d .nilsl], .row (refA (flatE m.ents) k 3 4 x), .row (x.moved.map fun b => .d (.bool b)), .row (x.opened.map fun b => .d (.bool b))], [], 1⟩

set_option maxRecDepth 10000 in
theorem copiedAt_ok (m : Mg) (hm : m.Sm) (k : Nat) (hk : k < m.ents.length) : ACall Try.prog 86 [.d (.agg (encMg m))] [] (.d (.agg [.int .i64 m.roles, .ref 2 0 4 m.ents.length]))
    [.none, .none, .row (refA (flatE m.ents) k 3 4 m.ents[k]), .row (m.ents[k].moved.map fun b => .d (.bool b)), .row (m.ents[k].opened.map fun b => .d (.bool b))] := by
  have hl := hm.1
  refine F86v.go ?_
  try simp only [encMg, go_sem, Nat.reduceAdd, Nat.reduceMul, Nat.reduceSub, Nat.reduceEqDiff, Nat.reduceLT, Nat.reduceLeDiff, Nat.reduceBEq, reduceIte, reduceCtorEq, Int.reduceAdd, Int.reduceLT, Int.reduceLE, Int.reduceGT, Int.reduceGE, Int.reduceEq, Int.reduceNe, Int.reduceBEq, Int.reduceBNe, Int.reduceToNat, Int.reduceNeg]
  refine clA F111u (cloneE_ok m.ents hm.1) ?_
  try (refine ev ?_; try exact True.intro)
  (repeat (with_reducible refine ob ?_))
  refine pu_u2o (.cell 0 1) _ 4 (m.ents.map encEn) ?_
  refine pu ?_
  try (refine ev ?_; try exact True.intro)
  refine AWp_loop (ScopA m k m.ents[k]) (fun i => m.ents.length - i.val) ⟨0, Nat.zero_le _⟩ ?_ (fun i => ?_)
  · try simp only [ScopA, flatE_def, Nat.zero_le, go_sem, Nat.reduceAdd, Nat.reduceMul, Nat.reduceSub, Nat.reduceEqDiff, Nat.reduceLT, Nat.reduceLeDiff, Nat.reduceBEq, reduceIte, reduceCtorEq, Int.reduceAdd, Int.reduceLT, Int.reduceLE, Int.reduceGT, Int.reduceGE, Int.reduceEq, Int.reduceNe, Int.reduceBEq, Int.reduceBNe, Int.reduceToNat, Int.reduceNeg]
  obtain ⟨i, hi⟩ := i
  rcases Nat.lt_trichotomy i k with hik | hik | hik
  · have hle : i ≤ k := by omega
    have hle1 : i + 1 ≤ k := by omega
    try simp only [ScopA, hle, go_sem, Nat.reduceAdd, Nat.reduceMul, Nat.reduceSub, Nat.reduceEqDiff, Nat.reduceLT, Nat.reduceLeDiff, Nat.reduceBEq, reduceIte, reduceCtorEq, Int.reduceAdd, Int.reduceLT, Int.reduceLE, Int.reduceGT, Int.reduceGE, Int.reduceEq, Int.reduceNe, Int.reduceBEq, Int.reduceBNe, Int.reduceToNat, Int.reduceNeg]
    (repeat (with_reducible refine ob ?_)); refine iff_ _ (fun h => ?_) (fun h => ?_)
    · have hil : i < m.ents.length := by simpa using h
      have hx := hm.2 _ (List.getElem_mem hil)
      try (refine ev ?_; try exact True.intro)
      (repeat (with_reducible refine ob ?_))
      rw [flatE_g2 hil]
      (repeat (with_reducible refine ob ?_)); first | refine cl F112 (cloneB_ok m.ents[i].moved hx.1) ?_ | refine clF F112 (cloneB_ok m.ents[i].moved hx.1) (fun _ => by simp only [encEn, encMg, go_sem, Nat.reduceAdd, Nat.reduceMul, Nat.reduceSub, Nat.reduceEqDiff, Nat.reduceLT, Nat.reduceLeDiff, Nat.reduceBEq, reduceIte, reduceCtorEq, Int.reduceAdd, Int.reduceLT, Int.reduceLE, Int.reduceGT, Int.reduceGE, Int.reduceEq, Int.reduceNe, Int.reduceBEq, Int.reduceBNe, Int.reduceToNat, Int.reduceNeg]) ?_
      try (refine ev ?_; try exact True.intro)
      (repeat (with_reducible refine ob ?_))
      rw [flatE_g3 hil]
      (repeat (with_reducible refine ob ?_)); first | refine cl F112 (cloneB_ok m.ents[i].opened hx.2) ?_ | refine clF F112 (cloneB_ok m.ents[i].opened hx.2) (fun _ => by simp only [encEn, encMg, go_sem, Nat.reduceAdd, Nat.reduceMul, Nat.reduceSub, Nat.reduceEqDiff, Nat.reduceLT, Nat.reduceLeDiff, Nat.reduceBEq, reduceIte, reduceCtorEq, Int.reduceAdd, Int.reduceLT, Int.reduceLE, Int.reduceGT, Int.reduceGE, Int.reduceEq, Int.reduceNe, Int.reduceBEq, Int.reduceBNe, Int.reduceToNat, Int.reduceNeg]) ?_
      try simp only [flatE_s2 hil, flatE_s3 hil, go_sem, Nat.reduceAdd, Nat.reduceMul, Nat.reduceSub, Nat.reduceEqDiff, Nat.reduceLT, Nat.reduceLeDiff, Nat.reduceBEq, reduceIte, reduceCtorEq, Int.reduceAdd, Int.reduceLT, Int.reduceLE, Int.reduceGT, Int.reduceGE, Int.reduceEq, Int.reduceNe, Int.reduceBEq, Int.reduceBNe, Int.reduceToNat, Int.reduceNeg]
      (repeat (with_reducible refine ob ?_))
      try simp only [flatE_s2 hil, flatE_s3 hil, go_sem, Nat.reduceAdd, Nat.reduceMul, Nat.reduceSub, Nat.reduceEqDiff, Nat.reduceLT, Nat.reduceLeDiff, Nat.reduceBEq, reduceIte, reduceCtorEq, Int.reduceAdd, Int.reduceLT, Int.reduceLE, Int.reduceGT, Int.reduceGE, Int.reduceEq, Int.reduceNe, Int.reduceBEq, Int.reduceBNe, Int.reduceToNat, Int.reduceNeg]
      (repeat (with_reducible refine ob ?_))
      try simp only [flatE_s2 hil, flatE_s3 hil, go_sem, Nat.reduceAdd, Nat.reduceMul, Nat.reduceSub, Nat.reduceEqDiff, Nat.reduceLT, Nat.reduceLeDiff, Nat.reduceBEq, reduceIte, reduceCtorEq, Int.reduceAdd, Int.reduceLT, Int.reduceLE, Int.reduceGT, Int.reduceGE, Int.reduceEq, Int.reduceNe, Int.reduceBEq, Int.reduceBNe, Int.reduceToNat, Int.reduceNeg]
      refine pu ?_
      try (refine ev ?_; try exact True.intro)
      refine ⟨⟨i + 1, hil⟩, ?_, by dsimp only; omega⟩
      try simp only [ScopA, hle1, wrap_succ (show i < 9223372036854775807 by omega), go_sem, Nat.reduceAdd, Nat.reduceMul, Nat.reduceSub, Nat.reduceEqDiff, Nat.reduceLT, Nat.reduceLeDiff, Nat.reduceBEq, reduceIte, reduceCtorEq, Int.reduceAdd, Int.reduceLT, Int.reduceLE, Int.reduceGT, Int.reduceGE, Int.reduceEq, Int.reduceNe, Int.reduceBEq, Int.reduceBNe, Int.reduceToNat, Int.reduceNeg]
    · exfalso; simp at h; omega
  · subst hik
    have hni : ¬ (i + 1 ≤ i) := by omega
    try simp only [ScopA, Nat.le_refl, go_sem, Nat.reduceAdd, Nat.reduceMul, Nat.reduceSub, Nat.reduceEqDiff, Nat.reduceLT, Nat.reduceLeDiff, Nat.reduceBEq, reduceIte, reduceCtorEq, Int.reduceAdd, Int.reduceLT, Int.reduceLE, Int.reduceGT, Int.reduceGE, Int.reduceEq, Int.reduceNe, Int.reduceBEq, Int.reduceBNe, Int.reduceToNat, Int.reduceNeg]
    (repeat (with_reducible refine ob ?_)); refine iff_ _ (fun h => ?_) (fun h => ?_)
    · have hil : i < m.ents.length := hk
      have hx := hm.2 _ (List.getElem_mem hil)
      try (refine ev ?_; try exact True.intro)
      (repeat (with_reducible refine ob ?_))
      rw [flatE_g2 hil]
      refine clA F112u (cloneBu_ok m.ents[i].moved hx.1) ?_
      try (refine ev ?_; try exact True.intro)
      (repeat (with_reducible refine ob ?_))
      rw [flatE_g3 hil]
      refine clA F112u (cloneBu_ok m.ents[i].opened hx.2) ?_
      try (refine ev ?_; try exact True.intro)
      (repeat (with_reducible refine ob ?_))
      try (refine ev ?_; try exact True.intro)
      (repeat (with_reducible refine ob ?_))
      try simp only [List.length_set, flatE_len, go_sem, Nat.reduceAdd, Nat.reduceMul, Nat.reduceSub, Nat.reduceEqDiff, Nat.reduceLT, Nat.reduceLeDiff, Nat.reduceBEq, reduceIte, reduceCtorEq, Int.reduceAdd, Int.reduceLT, Int.reduceLE, Int.reduceGT, Int.reduceGE, Int.reduceEq, Int.reduceNe, Int.reduceBEq, Int.reduceBNe, Int.reduceToNat, Int.reduceNeg]
      (repeat (with_reducible refine ob ?_))
      have hf : (flatE m.ents).length = m.ents.length * 4 := flatE_len _
      refine pu_u2o (.cell 2 (i * 4 + 2)) 240 1 (m.ents[i].moved.map encB) ?_ (hp := by simp only [St.slotAt, objCells, List.getElem?_cons_succ, List.getElem?_cons_zero, AObj.cells, List.getD_eq_getElem?_getD]; rw [List.getElem?_set_ne (by omega), List.getElem?_set_self (by rw [hf]; omega)]; rfl)
      try simp only [List.set_comm, List.length_set, go_sem, Nat.reduceAdd, Nat.reduceMul, Nat.reduceSub, Nat.reduceEqDiff, Nat.reduceLT, Nat.reduceLeDiff, Nat.reduceBEq, reduceIte, reduceCtorEq, Int.reduceAdd, Int.reduceLT, Int.reduceLE, Int.reduceGT, Int.reduceGE, Int.reduceEq, Int.reduceNe, Int.reduceBEq, Int.reduceBNe, Int.reduceToNat, Int.reduceNeg]
      refine pu_u2o (.cell 2 (i * 4 + 3)) 320 1 (m.ents[i].opened.map encB) ?_ (hp := by simp only [St.slotAt, objCells, List.getElem?_cons_succ, List.getElem?_cons_zero, AObj.cells, List.getD_eq_getElem?_getD]; rw [List.getElem?_set_ne (by omega), List.getElem?_set_self (by rw [List.length_set, hf]; omega)]; rfl)
      try simp only [set4 (show i * 4 + 2 ≠ i * 4 + 3 by omega), refA_def, go_sem, Nat.reduceAdd, Nat.reduceMul, Nat.reduceSub, Nat.reduceEqDiff, Nat.reduceLT, Nat.reduceLeDiff, Nat.reduceBEq, reduceIte, reduceCtorEq, Int.reduceAdd, Int.reduceLT, Int.reduceLE, Int.reduceGT, Int.reduceGE, Int.reduceEq, Int.reduceNe, Int.reduceBEq, Int.reduceBNe, Int.reduceToNat, Int.reduceNeg]
      refine pu ?_
      try (refine ev ?_; try exact True.intro)
      refine ⟨⟨i + 1, hil⟩, ?_, by dsimp only; omega⟩
      try simp only [ScopA, hni, wrap_succ (show i < 9223372036854775807 by omega), go_sem, Nat.reduceAdd, Nat.reduceMul, Nat.reduceSub, Nat.reduceEqDiff, Nat.reduceLT, Nat.reduceLeDiff, Nat.reduceBEq, reduceIte, reduceCtorEq, Int.reduceAdd, Int.reduceLT, Int.reduceLE, Int.reduceGT, Int.reduceGE, Int.reduceEq, Int.reduceNe, Int.reduceBEq, Int.reduceBNe, Int.reduceToNat, Int.reduceNeg]
      exact csW_refA rfl rfl
    · exfalso; simp at h; omega
  · have hle : ¬ i ≤ k := by omega
    have hle1 : ¬ i + 1 ≤ k := by omega
    try simp only [ScopA, hle, go_sem, Nat.reduceAdd, Nat.reduceMul, Nat.reduceSub, Nat.reduceEqDiff, Nat.reduceLT, Nat.reduceLeDiff, Nat.reduceBEq, reduceIte, reduceCtorEq, Int.reduceAdd, Int.reduceLT, Int.reduceLE, Int.reduceGT, Int.reduceGE, Int.reduceEq, Int.reduceNe, Int.reduceBEq, Int.reduceBNe, Int.reduceToNat, Int.reduceNeg]
    (repeat (with_reducible refine ob ?_)); refine iff_ _ (fun h => ?_) (fun h => ?_)
    · have hil : i < m.ents.length := by simpa using h
      have hx := hm.2 _ (List.getElem_mem hil)
      have hik' : i ≠ k := by omega
      try (refine ev ?_; try exact True.intro)
      (repeat (with_reducible refine ob ?_))
      rw [refA_g2 hik' hil]
      (repeat (with_reducible refine ob ?_)); first | refine cl F112 (cloneB_ok m.ents[i].moved hx.1) ?_ | refine clF F112 (cloneB_ok m.ents[i].moved hx.1) (fun _ => by simp only [encEn, encMg, go_sem, Nat.reduceAdd, Nat.reduceMul, Nat.reduceSub, Nat.reduceEqDiff, Nat.reduceLT, Nat.reduceLeDiff, Nat.reduceBEq, reduceIte, reduceCtorEq, Int.reduceAdd, Int.reduceLT, Int.reduceLE, Int.reduceGT, Int.reduceGE, Int.reduceEq, Int.reduceNe, Int.reduceBEq, Int.reduceBNe, Int.reduceToNat, Int.reduceNeg]) ?_
      try (refine ev ?_; try exact True.intro)
      (repeat (with_reducible refine ob ?_))
      rw [refA_g3 hik' hil]
      (repeat (with_reducible refine ob ?_)); first | refine cl F112 (cloneB_ok m.ents[i].opened hx.2) ?_ | refine clF F112 (cloneB_ok m.ents[i].opened hx.2) (fun _ => by simp only [encEn, encMg, go_sem, Nat.reduceAdd, Nat.reduceMul, Nat.reduceSub, Nat.reduceEqDiff, Nat.reduceLT, Nat.reduceLeDiff, Nat.reduceBEq, reduceIte, reduceCtorEq, Int.reduceAdd, Int.reduceLT, Int.reduceLE, Int.reduceGT, Int.reduceGE, Int.reduceEq, Int.reduceNe, Int.reduceBEq, Int.reduceBNe, Int.reduceToNat, Int.reduceNeg]) ?_
      try simp only [refA_s2 hik' hil, refA_s3 hik' hil, go_sem, Nat.reduceAdd, Nat.reduceMul, Nat.reduceSub, Nat.reduceEqDiff, Nat.reduceLT, Nat.reduceLeDiff, Nat.reduceBEq, reduceIte, reduceCtorEq, Int.reduceAdd, Int.reduceLT, Int.reduceLE, Int.reduceGT, Int.reduceGE, Int.reduceEq, Int.reduceNe, Int.reduceBEq, Int.reduceBNe, Int.reduceToNat, Int.reduceNeg]
      (repeat (with_reducible refine ob ?_))
      try simp only [refA_s2 hik' hil, refA_s3 hik' hil, go_sem, Nat.reduceAdd, Nat.reduceMul, Nat.reduceSub, Nat.reduceEqDiff, Nat.reduceLT, Nat.reduceLeDiff, Nat.reduceBEq, reduceIte, reduceCtorEq, Int.reduceAdd, Int.reduceLT, Int.reduceLE, Int.reduceGT, Int.reduceGE, Int.reduceEq, Int.reduceNe, Int.reduceBEq, Int.reduceBNe, Int.reduceToNat, Int.reduceNeg]
      (repeat (with_reducible refine ob ?_))
      try simp only [refA_s2 hik' hil, refA_s3 hik' hil, go_sem, Nat.reduceAdd, Nat.reduceMul, Nat.reduceSub, Nat.reduceEqDiff, Nat.reduceLT, Nat.reduceLeDiff, Nat.reduceBEq, reduceIte, reduceCtorEq, Int.reduceAdd, Int.reduceLT, Int.reduceLE, Int.reduceGT, Int.reduceGE, Int.reduceEq, Int.reduceNe, Int.reduceBEq, Int.reduceBNe, Int.reduceToNat, Int.reduceNeg]
      refine pu ?_
      try (refine ev ?_; try exact True.intro)
      refine ⟨⟨i + 1, hil⟩, ?_, by dsimp only; omega⟩
      try simp only [ScopA, hle1, wrap_succ (show i < 9223372036854775807 by omega), go_sem, Nat.reduceAdd, Nat.reduceMul, Nat.reduceSub, Nat.reduceEqDiff, Nat.reduceLT, Nat.reduceLeDiff, Nat.reduceBEq, reduceIte, reduceCtorEq, Int.reduceAdd, Int.reduceLT, Int.reduceLE, Int.reduceGT, Int.reduceGE, Int.reduceEq, Int.reduceNe, Int.reduceBEq, Int.reduceBNe, Int.reduceToNat, Int.reduceNeg]
      exact csW_refA rfl rfl
    · have hil : i = m.ents.length := by have : m.ents.length ≤ i := by simpa using h
                                         omega
      subst hil
      try (refine ev ?_; try exact True.intro)
      refine pu ?_
      try (refine ev ?_; try exact True.intro)
      exact csW_refA rfl rfl
end Go.Proofs.Ythcpckcgjplhiaa

/- The reference of layer 53: the functions that only look. -/
namespace Go.Proofs.Ythcpckcgjplhiaa
open Go.Abs
set_option linter.unusedSimpArgs false

section
variable {P : Program} {k0 o : Nat} {p : List (Nat × Nat)} {Q : SExit → St → Prop} {st : St}
noncomputable def s116r0 : List SOper := [
  ⟨some 2, .mov (.k (.d (.bool false))), none⟩]
noncomputable def s116r1 : List SOper := [
  ⟨some 3, .mov (.k (.d (.int .i64 0))), none⟩]
noncomputable def s116r2 : List SOper := [
  ⟨some 4, .mov (.t 3), none⟩,
  ⟨some 5, .mov (.t 0), none⟩,
  ⟨some 6, .len (.t 5), none⟩,
  ⟨some 7, .bin .lss (.t 4) (.t 6), none⟩]
noncomputable def s116r3 : List SOper := [
  ⟨some 10, .mov (.t 0), none⟩,
  ⟨some 11, .mov (.t 3), none⟩,
  ⟨some 12, .iaddr 1 (.t 10) (.t 11), none⟩,
  ⟨some 13, .load none (.t 12), none⟩,
  ⟨some 14, .not (.t 13), none⟩]
noncomputable def s116r4 : List SOper := [
  ⟨some 2, .mov (.k (.d (.bool false))), none⟩]
noncomputable def s116r5 : List SOper := [
  ⟨some 8, .mov (.t 3), none⟩,
  ⟨some 9, .bin .add (.t 8) (.k (.d (.int .i64 1))), none⟩,
  ⟨some 3, .mov (.t 9), none⟩]
noncomputable def s116l6 : SCode := (.seq (.seq (.region s116r2 0 []) (.cond (.t 7) .skip (.exit 0))) (.seq (.block 1 (.seq (.region s116r3 0 []) (.cond (.t 14) (.seq (.region s116r4 0 []) .ret) .skip))) (.region s116r5 0 [])))
theorem e116l6 : AWp P k0 s116l6 Q st = AWp P k0 (.seq (.seq (.region s116r2 0 []) (.cond (.t 7) .skip (.exit 0))) (.seq (.block 1 (.seq (.region s116r3 0 []) (.cond (.t 14) (.seq (.region s116r4 0 []) .ret) .skip))) (.region s116r5 0 []))) Q st := rfl
noncomputable def s116r7 : List SOper := [
  ⟨some 2, .mov (.k (.d (.bool true))), none⟩]
noncomputable def s116 : SCode := (.seq (.region s116r0 0 []) (.seq (.seq (.region s116r1 0 []) (.block 0 (.loop s116l6))) (.seq (.region s116r7 0 []) .ret)))
theorem e116 : AWp P k0 s116 Q st = AWp P k0 (.seq (.region s116r0 0 []) (.seq (.seq (.region s116r1 0 []) (.block 0 (.loop s116l6))) (.seq (.region s116r7 0 []) .ret))) Q st := rfl
theorem u116r0 : goReg P s116r0 o p Q st = goLit P (litOf s116r0.eq_1) o p Q st := goReg_of _
theorem u116r1 : goReg P s116r1 o p Q st = goLit P (litOf s116r1.eq_1) o p Q st := goReg_of _
theorem u116r2 : goReg P s116r2 o p Q st = goLit P (litOf s116r2.eq_1) o p Q st := goReg_of _
theorem u116r3 : goReg P s116r3 o p Q st = goLit P (litOf s116r3.eq_1) o p Q st := goReg_of _
theorem u116r4 : goReg P s116r4 o p Q st = goLit P (litOf s116r4.eq_1) o p Q st := goReg_of _
theorem u116r5 : goReg P s116r5 o p Q st = goLit P (litOf s116r5.eq_1) o p Q st := goReg_of _
theorem u116r7 : goReg P s116r7 o p Q st = goLit P (litOf s116r7.eq_1) o p Q st := goReg_of _
attribute [go_sem] u116r0 u116r1 u116r2 u116r3 u116r4 u116r5 e116l6 u116r7 e116
set_option maxRecDepth 100000 in
theorem F116 : FnIs Try.prog 116 Try.f116 [] news s116 [.tmp 2] 15 := ⟨follows, Try.func116, by kernel_rfl, by kernel_rfl, by kernel_rfl, by kernel_rfl⟩

noncomputable def s117r0 : List SOper := [
  ⟨some 2, .mov (.k (.d (.bool false))), none⟩]
noncomputable def s117r1 : List SOper := [
  ⟨some 3, .mov (.k (.d (.int .i64 0))), none⟩]
noncomputable def s117r2 : List SOper := [
  ⟨some 4, .mov (.t 3), none⟩,
  ⟨some 5, .mov (.t 0), none⟩,
  ⟨some 6, .len (.t 5), none⟩,
  ⟨some 7, .bin .lss (.t 4) (.t 6), none⟩]
noncomputable def s117r3 : List SOper := [
  ⟨some 10, .mov (.t 0), none⟩,
  ⟨some 11, .mov (.t 3), none⟩,
  ⟨some 12, .iaddr 1 (.t 10) (.t 11), none⟩,
  ⟨some 13, .load none (.t 12), none⟩]
noncomputable def s117r4 : List SOper := [
  ⟨some 2, .mov (.k (.d (.bool true))), none⟩]
noncomputable def s117r5 : List SOper := [
  ⟨some 8, .mov (.t 3), none⟩,
  ⟨some 9, .bin .add (.t 8) (.k (.d (.int .i64 1))), none⟩,
  ⟨some 3, .mov (.t 9), none⟩]
noncomputable def s117l6 : SCode := (.seq (.seq (.region s117r2 0 []) (.cond (.t 7) .skip (.exit 0))) (.seq (.block 1 (.seq (.region s117r3 0 []) (.cond (.t 13) (.seq (.region s117r4 0 []) .ret) .skip))) (.region s117r5 0 [])))
theorem e117l6 : AWp P k0 s117l6 Q st = AWp P k0 (.seq (.seq (.region s117r2 0 []) (.cond (.t 7) .skip (.exit 0))) (.seq (.block 1 (.seq (.region s117r3 0 []) (.cond (.t 13) (.seq (.region s117r4 0 []) .ret) .skip))) (.region s117r5 0 []))) Q st := rfl
noncomputable def s117r7 : List SOper := [
  ⟨some 2, .mov (.k (.d (.bool false))), none⟩]
noncomputable def s117 : SCode := (.seq (.region s117r0 0 []) (.seq (.seq (.region s117r1 0 []) (.block 0 (.loop s117l6))) (.seq (.region s117r7 0 []) .ret)))
theorem e117 : AWp P k0 s117 Q st = AWp P k0 (.seq (.region s117r0 0 []) (.seq (.seq (.region s117r1 0 []) (.block 0 (.loop s117l6))) (.seq (.region s117r7 0 []) .ret))) Q st := rfl
theorem u117r0 : goReg P s117r0 o p Q st = goLit P (litOf s117r0.eq_1) o p Q st := goReg_of _
theorem u117r1 : goReg P s117r1 o p Q st = goLit P (litOf s117r1.eq_1) o p Q st := goReg_of _
theorem u117r2 : goReg P s117r2 o p Q st = goLit P (litOf s117r2.eq_1) o p Q st := goReg_of _
theorem u117r3 : goReg P s117r3 o p Q st = goLit P (litOf s117r3.eq_1) o p Q st := goReg_of _
theorem u117r4 : goReg P s117r4 o p Q st = goLit P (litOf s117r4.eq_1) o p Q st := goReg_of _
theorem u117r5 : goReg P s117r5 o p Q st = goLit P (litOf s117r5.eq_1) o p Q st := goReg_of _
theorem u117r7 : goReg P s117r7 o p Q st = goLit P (litOf s117r7.eq_1) o p Q st := goReg_of _
attribute [go_sem] u117r0 u117r1 u117r2 u117r3 u117r4 u117r5 e117l6 u117r7 e117
set_option maxRecDepth 100000 in
theorem F117 : FnIs Try.prog 117 Try.f117 [] news s117 [.tmp 2] 14 := ⟨follows, Try.func117, by kernel_rfl, by kernel_rfl, by kernel_rfl, by kernel_rfl⟩

noncomputable def s91r0 : List SOper := [
  ⟨some 1, .box 1 (.t 0), none⟩,
  ⟨some 2, .mov (.k (.d (.int .i64 0))), none⟩]
noncomputable def s91r1 : List SOper := [
  ⟨some 4, .faddr 2 (.t 1), none⟩,
  ⟨some 5, .load none (.t 4), none⟩,
  ⟨some 6, .call (.k (.d (.func (.func 116) [] []))) [(.t 5)], none⟩,
  ⟨some 7, .not (.t 6), none⟩,
  ⟨some 8, .mov (.t 7), none⟩,
  ⟨some 9, .faddr 3 (.t 1), some (8, true)⟩,
  ⟨some 10, .load none (.t 9), some (8, true)⟩,
  ⟨some 11, .call (.k (.d (.func (.func 117) [] []))) [(.t 10)], some (8, true)⟩,
  ⟨some 12, .not (.t 11), some (8, true)⟩,
  ⟨some 13, .pick (.t 8) (.t 12) (.k (.d (.bool false))), none⟩,
  ⟨some 3, .mov (.t 13), none⟩]
noncomputable def s91r2 : List SOper := [
  ⟨some 2, .mov (.k (.d (.int .i64 1))), none⟩]
noncomputable def s91r3 : List SOper := [
  ⟨some 15, .faddr 2 (.t 1), none⟩,
  ⟨some 16, .load none (.t 15), none⟩,
  ⟨some 17, .call (.k (.d (.func (.func 116) [] []))) [(.t 16)], none⟩,
  ⟨some 18, .mov (.t 17), none⟩,
  ⟨some 19, .faddr 3 (.t 1), some (18, true)⟩,
  ⟨some 20, .load none (.t 19), some (18, true)⟩,
  ⟨some 21, .call (.k (.d (.func (.func 116) [] []))) [(.t 20)], some (18, true)⟩,
  ⟨some 22, .not (.t 21), some (18, true)⟩,
  ⟨some 23, .pick (.t 18) (.t 22) (.k (.d (.bool false))), none⟩,
  ⟨some 14, .mov (.t 23), none⟩]
noncomputable def s91r4 : List SOper := [
  ⟨some 2, .mov (.k (.d (.int .i64 2))), none⟩]
noncomputable def s91r5 : List SOper := [
  ⟨some 25, .faddr 2 (.t 1), none⟩,
  ⟨some 26, .load none (.t 25), none⟩,
  ⟨some 27, .call (.k (.d (.func (.func 116) [] []))) [(.t 26)], none⟩,
  ⟨some 28, .mov (.t 27), none⟩,
  ⟨some 29, .faddr 3 (.t 1), some (28, true)⟩,
  ⟨some 30, .load none (.t 29), some (28, true)⟩,
  ⟨some 31, .call (.k (.d (.func (.func 116) [] []))) [(.t 30)], some (28, true)⟩,
  ⟨some 32, .pick (.t 28) (.t 31) (.k (.d (.bool false))), none⟩,
  ⟨some 24, .mov (.t 32), none⟩]
noncomputable def s91r6 : List SOper := [
  ⟨some 2, .mov (.k (.d (.int .i64 3))), none⟩]
noncomputable def s91r7 : List SOper := [
  ⟨some 2, .mov (.k (.d (.int .i64 0))), none⟩]
noncomputable def s91 : SCode := (.seq (.region s91r0 1 []) (.seq (.block 0 (.seq (.region s91r1 0 []) (.cond (.t 3) (.seq (.region s91r2 0 []) .ret) (.seq (.region s91r3 0 []) (.cond (.t 14) (.seq (.region s91r4 0 []) .ret) (.seq (.region s91r5 0 []) (.cond (.t 24) (.seq (.region s91r6 0 []) .ret) .skip))))))) (.seq (.region s91r7 0 []) .ret)))
theorem e91 : AWp P k0 s91 Q st = AWp P k0 (.seq (.region s91r0 1 []) (.seq (.block 0 (.seq (.region s91r1 0 []) (.cond (.t 3) (.seq (.region s91r2 0 []) .ret) (.seq (.region s91r3 0 []) (.cond (.t 14) (.seq (.region s91r4 0 []) .ret) (.seq (.region s91r5 0 []) (.cond (.t 24) (.seq (.region s91r6 0 []) .ret) .skip))))))) (.seq (.region s91r7 0 []) .ret))) Q st := rfl
theorem u91r0 : goReg P s91r0 o p Q st = goLit P (litOf s91r0.eq_1) o p Q st := goReg_of _
theorem u91r1 : goReg P s91r1 o p Q st = goLit P (litOf s91r1.eq_1) o p Q st := goReg_of _
theorem u91r2 : goReg P s91r2 o p Q st = goLit P (litOf s91r2.eq_1) o p Q st := goReg_of _
theorem u91r3 : goReg P s91r3 o p Q st = goLit P (litOf s91r3.eq_1) o p Q st := goReg_of _
theorem u91r4 : goReg P s91r4 o p Q st = goLit P (litOf s91r4.eq_1) o p Q st := goReg_of _
theorem u91r5 : goReg P s91r5 o p Q st = goLit P (litOf s91r5.eq_1) o p Q st := goReg_of _
theorem u91r6 : goReg P s91r6 o p Q st = goLit P (litOf s91r6.eq_1) o p Q st := goReg_of _
theorem u91r7 : goReg P s91r7 o p Q st = goLit P (litOf s91r7.eq_1) o p Q st := goReg_of _
attribute [go_sem] u91r0 u91r1 u91r2 u91r3 u91r4 u91r5 u91r6 u91r7 e91
set_option maxRecDepth 100000 in
theorem F91 : FnIs Try.prog 91 Try.f91 [] news s91 [.tmp 2] 33 := ⟨follows, Try.func91, by kernel_rfl, by kernel_rfl, by kernel_rfl, by kernel_rfl⟩

noncomputable def s60r0 : List SOper := [
  ⟨some 1, .box 1 (.t 0), none⟩,
  ⟨some 2, .mov (.k (.d (.bool false))), none⟩]
noncomputable def s60r1 : List SOper := [
  ⟨some 5, .faddr 0 (.t 1), none⟩,
  ⟨some 6, .load none (.t 5), none⟩,
  ⟨some 7, .bin .lss (.t 6) (.k (.d (.int .i64 1))), none⟩,
  ⟨some 8, .mov (.t 7), none⟩,
  ⟨some 9, .faddr 0 (.t 1), some (8, false)⟩,
  ⟨some 10, .load none (.t 9), some (8, false)⟩,
  ⟨some 11, .bin .gtr (.t 10) (.k (.d (.int .i64 6))), some (8, false)⟩,
  ⟨some 12, .pick (.t 8) (.k (.d (.bool true))) (.t 11), none⟩]
noncomputable def s60r2 : List SOper := [
  ⟨some 2, .mov (.k (.d (.bool false))), none⟩]
noncomputable def s60r3 : List SOper := [
  ⟨some 3, .mov (.k (.d (.int .i64 0))), none⟩]
noncomputable def s60r4 : List SOper := [
  ⟨some 13, .mov (.t 3), none⟩,
  ⟨some 14, .faddr 1 (.t 1), none⟩,
  ⟨some 15, .load none (.t 14), none⟩,
  ⟨some 16, .len (.t 15), none⟩,
  ⟨some 17, .bin .lss (.t 13) (.t 16), none⟩]
noncomputable def s60r5 : List SOper := [
  ⟨some 20, .faddr 1 (.t 1), none⟩,
  ⟨some 21, .load none (.t 20), none⟩,
  ⟨some 22, .mov (.t 3), none⟩,
  ⟨some 23, .iaddr 4 (.t 21) (.t 22), none⟩,
  ⟨some 24, .load (some 4) (.t 23), none⟩,
  ⟨some 4, .alloc 1 [(.d (.int .i64 0)), (.d (.int .i64 0)), (.d .nilsl), (.d .nilsl)], none⟩,
  ⟨none, .store (some 4) (.t 4) (.t 24), none⟩]
noncomputable def s60r6 : List SOper := [
  ⟨some 25, .faddr 0 (.t 4), none⟩,
  ⟨some 26, .load none (.t 25), none⟩,
  ⟨some 27, .bin .lss (.t 26) (.k (.d (.int .i64 1))), none⟩,
  ⟨some 28, .mov (.t 27), none⟩,
  ⟨some 29, .faddr 0 (.t 4), some (28, false)⟩,
  ⟨some 30, .load none (.t 29), some (28, false)⟩,
  ⟨some 31, .bin .gtr (.t 30) (.k (.d (.int .i64 32))), some (28, false)⟩,
  ⟨some 32, .pick (.t 28) (.k (.d (.bool true))) (.t 31), none⟩,
  ⟨some 33, .mov (.t 32), none⟩,
  ⟨some 34, .mov (.t 3), some (33, false)⟩,
  ⟨some 35, .bin .gtr (.t 34) (.k (.d (.int .i64 0))), some (33, false)⟩,
  ⟨some 36, .mov (.t 35), some (33, false)⟩,
  ⟨some 37, .faddr 1 (.t 1), some (36, true)⟩,
  ⟨some 38, .load none (.t 37), some (36, true)⟩,
  ⟨some 39, .mov (.t 3), some (36, true)⟩,
  ⟨some 40, .bin .sub (.t 39) (.k (.d (.int .i64 1))), some (36, true)⟩,
  ⟨some 41, .iaddr 4 (.t 38) (.t 40), some (36, true)⟩,
  ⟨some 42, .faddr 0 (.t 41), some (36, true)⟩,
  ⟨some 43, .load none (.t 42), some (36, true)⟩,
  ⟨some 44, .faddr 0 (.t 4), some (36, true)⟩,
  ⟨some 45, .load none (.t 44), some (36, true)⟩,
  ⟨some 46, .bin .geq (.t 43) (.t 45), some (36, true)⟩,
  ⟨some 47, .pick (.t 36) (.t 46) (.k (.d (.bool false))), some (33, false)⟩,
  ⟨some 48, .pick (.t 33) (.k (.d (.bool true))) (.t 47), none⟩,
  ⟨some 49, .mov (.t 48), none⟩,
  ⟨some 50, .faddr 2 (.t 4), some (49, false)⟩,
  ⟨some 51, .load none (.t 50), some (49, false)⟩,
  ⟨some 52, .len (.t 51), some (49, false)⟩,
  ⟨some 53, .faddr 0 (.t 1), some (49, false)⟩,
  ⟨some 54, .load none (.t 53), some (49, false)⟩,
  ⟨some 55, .bin .neq (.t 52) (.t 54), some (49, false)⟩,
  ⟨some 56, .pick (.t 49) (.k (.d (.bool true))) (.t 55), none⟩,
  ⟨some 57, .mov (.t 56), none⟩,
  ⟨some 58, .faddr 3 (.t 4), some (57, false)⟩,
  ⟨some 59, .load none (.t 58), some (57, false)⟩,
  ⟨some 60, .len (.t 59), some (57, false)⟩,
  ⟨some 61, .faddr 0 (.t 1), some (57, false)⟩,
  ⟨some 62, .load none (.t 61), some (57, false)⟩,
  ⟨some 63, .bin .neq (.t 60) (.t 62), some (57, false)⟩,
  ⟨some 64, .pick (.t 57) (.k (.d (.bool true))) (.t 63), none⟩,
  ⟨some 65, .mov (.t 64), none⟩,
  ⟨some 66, .faddr 1 (.t 4), some (65, false)⟩,
  ⟨some 67, .load none (.t 66), some (65, false)⟩,
  ⟨some 68, .bin .eql (.t 67) (.k (.d (.int .i64 0))), some (65, false)⟩,
  ⟨some 69, .pick (.t 65) (.k (.d (.bool true))) (.t 68), none⟩,
  ⟨some 70, .mov (.t 69), none⟩,
  ⟨some 71, .faddr 1 (.t 4), some (70, false)⟩,
  ⟨some 72, .load none (.t 71), some (70, false)⟩,
  ⟨some 73, .load (some 4) (.t 4), some (70, false)⟩,
  ⟨some 74, .call (.k (.d (.func (.func 91) [] []))) [(.t 73)], some (70, false)⟩,
  ⟨some 75, .bin .neq (.t 72) (.t 74), some (70, false)⟩,
  ⟨some 76, .pick (.t 70) (.k (.d (.bool true))) (.t 75), none⟩]
noncomputable def s60r7 : List SOper := [
  ⟨some 2, .mov (.k (.d (.bool false))), none⟩]
noncomputable def s60r8 : List SOper := [
  ⟨some 18, .mov (.t 3), none⟩,
  ⟨some 19, .bin .add (.t 18) (.k (.d (.int .i64 1))), none⟩,
  ⟨some 3, .mov (.t 19), none⟩]
noncomputable def s60l9 : SCode := (.seq (.seq (.region s60r4 0 []) (.cond (.t 17) .skip (.exit 0))) (.seq (.block 1 (.seq (.region s60r5 1 []) (.seq (.region s60r6 0 [(47, 49)]) (.cond (.t 76) (.seq (.region s60r7 0 []) .ret) .skip)))) (.region s60r8 0 [])))
theorem e60l9 : AWp P k0 s60l9 Q st = AWp P k0 (.seq (.seq (.region s60r4 0 []) (.cond (.t 17) .skip (.exit 0))) (.seq (.block 1 (.seq (.region s60r5 1 []) (.seq (.region s60r6 0 [(47, 49)]) (.cond (.t 76) (.seq (.region s60r7 0 []) .ret) .skip)))) (.region s60r8 0 []))) Q st := rfl
noncomputable def s60r10 : List SOper := [
  ⟨some 2, .mov (.k (.d (.bool true))), none⟩]
noncomputable def s60 : SCode := (.seq (.region s60r0 1 []) (.seq (.seq (.region s60r1 0 []) (.cond (.t 12) (.seq (.region s60r2 0 []) .ret) .skip)) (.seq (.seq (.region s60r3 0 []) (.block 0 (.loop s60l9))) (.seq (.region s60r10 0 []) .ret))))
theorem e60 : AWp P k0 s60 Q st = AWp P k0 (.seq (.region s60r0 1 []) (.seq (.seq (.region s60r1 0 []) (.cond (.t 12) (.seq (.region s60r2 0 []) .ret) .skip)) (.seq (.seq (.region s60r3 0 []) (.block 0 (.loop s60l9))) (.seq (.region s60r10 0 []) .ret)))) Q st := rfl
theorem u60r0 : goReg P s60r0 o p Q st = goLit P (litOf s60r0.eq_1) o p Q st := goReg_of _
theorem u60r1 : goReg P s60r1 o p Q st = goLit P (litOf s60r1.eq_1) o p Q st := goReg_of _
theorem u60r2 : goReg P s60r2 o p Q st = goLit P (litOf s60r2.eq_1) o p Q st := goReg_of _
theorem u60r3 : goReg P s60r3 o p Q st = goLit P (litOf s60r3.eq_1) o p Q st := goReg_of _
theorem u60r4 : goReg P s60r4 o p Q st = goLit P (litOf s60r4.eq_1) o p Q st := goReg_of _
theorem u60r5 : goReg P s60r5 o p Q st = goLit P (litOf s60r5.eq_1) o p Q st := goReg_of _
theorem u60r6 : goReg P s60r6 o p Q st = goLit P (litOf s60r6.eq_1) o p Q st := goReg_of _
theorem u60r7 : goReg P s60r7 o p Q st = goLit P (litOf s60r7.eq_1) o p Q st := goReg_of _
theorem u60r8 : goReg P s60r8 o p Q st = goLit P (litOf s60r8.eq_1) o p Q st := goReg_of _
theorem u60r10 : goReg P s60r10 o p Q st = goLit P (litOf s60r10.eq_1) o p Q st := goReg_of _
attribute [go_sem] u60r0 u60r1 u60r2 u60r3 u60r4 u60r5 u60r6 u60r7 u60r8 e60l9 u60r10 e60
set_option maxRecDepth 100000 in
theorem F60 : FnIs Try.prog 60 Try.f60 [] news s60 [.tmp 2] 77 := ⟨follows, Try.func60, by kernel_rfl, by kernel_rfl, by kernel_rfl, by kernel_rfl⟩

noncomputable def s89r0 : List SOper := [
  ⟨some 2, .box 1 (.t 0), none⟩,
  ⟨some 4, .mov (.k (.d (.int .i64 0))), none⟩]
noncomputable def s89r1 : List SOper := [
  ⟨some 5, .mov (.k (.d (.int .i64 0))), none⟩]
noncomputable def s89r2 : List SOper := [
  ⟨some 6, .mov (.t 5), none⟩,
  ⟨some 7, .faddr 1 (.t 2), none⟩,
  ⟨some 8, .load none (.t 7), none⟩,
  ⟨some 9, .len (.t 8), none⟩,
  ⟨some 10, .bin .lss (.t 6) (.t 9), none⟩]
noncomputable def s89r3 : List SOper := [
  ⟨some 13, .faddr 1 (.t 2), none⟩,
  ⟨some 14, .load none (.t 13), none⟩,
  ⟨some 15, .mov (.t 5), none⟩,
  ⟨some 16, .iaddr 4 (.t 14) (.t 15), none⟩,
  ⟨some 17, .faddr 0 (.t 16), none⟩,
  ⟨some 18, .load none (.t 17), none⟩,
  ⟨some 19, .mov (.t 1), none⟩,
  ⟨some 20, .bin .eql (.t 18) (.t 19), none⟩]
noncomputable def s89r4 : List SOper := [
  ⟨some 21, .mov (.t 5), none⟩,
  ⟨some 4, .mov (.t 21), none⟩]
noncomputable def s89r5 : List SOper := [
  ⟨some 11, .mov (.t 5), none⟩,
  ⟨some 12, .bin .add (.t 11) (.k (.d (.int .i64 1))), none⟩,
  ⟨some 5, .mov (.t 12), none⟩]
noncomputable def s89l6 : SCode := (.seq (.seq (.region s89r2 0 []) (.cond (.t 10) .skip (.exit 0))) (.seq (.block 1 (.seq (.region s89r3 0 []) (.cond (.t 20) (.seq (.region s89r4 0 []) .ret) .skip))) (.region s89r5 0 [])))
theorem e89l6 : AWp P k0 s89l6 Q st = AWp P k0 (.seq (.seq (.region s89r2 0 []) (.cond (.t 10) .skip (.exit 0))) (.seq (.block 1 (.seq (.region s89r3 0 []) (.cond (.t 20) (.seq (.region s89r4 0 []) .ret) .skip))) (.region s89r5 0 []))) Q st := rfl
noncomputable def s89r7 : List SOper := [
  ⟨some 4, .mov (.k (.d (.int .i64 (-1)))), none⟩]
noncomputable def s89 : SCode := (.seq (.region s89r0 1 []) (.seq (.seq (.region s89r1 0 []) (.block 0 (.loop s89l6))) (.seq (.region s89r7 0 []) .ret)))
theorem e89 : AWp P k0 s89 Q st = AWp P k0 (.seq (.region s89r0 1 []) (.seq (.seq (.region s89r1 0 []) (.block 0 (.loop s89l6))) (.seq (.region s89r7 0 []) .ret))) Q st := rfl
theorem u89r0 : goReg P s89r0 o p Q st = goLit P (litOf s89r0.eq_1) o p Q st := goReg_of _
theorem u89r1 : goReg P s89r1 o p Q st = goLit P (litOf s89r1.eq_1) o p Q st := goReg_of _
theorem u89r2 : goReg P s89r2 o p Q st = goLit P (litOf s89r2.eq_1) o p Q st := goReg_of _
theorem u89r3 : goReg P s89r3 o p Q st = goLit P (litOf s89r3.eq_1) o p Q st := goReg_of _
theorem u89r4 : goReg P s89r4 o p Q st = goLit P (litOf s89r4.eq_1) o p Q st := goReg_of _
theorem u89r5 : goReg P s89r5 o p Q st = goLit P (litOf s89r5.eq_1) o p Q st := goReg_of _
theorem u89r7 : goReg P s89r7 o p Q st = goLit P (litOf s89r7.eq_1) o p Q st := goReg_of _
attribute [go_sem] u89r0 u89r1 u89r2 u89r3 u89r4 u89r5 e89l6 u89r7 e89
set_option maxRecDepth 100000 in
theorem F89 : FnIs Try.prog 89 Try.f89 [] news s89 [.tmp 4] 22 := ⟨follows, Try.func89, by kernel_rfl, by kernel_rfl, by kernel_rfl, by kernel_rfl⟩

noncomputable def s61r0 : List SOper := [
  ⟨some 2, .box 1 (.t 0), none⟩,
  ⟨some 4, .mov (.k (.d (.int .i64 0))), none⟩]
noncomputable def s61r1 : List SOper := [
  ⟨some 6, .load (some 2) (.t 2), none⟩,
  ⟨some 7, .mov (.t 1), none⟩,
  ⟨some 8, .call (.k (.d (.func (.func 89) [] []))) [(.t 6), (.t 7)], none⟩,
  ⟨some 5, .mov (.t 8), none⟩]
noncomputable def s61r2 : List SOper := [
  ⟨some 9, .mov (.t 5), none⟩,
  ⟨some 10, .bin .geq (.t 9) (.k (.d (.int .i64 0))), none⟩]
noncomputable def s61r3 : List SOper := [
  ⟨some 11, .faddr 1 (.t 2), none⟩,
  ⟨some 12, .load none (.t 11), none⟩,
  ⟨some 13, .mov (.t 5), none⟩,
  ⟨some 14, .iaddr 4 (.t 12) (.t 13), none⟩,
  ⟨some 15, .faddr 1 (.t 14), none⟩,
  ⟨some 16, .load none (.t 15), none⟩,
  ⟨some 4, .mov (.t 16), none⟩]
noncomputable def s61r4 : List SOper := [
  ⟨some 4, .mov (.k (.d (.int .i64 0))), none⟩]
noncomputable def s61 : SCode := (.seq (.region s61r0 1 []) (.seq (.seq (.region s61r1 0 []) (.seq (.region s61r2 0 []) (.cond (.t 10) (.seq (.region s61r3 0 []) .ret) .skip))) (.seq (.region s61r4 0 []) .ret)))
theorem e61 : AWp P k0 s61 Q st = AWp P k0 (.seq (.region s61r0 1 []) (.seq (.seq (.region s61r1 0 []) (.seq (.region s61r2 0 []) (.cond (.t 10) (.seq (.region s61r3 0 []) .ret) .skip))) (.seq (.region s61r4 0 []) .ret))) Q st := rfl
theorem u61r0 : goReg P s61r0 o p Q st = goLit P (litOf s61r0.eq_1) o p Q st := goReg_of _
theorem u61r1 : goReg P s61r1 o p Q st = goLit P (litOf s61r1.eq_1) o p Q st := goReg_of _
theorem u61r2 : goReg P s61r2 o p Q st = goLit P (litOf s61r2.eq_1) o p Q st := goReg_of _
theorem u61r3 : goReg P s61r3 o p Q st = goLit P (litOf s61r3.eq_1) o p Q st := goReg_of _
theorem u61r4 : goReg P s61r4 o p Q st = goLit P (litOf s61r4.eq_1) o p Q st := goReg_of _
attribute [go_sem] u61r0 u61r1 u61r2 u61r3 u61r4 e61
set_option maxRecDepth 100000 in
theorem F61 : FnIs Try.prog 61 Try.f61 [] news s61 [.tmp 4] 17 := ⟨follows, Try.func61, by kernel_rfl, by kernel_rfl, by kernel_rfl, by kernel_rfl⟩

noncomputable def s92r0 : List SOper := [
  ⟨some 4, .mov (.k (.d (.bool false))), none⟩]
noncomputable def s92r1 : List SOper := [
  ⟨some 6, .mov (.t 0), none⟩,
  ⟨some 7, .len (.t 6), none⟩,
  ⟨some 8, .mov (.t 1), none⟩,
  ⟨some 9, .len (.t 8), none⟩,
  ⟨some 10, .bin .neq (.t 7) (.t 9), none⟩]
noncomputable def s92r2 : List SOper := [
  ⟨some 4, .mov (.k (.d (.bool false))), none⟩]
noncomputable def s92r3 : List SOper := [
  ⟨some 5, .mov (.k (.d (.int .i64 0))), none⟩]
noncomputable def s92r4 : List SOper := [
  ⟨some 11, .mov (.t 5), none⟩,
  ⟨some 12, .mov (.t 0), none⟩,
  ⟨some 13, .len (.t 12), none⟩,
  ⟨some 14, .bin .lss (.t 11) (.t 13), none⟩]
noncomputable def s92r5 : List SOper := [
  ⟨some 17, .mov (.t 0), none⟩,
  ⟨some 18, .mov (.t 5), none⟩,
  ⟨some 19, .iaddr 1 (.t 17) (.t 18), none⟩,
  ⟨some 20, .load none (.t 19), none⟩,
  ⟨some 21, .mov (.t 1), none⟩,
  ⟨some 22, .mov (.t 5), none⟩,
  ⟨some 23, .iaddr 1 (.t 21) (.t 22), none⟩,
  ⟨some 24, .load none (.t 23), none⟩,
  ⟨some 25, .eqb true (.t 20) (.t 24), none⟩]
noncomputable def s92r6 : List SOper := [
  ⟨some 4, .mov (.k (.d (.bool false))), none⟩]
noncomputable def s92r7 : List SOper := [
  ⟨some 15, .mov (.t 5), none⟩,
  ⟨some 16, .bin .add (.t 15) (.k (.d (.int .i64 1))), none⟩,
  ⟨some 5, .mov (.t 16), none⟩]
noncomputable def s92l8 : SCode := (.seq (.seq (.region s92r4 0 []) (.cond (.t 14) .skip (.exit 0))) (.seq (.block 1 (.seq (.region s92r5 0 []) (.cond (.t 25) (.seq (.region s92r6 0 []) .ret) .skip))) (.region s92r7 0 [])))
theorem e92l8 : AWp P k0 s92l8 Q st = AWp P k0 (.seq (.seq (.region s92r4 0 []) (.cond (.t 14) .skip (.exit 0))) (.seq (.block 1 (.seq (.region s92r5 0 []) (.cond (.t 25) (.seq (.region s92r6 0 []) .ret) .skip))) (.region s92r7 0 []))) Q st := rfl
noncomputable def s92r9 : List SOper := [
  ⟨some 4, .mov (.k (.d (.bool true))), none⟩]
noncomputable def s92 : SCode := (.seq (.region s92r0 0 []) (.seq (.seq (.region s92r1 0 []) (.cond (.t 10) (.seq (.region s92r2 0 []) .ret) .skip)) (.seq (.seq (.region s92r3 0 []) (.block 0 (.loop s92l8))) (.seq (.region s92r9 0 []) .ret))))
theorem e92 : AWp P k0 s92 Q st = AWp P k0 (.seq (.region s92r0 0 []) (.seq (.seq (.region s92r1 0 []) (.cond (.t 10) (.seq (.region s92r2 0 []) .ret) .skip)) (.seq (.seq (.region s92r3 0 []) (.block 0 (.loop s92l8))) (.seq (.region s92r9 0 []) .ret)))) Q st := rfl
theorem u92r0 : goReg P s92r0 o p Q st = goLit P (litOf s92r0.eq_1) o p Q st := goReg_of _
theorem u92r1 : goReg P s92r1 o p Q st = goLit P (litOf s92r1.eq_1) o p Q st := goReg_of _
theorem u92r2 : goReg P s92r2 o p Q st = goLit P (litOf s92r2.eq_1) o p Q st := goReg_of _
theorem u92r3 : goReg P s92r3 o p Q st = goLit P (litOf s92r3.eq_1) o p Q st := goReg_of _
theorem u92r4 : goReg P s92r4 o p Q st = goLit P (litOf s92r4.eq_1) o p Q st := goReg_of _
theorem u92r5 : goReg P s92r5 o p Q st = goLit P (litOf s92r5.eq_1) o p Q st := goReg_of _
theorem u92r6 : goReg P s92r6 o p Q st = goLit P (litOf s92r6.eq_1) o p Q st := goReg_of _
theorem u92r7 : goReg P s92r7 o p Q st = goLit P (litOf s92r7.eq_1) o p Q st := goReg_of _
theorem u92r9 : goReg P s92r9 o p Q st = goLit P (litOf s92r9.eq_1) o p Q st := goReg_of _
attribute [go_sem] u92r0 u92r1 u92r2 u92r3 u92r4 u92r5 u92r6 u92r7 e92l8 u92r9 e92
set_option maxRecDepth 100000 in
theorem F92 : FnIs Try.prog 92 Try.f92 [] news s92 [.tmp 4] 26 := ⟨follows, Try.func92, by kernel_rfl, by kernel_rfl, by kernel_rfl, by kernel_rfl⟩

noncomputable def s57r0 : List SOper := [
  ⟨some 2, .box 2 (.t 0), none⟩,
  ⟨some 3, .box 1 (.t 1), none⟩,
  ⟨some 4, .mov (.k (.d (.bool false))), none⟩]
noncomputable def s57r1 : List SOper := [
  ⟨some 8, .faddr 0 (.t 2), none⟩,
  ⟨some 9, .load none (.t 8), none⟩,
  ⟨some 10, .faddr 0 (.t 3), none⟩,
  ⟨some 11, .load none (.t 10), none⟩,
  ⟨some 12, .bin .neq (.t 9) (.t 11), none⟩,
  ⟨some 13, .mov (.t 12), none⟩,
  ⟨some 14, .faddr 1 (.t 2), some (13, false)⟩,
  ⟨some 15, .load none (.t 14), some (13, false)⟩,
  ⟨some 16, .len (.t 15), some (13, false)⟩,
  ⟨some 17, .faddr 1 (.t 3), some (13, false)⟩,
  ⟨some 18, .load none (.t 17), some (13, false)⟩,
  ⟨some 19, .len (.t 18), some (13, false)⟩,
  ⟨some 20, .bin .neq (.t 16) (.t 19), some (13, false)⟩,
  ⟨some 21, .pick (.t 13) (.k (.d (.bool true))) (.t 20), none⟩]
noncomputable def s57r2 : List SOper := [
  ⟨some 4, .mov (.k (.d (.bool false))), none⟩]
noncomputable def s57r3 : List SOper := [
  ⟨some 5, .mov (.k (.d (.int .i64 0))), none⟩]
noncomputable def s57r4 : List SOper := [
  ⟨some 22, .mov (.t 5), none⟩,
  ⟨some 23, .faddr 1 (.t 2), none⟩,
  ⟨some 24, .load none (.t 23), none⟩,
  ⟨some 25, .len (.t 24), none⟩,
  ⟨some 26, .bin .lss (.t 22) (.t 25), none⟩]
noncomputable def s57r5 : List SOper := [
  ⟨some 29, .faddr 1 (.t 2), none⟩,
  ⟨some 30, .load none (.t 29), none⟩,
  ⟨some 31, .mov (.t 5), none⟩,
  ⟨some 32, .iaddr 4 (.t 30) (.t 31), none⟩,
  ⟨some 33, .load (some 4) (.t 32), none⟩,
  ⟨some 34, .faddr 1 (.t 3), none⟩,
  ⟨some 35, .load none (.t 34), none⟩,
  ⟨some 36, .mov (.t 5), none⟩,
  ⟨some 37, .iaddr 4 (.t 35) (.t 36), none⟩,
  ⟨some 38, .load (some 4) (.t 37), none⟩,
  ⟨some 6, .alloc 2 [(.d (.int .i64 0)), (.d (.int .i64 0)), (.d .nilsl), (.d .nilsl)], none⟩,
  ⟨some 7, .alloc 1 [(.d (.int .i64 0)), (.d (.int .i64 0)), (.d .nilsl), (.d .nilsl)], none⟩,
  ⟨none, .store (some 4) (.t 6) (.t 33), none⟩,
  ⟨none, .store (some 4) (.t 7) (.t 38), none⟩]
noncomputable def s57r6 : List SOper := [
  ⟨some 39, .faddr 0 (.t 6), none⟩,
  ⟨some 40, .load none (.t 39), none⟩,
  ⟨some 41, .faddr 0 (.t 7), none⟩,
  ⟨some 42, .load none (.t 41), none⟩,
  ⟨some 43, .bin .neq (.t 40) (.t 42), none⟩,
  ⟨some 44, .mov (.t 43), none⟩,
  ⟨some 45, .faddr 1 (.t 6), some (44, false)⟩,
  ⟨some 46, .load none (.t 45), some (44, false)⟩,
  ⟨some 47, .faddr 1 (.t 7), some (44, false)⟩,
  ⟨some 48, .load none (.t 47), some (44, false)⟩,
  ⟨some 49, .bin .neq (.t 46) (.t 48), some (44, false)⟩,
  ⟨some 50, .pick (.t 44) (.k (.d (.bool true))) (.t 49), none⟩,
  ⟨some 51, .mov (.t 50), none⟩,
  ⟨some 52, .faddr 2 (.t 6), some (51, false)⟩,
  ⟨some 53, .load none (.t 52), some (51, false)⟩,
  ⟨some 54, .faddr 2 (.t 7), some (51, false)⟩,
  ⟨some 55, .load none (.t 54), some (51, false)⟩,
  ⟨some 56, .call (.k (.d (.func (.func 92) [] []))) [(.t 53), (.t 55)], some (51, false)⟩,
  ⟨some 57, .not (.t 56), some (51, false)⟩,
  ⟨some 58, .pick (.t 51) (.k (.d (.bool true))) (.t 57), none⟩,
  ⟨some 59, .mov (.t 58), none⟩,
  ⟨some 60, .faddr 3 (.t 6), some (59, false)⟩,
  ⟨some 61, .load none (.t 60), some (59, false)⟩,
  ⟨some 62, .faddr 3 (.t 7), some (59, false)⟩,
  ⟨some 63, .load none (.t 62), some (59, false)⟩,
  ⟨some 64, .call (.k (.d (.func (.func 92) [] []))) [(.t 61), (.t 63)], some (59, false)⟩,
  ⟨some 65, .not (.t 64), some (59, false)⟩,
  ⟨some 66, .pick (.t 59) (.k (.d (.bool true))) (.t 65), none⟩]
noncomputable def s57r7 : List SOper := [
  ⟨some 4, .mov (.k (.d (.bool false))), none⟩]
noncomputable def s57r8 : List SOper := [
  ⟨some 27, .mov (.t 5), none⟩,
  ⟨some 28, .bin .add (.t 27) (.k (.d (.int .i64 1))), none⟩,
  ⟨some 5, .mov (.t 28), none⟩]
noncomputable def s57l9 : SCode := (.seq (.seq (.region s57r4 0 []) (.cond (.t 26) .skip (.exit 0))) (.seq (.block 1 (.seq (.region s57r5 2 [(1, 10), (4, 10), (6, 10), (9, 10), (1, 11), (4, 11), (6, 11), (9, 11), (10, 11), (6, 12), (9, 12)]) (.seq (.region s57r6 0 []) (.cond (.t 66) (.seq (.region s57r7 0 []) .ret) .skip)))) (.region s57r8 0 [])))
theorem e57l9 : AWp P k0 s57l9 Q st = AWp P k0 (.seq (.seq (.region s57r4 0 []) (.cond (.t 26) .skip (.exit 0))) (.seq (.block 1 (.seq (.region s57r5 2 [(1, 10), (4, 10), (6, 10), (9, 10), (1, 11), (4, 11), (6, 11), (9, 11), (10, 11), (6, 12), (9, 12)]) (.seq (.region s57r6 0 []) (.cond (.t 66) (.seq (.region s57r7 0 []) .ret) .skip)))) (.region s57r8 0 []))) Q st := rfl
noncomputable def s57r10 : List SOper := [
  ⟨some 4, .mov (.k (.d (.bool true))), none⟩]
noncomputable def s57 : SCode := (.seq (.region s57r0 2 []) (.seq (.seq (.region s57r1 0 []) (.cond (.t 21) (.seq (.region s57r2 0 []) .ret) .skip)) (.seq (.seq (.region s57r3 0 []) (.block 0 (.loop s57l9))) (.seq (.region s57r10 0 []) .ret))))
theorem e57 : AWp P k0 s57 Q st = AWp P k0 (.seq (.region s57r0 2 []) (.seq (.seq (.region s57r1 0 []) (.cond (.t 21) (.seq (.region s57r2 0 []) .ret) .skip)) (.seq (.seq (.region s57r3 0 []) (.block 0 (.loop s57l9))) (.seq (.region s57r10 0 []) .ret)))) Q st := rfl
theorem u57r0 : goReg P s57r0 o p Q st = goLit P (litOf s57r0.eq_1) o p Q st := goReg_of _
theorem u57r1 : goReg P s57r1 o p Q st = goLit P (litOf s57r1.eq_1) o p Q st := goReg_of _
theorem u57r2 : goReg P s57r2 o p Q st = goLit P (litOf s57r2.eq_1) o p Q st := goReg_of _
theorem u57r3 : goReg P s57r3 o p Q st = goLit P (litOf s57r3.eq_1) o p Q st := goReg_of _
theorem u57r4 : goReg P s57r4 o p Q st = goLit P (litOf s57r4.eq_1) o p Q st := goReg_of _
theorem u57r5 : goReg P s57r5 o p Q st = goLit P (litOf s57r5.eq_1) o p Q st := goReg_of _
theorem u57r6 : goReg P s57r6 o p Q st = goLit P (litOf s57r6.eq_1) o p Q st := goReg_of _
theorem u57r7 : goReg P s57r7 o p Q st = goLit P (litOf s57r7.eq_1) o p Q st := goReg_of _
theorem u57r8 : goReg P s57r8 o p Q st = goLit P (litOf s57r8.eq_1) o p Q st := goReg_of _
theorem u57r10 : goReg P s57r10 o p Q st = goLit P (litOf s57r10.eq_1) o p Q st := goReg_of _
attribute [go_sem] u57r0 u57r1 u57r2 u57r3 u57r4 u57r5 u57r6 u57r7 u57r8 e57l9 u57r10 e57
set_option maxRecDepth 100000 in
theorem F57 : FnIs Try.prog 57 Try.f57 [] news s57 [.tmp 4] 67 := ⟨follows, Try.func57, by kernel_rfl, by kernel_rfl, by kernel_rfl, by kernel_rfl⟩

noncomputable def s42r0 : List SOper := [
  ⟨some 1, .box 1 (.t 0), none⟩,
  ⟨some 2, .mov (.k (.d (.bool false))), none⟩]
noncomputable def s42r1 : List SOper := [
  ⟨some 3, .mov (.k (.d (.int .i64 0))), none⟩]
noncomputable def s42r2 : List SOper := [
  ⟨some 4, .mov (.t 3), none⟩,
  ⟨some 5, .faddr 1 (.t 1), none⟩,
  ⟨some 6, .load none (.t 5), none⟩,
  ⟨some 7, .len (.t 6), none⟩,
  ⟨some 8, .bin .lss (.t 4) (.t 7), none⟩]
noncomputable def s42r3 : List SOper := [
  ⟨some 11, .faddr 1 (.t 1), none⟩,
  ⟨some 12, .load none (.t 11), none⟩,
  ⟨some 13, .mov (.t 3), none⟩,
  ⟨some 14, .iaddr 4 (.t 12) (.t 13), none⟩,
  ⟨some 15, .faddr 2 (.t 14), none⟩,
  ⟨some 16, .load none (.t 15), none⟩,
  ⟨some 17, .len (.t 16), none⟩,
  ⟨some 18, .bin .gtr (.t 17) (.k (.d (.int .i64 10))), none⟩,
  ⟨some 19, .mov (.t 18), none⟩,
  ⟨some 20, .faddr 1 (.t 1), some (19, false)⟩,
  ⟨some 21, .load none (.t 20), some (19, false)⟩,
  ⟨some 22, .mov (.t 3), some (19, false)⟩,
  ⟨some 23, .iaddr 4 (.t 21) (.t 22), some (19, false)⟩,
  ⟨some 24, .faddr 3 (.t 23), some (19, false)⟩,
  ⟨some 25, .load none (.t 24), some (19, false)⟩,
  ⟨some 26, .len (.t 25), some (19, false)⟩,
  ⟨some 27, .bin .gtr (.t 26) (.k (.d (.int .i64 10))), some (19, false)⟩,
  ⟨some 28, .pick (.t 19) (.k (.d (.bool true))) (.t 27), none⟩]
noncomputable def s42r4 : List SOper := [
  ⟨some 2, .mov (.k (.d (.bool false))), none⟩]
noncomputable def s42r5 : List SOper := [
  ⟨some 9, .mov (.t 3), none⟩,
  ⟨some 10, .bin .add (.t 9) (.k (.d (.int .i64 1))), none⟩,
  ⟨some 3, .mov (.t 10), none⟩]
noncomputable def s42l6 : SCode := (.seq (.seq (.region s42r2 0 []) (.cond (.t 8) .skip (.exit 0))) (.seq (.block 1 (.seq (.region s42r3 0 []) (.cond (.t 28) (.seq (.region s42r4 0 []) .ret) .skip))) (.region s42r5 0 [])))
theorem e42l6 : AWp P k0 s42l6 Q st = AWp P k0 (.seq (.seq (.region s42r2 0 []) (.cond (.t 8) .skip (.exit 0))) (.seq (.block 1 (.seq (.region s42r3 0 []) (.cond (.t 28) (.seq (.region s42r4 0 []) .ret) .skip))) (.region s42r5 0 []))) Q st := rfl
noncomputable def s42r7 : List SOper := [
  ⟨some 29, .faddr 1 (.t 1), none⟩,
  ⟨some 30, .load none (.t 29), none⟩,
  ⟨some 31, .len (.t 30), none⟩,
  ⟨some 32, .bin .leq (.t 31) (.k (.d (.int .i64 12))), none⟩,
  ⟨some 2, .mov (.t 32), none⟩]
noncomputable def s42 : SCode := (.seq (.region s42r0 1 []) (.seq (.seq (.region s42r1 0 []) (.block 0 (.loop s42l6))) (.seq (.region s42r7 0 []) .ret)))
theorem e42 : AWp P k0 s42 Q st = AWp P k0 (.seq (.region s42r0 1 []) (.seq (.seq (.region s42r1 0 []) (.block 0 (.loop s42l6))) (.seq (.region s42r7 0 []) .ret))) Q st := rfl
theorem u42r0 : goReg P s42r0 o p Q st = goLit P (litOf s42r0.eq_1) o p Q st := goReg_of _
theorem u42r1 : goReg P s42r1 o p Q st = goLit P (litOf s42r1.eq_1) o p Q st := goReg_of _
theorem u42r2 : goReg P s42r2 o p Q st = goLit P (litOf s42r2.eq_1) o p Q st := goReg_of _
theorem u42r3 : goReg P s42r3 o p Q st = goLit P (litOf s42r3.eq_1) o p Q st := goReg_of _
theorem u42r4 : goReg P s42r4 o p Q st = goLit P (litOf s42r4.eq_1) o p Q st := goReg_of _
theorem u42r5 : goReg P s42r5 o p Q st = goLit P (litOf s42r5.eq_1) o p Q st := goReg_of _
theorem u42r7 : goReg P s42r7 o p Q st = goLit P (litOf s42r7.eq_1) o p Q st := goReg_of _
attribute [go_sem] u42r0 u42r1 u42r2 u42r3 u42r4 u42r5 e42l6 u42r7 e42
set_option maxRecDepth 100000 in
theorem F42 : FnIs Try.prog 42 Try.f42 [] news s42 [.tmp 2] 33 := ⟨follows, Try.func42, by kernel_rfl, by kernel_rfl, by kernel_rfl, by kernel_rfl⟩

noncomputable def s56r0 : List SOper := [
  ⟨some 2, .alloc 1 [(.d (.int .i64 0)), (.d .nilsl)], none⟩,
  ⟨some 3, .mov (.k (.d (.int .i64 0))), none⟩]
noncomputable def s56r1 : List SOper := [
  ⟨some 4, .mov (.t 0), none⟩,
  ⟨some 5, .bin .lss (.t 4) (.k (.d (.int .i64 1))), none⟩,
  ⟨some 6, .mov (.t 5), none⟩,
  ⟨some 7, .mov (.t 0), some (6, false)⟩,
  ⟨some 8, .bin .gtr (.t 7) (.k (.d (.int .i64 6))), some (6, false)⟩,
  ⟨some 9, .pick (.t 6) (.k (.d (.bool true))) (.t 8), none⟩]
noncomputable def s56r2 : List SOper := [
  ⟨some 10, .build [(.int .i64 0), .nilsl] [], none⟩,
  ⟨none, .store (some 2) (.t 2) (.t 10), none⟩,
  ⟨some 3, .mov (.k (.d (.int .i64 2))), none⟩]
noncomputable def s56r3 : List SOper := [
  ⟨some 11, .mov (.t 0), none⟩,
  ⟨some 12, .build [(.int .i64 0), .nilsl] [(0, 1, (.t 11))], none⟩,
  ⟨none, .store (some 2) (.t 2) (.t 12), none⟩,
  ⟨some 3, .mov (.k (.d (.int .i64 0))), none⟩]
noncomputable def s56 : SCode := (.seq (.region s56r0 1 []) (.seq (.seq (.region s56r1 0 []) (.cond (.t 9) (.seq (.region s56r2 0 []) .ret) .skip)) (.seq (.region s56r3 0 []) .ret)))
theorem e56 : AWp P k0 s56 Q st = AWp P k0 (.seq (.region s56r0 1 []) (.seq (.seq (.region s56r1 0 []) (.cond (.t 9) (.seq (.region s56r2 0 []) .ret) .skip)) (.seq (.region s56r3 0 []) .ret))) Q st := rfl
theorem u56r0 : goReg P s56r0 o p Q st = goLit P (litOf s56r0.eq_1) o p Q st := goReg_of _
theorem u56r1 : goReg P s56r1 o p Q st = goLit P (litOf s56r1.eq_1) o p Q st := goReg_of _
theorem u56r2 : goReg P s56r2 o p Q st = goLit P (litOf s56r2.eq_1) o p Q st := goReg_of _
theorem u56r3 : goReg P s56r3 o p Q st = goLit P (litOf s56r3.eq_1) o p Q st := goReg_of _
attribute [go_sem] u56r0 u56r1 u56r2 u56r3 e56
set_option maxRecDepth 100000 in
theorem F56 : FnIs Try.prog 56 Try.f56 [] news s56 [.cell 2 (some 2), .tmp 3] 13 := ⟨follows, Try.func56, by kernel_rfl, by kernel_rfl, by kernel_rfl, by kernel_rfl⟩

end

def idB (b : Bool) : Bool := b
def SallB (l : List Bool) (i : { i : Nat // (l.take i).all idB = true }) : St := ⟨[(0, true, .d (.sl 1 (l.map encB))), (2, true, .d (.bool false)), (3, true, .d (.int .i64 (i.val : Nat)))], [], [], 1⟩
theorem all53_ok (l : List Bool) (hl : l.length ≤ 1000) : ACall Try.prog 116 [.d (.sl 1 (l.map encB))] [] (.d (.bool (l.all idB))) [] := by
  refine F116.go ?_
  try (refine ev ?_; try exact True.intro)
  refine AWp_loop (SallB l) (fun i => l.length - i.val) ⟨0, rfl⟩ ?_ (fun i => ?_)
  · try simp only [SallB, go_sem, Nat.reduceAdd, Nat.reduceMul, Nat.reduceSub, Nat.reduceEqDiff, Nat.reduceLT, Nat.reduceLeDiff, Nat.reduceBEq, reduceIte, reduceCtorEq, Int.reduceAdd, Int.reduceLT, Int.reduceLE, Int.reduceGT, Int.reduceGE, Int.reduceEq, Int.reduceNe, Int.reduceBEq, Int.reduceBNe, Int.reduceToNat, Int.reduceNeg]
  obtain ⟨i, hi⟩ := i
  try simp only [SallB, go_sem, Nat.reduceAdd, Nat.reduceMul, Nat.reduceSub, Nat.reduceEqDiff, Nat.reduceLT, Nat.reduceLeDiff, Nat.reduceBEq, reduceIte, reduceCtorEq, Int.reduceAdd, Int.reduceLT, Int.reduceLE, Int.reduceGT, Int.reduceGE, Int.reduceEq, Int.reduceNe, Int.reduceBEq, Int.reduceBNe, Int.reduceToNat, Int.reduceNeg]
  (repeat (with_reducible refine ob ?_)); refine iff_ _ (fun h => ?_) (fun h => ?_)
  · have hil : i < l.length := by simpa using h
    try simp only [getD_map encB l hil, encB, go_sem, Nat.reduceAdd, Nat.reduceMul, Nat.reduceSub, Nat.reduceEqDiff, Nat.reduceLT, Nat.reduceLeDiff, Nat.reduceBEq, reduceIte, reduceCtorEq, Int.reduceAdd, Int.reduceLT, Int.reduceLE, Int.reduceGT, Int.reduceGE, Int.reduceEq, Int.reduceNe, Int.reduceBEq, Int.reduceBNe, Int.reduceToNat, Int.reduceNeg]
    (repeat (with_reducible refine ob ?_))
    refine iff_ _ (fun h2 => ?_) (fun h2 => ?_)
    · have hg : idB l[i] = false := by simpa [idB] using h2
      try simp only [all_no hil hg, go_sem, Nat.reduceAdd, Nat.reduceMul, Nat.reduceSub, Nat.reduceEqDiff, Nat.reduceLT, Nat.reduceLeDiff, Nat.reduceBEq, reduceIte, reduceCtorEq, Int.reduceAdd, Int.reduceLT, Int.reduceLE, Int.reduceGT, Int.reduceGE, Int.reduceEq, Int.reduceNe, Int.reduceBEq, Int.reduceBNe, Int.reduceToNat, Int.reduceNeg]
    · have hg : idB l[i] = true := by simpa [idB] using h2
      try (refine ev ?_; try exact True.intro)
      refine ⟨⟨i + 1, take_all_succ hi hil hg⟩, ?_, by dsimp only; omega⟩
      try simp only [SallB, wrap_succ (show i < 9223372036854775807 by omega), go_sem, Nat.reduceAdd, Nat.reduceMul, Nat.reduceSub, Nat.reduceEqDiff, Nat.reduceLT, Nat.reduceLeDiff, Nat.reduceBEq, reduceIte, reduceCtorEq, Int.reduceAdd, Int.reduceLT, Int.reduceLE, Int.reduceGT, Int.reduceGE, Int.reduceEq, Int.reduceNe, Int.reduceBEq, Int.reduceBNe, Int.reduceToNat, Int.reduceNeg]
  · have hall : l.all idB = true := all_done hi (by simpa using h)
    try simp only [hall, go_sem, Nat.reduceAdd, Nat.reduceMul, Nat.reduceSub, Nat.reduceEqDiff, Nat.reduceLT, Nat.reduceLeDiff, Nat.reduceBEq, reduceIte, reduceCtorEq, Int.reduceAdd, Int.reduceLT, Int.reduceLE, Int.reduceGT, Int.reduceGE, Int.reduceEq, Int.reduceNe, Int.reduceBEq, Int.reduceBNe, Int.reduceToNat, Int.reduceNeg]

def SsomeB (l : List Bool) (i : { i : Nat // (l.take i).any idB = false }) : St := ⟨[(0, true, .d (.sl 1 (l.map encB))), (2, true, .d (.bool false)), (3, true, .d (.int .i64 (i.val : Nat)))], [], [], 1⟩
theorem any_yes {α : Type} {f : α → Bool} {l : List α} {i : Nat} (hi : i < l.length) (hf : f l[i] = true) : l.any f = true := List.any_eq_true.2 ⟨_, List.getElem_mem hi, hf⟩
theorem any_done {α : Type} {f : α → Bool} {l : List α} {i : Nat} (h : (l.take i).any f = false) (hi : l.length ≤ i) : l.any f = false := by rwa [List.take_of_length_le hi] at h
theorem some53_ok (l : List Bool) (hl : l.length ≤ 1000) : ACall Try.prog 117 [.d (.sl 1 (l.map encB))] [] (.d (.bool (l.any idB))) [] := by
  refine F117.go ?_
  try (refine ev ?_; try exact True.intro)
  refine AWp_loop (SsomeB l) (fun i => l.length - i.val) ⟨0, rfl⟩ ?_ (fun i => ?_)
  · try simp only [SsomeB, go_sem, Nat.reduceAdd, Nat.reduceMul, Nat.reduceSub, Nat.reduceEqDiff, Nat.reduceLT, Nat.reduceLeDiff, Nat.reduceBEq, reduceIte, reduceCtorEq, Int.reduceAdd, Int.reduceLT, Int.reduceLE, Int.reduceGT, Int.reduceGE, Int.reduceEq, Int.reduceNe, Int.reduceBEq, Int.reduceBNe, Int.reduceToNat, Int.reduceNeg]
  obtain ⟨i, hi⟩ := i
  try simp only [SsomeB, go_sem, Nat.reduceAdd, Nat.reduceMul, Nat.reduceSub, Nat.reduceEqDiff, Nat.reduceLT, Nat.reduceLeDiff, Nat.reduceBEq, reduceIte, reduceCtorEq, Int.reduceAdd, Int.reduceLT, Int.reduceLE, Int.reduceGT, Int.reduceGE, Int.reduceEq, Int.reduceNe, Int.reduceBEq, Int.reduceBNe, Int.reduceToNat, Int.reduceNeg]
  (repeat (with_reducible refine ob ?_)); refine iff_ _ (fun h => ?_) (fun h => ?_)
  · have hil : i < l.length := by simpa using h
    try simp only [getD_map encB l hil, encB, go_sem, Nat.reduceAdd, Nat.reduceMul, Nat.reduceSub, Nat.reduceEqDiff, Nat.reduceLT, Nat.reduceLeDiff, Nat.reduceBEq, reduceIte, reduceCtorEq, Int.reduceAdd, Int.reduceLT, Int.reduceLE, Int.reduceGT, Int.reduceGE, Int.reduceEq, Int.reduceNe, Int.reduceBEq, Int.reduceBNe, Int.reduceToNat, Int.reduceNeg]
    (repeat (with_reducible refine ob ?_))
    refine iff_ _ (fun h2 => ?_) (fun h2 => ?_)
    · have hg : idB l[i] = true := by simpa [idB] using h2
      try simp only [any_yes hil hg, go_sem, Nat.reduceAdd, Nat.reduceMul, Nat.reduceSub, Nat.reduceEqDiff, Nat.reduceLT, Nat.reduceLeDiff, Nat.reduceBEq, reduceIte, reduceCtorEq, Int.reduceAdd, Int.reduceLT, Int.reduceLE, Int.reduceGT, Int.reduceGE, Int.reduceEq, Int.reduceNe, Int.reduceBEq, Int.reduceBNe, Int.reduceToNat, Int.reduceNeg]
    · have hg : idB l[i] = false := by simpa [idB] using h2
      try (refine ev ?_; try exact True.intro)
      refine ⟨⟨i + 1, take_any_succ hi hil hg⟩, ?_, by dsimp only; omega⟩
      try simp only [SsomeB, wrap_succ (show i < 9223372036854775807 by omega), go_sem, Nat.reduceAdd, Nat.reduceMul, Nat.reduceSub, Nat.reduceEqDiff, Nat.reduceLT, Nat.reduceLeDiff, Nat.reduceBEq, reduceIte, reduceCtorEq, Int.reduceAdd, Int.reduceLT, Int.reduceLE, Int.reduceGT, Int.reduceGE, Int.reduceEq, Int.reduceNe, Int.reduceBEq, Int.reduceBNe, Int.reduceToNat, Int.reduceNeg]
  · have hall : l.any idB = false := any_done hi (by simpa using h)
    try simp only [hall, go_sem, Nat.reduceAdd, Nat.reduceMul, Nat.reduceSub, Nat.reduceEqDiff, Nat.reduceLT, Nat.reduceLeDiff, Nat.reduceBEq, reduceIte, reduceCtorEq, Int.reduceAdd, Int.reduceLT, Int.reduceLE, Int.reduceGT, Int.reduceGE, Int.reduceEq, Int.reduceNe, Int.reduceBEq, Int.reduceBNe, Int.reduceToNat, Int.reduceNeg]

def ph53 (x : En) : Int :=
  if !x.moved.all idB && !x.opened.any idB then 1 else if x.moved.all idB && !x.opened.all idB then 2 else if x.moved.all idB && x.opened.all idB then 3 else 0
theorem hasB_false (l : List Bool) : hasB false l = !l.all idB := by
  induction l with
  | nil => rfl
  | cons b l ih => cases b <;> simp_all [hasB, idB]
theorem hasB_true (l : List Bool) : hasB true l = l.any idB := by
  induction l with
  | nil => rfl
  | cons b l ih => cases b <;> simp_all [hasB, idB]
theorem ph53_eq (x : En) : ph53 x = upPhase x := by
  simp only [ph53, upPhase, hasB_false, hasB_true]
  cases x.moved.all idB <;> cases x.opened.all idB <;> cases x.opened.any idB <;> rfl
theorem phase53_ok (x : En) (hx : x.Sm) : ACall Try.prog 91 [.d (.agg (encEn x))] [] (.d (.int .i64 (upPhase x))) [] := by
  rw [← ph53_eq]
  refine F91.go ?_
  try simp only [encEn, go_sem, Nat.reduceAdd, Nat.reduceMul, Nat.reduceSub, Nat.reduceEqDiff, Nat.reduceLT, Nat.reduceLeDiff, Nat.reduceBEq, reduceIte, reduceCtorEq, Int.reduceAdd, Int.reduceLT, Int.reduceLE, Int.reduceGT, Int.reduceGE, Int.reduceEq, Int.reduceNe, Int.reduceBEq, Int.reduceBNe, Int.reduceToNat, Int.reduceNeg]
  (repeat (with_reducible refine ob ?_)); first | refine cl F116 (all53_ok x.moved hx.1) ?_ | refine clF F116 (all53_ok x.moved hx.1) (fun _ => by simp only [encEn, encMg, go_sem, Nat.reduceAdd, Nat.reduceMul, Nat.reduceSub, Nat.reduceEqDiff, Nat.reduceLT, Nat.reduceLeDiff, Nat.reduceBEq, reduceIte, reduceCtorEq, Int.reduceAdd, Int.reduceLT, Int.reduceLE, Int.reduceGT, Int.reduceGE, Int.reduceEq, Int.reduceNe, Int.reduceBEq, Int.reduceBNe, Int.reduceToNat, Int.reduceNeg]) ?_
  try (refine ev ?_; try exact True.intro)
  (repeat (with_reducible refine ob ?_)); first | refine cl F117 (some53_ok x.opened hx.2) ?_ | refine clF F117 (some53_ok x.opened hx.2) (fun _ => by simp only [encEn, encMg, go_sem, Nat.reduceAdd, Nat.reduceMul, Nat.reduceSub, Nat.reduceEqDiff, Nat.reduceLT, Nat.reduceLeDiff, Nat.reduceBEq, reduceIte, reduceCtorEq, Int.reduceAdd, Int.reduceLT, Int.reduceLE, Int.reduceGT, Int.reduceGE, Int.reduceEq, Int.reduceNe, Int.reduceBEq, Int.reduceBNe, Int.reduceToNat, Int.reduceNeg]) ?_
  try (refine ev ?_; try exact True.intro)
  refine iff_ _ (fun h1 => ?_) (fun h1 => ?_)
  · have e : ph53 x = 1 := by simp_all [ph53]
    try simp only [e, go_sem, Nat.reduceAdd, Nat.reduceMul, Nat.reduceSub, Nat.reduceEqDiff, Nat.reduceLT, Nat.reduceLeDiff, Nat.reduceBEq, reduceIte, reduceCtorEq, Int.reduceAdd, Int.reduceLT, Int.reduceLE, Int.reduceGT, Int.reduceGE, Int.reduceEq, Int.reduceNe, Int.reduceBEq, Int.reduceBNe, Int.reduceToNat, Int.reduceNeg]
  try (refine ev ?_; try exact True.intro)
  (repeat (with_reducible refine ob ?_)); first | refine cl F116 (all53_ok x.moved hx.1) ?_ | refine clF F116 (all53_ok x.moved hx.1) (fun _ => by simp only [encEn, encMg, go_sem, Nat.reduceAdd, Nat.reduceMul, Nat.reduceSub, Nat.reduceEqDiff, Nat.reduceLT, Nat.reduceLeDiff, Nat.reduceBEq, reduceIte, reduceCtorEq, Int.reduceAdd, Int.reduceLT, Int.reduceLE, Int.reduceGT, Int.reduceGE, Int.reduceEq, Int.reduceNe, Int.reduceBEq, Int.reduceBNe, Int.reduceToNat, Int.reduceNeg]) ?_
  try (refine ev ?_; try exact True.intro)
  (repeat (with_reducible refine ob ?_)); first | refine cl F116 (all53_ok x.opened hx.2) ?_ | refine clF F116 (all53_ok x.opened hx.2) (fun _ => by simp only [encEn, encMg, go_sem, Nat.reduceAdd, Nat.reduceMul, Nat.reduceSub, Nat.reduceEqDiff, Nat.reduceLT, Nat.reduceLeDiff, Nat.reduceBEq, reduceIte, reduceCtorEq, Int.reduceAdd, Int.reduceLT, Int.reduceLE, Int.reduceGT, Int.reduceGE, Int.reduceEq, Int.reduceNe, Int.reduceBEq, Int.reduceBNe, Int.reduceToNat, Int.reduceNeg]) ?_
  try (refine ev ?_; try exact True.intro)
  refine iff_ _ (fun h2 => ?_) (fun h2 => ?_)
  · have e : ph53 x = 2 := by simp only [ph53, h1, h2]; rfl
    try simp only [e, go_sem, Nat.reduceAdd, Nat.reduceMul, Nat.reduceSub, Nat.reduceEqDiff, Nat.reduceLT, Nat.reduceLeDiff, Nat.reduceBEq, reduceIte, reduceCtorEq, Int.reduceAdd, Int.reduceLT, Int.reduceLE, Int.reduceGT, Int.reduceGE, Int.reduceEq, Int.reduceNe, Int.reduceBEq, Int.reduceBNe, Int.reduceToNat, Int.reduceNeg]
  try (refine ev ?_; try exact True.intro)
  (repeat (with_reducible refine ob ?_)); first | refine cl F116 (all53_ok x.moved hx.1) ?_ | refine clF F116 (all53_ok x.moved hx.1) (fun _ => by simp only [encEn, encMg, go_sem, Nat.reduceAdd, Nat.reduceMul, Nat.reduceSub, Nat.reduceEqDiff, Nat.reduceLT, Nat.reduceLeDiff, Nat.reduceBEq, reduceIte, reduceCtorEq, Int.reduceAdd, Int.reduceLT, Int.reduceLE, Int.reduceGT, Int.reduceGE, Int.reduceEq, Int.reduceNe, Int.reduceBEq, Int.reduceBNe, Int.reduceToNat, Int.reduceNeg]) ?_
  try (refine ev ?_; try exact True.intro)
  (repeat (with_reducible refine ob ?_)); first | refine cl F116 (all53_ok x.opened hx.2) ?_ | refine clF F116 (all53_ok x.opened hx.2) (fun _ => by simp only [encEn, encMg, go_sem, Nat.reduceAdd, Nat.reduceMul, Nat.reduceSub, Nat.reduceEqDiff, Nat.reduceLT, Nat.reduceLeDiff, Nat.reduceBEq, reduceIte, reduceCtorEq, Int.reduceAdd, Int.reduceLT, Int.reduceLE, Int.reduceGT, Int.reduceGE, Int.reduceEq, Int.reduceNe, Int.reduceBEq, Int.reduceBNe, Int.reduceToNat, Int.reduceNeg]) ?_
  try (refine ev ?_; try exact True.intro)
  refine iff_ _ (fun h3 => ?_) (fun h3 => ?_)
  · have e : ph53 x = 3 := by simp only [ph53, h1, h2, h3]; rfl
    try simp only [e, go_sem, Nat.reduceAdd, Nat.reduceMul, Nat.reduceSub, Nat.reduceEqDiff, Nat.reduceLT, Nat.reduceLeDiff, Nat.reduceBEq, reduceIte, reduceCtorEq, Int.reduceAdd, Int.reduceLT, Int.reduceLE, Int.reduceGT, Int.reduceGE, Int.reduceEq, Int.reduceNe, Int.reduceBEq, Int.reduceBNe, Int.reduceToNat, Int.reduceNeg]
  · have e : ph53 x = 0 := by simp only [ph53, h1, h2, h3]; rfl
    try simp only [e, go_sem, Nat.reduceAdd, Nat.reduceMul, Nat.reduceSub, Nat.reduceEqDiff, Nat.reduceLT, Nat.reduceLeDiff, Nat.reduceBEq, reduceIte, reduceCtorEq, Int.reduceAdd, Int.reduceLT, Int.reduceLE, Int.reduceGT, Int.reduceGE, Int.reduceEq, Int.reduceNe, Int.reduceBEq, Int.reduceBNe, Int.reduceToNat, Int.reduceNeg]

def Sv53 (m : Mg) (i : { i : Nat // allTo (fun i => !enBad m i) i = true }) : St := ⟨[(1, true, .d (.ptr 0 0)), (2, true, .d (.bool false)), (3, true, .d (.int .i64 (i.val : Nat)))], [mgObj m], [], 1⟩

set_option maxRecDepth 10000 in
theorem valid53_ok (m : Mg) (hm : m.Sm) : ACall Try.prog 60 [.d (.agg (encMg m))] [] (.d (.bool (upValid m))) [] := by
  have hl := hm.1
  refine F60.go ?_
  try simp only [encMg, go_sem, Nat.reduceAdd, Nat.reduceMul, Nat.reduceSub, Nat.reduceEqDiff, Nat.reduceLT, Nat.reduceLeDiff, Nat.reduceBEq, reduceIte, reduceCtorEq, Int.reduceAdd, Int.reduceLT, Int.reduceLE, Int.reduceGT, Int.reduceGE, Int.reduceEq, Int.reduceNe, Int.reduceBEq, Int.reduceBNe, Int.reduceToNat, Int.reduceNeg]
  (repeat (with_reducible refine ob ?_)); refine iff_ _ (fun h => ?_) (fun h => ?_)
  · have hb : (decide (m.roles ≥ 1) && decide (m.roles ≤ 6)) = false := by
      simp only [Bool.or_eq_true, decide_eq_true_eq] at h
      rw [Bool.and_eq_false_iff, decide_eq_false_iff_not, decide_eq_false_iff_not]
      omega
    try simp only [upValid, hb, Bool.and_false, go_sem, Nat.reduceAdd, Nat.reduceMul, Nat.reduceSub, Nat.reduceEqDiff, Nat.reduceLT, Nat.reduceLeDiff, Nat.reduceBEq, reduceIte, reduceCtorEq, Int.reduceAdd, Int.reduceLT, Int.reduceLE, Int.reduceGT, Int.reduceGE, Int.reduceEq, Int.reduceNe, Int.reduceBEq, Int.reduceBNe, Int.reduceToNat, Int.reduceNeg]
  have hb : (decide (m.roles ≥ 1) && decide (m.roles ≤ 6)) = true := by
    simp only [Bool.or_eq_false_iff, decide_eq_false_iff_not] at h
    simp only [Bool.and_eq_true, decide_eq_true_eq]
    omega
  try (refine ev ?_; try exact True.intro)
  refine AWp_loop (Sv53 m) (fun i => m.ents.length - i.val) ⟨0, rfl⟩ ?_ (fun i => ?_)
  · try simp only [Sv53, mgObj, go_sem, Nat.reduceAdd, Nat.reduceMul, Nat.reduceSub, Nat.reduceEqDiff, Nat.reduceLT, Nat.reduceLeDiff, Nat.reduceBEq, reduceIte, reduceCtorEq, Int.reduceAdd, Int.reduceLT, Int.reduceLE, Int.reduceGT, Int.reduceGE, Int.reduceEq, Int.reduceNe, Int.reduceBEq, Int.reduceBNe, Int.reduceToNat, Int.reduceNeg]
  obtain ⟨i, hi⟩ := i
  try simp only [Sv53, mgObj, go_sem, Nat.reduceAdd, Nat.reduceMul, Nat.reduceSub, Nat.reduceEqDiff, Nat.reduceLT, Nat.reduceLeDiff, Nat.reduceBEq, reduceIte, reduceCtorEq, Int.reduceAdd, Int.reduceLT, Int.reduceLE, Int.reduceGT, Int.reduceGE, Int.reduceEq, Int.reduceNe, Int.reduceBEq, Int.reduceBNe, Int.reduceToNat, Int.reduceNeg]
  (repeat (with_reducible refine ob ?_)); refine iff_ _ (fun h => ?_) (fun h => ?_)
  · have hil : i < m.ents.length := by simpa using h
    have hx := hm.2 _ (List.getElem_mem hil)
    rcases Nat.eq_zero_or_pos i with h0 | h0
    · subst h0
      simp only [getD_map encEn m.ents hil, encEn, Int.toNat_zero, w01, go_sem, Nat.reduceAdd, Nat.reduceMul, Nat.reduceSub, Nat.reduceEqDiff, Nat.reduceLT, Nat.reduceLeDiff, Nat.reduceBEq, reduceIte, reduceCtorEq, Int.reduceAdd, Int.reduceLT, Int.reduceLE, Int.reduceGT, Int.reduceGE, Int.reduceEq, Int.reduceNe, Int.reduceBEq, Int.reduceBNe, Int.reduceToNat, Int.reduceNeg]
      (repeat (with_reducible refine ob ?_))
      try (refine ev ?_; try exact True.intro)
      (repeat (with_reducible refine ob ?_))
      (repeat (with_reducible refine ob ?_)); first | refine cl F91 (phase53_ok m.ents[0] hx) ?_ | refine clF F91 (phase53_ok m.ents[0] hx) (fun _ => by simp only [encEn, encMg, go_sem, Nat.reduceAdd, Nat.reduceMul, Nat.reduceSub, Nat.reduceEqDiff, Nat.reduceLT, Nat.reduceLeDiff, Nat.reduceBEq, reduceIte, reduceCtorEq, Int.reduceAdd, Int.reduceLT, Int.reduceLE, Int.reduceGT, Int.reduceGE, Int.reduceEq, Int.reduceNe, Int.reduceBEq, Int.reduceBNe, Int.reduceToNat, Int.reduceNeg]) ?_
      try (refine ev ?_; try exact True.intro)
      refine ⟨fun h => by rw [h]; rfl, ?_⟩
      refine AWp_cond (enBad m 0) rfl ?_ (fun h2 => ?_) (fun h2 => ?_)
      · try simp only [en0 m hil, go_sem, Nat.reduceAdd, Nat.reduceMul, Nat.reduceSub, Nat.reduceEqDiff, Nat.reduceLT, Nat.reduceLeDiff, Nat.reduceBEq, reduceIte, reduceCtorEq, Int.reduceAdd, Int.reduceLT, Int.reduceLE, Int.reduceGT, Int.reduceGE, Int.reduceEq, Int.reduceNe, Int.reduceBEq, Int.reduceBNe, Int.reduceToNat, Int.reduceNeg]
      · have hg : (!enBad m 0) = false := by simp [h2]
        try simp only [upValid, allTo_no (g := fun i => !enBad m i) hil hg, go_sem, Nat.reduceAdd, Nat.reduceMul, Nat.reduceSub, Nat.reduceEqDiff, Nat.reduceLT, Nat.reduceLeDiff, Nat.reduceBEq, reduceIte, reduceCtorEq, Int.reduceAdd, Int.reduceLT, Int.reduceLE, Int.reduceGT, Int.reduceGE, Int.reduceEq, Int.reduceNe, Int.reduceBEq, Int.reduceBNe, Int.reduceToNat, Int.reduceNeg]
      · try (refine ev ?_; try exact True.intro)
        refine ⟨⟨1, allTo_step hi (by simp [h2])⟩, ?_, by dsimp only; omega⟩
        try simp only [Sv53, mgObj, show IntKind.i64.wrap 1 = 1 by decide, go_sem, Nat.reduceAdd, Nat.reduceMul, Nat.reduceSub, Nat.reduceEqDiff, Nat.reduceLT, Nat.reduceLeDiff, Nat.reduceBEq, reduceIte, reduceCtorEq, Int.reduceAdd, Int.reduceLT, Int.reduceLE, Int.reduceGT, Int.reduceGE, Int.reduceEq, Int.reduceNe, Int.reduceBEq, Int.reduceBNe, Int.reduceToNat, Int.reduceNeg]
    · obtain ⟨k, rfl⟩ : ∃ k, i = k + 1 := ⟨i - 1, by omega⟩
      have hk : k < m.ents.length := by omega
      have hw : IntKind.i64.wrap (((k : Nat) : Int) + 1 - 1) = ((k : Nat) : Int) := by rw [wrap_i64 (by omega) (by omega)]; omega
      have hw2 : IntKind.i64.wrap (((k : Nat) : Int) + 1 + 1) = ((k : Nat) : Int) + 1 + 1 := by rw [wrap_i64 (by omega) (by omega)]
      simp only [getD_map encEn m.ents hil, getD_map encEn m.ents hk, hw, encEn, go_sem, Nat.reduceAdd, Nat.reduceMul, Nat.reduceSub, Nat.reduceEqDiff, Nat.reduceLT, Nat.reduceLeDiff, Nat.reduceBEq, reduceIte, reduceCtorEq, Int.reduceAdd, Int.reduceLT, Int.reduceLE, Int.reduceGT, Int.reduceGE, Int.reduceEq, Int.reduceNe, Int.reduceBEq, Int.reduceBNe, Int.reduceToNat, Int.reduceNeg]
      (repeat (with_reducible refine ob ?_))
      try simp only [getD_map encEn m.ents hk, hw, encEn, go_sem, Nat.reduceAdd, Nat.reduceMul, Nat.reduceSub, Nat.reduceEqDiff, Nat.reduceLT, Nat.reduceLeDiff, Nat.reduceBEq, reduceIte, reduceCtorEq, Int.reduceAdd, Int.reduceLT, Int.reduceLE, Int.reduceGT, Int.reduceGE, Int.reduceEq, Int.reduceNe, Int.reduceBEq, Int.reduceBNe, Int.reduceToNat, Int.reduceNeg]
      (repeat (with_reducible refine ob ?_))
      (repeat (with_reducible refine ob ?_)); first | refine cl F91 (phase53_ok m.ents[k+1] hx) ?_ | refine clF F91 (phase53_ok m.ents[k+1] hx) (fun _ => by simp only [encEn, encMg, go_sem, Nat.reduceAdd, Nat.reduceMul, Nat.reduceSub, Nat.reduceEqDiff, Nat.reduceLT, Nat.reduceLeDiff, Nat.reduceBEq, reduceIte, reduceCtorEq, Int.reduceAdd, Int.reduceLT, Int.reduceLE, Int.reduceGT, Int.reduceGE, Int.reduceEq, Int.reduceNe, Int.reduceBEq, Int.reduceBNe, Int.reduceToNat, Int.reduceNeg]) ?_
      try (refine ev ?_; try exact True.intro)
      refine ⟨fun h => by rw [h]; rfl, ?_⟩
      refine AWp_cond (enBad m (k + 1)) rfl ?_ (fun h2 => ?_) (fun h2 => ?_)
      · try simp only [enk m k hil hk, go_sem, Nat.reduceAdd, Nat.reduceMul, Nat.reduceSub, Nat.reduceEqDiff, Nat.reduceLT, Nat.reduceLeDiff, Nat.reduceBEq, reduceIte, reduceCtorEq, Int.reduceAdd, Int.reduceLT, Int.reduceLE, Int.reduceGT, Int.reduceGE, Int.reduceEq, Int.reduceNe, Int.reduceBEq, Int.reduceBNe, Int.reduceToNat, Int.reduceNeg]
      · have hg : (!enBad m (k + 1)) = false := by simp [h2]
        try simp only [upValid, allTo_no (g := fun i => !enBad m i) hil hg, go_sem, Nat.reduceAdd, Nat.reduceMul, Nat.reduceSub, Nat.reduceEqDiff, Nat.reduceLT, Nat.reduceLeDiff, Nat.reduceBEq, reduceIte, reduceCtorEq, Int.reduceAdd, Int.reduceLT, Int.reduceLE, Int.reduceGT, Int.reduceGE, Int.reduceEq, Int.reduceNe, Int.reduceBEq, Int.reduceBNe, Int.reduceToNat, Int.reduceNeg]
      · try (refine ev ?_; try exact True.intro)
        refine ⟨⟨k + 1 + 1, allTo_step hi (by simp [h2])⟩, ?_, by dsimp only; omega⟩
        try simp only [Sv53, mgObj, hw2, go_sem, Nat.reduceAdd, Nat.reduceMul, Nat.reduceSub, Nat.reduceEqDiff, Nat.reduceLT, Nat.reduceLeDiff, Nat.reduceBEq, reduceIte, reduceCtorEq, Int.reduceAdd, Int.reduceLT, Int.reduceLE, Int.reduceGT, Int.reduceGE, Int.reduceEq, Int.reduceNe, Int.reduceBEq, Int.reduceBNe, Int.reduceToNat, Int.reduceNeg]
  · have hil : m.ents.length ≤ i := by simpa using h
    have ha : allTo (fun i => !enBad m i) m.ents.length = true := allTo_iff.2 fun j hj => allTo_iff.1 hi j (by omega)
    try (refine ev ?_; try exact True.intro)
    (repeat (with_reducible refine ob ?_))
    simp only [upValid, ha, hb, go_sem, Nat.reduceAdd, Nat.reduceMul, Nat.reduceSub, Nat.reduceEqDiff, Nat.reduceLT, Nat.reduceLeDiff, Nat.reduceBEq, reduceIte, reduceCtorEq, Int.reduceAdd, Int.reduceLT, Int.reduceLE, Int.reduceGT, Int.reduceGE, Int.reduceEq, Int.reduceNe, Int.reduceBEq, Int.reduceBNe, Int.reduceToNat, Int.reduceNeg]

def Six53 (m : Mg) (s : Int) (i : { i : Nat // (m.ents.take i).any (fun x => x.sess == s) = false }) : St :=
  ⟨[(1, true, .d (.int .i64 s)), (2, true, .d (.ptr 0 0)), (4, true, .d (.int .i64 0)), (5, true, .d (.int .i64 (i.val : Nat)))], [mgObj m], [], 1⟩
theorem index53_ok (m : Mg) (s : Int) (hm : m.Sm) : ACall Try.prog 89 [.d (.agg (encMg m)), .d (.int .i64 s)] [] (.d (.int .i64 (idx (fun x => x.sess == s) m.ents))) [] := by
  have hl := hm.1
  refine F89.go ?_
  try simp only [encMg, go_sem, Nat.reduceAdd, Nat.reduceMul, Nat.reduceSub, Nat.reduceEqDiff, Nat.reduceLT, Nat.reduceLeDiff, Nat.reduceBEq, reduceIte, reduceCtorEq, Int.reduceAdd, Int.reduceLT, Int.reduceLE, Int.reduceGT, Int.reduceGE, Int.reduceEq, Int.reduceNe, Int.reduceBEq, Int.reduceBNe, Int.reduceToNat, Int.reduceNeg]
  refine AWp_loop (Six53 m s) (fun i => m.ents.length - i.val) ⟨0, rfl⟩ ?_ (fun i => ?_)
  · try simp only [Six53, mgObj, go_sem, Nat.reduceAdd, Nat.reduceMul, Nat.reduceSub, Nat.reduceEqDiff, Nat.reduceLT, Nat.reduceLeDiff, Nat.reduceBEq, reduceIte, reduceCtorEq, Int.reduceAdd, Int.reduceLT, Int.reduceLE, Int.reduceGT, Int.reduceGE, Int.reduceEq, Int.reduceNe, Int.reduceBEq, Int.reduceBNe, Int.reduceToNat, Int.reduceNeg]
  obtain ⟨i, hi⟩ := i
  try simp only [Six53, mgObj, go_sem, Nat.reduceAdd, Nat.reduceMul, Nat.reduceSub, Nat.reduceEqDiff, Nat.reduceLT, Nat.reduceLeDiff, Nat.reduceBEq, reduceIte, reduceCtorEq, Int.reduceAdd, Int.reduceLT, Int.reduceLE, Int.reduceGT, Int.reduceGE, Int.reduceEq, Int.reduceNe, Int.reduceBEq, Int.reduceBNe, Int.reduceToNat, Int.reduceNeg]
  (repeat (with_reducible refine ob ?_)); refine iff_ _ (fun h => ?_) (fun h => ?_)
  · have hil : i < m.ents.length := by simpa using h
    simp only [getD_map encEn m.ents hil, encEn, go_sem, Nat.reduceAdd, Nat.reduceMul, Nat.reduceSub, Nat.reduceEqDiff, Nat.reduceLT, Nat.reduceLeDiff, Nat.reduceBEq, reduceIte, reduceCtorEq, Int.reduceAdd, Int.reduceLT, Int.reduceLE, Int.reduceGT, Int.reduceGE, Int.reduceEq, Int.reduceNe, Int.reduceBEq, Int.reduceBNe, Int.reduceToNat, Int.reduceNeg]
    (repeat (with_reducible refine ob ?_))
    refine iff_ _ (fun h2 => ?_) (fun h2 => ?_)
    · try simp only [idx_some (f := fun x : En => x.sess == s) hi hil h2, go_sem, Nat.reduceAdd, Nat.reduceMul, Nat.reduceSub, Nat.reduceEqDiff, Nat.reduceLT, Nat.reduceLeDiff, Nat.reduceBEq, reduceIte, reduceCtorEq, Int.reduceAdd, Int.reduceLT, Int.reduceLE, Int.reduceGT, Int.reduceGE, Int.reduceEq, Int.reduceNe, Int.reduceBEq, Int.reduceBNe, Int.reduceToNat, Int.reduceNeg]
    · try (refine ev ?_; try exact True.intro)
      refine ⟨⟨i + 1, take_any_succ hi hil h2⟩, ?_, by dsimp only; omega⟩
      try simp only [Six53, mgObj, wrap_succ (show i < 9223372036854775807 by omega), go_sem, Nat.reduceAdd, Nat.reduceMul, Nat.reduceSub, Nat.reduceEqDiff, Nat.reduceLT, Nat.reduceLeDiff, Nat.reduceBEq, reduceIte, reduceCtorEq, Int.reduceAdd, Int.reduceLT, Int.reduceLE, Int.reduceGT, Int.reduceGE, Int.reduceEq, Int.reduceNe, Int.reduceBEq, Int.reduceBNe, Int.reduceToNat, Int.reduceNeg]
  · try simp only [idx_none hi (by simpa using h), go_sem, Nat.reduceAdd, Nat.reduceMul, Nat.reduceSub, Nat.reduceEqDiff, Nat.reduceLT, Nat.reduceLeDiff, Nat.reduceBEq, reduceIte, reduceCtorEq, Int.reduceAdd, Int.reduceLT, Int.reduceLE, Int.reduceGT, Int.reduceGE, Int.reduceEq, Int.reduceNe, Int.reduceBEq, Int.reduceBNe, Int.reduceToNat, Int.reduceNeg]

theorem phaseOf53_ok (m : Mg) (s : Int) (hm : m.Sm) : ACall Try.prog 61 [.d (.agg (encMg m)), .d (.int .i64 s)] [] (.d (.int .i64 (upPhaseOf m s))) [] := by
  refine F61.go ?_
  try simp only [encMg, go_sem, Nat.reduceAdd, Nat.reduceMul, Nat.reduceSub, Nat.reduceEqDiff, Nat.reduceLT, Nat.reduceLeDiff, Nat.reduceBEq, reduceIte, reduceCtorEq, Int.reduceAdd, Int.reduceLT, Int.reduceLE, Int.reduceGT, Int.reduceGE, Int.reduceEq, Int.reduceNe, Int.reduceBEq, Int.reduceBNe, Int.reduceToNat, Int.reduceNeg]
  (repeat (with_reducible refine ob ?_)); first | refine cl F89 (index53_ok m s hm) ?_ | refine clF F89 (index53_ok m s hm) (fun _ => by simp only [encEn, encMg, go_sem, Nat.reduceAdd, Nat.reduceMul, Nat.reduceSub, Nat.reduceEqDiff, Nat.reduceLT, Nat.reduceLeDiff, Nat.reduceBEq, reduceIte, reduceCtorEq, Int.reduceAdd, Int.reduceLT, Int.reduceLE, Int.reduceGT, Int.reduceGE, Int.reduceEq, Int.reduceNe, Int.reduceBEq, Int.reduceBNe, Int.reduceToNat, Int.reduceNeg]) ?_
  try simp only [idx_ge, go_sem, Nat.reduceAdd, Nat.reduceMul, Nat.reduceSub, Nat.reduceEqDiff, Nat.reduceLT, Nat.reduceLeDiff, Nat.reduceBEq, reduceIte, reduceCtorEq, Int.reduceAdd, Int.reduceLT, Int.reduceLE, Int.reduceGT, Int.reduceGE, Int.reduceEq, Int.reduceNe, Int.reduceBEq, Int.reduceBNe, Int.reduceToNat, Int.reduceNeg]
  (repeat (with_reducible refine ob ?_)); refine iff_ _ (fun h => ?_) (fun h => ?_)
  · have hf : m.ents.any (fun x => x.sess == s) = true := by simpa using h
    obtain ⟨h1, h2⟩ := idx_any hf
    have hu : upPhaseOf m s = m.ents[m.ents.findIdx (fun x => x.sess == s)].phase := by simp only [upPhaseOf, hf, getD_lt h2, if_true]
    rw [hu, h1]
    generalize m.ents.findIdx (fun x => x.sess == s) = k at h2 ⊢
    try simp only [getD_map encEn m.ents h2, encEn, go_sem, Nat.reduceAdd, Nat.reduceMul, Nat.reduceSub, Nat.reduceEqDiff, Nat.reduceLT, Nat.reduceLeDiff, Nat.reduceBEq, reduceIte, reduceCtorEq, Int.reduceAdd, Int.reduceLT, Int.reduceLE, Int.reduceGT, Int.reduceGE, Int.reduceEq, Int.reduceNe, Int.reduceBEq, Int.reduceBNe, Int.reduceToNat, Int.reduceNeg]
    (repeat (with_reducible refine ob ?_))
    try simp only [getD_map encEn m.ents h2, encEn, go_sem, Nat.reduceAdd, Nat.reduceMul, Nat.reduceSub, Nat.reduceEqDiff, Nat.reduceLT, Nat.reduceLeDiff, Nat.reduceBEq, reduceIte, reduceCtorEq, Int.reduceAdd, Int.reduceLT, Int.reduceLE, Int.reduceGT, Int.reduceGE, Int.reduceEq, Int.reduceNe, Int.reduceBEq, Int.reduceBNe, Int.reduceToNat, Int.reduceNeg]
    first | omega | exact ⟨by omega, by omega⟩ | skip
  · have hf : m.ents.any (fun x => x.sess == s) = false := by simpa using h
    have hu : upPhaseOf m s = 0 := by simp only [upPhaseOf, hf]; rfl
    try simp only [hu, go_sem, Nat.reduceAdd, Nat.reduceMul, Nat.reduceSub, Nat.reduceEqDiff, Nat.reduceLT, Nat.reduceLeDiff, Nat.reduceBEq, reduceIte, reduceCtorEq, Int.reduceAdd, Int.reduceLT, Int.reduceLE, Int.reduceGT, Int.reduceGE, Int.reduceEq, Int.reduceNe, Int.reduceBEq, Int.reduceBNe, Int.reduceToNat, Int.reduceNeg]

def SsameB (l m : List Bool) (i : { i : Nat // l.take i = m.take i }) : St :=
  ⟨[(0, true, .d (.sl 1 (l.map encB))), (1, true, .d (.sl 1 (m.map encB))), (4, true, .d (.bool false)), (5, true, .d (.int .i64 (i.val : Nat)))], [], [], 1⟩
theorem sameB_ok (l m : List Bool) (hl : l.length ≤ 1000) : ACall Try.prog 92 [.d (.sl 1 (l.map encB)), .d (.sl 1 (m.map encB))] [] (.d (.bool (decide (l = m)))) [] := by
  refine F92.go ?_
  try (refine ev ?_; try exact True.intro)
  refine iff_ _ (fun h => ?_) (fun h => ?_)
  · have hne : decide (l = m) = false := by rw [decide_eq_false_iff_not]; rintro rfl; simp at h
    try simp only [hne, go_sem, Nat.reduceAdd, Nat.reduceMul, Nat.reduceSub, Nat.reduceEqDiff, Nat.reduceLT, Nat.reduceLeDiff, Nat.reduceBEq, reduceIte, reduceCtorEq, Int.reduceAdd, Int.reduceLT, Int.reduceLE, Int.reduceGT, Int.reduceGE, Int.reduceEq, Int.reduceNe, Int.reduceBEq, Int.reduceBNe, Int.reduceToNat, Int.reduceNeg]
  · have hlm : l.length = m.length := by simp at h; omega
    try (refine ev ?_; try exact True.intro)
    refine AWp_loop (SsameB l m) (fun i => l.length - i.val) ⟨0, rfl⟩ ?_ (fun i => ?_)
    · try simp only [SsameB, go_sem, Nat.reduceAdd, Nat.reduceMul, Nat.reduceSub, Nat.reduceEqDiff, Nat.reduceLT, Nat.reduceLeDiff, Nat.reduceBEq, reduceIte, reduceCtorEq, Int.reduceAdd, Int.reduceLT, Int.reduceLE, Int.reduceGT, Int.reduceGE, Int.reduceEq, Int.reduceNe, Int.reduceBEq, Int.reduceBNe, Int.reduceToNat, Int.reduceNeg]
    · obtain ⟨i, hi⟩ := i
      try simp only [SsameB, go_sem, Nat.reduceAdd, Nat.reduceMul, Nat.reduceSub, Nat.reduceEqDiff, Nat.reduceLT, Nat.reduceLeDiff, Nat.reduceBEq, reduceIte, reduceCtorEq, Int.reduceAdd, Int.reduceLT, Int.reduceLE, Int.reduceGT, Int.reduceGE, Int.reduceEq, Int.reduceNe, Int.reduceBEq, Int.reduceBNe, Int.reduceToNat, Int.reduceNeg]
      refine iff_ _ (fun h => ?_) (fun h => ?_)
      · have hil : i < l.length := by simpa using h
        have him : i < m.length := by omega
        try simp only [getD_map encB l hil, getD_map encB m him, encB, go_sem, Nat.reduceAdd, Nat.reduceMul, Nat.reduceSub, Nat.reduceEqDiff, Nat.reduceLT, Nat.reduceLeDiff, Nat.reduceBEq, reduceIte, reduceCtorEq, Int.reduceAdd, Int.reduceLT, Int.reduceLE, Int.reduceGT, Int.reduceGE, Int.reduceEq, Int.reduceNe, Int.reduceBEq, Int.reduceBNe, Int.reduceToNat, Int.reduceNeg]
        refine ⟨by omega, by omega, ?_⟩
        refine iff_ _ (fun h2 => ?_) (fun h2 => ?_)
        · have hne : l[i] ≠ m[i] := by simpa using h2
          try simp only [eq_ne hil him hne, go_sem, Nat.reduceAdd, Nat.reduceMul, Nat.reduceSub, Nat.reduceEqDiff, Nat.reduceLT, Nat.reduceLeDiff, Nat.reduceBEq, reduceIte, reduceCtorEq, Int.reduceAdd, Int.reduceLT, Int.reduceLE, Int.reduceGT, Int.reduceGE, Int.reduceEq, Int.reduceNe, Int.reduceBEq, Int.reduceBNe, Int.reduceToNat, Int.reduceNeg]
        · have he : l[i] = m[i] := by simpa using h2
          try (refine ev ?_; try exact True.intro)
          refine ⟨⟨i + 1, take_eq_succ hi hil him he⟩, ?_, by dsimp only; omega⟩
          try simp only [SsameB, wrap_succ (show i < 9223372036854775807 by omega), go_sem, Nat.reduceAdd, Nat.reduceMul, Nat.reduceSub, Nat.reduceEqDiff, Nat.reduceLT, Nat.reduceLeDiff, Nat.reduceBEq, reduceIte, reduceCtorEq, Int.reduceAdd, Int.reduceLT, Int.reduceLE, Int.reduceGT, Int.reduceGE, Int.reduceEq, Int.reduceNe, Int.reduceBEq, Int.reduceBNe, Int.reduceToNat, Int.reduceNeg]
      · have he : decide (l = m) = true := take_eq_done hi (by simpa using h) hlm
        try simp only [he, go_sem, Nat.reduceAdd, Nat.reduceMul, Nat.reduceSub, Nat.reduceEqDiff, Nat.reduceLT, Nat.reduceLeDiff, Nat.reduceBEq, reduceIte, reduceCtorEq, Int.reduceAdd, Int.reduceLT, Int.reduceLE, Int.reduceGT, Int.reduceGE, Int.reduceEq, Int.reduceNe, Int.reduceBEq, Int.reduceBNe, Int.reduceToNat, Int.reduceNeg]

def fewE (x : En) : Bool := !(decide ((x.moved.length : Int) > 10) || decide ((x.opened.length : Int) > 10))
def fewM (m : Mg) : Bool := m.ents.all fewE && decide ((m.ents.length : Int) ≤ 12)
def SfewM (m : Mg) (i : { i : Nat // (m.ents.take i).all fewE = true }) : St := ⟨[(1, true, .d (.ptr 0 0)), (2, true, .d (.bool false)), (3, true, .d (.int .i64 (i.val : Nat)))], [mgObj m], [], 1⟩
theorem fewM_ok (m : Mg) (hl : m.ents.length ≤ maxLen) : ACall Try.prog 42 [.d (.agg (encMg m))] [] (.d (.bool (fewM m))) [] := by
  refine F42.go ?_
  try simp only [encMg, go_sem, Nat.reduceAdd, Nat.reduceMul, Nat.reduceSub, Nat.reduceEqDiff, Nat.reduceLT, Nat.reduceLeDiff, Nat.reduceBEq, reduceIte, reduceCtorEq, Int.reduceAdd, Int.reduceLT, Int.reduceLE, Int.reduceGT, Int.reduceGE, Int.reduceEq, Int.reduceNe, Int.reduceBEq, Int.reduceBNe, Int.reduceToNat, Int.reduceNeg]
  refine AWp_loop (SfewM m) (fun i => m.ents.length - i.val) ⟨0, rfl⟩ ?_ (fun i => ?_)
  · try simp only [SfewM, mgObj, go_sem, Nat.reduceAdd, Nat.reduceMul, Nat.reduceSub, Nat.reduceEqDiff, Nat.reduceLT, Nat.reduceLeDiff, Nat.reduceBEq, reduceIte, reduceCtorEq, Int.reduceAdd, Int.reduceLT, Int.reduceLE, Int.reduceGT, Int.reduceGE, Int.reduceEq, Int.reduceNe, Int.reduceBEq, Int.reduceBNe, Int.reduceToNat, Int.reduceNeg]
  obtain ⟨i, hi⟩ := i
  try simp only [SfewM, mgObj, go_sem, Nat.reduceAdd, Nat.reduceMul, Nat.reduceSub, Nat.reduceEqDiff, Nat.reduceLT, Nat.reduceLeDiff, Nat.reduceBEq, reduceIte, reduceCtorEq, Int.reduceAdd, Int.reduceLT, Int.reduceLE, Int.reduceGT, Int.reduceGE, Int.reduceEq, Int.reduceNe, Int.reduceBEq, Int.reduceBNe, Int.reduceToNat, Int.reduceNeg]
  (repeat (with_reducible refine ob ?_)); refine iff_ _ (fun h => ?_) (fun h => ?_)
  · have hil : i < m.ents.length := by simpa using h
    simp only [getD_map encEn m.ents hil, encEn, go_sem, Nat.reduceAdd, Nat.reduceMul, Nat.reduceSub, Nat.reduceEqDiff, Nat.reduceLT, Nat.reduceLeDiff, Nat.reduceBEq, reduceIte, reduceCtorEq, Int.reduceAdd, Int.reduceLT, Int.reduceLE, Int.reduceGT, Int.reduceGE, Int.reduceEq, Int.reduceNe, Int.reduceBEq, Int.reduceBNe, Int.reduceToNat, Int.reduceNeg]
    (repeat (with_reducible refine ob ?_))
    try (refine ev ?_; try exact True.intro)
    (repeat (with_reducible refine ob ?_))
    refine iff_ _ (fun h2 => ?_) (fun h2 => ?_)
    · have hg : fewE m.ents[i] = false := by simp only [fewE, h2]; rfl
      try simp only [fewM, all_no hil hg, go_sem, Nat.reduceAdd, Nat.reduceMul, Nat.reduceSub, Nat.reduceEqDiff, Nat.reduceLT, Nat.reduceLeDiff, Nat.reduceBEq, reduceIte, reduceCtorEq, Int.reduceAdd, Int.reduceLT, Int.reduceLE, Int.reduceGT, Int.reduceGE, Int.reduceEq, Int.reduceNe, Int.reduceBEq, Int.reduceBNe, Int.reduceToNat, Int.reduceNeg]
    · have hg : fewE m.ents[i] = true := by simp only [fewE, h2]; rfl
      try (refine ev ?_; try exact True.intro)
      refine ⟨⟨i + 1, take_all_succ hi hil hg⟩, ?_, by dsimp only; omega⟩
      try simp only [SfewM, mgObj, wrap_succ (show i < 9223372036854775807 by unfold maxLen at hl; omega), go_sem, Nat.reduceAdd, Nat.reduceMul, Nat.reduceSub, Nat.reduceEqDiff, Nat.reduceLT, Nat.reduceLeDiff, Nat.reduceBEq, reduceIte, reduceCtorEq, Int.reduceAdd, Int.reduceLT, Int.reduceLE, Int.reduceGT, Int.reduceGE, Int.reduceEq, Int.reduceNe, Int.reduceBEq, Int.reduceBNe, Int.reduceToNat, Int.reduceNeg]
  · have hall : m.ents.all fewE = true := all_done hi (by simpa using h)
    try simp only [fewM, hall, go_sem, Nat.reduceAdd, Nat.reduceMul, Nat.reduceSub, Nat.reduceEqDiff, Nat.reduceLT, Nat.reduceLeDiff, Nat.reduceBEq, reduceIte, reduceCtorEq, Int.reduceAdd, Int.reduceLT, Int.reduceLE, Int.reduceGT, Int.reduceGE, Int.reduceEq, Int.reduceNe, Int.reduceBEq, Int.reduceBNe, Int.reduceToNat, Int.reduceNeg]

def Seq53 (a b : Mg) (i : { i : Nat // a.ents.take i = b.ents.take i }) : St :=
  ⟨[(2, true, .d (.ptr 0 0)), (3, true, .d (.ptr 1 0)), (4, true, .d (.bool false)), (5, true, .d (.int .i64 (i.val : Nat)))], [mgObj a, mgObj b], [], 1⟩
theorem bne_En (x y : En) : (x.sess != y.sess || x.phase != y.phase || !decide (x.moved = y.moved) || !decide (x.opened = y.opened)) = !decide (x = y) := by
  rw [← beq_En x y]
  simp only [Bool.not_and, bne]
set_option maxRecDepth 10000 in
theorem equal53_ok (a b : Mg) (ha : a.Sm) : ACall Try.prog 57 [.d (.agg (encMg a)), .d (.agg (encMg b))] [] (.d (.bool (decide (a = b)))) [] := by
  have hl := ha.1
  refine F57.go ?_
  try simp only [encMg, go_sem, Nat.reduceAdd, Nat.reduceMul, Nat.reduceSub, Nat.reduceEqDiff, Nat.reduceLT, Nat.reduceLeDiff, Nat.reduceBEq, reduceIte, reduceCtorEq, Int.reduceAdd, Int.reduceLT, Int.reduceLE, Int.reduceGT, Int.reduceGE, Int.reduceEq, Int.reduceNe, Int.reduceBEq, Int.reduceBNe, Int.reduceToNat, Int.reduceNeg]
  (repeat (with_reducible refine ob ?_))
  try (refine ev ?_; try exact True.intro)
  refine iff_ _ (fun h => ?_) (fun h => ?_)
  · have hne : decide (a = b) = false := by rw [decide_eq_false_iff_not]; rintro rfl; simp at h
    try simp only [hne, go_sem, Nat.reduceAdd, Nat.reduceMul, Nat.reduceSub, Nat.reduceEqDiff, Nat.reduceLT, Nat.reduceLeDiff, Nat.reduceBEq, reduceIte, reduceCtorEq, Int.reduceAdd, Int.reduceLT, Int.reduceLE, Int.reduceGT, Int.reduceGE, Int.reduceEq, Int.reduceNe, Int.reduceBEq, Int.reduceBNe, Int.reduceToNat, Int.reduceNeg]
  · have hr : a.roles = b.roles := by simp at h; omega
    have hlm : a.ents.length = b.ents.length := by simp at h; omega
    try (refine ev ?_; try exact True.intro)
    refine AWp_loop (Seq53 a b) (fun i => a.ents.length - i.val) ⟨0, rfl⟩ ?_ (fun i => ?_)
    · try simp only [Seq53, mgObj, go_sem, Nat.reduceAdd, Nat.reduceMul, Nat.reduceSub, Nat.reduceEqDiff, Nat.reduceLT, Nat.reduceLeDiff, Nat.reduceBEq, reduceIte, reduceCtorEq, Int.reduceAdd, Int.reduceLT, Int.reduceLE, Int.reduceGT, Int.reduceGE, Int.reduceEq, Int.reduceNe, Int.reduceBEq, Int.reduceBNe, Int.reduceToNat, Int.reduceNeg]
    · obtain ⟨i, hi⟩ := i
      try simp only [Seq53, mgObj, go_sem, Nat.reduceAdd, Nat.reduceMul, Nat.reduceSub, Nat.reduceEqDiff, Nat.reduceLT, Nat.reduceLeDiff, Nat.reduceBEq, reduceIte, reduceCtorEq, Int.reduceAdd, Int.reduceLT, Int.reduceLE, Int.reduceGT, Int.reduceGE, Int.reduceEq, Int.reduceNe, Int.reduceBEq, Int.reduceBNe, Int.reduceToNat, Int.reduceNeg]
      refine iff_ _ (fun h => ?_) (fun h => ?_)
      · have hil : i < a.ents.length := by simpa using h
        have him : i < b.ents.length := by omega
        have hx := ha.2 _ (List.getElem_mem hil)
        simp only [getD_map encEn a.ents hil, getD_map encEn b.ents him, encEn, go_sem, Nat.reduceAdd, Nat.reduceMul, Nat.reduceSub, Nat.reduceEqDiff, Nat.reduceLT, Nat.reduceLeDiff, Nat.reduceBEq, reduceIte, reduceCtorEq, Int.reduceAdd, Int.reduceLT, Int.reduceLE, Int.reduceGT, Int.reduceGE, Int.reduceEq, Int.reduceNe, Int.reduceBEq, Int.reduceBNe, Int.reduceToNat, Int.reduceNeg]
        (repeat (with_reducible refine ob ?_))
        try (refine ev ?_; try exact True.intro)
        (repeat (with_reducible refine ob ?_))
        (repeat (with_reducible refine ob ?_)); first | refine cl F92 (sameB_ok a.ents[i].moved b.ents[i].moved hx.1) ?_ | refine clF F92 (sameB_ok a.ents[i].moved b.ents[i].moved hx.1) (fun _ => by simp only [encEn, encMg, go_sem, Nat.reduceAdd, Nat.reduceMul, Nat.reduceSub, Nat.reduceEqDiff, Nat.reduceLT, Nat.reduceLeDiff, Nat.reduceBEq, reduceIte, reduceCtorEq, Int.reduceAdd, Int.reduceLT, Int.reduceLE, Int.reduceGT, Int.reduceGE, Int.reduceEq, Int.reduceNe, Int.reduceBEq, Int.reduceBNe, Int.reduceToNat, Int.reduceNeg]) ?_
        try (refine ev ?_; try exact True.intro)
        (repeat (with_reducible refine ob ?_))
        (repeat (with_reducible refine ob ?_)); first | refine cl F92 (sameB_ok a.ents[i].opened b.ents[i].opened hx.2) ?_ | refine clF F92 (sameB_ok a.ents[i].opened b.ents[i].opened hx.2) (fun _ => by simp only [encEn, encMg, go_sem, Nat.reduceAdd, Nat.reduceMul, Nat.reduceSub, Nat.reduceEqDiff, Nat.reduceLT, Nat.reduceLeDiff, Nat.reduceBEq, reduceIte, reduceCtorEq, Int.reduceAdd, Int.reduceLT, Int.reduceLE, Int.reduceGT, Int.reduceGE, Int.reduceEq, Int.reduceNe, Int.reduceBEq, Int.reduceBNe, Int.reduceToNat, Int.reduceNeg]) ?_
        try simp only [bne_En, go_sem, Nat.reduceAdd, Nat.reduceMul, Nat.reduceSub, Nat.reduceEqDiff, Nat.reduceLT, Nat.reduceLeDiff, Nat.reduceBEq, reduceIte, reduceCtorEq, Int.reduceAdd, Int.reduceLT, Int.reduceLE, Int.reduceGT, Int.reduceGE, Int.reduceEq, Int.reduceNe, Int.reduceBEq, Int.reduceBNe, Int.reduceToNat, Int.reduceNeg]
        (repeat (with_reducible refine ob ?_))
        try simp only [bne_En, go_sem, Nat.reduceAdd, Nat.reduceMul, Nat.reduceSub, Nat.reduceEqDiff, Nat.reduceLT, Nat.reduceLeDiff, Nat.reduceBEq, reduceIte, reduceCtorEq, Int.reduceAdd, Int.reduceLT, Int.reduceLE, Int.reduceGT, Int.reduceGE, Int.reduceEq, Int.reduceNe, Int.reduceBEq, Int.reduceBNe, Int.reduceToNat, Int.reduceNeg]
        refine iff_ _ (fun h2 => ?_) (fun h2 => ?_)
        · have hne : a.ents[i] ≠ b.ents[i] := by simpa using h2
          have hne2 : decide (a = b) = false := by rw [decide_eq_false_iff_not]; rintro rfl; exact hne rfl
          try simp only [hne2, go_sem, Nat.reduceAdd, Nat.reduceMul, Nat.reduceSub, Nat.reduceEqDiff, Nat.reduceLT, Nat.reduceLeDiff, Nat.reduceBEq, reduceIte, reduceCtorEq, Int.reduceAdd, Int.reduceLT, Int.reduceLE, Int.reduceGT, Int.reduceGE, Int.reduceEq, Int.reduceNe, Int.reduceBEq, Int.reduceBNe, Int.reduceToNat, Int.reduceNeg]
        · have he : a.ents[i] = b.ents[i] := by simpa using h2
          try (refine ev ?_; try exact True.intro)
          refine ⟨⟨i + 1, take_eq_succ hi hil him he⟩, ?_, by dsimp only; omega⟩
          try simp only [Seq53, mgObj, wrap_succ (show i < 9223372036854775807 by omega), go_sem, Nat.reduceAdd, Nat.reduceMul, Nat.reduceSub, Nat.reduceEqDiff, Nat.reduceLT, Nat.reduceLeDiff, Nat.reduceBEq, reduceIte, reduceCtorEq, Int.reduceAdd, Int.reduceLT, Int.reduceLE, Int.reduceGT, Int.reduceGE, Int.reduceEq, Int.reduceNe, Int.reduceBEq, Int.reduceBNe, Int.reduceToNat, Int.reduceNeg]
      · have he : decide (a = b) = true := by
          have h1 := take_eq_done hi (by simpa using h) hlm
          rw [← beq_Mg, hr, h1]; simp
        try simp only [he, go_sem, Nat.reduceAdd, Nat.reduceMul, Nat.reduceSub, Nat.reduceEqDiff, Nat.reduceLT, Nat.reduceLeDiff, Nat.reduceBEq, reduceIte, reduceCtorEq, Int.reduceAdd, Int.reduceLT, Int.reduceLE, Int.reduceGT, Int.reduceGE, Int.reduceEq, Int.reduceNe, Int.reduceBEq, Int.reduceBNe, Int.reduceToNat, Int.reduceNeg]

theorem new53_ok (n : Int) : ACall Try.prog 56 [.d (.int .i64 n)] [] (.tup [.d (.agg (encMg (upNew n).1)), .d (.int .i64 (upNew n).2)]) [] := by
  refine F56.goT ?_
  try (refine ev ?_; try exact True.intro)
  (repeat (with_reducible refine ob ?_)); refine iff_ _ (fun h => ?_) (fun h => ?_)
  · try simp only [upNew, h, encMg, List.map_nil, go_sem, Nat.reduceAdd, Nat.reduceMul, Nat.reduceSub, Nat.reduceEqDiff, Nat.reduceLT, Nat.reduceLeDiff, Nat.reduceBEq, reduceIte, reduceCtorEq, Int.reduceAdd, Int.reduceLT, Int.reduceLE, Int.reduceGT, Int.reduceGE, Int.reduceEq, Int.reduceNe, Int.reduceBEq, Int.reduceBNe, Int.reduceToNat, Int.reduceNeg]
  · try simp only [upNew, h, encMg, List.map_nil, go_sem, Nat.reduceAdd, Nat.reduceMul, Nat.reduceSub, Nat.reduceEqDiff, Nat.reduceLT, Nat.reduceLeDiff, Nat.reduceBEq, reduceIte, reduceCtorEq, Int.reduceAdd, Int.reduceLT, Int.reduceLE, Int.reduceGT, Int.reduceGE, Int.reduceEq, Int.reduceNe, Int.reduceBEq, Int.reduceBNe, Int.reduceToNat, Int.reduceNeg]
end Go.Proofs.Ythcpckcgjplhiaa

/- Orders: the program's and the reference's. -/
namespace Go.Proofs.Ythcpckcgjplhiaa
open Go.Abs
set_option linter.unusedSimpArgs false

section
variable {P : Program} {k0 o : Nat} {p : List (Nat × Nat)} {Q : SExit → St → Prop} {st : St}
noncomputable def s43r0 : List SOper := [
  ⟨some 1, .box 1 (.t 0), none⟩,
  ⟨some 2, .mov (.k (.d .nilsl)), none⟩]
noncomputable def s43r1 : List SOper := [
  ⟨some 10, .load (some 2) (.t 1), none⟩,
  ⟨some 11, .call (.k (.d (.func (.func 59) [] []))) [(.t 10)], none⟩,
  ⟨some 12, .not (.t 11), none⟩]
noncomputable def s43r2 : List SOper := [
  ⟨some 2, .mov (.k (.d .nilsl)), none⟩]
noncomputable def s43r3 : List SOper := [
  ⟨some 3, .mov (.k (.d .nilsl)), none⟩]
noncomputable def s43r4 : List SOper := [
  ⟨some 13, .faddr 1 (.t 1), none⟩,
  ⟨some 14, .load none (.t 13), none⟩,
  ⟨some 15, .len (.t 14), none⟩,
  ⟨some 16, .mov (.k (.d (.int .i64 0))), none⟩]
noncomputable def s43r5 : List SOper := [
  ⟨some 17, .bin .lss (.t 16) (.t 15), none⟩]
noncomputable def s43r6 : List SOper := [
  ⟨some 18, .iaddr 4 (.t 14) (.t 16), none⟩,
  ⟨some 19, .load (some 4) (.t 18), none⟩,
  ⟨some 5, .alloc 1 [(.d (.int .i64 0)), (.d (.int .i64 0)), (.d .nilsl), (.d .nilsl)], none⟩,
  ⟨none, .store (some 4) (.t 5) (.t 19), none⟩]
noncomputable def s43r7 : List SOper := [
  ⟨some 20, .faddr 2 (.t 5), none⟩,
  ⟨some 21, .load none (.t 20), none⟩,
  ⟨some 6, .mov (.t 21), none⟩,
  ⟨some 7, .mov (.k (.d (.int .i64 1))), none⟩]
noncomputable def s43r8 : List SOper := [
  ⟨some 22, .faddr 1 (.t 5), none⟩,
  ⟨some 23, .load none (.t 22), none⟩,
  ⟨some 24, .bin .neq (.t 23) (.k (.d (.int .i64 1))), none⟩]
noncomputable def s43r9 : List SOper := [
  ⟨some 25, .faddr 3 (.t 5), none⟩,
  ⟨some 26, .load none (.t 25), none⟩,
  ⟨some 6, .mov (.t 26), none⟩,
  ⟨some 7, .mov (.k (.d (.int .i64 2))), none⟩]
noncomputable def s43r10 : List SOper := [
  ⟨some 27, .mov (.t 6), none⟩,
  ⟨some 28, .len (.t 27), none⟩,
  ⟨some 29, .mov (.k (.d (.int .i64 0))), none⟩]
noncomputable def s43r11 : List SOper := [
  ⟨some 30, .bin .lss (.t 29) (.t 28), none⟩]
noncomputable def s43r12 : List SOper := [
  ⟨some 31, .mov (.t 29), none⟩,
  ⟨some 32, .iaddr 1 (.t 27) (.t 29), none⟩,
  ⟨some 33, .load none (.t 32), none⟩,
  ⟨some 8, .mov (.t 31), none⟩,
  ⟨some 9, .mov (.t 33), none⟩]
noncomputable def s43r13 : List SOper := [
  ⟨some 34, .mov (.t 9), none⟩,
  ⟨some 35, .not (.t 34), none⟩]
noncomputable def s43r14 : List SOper := [
  ⟨some 36, .mov (.t 3), none⟩,
  ⟨some 37, .faddr 0 (.t 5), none⟩,
  ⟨some 38, .load none (.t 37), none⟩,
  ⟨some 39, .mov (.t 8), none⟩,
  ⟨some 40, .mov (.t 7), none⟩,
  ⟨some 41, .build [(.int .i64 0), (.int .i64 0), (.int .i64 0), (.int .i64 0), (.int .i64 0), (.int .i64 0), (.int .i64 0), .nilsl, .nilsl] [(0, 1, (.k (.d (.int .i64 3)))), (1, 1, (.t 38)), (3, 1, (.t 39)), (6, 1, (.t 40))], none⟩,
  ⟨some 42, .buildSlice false 9 1 [(.int .i64 0), (.int .i64 0), (.int .i64 0), (.int .i64 0), (.int .i64 0), (.int .i64 0), (.int .i64 0), .nilsl, .nilsl] [(0, 9, (.t 41))], none⟩,
  ⟨some 43, .append false 9 104 (.t 36) (.t 42), none⟩,
  ⟨some 3, .mov (.t 43), none⟩]
noncomputable def s43r15 : List SOper := [
  ⟨some 44, .bin .add (.t 29) (.k (.d (.int .i64 1))), none⟩,
  ⟨some 29, .mov (.t 44), none⟩]
noncomputable def s43l16 : SCode := (.seq (.region s43r11 0 []) (.seq (.cond (.t 30) .skip (.exit 2)) (.seq (.block 3 (.seq (.region s43r12 0 []) (.seq (.region s43r13 0 []) (.cond (.t 35) (.region s43r14 0 []) .skip)))) (.region s43r15 0 []))))
theorem e43l16 : AWp P k0 s43l16 Q st = AWp P k0 (.seq (.region s43r11 0 []) (.seq (.cond (.t 30) .skip (.exit 2)) (.seq (.block 3 (.seq (.region s43r12 0 []) (.seq (.region s43r13 0 []) (.cond (.t 35) (.region s43r14 0 []) .skip)))) (.region s43r15 0 [])))) Q st := rfl
noncomputable def s43r17 : List SOper := [
  ⟨some 45, .bin .add (.t 16) (.k (.d (.int .i64 1))), none⟩,
  ⟨some 16, .mov (.t 45), none⟩]
noncomputable def s43l18 : SCode := (.seq (.region s43r5 0 []) (.seq (.cond (.t 17) .skip (.exit 0)) (.seq (.block 1 (.seq (.region s43r6 1 []) (.seq (.region s43r7 0 []) (.seq (.seq (.region s43r8 0 []) (.cond (.t 24) (.region s43r9 0 []) .skip)) (.seq (.region s43r10 0 []) (.block 2 (.loop s43l16))))))) (.region s43r17 0 []))))
theorem e43l18 : AWp P k0 s43l18 Q st = AWp P k0 (.seq (.region s43r5 0 []) (.seq (.cond (.t 17) .skip (.exit 0)) (.seq (.block 1 (.seq (.region s43r6 1 []) (.seq (.region s43r7 0 []) (.seq (.seq (.region s43r8 0 []) (.cond (.t 24) (.region s43r9 0 []) .skip)) (.seq (.region s43r10 0 []) (.block 2 (.loop s43l16))))))) (.region s43r17 0 [])))) Q st := rfl
noncomputable def s43r19 : List SOper := [
  ⟨some 46, .mov (.t 3), none⟩,
  ⟨some 2, .mov (.t 46), none⟩]
noncomputable def s43 : SCode := (.seq (.region s43r0 1 []) (.seq (.seq (.region s43r1 0 []) (.cond (.t 12) (.seq (.region s43r2 0 []) .ret) .skip)) (.seq (.region s43r3 0 []) (.seq (.seq (.region s43r4 0 []) (.block 0 (.loop s43l18))) (.seq (.region s43r19 0 []) .ret)))))
theorem e43 : AWp P k0 s43 Q st = AWp P k0 (.seq (.region s43r0 1 []) (.seq (.seq (.region s43r1 0 []) (.cond (.t 12) (.seq (.region s43r2 0 []) .ret) .skip)) (.seq (.region s43r3 0 []) (.seq (.seq (.region s43r4 0 []) (.block 0 (.loop s43l18))) (.seq (.region s43r19 0 []) .ret))))) Q st := rfl
theorem u43r0 : goReg P s43r0 o p Q st = goLit P (litOf s43r0.eq_1) o p Q st := goReg_of _
theorem u43r1 : goReg P s43r1 o p Q st = goLit P (litOf s43r1.eq_1) o p Q st := goReg_of _
theorem u43r2 : goReg P s43r2 o p Q st = goLit P (litOf s43r2.eq_1) o p Q st := goReg_of _
theorem u43r3 : goReg P s43r3 o p Q st = goLit P (litOf s43r3.eq_1) o p Q st := goReg_of _
theorem u43r4 : goReg P s43r4 o p Q st = goLit P (litOf s43r4.eq_1) o p Q st := goReg_of _
theorem u43r5 : goReg P s43r5 o p Q st = goLit P (litOf s43r5.eq_1) o p Q st := goReg_of _
theorem u43r6 : goReg P s43r6 o p Q st = goLit P (litOf s43r6.eq_1) o p Q st := goReg_of _
theorem u43r7 : goReg P s43r7 o p Q st = goLit P (litOf s43r7.eq_1) o p Q st := goReg_of _
theorem u43r8 : goReg P s43r8 o p Q st = goLit P (litOf s43r8.eq_1) o p Q st := goReg_of _
theorem u43r9 : goReg P s43r9 o p Q st = goLit P (litOf s43r9.eq_1) o p Q st := goReg_of _
theorem u43r10 : goReg P s43r10 o p Q st = goLit P (litOf s43r10.eq_1) o p Q st := goReg_of _
theorem u43r11 : goReg P s43r11 o p Q st = goLit P (litOf s43r11.eq_1) o p Q st := goReg_of _
theorem u43r12 : goReg P s43r12 o p Q st = goLit P (litOf s43r12.eq_1) o p Q st := goReg_of _
theorem u43r13 : goReg P s43r13 o p Q st = goLit P (litOf s43r13.eq_1) o p Q st := goReg_of _
theorem u43r14 : goReg P s43r14 o p Q st = goLit P (litOf s43r14.eq_1) o p Q st := goReg_of _
theorem u43r15 : goReg P s43r15 o p Q st = goLit P (litOf s43r15.eq_1) o p Q st := goReg_of _
theorem u43r17 : goReg P s43r17 o p Q st = goLit P (litOf s43r17.eq_1) o p Q st := goReg_of _
theorem u43r19 : goReg P s43r19 o p Q st = goLit P (litOf s43r19.eq_1) o p Q st := goReg_of _
attribute [go_sem] u43r0 u43r1 u43r2 u43r3 u43r4 u43r5 u43r6 u43r7 u43r8 u43r9 u43r10 u43r11 u43r12 u43r13 u43r14 u43r15 e43l16 u43r17 e43l18 u43r19 e43
set_option maxRecDepth 100000 in
theorem F43 : FnIs Try.prog 43 Try.f43 [] news s43 [.tmp 2] 47 := ⟨follows, Try.func43, by kernel_rfl, by kernel_rfl, by kernel_rfl, by kernel_rfl⟩

noncomputable def s45r0 : List SOper := [
  ⟨some 1, .box 1 (.t 0), none⟩,
  ⟨some 2, .mov (.k (.d .nilsl)), none⟩]
noncomputable def s45r1 : List SOper := [
  ⟨some 7, .load (some 2) (.t 1), none⟩,
  ⟨some 8, .call (.k (.d (.func (.func 60) [] []))) [(.t 7)], none⟩,
  ⟨some 9, .not (.t 8), none⟩]
noncomputable def s45r2 : List SOper := [
  ⟨some 2, .mov (.k (.d .nilsl)), none⟩]
noncomputable def s45r3 : List SOper := [
  ⟨some 3, .mov (.k (.d .nilsl)), none⟩]
noncomputable def s45r4 : List SOper := [
  ⟨some 4, .mov (.k (.d (.int .i64 0))), none⟩]
noncomputable def s45r5 : List SOper := [
  ⟨some 10, .mov (.t 4), none⟩,
  ⟨some 11, .faddr 1 (.t 1), none⟩,
  ⟨some 12, .load none (.t 11), none⟩,
  ⟨some 13, .len (.t 12), none⟩,
  ⟨some 14, .bin .lss (.t 10) (.t 13), none⟩]
noncomputable def s45r6 : List SOper := [
  ⟨some 17, .faddr 1 (.t 1), none⟩,
  ⟨some 18, .load none (.t 17), none⟩,
  ⟨some 19, .mov (.t 4), none⟩,
  ⟨some 20, .iaddr 4 (.t 18) (.t 19), none⟩,
  ⟨some 21, .load (some 4) (.t 20), none⟩,
  ⟨some 5, .alloc 1 [(.d (.int .i64 0)), (.d (.int .i64 0)), (.d .nilsl), (.d .nilsl)], none⟩,
  ⟨none, .store (some 4) (.t 5) (.t 21), none⟩]
noncomputable def s45r7 : List SOper := [
  ⟨some 6, .mov (.k (.d (.int .i64 0))), none⟩]
noncomputable def s45r8 : List SOper := [
  ⟨some 22, .mov (.t 6), none⟩,
  ⟨some 23, .faddr 0 (.t 1), none⟩,
  ⟨some 24, .load none (.t 23), none⟩,
  ⟨some 25, .bin .lss (.t 22) (.t 24), none⟩]
noncomputable def s45r9 : List SOper := [
  ⟨some 28, .faddr 1 (.t 5), none⟩,
  ⟨some 29, .load none (.t 28), none⟩,
  ⟨some 30, .bin .eql (.t 29) (.k (.d (.int .i64 1))), none⟩,
  ⟨some 31, .mov (.t 30), none⟩,
  ⟨some 32, .faddr 2 (.t 5), some (31, true)⟩,
  ⟨some 33, .load none (.t 32), some (31, true)⟩,
  ⟨some 34, .mov (.t 6), some (31, true)⟩,
  ⟨some 35, .iaddr 1 (.t 33) (.t 34), some (31, true)⟩,
  ⟨some 36, .load none (.t 35), some (31, true)⟩,
  ⟨some 37, .not (.t 36), some (31, true)⟩,
  ⟨some 38, .pick (.t 31) (.t 37) (.k (.d (.bool false))), none⟩]
noncomputable def s45r10 : List SOper := [
  ⟨some 39, .mov (.t 3), none⟩,
  ⟨some 40, .faddr 0 (.t 5), none⟩,
  ⟨some 41, .load none (.t 40), none⟩,
  ⟨some 42, .mov (.t 6), none⟩,
  ⟨some 43, .build [(.int .i64 0), (.int .i64 0), (.int .i64 0), (.int .i64 0), (.int .i64 0), (.int .i64 0), (.int .i64 0), .nilsl, .nilsl] [(0, 1, (.k (.d (.int .i64 3)))), (1, 1, (.t 41)), (3, 1, (.t 42)), (6, 1, (.k (.d (.int .i64 1))))], none⟩,
  ⟨some 44, .buildSlice false 9 1 [(.int .i64 0), (.int .i64 0), (.int .i64 0), (.int .i64 0), (.int .i64 0), (.int .i64 0), (.int .i64 0), .nilsl, .nilsl] [(0, 9, (.t 43))], none⟩,
  ⟨some 45, .append false 9 104 (.t 39) (.t 44), none⟩,
  ⟨some 3, .mov (.t 45), none⟩]
noncomputable def s45r11 : List SOper := [
  ⟨some 46, .faddr 1 (.t 5), none⟩,
  ⟨some 47, .load none (.t 46), none⟩,
  ⟨some 48, .bin .eql (.t 47) (.k (.d (.int .i64 2))), none⟩,
  ⟨some 49, .mov (.t 48), none⟩,
  ⟨some 50, .faddr 3 (.t 5), some (49, true)⟩,
  ⟨some 51, .load none (.t 50), some (49, true)⟩,
  ⟨some 52, .mov (.t 6), some (49, true)⟩,
  ⟨some 53, .iaddr 1 (.t 51) (.t 52), some (49, true)⟩,
  ⟨some 54, .load none (.t 53), some (49, true)⟩,
  ⟨some 55, .not (.t 54), some (49, true)⟩,
  ⟨some 56, .pick (.t 49) (.t 55) (.k (.d (.bool false))), none⟩]
noncomputable def s45r12 : List SOper := [
  ⟨some 57, .mov (.t 3), none⟩,
  ⟨some 58, .faddr 0 (.t 5), none⟩,
  ⟨some 59, .load none (.t 58), none⟩,
  ⟨some 60, .mov (.t 6), none⟩,
  ⟨some 61, .build [(.int .i64 0), (.int .i64 0), (.int .i64 0), (.int .i64 0), (.int .i64 0), (.int .i64 0), (.int .i64 0), .nilsl, .nilsl] [(0, 1, (.k (.d (.int .i64 3)))), (1, 1, (.t 59)), (3, 1, (.t 60)), (6, 1, (.k (.d (.int .i64 2))))], none⟩,
  ⟨some 62, .buildSlice false 9 1 [(.int .i64 0), (.int .i64 0), (.int .i64 0), (.int .i64 0), (.int .i64 0), (.int .i64 0), (.int .i64 0), .nilsl, .nilsl] [(0, 9, (.t 61))], none⟩,
  ⟨some 63, .append false 9 104 (.t 57) (.t 62), none⟩,
  ⟨some 3, .mov (.t 63), none⟩]
noncomputable def s45r13 : List SOper := [
  ⟨some 26, .mov (.t 6), none⟩,
  ⟨some 27, .bin .add (.t 26) (.k (.d (.int .i64 1))), none⟩,
  ⟨some 6, .mov (.t 27), none⟩]
noncomputable def s45l14 : SCode := (.seq (.seq (.region s45r8 0 []) (.cond (.t 25) .skip (.exit 2))) (.seq (.block 3 (.seq (.seq (.region s45r9 0 []) (.cond (.t 38) (.region s45r10 0 []) .skip)) (.seq (.region s45r11 0 []) (.cond (.t 56) (.region s45r12 0 []) .skip)))) (.region s45r13 0 [])))
theorem e45l14 : AWp P k0 s45l14 Q st = AWp P k0 (.seq (.seq (.region s45r8 0 []) (.cond (.t 25) .skip (.exit 2))) (.seq (.block 3 (.seq (.seq (.region s45r9 0 []) (.cond (.t 38) (.region s45r10 0 []) .skip)) (.seq (.region s45r11 0 []) (.cond (.t 56) (.region s45r12 0 []) .skip)))) (.region s45r13 0 []))) Q st := rfl
noncomputable def s45r15 : List SOper := [
  ⟨some 15, .mov (.t 4), none⟩,
  ⟨some 16, .bin .add (.t 15) (.k (.d (.int .i64 1))), none⟩,
  ⟨some 4, .mov (.t 16), none⟩]
noncomputable def s45l16 : SCode := (.seq (.seq (.region s45r5 0 []) (.cond (.t 14) .skip (.exit 0))) (.seq (.block 1 (.seq (.region s45r6 1 []) (.seq (.region s45r7 0 []) (.block 2 (.loop s45l14))))) (.region s45r15 0 [])))
theorem e45l16 : AWp P k0 s45l16 Q st = AWp P k0 (.seq (.seq (.region s45r5 0 []) (.cond (.t 14) .skip (.exit 0))) (.seq (.block 1 (.seq (.region s45r6 1 []) (.seq (.region s45r7 0 []) (.block 2 (.loop s45l14))))) (.region s45r15 0 []))) Q st := rfl
noncomputable def s45r17 : List SOper := [
  ⟨some 64, .mov (.t 3), none⟩,
  ⟨some 2, .mov (.t 64), none⟩]
noncomputable def s45 : SCode := (.seq (.region s45r0 1 []) (.seq (.seq (.region s45r1 0 []) (.cond (.t 9) (.seq (.region s45r2 0 []) .ret) .skip)) (.seq (.region s45r3 0 []) (.seq (.seq (.region s45r4 0 []) (.block 0 (.loop s45l16))) (.seq (.region s45r17 0 []) .ret)))))
theorem e45 : AWp P k0 s45 Q st = AWp P k0 (.seq (.region s45r0 1 []) (.seq (.seq (.region s45r1 0 []) (.cond (.t 9) (.seq (.region s45r2 0 []) .ret) .skip)) (.seq (.region s45r3 0 []) (.seq (.seq (.region s45r4 0 []) (.block 0 (.loop s45l16))) (.seq (.region s45r17 0 []) .ret))))) Q st := rfl
theorem u45r0 : goReg P s45r0 o p Q st = goLit P (litOf s45r0.eq_1) o p Q st := goReg_of _
theorem u45r1 : goReg P s45r1 o p Q st = goLit P (litOf s45r1.eq_1) o p Q st := goReg_of _
theorem u45r2 : goReg P s45r2 o p Q st = goLit P (litOf s45r2.eq_1) o p Q st := goReg_of _
theorem u45r3 : goReg P s45r3 o p Q st = goLit P (litOf s45r3.eq_1) o p Q st := goReg_of _
theorem u45r4 : goReg P s45r4 o p Q st = goLit P (litOf s45r4.eq_1) o p Q st := goReg_of _
theorem u45r5 : goReg P s45r5 o p Q st = goLit P (litOf s45r5.eq_1) o p Q st := goReg_of _
theorem u45r6 : goReg P s45r6 o p Q st = goLit P (litOf s45r6.eq_1) o p Q st := goReg_of _
theorem u45r7 : goReg P s45r7 o p Q st = goLit P (litOf s45r7.eq_1) o p Q st := goReg_of _
theorem u45r8 : goReg P s45r8 o p Q st = goLit P (litOf s45r8.eq_1) o p Q st := goReg_of _
theorem u45r9 : goReg P s45r9 o p Q st = goLit P (litOf s45r9.eq_1) o p Q st := goReg_of _
theorem u45r10 : goReg P s45r10 o p Q st = goLit P (litOf s45r10.eq_1) o p Q st := goReg_of _
theorem u45r11 : goReg P s45r11 o p Q st = goLit P (litOf s45r11.eq_1) o p Q st := goReg_of _
theorem u45r12 : goReg P s45r12 o p Q st = goLit P (litOf s45r12.eq_1) o p Q st := goReg_of _
theorem u45r13 : goReg P s45r13 o p Q st = goLit P (litOf s45r13.eq_1) o p Q st := goReg_of _
theorem u45r15 : goReg P s45r15 o p Q st = goLit P (litOf s45r15.eq_1) o p Q st := goReg_of _
theorem u45r17 : goReg P s45r17 o p Q st = goLit P (litOf s45r17.eq_1) o p Q st := goReg_of _
attribute [go_sem] u45r0 u45r1 u45r2 u45r3 u45r4 u45r5 u45r6 u45r7 u45r8 u45r9 u45r10 u45r11 u45r12 u45r13 e45l14 u45r15 e45l16 u45r17 e45
set_option maxRecDepth 100000 in
theorem F45 : FnIs Try.prog 45 Try.f45 [] news s45 [.tmp 2] 65 := ⟨follows, Try.func45, by kernel_rfl, by kernel_rfl, by kernel_rfl, by kernel_rfl⟩

noncomputable def s44r0 : List SOper := [
  ⟨some 1, .box 2 (.t 0), none⟩,
  ⟨some 2, .alloc 1 [(.d (.int .i64 0)), (.d .nilsl)], none⟩]
noncomputable def s44r1 : List SOper := [
  ⟨some 5, .faddr 0 (.t 1), none⟩,
  ⟨some 6, .load none (.t 5), none⟩,
  ⟨some 7, .build [(.int .i64 0), .nilsl] [(0, 1, (.t 6))], none⟩,
  ⟨some 3, .alloc 1 [(.d (.int .i64 0)), (.d .nilsl)], none⟩,
  ⟨none, .store (some 2) (.t 3) (.t 7), none⟩]
noncomputable def s44r2 : List SOper := [
  ⟨some 4, .mov (.k (.d (.int .i64 0))), none⟩]
noncomputable def s44r3 : List SOper := [
  ⟨some 8, .mov (.t 4), none⟩,
  ⟨some 9, .faddr 1 (.t 1), none⟩,
  ⟨some 10, .load none (.t 9), none⟩,
  ⟨some 11, .len (.t 10), none⟩,
  ⟨some 12, .bin .lss (.t 8) (.t 11), none⟩]
noncomputable def s44r4 : List SOper := [
  ⟨some 15, .faddr 1 (.t 3), none⟩,
  ⟨some 16, .load none (.t 15), none⟩,
  ⟨some 17, .faddr 1 (.t 1), none⟩,
  ⟨some 18, .load none (.t 17), none⟩,
  ⟨some 19, .mov (.t 4), none⟩,
  ⟨some 20, .iaddr 4 (.t 18) (.t 19), none⟩,
  ⟨some 21, .load (some 4) (.t 20), none⟩,
  ⟨some 22, .buildSlice false 4 1 [(.int .i64 0), (.int .i64 0), .nilsl, .nilsl] [(0, 4, (.t 21))], none⟩,
  ⟨some 23, .append false 4 64 (.t 16) (.t 22), none⟩,
  ⟨some 24, .faddr 1 (.t 3), none⟩,
  ⟨none, .store none (.t 24) (.t 23), none⟩]
noncomputable def s44r5 : List SOper := [
  ⟨some 13, .mov (.t 4), none⟩,
  ⟨some 14, .bin .add (.t 13) (.k (.d (.int .i64 1))), none⟩,
  ⟨some 4, .mov (.t 14), none⟩]
noncomputable def s44l6 : SCode := (.seq (.seq (.region s44r3 0 []) (.cond (.t 12) .skip (.exit 0))) (.seq (.block 1 (.region s44r4 0 [])) (.region s44r5 0 [])))
theorem e44l6 : AWp P k0 s44l6 Q st = AWp P k0 (.seq (.seq (.region s44r3 0 []) (.cond (.t 12) .skip (.exit 0))) (.seq (.block 1 (.region s44r4 0 [])) (.region s44r5 0 []))) Q st := rfl
noncomputable def s44r7 : List SOper := [
  ⟨some 25, .load (some 2) (.t 3), none⟩,
  ⟨none, .store (some 2) (.t 2) (.t 25), none⟩]
noncomputable def s44 : SCode := (.seq (.region s44r0 2 []) (.seq (.region s44r1 1 []) (.seq (.seq (.region s44r2 0 []) (.block 0 (.loop s44l6))) (.seq (.region s44r7 0 []) .ret))))
theorem e44 : AWp P k0 s44 Q st = AWp P k0 (.seq (.region s44r0 2 []) (.seq (.region s44r1 1 []) (.seq (.seq (.region s44r2 0 []) (.block 0 (.loop s44l6))) (.seq (.region s44r7 0 []) .ret)))) Q st := rfl
theorem u44r0 : goReg P s44r0 o p Q st = goLit P (litOf s44r0.eq_1) o p Q st := goReg_of _
theorem u44r1 : goReg P s44r1 o p Q st = goLit P (litOf s44r1.eq_1) o p Q st := goReg_of _
theorem u44r2 : goReg P s44r2 o p Q st = goLit P (litOf s44r2.eq_1) o p Q st := goReg_of _
theorem u44r3 : goReg P s44r3 o p Q st = goLit P (litOf s44r3.eq_1) o p Q st := goReg_of _
theorem u44r4 : goReg P s44r4 o p Q st = goLit P (litOf s44r4.eq_1) o p Q st := goReg_of _
theorem u44r5 : goReg P s44r5 o p Q st = goLit P (litOf s44r5.eq_1) o p Q st := goReg_of _
theorem u44r7 : goReg P s44r7 o p Q st = goLit P (litOf s44r7.eq_1) o p Q st := goReg_of _
attribute [go_sem] u44r0 u44r1 u44r2 u44r3 u44r4 u44r5 e44l6 u44r7 e44
set_option maxRecDepth 100000 in
theorem F44 : FnIs Try.prog 44 Try.f44 [] news s44 [.cell 2 (some 2)] 26 := ⟨follows, Try.func44, by kernel_rfl, by kernel_rfl, by kernel_rfl, by kernel_rfl⟩

noncomputable def s58r0 : List SOper := [
  ⟨some 1, .box 2 (.t 0), none⟩,
  ⟨some 2, .alloc 1 [(.d (.int .i64 0)), (.d .nilsl)], none⟩]
noncomputable def s58r1 : List SOper := [
  ⟨some 5, .faddr 0 (.t 1), none⟩,
  ⟨some 6, .load none (.t 5), none⟩,
  ⟨some 7, .build [(.int .i64 0), .nilsl] [(0, 1, (.t 6))], none⟩,
  ⟨some 3, .alloc 1 [(.d (.int .i64 0)), (.d .nilsl)], none⟩,
  ⟨none, .store (some 2) (.t 3) (.t 7), none⟩]
noncomputable def s58r2 : List SOper := [
  ⟨some 4, .mov (.k (.d (.int .i64 0))), none⟩]
noncomputable def s58r3 : List SOper := [
  ⟨some 8, .mov (.t 4), none⟩,
  ⟨some 9, .faddr 1 (.t 1), none⟩,
  ⟨some 10, .load none (.t 9), none⟩,
  ⟨some 11, .len (.t 10), none⟩,
  ⟨some 12, .bin .lss (.t 8) (.t 11), none⟩]
noncomputable def s58r4 : List SOper := [
  ⟨some 15, .faddr 1 (.t 3), none⟩,
  ⟨some 16, .load none (.t 15), none⟩,
  ⟨some 17, .faddr 1 (.t 1), none⟩,
  ⟨some 18, .load none (.t 17), none⟩,
  ⟨some 19, .mov (.t 4), none⟩,
  ⟨some 20, .iaddr 4 (.t 18) (.t 19), none⟩,
  ⟨some 21, .load (some 4) (.t 20), none⟩,
  ⟨some 22, .buildSlice false 4 1 [(.int .i64 0), (.int .i64 0), .nilsl, .nilsl] [(0, 4, (.t 21))], none⟩,
  ⟨some 23, .append false 4 64 (.t 16) (.t 22), none⟩,
  ⟨some 24, .faddr 1 (.t 3), none⟩,
  ⟨none, .store none (.t 24) (.t 23), none⟩]
noncomputable def s58r5 : List SOper := [
  ⟨some 13, .mov (.t 4), none⟩,
  ⟨some 14, .bin .add (.t 13) (.k (.d (.int .i64 1))), none⟩,
  ⟨some 4, .mov (.t 14), none⟩]
noncomputable def s58l6 : SCode := (.seq (.seq (.region s58r3 0 []) (.cond (.t 12) .skip (.exit 0))) (.seq (.block 1 (.region s58r4 0 [])) (.region s58r5 0 [])))
theorem e58l6 : AWp P k0 s58l6 Q st = AWp P k0 (.seq (.seq (.region s58r3 0 []) (.cond (.t 12) .skip (.exit 0))) (.seq (.block 1 (.region s58r4 0 [])) (.region s58r5 0 []))) Q st := rfl
noncomputable def s58r7 : List SOper := [
  ⟨some 25, .load (some 2) (.t 3), none⟩,
  ⟨none, .store (some 2) (.t 2) (.t 25), none⟩]
noncomputable def s58 : SCode := (.seq (.region s58r0 2 []) (.seq (.region s58r1 1 []) (.seq (.seq (.region s58r2 0 []) (.block 0 (.loop s58l6))) (.seq (.region s58r7 0 []) .ret))))
theorem e58 : AWp P k0 s58 Q st = AWp P k0 (.seq (.region s58r0 2 []) (.seq (.region s58r1 1 []) (.seq (.seq (.region s58r2 0 []) (.block 0 (.loop s58l6))) (.seq (.region s58r7 0 []) .ret)))) Q st := rfl
theorem u58r0 : goReg P s58r0 o p Q st = goLit P (litOf s58r0.eq_1) o p Q st := goReg_of _
theorem u58r1 : goReg P s58r1 o p Q st = goLit P (litOf s58r1.eq_1) o p Q st := goReg_of _
theorem u58r2 : goReg P s58r2 o p Q st = goLit P (litOf s58r2.eq_1) o p Q st := goReg_of _
theorem u58r3 : goReg P s58r3 o p Q st = goLit P (litOf s58r3.eq_1) o p Q st := goReg_of _
theorem u58r4 : goReg P s58r4 o p Q st = goLit P (litOf s58r4.eq_1) o p Q st := goReg_of _
theorem u58r5 : goReg P s58r5 o p Q st = goLit P (litOf s58r5.eq_1) o p Q st := goReg_of _
theorem u58r7 : goReg P s58r7 o p Q st = goLit P (litOf s58r7.eq_1) o p Q st := goReg_of _
attribute [go_sem] u58r0 u58r1 u58r2 u58r3 u58r4 u58r5 e58l6 u58r7 e58
set_option maxRecDepth 100000 in
theorem F58 : FnIs Try.prog 58 Try.f58 [] news s58 [.cell 2 (some 2)] 26 := ⟨follows, Try.func58, by kernel_rfl, by kernel_rfl, by kernel_rfl, by kernel_rfl⟩

end

def ordPk (s r label : Int) : Pk := ⟨3, s, 0, r, 0, 0, label, [], []⟩
def ordAt (s label : Int) (marks : List Bool) (r : Nat) : List Pk := if marks.getD r true then [] else [ordPk s r label]
def ordTo (s label : Int) (marks : List Bool) (n : Nat) : List Pk := (List.range n).flatMap (ordAt s label marks)
def enMarks (x : En) : List Bool := if x.phase != 1 then x.opened else x.moved
def enLabel (x : En) : Int := if x.phase != 1 then 2 else 1
def enOrd (x : En) : List Pk := ordTo x.sess (enLabel x) (enMarks x) (enMarks x).length
def ordersTo (m : Mg) (n : Nat) : List Pk := (List.range n).flatMap fun i => enOrd (m.ents.getD i default)
def upOrders (m : Mg) : List Pk := if upValid m then ordersTo m m.ents.length else []

theorem ordersTo0 (m : Mg) : ordersTo m 0 = [] := rfl
theorem ordTo0 (s label : Int) (marks : List Bool) : ordTo s label marks 0 = [] := rfl
theorem ordTo_succ (s label : Int) (marks : List Bool) (n : Nat) : ordTo s label marks (n + 1) = ordTo s label marks n ++ ordAt s label marks n := by simp [ordTo, List.range_succ]
theorem ordersTo_succ (m : Mg) (n : Nat) : ordersTo m (n + 1) = ordersTo m n ++ enOrd (m.ents.getD n default) := by simp [ordersTo, List.range_succ]
theorem ordTo_len (s label : Int) (marks : List Bool) : ∀ n, (ordTo s label marks n).length ≤ n
  | 0 => by simp [ordTo]
  | n + 1 => by
    rw [ordTo_succ, List.length_append]
    have := ordTo_len s label marks n
    have : (ordAt s label marks n).length ≤ 1 := by unfold ordAt; split <;> simp
    omega
theorem enMarks_len (x : En) (hx : x.Sm) : (enMarks x).length ≤ 1000 := by unfold enMarks; split; exact hx.2; exact hx.1
theorem enOrd_len (x : En) (hx : x.Sm) : (enOrd x).length ≤ 1000 := Nat.le_trans (ordTo_len _ _ _ _) (enMarks_len x hx)
theorem ordersTo_len (m : Mg) (hm : m.Sm) : ∀ n, n ≤ m.ents.length → (ordersTo m n).length ≤ n * 1000
  | 0, _ => by simp [ordersTo]
  | n + 1, h => by
    have h1 : n < m.ents.length := h
    rw [ordersTo_succ, List.length_append, getD_lt h1]
    have := ordersTo_len m hm n (by omega)
    have := enOrd_len _ (hm.2 _ (List.getElem_mem h1))
    omega

def enObj (x : En) : AObj := .row [.d (.int .i64 x.sess), .d (.int .i64 x.phase), .d (.sl 1 (x.moved.map encB)), .d (.sl 1 (x.opened.map encB))]
def SordO (m : Mg) (i : { i : Nat // i ≤ m.ents.length }) : St :=
  ⟨[(2, true, .d .nilsl), (3, true, .own 0 9 ((ordersTo m i.val).map encPk)), (14, true, .d (.sl 4 (m.ents.map encEn))), (15, true, .d (.int .i64 m.ents.length)), (16, true, .d (.int .i64 (i.val : Nat)))], [mgObj m], [0], 1⟩
def SordI (m : Mg) (i : Nat) (x : En) (r : { r : Nat // r ≤ (enMarks x).length }) : St :=
  ⟨[(2, true, .d .nilsl), (3, true, .own 0 9 ((ordersTo m i ++ ordTo x.sess (enLabel x) (enMarks x) r.val).map encPk)), (5, true, .d (.ptr 1 0)), (7, true, .d (.int .i64 (enLabel x))), (14, true, .d (.sl 4 (m.ents.map encEn))), (15, true, .d (.int .i64 m.ents.length)), (16, true, .d (.int .i64 (i : Nat))),
    (27, true, .d (.sl 1 ((enMarks x).map encB))), (28, true, .d (.int .i64 (enMarks x).length)), (29, true, .d (.int .i64 (r.val : Nat)))], [mgObj m, enObj x], [0], 1⟩

theorem upOrdI (m : Mg) (hm : m.Sm) (i : Nat) (hi : i < m.ents.length) (x : En) (hx : x.Sm) (Q : SExit → St → Prop) (st : St) (h0 : Weak 0 st (SordI m i x ⟨0, Nat.zero_le _⟩))
    (hQ : ∀ b, Q .normal ⟨(30, true, .d (.bool b)) :: (SordI m i x ⟨(enMarks x).length, Nat.le_refl _⟩).fr, [mgObj m, enObj x], [0], 2⟩) : AWp Try.prog 0 (.block 2 (.loop s43l16)) Q st := by
  have hml := enMarks_len x hx
  have hol := ordersTo_len m hm i (by omega)
  have hl := hm.1
  try (refine ev ?_; try exact True.intro)
  refine AWp_loop (SordI m i x) (fun r => (enMarks x).length - r.val) ⟨0, Nat.zero_le _⟩ h0 (fun r => ?_)
  obtain ⟨r, hr⟩ := r
  try simp only [SordI, mgObj, enObj, go_sem, Nat.reduceAdd, Nat.reduceMul, Nat.reduceSub, Nat.reduceEqDiff, Nat.reduceLT, Nat.reduceLeDiff, Nat.reduceBEq, reduceIte, reduceCtorEq, Int.reduceAdd, Int.reduceLT, Int.reduceLE, Int.reduceGT, Int.reduceGE, Int.reduceEq, Int.reduceNe, Int.reduceBEq, Int.reduceBNe, Int.reduceToNat, Int.reduceNeg]
  (repeat (with_reducible refine ob ?_)); refine iff_ _ (fun h => ?_) (fun h => ?_)
  · have hil : r < (enMarks x).length := by simpa using h
    simp only [getD_map encB (enMarks x) hil, encB, go_sem, Nat.reduceAdd, Nat.reduceMul, Nat.reduceSub, Nat.reduceEqDiff, Nat.reduceLT, Nat.reduceLeDiff, Nat.reduceBEq, reduceIte, reduceCtorEq, Int.reduceAdd, Int.reduceLT, Int.reduceLE, Int.reduceGT, Int.reduceGE, Int.reduceEq, Int.reduceNe, Int.reduceBEq, Int.reduceBNe, Int.reduceToNat, Int.reduceNeg]
    (repeat (with_reducible refine ob ?_))
    refine iff_ _ (fun h2 => ?_) (fun h2 => ?_)
    · have hb : (enMarks x)[r] = false := by simpa using h2
      have ha : ordAt x.sess (enLabel x) (enMarks x) r = [ordPk x.sess r (enLabel x)] := by simp [ordAt, hil, hb]
      have hlt := ordTo_len x.sess (enLabel x) (enMarks x) r
      try (refine ev ?_; try exact True.intro)
      (repeat (with_reducible refine ob ?_))
      refine ⟨⟨r + 1, hil⟩, ?_, by dsimp only; omega⟩
      try simp only [SordI, mgObj, enObj, ordTo_succ, ha, ← List.append_assoc, List.map_append, List.map_cons, List.map_nil, ordPk, encPk, wrap_succ (show r < 9223372036854775807 by omega), go_sem, Nat.reduceAdd, Nat.reduceMul, Nat.reduceSub, Nat.reduceEqDiff, Nat.reduceLT, Nat.reduceLeDiff, Nat.reduceBEq, reduceIte, reduceCtorEq, Int.reduceAdd, Int.reduceLT, Int.reduceLE, Int.reduceGT, Int.reduceGE, Int.reduceEq, Int.reduceNe, Int.reduceBEq, Int.reduceBNe, Int.reduceToNat, Int.reduceNeg]
    · have hb : (enMarks x)[r] = true := by simpa using h2
      have ha : ordAt x.sess (enLabel x) (enMarks x) r = [] := by simp [ordAt, hil, hb]
      try (refine ev ?_; try exact True.intro)
      refine ⟨⟨r + 1, hil⟩, ?_, by dsimp only; omega⟩
      try simp only [SordI, mgObj, enObj, ordTo_succ, ha, List.append_nil, wrap_succ (show r < 9223372036854775807 by omega), go_sem, Nat.reduceAdd, Nat.reduceMul, Nat.reduceSub, Nat.reduceEqDiff, Nat.reduceLT, Nat.reduceLeDiff, Nat.reduceBEq, reduceIte, reduceCtorEq, Int.reduceAdd, Int.reduceLT, Int.reduceLE, Int.reduceGT, Int.reduceGE, Int.reduceEq, Int.reduceNe, Int.reduceBEq, Int.reduceBNe, Int.reduceToNat, Int.reduceNeg]
  · have hil : r = (enMarks x).length := by have : (enMarks x).length ≤ r := by simpa using h
                                            omega
    subst hil
    try (refine ev ?_; try exact True.intro)
    exact hQ _

set_option maxRecDepth 10000 in
theorem upOrders_ok (m : Mg) (hm : m.Sm) : ACall Try.prog 43 [.d (.agg (encMg m))] [] (.d (.sl 9 ((upOrders m).map encPk))) [] := by
  have hl := hm.1
  refine F43.go ?_
  try simp only [encMg, go_sem, Nat.reduceAdd, Nat.reduceMul, Nat.reduceSub, Nat.reduceEqDiff, Nat.reduceLT, Nat.reduceLeDiff, Nat.reduceBEq, reduceIte, reduceCtorEq, Int.reduceAdd, Int.reduceLT, Int.reduceLE, Int.reduceGT, Int.reduceGE, Int.reduceEq, Int.reduceNe, Int.reduceBEq, Int.reduceBNe, Int.reduceToNat, Int.reduceNeg]
  (repeat (with_reducible refine ob ?_)); first | refine cl F59 (upValid_ok m hm) ?_ | refine clF F59 (upValid_ok m hm) (fun _ => by simp only [encEn, encMg, encPk, go_sem, Nat.reduceAdd, Nat.reduceMul, Nat.reduceSub, Nat.reduceEqDiff, Nat.reduceLT, Nat.reduceLeDiff, Nat.reduceBEq, reduceIte, reduceCtorEq, Int.reduceAdd, Int.reduceLT, Int.reduceLE, Int.reduceGT, Int.reduceGE, Int.reduceEq, Int.reduceNe, Int.reduceBEq, Int.reduceBNe, Int.reduceToNat, Int.reduceNeg]) ?_
  try (refine ev ?_; try exact True.intro)
  refine iff_ _ (fun hv => ?_) (fun hv => ?_)
  · have hu : upOrders m = [] := by simp at hv; simp [upOrders, hv]
    try simp only [hu, List.map_nil, go_sem, Nat.reduceAdd, Nat.reduceMul, Nat.reduceSub, Nat.reduceEqDiff, Nat.reduceLT, Nat.reduceLeDiff, Nat.reduceBEq, reduceIte, reduceCtorEq, Int.reduceAdd, Int.reduceLT, Int.reduceLE, Int.reduceGT, Int.reduceGE, Int.reduceEq, Int.reduceNe, Int.reduceBEq, Int.reduceBNe, Int.reduceToNat, Int.reduceNeg]
  have hu : upOrders m = ordersTo m m.ents.length := by simp at hv; simp [upOrders, hv]
  rw [hu]
  try (refine ev ?_; try exact True.intro)
  refine AWp_loop (SordO m) (fun i => m.ents.length - i.val) ⟨0, Nat.zero_le _⟩ ?_ (fun i => ?_)
  · try simp only [SordO, mgObj, ordersTo0, List.map_nil, go_sem, Nat.reduceAdd, Nat.reduceMul, Nat.reduceSub, Nat.reduceEqDiff, Nat.reduceLT, Nat.reduceLeDiff, Nat.reduceBEq, reduceIte, reduceCtorEq, Int.reduceAdd, Int.reduceLT, Int.reduceLE, Int.reduceGT, Int.reduceGE, Int.reduceEq, Int.reduceNe, Int.reduceBEq, Int.reduceBNe, Int.reduceToNat, Int.reduceNeg]
  obtain ⟨i, hi⟩ := i
  try simp only [SordO, mgObj, go_sem, Nat.reduceAdd, Nat.reduceMul, Nat.reduceSub, Nat.reduceEqDiff, Nat.reduceLT, Nat.reduceLeDiff, Nat.reduceBEq, reduceIte, reduceCtorEq, Int.reduceAdd, Int.reduceLT, Int.reduceLE, Int.reduceGT, Int.reduceGE, Int.reduceEq, Int.reduceNe, Int.reduceBEq, Int.reduceBNe, Int.reduceToNat, Int.reduceNeg]
  (repeat (with_reducible refine ob ?_)); refine iff_ _ (fun h => ?_) (fun h => ?_)
  · have hil : i < m.ents.length := by simpa using h
    have hx := hm.2 _ (List.getElem_mem hil)
    simp only [getD_map encEn m.ents hil, encEn, go_sem, Nat.reduceAdd, Nat.reduceMul, Nat.reduceSub, Nat.reduceEqDiff, Nat.reduceLT, Nat.reduceLeDiff, Nat.reduceBEq, reduceIte, reduceCtorEq, Int.reduceAdd, Int.reduceLT, Int.reduceLE, Int.reduceGT, Int.reduceGE, Int.reduceEq, Int.reduceNe, Int.reduceBEq, Int.reduceBNe, Int.reduceToNat, Int.reduceNeg]
    (repeat (with_reducible refine ob ?_))
    refine iff_ _ (fun h2 => ?_) (fun h2 => ?_)
    · have e1 : enMarks m.ents[i] = m.ents[i].opened := by simp only [enMarks, h2, if_true]
      have e2 : enLabel m.ents[i] = 2 := by simp only [enLabel, h2, if_true]
      try (refine ev ?_; try exact True.intro)
      refine upOrdI m hm i hil m.ents[i] hx _ _ ?_ (fun b => ?_)
      · try simp only [SordI, mgObj, enObj, e1, e2, ordTo0, List.append_nil, go_sem, Nat.reduceAdd, Nat.reduceMul, Nat.reduceSub, Nat.reduceEqDiff, Nat.reduceLT, Nat.reduceLeDiff, Nat.reduceBEq, reduceIte, reduceCtorEq, Int.reduceAdd, Int.reduceLT, Int.reduceLE, Int.reduceGT, Int.reduceGE, Int.reduceEq, Int.reduceNe, Int.reduceBEq, Int.reduceBNe, Int.reduceToNat, Int.reduceNeg]
      · try simp only [SordI, mgObj, enObj, go_sem, Nat.reduceAdd, Nat.reduceMul, Nat.reduceSub, Nat.reduceEqDiff, Nat.reduceLT, Nat.reduceLeDiff, Nat.reduceBEq, reduceIte, reduceCtorEq, Int.reduceAdd, Int.reduceLT, Int.reduceLE, Int.reduceGT, Int.reduceGE, Int.reduceEq, Int.reduceNe, Int.reduceBEq, Int.reduceBNe, Int.reduceToNat, Int.reduceNeg]
        refine ⟨⟨i + 1, hil⟩, ?_, by dsimp only; omega⟩
        try simp only [SordO, mgObj, ordersTo_succ, getD_lt hil, enOrd, wrap_succ (show i < 9223372036854775807 by omega), go_sem, Nat.reduceAdd, Nat.reduceMul, Nat.reduceSub, Nat.reduceEqDiff, Nat.reduceLT, Nat.reduceLeDiff, Nat.reduceBEq, reduceIte, reduceCtorEq, Int.reduceAdd, Int.reduceLT, Int.reduceLE, Int.reduceGT, Int.reduceGE, Int.reduceEq, Int.reduceNe, Int.reduceBEq, Int.reduceBNe, Int.reduceToNat, Int.reduceNeg]
    · have e1 : enMarks m.ents[i] = m.ents[i].moved := by simp only [enMarks, h2]; rfl
      have e2 : enLabel m.ents[i] = 1 := by simp only [enLabel, h2]; rfl
      try (refine ev ?_; try exact True.intro)
      refine upOrdI m hm i hil m.ents[i] hx _ _ ?_ (fun b => ?_)
      · try simp only [SordI, mgObj, enObj, e1, e2, ordTo0, List.append_nil, go_sem, Nat.reduceAdd, Nat.reduceMul, Nat.reduceSub, Nat.reduceEqDiff, Nat.reduceLT, Nat.reduceLeDiff, Nat.reduceBEq, reduceIte, reduceCtorEq, Int.reduceAdd, Int.reduceLT, Int.reduceLE, Int.reduceGT, Int.reduceGE, Int.reduceEq, Int.reduceNe, Int.reduceBEq, Int.reduceBNe, Int.reduceToNat, Int.reduceNeg]
      · try simp only [SordI, mgObj, enObj, go_sem, Nat.reduceAdd, Nat.reduceMul, Nat.reduceSub, Nat.reduceEqDiff, Nat.reduceLT, Nat.reduceLeDiff, Nat.reduceBEq, reduceIte, reduceCtorEq, Int.reduceAdd, Int.reduceLT, Int.reduceLE, Int.reduceGT, Int.reduceGE, Int.reduceEq, Int.reduceNe, Int.reduceBEq, Int.reduceBNe, Int.reduceToNat, Int.reduceNeg]
        refine ⟨⟨i + 1, hil⟩, ?_, by dsimp only; omega⟩
        try simp only [SordO, mgObj, ordersTo_succ, getD_lt hil, enOrd, wrap_succ (show i < 9223372036854775807 by omega), go_sem, Nat.reduceAdd, Nat.reduceMul, Nat.reduceSub, Nat.reduceEqDiff, Nat.reduceLT, Nat.reduceLeDiff, Nat.reduceBEq, reduceIte, reduceCtorEq, Int.reduceAdd, Int.reduceLT, Int.reduceLE, Int.reduceGT, Int.reduceGE, Int.reduceEq, Int.reduceNe, Int.reduceBEq, Int.reduceBNe, Int.reduceToNat, Int.reduceNeg]
  · have hil : i = m.ents.length := by have : m.ents.length ≤ i := by simpa using h
                                       omega
    subst hil
    try (refine ev ?_; try exact True.intro)

def Sto53 (m : Mg) (i : { i : Nat // i ≤ m.ents.length }) : St :=
  ⟨[(1, true, .d (.ptr 0 0)), (2, true, .d (.ptr 1 0)), (3, true, .d (.ptr 2 0)), (4, true, .d (.int .i64 (i.val : Nat)))],
   [mgObj m, .row [.d (.int .i64 0), .d .nilsl], .row [.d (.int .i64 m.roles), .own 0 4 ((m.ents.take i.val).map encEn)]], [0], 1⟩

set_option maxRecDepth 10000 in
theorem to53_ok (m : Mg) (hm : m.ents.length ≤ 1000) : ACall Try.prog 44 [.d (.agg (encMg m))] [] (.d (.agg (encMg m))) [] := by
  refine F44.go ?_
  try simp only [encMg, go_sem, Nat.reduceAdd, Nat.reduceMul, Nat.reduceSub, Nat.reduceEqDiff, Nat.reduceLT, Nat.reduceLeDiff, Nat.reduceBEq, reduceIte, reduceCtorEq, Int.reduceAdd, Int.reduceLT, Int.reduceLE, Int.reduceGT, Int.reduceGE, Int.reduceEq, Int.reduceNe, Int.reduceBEq, Int.reduceBNe, Int.reduceToNat, Int.reduceNeg]
  refine AWp_loop (Sto53 m) (fun i => m.ents.length - i.val) ⟨0, Nat.zero_le _⟩ ?_ (fun i => ?_)
  · try simp only [Sto53, mgObj, go_sem, Nat.reduceAdd, Nat.reduceMul, Nat.reduceSub, Nat.reduceEqDiff, Nat.reduceLT, Nat.reduceLeDiff, Nat.reduceBEq, reduceIte, reduceCtorEq, Int.reduceAdd, Int.reduceLT, Int.reduceLE, Int.reduceGT, Int.reduceGE, Int.reduceEq, Int.reduceNe, Int.reduceBEq, Int.reduceBNe, Int.reduceToNat, Int.reduceNeg]
  obtain ⟨i, hi⟩ := i
  try simp only [Sto53, mgObj, go_sem, Nat.reduceAdd, Nat.reduceMul, Nat.reduceSub, Nat.reduceEqDiff, Nat.reduceLT, Nat.reduceLeDiff, Nat.reduceBEq, reduceIte, reduceCtorEq, Int.reduceAdd, Int.reduceLT, Int.reduceLE, Int.reduceGT, Int.reduceGE, Int.reduceEq, Int.reduceNe, Int.reduceBEq, Int.reduceBNe, Int.reduceToNat, Int.reduceNeg]
  (repeat (with_reducible refine ob ?_)); refine iff_ _ (fun h => ?_) (fun h => ?_)
  · have hil : i < m.ents.length := by simpa using h
    simp only [getD_map encEn m.ents hil, encEn, go_sem, Nat.reduceAdd, Nat.reduceMul, Nat.reduceSub, Nat.reduceEqDiff, Nat.reduceLT, Nat.reduceLeDiff, Nat.reduceBEq, reduceIte, reduceCtorEq, Int.reduceAdd, Int.reduceLT, Int.reduceLE, Int.reduceGT, Int.reduceGE, Int.reduceEq, Int.reduceNe, Int.reduceBEq, Int.reduceBNe, Int.reduceToNat, Int.reduceNeg]
    (repeat (with_reducible refine ob ?_))
    have hlt : (m.ents.take i).length ≤ 1000 := by simp; omega
    try (refine ev ?_; try exact True.intro)
    (repeat (with_reducible refine ob ?_))
    refine ⟨⟨i + 1, hil⟩, ?_, by dsimp only; omega⟩
    try simp only [Sto53, mgObj, map_take_succ encEn m.ents hil, encEn, wrap_succ (show i < 9223372036854775807 by omega), go_sem, Nat.reduceAdd, Nat.reduceMul, Nat.reduceSub, Nat.reduceEqDiff, Nat.reduceLT, Nat.reduceLeDiff, Nat.reduceBEq, reduceIte, reduceCtorEq, Int.reduceAdd, Int.reduceLT, Int.reduceLE, Int.reduceGT, Int.reduceGE, Int.reduceEq, Int.reduceNe, Int.reduceBEq, Int.reduceBNe, Int.reduceToNat, Int.reduceNeg]
  · have hil : i = m.ents.length := by have : m.ents.length ≤ i := by simpa using h
                                       omega
    subst hil
    try simp only [List.take_length, go_sem, Nat.reduceAdd, Nat.reduceMul, Nat.reduceSub, Nat.reduceEqDiff, Nat.reduceLT, Nat.reduceLeDiff, Nat.reduceBEq, reduceIte, reduceCtorEq, Int.reduceAdd, Int.reduceLT, Int.reduceLE, Int.reduceGT, Int.reduceGE, Int.reduceEq, Int.reduceNe, Int.reduceBEq, Int.reduceBNe, Int.reduceToNat, Int.reduceNeg]
set_option maxRecDepth 10000 in
theorem from53_ok (m : Mg) (hm : m.ents.length ≤ 1000) : ACall Try.prog 58 [.d (.agg (encMg m))] [] (.d (.agg (encMg m))) [] := by
  refine F58.go ?_
  try simp only [encMg, go_sem, Nat.reduceAdd, Nat.reduceMul, Nat.reduceSub, Nat.reduceEqDiff, Nat.reduceLT, Nat.reduceLeDiff, Nat.reduceBEq, reduceIte, reduceCtorEq, Int.reduceAdd, Int.reduceLT, Int.reduceLE, Int.reduceGT, Int.reduceGE, Int.reduceEq, Int.reduceNe, Int.reduceBEq, Int.reduceBNe, Int.reduceToNat, Int.reduceNeg]
  refine AWp_loop (Sto53 m) (fun i => m.ents.length - i.val) ⟨0, Nat.zero_le _⟩ ?_ (fun i => ?_)
  · try simp only [Sto53, mgObj, go_sem, Nat.reduceAdd, Nat.reduceMul, Nat.reduceSub, Nat.reduceEqDiff, Nat.reduceLT, Nat.reduceLeDiff, Nat.reduceBEq, reduceIte, reduceCtorEq, Int.reduceAdd, Int.reduceLT, Int.reduceLE, Int.reduceGT, Int.reduceGE, Int.reduceEq, Int.reduceNe, Int.reduceBEq, Int.reduceBNe, Int.reduceToNat, Int.reduceNeg]
  obtain ⟨i, hi⟩ := i
  try simp only [Sto53, mgObj, go_sem, Nat.reduceAdd, Nat.reduceMul, Nat.reduceSub, Nat.reduceEqDiff, Nat.reduceLT, Nat.reduceLeDiff, Nat.reduceBEq, reduceIte, reduceCtorEq, Int.reduceAdd, Int.reduceLT, Int.reduceLE, Int.reduceGT, Int.reduceGE, Int.reduceEq, Int.reduceNe, Int.reduceBEq, Int.reduceBNe, Int.reduceToNat, Int.reduceNeg]
  (repeat (with_reducible refine ob ?_)); refine iff_ _ (fun h => ?_) (fun h => ?_)
  · have hil : i < m.ents.length := by simpa using h
    simp only [getD_map encEn m.ents hil, encEn, go_sem, Nat.reduceAdd, Nat.reduceMul, Nat.reduceSub, Nat.reduceEqDiff, Nat.reduceLT, Nat.reduceLeDiff, Nat.reduceBEq, reduceIte, reduceCtorEq, Int.reduceAdd, Int.reduceLT, Int.reduceLE, Int.reduceGT, Int.reduceGE, Int.reduceEq, Int.reduceNe, Int.reduceBEq, Int.reduceBNe, Int.reduceToNat, Int.reduceNeg]
    (repeat (with_reducible refine ob ?_))
    have hlt : (m.ents.take i).length ≤ 1000 := by simp; omega
    try (refine ev ?_; try exact True.intro)
    (repeat (with_reducible refine ob ?_))
    refine ⟨⟨i + 1, hil⟩, ?_, by dsimp only; omega⟩
    try simp only [Sto53, mgObj, map_take_succ encEn m.ents hil, encEn, wrap_succ (show i < 9223372036854775807 by omega), go_sem, Nat.reduceAdd, Nat.reduceMul, Nat.reduceSub, Nat.reduceEqDiff, Nat.reduceLT, Nat.reduceLeDiff, Nat.reduceBEq, reduceIte, reduceCtorEq, Int.reduceAdd, Int.reduceLT, Int.reduceLE, Int.reduceGT, Int.reduceGE, Int.reduceEq, Int.reduceNe, Int.reduceBEq, Int.reduceBNe, Int.reduceToNat, Int.reduceNeg]
  · have hil : i = m.ents.length := by have : m.ents.length ≤ i := by simpa using h
                                       omega
    subst hil
    try simp only [List.take_length, go_sem, Nat.reduceAdd, Nat.reduceMul, Nat.reduceSub, Nat.reduceEqDiff, Nat.reduceLT, Nat.reduceLeDiff, Nat.reduceBEq, reduceIte, reduceCtorEq, Int.reduceAdd, Int.reduceLT, Int.reduceLE, Int.reduceGT, Int.reduceGE, Int.reduceEq, Int.reduceNe, Int.reduceBEq, Int.reduceBNe, Int.reduceToNat, Int.reduceNeg]
end Go.Proofs.Ythcpckcgjplhiaa

/- The shapes of the arguments of layer 51's statements. -/
namespace Go.Proofs.Ythcpckcgjplhiaa
open Go.Abs
set_option linter.unusedSimpArgs false
set_option maxRecDepth 100000

theorem rows_of {α : Type} {enc : α → List D} {Q : α → Prop} : ∀ {rows : List (List D)}, (∀ r ∈ rows, ∃ x, r = enc x ∧ Q x) → ∃ l : List α, rows = l.map enc ∧ ∀ x ∈ l, Q x
  | [], _ => ⟨[], rfl, by simp⟩
  | r :: rows, h => by
    obtain ⟨x, rfl, hx⟩ := h r (by simp)
    obtain ⟨l, rfl, hl⟩ := rows_of (enc := enc) (Q := Q) (rows := rows) (fun r hr => h r (by simp [hr]))
    exact ⟨x :: l, rfl, by simpa using ⟨hx, hl⟩⟩

/-- An int of 64 bits. -/
def I64 (n : Int) : Prop := -9223372036854775808 ≤ n ∧ n ≤ 9223372036854775807
theorem i64_wf {n : Int} (h : (Lit.int .i64 n).wf = true) : I64 n := by
  have h1 : IntKind.i64.min = -9223372036854775808 := by decide
  have h2 : IntKind.i64.max = 9223372036854775807 := by decide
  simp only [Lit.wf, Bool.and_eq_true, decide_eq_true_eq, h1, h2] at h
  exact h

theorem shpI {n : Nat} {ds : List D} (h : Shp Try.prog (n + 1) 3 ds) : ∃ x, ds = encI x ∧ I64 x := by
  simp only [Shp, Try.underlying3] at h
  obtain ⟨x, rfl, h⟩ := h
  exact ⟨x, rfl, i64_wf h⟩

theorem shpAV {n : Nat} {ds : List D} (h : Shp Try.prog (n + 2) 122 ds) : ∃ v : AV, ds = encAV v ∧ v.s.length ≤ maxLen := by
  simp only [Shp, Try.underlying122, ShpFs, Try.underlying3, Try.underlying9] at h
  obtain ⟨_, _, rfl, ⟨a, rfl, ha⟩, _, _, rfl, ⟨b, rfl, hb⟩, _, _, rfl, ⟨c, rfl, hc⟩, rfl⟩ := h
  exact ⟨⟨a, b, c⟩, rfl, hc⟩

theorem cells_AV : Try.prog.cellsOf 122 = 3 := by kernel_rfl
theorem cells_int : Try.prog.cellsOf 3 = 1 := by kernel_rfl
theorem cells_Pk46 : Try.prog.cellsOf 62 = 9 := by kernel_rfl

theorem shpPk46 {n : Nat} {ds : List D} (h : Shp Try.prog (n + 4) 62 ds) : ∃ p : Pk, ds = encPk p ∧ p.values.length ≤ maxLen := by
  rw [Shp] at h
  simp only [Try.underlying62, ShpFs] at h
  obtain ⟨_, _, rfl, h1, _, _, rfl, h2, _, _, rfl, h3, _, _, rfl, h4, _, _, rfl, h5, _, _, rfl, h6, _, _, rfl, h7, _, _, rfl, h8, _, _, rfl, h9, rfl⟩ := h
  obtain ⟨a1, rfl, _⟩ := shpI h1
  obtain ⟨a2, rfl, _⟩ := shpI h2
  obtain ⟨a3, rfl, _⟩ := shpI h3
  obtain ⟨a4, rfl, _⟩ := shpI h4
  obtain ⟨a5, rfl, _⟩ := shpI h5
  obtain ⟨a6, rfl, _⟩ := shpI h6
  obtain ⟨a7, rfl, _⟩ := shpI h7
  rw [Shp] at h8 h9
  simp only [Try.underlying53, Try.underlying54] at h8 h9
  obtain ⟨r8, rfl, l8, h8⟩ := h8
  obtain ⟨r9, rfl, l9, h9⟩ := h9
  obtain ⟨vs, rfl, _⟩ := rows_of fun r hr => shpAV (h8 r hr)
  obtain ⟨ns, rfl, _⟩ := rows_of fun r hr => shpI (h9 r hr)
  exact ⟨⟨a1, a2, a3, a4, a5, a6, a7, vs, ns⟩, by rw [cells_AV, cells_int]; rfl, by simpa using l8⟩

theorem shpQ51 {n : Nat} {ds : List D} (h : Shp Try.prog (n + 6) 35 ds) : ∃ q : Qu, ds = encQ q ∧ q.items.length ≤ maxLen ∧ ∀ p ∈ q.items, p.values.length ≤ maxLen := by
  rw [Shp] at h
  simp only [Try.underlying35, ShpFs] at h
  obtain ⟨_, _, rfl, h1, _, _, rfl, h2, _, _, rfl, h3, rfl⟩ := h
  obtain ⟨a1, rfl, _⟩ := shpI h1
  obtain ⟨a2, rfl, _⟩ := shpI h2
  rw [Shp] at h3
  simp only [Try.underlying33] at h3
  obtain ⟨r3, rfl, l3, h3⟩ := h3
  obtain ⟨ps, rfl, hp⟩ := rows_of fun r hr => shpPk46 (h3 r hr)
  exact ⟨⟨a1, a2, ps⟩, by rw [cells_Pk46]; rfl, by simpa using l3, hp⟩

theorem argQ51 (q : Qu) : argS Try.prog 35 (encQ q) = .d (.agg (encQ q)) := by simp only [argS, Try.underlying35]
theorem argPk46 (q : Pk) : argS Try.prog 62 (encPk q) = .d (.agg (encPk q)) := by simp only [argS, Try.underlying62]
theorem argI (n : Int) : argS Try.prog 3 (encI n) = .d (.int .i64 n) := by simp only [argS, Try.underlying3]; rfl
end Go.Proofs.Ythcpckcgjplhiaa

/- The shapes of the arguments of layer 53's statements. -/
namespace Go.Proofs.Ythcpckcgjplhiaa
open Go.Abs
set_option linter.unusedSimpArgs false
set_option maxRecDepth 100000

theorem shpB {n : Nat} {ds : List D} (h : Shp Try.prog (n + 1) 4 ds) : ∃ x, ds = encB x := by
  simp only [Shp, Try.underlying4] at h
  obtain ⟨x, rfl⟩ := h
  exact ⟨x, rfl⟩
theorem cells_bool : Try.prog.cellsOf 4 = 1 := by kernel_rfl
theorem cells_En53 : Try.prog.cellsOf 127 = 4 := by kernel_rfl

theorem shpEn53 {n : Nat} {ds : List D} (h : Shp Try.prog (n + 4) 127 ds) : ∃ x : En, ds = encEn x := by
  rw [Shp] at h
  simp only [Try.underlying127, ShpFs] at h
  obtain ⟨_, _, rfl, h1, _, _, rfl, h2, _, _, rfl, h3, _, _, rfl, h4, rfl⟩ := h
  obtain ⟨a1, rfl, _⟩ := shpI h1
  obtain ⟨a2, rfl, _⟩ := shpI h2
  rw [Shp] at h3 h4
  simp only [Try.underlying125] at h3 h4
  obtain ⟨r3, rfl, l3, h3⟩ := h3
  obtain ⟨r4, rfl, l4, h4⟩ := h4
  obtain ⟨ms, rfl, _⟩ := rows_of (Q := fun _ => True) fun r hr => (shpB (h3 r hr)).imp fun _ h => ⟨h, trivial⟩
  obtain ⟨os, rfl, _⟩ := rows_of (Q := fun _ => True) fun r hr => (shpB (h4 r hr)).imp fun _ h => ⟨h, trivial⟩
  exact ⟨⟨a1, a2, ms, os⟩, by rw [cells_bool]; rfl⟩

theorem shpM53 {n : Nat} {ds : List D} (h : Shp Try.prog (n + 6) 69 ds) : ∃ m : Mg, ds = encMg m ∧ m.ents.length ≤ maxLen := by
  rw [Shp] at h
  simp only [Try.underlying69, ShpFs] at h
  obtain ⟨_, _, rfl, h1, _, _, rfl, h2, rfl⟩ := h
  obtain ⟨a1, rfl, _⟩ := shpI h1
  rw [Shp] at h2
  simp only [Try.underlying67] at h2
  obtain ⟨r2, rfl, l2, h2⟩ := h2
  obtain ⟨es, rfl, _⟩ := rows_of (Q := fun _ => True) fun r hr => (shpEn53 (h2 r hr)).imp fun _ h => ⟨h, trivial⟩
  exact ⟨⟨a1, es⟩, by rw [cells_En53]; rfl, by simpa using l2⟩
theorem argM53 (m : Mg) : argS Try.prog 69 (encMg m) = .d (.agg (encMg m)) := by simp only [argS, Try.underlying69]
end Go.Proofs.Ythcpckcgjplhiaa
