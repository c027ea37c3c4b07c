/- Texts Vb, Vp, Vd, Vc, Ve, Vf, Vg, Vh, Cg, Ch, Ci, Cj, Vr, Vq, Ws, Vt. -/
import Derived.Test.YtinnaedmdoengaaGreatMpo
import Derived.Calls
import Derived.Orders
import Derived.Tactics
import Derived.Laws.AppendOwn
import Derived.Laws.Slices
import Derived.Laws.Closers25
import Derived.Laws.StructEq
import Derived.Laws.BytesString
import Derived.Laws.CopyRow
import Derived.MapKept
import Derived.Maps.RangeRun
import Derived.TacticsIn
import Derived.OrdersIn
import Derived.RangeFuncRecord
import Derived.RangeFuncLeaves
import Derived.IntWalk
import Derived.ProofKit
import Derived.OpenShut
import Derived.Carry
import Derived.Test.YtinnaedmdoengaaGreatProg
import Derived.KernelRfl
import Derived.OwnWalkIn
import Derived.TacticsInMore
import Derived.LoopIn
import Derived.WalkKit
import Derived.Lib.Strings
import Derived.Lib.Slices
import Derived.Lib.Walk
import Derived.Lib.Bytealg
import Derived.Shelf.SlSortCmp.WholeK
import Derived.Shelf.SlSortCmp.NoneTotal

namespace Go.Proofs.YtinnaedmdoengaaGreat
open Go.Abs
set_option linter.unusedSimpArgs false
set_option linter.unusedVariables false
def we {α : Type} (f : Rd → α × Rd) : Nat → Rd → List α × Rd
 | 0, r => ([], r)
 | n + 1, r => if r.failed = true then ([], r) else ((f r).1 :: (we f n (f r).2).1, (we f n (f r).2).2)
def qbo {α : Type} (most : Int) (f : Rd → α × Rd) (r : Rd) : List α × Rd := we f (qy 0 most r).1.toNat (qy 0 most r).2
def rAV (r : Rd) : AV × Rd :=
 if (qy 1 2 r).2.failed = true then (⟨(qy 1 2 r).1, 0, []⟩, (qy 1 2 r).2) else
 if (qy 1 2 r).1 = 1 then (⟨(qy 1 2 r).1, (rInt (qy 1 2 r).2).1, []⟩, (rInt (qy 1 2 r).2).2) else
 (⟨(qy 1 2 r).1, 0, (jr 40 (qy 1 2 r).2).1⟩, (jr 40 (qy 1 2 r).2).2)
def qcc (most : Int) := qak ([] : List Int) (qbo most rInt)
def qdi (most : Int) := qak ([] : List AV) (qbo most rAV)
theorem qqe {α : Type} {f : Rd → α × Rd} (hf : ∀ r : Rd, r.Ok → (f r).2.Ok ∧ (f r).2.b = r.b) : ∀ (n : Nat) {r : Rd}, r.Ok → (we f n r).2.Ok ∧ (we f n r).2.b = r.b
 | 0, r, h => ⟨h, rfl⟩
 | n + 1, r, h => by
  rw [we]
  split
  ·exact ⟨h, rfl⟩
  ·have h1 := hf r h
   have h2 := qqe hf n h1.1
   exact ⟨h2.1, h2.2.trans h1.2⟩
theorem qfh {α : Type} {f : Rd → α × Rd} (hf : ∀ r : Rd, r.Ok → (f r).2.Ok ∧ (f r).2.b = r.b) {r : Rd} (h : r.Ok) (most : Int) : (qbo most f r).2.Ok ∧ (qbo most f r).2.b = r.b := by
 have h1 := zx h 0 most
 have h2 := qqe hf (qy 0 most r).1.toNat h1.1
 exact ⟨h2.1, h2.2.trans h1.2⟩
theorem qsx {r : Rd} (h : r.Ok) : (rAV r).2.Ok ∧ (rAV r).2.b = r.b := by
 have h1 := zx h 1 2
 unfold rAV
 split
 ·exact h1
 ·split
  ·have h2 := qa2 h1.1
   exact ⟨h2.1, h2.2.trans h1.2⟩
  ·have h2 := qd8 h1.1 40
   exact ⟨h2.1, h2.2.trans h1.2⟩
theorem qqf {α : Type} {f : Rd → α × Rd} : ∀ (n : Nat) {r : Rd}, (we f n r).1.length ≤ n
 | 0, r => Nat.le_refl _
 | n + 1, r => by
  rw [we]
  split
  ·exact Nat.zero_le _
  ·exact Nat.succ_le_succ (qqf n)
theorem qfi {α : Type} {f : Rd → α × Rd} {most : Nat} {r : Rd} : (qbo most f r).1.length ≤ most := by
 unfold qbo
 cases hf : (qy 0 most r).2.failed with
 | true =>
  generalize qy 0 most r = x at hf
  cases x.1.toNat with
  | zero => exact Nat.zero_le _
  | succ n => rw [we, if_pos hf]; exact Nat.zero_le _
 | false =>
  have h1 := w7 hf
  have h2 := qqf (f := f) (qy 0 most r).1.toNat (r := (qy 0 most r).2)
  omega
noncomputable section
set_option maxRecDepth 100000
def xed : List SOper := [
 ⟨some 2, .alloc 1 [(.d (.int .i64 0)), (.d (.int .i64 0)), (.d (.str []))], none⟩]
def xee : List SOper := [
 ⟨some 4, .mov (.t 0), none⟩,
 ⟨some 5, .call (.k (.d (.func (.func 169) [] []))) [(.t 4), (.k (.d (.int .i64 1))), (.k (.d (.int .i64 2)))], none⟩,
 ⟨some 6, .build [(.int .i64 0), (.int .i64 0), (.str [])] [(0, 1, (.t 5))], none⟩,
 ⟨some 3, .alloc 1 [(.d (.int .i64 0)), (.d (.int .i64 0)), (.d (.str []))], none⟩,
 ⟨none, .store (some 3) (.t 3) (.t 6), none⟩]
def xef : List SOper := [
 ⟨some 12, .mov (.t 0), none⟩,
 ⟨some 13, .nilCheck (.t 12), none⟩,
 ⟨some 14, .faddr 2 (.t 13), none⟩,
 ⟨some 15, .load none (.t 14), none⟩,
 ⟨some 11, .mov (.t 15), none⟩]
def xeg : List SOper := [
 ⟨some 17, .faddr 0 (.t 3), none⟩,
 ⟨some 18, .load none (.t 17), none⟩,
 ⟨some 19, .bin .eql (.t 18) (.k (.d (.int .i64 1))), none⟩,
 ⟨some 16, .mov (.t 19), none⟩]
def xeh : List SOper := [
 ⟨some 20, .mov (.t 0), none⟩,
 ⟨some 21, .call (.k (.d (.func (.func 105) [] []))) [(.t 20)], none⟩,
 ⟨some 22, .faddr 1 (.t 3), none⟩,
 ⟨none, .store none (.t 22) (.t 21), none⟩]
def xei : List SOper := [
 ⟨some 7, .mov (.t 0), none⟩,
 ⟨some 8, .call (.k (.d (.func (.func 174) [] []))) [(.t 7), (.k (.d (.int .i64 40)))], none⟩,
 ⟨some 9, .b2s (.t 8), none⟩,
 ⟨some 10, .faddr 2 (.t 3), none⟩,
 ⟨none, .store none (.t 10) (.t 9), none⟩]
def xej : List SOper := [
 ⟨some 23, .load (some 3) (.t 3), none⟩,
 ⟨none, .store (some 3) (.t 2) (.t 23), none⟩]
def s158 : SCode := (.seq (.region xed 1 []) (.seq (.region xee 1 []) (.seq (.block 0 (.seq (.region xef 0 []) (.cond (.t 11) .skip (.seq (.region xeg 0 []) (.cond (.t 16) (.region xeh 0 []) (.region xei 0 [])))))) (.seq (.region xej 0 []) .ret))))
theorem zmt : qf s158.eq_1 := qg s158.eq_1
theorem x1h : qa xed.eq_1 := qc
theorem x1i : qa xee.eq_1 := qc
theorem x1j : qa xef.eq_1 := qc
theorem x1k : qa xeg.eq_1 := qc
theorem x1l : qa xeh.eq_1 := qc
theorem x1m : qa xei.eq_1 := qc
theorem x1n : qa xej.eq_1 := qc
attribute [go_sem] x1h x1i x1j x1k x1l x1m x1n zmt
theorem zkl : FnIs Tryz.prog 158 Tryz.f158 [] news s158 [.cell 2 (some 3)] 24 := xo follows Tryz.func158
def xek : List SOper := [
 ⟨some 6, .mov (.k (.d .nilsl)), none⟩]
def xel : List SOper := [
 ⟨some 10, .mov (.t 0), none⟩,
 ⟨some 11, .mov (.t 1), none⟩,
 ⟨some 12, .call (.k (.d (.func (.func 169) [] []))) [(.t 10), (.k (.d (.int .i64 0))), (.t 11)], none⟩,
 ⟨some 7, .mov (.t 12), none⟩]
def xem : List SOper := [
 ⟨some 8, .mov (.k (.d .nilsl)), none⟩]
def xen : List SOper := [
 ⟨some 9, .mov (.k (.d (.int .i64 0))), none⟩]
def xeo : List SOper := [
 ⟨some 13, .mov (.t 9), none⟩,
 ⟨some 14, .mov (.t 7), none⟩,
 ⟨some 15, .bin .lss (.t 13) (.t 14), none⟩,
 ⟨some 16, .mov (.t 15), none⟩,
 ⟨some 17, .mov (.t 0), some (16, true)⟩,
 ⟨some 18, .nilCheck (.t 17), some (16, true)⟩,
 ⟨some 19, .faddr 2 (.t 18), some (16, true)⟩,
 ⟨some 20, .load none (.t 19), some (16, true)⟩,
 ⟨some 21, .not (.t 20), some (16, true)⟩,
 ⟨some 22, .pick (.t 16) (.t 21) (.k (.d (.bool false))), none⟩]
def xep : List SOper := [
 ⟨some 25, .mov (.t 8), none⟩,
 ⟨some 26, .mov (.t 2), none⟩,
 ⟨some 27, .call (.t 26) [], none⟩,
 ⟨some 28, .buildSlice false 1 1 [(.int .i64 0)] [(0, 1, (.t 27))], none⟩,
 ⟨some 29, .append false 1 8 (.t 25) (.t 28), none⟩,
 ⟨some 8, .mov (.t 29), none⟩]
def xeq : List SOper := [
 ⟨some 23, .mov (.t 9), none⟩,
 ⟨some 24, .bin .add (.t 23) (.k (.d (.int .i64 1))), none⟩,
 ⟨some 9, .mov (.t 24), none⟩]
def q0d : SCode := (.seq (.seq (.region xeo 0 []) (.cond (.t 22) .skip (.exit 0))) (.seq (.block 1 (.region xep 0 [])) (.region xeq 0 [])))
theorem x1o : qf q0d.eq_1 := qg q0d.eq_1
def xer : List SOper := [
 ⟨some 30, .mov (.t 8), none⟩,
 ⟨some 6, .mov (.t 30), none⟩]
def s161 : SCode := (.seq (.region xek 0 []) (.seq (.region xel 0 []) (.seq (.region xem 0 []) (.seq (.seq (.region xen 0 []) (.block 0 (.loop q0d))) (.seq (.region xer 0 []) .ret)))))
theorem zmu : qf s161.eq_1 := qg s161.eq_1
theorem x1p : qa xek.eq_1 := qc
theorem x1q : qa xel.eq_1 := qc
theorem x1r : qa xem.eq_1 := qc
theorem x1s : qa xen.eq_1 := qc
theorem x1t : qa xeo.eq_1 := qc
theorem x1u : qa xep.eq_1 := qc
theorem x1v : qa xeq.eq_1 := qc
theorem x1w : qa xer.eq_1 := qc
attribute [go_sem] x1p x1q x1r x1s x1t x1u x1v x1o x1w zmu
theorem zkm : FnIs Tryz.prog 161 Tryz.f161 [] news s161 [.tmp 6] 31 := xo follows Tryz.func161
def xes : List SOper := [
 ⟨some 6, .mov (.k (.d .nilsl)), none⟩]
def xet : List SOper := [
 ⟨some 10, .mov (.t 0), none⟩,
 ⟨some 11, .mov (.t 1), none⟩,
 ⟨some 12, .call (.k (.d (.func (.func 169) [] []))) [(.t 10), (.k (.d (.int .i64 0))), (.t 11)], none⟩,
 ⟨some 7, .mov (.t 12), none⟩]
def xeu : List SOper := [
 ⟨some 8, .mov (.k (.d .nilsl)), none⟩]
def xev : List SOper := [
 ⟨some 9, .mov (.k (.d (.int .i64 0))), none⟩]
def xew : List SOper := [
 ⟨some 13, .mov (.t 9), none⟩,
 ⟨some 14, .mov (.t 7), none⟩,
 ⟨some 15, .bin .lss (.t 13) (.t 14), none⟩,
 ⟨some 16, .mov (.t 15), none⟩,
 ⟨some 17, .mov (.t 0), some (16, true)⟩,
 ⟨some 18, .nilCheck (.t 17), some (16, true)⟩,
 ⟨some 19, .faddr 2 (.t 18), some (16, true)⟩,
 ⟨some 20, .load none (.t 19), some (16, true)⟩,
 ⟨some 21, .not (.t 20), some (16, true)⟩,
 ⟨some 22, .pick (.t 16) (.t 21) (.k (.d (.bool false))), none⟩]
def xex : List SOper := [
 ⟨some 25, .mov (.t 8), none⟩,
 ⟨some 26, .mov (.t 2), none⟩,
 ⟨some 27, .call (.t 26) [], none⟩,
 ⟨some 28, .buildSlice false 3 1 [(.int .i64 0), (.int .i64 0), (.str [])] [(0, 3, (.t 27))], none⟩,
 ⟨some 29, .append false 3 32 (.t 25) (.t 28), none⟩,
 ⟨some 8, .mov (.t 29), none⟩]
def xey : List SOper := [
 ⟨some 23, .mov (.t 9), none⟩,
 ⟨some 24, .bin .add (.t 23) (.k (.d (.int .i64 1))), none⟩,
 ⟨some 9, .mov (.t 24), none⟩]
def q0e : SCode := (.seq (.seq (.region xew 0 []) (.cond (.t 22) .skip (.exit 0))) (.seq (.block 1 (.region xex 0 [])) (.region xey 0 [])))
theorem x1x : qf q0e.eq_1 := qg q0e.eq_1
def xez : List SOper := [
 ⟨some 30, .mov (.t 8), none⟩,
 ⟨some 6, .mov (.t 30), none⟩]
def s157 : SCode := (.seq (.region xes 0 []) (.seq (.region xet 0 []) (.seq (.region xeu 0 []) (.seq (.seq (.region xev 0 []) (.block 0 (.loop q0e))) (.seq (.region xez 0 []) .ret)))))
theorem zmv : qf s157.eq_1 := qg s157.eq_1
theorem x1y : qa xes.eq_1 := qc
theorem x1z : qa xet.eq_1 := qc
theorem x10 : qa xeu.eq_1 := qc
theorem x11 : qa xev.eq_1 := qc
theorem x12 : qa xew.eq_1 := qc
theorem x13 : qa xex.eq_1 := qc
theorem x14 : qa xey.eq_1 := qc
theorem x15 : qa xez.eq_1 := qc
attribute [go_sem] x1y x1z x10 x11 x12 x13 x14 x1x x15 zmv
theorem zkn : FnIs Tryz.prog 157 Tryz.f157 [] news s157 [.tmp 6] 31 := xo follows Tryz.func157
def xe0 : List SOper := [
 ⟨some 2, .mov (.k (.d .nilsl)), none⟩]
def xe1 : List SOper := [
 ⟨some 3, .load none (.t 0), none⟩,
 ⟨some 4, .load none (.t 1), none⟩,
 ⟨some 5, .load none (.t 0), none⟩,
 ⟨some 6, .mkFunc (.func 105) [(.t 5)] [], none⟩,
 ⟨some 7, .call (.k (.d (.func (.func 161) [] []))) [(.t 3), (.t 4), (.t 6)], none⟩,
 ⟨some 2, .mov (.t 7), none⟩]
def s160 : SCode := (.seq (.region xe0 0 []) (.seq (.region xe1 0 []) .ret))
theorem zmw : qf s160.eq_1 := qg s160.eq_1
theorem x16 : qa xe0.eq_1 := qc
theorem x17 : qa xe1.eq_1 := qc
attribute [go_sem] x16 x17 zmw
theorem zko : FnIs Tryz.prog 160 Tryz.f160 [] news s160 [.tmp 2] 8 := xo follows Tryz.func160
def xe2 : List SOper := [
 ⟨some 2, .mov (.k (.d .nilsl)), none⟩]
def xe3 : List SOper := [
 ⟨some 3, .load none (.t 0), none⟩,
 ⟨some 4, .load none (.t 1), none⟩,
 ⟨some 5, .load none (.t 0), none⟩,
 ⟨some 6, .mkFunc (.func 158) [(.t 5)] [], none⟩,
 ⟨some 7, .call (.k (.d (.func (.func 157) [] []))) [(.t 3), (.t 4), (.t 6)], none⟩,
 ⟨some 2, .mov (.t 7), none⟩]
def s156 : SCode := (.seq (.region xe2 0 []) (.seq (.region xe3 0 []) .ret))
theorem zmx : qf s156.eq_1 := qg s156.eq_1
theorem x18 : qa xe2.eq_1 := qc
theorem x19 : qa xe3.eq_1 := qc
attribute [go_sem] x18 x19 zmx
theorem zkp : FnIs Tryz.prog 156 Tryz.f156 [] news s156 [.tmp 2] 8 := xo follows Tryz.func156
def xe4 : List SOper := [
 ⟨some 4, .mov (.k (.d .nilsl)), none⟩]
def xe5 : List SOper := [
 ⟨some 5, .mov (.k (.d .nilsl)), none⟩]
def xe6 : List SOper := [
 ⟨some 8, .mov (.t 0), none⟩,
 ⟨some 9, .eqnil false .ptr (.t 8), none⟩,
 ⟨some 10, .mov (.t 9), none⟩,
 ⟨some 11, .mov (.t 0), some (10, false)⟩,
 ⟨some 12, .nilCheck (.t 11), some (10, false)⟩,
 ⟨some 13, .faddr 2 (.t 12), some (10, false)⟩,
 ⟨some 14, .load none (.t 13), some (10, false)⟩,
 ⟨some 15, .pick (.t 10) (.k (.d (.bool true))) (.t 14), none⟩]
def xe7 : List SOper := [
 ⟨some 16, .mov (.t 5), none⟩,
 ⟨some 4, .mov (.t 16), none⟩]
def xe8 : List SOper := [
 ⟨some 17, .mov (.t 0), none⟩,
 ⟨some 18, .nilCheck (.t 17), none⟩,
 ⟨some 19, .faddr 1 (.t 18), none⟩,
 ⟨some 20, .load none (.t 19), none⟩,
 ⟨some 6, .mov (.t 20), none⟩]
def xe9 : List SOper := [
 ⟨some 21, .mov (.t 1), none⟩,
 ⟨some 22, .call (.t 21) [], none⟩,
 ⟨some 7, .mov (.t 22), none⟩]
def xfa : List SOper := [
 ⟨some 23, .mov (.t 0), none⟩,
 ⟨some 24, .nilCheck (.t 23), none⟩,
 ⟨some 25, .faddr 2 (.t 24), none⟩,
 ⟨some 26, .load none (.t 25), none⟩]
def xfb : List SOper := [
 ⟨some 27, .mov (.t 0), none⟩,
 ⟨some 28, .mov (.t 6), none⟩,
 ⟨some 29, .nilCheck (.t 27), none⟩,
 ⟨some 30, .faddr 1 (.t 29), none⟩,
 ⟨none, .store none (.t 30) (.t 28), none⟩]
def xfc : List SOper := [
 ⟨some 31, .mov (.t 5), none⟩,
 ⟨some 4, .mov (.t 31), none⟩]
def xfd : List SOper := [
 ⟨some 32, .mov (.t 7), none⟩,
 ⟨some 4, .mov (.t 32), none⟩]
def s159 : SCode := (.seq (.region xe4 0 []) (.seq (.region xe5 0 []) (.seq (.seq (.region xe6 0 []) (.cond (.t 15) (.seq (.region xe7 0 []) .ret) .skip)) (.seq (.region xe8 0 []) (.seq (.region xe9 0 []) (.seq (.seq (.region xfa 0 []) (.cond (.t 26) (.seq (.region xfb 0 []) (.seq (.region xfc 0 []) .ret)) .skip)) (.seq (.region xfd 0 []) .ret)))))))
theorem zmy : qf s159.eq_1 := qg s159.eq_1
theorem x2a : qa xe4.eq_1 := qc
theorem x2b : qa xe5.eq_1 := qc
theorem x2c : qa xe6.eq_1 := qc
theorem x2d : qa xe7.eq_1 := qc
theorem x2e : qa xe8.eq_1 := qc
theorem x2f : qa xe9.eq_1 := qc
theorem x2g : qa xfa.eq_1 := qc
theorem x2h : qa xfb.eq_1 := qc
theorem x2i : qa xfc.eq_1 := qc
theorem x2j : qa xfd.eq_1 := qc
attribute [go_sem] x2a x2b x2c x2d x2e x2f x2g x2h x2i x2j zmy
theorem zkq : FnIs Tryz.prog 159 Tryz.f159 [] news s159 [.tmp 4] 33 := xo follows Tryz.func159
def xfe : List SOper := [
 ⟨some 4, .mov (.k (.d .nilsl)), none⟩]
def xff : List SOper := [
 ⟨some 5, .mov (.k (.d .nilsl)), none⟩]
def xfg : List SOper := [
 ⟨some 8, .mov (.t 0), none⟩,
 ⟨some 9, .eqnil false .ptr (.t 8), none⟩,
 ⟨some 10, .mov (.t 9), none⟩,
 ⟨some 11, .mov (.t 0), some (10, false)⟩,
 ⟨some 12, .nilCheck (.t 11), some (10, false)⟩,
 ⟨some 13, .faddr 2 (.t 12), some (10, false)⟩,
 ⟨some 14, .load none (.t 13), some (10, false)⟩,
 ⟨some 15, .pick (.t 10) (.k (.d (.bool true))) (.t 14), none⟩]
def xfh : List SOper := [
 ⟨some 16, .mov (.t 5), none⟩,
 ⟨some 4, .mov (.t 16), none⟩]
def xfi : List SOper := [
 ⟨some 17, .mov (.t 0), none⟩,
 ⟨some 18, .nilCheck (.t 17), none⟩,
 ⟨some 19, .faddr 1 (.t 18), none⟩,
 ⟨some 20, .load none (.t 19), none⟩,
 ⟨some 6, .mov (.t 20), none⟩]
def xfj : List SOper := [
 ⟨some 21, .mov (.t 1), none⟩,
 ⟨some 22, .call (.t 21) [], none⟩,
 ⟨some 7, .mov (.t 22), none⟩]
def xfk : List SOper := [
 ⟨some 23, .mov (.t 0), none⟩,
 ⟨some 24, .nilCheck (.t 23), none⟩,
 ⟨some 25, .faddr 2 (.t 24), none⟩,
 ⟨some 26, .load none (.t 25), none⟩]
def xfl : List SOper := [
 ⟨some 27, .mov (.t 0), none⟩,
 ⟨some 28, .mov (.t 6), none⟩,
 ⟨some 29, .nilCheck (.t 27), none⟩,
 ⟨some 30, .faddr 1 (.t 29), none⟩,
 ⟨none, .store none (.t 30) (.t 28), none⟩]
def xfm : List SOper := [
 ⟨some 31, .mov (.t 5), none⟩,
 ⟨some 4, .mov (.t 31), none⟩]
def xfn : List SOper := [
 ⟨some 32, .mov (.t 7), none⟩,
 ⟨some 4, .mov (.t 32), none⟩]
def s155 : SCode := (.seq (.region xfe 0 []) (.seq (.region xff 0 []) (.seq (.seq (.region xfg 0 []) (.cond (.t 15) (.seq (.region xfh 0 []) .ret) .skip)) (.seq (.region xfi 0 []) (.seq (.region xfj 0 []) (.seq (.seq (.region xfk 0 []) (.cond (.t 26) (.seq (.region xfl 0 []) (.seq (.region xfm 0 []) .ret)) .skip)) (.seq (.region xfn 0 []) .ret)))))))
theorem zmz : qf s155.eq_1 := qg s155.eq_1
theorem x2k : qa xfe.eq_1 := qc
theorem x2l : qa xff.eq_1 := qc
theorem x2m : qa xfg.eq_1 := qc
theorem x2n : qa xfh.eq_1 := qc
theorem x2o : qa xfi.eq_1 := qc
theorem x2p : qa xfj.eq_1 := qc
theorem x2q : qa xfk.eq_1 := qc
theorem x2r : qa xfl.eq_1 := qc
theorem x2s : qa xfm.eq_1 := qc
theorem x2t : qa xfn.eq_1 := qc
attribute [go_sem] x2k x2l x2m x2n x2o x2p x2q x2r x2s x2t zmz
theorem zkr : FnIs Tryz.prog 155 Tryz.f155 [] news s155 [.tmp 4] 33 := xo follows Tryz.func155
def xfo : List SOper := [
 ⟨some 2, .box 2 (.t 0), none⟩,
 ⟨some 3, .box 1 (.t 1), none⟩,
 ⟨some 4, .mov (.k (.d .nilsl)), none⟩]
def xfp : List SOper := [
 ⟨some 5, .load none (.t 2), none⟩,
 ⟨some 6, .mkFunc (.func 160) [] [(.t 2), (.t 3)], none⟩,
 ⟨some 7, .call (.k (.d (.func (.func 159) [] []))) [(.t 5), (.t 6)], none⟩,
 ⟨some 4, .mov (.t 7), none⟩]
def s108 : SCode := (.seq (.region xfo 2 []) (.seq (.region xfp 0 []) .ret))
theorem zm0 : qf s108.eq_1 := qg s108.eq_1
theorem x2u : qa xfo.eq_1 := qc
theorem x2v : qa xfp.eq_1 := qc
attribute [go_sem] x2u x2v zm0
theorem zks : FnIs Tryz.prog 108 Tryz.f108 [] news s108 [.tmp 4] 8 := xo follows Tryz.func108
def xfq : List SOper := [
 ⟨some 2, .box 2 (.t 0), none⟩,
 ⟨some 3, .box 1 (.t 1), none⟩,
 ⟨some 4, .mov (.k (.d .nilsl)), none⟩]
def xfr : List SOper := [
 ⟨some 5, .load none (.t 2), none⟩,
 ⟨some 6, .mkFunc (.func 156) [] [(.t 2), (.t 3)], none⟩,
 ⟨some 7, .call (.k (.d (.func (.func 155) [] []))) [(.t 5), (.t 6)], none⟩,
 ⟨some 4, .mov (.t 7), none⟩]
def s107 : SCode := (.seq (.region xfq 2 []) (.seq (.region xfr 0 []) .ret))
theorem zm1 : qf s107.eq_1 := qg s107.eq_1
theorem x2w : qa xfq.eq_1 := qc
theorem x2x : qa xfr.eq_1 := qc
attribute [go_sem] x2w x2x zm1
theorem zkt : FnIs Tryz.prog 107 Tryz.f107 [] news s107 [.tmp 4] 8 := xo follows Tryz.func107
end
theorem x2y (r : Rd) (hr : r.Ok) : ql Tryz.prog 158 [.d (.ptr 0 0)] [rdO r] (.d (.agg (xg (rAV r).1))) [rdO (rAV r).2] := by
 have hb := qal r 1 2 hr
 have hi := (zx hr 1 2).1
 unfold rAV
 generalize qy 1 2 r = x at hb hi ⊢
 obtain ⟨k, r1⟩ := x
 simp only at hi
 simp only [rdO] at hb
 refine zkl.go ?_
 try (refine ev1 @rdO.eq_1 ?_; try exact True.intro)
 (repeat (with_reducible refine ob ?_)); refine clO [0] xkg (hb) ?_ (hfit := by first | exact ⟨qd, trivial⟩ | exact ⟨qd, qd, trivial⟩ | (refine ev2 @xg.eq_1 @encI.eq_1 ?_; try exact True.intro))
 try (refine ev ?_; try exact True.intro)
 cases hf : r1.failed
 ·(repeat (with_reducible refine ob ?_)); refine no_ ?_
  try (refine ev ?_; try exact True.intro)
  refine ju _ (fun h => ?_) (fun h => ?_)
  ·have hk : k = 1 := by simpa using h
   have hI := qnf r1 hi
   simp only [rdO, hf] at hI
   try (refine ev ?_; try exact True.intro)
   (repeat (with_reducible refine ob ?_)); refine clO [0] xxf (hI) ?_ (hfit := by first | exact ⟨qd, trivial⟩ | exact ⟨qd, qd, trivial⟩ | (refine ev2 @xg.eq_1 @encI.eq_1 ?_; try exact True.intro))
   subst hk
   simp only [if_true, Bool.false_eq_true, if_false, xg]
   try (refine ev ?_; try exact True.intro)
  ·have hk : k ≠ 1 := by simpa using h
   have hB := qlq r1 40 hi (by decide)
   simp only [rdO, hf] at hB
   try (refine ev ?_; try exact True.intro)
   (repeat (with_reducible refine ob ?_)); refine clO [0] zfe (hB) ?_ (hfit := by first | exact ⟨qd, trivial⟩ | exact ⟨qd, qd, trivial⟩ | (refine ev2 @xg.eq_1 @encI.eq_1 ?_; try exact True.intro))
   simp only [hk, Bool.false_eq_true, if_false, xg]
   try (refine ev ?_; try exact True.intro)
 ·(repeat (with_reducible refine ob ?_)); refine qcr ?_
  simp only [if_true, hf, xg]
  try (refine ev ?_; try exact True.intro)
def Sli {α : Type} (es : Nat) (enc : α → List D) (k : FuncId) (n : Int) (x : Nat × List α × Rd) : St :=
 ⟨[(0, true, .d (.ptr 0 0)), (2, true, .d (.func (.func k) [.ptr 0 0] [])), (7, true, .d (.int .i64 n)), (8, true, .own 0 es (x.2.1.map enc)), (9, true, .d (.int .i64 (x.1 : Nat)))], [rdO x.2.2], [0], 1⟩
set_option maxRecDepth 10000 in
theorem q4s (r : Rd) (most : Nat) (hr : r.Ok) (hm : most ≤ 1000) : ql Tryz.prog 161 [.d (.ptr 0 0), .d (.int .i64 most), .d (.func (.func 105) [.ptr 0 0] [])] [rdO r] (.d (.sl 1 ((qbo most rInt r).1.map encI))) [rdO (qbo most rInt r).2] := by
 have hb := qal r 0 most hr
 have hi := (zx hr 0 most).1
 have hin := w7 (r := r) (lo := 0) (hi := most)
 unfold qbo
 generalize qy 0 most r = x at hb hi hin ⊢
 obtain ⟨n, r1⟩ := x
 simp only at hi hin
 simp only [rdO] at hb
 refine zkm.go ?_
 try (refine ev1 @rdO.eq_1 ?_; try exact True.intro)
 (repeat (with_reducible refine ob ?_)); refine clO [0] xkg (hb) ?_ (hfit := by first | exact ⟨qd, trivial⟩ | exact ⟨qd, qd, trivial⟩ | (refine ev2 @xg.eq_1 @encI.eq_1 ?_; try exact True.intro))
 try (refine ev ?_; try exact True.intro)
 refine qv (fun x : { x : Nat × List Int × Rd // x.1 ≤ most ∧ x.2.1.length = x.1 ∧ x.2.2.Ok ∧ (x.2.1 ++ (we rInt (n.toNat - x.1) x.2.2).1, (we rInt (n.toNat - x.1) x.2.2).2) = we rInt n.toNat r1 ∧ (x.2.2.failed = false → n ≤ most) } => Sli 1 encI 105 n x.val) (fun x => most + 1 - x.val.1) ⟨(0, [], r1), Nat.zero_le _, rfl, hi, by simp, fun h => (hin h).2⟩ ?_ (fun x => ?_)
 ·try (refine ev4 @Sli.eq_1 @rdO.eq_1 @List.map_nil.{0,0} @Int.ofNat_zero ?_; try exact True.intro)
 obtain ⟨⟨i, l, b, p, f⟩, h1, h2, h3, h4, h5⟩ := x
 simp only at h1 h2 h3 h4 h5
 cases f
 ·have hn := h5 rfl
  try (refine ev2 @Sli.eq_1 @rdO.eq_1 ?_; try exact True.intro)
  refine ju _ (fun h => ?_) (fun h => ?_)
  ·have hlt : i < n.toNat := by simp at h; omega
   have hv := qnf ⟨b, p, false⟩ h3
   obtain ⟨v1, v2⟩ := qa2 h3
   have hsn : n.toNat - i = (n.toNat - (i + 1)) + 1 := by omega
   rw [hsn, we, if_neg (by simp)] at h4
   simp only [rdO, encI] at hv
   try (refine ev ?_; try exact True.intro)
   (repeat (with_reducible refine ob ?_)); refine clO [0] xxf (hv) ?_ (hfit := by first | exact ⟨qd, trivial⟩ | exact ⟨qd, qd, trivial⟩ | (refine ev2 @xg.eq_1 @encI.eq_1 ?_; try exact True.intro))
   try (refine ev ?_; try exact True.intro)
   (repeat (with_reducible refine ob ?_))
   refine ⟨⟨(i + 1, l ++ [(rInt ⟨b, p, false⟩).1], (rInt ⟨b, p, false⟩).2), by simp only; omega, by simp [h2], v1, by simpa using h4, fun _ => hn⟩, ?_, by simp only; omega⟩
   try (refine ev7 @Sli.eq_1 @rdO.eq_1 @List.map_append.{0,0} @List.map_cons.{0,0} @List.map_nil.{0,0} @encI.eq_1 (qr (show i < 9223372036854775807 by omega)) ?_; try exact True.intro)
  ·have hge : n.toNat - i = 0 := by simp at h; omega
   rw [hge, we, List.append_nil] at h4
   try (refine ev1 h4.symm ?_; try exact True.intro)
 ·have hx : we rInt (n.toNat - i) ⟨b, p, true⟩ = ([], ⟨b, p, true⟩) := by
   cases n.toNat - i with
   | zero => rfl
   | succ k => rw [we, if_pos rfl]
  rw [hx, List.append_nil] at h4
  try (refine ev2 @Sli.eq_1 @rdO.eq_1 ?_; try exact True.intro)
  refine ju _ (fun h => ?_) (fun h => ?_)
  ·simp at h
  ·try (refine ev1 h4.symm ?_; try exact True.intro)
set_option maxRecDepth 10000 in
theorem q4t (r : Rd) (most : Nat) (hr : r.Ok) (hm : most ≤ 1000) : ql Tryz.prog 157 [.d (.ptr 0 0), .d (.int .i64 most), .d (.func (.func 158) [.ptr 0 0] [])] [rdO r] (.d (.sl 3 ((qbo most rAV r).1.map xg))) [rdO (qbo most rAV r).2] := by
 have hb := qal r 0 most hr
 have hi := (zx hr 0 most).1
 have hin := w7 (r := r) (lo := 0) (hi := most)
 unfold qbo
 generalize qy 0 most r = x at hb hi hin ⊢
 obtain ⟨n, r1⟩ := x
 simp only at hi hin
 simp only [rdO] at hb
 refine zkn.go ?_
 try (refine ev1 @rdO.eq_1 ?_; try exact True.intro)
 (repeat (with_reducible refine ob ?_)); refine clO [0] xkg (hb) ?_ (hfit := by first | exact ⟨qd, trivial⟩ | exact ⟨qd, qd, trivial⟩ | (refine ev2 @xg.eq_1 @encI.eq_1 ?_; try exact True.intro))
 try (refine ev ?_; try exact True.intro)
 refine qv (fun x : { x : Nat × List AV × Rd // x.1 ≤ most ∧ x.2.1.length = x.1 ∧ x.2.2.Ok ∧ (x.2.1 ++ (we rAV (n.toNat - x.1) x.2.2).1, (we rAV (n.toNat - x.1) x.2.2).2) = we rAV n.toNat r1 ∧ (x.2.2.failed = false → n ≤ most) } => Sli 3 xg 158 n x.val) (fun x => most + 1 - x.val.1) ⟨(0, [], r1), Nat.zero_le _, rfl, hi, by simp, fun h => (hin h).2⟩ ?_ (fun x => ?_)
 ·try (refine ev4 @Sli.eq_1 @rdO.eq_1 @List.map_nil.{0,0} @Int.ofNat_zero ?_; try exact True.intro)
 obtain ⟨⟨i, l, b, p, f⟩, h1, h2, h3, h4, h5⟩ := x
 simp only at h1 h2 h3 h4 h5
 cases f
 ·have hn := h5 rfl
  try (refine ev2 @Sli.eq_1 @rdO.eq_1 ?_; try exact True.intro)
  refine ju _ (fun h => ?_) (fun h => ?_)
  ·have hlt : i < n.toNat := by simp at h; omega
   have hv := x2y ⟨b, p, false⟩ h3
   obtain ⟨v1, v2⟩ := qsx h3
   have hsn : n.toNat - i = (n.toNat - (i + 1)) + 1 := by omega
   rw [hsn, we, if_neg (by simp)] at h4
   simp only [rdO, xg] at hv
   try (refine ev ?_; try exact True.intro)
   (repeat (with_reducible refine ob ?_)); refine clO [0] zkl (hv) ?_ (hfit := by first | exact ⟨qd, trivial⟩ | exact ⟨qd, qd, trivial⟩ | (refine ev2 @xg.eq_1 @encI.eq_1 ?_; try exact True.intro))
   try (refine ev ?_; try exact True.intro)
   (repeat (with_reducible refine ob ?_))
   refine ⟨⟨(i + 1, l ++ [(rAV ⟨b, p, false⟩).1], (rAV ⟨b, p, false⟩).2), by simp only; omega, by simp [h2], v1, by simpa using h4, fun _ => hn⟩, ?_, by simp only; omega⟩
   try (refine ev7 @Sli.eq_1 @rdO.eq_1 @List.map_append.{0,0} @List.map_cons.{0,0} @List.map_nil.{0,0} @xg.eq_1 (qr (show i < 9223372036854775807 by omega)) ?_; try exact True.intro)
  ·have hge : n.toNat - i = 0 := by simp at h; omega
   rw [hge, we, List.append_nil] at h4
   try (refine ev1 h4.symm ?_; try exact True.intro)
 ·have hx : we rAV (n.toNat - i) ⟨b, p, true⟩ = ([], ⟨b, p, true⟩) := by
   cases n.toNat - i with
   | zero => rfl
   | succ k => rw [we, if_pos rfl]
  rw [hx, List.append_nil] at h4
  try (refine ev2 @Sli.eq_1 @rdO.eq_1 ?_; try exact True.intro)
  refine ju _ (fun h => ?_) (fun h => ?_)
  ·simp at h
  ·try (refine ev1 h4.symm ?_; try exact True.intro)
theorem q4u (r : Rd) (most : Nat) (hr : r.Ok) (hm : most ≤ 1000) : ql Tryz.prog 160 [.d (.ptr 1 0), .d (.ptr 2 0)] [rdO r, .row [.d (.ptr 0 0)], .row [.d (.int .i64 most)]] (.d (.sl 1 ((qbo most rInt r).1.map encI))) [rdO (qbo most rInt r).2, .row [.d (.ptr 0 0)], .row [.d (.int .i64 most)]] := by
 have hc := q4s r most hr hm
 simp only [rdO] at hc
 refine zko.go ?_
 try (refine ev1 @rdO.eq_1 ?_; try exact True.intro)
 (repeat (with_reducible refine ob ?_)); refine clO [0] zkm (hc) ?_ (hfit := by first | exact ⟨qd, trivial⟩ | exact ⟨qd, qd, trivial⟩ | (refine ev2 @xg.eq_1 @encI.eq_1 ?_; try exact True.intro))
 try (refine ev ?_; try exact True.intro)
theorem qwb (r : Rd) (most : Nat) (hr : r.Ok) (hm : most ≤ 1000) : ql Tryz.prog 156 [.d (.ptr 1 0), .d (.ptr 2 0)] [rdO r, .row [.d (.ptr 0 0)], .row [.d (.int .i64 most)]] (.d (.sl 3 ((qbo most rAV r).1.map xg))) [rdO (qbo most rAV r).2, .row [.d (.ptr 0 0)], .row [.d (.int .i64 most)]] := by
 have hc := q4t r most hr hm
 simp only [rdO] at hc
 refine zkp.go ?_
 try (refine ev1 @rdO.eq_1 ?_; try exact True.intro)
 (repeat (with_reducible refine ob ?_)); refine clO [0] zkn (hc) ?_ (hfit := by first | exact ⟨qd, trivial⟩ | exact ⟨qd, qd, trivial⟩ | (refine ev2 @xg.eq_1 @encI.eq_1 ?_; try exact True.intro))
 try (refine ev ?_; try exact True.intro)
theorem qsy (r : Rd) (most : Nat) (hr : r.Ok) (hm : most ≤ 1000) : ql Tryz.prog 159 [.d (.ptr 0 0), .d (.func (.func 160) [] [.ptr 1 0, .ptr 2 0])] [rdO r, .row [.d (.ptr 0 0)], .row [.d (.int .i64 most)]] (.d (.sl 1 ((qcc most r).1.map encI))) [rdO (qcc most r).2, .row [.d (.ptr 0 0)], .row [.d (.int .i64 most)]] := by
 have hc := q4u r most hr hm
 unfold qcc
 unfold qak
 obtain ⟨b, p, f⟩ := r
 simp only [rdO] at hc
 refine zkq.go ?_
 try (refine ev1 @rdO.eq_1 ?_; try exact True.intro)
 cases f
 ·try (refine ev ?_; try exact True.intro)
  (repeat (with_reducible refine ob ?_)); refine no_ ?_
  try (refine ev ?_; try exact True.intro)
  (repeat (with_reducible refine ob ?_)); refine clO [0, 1, 2] zko (hc) ?_ (hfit := by first | exact ⟨qd, trivial⟩ | exact ⟨qd, qd, trivial⟩ | (refine ev2 @xg.eq_1 @encI.eq_1 ?_; try exact True.intro))
  try (refine ev ?_; try exact True.intro)
  cases hf : (qbo most rInt ⟨b, p, false⟩).2.failed
  ·try (refine ev ?_; try exact True.intro)
   (repeat (with_reducible refine ob ?_)); refine no_ ?_
   try simp only [hf, if_false, go_sem, Nat.reduceAdd, Nat.reduceMul, Nat.reduceSub, Nat.reduceEqDiff, Nat.reduceLT, Nat.reduceLeDiff, Nat.reduceBEq, reduceIte, reduceCtorEq, Int.reduceAdd, Int.reduceLT, Int.reduceLE, Int.reduceGT, Int.reduceGE, Int.reduceEq, Int.reduceNe, Int.reduceBEq, Int.reduceBNe, Int.reduceToNat, Int.reduceNeg]
  ·try (refine ev ?_; try exact True.intro)
   (repeat (with_reducible refine ob ?_)); refine qcr ?_
   try (refine ev2 @hf @List.map_nil.{0,0} ?_; try exact True.intro)
 ·try (refine ev ?_; try exact True.intro)
  (repeat (with_reducible refine ob ?_)); refine qcr ?_
  try (refine ev1 @List.map_nil.{0,0} ?_; try exact True.intro)
theorem qnh (r : Rd) (most : Nat) (hr : r.Ok) (hm : most ≤ 1000) : ql Tryz.prog 155 [.d (.ptr 0 0), .d (.func (.func 156) [] [.ptr 1 0, .ptr 2 0])] [rdO r, .row [.d (.ptr 0 0)], .row [.d (.int .i64 most)]] (.d (.sl 3 ((qdi most r).1.map xg))) [rdO (qdi most r).2, .row [.d (.ptr 0 0)], .row [.d (.int .i64 most)]] := by
 have hc := qwb r most hr hm
 unfold qdi
 unfold qak
 obtain ⟨b, p, f⟩ := r
 simp only [rdO] at hc
 refine zkr.go ?_
 try (refine ev1 @rdO.eq_1 ?_; try exact True.intro)
 cases f
 ·try (refine ev ?_; try exact True.intro)
  (repeat (with_reducible refine ob ?_)); refine no_ ?_
  try (refine ev ?_; try exact True.intro)
  (repeat (with_reducible refine ob ?_)); refine clO [0, 1, 2] zkp (hc) ?_ (hfit := by first | exact ⟨qd, trivial⟩ | exact ⟨qd, qd, trivial⟩ | (refine ev2 @xg.eq_1 @encI.eq_1 ?_; try exact True.intro))
  try (refine ev ?_; try exact True.intro)
  cases hf : (qbo most rAV ⟨b, p, false⟩).2.failed
  ·try (refine ev ?_; try exact True.intro)
   (repeat (with_reducible refine ob ?_)); refine no_ ?_
   try simp only [hf, if_false, go_sem, Nat.reduceAdd, Nat.reduceMul, Nat.reduceSub, Nat.reduceEqDiff, Nat.reduceLT, Nat.reduceLeDiff, Nat.reduceBEq, reduceIte, reduceCtorEq, Int.reduceAdd, Int.reduceLT, Int.reduceLE, Int.reduceGT, Int.reduceGE, Int.reduceEq, Int.reduceNe, Int.reduceBEq, Int.reduceBNe, Int.reduceToNat, Int.reduceNeg]
  ·try (refine ev ?_; try exact True.intro)
   (repeat (with_reducible refine ob ?_)); refine qcr ?_
   try (refine ev2 @hf @List.map_nil.{0,0} ?_; try exact True.intro)
 ·try (refine ev ?_; try exact True.intro)
  (repeat (with_reducible refine ob ?_)); refine qcr ?_
  try (refine ev1 @List.map_nil.{0,0} ?_; try exact True.intro)
theorem q0f (r : Rd) (most : Nat) (hr : r.Ok) (hm : most ≤ 1000) : ql Tryz.prog 108 [.d (.ptr 0 0), .d (.int .i64 most)] [rdO r] (.d (.sl 1 ((qcc most r).1.map encI))) [rdO (qcc most r).2] := by
 have hc := qsy r most hr hm
 simp only [rdO] at hc
 refine zks.go ?_
 try (refine ev1 @rdO.eq_1 ?_; try exact True.intro)
 refine clO [0, 1, 2] zkq hc ?_
 try (refine ev ?_; try exact True.intro)
theorem q4v (r : Rd) (most : Nat) (hr : r.Ok) (hm : most ≤ 1000) : ql Tryz.prog 107 [.d (.ptr 0 0), .d (.int .i64 most)] [rdO r] (.d (.sl 3 ((qdi most r).1.map xg))) [rdO (qdi most r).2] := by
 have hc := qnh r most hr hm
 simp only [rdO] at hc
 refine zkt.go ?_
 try (refine ev1 @rdO.eq_1 ?_; try exact True.intro)
 refine clO [0, 1, 2] zkr hc ?_
 try (refine ev ?_; try exact True.intro)
theorem qwc {r : Rd} (h : r.Ok) (most : Int) : (qcc most r).2.Ok ∧ (qcc most r).2.b = r.b := qbm h (qfh (fun _ h => qa2 h) h most)
theorem q0g {r : Rd} (h : r.Ok) (most : Int) : (qdi most r).2.Ok ∧ (qdi most r).2.b = r.b := qbm h (qfh (fun _ h => qsx h) h most)
theorem qfj {α : Type} {f : Rd → List α × Rd} {k : Nat} (h : ∀ r, (f r).1.length ≤ k) (r : Rd) : (qak [] f r).1.length ≤ k := by
 unfold qak
 split
 ·exact Nat.zero_le _
 ·split
  ·exact Nat.zero_le _
  ·exact h r
end Go.Proofs.YtinnaedmdoengaaGreat
namespace Go.Proofs.YtinnaedmdoengaaGreat
open Go.Abs
set_option linter.unusedSimpArgs false
set_option linter.unusedVariables false
def qfk {α : Type} (d : List UInt8 → Option (α × List UInt8)) : Nat → List UInt8 → Option (List α × List UInt8)
 | 0, l => some ([], l)
 | n + 1, l => match d l with
  | none => none
  | some (v, l1) => match qfk d n l1 with
   | none => none
   | some (vs, l2) => some (v :: vs, l2)
def qhm {α : Type} (most : Int) (d : List UInt8 → Option (α × List UInt8)) (l0 : List UInt8) : Option (List α × List UInt8) := match xm 0 most l0 with
 | none => none
 | some (n, l) => qfk d n.toNat l
def dAV (l0 : List UInt8) : Option (AV × List UInt8) := match xm 1 2 l0 with
 | none => none
 | some (k, l) => if k = 1 then (match dInt l with
   | none => none
   | some (n, l1) => some (⟨k, n, []⟩, l1)) else (match wq 40 l with
   | none => none
   | some (s, l1) => some (⟨k, 0, s⟩, l1))
theorem qqg {α : Type} {d : List UInt8 → Option (α × List UInt8)} {w : α → List UInt8} (l : List UInt8) : ∀ xs : List α, (∀ x ∈ xs, ∀ l, d (w x ++ l) = some (x, l)) → qfk d xs.length (xs.flatMap w ++ l) = some (xs, l)
 | [], _ => rfl
 | x :: xs, h => by
  have ih := qqg l xs fun y hy => h y (by simp [hy])
  simp only [List.length_cons, qfk, List.flatMap_cons, List.append_assoc, h x (by simp), ih]
theorem qc2 {lo hi n : Int} (h1 : lo ≤ n) (h2 : n ≤ hi) (hn : I64 n) (l : List UInt8) : xm lo hi (wInt n ++ l) = some (n, l) := by
 unfold xm
 rw [qa3 hn]
 simp only
 rw [if_neg (by omega)]
theorem qhb {lo hi n : Int} {l0 l : List UInt8} (h : xm lo hi l0 = some (n, l)) : l0 = wInt n ++ l ∧ lo ≤ n ∧ n ≤ hi ∧ I64 n := by
 unfold xm at h
 split at h
 ·rename_i hd
  split at h
  ·cases h
  ·cases h
   obtain ⟨h1, h2⟩ := qhz hd
   exact ⟨h2, by omega, by omega, h1⟩
 ·cases h
theorem qqi {α : Type} {most : Nat} (hm : most ≤ 1000) {d : List UInt8 → Option (α × List UInt8)} {w : α → List UInt8} {xs : List α} (hl : xs.length ≤ most) (h : ∀ x ∈ xs, ∀ l, d (w x ++ l) = some (x, l)) (l : List UInt8) : qhm most d (wInt xs.length ++ xs.flatMap w ++ l) = some (xs, l) := by
 unfold qhm
 rw [List.append_assoc, qc2 (by omega) (by omega) (xz (by omega))]
 simp only [Int.toNat_natCast]
 exact qqg l xs h
theorem xi3 {v : AV} (hv : v.Sm) (hp : vq v = true) (l : List UInt8) : dAV (wAV v ++ l) = some (v, l) := by
 obtain ⟨h1, h2, h3⟩ := hv
 obtain ⟨k, n, s⟩ := v
 simp only at h1 h2 h3
 unfold dAV wAV
 by_cases hk : k = 1
 ·subst hk
  have hs : s = [] := by simpa [vq] using hp
  rw [if_pos rfl, List.append_assoc, qc2 (by decide) (by decide) h1]
  simp only [if_true]
  rw [qa3 h2]
  simp only [hs]
 ·by_cases hk2 : k = 2
  ·subst hk2
   have hs : n = 0 ∧ (s.length : Int) ≤ 40 := by simpa [vq] using hp
   rw [if_neg hk, if_pos rfl, List.append_assoc, qc2 (by decide) (by decide) h1]
   simp only
   rw [if_neg hk, qgg hs.2 (by decide)]
   simp only [hs.1]
  ·simp [vq, hk, hk2] at hp
theorem xi4 {l0 : List UInt8} {v : AV} {l : List UInt8} (h : dAV l0 = some (v, l)) : l0 = wAV v ++ l ∧ v.Sm := by
 unfold dAV at h
 cases h1 : xm 1 2 l0 with
 | none => rw [h1] at h; cases h
 | some x =>
  obtain ⟨k, l1⟩ := x
  rw [h1] at h
  obtain ⟨a1, a2, a3, a4⟩ := qhb h1
  simp only at h
  by_cases hk : k = 1
  ·rw [if_pos hk] at h
   cases h2 : dInt l1 with
   | none => rw [h2] at h; cases h
   | some x =>
    obtain ⟨n, l2⟩ := x
    rw [h2] at h
    cases h
    obtain ⟨b1, b2⟩ := qhz h2
    refine ⟨?_, a4, b1, by simp⟩
    rw [a1, b2, wAV, if_pos hk, List.append_assoc]
  ·rw [if_neg hk] at h
   cases h2 : wq 40 l1 with
   | none => rw [h2] at h; cases h
   | some x =>
    obtain ⟨s, l2⟩ := x
    rw [h2] at h
    cases h
    obtain ⟨b1, b2⟩ := qgh h2
    refine ⟨?_, a4, by unfold I64; simp, by simp only; omega⟩
    rw [a1, b1, wAV, if_neg hk, if_pos (show k = 2 by omega), List.append_assoc]
theorem q4w : qhl dAV := fun _ _ _ h => ⟨_, (xi4 h).1⟩
theorem q0h {α : Type} {d : List UInt8 → Option (α × List UInt8)} {f : Rd → α × Rd} (ht : qhl d) (hf : ∀ r : Rd, r.Ok → r.failed = false → Got (d (r.b.drop r.pos)) r.b (f r)) :
  ∀ (n : Nat) {r : Rd}, r.Ok → r.failed = false → Got (qfk d n (r.b.drop r.pos)) r.b (we f n r)
 | 0, r, hr, h0 => by
  have := hr.pos
  simp only [Got, qfk, we, List.length_drop]
  rw [show r.b.length - (r.b.length - r.pos) = r.pos by omega, ← h0]
 | n + 1, r, hr, h0 => by
  have h1 := hf r hr h0
  rw [qfk, we, if_neg (by simp [h0])]
  cases hd : d (r.b.drop r.pos) with
  | none =>
   rw [hd] at h1
   simp only [Got] at h1 ⊢
   cases n with
   | zero => exact h1
   | succ n => rw [we, if_pos h1]; exact h1
  | some x =>
   obtain ⟨v, l⟩ := x
   rw [hd] at h1
   have h1 := yz h1
   obtain ⟨p, hp⟩ := ht _ _ _ hd
   obtain ⟨t1, t2⟩ := kf hr.pos hp
   have ih := q0h ht hf n (r := ⟨r.b, r.b.length - l.length, false⟩) ⟨hr.len, Nat.sub_le _ _⟩ rfl
   simp only [t1] at ih
   rw [h1]
   simp only
   cases hm : qfk d n l with
   | none => rw [hm] at ih; exact ih
   | some x =>
    obtain ⟨vs, l2⟩ := x
    rw [hm] at ih
    have ih := yz ih
    simp only [Got, ih]
theorem q0i {α : Type} {d : List UInt8 → Option (α × List UInt8)} {f : Rd → α × Rd} (ht : qhl d) (hf : ∀ r : Rd, r.Ok → r.failed = false → Got (d (r.b.drop r.pos)) r.b (f r)) (most : Int)
  {r : Rd} (hr : r.Ok) (h0 : r.failed = false) : Got (qhm most d (r.b.drop r.pos)) r.b (qbo most f r) := by
 have h1 := qde 0 most hr h0
 unfold qhm qbo
 cases hd : xm 0 most (r.b.drop r.pos) with
 | none =>
  rw [hd] at h1
  simp only [Got] at h1 ⊢
  generalize qy 0 most r = y at h1 ⊢
  cases y.1.toNat with
  | zero => exact h1
  | succ n => rw [we, if_pos h1]; exact h1
 | some x =>
  obtain ⟨n, l⟩ := x
  rw [hd] at h1
  have h1 := yz h1
  obtain ⟨p, hp⟩ := ka _ _ _ _ _ hd
  obtain ⟨t1, t2⟩ := kf hr.pos hp
  have h2 := q0h ht hf n.toNat (r := ⟨r.b, r.b.length - l.length, false⟩) ⟨hr.len, Nat.sub_le _ _⟩ rfl
  simp only [t1] at h2
  rw [h1]
  exact h2
theorem zgi {r : Rd} (hr : r.Ok) (h0 : r.failed = false) : Got (dAV (r.b.drop r.pos)) r.b (rAV r) := by
 have h1 := qde 1 2 hr h0
 unfold dAV rAV
 cases hd : xm 1 2 (r.b.drop r.pos) with
 | none =>
  rw [hd] at h1
  simp only [Got] at h1 ⊢
  rw [if_pos h1]; exact h1
 | some x =>
  obtain ⟨n, l⟩ := x
  rw [hd] at h1
  have h1 := yz h1
  obtain ⟨p, hp⟩ := ka _ _ _ _ _ hd
  obtain ⟨t1, t2⟩ := kf hr.pos hp
  have hr1 : (⟨r.b, r.b.length - l.length, false⟩ : Rd).Ok := ⟨hr.len, Nat.sub_le _ _⟩
  rw [h1]
  simp only [Bool.false_eq_true, if_false]
  by_cases hn : n = 1
  ·have h2 := qtz hr1 rfl
   simp only [t1] at h2
   rw [if_pos hn, if_pos hn]
   cases hd2 : dInt l with
   | none => rw [hd2] at h2; exact h2
   | some x =>
    obtain ⟨v, l2⟩ := x
    rw [hd2] at h2
    have h2 := yz h2
    simp only [Got, h2]
  ·have h2 := qqb 40 hr1 rfl
   simp only [t1] at h2
   rw [if_neg hn, if_neg hn]
   cases hd2 : wq 40 l with
   | none => rw [hd2] at h2; exact h2
   | some x =>
    obtain ⟨v, l2⟩ := x
    rw [hd2] at h2
    have h2 := yz h2
    simp only [Got, h2]
theorem q4x (most : Int) : qkq [] (qcc most) (qhm most dInt) := y8 (fun r hr => (qfh (fun _ h => qa2 h) hr most).2) fun r hr hf => q0i qp9 (fun _ h1 h2 => qtz h1 h2) most hr hf
theorem xi5 (most : Int) : qkq [] (qdi most) (qhm most dAV) := y8 (fun r hr => (qfh (fun _ h => qsx h) hr most).2) fun r hr hf => q0i q4w (fun _ h1 h2 => zgi h1 h2) most hr hf
end Go.Proofs.YtinnaedmdoengaaGreat
namespace Go.Proofs.YtinnaedmdoengaaGreat
open Go.Abs
set_option linter.unusedSimpArgs false
set_option linter.unusedVariables false
noncomputable section
set_option maxRecDepth 100000
def xfs : List SOper := [
 ⟨some 2, .mov (.k (.d .nilsl)), none⟩,
 ⟨some 3, .mov (.k (.d (.int .i64 0))), none⟩]
def xft : List SOper := [
 ⟨some 5, .mov (.t 0), none⟩,
 ⟨some 6, .len (.t 5), none⟩,
 ⟨some 7, .bin .sub (.t 6) (.k (.d (.int .i64 8))), none⟩,
 ⟨some 4, .mov (.t 7), none⟩]
def xfu : List SOper := [
 ⟨some 8, .mov (.t 4), none⟩,
 ⟨some 9, .bin .lss (.t 8) (.k (.d (.int .i64 0))), none⟩]
def xfv : List SOper := [
 ⟨some 2, .mov (.k (.d .nilsl)), none⟩,
 ⟨some 3, .mov (.k (.d (.int .i64 4))), none⟩]
def xfw : List SOper := [
 ⟨some 10, .mov (.t 0), none⟩,
 ⟨some 11, .mov (.t 4), none⟩,
 ⟨some 12, .slice 1 (.t 10) none (some (.t 11)) none, none⟩,
 ⟨some 13, .call (.k (.d (.func (.func 154) [] []))) [(.t 12)], none⟩,
 ⟨some 14, .call (.k (.d (.func (.func 153) [] []))) [(.t 13)], none⟩,
 ⟨some 15, .mov (.t 0), none⟩,
 ⟨some 16, .mov (.t 4), none⟩,
 ⟨some 17, .slice 1 (.t 15) (some (.t 16)) none none, none⟩,
 ⟨some 18, .s2ap 8 (.t 17), none⟩,
 ⟨some 19, .load (some 8) (.t 18), none⟩,
 ⟨some 20, .eqAgg true [.int, .int, .int, .int, .int, .int, .int, .int] (.t 14) (.t 19), none⟩]
def xfx : List SOper := [
 ⟨some 2, .mov (.k (.d .nilsl)), none⟩,
 ⟨some 3, .mov (.k (.d (.int .i64 5))), none⟩]
def xfy : List SOper := [
 ⟨some 21, .mov (.t 0), none⟩,
 ⟨some 22, .mov (.t 4), none⟩,
 ⟨some 23, .slice 1 (.t 21) none (some (.t 22)) none, none⟩,
 ⟨some 24, .append false 1 1 (.k (.d .nilsl)) (.t 23), none⟩,
 ⟨some 2, .mov (.t 24), none⟩,
 ⟨some 3, .mov (.k (.d (.int .i64 0))), none⟩]
def s106 : SCode := (.seq (.region xfs 0 []) (.seq (.region xft 0 []) (.seq (.seq (.region xfu 0 []) (.cond (.t 9) (.seq (.region xfv 0 []) .ret) .skip)) (.seq (.seq (.region xfw 0 [(3, 9), (4, 9)]) (.cond (.t 20) (.seq (.region xfx 0 []) .ret) .skip)) (.seq (.region xfy 0 []) .ret)))))
theorem zm2 : qf s106.eq_1 := qg s106.eq_1
theorem x20 : qa xfs.eq_1 := qc
theorem x21 : qa xft.eq_1 := qc
theorem x22 : qa xfu.eq_1 := qc
theorem x23 : qa xfv.eq_1 := qc
theorem x24 : qa xfw.eq_1 := qc
theorem x25 : qa xfx.eq_1 := qc
theorem x26 : qa xfy.eq_1 := qc
attribute [go_sem] x20 x21 x22 x23 x24 x25 x26 zm2
theorem zgj : FnIs Tryz.prog 106 Tryz.f106 [] news s106 [.tmp 2, .tmp 3] 25 := xo follows Tryz.func106
def x27 : List SOper := [
 ⟨some 2, .alloc 1 [(.d (.int .i64 0)), (.d (.int .i64 0)), (.d (.int .i64 0)), (.d (.int .i64 0)), (.d (.int .i64 0)), (.d (.int .i64 0)), (.d (.int .i64 0)), (.d .nilsl), (.d .nilsl)], none⟩,
 ⟨some 3, .mov (.k (.d (.int .i64 0))), none⟩]
def x28 : List SOper := [
 ⟨some 11, .mov (.t 0), none⟩,
 ⟨some 12, .call (.k (.d (.func (.func 106) [] []))) [(.t 11)], none⟩,
 ⟨some 10, .mov (.t 12), none⟩,
 ⟨some 13, .extract 0 (.t 10), none⟩,
 ⟨some 14, .extract 1 (.t 10), none⟩,
 ⟨some 4, .mov (.t 13), none⟩,
 ⟨some 5, .mov (.t 14), none⟩]
def x29 : List SOper := [
 ⟨some 15, .mov (.t 5), none⟩,
 ⟨some 16, .bin .neq (.t 15) (.k (.d (.int .i64 0))), none⟩]
def x3a : List SOper := [
 ⟨some 17, .build [(.int .i64 0), (.int .i64 0), (.int .i64 0), (.int .i64 0), (.int .i64 0), (.int .i64 0), (.int .i64 0), .nilsl, .nilsl] [], none⟩,
 ⟨some 18, .mov (.t 5), none⟩,
 ⟨none, .store (some 9) (.t 2) (.t 17), none⟩,
 ⟨some 3, .mov (.t 18), none⟩]
def x3b : List SOper := [
 ⟨some 19, .mov (.t 4), none⟩,
 ⟨some 20, .call (.k (.d (.func (.func 54) [] []))) [(.t 19)], none⟩,
 ⟨some 6, .mov (.t 20), none⟩]
def x3c : List SOper := [
 ⟨some 7, .alloc 1 [(.d (.int .i64 0)), (.d (.int .i64 0)), (.d (.int .i64 0)), (.d (.int .i64 0)), (.d (.int .i64 0)), (.d (.int .i64 0)), (.d (.int .i64 0)), (.d .nilsl), (.d .nilsl)], none⟩]
def x3d : List SOper := [
 ⟨some 21, .faddr 0 (.t 7), none⟩,
 ⟨some 22, .faddr 1 (.t 7), none⟩,
 ⟨some 23, .faddr 2 (.t 7), none⟩,
 ⟨some 24, .faddr 3 (.t 7), none⟩,
 ⟨some 25, .faddr 4 (.t 7), none⟩,
 ⟨some 26, .faddr 5 (.t 7), none⟩,
 ⟨some 27, .faddr 6 (.t 7), none⟩,
 ⟨some 28, .buildSlice false 1 7 [.nilptr] [(0, 1, (.t 21)), (1, 1, (.t 22)), (2, 1, (.t 23)), (3, 1, (.t 24)), (4, 1, (.t 25)), (5, 1, (.t 26)), (6, 1, (.t 27))], none⟩,
 ⟨some 29, .len (.t 28), none⟩,
 ⟨some 30, .mov (.k (.d (.int .i64 0))), none⟩]
def x3e : List SOper := [
 ⟨some 31, .bin .lss (.t 30) (.t 29), none⟩]
def x3f : List SOper := [
 ⟨some 32, .iaddr 1 (.t 28) (.t 30), none⟩,
 ⟨some 33, .load none (.t 32), none⟩,
 ⟨some 9, .mov (.t 33), none⟩]
def x3g : List SOper := [
 ⟨some 34, .mov (.t 9), none⟩,
 ⟨some 35, .mov (.t 6), none⟩,
 ⟨some 36, .call (.k (.d (.func (.func 55) [] []))) [(.t 35)], none⟩,
 ⟨some 37, .nilCheck (.t 34), none⟩,
 ⟨none, .store none (.t 37) (.t 36), none⟩]
def xfz : List SOper := [
 ⟨some 38, .bin .add (.t 30) (.k (.d (.int .i64 1))), none⟩,
 ⟨some 30, .mov (.t 38), none⟩]
def q0j : SCode := (.seq (.region x3e 0 []) (.seq (.cond (.t 31) .skip (.exit 0)) (.seq (.block 1 (.seq (.region x3f 0 []) (.region x3g 0 []))) (.region xfz 0 []))))
theorem x3h : qf q0j.eq_1 := qg q0j.eq_1
def xf0 : List SOper := [
 ⟨some 39, .mov (.t 6), none⟩,
 ⟨some 40, .call (.k (.d (.func (.func 107) [] []))) [(.t 39), (.k (.d (.int .i64 4)))], none⟩,
 ⟨some 41, .mov (.t 6), none⟩,
 ⟨some 42, .call (.k (.d (.func (.func 108) [] []))) [(.t 41), (.k (.d (.int .i64 6)))], none⟩,
 ⟨some 43, .faddr 7 (.t 7), none⟩,
 ⟨none, .store none (.t 43) (.t 40), none⟩,
 ⟨some 44, .faddr 8 (.t 7), none⟩,
 ⟨none, .store none (.t 44) (.t 42), none⟩]
def xf1 : List SOper := [
 ⟨some 45, .mov (.t 6), none⟩,
 ⟨some 46, .call (.k (.d (.func (.func 109) [] []))) [(.t 45)], none⟩,
 ⟨some 47, .bin .neq (.t 46) (.k (.d (.int .i64 0))), none⟩,
 ⟨some 48, .mov (.t 47), none⟩,
 ⟨some 49, .load (some 9) (.t 7), some (48, false)⟩,
 ⟨some 50, .call (.k (.d (.func (.func 110) [] []))) [(.t 49)], some (48, false)⟩,
 ⟨some 51, .not (.t 50), some (48, false)⟩,
 ⟨some 52, .pick (.t 48) (.k (.d (.bool true))) (.t 51), none⟩]
def xf2 : List SOper := [
 ⟨some 53, .build [(.int .i64 0), (.int .i64 0), (.int .i64 0), (.int .i64 0), (.int .i64 0), (.int .i64 0), (.int .i64 0), .nilsl, .nilsl] [], none⟩,
 ⟨none, .store (some 9) (.t 2) (.t 53), none⟩,
 ⟨some 3, .mov (.k (.d (.int .i64 4))), none⟩]
def xf3 : List SOper := [
 ⟨some 54, .load (some 9) (.t 7), none⟩,
 ⟨none, .store (some 9) (.t 2) (.t 54), none⟩,
 ⟨some 3, .mov (.k (.d (.int .i64 0))), none⟩]
def s56 : SCode := (.seq (.region x27 1 []) (.seq (.region x28 0 []) (.seq (.seq (.region x29 0 []) (.cond (.t 16) (.seq (.region x3a 0 []) .ret) .skip)) (.seq (.region x3b 1 []) (.seq (.region x3c 1 []) (.seq (.seq (.region x3d 0 []) (.block 0 (.loop q0j))) (.seq (.region xf0 0 []) (.seq (.seq (.region xf1 0 []) (.cond (.t 52) (.seq (.region xf2 0 []) .ret) .skip)) (.seq (.region xf3 0 []) .ret)))))))))
theorem e56 : qf s56.eq_1 := qg s56.eq_1
theorem zgk : qa x27.eq_1 := qc
theorem zgl : qa x28.eq_1 := qc
theorem zgm : qa x29.eq_1 := qc
theorem zgn : qa x3a.eq_1 := qc
theorem zgo : qa x3b.eq_1 := qc
theorem zgp : qa x3c.eq_1 := qc
theorem zgq : qa x3d.eq_1 := qc
theorem zgr : qa x3e.eq_1 := qc
theorem zgs : qa x3f.eq_1 := qc
theorem zgt : qa x3g.eq_1 := qc
theorem x3i : qa xfz.eq_1 := qc
theorem x3j : qa xf0.eq_1 := qc
theorem x3k : qa xf1.eq_1 := qc
theorem x3l : qa xf2.eq_1 := qc
theorem x3m : qa xf3.eq_1 := qc
attribute [go_sem] zgk zgl zgm zgn zgo zgp zgq zgr zgs zgt x3i x3h x3j x3k x3l x3m e56
theorem F56 : FnIs Tryz.prog 56 Tryz.f56 [] news s56 [.cell 2 (some 9), .tmp 3] 55 := xo follows Tryz.func56
end
def qbp (b : List UInt8) : List UInt8 × Int :=
 if b.length < 8 then ([], 4) else if be8 (fnv 14695981039346656037 (b.take (b.length - 8))) = b.drop (b.length - 8) then (b.take (b.length - 8), 0) else ([], 5)
theorem qlv : ∀ (s t : List UInt8), s.length = t.length → eqOk (List.replicate s.length .int) (s.map zh) (t.map zh) = true
 | [], [], _ => rfl
 | [], _ :: _, h => by simp at h
 | _ :: _, [], h => by simp at h
 | a :: s, b :: t, h => by
  have := qlv s t (by simpa using h)
  simpa [List.replicate_succ, eqOk, zh] using this
theorem qfl : ∀ (s t : List UInt8), jg (s.map zh) (t.map zh) = (s == t)
 | [], [] => rfl
 | [], _ :: _ => rfl
 | _ :: _, [] => rfl
 | a :: s, b :: t => by
  have h := qfl s t
  have e : qh8 (zh a) (zh b) = (a == b) := by
   rw [Bool.eq_iff_iff]
   simp only [qh8, zh, beq_iff_eq]
   exact ⟨fun h => UInt8.toNat_inj.1 (by omega), fun h => by rw [h]⟩
  simp only [List.map_cons, jg, h, e]
  rfl
theorem x3n (s t : List UInt8) (hs : s.length = 8) (ht : t.length = 8) : eqOk [.int, .int, .int, .int, .int, .int, .int, .int] (s.map zh) (t.map zh) = true := by
 have := qlv s t (hs.trans ht.symm)
 rw [hs] at this; exact this
theorem q4y (b : List UInt8) (hb : b.length ≤ 1000000000) : ql Tryz.prog 106 [.d (.sl 1 (qe b))] [] (.tup [.d (.sl 1 (qe (qbp b).1)), .d (.int .i64 (qbp b).2)]) [] := by
 have hw : IntKind.i64.wrap ((b.length : Int) - 8) = (b.length : Int) - 8 := ze (by unfold I64; omega)
 refine zgj.goT ?_
 try (refine ev1 @hw ?_; try exact True.intro)
 refine ju _ (fun h => ?_) (fun h => ?_)
 ·have hx : qbp b = ([], 4) := by unfold qbp; rw [if_pos (by simp at h; omega)]
  try (refine ev2 @hx @xa ?_; try exact True.intro)
 have h8 : 8 ≤ b.length := by simp at h; omega
 have hn : (b.length : Int) - 8 = ((b.length - 8 : Nat) : Int) := by omega
 generalize hm : b.length - 8 = m at hn
 have hlt := qpi (h := 14695981039346656037) (by decide) (b.take m)
 have e2 : (b.drop m).take (b.length - m) = b.drop m := List.take_of_length_le (by rw [List.length_drop]; omega)
 have htl : (b.take m).length ≤ 1000000000 := by rw [List.length_take]; omega
 try (refine ev4 @hn @vi @wo @e2 ?_; try exact True.intro)
 have e1 : b.take (m - 0) = b.take m := rfl
 (repeat (with_reducible refine ob ?_)); first | refine cl xte (qhx (b.take m) htl) ?_ | refine clF xte (qhx (b.take m) htl) (fun _ => by (refine ev1 @qi.eq_1 ?_; try exact True.intro)) ?_
 try (refine ev ?_; try exact True.intro)
 (repeat (with_reducible refine ob ?_)); first | refine cl xto (qhy _ hlt) ?_ | refine clF xto (qhy _ hlt) (fun _ => by (refine ev1 @qi.eq_1 ?_; try exact True.intro)) ?_
 have hx1 : qbp b = if be8 (fnv 14695981039346656037 (b.take m)) = b.drop m then (b.take m, 0) else ([], 5) := by unfold qbp; rw [if_neg (by omega), hm]
 have ht : (b.drop m).length = 8 := by rw [List.length_drop]; omega
 have hA : List.take (b.length - m) (List.drop m (qe b)) = qe (b.drop m) := by rw [wo, vi, e2]
 have hF : List.take (m - 0) (qe b) = qe (b.take m) := by rw [vi, Nat.sub_zero]
 have h8' := ky (fnv 14695981039346656037 (b.take m))
 generalize b.drop m = t at hx1 ht hA
 generalize fnv 14695981039346656037 (b.take m) = f at hx1 hlt h8'
 have hB : List.take 8 (qe t) = qe t := List.take_of_length_le (by rw [x9]; omega)
 have hC : List.take 8 (t.map zh) = t.map zh := List.take_of_length_le (by rw [List.length_map]; omega)
 have hD := x3n (be8 f) t h8' ht
 have hG := yx t
 have hE := qfl (be8 f) t
 try (refine ev7 @hA @hB @hG @hC @hD @hE @List.length_map.{0,0} ?_; try exact True.intro)
 (repeat (with_reducible refine ob ?_))
 refine ju _ (fun h => ?_) (fun h => ?_)
 ·have hx : qbp b = ([], 5) := by rw [hx1, if_neg (by simpa using h)]
  try (refine ev2 @hx @xa ?_; try exact True.intro)
 ·have hx : qbp b = (b.take m, 0) := by rw [hx1, if_pos (by simpa using h)]
  try (refine ev2 @hx @hF ?_; try exact True.intro)
  omega
def yn : Nat → Rd → List Int × Rd
 | 0, r => ([], r)
 | n + 1, r => ((yn n r).1 ++ [(qao (yn n r).2).1], (qao (yn n r).2).2)
theorem qqj {r : Rd} (h : r.Ok) : ∀ n, (yn n r).2.Ok ∧ (yn n r).2.b = r.b ∧ (yn n r).1.length = n
 | 0 => ⟨h, rfl, rfl⟩
 | n + 1 => by
  have ih := qqj h n
  have := qp8 ih.1
  exact ⟨this.1, this.2.trans ih.2.1, by simp only [yn, List.length_append, ih.2.2, List.length_singleton]⟩
def pkOf (l : List Int) (v : List AV) (c : List Int) : Pk := ⟨l.getD 0 0, l.getD 1 0, l.getD 2 0, l.getD 3 0, l.getD 4 0, l.getD 5 0, l.getD 6 0, v, c⟩
def qqk (s : List UInt8) : Pk × Rd :=
 (pkOf (yn 7 ⟨s, 0, false⟩).1 (qdi 4 (yn 7 ⟨s, 0, false⟩).2).1 (qcc 6 (qdi 4 (yn 7 ⟨s, 0, false⟩).2).2).1, (qcc 6 (qdi 4 (yn 7 ⟨s, 0, false⟩).2).2).2)
def yo (b : List UInt8) : Pk × Int :=
 if (qbp b).2 ≠ 0 then (default, (qbp b).2) else if (rEnd (qqk (qbp b).1).2 != 0 || !xc (qqk (qbp b).1).1) = true then (default, 4) else ((qqk (qbp b).1).1, 0)
def q4z (r : Rd) (i : Nat) : St :=
 ⟨[(2, true, .d (.ptr 0 0)), (6, true, .d (.ptr 1 0)), (7, true, .d (.ptr 2 0)), (28, true, .d (.sl 1 [[.ptr 2 0], [.ptr 2 1], [.ptr 2 2], [.ptr 2 3], [.ptr 2 4], [.ptr 2 5], [.ptr 2 6]])), (29, true, .d (.int .i64 7)), (30, true, .d (.int .i64 (i : Nat)))],
  [.row ((qi default).map .d), rdO (yn i r).2, .row (((((yn i r).1 ++ List.replicate (7 - i) 0).map (D.int .i64)) ++ [.nilsl, .nilsl]).map .d)], [], 1⟩
theorem q40 (f : Int → D) (A : List Int) (t : List D) (n : Int) {i : Nat} (hA : A.length = i) (hi : i < 7) :
  ((A ++ List.replicate (7 - i) 0).map f ++ t).set i (f n) = ((A ++ [n]) ++ List.replicate (7 - (i + 1)) 0).map f ++ t := by
 have e : 7 - i = (7 - (i + 1)) + 1 := by omega
 rw [List.set_append_left _ _ (by simp; omega), ← List.map_set, List.set_append_right _ _ (by omega), hA, Nat.sub_self, e, List.replicate_succ, List.set_cons_zero, List.append_assoc, List.singleton_append]
theorem qwd (A : List Int) : D.noPtrL (A.map (D.int .i64) ++ [.nilsl, .nilsl]) = true := by
 rw [D.noPtrL_iff]
 intro d hd
 simp only [List.mem_append, List.mem_map, List.mem_cons, List.not_mem_nil, or_false] at hd
 rcases hd with ⟨n, _, rfl⟩ | rfl | rfl <;> rfl
theorem zgu {A : List Int} (h : A.length = 7) : ∃ a0 a1 a2 a3 a4 a5 a6, A = [a0, a1, a2, a3, a4, a5, a6] := by
 match A, h with
 | [a0, a1, a2, a3, a4, a5, a6], _ => exact ⟨a0, a1, a2, a3, a4, a5, a6, rfl⟩
theorem q0k (b : List UInt8) : (qbp b).1.length ≤ b.length := by
 unfold qbp
 split
 ·exact Nat.zero_le _
 ·split
  ·simp only [List.length_take]; omega
  ·exact Nat.zero_le _
set_option maxRecDepth 10000 in
theorem qwe (b : List UInt8) (hb : b.length ≤ 1000000000) : ql Tryz.prog 56 [.d (.sl 1 (qe b))] [] (.tup [.d (.agg (qi (yo b).1)), .d (.int .i64 (yo b).2)]) [] := by
 have hop := q4y b hb
 have hln := q0k b
 unfold yo
 generalize qbp b = x at hop hln ⊢
 obtain ⟨s, e⟩ := x
 simp only at hln
 refine F56.goT ?_
 try (refine ev ?_; try exact True.intro)
 (repeat (with_reducible refine ob ?_)); first | refine cl zgj (hop) ?_ | refine clF zgj (hop) (fun _ => by (refine ev1 @qi.eq_1 ?_; try exact True.intro)) ?_
 try (refine ev ?_; try exact True.intro)
 refine ju _ (fun h => ?_) (fun h => ?_)
 ·rw [if_pos (by simpa using h)]
  try (refine ev1 @qi.eq_1 ?_; try exact True.intro)
  exact ⟨rfl, rfl, rfl, rfl, rfl, rfl, rfl, rfl, rfl⟩
 have he : e = 0 := by simpa using h
 rw [if_neg (by simp [he])]
 have hnew := qnd s (by omega)
 simp only [rdO] at hnew
 try (refine ev ?_; try exact True.intro)
 refine clO [1] F54 hnew ?_
 try (refine ev ?_; try exact True.intro)
 have hr0 : (⟨s, 0, false⟩ : Rd).Ok := ⟨by simp only; omega, Nat.zero_le _⟩
 refine qv (fun i : { i : Nat // i ≤ 7 } => q4z ⟨s, 0, false⟩ i.val) (fun i => 7 - i.val) ⟨0, Nat.zero_le _⟩ ?_ (fun i => ?_)
 ·try simp only [q4z, yn, rdO, Int.ofNat_zero, qi, go_sem, Nat.reduceAdd, Nat.reduceMul, Nat.reduceSub, Nat.reduceEqDiff, Nat.reduceLT, Nat.reduceLeDiff, Nat.reduceBEq, reduceIte, reduceCtorEq, Int.reduceAdd, Int.reduceLT, Int.reduceLE, Int.reduceGT, Int.reduceGE, Int.reduceEq, Int.reduceNe, Int.reduceBEq, Int.reduceBNe, Int.reduceToNat, Int.reduceNeg]
  exact ⟨rfl, rfl, rfl, rfl, rfl, rfl, rfl, rfl, rfl⟩
 obtain ⟨i, hi⟩ := i
 obtain ⟨v1, v2, v3⟩ := qqj hr0 i
 have hI := qng _ v1
 have hsn : yn (i + 1) ⟨s, 0, false⟩ = ((yn i ⟨s, 0, false⟩).1 ++ [(qao (yn i ⟨s, 0, false⟩).2).1], (qao (yn i ⟨s, 0, false⟩).2).2) := rfl
 simp only [rdO] at hI
 try (refine ev2 @q4z.eq_1 @rdO.eq_1 ?_; try exact True.intro)
 refine ju _ (fun h => ?_) (fun h => ?_)
 ·have hil : i < 7 := by simp at h; omega
  have hg : List.getD [[D.ptr 2 0], [D.ptr 2 1], [D.ptr 2 2], [D.ptr 2 3], [D.ptr 2 4], [D.ptr 2 5], [D.ptr 2 6]] i [] = [D.ptr 2 i] := by
   have : i = 0 ∨ i = 1 ∨ i = 2 ∨ i = 3 ∨ i = 4 ∨ i = 5 ∨ i = 6 := by omega
   rcases this with rfl | rfl | rfl | rfl | rfl | rfl | rfl <;> rfl
  try (refine ev1 @hg ?_; try exact True.intro)
  (repeat (with_reducible refine ob ?_))
  (repeat (with_reducible refine ob ?_)); refine clO [1] F55 (hI) ?_ (hfit := by first | exact ⟨qd, trivial⟩ | exact ⟨qd, qd, trivial⟩ | (refine ev1 @qi.eq_1 ?_; try exact True.intro))
  try (refine ev ?_; try exact True.intro)
  have hset := q40 (D.int .i64) (yn i ⟨s, 0, false⟩).1 [.nilsl, .nilsl] (qao (yn i ⟨s, 0, false⟩).2).1 v3 hil
  refine ⟨by rw [v3, List.length_replicate]; omega, ⟨i + 1, hil⟩, ?_, by dsimp only; omega⟩
  try (refine ev6 @q4z.eq_1 @rdO.eq_1 @hsn @hset @yy (qr (show i < 9223372036854775807 by omega)) ?_; try exact True.intro)
  exact D.okWL_noPtr (qwd _)
 ·have hil : i = 7 := by simp at h; omega
  subst hil
  unfold qqk
  generalize yn 7 ⟨s, 0, false⟩ = x at v1 v3 ⊢
  obtain ⟨A, r1⟩ := x
  simp only at v1 v3
  obtain ⟨a0, a1, a2, a3, a4, a5, a6, rfl⟩ := zgu v3
  have hV := q4v r1 4 v1 (by decide)
  have iV := (q0g v1 4).1
  have lV := qfj (fun r => qfi (f := rAV) (most := 4) (r := r)) r1
  have hC := q0f _ 6 iV (by decide)
  have iC := (qwc iV 6).1
  have lC := qfj (fun r => qfi (f := rInt) (most := 6) (r := r)) (qdi 4 r1).2
  have hE := qzp _ iC
  simp only [rdO, Int.cast_ofNat_Int] at hV hC hE lV lC
  try (refine ev ?_; try exact True.intro)
  (repeat (with_reducible refine ob ?_)); refine clO [1] zkt (hV) ?_ (hfit := by first | exact ⟨qd, trivial⟩ | exact ⟨qd, qd, trivial⟩ | (refine ev1 @qi.eq_1 ?_; try exact True.intro))
  try (refine ev ?_; try exact True.intro)
  (repeat (with_reducible refine ob ?_)); refine clO [1] zks (hC) ?_ (hfit := by first | exact ⟨qd, trivial⟩ | exact ⟨qd, qd, trivial⟩ | (refine ev1 @qi.eq_1 ?_; try exact True.intro))
  try (refine ev ?_; try exact True.intro)
  (repeat (with_reducible refine ob ?_)); refine clO [1] zfd (hE) ?_ (hfit := by first | exact ⟨qd, trivial⟩ | exact ⟨qd, qd, trivial⟩ | (refine ev1 @qi.eq_1 ?_; try exact True.intro))
  try (refine ev ?_; try exact True.intro)
  generalize hp : pkOf [a0, a1, a2, a3, a4, a5, a6] (qdi 4 r1).1 (qcc 6 (qdi 4 r1).2).1 = p
  have hpe : qi p = [.int .i64 a0, .int .i64 a1, .int .i64 a2, .int .i64 a3, .int .i64 a4, .int .i64 a5, .int .i64 a6, .sl 3 ((qdi 4 r1).1.map xg), .sl 1 ((qcc 6 (qdi 4 r1).2).1.map encI)] := by rw [← hp]; rfl
  have hpm : p.Sm := by rw [← hp]; exact ⟨Nat.le_trans lV (by decide), Nat.le_trans lC (by decide)⟩
  have hv := vt p hpm.v hpm.c
  rw [hpe] at hv
  (repeat (with_reducible refine ob ?_)); first | refine cl q6x (hv) ?_ | refine clF q6x (hv) (fun _ => by (refine ev1 @qi.eq_1 ?_; try exact True.intro)) ?_
  try (refine ev ?_; try exact True.intro)
  (repeat (with_reducible refine ob ?_))
  refine ju _ (fun h => ?_) (fun h => ?_)
  ·rw [if_pos h]
   try (refine ev1 @qi.eq_1 ?_; try exact True.intro)
   exact ⟨rfl, rfl, rfl, rfl, rfl, rfl, rfl, rfl, rfl⟩
  ·rw [if_neg (by rw [h]; simp)]
   try (refine ev2 @hpe @qe3 ?_; try exact True.intro)
end Go.Proofs.YtinnaedmdoengaaGreat
namespace Go.Proofs.YtinnaedmdoengaaGreat
open Go.Abs
set_option linter.unusedSimpArgs false
set_option linter.unusedVariables false
theorem xi6 (s : List UInt8) : (((s.length : Nat) : Int) == 0) = (s == []) := by cases s <;> simp <;> omega
noncomputable section
set_option maxRecDepth 100000
def x3o : List SOper := [
 ⟨some 1, .box 1 (.t 0), none⟩,
 ⟨some 2, .mov (.k (.d .nilsl)), none⟩]
def x3p : List SOper := [
 ⟨some 3, .faddr 0 (.t 1), none⟩,
 ⟨some 4, .load none (.t 3), none⟩,
 ⟨some 5, .bin .eql (.t 4) (.k (.d (.int .i64 0))), none⟩,
 ⟨some 6, .mov (.t 5), none⟩,
 ⟨some 7, .faddr 1 (.t 1), some (6, true)⟩,
 ⟨some 8, .load none (.t 7), some (6, true)⟩,
 ⟨some 9, .bin .eql (.t 8) (.k (.d (.int .i64 0))), some (6, true)⟩,
 ⟨some 10, .pick (.t 6) (.t 9) (.k (.d (.bool false))), none⟩]
def x3q : List SOper := [
 ⟨some 2, .mov (.k (.d .nilsl)), none⟩]
def x3r : List SOper := [
 ⟨some 11, .faddr 0 (.t 1), none⟩,
 ⟨some 12, .load none (.t 11), none⟩,
 ⟨some 13, .call (.k (.d (.func (.func 91) [] []))) [(.k (.d .nilsl)), (.t 12)], none⟩,
 ⟨some 14, .faddr 1 (.t 1), none⟩,
 ⟨some 15, .load none (.t 14), none⟩,
 ⟨some 16, .call (.k (.d (.func (.func 91) [] []))) [(.t 13), (.t 15)], none⟩,
 ⟨some 2, .mov (.t 16), none⟩]
def s46 : SCode := (.seq (.region x3o 1 []) (.seq (.seq (.region x3p 0 []) (.cond (.t 10) (.seq (.region x3q 0 []) .ret) .skip)) (.seq (.region x3r 0 [(2, 4)]) .ret)))
theorem e46 : qf s46.eq_1 := qg s46.eq_1
theorem zgv : qa x3o.eq_1 := qc
theorem zgw : qa x3p.eq_1 := qc
theorem zgx : qa x3q.eq_1 := qc
theorem zgy : qa x3r.eq_1 := qc
attribute [go_sem] zgv zgw zgx zgy e46
theorem F46 : FnIs Tryz.prog 46 Tryz.f46 [] news s46 [.tmp 2] 17 := xo follows Tryz.func46
def x3s : List SOper := [
 ⟨some 2, .box 1 (.t 0), none⟩,
 ⟨some 4, .mov (.k (.d .nilsl)), none⟩]
def x3t : List SOper := [
 ⟨some 9, .faddr 2 (.t 2), none⟩,
 ⟨some 10, .load none (.t 9), none⟩,
 ⟨some 11, .len (.t 10), none⟩,
 ⟨some 12, .mov (.k (.d (.int .i64 0))), none⟩]
def x3u : List SOper := [
 ⟨some 13, .bin .lss (.t 12) (.t 11), none⟩]
def x3v : List SOper := [
 ⟨some 14, .iaddr 9 (.t 10) (.t 12), none⟩,
 ⟨some 15, .load (some 9) (.t 14), none⟩,
 ⟨some 6, .alloc 1 [(.d (.int .i64 0)), (.d (.int .i64 0)), (.d (.int .i64 0)), (.d (.int .i64 0)), (.d (.int .i64 0)), (.d (.int .i64 0)), (.d (.int .i64 0)), (.d .nilsl), (.d .nilsl)], none⟩,
 ⟨none, .store (some 9) (.t 6) (.t 15), none⟩]
def x3w : List SOper := [
 ⟨some 16, .faddr 5 (.t 6), none⟩,
 ⟨some 17, .load none (.t 16), none⟩,
 ⟨some 18, .bin .rem (.t 17) (.k (.d (.int .i64 4))), none⟩,
 ⟨some 19, .mov (.t 1), none⟩,
 ⟨some 20, .bin .eql (.t 18) (.t 19), none⟩]
def x3x : List SOper := [
 ⟨some 22, .load (some 9) (.t 6), none⟩,
 ⟨some 23, .call (.k (.d (.func (.func 92) [] []))) [(.t 22)], none⟩,
 ⟨some 21, .mov (.t 23), none⟩,
 ⟨some 24, .extract 0 (.t 21), none⟩,
 ⟨some 25, .extract 1 (.t 21), none⟩,
 ⟨some 7, .mov (.t 24), none⟩,
 ⟨some 8, .mov (.t 25), none⟩]
def x3y : List SOper := [
 ⟨some 26, .mov (.t 7), none⟩,
 ⟨some 4, .mov (.t 26), none⟩]
def x3z : List SOper := [
 ⟨some 27, .bin .add (.t 12) (.k (.d (.int .i64 1))), none⟩,
 ⟨some 12, .mov (.t 27), none⟩]
def xi7 : SCode := (.seq (.region x3u 0 []) (.seq (.cond (.t 13) .skip (.exit 0)) (.seq (.block 1 (.seq (.region x3v 1 []) (.seq (.region x3w 0 []) (.cond (.t 20) (.seq (.region x3x 0 []) (.seq (.region x3y 0 []) .ret)) .skip)))) (.region x3z 0 []))))
theorem zgz : qf xi7.eq_1 := qg xi7.eq_1
def x30 : List SOper := [
 ⟨some 4, .mov (.k (.d .nilsl)), none⟩]
def s48 : SCode := (.seq (.region x3s 1 []) (.seq (.seq (.region x3t 0 []) (.block 0 (.loop xi7))) (.seq (.region x30 0 []) .ret)))
theorem e48 : qf s48.eq_1 := qg s48.eq_1
theorem zg0 : qa x3s.eq_1 := qc
theorem zg1 : qa x3t.eq_1 := qc
theorem zg2 : qa x3u.eq_1 := qc
theorem zg3 : qa x3v.eq_1 := qc
theorem zg4 : qa x3w.eq_1 := qc
theorem zg5 : qa x3x.eq_1 := qc
theorem zg6 : qa x3y.eq_1 := qc
theorem zg7 : qa x3z.eq_1 := qc
theorem zg8 : qa x30.eq_1 := qc
attribute [go_sem] zg0 zg1 zg2 zg3 zg4 zg5 zg6 zg7 zgz zg8 e48
theorem F48 : FnIs Tryz.prog 48 Tryz.f48 [] news s48 [.tmp 4] 28 := xo follows Tryz.func48
def x31 : List SOper := [
 ⟨some 2, .mov (.k (.d (.str []))), none⟩]
def x32 : List SOper := [
 ⟨some 3, .mov (.t 0), none⟩,
 ⟨some 4, .bin .add (.t 3) (.k (.d (.str [47, 110]))), none⟩,
 ⟨some 2, .mov (.t 4), none⟩]
def s45 : SCode := (.seq (.region x31 0 []) (.seq (.region x32 0 []) .ret))
theorem e45 : qf s45.eq_1 := qg s45.eq_1
theorem zg9 : qa x31.eq_1 := qc
theorem zha : qa x32.eq_1 := qc
attribute [go_sem] zg9 zha e45
theorem F45 : FnIs Tryz.prog 45 Tryz.f45 [] news s45 [.tmp 2] 5 := xo follows Tryz.func45
def x33 : List SOper := [
 ⟨some 4, .mov (.k (.d (.str []))), none⟩]
def x34 : List SOper := [
 ⟨some 5, .mov (.t 0), none⟩,
 ⟨some 6, .bin .add (.t 5) (.k (.d (.str [47]))), none⟩,
 ⟨some 7, .mov (.t 1), none⟩,
 ⟨some 8, .bin .add (.k (.d (.int .i64 48))) (.t 7), none⟩,
 ⟨some 9, .conv .i32 (.t 8), none⟩,
 ⟨some 10, .i2s (.t 9), none⟩,
 ⟨some 11, .bin .add (.t 6) (.t 10), none⟩,
 ⟨some 4, .mov (.t 11), none⟩]
def s47 : SCode := (.seq (.region x33 0 []) (.seq (.region x34 0 []) .ret))
theorem e47 : qf s47.eq_1 := qg s47.eq_1
theorem zhb : qa x33.eq_1 := qc
theorem zhc : qa x34.eq_1 := qc
attribute [go_sem] zhb zhc e47
theorem F47 : FnIs Tryz.prog 47 Tryz.f47 [] news s47 [.tmp 4] 12 := xo follows Tryz.func47
def x35 : List SOper := [
 ⟨some 8, .mov (.k (.d .nilsl)), none⟩]
def x36 : List SOper := [
 ⟨some 9, .mov (.t 2), none⟩,
 ⟨some 10, .mov (.t 3), none⟩,
 ⟨some 11, .call (.k (.d (.func (.func 57) [] []))) [(.t 9), (.t 10)], none⟩]
def x37 : List SOper := [
 ⟨some 12, .mov (.t 0), none⟩,
 ⟨some 8, .mov (.t 12), none⟩]
def x38 : List SOper := [
 ⟨some 13, .mov (.t 0), none⟩,
 ⟨some 14, .mov (.t 1), none⟩,
 ⟨some 15, .mov (.t 3), none⟩,
 ⟨some 16, .len (.t 15), none⟩,
 ⟨some 17, .bin .eql (.t 16) (.k (.d (.int .i64 0))), none⟩,
 ⟨some 18, .mov (.t 3), none⟩,
 ⟨some 19, .build [(.str []), (.bool false), .nilsl] [(0, 1, (.t 14)), (1, 1, (.t 17)), (2, 1, (.t 18))], none⟩,
 ⟨some 20, .buildSlice false 3 1 [(.str []), (.bool false), .nilsl] [(0, 3, (.t 19))], none⟩,
 ⟨some 21, .append false 3 48 (.t 13) (.t 20), none⟩,
 ⟨some 8, .mov (.t 21), none⟩]
def s44 : SCode := (.seq (.region x35 0 []) (.seq (.seq (.region x36 0 []) (.cond (.t 11) (.seq (.region x37 0 []) .ret) .skip)) (.seq (.region x38 0 []) .ret)))
theorem e44 : qf s44.eq_1 := qg s44.eq_1
theorem zhd : qa x35.eq_1 := qc
theorem zhe : qa x36.eq_1 := qc
theorem zhf : qa x37.eq_1 := qc
theorem zhg : qa x38.eq_1 := qc
attribute [go_sem] zhd zhe zhf zhg e44
theorem F44 : FnIs Tryz.prog 44 Tryz.f44 [] news s44 [.tmp 8] 22 := xo follows Tryz.func44
def x39 : List SOper := [
 ⟨some 2, .mov (.k (.d (.bool false))), none⟩]
def x4a : List SOper := [
 ⟨some 3, .mov (.t 0), none⟩,
 ⟨some 4, .lenS (.t 3), none⟩,
 ⟨some 5, .bin .geq (.t 4) (.k (.d (.int .i64 1))), none⟩,
 ⟨some 6, .mov (.t 5), none⟩,
 ⟨some 7, .mov (.t 0), some (6, true)⟩,
 ⟨some 8, .lenS (.t 7), some (6, true)⟩,
 ⟨some 9, .bin .leq (.t 8) (.k (.d (.int .i64 30))), some (6, true)⟩,
 ⟨some 10, .pick (.t 6) (.t 9) (.k (.d (.bool false))), none⟩,
 ⟨some 2, .mov (.t 10), none⟩]
def s43 : SCode := (.seq (.region x39 0 []) (.seq (.region x4a 0 []) .ret))
theorem e43 : qf s43.eq_1 := qg s43.eq_1
theorem zhh : qa x39.eq_1 := qc
theorem zhi : qa x4a.eq_1 := qc
attribute [go_sem] zhh zhi e43
theorem F43 : FnIs Tryz.prog 43 Tryz.f43 [] news s43 [.tmp 2] 11 := xo follows Tryz.func43
def x4b : List SOper := [
 ⟨some 4, .mov (.k (.d (.bool false))), none⟩]
def x4c : List SOper := [
 ⟨some 5, .mov (.t 0), none⟩,
 ⟨some 6, .b2s (.t 5), none⟩,
 ⟨some 7, .mov (.t 1), none⟩,
 ⟨some 8, .b2s (.t 7), none⟩,
 ⟨some 9, .bin .eql (.t 6) (.t 8), none⟩,
 ⟨some 4, .mov (.t 9), none⟩]
def s57 : SCode := (.seq (.region x4b 0 []) (.seq (.region x4c 0 []) .ret))
theorem e57 : qf s57.eq_1 := qg s57.eq_1
theorem zhj : qa x4b.eq_1 := qc
theorem zhk : qa x4c.eq_1 := qc
attribute [go_sem] zhj zhk e57
theorem F57 : FnIs Tryz.prog 57 Tryz.f57 [] news s57 [.tmp 4] 10 := xo follows Tryz.func57
def x4d : List SOper := [
 ⟨some 3, .box 2 (.t 0), none⟩,
 ⟨some 4, .box 1 (.t 1), none⟩,
 ⟨some 6, .mov (.k (.d .nilsl)), none⟩,
 ⟨some 7, .mov (.k (.d (.int .i64 0))), none⟩]
def x4e : List SOper := [
 ⟨some 10, .load (some 3) (.t 3), none⟩,
 ⟨some 11, .call (.k (.d (.func (.func 42) [] []))) [(.t 10)], none⟩,
 ⟨some 12, .not (.t 11), none⟩,
 ⟨some 13, .mov (.t 12), none⟩,
 ⟨some 14, .load (some 3) (.t 4), some (13, false)⟩,
 ⟨some 15, .call (.k (.d (.func (.func 42) [] []))) [(.t 14)], some (13, false)⟩,
 ⟨some 16, .not (.t 15), some (13, false)⟩,
 ⟨some 17, .pick (.t 13) (.k (.d (.bool true))) (.t 16), none⟩,
 ⟨some 18, .mov (.t 17), none⟩,
 ⟨some 19, .mov (.t 2), some (18, false)⟩,
 ⟨some 20, .call (.k (.d (.func (.func 43) [] []))) [(.t 19)], some (18, false)⟩,
 ⟨some 21, .not (.t 20), some (18, false)⟩,
 ⟨some 22, .pick (.t 18) (.k (.d (.bool true))) (.t 21), none⟩]
def x4f : List SOper := [
 ⟨some 6, .mov (.k (.d .nilsl)), none⟩,
 ⟨some 7, .mov (.k (.d (.int .i64 1))), none⟩]
def x4g : List SOper := [
 ⟨some 23, .mov (.t 2), none⟩,
 ⟨some 24, .call (.k (.d (.func (.func 45) [] []))) [(.t 23)], none⟩,
 ⟨some 25, .load (some 3) (.t 3), none⟩,
 ⟨some 26, .call (.k (.d (.func (.func 46) [] []))) [(.t 25)], none⟩,
 ⟨some 27, .load (some 3) (.t 4), none⟩,
 ⟨some 28, .call (.k (.d (.func (.func 46) [] []))) [(.t 27)], none⟩,
 ⟨some 29, .call (.k (.d (.func (.func 44) [] []))) [(.k (.d .nilsl)), (.t 24), (.t 26), (.t 28)], none⟩,
 ⟨some 8, .mov (.t 29), none⟩]
def x4h : List SOper := [
 ⟨some 30, .mov (.k (.d (.int .i64 0))), none⟩]
def x4i : List SOper := [
 ⟨some 31, .bin .lss (.t 30) (.k (.d (.int .i64 4))), none⟩]
def x4j : List SOper := [
 ⟨some 32, .mov (.t 30), none⟩,
 ⟨some 9, .mov (.t 32), none⟩]
def x4k : List SOper := [
 ⟨some 33, .mov (.t 8), none⟩,
 ⟨some 34, .mov (.t 2), none⟩,
 ⟨some 35, .mov (.t 9), none⟩,
 ⟨some 36, .call (.k (.d (.func (.func 47) [] []))) [(.t 34), (.t 35)], none⟩,
 ⟨some 37, .load (some 3) (.t 3), none⟩,
 ⟨some 38, .mov (.t 9), none⟩,
 ⟨some 39, .call (.k (.d (.func (.func 48) [] []))) [(.t 37), (.t 38)], none⟩,
 ⟨some 40, .load (some 3) (.t 4), none⟩,
 ⟨some 41, .mov (.t 9), none⟩,
 ⟨some 42, .call (.k (.d (.func (.func 48) [] []))) [(.t 40), (.t 41)], none⟩,
 ⟨some 43, .call (.k (.d (.func (.func 44) [] []))) [(.t 33), (.t 36), (.t 39), (.t 42)], none⟩,
 ⟨some 8, .mov (.t 43), none⟩]
def x4l : List SOper := [
 ⟨some 44, .bin .add (.t 30) (.k (.d (.int .i64 1))), none⟩,
 ⟨some 30, .mov (.t 44), none⟩]
def xi8 : SCode := (.seq (.region x4i 0 []) (.seq (.cond (.t 31) .skip (.exit 0)) (.seq (.block 1 (.seq (.region x4j 0 []) (.region x4k 0 [(3, 4), (3, 7), (6, 7)]))) (.region x4l 0 []))))
theorem zhl : qf xi8.eq_1 := qg xi8.eq_1
def xf4 : List SOper := [
 ⟨some 45, .mov (.t 8), none⟩,
 ⟨some 6, .mov (.t 45), none⟩,
 ⟨some 7, .mov (.k (.d (.int .i64 0))), none⟩]
def s11 : SCode := (.seq (.region x4d 2 []) (.seq (.seq (.region x4e 0 []) (.cond (.t 22) (.seq (.region x4f 0 []) .ret) .skip)) (.seq (.region x4g 0 [(1, 2), (1, 4), (3, 4)]) (.seq (.seq (.region x4h 0 []) (.block 0 (.loop xi8))) (.seq (.region xf4 0 []) .ret)))))
theorem e11 : qf s11.eq_1 := qg s11.eq_1
theorem zhm : qa x4d.eq_1 := qc
theorem zhn : qa x4e.eq_1 := qc
theorem zho : qa x4f.eq_1 := qc
theorem zhp : qa x4g.eq_1 := qc
theorem zhq : qa x4h.eq_1 := qc
theorem zhr : qa x4i.eq_1 := qc
theorem zhs : qa x4j.eq_1 := qc
theorem zht : qa x4k.eq_1 := qc
theorem zhu : qa x4l.eq_1 := qc
theorem x4m : qa xf4.eq_1 := qc
attribute [go_sem] zhm zhn zho zhp zhq zhr zhs zht zhu zhl x4m e11
theorem F11 : FnIs Tryz.prog 11 Tryz.f11 [] news s11 [.tmp 6, .tmp 7] 46 := xo follows Tryz.func11
end
theorem qbq (a b : List UInt8) : ql Tryz.prog 57 [.d (.sl 1 (qe a)), .d (.sl 1 (qe b))] [] (.d (.bool (a == b))) [] := by
 refine F57.go ?_
 try (refine ev ?_; try exact True.intro)
def qjt (s : List UInt8) : Bool := decide ((s.length : Int) ≥ 1) && decide ((s.length : Int) ≤ 30)
theorem qfm (s : List UInt8) : ql Tryz.prog 43 [.d (.str s)] [] (.d (.bool (qjt s))) [] := by
 refine F43.go ?_
 try (refine ev1 @qjt.eq_1 ?_; try exact True.intro)
def nKey (s : List UInt8) : List UInt8 := s ++ [47, 110]
def sKey (s : List UInt8) (d : Nat) : List UInt8 := s ++ [47, UInt8.ofNat (48 + d)]
theorem qni (s : List UInt8) (h : s.length ≤ 1000) : ql Tryz.prog 45 [.d (.str s)] [] (.d (.str (nKey s))) [] := by
 refine F45.go ?_
 try (refine ev1 @nKey.eq_1 ?_; try exact True.intro)
 omega
theorem qgl (s : List UInt8) (d : Nat) (h : s.length ≤ 1000) (hd : d < 4) : ql Tryz.prog 47 [.d (.str s), .d (.int .i64 d)] [] (.d (.str (sKey s d))) [] := by
 refine F47.go ?_
 have h4 : d = 0 ∨ d = 1 ∨ d = 2 ∨ d = 3 := by omega
 have e0 : (Utf8.encode (IntKind.i32.wrap (IntKind.i64.wrap 48))).data.toList = [48] := by decide
 have e1 : (Utf8.encode (IntKind.i32.wrap (IntKind.i64.wrap 49))).data.toList = [49] := by decide
 have e2 : (Utf8.encode (IntKind.i32.wrap (IntKind.i64.wrap 50))).data.toList = [50] := by decide
 have e3 : (Utf8.encode (IntKind.i32.wrap (IntKind.i64.wrap 51))).data.toList = [51] := by decide
 rcases h4 with rfl | rfl | rfl | rfl
 all_goals
  try (refine ev6 @sKey.eq_1 @e0 @e1 @e2 @e3 @List.append_assoc.{0} ?_; try exact True.intro)
  exact ⟨by omega, by omega, rfl⟩
def k8 (q : Qu) : List UInt8 := if q.acc = 0 ∧ q.cons = 0 then [] else wInt q.acc ++ wInt q.cons
theorem qfn (q : Qu) (h1 : I64 q.acc) (h2 : I64 q.cons) : ql Tryz.prog 46 [.d (.agg (encQ q))] [] (.d (.sl 1 (qe (k8 q)))) [] := by
 have a1 := x7 h1
 refine F46.go ?_
 try (refine ev1 @encQ.eq_1 ?_; try exact True.intro)
 refine ju _ (fun h => ?_) (fun h => ?_)
 ·have hb : k8 q = [] := by unfold k8; rw [if_pos]; simpa using h
  try (refine ev2 @hb @xa ?_; try exact True.intro)
 ·have hb : k8 q = wInt q.acc ++ wInt q.cons := by unfold k8; rw [if_neg]; simpa using h
  try (refine ev ?_; try exact True.intro)
  refine clA F91 (jp [] q.acc (by simp) h1) ?_
  try (refine ev ?_; try exact True.intro)
  refine clA F91 (jp ([] ++ wInt q.acc) q.cons (by rw [List.nil_append]; omega) h2) ?_
  try (refine ev1 @hb ?_; try exact True.intro)
theorem q0l {α : Type} {f : α → Bool} {l : List α} {i : Nat} (hi : (l.take i).find? f = none) (hil : i < l.length) (h : f l[i] = true) : l.find? f = some l[i] := by
 have e : l.find? f = (l.take i ++ l.drop i).find? f := by rw [List.take_append_drop]
 rw [e, List.find?_append, hi, List.drop_eq_getElem_cons hil]
 simp only [Option.none_or, List.find?_cons, h]
def vw (q : Qu) (d : Int) : List UInt8 := match q.items.find? (fun p => p.seq.tmod 4 == d) with
 | some p => (vm p).1
 | none => []
def qt0 (q : Qu) (d : Int) (i : { i : Nat // (q.items.take i).find? (fun p => p.seq.tmod 4 == d) = none }) : St :=
 ⟨[(1, true, .d (.int .i64 d)), (10, true, .d (.sl 9 (q.items.map qi))), (11, true, .d (.int .i64 q.items.length)), (12, true, .d (.int .i64 (i.val : Nat)))], [], [], 1⟩
structure Qu.W (q : Qu) : Prop where
 a : I64 q.acc
 c : I64 q.cons
 p : ∀ p ∈ q.items, p.W
set_option maxRecDepth 10000 in
theorem qfo (q : Qu) (d : Int) (hq : q.Sm) (hw : q.W) : ql Tryz.prog 48 [.d (.agg (encQ q)), .d (.int .i64 d)] [] (.d (.sl 1 (qe (vw q d)))) [] := by
 have hl := hq.1
 refine F48.go ?_
 try (refine ev1 @encQ.eq_1 ?_; try exact True.intro)
 refine qv (qt0 q d) (fun i => q.items.length - i.val) ⟨0, rfl⟩ ?_ (fun i => ?_)
 ·try (refine ev2 @qt0.eq_1 @Int.ofNat_zero ?_; try exact True.intro)
 obtain ⟨i, hi⟩ := i
 try (refine ev1 @qt0.eq_1 ?_; try exact True.intro)
 refine ju _ (fun h => ?_) (fun h => ?_)
 ·have hil : i < q.items.length := by simpa using h
  have hen := qvz q.items[i] (hq.2 _ (List.getElem_mem hil)) (hw.p _ (List.getElem_mem hil))
  simp only [qi] at hen
  try (refine ev2 (qz qi q.items hil) @qi.eq_1 ?_; try exact True.intro)
  (repeat (with_reducible refine ob ?_))
  refine ju _ (fun h => ?_) (fun h => ?_)
  ·have hb : vw q d = (vm q.items[i]).1 := by
    unfold vw; rw [q0l hi hil h]
   try (refine ev ?_; try exact True.intro)
   (repeat (with_reducible refine ob ?_)); first | refine cl F92 (hen) ?_ | refine clF F92 (hen) (fun _ => by (refine ev3 @qi.eq_1 @encQ.eq_1 @qp.eq_1 ?_; try exact True.intro)) ?_
   try (refine ev1 @hb ?_; try exact True.intro)
  ·try (refine ev ?_; try exact True.intro)
   refine ⟨⟨i + 1, ?_⟩, ?_, by dsimp only; omega⟩
   ·rw [List.take_succ_eq_append_getElem hil, List.find?_append, hi]
    simp only [Option.none_or, List.find?_cons, h, List.find?_nil]
   ·try (refine ev2 @qt0.eq_1 (qr (show i < 9223372036854775807 by omega)) ?_; try exact True.intro)
 ·have hil : q.items.length ≤ i := by simpa using h
  have hb : vw q d = [] := by
   rw [List.take_of_length_le hil] at hi
   unfold vw; rw [hi]
  try (refine ev2 @hb @xa ?_; try exact True.intro)
def chg (k : List UInt8) (old next : List UInt8) : List OpS := if old = next then [] else [⟨k, next == [], next⟩]
theorem qql (l : List OpS) (k old next : List UInt8) (hl : l.length ≤ 1000) : ql Tryz.prog 44 [.own 0 3 (l.map qp), .d (.str k), .d (.sl 1 (qe old)), .d (.sl 1 (qe next))] [] (.own 0 3 ((l ++ chg k old next).map qp)) [] := by
 refine F44.go ?_
 try (refine ev ?_; try exact True.intro)
 (repeat (with_reducible refine ob ?_)); first | refine cl F57 (qbq old next) ?_ | refine clF F57 (qbq old next) (fun _ => by (refine ev3 @qi.eq_1 @encQ.eq_1 @qp.eq_1 ?_; try exact True.intro)) ?_
 try (refine ev ?_; try exact True.intro)
 refine ju _ (fun h => ?_) (fun h => ?_)
 ·have hb : chg k old next = [] := by unfold chg; rw [if_pos (by simpa using h)]
  try (refine ev2 @hb @List.append_nil.{0} ?_; try exact True.intro)
 ·have hb : chg k old next = [⟨k, next == [], next⟩] := by unfold chg; rw [if_neg (by simpa using h)]
  try (refine ev6 @hb @List.map_append.{0,0} @List.map_cons.{0,0} @List.map_nil.{0,0} @qp.eq_1 @xi6 ?_; try exact True.intro)
  omega
def zn (a b : Qu) (name : List UInt8) : Nat → List OpS
 | 0 => chg (nKey name) (k8 a) (k8 b)
 | d + 1 => zn a b name d ++ chg (sKey name d) (vw a d) (vw b d)
def qa4 (a b : Qu) (name : List UInt8) : List OpS × Int := if (!vu a || !vu b || !qjt name) = true then ([], 1) else (zn a b name 4, 0)
theorem q0m (k a b : List UInt8) : (chg k a b).length ≤ 1 := by unfold chg; split <;> simp
theorem qbr (a b : Qu) (name : List UInt8) : ∀ d, (zn a b name d).length ≤ d + 1
 | 0 => q0m _ _ _
 | d + 1 => by
  have := qbr a b name d
  have := q0m (sKey name d) (vw a d) (vw b d)
  rw [zn, List.length_append]; omega
def q41 (a b : Qu) (name : List UInt8) (d : Nat) : St :=
 ⟨[(2, true, .d (.str name)), (3, true, .d (.ptr 0 0)), (4, true, .d (.ptr 1 0)), (8, true, .own 0 3 ((zn a b name d).map qp)), (30, true, .d (.int .i64 (d : Nat)))], [.row ((encQ a).map .d), .row ((encQ b).map .d)], [0], 1⟩
set_option maxRecDepth 10000 in
theorem qsz (a b : Qu) (name : List UInt8) (ha : a.Sm) (wa : a.W) (hb : b.Sm) (wb : b.W) (hn : name.length ≤ 1000) :
  ql Tryz.prog 11 [.d (.agg (encQ a)), .d (.agg (encQ b)), .d (.str name)] [] (.tup [.d (.sl 3 ((qa4 a b name).1.map qp)), .d (.int .i64 (qa4 a b name).2)]) [] := by
 refine F11.goT ?_
 try (refine ev1 @encQ.eq_1 ?_; try exact True.intro)
 (repeat (with_reducible refine ob ?_)); first | refine cl F42 (qai a ha) ?_ | refine clF F42 (qai a ha) (fun _ => by (refine ev3 @qi.eq_1 @encQ.eq_1 @qp.eq_1 ?_; try exact True.intro)) ?_
 try (refine ev ?_; try exact True.intro)
 (repeat (with_reducible refine ob ?_)); first | refine cl F42 (qai b hb) ?_ | refine clF F42 (qai b hb) (fun _ => by (refine ev3 @qi.eq_1 @encQ.eq_1 @qp.eq_1 ?_; try exact True.intro)) ?_
 try (refine ev ?_; try exact True.intro)
 (repeat (with_reducible refine ob ?_)); first | refine cl F43 (qfm name) ?_ | refine clF F43 (qfm name) (fun _ => by (refine ev3 @qi.eq_1 @encQ.eq_1 @qp.eq_1 ?_; try exact True.intro)) ?_
 try (refine ev ?_; try exact True.intro)
 (repeat (with_reducible refine ob ?_))
 refine ju _ (fun h => ?_) (fun h => ?_)
 ·have hx : qa4 a b name = ([], 1) := by unfold qa4; rw [if_pos h]
  try (refine ev2 @hx @List.map_nil.{0,0} ?_; try exact True.intro)
 have hx : qa4 a b name = (zn a b name 4, 0) := by unfold qa4; rw [if_neg]; simp [h]
 try (refine ev ?_; try exact True.intro)
 (repeat (with_reducible refine ob ?_)); first | refine cl F45 (qni name hn) ?_ | refine clF F45 (qni name hn) (fun _ => by (refine ev3 @qi.eq_1 @encQ.eq_1 @qp.eq_1 ?_; try exact True.intro)) ?_
 try (refine ev ?_; try exact True.intro)
 (repeat (with_reducible refine ob ?_)); first | refine cl F46 (qfn a wa.a wa.c) ?_ | refine clF F46 (qfn a wa.a wa.c) (fun _ => by (refine ev3 @qi.eq_1 @encQ.eq_1 @qp.eq_1 ?_; try exact True.intro)) ?_
 try (refine ev ?_; try exact True.intro)
 (repeat (with_reducible refine ob ?_)); first | refine cl F46 (qfn b wb.a wb.c) ?_ | refine clF F46 (qfn b wb.a wb.c) (fun _ => by (refine ev3 @qi.eq_1 @encQ.eq_1 @qp.eq_1 ?_; try exact True.intro)) ?_
 try (refine ev ?_; try exact True.intro)
 refine clA F44 (qql [] (nKey name) (k8 a) (k8 b) (by simp)) ?_
 try (refine ev ?_; try exact True.intro)
 refine qv (fun d : { d : Nat // d ≤ 4 } => q41 a b name d.val) (fun d => 4 - d.val) ⟨0, Nat.zero_le _⟩ ?_ (fun d => ?_)
 ·try simp only [q41, Int.ofNat_zero, zn, encQ, go_sem, Nat.reduceAdd, Nat.reduceMul, Nat.reduceSub, Nat.reduceEqDiff, Nat.reduceLT, Nat.reduceLeDiff, Nat.reduceBEq, reduceIte, reduceCtorEq, Int.reduceAdd, Int.reduceLT, Int.reduceLE, Int.reduceGT, Int.reduceGE, Int.reduceEq, Int.reduceNe, Int.reduceBEq, Int.reduceBNe, Int.reduceToNat, Int.reduceNeg]
 obtain ⟨d, hd⟩ := d
 try (refine ev2 @q41.eq_1 @encQ.eq_1 ?_; try exact True.intro)
 refine ju _ (fun h => ?_) (fun h => ?_)
 ·have hl : d < 4 := by simp at h; omega
  have := qbr a b name d
  try (refine ev ?_; try exact True.intro)
  (repeat (with_reducible refine ob ?_)); first | refine cl F47 (qgl name d hn hl) ?_ | refine clF F47 (qgl name d hn hl) (fun _ => by (refine ev3 @qi.eq_1 @encQ.eq_1 @qp.eq_1 ?_; try exact True.intro)) ?_
  try (refine ev ?_; try exact True.intro)
  (repeat (with_reducible refine ob ?_)); first | refine cl F48 (qfo a d ha wa) ?_ | refine clF F48 (qfo a d ha wa) (fun _ => by (refine ev3 @qi.eq_1 @encQ.eq_1 @qp.eq_1 ?_; try exact True.intro)) ?_
  try (refine ev ?_; try exact True.intro)
  (repeat (with_reducible refine ob ?_)); first | refine cl F48 (qfo b d hb wb) ?_ | refine clF F48 (qfo b d hb wb) (fun _ => by (refine ev3 @qi.eq_1 @encQ.eq_1 @qp.eq_1 ?_; try exact True.intro)) ?_
  try (refine ev ?_; try exact True.intro)
  refine clA F44 (qql (zn a b name d) (sKey name d) (vw a d) (vw b d) (by omega)) ?_
  try (refine ev ?_; try exact True.intro)
  refine ⟨⟨d + 1, hl⟩, ?_, by dsimp only; omega⟩
  try simp only [q41, encQ, zn, qr (show d < 9223372036854775807 by omega), go_sem, Nat.reduceAdd, Nat.reduceMul, Nat.reduceSub, Nat.reduceEqDiff, Nat.reduceLT, Nat.reduceLeDiff, Nat.reduceBEq, reduceIte, reduceCtorEq, Int.reduceAdd, Int.reduceLT, Int.reduceLE, Int.reduceGT, Int.reduceGE, Int.reduceEq, Int.reduceNe, Int.reduceBEq, Int.reduceBNe, Int.reduceToNat, Int.reduceNeg]
 ·have hl : d = 4 := by simp at h; omega
  subst hl
  try (refine ev1 @hx ?_; try exact True.intro)
end Go.Proofs.YtinnaedmdoengaaGreat
namespace Go.Proofs.YtinnaedmdoengaaGreat
open Go.Abs
set_option linter.unusedSimpArgs false
set_option linter.unusedVariables false
theorem xi9 {u : Nat} (h : u < 18446744073709551616) : I64 (unz u) := by unfold unz I64; split <;> omega
theorem w8 : I64 0 := by unfold I64; omega
theorem qqm : ∀ (k i u : Nat) (r : Rd), I64 (qfb k i u r).1
 | 0, i, u, r => w8
 | k + 1, i, u, r => by
  rw [qfb]
  split
  ·exact w8
  ·split
   ·exact xi9 (Nat.mod_lt _ (by decide))
   ·exact qqm k _ _ _
theorem qh0 (r : Rd) : I64 (rInt r).1 := qqm 10 0 0 r
theorem q0n (r : Rd) : I64 (qao r).1 := by
 unfold qao qak
 split
 ·exact w8
 ·split
  ·exact w8
  ·exact qh0 r
theorem qs0 (most : Nat) (r : Rd) : (jr most r).1.length ≤ most := by
 unfold jr
 split
 ·exact Nat.zero_le _
 ·rename_i h
  have := (w7 (by simpa using h)).2
  unfold jk
  split
  ·exact Nat.zero_le _
  ·simp only [List.length_take]; omega
theorem x4n (r : Rd) : (rAV r).1.Sm := by
 have hb : I64 (qy 1 2 r).1 := qh0 r
 unfold rAV
 split
 ·exact ⟨hb, w8, Nat.zero_le _⟩
 ·split
  ·exact ⟨hb, qh0 _, Nat.zero_le _⟩
  ·exact ⟨hb, w8, Nat.le_trans (qs0 40 _) (by decide)⟩
theorem qju {α : Type} {f : Rd → α × Rd} {Q : α → Prop} (h : ∀ r, Q (f r).1) : ∀ (n : Nat) (r : Rd), ∀ x ∈ (we f n r).1, Q x
 | 0, r, x, hx => by cases hx
 | n + 1, r, x, hx => by
  rw [we] at hx
  split at hx
  ·cases hx
  ·rcases List.mem_cons.1 hx with rfl | hx
   ·exact h r
   ·exact qju h n _ x hx
theorem qqn {α : Type} {f : Rd → List α × Rd} {Q : α → Prop} (h : ∀ r, ∀ x ∈ (f r).1, Q x) (r : Rd) : ∀ x ∈ (qak [] f r).1, Q x := by
 unfold qak
 split
 ·intro x hx; cases hx
 ·split
  ·intro x hx; cases hx
  ·exact h r
theorem qqo (r : Rd) : ∀ n, ∀ x ∈ (yn n r).1, I64 x
 | 0, x, hx => by cases hx
 | n + 1, x, hx => by
  rcases List.mem_append.1 hx with hx | hx
  ·exact qqo r n x hx
  ·simp at hx; subst hx; exact q0n _
theorem q42 {l : List Int} (h : ∀ x ∈ l, I64 x) (i : Nat) : I64 (l.getD i 0) := by
 rw [List.getD_eq_getElem?_getD]
 cases hg : l[i]? with
 | none => exact w8
 | some x => exact h x (List.mem_of_getElem? hg)
theorem x4o {l : List Int} {v : List AV} {c : List Int} (h1 : ∀ x ∈ l, I64 x) (h2 : ∀ x ∈ v, x.Sm) (h3 : ∀ x ∈ c, I64 x) : (pkOf l v c).W := by
 refine ⟨fun x hx => ?_, h2, h3⟩
 simp only [zr, pkOf, List.mem_cons, List.not_mem_nil, or_false] at hx
 rcases hx with rfl | rfl | rfl | rfl | rfl | rfl | rfl <;> exact q42 h1 _
theorem q0o : (default : Pk).W := ⟨fun x hx => by
 simp only [zr, List.mem_cons, List.not_mem_nil, or_false] at hx
 rcases hx with rfl | rfl | rfl | rfl | rfl | rfl | rfl <;> exact w8, fun x hx => (by cases hx), fun x hx => (by cases hx)⟩
theorem q0p (b : List UInt8) : (yo b).1.W ∧ (yo b).1.Sm := by
 have h1 : (qqk (qbp b).1).1.W := x4o (qqo _ 7) (qqn (fun r => qju x4n _ _) _) (qqn (fun r => qju qh0 _ _) _)
 have h2 : (qqk (qbp b).1).1.Sm := ⟨Nat.le_trans (qfj (fun r => qfi (f := rAV) (most := 4) (r := r)) _) (by decide), Nat.le_trans (qfj (fun r => qfi (f := rInt) (most := 6) (r := r)) _) (by decide)⟩
 have h3 : (default : Pk).Sm := ⟨Nat.zero_le _, Nat.zero_le _⟩
 unfold yo
 split
 ·exact ⟨q0o, h3⟩
 ·split
  ·exact ⟨q0o, h3⟩
  ·exact ⟨h1, h2⟩
def qa5 : Option (List UInt8) → Int × Int
 | none => (0, 0)
 | some b => ((qao ⟨b, 0, false⟩).1, (qao (qao ⟨b, 0, false⟩).2).1)
def qwf (x : Int × Int) : Bool := decide (x.2 < 0) || decide (x.1 < x.2) || decide (x.1 > 1099511627776) || decide (IntKind.i64.wrap (x.1 - x.2) > 4)
def ldAt (m : Cont) (name : List UInt8) (k : Nat) : Pk × Int := yo (optV (mGet (sKey name (k % 4)) m))
def qbb (m : Cont) (name : List UInt8) : Nat → Nat → Option (List Pk)
 | 0, _ => some []
 | n + 1, k => if (ldAt m name k).2 ≠ 0 then none else (qbb m name n (k + 1)).map ((ldAt m name k).1 :: ·)
def qjv (m : Cont) (name : List UInt8) (q : Qu) : Bool := !vu q || (!((mGet (nKey name) m).isSome == decide (((k8 q).length : Int) > 0))) || !(optV (mGet (nKey name) m) == k8 q)
def qlw (m : Cont) (name : List UInt8) (q : Qu) (d : Nat) : Bool := (!((mGet (sKey name d) m).isSome == decide (((vw q d).length : Int) > 0))) || !(optV (mGet (sKey name d) m) == vw q d)
def q43 (m : Cont) (name : List UInt8) (a c : Int) : Option (List Pk) → Qu × Int
 | none => (xq, 4)
 | some l => if (qjv m name ⟨a, c, l⟩ || !qcd (fun d => !qlw m name ⟨a, c, l⟩ d) 4) = true then (xq, 4) else (⟨a, c, l⟩, 0)
def qgm (m : Cont) (name : List UInt8) : Qu × Int :=
 if (!qjt name) = true then (xq, 1) else
 if qwf (qa5 (mGet (nKey name) m)) = true then (xq, 4) else
 q43 m name (qa5 (mGet (nKey name) m)).1 (qa5 (mGet (nKey name) m)).2 (qbb m name ((qa5 (mGet (nKey name) m)).1 - (qa5 (mGet (nKey name) m)).2).toNat ((qa5 (mGet (nKey name) m)).2.toNat + 1))
theorem qt1 (m : Cont) (hm : ∀ x ∈ m.l, x.2.2.length ≤ 1000000) (k : List UInt8) : (optV (mGet k m)).length ≤ 1000000 := by
 unfold optV mGet
 cases hf : m.l.find? (xt k) with
 | none => simp
 | some x => exact hm x (List.mem_of_find?_eq_some hf)
noncomputable section
set_option maxRecDepth 100000
def xf5 : List SOper := [
 ⟨some 4, .alloc 1 [(.d (.int .i64 0)), (.d (.int .i64 0)), (.d .nilsl)], none⟩,
 ⟨some 5, .mov (.k (.d (.int .i64 0))), none⟩]
def xf6 : List SOper := [
 ⟨some 18, .mov (.t 1), none⟩,
 ⟨some 19, .call (.k (.d (.func (.func 43) [] []))) [(.t 18)], none⟩,
 ⟨some 20, .not (.t 19), none⟩]
def xf7 : List SOper := [
 ⟨some 21, .build [(.int .i64 0), (.int .i64 0), .nilsl] [], none⟩,
 ⟨none, .store (some 3) (.t 4) (.t 21), none⟩,
 ⟨some 5, .mov (.k (.d (.int .i64 1))), none⟩]
def xf8 : List SOper := [
 ⟨some 6, .alloc 1 [(.d (.int .i64 0)), (.d (.int .i64 0)), (.d .nilsl)], none⟩]
def xf9 : List SOper := [
 ⟨some 23, .mov (.t 0), none⟩,
 ⟨some 24, .mov (.t 1), none⟩,
 ⟨some 25, .call (.k (.d (.func (.func 45) [] []))) [(.t 24)], none⟩,
 ⟨some 26, .call (.k (.d (.func (.func 26) [] []))) [(.t 23), (.t 25)], none⟩,
 ⟨some 22, .mov (.t 26), none⟩,
 ⟨some 27, .extract 0 (.t 22), none⟩,
 ⟨some 28, .extract 1 (.t 22), none⟩,
 ⟨some 7, .mov (.t 27), none⟩,
 ⟨some 8, .mov (.t 28), none⟩]
def xga : List SOper := [
 ⟨some 29, .mov (.t 8), none⟩]
def xgb : List SOper := [
 ⟨some 30, .mov (.t 7), none⟩,
 ⟨some 31, .call (.k (.d (.func (.func 54) [] []))) [(.t 30)], none⟩,
 ⟨some 9, .mov (.t 31), none⟩]
def xgc : List SOper := [
 ⟨some 32, .mov (.t 9), none⟩,
 ⟨some 33, .call (.k (.d (.func (.func 55) [] []))) [(.t 32)], none⟩,
 ⟨some 34, .mov (.t 9), none⟩,
 ⟨some 35, .call (.k (.d (.func (.func 55) [] []))) [(.t 34)], none⟩,
 ⟨some 36, .faddr 0 (.t 6), none⟩,
 ⟨none, .store none (.t 36) (.t 33), none⟩,
 ⟨some 37, .faddr 1 (.t 6), none⟩,
 ⟨none, .store none (.t 37) (.t 35), none⟩]
def xgd : List SOper := [
 ⟨some 38, .faddr 1 (.t 6), none⟩,
 ⟨some 39, .load none (.t 38), none⟩,
 ⟨some 40, .bin .lss (.t 39) (.k (.d (.int .i64 0))), none⟩,
 ⟨some 41, .mov (.t 40), none⟩,
 ⟨some 42, .faddr 0 (.t 6), some (41, false)⟩,
 ⟨some 43, .load none (.t 42), some (41, false)⟩,
 ⟨some 44, .faddr 1 (.t 6), some (41, false)⟩,
 ⟨some 45, .load none (.t 44), some (41, false)⟩,
 ⟨some 46, .bin .lss (.t 43) (.t 45), some (41, false)⟩,
 ⟨some 47, .pick (.t 41) (.k (.d (.bool true))) (.t 46), none⟩,
 ⟨some 48, .mov (.t 47), none⟩,
 ⟨some 49, .faddr 0 (.t 6), some (48, false)⟩,
 ⟨some 50, .load none (.t 49), some (48, false)⟩,
 ⟨some 51, .bin .gtr (.t 50) (.k (.d (.int .i64 1099511627776))), some (48, false)⟩,
 ⟨some 52, .pick (.t 48) (.k (.d (.bool true))) (.t 51), none⟩,
 ⟨some 53, .mov (.t 52), none⟩,
 ⟨some 54, .faddr 0 (.t 6), some (53, false)⟩,
 ⟨some 55, .load none (.t 54), some (53, false)⟩,
 ⟨some 56, .faddr 1 (.t 6), some (53, false)⟩,
 ⟨some 57, .load none (.t 56), some (53, false)⟩,
 ⟨some 58, .bin .sub (.t 55) (.t 57), some (53, false)⟩,
 ⟨some 59, .bin .gtr (.t 58) (.k (.d (.int .i64 4))), some (53, false)⟩,
 ⟨some 60, .pick (.t 53) (.k (.d (.bool true))) (.t 59), none⟩]
def xge : List SOper := [
 ⟨some 61, .build [(.int .i64 0), (.int .i64 0), .nilsl] [], none⟩,
 ⟨none, .store (some 3) (.t 4) (.t 61), none⟩,
 ⟨some 5, .mov (.k (.d (.int .i64 4))), none⟩]
def q0q : List SOper := [
 ⟨some 62, .faddr 1 (.t 6), none⟩,
 ⟨some 63, .load none (.t 62), none⟩,
 ⟨some 64, .bin .add (.t 63) (.k (.d (.int .i64 1))), none⟩,
 ⟨some 10, .mov (.t 64), none⟩]
def q0r : List SOper := [
 ⟨some 65, .mov (.t 10), none⟩,
 ⟨some 66, .faddr 0 (.t 6), none⟩,
 ⟨some 67, .load none (.t 66), none⟩,
 ⟨some 68, .bin .leq (.t 65) (.t 67), none⟩]
def q0s : List SOper := [
 ⟨some 72, .mov (.t 0), none⟩,
 ⟨some 73, .mov (.t 1), none⟩,
 ⟨some 74, .mov (.t 10), none⟩,
 ⟨some 75, .bin .rem (.t 74) (.k (.d (.int .i64 4))), none⟩,
 ⟨some 76, .call (.k (.d (.func (.func 47) [] []))) [(.t 73), (.t 75)], none⟩,
 ⟨some 77, .call (.k (.d (.func (.func 26) [] []))) [(.t 72), (.t 76)], none⟩,
 ⟨some 71, .mov (.t 77), none⟩,
 ⟨some 78, .extract 0 (.t 71), none⟩,
 ⟨some 79, .extract 1 (.t 71), none⟩,
 ⟨some 11, .mov (.t 78), none⟩,
 ⟨some 12, .mov (.t 79), none⟩]
def q0t : List SOper := [
 ⟨some 81, .mov (.t 11), none⟩,
 ⟨some 82, .call (.k (.d (.func (.func 56) [] []))) [(.t 81)], none⟩,
 ⟨some 80, .mov (.t 82), none⟩,
 ⟨some 83, .extract 0 (.t 80), none⟩,
 ⟨some 84, .extract 1 (.t 80), none⟩,
 ⟨some 13, .alloc 1 [(.d (.int .i64 0)), (.d (.int .i64 0)), (.d (.int .i64 0)), (.d (.int .i64 0)), (.d (.int .i64 0)), (.d (.int .i64 0)), (.d (.int .i64 0)), (.d .nilsl), (.d .nilsl)], none⟩,
 ⟨none, .store (some 9) (.t 13) (.t 83), none⟩,
 ⟨some 14, .mov (.t 84), none⟩]
def q0u : List SOper := [
 ⟨some 85, .mov (.t 14), none⟩,
 ⟨some 86, .bin .neq (.t 85) (.k (.d (.int .i64 0))), none⟩]
def q0v : List SOper := [
 ⟨some 87, .build [(.int .i64 0), (.int .i64 0), .nilsl] [], none⟩,
 ⟨none, .store (some 3) (.t 4) (.t 87), none⟩,
 ⟨some 5, .mov (.k (.d (.int .i64 4))), none⟩]
def q0w : List SOper := [
 ⟨some 88, .faddr 2 (.t 6), none⟩,
 ⟨some 89, .load none (.t 88), none⟩,
 ⟨some 90, .load (some 9) (.t 13), none⟩,
 ⟨some 91, .buildSlice false 9 1 [(.int .i64 0), (.int .i64 0), (.int .i64 0), (.int .i64 0), (.int .i64 0), (.int .i64 0), (.int .i64 0), .nilsl, .nilsl] [(0, 9, (.t 90))], none⟩,
 ⟨some 92, .append false 9 104 (.t 89) (.t 91), none⟩,
 ⟨some 93, .faddr 2 (.t 6), none⟩,
 ⟨none, .store none (.t 93) (.t 92), none⟩]
def q0x : List SOper := [
 ⟨some 69, .mov (.t 10), none⟩,
 ⟨some 70, .bin .add (.t 69) (.k (.d (.int .i64 1))), none⟩,
 ⟨some 10, .mov (.t 70), none⟩]
def qs1 : SCode := (.seq (.seq (.region q0r 0 []) (.cond (.t 68) .skip (.exit 0))) (.seq (.block 1 (.seq (.region q0s 0 []) (.seq (.region q0t 1 []) (.seq (.seq (.region q0u 0 []) (.cond (.t 86) (.seq (.region q0v 0 []) .ret) .skip)) (.region q0w 0 []))))) (.region q0x 0 [])))
theorem xja : qf qs1.eq_1 := qg qs1.eq_1
def q0y : List SOper := [
 ⟨some 94, .load (some 3) (.t 6), none⟩,
 ⟨some 95, .call (.k (.d (.func (.func 42) [] []))) [(.t 94)], none⟩,
 ⟨some 96, .not (.t 95), none⟩,
 ⟨some 97, .mov (.t 96), none⟩,
 ⟨some 98, .mov (.t 8), some (97, false)⟩,
 ⟨some 99, .load (some 3) (.t 6), some (97, false)⟩,
 ⟨some 100, .call (.k (.d (.func (.func 46) [] []))) [(.t 99)], some (97, false)⟩,
 ⟨some 101, .len (.t 100), some (97, false)⟩,
 ⟨some 102, .bin .gtr (.t 101) (.k (.d (.int .i64 0))), some (97, false)⟩,
 ⟨some 103, .eqb true (.t 98) (.t 102), some (97, false)⟩,
 ⟨some 104, .pick (.t 97) (.k (.d (.bool true))) (.t 103), none⟩,
 ⟨some 105, .mov (.t 104), none⟩,
 ⟨some 106, .mov (.t 7), some (105, false)⟩,
 ⟨some 107, .load (some 3) (.t 6), some (105, false)⟩,
 ⟨some 108, .call (.k (.d (.func (.func 46) [] []))) [(.t 107)], some (105, false)⟩,
 ⟨some 109, .call (.k (.d (.func (.func 57) [] []))) [(.t 106), (.t 108)], some (105, false)⟩,
 ⟨some 110, .not (.t 109), some (105, false)⟩,
 ⟨some 111, .pick (.t 105) (.k (.d (.bool true))) (.t 110), none⟩]
def q0z : List SOper := [
 ⟨some 112, .build [(.int .i64 0), (.int .i64 0), .nilsl] [], none⟩,
 ⟨none, .store (some 3) (.t 4) (.t 112), none⟩,
 ⟨some 5, .mov (.k (.d (.int .i64 4))), none⟩]
def q00 : List SOper := [
 ⟨some 113, .mov (.k (.d (.int .i64 0))), none⟩]
def q01 : List SOper := [
 ⟨some 114, .bin .lss (.t 113) (.k (.d (.int .i64 4))), none⟩]
def q02 : List SOper := [
 ⟨some 115, .mov (.t 113), none⟩,
 ⟨some 15, .mov (.t 115), none⟩]
def q03 : List SOper := [
 ⟨some 117, .mov (.t 0), none⟩,
 ⟨some 118, .mov (.t 1), none⟩,
 ⟨some 119, .mov (.t 15), none⟩,
 ⟨some 120, .call (.k (.d (.func (.func 47) [] []))) [(.t 118), (.t 119)], none⟩,
 ⟨some 121, .call (.k (.d (.func (.func 26) [] []))) [(.t 117), (.t 120)], none⟩,
 ⟨some 116, .mov (.t 121), none⟩,
 ⟨some 122, .extract 0 (.t 116), none⟩,
 ⟨some 123, .extract 1 (.t 116), none⟩,
 ⟨some 16, .mov (.t 122), none⟩,
 ⟨some 17, .mov (.t 123), none⟩]
def q04 : List SOper := [
 ⟨some 124, .mov (.t 17), none⟩,
 ⟨some 125, .load (some 3) (.t 6), none⟩,
 ⟨some 126, .mov (.t 15), none⟩,
 ⟨some 127, .call (.k (.d (.func (.func 48) [] []))) [(.t 125), (.t 126)], none⟩,
 ⟨some 128, .len (.t 127), none⟩,
 ⟨some 129, .bin .gtr (.t 128) (.k (.d (.int .i64 0))), none⟩,
 ⟨some 130, .eqb true (.t 124) (.t 129), none⟩,
 ⟨some 131, .mov (.t 130), none⟩,
 ⟨some 132, .mov (.t 16), some (131, false)⟩,
 ⟨some 133, .load (some 3) (.t 6), some (131, false)⟩,
 ⟨some 134, .mov (.t 15), some (131, false)⟩,
 ⟨some 135, .call (.k (.d (.func (.func 48) [] []))) [(.t 133), (.t 134)], some (131, false)⟩,
 ⟨some 136, .call (.k (.d (.func (.func 57) [] []))) [(.t 132), (.t 135)], some (131, false)⟩,
 ⟨some 137, .not (.t 136), some (131, false)⟩,
 ⟨some 138, .pick (.t 131) (.k (.d (.bool true))) (.t 137), none⟩]
def q05 : List SOper := [
 ⟨some 139, .build [(.int .i64 0), (.int .i64 0), .nilsl] [], none⟩,
 ⟨none, .store (some 3) (.t 4) (.t 139), none⟩,
 ⟨some 5, .mov (.k (.d (.int .i64 4))), none⟩]
def q06 : List SOper := [
 ⟨some 140, .bin .add (.t 113) (.k (.d (.int .i64 1))), none⟩,
 ⟨some 113, .mov (.t 140), none⟩]
def qs2 : SCode := (.seq (.region q01 0 []) (.seq (.cond (.t 114) .skip (.exit 2)) (.seq (.block 3 (.seq (.region q02 0 []) (.seq (.region q03 0 []) (.seq (.region q04 0 []) (.cond (.t 138) (.seq (.region q05 0 []) .ret) .skip))))) (.region q06 0 []))))
theorem xjb : qf qs2.eq_1 := qg qs2.eq_1
def q07 : List SOper := [
 ⟨some 141, .load (some 3) (.t 6), none⟩,
 ⟨none, .store (some 3) (.t 4) (.t 141), none⟩,
 ⟨some 5, .mov (.k (.d (.int .i64 0))), none⟩]
def s15j : SCode := (.seq (.region xf5 1 []) (.seq (.seq (.region xf6 0 []) (.cond (.t 20) (.seq (.region xf7 0 []) .ret) .skip)) (.seq (.region xf8 1 []) (.seq (.region xf9 0 []) (.seq (.seq (.region xga 0 []) (.cond (.t 29) (.seq (.region xgb 1 []) (.region xgc 0 [])) .skip)) (.seq (.seq (.pause (.region xgd 0 [])) (.cond (.t 60) (.seq (.region xge 0 []) .ret) .skip)) (.seq (.seq (.region q0q 0 []) (.block 0 (.loop qs1))) (.seq (.seq (.region q0y 0 []) (.cond (.t 111) (.seq (.region q0z 0 []) .ret) .skip)) (.seq (.seq (.region q00 0 []) (.block 2 (.loop qs2))) (.seq (.region q07 0 []) .ret))))))))))
theorem zm3 : qf s15j.eq_1 := qg s15j.eq_1
theorem x4p : qa xf5.eq_1 := qc
theorem x4q : qa xf6.eq_1 := qc
theorem x4r : qa xf7.eq_1 := qc
theorem x4s : qa xf8.eq_1 := qc
theorem x4t : qa xf9.eq_1 := qc
theorem x4u : qa xga.eq_1 := qc
theorem x4v : qa xgb.eq_1 := qc
theorem x4w : qa xgc.eq_1 := qc
theorem x4x : qa xgd.eq_1 := qc
theorem x4y : qa xge.eq_1 := qc
theorem xjc : qa q0q.eq_1 := qc
theorem xjd : qa q0r.eq_1 := qc
theorem xje : qa q0s.eq_1 := qc
theorem xjf : qa q0t.eq_1 := qc
theorem xjg : qa q0u.eq_1 := qc
theorem xjh : qa q0v.eq_1 := qc
theorem xji : qa q0w.eq_1 := qc
theorem xjj : qa q0x.eq_1 := qc
theorem xjk : qa q0y.eq_1 := qc
theorem xjl : qa q0z.eq_1 := qc
theorem xjm : qa q00.eq_1 := qc
theorem xjn : qa q01.eq_1 := qc
theorem xjo : qa q02.eq_1 := qc
theorem xjp : qa q03.eq_1 := qc
theorem xjq : qa q04.eq_1 := qc
theorem xjr : qa q05.eq_1 := qc
theorem xjs : qa q06.eq_1 := qc
theorem xjt : qa q07.eq_1 := qc
attribute [go_sem] x4p x4q x4r x4s x4t x4u x4v x4w x4x x4y xjc xjd xje xjf xjg xjh xji xjj xja xjk xjl xjm xjn xjo xjp xjq xjr xjs xjb xjt zm3
theorem x4z : FnIs Tryz.prog 15 Tryz.f15 [] news s15j [.cell 4 (some 3), .tmp 5] 142 := xo follows Tryz.func15
end
def yp : AObj := .row [.d (.int .i64 0), .d (.int .i64 0), .d .nilsl]
def SL0 (s : Sto) (name : List UInt8) (g : Option (List UInt8)) (x : Unit) : St :=
 ⟨[(0, true, .d (.ptr 0 0)), (1, true, .d (.str name)), (4, true, .d (.ptr 2 0)), (6, true, .d (.ptr 3 0)), (7, true, .d (.sl 1 (qe (optV g)))), (8, true, .d (.bool g.isSome))],
  [stoO s 1, mapO s.m, yp, .row [.d (.int .i64 (qa5 g).1), .d (.int .i64 (qa5 g).2), .d .nilsl]], [], 1⟩
def SL1 (s : Sto) (name : List UInt8) (g : Option (List UInt8)) (a c : Int) (k : Nat) (l : List Pk) : St :=
 ⟨[(0, true, .d (.ptr 0 0)), (1, true, .d (.str name)), (4, true, .d (.ptr 2 0)), (6, true, .d (.ptr 3 0)), (7, true, .d (.sl 1 (qe (optV g)))), (8, true, .d (.bool g.isSome)), (10, true, .d (.int .i64 (k : Nat)))],
  [stoO s 1, mapO s.m, yp, .row [.d (.int .i64 a), .d (.int .i64 c), .own 0 9 (l.map qi)]], [0], 1⟩
def SL2 (s : Sto) (name : List UInt8) (a c : Int) (d : Nat) (l : List Pk) : St :=
 ⟨[(0, true, .d (.ptr 0 0)), (1, true, .d (.str name)), (4, true, .d (.ptr 2 0)), (6, true, .d (.ptr 3 0)), (113, true, .d (.int .i64 (d : Nat)))],
  [stoO s 1, mapO s.m, yp, .row [.d (.int .i64 a), .d (.int .i64 c), .own 0 9 (l.map qi)]], [0], 1⟩
set_option maxRecDepth 10000 in
theorem qh1 (s : Sto) (name : List UInt8) (hm : ∀ x ∈ s.m.l, x.2.2.length ≤ 1000000) (hn : name.length ≤ 1000) :
  ql Tryz.prog 15 [.d (.ptr 0 0), .d (.str name)] [stoO s 1, mapO s.m] (.tup [.d (.agg (encQ (qgm s.m name).1)), .d (.int .i64 (qgm s.m name).2)]) [stoO s 1, mapO s.m] := by
 have hg := fun k => xsi s k hm
 simp only [stoO, mapO] at hg
 refine x4z.goT ?_
 try (refine ev2 @stoO.eq_1 @mapO.eq_1 ?_; try exact True.intro)
 (repeat (with_reducible refine ob ?_)); first | refine cl F43 (qfm name) ?_ | refine clF F43 (qfm name) (fun _ => by (refine ev2 @qi.eq_1 @encQ.eq_1 ?_; try exact True.intro)) ?_
 try (refine ev ?_; try exact True.intro)
 refine ju _ (fun h => ?_) (fun h => ?_)
 ·have hb : qgm s.m name = (xq, 1) := by unfold qgm; rw [if_pos h]
  try (refine ev4 @hb @encQ.eq_1 @xq.eq_1 @List.map_nil.{0,0} ?_; try exact True.intro)
 have hb0 : (!qjt name) ≠ true := by rw [h]; simp
 try (refine ev ?_; try exact True.intro)
 (repeat (with_reducible refine ob ?_)); first | refine cl F45 (qni name hn) ?_ | refine clF F45 (qni name hn) (fun _ => by (refine ev2 @qi.eq_1 @encQ.eq_1 ?_; try exact True.intro)) ?_
 try (refine ev ?_; try exact True.intro)
 (repeat (with_reducible refine ob ?_)); refine clO [0, 1] F26 ((hg (nKey name))) ?_ (hfit := by first | exact ⟨qd, trivial⟩ | exact ⟨qd, qd, trivial⟩ | (refine ev2 @qi.eq_1 @encQ.eq_1 ?_; try exact True.intro))
 try (refine ev ?_; try exact True.intro)
 generalize hgn : mGet (nKey name) s.m = g
 have hgl : (optV g).length ≤ 1000000 := by rw [← hgn]; exact qt1 s.m hm _
 refine x8q (SL0 s name g) ?_ ?_
 ·cases g with
  | none =>
   simp only [Option.isSome_none]
   (repeat (with_reducible refine ob ?_)); refine no_ ?_
   try (refine ev ?_; try exact True.intro)
   refine ⟨(), ?_⟩
   try simp only [SL0, stoO, mapO, yp, qa5, Option.isSome_none, go_sem, Nat.reduceAdd, Nat.reduceMul, Nat.reduceSub, Nat.reduceEqDiff, Nat.reduceLT, Nat.reduceLeDiff, Nat.reduceBEq, reduceIte, reduceCtorEq, Int.reduceAdd, Int.reduceLT, Int.reduceLE, Int.reduceGT, Int.reduceGE, Int.reduceEq, Int.reduceNe, Int.reduceBEq, Int.reduceBNe, Int.reduceToNat, Int.reduceNeg]
  | some b =>
   have hbl : b.length ≤ 1000000000 := by simp only [optV, Option.getD_some] at hgl; omega
   have hnew := qnd b hbl
   have r0 : (⟨b, 0, false⟩ : Rd).Ok := ⟨hbl, Nat.zero_le _⟩
   have i1 := qng ⟨b, 0, false⟩ r0
   have r1 := (qp8 r0).1
   have i2 := qng _ r1
   simp only [rdO] at hnew i1 i2
   simp only [Option.isSome_some, optV, Option.getD_some]
   (repeat (with_reducible refine ob ?_)); refine qcr ?_
   try (refine ev ?_; try exact True.intro)
   refine clO [4] F54 hnew ?_
   try (refine ev ?_; try exact True.intro)
   (repeat (with_reducible refine ob ?_)); refine clO [4] F55 (i1) ?_ (hfit := by first | exact ⟨qd, trivial⟩ | exact ⟨qd, qd, trivial⟩ | (refine ev2 @qi.eq_1 @encQ.eq_1 ?_; try exact True.intro))
   try (refine ev ?_; try exact True.intro)
   (repeat (with_reducible refine ob ?_)); refine clO [4] F55 (i2) ?_ (hfit := by first | exact ⟨qd, trivial⟩ | exact ⟨qd, qd, trivial⟩ | (refine ev2 @qi.eq_1 @encQ.eq_1 ?_; try exact True.intro))
   try (refine ev ?_; try exact True.intro)
   refine ⟨(), ?_⟩
   try simp only [SL0, stoO, mapO, yp, qa5, Option.isSome_some, optV, Option.getD_some, go_sem, Nat.reduceAdd, Nat.reduceMul, Nat.reduceSub, Nat.reduceEqDiff, Nat.reduceLT, Nat.reduceLeDiff, Nat.reduceBEq, reduceIte, reduceCtorEq, Int.reduceAdd, Int.reduceLT, Int.reduceLE, Int.reduceGT, Int.reduceGE, Int.reduceEq, Int.reduceNe, Int.reduceBEq, Int.reduceBNe, Int.reduceToNat, Int.reduceNeg]
 intro _
 refine pu ?_
 generalize hx : qa5 g = x
 obtain ⟨a, c⟩ := x
 have hL : qgm s.m name = if qwf (a, c) = true then (xq, (4 : Int)) else q43 s.m name a c (qbb s.m name (a - c).toNat (c.toNat + 1)) := by
  unfold qgm
  rw [if_neg hb0, hgn, hx]
 try (refine ev5 @SL0.eq_1 @hx @stoO.eq_1 @mapO.eq_1 @yp.eq_1 ?_; try exact True.intro)
 (repeat (with_reducible refine ob ?_))
 refine ju _ (fun h1 => ?_) (fun h1 => ?_)
 ·have hb : qgm s.m name = (xq, 4) := by rw [hL, if_pos (show qwf (a, c) = true from h1)]
  try (refine ev4 @hb @encQ.eq_1 @xq.eq_1 @List.map_nil.{0,0} ?_; try exact True.intro)
 have h1' := h1
 simp only [Bool.or_eq_false_iff, decide_eq_false_iff_not] at h1
 obtain ⟨⟨⟨c0, c1⟩, c2⟩, c3⟩ := h1
 rw [ze (by unfold I64; omega)] at c3
 obtain ⟨n, rfl⟩ : ∃ n : Nat, c = n := ⟨c.toNat, by omega⟩
 obtain ⟨w, rfl⟩ : ∃ w : Nat, a = ((n + w : Nat) : Int) := ⟨(a - n).toNat, by omega⟩
 have e1 : (((n + w : Nat) : Int) - (n : Int)).toNat = w := by omega
 have e2 : IntKind.i64.wrap ((n : Int) + 1) = ((n + 1 : Nat) : Int) := by rw [ze (by unfold I64; omega)]; omega
 rw [if_neg (by rw [show qwf (((n + w : Nat) : Int), (n : Int)) = false from h1']; simp), e1, Int.toNat_natCast] at hL
 try (refine ev1 @e2 ?_; try exact True.intro)
 refine qv (fun x : { x : Nat × List Pk // x.1 ≤ w ∧ x.2.length = x.1 ∧ (∀ p ∈ x.2, p.W ∧ p.Sm) ∧ qbb s.m name w (n + 1) = (qbb s.m name (w - x.1) (n + 1 + x.1)).map (x.2 ++ ·) } => SL1 s name g (n + w : Nat) n (n + 1 + x.val.1) x.val.2) (fun x => w - x.val.1)
  ⟨(0, []), Nat.zero_le _, rfl, fun p hp => (by cases hp), by simp⟩ ?_ (fun x => ?_)
 ·try (refine ev6 @SL1.eq_1 @stoO.eq_1 @mapO.eq_1 @yp.eq_1 @List.map_nil.{0,0} @Nat.add_zero ?_; try exact True.intro)
 obtain ⟨⟨i, l⟩, x1, x2, x3, x4⟩ := x
 simp only at x1 x2 x3 x4
 try (refine ev4 @SL1.eq_1 @stoO.eq_1 @mapO.eq_1 @yp.eq_1 ?_; try exact True.intro)
 refine ju _ (fun h => ?_) (fun h => ?_)
 ·have hiw : i < w := by simp at h; omega
  have e3 : w - i = (w - (i + 1)) + 1 := by omega
  have e4 : (((n + 1 + i : Nat) : Int)).tmod 4 = (((n + 1 + i) % 4 : Nat) : Int) := by rw [Int.tmod_eq_emod_of_nonneg (by omega)]; omega
  rw [e3, qbb] at x4
  have hkd := qwe (optV (mGet (sKey name ((n + 1 + i) % 4)) s.m)) (by have := qt1 s.m hm (sKey name ((n + 1 + i) % 4)); omega)
  obtain ⟨w1, w2⟩ := q0p (optV (mGet (sKey name ((n + 1 + i) % 4)) s.m))
  simp only [qi] at hkd
  try (refine ev1 @e4 ?_; try exact True.intro)
  (repeat (with_reducible refine ob ?_)); first | refine cl F47 (qgl name ((n + 1 + i) % 4) hn (Nat.mod_lt _ (by decide))) ?_ | refine clF F47 (qgl name ((n + 1 + i) % 4) hn (Nat.mod_lt _ (by decide))) (fun _ => by (refine ev2 @qi.eq_1 @encQ.eq_1 ?_; try exact True.intro)) ?_
  try (refine ev ?_; try exact True.intro)
  (repeat (with_reducible refine ob ?_)); refine clO [0, 1] F26 ((hg (sKey name ((n + 1 + i) % 4)))) ?_ (hfit := by first | exact ⟨qd, trivial⟩ | exact ⟨qd, qd, trivial⟩ | (refine ev2 @qi.eq_1 @encQ.eq_1 ?_; try exact True.intro))
  try (refine ev ?_; try exact True.intro)
  (repeat (with_reducible refine ob ?_)); first | refine cl F56 (hkd) ?_ | refine clF F56 (hkd) (fun _ => by (refine ev2 @qi.eq_1 @encQ.eq_1 ?_; try exact True.intro)) ?_
  try (refine ev ?_; try exact True.intro)
  have hat : ldAt s.m name (n + 1 + i) = yo (optV (mGet (sKey name ((n + 1 + i) % 4)) s.m)) := rfl
  rw [hat] at x4
  generalize yo (optV (mGet (sKey name ((n + 1 + i) % 4)) s.m)) = y at hkd w1 w2 x4 ⊢
  obtain ⟨p, e⟩ := y
  simp only at w1 w2 x4
  refine ju _ (fun h => ?_) (fun h => ?_)
  ·have hb : qgm s.m name = (xq, 4) := by rw [hL, x4, if_pos (by simpa using h)]; rfl
   try (refine ev4 @hb @encQ.eq_1 @xq.eq_1 @List.map_nil.{0,0} ?_; try exact True.intro)
  ·rw [if_neg (by simpa using h), Option.map_map] at x4
   try (refine ev ?_; try exact True.intro)
   (repeat (with_reducible refine ob ?_))
   refine ⟨⟨(i + 1, l ++ [p]), hiw, by simp [x2], fun q hq => ?_, ?_⟩, ?_, by dsimp only; omega⟩
   ·rcases List.mem_append.1 hq with hq | hq
    ·exact x3 q hq
    ·simp at hq; subst hq; exact ⟨w1, w2⟩
   ·rw [x4]
    congr 1
    funext z; simp
   ·have hwr : IntKind.i64.wrap ((n : Int) + 1 + (i : Int) + 1) = (n : Int) + 1 + ((i : Int) + 1) := by rw [ze (by unfold I64; omega)]; omega
    try (refine ev8 @SL1.eq_1 @stoO.eq_1 @mapO.eq_1 @yp.eq_1 @List.map_append.{0,0} @List.map_cons.{0,0} @List.map_nil.{0,0} @qi.eq_1 ?_; try exact True.intro)
    try (refine ev1 @hwr ?_; try exact True.intro)
 have hiw : i = w := by simp at h; omega
 subst hiw
 rw [Nat.sub_self, qbb] at x4
 rw [x4, Option.map_some, List.append_nil] at hL
 generalize hq : (⟨((n + i : Nat) : Int), (n : Int), l⟩ : Qu) = q
 have hqe : encQ q = [.int .i64 ((n + i : Nat) : Int), .int .i64 (n : Int), .sl 9 (l.map qi)] := by rw [← hq]; rfl
 have hqs : q.Sm := by rw [← hq]; exact ⟨by simp only; omega, fun p hp => (x3 p hp).2⟩
 have hqw : q.W := by rw [← hq]; exact ⟨by unfold I64; simp only; omega, by unfold I64; simp only; omega, fun p hp => (x3 p hp).1⟩
 simp only [q43, hq] at hL
 have kv := qai q hqs
 have kn := qfn q hqw.a hqw.c
 have ks := fun d => qfo q d hqs hqw
 simp only [hqe] at kv kn ks
 try (refine ev ?_; try exact True.intro)
 (repeat (with_reducible refine ob ?_)); first | refine cl F42 (kv) ?_ | refine clF F42 (kv) (fun _ => by (refine ev2 @qi.eq_1 @encQ.eq_1 ?_; try exact True.intro)) ?_
 try (refine ev ?_; try exact True.intro)
 (repeat (with_reducible refine ob ?_)); first | refine cl F46 (kn) ?_ | refine clF F46 (kn) (fun _ => by (refine ev2 @qi.eq_1 @encQ.eq_1 ?_; try exact True.intro)) ?_
 try (refine ev ?_; try exact True.intro)
 (repeat (with_reducible refine ob ?_)); first | refine cl F46 (kn) ?_ | refine clF F46 (kn) (fun _ => by (refine ev2 @qi.eq_1 @encQ.eq_1 ?_; try exact True.intro)) ?_
 try (refine ev ?_; try exact True.intro)
 (repeat (with_reducible refine ob ?_)); first | refine cl F57 (qbq (optV g) (k8 q)) ?_ | refine clF F57 (qbq (optV g) (k8 q)) (fun _ => by (refine ev2 @qi.eq_1 @encQ.eq_1 ?_; try exact True.intro)) ?_
 try (refine ev ?_; try exact True.intro)
 (repeat (with_reducible refine ob ?_))
 refine ju _ (fun h => ?_) (fun h => ?_)
 ·have h1 : qjv s.m name q = true := by unfold qjv; rw [hgn]; exact h
  have hb : qgm s.m name = (xq, 4) := by rw [hL, h1]; rfl
  try (refine ev4 @hb @encQ.eq_1 @xq.eq_1 @List.map_nil.{0,0} ?_; try exact True.intro)
 have h1 : qjv s.m name q = false := by unfold qjv; rw [hgn]; exact h
 try (refine ev ?_; try exact True.intro)
 refine qv (fun x : { d : Nat // d ≤ 4 ∧ qcd (fun d => !qlw s.m name q d) d = true } => SL2 s name (n + i : Nat) n x.val l) (fun x => 4 - x.val) ⟨0, Nat.zero_le _, rfl⟩ ?_ (fun x => ?_)
 ·try (refine ev5 @SL2.eq_1 @stoO.eq_1 @mapO.eq_1 @yp.eq_1 @Int.ofNat_zero ?_; try exact True.intro)
 obtain ⟨d, d1, d2⟩ := x
 try (refine ev4 @SL2.eq_1 @stoO.eq_1 @mapO.eq_1 @yp.eq_1 ?_; try exact True.intro)
 refine ju _ (fun h => ?_) (fun h => ?_)
 ·have hd : d < 4 := by simp at h; omega
  try (refine ev ?_; try exact True.intro)
  (repeat (with_reducible refine ob ?_)); first | refine cl F47 (qgl name d hn hd) ?_ | refine clF F47 (qgl name d hn hd) (fun _ => by (refine ev2 @qi.eq_1 @encQ.eq_1 ?_; try exact True.intro)) ?_
  try (refine ev ?_; try exact True.intro)
  (repeat (with_reducible refine ob ?_)); refine clO [0, 1] F26 ((hg (sKey name d))) ?_ (hfit := by first | exact ⟨qd, trivial⟩ | exact ⟨qd, qd, trivial⟩ | (refine ev2 @qi.eq_1 @encQ.eq_1 ?_; try exact True.intro))
  try (refine ev ?_; try exact True.intro)
  (repeat (with_reducible refine ob ?_)); first | refine cl F48 (ks d) ?_ | refine clF F48 (ks d) (fun _ => by (refine ev2 @qi.eq_1 @encQ.eq_1 ?_; try exact True.intro)) ?_
  try (refine ev ?_; try exact True.intro)
  (repeat (with_reducible refine ob ?_)); first | refine cl F48 (ks d) ?_ | refine clF F48 (ks d) (fun _ => by (refine ev2 @qi.eq_1 @encQ.eq_1 ?_; try exact True.intro)) ?_
  try (refine ev ?_; try exact True.intro)
  (repeat (with_reducible refine ob ?_)); first | refine cl F57 (qbq (optV (mGet (sKey name d) s.m)) (vw q d)) ?_ | refine clF F57 (qbq (optV (mGet (sKey name d) s.m)) (vw q d)) (fun _ => by (refine ev2 @qi.eq_1 @encQ.eq_1 ?_; try exact True.intro)) ?_
  try (refine ev ?_; try exact True.intro)
  (repeat (with_reducible refine ob ?_))
  refine ju _ (fun h => ?_) (fun h => ?_)
  ·have h2 : qlw s.m name q d = true := h
   have hb : qgm s.m name = (xq, 4) := by rw [hL, h1, qm5 hd (by rw [h2]; rfl)]; rfl
   try (refine ev4 @hb @encQ.eq_1 @xq.eq_1 @List.map_nil.{0,0} ?_; try exact True.intro)
  ·have h2 : qlw s.m name q d = false := h
   try (refine ev ?_; try exact True.intro)
   refine ⟨⟨d + 1, hd, qf9 d2 (by rw [h2]; rfl)⟩, ?_, by dsimp only; omega⟩
   try (refine ev5 @SL2.eq_1 @stoO.eq_1 @mapO.eq_1 @yp.eq_1 (qr (show d < 9223372036854775807 by omega)) ?_; try exact True.intro)
 ·have hd : d = 4 := by simp at h; omega
  subst hd
  have hb : qgm s.m name = (q, 0) := by rw [hL, h1, d2]; rfl
  try (refine ev2 @hb @hqe ?_; try exact True.intro)
end Go.Proofs.YtinnaedmdoengaaGreat
namespace Go.Proofs.YtinnaedmdoengaaGreat
open Go.Abs
set_option linter.unusedSimpArgs false
set_option linter.unusedVariables false
theorem ya {n : Int} (h0 : 0 ≤ n) (h1 : n ≤ 1099511627776) : (wInt n).length ≤ 6 :=
 qf7 5 _ (by
  unfold zz; rw [if_pos h0]; have : (128 : Nat) ^ (5 + 1) = 4398046511104 := by decide
  omega)
theorem qjw {p : Pk} (h : xc p = true) : (∀ x ∈ zr p, 0 ≤ x ∧ x ≤ 1099511627776) ∧ (∀ v ∈ p.values, vq v = true) ∧ ∀ x ∈ p.clock, 0 ≤ x ∧ x ≤ 1099511627776 := by
 unfold xc qlb at h
 simp only [Bool.and_eq_true, decide_eq_true_eq] at h
 obtain ⟨⟨⟨⟨k1, k2⟩, k3⟩, k4⟩, h⟩ := h
 have hd : (∀ x ∈ [p.epoch, p.from_, p.to, p.seq, p.label], 0 ≤ x ∧ x ≤ 1099511627776) → ∀ x ∈ zr p, 0 ≤ x ∧ x ≤ 1099511627776 := by
  intro h x hx
  simp only [zr, List.mem_cons] at hx
  rcases hx with rfl | rfl | hx
  ·omega
  ·omega
  ·exact h x (by simpa using hx)
 have bareC : bare p = true → p.epoch = 0 ∧ (∀ v ∈ p.values, vq v = true) ∧ ∀ x ∈ p.clock, 0 ≤ x ∧ x ≤ 1099511627776 := by
  intro hb
  simp only [bare, Bool.and_eq_true, beq_iff_eq] at hb
  have h1 : p.values = [] := List.eq_nil_of_length_eq_zero (by omega)
  have h2 : p.clock = [] := List.eq_nil_of_length_eq_zero (by omega)
  rw [h1, h2]
  exact ⟨hb.1.1, fun v hv => (by cases hv), fun v hv => (by cases hv)⟩
 split at h
 ·simp only [data, qc8, role, Bool.and_eq_true, Bool.or_eq_true, decide_eq_true_eq, beq_iff_eq, Bool.not_eq_true', List.any_eq_false, Bool.or_eq_false_iff, decide_eq_false_iff_not, Bool.not_eq_false', not_or, Bool.not_eq_true] at h
  refine ⟨hd fun x hx => ?_, fun v hv => ?_, fun x hx => ?_⟩
  ·simp only [List.mem_cons, List.not_mem_nil, or_false] at hx
   rcases hx with rfl | rfl | rfl | rfl | rfl <;> omega
  ·have := h.1.2 v hv; simpa using this
  ·have := h.2 x hx; omega
 ·split at h
  ·simp only [ack, qc8, role, Bool.and_eq_true, decide_eq_true_eq, beq_iff_eq] at h
   obtain ⟨b1, b2, b3⟩ := bareC h.1.2
   refine ⟨hd fun x hx => ?_, b2, b3⟩
   simp only [List.mem_cons, List.not_mem_nil, or_false] at hx
   rcases hx with rfl | rfl | rfl | rfl | rfl <;> omega
  ·simp only [order, role, Bool.and_eq_true, Bool.or_eq_true, decide_eq_true_eq, beq_iff_eq] at h
   obtain ⟨b1, b2, b3⟩ := bareC h.1.1.2
   refine ⟨hd fun x hx => ?_, b2, b3⟩
   simp only [List.mem_cons, List.not_mem_nil, or_false] at hx
   rcases hx with rfl | rfl | rfl | rfl | rfl <;> omega
theorem qlx {p : Pk} (h : xc p = true) : ∀ x ∈ zr p, 0 ≤ x ∧ x ≤ 1099511627776 := (qjw h).1
theorem qhc {p : Pk} (h : xc p = true) : ∀ v ∈ p.values, vq v = true := (qjw h).2.1
theorem qjx {p : Pk} (h : xc p = true) : ∀ x ∈ p.clock, 0 ≤ x ∧ x ≤ 1099511627776 := (qjw h).2.2
theorem qwg (s : List UInt8) : qbp (qcx s) = (s, 0) := by
 have h8 := ky (fnv 14695981039346656037 s)
 have hl : (qcx s).length = s.length + 8 := by rw [qcx, List.length_append, h8]
 have h1 : (qcx s).take ((qcx s).length - 8) = s := by rw [hl, Nat.add_sub_cancel, qcx, List.take_left]
 have h2 : (qcx s).drop ((qcx s).length - 8) = be8 (fnv 14695981039346656037 s) := by rw [hl, Nat.add_sub_cancel, qcx, List.drop_left]
 unfold qbp
 rw [if_neg (by omega), h1, h2, if_pos rfl]
theorem qqp {s : List UInt8} (hs : s.length ≤ 1000000000) {hd : List Int} {rest : List UInt8} (h : s = hd.flatMap wInt ++ rest) (hi : ∀ x ∈ hd, I64 x) :
  ∀ n, n ≤ hd.length → yn n ⟨s, 0, false⟩ = (hd.take n, ⟨s, s.length - ((hd.drop n).flatMap wInt ++ rest).length, false⟩) ∧ s.drop (s.length - ((hd.drop n).flatMap wInt ++ rest).length) = (hd.drop n).flatMap wInt ++ rest
 | 0, _ => by
  have e : s.length - (hd.flatMap wInt ++ rest).length = 0 := by rw [← h, Nat.sub_self]
  simp only [yn, List.take_zero, List.drop_zero, e, and_true]
  exact ⟨trivial, h⟩
 | n + 1, hn => by
  obtain ⟨h1, h2⟩ := qqp hs h hi n (by omega)
  have hc := List.drop_eq_getElem_cons (show n < hd.length by omega)
  rw [hc, List.flatMap_cons, List.append_assoc] at h1 h2
  have hx := hi _ (List.getElem_mem (show n < hd.length by omega))
  have hr : (⟨s, s.length - (wInt hd[n] ++ ((hd.drop (n + 1)).flatMap wInt ++ rest)).length, false⟩ : Rd).Ok := ⟨hs, Nat.sub_le _ _⟩
  have hd1 := wd qjq hr rfl (v := hd[n]) (l := (hd.drop (n + 1)).flatMap wInt ++ rest) (by simp only [h2]; exact qa3 hx _)
  refine ⟨?_, (kf (Nat.sub_le _ _) h2).1⟩
  rw [yn, h1, hd1, List.take_succ_eq_append_getElem (show n < hd.length by omega)]
theorem q08 {p : Pk} (hv : xc p = true) (hw : p.W) (hs : (jq p).length ≤ 1000000000) : qqk (jq p) = (p, ⟨jq p, (jq p).length, false⟩) := by
 obtain ⟨f1, f2⟩ := qjl hv
 have h0 : jq p = (zr p).flatMap wInt ++ (wAVs p.values ++ qgc p.clock) := by rw [jq, List.append_assoc]
 obtain ⟨h1, h2⟩ := qqp hs h0 hw.h 7 (Nat.le_refl _)
 rw [show (zr p).drop 7 = [] from rfl, List.flatMap_nil, List.nil_append] at h1 h2
 rw [show (zr p).take 7 = zr p from rfl] at h1
 have d1 : qhm 4 dAV (wAVs p.values ++ qgc p.clock) = some (p.values, qgc p.clock) := qqi (most := 4) (by decide) f1 (fun x hx l => xi3 (hw.v x hx) (qhc hv x hx) l) _
 have d2 : qhm 6 dInt (qgc p.clock ++ []) = some (p.clock, []) := qqi (most := 6) (by decide) f2 (fun x hx l => qa3 (hw.c x hx) l) []
 have a1 := wd (xi5 4) (r := ⟨jq p, (jq p).length - (wAVs p.values ++ qgc p.clock).length, false⟩) ⟨hs, Nat.sub_le _ _⟩ rfl (v := p.values) (l := qgc p.clock)
  (by simp only [h2]; exact d1)
 have h3 := (kf (Nat.sub_le _ _) h2).1
 have a2 := wd (q4x 6) (r := ⟨jq p, (jq p).length - (qgc p.clock).length, false⟩) ⟨hs, Nat.sub_le _ _⟩ rfl (v := p.clock) (l := [])
  (by simp only [h3]; rw [List.append_nil] at d2; exact d2)
 simp only at a1 a2
 simp only [qqk, h1, a1, a2, List.length_nil, Nat.sub_zero]
 rfl
theorem qs3 {p : Pk} (hv : xc p = true) (hw : p.W) (hs : (jq p).length ≤ 1000000000) : yo (qcx (jq p)) = (p, 0) := by
 unfold yo
 rw [qwg, q08 hv hw hs, if_neg (by simp), if_neg]
 simp [hv, rEnd]
theorem xju {v : AV} (hp : vq v = true) (hs : v.Sm) : (wAV v).length ≤ 60 := by
 obtain ⟨k, n, s⟩ := v
 unfold vq at hp
 have hk : k = 1 ∨ k = 2 := by grind
 have h1 := ya (n := k) (by omega) (by omega)
 have h2 := x7 hs.2.1
 unfold wAV
 rw [List.length_append]
 simp only at h1 h2 ⊢
 split
 ·omega
 ·split
  ·have h40 : (s.length : Int) ≤ 40 := by grind
   have h3 := ya (n := s.length) (by omega) (by omega)
   simp only [ww, List.length_append]; omega
  ·simp only [List.length_nil]; omega
theorem xgf {p : Pk} (hv : xc p = true) (hw : p.W) : (jq p).length ≤ 340 := by
 obtain ⟨f1, f2⟩ := qjl hv
 have a1 := wp wInt 6 (zr p) fun x hx => ya (qlx hv x hx).1 (qlx hv x hx).2
 have a2 := wp wAV 60 p.values fun x hx => xju (qhc hv x hx) (hw.v x hx)
 have a3 := wp wInt 6 p.clock fun x hx => ya (qjx hv x hx).1 (qjx hv x hx).2
 have b2 := ya (n := p.values.length) (by omega) (by omega)
 have b3 := ya (n := p.clock.length) (by omega) (by omega)
 have h7 : (zr p).length = 7 := rfl
 simp only [jq, wAVs, qgc, List.length_append]
 omega
theorem xjv (p : Pk) (hw : p.W) : (vm p).1.length ≤ 348 := by
 unfold vm
 split
 ·rename_i h
  have := xgf h hw
  simp only [qcx, List.length_append, ky]; omega
 ·simp
theorem xjw {p : Pk} (hv : xc p = true) (hw : p.W) : yo (vm p).1 = (p, 0) := by
 have hs := xgf hv hw
 rw [vm, if_pos hv]
 exact qs3 hv hw (by omega)
end Go.Proofs.YtinnaedmdoengaaGreat
namespace Go.Proofs.YtinnaedmdoengaaGreat
open Go.Abs
set_option linter.unusedSimpArgs false
set_option linter.unusedVariables false
def qdj (v : List UInt8) : Option (List UInt8) := if v = [] then none else some v
theorem qs4 (v : List UInt8) : optV (qdj v) = v := by unfold qdj optV; split <;> simp_all
theorem q09 (v : List UInt8) : (qdj v).isSome = decide ((v.length : Int) > 0) := by
 cases v with
 | nil => rfl
 | cons c v => simp [qdj]
def Rep (m : Cont) (name : List UInt8) (q : Qu) : Prop := mGet (nKey name) m = qdj (k8 q) ∧ ∀ d, d < 4 → mGet (sKey name d) m = qdj (vw q d)
theorem qdf (k : List UInt8) : ∀ (l : List OpS) (a : Option (List UInt8)) (l' : List OpS), yt k a (l ++ l') = yt k (yt k a l) l'
 | [], _, _ => rfl
 | o :: l, a, l' => qdf k l _ l'
theorem qly {k o n : List UInt8} : yt k (qdj o) (chg k o n) = qdj n := by
 unfold chg
 split
 ·rename_i h; rw [h]; rfl
 ·simp only [yt, if_true, qdj]
  by_cases hn : n = [] <;> simp [hn]
theorem yi {k k' o n : List UInt8} {a : Option (List UInt8)} (h : k' ≠ k) : yt k a (chg k' o n) = a := by
 unfold chg
 split
 ·rfl
 ·simp only [yt, if_neg h]
theorem xgg (name : List UInt8) {d : Nat} (hd : d < 4) : nKey name ≠ sKey name d := by
 intro h
 have := List.append_cancel_left h
 have h4 : d = 0 ∨ d = 1 ∨ d = 2 ∨ d = 3 := by omega
 rcases h4 with rfl | rfl | rfl | rfl <;> exact absurd this (by decide)
theorem x40 (name : List UInt8) {d e : Nat} (hd : d < 4) (he : e < 4) (h : d ≠ e) : sKey name d ≠ sKey name e := by
 intro hk
 have := List.append_cancel_left hk
 have h4 : d = 0 ∨ d = 1 ∨ d = 2 ∨ d = 3 := by omega
 have h5 : e = 0 ∨ e = 1 ∨ e = 2 ∨ e = 3 := by omega
 rcases h4 with rfl | rfl | rfl | rfl <;> rcases h5 with rfl | rfl | rfl | rfl <;> first | exact absurd rfl h | exact absurd this (by decide)
theorem qqq (a b : Qu) (name : List UInt8) : ∀ D, D ≤ 4 → yt (nKey name) (qdj (k8 a)) (zn a b name D) = qdj (k8 b)
 | 0, _ => qly
 | D + 1, h => by rw [zn, qdf, qqq a b name D (by omega), yi (Ne.symm (xgg name (by omega)))]
theorem qqr (a b : Qu) (name : List UInt8) {e : Nat} (he : e < 4) : ∀ D, D ≤ 4 → yt (sKey name e) (qdj (vw a e)) (zn a b name D) = qdj (if e < D then vw b e else vw a e)
 | 0, _ => by rw [zn, yi (xgg name he)]; simp
 | D + 1, h => by
  rw [zn, qdf, qqr a b name he D (by omega)]
  by_cases hD : D = e
  ·subst hD
   rw [if_neg (by omega), qly, if_pos (by omega)]
  ·rw [yi (x40 name (by omega) he hD)]
   by_cases hl : e < D
   ·rw [if_pos hl, if_pos (by omega)]
   ·rw [if_neg hl, if_neg (by omega)]
structure QV (q : Qu) : Prop where
 c0 : 0 ≤ q.cons
 c1 : q.cons ≤ q.acc
 c2 : q.acc ≤ 1099511627776
 len : (q.items.length : Int) = q.acc - q.cons
 few : q.items.length ≤ 4
 it : ∀ i (h : i < q.items.length), xc q.items[i] = true ∧ q.items[i].seq = q.cons + 1 + i
theorem x41 {q : Qu} (h : vu q = true) : QV q := by
 unfold vu at h
 simp only [Bool.and_eq_true, decide_eq_true_eq, beq_iff_eq] at h
 obtain ⟨ha, ⟨⟨⟨c0, c1⟩, c2⟩, c3⟩, c4⟩ := h
 rw [ze (by unfold I64; omega)] at c3
 refine ⟨c0, c1, c2, c3, by omega, fun i hi => ?_⟩
 have := yh.1 ha i hi
 unfold qjg qah at this
 simp only [Bool.and_eq_true, beq_iff_eq] at this
 rw [qba hi, ze (n := q.cons + 1) (by unfold I64; omega), ze (by unfold I64; omega)] at this
 exact ⟨this.1.1.2, this.2⟩
theorem QV.I {q : Qu} (h : QV q) : I64 q.acc ∧ I64 q.cons := by
 obtain ⟨c0, c1, c2, _, _, _⟩ := h
 unfold I64; omega
theorem xjx {q : Qu} (h : QV q) {i : Nat} (hi : i < q.items.length) {d : Nat} (hd : (d : Int) = (q.cons + 1 + i).tmod 4) : vw q d = (vm q.items[i]).1 := by
 have hf : q.items.find? (fun p => p.seq.tmod 4 == (d : Int)) = some q.items[i] := by
  refine q0l (List.find?_eq_none.2 fun p hp => ?_) hi ?_
  ·obtain ⟨j, hj, rfl⟩ := List.getElem_of_mem hp
   rw [List.length_take] at hj
   rw [List.getElem_take, (h.it j (by omega)).2, hd]
   have h1 := h.c0
   have h2 := h.few
   rw [Int.tmod_eq_emod_of_nonneg (by omega), Int.tmod_eq_emod_of_nonneg (by omega)]
   simp only [beq_iff_eq]
   omega
  ·rw [(h.it i hi).2, hd]; simp
 unfold vw
 rw [hf]
theorem q1a {q : Qu} (h : QV q) : qa5 (qdj (k8 q)) = (q.acc, q.cons) := by
 obtain ⟨i1, i2⟩ := h.I
 by_cases hz : q.acc = 0 ∧ q.cons = 0
 ·have : k8 q = [] := by unfold k8; rw [if_pos hz]
  rw [this]
  simp only [qdj, if_true, qa5, hz.1, hz.2]
 ·have hb : k8 q = wInt q.acc ++ wInt q.cons := by unfold k8; rw [if_neg hz]
  have hp := q3s q.acc
  have l1 := x7 i1
  have l2 := x7 i2
  have hne : k8 q ≠ [] := by rw [hb]; intro h; have := congrArg List.length h; rw [List.length_append, List.length_nil] at this; omega
  have hl : (k8 q).length ≤ 1000000000 := by rw [hb, List.length_append]; omega
  have r1 := wd qjq (r := ⟨k8 q, 0, false⟩) ⟨hl, Nat.zero_le _⟩ rfl (v := q.acc) (l := wInt q.cons) (by simp only [List.drop_zero, hb]; exact qa3 i1 _)
  have ht := (kf (b := k8 q) (p := 0) (q := wInt q.acc) (l := wInt q.cons) (Nat.zero_le _) (by rw [List.drop_zero, hb])).1
  have r2 := wd qjq (r := ⟨k8 q, (k8 q).length - (wInt q.cons).length, false⟩) ⟨hl, Nat.sub_le _ _⟩ rfl (v := q.cons) (l := []) (by simp only [ht]; have := qa3 i2 []; rwa [List.append_nil] at this)
  simp only at r1 r2
  simp only [qdj, if_neg hne, qa5, r1, r2]
theorem qlz {m : Cont} {name : List UInt8} {q : Qu} (h : QV q) (hw : q.W) (hr : Rep m name q) : ∀ n i, n + i = q.items.length → qbb m name n (q.cons.toNat + 1 + i) = some (q.items.drop i)
 | 0, i, hi => by rw [qbb, List.drop_of_length_le (by omega)]
 | n + 1, i, hi => by
  have h0 := h.c0
  have hil : i < q.items.length := by omega
  have hk : ((q.cons.toNat + 1 + i) % 4 : Nat) = (((q.cons.toNat + 1 + i) % 4 : Nat) : Int) := rfl
  have hsl : vw q ((q.cons.toNat + 1 + i) % 4 : Nat) = (vm q.items[i]).1 := xjx h hil (by rw [Int.tmod_eq_emod_of_nonneg (by omega)]; omega)
  have hat : ldAt m name (q.cons.toNat + 1 + i) = (q.items[i], 0) := by
   unfold ldAt
   rw [hr.2 _ (Nat.mod_lt _ (by decide)), hsl, qs4]
   exact xjw (h.it i hil).1 (hw.p _ (List.getElem_mem hil))
  have ih := qlz h hw hr n (i + 1) (by omega)
  rw [qbb, hat, if_neg (by simp)]
  rw [show q.cons.toNat + 1 + i + 1 = q.cons.toNat + 1 + (i + 1) by omega, ih, List.drop_eq_getElem_cons hil]
  rfl
theorem qdg {m : Cont} {name : List UInt8} {q : Qu} (h : vu q = true) (hw : q.W) (hn : qjt name = true) (hr : Rep m name q) : qgm m name = (q, 0) := by
 have hv := x41 h
 have hv2 := hv
 obtain ⟨c0, c1, c2, c3, c4, _⟩ := hv2
 have e1 : (q.acc - q.cons).toNat = q.items.length := by omega
 have hi := qlz hv hw hr q.items.length 0 (by omega)
 have hb : qwf (q.acc, q.cons) = false := by
  unfold qwf
  simp only [Bool.or_eq_false_iff, decide_eq_false_iff_not]
  rw [ze (by unfold I64; omega)]
  exact ⟨⟨⟨by omega, by omega⟩, by omega⟩, by omega⟩
 have b1 : qjv m name q = false := by
  unfold qjv
  rw [hr.1, qs4, q09, h]; simp
 have b2 : qcd (fun d => !qlw m name q d) 4 = true := yh.2 fun d hd => by
  unfold qlw
  rw [hr.2 d hd, qs4, q09]; simp
 unfold qgm
 rw [if_neg (by simp [hn]), hr.1, q1a hv, if_neg (by rw [hb]; simp), e1]
 simp only
 rw [show q.cons.toNat + 1 = q.cons.toNat + 1 + 0 from rfl, hi, List.drop_zero, q43, b1, b2]
 rfl
end Go.Proofs.YtinnaedmdoengaaGreat
namespace Go.Proofs.YtinnaedmdoengaaGreat
open Go.Abs
set_option linter.unusedSimpArgs false
set_option linter.unusedVariables false
theorem q1b {k o n : List UInt8} {x : OpS} (h : x ∈ chg k o n) : x.key = k ∧ x.val = n ∧ (x.del = true → n = []) := by
 unfold chg at h
 split at h
 ·cases h
 ·simp only [List.mem_cons, List.not_mem_nil, or_false] at h
  subst h
  exact ⟨rfl, rfl, fun h => by simpa using h⟩
theorem qnj {a b : Qu} {name : List UInt8} {x : OpS} : ∀ {D : Nat}, x ∈ zn a b name D → x.key.length = name.length + 2 ∧ (x.val = k8 b ∨ ∃ d : Nat, x.val = vw b d) ∧ (x.del = true → x.val = [])
 | 0, h => by
  obtain ⟨h1, h2, h3⟩ := q1b h
  exact ⟨by rw [h1]; simp [nKey], .inl h2, fun hd => by rw [h2]; exact h3 hd⟩
 | D + 1, h => by
  rcases List.mem_append.1 h with h | h
  ·exact qnj h
  ·obtain ⟨h1, h2, h3⟩ := q1b h
   exact ⟨by rw [h1]; simp [sKey], .inr ⟨D, h2⟩, fun hd => by rw [h2]; exact h3 hd⟩
theorem q44 {q : Qu} (h : QV q) : (k8 q).length ≤ 12 := by
 obtain ⟨c0, c1, c2, _, _, _⟩ := h
 have h1 := ya (n := q.acc) (by omega) (by omega)
 have h2 := ya (n := q.cons) (by omega) (by omega)
 unfold k8
 split
 ·simp
 ·rw [List.length_append]; omega
theorem q45 {q : Qu} (hw : q.W) (d : Int) : (vw q d).length ≤ 348 := by
 unfold vw
 split
 ·rename_i p hp
  exact xjv p (hw.p _ (List.mem_of_find?_eq_some hp))
 ·simp
theorem q1c {q : Qu} (h : QV q) (hw : q.W) {v : List UInt8} (hv : v = k8 q ∨ ∃ d : Nat, v = vw q d) : v.length ≤ 348 := by
 rcases hv with rfl | ⟨d, rfl⟩
 ·have := q44 h; omega
 ·exact q45 hw d
theorem qqs {s : List UInt8} (h : s.length ≤ 1000000) : (ww s).length ≤ s.length + 6 := by
 have := ya (n := s.length) (by omega) (by omega)
 rw [ww, List.length_append]; omega
theorem q46 {a b : Qu} {name : List UInt8} (hb : QV b) (wb : b.W) (hn : name.length ≤ 30) (hne : zn a b name 4 ≠ []) : (xd (zn a b name 4)).2 = 0 := by
 have hl := qbr a b name 4
 have hp : ∀ o ∈ zn a b name 4, ji o = true := fun o ho => by
  obtain ⟨h1, h2, h3⟩ := qnj ho
  have h4 := q1c hb wb h2
  exact v7.2 ⟨by omega, by omega, by omega, fun hd => by rw [h3 hd]; rfl⟩
 have hs := wp wOp 393 (zn a b name 4) fun o ho => by
  obtain ⟨h1, h2, h3⟩ := qnj ho
  have h4 := q1c hb wb h2
  have h5 := qqs (s := o.key) (by omega)
  have h6 := qqs (s := o.val) (by omega)
  simp only [wOp, List.length_append, List.length_cons, List.length_nil]; omega
 have hc := ya (n := (zn a b name 4).length) (by omega) (by omega)
 have hpos : 0 < (zn a b name 4).length := List.length_pos_iff.2 hne
 unfold xd
 rw [if_neg, if_neg]
 ·simp only [Bool.or_eq_true, decide_eq_true_eq, not_or, wOps, List.length_append]
  omega
 ·simp only [Bool.or_eq_true, decide_eq_true_eq, not_or, List.any_eq_true, not_exists, not_and]
  exact ⟨by omega, fun o ho => by simp [hp o ho]⟩
theorem qgo : ∀ (l : List OpS) (m : Cont), m.l.length + l.length ≤ 400 → (k7 m l).2 = true ∧ (k7 m l).1.l.length ≤ m.l.length + l.length
 | [], m, h => ⟨rfl, Nat.le_refl _⟩
 | o :: l, m, h => by
  rw [k7]
  simp only [List.length_cons] at h ⊢
  split
  ·have h1 := qty o.key m
   have := qgo l (mDel o.key m) (by omega)
   exact ⟨this.1, by omega⟩
  ·have h1 := q4c o.key o.val m
   rw [if_neg (by omega)]
   have := qgo l (mPut o.key o.val m) (by omega)
   exact ⟨this.1, by omega⟩
structure Sto.Few (n : Nat) (s : Sto) : Prop where
 ok : s.Ok n
 len : s.m.l.length ≤ 5 * n
theorem qs5 : newS.Few 0 := ⟨qzi 0, Nat.le_refl _⟩
theorem Sto.Few.v {n : Nat} {s : Sto} (h : s.Few n) : ∀ x ∈ s.m.l, x.2.2.length ≤ 1000000 := fun x hx => by
 have := (h.ok.good.small x hx).2.2; omega
theorem qs6 {n : Nat} {s : Sto} (h : s.Few n) (hn : n ≤ 60) {a b : Qu} {name : List UInt8} (hb : QV b) (wb : b.W) (hm : name.length ≤ 30) (hne : zn a b name 4 ≠ []) :
  (xi s (zn a b name 4)).2 = 0 ∧ (xi s (zn a b name 4)).1.Few (n + 1) ∧ ∀ k, mGet k (xi s (zn a b name 4)).1.m = yt k (mGet k s.m) (zn a b name 4) := by
 have he := q46 hb wb hm hne
 have hl := qbr a b name 4
 have h5 := h.len
 obtain ⟨y1, y2⟩ := qgo (zn a b name 4) s.m (by omega)
 have hc : xi s (zn a b name 4) = (⟨qcw s.file (xd (zn a b name 4)).1, s.synced, (k7 s.m (zn a b name 4)).1⟩, 0) := by
  unfold xi
  rw [if_neg (by simp [he]), if_neg (by simp [y1])]
 have hok := qd7 h.ok (zn a b name 4)
 rw [hc] at hok ⊢
 exact ⟨rfl, ⟨hok, by simp only; omega⟩, fun k => qge k _ h.ok.good.ok y1⟩
theorem q47 {m m' : Cont} {a b : Qu} {name : List UInt8} (hr : Rep m name a) (hg : ∀ k, mGet k m' = yt k (mGet k m) (zn a b name 4)) : Rep m' name b := by
 refine ⟨by rw [hg, hr.1, qqq a b name 4 (Nat.le_refl _)], fun d hd => ?_⟩
 rw [hg, hr.2 d hd, qqr a b name hd 4 (Nat.le_refl _), if_pos hd]
theorem q1d (name : List UInt8) : Rep qpv name xq := ⟨rfl, fun d _ => rfl⟩
theorem q1e {k o n : List UInt8} (h : chg k o n = []) : o = n := by
 unfold chg at h
 split at h
 ·assumption
 ·cases h
theorem qnk {a b : Qu} {name : List UInt8} : ∀ {D : Nat}, zn a b name D = [] → k8 a = k8 b ∧ ∀ d, d < D → vw a d = vw b d
 | 0, h => ⟨q1e h, fun d hd => absurd hd (Nat.not_lt_zero _)⟩
 | D + 1, h => by
  obtain ⟨h1, h2⟩ := List.append_eq_nil_iff.1 h
  obtain ⟨i1, i2⟩ := qnk h1
  refine ⟨i1, fun d hd => ?_⟩
  rcases Nat.lt_or_ge d D with hl | hl
  ·exact i2 d hl
  ·have : d = D := by omega
   subst this; exact q1e h2
theorem qt2 {m : Cont} {a b : Qu} {name : List UInt8} (h1 : k8 a = k8 b) (h2 : ∀ d : Nat, d < 4 → vw a d = vw b d) (hr : Rep m name a) : Rep m name b := ⟨by rw [← h1]; exact hr.1, fun d hd => by rw [← h2 d hd]; exact hr.2 d hd⟩
end Go.Proofs.YtinnaedmdoengaaGreat
namespace Go.Proofs.YtinnaedmdoengaaGreat
open Go.Abs
set_option linter.unusedSimpArgs false
theorem qh2 {α : Type} {f : α → Bool} {l : List α} {i : Nat} (h : (l.take i).all f = true) (hi : l.length ≤ i) : l.all f = true := by
 rwa [List.take_of_length_le hi] at h
noncomputable section
set_option maxRecDepth 100000
def x44 : List SOper := [
 ⟨some 6, .mov (.k (.d (.bool false))), none⟩]
def x45 : List SOper := [
 ⟨some 7, .mov (.t 0), none⟩,
 ⟨some 8, .mov (.t 1), none⟩,
 ⟨some 9, .bin .geq (.t 7) (.t 8), none⟩,
 ⟨some 10, .mov (.t 9), none⟩,
 ⟨some 11, .mov (.t 0), some (10, true)⟩,
 ⟨some 12, .mov (.t 2), some (10, true)⟩,
 ⟨some 13, .bin .leq (.t 11) (.t 12), some (10, true)⟩,
 ⟨some 14, .pick (.t 10) (.t 13) (.k (.d (.bool false))), none⟩,
 ⟨some 6, .mov (.t 14), none⟩]
def s88 : SCode := (.seq (.region x44 0 []) (.seq (.region x45 0 []) .ret))
theorem e88 : qf s88.eq_1 := qg s88.eq_1
theorem zhw : qa x44.eq_1 := qc
theorem zhx : qa x45.eq_1 := qc
attribute [go_sem] zhw zhx e88
theorem F88 : FnIs Tryz.prog 88 Tryz.f88 [] news s88 [.tmp 6] 15 := xo follows Tryz.func88
def x46 : List SOper := [
 ⟨some 1, .box 1 (.t 0), none⟩,
 ⟨some 2, .mov (.k (.d (.bool false))), none⟩]
def x47 : List SOper := [
 ⟨some 3, .faddr 3 (.t 1), none⟩,
 ⟨some 4, .load none (.t 3), none⟩,
 ⟨some 5, .call (.k (.d (.func (.func 88) [] []))) [(.t 4), (.k (.d (.int .i64 0))), (.k (.d (.int .i64 5)))], none⟩,
 ⟨some 6, .mov (.t 5), none⟩,
 ⟨some 7, .faddr 4 (.t 1), some (6, true)⟩,
 ⟨some 8, .load none (.t 7), some (6, true)⟩,
 ⟨some 9, .call (.k (.d (.func (.func 88) [] []))) [(.t 8), (.k (.d (.int .i64 0))), (.k (.d (.int .i64 5)))], some (6, true)⟩,
 ⟨some 10, .pick (.t 6) (.t 9) (.k (.d (.bool false))), none⟩,
 ⟨some 11, .mov (.t 10), none⟩,
 ⟨some 12, .faddr 3 (.t 1), some (11, true)⟩,
 ⟨some 13, .load none (.t 12), some (11, true)⟩,
 ⟨some 14, .faddr 4 (.t 1), some (11, true)⟩,
 ⟨some 15, .load none (.t 14), some (11, true)⟩,
 ⟨some 16, .bin .neq (.t 13) (.t 15), some (11, true)⟩,
 ⟨some 17, .pick (.t 11) (.t 16) (.k (.d (.bool false))), none⟩,
 ⟨some 2, .mov (.t 17), none⟩]
def s89 : SCode := (.seq (.region x46 1 []) (.seq (.region x47 0 []) .ret))
theorem e89 : qf s89.eq_1 := qg s89.eq_1
theorem zhy : qa x46.eq_1 := qc
theorem zhz : qa x47.eq_1 := qc
attribute [go_sem] zhy zhz e89
theorem F89 : FnIs Tryz.prog 89 Tryz.f89 [] news s89 [.tmp 2] 18 := xo follows Tryz.func89
def xgh : List SOper := [
 ⟨some 1, .box 1 (.t 0), none⟩,
 ⟨some 2, .mov (.k (.d (.bool false))), none⟩]
def xgi : List SOper := [
 ⟨some 3, .faddr 0 (.t 1), none⟩,
 ⟨some 4, .load none (.t 3), none⟩,
 ⟨some 5, .bin .eql (.t 4) (.k (.d (.int .i64 1))), none⟩,
 ⟨some 6, .mov (.t 5), none⟩,
 ⟨some 7, .faddr 2 (.t 1), some (6, true)⟩,
 ⟨some 8, .load none (.t 7), some (6, true)⟩,
 ⟨some 9, .bin .eql (.t 8) (.k (.d (.str []))), some (6, true)⟩,
 ⟨some 10, .pick (.t 6) (.t 9) (.k (.d (.bool false))), none⟩,
 ⟨some 11, .mov (.t 10), none⟩,
 ⟨some 12, .faddr 0 (.t 1), some (11, false)⟩,
 ⟨some 13, .load none (.t 12), some (11, false)⟩,
 ⟨some 14, .bin .eql (.t 13) (.k (.d (.int .i64 2))), some (11, false)⟩,
 ⟨some 15, .mov (.t 14), some (11, false)⟩,
 ⟨some 16, .faddr 1 (.t 1), some (15, true)⟩,
 ⟨some 17, .load none (.t 16), some (15, true)⟩,
 ⟨some 18, .bin .eql (.t 17) (.k (.d (.int .i64 0))), some (15, true)⟩,
 ⟨some 19, .pick (.t 15) (.t 18) (.k (.d (.bool false))), some (11, false)⟩,
 ⟨some 20, .pick (.t 11) (.k (.d (.bool true))) (.t 19), none⟩,
 ⟨some 2, .mov (.t 20), none⟩]
def s143 : SCode := (.seq (.region xgh 1 []) (.seq (.region xgi 0 []) .ret))
theorem zm4 : qf s143.eq_1 := qg s143.eq_1
theorem x48 : qa xgh.eq_1 := qc
theorem x49 : qa xgi.eq_1 := qc
attribute [go_sem] x48 x49 zm4
theorem x8b : FnIs Tryz.prog 143 Tryz.f143 [] news s143 [.tmp 2] 21 := xo follows Tryz.func143
def x5a : List SOper := [
 ⟨some 1, .box 1 (.t 0), none⟩,
 ⟨some 2, .mov (.k (.d (.bool false))), none⟩]
def x5b : List SOper := [
 ⟨some 5, .faddr 7 (.t 1), none⟩,
 ⟨some 6, .load none (.t 5), none⟩,
 ⟨some 7, .len (.t 6), none⟩,
 ⟨some 8, .bin .gtr (.t 7) (.k (.d (.int .i64 4))), none⟩,
 ⟨some 9, .mov (.t 8), none⟩,
 ⟨some 10, .faddr 8 (.t 1), some (9, false)⟩,
 ⟨some 11, .load none (.t 10), some (9, false)⟩,
 ⟨some 12, .len (.t 11), some (9, false)⟩,
 ⟨some 13, .bin .gtr (.t 12) (.k (.d (.int .i64 6))), some (9, false)⟩,
 ⟨some 14, .pick (.t 9) (.k (.d (.bool true))) (.t 13), none⟩]
def x5c : List SOper := [
 ⟨some 2, .mov (.k (.d (.bool false))), none⟩]
def x5d : List SOper := [
 ⟨some 3, .mov (.k (.d (.int .i64 0))), none⟩]
def x5e : List SOper := [
 ⟨some 15, .mov (.t 3), none⟩,
 ⟨some 16, .faddr 7 (.t 1), none⟩,
 ⟨some 17, .load none (.t 16), none⟩,
 ⟨some 18, .len (.t 17), none⟩,
 ⟨some 19, .bin .lss (.t 15) (.t 18), none⟩]
def x5f : List SOper := [
 ⟨some 22, .faddr 7 (.t 1), none⟩,
 ⟨some 23, .load none (.t 22), none⟩,
 ⟨some 24, .mov (.t 3), none⟩,
 ⟨some 25, .iaddr 3 (.t 23) (.t 24), none⟩,
 ⟨some 26, .load (some 3) (.t 25), none⟩,
 ⟨some 27, .call (.k (.d (.func (.func 143) [] []))) [(.t 26)], none⟩,
 ⟨some 28, .not (.t 27), none⟩,
 ⟨some 29, .mov (.t 28), none⟩,
 ⟨some 30, .faddr 7 (.t 1), some (29, false)⟩,
 ⟨some 31, .load none (.t 30), some (29, false)⟩,
 ⟨some 32, .mov (.t 3), some (29, false)⟩,
 ⟨some 33, .iaddr 3 (.t 31) (.t 32), some (29, false)⟩,
 ⟨some 34, .faddr 2 (.t 33), some (29, false)⟩,
 ⟨some 35, .load none (.t 34), some (29, false)⟩,
 ⟨some 36, .lenS (.t 35), some (29, false)⟩,
 ⟨some 37, .bin .gtr (.t 36) (.k (.d (.int .i64 40))), some (29, false)⟩,
 ⟨some 38, .pick (.t 29) (.k (.d (.bool true))) (.t 37), none⟩]
def x5g : List SOper := [
 ⟨some 2, .mov (.k (.d (.bool false))), none⟩]
def x5h : List SOper := [
 ⟨some 20, .mov (.t 3), none⟩,
 ⟨some 21, .bin .add (.t 20) (.k (.d (.int .i64 1))), none⟩,
 ⟨some 3, .mov (.t 21), none⟩]
def xjy : SCode := (.seq (.seq (.region x5e 0 []) (.cond (.t 19) .skip (.exit 0))) (.seq (.block 1 (.seq (.region x5f 0 []) (.cond (.t 38) (.seq (.region x5g 0 []) .ret) .skip))) (.region x5h 0 [])))
theorem zh0 : qf xjy.eq_1 := qg xjy.eq_1
def x5i : List SOper := [
 ⟨some 4, .mov (.k (.d (.int .i64 0))), none⟩]
def xgj : List SOper := [
 ⟨some 39, .mov (.t 4), none⟩,
 ⟨some 40, .faddr 8 (.t 1), none⟩,
 ⟨some 41, .load none (.t 40), none⟩,
 ⟨some 42, .len (.t 41), none⟩,
 ⟨some 43, .bin .lss (.t 39) (.t 42), none⟩]
def xgk : List SOper := [
 ⟨some 46, .faddr 8 (.t 1), none⟩,
 ⟨some 47, .load none (.t 46), none⟩,
 ⟨some 48, .mov (.t 4), none⟩,
 ⟨some 49, .iaddr 1 (.t 47) (.t 48), none⟩,
 ⟨some 50, .load none (.t 49), none⟩,
 ⟨some 51, .call (.k (.d (.func (.func 88) [] []))) [(.t 50), (.k (.d (.int .i64 0))), (.k (.d (.int .i64 1099511627776)))], none⟩,
 ⟨some 52, .not (.t 51), none⟩]
def xgl : List SOper := [
 ⟨some 2, .mov (.k (.d (.bool false))), none⟩]
def xgm : List SOper := [
 ⟨some 44, .mov (.t 4), none⟩,
 ⟨some 45, .bin .add (.t 44) (.k (.d (.int .i64 1))), none⟩,
 ⟨some 4, .mov (.t 45), none⟩]
def q1f : SCode := (.seq (.seq (.region xgj 0 []) (.cond (.t 43) .skip (.exit 2))) (.seq (.block 3 (.seq (.region xgk 0 []) (.cond (.t 52) (.seq (.region xgl 0 []) .ret) .skip))) (.region xgm 0 [])))
theorem x5j : qf q1f.eq_1 := qg q1f.eq_1
def xgn : List SOper := [
 ⟨some 2, .mov (.k (.d (.bool true))), none⟩]
def s90 : SCode := (.seq (.region x5a 1 []) (.seq (.seq (.region x5b 0 []) (.cond (.t 14) (.seq (.region x5c 0 []) .ret) .skip)) (.seq (.seq (.region x5d 0 []) (.block 0 (.loop xjy))) (.seq (.seq (.region x5i 0 []) (.block 2 (.loop q1f))) (.seq (.region xgn 0 []) .ret)))))
theorem e90 : qf s90.eq_1 := qg s90.eq_1
theorem zh1 : qa x5a.eq_1 := qc
theorem zh2 : qa x5b.eq_1 := qc
theorem zh3 : qa x5c.eq_1 := qc
theorem zh4 : qa x5d.eq_1 := qc
theorem zh5 : qa x5e.eq_1 := qc
theorem zh6 : qa x5f.eq_1 := qc
theorem zh7 : qa x5g.eq_1 := qc
theorem zh8 : qa x5h.eq_1 := qc
theorem zh9 : qa x5i.eq_1 := qc
theorem x5k : qa xgj.eq_1 := qc
theorem x5l : qa xgk.eq_1 := qc
theorem x5m : qa xgl.eq_1 := qc
theorem x5n : qa xgm.eq_1 := qc
theorem x5o : qa xgn.eq_1 := qc
attribute [go_sem] zh1 zh2 zh3 zh4 zh5 zh6 zh7 zh8 zh0 zh9 x5k x5l x5m x5n x5j x5o e90
theorem F90 : FnIs Tryz.prog 90 Tryz.f90 [] news s90 [.tmp 2] 53 := xo follows Tryz.func90
def x5p : List SOper := [
 ⟨some 1, .box 1 (.t 0), none⟩,
 ⟨some 2, .mov (.k (.d (.bool false))), none⟩]
def x5q : List SOper := [
 ⟨some 4, .faddr 1 (.t 1), none⟩,
 ⟨some 5, .load none (.t 4), none⟩,
 ⟨some 6, .call (.k (.d (.func (.func 88) [] []))) [(.t 5), (.k (.d (.int .i64 1))), (.k (.d (.int .i64 32)))], none⟩,
 ⟨some 7, .not (.t 6), none⟩]
def x5r : List SOper := [
 ⟨some 2, .mov (.k (.d (.bool false))), none⟩]
def x5s : List SOper := [
 ⟨some 8, .faddr 2 (.t 1), none⟩,
 ⟨some 9, .load none (.t 8), none⟩,
 ⟨some 10, .bin .eql (.t 9) (.k (.d (.int .i64 0))), none⟩,
 ⟨some 11, .mov (.t 10), none⟩,
 ⟨some 12, .faddr 7 (.t 1), some (11, true)⟩,
 ⟨some 13, .load none (.t 12), some (11, true)⟩,
 ⟨some 14, .len (.t 13), some (11, true)⟩,
 ⟨some 15, .bin .eql (.t 14) (.k (.d (.int .i64 0))), some (11, true)⟩,
 ⟨some 16, .pick (.t 11) (.t 15) (.k (.d (.bool false))), none⟩,
 ⟨some 17, .mov (.t 16), none⟩,
 ⟨some 18, .faddr 8 (.t 1), some (17, true)⟩,
 ⟨some 19, .load none (.t 18), some (17, true)⟩,
 ⟨some 20, .len (.t 19), some (17, true)⟩,
 ⟨some 21, .bin .eql (.t 20) (.k (.d (.int .i64 0))), some (17, true)⟩,
 ⟨some 22, .pick (.t 17) (.t 21) (.k (.d (.bool false))), none⟩,
 ⟨some 3, .mov (.t 22), none⟩]
def x5t : List SOper := [
 ⟨some 23, .faddr 0 (.t 1), none⟩,
 ⟨some 24, .load none (.t 23), none⟩]
def x5u : List SOper := [
 ⟨some 26, .bin .eql (.t 24) (.k (.d (.int .i64 1))), none⟩,
 ⟨some 25, .mov (.t 26), none⟩]
def x5v : List SOper := [
 ⟨some 27, .faddr 2 (.t 1), none⟩,
 ⟨some 28, .load none (.t 27), none⟩,
 ⟨some 29, .call (.k (.d (.func (.func 88) [] []))) [(.t 28), (.k (.d (.int .i64 0))), (.k (.d (.int .i64 1)))], none⟩,
 ⟨some 30, .mov (.t 29), none⟩,
 ⟨some 31, .load (some 9) (.t 1), some (30, true)⟩,
 ⟨some 32, .call (.k (.d (.func (.func 89) [] []))) [(.t 31)], some (30, true)⟩,
 ⟨some 33, .pick (.t 30) (.t 32) (.k (.d (.bool false))), none⟩,
 ⟨some 34, .mov (.t 33), none⟩,
 ⟨some 35, .faddr 5 (.t 1), some (34, true)⟩,
 ⟨some 36, .load none (.t 35), some (34, true)⟩,
 ⟨some 37, .call (.k (.d (.func (.func 88) [] []))) [(.t 36), (.k (.d (.int .i64 1))), (.k (.d (.int .i64 1099511627776)))], some (34, true)⟩,
 ⟨some 38, .pick (.t 34) (.t 37) (.k (.d (.bool false))), none⟩,
 ⟨some 39, .mov (.t 38), none⟩,
 ⟨some 40, .faddr 6 (.t 1), some (39, true)⟩,
 ⟨some 41, .load none (.t 40), some (39, true)⟩,
 ⟨some 42, .call (.k (.d (.func (.func 88) [] []))) [(.t 41), (.k (.d (.int .i64 0))), (.k (.d (.int .i64 39)))], some (39, true)⟩,
 ⟨some 43, .pick (.t 39) (.t 42) (.k (.d (.bool false))), none⟩,
 ⟨some 44, .mov (.t 43), none⟩,
 ⟨some 45, .load (some 9) (.t 1), some (44, true)⟩,
 ⟨some 46, .call (.k (.d (.func (.func 90) [] []))) [(.t 45)], some (44, true)⟩,
 ⟨some 47, .pick (.t 44) (.t 46) (.k (.d (.bool false))), none⟩,
 ⟨some 2, .mov (.t 47), none⟩]
def x5w : List SOper := [
 ⟨some 49, .bin .eql (.t 24) (.k (.d (.int .i64 2))), none⟩,
 ⟨some 48, .mov (.t 49), none⟩]
def x5x : List SOper := [
 ⟨some 50, .load (some 9) (.t 1), none⟩,
 ⟨some 51, .call (.k (.d (.func (.func 89) [] []))) [(.t 50)], none⟩,
 ⟨some 52, .mov (.t 51), none⟩,
 ⟨some 53, .faddr 5 (.t 1), some (52, true)⟩,
 ⟨some 54, .load none (.t 53), some (52, true)⟩,
 ⟨some 55, .call (.k (.d (.func (.func 88) [] []))) [(.t 54), (.k (.d (.int .i64 1))), (.k (.d (.int .i64 1099511627776)))], some (52, true)⟩,
 ⟨some 56, .pick (.t 52) (.t 55) (.k (.d (.bool false))), none⟩,
 ⟨some 57, .mov (.t 56), none⟩,
 ⟨some 58, .faddr 6 (.t 1), some (57, true)⟩,
 ⟨some 59, .load none (.t 58), some (57, true)⟩,
 ⟨some 60, .bin .eql (.t 59) (.k (.d (.int .i64 0))), some (57, true)⟩,
 ⟨some 61, .pick (.t 57) (.t 60) (.k (.d (.bool false))), none⟩,
 ⟨some 62, .mov (.t 61), none⟩,
 ⟨some 63, .mov (.t 3), some (62, true)⟩,
 ⟨some 64, .pick (.t 62) (.t 63) (.k (.d (.bool false))), none⟩,
 ⟨some 2, .mov (.t 64), none⟩]
def x5y : List SOper := [
 ⟨some 66, .bin .eql (.t 24) (.k (.d (.int .i64 3))), none⟩,
 ⟨some 65, .mov (.t 66), none⟩]
def xgo : List SOper := [
 ⟨some 67, .bin .eql (.t 24) (.k (.d (.int .i64 4))), none⟩,
 ⟨some 65, .mov (.t 67), none⟩]
def xgp : List SOper := [
 ⟨some 68, .faddr 3 (.t 1), none⟩,
 ⟨some 69, .load none (.t 68), none⟩,
 ⟨some 70, .call (.k (.d (.func (.func 88) [] []))) [(.t 69), (.k (.d (.int .i64 0))), (.k (.d (.int .i64 5)))], none⟩,
 ⟨some 71, .mov (.t 70), none⟩,
 ⟨some 72, .faddr 4 (.t 1), some (71, true)⟩,
 ⟨some 73, .load none (.t 72), some (71, true)⟩,
 ⟨some 74, .bin .eql (.t 73) (.k (.d (.int .i64 0))), some (71, true)⟩,
 ⟨some 75, .pick (.t 71) (.t 74) (.k (.d (.bool false))), none⟩,
 ⟨some 76, .mov (.t 75), none⟩,
 ⟨some 77, .faddr 5 (.t 1), some (76, true)⟩,
 ⟨some 78, .load none (.t 77), some (76, true)⟩,
 ⟨some 79, .bin .eql (.t 78) (.k (.d (.int .i64 0))), some (76, true)⟩,
 ⟨some 80, .pick (.t 76) (.t 79) (.k (.d (.bool false))), none⟩,
 ⟨some 81, .mov (.t 80), none⟩,
 ⟨some 82, .faddr 6 (.t 1), some (81, true)⟩,
 ⟨some 83, .load none (.t 82), some (81, true)⟩,
 ⟨some 84, .call (.k (.d (.func (.func 88) [] []))) [(.t 83), (.k (.d (.int .i64 1))), (.k (.d (.int .i64 2)))], some (81, true)⟩,
 ⟨some 85, .pick (.t 81) (.t 84) (.k (.d (.bool false))), none⟩,
 ⟨some 86, .mov (.t 85), none⟩,
 ⟨some 87, .mov (.t 3), some (86, true)⟩,
 ⟨some 88, .pick (.t 86) (.t 87) (.k (.d (.bool false))), none⟩,
 ⟨some 2, .mov (.t 88), none⟩]
def xgq : List SOper := [
 ⟨some 2, .mov (.k (.d (.bool false))), none⟩]
def s40 : SCode := (.seq (.region x5p 1 []) (.seq (.seq (.region x5q 0 []) (.cond (.t 7) (.seq (.region x5r 0 []) .ret) .skip)) (.seq (.region x5s 0 []) (.seq (.seq (.region x5t 0 []) (.block 0 (.seq (.region x5u 0 []) (.cond (.t 25) (.seq (.region x5v 0 []) .ret) (.seq (.region x5w 0 []) (.cond (.t 48) (.seq (.region x5x 0 []) .ret) (.seq (.seq (.region x5y 0 []) (.cond (.t 65) .skip (.region xgo 0 []))) (.cond (.t 65) (.seq (.region xgp 0 []) .ret) .skip)))))))) (.seq (.region xgq 0 []) .ret)))))
theorem e40 : qf s40.eq_1 := qg s40.eq_1
theorem zia : qa x5p.eq_1 := qc
theorem zib : qa x5q.eq_1 := qc
theorem zic : qa x5r.eq_1 := qc
theorem zid : qa x5s.eq_1 := qc
theorem zie : qa x5t.eq_1 := qc
theorem zif : qa x5u.eq_1 := qc
theorem zig : qa x5v.eq_1 := qc
theorem zih : qa x5w.eq_1 := qc
theorem zii : qa x5x.eq_1 := qc
theorem zij : qa x5y.eq_1 := qc
theorem x5z : qa xgo.eq_1 := qc
theorem x50 : qa xgp.eq_1 := qc
theorem x51 : qa xgq.eq_1 := qc
attribute [go_sem] zia zib zic zid zie zif zig zih zii zij x5z x50 x51 e40
theorem F40 : FnIs Tryz.prog 40 Tryz.f40 [] news s40 [.tmp 2] 89 := xo follows Tryz.func40
end
def in46 (n lo hi : Int) : Bool := decide (n ≥ lo) && decide (n ≤ hi)
theorem zw (n lo hi : Int) : ql Tryz.prog 88 [.d (.int .i64 n), .d (.int .i64 lo), .d (.int .i64 hi)] [] (.d (.bool (in46 n lo hi))) [] := by
 first | refine F88.go ?_ | refine F88.goT ?_
 (refine ev ?_; try exact True.intro)
 rfl
def qqt (p : Pk) : Bool := in46 p.from_ 0 5 && in46 p.to 0 5 && p.from_ != p.to
theorem qfp (p : Pk) : ql Tryz.prog 89 [.d (.agg (qi p))] [] (.d (.bool (qqt p))) [] := by
 first | refine F89.go ?_ | refine F89.goT ?_
 (refine ev1 @qi.eq_1 ?_; try exact True.intro)
 (repeat (with_reducible refine ob ?_)); first | refine cl F88 (zw _ _ _) ?_ | refine clF F88 (zw _ _ _) (fun _ => by (refine ev3 @qi.eq_1 @xg.eq_1 @encI.eq_1 ?_; try exact True.intro)) ?_
 try (refine ev ?_; try exact True.intro)
 (repeat (with_reducible refine ob ?_)); first | refine cl F88 (zw _ _ _) ?_ | refine clF F88 (zw _ _ _) (fun _ => by (refine ev3 @qi.eq_1 @xg.eq_1 @encI.eq_1 ?_; try exact True.intro)) ?_
 try (refine ev ?_; try exact True.intro)
 rfl
def qh3 (v : AV) : Bool := v.kind == 1 && v.s == [] || v.kind == 2 && v.n == 0
theorem qjy (v : AV) : ql Tryz.prog 143 [.d (.agg (xg v))] [] (.d (.bool (qh3 v))) [] := by
 first | refine x8b.go ?_ | refine x8b.goT ?_
 (refine ev1 @xg.eq_1 ?_; try exact True.intro)
 (repeat (with_reducible refine ob ?_))
 rfl
def qjz (v : AV) : Bool := !(!qh3 v || decide ((v.s.length : Int) > 40))
def qnl (n : Int) : Bool := in46 n 0 1099511627776
def wt (p : Pk) : Bool := !(decide ((p.values.length : Int) > 4) || decide ((p.clock.length : Int) > 6)) && p.values.all qjz && p.clock.all qnl
def qhn (p : Pk) : AObj := .row [.d (.int .i64 p.kind), .d (.int .i64 p.sess), .d (.int .i64 p.epoch), .d (.int .i64 p.from_), .d (.int .i64 p.to), .d (.int .i64 p.seq), .d (.int .i64 p.label), .d (.sl 3 (p.values.map xg)), .d (.sl 1 (p.clock.map encI))]
def qt3 (p : Pk) (i : { i : Nat // (p.values.take i).all qjz = true }) : St := ⟨[(1, true, .d (.ptr 0 0)), (3, true, .d (.int .i64 (i.val : Nat)))], [qhn p], [], 1⟩
def qt4 (p : Pk) (i : { i : Nat // (p.clock.take i).all qnl = true }) : St := ⟨[(1, true, .d (.ptr 0 0)), (4, true, .d (.int .i64 (i.val : Nat)))], [qhn p], [], 1⟩
theorem qhd (p : Pk) (hp : p.Sm) : ql Tryz.prog 90 [.d (.agg (qi p))] [] (.d (.bool (wt p))) [] := by
 obtain ⟨hp1, hp2⟩ := hp
 first | refine F90.go ?_ | refine F90.goT ?_
 (refine ev1 @qi.eq_1 ?_; try exact True.intro)
 (repeat (with_reducible refine ob ?_))
 refine qo _ rfl rfl (fun h0 => ?_) (fun h0 => ?_)
 ·(refine ev2 @wt.eq_1 @h0 ?_; try exact True.intro)
 try (refine ev ?_; try exact True.intro)
 refine qv (qt3 p) (fun i => p.values.length - i.val) ⟨0, rfl⟩ ?_ (fun i => ?_)
 ·try (refine ev2 @qt3.eq_1 @qhn.eq_1 ?_; try exact True.intro)
 obtain ⟨i, hi⟩ := i
 try (refine ev2 @qt3.eq_1 @qhn.eq_1 ?_; try exact True.intro)
 refine qo _ rfl rfl (fun h => ?_) (fun h => ?_)
 ·have hil : i < p.values.length := by simpa using h
  (refine ev2 (qz xg p.values hil) @xg.eq_1 ?_; try exact True.intro)
  (repeat (with_reducible refine ob ?_))
  (repeat (with_reducible refine ob ?_)); first | refine cl x8b (qjy p.values[i]) ?_ | refine clF x8b (qjy p.values[i]) (fun _ => by (refine ev3 @qi.eq_1 @xg.eq_1 @encI.eq_1 ?_; try exact True.intro)) ?_
  try (refine ev2 (qz xg p.values hil) @xg.eq_1 ?_; try exact True.intro)
  (repeat (with_reducible refine ob ?_))
  refine qo _ rfl rfl (fun h2 => ?_) (fun h2 => ?_)
  ·have hg : qjz p.values[i] = false := by simp only [qjz, h2]; rfl
   (refine ev2 @wt.eq_1 (qln hil hg) ?_; try exact True.intro)
  ·have hg : qjz p.values[i] = true := by simp only [qjz, h2]; rfl
   try (refine ev ?_; try exact True.intro)
   refine ⟨⟨i + 1, vj hi hil hg⟩, ?_, by dsimp only; omega⟩
   (refine ev3 @qt3.eq_1 @qhn.eq_1 (qr (show i < 9223372036854775807 by omega)) ?_; try exact True.intro)
 ·have hall : p.values.all qjz = true := qh2 hi (by simpa using h)
  try (refine ev ?_; try exact True.intro)
  refine qv (qt4 p) (fun i => p.clock.length - i.val) ⟨0, rfl⟩ ?_ (fun i => ?_)
  ·try (refine ev2 @qt4.eq_1 @qhn.eq_1 ?_; try exact True.intro)
  obtain ⟨i, hi⟩ := i
  try (refine ev2 @qt4.eq_1 @qhn.eq_1 ?_; try exact True.intro)
  refine qo _ rfl rfl (fun h => ?_) (fun h => ?_)
  ·have hil : i < p.clock.length := by simpa using h
   (refine ev2 (qz encI p.clock hil) @encI.eq_1 ?_; try exact True.intro)
   (repeat (with_reducible refine ob ?_))
   (repeat (with_reducible refine ob ?_)); first | refine cl F88 (zw p.clock[i] _ _) ?_ | refine clF F88 (zw p.clock[i] _ _) (fun _ => by (refine ev3 @qi.eq_1 @xg.eq_1 @encI.eq_1 ?_; try exact True.intro)) ?_
   try (refine ev ?_; try exact True.intro)
   refine qo _ rfl rfl (fun h2 => ?_) (fun h2 => ?_)
   ·have hg : qnl p.clock[i] = false := by simpa [qnl] using h2
    (refine ev2 @wt.eq_1 (qln hil hg) ?_; try exact True.intro)
   ·have hg : qnl p.clock[i] = true := by simpa [qnl] using h2
    try (refine ev ?_; try exact True.intro)
    refine ⟨⟨i + 1, vj hi hil hg⟩, ?_, by dsimp only; omega⟩
    (refine ev3 @qt4.eq_1 @qhn.eq_1 (qr (show i < 9223372036854775807 by omega)) ?_; try exact True.intro)
  ·have hall2 := qh2 hi (by simpa using h)
   (refine ev4 @wt.eq_1 @h0 @hall @hall2 ?_; try exact True.intro)
def qs7 (p : Pk) : Bool := p.epoch == 0 && (p.values.length : Int) == 0 && (p.clock.length : Int) == 0
def yq (p : Pk) : Bool :=
 if !in46 p.sess 1 32 then false
 else if p.kind == 1 then in46 p.epoch 0 1 && qqt p && in46 p.seq 1 1099511627776 && in46 p.label 0 39 && wt p
 else if p.kind == 2 then qqt p && in46 p.seq 1 1099511627776 && p.label == 0 && qs7 p
 else if p.kind == 3 || p.kind == 4 then in46 p.from_ 0 5 && p.to == 0 && p.seq == 0 && in46 p.label 1 2 && qs7 p
 else false
set_option maxRecDepth 10000 in
theorem ql0 (p : Pk) (hp : p.Sm) : ql Tryz.prog 40 [.d (.agg (qi p))] [] (.d (.bool (yq p))) [] := by
 first | refine F40.go ?_ | refine F40.goT ?_
 (refine ev1 @qi.eq_1 ?_; try exact True.intro)
 (repeat (with_reducible refine ob ?_)); first | refine cl F88 (zw _ _ _) ?_ | refine clF F88 (zw _ _ _) (fun _ => by (refine ev3 @qi.eq_1 @xg.eq_1 @encI.eq_1 ?_; try exact True.intro)) ?_
 try (refine ev ?_; try exact True.intro)
 have he : (p.epoch == 0 && (p.values.length : Int) == 0 && (p.clock.length : Int) == 0) = qs7 p := rfl
 refine qo _ rfl rfl (fun h0 => ?_) (fun h0 => ?_)
 ·(refine ev2 @yq.eq_1 @h0 ?_; try exact True.intro)
 try (refine ev1 @he ?_; try exact True.intro)
 refine qo _ rfl rfl (fun h1 => ?_) (fun h1 => ?_)
 ·try (refine ev ?_; try exact True.intro)
  (repeat (with_reducible refine ob ?_)); first | refine cl F88 (zw _ _ _) ?_ | refine clF F88 (zw _ _ _) (fun _ => by (refine ev3 @qi.eq_1 @xg.eq_1 @encI.eq_1 ?_; try exact True.intro)) ?_
  try (refine ev ?_; try exact True.intro)
  (repeat (with_reducible refine ob ?_)); first | refine cl F89 (qfp p) ?_ | refine clF F89 (qfp p) (fun _ => by (refine ev3 @qi.eq_1 @xg.eq_1 @encI.eq_1 ?_; try exact True.intro)) ?_
  try (refine ev ?_; try exact True.intro)
  (repeat (with_reducible refine ob ?_)); first | refine cl F88 (zw _ _ _) ?_ | refine clF F88 (zw _ _ _) (fun _ => by (refine ev3 @qi.eq_1 @xg.eq_1 @encI.eq_1 ?_; try exact True.intro)) ?_
  try (refine ev ?_; try exact True.intro)
  (repeat (with_reducible refine ob ?_)); first | refine cl F88 (zw _ _ _) ?_ | refine clF F88 (zw _ _ _) (fun _ => by (refine ev3 @qi.eq_1 @xg.eq_1 @encI.eq_1 ?_; try exact True.intro)) ?_
  try (refine ev ?_; try exact True.intro)
  (repeat (with_reducible refine ob ?_)); first | refine cl F90 (qhd p hp) ?_ | refine clF F90 (qhd p hp) (fun _ => by (refine ev3 @qi.eq_1 @xg.eq_1 @encI.eq_1 ?_; try exact True.intro)) ?_
  (refine ev3 @yq.eq_1 @h0 @h1 ?_; try exact True.intro)
 try (refine ev ?_; try exact True.intro)
 refine qo _ rfl rfl (fun h2 => ?_) (fun h2 => ?_)
 ·try (refine ev ?_; try exact True.intro)
  (repeat (with_reducible refine ob ?_)); first | refine cl F89 (qfp p) ?_ | refine clF F89 (qfp p) (fun _ => by (refine ev3 @qi.eq_1 @xg.eq_1 @encI.eq_1 ?_; try exact True.intro)) ?_
  try (refine ev ?_; try exact True.intro)
  (repeat (with_reducible refine ob ?_)); first | refine cl F88 (zw _ _ _) ?_ | refine clF F88 (zw _ _ _) (fun _ => by (refine ev3 @qi.eq_1 @xg.eq_1 @encI.eq_1 ?_; try exact True.intro)) ?_
  (refine ev4 @yq.eq_1 @h0 @h1 @h2 ?_; try exact True.intro)
 try (refine ev ?_; try exact True.intro)
 refine qo _ rfl rfl (fun h3 => ?_) (fun h3 => ?_)
 ·try (refine ev ?_; try exact True.intro)
  refine qo _ rfl rfl (fun _ => ?_) (fun hx => Bool.noConfusion (h3.symm.trans hx))
  try (refine ev ?_; try exact True.intro)
  (repeat (with_reducible refine ob ?_)); first | refine cl F88 (zw _ _ _) ?_ | refine clF F88 (zw _ _ _) (fun _ => by (refine ev3 @qi.eq_1 @xg.eq_1 @encI.eq_1 ?_; try exact True.intro)) ?_
  try (refine ev ?_; try exact True.intro)
  (repeat (with_reducible refine ob ?_)); first | refine cl F88 (zw _ _ _) ?_ | refine clF F88 (zw _ _ _) (fun _ => by (refine ev3 @qi.eq_1 @xg.eq_1 @encI.eq_1 ?_; try exact True.intro)) ?_
  (refine ev5 @yq.eq_1 @h0 @h1 @h2 @h3 ?_; try exact True.intro)
 try (refine ev ?_; try exact True.intro)
 refine qo _ rfl rfl (fun h4 => ?_) (fun h4 => ?_)
 ·try (refine ev ?_; try exact True.intro)
  (repeat (with_reducible refine ob ?_)); first | refine cl F88 (zw _ _ _) ?_ | refine clF F88 (zw _ _ _) (fun _ => by (refine ev3 @qi.eq_1 @xg.eq_1 @encI.eq_1 ?_; try exact True.intro)) ?_
  try (refine ev ?_; try exact True.intro)
  (repeat (with_reducible refine ob ?_)); first | refine cl F88 (zw _ _ _) ?_ | refine clF F88 (zw _ _ _) (fun _ => by (refine ev3 @qi.eq_1 @xg.eq_1 @encI.eq_1 ?_; try exact True.intro)) ?_
  (refine ev6 @yq.eq_1 @h0 @h1 @h2 @h3 @h4 ?_; try exact True.intro)
 ·(refine ev6 @yq.eq_1 @h0 @h1 @h2 @h3 @h4 ?_; try exact True.intro)
end Go.Proofs.YtinnaedmdoengaaGreat
namespace Go.Proofs.YtinnaedmdoengaaGreat
open Go.Abs
set_option linter.unusedSimpArgs false
noncomputable section
set_option maxRecDepth 100000
def xgr : List SOper := [
 ⟨some 4, .mov (.k (.d (.bool false))), none⟩]
def xgs : List SOper := [
 ⟨some 6, .mov (.t 0), none⟩,
 ⟨some 7, .len (.t 6), none⟩,
 ⟨some 8, .mov (.t 1), none⟩,
 ⟨some 9, .len (.t 8), none⟩,
 ⟨some 10, .bin .neq (.t 7) (.t 9), none⟩]
def xgt : List SOper := [
 ⟨some 4, .mov (.k (.d (.bool false))), none⟩]
def xgu : List SOper := [
 ⟨some 5, .mov (.k (.d (.int .i64 0))), none⟩]
def xgv : List SOper := [
 ⟨some 11, .mov (.t 5), none⟩,
 ⟨some 12, .mov (.t 0), none⟩,
 ⟨some 13, .len (.t 12), none⟩,
 ⟨some 14, .bin .lss (.t 11) (.t 13), none⟩]
def xgw : List SOper := [
 ⟨some 17, .mov (.t 0), none⟩,
 ⟨some 18, .mov (.t 5), none⟩,
 ⟨some 19, .iaddr 3 (.t 17) (.t 18), none⟩,
 ⟨some 20, .load (some 3) (.t 19), none⟩,
 ⟨some 21, .mov (.t 1), none⟩,
 ⟨some 22, .mov (.t 5), none⟩,
 ⟨some 23, .iaddr 3 (.t 21) (.t 22), none⟩,
 ⟨some 24, .load (some 3) (.t 23), none⟩,
 ⟨some 25, .eqAgg true [.int, .int, .str] (.t 20) (.t 24), none⟩]
def xgx : List SOper := [
 ⟨some 4, .mov (.k (.d (.bool false))), none⟩]
def xgy : List SOper := [
 ⟨some 15, .mov (.t 5), none⟩,
 ⟨some 16, .bin .add (.t 15) (.k (.d (.int .i64 1))), none⟩,
 ⟨some 5, .mov (.t 16), none⟩]
def q1g : SCode := (.seq (.seq (.region xgv 0 []) (.cond (.t 14) .skip (.exit 0))) (.seq (.block 1 (.seq (.region xgw 0 []) (.cond (.t 25) (.seq (.region xgx 0 []) .ret) .skip))) (.region xgy 0 [])))
theorem x52 : qf q1g.eq_1 := qg q1g.eq_1
def xgz : List SOper := [
 ⟨some 4, .mov (.k (.d (.bool true))), none⟩]
def s147 : SCode := (.seq (.region xgr 0 []) (.seq (.seq (.region xgs 0 []) (.cond (.t 10) (.seq (.region xgt 0 []) .ret) .skip)) (.seq (.seq (.region xgu 0 []) (.block 0 (.loop q1g))) (.seq (.region xgz 0 []) .ret))))
theorem zm5 : qf s147.eq_1 := qg s147.eq_1
theorem x53 : qa xgr.eq_1 := qc
theorem x54 : qa xgs.eq_1 := qc
theorem x55 : qa xgt.eq_1 := qc
theorem x56 : qa xgu.eq_1 := qc
theorem x57 : qa xgv.eq_1 := qc
theorem x58 : qa xgw.eq_1 := qc
theorem x59 : qa xgx.eq_1 := qc
theorem x6a : qa xgy.eq_1 := qc
theorem x6b : qa xgz.eq_1 := qc
attribute [go_sem] x53 x54 x55 x56 x57 x58 x59 x6a x52 x6b zm5
theorem x8c : FnIs Tryz.prog 147 Tryz.f147 [] news s147 [.tmp 4] 26 := xo follows Tryz.func147
def xg0 : List SOper := [
 ⟨some 4, .mov (.k (.d (.bool false))), none⟩]
def xg1 : List SOper := [
 ⟨some 6, .mov (.t 0), none⟩,
 ⟨some 7, .len (.t 6), none⟩,
 ⟨some 8, .mov (.t 1), none⟩,
 ⟨some 9, .len (.t 8), none⟩,
 ⟨some 10, .bin .neq (.t 7) (.t 9), none⟩]
def xg2 : List SOper := [
 ⟨some 4, .mov (.k (.d (.bool false))), none⟩]
def xg3 : List SOper := [
 ⟨some 5, .mov (.k (.d (.int .i64 0))), none⟩]
def xg4 : List SOper := [
 ⟨some 11, .mov (.t 5), none⟩,
 ⟨some 12, .mov (.t 0), none⟩,
 ⟨some 13, .len (.t 12), none⟩,
 ⟨some 14, .bin .lss (.t 11) (.t 13), none⟩]
def xg5 : List SOper := [
 ⟨some 17, .mov (.t 0), none⟩,
 ⟨some 18, .mov (.t 5), none⟩,
 ⟨some 19, .iaddr 1 (.t 17) (.t 18), none⟩,
 ⟨some 20, .load none (.t 19), none⟩,
 ⟨some 21, .mov (.t 1), none⟩,
 ⟨some 22, .mov (.t 5), none⟩,
 ⟨some 23, .iaddr 1 (.t 21) (.t 22), none⟩,
 ⟨some 24, .load none (.t 23), none⟩,
 ⟨some 25, .bin .neq (.t 20) (.t 24), none⟩]
def xg6 : List SOper := [
 ⟨some 4, .mov (.k (.d (.bool false))), none⟩]
def xg7 : List SOper := [
 ⟨some 15, .mov (.t 5), none⟩,
 ⟨some 16, .bin .add (.t 15) (.k (.d (.int .i64 1))), none⟩,
 ⟨some 5, .mov (.t 16), none⟩]
def q1h : SCode := (.seq (.seq (.region xg4 0 []) (.cond (.t 14) .skip (.exit 0))) (.seq (.block 1 (.seq (.region xg5 0 []) (.cond (.t 25) (.seq (.region xg6 0 []) .ret) .skip))) (.region xg7 0 [])))
theorem x6c : qf q1h.eq_1 := qg q1h.eq_1
def xg8 : List SOper := [
 ⟨some 4, .mov (.k (.d (.bool true))), none⟩]
def s148 : SCode := (.seq (.region xg0 0 []) (.seq (.seq (.region xg1 0 []) (.cond (.t 10) (.seq (.region xg2 0 []) .ret) .skip)) (.seq (.seq (.region xg3 0 []) (.block 0 (.loop q1h))) (.seq (.region xg8 0 []) .ret))))
theorem zm6 : qf s148.eq_1 := qg s148.eq_1
theorem x6d : qa xg0.eq_1 := qc
theorem x6e : qa xg1.eq_1 := qc
theorem x6f : qa xg2.eq_1 := qc
theorem x6g : qa xg3.eq_1 := qc
theorem x6h : qa xg4.eq_1 := qc
theorem x6i : qa xg5.eq_1 := qc
theorem x6j : qa xg6.eq_1 := qc
theorem x6k : qa xg7.eq_1 := qc
theorem x6l : qa xg8.eq_1 := qc
attribute [go_sem] x6d x6e x6f x6g x6h x6i x6j x6k x6c x6l zm6
theorem x8d : FnIs Tryz.prog 148 Tryz.f148 [] news s148 [.tmp 4] 26 := xo follows Tryz.func148
def x6m : List SOper := [
 ⟨some 2, .box 2 (.t 0), none⟩,
 ⟨some 3, .box 1 (.t 1), none⟩,
 ⟨some 4, .mov (.k (.d (.bool false))), none⟩]
def x6n : List SOper := [
 ⟨some 5, .faddr 0 (.t 2), none⟩,
 ⟨some 6, .load none (.t 5), none⟩,
 ⟨some 7, .faddr 0 (.t 3), none⟩,
 ⟨some 8, .load none (.t 7), none⟩,
 ⟨some 9, .bin .eql (.t 6) (.t 8), none⟩,
 ⟨some 10, .mov (.t 9), none⟩,
 ⟨some 11, .faddr 1 (.t 2), some (10, true)⟩,
 ⟨some 12, .load none (.t 11), some (10, true)⟩,
 ⟨some 13, .faddr 1 (.t 3), some (10, true)⟩,
 ⟨some 14, .load none (.t 13), some (10, true)⟩,
 ⟨some 15, .bin .eql (.t 12) (.t 14), some (10, true)⟩,
 ⟨some 16, .pick (.t 10) (.t 15) (.k (.d (.bool false))), none⟩,
 ⟨some 17, .mov (.t 16), none⟩,
 ⟨some 18, .faddr 2 (.t 2), some (17, true)⟩,
 ⟨some 19, .load none (.t 18), some (17, true)⟩,
 ⟨some 20, .faddr 2 (.t 3), some (17, true)⟩,
 ⟨some 21, .load none (.t 20), some (17, true)⟩,
 ⟨some 22, .bin .eql (.t 19) (.t 21), some (17, true)⟩,
 ⟨some 23, .pick (.t 17) (.t 22) (.k (.d (.bool false))), none⟩,
 ⟨some 24, .mov (.t 23), none⟩,
 ⟨some 25, .faddr 3 (.t 2), some (24, true)⟩,
 ⟨some 26, .load none (.t 25), some (24, true)⟩,
 ⟨some 27, .faddr 3 (.t 3), some (24, true)⟩,
 ⟨some 28, .load none (.t 27), some (24, true)⟩,
 ⟨some 29, .bin .eql (.t 26) (.t 28), some (24, true)⟩,
 ⟨some 30, .pick (.t 24) (.t 29) (.k (.d (.bool false))), none⟩,
 ⟨some 31, .mov (.t 30), none⟩,
 ⟨some 32, .faddr 4 (.t 2), some (31, true)⟩,
 ⟨some 33, .load none (.t 32), some (31, true)⟩,
 ⟨some 34, .faddr 4 (.t 3), some (31, true)⟩,
 ⟨some 35, .load none (.t 34), some (31, true)⟩,
 ⟨some 36, .bin .eql (.t 33) (.t 35), some (31, true)⟩,
 ⟨some 37, .pick (.t 31) (.t 36) (.k (.d (.bool false))), none⟩,
 ⟨some 38, .mov (.t 37), none⟩,
 ⟨some 39, .faddr 5 (.t 2), some (38, true)⟩,
 ⟨some 40, .load none (.t 39), some (38, true)⟩,
 ⟨some 41, .faddr 5 (.t 3), some (38, true)⟩,
 ⟨some 42, .load none (.t 41), some (38, true)⟩,
 ⟨some 43, .bin .eql (.t 40) (.t 42), some (38, true)⟩,
 ⟨some 44, .pick (.t 38) (.t 43) (.k (.d (.bool false))), none⟩,
 ⟨some 45, .mov (.t 44), none⟩,
 ⟨some 46, .faddr 6 (.t 2), some (45, true)⟩,
 ⟨some 47, .load none (.t 46), some (45, true)⟩,
 ⟨some 48, .faddr 6 (.t 3), some (45, true)⟩,
 ⟨some 49, .load none (.t 48), some (45, true)⟩,
 ⟨some 50, .bin .eql (.t 47) (.t 49), some (45, true)⟩,
 ⟨some 51, .pick (.t 45) (.t 50) (.k (.d (.bool false))), none⟩,
 ⟨some 52, .mov (.t 51), none⟩,
 ⟨some 53, .faddr 7 (.t 2), some (52, true)⟩,
 ⟨some 54, .load none (.t 53), some (52, true)⟩,
 ⟨some 55, .faddr 7 (.t 3), some (52, true)⟩,
 ⟨some 56, .load none (.t 55), some (52, true)⟩,
 ⟨some 57, .call (.k (.d (.func (.func 147) [] []))) [(.t 54), (.t 56)], some (52, true)⟩,
 ⟨some 58, .pick (.t 52) (.t 57) (.k (.d (.bool false))), none⟩,
 ⟨some 59, .mov (.t 58), none⟩,
 ⟨some 60, .faddr 8 (.t 2), some (59, true)⟩,
 ⟨some 61, .load none (.t 60), some (59, true)⟩,
 ⟨some 62, .faddr 8 (.t 3), some (59, true)⟩,
 ⟨some 63, .load none (.t 62), some (59, true)⟩,
 ⟨some 64, .call (.k (.d (.func (.func 148) [] []))) [(.t 61), (.t 63)], some (59, true)⟩,
 ⟨some 65, .pick (.t 59) (.t 64) (.k (.d (.bool false))), none⟩,
 ⟨some 4, .mov (.t 65), none⟩]
def s93 : SCode := (.seq (.region x6m 2 []) (.seq (.region x6n 0 []) .ret))
theorem e93 : qf s93.eq_1 := qg s93.eq_1
theorem zik : qa x6m.eq_1 := qc
theorem zil : qa x6n.eq_1 := qc
attribute [go_sem] zik zil e93
theorem F93 : FnIs Tryz.prog 93 Tryz.f93 [] news s93 [.tmp 4] 66 := xo follows Tryz.func93
def x6o : List SOper := [
 ⟨some 4, .mov (.k (.d (.bool false))), none⟩]
def x6p : List SOper := [
 ⟨some 6, .mov (.t 0), none⟩,
 ⟨some 7, .len (.t 6), none⟩,
 ⟨some 8, .mov (.t 1), none⟩,
 ⟨some 9, .len (.t 8), none⟩,
 ⟨some 10, .bin .neq (.t 7) (.t 9), none⟩]
def x6q : List SOper := [
 ⟨some 4, .mov (.k (.d (.bool false))), none⟩]
def x6r : List SOper := [
 ⟨some 5, .mov (.k (.d (.int .i64 0))), none⟩]
def x6s : List SOper := [
 ⟨some 11, .mov (.t 5), none⟩,
 ⟨some 12, .mov (.t 0), none⟩,
 ⟨some 13, .len (.t 12), none⟩,
 ⟨some 14, .bin .lss (.t 11) (.t 13), none⟩]
def x6t : List SOper := [
 ⟨some 17, .mov (.t 0), none⟩,
 ⟨some 18, .mov (.t 5), none⟩,
 ⟨some 19, .iaddr 9 (.t 17) (.t 18), none⟩,
 ⟨some 20, .load (some 9) (.t 19), none⟩,
 ⟨some 21, .mov (.t 1), none⟩,
 ⟨some 22, .mov (.t 5), none⟩,
 ⟨some 23, .iaddr 9 (.t 21) (.t 22), none⟩,
 ⟨some 24, .load (some 9) (.t 23), none⟩,
 ⟨some 25, .call (.k (.d (.func (.func 93) [] []))) [(.t 20), (.t 24)], none⟩,
 ⟨some 26, .not (.t 25), none⟩]
def x6u : List SOper := [
 ⟨some 4, .mov (.k (.d (.bool false))), none⟩]
def x6v : List SOper := [
 ⟨some 15, .mov (.t 5), none⟩,
 ⟨some 16, .bin .add (.t 15) (.k (.d (.int .i64 1))), none⟩,
 ⟨some 5, .mov (.t 16), none⟩]
def xjz : SCode := (.seq (.seq (.region x6s 0 []) (.cond (.t 14) .skip (.exit 0))) (.seq (.block 1 (.seq (.region x6t 0 []) (.cond (.t 26) (.seq (.region x6u 0 []) .ret) .skip))) (.region x6v 0 [])))
theorem zim : qf xjz.eq_1 := qg xjz.eq_1
def x6w : List SOper := [
 ⟨some 4, .mov (.k (.d (.bool true))), none⟩]
def s49 : SCode := (.seq (.region x6o 0 []) (.seq (.seq (.region x6p 0 []) (.cond (.t 10) (.seq (.region x6q 0 []) .ret) .skip)) (.seq (.seq (.region x6r 0 []) (.block 0 (.loop xjz))) (.seq (.region x6w 0 []) .ret))))
theorem e49 : qf s49.eq_1 := qg s49.eq_1
theorem zin : qa x6o.eq_1 := qc
theorem zio : qa x6p.eq_1 := qc
theorem ziq : qa x6q.eq_1 := qc
theorem zir : qa x6r.eq_1 := qc
theorem zis : qa x6s.eq_1 := qc
theorem zit : qa x6t.eq_1 := qc
theorem ziu : qa x6u.eq_1 := qc
theorem ziv : qa x6v.eq_1 := qc
theorem ziw : qa x6w.eq_1 := qc
attribute [go_sem] zin zio ziq zir zis zit ziu ziv zim ziw e49
theorem F49 : FnIs Tryz.prog 49 Tryz.f49 [] news s49 [.tmp 4] 27 := xo follows Tryz.func49
def x6x : List SOper := [
 ⟨some 1, .box 1 (.t 0), none⟩,
 ⟨some 2, .mov (.k (.d (.bool false))), none⟩]
def x6y : List SOper := [
 ⟨some 3, .mov (.k (.d (.int .i64 0))), none⟩]
def x6z : List SOper := [
 ⟨some 4, .mov (.t 3), none⟩,
 ⟨some 5, .faddr 7 (.t 1), none⟩,
 ⟨some 6, .load none (.t 5), none⟩,
 ⟨some 7, .len (.t 6), none⟩,
 ⟨some 8, .bin .lss (.t 4) (.t 7), none⟩]
def x60 : List SOper := [
 ⟨some 11, .faddr 7 (.t 1), none⟩,
 ⟨some 12, .load none (.t 11), none⟩,
 ⟨some 13, .mov (.t 3), none⟩,
 ⟨some 14, .iaddr 3 (.t 12) (.t 13), none⟩,
 ⟨some 15, .faddr 2 (.t 14), none⟩,
 ⟨some 16, .load none (.t 15), none⟩,
 ⟨some 17, .lenS (.t 16), none⟩,
 ⟨some 18, .bin .gtr (.t 17) (.k (.d (.int .i64 100))), none⟩]
def x61 : List SOper := [
 ⟨some 2, .mov (.k (.d (.bool false))), none⟩]
def x62 : List SOper := [
 ⟨some 9, .mov (.t 3), none⟩,
 ⟨some 10, .bin .add (.t 9) (.k (.d (.int .i64 1))), none⟩,
 ⟨some 3, .mov (.t 10), none⟩]
def xj0 : SCode := (.seq (.seq (.region x6z 0 []) (.cond (.t 8) .skip (.exit 0))) (.seq (.block 1 (.seq (.region x60 0 []) (.cond (.t 18) (.seq (.region x61 0 []) .ret) .skip))) (.region x62 0 [])))
theorem zix : qf xj0.eq_1 := qg xj0.eq_1
def x63 : List SOper := [
 ⟨some 19, .faddr 7 (.t 1), none⟩,
 ⟨some 20, .load none (.t 19), none⟩,
 ⟨some 21, .len (.t 20), none⟩,
 ⟨some 22, .bin .leq (.t 21) (.k (.d (.int .i64 10))), none⟩,
 ⟨some 23, .mov (.t 22), none⟩,
 ⟨some 24, .faddr 8 (.t 1), some (23, true)⟩,
 ⟨some 25, .load none (.t 24), some (23, true)⟩,
 ⟨some 26, .len (.t 25), some (23, true)⟩,
 ⟨some 27, .bin .leq (.t 26) (.k (.d (.int .i64 10))), some (23, true)⟩,
 ⟨some 28, .pick (.t 23) (.t 27) (.k (.d (.bool false))), none⟩,
 ⟨some 2, .mov (.t 28), none⟩]
def s39 : SCode := (.seq (.region x6x 1 []) (.seq (.seq (.region x6y 0 []) (.block 0 (.loop xj0))) (.seq (.region x63 0 []) .ret)))
theorem e39 : qf s39.eq_1 := qg s39.eq_1
theorem ziy : qa x6x.eq_1 := qc
theorem ziz : qa x6y.eq_1 := qc
theorem zi0 : qa x6z.eq_1 := qc
theorem zi1 : qa x60.eq_1 := qc
theorem zi2 : qa x61.eq_1 := qc
theorem zi3 : qa x62.eq_1 := qc
theorem zi4 : qa x63.eq_1 := qc
attribute [go_sem] ziy ziz zi0 zi1 zi2 zi3 zix zi4 e39
theorem F39 : FnIs Tryz.prog 39 Tryz.f39 [] news s39 [.tmp 2] 29 := xo follows Tryz.func39
def s8r0 : List SOper := [
 ⟨some 1, .box 1 (.t 0), none⟩,
 ⟨some 2, .mov (.k (.d (.bool false))), none⟩]
def s8r1 : List SOper := [
 ⟨some 3, .mov (.k (.d (.int .i64 0))), none⟩]
def s8r2 : List SOper := [
 ⟨some 4, .mov (.t 3), none⟩,
 ⟨some 5, .faddr 2 (.t 1), none⟩,
 ⟨some 6, .load none (.t 5), none⟩,
 ⟨some 7, .len (.t 6), none⟩,
 ⟨some 8, .bin .lss (.t 4) (.t 7), none⟩]
def s8r3 : List SOper := [
 ⟨some 11, .faddr 2 (.t 1), none⟩,
 ⟨some 12, .load none (.t 11), none⟩,
 ⟨some 13, .mov (.t 3), none⟩,
 ⟨some 14, .iaddr 9 (.t 12) (.t 13), none⟩,
 ⟨some 15, .load (some 9) (.t 14), none⟩,
 ⟨some 16, .call (.k (.d (.func (.func 39) [] []))) [(.t 15)], none⟩,
 ⟨some 17, .not (.t 16), none⟩]
def s8r4 : List SOper := [
 ⟨some 2, .mov (.k (.d (.bool false))), none⟩]
def s8r5 : List SOper := [
 ⟨some 9, .mov (.t 3), none⟩,
 ⟨some 10, .bin .add (.t 9) (.k (.d (.int .i64 1))), none⟩,
 ⟨some 3, .mov (.t 10), none⟩]
def s8l6 : SCode := (.seq (.seq (.region s8r2 0 []) (.cond (.t 8) .skip (.exit 0))) (.seq (.block 1 (.seq (.region s8r3 0 []) (.cond (.t 17) (.seq (.region s8r4 0 []) .ret) .skip))) (.region s8r5 0 [])))
theorem zm7 : qf s8l6.eq_1 := qg s8l6.eq_1
def s8r7 : List SOper := [
 ⟨some 18, .faddr 2 (.t 1), none⟩,
 ⟨some 19, .load none (.t 18), none⟩,
 ⟨some 20, .len (.t 19), none⟩,
 ⟨some 21, .bin .leq (.t 20) (.k (.d (.int .i64 8))), none⟩,
 ⟨some 2, .mov (.t 21), none⟩]
def s8 : SCode := (.seq (.region s8r0 1 []) (.seq (.seq (.region s8r1 0 []) (.block 0 (.loop s8l6))) (.seq (.region s8r7 0 []) .ret)))
theorem e8 : qf s8.eq_1 := qg s8.eq_1
theorem zm8 : qa s8r0.eq_1 := qc
theorem zm9 : qa s8r1.eq_1 := qc
theorem zna : qa s8r2.eq_1 := qc
theorem znb : qa s8r3.eq_1 := qc
theorem znc : qa s8r4.eq_1 := qc
theorem znd : qa s8r5.eq_1 := qc
theorem zne : qa s8r7.eq_1 := qc
attribute [go_sem] zm8 zm9 zna znb znc znd zm7 zne e8
theorem F8 : FnIs Tryz.prog 8 Tryz.f8 [] news s8 [.tmp 2] 22 := xo follows Tryz.func8
end
def qho {α : Type} (es : Nat) (enc : α → List D) (l m : List α) (i : { i : Nat // l.take i = m.take i }) : St :=
 ⟨[(0, true, .d (.sl es (l.map enc))), (1, true, .d (.sl es (m.map enc))), (5, true, .d (.int .i64 (i.val : Nat)))], [], [], 1⟩
theorem qc3 {α : Type} [DecidableEq α] {l m : List α} {i : Nat} (h : l.take i = m.take i) (hi : l.length ≤ i) (hlm : l.length = m.length) : decide (l = m) = true := by
 rw [List.take_of_length_le hi, List.take_of_length_le (by omega)] at h
 simp [h]
theorem qt5 (l m : List AV) (hl : l.length ≤ 1000) : ql Tryz.prog 147 [.d (.sl 3 (l.map xg)), .d (.sl 3 (m.map xg))] [] (.d (.bool (decide (l = m)))) [] := by
 first | refine x8c.go ?_ | refine x8c.goT ?_
 (refine ev ?_; try exact True.intro)
 refine qo _ rfl rfl (fun h => ?_) (fun h => ?_)
 ·have hne : decide (l = m) = false := by rw [decide_eq_false_iff_not]; rintro rfl; simp at h
  try (refine ev1 @hne ?_; try exact True.intro)
 have hlm : l.length = m.length := by simp at h; omega
 try (refine ev ?_; try exact True.intro)
 refine qv (qho 3 xg l m) (fun i => l.length - i.val) ⟨0, rfl⟩ ?_ (fun i => ?_)
 ·try (refine ev1 @qho.eq_1 ?_; try exact True.intro)
 obtain ⟨i, hi⟩ := i
 try (refine ev1 @qho.eq_1 ?_; try exact True.intro)
 refine qo _ rfl rfl (fun h => ?_) (fun h => ?_)
 ·have hil : i < l.length := by simpa using h
  have him : i < m.length := by omega
  (refine ev4 (qz xg l hil) (qz xg m him) @xg.eq_1 @q7y ?_; try exact True.intro)
  (repeat (with_reducible refine ob ?_))
  skip
  refine qo _ rfl rfl (fun h2 => ?_) (fun h2 => ?_)
  ·have hne : l[i] ≠ m[i] := by simpa using h2
   try (refine ev1 (qyt hil him hne) ?_; try exact True.intro)
  ·have he : l[i] = m[i] := by simpa using h2
   try (refine ev ?_; try exact True.intro)
   refine ⟨⟨i + 1, yg hi hil him he⟩, ?_, by dsimp only; omega⟩
   (refine ev2 @qho.eq_1 (qr (show i < 9223372036854775807 by omega)) ?_; try exact True.intro)
 ·try (refine ev1 (qc3 hi (by simpa using h) hlm) ?_; try exact True.intro)
theorem qt6 (l m : List Int) (hl : l.length ≤ 1000) : ql Tryz.prog 148 [.d (.sl 1 (l.map encI)), .d (.sl 1 (m.map encI))] [] (.d (.bool (decide (l = m)))) [] := by
 first | refine x8d.go ?_ | refine x8d.goT ?_
 (refine ev ?_; try exact True.intro)
 refine qo _ rfl rfl (fun h => ?_) (fun h => ?_)
 ·have hne : decide (l = m) = false := by rw [decide_eq_false_iff_not]; rintro rfl; simp at h
  try (refine ev1 @hne ?_; try exact True.intro)
 have hlm : l.length = m.length := by simp at h; omega
 try (refine ev ?_; try exact True.intro)
 refine qv (qho 1 encI l m) (fun i => l.length - i.val) ⟨0, rfl⟩ ?_ (fun i => ?_)
 ·try (refine ev1 @qho.eq_1 ?_; try exact True.intro)
 obtain ⟨i, hi⟩ := i
 try (refine ev1 @qho.eq_1 ?_; try exact True.intro)
 refine qo _ rfl rfl (fun h => ?_) (fun h => ?_)
 ·have hil : i < l.length := by simpa using h
  have him : i < m.length := by omega
  (refine ev4 (qz encI l hil) (qz encI m him) @encI.eq_1 @encI.eq_1 ?_; try exact True.intro)
  (repeat (with_reducible refine ob ?_))
  skip
  refine qo _ rfl rfl (fun h2 => ?_) (fun h2 => ?_)
  ·have hne : l[i] ≠ m[i] := by simpa using h2
   try (refine ev1 (qyt hil him hne) ?_; try exact True.intro)
  ·have he : l[i] = m[i] := by simpa using h2
   try (refine ev ?_; try exact True.intro)
   refine ⟨⟨i + 1, yg hi hil him he⟩, ?_, by dsimp only; omega⟩
   (refine ev2 @qho.eq_1 (qr (show i < 9223372036854775807 by omega)) ?_; try exact True.intro)
 ·try (refine ev1 (qc3 hi (by simpa using h) hlm) ?_; try exact True.intro)
set_option maxRecDepth 10000 in
theorem qhe (p q : Pk) (hp : p.Sm) :
  ql Tryz.prog 93 [.d (.agg (qi p)), .d (.agg (qi q))] [] (.d (.bool (decide (p = q)))) [] := by
 first | refine F93.go ?_ | refine F93.goT ?_
 (refine ev1 @qi.eq_1 ?_; try exact True.intro)
 (repeat (with_reducible refine ob ?_)); first | refine cl x8c (qt5 p.values q.values hp.1) ?_ | refine clF x8c (qt5 p.values q.values hp.1) (fun _ => by (refine ev3 @qi.eq_1 @xg.eq_1 @encI.eq_1 ?_; try exact True.intro)) ?_
 try (refine ev ?_; try exact True.intro)
 (repeat (with_reducible refine ob ?_)); first | refine cl x8d (qt6 p.clock q.clock hp.2) ?_ | refine clF x8d (qt6 p.clock q.clock hp.2) (fun _ => by (refine ev3 @qi.eq_1 @xg.eq_1 @encI.eq_1 ?_; try exact True.intro)) ?_
 try (refine ev1 @q79 ?_; try exact True.intro)
theorem qt7 (l m : List Pk) (hl : l.length ≤ 1000) (hp : ∀ p ∈ l, p.Sm) : ql Tryz.prog 49 [.d (.sl 9 (l.map qi)), .d (.sl 9 (m.map qi))] [] (.d (.bool (decide (l = m)))) [] := by
 first | refine F49.go ?_ | refine F49.goT ?_
 (refine ev ?_; try exact True.intro)
 refine qo _ rfl rfl (fun h => ?_) (fun h => ?_)
 ·have hne : decide (l = m) = false := by rw [decide_eq_false_iff_not]; rintro rfl; simp at h
  try (refine ev1 @hne ?_; try exact True.intro)
 have hlm : l.length = m.length := by simp at h; omega
 try (refine ev ?_; try exact True.intro)
 refine qv (qho 9 qi l m) (fun i => l.length - i.val) ⟨0, rfl⟩ ?_ (fun i => ?_)
 ·try (refine ev1 @qho.eq_1 ?_; try exact True.intro)
 obtain ⟨i, hi⟩ := i
 try (refine ev1 @qho.eq_1 ?_; try exact True.intro)
 refine qo _ rfl rfl (fun h => ?_) (fun h => ?_)
 ·have hil : i < l.length := by simpa using h
  have him : i < m.length := by omega
  (refine ev4 (qz qi l hil) (qz qi m him) @qi.eq_1 @qi.eq_1 ?_; try exact True.intro)
  (repeat (with_reducible refine ob ?_))
  ((repeat (with_reducible refine ob ?_)); first | refine cl F93 (qhe l[i] m[i] (hp _ (List.getElem_mem hil))) ?_ | refine clF F93 (qhe l[i] m[i] (hp _ (List.getElem_mem hil))) (fun _ => by (refine ev3 @qi.eq_1 @xg.eq_1 @encI.eq_1 ?_; try exact True.intro)) ?_); try (refine ev ?_; try exact True.intro)
  refine qo _ rfl rfl (fun h2 => ?_) (fun h2 => ?_)
  ·have hne : l[i] ≠ m[i] := by simpa using h2
   try (refine ev1 (qyt hil him hne) ?_; try exact True.intro)
  ·have he : l[i] = m[i] := by simpa using h2
   try (refine ev ?_; try exact True.intro)
   refine ⟨⟨i + 1, yg hi hil him he⟩, ?_, by dsimp only; omega⟩
   (refine ev2 @qho.eq_1 (qr (show i < 9223372036854775807 by omega)) ?_; try exact True.intro)
 ·try (refine ev1 (qc3 hi (by simpa using h) hlm) ?_; try exact True.intro)
def qc4 (v : AV) : Bool := !decide ((v.s.length : Int) > 100)
def qhp (p : Pk) : Bool := p.values.all qc4 && (decide ((p.values.length : Int) ≤ 10) && decide ((p.clock.length : Int) ≤ 10))
def qt8 (p : Pk) (i : { i : Nat // (p.values.take i).all qc4 = true }) : St := ⟨[(1, true, .d (.ptr 0 0)), (3, true, .d (.int .i64 (i.val : Nat)))], [qhn p], [], 1⟩
theorem qt9 (p : Pk) (hp : p.values.length ≤ maxLen) : ql Tryz.prog 39 [.d (.agg (qi p))] [] (.d (.bool (qhp p))) [] := by
 unfold maxLen at hp
 first | refine F39.go ?_ | refine F39.goT ?_
 (refine ev1 @qi.eq_1 ?_; try exact True.intro)
 refine qv (qt8 p) (fun i => p.values.length - i.val) ⟨0, rfl⟩ ?_ (fun i => ?_)
 ·try (refine ev2 @qt8.eq_1 @qhn.eq_1 ?_; try exact True.intro)
 obtain ⟨i, hi⟩ := i
 try (refine ev2 @qt8.eq_1 @qhn.eq_1 ?_; try exact True.intro)
 refine qo _ rfl rfl (fun h => ?_) (fun h => ?_)
 ·have hil : i < p.values.length := by simpa using h
  (refine ev2 (qz xg p.values hil) @xg.eq_1 ?_; try exact True.intro)
  (repeat (with_reducible refine ob ?_))
  refine qo _ rfl rfl (fun h2 => ?_) (fun h2 => ?_)
  ·have hg : qc4 p.values[i] = false := by simp only [qc4, h2]; rfl
   (refine ev2 @qhp.eq_1 (qln hil hg) ?_; try exact True.intro)
  ·have hg : qc4 p.values[i] = true := by simp only [qc4, h2]; rfl
   try (refine ev ?_; try exact True.intro)
   refine ⟨⟨i + 1, vj hi hil hg⟩, ?_, by dsimp only; omega⟩
   (refine ev3 @qt8.eq_1 @qhn.eq_1 (qr (show i < 9223372036854775807 by omega)) ?_; try exact True.intro)
 ·have hall : p.values.all qc4 = true := qh2 hi (by simpa using h)
  (refine ev2 @qhp.eq_1 @hall ?_; try exact True.intro)
def qObj (q : Qu) : AObj := .row [.d (.int .i64 q.acc), .d (.int .i64 q.cons), .d (.sl 9 (q.items.map qi))]
def fewQ (q : Qu) : Bool := q.items.all qhp && decide ((q.items.length : Int) ≤ 8)
def q48 (q : Qu) (i : { i : Nat // (q.items.take i).all qhp = true }) : St := ⟨[(1, true, .d (.ptr 0 0)), (3, true, .d (.int .i64 (i.val : Nat)))], [qObj q], [], 1⟩
theorem qnm (q : Qu) (hq : q.items.length ≤ maxLen) (hv : ∀ p ∈ q.items, p.values.length ≤ maxLen) : ql Tryz.prog 8 [.d (.agg (encQ q))] [] (.d (.bool (fewQ q))) [] := by
 unfold maxLen at hq
 first | refine F8.go ?_ | refine F8.goT ?_
 (refine ev1 @encQ.eq_1 ?_; try exact True.intro)
 refine qv (q48 q) (fun i => q.items.length - i.val) ⟨0, rfl⟩ ?_ (fun i => ?_)
 ·try (refine ev2 @q48.eq_1 @qObj.eq_1 ?_; try exact True.intro)
 obtain ⟨i, hi⟩ := i
 try (refine ev2 @q48.eq_1 @qObj.eq_1 ?_; try exact True.intro)
 refine qo _ rfl rfl (fun h => ?_) (fun h => ?_)
 ·have hil : i < q.items.length := by simpa using h
  (refine ev2 (qz qi q.items hil) @qi.eq_1 ?_; try exact True.intro)
  (repeat (with_reducible refine ob ?_))
  (repeat (with_reducible refine ob ?_)); first | refine cl F39 (qt9 q.items[i] (hv _ (List.getElem_mem hil))) ?_ | refine clF F39 (qt9 q.items[i] (hv _ (List.getElem_mem hil))) (fun _ => by (refine ev3 @qi.eq_1 @xg.eq_1 @encI.eq_1 ?_; try exact True.intro)) ?_
  try (refine ev ?_; try exact True.intro)
  refine qo _ rfl rfl (fun h2 => ?_) (fun h2 => ?_)
  ·have hg : qhp q.items[i] = false := by simpa using h2
   (refine ev2 @fewQ.eq_1 (qln hil hg) ?_; try exact True.intro)
  ·have hg : qhp q.items[i] = true := by simpa using h2
   try (refine ev ?_; try exact True.intro)
   refine ⟨⟨i + 1, vj hi hil hg⟩, ?_, by dsimp only; omega⟩
   (refine ev3 @q48.eq_1 @qObj.eq_1 (qr (show i < 9223372036854775807 by omega)) ?_; try exact True.intro)
 ·have hall : q.items.all qhp = true := qh2 hi (by simpa using h)
  (refine ev2 @fewQ.eq_1 @hall ?_; try exact True.intro)
theorem q49 {p : Pk} (h : qhp p = true) : p.Sm := by
 simp only [qhp, Bool.and_eq_true, decide_eq_true_eq] at h
 exact ⟨by omega, by omega⟩
theorem q1i {q : Qu} (h : fewQ q = true) : q.Sm ∧ q.items.length ≤ 8 := by
 simp only [fewQ, Bool.and_eq_true, decide_eq_true_eq, List.all_eq_true] at h
 exact ⟨⟨by omega, fun p hp => q49 (h.1 p hp)⟩, by omega⟩
end Go.Proofs.YtinnaedmdoengaaGreat
namespace Go.Proofs.YtinnaedmdoengaaGreat
open Go.Abs
set_option linter.unusedSimpArgs false
noncomputable section
set_option maxRecDepth 100000
def x64 : List SOper := [
 ⟨some 2, .box 2 (.t 0), none⟩,
 ⟨some 3, .box 1 (.t 1), none⟩,
 ⟨some 4, .mov (.k (.d (.bool false))), none⟩]
def x65 : List SOper := [
 ⟨some 5, .faddr 1 (.t 2), none⟩,
 ⟨some 6, .load none (.t 5), none⟩,
 ⟨some 7, .faddr 1 (.t 3), none⟩,
 ⟨some 8, .load none (.t 7), none⟩,
 ⟨some 9, .bin .eql (.t 6) (.t 8), none⟩,
 ⟨some 10, .mov (.t 9), none⟩,
 ⟨some 11, .faddr 3 (.t 2), some (10, true)⟩,
 ⟨some 12, .load none (.t 11), some (10, true)⟩,
 ⟨some 13, .faddr 3 (.t 3), some (10, true)⟩,
 ⟨some 14, .load none (.t 13), some (10, true)⟩,
 ⟨some 15, .bin .eql (.t 12) (.t 14), some (10, true)⟩,
 ⟨some 16, .pick (.t 10) (.t 15) (.k (.d (.bool false))), none⟩,
 ⟨some 17, .mov (.t 16), none⟩,
 ⟨some 18, .faddr 4 (.t 2), some (17, true)⟩,
 ⟨some 19, .load none (.t 18), some (17, true)⟩,
 ⟨some 20, .faddr 4 (.t 3), some (17, true)⟩,
 ⟨some 21, .load none (.t 20), some (17, true)⟩,
 ⟨some 22, .bin .eql (.t 19) (.t 21), some (17, true)⟩,
 ⟨some 23, .pick (.t 17) (.t 22) (.k (.d (.bool false))), none⟩,
 ⟨some 4, .mov (.t 23), none⟩]
def s41 : SCode := (.seq (.region x64 2 []) (.seq (.region x65 0 []) .ret))
theorem e41 : qf s41.eq_1 := qg s41.eq_1
theorem zi5 : qa x64.eq_1 := qc
theorem zi6 : qa x65.eq_1 := qc
attribute [go_sem] zi5 zi6 e41
theorem F41 : FnIs Tryz.prog 41 Tryz.f41 [] news s41 [.tmp 4] 24 := xo follows Tryz.func41
def s9r0 : List SOper := [
 ⟨some 1, .box 1 (.t 0), none⟩,
 ⟨some 2, .mov (.k (.d (.bool false))), none⟩]
def s9r1 : List SOper := [
 ⟨some 5, .faddr 1 (.t 1), none⟩,
 ⟨some 6, .load none (.t 5), none⟩,
 ⟨some 7, .bin .lss (.t 6) (.k (.d (.int .i64 0))), none⟩,
 ⟨some 8, .mov (.t 7), none⟩,
 ⟨some 9, .faddr 0 (.t 1), some (8, false)⟩,
 ⟨some 10, .load none (.t 9), some (8, false)⟩,
 ⟨some 11, .faddr 1 (.t 1), some (8, false)⟩,
 ⟨some 12, .load none (.t 11), some (8, false)⟩,
 ⟨some 13, .bin .lss (.t 10) (.t 12), some (8, false)⟩,
 ⟨some 14, .pick (.t 8) (.k (.d (.bool true))) (.t 13), none⟩,
 ⟨some 15, .mov (.t 14), none⟩,
 ⟨some 16, .faddr 0 (.t 1), some (15, false)⟩,
 ⟨some 17, .load none (.t 16), some (15, false)⟩,
 ⟨some 18, .bin .gtr (.t 17) (.k (.d (.int .i64 1099511627776))), some (15, false)⟩,
 ⟨some 19, .pick (.t 15) (.k (.d (.bool true))) (.t 18), none⟩,
 ⟨some 20, .mov (.t 19), none⟩,
 ⟨some 21, .faddr 2 (.t 1), some (20, false)⟩,
 ⟨some 22, .load none (.t 21), some (20, false)⟩,
 ⟨some 23, .len (.t 22), some (20, false)⟩,
 ⟨some 24, .bin .gtr (.t 23) (.k (.d (.int .i64 4))), some (20, false)⟩,
 ⟨some 25, .pick (.t 20) (.k (.d (.bool true))) (.t 24), none⟩,
 ⟨some 26, .mov (.t 25), none⟩,
 ⟨some 27, .faddr 2 (.t 1), some (26, false)⟩,
 ⟨some 28, .load none (.t 27), some (26, false)⟩,
 ⟨some 29, .len (.t 28), some (26, false)⟩,
 ⟨some 30, .faddr 0 (.t 1), some (26, false)⟩,
 ⟨some 31, .load none (.t 30), some (26, false)⟩,
 ⟨some 32, .faddr 1 (.t 1), some (26, false)⟩,
 ⟨some 33, .load none (.t 32), some (26, false)⟩,
 ⟨some 34, .bin .sub (.t 31) (.t 33), some (26, false)⟩,
 ⟨some 35, .bin .neq (.t 29) (.t 34), some (26, false)⟩,
 ⟨some 36, .pick (.t 26) (.k (.d (.bool true))) (.t 35), none⟩]
def s9r2 : List SOper := [
 ⟨some 2, .mov (.k (.d (.bool false))), none⟩]
def s9r3 : List SOper := [
 ⟨some 3, .mov (.k (.d (.int .i64 0))), none⟩]
def s9r4 : List SOper := [
 ⟨some 37, .mov (.t 3), none⟩,
 ⟨some 38, .faddr 2 (.t 1), none⟩,
 ⟨some 39, .load none (.t 38), none⟩,
 ⟨some 40, .len (.t 39), none⟩,
 ⟨some 41, .bin .lss (.t 37) (.t 40), none⟩]
def s9r5 : List SOper := [
 ⟨some 44, .faddr 2 (.t 1), none⟩,
 ⟨some 45, .load none (.t 44), none⟩,
 ⟨some 46, .mov (.t 3), none⟩,
 ⟨some 47, .iaddr 9 (.t 45) (.t 46), none⟩,
 ⟨some 48, .load (some 9) (.t 47), none⟩,
 ⟨some 4, .alloc 1 [(.d (.int .i64 0)), (.d (.int .i64 0)), (.d (.int .i64 0)), (.d (.int .i64 0)), (.d (.int .i64 0)), (.d (.int .i64 0)), (.d (.int .i64 0)), (.d .nilsl), (.d .nilsl)], none⟩,
 ⟨none, .store (some 9) (.t 4) (.t 48), none⟩]
def s9r6 : List SOper := [
 ⟨some 49, .load (some 9) (.t 4), none⟩,
 ⟨some 50, .call (.k (.d (.func (.func 40) [] []))) [(.t 49)], none⟩,
 ⟨some 51, .not (.t 50), none⟩,
 ⟨some 52, .mov (.t 51), none⟩,
 ⟨some 53, .faddr 0 (.t 4), some (52, false)⟩,
 ⟨some 54, .load none (.t 53), some (52, false)⟩,
 ⟨some 55, .bin .neq (.t 54) (.k (.d (.int .i64 1))), some (52, false)⟩,
 ⟨some 56, .pick (.t 52) (.k (.d (.bool true))) (.t 55), none⟩,
 ⟨some 57, .mov (.t 56), none⟩,
 ⟨some 58, .faddr 5 (.t 4), some (57, false)⟩,
 ⟨some 59, .load none (.t 58), some (57, false)⟩,
 ⟨some 60, .faddr 1 (.t 1), some (57, false)⟩,
 ⟨some 61, .load none (.t 60), some (57, false)⟩,
 ⟨some 62, .bin .add (.t 61) (.k (.d (.int .i64 1))), some (57, false)⟩,
 ⟨some 63, .mov (.t 3), some (57, false)⟩,
 ⟨some 64, .bin .add (.t 62) (.t 63), some (57, false)⟩,
 ⟨some 65, .bin .neq (.t 59) (.t 64), some (57, false)⟩,
 ⟨some 66, .pick (.t 57) (.k (.d (.bool true))) (.t 65), none⟩,
 ⟨some 67, .mov (.t 66), none⟩,
 ⟨some 68, .load (some 9) (.t 4), some (67, false)⟩,
 ⟨some 69, .faddr 2 (.t 1), some (67, false)⟩,
 ⟨some 70, .load none (.t 69), some (67, false)⟩,
 ⟨some 71, .iaddr 9 (.t 70) (.k (.d (.int .i64 0))), some (67, false)⟩,
 ⟨some 72, .load (some 9) (.t 71), some (67, false)⟩,
 ⟨some 73, .call (.k (.d (.func (.func 41) [] []))) [(.t 68), (.t 72)], some (67, false)⟩,
 ⟨some 74, .not (.t 73), some (67, false)⟩,
 ⟨some 75, .pick (.t 67) (.k (.d (.bool true))) (.t 74), none⟩]
def s9r7 : List SOper := [
 ⟨some 2, .mov (.k (.d (.bool false))), none⟩]
def s9r8 : List SOper := [
 ⟨some 42, .mov (.t 3), none⟩,
 ⟨some 43, .bin .add (.t 42) (.k (.d (.int .i64 1))), none⟩,
 ⟨some 3, .mov (.t 43), none⟩]
def s9l9 : SCode := (.seq (.seq (.region s9r4 0 []) (.cond (.t 41) .skip (.exit 0))) (.seq (.block 1 (.seq (.region s9r5 1 []) (.seq (.region s9r6 0 []) (.cond (.t 75) (.seq (.region s9r7 0 []) .ret) .skip)))) (.region s9r8 0 [])))
theorem znf : qf s9l9.eq_1 := qg s9l9.eq_1
def x66 : List SOper := [
 ⟨some 2, .mov (.k (.d (.bool true))), none⟩]
def s9 : SCode := (.seq (.region s9r0 1 []) (.seq (.seq (.region s9r1 0 []) (.cond (.t 36) (.seq (.region s9r2 0 []) .ret) .skip)) (.seq (.seq (.region s9r3 0 []) (.block 0 (.loop s9l9))) (.seq (.region x66 0 []) .ret))))
theorem e9 : qf s9.eq_1 := qg s9.eq_1
theorem zng : qa s9r0.eq_1 := qc
theorem znh : qa s9r1.eq_1 := qc
theorem zni : qa s9r2.eq_1 := qc
theorem znj : qa s9r3.eq_1 := qc
theorem znk : qa s9r4.eq_1 := qc
theorem znl : qa s9r5.eq_1 := qc
theorem znm : qa s9r6.eq_1 := qc
theorem znn : qa s9r7.eq_1 := qc
theorem zno : qa s9r8.eq_1 := qc
theorem zi7 : qa x66.eq_1 := qc
attribute [go_sem] zng znh zni znj znk znl znm znn zno znf zi7 e9
theorem F9 : FnIs Tryz.prog 9 Tryz.f9 [] news s9 [.tmp 2] 76 := xo follows Tryz.func9
def x67 : List SOper := [
 ⟨some 2, .box 2 (.t 0), none⟩,
 ⟨some 3, .box 1 (.t 1), none⟩,
 ⟨some 4, .mov (.k (.d (.bool false))), none⟩]
def x68 : List SOper := [
 ⟨some 5, .faddr 0 (.t 2), none⟩,
 ⟨some 6, .load none (.t 5), none⟩,
 ⟨some 7, .faddr 0 (.t 3), none⟩,
 ⟨some 8, .load none (.t 7), none⟩,
 ⟨some 9, .bin .eql (.t 6) (.t 8), none⟩,
 ⟨some 10, .mov (.t 9), none⟩,
 ⟨some 11, .faddr 1 (.t 2), some (10, true)⟩,
 ⟨some 12, .load none (.t 11), some (10, true)⟩,
 ⟨some 13, .faddr 1 (.t 3), some (10, true)⟩,
 ⟨some 14, .load none (.t 13), some (10, true)⟩,
 ⟨some 15, .bin .eql (.t 12) (.t 14), some (10, true)⟩,
 ⟨some 16, .pick (.t 10) (.t 15) (.k (.d (.bool false))), none⟩,
 ⟨some 17, .mov (.t 16), none⟩,
 ⟨some 18, .faddr 2 (.t 2), some (17, true)⟩,
 ⟨some 19, .load none (.t 18), some (17, true)⟩,
 ⟨some 20, .faddr 2 (.t 3), some (17, true)⟩,
 ⟨some 21, .load none (.t 20), some (17, true)⟩,
 ⟨some 22, .call (.k (.d (.func (.func 49) [] []))) [(.t 19), (.t 21)], some (17, true)⟩,
 ⟨some 23, .pick (.t 17) (.t 22) (.k (.d (.bool false))), none⟩,
 ⟨some 4, .mov (.t 23), none⟩]
def s13 : SCode := (.seq (.region x67 2 []) (.seq (.region x68 0 []) .ret))
theorem e13 : qf s13.eq_1 := qg s13.eq_1
theorem zi8 : qa x67.eq_1 := qc
theorem zi9 : qa x68.eq_1 := qc
attribute [go_sem] zi8 zi9 e13
theorem F13 : FnIs Tryz.prog 13 Tryz.f13 [] news s13 [.tmp 4] 24 := xo follows Tryz.func13
end
theorem x69 (a b : Qu) : (a.acc == b.acc && a.cons == b.cons && decide (a.items = b.items)) = decide (a = b) := by
 obtain ⟨a1, a2, a3⟩ := a
 obtain ⟨b1, b2, b3⟩ := b
 rw [Bool.eq_iff_iff]
 simp [and_assoc]
theorem ql1 (p q : Pk) : ql Tryz.prog 41 [.d (.agg (qi p)), .d (.agg (qi q))] [] (.d (.bool (qkn p q))) [] := by
 first | refine F41.go ?_ | refine F41.goT ?_
 (refine ev1 @qi.eq_1 ?_; try exact True.intro)
 rfl
def qfq (q : Qu) (i : Nat) : Bool :=
 !(!yq (q.items.getD i default) || (q.items.getD i default).kind != 1 || (q.items.getD i default).seq != IntKind.i64.wrap (IntKind.i64.wrap (q.cons + 1) + (i : Int)) || !qkn (q.items.getD i default) (q.items.getD 0 default))
def xj1 (q : Qu) : Bool := decide (q.cons < 0) || decide (q.acc < q.cons) || decide (q.acc > 1099511627776) || decide ((q.items.length : Int) > 4) || (q.items.length : Int) != IntKind.i64.wrap (q.acc - q.cons)
def qea (q : Qu) : Bool := !xj1 q && qcd (qfq q) q.items.length
def Sv51 (q : Qu) (i : { i : Nat // qcd (qfq q) i = true }) : St := ⟨[(1, true, .d (.ptr 0 0)), (3, true, .d (.int .i64 (i.val : Nat)))], [qObj q], [], 1⟩
set_option maxRecDepth 10000 in
theorem ql2 (q : Qu) (hq : q.Sm) : ql Tryz.prog 9 [.d (.agg (encQ q))] [] (.d (.bool (qea q))) [] := by
 have hl := hq.1
 first | refine F9.go ?_ | refine F9.goT ?_
 (refine ev1 @encQ.eq_1 ?_; try exact True.intro)
 (repeat (with_reducible refine ob ?_))
 have hb : (decide (q.cons < 0) || decide (q.acc < q.cons) || decide (q.acc > 1099511627776) || decide ((q.items.length : Int) > 4) || (q.items.length : Int) != IntKind.i64.wrap (q.acc - q.cons)) = xj1 q := rfl
 try (refine ev1 @hb ?_; try exact True.intro)
 refine qo _ rfl rfl (fun h0 => ?_) (fun h0 => ?_)
 ·try (refine ev2 @qea.eq_1 @h0 ?_; try exact True.intro)
 try (refine ev ?_; try exact True.intro)
 refine qv (Sv51 q) (fun i => q.items.length - i.val) ⟨0, rfl⟩ ?_ (fun i => ?_)
 ·try (refine ev2 @Sv51.eq_1 @qObj.eq_1 ?_; try exact True.intro)
 obtain ⟨i, hi⟩ := i
 try (refine ev2 @Sv51.eq_1 @qObj.eq_1 ?_; try exact True.intro)
 refine qo _ rfl rfl (fun h => ?_) (fun h => ?_)
 ·have hil : i < q.items.length := by simpa using h
  have h0l : 0 < q.items.length := by omega
  (refine ev3 (qz qi q.items hil) (qz qi q.items h0l) @qi.eq_1 ?_; try exact True.intro)
  (repeat (with_reducible refine ob ?_))
  (repeat (with_reducible refine ob ?_)); first | refine cl F40 (ql0 q.items[i] (hq.2 _ (List.getElem_mem hil))) ?_ | refine clF F40 (ql0 q.items[i] (hq.2 _ (List.getElem_mem hil))) (fun _ => by (refine ev2 @qi.eq_1 @encQ.eq_1 ?_; try exact True.intro)) ?_
  (refine ev2 (qz qi q.items h0l) @qi.eq_1 ?_; try exact True.intro)
  (repeat (with_reducible refine ob ?_))
  (repeat (with_reducible refine ob ?_)); first | refine cl F41 (ql1 q.items[i] q.items[0]) ?_ | refine clF F41 (ql1 q.items[i] q.items[0]) (fun _ => by (refine ev2 @qi.eq_1 @encQ.eq_1 ?_; try exact True.intro)) ?_
  try (refine ev ?_; try exact True.intro)
  (repeat (with_reducible refine ob ?_))
  have hx : (!yq q.items[i] || q.items[i].kind != 1 || q.items[i].seq != IntKind.i64.wrap (IntKind.i64.wrap (q.cons + 1) + (i : Int)) || !qkn q.items[i] q.items[0]) = !qfq q i := by
   simp only [qfq, qba hil, qba h0l, Bool.not_not]
  try (refine ev1 @hx ?_; try exact True.intro)
  refine qo _ rfl rfl (fun h2 => ?_) (fun h2 => ?_)
  ·have hg : qfq q i = false := by simpa using h2
   (refine ev2 @qea.eq_1 (qm5 hil hg) ?_; try exact True.intro)
  ·have hg : qfq q i = true := by simpa using h2
   try (refine ev ?_; try exact True.intro)
   refine ⟨⟨i + 1, qf9 hi hg⟩, ?_, by dsimp only; omega⟩
   (refine ev3 @Sv51.eq_1 @qObj.eq_1 (qr (show i < 9223372036854775807 by omega)) ?_; try exact True.intro)
 ·have hil : q.items.length ≤ i := by simpa using h
  have ha : qcd (qfq q) q.items.length = true := yh.2 fun j hj => yh.1 hi j (by omega)
  (refine ev3 @qea.eq_1 @h0 @ha ?_; try exact True.intro)
theorem ql3 (a b : Qu) (ha : a.Sm) : ql Tryz.prog 13 [.d (.agg (encQ a)), .d (.agg (encQ b))] [] (.d (.bool (decide (a = b)))) [] := by
 first | refine F13.go ?_ | refine F13.goT ?_
 (refine ev1 @encQ.eq_1 ?_; try exact True.intro)
 (repeat (with_reducible refine ob ?_)); first | refine cl F49 (qt7 a.items b.items ha.1 ha.2) ?_ | refine clF F49 (qt7 a.items b.items ha.1 ha.2) (fun _ => by (refine ev2 @qi.eq_1 @encQ.eq_1 ?_; try exact True.intro)) ?_
 try (refine ev ?_; try exact True.intro)
 exact x69 a b
end Go.Proofs.YtinnaedmdoengaaGreat
namespace Go.Proofs.YtinnaedmdoengaaGreat
open Go.Abs
set_option linter.unusedSimpArgs false
noncomputable section
set_option maxRecDepth 100000
def x7a : List SOper := [
 ⟨some 1, .box 2 (.t 0), none⟩,
 ⟨some 2, .alloc 1 [(.d (.int .i64 0)), (.d (.int .i64 0)), (.d .nilsl)], none⟩]
def x7b : List SOper := [
 ⟨some 5, .faddr 0 (.t 1), none⟩,
 ⟨some 6, .load none (.t 5), none⟩,
 ⟨some 7, .faddr 1 (.t 1), none⟩,
 ⟨some 8, .load none (.t 7), none⟩,
 ⟨some 9, .build [(.int .i64 0), (.int .i64 0), .nilsl] [(0, 1, (.t 6)), (1, 1, (.t 8))], none⟩,
 ⟨some 3, .alloc 1 [(.d (.int .i64 0)), (.d (.int .i64 0)), (.d .nilsl)], none⟩,
 ⟨none, .store (some 3) (.t 3) (.t 9), none⟩]
def x7c : List SOper := [
 ⟨some 4, .mov (.k (.d (.int .i64 0))), none⟩]
def x7d : List SOper := [
 ⟨some 10, .mov (.t 4), none⟩,
 ⟨some 11, .faddr 2 (.t 1), none⟩,
 ⟨some 12, .load none (.t 11), none⟩,
 ⟨some 13, .len (.t 12), none⟩,
 ⟨some 14, .bin .lss (.t 10) (.t 13), none⟩]
def x7e : List SOper := [
 ⟨some 17, .faddr 2 (.t 3), none⟩,
 ⟨some 18, .load none (.t 17), none⟩,
 ⟨some 19, .faddr 2 (.t 1), none⟩,
 ⟨some 20, .load none (.t 19), none⟩,
 ⟨some 21, .mov (.t 4), none⟩,
 ⟨some 22, .iaddr 9 (.t 20) (.t 21), none⟩,
 ⟨some 23, .load (some 9) (.t 22), none⟩,
 ⟨some 24, .buildSlice false 9 1 [(.int .i64 0), (.int .i64 0), (.int .i64 0), (.int .i64 0), (.int .i64 0), (.int .i64 0), (.int .i64 0), .nilsl, .nilsl] [(0, 9, (.t 23))], none⟩,
 ⟨some 25, .append false 9 104 (.t 18) (.t 24), none⟩,
 ⟨some 26, .faddr 2 (.t 3), none⟩,
 ⟨none, .store none (.t 26) (.t 25), none⟩]
def x7f : List SOper := [
 ⟨some 15, .mov (.t 4), none⟩,
 ⟨some 16, .bin .add (.t 15) (.k (.d (.int .i64 1))), none⟩,
 ⟨some 4, .mov (.t 16), none⟩]
def xj2 : SCode := (.seq (.seq (.region x7d 0 []) (.cond (.t 14) .skip (.exit 0))) (.seq (.block 1 (.region x7e 0 [])) (.region x7f 0 [])))
theorem zja : qf xj2.eq_1 := qg xj2.eq_1
def x7g : List SOper := [
 ⟨some 27, .load (some 3) (.t 3), none⟩,
 ⟨none, .store (some 3) (.t 2) (.t 27), none⟩]
def s12 : SCode := (.seq (.region x7a 2 []) (.seq (.region x7b 1 []) (.seq (.seq (.region x7c 0 []) (.block 0 (.loop xj2))) (.seq (.region x7g 0 []) .ret))))
theorem e12 : qf s12.eq_1 := qg s12.eq_1
theorem zjb : qa x7a.eq_1 := qc
theorem zjc : qa x7b.eq_1 := qc
theorem zjd : qa x7c.eq_1 := qc
theorem zje : qa x7d.eq_1 := qc
theorem zjf : qa x7e.eq_1 := qc
theorem zjg : qa x7f.eq_1 := qc
theorem zjh : qa x7g.eq_1 := qc
attribute [go_sem] zjb zjc zjd zje zjf zjg zja zjh e12
theorem F12 : FnIs Tryz.prog 12 Tryz.f12 [] news s12 [.cell 2 (some 3)] 28 := xo follows Tryz.func12
def x7h : List SOper := [
 ⟨some 1, .box 2 (.t 0), none⟩,
 ⟨some 2, .alloc 1 [(.d (.int .i64 0)), (.d (.int .i64 0)), (.d .nilsl)], none⟩]
def x7i : List SOper := [
 ⟨some 5, .faddr 0 (.t 1), none⟩,
 ⟨some 6, .load none (.t 5), none⟩,
 ⟨some 7, .faddr 1 (.t 1), none⟩,
 ⟨some 8, .load none (.t 7), none⟩,
 ⟨some 9, .build [(.int .i64 0), (.int .i64 0), .nilsl] [(0, 1, (.t 6)), (1, 1, (.t 8))], none⟩,
 ⟨some 3, .alloc 1 [(.d (.int .i64 0)), (.d (.int .i64 0)), (.d .nilsl)], none⟩,
 ⟨none, .store (some 3) (.t 3) (.t 9), none⟩]
def x7j : List SOper := [
 ⟨some 4, .mov (.k (.d (.int .i64 0))), none⟩]
def x7k : List SOper := [
 ⟨some 10, .mov (.t 4), none⟩,
 ⟨some 11, .faddr 2 (.t 1), none⟩,
 ⟨some 12, .load none (.t 11), none⟩,
 ⟨some 13, .len (.t 12), none⟩,
 ⟨some 14, .bin .lss (.t 10) (.t 13), none⟩]
def x7l : List SOper := [
 ⟨some 17, .faddr 2 (.t 3), none⟩,
 ⟨some 18, .load none (.t 17), none⟩,
 ⟨some 19, .faddr 2 (.t 1), none⟩,
 ⟨some 20, .load none (.t 19), none⟩,
 ⟨some 21, .mov (.t 4), none⟩,
 ⟨some 22, .iaddr 9 (.t 20) (.t 21), none⟩,
 ⟨some 23, .load (some 9) (.t 22), none⟩,
 ⟨some 24, .buildSlice false 9 1 [(.int .i64 0), (.int .i64 0), (.int .i64 0), (.int .i64 0), (.int .i64 0), (.int .i64 0), (.int .i64 0), .nilsl, .nilsl] [(0, 9, (.t 23))], none⟩,
 ⟨some 25, .append false 9 104 (.t 18) (.t 24), none⟩,
 ⟨some 26, .faddr 2 (.t 3), none⟩,
 ⟨none, .store none (.t 26) (.t 25), none⟩]
def x7m : List SOper := [
 ⟨some 15, .mov (.t 4), none⟩,
 ⟨some 16, .bin .add (.t 15) (.k (.d (.int .i64 1))), none⟩,
 ⟨some 4, .mov (.t 16), none⟩]
def xj3 : SCode := (.seq (.seq (.region x7k 0 []) (.cond (.t 14) .skip (.exit 0))) (.seq (.block 1 (.region x7l 0 [])) (.region x7m 0 [])))
theorem zji : qf xj3.eq_1 := qg xj3.eq_1
def x7n : List SOper := [
 ⟨some 27, .load (some 3) (.t 3), none⟩,
 ⟨none, .store (some 3) (.t 2) (.t 27), none⟩]
def s16 : SCode := (.seq (.region x7h 2 []) (.seq (.region x7i 1 []) (.seq (.seq (.region x7j 0 []) (.block 0 (.loop xj3))) (.seq (.region x7n 0 []) .ret))))
theorem e16 : qf s16.eq_1 := qg s16.eq_1
theorem zjj : qa x7h.eq_1 := qc
theorem zjk : qa x7i.eq_1 := qc
theorem zjl : qa x7j.eq_1 := qc
theorem zjm : qa x7k.eq_1 := qc
theorem zjn : qa x7l.eq_1 := qc
theorem zjo : qa x7m.eq_1 := qc
theorem zjp : qa x7n.eq_1 := qc
attribute [go_sem] zjj zjk zjl zjm zjn zjo zji zjp e16
theorem F16 : FnIs Tryz.prog 16 Tryz.f16 [] news s16 [.cell 2 (some 3)] 28 := xo follows Tryz.func16
end
def qqu (q : Qu) (i : { i : Nat // i ≤ q.items.length }) : St :=
 ⟨[(1, true, .d (.ptr 0 0)), (2, true, .d (.ptr 1 0)), (3, true, .d (.ptr 2 0)), (4, true, .d (.int .i64 (i.val : Nat)))],
  [qObj q, .row [.d (.int .i64 0), .d (.int .i64 0), .d .nilsl], .row [.d (.int .i64 q.acc), .d (.int .i64 q.cons), .own 0 9 ((q.items.take i.val).map qi)]], [0], 1⟩
set_option maxRecDepth 10000 in
theorem q1j (q : Qu) (hq : q.items.length ≤ 1000) : ql Tryz.prog 12 [.d (.agg (encQ q))] [] (.d (.agg (encQ q))) [] := by
 first | refine F12.go ?_ | refine F12.goT ?_
 (refine ev1 @encQ.eq_1 ?_; try exact True.intro)
 refine qv (qqu q) (fun i => q.items.length - i.val) ⟨0, Nat.zero_le _⟩ ?_ (fun i => ?_)
 ·try (refine ev2 @qqu.eq_1 @qObj.eq_1 ?_; try exact True.intro)
 obtain ⟨i, hi⟩ := i
 try (refine ev2 @qqu.eq_1 @qObj.eq_1 ?_; try exact True.intro)
 refine qo _ rfl rfl (fun h => ?_) (fun h => ?_)
 ·have hil : i < q.items.length := by simpa using h
  (refine ev2 (qz qi q.items hil) @qi.eq_1 ?_; try exact True.intro)
  (repeat (with_reducible refine ob ?_))
  have hlt : (q.items.take i).length ≤ 1000 := by simp; omega
  refine ⟨⟨i + 1, hil⟩, ?_, by dsimp only; omega⟩
  (refine ev5 @qqu.eq_1 @qObj.eq_1 (qb3 qi q.items hil) @qi.eq_1 (qr (show i < 9223372036854775807 by omega)) ?_; try exact True.intro)
 ·have hil : i = q.items.length := by
   have : q.items.length ≤ i := by simpa using h
   omega
  subst hil
  try (refine ev1 @List.take_length.{0} ?_; try exact True.intro)
set_option maxRecDepth 10000 in
theorem wu (q : Qu) (hq : q.items.length ≤ 1000) : ql Tryz.prog 16 [.d (.agg (encQ q))] [] (.d (.agg (encQ q))) [] := by
 first | refine F16.go ?_ | refine F16.goT ?_
 (refine ev1 @encQ.eq_1 ?_; try exact True.intro)
 refine qv (qqu q) (fun i => q.items.length - i.val) ⟨0, Nat.zero_le _⟩ ?_ (fun i => ?_)
 ·try (refine ev2 @qqu.eq_1 @qObj.eq_1 ?_; try exact True.intro)
 obtain ⟨i, hi⟩ := i
 try (refine ev2 @qqu.eq_1 @qObj.eq_1 ?_; try exact True.intro)
 refine qo _ rfl rfl (fun h => ?_) (fun h => ?_)
 ·have hil : i < q.items.length := by simpa using h
  (refine ev2 (qz qi q.items hil) @qi.eq_1 ?_; try exact True.intro)
  (repeat (with_reducible refine ob ?_))
  have hlt : (q.items.take i).length ≤ 1000 := by simp; omega
  refine ⟨⟨i + 1, hil⟩, ?_, by dsimp only; omega⟩
  (refine ev5 @qqu.eq_1 @qObj.eq_1 (qb3 qi q.items hil) @qi.eq_1 (qr (show i < 9223372036854775807 by omega)) ?_; try exact True.intro)
 ·have hil : i = q.items.length := by
   have : q.items.length ≤ i := by simpa using h
   omega
  subst hil
  try (refine ev1 @List.take_length.{0} ?_; try exact True.intro)
end Go.Proofs.YtinnaedmdoengaaGreat
namespace Go.Proofs.YtinnaedmdoengaaGreat
open Go.Abs
set_option linter.unusedSimpArgs false
theorem q5a (v : AV) : qjz v = vq v := by
 rw [Bool.eq_iff_iff]
 by_cases h1 : v.kind = 1
 ·by_cases hs : v.s = [] <;> simp [qjz, qh3, vq, h1, hs]
 ·by_cases h2 : v.kind = 2 <;> simp [qjz, qh3, vq, h1, h2]
theorem q5b (n : Int) : qnl n = !(decide (n < 0) || decide (n > 1099511627776)) := by
 rw [Bool.eq_iff_iff]
 simp [qnl, in46]
theorem qqv (p : Pk) : wt p = (decide ((p.values.length : Int) ≤ 4) && decide ((p.clock.length : Int) ≤ 6) && !(p.values.any fun v => !vq v) && !(p.clock.any fun n => decide (n < 0) || decide (n > 1099511627776))) := by
 have h1 : p.values.all qjz = !(p.values.any fun v => !vq v) := by
  rw [List.not_any_eq_all_not]
  congr 1
  funext v
  simp [q5a]
 have h2 : p.clock.all qnl = !(p.clock.any fun n => decide (n < 0) || decide (n > 1099511627776)) := by
  rw [List.not_any_eq_all_not]
  congr 1
  funext n
  rw [q5b]
 rw [wt, h1, h2]
 congr 2
 rw [Bool.eq_iff_iff]
 simp
theorem x7o (x y : Bool) : (if (!x) = true then false else y) = (x && y) := by cases x <;> rfl
theorem qwh (p : Pk) : qah p = (yq p && p.kind == 1) := by
 by_cases hk : p.kind = 1
 ·have h46 : yq p = (in46 p.sess 1 32 && (in46 p.epoch 0 1 && qqt p && in46 p.seq 1 1099511627776 && in46 p.label 0 39 && wt p)) := by
   simp only [yq, hk, x7o, beq_self_eq_true, if_true]
  rw [h46, Bool.eq_iff_iff]
  simp only [qah, xc, qlb, data, qc8, role, qqt, in46, qqv, hk, beq_self_eq_true, Bool.true_and, Bool.and_true, if_true, Bool.and_eq_true, decide_eq_true_eq, Bool.or_eq_true, beq_iff_eq, Bool.not_eq_true', bne_iff_ne]
  generalize (p.values.any fun v => !vq v) = a
  generalize (p.clock.any fun n => decide (n < 0) || decide (n > 1099511627776)) = b
  constructor
  ·intro h; grind
  ·intro h; grind
 ·have : (p.kind == 1) = false := by simpa using hk
  simp only [qah, this, Bool.false_and, Bool.and_false]
structure QW0 (q : Qu) : Prop where
 lo : 0 ≤ q.cons
 le : q.cons ≤ q.acc
 hi : q.acc ≤ 1099511627776
 len : (q.items.length : Int) = q.acc - q.cons
 few : q.items.length ≤ 4
 item : ∀ (i : Nat) (h : i < q.items.length), qah q.items[i] = true ∧ qkn q.items[i] (q.items[0]'(by omega)) = true ∧ q.items[i].seq = q.cons + 1 + i
theorem xg9 {c : Int} {i : Nat} (h1 : 0 ≤ c) (h2 : c ≤ 1099511627776) (h3 : i ≤ 4) : IntKind.i64.wrap (IntKind.i64.wrap (c + 1) + (i : Int)) = c + 1 + i := by
 rw [wrap_i64 (n := c + 1) (by omega) (by omega), wrap_i64 (by omega) (by omega)]
theorem qqw {q : Qu} {i : Nat} (h1 : 0 ≤ q.cons) (h2 : q.cons ≤ 1099511627776) (h3 : q.items.length ≤ 4) (hi : i < q.items.length) :
  qjg q i = true ↔ qah q.items[i] = true ∧ qkn q.items[i] (q.items[0]'(by omega)) = true ∧ q.items[i].seq = q.cons + 1 + i := by
 have h0 : 0 < q.items.length := by omega
 simp only [qjg, qba hi, qba h0, Bool.and_eq_true, beq_iff_eq, xg9 h1 h2 (show i ≤ 4 by omega), and_assoc]
theorem ql4 {q : Qu} {i : Nat} (h1 : 0 ≤ q.cons) (h2 : q.cons ≤ 1099511627776) (h3 : q.items.length ≤ 4) (hi : i < q.items.length) :
  qfq q i = true ↔ qah q.items[i] = true ∧ qkn q.items[i] (q.items[0]'(by omega)) = true ∧ q.items[i].seq = q.cons + 1 + i := by
 have h0 : 0 < q.items.length := by omega
 simp only [qfq, qba hi, qba h0, xg9 h1 h2 (show i ≤ 4 by omega), qwh, Bool.not_eq_true', Bool.or_eq_false_iff, Bool.not_eq_false', bne_eq_false_iff_eq, Bool.and_eq_true, beq_iff_eq]
 grind
theorem qwi (q : Qu) : vu q = true ↔ QW0 q := by
 simp only [vu, Bool.and_eq_true, decide_eq_true_eq, beq_iff_eq, yh]
 constructor
 ·rintro ⟨h, ⟨⟨⟨h1, h2⟩, h3⟩, h4⟩, h5⟩
  rw [wrap_i64 (by omega) (by omega)] at h4
  exact ⟨h1, h2, h3, h4, by omega, fun i hi => (qqw h1 (by omega) (by omega) hi).1 (h i hi)⟩
 ·rintro ⟨h1, h2, h3, h4, h5, h6⟩
  rw [wrap_i64 (by omega) (by omega)]
  exact ⟨fun i hi => (qqw h1 (by omega) h5 hi).2 (h6 i hi), ⟨⟨⟨h1, h2⟩, h3⟩, h4⟩, by omega⟩
theorem qs8 (q : Qu) : qea q = true ↔ QW0 q := by
 simp only [qea, xj1, Bool.and_eq_true, Bool.not_eq_true', Bool.or_eq_false_iff, decide_eq_false_iff_not, bne_eq_false_iff_eq, yh]
 constructor
 ·rintro ⟨⟨⟨⟨⟨h1, h2⟩, h3⟩, h5⟩, h4⟩, h⟩
  rw [wrap_i64 (by omega) (by omega)] at h4
  exact ⟨by omega, by omega, by omega, h4, by omega, fun i hi => (ql4 (by omega) (by omega) (by omega) hi).1 (h i hi)⟩
 ·rintro ⟨h1, h2, h3, h4, h5, h6⟩
  rw [wrap_i64 (by omega) (by omega)]
  exact ⟨⟨⟨⟨⟨by omega, by omega⟩, by omega⟩, by omega⟩, h4⟩, fun i hi => (ql4 h1 (by omega) h5 hi).2 (h6 i hi)⟩
theorem qwj (q : Qu) : qea q = vu q := by rw [Bool.eq_iff_iff, qs8, qwi]
end Go.Proofs.YtinnaedmdoengaaGreat
namespace Go.Proofs.YtinnaedmdoengaaGreat
open Go.Abs
set_option linter.unusedSimpArgs false
set_option linter.unusedVariables false
structure Pk.I (p : Pk) : Prop where
 h : ∀ x ∈ zr p, I64 x
 v : ∀ x ∈ p.values, I64 x.kind ∧ I64 x.n
 c : ∀ x ∈ p.clock, I64 x
structure Qu.I (q : Qu) : Prop where
 a : I64 q.acc
 c : I64 q.cons
 p : ∀ p ∈ q.items, p.I
theorem zjq {p : Pk} (hi : p.I) (h : qhp p = true) : p.W := by
 unfold qhp at h
 simp only [Bool.and_eq_true, List.all_eq_true] at h
 refine ⟨hi.h, fun x hx => ⟨(hi.v x hx).1, (hi.v x hx).2, ?_⟩, hi.c⟩
 have := h.1 x hx
 simp only [qc4, Bool.not_eq_true', decide_eq_false_iff_not] at this
 omega
theorem xha {q : Qu} (hi : q.I) (h : fewQ q = true) : q.W := by
 unfold fewQ at h
 simp only [Bool.and_eq_true, List.all_eq_true] at h
 exact ⟨hi.a, hi.c, fun p hp => zjq (hi.p p hp) (h.1 p hp)⟩
theorem znp : xq.W := ⟨w8, w8, fun p hp => (by cases hp)⟩
theorem zjr : xq.Sm := ⟨Nat.zero_le _, fun p hp => (by cases hp)⟩
theorem q5c : vu xq = true := by decide
theorem qqx (a : Qu) (name : List UInt8) : ∀ D, zn a a name D = []
 | 0 => if_pos rfl
 | D + 1 => by rw [zn, qqx a name D, chg, if_pos rfl]; rfl
theorem qj0 {a b : Qu} (va : vu a = true) (vb : vu b = true) (sa : a.Sm) (sb : b.Sm) (wa : a.W) (wb : b.W) (x : UInt8) :
  ql Tryz.prog 11 [.d (.agg (encQ a)), .d (.agg (encQ b)), .d (.str [x])] [] (.tup [.d (.sl 3 ((zn a b [x] 4).map qp)), .d (.int .i64 0)]) [] := by
 have h := qsz a b [x] sa wa sb wb (by simp)
 have hx : qa4 a b [x] = (zn a b [x] 4, 0) := by
  unfold qa4
  rw [if_neg]
  rw [va, vb]
  simp [qjt]
 rw [hx] at h
 exact h
theorem qnn {n : Nat} {s : Sto} (h : s.Few n) (hn : n ≤ 60) {a b : Qu} {name : List UInt8} (vb : vu b = true) (wb : b.W) (hm : name.length ≤ 30) (hr : Rep s.m name a) :
  (zn a b name 4 = [] ∧ Rep s.m name b) ∨ (zn a b name 4 ≠ [] ∧ (xi s (zn a b name 4)).2 = 0 ∧ (xi s (zn a b name 4)).1.Few (n + 1) ∧ Rep (xi s (zn a b name 4)).1.m name b) := by
 by_cases he : zn a b name 4 = []
 ·obtain ⟨h1, h2⟩ := qnk he
  exact .inl ⟨he, qt2 h1 h2 hr⟩
 ·obtain ⟨c1, c2, c3⟩ := qs6 h hn (x41 vb) wb hm he
  exact .inr ⟨he, c1, c2, q47 hr c3⟩
noncomputable section
set_option maxRecDepth 100000
def s3r0 : List SOper := [
 ⟨some 2, .box 2 (.t 0), none⟩,
 ⟨some 3, .box 1 (.t 1), none⟩,
 ⟨some 4, .mov (.k (.d (.bool false))), none⟩]
def s3r1 : List SOper := [
 ⟨some 12, .call (.k (.d (.func (.func 7) [] []))) [], none⟩,
 ⟨some 13, .not (.t 12), none⟩]
def s3r2 : List SOper := [
 ⟨some 4, .mov (.k (.d (.bool false))), none⟩]
def s3r3 : List SOper := [
 ⟨some 14, .load (some 3) (.t 2), none⟩,
 ⟨some 15, .call (.k (.d (.func (.func 8) [] []))) [(.t 14)], none⟩,
 ⟨some 16, .not (.t 15), none⟩,
 ⟨some 17, .mov (.t 16), none⟩,
 ⟨some 18, .load (some 3) (.t 3), some (17, false)⟩,
 ⟨some 19, .call (.k (.d (.func (.func 8) [] []))) [(.t 18)], some (17, false)⟩,
 ⟨some 20, .not (.t 19), some (17, false)⟩,
 ⟨some 21, .pick (.t 17) (.k (.d (.bool true))) (.t 20), none⟩,
 ⟨some 22, .mov (.t 21), none⟩,
 ⟨some 23, .load (some 3) (.t 2), some (22, false)⟩,
 ⟨some 24, .call (.k (.d (.func (.func 9) [] []))) [(.t 23)], some (22, false)⟩,
 ⟨some 25, .not (.t 24), some (22, false)⟩,
 ⟨some 26, .pick (.t 22) (.k (.d (.bool true))) (.t 25), none⟩,
 ⟨some 27, .mov (.t 26), none⟩,
 ⟨some 28, .load (some 3) (.t 3), some (27, false)⟩,
 ⟨some 29, .call (.k (.d (.func (.func 9) [] []))) [(.t 28)], some (27, false)⟩,
 ⟨some 30, .not (.t 29), some (27, false)⟩,
 ⟨some 31, .pick (.t 27) (.k (.d (.bool true))) (.t 30), none⟩]
def s3r4 : List SOper := [
 ⟨some 4, .mov (.k (.d (.bool true))), none⟩]
def s3r5 : List SOper := [
 ⟨some 32, .call (.k (.d (.func (.func 10) [] []))) [], none⟩,
 ⟨some 5, .mov (.t 32), none⟩]
def s3r6 : List SOper := [
 ⟨some 34, .build [(.int .i64 0), (.int .i64 0), .nilsl] [], none⟩,
 ⟨some 35, .load (some 3) (.t 2), none⟩,
 ⟨some 36, .call (.k (.d (.func (.func 12) [] []))) [(.t 35)], none⟩,
 ⟨some 37, .call (.k (.d (.func (.func 11) [] []))) [(.t 34), (.t 36), (.k (.d (.str [110])))], none⟩,
 ⟨some 33, .mov (.t 37), none⟩,
 ⟨some 38, .extract 0 (.t 33), none⟩,
 ⟨some 39, .extract 1 (.t 33), none⟩,
 ⟨some 6, .mov (.t 38), none⟩,
 ⟨some 7, .mov (.t 39), none⟩]
def s3r7 : List SOper := [
 ⟨some 41, .load (some 3) (.t 2), none⟩,
 ⟨some 42, .call (.k (.d (.func (.func 12) [] []))) [(.t 41)], none⟩,
 ⟨some 43, .load (some 3) (.t 3), none⟩,
 ⟨some 44, .call (.k (.d (.func (.func 12) [] []))) [(.t 43)], none⟩,
 ⟨some 45, .call (.k (.d (.func (.func 11) [] []))) [(.t 42), (.t 44), (.k (.d (.str [110])))], none⟩,
 ⟨some 40, .mov (.t 45), none⟩,
 ⟨some 46, .extract 0 (.t 40), none⟩,
 ⟨some 47, .extract 1 (.t 40), none⟩,
 ⟨some 8, .mov (.t 46), none⟩,
 ⟨some 9, .mov (.t 47), none⟩]
def s3r8 : List SOper := [
 ⟨some 48, .mov (.t 7), none⟩,
 ⟨some 49, .bin .neq (.t 48) (.k (.d (.int .i64 0))), none⟩,
 ⟨some 50, .mov (.t 49), none⟩,
 ⟨some 51, .mov (.t 9), some (50, false)⟩,
 ⟨some 52, .bin .neq (.t 51) (.k (.d (.int .i64 0))), some (50, false)⟩,
 ⟨some 53, .pick (.t 50) (.k (.d (.bool true))) (.t 52), none⟩,
 ⟨some 54, .mov (.t 53), none⟩,
 ⟨some 55, .mov (.t 8), some (54, false)⟩,
 ⟨some 56, .len (.t 55), some (54, false)⟩,
 ⟨some 57, .bin .eql (.t 56) (.k (.d (.int .i64 0))), some (54, false)⟩,
 ⟨some 58, .load (some 3) (.t 2), some (54, false)⟩,
 ⟨some 59, .load (some 3) (.t 3), some (54, false)⟩,
 ⟨some 60, .call (.k (.d (.func (.func 13) [] []))) [(.t 58), (.t 59)], some (54, false)⟩,
 ⟨some 61, .eqb true (.t 57) (.t 60), some (54, false)⟩,
 ⟨some 62, .pick (.t 54) (.k (.d (.bool true))) (.t 61), none⟩]
def s3r9 : List SOper := [
 ⟨some 4, .mov (.k (.d (.bool false))), none⟩]
def x7p : List SOper := [
 ⟨some 63, .mov (.t 6), none⟩,
 ⟨some 64, .len (.t 63), none⟩,
 ⟨some 65, .bin .gtr (.t 64) (.k (.d (.int .i64 0))), none⟩,
 ⟨some 66, .mov (.t 65), none⟩,
 ⟨some 67, .mov (.t 5), some (66, true)⟩,
 ⟨some 68, .mov (.t 6), some (66, true)⟩,
 ⟨some 69, .call (.k (.d (.func (.func 14) [] []))) [(.t 67), (.t 68)], some (66, true)⟩,
 ⟨some 70, .bin .neq (.t 69) (.k (.d (.int .i64 0))), some (66, true)⟩,
 ⟨some 71, .pick (.t 66) (.t 70) (.k (.d (.bool false))), none⟩,
 ⟨some 72, .mov (.t 71), none⟩,
 ⟨some 73, .mov (.t 8), some (72, false)⟩,
 ⟨some 74, .len (.t 73), some (72, false)⟩,
 ⟨some 75, .bin .gtr (.t 74) (.k (.d (.int .i64 0))), some (72, false)⟩,
 ⟨some 76, .mov (.t 75), some (72, false)⟩,
 ⟨some 77, .mov (.t 5), some (76, true)⟩,
 ⟨some 78, .mov (.t 8), some (76, true)⟩,
 ⟨some 79, .call (.k (.d (.func (.func 14) [] []))) [(.t 77), (.t 78)], some (76, true)⟩,
 ⟨some 80, .bin .neq (.t 79) (.k (.d (.int .i64 0))), some (76, true)⟩,
 ⟨some 81, .pick (.t 76) (.t 80) (.k (.d (.bool false))), some (72, false)⟩,
 ⟨some 82, .pick (.t 72) (.k (.d (.bool true))) (.t 81), none⟩]
def x7q : List SOper := [
 ⟨some 4, .mov (.k (.d (.bool false))), none⟩]
def x7r : List SOper := [
 ⟨some 84, .mov (.t 5), none⟩,
 ⟨some 85, .call (.k (.d (.func (.func 15) [] []))) [(.t 84), (.k (.d (.str [110])))], none⟩,
 ⟨some 83, .mov (.t 85), none⟩,
 ⟨some 86, .extract 0 (.t 83), none⟩,
 ⟨some 87, .extract 1 (.t 83), none⟩,
 ⟨some 10, .alloc 1 [(.d (.int .i64 0)), (.d (.int .i64 0)), (.d .nilsl)], none⟩,
 ⟨none, .store (some 3) (.t 10) (.t 86), none⟩,
 ⟨some 11, .mov (.t 87), none⟩]
def x7s : List SOper := [
 ⟨some 88, .mov (.t 11), none⟩,
 ⟨some 89, .bin .eql (.t 88) (.k (.d (.int .i64 0))), none⟩,
 ⟨some 90, .mov (.t 89), none⟩,
 ⟨some 91, .load (some 3) (.t 10), some (90, true)⟩,
 ⟨some 92, .call (.k (.d (.func (.func 16) [] []))) [(.t 91)], some (90, true)⟩,
 ⟨some 93, .load (some 3) (.t 3), some (90, true)⟩,
 ⟨some 94, .call (.k (.d (.func (.func 13) [] []))) [(.t 92), (.t 93)], some (90, true)⟩,
 ⟨some 95, .pick (.t 90) (.t 94) (.k (.d (.bool false))), none⟩,
 ⟨some 4, .mov (.t 95), none⟩]
def s3 : SCode := (.seq (.region s3r0 2 []) (.seq (.seq (.region s3r1 0 []) (.cond (.t 13) (.seq (.region s3r2 0 []) .ret) .skip)) (.seq (.seq (.region s3r3 0 []) (.cond (.t 31) (.seq (.region s3r4 0 []) .ret) .skip)) (.seq (.region s3r5 2 []) (.seq (.region s3r6 0 []) (.seq (.region s3r7 0 [(1, 2)]) (.seq (.seq (.region s3r8 0 []) (.cond (.t 62) (.seq (.region s3r9 0 []) .ret) .skip)) (.seq (.seq (.region x7p 2 []) (.cond (.t 82) (.seq (.region x7q 0 []) .ret) .skip)) (.seq (.region x7r 1 []) (.seq (.region x7s 0 [(4, 5)]) .ret))))))))))
theorem e3 : qf s3.eq_1 := qg s3.eq_1
theorem znq : qa s3r0.eq_1 := qc
theorem znr : qa s3r1.eq_1 := qc
theorem zns : qa s3r2.eq_1 := qc
theorem znt : qa s3r3.eq_1 := qc
theorem znu : qa s3r4.eq_1 := qc
theorem znv : qa s3r5.eq_1 := qc
theorem znw : qa s3r6.eq_1 := qc
theorem znx : qa s3r7.eq_1 := qc
theorem zny : qa s3r8.eq_1 := qc
theorem znz : qa s3r9.eq_1 := qc
theorem zjs : qa x7p.eq_1 := qc
theorem zjt : qa x7q.eq_1 := qc
theorem zju : qa x7r.eq_1 := qc
theorem zjv : qa x7s.eq_1 := qc
attribute [go_sem] znq znr zns znt znu znv znw znx zny znz zjs zjt zju zjv e3
theorem F3 : FnIs Tryz.prog 3 Tryz.f3 [] news s3 [.tmp 4] 96 := xo follows Tryz.func3
end
set_option maxRecDepth 10000 in
set_option maxHeartbeats 2000000 in
theorem qhq (a b : Qu) (ia : a.I) (ib : b.I) (la : a.items.length ≤ maxLen) (la2 : ∀ p ∈ a.items, p.values.length ≤ maxLen) (lb : b.items.length ≤ maxLen) (lb2 : ∀ p ∈ b.items, p.values.length ≤ maxLen) :
  ql Tryz.prog 3 [.d (.agg (encQ a)), .d (.agg (encQ b))] [] (.d (.bool true)) [] := by
 have k0 := qzm
 simp only [stoO, mapO] at k0
 refine F3.go ?_
 try (refine ev1 @encQ.eq_1 ?_; try exact True.intro)
 (repeat (with_reducible refine ob ?_)); first | refine cl F7 (qlg) ?_ | refine clF F7 (qlg) (fun _ => by (refine ev3 @qi.eq_1 @encQ.eq_1 @qp.eq_1 ?_; try exact True.intro)) ?_
 try (refine ev ?_; try exact True.intro)
 (repeat (with_reducible refine ob ?_)); refine no_ ?_
 try (refine ev ?_; try exact True.intro)
 (repeat (with_reducible refine ob ?_)); first | refine cl F8 (qnm a la la2) ?_ | refine clF F8 (qnm a la la2) (fun _ => by (refine ev3 @qi.eq_1 @encQ.eq_1 @qp.eq_1 ?_; try exact True.intro)) ?_
 try (refine ev ?_; try exact True.intro)
 cases fa : fewQ a
 ·(repeat (with_reducible refine ob ?_)); refine qx3 ?_
  try (refine ev ?_; try exact True.intro)
  (repeat (with_reducible refine ob ?_)); refine qx3 ?_
  try (refine ev ?_; try exact True.intro)
  (repeat (with_reducible refine ob ?_)); refine qx3 ?_
  try (refine ev ?_; try exact True.intro)
  (repeat (with_reducible refine ob ?_)); refine qcr ?_
  try (refine ev ?_; try exact True.intro)
 (repeat (with_reducible refine ob ?_)); first | refine cl F8 (qnm b lb lb2) ?_ | refine clF F8 (qnm b lb lb2) (fun _ => by (refine ev3 @qi.eq_1 @encQ.eq_1 @qp.eq_1 ?_; try exact True.intro)) ?_
 try (refine ev ?_; try exact True.intro)
 cases fb : fewQ b
 ·(repeat (with_reducible refine ob ?_)); refine qx3 ?_
  try (refine ev ?_; try exact True.intro)
  (repeat (with_reducible refine ob ?_)); refine qx3 ?_
  try (refine ev ?_; try exact True.intro)
  (repeat (with_reducible refine ob ?_)); refine qcr ?_
  try (refine ev ?_; try exact True.intro)
 have wa := xha ia fa
 have wb := xha ib fb
 have sa := (q1i fa).1
 have sb := (q1i fb).1
 have v1 := ql2 a sa
 have v2 := ql2 b sb
 rw [qwj] at v1 v2
 simp only [encQ] at v1 v2
 (repeat (with_reducible refine ob ?_)); first | refine cl F9 (v1) ?_ | refine clF F9 (v1) (fun _ => by (refine ev3 @qi.eq_1 @encQ.eq_1 @qp.eq_1 ?_; try exact True.intro)) ?_
 try (refine ev ?_; try exact True.intro)
 (repeat (with_reducible refine ob ?_)); first | refine cl F9 (v2) ?_ | refine clF F9 (v2) (fun _ => by (refine ev3 @qi.eq_1 @encQ.eq_1 @qp.eq_1 ?_; try exact True.intro)) ?_
 try (refine ev ?_; try exact True.intro)
 (repeat (with_reducible refine ob ?_))
 refine ju _ (fun h => ?_) (fun h => ?_)
 ·try (refine ev ?_; try exact True.intro)
 have hv : vu a = true ∧ vu b = true := by cases h1 : vu a <;> cases h2 : vu b <;> simp_all
 obtain ⟨va, vb⟩ := hv
 have ke := ql3 b b sb
 have kab := ql3 a b sa
 have t1 := q1j a sa.1
 have t2 := q1j b sb.1
 have f2 := wu b sb.1
 have c1 := qj0 q5c va zjr sa znp wa 110
 have c2 := qj0 va vb sa sb wa wb 110
 have hs1 := qnn qs5 (by decide) va wa (by simp) (q1d [110])
 have hl1 := qbr xq a [110] 4
 have hl2 := qbr a b [110] 4
 have hab : ((((zn a b [110] 4).length : Nat) : Int) == 0) = decide (a = b) := by
  have hm : ∃ m, Rep m [110] a := by
   rcases hs1 with ⟨_, h⟩ | ⟨_, _, _, h⟩
   ·exact ⟨_, h⟩
   ·exact ⟨_, h⟩
  obtain ⟨m, hm⟩ := hm
  rw [Bool.eq_iff_iff]
  simp only [beq_iff_eq, decide_eq_true_eq]
  constructor
  ·intro h0
   obtain ⟨h1, h2⟩ := qnk (List.eq_nil_of_length_eq_zero (by omega) : zn a b [110] 4 = [])
   have l1 := qdg va wa (name := [110]) rfl hm
   rw [qdg vb wb rfl (qt2 h1 h2 hm)] at l1
   cases l1; rfl
  ·rintro rfl
   rw [qqx]; rfl
 have e0 : xq.acc = 0 := rfl
 have e1 : xq.cons = 0 := rfl
 have e2 : xq.items = [] := rfl
 simp only [decide_true] at ke
 simp only [encQ, e0, e1, e2, List.map_nil] at c1 c2 t1 t2 f2 ke kab
 try (refine ev ?_; try exact True.intro)
 refine clO [2, 3] F10 k0 ?_
 try (refine ev ?_; try exact True.intro)
 (repeat (with_reducible refine ob ?_)); first | refine cl F12 (t1) ?_ | refine clF F12 (t1) (fun _ => by (refine ev3 @qi.eq_1 @encQ.eq_1 @qp.eq_1 ?_; try exact True.intro)) ?_
 try (refine ev ?_; try exact True.intro)
 (repeat (with_reducible refine ob ?_)); first | refine cl F11 (c1) ?_ | refine clF F11 (c1) (fun _ => by (refine ev3 @qi.eq_1 @encQ.eq_1 @qp.eq_1 ?_; try exact True.intro)) ?_
 try (refine ev ?_; try exact True.intro)
 (repeat (with_reducible refine ob ?_)); first | refine cl F12 (t1) ?_ | refine clF F12 (t1) (fun _ => by (refine ev3 @qi.eq_1 @encQ.eq_1 @qp.eq_1 ?_; try exact True.intro)) ?_
 try (refine ev ?_; try exact True.intro)
 (repeat (with_reducible refine ob ?_)); first | refine cl F12 (t2) ?_ | refine clF F12 (t2) (fun _ => by (refine ev3 @qi.eq_1 @encQ.eq_1 @qp.eq_1 ?_; try exact True.intro)) ?_
 try (refine ev ?_; try exact True.intro)
 (repeat (with_reducible refine ob ?_)); first | refine cl F11 (c2) ?_ | refine clF F11 (c2) (fun _ => by (refine ev3 @qi.eq_1 @encQ.eq_1 @qp.eq_1 ?_; try exact True.intro)) ?_
 try (refine ev ?_; try exact True.intro)
 (repeat (with_reducible refine ob ?_)); first | refine cl F13 (kab) ?_ | refine clF F13 (kab) (fun _ => by (refine ev3 @qi.eq_1 @encQ.eq_1 @qp.eq_1 ?_; try exact True.intro)) ?_
 try (refine ev1 @hab ?_; try exact True.intro)
 (repeat (with_reducible refine ob ?_)); refine no_ ?_
 have hpos : ∀ {o : List OpS}, o ≠ [] → decide ((o.length : Int) > 0) = true := fun h => by have := List.length_pos_iff.2 h; simp; omega
 clear hab
 rcases hs1 with ⟨he1, hr1⟩ | ⟨he1, hc1, hf1, hr1⟩
 ·have hs2 := qnn qs5 (by decide) vb wb (by simp) hr1
  generalize zn xq a [110] 4 = o1 at he1 hl1 ⊢
  generalize zn a b [110] 4 = o2 at hs2 hl2 ⊢
  subst he1
  rcases hs2 with ⟨he2, hr2⟩ | ⟨he2, hc2, hf2, hr2⟩
  ·subst he2
   try simp only [List.map_nil, List.length_nil, Int.ofNat_zero, go_sem, Nat.reduceAdd, Nat.reduceMul, Nat.reduceSub, Nat.reduceEqDiff, Nat.reduceLT, Nat.reduceLeDiff, Nat.reduceBEq, reduceIte, reduceCtorEq, Int.reduceAdd, Int.reduceLT, Int.reduceLE, Int.reduceGT, Int.reduceGE, Int.reduceEq, Int.reduceNe, Int.reduceBEq, Int.reduceBNe, Int.reduceToNat, Int.reduceNeg]
   refine yf (.int .i64 0) rfl ?_
   try (refine ev ?_; try exact True.intro)
   refine yf (.int .i64 0) rfl ?_
   have la := qh1 newS [110] qs5.v (by simp)
   rw [qdg vb wb rfl hr2] at la
   simp only [stoO, mapO, encQ] at la
   try (refine ev ?_; try exact True.intro)
   (repeat (with_reducible refine ob ?_)); refine no_ ?_
   try (refine ev ?_; try exact True.intro)
   refine clO [3, 2] x4z la ?_
   try (refine ev ?_; try exact True.intro)
   (repeat (with_reducible refine ob ?_)); first | refine cl F16 (wu b sb.1) ?_ | refine clF F16 (wu b sb.1) (fun _ => by (refine ev3 @qi.eq_1 @encQ.eq_1 @qp.eq_1 ?_; try exact True.intro)) ?_
   try (refine ev ?_; try exact True.intro)
   (repeat (with_reducible refine ob ?_)); first | refine cl F13 (ke) ?_ | refine clF F13 (ke) (fun _ => by (refine ev3 @qi.eq_1 @encQ.eq_1 @qp.eq_1 ?_; try exact True.intro)) ?_
   try (refine ev ?_; try exact True.intro)
  ·have k2 := qbl (s := newS) (l := o2) (by omega) (by simp [newS]) hc2
   have hp2 := hpos he2
   generalize (xi newS o2).1 = s2 at k2 hf2 hr2
   simp only [stoO, mapO] at k2
   try simp only [List.map_nil, List.length_nil, hp2, Int.ofNat_zero, go_sem, Nat.reduceAdd, Nat.reduceMul, Nat.reduceSub, Nat.reduceEqDiff, Nat.reduceLT, Nat.reduceLeDiff, Nat.reduceBEq, reduceIte, reduceCtorEq, Int.reduceAdd, Int.reduceLT, Int.reduceLE, Int.reduceGT, Int.reduceGE, Int.reduceEq, Int.reduceNe, Int.reduceBEq, Int.reduceBNe, Int.reduceToNat, Int.reduceNeg]
   refine yf (.int .i64 0) rfl ?_
   try (refine ev1 @hp2 ?_; try exact True.intro)
   refine clO [3, 2, 4] F14 k2 ?_
   have la := qh1 s2 [110] hf2.v (by simp)
   rw [qdg vb wb rfl hr2] at la
   simp only [stoO, mapO, encQ] at la
   try (refine ev ?_; try exact True.intro)
   (repeat (with_reducible refine ob ?_)); refine no_ ?_
   try (refine ev ?_; try exact True.intro)
   refine clO [3, 4] x4z la ?_
   try (refine ev ?_; try exact True.intro)
   (repeat (with_reducible refine ob ?_)); first | refine cl F16 (wu b sb.1) ?_ | refine clF F16 (wu b sb.1) (fun _ => by (refine ev3 @qi.eq_1 @encQ.eq_1 @qp.eq_1 ?_; try exact True.intro)) ?_
   try (refine ev ?_; try exact True.intro)
   (repeat (with_reducible refine ob ?_)); first | refine cl F13 (ke) ?_ | refine clF F13 (ke) (fun _ => by (refine ev3 @qi.eq_1 @encQ.eq_1 @qp.eq_1 ?_; try exact True.intro)) ?_
   try (refine ev ?_; try exact True.intro)
 ·have k1 := qbl (s := newS) (l := zn xq a [110] 4) (by omega) (by simp [newS]) hc1
  have hp1 := hpos he1
  generalize (xi newS (zn xq a [110] 4)).1 = s1 at k1 hf1 hr1
  generalize zn xq a [110] 4 = o1 at he1 hl1 hp1 k1 ⊢
  have hs2 := qnn hf1 (by decide) vb wb (by simp) hr1
  have hff := hf1.ok.file
  generalize zn a b [110] 4 = o2 at hs2 hl2 ⊢
  simp only [stoO, mapO] at k1
  rcases hs2 with ⟨he2, hr2⟩ | ⟨he2, hc2, hf2, hr2⟩
  ·subst he2
   try simp only [List.map_nil, List.length_nil, hp1, Int.ofNat_zero, go_sem, Nat.reduceAdd, Nat.reduceMul, Nat.reduceSub, Nat.reduceEqDiff, Nat.reduceLT, Nat.reduceLeDiff, Nat.reduceBEq, reduceIte, reduceCtorEq, Int.reduceAdd, Int.reduceLT, Int.reduceLE, Int.reduceGT, Int.reduceGE, Int.reduceEq, Int.reduceNe, Int.reduceBEq, Int.reduceBNe, Int.reduceToNat, Int.reduceNeg]
   refine clO [3, 2, 4] F14 k1 ?_
   try simp only [List.map_nil, List.length_nil, Int.ofNat_zero, go_sem, Nat.reduceAdd, Nat.reduceMul, Nat.reduceSub, Nat.reduceEqDiff, Nat.reduceLT, Nat.reduceLeDiff, Nat.reduceBEq, reduceIte, reduceCtorEq, Int.reduceAdd, Int.reduceLT, Int.reduceLE, Int.reduceGT, Int.reduceGE, Int.reduceEq, Int.reduceNe, Int.reduceBEq, Int.reduceBNe, Int.reduceToNat, Int.reduceNeg]
   refine yf (.int .i64 0) rfl ?_
   have la := qh1 s1 [110] hf1.v (by simp)
   rw [qdg vb wb rfl hr2] at la
   simp only [stoO, mapO, encQ] at la
   try (refine ev ?_; try exact True.intro)
   (repeat (with_reducible refine ob ?_)); refine no_ ?_
   try (refine ev ?_; try exact True.intro)
   refine clO [3, 4] x4z la ?_
   try (refine ev ?_; try exact True.intro)
   (repeat (with_reducible refine ob ?_)); first | refine cl F16 (wu b sb.1) ?_ | refine clF F16 (wu b sb.1) (fun _ => by (refine ev3 @qi.eq_1 @encQ.eq_1 @qp.eq_1 ?_; try exact True.intro)) ?_
   try (refine ev ?_; try exact True.intro)
   (repeat (with_reducible refine ob ?_)); first | refine cl F13 (ke) ?_ | refine clF F13 (ke) (fun _ => by (refine ev3 @qi.eq_1 @encQ.eq_1 @qp.eq_1 ?_; try exact True.intro)) ?_
   try (refine ev ?_; try exact True.intro)
  ·have k2 := qbl (s := s1) (l := o2) (by omega) (by omega) hc2
   have hp2 := hpos he2
   generalize (xi s1 o2).1 = s2 at k2 hf2 hr2
   simp only [stoO, mapO] at k2
   try (refine ev2 @hp1 @hp2 ?_; try exact True.intro)
   refine clO [3, 2, 4] F14 k1 ?_
   try (refine ev1 @hp2 ?_; try exact True.intro)
   refine clO [3, 4, 5] F14 k2 ?_
   have la := qh1 s2 [110] hf2.v (by simp)
   rw [qdg vb wb rfl hr2] at la
   simp only [stoO, mapO, encQ] at la
   try (refine ev ?_; try exact True.intro)
   (repeat (with_reducible refine ob ?_)); refine no_ ?_
   try (refine ev ?_; try exact True.intro)
   refine clO [3, 5] x4z la ?_
   try (refine ev ?_; try exact True.intro)
   (repeat (with_reducible refine ob ?_)); first | refine cl F16 (wu b sb.1) ?_ | refine clF F16 (wu b sb.1) (fun _ => by (refine ev3 @qi.eq_1 @encQ.eq_1 @qp.eq_1 ?_; try exact True.intro)) ?_
   try (refine ev ?_; try exact True.intro)
   (repeat (with_reducible refine ob ?_)); first | refine cl F13 (ke) ?_ | refine clF F13 (ke) (fun _ => by (refine ev3 @qi.eq_1 @encQ.eq_1 @qp.eq_1 ?_; try exact True.intro)) ?_
   try (refine ev ?_; try exact True.intro)
end Go.Proofs.YtinnaedmdoengaaGreat
namespace Go.Proofs.YtinnaedmdoengaaGreat
open Go.Abs
set_option linter.unusedSimpArgs false
set_option maxRecDepth 100000
theorem qeb {α : Type} {enc : α → List D} {Q : α → Prop} : ∀ {rows : List (List D)}, (∀ r ∈ rows, ∃ x, r = enc x ∧ Q x) → ∃ l : List α, rows = l.map enc ∧ ∀ x ∈ l, Q x
 | [], _ => ⟨[], rfl, by simp⟩
 | r :: rows, h => by
  obtain ⟨x, rfl, hx⟩ := h r (by simp)
  obtain ⟨l, rfl, hl⟩ := qeb (enc := enc) (Q := Q) (rows := rows) (fun r hr => h r (by simp [hr]))
  exact ⟨x :: l, rfl, by simpa using ⟨hx, hl⟩⟩
theorem q1k {n : Int} (h : (Lit.int .i64 n).wf = true) : I64 n := by
 have h1 : IntKind.i64.min = -9223372036854775808 := by decide
 have h2 : IntKind.i64.max = 9223372036854775807 := by decide
 simp only [Lit.wf, Bool.and_eq_true, decide_eq_true_eq, h1, h2] at h
 exact h
theorem xhb {n : Nat} {ds : List D} (h : Shp Tryz.prog (n + 1) 3 ds) : ∃ x, ds = [.int .i64 x] ∧ I64 x := by
 simp only [Shp, Tryz.underlying3] at h
 obtain ⟨x, rfl, h⟩ := h
 exact ⟨x, rfl, q1k h⟩
end Go.Proofs.YtinnaedmdoengaaGreat
namespace Go.Proofs.YtinnaedmdoengaaGreat
open Go.Abs
set_option linter.unusedSimpArgs false
set_option maxRecDepth 100000
theorem q1o {n : Nat} {ds : List D} (h : Shp Tryz.prog (n + 1) 3 ds) : ∃ x, ds = encI x ∧ I64 x := xhb h
theorem zjy {n : Nat} {ds : List D} (h : Shp Tryz.prog (n + 2) 156 ds) : ∃ v : AV, ds = xg v ∧ I64 v.kind ∧ I64 v.n := by
 simp only [Shp, Tryz.underlying156, qo6, Tryz.underlying3, Tryz.underlying9] at h
 obtain ⟨_, _, rfl, ⟨a, rfl, ha⟩, _, _, rfl, ⟨b, rfl, hb⟩, _, _, rfl, ⟨c, rfl, hc⟩, rfl⟩ := h
 exact ⟨⟨a, b, c⟩, rfl, q1k ha, q1k hb⟩
theorem q5f : Tryz.prog.cellsOf 156 = 3 := by kernel_rfl
theorem q1m : Tryz.prog.cellsOf 3 = 1 := by kernel_rfl
theorem qwl : Tryz.prog.cellsOf 94 = 9 := by kernel_rfl
theorem xj6 {n : Nat} {ds : List D} (h : Shp Tryz.prog (n + 4) 94 ds) : ∃ p : Pk, ds = qi p ∧ p.I ∧ p.values.length ≤ maxLen := by
 rw [Shp] at h
 simp only [Tryz.underlying94, qo6] at h
 obtain ⟨_, _, rfl, h1, _, _, rfl, h2, _, _, rfl, h3, _, _, rfl, h4, _, _, rfl, h5, _, _, rfl, h6, _, _, rfl, h7, _, _, rfl, h8, _, _, rfl, h9, rfl⟩ := h
 obtain ⟨a1, rfl, i1⟩ := q1o h1
 obtain ⟨a2, rfl, i2⟩ := q1o h2
 obtain ⟨a3, rfl, i3⟩ := q1o h3
 obtain ⟨a4, rfl, i4⟩ := q1o h4
 obtain ⟨a5, rfl, i5⟩ := q1o h5
 obtain ⟨a6, rfl, i6⟩ := q1o h6
 obtain ⟨a7, rfl, i7⟩ := q1o h7
 rw [Shp] at h8 h9
 simp only [Tryz.underlying85, Tryz.underlying86] at h8 h9
 obtain ⟨r8, rfl, l8, h8⟩ := h8
 obtain ⟨r9, rfl, l9, h9⟩ := h9
 obtain ⟨vs, rfl, iv⟩ := qeb fun r hr => zjy (h8 r hr)
 obtain ⟨ns, rfl, ic⟩ := qeb fun r hr => q1o (h9 r hr)
 refine ⟨⟨a1, a2, a3, a4, a5, a6, a7, vs, ns⟩, by rw [q5f, q1m]; rfl, ⟨fun x hx => ?_, iv, ic⟩, by simpa using l8⟩
 simp only [zr, List.mem_cons, List.not_mem_nil, or_false] at hx
 rcases hx with rfl | rfl | rfl | rfl | rfl | rfl | rfl <;> assumption
theorem xhc {n : Nat} {ds : List D} (h : Shp Tryz.prog (n + 6) 24 ds) : ∃ q : Qu, ds = encQ q ∧ q.I ∧ q.items.length ≤ maxLen ∧ ∀ p ∈ q.items, p.values.length ≤ maxLen := by
 rw [Shp] at h
 simp only [Tryz.underlying24, qo6] at h
 obtain ⟨_, _, rfl, h1, _, _, rfl, h2, _, _, rfl, h3, rfl⟩ := h
 obtain ⟨a1, rfl, i1⟩ := q1o h1
 obtain ⟨a2, rfl, i2⟩ := q1o h2
 rw [Shp] at h3
 simp only [Tryz.underlying22] at h3
 obtain ⟨r3, rfl, l3, h3⟩ := h3
 obtain ⟨ps, rfl, hp⟩ := qeb fun r hr => xj6 (h3 r hr)
 exact ⟨⟨a1, a2, ps⟩, by rw [qwl]; rfl, ⟨i1, i2, fun p h => (hp p h).1⟩, by simpa using l3, fun p h => (hp p h).2⟩
theorem x7v (q : Qu) : argS Tryz.prog 24 (encQ q) = .d (.agg (encQ q)) := by simp only [argS, Tryz.underlying24]
end Go.Proofs.YtinnaedmdoengaaGreat
