/- Texts Vb, Vp, Vd, Vc, Ve, Vf, Vg, Vh, Vj, Vm, Ws, Vn. -/
import Derived.Test.YtinnaedmdoengaaMno
import Derived.Calls
import Derived.Orders
import Derived.Tactics
import Derived.Laws.AppendOwn
import Derived.Laws.Slices
import Derived.Laws.Closers25
import Derived.Laws.StructEq
import Derived.Laws.BytesString
import Derived.Laws.CopyRow
import Derived.MapKept
import Derived.Maps.RangeRun
import Derived.TacticsIn
import Derived.OrdersIn
import Derived.RangeFuncRecord
import Derived.RangeFuncLeaves
import Derived.IntWalk
import Derived.ProofKit
import Derived.OpenShut
import Derived.Carry
import Derived.Test.YtinnaedmdoengaaProg
import Derived.KernelRfl
import Derived.OwnWalkIn
import Derived.TacticsInMore
import Derived.LoopIn
import Derived.WalkKit
import Derived.Lib.Strings
import Derived.Lib.Slices
import Derived.Lib.Walk
import Derived.Lib.Bytealg
import Derived.Shelf.SlSortCmp.WholeK
import Derived.Shelf.SlSortCmp.NoneTotal

namespace Go.Proofs.Ytinnaedmdoengaa
open Go.Abs
set_option linter.unusedSimpArgs false
set_option linter.unusedVariables false
def we {α : Type} (f : Rd → α × Rd) : Nat → Rd → List α × Rd
 | 0, r => ([], r)
 | n + 1, r => if r.failed = true then ([], r) else ((f r).1 :: (we f n (f r).2).1, (we f n (f r).2).2)
def qbi {α : Type} (most : Int) (f : Rd → α × Rd) (r : Rd) : List α × Rd := we f (qw 0 most r).1.toNat (qw 0 most r).2
def rAV (r : Rd) : AV × Rd :=
 if (qw 1 2 r).2.failed = true then (⟨(qw 1 2 r).1, 0, []⟩, (qw 1 2 r).2) else
 if (qw 1 2 r).1 = 1 then (⟨(qw 1 2 r).1, (rInt (qw 1 2 r).2).1, []⟩, (rInt (qw 1 2 r).2).2) else
 (⟨(qw 1 2 r).1, 0, (js 40 (qw 1 2 r).2).1⟩, (js 40 (qw 1 2 r).2).2)
def qb6 (most : Int) := qaf ([] : List Int) (qbi most rInt)
def qdd (most : Int) := qaf ([] : List AV) (qbi most rAV)
theorem qp0 {α : Type} {f : Rd → α × Rd} (hf : ∀ r : Rd, r.Ok → (f r).2.Ok ∧ (f r).2.b = r.b) : ∀ (n : Nat) {r : Rd}, r.Ok → (we f n r).2.Ok ∧ (we f n r).2.b = r.b
 | 0, r, h => ⟨h, rfl⟩
 | n + 1, r, h => by
  rw [we]
  split
  ·exact ⟨h, rfl⟩
  ·have h1 := hf r h
   have h2 := qp0 hf n h1.1
   exact ⟨h2.1, h2.2.trans h1.2⟩
theorem qfg {α : Type} {f : Rd → α × Rd} (hf : ∀ r : Rd, r.Ok → (f r).2.Ok ∧ (f r).2.b = r.b) {r : Rd} (h : r.Ok) (most : Int) : (qbi most f r).2.Ok ∧ (qbi most f r).2.b = r.b := by
 have h1 := zu h 0 most
 have h2 := qp0 hf (qw 0 most r).1.toNat h1.1
 exact ⟨h2.1, h2.2.trans h1.2⟩
theorem qsl {r : Rd} (h : r.Ok) : (rAV r).2.Ok ∧ (rAV r).2.b = r.b := by
 have h1 := zu h 1 2
 unfold rAV
 split
 ·exact h1
 ·split
  ·have h2 := qay h1.1
   exact ⟨h2.1, h2.2.trans h1.2⟩
  ·have h2 := qd4 h1.1 40
   exact ⟨h2.1, h2.2.trans h1.2⟩
theorem qp1 {α : Type} {f : Rd → α × Rd} : ∀ (n : Nat) {r : Rd}, (we f n r).1.length ≤ n
 | 0, r => Nat.le_refl _
 | n + 1, r => by
  rw [we]
  split
  ·exact Nat.zero_le _
  ·exact Nat.succ_le_succ (qp1 n)
theorem qfh {α : Type} {f : Rd → α × Rd} {most : Nat} {r : Rd} : (qbi most f r).1.length ≤ most := by
 unfold qbi
 cases hf : (qw 0 most r).2.failed with
 | true =>
  generalize qw 0 most r = x at hf
  cases x.1.toNat with
  | zero => exact Nat.zero_le _
  | succ n => rw [we, if_pos hf]; exact Nat.zero_le _
 | false =>
  have h1 := w6 hf
  have h2 := qp1 (f := f) (qw 0 most r).1.toNat (r := (qw 0 most r).2)
  omega
noncomputable section
set_option maxRecDepth 100000
def xb4 : List SOper := [
 ⟨some 2, .alloc 1 [(.d (.int .i64 0)), (.d (.int .i64 0)), (.d (.str []))], none⟩]
def xb5 : List SOper := [
 ⟨some 4, .mov (.t 0), none⟩,
 ⟨some 5, .call (.k (.d (.func (.func 112) [] []))) [(.t 4), (.k (.d (.int .i64 1))), (.k (.d (.int .i64 2)))], none⟩,
 ⟨some 6, .build [(.int .i64 0), (.int .i64 0), (.str [])] [(0, 1, (.t 5))], none⟩,
 ⟨some 3, .alloc 1 [(.d (.int .i64 0)), (.d (.int .i64 0)), (.d (.str []))], none⟩,
 ⟨none, .store (some 3) (.t 3) (.t 6), none⟩]
def xb6 : List SOper := [
 ⟨some 12, .mov (.t 0), none⟩,
 ⟨some 13, .nilCheck (.t 12), none⟩,
 ⟨some 14, .faddr 2 (.t 13), none⟩,
 ⟨some 15, .load none (.t 14), none⟩,
 ⟨some 11, .mov (.t 15), none⟩]
def xb7 : List SOper := [
 ⟨some 17, .faddr 0 (.t 3), none⟩,
 ⟨some 18, .load none (.t 17), none⟩,
 ⟨some 19, .bin .eql (.t 18) (.k (.d (.int .i64 1))), none⟩,
 ⟨some 16, .mov (.t 19), none⟩]
def xb8 : List SOper := [
 ⟨some 20, .mov (.t 0), none⟩,
 ⟨some 21, .call (.k (.d (.func (.func 106) [] []))) [(.t 20)], none⟩,
 ⟨some 22, .faddr 1 (.t 3), none⟩,
 ⟨none, .store none (.t 22) (.t 21), none⟩]
def xb9 : List SOper := [
 ⟨some 7, .mov (.t 0), none⟩,
 ⟨some 8, .call (.k (.d (.func (.func 117) [] []))) [(.t 7), (.k (.d (.int .i64 40)))], none⟩,
 ⟨some 9, .b2s (.t 8), none⟩,
 ⟨some 10, .faddr 2 (.t 3), none⟩,
 ⟨none, .store none (.t 10) (.t 9), none⟩]
def xca : List SOper := [
 ⟨some 23, .load (some 3) (.t 3), none⟩,
 ⟨none, .store (some 3) (.t 2) (.t 23), none⟩]
def s147 : SCode := (.seq (.region xb4 1 []) (.seq (.region xb5 1 []) (.seq (.block 0 (.seq (.region xb6 0 []) (.cond (.t 11) .skip (.seq (.region xb7 0 []) (.cond (.t 16) (.region xb8 0 []) (.region xb9 0 [])))))) (.seq (.region xca 0 []) .ret))))
theorem zis : qg s147.eq_1 := qh s147.eq_1
theorem xzr : qa xb4.eq_1 := qc
theorem xzs : qa xb5.eq_1 := qc
theorem xzt : qa xb6.eq_1 := qc
theorem xzu : qa xb7.eq_1 := qc
theorem xzv : qa xb8.eq_1 := qc
theorem xzw : qa xb9.eq_1 := qc
theorem xzx : qa xca.eq_1 := qc
attribute [go_sem] xzr xzs xzt xzu xzv xzw xzx zis
theorem zg4 : FnIs Try.prog 147 Try.f147 [] news s147 [.cell 2 (some 3)] 24 := x5 follows Try.func147
def xcb : List SOper := [
 ⟨some 6, .mov (.k (.d .nilsl)), none⟩]
def xcc : List SOper := [
 ⟨some 10, .mov (.t 0), none⟩,
 ⟨some 11, .mov (.t 1), none⟩,
 ⟨some 12, .call (.k (.d (.func (.func 112) [] []))) [(.t 10), (.k (.d (.int .i64 0))), (.t 11)], none⟩,
 ⟨some 7, .mov (.t 12), none⟩]
def xcd : List SOper := [
 ⟨some 8, .mov (.k (.d .nilsl)), none⟩]
def xce : List SOper := [
 ⟨some 9, .mov (.k (.d (.int .i64 0))), none⟩]
def xcf : List SOper := [
 ⟨some 13, .mov (.t 9), none⟩,
 ⟨some 14, .mov (.t 7), none⟩,
 ⟨some 15, .bin .lss (.t 13) (.t 14), none⟩,
 ⟨some 16, .mov (.t 15), none⟩,
 ⟨some 17, .mov (.t 0), some (16, true)⟩,
 ⟨some 18, .nilCheck (.t 17), some (16, true)⟩,
 ⟨some 19, .faddr 2 (.t 18), some (16, true)⟩,
 ⟨some 20, .load none (.t 19), some (16, true)⟩,
 ⟨some 21, .not (.t 20), some (16, true)⟩,
 ⟨some 22, .pick (.t 16) (.t 21) (.k (.d (.bool false))), none⟩]
def xcg : List SOper := [
 ⟨some 25, .mov (.t 8), none⟩,
 ⟨some 26, .mov (.t 2), none⟩,
 ⟨some 27, .call (.t 26) [], none⟩,
 ⟨some 28, .buildSlice false 1 1 [(.int .i64 0)] [(0, 1, (.t 27))], none⟩,
 ⟨some 29, .append false 1 8 (.t 25) (.t 28), none⟩,
 ⟨some 8, .mov (.t 29), none⟩]
def xch : List SOper := [
 ⟨some 23, .mov (.t 9), none⟩,
 ⟨some 24, .bin .add (.t 23) (.k (.d (.int .i64 1))), none⟩,
 ⟨some 9, .mov (.t 24), none⟩]
def qz2 : SCode := (.seq (.seq (.region xcf 0 []) (.cond (.t 22) .skip (.exit 0))) (.seq (.block 1 (.region xcg 0 [])) (.region xch 0 [])))
theorem xzy : qg qz2.eq_1 := qh qz2.eq_1
def xci : List SOper := [
 ⟨some 30, .mov (.t 8), none⟩,
 ⟨some 6, .mov (.t 30), none⟩]
def s150 : SCode := (.seq (.region xcb 0 []) (.seq (.region xcc 0 []) (.seq (.region xcd 0 []) (.seq (.seq (.region xce 0 []) (.block 0 (.loop qz2))) (.seq (.region xci 0 []) .ret)))))
theorem zit : qg s150.eq_1 := qh s150.eq_1
theorem xzz : qa xcb.eq_1 := qc
theorem xz0 : qa xcc.eq_1 := qc
theorem xz1 : qa xcd.eq_1 := qc
theorem xz2 : qa xce.eq_1 := qc
theorem xz3 : qa xcf.eq_1 := qc
theorem xz4 : qa xcg.eq_1 := qc
theorem xz5 : qa xch.eq_1 := qc
theorem xz6 : qa xci.eq_1 := qc
attribute [go_sem] xzz xz0 xz1 xz2 xz3 xz4 xz5 xzy xz6 zit
theorem zg5 : FnIs Try.prog 150 Try.f150 [] news s150 [.tmp 6] 31 := x5 follows Try.func150
def xcj : List SOper := [
 ⟨some 6, .mov (.k (.d .nilsl)), none⟩]
def xck : List SOper := [
 ⟨some 10, .mov (.t 0), none⟩,
 ⟨some 11, .mov (.t 1), none⟩,
 ⟨some 12, .call (.k (.d (.func (.func 112) [] []))) [(.t 10), (.k (.d (.int .i64 0))), (.t 11)], none⟩,
 ⟨some 7, .mov (.t 12), none⟩]
def xcl : List SOper := [
 ⟨some 8, .mov (.k (.d .nilsl)), none⟩]
def xcm : List SOper := [
 ⟨some 9, .mov (.k (.d (.int .i64 0))), none⟩]
def xcn : List SOper := [
 ⟨some 13, .mov (.t 9), none⟩,
 ⟨some 14, .mov (.t 7), none⟩,
 ⟨some 15, .bin .lss (.t 13) (.t 14), none⟩,
 ⟨some 16, .mov (.t 15), none⟩,
 ⟨some 17, .mov (.t 0), some (16, true)⟩,
 ⟨some 18, .nilCheck (.t 17), some (16, true)⟩,
 ⟨some 19, .faddr 2 (.t 18), some (16, true)⟩,
 ⟨some 20, .load none (.t 19), some (16, true)⟩,
 ⟨some 21, .not (.t 20), some (16, true)⟩,
 ⟨some 22, .pick (.t 16) (.t 21) (.k (.d (.bool false))), none⟩]
def xco : List SOper := [
 ⟨some 25, .mov (.t 8), none⟩,
 ⟨some 26, .mov (.t 2), none⟩,
 ⟨some 27, .call (.t 26) [], none⟩,
 ⟨some 28, .buildSlice false 3 1 [(.int .i64 0), (.int .i64 0), (.str [])] [(0, 3, (.t 27))], none⟩,
 ⟨some 29, .append false 3 32 (.t 25) (.t 28), none⟩,
 ⟨some 8, .mov (.t 29), none⟩]
def xcp : List SOper := [
 ⟨some 23, .mov (.t 9), none⟩,
 ⟨some 24, .bin .add (.t 23) (.k (.d (.int .i64 1))), none⟩,
 ⟨some 9, .mov (.t 24), none⟩]
def qz3 : SCode := (.seq (.seq (.region xcn 0 []) (.cond (.t 22) .skip (.exit 0))) (.seq (.block 1 (.region xco 0 [])) (.region xcp 0 [])))
theorem xz7 : qg qz3.eq_1 := qh qz3.eq_1
def xcq : List SOper := [
 ⟨some 30, .mov (.t 8), none⟩,
 ⟨some 6, .mov (.t 30), none⟩]
def s146 : SCode := (.seq (.region xcj 0 []) (.seq (.region xck 0 []) (.seq (.region xcl 0 []) (.seq (.seq (.region xcm 0 []) (.block 0 (.loop qz3))) (.seq (.region xcq 0 []) .ret)))))
theorem ziu : qg s146.eq_1 := qh s146.eq_1
theorem xz8 : qa xcj.eq_1 := qc
theorem xz9 : qa xck.eq_1 := qc
theorem x0a : qa xcl.eq_1 := qc
theorem x0b : qa xcm.eq_1 := qc
theorem x0c : qa xcn.eq_1 := qc
theorem x0d : qa xco.eq_1 := qc
theorem x0e : qa xcp.eq_1 := qc
theorem x0f : qa xcq.eq_1 := qc
attribute [go_sem] xz8 xz9 x0a x0b x0c x0d x0e xz7 x0f ziu
theorem zg6 : FnIs Try.prog 146 Try.f146 [] news s146 [.tmp 6] 31 := x5 follows Try.func146
def xcr : List SOper := [
 ⟨some 2, .mov (.k (.d .nilsl)), none⟩]
def xcs : List SOper := [
 ⟨some 3, .load none (.t 0), none⟩,
 ⟨some 4, .load none (.t 1), none⟩,
 ⟨some 5, .load none (.t 0), none⟩,
 ⟨some 6, .mkFunc (.func 106) [(.t 5)] [], none⟩,
 ⟨some 7, .call (.k (.d (.func (.func 150) [] []))) [(.t 3), (.t 4), (.t 6)], none⟩,
 ⟨some 2, .mov (.t 7), none⟩]
def s149 : SCode := (.seq (.region xcr 0 []) (.seq (.region xcs 0 []) .ret))
theorem ziv : qg s149.eq_1 := qh s149.eq_1
theorem x0g : qa xcr.eq_1 := qc
theorem x0h : qa xcs.eq_1 := qc
attribute [go_sem] x0g x0h ziv
theorem zg7 : FnIs Try.prog 149 Try.f149 [] news s149 [.tmp 2] 8 := x5 follows Try.func149
def xct : List SOper := [
 ⟨some 2, .mov (.k (.d .nilsl)), none⟩]
def xcu : List SOper := [
 ⟨some 3, .load none (.t 0), none⟩,
 ⟨some 4, .load none (.t 1), none⟩,
 ⟨some 5, .load none (.t 0), none⟩,
 ⟨some 6, .mkFunc (.func 147) [(.t 5)] [], none⟩,
 ⟨some 7, .call (.k (.d (.func (.func 146) [] []))) [(.t 3), (.t 4), (.t 6)], none⟩,
 ⟨some 2, .mov (.t 7), none⟩]
def s145 : SCode := (.seq (.region xct 0 []) (.seq (.region xcu 0 []) .ret))
theorem ziw : qg s145.eq_1 := qh s145.eq_1
theorem x0i : qa xct.eq_1 := qc
theorem x0j : qa xcu.eq_1 := qc
attribute [go_sem] x0i x0j ziw
theorem zg8 : FnIs Try.prog 145 Try.f145 [] news s145 [.tmp 2] 8 := x5 follows Try.func145
def xcv : List SOper := [
 ⟨some 4, .mov (.k (.d .nilsl)), none⟩]
def xcw : List SOper := [
 ⟨some 5, .mov (.k (.d .nilsl)), none⟩]
def xcx : List SOper := [
 ⟨some 8, .mov (.t 0), none⟩,
 ⟨some 9, .eqnil false .ptr (.t 8), none⟩,
 ⟨some 10, .mov (.t 9), none⟩,
 ⟨some 11, .mov (.t 0), some (10, false)⟩,
 ⟨some 12, .nilCheck (.t 11), some (10, false)⟩,
 ⟨some 13, .faddr 2 (.t 12), some (10, false)⟩,
 ⟨some 14, .load none (.t 13), some (10, false)⟩,
 ⟨some 15, .pick (.t 10) (.k (.d (.bool true))) (.t 14), none⟩]
def xcy : List SOper := [
 ⟨some 16, .mov (.t 5), none⟩,
 ⟨some 4, .mov (.t 16), none⟩]
def xcz : List SOper := [
 ⟨some 17, .mov (.t 0), none⟩,
 ⟨some 18, .nilCheck (.t 17), none⟩,
 ⟨some 19, .faddr 1 (.t 18), none⟩,
 ⟨some 20, .load none (.t 19), none⟩,
 ⟨some 6, .mov (.t 20), none⟩]
def xc0 : List SOper := [
 ⟨some 21, .mov (.t 1), none⟩,
 ⟨some 22, .call (.t 21) [], none⟩,
 ⟨some 7, .mov (.t 22), none⟩]
def xc1 : List SOper := [
 ⟨some 23, .mov (.t 0), none⟩,
 ⟨some 24, .nilCheck (.t 23), none⟩,
 ⟨some 25, .faddr 2 (.t 24), none⟩,
 ⟨some 26, .load none (.t 25), none⟩]
def xc2 : List SOper := [
 ⟨some 27, .mov (.t 0), none⟩,
 ⟨some 28, .mov (.t 6), none⟩,
 ⟨some 29, .nilCheck (.t 27), none⟩,
 ⟨some 30, .faddr 1 (.t 29), none⟩,
 ⟨none, .store none (.t 30) (.t 28), none⟩]
def xc3 : List SOper := [
 ⟨some 31, .mov (.t 5), none⟩,
 ⟨some 4, .mov (.t 31), none⟩]
def xc4 : List SOper := [
 ⟨some 32, .mov (.t 7), none⟩,
 ⟨some 4, .mov (.t 32), none⟩]
def s148 : SCode := (.seq (.region xcv 0 []) (.seq (.region xcw 0 []) (.seq (.seq (.region xcx 0 []) (.cond (.t 15) (.seq (.region xcy 0 []) .ret) .skip)) (.seq (.region xcz 0 []) (.seq (.region xc0 0 []) (.seq (.seq (.region xc1 0 []) (.cond (.t 26) (.seq (.region xc2 0 []) (.seq (.region xc3 0 []) .ret)) .skip)) (.seq (.region xc4 0 []) .ret)))))))
theorem zix : qg s148.eq_1 := qh s148.eq_1
theorem x0k : qa xcv.eq_1 := qc
theorem x0l : qa xcw.eq_1 := qc
theorem x0m : qa xcx.eq_1 := qc
theorem x0n : qa xcy.eq_1 := qc
theorem x0o : qa xcz.eq_1 := qc
theorem x0p : qa xc0.eq_1 := qc
theorem x0q : qa xc1.eq_1 := qc
theorem x0r : qa xc2.eq_1 := qc
theorem x0s : qa xc3.eq_1 := qc
theorem x0t : qa xc4.eq_1 := qc
attribute [go_sem] x0k x0l x0m x0n x0o x0p x0q x0r x0s x0t zix
theorem zg9 : FnIs Try.prog 148 Try.f148 [] news s148 [.tmp 4] 33 := x5 follows Try.func148
def xc5 : List SOper := [
 ⟨some 4, .mov (.k (.d .nilsl)), none⟩]
def xc6 : List SOper := [
 ⟨some 5, .mov (.k (.d .nilsl)), none⟩]
def xc7 : List SOper := [
 ⟨some 8, .mov (.t 0), none⟩,
 ⟨some 9, .eqnil false .ptr (.t 8), none⟩,
 ⟨some 10, .mov (.t 9), none⟩,
 ⟨some 11, .mov (.t 0), some (10, false)⟩,
 ⟨some 12, .nilCheck (.t 11), some (10, false)⟩,
 ⟨some 13, .faddr 2 (.t 12), some (10, false)⟩,
 ⟨some 14, .load none (.t 13), some (10, false)⟩,
 ⟨some 15, .pick (.t 10) (.k (.d (.bool true))) (.t 14), none⟩]
def xc8 : List SOper := [
 ⟨some 16, .mov (.t 5), none⟩,
 ⟨some 4, .mov (.t 16), none⟩]
def xc9 : List SOper := [
 ⟨some 17, .mov (.t 0), none⟩,
 ⟨some 18, .nilCheck (.t 17), none⟩,
 ⟨some 19, .faddr 1 (.t 18), none⟩,
 ⟨some 20, .load none (.t 19), none⟩,
 ⟨some 6, .mov (.t 20), none⟩]
def xda : List SOper := [
 ⟨some 21, .mov (.t 1), none⟩,
 ⟨some 22, .call (.t 21) [], none⟩,
 ⟨some 7, .mov (.t 22), none⟩]
def xdb : List SOper := [
 ⟨some 23, .mov (.t 0), none⟩,
 ⟨some 24, .nilCheck (.t 23), none⟩,
 ⟨some 25, .faddr 2 (.t 24), none⟩,
 ⟨some 26, .load none (.t 25), none⟩]
def xdc : List SOper := [
 ⟨some 27, .mov (.t 0), none⟩,
 ⟨some 28, .mov (.t 6), none⟩,
 ⟨some 29, .nilCheck (.t 27), none⟩,
 ⟨some 30, .faddr 1 (.t 29), none⟩,
 ⟨none, .store none (.t 30) (.t 28), none⟩]
def xdd : List SOper := [
 ⟨some 31, .mov (.t 5), none⟩,
 ⟨some 4, .mov (.t 31), none⟩]
def xde : List SOper := [
 ⟨some 32, .mov (.t 7), none⟩,
 ⟨some 4, .mov (.t 32), none⟩]
def s144 : SCode := (.seq (.region xc5 0 []) (.seq (.region xc6 0 []) (.seq (.seq (.region xc7 0 []) (.cond (.t 15) (.seq (.region xc8 0 []) .ret) .skip)) (.seq (.region xc9 0 []) (.seq (.region xda 0 []) (.seq (.seq (.region xdb 0 []) (.cond (.t 26) (.seq (.region xdc 0 []) (.seq (.region xdd 0 []) .ret)) .skip)) (.seq (.region xde 0 []) .ret)))))))
theorem ziy : qg s144.eq_1 := qh s144.eq_1
theorem x0u : qa xc5.eq_1 := qc
theorem x0v : qa xc6.eq_1 := qc
theorem x0w : qa xc7.eq_1 := qc
theorem x0x : qa xc8.eq_1 := qc
theorem x0y : qa xc9.eq_1 := qc
theorem x0z : qa xda.eq_1 := qc
theorem x00 : qa xdb.eq_1 := qc
theorem x01 : qa xdc.eq_1 := qc
theorem x02 : qa xdd.eq_1 := qc
theorem x03 : qa xde.eq_1 := qc
attribute [go_sem] x0u x0v x0w x0x x0y x0z x00 x01 x02 x03 ziy
theorem zha : FnIs Try.prog 144 Try.f144 [] news s144 [.tmp 4] 33 := x5 follows Try.func144
def xdf : List SOper := [
 ⟨some 2, .box 2 (.t 0), none⟩,
 ⟨some 3, .box 1 (.t 1), none⟩,
 ⟨some 4, .mov (.k (.d .nilsl)), none⟩]
def xdg : List SOper := [
 ⟨some 5, .load none (.t 2), none⟩,
 ⟨some 6, .mkFunc (.func 149) [] [(.t 2), (.t 3)], none⟩,
 ⟨some 7, .call (.k (.d (.func (.func 148) [] []))) [(.t 5), (.t 6)], none⟩,
 ⟨some 4, .mov (.t 7), none⟩]
def s109 : SCode := (.seq (.region xdf 2 []) (.seq (.region xdg 0 []) .ret))
theorem ziz : qg s109.eq_1 := qh s109.eq_1
theorem x04 : qa xdf.eq_1 := qc
theorem x05 : qa xdg.eq_1 := qc
attribute [go_sem] x04 x05 ziz
theorem zhb : FnIs Try.prog 109 Try.f109 [] news s109 [.tmp 4] 8 := x5 follows Try.func109
def xdh : List SOper := [
 ⟨some 2, .box 2 (.t 0), none⟩,
 ⟨some 3, .box 1 (.t 1), none⟩,
 ⟨some 4, .mov (.k (.d .nilsl)), none⟩]
def xdi : List SOper := [
 ⟨some 5, .load none (.t 2), none⟩,
 ⟨some 6, .mkFunc (.func 145) [] [(.t 2), (.t 3)], none⟩,
 ⟨some 7, .call (.k (.d (.func (.func 144) [] []))) [(.t 5), (.t 6)], none⟩,
 ⟨some 4, .mov (.t 7), none⟩]
def s108 : SCode := (.seq (.region xdh 2 []) (.seq (.region xdi 0 []) .ret))
theorem zi0 : qg s108.eq_1 := qh s108.eq_1
theorem x06 : qa xdh.eq_1 := qc
theorem x07 : qa xdi.eq_1 := qc
attribute [go_sem] x06 x07 zi0
theorem zhc : FnIs Try.prog 108 Try.f108 [] news s108 [.tmp 4] 8 := x5 follows Try.func108
end
theorem x08 (r : Rd) (hr : r.Ok) : ql Try.prog 147 [.d (.ptr 0 0)] [rdO r] (.d (.agg (zb (rAV r).1))) [rdO (rAV r).2] := by
 have hb := qag r 1 2 hr
 have hi := (zu hr 1 2).1
 unfold rAV
 generalize qw 1 2 r = x at hb hi ⊢
 obtain ⟨k, r1⟩ := x
 simp only at hi
 simp only [rdO] at hb
 refine zg4.go ?_
 try (refine ev1 @rdO.eq_1 ?_; try exact True.intro)
 (repeat (with_reducible refine ob ?_)); refine clO [0] xh5 (hb) ?_ (hfit := by first | exact ⟨qd, trivial⟩ | exact ⟨qd, qd, trivial⟩ | (refine ev2 @zb.eq_1 @encI.eq_1 ?_; try exact True.intro))
 try (refine ev ?_; try exact True.intro)
 cases hf : r1.failed
 ·(repeat (with_reducible refine ob ?_)); refine no_ ?_
  try (refine ev ?_; try exact True.intro)
  refine jj _ (fun h => ?_) (fun h => ?_)
  ·have hk : k = 1 := by simpa using h
   have hI := qm5 r1 hi
   simp only [rdO, hf] at hI
   try (refine ev ?_; try exact True.intro)
   (repeat (with_reducible refine ob ?_)); refine clO [0] xvy (hI) ?_ (hfit := by first | exact ⟨qd, trivial⟩ | exact ⟨qd, qd, trivial⟩ | (refine ev2 @zb.eq_1 @encI.eq_1 ?_; try exact True.intro))
   subst hk
   simp only [if_true, Bool.false_eq_true, if_false, zb]
   try (refine ev ?_; try exact True.intro)
  ·have hk : k ≠ 1 := by simpa using h
   have hB := qlk r1 40 hi (by decide)
   simp only [rdO, hf] at hB
   try (refine ev ?_; try exact True.intro)
   (repeat (with_reducible refine ob ?_)); refine clO [0] zda (hB) ?_ (hfit := by first | exact ⟨qd, trivial⟩ | exact ⟨qd, qd, trivial⟩ | (refine ev2 @zb.eq_1 @encI.eq_1 ?_; try exact True.intro))
   simp only [hk, Bool.false_eq_true, if_false, zb]
   try (refine ev ?_; try exact True.intro)
 ·(repeat (with_reducible refine ob ?_)); refine qdb ?_
  simp only [if_true, hf, zb]
  try (refine ev ?_; try exact True.intro)
def Sli {α : Type} (es : Nat) (enc : α → List D) (k : FuncId) (n : Int) (x : Nat × List α × Rd) : St :=
 ⟨[(0, true, .d (.ptr 0 0)), (2, true, .d (.func (.func k) [.ptr 0 0] [])), (7, true, .d (.int .i64 n)), (8, true, .own 0 es (x.2.1.map enc)), (9, true, .d (.int .i64 (x.1 : Nat)))], [rdO x.2.2], [0], 1⟩
set_option maxRecDepth 10000 in
theorem q4e (r : Rd) (most : Nat) (hr : r.Ok) (hm : most ≤ 1000) : ql Try.prog 150 [.d (.ptr 0 0), .d (.int .i64 most), .d (.func (.func 106) [.ptr 0 0] [])] [rdO r] (.d (.sl 1 ((qbi most rInt r).1.map encI))) [rdO (qbi most rInt r).2] := by
 have hb := qag r 0 most hr
 have hi := (zu hr 0 most).1
 have hin := w6 (r := r) (lo := 0) (hi := most)
 unfold qbi
 generalize qw 0 most r = x at hb hi hin ⊢
 obtain ⟨n, r1⟩ := x
 simp only at hi hin
 simp only [rdO] at hb
 refine zg5.go ?_
 try (refine ev1 @rdO.eq_1 ?_; try exact True.intro)
 (repeat (with_reducible refine ob ?_)); refine clO [0] xh5 (hb) ?_ (hfit := by first | exact ⟨qd, trivial⟩ | exact ⟨qd, qd, trivial⟩ | (refine ev2 @zb.eq_1 @encI.eq_1 ?_; try exact True.intro))
 try (refine ev ?_; try exact True.intro)
 refine qy (fun x : { x : Nat × List Int × Rd // x.1 ≤ most ∧ x.2.1.length = x.1 ∧ x.2.2.Ok ∧ (x.2.1 ++ (we rInt (n.toNat - x.1) x.2.2).1, (we rInt (n.toNat - x.1) x.2.2).2) = we rInt n.toNat r1 ∧ (x.2.2.failed = false → n ≤ most) } => Sli 1 encI 106 n x.val) (fun x => most + 1 - x.val.1) ⟨(0, [], r1), Nat.zero_le _, rfl, hi, by simp, fun h => (hin h).2⟩ ?_ (fun x => ?_)
 ·try (refine ev4 @Sli.eq_1 @rdO.eq_1 @List.map_nil.{0,0} @Int.ofNat_zero ?_; try exact True.intro)
 obtain ⟨⟨i, l, b, p, f⟩, h1, h2, h3, h4, h5⟩ := x
 simp only at h1 h2 h3 h4 h5
 cases f
 ·have hn := h5 rfl
  try (refine ev2 @Sli.eq_1 @rdO.eq_1 ?_; try exact True.intro)
  refine jj _ (fun h => ?_) (fun h => ?_)
  ·have hlt : i < n.toNat := by simp at h; omega
   have hv := qm5 ⟨b, p, false⟩ h3
   obtain ⟨v1, v2⟩ := qay h3
   have hsn : n.toNat - i = (n.toNat - (i + 1)) + 1 := by omega
   rw [hsn, we, if_neg (by simp)] at h4
   simp only [rdO, encI] at hv
   try (refine ev ?_; try exact True.intro)
   (repeat (with_reducible refine ob ?_)); refine clO [0] xvy (hv) ?_ (hfit := by first | exact ⟨qd, trivial⟩ | exact ⟨qd, qd, trivial⟩ | (refine ev2 @zb.eq_1 @encI.eq_1 ?_; try exact True.intro))
   try (refine ev ?_; try exact True.intro)
   (repeat (with_reducible refine ob ?_))
   refine ⟨⟨(i + 1, l ++ [(rInt ⟨b, p, false⟩).1], (rInt ⟨b, p, false⟩).2), by simp only; omega, by simp [h2], v1, by simpa using h4, fun _ => hn⟩, ?_, by simp only; omega⟩
   try (refine ev7 @Sli.eq_1 @rdO.eq_1 @List.map_append.{0,0} @List.map_cons.{0,0} @List.map_nil.{0,0} @encI.eq_1 (qv (show i < 9223372036854775807 by omega)) ?_; try exact True.intro)
  ·have hge : n.toNat - i = 0 := by simp at h; omega
   rw [hge, we, List.append_nil] at h4
   try (refine ev1 h4.symm ?_; try exact True.intro)
 ·have hx : we rInt (n.toNat - i) ⟨b, p, true⟩ = ([], ⟨b, p, true⟩) := by
   cases n.toNat - i with
   | zero => rfl
   | succ k => rw [we, if_pos rfl]
  rw [hx, List.append_nil] at h4
  try (refine ev2 @Sli.eq_1 @rdO.eq_1 ?_; try exact True.intro)
  refine jj _ (fun h => ?_) (fun h => ?_)
  ·simp at h
  ·try (refine ev1 h4.symm ?_; try exact True.intro)
set_option maxRecDepth 10000 in
theorem q4f (r : Rd) (most : Nat) (hr : r.Ok) (hm : most ≤ 1000) : ql Try.prog 146 [.d (.ptr 0 0), .d (.int .i64 most), .d (.func (.func 147) [.ptr 0 0] [])] [rdO r] (.d (.sl 3 ((qbi most rAV r).1.map zb))) [rdO (qbi most rAV r).2] := by
 have hb := qag r 0 most hr
 have hi := (zu hr 0 most).1
 have hin := w6 (r := r) (lo := 0) (hi := most)
 unfold qbi
 generalize qw 0 most r = x at hb hi hin ⊢
 obtain ⟨n, r1⟩ := x
 simp only at hi hin
 simp only [rdO] at hb
 refine zg6.go ?_
 try (refine ev1 @rdO.eq_1 ?_; try exact True.intro)
 (repeat (with_reducible refine ob ?_)); refine clO [0] xh5 (hb) ?_ (hfit := by first | exact ⟨qd, trivial⟩ | exact ⟨qd, qd, trivial⟩ | (refine ev2 @zb.eq_1 @encI.eq_1 ?_; try exact True.intro))
 try (refine ev ?_; try exact True.intro)
 refine qy (fun x : { x : Nat × List AV × Rd // x.1 ≤ most ∧ x.2.1.length = x.1 ∧ x.2.2.Ok ∧ (x.2.1 ++ (we rAV (n.toNat - x.1) x.2.2).1, (we rAV (n.toNat - x.1) x.2.2).2) = we rAV n.toNat r1 ∧ (x.2.2.failed = false → n ≤ most) } => Sli 3 zb 147 n x.val) (fun x => most + 1 - x.val.1) ⟨(0, [], r1), Nat.zero_le _, rfl, hi, by simp, fun h => (hin h).2⟩ ?_ (fun x => ?_)
 ·try (refine ev4 @Sli.eq_1 @rdO.eq_1 @List.map_nil.{0,0} @Int.ofNat_zero ?_; try exact True.intro)
 obtain ⟨⟨i, l, b, p, f⟩, h1, h2, h3, h4, h5⟩ := x
 simp only at h1 h2 h3 h4 h5
 cases f
 ·have hn := h5 rfl
  try (refine ev2 @Sli.eq_1 @rdO.eq_1 ?_; try exact True.intro)
  refine jj _ (fun h => ?_) (fun h => ?_)
  ·have hlt : i < n.toNat := by simp at h; omega
   have hv := x08 ⟨b, p, false⟩ h3
   obtain ⟨v1, v2⟩ := qsl h3
   have hsn : n.toNat - i = (n.toNat - (i + 1)) + 1 := by omega
   rw [hsn, we, if_neg (by simp)] at h4
   simp only [rdO, zb] at hv
   try (refine ev ?_; try exact True.intro)
   (repeat (with_reducible refine ob ?_)); refine clO [0] zg4 (hv) ?_ (hfit := by first | exact ⟨qd, trivial⟩ | exact ⟨qd, qd, trivial⟩ | (refine ev2 @zb.eq_1 @encI.eq_1 ?_; try exact True.intro))
   try (refine ev ?_; try exact True.intro)
   (repeat (with_reducible refine ob ?_))
   refine ⟨⟨(i + 1, l ++ [(rAV ⟨b, p, false⟩).1], (rAV ⟨b, p, false⟩).2), by simp only; omega, by simp [h2], v1, by simpa using h4, fun _ => hn⟩, ?_, by simp only; omega⟩
   try (refine ev7 @Sli.eq_1 @rdO.eq_1 @List.map_append.{0,0} @List.map_cons.{0,0} @List.map_nil.{0,0} @zb.eq_1 (qv (show i < 9223372036854775807 by omega)) ?_; try exact True.intro)
  ·have hge : n.toNat - i = 0 := by simp at h; omega
   rw [hge, we, List.append_nil] at h4
   try (refine ev1 h4.symm ?_; try exact True.intro)
 ·have hx : we rAV (n.toNat - i) ⟨b, p, true⟩ = ([], ⟨b, p, true⟩) := by
   cases n.toNat - i with
   | zero => rfl
   | succ k => rw [we, if_pos rfl]
  rw [hx, List.append_nil] at h4
  try (refine ev2 @Sli.eq_1 @rdO.eq_1 ?_; try exact True.intro)
  refine jj _ (fun h => ?_) (fun h => ?_)
  ·simp at h
  ·try (refine ev1 h4.symm ?_; try exact True.intro)
theorem q4g (r : Rd) (most : Nat) (hr : r.Ok) (hm : most ≤ 1000) : ql Try.prog 149 [.d (.ptr 1 0), .d (.ptr 2 0)] [rdO r, .row [.d (.ptr 0 0)], .row [.d (.int .i64 most)]] (.d (.sl 1 ((qbi most rInt r).1.map encI))) [rdO (qbi most rInt r).2, .row [.d (.ptr 0 0)], .row [.d (.int .i64 most)]] := by
 have hc := q4e r most hr hm
 simp only [rdO] at hc
 refine zg7.go ?_
 try (refine ev1 @rdO.eq_1 ?_; try exact True.intro)
 (repeat (with_reducible refine ob ?_)); refine clO [0] zg5 (hc) ?_ (hfit := by first | exact ⟨qd, trivial⟩ | exact ⟨qd, qd, trivial⟩ | (refine ev2 @zb.eq_1 @encI.eq_1 ?_; try exact True.intro))
 try (refine ev ?_; try exact True.intro)
theorem qvv (r : Rd) (most : Nat) (hr : r.Ok) (hm : most ≤ 1000) : ql Try.prog 145 [.d (.ptr 1 0), .d (.ptr 2 0)] [rdO r, .row [.d (.ptr 0 0)], .row [.d (.int .i64 most)]] (.d (.sl 3 ((qbi most rAV r).1.map zb))) [rdO (qbi most rAV r).2, .row [.d (.ptr 0 0)], .row [.d (.int .i64 most)]] := by
 have hc := q4f r most hr hm
 simp only [rdO] at hc
 refine zg8.go ?_
 try (refine ev1 @rdO.eq_1 ?_; try exact True.intro)
 (repeat (with_reducible refine ob ?_)); refine clO [0] zg6 (hc) ?_ (hfit := by first | exact ⟨qd, trivial⟩ | exact ⟨qd, qd, trivial⟩ | (refine ev2 @zb.eq_1 @encI.eq_1 ?_; try exact True.intro))
 try (refine ev ?_; try exact True.intro)
theorem qsm (r : Rd) (most : Nat) (hr : r.Ok) (hm : most ≤ 1000) : ql Try.prog 148 [.d (.ptr 0 0), .d (.func (.func 149) [] [.ptr 1 0, .ptr 2 0])] [rdO r, .row [.d (.ptr 0 0)], .row [.d (.int .i64 most)]] (.d (.sl 1 ((qb6 most r).1.map encI))) [rdO (qb6 most r).2, .row [.d (.ptr 0 0)], .row [.d (.int .i64 most)]] := by
 have hc := q4g r most hr hm
 unfold qb6
 unfold qaf
 obtain ⟨b, p, f⟩ := r
 simp only [rdO] at hc
 refine zg9.go ?_
 try (refine ev1 @rdO.eq_1 ?_; try exact True.intro)
 cases f
 ·try (refine ev ?_; try exact True.intro)
  (repeat (with_reducible refine ob ?_)); refine no_ ?_
  try (refine ev ?_; try exact True.intro)
  (repeat (with_reducible refine ob ?_)); refine clO [0, 1, 2] zg7 (hc) ?_ (hfit := by first | exact ⟨qd, trivial⟩ | exact ⟨qd, qd, trivial⟩ | (refine ev2 @zb.eq_1 @encI.eq_1 ?_; try exact True.intro))
  try (refine ev ?_; try exact True.intro)
  cases hf : (qbi most rInt ⟨b, p, false⟩).2.failed
  ·try (refine ev ?_; try exact True.intro)
   (repeat (with_reducible refine ob ?_)); refine no_ ?_
   try simp only [hf, if_false, go_sem, Nat.reduceAdd, Nat.reduceMul, Nat.reduceSub, Nat.reduceEqDiff, Nat.reduceLT, Nat.reduceLeDiff, Nat.reduceBEq, reduceIte, reduceCtorEq, Int.reduceAdd, Int.reduceLT, Int.reduceLE, Int.reduceGT, Int.reduceGE, Int.reduceEq, Int.reduceNe, Int.reduceBEq, Int.reduceBNe, Int.reduceToNat, Int.reduceNeg]
  ·try (refine ev ?_; try exact True.intro)
   (repeat (with_reducible refine ob ?_)); refine qdb ?_
   try (refine ev2 @hf @List.map_nil.{0,0} ?_; try exact True.intro)
 ·try (refine ev ?_; try exact True.intro)
  (repeat (with_reducible refine ob ?_)); refine qdb ?_
  try (refine ev1 @List.map_nil.{0,0} ?_; try exact True.intro)
theorem qm7 (r : Rd) (most : Nat) (hr : r.Ok) (hm : most ≤ 1000) : ql Try.prog 144 [.d (.ptr 0 0), .d (.func (.func 145) [] [.ptr 1 0, .ptr 2 0])] [rdO r, .row [.d (.ptr 0 0)], .row [.d (.int .i64 most)]] (.d (.sl 3 ((qdd most r).1.map zb))) [rdO (qdd most r).2, .row [.d (.ptr 0 0)], .row [.d (.int .i64 most)]] := by
 have hc := qvv r most hr hm
 unfold qdd
 unfold qaf
 obtain ⟨b, p, f⟩ := r
 simp only [rdO] at hc
 refine zha.go ?_
 try (refine ev1 @rdO.eq_1 ?_; try exact True.intro)
 cases f
 ·try (refine ev ?_; try exact True.intro)
  (repeat (with_reducible refine ob ?_)); refine no_ ?_
  try (refine ev ?_; try exact True.intro)
  (repeat (with_reducible refine ob ?_)); refine clO [0, 1, 2] zg8 (hc) ?_ (hfit := by first | exact ⟨qd, trivial⟩ | exact ⟨qd, qd, trivial⟩ | (refine ev2 @zb.eq_1 @encI.eq_1 ?_; try exact True.intro))
  try (refine ev ?_; try exact True.intro)
  cases hf : (qbi most rAV ⟨b, p, false⟩).2.failed
  ·try (refine ev ?_; try exact True.intro)
   (repeat (with_reducible refine ob ?_)); refine no_ ?_
   try simp only [hf, if_false, go_sem, Nat.reduceAdd, Nat.reduceMul, Nat.reduceSub, Nat.reduceEqDiff, Nat.reduceLT, Nat.reduceLeDiff, Nat.reduceBEq, reduceIte, reduceCtorEq, Int.reduceAdd, Int.reduceLT, Int.reduceLE, Int.reduceGT, Int.reduceGE, Int.reduceEq, Int.reduceNe, Int.reduceBEq, Int.reduceBNe, Int.reduceToNat, Int.reduceNeg]
  ·try (refine ev ?_; try exact True.intro)
   (repeat (with_reducible refine ob ?_)); refine qdb ?_
   try (refine ev2 @hf @List.map_nil.{0,0} ?_; try exact True.intro)
 ·try (refine ev ?_; try exact True.intro)
  (repeat (with_reducible refine ob ?_)); refine qdb ?_
  try (refine ev1 @List.map_nil.{0,0} ?_; try exact True.intro)
theorem qz4 (r : Rd) (most : Nat) (hr : r.Ok) (hm : most ≤ 1000) : ql Try.prog 109 [.d (.ptr 0 0), .d (.int .i64 most)] [rdO r] (.d (.sl 1 ((qb6 most r).1.map encI))) [rdO (qb6 most r).2] := by
 have hc := qsm r most hr hm
 simp only [rdO] at hc
 refine zhb.go ?_
 try (refine ev1 @rdO.eq_1 ?_; try exact True.intro)
 refine clO [0, 1, 2] zg9 hc ?_
 try (refine ev ?_; try exact True.intro)
theorem q4h (r : Rd) (most : Nat) (hr : r.Ok) (hm : most ≤ 1000) : ql Try.prog 108 [.d (.ptr 0 0), .d (.int .i64 most)] [rdO r] (.d (.sl 3 ((qdd most r).1.map zb))) [rdO (qdd most r).2] := by
 have hc := qm7 r most hr hm
 simp only [rdO] at hc
 refine zhc.go ?_
 try (refine ev1 @rdO.eq_1 ?_; try exact True.intro)
 refine clO [0, 1, 2] zha hc ?_
 try (refine ev ?_; try exact True.intro)
theorem qvw {r : Rd} (h : r.Ok) (most : Int) : (qb6 most r).2.Ok ∧ (qb6 most r).2.b = r.b := qbg h (qfg (fun _ h => qay h) h most)
theorem qz5 {r : Rd} (h : r.Ok) (most : Int) : (qdd most r).2.Ok ∧ (qdd most r).2.b = r.b := qbg h (qfg (fun _ h => qsl h) h most)
theorem qfi {α : Type} {f : Rd → List α × Rd} {k : Nat} (h : ∀ r, (f r).1.length ≤ k) (r : Rd) : (qaf [] f r).1.length ≤ k := by
 unfold qaf
 split
 ·exact Nat.zero_le _
 ·split
  ·exact Nat.zero_le _
  ·exact h r
end Go.Proofs.Ytinnaedmdoengaa
namespace Go.Proofs.Ytinnaedmdoengaa
open Go.Abs
set_option linter.unusedSimpArgs false
set_option linter.unusedVariables false
def qfj {α : Type} (d : List UInt8 → Option (α × List UInt8)) : Nat → List UInt8 → Option (List α × List UInt8)
 | 0, l => some ([], l)
 | n + 1, l => match d l with
  | none => none
  | some (v, l1) => match qfj d n l1 with
   | none => none
   | some (vs, l2) => some (v :: vs, l2)
def qhl {α : Type} (most : Int) (d : List UInt8 → Option (α × List UInt8)) (l0 : List UInt8) : Option (List α × List UInt8) := match xk 0 most l0 with
 | none => none
 | some (n, l) => qfj d n.toNat l
def dAV (l0 : List UInt8) : Option (AV × List UInt8) := match xk 1 2 l0 with
 | none => none
 | some (k, l) => if k = 1 then (match dInt l with
   | none => none
   | some (n, l1) => some (⟨k, n, []⟩, l1)) else (match wt 40 l with
   | none => none
   | some (s, l1) => some (⟨k, 0, s⟩, l1))
theorem qp2 {α : Type} {d : List UInt8 → Option (α × List UInt8)} {w : α → List UInt8} (l : List UInt8) : ∀ xs : List α, (∀ x ∈ xs, ∀ l, d (w x ++ l) = some (x, l)) → qfj d xs.length (xs.flatMap w ++ l) = some (xs, l)
 | [], _ => rfl
 | x :: xs, h => by
  have ih := qp2 l xs fun y hy => h y (by simp [hy])
  simp only [List.length_cons, qfj, List.flatMap_cons, List.append_assoc, h x (by simp), ih]
theorem qcx {lo hi n : Int} (h1 : lo ≤ n) (h2 : n ≤ hi) (hn : I64 n) (l : List UInt8) : xk lo hi (wInt n ++ l) = some (n, l) := by
 unfold xk
 rw [w7 hn]
 simp only
 rw [if_neg (by omega)]
theorem qhb {lo hi n : Int} {l0 l : List UInt8} (h : xk lo hi l0 = some (n, l)) : l0 = wInt n ++ l ∧ lo ≤ n ∧ n ≤ hi ∧ I64 n := by
 unfold xk at h
 split at h
 ·rename_i hd
  split at h
  ·cases h
  ·cases h
   obtain ⟨h1, h2⟩ := qhu hd
   exact ⟨h2, by omega, by omega, h1⟩
 ·cases h
theorem qp4 {α : Type} {most : Nat} (hm : most ≤ 1000) {d : List UInt8 → Option (α × List UInt8)} {w : α → List UInt8} {xs : List α} (hl : xs.length ≤ most) (h : ∀ x ∈ xs, ∀ l, d (w x ++ l) = some (x, l)) (l : List UInt8) : qhl most d (wInt xs.length ++ xs.flatMap w ++ l) = some (xs, l) := by
 unfold qhl
 rw [List.append_assoc, qcx (by omega) (by omega) (xw (by omega))]
 simp only [Int.toNat_natCast]
 exact qp2 l xs h
theorem xgw {v : AV} (hv : v.Sm) (hp : qac v = true) (l : List UInt8) : dAV (wAV v ++ l) = some (v, l) := by
 obtain ⟨h1, h2, h3⟩ := hv
 obtain ⟨k, n, s⟩ := v
 simp only at h1 h2 h3
 unfold dAV wAV
 by_cases hk : k = 1
 ·subst hk
  have hs : s = [] := by simpa [qac] using hp
  rw [if_pos rfl, List.append_assoc, qcx (by decide) (by decide) h1]
  simp only [if_true]
  rw [w7 h2]
  simp only [hs]
 ·by_cases hk2 : k = 2
  ·subst hk2
   have hs : n = 0 ∧ (s.length : Int) ≤ 40 := by simpa [qac] using hp
   rw [if_neg hk, if_pos rfl, List.append_assoc, qcx (by decide) (by decide) h1]
   simp only
   rw [if_neg hk, qgf hs.2 (by decide)]
   simp only [hs.1]
  ·simp [qac, hk, hk2] at hp
theorem xgx {l0 : List UInt8} {v : AV} {l : List UInt8} (h : dAV l0 = some (v, l)) : l0 = wAV v ++ l ∧ v.Sm := by
 unfold dAV at h
 cases h1 : xk 1 2 l0 with
 | none => rw [h1] at h; cases h
 | some x =>
  obtain ⟨k, l1⟩ := x
  rw [h1] at h
  obtain ⟨a1, a2, a3, a4⟩ := qhb h1
  simp only at h
  by_cases hk : k = 1
  ·rw [if_pos hk] at h
   cases h2 : dInt l1 with
   | none => rw [h2] at h; cases h
   | some x =>
    obtain ⟨n, l2⟩ := x
    rw [h2] at h
    cases h
    obtain ⟨b1, b2⟩ := qhu h2
    refine ⟨?_, a4, b1, by simp⟩
    rw [a1, b2, wAV, if_pos hk, List.append_assoc]
  ·rw [if_neg hk] at h
   cases h2 : wt 40 l1 with
   | none => rw [h2] at h; cases h
   | some x =>
    obtain ⟨s, l2⟩ := x
    rw [h2] at h
    cases h
    obtain ⟨b1, b2⟩ := qgg h2
    refine ⟨?_, a4, by unfold I64; simp, by simp only; omega⟩
    rw [a1, b1, wAV, if_neg hk, if_pos (show k = 2 by omega), List.append_assoc]
theorem q4i : qhk dAV := fun _ _ _ h => ⟨_, (xgx h).1⟩
theorem qz6 {α : Type} {d : List UInt8 → Option (α × List UInt8)} {f : Rd → α × Rd} (ht : qhk d) (hf : ∀ r : Rd, r.Ok → r.failed = false → Got (d (r.b.drop r.pos)) r.b (f r)) :
  ∀ (n : Nat) {r : Rd}, r.Ok → r.failed = false → Got (qfj d n (r.b.drop r.pos)) r.b (we f n r)
 | 0, r, hr, h0 => by
  have := hr.pos
  simp only [Got, qfj, we, List.length_drop]
  rw [show r.b.length - (r.b.length - r.pos) = r.pos by omega, ← h0]
 | n + 1, r, hr, h0 => by
  have h1 := hf r hr h0
  rw [qfj, we, if_neg (by simp [h0])]
  cases hd : d (r.b.drop r.pos) with
  | none =>
   rw [hd] at h1
   simp only [Got] at h1 ⊢
   cases n with
   | zero => exact h1
   | succ n => rw [we, if_pos h1]; exact h1
  | some x =>
   obtain ⟨v, l⟩ := x
   rw [hd] at h1
   have h1 := yv h1
   obtain ⟨p, hp⟩ := ht _ _ _ hd
   obtain ⟨t1, t2⟩ := ki hr.pos hp
   have ih := qz6 ht hf n (r := ⟨r.b, r.b.length - l.length, false⟩) ⟨hr.len, Nat.sub_le _ _⟩ rfl
   simp only [t1] at ih
   rw [h1]
   simp only
   cases hm : qfj d n l with
   | none => rw [hm] at ih; exact ih
   | some x =>
    obtain ⟨vs, l2⟩ := x
    rw [hm] at ih
    have ih := yv ih
    simp only [Got, ih]
theorem qz7 {α : Type} {d : List UInt8 → Option (α × List UInt8)} {f : Rd → α × Rd} (ht : qhk d) (hf : ∀ r : Rd, r.Ok → r.failed = false → Got (d (r.b.drop r.pos)) r.b (f r)) (most : Int)
  {r : Rd} (hr : r.Ok) (h0 : r.failed = false) : Got (qhl most d (r.b.drop r.pos)) r.b (qbi most f r) := by
 have h1 := qc9 0 most hr h0
 unfold qhl qbi
 cases hd : xk 0 most (r.b.drop r.pos) with
 | none =>
  rw [hd] at h1
  simp only [Got] at h1 ⊢
  generalize qw 0 most r = y at h1 ⊢
  cases y.1.toNat with
  | zero => exact h1
  | succ n => rw [we, if_pos h1]; exact h1
 | some x =>
  obtain ⟨n, l⟩ := x
  rw [hd] at h1
  have h1 := yv h1
  obtain ⟨p, hp⟩ := ke _ _ _ _ _ hd
  obtain ⟨t1, t2⟩ := ki hr.pos hp
  have h2 := qz6 ht hf n.toNat (r := ⟨r.b, r.b.length - l.length, false⟩) ⟨hr.len, Nat.sub_le _ _⟩ rfl
  simp only [t1] at h2
  rw [h1]
  exact h2
theorem zez {r : Rd} (hr : r.Ok) (h0 : r.failed = false) : Got (dAV (r.b.drop r.pos)) r.b (rAV r) := by
 have h1 := qc9 1 2 hr h0
 unfold dAV rAV
 cases hd : xk 1 2 (r.b.drop r.pos) with
 | none =>
  rw [hd] at h1
  simp only [Got] at h1 ⊢
  rw [if_pos h1]; exact h1
 | some x =>
  obtain ⟨n, l⟩ := x
  rw [hd] at h1
  have h1 := yv h1
  obtain ⟨p, hp⟩ := ke _ _ _ _ _ hd
  obtain ⟨t1, t2⟩ := ki hr.pos hp
  have hr1 : (⟨r.b, r.b.length - l.length, false⟩ : Rd).Ok := ⟨hr.len, Nat.sub_le _ _⟩
  rw [h1]
  simp only [Bool.false_eq_true, if_false]
  by_cases hn : n = 1
  ·have h2 := qtm hr1 rfl
   simp only [t1] at h2
   rw [if_pos hn, if_pos hn]
   cases hd2 : dInt l with
   | none => rw [hd2] at h2; exact h2
   | some x =>
    obtain ⟨v, l2⟩ := x
    rw [hd2] at h2
    have h2 := yv h2
    simp only [Got, h2]
  ·have h2 := qpx 40 hr1 rfl
   simp only [t1] at h2
   rw [if_neg hn, if_neg hn]
   cases hd2 : wt 40 l with
   | none => rw [hd2] at h2; exact h2
   | some x =>
    obtain ⟨v, l2⟩ := x
    rw [hd2] at h2
    have h2 := yv h2
    simp only [Got, h2]
theorem q4j (most : Int) : qkk [] (qb6 most) (qhl most dInt) := y5 (fun r hr => (qfg (fun _ h => qay h) hr most).2) fun r hr hf => qz7 qpv (fun _ h1 h2 => qtm h1 h2) most hr hf
theorem xgy (most : Int) : qkk [] (qdd most) (qhl most dAV) := y5 (fun r hr => (qfg (fun _ h => qsl h) hr most).2) fun r hr hf => qz7 q4i (fun _ h1 h2 => zez h1 h2) most hr hf
end Go.Proofs.Ytinnaedmdoengaa
namespace Go.Proofs.Ytinnaedmdoengaa
open Go.Abs
set_option linter.unusedSimpArgs false
set_option linter.unusedVariables false
noncomputable section
set_option maxRecDepth 100000
def xdj : List SOper := [
 ⟨some 2, .mov (.k (.d .nilsl)), none⟩,
 ⟨some 3, .mov (.k (.d (.int .i64 0))), none⟩]
def xdk : List SOper := [
 ⟨some 5, .mov (.t 0), none⟩,
 ⟨some 6, .len (.t 5), none⟩,
 ⟨some 7, .bin .sub (.t 6) (.k (.d (.int .i64 8))), none⟩,
 ⟨some 4, .mov (.t 7), none⟩]
def xdl : List SOper := [
 ⟨some 8, .mov (.t 4), none⟩,
 ⟨some 9, .bin .lss (.t 8) (.k (.d (.int .i64 0))), none⟩]
def xdm : List SOper := [
 ⟨some 2, .mov (.k (.d .nilsl)), none⟩,
 ⟨some 3, .mov (.k (.d (.int .i64 4))), none⟩]
def xdn : List SOper := [
 ⟨some 10, .mov (.t 0), none⟩,
 ⟨some 11, .mov (.t 4), none⟩,
 ⟨some 12, .slice 1 (.t 10) none (some (.t 11)) none, none⟩,
 ⟨some 13, .call (.k (.d (.func (.func 143) [] []))) [(.t 12)], none⟩,
 ⟨some 14, .call (.k (.d (.func (.func 142) [] []))) [(.t 13)], none⟩,
 ⟨some 15, .mov (.t 0), none⟩,
 ⟨some 16, .mov (.t 4), none⟩,
 ⟨some 17, .slice 1 (.t 15) (some (.t 16)) none none, none⟩,
 ⟨some 18, .s2ap 8 (.t 17), none⟩,
 ⟨some 19, .load (some 8) (.t 18), none⟩,
 ⟨some 20, .eqAgg true [.int, .int, .int, .int, .int, .int, .int, .int] (.t 14) (.t 19), none⟩]
def xdo : List SOper := [
 ⟨some 2, .mov (.k (.d .nilsl)), none⟩,
 ⟨some 3, .mov (.k (.d (.int .i64 5))), none⟩]
def xdp : List SOper := [
 ⟨some 21, .mov (.t 0), none⟩,
 ⟨some 22, .mov (.t 4), none⟩,
 ⟨some 23, .slice 1 (.t 21) none (some (.t 22)) none, none⟩,
 ⟨some 24, .append false 1 1 (.k (.d .nilsl)) (.t 23), none⟩,
 ⟨some 2, .mov (.t 24), none⟩,
 ⟨some 3, .mov (.k (.d (.int .i64 0))), none⟩]
def s107 : SCode := (.seq (.region xdj 0 []) (.seq (.region xdk 0 []) (.seq (.seq (.region xdl 0 []) (.cond (.t 9) (.seq (.region xdm 0 []) .ret) .skip)) (.seq (.seq (.region xdn 0 [(3, 9), (4, 9)]) (.cond (.t 20) (.seq (.region xdo 0 []) .ret) .skip)) (.seq (.region xdp 0 []) .ret)))))
theorem zi1 : qg s107.eq_1 := qh s107.eq_1
theorem x1a : qa xdj.eq_1 := qc
theorem x1b : qa xdk.eq_1 := qc
theorem x1c : qa xdl.eq_1 := qc
theorem x1d : qa xdm.eq_1 := qc
theorem x1e : qa xdn.eq_1 := qc
theorem x1f : qa xdo.eq_1 := qc
theorem x1g : qa xdp.eq_1 := qc
attribute [go_sem] x1a x1b x1c x1d x1e x1f x1g zi1
theorem ze0 : FnIs Try.prog 107 Try.f107 [] news s107 [.tmp 2, .tmp 3] 25 := x5 follows Try.func107
def x1h : List SOper := [
 ⟨some 2, .alloc 1 [(.d (.int .i64 0)), (.d (.int .i64 0)), (.d (.int .i64 0)), (.d (.int .i64 0)), (.d (.int .i64 0)), (.d (.int .i64 0)), (.d (.int .i64 0)), (.d .nilsl), (.d .nilsl)], none⟩,
 ⟨some 3, .mov (.k (.d (.int .i64 0))), none⟩]
def x1i : List SOper := [
 ⟨some 11, .mov (.t 0), none⟩,
 ⟨some 12, .call (.k (.d (.func (.func 107) [] []))) [(.t 11)], none⟩,
 ⟨some 10, .mov (.t 12), none⟩,
 ⟨some 13, .extract 0 (.t 10), none⟩,
 ⟨some 14, .extract 1 (.t 10), none⟩,
 ⟨some 4, .mov (.t 13), none⟩,
 ⟨some 5, .mov (.t 14), none⟩]
def x1j : List SOper := [
 ⟨some 15, .mov (.t 5), none⟩,
 ⟨some 16, .bin .neq (.t 15) (.k (.d (.int .i64 0))), none⟩]
def x1k : List SOper := [
 ⟨some 17, .build [(.int .i64 0), (.int .i64 0), (.int .i64 0), (.int .i64 0), (.int .i64 0), (.int .i64 0), (.int .i64 0), .nilsl, .nilsl] [], none⟩,
 ⟨some 18, .mov (.t 5), none⟩,
 ⟨none, .store (some 9) (.t 2) (.t 17), none⟩,
 ⟨some 3, .mov (.t 18), none⟩]
def x1l : List SOper := [
 ⟨some 19, .mov (.t 4), none⟩,
 ⟨some 20, .call (.k (.d (.func (.func 61) [] []))) [(.t 19)], none⟩,
 ⟨some 6, .mov (.t 20), none⟩]
def x1m : List SOper := [
 ⟨some 7, .alloc 1 [(.d (.int .i64 0)), (.d (.int .i64 0)), (.d (.int .i64 0)), (.d (.int .i64 0)), (.d (.int .i64 0)), (.d (.int .i64 0)), (.d (.int .i64 0)), (.d .nilsl), (.d .nilsl)], none⟩]
def x1n : List SOper := [
 ⟨some 21, .faddr 0 (.t 7), none⟩,
 ⟨some 22, .faddr 1 (.t 7), none⟩,
 ⟨some 23, .faddr 2 (.t 7), none⟩,
 ⟨some 24, .faddr 3 (.t 7), none⟩,
 ⟨some 25, .faddr 4 (.t 7), none⟩,
 ⟨some 26, .faddr 5 (.t 7), none⟩,
 ⟨some 27, .faddr 6 (.t 7), none⟩,
 ⟨some 28, .buildSlice false 1 7 [.nilptr] [(0, 1, (.t 21)), (1, 1, (.t 22)), (2, 1, (.t 23)), (3, 1, (.t 24)), (4, 1, (.t 25)), (5, 1, (.t 26)), (6, 1, (.t 27))], none⟩,
 ⟨some 29, .len (.t 28), none⟩,
 ⟨some 30, .mov (.k (.d (.int .i64 0))), none⟩]
def x1o : List SOper := [
 ⟨some 31, .bin .lss (.t 30) (.t 29), none⟩]
def x1p : List SOper := [
 ⟨some 32, .iaddr 1 (.t 28) (.t 30), none⟩,
 ⟨some 33, .load none (.t 32), none⟩,
 ⟨some 9, .mov (.t 33), none⟩]
def x1q : List SOper := [
 ⟨some 34, .mov (.t 9), none⟩,
 ⟨some 35, .mov (.t 6), none⟩,
 ⟨some 36, .call (.k (.d (.func (.func 62) [] []))) [(.t 35)], none⟩,
 ⟨some 37, .nilCheck (.t 34), none⟩,
 ⟨none, .store none (.t 37) (.t 36), none⟩]
def xdq : List SOper := [
 ⟨some 38, .bin .add (.t 30) (.k (.d (.int .i64 1))), none⟩,
 ⟨some 30, .mov (.t 38), none⟩]
def qz8 : SCode := (.seq (.region x1o 0 []) (.seq (.cond (.t 31) .skip (.exit 0)) (.seq (.block 1 (.seq (.region x1p 0 []) (.region x1q 0 []))) (.region xdq 0 []))))
theorem x1r : qg qz8.eq_1 := qh qz8.eq_1
def xdr : List SOper := [
 ⟨some 39, .mov (.t 6), none⟩,
 ⟨some 40, .call (.k (.d (.func (.func 108) [] []))) [(.t 39), (.k (.d (.int .i64 4)))], none⟩,
 ⟨some 41, .mov (.t 6), none⟩,
 ⟨some 42, .call (.k (.d (.func (.func 109) [] []))) [(.t 41), (.k (.d (.int .i64 6)))], none⟩,
 ⟨some 43, .faddr 7 (.t 7), none⟩,
 ⟨none, .store none (.t 43) (.t 40), none⟩,
 ⟨some 44, .faddr 8 (.t 7), none⟩,
 ⟨none, .store none (.t 44) (.t 42), none⟩]
def xds : List SOper := [
 ⟨some 45, .mov (.t 6), none⟩,
 ⟨some 46, .call (.k (.d (.func (.func 84) [] []))) [(.t 45)], none⟩,
 ⟨some 47, .bin .neq (.t 46) (.k (.d (.int .i64 0))), none⟩,
 ⟨some 48, .mov (.t 47), none⟩,
 ⟨some 49, .load (some 9) (.t 7), some (48, false)⟩,
 ⟨some 50, .call (.k (.d (.func (.func 101) [] []))) [(.t 49)], some (48, false)⟩,
 ⟨some 51, .not (.t 50), some (48, false)⟩,
 ⟨some 52, .pick (.t 48) (.k (.d (.bool true))) (.t 51), none⟩]
def xdt : List SOper := [
 ⟨some 53, .build [(.int .i64 0), (.int .i64 0), (.int .i64 0), (.int .i64 0), (.int .i64 0), (.int .i64 0), (.int .i64 0), .nilsl, .nilsl] [], none⟩,
 ⟨none, .store (some 9) (.t 2) (.t 53), none⟩,
 ⟨some 3, .mov (.k (.d (.int .i64 4))), none⟩]
def xdu : List SOper := [
 ⟨some 54, .load (some 9) (.t 7), none⟩,
 ⟨none, .store (some 9) (.t 2) (.t 54), none⟩,
 ⟨some 3, .mov (.k (.d (.int .i64 0))), none⟩]
def s63 : SCode := (.seq (.region x1h 1 []) (.seq (.region x1i 0 []) (.seq (.seq (.region x1j 0 []) (.cond (.t 16) (.seq (.region x1k 0 []) .ret) .skip)) (.seq (.region x1l 1 []) (.seq (.region x1m 1 []) (.seq (.seq (.region x1n 0 []) (.block 0 (.loop qz8))) (.seq (.region xdr 0 []) (.seq (.seq (.region xds 0 []) (.cond (.t 52) (.seq (.region xdt 0 []) .ret) .skip)) (.seq (.region xdu 0 []) .ret)))))))))
theorem e63 : qg s63.eq_1 := qh s63.eq_1
theorem ze1 : qa x1h.eq_1 := qc
theorem ze2 : qa x1i.eq_1 := qc
theorem ze3 : qa x1j.eq_1 := qc
theorem ze4 : qa x1k.eq_1 := qc
theorem ze5 : qa x1l.eq_1 := qc
theorem ze6 : qa x1m.eq_1 := qc
theorem ze7 : qa x1n.eq_1 := qc
theorem ze8 : qa x1o.eq_1 := qc
theorem ze9 : qa x1p.eq_1 := qc
theorem zfa : qa x1q.eq_1 := qc
theorem x1s : qa xdq.eq_1 := qc
theorem x1t : qa xdr.eq_1 := qc
theorem x1u : qa xds.eq_1 := qc
theorem x1v : qa xdt.eq_1 := qc
theorem x1w : qa xdu.eq_1 := qc
attribute [go_sem] ze1 ze2 ze3 ze4 ze5 ze6 ze7 ze8 ze9 zfa x1s x1r x1t x1u x1v x1w e63
theorem F63 : FnIs Try.prog 63 Try.f63 [] news s63 [.cell 2 (some 9), .tmp 3] 55 := x5 follows Try.func63
end
def qbj (b : List UInt8) : List UInt8 × Int :=
 if b.length < 8 then ([], 4) else if be8 (fnv 14695981039346656037 (b.take (b.length - 8))) = b.drop (b.length - 8) then (b.take (b.length - 8), 0) else ([], 5)
theorem qlp : ∀ (s t : List UInt8), s.length = t.length → eqOk (List.replicate s.length .int) (s.map zh) (t.map zh) = true
 | [], [], _ => rfl
 | [], _ :: _, h => by simp at h
 | _ :: _, [], h => by simp at h
 | a :: s, b :: t, h => by
  have := qlp s t (by simpa using h)
  simpa [List.replicate_succ, eqOk, zh] using this
theorem qfk : ∀ (s t : List UInt8), jf (s.map zh) (t.map zh) = (s == t)
 | [], [] => rfl
 | [], _ :: _ => rfl
 | _ :: _, [] => rfl
 | a :: s, b :: t => by
  have h := qfk s t
  have e : qh1 (zh a) (zh b) = (a == b) := by
   rw [Bool.eq_iff_iff]
   simp only [qh1, zh, beq_iff_eq]
   exact ⟨fun h => UInt8.toNat_inj.1 (by omega), fun h => by rw [h]⟩
  simp only [List.map_cons, jf, h, e]
  rfl
theorem x1x (s t : List UInt8) (hs : s.length = 8) (ht : t.length = 8) : eqOk [.int, .int, .int, .int, .int, .int, .int, .int] (s.map zh) (t.map zh) = true := by
 have := qlp s t (hs.trans ht.symm)
 rw [hs] at this; exact this
theorem q4k (b : List UInt8) (hb : b.length ≤ 1000000000) : ql Try.prog 107 [.d (.sl 1 (qe b))] [] (.tup [.d (.sl 1 (qe (qbj b).1)), .d (.int .i64 (qbj b).2)]) [] := by
 have hw : IntKind.i64.wrap ((b.length : Int) - 8) = (b.length : Int) - 8 := xx (by unfold I64; omega)
 refine ze0.goT ?_
 try (refine ev1 @hw ?_; try exact True.intro)
 refine jj _ (fun h => ?_) (fun h => ?_)
 ·have hx : qbj b = ([], 4) := by unfold qbj; rw [if_pos (by simp at h; omega)]
  try (refine ev2 @hx @qx ?_; try exact True.intro)
 have h8 : 8 ≤ b.length := by simp at h; omega
 have hn : (b.length : Int) - 8 = ((b.length - 8 : Nat) : Int) := by omega
 generalize hm : b.length - 8 = m at hn
 have hlt := qo4 (h := 14695981039346656037) (by decide) (b.take m)
 have e2 : (b.drop m).take (b.length - m) = b.drop m := List.take_of_length_le (by rw [List.length_drop]; omega)
 have htl : (b.take m).length ≤ 1000000000 := by rw [List.length_take]; omega
 try (refine ev4 @hn @vj @wp @e2 ?_; try exact True.intro)
 have e1 : b.take (m - 0) = b.take m := rfl
 (repeat (with_reducible refine ob ?_)); first | refine cl xry (qhs (b.take m) htl) ?_ | refine clF xry (qhs (b.take m) htl) (fun _ => by (refine ev1 @qk.eq_1 ?_; try exact True.intro)) ?_
 try (refine ev ?_; try exact True.intro)
 (repeat (with_reducible refine ob ?_)); first | refine cl xr8 (qht _ hlt) ?_ | refine clF xr8 (qht _ hlt) (fun _ => by (refine ev1 @qk.eq_1 ?_; try exact True.intro)) ?_
 have hx1 : qbj b = if be8 (fnv 14695981039346656037 (b.take m)) = b.drop m then (b.take m, 0) else ([], 5) := by unfold qbj; rw [if_neg (by omega), hm]
 have ht : (b.drop m).length = 8 := by rw [List.length_drop]; omega
 have hA : List.take (b.length - m) (List.drop m (qe b)) = qe (b.drop m) := by rw [wp, vj, e2]
 have hF : List.take (m - 0) (qe b) = qe (b.take m) := by rw [vj, Nat.sub_zero]
 have h8' := k8 (fnv 14695981039346656037 (b.take m))
 generalize b.drop m = t at hx1 ht hA
 generalize fnv 14695981039346656037 (b.take m) = f at hx1 hlt h8'
 have hB : List.take 8 (qe t) = qe t := List.take_of_length_le (by rw [x9]; omega)
 have hC : List.take 8 (t.map zh) = t.map zh := List.take_of_length_le (by rw [List.length_map]; omega)
 have hD := x1x (be8 f) t h8' ht
 have hG := yt t
 have hE := qfk (be8 f) t
 try (refine ev7 @hA @hB @hG @hC @hD @hE @List.length_map.{0,0} ?_; try exact True.intro)
 (repeat (with_reducible refine ob ?_))
 refine jj _ (fun h => ?_) (fun h => ?_)
 ·have hx : qbj b = ([], 5) := by rw [hx1, if_neg (by simpa using h)]
  try (refine ev2 @hx @qx ?_; try exact True.intro)
 ·have hx : qbj b = (b.take m, 0) := by rw [hx1, if_pos (by simpa using h)]
  try (refine ev2 @hx @hF ?_; try exact True.intro)
  omega
def yk : Nat → Rd → List Int × Rd
 | 0, r => ([], r)
 | n + 1, r => ((yk n r).1 ++ [(qaj (yk n r).2).1], (qaj (yk n r).2).2)
theorem qp5 {r : Rd} (h : r.Ok) : ∀ n, (yk n r).2.Ok ∧ (yk n r).2.b = r.b ∧ (yk n r).1.length = n
 | 0 => ⟨h, rfl, rfl⟩
 | n + 1 => by
  have ih := qp5 h n
  have := qpu ih.1
  exact ⟨this.1, this.2.trans ih.2.1, by simp only [yk, List.length_append, ih.2.2, List.length_singleton]⟩
def pkOf (l : List Int) (v : List AV) (c : List Int) : Pk := ⟨l.getD 0 0, l.getD 1 0, l.getD 2 0, l.getD 3 0, l.getD 4 0, l.getD 5 0, l.getD 6 0, v, c⟩
def qp6 (s : List UInt8) : Pk × Rd :=
 (pkOf (yk 7 ⟨s, 0, false⟩).1 (qdd 4 (yk 7 ⟨s, 0, false⟩).2).1 (qb6 6 (qdd 4 (yk 7 ⟨s, 0, false⟩).2).2).1, (qb6 6 (qdd 4 (yk 7 ⟨s, 0, false⟩).2).2).2)
def yl (b : List UInt8) : Pk × Int :=
 if (qbj b).2 ≠ 0 then (default, (qbj b).2) else if (rEnd (qp6 (qbj b).1).2 != 0 || !qz (qp6 (qbj b).1).1) = true then (default, 4) else ((qp6 (qbj b).1).1, 0)
def q4l (r : Rd) (i : Nat) : St :=
 ⟨[(2, true, .d (.ptr 0 0)), (6, true, .d (.ptr 1 0)), (7, true, .d (.ptr 2 0)), (28, true, .d (.sl 1 [[.ptr 2 0], [.ptr 2 1], [.ptr 2 2], [.ptr 2 3], [.ptr 2 4], [.ptr 2 5], [.ptr 2 6]])), (29, true, .d (.int .i64 7)), (30, true, .d (.int .i64 (i : Nat)))],
  [.row ((qk default).map .d), rdO (yk i r).2, .row (((((yk i r).1 ++ List.replicate (7 - i) 0).map (D.int .i64)) ++ [.nilsl, .nilsl]).map .d)], [], 1⟩
theorem q4m (f : Int → D) (A : List Int) (t : List D) (n : Int) {i : Nat} (hA : A.length = i) (hi : i < 7) :
  ((A ++ List.replicate (7 - i) 0).map f ++ t).set i (f n) = ((A ++ [n]) ++ List.replicate (7 - (i + 1)) 0).map f ++ t := by
 have e : 7 - i = (7 - (i + 1)) + 1 := by omega
 rw [List.set_append_left _ _ (by simp; omega), ← List.map_set, List.set_append_right _ _ (by omega), hA, Nat.sub_self, e, List.replicate_succ, List.set_cons_zero, List.append_assoc, List.singleton_append]
theorem qvx (A : List Int) : D.noPtrL (A.map (D.int .i64) ++ [.nilsl, .nilsl]) = true := by
 rw [D.noPtrL_iff]
 intro d hd
 simp only [List.mem_append, List.mem_map, List.mem_cons, List.not_mem_nil, or_false] at hd
 rcases hd with ⟨n, _, rfl⟩ | rfl | rfl <;> rfl
theorem zfb {A : List Int} (h : A.length = 7) : ∃ a0 a1 a2 a3 a4 a5 a6, A = [a0, a1, a2, a3, a4, a5, a6] := by
 match A, h with
 | [a0, a1, a2, a3, a4, a5, a6], _ => exact ⟨a0, a1, a2, a3, a4, a5, a6, rfl⟩
theorem qz9 (b : List UInt8) : (qbj b).1.length ≤ b.length := by
 unfold qbj
 split
 ·exact Nat.zero_le _
 ·split
  ·simp only [List.length_take]; omega
  ·exact Nat.zero_le _
set_option maxRecDepth 10000 in
theorem qvy (b : List UInt8) (hb : b.length ≤ 1000000000) : ql Try.prog 63 [.d (.sl 1 (qe b))] [] (.tup [.d (.agg (qk (yl b).1)), .d (.int .i64 (yl b).2)]) [] := by
 have hop := q4k b hb
 have hln := qz9 b
 unfold yl
 generalize qbj b = x at hop hln ⊢
 obtain ⟨s, e⟩ := x
 simp only at hln
 refine F63.goT ?_
 try (refine ev ?_; try exact True.intro)
 (repeat (with_reducible refine ob ?_)); first | refine cl ze0 (hop) ?_ | refine clF ze0 (hop) (fun _ => by (refine ev1 @qk.eq_1 ?_; try exact True.intro)) ?_
 try (refine ev ?_; try exact True.intro)
 refine jj _ (fun h => ?_) (fun h => ?_)
 ·rw [if_pos (by simpa using h)]
  try (refine ev1 @qk.eq_1 ?_; try exact True.intro)
  exact ⟨rfl, rfl, rfl, rfl, rfl, rfl, rfl, rfl, rfl⟩
 have he : e = 0 := by simpa using h
 rw [if_neg (by simp [he])]
 have hnew := qm3 s (by omega)
 simp only [rdO] at hnew
 try (refine ev ?_; try exact True.intro)
 refine clO [1] F61 hnew ?_
 try (refine ev ?_; try exact True.intro)
 have hr0 : (⟨s, 0, false⟩ : Rd).Ok := ⟨by simp only; omega, Nat.zero_le _⟩
 refine qy (fun i : { i : Nat // i ≤ 7 } => q4l ⟨s, 0, false⟩ i.val) (fun i => 7 - i.val) ⟨0, Nat.zero_le _⟩ ?_ (fun i => ?_)
 ·try simp only [q4l, yk, rdO, Int.ofNat_zero, qk, go_sem, Nat.reduceAdd, Nat.reduceMul, Nat.reduceSub, Nat.reduceEqDiff, Nat.reduceLT, Nat.reduceLeDiff, Nat.reduceBEq, reduceIte, reduceCtorEq, Int.reduceAdd, Int.reduceLT, Int.reduceLE, Int.reduceGT, Int.reduceGE, Int.reduceEq, Int.reduceNe, Int.reduceBEq, Int.reduceBNe, Int.reduceToNat, Int.reduceNeg]
  exact ⟨rfl, rfl, rfl, rfl, rfl, rfl, rfl, rfl, rfl⟩
 obtain ⟨i, hi⟩ := i
 obtain ⟨v1, v2, v3⟩ := qp5 hr0 i
 have hI := qm6 _ v1
 have hsn : yk (i + 1) ⟨s, 0, false⟩ = ((yk i ⟨s, 0, false⟩).1 ++ [(qaj (yk i ⟨s, 0, false⟩).2).1], (qaj (yk i ⟨s, 0, false⟩).2).2) := rfl
 simp only [rdO] at hI
 try (refine ev2 @q4l.eq_1 @rdO.eq_1 ?_; try exact True.intro)
 refine jj _ (fun h => ?_) (fun h => ?_)
 ·have hil : i < 7 := by simp at h; omega
  have hg : List.getD [[D.ptr 2 0], [D.ptr 2 1], [D.ptr 2 2], [D.ptr 2 3], [D.ptr 2 4], [D.ptr 2 5], [D.ptr 2 6]] i [] = [D.ptr 2 i] := by
   have : i = 0 ∨ i = 1 ∨ i = 2 ∨ i = 3 ∨ i = 4 ∨ i = 5 ∨ i = 6 := by omega
   rcases this with rfl | rfl | rfl | rfl | rfl | rfl | rfl <;> rfl
  try (refine ev1 @hg ?_; try exact True.intro)
  (repeat (with_reducible refine ob ?_))
  (repeat (with_reducible refine ob ?_)); refine clO [1] F62 (hI) ?_ (hfit := by first | exact ⟨qd, trivial⟩ | exact ⟨qd, qd, trivial⟩ | (refine ev1 @qk.eq_1 ?_; try exact True.intro))
  try (refine ev ?_; try exact True.intro)
  have hset := q4m (D.int .i64) (yk i ⟨s, 0, false⟩).1 [.nilsl, .nilsl] (qaj (yk i ⟨s, 0, false⟩).2).1 v3 hil
  refine ⟨by rw [v3, List.length_replicate]; omega, ⟨i + 1, hil⟩, ?_, by dsimp only; omega⟩
  try (refine ev6 @q4l.eq_1 @rdO.eq_1 @hsn @hset @yu (qv (show i < 9223372036854775807 by omega)) ?_; try exact True.intro)
  exact D.okWL_noPtr (qvx _)
 ·have hil : i = 7 := by simp at h; omega
  subst hil
  unfold qp6
  generalize yk 7 ⟨s, 0, false⟩ = x at v1 v3 ⊢
  obtain ⟨A, r1⟩ := x
  simp only at v1 v3
  obtain ⟨a0, a1, a2, a3, a4, a5, a6, rfl⟩ := zfb v3
  have hV := q4h r1 4 v1 (by decide)
  have iV := (qz5 v1 4).1
  have lV := qfi (fun r => qfh (f := rAV) (most := 4) (r := r)) r1
  have hC := qz4 _ 6 iV (by decide)
  have iC := (qvw iV 6).1
  have lC := qfi (fun r => qfh (f := rInt) (most := 6) (r := r)) (qdd 4 r1).2
  have hE := qy8 _ iC
  simp only [rdO, Int.cast_ofNat_Int] at hV hC hE lV lC
  try (refine ev ?_; try exact True.intro)
  (repeat (with_reducible refine ob ?_)); refine clO [1] zhc (hV) ?_ (hfit := by first | exact ⟨qd, trivial⟩ | exact ⟨qd, qd, trivial⟩ | (refine ev1 @qk.eq_1 ?_; try exact True.intro))
  try (refine ev ?_; try exact True.intro)
  (repeat (with_reducible refine ob ?_)); refine clO [1] zhb (hC) ?_ (hfit := by first | exact ⟨qd, trivial⟩ | exact ⟨qd, qd, trivial⟩ | (refine ev1 @qk.eq_1 ?_; try exact True.intro))
  try (refine ev ?_; try exact True.intro)
  (repeat (with_reducible refine ob ?_)); refine clO [1] F84 (hE) ?_ (hfit := by first | exact ⟨qd, trivial⟩ | exact ⟨qd, qd, trivial⟩ | (refine ev1 @qk.eq_1 ?_; try exact True.intro))
  try (refine ev ?_; try exact True.intro)
  generalize hp : pkOf [a0, a1, a2, a3, a4, a5, a6] (qdd 4 r1).1 (qb6 6 (qdd 4 r1).2).1 = p
  have hpe : qk p = [.int .i64 a0, .int .i64 a1, .int .i64 a2, .int .i64 a3, .int .i64 a4, .int .i64 a5, .int .i64 a6, .sl 3 ((qdd 4 r1).1.map zb), .sl 1 ((qb6 6 (qdd 4 r1).2).1.map encI)] := by rw [← hp]; rfl
  have hpm : p.Sm := by rw [← hp]; exact ⟨Nat.le_trans lV (by decide), Nat.le_trans lC (by decide)⟩
  have hv := vq p hpm.v hpm.c
  rw [hpe] at hv
  (repeat (with_reducible refine ob ?_)); first | refine cl q6e (hv) ?_ | refine clF q6e (hv) (fun _ => by (refine ev1 @qk.eq_1 ?_; try exact True.intro)) ?_
  try (refine ev ?_; try exact True.intro)
  (repeat (with_reducible refine ob ?_))
  refine jj _ (fun h => ?_) (fun h => ?_)
  ·rw [if_pos h]
   try (refine ev1 @qk.eq_1 ?_; try exact True.intro)
   exact ⟨rfl, rfl, rfl, rfl, rfl, rfl, rfl, rfl, rfl⟩
  ·rw [if_neg (by rw [h]; simp)]
   try (refine ev2 @hpe @qe0 ?_; try exact True.intro)
end Go.Proofs.Ytinnaedmdoengaa
namespace Go.Proofs.Ytinnaedmdoengaa
open Go.Abs
set_option linter.unusedSimpArgs false
set_option linter.unusedVariables false
theorem xgz (s : List UInt8) : (((s.length : Nat) : Int) == 0) = (s == []) := by cases s <;> simp <;> omega
noncomputable section
set_option maxRecDepth 100000
def x1y : List SOper := [
 ⟨some 1, .box 1 (.t 0), none⟩,
 ⟨some 2, .mov (.k (.d .nilsl)), none⟩]
def x1z : List SOper := [
 ⟨some 3, .faddr 0 (.t 1), none⟩,
 ⟨some 4, .load none (.t 3), none⟩,
 ⟨some 5, .bin .eql (.t 4) (.k (.d (.int .i64 0))), none⟩,
 ⟨some 6, .mov (.t 5), none⟩,
 ⟨some 7, .faddr 1 (.t 1), some (6, true)⟩,
 ⟨some 8, .load none (.t 7), some (6, true)⟩,
 ⟨some 9, .bin .eql (.t 8) (.k (.d (.int .i64 0))), some (6, true)⟩,
 ⟨some 10, .pick (.t 6) (.t 9) (.k (.d (.bool false))), none⟩]
def x10 : List SOper := [
 ⟨some 2, .mov (.k (.d .nilsl)), none⟩]
def x11 : List SOper := [
 ⟨some 11, .faddr 0 (.t 1), none⟩,
 ⟨some 12, .load none (.t 11), none⟩,
 ⟨some 13, .call (.k (.d (.func (.func 71) [] []))) [(.k (.d .nilsl)), (.t 12)], none⟩,
 ⟨some 14, .faddr 1 (.t 1), none⟩,
 ⟨some 15, .load none (.t 14), none⟩,
 ⟨some 16, .call (.k (.d (.func (.func 71) [] []))) [(.t 13), (.t 15)], none⟩,
 ⟨some 2, .mov (.t 16), none⟩]
def s58 : SCode := (.seq (.region x1y 1 []) (.seq (.seq (.region x1z 0 []) (.cond (.t 10) (.seq (.region x10 0 []) .ret) .skip)) (.seq (.region x11 0 [(2, 4)]) .ret)))
theorem e58 : qg s58.eq_1 := qh s58.eq_1
theorem zfc : qa x1y.eq_1 := qc
theorem zfd : qa x1z.eq_1 := qc
theorem zfe : qa x10.eq_1 := qc
theorem zff : qa x11.eq_1 := qc
attribute [go_sem] zfc zfd zfe zff e58
theorem F58 : FnIs Try.prog 58 Try.f58 [] news s58 [.tmp 2] 17 := x5 follows Try.func58
def x12 : List SOper := [
 ⟨some 2, .box 1 (.t 0), none⟩,
 ⟨some 4, .mov (.k (.d .nilsl)), none⟩]
def x13 : List SOper := [
 ⟨some 9, .faddr 2 (.t 2), none⟩,
 ⟨some 10, .load none (.t 9), none⟩,
 ⟨some 11, .len (.t 10), none⟩,
 ⟨some 12, .mov (.k (.d (.int .i64 0))), none⟩]
def x14 : List SOper := [
 ⟨some 13, .bin .lss (.t 12) (.t 11), none⟩]
def x15 : List SOper := [
 ⟨some 14, .iaddr 9 (.t 10) (.t 12), none⟩,
 ⟨some 15, .load (some 9) (.t 14), none⟩,
 ⟨some 6, .alloc 1 [(.d (.int .i64 0)), (.d (.int .i64 0)), (.d (.int .i64 0)), (.d (.int .i64 0)), (.d (.int .i64 0)), (.d (.int .i64 0)), (.d (.int .i64 0)), (.d .nilsl), (.d .nilsl)], none⟩,
 ⟨none, .store (some 9) (.t 6) (.t 15), none⟩]
def x16 : List SOper := [
 ⟨some 16, .faddr 5 (.t 6), none⟩,
 ⟨some 17, .load none (.t 16), none⟩,
 ⟨some 18, .bin .rem (.t 17) (.k (.d (.int .i64 4))), none⟩,
 ⟨some 19, .mov (.t 1), none⟩,
 ⟨some 20, .bin .eql (.t 18) (.t 19), none⟩]
def x17 : List SOper := [
 ⟨some 22, .load (some 9) (.t 6), none⟩,
 ⟨some 23, .call (.k (.d (.func (.func 104) [] []))) [(.t 22)], none⟩,
 ⟨some 21, .mov (.t 23), none⟩,
 ⟨some 24, .extract 0 (.t 21), none⟩,
 ⟨some 25, .extract 1 (.t 21), none⟩,
 ⟨some 7, .mov (.t 24), none⟩,
 ⟨some 8, .mov (.t 25), none⟩]
def x18 : List SOper := [
 ⟨some 26, .mov (.t 7), none⟩,
 ⟨some 4, .mov (.t 26), none⟩]
def x19 : List SOper := [
 ⟨some 27, .bin .add (.t 12) (.k (.d (.int .i64 1))), none⟩,
 ⟨some 12, .mov (.t 27), none⟩]
def xg0 : SCode := (.seq (.region x14 0 []) (.seq (.cond (.t 13) .skip (.exit 0)) (.seq (.block 1 (.seq (.region x15 1 []) (.seq (.region x16 0 []) (.cond (.t 20) (.seq (.region x17 0 []) (.seq (.region x18 0 []) .ret)) .skip)))) (.region x19 0 []))))
theorem zfg : qg xg0.eq_1 := qh xg0.eq_1
def x2a : List SOper := [
 ⟨some 4, .mov (.k (.d .nilsl)), none⟩]
def s60 : SCode := (.seq (.region x12 1 []) (.seq (.seq (.region x13 0 []) (.block 0 (.loop xg0))) (.seq (.region x2a 0 []) .ret)))
theorem e60 : qg s60.eq_1 := qh s60.eq_1
theorem zfh : qa x12.eq_1 := qc
theorem zfi : qa x13.eq_1 := qc
theorem zfj : qa x14.eq_1 := qc
theorem zfk : qa x15.eq_1 := qc
theorem zfl : qa x16.eq_1 := qc
theorem zfm : qa x17.eq_1 := qc
theorem zfn : qa x18.eq_1 := qc
theorem zfo : qa x19.eq_1 := qc
theorem zfp : qa x2a.eq_1 := qc
attribute [go_sem] zfh zfi zfj zfk zfl zfm zfn zfo zfg zfp e60
theorem F60 : FnIs Try.prog 60 Try.f60 [] news s60 [.tmp 4] 28 := x5 follows Try.func60
def x2b : List SOper := [
 ⟨some 2, .mov (.k (.d (.str []))), none⟩]
def x2c : List SOper := [
 ⟨some 3, .mov (.t 0), none⟩,
 ⟨some 4, .bin .add (.t 3) (.k (.d (.str [47, 110]))), none⟩,
 ⟨some 2, .mov (.t 4), none⟩]
def s57 : SCode := (.seq (.region x2b 0 []) (.seq (.region x2c 0 []) .ret))
theorem e57 : qg s57.eq_1 := qh s57.eq_1
theorem zfq : qa x2b.eq_1 := qc
theorem zfr : qa x2c.eq_1 := qc
attribute [go_sem] zfq zfr e57
theorem F57 : FnIs Try.prog 57 Try.f57 [] news s57 [.tmp 2] 5 := x5 follows Try.func57
def x2d : List SOper := [
 ⟨some 4, .mov (.k (.d (.str []))), none⟩]
def x2e : List SOper := [
 ⟨some 5, .mov (.t 0), none⟩,
 ⟨some 6, .bin .add (.t 5) (.k (.d (.str [47]))), none⟩,
 ⟨some 7, .mov (.t 1), none⟩,
 ⟨some 8, .bin .add (.k (.d (.int .i64 48))) (.t 7), none⟩,
 ⟨some 9, .conv .i32 (.t 8), none⟩,
 ⟨some 10, .i2s (.t 9), none⟩,
 ⟨some 11, .bin .add (.t 6) (.t 10), none⟩,
 ⟨some 4, .mov (.t 11), none⟩]
def s59 : SCode := (.seq (.region x2d 0 []) (.seq (.region x2e 0 []) .ret))
theorem e59 : qg s59.eq_1 := qh s59.eq_1
theorem zfs : qa x2d.eq_1 := qc
theorem zft : qa x2e.eq_1 := qc
attribute [go_sem] zfs zft e59
theorem F59 : FnIs Try.prog 59 Try.f59 [] news s59 [.tmp 4] 12 := x5 follows Try.func59
def x2f : List SOper := [
 ⟨some 8, .mov (.k (.d .nilsl)), none⟩]
def x2g : List SOper := [
 ⟨some 9, .mov (.t 2), none⟩,
 ⟨some 10, .mov (.t 3), none⟩,
 ⟨some 11, .call (.k (.d (.func (.func 64) [] []))) [(.t 9), (.t 10)], none⟩]
def x2h : List SOper := [
 ⟨some 12, .mov (.t 0), none⟩,
 ⟨some 8, .mov (.t 12), none⟩]
def x2i : List SOper := [
 ⟨some 13, .mov (.t 0), none⟩,
 ⟨some 14, .mov (.t 1), none⟩,
 ⟨some 15, .mov (.t 3), none⟩,
 ⟨some 16, .len (.t 15), none⟩,
 ⟨some 17, .bin .eql (.t 16) (.k (.d (.int .i64 0))), none⟩,
 ⟨some 18, .mov (.t 3), none⟩,
 ⟨some 19, .build [(.str []), (.bool false), .nilsl] [(0, 1, (.t 14)), (1, 1, (.t 17)), (2, 1, (.t 18))], none⟩,
 ⟨some 20, .buildSlice false 3 1 [(.str []), (.bool false), .nilsl] [(0, 3, (.t 19))], none⟩,
 ⟨some 21, .append false 3 48 (.t 13) (.t 20), none⟩,
 ⟨some 8, .mov (.t 21), none⟩]
def s56 : SCode := (.seq (.region x2f 0 []) (.seq (.seq (.region x2g 0 []) (.cond (.t 11) (.seq (.region x2h 0 []) .ret) .skip)) (.seq (.region x2i 0 []) .ret)))
theorem e56 : qg s56.eq_1 := qh s56.eq_1
theorem zfu : qa x2f.eq_1 := qc
theorem zfv : qa x2g.eq_1 := qc
theorem zfw : qa x2h.eq_1 := qc
theorem zfx : qa x2i.eq_1 := qc
attribute [go_sem] zfu zfv zfw zfx e56
theorem F56 : FnIs Try.prog 56 Try.f56 [] news s56 [.tmp 8] 22 := x5 follows Try.func56
def x2j : List SOper := [
 ⟨some 2, .mov (.k (.d (.bool false))), none⟩]
def x2k : List SOper := [
 ⟨some 3, .mov (.t 0), none⟩,
 ⟨some 4, .lenS (.t 3), none⟩,
 ⟨some 5, .bin .geq (.t 4) (.k (.d (.int .i64 1))), none⟩,
 ⟨some 6, .mov (.t 5), none⟩,
 ⟨some 7, .mov (.t 0), some (6, true)⟩,
 ⟨some 8, .lenS (.t 7), some (6, true)⟩,
 ⟨some 9, .bin .leq (.t 8) (.k (.d (.int .i64 30))), some (6, true)⟩,
 ⟨some 10, .pick (.t 6) (.t 9) (.k (.d (.bool false))), none⟩,
 ⟨some 2, .mov (.t 10), none⟩]
def s55 : SCode := (.seq (.region x2j 0 []) (.seq (.region x2k 0 []) .ret))
theorem e55 : qg s55.eq_1 := qh s55.eq_1
theorem zfy : qa x2j.eq_1 := qc
theorem zfz : qa x2k.eq_1 := qc
attribute [go_sem] zfy zfz e55
theorem F55 : FnIs Try.prog 55 Try.f55 [] news s55 [.tmp 2] 11 := x5 follows Try.func55
def x2l : List SOper := [
 ⟨some 4, .mov (.k (.d (.bool false))), none⟩]
def x2m : List SOper := [
 ⟨some 5, .mov (.t 0), none⟩,
 ⟨some 6, .b2s (.t 5), none⟩,
 ⟨some 7, .mov (.t 1), none⟩,
 ⟨some 8, .b2s (.t 7), none⟩,
 ⟨some 9, .bin .eql (.t 6) (.t 8), none⟩,
 ⟨some 4, .mov (.t 9), none⟩]
def s64 : SCode := (.seq (.region x2l 0 []) (.seq (.region x2m 0 []) .ret))
theorem e64 : qg s64.eq_1 := qh s64.eq_1
theorem zf0 : qa x2l.eq_1 := qc
theorem zf1 : qa x2m.eq_1 := qc
attribute [go_sem] zf0 zf1 e64
theorem F64 : FnIs Try.prog 64 Try.f64 [] news s64 [.tmp 4] 10 := x5 follows Try.func64
def x2n : List SOper := [
 ⟨some 3, .box 2 (.t 0), none⟩,
 ⟨some 4, .box 1 (.t 1), none⟩,
 ⟨some 6, .mov (.k (.d .nilsl)), none⟩,
 ⟨some 7, .mov (.k (.d (.int .i64 0))), none⟩]
def x2o : List SOper := [
 ⟨some 10, .load (some 3) (.t 3), none⟩,
 ⟨some 11, .call (.k (.d (.func (.func 50) [] []))) [(.t 10)], none⟩,
 ⟨some 12, .not (.t 11), none⟩,
 ⟨some 13, .mov (.t 12), none⟩,
 ⟨some 14, .load (some 3) (.t 4), some (13, false)⟩,
 ⟨some 15, .call (.k (.d (.func (.func 50) [] []))) [(.t 14)], some (13, false)⟩,
 ⟨some 16, .not (.t 15), some (13, false)⟩,
 ⟨some 17, .pick (.t 13) (.k (.d (.bool true))) (.t 16), none⟩,
 ⟨some 18, .mov (.t 17), none⟩,
 ⟨some 19, .mov (.t 2), some (18, false)⟩,
 ⟨some 20, .call (.k (.d (.func (.func 55) [] []))) [(.t 19)], some (18, false)⟩,
 ⟨some 21, .not (.t 20), some (18, false)⟩,
 ⟨some 22, .pick (.t 18) (.k (.d (.bool true))) (.t 21), none⟩]
def x2p : List SOper := [
 ⟨some 6, .mov (.k (.d .nilsl)), none⟩,
 ⟨some 7, .mov (.k (.d (.int .i64 1))), none⟩]
def x2q : List SOper := [
 ⟨some 23, .mov (.t 2), none⟩,
 ⟨some 24, .call (.k (.d (.func (.func 57) [] []))) [(.t 23)], none⟩,
 ⟨some 25, .load (some 3) (.t 3), none⟩,
 ⟨some 26, .call (.k (.d (.func (.func 58) [] []))) [(.t 25)], none⟩,
 ⟨some 27, .load (some 3) (.t 4), none⟩,
 ⟨some 28, .call (.k (.d (.func (.func 58) [] []))) [(.t 27)], none⟩,
 ⟨some 29, .call (.k (.d (.func (.func 56) [] []))) [(.k (.d .nilsl)), (.t 24), (.t 26), (.t 28)], none⟩,
 ⟨some 8, .mov (.t 29), none⟩]
def x2r : List SOper := [
 ⟨some 30, .mov (.k (.d (.int .i64 0))), none⟩]
def x2s : List SOper := [
 ⟨some 31, .bin .lss (.t 30) (.k (.d (.int .i64 4))), none⟩]
def x2t : List SOper := [
 ⟨some 32, .mov (.t 30), none⟩,
 ⟨some 9, .mov (.t 32), none⟩]
def x2u : List SOper := [
 ⟨some 33, .mov (.t 8), none⟩,
 ⟨some 34, .mov (.t 2), none⟩,
 ⟨some 35, .mov (.t 9), none⟩,
 ⟨some 36, .call (.k (.d (.func (.func 59) [] []))) [(.t 34), (.t 35)], none⟩,
 ⟨some 37, .load (some 3) (.t 3), none⟩,
 ⟨some 38, .mov (.t 9), none⟩,
 ⟨some 39, .call (.k (.d (.func (.func 60) [] []))) [(.t 37), (.t 38)], none⟩,
 ⟨some 40, .load (some 3) (.t 4), none⟩,
 ⟨some 41, .mov (.t 9), none⟩,
 ⟨some 42, .call (.k (.d (.func (.func 60) [] []))) [(.t 40), (.t 41)], none⟩,
 ⟨some 43, .call (.k (.d (.func (.func 56) [] []))) [(.t 33), (.t 36), (.t 39), (.t 42)], none⟩,
 ⟨some 8, .mov (.t 43), none⟩]
def x2v : List SOper := [
 ⟨some 44, .bin .add (.t 30) (.k (.d (.int .i64 1))), none⟩,
 ⟨some 30, .mov (.t 44), none⟩]
def xg1 : SCode := (.seq (.region x2s 0 []) (.seq (.cond (.t 31) .skip (.exit 0)) (.seq (.block 1 (.seq (.region x2t 0 []) (.region x2u 0 [(3, 4), (3, 7), (6, 7)]))) (.region x2v 0 []))))
theorem zf2 : qg xg1.eq_1 := qh xg1.eq_1
def xdv : List SOper := [
 ⟨some 45, .mov (.t 8), none⟩,
 ⟨some 6, .mov (.t 45), none⟩,
 ⟨some 7, .mov (.k (.d (.int .i64 0))), none⟩]
def s21 : SCode := (.seq (.region x2n 2 []) (.seq (.seq (.region x2o 0 []) (.cond (.t 22) (.seq (.region x2p 0 []) .ret) .skip)) (.seq (.region x2q 0 [(1, 2), (1, 4), (3, 4)]) (.seq (.seq (.region x2r 0 []) (.block 0 (.loop xg1))) (.seq (.region xdv 0 []) .ret)))))
theorem e21 : qg s21.eq_1 := qh s21.eq_1
theorem zf3 : qa x2n.eq_1 := qc
theorem zf4 : qa x2o.eq_1 := qc
theorem zf5 : qa x2p.eq_1 := qc
theorem zf6 : qa x2q.eq_1 := qc
theorem zf7 : qa x2r.eq_1 := qc
theorem zf8 : qa x2s.eq_1 := qc
theorem zf9 : qa x2t.eq_1 := qc
theorem zga : qa x2u.eq_1 := qc
theorem zgb : qa x2v.eq_1 := qc
theorem x2w : qa xdv.eq_1 := qc
attribute [go_sem] zf3 zf4 zf5 zf6 zf7 zf8 zf9 zga zgb zf2 x2w e21
theorem F21 : FnIs Try.prog 21 Try.f21 [] news s21 [.tmp 6, .tmp 7] 46 := x5 follows Try.func21
end
theorem qbk (a b : List UInt8) : ql Try.prog 64 [.d (.sl 1 (qe a)), .d (.sl 1 (qe b))] [] (.d (.bool (a == b))) [] := by
 refine F64.go ?_
 try (refine ev ?_; try exact True.intro)
def qjk (s : List UInt8) : Bool := decide ((s.length : Int) ≥ 1) && decide ((s.length : Int) ≤ 30)
theorem qfl (s : List UInt8) : ql Try.prog 55 [.d (.str s)] [] (.d (.bool (qjk s))) [] := by
 refine F55.go ?_
 try (refine ev1 @qjk.eq_1 ?_; try exact True.intro)
def nKey (s : List UInt8) : List UInt8 := s ++ [47, 110]
def sKey (s : List UInt8) (d : Nat) : List UInt8 := s ++ [47, UInt8.ofNat (48 + d)]
theorem qm8 (s : List UInt8) (h : s.length ≤ 1000) : ql Try.prog 57 [.d (.str s)] [] (.d (.str (nKey s))) [] := by
 refine F57.go ?_
 try (refine ev1 @nKey.eq_1 ?_; try exact True.intro)
 omega
theorem qgk (s : List UInt8) (d : Nat) (h : s.length ≤ 1000) (hd : d < 4) : ql Try.prog 59 [.d (.str s), .d (.int .i64 d)] [] (.d (.str (sKey s d))) [] := by
 refine F59.go ?_
 have h4 : d = 0 ∨ d = 1 ∨ d = 2 ∨ d = 3 := by omega
 have e0 : (Utf8.encode (IntKind.i32.wrap (IntKind.i64.wrap 48))).data.toList = [48] := by decide
 have e1 : (Utf8.encode (IntKind.i32.wrap (IntKind.i64.wrap 49))).data.toList = [49] := by decide
 have e2 : (Utf8.encode (IntKind.i32.wrap (IntKind.i64.wrap 50))).data.toList = [50] := by decide
 have e3 : (Utf8.encode (IntKind.i32.wrap (IntKind.i64.wrap 51))).data.toList = [51] := by decide
 rcases h4 with rfl | rfl | rfl | rfl
 all_goals
  try (refine ev6 @sKey.eq_1 @e0 @e1 @e2 @e3 @List.append_assoc.{0} ?_; try exact True.intro)
  exact ⟨by omega, by omega, rfl⟩
def kk (q : Qu) : List UInt8 := if q.acc = 0 ∧ q.cons = 0 then [] else wInt q.acc ++ wInt q.cons
theorem qfm (q : Qu) (h1 : I64 q.acc) (h2 : I64 q.cons) : ql Try.prog 58 [.d (.agg (encQ q))] [] (.d (.sl 1 (qe (kk q)))) [] := by
 have a1 := x6 h1
 refine F58.go ?_
 try (refine ev1 @encQ.eq_1 ?_; try exact True.intro)
 refine jj _ (fun h => ?_) (fun h => ?_)
 ·have hb : kk q = [] := by unfold kk; rw [if_pos]; simpa using h
  try (refine ev2 @hb @qx ?_; try exact True.intro)
 ·have hb : kk q = wInt q.acc ++ wInt q.cons := by unfold kk; rw [if_neg]; simpa using h
  try (refine ev ?_; try exact True.intro)
  refine clA F71 (jq [] q.acc (by simp) h1) ?_
  try (refine ev ?_; try exact True.intro)
  refine clA F71 (jq ([] ++ wInt q.acc) q.cons (by rw [List.nil_append]; omega) h2) ?_
  try (refine ev1 @hb ?_; try exact True.intro)
theorem q0a {α : Type} {f : α → Bool} {l : List α} {i : Nat} (hi : (l.take i).find? f = none) (hil : i < l.length) (h : f l[i] = true) : l.find? f = some l[i] := by
 have e : l.find? f = (l.take i ++ l.drop i).find? f := by rw [List.take_append_drop]
 rw [e, List.find?_append, hi, List.drop_eq_getElem_cons hil]
 simp only [Option.none_or, List.find?_cons, h]
def jl (q : Qu) (d : Int) : List UInt8 := match q.items.find? (fun p => p.seq.tmod 4 == d) with
 | some p => (vb p).1
 | none => []
def qtn (q : Qu) (d : Int) (i : { i : Nat // (q.items.take i).find? (fun p => p.seq.tmod 4 == d) = none }) : St :=
 ⟨[(1, true, .d (.int .i64 d)), (10, true, .d (.sl 9 (q.items.map qk))), (11, true, .d (.int .i64 q.items.length)), (12, true, .d (.int .i64 (i.val : Nat)))], [], [], 1⟩
structure Qu.W (q : Qu) : Prop where
 a : I64 q.acc
 c : I64 q.cons
 p : ∀ p ∈ q.items, p.W
set_option maxRecDepth 10000 in
theorem qfn (q : Qu) (d : Int) (hq : q.Sm) (hw : q.W) : ql Try.prog 60 [.d (.agg (encQ q)), .d (.int .i64 d)] [] (.d (.sl 1 (qe (jl q d)))) [] := by
 have hl := hq.1
 refine F60.go ?_
 try (refine ev1 @encQ.eq_1 ?_; try exact True.intro)
 refine qy (qtn q d) (fun i => q.items.length - i.val) ⟨0, rfl⟩ ?_ (fun i => ?_)
 ·try (refine ev2 @qtn.eq_1 @Int.ofNat_zero ?_; try exact True.intro)
 obtain ⟨i, hi⟩ := i
 try (refine ev1 @qtn.eq_1 ?_; try exact True.intro)
 refine jj _ (fun h => ?_) (fun h => ?_)
 ·have hil : i < q.items.length := by simpa using h
  have hen := qvj q.items[i] (hq.2 _ (List.getElem_mem hil)) (hw.p _ (List.getElem_mem hil))
  simp only [qk] at hen
  try (refine ev2 (xg qk q.items hil) @qk.eq_1 ?_; try exact True.intro)
  (repeat (with_reducible refine ob ?_))
  refine jj _ (fun h => ?_) (fun h => ?_)
  ·have hb : jl q d = (vb q.items[i]).1 := by
    unfold jl; rw [q0a hi hil h]
   try (refine ev ?_; try exact True.intro)
   (repeat (with_reducible refine ob ?_)); first | refine cl zav (hen) ?_ | refine clF zav (hen) (fun _ => by (refine ev3 @qk.eq_1 @encQ.eq_1 @qs.eq_1 ?_; try exact True.intro)) ?_
   try (refine ev1 @hb ?_; try exact True.intro)
  ·try (refine ev ?_; try exact True.intro)
   refine ⟨⟨i + 1, ?_⟩, ?_, by dsimp only; omega⟩
   ·rw [List.take_succ_eq_append_getElem hil, List.find?_append, hi]
    simp only [Option.none_or, List.find?_cons, h, List.find?_nil]
   ·try (refine ev2 @qtn.eq_1 (qv (show i < 9223372036854775807 by omega)) ?_; try exact True.intro)
 ·have hil : q.items.length ≤ i := by simpa using h
  have hb : jl q d = [] := by
   rw [List.take_of_length_le hil] at hi
   unfold jl; rw [hi]
  try (refine ev2 @hb @qx ?_; try exact True.intro)
def chg (k : List UInt8) (old next : List UInt8) : List OpS := if old = next then [] else [⟨k, next == [], next⟩]
theorem qp7 (l : List OpS) (k old next : List UInt8) (hl : l.length ≤ 1000) : ql Try.prog 56 [.own 0 3 (l.map qs), .d (.str k), .d (.sl 1 (qe old)), .d (.sl 1 (qe next))] [] (.own 0 3 ((l ++ chg k old next).map qs)) [] := by
 refine F56.go ?_
 try (refine ev ?_; try exact True.intro)
 (repeat (with_reducible refine ob ?_)); first | refine cl F64 (qbk old next) ?_ | refine clF F64 (qbk old next) (fun _ => by (refine ev3 @qk.eq_1 @encQ.eq_1 @qs.eq_1 ?_; try exact True.intro)) ?_
 try (refine ev ?_; try exact True.intro)
 refine jj _ (fun h => ?_) (fun h => ?_)
 ·have hb : chg k old next = [] := by unfold chg; rw [if_pos (by simpa using h)]
  try (refine ev2 @hb @List.append_nil.{0} ?_; try exact True.intro)
 ·have hb : chg k old next = [⟨k, next == [], next⟩] := by unfold chg; rw [if_neg (by simpa using h)]
  try (refine ev6 @hb @List.map_append.{0,0} @List.map_cons.{0,0} @List.map_nil.{0,0} @qs.eq_1 @xgz ?_; try exact True.intro)
  omega
def je (a b : Qu) (name : List UInt8) : Nat → List OpS
 | 0 => chg (nKey name) (kk a) (kk b)
 | d + 1 => je a b name d ++ chg (sKey name d) (jl a d) (jl b d)
def qaz (a b : Qu) (name : List UInt8) : List OpS × Int := if (!qar a || !qar b || !qjk name) = true then ([], 1) else (je a b name 4, 0)
theorem qm9 (k a b : List UInt8) : (chg k a b).length ≤ 1 := by unfold chg; split <;> simp
theorem qcy (a b : Qu) (name : List UInt8) : ∀ d, (je a b name d).length ≤ d + 1
 | 0 => qm9 _ _ _
 | d + 1 => by
  have := qcy a b name d
  have := qm9 (sKey name d) (jl a d) (jl b d)
  rw [je, List.length_append]; omega
def q4n (a b : Qu) (name : List UInt8) (d : Nat) : St :=
 ⟨[(2, true, .d (.str name)), (3, true, .d (.ptr 0 0)), (4, true, .d (.ptr 1 0)), (8, true, .own 0 3 ((je a b name d).map qs)), (30, true, .d (.int .i64 (d : Nat)))], [.row ((encQ a).map .d), .row ((encQ b).map .d)], [0], 1⟩
set_option maxRecDepth 10000 in
theorem qsn (a b : Qu) (name : List UInt8) (ha : a.Sm) (wa : a.W) (hb : b.Sm) (wb : b.W) (hn : name.length ≤ 1000) :
  ql Try.prog 21 [.d (.agg (encQ a)), .d (.agg (encQ b)), .d (.str name)] [] (.tup [.d (.sl 3 ((qaz a b name).1.map qs)), .d (.int .i64 (qaz a b name).2)]) [] := by
 refine F21.goT ?_
 try (refine ev1 @encQ.eq_1 ?_; try exact True.intro)
 (repeat (with_reducible refine ob ?_)); first | refine cl F50 (wq a ha) ?_ | refine clF F50 (wq a ha) (fun _ => by (refine ev3 @qk.eq_1 @encQ.eq_1 @qs.eq_1 ?_; try exact True.intro)) ?_
 try (refine ev ?_; try exact True.intro)
 (repeat (with_reducible refine ob ?_)); first | refine cl F50 (wq b hb) ?_ | refine clF F50 (wq b hb) (fun _ => by (refine ev3 @qk.eq_1 @encQ.eq_1 @qs.eq_1 ?_; try exact True.intro)) ?_
 try (refine ev ?_; try exact True.intro)
 (repeat (with_reducible refine ob ?_)); first | refine cl F55 (qfl name) ?_ | refine clF F55 (qfl name) (fun _ => by (refine ev3 @qk.eq_1 @encQ.eq_1 @qs.eq_1 ?_; try exact True.intro)) ?_
 try (refine ev ?_; try exact True.intro)
 (repeat (with_reducible refine ob ?_))
 refine jj _ (fun h => ?_) (fun h => ?_)
 ·have hx : qaz a b name = ([], 1) := by unfold qaz; rw [if_pos h]
  try (refine ev2 @hx @List.map_nil.{0,0} ?_; try exact True.intro)
 have hx : qaz a b name = (je a b name 4, 0) := by unfold qaz; rw [if_neg]; simp [h]
 try (refine ev ?_; try exact True.intro)
 (repeat (with_reducible refine ob ?_)); first | refine cl F57 (qm8 name hn) ?_ | refine clF F57 (qm8 name hn) (fun _ => by (refine ev3 @qk.eq_1 @encQ.eq_1 @qs.eq_1 ?_; try exact True.intro)) ?_
 try (refine ev ?_; try exact True.intro)
 (repeat (with_reducible refine ob ?_)); first | refine cl F58 (qfm a wa.a wa.c) ?_ | refine clF F58 (qfm a wa.a wa.c) (fun _ => by (refine ev3 @qk.eq_1 @encQ.eq_1 @qs.eq_1 ?_; try exact True.intro)) ?_
 try (refine ev ?_; try exact True.intro)
 (repeat (with_reducible refine ob ?_)); first | refine cl F58 (qfm b wb.a wb.c) ?_ | refine clF F58 (qfm b wb.a wb.c) (fun _ => by (refine ev3 @qk.eq_1 @encQ.eq_1 @qs.eq_1 ?_; try exact True.intro)) ?_
 try (refine ev ?_; try exact True.intro)
 refine clA F56 (qp7 [] (nKey name) (kk a) (kk b) (by simp)) ?_
 try (refine ev ?_; try exact True.intro)
 refine qy (fun d : { d : Nat // d ≤ 4 } => q4n a b name d.val) (fun d => 4 - d.val) ⟨0, Nat.zero_le _⟩ ?_ (fun d => ?_)
 ·try simp only [q4n, Int.ofNat_zero, je, encQ, go_sem, Nat.reduceAdd, Nat.reduceMul, Nat.reduceSub, Nat.reduceEqDiff, Nat.reduceLT, Nat.reduceLeDiff, Nat.reduceBEq, reduceIte, reduceCtorEq, Int.reduceAdd, Int.reduceLT, Int.reduceLE, Int.reduceGT, Int.reduceGE, Int.reduceEq, Int.reduceNe, Int.reduceBEq, Int.reduceBNe, Int.reduceToNat, Int.reduceNeg]
 obtain ⟨d, hd⟩ := d
 try (refine ev2 @q4n.eq_1 @encQ.eq_1 ?_; try exact True.intro)
 refine jj _ (fun h => ?_) (fun h => ?_)
 ·have hl : d < 4 := by simp at h; omega
  have := qcy a b name d
  try (refine ev ?_; try exact True.intro)
  (repeat (with_reducible refine ob ?_)); first | refine cl F59 (qgk name d hn hl) ?_ | refine clF F59 (qgk name d hn hl) (fun _ => by (refine ev3 @qk.eq_1 @encQ.eq_1 @qs.eq_1 ?_; try exact True.intro)) ?_
  try (refine ev ?_; try exact True.intro)
  (repeat (with_reducible refine ob ?_)); first | refine cl F60 (qfn a d ha wa) ?_ | refine clF F60 (qfn a d ha wa) (fun _ => by (refine ev3 @qk.eq_1 @encQ.eq_1 @qs.eq_1 ?_; try exact True.intro)) ?_
  try (refine ev ?_; try exact True.intro)
  (repeat (with_reducible refine ob ?_)); first | refine cl F60 (qfn b d hb wb) ?_ | refine clF F60 (qfn b d hb wb) (fun _ => by (refine ev3 @qk.eq_1 @encQ.eq_1 @qs.eq_1 ?_; try exact True.intro)) ?_
  try (refine ev ?_; try exact True.intro)
  refine clA F56 (qp7 (je a b name d) (sKey name d) (jl a d) (jl b d) (by omega)) ?_
  try (refine ev ?_; try exact True.intro)
  refine ⟨⟨d + 1, hl⟩, ?_, by dsimp only; omega⟩
  try simp only [q4n, encQ, je, qv (show d < 9223372036854775807 by omega), go_sem, Nat.reduceAdd, Nat.reduceMul, Nat.reduceSub, Nat.reduceEqDiff, Nat.reduceLT, Nat.reduceLeDiff, Nat.reduceBEq, reduceIte, reduceCtorEq, Int.reduceAdd, Int.reduceLT, Int.reduceLE, Int.reduceGT, Int.reduceGE, Int.reduceEq, Int.reduceNe, Int.reduceBEq, Int.reduceBNe, Int.reduceToNat, Int.reduceNeg]
 ·have hl : d = 4 := by simp at h; omega
  subst hl
  try (refine ev1 @hx ?_; try exact True.intro)
end Go.Proofs.Ytinnaedmdoengaa
namespace Go.Proofs.Ytinnaedmdoengaa
open Go.Abs
set_option linter.unusedSimpArgs false
set_option linter.unusedVariables false
theorem xg2 {u : Nat} (h : u < 18446744073709551616) : I64 (unz u) := by unfold unz I64; split <;> omega
theorem qa0 : I64 0 := by unfold I64; omega
theorem qp8 : ∀ (k i u : Nat) (r : Rd), I64 (qfa k i u r).1
 | 0, i, u, r => qa0
 | k + 1, i, u, r => by
  rw [qfa]
  split
  ·exact qa0
  ·split
   ·exact xg2 (Nat.mod_lt _ (by decide))
   ·exact qp8 k _ _ _
theorem qhv (r : Rd) : I64 (rInt r).1 := qp8 10 0 0 r
theorem q0b (r : Rd) : I64 (qaj r).1 := by
 unfold qaj qaf
 split
 ·exact qa0
 ·split
  ·exact qa0
  ·exact qhv r
theorem qso (most : Nat) (r : Rd) : (js most r).1.length ≤ most := by
 unfold js
 split
 ·exact Nat.zero_le _
 ·rename_i h
  have := (w6 (by simpa using h)).2
  unfold jk
  split
  ·exact Nat.zero_le _
  ·simp only [List.length_take]; omega
theorem x2x (r : Rd) : (rAV r).1.Sm := by
 have hb : I64 (qw 1 2 r).1 := qhv r
 unfold rAV
 split
 ·exact ⟨hb, qa0, Nat.zero_le _⟩
 ·split
  ·exact ⟨hb, qhv _, Nat.zero_le _⟩
  ·exact ⟨hb, qa0, Nat.le_trans (qso 40 _) (by decide)⟩
theorem qjl {α : Type} {f : Rd → α × Rd} {Q : α → Prop} (h : ∀ r, Q (f r).1) : ∀ (n : Nat) (r : Rd), ∀ x ∈ (we f n r).1, Q x
 | 0, r, x, hx => by cases hx
 | n + 1, r, x, hx => by
  rw [we] at hx
  split at hx
  ·cases hx
  ·rcases List.mem_cons.1 hx with rfl | hx
   ·exact h r
   ·exact qjl h n _ x hx
theorem qp9 {α : Type} {f : Rd → List α × Rd} {Q : α → Prop} (h : ∀ r, ∀ x ∈ (f r).1, Q x) (r : Rd) : ∀ x ∈ (qaf [] f r).1, Q x := by
 unfold qaf
 split
 ·intro x hx; cases hx
 ·split
  ·intro x hx; cases hx
  ·exact h r
theorem qqa (r : Rd) : ∀ n, ∀ x ∈ (yk n r).1, I64 x
 | 0, x, hx => by cases hx
 | n + 1, x, hx => by
  rcases List.mem_append.1 hx with hx | hx
  ·exact qqa r n x hx
  ·simp at hx; subst hx; exact q0b _
theorem q4o {l : List Int} (h : ∀ x ∈ l, I64 x) (i : Nat) : I64 (l.getD i 0) := by
 rw [List.getD_eq_getElem?_getD]
 cases hg : l[i]? with
 | none => exact qa0
 | some x => exact h x (List.mem_of_getElem? hg)
theorem x2y {l : List Int} {v : List AV} {c : List Int} (h1 : ∀ x ∈ l, I64 x) (h2 : ∀ x ∈ v, x.Sm) (h3 : ∀ x ∈ c, I64 x) : (pkOf l v c).W := by
 refine ⟨fun x hx => ?_, h2, h3⟩
 simp only [zt, pkOf, List.mem_cons, List.not_mem_nil, or_false] at hx
 rcases hx with rfl | rfl | rfl | rfl | rfl | rfl | rfl <;> exact q4o h1 _
theorem q0c : (default : Pk).W := ⟨fun x hx => by
 simp only [zt, List.mem_cons, List.not_mem_nil, or_false] at hx
 rcases hx with rfl | rfl | rfl | rfl | rfl | rfl | rfl <;> exact qa0, fun x hx => (by cases hx), fun x hx => (by cases hx)⟩
theorem q0d (b : List UInt8) : (yl b).1.W ∧ (yl b).1.Sm := by
 have h1 : (qp6 (qbj b).1).1.W := x2y (qqa _ 7) (qp9 (fun r => qjl x2x _ _) _) (qp9 (fun r => qjl qhv _ _) _)
 have h2 : (qp6 (qbj b).1).1.Sm := ⟨Nat.le_trans (qfi (fun r => qfh (f := rAV) (most := 4) (r := r)) _) (by decide), Nat.le_trans (qfi (fun r => qfh (f := rInt) (most := 6) (r := r)) _) (by decide)⟩
 have h3 : (default : Pk).Sm := ⟨Nat.zero_le _, Nat.zero_le _⟩
 unfold yl
 split
 ·exact ⟨q0c, h3⟩
 ·split
  ·exact ⟨q0c, h3⟩
  ·exact ⟨h1, h2⟩
def qa1 : Option (List UInt8) → Int × Int
 | none => (0, 0)
 | some b => ((qaj ⟨b, 0, false⟩).1, (qaj (qaj ⟨b, 0, false⟩).2).1)
def qvz (x : Int × Int) : Bool := decide (x.2 < 0) || decide (x.1 < x.2) || decide (x.1 > 1099511627776) || decide (IntKind.i64.wrap (x.1 - x.2) > 4)
def ldAt (m : Cont) (name : List UInt8) (k : Nat) : Pk × Int := yl (optV (mGet (sKey name (k % 4)) m))
def qa6 (m : Cont) (name : List UInt8) : Nat → Nat → Option (List Pk)
 | 0, _ => some []
 | n + 1, k => if (ldAt m name k).2 ≠ 0 then none else (qa6 m name n (k + 1)).map ((ldAt m name k).1 :: ·)
def qjm (m : Cont) (name : List UInt8) (q : Qu) : Bool := !qar q || (!((mGet (nKey name) m).isSome == decide (((kk q).length : Int) > 0))) || !(optV (mGet (nKey name) m) == kk q)
def qlq (m : Cont) (name : List UInt8) (q : Qu) (d : Nat) : Bool := (!((mGet (sKey name d) m).isSome == decide (((jl q d).length : Int) > 0))) || !(optV (mGet (sKey name d) m) == jl q d)
def q4p (m : Cont) (name : List UInt8) (a c : Int) : Option (List Pk) → Qu × Int
 | none => (x7, 4)
 | some l => if (qjm m name ⟨a, c, l⟩ || !qco (fun d => !qlq m name ⟨a, c, l⟩ d) 4) = true then (x7, 4) else (⟨a, c, l⟩, 0)
def qgl (m : Cont) (name : List UInt8) : Qu × Int :=
 if (!qjk name) = true then (x7, 1) else
 if qvz (qa1 (mGet (nKey name) m)) = true then (x7, 4) else
 q4p m name (qa1 (mGet (nKey name) m)).1 (qa1 (mGet (nKey name) m)).2 (qa6 m name ((qa1 (mGet (nKey name) m)).1 - (qa1 (mGet (nKey name) m)).2).toNat ((qa1 (mGet (nKey name) m)).2.toNat + 1))
theorem qto (m : Cont) (hm : ∀ x ∈ m.l, x.2.2.length ≤ 1000000) (k : List UInt8) : (optV (mGet k m)).length ≤ 1000000 := by
 unfold optV mGet
 cases hf : m.l.find? (xp k) with
 | none => simp
 | some x => exact hm x (List.mem_of_find?_eq_some hf)
noncomputable section
set_option maxRecDepth 100000
def xdw : List SOper := [
 ⟨some 4, .alloc 1 [(.d (.int .i64 0)), (.d (.int .i64 0)), (.d .nilsl)], none⟩,
 ⟨some 5, .mov (.k (.d (.int .i64 0))), none⟩]
def xdx : List SOper := [
 ⟨some 18, .mov (.t 1), none⟩,
 ⟨some 19, .call (.k (.d (.func (.func 55) [] []))) [(.t 18)], none⟩,
 ⟨some 20, .not (.t 19), none⟩]
def xdy : List SOper := [
 ⟨some 21, .build [(.int .i64 0), (.int .i64 0), .nilsl] [], none⟩,
 ⟨none, .store (some 3) (.t 4) (.t 21), none⟩,
 ⟨some 5, .mov (.k (.d (.int .i64 1))), none⟩]
def xdz : List SOper := [
 ⟨some 6, .alloc 1 [(.d (.int .i64 0)), (.d (.int .i64 0)), (.d .nilsl)], none⟩]
def xd0 : List SOper := [
 ⟨some 23, .mov (.t 0), none⟩,
 ⟨some 24, .mov (.t 1), none⟩,
 ⟨some 25, .call (.k (.d (.func (.func 57) [] []))) [(.t 24)], none⟩,
 ⟨some 26, .call (.k (.d (.func (.func 15) [] []))) [(.t 23), (.t 25)], none⟩,
 ⟨some 22, .mov (.t 26), none⟩,
 ⟨some 27, .extract 0 (.t 22), none⟩,
 ⟨some 28, .extract 1 (.t 22), none⟩,
 ⟨some 7, .mov (.t 27), none⟩,
 ⟨some 8, .mov (.t 28), none⟩]
def xd1 : List SOper := [
 ⟨some 29, .mov (.t 8), none⟩]
def xd2 : List SOper := [
 ⟨some 30, .mov (.t 7), none⟩,
 ⟨some 31, .call (.k (.d (.func (.func 61) [] []))) [(.t 30)], none⟩,
 ⟨some 9, .mov (.t 31), none⟩]
def xd3 : List SOper := [
 ⟨some 32, .mov (.t 9), none⟩,
 ⟨some 33, .call (.k (.d (.func (.func 62) [] []))) [(.t 32)], none⟩,
 ⟨some 34, .mov (.t 9), none⟩,
 ⟨some 35, .call (.k (.d (.func (.func 62) [] []))) [(.t 34)], none⟩,
 ⟨some 36, .faddr 0 (.t 6), none⟩,
 ⟨none, .store none (.t 36) (.t 33), none⟩,
 ⟨some 37, .faddr 1 (.t 6), none⟩,
 ⟨none, .store none (.t 37) (.t 35), none⟩]
def xd4 : List SOper := [
 ⟨some 38, .faddr 1 (.t 6), none⟩,
 ⟨some 39, .load none (.t 38), none⟩,
 ⟨some 40, .bin .lss (.t 39) (.k (.d (.int .i64 0))), none⟩,
 ⟨some 41, .mov (.t 40), none⟩,
 ⟨some 42, .faddr 0 (.t 6), some (41, false)⟩,
 ⟨some 43, .load none (.t 42), some (41, false)⟩,
 ⟨some 44, .faddr 1 (.t 6), some (41, false)⟩,
 ⟨some 45, .load none (.t 44), some (41, false)⟩,
 ⟨some 46, .bin .lss (.t 43) (.t 45), some (41, false)⟩,
 ⟨some 47, .pick (.t 41) (.k (.d (.bool true))) (.t 46), none⟩,
 ⟨some 48, .mov (.t 47), none⟩,
 ⟨some 49, .faddr 0 (.t 6), some (48, false)⟩,
 ⟨some 50, .load none (.t 49), some (48, false)⟩,
 ⟨some 51, .bin .gtr (.t 50) (.k (.d (.int .i64 1099511627776))), some (48, false)⟩,
 ⟨some 52, .pick (.t 48) (.k (.d (.bool true))) (.t 51), none⟩,
 ⟨some 53, .mov (.t 52), none⟩,
 ⟨some 54, .faddr 0 (.t 6), some (53, false)⟩,
 ⟨some 55, .load none (.t 54), some (53, false)⟩,
 ⟨some 56, .faddr 1 (.t 6), some (53, false)⟩,
 ⟨some 57, .load none (.t 56), some (53, false)⟩,
 ⟨some 58, .bin .sub (.t 55) (.t 57), some (53, false)⟩,
 ⟨some 59, .bin .gtr (.t 58) (.k (.d (.int .i64 4))), some (53, false)⟩,
 ⟨some 60, .pick (.t 53) (.k (.d (.bool true))) (.t 59), none⟩]
def xd5 : List SOper := [
 ⟨some 61, .build [(.int .i64 0), (.int .i64 0), .nilsl] [], none⟩,
 ⟨none, .store (some 3) (.t 4) (.t 61), none⟩,
 ⟨some 5, .mov (.k (.d (.int .i64 4))), none⟩]
def q0e : List SOper := [
 ⟨some 62, .faddr 1 (.t 6), none⟩,
 ⟨some 63, .load none (.t 62), none⟩,
 ⟨some 64, .bin .add (.t 63) (.k (.d (.int .i64 1))), none⟩,
 ⟨some 10, .mov (.t 64), none⟩]
def q0f : List SOper := [
 ⟨some 65, .mov (.t 10), none⟩,
 ⟨some 66, .faddr 0 (.t 6), none⟩,
 ⟨some 67, .load none (.t 66), none⟩,
 ⟨some 68, .bin .leq (.t 65) (.t 67), none⟩]
def q0g : List SOper := [
 ⟨some 72, .mov (.t 0), none⟩,
 ⟨some 73, .mov (.t 1), none⟩,
 ⟨some 74, .mov (.t 10), none⟩,
 ⟨some 75, .bin .rem (.t 74) (.k (.d (.int .i64 4))), none⟩,
 ⟨some 76, .call (.k (.d (.func (.func 59) [] []))) [(.t 73), (.t 75)], none⟩,
 ⟨some 77, .call (.k (.d (.func (.func 15) [] []))) [(.t 72), (.t 76)], none⟩,
 ⟨some 71, .mov (.t 77), none⟩,
 ⟨some 78, .extract 0 (.t 71), none⟩,
 ⟨some 79, .extract 1 (.t 71), none⟩,
 ⟨some 11, .mov (.t 78), none⟩,
 ⟨some 12, .mov (.t 79), none⟩]
def q0h : List SOper := [
 ⟨some 81, .mov (.t 11), none⟩,
 ⟨some 82, .call (.k (.d (.func (.func 63) [] []))) [(.t 81)], none⟩,
 ⟨some 80, .mov (.t 82), none⟩,
 ⟨some 83, .extract 0 (.t 80), none⟩,
 ⟨some 84, .extract 1 (.t 80), none⟩,
 ⟨some 13, .alloc 1 [(.d (.int .i64 0)), (.d (.int .i64 0)), (.d (.int .i64 0)), (.d (.int .i64 0)), (.d (.int .i64 0)), (.d (.int .i64 0)), (.d (.int .i64 0)), (.d .nilsl), (.d .nilsl)], none⟩,
 ⟨none, .store (some 9) (.t 13) (.t 83), none⟩,
 ⟨some 14, .mov (.t 84), none⟩]
def q0i : List SOper := [
 ⟨some 85, .mov (.t 14), none⟩,
 ⟨some 86, .bin .neq (.t 85) (.k (.d (.int .i64 0))), none⟩]
def q0j : List SOper := [
 ⟨some 87, .build [(.int .i64 0), (.int .i64 0), .nilsl] [], none⟩,
 ⟨none, .store (some 3) (.t 4) (.t 87), none⟩,
 ⟨some 5, .mov (.k (.d (.int .i64 4))), none⟩]
def q0k : List SOper := [
 ⟨some 88, .faddr 2 (.t 6), none⟩,
 ⟨some 89, .load none (.t 88), none⟩,
 ⟨some 90, .load (some 9) (.t 13), none⟩,
 ⟨some 91, .buildSlice false 9 1 [(.int .i64 0), (.int .i64 0), (.int .i64 0), (.int .i64 0), (.int .i64 0), (.int .i64 0), (.int .i64 0), .nilsl, .nilsl] [(0, 9, (.t 90))], none⟩,
 ⟨some 92, .append false 9 104 (.t 89) (.t 91), none⟩,
 ⟨some 93, .faddr 2 (.t 6), none⟩,
 ⟨none, .store none (.t 93) (.t 92), none⟩]
def q0l : List SOper := [
 ⟨some 69, .mov (.t 10), none⟩,
 ⟨some 70, .bin .add (.t 69) (.k (.d (.int .i64 1))), none⟩,
 ⟨some 10, .mov (.t 70), none⟩]
def qsp : SCode := (.seq (.seq (.region q0f 0 []) (.cond (.t 68) .skip (.exit 0))) (.seq (.block 1 (.seq (.region q0g 0 []) (.seq (.region q0h 1 []) (.seq (.seq (.region q0i 0 []) (.cond (.t 86) (.seq (.region q0j 0 []) .ret) .skip)) (.region q0k 0 []))))) (.region q0l 0 [])))
theorem xg3 : qg qsp.eq_1 := qh qsp.eq_1
def q0m : List SOper := [
 ⟨some 94, .load (some 3) (.t 6), none⟩,
 ⟨some 95, .call (.k (.d (.func (.func 50) [] []))) [(.t 94)], none⟩,
 ⟨some 96, .not (.t 95), none⟩,
 ⟨some 97, .mov (.t 96), none⟩,
 ⟨some 98, .mov (.t 8), some (97, false)⟩,
 ⟨some 99, .load (some 3) (.t 6), some (97, false)⟩,
 ⟨some 100, .call (.k (.d (.func (.func 58) [] []))) [(.t 99)], some (97, false)⟩,
 ⟨some 101, .len (.t 100), some (97, false)⟩,
 ⟨some 102, .bin .gtr (.t 101) (.k (.d (.int .i64 0))), some (97, false)⟩,
 ⟨some 103, .eqb true (.t 98) (.t 102), some (97, false)⟩,
 ⟨some 104, .pick (.t 97) (.k (.d (.bool true))) (.t 103), none⟩,
 ⟨some 105, .mov (.t 104), none⟩,
 ⟨some 106, .mov (.t 7), some (105, false)⟩,
 ⟨some 107, .load (some 3) (.t 6), some (105, false)⟩,
 ⟨some 108, .call (.k (.d (.func (.func 58) [] []))) [(.t 107)], some (105, false)⟩,
 ⟨some 109, .call (.k (.d (.func (.func 64) [] []))) [(.t 106), (.t 108)], some (105, false)⟩,
 ⟨some 110, .not (.t 109), some (105, false)⟩,
 ⟨some 111, .pick (.t 105) (.k (.d (.bool true))) (.t 110), none⟩]
def q0n : List SOper := [
 ⟨some 112, .build [(.int .i64 0), (.int .i64 0), .nilsl] [], none⟩,
 ⟨none, .store (some 3) (.t 4) (.t 112), none⟩,
 ⟨some 5, .mov (.k (.d (.int .i64 4))), none⟩]
def q0o : List SOper := [
 ⟨some 113, .mov (.k (.d (.int .i64 0))), none⟩]
def q0p : List SOper := [
 ⟨some 114, .bin .lss (.t 113) (.k (.d (.int .i64 4))), none⟩]
def q0q : List SOper := [
 ⟨some 115, .mov (.t 113), none⟩,
 ⟨some 15, .mov (.t 115), none⟩]
def q0r : List SOper := [
 ⟨some 117, .mov (.t 0), none⟩,
 ⟨some 118, .mov (.t 1), none⟩,
 ⟨some 119, .mov (.t 15), none⟩,
 ⟨some 120, .call (.k (.d (.func (.func 59) [] []))) [(.t 118), (.t 119)], none⟩,
 ⟨some 121, .call (.k (.d (.func (.func 15) [] []))) [(.t 117), (.t 120)], none⟩,
 ⟨some 116, .mov (.t 121), none⟩,
 ⟨some 122, .extract 0 (.t 116), none⟩,
 ⟨some 123, .extract 1 (.t 116), none⟩,
 ⟨some 16, .mov (.t 122), none⟩,
 ⟨some 17, .mov (.t 123), none⟩]
def q0s : List SOper := [
 ⟨some 124, .mov (.t 17), none⟩,
 ⟨some 125, .load (some 3) (.t 6), none⟩,
 ⟨some 126, .mov (.t 15), none⟩,
 ⟨some 127, .call (.k (.d (.func (.func 60) [] []))) [(.t 125), (.t 126)], none⟩,
 ⟨some 128, .len (.t 127), none⟩,
 ⟨some 129, .bin .gtr (.t 128) (.k (.d (.int .i64 0))), none⟩,
 ⟨some 130, .eqb true (.t 124) (.t 129), none⟩,
 ⟨some 131, .mov (.t 130), none⟩,
 ⟨some 132, .mov (.t 16), some (131, false)⟩,
 ⟨some 133, .load (some 3) (.t 6), some (131, false)⟩,
 ⟨some 134, .mov (.t 15), some (131, false)⟩,
 ⟨some 135, .call (.k (.d (.func (.func 60) [] []))) [(.t 133), (.t 134)], some (131, false)⟩,
 ⟨some 136, .call (.k (.d (.func (.func 64) [] []))) [(.t 132), (.t 135)], some (131, false)⟩,
 ⟨some 137, .not (.t 136), some (131, false)⟩,
 ⟨some 138, .pick (.t 131) (.k (.d (.bool true))) (.t 137), none⟩]
def q0t : List SOper := [
 ⟨some 139, .build [(.int .i64 0), (.int .i64 0), .nilsl] [], none⟩,
 ⟨none, .store (some 3) (.t 4) (.t 139), none⟩,
 ⟨some 5, .mov (.k (.d (.int .i64 4))), none⟩]
def q0u : List SOper := [
 ⟨some 140, .bin .add (.t 113) (.k (.d (.int .i64 1))), none⟩,
 ⟨some 113, .mov (.t 140), none⟩]
def qsq : SCode := (.seq (.region q0p 0 []) (.seq (.cond (.t 114) .skip (.exit 2)) (.seq (.block 3 (.seq (.region q0q 0 []) (.seq (.region q0r 0 []) (.seq (.region q0s 0 []) (.cond (.t 138) (.seq (.region q0t 0 []) .ret) .skip))))) (.region q0u 0 []))))
theorem xg4 : qg qsq.eq_1 := qh qsq.eq_1
def q0v : List SOper := [
 ⟨some 141, .load (some 3) (.t 6), none⟩,
 ⟨none, .store (some 3) (.t 4) (.t 141), none⟩,
 ⟨some 5, .mov (.k (.d (.int .i64 0))), none⟩]
def s23j : SCode := (.seq (.region xdw 1 []) (.seq (.seq (.region xdx 0 []) (.cond (.t 20) (.seq (.region xdy 0 []) .ret) .skip)) (.seq (.region xdz 1 []) (.seq (.region xd0 0 []) (.seq (.seq (.region xd1 0 []) (.cond (.t 29) (.seq (.region xd2 1 []) (.region xd3 0 [])) .skip)) (.seq (.seq (.pause (.region xd4 0 [])) (.cond (.t 60) (.seq (.region xd5 0 []) .ret) .skip)) (.seq (.seq (.region q0e 0 []) (.block 0 (.loop qsp))) (.seq (.seq (.region q0m 0 []) (.cond (.t 111) (.seq (.region q0n 0 []) .ret) .skip)) (.seq (.seq (.region q0o 0 []) (.block 2 (.loop qsq))) (.seq (.region q0v 0 []) .ret))))))))))
theorem zi2 : qg s23j.eq_1 := qh s23j.eq_1
theorem x2z : qa xdw.eq_1 := qc
theorem x20 : qa xdx.eq_1 := qc
theorem x21 : qa xdy.eq_1 := qc
theorem x22 : qa xdz.eq_1 := qc
theorem x23 : qa xd0.eq_1 := qc
theorem x24 : qa xd1.eq_1 := qc
theorem x25 : qa xd2.eq_1 := qc
theorem x26 : qa xd3.eq_1 := qc
theorem x27 : qa xd4.eq_1 := qc
theorem x28 : qa xd5.eq_1 := qc
theorem xg5 : qa q0e.eq_1 := qc
theorem xg6 : qa q0f.eq_1 := qc
theorem xg7 : qa q0g.eq_1 := qc
theorem xg8 : qa q0h.eq_1 := qc
theorem xg9 : qa q0i.eq_1 := qc
theorem xha : qa q0j.eq_1 := qc
theorem xhb : qa q0k.eq_1 := qc
theorem xhc : qa q0l.eq_1 := qc
theorem xhd : qa q0m.eq_1 := qc
theorem xhe : qa q0n.eq_1 := qc
theorem xhf : qa q0o.eq_1 := qc
theorem xhg : qa q0p.eq_1 := qc
theorem xhh : qa q0q.eq_1 := qc
theorem xhi : qa q0r.eq_1 := qc
theorem xhj : qa q0s.eq_1 := qc
theorem xhk : qa q0t.eq_1 := qc
theorem xhl : qa q0u.eq_1 := qc
theorem xhm : qa q0v.eq_1 := qc
attribute [go_sem] x2z x20 x21 x22 x23 x24 x25 x26 x27 x28 xg5 xg6 xg7 xg8 xg9 xha xhb xhc xg3 xhd xhe xhf xhg xhh xhi xhj xhk xhl xg4 xhm zi2
theorem zgc : FnIs Try.prog 23 Try.f23 [] news s23j [.cell 4 (some 3), .tmp 5] 142 := x5 follows Try.func23
end
def ym : AObj := .row [.d (.int .i64 0), .d (.int .i64 0), .d .nilsl]
def SL0 (s : Sto) (name : List UInt8) (g : Option (List UInt8)) (x : Unit) : St :=
 ⟨[(0, true, .d (.ptr 0 0)), (1, true, .d (.str name)), (4, true, .d (.ptr 2 0)), (6, true, .d (.ptr 3 0)), (7, true, .d (.sl 1 (qe (optV g)))), (8, true, .d (.bool g.isSome))],
  [stoO s 1, mapO s.m, ym, .row [.d (.int .i64 (qa1 g).1), .d (.int .i64 (qa1 g).2), .d .nilsl]], [], 1⟩
def SL1 (s : Sto) (name : List UInt8) (g : Option (List UInt8)) (a c : Int) (k : Nat) (l : List Pk) : St :=
 ⟨[(0, true, .d (.ptr 0 0)), (1, true, .d (.str name)), (4, true, .d (.ptr 2 0)), (6, true, .d (.ptr 3 0)), (7, true, .d (.sl 1 (qe (optV g)))), (8, true, .d (.bool g.isSome)), (10, true, .d (.int .i64 (k : Nat)))],
  [stoO s 1, mapO s.m, ym, .row [.d (.int .i64 a), .d (.int .i64 c), .own 0 9 (l.map qk)]], [0], 1⟩
def SL2 (s : Sto) (name : List UInt8) (a c : Int) (d : Nat) (l : List Pk) : St :=
 ⟨[(0, true, .d (.ptr 0 0)), (1, true, .d (.str name)), (4, true, .d (.ptr 2 0)), (6, true, .d (.ptr 3 0)), (113, true, .d (.int .i64 (d : Nat)))],
  [stoO s 1, mapO s.m, ym, .row [.d (.int .i64 a), .d (.int .i64 c), .own 0 9 (l.map qk)]], [0], 1⟩
set_option maxRecDepth 10000 in
theorem qtp (s : Sto) (name : List UInt8) (hm : ∀ x ∈ s.m.l, x.2.2.length ≤ 1000000) (hn : name.length ≤ 1000) :
  ql Try.prog 23 [.d (.ptr 0 0), .d (.str name)] [stoO s 1, mapO s.m] (.tup [.d (.agg (encQ (qgl s.m name).1)), .d (.int .i64 (qgl s.m name).2)]) [stoO s 1, mapO s.m] := by
 have hg := fun k => xq2 s k hm
 simp only [stoO, mapO] at hg
 refine zgc.goT ?_
 try (refine ev2 @stoO.eq_1 @mapO.eq_1 ?_; try exact True.intro)
 (repeat (with_reducible refine ob ?_)); first | refine cl F55 (qfl name) ?_ | refine clF F55 (qfl name) (fun _ => by (refine ev2 @qk.eq_1 @encQ.eq_1 ?_; try exact True.intro)) ?_
 try (refine ev ?_; try exact True.intro)
 refine jj _ (fun h => ?_) (fun h => ?_)
 ·have hb : qgl s.m name = (x7, 1) := by unfold qgl; rw [if_pos h]
  try (refine ev4 @hb @encQ.eq_1 @x7.eq_1 @List.map_nil.{0,0} ?_; try exact True.intro)
 have hb0 : (!qjk name) ≠ true := by rw [h]; simp
 try (refine ev ?_; try exact True.intro)
 (repeat (with_reducible refine ob ?_)); first | refine cl F57 (qm8 name hn) ?_ | refine clF F57 (qm8 name hn) (fun _ => by (refine ev2 @qk.eq_1 @encQ.eq_1 ?_; try exact True.intro)) ?_
 try (refine ev ?_; try exact True.intro)
 (repeat (with_reducible refine ob ?_)); refine clO [0, 1] F15 ((hg (nKey name))) ?_ (hfit := by first | exact ⟨qd, trivial⟩ | exact ⟨qd, qd, trivial⟩ | (refine ev2 @qk.eq_1 @encQ.eq_1 ?_; try exact True.intro))
 try (refine ev ?_; try exact True.intro)
 generalize hgn : mGet (nKey name) s.m = g
 have hgl : (optV g).length ≤ 1000000 := by rw [← hgn]; exact qto s.m hm _
 refine xiw (SL0 s name g) ?_ ?_
 ·cases g with
  | none =>
   simp only [Option.isSome_none]
   (repeat (with_reducible refine ob ?_)); refine no_ ?_
   try (refine ev ?_; try exact True.intro)
   refine ⟨(), ?_⟩
   try simp only [SL0, stoO, mapO, ym, qa1, Option.isSome_none, go_sem, Nat.reduceAdd, Nat.reduceMul, Nat.reduceSub, Nat.reduceEqDiff, Nat.reduceLT, Nat.reduceLeDiff, Nat.reduceBEq, reduceIte, reduceCtorEq, Int.reduceAdd, Int.reduceLT, Int.reduceLE, Int.reduceGT, Int.reduceGE, Int.reduceEq, Int.reduceNe, Int.reduceBEq, Int.reduceBNe, Int.reduceToNat, Int.reduceNeg]
  | some b =>
   have hbl : b.length ≤ 1000000000 := by simp only [optV, Option.getD_some] at hgl; omega
   have hnew := qm3 b hbl
   have r0 : (⟨b, 0, false⟩ : Rd).Ok := ⟨hbl, Nat.zero_le _⟩
   have i1 := qm6 ⟨b, 0, false⟩ r0
   have r1 := (qpu r0).1
   have i2 := qm6 _ r1
   simp only [rdO] at hnew i1 i2
   simp only [Option.isSome_some, optV, Option.getD_some]
   (repeat (with_reducible refine ob ?_)); refine qdb ?_
   try (refine ev ?_; try exact True.intro)
   refine clO [4] F61 hnew ?_
   try (refine ev ?_; try exact True.intro)
   (repeat (with_reducible refine ob ?_)); refine clO [4] F62 (i1) ?_ (hfit := by first | exact ⟨qd, trivial⟩ | exact ⟨qd, qd, trivial⟩ | (refine ev2 @qk.eq_1 @encQ.eq_1 ?_; try exact True.intro))
   try (refine ev ?_; try exact True.intro)
   (repeat (with_reducible refine ob ?_)); refine clO [4] F62 (i2) ?_ (hfit := by first | exact ⟨qd, trivial⟩ | exact ⟨qd, qd, trivial⟩ | (refine ev2 @qk.eq_1 @encQ.eq_1 ?_; try exact True.intro))
   try (refine ev ?_; try exact True.intro)
   refine ⟨(), ?_⟩
   try simp only [SL0, stoO, mapO, ym, qa1, Option.isSome_some, optV, Option.getD_some, go_sem, Nat.reduceAdd, Nat.reduceMul, Nat.reduceSub, Nat.reduceEqDiff, Nat.reduceLT, Nat.reduceLeDiff, Nat.reduceBEq, reduceIte, reduceCtorEq, Int.reduceAdd, Int.reduceLT, Int.reduceLE, Int.reduceGT, Int.reduceGE, Int.reduceEq, Int.reduceNe, Int.reduceBEq, Int.reduceBNe, Int.reduceToNat, Int.reduceNeg]
 intro _
 refine pu ?_
 generalize hx : qa1 g = x
 obtain ⟨a, c⟩ := x
 have hL : qgl s.m name = if qvz (a, c) = true then (x7, (4 : Int)) else q4p s.m name a c (qa6 s.m name (a - c).toNat (c.toNat + 1)) := by
  unfold qgl
  rw [if_neg hb0, hgn, hx]
 try (refine ev5 @SL0.eq_1 @hx @stoO.eq_1 @mapO.eq_1 @ym.eq_1 ?_; try exact True.intro)
 (repeat (with_reducible refine ob ?_))
 refine jj _ (fun h1 => ?_) (fun h1 => ?_)
 ·have hb : qgl s.m name = (x7, 4) := by rw [hL, if_pos (show qvz (a, c) = true from h1)]
  try (refine ev4 @hb @encQ.eq_1 @x7.eq_1 @List.map_nil.{0,0} ?_; try exact True.intro)
 have h1' := h1
 simp only [Bool.or_eq_false_iff, decide_eq_false_iff_not] at h1
 obtain ⟨⟨⟨c0, c1⟩, c2⟩, c3⟩ := h1
 rw [xx (by unfold I64; omega)] at c3
 obtain ⟨n, rfl⟩ : ∃ n : Nat, c = n := ⟨c.toNat, by omega⟩
 obtain ⟨w, rfl⟩ : ∃ w : Nat, a = ((n + w : Nat) : Int) := ⟨(a - n).toNat, by omega⟩
 have e1 : (((n + w : Nat) : Int) - (n : Int)).toNat = w := by omega
 have e2 : IntKind.i64.wrap ((n : Int) + 1) = ((n + 1 : Nat) : Int) := by rw [xx (by unfold I64; omega)]; omega
 rw [if_neg (by rw [show qvz (((n + w : Nat) : Int), (n : Int)) = false from h1']; simp), e1, Int.toNat_natCast] at hL
 try (refine ev1 @e2 ?_; try exact True.intro)
 refine qy (fun x : { x : Nat × List Pk // x.1 ≤ w ∧ x.2.length = x.1 ∧ (∀ p ∈ x.2, p.W ∧ p.Sm) ∧ qa6 s.m name w (n + 1) = (qa6 s.m name (w - x.1) (n + 1 + x.1)).map (x.2 ++ ·) } => SL1 s name g (n + w : Nat) n (n + 1 + x.val.1) x.val.2) (fun x => w - x.val.1)
  ⟨(0, []), Nat.zero_le _, rfl, fun p hp => (by cases hp), by simp⟩ ?_ (fun x => ?_)
 ·try (refine ev6 @SL1.eq_1 @stoO.eq_1 @mapO.eq_1 @ym.eq_1 @List.map_nil.{0,0} @Nat.add_zero ?_; try exact True.intro)
 obtain ⟨⟨i, l⟩, x1, x2, x3, x4⟩ := x
 simp only at x1 x2 x3 x4
 try (refine ev4 @SL1.eq_1 @stoO.eq_1 @mapO.eq_1 @ym.eq_1 ?_; try exact True.intro)
 refine jj _ (fun h => ?_) (fun h => ?_)
 ·have hiw : i < w := by simp at h; omega
  have e3 : w - i = (w - (i + 1)) + 1 := by omega
  have e4 : (((n + 1 + i : Nat) : Int)).tmod 4 = (((n + 1 + i) % 4 : Nat) : Int) := by rw [Int.tmod_eq_emod_of_nonneg (by omega)]; omega
  rw [e3, qa6] at x4
  have hkd := qvy (optV (mGet (sKey name ((n + 1 + i) % 4)) s.m)) (by have := qto s.m hm (sKey name ((n + 1 + i) % 4)); omega)
  obtain ⟨w1, w2⟩ := q0d (optV (mGet (sKey name ((n + 1 + i) % 4)) s.m))
  simp only [qk] at hkd
  try (refine ev1 @e4 ?_; try exact True.intro)
  (repeat (with_reducible refine ob ?_)); first | refine cl F59 (qgk name ((n + 1 + i) % 4) hn (Nat.mod_lt _ (by decide))) ?_ | refine clF F59 (qgk name ((n + 1 + i) % 4) hn (Nat.mod_lt _ (by decide))) (fun _ => by (refine ev2 @qk.eq_1 @encQ.eq_1 ?_; try exact True.intro)) ?_
  try (refine ev ?_; try exact True.intro)
  (repeat (with_reducible refine ob ?_)); refine clO [0, 1] F15 ((hg (sKey name ((n + 1 + i) % 4)))) ?_ (hfit := by first | exact ⟨qd, trivial⟩ | exact ⟨qd, qd, trivial⟩ | (refine ev2 @qk.eq_1 @encQ.eq_1 ?_; try exact True.intro))
  try (refine ev ?_; try exact True.intro)
  (repeat (with_reducible refine ob ?_)); first | refine cl F63 (hkd) ?_ | refine clF F63 (hkd) (fun _ => by (refine ev2 @qk.eq_1 @encQ.eq_1 ?_; try exact True.intro)) ?_
  try (refine ev ?_; try exact True.intro)
  have hat : ldAt s.m name (n + 1 + i) = yl (optV (mGet (sKey name ((n + 1 + i) % 4)) s.m)) := rfl
  rw [hat] at x4
  generalize yl (optV (mGet (sKey name ((n + 1 + i) % 4)) s.m)) = y at hkd w1 w2 x4 ⊢
  obtain ⟨p, e⟩ := y
  simp only at w1 w2 x4
  refine jj _ (fun h => ?_) (fun h => ?_)
  ·have hb : qgl s.m name = (x7, 4) := by rw [hL, x4, if_pos (by simpa using h)]; rfl
   try (refine ev4 @hb @encQ.eq_1 @x7.eq_1 @List.map_nil.{0,0} ?_; try exact True.intro)
  ·rw [if_neg (by simpa using h), Option.map_map] at x4
   try (refine ev ?_; try exact True.intro)
   (repeat (with_reducible refine ob ?_))
   refine ⟨⟨(i + 1, l ++ [p]), hiw, by simp [x2], fun q hq => ?_, ?_⟩, ?_, by dsimp only; omega⟩
   ·rcases List.mem_append.1 hq with hq | hq
    ·exact x3 q hq
    ·simp at hq; subst hq; exact ⟨w1, w2⟩
   ·rw [x4]
    congr 1
    funext z; simp
   ·have hwr : IntKind.i64.wrap ((n : Int) + 1 + (i : Int) + 1) = (n : Int) + 1 + ((i : Int) + 1) := by rw [xx (by unfold I64; omega)]; omega
    try (refine ev8 @SL1.eq_1 @stoO.eq_1 @mapO.eq_1 @ym.eq_1 @List.map_append.{0,0} @List.map_cons.{0,0} @List.map_nil.{0,0} @qk.eq_1 ?_; try exact True.intro)
    try (refine ev1 @hwr ?_; try exact True.intro)
 have hiw : i = w := by simp at h; omega
 subst hiw
 rw [Nat.sub_self, qa6] at x4
 rw [x4, Option.map_some, List.append_nil] at hL
 generalize hq : (⟨((n + i : Nat) : Int), (n : Int), l⟩ : Qu) = q
 have hqe : encQ q = [.int .i64 ((n + i : Nat) : Int), .int .i64 (n : Int), .sl 9 (l.map qk)] := by rw [← hq]; rfl
 have hqs : q.Sm := by rw [← hq]; exact ⟨by simp only; omega, fun p hp => (x3 p hp).2⟩
 have hqw : q.W := by rw [← hq]; exact ⟨by unfold I64; simp only; omega, by unfold I64; simp only; omega, fun p hp => (x3 p hp).1⟩
 simp only [q4p, hq] at hL
 have kv := wq q hqs
 have kn := qfm q hqw.a hqw.c
 have ks := fun d => qfn q d hqs hqw
 simp only [hqe] at kv kn ks
 try (refine ev ?_; try exact True.intro)
 (repeat (with_reducible refine ob ?_)); first | refine cl F50 (kv) ?_ | refine clF F50 (kv) (fun _ => by (refine ev2 @qk.eq_1 @encQ.eq_1 ?_; try exact True.intro)) ?_
 try (refine ev ?_; try exact True.intro)
 (repeat (with_reducible refine ob ?_)); first | refine cl F58 (kn) ?_ | refine clF F58 (kn) (fun _ => by (refine ev2 @qk.eq_1 @encQ.eq_1 ?_; try exact True.intro)) ?_
 try (refine ev ?_; try exact True.intro)
 (repeat (with_reducible refine ob ?_)); first | refine cl F58 (kn) ?_ | refine clF F58 (kn) (fun _ => by (refine ev2 @qk.eq_1 @encQ.eq_1 ?_; try exact True.intro)) ?_
 try (refine ev ?_; try exact True.intro)
 (repeat (with_reducible refine ob ?_)); first | refine cl F64 (qbk (optV g) (kk q)) ?_ | refine clF F64 (qbk (optV g) (kk q)) (fun _ => by (refine ev2 @qk.eq_1 @encQ.eq_1 ?_; try exact True.intro)) ?_
 try (refine ev ?_; try exact True.intro)
 (repeat (with_reducible refine ob ?_))
 refine jj _ (fun h => ?_) (fun h => ?_)
 ·have h1 : qjm s.m name q = true := by unfold qjm; rw [hgn]; exact h
  have hb : qgl s.m name = (x7, 4) := by rw [hL, h1]; rfl
  try (refine ev4 @hb @encQ.eq_1 @x7.eq_1 @List.map_nil.{0,0} ?_; try exact True.intro)
 have h1 : qjm s.m name q = false := by unfold qjm; rw [hgn]; exact h
 try (refine ev ?_; try exact True.intro)
 refine qy (fun x : { d : Nat // d ≤ 4 ∧ qco (fun d => !qlq s.m name q d) d = true } => SL2 s name (n + i : Nat) n x.val l) (fun x => 4 - x.val) ⟨0, Nat.zero_le _, rfl⟩ ?_ (fun x => ?_)
 ·try (refine ev5 @SL2.eq_1 @stoO.eq_1 @mapO.eq_1 @ym.eq_1 @Int.ofNat_zero ?_; try exact True.intro)
 obtain ⟨d, d1, d2⟩ := x
 try (refine ev4 @SL2.eq_1 @stoO.eq_1 @mapO.eq_1 @ym.eq_1 ?_; try exact True.intro)
 refine jj _ (fun h => ?_) (fun h => ?_)
 ·have hd : d < 4 := by simp at h; omega
  try (refine ev ?_; try exact True.intro)
  (repeat (with_reducible refine ob ?_)); first | refine cl F59 (qgk name d hn hd) ?_ | refine clF F59 (qgk name d hn hd) (fun _ => by (refine ev2 @qk.eq_1 @encQ.eq_1 ?_; try exact True.intro)) ?_
  try (refine ev ?_; try exact True.intro)
  (repeat (with_reducible refine ob ?_)); refine clO [0, 1] F15 ((hg (sKey name d))) ?_ (hfit := by first | exact ⟨qd, trivial⟩ | exact ⟨qd, qd, trivial⟩ | (refine ev2 @qk.eq_1 @encQ.eq_1 ?_; try exact True.intro))
  try (refine ev ?_; try exact True.intro)
  (repeat (with_reducible refine ob ?_)); first | refine cl F60 (ks d) ?_ | refine clF F60 (ks d) (fun _ => by (refine ev2 @qk.eq_1 @encQ.eq_1 ?_; try exact True.intro)) ?_
  try (refine ev ?_; try exact True.intro)
  (repeat (with_reducible refine ob ?_)); first | refine cl F60 (ks d) ?_ | refine clF F60 (ks d) (fun _ => by (refine ev2 @qk.eq_1 @encQ.eq_1 ?_; try exact True.intro)) ?_
  try (refine ev ?_; try exact True.intro)
  (repeat (with_reducible refine ob ?_)); first | refine cl F64 (qbk (optV (mGet (sKey name d) s.m)) (jl q d)) ?_ | refine clF F64 (qbk (optV (mGet (sKey name d) s.m)) (jl q d)) (fun _ => by (refine ev2 @qk.eq_1 @encQ.eq_1 ?_; try exact True.intro)) ?_
  try (refine ev ?_; try exact True.intro)
  (repeat (with_reducible refine ob ?_))
  refine jj _ (fun h => ?_) (fun h => ?_)
  ·have h2 : qlq s.m name q d = true := h
   have hb : qgl s.m name = (x7, 4) := by rw [hL, h1, qth hd (by rw [h2]; rfl)]; rfl
   try (refine ev4 @hb @encQ.eq_1 @x7.eq_1 @List.map_nil.{0,0} ?_; try exact True.intro)
  ·have h2 : qlq s.m name q d = false := h
   try (refine ev ?_; try exact True.intro)
   refine ⟨⟨d + 1, hd, qf8 d2 (by rw [h2]; rfl)⟩, ?_, by dsimp only; omega⟩
   try (refine ev5 @SL2.eq_1 @stoO.eq_1 @mapO.eq_1 @ym.eq_1 (qv (show d < 9223372036854775807 by omega)) ?_; try exact True.intro)
 ·have hd : d = 4 := by simp at h; omega
  subst hd
  have hb : qgl s.m name = (q, 0) := by rw [hL, h1, d2]; rfl
  try (refine ev2 @hb @hqe ?_; try exact True.intro)
end Go.Proofs.Ytinnaedmdoengaa
namespace Go.Proofs.Ytinnaedmdoengaa
open Go.Abs
set_option linter.unusedSimpArgs false
set_option linter.unusedVariables false
theorem w8 {n : Int} (h0 : 0 ≤ n) (h1 : n ≤ 1099511627776) : (wInt n).length ≤ 6 :=
 qf5 5 _ (by
  unfold zz; rw [if_pos h0]; have : (128 : Nat) ^ (5 + 1) = 4398046511104 := by decide
  omega)
theorem qjn {p : Pk} (h : qz p = true) : (∀ x ∈ zt p, 0 ≤ x ∧ x ≤ 1099511627776) ∧ (∀ v ∈ p.values, qac v = true) ∧ ∀ x ∈ p.clock, 0 ≤ x ∧ x ≤ 1099511627776 := by
 unfold qz qk7 at h
 simp only [Bool.and_eq_true, decide_eq_true_eq] at h
 obtain ⟨⟨⟨⟨k1, k2⟩, k3⟩, k4⟩, h⟩ := h
 have hd : (∀ x ∈ [p.epoch, p.from_, p.to, p.seq, p.label], 0 ≤ x ∧ x ≤ 1099511627776) → ∀ x ∈ zt p, 0 ≤ x ∧ x ≤ 1099511627776 := by
  intro h x hx
  simp only [zt, List.mem_cons] at hx
  rcases hx with rfl | rfl | hx
  ·omega
  ·omega
  ·exact h x (by simpa using hx)
 have bareC : bare p = true → p.epoch = 0 ∧ (∀ v ∈ p.values, qac v = true) ∧ ∀ x ∈ p.clock, 0 ≤ x ∧ x ≤ 1099511627776 := by
  intro hb
  simp only [bare, Bool.and_eq_true, beq_iff_eq] at hb
  have h1 : p.values = [] := List.eq_nil_of_length_eq_zero (by omega)
  have h2 : p.clock = [] := List.eq_nil_of_length_eq_zero (by omega)
  rw [h1, h2]
  exact ⟨hb.1.1, fun v hv => (by cases hv), fun v hv => (by cases hv)⟩
 split at h
 ·simp only [data, qc2, role, Bool.and_eq_true, Bool.or_eq_true, decide_eq_true_eq, beq_iff_eq, Bool.not_eq_true', List.any_eq_false, Bool.or_eq_false_iff, decide_eq_false_iff_not, Bool.not_eq_false', not_or, Bool.not_eq_true] at h
  refine ⟨hd fun x hx => ?_, fun v hv => ?_, fun x hx => ?_⟩
  ·simp only [List.mem_cons, List.not_mem_nil, or_false] at hx
   rcases hx with rfl | rfl | rfl | rfl | rfl <;> omega
  ·have := h.1.2 v hv; simpa using this
  ·have := h.2 x hx; omega
 ·split at h
  ·simp only [ack, qc2, role, Bool.and_eq_true, decide_eq_true_eq, beq_iff_eq] at h
   obtain ⟨b1, b2, b3⟩ := bareC h.1.2
   refine ⟨hd fun x hx => ?_, b2, b3⟩
   simp only [List.mem_cons, List.not_mem_nil, or_false] at hx
   rcases hx with rfl | rfl | rfl | rfl | rfl <;> omega
  ·simp only [order, role, Bool.and_eq_true, Bool.or_eq_true, decide_eq_true_eq, beq_iff_eq] at h
   obtain ⟨b1, b2, b3⟩ := bareC h.1.1.2
   refine ⟨hd fun x hx => ?_, b2, b3⟩
   simp only [List.mem_cons, List.not_mem_nil, or_false] at hx
   rcases hx with rfl | rfl | rfl | rfl | rfl <;> omega
theorem qlr {p : Pk} (h : qz p = true) : ∀ x ∈ zt p, 0 ≤ x ∧ x ≤ 1099511627776 := (qjn h).1
theorem qhc {p : Pk} (h : qz p = true) : ∀ v ∈ p.values, qac v = true := (qjn h).2.1
theorem qjo {p : Pk} (h : qz p = true) : ∀ x ∈ p.clock, 0 ≤ x ∧ x ≤ 1099511627776 := (qjn h).2.2
theorem qv0 (s : List UInt8) : qbj (qcs s) = (s, 0) := by
 have h8 := k8 (fnv 14695981039346656037 s)
 have hl : (qcs s).length = s.length + 8 := by rw [qcs, List.length_append, h8]
 have h1 : (qcs s).take ((qcs s).length - 8) = s := by rw [hl, Nat.add_sub_cancel, qcs, List.take_left]
 have h2 : (qcs s).drop ((qcs s).length - 8) = be8 (fnv 14695981039346656037 s) := by rw [hl, Nat.add_sub_cancel, qcs, List.drop_left]
 unfold qbj
 rw [if_neg (by omega), h1, h2, if_pos rfl]
theorem qqb {s : List UInt8} (hs : s.length ≤ 1000000000) {hd : List Int} {rest : List UInt8} (h : s = hd.flatMap wInt ++ rest) (hi : ∀ x ∈ hd, I64 x) :
  ∀ n, n ≤ hd.length → yk n ⟨s, 0, false⟩ = (hd.take n, ⟨s, s.length - ((hd.drop n).flatMap wInt ++ rest).length, false⟩) ∧ s.drop (s.length - ((hd.drop n).flatMap wInt ++ rest).length) = (hd.drop n).flatMap wInt ++ rest
 | 0, _ => by
  have e : s.length - (hd.flatMap wInt ++ rest).length = 0 := by rw [← h, Nat.sub_self]
  simp only [yk, List.take_zero, List.drop_zero, e, and_true]
  exact ⟨trivial, h⟩
 | n + 1, hn => by
  obtain ⟨h1, h2⟩ := qqb hs h hi n (by omega)
  have hc := List.drop_eq_getElem_cons (show n < hd.length by omega)
  rw [hc, List.flatMap_cons, List.append_assoc] at h1 h2
  have hx := hi _ (List.getElem_mem (show n < hd.length by omega))
  have hr : (⟨s, s.length - (wInt hd[n] ++ ((hd.drop (n + 1)).flatMap wInt ++ rest)).length, false⟩ : Rd).Ok := ⟨hs, Nat.sub_le _ _⟩
  have hd1 := wd qjh hr rfl (v := hd[n]) (l := (hd.drop (n + 1)).flatMap wInt ++ rest) (by simp only [h2]; exact w7 hx _)
  refine ⟨?_, (ki (Nat.sub_le _ _) h2).1⟩
  rw [yk, h1, hd1, List.take_succ_eq_append_getElem (show n < hd.length by omega)]
theorem q0w {p : Pk} (hv : qz p = true) (hw : p.W) (hs : (jr p).length ≤ 1000000000) : qp6 (jr p) = (p, ⟨jr p, (jr p).length, false⟩) := by
 obtain ⟨f1, f2⟩ := qjc hv
 have h0 : jr p = (zt p).flatMap wInt ++ (wAVs p.values ++ qgb p.clock) := by rw [jr, List.append_assoc]
 obtain ⟨h1, h2⟩ := qqb hs h0 hw.h 7 (Nat.le_refl _)
 rw [show (zt p).drop 7 = [] from rfl, List.flatMap_nil, List.nil_append] at h1 h2
 rw [show (zt p).take 7 = zt p from rfl] at h1
 have d1 : qhl 4 dAV (wAVs p.values ++ qgb p.clock) = some (p.values, qgb p.clock) := qp4 (most := 4) (by decide) f1 (fun x hx l => xgw (hw.v x hx) (qhc hv x hx) l) _
 have d2 : qhl 6 dInt (qgb p.clock ++ []) = some (p.clock, []) := qp4 (most := 6) (by decide) f2 (fun x hx l => w7 (hw.c x hx) l) []
 have a1 := wd (xgy 4) (r := ⟨jr p, (jr p).length - (wAVs p.values ++ qgb p.clock).length, false⟩) ⟨hs, Nat.sub_le _ _⟩ rfl (v := p.values) (l := qgb p.clock)
  (by simp only [h2]; exact d1)
 have h3 := (ki (Nat.sub_le _ _) h2).1
 have a2 := wd (q4j 6) (r := ⟨jr p, (jr p).length - (qgb p.clock).length, false⟩) ⟨hs, Nat.sub_le _ _⟩ rfl (v := p.clock) (l := [])
  (by simp only [h3]; rw [List.append_nil] at d2; exact d2)
 simp only at a1 a2
 simp only [qp6, h1, a1, a2, List.length_nil, Nat.sub_zero]
 rfl
theorem qsr {p : Pk} (hv : qz p = true) (hw : p.W) (hs : (jr p).length ≤ 1000000000) : yl (qcs (jr p)) = (p, 0) := by
 unfold yl
 rw [qv0, q0w hv hw hs, if_neg (by simp), if_neg]
 simp [hv, rEnd]
theorem xhn {v : AV} (hp : qac v = true) (hs : v.Sm) : (wAV v).length ≤ 60 := by
 obtain ⟨k, n, s⟩ := v
 unfold qac at hp
 have hk : k = 1 ∨ k = 2 := by grind
 have h1 := w8 (n := k) (by omega) (by omega)
 have h2 := x6 hs.2.1
 unfold wAV
 rw [List.length_append]
 simp only at h1 h2 ⊢
 split
 ·omega
 ·split
  ·have h40 : (s.length : Int) ≤ 40 := by grind
   have h3 := w8 (n := s.length) (by omega) (by omega)
   simp only [wv, List.length_append]; omega
  ·simp only [List.length_nil]; omega
theorem xd6 {p : Pk} (hv : qz p = true) (hw : p.W) : (jr p).length ≤ 340 := by
 obtain ⟨f1, f2⟩ := qjc hv
 have a1 := ws wInt 6 (zt p) fun x hx => w8 (qlr hv x hx).1 (qlr hv x hx).2
 have a2 := ws wAV 60 p.values fun x hx => xhn (qhc hv x hx) (hw.v x hx)
 have a3 := ws wInt 6 p.clock fun x hx => w8 (qjo hv x hx).1 (qjo hv x hx).2
 have b2 := w8 (n := p.values.length) (by omega) (by omega)
 have b3 := w8 (n := p.clock.length) (by omega) (by omega)
 have h7 : (zt p).length = 7 := rfl
 simp only [jr, wAVs, qgb, List.length_append]
 omega
theorem xho (p : Pk) (hw : p.W) : (vb p).1.length ≤ 348 := by
 unfold vb
 split
 ·rename_i h
  have := xd6 h hw
  simp only [qcs, List.length_append, k8]; omega
 ·simp
theorem xhp {p : Pk} (hv : qz p = true) (hw : p.W) : yl (vb p).1 = (p, 0) := by
 have hs := xd6 hv hw
 rw [vb, if_pos hv]
 exact qsr hv hw (by omega)
end Go.Proofs.Ytinnaedmdoengaa
namespace Go.Proofs.Ytinnaedmdoengaa
open Go.Abs
set_option linter.unusedSimpArgs false
set_option linter.unusedVariables false
def qde (v : List UInt8) : Option (List UInt8) := if v = [] then none else some v
theorem qss (v : List UInt8) : optV (qde v) = v := by unfold qde optV; split <;> simp_all
theorem q0x (v : List UInt8) : (qde v).isSome = decide ((v.length : Int) > 0) := by
 cases v with
 | nil => rfl
 | cons c v => simp [qde]
def Rep (m : Cont) (name : List UInt8) (q : Qu) : Prop := mGet (nKey name) m = qde (kk q) ∧ ∀ d, d < 4 → mGet (sKey name d) m = qde (jl q d)
theorem qda (k : List UInt8) : ∀ (l : List OpS) (a : Option (List UInt8)) (l' : List OpS), yo k a (l ++ l') = yo k (yo k a l) l'
 | [], _, _ => rfl
 | o :: l, a, l' => qda k l _ l'
theorem qls {k o n : List UInt8} : yo k (qde o) (chg k o n) = qde n := by
 unfold chg
 split
 ·rename_i h; rw [h]; rfl
 ·simp only [yo, if_true, qde]
  by_cases hn : n = [] <;> simp [hn]
theorem yf {k k' o n : List UInt8} {a : Option (List UInt8)} (h : k' ≠ k) : yo k a (chg k' o n) = a := by
 unfold chg
 split
 ·rfl
 ·simp only [yo, if_neg h]
theorem xd7 (name : List UInt8) {d : Nat} (hd : d < 4) : nKey name ≠ sKey name d := by
 intro h
 have := List.append_cancel_left h
 have h4 : d = 0 ∨ d = 1 ∨ d = 2 ∨ d = 3 := by omega
 rcases h4 with rfl | rfl | rfl | rfl <;> exact absurd this (by decide)
theorem x29 (name : List UInt8) {d e : Nat} (hd : d < 4) (he : e < 4) (h : d ≠ e) : sKey name d ≠ sKey name e := by
 intro hk
 have := List.append_cancel_left hk
 have h4 : d = 0 ∨ d = 1 ∨ d = 2 ∨ d = 3 := by omega
 have h5 : e = 0 ∨ e = 1 ∨ e = 2 ∨ e = 3 := by omega
 rcases h4 with rfl | rfl | rfl | rfl <;> rcases h5 with rfl | rfl | rfl | rfl <;> first | exact absurd rfl h | exact absurd this (by decide)
theorem qqc (a b : Qu) (name : List UInt8) : ∀ D, D ≤ 4 → yo (nKey name) (qde (kk a)) (je a b name D) = qde (kk b)
 | 0, _ => qls
 | D + 1, h => by rw [je, qda, qqc a b name D (by omega), yf (Ne.symm (xd7 name (by omega)))]
theorem qqd (a b : Qu) (name : List UInt8) {e : Nat} (he : e < 4) : ∀ D, D ≤ 4 → yo (sKey name e) (qde (jl a e)) (je a b name D) = qde (if e < D then jl b e else jl a e)
 | 0, _ => by rw [je, yf (xd7 name he)]; simp
 | D + 1, h => by
  rw [je, qda, qqd a b name he D (by omega)]
  by_cases hD : D = e
  ·subst hD
   rw [if_neg (by omega), qls, if_pos (by omega)]
  ·rw [yf (x29 name (by omega) he hD)]
   by_cases hl : e < D
   ·rw [if_pos hl, if_pos (by omega)]
   ·rw [if_neg hl, if_neg (by omega)]
theorem qgm (a b : Qu) (name k : List UInt8) (h0 : nKey name ≠ k) (hs : ∀ d, d < 4 → sKey name d ≠ k) (x : Option (List UInt8)) : ∀ D, D ≤ 4 → yo k x (je a b name D) = x
 | 0, _ => yf h0
 | D + 1, h => by rw [je, qda, qgm a b name k h0 hs x D (by omega), yf (hs D (by omega))]
structure QV (q : Qu) : Prop where
 c0 : 0 ≤ q.cons
 c1 : q.cons ≤ q.acc
 c2 : q.acc ≤ 1099511627776
 len : (q.items.length : Int) = q.acc - q.cons
 few : q.items.length ≤ 4
 it : ∀ i (h : i < q.items.length), qz q.items[i] = true ∧ q.items[i].seq = q.cons + 1 + i
theorem qv1 {q : Qu} (h : qar q = true) : QV q := by
 unfold qar at h
 simp only [Bool.and_eq_true, decide_eq_true_eq, beq_iff_eq] at h
 obtain ⟨ha, ⟨⟨⟨c0, c1⟩, c2⟩, c3⟩, c4⟩ := h
 rw [xx (by unfold I64; omega)] at c3
 refine ⟨c0, c1, c2, c3, by omega, fun i hi => ?_⟩
 have := ye.1 ha i hi
 unfold qkh qd0 at this
 simp only [Bool.and_eq_true, beq_iff_eq] at this
 rw [qbx hi, xx (n := q.cons + 1) (by unfold I64; omega), xx (by unfold I64; omega)] at this
 exact ⟨this.1.1.2, this.2⟩
theorem QV.I {q : Qu} (h : QV q) : I64 q.acc ∧ I64 q.cons := by
 obtain ⟨c0, c1, c2, _, _, _⟩ := h
 unfold I64; omega
theorem q0y {q : Qu} (h : QV q) {i : Nat} (hi : i < q.items.length) {d : Nat} (hd : (d : Int) = (q.cons + 1 + i).tmod 4) : jl q d = (vb q.items[i]).1 := by
 have hf : q.items.find? (fun p => p.seq.tmod 4 == (d : Int)) = some q.items[i] := by
  refine q0a (List.find?_eq_none.2 fun p hp => ?_) hi ?_
  ·obtain ⟨j, hj, rfl⟩ := List.getElem_of_mem hp
   rw [List.length_take] at hj
   rw [List.getElem_take, (h.it j (by omega)).2, hd]
   have h1 := h.c0
   have h2 := h.few
   rw [Int.tmod_eq_emod_of_nonneg (by omega), Int.tmod_eq_emod_of_nonneg (by omega)]
   simp only [beq_iff_eq]
   omega
  ·rw [(h.it i hi).2, hd]; simp
 unfold jl
 rw [hf]
theorem q0z {q : Qu} (h : QV q) {d : Nat} (hd : ∀ i : Nat, i < q.items.length → (d : Int) ≠ (q.cons + 1 + i).tmod 4) : jl q d = [] := by
 have hf : q.items.find? (fun p => p.seq.tmod 4 == (d : Int)) = none := List.find?_eq_none.2 fun p hp => by
  obtain ⟨j, hj, rfl⟩ := List.getElem_of_mem hp
  rw [(h.it j hj).2]
  have := hd j hj
  simp only [beq_iff_eq]
  omega
 unfold jl
 rw [hf]
theorem qjp {q : Qu} (h : QV q) : qa1 (qde (kk q)) = (q.acc, q.cons) := by
 obtain ⟨i1, i2⟩ := h.I
 by_cases hz : q.acc = 0 ∧ q.cons = 0
 ·have : kk q = [] := by unfold kk; rw [if_pos hz]
  rw [this]
  simp only [qde, if_true, qa1, hz.1, hz.2]
 ·have hb : kk q = wInt q.acc ++ wInt q.cons := by unfold kk; rw [if_neg hz]
  have hp := q3e q.acc
  have l1 := x6 i1
  have l2 := x6 i2
  have hne : kk q ≠ [] := by rw [hb]; intro h; have := congrArg List.length h; rw [List.length_append, List.length_nil] at this; omega
  have hl : (kk q).length ≤ 1000000000 := by rw [hb, List.length_append]; omega
  have r1 := wd qjh (r := ⟨kk q, 0, false⟩) ⟨hl, Nat.zero_le _⟩ rfl (v := q.acc) (l := wInt q.cons) (by simp only [List.drop_zero, hb]; exact w7 i1 _)
  have ht := (ki (b := kk q) (p := 0) (q := wInt q.acc) (l := wInt q.cons) (Nat.zero_le _) (by rw [List.drop_zero, hb])).1
  have r2 := wd qjh (r := ⟨kk q, (kk q).length - (wInt q.cons).length, false⟩) ⟨hl, Nat.sub_le _ _⟩ rfl (v := q.cons) (l := []) (by simp only [ht]; have := w7 i2 []; rwa [List.append_nil] at this)
  simp only at r1 r2
  simp only [qde, if_neg hne, qa1, r1, r2]
theorem qlt {m : Cont} {name : List UInt8} {q : Qu} (h : QV q) (hw : q.W) (hr : Rep m name q) : ∀ n i, n + i = q.items.length → qa6 m name n (q.cons.toNat + 1 + i) = some (q.items.drop i)
 | 0, i, hi => by rw [qa6, List.drop_of_length_le (by omega)]
 | n + 1, i, hi => by
  have h0 := h.c0
  have hil : i < q.items.length := by omega
  have hk : ((q.cons.toNat + 1 + i) % 4 : Nat) = (((q.cons.toNat + 1 + i) % 4 : Nat) : Int) := rfl
  have hsl : jl q ((q.cons.toNat + 1 + i) % 4 : Nat) = (vb q.items[i]).1 := q0y h hil (by rw [Int.tmod_eq_emod_of_nonneg (by omega)]; omega)
  have hat : ldAt m name (q.cons.toNat + 1 + i) = (q.items[i], 0) := by
   unfold ldAt
   rw [hr.2 _ (Nat.mod_lt _ (by decide)), hsl, qss]
   exact xhp (h.it i hil).1 (hw.p _ (List.getElem_mem hil))
  have ih := qlt h hw hr n (i + 1) (by omega)
  rw [qa6, hat, if_neg (by simp)]
  rw [show q.cons.toNat + 1 + i + 1 = q.cons.toNat + 1 + (i + 1) by omega, ih, List.drop_eq_getElem_cons hil]
  rfl
theorem qtq {m : Cont} {name : List UInt8} {q : Qu} (h : qar q = true) (hw : q.W) (hn : qjk name = true) (hr : Rep m name q) : qgl m name = (q, 0) := by
 have hv := qv1 h
 have hv2 := hv
 obtain ⟨c0, c1, c2, c3, c4, _⟩ := hv2
 have e1 : (q.acc - q.cons).toNat = q.items.length := by omega
 have hi := qlt hv hw hr q.items.length 0 (by omega)
 have hb : qvz (q.acc, q.cons) = false := by
  unfold qvz
  simp only [Bool.or_eq_false_iff, decide_eq_false_iff_not]
  rw [xx (by unfold I64; omega)]
  exact ⟨⟨⟨by omega, by omega⟩, by omega⟩, by omega⟩
 have b1 : qjm m name q = false := by
  unfold qjm
  rw [hr.1, qss, q0x, h]; simp
 have b2 : qco (fun d => !qlq m name q d) 4 = true := ye.2 fun d hd => by
  unfold qlq
  rw [hr.2 d hd, qss, q0x]; simp
 unfold qgl
 rw [if_neg (by simp [hn]), hr.1, qjp hv, if_neg (by rw [hb]; simp), e1]
 simp only
 rw [show q.cons.toNat + 1 = q.cons.toNat + 1 + 0 from rfl, hi, List.drop_zero, q4p, b1, b2]
 rfl
end Go.Proofs.Ytinnaedmdoengaa
namespace Go.Proofs.Ytinnaedmdoengaa
open Go.Abs
set_option linter.unusedSimpArgs false
set_option linter.unusedVariables false
theorem q00 {k o n : List UInt8} {x : OpS} (h : x ∈ chg k o n) : x.key = k ∧ x.val = n ∧ (x.del = true → n = []) := by
 unfold chg at h
 split at h
 ·cases h
 ·simp only [List.mem_cons, List.not_mem_nil, or_false] at h
  subst h
  exact ⟨rfl, rfl, fun h => by simpa using h⟩
theorem qna {a b : Qu} {name : List UInt8} {x : OpS} : ∀ {D : Nat}, x ∈ je a b name D → x.key.length = name.length + 2 ∧ (x.val = kk b ∨ ∃ d : Nat, x.val = jl b d) ∧ (x.del = true → x.val = [])
 | 0, h => by
  obtain ⟨h1, h2, h3⟩ := q00 h
  exact ⟨by rw [h1]; simp [nKey], .inl h2, fun hd => by rw [h2]; exact h3 hd⟩
 | D + 1, h => by
  rcases List.mem_append.1 h with h | h
  ·exact qna h
  ·obtain ⟨h1, h2, h3⟩ := q00 h
   exact ⟨by rw [h1]; simp [sKey], .inr ⟨D, h2⟩, fun hd => by rw [h2]; exact h3 hd⟩
theorem q4q {q : Qu} (h : QV q) : (kk q).length ≤ 12 := by
 obtain ⟨c0, c1, c2, _, _, _⟩ := h
 have h1 := w8 (n := q.acc) (by omega) (by omega)
 have h2 := w8 (n := q.cons) (by omega) (by omega)
 unfold kk
 split
 ·simp
 ·rw [List.length_append]; omega
theorem q4r {q : Qu} (hw : q.W) (d : Int) : (jl q d).length ≤ 348 := by
 unfold jl
 split
 ·rename_i p hp
  exact xho p (hw.p _ (List.mem_of_find?_eq_some hp))
 ·simp
theorem q01 {q : Qu} (h : QV q) (hw : q.W) {v : List UInt8} (hv : v = kk q ∨ ∃ d : Nat, v = jl q d) : v.length ≤ 348 := by
 rcases hv with rfl | ⟨d, rfl⟩
 ·have := q4q h; omega
 ·exact q4r hw d
theorem qqe {s : List UInt8} (h : s.length ≤ 1000000) : (wv s).length ≤ s.length + 6 := by
 have := w8 (n := s.length) (by omega) (by omega)
 rw [wv, List.length_append]; omega
theorem q4s {a b : Qu} {name : List UInt8} (hb : QV b) (wb : b.W) (hn : name.length ≤ 30) (hne : je a b name 4 ≠ []) : (xa (je a b name 4)).2 = 0 := by
 have hl := qcy a b name 4
 have hp : ∀ o ∈ je a b name 4, jh o = true := fun o ho => by
  obtain ⟨h1, h2, h3⟩ := qna ho
  have h4 := q01 hb wb h2
  exact vz.2 ⟨by omega, by omega, by omega, fun hd => by rw [h3 hd]; rfl⟩
 have hs := ws wOp 393 (je a b name 4) fun o ho => by
  obtain ⟨h1, h2, h3⟩ := qna ho
  have h4 := q01 hb wb h2
  have h5 := qqe (s := o.key) (by omega)
  have h6 := qqe (s := o.val) (by omega)
  simp only [wOp, List.length_append, List.length_cons, List.length_nil]; omega
 have hc := w8 (n := (je a b name 4).length) (by omega) (by omega)
 have hpos : 0 < (je a b name 4).length := List.length_pos_iff.2 hne
 unfold xa
 rw [if_neg, if_neg]
 ·simp only [Bool.or_eq_true, decide_eq_true_eq, not_or, wOps, List.length_append]
  omega
 ·simp only [Bool.or_eq_true, decide_eq_true_eq, not_or, List.any_eq_true, not_exists, not_and]
  exact ⟨by omega, fun o ho => by simp [hp o ho]⟩
theorem qgn : ∀ (l : List OpS) (m : Cont), m.l.length + l.length ≤ 400 → (va m l).2 = true ∧ (va m l).1.l.length ≤ m.l.length + l.length
 | [], m, h => ⟨rfl, Nat.le_refl _⟩
 | o :: l, m, h => by
  rw [va]
  simp only [List.length_cons] at h ⊢
  split
  ·have h1 := qtl o.key m
   have := qgn l (mDel o.key m) (by omega)
   exact ⟨this.1, by omega⟩
  ·have h1 := q3y o.key o.val m
   rw [if_neg (by omega)]
   have := qgn l (mPut o.key o.val m) (by omega)
   exact ⟨this.1, by omega⟩
structure Sto.Few (n : Nat) (s : Sto) : Prop where
 ok : s.Ok n
 len : s.m.l.length ≤ 5 * n
theorem xhq : newS.Few 0 := ⟨qy2 0, Nat.le_refl _⟩
theorem Sto.Few.v {n : Nat} {s : Sto} (h : s.Few n) : ∀ x ∈ s.m.l, x.2.2.length ≤ 1000000 := fun x hx => by
 have := (h.ok.good.small x hx).2.2; omega
theorem qjq {n : Nat} {s : Sto} (h : s.Few n) (hn : n ≤ 60) {a b : Qu} {name : List UInt8} (hb : QV b) (wb : b.W) (hm : name.length ≤ 30) (hne : je a b name 4 ≠ []) :
  (xm s (je a b name 4)).2 = 0 ∧ (xm s (je a b name 4)).1.Few (n + 1) ∧ ∀ k, mGet k (xm s (je a b name 4)).1.m = yo k (mGet k s.m) (je a b name 4) := by
 have he := q4s hb wb hm hne
 have hl := qcy a b name 4
 have h5 := h.len
 obtain ⟨y1, y2⟩ := qgn (je a b name 4) s.m (by omega)
 have hc : xm s (je a b name 4) = (⟨qcr s.file (xa (je a b name 4)).1, s.synced, (va s.m (je a b name 4)).1⟩, 0) := by
  unfold xm
  rw [if_neg (by simp [he]), if_neg (by simp [y1])]
 have hok := qd3 h.ok (je a b name 4)
 rw [hc] at hok ⊢
 exact ⟨rfl, ⟨hok, by simp only; omega⟩, fun k => qgd k _ h.ok.good.ok y1⟩
theorem qtr {m m' : Cont} {a b : Qu} {name : List UInt8} (hr : Rep m name a) (hg : ∀ k, mGet k m' = yo k (mGet k m) (je a b name 4)) : Rep m' name b := by
 refine ⟨by rw [hg, hr.1, qqc a b name 4 (Nat.le_refl _)], fun d hd => ?_⟩
 rw [hg, hr.2 d hd, qqd a b name hd 4 (Nat.le_refl _), if_pos hd]
theorem qqf {m m' : Cont} {a b c : Qu} {name other : List UInt8} (hno : ∀ (x y : List UInt8), x.length = 2 → y.length = 2 → name ++ x ≠ other ++ y) (hr : Rep m other c) (hg : ∀ k, mGet k m' = yo k (mGet k m) (je a b name 4)) : Rep m' other c := by
 refine ⟨?_, fun d hd => ?_⟩
 ·rw [hg, qgm a b name (nKey other) (hno [47, 110] [47, 110] rfl rfl) (fun d _ => hno [47, UInt8.ofNat (48 + d)] [47, 110] rfl rfl) _ 4 (Nat.le_refl _), hr.1]
 ·rw [hg, qgm a b name (sKey other d) (hno [47, 110] [47, UInt8.ofNat (48 + d)] rfl rfl) (fun e _ => hno [47, UInt8.ofNat (48 + e)] [47, UInt8.ofNat (48 + d)] rfl rfl) _ 4 (Nat.le_refl _), hr.2 d hd]
theorem qqg (name : List UInt8) : Rep qph name x7 := ⟨rfl, fun d _ => rfl⟩
theorem q02 {k o n : List UInt8} (h : chg k o n = []) : o = n := by
 unfold chg at h
 split at h
 ·assumption
 ·cases h
theorem qts {a b : Qu} {name : List UInt8} : ∀ {D : Nat}, je a b name D = [] → kk a = kk b ∧ ∀ d, d < D → jl a d = jl b d
 | 0, h => ⟨q02 h, fun d hd => absurd hd (Nat.not_lt_zero _)⟩
 | D + 1, h => by
  obtain ⟨h1, h2⟩ := List.append_eq_nil_iff.1 h
  obtain ⟨i1, i2⟩ := qts h1
  refine ⟨i1, fun d hd => ?_⟩
  rcases Nat.lt_or_ge d D with hl | hl
  ·exact i2 d hl
  ·have : d = D := by omega
   subst this; exact q02 h2
end Go.Proofs.Ytinnaedmdoengaa
namespace Go.Proofs.Ytinnaedmdoengaa
open Go.Abs
set_option linter.unusedSimpArgs false
set_option linter.unusedVariables false
theorem qjr {s : Int} (h1 : 1 ≤ s) (h2 : s ≤ 1000) : qd0 (msg s) = true := by
 have h3 : 0 ≤ s.tmod 40 := Int.tmod_nonneg _ (by omega)
 have h4 : s.tmod 40 < 40 := Int.tmod_lt_of_pos _ (by omega)
 have hk : (msg s).kind = 1 := rfl
 have e1 : (msg s).values = [] := rfl
 have e2 : (msg s).clock = [] := rfl
 simp only [qd0, qz, qk7, data, qc2, role, hk, if_true, e1, e2, List.any_nil, List.length_nil, Bool.and_eq_true, Bool.or_eq_true, decide_eq_true_eq, beq_iff_eq, bne_iff_ne, Bool.not_eq_true']
 simp only [msg]
 refine ⟨trivial, ⟨⟨by decide, by decide⟩, by decide⟩, ⟨⟨⟨⟨⟨⟨⟨⟨⟨⟨by decide, by decide⟩, by decide⟩, h1⟩, by omega⟩, .inl trivial⟩, h3⟩, h4⟩, by decide⟩, by decide⟩, trivial⟩, trivial⟩
theorem qqh (s t : Int) : qr3 (msg s) (msg t) = true := by simp [qr3, msg]
def can (a c : Nat) : Qu := ⟨a, c, (List.range (a - c)).map fun (j : Nat) => msg ((c : Int) + 1 + (j : Int))⟩
theorem qd6 (a c : Nat) : (can a c).items.length = a - c := by simp [can]
theorem qgo (a c i : Nat) (h : i < (can a c).items.length) : (can a c).items[i] = msg ((c : Int) + 1 + (i : Int)) := by simp [can]
theorem vr {a c : Nat} (hc : c ≤ a) (h4 : a - c ≤ 4) (ha : a ≤ 100) : qar (can a c) = true := by
 have hl := qd6 a c
 unfold qar
 simp only [Bool.and_eq_true, decide_eq_true_eq, beq_iff_eq, ye]
 refine ⟨fun i hi => ?_, ⟨⟨⟨by simp only [can]; omega, by simp only [can]; omega⟩, by simp only [can]; omega⟩, ?_⟩, by omega⟩
 ·unfold qkh
  have h0 : 0 < (can a c).items.length := by omega
  rw [qbx hi, qbx h0, qgo, qgo, qjr (by omega) (by omega), qqh]
  have e1 : IntKind.i64.wrap ((can a c).cons + 1) = (c : Int) + 1 := wrap_i64 (by simp only [can]; omega) (by simp only [can]; omega)
  rw [e1, wrap_i64 (by omega) (by omega)]
  simp [msg]
 ·rw [hl, wrap_i64 (by simp only [can]; omega) (by simp only [can]; omega)]
  simp only [can]; omega
theorem qlu {a c : Nat} (ha : a ≤ 100) : (can a c).Sm := by
 refine ⟨by rw [qd6]; omega, fun p hp => ?_⟩
 simp only [can, List.mem_map] at hp
 obtain ⟨j, _, rfl⟩ := hp
 exact qe1 _
theorem q03 {a c : Nat} {s : Int} : (decide (((can a c).items.length : Int) > 0) && !qr3 (msg s) ((can a c).items.getD 0 default)) = false := by
 by_cases h : 0 < (can a c).items.length
 ·rw [qbx h, qgo, qqh]; simp
 ·have : (can a c).items.length = 0 := by omega
  rw [this]; rfl
theorem qfo {a c : Nat} (hc : c ≤ a) (h4 : a - c < 4) (ha : a < 100) : v8 (can a c) (msg ((a : Int) + 1)) = (can (a + 1) c, 0) := by
 have hv := vr hc (by omega) (show a ≤ 100 by omega)
 have hm := qjr (s := (a : Int) + 1) (by omega) (by omega)
 have hl := qd6 a c
 have hw : IntKind.i64.wrap ((can a c).acc + 1) = (a : Int) + 1 := wrap_i64 (by simp only [can]; omega) (by simp only [can]; omega)
 unfold v8
 rw [hv, hm, q03, hw]
 have h1 : decide ((msg ((a : Int) + 1)).seq ≤ (can a c).acc) = false := by
  show decide ((a : Int) + 1 ≤ a) = false
  rw [decide_eq_false_iff_not]; omega
 have h2 : decide ((msg ((a : Int) + 1)).seq > (a : Int) + 1) = false := by
  show decide ((a : Int) + 1 > a + 1) = false
  rw [decide_eq_false_iff_not]; omega
 have h3 : (((can a c).items.length : Int) == 4) = false := by rw [hl]; simp; omega
 simp only [h1, h2, h3, Bool.not_true, Bool.or_false, Bool.false_eq_true, if_false]
 simp only [can, Prod.mk.injEq, Qu.mk.injEq, and_true, true_and]
 refine ⟨by simp [msg], ?_⟩
 rw [show a + 1 - c = (a - c) + 1 by omega, List.range_succ, List.map_append]
 simp only [List.map_cons, List.map_nil]
 congr 3
 omega
theorem qqi {a c : Nat} {seq : Int} (ha : a < 100) (h : ¬ (seq = (a : Int) + 1 ∧ a - c < 4)) (h4 : a - c ≤ 4) : ((v8 (can a c) (msg seq)).2 == 0) = false := by
 have hl := qd6 a c
 have hw : IntKind.i64.wrap ((can a c).acc + 1) = (a : Int) + 1 := wrap_i64 (by simp only [can]; omega) (by simp only [can]; omega)
 unfold v8
 rw [hw]
 split
 ·rfl
 split
 ·rfl
 split
 ·rfl
 split
 ·rfl
 rename_i h1 h2 h3
 simp only [decide_eq_true_eq] at h1 h2
 simp only [msg, can] at h1 h2
 rw [hl] at h3
 simp only [beq_iff_eq] at h3
 exact absurd ⟨by omega, by omega⟩ h
theorem qjs {a c : Nat} (hc : c < a) (h4 : a - c ≤ 4) (ha : a ≤ 100) : vw (can a c) ((c : Int) + 1) = (can a (c + 1), 0) := by
 have hv := vr (show c ≤ a by omega) h4 ha
 have hl := qd6 a c
 have h0 : 0 < (can a c).items.length := by omega
 unfold vw
 rw [hv, qbx h0, qgo]
 have h1 : (decide ((c : Int) + 1 ≥ 1) && decide ((c : Int) + 1 ≤ (can a c).cons)) = false := by
  simp only [Bool.and_eq_false_iff, decide_eq_false_iff_not]
  simp only [can]
  omega
 have h2 : (((can a c).items.length : Int) == 0) = false := by rw [beq_eq_false_iff_ne]; omega
 have h3 : ((c : Int) + 1 != (msg ((c : Int) + 1 + ((0 : Nat) : Int))).seq) = false := by simp [msg]
 simp only [h1, h2, h3, Bool.not_true, Bool.or_false, Bool.false_eq_true, if_false]
 simp only [can, Prod.mk.injEq, Qu.mk.injEq, and_true, true_and]
 refine ⟨by omega, ?_⟩
 rw [show a - c = (a - (c + 1)) + 1 by omega, List.range_succ_eq_map, List.map_cons, List.drop_one, List.tail_cons, List.map_map]
 apply List.map_congr_left
 intro j _
 simp only [Function.comp]
 congr 1
 omega
theorem qkl {a c : Nat} {seq : Int} (hc : c ≤ a) (h : ¬ (seq = (c : Int) + 1 ∧ c < a)) : ((vw (can a c) seq).2 == 0) = false := by
 have hl := qd6 a c
 unfold vw
 split
 ·rfl
 split
 ·rfl
 split
 ·rfl
 rename_i h3
 simp only [Bool.or_eq_true, beq_iff_eq, bne_iff_ne, not_or, Classical.not_not] at h3
 have h0 : 0 < (can a c).items.length := by omega
 have h4 := h3.2
 rw [qbx h0, qgo] at h4
 simp only [msg] at h4
 exact absurd ⟨by omega, by omega⟩ h
theorem zge {s : Int} (h1 : 1 ≤ s) (h2 : s ≤ 1000) : (msg s).W := by
 have h3 : 0 ≤ s.tmod 40 := Int.tmod_nonneg _ (by omega)
 have h4 : s.tmod 40 < 40 := Int.tmod_lt_of_pos _ (by omega)
 refine ⟨fun x hx => ?_, fun x hx => (by cases hx), fun x hx => (by cases hx)⟩
 simp only [zt, msg, List.mem_cons, List.not_mem_nil, or_false] at hx
 unfold I64
 rcases hx with rfl | rfl | rfl | rfl | rfl | rfl | rfl <;> omega
theorem q04 {a c : Nat} (hc : c ≤ a) (ha : a ≤ 100) : (can a c).W := by
 refine ⟨by simp only [can]; unfold I64; omega, by simp only [can]; unfold I64; omega, fun p hp => ?_⟩
 simp only [can, List.mem_map, List.mem_range] at hp
 obtain ⟨j, hj, rfl⟩ := hp
 exact zge (by omega) (by omega)
theorem qhw {a c d : Nat} (hc : c ≤ a) (h4 : a - c ≤ 4) (ha : a ≤ 100) (hd : d < 4) : (∃ i, i < a - c ∧ (c + 1 + i) % 4 = d ∧ jl (can a c) d = (vb (msg ((c + 1 + i : Nat) : Int))).1) ∨ ((∀ i, i < a - c → (c + 1 + i) % 4 ≠ d) ∧ jl (can a c) d = []) := by
 have hv := qv1 (vr hc h4 ha)
 have hl := qd6 a c
 have hcs : (can a c).cons = (c : Int) := rfl
 by_cases h : ∃ i, i < a - c ∧ (c + 1 + i) % 4 = d
 ·obtain ⟨i, hi, he⟩ := h
  refine .inl ⟨i, hi, he, ?_⟩
  have := q0y hv (i := i) (by omega) (d := d) (by rw [hcs, Int.tmod_eq_emod_of_nonneg (by omega)]; omega)
  rw [this, qgo]
  congr 3
 ·refine .inr ⟨fun i hi he => h ⟨i, hi, he⟩, q0z hv fun i hi => ?_⟩
  rw [hcs, Int.tmod_eq_emod_of_nonneg (by omega)]
  intro he
  exact h ⟨i, by omega, by omega⟩
theorem q4t (k o : List UInt8) : chg k o o = [] := if_pos rfl
theorem qst {a c a' c' e : Nat} (hc : c ≤ a) (h4 : a - c ≤ 4) (ha : a ≤ 100) (hc' : c' ≤ a') (h4' : a' - c' ≤ 4) (ha' : a' ≤ 100) (name : List UInt8)
  (hs : ∀ d, d < 4 → d ≠ e → jl (can a c) d = jl (can a' c') d) : ∀ D, D ≤ 4 → (je (can a c) (can a' c') name D).length ≤ if e < D then 2 else 1
 | 0, _ => by rw [if_neg (by omega)]; exact qm9 _ _ _
 | D + 1, h => by
  have ih := qst hc h4 ha hc' h4' ha' name hs D (by omega)
  rw [je, List.length_append]
  by_cases he : D = e
  ·subst he
   have := qm9 (sKey name D) (jl (can a c) D) (jl (can a' c') D)
   rw [if_neg (by omega)] at ih
   rw [if_pos (by omega)]; omega
  ·rw [hs D (by omega) he, q4t, List.length_nil]
   by_cases hl : e < D
   ·rw [if_pos hl] at ih; rw [if_pos (by omega)]; omega
   ·rw [if_neg hl] at ih; rw [if_neg (by omega)]; omega
theorem xhr {a b : Qu} (ha : QV a) (hb : QV b) (hn : kk a = kk b) : a.acc = b.acc ∧ a.cons = b.cons := by
 have h1 := qjp ha
 rw [hn, qjp hb] at h1
 cases a; cases b
 simp only [Prod.mk.injEq] at h1
 exact ⟨h1.1.symm, h1.2.symm⟩
theorem qtt {a c a' c' : Nat} (hc : c ≤ a) (h4 : a - c ≤ 4) (ha : a ≤ 100) (hc' : c' ≤ a') (h4' : a' - c' ≤ 4) (ha' : a' ≤ 100) (name : List UInt8) (hne : a ≠ a' ∨ c ≠ c') : je (can a c) (can a' c') name 4 ≠ [] := by
 intro h
 obtain ⟨h1, _⟩ := qts h
 obtain ⟨h2, h3⟩ := xhr (qv1 (vr hc h4 ha)) (qv1 (vr hc' h4' ha')) h1
 simp only [can] at h2 h3
 omega
theorem xhs {a c : Nat} (hc : c ≤ a) (h4 : a - c < 4) (ha : a < 100) : ∀ d, d < 4 → d ≠ (a + 1) % 4 → jl (can a c) d = jl (can (a + 1) c) d := by
 intro d hd he
 rcases qhw hc (by omega) (by omega) hd with ⟨i, i1, i2, i3⟩ | ⟨i1, i3⟩ <;> rcases qhw (a := a + 1) (c := c) (by omega) (by omega) (by omega) hd with ⟨j, j1, j2, j3⟩ | ⟨j1, j3⟩
 ·rw [i3, j3]; congr 4; omega
 ·exact absurd i2 (j1 i (by omega))
 ·exact absurd j2 (i1 j (by omega))
 ·rw [i3, j3]
theorem xht {a c : Nat} (hc : c < a) (h4 : a - c ≤ 4) (ha : a ≤ 100) : ∀ d, d < 4 → d ≠ (c + 1) % 4 → jl (can a c) d = jl (can a (c + 1)) d := by
 intro d hd he
 rcases qhw (show c ≤ a by omega) (by omega) (by omega) hd with ⟨i, i1, i2, i3⟩ | ⟨i1, i3⟩ <;> rcases qhw (a := a) (c := c + 1) (by omega) (by omega) (by omega) hd with ⟨j, j1, j2, j3⟩ | ⟨j1, j3⟩
 ·rw [i3, j3]; congr 4; omega
 ·exact absurd (show (c + 1 + 1 + (i - 1)) % 4 = d by
   have : i ≠ 0 := by rintro rfl; omega
   omega) (j1 (i - 1) (by
    have : i ≠ 0 := by rintro rfl; omega
    omega))
 ·exact absurd (show (c + 1 + (j + 1)) % 4 = d by omega) (i1 (j + 1) (by omega))
 ·rw [i3, j3]
end Go.Proofs.Ytinnaedmdoengaa
namespace Go.Proofs.Ytinnaedmdoengaa
open Go.Abs
set_option linter.unusedSimpArgs false
set_option linter.unusedVariables false
theorem Sto.Few.mono {n m : Nat} {s : Sto} (h : s.Few n) (hn : n ≤ m) : s.Few m := ⟨h.ok.mono hn, by have := h.len; omega⟩
structure Sp51 where
 kind : Int
 n : Int
 deriving DecidableEq, Inhabited
def qb7 (x : Sp51) : List D := [.int .i64 x.kind, .int .i64 x.n]
theorem qhd (x : Sp51) : D.noPtrL (qb7 x) = true := rfl
theorem qv2 (l : List Sp51) : D.noPtrR (l.map qb7) = true := xl qhd l
attribute [go_sem] qhd qv2
noncomputable section
set_option maxRecDepth 100000
def x3a : List SOper := [
 ⟨some 4, .mov (.k (.d (.bool false))), none⟩]
def x3b : List SOper := [
 ⟨some 22, .call (.k (.d (.func (.func 18) [] []))) [], none⟩,
 ⟨some 23, .not (.t 22), none⟩]
def x3c : List SOper := [
 ⟨some 4, .mov (.k (.d (.bool false))), none⟩]
def x3d : List SOper := [
 ⟨some 24, .mov (.t 0), none⟩,
 ⟨some 25, .len (.t 24), none⟩,
 ⟨some 26, .bin .gtr (.t 25) (.k (.d (.int .i64 20))), none⟩]
def x3e : List SOper := [
 ⟨some 4, .mov (.k (.d (.bool true))), none⟩]
def x3f : List SOper := [
 ⟨some 27, .call (.k (.d (.func (.func 12) [] []))) [], none⟩,
 ⟨some 5, .mov (.t 27), none⟩]
def x3g : List SOper := [
 ⟨some 6, .alloc 1 [(.d (.int .i64 0)), (.d (.int .i64 0)), (.d .nilsl)], none⟩]
def x3h : List SOper := [
 ⟨some 7, .mov (.k (.d (.int .i64 0))), none⟩]
def x3i : List SOper := [
 ⟨some 28, .mov (.t 7), none⟩,
 ⟨some 29, .mov (.t 1), none⟩,
 ⟨some 30, .conv .i64 (.t 29), none⟩,
 ⟨some 31, .bin .rem (.t 30) (.k (.d (.int .i64 5))), none⟩,
 ⟨some 32, .bin .lss (.t 28) (.t 31), none⟩]
def x3j : List SOper := [
 ⟨some 36, .load (some 3) (.t 6), none⟩,
 ⟨some 37, .mov (.t 7), none⟩,
 ⟨some 38, .bin .add (.t 37) (.k (.d (.int .i64 1))), none⟩,
 ⟨some 39, .call (.k (.d (.func (.func 20) [] []))) [(.t 38)], none⟩,
 ⟨some 40, .call (.k (.d (.func (.func 19) [] []))) [(.t 36), (.t 39)], none⟩,
 ⟨some 35, .mov (.t 40), none⟩,
 ⟨some 41, .extract 0 (.t 35), none⟩,
 ⟨some 42, .extract 1 (.t 35), none⟩,
 ⟨some 8, .alloc 1 [(.d (.int .i64 0)), (.d (.int .i64 0)), (.d .nilsl)], none⟩,
 ⟨none, .store (some 3) (.t 8) (.t 41), none⟩,
 ⟨some 9, .mov (.t 42), none⟩]
def xd8 : List SOper := [
 ⟨some 44, .load (some 3) (.t 6), none⟩,
 ⟨some 45, .load (some 3) (.t 8), none⟩,
 ⟨some 46, .call (.k (.d (.func (.func 21) [] []))) [(.t 44), (.t 45), (.k (.d (.str [98])))], none⟩,
 ⟨some 43, .mov (.t 46), none⟩,
 ⟨some 47, .extract 0 (.t 43), none⟩,
 ⟨some 48, .extract 1 (.t 43), none⟩,
 ⟨some 10, .mov (.t 47), none⟩,
 ⟨some 11, .mov (.t 48), none⟩]
def xd9 : List SOper := [
 ⟨some 49, .mov (.t 11), none⟩,
 ⟨some 50, .bin .neq (.t 49) (.k (.d (.int .i64 0))), none⟩,
 ⟨some 51, .mov (.t 50), none⟩,
 ⟨some 52, .mov (.t 10), some (51, false)⟩,
 ⟨some 53, .len (.t 52), some (51, false)⟩,
 ⟨some 54, .bin .gtr (.t 53) (.k (.d (.int .i64 0))), some (51, false)⟩,
 ⟨some 55, .mov (.t 54), some (51, false)⟩,
 ⟨some 56, .mov (.t 5), some (55, true)⟩,
 ⟨some 57, .mov (.t 10), some (55, true)⟩,
 ⟨some 58, .call (.k (.d (.func (.func 13) [] []))) [(.t 56), (.t 57)], some (55, true)⟩,
 ⟨some 59, .bin .neq (.t 58) (.k (.d (.int .i64 0))), some (55, true)⟩,
 ⟨some 60, .pick (.t 55) (.t 59) (.k (.d (.bool false))), some (51, false)⟩,
 ⟨some 61, .pick (.t 51) (.k (.d (.bool true))) (.t 60), none⟩]
def xea : List SOper := [
 ⟨some 4, .mov (.k (.d (.bool false))), none⟩]
def xeb : List SOper := [
 ⟨some 62, .load (some 3) (.t 8), none⟩,
 ⟨none, .store (some 3) (.t 6) (.t 62), none⟩]
def xec : List SOper := [
 ⟨some 33, .mov (.t 7), none⟩,
 ⟨some 34, .bin .add (.t 33) (.k (.d (.int .i64 1))), none⟩,
 ⟨some 7, .mov (.t 34), none⟩]
def q05 : SCode := (.seq (.seq (.region x3i 0 []) (.cond (.t 32) .skip (.exit 0))) (.seq (.block 1 (.seq (.region x3j 1 [(0, 3), (0, 8), (3, 8), (4, 8)]) (.seq (.region xd8 0 []) (.seq (.seq (.region xd9 1 []) (.cond (.t 61) (.seq (.region xea 0 []) .ret) .skip)) (.region xeb 0 []))))) (.pause (.region xec 0 []))))
theorem x3k : qg q05.eq_1 := qh q05.eq_1
def xed : List SOper := [
 ⟨some 12, .alloc 1 [(.d (.int .i64 0)), (.d (.int .i64 0)), (.d .nilsl)], none⟩]
def xee : List SOper := [
 ⟨some 13, .mov (.k (.d (.int .i64 0))), none⟩]
def xef : List SOper := [
 ⟨some 63, .mov (.t 13), none⟩,
 ⟨some 64, .mov (.t 0), none⟩,
 ⟨some 65, .len (.t 64), none⟩,
 ⟨some 66, .bin .lss (.t 63) (.t 65), none⟩]
def xeg : List SOper := [
 ⟨some 70, .load (some 3) (.t 12), none⟩,
 ⟨some 71, .faddr 0 (.t 12), none⟩,
 ⟨some 72, .load none (.t 71), none⟩,
 ⟨some 73, .bin .add (.t 72) (.k (.d (.int .i64 1))), none⟩,
 ⟨some 74, .call (.k (.d (.func (.func 20) [] []))) [(.t 73)], none⟩,
 ⟨some 75, .call (.k (.d (.func (.func 19) [] []))) [(.t 70), (.t 74)], none⟩,
 ⟨some 69, .mov (.t 75), none⟩,
 ⟨some 76, .extract 0 (.t 69), none⟩,
 ⟨some 77, .extract 1 (.t 69), none⟩,
 ⟨some 14, .alloc 1 [(.d (.int .i64 0)), (.d (.int .i64 0)), (.d .nilsl)], none⟩,
 ⟨none, .store (some 3) (.t 14) (.t 76), none⟩,
 ⟨some 15, .mov (.t 77), none⟩]
def xeh : List SOper := [
 ⟨some 78, .mov (.t 0), none⟩,
 ⟨some 79, .mov (.t 13), none⟩,
 ⟨some 80, .iaddr 2 (.t 78) (.t 79), none⟩,
 ⟨some 81, .faddr 0 (.t 80), none⟩,
 ⟨some 82, .load none (.t 81), none⟩,
 ⟨some 83, .bin .neq (.t 82) (.k (.d (.int .i64 0))), none⟩]
def xei : List SOper := [
 ⟨some 85, .load (some 3) (.t 12), none⟩,
 ⟨some 86, .faddr 1 (.t 12), none⟩,
 ⟨some 87, .load none (.t 86), none⟩,
 ⟨some 88, .bin .add (.t 87) (.k (.d (.int .i64 1))), none⟩,
 ⟨some 89, .call (.k (.d (.func (.func 22) [] []))) [(.t 85), (.t 88)], none⟩,
 ⟨some 84, .mov (.t 89), none⟩,
 ⟨some 90, .extract 0 (.t 84), none⟩,
 ⟨some 91, .extract 1 (.t 84), none⟩,
 ⟨none, .store (some 3) (.t 14) (.t 90), none⟩,
 ⟨some 15, .mov (.t 91), none⟩]
def xej : List SOper := [
 ⟨some 92, .mov (.t 15), none⟩,
 ⟨some 93, .bin .neq (.t 92) (.k (.d (.int .i64 0))), none⟩]
def xek : List SOper := [
 ⟨some 95, .load (some 3) (.t 12), none⟩,
 ⟨some 96, .load (some 3) (.t 14), none⟩,
 ⟨some 97, .call (.k (.d (.func (.func 21) [] []))) [(.t 95), (.t 96), (.k (.d (.str [97])))], none⟩,
 ⟨some 94, .mov (.t 97), none⟩,
 ⟨some 98, .extract 0 (.t 94), none⟩,
 ⟨some 99, .extract 1 (.t 94), none⟩,
 ⟨some 16, .mov (.t 98), none⟩,
 ⟨some 17, .mov (.t 99), none⟩]
def xel : List SOper := [
 ⟨some 100, .mov (.t 17), none⟩,
 ⟨some 101, .bin .neq (.t 100) (.k (.d (.int .i64 0))), none⟩,
 ⟨some 102, .mov (.t 101), none⟩,
 ⟨some 103, .mov (.t 16), some (102, false)⟩,
 ⟨some 104, .len (.t 103), some (102, false)⟩,
 ⟨some 105, .bin .eql (.t 104) (.k (.d (.int .i64 0))), some (102, false)⟩,
 ⟨some 106, .pick (.t 102) (.k (.d (.bool true))) (.t 105), none⟩,
 ⟨some 107, .mov (.t 106), none⟩,
 ⟨some 108, .mov (.t 16), some (107, false)⟩,
 ⟨some 109, .len (.t 108), some (107, false)⟩,
 ⟨some 110, .bin .gtr (.t 109) (.k (.d (.int .i64 2))), some (107, false)⟩,
 ⟨some 111, .pick (.t 107) (.k (.d (.bool true))) (.t 110), none⟩,
 ⟨some 112, .mov (.t 111), none⟩,
 ⟨some 113, .mov (.t 5), some (112, false)⟩,
 ⟨some 114, .mov (.t 16), some (112, false)⟩,
 ⟨some 115, .call (.k (.d (.func (.func 13) [] []))) [(.t 113), (.t 114)], some (112, false)⟩,
 ⟨some 116, .bin .neq (.t 115) (.k (.d (.int .i64 0))), some (112, false)⟩,
 ⟨some 117, .pick (.t 112) (.k (.d (.bool true))) (.t 116), none⟩]
def xem : List SOper := [
 ⟨some 4, .mov (.k (.d (.bool false))), none⟩]
def xen : List SOper := [
 ⟨some 118, .load (some 3) (.t 14), none⟩,
 ⟨none, .store (some 3) (.t 12) (.t 118), none⟩]
def xeo : List SOper := [
 ⟨some 120, .mov (.t 5), none⟩,
 ⟨some 121, .call (.k (.d (.func (.func 23) [] []))) [(.t 120), (.k (.d (.str [97])))], none⟩,
 ⟨some 119, .mov (.t 121), none⟩,
 ⟨some 122, .extract 0 (.t 119), none⟩,
 ⟨some 123, .extract 1 (.t 119), none⟩,
 ⟨some 18, .alloc 1 [(.d (.int .i64 0)), (.d (.int .i64 0)), (.d .nilsl)], none⟩,
 ⟨none, .store (some 3) (.t 18) (.t 122), none⟩,
 ⟨some 19, .mov (.t 123), none⟩]
def xep : List SOper := [
 ⟨some 125, .mov (.t 5), none⟩,
 ⟨some 126, .call (.k (.d (.func (.func 23) [] []))) [(.t 125), (.k (.d (.str [98])))], none⟩,
 ⟨some 124, .mov (.t 126), none⟩,
 ⟨some 127, .extract 0 (.t 124), none⟩,
 ⟨some 128, .extract 1 (.t 124), none⟩,
 ⟨some 20, .alloc 1 [(.d (.int .i64 0)), (.d (.int .i64 0)), (.d .nilsl)], none⟩,
 ⟨none, .store (some 3) (.t 20) (.t 127), none⟩,
 ⟨some 21, .mov (.t 128), none⟩]
def xeq : List SOper := [
 ⟨some 129, .mov (.t 19), none⟩,
 ⟨some 130, .bin .neq (.t 129) (.k (.d (.int .i64 0))), none⟩,
 ⟨some 131, .mov (.t 130), none⟩,
 ⟨some 132, .mov (.t 21), some (131, false)⟩,
 ⟨some 133, .bin .neq (.t 132) (.k (.d (.int .i64 0))), some (131, false)⟩,
 ⟨some 134, .pick (.t 131) (.k (.d (.bool true))) (.t 133), none⟩,
 ⟨some 135, .mov (.t 134), none⟩,
 ⟨some 136, .load (some 3) (.t 18), some (135, false)⟩,
 ⟨some 137, .load (some 3) (.t 12), some (135, false)⟩,
 ⟨some 138, .call (.k (.d (.func (.func 24) [] []))) [(.t 136), (.t 137)], some (135, false)⟩,
 ⟨some 139, .not (.t 138), some (135, false)⟩,
 ⟨some 140, .pick (.t 135) (.k (.d (.bool true))) (.t 139), none⟩,
 ⟨some 141, .mov (.t 140), none⟩,
 ⟨some 142, .load (some 3) (.t 20), some (141, false)⟩,
 ⟨some 143, .load (some 3) (.t 6), some (141, false)⟩,
 ⟨some 144, .call (.k (.d (.func (.func 24) [] []))) [(.t 142), (.t 143)], some (141, false)⟩,
 ⟨some 145, .not (.t 144), some (141, false)⟩,
 ⟨some 146, .pick (.t 141) (.k (.d (.bool true))) (.t 145), none⟩]
def xer : List SOper := [
 ⟨some 4, .mov (.k (.d (.bool false))), none⟩]
def xes : List SOper := [
 ⟨some 67, .mov (.t 13), none⟩,
 ⟨some 68, .bin .add (.t 67) (.k (.d (.int .i64 1))), none⟩,
 ⟨some 13, .mov (.t 68), none⟩]
def q06 : SCode := (.seq (.seq (.region xef 0 []) (.cond (.t 66) .skip (.exit 2))) (.seq (.block 3 (.seq (.region xeg 1 [(0, 4), (0, 9), (2, 9), (4, 9), (5, 9)]) (.seq (.seq (.region xeh 0 []) (.cond (.t 83) (.region xei 0 []) .skip)) (.seq (.seq (.pause (.region xej 0 [])) (.cond (.t 93) (.exit 3) .skip)) (.seq (.region xek 0 []) (.seq (.seq (.region xel 1 []) (.cond (.t 117) (.seq (.region xem 0 []) .ret) .skip)) (.seq (.region xen 0 []) (.seq (.region xeo 1 []) (.seq (.region xep 1 []) (.seq (.region xeq 0 []) (.cond (.t 146) (.seq (.region xer 0 []) .ret) .skip))))))))))) (.pause (.region xes 0 []))))
theorem x3l : qg q06.eq_1 := qh q06.eq_1
def xet : List SOper := [
 ⟨some 4, .mov (.k (.d (.bool true))), none⟩]
def s5s : SCode := (.seq (.region x3a 0 []) (.seq (.seq (.region x3b 0 []) (.cond (.t 23) (.seq (.region x3c 0 []) .ret) .skip)) (.seq (.seq (.region x3d 0 []) (.cond (.t 26) (.seq (.region x3e 0 []) .ret) .skip)) (.seq (.region x3f 2 []) (.seq (.region x3g 1 []) (.seq (.seq (.region x3h 0 []) (.block 0 (.loop q05))) (.seq (.region xed 1 []) (.seq (.seq (.region xee 0 []) (.block 2 (.loop q06))) (.seq (.region xet 0 []) .ret)))))))))
theorem e5s : qg s5s.eq_1 := qh s5s.eq_1
theorem zgf : qa x3a.eq_1 := qc
theorem zgg : qa x3b.eq_1 := qc
theorem zgh : qa x3c.eq_1 := qc
theorem zgi : qa x3d.eq_1 := qc
theorem zgj : qa x3e.eq_1 := qc
theorem zgk : qa x3f.eq_1 := qc
theorem zgl : qa x3g.eq_1 := qc
theorem zgm : qa x3h.eq_1 := qc
theorem zgn : qa x3i.eq_1 := qc
theorem zgo : qa x3j.eq_1 := qc
theorem x3m : qa xd8.eq_1 := qc
theorem x3n : qa xd9.eq_1 := qc
theorem x3o : qa xea.eq_1 := qc
theorem x3p : qa xeb.eq_1 := qc
theorem x3q : qa xec.eq_1 := qc
theorem x3r : qa xed.eq_1 := qc
theorem x3s : qa xee.eq_1 := qc
theorem x3t : qa xef.eq_1 := qc
theorem x3u : qa xeg.eq_1 := qc
theorem x3v : qa xeh.eq_1 := qc
theorem x3w : qa xei.eq_1 := qc
theorem x3x : qa xej.eq_1 := qc
theorem x3y : qa xek.eq_1 := qc
theorem x3z : qa xel.eq_1 := qc
theorem x30 : qa xem.eq_1 := qc
theorem x31 : qa xen.eq_1 := qc
theorem x32 : qa xeo.eq_1 := qc
theorem x33 : qa xep.eq_1 := qc
theorem x34 : qa xeq.eq_1 := qc
theorem x35 : qa xer.eq_1 := qc
theorem x36 : qa xes.eq_1 := qc
theorem x37 : qa xet.eq_1 := qc
attribute [go_sem] zgf zgg zgh zgi zgj zgk zgl zgm zgn zgo x3m x3n x3o x3p x3q x3k x3r x3s x3t x3u x3v x3w x3x x3y x3z x30 x31 x32 x33 x34 x35 x36 x3l x37 e5s
theorem F5s : FnIs Try.prog 5 Try.f5 [] news s5s [.tmp 4] 147 := x5 follows Try.func5
end
def qO (q : Qu) : AObj := .row [.d (.int .i64 q.acc), .d (.int .i64 q.cons), .d (.sl 9 (q.items.map qk))]
def S1 (l : List Sp51) (seed : Nat) (x : Nat × Sto) : St :=
 ⟨[(0, true, .d (.sl 2 (l.map qb7))), (1, true, .d (.int .u8 (seed : Nat))), (5, true, .d (.ptr 1 0)), (6, true, .d (.ptr 2 0)), (7, true, .d (.int .i64 (x.1 : Nat)))],
  [mapO x.2.m, stoO x.2 0, qO (can x.1 0)], [], 1⟩
def S2 (l : List Sp51) (k : Nat) (x : Nat × Sto × Nat × Nat) : St :=
 ⟨[(0, true, .d (.sl 2 (l.map qb7))), (5, true, .d (.ptr 1 0)), (6, true, .d (.ptr 2 0)), (12, true, .d (.ptr 3 0)), (13, true, .d (.int .i64 (x.1 : Nat)))],
  [mapO x.2.1.m, stoO x.2.1 0, qO (can k 0), qO (can x.2.2.1 x.2.2.2)], [], 1⟩
def S3 (l : List Sp51) (k i : Nat) (s : Sto) (a c : Nat) (x : Qu × Int) : St :=
 ⟨[(0, true, .d (.sl 2 (l.map qb7))), (5, true, .d (.ptr 1 0)), (6, true, .d (.ptr 2 0)), (12, true, .d (.ptr 3 0)), (13, true, .d (.int .i64 (i : Nat))), (14, true, .d (.ptr 4 0)), (15, true, .d (.int .i64 x.2))],
  [mapO s.m, stoO s 0, qO (can k 0), qO (can a c), qO x.1], [], 1⟩
theorem qjt {a c a' c' : Nat} (hc : c ≤ a) (h4 : a - c ≤ 4) (ha : a ≤ 100) (hc' : c' ≤ a') (h4' : a' - c' ≤ 4) (ha' : a' ≤ 100) (x : UInt8) :
  ql Try.prog 21 [.d (.agg (encQ (can a c))), .d (.agg (encQ (can a' c'))), .d (.str [x])] [] (.tup [.d (.sl 3 ((je (can a c) (can a' c') [x] 4).map qs)), .d (.int .i64 0)]) [] := by
 have h := qsn (can a c) (can a' c') [x] (qlu ha) (q04 hc ha) (qlu ha') (q04 hc' ha') (by simp)
 have hx : qaz (can a c) (can a' c') [x] = (je (can a c) (can a' c') [x] 4, 0) := by
  unfold qaz
  rw [if_neg]
  rw [vr hc h4 ha, vr hc' h4' ha']
  simp [qjk]
 rw [hx] at h
 exact h
set_option maxRecDepth 10000 in
theorem qkm (l : List Sp51) (seed : Nat) (hs : seed < 256) (hl : l.length ≤ maxLen) :
  ql Try.prog 5 [.d (.sl 2 (l.map qb7)), .d (.int .u8 (seed : Nat))] [] (.d (.bool true)) [] := by
 have k0 := qy6
 simp only [stoO, mapO] at k0
 refine F5s.go ?_
 try (refine ev ?_; try exact True.intro)
 (repeat (with_reducible refine ob ?_)); first | refine cl F18 (qlb) ?_ | refine clF F18 (qlb) (fun _ => by (refine ev2 @qk.eq_1 @encQ.eq_1 ?_; try exact True.intro)) ?_
 try (refine ev ?_; try exact True.intro)
 (repeat (with_reducible refine ob ?_)); refine no_ ?_
 try (refine ev ?_; try exact True.intro)
 (repeat (with_reducible refine ob ?_)); refine jj _ (fun h => ?_) (fun h => ?_)
 ·try (refine ev ?_; try exact True.intro)
 have h20 : l.length ≤ 20 := by simp at h; omega
 try (refine ev ?_; try exact True.intro)
 refine clO [0, 1] F12 k0 ?_
 try (refine ev ?_; try exact True.intro)
 have hw : IntKind.i64.wrap (seed : Int) = (seed : Int) := xx (by unfold I64; omega)
 have hm : ((seed : Int)).tmod 5 = ((seed % 5 : Nat) : Int) := by rw [Int.tmod_eq_emod_of_nonneg (by omega)]; omega
 have h5 : seed % 5 < 5 := Nat.mod_lt _ (by decide)
 generalize seed % 5 = w at hm h5
 refine qy (fun x : { x : Nat × Sto // x.1 ≤ w ∧ x.2.Few x.1 ∧ Rep x.2.m [98] (can x.1 0) ∧ Rep x.2.m [97] (can 0 0) } => S1 l seed x.val) (fun x => w - x.val.1) ⟨(0, newS), Nat.zero_le _, xhq, qqg _, qqg _⟩ ?_ (fun x => ?_)
 ·have e0 : (can 0 0).acc = 0 := rfl
  have e1 : (can 0 0).cons = 0 := rfl
  have e2 : (can 0 0).items = [] := rfl
  try simp only [S1, stoO, mapO, qO, e0, e1, e2, List.map_nil, Int.ofNat_zero, go_sem, Nat.reduceAdd, Nat.reduceMul, Nat.reduceSub, Nat.reduceEqDiff, Nat.reduceLT, Nat.reduceLeDiff, Nat.reduceBEq, reduceIte, reduceCtorEq, Int.reduceAdd, Int.reduceLT, Int.reduceLE, Int.reduceGT, Int.reduceGE, Int.reduceEq, Int.reduceNe, Int.reduceBEq, Int.reduceBNe, Int.reduceToNat, Int.reduceNeg]
 obtain ⟨⟨k, s⟩, x1, x2, x3, x4⟩ := x
 simp only at x1 x2 x3 x4
 have hf := x2.ok.file
 try (refine ev6 @S1.eq_1 @stoO.eq_1 @mapO.eq_1 @qO.eq_1 @hw @hm ?_; try exact True.intro)
 refine jj _ (fun h => ?_) (fun h => ?_)
 ·have hk : k < w := by simp at h; omega
  have co := qcp (can k 0) (msg ((k : Int) + 1)) (qlu (by omega)) (qe1 _)
  rw [qfo (by omega) (by omega) (by omega)] at co
  have cc := qjt (a := k) (c := 0) (a' := k + 1) (c' := 0) (by omega) (by omega) (by omega) (by omega) (by omega) (by omega) 98
  have hne := qtt (a := k) (c := 0) (a' := k + 1) (c' := 0) (by omega) (by omega) (by omega) (by omega) (by omega) (by omega) [98] (by omega)
  obtain ⟨c1, c2, c3⟩ := qjq x2 (by omega) (qv1 (vr (a := k + 1) (c := 0) (by omega) (by omega) (by omega))) (q04 (by omega) (by omega)) (by simp) hne
  have y3 := qtr x3 c3
  have y4 := qqf (name := [98]) (other := [97]) (fun x y _ _ h => by simp at h) x4 c3
  have hql := qcy (can k 0) (can (k + 1) 0) [98] 4
  generalize je (can k 0) (can (k + 1) 0) [98] 4 = ops at cc hne c1 c2 c3 y3 y4 hql
  have kc := qc8 (s := s) (l := ops) (by omega) (by omega) c1
  generalize (xm s ops).1 = s' at kc c2 c3 y3 y4
  simp only [stoO, mapO, encQ] at kc co cc
  have hk1 : ((k + 1 : Nat) : Int) = (k : Int) + 1 := by omega
  have hk2 : IntKind.i64.wrap ((k : Int) + 1) = (k : Int) + 1 := xx (by unfold I64; omega)
  try (refine ev1 @hk2 ?_; try exact True.intro)
  (repeat (with_reducible refine ob ?_)); first | refine cl F20 (qb5 ((k : Int) + 1)) ?_ | refine clF F20 (qb5 ((k : Int) + 1)) (fun _ => by (refine ev2 @qk.eq_1 @encQ.eq_1 ?_; try exact True.intro)) ?_
  try (refine ev ?_; try exact True.intro)
  (repeat (with_reducible refine ob ?_)); first | refine cl F19 (co) ?_ | refine clF F19 (co) (fun _ => by (refine ev2 @qk.eq_1 @encQ.eq_1 ?_; try exact True.intro)) ?_
  try (refine ev ?_; try exact True.intro)
  (repeat (with_reducible refine ob ?_)); first | refine cl F21 (cc) ?_ | refine clF F21 (cc) (fun _ => by (refine ev2 @qk.eq_1 @encQ.eq_1 ?_; try exact True.intro)) ?_
  try (refine ev ?_; try exact True.intro)
  have hpos : 0 < ops.length := List.length_pos_iff.2 hne
  have hd : decide ((ops.length : Int) > 0) = true := by simp; omega
  try (refine ev1 @hd ?_; try exact True.intro)
  refine clO [1, 0, 4] F13 kc ?_
  try (refine ev ?_; try exact True.intro)
  (repeat (with_reducible refine ob ?_)); refine no_ ?_
  try (refine ev ?_; try exact True.intro)
  refine q43 [4, 1, 2, 3, 0] [mapO s'.m, stoO s' 0, qO (can (k + 1) 0), qO (can (k + 1) 0), mapO s.m] ?_ (by try (refine ev3 @mapO.eq_1 @stoO.eq_1 @qO.eq_1 ?_; try exact True.intro)) (hp := rfl)
  refine pu ?_
  try (refine ev3 @mapO.eq_1 @stoO.eq_1 @qO.eq_1 ?_; try exact True.intro)
  refine ⟨⟨(k + 1, s'), hk, c2, y3, y4⟩, ?_, by dsimp only; omega⟩
  try (refine ev6 @S1.eq_1 @stoO.eq_1 @mapO.eq_1 @qO.eq_1 @hk1 @hk2 ?_; try exact True.intro)
 have hk : k = w := by simp at h; omega
 subst hk
 have hkk : ((k : Nat) : Int) = k := rfl
 have hov : qar (can k 0) = true := vr (by omega) (by omega) (by omega)
 try (refine ev ?_; try exact True.intro)
 refine qy (fun x : { x : Nat × Sto × Nat × Nat // x.1 ≤ l.length ∧ x.2.1.Few (k + x.1) ∧ x.2.2.1 ≤ x.1 ∧ x.2.2.2 ≤ x.2.2.1 ∧ x.2.2.1 - x.2.2.2 ≤ 4 ∧ Rep x.2.1.m [98] (can k 0) ∧ Rep x.2.1.m [97] (can x.2.2.1 x.2.2.2) } => S2 l k x.val) (fun x => l.length - x.val.1)
  ⟨(0, s, 0, 0), Nat.zero_le _, x2, Nat.le_refl _, Nat.le_refl _, by simp, x3, x4⟩ ?_ (fun x => ?_)
 ·have e0 : (can 0 0).acc = 0 := rfl
  have e1 : (can 0 0).cons = 0 := rfl
  have e2 : (can 0 0).items = [] := rfl
  try simp only [S2, stoO, mapO, qO, e0, e1, e2, List.map_nil, Int.ofNat_zero, go_sem, Nat.reduceAdd, Nat.reduceMul, Nat.reduceSub, Nat.reduceEqDiff, Nat.reduceLT, Nat.reduceLeDiff, Nat.reduceBEq, reduceIte, reduceCtorEq, Int.reduceAdd, Int.reduceLT, Int.reduceLE, Int.reduceGT, Int.reduceGE, Int.reduceEq, Int.reduceNe, Int.reduceBEq, Int.reduceBNe, Int.reduceToNat, Int.reduceNeg]
 clear x2 x3 x4 hf h
 obtain ⟨⟨i, s, a, c⟩, x1, x2, z1, z2, z3, x3, x4⟩ := x
 simp only at x1 x2 z1 z2 z3 x3 x4
 have hf := x2.ok.file
 try (refine ev4 @S2.eq_1 @stoO.eq_1 @mapO.eq_1 @qO.eq_1 ?_; try exact True.intro)
 refine jj _ (fun h => ?_) (fun h => ?_)
 ·have hi : i < l.length := by simp at h; omega
  have ea : (can a c).acc = (a : Int) := rfl
  have ec : (can a c).cons = (c : Int) := rfl
  have wa : IntKind.i64.wrap ((a : Int) + 1) = (a : Int) + 1 := xx (by unfold I64; omega)
  have wc : IntKind.i64.wrap ((c : Int) + 1) = (c : Int) + 1 := xx (by unfold I64; omega)
  have sa := qlu (a := a) (c := c) (by omega)
  have co := qcp (can a c) (msg ((a : Int) + 1)) sa (qe1 _)
  have oc := qr4 (can a c) ((c : Int) + 1) sa
  simp only [encQ] at co oc
  try (refine ev2 @ea @wa ?_; try exact True.intro)
  (repeat (with_reducible refine ob ?_)); first | refine cl F20 (qb5 ((a : Int) + 1)) ?_ | refine clF F20 (qb5 ((a : Int) + 1)) (fun _ => by (refine ev2 @qk.eq_1 @encQ.eq_1 ?_; try exact True.intro)) ?_
  try (refine ev ?_; try exact True.intro)
  (repeat (with_reducible refine ob ?_)); first | refine cl F19 (co) ?_ | refine clF F19 (co) (fun _ => by (refine ev2 @qk.eq_1 @encQ.eq_1 ?_; try exact True.intro)) ?_
  try (refine ev2 (xg qb7 l hi) @qb7.eq_1 ?_; try exact True.intro)
  (repeat (with_reducible refine ob ?_))
  refine xiw (fun x : { x : Qu × Int // x.2 = 0 → ∃ a' c' : Nat, x.1 = can a' c' ∧ a' ≤ i + 1 ∧ c' ≤ a' ∧ a' - c' ≤ 4 ∧ (a ≠ a' ∨ c ≠ c') ∧ (je (can a c) (can a' c') [97] 4).length ≤ 2 } => S3 l k i s a c x.val) ?_ (fun x => ?_)
  ·refine jj _ (fun h => ?_) (fun h => ?_)
   ·try (refine ev2 @ec @wc ?_; try exact True.intro)
    (repeat (with_reducible refine ob ?_)); first | refine cl F22 (oc) ?_ | refine clF F22 (oc) (fun _ => by (refine ev2 @qk.eq_1 @encQ.eq_1 ?_; try exact True.intro)) ?_
    try (refine ev ?_; try exact True.intro)
    refine ⟨⟨vw (can a c) ((c : Int) + 1), fun he => ?_⟩, ?_⟩
    ·by_cases hca : c < a
     ·refine ⟨a, c + 1, ?_, by omega, by omega, by omega, .inr (by omega), ?_⟩
      ·rw [qjs hca z3 (by omega)]
      ·have := qst (a := a) (c := c) (a' := a) (c' := c + 1) (by omega) z3 (by omega) (by omega) (by omega) (by omega) [97] (xht hca z3 (by omega)) 4 (Nat.le_refl _)
       rwa [if_pos (Nat.mod_lt _ (by decide))] at this
     ·have := qkl (a := a) (c := c) (seq := (c : Int) + 1) z2 (fun h => hca h.2)
      rw [he] at this; cases this
    ·try (refine ev6 @S3.eq_1 @stoO.eq_1 @mapO.eq_1 @qO.eq_1 @ea @ec ?_; try exact True.intro)
   ·try (refine ev ?_; try exact True.intro)
    refine ⟨⟨v8 (can a c) (msg ((a : Int) + 1)), fun he => ?_⟩, ?_⟩
    ·by_cases hca : a - c < 4
     ·refine ⟨a + 1, c, ?_, by omega, by omega, by omega, .inl (by omega), ?_⟩
      ·rw [qfo z2 hca (by omega)]
      ·have := qst (a := a) (c := c) (a' := a + 1) (c' := c) z2 (by omega) (by omega) (by omega) (by omega) (by omega) [97] (xhs z2 hca (by omega)) 4 (Nat.le_refl _)
       rwa [if_pos (Nat.mod_lt _ (by decide))] at this
     ·have := qqi (a := a) (c := c) (seq := (a : Int) + 1) (by omega) (fun h => hca h.2) z3
      rw [he] at this; cases this
    ·try (refine ev6 @S3.eq_1 @stoO.eq_1 @mapO.eq_1 @qO.eq_1 @ea @ec ?_; try exact True.intro)
  obtain ⟨⟨nx, e⟩, hx⟩ := x
  simp only at hx
  refine pu ?_
  try (refine ev4 @S3.eq_1 @stoO.eq_1 @mapO.eq_1 @qO.eq_1 ?_; try exact True.intro)
  refine jj _ (fun h => ?_) (fun h => ?_)
  ·try (refine ev ?_; try exact True.intro)
   refine pu ?_
   try (refine ev ?_; try exact True.intro)
   refine ⟨⟨(i + 1, s, a, c), hi, x2.mono (by omega), by dsimp only; omega, z2, z3, x3, x4⟩, ?_, by dsimp only; omega⟩
   try (refine ev5 @S2.eq_1 @stoO.eq_1 @mapO.eq_1 @qO.eq_1 (qv (show i < 9223372036854775807 by unfold maxLen at hl; omega)) ?_; try exact True.intro)
  have he : e = 0 := by simpa using h
  obtain ⟨a', c', rfl, q1, q2, q3, q4, q5⟩ := hx he
  have cc := qjt (a := a) (c := c) (a' := a') (c' := c') z2 z3 (by omega) q2 q3 (by omega) 97
  have hne := qtt (a := a) (c := c) (a' := a') (c' := c') z2 z3 (by omega) q2 q3 (by omega) [97] q4
  have hv' := vr (a := a') (c := c') q2 q3 (by omega)
  have hw' := q04 (a := a') (c := c') q2 (by omega)
  have hs' := qlu (a := a') (c := c') (by omega)
  obtain ⟨c1, c2, c3⟩ := qjq x2 (by omega) (qv1 hv') hw' (by simp) hne
  have y3 := qtr x4 c3
  have y4 := qqf (name := [97]) (other := [98]) (fun x y _ _ h => by simp at h) x3 c3
  generalize je (can a c) (can a' c') [97] 4 = ops at cc hne c1 c2 c3 y3 y4 q5
  have kc := qc8 (s := s) (l := ops) (by omega) (by omega) c1
  generalize (xm s ops).1 = s' at kc c2 c3 y3 y4
  have la := qtp s' [97] c2.v (by simp)
  have lb := qtp s' [98] c2.v (by simp)
  rw [qtq hv' hw' rfl y3] at la
  rw [qtq hov (q04 (by omega) (by omega)) rfl y4] at lb
  have ka := qo9 (can a' c') (can a' c') hs'
  have kb := qo9 (can k 0) (can k 0) (qlu (by omega))
  simp only [decide_true] at ka kb
  simp only [stoO, mapO, encQ] at kc cc la lb ka kb
  have hpos : 0 < ops.length := List.length_pos_iff.2 hne
  have hd : ((ops.length : Int) == 0) = false := by simp; exact hne
  have hd2 : decide ((ops.length : Int) > 2) = false := by simp; omega
  try (refine ev ?_; try exact True.intro)
  (repeat (with_reducible refine ob ?_)); first | refine cl F21 (cc) ?_ | refine clF F21 (cc) (fun _ => by (refine ev2 @qk.eq_1 @encQ.eq_1 ?_; try exact True.intro)) ?_
  try (refine ev2 @hd @hd2 ?_; try exact True.intro)
  refine clO [1, 0, 5] F13 kc ?_
  try (refine ev ?_; try exact True.intro)
  (repeat (with_reducible refine ob ?_)); refine no_ ?_
  try (refine ev ?_; try exact True.intro)
  refine clO [1, 5] zgc la ?_
  try (refine ev ?_; try exact True.intro)
  refine clO [1, 5] zgc lb ?_
  try (refine ev ?_; try exact True.intro)
  (repeat (with_reducible refine ob ?_)); first | refine cl F24 (ka) ?_ | refine clF F24 (ka) (fun _ => by (refine ev2 @qk.eq_1 @encQ.eq_1 ?_; try exact True.intro)) ?_
  try (refine ev ?_; try exact True.intro)
  (repeat (with_reducible refine ob ?_)); first | refine cl F24 (kb) ?_ | refine clF F24 (kb) (fun _ => by (refine ev2 @qk.eq_1 @encQ.eq_1 ?_; try exact True.intro)) ?_
  try (refine ev ?_; try exact True.intro)
  (repeat (with_reducible refine ob ?_)); refine no_ ?_
  try (refine ev ?_; try exact True.intro)
  refine q43 [5, 1, 2, 3, 4, 0, 6, 7] [mapO s'.m, stoO s' 0, qO (can k 0), qO (can a' c'), qO (can a' c'), mapO s.m, qO (can a' c'), qO (can k 0)] ?_ (by try (refine ev3 @mapO.eq_1 @stoO.eq_1 @qO.eq_1 ?_; try exact True.intro)) (hp := rfl)
  refine pu ?_
  try (refine ev3 @mapO.eq_1 @stoO.eq_1 @qO.eq_1 ?_; try exact True.intro)
  refine ⟨⟨(i + 1, s', a', c'), hi, c2, by dsimp only; omega, q2, q3, y4, y3⟩, ?_, by dsimp only; omega⟩
  try (refine ev5 @S2.eq_1 @stoO.eq_1 @mapO.eq_1 @qO.eq_1 (qv (show i < 9223372036854775807 by unfold maxLen at hl; omega)) ?_; try exact True.intro)
 ·try (refine ev ?_; try exact True.intro)
end Go.Proofs.Ytinnaedmdoengaa
namespace Go.Proofs.Ytinnaedmdoengaa
open Go.Abs
set_option linter.unusedSimpArgs false
set_option maxRecDepth 100000
theorem qju {α : Type} {enc : α → List D} {Q : α → Prop} : ∀ {rows : List (List D)}, (∀ r ∈ rows, ∃ x, r = enc x ∧ Q x) → ∃ l : List α, rows = l.map enc ∧ ∀ x ∈ l, Q x
 | [], _ => ⟨[], rfl, by simp⟩
 | r :: rows, h => by
  obtain ⟨x, rfl, hx⟩ := h r (by simp)
  obtain ⟨l, rfl, hl⟩ := qju (enc := enc) (Q := Q) (rows := rows) (fun r hr => h r (by simp [hr]))
  exact ⟨x :: l, rfl, by simpa using ⟨hx, hl⟩⟩
theorem x38 {n : Int} (h : (Lit.int .i64 n).wf = true) : I64 n := by
 have h1 : IntKind.i64.min = -9223372036854775808 := by decide
 have h2 : IntKind.i64.max = 9223372036854775807 := by decide
 simp only [Lit.wf, Bool.and_eq_true, decide_eq_true_eq, h1, h2] at h
 exact h
theorem zgp {n : Int} (h : (Lit.int .u8 n).wf = true) : 0 ≤ n ∧ n ≤ 255 := by
 have h1 : IntKind.u8.min = 0 := by decide
 have h2 : IntKind.u8.max = 255 := by decide
 simp only [Lit.wf, Bool.and_eq_true, decide_eq_true_eq, h1, h2] at h
 exact h
theorem q07 {n : Nat} {ds : List D} (h : Shp Try.prog (n + 1) 3 ds) : ∃ x, ds = [.int .i64 x] ∧ I64 x := by
 simp only [Shp, Try.underlying3] at h
 obtain ⟨x, rfl, h⟩ := h
 exact ⟨x, rfl, x38 h⟩
theorem x39 {n : Nat} {ds : List D} (h : Shp Try.prog (n + 1) 5 ds) : ∃ x : Nat, ds = [.int .u8 (x : Nat)] ∧ x < 256 := by
 simp only [Shp, Try.underlying5] at h
 obtain ⟨x, rfl, h⟩ := h
 have := zgp h
 refine ⟨x.toNat, ?_, by omega⟩
 rw [Int.toNat_of_nonneg this.1]
theorem zgq (n : Int) : argS Try.prog 5 [.int .u8 n] = .d (.int .u8 n) := by simp only [argS, Try.underlying5]; rfl
end Go.Proofs.Ytinnaedmdoengaa
namespace Go.Proofs.Ytinnaedmdoengaa
open Go.Abs
set_option linter.unusedSimpArgs false
set_option maxRecDepth 100000
theorem x4c {n : Nat} {ds : List D} (h : Shp Try.prog (n + 2) 59 ds) : ∃ x : Sp51, ds = qb7 x ∧ True := by
 rw [Shp] at h
 simp only [Try.underlying59, qu2] at h
 obtain ⟨_, _, rfl, h1, _, _, rfl, h2, rfl⟩ := h
 obtain ⟨a1, rfl, _⟩ := q07 h1
 obtain ⟨a2, rfl, _⟩ := q07 h2
 exact ⟨⟨a1, a2⟩, rfl, trivial⟩
theorem q09 : Try.prog.cellsOf 59 = 2 := by kernel_rfl
theorem qv4 {n : Nat} {ds : List D} (h : Shp Try.prog (n + 3) 45 ds) : ∃ l : List Sp51, ds = [.sl 2 (l.map qb7)] ∧ l.length ≤ maxLen := by
 rw [Shp] at h
 simp only [Try.underlying45] at h
 obtain ⟨r, rfl, l, h⟩ := h
 obtain ⟨s, rfl, hs⟩ := qju fun r hr => x4c (h r hr)
 exact ⟨s, by rw [q09], by simpa using l⟩
theorem qv5 (l : List Sp51) : argS Try.prog 45 [.sl 2 (l.map qb7)] = .d (.sl 2 (l.map qb7)) := by simp only [argS, Try.underlying45]; rfl
end Go.Proofs.Ytinnaedmdoengaa
