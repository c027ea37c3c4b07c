/- Texts Ca, Wa, Cb, Wb, Wc. -/
import Derived.Test.YtinnaedmdoengaaGreatMfk
import Derived.Calls
import Derived.Orders
import Derived.Tactics
import Derived.Laws.AppendOwn
import Derived.Laws.Slices
import Derived.Laws.Closers25
import Derived.Laws.StructEq
import Derived.Laws.BytesString
import Derived.Laws.CopyRow
import Derived.MapKept
import Derived.Maps.RangeRun
import Derived.TacticsIn
import Derived.OrdersIn
import Derived.RangeFuncRecord
import Derived.RangeFuncLeaves
import Derived.IntWalk
import Derived.ProofKit
import Derived.OpenShut
import Derived.Carry
import Derived.Test.YtinnaedmdoengaaGreatProg
import Derived.KernelRfl

namespace Go.Proofs.YtinnaedmdoengaaGreat
open Go.Abs
set_option linter.unusedSimpArgs false
def news : List (FuncId × Nat) := [(102, 1), (54, 1), (10, 2), (18, 2), (14, 1), (51, 1), (24, 2)]
theorem follows : Tryz.prog.follows .mixedOrders = true := by kernel_rfl
structure AV where
 kind : Int
 n : Int
 s : List UInt8
 deriving DecidableEq, Inhabited
def encAV (v : AV) : List D := [.int .i64 v.kind, .int .i64 v.n, .str v.s]
theorem x8 (v : AV) : D.noPtrL (encAV v) = true := rfl
def encI (n : Int) : List D := [.int .i64 n]
theorem zo (n : Int) : D.noPtrL (encI n) = true := rfl
structure Pk where
 kind : Int
 sess : Int
 epoch : Int
 from_ : Int
 to : Int
 seq : Int
 label : Int
 values : List AV
 clock : List Int
 deriving DecidableEq, Inhabited
def encPk (p : Pk) : List D := [.int .i64 p.kind, .int .i64 p.sess, .int .i64 p.epoch, .int .i64 p.from_, .int .i64 p.to, .int .i64 p.seq, .int .i64 p.label, .sl 3 (p.values.map encAV), .sl 1 (p.clock.map encI)]
theorem wq (p : Pk) : D.noPtrL (encPk p) = true := by
 simp only [encPk, D.noPtrL, D.noPtr, qr x8, qr zo, Bool.and_self]
theorem qpo (l : List AV) : D.noPtrR (l.map encAV) = true := qr x8 l
theorem qs4 (l : List Int) : D.noPtrR (l.map encI) = true := qr zo l
theorem qpp (l : List Pk) : D.noPtrR (l.map encPk) = true := qr wq l
attribute [go_sem] x8 zo wq qpo qs4 qpp
noncomputable section
set_option maxRecDepth 100000
def s203r0 : List SOper := [
 ⟨some 2, .mov (.k (.d (.bool false))), none⟩]
def s203r1 : List SOper := [
 ⟨some 3, .mov (.t 0), none⟩,
 ⟨some 4, .bin .geq (.t 3) (.k (.d (.int .i64 0))), none⟩,
 ⟨some 5, .mov (.t 4), none⟩,
 ⟨some 6, .mov (.t 0), some (5, true)⟩,
 ⟨some 7, .bin .lss (.t 6) (.k (.d (.int .i64 6))), some (5, true)⟩,
 ⟨some 8, .pick (.t 5) (.t 7) (.k (.d (.bool false))), none⟩,
 ⟨some 2, .mov (.t 8), none⟩]
def s203 : SCode := (.seq (.region s203r0 0 []) (.seq (.region s203r1 0 []) .ret))
theorem xhb : CodeIs s203.eq_1 := qc s203.eq_1
theorem qxj : RegIs s203r0.eq_1 := qa
theorem qxk : RegIs s203r1.eq_1 := qa
attribute [go_sem] qxj qxk xhb
theorem qxl : FnIs Tryz.prog 203 Tryz.f203 [] news s203 [.tmp 2] 9 := qz follows Tryz.func203
def s199r0 : List SOper := [
 ⟨some 1, .box 1 (.t 0), none⟩,
 ⟨some 2, .mov (.k (.d (.bool false))), none⟩]
def s199r1 : List SOper := [
 ⟨some 3, .faddr 0 (.t 1), none⟩,
 ⟨some 4, .load none (.t 3), none⟩]
def s199r2 : List SOper := [
 ⟨some 6, .bin .eql (.t 4) (.k (.d (.int .i64 1))), none⟩,
 ⟨some 5, .mov (.t 6), none⟩]
def s199r3 : List SOper := [
 ⟨some 7, .faddr 2 (.t 1), none⟩,
 ⟨some 8, .load none (.t 7), none⟩,
 ⟨some 9, .bin .eql (.t 8) (.k (.d (.str []))), none⟩,
 ⟨some 2, .mov (.t 9), none⟩]
def s199r4 : List SOper := [
 ⟨some 11, .bin .eql (.t 4) (.k (.d (.int .i64 2))), none⟩,
 ⟨some 10, .mov (.t 11), none⟩]
def s199r5 : List SOper := [
 ⟨some 12, .faddr 1 (.t 1), none⟩,
 ⟨some 13, .load none (.t 12), none⟩,
 ⟨some 14, .bin .eql (.t 13) (.k (.d (.int .i64 0))), none⟩,
 ⟨some 15, .mov (.t 14), none⟩,
 ⟨some 16, .faddr 2 (.t 1), some (15, true)⟩,
 ⟨some 17, .load none (.t 16), some (15, true)⟩,
 ⟨some 18, .lenS (.t 17), some (15, true)⟩,
 ⟨some 19, .bin .leq (.t 18) (.k (.d (.int .i64 40))), some (15, true)⟩,
 ⟨some 20, .pick (.t 15) (.t 19) (.k (.d (.bool false))), none⟩,
 ⟨some 2, .mov (.t 20), none⟩]
def s199r6 : List SOper := [
 ⟨some 2, .mov (.k (.d (.bool false))), none⟩]
def s199 : SCode := (.seq (.region s199r0 1 []) (.seq (.seq (.region s199r1 0 []) (.block 0 (.seq (.region s199r2 0 []) (.cond (.t 5) (.seq (.region s199r3 0 []) .ret) (.seq (.region s199r4 0 []) (.cond (.t 10) (.seq (.region s199r5 0 []) .ret) .skip)))))) (.seq (.region s199r6 0 []) .ret)))
theorem xhc : CodeIs s199.eq_1 := qc s199.eq_1
theorem qxm : RegIs s199r0.eq_1 := qa
theorem qxn : RegIs s199r1.eq_1 := qa
theorem qxo : RegIs s199r2.eq_1 := qa
theorem qxp : RegIs s199r3.eq_1 := qa
theorem qxq : RegIs s199r4.eq_1 := qa
theorem qxr : RegIs s199r5.eq_1 := qa
theorem qxs : RegIs s199r6.eq_1 := qa
attribute [go_sem] qxm qxn qxo qxp qxq qxr qxs xhc
theorem q85 : FnIs Tryz.prog 199 Tryz.f199 [] news s199 [.tmp 2] 21 := qz follows Tryz.func199
def s196r0 : List SOper := [
 ⟨some 1, .box 1 (.t 0), none⟩,
 ⟨some 2, .mov (.k (.d (.bool false))), none⟩]
def s196r1 : List SOper := [
 ⟨some 3, .faddr 3 (.t 1), none⟩,
 ⟨some 4, .load none (.t 3), none⟩,
 ⟨some 5, .call (.k (.d (.func (.func 203) [] []))) [(.t 4)], none⟩,
 ⟨some 6, .mov (.t 5), none⟩,
 ⟨some 7, .faddr 4 (.t 1), some (6, true)⟩,
 ⟨some 8, .load none (.t 7), some (6, true)⟩,
 ⟨some 9, .call (.k (.d (.func (.func 203) [] []))) [(.t 8)], some (6, true)⟩,
 ⟨some 10, .pick (.t 6) (.t 9) (.k (.d (.bool false))), none⟩,
 ⟨some 11, .mov (.t 10), none⟩,
 ⟨some 12, .faddr 3 (.t 1), some (11, true)⟩,
 ⟨some 13, .load none (.t 12), some (11, true)⟩,
 ⟨some 14, .faddr 4 (.t 1), some (11, true)⟩,
 ⟨some 15, .load none (.t 14), some (11, true)⟩,
 ⟨some 16, .bin .neq (.t 13) (.t 15), some (11, true)⟩,
 ⟨some 17, .pick (.t 11) (.t 16) (.k (.d (.bool false))), none⟩,
 ⟨some 18, .mov (.t 17), none⟩,
 ⟨some 19, .faddr 5 (.t 1), some (18, true)⟩,
 ⟨some 20, .load none (.t 19), some (18, true)⟩,
 ⟨some 21, .bin .geq (.t 20) (.k (.d (.int .i64 1))), some (18, true)⟩,
 ⟨some 22, .pick (.t 18) (.t 21) (.k (.d (.bool false))), none⟩,
 ⟨some 23, .mov (.t 22), none⟩,
 ⟨some 24, .faddr 5 (.t 1), some (23, true)⟩,
 ⟨some 25, .load none (.t 24), some (23, true)⟩,
 ⟨some 26, .bin .leq (.t 25) (.k (.d (.int .i64 1099511627776))), some (23, true)⟩,
 ⟨some 27, .pick (.t 23) (.t 26) (.k (.d (.bool false))), none⟩,
 ⟨some 2, .mov (.t 27), none⟩]
def s196 : SCode := (.seq (.region s196r0 1 []) (.seq (.region s196r1 0 []) .ret))
theorem xhd : CodeIs s196.eq_1 := qc s196.eq_1
theorem qxt : RegIs s196r0.eq_1 := qa
theorem qxu : RegIs s196r1.eq_1 := qa
attribute [go_sem] qxt qxu xhd
theorem q8g : FnIs Tryz.prog 196 Tryz.f196 [] news s196 [.tmp 2] 28 := qz follows Tryz.func196
def s202r0 : List SOper := [
 ⟨some 1, .box 1 (.t 0), none⟩,
 ⟨some 2, .mov (.k (.d (.bool false))), none⟩]
def s202r1 : List SOper := [
 ⟨some 3, .faddr 2 (.t 1), none⟩,
 ⟨some 4, .load none (.t 3), none⟩,
 ⟨some 5, .bin .eql (.t 4) (.k (.d (.int .i64 0))), none⟩,
 ⟨some 6, .mov (.t 5), none⟩,
 ⟨some 7, .faddr 7 (.t 1), some (6, true)⟩,
 ⟨some 8, .load none (.t 7), some (6, true)⟩,
 ⟨some 9, .len (.t 8), some (6, true)⟩,
 ⟨some 10, .bin .eql (.t 9) (.k (.d (.int .i64 0))), some (6, true)⟩,
 ⟨some 11, .pick (.t 6) (.t 10) (.k (.d (.bool false))), none⟩,
 ⟨some 12, .mov (.t 11), none⟩,
 ⟨some 13, .faddr 8 (.t 1), some (12, true)⟩,
 ⟨some 14, .load none (.t 13), some (12, true)⟩,
 ⟨some 15, .len (.t 14), some (12, true)⟩,
 ⟨some 16, .bin .eql (.t 15) (.k (.d (.int .i64 0))), some (12, true)⟩,
 ⟨some 17, .pick (.t 12) (.t 16) (.k (.d (.bool false))), none⟩,
 ⟨some 2, .mov (.t 17), none⟩]
def s202 : SCode := (.seq (.region s202r0 1 []) (.seq (.region s202r1 0 []) .ret))
theorem xhe : CodeIs s202.eq_1 := qc s202.eq_1
theorem qxv : RegIs s202r0.eq_1 := qa
theorem qxw : RegIs s202r1.eq_1 := qa
attribute [go_sem] qxv qxw xhe
theorem q8h : FnIs Tryz.prog 202 Tryz.f202 [] news s202 [.tmp 2] 18 := qz follows Tryz.func202
def s164r0 : List SOper := [
 ⟨some 1, .box 1 (.t 0), none⟩,
 ⟨some 2, .mov (.k (.d (.bool false))), none⟩]
def s164r1 : List SOper := [
 ⟨some 3, .load (some 9) (.t 1), none⟩,
 ⟨some 4, .call (.k (.d (.func (.func 196) [] []))) [(.t 3)], none⟩,
 ⟨some 5, .mov (.t 4), none⟩,
 ⟨some 6, .load (some 9) (.t 1), some (5, true)⟩,
 ⟨some 7, .call (.k (.d (.func (.func 202) [] []))) [(.t 6)], some (5, true)⟩,
 ⟨some 8, .pick (.t 5) (.t 7) (.k (.d (.bool false))), none⟩,
 ⟨some 9, .mov (.t 8), none⟩,
 ⟨some 10, .faddr 6 (.t 1), some (9, true)⟩,
 ⟨some 11, .load none (.t 10), some (9, true)⟩,
 ⟨some 12, .bin .eql (.t 11) (.k (.d (.int .i64 0))), some (9, true)⟩,
 ⟨some 13, .pick (.t 9) (.t 12) (.k (.d (.bool false))), none⟩,
 ⟨some 2, .mov (.t 13), none⟩]
def s164 : SCode := (.seq (.region s164r0 1 []) (.seq (.region s164r1 0 []) .ret))
theorem xhf : CodeIs s164.eq_1 := qc s164.eq_1
theorem qxx : RegIs s164r0.eq_1 := qa
theorem qxy : RegIs s164r1.eq_1 := qa
attribute [go_sem] qxx qxy xhf
theorem q86 : FnIs Tryz.prog 164 Tryz.f164 [] news s164 [.tmp 2] 14 := qz follows Tryz.func164
def s165r0 : List SOper := [
 ⟨some 1, .box 1 (.t 0), none⟩,
 ⟨some 2, .mov (.k (.d (.bool false))), none⟩]
def s165r1 : List SOper := [
 ⟨some 3, .faddr 3 (.t 1), none⟩,
 ⟨some 4, .load none (.t 3), none⟩,
 ⟨some 5, .call (.k (.d (.func (.func 203) [] []))) [(.t 4)], none⟩,
 ⟨some 6, .mov (.t 5), none⟩,
 ⟨some 7, .faddr 6 (.t 1), some (6, true)⟩,
 ⟨some 8, .load none (.t 7), some (6, true)⟩,
 ⟨some 9, .bin .eql (.t 8) (.k (.d (.int .i64 1))), some (6, true)⟩,
 ⟨some 10, .mov (.t 9), some (6, true)⟩,
 ⟨some 11, .faddr 6 (.t 1), some (10, false)⟩,
 ⟨some 12, .load none (.t 11), some (10, false)⟩,
 ⟨some 13, .bin .eql (.t 12) (.k (.d (.int .i64 2))), some (10, false)⟩,
 ⟨some 14, .pick (.t 10) (.k (.d (.bool true))) (.t 13), some (6, true)⟩,
 ⟨some 15, .pick (.t 6) (.t 14) (.k (.d (.bool false))), none⟩,
 ⟨some 16, .mov (.t 15), none⟩,
 ⟨some 17, .load (some 9) (.t 1), some (16, true)⟩,
 ⟨some 18, .call (.k (.d (.func (.func 202) [] []))) [(.t 17)], some (16, true)⟩,
 ⟨some 19, .pick (.t 16) (.t 18) (.k (.d (.bool false))), none⟩,
 ⟨some 20, .mov (.t 19), none⟩,
 ⟨some 21, .faddr 4 (.t 1), some (20, true)⟩,
 ⟨some 22, .load none (.t 21), some (20, true)⟩,
 ⟨some 23, .bin .eql (.t 22) (.k (.d (.int .i64 0))), some (20, true)⟩,
 ⟨some 24, .pick (.t 20) (.t 23) (.k (.d (.bool false))), none⟩,
 ⟨some 25, .mov (.t 24), none⟩,
 ⟨some 26, .faddr 5 (.t 1), some (25, true)⟩,
 ⟨some 27, .load none (.t 26), some (25, true)⟩,
 ⟨some 28, .bin .eql (.t 27) (.k (.d (.int .i64 0))), some (25, true)⟩,
 ⟨some 29, .pick (.t 25) (.t 28) (.k (.d (.bool false))), none⟩,
 ⟨some 2, .mov (.t 29), none⟩]
def s165 : SCode := (.seq (.region s165r0 1 []) (.seq (.region s165r1 0 []) .ret))
theorem xhg : CodeIs s165.eq_1 := qc s165.eq_1
theorem qxz : RegIs s165r0.eq_1 := qa
theorem qx0 : RegIs s165r1.eq_1 := qa
attribute [go_sem] qxz qx0 xhg
theorem q8i : FnIs Tryz.prog 165 Tryz.f165 [] news s165 [.tmp 2] 30 := qz follows Tryz.func165
def s198r0 : List SOper := [
 ⟨some 1, .box 1 (.t 0), none⟩,
 ⟨some 2, .mov (.k (.d (.bool false))), none⟩]
def s198r1 : List SOper := [
 ⟨some 3, .load (some 3) (.t 1), none⟩,
 ⟨some 4, .call (.k (.d (.func (.func 199) [] []))) [(.t 3)], none⟩,
 ⟨some 5, .not (.t 4), none⟩,
 ⟨some 2, .mov (.t 5), none⟩]
def s198 : SCode := (.seq (.region s198r0 1 []) (.seq (.region s198r1 0 []) .ret))
theorem xhh : CodeIs s198.eq_1 := qc s198.eq_1
theorem qx1 : RegIs s198r0.eq_1 := qa
theorem qx2 : RegIs s198r1.eq_1 := qa
attribute [go_sem] qx1 qx2 xhh
theorem q87 : FnIs Tryz.prog 198 Tryz.f198 [] news s198 [.tmp 2] 6 := qz follows Tryz.func198
def s201r0 : List SOper := [
 ⟨some 2, .mov (.k (.d (.bool false))), none⟩]
def s201r1 : List SOper := [
 ⟨some 3, .mov (.t 0), none⟩,
 ⟨some 4, .bin .lss (.t 3) (.k (.d (.int .i64 0))), none⟩,
 ⟨some 5, .mov (.t 4), none⟩,
 ⟨some 6, .mov (.t 0), some (5, false)⟩,
 ⟨some 7, .bin .gtr (.t 6) (.k (.d (.int .i64 1099511627776))), some (5, false)⟩,
 ⟨some 8, .pick (.t 5) (.k (.d (.bool true))) (.t 7), none⟩,
 ⟨some 2, .mov (.t 8), none⟩]
def s201 : SCode := (.seq (.region s201r0 0 []) (.seq (.region s201r1 0 []) .ret))
theorem xhi : CodeIs s201.eq_1 := qc s201.eq_1
theorem qx3 : RegIs s201r0.eq_1 := qa
theorem qx4 : RegIs s201r1.eq_1 := qa
attribute [go_sem] qx3 qx4 xhi
theorem q88 : FnIs Tryz.prog 201 Tryz.f201 [] news s201 [.tmp 2] 9 := qz follows Tryz.func201
end
def role (n : Int) : Bool := decide (n ≥ 0) && decide (n < 6)
theorem qkj (n : Int) : ACall Tryz.prog 203 [.d (.int .i64 n)] [] (.d (.bool (role n))) [] := by
 first | refine qxl.go ?_ | refine qxl.goT ?_
 simp only [go_sem, Nat.reduceAdd, Nat.reduceMul, Nat.reduceSub, Nat.reduceEqDiff, Nat.reduceLT, Nat.reduceLeDiff, Nat.reduceBEq, reduceIte, reduceCtorEq, Int.reduceAdd, Int.reduceLT, Int.reduceLE, Int.reduceGT, Int.reduceGE, Int.reduceEq, Int.reduceNe, Int.reduceBEq, Int.reduceBNe, Int.reduceToNat, Int.reduceNeg]
 rfl
def proper (v : AV) : Bool := if v.kind == 1 then v.s == [] else if v.kind == 2 then v.n == 0 && decide ((v.s.length : Int) ≤ 40) else false
theorem qpq (v : AV) : ACall Tryz.prog 199 [.d (.agg (encAV v))] [] (.d (.bool (proper v))) [] := by
 first | refine q85.go ?_ | refine q85.goT ?_
 simp only [encAV, go_sem, Nat.reduceAdd, Nat.reduceMul, Nat.reduceSub, Nat.reduceEqDiff, Nat.reduceLT, Nat.reduceLeDiff, Nat.reduceBEq, reduceIte, reduceCtorEq, Int.reduceAdd, Int.reduceLT, Int.reduceLE, Int.reduceGT, Int.reduceGE, Int.reduceEq, Int.reduceNe, Int.reduceBEq, Int.reduceBNe, Int.reduceToNat, Int.reduceNeg]
 refine zw _ rfl rfl (fun h => ?_) (fun h => ?_)
 ·simp only [proper, h, go_sem, Nat.reduceAdd, Nat.reduceMul, Nat.reduceSub, Nat.reduceEqDiff, Nat.reduceLT, Nat.reduceLeDiff, Nat.reduceBEq, reduceIte, reduceCtorEq, Int.reduceAdd, Int.reduceLT, Int.reduceLE, Int.reduceGT, Int.reduceGE, Int.reduceEq, Int.reduceNe, Int.reduceBEq, Int.reduceBNe, Int.reduceToNat, Int.reduceNeg]
 ·simp only [go_sem, Nat.reduceAdd, Nat.reduceMul, Nat.reduceSub, Nat.reduceEqDiff, Nat.reduceLT, Nat.reduceLeDiff, Nat.reduceBEq, reduceIte, reduceCtorEq, Int.reduceAdd, Int.reduceLT, Int.reduceLE, Int.reduceGT, Int.reduceGE, Int.reduceEq, Int.reduceNe, Int.reduceBEq, Int.reduceBNe, Int.reduceToNat, Int.reduceNeg]
  refine zw _ rfl rfl (fun h2 => ?_) (fun h2 => ?_)
  ·simp only [proper, h, h2, go_sem, Nat.reduceAdd, Nat.reduceMul, Nat.reduceSub, Nat.reduceEqDiff, Nat.reduceLT, Nat.reduceLeDiff, Nat.reduceBEq, reduceIte, reduceCtorEq, Int.reduceAdd, Int.reduceLT, Int.reduceLE, Int.reduceGT, Int.reduceGE, Int.reduceEq, Int.reduceNe, Int.reduceBEq, Int.reduceBNe, Int.reduceToNat, Int.reduceNeg]
  ·simp only [proper, h, h2, go_sem, Nat.reduceAdd, Nat.reduceMul, Nat.reduceSub, Nat.reduceEqDiff, Nat.reduceLT, Nat.reduceLeDiff, Nat.reduceBEq, reduceIte, reduceCtorEq, Int.reduceAdd, Int.reduceLT, Int.reduceLE, Int.reduceGT, Int.reduceGE, Int.reduceEq, Int.reduceNe, Int.reduceBEq, Int.reduceBNe, Int.reduceToNat, Int.reduceNeg]
def numbered (p : Pk) : Bool := role p.from_ && role p.to && p.from_ != p.to && decide (p.seq ≥ 1) && decide (p.seq ≤ 1099511627776)
theorem qcs (p : Pk) : ACall Tryz.prog 196 [.d (.agg (encPk p))] [] (.d (.bool (numbered p))) [] := by
 first | refine q8g.go ?_ | refine q8g.goT ?_
 simp only [encPk, go_sem, Nat.reduceAdd, Nat.reduceMul, Nat.reduceSub, Nat.reduceEqDiff, Nat.reduceLT, Nat.reduceLeDiff, Nat.reduceBEq, reduceIte, reduceCtorEq, Int.reduceAdd, Int.reduceLT, Int.reduceLE, Int.reduceGT, Int.reduceGE, Int.reduceEq, Int.reduceNe, Int.reduceBEq, Int.reduceBNe, Int.reduceToNat, Int.reduceNeg]
 refine qo (qkj _) qxl.body (fun h => h) (fun _ => ⟨qb, trivial⟩) rfl rfl rfl ?_
 simp only [go_sem, Nat.reduceAdd, Nat.reduceMul, Nat.reduceSub, Nat.reduceEqDiff, Nat.reduceLT, Nat.reduceLeDiff, Nat.reduceBEq, reduceIte, reduceCtorEq, Int.reduceAdd, Int.reduceLT, Int.reduceLE, Int.reduceGT, Int.reduceGE, Int.reduceEq, Int.reduceNe, Int.reduceBEq, Int.reduceBNe, Int.reduceToNat, Int.reduceNeg]
 refine qo (qkj _) qxl.body (fun h => h) (fun _ => ⟨qb, trivial⟩) rfl rfl rfl ?_
 simp only [go_sem, Nat.reduceAdd, Nat.reduceMul, Nat.reduceSub, Nat.reduceEqDiff, Nat.reduceLT, Nat.reduceLeDiff, Nat.reduceBEq, reduceIte, reduceCtorEq, Int.reduceAdd, Int.reduceLT, Int.reduceLE, Int.reduceGT, Int.reduceGE, Int.reduceEq, Int.reduceNe, Int.reduceBEq, Int.reduceBNe, Int.reduceToNat, Int.reduceNeg]
 rfl
def bare (p : Pk) : Bool := p.epoch == 0 && (p.values.length : Int) == 0 && (p.clock.length : Int) == 0
theorem qpr (p : Pk) : ACall Tryz.prog 202 [.d (.agg (encPk p))] [] (.d (.bool (bare p))) [] := by
 first | refine q8h.go ?_ | refine q8h.goT ?_
 simp only [encPk, go_sem, Nat.reduceAdd, Nat.reduceMul, Nat.reduceSub, Nat.reduceEqDiff, Nat.reduceLT, Nat.reduceLeDiff, Nat.reduceBEq, reduceIte, reduceCtorEq, Int.reduceAdd, Int.reduceLT, Int.reduceLE, Int.reduceGT, Int.reduceGE, Int.reduceEq, Int.reduceNe, Int.reduceBEq, Int.reduceBNe, Int.reduceToNat, Int.reduceNeg]
 rfl
theorem jy (p : Pk) : ([ASlot.d (.agg (encPk p))].all ASlot.noPtr) = true := by
 simp only [List.all_cons, List.all_nil, ASlot.noPtr, D.noPtr, wq, Bool.and_self]
def ack (p : Pk) : Bool := numbered p && bare p && p.label == 0
theorem qx5 (p : Pk) : ACall Tryz.prog 164 [.d (.agg (encPk p))] [] (.d (.bool (ack p))) [] := by
 first | refine q86.go ?_ | refine q86.goT ?_
 simp only [encPk, go_sem, Nat.reduceAdd, Nat.reduceMul, Nat.reduceSub, Nat.reduceEqDiff, Nat.reduceLT, Nat.reduceLeDiff, Nat.reduceBEq, reduceIte, reduceCtorEq, Int.reduceAdd, Int.reduceLT, Int.reduceLE, Int.reduceGT, Int.reduceGE, Int.reduceEq, Int.reduceNe, Int.reduceBEq, Int.reduceBNe, Int.reduceToNat, Int.reduceNeg]
 refine qo (qcs p) q8g.body (fun h => h) (fun _ => ⟨qb, trivial⟩) (jy p) rfl rfl ?_
 simp only [go_sem, Nat.reduceAdd, Nat.reduceMul, Nat.reduceSub, Nat.reduceEqDiff, Nat.reduceLT, Nat.reduceLeDiff, Nat.reduceBEq, reduceIte, reduceCtorEq, Int.reduceAdd, Int.reduceLT, Int.reduceLE, Int.reduceGT, Int.reduceGE, Int.reduceEq, Int.reduceNe, Int.reduceBEq, Int.reduceBNe, Int.reduceToNat, Int.reduceNeg]
 refine qo (qpr p) q8h.body (fun h => h) (fun _ => ⟨qb, trivial⟩) (jy p) rfl rfl ?_
 simp only [go_sem, Nat.reduceAdd, Nat.reduceMul, Nat.reduceSub, Nat.reduceEqDiff, Nat.reduceLT, Nat.reduceLeDiff, Nat.reduceBEq, reduceIte, reduceCtorEq, Int.reduceAdd, Int.reduceLT, Int.reduceLE, Int.reduceGT, Int.reduceGE, Int.reduceEq, Int.reduceNe, Int.reduceBEq, Int.reduceBNe, Int.reduceToNat, Int.reduceNeg]
 rfl
def order (p : Pk) : Bool := role p.from_ && (p.label == 1 || p.label == 2) && bare p && p.to == 0 && p.seq == 0
theorem qlm (p : Pk) : ACall Tryz.prog 165 [.d (.agg (encPk p))] [] (.d (.bool (order p))) [] := by
 first | refine q8i.go ?_ | refine q8i.goT ?_
 simp only [encPk, go_sem, Nat.reduceAdd, Nat.reduceMul, Nat.reduceSub, Nat.reduceEqDiff, Nat.reduceLT, Nat.reduceLeDiff, Nat.reduceBEq, reduceIte, reduceCtorEq, Int.reduceAdd, Int.reduceLT, Int.reduceLE, Int.reduceGT, Int.reduceGE, Int.reduceEq, Int.reduceNe, Int.reduceBEq, Int.reduceBNe, Int.reduceToNat, Int.reduceNeg]
 refine qo (qkj _) qxl.body (fun h => h) (fun _ => ⟨qb, trivial⟩) rfl rfl rfl ?_
 simp only [go_sem, Nat.reduceAdd, Nat.reduceMul, Nat.reduceSub, Nat.reduceEqDiff, Nat.reduceLT, Nat.reduceLeDiff, Nat.reduceBEq, reduceIte, reduceCtorEq, Int.reduceAdd, Int.reduceLT, Int.reduceLE, Int.reduceGT, Int.reduceGE, Int.reduceEq, Int.reduceNe, Int.reduceBEq, Int.reduceBNe, Int.reduceToNat, Int.reduceNeg]
 refine ⟨by simp_all, ?_⟩
 refine qo (qpr p) q8h.body (fun h => h) (fun _ => ⟨qb, trivial⟩) (jy p) rfl rfl ?_
 simp only [go_sem, Nat.reduceAdd, Nat.reduceMul, Nat.reduceSub, Nat.reduceEqDiff, Nat.reduceLT, Nat.reduceLeDiff, Nat.reduceBEq, reduceIte, reduceCtorEq, Int.reduceAdd, Int.reduceLT, Int.reduceLE, Int.reduceGT, Int.reduceGE, Int.reduceEq, Int.reduceNe, Int.reduceBEq, Int.reduceBNe, Int.reduceToNat, Int.reduceNeg]
 rfl
theorem qs5 (v : AV) : ACall Tryz.prog 198 [.d (.agg (encAV v))] [] (.d (.bool (!proper v))) [] := by
 first | refine q87.go ?_ | refine q87.goT ?_
 simp only [encAV, go_sem, Nat.reduceAdd, Nat.reduceMul, Nat.reduceSub, Nat.reduceEqDiff, Nat.reduceLT, Nat.reduceLeDiff, Nat.reduceBEq, reduceIte, reduceCtorEq, Int.reduceAdd, Int.reduceLT, Int.reduceLE, Int.reduceGT, Int.reduceGE, Int.reduceEq, Int.reduceNe, Int.reduceBEq, Int.reduceBNe, Int.reduceToNat, Int.reduceNeg]
 refine qo (qpq v) q85.body (fun h => h) (fun _ => ⟨qb, trivial⟩) rfl rfl rfl ?_
 simp only [go_sem, Nat.reduceAdd, Nat.reduceMul, Nat.reduceSub, Nat.reduceEqDiff, Nat.reduceLT, Nat.reduceLeDiff, Nat.reduceBEq, reduceIte, reduceCtorEq, Int.reduceAdd, Int.reduceLT, Int.reduceLE, Int.reduceGT, Int.reduceGE, Int.reduceEq, Int.reduceNe, Int.reduceBEq, Int.reduceBNe, Int.reduceToNat, Int.reduceNeg]
theorem qs6 (n : Int) : ACall Tryz.prog 201 [.d (.int .i64 n)] [] (.d (.bool (decide (n < 0) || decide (n > 1099511627776)))) [] := by
 first | refine q88.go ?_ | refine q88.goT ?_
 simp only [go_sem, Nat.reduceAdd, Nat.reduceMul, Nat.reduceSub, Nat.reduceEqDiff, Nat.reduceLT, Nat.reduceLeDiff, Nat.reduceBEq, reduceIte, reduceCtorEq, Int.reduceAdd, Int.reduceLT, Int.reduceLE, Int.reduceGT, Int.reduceGE, Int.reduceEq, Int.reduceNe, Int.reduceBEq, Int.reduceBNe, Int.reduceToNat, Int.reduceNeg]
 intro h
 rw [h]; rfl
end Go.Proofs.YtinnaedmdoengaaGreat
namespace Go.Proofs.YtinnaedmdoengaaGreat
open Go.Abs
set_option linter.unusedSimpArgs false
theorem xa (s : List UInt8) : D.noPtrR (byteRows s) = true := qr (fun _ => rfl) s
theorem qn (s t : List UInt8) : byteRows s ++ byteRows t = byteRows (s ++ t) := by simp [byteRows]
theorem za (c : UInt8) : [[D.int .u8 (c.toNat : Int)]] = byteRows [c] := rfl
theorem qx (s : List UInt8) : (byteRows s).length = s.length := by simp [byteRows]
theorem qj : byteRows [] = [] := rfl
attribute [go_sem] xa qx
attribute [go_sem] qj
def vbytes (u : Nat) : List UInt8 := if u < 128 then [UInt8.ofNat u] else UInt8.ofNat (u % 128 + 128) :: vbytes (u / 128)
def zz (n : Int) : Nat := if 0 ≤ n then (2 * n).toNat else (-2 * n - 1).toNat
def wInt (n : Int) : List UInt8 := vbytes (zz n)
def I64 (n : Int) : Prop := -9223372036854775808 ≤ n ∧ n ≤ 9223372036854775807
theorem qeh : ∀ (k u : Nat), u < 128 ^ (k + 1) → (vbytes u).length ≤ k + 1
 | 0, u, h => by rw [vbytes, if_pos (by simpa using h)]; simp
 | k + 1, u, h => by
  rw [vbytes]
  split
  ·simp
  ·have := qeh k (u / 128) (by rw [Nat.div_lt_iff_lt_mul (by decide)]; rw [Nat.pow_succ] at h; exact h)
   simp; omega
theorem qs7 {n : Int} (h : I64 n) : zz n < 18446744073709551616 := by
 obtain ⟨h1, h2⟩ := h
 unfold zz; split <;> omega
theorem zx {n : Int} (h : I64 n) : (wInt n).length ≤ 10 := qeh 9 _ (Nat.lt_of_lt_of_le (qs7 h) (by decide))
theorem q8j (n : Int) : 0 < (wInt n).length := by unfold wInt; rw [vbytes]; split <;> simp
theorem q8k {n : Int} (h0 : 0 ≤ n) (h1 : n < 18446744073709551616) : IntKind.u64.wrap n = n := by simp [IntKind.wrap, IntKind.bits, IntKind.signed]; omega
theorem qal (n : Int) : IntKind.u8.wrap n = n % 256 := by simp [IntKind.wrap, IntKind.bits, IntKind.signed]
theorem we (a : Nat) (h : a < 2 ^ 64) : ((BitVec.ofInt 64 (a : Int)) ^^^ (BitVec.ofInt 64 18446744073709551615)).toNat = 18446744073709551615 - a := by
 have e1 : BitVec.ofInt 64 18446744073709551615 = BitVec.allOnes 64 := by decide
 have e2 : BitVec.ofInt 64 (a : Int) = BitVec.ofNat 64 a := by simp
 rw [e1, e2, BitVec.xor_allOnes, BitVec.toNat_not, BitVec.toNat_ofNat, Nat.mod_eq_of_lt h]
theorem q89 {n : Int} (h : I64 n) : IntKind.u64.wrap (bvXor 64 (IntKind.u64.wrap (IntKind.u64.wrap n * 2 ^ min 1 64)) (IntKind.u64.wrap (n.fdiv (2 ^ min 63 64)))) = (zz n : Int) := by
 unfold bvXor
 obtain ⟨h1, h2⟩ := h
 have hf : n.fdiv (2 ^ min 63 64) = if 0 ≤ n then 0 else -1 := by
  show n.fdiv 9223372036854775808 = _
  rw [Int.fdiv_eq_ediv_of_nonneg _ (by decide)]
  split <;> omega
 have hw : ∀ m : Int, IntKind.u64.wrap m = m % 18446744073709551616 := fun m => by simp [IntKind.wrap, IntKind.bits, IntKind.signed]
 have hz := qs7 ⟨h1, h2⟩
 have hp : (2 : Int) ^ min 1 64 = 2 := rfl
 rw [hf, hp]
 by_cases hn : 0 ≤ n
 ·rw [if_pos hn]
  have e0 : BitVec.ofInt 64 (IntKind.u64.wrap 0) = 0#64 := by rw [hw]; rfl
  have e1 : IntKind.u64.wrap (IntKind.u64.wrap n * 2) = ((zz n : Nat) : Int) := by rw [hw, hw]; unfold zz; rw [if_pos hn]; omega
  rw [e0, e1, BitVec.xor_zero, BitVec.ofInt_natCast, BitVec.toNat_ofNat, Nat.mod_eq_of_lt hz, hw]
  omega
 ·rw [if_neg hn]
  have e0 : IntKind.u64.wrap (-1) = 18446744073709551615 := by rw [hw]; rfl
  have e1 : IntKind.u64.wrap (IntKind.u64.wrap n * 2) = ((18446744073709551615 - zz n : Nat) : Int) := by rw [hw, hw]; unfold zz at hz ⊢; rw [if_neg hn] at hz ⊢; omega
  rw [e0, e1, we _ (by show _ < 18446744073709551616; omega), hw]
  unfold zz at hz ⊢; rw [if_neg hn] at hz ⊢; omega
theorem qs8 (u : Nat) : (IntKind.u8.wrap (bvOr 8 (IntKind.u8.wrap (u : Int)) 128)) = ((UInt8.ofNat (u % 128 + 128)).toNat : Int) := by
 unfold bvOr
 have hw : ∀ m : Int, IntKind.u8.wrap m = m % 256 := fun m => by simp [IntKind.wrap, IntKind.bits, IntKind.signed]
 have e1 : BitVec.ofInt 8 (IntKind.u8.wrap (u : Int)) = BitVec.ofNat 8 (u % 256) := by rw [hw, show ((u : Int) % 256) = ((u % 256 : Nat) : Int) by omega, BitVec.ofInt_natCast]
 have key : ∀ x : Fin 256, (BitVec.ofNat 8 x.val ||| BitVec.ofInt 8 128).toNat = x.val % 128 + 128 := by decide +kernel
 have := key ⟨u % 256, Nat.mod_lt _ (by decide)⟩
 simp only at this
 rw [e1, this, hw]
 simp only [UInt8.toNat_ofNat']
 omega
theorem jp {u : Nat} (h : ¬ u < 128) : vbytes u = UInt8.ofNat (u % 128 + 128) :: vbytes (u / 128) := by rw [vbytes, if_neg h]
theorem jq {u : Nat} (h : u < 128) : vbytes u = [UInt8.ofNat u] := by rw [vbytes, if_pos h]
theorem xhj (u : Nat) : (u : Int).fdiv (2 ^ min 7 64) = ((u / 128 : Nat) : Int) := by
 show (u : Int).fdiv 128 = _
 rw [Int.fdiv_eq_ediv_of_nonneg _ (by decide)]; omega
theorem qf2 (u : Nat) : IntKind.u8.wrap (u : Int) = ((UInt8.ofNat u).toNat : Int) := by
 rw [qal _, UInt8.toNat_ofNat']; omega
noncomputable section
set_option maxRecDepth 100000
def s91r0 : List SOper := [
 ⟨some 4, .mov (.k (.d .nilsl)), none⟩]
def s91r1 : List SOper := [
 ⟨some 6, .mov (.t 1), none⟩,
 ⟨some 7, .conv .u64 (.t 6), none⟩,
 ⟨some 8, .bin .shl (.t 7) (.k (.d (.int .u64 1))), none⟩,
 ⟨some 9, .mov (.t 1), none⟩,
 ⟨some 10, .bin .shr (.t 9) (.k (.d (.int .u64 63))), none⟩,
 ⟨some 11, .conv .u64 (.t 10), none⟩,
 ⟨some 12, .bin .xor (.t 8) (.t 11), none⟩,
 ⟨some 5, .mov (.t 12), none⟩]
def s91r2 : List SOper := [
 ⟨some 13, .mov (.t 5), none⟩,
 ⟨some 14, .bin .geq (.t 13) (.k (.d (.int .u64 128))), none⟩]
def s91r3 : List SOper := [
 ⟨some 15, .mov (.t 0), none⟩,
 ⟨some 16, .mov (.t 5), none⟩,
 ⟨some 17, .conv .u8 (.t 16), none⟩,
 ⟨some 18, .bin .or (.t 17) (.k (.d (.int .u8 128))), none⟩,
 ⟨some 19, .buildSlice false 1 1 [(.int .u8 0)] [(0, 1, (.t 18))], none⟩,
 ⟨some 20, .append false 1 1 (.t 15) (.t 19), none⟩,
 ⟨some 0, .mov (.t 20), none⟩]
def s91r4 : List SOper := [
 ⟨some 21, .mov (.t 5), none⟩,
 ⟨some 22, .bin .shr (.t 21) (.k (.d (.int .u64 7))), none⟩,
 ⟨some 5, .mov (.t 22), none⟩]
def s91l5 : SCode := (.seq (.seq (.region s91r2 0 []) (.cond (.t 14) .skip (.exit 0))) (.block 1 (.seq (.region s91r3 0 []) (.region s91r4 0 []))))
theorem q9a : CodeIs s91l5.eq_1 := qc s91l5.eq_1
def s91r6 : List SOper := [
 ⟨some 23, .mov (.t 0), none⟩,
 ⟨some 24, .mov (.t 5), none⟩,
 ⟨some 25, .conv .u8 (.t 24), none⟩,
 ⟨some 26, .buildSlice false 1 1 [(.int .u8 0)] [(0, 1, (.t 25))], none⟩,
 ⟨some 27, .append false 1 1 (.t 23) (.t 26), none⟩,
 ⟨some 4, .mov (.t 27), none⟩]
def s91 : SCode := (.seq (.region s91r0 0 []) (.seq (.region s91r1 0 []) (.seq (.block 0 (.loop s91l5)) (.seq (.region s91r6 0 []) .ret))))
theorem e91 : CodeIs s91.eq_1 := qc s91.eq_1
theorem q9b : RegIs s91r0.eq_1 := qa
theorem q9c : RegIs s91r1.eq_1 := qa
theorem q9d : RegIs s91r2.eq_1 := qa
theorem q9e : RegIs s91r3.eq_1 := qa
theorem q9f : RegIs s91r4.eq_1 := qa
theorem q9g : RegIs s91r6.eq_1 := qa
attribute [go_sem] q9b q9c q9d q9e q9f q9a q9g e91
theorem F91 : FnIs Tryz.prog 91 Tryz.f91 [] news s91 [.tmp 4] 28 := qz follows Tryz.func91
def s98r0 : List SOper := [
 ⟨some 4, .mov (.k (.d .nilsl)), none⟩]
def s98r1 : List SOper := [
 ⟨some 5, .mov (.t 1), none⟩]
def s98r2 : List SOper := [
 ⟨some 6, .mov (.t 0), none⟩,
 ⟨some 7, .buildSlice false 1 1 [(.int .u8 0)] [(0, 1, (.k (.d (.int .u8 1))))], none⟩,
 ⟨some 8, .append false 1 1 (.t 6) (.t 7), none⟩,
 ⟨some 4, .mov (.t 8), none⟩]
def s98r3 : List SOper := [
 ⟨some 9, .mov (.t 0), none⟩,
 ⟨some 10, .buildSlice false 1 1 [(.int .u8 0)] [(0, 1, (.k (.d (.int .u8 0))))], none⟩,
 ⟨some 11, .append false 1 1 (.t 9) (.t 10), none⟩,
 ⟨some 4, .mov (.t 11), none⟩]
def s98 : SCode := (.seq (.region s98r0 0 []) (.seq (.seq (.region s98r1 0 []) (.cond (.t 5) (.seq (.region s98r2 0 []) .ret) .skip)) (.seq (.region s98r3 0 []) .ret)))
theorem e98 : CodeIs s98.eq_1 := qc s98.eq_1
theorem q9h : RegIs s98r0.eq_1 := qa
theorem q9i : RegIs s98r1.eq_1 := qa
theorem q9j : RegIs s98r2.eq_1 := qa
theorem q9k : RegIs s98r3.eq_1 := qa
attribute [go_sem] q9h q9i q9j q9k e98
theorem F98 : FnIs Tryz.prog 98 Tryz.f98 [] news s98 [.tmp 4] 12 := qz follows Tryz.func98
def s99r0 : List SOper := [
 ⟨some 4, .mov (.k (.d .nilsl)), none⟩]
def s99r1 : List SOper := [
 ⟨some 5, .mov (.t 0), none⟩,
 ⟨some 6, .mov (.t 1), none⟩,
 ⟨some 7, .lenS (.t 6), none⟩,
 ⟨some 8, .call (.k (.d (.func (.func 91) [] []))) [(.t 5), (.t 7)], none⟩,
 ⟨some 9, .mov (.t 1), none⟩,
 ⟨some 10, .append false 1 1 (.t 8) (.t 9), none⟩,
 ⟨some 4, .mov (.t 10), none⟩]
def s99 : SCode := (.seq (.region s99r0 0 []) (.seq (.region s99r1 0 []) .ret))
theorem e99 : CodeIs s99.eq_1 := qc s99.eq_1
theorem q9l : RegIs s99r0.eq_1 := qa
theorem q9m : RegIs s99r1.eq_1 := qa
attribute [go_sem] q9l q9m e99
theorem F99 : FnIs Tryz.prog 99 Tryz.f99 [] news s99 [.tmp 4] 11 := qz follows Tryz.func99
def s97r0 : List SOper := [
 ⟨some 4, .mov (.k (.d .nilsl)), none⟩]
def s97r1 : List SOper := [
 ⟨some 5, .mov (.t 0), none⟩,
 ⟨some 6, .mov (.t 1), none⟩,
 ⟨some 7, .len (.t 6), none⟩,
 ⟨some 8, .call (.k (.d (.func (.func 91) [] []))) [(.t 5), (.t 7)], none⟩,
 ⟨some 9, .mov (.t 1), none⟩,
 ⟨some 10, .append false 1 1 (.t 8) (.t 9), none⟩,
 ⟨some 4, .mov (.t 10), none⟩]
def s97 : SCode := (.seq (.region s97r0 0 []) (.seq (.region s97r1 0 []) .ret))
theorem e97 : CodeIs s97.eq_1 := qc s97.eq_1
theorem q9n : RegIs s97r0.eq_1 := qa
theorem q9o : RegIs s97r1.eq_1 := qa
attribute [go_sem] q9n q9o e97
theorem F97 : FnIs Tryz.prog 97 Tryz.f97 [] news s97 [.tmp 4] 11 := qz follows Tryz.func97
end
def SwInt (b : List UInt8) (n : Int) (i : { i : List UInt8 × Nat // i.1 ++ vbytes i.2 = b ++ wInt n }) : St :=
 ⟨[(0, true, .own 0 1 (byteRows i.val.1)), (5, true, .d (.int .u64 (i.val.2 : Nat)))], [], [0], 1⟩
theorem qam (b : List UInt8) (n : Int) (hb : b.length ≤ 1000000000) (hn : I64 n) : ACall Tryz.prog 91 [.own 0 1 (byteRows b), .d (.int .i64 n)] [] (.own 0 1 (byteRows (b ++ wInt n))) [] := by
 refine F91.go ?_
 try (refine ev1 (q89 hn) ?_; try exact True.intro)
 refine qm (SwInt b n) (fun i => i.val.2) ⟨(b, zz n), rfl⟩ ?_ (fun i => ?_)
 ·try (refine ev1 @SwInt.eq_1 ?_; try exact True.intro)
 obtain ⟨⟨p, u⟩, hi⟩ := i
 have hl : p.length ≤ 1000000010 := by
  have := congrArg List.length hi
  have := zx hn
  simp at *; omega
 try (refine ev1 @SwInt.eq_1 ?_; try exact True.intro)
 (repeat (with_reducible refine ob ?_)); refine xf _ (fun h => ?_) (fun h => ?_)
 ·have hu : ¬ u < 128 := by simp at h; omega
  try (refine ev4 @qs8 @za @qn @xhj ?_; try exact True.intro)
  (repeat (with_reducible refine ob ?_))
  refine ⟨⟨(p ++ [UInt8.ofNat (u % 128 + 128)], u / 128), ?_⟩, ?_, ?_⟩
  ·simp only at hi ⊢; rw [jp hu] at hi; rw [← hi]; simp
  ·try (refine ev1 @SwInt.eq_1 ?_; try exact True.intro)
  ·simp only; omega
 ·have hu : u < 128 := by simp at h; omega
  try (refine ev3 @qf2 @za @qn ?_; try exact True.intro)
  (repeat (with_reducible refine ob ?_))
  simp only [jq hu] at hi
  try (refine ev1 @hi ?_; try exact True.intro)
theorem qkk (b : List UInt8) (v : Bool) (hb : b.length ≤ 1000000000) : ACall Tryz.prog 98 [.own 0 1 (byteRows b), .d (.bool v)] [] (.own 0 1 (byteRows (b ++ [if v then 1 else 0]))) [] := by
 refine F98.go ?_
 try (refine ev ?_; try exact True.intro)
 have e1 : [[D.int .u8 1]] = byteRows [1] := rfl
 have e0 : [[D.int .u8 0]] = byteRows [0] := rfl
 cases v with
 | true =>
  try (refine ev ?_; try exact True.intro)
  (repeat (with_reducible refine ob ?_)); refine wx ?_
  try simp only [e1, qn, if_true, go_sem, Nat.reduceAdd, Nat.reduceMul, Nat.reduceSub, Nat.reduceEqDiff, Nat.reduceLT, Nat.reduceLeDiff, Nat.reduceBEq, reduceIte, reduceCtorEq, Int.reduceAdd, Int.reduceLT, Int.reduceLE, Int.reduceGT, Int.reduceGE, Int.reduceEq, Int.reduceNe, Int.reduceBEq, Int.reduceBNe, Int.reduceToNat, Int.reduceNeg]
  omega
 | false =>
  try (refine ev ?_; try exact True.intro)
  (repeat (with_reducible refine ob ?_)); refine no_ ?_
  try (refine ev2 @e0 @qn ?_; try exact True.intro)
  omega
def wText (s : List UInt8) : List UInt8 := wInt s.length ++ s
theorem xh {n : Nat} (h : n ≤ 9000000000000000000) : I64 n := by unfold I64; omega
theorem qkl (b s : List UInt8) (hb : b.length + s.length ≤ 900000000) : ACall Tryz.prog 99 [.own 0 1 (byteRows b), .d (.str s)] [] (.own 0 1 (byteRows (b ++ wText s))) [] := by
 refine F99.go ?_
 try (refine ev ?_; try exact True.intro)
 refine clA F91 (qam b s.length (by omega) (xh (by omega))) ?_
 try (refine ev ?_; try exact True.intro)
 have hl := zx (xh (n := s.length) (by omega))
 have e : byteRows (b ++ wInt s.length) ++ byteRows s = byteRows (b ++ wText s) := by rw [qn, wText, List.append_assoc]
 try (refine ev2 @e @List.length_append.{0} ?_; try exact True.intro)
 refine ⟨by omega, by omega⟩
theorem qh2 (b s : List UInt8) (hb : b.length + s.length ≤ 900000000) : ACall Tryz.prog 97 [.own 0 1 (byteRows b), .d (.sl 1 (byteRows s))] [] (.own 0 1 (byteRows (b ++ wText s))) [] := by
 refine F97.go ?_
 try (refine ev ?_; try exact True.intro)
 refine clA F91 (qam b s.length (by omega) (xh (by omega))) ?_
 try (refine ev ?_; try exact True.intro)
 have hl := zx (xh (n := s.length) (by omega))
 have e : byteRows (b ++ wInt s.length) ++ byteRows s = byteRows (b ++ wText s) := by rw [qn, wText, List.append_assoc]
 try (refine ev2 @e @List.length_append.{0} ?_; try exact True.intro)
 refine ⟨by omega, by omega⟩
end Go.Proofs.YtinnaedmdoengaaGreat
namespace Go.Proofs.YtinnaedmdoengaaGreat
open Go.Abs
set_option linter.unusedSimpArgs false
def idx {α : Type} (f : α → Bool) (l : List α) : Int := if l.any f then (l.findIdx f : Int) else -1
theorem qbo {α : Type} {f : α → Bool} {l : List α} {i : Nat} (h : (l.take i).any f = false) (hi : l.length ≤ i) : idx f l = -1 := by
 rw [List.take_of_length_le hi] at h
 simp [idx, h]
theorem qbp {α : Type} {f : α → Bool} {l : List α} {i : Nat} (h : (l.take i).any f = false) (hi : i < l.length) (hf : f l[i] = true) : idx f l = (i : Int) := by
 have ha : l.any f = true := List.any_eq_true.2 ⟨l[i], List.getElem_mem hi, hf⟩
 have hx : l.findIdx f = i := by
  rw [List.findIdx_eq hi]
  refine ⟨hf, fun j hj => ?_⟩
  rw [List.any_eq_false] at h
  have hj' : j < (l.take i).length := by simp; omega
  have := h (l.take i)[j] (List.getElem_mem hj')
  simpa using this
 simp [idx, ha, hx]
theorem zy {α : Type} {f : α → Bool} {l : List α} {i : Nat} (h : (l.take i).any f = false) (hi : i < l.length) (hf : f l[i] = false) : (l.take (i + 1)).any f = false := by
 rw [List.take_succ_eq_append_getElem hi, List.any_append, h]
 simp [hf]
theorem qln {α : Type} (f : α → Bool) (l : List α) : decide (idx f l ≥ 0) = l.any f := by
 unfold idx
 cases l.any f <;> simp
noncomputable section
set_option maxRecDepth 100000
def s211r0 : List SOper := [
 ⟨some 4, .mov (.k (.d (.int .i64 0))), none⟩]
def s211r1 : List SOper := [
 ⟨some 6, .mov (.t 0), none⟩,
 ⟨some 7, .len (.t 6), none⟩,
 ⟨some 8, .mov (.k (.d (.int .i64 0))), none⟩]
def s211r2 : List SOper := [
 ⟨some 9, .bin .lss (.t 8) (.t 7), none⟩]
def s211r3 : List SOper := [
 ⟨some 10, .mov (.t 8), none⟩,
 ⟨some 5, .mov (.t 10), none⟩]
def s211r4 : List SOper := [
 ⟨some 11, .mov (.t 1), none⟩,
 ⟨some 12, .mov (.t 0), none⟩,
 ⟨some 13, .mov (.t 5), none⟩,
 ⟨some 14, .iaddr 3 (.t 12) (.t 13), none⟩,
 ⟨some 15, .load (some 3) (.t 14), none⟩,
 ⟨some 16, .call (.t 11) [(.t 15)], none⟩]
def s211r5 : List SOper := [
 ⟨some 17, .mov (.t 5), none⟩,
 ⟨some 4, .mov (.t 17), none⟩]
def s211r6 : List SOper := [
 ⟨some 18, .bin .add (.t 8) (.k (.d (.int .i64 1))), none⟩,
 ⟨some 8, .mov (.t 18), none⟩]
def s211l7 : SCode := (.seq (.region s211r2 0 []) (.seq (.cond (.t 9) .skip (.exit 0)) (.seq (.block 1 (.seq (.region s211r3 0 []) (.seq (.region s211r4 0 []) (.cond (.t 16) (.seq (.region s211r5 0 []) .ret) .skip)))) (.region s211r6 0 []))))
theorem qx6 : CodeIs s211l7.eq_1 := qc s211l7.eq_1
def s211r8 : List SOper := [
 ⟨some 4, .mov (.k (.d (.int .i64 (-1)))), none⟩]
def s211 : SCode := (.seq (.region s211r0 0 []) (.seq (.seq (.region s211r1 0 []) (.block 0 (.loop s211l7))) (.seq (.region s211r8 0 []) .ret)))
theorem xhk : CodeIs s211.eq_1 := qc s211.eq_1
theorem qx7 : RegIs s211r0.eq_1 := qa
theorem qx8 : RegIs s211r1.eq_1 := qa
theorem qx9 : RegIs s211r2.eq_1 := qa
theorem qya : RegIs s211r3.eq_1 := qa
theorem qyb : RegIs s211r4.eq_1 := qa
theorem qyc : RegIs s211r5.eq_1 := qa
theorem qyd : RegIs s211r6.eq_1 := qa
theorem qye : RegIs s211r8.eq_1 := qa
attribute [go_sem] qx7 qx8 qx9 qya qyb qyc qyd qx6 qye xhk
theorem q9p : FnIs Tryz.prog 211 Tryz.f211 [] news s211 [.tmp 4] 19 := qz follows Tryz.func211
def s212r0 : List SOper := [
 ⟨some 4, .mov (.k (.d (.int .i64 0))), none⟩]
def s212r1 : List SOper := [
 ⟨some 6, .mov (.t 0), none⟩,
 ⟨some 7, .len (.t 6), none⟩,
 ⟨some 8, .mov (.k (.d (.int .i64 0))), none⟩]
def s212r2 : List SOper := [
 ⟨some 9, .bin .lss (.t 8) (.t 7), none⟩]
def s212r3 : List SOper := [
 ⟨some 10, .mov (.t 8), none⟩,
 ⟨some 5, .mov (.t 10), none⟩]
def s212r4 : List SOper := [
 ⟨some 11, .mov (.t 1), none⟩,
 ⟨some 12, .mov (.t 0), none⟩,
 ⟨some 13, .mov (.t 5), none⟩,
 ⟨some 14, .iaddr 1 (.t 12) (.t 13), none⟩,
 ⟨some 15, .load none (.t 14), none⟩,
 ⟨some 16, .call (.t 11) [(.t 15)], none⟩]
def s212r5 : List SOper := [
 ⟨some 17, .mov (.t 5), none⟩,
 ⟨some 4, .mov (.t 17), none⟩]
def s212r6 : List SOper := [
 ⟨some 18, .bin .add (.t 8) (.k (.d (.int .i64 1))), none⟩,
 ⟨some 8, .mov (.t 18), none⟩]
def s212l7 : SCode := (.seq (.region s212r2 0 []) (.seq (.cond (.t 9) .skip (.exit 0)) (.seq (.block 1 (.seq (.region s212r3 0 []) (.seq (.region s212r4 0 []) (.cond (.t 16) (.seq (.region s212r5 0 []) .ret) .skip)))) (.region s212r6 0 []))))
theorem qyf : CodeIs s212l7.eq_1 := qc s212l7.eq_1
def s212r8 : List SOper := [
 ⟨some 4, .mov (.k (.d (.int .i64 (-1)))), none⟩]
def s212 : SCode := (.seq (.region s212r0 0 []) (.seq (.seq (.region s212r1 0 []) (.block 0 (.loop s212l7))) (.seq (.region s212r8 0 []) .ret)))
theorem xhl : CodeIs s212.eq_1 := qc s212.eq_1
theorem qyg : RegIs s212r0.eq_1 := qa
theorem qyh : RegIs s212r1.eq_1 := qa
theorem qyi : RegIs s212r2.eq_1 := qa
theorem qyj : RegIs s212r3.eq_1 := qa
theorem qyk : RegIs s212r4.eq_1 := qa
theorem qyl : RegIs s212r5.eq_1 := qa
theorem qym : RegIs s212r6.eq_1 := qa
theorem qyn : RegIs s212r8.eq_1 := qa
attribute [go_sem] qyg qyh qyi qyj qyk qyl qym qyf qyn xhl
theorem q9q : FnIs Tryz.prog 212 Tryz.f212 [] news s212 [.tmp 4] 19 := qz follows Tryz.func212
def s197r0 : List SOper := [
 ⟨some 4, .mov (.k (.d (.bool false))), none⟩]
def s197r1 : List SOper := [
 ⟨some 5, .mov (.t 0), none⟩,
 ⟨some 6, .mov (.t 1), none⟩,
 ⟨some 7, .call (.k (.d (.func (.func 211) [] []))) [(.t 5), (.t 6)], none⟩,
 ⟨some 8, .bin .geq (.t 7) (.k (.d (.int .i64 0))), none⟩,
 ⟨some 4, .mov (.t 8), none⟩]
def s197 : SCode := (.seq (.region s197r0 0 []) (.seq (.region s197r1 0 []) .ret))
theorem xhm : CodeIs s197.eq_1 := qc s197.eq_1
theorem qyo : RegIs s197r0.eq_1 := qa
theorem qyp : RegIs s197r1.eq_1 := qa
attribute [go_sem] qyo qyp xhm
theorem q9r : FnIs Tryz.prog 197 Tryz.f197 [] news s197 [.tmp 4] 9 := qz follows Tryz.func197
def s200r0 : List SOper := [
 ⟨some 4, .mov (.k (.d (.bool false))), none⟩]
def s200r1 : List SOper := [
 ⟨some 5, .mov (.t 0), none⟩,
 ⟨some 6, .mov (.t 1), none⟩,
 ⟨some 7, .call (.k (.d (.func (.func 212) [] []))) [(.t 5), (.t 6)], none⟩,
 ⟨some 8, .bin .geq (.t 7) (.k (.d (.int .i64 0))), none⟩,
 ⟨some 4, .mov (.t 8), none⟩]
def s200 : SCode := (.seq (.region s200r0 0 []) (.seq (.region s200r1 0 []) .ret))
theorem xhn : CodeIs s200.eq_1 := qc s200.eq_1
theorem qyq : RegIs s200r0.eq_1 := qa
theorem qyr : RegIs s200r1.eq_1 := qa
attribute [go_sem] qyq qyr xhn
theorem q9s : FnIs Tryz.prog 200 Tryz.f200 [] news s200 [.tmp 4] 9 := qz follows Tryz.func200
end
def Sidx {α : Type} (es : Nat) (enc : α → List D) (k : FuncId) (l : List α) (f : α → Bool) (i : { i : Nat // (l.take i).any f = false }) : St :=
 ⟨[(0, true, .d (.sl es (l.map enc))), (1, true, .d (.func (.func k) [] [])), (6, true, .d (.sl es (l.map enc))), (7, true, .d (.int .i64 l.length)), (8, true, .d (.int .i64 (i.val : Nat)))], [], [], 1⟩
theorem qps {k : FuncId} {f : AV → Bool} (hb : (Tryz.prog.funcs[k]?).any (fun fn => fn.body.isSome && !(fn.name == "runtime.NumGoroutine")) = true)
  (hf : ∀ v, ACall Tryz.prog k [.d (.agg (encAV v))] [] (.d (.bool (f v))) []) (l : List AV) (hl : l.length ≤ maxLen) :
  ACall Tryz.prog 211 [.d (.sl 3 (l.map encAV)), .d (.func (.func k) [] [])] [] (.d (.int .i64 (idx f l))) [] := by
 first | refine q9p.go ?_ | refine q9p.goT ?_
 simp only [go_sem, Nat.reduceAdd, Nat.reduceMul, Nat.reduceSub, Nat.reduceEqDiff, Nat.reduceLT, Nat.reduceLeDiff, Nat.reduceBEq, reduceIte, reduceCtorEq, Int.reduceAdd, Int.reduceLT, Int.reduceLE, Int.reduceGT, Int.reduceGE, Int.reduceEq, Int.reduceNe, Int.reduceBEq, Int.reduceBNe, Int.reduceToNat, Int.reduceNeg]
 refine qm (Sidx 3 encAV k l f) (fun i => l.length - i.val) ⟨0, rfl⟩ ?_ (fun i => ?_)
 ·simp only [Sidx, qr x8, go_sem, Nat.reduceAdd, Nat.reduceMul, Nat.reduceSub, Nat.reduceEqDiff, Nat.reduceLT, Nat.reduceLeDiff, Nat.reduceBEq, reduceIte, reduceCtorEq, Int.reduceAdd, Int.reduceLT, Int.reduceLE, Int.reduceGT, Int.reduceGE, Int.reduceEq, Int.reduceNe, Int.reduceBEq, Int.reduceBNe, Int.reduceToNat, Int.reduceNeg]
 ·obtain ⟨i, hi⟩ := i
  simp only [Sidx, go_sem, Nat.reduceAdd, Nat.reduceMul, Nat.reduceSub, Nat.reduceEqDiff, Nat.reduceLT, Nat.reduceLeDiff, Nat.reduceBEq, reduceIte, reduceCtorEq, Int.reduceAdd, Int.reduceLT, Int.reduceLE, Int.reduceGT, Int.reduceGE, Int.reduceEq, Int.reduceNe, Int.reduceBEq, Int.reduceBNe, Int.reduceToNat, Int.reduceNeg]
  refine zw _ rfl rfl (fun h => ?_) (fun h => ?_)
  ·have hil : i < l.length := by simpa using h
   simp only [qq encAV l hil, encAV, go_sem, Nat.reduceAdd, Nat.reduceMul, Nat.reduceSub, Nat.reduceEqDiff, Nat.reduceLT, Nat.reduceLeDiff, Nat.reduceBEq, reduceIte, reduceCtorEq, Int.reduceAdd, Int.reduceLT, Int.reduceLE, Int.reduceGT, Int.reduceGE, Int.reduceEq, Int.reduceNe, Int.reduceBEq, Int.reduceBNe, Int.reduceToNat, Int.reduceNeg]
   refine ⟨by omega, ?_⟩
   refine qo (hf l[i]) hb (fun h => h) (fun _ => ⟨qb, trivial⟩) rfl rfl rfl ?_
   simp only [go_sem, Nat.reduceAdd, Nat.reduceMul, Nat.reduceSub, Nat.reduceEqDiff, Nat.reduceLT, Nat.reduceLeDiff, Nat.reduceBEq, reduceIte, reduceCtorEq, Int.reduceAdd, Int.reduceLT, Int.reduceLE, Int.reduceGT, Int.reduceGE, Int.reduceEq, Int.reduceNe, Int.reduceBEq, Int.reduceBNe, Int.reduceToNat, Int.reduceNeg]
   refine zw _ rfl rfl (fun h2 => ?_) (fun h2 => ?_)
   ·simp only [qbp hi hil h2, go_sem, Nat.reduceAdd, Nat.reduceMul, Nat.reduceSub, Nat.reduceEqDiff, Nat.reduceLT, Nat.reduceLeDiff, Nat.reduceBEq, reduceIte, reduceCtorEq, Int.reduceAdd, Int.reduceLT, Int.reduceLE, Int.reduceGT, Int.reduceGE, Int.reduceEq, Int.reduceNe, Int.reduceBEq, Int.reduceBNe, Int.reduceToNat, Int.reduceNeg]
   ·simp only [go_sem, Nat.reduceAdd, Nat.reduceMul, Nat.reduceSub, Nat.reduceEqDiff, Nat.reduceLT, Nat.reduceLeDiff, Nat.reduceBEq, reduceIte, reduceCtorEq, Int.reduceAdd, Int.reduceLT, Int.reduceLE, Int.reduceGT, Int.reduceGE, Int.reduceEq, Int.reduceNe, Int.reduceBEq, Int.reduceBNe, Int.reduceToNat, Int.reduceNeg]
    refine ⟨⟨i + 1, zy hi hil h2⟩, ?_, by dsimp only; omega⟩
    simp only [Sidx, qk (show i < 9223372036854775807 by unfold maxLen at hl; omega), qr x8, go_sem, Nat.reduceAdd, Nat.reduceMul, Nat.reduceSub, Nat.reduceEqDiff, Nat.reduceLT, Nat.reduceLeDiff, Nat.reduceBEq, reduceIte, reduceCtorEq, Int.reduceAdd, Int.reduceLT, Int.reduceLE, Int.reduceGT, Int.reduceGE, Int.reduceEq, Int.reduceNe, Int.reduceBEq, Int.reduceBNe, Int.reduceToNat, Int.reduceNeg]
  ·have hil : l.length ≤ i := by simpa using h
   simp only [qbo hi hil, go_sem, Nat.reduceAdd, Nat.reduceMul, Nat.reduceSub, Nat.reduceEqDiff, Nat.reduceLT, Nat.reduceLeDiff, Nat.reduceBEq, reduceIte, reduceCtorEq, Int.reduceAdd, Int.reduceLT, Int.reduceLE, Int.reduceGT, Int.reduceGE, Int.reduceEq, Int.reduceNe, Int.reduceBEq, Int.reduceBNe, Int.reduceToNat, Int.reduceNeg]
theorem qpt {k : FuncId} {f : Int → Bool} (hb : (Tryz.prog.funcs[k]?).any (fun fn => fn.body.isSome && !(fn.name == "runtime.NumGoroutine")) = true)
  (hf : ∀ v, ACall Tryz.prog k [.d (.int .i64 v)] [] (.d (.bool (f v))) []) (l : List Int) (hl : l.length ≤ maxLen) :
  ACall Tryz.prog 212 [.d (.sl 1 (l.map encI)), .d (.func (.func k) [] [])] [] (.d (.int .i64 (idx f l))) [] := by
 first | refine q9q.go ?_ | refine q9q.goT ?_
 simp only [go_sem, Nat.reduceAdd, Nat.reduceMul, Nat.reduceSub, Nat.reduceEqDiff, Nat.reduceLT, Nat.reduceLeDiff, Nat.reduceBEq, reduceIte, reduceCtorEq, Int.reduceAdd, Int.reduceLT, Int.reduceLE, Int.reduceGT, Int.reduceGE, Int.reduceEq, Int.reduceNe, Int.reduceBEq, Int.reduceBNe, Int.reduceToNat, Int.reduceNeg]
 refine qm (Sidx 1 encI k l f) (fun i => l.length - i.val) ⟨0, rfl⟩ ?_ (fun i => ?_)
 ·simp only [Sidx, qr zo, go_sem, Nat.reduceAdd, Nat.reduceMul, Nat.reduceSub, Nat.reduceEqDiff, Nat.reduceLT, Nat.reduceLeDiff, Nat.reduceBEq, reduceIte, reduceCtorEq, Int.reduceAdd, Int.reduceLT, Int.reduceLE, Int.reduceGT, Int.reduceGE, Int.reduceEq, Int.reduceNe, Int.reduceBEq, Int.reduceBNe, Int.reduceToNat, Int.reduceNeg]
 ·obtain ⟨i, hi⟩ := i
  simp only [Sidx, go_sem, Nat.reduceAdd, Nat.reduceMul, Nat.reduceSub, Nat.reduceEqDiff, Nat.reduceLT, Nat.reduceLeDiff, Nat.reduceBEq, reduceIte, reduceCtorEq, Int.reduceAdd, Int.reduceLT, Int.reduceLE, Int.reduceGT, Int.reduceGE, Int.reduceEq, Int.reduceNe, Int.reduceBEq, Int.reduceBNe, Int.reduceToNat, Int.reduceNeg]
  refine zw _ rfl rfl (fun h => ?_) (fun h => ?_)
  ·have hil : i < l.length := by simpa using h
   simp only [qq encI l hil, encI, go_sem, Nat.reduceAdd, Nat.reduceMul, Nat.reduceSub, Nat.reduceEqDiff, Nat.reduceLT, Nat.reduceLeDiff, Nat.reduceBEq, reduceIte, reduceCtorEq, Int.reduceAdd, Int.reduceLT, Int.reduceLE, Int.reduceGT, Int.reduceGE, Int.reduceEq, Int.reduceNe, Int.reduceBEq, Int.reduceBNe, Int.reduceToNat, Int.reduceNeg]
   refine ⟨by omega, ?_⟩
   refine qo (hf l[i]) hb (fun h => h) (fun _ => ⟨qb, trivial⟩) rfl rfl rfl ?_
   simp only [go_sem, Nat.reduceAdd, Nat.reduceMul, Nat.reduceSub, Nat.reduceEqDiff, Nat.reduceLT, Nat.reduceLeDiff, Nat.reduceBEq, reduceIte, reduceCtorEq, Int.reduceAdd, Int.reduceLT, Int.reduceLE, Int.reduceGT, Int.reduceGE, Int.reduceEq, Int.reduceNe, Int.reduceBEq, Int.reduceBNe, Int.reduceToNat, Int.reduceNeg]
   refine zw _ rfl rfl (fun h2 => ?_) (fun h2 => ?_)
   ·simp only [qbp hi hil h2, go_sem, Nat.reduceAdd, Nat.reduceMul, Nat.reduceSub, Nat.reduceEqDiff, Nat.reduceLT, Nat.reduceLeDiff, Nat.reduceBEq, reduceIte, reduceCtorEq, Int.reduceAdd, Int.reduceLT, Int.reduceLE, Int.reduceGT, Int.reduceGE, Int.reduceEq, Int.reduceNe, Int.reduceBEq, Int.reduceBNe, Int.reduceToNat, Int.reduceNeg]
   ·simp only [go_sem, Nat.reduceAdd, Nat.reduceMul, Nat.reduceSub, Nat.reduceEqDiff, Nat.reduceLT, Nat.reduceLeDiff, Nat.reduceBEq, reduceIte, reduceCtorEq, Int.reduceAdd, Int.reduceLT, Int.reduceLE, Int.reduceGT, Int.reduceGE, Int.reduceEq, Int.reduceNe, Int.reduceBEq, Int.reduceBNe, Int.reduceToNat, Int.reduceNeg]
    refine ⟨⟨i + 1, zy hi hil h2⟩, ?_, by dsimp only; omega⟩
    simp only [Sidx, qk (show i < 9223372036854775807 by unfold maxLen at hl; omega), qr zo, go_sem, Nat.reduceAdd, Nat.reduceMul, Nat.reduceSub, Nat.reduceEqDiff, Nat.reduceLT, Nat.reduceLeDiff, Nat.reduceBEq, reduceIte, reduceCtorEq, Int.reduceAdd, Int.reduceLT, Int.reduceLE, Int.reduceGT, Int.reduceGE, Int.reduceEq, Int.reduceNe, Int.reduceBEq, Int.reduceBNe, Int.reduceToNat, Int.reduceNeg]
  ·have hil : l.length ≤ i := by simpa using h
   simp only [qbo hi hil, go_sem, Nat.reduceAdd, Nat.reduceMul, Nat.reduceSub, Nat.reduceEqDiff, Nat.reduceLT, Nat.reduceLeDiff, Nat.reduceBEq, reduceIte, reduceCtorEq, Int.reduceAdd, Int.reduceLT, Int.reduceLE, Int.reduceGT, Int.reduceGE, Int.reduceEq, Int.reduceNe, Int.reduceBEq, Int.reduceBNe, Int.reduceToNat, Int.reduceNeg]
theorem qh3 {k : FuncId} {f : AV → Bool} (hb : (Tryz.prog.funcs[k]?).any (fun fn => fn.body.isSome && !(fn.name == "runtime.NumGoroutine")) = true)
  (hf : ∀ v, ACall Tryz.prog k [.d (.agg (encAV v))] [] (.d (.bool (f v))) []) (l : List AV) (hl : l.length ≤ maxLen) :
  ACall Tryz.prog 197 [.d (.sl 3 (l.map encAV)), .d (.func (.func k) [] [])] [] (.d (.bool (l.any f))) [] := by
 first | refine q9r.go ?_ | refine q9r.goT ?_
 simp only [go_sem, Nat.reduceAdd, Nat.reduceMul, Nat.reduceSub, Nat.reduceEqDiff, Nat.reduceLT, Nat.reduceLeDiff, Nat.reduceBEq, reduceIte, reduceCtorEq, Int.reduceAdd, Int.reduceLT, Int.reduceLE, Int.reduceGT, Int.reduceGE, Int.reduceEq, Int.reduceNe, Int.reduceBEq, Int.reduceBNe, Int.reduceToNat, Int.reduceNeg]
 refine qo (qps hb hf l hl) q9p.body (fun h => h) (fun _ => ⟨qb, qb, trivial⟩) (by simp [ASlot.noPtr, D.noPtr, D.noPtrL, qr x8]) rfl rfl ?_
 simp only [qln, go_sem, Nat.reduceAdd, Nat.reduceMul, Nat.reduceSub, Nat.reduceEqDiff, Nat.reduceLT, Nat.reduceLeDiff, Nat.reduceBEq, reduceIte, reduceCtorEq, Int.reduceAdd, Int.reduceLT, Int.reduceLE, Int.reduceGT, Int.reduceGE, Int.reduceEq, Int.reduceNe, Int.reduceBEq, Int.reduceBNe, Int.reduceToNat, Int.reduceNeg]
theorem qh4 {k : FuncId} {f : Int → Bool} (hb : (Tryz.prog.funcs[k]?).any (fun fn => fn.body.isSome && !(fn.name == "runtime.NumGoroutine")) = true)
  (hf : ∀ v, ACall Tryz.prog k [.d (.int .i64 v)] [] (.d (.bool (f v))) []) (l : List Int) (hl : l.length ≤ maxLen) :
  ACall Tryz.prog 200 [.d (.sl 1 (l.map encI)), .d (.func (.func k) [] [])] [] (.d (.bool (l.any f))) [] := by
 first | refine q9s.go ?_ | refine q9s.goT ?_
 simp only [go_sem, Nat.reduceAdd, Nat.reduceMul, Nat.reduceSub, Nat.reduceEqDiff, Nat.reduceLT, Nat.reduceLeDiff, Nat.reduceBEq, reduceIte, reduceCtorEq, Int.reduceAdd, Int.reduceLT, Int.reduceLE, Int.reduceGT, Int.reduceGE, Int.reduceEq, Int.reduceNe, Int.reduceBEq, Int.reduceBNe, Int.reduceToNat, Int.reduceNeg]
 refine qo (qpt hb hf l hl) q9q.body (fun h => h) (fun _ => ⟨qb, qb, trivial⟩) (by simp [ASlot.noPtr, D.noPtr, D.noPtrL, qr zo]) rfl rfl ?_
 simp only [qln, go_sem, Nat.reduceAdd, Nat.reduceMul, Nat.reduceSub, Nat.reduceEqDiff, Nat.reduceLT, Nat.reduceLeDiff, Nat.reduceBEq, reduceIte, reduceCtorEq, Int.reduceAdd, Int.reduceLT, Int.reduceLE, Int.reduceGT, Int.reduceGE, Int.reduceEq, Int.reduceNe, Int.reduceBEq, Int.reduceBNe, Int.reduceToNat, Int.reduceNeg]
noncomputable section
set_option maxRecDepth 100000
def s163r0 : List SOper := [
 ⟨some 1, .box 1 (.t 0), none⟩,
 ⟨some 2, .mov (.k (.d (.bool false))), none⟩]
def s163r1 : List SOper := [
 ⟨some 3, .load (some 9) (.t 1), none⟩,
 ⟨some 4, .call (.k (.d (.func (.func 196) [] []))) [(.t 3)], none⟩,
 ⟨some 5, .mov (.t 4), none⟩,
 ⟨some 6, .faddr 2 (.t 1), some (5, true)⟩,
 ⟨some 7, .load none (.t 6), some (5, true)⟩,
 ⟨some 8, .bin .eql (.t 7) (.k (.d (.int .i64 0))), some (5, true)⟩,
 ⟨some 9, .mov (.t 8), some (5, true)⟩,
 ⟨some 10, .faddr 2 (.t 1), some (9, false)⟩,
 ⟨some 11, .load none (.t 10), some (9, false)⟩,
 ⟨some 12, .bin .eql (.t 11) (.k (.d (.int .i64 1))), some (9, false)⟩,
 ⟨some 13, .pick (.t 9) (.k (.d (.bool true))) (.t 12), some (5, true)⟩,
 ⟨some 14, .pick (.t 5) (.t 13) (.k (.d (.bool false))), none⟩,
 ⟨some 15, .mov (.t 14), none⟩,
 ⟨some 16, .faddr 6 (.t 1), some (15, true)⟩,
 ⟨some 17, .load none (.t 16), some (15, true)⟩,
 ⟨some 18, .bin .geq (.t 17) (.k (.d (.int .i64 0))), some (15, true)⟩,
 ⟨some 19, .pick (.t 15) (.t 18) (.k (.d (.bool false))), none⟩,
 ⟨some 20, .mov (.t 19), none⟩,
 ⟨some 21, .faddr 6 (.t 1), some (20, true)⟩,
 ⟨some 22, .load none (.t 21), some (20, true)⟩,
 ⟨some 23, .bin .lss (.t 22) (.k (.d (.int .i64 40))), some (20, true)⟩,
 ⟨some 24, .pick (.t 20) (.t 23) (.k (.d (.bool false))), none⟩,
 ⟨some 25, .mov (.t 24), none⟩,
 ⟨some 26, .faddr 7 (.t 1), some (25, true)⟩,
 ⟨some 27, .load none (.t 26), some (25, true)⟩,
 ⟨some 28, .len (.t 27), some (25, true)⟩,
 ⟨some 29, .bin .leq (.t 28) (.k (.d (.int .i64 4))), some (25, true)⟩,
 ⟨some 30, .pick (.t 25) (.t 29) (.k (.d (.bool false))), none⟩,
 ⟨some 31, .mov (.t 30), none⟩,
 ⟨some 32, .faddr 8 (.t 1), some (31, true)⟩,
 ⟨some 33, .load none (.t 32), some (31, true)⟩,
 ⟨some 34, .len (.t 33), some (31, true)⟩,
 ⟨some 35, .bin .leq (.t 34) (.k (.d (.int .i64 6))), some (31, true)⟩,
 ⟨some 36, .pick (.t 31) (.t 35) (.k (.d (.bool false))), none⟩,
 ⟨some 37, .mov (.t 36), none⟩,
 ⟨some 38, .faddr 7 (.t 1), some (37, true)⟩,
 ⟨some 39, .load none (.t 38), some (37, true)⟩,
 ⟨some 40, .call (.k (.d (.func (.func 197) [] []))) [(.t 39), (.k (.d (.func (.func 198) [] [])))], some (37, true)⟩,
 ⟨some 41, .not (.t 40), some (37, true)⟩,
 ⟨some 42, .pick (.t 37) (.t 41) (.k (.d (.bool false))), none⟩,
 ⟨some 43, .mov (.t 42), none⟩,
 ⟨some 44, .faddr 8 (.t 1), some (43, true)⟩,
 ⟨some 45, .load none (.t 44), some (43, true)⟩,
 ⟨some 46, .call (.k (.d (.func (.func 200) [] []))) [(.t 45), (.k (.d (.func (.func 201) [] [])))], some (43, true)⟩,
 ⟨some 47, .not (.t 46), some (43, true)⟩,
 ⟨some 48, .pick (.t 43) (.t 47) (.k (.d (.bool false))), none⟩,
 ⟨some 2, .mov (.t 48), none⟩]
def s163 : SCode := (.seq (.region s163r0 1 []) (.seq (.region s163r1 0 []) .ret))
theorem xho : CodeIs s163.eq_1 := qc s163.eq_1
theorem qys : RegIs s163r0.eq_1 := qa
theorem qyt : RegIs s163r1.eq_1 := qa
attribute [go_sem] qys qyt xho
theorem q9t : FnIs Tryz.prog 163 Tryz.f163 [] news s163 [.tmp 2] 49 := qz follows Tryz.func163
def s110r0 : List SOper := [
 ⟨some 1, .box 1 (.t 0), none⟩,
 ⟨some 2, .mov (.k (.d (.bool false))), none⟩]
def s110r1 : List SOper := [
 ⟨some 4, .build [.nilfunc] [(0, 1, (.k (.d (.func (.func 163) [] []))))], none⟩,
 ⟨some 5, .build [.nilfunc] [(0, 1, (.k (.d (.func (.func 164) [] []))))], none⟩,
 ⟨some 6, .build [.nilfunc] [(0, 1, (.k (.d (.func (.func 165) [] []))))], none⟩,
 ⟨some 7, .build [.nilfunc] [(0, 1, (.k (.d (.func (.func 165) [] []))))], none⟩,
 ⟨some 8, .buildSlice false 1 5 [.nilfunc] [(1, 1, (.t 4)), (2, 1, (.t 5)), (3, 1, (.t 6)), (4, 1, (.t 7))], none⟩,
 ⟨some 3, .mov (.t 8), none⟩]
def s110r2 : List SOper := [
 ⟨some 9, .faddr 0 (.t 1), none⟩,
 ⟨some 10, .load none (.t 9), none⟩,
 ⟨some 11, .bin .geq (.t 10) (.k (.d (.int .i64 1))), none⟩,
 ⟨some 12, .mov (.t 11), none⟩,
 ⟨some 13, .faddr 0 (.t 1), some (12, true)⟩,
 ⟨some 14, .load none (.t 13), some (12, true)⟩,
 ⟨some 15, .bin .leq (.t 14) (.k (.d (.int .i64 4))), some (12, true)⟩,
 ⟨some 16, .pick (.t 12) (.t 15) (.k (.d (.bool false))), none⟩,
 ⟨some 17, .mov (.t 16), none⟩,
 ⟨some 18, .faddr 1 (.t 1), some (17, true)⟩,
 ⟨some 19, .load none (.t 18), some (17, true)⟩,
 ⟨some 20, .bin .geq (.t 19) (.k (.d (.int .i64 1))), some (17, true)⟩,
 ⟨some 21, .pick (.t 17) (.t 20) (.k (.d (.bool false))), none⟩,
 ⟨some 22, .mov (.t 21), none⟩,
 ⟨some 23, .faddr 1 (.t 1), some (22, true)⟩,
 ⟨some 24, .load none (.t 23), some (22, true)⟩,
 ⟨some 25, .bin .leq (.t 24) (.k (.d (.int .i64 32))), some (22, true)⟩,
 ⟨some 26, .pick (.t 22) (.t 25) (.k (.d (.bool false))), none⟩,
 ⟨some 27, .mov (.t 26), none⟩,
 ⟨some 28, .mov (.t 3), some (27, true)⟩,
 ⟨some 29, .faddr 0 (.t 1), some (27, true)⟩,
 ⟨some 30, .load none (.t 29), some (27, true)⟩,
 ⟨some 31, .iaddr 1 (.t 28) (.t 30), some (27, true)⟩,
 ⟨some 32, .faddr 0 (.t 31), some (27, true)⟩,
 ⟨some 33, .load none (.t 32), some (27, true)⟩,
 ⟨some 34, .load (some 9) (.t 1), some (27, true)⟩,
 ⟨some 35, .call (.t 33) [(.t 34)], some (27, true)⟩,
 ⟨some 36, .pick (.t 27) (.t 35) (.k (.d (.bool false))), none⟩,
 ⟨some 2, .mov (.t 36), none⟩]
def s110 : SCode := (.seq (.region s110r0 1 []) (.seq (.region s110r1 0 []) (.seq (.region s110r2 0 []) .ret)))
theorem xhp : CodeIs s110.eq_1 := qc s110.eq_1
theorem qyu : RegIs s110r0.eq_1 := qa
theorem qyv : RegIs s110r1.eq_1 := qa
theorem qyw : RegIs s110r2.eq_1 := qa
attribute [go_sem] qyu qyv qyw xhp
theorem xgf : FnIs Tryz.prog 110 Tryz.f110 [] news s110 [.tmp 2] 37 := qz follows Tryz.func110
end
def data (p : Pk) : Bool := numbered p && (p.epoch == 0 || p.epoch == 1) && decide (p.label ≥ 0) && decide (p.label < 40) && decide ((p.values.length : Int) ≤ 4) && decide ((p.clock.length : Int) ≤ 6) && !(p.values.any fun v => !proper v) && !(p.clock.any fun n => decide (n < 0) || decide (n > 1099511627776))
theorem qvc (p : Pk) (h1 : p.values.length ≤ maxLen) (h2 : p.clock.length ≤ maxLen) : ACall Tryz.prog 163 [.d (.agg (encPk p))] [] (.d (.bool (data p))) [] := by
 first | refine q9t.go ?_ | refine q9t.goT ?_
 simp only [encPk, go_sem, Nat.reduceAdd, Nat.reduceMul, Nat.reduceSub, Nat.reduceEqDiff, Nat.reduceLT, Nat.reduceLeDiff, Nat.reduceBEq, reduceIte, reduceCtorEq, Int.reduceAdd, Int.reduceLT, Int.reduceLE, Int.reduceGT, Int.reduceGE, Int.reduceEq, Int.reduceNe, Int.reduceBEq, Int.reduceBNe, Int.reduceToNat, Int.reduceNeg]
 refine qo (qcs p) q8g.body (fun h => h) (fun _ => ⟨qb, trivial⟩) (jy p) rfl rfl ?_
 simp only [go_sem, Nat.reduceAdd, Nat.reduceMul, Nat.reduceSub, Nat.reduceEqDiff, Nat.reduceLT, Nat.reduceLeDiff, Nat.reduceBEq, reduceIte, reduceCtorEq, Int.reduceAdd, Int.reduceLT, Int.reduceLE, Int.reduceGT, Int.reduceGE, Int.reduceEq, Int.reduceNe, Int.reduceBEq, Int.reduceBNe, Int.reduceToNat, Int.reduceNeg]
 refine ⟨by simp_all, ?_⟩
 refine qo (qh3 q87.body qs5 p.values h1) q9r.body (fun h => h) (fun _ => ⟨qb, qb, trivial⟩) (by simp [ASlot.noPtr, D.noPtr, D.noPtrL, qr x8]) rfl rfl ?_
 simp only [go_sem, Nat.reduceAdd, Nat.reduceMul, Nat.reduceSub, Nat.reduceEqDiff, Nat.reduceLT, Nat.reduceLeDiff, Nat.reduceBEq, reduceIte, reduceCtorEq, Int.reduceAdd, Int.reduceLT, Int.reduceLE, Int.reduceGT, Int.reduceGE, Int.reduceEq, Int.reduceNe, Int.reduceBEq, Int.reduceBNe, Int.reduceToNat, Int.reduceNeg]
 refine qo (qh4 q88.body qs6 p.clock h2) q9s.body (fun h => h) (fun _ => ⟨qb, qb, trivial⟩) (by simp [ASlot.noPtr, D.noPtr, D.noPtrL, qr zo]) rfl rfl ?_
 simp only [go_sem, Nat.reduceAdd, Nat.reduceMul, Nat.reduceSub, Nat.reduceEqDiff, Nat.reduceLT, Nat.reduceLeDiff, Nat.reduceBEq, reduceIte, reduceCtorEq, Int.reduceAdd, Int.reduceLT, Int.reduceLE, Int.reduceGT, Int.reduceGE, Int.reduceEq, Int.reduceNe, Int.reduceBEq, Int.reduceBNe, Int.reduceToNat, Int.reduceNeg]
 rfl
def kindOk (p : Pk) : Bool := decide (p.kind ≥ 1) && decide (p.kind ≤ 4) && decide (p.sess ≥ 1) && decide (p.sess ≤ 32)
def packetValid (p : Pk) : Bool := kindOk p && (if p.kind = 1 then data p else if p.kind = 2 then ack p else order p)
theorem qrb (p : Pk) (h1 : p.values.length ≤ maxLen) (h2 : p.clock.length ≤ maxLen) : ACall Tryz.prog 110 [.d (.agg (encPk p))] [] (.d (.bool (packetValid p))) [] := by
 first | refine xgf.go ?_ | refine xgf.goT ?_
 simp only [encPk, go_sem, Nat.reduceAdd, Nat.reduceMul, Nat.reduceSub, Nat.reduceEqDiff, Nat.reduceLT, Nat.reduceLeDiff, Nat.reduceBEq, reduceIte, reduceCtorEq, Int.reduceAdd, Int.reduceLT, Int.reduceLE, Int.reduceGT, Int.reduceGE, Int.reduceEq, Int.reduceNe, Int.reduceBEq, Int.reduceBNe, Int.reduceToNat, Int.reduceNeg]
 have hk : (decide (p.kind ≥ 1) && decide (p.kind ≤ 4) && decide (p.sess ≥ 1) && decide (p.sess ≤ 32)) = kindOk p := rfl
 simp only [hk]
 cases hG : kindOk p with
 | false =>
  simp only [go_sem, Nat.reduceAdd, Nat.reduceMul, Nat.reduceSub, Nat.reduceEqDiff, Nat.reduceLT, Nat.reduceLeDiff, Nat.reduceBEq, reduceIte, reduceCtorEq, Int.reduceAdd, Int.reduceLT, Int.reduceLE, Int.reduceGT, Int.reduceGE, Int.reduceEq, Int.reduceNe, Int.reduceBEq, Int.reduceBNe, Int.reduceToNat, Int.reduceNeg]
  refine qcl (.bool false) rfl ?_
  simp only [packetValid, hG, go_sem, Nat.reduceAdd, Nat.reduceMul, Nat.reduceSub, Nat.reduceEqDiff, Nat.reduceLT, Nat.reduceLeDiff, Nat.reduceBEq, reduceIte, reduceCtorEq, Int.reduceAdd, Int.reduceLT, Int.reduceLE, Int.reduceGT, Int.reduceGE, Int.reduceEq, Int.reduceNe, Int.reduceBEq, Int.reduceBNe, Int.reduceToNat, Int.reduceNeg]
 | true =>
  have h4 : p.kind = 1 ∨ p.kind = 2 ∨ p.kind = 3 ∨ p.kind = 4 := by simp [kindOk] at hG; omega
  rcases h4 with hp | hp | hp | hp <;> simp only [hp, Int.reduceToNat, Int.reduceLE, Int.reduceLT, go_sem, Nat.reduceAdd, Nat.reduceMul, Nat.reduceSub, Nat.reduceEqDiff, Nat.reduceLT, Nat.reduceLeDiff, Nat.reduceBEq, reduceIte, reduceCtorEq, Int.reduceAdd, Int.reduceLT, Int.reduceLE, Int.reduceGT, Int.reduceGE, Int.reduceEq, Int.reduceNe, Int.reduceBEq, Int.reduceBNe, Int.reduceToNat, Int.reduceNeg]
  ·refine qo (qvc p h1 h2) q9t.body (fun h => h) (fun _ => ⟨by simp [matchA, ASlot.eqvD, D.eqv_refl, encPk, hp], trivial⟩) (jy p) rfl rfl ?_
   simp only [packetValid, hG, hp, go_sem, Nat.reduceAdd, Nat.reduceMul, Nat.reduceSub, Nat.reduceEqDiff, Nat.reduceLT, Nat.reduceLeDiff, Nat.reduceBEq, reduceIte, reduceCtorEq, Int.reduceAdd, Int.reduceLT, Int.reduceLE, Int.reduceGT, Int.reduceGE, Int.reduceEq, Int.reduceNe, Int.reduceBEq, Int.reduceBNe, Int.reduceToNat, Int.reduceNeg]
  ·refine qo (qx5 p) q86.body (fun h => h) (fun _ => ⟨by simp [matchA, ASlot.eqvD, D.eqv_refl, encPk, hp], trivial⟩) (jy p) rfl rfl ?_
   simp only [packetValid, hG, hp, go_sem, Nat.reduceAdd, Nat.reduceMul, Nat.reduceSub, Nat.reduceEqDiff, Nat.reduceLT, Nat.reduceLeDiff, Nat.reduceBEq, reduceIte, reduceCtorEq, Int.reduceAdd, Int.reduceLT, Int.reduceLE, Int.reduceGT, Int.reduceGE, Int.reduceEq, Int.reduceNe, Int.reduceBEq, Int.reduceBNe, Int.reduceToNat, Int.reduceNeg]
  ·refine qo (qlm p) q8i.body (fun h => h) (fun _ => ⟨by simp [matchA, ASlot.eqvD, D.eqv_refl, encPk, hp], trivial⟩) (jy p) rfl rfl ?_
   simp only [packetValid, hG, hp, go_sem, Nat.reduceAdd, Nat.reduceMul, Nat.reduceSub, Nat.reduceEqDiff, Nat.reduceLT, Nat.reduceLeDiff, Nat.reduceBEq, reduceIte, reduceCtorEq, Int.reduceAdd, Int.reduceLT, Int.reduceLE, Int.reduceGT, Int.reduceGE, Int.reduceEq, Int.reduceNe, Int.reduceBEq, Int.reduceBNe, Int.reduceToNat, Int.reduceNeg]
  ·refine qo (qlm p) q8i.body (fun h => h) (fun _ => ⟨by simp [matchA, ASlot.eqvD, D.eqv_refl, encPk, hp], trivial⟩) (jy p) rfl rfl ?_
   simp only [packetValid, hG, hp, go_sem, Nat.reduceAdd, Nat.reduceMul, Nat.reduceSub, Nat.reduceEqDiff, Nat.reduceLT, Nat.reduceLeDiff, Nat.reduceBEq, reduceIte, reduceCtorEq, Int.reduceAdd, Int.reduceLT, Int.reduceLE, Int.reduceGT, Int.reduceGE, Int.reduceEq, Int.reduceNe, Int.reduceBEq, Int.reduceBNe, Int.reduceToNat, Int.reduceNeg]
end Go.Proofs.YtinnaedmdoengaaGreat
namespace Go.Proofs.YtinnaedmdoengaaGreat
open Go.Abs
set_option linter.unusedSimpArgs false
structure OpS where
 key : List UInt8
 del : Bool
 val : List UInt8
 deriving DecidableEq, Inhabited
def encOp (o : OpS) : List D := [.str o.key, .bool o.del, .sl 1 (byteRows o.val)]
theorem qct (o : OpS) : D.noPtrL (encOp o) = true := by simp only [encOp, D.noPtrL, D.noPtr, xa, Bool.and_self]
theorem qh5 (l : List OpS) : D.noPtrR (l.map encOp) = true := qr qct l
attribute [go_sem] qct qh5
noncomputable section
set_option maxRecDepth 100000
def s96r0 : List SOper := [
 ⟨some 1, .box 1 (.t 0), none⟩,
 ⟨some 2, .mov (.k (.d (.bool false))), none⟩]
def s96r1 : List SOper := [
 ⟨some 3, .faddr 0 (.t 1), none⟩,
 ⟨some 4, .load none (.t 3), none⟩,
 ⟨some 5, .lenS (.t 4), none⟩,
 ⟨some 6, .bin .geq (.t 5) (.k (.d (.int .i64 1))), none⟩,
 ⟨some 7, .mov (.t 6), none⟩,
 ⟨some 8, .faddr 0 (.t 1), some (7, true)⟩,
 ⟨some 9, .load none (.t 8), some (7, true)⟩,
 ⟨some 10, .lenS (.t 9), some (7, true)⟩,
 ⟨some 11, .bin .leq (.t 10) (.k (.d (.int .i64 40))), some (7, true)⟩,
 ⟨some 12, .pick (.t 7) (.t 11) (.k (.d (.bool false))), none⟩,
 ⟨some 13, .mov (.t 12), none⟩,
 ⟨some 14, .faddr 2 (.t 1), some (13, true)⟩,
 ⟨some 15, .load none (.t 14), some (13, true)⟩,
 ⟨some 16, .len (.t 15), some (13, true)⟩,
 ⟨some 17, .bin .leq (.t 16) (.k (.d (.int .i64 900))), some (13, true)⟩,
 ⟨some 18, .pick (.t 13) (.t 17) (.k (.d (.bool false))), none⟩,
 ⟨some 19, .mov (.t 18), none⟩,
 ⟨some 20, .faddr 1 (.t 1), some (19, true)⟩,
 ⟨some 21, .load none (.t 20), some (19, true)⟩,
 ⟨some 22, .mov (.t 21), some (19, true)⟩,
 ⟨some 23, .faddr 2 (.t 1), some (22, true)⟩,
 ⟨some 24, .load none (.t 23), some (22, true)⟩,
 ⟨some 25, .len (.t 24), some (22, true)⟩,
 ⟨some 26, .bin .gtr (.t 25) (.k (.d (.int .i64 0))), some (22, true)⟩,
 ⟨some 27, .pick (.t 22) (.t 26) (.k (.d (.bool false))), some (19, true)⟩,
 ⟨some 28, .not (.t 27), some (19, true)⟩,
 ⟨some 29, .pick (.t 19) (.t 28) (.k (.d (.bool false))), none⟩,
 ⟨some 2, .mov (.t 29), none⟩]
def s96 : SCode := (.seq (.region s96r0 1 []) (.seq (.region s96r1 0 []) .ret))
theorem e96 : CodeIs s96.eq_1 := qc s96.eq_1
theorem q9u : RegIs s96r0.eq_1 := qa
theorem q9v : RegIs s96r1.eq_1 := qa
attribute [go_sem] q9u q9v e96
theorem F96 : FnIs Tryz.prog 96 Tryz.f96 [] news s96 [.tmp 2] 30 := qz follows Tryz.func96
def s95r0 : List SOper := [
 ⟨some 1, .box 1 (.t 0), none⟩,
 ⟨some 2, .mov (.k (.d (.bool false))), none⟩]
def s95r1 : List SOper := [
 ⟨some 3, .load (some 3) (.t 1), none⟩,
 ⟨some 4, .call (.k (.d (.func (.func 96) [] []))) [(.t 3)], none⟩,
 ⟨some 5, .not (.t 4), none⟩,
 ⟨some 2, .mov (.t 5), none⟩]
def s95 : SCode := (.seq (.region s95r0 1 []) (.seq (.region s95r1 0 []) .ret))
theorem e95 : CodeIs s95.eq_1 := qc s95.eq_1
theorem q9w : RegIs s95r0.eq_1 := qa
theorem q9x : RegIs s95r1.eq_1 := qa
attribute [go_sem] q9w q9x e95
theorem F95 : FnIs Tryz.prog 95 Tryz.f95 [] news s95 [.tmp 2] 6 := qz follows Tryz.func95
def s149r0 : List SOper := [
 ⟨some 4, .mov (.k (.d (.int .i64 0))), none⟩]
def s149r1 : List SOper := [
 ⟨some 6, .mov (.t 0), none⟩,
 ⟨some 7, .len (.t 6), none⟩,
 ⟨some 8, .mov (.k (.d (.int .i64 0))), none⟩]
def s149r2 : List SOper := [
 ⟨some 9, .bin .lss (.t 8) (.t 7), none⟩]
def s149r3 : List SOper := [
 ⟨some 10, .mov (.t 8), none⟩,
 ⟨some 5, .mov (.t 10), none⟩]
def s149r4 : List SOper := [
 ⟨some 11, .mov (.t 1), none⟩,
 ⟨some 12, .mov (.t 0), none⟩,
 ⟨some 13, .mov (.t 5), none⟩,
 ⟨some 14, .iaddr 3 (.t 12) (.t 13), none⟩,
 ⟨some 15, .load (some 3) (.t 14), none⟩,
 ⟨some 16, .call (.t 11) [(.t 15)], none⟩]
def s149r5 : List SOper := [
 ⟨some 17, .mov (.t 5), none⟩,
 ⟨some 4, .mov (.t 17), none⟩]
def s149r6 : List SOper := [
 ⟨some 18, .bin .add (.t 8) (.k (.d (.int .i64 1))), none⟩,
 ⟨some 8, .mov (.t 18), none⟩]
def s149l7 : SCode := (.seq (.region s149r2 0 []) (.seq (.cond (.t 9) .skip (.exit 0)) (.seq (.block 1 (.seq (.region s149r3 0 []) (.seq (.region s149r4 0 []) (.cond (.t 16) (.seq (.region s149r5 0 []) .ret) .skip)))) (.region s149r6 0 []))))
theorem qyx : CodeIs s149l7.eq_1 := qc s149l7.eq_1
def s149r8 : List SOper := [
 ⟨some 4, .mov (.k (.d (.int .i64 (-1)))), none⟩]
def s149 : SCode := (.seq (.region s149r0 0 []) (.seq (.seq (.region s149r1 0 []) (.block 0 (.loop s149l7))) (.seq (.region s149r8 0 []) .ret)))
theorem xhq : CodeIs s149.eq_1 := qc s149.eq_1
theorem qyy : RegIs s149r0.eq_1 := qa
theorem qyz : RegIs s149r1.eq_1 := qa
theorem qy0 : RegIs s149r2.eq_1 := qa
theorem qy1 : RegIs s149r3.eq_1 := qa
theorem qy2 : RegIs s149r4.eq_1 := qa
theorem qy3 : RegIs s149r5.eq_1 := qa
theorem qy4 : RegIs s149r6.eq_1 := qa
theorem qy5 : RegIs s149r8.eq_1 := qa
attribute [go_sem] qyy qyz qy0 qy1 qy2 qy3 qy4 qyx qy5 xhq
theorem q9y : FnIs Tryz.prog 149 Tryz.f149 [] news s149 [.tmp 4] 19 := qz follows Tryz.func149
def s94r0 : List SOper := [
 ⟨some 4, .mov (.k (.d (.bool false))), none⟩]
def s94r1 : List SOper := [
 ⟨some 5, .mov (.t 0), none⟩,
 ⟨some 6, .mov (.t 1), none⟩,
 ⟨some 7, .call (.k (.d (.func (.func 149) [] []))) [(.t 5), (.t 6)], none⟩,
 ⟨some 8, .bin .geq (.t 7) (.k (.d (.int .i64 0))), none⟩,
 ⟨some 4, .mov (.t 8), none⟩]
def s94 : SCode := (.seq (.region s94r0 0 []) (.seq (.region s94r1 0 []) .ret))
theorem e94 : CodeIs s94.eq_1 := qc s94.eq_1
theorem q9z : RegIs s94r0.eq_1 := qa
theorem q90 : RegIs s94r1.eq_1 := qa
attribute [go_sem] q9z q90 e94
theorem F94 : FnIs Tryz.prog 94 Tryz.f94 [] news s94 [.tmp 4] 9 := qz follows Tryz.func94
def s50r0 : List SOper := [
 ⟨some 2, .mov (.k (.d .nilsl)), none⟩,
 ⟨some 3, .mov (.k (.d (.int .i64 0))), none⟩]
def s50r1 : List SOper := [
 ⟨some 7, .mov (.t 0), none⟩,
 ⟨some 8, .len (.t 7), none⟩,
 ⟨some 9, .bin .eql (.t 8) (.k (.d (.int .i64 0))), none⟩,
 ⟨some 10, .mov (.t 9), none⟩,
 ⟨some 11, .mov (.t 0), some (10, false)⟩,
 ⟨some 12, .call (.k (.d (.func (.func 94) [] []))) [(.t 11), (.k (.d (.func (.func 95) [] [])))], some (10, false)⟩,
 ⟨some 13, .pick (.t 10) (.k (.d (.bool true))) (.t 12), none⟩]
def s50r2 : List SOper := [
 ⟨some 2, .mov (.k (.d .nilsl)), none⟩,
 ⟨some 3, .mov (.k (.d (.int .i64 1))), none⟩]
def s50r3 : List SOper := [
 ⟨some 14, .mov (.t 0), none⟩,
 ⟨some 15, .len (.t 14), none⟩,
 ⟨some 16, .call (.k (.d (.func (.func 91) [] []))) [(.k (.d .nilsl)), (.t 15)], none⟩,
 ⟨some 4, .mov (.t 16), none⟩]
def s50r4 : List SOper := [
 ⟨some 17, .mov (.t 0), none⟩,
 ⟨some 18, .len (.t 17), none⟩,
 ⟨some 19, .mov (.k (.d (.int .i64 0))), none⟩]
def s50r5 : List SOper := [
 ⟨some 20, .bin .lss (.t 19) (.t 18), none⟩]
def s50r6 : List SOper := [
 ⟨some 21, .iaddr 3 (.t 17) (.t 19), none⟩,
 ⟨some 22, .load (some 3) (.t 21), none⟩,
 ⟨some 6, .alloc 1 [(.d (.str [])), (.d (.bool false)), (.d .nilsl)], none⟩,
 ⟨none, .store (some 3) (.t 6) (.t 22), none⟩]
def s50r7 : List SOper := [
 ⟨some 23, .mov (.t 4), none⟩,
 ⟨some 24, .faddr 0 (.t 6), none⟩,
 ⟨some 25, .load none (.t 24), none⟩,
 ⟨some 26, .call (.k (.d (.func (.func 99) [] []))) [(.t 23), (.t 25)], none⟩,
 ⟨some 27, .faddr 1 (.t 6), none⟩,
 ⟨some 28, .load none (.t 27), none⟩,
 ⟨some 29, .call (.k (.d (.func (.func 98) [] []))) [(.t 26), (.t 28)], none⟩,
 ⟨some 30, .faddr 2 (.t 6), none⟩,
 ⟨some 31, .load none (.t 30), none⟩,
 ⟨some 32, .call (.k (.d (.func (.func 97) [] []))) [(.t 29), (.t 31)], none⟩,
 ⟨some 4, .mov (.t 32), none⟩]
def s50r8 : List SOper := [
 ⟨some 33, .bin .add (.t 19) (.k (.d (.int .i64 1))), none⟩,
 ⟨some 19, .mov (.t 33), none⟩]
def s50l9 : SCode := (.seq (.region s50r5 0 []) (.seq (.cond (.t 20) .skip (.exit 0)) (.seq (.block 1 (.seq (.region s50r6 1 []) (.region s50r7 0 [(3, 5), (3, 8), (6, 8)]))) (.region s50r8 0 []))))
theorem q91 : CodeIs s50l9.eq_1 := qc s50l9.eq_1
def s50r10 : List SOper := [
 ⟨some 34, .mov (.t 0), none⟩,
 ⟨some 35, .len (.t 34), none⟩,
 ⟨some 36, .bin .gtr (.t 35) (.k (.d (.int .i64 20))), none⟩,
 ⟨some 37, .mov (.t 36), none⟩,
 ⟨some 38, .mov (.t 4), some (37, false)⟩,
 ⟨some 39, .len (.t 38), some (37, false)⟩,
 ⟨some 40, .bin .gtr (.t 39) (.k (.d (.int .i64 2000))), some (37, false)⟩,
 ⟨some 41, .pick (.t 37) (.k (.d (.bool true))) (.t 40), none⟩]
def s50r11 : List SOper := [
 ⟨some 2, .mov (.k (.d .nilsl)), none⟩,
 ⟨some 3, .mov (.k (.d (.int .i64 6))), none⟩]
def s50r12 : List SOper := [
 ⟨some 42, .mov (.t 4), none⟩,
 ⟨some 2, .mov (.t 42), none⟩,
 ⟨some 3, .mov (.k (.d (.int .i64 0))), none⟩]
def s50 : SCode := (.seq (.region s50r0 0 []) (.seq (.seq (.region s50r1 0 []) (.cond (.t 13) (.seq (.region s50r2 0 []) .ret) .skip)) (.seq (.region s50r3 0 []) (.seq (.seq (.region s50r4 0 []) (.block 0 (.loop s50l9))) (.seq (.seq (.region s50r10 0 []) (.cond (.t 41) (.seq (.region s50r11 0 []) .ret) .skip)) (.seq (.region s50r12 0 []) .ret))))))
theorem e50 : CodeIs s50.eq_1 := qc s50.eq_1
theorem q92 : RegIs s50r0.eq_1 := qa
theorem q93 : RegIs s50r1.eq_1 := qa
theorem q94 : RegIs s50r2.eq_1 := qa
theorem q95 : RegIs s50r3.eq_1 := qa
theorem q96 : RegIs s50r4.eq_1 := qa
theorem q97 : RegIs s50r5.eq_1 := qa
theorem q98 : RegIs s50r6.eq_1 := qa
theorem q99 : RegIs s50r7.eq_1 := qa
theorem xaa : RegIs s50r8.eq_1 := qa
theorem qy6 : RegIs s50r10.eq_1 := qa
theorem qy7 : RegIs s50r11.eq_1 := qa
theorem qy8 : RegIs s50r12.eq_1 := qa
attribute [go_sem] q92 q93 q94 q95 q96 q97 q98 q99 xaa q91 qy6 qy7 qy8 e50
theorem F50 : FnIs Tryz.prog 50 Tryz.f50 [] news s50 [.tmp 2, .tmp 3] 43 := qz follows Tryz.func50
end
def sProper (o : OpS) : Bool := decide ((o.key.length : Int) ≥ 1) && decide ((o.key.length : Int) ≤ 40) && decide ((o.val.length : Int) ≤ 900) && !(o.del && decide ((o.val.length : Int) > 0))
theorem qei (o : OpS) : ACall Tryz.prog 96 [.d (.agg (encOp o))] [] (.d (.bool (sProper o))) [] := by
 refine F96.go ?_
 try (refine ev1 @encOp.eq_1 ?_; try exact True.intro)
 simp only [sProper, and_true]
 intro h
 refine ⟨h, fun h2 => ?_⟩
 rw [h, h2]; rfl
theorem qej (o : OpS) : ACall Tryz.prog 95 [.d (.agg (encOp o))] [] (.d (.bool (!sProper o))) [] := by
 refine F95.go ?_
 try (refine ev1 @encOp.eq_1 ?_; try exact True.intro)
 (repeat (with_reducible refine ob ?_)); first | refine cl F96 (qei o) ?_ | refine clF F96 (qei o) (fun _ => by simp only [encOp, go_sem, Nat.reduceAdd, Nat.reduceMul, Nat.reduceSub, Nat.reduceEqDiff, Nat.reduceLT, Nat.reduceLeDiff, Nat.reduceBEq, reduceIte, reduceCtorEq, Int.reduceAdd, Int.reduceLT, Int.reduceLE, Int.reduceGT, Int.reduceGE, Int.reduceEq, Int.reduceNe, Int.reduceBEq, Int.reduceBNe, Int.reduceToNat, Int.reduceNeg]) ?_
 try (refine ev ?_; try exact True.intro)
def SidxO (k : FuncId) (l : List OpS) (f : OpS → Bool) (i : { i : Nat // (l.take i).any f = false }) : St :=
 ⟨[(0, true, .d (.sl 3 (l.map encOp))), (1, true, .d (.func (.func k) [] [])), (7, true, .d (.int .i64 l.length)), (8, true, .d (.int .i64 (i.val : Nat)))], [], [], 1⟩
theorem qh6 {k : FuncId} {f : OpS → Bool} (hb : (Tryz.prog.funcs[k]?).any (fun fn => fn.body.isSome && !(fn.name == "runtime.NumGoroutine")) = true)
  (hf : ∀ v, ACall Tryz.prog k [.d (.agg (encOp v))] [] (.d (.bool (f v))) []) (l : List OpS) (hl : l.length ≤ maxLen) :
  ACall Tryz.prog 149 [.d (.sl 3 (l.map encOp)), .d (.func (.func k) [] [])] [] (.d (.int .i64 (idx f l))) [] := by
 refine q9y.go ?_
 try (refine ev ?_; try exact True.intro)
 refine qm (SidxO k l f) (fun i => l.length - i.val) ⟨0, rfl⟩ ?_ (fun i => ?_)
 ·try (refine ev1 @SidxO.eq_1 ?_; try exact True.intro)
 obtain ⟨i, hi⟩ := i
 try (refine ev1 @SidxO.eq_1 ?_; try exact True.intro)
 (repeat (with_reducible refine ob ?_)); refine xf _ (fun h => ?_) (fun h => ?_)
 ·have hil : i < l.length := by simpa using h
  simp only [qq encOp l hil, encOp, go_sem, Nat.reduceAdd, Nat.reduceMul, Nat.reduceSub, Nat.reduceEqDiff, Nat.reduceLT, Nat.reduceLeDiff, Nat.reduceBEq, reduceIte, reduceCtorEq, Int.reduceAdd, Int.reduceLT, Int.reduceLE, Int.reduceGT, Int.reduceGE, Int.reduceEq, Int.reduceNe, Int.reduceBEq, Int.reduceBNe, Int.reduceToNat, Int.reduceNeg]
  (repeat (with_reducible refine ob ?_))
  refine qo (hf l[i]) hb (fun h => h) (fun _ => ⟨qb, trivial⟩) (by try (refine ev1 @encOp.eq_1 ?_; try exact True.intro)) rfl rfl ?_
  try (refine ev ?_; try exact True.intro)
  (repeat (with_reducible refine ob ?_)); refine xf _ (fun h => ?_) (fun h => ?_)
  ·try (refine ev1 (qbp hi hil h) ?_; try exact True.intro)
  ·try (refine ev ?_; try exact True.intro)
   refine ⟨⟨i + 1, zy hi hil (by simpa using h)⟩, ?_, by dsimp only; omega⟩
   try (refine ev2 @SidxO.eq_1 (qk (show i < 9223372036854775807 by unfold maxLen at hl; omega)) ?_; try exact True.intro)
 ·have hil : l.length ≤ i := by simpa using h
  try (refine ev1 (qbo hi hil) ?_; try exact True.intro)
theorem qa8 {k : FuncId} {f : OpS → Bool} (hb : (Tryz.prog.funcs[k]?).any (fun fn => fn.body.isSome && !(fn.name == "runtime.NumGoroutine")) = true)
  (hf : ∀ v, ACall Tryz.prog k [.d (.agg (encOp v))] [] (.d (.bool (f v))) []) (l : List OpS) (hl : l.length ≤ maxLen) :
  ACall Tryz.prog 94 [.d (.sl 3 (l.map encOp)), .d (.func (.func k) [] [])] [] (.d (.bool (l.any f))) [] := by
 refine F94.go ?_
 try (refine ev ?_; try exact True.intro)
 (repeat (with_reducible refine ob ?_)); first | refine cl q9y (qh6 hb hf l hl) ?_ | refine clF q9y (qh6 hb hf l hl) (fun _ => by simp only [encOp, go_sem, Nat.reduceAdd, Nat.reduceMul, Nat.reduceSub, Nat.reduceEqDiff, Nat.reduceLT, Nat.reduceLeDiff, Nat.reduceBEq, reduceIte, reduceCtorEq, Int.reduceAdd, Int.reduceLT, Int.reduceLE, Int.reduceGT, Int.reduceGE, Int.reduceEq, Int.reduceNe, Int.reduceBEq, Int.reduceBNe, Int.reduceToNat, Int.reduceNeg]) ?_
 try (refine ev1 @qln ?_; try exact True.intro)
def wOp (o : OpS) : List UInt8 := wText o.key ++ [if o.del then 1 else 0] ++ wText o.val
def wOps (l : List OpS) : List UInt8 := wInt l.length ++ l.flatMap wOp
def sEncode (l : List OpS) : List UInt8 × Int :=
 if l.length = 0 || l.any (fun o => !sProper o) then ([], 1) else if l.length > 20 || (wOps l).length > 2000 then ([], 6) else (wOps l, 0)
theorem xl {o : OpS} : sProper o = true ↔ 1 ≤ o.key.length ∧ o.key.length ≤ 40 ∧ o.val.length ≤ 900 ∧ (o.del = true → o.val.length = 0) := by
 unfold sProper
 cases o.del <;> simp [-List.length_eq_zero_iff] <;> omega
theorem vl (s : List UInt8) (h : s.length ≤ 900000000) : (wText s).length ≤ s.length + 10 := by
 have := zx (xh (n := s.length) (by omega))
 simp [wText]; omega
theorem qpu {o : OpS} (h : sProper o = true) : (wOp o).length ≤ 1000 := by
 obtain ⟨h1, h2, h3, _⟩ := xl.1 h
 have k1 := vl o.key (Nat.le_trans h2 (by decide))
 have k2 := vl o.val (Nat.le_trans h3 (by decide))
 simp only [wOp, List.length_append, List.length_cons, List.length_nil]; omega
theorem qbq {l : List OpS} (h : ∀ o ∈ l, sProper o = true) : (l.flatMap wOp).length ≤ l.length * 1000 := by
 induction l with
 | nil => simp
 | cons o l ih =>
  have h1 := qpu (h o List.mem_cons_self)
  have h2 := ih (fun x hx => h x (List.mem_cons_of_mem _ hx))
  simp only [List.flatMap_cons, List.length_append, List.length_cons]
  omega
def Senc (l : List OpS) (i : { i : Nat // i ≤ l.length }) : St :=
 ⟨[(0, true, .d (.sl 3 (l.map encOp))), (4, true, .own 0 1 (byteRows (wInt l.length ++ (l.take i.val).flatMap wOp))), (17, true, .d (.sl 3 (l.map encOp))), (18, true, .d (.int .i64 l.length)), (19, true, .d (.int .i64 (i.val : Nat)))], [], [0], 1⟩
theorem qa9 : (Tryz.prog.funcs[95]?).any (fun fn => fn.body.isSome && !(fn.name == "runtime.NumGoroutine")) = true := F95.body
theorem qh7 {α β : Type} (f : α → List β) (l : List α) {i : Nat} (h : i < l.length) : (l.take (i + 1)).flatMap f = (l.take i).flatMap f ++ f l[i] := by
 rw [List.take_succ_eq_append_getElem h, List.flatMap_append, List.flatMap_cons, List.flatMap_nil, List.append_nil]
theorem vu (l : List OpS) (hl : l.length ≤ 100000) : ACall Tryz.prog 50 [.d (.sl 3 (l.map encOp))] [] (.tup [.d (.sl 1 (byteRows (sEncode l).1)), .d (.int .i64 (sEncode l).2)]) [] := by
 refine F50.goT ?_
 try (refine ev ?_; try exact True.intro)
 (repeat (with_reducible refine ob ?_)); first | refine cl F94 (qa8 qa9 qej l (by unfold maxLen; omega)) ?_ | refine clF F94 (qa8 qa9 qej l (by unfold maxLen; omega)) (fun _ => by simp only [encOp, go_sem, Nat.reduceAdd, Nat.reduceMul, Nat.reduceSub, Nat.reduceEqDiff, Nat.reduceLT, Nat.reduceLeDiff, Nat.reduceBEq, reduceIte, reduceCtorEq, Int.reduceAdd, Int.reduceLT, Int.reduceLE, Int.reduceGT, Int.reduceGE, Int.reduceEq, Int.reduceNe, Int.reduceBEq, Int.reduceBNe, Int.reduceToNat, Int.reduceNeg]) ?_
 try (refine ev ?_; try exact True.intro)
 (repeat (with_reducible refine ob ?_))
 (repeat (with_reducible refine ob ?_)); refine xf _ (fun h => ?_) (fun h => ?_)
 ·have hb : sEncode l = ([], 1) := by
   unfold sEncode
   rw [if_pos]
   simp only [Bool.or_eq_true, decide_eq_true_eq, beq_iff_eq] at h ⊢
   rcases h with h | h
   ·left; omega
   ·right; exact h
  try (refine ev2 @hb @qj ?_; try exact True.intro)
 have hne : ¬ (decide (l.length = 0) || l.any (fun o => !sProper o)) = true := by
  simp only [Bool.or_eq_true, decide_eq_true_eq, not_or]
  simp only [Bool.or_eq_false_iff, beq_eq_false_iff_ne] at h
  exact ⟨by omega, by simp [h.2]⟩
 have hpr : ∀ o ∈ l, sProper o = true := by
  simp only [Bool.or_eq_true, not_or, List.any_eq_true, not_exists, not_and] at hne
  intro o ho
  simpa using hne.2 o ho
 have hwl := qbq hpr
 have hil0 := zx (xh (n := l.length) (by omega))
 try (refine ev ?_; try exact True.intro)
 refine clA F91 (qam [] l.length (by simp) (xh (by omega))) ?_
 try (refine ev ?_; try exact True.intro)
 refine qm (Senc l) (fun i => l.length - i.val) ⟨0, Nat.zero_le _⟩ ?_ (fun i => ?_)
 ·try (refine ev2 @Senc.eq_1 @List.take_zero.{0} ?_; try exact True.intro)
 obtain ⟨i, hi⟩ := i
 try (refine ev1 @Senc.eq_1 ?_; try exact True.intro)
 (repeat (with_reducible refine ob ?_)); refine xf _ (fun h => ?_) (fun h => ?_)
 ·have hil : i < l.length := by simpa using h
  have ho := hpr l[i] (List.getElem_mem hil)
  obtain ⟨p1, p2, p3, _⟩ := xl.1 ho
  have hpre : (wInt l.length ++ (l.take i).flatMap wOp).length ≤ 100000020 := by
   have := qbq (l := l.take i) (fun o h => hpr o (List.mem_of_mem_take h))
   simp only [List.length_append, List.length_take] at this ⊢
   have : min i l.length ≤ 100000 := by omega
   omega
  have k1 := vl l[i].key (by omega)
  try (refine ev2 (qq encOp l hil) @encOp.eq_1 ?_; try exact True.intro)
  (repeat (with_reducible refine ob ?_))
  refine clA F99 (qkl (wInt l.length ++ (l.take i).flatMap wOp) l[i].key (by omega)) ?_
  try (refine ev ?_; try exact True.intro)
  refine clA F98 (qkk ((wInt l.length ++ (l.take i).flatMap wOp) ++ wText l[i].key) l[i].del (by simp only [List.length_append] at hpre ⊢; omega)) ?_
  try (refine ev ?_; try exact True.intro)
  refine clA F97 (qh2 ((wInt l.length ++ (l.take i).flatMap wOp) ++ wText l[i].key ++ [if l[i].del then 1 else 0]) l[i].val (by simp only [List.length_append, List.length_cons, List.length_nil] at hpre ⊢; omega)) ?_
  try (refine ev ?_; try exact True.intro)
  have e : wInt l.length ++ (l.take i).flatMap wOp ++ wText l[i].key ++ [if l[i].del then 1 else 0] ++ wText l[i].val = wInt l.length ++ (l.take (i + 1)).flatMap wOp := by
   rw [qh7 wOp l hil, wOp]; simp only [List.append_assoc]
  refine ⟨⟨i + 1, hil⟩, ?_, by dsimp only; omega⟩
  try (refine ev3 @Senc.eq_1 @e (qk (show i < 9223372036854775807 by omega)) ?_; try exact True.intro)
 ·have hie : i = l.length := by simp at h; omega
  subst hie
  try (refine ev1 @List.take_length.{0} ?_; try exact True.intro)
  have hw : wInt l.length ++ l.flatMap wOp = wOps l := rfl
  have hw2 : (wOps l).length = (wInt l.length).length + (l.flatMap wOp).length := by rw [wOps, List.length_append]
  try (refine ev1 @hw ?_; try exact True.intro)
  (repeat (with_reducible refine ob ?_)); refine xf _ (fun h => ?_) (fun h => ?_)
  ·have hb : sEncode l = ([], 6) := by
    unfold sEncode
    rw [if_neg hne, if_pos]
    simp only [Bool.or_eq_true, decide_eq_true_eq] at h ⊢
    omega
   try (refine ev2 @hb @qj ?_; try exact True.intro)
  ·have hb : sEncode l = (wOps l, 0) := by
    unfold sEncode
    rw [if_neg hne, if_neg]
    simp only [Bool.or_eq_true, Bool.or_eq_false_iff, decide_eq_true_eq, decide_eq_false_iff_not] at h ⊢
    omega
   try (refine ev1 @hb ?_; try exact True.intro)
end Go.Proofs.YtinnaedmdoengaaGreat
namespace Go.Proofs.YtinnaedmdoengaaGreat
open Go.Abs
set_option linter.unusedSimpArgs false
noncomputable section
set_option maxRecDepth 100000
def s151r0 : List SOper := [
 ⟨some 4, .mov (.k (.d (.int .u64 0))), none⟩]
def s151r1 : List SOper := [
 ⟨some 7, .mov (.t 1), none⟩,
 ⟨some 8, .len (.t 7), none⟩,
 ⟨some 9, .mov (.k (.d (.int .i64 0))), none⟩]
def s151r2 : List SOper := [
 ⟨some 10, .bin .lss (.t 9) (.t 8), none⟩]
def s151r3 : List SOper := [
 ⟨some 11, .iaddr 1 (.t 7) (.t 9), none⟩,
 ⟨some 12, .load none (.t 11), none⟩,
 ⟨some 6, .mov (.t 12), none⟩]
def s151r4 : List SOper := [
 ⟨some 13, .mov (.t 0), none⟩,
 ⟨some 14, .mov (.t 6), none⟩,
 ⟨some 15, .conv .u64 (.t 14), none⟩,
 ⟨some 16, .bin .xor (.t 13) (.t 15), none⟩,
 ⟨some 17, .bin .mul (.t 16) (.k (.d (.int .u64 1099511628211))), none⟩,
 ⟨some 0, .mov (.t 17), none⟩]
def s151r5 : List SOper := [
 ⟨some 18, .bin .add (.t 9) (.k (.d (.int .i64 1))), none⟩,
 ⟨some 9, .mov (.t 18), none⟩]
def s151l6 : SCode := (.seq (.region s151r2 0 []) (.seq (.cond (.t 10) .skip (.exit 0)) (.seq (.block 1 (.seq (.region s151r3 0 []) (.region s151r4 0 []))) (.region s151r5 0 []))))
theorem qy9 : CodeIs s151l6.eq_1 := qc s151l6.eq_1
def s151r7 : List SOper := [
 ⟨some 19, .mov (.t 0), none⟩,
 ⟨some 4, .mov (.t 19), none⟩]
def s151 : SCode := (.seq (.region s151r0 0 []) (.seq (.seq (.region s151r1 0 []) (.block 0 (.loop s151l6))) (.seq (.region s151r7 0 []) .ret)))
theorem xhr : CodeIs s151.eq_1 := qc s151.eq_1
theorem qza : RegIs s151r0.eq_1 := qa
theorem qzb : RegIs s151r1.eq_1 := qa
theorem qzc : RegIs s151r2.eq_1 := qa
theorem qzd : RegIs s151r3.eq_1 := qa
theorem qze : RegIs s151r4.eq_1 := qa
theorem qzf : RegIs s151r5.eq_1 := qa
theorem qzg : RegIs s151r7.eq_1 := qa
attribute [go_sem] qza qzb qzc qzd qze qzf qy9 qzg xhr
theorem q8l : FnIs Tryz.prog 151 Tryz.f151 [] news s151 [.tmp 4] 20 := qz follows Tryz.func151
def s103r0 : List SOper := [
 ⟨some 4, .mov (.k (.d (.int .u64 0))), none⟩,
 ⟨some 5, .alloc 1 [(.d (.int .u8 0)), (.d (.int .u8 0)), (.d (.int .u8 0)), (.d (.int .u8 0)), (.d (.int .u8 0)), (.d (.int .u8 0)), (.d (.int .u8 0)), (.d (.int .u8 0))], none⟩]
def s103r1 : List SOper := [
 ⟨some 9, .mov (.t 0), none⟩,
 ⟨some 10, .mov (.t 1), none⟩,
 ⟨some 11, .call (.k (.d (.func (.func 151) [] []))) [(.t 9), (.t 10)], none⟩,
 ⟨some 6, .mov (.t 11), none⟩]
def s103r2 : List SOper := [
 ⟨some 7, .alloc 1 [(.d (.int .u8 0)), (.d (.int .u8 0)), (.d (.int .u8 0)), (.d (.int .u8 0)), (.d (.int .u8 0)), (.d (.int .u8 0)), (.d (.int .u8 0)), (.d (.int .u8 0))], none⟩]
def s103r3 : List SOper := [
 ⟨some 12, .mov (.k (.d (.int .i64 0))), none⟩]
def s103r4 : List SOper := [
 ⟨some 13, .bin .lss (.t 12) (.k (.d (.int .i64 8))), none⟩]
def s103r5 : List SOper := [
 ⟨some 14, .mov (.t 12), none⟩,
 ⟨some 8, .mov (.t 14), none⟩]
def s103r6 : List SOper := [
 ⟨some 15, .mov (.t 8), none⟩,
 ⟨some 16, .mov (.t 6), none⟩,
 ⟨some 17, .mov (.t 8), none⟩,
 ⟨some 18, .bin .sub (.k (.d (.int .i64 7))) (.t 17), none⟩,
 ⟨some 19, .bin .mul (.k (.d (.int .i64 8))) (.t 18), none⟩,
 ⟨some 20, .bin .shr (.t 16) (.t 19), none⟩,
 ⟨some 21, .conv .u8 (.t 20), none⟩,
 ⟨some 22, .iaddrA 8 1 (.t 7) (.t 15), none⟩,
 ⟨none, .store none (.t 22) (.t 21), none⟩]
def s103r7 : List SOper := [
 ⟨some 23, .bin .add (.t 12) (.k (.d (.int .i64 1))), none⟩,
 ⟨some 12, .mov (.t 23), none⟩]
def s103l8 : SCode := (.seq (.region s103r4 0 []) (.seq (.cond (.t 13) .skip (.exit 0)) (.seq (.block 1 (.seq (.region s103r5 0 []) (.region s103r6 0 []))) (.region s103r7 0 []))))
theorem qzh : CodeIs s103l8.eq_1 := qc s103l8.eq_1
def s103r9 : List SOper := [
 ⟨some 24, .mov (.t 6), none⟩,
 ⟨some 25, .load (some 8) (.t 7), none⟩,
 ⟨some 4, .mov (.t 24), none⟩,
 ⟨none, .store (some 8) (.t 5) (.t 25), none⟩]
def s103 : SCode := (.seq (.region s103r0 1 []) (.seq (.region s103r1 0 []) (.seq (.region s103r2 1 []) (.seq (.seq (.region s103r3 0 []) (.block 0 (.loop s103l8))) (.seq (.region s103r9 0 []) .ret)))))
theorem xhs : CodeIs s103.eq_1 := qc s103.eq_1
theorem qzi : RegIs s103r0.eq_1 := qa
theorem qzj : RegIs s103r1.eq_1 := qa
theorem qzk : RegIs s103r2.eq_1 := qa
theorem qzl : RegIs s103r3.eq_1 := qa
theorem qzm : RegIs s103r4.eq_1 := qa
theorem qzn : RegIs s103r5.eq_1 := qa
theorem qzo : RegIs s103r6.eq_1 := qa
theorem qzp : RegIs s103r7.eq_1 := qa
theorem qzq : RegIs s103r9.eq_1 := qa
attribute [go_sem] qzi qzj qzk qzl qzm qzn qzo qzp qzh qzq xhs
theorem q8m : FnIs Tryz.prog 103 Tryz.f103 [] news s103 [.tmp 4, .cell 5 (some 8)] 26 := qz follows Tryz.func103
def s101r0 : List SOper := [
 ⟨some 2, .mov (.k (.d (.int .u64 0))), none⟩]
def s101r1 : List SOper := [
 ⟨some 6, .mov (.t 0), none⟩,
 ⟨some 7, .len (.t 6), none⟩,
 ⟨some 8, .bin .lss (.t 7) (.k (.d (.int .i64 8))), none⟩]
def s101r2 : List SOper := [
 ⟨some 2, .mov (.k (.d (.int .u64 14695981039346656037))), none⟩]
def s101r3 : List SOper := [
 ⟨some 3, .mov (.k (.d (.int .u64 0))), none⟩]
def s101r4 : List SOper := [
 ⟨some 9, .mov (.t 0), none⟩,
 ⟨some 10, .mov (.t 0), none⟩,
 ⟨some 11, .len (.t 10), none⟩,
 ⟨some 12, .bin .sub (.t 11) (.k (.d (.int .i64 8))), none⟩,
 ⟨some 13, .slice 1 (.t 9) (some (.t 12)) none none, none⟩,
 ⟨some 14, .len (.t 13), none⟩,
 ⟨some 15, .mov (.k (.d (.int .i64 0))), none⟩]
def s101r5 : List SOper := [
 ⟨some 16, .bin .lss (.t 15) (.t 14), none⟩]
def s101r6 : List SOper := [
 ⟨some 17, .iaddr 1 (.t 13) (.t 15), none⟩,
 ⟨some 18, .load none (.t 17), none⟩,
 ⟨some 5, .mov (.t 18), none⟩]
def s101r7 : List SOper := [
 ⟨some 19, .mov (.t 3), none⟩,
 ⟨some 20, .bin .shl (.t 19) (.k (.d (.int .u64 8))), none⟩,
 ⟨some 21, .mov (.t 5), none⟩,
 ⟨some 22, .conv .u64 (.t 21), none⟩,
 ⟨some 23, .bin .or (.t 20) (.t 22), none⟩,
 ⟨some 3, .mov (.t 23), none⟩]
def s101r8 : List SOper := [
 ⟨some 24, .bin .add (.t 15) (.k (.d (.int .i64 1))), none⟩,
 ⟨some 15, .mov (.t 24), none⟩]
def s101l9 : SCode := (.seq (.region s101r5 0 []) (.seq (.cond (.t 16) .skip (.exit 0)) (.seq (.block 1 (.seq (.region s101r6 0 []) (.region s101r7 0 []))) (.region s101r8 0 []))))
theorem qzr : CodeIs s101l9.eq_1 := qc s101l9.eq_1
def s101r10 : List SOper := [
 ⟨some 25, .mov (.t 3), none⟩,
 ⟨some 2, .mov (.t 25), none⟩]
def s101 : SCode := (.seq (.region s101r0 0 []) (.seq (.seq (.region s101r1 0 []) (.cond (.t 8) (.seq (.region s101r2 0 []) .ret) .skip)) (.seq (.region s101r3 0 []) (.seq (.seq (.region s101r4 0 []) (.block 0 (.loop s101l9))) (.seq (.region s101r10 0 []) .ret)))))
theorem xht : CodeIs s101.eq_1 := qc s101.eq_1
theorem qzs : RegIs s101r0.eq_1 := qa
theorem qzt : RegIs s101r1.eq_1 := qa
theorem qzu : RegIs s101r2.eq_1 := qa
theorem qzv : RegIs s101r3.eq_1 := qa
theorem qzw : RegIs s101r4.eq_1 := qa
theorem qzx : RegIs s101r5.eq_1 := qa
theorem qzy : RegIs s101r6.eq_1 := qa
theorem qzz : RegIs s101r7.eq_1 := qa
theorem qz0 : RegIs s101r8.eq_1 := qa
theorem qvd : RegIs s101r10.eq_1 := qa
attribute [go_sem] qzs qzt qzu qzv qzw qzx qzy qzz qz0 qzr qvd xht
theorem xgg : FnIs Tryz.prog 101 Tryz.f101 [] news s101 [.tmp 2] 26 := qz follows Tryz.func101
end
def fnv1 (h : Nat) (c : UInt8) : Nat := (h ^^^ c.toNat) * 1099511628211 % 18446744073709551616
def fnv (h : Nat) (s : List UInt8) : Nat := s.foldl fnv1 h
theorem qf3 (h : Nat) : fnv h [] = h := rfl
theorem qbr (h : Nat) (s : List UInt8) (c : UInt8) : fnv h (s ++ [c]) = (fnv h s ^^^ c.toNat) * 1099511628211 % 18446744073709551616 := by
 have : fnv h (s ++ [c]) = fnv1 (fnv h s) c := by unfold fnv; rw [List.foldl_append, List.foldl_cons, List.foldl_nil]
 rw [this, fnv1]
theorem qcu {h : Nat} (hh : h < 18446744073709551616) (s : List UInt8) : fnv h s < 18446744073709551616 := by
 rcases List.eq_nil_or_concat s with rfl | ⟨t, c, rfl⟩
 ·rw [qf3]; exact hh
 ·rw [List.concat_eq_append, qbr]
  generalize (fnv h t ^^^ c.toNat) * 1099511628211 = x
  omega
theorem ws (n : Int) : IntKind.u64.wrap n = n % 18446744073709551616 := by simp [IntKind.wrap, IntKind.bits, IntKind.signed]
theorem qs9 (a b : Nat) (ha : a < 18446744073709551616) (hb : b < 18446744073709551616) : a ^^^ b < 18446744073709551616 := by
 have p : (18446744073709551616 : Nat) = 2 ^ 64 := by decide
 rw [p] at *
 exact Nat.xor_lt_two_pow ha hb
theorem qpv (a b : Nat) (ha : a < 18446744073709551616) (hb : b < 18446744073709551616) : bvXor 64 (a : Int) (b : Int) = ((a ^^^ b : Nat) : Int) := by
 unfold bvXor
 rw [BitVec.ofInt_natCast, BitVec.ofInt_natCast, BitVec.toNat_xor, BitVec.toNat_ofNat, BitVec.toNat_ofNat, Nat.mod_eq_of_lt ha, Nat.mod_eq_of_lt hb]
theorem f1 (x : Nat) : IntKind.u64.wrap ((x : Int) * 1099511628211) = ((x * 1099511628211 % 18446744073709551616 : Nat) : Int) := by
 rw [ws]
 simp only [Int.natCast_emod, Int.natCast_mul, Int.cast_ofNat_Int]
theorem f2 (x : Nat) (h : x < 18446744073709551616) : IntKind.u64.wrap (x : Int) = x := by
 rw [ws]; omega
theorem qf4 (h c : Nat) (hh : h < 18446744073709551616) (hc : c < 256) :
  IntKind.u64.wrap (IntKind.u64.wrap (bvXor 64 (h : Int) (IntKind.u64.wrap (c : Int))) * 1099511628211) = (((h ^^^ c) * 1099511628211 % 18446744073709551616 : Nat) : Int) := by
 rw [f2 c (by omega), qpv h c hh (by omega), f2 _ (qs9 h c hh (by omega)), f1]
theorem zf (c : UInt8) : c.toNat < 256 := UInt8.toNat_lt c
theorem ql (s : List UInt8) {i : Nat} (h : i < s.length) : (byteRows s).getD i [] = [.int .u8 (s[i].toNat : Int)] := qq (fun c : UInt8 => [D.int .u8 (c.toNat : Int)]) s h []
def Sfrom (h : Nat) (s : List UInt8) (i : { i : Nat // i ≤ s.length }) : St :=
 ⟨[(0, true, .d (.int .u64 (fnv h (s.take i.val) : Nat))), (7, true, .d (.sl 1 (byteRows s))), (8, true, .d (.int .i64 s.length)), (9, true, .d (.int .i64 (i.val : Nat)))], [], [], 1⟩
theorem qve (h : Nat) (s : List UInt8) (hh : h < 18446744073709551616) (hl : s.length ≤ 1000000000) : ACall Tryz.prog 151 [.d (.int .u64 h), .d (.sl 1 (byteRows s))] [] (.d (.int .u64 (fnv h s : Nat))) [] := by
 refine q8l.go ?_
 try (refine ev ?_; try exact True.intro)
 refine qm (Sfrom h s) (fun i => s.length - i.val) ⟨0, Nat.zero_le _⟩ ?_ (fun i => ?_)
 ·try (refine ev3 @Sfrom.eq_1 @List.take_zero.{0} @qf3 ?_; try exact True.intro)
 obtain ⟨i, hi⟩ := i
 try (refine ev1 @Sfrom.eq_1 ?_; try exact True.intro)
 (repeat (with_reducible refine ob ?_)); refine xf _ (fun h => ?_) (fun h => ?_)
 ·have hil : i < s.length := by simpa using h
  try (refine ev1 (ql s hil) ?_; try exact True.intro)
  (repeat (with_reducible refine ob ?_))
  try simp only [qf4 _ _ (qcu hh (s.take i)) (zf s[i]), go_sem, Nat.reduceAdd, Nat.reduceMul, Nat.reduceSub, Nat.reduceEqDiff, Nat.reduceLT, Nat.reduceLeDiff, Nat.reduceBEq, reduceIte, reduceCtorEq, Int.reduceAdd, Int.reduceLT, Int.reduceLE, Int.reduceGT, Int.reduceGE, Int.reduceEq, Int.reduceNe, Int.reduceBEq, Int.reduceBNe, Int.reduceToNat, Int.reduceNeg]
  refine ⟨⟨i + 1, hil⟩, ?_, by dsimp only; omega⟩
  try (refine ev4 @Sfrom.eq_1 (qk (show i < 9223372036854775807 by omega)) (List.take_succ_eq_append_getElem hil) @qbr ?_; try exact True.intro)
 ·have hie : i = s.length := by simp at h; omega
  subst hie
  try (refine ev1 @List.take_length.{0} ?_; try exact True.intro)
def byteD (c : UInt8) : D := .int .u8 c.toNat
theorem qkm (s : List UInt8) : D.noPtrL (s.map byteD) = true := by induction s <;> simp_all [D.noPtrL, D.noPtr, byteD]
theorem wt (s : List UInt8) : (s.map byteD).all D.isCell = true := by induction s <;> simp_all [D.isCell, byteD]
attribute [go_sem] qkm wt
theorem qnf (s : List UInt8) {i : Nat} (h : i < s.length) (x : ASlot) : ((s.map byteD).map ASlot.d).getD i x = .d (.int .u8 (s[i].toNat : Int)) := by simp [h, byteD]
theorem ja (s : List UInt8) : (byteRows s).flatten = s.map byteD := by induction s <;> simp_all [byteRows, byteD]
theorem qh8 (s : List UInt8) : chunks 1 s.length (s.map byteD) = byteRows s := by
 induction s with
 | nil => rfl
 | cons c s ih => simp only [List.length_cons, List.map_cons, chunks, List.take_succ_cons, List.take_zero, List.drop_succ_cons, List.drop_zero, ih]; rfl
def SfromR (h : Nat) (s : List UInt8) (i : { i : Nat // i ≤ s.length }) : St :=
 ⟨[(0, true, .d (.int .u64 (fnv h (s.take i.val) : Nat))), (7, true, .d (.ref 0 0 1 s.length)), (8, true, .d (.int .i64 s.length)), (9, true, .d (.int .i64 (i.val : Nat)))], [.row ((s.map byteD).map .d)], [], 1⟩
theorem qta (h : Nat) (s : List UInt8) (hh : h < 18446744073709551616) (hl : s.length ≤ 1000000000) : ACall Tryz.prog 151 [.d (.int .u64 h), .d (.ref 0 0 1 s.length)] [.row ((s.map byteD).map .d)] (.d (.int .u64 (fnv h s : Nat))) [.row ((s.map byteD).map .d)] := by
 refine q8l.go ?_
 try (refine ev ?_; try exact True.intro)
 refine qm (SfromR h s) (fun i => s.length - i.val) ⟨0, Nat.zero_le _⟩ ?_ (fun i => ?_)
 ·try (refine ev3 @SfromR.eq_1 @List.take_zero.{0} @qf3 ?_; try exact True.intro)
 obtain ⟨i, hi⟩ := i
 try (refine ev1 @SfromR.eq_1 ?_; try exact True.intro)
 (repeat (with_reducible refine ob ?_)); refine xf _ (fun h => ?_) (fun h => ?_)
 ·have hil : i < s.length := by simpa using h
  try (refine ev2 @Nat.mul_one (qnf s hil) ?_; try exact True.intro)
  (repeat (with_reducible refine ob ?_))
  try simp only [qf4 _ _ (qcu hh (s.take i)) (zf s[i]), go_sem, Nat.reduceAdd, Nat.reduceMul, Nat.reduceSub, Nat.reduceEqDiff, Nat.reduceLT, Nat.reduceLeDiff, Nat.reduceBEq, reduceIte, reduceCtorEq, Int.reduceAdd, Int.reduceLT, Int.reduceLE, Int.reduceGT, Int.reduceGE, Int.reduceEq, Int.reduceNe, Int.reduceBEq, Int.reduceBNe, Int.reduceToNat, Int.reduceNeg]
  refine ⟨⟨i + 1, hil⟩, ?_, by dsimp only; omega⟩
  try (refine ev4 @SfromR.eq_1 (qk (show i < 9223372036854775807 by omega)) (List.take_succ_eq_append_getElem hil) @qbr ?_; try exact True.intro)
 ·have hie : i = s.length := by simp at h; omega
  subst hie
  try (refine ev1 @List.take_length.{0} ?_; try exact True.intro)
def be8 (h : Nat) : List UInt8 := [UInt8.ofNat (h / 256 ^ 7), UInt8.ofNat (h / 256 ^ 6), UInt8.ofNat (h / 256 ^ 5), UInt8.ofNat (h / 256 ^ 4), UInt8.ofNat (h / 256 ^ 3), UInt8.ofNat (h / 256 ^ 2), UInt8.ofNat (h / 256 ^ 1), UInt8.ofNat (h / 256 ^ 0)]
theorem xi (h : Nat) : (be8 h).length = 8 := rfl
theorem qvf (h : Nat) : ∀ {i : Nat} (hi : i < 8), (be8 h)[i]'(by rw [xi]; exact hi) = UInt8.ofNat (h / 256 ^ (7 - i))
 | 0, _ => rfl
 | 1, _ => rfl
 | 2, _ => rfl
 | 3, _ => rfl
 | 4, _ => rfl
 | 5, _ => rfl
 | 6, _ => rfl
 | 7, _ => rfl
theorem qt {n : Int} (h : I64 n) : IntKind.i64.wrap n = n := by
 obtain ⟨h1, h2⟩ := h
 simp [IntKind.wrap, IntKind.bits, IntKind.signed]; omega
theorem qlo (h i : Nat) (hi : i < 8) : IntKind.u8.wrap ((h : Int).fdiv (2 ^ min (8 * (7 - (i : Int))).toNat 64)) = ((UInt8.ofNat (h / 256 ^ (7 - i))).toNat : Int) := by
 have e1 : min (8 * (7 - (i : Int))).toNat 64 = 8 * (7 - i) := by omega
 have e2 : ((2 : Int) ^ (8 * (7 - i))) = ((256 ^ (7 - i) : Nat) : Int) := by rw [Int.natCast_pow, Int.pow_mul]; rfl
 rw [e1, e2, Int.fdiv_eq_ediv_of_nonneg _ (Int.natCast_nonneg _), ← Int.natCast_ediv, qal, UInt8.toNat_ofNat']
 omega
theorem qpw (h : Nat) {i : Nat} (hi : i < 8) : (((be8 h).take i ++ List.replicate (8 - i) 0).map byteD).set i (D.int .u8 ((UInt8.ofNat (h / 256 ^ (7 - i))).toNat : Int)) = ((be8 h).take (i + 1) ++ List.replicate (8 - (i + 1)) 0).map byteD := by
 have h8 := xi h
 have hl : ((be8 h).take i).length = i := by rw [List.length_take]; omega
 have e : D.int .u8 ((UInt8.ofNat (h / 256 ^ (7 - i))).toNat : Int) = byteD ((be8 h)[i]'(by omega)) := by rw [qvf h hi]; rfl
 rw [e, ← List.map_set, List.set_append_right _ _ (by omega), hl, Nat.sub_self, List.take_succ_eq_append_getElem (by omega), show 8 - i = (8 - (i + 1)) + 1 by omega, List.replicate_succ, List.set_cons_zero, List.append_assoc, List.cons_append, List.nil_append]
theorem ko (ds : List D) (i : Nat) (x : D) : (ds.map ASlot.d).set i (.d x) = (ds.set i x).map .d := by rw [List.map_set]
theorem qek : byteD 0 = .int .u8 0 := rfl
theorem qpx (h : Nat) : (be8 h).take 8 = be8 h := List.take_of_length_le (Nat.le_of_eq (xi h))
theorem q8n (h : Nat) : ((be8 h).map byteD).take 8 = (be8 h).map byteD := List.take_of_length_le (by simp [xi])
def ScheckS (k : Nat) (f0 : Fr) (os : List AObj) (h : Nat) (i : { i : Nat // i ≤ 8 }) : St :=
 ⟨(6, true, .d (.int .u64 (h : Nat))) :: (7, true, .d (.ptr (k + 1) 0)) :: (5, true, .d (.ptr k 0)) :: (12, true, .d (.int .i64 (i.val : Nat))) :: f0, os ++ [.row ((List.replicate 8 (D.int .u8 0)).map .d), .row ((((be8 h).take i.val ++ List.replicate (8 - i.val) 0).map byteD).map .d)], [], 1⟩
theorem qtb (h : Nat) (s : List UInt8) (hh : h < 18446744073709551616) (hl : s.length ≤ 1000000000) : ACall Tryz.prog 103 [.d (.int .u64 h), .d (.sl 1 (byteRows s))] [] (.tup [.d (.int .u64 (fnv h s : Nat)), .d (.agg ((be8 (fnv h s)).map byteD))]) [] := by
 refine q8m.goT ?_
 try (refine ev ?_; try exact True.intro)
 (repeat (with_reducible refine ob ?_)); refine cl q8l (qve h s hh hl) ?_
 try (refine ev ?_; try exact True.intro)
 refine qm (ScheckS 0 [] [] (fnv h s)) (fun i => 8 - i.val) ⟨0, Nat.zero_le _⟩ ?_ (fun i => ?_)
 ·try (refine ev3 @ScheckS.eq_1 @List.take_zero.{0} @qek ?_; try exact True.intro)
 obtain ⟨i, hi⟩ := i
 try (refine ev1 @ScheckS.eq_1 ?_; try exact True.intro)
 refine xf _ (fun hc => ?_) (fun hc => ?_)
 ·have hil : i < 8 := by simp at hc; omega
  have e1 : IntKind.i64.wrap (7 - (i : Int)) = 7 - i := qt (by unfold I64; omega)
  have e2 : IntKind.i64.wrap (8 * (7 - (i : Int))) = 8 * (7 - i) := qt (by unfold I64; omega)
  have hlen := xi (fnv h s)
  try simp only [Nat.mul_one, qlo _ _ hil, ko, qpw _ hil, e1, e2, List.length_take, List.length_replicate, go_sem, Nat.reduceAdd, Nat.reduceMul, Nat.reduceSub, Nat.reduceEqDiff, Nat.reduceLT, Nat.reduceLeDiff, Nat.reduceBEq, reduceIte, reduceCtorEq, Int.reduceAdd, Int.reduceLT, Int.reduceLE, Int.reduceGT, Int.reduceGE, Int.reduceEq, Int.reduceNe, Int.reduceBEq, Int.reduceBNe, Int.reduceToNat, Int.reduceNeg]
  (repeat (with_reducible refine ob ?_))
  refine ⟨⟨i + 1, hil⟩, ?_, by dsimp only; omega⟩
  try (refine ev2 @ScheckS.eq_1 (qk (show i < 9223372036854775807 by omega)) ?_; try exact True.intro)
 ·have hie : i = 8 := by simp at hc; omega
  subst hie
  try (refine ev3 @qpx @be8.eq_1 @byteD.eq_1 ?_; try exact True.intro)
theorem qpy (h : Nat) (s : List UInt8) (hh : h < 18446744073709551616) (hl : s.length ≤ 1000000000) : ACall Tryz.prog 103 [.d (.int .u64 h), .d (.ref 0 0 1 s.length)] [.row ((s.map byteD).map .d)] (.tup [.d (.int .u64 (fnv h s : Nat)), .d (.agg ((be8 (fnv h s)).map byteD))]) [.row ((s.map byteD).map .d)] := by
 refine q8m.goT ?_
 try (refine ev ?_; try exact True.intro)
 (repeat (with_reducible refine ob ?_)); refine clO [0] q8l (qta h s hh hl) ?_
 try (refine ev ?_; try exact True.intro)
 refine qm (ScheckS 1 [] [.row ((s.map byteD).map .d)] (fnv h s)) (fun i => 8 - i.val) ⟨0, Nat.zero_le _⟩ ?_ (fun i => ?_)
 ·try (refine ev3 @ScheckS.eq_1 @List.take_zero.{0} @qek ?_; try exact True.intro)
 obtain ⟨i, hi⟩ := i
 try (refine ev1 @ScheckS.eq_1 ?_; try exact True.intro)
 refine xf _ (fun hc => ?_) (fun hc => ?_)
 ·have hil : i < 8 := by simp at hc; omega
  have e1 : IntKind.i64.wrap (7 - (i : Int)) = 7 - i := qt (by unfold I64; omega)
  have e2 : IntKind.i64.wrap (8 * (7 - (i : Int))) = 8 * (7 - i) := qt (by unfold I64; omega)
  have hlen := xi (fnv h s)
  try simp only [Nat.mul_one, qlo _ _ hil, ko, qpw _ hil, e1, e2, List.length_take, List.length_replicate, go_sem, Nat.reduceAdd, Nat.reduceMul, Nat.reduceSub, Nat.reduceEqDiff, Nat.reduceLT, Nat.reduceLeDiff, Nat.reduceBEq, reduceIte, reduceCtorEq, Int.reduceAdd, Int.reduceLT, Int.reduceLE, Int.reduceGT, Int.reduceGE, Int.reduceEq, Int.reduceNe, Int.reduceBEq, Int.reduceBNe, Int.reduceToNat, Int.reduceNeg]
  (repeat (with_reducible refine ob ?_))
  refine ⟨⟨i + 1, hil⟩, ?_, by dsimp only; omega⟩
  try (refine ev2 @ScheckS.eq_1 (qk (show i < 9223372036854775807 by omega)) ?_; try exact True.intro)
 ·have hie : i = 8 := by simp at hc; omega
  subst hie
  try (refine ev3 @qpx @be8.eq_1 @byteD.eq_1 ?_; try exact True.intro)
def num1 (h : Nat) (c : UInt8) : Nat := h * 256 + c.toNat
def numOf (s : List UInt8) : Nat := s.foldl num1 0
def wSeed (file : List UInt8) : Nat := if file.length < 8 then 14695981039346656037 else numOf (file.drop (file.length - 8))
theorem qel (s : List UInt8) (c : UInt8) : numOf (s ++ [c]) = numOf s * 256 + c.toNat := by unfold numOf; rw [List.foldl_append, List.foldl_cons, List.foldl_nil]; rfl
theorem qf5 : ∀ (n : Nat) (s : List UInt8), s.length = n → numOf s < 256 ^ n
 | 0, s, h => by cases s <;> simp at h; simp [numOf]
 | n + 1, s, h => by
  rcases List.eq_nil_or_concat s with rfl | ⟨t, c, rfl⟩
  ·simp at h
  ·rw [List.concat_eq_append] at h ⊢
   have h1 := qf5 n t (by simpa using h)
   have h2 := zf c
   rw [qel, Nat.pow_succ]
   omega
theorem qlp (a b : Nat) (ha : a < 18446744073709551616) (hb : b < 18446744073709551616) : bvOr 64 (a : Int) (b : Int) = ((a ||| b : Nat) : Int) := by
 unfold bvOr
 rw [BitVec.ofInt_natCast, BitVec.ofInt_natCast, BitVec.toNat_or, BitVec.toNat_ofNat, BitVec.toNat_ofNat, Nat.mod_eq_of_lt ha, Nat.mod_eq_of_lt hb]
theorem qz1 (a c : Nat) (hc : c < 256) : a * 256 ||| c = a * 256 + c := by
 have := Nat.shiftLeft_add_eq_or_of_lt (i := 8) (b := c) (by omega) a
 rw [Nat.shiftLeft_eq] at this
 exact this.symm
theorem qpz (a c : Nat) (ha : a < 72057594037927936) (hc : c < 256) : IntKind.u64.wrap (bvOr 64 (IntKind.u64.wrap ((a : Int) * 2 ^ min 8 64)) (IntKind.u64.wrap (c : Int))) = ((a * 256 + c : Nat) : Int) := by
 have e1 : IntKind.u64.wrap ((a : Int) * 2 ^ min 8 64) = ((a * 256 : Nat) : Int) := by
  rw [ws]
  show (a : Int) * 256 % 18446744073709551616 = _
  omega
 rw [e1, f2 c (by omega), qlp _ _ (by omega) (by omega), qz1 a c hc, f2 _ (by omega)]
def Sseed (s : List UInt8) (i : { i : Nat // i ≤ s.length }) : St :=
 ⟨[(3, true, .d (.int .u64 (numOf (s.take i.val) : Nat))), (13, true, .d (.sl 1 (byteRows s))), (14, true, .d (.int .i64 s.length)), (15, true, .d (.int .i64 (i.val : Nat)))], [], [], 1⟩
theorem qw (s : List UInt8) (n : Nat) : (byteRows s).drop n = byteRows (s.drop n) := by simp [byteRows]
theorem qp (s : List UInt8) (n : Nat) : (byteRows s).take n = byteRows (s.take n) := by simp [byteRows]
theorem qvg (file : List UInt8) (hl : file.length ≤ 1000000000) : ACall Tryz.prog 101 [.d (.sl 1 (byteRows file))] [] (.d (.int .u64 (wSeed file : Nat))) [] := by
 refine xgg.go ?_
 try (refine ev ?_; try exact True.intro)
 refine xf _ (fun hc => ?_) (fun hc => ?_)
 ·have hb : wSeed file = 14695981039346656037 := by unfold wSeed; rw [if_pos (by simp at hc; omega)]
  try (refine ev1 @hb ?_; try exact True.intro)
 have h8 : 8 ≤ file.length := by simp at hc; omega
 have e1 : IntKind.i64.wrap ((file.length : Int) - 8) = ((file.length - 8 : Nat) : Int) := by rw [qt (by unfold I64; omega)]; omega
 have hb : wSeed file = numOf (file.drop (file.length - 8)) := by unfold wSeed; rw [if_neg (by omega)]
 have hd : (file.drop (file.length - 8)).length = 8 := by rw [List.length_drop]; omega
 generalize hs : file.drop (file.length - 8) = s at hb hd
 have e2 : s.take (file.length - (file.length - 8)) = s := List.take_of_length_le (by omega)
 try (refine ev6 @e1 @qw @qp @hs @e2 @hb ?_; try exact True.intro)
 (repeat (with_reducible refine ob ?_))
 refine qm (Sseed s) (fun i => s.length - i.val) ⟨0, Nat.zero_le _⟩ ?_ (fun i => ?_)
 ·try (refine ev2 @Sseed.eq_1 @List.take_zero.{0} ?_; try exact True.intro)
  simp [numOf]
 obtain ⟨i, hi⟩ := i
 try (refine ev1 @Sseed.eq_1 ?_; try exact True.intro)
 (repeat (with_reducible refine ob ?_)); refine xf _ (fun h => ?_) (fun h => ?_)
 ·have hil : i < s.length := by simpa using h
  have hlt : numOf (s.take i) < 72057594037927936 := by
   have := qf5 i (s.take i) (by rw [List.length_take]; omega)
   have h7 : 256 ^ i ≤ 256 ^ 7 := Nat.pow_le_pow_right (by decide) (by omega)
   have : (256 : Nat) ^ 7 = 72057594037927936 := by decide
   omega
  try (refine ev1 (ql s hil) ?_; try exact True.intro)
  (repeat (with_reducible refine ob ?_))
  try simp only [qpz _ _ hlt (zf s[i]), go_sem, Nat.reduceAdd, Nat.reduceMul, Nat.reduceSub, Nat.reduceEqDiff, Nat.reduceLT, Nat.reduceLeDiff, Nat.reduceBEq, reduceIte, reduceCtorEq, Int.reduceAdd, Int.reduceLT, Int.reduceLE, Int.reduceGT, Int.reduceGE, Int.reduceEq, Int.reduceNe, Int.reduceBEq, Int.reduceBNe, Int.reduceToNat, Int.reduceNeg]
  refine ⟨⟨i + 1, hil⟩, ?_, by dsimp only; omega⟩
  try (refine ev4 @Sseed.eq_1 (qk (show i < 9223372036854775807 by omega)) (List.take_succ_eq_append_getElem hil) @qel ?_; try exact True.intro)
 ·have hie : i = s.length := by simp at h; omega
  subst hie
  try (refine ev1 @List.take_length.{0} ?_; try exact True.intro)
end Go.Proofs.YtinnaedmdoengaaGreat
