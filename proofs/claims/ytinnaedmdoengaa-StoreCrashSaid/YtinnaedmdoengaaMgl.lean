/- Texts Ca, Wa, Cb, Wb, Wc. -/
import Derived.Test.YtinnaedmdoengaaMgk
import Derived.Calls
import Derived.Orders
import Derived.Tactics
import Derived.Laws.AppendOwn
import Derived.Laws.Slices
import Derived.Laws.Closers25
import Derived.Laws.StructEq
import Derived.Laws.BytesString
import Derived.Laws.CopyRow
import Derived.MapKept
import Derived.Maps.RangeRun
import Derived.TacticsIn
import Derived.OrdersIn
import Derived.RangeFuncRecord
import Derived.RangeFuncLeaves
import Derived.IntWalk
import Derived.ProofKit
import Derived.OpenShut
import Derived.Carry
import Derived.Test.YtinnaedmdoengaaProg
import Derived.KernelRfl

namespace Go.Proofs.Ytinnaedmdoengaa
open Go.Abs
set_option linter.unusedSimpArgs false
def news : List (FuncId × Nat) := [(93, 1), (61, 1), (12, 2), (37, 2), (13, 1), (40, 1), (29, 2)]
theorem follows : Try.prog.follows .mixedOrders = true := by kernel_rfl
structure AV where
 kind : Int
 n : Int
 s : List UInt8
 deriving DecidableEq, Inhabited
def encAV (v : AV) : List D := [.int .i64 v.kind, .int .i64 v.n, .str v.s]
theorem zd (v : AV) : D.noPtrL (encAV v) = true := rfl
def encI (n : Int) : List D := [.int .i64 n]
theorem zy (n : Int) : D.noPtrL (encI n) = true := rfl
structure Pk where
 kind : Int
 sess : Int
 epoch : Int
 from_ : Int
 to : Int
 seq : Int
 label : Int
 values : List AV
 clock : List Int
 deriving DecidableEq, Inhabited
def encPk (p : Pk) : List D := [.int .i64 p.kind, .int .i64 p.sess, .int .i64 p.epoch, .int .i64 p.from_, .int .i64 p.to, .int .i64 p.seq, .int .i64 p.label, .sl 3 (p.values.map encAV), .sl 1 (p.clock.map encI)]
theorem yg (p : Pk) : D.noPtrL (encPk p) = true := by
 simp only [encPk, D.noPtrL, D.noPtr, qo zd, qo zy, Bool.and_self]
theorem qqs (l : List AV) : D.noPtrR (l.map encAV) = true := qo zd l
theorem qt4 (l : List Int) : D.noPtrR (l.map encI) = true := qo zy l
theorem qqt (l : List Pk) : D.noPtrR (l.map encPk) = true := qo yg l
attribute [go_sem] zd zy yg qqs qt4 qqt
noncomputable section
set_option maxRecDepth 100000
def s165r0 : List SOper := [
 ⟨some 2, .mov (.k (.d (.bool false))), none⟩]
def s165r1 : List SOper := [
 ⟨some 3, .mov (.t 0), none⟩,
 ⟨some 4, .bin .geq (.t 3) (.k (.d (.int .i64 0))), none⟩,
 ⟨some 5, .mov (.t 4), none⟩,
 ⟨some 6, .mov (.t 0), some (5, true)⟩,
 ⟨some 7, .bin .lss (.t 6) (.k (.d (.int .i64 6))), some (5, true)⟩,
 ⟨some 8, .pick (.t 5) (.t 7) (.k (.d (.bool false))), none⟩,
 ⟨some 2, .mov (.t 8), none⟩]
def s165 : SCode := (.seq (.region s165r0 0 []) (.seq (.region s165r1 0 []) .ret))
theorem xhi : CodeIs s165.eq_1 := qc s165.eq_1
theorem qyp : RegIs s165r0.eq_1 := qa
theorem qyq : RegIs s165r1.eq_1 := qa
attribute [go_sem] qyp qyq xhi
theorem qyr : FnIs Try.prog 165 Try.f165 [] news s165 [.tmp 2] 9 := xe follows Try.func165
def s161r0 : List SOper := [
 ⟨some 1, .box 1 (.t 0), none⟩,
 ⟨some 2, .mov (.k (.d (.bool false))), none⟩]
def s161r1 : List SOper := [
 ⟨some 3, .faddr 0 (.t 1), none⟩,
 ⟨some 4, .load none (.t 3), none⟩]
def s161r2 : List SOper := [
 ⟨some 6, .bin .eql (.t 4) (.k (.d (.int .i64 1))), none⟩,
 ⟨some 5, .mov (.t 6), none⟩]
def s161r3 : List SOper := [
 ⟨some 7, .faddr 2 (.t 1), none⟩,
 ⟨some 8, .load none (.t 7), none⟩,
 ⟨some 9, .bin .eql (.t 8) (.k (.d (.str []))), none⟩,
 ⟨some 2, .mov (.t 9), none⟩]
def s161r4 : List SOper := [
 ⟨some 11, .bin .eql (.t 4) (.k (.d (.int .i64 2))), none⟩,
 ⟨some 10, .mov (.t 11), none⟩]
def s161r5 : List SOper := [
 ⟨some 12, .faddr 1 (.t 1), none⟩,
 ⟨some 13, .load none (.t 12), none⟩,
 ⟨some 14, .bin .eql (.t 13) (.k (.d (.int .i64 0))), none⟩,
 ⟨some 15, .mov (.t 14), none⟩,
 ⟨some 16, .faddr 2 (.t 1), some (15, true)⟩,
 ⟨some 17, .load none (.t 16), some (15, true)⟩,
 ⟨some 18, .lenS (.t 17), some (15, true)⟩,
 ⟨some 19, .bin .leq (.t 18) (.k (.d (.int .i64 40))), some (15, true)⟩,
 ⟨some 20, .pick (.t 15) (.t 19) (.k (.d (.bool false))), none⟩,
 ⟨some 2, .mov (.t 20), none⟩]
def s161r6 : List SOper := [
 ⟨some 2, .mov (.k (.d (.bool false))), none⟩]
def s161 : SCode := (.seq (.region s161r0 1 []) (.seq (.seq (.region s161r1 0 []) (.block 0 (.seq (.region s161r2 0 []) (.cond (.t 5) (.seq (.region s161r3 0 []) .ret) (.seq (.region s161r4 0 []) (.cond (.t 10) (.seq (.region s161r5 0 []) .ret) .skip)))))) (.seq (.region s161r6 0 []) .ret)))
theorem xhj : CodeIs s161.eq_1 := qc s161.eq_1
theorem qys : RegIs s161r0.eq_1 := qa
theorem qyt : RegIs s161r1.eq_1 := qa
theorem qyu : RegIs s161r2.eq_1 := qa
theorem qyv : RegIs s161r3.eq_1 := qa
theorem qyw : RegIs s161r4.eq_1 := qa
theorem qyx : RegIs s161r5.eq_1 := qa
theorem qyy : RegIs s161r6.eq_1 := qa
attribute [go_sem] qys qyt qyu qyv qyw qyx qyy xhj
theorem q7t : FnIs Try.prog 161 Try.f161 [] news s161 [.tmp 2] 21 := xe follows Try.func161
def s158r0 : List SOper := [
 ⟨some 1, .box 1 (.t 0), none⟩,
 ⟨some 2, .mov (.k (.d (.bool false))), none⟩]
def s158r1 : List SOper := [
 ⟨some 3, .faddr 3 (.t 1), none⟩,
 ⟨some 4, .load none (.t 3), none⟩,
 ⟨some 5, .call (.k (.d (.func (.func 165) [] []))) [(.t 4)], none⟩,
 ⟨some 6, .mov (.t 5), none⟩,
 ⟨some 7, .faddr 4 (.t 1), some (6, true)⟩,
 ⟨some 8, .load none (.t 7), some (6, true)⟩,
 ⟨some 9, .call (.k (.d (.func (.func 165) [] []))) [(.t 8)], some (6, true)⟩,
 ⟨some 10, .pick (.t 6) (.t 9) (.k (.d (.bool false))), none⟩,
 ⟨some 11, .mov (.t 10), none⟩,
 ⟨some 12, .faddr 3 (.t 1), some (11, true)⟩,
 ⟨some 13, .load none (.t 12), some (11, true)⟩,
 ⟨some 14, .faddr 4 (.t 1), some (11, true)⟩,
 ⟨some 15, .load none (.t 14), some (11, true)⟩,
 ⟨some 16, .bin .neq (.t 13) (.t 15), some (11, true)⟩,
 ⟨some 17, .pick (.t 11) (.t 16) (.k (.d (.bool false))), none⟩,
 ⟨some 18, .mov (.t 17), none⟩,
 ⟨some 19, .faddr 5 (.t 1), some (18, true)⟩,
 ⟨some 20, .load none (.t 19), some (18, true)⟩,
 ⟨some 21, .bin .geq (.t 20) (.k (.d (.int .i64 1))), some (18, true)⟩,
 ⟨some 22, .pick (.t 18) (.t 21) (.k (.d (.bool false))), none⟩,
 ⟨some 23, .mov (.t 22), none⟩,
 ⟨some 24, .faddr 5 (.t 1), some (23, true)⟩,
 ⟨some 25, .load none (.t 24), some (23, true)⟩,
 ⟨some 26, .bin .leq (.t 25) (.k (.d (.int .i64 1099511627776))), some (23, true)⟩,
 ⟨some 27, .pick (.t 23) (.t 26) (.k (.d (.bool false))), none⟩,
 ⟨some 2, .mov (.t 27), none⟩]
def s158 : SCode := (.seq (.region s158r0 1 []) (.seq (.region s158r1 0 []) .ret))
theorem xhk : CodeIs s158.eq_1 := qc s158.eq_1
theorem qyz : RegIs s158r0.eq_1 := qa
theorem qy0 : RegIs s158r1.eq_1 := qa
attribute [go_sem] qyz qy0 xhk
theorem q68 : FnIs Try.prog 158 Try.f158 [] news s158 [.tmp 2] 28 := xe follows Try.func158
def s164r0 : List SOper := [
 ⟨some 1, .box 1 (.t 0), none⟩,
 ⟨some 2, .mov (.k (.d (.bool false))), none⟩]
def s164r1 : List SOper := [
 ⟨some 3, .faddr 2 (.t 1), none⟩,
 ⟨some 4, .load none (.t 3), none⟩,
 ⟨some 5, .bin .eql (.t 4) (.k (.d (.int .i64 0))), none⟩,
 ⟨some 6, .mov (.t 5), none⟩,
 ⟨some 7, .faddr 7 (.t 1), some (6, true)⟩,
 ⟨some 8, .load none (.t 7), some (6, true)⟩,
 ⟨some 9, .len (.t 8), some (6, true)⟩,
 ⟨some 10, .bin .eql (.t 9) (.k (.d (.int .i64 0))), some (6, true)⟩,
 ⟨some 11, .pick (.t 6) (.t 10) (.k (.d (.bool false))), none⟩,
 ⟨some 12, .mov (.t 11), none⟩,
 ⟨some 13, .faddr 8 (.t 1), some (12, true)⟩,
 ⟨some 14, .load none (.t 13), some (12, true)⟩,
 ⟨some 15, .len (.t 14), some (12, true)⟩,
 ⟨some 16, .bin .eql (.t 15) (.k (.d (.int .i64 0))), some (12, true)⟩,
 ⟨some 17, .pick (.t 12) (.t 16) (.k (.d (.bool false))), none⟩,
 ⟨some 2, .mov (.t 17), none⟩]
def s164 : SCode := (.seq (.region s164r0 1 []) (.seq (.region s164r1 0 []) .ret))
theorem xhl : CodeIs s164.eq_1 := qc s164.eq_1
theorem qy1 : RegIs s164r0.eq_1 := qa
theorem qy2 : RegIs s164r1.eq_1 := qa
attribute [go_sem] qy1 qy2 xhl
theorem q69 : FnIs Try.prog 164 Try.f164 [] news s164 [.tmp 2] 18 := xe follows Try.func164
def s136r0 : List SOper := [
 ⟨some 1, .box 1 (.t 0), none⟩,
 ⟨some 2, .mov (.k (.d (.bool false))), none⟩]
def s136r1 : List SOper := [
 ⟨some 3, .load (some 9) (.t 1), none⟩,
 ⟨some 4, .call (.k (.d (.func (.func 158) [] []))) [(.t 3)], none⟩,
 ⟨some 5, .mov (.t 4), none⟩,
 ⟨some 6, .load (some 9) (.t 1), some (5, true)⟩,
 ⟨some 7, .call (.k (.d (.func (.func 164) [] []))) [(.t 6)], some (5, true)⟩,
 ⟨some 8, .pick (.t 5) (.t 7) (.k (.d (.bool false))), none⟩,
 ⟨some 9, .mov (.t 8), none⟩,
 ⟨some 10, .faddr 6 (.t 1), some (9, true)⟩,
 ⟨some 11, .load none (.t 10), some (9, true)⟩,
 ⟨some 12, .bin .eql (.t 11) (.k (.d (.int .i64 0))), some (9, true)⟩,
 ⟨some 13, .pick (.t 9) (.t 12) (.k (.d (.bool false))), none⟩,
 ⟨some 2, .mov (.t 13), none⟩]
def s136 : SCode := (.seq (.region s136r0 1 []) (.seq (.region s136r1 0 []) .ret))
theorem xhm : CodeIs s136.eq_1 := qc s136.eq_1
theorem qy3 : RegIs s136r0.eq_1 := qa
theorem qy4 : RegIs s136r1.eq_1 := qa
attribute [go_sem] qy3 qy4 xhm
theorem q7u : FnIs Try.prog 136 Try.f136 [] news s136 [.tmp 2] 14 := xe follows Try.func136
def s137r0 : List SOper := [
 ⟨some 1, .box 1 (.t 0), none⟩,
 ⟨some 2, .mov (.k (.d (.bool false))), none⟩]
def s137r1 : List SOper := [
 ⟨some 3, .faddr 3 (.t 1), none⟩,
 ⟨some 4, .load none (.t 3), none⟩,
 ⟨some 5, .call (.k (.d (.func (.func 165) [] []))) [(.t 4)], none⟩,
 ⟨some 6, .mov (.t 5), none⟩,
 ⟨some 7, .faddr 6 (.t 1), some (6, true)⟩,
 ⟨some 8, .load none (.t 7), some (6, true)⟩,
 ⟨some 9, .bin .eql (.t 8) (.k (.d (.int .i64 1))), some (6, true)⟩,
 ⟨some 10, .mov (.t 9), some (6, true)⟩,
 ⟨some 11, .faddr 6 (.t 1), some (10, false)⟩,
 ⟨some 12, .load none (.t 11), some (10, false)⟩,
 ⟨some 13, .bin .eql (.t 12) (.k (.d (.int .i64 2))), some (10, false)⟩,
 ⟨some 14, .pick (.t 10) (.k (.d (.bool true))) (.t 13), some (6, true)⟩,
 ⟨some 15, .pick (.t 6) (.t 14) (.k (.d (.bool false))), none⟩,
 ⟨some 16, .mov (.t 15), none⟩,
 ⟨some 17, .load (some 9) (.t 1), some (16, true)⟩,
 ⟨some 18, .call (.k (.d (.func (.func 164) [] []))) [(.t 17)], some (16, true)⟩,
 ⟨some 19, .pick (.t 16) (.t 18) (.k (.d (.bool false))), none⟩,
 ⟨some 20, .mov (.t 19), none⟩,
 ⟨some 21, .faddr 4 (.t 1), some (20, true)⟩,
 ⟨some 22, .load none (.t 21), some (20, true)⟩,
 ⟨some 23, .bin .eql (.t 22) (.k (.d (.int .i64 0))), some (20, true)⟩,
 ⟨some 24, .pick (.t 20) (.t 23) (.k (.d (.bool false))), none⟩,
 ⟨some 25, .mov (.t 24), none⟩,
 ⟨some 26, .faddr 5 (.t 1), some (25, true)⟩,
 ⟨some 27, .load none (.t 26), some (25, true)⟩,
 ⟨some 28, .bin .eql (.t 27) (.k (.d (.int .i64 0))), some (25, true)⟩,
 ⟨some 29, .pick (.t 25) (.t 28) (.k (.d (.bool false))), none⟩,
 ⟨some 2, .mov (.t 29), none⟩]
def s137 : SCode := (.seq (.region s137r0 1 []) (.seq (.region s137r1 0 []) .ret))
theorem xhn : CodeIs s137.eq_1 := qc s137.eq_1
theorem qy5 : RegIs s137r0.eq_1 := qa
theorem qy6 : RegIs s137r1.eq_1 := qa
attribute [go_sem] qy5 qy6 xhn
theorem q7a : FnIs Try.prog 137 Try.f137 [] news s137 [.tmp 2] 30 := xe follows Try.func137
def s160r0 : List SOper := [
 ⟨some 1, .box 1 (.t 0), none⟩,
 ⟨some 2, .mov (.k (.d (.bool false))), none⟩]
def s160r1 : List SOper := [
 ⟨some 3, .load (some 3) (.t 1), none⟩,
 ⟨some 4, .call (.k (.d (.func (.func 161) [] []))) [(.t 3)], none⟩,
 ⟨some 5, .not (.t 4), none⟩,
 ⟨some 2, .mov (.t 5), none⟩]
def s160 : SCode := (.seq (.region s160r0 1 []) (.seq (.region s160r1 0 []) .ret))
theorem xho : CodeIs s160.eq_1 := qc s160.eq_1
theorem qy7 : RegIs s160r0.eq_1 := qa
theorem qy8 : RegIs s160r1.eq_1 := qa
attribute [go_sem] qy7 qy8 xho
theorem q7v : FnIs Try.prog 160 Try.f160 [] news s160 [.tmp 2] 6 := xe follows Try.func160
def s163r0 : List SOper := [
 ⟨some 2, .mov (.k (.d (.bool false))), none⟩]
def s163r1 : List SOper := [
 ⟨some 3, .mov (.t 0), none⟩,
 ⟨some 4, .bin .lss (.t 3) (.k (.d (.int .i64 0))), none⟩,
 ⟨some 5, .mov (.t 4), none⟩,
 ⟨some 6, .mov (.t 0), some (5, false)⟩,
 ⟨some 7, .bin .gtr (.t 6) (.k (.d (.int .i64 1099511627776))), some (5, false)⟩,
 ⟨some 8, .pick (.t 5) (.k (.d (.bool true))) (.t 7), none⟩,
 ⟨some 2, .mov (.t 8), none⟩]
def s163 : SCode := (.seq (.region s163r0 0 []) (.seq (.region s163r1 0 []) .ret))
theorem xhp : CodeIs s163.eq_1 := qc s163.eq_1
theorem qy9 : RegIs s163r0.eq_1 := qa
theorem qza : RegIs s163r1.eq_1 := qa
attribute [go_sem] qy9 qza xhp
theorem q7w : FnIs Try.prog 163 Try.f163 [] news s163 [.tmp 2] 9 := xe follows Try.func163
end
def role (n : Int) : Bool := decide (n ≥ 0) && decide (n < 6)
theorem qlc (n : Int) : ACall Try.prog 165 [.d (.int .i64 n)] [] (.d (.bool (role n))) [] := by
 first | refine qyr.go ?_ | refine qyr.goT ?_
 simp only [go_sem, Nat.reduceAdd, Nat.reduceMul, Nat.reduceSub, Nat.reduceEqDiff, Nat.reduceLT, Nat.reduceLeDiff, Nat.reduceBEq, reduceIte, reduceCtorEq, Int.reduceAdd, Int.reduceLT, Int.reduceLE, Int.reduceGT, Int.reduceGE, Int.reduceEq, Int.reduceNe, Int.reduceBEq, Int.reduceBNe, Int.reduceToNat, Int.reduceNeg]
 rfl
def proper (v : AV) : Bool := if v.kind == 1 then v.s == [] else if v.kind == 2 then v.n == 0 && decide ((v.s.length : Int) ≤ 40) else false
theorem qqu (v : AV) : ACall Try.prog 161 [.d (.agg (encAV v))] [] (.d (.bool (proper v))) [] := by
 first | refine q7t.go ?_ | refine q7t.goT ?_
 simp only [encAV, go_sem, Nat.reduceAdd, Nat.reduceMul, Nat.reduceSub, Nat.reduceEqDiff, Nat.reduceLT, Nat.reduceLeDiff, Nat.reduceBEq, reduceIte, reduceCtorEq, Int.reduceAdd, Int.reduceLT, Int.reduceLE, Int.reduceGT, Int.reduceGE, Int.reduceEq, Int.reduceNe, Int.reduceBEq, Int.reduceBNe, Int.reduceToNat, Int.reduceNeg]
 refine jk _ rfl rfl (fun h => ?_) (fun h => ?_)
 ·simp only [proper, h, go_sem, Nat.reduceAdd, Nat.reduceMul, Nat.reduceSub, Nat.reduceEqDiff, Nat.reduceLT, Nat.reduceLeDiff, Nat.reduceBEq, reduceIte, reduceCtorEq, Int.reduceAdd, Int.reduceLT, Int.reduceLE, Int.reduceGT, Int.reduceGE, Int.reduceEq, Int.reduceNe, Int.reduceBEq, Int.reduceBNe, Int.reduceToNat, Int.reduceNeg]
 ·simp only [go_sem, Nat.reduceAdd, Nat.reduceMul, Nat.reduceSub, Nat.reduceEqDiff, Nat.reduceLT, Nat.reduceLeDiff, Nat.reduceBEq, reduceIte, reduceCtorEq, Int.reduceAdd, Int.reduceLT, Int.reduceLE, Int.reduceGT, Int.reduceGE, Int.reduceEq, Int.reduceNe, Int.reduceBEq, Int.reduceBNe, Int.reduceToNat, Int.reduceNeg]
  refine jk _ rfl rfl (fun h2 => ?_) (fun h2 => ?_)
  ·simp only [proper, h, h2, go_sem, Nat.reduceAdd, Nat.reduceMul, Nat.reduceSub, Nat.reduceEqDiff, Nat.reduceLT, Nat.reduceLeDiff, Nat.reduceBEq, reduceIte, reduceCtorEq, Int.reduceAdd, Int.reduceLT, Int.reduceLE, Int.reduceGT, Int.reduceGE, Int.reduceEq, Int.reduceNe, Int.reduceBEq, Int.reduceBNe, Int.reduceToNat, Int.reduceNeg]
  ·simp only [proper, h, h2, go_sem, Nat.reduceAdd, Nat.reduceMul, Nat.reduceSub, Nat.reduceEqDiff, Nat.reduceLT, Nat.reduceLeDiff, Nat.reduceBEq, reduceIte, reduceCtorEq, Int.reduceAdd, Int.reduceLT, Int.reduceLE, Int.reduceGT, Int.reduceGE, Int.reduceEq, Int.reduceNe, Int.reduceBEq, Int.reduceBNe, Int.reduceToNat, Int.reduceNeg]
def numbered (p : Pk) : Bool := role p.from_ && role p.to && p.from_ != p.to && decide (p.seq ≥ 1) && decide (p.seq ≤ 1099511627776)
theorem qc6 (p : Pk) : ACall Try.prog 158 [.d (.agg (encPk p))] [] (.d (.bool (numbered p))) [] := by
 first | refine q68.go ?_ | refine q68.goT ?_
 simp only [encPk, go_sem, Nat.reduceAdd, Nat.reduceMul, Nat.reduceSub, Nat.reduceEqDiff, Nat.reduceLT, Nat.reduceLeDiff, Nat.reduceBEq, reduceIte, reduceCtorEq, Int.reduceAdd, Int.reduceLT, Int.reduceLE, Int.reduceGT, Int.reduceGE, Int.reduceEq, Int.reduceNe, Int.reduceBEq, Int.reduceBNe, Int.reduceToNat, Int.reduceNeg]
 refine qm (qlc _) qyr.body (fun h => h) (fun _ => ⟨qb, trivial⟩) rfl rfl rfl ?_
 simp only [go_sem, Nat.reduceAdd, Nat.reduceMul, Nat.reduceSub, Nat.reduceEqDiff, Nat.reduceLT, Nat.reduceLeDiff, Nat.reduceBEq, reduceIte, reduceCtorEq, Int.reduceAdd, Int.reduceLT, Int.reduceLE, Int.reduceGT, Int.reduceGE, Int.reduceEq, Int.reduceNe, Int.reduceBEq, Int.reduceBNe, Int.reduceToNat, Int.reduceNeg]
 refine qm (qlc _) qyr.body (fun h => h) (fun _ => ⟨qb, trivial⟩) rfl rfl rfl ?_
 simp only [go_sem, Nat.reduceAdd, Nat.reduceMul, Nat.reduceSub, Nat.reduceEqDiff, Nat.reduceLT, Nat.reduceLeDiff, Nat.reduceBEq, reduceIte, reduceCtorEq, Int.reduceAdd, Int.reduceLT, Int.reduceLE, Int.reduceGT, Int.reduceGE, Int.reduceEq, Int.reduceNe, Int.reduceBEq, Int.reduceBNe, Int.reduceToNat, Int.reduceNeg]
 rfl
def bare (p : Pk) : Bool := p.epoch == 0 && (p.values.length : Int) == 0 && (p.clock.length : Int) == 0
theorem qqv (p : Pk) : ACall Try.prog 164 [.d (.agg (encPk p))] [] (.d (.bool (bare p))) [] := by
 first | refine q69.go ?_ | refine q69.goT ?_
 simp only [encPk, go_sem, Nat.reduceAdd, Nat.reduceMul, Nat.reduceSub, Nat.reduceEqDiff, Nat.reduceLT, Nat.reduceLeDiff, Nat.reduceBEq, reduceIte, reduceCtorEq, Int.reduceAdd, Int.reduceLT, Int.reduceLE, Int.reduceGT, Int.reduceGE, Int.reduceEq, Int.reduceNe, Int.reduceBEq, Int.reduceBNe, Int.reduceToNat, Int.reduceNeg]
 rfl
theorem kg (p : Pk) : ([ASlot.d (.agg (encPk p))].all ASlot.noPtr) = true := by
 simp only [List.all_cons, List.all_nil, ASlot.noPtr, D.noPtr, yg, Bool.and_self]
def ack (p : Pk) : Bool := numbered p && bare p && p.label == 0
theorem qzb (p : Pk) : ACall Try.prog 136 [.d (.agg (encPk p))] [] (.d (.bool (ack p))) [] := by
 first | refine q7u.go ?_ | refine q7u.goT ?_
 simp only [encPk, go_sem, Nat.reduceAdd, Nat.reduceMul, Nat.reduceSub, Nat.reduceEqDiff, Nat.reduceLT, Nat.reduceLeDiff, Nat.reduceBEq, reduceIte, reduceCtorEq, Int.reduceAdd, Int.reduceLT, Int.reduceLE, Int.reduceGT, Int.reduceGE, Int.reduceEq, Int.reduceNe, Int.reduceBEq, Int.reduceBNe, Int.reduceToNat, Int.reduceNeg]
 refine qm (qc6 p) q68.body (fun h => h) (fun _ => ⟨qb, trivial⟩) (kg p) rfl rfl ?_
 simp only [go_sem, Nat.reduceAdd, Nat.reduceMul, Nat.reduceSub, Nat.reduceEqDiff, Nat.reduceLT, Nat.reduceLeDiff, Nat.reduceBEq, reduceIte, reduceCtorEq, Int.reduceAdd, Int.reduceLT, Int.reduceLE, Int.reduceGT, Int.reduceGE, Int.reduceEq, Int.reduceNe, Int.reduceBEq, Int.reduceBNe, Int.reduceToNat, Int.reduceNeg]
 refine qm (qqv p) q69.body (fun h => h) (fun _ => ⟨qb, trivial⟩) (kg p) rfl rfl ?_
 simp only [go_sem, Nat.reduceAdd, Nat.reduceMul, Nat.reduceSub, Nat.reduceEqDiff, Nat.reduceLT, Nat.reduceLeDiff, Nat.reduceBEq, reduceIte, reduceCtorEq, Int.reduceAdd, Int.reduceLT, Int.reduceLE, Int.reduceGT, Int.reduceGE, Int.reduceEq, Int.reduceNe, Int.reduceBEq, Int.reduceBNe, Int.reduceToNat, Int.reduceNeg]
 rfl
def order (p : Pk) : Bool := role p.from_ && (p.label == 1 || p.label == 2) && bare p && p.to == 0 && p.seq == 0
theorem qmh (p : Pk) : ACall Try.prog 137 [.d (.agg (encPk p))] [] (.d (.bool (order p))) [] := by
 first | refine q7a.go ?_ | refine q7a.goT ?_
 simp only [encPk, go_sem, Nat.reduceAdd, Nat.reduceMul, Nat.reduceSub, Nat.reduceEqDiff, Nat.reduceLT, Nat.reduceLeDiff, Nat.reduceBEq, reduceIte, reduceCtorEq, Int.reduceAdd, Int.reduceLT, Int.reduceLE, Int.reduceGT, Int.reduceGE, Int.reduceEq, Int.reduceNe, Int.reduceBEq, Int.reduceBNe, Int.reduceToNat, Int.reduceNeg]
 refine qm (qlc _) qyr.body (fun h => h) (fun _ => ⟨qb, trivial⟩) rfl rfl rfl ?_
 simp only [go_sem, Nat.reduceAdd, Nat.reduceMul, Nat.reduceSub, Nat.reduceEqDiff, Nat.reduceLT, Nat.reduceLeDiff, Nat.reduceBEq, reduceIte, reduceCtorEq, Int.reduceAdd, Int.reduceLT, Int.reduceLE, Int.reduceGT, Int.reduceGE, Int.reduceEq, Int.reduceNe, Int.reduceBEq, Int.reduceBNe, Int.reduceToNat, Int.reduceNeg]
 refine ⟨by simp_all, ?_⟩
 refine qm (qqv p) q69.body (fun h => h) (fun _ => ⟨qb, trivial⟩) (kg p) rfl rfl ?_
 simp only [go_sem, Nat.reduceAdd, Nat.reduceMul, Nat.reduceSub, Nat.reduceEqDiff, Nat.reduceLT, Nat.reduceLeDiff, Nat.reduceBEq, reduceIte, reduceCtorEq, Int.reduceAdd, Int.reduceLT, Int.reduceLE, Int.reduceGT, Int.reduceGE, Int.reduceEq, Int.reduceNe, Int.reduceBEq, Int.reduceBNe, Int.reduceToNat, Int.reduceNeg]
 rfl
theorem qt5 (v : AV) : ACall Try.prog 160 [.d (.agg (encAV v))] [] (.d (.bool (!proper v))) [] := by
 first | refine q7v.go ?_ | refine q7v.goT ?_
 simp only [encAV, go_sem, Nat.reduceAdd, Nat.reduceMul, Nat.reduceSub, Nat.reduceEqDiff, Nat.reduceLT, Nat.reduceLeDiff, Nat.reduceBEq, reduceIte, reduceCtorEq, Int.reduceAdd, Int.reduceLT, Int.reduceLE, Int.reduceGT, Int.reduceGE, Int.reduceEq, Int.reduceNe, Int.reduceBEq, Int.reduceBNe, Int.reduceToNat, Int.reduceNeg]
 refine qm (qqu v) q7t.body (fun h => h) (fun _ => ⟨qb, trivial⟩) rfl rfl rfl ?_
 simp only [go_sem, Nat.reduceAdd, Nat.reduceMul, Nat.reduceSub, Nat.reduceEqDiff, Nat.reduceLT, Nat.reduceLeDiff, Nat.reduceBEq, reduceIte, reduceCtorEq, Int.reduceAdd, Int.reduceLT, Int.reduceLE, Int.reduceGT, Int.reduceGE, Int.reduceEq, Int.reduceNe, Int.reduceBEq, Int.reduceBNe, Int.reduceToNat, Int.reduceNeg]
theorem qt6 (n : Int) : ACall Try.prog 163 [.d (.int .i64 n)] [] (.d (.bool (decide (n < 0) || decide (n > 1099511627776)))) [] := by
 first | refine q7w.go ?_ | refine q7w.goT ?_
 simp only [go_sem, Nat.reduceAdd, Nat.reduceMul, Nat.reduceSub, Nat.reduceEqDiff, Nat.reduceLT, Nat.reduceLeDiff, Nat.reduceBEq, reduceIte, reduceCtorEq, Int.reduceAdd, Int.reduceLT, Int.reduceLE, Int.reduceGT, Int.reduceGE, Int.reduceEq, Int.reduceNe, Int.reduceBEq, Int.reduceBNe, Int.reduceToNat, Int.reduceNeg]
 intro h
 rw [h]; rfl
end Go.Proofs.Ytinnaedmdoengaa
namespace Go.Proofs.Ytinnaedmdoengaa
open Go.Abs
set_option linter.unusedSimpArgs false
theorem xw (s : List UInt8) : D.noPtrR (byteRows s) = true := qo (fun _ => rfl) s
theorem qn (s t : List UInt8) : byteRows s ++ byteRows t = byteRows (s ++ t) := by simp [byteRows]
theorem zg (c : UInt8) : [[D.int .u8 (c.toNat : Int)]] = byteRows [c] := rfl
theorem qz (s : List UInt8) : (byteRows s).length = s.length := by simp [byteRows]
theorem qk : byteRows [] = [] := rfl
attribute [go_sem] xw qz
attribute [go_sem] qk
def vbytes (u : Nat) : List UInt8 := if u < 128 then [UInt8.ofNat u] else UInt8.ofNat (u % 128 + 128) :: vbytes (u / 128)
def zz (n : Int) : Nat := if 0 ≤ n then (2 * n).toNat else (-2 * n - 1).toNat
def wInt (n : Int) : List UInt8 := vbytes (zz n)
def I64 (n : Int) : Prop := -9223372036854775808 ≤ n ∧ n ≤ 9223372036854775807
theorem qe5 : ∀ (k u : Nat), u < 128 ^ (k + 1) → (vbytes u).length ≤ k + 1
 | 0, u, h => by rw [vbytes, if_pos (by simpa using h)]; simp
 | k + 1, u, h => by
  rw [vbytes]
  split
  ·simp
  ·have := qe5 k (u / 128) (by rw [Nat.div_lt_iff_lt_mul (by decide)]; rw [Nat.pow_succ] at h; exact h)
   simp; omega
theorem qt7 {n : Int} (h : I64 n) : zz n < 18446744073709551616 := by
 obtain ⟨h1, h2⟩ := h
 unfold zz; split <;> omega
theorem zp {n : Int} (h : I64 n) : (wInt n).length ≤ 10 := qe5 9 _ (Nat.lt_of_lt_of_le (qt7 h) (by decide))
theorem q7b (n : Int) : 0 < (wInt n).length := by unfold wInt; rw [vbytes]; split <;> simp
theorem q7c {n : Int} (h0 : 0 ≤ n) (h1 : n < 18446744073709551616) : IntKind.u64.wrap n = n := by simp [IntKind.wrap, IntKind.bits, IntKind.signed]; omega
theorem qc7 (n : Int) : IntKind.u8.wrap n = n % 256 := by simp [IntKind.wrap, IntKind.bits, IntKind.signed]
theorem ww (a : Nat) (h : a < 2 ^ 64) : ((BitVec.ofInt 64 (a : Int)) ^^^ (BitVec.ofInt 64 18446744073709551615)).toNat = 18446744073709551615 - a := by
 have e1 : BitVec.ofInt 64 18446744073709551615 = BitVec.allOnes 64 := by decide
 have e2 : BitVec.ofInt 64 (a : Int) = BitVec.ofNat 64 a := by simp
 rw [e1, e2, BitVec.xor_allOnes, BitVec.toNat_not, BitVec.toNat_ofNat, Nat.mod_eq_of_lt h]
theorem q7x {n : Int} (h : I64 n) : IntKind.u64.wrap (bvXor 64 (IntKind.u64.wrap (IntKind.u64.wrap n * 2 ^ min 1 64)) (IntKind.u64.wrap (n.fdiv (2 ^ min 63 64)))) = (zz n : Int) := by
 unfold bvXor
 obtain ⟨h1, h2⟩ := h
 have hf : n.fdiv (2 ^ min 63 64) = if 0 ≤ n then 0 else -1 := by
  show n.fdiv 9223372036854775808 = _
  rw [Int.fdiv_eq_ediv_of_nonneg _ (by decide)]
  split <;> omega
 have hw : ∀ m : Int, IntKind.u64.wrap m = m % 18446744073709551616 := fun m => by simp [IntKind.wrap, IntKind.bits, IntKind.signed]
 have hz := qt7 ⟨h1, h2⟩
 have hp : (2 : Int) ^ min 1 64 = 2 := rfl
 rw [hf, hp]
 by_cases hn : 0 ≤ n
 ·rw [if_pos hn]
  have e0 : BitVec.ofInt 64 (IntKind.u64.wrap 0) = 0#64 := by rw [hw]; rfl
  have e1 : IntKind.u64.wrap (IntKind.u64.wrap n * 2) = ((zz n : Nat) : Int) := by rw [hw, hw]; unfold zz; rw [if_pos hn]; omega
  rw [e0, e1, BitVec.xor_zero, BitVec.ofInt_natCast, BitVec.toNat_ofNat, Nat.mod_eq_of_lt hz, hw]
  omega
 ·rw [if_neg hn]
  have e0 : IntKind.u64.wrap (-1) = 18446744073709551615 := by rw [hw]; rfl
  have e1 : IntKind.u64.wrap (IntKind.u64.wrap n * 2) = ((18446744073709551615 - zz n : Nat) : Int) := by rw [hw, hw]; unfold zz at hz ⊢; rw [if_neg hn] at hz ⊢; omega
  rw [e0, e1, ww _ (by show _ < 18446744073709551616; omega), hw]
  unfold zz at hz ⊢; rw [if_neg hn] at hz ⊢; omega
theorem qt8 (u : Nat) : (IntKind.u8.wrap (bvOr 8 (IntKind.u8.wrap (u : Int)) 128)) = ((UInt8.ofNat (u % 128 + 128)).toNat : Int) := by
 unfold bvOr
 have hw : ∀ m : Int, IntKind.u8.wrap m = m % 256 := fun m => by simp [IntKind.wrap, IntKind.bits, IntKind.signed]
 have e1 : BitVec.ofInt 8 (IntKind.u8.wrap (u : Int)) = BitVec.ofNat 8 (u % 256) := by rw [hw, show ((u : Int) % 256) = ((u % 256 : Nat) : Int) by omega, BitVec.ofInt_natCast]
 have key : ∀ x : Fin 256, (BitVec.ofNat 8 x.val ||| BitVec.ofInt 8 128).toNat = x.val % 128 + 128 := by decide +kernel
 have := key ⟨u % 256, Nat.mod_lt _ (by decide)⟩
 simp only at this
 rw [e1, this, hw]
 simp only [UInt8.toNat_ofNat']
 omega
theorem j0 {u : Nat} (h : ¬ u < 128) : vbytes u = UInt8.ofNat (u % 128 + 128) :: vbytes (u / 128) := by rw [vbytes, if_neg h]
theorem ja {u : Nat} (h : u < 128) : vbytes u = [UInt8.ofNat u] := by rw [vbytes, if_pos h]
theorem xhq (u : Nat) : (u : Int).fdiv (2 ^ min 7 64) = ((u / 128 : Nat) : Int) := by
 show (u : Int).fdiv 128 = _
 rw [Int.fdiv_eq_ediv_of_nonneg _ (by decide)]; omega
theorem qgp (u : Nat) : IntKind.u8.wrap (u : Int) = ((UInt8.ofNat u).toNat : Int) := by
 rw [qc7 _, UInt8.toNat_ofNat']; omega
noncomputable section
set_option maxRecDepth 100000
def s71r0 : List SOper := [
 ⟨some 4, .mov (.k (.d .nilsl)), none⟩]
def s71r1 : List SOper := [
 ⟨some 6, .mov (.t 1), none⟩,
 ⟨some 7, .conv .u64 (.t 6), none⟩,
 ⟨some 8, .bin .shl (.t 7) (.k (.d (.int .u64 1))), none⟩,
 ⟨some 9, .mov (.t 1), none⟩,
 ⟨some 10, .bin .shr (.t 9) (.k (.d (.int .u64 63))), none⟩,
 ⟨some 11, .conv .u64 (.t 10), none⟩,
 ⟨some 12, .bin .xor (.t 8) (.t 11), none⟩,
 ⟨some 5, .mov (.t 12), none⟩]
def s71r2 : List SOper := [
 ⟨some 13, .mov (.t 5), none⟩,
 ⟨some 14, .bin .geq (.t 13) (.k (.d (.int .u64 128))), none⟩]
def s71r3 : List SOper := [
 ⟨some 15, .mov (.t 0), none⟩,
 ⟨some 16, .mov (.t 5), none⟩,
 ⟨some 17, .conv .u8 (.t 16), none⟩,
 ⟨some 18, .bin .or (.t 17) (.k (.d (.int .u8 128))), none⟩,
 ⟨some 19, .buildSlice false 1 1 [(.int .u8 0)] [(0, 1, (.t 18))], none⟩,
 ⟨some 20, .append false 1 1 (.t 15) (.t 19), none⟩,
 ⟨some 0, .mov (.t 20), none⟩]
def s71r4 : List SOper := [
 ⟨some 21, .mov (.t 5), none⟩,
 ⟨some 22, .bin .shr (.t 21) (.k (.d (.int .u64 7))), none⟩,
 ⟨some 5, .mov (.t 22), none⟩]
def s71l5 : SCode := (.seq (.seq (.region s71r2 0 []) (.cond (.t 14) .skip (.exit 0))) (.block 1 (.seq (.region s71r3 0 []) (.region s71r4 0 []))))
theorem q7y : CodeIs s71l5.eq_1 := qc s71l5.eq_1
def s71r6 : List SOper := [
 ⟨some 23, .mov (.t 0), none⟩,
 ⟨some 24, .mov (.t 5), none⟩,
 ⟨some 25, .conv .u8 (.t 24), none⟩,
 ⟨some 26, .buildSlice false 1 1 [(.int .u8 0)] [(0, 1, (.t 25))], none⟩,
 ⟨some 27, .append false 1 1 (.t 23) (.t 26), none⟩,
 ⟨some 4, .mov (.t 27), none⟩]
def s71 : SCode := (.seq (.region s71r0 0 []) (.seq (.region s71r1 0 []) (.seq (.block 0 (.loop s71l5)) (.seq (.region s71r6 0 []) .ret))))
theorem e71 : CodeIs s71.eq_1 := qc s71.eq_1
theorem q7z : RegIs s71r0.eq_1 := qa
theorem q70 : RegIs s71r1.eq_1 := qa
theorem q71 : RegIs s71r2.eq_1 := qa
theorem q72 : RegIs s71r3.eq_1 := qa
theorem q73 : RegIs s71r4.eq_1 := qa
theorem q74 : RegIs s71r6.eq_1 := qa
attribute [go_sem] q7z q70 q71 q72 q73 q7y q74 e71
theorem F71 : FnIs Try.prog 71 Try.f71 [] news s71 [.tmp 4] 28 := xe follows Try.func71
def s73r0 : List SOper := [
 ⟨some 4, .mov (.k (.d .nilsl)), none⟩]
def s73r1 : List SOper := [
 ⟨some 5, .mov (.t 1), none⟩]
def s73r2 : List SOper := [
 ⟨some 6, .mov (.t 0), none⟩,
 ⟨some 7, .buildSlice false 1 1 [(.int .u8 0)] [(0, 1, (.k (.d (.int .u8 1))))], none⟩,
 ⟨some 8, .append false 1 1 (.t 6) (.t 7), none⟩,
 ⟨some 4, .mov (.t 8), none⟩]
def s73r3 : List SOper := [
 ⟨some 9, .mov (.t 0), none⟩,
 ⟨some 10, .buildSlice false 1 1 [(.int .u8 0)] [(0, 1, (.k (.d (.int .u8 0))))], none⟩,
 ⟨some 11, .append false 1 1 (.t 9) (.t 10), none⟩,
 ⟨some 4, .mov (.t 11), none⟩]
def s73 : SCode := (.seq (.region s73r0 0 []) (.seq (.seq (.region s73r1 0 []) (.cond (.t 5) (.seq (.region s73r2 0 []) .ret) .skip)) (.seq (.region s73r3 0 []) .ret)))
theorem e73 : CodeIs s73.eq_1 := qc s73.eq_1
theorem q75 : RegIs s73r0.eq_1 := qa
theorem q76 : RegIs s73r1.eq_1 := qa
theorem q77 : RegIs s73r2.eq_1 := qa
theorem q78 : RegIs s73r3.eq_1 := qa
attribute [go_sem] q75 q76 q77 q78 e73
theorem F73 : FnIs Try.prog 73 Try.f73 [] news s73 [.tmp 4] 12 := xe follows Try.func73
def s74r0 : List SOper := [
 ⟨some 4, .mov (.k (.d .nilsl)), none⟩]
def s74r1 : List SOper := [
 ⟨some 5, .mov (.t 0), none⟩,
 ⟨some 6, .mov (.t 1), none⟩,
 ⟨some 7, .lenS (.t 6), none⟩,
 ⟨some 8, .call (.k (.d (.func (.func 71) [] []))) [(.t 5), (.t 7)], none⟩,
 ⟨some 9, .mov (.t 1), none⟩,
 ⟨some 10, .append false 1 1 (.t 8) (.t 9), none⟩,
 ⟨some 4, .mov (.t 10), none⟩]
def s74 : SCode := (.seq (.region s74r0 0 []) (.seq (.region s74r1 0 []) .ret))
theorem e74 : CodeIs s74.eq_1 := qc s74.eq_1
theorem q79 : RegIs s74r0.eq_1 := qa
theorem q8a : RegIs s74r1.eq_1 := qa
attribute [go_sem] q79 q8a e74
theorem F74 : FnIs Try.prog 74 Try.f74 [] news s74 [.tmp 4] 11 := xe follows Try.func74
def s72r0 : List SOper := [
 ⟨some 4, .mov (.k (.d .nilsl)), none⟩]
def s72r1 : List SOper := [
 ⟨some 5, .mov (.t 0), none⟩,
 ⟨some 6, .mov (.t 1), none⟩,
 ⟨some 7, .len (.t 6), none⟩,
 ⟨some 8, .call (.k (.d (.func (.func 71) [] []))) [(.t 5), (.t 7)], none⟩,
 ⟨some 9, .mov (.t 1), none⟩,
 ⟨some 10, .append false 1 1 (.t 8) (.t 9), none⟩,
 ⟨some 4, .mov (.t 10), none⟩]
def s72 : SCode := (.seq (.region s72r0 0 []) (.seq (.region s72r1 0 []) .ret))
theorem e72 : CodeIs s72.eq_1 := qc s72.eq_1
theorem q8b : RegIs s72r0.eq_1 := qa
theorem q8c : RegIs s72r1.eq_1 := qa
attribute [go_sem] q8b q8c e72
theorem F72 : FnIs Try.prog 72 Try.f72 [] news s72 [.tmp 4] 11 := xe follows Try.func72
end
def SwInt (b : List UInt8) (n : Int) (i : { i : List UInt8 × Nat // i.1 ++ vbytes i.2 = b ++ wInt n }) : St :=
 ⟨[(0, true, .own 0 1 (byteRows i.val.1)), (5, true, .d (.int .u64 (i.val.2 : Nat)))], [], [0], 1⟩
theorem wc (b : List UInt8) (n : Int) (hb : b.length ≤ 1000000000) (hn : I64 n) : ACall Try.prog 71 [.own 0 1 (byteRows b), .d (.int .i64 n)] [] (.own 0 1 (byteRows (b ++ wInt n))) [] := by
 refine F71.go ?_
 try (refine ev1 (q7x hn) ?_; try exact True.intro)
 refine ql (SwInt b n) (fun i => i.val.2) ⟨(b, zz n), rfl⟩ ?_ (fun i => ?_)
 ·try (refine ev1 @SwInt.eq_1 ?_; try exact True.intro)
 obtain ⟨⟨p, u⟩, hi⟩ := i
 have hl : p.length ≤ 1000000010 := by
  have := congrArg List.length hi
  have := zp hn
  simp at *; omega
 try (refine ev1 @SwInt.eq_1 ?_; try exact True.intro)
 (repeat (with_reducible refine ob ?_)); refine xk _ (fun h => ?_) (fun h => ?_)
 ·have hu : ¬ u < 128 := by simp at h; omega
  try (refine ev4 @qt8 @zg @qn @xhq ?_; try exact True.intro)
  (repeat (with_reducible refine ob ?_))
  refine ⟨⟨(p ++ [UInt8.ofNat (u % 128 + 128)], u / 128), ?_⟩, ?_, ?_⟩
  ·simp only at hi ⊢; rw [j0 hu] at hi; rw [← hi]; simp
  ·try (refine ev1 @SwInt.eq_1 ?_; try exact True.intro)
  ·simp only; omega
 ·have hu : u < 128 := by simp at h; omega
  try (refine ev3 @qgp @zg @qn ?_; try exact True.intro)
  (repeat (with_reducible refine ob ?_))
  simp only [ja hu] at hi
  try (refine ev1 @hi ?_; try exact True.intro)
theorem qc8 (b : List UInt8) (v : Bool) (hb : b.length ≤ 1000000000) : ACall Try.prog 73 [.own 0 1 (byteRows b), .d (.bool v)] [] (.own 0 1 (byteRows (b ++ [if v then 1 else 0]))) [] := by
 refine F73.go ?_
 try (refine ev ?_; try exact True.intro)
 have e1 : [[D.int .u8 1]] = byteRows [1] := rfl
 have e0 : [[D.int .u8 0]] = byteRows [0] := rfl
 cases v with
 | true =>
  try (refine ev ?_; try exact True.intro)
  (repeat (with_reducible refine ob ?_)); refine yo ?_
  try simp only [e1, qn, if_true, go_sem, Nat.reduceAdd, Nat.reduceMul, Nat.reduceSub, Nat.reduceEqDiff, Nat.reduceLT, Nat.reduceLeDiff, Nat.reduceBEq, reduceIte, reduceCtorEq, Int.reduceAdd, Int.reduceLT, Int.reduceLE, Int.reduceGT, Int.reduceGE, Int.reduceEq, Int.reduceNe, Int.reduceBEq, Int.reduceBNe, Int.reduceToNat, Int.reduceNeg]
  omega
 | false =>
  try (refine ev ?_; try exact True.intro)
  (repeat (with_reducible refine ob ?_)); refine no_ ?_
  try (refine ev2 @e0 @qn ?_; try exact True.intro)
  omega
def wText (s : List UInt8) : List UInt8 := wInt s.length ++ s
theorem xc {n : Nat} (h : n ≤ 9000000000000000000) : I64 n := by unfold I64; omega
theorem qc9 (b s : List UInt8) (hb : b.length + s.length ≤ 900000000) : ACall Try.prog 74 [.own 0 1 (byteRows b), .d (.str s)] [] (.own 0 1 (byteRows (b ++ wText s))) [] := by
 refine F74.go ?_
 try (refine ev ?_; try exact True.intro)
 refine clA F71 (wc b s.length (by omega) (xc (by omega))) ?_
 try (refine ev ?_; try exact True.intro)
 have hl := zp (xc (n := s.length) (by omega))
 have e : byteRows (b ++ wInt s.length) ++ byteRows s = byteRows (b ++ wText s) := by rw [qn, wText, List.append_assoc]
 try (refine ev2 @e @List.length_append.{0} ?_; try exact True.intro)
 refine ⟨by omega, by omega⟩
theorem qbs (b s : List UInt8) (hb : b.length + s.length ≤ 900000000) : ACall Try.prog 72 [.own 0 1 (byteRows b), .d (.sl 1 (byteRows s))] [] (.own 0 1 (byteRows (b ++ wText s))) [] := by
 refine F72.go ?_
 try (refine ev ?_; try exact True.intro)
 refine clA F71 (wc b s.length (by omega) (xc (by omega))) ?_
 try (refine ev ?_; try exact True.intro)
 have hl := zp (xc (n := s.length) (by omega))
 have e : byteRows (b ++ wInt s.length) ++ byteRows s = byteRows (b ++ wText s) := by rw [qn, wText, List.append_assoc]
 try (refine ev2 @e @List.length_append.{0} ?_; try exact True.intro)
 refine ⟨by omega, by omega⟩
end Go.Proofs.Ytinnaedmdoengaa
namespace Go.Proofs.Ytinnaedmdoengaa
open Go.Abs
set_option linter.unusedSimpArgs false
def idx {α : Type} (f : α → Bool) (l : List α) : Int := if l.any f then (l.findIdx f : Int) else -1
theorem qae {α : Type} {f : α → Bool} {l : List α} {i : Nat} (h : (l.take i).any f = false) (hi : l.length ≤ i) : idx f l = -1 := by
 rw [List.take_of_length_le hi] at h
 simp [idx, h]
theorem qaf {α : Type} {f : α → Bool} {l : List α} {i : Nat} (h : (l.take i).any f = false) (hi : i < l.length) (hf : f l[i] = true) : idx f l = (i : Int) := by
 have ha : l.any f = true := List.any_eq_true.2 ⟨l[i], List.getElem_mem hi, hf⟩
 have hx : l.findIdx f = i := by
  rw [List.findIdx_eq hi]
  refine ⟨hf, fun j hj => ?_⟩
  rw [List.any_eq_false] at h
  have hj' : j < (l.take i).length := by simp; omega
  have := h (l.take i)[j] (List.getElem_mem hj')
  simpa using this
 simp [idx, ha, hx]
theorem zq {α : Type} {f : α → Bool} {l : List α} {i : Nat} (h : (l.take i).any f = false) (hi : i < l.length) (hf : f l[i] = false) : (l.take (i + 1)).any f = false := by
 rw [List.take_succ_eq_append_getElem hi, List.any_append, h]
 simp [hf]
theorem qit {α : Type} (f : α → Bool) (l : List α) : decide (idx f l ≥ 0) = l.any f := by
 unfold idx
 cases l.any f <;> simp
noncomputable section
set_option maxRecDepth 100000
def s169r0 : List SOper := [
 ⟨some 4, .mov (.k (.d (.int .i64 0))), none⟩]
def s169r1 : List SOper := [
 ⟨some 6, .mov (.t 0), none⟩,
 ⟨some 7, .len (.t 6), none⟩,
 ⟨some 8, .mov (.k (.d (.int .i64 0))), none⟩]
def s169r2 : List SOper := [
 ⟨some 9, .bin .lss (.t 8) (.t 7), none⟩]
def s169r3 : List SOper := [
 ⟨some 10, .mov (.t 8), none⟩,
 ⟨some 5, .mov (.t 10), none⟩]
def s169r4 : List SOper := [
 ⟨some 11, .mov (.t 1), none⟩,
 ⟨some 12, .mov (.t 0), none⟩,
 ⟨some 13, .mov (.t 5), none⟩,
 ⟨some 14, .iaddr 3 (.t 12) (.t 13), none⟩,
 ⟨some 15, .load (some 3) (.t 14), none⟩,
 ⟨some 16, .call (.t 11) [(.t 15)], none⟩]
def s169r5 : List SOper := [
 ⟨some 17, .mov (.t 5), none⟩,
 ⟨some 4, .mov (.t 17), none⟩]
def s169r6 : List SOper := [
 ⟨some 18, .bin .add (.t 8) (.k (.d (.int .i64 1))), none⟩,
 ⟨some 8, .mov (.t 18), none⟩]
def s169l7 : SCode := (.seq (.region s169r2 0 []) (.seq (.cond (.t 9) .skip (.exit 0)) (.seq (.block 1 (.seq (.region s169r3 0 []) (.seq (.region s169r4 0 []) (.cond (.t 16) (.seq (.region s169r5 0 []) .ret) .skip)))) (.region s169r6 0 []))))
theorem qzc : CodeIs s169l7.eq_1 := qc s169l7.eq_1
def s169r8 : List SOper := [
 ⟨some 4, .mov (.k (.d (.int .i64 (-1)))), none⟩]
def s169 : SCode := (.seq (.region s169r0 0 []) (.seq (.seq (.region s169r1 0 []) (.block 0 (.loop s169l7))) (.seq (.region s169r8 0 []) .ret)))
theorem xhr : CodeIs s169.eq_1 := qc s169.eq_1
theorem qzd : RegIs s169r0.eq_1 := qa
theorem qze : RegIs s169r1.eq_1 := qa
theorem qzf : RegIs s169r2.eq_1 := qa
theorem qzg : RegIs s169r3.eq_1 := qa
theorem qzh : RegIs s169r4.eq_1 := qa
theorem qzi : RegIs s169r5.eq_1 := qa
theorem qzj : RegIs s169r6.eq_1 := qa
theorem qzk : RegIs s169r8.eq_1 := qa
attribute [go_sem] qzd qze qzf qzg qzh qzi qzj qzc qzk xhr
theorem q8d : FnIs Try.prog 169 Try.f169 [] news s169 [.tmp 4] 19 := xe follows Try.func169
def s170r0 : List SOper := [
 ⟨some 4, .mov (.k (.d (.int .i64 0))), none⟩]
def s170r1 : List SOper := [
 ⟨some 6, .mov (.t 0), none⟩,
 ⟨some 7, .len (.t 6), none⟩,
 ⟨some 8, .mov (.k (.d (.int .i64 0))), none⟩]
def s170r2 : List SOper := [
 ⟨some 9, .bin .lss (.t 8) (.t 7), none⟩]
def s170r3 : List SOper := [
 ⟨some 10, .mov (.t 8), none⟩,
 ⟨some 5, .mov (.t 10), none⟩]
def s170r4 : List SOper := [
 ⟨some 11, .mov (.t 1), none⟩,
 ⟨some 12, .mov (.t 0), none⟩,
 ⟨some 13, .mov (.t 5), none⟩,
 ⟨some 14, .iaddr 1 (.t 12) (.t 13), none⟩,
 ⟨some 15, .load none (.t 14), none⟩,
 ⟨some 16, .call (.t 11) [(.t 15)], none⟩]
def s170r5 : List SOper := [
 ⟨some 17, .mov (.t 5), none⟩,
 ⟨some 4, .mov (.t 17), none⟩]
def s170r6 : List SOper := [
 ⟨some 18, .bin .add (.t 8) (.k (.d (.int .i64 1))), none⟩,
 ⟨some 8, .mov (.t 18), none⟩]
def s170l7 : SCode := (.seq (.region s170r2 0 []) (.seq (.cond (.t 9) .skip (.exit 0)) (.seq (.block 1 (.seq (.region s170r3 0 []) (.seq (.region s170r4 0 []) (.cond (.t 16) (.seq (.region s170r5 0 []) .ret) .skip)))) (.region s170r6 0 []))))
theorem qzl : CodeIs s170l7.eq_1 := qc s170l7.eq_1
def s170r8 : List SOper := [
 ⟨some 4, .mov (.k (.d (.int .i64 (-1)))), none⟩]
def s170 : SCode := (.seq (.region s170r0 0 []) (.seq (.seq (.region s170r1 0 []) (.block 0 (.loop s170l7))) (.seq (.region s170r8 0 []) .ret)))
theorem xhs : CodeIs s170.eq_1 := qc s170.eq_1
theorem qzm : RegIs s170r0.eq_1 := qa
theorem qzn : RegIs s170r1.eq_1 := qa
theorem qzo : RegIs s170r2.eq_1 := qa
theorem qzp : RegIs s170r3.eq_1 := qa
theorem qzq : RegIs s170r4.eq_1 := qa
theorem qzr : RegIs s170r5.eq_1 := qa
theorem qzs : RegIs s170r6.eq_1 := qa
theorem qzt : RegIs s170r8.eq_1 := qa
attribute [go_sem] qzm qzn qzo qzp qzq qzr qzs qzl qzt xhs
theorem q8e : FnIs Try.prog 170 Try.f170 [] news s170 [.tmp 4] 19 := xe follows Try.func170
def s159r0 : List SOper := [
 ⟨some 4, .mov (.k (.d (.bool false))), none⟩]
def s159r1 : List SOper := [
 ⟨some 5, .mov (.t 0), none⟩,
 ⟨some 6, .mov (.t 1), none⟩,
 ⟨some 7, .call (.k (.d (.func (.func 169) [] []))) [(.t 5), (.t 6)], none⟩,
 ⟨some 8, .bin .geq (.t 7) (.k (.d (.int .i64 0))), none⟩,
 ⟨some 4, .mov (.t 8), none⟩]
def s159 : SCode := (.seq (.region s159r0 0 []) (.seq (.region s159r1 0 []) .ret))
theorem xht : CodeIs s159.eq_1 := qc s159.eq_1
theorem qzu : RegIs s159r0.eq_1 := qa
theorem qzv : RegIs s159r1.eq_1 := qa
attribute [go_sem] qzu qzv xht
theorem q8f : FnIs Try.prog 159 Try.f159 [] news s159 [.tmp 4] 9 := xe follows Try.func159
def s162r0 : List SOper := [
 ⟨some 4, .mov (.k (.d (.bool false))), none⟩]
def s162r1 : List SOper := [
 ⟨some 5, .mov (.t 0), none⟩,
 ⟨some 6, .mov (.t 1), none⟩,
 ⟨some 7, .call (.k (.d (.func (.func 170) [] []))) [(.t 5), (.t 6)], none⟩,
 ⟨some 8, .bin .geq (.t 7) (.k (.d (.int .i64 0))), none⟩,
 ⟨some 4, .mov (.t 8), none⟩]
def s162 : SCode := (.seq (.region s162r0 0 []) (.seq (.region s162r1 0 []) .ret))
theorem xhu : CodeIs s162.eq_1 := qc s162.eq_1
theorem qzw : RegIs s162r0.eq_1 := qa
theorem qzx : RegIs s162r1.eq_1 := qa
attribute [go_sem] qzw qzx xhu
theorem q8g : FnIs Try.prog 162 Try.f162 [] news s162 [.tmp 4] 9 := xe follows Try.func162
end
def Sidx {α : Type} (es : Nat) (enc : α → List D) (k : FuncId) (l : List α) (f : α → Bool) (i : { i : Nat // (l.take i).any f = false }) : St :=
 ⟨[(0, true, .d (.sl es (l.map enc))), (1, true, .d (.func (.func k) [] [])), (6, true, .d (.sl es (l.map enc))), (7, true, .d (.int .i64 l.length)), (8, true, .d (.int .i64 (i.val : Nat)))], [], [], 1⟩
theorem qqw {k : FuncId} {f : AV → Bool} (hb : (Try.prog.funcs[k]?).any (fun fn => fn.body.isSome && !(fn.name == "runtime.NumGoroutine")) = true)
  (hf : ∀ v, ACall Try.prog k [.d (.agg (encAV v))] [] (.d (.bool (f v))) []) (l : List AV) (hl : l.length ≤ maxLen) :
  ACall Try.prog 169 [.d (.sl 3 (l.map encAV)), .d (.func (.func k) [] [])] [] (.d (.int .i64 (idx f l))) [] := by
 first | refine q8d.go ?_ | refine q8d.goT ?_
 simp only [go_sem, Nat.reduceAdd, Nat.reduceMul, Nat.reduceSub, Nat.reduceEqDiff, Nat.reduceLT, Nat.reduceLeDiff, Nat.reduceBEq, reduceIte, reduceCtorEq, Int.reduceAdd, Int.reduceLT, Int.reduceLE, Int.reduceGT, Int.reduceGE, Int.reduceEq, Int.reduceNe, Int.reduceBEq, Int.reduceBNe, Int.reduceToNat, Int.reduceNeg]
 refine ql (Sidx 3 encAV k l f) (fun i => l.length - i.val) ⟨0, rfl⟩ ?_ (fun i => ?_)
 ·simp only [Sidx, qo zd, go_sem, Nat.reduceAdd, Nat.reduceMul, Nat.reduceSub, Nat.reduceEqDiff, Nat.reduceLT, Nat.reduceLeDiff, Nat.reduceBEq, reduceIte, reduceCtorEq, Int.reduceAdd, Int.reduceLT, Int.reduceLE, Int.reduceGT, Int.reduceGE, Int.reduceEq, Int.reduceNe, Int.reduceBEq, Int.reduceBNe, Int.reduceToNat, Int.reduceNeg]
 ·obtain ⟨i, hi⟩ := i
  simp only [Sidx, go_sem, Nat.reduceAdd, Nat.reduceMul, Nat.reduceSub, Nat.reduceEqDiff, Nat.reduceLT, Nat.reduceLeDiff, Nat.reduceBEq, reduceIte, reduceCtorEq, Int.reduceAdd, Int.reduceLT, Int.reduceLE, Int.reduceGT, Int.reduceGE, Int.reduceEq, Int.reduceNe, Int.reduceBEq, Int.reduceBNe, Int.reduceToNat, Int.reduceNeg]
  refine jk _ rfl rfl (fun h => ?_) (fun h => ?_)
  ·have hil : i < l.length := by simpa using h
   simp only [qq encAV l hil, encAV, go_sem, Nat.reduceAdd, Nat.reduceMul, Nat.reduceSub, Nat.reduceEqDiff, Nat.reduceLT, Nat.reduceLeDiff, Nat.reduceBEq, reduceIte, reduceCtorEq, Int.reduceAdd, Int.reduceLT, Int.reduceLE, Int.reduceGT, Int.reduceGE, Int.reduceEq, Int.reduceNe, Int.reduceBEq, Int.reduceBNe, Int.reduceToNat, Int.reduceNeg]
   refine ⟨by omega, ?_⟩
   refine qm (hf l[i]) hb (fun h => h) (fun _ => ⟨qb, trivial⟩) rfl rfl rfl ?_
   simp only [go_sem, Nat.reduceAdd, Nat.reduceMul, Nat.reduceSub, Nat.reduceEqDiff, Nat.reduceLT, Nat.reduceLeDiff, Nat.reduceBEq, reduceIte, reduceCtorEq, Int.reduceAdd, Int.reduceLT, Int.reduceLE, Int.reduceGT, Int.reduceGE, Int.reduceEq, Int.reduceNe, Int.reduceBEq, Int.reduceBNe, Int.reduceToNat, Int.reduceNeg]
   refine jk _ rfl rfl (fun h2 => ?_) (fun h2 => ?_)
   ·simp only [qaf hi hil h2, go_sem, Nat.reduceAdd, Nat.reduceMul, Nat.reduceSub, Nat.reduceEqDiff, Nat.reduceLT, Nat.reduceLeDiff, Nat.reduceBEq, reduceIte, reduceCtorEq, Int.reduceAdd, Int.reduceLT, Int.reduceLE, Int.reduceGT, Int.reduceGE, Int.reduceEq, Int.reduceNe, Int.reduceBEq, Int.reduceBNe, Int.reduceToNat, Int.reduceNeg]
   ·simp only [go_sem, Nat.reduceAdd, Nat.reduceMul, Nat.reduceSub, Nat.reduceEqDiff, Nat.reduceLT, Nat.reduceLeDiff, Nat.reduceBEq, reduceIte, reduceCtorEq, Int.reduceAdd, Int.reduceLT, Int.reduceLE, Int.reduceGT, Int.reduceGE, Int.reduceEq, Int.reduceNe, Int.reduceBEq, Int.reduceBNe, Int.reduceToNat, Int.reduceNeg]
    refine ⟨⟨i + 1, zq hi hil h2⟩, ?_, by dsimp only; omega⟩
    simp only [Sidx, qj (show i < 9223372036854775807 by unfold maxLen at hl; omega), qo zd, go_sem, Nat.reduceAdd, Nat.reduceMul, Nat.reduceSub, Nat.reduceEqDiff, Nat.reduceLT, Nat.reduceLeDiff, Nat.reduceBEq, reduceIte, reduceCtorEq, Int.reduceAdd, Int.reduceLT, Int.reduceLE, Int.reduceGT, Int.reduceGE, Int.reduceEq, Int.reduceNe, Int.reduceBEq, Int.reduceBNe, Int.reduceToNat, Int.reduceNeg]
  ·have hil : l.length ≤ i := by simpa using h
   simp only [qae hi hil, go_sem, Nat.reduceAdd, Nat.reduceMul, Nat.reduceSub, Nat.reduceEqDiff, Nat.reduceLT, Nat.reduceLeDiff, Nat.reduceBEq, reduceIte, reduceCtorEq, Int.reduceAdd, Int.reduceLT, Int.reduceLE, Int.reduceGT, Int.reduceGE, Int.reduceEq, Int.reduceNe, Int.reduceBEq, Int.reduceBNe, Int.reduceToNat, Int.reduceNeg]
theorem qqx {k : FuncId} {f : Int → Bool} (hb : (Try.prog.funcs[k]?).any (fun fn => fn.body.isSome && !(fn.name == "runtime.NumGoroutine")) = true)
  (hf : ∀ v, ACall Try.prog k [.d (.int .i64 v)] [] (.d (.bool (f v))) []) (l : List Int) (hl : l.length ≤ maxLen) :
  ACall Try.prog 170 [.d (.sl 1 (l.map encI)), .d (.func (.func k) [] [])] [] (.d (.int .i64 (idx f l))) [] := by
 first | refine q8e.go ?_ | refine q8e.goT ?_
 simp only [go_sem, Nat.reduceAdd, Nat.reduceMul, Nat.reduceSub, Nat.reduceEqDiff, Nat.reduceLT, Nat.reduceLeDiff, Nat.reduceBEq, reduceIte, reduceCtorEq, Int.reduceAdd, Int.reduceLT, Int.reduceLE, Int.reduceGT, Int.reduceGE, Int.reduceEq, Int.reduceNe, Int.reduceBEq, Int.reduceBNe, Int.reduceToNat, Int.reduceNeg]
 refine ql (Sidx 1 encI k l f) (fun i => l.length - i.val) ⟨0, rfl⟩ ?_ (fun i => ?_)
 ·simp only [Sidx, qo zy, go_sem, Nat.reduceAdd, Nat.reduceMul, Nat.reduceSub, Nat.reduceEqDiff, Nat.reduceLT, Nat.reduceLeDiff, Nat.reduceBEq, reduceIte, reduceCtorEq, Int.reduceAdd, Int.reduceLT, Int.reduceLE, Int.reduceGT, Int.reduceGE, Int.reduceEq, Int.reduceNe, Int.reduceBEq, Int.reduceBNe, Int.reduceToNat, Int.reduceNeg]
 ·obtain ⟨i, hi⟩ := i
  simp only [Sidx, go_sem, Nat.reduceAdd, Nat.reduceMul, Nat.reduceSub, Nat.reduceEqDiff, Nat.reduceLT, Nat.reduceLeDiff, Nat.reduceBEq, reduceIte, reduceCtorEq, Int.reduceAdd, Int.reduceLT, Int.reduceLE, Int.reduceGT, Int.reduceGE, Int.reduceEq, Int.reduceNe, Int.reduceBEq, Int.reduceBNe, Int.reduceToNat, Int.reduceNeg]
  refine jk _ rfl rfl (fun h => ?_) (fun h => ?_)
  ·have hil : i < l.length := by simpa using h
   simp only [qq encI l hil, encI, go_sem, Nat.reduceAdd, Nat.reduceMul, Nat.reduceSub, Nat.reduceEqDiff, Nat.reduceLT, Nat.reduceLeDiff, Nat.reduceBEq, reduceIte, reduceCtorEq, Int.reduceAdd, Int.reduceLT, Int.reduceLE, Int.reduceGT, Int.reduceGE, Int.reduceEq, Int.reduceNe, Int.reduceBEq, Int.reduceBNe, Int.reduceToNat, Int.reduceNeg]
   refine ⟨by omega, ?_⟩
   refine qm (hf l[i]) hb (fun h => h) (fun _ => ⟨qb, trivial⟩) rfl rfl rfl ?_
   simp only [go_sem, Nat.reduceAdd, Nat.reduceMul, Nat.reduceSub, Nat.reduceEqDiff, Nat.reduceLT, Nat.reduceLeDiff, Nat.reduceBEq, reduceIte, reduceCtorEq, Int.reduceAdd, Int.reduceLT, Int.reduceLE, Int.reduceGT, Int.reduceGE, Int.reduceEq, Int.reduceNe, Int.reduceBEq, Int.reduceBNe, Int.reduceToNat, Int.reduceNeg]
   refine jk _ rfl rfl (fun h2 => ?_) (fun h2 => ?_)
   ·simp only [qaf hi hil h2, go_sem, Nat.reduceAdd, Nat.reduceMul, Nat.reduceSub, Nat.reduceEqDiff, Nat.reduceLT, Nat.reduceLeDiff, Nat.reduceBEq, reduceIte, reduceCtorEq, Int.reduceAdd, Int.reduceLT, Int.reduceLE, Int.reduceGT, Int.reduceGE, Int.reduceEq, Int.reduceNe, Int.reduceBEq, Int.reduceBNe, Int.reduceToNat, Int.reduceNeg]
   ·simp only [go_sem, Nat.reduceAdd, Nat.reduceMul, Nat.reduceSub, Nat.reduceEqDiff, Nat.reduceLT, Nat.reduceLeDiff, Nat.reduceBEq, reduceIte, reduceCtorEq, Int.reduceAdd, Int.reduceLT, Int.reduceLE, Int.reduceGT, Int.reduceGE, Int.reduceEq, Int.reduceNe, Int.reduceBEq, Int.reduceBNe, Int.reduceToNat, Int.reduceNeg]
    refine ⟨⟨i + 1, zq hi hil h2⟩, ?_, by dsimp only; omega⟩
    simp only [Sidx, qj (show i < 9223372036854775807 by unfold maxLen at hl; omega), qo zy, go_sem, Nat.reduceAdd, Nat.reduceMul, Nat.reduceSub, Nat.reduceEqDiff, Nat.reduceLT, Nat.reduceLeDiff, Nat.reduceBEq, reduceIte, reduceCtorEq, Int.reduceAdd, Int.reduceLT, Int.reduceLE, Int.reduceGT, Int.reduceGE, Int.reduceEq, Int.reduceNe, Int.reduceBEq, Int.reduceBNe, Int.reduceToNat, Int.reduceNeg]
  ·have hil : l.length ≤ i := by simpa using h
   simp only [qae hi hil, go_sem, Nat.reduceAdd, Nat.reduceMul, Nat.reduceSub, Nat.reduceEqDiff, Nat.reduceLT, Nat.reduceLeDiff, Nat.reduceBEq, reduceIte, reduceCtorEq, Int.reduceAdd, Int.reduceLT, Int.reduceLE, Int.reduceGT, Int.reduceGE, Int.reduceEq, Int.reduceNe, Int.reduceBEq, Int.reduceBNe, Int.reduceToNat, Int.reduceNeg]
theorem qiu {k : FuncId} {f : AV → Bool} (hb : (Try.prog.funcs[k]?).any (fun fn => fn.body.isSome && !(fn.name == "runtime.NumGoroutine")) = true)
  (hf : ∀ v, ACall Try.prog k [.d (.agg (encAV v))] [] (.d (.bool (f v))) []) (l : List AV) (hl : l.length ≤ maxLen) :
  ACall Try.prog 159 [.d (.sl 3 (l.map encAV)), .d (.func (.func k) [] [])] [] (.d (.bool (l.any f))) [] := by
 first | refine q8f.go ?_ | refine q8f.goT ?_
 simp only [go_sem, Nat.reduceAdd, Nat.reduceMul, Nat.reduceSub, Nat.reduceEqDiff, Nat.reduceLT, Nat.reduceLeDiff, Nat.reduceBEq, reduceIte, reduceCtorEq, Int.reduceAdd, Int.reduceLT, Int.reduceLE, Int.reduceGT, Int.reduceGE, Int.reduceEq, Int.reduceNe, Int.reduceBEq, Int.reduceBNe, Int.reduceToNat, Int.reduceNeg]
 refine qm (qqw hb hf l hl) q8d.body (fun h => h) (fun _ => ⟨qb, qb, trivial⟩) (by simp [ASlot.noPtr, D.noPtr, D.noPtrL, qo zd]) rfl rfl ?_
 simp only [qit, go_sem, Nat.reduceAdd, Nat.reduceMul, Nat.reduceSub, Nat.reduceEqDiff, Nat.reduceLT, Nat.reduceLeDiff, Nat.reduceBEq, reduceIte, reduceCtorEq, Int.reduceAdd, Int.reduceLT, Int.reduceLE, Int.reduceGT, Int.reduceGE, Int.reduceEq, Int.reduceNe, Int.reduceBEq, Int.reduceBNe, Int.reduceToNat, Int.reduceNeg]
theorem qiv {k : FuncId} {f : Int → Bool} (hb : (Try.prog.funcs[k]?).any (fun fn => fn.body.isSome && !(fn.name == "runtime.NumGoroutine")) = true)
  (hf : ∀ v, ACall Try.prog k [.d (.int .i64 v)] [] (.d (.bool (f v))) []) (l : List Int) (hl : l.length ≤ maxLen) :
  ACall Try.prog 162 [.d (.sl 1 (l.map encI)), .d (.func (.func k) [] [])] [] (.d (.bool (l.any f))) [] := by
 first | refine q8g.go ?_ | refine q8g.goT ?_
 simp only [go_sem, Nat.reduceAdd, Nat.reduceMul, Nat.reduceSub, Nat.reduceEqDiff, Nat.reduceLT, Nat.reduceLeDiff, Nat.reduceBEq, reduceIte, reduceCtorEq, Int.reduceAdd, Int.reduceLT, Int.reduceLE, Int.reduceGT, Int.reduceGE, Int.reduceEq, Int.reduceNe, Int.reduceBEq, Int.reduceBNe, Int.reduceToNat, Int.reduceNeg]
 refine qm (qqx hb hf l hl) q8e.body (fun h => h) (fun _ => ⟨qb, qb, trivial⟩) (by simp [ASlot.noPtr, D.noPtr, D.noPtrL, qo zy]) rfl rfl ?_
 simp only [qit, go_sem, Nat.reduceAdd, Nat.reduceMul, Nat.reduceSub, Nat.reduceEqDiff, Nat.reduceLT, Nat.reduceLeDiff, Nat.reduceBEq, reduceIte, reduceCtorEq, Int.reduceAdd, Int.reduceLT, Int.reduceLE, Int.reduceGT, Int.reduceGE, Int.reduceEq, Int.reduceNe, Int.reduceBEq, Int.reduceBNe, Int.reduceToNat, Int.reduceNeg]
noncomputable section
set_option maxRecDepth 100000
def s135r0 : List SOper := [
 ⟨some 1, .box 1 (.t 0), none⟩,
 ⟨some 2, .mov (.k (.d (.bool false))), none⟩]
def s135r1 : List SOper := [
 ⟨some 3, .load (some 9) (.t 1), none⟩,
 ⟨some 4, .call (.k (.d (.func (.func 158) [] []))) [(.t 3)], none⟩,
 ⟨some 5, .mov (.t 4), none⟩,
 ⟨some 6, .faddr 2 (.t 1), some (5, true)⟩,
 ⟨some 7, .load none (.t 6), some (5, true)⟩,
 ⟨some 8, .bin .eql (.t 7) (.k (.d (.int .i64 0))), some (5, true)⟩,
 ⟨some 9, .mov (.t 8), some (5, true)⟩,
 ⟨some 10, .faddr 2 (.t 1), some (9, false)⟩,
 ⟨some 11, .load none (.t 10), some (9, false)⟩,
 ⟨some 12, .bin .eql (.t 11) (.k (.d (.int .i64 1))), some (9, false)⟩,
 ⟨some 13, .pick (.t 9) (.k (.d (.bool true))) (.t 12), some (5, true)⟩,
 ⟨some 14, .pick (.t 5) (.t 13) (.k (.d (.bool false))), none⟩,
 ⟨some 15, .mov (.t 14), none⟩,
 ⟨some 16, .faddr 6 (.t 1), some (15, true)⟩,
 ⟨some 17, .load none (.t 16), some (15, true)⟩,
 ⟨some 18, .bin .geq (.t 17) (.k (.d (.int .i64 0))), some (15, true)⟩,
 ⟨some 19, .pick (.t 15) (.t 18) (.k (.d (.bool false))), none⟩,
 ⟨some 20, .mov (.t 19), none⟩,
 ⟨some 21, .faddr 6 (.t 1), some (20, true)⟩,
 ⟨some 22, .load none (.t 21), some (20, true)⟩,
 ⟨some 23, .bin .lss (.t 22) (.k (.d (.int .i64 40))), some (20, true)⟩,
 ⟨some 24, .pick (.t 20) (.t 23) (.k (.d (.bool false))), none⟩,
 ⟨some 25, .mov (.t 24), none⟩,
 ⟨some 26, .faddr 7 (.t 1), some (25, true)⟩,
 ⟨some 27, .load none (.t 26), some (25, true)⟩,
 ⟨some 28, .len (.t 27), some (25, true)⟩,
 ⟨some 29, .bin .leq (.t 28) (.k (.d (.int .i64 4))), some (25, true)⟩,
 ⟨some 30, .pick (.t 25) (.t 29) (.k (.d (.bool false))), none⟩,
 ⟨some 31, .mov (.t 30), none⟩,
 ⟨some 32, .faddr 8 (.t 1), some (31, true)⟩,
 ⟨some 33, .load none (.t 32), some (31, true)⟩,
 ⟨some 34, .len (.t 33), some (31, true)⟩,
 ⟨some 35, .bin .leq (.t 34) (.k (.d (.int .i64 6))), some (31, true)⟩,
 ⟨some 36, .pick (.t 31) (.t 35) (.k (.d (.bool false))), none⟩,
 ⟨some 37, .mov (.t 36), none⟩,
 ⟨some 38, .faddr 7 (.t 1), some (37, true)⟩,
 ⟨some 39, .load none (.t 38), some (37, true)⟩,
 ⟨some 40, .call (.k (.d (.func (.func 159) [] []))) [(.t 39), (.k (.d (.func (.func 160) [] [])))], some (37, true)⟩,
 ⟨some 41, .not (.t 40), some (37, true)⟩,
 ⟨some 42, .pick (.t 37) (.t 41) (.k (.d (.bool false))), none⟩,
 ⟨some 43, .mov (.t 42), none⟩,
 ⟨some 44, .faddr 8 (.t 1), some (43, true)⟩,
 ⟨some 45, .load none (.t 44), some (43, true)⟩,
 ⟨some 46, .call (.k (.d (.func (.func 162) [] []))) [(.t 45), (.k (.d (.func (.func 163) [] [])))], some (43, true)⟩,
 ⟨some 47, .not (.t 46), some (43, true)⟩,
 ⟨some 48, .pick (.t 43) (.t 47) (.k (.d (.bool false))), none⟩,
 ⟨some 2, .mov (.t 48), none⟩]
def s135 : SCode := (.seq (.region s135r0 1 []) (.seq (.region s135r1 0 []) .ret))
theorem xhv : CodeIs s135.eq_1 := qc s135.eq_1
theorem qzy : RegIs s135r0.eq_1 := qa
theorem qzz : RegIs s135r1.eq_1 := qa
attribute [go_sem] qzy qzz xhv
theorem q8h : FnIs Try.prog 135 Try.f135 [] news s135 [.tmp 2] 49 := xe follows Try.func135
def s101r0 : List SOper := [
 ⟨some 1, .box 1 (.t 0), none⟩,
 ⟨some 2, .mov (.k (.d (.bool false))), none⟩]
def s101r1 : List SOper := [
 ⟨some 4, .build [.nilfunc] [(0, 1, (.k (.d (.func (.func 135) [] []))))], none⟩,
 ⟨some 5, .build [.nilfunc] [(0, 1, (.k (.d (.func (.func 136) [] []))))], none⟩,
 ⟨some 6, .build [.nilfunc] [(0, 1, (.k (.d (.func (.func 137) [] []))))], none⟩,
 ⟨some 7, .build [.nilfunc] [(0, 1, (.k (.d (.func (.func 137) [] []))))], none⟩,
 ⟨some 8, .buildSlice false 1 5 [.nilfunc] [(1, 1, (.t 4)), (2, 1, (.t 5)), (3, 1, (.t 6)), (4, 1, (.t 7))], none⟩,
 ⟨some 3, .mov (.t 8), none⟩]
def s101r2 : List SOper := [
 ⟨some 9, .faddr 0 (.t 1), none⟩,
 ⟨some 10, .load none (.t 9), none⟩,
 ⟨some 11, .bin .geq (.t 10) (.k (.d (.int .i64 1))), none⟩,
 ⟨some 12, .mov (.t 11), none⟩,
 ⟨some 13, .faddr 0 (.t 1), some (12, true)⟩,
 ⟨some 14, .load none (.t 13), some (12, true)⟩,
 ⟨some 15, .bin .leq (.t 14) (.k (.d (.int .i64 4))), some (12, true)⟩,
 ⟨some 16, .pick (.t 12) (.t 15) (.k (.d (.bool false))), none⟩,
 ⟨some 17, .mov (.t 16), none⟩,
 ⟨some 18, .faddr 1 (.t 1), some (17, true)⟩,
 ⟨some 19, .load none (.t 18), some (17, true)⟩,
 ⟨some 20, .bin .geq (.t 19) (.k (.d (.int .i64 1))), some (17, true)⟩,
 ⟨some 21, .pick (.t 17) (.t 20) (.k (.d (.bool false))), none⟩,
 ⟨some 22, .mov (.t 21), none⟩,
 ⟨some 23, .faddr 1 (.t 1), some (22, true)⟩,
 ⟨some 24, .load none (.t 23), some (22, true)⟩,
 ⟨some 25, .bin .leq (.t 24) (.k (.d (.int .i64 32))), some (22, true)⟩,
 ⟨some 26, .pick (.t 22) (.t 25) (.k (.d (.bool false))), none⟩,
 ⟨some 27, .mov (.t 26), none⟩,
 ⟨some 28, .mov (.t 3), some (27, true)⟩,
 ⟨some 29, .faddr 0 (.t 1), some (27, true)⟩,
 ⟨some 30, .load none (.t 29), some (27, true)⟩,
 ⟨some 31, .iaddr 1 (.t 28) (.t 30), some (27, true)⟩,
 ⟨some 32, .faddr 0 (.t 31), some (27, true)⟩,
 ⟨some 33, .load none (.t 32), some (27, true)⟩,
 ⟨some 34, .load (some 9) (.t 1), some (27, true)⟩,
 ⟨some 35, .call (.t 33) [(.t 34)], some (27, true)⟩,
 ⟨some 36, .pick (.t 27) (.t 35) (.k (.d (.bool false))), none⟩,
 ⟨some 2, .mov (.t 36), none⟩]
def s101 : SCode := (.seq (.region s101r0 1 []) (.seq (.region s101r1 0 []) (.seq (.region s101r2 0 []) .ret)))
theorem xhw : CodeIs s101.eq_1 := qc s101.eq_1
theorem qz0 : RegIs s101r0.eq_1 := qa
theorem qz1 : RegIs s101r1.eq_1 := qa
theorem qz2 : RegIs s101r2.eq_1 := qa
attribute [go_sem] qz0 qz1 qz2 xhw
theorem xgz : FnIs Try.prog 101 Try.f101 [] news s101 [.tmp 2] 37 := xe follows Try.func101
end
def data (p : Pk) : Bool := numbered p && (p.epoch == 0 || p.epoch == 1) && decide (p.label ≥ 0) && decide (p.label < 40) && decide ((p.values.length : Int) ≤ 4) && decide ((p.clock.length : Int) ≤ 6) && !(p.values.any fun v => !proper v) && !(p.clock.any fun n => decide (n < 0) || decide (n > 1099511627776))
theorem qwk (p : Pk) (h1 : p.values.length ≤ maxLen) (h2 : p.clock.length ≤ maxLen) : ACall Try.prog 135 [.d (.agg (encPk p))] [] (.d (.bool (data p))) [] := by
 first | refine q8h.go ?_ | refine q8h.goT ?_
 simp only [encPk, go_sem, Nat.reduceAdd, Nat.reduceMul, Nat.reduceSub, Nat.reduceEqDiff, Nat.reduceLT, Nat.reduceLeDiff, Nat.reduceBEq, reduceIte, reduceCtorEq, Int.reduceAdd, Int.reduceLT, Int.reduceLE, Int.reduceGT, Int.reduceGE, Int.reduceEq, Int.reduceNe, Int.reduceBEq, Int.reduceBNe, Int.reduceToNat, Int.reduceNeg]
 refine qm (qc6 p) q68.body (fun h => h) (fun _ => ⟨qb, trivial⟩) (kg p) rfl rfl ?_
 simp only [go_sem, Nat.reduceAdd, Nat.reduceMul, Nat.reduceSub, Nat.reduceEqDiff, Nat.reduceLT, Nat.reduceLeDiff, Nat.reduceBEq, reduceIte, reduceCtorEq, Int.reduceAdd, Int.reduceLT, Int.reduceLE, Int.reduceGT, Int.reduceGE, Int.reduceEq, Int.reduceNe, Int.reduceBEq, Int.reduceBNe, Int.reduceToNat, Int.reduceNeg]
 refine ⟨by simp_all, ?_⟩
 refine qm (qiu q7v.body qt5 p.values h1) q8f.body (fun h => h) (fun _ => ⟨qb, qb, trivial⟩) (by simp [ASlot.noPtr, D.noPtr, D.noPtrL, qo zd]) rfl rfl ?_
 simp only [go_sem, Nat.reduceAdd, Nat.reduceMul, Nat.reduceSub, Nat.reduceEqDiff, Nat.reduceLT, Nat.reduceLeDiff, Nat.reduceBEq, reduceIte, reduceCtorEq, Int.reduceAdd, Int.reduceLT, Int.reduceLE, Int.reduceGT, Int.reduceGE, Int.reduceEq, Int.reduceNe, Int.reduceBEq, Int.reduceBNe, Int.reduceToNat, Int.reduceNeg]
 refine qm (qiv q7w.body qt6 p.clock h2) q8g.body (fun h => h) (fun _ => ⟨qb, qb, trivial⟩) (by simp [ASlot.noPtr, D.noPtr, D.noPtrL, qo zy]) rfl rfl ?_
 simp only [go_sem, Nat.reduceAdd, Nat.reduceMul, Nat.reduceSub, Nat.reduceEqDiff, Nat.reduceLT, Nat.reduceLeDiff, Nat.reduceBEq, reduceIte, reduceCtorEq, Int.reduceAdd, Int.reduceLT, Int.reduceLE, Int.reduceGT, Int.reduceGE, Int.reduceEq, Int.reduceNe, Int.reduceBEq, Int.reduceBNe, Int.reduceToNat, Int.reduceNeg]
 rfl
def kindOk (p : Pk) : Bool := decide (p.kind ≥ 1) && decide (p.kind ≤ 4) && decide (p.sess ≥ 1) && decide (p.sess ≤ 32)
def packetValid (p : Pk) : Bool := kindOk p && (if p.kind = 1 then data p else if p.kind = 2 then ack p else order p)
theorem qsc (p : Pk) (h1 : p.values.length ≤ maxLen) (h2 : p.clock.length ≤ maxLen) : ACall Try.prog 101 [.d (.agg (encPk p))] [] (.d (.bool (packetValid p))) [] := by
 first | refine xgz.go ?_ | refine xgz.goT ?_
 simp only [encPk, go_sem, Nat.reduceAdd, Nat.reduceMul, Nat.reduceSub, Nat.reduceEqDiff, Nat.reduceLT, Nat.reduceLeDiff, Nat.reduceBEq, reduceIte, reduceCtorEq, Int.reduceAdd, Int.reduceLT, Int.reduceLE, Int.reduceGT, Int.reduceGE, Int.reduceEq, Int.reduceNe, Int.reduceBEq, Int.reduceBNe, Int.reduceToNat, Int.reduceNeg]
 have hk : (decide (p.kind ≥ 1) && decide (p.kind ≤ 4) && decide (p.sess ≥ 1) && decide (p.sess ≤ 32)) = kindOk p := rfl
 simp only [hk]
 cases hG : kindOk p with
 | false =>
  simp only [go_sem, Nat.reduceAdd, Nat.reduceMul, Nat.reduceSub, Nat.reduceEqDiff, Nat.reduceLT, Nat.reduceLeDiff, Nat.reduceBEq, reduceIte, reduceCtorEq, Int.reduceAdd, Int.reduceLT, Int.reduceLE, Int.reduceGT, Int.reduceGE, Int.reduceEq, Int.reduceNe, Int.reduceBEq, Int.reduceBNe, Int.reduceToNat, Int.reduceNeg]
  refine qcy (.bool false) rfl ?_
  simp only [packetValid, hG, go_sem, Nat.reduceAdd, Nat.reduceMul, Nat.reduceSub, Nat.reduceEqDiff, Nat.reduceLT, Nat.reduceLeDiff, Nat.reduceBEq, reduceIte, reduceCtorEq, Int.reduceAdd, Int.reduceLT, Int.reduceLE, Int.reduceGT, Int.reduceGE, Int.reduceEq, Int.reduceNe, Int.reduceBEq, Int.reduceBNe, Int.reduceToNat, Int.reduceNeg]
 | true =>
  have h4 : p.kind = 1 ∨ p.kind = 2 ∨ p.kind = 3 ∨ p.kind = 4 := by simp [kindOk] at hG; omega
  rcases h4 with hp | hp | hp | hp <;> simp only [hp, Int.reduceToNat, Int.reduceLE, Int.reduceLT, go_sem, Nat.reduceAdd, Nat.reduceMul, Nat.reduceSub, Nat.reduceEqDiff, Nat.reduceLT, Nat.reduceLeDiff, Nat.reduceBEq, reduceIte, reduceCtorEq, Int.reduceAdd, Int.reduceLT, Int.reduceLE, Int.reduceGT, Int.reduceGE, Int.reduceEq, Int.reduceNe, Int.reduceBEq, Int.reduceBNe, Int.reduceToNat, Int.reduceNeg]
  ·refine qm (qwk p h1 h2) q8h.body (fun h => h) (fun _ => ⟨by simp [matchA, ASlot.eqvD, D.eqv_refl, encPk, hp], trivial⟩) (kg p) rfl rfl ?_
   simp only [packetValid, hG, hp, go_sem, Nat.reduceAdd, Nat.reduceMul, Nat.reduceSub, Nat.reduceEqDiff, Nat.reduceLT, Nat.reduceLeDiff, Nat.reduceBEq, reduceIte, reduceCtorEq, Int.reduceAdd, Int.reduceLT, Int.reduceLE, Int.reduceGT, Int.reduceGE, Int.reduceEq, Int.reduceNe, Int.reduceBEq, Int.reduceBNe, Int.reduceToNat, Int.reduceNeg]
  ·refine qm (qzb p) q7u.body (fun h => h) (fun _ => ⟨by simp [matchA, ASlot.eqvD, D.eqv_refl, encPk, hp], trivial⟩) (kg p) rfl rfl ?_
   simp only [packetValid, hG, hp, go_sem, Nat.reduceAdd, Nat.reduceMul, Nat.reduceSub, Nat.reduceEqDiff, Nat.reduceLT, Nat.reduceLeDiff, Nat.reduceBEq, reduceIte, reduceCtorEq, Int.reduceAdd, Int.reduceLT, Int.reduceLE, Int.reduceGT, Int.reduceGE, Int.reduceEq, Int.reduceNe, Int.reduceBEq, Int.reduceBNe, Int.reduceToNat, Int.reduceNeg]
  ·refine qm (qmh p) q7a.body (fun h => h) (fun _ => ⟨by simp [matchA, ASlot.eqvD, D.eqv_refl, encPk, hp], trivial⟩) (kg p) rfl rfl ?_
   simp only [packetValid, hG, hp, go_sem, Nat.reduceAdd, Nat.reduceMul, Nat.reduceSub, Nat.reduceEqDiff, Nat.reduceLT, Nat.reduceLeDiff, Nat.reduceBEq, reduceIte, reduceCtorEq, Int.reduceAdd, Int.reduceLT, Int.reduceLE, Int.reduceGT, Int.reduceGE, Int.reduceEq, Int.reduceNe, Int.reduceBEq, Int.reduceBNe, Int.reduceToNat, Int.reduceNeg]
  ·refine qm (qmh p) q7a.body (fun h => h) (fun _ => ⟨by simp [matchA, ASlot.eqvD, D.eqv_refl, encPk, hp], trivial⟩) (kg p) rfl rfl ?_
   simp only [packetValid, hG, hp, go_sem, Nat.reduceAdd, Nat.reduceMul, Nat.reduceSub, Nat.reduceEqDiff, Nat.reduceLT, Nat.reduceLeDiff, Nat.reduceBEq, reduceIte, reduceCtorEq, Int.reduceAdd, Int.reduceLT, Int.reduceLE, Int.reduceGT, Int.reduceGE, Int.reduceEq, Int.reduceNe, Int.reduceBEq, Int.reduceBNe, Int.reduceToNat, Int.reduceNeg]
end Go.Proofs.Ytinnaedmdoengaa
namespace Go.Proofs.Ytinnaedmdoengaa
open Go.Abs
set_option linter.unusedSimpArgs false
structure OpS where
 key : List UInt8
 del : Bool
 val : List UInt8
 deriving DecidableEq, Inhabited
def encOp (o : OpS) : List D := [.str o.key, .bool o.del, .sl 1 (byteRows o.val)]
theorem yh (o : OpS) : D.noPtrL (encOp o) = true := by simp only [encOp, D.noPtrL, D.noPtr, xw, Bool.and_self]
theorem zr (l : List OpS) : D.noPtrR (l.map encOp) = true := qo yh l
attribute [go_sem] yh zr
noncomputable section
set_option maxRecDepth 100000
def s70r0 : List SOper := [
 ⟨some 1, .box 1 (.t 0), none⟩,
 ⟨some 2, .mov (.k (.d (.bool false))), none⟩]
def s70r1 : List SOper := [
 ⟨some 3, .faddr 0 (.t 1), none⟩,
 ⟨some 4, .load none (.t 3), none⟩,
 ⟨some 5, .lenS (.t 4), none⟩,
 ⟨some 6, .bin .geq (.t 5) (.k (.d (.int .i64 1))), none⟩,
 ⟨some 7, .mov (.t 6), none⟩,
 ⟨some 8, .faddr 0 (.t 1), some (7, true)⟩,
 ⟨some 9, .load none (.t 8), some (7, true)⟩,
 ⟨some 10, .lenS (.t 9), some (7, true)⟩,
 ⟨some 11, .bin .leq (.t 10) (.k (.d (.int .i64 40))), some (7, true)⟩,
 ⟨some 12, .pick (.t 7) (.t 11) (.k (.d (.bool false))), none⟩,
 ⟨some 13, .mov (.t 12), none⟩,
 ⟨some 14, .faddr 2 (.t 1), some (13, true)⟩,
 ⟨some 15, .load none (.t 14), some (13, true)⟩,
 ⟨some 16, .len (.t 15), some (13, true)⟩,
 ⟨some 17, .bin .leq (.t 16) (.k (.d (.int .i64 900))), some (13, true)⟩,
 ⟨some 18, .pick (.t 13) (.t 17) (.k (.d (.bool false))), none⟩,
 ⟨some 19, .mov (.t 18), none⟩,
 ⟨some 20, .faddr 1 (.t 1), some (19, true)⟩,
 ⟨some 21, .load none (.t 20), some (19, true)⟩,
 ⟨some 22, .mov (.t 21), some (19, true)⟩,
 ⟨some 23, .faddr 2 (.t 1), some (22, true)⟩,
 ⟨some 24, .load none (.t 23), some (22, true)⟩,
 ⟨some 25, .len (.t 24), some (22, true)⟩,
 ⟨some 26, .bin .gtr (.t 25) (.k (.d (.int .i64 0))), some (22, true)⟩,
 ⟨some 27, .pick (.t 22) (.t 26) (.k (.d (.bool false))), some (19, true)⟩,
 ⟨some 28, .not (.t 27), some (19, true)⟩,
 ⟨some 29, .pick (.t 19) (.t 28) (.k (.d (.bool false))), none⟩,
 ⟨some 2, .mov (.t 29), none⟩]
def s70 : SCode := (.seq (.region s70r0 1 []) (.seq (.region s70r1 0 []) .ret))
theorem e70 : CodeIs s70.eq_1 := qc s70.eq_1
theorem q8i : RegIs s70r0.eq_1 := qa
theorem q8j : RegIs s70r1.eq_1 := qa
attribute [go_sem] q8i q8j e70
theorem F70 : FnIs Try.prog 70 Try.f70 [] news s70 [.tmp 2] 30 := xe follows Try.func70
def s69r0 : List SOper := [
 ⟨some 1, .box 1 (.t 0), none⟩,
 ⟨some 2, .mov (.k (.d (.bool false))), none⟩]
def s69r1 : List SOper := [
 ⟨some 3, .load (some 3) (.t 1), none⟩,
 ⟨some 4, .call (.k (.d (.func (.func 70) [] []))) [(.t 3)], none⟩,
 ⟨some 5, .not (.t 4), none⟩,
 ⟨some 2, .mov (.t 5), none⟩]
def s69 : SCode := (.seq (.region s69r0 1 []) (.seq (.region s69r1 0 []) .ret))
theorem e69 : CodeIs s69.eq_1 := qc s69.eq_1
theorem q8k : RegIs s69r0.eq_1 := qa
theorem q8l : RegIs s69r1.eq_1 := qa
attribute [go_sem] q8k q8l e69
theorem F69 : FnIs Try.prog 69 Try.f69 [] news s69 [.tmp 2] 6 := xe follows Try.func69
def s110r0 : List SOper := [
 ⟨some 4, .mov (.k (.d (.int .i64 0))), none⟩]
def s110r1 : List SOper := [
 ⟨some 6, .mov (.t 0), none⟩,
 ⟨some 7, .len (.t 6), none⟩,
 ⟨some 8, .mov (.k (.d (.int .i64 0))), none⟩]
def s110r2 : List SOper := [
 ⟨some 9, .bin .lss (.t 8) (.t 7), none⟩]
def s110r3 : List SOper := [
 ⟨some 10, .mov (.t 8), none⟩,
 ⟨some 5, .mov (.t 10), none⟩]
def s110r4 : List SOper := [
 ⟨some 11, .mov (.t 1), none⟩,
 ⟨some 12, .mov (.t 0), none⟩,
 ⟨some 13, .mov (.t 5), none⟩,
 ⟨some 14, .iaddr 3 (.t 12) (.t 13), none⟩,
 ⟨some 15, .load (some 3) (.t 14), none⟩,
 ⟨some 16, .call (.t 11) [(.t 15)], none⟩]
def s110r5 : List SOper := [
 ⟨some 17, .mov (.t 5), none⟩,
 ⟨some 4, .mov (.t 17), none⟩]
def s110r6 : List SOper := [
 ⟨some 18, .bin .add (.t 8) (.k (.d (.int .i64 1))), none⟩,
 ⟨some 8, .mov (.t 18), none⟩]
def s110l7 : SCode := (.seq (.region s110r2 0 []) (.seq (.cond (.t 9) .skip (.exit 0)) (.seq (.block 1 (.seq (.region s110r3 0 []) (.seq (.region s110r4 0 []) (.cond (.t 16) (.seq (.region s110r5 0 []) .ret) .skip)))) (.region s110r6 0 []))))
theorem qz3 : CodeIs s110l7.eq_1 := qc s110l7.eq_1
def s110r8 : List SOper := [
 ⟨some 4, .mov (.k (.d (.int .i64 (-1)))), none⟩]
def s110 : SCode := (.seq (.region s110r0 0 []) (.seq (.seq (.region s110r1 0 []) (.block 0 (.loop s110l7))) (.seq (.region s110r8 0 []) .ret)))
theorem xhx : CodeIs s110.eq_1 := qc s110.eq_1
theorem qz4 : RegIs s110r0.eq_1 := qa
theorem qz5 : RegIs s110r1.eq_1 := qa
theorem qz6 : RegIs s110r2.eq_1 := qa
theorem qz7 : RegIs s110r3.eq_1 := qa
theorem qz8 : RegIs s110r4.eq_1 := qa
theorem qz9 : RegIs s110r5.eq_1 := qa
theorem q0a : RegIs s110r6.eq_1 := qa
theorem q0b : RegIs s110r8.eq_1 := qa
attribute [go_sem] qz4 qz5 qz6 qz7 qz8 qz9 q0a qz3 q0b xhx
theorem q0c : FnIs Try.prog 110 Try.f110 [] news s110 [.tmp 4] 19 := xe follows Try.func110
def s68r0 : List SOper := [
 ⟨some 4, .mov (.k (.d (.bool false))), none⟩]
def s68r1 : List SOper := [
 ⟨some 5, .mov (.t 0), none⟩,
 ⟨some 6, .mov (.t 1), none⟩,
 ⟨some 7, .call (.k (.d (.func (.func 110) [] []))) [(.t 5), (.t 6)], none⟩,
 ⟨some 8, .bin .geq (.t 7) (.k (.d (.int .i64 0))), none⟩,
 ⟨some 4, .mov (.t 8), none⟩]
def s68 : SCode := (.seq (.region s68r0 0 []) (.seq (.region s68r1 0 []) .ret))
theorem e68 : CodeIs s68.eq_1 := qc s68.eq_1
theorem q8m : RegIs s68r0.eq_1 := qa
theorem q8n : RegIs s68r1.eq_1 := qa
attribute [go_sem] q8m q8n e68
theorem F68 : FnIs Try.prog 68 Try.f68 [] news s68 [.tmp 4] 9 := xe follows Try.func68
def s30r0 : List SOper := [
 ⟨some 2, .mov (.k (.d .nilsl)), none⟩,
 ⟨some 3, .mov (.k (.d (.int .i64 0))), none⟩]
def s30r1 : List SOper := [
 ⟨some 7, .mov (.t 0), none⟩,
 ⟨some 8, .len (.t 7), none⟩,
 ⟨some 9, .bin .eql (.t 8) (.k (.d (.int .i64 0))), none⟩,
 ⟨some 10, .mov (.t 9), none⟩,
 ⟨some 11, .mov (.t 0), some (10, false)⟩,
 ⟨some 12, .call (.k (.d (.func (.func 68) [] []))) [(.t 11), (.k (.d (.func (.func 69) [] [])))], some (10, false)⟩,
 ⟨some 13, .pick (.t 10) (.k (.d (.bool true))) (.t 12), none⟩]
def s30r2 : List SOper := [
 ⟨some 2, .mov (.k (.d .nilsl)), none⟩,
 ⟨some 3, .mov (.k (.d (.int .i64 1))), none⟩]
def s30r3 : List SOper := [
 ⟨some 14, .mov (.t 0), none⟩,
 ⟨some 15, .len (.t 14), none⟩,
 ⟨some 16, .call (.k (.d (.func (.func 71) [] []))) [(.k (.d .nilsl)), (.t 15)], none⟩,
 ⟨some 4, .mov (.t 16), none⟩]
def s30r4 : List SOper := [
 ⟨some 17, .mov (.t 0), none⟩,
 ⟨some 18, .len (.t 17), none⟩,
 ⟨some 19, .mov (.k (.d (.int .i64 0))), none⟩]
def s30r5 : List SOper := [
 ⟨some 20, .bin .lss (.t 19) (.t 18), none⟩]
def s30r6 : List SOper := [
 ⟨some 21, .iaddr 3 (.t 17) (.t 19), none⟩,
 ⟨some 22, .load (some 3) (.t 21), none⟩,
 ⟨some 6, .alloc 1 [(.d (.str [])), (.d (.bool false)), (.d .nilsl)], none⟩,
 ⟨none, .store (some 3) (.t 6) (.t 22), none⟩]
def s30r7 : List SOper := [
 ⟨some 23, .mov (.t 4), none⟩,
 ⟨some 24, .faddr 0 (.t 6), none⟩,
 ⟨some 25, .load none (.t 24), none⟩,
 ⟨some 26, .call (.k (.d (.func (.func 74) [] []))) [(.t 23), (.t 25)], none⟩,
 ⟨some 27, .faddr 1 (.t 6), none⟩,
 ⟨some 28, .load none (.t 27), none⟩,
 ⟨some 29, .call (.k (.d (.func (.func 73) [] []))) [(.t 26), (.t 28)], none⟩,
 ⟨some 30, .faddr 2 (.t 6), none⟩,
 ⟨some 31, .load none (.t 30), none⟩,
 ⟨some 32, .call (.k (.d (.func (.func 72) [] []))) [(.t 29), (.t 31)], none⟩,
 ⟨some 4, .mov (.t 32), none⟩]
def s30r8 : List SOper := [
 ⟨some 33, .bin .add (.t 19) (.k (.d (.int .i64 1))), none⟩,
 ⟨some 19, .mov (.t 33), none⟩]
def s30l9 : SCode := (.seq (.region s30r5 0 []) (.seq (.cond (.t 20) .skip (.exit 0)) (.seq (.block 1 (.seq (.region s30r6 1 []) (.region s30r7 0 [(3, 5), (3, 8), (6, 8)]))) (.region s30r8 0 []))))
theorem q8o : CodeIs s30l9.eq_1 := qc s30l9.eq_1
def s30r10 : List SOper := [
 ⟨some 34, .mov (.t 0), none⟩,
 ⟨some 35, .len (.t 34), none⟩,
 ⟨some 36, .bin .gtr (.t 35) (.k (.d (.int .i64 20))), none⟩,
 ⟨some 37, .mov (.t 36), none⟩,
 ⟨some 38, .mov (.t 4), some (37, false)⟩,
 ⟨some 39, .len (.t 38), some (37, false)⟩,
 ⟨some 40, .bin .gtr (.t 39) (.k (.d (.int .i64 2000))), some (37, false)⟩,
 ⟨some 41, .pick (.t 37) (.k (.d (.bool true))) (.t 40), none⟩]
def s30r11 : List SOper := [
 ⟨some 2, .mov (.k (.d .nilsl)), none⟩,
 ⟨some 3, .mov (.k (.d (.int .i64 6))), none⟩]
def s30r12 : List SOper := [
 ⟨some 42, .mov (.t 4), none⟩,
 ⟨some 2, .mov (.t 42), none⟩,
 ⟨some 3, .mov (.k (.d (.int .i64 0))), none⟩]
def s30 : SCode := (.seq (.region s30r0 0 []) (.seq (.seq (.region s30r1 0 []) (.cond (.t 13) (.seq (.region s30r2 0 []) .ret) .skip)) (.seq (.region s30r3 0 []) (.seq (.seq (.region s30r4 0 []) (.block 0 (.loop s30l9))) (.seq (.seq (.region s30r10 0 []) (.cond (.t 41) (.seq (.region s30r11 0 []) .ret) .skip)) (.seq (.region s30r12 0 []) .ret))))))
theorem e30 : CodeIs s30.eq_1 := qc s30.eq_1
theorem q8p : RegIs s30r0.eq_1 := qa
theorem q8q : RegIs s30r1.eq_1 := qa
theorem q8r : RegIs s30r2.eq_1 := qa
theorem q8s : RegIs s30r3.eq_1 := qa
theorem q8t : RegIs s30r4.eq_1 := qa
theorem q8u : RegIs s30r5.eq_1 := qa
theorem q8v : RegIs s30r6.eq_1 := qa
theorem q8w : RegIs s30r7.eq_1 := qa
theorem q8x : RegIs s30r8.eq_1 := qa
theorem q0d : RegIs s30r10.eq_1 := qa
theorem q0e : RegIs s30r11.eq_1 := qa
theorem q0f : RegIs s30r12.eq_1 := qa
attribute [go_sem] q8p q8q q8r q8s q8t q8u q8v q8w q8x q8o q0d q0e q0f e30
theorem F30 : FnIs Try.prog 30 Try.f30 [] news s30 [.tmp 2, .tmp 3] 43 := xe follows Try.func30
end
def sProper (o : OpS) : Bool := decide ((o.key.length : Int) ≥ 1) && decide ((o.key.length : Int) ≤ 40) && decide ((o.val.length : Int) ≤ 900) && !(o.del && decide ((o.val.length : Int) > 0))
theorem qe6 (o : OpS) : ACall Try.prog 70 [.d (.agg (encOp o))] [] (.d (.bool (sProper o))) [] := by
 refine F70.go ?_
 try (refine ev1 @encOp.eq_1 ?_; try exact True.intro)
 simp only [sProper, and_true]
 intro h
 refine ⟨h, fun h2 => ?_⟩
 rw [h, h2]; rfl
theorem qa6 (o : OpS) : ACall Try.prog 69 [.d (.agg (encOp o))] [] (.d (.bool (!sProper o))) [] := by
 refine F69.go ?_
 try (refine ev1 @encOp.eq_1 ?_; try exact True.intro)
 (repeat (with_reducible refine ob ?_)); first | refine cl F70 (qe6 o) ?_ | refine clF F70 (qe6 o) (fun _ => by simp only [encOp, go_sem, Nat.reduceAdd, Nat.reduceMul, Nat.reduceSub, Nat.reduceEqDiff, Nat.reduceLT, Nat.reduceLeDiff, Nat.reduceBEq, reduceIte, reduceCtorEq, Int.reduceAdd, Int.reduceLT, Int.reduceLE, Int.reduceGT, Int.reduceGE, Int.reduceEq, Int.reduceNe, Int.reduceBEq, Int.reduceBNe, Int.reduceToNat, Int.reduceNeg]) ?_
 try (refine ev ?_; try exact True.intro)
def SidxO (k : FuncId) (l : List OpS) (f : OpS → Bool) (i : { i : Nat // (l.take i).any f = false }) : St :=
 ⟨[(0, true, .d (.sl 3 (l.map encOp))), (1, true, .d (.func (.func k) [] [])), (7, true, .d (.int .i64 l.length)), (8, true, .d (.int .i64 (i.val : Nat)))], [], [], 1⟩
theorem qiw {k : FuncId} {f : OpS → Bool} (hb : (Try.prog.funcs[k]?).any (fun fn => fn.body.isSome && !(fn.name == "runtime.NumGoroutine")) = true)
  (hf : ∀ v, ACall Try.prog k [.d (.agg (encOp v))] [] (.d (.bool (f v))) []) (l : List OpS) (hl : l.length ≤ maxLen) :
  ACall Try.prog 110 [.d (.sl 3 (l.map encOp)), .d (.func (.func k) [] [])] [] (.d (.int .i64 (idx f l))) [] := by
 refine q0c.go ?_
 try (refine ev ?_; try exact True.intro)
 refine ql (SidxO k l f) (fun i => l.length - i.val) ⟨0, rfl⟩ ?_ (fun i => ?_)
 ·try (refine ev1 @SidxO.eq_1 ?_; try exact True.intro)
 obtain ⟨i, hi⟩ := i
 try (refine ev1 @SidxO.eq_1 ?_; try exact True.intro)
 (repeat (with_reducible refine ob ?_)); refine xk _ (fun h => ?_) (fun h => ?_)
 ·have hil : i < l.length := by simpa using h
  simp only [qq encOp l hil, encOp, go_sem, Nat.reduceAdd, Nat.reduceMul, Nat.reduceSub, Nat.reduceEqDiff, Nat.reduceLT, Nat.reduceLeDiff, Nat.reduceBEq, reduceIte, reduceCtorEq, Int.reduceAdd, Int.reduceLT, Int.reduceLE, Int.reduceGT, Int.reduceGE, Int.reduceEq, Int.reduceNe, Int.reduceBEq, Int.reduceBNe, Int.reduceToNat, Int.reduceNeg]
  (repeat (with_reducible refine ob ?_))
  refine qm (hf l[i]) hb (fun h => h) (fun _ => ⟨qb, trivial⟩) (by try (refine ev1 @encOp.eq_1 ?_; try exact True.intro)) rfl rfl ?_
  try (refine ev ?_; try exact True.intro)
  (repeat (with_reducible refine ob ?_)); refine xk _ (fun h => ?_) (fun h => ?_)
  ·try (refine ev1 (qaf hi hil h) ?_; try exact True.intro)
  ·try (refine ev ?_; try exact True.intro)
   refine ⟨⟨i + 1, zq hi hil (by simpa using h)⟩, ?_, by dsimp only; omega⟩
   try (refine ev2 @SidxO.eq_1 (qj (show i < 9223372036854775807 by unfold maxLen at hl; omega)) ?_; try exact True.intro)
 ·have hil : l.length ≤ i := by simpa using h
  try (refine ev1 (qae hi hil) ?_; try exact True.intro)
theorem qbt {k : FuncId} {f : OpS → Bool} (hb : (Try.prog.funcs[k]?).any (fun fn => fn.body.isSome && !(fn.name == "runtime.NumGoroutine")) = true)
  (hf : ∀ v, ACall Try.prog k [.d (.agg (encOp v))] [] (.d (.bool (f v))) []) (l : List OpS) (hl : l.length ≤ maxLen) :
  ACall Try.prog 68 [.d (.sl 3 (l.map encOp)), .d (.func (.func k) [] [])] [] (.d (.bool (l.any f))) [] := by
 refine F68.go ?_
 try (refine ev ?_; try exact True.intro)
 (repeat (with_reducible refine ob ?_)); first | refine cl q0c (qiw hb hf l hl) ?_ | refine clF q0c (qiw hb hf l hl) (fun _ => by simp only [encOp, go_sem, Nat.reduceAdd, Nat.reduceMul, Nat.reduceSub, Nat.reduceEqDiff, Nat.reduceLT, Nat.reduceLeDiff, Nat.reduceBEq, reduceIte, reduceCtorEq, Int.reduceAdd, Int.reduceLT, Int.reduceLE, Int.reduceGT, Int.reduceGE, Int.reduceEq, Int.reduceNe, Int.reduceBEq, Int.reduceBNe, Int.reduceToNat, Int.reduceNeg]) ?_
 try (refine ev1 @qit ?_; try exact True.intro)
def wOp (o : OpS) : List UInt8 := wText o.key ++ [if o.del then 1 else 0] ++ wText o.val
def wOps (l : List OpS) : List UInt8 := wInt l.length ++ l.flatMap wOp
def sEncode (l : List OpS) : List UInt8 × Int :=
 if l.length = 0 || l.any (fun o => !sProper o) then ([], 1) else if l.length > 20 || (wOps l).length > 2000 then ([], 6) else (wOps l, 0)
theorem xp {o : OpS} : sProper o = true ↔ 1 ≤ o.key.length ∧ o.key.length ≤ 40 ∧ o.val.length ≤ 900 ∧ (o.del = true → o.val.length = 0) := by
 unfold sProper
 cases o.del <;> simp [-List.length_eq_zero_iff] <;> omega
theorem ku (s : List UInt8) (h : s.length ≤ 900000000) : (wText s).length ≤ s.length + 10 := by
 have := zp (xc (n := s.length) (by omega))
 simp [wText]; omega
theorem qld {o : OpS} (h : sProper o = true) : (wOp o).length ≤ 1000 := by
 obtain ⟨h1, h2, h3, _⟩ := xp.1 h
 have k1 := ku o.key (Nat.le_trans h2 (by decide))
 have k2 := ku o.val (Nat.le_trans h3 (by decide))
 simp only [wOp, List.length_append, List.length_cons, List.length_nil]; omega
theorem wd {l : List OpS} (h : ∀ o ∈ l, sProper o = true) : (l.flatMap wOp).length ≤ l.length * 1000 := by
 induction l with
 | nil => simp
 | cons o l ih =>
  have h1 := qld (h o List.mem_cons_self)
  have h2 := ih (fun x hx => h x (List.mem_cons_of_mem _ hx))
  simp only [List.flatMap_cons, List.length_append, List.length_cons]
  omega
def Senc (l : List OpS) (i : { i : Nat // i ≤ l.length }) : St :=
 ⟨[(0, true, .d (.sl 3 (l.map encOp))), (4, true, .own 0 1 (byteRows (wInt l.length ++ (l.take i.val).flatMap wOp))), (17, true, .d (.sl 3 (l.map encOp))), (18, true, .d (.int .i64 l.length)), (19, true, .d (.int .i64 (i.val : Nat)))], [], [0], 1⟩
theorem vy : (Try.prog.funcs[69]?).any (fun fn => fn.body.isSome && !(fn.name == "runtime.NumGoroutine")) = true := F69.body
theorem qda {α β : Type} (f : α → List β) (l : List α) {i : Nat} (h : i < l.length) : (l.take (i + 1)).flatMap f = (l.take i).flatMap f ++ f l[i] := by
 rw [List.take_succ_eq_append_getElem h, List.flatMap_append, List.flatMap_cons, List.flatMap_nil, List.append_nil]
theorem we (l : List OpS) (hl : l.length ≤ 100000) : ACall Try.prog 30 [.d (.sl 3 (l.map encOp))] [] (.tup [.d (.sl 1 (byteRows (sEncode l).1)), .d (.int .i64 (sEncode l).2)]) [] := by
 refine F30.goT ?_
 try (refine ev ?_; try exact True.intro)
 (repeat (with_reducible refine ob ?_)); first | refine cl F68 (qbt vy qa6 l (by unfold maxLen; omega)) ?_ | refine clF F68 (qbt vy qa6 l (by unfold maxLen; omega)) (fun _ => by simp only [encOp, go_sem, Nat.reduceAdd, Nat.reduceMul, Nat.reduceSub, Nat.reduceEqDiff, Nat.reduceLT, Nat.reduceLeDiff, Nat.reduceBEq, reduceIte, reduceCtorEq, Int.reduceAdd, Int.reduceLT, Int.reduceLE, Int.reduceGT, Int.reduceGE, Int.reduceEq, Int.reduceNe, Int.reduceBEq, Int.reduceBNe, Int.reduceToNat, Int.reduceNeg]) ?_
 try (refine ev ?_; try exact True.intro)
 (repeat (with_reducible refine ob ?_))
 (repeat (with_reducible refine ob ?_)); refine xk _ (fun h => ?_) (fun h => ?_)
 ·have hb : sEncode l = ([], 1) := by
   unfold sEncode
   rw [if_pos]
   simp only [Bool.or_eq_true, decide_eq_true_eq, beq_iff_eq] at h ⊢
   rcases h with h | h
   ·left; omega
   ·right; exact h
  try (refine ev2 @hb @qk ?_; try exact True.intro)
 have hne : ¬ (decide (l.length = 0) || l.any (fun o => !sProper o)) = true := by
  simp only [Bool.or_eq_true, decide_eq_true_eq, not_or]
  simp only [Bool.or_eq_false_iff, beq_eq_false_iff_ne] at h
  exact ⟨by omega, by simp [h.2]⟩
 have hpr : ∀ o ∈ l, sProper o = true := by
  simp only [Bool.or_eq_true, not_or, List.any_eq_true, not_exists, not_and] at hne
  intro o ho
  simpa using hne.2 o ho
 have hwl := wd hpr
 have hil0 := zp (xc (n := l.length) (by omega))
 try (refine ev ?_; try exact True.intro)
 refine clA F71 (wc [] l.length (by simp) (xc (by omega))) ?_
 try (refine ev ?_; try exact True.intro)
 refine ql (Senc l) (fun i => l.length - i.val) ⟨0, Nat.zero_le _⟩ ?_ (fun i => ?_)
 ·try (refine ev2 @Senc.eq_1 @List.take_zero.{0} ?_; try exact True.intro)
 obtain ⟨i, hi⟩ := i
 try (refine ev1 @Senc.eq_1 ?_; try exact True.intro)
 (repeat (with_reducible refine ob ?_)); refine xk _ (fun h => ?_) (fun h => ?_)
 ·have hil : i < l.length := by simpa using h
  have ho := hpr l[i] (List.getElem_mem hil)
  obtain ⟨p1, p2, p3, _⟩ := xp.1 ho
  have hpre : (wInt l.length ++ (l.take i).flatMap wOp).length ≤ 100000020 := by
   have := wd (l := l.take i) (fun o h => hpr o (List.mem_of_mem_take h))
   simp only [List.length_append, List.length_take] at this ⊢
   have : min i l.length ≤ 100000 := by omega
   omega
  have k1 := ku l[i].key (by omega)
  try (refine ev2 (qq encOp l hil) @encOp.eq_1 ?_; try exact True.intro)
  (repeat (with_reducible refine ob ?_))
  refine clA F74 (qc9 (wInt l.length ++ (l.take i).flatMap wOp) l[i].key (by omega)) ?_
  try (refine ev ?_; try exact True.intro)
  refine clA F73 (qc8 ((wInt l.length ++ (l.take i).flatMap wOp) ++ wText l[i].key) l[i].del (by simp only [List.length_append] at hpre ⊢; omega)) ?_
  try (refine ev ?_; try exact True.intro)
  refine clA F72 (qbs ((wInt l.length ++ (l.take i).flatMap wOp) ++ wText l[i].key ++ [if l[i].del then 1 else 0]) l[i].val (by simp only [List.length_append, List.length_cons, List.length_nil] at hpre ⊢; omega)) ?_
  try (refine ev ?_; try exact True.intro)
  have e : wInt l.length ++ (l.take i).flatMap wOp ++ wText l[i].key ++ [if l[i].del then 1 else 0] ++ wText l[i].val = wInt l.length ++ (l.take (i + 1)).flatMap wOp := by
   rw [qda wOp l hil, wOp]; simp only [List.append_assoc]
  refine ⟨⟨i + 1, hil⟩, ?_, by dsimp only; omega⟩
  try (refine ev3 @Senc.eq_1 @e (qj (show i < 9223372036854775807 by omega)) ?_; try exact True.intro)
 ·have hie : i = l.length := by simp at h; omega
  subst hie
  try (refine ev1 @List.take_length.{0} ?_; try exact True.intro)
  have hw : wInt l.length ++ l.flatMap wOp = wOps l := rfl
  have hw2 : (wOps l).length = (wInt l.length).length + (l.flatMap wOp).length := by rw [wOps, List.length_append]
  try (refine ev1 @hw ?_; try exact True.intro)
  (repeat (with_reducible refine ob ?_)); refine xk _ (fun h => ?_) (fun h => ?_)
  ·have hb : sEncode l = ([], 6) := by
    unfold sEncode
    rw [if_neg hne, if_pos]
    simp only [Bool.or_eq_true, decide_eq_true_eq] at h ⊢
    omega
   try (refine ev2 @hb @qk ?_; try exact True.intro)
  ·have hb : sEncode l = (wOps l, 0) := by
    unfold sEncode
    rw [if_neg hne, if_neg]
    simp only [Bool.or_eq_true, Bool.or_eq_false_iff, decide_eq_true_eq, decide_eq_false_iff_not] at h ⊢
    omega
   try (refine ev1 @hb ?_; try exact True.intro)
end Go.Proofs.Ytinnaedmdoengaa
namespace Go.Proofs.Ytinnaedmdoengaa
open Go.Abs
set_option linter.unusedSimpArgs false
noncomputable section
set_option maxRecDepth 100000
def s123r0 : List SOper := [
 ⟨some 4, .mov (.k (.d (.int .u64 0))), none⟩]
def s123r1 : List SOper := [
 ⟨some 7, .mov (.t 1), none⟩,
 ⟨some 8, .len (.t 7), none⟩,
 ⟨some 9, .mov (.k (.d (.int .i64 0))), none⟩]
def s123r2 : List SOper := [
 ⟨some 10, .bin .lss (.t 9) (.t 8), none⟩]
def s123r3 : List SOper := [
 ⟨some 11, .iaddr 1 (.t 7) (.t 9), none⟩,
 ⟨some 12, .load none (.t 11), none⟩,
 ⟨some 6, .mov (.t 12), none⟩]
def s123r4 : List SOper := [
 ⟨some 13, .mov (.t 0), none⟩,
 ⟨some 14, .mov (.t 6), none⟩,
 ⟨some 15, .conv .u64 (.t 14), none⟩,
 ⟨some 16, .bin .xor (.t 13) (.t 15), none⟩,
 ⟨some 17, .bin .mul (.t 16) (.k (.d (.int .u64 1099511628211))), none⟩,
 ⟨some 0, .mov (.t 17), none⟩]
def s123r5 : List SOper := [
 ⟨some 18, .bin .add (.t 9) (.k (.d (.int .i64 1))), none⟩,
 ⟨some 9, .mov (.t 18), none⟩]
def s123l6 : SCode := (.seq (.region s123r2 0 []) (.seq (.cond (.t 10) .skip (.exit 0)) (.seq (.block 1 (.seq (.region s123r3 0 []) (.region s123r4 0 []))) (.region s123r5 0 []))))
theorem q0g : CodeIs s123l6.eq_1 := qc s123l6.eq_1
def s123r7 : List SOper := [
 ⟨some 19, .mov (.t 0), none⟩,
 ⟨some 4, .mov (.t 19), none⟩]
def s123 : SCode := (.seq (.region s123r0 0 []) (.seq (.seq (.region s123r1 0 []) (.block 0 (.loop s123l6))) (.seq (.region s123r7 0 []) .ret)))
theorem xhy : CodeIs s123.eq_1 := qc s123.eq_1
theorem q0h : RegIs s123r0.eq_1 := qa
theorem q0i : RegIs s123r1.eq_1 := qa
theorem q0j : RegIs s123r2.eq_1 := qa
theorem q0k : RegIs s123r3.eq_1 := qa
theorem q0l : RegIs s123r4.eq_1 := qa
theorem q0m : RegIs s123r5.eq_1 := qa
theorem q0n : RegIs s123r7.eq_1 := qa
attribute [go_sem] q0h q0i q0j q0k q0l q0m q0g q0n xhy
theorem q7d : FnIs Try.prog 123 Try.f123 [] news s123 [.tmp 4] 20 := xe follows Try.func123
def s94r0 : List SOper := [
 ⟨some 4, .mov (.k (.d (.int .u64 0))), none⟩,
 ⟨some 5, .alloc 1 [(.d (.int .u8 0)), (.d (.int .u8 0)), (.d (.int .u8 0)), (.d (.int .u8 0)), (.d (.int .u8 0)), (.d (.int .u8 0)), (.d (.int .u8 0)), (.d (.int .u8 0))], none⟩]
def s94r1 : List SOper := [
 ⟨some 9, .mov (.t 0), none⟩,
 ⟨some 10, .mov (.t 1), none⟩,
 ⟨some 11, .call (.k (.d (.func (.func 123) [] []))) [(.t 9), (.t 10)], none⟩,
 ⟨some 6, .mov (.t 11), none⟩]
def s94r2 : List SOper := [
 ⟨some 7, .alloc 1 [(.d (.int .u8 0)), (.d (.int .u8 0)), (.d (.int .u8 0)), (.d (.int .u8 0)), (.d (.int .u8 0)), (.d (.int .u8 0)), (.d (.int .u8 0)), (.d (.int .u8 0))], none⟩]
def s94r3 : List SOper := [
 ⟨some 12, .mov (.k (.d (.int .i64 0))), none⟩]
def s94r4 : List SOper := [
 ⟨some 13, .bin .lss (.t 12) (.k (.d (.int .i64 8))), none⟩]
def s94r5 : List SOper := [
 ⟨some 14, .mov (.t 12), none⟩,
 ⟨some 8, .mov (.t 14), none⟩]
def s94r6 : List SOper := [
 ⟨some 15, .mov (.t 8), none⟩,
 ⟨some 16, .mov (.t 6), none⟩,
 ⟨some 17, .mov (.t 8), none⟩,
 ⟨some 18, .bin .sub (.k (.d (.int .i64 7))) (.t 17), none⟩,
 ⟨some 19, .bin .mul (.k (.d (.int .i64 8))) (.t 18), none⟩,
 ⟨some 20, .bin .shr (.t 16) (.t 19), none⟩,
 ⟨some 21, .conv .u8 (.t 20), none⟩,
 ⟨some 22, .iaddrA 8 1 (.t 7) (.t 15), none⟩,
 ⟨none, .store none (.t 22) (.t 21), none⟩]
def s94r7 : List SOper := [
 ⟨some 23, .bin .add (.t 12) (.k (.d (.int .i64 1))), none⟩,
 ⟨some 12, .mov (.t 23), none⟩]
def s94l8 : SCode := (.seq (.region s94r4 0 []) (.seq (.cond (.t 13) .skip (.exit 0)) (.seq (.block 1 (.seq (.region s94r5 0 []) (.region s94r6 0 []))) (.region s94r7 0 []))))
theorem q8y : CodeIs s94l8.eq_1 := qc s94l8.eq_1
def s94r9 : List SOper := [
 ⟨some 24, .mov (.t 6), none⟩,
 ⟨some 25, .load (some 8) (.t 7), none⟩,
 ⟨some 4, .mov (.t 24), none⟩,
 ⟨none, .store (some 8) (.t 5) (.t 25), none⟩]
def s94 : SCode := (.seq (.region s94r0 1 []) (.seq (.region s94r1 0 []) (.seq (.region s94r2 1 []) (.seq (.seq (.region s94r3 0 []) (.block 0 (.loop s94l8))) (.seq (.region s94r9 0 []) .ret)))))
theorem e94 : CodeIs s94.eq_1 := qc s94.eq_1
theorem q8z : RegIs s94r0.eq_1 := qa
theorem q80 : RegIs s94r1.eq_1 := qa
theorem q81 : RegIs s94r2.eq_1 := qa
theorem q82 : RegIs s94r3.eq_1 := qa
theorem q83 : RegIs s94r4.eq_1 := qa
theorem q84 : RegIs s94r5.eq_1 := qa
theorem q85 : RegIs s94r6.eq_1 := qa
theorem q86 : RegIs s94r7.eq_1 := qa
theorem q87 : RegIs s94r9.eq_1 := qa
attribute [go_sem] q8z q80 q81 q82 q83 q84 q85 q86 q8y q87 e94
theorem F94 : FnIs Try.prog 94 Try.f94 [] news s94 [.tmp 4, .cell 5 (some 8)] 26 := xe follows Try.func94
def s92r0 : List SOper := [
 ⟨some 2, .mov (.k (.d (.int .u64 0))), none⟩]
def s92r1 : List SOper := [
 ⟨some 6, .mov (.t 0), none⟩,
 ⟨some 7, .len (.t 6), none⟩,
 ⟨some 8, .bin .lss (.t 7) (.k (.d (.int .i64 8))), none⟩]
def s92r2 : List SOper := [
 ⟨some 2, .mov (.k (.d (.int .u64 14695981039346656037))), none⟩]
def s92r3 : List SOper := [
 ⟨some 3, .mov (.k (.d (.int .u64 0))), none⟩]
def s92r4 : List SOper := [
 ⟨some 9, .mov (.t 0), none⟩,
 ⟨some 10, .mov (.t 0), none⟩,
 ⟨some 11, .len (.t 10), none⟩,
 ⟨some 12, .bin .sub (.t 11) (.k (.d (.int .i64 8))), none⟩,
 ⟨some 13, .slice 1 (.t 9) (some (.t 12)) none none, none⟩,
 ⟨some 14, .len (.t 13), none⟩,
 ⟨some 15, .mov (.k (.d (.int .i64 0))), none⟩]
def s92r5 : List SOper := [
 ⟨some 16, .bin .lss (.t 15) (.t 14), none⟩]
def s92r6 : List SOper := [
 ⟨some 17, .iaddr 1 (.t 13) (.t 15), none⟩,
 ⟨some 18, .load none (.t 17), none⟩,
 ⟨some 5, .mov (.t 18), none⟩]
def s92r7 : List SOper := [
 ⟨some 19, .mov (.t 3), none⟩,
 ⟨some 20, .bin .shl (.t 19) (.k (.d (.int .u64 8))), none⟩,
 ⟨some 21, .mov (.t 5), none⟩,
 ⟨some 22, .conv .u64 (.t 21), none⟩,
 ⟨some 23, .bin .or (.t 20) (.t 22), none⟩,
 ⟨some 3, .mov (.t 23), none⟩]
def s92r8 : List SOper := [
 ⟨some 24, .bin .add (.t 15) (.k (.d (.int .i64 1))), none⟩,
 ⟨some 15, .mov (.t 24), none⟩]
def s92l9 : SCode := (.seq (.region s92r5 0 []) (.seq (.cond (.t 16) .skip (.exit 0)) (.seq (.block 1 (.seq (.region s92r6 0 []) (.region s92r7 0 []))) (.region s92r8 0 []))))
theorem q88 : CodeIs s92l9.eq_1 := qc s92l9.eq_1
def s92r10 : List SOper := [
 ⟨some 25, .mov (.t 3), none⟩,
 ⟨some 2, .mov (.t 25), none⟩]
def s92 : SCode := (.seq (.region s92r0 0 []) (.seq (.seq (.region s92r1 0 []) (.cond (.t 8) (.seq (.region s92r2 0 []) .ret) .skip)) (.seq (.region s92r3 0 []) (.seq (.seq (.region s92r4 0 []) (.block 0 (.loop s92l9))) (.seq (.region s92r10 0 []) .ret)))))
theorem e92 : CodeIs s92.eq_1 := qc s92.eq_1
theorem q89 : RegIs s92r0.eq_1 := qa
theorem q9a : RegIs s92r1.eq_1 := qa
theorem q9b : RegIs s92r2.eq_1 := qa
theorem q9c : RegIs s92r3.eq_1 := qa
theorem q9d : RegIs s92r4.eq_1 := qa
theorem q9e : RegIs s92r5.eq_1 := qa
theorem q9f : RegIs s92r6.eq_1 := qa
theorem q9g : RegIs s92r7.eq_1 := qa
theorem q9h : RegIs s92r8.eq_1 := qa
theorem q0o : RegIs s92r10.eq_1 := qa
attribute [go_sem] q89 q9a q9b q9c q9d q9e q9f q9g q9h q88 q0o e92
theorem F92 : FnIs Try.prog 92 Try.f92 [] news s92 [.tmp 2] 26 := xe follows Try.func92
end
def fnv1 (h : Nat) (c : UInt8) : Nat := (h ^^^ c.toNat) * 1099511628211 % 18446744073709551616
def fnv (h : Nat) (s : List UInt8) : Nat := s.foldl fnv1 h
theorem qle (h : Nat) : fnv h [] = h := rfl
theorem qgq (h : Nat) (s : List UInt8) (c : UInt8) : fnv h (s ++ [c]) = (fnv h s ^^^ c.toNat) * 1099511628211 % 18446744073709551616 := by
 have : fnv h (s ++ [c]) = fnv1 (fnv h s) c := by unfold fnv; rw [List.foldl_append, List.foldl_cons, List.foldl_nil]
 rw [this, fnv1]
theorem qix {h : Nat} (hh : h < 18446744073709551616) (s : List UInt8) : fnv h s < 18446744073709551616 := by
 rcases List.eq_nil_or_concat s with rfl | ⟨t, c, rfl⟩
 ·rw [qle]; exact hh
 ·rw [List.concat_eq_append, qgq]
  generalize (fnv h t ^^^ c.toNat) * 1099511628211 = x
  omega
theorem yi (n : Int) : IntKind.u64.wrap n = n % 18446744073709551616 := by simp [IntKind.wrap, IntKind.bits, IntKind.signed]
theorem qt9 (a b : Nat) (ha : a < 18446744073709551616) (hb : b < 18446744073709551616) : a ^^^ b < 18446744073709551616 := by
 have p : (18446744073709551616 : Nat) = 2 ^ 64 := by decide
 rw [p] at *
 exact Nat.xor_lt_two_pow ha hb
theorem qqy (a b : Nat) (ha : a < 18446744073709551616) (hb : b < 18446744073709551616) : bvXor 64 (a : Int) (b : Int) = ((a ^^^ b : Nat) : Int) := by
 unfold bvXor
 rw [BitVec.ofInt_natCast, BitVec.ofInt_natCast, BitVec.toNat_xor, BitVec.toNat_ofNat, BitVec.toNat_ofNat, Nat.mod_eq_of_lt ha, Nat.mod_eq_of_lt hb]
theorem f1 (x : Nat) : IntKind.u64.wrap ((x : Int) * 1099511628211) = ((x * 1099511628211 % 18446744073709551616 : Nat) : Int) := by
 rw [yi]
 simp only [Int.natCast_emod, Int.natCast_mul, Int.cast_ofNat_Int]
theorem f2 (x : Nat) (h : x < 18446744073709551616) : IntKind.u64.wrap (x : Int) = x := by
 rw [yi]; omega
theorem qmi (h c : Nat) (hh : h < 18446744073709551616) (hc : c < 256) :
  IntKind.u64.wrap (IntKind.u64.wrap (bvXor 64 (h : Int) (IntKind.u64.wrap (c : Int))) * 1099511628211) = (((h ^^^ c) * 1099511628211 % 18446744073709551616 : Nat) : Int) := by
 rw [f2 c (by omega), qqy h c hh (by omega), f2 _ (qt9 h c hh (by omega)), f1]
theorem kj (c : UInt8) : c.toNat < 256 := UInt8.toNat_lt c
theorem qr (s : List UInt8) {i : Nat} (h : i < s.length) : (byteRows s).getD i [] = [.int .u8 (s[i].toNat : Int)] := qq (fun c : UInt8 => [D.int .u8 (c.toNat : Int)]) s h []
def Sfrom (h : Nat) (s : List UInt8) (i : { i : Nat // i ≤ s.length }) : St :=
 ⟨[(0, true, .d (.int .u64 (fnv h (s.take i.val) : Nat))), (7, true, .d (.sl 1 (byteRows s))), (8, true, .d (.int .i64 s.length)), (9, true, .d (.int .i64 (i.val : Nat)))], [], [], 1⟩
theorem qwl (h : Nat) (s : List UInt8) (hh : h < 18446744073709551616) (hl : s.length ≤ 1000000000) : ACall Try.prog 123 [.d (.int .u64 h), .d (.sl 1 (byteRows s))] [] (.d (.int .u64 (fnv h s : Nat))) [] := by
 refine q7d.go ?_
 try (refine ev ?_; try exact True.intro)
 refine ql (Sfrom h s) (fun i => s.length - i.val) ⟨0, Nat.zero_le _⟩ ?_ (fun i => ?_)
 ·try (refine ev3 @Sfrom.eq_1 @List.take_zero.{0} @qle ?_; try exact True.intro)
 obtain ⟨i, hi⟩ := i
 try (refine ev1 @Sfrom.eq_1 ?_; try exact True.intro)
 (repeat (with_reducible refine ob ?_)); refine xk _ (fun h => ?_) (fun h => ?_)
 ·have hil : i < s.length := by simpa using h
  try (refine ev1 (qr s hil) ?_; try exact True.intro)
  (repeat (with_reducible refine ob ?_))
  try simp only [qmi _ _ (qix hh (s.take i)) (kj s[i]), go_sem, Nat.reduceAdd, Nat.reduceMul, Nat.reduceSub, Nat.reduceEqDiff, Nat.reduceLT, Nat.reduceLeDiff, Nat.reduceBEq, reduceIte, reduceCtorEq, Int.reduceAdd, Int.reduceLT, Int.reduceLE, Int.reduceGT, Int.reduceGE, Int.reduceEq, Int.reduceNe, Int.reduceBEq, Int.reduceBNe, Int.reduceToNat, Int.reduceNeg]
  refine ⟨⟨i + 1, hil⟩, ?_, by dsimp only; omega⟩
  try (refine ev4 @Sfrom.eq_1 (qj (show i < 9223372036854775807 by omega)) (List.take_succ_eq_append_getElem hil) @qgq ?_; try exact True.intro)
 ·have hie : i = s.length := by simp at h; omega
  subst hie
  try (refine ev1 @List.take_length.{0} ?_; try exact True.intro)
def byteD (c : UInt8) : D := .int .u8 c.toNat
theorem qlf (s : List UInt8) : D.noPtrL (s.map byteD) = true := by induction s <;> simp_all [D.noPtrL, D.noPtr, byteD]
theorem yj (s : List UInt8) : (s.map byteD).all D.isCell = true := by induction s <;> simp_all [D.isCell, byteD]
attribute [go_sem] qlf yj
theorem qoe (s : List UInt8) {i : Nat} (h : i < s.length) (x : ASlot) : ((s.map byteD).map ASlot.d).getD i x = .d (.int .u8 (s[i].toNat : Int)) := by simp [h, byteD]
theorem va (s : List UInt8) : (byteRows s).flatten = s.map byteD := by induction s <;> simp_all [byteRows, byteD]
theorem qiy (s : List UInt8) : chunks 1 s.length (s.map byteD) = byteRows s := by
 induction s with
 | nil => rfl
 | cons c s ih => simp only [List.length_cons, List.map_cons, chunks, List.take_succ_cons, List.take_zero, List.drop_succ_cons, List.drop_zero, ih]; rfl
def SfromR (h : Nat) (s : List UInt8) (i : { i : Nat // i ≤ s.length }) : St :=
 ⟨[(0, true, .d (.int .u64 (fnv h (s.take i.val) : Nat))), (7, true, .d (.ref 0 0 1 s.length)), (8, true, .d (.int .i64 s.length)), (9, true, .d (.int .i64 (i.val : Nat)))], [.row ((s.map byteD).map .d)], [], 1⟩
theorem qua (h : Nat) (s : List UInt8) (hh : h < 18446744073709551616) (hl : s.length ≤ 1000000000) : ACall Try.prog 123 [.d (.int .u64 h), .d (.ref 0 0 1 s.length)] [.row ((s.map byteD).map .d)] (.d (.int .u64 (fnv h s : Nat))) [.row ((s.map byteD).map .d)] := by
 refine q7d.go ?_
 try (refine ev ?_; try exact True.intro)
 refine ql (SfromR h s) (fun i => s.length - i.val) ⟨0, Nat.zero_le _⟩ ?_ (fun i => ?_)
 ·try (refine ev3 @SfromR.eq_1 @List.take_zero.{0} @qle ?_; try exact True.intro)
 obtain ⟨i, hi⟩ := i
 try (refine ev1 @SfromR.eq_1 ?_; try exact True.intro)
 (repeat (with_reducible refine ob ?_)); refine xk _ (fun h => ?_) (fun h => ?_)
 ·have hil : i < s.length := by simpa using h
  try (refine ev2 @Nat.mul_one (qoe s hil) ?_; try exact True.intro)
  (repeat (with_reducible refine ob ?_))
  try simp only [qmi _ _ (qix hh (s.take i)) (kj s[i]), go_sem, Nat.reduceAdd, Nat.reduceMul, Nat.reduceSub, Nat.reduceEqDiff, Nat.reduceLT, Nat.reduceLeDiff, Nat.reduceBEq, reduceIte, reduceCtorEq, Int.reduceAdd, Int.reduceLT, Int.reduceLE, Int.reduceGT, Int.reduceGE, Int.reduceEq, Int.reduceNe, Int.reduceBEq, Int.reduceBNe, Int.reduceToNat, Int.reduceNeg]
  refine ⟨⟨i + 1, hil⟩, ?_, by dsimp only; omega⟩
  try (refine ev4 @SfromR.eq_1 (qj (show i < 9223372036854775807 by omega)) (List.take_succ_eq_append_getElem hil) @qgq ?_; try exact True.intro)
 ·have hie : i = s.length := by simp at h; omega
  subst hie
  try (refine ev1 @List.take_length.{0} ?_; try exact True.intro)
def be8 (h : Nat) : List UInt8 := [UInt8.ofNat (h / 256 ^ 7), UInt8.ofNat (h / 256 ^ 6), UInt8.ofNat (h / 256 ^ 5), UInt8.ofNat (h / 256 ^ 4), UInt8.ofNat (h / 256 ^ 3), UInt8.ofNat (h / 256 ^ 2), UInt8.ofNat (h / 256 ^ 1), UInt8.ofNat (h / 256 ^ 0)]
theorem xx (h : Nat) : (be8 h).length = 8 := rfl
theorem qwm (h : Nat) : ∀ {i : Nat} (hi : i < 8), (be8 h)[i]'(by rw [xx]; exact hi) = UInt8.ofNat (h / 256 ^ (7 - i))
 | 0, _ => rfl
 | 1, _ => rfl
 | 2, _ => rfl
 | 3, _ => rfl
 | 4, _ => rfl
 | 5, _ => rfl
 | 6, _ => rfl
 | 7, _ => rfl
theorem qu {n : Int} (h : I64 n) : IntKind.i64.wrap n = n := by
 obtain ⟨h1, h2⟩ := h
 simp [IntKind.wrap, IntKind.bits, IntKind.signed]; omega
theorem qmj (h i : Nat) (hi : i < 8) : IntKind.u8.wrap ((h : Int).fdiv (2 ^ min (8 * (7 - (i : Int))).toNat 64)) = ((UInt8.ofNat (h / 256 ^ (7 - i))).toNat : Int) := by
 have e1 : min (8 * (7 - (i : Int))).toNat 64 = 8 * (7 - i) := by omega
 have e2 : ((2 : Int) ^ (8 * (7 - i))) = ((256 ^ (7 - i) : Nat) : Int) := by rw [Int.natCast_pow, Int.pow_mul]; rfl
 rw [e1, e2, Int.fdiv_eq_ediv_of_nonneg _ (Int.natCast_nonneg _), ← Int.natCast_ediv, qc7, UInt8.toNat_ofNat']
 omega
theorem qqz (h : Nat) {i : Nat} (hi : i < 8) : (((be8 h).take i ++ List.replicate (8 - i) 0).map byteD).set i (D.int .u8 ((UInt8.ofNat (h / 256 ^ (7 - i))).toNat : Int)) = ((be8 h).take (i + 1) ++ List.replicate (8 - (i + 1)) 0).map byteD := by
 have h8 := xx h
 have hl : ((be8 h).take i).length = i := by rw [List.length_take]; omega
 have e : D.int .u8 ((UInt8.ofNat (h / 256 ^ (7 - i))).toNat : Int) = byteD ((be8 h)[i]'(by omega)) := by rw [qwm h hi]; rfl
 rw [e, ← List.map_set, List.set_append_right _ _ (by omega), hl, Nat.sub_self, List.take_succ_eq_append_getElem (by omega), show 8 - i = (8 - (i + 1)) + 1 by omega, List.replicate_succ, List.set_cons_zero, List.append_assoc, List.cons_append, List.nil_append]
theorem qag (ds : List D) (i : Nat) (x : D) : (ds.map ASlot.d).set i (.d x) = (ds.set i x).map .d := by rw [List.map_set]
theorem qe7 : byteD 0 = .int .u8 0 := rfl
theorem qq0 (h : Nat) : (be8 h).take 8 = be8 h := List.take_of_length_le (Nat.le_of_eq (xx h))
theorem q7e (h : Nat) : ((be8 h).map byteD).take 8 = (be8 h).map byteD := List.take_of_length_le (by simp [xx])
def ScheckS (k : Nat) (f0 : Fr) (os : List AObj) (h : Nat) (i : { i : Nat // i ≤ 8 }) : St :=
 ⟨(6, true, .d (.int .u64 (h : Nat))) :: (7, true, .d (.ptr (k + 1) 0)) :: (5, true, .d (.ptr k 0)) :: (12, true, .d (.int .i64 (i.val : Nat))) :: f0, os ++ [.row ((List.replicate 8 (D.int .u8 0)).map .d), .row ((((be8 h).take i.val ++ List.replicate (8 - i.val) 0).map byteD).map .d)], [], 1⟩
theorem qub (h : Nat) (s : List UInt8) (hh : h < 18446744073709551616) (hl : s.length ≤ 1000000000) : ACall Try.prog 94 [.d (.int .u64 h), .d (.sl 1 (byteRows s))] [] (.tup [.d (.int .u64 (fnv h s : Nat)), .d (.agg ((be8 (fnv h s)).map byteD))]) [] := by
 refine F94.goT ?_
 try (refine ev ?_; try exact True.intro)
 (repeat (with_reducible refine ob ?_)); refine cl q7d (qwl h s hh hl) ?_
 try (refine ev ?_; try exact True.intro)
 refine ql (ScheckS 0 [] [] (fnv h s)) (fun i => 8 - i.val) ⟨0, Nat.zero_le _⟩ ?_ (fun i => ?_)
 ·try (refine ev3 @ScheckS.eq_1 @List.take_zero.{0} @qe7 ?_; try exact True.intro)
 obtain ⟨i, hi⟩ := i
 try (refine ev1 @ScheckS.eq_1 ?_; try exact True.intro)
 refine xk _ (fun hc => ?_) (fun hc => ?_)
 ·have hil : i < 8 := by simp at hc; omega
  have e1 : IntKind.i64.wrap (7 - (i : Int)) = 7 - i := qu (by unfold I64; omega)
  have e2 : IntKind.i64.wrap (8 * (7 - (i : Int))) = 8 * (7 - i) := qu (by unfold I64; omega)
  have hlen := xx (fnv h s)
  try simp only [Nat.mul_one, qmj _ _ hil, qag, qqz _ hil, e1, e2, List.length_take, List.length_replicate, go_sem, Nat.reduceAdd, Nat.reduceMul, Nat.reduceSub, Nat.reduceEqDiff, Nat.reduceLT, Nat.reduceLeDiff, Nat.reduceBEq, reduceIte, reduceCtorEq, Int.reduceAdd, Int.reduceLT, Int.reduceLE, Int.reduceGT, Int.reduceGE, Int.reduceEq, Int.reduceNe, Int.reduceBEq, Int.reduceBNe, Int.reduceToNat, Int.reduceNeg]
  (repeat (with_reducible refine ob ?_))
  refine ⟨⟨i + 1, hil⟩, ?_, by dsimp only; omega⟩
  try (refine ev2 @ScheckS.eq_1 (qj (show i < 9223372036854775807 by omega)) ?_; try exact True.intro)
 ·have hie : i = 8 := by simp at hc; omega
  subst hie
  try (refine ev3 @qq0 @be8.eq_1 @byteD.eq_1 ?_; try exact True.intro)
theorem qq1 (h : Nat) (s : List UInt8) (hh : h < 18446744073709551616) (hl : s.length ≤ 1000000000) : ACall Try.prog 94 [.d (.int .u64 h), .d (.ref 0 0 1 s.length)] [.row ((s.map byteD).map .d)] (.tup [.d (.int .u64 (fnv h s : Nat)), .d (.agg ((be8 (fnv h s)).map byteD))]) [.row ((s.map byteD).map .d)] := by
 refine F94.goT ?_
 try (refine ev ?_; try exact True.intro)
 (repeat (with_reducible refine ob ?_)); refine clO [0] q7d (qua h s hh hl) ?_
 try (refine ev ?_; try exact True.intro)
 refine ql (ScheckS 1 [] [.row ((s.map byteD).map .d)] (fnv h s)) (fun i => 8 - i.val) ⟨0, Nat.zero_le _⟩ ?_ (fun i => ?_)
 ·try (refine ev3 @ScheckS.eq_1 @List.take_zero.{0} @qe7 ?_; try exact True.intro)
 obtain ⟨i, hi⟩ := i
 try (refine ev1 @ScheckS.eq_1 ?_; try exact True.intro)
 refine xk _ (fun hc => ?_) (fun hc => ?_)
 ·have hil : i < 8 := by simp at hc; omega
  have e1 : IntKind.i64.wrap (7 - (i : Int)) = 7 - i := qu (by unfold I64; omega)
  have e2 : IntKind.i64.wrap (8 * (7 - (i : Int))) = 8 * (7 - i) := qu (by unfold I64; omega)
  have hlen := xx (fnv h s)
  try simp only [Nat.mul_one, qmj _ _ hil, qag, qqz _ hil, e1, e2, List.length_take, List.length_replicate, go_sem, Nat.reduceAdd, Nat.reduceMul, Nat.reduceSub, Nat.reduceEqDiff, Nat.reduceLT, Nat.reduceLeDiff, Nat.reduceBEq, reduceIte, reduceCtorEq, Int.reduceAdd, Int.reduceLT, Int.reduceLE, Int.reduceGT, Int.reduceGE, Int.reduceEq, Int.reduceNe, Int.reduceBEq, Int.reduceBNe, Int.reduceToNat, Int.reduceNeg]
  (repeat (with_reducible refine ob ?_))
  refine ⟨⟨i + 1, hil⟩, ?_, by dsimp only; omega⟩
  try (refine ev2 @ScheckS.eq_1 (qj (show i < 9223372036854775807 by omega)) ?_; try exact True.intro)
 ·have hie : i = 8 := by simp at hc; omega
  subst hie
  try (refine ev3 @qq0 @be8.eq_1 @byteD.eq_1 ?_; try exact True.intro)
def num1 (h : Nat) (c : UInt8) : Nat := h * 256 + c.toNat
def numOf (s : List UInt8) : Nat := s.foldl num1 0
def wSeed (file : List UInt8) : Nat := if file.length < 8 then 14695981039346656037 else numOf (file.drop (file.length - 8))
theorem qe8 (s : List UInt8) (c : UInt8) : numOf (s ++ [c]) = numOf s * 256 + c.toNat := by unfold numOf; rw [List.foldl_append, List.foldl_cons, List.foldl_nil]; rfl
theorem qgr : ∀ (n : Nat) (s : List UInt8), s.length = n → numOf s < 256 ^ n
 | 0, s, h => by cases s <;> simp at h; simp [numOf]
 | n + 1, s, h => by
  rcases List.eq_nil_or_concat s with rfl | ⟨t, c, rfl⟩
  ·simp at h
  ·rw [List.concat_eq_append] at h ⊢
   have h1 := qgr n t (by simpa using h)
   have h2 := kj c
   rw [qe8, Nat.pow_succ]
   omega
theorem qmk (a b : Nat) (ha : a < 18446744073709551616) (hb : b < 18446744073709551616) : bvOr 64 (a : Int) (b : Int) = ((a ||| b : Nat) : Int) := by
 unfold bvOr
 rw [BitVec.ofInt_natCast, BitVec.ofInt_natCast, BitVec.toNat_or, BitVec.toNat_ofNat, BitVec.toNat_ofNat, Nat.mod_eq_of_lt ha, Nat.mod_eq_of_lt hb]
theorem q0p (a c : Nat) (hc : c < 256) : a * 256 ||| c = a * 256 + c := by
 have := Nat.shiftLeft_add_eq_or_of_lt (i := 8) (b := c) (by omega) a
 rw [Nat.shiftLeft_eq] at this
 exact this.symm
theorem qq2 (a c : Nat) (ha : a < 72057594037927936) (hc : c < 256) : IntKind.u64.wrap (bvOr 64 (IntKind.u64.wrap ((a : Int) * 2 ^ min 8 64)) (IntKind.u64.wrap (c : Int))) = ((a * 256 + c : Nat) : Int) := by
 have e1 : IntKind.u64.wrap ((a : Int) * 2 ^ min 8 64) = ((a * 256 : Nat) : Int) := by
  rw [yi]
  show (a : Int) * 256 % 18446744073709551616 = _
  omega
 rw [e1, f2 c (by omega), qmk _ _ (by omega) (by omega), q0p a c hc, f2 _ (by omega)]
def Sseed (s : List UInt8) (i : { i : Nat // i ≤ s.length }) : St :=
 ⟨[(3, true, .d (.int .u64 (numOf (s.take i.val) : Nat))), (13, true, .d (.sl 1 (byteRows s))), (14, true, .d (.int .i64 s.length)), (15, true, .d (.int .i64 (i.val : Nat)))], [], [], 1⟩
theorem xq (s : List UInt8) (n : Nat) : (byteRows s).drop n = byteRows (s.drop n) := by simp [byteRows]
theorem qx (s : List UInt8) (n : Nat) : (byteRows s).take n = byteRows (s.take n) := by simp [byteRows]
theorem qwn (file : List UInt8) (hl : file.length ≤ 1000000000) : ACall Try.prog 92 [.d (.sl 1 (byteRows file))] [] (.d (.int .u64 (wSeed file : Nat))) [] := by
 refine F92.go ?_
 try (refine ev ?_; try exact True.intro)
 refine xk _ (fun hc => ?_) (fun hc => ?_)
 ·have hb : wSeed file = 14695981039346656037 := by unfold wSeed; rw [if_pos (by simp at hc; omega)]
  try (refine ev1 @hb ?_; try exact True.intro)
 have h8 : 8 ≤ file.length := by simp at hc; omega
 have e1 : IntKind.i64.wrap ((file.length : Int) - 8) = ((file.length - 8 : Nat) : Int) := by rw [qu (by unfold I64; omega)]; omega
 have hb : wSeed file = numOf (file.drop (file.length - 8)) := by unfold wSeed; rw [if_neg (by omega)]
 have hd : (file.drop (file.length - 8)).length = 8 := by rw [List.length_drop]; omega
 generalize hs : file.drop (file.length - 8) = s at hb hd
 have e2 : s.take (file.length - (file.length - 8)) = s := List.take_of_length_le (by omega)
 try (refine ev6 @e1 @xq @qx @hs @e2 @hb ?_; try exact True.intro)
 (repeat (with_reducible refine ob ?_))
 refine ql (Sseed s) (fun i => s.length - i.val) ⟨0, Nat.zero_le _⟩ ?_ (fun i => ?_)
 ·try (refine ev2 @Sseed.eq_1 @List.take_zero.{0} ?_; try exact True.intro)
  simp [numOf]
 obtain ⟨i, hi⟩ := i
 try (refine ev1 @Sseed.eq_1 ?_; try exact True.intro)
 (repeat (with_reducible refine ob ?_)); refine xk _ (fun h => ?_) (fun h => ?_)
 ·have hil : i < s.length := by simpa using h
  have hlt : numOf (s.take i) < 72057594037927936 := by
   have := qgr i (s.take i) (by rw [List.length_take]; omega)
   have h7 : 256 ^ i ≤ 256 ^ 7 := Nat.pow_le_pow_right (by decide) (by omega)
   have : (256 : Nat) ^ 7 = 72057594037927936 := by decide
   omega
  try (refine ev1 (qr s hil) ?_; try exact True.intro)
  (repeat (with_reducible refine ob ?_))
  try simp only [qq2 _ _ hlt (kj s[i]), go_sem, Nat.reduceAdd, Nat.reduceMul, Nat.reduceSub, Nat.reduceEqDiff, Nat.reduceLT, Nat.reduceLeDiff, Nat.reduceBEq, reduceIte, reduceCtorEq, Int.reduceAdd, Int.reduceLT, Int.reduceLE, Int.reduceGT, Int.reduceGE, Int.reduceEq, Int.reduceNe, Int.reduceBEq, Int.reduceBNe, Int.reduceToNat, Int.reduceNeg]
  refine ⟨⟨i + 1, hil⟩, ?_, by dsimp only; omega⟩
  try (refine ev4 @Sseed.eq_1 (qj (show i < 9223372036854775807 by omega)) (List.take_succ_eq_append_getElem hil) @qe8 ?_; try exact True.intro)
 ·have hie : i = s.length := by simp at h; omega
  subst hie
  try (refine ev1 @List.take_length.{0} ?_; try exact True.intro)
end Go.Proofs.Ytinnaedmdoengaa
