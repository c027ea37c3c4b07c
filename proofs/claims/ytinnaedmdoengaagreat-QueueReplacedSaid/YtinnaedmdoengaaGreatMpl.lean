/- Texts Ca, Wa, Cb, Wb, Wc, Cc, Cd, Ce, Vi. -/
import Derived.Test.YtinnaedmdoengaaGreatMpk
import Derived.Calls
import Derived.Orders
import Derived.Tactics
import Derived.Laws.AppendOwn
import Derived.Laws.Slices
import Derived.Laws.Closers25
import Derived.Laws.StructEq
import Derived.Laws.BytesString
import Derived.Laws.CopyRow
import Derived.MapKept
import Derived.Maps.RangeRun
import Derived.TacticsIn
import Derived.OrdersIn
import Derived.RangeFuncRecord
import Derived.RangeFuncLeaves
import Derived.IntWalk
import Derived.ProofKit
import Derived.OpenShut
import Derived.Carry
import Derived.Test.YtinnaedmdoengaaGreatProg
import Derived.KernelRfl

namespace Go.Proofs.YtinnaedmdoengaaGreat
open Go.Abs
set_option linter.unusedSimpArgs false
def news : List (FuncId × Nat) := [(102, 1), (54, 1), (10, 2), (18, 2), (14, 1), (51, 1), (24, 2), (25, 5)]
theorem follows : Tryz.prog.follows .mixedOrders = true := by kernel_rfl
structure AV where
 kind : Int
 n : Int
 s : List UInt8
 deriving DecidableEq, Inhabited
def xg (v : AV) : List D := [.int .i64 v.kind, .int .i64 v.n, .str v.s]
theorem jy (v : AV) : D.noPtrL (xg v) = true := rfl
def encI (n : Int) : List D := [.int .i64 n]
theorem w5 (n : Int) : D.noPtrL (encI n) = true := rfl
structure Pk where
 kind : Int
 sess : Int
 epoch : Int
 from_ : Int
 to : Int
 seq : Int
 label : Int
 values : List AV
 clock : List Int
 deriving DecidableEq, Inhabited
def qi (p : Pk) : List D := [.int .i64 p.kind, .int .i64 p.sess, .int .i64 p.epoch, .int .i64 p.from_, .int .i64 p.to, .int .i64 p.seq, .int .i64 p.label, .sl 3 (p.values.map xg), .sl 1 (p.clock.map encI)]
theorem qd3 (p : Pk) : D.noPtrL (qi p) = true := by
 simp only [qi, D.noPtrL, D.noPtr, xn jy, xn w5, Bool.and_self]
theorem qya (l : List AV) : D.noPtrR (l.map xg) = true := xn jy l
theorem q3o (l : List Int) : D.noPtrR (l.map encI) = true := xn w5 l
theorem qyb (l : List Pk) : D.noPtrR (l.map qi) = true := xn qd3 l
attribute [go_sem] jy w5 qd3 qya q3o qyb
noncomputable section
set_option maxRecDepth 100000
def q5n : List SOper := [
 ⟨some 2, .mov (.k (.d (.bool false))), none⟩]
def q5o : List SOper := [
 ⟨some 3, .mov (.t 0), none⟩,
 ⟨some 4, .bin .geq (.t 3) (.k (.d (.int .i64 0))), none⟩,
 ⟨some 5, .mov (.t 4), none⟩,
 ⟨some 6, .mov (.t 0), some (5, true)⟩,
 ⟨some 7, .bin .lss (.t 6) (.k (.d (.int .i64 6))), some (5, true)⟩,
 ⟨some 8, .pick (.t 5) (.t 7) (.k (.d (.bool false))), none⟩,
 ⟨some 2, .mov (.t 8), none⟩]
def s203 : SCode := (.seq (.region q5n 0 []) (.seq (.region q5o 0 []) .ret))
theorem zky : qf s203.eq_1 := qg s203.eq_1
theorem xk7 : qa q5n.eq_1 := qc
theorem xk8 : qa q5o.eq_1 := qc
attribute [go_sem] xk7 xk8 zky
theorem xk9 : FnIs Tryz.prog 203 Tryz.f203 [] news s203 [.tmp 2] 9 := xo follows Tryz.func203
def q5p : List SOper := [
 ⟨some 1, .box 1 (.t 0), none⟩,
 ⟨some 2, .mov (.k (.d (.bool false))), none⟩]
def q5q : List SOper := [
 ⟨some 3, .faddr 0 (.t 1), none⟩,
 ⟨some 4, .load none (.t 3), none⟩]
def q5r : List SOper := [
 ⟨some 6, .bin .eql (.t 4) (.k (.d (.int .i64 1))), none⟩,
 ⟨some 5, .mov (.t 6), none⟩]
def q5s : List SOper := [
 ⟨some 7, .faddr 2 (.t 1), none⟩,
 ⟨some 8, .load none (.t 7), none⟩,
 ⟨some 9, .bin .eql (.t 8) (.k (.d (.str []))), none⟩,
 ⟨some 2, .mov (.t 9), none⟩]
def q5t : List SOper := [
 ⟨some 11, .bin .eql (.t 4) (.k (.d (.int .i64 2))), none⟩,
 ⟨some 10, .mov (.t 11), none⟩]
def q5u : List SOper := [
 ⟨some 12, .faddr 1 (.t 1), none⟩,
 ⟨some 13, .load none (.t 12), none⟩,
 ⟨some 14, .bin .eql (.t 13) (.k (.d (.int .i64 0))), none⟩,
 ⟨some 15, .mov (.t 14), none⟩,
 ⟨some 16, .faddr 2 (.t 1), some (15, true)⟩,
 ⟨some 17, .load none (.t 16), some (15, true)⟩,
 ⟨some 18, .lenS (.t 17), some (15, true)⟩,
 ⟨some 19, .bin .leq (.t 18) (.k (.d (.int .i64 40))), some (15, true)⟩,
 ⟨some 20, .pick (.t 15) (.t 19) (.k (.d (.bool false))), none⟩,
 ⟨some 2, .mov (.t 20), none⟩]
def q5v : List SOper := [
 ⟨some 2, .mov (.k (.d (.bool false))), none⟩]
def s199 : SCode := (.seq (.region q5p 1 []) (.seq (.seq (.region q5q 0 []) (.block 0 (.seq (.region q5r 0 []) (.cond (.t 5) (.seq (.region q5s 0 []) .ret) (.seq (.region q5t 0 []) (.cond (.t 10) (.seq (.region q5u 0 []) .ret) .skip)))))) (.seq (.region q5v 0 []) .ret)))
theorem zkz : qf s199.eq_1 := qg s199.eq_1
theorem xla : qa q5p.eq_1 := qc
theorem xlb : qa q5q.eq_1 := qc
theorem xlc : qa q5r.eq_1 := qc
theorem xld : qa q5s.eq_1 := qc
theorem xle : qa q5t.eq_1 := qc
theorem xlf : qa q5u.eq_1 := qc
theorem xlg : qa q5v.eq_1 := qc
attribute [go_sem] xla xlb xlc xld xle xlf xlg zkz
theorem x8r : FnIs Tryz.prog 199 Tryz.f199 [] news s199 [.tmp 2] 21 := xo follows Tryz.func199
def q5w : List SOper := [
 ⟨some 1, .box 1 (.t 0), none⟩,
 ⟨some 2, .mov (.k (.d (.bool false))), none⟩]
def q5x : List SOper := [
 ⟨some 3, .faddr 3 (.t 1), none⟩,
 ⟨some 4, .load none (.t 3), none⟩,
 ⟨some 5, .call (.k (.d (.func (.func 203) [] []))) [(.t 4)], none⟩,
 ⟨some 6, .mov (.t 5), none⟩,
 ⟨some 7, .faddr 4 (.t 1), some (6, true)⟩,
 ⟨some 8, .load none (.t 7), some (6, true)⟩,
 ⟨some 9, .call (.k (.d (.func (.func 203) [] []))) [(.t 8)], some (6, true)⟩,
 ⟨some 10, .pick (.t 6) (.t 9) (.k (.d (.bool false))), none⟩,
 ⟨some 11, .mov (.t 10), none⟩,
 ⟨some 12, .faddr 3 (.t 1), some (11, true)⟩,
 ⟨some 13, .load none (.t 12), some (11, true)⟩,
 ⟨some 14, .faddr 4 (.t 1), some (11, true)⟩,
 ⟨some 15, .load none (.t 14), some (11, true)⟩,
 ⟨some 16, .bin .neq (.t 13) (.t 15), some (11, true)⟩,
 ⟨some 17, .pick (.t 11) (.t 16) (.k (.d (.bool false))), none⟩,
 ⟨some 18, .mov (.t 17), none⟩,
 ⟨some 19, .faddr 5 (.t 1), some (18, true)⟩,
 ⟨some 20, .load none (.t 19), some (18, true)⟩,
 ⟨some 21, .bin .geq (.t 20) (.k (.d (.int .i64 1))), some (18, true)⟩,
 ⟨some 22, .pick (.t 18) (.t 21) (.k (.d (.bool false))), none⟩,
 ⟨some 23, .mov (.t 22), none⟩,
 ⟨some 24, .faddr 5 (.t 1), some (23, true)⟩,
 ⟨some 25, .load none (.t 24), some (23, true)⟩,
 ⟨some 26, .bin .leq (.t 25) (.k (.d (.int .i64 1099511627776))), some (23, true)⟩,
 ⟨some 27, .pick (.t 23) (.t 26) (.k (.d (.bool false))), none⟩,
 ⟨some 2, .mov (.t 27), none⟩]
def s196 : SCode := (.seq (.region q5w 1 []) (.seq (.region q5x 0 []) .ret))
theorem zk0 : qf s196.eq_1 := qg s196.eq_1
theorem xlh : qa q5w.eq_1 := qc
theorem xli : qa q5x.eq_1 := qc
attribute [go_sem] xlh xli zk0
theorem x7z : FnIs Tryz.prog 196 Tryz.f196 [] news s196 [.tmp 2] 28 := xo follows Tryz.func196
def q5y : List SOper := [
 ⟨some 1, .box 1 (.t 0), none⟩,
 ⟨some 2, .mov (.k (.d (.bool false))), none⟩]
def q5z : List SOper := [
 ⟨some 3, .faddr 2 (.t 1), none⟩,
 ⟨some 4, .load none (.t 3), none⟩,
 ⟨some 5, .bin .eql (.t 4) (.k (.d (.int .i64 0))), none⟩,
 ⟨some 6, .mov (.t 5), none⟩,
 ⟨some 7, .faddr 7 (.t 1), some (6, true)⟩,
 ⟨some 8, .load none (.t 7), some (6, true)⟩,
 ⟨some 9, .len (.t 8), some (6, true)⟩,
 ⟨some 10, .bin .eql (.t 9) (.k (.d (.int .i64 0))), some (6, true)⟩,
 ⟨some 11, .pick (.t 6) (.t 10) (.k (.d (.bool false))), none⟩,
 ⟨some 12, .mov (.t 11), none⟩,
 ⟨some 13, .faddr 8 (.t 1), some (12, true)⟩,
 ⟨some 14, .load none (.t 13), some (12, true)⟩,
 ⟨some 15, .len (.t 14), some (12, true)⟩,
 ⟨some 16, .bin .eql (.t 15) (.k (.d (.int .i64 0))), some (12, true)⟩,
 ⟨some 17, .pick (.t 12) (.t 16) (.k (.d (.bool false))), none⟩,
 ⟨some 2, .mov (.t 17), none⟩]
def s202 : SCode := (.seq (.region q5y 1 []) (.seq (.region q5z 0 []) .ret))
theorem zk1 : qf s202.eq_1 := qg s202.eq_1
theorem xlj : qa q5y.eq_1 := qc
theorem xlk : qa q5z.eq_1 := qc
attribute [go_sem] xlj xlk zk1
theorem x70 : FnIs Tryz.prog 202 Tryz.f202 [] news s202 [.tmp 2] 18 := xo follows Tryz.func202
def q50 : List SOper := [
 ⟨some 1, .box 1 (.t 0), none⟩,
 ⟨some 2, .mov (.k (.d (.bool false))), none⟩]
def q51 : List SOper := [
 ⟨some 3, .load (some 9) (.t 1), none⟩,
 ⟨some 4, .call (.k (.d (.func (.func 196) [] []))) [(.t 3)], none⟩,
 ⟨some 5, .mov (.t 4), none⟩,
 ⟨some 6, .load (some 9) (.t 1), some (5, true)⟩,
 ⟨some 7, .call (.k (.d (.func (.func 202) [] []))) [(.t 6)], some (5, true)⟩,
 ⟨some 8, .pick (.t 5) (.t 7) (.k (.d (.bool false))), none⟩,
 ⟨some 9, .mov (.t 8), none⟩,
 ⟨some 10, .faddr 6 (.t 1), some (9, true)⟩,
 ⟨some 11, .load none (.t 10), some (9, true)⟩,
 ⟨some 12, .bin .eql (.t 11) (.k (.d (.int .i64 0))), some (9, true)⟩,
 ⟨some 13, .pick (.t 9) (.t 12) (.k (.d (.bool false))), none⟩,
 ⟨some 2, .mov (.t 13), none⟩]
def s164 : SCode := (.seq (.region q50 1 []) (.seq (.region q51 0 []) .ret))
theorem zk2 : qf s164.eq_1 := qg s164.eq_1
theorem xll : qa q50.eq_1 := qc
theorem xlm : qa q51.eq_1 := qc
attribute [go_sem] xll xlm zk2
theorem x8s : FnIs Tryz.prog 164 Tryz.f164 [] news s164 [.tmp 2] 14 := xo follows Tryz.func164
def q52 : List SOper := [
 ⟨some 1, .box 1 (.t 0), none⟩,
 ⟨some 2, .mov (.k (.d (.bool false))), none⟩]
def q53 : List SOper := [
 ⟨some 3, .faddr 3 (.t 1), none⟩,
 ⟨some 4, .load none (.t 3), none⟩,
 ⟨some 5, .call (.k (.d (.func (.func 203) [] []))) [(.t 4)], none⟩,
 ⟨some 6, .mov (.t 5), none⟩,
 ⟨some 7, .faddr 6 (.t 1), some (6, true)⟩,
 ⟨some 8, .load none (.t 7), some (6, true)⟩,
 ⟨some 9, .bin .eql (.t 8) (.k (.d (.int .i64 1))), some (6, true)⟩,
 ⟨some 10, .mov (.t 9), some (6, true)⟩,
 ⟨some 11, .faddr 6 (.t 1), some (10, false)⟩,
 ⟨some 12, .load none (.t 11), some (10, false)⟩,
 ⟨some 13, .bin .eql (.t 12) (.k (.d (.int .i64 2))), some (10, false)⟩,
 ⟨some 14, .pick (.t 10) (.k (.d (.bool true))) (.t 13), some (6, true)⟩,
 ⟨some 15, .pick (.t 6) (.t 14) (.k (.d (.bool false))), none⟩,
 ⟨some 16, .mov (.t 15), none⟩,
 ⟨some 17, .load (some 9) (.t 1), some (16, true)⟩,
 ⟨some 18, .call (.k (.d (.func (.func 202) [] []))) [(.t 17)], some (16, true)⟩,
 ⟨some 19, .pick (.t 16) (.t 18) (.k (.d (.bool false))), none⟩,
 ⟨some 20, .mov (.t 19), none⟩,
 ⟨some 21, .faddr 4 (.t 1), some (20, true)⟩,
 ⟨some 22, .load none (.t 21), some (20, true)⟩,
 ⟨some 23, .bin .eql (.t 22) (.k (.d (.int .i64 0))), some (20, true)⟩,
 ⟨some 24, .pick (.t 20) (.t 23) (.k (.d (.bool false))), none⟩,
 ⟨some 25, .mov (.t 24), none⟩,
 ⟨some 26, .faddr 5 (.t 1), some (25, true)⟩,
 ⟨some 27, .load none (.t 26), some (25, true)⟩,
 ⟨some 28, .bin .eql (.t 27) (.k (.d (.int .i64 0))), some (25, true)⟩,
 ⟨some 29, .pick (.t 25) (.t 28) (.k (.d (.bool false))), none⟩,
 ⟨some 2, .mov (.t 29), none⟩]
def s165 : SCode := (.seq (.region q52 1 []) (.seq (.region q53 0 []) .ret))
theorem zk3 : qf s165.eq_1 := qg s165.eq_1
theorem xln : qa q52.eq_1 := qc
theorem xlo : qa q53.eq_1 := qc
attribute [go_sem] xln xlo zk3
theorem x71 : FnIs Tryz.prog 165 Tryz.f165 [] news s165 [.tmp 2] 30 := xo follows Tryz.func165
def q54 : List SOper := [
 ⟨some 1, .box 1 (.t 0), none⟩,
 ⟨some 2, .mov (.k (.d (.bool false))), none⟩]
def q55 : List SOper := [
 ⟨some 3, .load (some 3) (.t 1), none⟩,
 ⟨some 4, .call (.k (.d (.func (.func 199) [] []))) [(.t 3)], none⟩,
 ⟨some 5, .not (.t 4), none⟩,
 ⟨some 2, .mov (.t 5), none⟩]
def s198 : SCode := (.seq (.region q54 1 []) (.seq (.region q55 0 []) .ret))
theorem zk4 : qf s198.eq_1 := qg s198.eq_1
theorem xlp : qa q54.eq_1 := qc
theorem xlq : qa q55.eq_1 := qc
attribute [go_sem] xlp xlq zk4
theorem x8t : FnIs Tryz.prog 198 Tryz.f198 [] news s198 [.tmp 2] 6 := xo follows Tryz.func198
def q56 : List SOper := [
 ⟨some 2, .mov (.k (.d (.bool false))), none⟩]
def q57 : List SOper := [
 ⟨some 3, .mov (.t 0), none⟩,
 ⟨some 4, .bin .lss (.t 3) (.k (.d (.int .i64 0))), none⟩,
 ⟨some 5, .mov (.t 4), none⟩,
 ⟨some 6, .mov (.t 0), some (5, false)⟩,
 ⟨some 7, .bin .gtr (.t 6) (.k (.d (.int .i64 1099511627776))), some (5, false)⟩,
 ⟨some 8, .pick (.t 5) (.k (.d (.bool true))) (.t 7), none⟩,
 ⟨some 2, .mov (.t 8), none⟩]
def s201 : SCode := (.seq (.region q56 0 []) (.seq (.region q57 0 []) .ret))
theorem zk5 : qf s201.eq_1 := qg s201.eq_1
theorem xlr : qa q56.eq_1 := qc
theorem xls : qa q57.eq_1 := qc
attribute [go_sem] xlr xls zk5
theorem x8u : FnIs Tryz.prog 201 Tryz.f201 [] news s201 [.tmp 2] 9 := xo follows Tryz.func201
end
def role (n : Int) : Bool := decide (n ≥ 0) && decide (n < 6)
theorem qsc (n : Int) : ql Tryz.prog 203 [.d (.int .i64 n)] [] (.d (.bool (role n))) [] := by
 first | refine xk9.go ?_ | refine xk9.goT ?_
 (refine ev ?_; try exact True.intro)
 rfl
def vq (v : AV) : Bool := if v.kind == 1 then v.s == [] else if v.kind == 2 then v.n == 0 && decide ((v.s.length : Int) ≤ 40) else false
theorem qyc (v : AV) : ql Tryz.prog 199 [.d (.agg (xg v))] [] (.d (.bool (vq v))) [] := by
 first | refine x8r.go ?_ | refine x8r.goT ?_
 (refine ev1 @xg.eq_1 ?_; try exact True.intro)
 refine qo _ rfl rfl (fun h => ?_) (fun h => ?_)
 ·(refine ev2 @vq.eq_1 @h ?_; try exact True.intro)
 ·(refine ev ?_; try exact True.intro)
  refine qo _ rfl rfl (fun h2 => ?_) (fun h2 => ?_)
  ·(refine ev3 @vq.eq_1 @h @h2 ?_; try exact True.intro)
  ·(refine ev3 @vq.eq_1 @h @h2 ?_; try exact True.intro)
def qc8 (p : Pk) : Bool := role p.from_ && role p.to && p.from_ != p.to && decide (p.seq ≥ 1) && decide (p.seq ≤ 1099511627776)
theorem qjb (p : Pk) : ql Tryz.prog 196 [.d (.agg (qi p))] [] (.d (.bool (qc8 p))) [] := by
 first | refine x7z.go ?_ | refine x7z.goT ?_
 (refine ev1 @qi.eq_1 ?_; try exact True.intro)
 refine xj (qsc _) xk9.body (fun h => h) (fun _ => ⟨qd, trivial⟩) rfl rfl rfl ?_
 (refine ev ?_; try exact True.intro)
 refine xj (qsc _) xk9.body (fun h => h) (fun _ => ⟨qd, trivial⟩) rfl rfl rfl ?_
 (refine ev ?_; try exact True.intro)
 rfl
def bare (p : Pk) : Bool := p.epoch == 0 && (p.values.length : Int) == 0 && (p.clock.length : Int) == 0
theorem qyd (p : Pk) : ql Tryz.prog 202 [.d (.agg (qi p))] [] (.d (.bool (bare p))) [] := by
 first | refine x70.go ?_ | refine x70.goT ?_
 (refine ev1 @qi.eq_1 ?_; try exact True.intro)
 rfl
theorem qav (p : Pk) : ([ASlot.d (.agg (qi p))].all ASlot.noPtr) = true := by
 simp only [List.all_cons, List.all_nil, ASlot.noPtr, D.noPtr, qd3, Bool.and_self]
def ack (p : Pk) : Bool := qc8 p && bare p && p.label == 0
theorem xlt (p : Pk) : ql Tryz.prog 164 [.d (.agg (qi p))] [] (.d (.bool (ack p))) [] := by
 first | refine x8s.go ?_ | refine x8s.goT ?_
 (refine ev1 @qi.eq_1 ?_; try exact True.intro)
 refine xj (qjb p) x7z.body (fun h => h) (fun _ => ⟨qd, trivial⟩) (qav p) rfl rfl ?_
 (refine ev ?_; try exact True.intro)
 refine xj (qyd p) x70.body (fun h => h) (fun _ => ⟨qd, trivial⟩) (qav p) rfl rfl ?_
 (refine ev ?_; try exact True.intro)
 rfl
def order (p : Pk) : Bool := role p.from_ && (p.label == 1 || p.label == 2) && bare p && p.to == 0 && p.seq == 0
theorem qts (p : Pk) : ql Tryz.prog 165 [.d (.agg (qi p))] [] (.d (.bool (order p))) [] := by
 first | refine x71.go ?_ | refine x71.goT ?_
 (refine ev1 @qi.eq_1 ?_; try exact True.intro)
 refine xj (qsc _) xk9.body (fun h => h) (fun _ => ⟨qd, trivial⟩) rfl rfl rfl ?_
 (refine ev ?_; try exact True.intro)
 refine ⟨by simp_all, ?_⟩
 refine xj (qyd p) x70.body (fun h => h) (fun _ => ⟨qd, trivial⟩) (qav p) rfl rfl ?_
 (refine ev ?_; try exact True.intro)
 rfl
theorem q3p (v : AV) : ql Tryz.prog 198 [.d (.agg (xg v))] [] (.d (.bool (!vq v))) [] := by
 first | refine x8t.go ?_ | refine x8t.goT ?_
 (refine ev1 @xg.eq_1 ?_; try exact True.intro)
 refine xj (qyc v) x8r.body (fun h => h) (fun _ => ⟨qd, trivial⟩) rfl rfl rfl ?_
 (refine ev ?_; try exact True.intro)
theorem q3q (n : Int) : ql Tryz.prog 201 [.d (.int .i64 n)] [] (.d (.bool (decide (n < 0) || decide (n > 1099511627776)))) [] := by
 first | refine x8u.go ?_ | refine x8u.goT ?_
 (refine ev ?_; try exact True.intro)
 intro h
 rw [h]; rfl
end Go.Proofs.YtinnaedmdoengaaGreat
namespace Go.Proofs.YtinnaedmdoengaaGreat
open Go.Abs
set_option linter.unusedSimpArgs false
theorem vr (s : List UInt8) : D.noPtrR (qe s) = true := xn (fun _ => rfl) s
theorem xk (s t : List UInt8) : qe s ++ qe t = qe (s ++ t) := by simp [qe]
theorem wc (c : UInt8) : [[D.int .u8 (c.toNat : Int)]] = qe [c] := rfl
theorem x9 (s : List UInt8) : (qe s).length = s.length := by simp [qe]
theorem xa : qe [] = [] := rfl
attribute [go_sem] vr x9
attribute [go_sem] xa
def yr (u : Nat) : List UInt8 := if u < 128 then [UInt8.ofNat u] else UInt8.ofNat (u % 128 + 128) :: yr (u / 128)
def zz (n : Int) : Nat := if 0 ≤ n then (2 * n).toNat else (-2 * n - 1).toNat
def wInt (n : Int) : List UInt8 := yr (zz n)
def I64 (n : Int) : Prop := -9223372036854775808 ≤ n ∧ n ≤ 9223372036854775807
theorem qf7 : ∀ (k u : Nat), u < 128 ^ (k + 1) → (yr u).length ≤ k + 1
 | 0, u, h => by rw [yr, if_pos (by simpa using h)]; simp
 | k + 1, u, h => by
  rw [yr]
  split
  ·simp
  ·have := qf7 k (u / 128) (by rw [Nat.div_lt_iff_lt_mul (by decide)]; rw [Nat.pow_succ] at h; exact h)
   simp; omega
theorem q3r {n : Int} (h : I64 n) : zz n < 18446744073709551616 := by
 obtain ⟨h1, h2⟩ := h
 unfold zz; split <;> omega
theorem x7 {n : Int} (h : I64 n) : (wInt n).length ≤ 10 := qf7 9 _ (Nat.lt_of_lt_of_le (q3r h) (by decide))
theorem q3s (n : Int) : 0 < (wInt n).length := by unfold wInt; rw [yr]; split <;> simp
theorem qjc (n : Int) : IntKind.u8.wrap n = n % 256 := by simp [IntKind.wrap, IntKind.bits, IntKind.signed]
theorem qdr (a : Nat) (h : a < 2 ^ 64) : ((BitVec.ofInt 64 (a : Int)) ^^^ (BitVec.ofInt 64 18446744073709551615)).toNat = 18446744073709551615 - a := by
 have e1 : BitVec.ofInt 64 18446744073709551615 = BitVec.allOnes 64 := by decide
 have e2 : BitVec.ofInt 64 (a : Int) = BitVec.ofNat 64 a := by simp
 rw [e1, e2, BitVec.xor_allOnes, BitVec.toNat_not, BitVec.toNat_ofNat, Nat.mod_eq_of_lt h]
theorem x8v {n : Int} (h : I64 n) : IntKind.u64.wrap (qno 64 (IntKind.u64.wrap (IntKind.u64.wrap n * 2 ^ min 1 64)) (IntKind.u64.wrap (n.fdiv (2 ^ min 63 64)))) = (zz n : Int) := by
 unfold qno
 obtain ⟨h1, h2⟩ := h
 have hf : n.fdiv (2 ^ min 63 64) = if 0 ≤ n then 0 else -1 := by
  show n.fdiv 9223372036854775808 = _
  rw [Int.fdiv_eq_ediv_of_nonneg _ (by decide)]
  split <;> omega
 have hw : ∀ m : Int, IntKind.u64.wrap m = m % 18446744073709551616 := fun m => by simp [IntKind.wrap, IntKind.bits, IntKind.signed]
 have hz := q3r ⟨h1, h2⟩
 have hp : (2 : Int) ^ min 1 64 = 2 := rfl
 rw [hf, hp]
 by_cases hn : 0 ≤ n
 ·rw [if_pos hn]
  have e0 : BitVec.ofInt 64 (IntKind.u64.wrap 0) = 0#64 := by rw [hw]; rfl
  have e1 : IntKind.u64.wrap (IntKind.u64.wrap n * 2) = ((zz n : Nat) : Int) := by rw [hw, hw]; unfold zz; rw [if_pos hn]; omega
  rw [e0, e1, BitVec.xor_zero, BitVec.ofInt_natCast, BitVec.toNat_ofNat, Nat.mod_eq_of_lt hz, hw]
  omega
 ·rw [if_neg hn]
  have e0 : IntKind.u64.wrap (-1) = 18446744073709551615 := by rw [hw]; rfl
  have e1 : IntKind.u64.wrap (IntKind.u64.wrap n * 2) = ((18446744073709551615 - zz n : Nat) : Int) := by rw [hw, hw]; unfold zz at hz ⊢; rw [if_neg hn] at hz ⊢; omega
  rw [e0, e1, qdr _ (by show _ < 18446744073709551616; omega), hw]
  unfold zz at hz ⊢; rw [if_neg hn] at hz ⊢; omega
theorem q3t (u : Nat) : (IntKind.u8.wrap (bvOr 8 (IntKind.u8.wrap (u : Int)) 128)) = ((UInt8.ofNat (u % 128 + 128)).toNat : Int) := by
 unfold bvOr
 have hw : ∀ m : Int, IntKind.u8.wrap m = m % 256 := fun m => by simp [IntKind.wrap, IntKind.bits, IntKind.signed]
 have e1 : BitVec.ofInt 8 (IntKind.u8.wrap (u : Int)) = BitVec.ofNat 8 (u % 256) := by rw [hw, show ((u : Int) % 256) = ((u % 256 : Nat) : Int) by omega, BitVec.ofInt_natCast]
 have key : ∀ x : Fin 256, (BitVec.ofNat 8 x.val ||| BitVec.ofInt 8 128).toNat = x.val % 128 + 128 := by decide +kernel
 have := key ⟨u % 256, Nat.mod_lt _ (by decide)⟩
 simp only at this
 rw [e1, this, hw]
 simp only [UInt8.toNat_ofNat']
 omega
theorem qaf {u : Nat} (h : ¬ u < 128) : yr u = UInt8.ofNat (u % 128 + 128) :: yr (u / 128) := by rw [yr, if_neg h]
theorem qag {u : Nat} (h : u < 128) : yr u = [UInt8.ofNat u] := by rw [yr, if_pos h]
theorem zk6 (u : Nat) : (u : Int).fdiv (2 ^ min 7 64) = ((u / 128 : Nat) : Int) := by
 show (u : Int).fdiv 128 = _
 rw [Int.fdiv_eq_ediv_of_nonneg _ (by decide)]; omega
theorem qmz (u : Nat) : IntKind.u8.wrap (u : Int) = ((UInt8.ofNat u).toNat : Int) := by
 rw [qjc _, UInt8.toNat_ofNat']; omega
noncomputable section
set_option maxRecDepth 100000
def xlu : List SOper := [
 ⟨some 4, .mov (.k (.d .nilsl)), none⟩]
def xlv : List SOper := [
 ⟨some 6, .mov (.t 1), none⟩,
 ⟨some 7, .conv .u64 (.t 6), none⟩,
 ⟨some 8, .bin .shl (.t 7) (.k (.d (.int .u64 1))), none⟩,
 ⟨some 9, .mov (.t 1), none⟩,
 ⟨some 10, .bin .shr (.t 9) (.k (.d (.int .u64 63))), none⟩,
 ⟨some 11, .conv .u64 (.t 10), none⟩,
 ⟨some 12, .bin .xor (.t 8) (.t 11), none⟩,
 ⟨some 5, .mov (.t 12), none⟩]
def xlw : List SOper := [
 ⟨some 13, .mov (.t 5), none⟩,
 ⟨some 14, .bin .geq (.t 13) (.k (.d (.int .u64 128))), none⟩]
def xlx : List SOper := [
 ⟨some 15, .mov (.t 0), none⟩,
 ⟨some 16, .mov (.t 5), none⟩,
 ⟨some 17, .conv .u8 (.t 16), none⟩,
 ⟨some 18, .bin .or (.t 17) (.k (.d (.int .u8 128))), none⟩,
 ⟨some 19, .buildSlice false 1 1 [(.int .u8 0)] [(0, 1, (.t 18))], none⟩,
 ⟨some 20, .append false 1 1 (.t 15) (.t 19), none⟩,
 ⟨some 0, .mov (.t 20), none⟩]
def xly : List SOper := [
 ⟨some 21, .mov (.t 5), none⟩,
 ⟨some 22, .bin .shr (.t 21) (.k (.d (.int .u64 7))), none⟩,
 ⟨some 5, .mov (.t 22), none⟩]
def xia : SCode := (.seq (.seq (.region xlw 0 []) (.cond (.t 14) .skip (.exit 0))) (.block 1 (.seq (.region xlx 0 []) (.region xly 0 []))))
theorem x8w : qf xia.eq_1 := qg xia.eq_1
def xlz : List SOper := [
 ⟨some 23, .mov (.t 0), none⟩,
 ⟨some 24, .mov (.t 5), none⟩,
 ⟨some 25, .conv .u8 (.t 24), none⟩,
 ⟨some 26, .buildSlice false 1 1 [(.int .u8 0)] [(0, 1, (.t 25))], none⟩,
 ⟨some 27, .append false 1 1 (.t 23) (.t 26), none⟩,
 ⟨some 4, .mov (.t 27), none⟩]
def s91 : SCode := (.seq (.region xlu 0 []) (.seq (.region xlv 0 []) (.seq (.block 0 (.loop xia)) (.seq (.region xlz 0 []) .ret))))
theorem e91 : qf s91.eq_1 := qg s91.eq_1
theorem x8x : qa xlu.eq_1 := qc
theorem x8y : qa xlv.eq_1 := qc
theorem x8z : qa xlw.eq_1 := qc
theorem x80 : qa xlx.eq_1 := qc
theorem x81 : qa xly.eq_1 := qc
theorem x82 : qa xlz.eq_1 := qc
attribute [go_sem] x8x x8y x8z x80 x81 x8w x82 e91
theorem F91 : FnIs Tryz.prog 91 Tryz.f91 [] news s91 [.tmp 4] 28 := xo follows Tryz.func91
def xl0 : List SOper := [
 ⟨some 4, .mov (.k (.d .nilsl)), none⟩]
def xl1 : List SOper := [
 ⟨some 5, .mov (.t 1), none⟩]
def xl2 : List SOper := [
 ⟨some 6, .mov (.t 0), none⟩,
 ⟨some 7, .buildSlice false 1 1 [(.int .u8 0)] [(0, 1, (.k (.d (.int .u8 1))))], none⟩,
 ⟨some 8, .append false 1 1 (.t 6) (.t 7), none⟩,
 ⟨some 4, .mov (.t 8), none⟩]
def xl3 : List SOper := [
 ⟨some 9, .mov (.t 0), none⟩,
 ⟨some 10, .buildSlice false 1 1 [(.int .u8 0)] [(0, 1, (.k (.d (.int .u8 0))))], none⟩,
 ⟨some 11, .append false 1 1 (.t 9) (.t 10), none⟩,
 ⟨some 4, .mov (.t 11), none⟩]
def s98 : SCode := (.seq (.region xl0 0 []) (.seq (.seq (.region xl1 0 []) (.cond (.t 5) (.seq (.region xl2 0 []) .ret) .skip)) (.seq (.region xl3 0 []) .ret)))
theorem e98 : qf s98.eq_1 := qg s98.eq_1
theorem x83 : qa xl0.eq_1 := qc
theorem x84 : qa xl1.eq_1 := qc
theorem x85 : qa xl2.eq_1 := qc
theorem x86 : qa xl3.eq_1 := qc
attribute [go_sem] x83 x84 x85 x86 e98
theorem F98 : FnIs Tryz.prog 98 Tryz.f98 [] news s98 [.tmp 4] 12 := xo follows Tryz.func98
def xl4 : List SOper := [
 ⟨some 4, .mov (.k (.d .nilsl)), none⟩]
def xl5 : List SOper := [
 ⟨some 5, .mov (.t 0), none⟩,
 ⟨some 6, .mov (.t 1), none⟩,
 ⟨some 7, .lenS (.t 6), none⟩,
 ⟨some 8, .call (.k (.d (.func (.func 91) [] []))) [(.t 5), (.t 7)], none⟩,
 ⟨some 9, .mov (.t 1), none⟩,
 ⟨some 10, .append false 1 1 (.t 8) (.t 9), none⟩,
 ⟨some 4, .mov (.t 10), none⟩]
def s99 : SCode := (.seq (.region xl4 0 []) (.seq (.region xl5 0 []) .ret))
theorem e99 : qf s99.eq_1 := qg s99.eq_1
theorem x87 : qa xl4.eq_1 := qc
theorem x88 : qa xl5.eq_1 := qc
attribute [go_sem] x87 x88 e99
theorem F99 : FnIs Tryz.prog 99 Tryz.f99 [] news s99 [.tmp 4] 11 := xo follows Tryz.func99
def xl6 : List SOper := [
 ⟨some 4, .mov (.k (.d .nilsl)), none⟩]
def xl7 : List SOper := [
 ⟨some 5, .mov (.t 0), none⟩,
 ⟨some 6, .mov (.t 1), none⟩,
 ⟨some 7, .len (.t 6), none⟩,
 ⟨some 8, .call (.k (.d (.func (.func 91) [] []))) [(.t 5), (.t 7)], none⟩,
 ⟨some 9, .mov (.t 1), none⟩,
 ⟨some 10, .append false 1 1 (.t 8) (.t 9), none⟩,
 ⟨some 4, .mov (.t 10), none⟩]
def s97 : SCode := (.seq (.region xl6 0 []) (.seq (.region xl7 0 []) .ret))
theorem e97 : qf s97.eq_1 := qg s97.eq_1
theorem x89 : qa xl6.eq_1 := qc
theorem x9a : qa xl7.eq_1 := qc
attribute [go_sem] x89 x9a e97
theorem F97 : FnIs Tryz.prog 97 Tryz.f97 [] news s97 [.tmp 4] 11 := xo follows Tryz.func97
end
def q3u (b : List UInt8) (n : Int) (i : { i : List UInt8 × Nat // i.1 ++ yr i.2 = b ++ wInt n }) : St :=
 ⟨[(0, true, .own 0 1 (qe i.val.1)), (5, true, .d (.int .u64 (i.val.2 : Nat)))], [], [0], 1⟩
theorem jp (b : List UInt8) (n : Int) (hb : b.length ≤ 1000000000) (hn : I64 n) : ql Tryz.prog 91 [.own 0 1 (qe b), .d (.int .i64 n)] [] (.own 0 1 (qe (b ++ wInt n))) [] := by
 refine F91.go ?_
 try (refine ev1 (x8v hn) ?_; try exact True.intro)
 refine qv (q3u b n) (fun i => i.val.2) ⟨(b, zz n), rfl⟩ ?_ (fun i => ?_)
 ·try (refine ev1 @q3u.eq_1 ?_; try exact True.intro)
 obtain ⟨⟨p, u⟩, hi⟩ := i
 have hl : p.length ≤ 1000000010 := by
  have := congrArg List.length hi
  have := x7 hn
  simp at *; omega
 try (refine ev1 @q3u.eq_1 ?_; try exact True.intro)
 (repeat (with_reducible refine ob ?_)); refine ju _ (fun h => ?_) (fun h => ?_)
 ·have hu : ¬ u < 128 := by simp at h; omega
  try (refine ev4 @q3t @wc @xk @zk6 ?_; try exact True.intro)
  (repeat (with_reducible refine ob ?_))
  refine ⟨⟨(p ++ [UInt8.ofNat (u % 128 + 128)], u / 128), ?_⟩, ?_, ?_⟩
  ·simp only at hi ⊢; rw [qaf hu] at hi; rw [← hi]; simp
  ·try (refine ev1 @q3u.eq_1 ?_; try exact True.intro)
  ·simp only; omega
 ·have hu : u < 128 := by simp at h; omega
  try (refine ev3 @qmz @wc @xk ?_; try exact True.intro)
  (repeat (with_reducible refine ob ?_))
  simp only [qag hu] at hi
  try (refine ev1 @hi ?_; try exact True.intro)
theorem qsd (b : List UInt8) (v : Bool) (hb : b.length ≤ 1000000000) : ql Tryz.prog 98 [.own 0 1 (qe b), .d (.bool v)] [] (.own 0 1 (qe (b ++ [if v then 1 else 0]))) [] := by
 refine F98.go ?_
 try (refine ev ?_; try exact True.intro)
 have e1 : [[D.int .u8 1]] = qe [1] := rfl
 have e0 : [[D.int .u8 0]] = qe [0] := rfl
 cases v with
 | true =>
  try (refine ev ?_; try exact True.intro)
  (repeat (with_reducible refine ob ?_)); refine qcr ?_
  try simp only [e1, xk, if_true, go_sem, Nat.reduceAdd, Nat.reduceMul, Nat.reduceSub, Nat.reduceEqDiff, Nat.reduceLT, Nat.reduceLeDiff, Nat.reduceBEq, reduceIte, reduceCtorEq, Int.reduceAdd, Int.reduceLT, Int.reduceLE, Int.reduceGT, Int.reduceGE, Int.reduceEq, Int.reduceNe, Int.reduceBEq, Int.reduceBNe, Int.reduceToNat, Int.reduceNeg]
  omega
 | false =>
  try (refine ev ?_; try exact True.intro)
  (repeat (with_reducible refine ob ?_)); refine no_ ?_
  try (refine ev2 @e0 @xk ?_; try exact True.intro)
  omega
def ww (s : List UInt8) : List UInt8 := wInt s.length ++ s
theorem xz {n : Nat} (h : n ≤ 9000000000000000000) : I64 n := by unfold I64; omega
theorem qjd (b s : List UInt8) (hb : b.length + s.length ≤ 900000000) : ql Tryz.prog 99 [.own 0 1 (qe b), .d (.str s)] [] (.own 0 1 (qe (b ++ ww s))) [] := by
 refine F99.go ?_
 try (refine ev ?_; try exact True.intro)
 refine clA F91 (jp b s.length (by omega) (xz (by omega))) ?_
 try (refine ev ?_; try exact True.intro)
 have hl := x7 (xz (n := s.length) (by omega))
 have e : qe (b ++ wInt s.length) ++ qe s = qe (b ++ ww s) := by rw [xk, ww, List.append_assoc]
 try (refine ev2 @e @List.length_append.{0} ?_; try exact True.intro)
 refine ⟨by omega, by omega⟩
theorem qpd (b s : List UInt8) (hb : b.length + s.length ≤ 900000000) : ql Tryz.prog 97 [.own 0 1 (qe b), .d (.sl 1 (qe s))] [] (.own 0 1 (qe (b ++ ww s))) [] := by
 refine F97.go ?_
 try (refine ev ?_; try exact True.intro)
 refine clA F91 (jp b s.length (by omega) (xz (by omega))) ?_
 try (refine ev ?_; try exact True.intro)
 have hl := x7 (xz (n := s.length) (by omega))
 have e : qe (b ++ wInt s.length) ++ qe s = qe (b ++ ww s) := by rw [xk, ww, List.append_assoc]
 try (refine ev2 @e @List.length_append.{0} ?_; try exact True.intro)
 refine ⟨by omega, by omega⟩
end Go.Proofs.YtinnaedmdoengaaGreat
namespace Go.Proofs.YtinnaedmdoengaaGreat
open Go.Abs
set_option linter.unusedSimpArgs false
def idx {α : Type} (f : α → Bool) (l : List α) : Int := if l.any f then (l.findIdx f : Int) else -1
theorem qm0 {α : Type} {f : α → Bool} {l : List α} {i : Nat} (h : (l.take i).any f = false) (hi : l.length ≤ i) : idx f l = -1 := by
 rw [List.take_of_length_le hi] at h
 simp [idx, h]
theorem qm1 {α : Type} {f : α → Bool} {l : List α} {i : Nat} (h : (l.take i).any f = false) (hi : i < l.length) (hf : f l[i] = true) : idx f l = (i : Int) := by
 have ha : l.any f = true := List.any_eq_true.2 ⟨l[i], List.getElem_mem hi, hf⟩
 have hx : l.findIdx f = i := by
  rw [List.findIdx_eq hi]
  refine ⟨hf, fun j hj => ?_⟩
  rw [List.any_eq_false] at h
  have hj' : j < (l.take i).length := by simp; omega
  have := h (l.take i)[j] (List.getElem_mem hj')
  simpa using this
 simp [idx, ha, hx]
theorem qb4 {α : Type} {f : α → Bool} {l : List α} {i : Nat} (h : (l.take i).any f = false) (hi : i < l.length) (hf : f l[i] = false) : (l.take (i + 1)).any f = false := by
 rw [List.take_succ_eq_append_getElem hi, List.any_append, h]
 simp [hf]
theorem qye {α : Type} (f : α → Bool) (l : List α) : decide (idx f l ≥ 0) = l.any f := by
 unfold idx
 cases l.any f <;> simp
noncomputable section
set_option maxRecDepth 100000
def q58 : List SOper := [
 ⟨some 4, .mov (.k (.d (.int .i64 0))), none⟩]
def q59 : List SOper := [
 ⟨some 6, .mov (.t 0), none⟩,
 ⟨some 7, .len (.t 6), none⟩,
 ⟨some 8, .mov (.k (.d (.int .i64 0))), none⟩]
def q6a : List SOper := [
 ⟨some 9, .bin .lss (.t 8) (.t 7), none⟩]
def q6b : List SOper := [
 ⟨some 10, .mov (.t 8), none⟩,
 ⟨some 5, .mov (.t 10), none⟩]
def q6c : List SOper := [
 ⟨some 11, .mov (.t 1), none⟩,
 ⟨some 12, .mov (.t 0), none⟩,
 ⟨some 13, .mov (.t 5), none⟩,
 ⟨some 14, .iaddr 3 (.t 12) (.t 13), none⟩,
 ⟨some 15, .load (some 3) (.t 14), none⟩,
 ⟨some 16, .call (.t 11) [(.t 15)], none⟩]
def q6d : List SOper := [
 ⟨some 17, .mov (.t 5), none⟩,
 ⟨some 4, .mov (.t 17), none⟩]
def q6e : List SOper := [
 ⟨some 18, .bin .add (.t 8) (.k (.d (.int .i64 1))), none⟩,
 ⟨some 8, .mov (.t 18), none⟩]
def qyf : SCode := (.seq (.region q6a 0 []) (.seq (.cond (.t 9) .skip (.exit 0)) (.seq (.block 1 (.seq (.region q6b 0 []) (.seq (.region q6c 0 []) (.cond (.t 16) (.seq (.region q6d 0 []) .ret) .skip)))) (.region q6e 0 []))))
theorem xl8 : qf qyf.eq_1 := qg qyf.eq_1
def q6f : List SOper := [
 ⟨some 4, .mov (.k (.d (.int .i64 (-1)))), none⟩]
def s211 : SCode := (.seq (.region q58 0 []) (.seq (.seq (.region q59 0 []) (.block 0 (.loop qyf))) (.seq (.region q6f 0 []) .ret)))
theorem zk7 : qf s211.eq_1 := qg s211.eq_1
theorem xl9 : qa q58.eq_1 := qc
theorem xma : qa q59.eq_1 := qc
theorem xmb : qa q6a.eq_1 := qc
theorem xmc : qa q6b.eq_1 := qc
theorem xmd : qa q6c.eq_1 := qc
theorem xme : qa q6d.eq_1 := qc
theorem xmf : qa q6e.eq_1 := qc
theorem xmg : qa q6f.eq_1 := qc
attribute [go_sem] xl9 xma xmb xmc xmd xme xmf xl8 xmg zk7
theorem x9b : FnIs Tryz.prog 211 Tryz.f211 [] news s211 [.tmp 4] 19 := xo follows Tryz.func211
def q6g : List SOper := [
 ⟨some 4, .mov (.k (.d (.int .i64 0))), none⟩]
def q6h : List SOper := [
 ⟨some 6, .mov (.t 0), none⟩,
 ⟨some 7, .len (.t 6), none⟩,
 ⟨some 8, .mov (.k (.d (.int .i64 0))), none⟩]
def q6i : List SOper := [
 ⟨some 9, .bin .lss (.t 8) (.t 7), none⟩]
def q6j : List SOper := [
 ⟨some 10, .mov (.t 8), none⟩,
 ⟨some 5, .mov (.t 10), none⟩]
def q6k : List SOper := [
 ⟨some 11, .mov (.t 1), none⟩,
 ⟨some 12, .mov (.t 0), none⟩,
 ⟨some 13, .mov (.t 5), none⟩,
 ⟨some 14, .iaddr 1 (.t 12) (.t 13), none⟩,
 ⟨some 15, .load none (.t 14), none⟩,
 ⟨some 16, .call (.t 11) [(.t 15)], none⟩]
def q6l : List SOper := [
 ⟨some 17, .mov (.t 5), none⟩,
 ⟨some 4, .mov (.t 17), none⟩]
def q6m : List SOper := [
 ⟨some 18, .bin .add (.t 8) (.k (.d (.int .i64 1))), none⟩,
 ⟨some 8, .mov (.t 18), none⟩]
def qyg : SCode := (.seq (.region q6i 0 []) (.seq (.cond (.t 9) .skip (.exit 0)) (.seq (.block 1 (.seq (.region q6j 0 []) (.seq (.region q6k 0 []) (.cond (.t 16) (.seq (.region q6l 0 []) .ret) .skip)))) (.region q6m 0 []))))
theorem xmh : qf qyg.eq_1 := qg qyg.eq_1
def q6n : List SOper := [
 ⟨some 4, .mov (.k (.d (.int .i64 (-1)))), none⟩]
def s212 : SCode := (.seq (.region q6g 0 []) (.seq (.seq (.region q6h 0 []) (.block 0 (.loop qyg))) (.seq (.region q6n 0 []) .ret)))
theorem zk8 : qf s212.eq_1 := qg s212.eq_1
theorem xmi : qa q6g.eq_1 := qc
theorem xmj : qa q6h.eq_1 := qc
theorem xmk : qa q6i.eq_1 := qc
theorem xml : qa q6j.eq_1 := qc
theorem xmm : qa q6k.eq_1 := qc
theorem xmn : qa q6l.eq_1 := qc
theorem xmo : qa q6m.eq_1 := qc
theorem xmp : qa q6n.eq_1 := qc
attribute [go_sem] xmi xmj xmk xml xmm xmn xmo xmh xmp zk8
theorem x9c : FnIs Tryz.prog 212 Tryz.f212 [] news s212 [.tmp 4] 19 := xo follows Tryz.func212
def q6o : List SOper := [
 ⟨some 4, .mov (.k (.d (.bool false))), none⟩]
def q6p : List SOper := [
 ⟨some 5, .mov (.t 0), none⟩,
 ⟨some 6, .mov (.t 1), none⟩,
 ⟨some 7, .call (.k (.d (.func (.func 211) [] []))) [(.t 5), (.t 6)], none⟩,
 ⟨some 8, .bin .geq (.t 7) (.k (.d (.int .i64 0))), none⟩,
 ⟨some 4, .mov (.t 8), none⟩]
def s197 : SCode := (.seq (.region q6o 0 []) (.seq (.region q6p 0 []) .ret))
theorem zk9 : qf s197.eq_1 := qg s197.eq_1
theorem xmq : qa q6o.eq_1 := qc
theorem xmr : qa q6p.eq_1 := qc
attribute [go_sem] xmq xmr zk9
theorem x9d : FnIs Tryz.prog 197 Tryz.f197 [] news s197 [.tmp 4] 9 := xo follows Tryz.func197
def q6q : List SOper := [
 ⟨some 4, .mov (.k (.d (.bool false))), none⟩]
def q6r : List SOper := [
 ⟨some 5, .mov (.t 0), none⟩,
 ⟨some 6, .mov (.t 1), none⟩,
 ⟨some 7, .call (.k (.d (.func (.func 212) [] []))) [(.t 5), (.t 6)], none⟩,
 ⟨some 8, .bin .geq (.t 7) (.k (.d (.int .i64 0))), none⟩,
 ⟨some 4, .mov (.t 8), none⟩]
def s200 : SCode := (.seq (.region q6q 0 []) (.seq (.region q6r 0 []) .ret))
theorem zla : qf s200.eq_1 := qg s200.eq_1
theorem xms : qa q6q.eq_1 := qc
theorem xmt : qa q6r.eq_1 := qc
attribute [go_sem] xms xmt zla
theorem x9e : FnIs Tryz.prog 200 Tryz.f200 [] news s200 [.tmp 4] 9 := xo follows Tryz.func200
end
def Sidx {α : Type} (es : Nat) (enc : α → List D) (k : FuncId) (l : List α) (f : α → Bool) (i : { i : Nat // (l.take i).any f = false }) : St :=
 ⟨[(0, true, .d (.sl es (l.map enc))), (1, true, .d (.func (.func k) [] [])), (6, true, .d (.sl es (l.map enc))), (7, true, .d (.int .i64 l.length)), (8, true, .d (.int .i64 (i.val : Nat)))], [], [], 1⟩
theorem qyh {k : FuncId} {f : AV → Bool} (hb : (Tryz.prog.funcs[k]?).any (fun fn => fn.body.isSome && !(fn.name == "runtime.NumGoroutine")) = true)
  (hf : ∀ v, ql Tryz.prog k [.d (.agg (xg v))] [] (.d (.bool (f v))) []) (l : List AV) (hl : l.length ≤ maxLen) :
  ql Tryz.prog 211 [.d (.sl 3 (l.map xg)), .d (.func (.func k) [] [])] [] (.d (.int .i64 (idx f l))) [] := by
 first | refine x9b.go ?_ | refine x9b.goT ?_
 (refine ev ?_; try exact True.intro)
 refine qv (Sidx 3 xg k l f) (fun i => l.length - i.val) ⟨0, rfl⟩ ?_ (fun i => ?_)
 ·(refine ev2 @Sidx.eq_1 (xn jy) ?_; try exact True.intro)
 ·obtain ⟨i, hi⟩ := i
  (refine ev1 @Sidx.eq_1 ?_; try exact True.intro)
  refine qo _ rfl rfl (fun h => ?_) (fun h => ?_)
  ·have hil : i < l.length := by simpa using h
   (refine ev2 (qz xg l hil) @xg.eq_1 ?_; try exact True.intro)
   refine ⟨by omega, ?_⟩
   refine xj (hf l[i]) hb (fun h => h) (fun _ => ⟨qd, trivial⟩) rfl rfl rfl ?_
   (refine ev ?_; try exact True.intro)
   refine qo _ rfl rfl (fun h2 => ?_) (fun h2 => ?_)
   ·(refine ev1 (qm1 hi hil h2) ?_; try exact True.intro)
   ·(refine ev ?_; try exact True.intro)
    refine ⟨⟨i + 1, qb4 hi hil h2⟩, ?_, by dsimp only; omega⟩
    (refine ev3 @Sidx.eq_1 (qr (show i < 9223372036854775807 by unfold maxLen at hl; omega)) (xn jy) ?_; try exact True.intro)
  ·have hil : l.length ≤ i := by simpa using h
   (refine ev1 (qm0 hi hil) ?_; try exact True.intro)
theorem qyi {k : FuncId} {f : Int → Bool} (hb : (Tryz.prog.funcs[k]?).any (fun fn => fn.body.isSome && !(fn.name == "runtime.NumGoroutine")) = true)
  (hf : ∀ v, ql Tryz.prog k [.d (.int .i64 v)] [] (.d (.bool (f v))) []) (l : List Int) (hl : l.length ≤ maxLen) :
  ql Tryz.prog 212 [.d (.sl 1 (l.map encI)), .d (.func (.func k) [] [])] [] (.d (.int .i64 (idx f l))) [] := by
 first | refine x9c.go ?_ | refine x9c.goT ?_
 (refine ev ?_; try exact True.intro)
 refine qv (Sidx 1 encI k l f) (fun i => l.length - i.val) ⟨0, rfl⟩ ?_ (fun i => ?_)
 ·(refine ev2 @Sidx.eq_1 (xn w5) ?_; try exact True.intro)
 ·obtain ⟨i, hi⟩ := i
  (refine ev1 @Sidx.eq_1 ?_; try exact True.intro)
  refine qo _ rfl rfl (fun h => ?_) (fun h => ?_)
  ·have hil : i < l.length := by simpa using h
   (refine ev2 (qz encI l hil) @encI.eq_1 ?_; try exact True.intro)
   refine ⟨by omega, ?_⟩
   refine xj (hf l[i]) hb (fun h => h) (fun _ => ⟨qd, trivial⟩) rfl rfl rfl ?_
   (refine ev ?_; try exact True.intro)
   refine qo _ rfl rfl (fun h2 => ?_) (fun h2 => ?_)
   ·(refine ev1 (qm1 hi hil h2) ?_; try exact True.intro)
   ·(refine ev ?_; try exact True.intro)
    refine ⟨⟨i + 1, qb4 hi hil h2⟩, ?_, by dsimp only; omega⟩
    (refine ev3 @Sidx.eq_1 (qr (show i < 9223372036854775807 by unfold maxLen at hl; omega)) (xn w5) ?_; try exact True.intro)
  ·have hil : l.length ≤ i := by simpa using h
   (refine ev1 (qm0 hi hil) ?_; try exact True.intro)
theorem qpe {k : FuncId} {f : AV → Bool} (hb : (Tryz.prog.funcs[k]?).any (fun fn => fn.body.isSome && !(fn.name == "runtime.NumGoroutine")) = true)
  (hf : ∀ v, ql Tryz.prog k [.d (.agg (xg v))] [] (.d (.bool (f v))) []) (l : List AV) (hl : l.length ≤ maxLen) :
  ql Tryz.prog 197 [.d (.sl 3 (l.map xg)), .d (.func (.func k) [] [])] [] (.d (.bool (l.any f))) [] := by
 first | refine x9d.go ?_ | refine x9d.goT ?_
 (refine ev ?_; try exact True.intro)
 refine xj (qyh hb hf l hl) x9b.body (fun h => h) (fun _ => ⟨qd, qd, trivial⟩) (by simp [ASlot.noPtr, D.noPtr, D.noPtrL, xn jy]) rfl rfl ?_
 (refine ev1 @qye ?_; try exact True.intro)
theorem qpf {k : FuncId} {f : Int → Bool} (hb : (Tryz.prog.funcs[k]?).any (fun fn => fn.body.isSome && !(fn.name == "runtime.NumGoroutine")) = true)
  (hf : ∀ v, ql Tryz.prog k [.d (.int .i64 v)] [] (.d (.bool (f v))) []) (l : List Int) (hl : l.length ≤ maxLen) :
  ql Tryz.prog 200 [.d (.sl 1 (l.map encI)), .d (.func (.func k) [] [])] [] (.d (.bool (l.any f))) [] := by
 first | refine x9e.go ?_ | refine x9e.goT ?_
 (refine ev ?_; try exact True.intro)
 refine xj (qyi hb hf l hl) x9c.body (fun h => h) (fun _ => ⟨qd, qd, trivial⟩) (by simp [ASlot.noPtr, D.noPtr, D.noPtrL, xn w5]) rfl rfl ?_
 (refine ev1 @qye ?_; try exact True.intro)
noncomputable section
set_option maxRecDepth 100000
def q6s : List SOper := [
 ⟨some 1, .box 1 (.t 0), none⟩,
 ⟨some 2, .mov (.k (.d (.bool false))), none⟩]
def q6t : List SOper := [
 ⟨some 3, .load (some 9) (.t 1), none⟩,
 ⟨some 4, .call (.k (.d (.func (.func 196) [] []))) [(.t 3)], none⟩,
 ⟨some 5, .mov (.t 4), none⟩,
 ⟨some 6, .faddr 2 (.t 1), some (5, true)⟩,
 ⟨some 7, .load none (.t 6), some (5, true)⟩,
 ⟨some 8, .bin .eql (.t 7) (.k (.d (.int .i64 0))), some (5, true)⟩,
 ⟨some 9, .mov (.t 8), some (5, true)⟩,
 ⟨some 10, .faddr 2 (.t 1), some (9, false)⟩,
 ⟨some 11, .load none (.t 10), some (9, false)⟩,
 ⟨some 12, .bin .eql (.t 11) (.k (.d (.int .i64 1))), some (9, false)⟩,
 ⟨some 13, .pick (.t 9) (.k (.d (.bool true))) (.t 12), some (5, true)⟩,
 ⟨some 14, .pick (.t 5) (.t 13) (.k (.d (.bool false))), none⟩,
 ⟨some 15, .mov (.t 14), none⟩,
 ⟨some 16, .faddr 6 (.t 1), some (15, true)⟩,
 ⟨some 17, .load none (.t 16), some (15, true)⟩,
 ⟨some 18, .bin .geq (.t 17) (.k (.d (.int .i64 0))), some (15, true)⟩,
 ⟨some 19, .pick (.t 15) (.t 18) (.k (.d (.bool false))), none⟩,
 ⟨some 20, .mov (.t 19), none⟩,
 ⟨some 21, .faddr 6 (.t 1), some (20, true)⟩,
 ⟨some 22, .load none (.t 21), some (20, true)⟩,
 ⟨some 23, .bin .lss (.t 22) (.k (.d (.int .i64 40))), some (20, true)⟩,
 ⟨some 24, .pick (.t 20) (.t 23) (.k (.d (.bool false))), none⟩,
 ⟨some 25, .mov (.t 24), none⟩,
 ⟨some 26, .faddr 7 (.t 1), some (25, true)⟩,
 ⟨some 27, .load none (.t 26), some (25, true)⟩,
 ⟨some 28, .len (.t 27), some (25, true)⟩,
 ⟨some 29, .bin .leq (.t 28) (.k (.d (.int .i64 4))), some (25, true)⟩,
 ⟨some 30, .pick (.t 25) (.t 29) (.k (.d (.bool false))), none⟩,
 ⟨some 31, .mov (.t 30), none⟩,
 ⟨some 32, .faddr 8 (.t 1), some (31, true)⟩,
 ⟨some 33, .load none (.t 32), some (31, true)⟩,
 ⟨some 34, .len (.t 33), some (31, true)⟩,
 ⟨some 35, .bin .leq (.t 34) (.k (.d (.int .i64 6))), some (31, true)⟩,
 ⟨some 36, .pick (.t 31) (.t 35) (.k (.d (.bool false))), none⟩,
 ⟨some 37, .mov (.t 36), none⟩,
 ⟨some 38, .faddr 7 (.t 1), some (37, true)⟩,
 ⟨some 39, .load none (.t 38), some (37, true)⟩,
 ⟨some 40, .call (.k (.d (.func (.func 197) [] []))) [(.t 39), (.k (.d (.func (.func 198) [] [])))], some (37, true)⟩,
 ⟨some 41, .not (.t 40), some (37, true)⟩,
 ⟨some 42, .pick (.t 37) (.t 41) (.k (.d (.bool false))), none⟩,
 ⟨some 43, .mov (.t 42), none⟩,
 ⟨some 44, .faddr 8 (.t 1), some (43, true)⟩,
 ⟨some 45, .load none (.t 44), some (43, true)⟩,
 ⟨some 46, .call (.k (.d (.func (.func 200) [] []))) [(.t 45), (.k (.d (.func (.func 201) [] [])))], some (43, true)⟩,
 ⟨some 47, .not (.t 46), some (43, true)⟩,
 ⟨some 48, .pick (.t 43) (.t 47) (.k (.d (.bool false))), none⟩,
 ⟨some 2, .mov (.t 48), none⟩]
def s163 : SCode := (.seq (.region q6s 1 []) (.seq (.region q6t 0 []) .ret))
theorem zlb : qf s163.eq_1 := qg s163.eq_1
theorem xmu : qa q6s.eq_1 := qc
theorem xmv : qa q6t.eq_1 := qc
attribute [go_sem] xmu xmv zlb
theorem x9f : FnIs Tryz.prog 163 Tryz.f163 [] news s163 [.tmp 2] 49 := xo follows Tryz.func163
def q6u : List SOper := [
 ⟨some 1, .box 1 (.t 0), none⟩,
 ⟨some 2, .mov (.k (.d (.bool false))), none⟩]
def q6v : List SOper := [
 ⟨some 4, .build [.nilfunc] [(0, 1, (.k (.d (.func (.func 163) [] []))))], none⟩,
 ⟨some 5, .build [.nilfunc] [(0, 1, (.k (.d (.func (.func 164) [] []))))], none⟩,
 ⟨some 6, .build [.nilfunc] [(0, 1, (.k (.d (.func (.func 165) [] []))))], none⟩,
 ⟨some 7, .build [.nilfunc] [(0, 1, (.k (.d (.func (.func 165) [] []))))], none⟩,
 ⟨some 8, .buildSlice false 1 5 [.nilfunc] [(1, 1, (.t 4)), (2, 1, (.t 5)), (3, 1, (.t 6)), (4, 1, (.t 7))], none⟩,
 ⟨some 3, .mov (.t 8), none⟩]
def q6w : List SOper := [
 ⟨some 9, .faddr 0 (.t 1), none⟩,
 ⟨some 10, .load none (.t 9), none⟩,
 ⟨some 11, .bin .geq (.t 10) (.k (.d (.int .i64 1))), none⟩,
 ⟨some 12, .mov (.t 11), none⟩,
 ⟨some 13, .faddr 0 (.t 1), some (12, true)⟩,
 ⟨some 14, .load none (.t 13), some (12, true)⟩,
 ⟨some 15, .bin .leq (.t 14) (.k (.d (.int .i64 4))), some (12, true)⟩,
 ⟨some 16, .pick (.t 12) (.t 15) (.k (.d (.bool false))), none⟩,
 ⟨some 17, .mov (.t 16), none⟩,
 ⟨some 18, .faddr 1 (.t 1), some (17, true)⟩,
 ⟨some 19, .load none (.t 18), some (17, true)⟩,
 ⟨some 20, .bin .geq (.t 19) (.k (.d (.int .i64 1))), some (17, true)⟩,
 ⟨some 21, .pick (.t 17) (.t 20) (.k (.d (.bool false))), none⟩,
 ⟨some 22, .mov (.t 21), none⟩,
 ⟨some 23, .faddr 1 (.t 1), some (22, true)⟩,
 ⟨some 24, .load none (.t 23), some (22, true)⟩,
 ⟨some 25, .bin .leq (.t 24) (.k (.d (.int .i64 32))), some (22, true)⟩,
 ⟨some 26, .pick (.t 22) (.t 25) (.k (.d (.bool false))), none⟩,
 ⟨some 27, .mov (.t 26), none⟩,
 ⟨some 28, .mov (.t 3), some (27, true)⟩,
 ⟨some 29, .faddr 0 (.t 1), some (27, true)⟩,
 ⟨some 30, .load none (.t 29), some (27, true)⟩,
 ⟨some 31, .iaddr 1 (.t 28) (.t 30), some (27, true)⟩,
 ⟨some 32, .faddr 0 (.t 31), some (27, true)⟩,
 ⟨some 33, .load none (.t 32), some (27, true)⟩,
 ⟨some 34, .load (some 9) (.t 1), some (27, true)⟩,
 ⟨some 35, .call (.t 33) [(.t 34)], some (27, true)⟩,
 ⟨some 36, .pick (.t 27) (.t 35) (.k (.d (.bool false))), none⟩,
 ⟨some 2, .mov (.t 36), none⟩]
def s110 : SCode := (.seq (.region q6u 1 []) (.seq (.region q6v 0 []) (.seq (.region q6w 0 []) .ret)))
theorem zlc : qf s110.eq_1 := qg s110.eq_1
theorem xmw : qa q6u.eq_1 := qc
theorem xmx : qa q6v.eq_1 := qc
theorem xmy : qa q6w.eq_1 := qc
attribute [go_sem] xmw xmx xmy zlc
theorem q6x : FnIs Tryz.prog 110 Tryz.f110 [] news s110 [.tmp 2] 37 := xo follows Tryz.func110
end
def data (p : Pk) : Bool := qc8 p && (p.epoch == 0 || p.epoch == 1) && decide (p.label ≥ 0) && decide (p.label < 40) && decide ((p.values.length : Int) ≤ 4) && decide ((p.clock.length : Int) ≤ 6) && !(p.values.any fun v => !vq v) && !(p.clock.any fun n => decide (n < 0) || decide (n > 1099511627776))
theorem xib (p : Pk) (h1 : p.values.length ≤ maxLen) (h2 : p.clock.length ≤ maxLen) : ql Tryz.prog 163 [.d (.agg (qi p))] [] (.d (.bool (data p))) [] := by
 first | refine x9f.go ?_ | refine x9f.goT ?_
 (refine ev1 @qi.eq_1 ?_; try exact True.intro)
 refine xj (qjb p) x7z.body (fun h => h) (fun _ => ⟨qd, trivial⟩) (qav p) rfl rfl ?_
 (refine ev ?_; try exact True.intro)
 refine ⟨by simp_all, ?_⟩
 refine xj (qpe x8t.body q3p p.values h1) x9d.body (fun h => h) (fun _ => ⟨qd, qd, trivial⟩) (by simp [ASlot.noPtr, D.noPtr, D.noPtrL, xn jy]) rfl rfl ?_
 (refine ev ?_; try exact True.intro)
 refine xj (qpf x8u.body q3q p.clock h2) x9e.body (fun h => h) (fun _ => ⟨qd, qd, trivial⟩) (by simp [ASlot.noPtr, D.noPtr, D.noPtrL, xn w5]) rfl rfl ?_
 (refine ev ?_; try exact True.intro)
 rfl
def qlb (p : Pk) : Bool := decide (p.kind ≥ 1) && decide (p.kind ≤ 4) && decide (p.sess ≥ 1) && decide (p.sess ≤ 32)
def xc (p : Pk) : Bool := qlb p && (if p.kind = 1 then data p else if p.kind = 2 then ack p else order p)
theorem vt (p : Pk) (h1 : p.values.length ≤ maxLen) (h2 : p.clock.length ≤ maxLen) : ql Tryz.prog 110 [.d (.agg (qi p))] [] (.d (.bool (xc p))) [] := by
 first | refine q6x.go ?_ | refine q6x.goT ?_
 (refine ev1 @qi.eq_1 ?_; try exact True.intro)
 have hk : (decide (p.kind ≥ 1) && decide (p.kind ≤ 4) && decide (p.sess ≥ 1) && decide (p.sess ≤ 32)) = qlb p := rfl
 simp only [hk]
 cases hG : qlb p with
 | false =>
  (refine ev ?_; try exact True.intro)
  refine yf (.bool false) rfl ?_
  (refine ev2 @xc.eq_1 @hG ?_; try exact True.intro)
 | true =>
  have h4 : p.kind = 1 ∨ p.kind = 2 ∨ p.kind = 3 ∨ p.kind = 4 := by simp [qlb] at hG; omega
  rcases h4 with hp | hp | hp | hp <;> simp only [hp, Int.reduceToNat, Int.reduceLE, Int.reduceLT, go_sem, Nat.reduceAdd, Nat.reduceMul, Nat.reduceSub, Nat.reduceEqDiff, Nat.reduceLT, Nat.reduceLeDiff, Nat.reduceBEq, reduceIte, reduceCtorEq, Int.reduceAdd, Int.reduceLT, Int.reduceLE, Int.reduceGT, Int.reduceGE, Int.reduceEq, Int.reduceNe, Int.reduceBEq, Int.reduceBNe, Int.reduceToNat, Int.reduceNeg]
  ·refine xj (xib p h1 h2) x9f.body (fun h => h) (fun _ => ⟨by simp [wn, ASlot.eqvD, D.eqv_refl, qi, hp], trivial⟩) (qav p) rfl rfl ?_
   (refine ev3 @xc.eq_1 @hG @hp ?_; try exact True.intro)
  ·refine xj (xlt p) x8s.body (fun h => h) (fun _ => ⟨by simp [wn, ASlot.eqvD, D.eqv_refl, qi, hp], trivial⟩) (qav p) rfl rfl ?_
   (refine ev3 @xc.eq_1 @hG @hp ?_; try exact True.intro)
  ·refine xj (qts p) x71.body (fun h => h) (fun _ => ⟨by simp [wn, ASlot.eqvD, D.eqv_refl, qi, hp], trivial⟩) (qav p) rfl rfl ?_
   (refine ev3 @xc.eq_1 @hG @hp ?_; try exact True.intro)
  ·refine xj (qts p) x71.body (fun h => h) (fun _ => ⟨by simp [wn, ASlot.eqvD, D.eqv_refl, qi, hp], trivial⟩) (qav p) rfl rfl ?_
   (refine ev3 @xc.eq_1 @hG @hp ?_; try exact True.intro)
end Go.Proofs.YtinnaedmdoengaaGreat
namespace Go.Proofs.YtinnaedmdoengaaGreat
open Go.Abs
set_option linter.unusedSimpArgs false
structure OpS where
 key : List UInt8
 del : Bool
 val : List UInt8
 deriving DecidableEq, Inhabited
def qp (o : OpS) : List D := [.str o.key, .bool o.del, .sl 1 (qe o.val)]
theorem qje (o : OpS) : D.noPtrL (qp o) = true := by simp only [qp, D.noPtrL, D.noPtr, vr, Bool.and_self]
theorem qpg (l : List OpS) : D.noPtrR (l.map qp) = true := xn qje l
attribute [go_sem] qje qpg
noncomputable section
set_option maxRecDepth 100000
def xmz : List SOper := [
 ⟨some 1, .box 1 (.t 0), none⟩,
 ⟨some 2, .mov (.k (.d (.bool false))), none⟩]
def xm0 : List SOper := [
 ⟨some 3, .faddr 0 (.t 1), none⟩,
 ⟨some 4, .load none (.t 3), none⟩,
 ⟨some 5, .lenS (.t 4), none⟩,
 ⟨some 6, .bin .geq (.t 5) (.k (.d (.int .i64 1))), none⟩,
 ⟨some 7, .mov (.t 6), none⟩,
 ⟨some 8, .faddr 0 (.t 1), some (7, true)⟩,
 ⟨some 9, .load none (.t 8), some (7, true)⟩,
 ⟨some 10, .lenS (.t 9), some (7, true)⟩,
 ⟨some 11, .bin .leq (.t 10) (.k (.d (.int .i64 40))), some (7, true)⟩,
 ⟨some 12, .pick (.t 7) (.t 11) (.k (.d (.bool false))), none⟩,
 ⟨some 13, .mov (.t 12), none⟩,
 ⟨some 14, .faddr 2 (.t 1), some (13, true)⟩,
 ⟨some 15, .load none (.t 14), some (13, true)⟩,
 ⟨some 16, .len (.t 15), some (13, true)⟩,
 ⟨some 17, .bin .leq (.t 16) (.k (.d (.int .i64 900))), some (13, true)⟩,
 ⟨some 18, .pick (.t 13) (.t 17) (.k (.d (.bool false))), none⟩,
 ⟨some 19, .mov (.t 18), none⟩,
 ⟨some 20, .faddr 1 (.t 1), some (19, true)⟩,
 ⟨some 21, .load none (.t 20), some (19, true)⟩,
 ⟨some 22, .mov (.t 21), some (19, true)⟩,
 ⟨some 23, .faddr 2 (.t 1), some (22, true)⟩,
 ⟨some 24, .load none (.t 23), some (22, true)⟩,
 ⟨some 25, .len (.t 24), some (22, true)⟩,
 ⟨some 26, .bin .gtr (.t 25) (.k (.d (.int .i64 0))), some (22, true)⟩,
 ⟨some 27, .pick (.t 22) (.t 26) (.k (.d (.bool false))), some (19, true)⟩,
 ⟨some 28, .not (.t 27), some (19, true)⟩,
 ⟨some 29, .pick (.t 19) (.t 28) (.k (.d (.bool false))), none⟩,
 ⟨some 2, .mov (.t 29), none⟩]
def s96 : SCode := (.seq (.region xmz 1 []) (.seq (.region xm0 0 []) .ret))
theorem e96 : qf s96.eq_1 := qg s96.eq_1
theorem x9g : qa xmz.eq_1 := qc
theorem x9h : qa xm0.eq_1 := qc
attribute [go_sem] x9g x9h e96
theorem F96 : FnIs Tryz.prog 96 Tryz.f96 [] news s96 [.tmp 2] 30 := xo follows Tryz.func96
def xm1 : List SOper := [
 ⟨some 1, .box 1 (.t 0), none⟩,
 ⟨some 2, .mov (.k (.d (.bool false))), none⟩]
def xm2 : List SOper := [
 ⟨some 3, .load (some 3) (.t 1), none⟩,
 ⟨some 4, .call (.k (.d (.func (.func 96) [] []))) [(.t 3)], none⟩,
 ⟨some 5, .not (.t 4), none⟩,
 ⟨some 2, .mov (.t 5), none⟩]
def s95 : SCode := (.seq (.region xm1 1 []) (.seq (.region xm2 0 []) .ret))
theorem e95 : qf s95.eq_1 := qg s95.eq_1
theorem x9i : qa xm1.eq_1 := qc
theorem x9j : qa xm2.eq_1 := qc
attribute [go_sem] x9i x9j e95
theorem F95 : FnIs Tryz.prog 95 Tryz.f95 [] news s95 [.tmp 2] 6 := xo follows Tryz.func95
def q6y : List SOper := [
 ⟨some 4, .mov (.k (.d (.int .i64 0))), none⟩]
def q6z : List SOper := [
 ⟨some 6, .mov (.t 0), none⟩,
 ⟨some 7, .len (.t 6), none⟩,
 ⟨some 8, .mov (.k (.d (.int .i64 0))), none⟩]
def q60 : List SOper := [
 ⟨some 9, .bin .lss (.t 8) (.t 7), none⟩]
def q61 : List SOper := [
 ⟨some 10, .mov (.t 8), none⟩,
 ⟨some 5, .mov (.t 10), none⟩]
def q62 : List SOper := [
 ⟨some 11, .mov (.t 1), none⟩,
 ⟨some 12, .mov (.t 0), none⟩,
 ⟨some 13, .mov (.t 5), none⟩,
 ⟨some 14, .iaddr 3 (.t 12) (.t 13), none⟩,
 ⟨some 15, .load (some 3) (.t 14), none⟩,
 ⟨some 16, .call (.t 11) [(.t 15)], none⟩]
def q63 : List SOper := [
 ⟨some 17, .mov (.t 5), none⟩,
 ⟨some 4, .mov (.t 17), none⟩]
def q64 : List SOper := [
 ⟨some 18, .bin .add (.t 8) (.k (.d (.int .i64 1))), none⟩,
 ⟨some 8, .mov (.t 18), none⟩]
def qyj : SCode := (.seq (.region q60 0 []) (.seq (.cond (.t 9) .skip (.exit 0)) (.seq (.block 1 (.seq (.region q61 0 []) (.seq (.region q62 0 []) (.cond (.t 16) (.seq (.region q63 0 []) .ret) .skip)))) (.region q64 0 []))))
theorem xm3 : qf qyj.eq_1 := qg qyj.eq_1
def q65 : List SOper := [
 ⟨some 4, .mov (.k (.d (.int .i64 (-1)))), none⟩]
def s149 : SCode := (.seq (.region q6y 0 []) (.seq (.seq (.region q6z 0 []) (.block 0 (.loop qyj))) (.seq (.region q65 0 []) .ret)))
theorem zld : qf s149.eq_1 := qg s149.eq_1
theorem xm4 : qa q6y.eq_1 := qc
theorem xm5 : qa q6z.eq_1 := qc
theorem xm6 : qa q60.eq_1 := qc
theorem xm7 : qa q61.eq_1 := qc
theorem xm8 : qa q62.eq_1 := qc
theorem xm9 : qa q63.eq_1 := qc
theorem xna : qa q64.eq_1 := qc
theorem xnb : qa q65.eq_1 := qc
attribute [go_sem] xm4 xm5 xm6 xm7 xm8 xm9 xna xm3 xnb zld
theorem x9k : FnIs Tryz.prog 149 Tryz.f149 [] news s149 [.tmp 4] 19 := xo follows Tryz.func149
def xnc : List SOper := [
 ⟨some 4, .mov (.k (.d (.bool false))), none⟩]
def xnd : List SOper := [
 ⟨some 5, .mov (.t 0), none⟩,
 ⟨some 6, .mov (.t 1), none⟩,
 ⟨some 7, .call (.k (.d (.func (.func 149) [] []))) [(.t 5), (.t 6)], none⟩,
 ⟨some 8, .bin .geq (.t 7) (.k (.d (.int .i64 0))), none⟩,
 ⟨some 4, .mov (.t 8), none⟩]
def s94 : SCode := (.seq (.region xnc 0 []) (.seq (.region xnd 0 []) .ret))
theorem e94 : qf s94.eq_1 := qg s94.eq_1
theorem x9l : qa xnc.eq_1 := qc
theorem x9m : qa xnd.eq_1 := qc
attribute [go_sem] x9l x9m e94
theorem F94 : FnIs Tryz.prog 94 Tryz.f94 [] news s94 [.tmp 4] 9 := xo follows Tryz.func94
def xne : List SOper := [
 ⟨some 2, .mov (.k (.d .nilsl)), none⟩,
 ⟨some 3, .mov (.k (.d (.int .i64 0))), none⟩]
def xnf : List SOper := [
 ⟨some 7, .mov (.t 0), none⟩,
 ⟨some 8, .len (.t 7), none⟩,
 ⟨some 9, .bin .eql (.t 8) (.k (.d (.int .i64 0))), none⟩,
 ⟨some 10, .mov (.t 9), none⟩,
 ⟨some 11, .mov (.t 0), some (10, false)⟩,
 ⟨some 12, .call (.k (.d (.func (.func 94) [] []))) [(.t 11), (.k (.d (.func (.func 95) [] [])))], some (10, false)⟩,
 ⟨some 13, .pick (.t 10) (.k (.d (.bool true))) (.t 12), none⟩]
def xng : List SOper := [
 ⟨some 2, .mov (.k (.d .nilsl)), none⟩,
 ⟨some 3, .mov (.k (.d (.int .i64 1))), none⟩]
def xnh : List SOper := [
 ⟨some 14, .mov (.t 0), none⟩,
 ⟨some 15, .len (.t 14), none⟩,
 ⟨some 16, .call (.k (.d (.func (.func 91) [] []))) [(.k (.d .nilsl)), (.t 15)], none⟩,
 ⟨some 4, .mov (.t 16), none⟩]
def xni : List SOper := [
 ⟨some 17, .mov (.t 0), none⟩,
 ⟨some 18, .len (.t 17), none⟩,
 ⟨some 19, .mov (.k (.d (.int .i64 0))), none⟩]
def xnj : List SOper := [
 ⟨some 20, .bin .lss (.t 19) (.t 18), none⟩]
def xnk : List SOper := [
 ⟨some 21, .iaddr 3 (.t 17) (.t 19), none⟩,
 ⟨some 22, .load (some 3) (.t 21), none⟩,
 ⟨some 6, .alloc 1 [(.d (.str [])), (.d (.bool false)), (.d .nilsl)], none⟩,
 ⟨none, .store (some 3) (.t 6) (.t 22), none⟩]
def xnl : List SOper := [
 ⟨some 23, .mov (.t 4), none⟩,
 ⟨some 24, .faddr 0 (.t 6), none⟩,
 ⟨some 25, .load none (.t 24), none⟩,
 ⟨some 26, .call (.k (.d (.func (.func 99) [] []))) [(.t 23), (.t 25)], none⟩,
 ⟨some 27, .faddr 1 (.t 6), none⟩,
 ⟨some 28, .load none (.t 27), none⟩,
 ⟨some 29, .call (.k (.d (.func (.func 98) [] []))) [(.t 26), (.t 28)], none⟩,
 ⟨some 30, .faddr 2 (.t 6), none⟩,
 ⟨some 31, .load none (.t 30), none⟩,
 ⟨some 32, .call (.k (.d (.func (.func 97) [] []))) [(.t 29), (.t 31)], none⟩,
 ⟨some 4, .mov (.t 32), none⟩]
def xnm : List SOper := [
 ⟨some 33, .bin .add (.t 19) (.k (.d (.int .i64 1))), none⟩,
 ⟨some 19, .mov (.t 33), none⟩]
def xic : SCode := (.seq (.region xnj 0 []) (.seq (.cond (.t 20) .skip (.exit 0)) (.seq (.block 1 (.seq (.region xnk 1 []) (.region xnl 0 [(3, 5), (3, 8), (6, 8)]))) (.region xnm 0 []))))
theorem x9n : qf xic.eq_1 := qg xic.eq_1
def q66 : List SOper := [
 ⟨some 34, .mov (.t 0), none⟩,
 ⟨some 35, .len (.t 34), none⟩,
 ⟨some 36, .bin .gtr (.t 35) (.k (.d (.int .i64 20))), none⟩,
 ⟨some 37, .mov (.t 36), none⟩,
 ⟨some 38, .mov (.t 4), some (37, false)⟩,
 ⟨some 39, .len (.t 38), some (37, false)⟩,
 ⟨some 40, .bin .gtr (.t 39) (.k (.d (.int .i64 2000))), some (37, false)⟩,
 ⟨some 41, .pick (.t 37) (.k (.d (.bool true))) (.t 40), none⟩]
def q67 : List SOper := [
 ⟨some 2, .mov (.k (.d .nilsl)), none⟩,
 ⟨some 3, .mov (.k (.d (.int .i64 6))), none⟩]
def q68 : List SOper := [
 ⟨some 42, .mov (.t 4), none⟩,
 ⟨some 2, .mov (.t 42), none⟩,
 ⟨some 3, .mov (.k (.d (.int .i64 0))), none⟩]
def s50 : SCode := (.seq (.region xne 0 []) (.seq (.seq (.region xnf 0 []) (.cond (.t 13) (.seq (.region xng 0 []) .ret) .skip)) (.seq (.region xnh 0 []) (.seq (.seq (.region xni 0 []) (.block 0 (.loop xic))) (.seq (.seq (.region q66 0 []) (.cond (.t 41) (.seq (.region q67 0 []) .ret) .skip)) (.seq (.region q68 0 []) .ret))))))
theorem e50 : qf s50.eq_1 := qg s50.eq_1
theorem x9o : qa xne.eq_1 := qc
theorem x9p : qa xnf.eq_1 := qc
theorem x9q : qa xng.eq_1 := qc
theorem x9r : qa xnh.eq_1 := qc
theorem x9s : qa xni.eq_1 := qc
theorem x9t : qa xnj.eq_1 := qc
theorem x9u : qa xnk.eq_1 := qc
theorem x9v : qa xnl.eq_1 := qc
theorem x9w : qa xnm.eq_1 := qc
theorem xnn : qa q66.eq_1 := qc
theorem xno : qa q67.eq_1 := qc
theorem xnp : qa q68.eq_1 := qc
attribute [go_sem] x9o x9p x9q x9r x9s x9t x9u x9v x9w x9n xnn xno xnp e50
theorem F50 : FnIs Tryz.prog 50 Tryz.f50 [] news s50 [.tmp 2, .tmp 3] 43 := xo follows Tryz.func50
end
def ji (o : OpS) : Bool := decide ((o.key.length : Int) ≥ 1) && decide ((o.key.length : Int) ≤ 40) && decide ((o.val.length : Int) ≤ 900) && !(o.del && decide ((o.val.length : Int) > 0))
theorem qlc (o : OpS) : ql Tryz.prog 96 [.d (.agg (qp o))] [] (.d (.bool (ji o))) [] := by
 refine F96.go ?_
 try (refine ev1 @qp.eq_1 ?_; try exact True.intro)
 simp only [ji, and_true]
 intro h
 refine ⟨h, fun h2 => ?_⟩
 rw [h, h2]; rfl
theorem qld (o : OpS) : ql Tryz.prog 95 [.d (.agg (qp o))] [] (.d (.bool (!ji o))) [] := by
 refine F95.go ?_
 try (refine ev1 @qp.eq_1 ?_; try exact True.intro)
 (repeat (with_reducible refine ob ?_)); first | refine cl F96 (qlc o) ?_ | refine clF F96 (qlc o) (fun _ => by (refine ev1 @qp.eq_1 ?_; try exact True.intro)) ?_
 try (refine ev ?_; try exact True.intro)
def q3v (k : FuncId) (l : List OpS) (f : OpS → Bool) (i : { i : Nat // (l.take i).any f = false }) : St :=
 ⟨[(0, true, .d (.sl 3 (l.map qp))), (1, true, .d (.func (.func k) [] [])), (7, true, .d (.int .i64 l.length)), (8, true, .d (.int .i64 (i.val : Nat)))], [], [], 1⟩
theorem qph {k : FuncId} {f : OpS → Bool} (hb : (Tryz.prog.funcs[k]?).any (fun fn => fn.body.isSome && !(fn.name == "runtime.NumGoroutine")) = true)
  (hf : ∀ v, ql Tryz.prog k [.d (.agg (qp v))] [] (.d (.bool (f v))) []) (l : List OpS) (hl : l.length ≤ maxLen) :
  ql Tryz.prog 149 [.d (.sl 3 (l.map qp)), .d (.func (.func k) [] [])] [] (.d (.int .i64 (idx f l))) [] := by
 refine x9k.go ?_
 try (refine ev ?_; try exact True.intro)
 refine qv (q3v k l f) (fun i => l.length - i.val) ⟨0, rfl⟩ ?_ (fun i => ?_)
 ·try (refine ev1 @q3v.eq_1 ?_; try exact True.intro)
 obtain ⟨i, hi⟩ := i
 try (refine ev1 @q3v.eq_1 ?_; try exact True.intro)
 (repeat (with_reducible refine ob ?_)); refine ju _ (fun h => ?_) (fun h => ?_)
 ·have hil : i < l.length := by simpa using h
  (refine ev2 (qz qp l hil) @qp.eq_1 ?_; try exact True.intro)
  (repeat (with_reducible refine ob ?_))
  refine xj (hf l[i]) hb (fun h => h) (fun _ => ⟨qd, trivial⟩) (by try (refine ev1 @qp.eq_1 ?_; try exact True.intro)) rfl rfl ?_
  try (refine ev ?_; try exact True.intro)
  (repeat (with_reducible refine ob ?_)); refine ju _ (fun h => ?_) (fun h => ?_)
  ·try (refine ev1 (qm1 hi hil h) ?_; try exact True.intro)
  ·try (refine ev ?_; try exact True.intro)
   refine ⟨⟨i + 1, qb4 hi hil (by simpa using h)⟩, ?_, by dsimp only; omega⟩
   try (refine ev2 @q3v.eq_1 (qr (show i < 9223372036854775807 by unfold maxLen at hl; omega)) ?_; try exact True.intro)
 ·have hil : l.length ≤ i := by simpa using h
  try (refine ev1 (qm0 hi hil) ?_; try exact True.intro)
theorem qg4 {k : FuncId} {f : OpS → Bool} (hb : (Tryz.prog.funcs[k]?).any (fun fn => fn.body.isSome && !(fn.name == "runtime.NumGoroutine")) = true)
  (hf : ∀ v, ql Tryz.prog k [.d (.agg (qp v))] [] (.d (.bool (f v))) []) (l : List OpS) (hl : l.length ≤ maxLen) :
  ql Tryz.prog 94 [.d (.sl 3 (l.map qp)), .d (.func (.func k) [] [])] [] (.d (.bool (l.any f))) [] := by
 refine F94.go ?_
 try (refine ev ?_; try exact True.intro)
 (repeat (with_reducible refine ob ?_)); first | refine cl x9k (qph hb hf l hl) ?_ | refine clF x9k (qph hb hf l hl) (fun _ => by (refine ev1 @qp.eq_1 ?_; try exact True.intro)) ?_
 try (refine ev1 @qye ?_; try exact True.intro)
def wOp (o : OpS) : List UInt8 := ww o.key ++ [if o.del then 1 else 0] ++ ww o.val
def wOps (l : List OpS) : List UInt8 := wInt l.length ++ l.flatMap wOp
def xd (l : List OpS) : List UInt8 × Int :=
 if l.length = 0 || l.any (fun o => !ji o) then ([], 1) else if l.length > 20 || (wOps l).length > 2000 then ([], 6) else (wOps l, 0)
theorem v7 {o : OpS} : ji o = true ↔ 1 ≤ o.key.length ∧ o.key.length ≤ 40 ∧ o.val.length ≤ 900 ∧ (o.del = true → o.val.length = 0) := by
 unfold ji
 cases o.del <;> simp [-List.length_eq_zero_iff] <;> omega
theorem qbi (s : List UInt8) (h : s.length ≤ 900000000) : (ww s).length ≤ s.length + 10 := by
 have := x7 (xz (n := s.length) (by omega))
 simp [ww]; omega
theorem qyk {o : OpS} (h : ji o = true) : (wOp o).length ≤ 1000 := by
 obtain ⟨h1, h2, h3, _⟩ := v7.1 h
 have k1 := qbi o.key (Nat.le_trans h2 (by decide))
 have k2 := qbi o.val (Nat.le_trans h3 (by decide))
 simp only [wOp, List.length_append, List.length_cons, List.length_nil]; omega
theorem qhv {l : List OpS} (h : ∀ o ∈ l, ji o = true) : (l.flatMap wOp).length ≤ l.length * 1000 := by
 induction l with
 | nil => simp
 | cons o l ih =>
  have h1 := qyk (h o List.mem_cons_self)
  have h2 := ih (fun x hx => h x (List.mem_cons_of_mem _ hx))
  simp only [List.flatMap_cons, List.length_append, List.length_cons]
  omega
def Senc (l : List OpS) (i : { i : Nat // i ≤ l.length }) : St :=
 ⟨[(0, true, .d (.sl 3 (l.map qp))), (4, true, .own 0 1 (qe (wInt l.length ++ (l.take i.val).flatMap wOp))), (17, true, .d (.sl 3 (l.map qp))), (18, true, .d (.int .i64 l.length)), (19, true, .d (.int .i64 (i.val : Nat)))], [], [0], 1⟩
theorem qg5 : (Tryz.prog.funcs[95]?).any (fun fn => fn.body.isSome && !(fn.name == "runtime.NumGoroutine")) = true := F95.body
theorem qcs {α β : Type} (f : α → List β) (l : List α) {i : Nat} (h : i < l.length) : (l.take (i + 1)).flatMap f = (l.take i).flatMap f ++ f l[i] := by
 rw [List.take_succ_eq_append_getElem h, List.flatMap_append, List.flatMap_cons, List.flatMap_nil, List.append_nil]
theorem qc9 (l : List OpS) (hl : l.length ≤ 100000) : ql Tryz.prog 50 [.d (.sl 3 (l.map qp))] [] (.tup [.d (.sl 1 (qe (xd l).1)), .d (.int .i64 (xd l).2)]) [] := by
 refine F50.goT ?_
 try (refine ev ?_; try exact True.intro)
 (repeat (with_reducible refine ob ?_)); first | refine cl F94 (qg4 qg5 qld l (by unfold maxLen; omega)) ?_ | refine clF F94 (qg4 qg5 qld l (by unfold maxLen; omega)) (fun _ => by (refine ev1 @qp.eq_1 ?_; try exact True.intro)) ?_
 try (refine ev ?_; try exact True.intro)
 (repeat (with_reducible refine ob ?_))
 (repeat (with_reducible refine ob ?_)); refine ju _ (fun h => ?_) (fun h => ?_)
 ·have hb : xd l = ([], 1) := by
   unfold xd
   rw [if_pos]
   simp only [Bool.or_eq_true, decide_eq_true_eq, beq_iff_eq] at h ⊢
   rcases h with h | h
   ·left; omega
   ·right; exact h
  try (refine ev2 @hb @xa ?_; try exact True.intro)
 have hne : ¬ (decide (l.length = 0) || l.any (fun o => !ji o)) = true := by
  simp only [Bool.or_eq_true, decide_eq_true_eq, not_or]
  simp only [Bool.or_eq_false_iff, beq_eq_false_iff_ne] at h
  exact ⟨by omega, by simp [h.2]⟩
 have hpr : ∀ o ∈ l, ji o = true := by
  simp only [Bool.or_eq_true, not_or, List.any_eq_true, not_exists, not_and] at hne
  intro o ho
  simpa using hne.2 o ho
 have hwl := qhv hpr
 have hil0 := x7 (xz (n := l.length) (by omega))
 try (refine ev ?_; try exact True.intro)
 refine clA F91 (jp [] l.length (by simp) (xz (by omega))) ?_
 try (refine ev ?_; try exact True.intro)
 refine qv (Senc l) (fun i => l.length - i.val) ⟨0, Nat.zero_le _⟩ ?_ (fun i => ?_)
 ·try (refine ev2 @Senc.eq_1 @List.take_zero.{0} ?_; try exact True.intro)
 obtain ⟨i, hi⟩ := i
 try (refine ev1 @Senc.eq_1 ?_; try exact True.intro)
 (repeat (with_reducible refine ob ?_)); refine ju _ (fun h => ?_) (fun h => ?_)
 ·have hil : i < l.length := by simpa using h
  have ho := hpr l[i] (List.getElem_mem hil)
  obtain ⟨p1, p2, p3, _⟩ := v7.1 ho
  have hpre : (wInt l.length ++ (l.take i).flatMap wOp).length ≤ 100000020 := by
   have := qhv (l := l.take i) (fun o h => hpr o (List.mem_of_mem_take h))
   simp only [List.length_append, List.length_take] at this ⊢
   have : min i l.length ≤ 100000 := by omega
   omega
  have k1 := qbi l[i].key (by omega)
  try (refine ev2 (qz qp l hil) @qp.eq_1 ?_; try exact True.intro)
  (repeat (with_reducible refine ob ?_))
  refine clA F99 (qjd (wInt l.length ++ (l.take i).flatMap wOp) l[i].key (by omega)) ?_
  try (refine ev ?_; try exact True.intro)
  refine clA F98 (qsd ((wInt l.length ++ (l.take i).flatMap wOp) ++ ww l[i].key) l[i].del (by simp only [List.length_append] at hpre ⊢; omega)) ?_
  try (refine ev ?_; try exact True.intro)
  refine clA F97 (qpd ((wInt l.length ++ (l.take i).flatMap wOp) ++ ww l[i].key ++ [if l[i].del then 1 else 0]) l[i].val (by simp only [List.length_append, List.length_cons, List.length_nil] at hpre ⊢; omega)) ?_
  try (refine ev ?_; try exact True.intro)
  have e : wInt l.length ++ (l.take i).flatMap wOp ++ ww l[i].key ++ [if l[i].del then 1 else 0] ++ ww l[i].val = wInt l.length ++ (l.take (i + 1)).flatMap wOp := by
   rw [qcs wOp l hil, wOp]; simp only [List.append_assoc]
  refine ⟨⟨i + 1, hil⟩, ?_, by dsimp only; omega⟩
  try (refine ev3 @Senc.eq_1 @e (qr (show i < 9223372036854775807 by omega)) ?_; try exact True.intro)
 ·have hie : i = l.length := by simp at h; omega
  subst hie
  try (refine ev1 @List.take_length.{0} ?_; try exact True.intro)
  have hw : wInt l.length ++ l.flatMap wOp = wOps l := rfl
  have hw2 : (wOps l).length = (wInt l.length).length + (l.flatMap wOp).length := by rw [wOps, List.length_append]
  try (refine ev1 @hw ?_; try exact True.intro)
  (repeat (with_reducible refine ob ?_)); refine ju _ (fun h => ?_) (fun h => ?_)
  ·have hb : xd l = ([], 6) := by
    unfold xd
    rw [if_neg hne, if_pos]
    simp only [Bool.or_eq_true, decide_eq_true_eq] at h ⊢
    omega
   try (refine ev2 @hb @xa ?_; try exact True.intro)
  ·have hb : xd l = (wOps l, 0) := by
    unfold xd
    rw [if_neg hne, if_neg]
    simp only [Bool.or_eq_true, Bool.or_eq_false_iff, decide_eq_true_eq, decide_eq_false_iff_not] at h ⊢
    omega
   try (refine ev1 @hb ?_; try exact True.intro)
end Go.Proofs.YtinnaedmdoengaaGreat
namespace Go.Proofs.YtinnaedmdoengaaGreat
open Go.Abs
set_option linter.unusedSimpArgs false
noncomputable section
set_option maxRecDepth 100000
def q69 : List SOper := [
 ⟨some 4, .mov (.k (.d (.int .u64 0))), none⟩]
def q7a : List SOper := [
 ⟨some 7, .mov (.t 1), none⟩,
 ⟨some 8, .len (.t 7), none⟩,
 ⟨some 9, .mov (.k (.d (.int .i64 0))), none⟩]
def q7b : List SOper := [
 ⟨some 10, .bin .lss (.t 9) (.t 8), none⟩]
def q7c : List SOper := [
 ⟨some 11, .iaddr 1 (.t 7) (.t 9), none⟩,
 ⟨some 12, .load none (.t 11), none⟩,
 ⟨some 6, .mov (.t 12), none⟩]
def q7d : List SOper := [
 ⟨some 13, .mov (.t 0), none⟩,
 ⟨some 14, .mov (.t 6), none⟩,
 ⟨some 15, .conv .u64 (.t 14), none⟩,
 ⟨some 16, .bin .xor (.t 13) (.t 15), none⟩,
 ⟨some 17, .bin .mul (.t 16) (.k (.d (.int .u64 1099511628211))), none⟩,
 ⟨some 0, .mov (.t 17), none⟩]
def q7e : List SOper := [
 ⟨some 18, .bin .add (.t 9) (.k (.d (.int .i64 1))), none⟩,
 ⟨some 9, .mov (.t 18), none⟩]
def qyl : SCode := (.seq (.region q7b 0 []) (.seq (.cond (.t 10) .skip (.exit 0)) (.seq (.block 1 (.seq (.region q7c 0 []) (.region q7d 0 []))) (.region q7e 0 []))))
theorem xnq : qf qyl.eq_1 := qg qyl.eq_1
def q7f : List SOper := [
 ⟨some 19, .mov (.t 0), none⟩,
 ⟨some 4, .mov (.t 19), none⟩]
def s151 : SCode := (.seq (.region q69 0 []) (.seq (.seq (.region q7a 0 []) (.block 0 (.loop qyl))) (.seq (.region q7f 0 []) .ret)))
theorem zle : qf s151.eq_1 := qg s151.eq_1
theorem xnr : qa q69.eq_1 := qc
theorem xns : qa q7a.eq_1 := qc
theorem xnt : qa q7b.eq_1 := qc
theorem xnu : qa q7c.eq_1 := qc
theorem xnv : qa q7d.eq_1 := qc
theorem xnw : qa q7e.eq_1 := qc
theorem xnx : qa q7f.eq_1 := qc
attribute [go_sem] xnr xns xnt xnu xnv xnw xnq xnx zle
theorem xkd : FnIs Tryz.prog 151 Tryz.f151 [] news s151 [.tmp 4] 20 := xo follows Tryz.func151
def q7g : List SOper := [
 ⟨some 4, .mov (.k (.d (.int .u64 0))), none⟩,
 ⟨some 5, .alloc 1 [(.d (.int .u8 0)), (.d (.int .u8 0)), (.d (.int .u8 0)), (.d (.int .u8 0)), (.d (.int .u8 0)), (.d (.int .u8 0)), (.d (.int .u8 0)), (.d (.int .u8 0))], none⟩]
def q7h : List SOper := [
 ⟨some 9, .mov (.t 0), none⟩,
 ⟨some 10, .mov (.t 1), none⟩,
 ⟨some 11, .call (.k (.d (.func (.func 151) [] []))) [(.t 9), (.t 10)], none⟩,
 ⟨some 6, .mov (.t 11), none⟩]
def q7i : List SOper := [
 ⟨some 7, .alloc 1 [(.d (.int .u8 0)), (.d (.int .u8 0)), (.d (.int .u8 0)), (.d (.int .u8 0)), (.d (.int .u8 0)), (.d (.int .u8 0)), (.d (.int .u8 0)), (.d (.int .u8 0))], none⟩]
def q7j : List SOper := [
 ⟨some 12, .mov (.k (.d (.int .i64 0))), none⟩]
def q7k : List SOper := [
 ⟨some 13, .bin .lss (.t 12) (.k (.d (.int .i64 8))), none⟩]
def q7l : List SOper := [
 ⟨some 14, .mov (.t 12), none⟩,
 ⟨some 8, .mov (.t 14), none⟩]
def q7m : List SOper := [
 ⟨some 15, .mov (.t 8), none⟩,
 ⟨some 16, .mov (.t 6), none⟩,
 ⟨some 17, .mov (.t 8), none⟩,
 ⟨some 18, .bin .sub (.k (.d (.int .i64 7))) (.t 17), none⟩,
 ⟨some 19, .bin .mul (.k (.d (.int .i64 8))) (.t 18), none⟩,
 ⟨some 20, .bin .shr (.t 16) (.t 19), none⟩,
 ⟨some 21, .conv .u8 (.t 20), none⟩,
 ⟨some 22, .iaddrA 8 1 (.t 7) (.t 15), none⟩,
 ⟨none, .store none (.t 22) (.t 21), none⟩]
def q7n : List SOper := [
 ⟨some 23, .bin .add (.t 12) (.k (.d (.int .i64 1))), none⟩,
 ⟨some 12, .mov (.t 23), none⟩]
def qym : SCode := (.seq (.region q7k 0 []) (.seq (.cond (.t 13) .skip (.exit 0)) (.seq (.block 1 (.seq (.region q7l 0 []) (.region q7m 0 []))) (.region q7n 0 []))))
theorem xny : qf qym.eq_1 := qg qym.eq_1
def q7o : List SOper := [
 ⟨some 24, .mov (.t 6), none⟩,
 ⟨some 25, .load (some 8) (.t 7), none⟩,
 ⟨some 4, .mov (.t 24), none⟩,
 ⟨none, .store (some 8) (.t 5) (.t 25), none⟩]
def s103 : SCode := (.seq (.region q7g 1 []) (.seq (.region q7h 0 []) (.seq (.region q7i 1 []) (.seq (.seq (.region q7j 0 []) (.block 0 (.loop qym))) (.seq (.region q7o 0 []) .ret)))))
theorem zlf : qf s103.eq_1 := qg s103.eq_1
theorem xnz : qa q7g.eq_1 := qc
theorem xn0 : qa q7h.eq_1 := qc
theorem xn1 : qa q7i.eq_1 := qc
theorem xn2 : qa q7j.eq_1 := qc
theorem xn3 : qa q7k.eq_1 := qc
theorem xn4 : qa q7l.eq_1 := qc
theorem xn5 : qa q7m.eq_1 := qc
theorem xn6 : qa q7n.eq_1 := qc
theorem xn7 : qa q7o.eq_1 := qc
attribute [go_sem] xnz xn0 xn1 xn2 xn3 xn4 xn5 xn6 xny xn7 zlf
theorem x9x : FnIs Tryz.prog 103 Tryz.f103 [] news s103 [.tmp 4, .cell 5 (some 8)] 26 := xo follows Tryz.func103
def q7p : List SOper := [
 ⟨some 2, .mov (.k (.d (.int .u64 0))), none⟩]
def q7q : List SOper := [
 ⟨some 6, .mov (.t 0), none⟩,
 ⟨some 7, .len (.t 6), none⟩,
 ⟨some 8, .bin .lss (.t 7) (.k (.d (.int .i64 8))), none⟩]
def q7r : List SOper := [
 ⟨some 2, .mov (.k (.d (.int .u64 14695981039346656037))), none⟩]
def q7s : List SOper := [
 ⟨some 3, .mov (.k (.d (.int .u64 0))), none⟩]
def q7t : List SOper := [
 ⟨some 9, .mov (.t 0), none⟩,
 ⟨some 10, .mov (.t 0), none⟩,
 ⟨some 11, .len (.t 10), none⟩,
 ⟨some 12, .bin .sub (.t 11) (.k (.d (.int .i64 8))), none⟩,
 ⟨some 13, .slice 1 (.t 9) (some (.t 12)) none none, none⟩,
 ⟨some 14, .len (.t 13), none⟩,
 ⟨some 15, .mov (.k (.d (.int .i64 0))), none⟩]
def q7u : List SOper := [
 ⟨some 16, .bin .lss (.t 15) (.t 14), none⟩]
def q7v : List SOper := [
 ⟨some 17, .iaddr 1 (.t 13) (.t 15), none⟩,
 ⟨some 18, .load none (.t 17), none⟩,
 ⟨some 5, .mov (.t 18), none⟩]
def q7w : List SOper := [
 ⟨some 19, .mov (.t 3), none⟩,
 ⟨some 20, .bin .shl (.t 19) (.k (.d (.int .u64 8))), none⟩,
 ⟨some 21, .mov (.t 5), none⟩,
 ⟨some 22, .conv .u64 (.t 21), none⟩,
 ⟨some 23, .bin .or (.t 20) (.t 22), none⟩,
 ⟨some 3, .mov (.t 23), none⟩]
def q7x : List SOper := [
 ⟨some 24, .bin .add (.t 15) (.k (.d (.int .i64 1))), none⟩,
 ⟨some 15, .mov (.t 24), none⟩]
def qyn : SCode := (.seq (.region q7u 0 []) (.seq (.cond (.t 16) .skip (.exit 0)) (.seq (.block 1 (.seq (.region q7v 0 []) (.region q7w 0 []))) (.region q7x 0 []))))
theorem xn8 : qf qyn.eq_1 := qg qyn.eq_1
def qyo : List SOper := [
 ⟨some 25, .mov (.t 3), none⟩,
 ⟨some 2, .mov (.t 25), none⟩]
def s101 : SCode := (.seq (.region q7p 0 []) (.seq (.seq (.region q7q 0 []) (.cond (.t 8) (.seq (.region q7r 0 []) .ret) .skip)) (.seq (.region q7s 0 []) (.seq (.seq (.region q7t 0 []) (.block 0 (.loop qyn))) (.seq (.region qyo 0 []) .ret)))))
theorem zlg : qf s101.eq_1 := qg s101.eq_1
theorem xn9 : qa q7p.eq_1 := qc
theorem xoa : qa q7q.eq_1 := qc
theorem xob : qa q7r.eq_1 := qc
theorem xoc : qa q7s.eq_1 := qc
theorem xod : qa q7t.eq_1 := qc
theorem xoe : qa q7u.eq_1 := qc
theorem xof : qa q7v.eq_1 := qc
theorem xog : qa q7w.eq_1 := qc
theorem xoh : qa q7x.eq_1 := qc
theorem xid : qa qyo.eq_1 := qc
attribute [go_sem] xn9 xoa xob xoc xod xoe xof xog xoh xn8 xid zlg
theorem zj2 : FnIs Tryz.prog 101 Tryz.f101 [] news s101 [.tmp 2] 26 := xo follows Tryz.func101
end
def fnv1 (h : Nat) (c : UInt8) : Nat := (h ^^^ c.toNat) * 1099511628211 % 18446744073709551616
def fnv (h : Nat) (s : List UInt8) : Nat := s.foldl fnv1 h
theorem qse (h : Nat) : fnv h [] = h := rfl
theorem qm2 (h : Nat) (s : List UInt8) (c : UInt8) : fnv h (s ++ [c]) = (fnv h s ^^^ c.toNat) * 1099511628211 % 18446744073709551616 := by
 have : fnv h (s ++ [c]) = fnv1 (fnv h s) c := by unfold fnv; rw [List.foldl_append, List.foldl_cons, List.foldl_nil]
 rw [this, fnv1]
theorem qpi {h : Nat} (hh : h < 18446744073709551616) (s : List UInt8) : fnv h s < 18446744073709551616 := by
 rcases List.eq_nil_or_concat s with rfl | ⟨t, c, rfl⟩
 ·rw [qse]; exact hh
 ·rw [List.concat_eq_append, qm2]
  generalize (fnv h t ^^^ c.toNat) * 1099511628211 = x
  omega
theorem qd4 (n : Int) : IntKind.u64.wrap n = n % 18446744073709551616 := by simp [IntKind.wrap, IntKind.bits, IntKind.signed]
theorem q3w (a b : Nat) (ha : a < 18446744073709551616) (hb : b < 18446744073709551616) : a ^^^ b < 18446744073709551616 := by
 have p : (18446744073709551616 : Nat) = 2 ^ 64 := by decide
 rw [p] at *
 exact Nat.xor_lt_two_pow ha hb
theorem qyp (a b : Nat) (ha : a < 18446744073709551616) (hb : b < 18446744073709551616) : qno 64 (a : Int) (b : Int) = ((a ^^^ b : Nat) : Int) := by
 unfold qno
 rw [BitVec.ofInt_natCast, BitVec.ofInt_natCast, BitVec.toNat_xor, BitVec.toNat_ofNat, BitVec.toNat_ofNat, Nat.mod_eq_of_lt ha, Nat.mod_eq_of_lt hb]
theorem f1 (x : Nat) : IntKind.u64.wrap ((x : Int) * 1099511628211) = ((x * 1099511628211 % 18446744073709551616 : Nat) : Int) := by
 rw [qd4]
 simp only [Int.natCast_emod, Int.natCast_mul, Int.cast_ofNat_Int]
theorem f2 (x : Nat) (h : x < 18446744073709551616) : IntKind.u64.wrap (x : Int) = x := by
 rw [qd4]; omega
theorem qtt (h c : Nat) (hh : h < 18446744073709551616) (hc : c < 256) :
  IntKind.u64.wrap (IntKind.u64.wrap (qno 64 (h : Int) (IntKind.u64.wrap (c : Int))) * 1099511628211) = (((h ^^^ c) * 1099511628211 % 18446744073709551616 : Nat) : Int) := by
 rw [f2 c (by omega), qyp h c hh (by omega), f2 _ (q3w h c hh (by omega)), f1]
theorem qct (c : UInt8) : c.toNat < 256 := UInt8.toNat_lt c
theorem jz (s : List UInt8) {i : Nat} (h : i < s.length) : (qe s).getD i [] = [.int .u8 (s[i].toNat : Int)] := qz (fun c : UInt8 => [D.int .u8 (c.toNat : Int)]) s h []
def q3x (h : Nat) (s : List UInt8) (i : { i : Nat // i ≤ s.length }) : St :=
 ⟨[(0, true, .d (.int .u64 (fnv h (s.take i.val) : Nat))), (7, true, .d (.sl 1 (qe s))), (8, true, .d (.int .i64 s.length)), (9, true, .d (.int .i64 (i.val : Nat)))], [], [], 1⟩
theorem qyq (h : Nat) (s : List UInt8) (hh : h < 18446744073709551616) (hl : s.length ≤ 1000000000) : ql Tryz.prog 151 [.d (.int .u64 h), .d (.sl 1 (qe s))] [] (.d (.int .u64 (fnv h s : Nat))) [] := by
 refine xkd.go ?_
 try (refine ev ?_; try exact True.intro)
 refine qv (q3x h s) (fun i => s.length - i.val) ⟨0, Nat.zero_le _⟩ ?_ (fun i => ?_)
 ·try (refine ev3 @q3x.eq_1 @List.take_zero.{0} @qse ?_; try exact True.intro)
 obtain ⟨i, hi⟩ := i
 try (refine ev1 @q3x.eq_1 ?_; try exact True.intro)
 (repeat (with_reducible refine ob ?_)); refine ju _ (fun h => ?_) (fun h => ?_)
 ·have hil : i < s.length := by simpa using h
  try (refine ev1 (jz s hil) ?_; try exact True.intro)
  (repeat (with_reducible refine ob ?_))
  try simp only [qtt _ _ (qpi hh (s.take i)) (qct s[i]), go_sem, Nat.reduceAdd, Nat.reduceMul, Nat.reduceSub, Nat.reduceEqDiff, Nat.reduceLT, Nat.reduceLeDiff, Nat.reduceBEq, reduceIte, reduceCtorEq, Int.reduceAdd, Int.reduceLT, Int.reduceLE, Int.reduceGT, Int.reduceGE, Int.reduceEq, Int.reduceNe, Int.reduceBEq, Int.reduceBNe, Int.reduceToNat, Int.reduceNeg]
  refine ⟨⟨i + 1, hil⟩, ?_, by dsimp only; omega⟩
  try (refine ev4 @q3x.eq_1 (qr (show i < 9223372036854775807 by omega)) (List.take_succ_eq_append_getElem hil) @qm2 ?_; try exact True.intro)
 ·have hie : i = s.length := by simp at h; omega
  subst hie
  try (refine ev1 @List.take_length.{0} ?_; try exact True.intro)
def zh (c : UInt8) : D := .int .u8 c.toNat
theorem qsf (s : List UInt8) : D.noPtrL (s.map zh) = true := by induction s <;> simp_all [D.noPtrL, D.noPtr, zh]
theorem qjf (s : List UInt8) : (s.map zh).all D.isCell = true := by induction s <;> simp_all [D.isCell, zh]
attribute [go_sem] qsf qjf
theorem qvo (s : List UInt8) {i : Nat} (h : i < s.length) (x : ASlot) : ((s.map zh).map ASlot.d).getD i x = .d (.int .u8 (s[i].toNat : Int)) := by simp [h, zh]
theorem yx (s : List UInt8) : (qe s).flatten = s.map zh := by induction s <;> simp_all [qe, zh]
theorem qpj (s : List UInt8) : wi 1 s.length (s.map zh) = qe s := by
 induction s with
 | nil => rfl
 | cons c s ih => simp only [List.length_cons, List.map_cons, wi, List.take_succ_cons, List.take_zero, List.drop_succ_cons, List.drop_zero, ih]; rfl
def qtu (h : Nat) (s : List UInt8) (i : { i : Nat // i ≤ s.length }) : St :=
 ⟨[(0, true, .d (.int .u64 (fnv h (s.take i.val) : Nat))), (7, true, .d (.ref 0 0 1 s.length)), (8, true, .d (.int .i64 s.length)), (9, true, .d (.int .i64 (i.val : Nat)))], [.row ((s.map zh).map .d)], [], 1⟩
theorem q3y (h : Nat) (s : List UInt8) (hh : h < 18446744073709551616) (hl : s.length ≤ 1000000000) : ql Tryz.prog 151 [.d (.int .u64 h), .d (.ref 0 0 1 s.length)] [.row ((s.map zh).map .d)] (.d (.int .u64 (fnv h s : Nat))) [.row ((s.map zh).map .d)] := by
 refine xkd.go ?_
 try (refine ev ?_; try exact True.intro)
 refine qv (qtu h s) (fun i => s.length - i.val) ⟨0, Nat.zero_le _⟩ ?_ (fun i => ?_)
 ·try (refine ev3 @qtu.eq_1 @List.take_zero.{0} @qse ?_; try exact True.intro)
 obtain ⟨i, hi⟩ := i
 try (refine ev1 @qtu.eq_1 ?_; try exact True.intro)
 (repeat (with_reducible refine ob ?_)); refine ju _ (fun h => ?_) (fun h => ?_)
 ·have hil : i < s.length := by simpa using h
  try (refine ev2 @Nat.mul_one (qvo s hil) ?_; try exact True.intro)
  (repeat (with_reducible refine ob ?_))
  try simp only [qtt _ _ (qpi hh (s.take i)) (qct s[i]), go_sem, Nat.reduceAdd, Nat.reduceMul, Nat.reduceSub, Nat.reduceEqDiff, Nat.reduceLT, Nat.reduceLeDiff, Nat.reduceBEq, reduceIte, reduceCtorEq, Int.reduceAdd, Int.reduceLT, Int.reduceLE, Int.reduceGT, Int.reduceGE, Int.reduceEq, Int.reduceNe, Int.reduceBEq, Int.reduceBNe, Int.reduceToNat, Int.reduceNeg]
  refine ⟨⟨i + 1, hil⟩, ?_, by dsimp only; omega⟩
  try (refine ev4 @qtu.eq_1 (qr (show i < 9223372036854775807 by omega)) (List.take_succ_eq_append_getElem hil) @qm2 ?_; try exact True.intro)
 ·have hie : i = s.length := by simp at h; omega
  subst hie
  try (refine ev1 @List.take_length.{0} ?_; try exact True.intro)
def be8 (h : Nat) : List UInt8 := [UInt8.ofNat (h / 256 ^ 7), UInt8.ofNat (h / 256 ^ 6), UInt8.ofNat (h / 256 ^ 5), UInt8.ofNat (h / 256 ^ 4), UInt8.ofNat (h / 256 ^ 3), UInt8.ofNat (h / 256 ^ 2), UInt8.ofNat (h / 256 ^ 1), UInt8.ofNat (h / 256 ^ 0)]
theorem ky (h : Nat) : (be8 h).length = 8 := rfl
theorem xie (h : Nat) : ∀ {i : Nat} (hi : i < 8), (be8 h)[i]'(by rw [ky]; exact hi) = UInt8.ofNat (h / 256 ^ (7 - i))
 | 0, _ => rfl
 | 1, _ => rfl
 | 2, _ => rfl
 | 3, _ => rfl
 | 4, _ => rfl
 | 5, _ => rfl
 | 6, _ => rfl
 | 7, _ => rfl
theorem ze {n : Int} (h : I64 n) : IntKind.i64.wrap n = n := by
 obtain ⟨h1, h2⟩ := h
 simp [IntKind.wrap, IntKind.bits, IntKind.signed]; omega
theorem qm3 (h i : Nat) (hi : i < 8) : IntKind.u8.wrap ((h : Int).fdiv (2 ^ min (8 * (7 - (i : Int))).toNat 64)) = ((UInt8.ofNat (h / 256 ^ (7 - i))).toNat : Int) := by
 have e1 : min (8 * (7 - (i : Int))).toNat 64 = 8 * (7 - i) := by omega
 have e2 : ((2 : Int) ^ (8 * (7 - i))) = ((256 ^ (7 - i) : Nat) : Int) := by rw [Int.natCast_pow, Int.pow_mul]; rfl
 rw [e1, e2, Int.fdiv_eq_ediv_of_nonneg _ (Int.natCast_nonneg _), ← Int.natCast_ediv, qjc, UInt8.toNat_ofNat']
 omega
theorem qsg (h : Nat) {i : Nat} (hi : i < 8) : (((be8 h).take i ++ List.replicate (8 - i) 0).map zh).set i (D.int .u8 ((UInt8.ofNat (h / 256 ^ (7 - i))).toNat : Int)) = ((be8 h).take (i + 1) ++ List.replicate (8 - (i + 1)) 0).map zh := by
 have h8 := ky h
 have hl : ((be8 h).take i).length = i := by rw [List.length_take]; omega
 have e : D.int .u8 ((UInt8.ofNat (h / 256 ^ (7 - i))).toNat : Int) = zh ((be8 h)[i]'(by omega)) := by rw [xie h hi]; rfl
 rw [e, ← List.map_set, List.set_append_right _ _ (by omega), hl, Nat.sub_self, List.take_succ_eq_append_getElem (by omega), show 8 - i = (8 - (i + 1)) + 1 by omega, List.replicate_succ, List.set_cons_zero, List.append_assoc, List.cons_append, List.nil_append]
theorem yy (ds : List D) (i : Nat) (x : D) : (ds.map ASlot.d).set i (.d x) = (ds.set i x).map .d := by rw [List.map_set]
theorem qf8 : zh 0 = .int .u8 0 := rfl
theorem qsh (h : Nat) : (be8 h).take 8 = be8 h := List.take_of_length_le (Nat.le_of_eq (ky h))
def qcu (k : Nat) (f0 : Fr) (os : List AObj) (h : Nat) (i : { i : Nat // i ≤ 8 }) : St :=
 ⟨(6, true, .d (.int .u64 (h : Nat))) :: (7, true, .d (.ptr (k + 1) 0)) :: (5, true, .d (.ptr k 0)) :: (12, true, .d (.int .i64 (i.val : Nat))) :: f0, os ++ [.row ((List.replicate 8 (D.int .u8 0)).map .d), .row ((((be8 h).take i.val ++ List.replicate (8 - i.val) 0).map zh).map .d)], [], 1⟩
theorem qyr (h : Nat) (s : List UInt8) (hh : h < 18446744073709551616) (hl : s.length ≤ 1000000000) : ql Tryz.prog 103 [.d (.int .u64 h), .d (.ref 0 0 1 s.length)] [.row ((s.map zh).map .d)] (.tup [.d (.int .u64 (fnv h s : Nat)), .d (.agg ((be8 (fnv h s)).map zh))]) [.row ((s.map zh).map .d)] := by
 refine x9x.goT ?_
 try (refine ev ?_; try exact True.intro)
 (repeat (with_reducible refine ob ?_)); refine clO [0] xkd (q3y h s hh hl) ?_
 try (refine ev ?_; try exact True.intro)
 refine qv (qcu 1 [] [.row ((s.map zh).map .d)] (fnv h s)) (fun i => 8 - i.val) ⟨0, Nat.zero_le _⟩ ?_ (fun i => ?_)
 ·try (refine ev3 @qcu.eq_1 @List.take_zero.{0} @qf8 ?_; try exact True.intro)
 obtain ⟨i, hi⟩ := i
 try (refine ev1 @qcu.eq_1 ?_; try exact True.intro)
 refine ju _ (fun hc => ?_) (fun hc => ?_)
 ·have hil : i < 8 := by simp at hc; omega
  have e1 : IntKind.i64.wrap (7 - (i : Int)) = 7 - i := ze (by unfold I64; omega)
  have e2 : IntKind.i64.wrap (8 * (7 - (i : Int))) = 8 * (7 - i) := ze (by unfold I64; omega)
  have hlen := ky (fnv h s)
  try simp only [Nat.mul_one, qm3 _ _ hil, yy, qsg _ hil, e1, e2, List.length_take, List.length_replicate, go_sem, Nat.reduceAdd, Nat.reduceMul, Nat.reduceSub, Nat.reduceEqDiff, Nat.reduceLT, Nat.reduceLeDiff, Nat.reduceBEq, reduceIte, reduceCtorEq, Int.reduceAdd, Int.reduceLT, Int.reduceLE, Int.reduceGT, Int.reduceGE, Int.reduceEq, Int.reduceNe, Int.reduceBEq, Int.reduceBNe, Int.reduceToNat, Int.reduceNeg]
  (repeat (with_reducible refine ob ?_))
  refine ⟨⟨i + 1, hil⟩, ?_, by dsimp only; omega⟩
  try (refine ev2 @qcu.eq_1 (qr (show i < 9223372036854775807 by omega)) ?_; try exact True.intro)
 ·have hie : i = 8 := by simp at hc; omega
  subst hie
  try (refine ev3 @qsh @be8.eq_1 @zh.eq_1 ?_; try exact True.intro)
def num1 (h : Nat) (c : UInt8) : Nat := h * 256 + c.toNat
def qkm (s : List UInt8) : Nat := s.foldl num1 0
def qdh (file : List UInt8) : Nat := if file.length < 8 then 14695981039346656037 else qkm (file.drop (file.length - 8))
theorem qle (s : List UInt8) (c : UInt8) : qkm (s ++ [c]) = qkm s * 256 + c.toNat := by unfold qkm; rw [List.foldl_append, List.foldl_cons, List.foldl_nil]; rfl
theorem qm4 : ∀ (n : Nat) (s : List UInt8), s.length = n → qkm s < 256 ^ n
 | 0, s, h => by cases s <;> simp at h; simp [qkm]
 | n + 1, s, h => by
  rcases List.eq_nil_or_concat s with rfl | ⟨t, c, rfl⟩
  ·simp at h
  ·rw [List.concat_eq_append] at h ⊢
   have h1 := qm4 n t (by simpa using h)
   have h2 := qct c
   rw [qle, Nat.pow_succ]
   omega
theorem qtv (a b : Nat) (ha : a < 18446744073709551616) (hb : b < 18446744073709551616) : bvOr 64 (a : Int) (b : Int) = ((a ||| b : Nat) : Int) := by
 unfold bvOr
 rw [BitVec.ofInt_natCast, BitVec.ofInt_natCast, BitVec.toNat_or, BitVec.toNat_ofNat, BitVec.toNat_ofNat, Nat.mod_eq_of_lt ha, Nat.mod_eq_of_lt hb]
theorem xoi (a c : Nat) (hc : c < 256) : a * 256 ||| c = a * 256 + c := by
 have := Nat.shiftLeft_add_eq_or_of_lt (i := 8) (b := c) (by omega) a
 rw [Nat.shiftLeft_eq] at this
 exact this.symm
theorem qys (a c : Nat) (ha : a < 72057594037927936) (hc : c < 256) : IntKind.u64.wrap (bvOr 64 (IntKind.u64.wrap ((a : Int) * 2 ^ min 8 64)) (IntKind.u64.wrap (c : Int))) = ((a * 256 + c : Nat) : Int) := by
 have e1 : IntKind.u64.wrap ((a : Int) * 2 ^ min 8 64) = ((a * 256 : Nat) : Int) := by
  rw [qd4]
  show (a : Int) * 256 % 18446744073709551616 = _
  omega
 rw [e1, f2 c (by omega), qtv _ _ (by omega) (by omega), xoi a c hc, f2 _ (by omega)]
def q3z (s : List UInt8) (i : { i : Nat // i ≤ s.length }) : St :=
 ⟨[(3, true, .d (.int .u64 (qkm (s.take i.val) : Nat))), (13, true, .d (.sl 1 (qe s))), (14, true, .d (.int .i64 s.length)), (15, true, .d (.int .i64 (i.val : Nat)))], [], [], 1⟩
theorem wo (s : List UInt8) (n : Nat) : (qe s).drop n = qe (s.drop n) := by simp [qe]
theorem vi (s : List UInt8) (n : Nat) : (qe s).take n = qe (s.take n) := by simp [qe]
theorem xif (file : List UInt8) (hl : file.length ≤ 1000000000) : ql Tryz.prog 101 [.d (.sl 1 (qe file))] [] (.d (.int .u64 (qdh file : Nat))) [] := by
 refine zj2.go ?_
 try (refine ev ?_; try exact True.intro)
 refine ju _ (fun hc => ?_) (fun hc => ?_)
 ·have hb : qdh file = 14695981039346656037 := by unfold qdh; rw [if_pos (by simp at hc; omega)]
  try (refine ev1 @hb ?_; try exact True.intro)
 have h8 : 8 ≤ file.length := by simp at hc; omega
 have e1 : IntKind.i64.wrap ((file.length : Int) - 8) = ((file.length - 8 : Nat) : Int) := by rw [ze (by unfold I64; omega)]; omega
 have hb : qdh file = qkm (file.drop (file.length - 8)) := by unfold qdh; rw [if_neg (by omega)]
 have hd : (file.drop (file.length - 8)).length = 8 := by rw [List.length_drop]; omega
 generalize hs : file.drop (file.length - 8) = s at hb hd
 have e2 : s.take (file.length - (file.length - 8)) = s := List.take_of_length_le (by omega)
 try (refine ev6 @e1 @wo @vi @hs @e2 @hb ?_; try exact True.intro)
 (repeat (with_reducible refine ob ?_))
 refine qv (q3z s) (fun i => s.length - i.val) ⟨0, Nat.zero_le _⟩ ?_ (fun i => ?_)
 ·try (refine ev2 @q3z.eq_1 @List.take_zero.{0} ?_; try exact True.intro)
  simp [qkm]
 obtain ⟨i, hi⟩ := i
 try (refine ev1 @q3z.eq_1 ?_; try exact True.intro)
 (repeat (with_reducible refine ob ?_)); refine ju _ (fun h => ?_) (fun h => ?_)
 ·have hil : i < s.length := by simpa using h
  have hlt : qkm (s.take i) < 72057594037927936 := by
   have := qm4 i (s.take i) (by rw [List.length_take]; omega)
   have h7 : 256 ^ i ≤ 256 ^ 7 := Nat.pow_le_pow_right (by decide) (by omega)
   have : (256 : Nat) ^ 7 = 72057594037927936 := by decide
   omega
  try (refine ev1 (jz s hil) ?_; try exact True.intro)
  (repeat (with_reducible refine ob ?_))
  try simp only [qys _ _ hlt (qct s[i]), go_sem, Nat.reduceAdd, Nat.reduceMul, Nat.reduceSub, Nat.reduceEqDiff, Nat.reduceLT, Nat.reduceLeDiff, Nat.reduceBEq, reduceIte, reduceCtorEq, Int.reduceAdd, Int.reduceLT, Int.reduceLE, Int.reduceGT, Int.reduceGE, Int.reduceEq, Int.reduceNe, Int.reduceBEq, Int.reduceBNe, Int.reduceToNat, Int.reduceNeg]
  refine ⟨⟨i + 1, hil⟩, ?_, by dsimp only; omega⟩
  try (refine ev4 @q3z.eq_1 (qr (show i < 9223372036854775807 by omega)) (List.take_succ_eq_append_getElem hil) @qle ?_; try exact True.intro)
 ·have hie : i = s.length := by simp at h; omega
  subst hie
  try (refine ev1 @List.take_length.{0} ?_; try exact True.intro)
end Go.Proofs.YtinnaedmdoengaaGreat
namespace Go.Proofs.YtinnaedmdoengaaGreat
open Go.Abs
set_option linter.unusedSimpArgs false
theorem qyt {α : Type} [DecidableEq α] {l m : List α} {i : Nat} (h1 : i < l.length) (h2 : i < m.length) (h : l[i] ≠ m[i]) : decide (l = m) = false := by
 rw [decide_eq_false_iff_not]
 rintro rfl
 exact h rfl
theorem yg {α : Type} {l m : List α} {i : Nat} (h : l.take i = m.take i) (h1 : i < l.length) (h2 : i < m.length) (he : l[i] = m[i]) : l.take (i + 1) = m.take (i + 1) := by
 rw [List.take_succ_eq_append_getElem h1, List.take_succ_eq_append_getElem h2, h, he]
theorem q7y (v w : AV) : (v.kind == w.kind && (v.n == w.n && v.s == w.s)) = decide (v = w) := by
 obtain ⟨a, b, c⟩ := v
 obtain ⟨d, e, f⟩ := w
 rw [Bool.eq_iff_iff]
 simp
noncomputable section
set_option maxRecDepth 100000
def xoj : List SOper := [
 ⟨some 4, .mov (.k (.d (.bool false))), none⟩]
def xok : List SOper := [
 ⟨some 6, .mov (.t 0), none⟩,
 ⟨some 7, .len (.t 6), none⟩,
 ⟨some 8, .mov (.t 1), none⟩,
 ⟨some 9, .len (.t 8), none⟩,
 ⟨some 10, .bin .neq (.t 7) (.t 9), none⟩]
def xol : List SOper := [
 ⟨some 4, .mov (.k (.d (.bool false))), none⟩]
def xom : List SOper := [
 ⟨some 11, .mov (.t 0), none⟩,
 ⟨some 12, .len (.t 11), none⟩,
 ⟨some 13, .mov (.k (.d (.int .i64 0))), none⟩]
def xon : List SOper := [
 ⟨some 14, .bin .lss (.t 13) (.t 12), none⟩]
def xoo : List SOper := [
 ⟨some 15, .mov (.t 13), none⟩,
 ⟨some 5, .mov (.t 15), none⟩]
def xop : List SOper := [
 ⟨some 16, .mov (.t 0), none⟩,
 ⟨some 17, .mov (.t 5), none⟩,
 ⟨some 18, .iaddr 3 (.t 16) (.t 17), none⟩,
 ⟨some 19, .load (some 3) (.t 18), none⟩,
 ⟨some 20, .mov (.t 1), none⟩,
 ⟨some 21, .mov (.t 5), none⟩,
 ⟨some 22, .iaddr 3 (.t 20) (.t 21), none⟩,
 ⟨some 23, .load (some 3) (.t 22), none⟩,
 ⟨some 24, .eqAgg true [.int, .int, .str] (.t 19) (.t 23), none⟩]
def xoq : List SOper := [
 ⟨some 4, .mov (.k (.d (.bool false))), none⟩]
def xos : List SOper := [
 ⟨some 25, .bin .add (.t 13) (.k (.d (.int .i64 1))), none⟩,
 ⟨some 13, .mov (.t 25), none⟩]
def xig : SCode := (.seq (.region xon 0 []) (.seq (.cond (.t 14) .skip (.exit 0)) (.seq (.block 1 (.seq (.region xoo 0 []) (.seq (.region xop 0 []) (.cond (.t 24) (.seq (.region xoq 0 []) .ret) .skip)))) (.region xos 0 []))))
theorem x9y : qf xig.eq_1 := qg xig.eq_1
def q7z : List SOper := [
 ⟨some 4, .mov (.k (.d (.bool true))), none⟩]
def s86 : SCode := (.seq (.region xoj 0 []) (.seq (.seq (.region xok 0 []) (.cond (.t 10) (.seq (.region xol 0 []) .ret) .skip)) (.seq (.seq (.region xom 0 []) (.block 0 (.loop xig))) (.seq (.region q7z 0 []) .ret))))
theorem e86 : qf s86.eq_1 := qg s86.eq_1
theorem x9z : qa xoj.eq_1 := qc
theorem x90 : qa xok.eq_1 := qc
theorem x91 : qa xol.eq_1 := qc
theorem x92 : qa xom.eq_1 := qc
theorem x93 : qa xon.eq_1 := qc
theorem x94 : qa xoo.eq_1 := qc
theorem x95 : qa xop.eq_1 := qc
theorem x96 : qa xoq.eq_1 := qc
theorem x97 : qa xos.eq_1 := qc
theorem xot : qa q7z.eq_1 := qc
attribute [go_sem] x9z x90 x91 x92 x93 x94 x95 x96 x97 x9y xot e86
theorem F86 : FnIs Tryz.prog 86 Tryz.f86 [] news s86 [.tmp 4] 26 := xo follows Tryz.func86
def xou : List SOper := [
 ⟨some 4, .mov (.k (.d (.bool false))), none⟩]
def xov : List SOper := [
 ⟨some 6, .mov (.t 0), none⟩,
 ⟨some 7, .len (.t 6), none⟩,
 ⟨some 8, .mov (.t 1), none⟩,
 ⟨some 9, .len (.t 8), none⟩,
 ⟨some 10, .bin .neq (.t 7) (.t 9), none⟩]
def xow : List SOper := [
 ⟨some 4, .mov (.k (.d (.bool false))), none⟩]
def xox : List SOper := [
 ⟨some 11, .mov (.t 0), none⟩,
 ⟨some 12, .len (.t 11), none⟩,
 ⟨some 13, .mov (.k (.d (.int .i64 0))), none⟩]
def xoy : List SOper := [
 ⟨some 14, .bin .lss (.t 13) (.t 12), none⟩]
def xoz : List SOper := [
 ⟨some 15, .mov (.t 13), none⟩,
 ⟨some 5, .mov (.t 15), none⟩]
def xo0 : List SOper := [
 ⟨some 16, .mov (.t 0), none⟩,
 ⟨some 17, .mov (.t 5), none⟩,
 ⟨some 18, .iaddr 1 (.t 16) (.t 17), none⟩,
 ⟨some 19, .load none (.t 18), none⟩,
 ⟨some 20, .mov (.t 1), none⟩,
 ⟨some 21, .mov (.t 5), none⟩,
 ⟨some 22, .iaddr 1 (.t 20) (.t 21), none⟩,
 ⟨some 23, .load none (.t 22), none⟩,
 ⟨some 24, .bin .neq (.t 19) (.t 23), none⟩]
def xo1 : List SOper := [
 ⟨some 4, .mov (.k (.d (.bool false))), none⟩]
def xo2 : List SOper := [
 ⟨some 25, .bin .add (.t 13) (.k (.d (.int .i64 1))), none⟩,
 ⟨some 13, .mov (.t 25), none⟩]
def xih : SCode := (.seq (.region xoy 0 []) (.seq (.cond (.t 14) .skip (.exit 0)) (.seq (.block 1 (.seq (.region xoz 0 []) (.seq (.region xo0 0 []) (.cond (.t 24) (.seq (.region xo1 0 []) .ret) .skip)))) (.region xo2 0 []))))
theorem x98 : qf xih.eq_1 := qg xih.eq_1
def q70 : List SOper := [
 ⟨some 4, .mov (.k (.d (.bool true))), none⟩]
def s87 : SCode := (.seq (.region xou 0 []) (.seq (.seq (.region xov 0 []) (.cond (.t 10) (.seq (.region xow 0 []) .ret) .skip)) (.seq (.seq (.region xox 0 []) (.block 0 (.loop xih))) (.seq (.region q70 0 []) .ret))))
theorem e87 : qf s87.eq_1 := qg s87.eq_1
theorem x99 : qa xou.eq_1 := qc
theorem zaa : qa xov.eq_1 := qc
theorem zab : qa xow.eq_1 := qc
theorem zac : qa xox.eq_1 := qc
theorem zad : qa xoy.eq_1 := qc
theorem zae : qa xoz.eq_1 := qc
theorem zaf : qa xo0.eq_1 := qc
theorem zag : qa xo1.eq_1 := qc
theorem zah : qa xo2.eq_1 := qc
theorem xo3 : qa q70.eq_1 := qc
attribute [go_sem] x99 zaa zab zac zad zae zaf zag zah x98 xo3 e87
theorem F87 : FnIs Tryz.prog 87 Tryz.f87 [] news s87 [.tmp 4] 26 := xo follows Tryz.func87
def q71 : List SOper := [
 ⟨some 2, .mov (.k (.d .nilsl)), none⟩]
def q72 : List SOper := [
 ⟨some 3, .mov (.t 0), none⟩,
 ⟨some 4, .eqnilS false (.t 3), none⟩]
def q73 : List SOper := [
 ⟨some 2, .mov (.k (.d .nilsl)), none⟩]
def q74 : List SOper := [
 ⟨some 5, .buildSlice false 3 0 [(.int .i64 0), (.int .i64 0), (.str [])] [], none⟩,
 ⟨some 6, .mov (.t 0), none⟩,
 ⟨some 7, .append false 3 32 (.t 5) (.t 6), none⟩,
 ⟨some 2, .mov (.t 7), none⟩]
def s141 : SCode := (.seq (.region q71 0 []) (.seq (.seq (.region q72 0 []) (.cond (.t 4) (.seq (.region q73 0 []) .ret) .skip)) (.seq (.region q74 0 []) .ret)))
theorem zlh : qf s141.eq_1 := qg s141.eq_1
theorem xo4 : qa q71.eq_1 := qc
theorem xo5 : qa q72.eq_1 := qc
theorem xo6 : qa q73.eq_1 := qc
theorem xo7 : qa q74.eq_1 := qc
attribute [go_sem] xo4 xo5 xo6 xo7 zlh
theorem x75 : FnIs Tryz.prog 141 Tryz.f141 [] news s141 [.tmp 2] 8 := xo follows Tryz.func141
def q75 : List SOper := [
 ⟨some 2, .mov (.k (.d .nilsl)), none⟩]
def q76 : List SOper := [
 ⟨some 3, .mov (.t 0), none⟩,
 ⟨some 4, .eqnilS false (.t 3), none⟩]
def q77 : List SOper := [
 ⟨some 2, .mov (.k (.d .nilsl)), none⟩]
def q78 : List SOper := [
 ⟨some 5, .buildSlice false 1 0 [(.int .i64 0)] [], none⟩,
 ⟨some 6, .mov (.t 0), none⟩,
 ⟨some 7, .append false 1 8 (.t 5) (.t 6), none⟩,
 ⟨some 2, .mov (.t 7), none⟩]
def s142 : SCode := (.seq (.region q75 0 []) (.seq (.seq (.region q76 0 []) (.cond (.t 4) (.seq (.region q77 0 []) .ret) .skip)) (.seq (.region q78 0 []) .ret)))
theorem zli : qf s142.eq_1 := qg s142.eq_1
theorem xo8 : qa q75.eq_1 := qc
theorem xo9 : qa q76.eq_1 := qc
theorem xpa : qa q77.eq_1 := qc
theorem xpb : qa q78.eq_1 := qc
attribute [go_sem] xo8 xo9 xpa xpb zli
theorem x76 : FnIs Tryz.prog 142 Tryz.f142 [] news s142 [.tmp 2] 8 := xo follows Tryz.func142
def xpc : List SOper := [
 ⟨some 2, .box 2 (.t 0), none⟩,
 ⟨some 3, .box 1 (.t 1), none⟩,
 ⟨some 4, .mov (.k (.d (.bool false))), none⟩]
def xpd : List SOper := [
 ⟨some 5, .faddr 0 (.t 2), none⟩,
 ⟨some 6, .load none (.t 5), none⟩,
 ⟨some 7, .faddr 0 (.t 3), none⟩,
 ⟨some 8, .load none (.t 7), none⟩,
 ⟨some 9, .bin .eql (.t 6) (.t 8), none⟩,
 ⟨some 10, .mov (.t 9), none⟩,
 ⟨some 11, .faddr 1 (.t 2), some (10, true)⟩,
 ⟨some 12, .load none (.t 11), some (10, true)⟩,
 ⟨some 13, .faddr 1 (.t 3), some (10, true)⟩,
 ⟨some 14, .load none (.t 13), some (10, true)⟩,
 ⟨some 15, .bin .eql (.t 12) (.t 14), some (10, true)⟩,
 ⟨some 16, .pick (.t 10) (.t 15) (.k (.d (.bool false))), none⟩,
 ⟨some 17, .mov (.t 16), none⟩,
 ⟨some 18, .faddr 2 (.t 2), some (17, true)⟩,
 ⟨some 19, .load none (.t 18), some (17, true)⟩,
 ⟨some 20, .faddr 2 (.t 3), some (17, true)⟩,
 ⟨some 21, .load none (.t 20), some (17, true)⟩,
 ⟨some 22, .bin .eql (.t 19) (.t 21), some (17, true)⟩,
 ⟨some 23, .pick (.t 17) (.t 22) (.k (.d (.bool false))), none⟩,
 ⟨some 24, .mov (.t 23), none⟩,
 ⟨some 25, .faddr 3 (.t 2), some (24, true)⟩,
 ⟨some 26, .load none (.t 25), some (24, true)⟩,
 ⟨some 27, .faddr 3 (.t 3), some (24, true)⟩,
 ⟨some 28, .load none (.t 27), some (24, true)⟩,
 ⟨some 29, .bin .eql (.t 26) (.t 28), some (24, true)⟩,
 ⟨some 30, .pick (.t 24) (.t 29) (.k (.d (.bool false))), none⟩,
 ⟨some 31, .mov (.t 30), none⟩,
 ⟨some 32, .faddr 4 (.t 2), some (31, true)⟩,
 ⟨some 33, .load none (.t 32), some (31, true)⟩,
 ⟨some 34, .faddr 4 (.t 3), some (31, true)⟩,
 ⟨some 35, .load none (.t 34), some (31, true)⟩,
 ⟨some 36, .bin .eql (.t 33) (.t 35), some (31, true)⟩,
 ⟨some 37, .pick (.t 31) (.t 36) (.k (.d (.bool false))), none⟩,
 ⟨some 38, .mov (.t 37), none⟩,
 ⟨some 39, .faddr 5 (.t 2), some (38, true)⟩,
 ⟨some 40, .load none (.t 39), some (38, true)⟩,
 ⟨some 41, .faddr 5 (.t 3), some (38, true)⟩,
 ⟨some 42, .load none (.t 41), some (38, true)⟩,
 ⟨some 43, .bin .eql (.t 40) (.t 42), some (38, true)⟩,
 ⟨some 44, .pick (.t 38) (.t 43) (.k (.d (.bool false))), none⟩,
 ⟨some 45, .mov (.t 44), none⟩,
 ⟨some 46, .faddr 6 (.t 2), some (45, true)⟩,
 ⟨some 47, .load none (.t 46), some (45, true)⟩,
 ⟨some 48, .faddr 6 (.t 3), some (45, true)⟩,
 ⟨some 49, .load none (.t 48), some (45, true)⟩,
 ⟨some 50, .bin .eql (.t 47) (.t 49), some (45, true)⟩,
 ⟨some 51, .pick (.t 45) (.t 50) (.k (.d (.bool false))), none⟩,
 ⟨some 52, .mov (.t 51), none⟩,
 ⟨some 53, .faddr 7 (.t 2), some (52, true)⟩,
 ⟨some 54, .load none (.t 53), some (52, true)⟩,
 ⟨some 55, .faddr 7 (.t 3), some (52, true)⟩,
 ⟨some 56, .load none (.t 55), some (52, true)⟩,
 ⟨some 57, .call (.k (.d (.func (.func 86) [] []))) [(.t 54), (.t 56)], some (52, true)⟩,
 ⟨some 58, .pick (.t 52) (.t 57) (.k (.d (.bool false))), none⟩,
 ⟨some 59, .mov (.t 58), none⟩,
 ⟨some 60, .faddr 8 (.t 2), some (59, true)⟩,
 ⟨some 61, .load none (.t 60), some (59, true)⟩,
 ⟨some 62, .faddr 8 (.t 3), some (59, true)⟩,
 ⟨some 63, .load none (.t 62), some (59, true)⟩,
 ⟨some 64, .call (.k (.d (.func (.func 87) [] []))) [(.t 61), (.t 63)], some (59, true)⟩,
 ⟨some 65, .pick (.t 59) (.t 64) (.k (.d (.bool false))), none⟩,
 ⟨some 4, .mov (.t 65), none⟩]
def s38 : SCode := (.seq (.region xpc 2 []) (.seq (.region xpd 0 []) .ret))
theorem e38 : qf s38.eq_1 := qg s38.eq_1
theorem zai : qa xpc.eq_1 := qc
theorem zaj : qa xpd.eq_1 := qc
attribute [go_sem] zai zaj e38
theorem F38 : FnIs Tryz.prog 38 Tryz.f38 [] news s38 [.tmp 4] 66 := xo follows Tryz.func38
end
def Seq {α : Type} (es : Nat) (enc : α → List D) (l m : List α) (i : { i : Nat // l.take i = m.take i }) : St :=
 ⟨[(0, true, .d (.sl es (l.map enc))), (1, true, .d (.sl es (m.map enc))), (12, true, .d (.int .i64 l.length)), (13, true, .d (.int .i64 (i.val : Nat)))], [], [], 1⟩
theorem xpe (l m : List AV) (hl : l.length ≤ maxLen) :
  ql Tryz.prog 86 [.d (.sl 3 (l.map xg)), .d (.sl 3 (m.map xg))] [] (.d (.bool (decide (l = m)))) [] := by
 first | refine F86.go ?_ | refine F86.goT ?_
 (refine ev ?_; try exact True.intro)
 refine qo _ rfl rfl (fun h => ?_) (fun h => ?_)
 ·have hne : decide (l = m) = false := by rw [decide_eq_false_iff_not]; rintro rfl; simp at h
  (refine ev1 @hne ?_; try exact True.intro)
 ·have hlm : l.length = m.length := by simp at h; omega
  (refine ev ?_; try exact True.intro)
  refine qv (Seq 3 xg l m) (fun i => l.length - i.val) ⟨0, rfl⟩ ?_ (fun i => ?_)
  ·(refine ev2 @Seq.eq_1 (xn jy) ?_; try exact True.intro)
  ·obtain ⟨i, hi⟩ := i
   (refine ev1 @Seq.eq_1 ?_; try exact True.intro)
   refine qo _ rfl rfl (fun h => ?_) (fun h => ?_)
   ·have hil : i < l.length := by simpa using h
    have him : i < m.length := by omega
    (refine ev4 (qz xg l hil) (qz xg m him) @xg.eq_1 @q7y ?_; try exact True.intro)
    refine ⟨by omega, by omega, ?_⟩
    refine qo _ rfl rfl (fun h2 => ?_) (fun h2 => ?_)
    ·have hne : l[i] ≠ m[i] := by simpa using h2
     (refine ev1 (qyt hil him hne) ?_; try exact True.intro)
    ·have he : l[i] = m[i] := by simpa using h2
     (refine ev ?_; try exact True.intro)
     refine ⟨⟨i + 1, yg hi hil him he⟩, ?_, by dsimp only; omega⟩
     (refine ev3 @Seq.eq_1 (qr (show i < 9223372036854775807 by unfold maxLen at hl; omega)) (xn jy) ?_; try exact True.intro)
   ·have he : decide (l = m) = true := by
     have : l.length ≤ i := by simpa using h
     rw [List.take_of_length_le this, List.take_of_length_le (by omega)] at hi
     simp [hi]
    (refine ev1 @he ?_; try exact True.intro)
theorem qpk (l : List AV) (hl : l.length ≤ 1000000) :
  ql Tryz.prog 141 [.d (.sl 3 (l.map xg))] [] (.d (.sl 3 (l.map xg))) [] := by
 first | refine x75.go ?_ | refine x75.goT ?_
 (refine ev ?_; try exact True.intro)
 refine qr0 rfl rfl (fun b hb => ?_)
 try (refine ev ?_; try exact True.intro)
 refine qo _ rfl rfl (fun h => ?_) (fun h => ?_)
 ·try (refine ev1 (hb h) ?_; try exact True.intro)
 ·try (refine ev ?_; try exact True.intro)
  omega
theorem qpl (l : List Int) (hl : l.length ≤ 1000000) :
  ql Tryz.prog 142 [.d (.sl 1 (l.map encI))] [] (.d (.sl 1 (l.map encI))) [] := by
 first | refine x76.go ?_ | refine x76.goT ?_
 (refine ev ?_; try exact True.intro)
 refine qr0 rfl rfl (fun b hb => ?_)
 try (refine ev ?_; try exact True.intro)
 refine qo _ rfl rfl (fun h => ?_) (fun h => ?_)
 ·try (refine ev1 (hb h) ?_; try exact True.intro)
 ·try (refine ev ?_; try exact True.intro)
  omega
theorem xpf (l m : List Int) (hl : l.length ≤ maxLen) :
  ql Tryz.prog 87 [.d (.sl 1 (l.map encI)), .d (.sl 1 (m.map encI))] [] (.d (.bool (decide (l = m)))) [] := by
 first | refine F87.go ?_ | refine F87.goT ?_
 (refine ev ?_; try exact True.intro)
 refine qo _ rfl rfl (fun h => ?_) (fun h => ?_)
 ·have hne : decide (l = m) = false := by rw [decide_eq_false_iff_not]; rintro rfl; simp at h
  try (refine ev1 @hne ?_; try exact True.intro)
 ·have hlm : l.length = m.length := by simp at h; omega
  try (refine ev ?_; try exact True.intro)
  refine qv (Seq 1 encI l m) (fun i => l.length - i.val) ⟨0, rfl⟩ ?_ (fun i => ?_)
  ·try (refine ev1 @Seq.eq_1 ?_; try exact True.intro)
  ·obtain ⟨i, hi⟩ := i
   try (refine ev1 @Seq.eq_1 ?_; try exact True.intro)
   refine qo _ rfl rfl (fun h => ?_) (fun h => ?_)
   ·have hil : i < l.length := by simpa using h
    have him : i < m.length := by omega
    try (refine ev3 (qz encI l hil) (qz encI m him) @encI.eq_1 ?_; try exact True.intro)
    refine ⟨by omega, by omega, ?_⟩
    refine qo _ rfl rfl (fun h2 => ?_) (fun h2 => ?_)
    ·have hne : l[i] ≠ m[i] := by simpa using h2
     try (refine ev1 (qyt hil him hne) ?_; try exact True.intro)
    ·have he : l[i] = m[i] := by simpa using h2
     try (refine ev ?_; try exact True.intro)
     refine ⟨⟨i + 1, yg hi hil him he⟩, ?_, by dsimp only; omega⟩
     try (refine ev2 @Seq.eq_1 (qr (show i < 9223372036854775807 by unfold maxLen at hl; omega)) ?_; try exact True.intro)
   ·have he : decide (l = m) = true := by
     have : l.length ≤ i := by simpa using h
     rw [List.take_of_length_le this, List.take_of_length_le (by omega)] at hi
     simp [hi]
    try (refine ev1 @he ?_; try exact True.intro)
theorem q79 (p q : Pk) : (p.kind == q.kind && p.sess == q.sess && p.epoch == q.epoch && p.from_ == q.from_ && p.to == q.to && p.seq == q.seq && p.label == q.label && decide (p.values = q.values) && decide (p.clock = q.clock)) = decide (p = q) := by
 obtain ⟨a1, a2, a3, a4, a5, a6, a7, a8, a9⟩ := p
 obtain ⟨b1, b2, b3, b4, b5, b6, b7, b8, b9⟩ := q
 rw [Bool.eq_iff_iff]
 simp [and_assoc]
set_option maxRecDepth 10000 in
theorem qvp (p q : Pk) (h1 : p.values.length ≤ maxLen) (h2 : p.clock.length ≤ maxLen) :
  ql Tryz.prog 38 [.d (.agg (qi p)), .d (.agg (qi q))] [] (.d (.bool (decide (p = q)))) [] := by
 first | refine F38.go ?_ | refine F38.goT ?_
 (refine ev1 @qi.eq_1 ?_; try exact True.intro)
 (repeat (with_reducible refine ob ?_)); refine cl F86 (xpe p.values q.values h1) ?_
 try (refine ev ?_; try exact True.intro)
 (repeat (with_reducible refine ob ?_)); refine cl F87 (xpf p.clock q.clock h2) ?_
 try (refine ev1 @q79 ?_; try exact True.intro)
end Go.Proofs.YtinnaedmdoengaaGreat
namespace Go.Proofs.YtinnaedmdoengaaGreat
open Go.Abs
set_option linter.unusedSimpArgs false
def qcd (g : Nat → Bool) (n : Nat) : Bool := (List.range n).all g
theorem qvq (g : Nat → Bool) (n : Nat) : qcd g (n + 1) = (qcd g n && g n) := by simp [qcd, List.range_succ]
theorem qf9 {g : Nat → Bool} {n : Nat} (h : qcd g n = true) (hg : g n = true) : qcd g (n + 1) = true := by rw [qvq, h, hg]; rfl
theorem qm5 {g : Nat → Bool} {i n : Nat} (hi : i < n) (hg : g i = false) : qcd g n = false := by
 simp only [qcd, List.all_eq_false]
 exact ⟨i, by simpa using hi, by simp [hg]⟩
theorem yh {g : Nat → Bool} {n : Nat} : qcd g n = true ↔ ∀ i, i < n → g i = true := by simp [qcd]
structure Qu where
 acc : Int
 cons : Int
 items : List Pk
 deriving DecidableEq, Inhabited
def encQ (q : Qu) : List D := [.int .i64 q.acc, .int .i64 q.cons, .sl 9 (q.items.map qi)]
theorem qvr (q : Qu) : D.noPtrL (encQ q) = true := by (refine ev1 @encQ.eq_1 ?_; try exact True.intro)
attribute [go_sem] qvr
def Pk.Sm (p : Pk) : Prop := p.values.length ≤ 1000 ∧ p.clock.length ≤ 1000
def Qu.Sm (q : Qu) : Prop := q.items.length ≤ 1000 ∧ ∀ p ∈ q.items, p.Sm
theorem Pk.Sm.v {p : Pk} (h : p.Sm) : p.values.length ≤ maxLen := by have := h.1; unfold maxLen; omega
theorem Pk.Sm.c {p : Pk} (h : p.Sm) : p.clock.length ≤ maxLen := by have := h.2; unfold maxLen; omega
noncomputable section
set_option maxRecDepth 100000
def xpg : List SOper := [
 ⟨some 1, .box 1 (.t 0), none⟩,
 ⟨some 2, .mov (.k (.d (.bool false))), none⟩]
def xph : List SOper := [
 ⟨some 3, .faddr 0 (.t 1), none⟩,
 ⟨some 4, .load none (.t 3), none⟩,
 ⟨some 5, .bin .eql (.t 4) (.k (.d (.int .i64 1))), none⟩,
 ⟨some 6, .mov (.t 5), none⟩,
 ⟨some 7, .load (some 9) (.t 1), some (6, true)⟩,
 ⟨some 8, .call (.k (.d (.func (.func 110) [] []))) [(.t 7)], some (6, true)⟩,
 ⟨some 9, .pick (.t 6) (.t 8) (.k (.d (.bool false))), none⟩,
 ⟨some 2, .mov (.t 9), none⟩]
def s82 : SCode := (.seq (.region xpg 1 []) (.seq (.region xph 0 []) .ret))
theorem e82 : qf s82.eq_1 := qg s82.eq_1
theorem zak : qa xpg.eq_1 := qc
theorem zal : qa xph.eq_1 := qc
attribute [go_sem] zak zal e82
theorem F82 : FnIs Tryz.prog 82 Tryz.f82 [] news s82 [.tmp 2] 10 := xo follows Tryz.func82
def xpi : List SOper := [
 ⟨some 2, .box 2 (.t 0), none⟩,
 ⟨some 3, .box 1 (.t 1), none⟩,
 ⟨some 4, .mov (.k (.d (.bool false))), none⟩]
def xpj : List SOper := [
 ⟨some 5, .faddr 1 (.t 2), none⟩,
 ⟨some 6, .load none (.t 5), none⟩,
 ⟨some 7, .faddr 1 (.t 3), none⟩,
 ⟨some 8, .load none (.t 7), none⟩,
 ⟨some 9, .bin .eql (.t 6) (.t 8), none⟩,
 ⟨some 10, .mov (.t 9), none⟩,
 ⟨some 11, .faddr 3 (.t 2), some (10, true)⟩,
 ⟨some 12, .load none (.t 11), some (10, true)⟩,
 ⟨some 13, .faddr 3 (.t 3), some (10, true)⟩,
 ⟨some 14, .load none (.t 13), some (10, true)⟩,
 ⟨some 15, .bin .eql (.t 12) (.t 14), some (10, true)⟩,
 ⟨some 16, .pick (.t 10) (.t 15) (.k (.d (.bool false))), none⟩,
 ⟨some 17, .mov (.t 16), none⟩,
 ⟨some 18, .faddr 4 (.t 2), some (17, true)⟩,
 ⟨some 19, .load none (.t 18), some (17, true)⟩,
 ⟨some 20, .faddr 4 (.t 3), some (17, true)⟩,
 ⟨some 21, .load none (.t 20), some (17, true)⟩,
 ⟨some 22, .bin .eql (.t 19) (.t 21), some (17, true)⟩,
 ⟨some 23, .pick (.t 17) (.t 22) (.k (.d (.bool false))), none⟩,
 ⟨some 4, .mov (.t 23), none⟩]
def s83 : SCode := (.seq (.region xpi 2 []) (.seq (.region xpj 0 []) .ret))
theorem e83 : qf s83.eq_1 := qg s83.eq_1
theorem zam : qa xpi.eq_1 := qc
theorem zan : qa xpj.eq_1 := qc
attribute [go_sem] zam zan e83
theorem F83 : FnIs Tryz.prog 83 Tryz.f83 [] news s83 [.tmp 4] 24 := xo follows Tryz.func83
def xpk : List SOper := [
 ⟨some 1, .box 1 (.t 0), none⟩,
 ⟨some 2, .mov (.k (.d (.bool false))), none⟩]
def xpl : List SOper := [
 ⟨some 5, .faddr 2 (.t 1), none⟩,
 ⟨some 6, .load none (.t 5), none⟩,
 ⟨some 7, .len (.t 6), none⟩,
 ⟨some 8, .mov (.k (.d (.int .i64 0))), none⟩]
def xpm : List SOper := [
 ⟨some 9, .bin .lss (.t 8) (.t 7), none⟩]
def xpn : List SOper := [
 ⟨some 10, .mov (.t 8), none⟩,
 ⟨some 11, .iaddr 9 (.t 6) (.t 8), none⟩,
 ⟨some 12, .load (some 9) (.t 11), none⟩,
 ⟨some 4, .alloc 1 [(.d (.int .i64 0)), (.d (.int .i64 0)), (.d (.int .i64 0)), (.d (.int .i64 0)), (.d (.int .i64 0)), (.d (.int .i64 0)), (.d (.int .i64 0)), (.d .nilsl), (.d .nilsl)], none⟩,
 ⟨some 3, .mov (.t 10), none⟩,
 ⟨none, .store (some 9) (.t 4) (.t 12), none⟩]
def xpo : List SOper := [
 ⟨some 13, .load (some 9) (.t 4), none⟩,
 ⟨some 14, .call (.k (.d (.func (.func 82) [] []))) [(.t 13)], none⟩,
 ⟨some 15, .not (.t 14), none⟩,
 ⟨some 16, .mov (.t 15), none⟩,
 ⟨some 17, .load (some 9) (.t 4), some (16, false)⟩,
 ⟨some 18, .faddr 2 (.t 1), some (16, false)⟩,
 ⟨some 19, .load none (.t 18), some (16, false)⟩,
 ⟨some 20, .iaddr 9 (.t 19) (.k (.d (.int .i64 0))), some (16, false)⟩,
 ⟨some 21, .load (some 9) (.t 20), some (16, false)⟩,
 ⟨some 22, .call (.k (.d (.func (.func 83) [] []))) [(.t 17), (.t 21)], some (16, false)⟩,
 ⟨some 23, .not (.t 22), some (16, false)⟩,
 ⟨some 24, .pick (.t 16) (.k (.d (.bool true))) (.t 23), none⟩,
 ⟨some 25, .mov (.t 24), none⟩,
 ⟨some 26, .faddr 5 (.t 4), some (25, false)⟩,
 ⟨some 27, .load none (.t 26), some (25, false)⟩,
 ⟨some 28, .faddr 1 (.t 1), some (25, false)⟩,
 ⟨some 29, .load none (.t 28), some (25, false)⟩,
 ⟨some 30, .bin .add (.t 29) (.k (.d (.int .i64 1))), some (25, false)⟩,
 ⟨some 31, .mov (.t 3), some (25, false)⟩,
 ⟨some 32, .bin .add (.t 30) (.t 31), some (25, false)⟩,
 ⟨some 33, .bin .neq (.t 27) (.t 32), some (25, false)⟩,
 ⟨some 34, .pick (.t 25) (.k (.d (.bool true))) (.t 33), none⟩]
def xpp : List SOper := [
 ⟨some 2, .mov (.k (.d (.bool false))), none⟩]
def xpq : List SOper := [
 ⟨some 35, .bin .add (.t 8) (.k (.d (.int .i64 1))), none⟩,
 ⟨some 8, .mov (.t 35), none⟩]
def xii : SCode := (.seq (.region xpm 0 []) (.seq (.cond (.t 9) .skip (.exit 0)) (.seq (.block 1 (.seq (.region xpn 1 []) (.seq (.region xpo 0 []) (.cond (.t 34) (.seq (.region xpp 0 []) .ret) .skip)))) (.region xpq 0 []))))
theorem zao : qf xii.eq_1 := qg xii.eq_1
def xpr : List SOper := [
 ⟨some 36, .faddr 1 (.t 1), none⟩,
 ⟨some 37, .load none (.t 36), none⟩,
 ⟨some 38, .bin .geq (.t 37) (.k (.d (.int .i64 0))), none⟩,
 ⟨some 39, .mov (.t 38), none⟩,
 ⟨some 40, .faddr 1 (.t 1), some (39, true)⟩,
 ⟨some 41, .load none (.t 40), some (39, true)⟩,
 ⟨some 42, .faddr 0 (.t 1), some (39, true)⟩,
 ⟨some 43, .load none (.t 42), some (39, true)⟩,
 ⟨some 44, .bin .leq (.t 41) (.t 43), some (39, true)⟩,
 ⟨some 45, .pick (.t 39) (.t 44) (.k (.d (.bool false))), none⟩,
 ⟨some 46, .mov (.t 45), none⟩,
 ⟨some 47, .faddr 0 (.t 1), some (46, true)⟩,
 ⟨some 48, .load none (.t 47), some (46, true)⟩,
 ⟨some 49, .bin .leq (.t 48) (.k (.d (.int .i64 1099511627776))), some (46, true)⟩,
 ⟨some 50, .pick (.t 46) (.t 49) (.k (.d (.bool false))), none⟩,
 ⟨some 51, .mov (.t 50), none⟩,
 ⟨some 52, .faddr 2 (.t 1), some (51, true)⟩,
 ⟨some 53, .load none (.t 52), some (51, true)⟩,
 ⟨some 54, .len (.t 53), some (51, true)⟩,
 ⟨some 55, .faddr 0 (.t 1), some (51, true)⟩,
 ⟨some 56, .load none (.t 55), some (51, true)⟩,
 ⟨some 57, .faddr 1 (.t 1), some (51, true)⟩,
 ⟨some 58, .load none (.t 57), some (51, true)⟩,
 ⟨some 59, .bin .sub (.t 56) (.t 58), some (51, true)⟩,
 ⟨some 60, .bin .eql (.t 54) (.t 59), some (51, true)⟩,
 ⟨some 61, .pick (.t 51) (.t 60) (.k (.d (.bool false))), none⟩,
 ⟨some 62, .mov (.t 61), none⟩,
 ⟨some 63, .faddr 2 (.t 1), some (62, true)⟩,
 ⟨some 64, .load none (.t 63), some (62, true)⟩,
 ⟨some 65, .len (.t 64), some (62, true)⟩,
 ⟨some 66, .bin .leq (.t 65) (.k (.d (.int .i64 4))), some (62, true)⟩,
 ⟨some 67, .pick (.t 62) (.t 66) (.k (.d (.bool false))), none⟩,
 ⟨some 2, .mov (.t 67), none⟩]
def s42 : SCode := (.seq (.region xpk 1 []) (.seq (.seq (.region xpl 0 []) (.block 0 (.loop xii))) (.seq (.region xpr 0 []) .ret)))
theorem e42 : qf s42.eq_1 := qg s42.eq_1
theorem zap : qa xpk.eq_1 := qc
theorem zaq : qa xpl.eq_1 := qc
theorem zar : qa xpm.eq_1 := qc
theorem zas : qa xpn.eq_1 := qc
theorem zat : qa xpo.eq_1 := qc
theorem zau : qa xpp.eq_1 := qc
theorem zav : qa xpq.eq_1 := qc
theorem zaw : qa xpr.eq_1 := qc
attribute [go_sem] zap zaq zar zas zat zau zav zao zaw e42
theorem F42 : FnIs Tryz.prog 42 Tryz.f42 [] news s42 [.tmp 2] 68 := xo follows Tryz.func42
def xps : List SOper := [
 ⟨some 1, .box 2 (.t 0), none⟩,
 ⟨some 2, .alloc 1 [(.d (.int .i64 0)), (.d (.int .i64 0)), (.d (.int .i64 0)), (.d (.int .i64 0)), (.d (.int .i64 0)), (.d (.int .i64 0)), (.d (.int .i64 0)), (.d .nilsl), (.d .nilsl)], none⟩]
def xpt : List SOper := [
 ⟨some 3, .faddr 7 (.t 1), none⟩,
 ⟨some 4, .load none (.t 3), none⟩,
 ⟨some 5, .call (.k (.d (.func (.func 141) [] []))) [(.t 4)], none⟩,
 ⟨some 6, .faddr 8 (.t 1), none⟩,
 ⟨some 7, .load none (.t 6), none⟩,
 ⟨some 8, .call (.k (.d (.func (.func 142) [] []))) [(.t 7)], none⟩,
 ⟨some 9, .faddr 7 (.t 1), none⟩,
 ⟨none, .store none (.t 9) (.t 5), none⟩,
 ⟨some 10, .faddr 8 (.t 1), none⟩,
 ⟨none, .store none (.t 10) (.t 8), none⟩]
def xpu : List SOper := [
 ⟨some 11, .load (some 9) (.t 1), none⟩,
 ⟨none, .store (some 9) (.t 2) (.t 11), none⟩]
def s85 : SCode := (.seq (.region xps 2 []) (.seq (.region xpt 0 [(2, 4)]) (.seq (.region xpu 0 []) .ret)))
theorem e85 : qf s85.eq_1 := qg s85.eq_1
theorem zax : qa xps.eq_1 := qc
theorem zay : qa xpt.eq_1 := qc
theorem zaz : qa xpu.eq_1 := qc
attribute [go_sem] zax zay zaz e85
theorem F85 : FnIs Tryz.prog 85 Tryz.f85 [] news s85 [.cell 2 (some 9)] 12 := xo follows Tryz.func85
def xpv : List SOper := [
 ⟨some 2, .mov (.k (.d .nilsl)), none⟩]
def xpw : List SOper := [
 ⟨some 3, .mov (.k (.d .nilsl)), none⟩]
def xpx : List SOper := [
 ⟨some 6, .mov (.t 0), none⟩,
 ⟨some 7, .len (.t 6), none⟩,
 ⟨some 8, .mov (.k (.d (.int .i64 0))), none⟩]
def xpy : List SOper := [
 ⟨some 9, .bin .lss (.t 8) (.t 7), none⟩]
def xpz : List SOper := [
 ⟨some 10, .iaddr 9 (.t 6) (.t 8), none⟩,
 ⟨some 11, .load (some 9) (.t 10), none⟩,
 ⟨some 5, .alloc 1 [(.d (.int .i64 0)), (.d (.int .i64 0)), (.d (.int .i64 0)), (.d (.int .i64 0)), (.d (.int .i64 0)), (.d (.int .i64 0)), (.d (.int .i64 0)), (.d .nilsl), (.d .nilsl)], none⟩,
 ⟨none, .store (some 9) (.t 5) (.t 11), none⟩]
def xp0 : List SOper := [
 ⟨some 12, .mov (.t 3), none⟩,
 ⟨some 13, .load (some 9) (.t 5), none⟩,
 ⟨some 14, .call (.k (.d (.func (.func 85) [] []))) [(.t 13)], none⟩,
 ⟨some 15, .buildSlice false 9 1 [(.int .i64 0), (.int .i64 0), (.int .i64 0), (.int .i64 0), (.int .i64 0), (.int .i64 0), (.int .i64 0), .nilsl, .nilsl] [(0, 9, (.t 14))], none⟩,
 ⟨some 16, .append false 9 104 (.t 12) (.t 15), none⟩,
 ⟨some 3, .mov (.t 16), none⟩]
def xp1 : List SOper := [
 ⟨some 17, .bin .add (.t 8) (.k (.d (.int .i64 1))), none⟩,
 ⟨some 8, .mov (.t 17), none⟩]
def xij : SCode := (.seq (.region xpy 0 []) (.seq (.cond (.t 9) .skip (.exit 0)) (.seq (.block 1 (.seq (.region xpz 1 []) (.region xp0 0 []))) (.region xp1 0 []))))
theorem za0 : qf xij.eq_1 := qg xij.eq_1
def xp2 : List SOper := [
 ⟨some 18, .mov (.t 3), none⟩,
 ⟨some 2, .mov (.t 18), none⟩]
def s84 : SCode := (.seq (.region xpv 0 []) (.seq (.region xpw 0 []) (.seq (.seq (.region xpx 0 []) (.block 0 (.loop xij))) (.seq (.region xp2 0 []) .ret))))
theorem e84 : qf s84.eq_1 := qg s84.eq_1
theorem za1 : qa xpv.eq_1 := qc
theorem za2 : qa xpw.eq_1 := qc
theorem za3 : qa xpx.eq_1 := qc
theorem za4 : qa xpy.eq_1 := qc
theorem za5 : qa xpz.eq_1 := qc
theorem za6 : qa xp0.eq_1 := qc
theorem za7 : qa xp1.eq_1 := qc
theorem za8 : qa xp2.eq_1 := qc
attribute [go_sem] za1 za2 za3 za4 za5 za6 za7 za0 za8 e84
theorem F84 : FnIs Tryz.prog 84 Tryz.f84 [] news s84 [.tmp 2] 19 := xo follows Tryz.func84
end
def qah (p : Pk) : Bool := p.kind == 1 && xc p
theorem qda (p : Pk) (hp : p.Sm) : ql Tryz.prog 82 [.d (.agg (qi p))] [] (.d (.bool (qah p))) [] := by
 first | refine F82.go ?_ | refine F82.goT ?_
 (refine ev1 @qi.eq_1 ?_; try exact True.intro)
 (repeat (with_reducible refine ob ?_)); first | refine cl q6x (vt p hp.v hp.c) ?_ | refine clF q6x (vt p hp.v hp.c) (fun _ => by (refine ev2 @qi.eq_1 @encQ.eq_1 ?_; try exact True.intro)) ?_
 try (refine ev ?_; try exact True.intro)
 rfl
def qkn (p q : Pk) : Bool := p.sess == q.sess && p.from_ == q.from_ && p.to == q.to
theorem qhw (p q : Pk) : ql Tryz.prog 83 [.d (.agg (qi p)), .d (.agg (qi q))] [] (.d (.bool (qkn p q))) [] := by
 first | refine F83.go ?_ | refine F83.goT ?_
 (refine ev1 @qi.eq_1 ?_; try exact True.intro)
 rfl
def qjg (q : Qu) (i : Nat) : Bool :=
 qah (q.items.getD i default) && qkn (q.items.getD i default) (q.items.getD 0 default) && (q.items.getD i default).seq == IntKind.i64.wrap (IntKind.i64.wrap (q.cons + 1) + (i : Int))
def vu (q : Qu) : Bool := qcd (qjg q) q.items.length && (decide (q.cons ≥ 0) && decide (q.cons ≤ q.acc) && decide (q.acc ≤ 1099511627776) && ((q.items.length : Int) == IntKind.i64.wrap (q.acc - q.cons)) && decide ((q.items.length : Int) ≤ 4))
def qm6 (q : Qu) (i : { i : Nat // qcd (qjg q) i = true }) : St :=
 ⟨[(1, true, .d (.ptr 0 0)), (6, true, .d (.sl 9 (q.items.map qi))), (7, true, .d (.int .i64 q.items.length)), (8, true, .d (.int .i64 (i.val : Nat)))],
  [.row [.d (.int .i64 q.acc), .d (.int .i64 q.cons), .d (.sl 9 (q.items.map qi))]], [], 1⟩
theorem qba {α : Type} {l : List α} {i : Nat} (h : i < l.length) (d : α) : l.getD i d = l[i] := by simp [List.getD, h]
set_option maxRecDepth 10000 in
theorem qai (q : Qu) (hq : q.Sm) : ql Tryz.prog 42 [.d (.agg (encQ q))] [] (.d (.bool (vu q))) [] := by
 have hl := hq.1
 first | refine F42.go ?_ | refine F42.goT ?_
 (refine ev1 @encQ.eq_1 ?_; try exact True.intro)
 refine qv (qm6 q) (fun i => q.items.length - i.val) ⟨0, rfl⟩ ?_ (fun i => ?_)
 ·try (refine ev1 @qm6.eq_1 ?_; try exact True.intro)
 ·obtain ⟨i, hi⟩ := i
  try (refine ev1 @qm6.eq_1 ?_; try exact True.intro)
  refine qo _ rfl rfl (fun h => ?_) (fun h => ?_)
  ·have hil : i < q.items.length := by simpa using h
   have h0 : 0 < q.items.length := by omega
   have hw : IntKind.i64.wrap (IntKind.i64.wrap (q.cons + 1) + (i : Int)) = IntKind.i64.wrap (IntKind.i64.wrap (q.cons + 1) + (i : Int)) := rfl
   (refine ev4 (qz qi q.items hil) (qz qi q.items h0) @Int.toNat_zero @qi.eq_1 ?_; try exact True.intro)
   refine ⟨by omega, ?_⟩
   (repeat (with_reducible refine ob ?_)); first | refine cl F82 (qda q.items[i] (hq.2 _ (List.getElem_mem hil))) ?_ | refine clF F82 (qda q.items[i] (hq.2 _ (List.getElem_mem hil))) (fun _ => by (refine ev2 @qi.eq_1 @encQ.eq_1 ?_; try exact True.intro)) ?_
   try (refine ev1 (qz qi q.items h0) ?_; try exact True.intro)
   refine ⟨fun _ => ⟨by omega, by omega⟩, by simp [qi], ?_⟩
   (refine ev1 @qi.eq_1 ?_; try exact True.intro)
   (repeat (with_reducible refine ob ?_)); first | refine cl F83 (qhw q.items[i] q.items[0]) ?_ | refine clF F83 (qhw q.items[i] q.items[0]) (fun _ => by (refine ev2 @qi.eq_1 @encQ.eq_1 ?_; try exact True.intro)) ?_
   try (refine ev ?_; try exact True.intro)
   (repeat (with_reducible refine ob ?_))
   have hx : (!qah q.items[i] || !qkn q.items[i] q.items[0] || q.items[i].seq != IntKind.i64.wrap (IntKind.i64.wrap (q.cons + 1) + (i : Int))) = !qjg q i := by
    simp only [qjg, qba hil, qba h0, Bool.not_and]; rfl
   refine qo (!qjg q i) rfl ?_ (fun h2 => ?_) (fun h2 => ?_)
   ·try (refine ev1 @hx ?_; try exact True.intro)
   ·have hg : qjg q i = false := by simpa using h2
    (refine ev2 @vu.eq_1 (qm5 hil hg) ?_; try exact True.intro)
   ·have hg : qjg q i = true := by simpa using h2
    try (refine ev ?_; try exact True.intro)
    refine ⟨⟨i + 1, qf9 hi hg⟩, ?_, by dsimp only; omega⟩
    try (refine ev2 @qm6.eq_1 (qr (show i < 9223372036854775807 by omega)) ?_; try exact True.intro)
  ·have hil : q.items.length ≤ i := by simpa using h
   have ha : qcd (qjg q) q.items.length = true := yh.2 fun j hj => yh.1 hi j (by omega)
   try (refine ev ?_; try exact True.intro)
   (repeat (with_reducible refine ob ?_))
   (refine ev2 @vu.eq_1 @ha ?_; try exact True.intro)
theorem qaw (p : Pk) (hp : p.Sm) : ql Tryz.prog 85 [.d (.agg (qi p))] [] (.d (.agg (qi p))) [] := by
 obtain ⟨h1, h2⟩ := hp
 first | refine F85.go ?_ | refine F85.goT ?_
 (refine ev1 @qi.eq_1 ?_; try exact True.intro)
 (repeat (with_reducible refine ob ?_)); first | refine cl x75 (qpk p.values (by omega)) ?_ | refine clF x75 (qpk p.values (by omega)) (fun _ => by (refine ev2 @qi.eq_1 @encQ.eq_1 ?_; try exact True.intro)) ?_
 try (refine ev ?_; try exact True.intro)
 (repeat (with_reducible refine ob ?_)); first | refine cl x76 (qpl p.clock (by omega)) ?_ | refine clF x76 (qpl p.clock (by omega)) (fun _ => by (refine ev2 @qi.eq_1 @encQ.eq_1 ?_; try exact True.intro)) ?_
 try (refine ev ?_; try exact True.intro)
def qm7 (l : List Pk) (i : { i : Nat // i ≤ l.length }) : St :=
 ⟨[(3, true, .own 0 9 ((l.take i.val).map qi)), (6, true, .d (.sl 9 (l.map qi))), (7, true, .d (.int .i64 l.length)), (8, true, .d (.int .i64 (i.val : Nat)))], [], [0], 1⟩
set_option maxRecDepth 10000 in
theorem qpm (l : List Pk) (hl : l.length ≤ 1000) (hp : ∀ p ∈ l, p.Sm) : ql Tryz.prog 84 [.d (.sl 9 (l.map qi))] [] (.own 0 9 (l.map qi)) [] := by
 first | refine F84.go ?_ | refine F84.goT ?_
 (refine ev ?_; try exact True.intro)
 refine qv (qm7 l) (fun i => l.length - i.val) ⟨0, Nat.zero_le _⟩ ?_ (fun i => ?_)
 ·try (refine ev1 @qm7.eq_1 ?_; try exact True.intro)
  trace_state
 ·obtain ⟨i, hi⟩ := i
  try (refine ev1 @qm7.eq_1 ?_; try exact True.intro)
  refine qo _ rfl rfl (fun h => ?_) (fun h => ?_)
  ·have hil : i < l.length := by simpa using h
   (refine ev2 (qz qi l hil) @qi.eq_1 ?_; try exact True.intro)
   (repeat (with_reducible refine ob ?_))
   (repeat (with_reducible refine ob ?_)); first | refine cl F85 (qaw l[i] (hp _ (List.getElem_mem hil))) ?_ | refine clF F85 (qaw l[i] (hp _ (List.getElem_mem hil))) (fun _ => by (refine ev2 @qi.eq_1 @encQ.eq_1 ?_; try exact True.intro)) ?_
   (refine ev1 @qi.eq_1 ?_; try exact True.intro)
   have hlt : (l.take i).length ≤ 1000 := by simp; omega
   refine ⟨⟨by omega, by omega⟩, ⟨i + 1, hil⟩, ?_, by dsimp only; omega⟩
   (refine ev4 @qm7.eq_1 (qb3 qi l hil) @qi.eq_1 (qr (show i < 9223372036854775807 by omega)) ?_; try exact True.intro)
  ·have hil : i = l.length := by
    have : l.length ≤ i := by simpa using h
    omega
   subst hil
   try (refine ev1 @List.take_length.{0} ?_; try exact True.intro)
end Go.Proofs.YtinnaedmdoengaaGreat
namespace Go.Proofs.YtinnaedmdoengaaGreat
open Go.Abs
set_option linter.unusedSimpArgs false
def xq : Qu := ⟨0, 0, []⟩
theorem qe3 : qi default = [.int .i64 0, .int .i64 0, .int .i64 0, .int .i64 0, .int .i64 0, .int .i64 0, .int .i64 0, .sl 3 [], .sl 1 []] := rfl
noncomputable section
set_option maxRecDepth 100000
def xp3 : List SOper := [
 ⟨some 2, .box 3 (.t 0), none⟩,
 ⟨some 3, .box 2 (.t 1), none⟩,
 ⟨some 4, .alloc 1 [(.d (.int .i64 0)), (.d (.int .i64 0)), (.d .nilsl)], none⟩,
 ⟨some 5, .mov (.k (.d (.int .i64 0))), none⟩]
def xp4 : List SOper := [
 ⟨some 7, .load (some 3) (.t 2), none⟩,
 ⟨some 8, .call (.k (.d (.func (.func 42) [] []))) [(.t 7)], none⟩,
 ⟨some 9, .not (.t 8), none⟩,
 ⟨some 10, .mov (.t 9), none⟩,
 ⟨some 11, .load (some 9) (.t 3), some (10, false)⟩,
 ⟨some 12, .call (.k (.d (.func (.func 82) [] []))) [(.t 11)], some (10, false)⟩,
 ⟨some 13, .not (.t 12), some (10, false)⟩,
 ⟨some 14, .pick (.t 10) (.k (.d (.bool true))) (.t 13), none⟩,
 ⟨some 15, .mov (.t 14), none⟩,
 ⟨some 16, .faddr 2 (.t 2), some (15, false)⟩,
 ⟨some 17, .load none (.t 16), some (15, false)⟩,
 ⟨some 18, .len (.t 17), some (15, false)⟩,
 ⟨some 19, .bin .gtr (.t 18) (.k (.d (.int .i64 0))), some (15, false)⟩,
 ⟨some 20, .mov (.t 19), some (15, false)⟩,
 ⟨some 21, .load (some 9) (.t 3), some (20, true)⟩,
 ⟨some 22, .faddr 2 (.t 2), some (20, true)⟩,
 ⟨some 23, .load none (.t 22), some (20, true)⟩,
 ⟨some 24, .iaddr 9 (.t 23) (.k (.d (.int .i64 0))), some (20, true)⟩,
 ⟨some 25, .load (some 9) (.t 24), some (20, true)⟩,
 ⟨some 26, .call (.k (.d (.func (.func 83) [] []))) [(.t 21), (.t 25)], some (20, true)⟩,
 ⟨some 27, .not (.t 26), some (20, true)⟩,
 ⟨some 28, .pick (.t 20) (.t 27) (.k (.d (.bool false))), some (15, false)⟩,
 ⟨some 29, .pick (.t 15) (.k (.d (.bool true))) (.t 28), none⟩,
 ⟨some 6, .mov (.t 29), none⟩]
def xp5 : List SOper := [
 ⟨some 30, .build [(.int .i64 0), (.int .i64 0), .nilsl] [], none⟩,
 ⟨none, .store (some 3) (.t 4) (.t 30), none⟩,
 ⟨some 5, .mov (.k (.d (.int .i64 1))), none⟩]
def xp6 : List SOper := [
 ⟨some 32, .faddr 5 (.t 3), none⟩,
 ⟨some 33, .load none (.t 32), none⟩,
 ⟨some 34, .faddr 0 (.t 2), none⟩,
 ⟨some 35, .load none (.t 34), none⟩,
 ⟨some 36, .bin .leq (.t 33) (.t 35), none⟩,
 ⟨some 31, .mov (.t 36), none⟩]
def xp7 : List SOper := [
 ⟨some 37, .build [(.int .i64 0), (.int .i64 0), .nilsl] [], none⟩,
 ⟨none, .store (some 3) (.t 4) (.t 37), none⟩,
 ⟨some 5, .mov (.k (.d (.int .i64 21))), none⟩]
def xp8 : List SOper := [
 ⟨some 39, .faddr 5 (.t 3), none⟩,
 ⟨some 40, .load none (.t 39), none⟩,
 ⟨some 41, .faddr 0 (.t 2), none⟩,
 ⟨some 42, .load none (.t 41), none⟩,
 ⟨some 43, .bin .add (.t 42) (.k (.d (.int .i64 1))), none⟩,
 ⟨some 44, .bin .gtr (.t 40) (.t 43), none⟩,
 ⟨some 38, .mov (.t 44), none⟩]
def xp9 : List SOper := [
 ⟨some 45, .build [(.int .i64 0), (.int .i64 0), .nilsl] [], none⟩,
 ⟨none, .store (some 3) (.t 4) (.t 45), none⟩,
 ⟨some 5, .mov (.k (.d (.int .i64 22))), none⟩]
def xqa : List SOper := [
 ⟨some 47, .faddr 2 (.t 2), none⟩,
 ⟨some 48, .load none (.t 47), none⟩,
 ⟨some 49, .len (.t 48), none⟩,
 ⟨some 50, .bin .eql (.t 49) (.k (.d (.int .i64 4))), none⟩,
 ⟨some 46, .mov (.t 50), none⟩]
def xqb : List SOper := [
 ⟨some 51, .build [(.int .i64 0), (.int .i64 0), .nilsl] [], none⟩,
 ⟨none, .store (some 3) (.t 4) (.t 51), none⟩,
 ⟨some 5, .mov (.k (.d (.int .i64 19))), none⟩]
def xqc : List SOper := [
 ⟨some 52, .faddr 5 (.t 3), none⟩,
 ⟨some 53, .load none (.t 52), none⟩,
 ⟨some 54, .faddr 1 (.t 2), none⟩,
 ⟨some 55, .load none (.t 54), none⟩,
 ⟨some 56, .faddr 2 (.t 2), none⟩,
 ⟨some 57, .load none (.t 56), none⟩,
 ⟨some 58, .call (.k (.d (.func (.func 84) [] []))) [(.t 57)], none⟩,
 ⟨some 59, .load (some 9) (.t 3), none⟩,
 ⟨some 60, .call (.k (.d (.func (.func 85) [] []))) [(.t 59)], none⟩,
 ⟨some 61, .buildSlice false 9 1 [(.int .i64 0), (.int .i64 0), (.int .i64 0), (.int .i64 0), (.int .i64 0), (.int .i64 0), (.int .i64 0), .nilsl, .nilsl] [(0, 9, (.t 60))], none⟩,
 ⟨some 62, .append false 9 104 (.t 58) (.t 61), none⟩,
 ⟨some 63, .build [(.int .i64 0), (.int .i64 0), .nilsl] [(0, 1, (.t 53)), (1, 1, (.t 55)), (2, 1, (.t 62))], none⟩,
 ⟨none, .store (some 3) (.t 4) (.t 63), none⟩,
 ⟨some 5, .mov (.k (.d (.int .i64 0))), none⟩]
def s35 : SCode := (.seq (.region xp3 3 []) (.seq (.block 0 (.seq (.region xp4 0 []) (.cond (.t 6) (.seq (.region xp5 0 []) .ret) (.seq (.region xp6 0 []) (.cond (.t 31) (.seq (.region xp7 0 []) .ret) (.seq (.region xp8 0 []) (.cond (.t 38) (.seq (.region xp9 0 []) .ret) (.seq (.region xqa 0 []) (.cond (.t 46) (.seq (.region xqb 0 []) .ret) .skip))))))))) (.seq (.region xqc 0 [(1, 6), (3, 6), (6, 7), (1, 8), (3, 8)]) .ret)))
theorem e35 : qf s35.eq_1 := qg s35.eq_1
theorem za9 : qa xp3.eq_1 := qc
theorem zba : qa xp4.eq_1 := qc
theorem zbb : qa xp5.eq_1 := qc
theorem zbc : qa xp6.eq_1 := qc
theorem zbd : qa xp7.eq_1 := qc
theorem zbe : qa xp8.eq_1 := qc
theorem zbf : qa xp9.eq_1 := qc
theorem zbg : qa xqa.eq_1 := qc
theorem zbh : qa xqb.eq_1 := qc
theorem zbi : qa xqc.eq_1 := qc
attribute [go_sem] za9 zba zbb zbc zbd zbe zbf zbg zbh zbi e35
theorem F35 : FnIs Tryz.prog 35 Tryz.f35 [] news s35 [.cell 4 (some 3), .tmp 5] 64 := xo follows Tryz.func35
def xqd : List SOper := [
 ⟨some 1, .box 2 (.t 0), none⟩,
 ⟨some 2, .alloc 1 [(.d (.int .i64 0)), (.d (.int .i64 0)), (.d (.int .i64 0)), (.d (.int .i64 0)), (.d (.int .i64 0)), (.d (.int .i64 0)), (.d (.int .i64 0)), (.d .nilsl), (.d .nilsl)], none⟩,
 ⟨some 3, .mov (.k (.d (.bool false))), none⟩]
def xqe : List SOper := [
 ⟨some 4, .faddr 2 (.t 1), none⟩,
 ⟨some 5, .load none (.t 4), none⟩,
 ⟨some 6, .len (.t 5), none⟩,
 ⟨some 7, .bin .eql (.t 6) (.k (.d (.int .i64 0))), none⟩]
def xqf : List SOper := [
 ⟨some 8, .build [(.int .i64 0), (.int .i64 0), (.int .i64 0), (.int .i64 0), (.int .i64 0), (.int .i64 0), (.int .i64 0), .nilsl, .nilsl] [], none⟩,
 ⟨none, .store (some 9) (.t 2) (.t 8), none⟩,
 ⟨some 3, .mov (.k (.d (.bool false))), none⟩]
def xqg : List SOper := [
 ⟨some 9, .faddr 2 (.t 1), none⟩,
 ⟨some 10, .load none (.t 9), none⟩,
 ⟨some 11, .iaddr 9 (.t 10) (.k (.d (.int .i64 0))), none⟩,
 ⟨some 12, .load (some 9) (.t 11), none⟩,
 ⟨some 13, .call (.k (.d (.func (.func 85) [] []))) [(.t 12)], none⟩,
 ⟨none, .store (some 9) (.t 2) (.t 13), none⟩,
 ⟨some 3, .mov (.k (.d (.bool true))), none⟩]
def s37 : SCode := (.seq (.region xqd 2 []) (.seq (.seq (.region xqe 0 []) (.cond (.t 7) (.seq (.region xqf 0 []) .ret) .skip)) (.seq (.region xqg 0 []) .ret)))
theorem e37 : qf s37.eq_1 := qg s37.eq_1
theorem zbj : qa xqd.eq_1 := qc
theorem zbk : qa xqe.eq_1 := qc
theorem zbl : qa xqf.eq_1 := qc
theorem zbm : qa xqg.eq_1 := qc
attribute [go_sem] zbj zbk zbl zbm e37
theorem F37 : FnIs Tryz.prog 37 Tryz.f37 [] news s37 [.cell 2 (some 9), .tmp 3] 14 := xo follows Tryz.func37
end
def qaj (q : Qu) (p : Pk) : Qu × Int :=
 if !vu q || !qah p || (decide ((q.items.length : Int) > 0) && !qkn p (q.items.getD 0 default)) then (xq, 1)
 else if decide (p.seq ≤ q.acc) then (xq, 21)
 else if decide (p.seq > IntKind.i64.wrap (q.acc + 1)) then (xq, 22)
 else if (q.items.length : Int) == 4 then (xq, 19)
 else (⟨p.seq, q.cons, q.items ++ [p]⟩, 0)
set_option maxRecDepth 10000 in
theorem qjh (q : Qu) (p : Pk) (hq : q.Sm) (hp : p.Sm) : ql Tryz.prog 35 [.d (.agg (encQ q)), .d (.agg (qi p))] [] (.tup [.d (.agg (encQ (qaj q p).1)), .d (.int .i64 (qaj q p).2)]) [] := by
 have hl := hq.1
 first | refine F35.go ?_ | refine F35.goT ?_
 (refine ev2 @encQ.eq_1 @qi.eq_1 ?_; try exact True.intro)
 (repeat (with_reducible refine ob ?_)); first | refine cl F42 (qai q hq) ?_ | refine clF F42 (qai q hq) (fun _ => by (refine ev2 @qi.eq_1 @encQ.eq_1 ?_; try exact True.intro)) ?_
 try (refine ev ?_; try exact True.intro)
 (repeat (with_reducible refine ob ?_)); first | refine cl F82 (qda p hp) ?_ | refine clF F82 (qda p hp) (fun _ => by (refine ev2 @qi.eq_1 @encQ.eq_1 ?_; try exact True.intro)) ?_
 obtain ⟨acc, cons, items⟩ := q
 cases items with
 | nil =>
  try (refine ev ?_; try exact True.intro)
  (repeat (with_reducible refine ob ?_))
  refine yf (.bool false) rfl ?_
  try (refine ev ?_; try exact True.intro)
  (repeat (with_reducible refine ob ?_))
  refine qo _ rfl rfl (fun h1 => ?_) (fun h1 => ?_)
  ·try (refine ev3 @qaj.eq_1 @h1 @xq.eq_1 ?_; try exact True.intro)
  try (refine ev ?_; try exact True.intro)
  refine qo _ rfl rfl (fun h2 => ?_) (fun h2 => ?_)
  ·try (refine ev4 @qaj.eq_1 @h1 @h2 @xq.eq_1 ?_; try exact True.intro)
  try (refine ev ?_; try exact True.intro)
  refine qo _ rfl rfl (fun h3 => ?_) (fun h3 => ?_)
  ·try (refine ev5 @qaj.eq_1 @h1 @h2 @h3 @xq.eq_1 ?_; try exact True.intro)
  try (refine ev ?_; try exact True.intro)
  refine qo _ rfl rfl (fun h4 => ?_) (fun h4 => ?_)
  ·first | exact Bool.noConfusion h4 | try (refine ev6 @qaj.eq_1 @h1 @h2 @h3 @h4 @xq.eq_1 ?_; try exact True.intro)
  try (refine ev ?_; try exact True.intro)
  refine qi4 (qpm [] hq.1 hq.2) F84.body rfl ⟨by (refine ev2 @qi.eq_1 @encQ.eq_1 ?_; try exact True.intro), by try (refine ev ?_; try exact True.intro), by try (refine ev ?_; try exact True.intro), by try (refine ev ?_; try exact True.intro)⟩ (by try (refine ev ?_; try exact True.intro)) (by simp [ASlot.toks]) ?_
  simp only [wv, renT, go_sem, Nat.reduceAdd, Nat.reduceMul, Nat.reduceSub, Nat.reduceEqDiff, Nat.reduceLT, Nat.reduceLeDiff, Nat.reduceBEq, reduceIte, reduceCtorEq, Int.reduceAdd, Int.reduceLT, Int.reduceLE, Int.reduceGT, Int.reduceGE, Int.reduceEq, Int.reduceNe, Int.reduceBEq, Int.reduceBNe, Int.reduceToNat, Int.reduceNeg]
  (repeat (with_reducible refine ob ?_)); first | refine cl F85 (qaw p hp) ?_ | refine clF F85 (qaw p hp) (fun _ => by (refine ev2 @qi.eq_1 @encQ.eq_1 ?_; try exact True.intro)) ?_
  (refine ev8 @qi.eq_1 @qaj.eq_1 @h1 @h2 @h3 @h4 @beq_self_eq_true.{0} @List.map_append.{0,0} ?_; try exact True.intro)
  try (simp only [List.length_cons] at hl; omega)
 | cons x l =>
  try (refine ev ?_; try exact True.intro)
  refine ⟨by simp_all, fun h => ⟨h, by omega⟩, fun h => ⟨h, by simp [qi]⟩, ?_⟩
  (refine ev1 @qi.eq_1 ?_; try exact True.intro)
  (repeat (with_reducible refine ob ?_)); first | refine cl F83 (qhw p x) ?_ | refine clF F83 (qhw p x) (fun _ => by (refine ev2 @qi.eq_1 @encQ.eq_1 ?_; try exact True.intro)) ?_
  try (refine ev ?_; try exact True.intro)
  (repeat (with_reducible refine ob ?_))
  refine qo _ rfl rfl (fun h1 => ?_) (fun h1 => ?_)
  ·try (refine ev3 @qaj.eq_1 @h1 @xq.eq_1 ?_; try exact True.intro)
  try (refine ev ?_; try exact True.intro)
  refine qo _ rfl rfl (fun h2 => ?_) (fun h2 => ?_)
  ·try (refine ev4 @qaj.eq_1 @h1 @h2 @xq.eq_1 ?_; try exact True.intro)
  try (refine ev ?_; try exact True.intro)
  refine qo _ rfl rfl (fun h3 => ?_) (fun h3 => ?_)
  ·try (refine ev5 @qaj.eq_1 @h1 @h2 @h3 @xq.eq_1 ?_; try exact True.intro)
  try (refine ev ?_; try exact True.intro)
  refine qo _ rfl rfl (fun h4 => ?_) (fun h4 => ?_)
  ·first | exact Bool.noConfusion h4 | try (refine ev6 @qaj.eq_1 @h1 @h2 @h3 @h4 @xq.eq_1 ?_; try exact True.intro)
  try (refine ev ?_; try exact True.intro)
  refine qi4 (qpm (x :: l) hq.1 hq.2) F84.body rfl ⟨by (refine ev2 @qi.eq_1 @encQ.eq_1 ?_; try exact True.intro), by try (refine ev ?_; try exact True.intro), by try (refine ev ?_; try exact True.intro), by try (refine ev ?_; try exact True.intro)⟩ (by try (refine ev ?_; try exact True.intro)) (by simp [ASlot.toks]) ?_
  simp only [wv, renT, go_sem, Nat.reduceAdd, Nat.reduceMul, Nat.reduceSub, Nat.reduceEqDiff, Nat.reduceLT, Nat.reduceLeDiff, Nat.reduceBEq, reduceIte, reduceCtorEq, Int.reduceAdd, Int.reduceLT, Int.reduceLE, Int.reduceGT, Int.reduceGE, Int.reduceEq, Int.reduceNe, Int.reduceBEq, Int.reduceBNe, Int.reduceToNat, Int.reduceNeg]
  (repeat (with_reducible refine ob ?_)); first | refine cl F85 (qaw p hp) ?_ | refine clF F85 (qaw p hp) (fun _ => by (refine ev2 @qi.eq_1 @encQ.eq_1 ?_; try exact True.intro)) ?_
  (refine ev8 @qi.eq_1 @qaj.eq_1 @h1 @h2 @h3 @h4 @beq_self_eq_true.{0} @List.map_append.{0,0} ?_; try exact True.intro)
  try (simp only [List.length_cons] at hl; omega)
def qpn (q : Qu) : Pk × Bool := match q.items with
 | [] => (default, false)
 | p :: _ => (p, true)
theorem qyu (q : Qu) (hq : q.Sm) : ql Tryz.prog 37 [.d (.agg (encQ q))] [] (.tup [.d (.agg (qi (qpn q).1)), .d (.bool (qpn q).2)]) [] := by
 first | refine F37.go ?_ | refine F37.goT ?_
 obtain ⟨acc, cons, items⟩ := q
 cases items with
 | nil =>
  simp only [encQ, qpn, qe3, go_sem, Nat.reduceAdd, Nat.reduceMul, Nat.reduceSub, Nat.reduceEqDiff, Nat.reduceLT, Nat.reduceLeDiff, Nat.reduceBEq, reduceIte, reduceCtorEq, Int.reduceAdd, Int.reduceLT, Int.reduceLE, Int.reduceGT, Int.reduceGE, Int.reduceEq, Int.reduceNe, Int.reduceBEq, Int.reduceBNe, Int.reduceToNat, Int.reduceNeg]
  refine qo _ rfl rfl (fun h1 => ?_) (fun h1 => Bool.noConfusion h1)
  try (refine ev ?_; try exact True.intro)
 | cons p l =>
  simp only [encQ, qpn, go_sem, Nat.reduceAdd, Nat.reduceMul, Nat.reduceSub, Nat.reduceEqDiff, Nat.reduceLT, Nat.reduceLeDiff, Nat.reduceBEq, reduceIte, reduceCtorEq, Int.reduceAdd, Int.reduceLT, Int.reduceLE, Int.reduceGT, Int.reduceGE, Int.reduceEq, Int.reduceNe, Int.reduceBEq, Int.reduceBNe, Int.reduceToNat, Int.reduceNeg]
  refine qo _ rfl rfl (fun h1 => ?_) (fun h1 => ?_)
  ·simp at h1; omega
  (refine ev1 @qi.eq_1 ?_; try exact True.intro)
  (repeat (with_reducible refine ob ?_))
  (repeat (with_reducible refine ob ?_)); first | refine cl F85 (qaw p (hq.2 _ (by simp))) ?_ | refine clF F85 (qaw p (hq.2 _ (by simp))) (fun _ => by (refine ev2 @qi.eq_1 @encQ.eq_1 ?_; try exact True.intro)) ?_
  (refine ev1 @qi.eq_1 ?_; try exact True.intro)
end Go.Proofs.YtinnaedmdoengaaGreat
namespace Go.Proofs.YtinnaedmdoengaaGreat
open Go.Abs
set_option linter.unusedSimpArgs false
noncomputable section
set_option maxRecDepth 100000
def xqh : List SOper := [
 ⟨some 2, .alloc 1 [(.d (.int .i64 0)), (.d (.int .i64 0)), (.d (.int .i64 0)), (.d (.int .i64 0)), (.d (.int .i64 0)), (.d (.int .i64 0)), (.d (.int .i64 0)), (.d .nilsl), (.d .nilsl)], none⟩]
def xqi : List SOper := [
 ⟨some 3, .mov (.t 0), none⟩,
 ⟨some 4, .mov (.t 0), none⟩,
 ⟨some 5, .bin .rem (.t 4) (.k (.d (.int .i64 40))), none⟩,
 ⟨some 6, .build [(.int .i64 0), (.int .i64 0), (.int .i64 0), (.int .i64 0), (.int .i64 0), (.int .i64 0), (.int .i64 0), .nilsl, .nilsl] [(0, 1, (.k (.d (.int .i64 1)))), (1, 1, (.k (.d (.int .i64 1)))), (4, 1, (.k (.d (.int .i64 1)))), (5, 1, (.t 3)), (6, 1, (.t 5))], none⟩,
 ⟨none, .store (some 9) (.t 2) (.t 6), none⟩]
def s36 : SCode := (.seq (.region xqh 1 []) (.seq (.region xqi 0 []) .ret))
theorem e36 : qf s36.eq_1 := qg s36.eq_1
theorem zbn : qa xqh.eq_1 := qc
theorem zbo : qa xqi.eq_1 := qc
attribute [go_sem] zbn zbo e36
theorem F36 : FnIs Tryz.prog 36 Tryz.f36 [] news s36 [.cell 2 (some 9)] 7 := xo follows Tryz.func36
def s7r0 : List SOper := [
 ⟨some 0, .mov (.k (.d (.bool false))), none⟩]
def s7r1 : List SOper := [
 ⟨some 10, .build [(.int .i64 0), (.int .i64 0), .nilsl] [], none⟩,
 ⟨some 11, .call (.k (.d (.func (.func 36) [] []))) [(.k (.d (.int .i64 1)))], none⟩,
 ⟨some 12, .call (.k (.d (.func (.func 35) [] []))) [(.t 10), (.t 11)], none⟩,
 ⟨some 9, .mov (.t 12), none⟩,
 ⟨some 13, .extract 0 (.t 9), none⟩,
 ⟨some 14, .extract 1 (.t 9), none⟩,
 ⟨some 1, .alloc 1 [(.d (.int .i64 0)), (.d (.int .i64 0)), (.d .nilsl)], none⟩,
 ⟨none, .store (some 3) (.t 1) (.t 13), none⟩,
 ⟨some 2, .mov (.t 14), none⟩]
def s7r2 : List SOper := [
 ⟨some 16, .load (some 3) (.t 1), none⟩,
 ⟨some 17, .call (.k (.d (.func (.func 36) [] []))) [(.k (.d (.int .i64 1)))], none⟩,
 ⟨some 18, .call (.k (.d (.func (.func 35) [] []))) [(.t 16), (.t 17)], none⟩,
 ⟨some 15, .mov (.t 18), none⟩,
 ⟨some 19, .extract 0 (.t 15), none⟩,
 ⟨some 20, .extract 1 (.t 15), none⟩,
 ⟨some 3, .alloc 1 [(.d (.int .i64 0)), (.d (.int .i64 0)), (.d .nilsl)], none⟩,
 ⟨none, .store (some 3) (.t 3) (.t 19), none⟩,
 ⟨some 4, .mov (.t 20), none⟩]
def s7r3 : List SOper := [
 ⟨some 22, .load (some 3) (.t 1), none⟩,
 ⟨some 23, .call (.k (.d (.func (.func 36) [] []))) [(.k (.d (.int .i64 3)))], none⟩,
 ⟨some 24, .call (.k (.d (.func (.func 35) [] []))) [(.t 22), (.t 23)], none⟩,
 ⟨some 21, .mov (.t 24), none⟩,
 ⟨some 25, .extract 0 (.t 21), none⟩,
 ⟨some 26, .extract 1 (.t 21), none⟩,
 ⟨some 5, .alloc 1 [(.d (.int .i64 0)), (.d (.int .i64 0)), (.d .nilsl)], none⟩,
 ⟨none, .store (some 3) (.t 5) (.t 25), none⟩,
 ⟨some 6, .mov (.t 26), none⟩]
def s7r4 : List SOper := [
 ⟨some 28, .load (some 3) (.t 1), none⟩,
 ⟨some 29, .call (.k (.d (.func (.func 37) [] []))) [(.t 28)], none⟩,
 ⟨some 27, .mov (.t 29), none⟩,
 ⟨some 30, .extract 0 (.t 27), none⟩,
 ⟨some 31, .extract 1 (.t 27), none⟩,
 ⟨some 7, .alloc 1 [(.d (.int .i64 0)), (.d (.int .i64 0)), (.d (.int .i64 0)), (.d (.int .i64 0)), (.d (.int .i64 0)), (.d (.int .i64 0)), (.d (.int .i64 0)), (.d .nilsl), (.d .nilsl)], none⟩,
 ⟨none, .store (some 9) (.t 7) (.t 30), none⟩,
 ⟨some 8, .mov (.t 31), none⟩]
def s7r5 : List SOper := [
 ⟨some 32, .mov (.t 2), none⟩,
 ⟨some 33, .bin .eql (.t 32) (.k (.d (.int .i64 0))), none⟩,
 ⟨some 34, .mov (.t 33), none⟩,
 ⟨some 35, .mov (.t 4), some (34, true)⟩,
 ⟨some 36, .bin .eql (.t 35) (.k (.d (.int .i64 21))), some (34, true)⟩,
 ⟨some 37, .pick (.t 34) (.t 36) (.k (.d (.bool false))), none⟩,
 ⟨some 38, .mov (.t 37), none⟩,
 ⟨some 39, .mov (.t 6), some (38, true)⟩,
 ⟨some 40, .bin .eql (.t 39) (.k (.d (.int .i64 22))), some (38, true)⟩,
 ⟨some 41, .pick (.t 38) (.t 40) (.k (.d (.bool false))), none⟩,
 ⟨some 42, .mov (.t 41), none⟩,
 ⟨some 43, .mov (.t 8), some (42, true)⟩,
 ⟨some 44, .pick (.t 42) (.t 43) (.k (.d (.bool false))), none⟩,
 ⟨some 45, .mov (.t 44), none⟩,
 ⟨some 46, .load (some 9) (.t 7), some (45, true)⟩,
 ⟨some 47, .call (.k (.d (.func (.func 36) [] []))) [(.k (.d (.int .i64 1)))], some (45, true)⟩,
 ⟨some 48, .call (.k (.d (.func (.func 38) [] []))) [(.t 46), (.t 47)], some (45, true)⟩,
 ⟨some 49, .pick (.t 45) (.t 48) (.k (.d (.bool false))), none⟩,
 ⟨some 0, .mov (.t 49), none⟩]
def s7 : SCode := (.seq (.region s7r0 0 []) (.seq (.region s7r1 1 []) (.seq (.region s7r2 1 [(0, 1), (0, 6), (1, 6), (2, 6)]) (.seq (.region s7r3 1 [(0, 1), (0, 6), (1, 6), (2, 6)]) (.seq (.region s7r4 1 []) (.seq (.region s7r5 0 [(14, 15)]) .ret))))))
theorem e7 : qf s7.eq_1 := qg s7.eq_1
theorem zlj : qa s7r0.eq_1 := qc
theorem zlk : qa s7r1.eq_1 := qc
theorem zll : qa s7r2.eq_1 := qc
theorem zlm : qa s7r3.eq_1 := qc
theorem zln : qa s7r4.eq_1 := qc
theorem zlo : qa s7r5.eq_1 := qc
attribute [go_sem] zlj zlk zll zlm zln zlo e7
theorem F7 : FnIs Tryz.prog 7 Tryz.f7 [] news s7 [.tmp 0] 50 := xo follows Tryz.func7
end
def msg (seq : Int) : Pk := ⟨1, 1, 0, 0, 1, seq, seq.tmod 40, [], []⟩
theorem qlf (seq : Int) : (msg seq).Sm := ⟨Nat.zero_le _, Nat.zero_le _⟩
theorem qg6 (seq : Int) : ql Tryz.prog 36 [.d (.int .i64 seq)] [] (.d (.agg (qi (msg seq)))) [] := by
 refine F36.go ?_
 try (refine ev2 @qi.eq_1 @msg.eq_1 ?_; try exact True.intro)
theorem zlp : qaj ⟨0, 0, []⟩ (msg 1) = (⟨1, 0, [msg 1]⟩, 0) := by decide
theorem zbp : qaj ⟨1, 0, [msg 1]⟩ (msg 1) = (xq, 21) := by decide
theorem zlq : qaj ⟨1, 0, [msg 1]⟩ (msg 3) = (xq, 22) := by decide
theorem sm0 : (⟨0, 0, []⟩ : Qu).Sm := ⟨Nat.zero_le _, by simp⟩
theorem sm1 : (⟨1, 0, [msg 1]⟩ : Qu).Sm := ⟨by simp, by simp; exact qlf 1⟩
set_option maxRecDepth 10000 in
theorem qlg : ql Tryz.prog 7 [] [] (.d (.bool true)) [] := by
 have c1 := qjh ⟨0, 0, []⟩ (msg 1) sm0 (qlf 1)
 have c2 := qjh ⟨1, 0, [msg 1]⟩ (msg 1) sm1 (qlf 1)
 have c3 := qjh ⟨1, 0, [msg 1]⟩ (msg 3) sm1 (qlf 3)
 have c4 := qyu ⟨1, 0, [msg 1]⟩ sm1
 have c5 := qvp (msg 1) (msg 1) (qlf 1).v (qlf 1).c
 rw [zlp] at c1
 rw [zbp] at c2
 rw [zlq] at c3
 simp only [decide_true] at c5
 simp only [encQ, xq, List.map_nil] at c1 c2 c3 c4
 refine F7.go ?_
 try (refine ev ?_; try exact True.intro)
 (repeat (with_reducible refine ob ?_)); first | refine cl F36 (qg6 1) ?_ | refine clF F36 (qg6 1) (fun _ => by (refine ev2 @qi.eq_1 @encQ.eq_1 ?_; try exact True.intro)) ?_
 try (refine ev ?_; try exact True.intro)
 (repeat (with_reducible refine ob ?_)); first | refine cl F35 (c1) ?_ | refine clF F35 (c1) (fun _ => by (refine ev2 @qi.eq_1 @encQ.eq_1 ?_; try exact True.intro)) ?_
 (refine ev1 @encQ.eq_1 ?_; try exact True.intro)
 (repeat (with_reducible refine ob ?_)); first | refine cl F36 (qg6 1) ?_ | refine clF F36 (qg6 1) (fun _ => by (refine ev2 @qi.eq_1 @encQ.eq_1 ?_; try exact True.intro)) ?_
 try (refine ev ?_; try exact True.intro)
 (repeat (with_reducible refine ob ?_)); first | refine cl F35 (c2) ?_ | refine clF F35 (c2) (fun _ => by (refine ev2 @qi.eq_1 @encQ.eq_1 ?_; try exact True.intro)) ?_
 (refine ev2 @encQ.eq_1 @xq.eq_1 ?_; try exact True.intro)
 (repeat (with_reducible refine ob ?_)); first | refine cl F36 (qg6 3) ?_ | refine clF F36 (qg6 3) (fun _ => by (refine ev2 @qi.eq_1 @encQ.eq_1 ?_; try exact True.intro)) ?_
 try (refine ev ?_; try exact True.intro)
 (repeat (with_reducible refine ob ?_)); first | refine cl F35 (c3) ?_ | refine clF F35 (c3) (fun _ => by (refine ev2 @qi.eq_1 @encQ.eq_1 ?_; try exact True.intro)) ?_
 (refine ev2 @encQ.eq_1 @xq.eq_1 ?_; try exact True.intro)
 (repeat (with_reducible refine ob ?_)); first | refine cl F37 (c4) ?_ | refine clF F37 (c4) (fun _ => by (refine ev2 @qi.eq_1 @encQ.eq_1 ?_; try exact True.intro)) ?_
 simp only [qi, qpn, go_sem, Nat.reduceAdd, Nat.reduceMul, Nat.reduceSub, Nat.reduceEqDiff, Nat.reduceLT, Nat.reduceLeDiff, Nat.reduceBEq, reduceIte, reduceCtorEq, Int.reduceAdd, Int.reduceLT, Int.reduceLE, Int.reduceGT, Int.reduceGE, Int.reduceEq, Int.reduceNe, Int.reduceBEq, Int.reduceBNe, Int.reduceToNat, Int.reduceNeg]
 (repeat (with_reducible refine ob ?_)); first | refine cl F36 (qg6 1) ?_ | refine clF F36 (qg6 1) (fun _ => by (refine ev2 @qi.eq_1 @encQ.eq_1 ?_; try exact True.intro)) ?_
 try (refine ev ?_; try exact True.intro)
 (repeat (with_reducible refine ob ?_)); first | refine cl F38 (c5) ?_ | refine clF F38 (c5) (fun _ => by (refine ev2 @qi.eq_1 @encQ.eq_1 ?_; try exact True.intro)) ?_
 try (refine ev ?_; try exact True.intro)
end Go.Proofs.YtinnaedmdoengaaGreat
