/- Texts Ca, Wa, Cb, Wb, Wc, Cc, Cd, Ce, Vi, Cf. -/
import Derived.Test.YtinnaedmdoengaaMnk
import Derived.Calls
import Derived.Orders
import Derived.Tactics
import Derived.Laws.AppendOwn
import Derived.Laws.Slices
import Derived.Laws.Closers25
import Derived.Laws.StructEq
import Derived.Laws.BytesString
import Derived.Laws.CopyRow
import Derived.MapKept
import Derived.Maps.RangeRun
import Derived.TacticsIn
import Derived.OrdersIn
import Derived.RangeFuncRecord
import Derived.RangeFuncLeaves
import Derived.IntWalk
import Derived.ProofKit
import Derived.OpenShut
import Derived.Carry
import Derived.Test.YtinnaedmdoengaaProg
import Derived.KernelRfl

namespace Go.Proofs.Ytinnaedmdoengaa
open Go.Abs
set_option linter.unusedSimpArgs false
def news : List (FuncId × Nat) := [(93, 1), (61, 1), (12, 2), (37, 2), (13, 1), (40, 1), (29, 2)]
theorem follows : Try.prog.follows .mixedOrders = true := by kernel_rfl
structure AV where
 kind : Int
 n : Int
 s : List UInt8
 deriving DecidableEq, Inhabited
def zb (v : AV) : List D := [.int .i64 v.kind, .int .i64 v.n, .str v.s]
theorem jy (v : AV) : D.noPtrL (zb v) = true := rfl
def encI (n : Int) : List D := [.int .i64 n]
theorem w4 (n : Int) : D.noPtrL (encI n) = true := rfl
structure Pk where
 kind : Int
 sess : Int
 epoch : Int
 from_ : Int
 to : Int
 seq : Int
 label : Int
 values : List AV
 clock : List Int
 deriving DecidableEq, Inhabited
def qk (p : Pk) : List D := [.int .i64 p.kind, .int .i64 p.sess, .int .i64 p.epoch, .int .i64 p.from_, .int .i64 p.to, .int .i64 p.seq, .int .i64 p.label, .sl 3 (p.values.map zb), .sl 1 (p.clock.map encI)]
theorem qdy (p : Pk) : D.noPtrL (qk p) = true := by
 simp only [qk, D.noPtrL, D.noPtr, xl jy, xl w4, Bool.and_self]
theorem qxt (l : List AV) : D.noPtrR (l.map zb) = true := xl jy l
theorem q3a (l : List Int) : D.noPtrR (l.map encI) = true := xl w4 l
theorem qxu (l : List Pk) : D.noPtrR (l.map qk) = true := xl qdy l
attribute [go_sem] jy w4 qdy qxt q3a qxu
noncomputable section
set_option maxRecDepth 100000
def q44 : List SOper := [
 ⟨some 2, .mov (.k (.d (.bool false))), none⟩]
def q45 : List SOper := [
 ⟨some 3, .mov (.t 0), none⟩,
 ⟨some 4, .bin .geq (.t 3) (.k (.d (.int .i64 0))), none⟩,
 ⟨some 5, .mov (.t 4), none⟩,
 ⟨some 6, .mov (.t 0), some (5, true)⟩,
 ⟨some 7, .bin .lss (.t 6) (.k (.d (.int .i64 6))), some (5, true)⟩,
 ⟨some 8, .pick (.t 5) (.t 7) (.k (.d (.bool false))), none⟩,
 ⟨some 2, .mov (.t 8), none⟩]
def s165 : SCode := (.seq (.region q44 0 []) (.seq (.region q45 0 []) .ret))
theorem zhi : qg s165.eq_1 := qh s165.eq_1
theorem xix : qa q44.eq_1 := qc
theorem xiy : qa q45.eq_1 := qc
attribute [go_sem] xix xiy zhi
theorem xiz : FnIs Try.prog 165 Try.f165 [] news s165 [.tmp 2] 9 := x5 follows Try.func165
def q46 : List SOper := [
 ⟨some 1, .box 1 (.t 0), none⟩,
 ⟨some 2, .mov (.k (.d (.bool false))), none⟩]
def q47 : List SOper := [
 ⟨some 3, .faddr 0 (.t 1), none⟩,
 ⟨some 4, .load none (.t 3), none⟩]
def q48 : List SOper := [
 ⟨some 6, .bin .eql (.t 4) (.k (.d (.int .i64 1))), none⟩,
 ⟨some 5, .mov (.t 6), none⟩]
def q49 : List SOper := [
 ⟨some 7, .faddr 2 (.t 1), none⟩,
 ⟨some 8, .load none (.t 7), none⟩,
 ⟨some 9, .bin .eql (.t 8) (.k (.d (.str []))), none⟩,
 ⟨some 2, .mov (.t 9), none⟩]
def q5a : List SOper := [
 ⟨some 11, .bin .eql (.t 4) (.k (.d (.int .i64 2))), none⟩,
 ⟨some 10, .mov (.t 11), none⟩]
def q5b : List SOper := [
 ⟨some 12, .faddr 1 (.t 1), none⟩,
 ⟨some 13, .load none (.t 12), none⟩,
 ⟨some 14, .bin .eql (.t 13) (.k (.d (.int .i64 0))), none⟩,
 ⟨some 15, .mov (.t 14), none⟩,
 ⟨some 16, .faddr 2 (.t 1), some (15, true)⟩,
 ⟨some 17, .load none (.t 16), some (15, true)⟩,
 ⟨some 18, .lenS (.t 17), some (15, true)⟩,
 ⟨some 19, .bin .leq (.t 18) (.k (.d (.int .i64 40))), some (15, true)⟩,
 ⟨some 20, .pick (.t 15) (.t 19) (.k (.d (.bool false))), none⟩,
 ⟨some 2, .mov (.t 20), none⟩]
def q5c : List SOper := [
 ⟨some 2, .mov (.k (.d (.bool false))), none⟩]
def s161 : SCode := (.seq (.region q46 1 []) (.seq (.seq (.region q47 0 []) (.block 0 (.seq (.region q48 0 []) (.cond (.t 5) (.seq (.region q49 0 []) .ret) (.seq (.region q5a 0 []) (.cond (.t 10) (.seq (.region q5b 0 []) .ret) .skip)))))) (.seq (.region q5c 0 []) .ret)))
theorem zhj : qg s161.eq_1 := qh s161.eq_1
theorem xi0 : qa q46.eq_1 := qc
theorem xi1 : qa q47.eq_1 := qc
theorem xi2 : qa q48.eq_1 := qc
theorem xi3 : qa q49.eq_1 := qc
theorem xi4 : qa q5a.eq_1 := qc
theorem xi5 : qa q5b.eq_1 := qc
theorem xi6 : qa q5c.eq_1 := qc
attribute [go_sem] xi0 xi1 xi2 xi3 xi4 xi5 xi6 zhj
theorem x47 : FnIs Try.prog 161 Try.f161 [] news s161 [.tmp 2] 21 := x5 follows Try.func161
def q5d : List SOper := [
 ⟨some 1, .box 1 (.t 0), none⟩,
 ⟨some 2, .mov (.k (.d (.bool false))), none⟩]
def q5e : List SOper := [
 ⟨some 3, .faddr 3 (.t 1), none⟩,
 ⟨some 4, .load none (.t 3), none⟩,
 ⟨some 5, .call (.k (.d (.func (.func 165) [] []))) [(.t 4)], none⟩,
 ⟨some 6, .mov (.t 5), none⟩,
 ⟨some 7, .faddr 4 (.t 1), some (6, true)⟩,
 ⟨some 8, .load none (.t 7), some (6, true)⟩,
 ⟨some 9, .call (.k (.d (.func (.func 165) [] []))) [(.t 8)], some (6, true)⟩,
 ⟨some 10, .pick (.t 6) (.t 9) (.k (.d (.bool false))), none⟩,
 ⟨some 11, .mov (.t 10), none⟩,
 ⟨some 12, .faddr 3 (.t 1), some (11, true)⟩,
 ⟨some 13, .load none (.t 12), some (11, true)⟩,
 ⟨some 14, .faddr 4 (.t 1), some (11, true)⟩,
 ⟨some 15, .load none (.t 14), some (11, true)⟩,
 ⟨some 16, .bin .neq (.t 13) (.t 15), some (11, true)⟩,
 ⟨some 17, .pick (.t 11) (.t 16) (.k (.d (.bool false))), none⟩,
 ⟨some 18, .mov (.t 17), none⟩,
 ⟨some 19, .faddr 5 (.t 1), some (18, true)⟩,
 ⟨some 20, .load none (.t 19), some (18, true)⟩,
 ⟨some 21, .bin .geq (.t 20) (.k (.d (.int .i64 1))), some (18, true)⟩,
 ⟨some 22, .pick (.t 18) (.t 21) (.k (.d (.bool false))), none⟩,
 ⟨some 23, .mov (.t 22), none⟩,
 ⟨some 24, .faddr 5 (.t 1), some (23, true)⟩,
 ⟨some 25, .load none (.t 24), some (23, true)⟩,
 ⟨some 26, .bin .leq (.t 25) (.k (.d (.int .i64 1099511627776))), some (23, true)⟩,
 ⟨some 27, .pick (.t 23) (.t 26) (.k (.d (.bool false))), none⟩,
 ⟨some 2, .mov (.t 27), none⟩]
def s158 : SCode := (.seq (.region q5d 1 []) (.seq (.region q5e 0 []) .ret))
theorem zhk : qg s158.eq_1 := qh s158.eq_1
theorem xi7 : qa q5d.eq_1 := qc
theorem xi8 : qa q5e.eq_1 := qc
attribute [go_sem] xi7 xi8 zhk
theorem x4g : FnIs Try.prog 158 Try.f158 [] news s158 [.tmp 2] 28 := x5 follows Try.func158
def q5f : List SOper := [
 ⟨some 1, .box 1 (.t 0), none⟩,
 ⟨some 2, .mov (.k (.d (.bool false))), none⟩]
def q5g : List SOper := [
 ⟨some 3, .faddr 2 (.t 1), none⟩,
 ⟨some 4, .load none (.t 3), none⟩,
 ⟨some 5, .bin .eql (.t 4) (.k (.d (.int .i64 0))), none⟩,
 ⟨some 6, .mov (.t 5), none⟩,
 ⟨some 7, .faddr 7 (.t 1), some (6, true)⟩,
 ⟨some 8, .load none (.t 7), some (6, true)⟩,
 ⟨some 9, .len (.t 8), some (6, true)⟩,
 ⟨some 10, .bin .eql (.t 9) (.k (.d (.int .i64 0))), some (6, true)⟩,
 ⟨some 11, .pick (.t 6) (.t 10) (.k (.d (.bool false))), none⟩,
 ⟨some 12, .mov (.t 11), none⟩,
 ⟨some 13, .faddr 8 (.t 1), some (12, true)⟩,
 ⟨some 14, .load none (.t 13), some (12, true)⟩,
 ⟨some 15, .len (.t 14), some (12, true)⟩,
 ⟨some 16, .bin .eql (.t 15) (.k (.d (.int .i64 0))), some (12, true)⟩,
 ⟨some 17, .pick (.t 12) (.t 16) (.k (.d (.bool false))), none⟩,
 ⟨some 2, .mov (.t 17), none⟩]
def s164 : SCode := (.seq (.region q5f 1 []) (.seq (.region q5g 0 []) .ret))
theorem zhl : qg s164.eq_1 := qh s164.eq_1
theorem xi9 : qa q5f.eq_1 := qc
theorem xja : qa q5g.eq_1 := qc
attribute [go_sem] xi9 xja zhl
theorem x4h : FnIs Try.prog 164 Try.f164 [] news s164 [.tmp 2] 18 := x5 follows Try.func164
def q5h : List SOper := [
 ⟨some 1, .box 1 (.t 0), none⟩,
 ⟨some 2, .mov (.k (.d (.bool false))), none⟩]
def q5i : List SOper := [
 ⟨some 3, .load (some 9) (.t 1), none⟩,
 ⟨some 4, .call (.k (.d (.func (.func 158) [] []))) [(.t 3)], none⟩,
 ⟨some 5, .mov (.t 4), none⟩,
 ⟨some 6, .load (some 9) (.t 1), some (5, true)⟩,
 ⟨some 7, .call (.k (.d (.func (.func 164) [] []))) [(.t 6)], some (5, true)⟩,
 ⟨some 8, .pick (.t 5) (.t 7) (.k (.d (.bool false))), none⟩,
 ⟨some 9, .mov (.t 8), none⟩,
 ⟨some 10, .faddr 6 (.t 1), some (9, true)⟩,
 ⟨some 11, .load none (.t 10), some (9, true)⟩,
 ⟨some 12, .bin .eql (.t 11) (.k (.d (.int .i64 0))), some (9, true)⟩,
 ⟨some 13, .pick (.t 9) (.t 12) (.k (.d (.bool false))), none⟩,
 ⟨some 2, .mov (.t 13), none⟩]
def s136 : SCode := (.seq (.region q5h 1 []) (.seq (.region q5i 0 []) .ret))
theorem zhm : qg s136.eq_1 := qh s136.eq_1
theorem xjb : qa q5h.eq_1 := qc
theorem xjc : qa q5i.eq_1 := qc
attribute [go_sem] xjb xjc zhm
theorem x48 : FnIs Try.prog 136 Try.f136 [] news s136 [.tmp 2] 14 := x5 follows Try.func136
def q5j : List SOper := [
 ⟨some 1, .box 1 (.t 0), none⟩,
 ⟨some 2, .mov (.k (.d (.bool false))), none⟩]
def q5k : List SOper := [
 ⟨some 3, .faddr 3 (.t 1), none⟩,
 ⟨some 4, .load none (.t 3), none⟩,
 ⟨some 5, .call (.k (.d (.func (.func 165) [] []))) [(.t 4)], none⟩,
 ⟨some 6, .mov (.t 5), none⟩,
 ⟨some 7, .faddr 6 (.t 1), some (6, true)⟩,
 ⟨some 8, .load none (.t 7), some (6, true)⟩,
 ⟨some 9, .bin .eql (.t 8) (.k (.d (.int .i64 1))), some (6, true)⟩,
 ⟨some 10, .mov (.t 9), some (6, true)⟩,
 ⟨some 11, .faddr 6 (.t 1), some (10, false)⟩,
 ⟨some 12, .load none (.t 11), some (10, false)⟩,
 ⟨some 13, .bin .eql (.t 12) (.k (.d (.int .i64 2))), some (10, false)⟩,
 ⟨some 14, .pick (.t 10) (.k (.d (.bool true))) (.t 13), some (6, true)⟩,
 ⟨some 15, .pick (.t 6) (.t 14) (.k (.d (.bool false))), none⟩,
 ⟨some 16, .mov (.t 15), none⟩,
 ⟨some 17, .load (some 9) (.t 1), some (16, true)⟩,
 ⟨some 18, .call (.k (.d (.func (.func 164) [] []))) [(.t 17)], some (16, true)⟩,
 ⟨some 19, .pick (.t 16) (.t 18) (.k (.d (.bool false))), none⟩,
 ⟨some 20, .mov (.t 19), none⟩,
 ⟨some 21, .faddr 4 (.t 1), some (20, true)⟩,
 ⟨some 22, .load none (.t 21), some (20, true)⟩,
 ⟨some 23, .bin .eql (.t 22) (.k (.d (.int .i64 0))), some (20, true)⟩,
 ⟨some 24, .pick (.t 20) (.t 23) (.k (.d (.bool false))), none⟩,
 ⟨some 25, .mov (.t 24), none⟩,
 ⟨some 26, .faddr 5 (.t 1), some (25, true)⟩,
 ⟨some 27, .load none (.t 26), some (25, true)⟩,
 ⟨some 28, .bin .eql (.t 27) (.k (.d (.int .i64 0))), some (25, true)⟩,
 ⟨some 29, .pick (.t 25) (.t 28) (.k (.d (.bool false))), none⟩,
 ⟨some 2, .mov (.t 29), none⟩]
def s137 : SCode := (.seq (.region q5j 1 []) (.seq (.region q5k 0 []) .ret))
theorem zhn : qg s137.eq_1 := qh s137.eq_1
theorem xjd : qa q5j.eq_1 := qc
theorem xje : qa q5k.eq_1 := qc
attribute [go_sem] xjd xje zhn
theorem x4i : FnIs Try.prog 137 Try.f137 [] news s137 [.tmp 2] 30 := x5 follows Try.func137
def q5l : List SOper := [
 ⟨some 1, .box 1 (.t 0), none⟩,
 ⟨some 2, .mov (.k (.d (.bool false))), none⟩]
def q5m : List SOper := [
 ⟨some 3, .load (some 3) (.t 1), none⟩,
 ⟨some 4, .call (.k (.d (.func (.func 161) [] []))) [(.t 3)], none⟩,
 ⟨some 5, .not (.t 4), none⟩,
 ⟨some 2, .mov (.t 5), none⟩]
def s160 : SCode := (.seq (.region q5l 1 []) (.seq (.region q5m 0 []) .ret))
theorem zho : qg s160.eq_1 := qh s160.eq_1
theorem xjf : qa q5l.eq_1 := qc
theorem xjg : qa q5m.eq_1 := qc
attribute [go_sem] xjf xjg zho
theorem x49 : FnIs Try.prog 160 Try.f160 [] news s160 [.tmp 2] 6 := x5 follows Try.func160
def q5n : List SOper := [
 ⟨some 2, .mov (.k (.d (.bool false))), none⟩]
def q5o : List SOper := [
 ⟨some 3, .mov (.t 0), none⟩,
 ⟨some 4, .bin .lss (.t 3) (.k (.d (.int .i64 0))), none⟩,
 ⟨some 5, .mov (.t 4), none⟩,
 ⟨some 6, .mov (.t 0), some (5, false)⟩,
 ⟨some 7, .bin .gtr (.t 6) (.k (.d (.int .i64 1099511627776))), some (5, false)⟩,
 ⟨some 8, .pick (.t 5) (.k (.d (.bool true))) (.t 7), none⟩,
 ⟨some 2, .mov (.t 8), none⟩]
def s163 : SCode := (.seq (.region q5n 0 []) (.seq (.region q5o 0 []) .ret))
theorem zhp : qg s163.eq_1 := qh s163.eq_1
theorem xjh : qa q5n.eq_1 := qc
theorem xji : qa q5o.eq_1 := qc
attribute [go_sem] xjh xji zhp
theorem x5a : FnIs Try.prog 163 Try.f163 [] news s163 [.tmp 2] 9 := x5 follows Try.func163
end
def role (n : Int) : Bool := decide (n ≥ 0) && decide (n < 6)
theorem qrx (n : Int) : ql Try.prog 165 [.d (.int .i64 n)] [] (.d (.bool (role n))) [] := by
 first | refine xiz.go ?_ | refine xiz.goT ?_
 (refine ev ?_; try exact True.intro)
 rfl
def qac (v : AV) : Bool := if v.kind == 1 then v.s == [] else if v.kind == 2 then v.n == 0 && decide ((v.s.length : Int) ≤ 40) else false
theorem qxv (v : AV) : ql Try.prog 161 [.d (.agg (zb v))] [] (.d (.bool (qac v))) [] := by
 first | refine x47.go ?_ | refine x47.goT ?_
 (refine ev1 @zb.eq_1 ?_; try exact True.intro)
 refine xd _ rfl rfl (fun h => ?_) (fun h => ?_)
 ·(refine ev2 @qac.eq_1 @h ?_; try exact True.intro)
 ·(refine ev ?_; try exact True.intro)
  refine xd _ rfl rfl (fun h2 => ?_) (fun h2 => ?_)
  ·(refine ev3 @qac.eq_1 @h @h2 ?_; try exact True.intro)
  ·(refine ev3 @qac.eq_1 @h @h2 ?_; try exact True.intro)
def qc2 (p : Pk) : Bool := role p.from_ && role p.to && p.from_ != p.to && decide (p.seq ≥ 1) && decide (p.seq ≤ 1099511627776)
theorem qi3 (p : Pk) : ql Try.prog 158 [.d (.agg (qk p))] [] (.d (.bool (qc2 p))) [] := by
 first | refine x4g.go ?_ | refine x4g.goT ?_
 (refine ev1 @qk.eq_1 ?_; try exact True.intro)
 refine xh (qrx _) xiz.body (fun h => h) (fun _ => ⟨qd, trivial⟩) rfl rfl rfl ?_
 (refine ev ?_; try exact True.intro)
 refine xh (qrx _) xiz.body (fun h => h) (fun _ => ⟨qd, trivial⟩) rfl rfl rfl ?_
 (refine ev ?_; try exact True.intro)
 rfl
def bare (p : Pk) : Bool := p.epoch == 0 && (p.values.length : Int) == 0 && (p.clock.length : Int) == 0
theorem qxw (p : Pk) : ql Try.prog 164 [.d (.agg (qk p))] [] (.d (.bool (bare p))) [] := by
 first | refine x4h.go ?_ | refine x4h.goT ?_
 (refine ev1 @qk.eq_1 ?_; try exact True.intro)
 rfl
theorem qaq (p : Pk) : ([ASlot.d (.agg (qk p))].all ASlot.noPtr) = true := by
 simp only [List.all_cons, List.all_nil, ASlot.noPtr, D.noPtr, qdy, Bool.and_self]
def ack (p : Pk) : Bool := qc2 p && bare p && p.label == 0
theorem xjj (p : Pk) : ql Try.prog 136 [.d (.agg (qk p))] [] (.d (.bool (ack p))) [] := by
 first | refine x48.go ?_ | refine x48.goT ?_
 (refine ev1 @qk.eq_1 ?_; try exact True.intro)
 refine xh (qi3 p) x4g.body (fun h => h) (fun _ => ⟨qd, trivial⟩) (qaq p) rfl rfl ?_
 (refine ev ?_; try exact True.intro)
 refine xh (qxw p) x4h.body (fun h => h) (fun _ => ⟨qd, trivial⟩) (qaq p) rfl rfl ?_
 (refine ev ?_; try exact True.intro)
 rfl
def order (p : Pk) : Bool := role p.from_ && (p.label == 1 || p.label == 2) && bare p && p.to == 0 && p.seq == 0
theorem qtd (p : Pk) : ql Try.prog 137 [.d (.agg (qk p))] [] (.d (.bool (order p))) [] := by
 first | refine x4i.go ?_ | refine x4i.goT ?_
 (refine ev1 @qk.eq_1 ?_; try exact True.intro)
 refine xh (qrx _) xiz.body (fun h => h) (fun _ => ⟨qd, trivial⟩) rfl rfl rfl ?_
 (refine ev ?_; try exact True.intro)
 refine ⟨by simp_all, ?_⟩
 refine xh (qxw p) x4h.body (fun h => h) (fun _ => ⟨qd, trivial⟩) (qaq p) rfl rfl ?_
 (refine ev ?_; try exact True.intro)
 rfl
theorem q3b (v : AV) : ql Try.prog 160 [.d (.agg (zb v))] [] (.d (.bool (!qac v))) [] := by
 first | refine x49.go ?_ | refine x49.goT ?_
 (refine ev1 @zb.eq_1 ?_; try exact True.intro)
 refine xh (qxv v) x47.body (fun h => h) (fun _ => ⟨qd, trivial⟩) rfl rfl rfl ?_
 (refine ev ?_; try exact True.intro)
theorem q3c (n : Int) : ql Try.prog 163 [.d (.int .i64 n)] [] (.d (.bool (decide (n < 0) || decide (n > 1099511627776)))) [] := by
 first | refine x5a.go ?_ | refine x5a.goT ?_
 (refine ev ?_; try exact True.intro)
 intro h
 rw [h]; rfl
end Go.Proofs.Ytinnaedmdoengaa
namespace Go.Proofs.Ytinnaedmdoengaa
open Go.Abs
set_option linter.unusedSimpArgs false
theorem vo (s : List UInt8) : D.noPtrR (qe s) = true := xl (fun _ => rfl) s
theorem xi (s t : List UInt8) : qe s ++ qe t = qe (s ++ t) := by simp [qe]
theorem v7 (c : UInt8) : [[D.int .u8 (c.toNat : Int)]] = qe [c] := rfl
theorem x9 (s : List UInt8) : (qe s).length = s.length := by simp [qe]
theorem qx : qe [] = [] := rfl
attribute [go_sem] vo x9
attribute [go_sem] qx
def yn (u : Nat) : List UInt8 := if u < 128 then [UInt8.ofNat u] else UInt8.ofNat (u % 128 + 128) :: yn (u / 128)
def zz (n : Int) : Nat := if 0 ≤ n then (2 * n).toNat else (-2 * n - 1).toNat
def wInt (n : Int) : List UInt8 := yn (zz n)
def I64 (n : Int) : Prop := -9223372036854775808 ≤ n ∧ n ≤ 9223372036854775807
theorem qf5 : ∀ (k u : Nat), u < 128 ^ (k + 1) → (yn u).length ≤ k + 1
 | 0, u, h => by rw [yn, if_pos (by simpa using h)]; simp
 | k + 1, u, h => by
  rw [yn]
  split
  ·simp
  ·have := qf5 k (u / 128) (by rw [Nat.div_lt_iff_lt_mul (by decide)]; rw [Nat.pow_succ] at h; exact h)
   simp; omega
theorem q3d {n : Int} (h : I64 n) : zz n < 18446744073709551616 := by
 obtain ⟨h1, h2⟩ := h
 unfold zz; split <;> omega
theorem x6 {n : Int} (h : I64 n) : (wInt n).length ≤ 10 := qf5 9 _ (Nat.lt_of_lt_of_le (q3d h) (by decide))
theorem q3e (n : Int) : 0 < (wInt n).length := by unfold wInt; rw [yn]; split <;> simp
theorem qi4 (n : Int) : IntKind.u8.wrap n = n % 256 := by simp [IntKind.wrap, IntKind.bits, IntKind.signed]
theorem qdm (a : Nat) (h : a < 2 ^ 64) : ((BitVec.ofInt 64 (a : Int)) ^^^ (BitVec.ofInt 64 18446744073709551615)).toNat = 18446744073709551615 - a := by
 have e1 : BitVec.ofInt 64 18446744073709551615 = BitVec.allOnes 64 := by decide
 have e2 : BitVec.ofInt 64 (a : Int) = BitVec.ofNat 64 a := by simp
 rw [e1, e2, BitVec.xor_allOnes, BitVec.toNat_not, BitVec.toNat_ofNat, Nat.mod_eq_of_lt h]
theorem x5b {n : Int} (h : I64 n) : IntKind.u64.wrap (qnb 64 (IntKind.u64.wrap (IntKind.u64.wrap n * 2 ^ min 1 64)) (IntKind.u64.wrap (n.fdiv (2 ^ min 63 64)))) = (zz n : Int) := by
 unfold qnb
 obtain ⟨h1, h2⟩ := h
 have hf : n.fdiv (2 ^ min 63 64) = if 0 ≤ n then 0 else -1 := by
  show n.fdiv 9223372036854775808 = _
  rw [Int.fdiv_eq_ediv_of_nonneg _ (by decide)]
  split <;> omega
 have hw : ∀ m : Int, IntKind.u64.wrap m = m % 18446744073709551616 := fun m => by simp [IntKind.wrap, IntKind.bits, IntKind.signed]
 have hz := q3d ⟨h1, h2⟩
 have hp : (2 : Int) ^ min 1 64 = 2 := rfl
 rw [hf, hp]
 by_cases hn : 0 ≤ n
 ·rw [if_pos hn]
  have e0 : BitVec.ofInt 64 (IntKind.u64.wrap 0) = 0#64 := by rw [hw]; rfl
  have e1 : IntKind.u64.wrap (IntKind.u64.wrap n * 2) = ((zz n : Nat) : Int) := by rw [hw, hw]; unfold zz; rw [if_pos hn]; omega
  rw [e0, e1, BitVec.xor_zero, BitVec.ofInt_natCast, BitVec.toNat_ofNat, Nat.mod_eq_of_lt hz, hw]
  omega
 ·rw [if_neg hn]
  have e0 : IntKind.u64.wrap (-1) = 18446744073709551615 := by rw [hw]; rfl
  have e1 : IntKind.u64.wrap (IntKind.u64.wrap n * 2) = ((18446744073709551615 - zz n : Nat) : Int) := by rw [hw, hw]; unfold zz at hz ⊢; rw [if_neg hn] at hz ⊢; omega
  rw [e0, e1, qdm _ (by show _ < 18446744073709551616; omega), hw]
  unfold zz at hz ⊢; rw [if_neg hn] at hz ⊢; omega
theorem q3f (u : Nat) : (IntKind.u8.wrap (bvOr 8 (IntKind.u8.wrap (u : Int)) 128)) = ((UInt8.ofNat (u % 128 + 128)).toNat : Int) := by
 unfold bvOr
 have hw : ∀ m : Int, IntKind.u8.wrap m = m % 256 := fun m => by simp [IntKind.wrap, IntKind.bits, IntKind.signed]
 have e1 : BitVec.ofInt 8 (IntKind.u8.wrap (u : Int)) = BitVec.ofNat 8 (u % 256) := by rw [hw, show ((u : Int) % 256) = ((u % 256 : Nat) : Int) by omega, BitVec.ofInt_natCast]
 have key : ∀ x : Fin 256, (BitVec.ofNat 8 x.val ||| BitVec.ofInt 8 128).toNat = x.val % 128 + 128 := by decide +kernel
 have := key ⟨u % 256, Nat.mod_lt _ (by decide)⟩
 simp only at this
 rw [e1, this, hw]
 simp only [UInt8.toNat_ofNat']
 omega
theorem qad {u : Nat} (h : ¬ u < 128) : yn u = UInt8.ofNat (u % 128 + 128) :: yn (u / 128) := by rw [yn, if_neg h]
theorem qae {u : Nat} (h : u < 128) : yn u = [UInt8.ofNat u] := by rw [yn, if_pos h]
theorem zhq (u : Nat) : (u : Int).fdiv (2 ^ min 7 64) = ((u / 128 : Nat) : Int) := by
 show (u : Int).fdiv 128 = _
 rw [Int.fdiv_eq_ediv_of_nonneg _ (by decide)]; omega
theorem qmq (u : Nat) : IntKind.u8.wrap (u : Int) = ((UInt8.ofNat u).toNat : Int) := by
 rw [qi4 _, UInt8.toNat_ofNat']; omega
noncomputable section
set_option maxRecDepth 100000
def xjk : List SOper := [
 ⟨some 4, .mov (.k (.d .nilsl)), none⟩]
def xjl : List SOper := [
 ⟨some 6, .mov (.t 1), none⟩,
 ⟨some 7, .conv .u64 (.t 6), none⟩,
 ⟨some 8, .bin .shl (.t 7) (.k (.d (.int .u64 1))), none⟩,
 ⟨some 9, .mov (.t 1), none⟩,
 ⟨some 10, .bin .shr (.t 9) (.k (.d (.int .u64 63))), none⟩,
 ⟨some 11, .conv .u64 (.t 10), none⟩,
 ⟨some 12, .bin .xor (.t 8) (.t 11), none⟩,
 ⟨some 5, .mov (.t 12), none⟩]
def xjm : List SOper := [
 ⟨some 13, .mov (.t 5), none⟩,
 ⟨some 14, .bin .geq (.t 13) (.k (.d (.int .u64 128))), none⟩]
def xjn : List SOper := [
 ⟨some 15, .mov (.t 0), none⟩,
 ⟨some 16, .mov (.t 5), none⟩,
 ⟨some 17, .conv .u8 (.t 16), none⟩,
 ⟨some 18, .bin .or (.t 17) (.k (.d (.int .u8 128))), none⟩,
 ⟨some 19, .buildSlice false 1 1 [(.int .u8 0)] [(0, 1, (.t 18))], none⟩,
 ⟨some 20, .append false 1 1 (.t 15) (.t 19), none⟩,
 ⟨some 0, .mov (.t 20), none⟩]
def xjo : List SOper := [
 ⟨some 21, .mov (.t 5), none⟩,
 ⟨some 22, .bin .shr (.t 21) (.k (.d (.int .u64 7))), none⟩,
 ⟨some 5, .mov (.t 22), none⟩]
def xfr : SCode := (.seq (.seq (.region xjm 0 []) (.cond (.t 14) .skip (.exit 0))) (.block 1 (.seq (.region xjn 0 []) (.region xjo 0 []))))
theorem x5c : qg xfr.eq_1 := qh xfr.eq_1
def xjp : List SOper := [
 ⟨some 23, .mov (.t 0), none⟩,
 ⟨some 24, .mov (.t 5), none⟩,
 ⟨some 25, .conv .u8 (.t 24), none⟩,
 ⟨some 26, .buildSlice false 1 1 [(.int .u8 0)] [(0, 1, (.t 25))], none⟩,
 ⟨some 27, .append false 1 1 (.t 23) (.t 26), none⟩,
 ⟨some 4, .mov (.t 27), none⟩]
def s71 : SCode := (.seq (.region xjk 0 []) (.seq (.region xjl 0 []) (.seq (.block 0 (.loop xfr)) (.seq (.region xjp 0 []) .ret))))
theorem e71 : qg s71.eq_1 := qh s71.eq_1
theorem x5d : qa xjk.eq_1 := qc
theorem x5e : qa xjl.eq_1 := qc
theorem x5f : qa xjm.eq_1 := qc
theorem x5g : qa xjn.eq_1 := qc
theorem x5h : qa xjo.eq_1 := qc
theorem x5i : qa xjp.eq_1 := qc
attribute [go_sem] x5d x5e x5f x5g x5h x5c x5i e71
theorem F71 : FnIs Try.prog 71 Try.f71 [] news s71 [.tmp 4] 28 := x5 follows Try.func71
def xjq : List SOper := [
 ⟨some 4, .mov (.k (.d .nilsl)), none⟩]
def xjr : List SOper := [
 ⟨some 5, .mov (.t 1), none⟩]
def xjs : List SOper := [
 ⟨some 6, .mov (.t 0), none⟩,
 ⟨some 7, .buildSlice false 1 1 [(.int .u8 0)] [(0, 1, (.k (.d (.int .u8 1))))], none⟩,
 ⟨some 8, .append false 1 1 (.t 6) (.t 7), none⟩,
 ⟨some 4, .mov (.t 8), none⟩]
def xjt : List SOper := [
 ⟨some 9, .mov (.t 0), none⟩,
 ⟨some 10, .buildSlice false 1 1 [(.int .u8 0)] [(0, 1, (.k (.d (.int .u8 0))))], none⟩,
 ⟨some 11, .append false 1 1 (.t 9) (.t 10), none⟩,
 ⟨some 4, .mov (.t 11), none⟩]
def s73 : SCode := (.seq (.region xjq 0 []) (.seq (.seq (.region xjr 0 []) (.cond (.t 5) (.seq (.region xjs 0 []) .ret) .skip)) (.seq (.region xjt 0 []) .ret)))
theorem e73 : qg s73.eq_1 := qh s73.eq_1
theorem x5j : qa xjq.eq_1 := qc
theorem x5k : qa xjr.eq_1 := qc
theorem x5l : qa xjs.eq_1 := qc
theorem x5m : qa xjt.eq_1 := qc
attribute [go_sem] x5j x5k x5l x5m e73
theorem F73 : FnIs Try.prog 73 Try.f73 [] news s73 [.tmp 4] 12 := x5 follows Try.func73
def xju : List SOper := [
 ⟨some 4, .mov (.k (.d .nilsl)), none⟩]
def xjv : List SOper := [
 ⟨some 5, .mov (.t 0), none⟩,
 ⟨some 6, .mov (.t 1), none⟩,
 ⟨some 7, .lenS (.t 6), none⟩,
 ⟨some 8, .call (.k (.d (.func (.func 71) [] []))) [(.t 5), (.t 7)], none⟩,
 ⟨some 9, .mov (.t 1), none⟩,
 ⟨some 10, .append false 1 1 (.t 8) (.t 9), none⟩,
 ⟨some 4, .mov (.t 10), none⟩]
def s74 : SCode := (.seq (.region xju 0 []) (.seq (.region xjv 0 []) .ret))
theorem e74 : qg s74.eq_1 := qh s74.eq_1
theorem x5n : qa xju.eq_1 := qc
theorem x5o : qa xjv.eq_1 := qc
attribute [go_sem] x5n x5o e74
theorem F74 : FnIs Try.prog 74 Try.f74 [] news s74 [.tmp 4] 11 := x5 follows Try.func74
def xjw : List SOper := [
 ⟨some 4, .mov (.k (.d .nilsl)), none⟩]
def xjx : List SOper := [
 ⟨some 5, .mov (.t 0), none⟩,
 ⟨some 6, .mov (.t 1), none⟩,
 ⟨some 7, .len (.t 6), none⟩,
 ⟨some 8, .call (.k (.d (.func (.func 71) [] []))) [(.t 5), (.t 7)], none⟩,
 ⟨some 9, .mov (.t 1), none⟩,
 ⟨some 10, .append false 1 1 (.t 8) (.t 9), none⟩,
 ⟨some 4, .mov (.t 10), none⟩]
def s72 : SCode := (.seq (.region xjw 0 []) (.seq (.region xjx 0 []) .ret))
theorem e72 : qg s72.eq_1 := qh s72.eq_1
theorem x5p : qa xjw.eq_1 := qc
theorem x5q : qa xjx.eq_1 := qc
attribute [go_sem] x5p x5q e72
theorem F72 : FnIs Try.prog 72 Try.f72 [] news s72 [.tmp 4] 11 := x5 follows Try.func72
end
def q3g (b : List UInt8) (n : Int) (i : { i : List UInt8 × Nat // i.1 ++ yn i.2 = b ++ wInt n }) : St :=
 ⟨[(0, true, .own 0 1 (qe i.val.1)), (5, true, .d (.int .u64 (i.val.2 : Nat)))], [], [0], 1⟩
theorem jq (b : List UInt8) (n : Int) (hb : b.length ≤ 1000000000) (hn : I64 n) : ql Try.prog 71 [.own 0 1 (qe b), .d (.int .i64 n)] [] (.own 0 1 (qe (b ++ wInt n))) [] := by
 refine F71.go ?_
 try (refine ev1 (x5b hn) ?_; try exact True.intro)
 refine qy (q3g b n) (fun i => i.val.2) ⟨(b, zz n), rfl⟩ ?_ (fun i => ?_)
 ·try (refine ev1 @q3g.eq_1 ?_; try exact True.intro)
 obtain ⟨⟨p, u⟩, hi⟩ := i
 have hl : p.length ≤ 1000000010 := by
  have := congrArg List.length hi
  have := x6 hn
  simp at *; omega
 try (refine ev1 @q3g.eq_1 ?_; try exact True.intro)
 (repeat (with_reducible refine ob ?_)); refine jj _ (fun h => ?_) (fun h => ?_)
 ·have hu : ¬ u < 128 := by simp at h; omega
  try (refine ev4 @q3f @v7 @xi @zhq ?_; try exact True.intro)
  (repeat (with_reducible refine ob ?_))
  refine ⟨⟨(p ++ [UInt8.ofNat (u % 128 + 128)], u / 128), ?_⟩, ?_, ?_⟩
  ·simp only at hi ⊢; rw [qad hu] at hi; rw [← hi]; simp
  ·try (refine ev1 @q3g.eq_1 ?_; try exact True.intro)
  ·simp only; omega
 ·have hu : u < 128 := by simp at h; omega
  try (refine ev3 @qmq @v7 @xi ?_; try exact True.intro)
  (repeat (with_reducible refine ob ?_))
  simp only [qae hu] at hi
  try (refine ev1 @hi ?_; try exact True.intro)
theorem qry (b : List UInt8) (v : Bool) (hb : b.length ≤ 1000000000) : ql Try.prog 73 [.own 0 1 (qe b), .d (.bool v)] [] (.own 0 1 (qe (b ++ [if v then 1 else 0]))) [] := by
 refine F73.go ?_
 try (refine ev ?_; try exact True.intro)
 have e1 : [[D.int .u8 1]] = qe [1] := rfl
 have e0 : [[D.int .u8 0]] = qe [0] := rfl
 cases v with
 | true =>
  try (refine ev ?_; try exact True.intro)
  (repeat (with_reducible refine ob ?_)); refine qdb ?_
  try simp only [e1, xi, if_true, go_sem, Nat.reduceAdd, Nat.reduceMul, Nat.reduceSub, Nat.reduceEqDiff, Nat.reduceLT, Nat.reduceLeDiff, Nat.reduceBEq, reduceIte, reduceCtorEq, Int.reduceAdd, Int.reduceLT, Int.reduceLE, Int.reduceGT, Int.reduceGE, Int.reduceEq, Int.reduceNe, Int.reduceBEq, Int.reduceBNe, Int.reduceToNat, Int.reduceNeg]
  omega
 | false =>
  try (refine ev ?_; try exact True.intro)
  (repeat (with_reducible refine ob ?_)); refine no_ ?_
  try (refine ev2 @e0 @xi ?_; try exact True.intro)
  omega
def wv (s : List UInt8) : List UInt8 := wInt s.length ++ s
theorem xw {n : Nat} (h : n ≤ 9000000000000000000) : I64 n := by unfold I64; omega
theorem qi5 (b s : List UInt8) (hb : b.length + s.length ≤ 900000000) : ql Try.prog 74 [.own 0 1 (qe b), .d (.str s)] [] (.own 0 1 (qe (b ++ wv s))) [] := by
 refine F74.go ?_
 try (refine ev ?_; try exact True.intro)
 refine clA F71 (jq b s.length (by omega) (xw (by omega))) ?_
 try (refine ev ?_; try exact True.intro)
 have hl := x6 (xw (n := s.length) (by omega))
 have e : qe (b ++ wInt s.length) ++ qe s = qe (b ++ wv s) := by rw [xi, wv, List.append_assoc]
 try (refine ev2 @e @List.length_append.{0} ?_; try exact True.intro)
 refine ⟨by omega, by omega⟩
theorem qoz (b s : List UInt8) (hb : b.length + s.length ≤ 900000000) : ql Try.prog 72 [.own 0 1 (qe b), .d (.sl 1 (qe s))] [] (.own 0 1 (qe (b ++ wv s))) [] := by
 refine F72.go ?_
 try (refine ev ?_; try exact True.intro)
 refine clA F71 (jq b s.length (by omega) (xw (by omega))) ?_
 try (refine ev ?_; try exact True.intro)
 have hl := x6 (xw (n := s.length) (by omega))
 have e : qe (b ++ wInt s.length) ++ qe s = qe (b ++ wv s) := by rw [xi, wv, List.append_assoc]
 try (refine ev2 @e @List.length_append.{0} ?_; try exact True.intro)
 refine ⟨by omega, by omega⟩
end Go.Proofs.Ytinnaedmdoengaa
namespace Go.Proofs.Ytinnaedmdoengaa
open Go.Abs
set_option linter.unusedSimpArgs false
def idx {α : Type} (f : α → Bool) (l : List α) : Int := if l.any f then (l.findIdx f : Int) else -1
theorem qmr {α : Type} {f : α → Bool} {l : List α} {i : Nat} (h : (l.take i).any f = false) (hi : l.length ≤ i) : idx f l = -1 := by
 rw [List.take_of_length_le hi] at h
 simp [idx, h]
theorem qms {α : Type} {f : α → Bool} {l : List α} {i : Nat} (h : (l.take i).any f = false) (hi : i < l.length) (hf : f l[i] = true) : idx f l = (i : Int) := by
 have ha : l.any f = true := List.any_eq_true.2 ⟨l[i], List.getElem_mem hi, hf⟩
 have hx : l.findIdx f = i := by
  rw [List.findIdx_eq hi]
  refine ⟨hf, fun j hj => ?_⟩
  rw [List.any_eq_false] at h
  have hj' : j < (l.take i).length := by simp; omega
  have := h (l.take i)[j] (List.getElem_mem hj')
  simpa using this
 simp [idx, ha, hx]
theorem qbw {α : Type} {f : α → Bool} {l : List α} {i : Nat} (h : (l.take i).any f = false) (hi : i < l.length) (hf : f l[i] = false) : (l.take (i + 1)).any f = false := by
 rw [List.take_succ_eq_append_getElem hi, List.any_append, h]
 simp [hf]
theorem qxx {α : Type} (f : α → Bool) (l : List α) : decide (idx f l ≥ 0) = l.any f := by
 unfold idx
 cases l.any f <;> simp
noncomputable section
set_option maxRecDepth 100000
def q5p : List SOper := [
 ⟨some 4, .mov (.k (.d (.int .i64 0))), none⟩]
def q5q : List SOper := [
 ⟨some 6, .mov (.t 0), none⟩,
 ⟨some 7, .len (.t 6), none⟩,
 ⟨some 8, .mov (.k (.d (.int .i64 0))), none⟩]
def q5r : List SOper := [
 ⟨some 9, .bin .lss (.t 8) (.t 7), none⟩]
def q5s : List SOper := [
 ⟨some 10, .mov (.t 8), none⟩,
 ⟨some 5, .mov (.t 10), none⟩]
def q5t : List SOper := [
 ⟨some 11, .mov (.t 1), none⟩,
 ⟨some 12, .mov (.t 0), none⟩,
 ⟨some 13, .mov (.t 5), none⟩,
 ⟨some 14, .iaddr 3 (.t 12) (.t 13), none⟩,
 ⟨some 15, .load (some 3) (.t 14), none⟩,
 ⟨some 16, .call (.t 11) [(.t 15)], none⟩]
def q5u : List SOper := [
 ⟨some 17, .mov (.t 5), none⟩,
 ⟨some 4, .mov (.t 17), none⟩]
def q5v : List SOper := [
 ⟨some 18, .bin .add (.t 8) (.k (.d (.int .i64 1))), none⟩,
 ⟨some 8, .mov (.t 18), none⟩]
def qxy : SCode := (.seq (.region q5r 0 []) (.seq (.cond (.t 9) .skip (.exit 0)) (.seq (.block 1 (.seq (.region q5s 0 []) (.seq (.region q5t 0 []) (.cond (.t 16) (.seq (.region q5u 0 []) .ret) .skip)))) (.region q5v 0 []))))
theorem xjy : qg qxy.eq_1 := qh qxy.eq_1
def q5w : List SOper := [
 ⟨some 4, .mov (.k (.d (.int .i64 (-1)))), none⟩]
def s169 : SCode := (.seq (.region q5p 0 []) (.seq (.seq (.region q5q 0 []) (.block 0 (.loop qxy))) (.seq (.region q5w 0 []) .ret)))
theorem zhr : qg s169.eq_1 := qh s169.eq_1
theorem xjz : qa q5p.eq_1 := qc
theorem xj0 : qa q5q.eq_1 := qc
theorem xj1 : qa q5r.eq_1 := qc
theorem xj2 : qa q5s.eq_1 := qc
theorem xj3 : qa q5t.eq_1 := qc
theorem xj4 : qa q5u.eq_1 := qc
theorem xj5 : qa q5v.eq_1 := qc
theorem xj6 : qa q5w.eq_1 := qc
attribute [go_sem] xjz xj0 xj1 xj2 xj3 xj4 xj5 xjy xj6 zhr
theorem x5r : FnIs Try.prog 169 Try.f169 [] news s169 [.tmp 4] 19 := x5 follows Try.func169
def q5x : List SOper := [
 ⟨some 4, .mov (.k (.d (.int .i64 0))), none⟩]
def q5y : List SOper := [
 ⟨some 6, .mov (.t 0), none⟩,
 ⟨some 7, .len (.t 6), none⟩,
 ⟨some 8, .mov (.k (.d (.int .i64 0))), none⟩]
def q5z : List SOper := [
 ⟨some 9, .bin .lss (.t 8) (.t 7), none⟩]
def q50 : List SOper := [
 ⟨some 10, .mov (.t 8), none⟩,
 ⟨some 5, .mov (.t 10), none⟩]
def q51 : List SOper := [
 ⟨some 11, .mov (.t 1), none⟩,
 ⟨some 12, .mov (.t 0), none⟩,
 ⟨some 13, .mov (.t 5), none⟩,
 ⟨some 14, .iaddr 1 (.t 12) (.t 13), none⟩,
 ⟨some 15, .load none (.t 14), none⟩,
 ⟨some 16, .call (.t 11) [(.t 15)], none⟩]
def q52 : List SOper := [
 ⟨some 17, .mov (.t 5), none⟩,
 ⟨some 4, .mov (.t 17), none⟩]
def q53 : List SOper := [
 ⟨some 18, .bin .add (.t 8) (.k (.d (.int .i64 1))), none⟩,
 ⟨some 8, .mov (.t 18), none⟩]
def qxz : SCode := (.seq (.region q5z 0 []) (.seq (.cond (.t 9) .skip (.exit 0)) (.seq (.block 1 (.seq (.region q50 0 []) (.seq (.region q51 0 []) (.cond (.t 16) (.seq (.region q52 0 []) .ret) .skip)))) (.region q53 0 []))))
theorem xj7 : qg qxz.eq_1 := qh qxz.eq_1
def q54 : List SOper := [
 ⟨some 4, .mov (.k (.d (.int .i64 (-1)))), none⟩]
def s170 : SCode := (.seq (.region q5x 0 []) (.seq (.seq (.region q5y 0 []) (.block 0 (.loop qxz))) (.seq (.region q54 0 []) .ret)))
theorem zhs : qg s170.eq_1 := qh s170.eq_1
theorem xj8 : qa q5x.eq_1 := qc
theorem xj9 : qa q5y.eq_1 := qc
theorem xka : qa q5z.eq_1 := qc
theorem xkb : qa q50.eq_1 := qc
theorem xkc : qa q51.eq_1 := qc
theorem xkd : qa q52.eq_1 := qc
theorem xke : qa q53.eq_1 := qc
theorem xkf : qa q54.eq_1 := qc
attribute [go_sem] xj8 xj9 xka xkb xkc xkd xke xj7 xkf zhs
theorem x5s : FnIs Try.prog 170 Try.f170 [] news s170 [.tmp 4] 19 := x5 follows Try.func170
def q55 : List SOper := [
 ⟨some 4, .mov (.k (.d (.bool false))), none⟩]
def q56 : List SOper := [
 ⟨some 5, .mov (.t 0), none⟩,
 ⟨some 6, .mov (.t 1), none⟩,
 ⟨some 7, .call (.k (.d (.func (.func 169) [] []))) [(.t 5), (.t 6)], none⟩,
 ⟨some 8, .bin .geq (.t 7) (.k (.d (.int .i64 0))), none⟩,
 ⟨some 4, .mov (.t 8), none⟩]
def s159 : SCode := (.seq (.region q55 0 []) (.seq (.region q56 0 []) .ret))
theorem zht : qg s159.eq_1 := qh s159.eq_1
theorem xkg : qa q55.eq_1 := qc
theorem xkh : qa q56.eq_1 := qc
attribute [go_sem] xkg xkh zht
theorem x5t : FnIs Try.prog 159 Try.f159 [] news s159 [.tmp 4] 9 := x5 follows Try.func159
def q57 : List SOper := [
 ⟨some 4, .mov (.k (.d (.bool false))), none⟩]
def q58 : List SOper := [
 ⟨some 5, .mov (.t 0), none⟩,
 ⟨some 6, .mov (.t 1), none⟩,
 ⟨some 7, .call (.k (.d (.func (.func 170) [] []))) [(.t 5), (.t 6)], none⟩,
 ⟨some 8, .bin .geq (.t 7) (.k (.d (.int .i64 0))), none⟩,
 ⟨some 4, .mov (.t 8), none⟩]
def s162 : SCode := (.seq (.region q57 0 []) (.seq (.region q58 0 []) .ret))
theorem zhu : qg s162.eq_1 := qh s162.eq_1
theorem xki : qa q57.eq_1 := qc
theorem xkj : qa q58.eq_1 := qc
attribute [go_sem] xki xkj zhu
theorem x5u : FnIs Try.prog 162 Try.f162 [] news s162 [.tmp 4] 9 := x5 follows Try.func162
end
def Sidx {α : Type} (es : Nat) (enc : α → List D) (k : FuncId) (l : List α) (f : α → Bool) (i : { i : Nat // (l.take i).any f = false }) : St :=
 ⟨[(0, true, .d (.sl es (l.map enc))), (1, true, .d (.func (.func k) [] [])), (6, true, .d (.sl es (l.map enc))), (7, true, .d (.int .i64 l.length)), (8, true, .d (.int .i64 (i.val : Nat)))], [], [], 1⟩
theorem qx0 {k : FuncId} {f : AV → Bool} (hb : (Try.prog.funcs[k]?).any (fun fn => fn.body.isSome && !(fn.name == "runtime.NumGoroutine")) = true)
  (hf : ∀ v, ql Try.prog k [.d (.agg (zb v))] [] (.d (.bool (f v))) []) (l : List AV) (hl : l.length ≤ maxLen) :
  ql Try.prog 169 [.d (.sl 3 (l.map zb)), .d (.func (.func k) [] [])] [] (.d (.int .i64 (idx f l))) [] := by
 first | refine x5r.go ?_ | refine x5r.goT ?_
 (refine ev ?_; try exact True.intro)
 refine qy (Sidx 3 zb k l f) (fun i => l.length - i.val) ⟨0, rfl⟩ ?_ (fun i => ?_)
 ·(refine ev2 @Sidx.eq_1 (xl jy) ?_; try exact True.intro)
 ·obtain ⟨i, hi⟩ := i
  (refine ev1 @Sidx.eq_1 ?_; try exact True.intro)
  refine xd _ rfl rfl (fun h => ?_) (fun h => ?_)
  ·have hil : i < l.length := by simpa using h
   (refine ev2 (xg zb l hil) @zb.eq_1 ?_; try exact True.intro)
   refine ⟨by omega, ?_⟩
   refine xh (hf l[i]) hb (fun h => h) (fun _ => ⟨qd, trivial⟩) rfl rfl rfl ?_
   (refine ev ?_; try exact True.intro)
   refine xd _ rfl rfl (fun h2 => ?_) (fun h2 => ?_)
   ·(refine ev1 (qms hi hil h2) ?_; try exact True.intro)
   ·(refine ev ?_; try exact True.intro)
    refine ⟨⟨i + 1, qbw hi hil h2⟩, ?_, by dsimp only; omega⟩
    (refine ev3 @Sidx.eq_1 (qv (show i < 9223372036854775807 by unfold maxLen at hl; omega)) (xl jy) ?_; try exact True.intro)
  ·have hil : l.length ≤ i := by simpa using h
   (refine ev1 (qmr hi hil) ?_; try exact True.intro)
theorem qx1 {k : FuncId} {f : Int → Bool} (hb : (Try.prog.funcs[k]?).any (fun fn => fn.body.isSome && !(fn.name == "runtime.NumGoroutine")) = true)
  (hf : ∀ v, ql Try.prog k [.d (.int .i64 v)] [] (.d (.bool (f v))) []) (l : List Int) (hl : l.length ≤ maxLen) :
  ql Try.prog 170 [.d (.sl 1 (l.map encI)), .d (.func (.func k) [] [])] [] (.d (.int .i64 (idx f l))) [] := by
 first | refine x5s.go ?_ | refine x5s.goT ?_
 (refine ev ?_; try exact True.intro)
 refine qy (Sidx 1 encI k l f) (fun i => l.length - i.val) ⟨0, rfl⟩ ?_ (fun i => ?_)
 ·(refine ev2 @Sidx.eq_1 (xl w4) ?_; try exact True.intro)
 ·obtain ⟨i, hi⟩ := i
  (refine ev1 @Sidx.eq_1 ?_; try exact True.intro)
  refine xd _ rfl rfl (fun h => ?_) (fun h => ?_)
  ·have hil : i < l.length := by simpa using h
   (refine ev2 (xg encI l hil) @encI.eq_1 ?_; try exact True.intro)
   refine ⟨by omega, ?_⟩
   refine xh (hf l[i]) hb (fun h => h) (fun _ => ⟨qd, trivial⟩) rfl rfl rfl ?_
   (refine ev ?_; try exact True.intro)
   refine xd _ rfl rfl (fun h2 => ?_) (fun h2 => ?_)
   ·(refine ev1 (qms hi hil h2) ?_; try exact True.intro)
   ·(refine ev ?_; try exact True.intro)
    refine ⟨⟨i + 1, qbw hi hil h2⟩, ?_, by dsimp only; omega⟩
    (refine ev3 @Sidx.eq_1 (qv (show i < 9223372036854775807 by unfold maxLen at hl; omega)) (xl w4) ?_; try exact True.intro)
  ·have hil : l.length ≤ i := by simpa using h
   (refine ev1 (qmr hi hil) ?_; try exact True.intro)
theorem qo0 {k : FuncId} {f : AV → Bool} (hb : (Try.prog.funcs[k]?).any (fun fn => fn.body.isSome && !(fn.name == "runtime.NumGoroutine")) = true)
  (hf : ∀ v, ql Try.prog k [.d (.agg (zb v))] [] (.d (.bool (f v))) []) (l : List AV) (hl : l.length ≤ maxLen) :
  ql Try.prog 159 [.d (.sl 3 (l.map zb)), .d (.func (.func k) [] [])] [] (.d (.bool (l.any f))) [] := by
 first | refine x5t.go ?_ | refine x5t.goT ?_
 (refine ev ?_; try exact True.intro)
 refine xh (qx0 hb hf l hl) x5r.body (fun h => h) (fun _ => ⟨qd, qd, trivial⟩) (by simp [ASlot.noPtr, D.noPtr, D.noPtrL, xl jy]) rfl rfl ?_
 (refine ev1 @qxx ?_; try exact True.intro)
theorem qo1 {k : FuncId} {f : Int → Bool} (hb : (Try.prog.funcs[k]?).any (fun fn => fn.body.isSome && !(fn.name == "runtime.NumGoroutine")) = true)
  (hf : ∀ v, ql Try.prog k [.d (.int .i64 v)] [] (.d (.bool (f v))) []) (l : List Int) (hl : l.length ≤ maxLen) :
  ql Try.prog 162 [.d (.sl 1 (l.map encI)), .d (.func (.func k) [] [])] [] (.d (.bool (l.any f))) [] := by
 first | refine x5u.go ?_ | refine x5u.goT ?_
 (refine ev ?_; try exact True.intro)
 refine xh (qx1 hb hf l hl) x5s.body (fun h => h) (fun _ => ⟨qd, qd, trivial⟩) (by simp [ASlot.noPtr, D.noPtr, D.noPtrL, xl w4]) rfl rfl ?_
 (refine ev1 @qxx ?_; try exact True.intro)
noncomputable section
set_option maxRecDepth 100000
def q59 : List SOper := [
 ⟨some 1, .box 1 (.t 0), none⟩,
 ⟨some 2, .mov (.k (.d (.bool false))), none⟩]
def q6a : List SOper := [
 ⟨some 3, .load (some 9) (.t 1), none⟩,
 ⟨some 4, .call (.k (.d (.func (.func 158) [] []))) [(.t 3)], none⟩,
 ⟨some 5, .mov (.t 4), none⟩,
 ⟨some 6, .faddr 2 (.t 1), some (5, true)⟩,
 ⟨some 7, .load none (.t 6), some (5, true)⟩,
 ⟨some 8, .bin .eql (.t 7) (.k (.d (.int .i64 0))), some (5, true)⟩,
 ⟨some 9, .mov (.t 8), some (5, true)⟩,
 ⟨some 10, .faddr 2 (.t 1), some (9, false)⟩,
 ⟨some 11, .load none (.t 10), some (9, false)⟩,
 ⟨some 12, .bin .eql (.t 11) (.k (.d (.int .i64 1))), some (9, false)⟩,
 ⟨some 13, .pick (.t 9) (.k (.d (.bool true))) (.t 12), some (5, true)⟩,
 ⟨some 14, .pick (.t 5) (.t 13) (.k (.d (.bool false))), none⟩,
 ⟨some 15, .mov (.t 14), none⟩,
 ⟨some 16, .faddr 6 (.t 1), some (15, true)⟩,
 ⟨some 17, .load none (.t 16), some (15, true)⟩,
 ⟨some 18, .bin .geq (.t 17) (.k (.d (.int .i64 0))), some (15, true)⟩,
 ⟨some 19, .pick (.t 15) (.t 18) (.k (.d (.bool false))), none⟩,
 ⟨some 20, .mov (.t 19), none⟩,
 ⟨some 21, .faddr 6 (.t 1), some (20, true)⟩,
 ⟨some 22, .load none (.t 21), some (20, true)⟩,
 ⟨some 23, .bin .lss (.t 22) (.k (.d (.int .i64 40))), some (20, true)⟩,
 ⟨some 24, .pick (.t 20) (.t 23) (.k (.d (.bool false))), none⟩,
 ⟨some 25, .mov (.t 24), none⟩,
 ⟨some 26, .faddr 7 (.t 1), some (25, true)⟩,
 ⟨some 27, .load none (.t 26), some (25, true)⟩,
 ⟨some 28, .len (.t 27), some (25, true)⟩,
 ⟨some 29, .bin .leq (.t 28) (.k (.d (.int .i64 4))), some (25, true)⟩,
 ⟨some 30, .pick (.t 25) (.t 29) (.k (.d (.bool false))), none⟩,
 ⟨some 31, .mov (.t 30), none⟩,
 ⟨some 32, .faddr 8 (.t 1), some (31, true)⟩,
 ⟨some 33, .load none (.t 32), some (31, true)⟩,
 ⟨some 34, .len (.t 33), some (31, true)⟩,
 ⟨some 35, .bin .leq (.t 34) (.k (.d (.int .i64 6))), some (31, true)⟩,
 ⟨some 36, .pick (.t 31) (.t 35) (.k (.d (.bool false))), none⟩,
 ⟨some 37, .mov (.t 36), none⟩,
 ⟨some 38, .faddr 7 (.t 1), some (37, true)⟩,
 ⟨some 39, .load none (.t 38), some (37, true)⟩,
 ⟨some 40, .call (.k (.d (.func (.func 159) [] []))) [(.t 39), (.k (.d (.func (.func 160) [] [])))], some (37, true)⟩,
 ⟨some 41, .not (.t 40), some (37, true)⟩,
 ⟨some 42, .pick (.t 37) (.t 41) (.k (.d (.bool false))), none⟩,
 ⟨some 43, .mov (.t 42), none⟩,
 ⟨some 44, .faddr 8 (.t 1), some (43, true)⟩,
 ⟨some 45, .load none (.t 44), some (43, true)⟩,
 ⟨some 46, .call (.k (.d (.func (.func 162) [] []))) [(.t 45), (.k (.d (.func (.func 163) [] [])))], some (43, true)⟩,
 ⟨some 47, .not (.t 46), some (43, true)⟩,
 ⟨some 48, .pick (.t 43) (.t 47) (.k (.d (.bool false))), none⟩,
 ⟨some 2, .mov (.t 48), none⟩]
def s135 : SCode := (.seq (.region q59 1 []) (.seq (.region q6a 0 []) .ret))
theorem zhv : qg s135.eq_1 := qh s135.eq_1
theorem xkk : qa q59.eq_1 := qc
theorem xkl : qa q6a.eq_1 := qc
attribute [go_sem] xkk xkl zhv
theorem x5v : FnIs Try.prog 135 Try.f135 [] news s135 [.tmp 2] 49 := x5 follows Try.func135
def q6b : List SOper := [
 ⟨some 1, .box 1 (.t 0), none⟩,
 ⟨some 2, .mov (.k (.d (.bool false))), none⟩]
def q6c : List SOper := [
 ⟨some 4, .build [.nilfunc] [(0, 1, (.k (.d (.func (.func 135) [] []))))], none⟩,
 ⟨some 5, .build [.nilfunc] [(0, 1, (.k (.d (.func (.func 136) [] []))))], none⟩,
 ⟨some 6, .build [.nilfunc] [(0, 1, (.k (.d (.func (.func 137) [] []))))], none⟩,
 ⟨some 7, .build [.nilfunc] [(0, 1, (.k (.d (.func (.func 137) [] []))))], none⟩,
 ⟨some 8, .buildSlice false 1 5 [.nilfunc] [(1, 1, (.t 4)), (2, 1, (.t 5)), (3, 1, (.t 6)), (4, 1, (.t 7))], none⟩,
 ⟨some 3, .mov (.t 8), none⟩]
def q6d : List SOper := [
 ⟨some 9, .faddr 0 (.t 1), none⟩,
 ⟨some 10, .load none (.t 9), none⟩,
 ⟨some 11, .bin .geq (.t 10) (.k (.d (.int .i64 1))), none⟩,
 ⟨some 12, .mov (.t 11), none⟩,
 ⟨some 13, .faddr 0 (.t 1), some (12, true)⟩,
 ⟨some 14, .load none (.t 13), some (12, true)⟩,
 ⟨some 15, .bin .leq (.t 14) (.k (.d (.int .i64 4))), some (12, true)⟩,
 ⟨some 16, .pick (.t 12) (.t 15) (.k (.d (.bool false))), none⟩,
 ⟨some 17, .mov (.t 16), none⟩,
 ⟨some 18, .faddr 1 (.t 1), some (17, true)⟩,
 ⟨some 19, .load none (.t 18), some (17, true)⟩,
 ⟨some 20, .bin .geq (.t 19) (.k (.d (.int .i64 1))), some (17, true)⟩,
 ⟨some 21, .pick (.t 17) (.t 20) (.k (.d (.bool false))), none⟩,
 ⟨some 22, .mov (.t 21), none⟩,
 ⟨some 23, .faddr 1 (.t 1), some (22, true)⟩,
 ⟨some 24, .load none (.t 23), some (22, true)⟩,
 ⟨some 25, .bin .leq (.t 24) (.k (.d (.int .i64 32))), some (22, true)⟩,
 ⟨some 26, .pick (.t 22) (.t 25) (.k (.d (.bool false))), none⟩,
 ⟨some 27, .mov (.t 26), none⟩,
 ⟨some 28, .mov (.t 3), some (27, true)⟩,
 ⟨some 29, .faddr 0 (.t 1), some (27, true)⟩,
 ⟨some 30, .load none (.t 29), some (27, true)⟩,
 ⟨some 31, .iaddr 1 (.t 28) (.t 30), some (27, true)⟩,
 ⟨some 32, .faddr 0 (.t 31), some (27, true)⟩,
 ⟨some 33, .load none (.t 32), some (27, true)⟩,
 ⟨some 34, .load (some 9) (.t 1), some (27, true)⟩,
 ⟨some 35, .call (.t 33) [(.t 34)], some (27, true)⟩,
 ⟨some 36, .pick (.t 27) (.t 35) (.k (.d (.bool false))), none⟩,
 ⟨some 2, .mov (.t 36), none⟩]
def s101 : SCode := (.seq (.region q6b 1 []) (.seq (.region q6c 0 []) (.seq (.region q6d 0 []) .ret)))
theorem zhw : qg s101.eq_1 := qh s101.eq_1
theorem xkm : qa q6b.eq_1 := qc
theorem xkn : qa q6c.eq_1 := qc
theorem xko : qa q6d.eq_1 := qc
attribute [go_sem] xkm xkn xko zhw
theorem q6e : FnIs Try.prog 101 Try.f101 [] news s101 [.tmp 2] 37 := x5 follows Try.func101
end
def data (p : Pk) : Bool := qc2 p && (p.epoch == 0 || p.epoch == 1) && decide (p.label ≥ 0) && decide (p.label < 40) && decide ((p.values.length : Int) ≤ 4) && decide ((p.clock.length : Int) ≤ 6) && !(p.values.any fun v => !qac v) && !(p.clock.any fun n => decide (n < 0) || decide (n > 1099511627776))
theorem xfs (p : Pk) (h1 : p.values.length ≤ maxLen) (h2 : p.clock.length ≤ maxLen) : ql Try.prog 135 [.d (.agg (qk p))] [] (.d (.bool (data p))) [] := by
 first | refine x5v.go ?_ | refine x5v.goT ?_
 (refine ev1 @qk.eq_1 ?_; try exact True.intro)
 refine xh (qi3 p) x4g.body (fun h => h) (fun _ => ⟨qd, trivial⟩) (qaq p) rfl rfl ?_
 (refine ev ?_; try exact True.intro)
 refine ⟨by simp_all, ?_⟩
 refine xh (qo0 x49.body q3b p.values h1) x5t.body (fun h => h) (fun _ => ⟨qd, qd, trivial⟩) (by simp [ASlot.noPtr, D.noPtr, D.noPtrL, xl jy]) rfl rfl ?_
 (refine ev ?_; try exact True.intro)
 refine xh (qo1 x5a.body q3c p.clock h2) x5u.body (fun h => h) (fun _ => ⟨qd, qd, trivial⟩) (by simp [ASlot.noPtr, D.noPtr, D.noPtrL, xl w4]) rfl rfl ?_
 (refine ev ?_; try exact True.intro)
 rfl
def qk7 (p : Pk) : Bool := decide (p.kind ≥ 1) && decide (p.kind ≤ 4) && decide (p.sess ≥ 1) && decide (p.sess ≤ 32)
def qz (p : Pk) : Bool := qk7 p && (if p.kind = 1 then data p else if p.kind = 2 then ack p else order p)
theorem vq (p : Pk) (h1 : p.values.length ≤ maxLen) (h2 : p.clock.length ≤ maxLen) : ql Try.prog 101 [.d (.agg (qk p))] [] (.d (.bool (qz p))) [] := by
 first | refine q6e.go ?_ | refine q6e.goT ?_
 (refine ev1 @qk.eq_1 ?_; try exact True.intro)
 have hk : (decide (p.kind ≥ 1) && decide (p.kind ≤ 4) && decide (p.sess ≥ 1) && decide (p.sess ≤ 32)) = qk7 p := rfl
 simp only [hk]
 cases hG : qk7 p with
 | false =>
  (refine ev ?_; try exact True.intro)
  refine qev (.bool false) rfl ?_
  (refine ev2 @qz.eq_1 @hG ?_; try exact True.intro)
 | true =>
  have h4 : p.kind = 1 ∨ p.kind = 2 ∨ p.kind = 3 ∨ p.kind = 4 := by simp [qk7] at hG; omega
  rcases h4 with hp | hp | hp | hp <;> simp only [hp, Int.reduceToNat, Int.reduceLE, Int.reduceLT, go_sem, Nat.reduceAdd, Nat.reduceMul, Nat.reduceSub, Nat.reduceEqDiff, Nat.reduceLT, Nat.reduceLeDiff, Nat.reduceBEq, reduceIte, reduceCtorEq, Int.reduceAdd, Int.reduceLT, Int.reduceLE, Int.reduceGT, Int.reduceGE, Int.reduceEq, Int.reduceNe, Int.reduceBEq, Int.reduceBNe, Int.reduceToNat, Int.reduceNeg]
  ·refine xh (xfs p h1 h2) x5v.body (fun h => h) (fun _ => ⟨by simp [wn, ASlot.eqvD, D.eqv_refl, qk, hp], trivial⟩) (qaq p) rfl rfl ?_
   (refine ev3 @qz.eq_1 @hG @hp ?_; try exact True.intro)
  ·refine xh (xjj p) x48.body (fun h => h) (fun _ => ⟨by simp [wn, ASlot.eqvD, D.eqv_refl, qk, hp], trivial⟩) (qaq p) rfl rfl ?_
   (refine ev3 @qz.eq_1 @hG @hp ?_; try exact True.intro)
  ·refine xh (qtd p) x4i.body (fun h => h) (fun _ => ⟨by simp [wn, ASlot.eqvD, D.eqv_refl, qk, hp], trivial⟩) (qaq p) rfl rfl ?_
   (refine ev3 @qz.eq_1 @hG @hp ?_; try exact True.intro)
  ·refine xh (qtd p) x4i.body (fun h => h) (fun _ => ⟨by simp [wn, ASlot.eqvD, D.eqv_refl, qk, hp], trivial⟩) (qaq p) rfl rfl ?_
   (refine ev3 @qz.eq_1 @hG @hp ?_; try exact True.intro)
end Go.Proofs.Ytinnaedmdoengaa
namespace Go.Proofs.Ytinnaedmdoengaa
open Go.Abs
set_option linter.unusedSimpArgs false
structure OpS where
 key : List UInt8
 del : Bool
 val : List UInt8
 deriving DecidableEq, Inhabited
def qs (o : OpS) : List D := [.str o.key, .bool o.del, .sl 1 (qe o.val)]
theorem qi6 (o : OpS) : D.noPtrL (qs o) = true := by simp only [qs, D.noPtrL, D.noPtr, vo, Bool.and_self]
theorem qo2 (l : List OpS) : D.noPtrR (l.map qs) = true := xl qi6 l
attribute [go_sem] qi6 qo2
noncomputable section
set_option maxRecDepth 100000
def xkp : List SOper := [
 ⟨some 1, .box 1 (.t 0), none⟩,
 ⟨some 2, .mov (.k (.d (.bool false))), none⟩]
def xkq : List SOper := [
 ⟨some 3, .faddr 0 (.t 1), none⟩,
 ⟨some 4, .load none (.t 3), none⟩,
 ⟨some 5, .lenS (.t 4), none⟩,
 ⟨some 6, .bin .geq (.t 5) (.k (.d (.int .i64 1))), none⟩,
 ⟨some 7, .mov (.t 6), none⟩,
 ⟨some 8, .faddr 0 (.t 1), some (7, true)⟩,
 ⟨some 9, .load none (.t 8), some (7, true)⟩,
 ⟨some 10, .lenS (.t 9), some (7, true)⟩,
 ⟨some 11, .bin .leq (.t 10) (.k (.d (.int .i64 40))), some (7, true)⟩,
 ⟨some 12, .pick (.t 7) (.t 11) (.k (.d (.bool false))), none⟩,
 ⟨some 13, .mov (.t 12), none⟩,
 ⟨some 14, .faddr 2 (.t 1), some (13, true)⟩,
 ⟨some 15, .load none (.t 14), some (13, true)⟩,
 ⟨some 16, .len (.t 15), some (13, true)⟩,
 ⟨some 17, .bin .leq (.t 16) (.k (.d (.int .i64 900))), some (13, true)⟩,
 ⟨some 18, .pick (.t 13) (.t 17) (.k (.d (.bool false))), none⟩,
 ⟨some 19, .mov (.t 18), none⟩,
 ⟨some 20, .faddr 1 (.t 1), some (19, true)⟩,
 ⟨some 21, .load none (.t 20), some (19, true)⟩,
 ⟨some 22, .mov (.t 21), some (19, true)⟩,
 ⟨some 23, .faddr 2 (.t 1), some (22, true)⟩,
 ⟨some 24, .load none (.t 23), some (22, true)⟩,
 ⟨some 25, .len (.t 24), some (22, true)⟩,
 ⟨some 26, .bin .gtr (.t 25) (.k (.d (.int .i64 0))), some (22, true)⟩,
 ⟨some 27, .pick (.t 22) (.t 26) (.k (.d (.bool false))), some (19, true)⟩,
 ⟨some 28, .not (.t 27), some (19, true)⟩,
 ⟨some 29, .pick (.t 19) (.t 28) (.k (.d (.bool false))), none⟩,
 ⟨some 2, .mov (.t 29), none⟩]
def s70 : SCode := (.seq (.region xkp 1 []) (.seq (.region xkq 0 []) .ret))
theorem e70 : qg s70.eq_1 := qh s70.eq_1
theorem x5w : qa xkp.eq_1 := qc
theorem x5x : qa xkq.eq_1 := qc
attribute [go_sem] x5w x5x e70
theorem F70 : FnIs Try.prog 70 Try.f70 [] news s70 [.tmp 2] 30 := x5 follows Try.func70
def xkr : List SOper := [
 ⟨some 1, .box 1 (.t 0), none⟩,
 ⟨some 2, .mov (.k (.d (.bool false))), none⟩]
def xks : List SOper := [
 ⟨some 3, .load (some 3) (.t 1), none⟩,
 ⟨some 4, .call (.k (.d (.func (.func 70) [] []))) [(.t 3)], none⟩,
 ⟨some 5, .not (.t 4), none⟩,
 ⟨some 2, .mov (.t 5), none⟩]
def s69 : SCode := (.seq (.region xkr 1 []) (.seq (.region xks 0 []) .ret))
theorem e69 : qg s69.eq_1 := qh s69.eq_1
theorem x5y : qa xkr.eq_1 := qc
theorem x5z : qa xks.eq_1 := qc
attribute [go_sem] x5y x5z e69
theorem F69 : FnIs Try.prog 69 Try.f69 [] news s69 [.tmp 2] 6 := x5 follows Try.func69
def q6f : List SOper := [
 ⟨some 4, .mov (.k (.d (.int .i64 0))), none⟩]
def q6g : List SOper := [
 ⟨some 6, .mov (.t 0), none⟩,
 ⟨some 7, .len (.t 6), none⟩,
 ⟨some 8, .mov (.k (.d (.int .i64 0))), none⟩]
def q6h : List SOper := [
 ⟨some 9, .bin .lss (.t 8) (.t 7), none⟩]
def q6i : List SOper := [
 ⟨some 10, .mov (.t 8), none⟩,
 ⟨some 5, .mov (.t 10), none⟩]
def q6j : List SOper := [
 ⟨some 11, .mov (.t 1), none⟩,
 ⟨some 12, .mov (.t 0), none⟩,
 ⟨some 13, .mov (.t 5), none⟩,
 ⟨some 14, .iaddr 3 (.t 12) (.t 13), none⟩,
 ⟨some 15, .load (some 3) (.t 14), none⟩,
 ⟨some 16, .call (.t 11) [(.t 15)], none⟩]
def q6k : List SOper := [
 ⟨some 17, .mov (.t 5), none⟩,
 ⟨some 4, .mov (.t 17), none⟩]
def q6l : List SOper := [
 ⟨some 18, .bin .add (.t 8) (.k (.d (.int .i64 1))), none⟩,
 ⟨some 8, .mov (.t 18), none⟩]
def qx2 : SCode := (.seq (.region q6h 0 []) (.seq (.cond (.t 9) .skip (.exit 0)) (.seq (.block 1 (.seq (.region q6i 0 []) (.seq (.region q6j 0 []) (.cond (.t 16) (.seq (.region q6k 0 []) .ret) .skip)))) (.region q6l 0 []))))
theorem xkt : qg qx2.eq_1 := qh qx2.eq_1
def q6m : List SOper := [
 ⟨some 4, .mov (.k (.d (.int .i64 (-1)))), none⟩]
def s110 : SCode := (.seq (.region q6f 0 []) (.seq (.seq (.region q6g 0 []) (.block 0 (.loop qx2))) (.seq (.region q6m 0 []) .ret)))
theorem zhx : qg s110.eq_1 := qh s110.eq_1
theorem xku : qa q6f.eq_1 := qc
theorem xkv : qa q6g.eq_1 := qc
theorem xkw : qa q6h.eq_1 := qc
theorem xkx : qa q6i.eq_1 := qc
theorem xky : qa q6j.eq_1 := qc
theorem xkz : qa q6k.eq_1 := qc
theorem xk0 : qa q6l.eq_1 := qc
theorem xk1 : qa q6m.eq_1 := qc
attribute [go_sem] xku xkv xkw xkx xky xkz xk0 xkt xk1 zhx
theorem x50 : FnIs Try.prog 110 Try.f110 [] news s110 [.tmp 4] 19 := x5 follows Try.func110
def xk2 : List SOper := [
 ⟨some 4, .mov (.k (.d (.bool false))), none⟩]
def xk3 : List SOper := [
 ⟨some 5, .mov (.t 0), none⟩,
 ⟨some 6, .mov (.t 1), none⟩,
 ⟨some 7, .call (.k (.d (.func (.func 110) [] []))) [(.t 5), (.t 6)], none⟩,
 ⟨some 8, .bin .geq (.t 7) (.k (.d (.int .i64 0))), none⟩,
 ⟨some 4, .mov (.t 8), none⟩]
def s68 : SCode := (.seq (.region xk2 0 []) (.seq (.region xk3 0 []) .ret))
theorem e68 : qg s68.eq_1 := qh s68.eq_1
theorem x51 : qa xk2.eq_1 := qc
theorem x52 : qa xk3.eq_1 := qc
attribute [go_sem] x51 x52 e68
theorem F68 : FnIs Try.prog 68 Try.f68 [] news s68 [.tmp 4] 9 := x5 follows Try.func68
def xk4 : List SOper := [
 ⟨some 2, .mov (.k (.d .nilsl)), none⟩,
 ⟨some 3, .mov (.k (.d (.int .i64 0))), none⟩]
def xk5 : List SOper := [
 ⟨some 7, .mov (.t 0), none⟩,
 ⟨some 8, .len (.t 7), none⟩,
 ⟨some 9, .bin .eql (.t 8) (.k (.d (.int .i64 0))), none⟩,
 ⟨some 10, .mov (.t 9), none⟩,
 ⟨some 11, .mov (.t 0), some (10, false)⟩,
 ⟨some 12, .call (.k (.d (.func (.func 68) [] []))) [(.t 11), (.k (.d (.func (.func 69) [] [])))], some (10, false)⟩,
 ⟨some 13, .pick (.t 10) (.k (.d (.bool true))) (.t 12), none⟩]
def xk6 : List SOper := [
 ⟨some 2, .mov (.k (.d .nilsl)), none⟩,
 ⟨some 3, .mov (.k (.d (.int .i64 1))), none⟩]
def xk7 : List SOper := [
 ⟨some 14, .mov (.t 0), none⟩,
 ⟨some 15, .len (.t 14), none⟩,
 ⟨some 16, .call (.k (.d (.func (.func 71) [] []))) [(.k (.d .nilsl)), (.t 15)], none⟩,
 ⟨some 4, .mov (.t 16), none⟩]
def xk8 : List SOper := [
 ⟨some 17, .mov (.t 0), none⟩,
 ⟨some 18, .len (.t 17), none⟩,
 ⟨some 19, .mov (.k (.d (.int .i64 0))), none⟩]
def xk9 : List SOper := [
 ⟨some 20, .bin .lss (.t 19) (.t 18), none⟩]
def xla : List SOper := [
 ⟨some 21, .iaddr 3 (.t 17) (.t 19), none⟩,
 ⟨some 22, .load (some 3) (.t 21), none⟩,
 ⟨some 6, .alloc 1 [(.d (.str [])), (.d (.bool false)), (.d .nilsl)], none⟩,
 ⟨none, .store (some 3) (.t 6) (.t 22), none⟩]
def xlb : List SOper := [
 ⟨some 23, .mov (.t 4), none⟩,
 ⟨some 24, .faddr 0 (.t 6), none⟩,
 ⟨some 25, .load none (.t 24), none⟩,
 ⟨some 26, .call (.k (.d (.func (.func 74) [] []))) [(.t 23), (.t 25)], none⟩,
 ⟨some 27, .faddr 1 (.t 6), none⟩,
 ⟨some 28, .load none (.t 27), none⟩,
 ⟨some 29, .call (.k (.d (.func (.func 73) [] []))) [(.t 26), (.t 28)], none⟩,
 ⟨some 30, .faddr 2 (.t 6), none⟩,
 ⟨some 31, .load none (.t 30), none⟩,
 ⟨some 32, .call (.k (.d (.func (.func 72) [] []))) [(.t 29), (.t 31)], none⟩,
 ⟨some 4, .mov (.t 32), none⟩]
def xlc : List SOper := [
 ⟨some 33, .bin .add (.t 19) (.k (.d (.int .i64 1))), none⟩,
 ⟨some 19, .mov (.t 33), none⟩]
def xft : SCode := (.seq (.region xk9 0 []) (.seq (.cond (.t 20) .skip (.exit 0)) (.seq (.block 1 (.seq (.region xla 1 []) (.region xlb 0 [(3, 5), (3, 8), (6, 8)]))) (.region xlc 0 []))))
theorem x53 : qg xft.eq_1 := qh xft.eq_1
def q6n : List SOper := [
 ⟨some 34, .mov (.t 0), none⟩,
 ⟨some 35, .len (.t 34), none⟩,
 ⟨some 36, .bin .gtr (.t 35) (.k (.d (.int .i64 20))), none⟩,
 ⟨some 37, .mov (.t 36), none⟩,
 ⟨some 38, .mov (.t 4), some (37, false)⟩,
 ⟨some 39, .len (.t 38), some (37, false)⟩,
 ⟨some 40, .bin .gtr (.t 39) (.k (.d (.int .i64 2000))), some (37, false)⟩,
 ⟨some 41, .pick (.t 37) (.k (.d (.bool true))) (.t 40), none⟩]
def q6o : List SOper := [
 ⟨some 2, .mov (.k (.d .nilsl)), none⟩,
 ⟨some 3, .mov (.k (.d (.int .i64 6))), none⟩]
def q6p : List SOper := [
 ⟨some 42, .mov (.t 4), none⟩,
 ⟨some 2, .mov (.t 42), none⟩,
 ⟨some 3, .mov (.k (.d (.int .i64 0))), none⟩]
def s30 : SCode := (.seq (.region xk4 0 []) (.seq (.seq (.region xk5 0 []) (.cond (.t 13) (.seq (.region xk6 0 []) .ret) .skip)) (.seq (.region xk7 0 []) (.seq (.seq (.region xk8 0 []) (.block 0 (.loop xft))) (.seq (.seq (.region q6n 0 []) (.cond (.t 41) (.seq (.region q6o 0 []) .ret) .skip)) (.seq (.region q6p 0 []) .ret))))))
theorem e30 : qg s30.eq_1 := qh s30.eq_1
theorem x54 : qa xk4.eq_1 := qc
theorem x55 : qa xk5.eq_1 := qc
theorem x56 : qa xk6.eq_1 := qc
theorem x57 : qa xk7.eq_1 := qc
theorem x58 : qa xk8.eq_1 := qc
theorem x59 : qa xk9.eq_1 := qc
theorem x6a : qa xla.eq_1 := qc
theorem x6b : qa xlb.eq_1 := qc
theorem x6c : qa xlc.eq_1 := qc
theorem xld : qa q6n.eq_1 := qc
theorem xle : qa q6o.eq_1 := qc
theorem xlf : qa q6p.eq_1 := qc
attribute [go_sem] x54 x55 x56 x57 x58 x59 x6a x6b x6c x53 xld xle xlf e30
theorem F30 : FnIs Try.prog 30 Try.f30 [] news s30 [.tmp 2, .tmp 3] 43 := x5 follows Try.func30
end
def jh (o : OpS) : Bool := decide ((o.key.length : Int) ≥ 1) && decide ((o.key.length : Int) ≤ 40) && decide ((o.val.length : Int) ≤ 900) && !(o.del && decide ((o.val.length : Int) > 0))
theorem qk8 (o : OpS) : ql Try.prog 70 [.d (.agg (qs o))] [] (.d (.bool (jh o))) [] := by
 refine F70.go ?_
 try (refine ev1 @qs.eq_1 ?_; try exact True.intro)
 simp only [jh, and_true]
 intro h
 refine ⟨h, fun h2 => ?_⟩
 rw [h, h2]; rfl
theorem qk9 (o : OpS) : ql Try.prog 69 [.d (.agg (qs o))] [] (.d (.bool (!jh o))) [] := by
 refine F69.go ?_
 try (refine ev1 @qs.eq_1 ?_; try exact True.intro)
 (repeat (with_reducible refine ob ?_)); first | refine cl F70 (qk8 o) ?_ | refine clF F70 (qk8 o) (fun _ => by (refine ev1 @qs.eq_1 ?_; try exact True.intro)) ?_
 try (refine ev ?_; try exact True.intro)
def q3h (k : FuncId) (l : List OpS) (f : OpS → Bool) (i : { i : Nat // (l.take i).any f = false }) : St :=
 ⟨[(0, true, .d (.sl 3 (l.map qs))), (1, true, .d (.func (.func k) [] [])), (7, true, .d (.int .i64 l.length)), (8, true, .d (.int .i64 (i.val : Nat)))], [], [], 1⟩
theorem qo3 {k : FuncId} {f : OpS → Bool} (hb : (Try.prog.funcs[k]?).any (fun fn => fn.body.isSome && !(fn.name == "runtime.NumGoroutine")) = true)
  (hf : ∀ v, ql Try.prog k [.d (.agg (qs v))] [] (.d (.bool (f v))) []) (l : List OpS) (hl : l.length ≤ maxLen) :
  ql Try.prog 110 [.d (.sl 3 (l.map qs)), .d (.func (.func k) [] [])] [] (.d (.int .i64 (idx f l))) [] := by
 refine x50.go ?_
 try (refine ev ?_; try exact True.intro)
 refine qy (q3h k l f) (fun i => l.length - i.val) ⟨0, rfl⟩ ?_ (fun i => ?_)
 ·try (refine ev1 @q3h.eq_1 ?_; try exact True.intro)
 obtain ⟨i, hi⟩ := i
 try (refine ev1 @q3h.eq_1 ?_; try exact True.intro)
 (repeat (with_reducible refine ob ?_)); refine jj _ (fun h => ?_) (fun h => ?_)
 ·have hil : i < l.length := by simpa using h
  (refine ev2 (xg qs l hil) @qs.eq_1 ?_; try exact True.intro)
  (repeat (with_reducible refine ob ?_))
  refine xh (hf l[i]) hb (fun h => h) (fun _ => ⟨qd, trivial⟩) (by try (refine ev1 @qs.eq_1 ?_; try exact True.intro)) rfl rfl ?_
  try (refine ev ?_; try exact True.intro)
  (repeat (with_reducible refine ob ?_)); refine jj _ (fun h => ?_) (fun h => ?_)
  ·try (refine ev1 (qms hi hil h) ?_; try exact True.intro)
  ·try (refine ev ?_; try exact True.intro)
   refine ⟨⟨i + 1, qbw hi hil (by simpa using h)⟩, ?_, by dsimp only; omega⟩
   try (refine ev2 @q3h.eq_1 (qv (show i < 9223372036854775807 by unfold maxLen at hl; omega)) ?_; try exact True.intro)
 ·have hil : l.length ≤ i := by simpa using h
  try (refine ev1 (qmr hi hil) ?_; try exact True.intro)
theorem qg4 {k : FuncId} {f : OpS → Bool} (hb : (Try.prog.funcs[k]?).any (fun fn => fn.body.isSome && !(fn.name == "runtime.NumGoroutine")) = true)
  (hf : ∀ v, ql Try.prog k [.d (.agg (qs v))] [] (.d (.bool (f v))) []) (l : List OpS) (hl : l.length ≤ maxLen) :
  ql Try.prog 68 [.d (.sl 3 (l.map qs)), .d (.func (.func k) [] [])] [] (.d (.bool (l.any f))) [] := by
 refine F68.go ?_
 try (refine ev ?_; try exact True.intro)
 (repeat (with_reducible refine ob ?_)); first | refine cl x50 (qo3 hb hf l hl) ?_ | refine clF x50 (qo3 hb hf l hl) (fun _ => by (refine ev1 @qs.eq_1 ?_; try exact True.intro)) ?_
 try (refine ev1 @qxx ?_; try exact True.intro)
def wOp (o : OpS) : List UInt8 := wv o.key ++ [if o.del then 1 else 0] ++ wv o.val
def wOps (l : List OpS) : List UInt8 := wInt l.length ++ l.flatMap wOp
def xa (l : List OpS) : List UInt8 × Int :=
 if l.length = 0 || l.any (fun o => !jh o) then ([], 1) else if l.length > 20 || (wOps l).length > 2000 then ([], 6) else (wOps l, 0)
theorem vz {o : OpS} : jh o = true ↔ 1 ≤ o.key.length ∧ o.key.length ≤ 40 ∧ o.val.length ≤ 900 ∧ (o.del = true → o.val.length = 0) := by
 unfold jh
 cases o.del <;> simp [-List.length_eq_zero_iff] <;> omega
theorem qbd (s : List UInt8) (h : s.length ≤ 900000000) : (wv s).length ≤ s.length + 10 := by
 have := x6 (xw (n := s.length) (by omega))
 simp [wv]; omega
theorem qx3 {o : OpS} (h : jh o = true) : (wOp o).length ≤ 1000 := by
 obtain ⟨h1, h2, h3, _⟩ := vz.1 h
 have k1 := qbd o.key (Nat.le_trans h2 (by decide))
 have k2 := qbd o.val (Nat.le_trans h3 (by decide))
 simp only [wOp, List.length_append, List.length_cons, List.length_nil]; omega
theorem qhq {l : List OpS} (h : ∀ o ∈ l, jh o = true) : (l.flatMap wOp).length ≤ l.length * 1000 := by
 induction l with
 | nil => simp
 | cons o l ih =>
  have h1 := qx3 (h o List.mem_cons_self)
  have h2 := ih (fun x hx => h x (List.mem_cons_of_mem _ hx))
  simp only [List.flatMap_cons, List.length_append, List.length_cons]
  omega
def Senc (l : List OpS) (i : { i : Nat // i ≤ l.length }) : St :=
 ⟨[(0, true, .d (.sl 3 (l.map qs))), (4, true, .own 0 1 (qe (wInt l.length ++ (l.take i.val).flatMap wOp))), (17, true, .d (.sl 3 (l.map qs))), (18, true, .d (.int .i64 l.length)), (19, true, .d (.int .i64 (i.val : Nat)))], [], [0], 1⟩
theorem qg5 : (Try.prog.funcs[69]?).any (fun fn => fn.body.isSome && !(fn.name == "runtime.NumGoroutine")) = true := F69.body
theorem qcl {α β : Type} (f : α → List β) (l : List α) {i : Nat} (h : i < l.length) : (l.take (i + 1)).flatMap f = (l.take i).flatMap f ++ f l[i] := by
 rw [List.take_succ_eq_append_getElem h, List.flatMap_append, List.flatMap_cons, List.flatMap_nil, List.append_nil]
theorem qc3 (l : List OpS) (hl : l.length ≤ 100000) : ql Try.prog 30 [.d (.sl 3 (l.map qs))] [] (.tup [.d (.sl 1 (qe (xa l).1)), .d (.int .i64 (xa l).2)]) [] := by
 refine F30.goT ?_
 try (refine ev ?_; try exact True.intro)
 (repeat (with_reducible refine ob ?_)); first | refine cl F68 (qg4 qg5 qk9 l (by unfold maxLen; omega)) ?_ | refine clF F68 (qg4 qg5 qk9 l (by unfold maxLen; omega)) (fun _ => by (refine ev1 @qs.eq_1 ?_; try exact True.intro)) ?_
 try (refine ev ?_; try exact True.intro)
 (repeat (with_reducible refine ob ?_))
 (repeat (with_reducible refine ob ?_)); refine jj _ (fun h => ?_) (fun h => ?_)
 ·have hb : xa l = ([], 1) := by
   unfold xa
   rw [if_pos]
   simp only [Bool.or_eq_true, decide_eq_true_eq, beq_iff_eq] at h ⊢
   rcases h with h | h
   ·left; omega
   ·right; exact h
  try (refine ev2 @hb @qx ?_; try exact True.intro)
 have hne : ¬ (decide (l.length = 0) || l.any (fun o => !jh o)) = true := by
  simp only [Bool.or_eq_true, decide_eq_true_eq, not_or]
  simp only [Bool.or_eq_false_iff, beq_eq_false_iff_ne] at h
  exact ⟨by omega, by simp [h.2]⟩
 have hpr : ∀ o ∈ l, jh o = true := by
  simp only [Bool.or_eq_true, not_or, List.any_eq_true, not_exists, not_and] at hne
  intro o ho
  simpa using hne.2 o ho
 have hwl := qhq hpr
 have hil0 := x6 (xw (n := l.length) (by omega))
 try (refine ev ?_; try exact True.intro)
 refine clA F71 (jq [] l.length (by simp) (xw (by omega))) ?_
 try (refine ev ?_; try exact True.intro)
 refine qy (Senc l) (fun i => l.length - i.val) ⟨0, Nat.zero_le _⟩ ?_ (fun i => ?_)
 ·try (refine ev2 @Senc.eq_1 @List.take_zero.{0} ?_; try exact True.intro)
 obtain ⟨i, hi⟩ := i
 try (refine ev1 @Senc.eq_1 ?_; try exact True.intro)
 (repeat (with_reducible refine ob ?_)); refine jj _ (fun h => ?_) (fun h => ?_)
 ·have hil : i < l.length := by simpa using h
  have ho := hpr l[i] (List.getElem_mem hil)
  obtain ⟨p1, p2, p3, _⟩ := vz.1 ho
  have hpre : (wInt l.length ++ (l.take i).flatMap wOp).length ≤ 100000020 := by
   have := qhq (l := l.take i) (fun o h => hpr o (List.mem_of_mem_take h))
   simp only [List.length_append, List.length_take] at this ⊢
   have : min i l.length ≤ 100000 := by omega
   omega
  have k1 := qbd l[i].key (by omega)
  try (refine ev2 (xg qs l hil) @qs.eq_1 ?_; try exact True.intro)
  (repeat (with_reducible refine ob ?_))
  refine clA F74 (qi5 (wInt l.length ++ (l.take i).flatMap wOp) l[i].key (by omega)) ?_
  try (refine ev ?_; try exact True.intro)
  refine clA F73 (qry ((wInt l.length ++ (l.take i).flatMap wOp) ++ wv l[i].key) l[i].del (by simp only [List.length_append] at hpre ⊢; omega)) ?_
  try (refine ev ?_; try exact True.intro)
  refine clA F72 (qoz ((wInt l.length ++ (l.take i).flatMap wOp) ++ wv l[i].key ++ [if l[i].del then 1 else 0]) l[i].val (by simp only [List.length_append, List.length_cons, List.length_nil] at hpre ⊢; omega)) ?_
  try (refine ev ?_; try exact True.intro)
  have e : wInt l.length ++ (l.take i).flatMap wOp ++ wv l[i].key ++ [if l[i].del then 1 else 0] ++ wv l[i].val = wInt l.length ++ (l.take (i + 1)).flatMap wOp := by
   rw [qcl wOp l hil, wOp]; simp only [List.append_assoc]
  refine ⟨⟨i + 1, hil⟩, ?_, by dsimp only; omega⟩
  try (refine ev3 @Senc.eq_1 @e (qv (show i < 9223372036854775807 by omega)) ?_; try exact True.intro)
 ·have hie : i = l.length := by simp at h; omega
  subst hie
  try (refine ev1 @List.take_length.{0} ?_; try exact True.intro)
  have hw : wInt l.length ++ l.flatMap wOp = wOps l := rfl
  have hw2 : (wOps l).length = (wInt l.length).length + (l.flatMap wOp).length := by rw [wOps, List.length_append]
  try (refine ev1 @hw ?_; try exact True.intro)
  (repeat (with_reducible refine ob ?_)); refine jj _ (fun h => ?_) (fun h => ?_)
  ·have hb : xa l = ([], 6) := by
    unfold xa
    rw [if_neg hne, if_pos]
    simp only [Bool.or_eq_true, decide_eq_true_eq] at h ⊢
    omega
   try (refine ev2 @hb @qx ?_; try exact True.intro)
  ·have hb : xa l = (wOps l, 0) := by
    unfold xa
    rw [if_neg hne, if_neg]
    simp only [Bool.or_eq_true, Bool.or_eq_false_iff, decide_eq_true_eq, decide_eq_false_iff_not] at h ⊢
    omega
   try (refine ev1 @hb ?_; try exact True.intro)
end Go.Proofs.Ytinnaedmdoengaa
namespace Go.Proofs.Ytinnaedmdoengaa
open Go.Abs
set_option linter.unusedSimpArgs false
noncomputable section
set_option maxRecDepth 100000
def q6q : List SOper := [
 ⟨some 4, .mov (.k (.d (.int .u64 0))), none⟩]
def q6r : List SOper := [
 ⟨some 7, .mov (.t 1), none⟩,
 ⟨some 8, .len (.t 7), none⟩,
 ⟨some 9, .mov (.k (.d (.int .i64 0))), none⟩]
def q6s : List SOper := [
 ⟨some 10, .bin .lss (.t 9) (.t 8), none⟩]
def q6t : List SOper := [
 ⟨some 11, .iaddr 1 (.t 7) (.t 9), none⟩,
 ⟨some 12, .load none (.t 11), none⟩,
 ⟨some 6, .mov (.t 12), none⟩]
def q6u : List SOper := [
 ⟨some 13, .mov (.t 0), none⟩,
 ⟨some 14, .mov (.t 6), none⟩,
 ⟨some 15, .conv .u64 (.t 14), none⟩,
 ⟨some 16, .bin .xor (.t 13) (.t 15), none⟩,
 ⟨some 17, .bin .mul (.t 16) (.k (.d (.int .u64 1099511628211))), none⟩,
 ⟨some 0, .mov (.t 17), none⟩]
def q6v : List SOper := [
 ⟨some 18, .bin .add (.t 9) (.k (.d (.int .i64 1))), none⟩,
 ⟨some 9, .mov (.t 18), none⟩]
def qx4 : SCode := (.seq (.region q6s 0 []) (.seq (.cond (.t 10) .skip (.exit 0)) (.seq (.block 1 (.seq (.region q6t 0 []) (.region q6u 0 []))) (.region q6v 0 []))))
theorem xlg : qg qx4.eq_1 := qh qx4.eq_1
def q6w : List SOper := [
 ⟨some 19, .mov (.t 0), none⟩,
 ⟨some 4, .mov (.t 19), none⟩]
def s123 : SCode := (.seq (.region q6q 0 []) (.seq (.seq (.region q6r 0 []) (.block 0 (.loop qx4))) (.seq (.region q6w 0 []) .ret)))
theorem zhy : qg s123.eq_1 := qh s123.eq_1
theorem xlh : qa q6q.eq_1 := qc
theorem xli : qa q6r.eq_1 := qc
theorem xlj : qa q6s.eq_1 := qc
theorem xlk : qa q6t.eq_1 := qc
theorem xll : qa q6u.eq_1 := qc
theorem xlm : qa q6v.eq_1 := qc
theorem xln : qa q6w.eq_1 := qc
attribute [go_sem] xlh xli xlj xlk xll xlm xlg xln zhy
theorem xh2 : FnIs Try.prog 123 Try.f123 [] news s123 [.tmp 4] 20 := x5 follows Try.func123
def xlo : List SOper := [
 ⟨some 4, .mov (.k (.d (.int .u64 0))), none⟩,
 ⟨some 5, .alloc 1 [(.d (.int .u8 0)), (.d (.int .u8 0)), (.d (.int .u8 0)), (.d (.int .u8 0)), (.d (.int .u8 0)), (.d (.int .u8 0)), (.d (.int .u8 0)), (.d (.int .u8 0))], none⟩]
def xlp : List SOper := [
 ⟨some 9, .mov (.t 0), none⟩,
 ⟨some 10, .mov (.t 1), none⟩,
 ⟨some 11, .call (.k (.d (.func (.func 123) [] []))) [(.t 9), (.t 10)], none⟩,
 ⟨some 6, .mov (.t 11), none⟩]
def xlq : List SOper := [
 ⟨some 7, .alloc 1 [(.d (.int .u8 0)), (.d (.int .u8 0)), (.d (.int .u8 0)), (.d (.int .u8 0)), (.d (.int .u8 0)), (.d (.int .u8 0)), (.d (.int .u8 0)), (.d (.int .u8 0))], none⟩]
def xlr : List SOper := [
 ⟨some 12, .mov (.k (.d (.int .i64 0))), none⟩]
def xls : List SOper := [
 ⟨some 13, .bin .lss (.t 12) (.k (.d (.int .i64 8))), none⟩]
def xlt : List SOper := [
 ⟨some 14, .mov (.t 12), none⟩,
 ⟨some 8, .mov (.t 14), none⟩]
def xlu : List SOper := [
 ⟨some 15, .mov (.t 8), none⟩,
 ⟨some 16, .mov (.t 6), none⟩,
 ⟨some 17, .mov (.t 8), none⟩,
 ⟨some 18, .bin .sub (.k (.d (.int .i64 7))) (.t 17), none⟩,
 ⟨some 19, .bin .mul (.k (.d (.int .i64 8))) (.t 18), none⟩,
 ⟨some 20, .bin .shr (.t 16) (.t 19), none⟩,
 ⟨some 21, .conv .u8 (.t 20), none⟩,
 ⟨some 22, .iaddrA 8 1 (.t 7) (.t 15), none⟩,
 ⟨none, .store none (.t 22) (.t 21), none⟩]
def xlv : List SOper := [
 ⟨some 23, .bin .add (.t 12) (.k (.d (.int .i64 1))), none⟩,
 ⟨some 12, .mov (.t 23), none⟩]
def xfu : SCode := (.seq (.region xls 0 []) (.seq (.cond (.t 13) .skip (.exit 0)) (.seq (.block 1 (.seq (.region xlt 0 []) (.region xlu 0 []))) (.region xlv 0 []))))
theorem x6d : qg xfu.eq_1 := qh xfu.eq_1
def xlw : List SOper := [
 ⟨some 24, .mov (.t 6), none⟩,
 ⟨some 25, .load (some 8) (.t 7), none⟩,
 ⟨some 4, .mov (.t 24), none⟩,
 ⟨none, .store (some 8) (.t 5) (.t 25), none⟩]
def s94 : SCode := (.seq (.region xlo 1 []) (.seq (.region xlp 0 []) (.seq (.region xlq 1 []) (.seq (.seq (.region xlr 0 []) (.block 0 (.loop xfu))) (.seq (.region xlw 0 []) .ret)))))
theorem e94 : qg s94.eq_1 := qh s94.eq_1
theorem x6e : qa xlo.eq_1 := qc
theorem x6f : qa xlp.eq_1 := qc
theorem x6g : qa xlq.eq_1 := qc
theorem x6h : qa xlr.eq_1 := qc
theorem x6i : qa xls.eq_1 := qc
theorem x6j : qa xlt.eq_1 := qc
theorem x6k : qa xlu.eq_1 := qc
theorem x6l : qa xlv.eq_1 := qc
theorem x6m : qa xlw.eq_1 := qc
attribute [go_sem] x6e x6f x6g x6h x6i x6j x6k x6l x6d x6m e94
theorem F94 : FnIs Try.prog 94 Try.f94 [] news s94 [.tmp 4, .cell 5 (some 8)] 26 := x5 follows Try.func94
def xlx : List SOper := [
 ⟨some 2, .mov (.k (.d (.int .u64 0))), none⟩]
def xly : List SOper := [
 ⟨some 6, .mov (.t 0), none⟩,
 ⟨some 7, .len (.t 6), none⟩,
 ⟨some 8, .bin .lss (.t 7) (.k (.d (.int .i64 8))), none⟩]
def xlz : List SOper := [
 ⟨some 2, .mov (.k (.d (.int .u64 14695981039346656037))), none⟩]
def xl0 : List SOper := [
 ⟨some 3, .mov (.k (.d (.int .u64 0))), none⟩]
def xl1 : List SOper := [
 ⟨some 9, .mov (.t 0), none⟩,
 ⟨some 10, .mov (.t 0), none⟩,
 ⟨some 11, .len (.t 10), none⟩,
 ⟨some 12, .bin .sub (.t 11) (.k (.d (.int .i64 8))), none⟩,
 ⟨some 13, .slice 1 (.t 9) (some (.t 12)) none none, none⟩,
 ⟨some 14, .len (.t 13), none⟩,
 ⟨some 15, .mov (.k (.d (.int .i64 0))), none⟩]
def xl2 : List SOper := [
 ⟨some 16, .bin .lss (.t 15) (.t 14), none⟩]
def xl3 : List SOper := [
 ⟨some 17, .iaddr 1 (.t 13) (.t 15), none⟩,
 ⟨some 18, .load none (.t 17), none⟩,
 ⟨some 5, .mov (.t 18), none⟩]
def xl4 : List SOper := [
 ⟨some 19, .mov (.t 3), none⟩,
 ⟨some 20, .bin .shl (.t 19) (.k (.d (.int .u64 8))), none⟩,
 ⟨some 21, .mov (.t 5), none⟩,
 ⟨some 22, .conv .u64 (.t 21), none⟩,
 ⟨some 23, .bin .or (.t 20) (.t 22), none⟩,
 ⟨some 3, .mov (.t 23), none⟩]
def xl5 : List SOper := [
 ⟨some 24, .bin .add (.t 15) (.k (.d (.int .i64 1))), none⟩,
 ⟨some 15, .mov (.t 24), none⟩]
def xfv : SCode := (.seq (.region xl2 0 []) (.seq (.cond (.t 16) .skip (.exit 0)) (.seq (.block 1 (.seq (.region xl3 0 []) (.region xl4 0 []))) (.region xl5 0 []))))
theorem x6n : qg xfv.eq_1 := qh xfv.eq_1
def q6x : List SOper := [
 ⟨some 25, .mov (.t 3), none⟩,
 ⟨some 2, .mov (.t 25), none⟩]
def s92 : SCode := (.seq (.region xlx 0 []) (.seq (.seq (.region xly 0 []) (.cond (.t 8) (.seq (.region xlz 0 []) .ret) .skip)) (.seq (.region xl0 0 []) (.seq (.seq (.region xl1 0 []) (.block 0 (.loop xfv))) (.seq (.region q6x 0 []) .ret)))))
theorem e92 : qg s92.eq_1 := qh s92.eq_1
theorem x6o : qa xlx.eq_1 := qc
theorem x6p : qa xly.eq_1 := qc
theorem x6q : qa xlz.eq_1 := qc
theorem x6r : qa xl0.eq_1 := qc
theorem x6s : qa xl1.eq_1 := qc
theorem x6t : qa xl2.eq_1 := qc
theorem x6u : qa xl3.eq_1 := qc
theorem x6v : qa xl4.eq_1 := qc
theorem x6w : qa xl5.eq_1 := qc
theorem xl6 : qa q6x.eq_1 := qc
attribute [go_sem] x6o x6p x6q x6r x6s x6t x6u x6v x6w x6n xl6 e92
theorem F92 : FnIs Try.prog 92 Try.f92 [] news s92 [.tmp 2] 26 := x5 follows Try.func92
end
def fnv1 (h : Nat) (c : UInt8) : Nat := (h ^^^ c.toNat) * 1099511628211 % 18446744073709551616
def fnv (h : Nat) (s : List UInt8) : Nat := s.foldl fnv1 h
theorem qrz (h : Nat) : fnv h [] = h := rfl
theorem qmt (h : Nat) (s : List UInt8) (c : UInt8) : fnv h (s ++ [c]) = (fnv h s ^^^ c.toNat) * 1099511628211 % 18446744073709551616 := by
 have : fnv h (s ++ [c]) = fnv1 (fnv h s) c := by unfold fnv; rw [List.foldl_append, List.foldl_cons, List.foldl_nil]
 rw [this, fnv1]
theorem qo4 {h : Nat} (hh : h < 18446744073709551616) (s : List UInt8) : fnv h s < 18446744073709551616 := by
 rcases List.eq_nil_or_concat s with rfl | ⟨t, c, rfl⟩
 ·rw [qrz]; exact hh
 ·rw [List.concat_eq_append, qmt]
  generalize (fnv h t ^^^ c.toNat) * 1099511628211 = x
  omega
theorem qdz (n : Int) : IntKind.u64.wrap n = n % 18446744073709551616 := by simp [IntKind.wrap, IntKind.bits, IntKind.signed]
theorem q3i (a b : Nat) (ha : a < 18446744073709551616) (hb : b < 18446744073709551616) : a ^^^ b < 18446744073709551616 := by
 have p : (18446744073709551616 : Nat) = 2 ^ 64 := by decide
 rw [p] at *
 exact Nat.xor_lt_two_pow ha hb
theorem qx5 (a b : Nat) (ha : a < 18446744073709551616) (hb : b < 18446744073709551616) : qnb 64 (a : Int) (b : Int) = ((a ^^^ b : Nat) : Int) := by
 unfold qnb
 rw [BitVec.ofInt_natCast, BitVec.ofInt_natCast, BitVec.toNat_xor, BitVec.toNat_ofNat, BitVec.toNat_ofNat, Nat.mod_eq_of_lt ha, Nat.mod_eq_of_lt hb]
theorem f1 (x : Nat) : IntKind.u64.wrap ((x : Int) * 1099511628211) = ((x * 1099511628211 % 18446744073709551616 : Nat) : Int) := by
 rw [qdz]
 simp only [Int.natCast_emod, Int.natCast_mul, Int.cast_ofNat_Int]
theorem f2 (x : Nat) (h : x < 18446744073709551616) : IntKind.u64.wrap (x : Int) = x := by
 rw [qdz]; omega
theorem qte (h c : Nat) (hh : h < 18446744073709551616) (hc : c < 256) :
  IntKind.u64.wrap (IntKind.u64.wrap (qnb 64 (h : Int) (IntKind.u64.wrap (c : Int))) * 1099511628211) = (((h ^^^ c) * 1099511628211 % 18446744073709551616 : Nat) : Int) := by
 rw [f2 c (by omega), qx5 h c hh (by omega), f2 _ (q3i h c hh (by omega)), f1]
theorem qcm (c : UInt8) : c.toNat < 256 := UInt8.toNat_lt c
theorem jz (s : List UInt8) {i : Nat} (h : i < s.length) : (qe s).getD i [] = [.int .u8 (s[i].toNat : Int)] := xg (fun c : UInt8 => [D.int .u8 (c.toNat : Int)]) s h []
def q3j (h : Nat) (s : List UInt8) (i : { i : Nat // i ≤ s.length }) : St :=
 ⟨[(0, true, .d (.int .u64 (fnv h (s.take i.val) : Nat))), (7, true, .d (.sl 1 (qe s))), (8, true, .d (.int .i64 s.length)), (9, true, .d (.int .i64 (i.val : Nat)))], [], [], 1⟩
theorem qx6 (h : Nat) (s : List UInt8) (hh : h < 18446744073709551616) (hl : s.length ≤ 1000000000) : ql Try.prog 123 [.d (.int .u64 h), .d (.sl 1 (qe s))] [] (.d (.int .u64 (fnv h s : Nat))) [] := by
 refine xh2.go ?_
 try (refine ev ?_; try exact True.intro)
 refine qy (q3j h s) (fun i => s.length - i.val) ⟨0, Nat.zero_le _⟩ ?_ (fun i => ?_)
 ·try (refine ev3 @q3j.eq_1 @List.take_zero.{0} @qrz ?_; try exact True.intro)
 obtain ⟨i, hi⟩ := i
 try (refine ev1 @q3j.eq_1 ?_; try exact True.intro)
 (repeat (with_reducible refine ob ?_)); refine jj _ (fun h => ?_) (fun h => ?_)
 ·have hil : i < s.length := by simpa using h
  try (refine ev1 (jz s hil) ?_; try exact True.intro)
  (repeat (with_reducible refine ob ?_))
  try simp only [qte _ _ (qo4 hh (s.take i)) (qcm s[i]), go_sem, Nat.reduceAdd, Nat.reduceMul, Nat.reduceSub, Nat.reduceEqDiff, Nat.reduceLT, Nat.reduceLeDiff, Nat.reduceBEq, reduceIte, reduceCtorEq, Int.reduceAdd, Int.reduceLT, Int.reduceLE, Int.reduceGT, Int.reduceGE, Int.reduceEq, Int.reduceNe, Int.reduceBEq, Int.reduceBNe, Int.reduceToNat, Int.reduceNeg]
  refine ⟨⟨i + 1, hil⟩, ?_, by dsimp only; omega⟩
  try (refine ev4 @q3j.eq_1 (qv (show i < 9223372036854775807 by omega)) (List.take_succ_eq_append_getElem hil) @qmt ?_; try exact True.intro)
 ·have hie : i = s.length := by simp at h; omega
  subst hie
  try (refine ev1 @List.take_length.{0} ?_; try exact True.intro)
def zh (c : UInt8) : D := .int .u8 c.toNat
theorem qr0 (s : List UInt8) : D.noPtrL (s.map zh) = true := by induction s <;> simp_all [D.noPtrL, D.noPtr, zh]
theorem qi7 (s : List UInt8) : (s.map zh).all D.isCell = true := by induction s <;> simp_all [D.isCell, zh]
attribute [go_sem] qr0 qi7
theorem qu9 (s : List UInt8) {i : Nat} (h : i < s.length) (x : ASlot) : ((s.map zh).map ASlot.d).getD i x = .d (.int .u8 (s[i].toNat : Int)) := by simp [h, zh]
theorem yt (s : List UInt8) : (qe s).flatten = s.map zh := by induction s <;> simp_all [qe, zh]
theorem qo5 (s : List UInt8) : wi 1 s.length (s.map zh) = qe s := by
 induction s with
 | nil => rfl
 | cons c s ih => simp only [List.length_cons, List.map_cons, wi, List.take_succ_cons, List.take_zero, List.drop_succ_cons, List.drop_zero, ih]; rfl
def qtf (h : Nat) (s : List UInt8) (i : { i : Nat // i ≤ s.length }) : St :=
 ⟨[(0, true, .d (.int .u64 (fnv h (s.take i.val) : Nat))), (7, true, .d (.ref 0 0 1 s.length)), (8, true, .d (.int .i64 s.length)), (9, true, .d (.int .i64 (i.val : Nat)))], [.row ((s.map zh).map .d)], [], 1⟩
theorem q3k (h : Nat) (s : List UInt8) (hh : h < 18446744073709551616) (hl : s.length ≤ 1000000000) : ql Try.prog 123 [.d (.int .u64 h), .d (.ref 0 0 1 s.length)] [.row ((s.map zh).map .d)] (.d (.int .u64 (fnv h s : Nat))) [.row ((s.map zh).map .d)] := by
 refine xh2.go ?_
 try (refine ev ?_; try exact True.intro)
 refine qy (qtf h s) (fun i => s.length - i.val) ⟨0, Nat.zero_le _⟩ ?_ (fun i => ?_)
 ·try (refine ev3 @qtf.eq_1 @List.take_zero.{0} @qrz ?_; try exact True.intro)
 obtain ⟨i, hi⟩ := i
 try (refine ev1 @qtf.eq_1 ?_; try exact True.intro)
 (repeat (with_reducible refine ob ?_)); refine jj _ (fun h => ?_) (fun h => ?_)
 ·have hil : i < s.length := by simpa using h
  try (refine ev2 @Nat.mul_one (qu9 s hil) ?_; try exact True.intro)
  (repeat (with_reducible refine ob ?_))
  try simp only [qte _ _ (qo4 hh (s.take i)) (qcm s[i]), go_sem, Nat.reduceAdd, Nat.reduceMul, Nat.reduceSub, Nat.reduceEqDiff, Nat.reduceLT, Nat.reduceLeDiff, Nat.reduceBEq, reduceIte, reduceCtorEq, Int.reduceAdd, Int.reduceLT, Int.reduceLE, Int.reduceGT, Int.reduceGE, Int.reduceEq, Int.reduceNe, Int.reduceBEq, Int.reduceBNe, Int.reduceToNat, Int.reduceNeg]
  refine ⟨⟨i + 1, hil⟩, ?_, by dsimp only; omega⟩
  try (refine ev4 @qtf.eq_1 (qv (show i < 9223372036854775807 by omega)) (List.take_succ_eq_append_getElem hil) @qmt ?_; try exact True.intro)
 ·have hie : i = s.length := by simp at h; omega
  subst hie
  try (refine ev1 @List.take_length.{0} ?_; try exact True.intro)
def be8 (h : Nat) : List UInt8 := [UInt8.ofNat (h / 256 ^ 7), UInt8.ofNat (h / 256 ^ 6), UInt8.ofNat (h / 256 ^ 5), UInt8.ofNat (h / 256 ^ 4), UInt8.ofNat (h / 256 ^ 3), UInt8.ofNat (h / 256 ^ 2), UInt8.ofNat (h / 256 ^ 1), UInt8.ofNat (h / 256 ^ 0)]
theorem k8 (h : Nat) : (be8 h).length = 8 := rfl
theorem xfw (h : Nat) : ∀ {i : Nat} (hi : i < 8), (be8 h)[i]'(by rw [k8]; exact hi) = UInt8.ofNat (h / 256 ^ (7 - i))
 | 0, _ => rfl
 | 1, _ => rfl
 | 2, _ => rfl
 | 3, _ => rfl
 | 4, _ => rfl
 | 5, _ => rfl
 | 6, _ => rfl
 | 7, _ => rfl
theorem xx {n : Int} (h : I64 n) : IntKind.i64.wrap n = n := by
 obtain ⟨h1, h2⟩ := h
 simp [IntKind.wrap, IntKind.bits, IntKind.signed]; omega
theorem qmu (h i : Nat) (hi : i < 8) : IntKind.u8.wrap ((h : Int).fdiv (2 ^ min (8 * (7 - (i : Int))).toNat 64)) = ((UInt8.ofNat (h / 256 ^ (7 - i))).toNat : Int) := by
 have e1 : min (8 * (7 - (i : Int))).toNat 64 = 8 * (7 - i) := by omega
 have e2 : ((2 : Int) ^ (8 * (7 - i))) = ((256 ^ (7 - i) : Nat) : Int) := by rw [Int.natCast_pow, Int.pow_mul]; rfl
 rw [e1, e2, Int.fdiv_eq_ediv_of_nonneg _ (Int.natCast_nonneg _), ← Int.natCast_ediv, qi4, UInt8.toNat_ofNat']
 omega
theorem qr1 (h : Nat) {i : Nat} (hi : i < 8) : (((be8 h).take i ++ List.replicate (8 - i) 0).map zh).set i (D.int .u8 ((UInt8.ofNat (h / 256 ^ (7 - i))).toNat : Int)) = ((be8 h).take (i + 1) ++ List.replicate (8 - (i + 1)) 0).map zh := by
 have h8 := k8 h
 have hl : ((be8 h).take i).length = i := by rw [List.length_take]; omega
 have e : D.int .u8 ((UInt8.ofNat (h / 256 ^ (7 - i))).toNat : Int) = zh ((be8 h)[i]'(by omega)) := by rw [xfw h hi]; rfl
 rw [e, ← List.map_set, List.set_append_right _ _ (by omega), hl, Nat.sub_self, List.take_succ_eq_append_getElem (by omega), show 8 - i = (8 - (i + 1)) + 1 by omega, List.replicate_succ, List.set_cons_zero, List.append_assoc, List.cons_append, List.nil_append]
theorem yu (ds : List D) (i : Nat) (x : D) : (ds.map ASlot.d).set i (.d x) = (ds.set i x).map .d := by rw [List.map_set]
theorem qf6 : zh 0 = .int .u8 0 := rfl
theorem qr2 (h : Nat) : (be8 h).take 8 = be8 h := List.take_of_length_le (Nat.le_of_eq (k8 h))
def qcn (k : Nat) (f0 : Fr) (os : List AObj) (h : Nat) (i : { i : Nat // i ≤ 8 }) : St :=
 ⟨(6, true, .d (.int .u64 (h : Nat))) :: (7, true, .d (.ptr (k + 1) 0)) :: (5, true, .d (.ptr k 0)) :: (12, true, .d (.int .i64 (i.val : Nat))) :: f0, os ++ [.row ((List.replicate 8 (D.int .u8 0)).map .d), .row ((((be8 h).take i.val ++ List.replicate (8 - i.val) 0).map zh).map .d)], [], 1⟩
theorem qx7 (h : Nat) (s : List UInt8) (hh : h < 18446744073709551616) (hl : s.length ≤ 1000000000) : ql Try.prog 94 [.d (.int .u64 h), .d (.ref 0 0 1 s.length)] [.row ((s.map zh).map .d)] (.tup [.d (.int .u64 (fnv h s : Nat)), .d (.agg ((be8 (fnv h s)).map zh))]) [.row ((s.map zh).map .d)] := by
 refine F94.goT ?_
 try (refine ev ?_; try exact True.intro)
 (repeat (with_reducible refine ob ?_)); refine clO [0] xh2 (q3k h s hh hl) ?_
 try (refine ev ?_; try exact True.intro)
 refine qy (qcn 1 [] [.row ((s.map zh).map .d)] (fnv h s)) (fun i => 8 - i.val) ⟨0, Nat.zero_le _⟩ ?_ (fun i => ?_)
 ·try (refine ev3 @qcn.eq_1 @List.take_zero.{0} @qf6 ?_; try exact True.intro)
 obtain ⟨i, hi⟩ := i
 try (refine ev1 @qcn.eq_1 ?_; try exact True.intro)
 refine jj _ (fun hc => ?_) (fun hc => ?_)
 ·have hil : i < 8 := by simp at hc; omega
  have e1 : IntKind.i64.wrap (7 - (i : Int)) = 7 - i := xx (by unfold I64; omega)
  have e2 : IntKind.i64.wrap (8 * (7 - (i : Int))) = 8 * (7 - i) := xx (by unfold I64; omega)
  have hlen := k8 (fnv h s)
  try simp only [Nat.mul_one, qmu _ _ hil, yu, qr1 _ hil, e1, e2, List.length_take, List.length_replicate, go_sem, Nat.reduceAdd, Nat.reduceMul, Nat.reduceSub, Nat.reduceEqDiff, Nat.reduceLT, Nat.reduceLeDiff, Nat.reduceBEq, reduceIte, reduceCtorEq, Int.reduceAdd, Int.reduceLT, Int.reduceLE, Int.reduceGT, Int.reduceGE, Int.reduceEq, Int.reduceNe, Int.reduceBEq, Int.reduceBNe, Int.reduceToNat, Int.reduceNeg]
  (repeat (with_reducible refine ob ?_))
  refine ⟨⟨i + 1, hil⟩, ?_, by dsimp only; omega⟩
  try (refine ev2 @qcn.eq_1 (qv (show i < 9223372036854775807 by omega)) ?_; try exact True.intro)
 ·have hie : i = 8 := by simp at hc; omega
  subst hie
  try (refine ev3 @qr2 @be8.eq_1 @zh.eq_1 ?_; try exact True.intro)
def num1 (h : Nat) (c : UInt8) : Nat := h * 256 + c.toNat
def qkg (s : List UInt8) : Nat := s.foldl num1 0
def qdc (file : List UInt8) : Nat := if file.length < 8 then 14695981039346656037 else qkg (file.drop (file.length - 8))
theorem qla (s : List UInt8) (c : UInt8) : qkg (s ++ [c]) = qkg s * 256 + c.toNat := by unfold qkg; rw [List.foldl_append, List.foldl_cons, List.foldl_nil]; rfl
theorem qmv : ∀ (n : Nat) (s : List UInt8), s.length = n → qkg s < 256 ^ n
 | 0, s, h => by cases s <;> simp at h; simp [qkg]
 | n + 1, s, h => by
  rcases List.eq_nil_or_concat s with rfl | ⟨t, c, rfl⟩
  ·simp at h
  ·rw [List.concat_eq_append] at h ⊢
   have h1 := qmv n t (by simpa using h)
   have h2 := qcm c
   rw [qla, Nat.pow_succ]
   omega
theorem qtg (a b : Nat) (ha : a < 18446744073709551616) (hb : b < 18446744073709551616) : bvOr 64 (a : Int) (b : Int) = ((a ||| b : Nat) : Int) := by
 unfold bvOr
 rw [BitVec.ofInt_natCast, BitVec.ofInt_natCast, BitVec.toNat_or, BitVec.toNat_ofNat, BitVec.toNat_ofNat, Nat.mod_eq_of_lt ha, Nat.mod_eq_of_lt hb]
theorem xl7 (a c : Nat) (hc : c < 256) : a * 256 ||| c = a * 256 + c := by
 have := Nat.shiftLeft_add_eq_or_of_lt (i := 8) (b := c) (by omega) a
 rw [Nat.shiftLeft_eq] at this
 exact this.symm
theorem qx8 (a c : Nat) (ha : a < 72057594037927936) (hc : c < 256) : IntKind.u64.wrap (bvOr 64 (IntKind.u64.wrap ((a : Int) * 2 ^ min 8 64)) (IntKind.u64.wrap (c : Int))) = ((a * 256 + c : Nat) : Int) := by
 have e1 : IntKind.u64.wrap ((a : Int) * 2 ^ min 8 64) = ((a * 256 : Nat) : Int) := by
  rw [qdz]
  show (a : Int) * 256 % 18446744073709551616 = _
  omega
 rw [e1, f2 c (by omega), qtg _ _ (by omega) (by omega), xl7 a c hc, f2 _ (by omega)]
def q3l (s : List UInt8) (i : { i : Nat // i ≤ s.length }) : St :=
 ⟨[(3, true, .d (.int .u64 (qkg (s.take i.val) : Nat))), (13, true, .d (.sl 1 (qe s))), (14, true, .d (.int .i64 s.length)), (15, true, .d (.int .i64 (i.val : Nat)))], [], [], 1⟩
theorem wp (s : List UInt8) (n : Nat) : (qe s).drop n = qe (s.drop n) := by simp [qe]
theorem vj (s : List UInt8) (n : Nat) : (qe s).take n = qe (s.take n) := by simp [qe]
theorem xfx (file : List UInt8) (hl : file.length ≤ 1000000000) : ql Try.prog 92 [.d (.sl 1 (qe file))] [] (.d (.int .u64 (qdc file : Nat))) [] := by
 refine F92.go ?_
 try (refine ev ?_; try exact True.intro)
 refine jj _ (fun hc => ?_) (fun hc => ?_)
 ·have hb : qdc file = 14695981039346656037 := by unfold qdc; rw [if_pos (by simp at hc; omega)]
  try (refine ev1 @hb ?_; try exact True.intro)
 have h8 : 8 ≤ file.length := by simp at hc; omega
 have e1 : IntKind.i64.wrap ((file.length : Int) - 8) = ((file.length - 8 : Nat) : Int) := by rw [xx (by unfold I64; omega)]; omega
 have hb : qdc file = qkg (file.drop (file.length - 8)) := by unfold qdc; rw [if_neg (by omega)]
 have hd : (file.drop (file.length - 8)).length = 8 := by rw [List.length_drop]; omega
 generalize hs : file.drop (file.length - 8) = s at hb hd
 have e2 : s.take (file.length - (file.length - 8)) = s := List.take_of_length_le (by omega)
 try (refine ev6 @e1 @wp @vj @hs @e2 @hb ?_; try exact True.intro)
 (repeat (with_reducible refine ob ?_))
 refine qy (q3l s) (fun i => s.length - i.val) ⟨0, Nat.zero_le _⟩ ?_ (fun i => ?_)
 ·try (refine ev2 @q3l.eq_1 @List.take_zero.{0} ?_; try exact True.intro)
  simp [qkg]
 obtain ⟨i, hi⟩ := i
 try (refine ev1 @q3l.eq_1 ?_; try exact True.intro)
 (repeat (with_reducible refine ob ?_)); refine jj _ (fun h => ?_) (fun h => ?_)
 ·have hil : i < s.length := by simpa using h
  have hlt : qkg (s.take i) < 72057594037927936 := by
   have := qmv i (s.take i) (by rw [List.length_take]; omega)
   have h7 : 256 ^ i ≤ 256 ^ 7 := Nat.pow_le_pow_right (by decide) (by omega)
   have : (256 : Nat) ^ 7 = 72057594037927936 := by decide
   omega
  try (refine ev1 (jz s hil) ?_; try exact True.intro)
  (repeat (with_reducible refine ob ?_))
  try simp only [qx8 _ _ hlt (qcm s[i]), go_sem, Nat.reduceAdd, Nat.reduceMul, Nat.reduceSub, Nat.reduceEqDiff, Nat.reduceLT, Nat.reduceLeDiff, Nat.reduceBEq, reduceIte, reduceCtorEq, Int.reduceAdd, Int.reduceLT, Int.reduceLE, Int.reduceGT, Int.reduceGE, Int.reduceEq, Int.reduceNe, Int.reduceBEq, Int.reduceBNe, Int.reduceToNat, Int.reduceNeg]
  refine ⟨⟨i + 1, hil⟩, ?_, by dsimp only; omega⟩
  try (refine ev4 @q3l.eq_1 (qv (show i < 9223372036854775807 by omega)) (List.take_succ_eq_append_getElem hil) @qla ?_; try exact True.intro)
 ·have hie : i = s.length := by simp at h; omega
  subst hie
  try (refine ev1 @List.take_length.{0} ?_; try exact True.intro)
end Go.Proofs.Ytinnaedmdoengaa
namespace Go.Proofs.Ytinnaedmdoengaa
open Go.Abs
set_option linter.unusedSimpArgs false
theorem xfy {α : Type} [DecidableEq α] {l m : List α} {i : Nat} (h1 : i < l.length) (h2 : i < m.length) (h : l[i] ≠ m[i]) : decide (l = m) = false := by
 rw [decide_eq_false_iff_not]
 rintro rfl
 exact h rfl
theorem qg6 {α : Type} {l m : List α} {i : Nat} (h : l.take i = m.take i) (h1 : i < l.length) (h2 : i < m.length) (he : l[i] = m[i]) : l.take (i + 1) = m.take (i + 1) := by
 rw [List.take_succ_eq_append_getElem h1, List.take_succ_eq_append_getElem h2, h, he]
theorem xl8 (v w : AV) : (v.kind == w.kind && (v.n == w.n && v.s == w.s)) = decide (v = w) := by
 obtain ⟨a, b, c⟩ := v
 obtain ⟨d, e, f⟩ := w
 rw [Bool.eq_iff_iff]
 simp
noncomputable section
set_option maxRecDepth 100000
def xl9 : List SOper := [
 ⟨some 4, .mov (.k (.d (.bool false))), none⟩]
def xma : List SOper := [
 ⟨some 6, .mov (.t 0), none⟩,
 ⟨some 7, .len (.t 6), none⟩,
 ⟨some 8, .mov (.t 1), none⟩,
 ⟨some 9, .len (.t 8), none⟩,
 ⟨some 10, .bin .neq (.t 7) (.t 9), none⟩]
def xmb : List SOper := [
 ⟨some 4, .mov (.k (.d (.bool false))), none⟩]
def xmc : List SOper := [
 ⟨some 11, .mov (.t 0), none⟩,
 ⟨some 12, .len (.t 11), none⟩,
 ⟨some 13, .mov (.k (.d (.int .i64 0))), none⟩]
def xmd : List SOper := [
 ⟨some 14, .bin .lss (.t 13) (.t 12), none⟩]
def xme : List SOper := [
 ⟨some 15, .mov (.t 13), none⟩,
 ⟨some 5, .mov (.t 15), none⟩]
def xmf : List SOper := [
 ⟨some 16, .mov (.t 0), none⟩,
 ⟨some 17, .mov (.t 5), none⟩,
 ⟨some 18, .iaddr 3 (.t 16) (.t 17), none⟩,
 ⟨some 19, .load (some 3) (.t 18), none⟩,
 ⟨some 20, .mov (.t 1), none⟩,
 ⟨some 21, .mov (.t 5), none⟩,
 ⟨some 22, .iaddr 3 (.t 20) (.t 21), none⟩,
 ⟨some 23, .load (some 3) (.t 22), none⟩,
 ⟨some 24, .eqAgg true [.int, .int, .str] (.t 19) (.t 23), none⟩]
def xmg : List SOper := [
 ⟨some 4, .mov (.k (.d (.bool false))), none⟩]
def xmh : List SOper := [
 ⟨some 25, .bin .add (.t 13) (.k (.d (.int .i64 1))), none⟩,
 ⟨some 13, .mov (.t 25), none⟩]
def xfz : SCode := (.seq (.region xmd 0 []) (.seq (.cond (.t 14) .skip (.exit 0)) (.seq (.block 1 (.seq (.region xme 0 []) (.seq (.region xmf 0 []) (.cond (.t 24) (.seq (.region xmg 0 []) .ret) .skip)))) (.region xmh 0 []))))
theorem x6x : qg xfz.eq_1 := qh xfz.eq_1
def q6y : List SOper := [
 ⟨some 4, .mov (.k (.d (.bool true))), none⟩]
def s99 : SCode := (.seq (.region xl9 0 []) (.seq (.seq (.region xma 0 []) (.cond (.t 10) (.seq (.region xmb 0 []) .ret) .skip)) (.seq (.seq (.region xmc 0 []) (.block 0 (.loop xfz))) (.seq (.region q6y 0 []) .ret))))
theorem e99 : qg s99.eq_1 := qh s99.eq_1
theorem x6y : qa xl9.eq_1 := qc
theorem x6z : qa xma.eq_1 := qc
theorem x60 : qa xmb.eq_1 := qc
theorem x61 : qa xmc.eq_1 := qc
theorem x62 : qa xmd.eq_1 := qc
theorem x63 : qa xme.eq_1 := qc
theorem x64 : qa xmf.eq_1 := qc
theorem x65 : qa xmg.eq_1 := qc
theorem x66 : qa xmh.eq_1 := qc
theorem xmi : qa q6y.eq_1 := qc
attribute [go_sem] x6y x6z x60 x61 x62 x63 x64 x65 x66 x6x xmi e99
theorem F99 : FnIs Try.prog 99 Try.f99 [] news s99 [.tmp 4] 26 := x5 follows Try.func99
def q6z : List SOper := [
 ⟨some 4, .mov (.k (.d (.bool false))), none⟩]
def q60 : List SOper := [
 ⟨some 6, .mov (.t 0), none⟩,
 ⟨some 7, .len (.t 6), none⟩,
 ⟨some 8, .mov (.t 1), none⟩,
 ⟨some 9, .len (.t 8), none⟩,
 ⟨some 10, .bin .neq (.t 7) (.t 9), none⟩]
def q61 : List SOper := [
 ⟨some 4, .mov (.k (.d (.bool false))), none⟩]
def q62 : List SOper := [
 ⟨some 11, .mov (.t 0), none⟩,
 ⟨some 12, .len (.t 11), none⟩,
 ⟨some 13, .mov (.k (.d (.int .i64 0))), none⟩]
def q63 : List SOper := [
 ⟨some 14, .bin .lss (.t 13) (.t 12), none⟩]
def q64 : List SOper := [
 ⟨some 15, .mov (.t 13), none⟩,
 ⟨some 5, .mov (.t 15), none⟩]
def q65 : List SOper := [
 ⟨some 16, .mov (.t 0), none⟩,
 ⟨some 17, .mov (.t 5), none⟩,
 ⟨some 18, .iaddr 1 (.t 16) (.t 17), none⟩,
 ⟨some 19, .load none (.t 18), none⟩,
 ⟨some 20, .mov (.t 1), none⟩,
 ⟨some 21, .mov (.t 5), none⟩,
 ⟨some 22, .iaddr 1 (.t 20) (.t 21), none⟩,
 ⟨some 23, .load none (.t 22), none⟩,
 ⟨some 24, .bin .neq (.t 19) (.t 23), none⟩]
def q66 : List SOper := [
 ⟨some 4, .mov (.k (.d (.bool false))), none⟩]
def q67 : List SOper := [
 ⟨some 25, .bin .add (.t 13) (.k (.d (.int .i64 1))), none⟩,
 ⟨some 13, .mov (.t 25), none⟩]
def qx9 : SCode := (.seq (.region q63 0 []) (.seq (.cond (.t 14) .skip (.exit 0)) (.seq (.block 1 (.seq (.region q64 0 []) (.seq (.region q65 0 []) (.cond (.t 24) (.seq (.region q66 0 []) .ret) .skip)))) (.region q67 0 []))))
theorem xmj : qg qx9.eq_1 := qh qx9.eq_1
def qya : List SOper := [
 ⟨some 4, .mov (.k (.d (.bool true))), none⟩]
def s100 : SCode := (.seq (.region q6z 0 []) (.seq (.seq (.region q60 0 []) (.cond (.t 10) (.seq (.region q61 0 []) .ret) .skip)) (.seq (.seq (.region q62 0 []) (.block 0 (.loop qx9))) (.seq (.region qya 0 []) .ret))))
theorem zhz : qg s100.eq_1 := qh s100.eq_1
theorem xmk : qa q6z.eq_1 := qc
theorem xml : qa q60.eq_1 := qc
theorem xmm : qa q61.eq_1 := qc
theorem xmn : qa q62.eq_1 := qc
theorem xmo : qa q63.eq_1 := qc
theorem xmp : qa q64.eq_1 := qc
theorem xmq : qa q65.eq_1 := qc
theorem xmr : qa q66.eq_1 := qc
theorem xms : qa q67.eq_1 := qc
theorem xf0 : qa qya.eq_1 := qc
attribute [go_sem] xmk xml xmm xmn xmo xmp xmq xmr xms xmj xf0 zhz
theorem x67 : FnIs Try.prog 100 Try.f100 [] news s100 [.tmp 4] 26 := x5 follows Try.func100
def q68 : List SOper := [
 ⟨some 2, .mov (.k (.d .nilsl)), none⟩]
def q69 : List SOper := [
 ⟨some 3, .mov (.t 0), none⟩,
 ⟨some 4, .eqnilS false (.t 3), none⟩]
def q7a : List SOper := [
 ⟨some 2, .mov (.k (.d .nilsl)), none⟩]
def q7b : List SOper := [
 ⟨some 5, .buildSlice false 3 0 [(.int .i64 0), (.int .i64 0), (.str [])] [], none⟩,
 ⟨some 6, .mov (.t 0), none⟩,
 ⟨some 7, .append false 3 32 (.t 5) (.t 6), none⟩,
 ⟨some 2, .mov (.t 7), none⟩]
def s102 : SCode := (.seq (.region q68 0 []) (.seq (.seq (.region q69 0 []) (.cond (.t 4) (.seq (.region q7a 0 []) .ret) .skip)) (.seq (.region q7b 0 []) .ret)))
theorem zh0 : qg s102.eq_1 := qh s102.eq_1
theorem xmt : qa q68.eq_1 := qc
theorem xmu : qa q69.eq_1 := qc
theorem xmv : qa q7a.eq_1 := qc
theorem xmw : qa q7b.eq_1 := qc
attribute [go_sem] xmt xmu xmv xmw zh0
theorem x4m : FnIs Try.prog 102 Try.f102 [] news s102 [.tmp 2] 8 := x5 follows Try.func102
def q7c : List SOper := [
 ⟨some 2, .mov (.k (.d .nilsl)), none⟩]
def q7d : List SOper := [
 ⟨some 3, .mov (.t 0), none⟩,
 ⟨some 4, .eqnilS false (.t 3), none⟩]
def q7e : List SOper := [
 ⟨some 2, .mov (.k (.d .nilsl)), none⟩]
def q7f : List SOper := [
 ⟨some 5, .buildSlice false 1 0 [(.int .i64 0)] [], none⟩,
 ⟨some 6, .mov (.t 0), none⟩,
 ⟨some 7, .append false 1 8 (.t 5) (.t 6), none⟩,
 ⟨some 2, .mov (.t 7), none⟩]
def s103 : SCode := (.seq (.region q7c 0 []) (.seq (.seq (.region q7d 0 []) (.cond (.t 4) (.seq (.region q7e 0 []) .ret) .skip)) (.seq (.region q7f 0 []) .ret)))
theorem zh1 : qg s103.eq_1 := qh s103.eq_1
theorem xmx : qa q7c.eq_1 := qc
theorem xmy : qa q7d.eq_1 := qc
theorem xmz : qa q7e.eq_1 := qc
theorem xm0 : qa q7f.eq_1 := qc
attribute [go_sem] xmx xmy xmz xm0 zh1
theorem x4n : FnIs Try.prog 103 Try.f103 [] news s103 [.tmp 2] 8 := x5 follows Try.func103
def xm1 : List SOper := [
 ⟨some 2, .box 2 (.t 0), none⟩,
 ⟨some 3, .box 1 (.t 1), none⟩,
 ⟨some 4, .mov (.k (.d (.bool false))), none⟩]
def xm2 : List SOper := [
 ⟨some 5, .faddr 0 (.t 2), none⟩,
 ⟨some 6, .load none (.t 5), none⟩,
 ⟨some 7, .faddr 0 (.t 3), none⟩,
 ⟨some 8, .load none (.t 7), none⟩,
 ⟨some 9, .bin .eql (.t 6) (.t 8), none⟩,
 ⟨some 10, .mov (.t 9), none⟩,
 ⟨some 11, .faddr 1 (.t 2), some (10, true)⟩,
 ⟨some 12, .load none (.t 11), some (10, true)⟩,
 ⟨some 13, .faddr 1 (.t 3), some (10, true)⟩,
 ⟨some 14, .load none (.t 13), some (10, true)⟩,
 ⟨some 15, .bin .eql (.t 12) (.t 14), some (10, true)⟩,
 ⟨some 16, .pick (.t 10) (.t 15) (.k (.d (.bool false))), none⟩,
 ⟨some 17, .mov (.t 16), none⟩,
 ⟨some 18, .faddr 2 (.t 2), some (17, true)⟩,
 ⟨some 19, .load none (.t 18), some (17, true)⟩,
 ⟨some 20, .faddr 2 (.t 3), some (17, true)⟩,
 ⟨some 21, .load none (.t 20), some (17, true)⟩,
 ⟨some 22, .bin .eql (.t 19) (.t 21), some (17, true)⟩,
 ⟨some 23, .pick (.t 17) (.t 22) (.k (.d (.bool false))), none⟩,
 ⟨some 24, .mov (.t 23), none⟩,
 ⟨some 25, .faddr 3 (.t 2), some (24, true)⟩,
 ⟨some 26, .load none (.t 25), some (24, true)⟩,
 ⟨some 27, .faddr 3 (.t 3), some (24, true)⟩,
 ⟨some 28, .load none (.t 27), some (24, true)⟩,
 ⟨some 29, .bin .eql (.t 26) (.t 28), some (24, true)⟩,
 ⟨some 30, .pick (.t 24) (.t 29) (.k (.d (.bool false))), none⟩,
 ⟨some 31, .mov (.t 30), none⟩,
 ⟨some 32, .faddr 4 (.t 2), some (31, true)⟩,
 ⟨some 33, .load none (.t 32), some (31, true)⟩,
 ⟨some 34, .faddr 4 (.t 3), some (31, true)⟩,
 ⟨some 35, .load none (.t 34), some (31, true)⟩,
 ⟨some 36, .bin .eql (.t 33) (.t 35), some (31, true)⟩,
 ⟨some 37, .pick (.t 31) (.t 36) (.k (.d (.bool false))), none⟩,
 ⟨some 38, .mov (.t 37), none⟩,
 ⟨some 39, .faddr 5 (.t 2), some (38, true)⟩,
 ⟨some 40, .load none (.t 39), some (38, true)⟩,
 ⟨some 41, .faddr 5 (.t 3), some (38, true)⟩,
 ⟨some 42, .load none (.t 41), some (38, true)⟩,
 ⟨some 43, .bin .eql (.t 40) (.t 42), some (38, true)⟩,
 ⟨some 44, .pick (.t 38) (.t 43) (.k (.d (.bool false))), none⟩,
 ⟨some 45, .mov (.t 44), none⟩,
 ⟨some 46, .faddr 6 (.t 2), some (45, true)⟩,
 ⟨some 47, .load none (.t 46), some (45, true)⟩,
 ⟨some 48, .faddr 6 (.t 3), some (45, true)⟩,
 ⟨some 49, .load none (.t 48), some (45, true)⟩,
 ⟨some 50, .bin .eql (.t 47) (.t 49), some (45, true)⟩,
 ⟨some 51, .pick (.t 45) (.t 50) (.k (.d (.bool false))), none⟩,
 ⟨some 52, .mov (.t 51), none⟩,
 ⟨some 53, .faddr 7 (.t 2), some (52, true)⟩,
 ⟨some 54, .load none (.t 53), some (52, true)⟩,
 ⟨some 55, .faddr 7 (.t 3), some (52, true)⟩,
 ⟨some 56, .load none (.t 55), some (52, true)⟩,
 ⟨some 57, .call (.k (.d (.func (.func 99) [] []))) [(.t 54), (.t 56)], some (52, true)⟩,
 ⟨some 58, .pick (.t 52) (.t 57) (.k (.d (.bool false))), none⟩,
 ⟨some 59, .mov (.t 58), none⟩,
 ⟨some 60, .faddr 8 (.t 2), some (59, true)⟩,
 ⟨some 61, .load none (.t 60), some (59, true)⟩,
 ⟨some 62, .faddr 8 (.t 3), some (59, true)⟩,
 ⟨some 63, .load none (.t 62), some (59, true)⟩,
 ⟨some 64, .call (.k (.d (.func (.func 100) [] []))) [(.t 61), (.t 63)], some (59, true)⟩,
 ⟨some 65, .pick (.t 59) (.t 64) (.k (.d (.bool false))), none⟩,
 ⟨some 4, .mov (.t 65), none⟩]
def s49 : SCode := (.seq (.region xm1 2 []) (.seq (.region xm2 0 []) .ret))
theorem e49 : qg s49.eq_1 := qh s49.eq_1
theorem x68 : qa xm1.eq_1 := qc
theorem x69 : qa xm2.eq_1 := qc
attribute [go_sem] x68 x69 e49
theorem F49 : FnIs Try.prog 49 Try.f49 [] news s49 [.tmp 4] 66 := x5 follows Try.func49
end
def Seq {α : Type} (es : Nat) (enc : α → List D) (l m : List α) (i : { i : Nat // l.take i = m.take i }) : St :=
 ⟨[(0, true, .d (.sl es (l.map enc))), (1, true, .d (.sl es (m.map enc))), (12, true, .d (.int .i64 l.length)), (13, true, .d (.int .i64 (i.val : Nat)))], [], [], 1⟩
theorem xm3 (l m : List AV) (hl : l.length ≤ maxLen) :
  ql Try.prog 99 [.d (.sl 3 (l.map zb)), .d (.sl 3 (m.map zb))] [] (.d (.bool (decide (l = m)))) [] := by
 first | refine F99.go ?_ | refine F99.goT ?_
 (refine ev ?_; try exact True.intro)
 refine xd _ rfl rfl (fun h => ?_) (fun h => ?_)
 ·have hne : decide (l = m) = false := by rw [decide_eq_false_iff_not]; rintro rfl; simp at h
  (refine ev1 @hne ?_; try exact True.intro)
 ·have hlm : l.length = m.length := by simp at h; omega
  (refine ev ?_; try exact True.intro)
  refine qy (Seq 3 zb l m) (fun i => l.length - i.val) ⟨0, rfl⟩ ?_ (fun i => ?_)
  ·(refine ev2 @Seq.eq_1 (xl jy) ?_; try exact True.intro)
  ·obtain ⟨i, hi⟩ := i
   (refine ev1 @Seq.eq_1 ?_; try exact True.intro)
   refine xd _ rfl rfl (fun h => ?_) (fun h => ?_)
   ·have hil : i < l.length := by simpa using h
    have him : i < m.length := by omega
    (refine ev4 (xg zb l hil) (xg zb m him) @zb.eq_1 @xl8 ?_; try exact True.intro)
    refine ⟨by omega, by omega, ?_⟩
    refine xd _ rfl rfl (fun h2 => ?_) (fun h2 => ?_)
    ·have hne : l[i] ≠ m[i] := by simpa using h2
     (refine ev1 (xfy hil him hne) ?_; try exact True.intro)
    ·have he : l[i] = m[i] := by simpa using h2
     (refine ev ?_; try exact True.intro)
     refine ⟨⟨i + 1, qg6 hi hil him he⟩, ?_, by dsimp only; omega⟩
     (refine ev3 @Seq.eq_1 (qv (show i < 9223372036854775807 by unfold maxLen at hl; omega)) (xl jy) ?_; try exact True.intro)
   ·have he : decide (l = m) = true := by
     have : l.length ≤ i := by simpa using h
     rw [List.take_of_length_le this, List.take_of_length_le (by omega)] at hi
     simp [hi]
    (refine ev1 @he ?_; try exact True.intro)
theorem qo6 (l : List AV) (hl : l.length ≤ 1000000) :
  ql Try.prog 102 [.d (.sl 3 (l.map zb))] [] (.d (.sl 3 (l.map zb))) [] := by
 first | refine x4m.go ?_ | refine x4m.goT ?_
 (refine ev ?_; try exact True.intro)
 refine qrl rfl rfl (fun b hb => ?_)
 try (refine ev ?_; try exact True.intro)
 refine xd _ rfl rfl (fun h => ?_) (fun h => ?_)
 ·try (refine ev1 (hb h) ?_; try exact True.intro)
 ·try (refine ev ?_; try exact True.intro)
  omega
theorem qo7 (l : List Int) (hl : l.length ≤ 1000000) :
  ql Try.prog 103 [.d (.sl 1 (l.map encI))] [] (.d (.sl 1 (l.map encI))) [] := by
 first | refine x4n.go ?_ | refine x4n.goT ?_
 (refine ev ?_; try exact True.intro)
 refine qrl rfl rfl (fun b hb => ?_)
 try (refine ev ?_; try exact True.intro)
 refine xd _ rfl rfl (fun h => ?_) (fun h => ?_)
 ·try (refine ev1 (hb h) ?_; try exact True.intro)
 ·try (refine ev ?_; try exact True.intro)
  omega
theorem xm4 (l m : List Int) (hl : l.length ≤ maxLen) :
  ql Try.prog 100 [.d (.sl 1 (l.map encI)), .d (.sl 1 (m.map encI))] [] (.d (.bool (decide (l = m)))) [] := by
 first | refine x67.go ?_ | refine x67.goT ?_
 (refine ev ?_; try exact True.intro)
 refine xd _ rfl rfl (fun h => ?_) (fun h => ?_)
 ·have hne : decide (l = m) = false := by rw [decide_eq_false_iff_not]; rintro rfl; simp at h
  try (refine ev1 @hne ?_; try exact True.intro)
 ·have hlm : l.length = m.length := by simp at h; omega
  try (refine ev ?_; try exact True.intro)
  refine qy (Seq 1 encI l m) (fun i => l.length - i.val) ⟨0, rfl⟩ ?_ (fun i => ?_)
  ·try (refine ev1 @Seq.eq_1 ?_; try exact True.intro)
  ·obtain ⟨i, hi⟩ := i
   try (refine ev1 @Seq.eq_1 ?_; try exact True.intro)
   refine xd _ rfl rfl (fun h => ?_) (fun h => ?_)
   ·have hil : i < l.length := by simpa using h
    have him : i < m.length := by omega
    try (refine ev3 (xg encI l hil) (xg encI m him) @encI.eq_1 ?_; try exact True.intro)
    refine ⟨by omega, by omega, ?_⟩
    refine xd _ rfl rfl (fun h2 => ?_) (fun h2 => ?_)
    ·have hne : l[i] ≠ m[i] := by simpa using h2
     try (refine ev1 (xfy hil him hne) ?_; try exact True.intro)
    ·have he : l[i] = m[i] := by simpa using h2
     try (refine ev ?_; try exact True.intro)
     refine ⟨⟨i + 1, qg6 hi hil him he⟩, ?_, by dsimp only; omega⟩
     try (refine ev2 @Seq.eq_1 (qv (show i < 9223372036854775807 by unfold maxLen at hl; omega)) ?_; try exact True.intro)
   ·have he : decide (l = m) = true := by
     have : l.length ≤ i := by simpa using h
     rw [List.take_of_length_le this, List.take_of_length_le (by omega)] at hi
     simp [hi]
    try (refine ev1 @he ?_; try exact True.intro)
theorem xm5 (p q : Pk) : (p.kind == q.kind && p.sess == q.sess && p.epoch == q.epoch && p.from_ == q.from_ && p.to == q.to && p.seq == q.seq && p.label == q.label && decide (p.values = q.values) && decide (p.clock = q.clock)) = decide (p = q) := by
 obtain ⟨a1, a2, a3, a4, a5, a6, a7, a8, a9⟩ := p
 obtain ⟨b1, b2, b3, b4, b5, b6, b7, b8, b9⟩ := q
 rw [Bool.eq_iff_iff]
 simp [and_assoc]
set_option maxRecDepth 10000 in
theorem qf7 (p q : Pk) (h1 : p.values.length ≤ maxLen) (h2 : p.clock.length ≤ maxLen) :
  ql Try.prog 49 [.d (.agg (qk p)), .d (.agg (qk q))] [] (.d (.bool (decide (p = q)))) [] := by
 first | refine F49.go ?_ | refine F49.goT ?_
 (refine ev1 @qk.eq_1 ?_; try exact True.intro)
 (repeat (with_reducible refine ob ?_)); refine cl F99 (xm3 p.values q.values h1) ?_
 try (refine ev ?_; try exact True.intro)
 (repeat (with_reducible refine ob ?_)); refine cl x67 (xm4 p.clock q.clock h2) ?_
 try (refine ev1 @xm5 ?_; try exact True.intro)
end Go.Proofs.Ytinnaedmdoengaa
namespace Go.Proofs.Ytinnaedmdoengaa
open Go.Abs
set_option linter.unusedSimpArgs false
def qco (g : Nat → Bool) (n : Nat) : Bool := (List.range n).all g
theorem qva (g : Nat → Bool) (n : Nat) : qco g (n + 1) = (qco g n && g n) := by simp [qco, List.range_succ]
theorem qf8 {g : Nat → Bool} {n : Nat} (h : qco g n = true) (hg : g n = true) : qco g (n + 1) = true := by rw [qva, h, hg]; rfl
theorem qth {g : Nat → Bool} {i n : Nat} (hi : i < n) (hg : g i = false) : qco g n = false := by
 simp only [qco, List.all_eq_false]
 exact ⟨i, by simpa using hi, by simp [hg]⟩
theorem ye {g : Nat → Bool} {n : Nat} : qco g n = true ↔ ∀ i, i < n → g i = true := by simp [qco]
structure Qu where
 acc : Int
 cons : Int
 items : List Pk
 deriving DecidableEq, Inhabited
def encQ (q : Qu) : List D := [.int .i64 q.acc, .int .i64 q.cons, .sl 9 (q.items.map qk)]
theorem qvb (q : Qu) : D.noPtrL (encQ q) = true := by (refine ev1 @encQ.eq_1 ?_; try exact True.intro)
attribute [go_sem] qvb
def Pk.Sm (p : Pk) : Prop := p.values.length ≤ 1000 ∧ p.clock.length ≤ 1000
def Qu.Sm (q : Qu) : Prop := q.items.length ≤ 1000 ∧ ∀ p ∈ q.items, p.Sm
theorem Pk.Sm.v {p : Pk} (h : p.Sm) : p.values.length ≤ maxLen := by have := h.1; unfold maxLen; omega
theorem Pk.Sm.c {p : Pk} (h : p.Sm) : p.clock.length ≤ maxLen := by have := h.2; unfold maxLen; omega
noncomputable section
set_option maxRecDepth 100000
def xm6 : List SOper := [
 ⟨some 1, .box 1 (.t 0), none⟩,
 ⟨some 2, .mov (.k (.d (.bool false))), none⟩]
def xm7 : List SOper := [
 ⟨some 3, .faddr 0 (.t 1), none⟩,
 ⟨some 4, .load none (.t 3), none⟩,
 ⟨some 5, .bin .eql (.t 4) (.k (.d (.int .i64 1))), none⟩,
 ⟨some 6, .mov (.t 5), none⟩,
 ⟨some 7, .load (some 9) (.t 1), some (6, true)⟩,
 ⟨some 8, .call (.k (.d (.func (.func 101) [] []))) [(.t 7)], some (6, true)⟩,
 ⟨some 9, .pick (.t 6) (.t 8) (.k (.d (.bool false))), none⟩,
 ⟨some 2, .mov (.t 9), none⟩]
def s51 : SCode := (.seq (.region xm6 1 []) (.seq (.region xm7 0 []) .ret))
theorem e51 : qg s51.eq_1 := qh s51.eq_1
theorem x7a : qa xm6.eq_1 := qc
theorem x7b : qa xm7.eq_1 := qc
attribute [go_sem] x7a x7b e51
theorem F51 : FnIs Try.prog 51 Try.f51 [] news s51 [.tmp 2] 10 := x5 follows Try.func51
def xm8 : List SOper := [
 ⟨some 2, .box 2 (.t 0), none⟩,
 ⟨some 3, .box 1 (.t 1), none⟩,
 ⟨some 4, .mov (.k (.d (.bool false))), none⟩]
def xm9 : List SOper := [
 ⟨some 5, .faddr 1 (.t 2), none⟩,
 ⟨some 6, .load none (.t 5), none⟩,
 ⟨some 7, .faddr 1 (.t 3), none⟩,
 ⟨some 8, .load none (.t 7), none⟩,
 ⟨some 9, .bin .eql (.t 6) (.t 8), none⟩,
 ⟨some 10, .mov (.t 9), none⟩,
 ⟨some 11, .faddr 3 (.t 2), some (10, true)⟩,
 ⟨some 12, .load none (.t 11), some (10, true)⟩,
 ⟨some 13, .faddr 3 (.t 3), some (10, true)⟩,
 ⟨some 14, .load none (.t 13), some (10, true)⟩,
 ⟨some 15, .bin .eql (.t 12) (.t 14), some (10, true)⟩,
 ⟨some 16, .pick (.t 10) (.t 15) (.k (.d (.bool false))), none⟩,
 ⟨some 17, .mov (.t 16), none⟩,
 ⟨some 18, .faddr 4 (.t 2), some (17, true)⟩,
 ⟨some 19, .load none (.t 18), some (17, true)⟩,
 ⟨some 20, .faddr 4 (.t 3), some (17, true)⟩,
 ⟨some 21, .load none (.t 20), some (17, true)⟩,
 ⟨some 22, .bin .eql (.t 19) (.t 21), some (17, true)⟩,
 ⟨some 23, .pick (.t 17) (.t 22) (.k (.d (.bool false))), none⟩,
 ⟨some 4, .mov (.t 23), none⟩]
def s52 : SCode := (.seq (.region xm8 2 []) (.seq (.region xm9 0 []) .ret))
theorem e52 : qg s52.eq_1 := qh s52.eq_1
theorem x7c : qa xm8.eq_1 := qc
theorem x7d : qa xm9.eq_1 := qc
attribute [go_sem] x7c x7d e52
theorem F52 : FnIs Try.prog 52 Try.f52 [] news s52 [.tmp 4] 24 := x5 follows Try.func52
def xna : List SOper := [
 ⟨some 1, .box 1 (.t 0), none⟩,
 ⟨some 2, .mov (.k (.d (.bool false))), none⟩]
def xnb : List SOper := [
 ⟨some 5, .faddr 2 (.t 1), none⟩,
 ⟨some 6, .load none (.t 5), none⟩,
 ⟨some 7, .len (.t 6), none⟩,
 ⟨some 8, .mov (.k (.d (.int .i64 0))), none⟩]
def xnc : List SOper := [
 ⟨some 9, .bin .lss (.t 8) (.t 7), none⟩]
def xnd : List SOper := [
 ⟨some 10, .mov (.t 8), none⟩,
 ⟨some 11, .iaddr 9 (.t 6) (.t 8), none⟩,
 ⟨some 12, .load (some 9) (.t 11), none⟩,
 ⟨some 4, .alloc 1 [(.d (.int .i64 0)), (.d (.int .i64 0)), (.d (.int .i64 0)), (.d (.int .i64 0)), (.d (.int .i64 0)), (.d (.int .i64 0)), (.d (.int .i64 0)), (.d .nilsl), (.d .nilsl)], none⟩,
 ⟨some 3, .mov (.t 10), none⟩,
 ⟨none, .store (some 9) (.t 4) (.t 12), none⟩]
def xne : List SOper := [
 ⟨some 13, .load (some 9) (.t 4), none⟩,
 ⟨some 14, .call (.k (.d (.func (.func 51) [] []))) [(.t 13)], none⟩,
 ⟨some 15, .not (.t 14), none⟩,
 ⟨some 16, .mov (.t 15), none⟩,
 ⟨some 17, .load (some 9) (.t 4), some (16, false)⟩,
 ⟨some 18, .faddr 2 (.t 1), some (16, false)⟩,
 ⟨some 19, .load none (.t 18), some (16, false)⟩,
 ⟨some 20, .iaddr 9 (.t 19) (.k (.d (.int .i64 0))), some (16, false)⟩,
 ⟨some 21, .load (some 9) (.t 20), some (16, false)⟩,
 ⟨some 22, .call (.k (.d (.func (.func 52) [] []))) [(.t 17), (.t 21)], some (16, false)⟩,
 ⟨some 23, .not (.t 22), some (16, false)⟩,
 ⟨some 24, .pick (.t 16) (.k (.d (.bool true))) (.t 23), none⟩,
 ⟨some 25, .mov (.t 24), none⟩,
 ⟨some 26, .faddr 5 (.t 4), some (25, false)⟩,
 ⟨some 27, .load none (.t 26), some (25, false)⟩,
 ⟨some 28, .faddr 1 (.t 1), some (25, false)⟩,
 ⟨some 29, .load none (.t 28), some (25, false)⟩,
 ⟨some 30, .bin .add (.t 29) (.k (.d (.int .i64 1))), some (25, false)⟩,
 ⟨some 31, .mov (.t 3), some (25, false)⟩,
 ⟨some 32, .bin .add (.t 30) (.t 31), some (25, false)⟩,
 ⟨some 33, .bin .neq (.t 27) (.t 32), some (25, false)⟩,
 ⟨some 34, .pick (.t 25) (.k (.d (.bool true))) (.t 33), none⟩]
def xnf : List SOper := [
 ⟨some 2, .mov (.k (.d (.bool false))), none⟩]
def xng : List SOper := [
 ⟨some 35, .bin .add (.t 8) (.k (.d (.int .i64 1))), none⟩,
 ⟨some 8, .mov (.t 35), none⟩]
def xf1 : SCode := (.seq (.region xnc 0 []) (.seq (.cond (.t 9) .skip (.exit 0)) (.seq (.block 1 (.seq (.region xnd 1 []) (.seq (.region xne 0 []) (.cond (.t 34) (.seq (.region xnf 0 []) .ret) .skip)))) (.region xng 0 []))))
theorem x7e : qg xf1.eq_1 := qh xf1.eq_1
def xnh : List SOper := [
 ⟨some 36, .faddr 1 (.t 1), none⟩,
 ⟨some 37, .load none (.t 36), none⟩,
 ⟨some 38, .bin .geq (.t 37) (.k (.d (.int .i64 0))), none⟩,
 ⟨some 39, .mov (.t 38), none⟩,
 ⟨some 40, .faddr 1 (.t 1), some (39, true)⟩,
 ⟨some 41, .load none (.t 40), some (39, true)⟩,
 ⟨some 42, .faddr 0 (.t 1), some (39, true)⟩,
 ⟨some 43, .load none (.t 42), some (39, true)⟩,
 ⟨some 44, .bin .leq (.t 41) (.t 43), some (39, true)⟩,
 ⟨some 45, .pick (.t 39) (.t 44) (.k (.d (.bool false))), none⟩,
 ⟨some 46, .mov (.t 45), none⟩,
 ⟨some 47, .faddr 0 (.t 1), some (46, true)⟩,
 ⟨some 48, .load none (.t 47), some (46, true)⟩,
 ⟨some 49, .bin .leq (.t 48) (.k (.d (.int .i64 1099511627776))), some (46, true)⟩,
 ⟨some 50, .pick (.t 46) (.t 49) (.k (.d (.bool false))), none⟩,
 ⟨some 51, .mov (.t 50), none⟩,
 ⟨some 52, .faddr 2 (.t 1), some (51, true)⟩,
 ⟨some 53, .load none (.t 52), some (51, true)⟩,
 ⟨some 54, .len (.t 53), some (51, true)⟩,
 ⟨some 55, .faddr 0 (.t 1), some (51, true)⟩,
 ⟨some 56, .load none (.t 55), some (51, true)⟩,
 ⟨some 57, .faddr 1 (.t 1), some (51, true)⟩,
 ⟨some 58, .load none (.t 57), some (51, true)⟩,
 ⟨some 59, .bin .sub (.t 56) (.t 58), some (51, true)⟩,
 ⟨some 60, .bin .eql (.t 54) (.t 59), some (51, true)⟩,
 ⟨some 61, .pick (.t 51) (.t 60) (.k (.d (.bool false))), none⟩,
 ⟨some 62, .mov (.t 61), none⟩,
 ⟨some 63, .faddr 2 (.t 1), some (62, true)⟩,
 ⟨some 64, .load none (.t 63), some (62, true)⟩,
 ⟨some 65, .len (.t 64), some (62, true)⟩,
 ⟨some 66, .bin .leq (.t 65) (.k (.d (.int .i64 4))), some (62, true)⟩,
 ⟨some 67, .pick (.t 62) (.t 66) (.k (.d (.bool false))), none⟩,
 ⟨some 2, .mov (.t 67), none⟩]
def s50 : SCode := (.seq (.region xna 1 []) (.seq (.seq (.region xnb 0 []) (.block 0 (.loop xf1))) (.seq (.region xnh 0 []) .ret)))
theorem e50 : qg s50.eq_1 := qh s50.eq_1
theorem x7f : qa xna.eq_1 := qc
theorem x7g : qa xnb.eq_1 := qc
theorem x7h : qa xnc.eq_1 := qc
theorem x7i : qa xnd.eq_1 := qc
theorem x7j : qa xne.eq_1 := qc
theorem x7k : qa xnf.eq_1 := qc
theorem x7l : qa xng.eq_1 := qc
theorem x7m : qa xnh.eq_1 := qc
attribute [go_sem] x7f x7g x7h x7i x7j x7k x7l x7e x7m e50
theorem F50 : FnIs Try.prog 50 Try.f50 [] news s50 [.tmp 2] 68 := x5 follows Try.func50
def xni : List SOper := [
 ⟨some 1, .box 2 (.t 0), none⟩,
 ⟨some 2, .alloc 1 [(.d (.int .i64 0)), (.d (.int .i64 0)), (.d (.int .i64 0)), (.d (.int .i64 0)), (.d (.int .i64 0)), (.d (.int .i64 0)), (.d (.int .i64 0)), (.d .nilsl), (.d .nilsl)], none⟩]
def xnj : List SOper := [
 ⟨some 3, .faddr 7 (.t 1), none⟩,
 ⟨some 4, .load none (.t 3), none⟩,
 ⟨some 5, .call (.k (.d (.func (.func 102) [] []))) [(.t 4)], none⟩,
 ⟨some 6, .faddr 8 (.t 1), none⟩,
 ⟨some 7, .load none (.t 6), none⟩,
 ⟨some 8, .call (.k (.d (.func (.func 103) [] []))) [(.t 7)], none⟩,
 ⟨some 9, .faddr 7 (.t 1), none⟩,
 ⟨none, .store none (.t 9) (.t 5), none⟩,
 ⟨some 10, .faddr 8 (.t 1), none⟩,
 ⟨none, .store none (.t 10) (.t 8), none⟩]
def xnk : List SOper := [
 ⟨some 11, .load (some 9) (.t 1), none⟩,
 ⟨none, .store (some 9) (.t 2) (.t 11), none⟩]
def s54 : SCode := (.seq (.region xni 2 []) (.seq (.region xnj 0 [(2, 4)]) (.seq (.region xnk 0 []) .ret)))
theorem e54 : qg s54.eq_1 := qh s54.eq_1
theorem x7n : qa xni.eq_1 := qc
theorem x7o : qa xnj.eq_1 := qc
theorem x7p : qa xnk.eq_1 := qc
attribute [go_sem] x7n x7o x7p e54
theorem F54 : FnIs Try.prog 54 Try.f54 [] news s54 [.cell 2 (some 9)] 12 := x5 follows Try.func54
def xnl : List SOper := [
 ⟨some 2, .mov (.k (.d .nilsl)), none⟩]
def xnm : List SOper := [
 ⟨some 3, .mov (.k (.d .nilsl)), none⟩]
def xnn : List SOper := [
 ⟨some 6, .mov (.t 0), none⟩,
 ⟨some 7, .len (.t 6), none⟩,
 ⟨some 8, .mov (.k (.d (.int .i64 0))), none⟩]
def xno : List SOper := [
 ⟨some 9, .bin .lss (.t 8) (.t 7), none⟩]
def xnp : List SOper := [
 ⟨some 10, .iaddr 9 (.t 6) (.t 8), none⟩,
 ⟨some 11, .load (some 9) (.t 10), none⟩,
 ⟨some 5, .alloc 1 [(.d (.int .i64 0)), (.d (.int .i64 0)), (.d (.int .i64 0)), (.d (.int .i64 0)), (.d (.int .i64 0)), (.d (.int .i64 0)), (.d (.int .i64 0)), (.d .nilsl), (.d .nilsl)], none⟩,
 ⟨none, .store (some 9) (.t 5) (.t 11), none⟩]
def xnq : List SOper := [
 ⟨some 12, .mov (.t 3), none⟩,
 ⟨some 13, .load (some 9) (.t 5), none⟩,
 ⟨some 14, .call (.k (.d (.func (.func 54) [] []))) [(.t 13)], none⟩,
 ⟨some 15, .buildSlice false 9 1 [(.int .i64 0), (.int .i64 0), (.int .i64 0), (.int .i64 0), (.int .i64 0), (.int .i64 0), (.int .i64 0), .nilsl, .nilsl] [(0, 9, (.t 14))], none⟩,
 ⟨some 16, .append false 9 104 (.t 12) (.t 15), none⟩,
 ⟨some 3, .mov (.t 16), none⟩]
def xnr : List SOper := [
 ⟨some 17, .bin .add (.t 8) (.k (.d (.int .i64 1))), none⟩,
 ⟨some 8, .mov (.t 17), none⟩]
def xf2 : SCode := (.seq (.region xno 0 []) (.seq (.cond (.t 9) .skip (.exit 0)) (.seq (.block 1 (.seq (.region xnp 1 []) (.region xnq 0 []))) (.region xnr 0 []))))
theorem x7q : qg xf2.eq_1 := qh xf2.eq_1
def xns : List SOper := [
 ⟨some 18, .mov (.t 3), none⟩,
 ⟨some 2, .mov (.t 18), none⟩]
def s53 : SCode := (.seq (.region xnl 0 []) (.seq (.region xnm 0 []) (.seq (.seq (.region xnn 0 []) (.block 0 (.loop xf2))) (.seq (.region xns 0 []) .ret))))
theorem e53 : qg s53.eq_1 := qh s53.eq_1
theorem x7r : qa xnl.eq_1 := qc
theorem x7s : qa xnm.eq_1 := qc
theorem x7t : qa xnn.eq_1 := qc
theorem x7u : qa xno.eq_1 := qc
theorem x7v : qa xnp.eq_1 := qc
theorem x7w : qa xnq.eq_1 := qc
theorem x7x : qa xnr.eq_1 := qc
theorem x7y : qa xns.eq_1 := qc
attribute [go_sem] x7r x7s x7t x7u x7v x7w x7x x7q x7y e53
theorem F53 : FnIs Try.prog 53 Try.f53 [] news s53 [.tmp 2] 19 := x5 follows Try.func53
end
def qd0 (p : Pk) : Bool := p.kind == 1 && qz p
theorem qc4 (p : Pk) (hp : p.Sm) : ql Try.prog 51 [.d (.agg (qk p))] [] (.d (.bool (qd0 p))) [] := by
 first | refine F51.go ?_ | refine F51.goT ?_
 (refine ev1 @qk.eq_1 ?_; try exact True.intro)
 (repeat (with_reducible refine ob ?_)); first | refine cl q6e (vq p hp.v hp.c) ?_ | refine clF q6e (vq p hp.v hp.c) (fun _ => by (refine ev2 @qk.eq_1 @encQ.eq_1 ?_; try exact True.intro)) ?_
 try (refine ev ?_; try exact True.intro)
 rfl
def qr3 (p q : Pk) : Bool := p.sess == q.sess && p.from_ == q.from_ && p.to == q.to
theorem qhr (p q : Pk) : ql Try.prog 52 [.d (.agg (qk p)), .d (.agg (qk q))] [] (.d (.bool (qr3 p q))) [] := by
 first | refine F52.go ?_ | refine F52.goT ?_
 (refine ev1 @qk.eq_1 ?_; try exact True.intro)
 rfl
def qkh (q : Qu) (i : Nat) : Bool :=
 qd0 (q.items.getD i default) && qr3 (q.items.getD i default) (q.items.getD 0 default) && (q.items.getD i default).seq == IntKind.i64.wrap (IntKind.i64.wrap (q.cons + 1) + (i : Int))
def qar (q : Qu) : Bool := qco (qkh q) q.items.length && (decide (q.cons ≥ 0) && decide (q.cons ≤ q.acc) && decide (q.acc ≤ 1099511627776) && ((q.items.length : Int) == IntKind.i64.wrap (q.acc - q.cons)) && decide ((q.items.length : Int) ≤ 4))
def qmw (q : Qu) (i : { i : Nat // qco (qkh q) i = true }) : St :=
 ⟨[(1, true, .d (.ptr 0 0)), (6, true, .d (.sl 9 (q.items.map qk))), (7, true, .d (.int .i64 q.items.length)), (8, true, .d (.int .i64 (i.val : Nat)))],
  [.row [.d (.int .i64 q.acc), .d (.int .i64 q.cons), .d (.sl 9 (q.items.map qk))]], [], 1⟩
theorem qbx {α : Type} {l : List α} {i : Nat} (h : i < l.length) (d : α) : l.getD i d = l[i] := by simp [List.getD, h]
set_option maxRecDepth 10000 in
theorem wq (q : Qu) (hq : q.Sm) : ql Try.prog 50 [.d (.agg (encQ q))] [] (.d (.bool (qar q))) [] := by
 have hl := hq.1
 first | refine F50.go ?_ | refine F50.goT ?_
 (refine ev1 @encQ.eq_1 ?_; try exact True.intro)
 refine qy (qmw q) (fun i => q.items.length - i.val) ⟨0, rfl⟩ ?_ (fun i => ?_)
 ·try (refine ev1 @qmw.eq_1 ?_; try exact True.intro)
 ·obtain ⟨i, hi⟩ := i
  try (refine ev1 @qmw.eq_1 ?_; try exact True.intro)
  refine xd _ rfl rfl (fun h => ?_) (fun h => ?_)
  ·have hil : i < q.items.length := by simpa using h
   have h0 : 0 < q.items.length := by omega
   have hw : IntKind.i64.wrap (IntKind.i64.wrap (q.cons + 1) + (i : Int)) = IntKind.i64.wrap (IntKind.i64.wrap (q.cons + 1) + (i : Int)) := rfl
   (refine ev4 (xg qk q.items hil) (xg qk q.items h0) @Int.toNat_zero @qk.eq_1 ?_; try exact True.intro)
   refine ⟨by omega, ?_⟩
   (repeat (with_reducible refine ob ?_)); first | refine cl F51 (qc4 q.items[i] (hq.2 _ (List.getElem_mem hil))) ?_ | refine clF F51 (qc4 q.items[i] (hq.2 _ (List.getElem_mem hil))) (fun _ => by (refine ev2 @qk.eq_1 @encQ.eq_1 ?_; try exact True.intro)) ?_
   try (refine ev1 (xg qk q.items h0) ?_; try exact True.intro)
   refine ⟨fun _ => ⟨by omega, by omega⟩, by simp [qk], ?_⟩
   (refine ev1 @qk.eq_1 ?_; try exact True.intro)
   (repeat (with_reducible refine ob ?_)); first | refine cl F52 (qhr q.items[i] q.items[0]) ?_ | refine clF F52 (qhr q.items[i] q.items[0]) (fun _ => by (refine ev2 @qk.eq_1 @encQ.eq_1 ?_; try exact True.intro)) ?_
   try (refine ev ?_; try exact True.intro)
   (repeat (with_reducible refine ob ?_))
   have hx : (!qd0 q.items[i] || !qr3 q.items[i] q.items[0] || q.items[i].seq != IntKind.i64.wrap (IntKind.i64.wrap (q.cons + 1) + (i : Int))) = !qkh q i := by
    simp only [qkh, qbx hil, qbx h0, Bool.not_and]; rfl
   refine xd (!qkh q i) rfl ?_ (fun h2 => ?_) (fun h2 => ?_)
   ·try (refine ev1 @hx ?_; try exact True.intro)
   ·have hg : qkh q i = false := by simpa using h2
    (refine ev2 @qar.eq_1 (qth hil hg) ?_; try exact True.intro)
   ·have hg : qkh q i = true := by simpa using h2
    try (refine ev ?_; try exact True.intro)
    refine ⟨⟨i + 1, qf8 hi hg⟩, ?_, by dsimp only; omega⟩
    try (refine ev2 @qmw.eq_1 (qv (show i < 9223372036854775807 by omega)) ?_; try exact True.intro)
  ·have hil : q.items.length ≤ i := by simpa using h
   have ha : qco (qkh q) q.items.length = true := ye.2 fun j hj => ye.1 hi j (by omega)
   try (refine ev ?_; try exact True.intro)
   (repeat (with_reducible refine ob ?_))
   (refine ev2 @qar.eq_1 @ha ?_; try exact True.intro)
theorem qas (p : Pk) (hp : p.Sm) : ql Try.prog 54 [.d (.agg (qk p))] [] (.d (.agg (qk p))) [] := by
 obtain ⟨h1, h2⟩ := hp
 first | refine F54.go ?_ | refine F54.goT ?_
 (refine ev1 @qk.eq_1 ?_; try exact True.intro)
 (repeat (with_reducible refine ob ?_)); first | refine cl x4m (qo6 p.values (by omega)) ?_ | refine clF x4m (qo6 p.values (by omega)) (fun _ => by (refine ev2 @qk.eq_1 @encQ.eq_1 ?_; try exact True.intro)) ?_
 try (refine ev ?_; try exact True.intro)
 (repeat (with_reducible refine ob ?_)); first | refine cl x4n (qo7 p.clock (by omega)) ?_ | refine clF x4n (qo7 p.clock (by omega)) (fun _ => by (refine ev2 @qk.eq_1 @encQ.eq_1 ?_; try exact True.intro)) ?_
 try (refine ev ?_; try exact True.intro)
def qmx (l : List Pk) (i : { i : Nat // i ≤ l.length }) : St :=
 ⟨[(3, true, .own 0 9 ((l.take i.val).map qk)), (6, true, .d (.sl 9 (l.map qk))), (7, true, .d (.int .i64 l.length)), (8, true, .d (.int .i64 (i.val : Nat)))], [], [0], 1⟩
set_option maxRecDepth 10000 in
theorem qi8 (l : List Pk) (hl : l.length ≤ 1000) (hp : ∀ p ∈ l, p.Sm) : ql Try.prog 53 [.d (.sl 9 (l.map qk))] [] (.own 0 9 (l.map qk)) [] := by
 first | refine F53.go ?_ | refine F53.goT ?_
 (refine ev ?_; try exact True.intro)
 refine qy (qmx l) (fun i => l.length - i.val) ⟨0, Nat.zero_le _⟩ ?_ (fun i => ?_)
 ·try (refine ev1 @qmx.eq_1 ?_; try exact True.intro)
  trace_state
 ·obtain ⟨i, hi⟩ := i
  try (refine ev1 @qmx.eq_1 ?_; try exact True.intro)
  refine xd _ rfl rfl (fun h => ?_) (fun h => ?_)
  ·have hil : i < l.length := by simpa using h
   (refine ev2 (xg qk l hil) @qk.eq_1 ?_; try exact True.intro)
   (repeat (with_reducible refine ob ?_))
   (repeat (with_reducible refine ob ?_)); first | refine cl F54 (qas l[i] (hp _ (List.getElem_mem hil))) ?_ | refine clF F54 (qas l[i] (hp _ (List.getElem_mem hil))) (fun _ => by (refine ev2 @qk.eq_1 @encQ.eq_1 ?_; try exact True.intro)) ?_
   (refine ev1 @qk.eq_1 ?_; try exact True.intro)
   have hlt : (l.take i).length ≤ 1000 := by simp; omega
   refine ⟨⟨by omega, by omega⟩, ⟨i + 1, hil⟩, ?_, by dsimp only; omega⟩
   (refine ev4 @qmx.eq_1 (qmi qk l hil) @qk.eq_1 (qv (show i < 9223372036854775807 by omega)) ?_; try exact True.intro)
  ·have hil : i = l.length := by
    have : l.length ≤ i := by simpa using h
    omega
   subst hil
   try (refine ev1 @List.take_length.{0} ?_; try exact True.intro)
end Go.Proofs.Ytinnaedmdoengaa
namespace Go.Proofs.Ytinnaedmdoengaa
open Go.Abs
set_option linter.unusedSimpArgs false
def x7 : Qu := ⟨0, 0, []⟩
theorem qe0 : qk default = [.int .i64 0, .int .i64 0, .int .i64 0, .int .i64 0, .int .i64 0, .int .i64 0, .int .i64 0, .sl 3 [], .sl 1 []] := rfl
noncomputable section
set_option maxRecDepth 100000
def xnt : List SOper := [
 ⟨some 2, .box 3 (.t 0), none⟩,
 ⟨some 3, .box 2 (.t 1), none⟩,
 ⟨some 4, .alloc 1 [(.d (.int .i64 0)), (.d (.int .i64 0)), (.d .nilsl)], none⟩,
 ⟨some 5, .mov (.k (.d (.int .i64 0))), none⟩]
def xnu : List SOper := [
 ⟨some 7, .load (some 3) (.t 2), none⟩,
 ⟨some 8, .call (.k (.d (.func (.func 50) [] []))) [(.t 7)], none⟩,
 ⟨some 9, .not (.t 8), none⟩,
 ⟨some 10, .mov (.t 9), none⟩,
 ⟨some 11, .load (some 9) (.t 3), some (10, false)⟩,
 ⟨some 12, .call (.k (.d (.func (.func 51) [] []))) [(.t 11)], some (10, false)⟩,
 ⟨some 13, .not (.t 12), some (10, false)⟩,
 ⟨some 14, .pick (.t 10) (.k (.d (.bool true))) (.t 13), none⟩,
 ⟨some 15, .mov (.t 14), none⟩,
 ⟨some 16, .faddr 2 (.t 2), some (15, false)⟩,
 ⟨some 17, .load none (.t 16), some (15, false)⟩,
 ⟨some 18, .len (.t 17), some (15, false)⟩,
 ⟨some 19, .bin .gtr (.t 18) (.k (.d (.int .i64 0))), some (15, false)⟩,
 ⟨some 20, .mov (.t 19), some (15, false)⟩,
 ⟨some 21, .load (some 9) (.t 3), some (20, true)⟩,
 ⟨some 22, .faddr 2 (.t 2), some (20, true)⟩,
 ⟨some 23, .load none (.t 22), some (20, true)⟩,
 ⟨some 24, .iaddr 9 (.t 23) (.k (.d (.int .i64 0))), some (20, true)⟩,
 ⟨some 25, .load (some 9) (.t 24), some (20, true)⟩,
 ⟨some 26, .call (.k (.d (.func (.func 52) [] []))) [(.t 21), (.t 25)], some (20, true)⟩,
 ⟨some 27, .not (.t 26), some (20, true)⟩,
 ⟨some 28, .pick (.t 20) (.t 27) (.k (.d (.bool false))), some (15, false)⟩,
 ⟨some 29, .pick (.t 15) (.k (.d (.bool true))) (.t 28), none⟩,
 ⟨some 6, .mov (.t 29), none⟩]
def xnv : List SOper := [
 ⟨some 30, .build [(.int .i64 0), (.int .i64 0), .nilsl] [], none⟩,
 ⟨none, .store (some 3) (.t 4) (.t 30), none⟩,
 ⟨some 5, .mov (.k (.d (.int .i64 1))), none⟩]
def xnw : List SOper := [
 ⟨some 32, .faddr 5 (.t 3), none⟩,
 ⟨some 33, .load none (.t 32), none⟩,
 ⟨some 34, .faddr 0 (.t 2), none⟩,
 ⟨some 35, .load none (.t 34), none⟩,
 ⟨some 36, .bin .leq (.t 33) (.t 35), none⟩,
 ⟨some 31, .mov (.t 36), none⟩]
def xnx : List SOper := [
 ⟨some 37, .build [(.int .i64 0), (.int .i64 0), .nilsl] [], none⟩,
 ⟨none, .store (some 3) (.t 4) (.t 37), none⟩,
 ⟨some 5, .mov (.k (.d (.int .i64 21))), none⟩]
def xny : List SOper := [
 ⟨some 39, .faddr 5 (.t 3), none⟩,
 ⟨some 40, .load none (.t 39), none⟩,
 ⟨some 41, .faddr 0 (.t 2), none⟩,
 ⟨some 42, .load none (.t 41), none⟩,
 ⟨some 43, .bin .add (.t 42) (.k (.d (.int .i64 1))), none⟩,
 ⟨some 44, .bin .gtr (.t 40) (.t 43), none⟩,
 ⟨some 38, .mov (.t 44), none⟩]
def xnz : List SOper := [
 ⟨some 45, .build [(.int .i64 0), (.int .i64 0), .nilsl] [], none⟩,
 ⟨none, .store (some 3) (.t 4) (.t 45), none⟩,
 ⟨some 5, .mov (.k (.d (.int .i64 22))), none⟩]
def xn0 : List SOper := [
 ⟨some 47, .faddr 2 (.t 2), none⟩,
 ⟨some 48, .load none (.t 47), none⟩,
 ⟨some 49, .len (.t 48), none⟩,
 ⟨some 50, .bin .eql (.t 49) (.k (.d (.int .i64 4))), none⟩,
 ⟨some 46, .mov (.t 50), none⟩]
def xn1 : List SOper := [
 ⟨some 51, .build [(.int .i64 0), (.int .i64 0), .nilsl] [], none⟩,
 ⟨none, .store (some 3) (.t 4) (.t 51), none⟩,
 ⟨some 5, .mov (.k (.d (.int .i64 19))), none⟩]
def xn2 : List SOper := [
 ⟨some 52, .faddr 5 (.t 3), none⟩,
 ⟨some 53, .load none (.t 52), none⟩,
 ⟨some 54, .faddr 1 (.t 2), none⟩,
 ⟨some 55, .load none (.t 54), none⟩,
 ⟨some 56, .faddr 2 (.t 2), none⟩,
 ⟨some 57, .load none (.t 56), none⟩,
 ⟨some 58, .call (.k (.d (.func (.func 53) [] []))) [(.t 57)], none⟩,
 ⟨some 59, .load (some 9) (.t 3), none⟩,
 ⟨some 60, .call (.k (.d (.func (.func 54) [] []))) [(.t 59)], none⟩,
 ⟨some 61, .buildSlice false 9 1 [(.int .i64 0), (.int .i64 0), (.int .i64 0), (.int .i64 0), (.int .i64 0), (.int .i64 0), (.int .i64 0), .nilsl, .nilsl] [(0, 9, (.t 60))], none⟩,
 ⟨some 62, .append false 9 104 (.t 58) (.t 61), none⟩,
 ⟨some 63, .build [(.int .i64 0), (.int .i64 0), .nilsl] [(0, 1, (.t 53)), (1, 1, (.t 55)), (2, 1, (.t 62))], none⟩,
 ⟨none, .store (some 3) (.t 4) (.t 63), none⟩,
 ⟨some 5, .mov (.k (.d (.int .i64 0))), none⟩]
def s19 : SCode := (.seq (.region xnt 3 []) (.seq (.block 0 (.seq (.region xnu 0 []) (.cond (.t 6) (.seq (.region xnv 0 []) .ret) (.seq (.region xnw 0 []) (.cond (.t 31) (.seq (.region xnx 0 []) .ret) (.seq (.region xny 0 []) (.cond (.t 38) (.seq (.region xnz 0 []) .ret) (.seq (.region xn0 0 []) (.cond (.t 46) (.seq (.region xn1 0 []) .ret) .skip))))))))) (.seq (.region xn2 0 [(1, 6), (3, 6), (6, 7), (1, 8), (3, 8)]) .ret)))
theorem e19 : qg s19.eq_1 := qh s19.eq_1
theorem x7z : qa xnt.eq_1 := qc
theorem x70 : qa xnu.eq_1 := qc
theorem x71 : qa xnv.eq_1 := qc
theorem x72 : qa xnw.eq_1 := qc
theorem x73 : qa xnx.eq_1 := qc
theorem x74 : qa xny.eq_1 := qc
theorem x75 : qa xnz.eq_1 := qc
theorem x76 : qa xn0.eq_1 := qc
theorem x77 : qa xn1.eq_1 := qc
theorem x78 : qa xn2.eq_1 := qc
attribute [go_sem] x7z x70 x71 x72 x73 x74 x75 x76 x77 x78 e19
theorem F19 : FnIs Try.prog 19 Try.f19 [] news s19 [.cell 4 (some 3), .tmp 5] 64 := x5 follows Try.func19
def xn3 : List SOper := [
 ⟨some 1, .box 2 (.t 0), none⟩,
 ⟨some 2, .alloc 1 [(.d (.int .i64 0)), (.d (.int .i64 0)), (.d (.int .i64 0)), (.d (.int .i64 0)), (.d (.int .i64 0)), (.d (.int .i64 0)), (.d (.int .i64 0)), (.d .nilsl), (.d .nilsl)], none⟩,
 ⟨some 3, .mov (.k (.d (.bool false))), none⟩]
def xn4 : List SOper := [
 ⟨some 4, .faddr 2 (.t 1), none⟩,
 ⟨some 5, .load none (.t 4), none⟩,
 ⟨some 6, .len (.t 5), none⟩,
 ⟨some 7, .bin .eql (.t 6) (.k (.d (.int .i64 0))), none⟩]
def xn5 : List SOper := [
 ⟨some 8, .build [(.int .i64 0), (.int .i64 0), (.int .i64 0), (.int .i64 0), (.int .i64 0), (.int .i64 0), (.int .i64 0), .nilsl, .nilsl] [], none⟩,
 ⟨none, .store (some 9) (.t 2) (.t 8), none⟩,
 ⟨some 3, .mov (.k (.d (.bool false))), none⟩]
def xn6 : List SOper := [
 ⟨some 9, .faddr 2 (.t 1), none⟩,
 ⟨some 10, .load none (.t 9), none⟩,
 ⟨some 11, .iaddr 9 (.t 10) (.k (.d (.int .i64 0))), none⟩,
 ⟨some 12, .load (some 9) (.t 11), none⟩,
 ⟨some 13, .call (.k (.d (.func (.func 54) [] []))) [(.t 12)], none⟩,
 ⟨none, .store (some 9) (.t 2) (.t 13), none⟩,
 ⟨some 3, .mov (.k (.d (.bool true))), none⟩]
def s48 : SCode := (.seq (.region xn3 2 []) (.seq (.seq (.region xn4 0 []) (.cond (.t 7) (.seq (.region xn5 0 []) .ret) .skip)) (.seq (.region xn6 0 []) .ret)))
theorem e48 : qg s48.eq_1 := qh s48.eq_1
theorem x79 : qa xn3.eq_1 := qc
theorem x8a : qa xn4.eq_1 := qc
theorem x8b : qa xn5.eq_1 := qc
theorem x8c : qa xn6.eq_1 := qc
attribute [go_sem] x79 x8a x8b x8c e48
theorem F48 : FnIs Try.prog 48 Try.f48 [] news s48 [.cell 2 (some 9), .tmp 3] 14 := x5 follows Try.func48
end
def v8 (q : Qu) (p : Pk) : Qu × Int :=
 if !qar q || !qd0 p || (decide ((q.items.length : Int) > 0) && !qr3 p (q.items.getD 0 default)) then (x7, 1)
 else if decide (p.seq ≤ q.acc) then (x7, 21)
 else if decide (p.seq > IntKind.i64.wrap (q.acc + 1)) then (x7, 22)
 else if (q.items.length : Int) == 4 then (x7, 19)
 else (⟨p.seq, q.cons, q.items ++ [p]⟩, 0)
set_option maxRecDepth 10000 in
theorem qcp (q : Qu) (p : Pk) (hq : q.Sm) (hp : p.Sm) : ql Try.prog 19 [.d (.agg (encQ q)), .d (.agg (qk p))] [] (.tup [.d (.agg (encQ (v8 q p).1)), .d (.int .i64 (v8 q p).2)]) [] := by
 have hl := hq.1
 first | refine F19.go ?_ | refine F19.goT ?_
 (refine ev2 @encQ.eq_1 @qk.eq_1 ?_; try exact True.intro)
 (repeat (with_reducible refine ob ?_)); first | refine cl F50 (wq q hq) ?_ | refine clF F50 (wq q hq) (fun _ => by (refine ev2 @qk.eq_1 @encQ.eq_1 ?_; try exact True.intro)) ?_
 try (refine ev ?_; try exact True.intro)
 (repeat (with_reducible refine ob ?_)); first | refine cl F51 (qc4 p hp) ?_ | refine clF F51 (qc4 p hp) (fun _ => by (refine ev2 @qk.eq_1 @encQ.eq_1 ?_; try exact True.intro)) ?_
 obtain ⟨acc, cons, items⟩ := q
 cases items with
 | nil =>
  try (refine ev ?_; try exact True.intro)
  (repeat (with_reducible refine ob ?_))
  refine qev (.bool false) rfl ?_
  try (refine ev ?_; try exact True.intro)
  (repeat (with_reducible refine ob ?_))
  refine xd _ rfl rfl (fun h1 => ?_) (fun h1 => ?_)
  ·try (refine ev3 @v8.eq_1 @h1 @x7.eq_1 ?_; try exact True.intro)
  try (refine ev ?_; try exact True.intro)
  refine xd _ rfl rfl (fun h2 => ?_) (fun h2 => ?_)
  ·try (refine ev4 @v8.eq_1 @h1 @h2 @x7.eq_1 ?_; try exact True.intro)
  try (refine ev ?_; try exact True.intro)
  refine xd _ rfl rfl (fun h3 => ?_) (fun h3 => ?_)
  ·try (refine ev5 @v8.eq_1 @h1 @h2 @h3 @x7.eq_1 ?_; try exact True.intro)
  try (refine ev ?_; try exact True.intro)
  refine xd _ rfl rfl (fun h4 => ?_) (fun h4 => ?_)
  ·first | exact Bool.noConfusion h4 | try (refine ev6 @v8.eq_1 @h1 @h2 @h3 @h4 @x7.eq_1 ?_; try exact True.intro)
  try (refine ev ?_; try exact True.intro)
  refine qew (qi8 [] hq.1 hq.2) F53.body rfl ⟨by (refine ev2 @qk.eq_1 @encQ.eq_1 ?_; try exact True.intro), by try (refine ev ?_; try exact True.intro), by try (refine ev ?_; try exact True.intro), by try (refine ev ?_; try exact True.intro)⟩ (by try (refine ev ?_; try exact True.intro)) (by simp [ASlot.toks]) ?_
  simp only [wo, renT, go_sem, Nat.reduceAdd, Nat.reduceMul, Nat.reduceSub, Nat.reduceEqDiff, Nat.reduceLT, Nat.reduceLeDiff, Nat.reduceBEq, reduceIte, reduceCtorEq, Int.reduceAdd, Int.reduceLT, Int.reduceLE, Int.reduceGT, Int.reduceGE, Int.reduceEq, Int.reduceNe, Int.reduceBEq, Int.reduceBNe, Int.reduceToNat, Int.reduceNeg]
  (repeat (with_reducible refine ob ?_)); first | refine cl F54 (qas p hp) ?_ | refine clF F54 (qas p hp) (fun _ => by (refine ev2 @qk.eq_1 @encQ.eq_1 ?_; try exact True.intro)) ?_
  (refine ev8 @qk.eq_1 @v8.eq_1 @h1 @h2 @h3 @h4 @beq_self_eq_true.{0} @List.map_append.{0,0} ?_; try exact True.intro)
  try (simp only [List.length_cons] at hl; omega)
 | cons x l =>
  try (refine ev ?_; try exact True.intro)
  refine ⟨by simp_all, fun h => ⟨h, by omega⟩, fun h => ⟨h, by simp [qk]⟩, ?_⟩
  (refine ev1 @qk.eq_1 ?_; try exact True.intro)
  (repeat (with_reducible refine ob ?_)); first | refine cl F52 (qhr p x) ?_ | refine clF F52 (qhr p x) (fun _ => by (refine ev2 @qk.eq_1 @encQ.eq_1 ?_; try exact True.intro)) ?_
  try (refine ev ?_; try exact True.intro)
  (repeat (with_reducible refine ob ?_))
  refine xd _ rfl rfl (fun h1 => ?_) (fun h1 => ?_)
  ·try (refine ev3 @v8.eq_1 @h1 @x7.eq_1 ?_; try exact True.intro)
  try (refine ev ?_; try exact True.intro)
  refine xd _ rfl rfl (fun h2 => ?_) (fun h2 => ?_)
  ·try (refine ev4 @v8.eq_1 @h1 @h2 @x7.eq_1 ?_; try exact True.intro)
  try (refine ev ?_; try exact True.intro)
  refine xd _ rfl rfl (fun h3 => ?_) (fun h3 => ?_)
  ·try (refine ev5 @v8.eq_1 @h1 @h2 @h3 @x7.eq_1 ?_; try exact True.intro)
  try (refine ev ?_; try exact True.intro)
  refine xd _ rfl rfl (fun h4 => ?_) (fun h4 => ?_)
  ·first | exact Bool.noConfusion h4 | try (refine ev6 @v8.eq_1 @h1 @h2 @h3 @h4 @x7.eq_1 ?_; try exact True.intro)
  try (refine ev ?_; try exact True.intro)
  refine qew (qi8 (x :: l) hq.1 hq.2) F53.body rfl ⟨by (refine ev2 @qk.eq_1 @encQ.eq_1 ?_; try exact True.intro), by try (refine ev ?_; try exact True.intro), by try (refine ev ?_; try exact True.intro), by try (refine ev ?_; try exact True.intro)⟩ (by try (refine ev ?_; try exact True.intro)) (by simp [ASlot.toks]) ?_
  simp only [wo, renT, go_sem, Nat.reduceAdd, Nat.reduceMul, Nat.reduceSub, Nat.reduceEqDiff, Nat.reduceLT, Nat.reduceLeDiff, Nat.reduceBEq, reduceIte, reduceCtorEq, Int.reduceAdd, Int.reduceLT, Int.reduceLE, Int.reduceGT, Int.reduceGE, Int.reduceEq, Int.reduceNe, Int.reduceBEq, Int.reduceBNe, Int.reduceToNat, Int.reduceNeg]
  (repeat (with_reducible refine ob ?_)); first | refine cl F54 (qas p hp) ?_ | refine clF F54 (qas p hp) (fun _ => by (refine ev2 @qk.eq_1 @encQ.eq_1 ?_; try exact True.intro)) ?_
  (refine ev8 @qk.eq_1 @v8.eq_1 @h1 @h2 @h3 @h4 @beq_self_eq_true.{0} @List.map_append.{0,0} ?_; try exact True.intro)
  try (simp only [List.length_cons] at hl; omega)
def qo8 (q : Qu) : Pk × Bool := match q.items with
 | [] => (default, false)
 | p :: _ => (p, true)
theorem qyb (q : Qu) (hq : q.Sm) : ql Try.prog 48 [.d (.agg (encQ q))] [] (.tup [.d (.agg (qk (qo8 q).1)), .d (.bool (qo8 q).2)]) [] := by
 first | refine F48.go ?_ | refine F48.goT ?_
 obtain ⟨acc, cons, items⟩ := q
 cases items with
 | nil =>
  simp only [encQ, qo8, qe0, go_sem, Nat.reduceAdd, Nat.reduceMul, Nat.reduceSub, Nat.reduceEqDiff, Nat.reduceLT, Nat.reduceLeDiff, Nat.reduceBEq, reduceIte, reduceCtorEq, Int.reduceAdd, Int.reduceLT, Int.reduceLE, Int.reduceGT, Int.reduceGE, Int.reduceEq, Int.reduceNe, Int.reduceBEq, Int.reduceBNe, Int.reduceToNat, Int.reduceNeg]
  refine xd _ rfl rfl (fun h1 => ?_) (fun h1 => Bool.noConfusion h1)
  try (refine ev ?_; try exact True.intro)
 | cons p l =>
  simp only [encQ, qo8, go_sem, Nat.reduceAdd, Nat.reduceMul, Nat.reduceSub, Nat.reduceEqDiff, Nat.reduceLT, Nat.reduceLeDiff, Nat.reduceBEq, reduceIte, reduceCtorEq, Int.reduceAdd, Int.reduceLT, Int.reduceLE, Int.reduceGT, Int.reduceGE, Int.reduceEq, Int.reduceNe, Int.reduceBEq, Int.reduceBNe, Int.reduceToNat, Int.reduceNeg]
  refine xd _ rfl rfl (fun h1 => ?_) (fun h1 => ?_)
  ·simp at h1; omega
  (refine ev1 @qk.eq_1 ?_; try exact True.intro)
  (repeat (with_reducible refine ob ?_))
  (repeat (with_reducible refine ob ?_)); first | refine cl F54 (qas p (hq.2 _ (by simp))) ?_ | refine clF F54 (qas p (hq.2 _ (by simp))) (fun _ => by (refine ev2 @qk.eq_1 @encQ.eq_1 ?_; try exact True.intro)) ?_
  (refine ev1 @qk.eq_1 ?_; try exact True.intro)
end Go.Proofs.Ytinnaedmdoengaa
namespace Go.Proofs.Ytinnaedmdoengaa
open Go.Abs
set_option linter.unusedSimpArgs false
noncomputable section
set_option maxRecDepth 100000
def xn7 : List SOper := [
 ⟨some 2, .alloc 1 [(.d (.int .i64 0)), (.d (.int .i64 0)), (.d (.int .i64 0)), (.d (.int .i64 0)), (.d (.int .i64 0)), (.d (.int .i64 0)), (.d (.int .i64 0)), (.d .nilsl), (.d .nilsl)], none⟩]
def xn8 : List SOper := [
 ⟨some 3, .mov (.t 0), none⟩,
 ⟨some 4, .mov (.t 0), none⟩,
 ⟨some 5, .bin .rem (.t 4) (.k (.d (.int .i64 40))), none⟩,
 ⟨some 6, .build [(.int .i64 0), (.int .i64 0), (.int .i64 0), (.int .i64 0), (.int .i64 0), (.int .i64 0), (.int .i64 0), .nilsl, .nilsl] [(0, 1, (.k (.d (.int .i64 1)))), (1, 1, (.k (.d (.int .i64 1)))), (4, 1, (.k (.d (.int .i64 1)))), (5, 1, (.t 3)), (6, 1, (.t 5))], none⟩,
 ⟨none, .store (some 9) (.t 2) (.t 6), none⟩]
def s20 : SCode := (.seq (.region xn7 1 []) (.seq (.region xn8 0 []) .ret))
theorem e20 : qg s20.eq_1 := qh s20.eq_1
theorem x8d : qa xn7.eq_1 := qc
theorem x8e : qa xn8.eq_1 := qc
attribute [go_sem] x8d x8e e20
theorem F20 : FnIs Try.prog 20 Try.f20 [] news s20 [.cell 2 (some 9)] 7 := x5 follows Try.func20
def xn9 : List SOper := [
 ⟨some 0, .mov (.k (.d (.bool false))), none⟩]
def xoa : List SOper := [
 ⟨some 10, .build [(.int .i64 0), (.int .i64 0), .nilsl] [], none⟩,
 ⟨some 11, .call (.k (.d (.func (.func 20) [] []))) [(.k (.d (.int .i64 1)))], none⟩,
 ⟨some 12, .call (.k (.d (.func (.func 19) [] []))) [(.t 10), (.t 11)], none⟩,
 ⟨some 9, .mov (.t 12), none⟩,
 ⟨some 13, .extract 0 (.t 9), none⟩,
 ⟨some 14, .extract 1 (.t 9), none⟩,
 ⟨some 1, .alloc 1 [(.d (.int .i64 0)), (.d (.int .i64 0)), (.d .nilsl)], none⟩,
 ⟨none, .store (some 3) (.t 1) (.t 13), none⟩,
 ⟨some 2, .mov (.t 14), none⟩]
def xob : List SOper := [
 ⟨some 16, .load (some 3) (.t 1), none⟩,
 ⟨some 17, .call (.k (.d (.func (.func 20) [] []))) [(.k (.d (.int .i64 1)))], none⟩,
 ⟨some 18, .call (.k (.d (.func (.func 19) [] []))) [(.t 16), (.t 17)], none⟩,
 ⟨some 15, .mov (.t 18), none⟩,
 ⟨some 19, .extract 0 (.t 15), none⟩,
 ⟨some 20, .extract 1 (.t 15), none⟩,
 ⟨some 3, .alloc 1 [(.d (.int .i64 0)), (.d (.int .i64 0)), (.d .nilsl)], none⟩,
 ⟨none, .store (some 3) (.t 3) (.t 19), none⟩,
 ⟨some 4, .mov (.t 20), none⟩]
def xoc : List SOper := [
 ⟨some 22, .load (some 3) (.t 1), none⟩,
 ⟨some 23, .call (.k (.d (.func (.func 20) [] []))) [(.k (.d (.int .i64 3)))], none⟩,
 ⟨some 24, .call (.k (.d (.func (.func 19) [] []))) [(.t 22), (.t 23)], none⟩,
 ⟨some 21, .mov (.t 24), none⟩,
 ⟨some 25, .extract 0 (.t 21), none⟩,
 ⟨some 26, .extract 1 (.t 21), none⟩,
 ⟨some 5, .alloc 1 [(.d (.int .i64 0)), (.d (.int .i64 0)), (.d .nilsl)], none⟩,
 ⟨none, .store (some 3) (.t 5) (.t 25), none⟩,
 ⟨some 6, .mov (.t 26), none⟩]
def xod : List SOper := [
 ⟨some 28, .load (some 3) (.t 1), none⟩,
 ⟨some 29, .call (.k (.d (.func (.func 48) [] []))) [(.t 28)], none⟩,
 ⟨some 27, .mov (.t 29), none⟩,
 ⟨some 30, .extract 0 (.t 27), none⟩,
 ⟨some 31, .extract 1 (.t 27), none⟩,
 ⟨some 7, .alloc 1 [(.d (.int .i64 0)), (.d (.int .i64 0)), (.d (.int .i64 0)), (.d (.int .i64 0)), (.d (.int .i64 0)), (.d (.int .i64 0)), (.d (.int .i64 0)), (.d .nilsl), (.d .nilsl)], none⟩,
 ⟨none, .store (some 9) (.t 7) (.t 30), none⟩,
 ⟨some 8, .mov (.t 31), none⟩]
def xoe : List SOper := [
 ⟨some 32, .mov (.t 2), none⟩,
 ⟨some 33, .bin .eql (.t 32) (.k (.d (.int .i64 0))), none⟩,
 ⟨some 34, .mov (.t 33), none⟩,
 ⟨some 35, .mov (.t 4), some (34, true)⟩,
 ⟨some 36, .bin .eql (.t 35) (.k (.d (.int .i64 21))), some (34, true)⟩,
 ⟨some 37, .pick (.t 34) (.t 36) (.k (.d (.bool false))), none⟩,
 ⟨some 38, .mov (.t 37), none⟩,
 ⟨some 39, .mov (.t 6), some (38, true)⟩,
 ⟨some 40, .bin .eql (.t 39) (.k (.d (.int .i64 22))), some (38, true)⟩,
 ⟨some 41, .pick (.t 38) (.t 40) (.k (.d (.bool false))), none⟩,
 ⟨some 42, .mov (.t 41), none⟩,
 ⟨some 43, .mov (.t 8), some (42, true)⟩,
 ⟨some 44, .pick (.t 42) (.t 43) (.k (.d (.bool false))), none⟩,
 ⟨some 45, .mov (.t 44), none⟩,
 ⟨some 46, .load (some 9) (.t 7), some (45, true)⟩,
 ⟨some 47, .call (.k (.d (.func (.func 20) [] []))) [(.k (.d (.int .i64 1)))], some (45, true)⟩,
 ⟨some 48, .call (.k (.d (.func (.func 49) [] []))) [(.t 46), (.t 47)], some (45, true)⟩,
 ⟨some 49, .pick (.t 45) (.t 48) (.k (.d (.bool false))), none⟩,
 ⟨some 0, .mov (.t 49), none⟩]
def s18 : SCode := (.seq (.region xn9 0 []) (.seq (.region xoa 1 []) (.seq (.region xob 1 [(0, 1), (0, 6), (1, 6), (2, 6)]) (.seq (.region xoc 1 [(0, 1), (0, 6), (1, 6), (2, 6)]) (.seq (.region xod 1 []) (.seq (.region xoe 0 [(14, 15)]) .ret))))))
theorem e18 : qg s18.eq_1 := qh s18.eq_1
theorem x8f : qa xn9.eq_1 := qc
theorem x8g : qa xoa.eq_1 := qc
theorem x8h : qa xob.eq_1 := qc
theorem x8i : qa xoc.eq_1 := qc
theorem x8j : qa xod.eq_1 := qc
theorem x8k : qa xoe.eq_1 := qc
attribute [go_sem] x8f x8g x8h x8i x8j x8k e18
theorem F18 : FnIs Try.prog 18 Try.f18 [] news s18 [.tmp 0] 50 := x5 follows Try.func18
end
def msg (seq : Int) : Pk := ⟨1, 1, 0, 0, 1, seq, seq.tmod 40, [], []⟩
theorem qe1 (seq : Int) : (msg seq).Sm := ⟨Nat.zero_le _, Nat.zero_le _⟩
theorem qb5 (seq : Int) : ql Try.prog 20 [.d (.int .i64 seq)] [] (.d (.agg (qk (msg seq)))) [] := by
 refine F20.go ?_
 try (refine ev2 @qk.eq_1 @msg.eq_1 ?_; try exact True.intro)
theorem zh2 : v8 ⟨0, 0, []⟩ (msg 1) = (⟨1, 0, [msg 1]⟩, 0) := by decide
theorem x8l : v8 ⟨1, 0, [msg 1]⟩ (msg 1) = (x7, 21) := by decide
theorem zh3 : v8 ⟨1, 0, [msg 1]⟩ (msg 3) = (x7, 22) := by decide
theorem sm0 : (⟨0, 0, []⟩ : Qu).Sm := ⟨Nat.zero_le _, by simp⟩
theorem sm1 : (⟨1, 0, [msg 1]⟩ : Qu).Sm := ⟨by simp, by simp; exact qe1 1⟩
set_option maxRecDepth 10000 in
theorem qlb : ql Try.prog 18 [] [] (.d (.bool true)) [] := by
 have c1 := qcp ⟨0, 0, []⟩ (msg 1) sm0 (qe1 1)
 have c2 := qcp ⟨1, 0, [msg 1]⟩ (msg 1) sm1 (qe1 1)
 have c3 := qcp ⟨1, 0, [msg 1]⟩ (msg 3) sm1 (qe1 3)
 have c4 := qyb ⟨1, 0, [msg 1]⟩ sm1
 have c5 := qf7 (msg 1) (msg 1) (qe1 1).v (qe1 1).c
 rw [zh2] at c1
 rw [x8l] at c2
 rw [zh3] at c3
 simp only [decide_true] at c5
 simp only [encQ, x7, List.map_nil] at c1 c2 c3 c4
 refine F18.go ?_
 try (refine ev ?_; try exact True.intro)
 (repeat (with_reducible refine ob ?_)); first | refine cl F20 (qb5 1) ?_ | refine clF F20 (qb5 1) (fun _ => by (refine ev2 @qk.eq_1 @encQ.eq_1 ?_; try exact True.intro)) ?_
 try (refine ev ?_; try exact True.intro)
 (repeat (with_reducible refine ob ?_)); first | refine cl F19 (c1) ?_ | refine clF F19 (c1) (fun _ => by (refine ev2 @qk.eq_1 @encQ.eq_1 ?_; try exact True.intro)) ?_
 (refine ev1 @encQ.eq_1 ?_; try exact True.intro)
 (repeat (with_reducible refine ob ?_)); first | refine cl F20 (qb5 1) ?_ | refine clF F20 (qb5 1) (fun _ => by (refine ev2 @qk.eq_1 @encQ.eq_1 ?_; try exact True.intro)) ?_
 try (refine ev ?_; try exact True.intro)
 (repeat (with_reducible refine ob ?_)); first | refine cl F19 (c2) ?_ | refine clF F19 (c2) (fun _ => by (refine ev2 @qk.eq_1 @encQ.eq_1 ?_; try exact True.intro)) ?_
 (refine ev2 @encQ.eq_1 @x7.eq_1 ?_; try exact True.intro)
 (repeat (with_reducible refine ob ?_)); first | refine cl F20 (qb5 3) ?_ | refine clF F20 (qb5 3) (fun _ => by (refine ev2 @qk.eq_1 @encQ.eq_1 ?_; try exact True.intro)) ?_
 try (refine ev ?_; try exact True.intro)
 (repeat (with_reducible refine ob ?_)); first | refine cl F19 (c3) ?_ | refine clF F19 (c3) (fun _ => by (refine ev2 @qk.eq_1 @encQ.eq_1 ?_; try exact True.intro)) ?_
 (refine ev2 @encQ.eq_1 @x7.eq_1 ?_; try exact True.intro)
 (repeat (with_reducible refine ob ?_)); first | refine cl F48 (c4) ?_ | refine clF F48 (c4) (fun _ => by (refine ev2 @qk.eq_1 @encQ.eq_1 ?_; try exact True.intro)) ?_
 simp only [qk, qo8, go_sem, Nat.reduceAdd, Nat.reduceMul, Nat.reduceSub, Nat.reduceEqDiff, Nat.reduceLT, Nat.reduceLeDiff, Nat.reduceBEq, reduceIte, reduceCtorEq, Int.reduceAdd, Int.reduceLT, Int.reduceLE, Int.reduceGT, Int.reduceGE, Int.reduceEq, Int.reduceNe, Int.reduceBEq, Int.reduceBNe, Int.reduceToNat, Int.reduceNeg]
 (repeat (with_reducible refine ob ?_)); first | refine cl F20 (qb5 1) ?_ | refine clF F20 (qb5 1) (fun _ => by (refine ev2 @qk.eq_1 @encQ.eq_1 ?_; try exact True.intro)) ?_
 try (refine ev ?_; try exact True.intro)
 (repeat (with_reducible refine ob ?_)); first | refine cl F49 (c5) ?_ | refine clF F49 (c5) (fun _ => by (refine ev2 @qk.eq_1 @encQ.eq_1 ?_; try exact True.intro)) ?_
 try (refine ev ?_; try exact True.intro)
end Go.Proofs.Ytinnaedmdoengaa
namespace Go.Proofs.Ytinnaedmdoengaa
open Go.Abs
set_option linter.unusedSimpArgs false
attribute [go_sem] List.getD_nil
noncomputable section
set_option maxRecDepth 100000
def xof : List SOper := [
 ⟨some 2, .box 2 (.t 0), none⟩,
 ⟨some 4, .alloc 1 [(.d (.int .i64 0)), (.d (.int .i64 0)), (.d .nilsl)], none⟩,
 ⟨some 5, .mov (.k (.d (.int .i64 0))), none⟩]
def xog : List SOper := [
 ⟨some 7, .load (some 3) (.t 2), none⟩,
 ⟨some 8, .call (.k (.d (.func (.func 50) [] []))) [(.t 7)], none⟩,
 ⟨some 9, .not (.t 8), none⟩,
 ⟨some 6, .mov (.t 9), none⟩]
def xoh : List SOper := [
 ⟨some 10, .build [(.int .i64 0), (.int .i64 0), .nilsl] [], none⟩,
 ⟨none, .store (some 3) (.t 4) (.t 10), none⟩,
 ⟨some 5, .mov (.k (.d (.int .i64 1))), none⟩]
def xoi : List SOper := [
 ⟨some 12, .mov (.t 1), none⟩,
 ⟨some 13, .bin .geq (.t 12) (.k (.d (.int .i64 1))), none⟩,
 ⟨some 14, .mov (.t 13), none⟩,
 ⟨some 15, .mov (.t 1), some (14, true)⟩,
 ⟨some 16, .faddr 1 (.t 2), some (14, true)⟩,
 ⟨some 17, .load none (.t 16), some (14, true)⟩,
 ⟨some 18, .bin .leq (.t 15) (.t 17), some (14, true)⟩,
 ⟨some 19, .pick (.t 14) (.t 18) (.k (.d (.bool false))), none⟩,
 ⟨some 11, .mov (.t 19), none⟩]
def xoj : List SOper := [
 ⟨some 20, .build [(.int .i64 0), (.int .i64 0), .nilsl] [], none⟩,
 ⟨none, .store (some 3) (.t 4) (.t 20), none⟩,
 ⟨some 5, .mov (.k (.d (.int .i64 21))), none⟩]
def xok : List SOper := [
 ⟨some 22, .faddr 2 (.t 2), none⟩,
 ⟨some 23, .load none (.t 22), none⟩,
 ⟨some 24, .len (.t 23), none⟩,
 ⟨some 25, .bin .eql (.t 24) (.k (.d (.int .i64 0))), none⟩,
 ⟨some 26, .mov (.t 25), none⟩,
 ⟨some 27, .mov (.t 1), some (26, false)⟩,
 ⟨some 28, .faddr 2 (.t 2), some (26, false)⟩,
 ⟨some 29, .load none (.t 28), some (26, false)⟩,
 ⟨some 30, .iaddr 9 (.t 29) (.k (.d (.int .i64 0))), some (26, false)⟩,
 ⟨some 31, .faddr 5 (.t 30), some (26, false)⟩,
 ⟨some 32, .load none (.t 31), some (26, false)⟩,
 ⟨some 33, .bin .neq (.t 27) (.t 32), some (26, false)⟩,
 ⟨some 34, .pick (.t 26) (.k (.d (.bool true))) (.t 33), none⟩,
 ⟨some 21, .mov (.t 34), none⟩]
def xol : List SOper := [
 ⟨some 35, .build [(.int .i64 0), (.int .i64 0), .nilsl] [], none⟩,
 ⟨none, .store (some 3) (.t 4) (.t 35), none⟩,
 ⟨some 5, .mov (.k (.d (.int .i64 22))), none⟩]
def xom : List SOper := [
 ⟨some 36, .faddr 0 (.t 2), none⟩,
 ⟨some 37, .load none (.t 36), none⟩,
 ⟨some 38, .mov (.t 1), none⟩,
 ⟨some 39, .faddr 2 (.t 2), none⟩,
 ⟨some 40, .load none (.t 39), none⟩,
 ⟨some 41, .slice 9 (.t 40) (some (.k (.d (.int .i64 1)))) none none, none⟩,
 ⟨some 42, .call (.k (.d (.func (.func 53) [] []))) [(.t 41)], none⟩,
 ⟨some 43, .build [(.int .i64 0), (.int .i64 0), .nilsl] [(0, 1, (.t 37)), (1, 1, (.t 38)), (2, 1, (.t 42))], none⟩,
 ⟨none, .store (some 3) (.t 4) (.t 43), none⟩,
 ⟨some 5, .mov (.k (.d (.int .i64 0))), none⟩]
def s22 : SCode := (.seq (.region xof 2 []) (.seq (.block 0 (.seq (.region xog 0 []) (.cond (.t 6) (.seq (.region xoh 0 []) .ret) (.seq (.region xoi 0 []) (.cond (.t 11) (.seq (.region xoj 0 []) .ret) (.seq (.region xok 0 []) (.cond (.t 21) (.seq (.region xol 0 []) .ret) .skip))))))) (.seq (.region xom 0 [(1, 6)]) .ret)))
theorem e22 : qg s22.eq_1 := qh s22.eq_1
theorem x8m : qa xof.eq_1 := qc
theorem x8n : qa xog.eq_1 := qc
theorem x8o : qa xoh.eq_1 := qc
theorem x8p : qa xoi.eq_1 := qc
theorem x8q : qa xoj.eq_1 := qc
theorem x8r : qa xok.eq_1 := qc
theorem x8s : qa xol.eq_1 := qc
theorem x8t : qa xom.eq_1 := qc
attribute [go_sem] x8m x8n x8o x8p x8q x8r x8s x8t e22
theorem F22 : FnIs Try.prog 22 Try.f22 [] news s22 [.cell 4 (some 3), .tmp 5] 44 := x5 follows Try.func22
def xon : List SOper := [
 ⟨some 6, .mov (.k (.d (.bool false))), none⟩]
def xoo : List SOper := [
 ⟨some 10, .mov (.t 0), none⟩,
 ⟨some 11, .len (.t 10), none⟩,
 ⟨some 12, .mov (.t 1), none⟩,
 ⟨some 13, .len (.t 12), none⟩,
 ⟨some 14, .bin .neq (.t 11) (.t 13), none⟩]
def xop : List SOper := [
 ⟨some 6, .mov (.k (.d (.bool false))), none⟩]
def xoq : List SOper := [
 ⟨some 15, .mov (.t 0), none⟩,
 ⟨some 16, .len (.t 15), none⟩,
 ⟨some 17, .mov (.k (.d (.int .i64 0))), none⟩]
def xos : List SOper := [
 ⟨some 18, .bin .lss (.t 17) (.t 16), none⟩]
def xot : List SOper := [
 ⟨some 19, .mov (.t 17), none⟩,
 ⟨some 20, .iaddr 9 (.t 15) (.t 17), none⟩,
 ⟨some 21, .load (some 9) (.t 20), none⟩,
 ⟨some 8, .alloc 1 [(.d (.int .i64 0)), (.d (.int .i64 0)), (.d (.int .i64 0)), (.d (.int .i64 0)), (.d (.int .i64 0)), (.d (.int .i64 0)), (.d (.int .i64 0)), (.d .nilsl), (.d .nilsl)], none⟩,
 ⟨some 7, .mov (.t 19), none⟩,
 ⟨none, .store (some 9) (.t 8) (.t 21), none⟩]
def xou : List SOper := [
 ⟨some 22, .mov (.t 1), none⟩,
 ⟨some 23, .mov (.t 7), none⟩,
 ⟨some 24, .iaddr 9 (.t 22) (.t 23), none⟩,
 ⟨some 25, .load (some 9) (.t 24), none⟩,
 ⟨some 9, .alloc 1 [(.d (.int .i64 0)), (.d (.int .i64 0)), (.d (.int .i64 0)), (.d (.int .i64 0)), (.d (.int .i64 0)), (.d (.int .i64 0)), (.d (.int .i64 0)), (.d .nilsl), (.d .nilsl)], none⟩,
 ⟨none, .store (some 9) (.t 9) (.t 25), none⟩]
def xov : List SOper := [
 ⟨some 26, .mov (.t 2), none⟩,
 ⟨some 27, .load (some 9) (.t 8), none⟩,
 ⟨some 28, .load (some 9) (.t 9), none⟩,
 ⟨some 29, .call (.t 26) [(.t 27), (.t 28)], none⟩,
 ⟨some 30, .not (.t 29), none⟩]
def xow : List SOper := [
 ⟨some 6, .mov (.k (.d (.bool false))), none⟩]
def xox : List SOper := [
 ⟨some 31, .bin .add (.t 17) (.k (.d (.int .i64 1))), none⟩,
 ⟨some 17, .mov (.t 31), none⟩]
def qyc : SCode := (.seq (.region xos 0 []) (.seq (.cond (.t 18) .skip (.exit 0)) (.seq (.block 1 (.seq (.region xot 1 []) (.seq (.region xou 1 []) (.seq (.region xov 0 []) (.cond (.t 30) (.seq (.region xow 0 []) .ret) .skip))))) (.region xox 0 []))))
theorem xoy : qg qyc.eq_1 := qh qyc.eq_1
def q7h : List SOper := [
 ⟨some 6, .mov (.k (.d (.bool true))), none⟩]
def s65 : SCode := (.seq (.region xon 0 []) (.seq (.seq (.region xoo 0 []) (.cond (.t 14) (.seq (.region xop 0 []) .ret) .skip)) (.seq (.seq (.region xoq 0 []) (.block 0 (.loop qyc))) (.seq (.region q7h 0 []) .ret))))
theorem e65 : qg s65.eq_1 := qh s65.eq_1
theorem x8u : qa xon.eq_1 := qc
theorem x8v : qa xoo.eq_1 := qc
theorem x8w : qa xop.eq_1 := qc
theorem x8x : qa xoq.eq_1 := qc
theorem x8y : qa xos.eq_1 := qc
theorem x8z : qa xot.eq_1 := qc
theorem x80 : qa xou.eq_1 := qc
theorem x81 : qa xov.eq_1 := qc
theorem x82 : qa xow.eq_1 := qc
theorem x83 : qa xox.eq_1 := qc
theorem xoz : qa q7h.eq_1 := qc
attribute [go_sem] x8u x8v x8w x8x x8y x8z x80 x81 x82 x83 xoy xoz e65
theorem F65 : FnIs Try.prog 65 Try.f65 [] news s65 [.tmp 6] 32 := x5 follows Try.func65
def xo0 : List SOper := [
 ⟨some 2, .box 2 (.t 0), none⟩,
 ⟨some 3, .box 1 (.t 1), none⟩,
 ⟨some 4, .mov (.k (.d (.bool false))), none⟩]
def xo1 : List SOper := [
 ⟨some 5, .faddr 0 (.t 2), none⟩,
 ⟨some 6, .load none (.t 5), none⟩,
 ⟨some 7, .faddr 0 (.t 3), none⟩,
 ⟨some 8, .load none (.t 7), none⟩,
 ⟨some 9, .bin .eql (.t 6) (.t 8), none⟩,
 ⟨some 10, .mov (.t 9), none⟩,
 ⟨some 11, .faddr 1 (.t 2), some (10, true)⟩,
 ⟨some 12, .load none (.t 11), some (10, true)⟩,
 ⟨some 13, .faddr 1 (.t 3), some (10, true)⟩,
 ⟨some 14, .load none (.t 13), some (10, true)⟩,
 ⟨some 15, .bin .eql (.t 12) (.t 14), some (10, true)⟩,
 ⟨some 16, .pick (.t 10) (.t 15) (.k (.d (.bool false))), none⟩,
 ⟨some 17, .mov (.t 16), none⟩,
 ⟨some 18, .faddr 2 (.t 2), some (17, true)⟩,
 ⟨some 19, .load none (.t 18), some (17, true)⟩,
 ⟨some 20, .faddr 2 (.t 3), some (17, true)⟩,
 ⟨some 21, .load none (.t 20), some (17, true)⟩,
 ⟨some 22, .call (.k (.d (.func (.func 65) [] []))) [(.t 19), (.t 21), (.k (.d (.func (.func 49) [] [])))], some (17, true)⟩,
 ⟨some 23, .pick (.t 17) (.t 22) (.k (.d (.bool false))), none⟩,
 ⟨some 4, .mov (.t 23), none⟩]
def s24 : SCode := (.seq (.region xo0 2 []) (.seq (.region xo1 0 []) .ret))
theorem e24 : qg s24.eq_1 := qh s24.eq_1
theorem x84 : qa xo0.eq_1 := qc
theorem x85 : qa xo1.eq_1 := qc
attribute [go_sem] x84 x85 e24
theorem F24 : FnIs Try.prog 24 Try.f24 [] news s24 [.tmp 4] 24 := x5 follows Try.func24
end
def vw (q : Qu) (seq : Int) : Qu × Int :=
 if !qar q then (x7, 1)
 else if decide (seq ≥ 1) && decide (seq ≤ q.cons) then (x7, 21)
 else if (q.items.length : Int) == 0 || seq != (q.items.getD 0 default).seq then (x7, 22)
 else (⟨q.acc, seq, q.items.drop 1⟩, 0)
set_option maxRecDepth 10000 in
theorem qr4 (q : Qu) (seq : Int) (hq : q.Sm) : ql Try.prog 22 [.d (.agg (encQ q)), .d (.int .i64 seq)] [] (.tup [.d (.agg (encQ (vw q seq).1)), .d (.int .i64 (vw q seq).2)]) [] := by
 have hl := hq.1
 first | refine F22.go ?_ | refine F22.goT ?_
 (refine ev1 @encQ.eq_1 ?_; try exact True.intro)
 (repeat (with_reducible refine ob ?_)); first | refine cl F50 (wq q hq) ?_ | refine clF F50 (wq q hq) (fun _ => by (refine ev2 @qk.eq_1 @encQ.eq_1 ?_; try exact True.intro)) ?_
 try (refine ev ?_; try exact True.intro)
 refine xd _ rfl rfl (fun h1 => ?_) (fun h1 => ?_)
 ·try (refine ev3 @vw.eq_1 @h1 @x7.eq_1 ?_; try exact True.intro)
 try (refine ev ?_; try exact True.intro)
 (repeat (with_reducible refine ob ?_))
 refine xd _ rfl rfl (fun h2 => ?_) (fun h2 => ?_)
 ·try (refine ev4 @vw.eq_1 @h1 @h2 @x7.eq_1 ?_; try exact True.intro)
 obtain ⟨acc, cons, items⟩ := q
 cases items with
 | nil =>
  try (refine ev ?_; try exact True.intro)
  (repeat (with_reducible refine ob ?_))
  refine xd _ rfl rfl (fun h3 => ?_) (fun h3 => ?_)
  ·try (refine ev4 @vw.eq_1 @h1 @h2 @x7.eq_1 ?_; try exact True.intro)
  ·exact Bool.noConfusion h3
 | cons x l =>
  (refine ev1 @qk.eq_1 ?_; try exact True.intro)
  (repeat (with_reducible refine ob ?_))
  refine xd _ rfl rfl (fun h3 => ?_) (fun h3 => ?_)
  ·try (refine ev5 @vw.eq_1 @h1 @h2 @h3 @x7.eq_1 ?_; try exact True.intro)
  (refine ev1 @qk.eq_1 ?_; try exact True.intro)
  refine ⟨by omega, ?_⟩
  simp only [List.length_cons] at hl
  refine qew (qi8 l (by omega) (fun p hp => hq.2 p (List.mem_cons_of_mem _ hp))) F53.body rfl ⟨by (refine ev2 @qk.eq_1 @encQ.eq_1 ?_; try exact True.intro), by try (refine ev ?_; try exact True.intro), by try (refine ev ?_; try exact True.intro), by try (refine ev ?_; try exact True.intro)⟩ (by try (refine ev ?_; try exact True.intro)) (by simp [ASlot.toks]) ?_
  simp only [wo, renT, vw, h1, h2, h3, go_sem, Nat.reduceAdd, Nat.reduceMul, Nat.reduceSub, Nat.reduceEqDiff, Nat.reduceLT, Nat.reduceLeDiff, Nat.reduceBEq, reduceIte, reduceCtorEq, Int.reduceAdd, Int.reduceLT, Int.reduceLE, Int.reduceGT, Int.reduceGE, Int.reduceEq, Int.reduceNe, Int.reduceBEq, Int.reduceBNe, Int.reduceToNat, Int.reduceNeg]
def eqAt {α : Type} (f : α → α → Bool) (l m : List α) (i : Nat) : Bool := match l[i]?, m[i]? with | some x, some y => f x y | _, _ => true
def eqBy {α : Type} (f : α → α → Bool) (l m : List α) : Bool := l.length == m.length && qco (eqAt f l m) l.length
theorem xf3 {α : Type} [DecidableEq α] (l m : List α) : eqBy (fun x y => decide (x = y)) l m = decide (l = m) := by
 rw [Bool.eq_iff_iff]
 simp only [eqBy, Bool.and_eq_true, beq_iff_eq, ye, decide_eq_true_eq]
 constructor
 ·rintro ⟨h1, h2⟩
  refine List.ext_getElem h1 fun i hi hj => ?_
  have := h2 i hi
  simpa [eqAt, hi, hj] using this
 ·rintro rfl
  refine ⟨rfl, fun i hi => ?_⟩
  simp [eqAt, hi]
def Seqf (l m : List Pk) (k : FuncId) (i : { i : Nat // qco (eqAt (fun x y => decide (x = y)) l m) i = true }) : St :=
 ⟨[(1, true, .d (.sl 9 (m.map qk))), (2, true, .d (.func (.func k) [] [])), (15, true, .d (.sl 9 (l.map qk))), (16, true, .d (.int .i64 l.length)), (17, true, .d (.int .i64 (i.val : Nat)))], [], [], 1⟩
set_option maxRecDepth 10000 in
theorem qti (l m : List Pk) (hl : l.length ≤ 1000) (hp : ∀ p ∈ l, p.Sm) :
  ql Try.prog 65 [.d (.sl 9 (l.map qk)), .d (.sl 9 (m.map qk)), .d (.func (.func 49) [] [])] [] (.d (.bool (decide (l = m)))) [] := by
 first | refine F65.go ?_ | refine F65.goT ?_
 (refine ev ?_; try exact True.intro)
 refine xd _ rfl rfl (fun h => ?_) (fun h => ?_)
 ·have hne : decide (l = m) = false := by rw [decide_eq_false_iff_not]; rintro rfl; simp at h
  try (refine ev1 @hne ?_; try exact True.intro)
 ·have hlm : l.length = m.length := by simp at h; omega
  try (refine ev ?_; try exact True.intro)
  refine qy (Seqf l m 49) (fun i => l.length - i.val) ⟨0, rfl⟩ ?_ (fun i => ?_)
  ·try (refine ev1 @Seqf.eq_1 ?_; try exact True.intro)
  ·obtain ⟨i, hi⟩ := i
   try (refine ev1 @Seqf.eq_1 ?_; try exact True.intro)
   refine xd _ rfl rfl (fun h => ?_) (fun h => ?_)
   ·have hil : i < l.length := by simpa using h
    have him : i < m.length := by omega
    (refine ev3 (xg qk l hil) (xg qk m him) @qk.eq_1 ?_; try exact True.intro)
    (repeat (with_reducible refine ob ?_))
    (repeat (with_reducible refine ob ?_)); first | refine cl F49 (qf7 l[i] m[i] (hp _ (List.getElem_mem hil)).v (hp _ (List.getElem_mem hil)).c) ?_ | refine clF F49 (qf7 l[i] m[i] (hp _ (List.getElem_mem hil)).v (hp _ (List.getElem_mem hil)).c) (fun _ => by (refine ev2 @qk.eq_1 @encQ.eq_1 ?_; try exact True.intro)) ?_
    try (refine ev ?_; try exact True.intro)
    refine xd _ rfl rfl (fun h2 => ?_) (fun h2 => ?_)
    ·have hne : l[i] ≠ m[i] := by simpa using h2
     try (refine ev1 (xfy hil him hne) ?_; try exact True.intro)
    ·have he : l[i] = m[i] := by simpa using h2
     try (refine ev ?_; try exact True.intro)
     refine ⟨⟨i + 1, qf8 hi (by simp [eqAt, hil, him, he])⟩, ?_, by dsimp only; omega⟩
     try (refine ev2 @Seqf.eq_1 (qv (show i < 9223372036854775807 by omega)) ?_; try exact True.intro)
   ·have he : decide (l = m) = true := by
     have : l.length ≤ i := by simpa using h
     rw [← xf3]
     simp only [eqBy, hlm, beq_self_eq_true, Bool.true_and]
     exact ye.2 fun j hj => ye.1 hi j (by omega)
    try (refine ev1 @he ?_; try exact True.intro)
theorem xo2 (a b : Qu) : (a.acc == b.acc && a.cons == b.cons && decide (a.items = b.items)) = decide (a = b) := by
 obtain ⟨a1, a2, a3⟩ := a
 obtain ⟨b1, b2, b3⟩ := b
 rw [Bool.eq_iff_iff]
 simp [and_assoc]
theorem qo9 (a b : Qu) (ha : a.Sm) : ql Try.prog 24 [.d (.agg (encQ a)), .d (.agg (encQ b))] [] (.d (.bool (decide (a = b)))) [] := by
 first | refine F24.go ?_ | refine F24.goT ?_
 (refine ev1 @encQ.eq_1 ?_; try exact True.intro)
 (repeat (with_reducible refine ob ?_)); first | refine cl F65 (qti a.items b.items ha.1 ha.2) ?_ | refine clF F65 (qti a.items b.items ha.1 ha.2) (fun _ => by (refine ev2 @qk.eq_1 @encQ.eq_1 ?_; try exact True.intro)) ?_
 try (refine ev ?_; try exact True.intro)
 exact xo2 a b
end Go.Proofs.Ytinnaedmdoengaa
