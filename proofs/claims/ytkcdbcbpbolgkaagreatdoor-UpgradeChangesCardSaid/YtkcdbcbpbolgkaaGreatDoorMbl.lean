/- Texts Ca, Cb, Cc, Cd, Ce, Wa, Wb, Wc, Cf. -/
import Derived.Test.YtkcdbcbpbolgkaaGreatDoorMbk
import Derived.Calls
import Derived.Orders
import Derived.Tactics
import Derived.Laws.AppendOwn
import Derived.Laws.Slices
import Derived.Laws.Closers25
import Derived.Laws.StructEq
import Derived.Laws.BytesString
import Derived.Laws.CopyRow
import Derived.MapKept
import Derived.Maps.RangeRun
import Derived.TacticsIn
import Derived.OrdersIn
import Derived.RangeFuncRecord
import Derived.RangeFuncLeaves
import Derived.IntWalk
import Derived.ProofKit
import Derived.OpenShut
import Derived.Carry
import Derived.Test.YtkcdbcbpbolgkaaGreatDoorProg
import Derived.KernelRfl

namespace Go.Proofs.YtkcdbcbpbolgkaaGreatDoor
open Go.Abs
set_option linter.unusedSimpArgs false
def news : List (FuncId × Nat) := [(141, 5), (160, 1), (177, 1), (28, 2), (105, 2), (29, 1), (86, 1), (359, 2)]
theorem follows : Tryz.prog.follows .mixedOrders = true := by kernel_rfl
structure AV where
 kind : Int
 n : Int
 s : List UInt8
 deriving DecidableEq, Inhabited
def je (v : AV) : List D := [.int .i64 v.kind, .int .i64 v.n, .str v.s]
theorem wi (v : AV) : D.noPtrL (je v) = true := rfl
def encI (n : Int) : List D := [.int .i64 n]
theorem qa4 (n : Int) : D.noPtrL (encI n) = true := rfl
structure Pk where
 kind : Int
 sess : Int
 epoch : Int
 from_ : Int
 to : Int
 seq : Int
 label : Int
 values : List AV
 clock : List Int
 deriving DecidableEq, Inhabited
def qq (p : Pk) : List D := [.int .i64 p.kind, .int .i64 p.sess, .int .i64 p.epoch, .int .i64 p.from_, .int .i64 p.to, .int .i64 p.seq, .int .i64 p.label, .sl 3 (p.values.map je), .sl 1 (p.clock.map encI)]
theorem qgx (p : Pk) : D.noPtrL (qq p) = true := by
 simp only [qq, D.noPtrL, D.noPtr, xp wi, xp qa4, Bool.and_self]
theorem q6k (l : List AV) : D.noPtrR (l.map je) = true := xp wi l
theorem xbk (l : List Int) : D.noPtrR (l.map encI) = true := xp qa4 l
theorem q6l (l : List Pk) : D.noPtrR (l.map qq) = true := xp qgx l
attribute [go_sem] wi qa4 qgx q6k xbk q6l
noncomputable section
set_option maxRecDepth 100000
set_option linter.defProp false
def d219 := cut Tryz.prog Tryz.f219 news
@[go_sem] def E219 := qm d219
def F219 := fnC d219 follows Tryz.func219
def d215 := cut Tryz.prog Tryz.f215 news
@[go_sem] def E215 := qm d215
def F215 := fnC d215 follows Tryz.func215
def d212 := cut Tryz.prog Tryz.f212 news
@[go_sem] def E212 := qm d212
def F212 := fnC d212 follows Tryz.func212
def d218 := cut Tryz.prog Tryz.f218 news
@[go_sem] def E218 := qm d218
def F218 := fnC d218 follows Tryz.func218
def d136 := cut Tryz.prog Tryz.f136 news
@[go_sem] def E136 := qm d136
def F136 := fnC d136 follows Tryz.func136
def d137 := cut Tryz.prog Tryz.f137 news
@[go_sem] def E137 := qm d137
def F137 := fnC d137 follows Tryz.func137
def d214 := cut Tryz.prog Tryz.f214 news
@[go_sem] def E214 := qm d214
def F214 := fnC d214 follows Tryz.func214
def d217 := cut Tryz.prog Tryz.f217 news
@[go_sem] def E217 := qm d217
def F217 := fnC d217 follows Tryz.func217
end
def role (n : Int) : Bool := decide (n ≥ 0) && decide (n < 6)
theorem qyf (n : Int) : qg Tryz.prog 219 [.d (.int .i64 n)] [] (.d (.bool (role n))) [] := by
 first | refine F219.go ?_ | refine F219.goT ?_
 (refine ev ?_; try exact True.intro)
 rfl
def qps (v : AV) : Bool := if v.kind == 1 then v.s == [] else if v.kind == 2 then v.n == 0 && decide ((v.s.length : Int) ≤ 40) else false
theorem q6m (v : AV) : qg Tryz.prog 215 [.d (.agg (je v))] [] (.d (.bool (qps v))) [] := by
 first | refine F215.go ?_ | refine F215.goT ?_
 (refine ev1 @je.eq_1 ?_; try exact True.intro)
 refine qp _ rfl rfl (fun h => ?_) (fun h => ?_)
 ·(refine ev2 @qps.eq_1 @h ?_; try exact True.intro)
 ·(refine ev ?_; try exact True.intro)
  refine qp _ rfl rfl (fun h2 => ?_) (fun h2 => ?_)
  ·(refine ev3 @qps.eq_1 @h @h2 ?_; try exact True.intro)
  ·(refine ev3 @qps.eq_1 @h @h2 ?_; try exact True.intro)
def qrx (p : Pk) : Bool := role p.from_ && role p.to && p.from_ != p.to && decide (p.seq ≥ 1) && decide (p.seq ≤ 1099511627776)
theorem qm2 (p : Pk) : qg Tryz.prog 212 [.d (.agg (qq p))] [] (.d (.bool (qrx p))) [] := by
 first | refine F212.go ?_ | refine F212.goT ?_
 (refine ev1 @qq.eq_1 ?_; try exact True.intro)
 refine xo (qyf _) F219.body (fun h => h) (fun _ => ⟨qc, trivial⟩) rfl rfl rfl ?_
 (refine ev ?_; try exact True.intro)
 refine xo (qyf _) F219.body (fun h => h) (fun _ => ⟨qc, trivial⟩) rfl rfl rfl ?_
 (refine ev ?_; try exact True.intro)
 rfl
def bare (p : Pk) : Bool := p.epoch == 0 && (p.values.length : Int) == 0 && (p.clock.length : Int) == 0
theorem q6n (p : Pk) : qg Tryz.prog 218 [.d (.agg (qq p))] [] (.d (.bool (bare p))) [] := by
 first | refine F218.go ?_ | refine F218.goT ?_
 (refine ev1 @qq.eq_1 ?_; try exact True.intro)
 rfl
theorem qc4 (p : Pk) : ([ASlot.d (.agg (qq p))].all ASlot.noPtr) = true := by
 simp only [List.all_cons, List.all_nil, ASlot.noPtr, D.noPtr, qgx, Bool.and_self]
def ack (p : Pk) : Bool := qrx p && bare p && p.label == 0
theorem xhp (p : Pk) : qg Tryz.prog 136 [.d (.agg (qq p))] [] (.d (.bool (ack p))) [] := by
 first | refine F136.go ?_ | refine F136.goT ?_
 (refine ev1 @qq.eq_1 ?_; try exact True.intro)
 refine xo (qm2 p) F212.body (fun h => h) (fun _ => ⟨qc, trivial⟩) (qc4 p) rfl rfl ?_
 (refine ev ?_; try exact True.intro)
 refine xo (q6n p) F218.body (fun h => h) (fun _ => ⟨qc, trivial⟩) (qc4 p) rfl rfl ?_
 (refine ev ?_; try exact True.intro)
 rfl
def order (p : Pk) : Bool := role p.from_ && (p.label == 1 || p.label == 2) && bare p && p.to == 0 && p.seq == 0
theorem q0c (p : Pk) : qg Tryz.prog 137 [.d (.agg (qq p))] [] (.d (.bool (order p))) [] := by
 first | refine F137.go ?_ | refine F137.goT ?_
 (refine ev1 @qq.eq_1 ?_; try exact True.intro)
 refine xo (qyf _) F219.body (fun h => h) (fun _ => ⟨qc, trivial⟩) rfl rfl rfl ?_
 (refine ev ?_; try exact True.intro)
 refine ⟨by simp_all, ?_⟩
 refine xo (q6n p) F218.body (fun h => h) (fun _ => ⟨qc, trivial⟩) (qc4 p) rfl rfl ?_
 (refine ev ?_; try exact True.intro)
 rfl
theorem xbl (v : AV) : qg Tryz.prog 214 [.d (.agg (je v))] [] (.d (.bool (!qps v))) [] := by
 first | refine F214.go ?_ | refine F214.goT ?_
 (refine ev1 @je.eq_1 ?_; try exact True.intro)
 refine xo (q6m v) F215.body (fun h => h) (fun _ => ⟨qc, trivial⟩) rfl rfl rfl ?_
 (refine ev ?_; try exact True.intro)
theorem xbm (n : Int) : qg Tryz.prog 217 [.d (.int .i64 n)] [] (.d (.bool (decide (n < 0) || decide (n > 1099511627776)))) [] := by
 first | refine F217.go ?_ | refine F217.goT ?_
 (refine ev ?_; try exact True.intro)
 intro h
 rw [h]; rfl
end Go.Proofs.YtkcdbcbpbolgkaaGreatDoor
namespace Go.Proofs.YtkcdbcbpbolgkaaGreatDoor
open Go.Abs
set_option linter.unusedSimpArgs false
def idx {α : Type} (f : α → Bool) (l : List α) : Int := if l.any f then (l.findIdx f : Int) else -1
theorem qc5 {α : Type} {f : α → Bool} {l : List α} {i : Nat} (h : (l.take i).any f = false) (hi : l.length ≤ i) : idx f l = -1 := by
 rw [List.take_of_length_le hi] at h
 simp [idx, h]
theorem qc6 {α : Type} {f : α → Bool} {l : List α} {i : Nat} (h : (l.take i).any f = false) (hi : i < l.length) (hf : f l[i] = true) : idx f l = (i : Int) := by
 have ha : l.any f = true := List.any_eq_true.2 ⟨l[i], List.getElem_mem hi, hf⟩
 have hx : l.findIdx f = i := by
  rw [List.findIdx_eq hi]
  refine ⟨hf, fun j hj => ?_⟩
  rw [List.any_eq_false] at h
  have hj' : j < (l.take i).length := by simp; omega
  have := h (l.take i)[j] (List.getElem_mem hj')
  simpa using this
 simp [idx, ha, hx]
theorem jy {α : Type} {f : α → Bool} {l : List α} {i : Nat} (h : (l.take i).any f = false) (hi : i < l.length) (hf : f l[i] = false) : (l.take (i + 1)).any f = false := by
 rw [List.take_succ_eq_append_getElem hi, List.any_append, h]
 simp [hf]
theorem qpt {α : Type} (f : α → Bool) (l : List α) : decide (idx f l ≥ 0) = l.any f := by
 unfold idx
 cases l.any f <;> simp
noncomputable section
set_option maxRecDepth 100000
set_option linter.defProp false
def d267 := cut Tryz.prog Tryz.f267 news
@[go_sem] def E267 := qm d267
def F267 := fnC d267 follows Tryz.func267
def d268 := cut Tryz.prog Tryz.f268 news
@[go_sem] def E268 := qm d268
def F268 := fnC d268 follows Tryz.func268
def d213 := cut Tryz.prog Tryz.f213 news
@[go_sem] def E213 := qm d213
def F213 := fnC d213 follows Tryz.func213
def d216 := cut Tryz.prog Tryz.f216 news
@[go_sem] def E216 := qm d216
def F216 := fnC d216 follows Tryz.func216
end
def Sidx {α : Type} (es : Nat) (enc : α → List D) (k : FuncId) (l : List α) (f : α → Bool) (i : { i : Nat // (l.take i).any f = false }) : St :=
 ⟨[(0, true, .d (.sl es (l.map enc))), (1, true, .d (.func (.func k) [] [])), (6, true, .d (.sl es (l.map enc))), (7, true, .d (.int .i64 l.length)), (8, true, .d (.int .i64 (i.val : Nat)))], [], [], 1⟩
theorem q6o {k : FuncId} {f : AV → Bool} (hb : (Tryz.prog.funcs[k]?).any (fun fn => fn.body.isSome && !(fn.name == "runtime.NumGoroutine")) = true)
  (hf : ∀ v, qg Tryz.prog k [.d (.agg (je v))] [] (.d (.bool (f v))) []) (l : List AV) (hl : l.length ≤ maxLen) :
  qg Tryz.prog 267 [.d (.sl 3 (l.map je)), .d (.func (.func k) [] [])] [] (.d (.int .i64 (idx f l))) [] := by
 first | refine F267.go ?_ | refine F267.goT ?_
 (refine ev ?_; try exact True.intro)
 refine qk (Sidx 3 je k l f) (fun i => l.length - i.val) ⟨0, rfl⟩ ?_ (fun i => ?_)
 ·(refine ev2 @Sidx.eq_1 (xp wi) ?_; try exact True.intro)
 ·obtain ⟨i, hi⟩ := i
  (refine ev1 @Sidx.eq_1 ?_; try exact True.intro)
  refine qp _ rfl rfl (fun h => ?_) (fun h => ?_)
  ·have hil : i < l.length := by simpa using h
   (refine ev2 (qi je l hil) @je.eq_1 ?_; try exact True.intro)
   refine ⟨by omega, ?_⟩
   refine xo (hf l[i]) hb (fun h => h) (fun _ => ⟨qc, trivial⟩) rfl rfl rfl ?_
   (refine ev ?_; try exact True.intro)
   refine qp _ rfl rfl (fun h2 => ?_) (fun h2 => ?_)
   ·(refine ev1 (qc6 hi hil h2) ?_; try exact True.intro)
   ·(refine ev ?_; try exact True.intro)
    refine ⟨⟨i + 1, jy hi hil h2⟩, ?_, by dsimp only; omega⟩
    (refine ev3 @Sidx.eq_1 (qd (show i < 9223372036854775807 by unfold maxLen at hl; omega)) (xp wi) ?_; try exact True.intro)
  ·have hil : l.length ≤ i := by simpa using h
   (refine ev1 (qc5 hi hil) ?_; try exact True.intro)
theorem q6p {k : FuncId} {f : Int → Bool} (hb : (Tryz.prog.funcs[k]?).any (fun fn => fn.body.isSome && !(fn.name == "runtime.NumGoroutine")) = true)
  (hf : ∀ v, qg Tryz.prog k [.d (.int .i64 v)] [] (.d (.bool (f v))) []) (l : List Int) (hl : l.length ≤ maxLen) :
  qg Tryz.prog 268 [.d (.sl 1 (l.map encI)), .d (.func (.func k) [] [])] [] (.d (.int .i64 (idx f l))) [] := by
 first | refine F268.go ?_ | refine F268.goT ?_
 (refine ev ?_; try exact True.intro)
 refine qk (Sidx 1 encI k l f) (fun i => l.length - i.val) ⟨0, rfl⟩ ?_ (fun i => ?_)
 ·(refine ev2 @Sidx.eq_1 (xp qa4) ?_; try exact True.intro)
 ·obtain ⟨i, hi⟩ := i
  (refine ev1 @Sidx.eq_1 ?_; try exact True.intro)
  refine qp _ rfl rfl (fun h => ?_) (fun h => ?_)
  ·have hil : i < l.length := by simpa using h
   (refine ev2 (qi encI l hil) @encI.eq_1 ?_; try exact True.intro)
   refine ⟨by omega, ?_⟩
   refine xo (hf l[i]) hb (fun h => h) (fun _ => ⟨qc, trivial⟩) rfl rfl rfl ?_
   (refine ev ?_; try exact True.intro)
   refine qp _ rfl rfl (fun h2 => ?_) (fun h2 => ?_)
   ·(refine ev1 (qc6 hi hil h2) ?_; try exact True.intro)
   ·(refine ev ?_; try exact True.intro)
    refine ⟨⟨i + 1, jy hi hil h2⟩, ?_, by dsimp only; omega⟩
    (refine ev3 @Sidx.eq_1 (qd (show i < 9223372036854775807 by unfold maxLen at hl; omega)) (xp qa4) ?_; try exact True.intro)
  ·have hil : l.length ≤ i := by simpa using h
   (refine ev1 (qc5 hi hil) ?_; try exact True.intro)
theorem quz {k : FuncId} {f : AV → Bool} (hb : (Tryz.prog.funcs[k]?).any (fun fn => fn.body.isSome && !(fn.name == "runtime.NumGoroutine")) = true)
  (hf : ∀ v, qg Tryz.prog k [.d (.agg (je v))] [] (.d (.bool (f v))) []) (l : List AV) (hl : l.length ≤ maxLen) :
  qg Tryz.prog 213 [.d (.sl 3 (l.map je)), .d (.func (.func k) [] [])] [] (.d (.bool (l.any f))) [] := by
 first | refine F213.go ?_ | refine F213.goT ?_
 (refine ev ?_; try exact True.intro)
 refine xo (q6o hb hf l hl) F267.body (fun h => h) (fun _ => ⟨qc, qc, trivial⟩) (by simp [ASlot.noPtr, D.noPtr, D.noPtrL, xp wi]) rfl rfl ?_
 (refine ev1 @qpt ?_; try exact True.intro)
theorem qu0 {k : FuncId} {f : Int → Bool} (hb : (Tryz.prog.funcs[k]?).any (fun fn => fn.body.isSome && !(fn.name == "runtime.NumGoroutine")) = true)
  (hf : ∀ v, qg Tryz.prog k [.d (.int .i64 v)] [] (.d (.bool (f v))) []) (l : List Int) (hl : l.length ≤ maxLen) :
  qg Tryz.prog 216 [.d (.sl 1 (l.map encI)), .d (.func (.func k) [] [])] [] (.d (.bool (l.any f))) [] := by
 first | refine F216.go ?_ | refine F216.goT ?_
 (refine ev ?_; try exact True.intro)
 refine xo (q6p hb hf l hl) F268.body (fun h => h) (fun _ => ⟨qc, qc, trivial⟩) (by simp [ASlot.noPtr, D.noPtr, D.noPtrL, xp qa4]) rfl rfl ?_
 (refine ev1 @qpt ?_; try exact True.intro)
noncomputable section
set_option maxRecDepth 100000
set_option linter.defProp false
def d135 := cut Tryz.prog Tryz.f135 news
@[go_sem] def E135 := qm d135
def F135 := fnC d135 follows Tryz.func135
def d70 := cut Tryz.prog Tryz.f70 news
@[go_sem] def E70 := qm d70
def F70 := fnC d70 follows Tryz.func70
end
def data (p : Pk) : Bool := qrx p && (p.epoch == 0 || p.epoch == 1) && decide (p.label ≥ 0) && decide (p.label < 40) && decide ((p.values.length : Int) ≤ 4) && decide ((p.clock.length : Int) ≤ 6) && !(p.values.any fun v => !qps v) && !(p.clock.any fun n => decide (n < 0) || decide (n > 1099511627776))
theorem xfm (p : Pk) (h1 : p.values.length ≤ maxLen) (h2 : p.clock.length ≤ maxLen) : qg Tryz.prog 135 [.d (.agg (qq p))] [] (.d (.bool (data p))) [] := by
 first | refine F135.go ?_ | refine F135.goT ?_
 (refine ev1 @qq.eq_1 ?_; try exact True.intro)
 refine xo (qm2 p) F212.body (fun h => h) (fun _ => ⟨qc, trivial⟩) (qc4 p) rfl rfl ?_
 (refine ev ?_; try exact True.intro)
 refine ⟨by simp_all, ?_⟩
 refine xo (quz F214.body xbl p.values h1) F213.body (fun h => h) (fun _ => ⟨qc, qc, trivial⟩) (by simp [ASlot.noPtr, D.noPtr, D.noPtrL, xp wi]) rfl rfl ?_
 (refine ev ?_; try exact True.intro)
 refine xo (qu0 F217.body xbm p.clock h2) F216.body (fun h => h) (fun _ => ⟨qc, qc, trivial⟩) (by simp [ASlot.noPtr, D.noPtr, D.noPtrL, xp qa4]) rfl rfl ?_
 (refine ev ?_; try exact True.intro)
 rfl
def qm3 (p : Pk) : Bool := decide (p.kind ≥ 1) && decide (p.kind ≤ 4) && decide (p.sess ≥ 1) && decide (p.sess ≤ 32)
def xy (p : Pk) : Bool := qm3 p && (if p.kind = 1 then data p else if p.kind = 2 then ack p else order p)
theorem qba (p : Pk) (h1 : p.values.length ≤ maxLen) (h2 : p.clock.length ≤ maxLen) : qg Tryz.prog 70 [.d (.agg (qq p))] [] (.d (.bool (xy p))) [] := by
 first | refine F70.go ?_ | refine F70.goT ?_
 (refine ev1 @qq.eq_1 ?_; try exact True.intro)
 have hk : (decide (p.kind ≥ 1) && decide (p.kind ≤ 4) && decide (p.sess ≥ 1) && decide (p.sess ≤ 32)) = qm3 p := rfl
 simp only [hk]
 cases hG : qm3 p with
 | false =>
  (refine ev ?_; try exact True.intro)
  refine qao (.bool false) rfl ?_
  (refine ev2 @xy.eq_1 @hG ?_; try exact True.intro)
 | true =>
  have h4 : p.kind = 1 ∨ p.kind = 2 ∨ p.kind = 3 ∨ p.kind = 4 := by simp [qm3] at hG; omega
  rcases h4 with hp | hp | hp | hp <;> simp only [hp, Int.reduceToNat, Int.reduceLE, Int.reduceLT, go_sem, Nat.reduceAdd, Nat.reduceMul, Nat.reduceSub, Nat.reduceEqDiff, Nat.reduceLT, Nat.reduceLeDiff, Nat.reduceBEq, reduceIte, reduceCtorEq, Int.reduceAdd, Int.reduceLT, Int.reduceLE, Int.reduceGT, Int.reduceGE, Int.reduceEq, Int.reduceNe, Int.reduceBEq, Int.reduceBNe, Int.reduceToNat, Int.reduceNeg]
  ·refine xo (xfm p h1 h2) F135.body (fun h => h) (fun _ => ⟨by simp [qan, ASlot.eqvD, D.eqv_refl, qq, hp], trivial⟩) (qc4 p) rfl rfl ?_
   (refine ev3 @xy.eq_1 @hG @hp ?_; try exact True.intro)
  ·refine xo (xhp p) F136.body (fun h => h) (fun _ => ⟨by simp [qan, ASlot.eqvD, D.eqv_refl, qq, hp], trivial⟩) (qc4 p) rfl rfl ?_
   (refine ev3 @xy.eq_1 @hG @hp ?_; try exact True.intro)
  ·refine xo (q0c p) F137.body (fun h => h) (fun _ => ⟨by simp [qan, ASlot.eqvD, D.eqv_refl, qq, hp], trivial⟩) (qc4 p) rfl rfl ?_
   (refine ev3 @xy.eq_1 @hG @hp ?_; try exact True.intro)
  ·refine xo (q0c p) F137.body (fun h => h) (fun _ => ⟨by simp [qan, ASlot.eqvD, D.eqv_refl, qq, hp], trivial⟩) (qc4 p) rfl rfl ?_
   (refine ev3 @xy.eq_1 @hG @hp ?_; try exact True.intro)
end Go.Proofs.YtkcdbcbpbolgkaaGreatDoor
namespace Go.Proofs.YtkcdbcbpbolgkaaGreatDoor
open Go.Abs
set_option linter.unusedSimpArgs false
theorem qry {α : Type} [DecidableEq α] {l m : List α} {i : Nat} (h1 : i < l.length) (h2 : i < m.length) (h : l[i] ≠ m[i]) : decide (l = m) = false := by
 rw [decide_eq_false_iff_not]
 rintro rfl
 exact h rfl
theorem wd {α : Type} {l m : List α} {i : Nat} (h : l.take i = m.take i) (h1 : i < l.length) (h2 : i < m.length) (he : l[i] = m[i]) : l.take (i + 1) = m.take (i + 1) := by
 rw [List.take_succ_eq_append_getElem h1, List.take_succ_eq_append_getElem h2, h, he]
noncomputable section
set_option maxRecDepth 100000
set_option linter.defProp false
def d67 := cut Tryz.prog Tryz.f67 news
@[go_sem] def E67 := qm d67
def d68 := cut Tryz.prog Tryz.f68 news
@[go_sem] def E68 := qm d68
def d132 := cut Tryz.prog Tryz.f132 news
@[go_sem] def E132 := qm d132
def d133 := cut Tryz.prog Tryz.f133 news
@[go_sem] def E133 := qm d133
def d17 := cut Tryz.prog Tryz.f17 news
@[go_sem] def E17 := qm d17
end
def Seq {α : Type} (es : Nat) (enc : α → List D) (l m : List α) (i : { i : Nat // l.take i = m.take i }) : St :=
 ⟨[(0, true, .d (.sl es (l.map enc))), (1, true, .d (.sl es (m.map enc))), (12, true, .d (.int .i64 l.length)), (13, true, .d (.int .i64 (i.val : Nat)))], [], [], 1⟩
end Go.Proofs.YtkcdbcbpbolgkaaGreatDoor
namespace Go.Proofs.YtkcdbcbpbolgkaaGreatDoor
open Go.Abs
set_option linter.unusedSimpArgs false
def qbq (g : Nat → Bool) (n : Nat) : Bool := (List.range n).all g
theorem q3a (g : Nat → Bool) (n : Nat) : qbq g (n + 1) = (qbq g n && g n) := by simp [qbq, List.range_succ]
theorem yq {g : Nat → Bool} {n : Nat} (h : qbq g n = true) (hg : g n = true) : qbq g (n + 1) = true := by rw [q3a, h, hg]; rfl
theorem qd7 {g : Nat → Bool} {i n : Nat} (hi : i < n) (hg : g i = false) : qbq g n = false := by
 simp only [qbq, List.all_eq_false]
 exact ⟨i, by simpa using hi, by simp [hg]⟩
theorem zo {g : Nat → Bool} {n : Nat} : qbq g n = true ↔ ∀ i, i < n → g i = true := by simp [qbq]
structure Qu where
 acc : Int
 cons : Int
 items : List Pk
 deriving DecidableEq, Inhabited
def encQ (q : Qu) : List D := [.int .i64 q.acc, .int .i64 q.cons, .sl 9 (q.items.map qq)]
theorem q3b (q : Qu) : D.noPtrL (encQ q) = true := by (refine ev1 @encQ.eq_1 ?_; try exact True.intro)
attribute [go_sem] q3b
def Pk.Sm (p : Pk) : Prop := p.values.length ≤ 1000 ∧ p.clock.length ≤ 1000
def Qu.Sm (q : Qu) : Prop := q.items.length ≤ 1000 ∧ ∀ p ∈ q.items, p.Sm
theorem Pk.Sm.v {p : Pk} (h : p.Sm) : p.values.length ≤ maxLen := by have := h.1; unfold maxLen; omega
theorem Pk.Sm.c {p : Pk} (h : p.Sm) : p.clock.length ≤ maxLen := by have := h.2; unfold maxLen; omega
noncomputable section
set_option maxRecDepth 100000
set_option linter.defProp false
def d220 := cut Tryz.prog Tryz.f220 news
@[go_sem] def E220 := qm d220
def d221 := cut Tryz.prog Tryz.f221 news
@[go_sem] def E221 := qm d221
def d188 := cut Tryz.prog Tryz.f188 news
@[go_sem] def E188 := qm d188
def d66 := cut Tryz.prog Tryz.f66 news
@[go_sem] def E66 := qm d66
def d222 := cut Tryz.prog Tryz.f222 news
@[go_sem] def E222 := qm d222
end
theorem ja {α : Type} {l : List α} {i : Nat} (h : i < l.length) (d : α) : l.getD i d = l[i] := by simp [List.getD, h]
end Go.Proofs.YtkcdbcbpbolgkaaGreatDoor
namespace Go.Proofs.YtkcdbcbpbolgkaaGreatDoor
open Go.Abs
set_option linter.unusedSimpArgs false
noncomputable section
set_option maxRecDepth 100000
set_option linter.defProp false
def d138 := cut Tryz.prog Tryz.f138 news
@[go_sem] def E138 := qm d138
def d15 := cut Tryz.prog Tryz.f15 news
@[go_sem] def E15 := qm d15
end
end Go.Proofs.YtkcdbcbpbolgkaaGreatDoor
namespace Go.Proofs.YtkcdbcbpbolgkaaGreatDoor
open Go.Abs
set_option linter.unusedSimpArgs false
theorem zr (s : List UInt8) : D.noPtrR (qa s) = true := xp (fun _ => rfl) s
theorem xf (s t : List UInt8) : qa s ++ qa t = qa (s ++ t) := by simp [qa]
theorem qab (c : UInt8) : [[D.int .u8 (c.toNat : Int)]] = qa [c] := rfl
theorem jn (s : List UInt8) : (qa s).length = s.length := by simp [qa]
theorem xd : qa [] = [] := rfl
attribute [go_sem] zr jn
attribute [go_sem] xd
def qbv (u : Nat) : List UInt8 := if u < 128 then [UInt8.ofNat u] else UInt8.ofNat (u % 128 + 128) :: qbv (u / 128)
def zz (n : Int) : Nat := if 0 ≤ n then (2 * n).toNat else (-2 * n - 1).toNat
def wInt (n : Int) : List UInt8 := qbv (zz n)
def I64 (n : Int) : Prop := -9223372036854775808 ≤ n ∧ n ≤ 9223372036854775807
theorem qpv : ∀ (k u : Nat), u < 128 ^ (k + 1) → (qbv u).length ≤ k + 1
 | 0, u, h => by rw [qbv, if_pos (by simpa using h)]; simp
 | k + 1, u, h => by
  rw [qbv]
  split
  ·simp
  ·have := qpv k (u / 128) (by rw [Nat.div_lt_iff_lt_mul (by decide)]; rw [Nat.pow_succ] at h; exact h)
   simp; omega
theorem xbo {n : Int} (h : I64 n) : zz n < 18446744073709551616 := by
 obtain ⟨h1, h2⟩ := h
 unfold zz; split <;> omega
theorem zk {n : Int} (h : I64 n) : (wInt n).length ≤ 10 := qpv 9 _ (Nat.lt_of_lt_of_le (xbo h) (by decide))
theorem qfc (n : Int) : IntKind.u8.wrap n = n % 256 := by simp [IntKind.wrap, IntKind.bits, IntKind.signed]
theorem qgl (a : Nat) (h : a < 2 ^ 64) : ((BitVec.ofInt 64 (a : Int)) ^^^ (BitVec.ofInt 64 18446744073709551615)).toNat = 18446744073709551615 - a := by
 have e1 : BitVec.ofInt 64 18446744073709551615 = BitVec.allOnes 64 := by decide
 have e2 : BitVec.ofInt 64 (a : Int) = BitVec.ofNat 64 a := by simp
 rw [e1, e2, BitVec.xor_allOnes, BitVec.toNat_not, BitVec.toNat_ofNat, Nat.mod_eq_of_lt h]
theorem xjt {n : Int} (h : I64 n) : IntKind.u64.wrap (qtc 64 (IntKind.u64.wrap (IntKind.u64.wrap n * 2 ^ min 1 64)) (IntKind.u64.wrap (n.fdiv (2 ^ min 63 64)))) = (zz n : Int) := by
 unfold qtc
 obtain ⟨h1, h2⟩ := h
 have hf : n.fdiv (2 ^ min 63 64) = if 0 ≤ n then 0 else -1 := by
  show n.fdiv 9223372036854775808 = _
  rw [Int.fdiv_eq_ediv_of_nonneg _ (by decide)]
  split <;> omega
 have hw : ∀ m : Int, IntKind.u64.wrap m = m % 18446744073709551616 := fun m => by simp [IntKind.wrap, IntKind.bits, IntKind.signed]
 have hz := xbo ⟨h1, h2⟩
 have hp : (2 : Int) ^ min 1 64 = 2 := rfl
 rw [hf, hp]
 by_cases hn : 0 ≤ n
 ·rw [if_pos hn]
  have e0 : BitVec.ofInt 64 (IntKind.u64.wrap 0) = 0#64 := by rw [hw]; rfl
  have e1 : IntKind.u64.wrap (IntKind.u64.wrap n * 2) = ((zz n : Nat) : Int) := by rw [hw, hw]; unfold zz; rw [if_pos hn]; omega
  rw [e0, e1, BitVec.xor_zero, BitVec.ofInt_natCast, BitVec.toNat_ofNat, Nat.mod_eq_of_lt hz, hw]
  omega
 ·rw [if_neg hn]
  have e0 : IntKind.u64.wrap (-1) = 18446744073709551615 := by rw [hw]; rfl
  have e1 : IntKind.u64.wrap (IntKind.u64.wrap n * 2) = ((18446744073709551615 - zz n : Nat) : Int) := by rw [hw, hw]; unfold zz at hz ⊢; rw [if_neg hn] at hz ⊢; omega
  rw [e0, e1, qgl _ (by show _ < 18446744073709551616; omega), hw]
  unfold zz at hz ⊢; rw [if_neg hn] at hz ⊢; omega
theorem xbp (u : Nat) : (IntKind.u8.wrap (bvOr 8 (IntKind.u8.wrap (u : Int)) 128)) = ((UInt8.ofNat (u % 128 + 128)).toNat : Int) := by
 unfold bvOr
 have hw : ∀ m : Int, IntKind.u8.wrap m = m % 256 := fun m => by simp [IntKind.wrap, IntKind.bits, IntKind.signed]
 have e1 : BitVec.ofInt 8 (IntKind.u8.wrap (u : Int)) = BitVec.ofNat 8 (u % 256) := by rw [hw, show ((u : Int) % 256) = ((u % 256 : Nat) : Int) by omega, BitVec.ofInt_natCast]
 have key : ∀ x : Fin 256, (BitVec.ofNat 8 x.val ||| BitVec.ofInt 8 128).toNat = x.val % 128 + 128 := by decide +kernel
 have := key ⟨u % 256, Nat.mod_lt _ (by decide)⟩
 simp only at this
 rw [e1, this, hw]
 simp only [UInt8.toNat_ofNat']
 omega
theorem qcp {u : Nat} (h : ¬ u < 128) : qbv u = UInt8.ofNat (u % 128 + 128) :: qbv (u / 128) := by rw [qbv, if_neg h]
theorem qa5 {u : Nat} (h : u < 128) : qbv u = [UInt8.ofNat u] := by rw [qbv, if_pos h]
theorem xks (u : Nat) : (u : Int).fdiv (2 ^ min 7 64) = ((u / 128 : Nat) : Int) := by
 show (u : Int).fdiv 128 = _
 rw [Int.fdiv_eq_ediv_of_nonneg _ (by decide)]; omega
theorem qr3 (u : Nat) : IntKind.u8.wrap (u : Int) = ((UInt8.ofNat u).toNat : Int) := by
 rw [qfc _, UInt8.toNat_ofNat']; omega
noncomputable section
set_option maxRecDepth 100000
set_option linter.defProp false
def d147 := cut Tryz.prog Tryz.f147 news
@[go_sem] def E147 := qm d147
def F147 := fnC d147 follows Tryz.func147
def d156 := cut Tryz.prog Tryz.f156 news
@[go_sem] def E156 := qm d156
def F156 := fnC d156 follows Tryz.func156
def d157 := cut Tryz.prog Tryz.f157 news
@[go_sem] def E157 := qm d157
def F157 := fnC d157 follows Tryz.func157
def d155 := cut Tryz.prog Tryz.f155 news
@[go_sem] def E155 := qm d155
def F155 := fnC d155 follows Tryz.func155
end
def xbq (b : List UInt8) (n : Int) (i : { i : List UInt8 × Nat // i.1 ++ qbv i.2 = b ++ wInt n }) : St :=
 ⟨[(0, true, .own 0 1 (qa i.val.1)), (5, true, .d (.int .u64 (i.val.2 : Nat)))], [], [0], 1⟩
theorem qa6 (b : List UInt8) (n : Int) (hb : b.length ≤ 1000000000) (hn : I64 n) : qg Tryz.prog 147 [.own 0 1 (qa b), .d (.int .i64 n)] [] (.own 0 1 (qa (b ++ wInt n))) [] := by
 refine F147.go ?_
 try (refine ev1 (xjt hn) ?_; try exact True.intro)
 refine qk (xbq b n) (fun i => i.val.2) ⟨(b, zz n), rfl⟩ ?_ (fun i => ?_)
 ·try (refine ev1 @xbq.eq_1 ?_; try exact True.intro)
 obtain ⟨⟨p, u⟩, hi⟩ := i
 have hl : p.length ≤ 1000000010 := by
  have := congrArg List.length hi
  have := zk hn
  simp at *; omega
 try (refine ev1 @xbq.eq_1 ?_; try exact True.intro)
 (repeat (with_reducible refine ob ?_)); refine xk _ (fun h => ?_) (fun h => ?_)
 ·have hu : ¬ u < 128 := by simp at h; omega
  try (refine ev4 @xbp @qab @xf @xks ?_; try exact True.intro)
  (repeat (with_reducible refine ob ?_))
  refine ⟨⟨(p ++ [UInt8.ofNat (u % 128 + 128)], u / 128), ?_⟩, ?_, ?_⟩
  ·simp only at hi ⊢; rw [qcp hu] at hi; rw [← hi]; simp
  ·try (refine ev1 @xbq.eq_1 ?_; try exact True.intro)
  ·simp only; omega
 ·have hu : u < 128 := by simp at h; omega
  try (refine ev3 @qr3 @qab @xf ?_; try exact True.intro)
  (repeat (with_reducible refine ob ?_))
  simp only [qa5 hu] at hi
  try (refine ev1 @hi ?_; try exact True.intro)
theorem qm5 (b : List UInt8) (v : Bool) (hb : b.length ≤ 1000000000) : qg Tryz.prog 156 [.own 0 1 (qa b), .d (.bool v)] [] (.own 0 1 (qa (b ++ [if v then 1 else 0]))) [] := by
 refine F156.go ?_
 try (refine ev ?_; try exact True.intro)
 have e1 : [[D.int .u8 1]] = qa [1] := rfl
 have e0 : [[D.int .u8 0]] = qa [0] := rfl
 cases v with
 | true =>
  try (refine ev ?_; try exact True.intro)
  (repeat (with_reducible refine ob ?_)); refine qde ?_
  try simp only [e1, xf, if_true, go_sem, Nat.reduceAdd, Nat.reduceMul, Nat.reduceSub, Nat.reduceEqDiff, Nat.reduceLT, Nat.reduceLeDiff, Nat.reduceBEq, reduceIte, reduceCtorEq, Int.reduceAdd, Int.reduceLT, Int.reduceLE, Int.reduceGT, Int.reduceGE, Int.reduceEq, Int.reduceNe, Int.reduceBEq, Int.reduceBNe, Int.reduceToNat, Int.reduceNeg]
  omega
 | false =>
  try (refine ev ?_; try exact True.intro)
  (repeat (with_reducible refine ob ?_)); refine no_ ?_
  try (refine ev2 @e0 @xf ?_; try exact True.intro)
  omega
def qav (s : List UInt8) : List UInt8 := wInt s.length ++ s
theorem zw {n : Nat} (h : n ≤ 9000000000000000000) : I64 n := by unfold I64; omega
theorem qm6 (b s : List UInt8) (hb : b.length + s.length ≤ 900000000) : qg Tryz.prog 157 [.own 0 1 (qa b), .d (.str s)] [] (.own 0 1 (qa (b ++ qav s))) [] := by
 refine F157.go ?_
 try (refine ev ?_; try exact True.intro)
 refine clA F147 (qa6 b s.length (by omega) (zw (by omega))) ?_
 try (refine ev ?_; try exact True.intro)
 have hl := zk (zw (n := s.length) (by omega))
 have e : qa (b ++ wInt s.length) ++ qa s = qa (b ++ qav s) := by rw [xf, qav, List.append_assoc]
 try (refine ev2 @e @List.length_append.{0} ?_; try exact True.intro)
 refine ⟨by omega, by omega⟩
theorem qkm (b s : List UInt8) (hb : b.length + s.length ≤ 900000000) : qg Tryz.prog 155 [.own 0 1 (qa b), .d (.sl 1 (qa s))] [] (.own 0 1 (qa (b ++ qav s))) [] := by
 refine F155.go ?_
 try (refine ev ?_; try exact True.intro)
 refine clA F147 (qa6 b s.length (by omega) (zw (by omega))) ?_
 try (refine ev ?_; try exact True.intro)
 have hl := zk (zw (n := s.length) (by omega))
 have e : qa (b ++ wInt s.length) ++ qa s = qa (b ++ qav s) := by rw [xf, qav, List.append_assoc]
 try (refine ev2 @e @List.length_append.{0} ?_; try exact True.intro)
 refine ⟨by omega, by omega⟩
end Go.Proofs.YtkcdbcbpbolgkaaGreatDoor
namespace Go.Proofs.YtkcdbcbpbolgkaaGreatDoor
open Go.Abs
set_option linter.unusedSimpArgs false
structure OpS where
 key : List UInt8
 del : Bool
 val : List UInt8
 deriving DecidableEq, Inhabited
def qh (o : OpS) : List D := [.str o.key, .bool o.del, .sl 1 (qa o.val)]
theorem qgy (o : OpS) : D.noPtrL (qh o) = true := by simp only [qh, D.noPtrL, D.noPtr, zr, Bool.and_self]
theorem qar (l : List OpS) : D.noPtrR (l.map qh) = true := xp qgy l
attribute [go_sem] qgy qar
noncomputable section
set_option maxRecDepth 100000
set_option linter.defProp false
def d154 := cut Tryz.prog Tryz.f154 news
@[go_sem] def E154 := qm d154
def F154 := fnC d154 follows Tryz.func154
def d153 := cut Tryz.prog Tryz.f153 news
@[go_sem] def E153 := qm d153
def F153 := fnC d153 follows Tryz.func153
def d231 := cut Tryz.prog Tryz.f231 news
@[go_sem] def E231 := qm d231
def F231 := fnC d231 follows Tryz.func231
def d152 := cut Tryz.prog Tryz.f152 news
@[go_sem] def E152 := qm d152
def F152 := fnC d152 follows Tryz.func152
def d85 := cut Tryz.prog Tryz.f85 news
@[go_sem] def E85 := qm d85
def F85 := fnC d85 follows Tryz.func85
end
def jo (o : OpS) : Bool := decide ((o.key.length : Int) ≥ 1) && decide ((o.key.length : Int) ≤ 40) && decide ((o.val.length : Int) ≤ 900) && !(o.del && decide ((o.val.length : Int) > 0))
theorem qpw (o : OpS) : qg Tryz.prog 154 [.d (.agg (qh o))] [] (.d (.bool (jo o))) [] := by
 refine F154.go ?_
 try (refine ev1 @qh.eq_1 ?_; try exact True.intro)
 simp only [jo, and_true]
 intro h
 refine ⟨h, fun h2 => ?_⟩
 rw [h, h2]; rfl
theorem qjh (o : OpS) : qg Tryz.prog 153 [.d (.agg (qh o))] [] (.d (.bool (!jo o))) [] := by
 refine F153.go ?_
 try (refine ev1 @qh.eq_1 ?_; try exact True.intro)
 (repeat (with_reducible refine ob ?_)); first | refine cl F154 (qpw o) ?_ | refine clF F154 (qpw o) (fun _ => by (refine ev1 @qh.eq_1 ?_; try exact True.intro)) ?_
 try (refine ev ?_; try exact True.intro)
def xbr (k : FuncId) (l : List OpS) (f : OpS → Bool) (i : { i : Nat // (l.take i).any f = false }) : St :=
 ⟨[(0, true, .d (.sl 3 (l.map qh))), (1, true, .d (.func (.func k) [] [])), (7, true, .d (.int .i64 l.length)), (8, true, .d (.int .i64 (i.val : Nat)))], [], [], 1⟩
theorem qu5 {k : FuncId} {f : OpS → Bool} (hb : (Tryz.prog.funcs[k]?).any (fun fn => fn.body.isSome && !(fn.name == "runtime.NumGoroutine")) = true)
  (hf : ∀ v, qg Tryz.prog k [.d (.agg (qh v))] [] (.d (.bool (f v))) []) (l : List OpS) (hl : l.length ≤ maxLen) :
  qg Tryz.prog 231 [.d (.sl 3 (l.map qh)), .d (.func (.func k) [] [])] [] (.d (.int .i64 (idx f l))) [] := by
 refine F231.go ?_
 try (refine ev ?_; try exact True.intro)
 refine qk (xbr k l f) (fun i => l.length - i.val) ⟨0, rfl⟩ ?_ (fun i => ?_)
 ·try (refine ev1 @xbr.eq_1 ?_; try exact True.intro)
 obtain ⟨i, hi⟩ := i
 try (refine ev1 @xbr.eq_1 ?_; try exact True.intro)
 (repeat (with_reducible refine ob ?_)); refine xk _ (fun h => ?_) (fun h => ?_)
 ·have hil : i < l.length := by simpa using h
  (refine ev2 (qi qh l hil) @qh.eq_1 ?_; try exact True.intro)
  (repeat (with_reducible refine ob ?_))
  refine xo (hf l[i]) hb (fun h => h) (fun _ => ⟨qc, trivial⟩) (by try (refine ev1 @qh.eq_1 ?_; try exact True.intro)) rfl rfl ?_
  try (refine ev ?_; try exact True.intro)
  (repeat (with_reducible refine ob ?_)); refine xk _ (fun h => ?_) (fun h => ?_)
  ·try (refine ev1 (qc6 hi hil h) ?_; try exact True.intro)
  ·try (refine ev ?_; try exact True.intro)
   refine ⟨⟨i + 1, jy hi hil (by simpa using h)⟩, ?_, by dsimp only; omega⟩
   try (refine ev2 @xbr.eq_1 (qd (show i < 9223372036854775807 by unfold maxLen at hl; omega)) ?_; try exact True.intro)
 ·have hil : l.length ≤ i := by simpa using h
  try (refine ev1 (qc5 hi hil) ?_; try exact True.intro)
theorem qkn {k : FuncId} {f : OpS → Bool} (hb : (Tryz.prog.funcs[k]?).any (fun fn => fn.body.isSome && !(fn.name == "runtime.NumGoroutine")) = true)
  (hf : ∀ v, qg Tryz.prog k [.d (.agg (qh v))] [] (.d (.bool (f v))) []) (l : List OpS) (hl : l.length ≤ maxLen) :
  qg Tryz.prog 152 [.d (.sl 3 (l.map qh)), .d (.func (.func k) [] [])] [] (.d (.bool (l.any f))) [] := by
 refine F152.go ?_
 try (refine ev ?_; try exact True.intro)
 (repeat (with_reducible refine ob ?_)); first | refine cl F231 (qu5 hb hf l hl) ?_ | refine clF F231 (qu5 hb hf l hl) (fun _ => by (refine ev1 @qh.eq_1 ?_; try exact True.intro)) ?_
 try (refine ev1 @qpt ?_; try exact True.intro)
def wOp (o : OpS) : List UInt8 := qav o.key ++ [if o.del then 1 else 0] ++ qav o.val
def wOps (l : List OpS) : List UInt8 := wInt l.length ++ l.flatMap wOp
def qo (l : List OpS) : List UInt8 × Int :=
 if l.length = 0 || l.any (fun o => !jo o) then ([], 1) else if l.length > 20 || (wOps l).length > 2000 then ([], 6) else (wOps l, 0)
theorem js {o : OpS} : jo o = true ↔ 1 ≤ o.key.length ∧ o.key.length ≤ 40 ∧ o.val.length ≤ 900 ∧ (o.del = true → o.val.length = 0) := by
 unfold jo
 cases o.del <;> simp [-List.length_eq_zero_iff] <;> omega
theorem qdl (s : List UInt8) (h : s.length ≤ 900000000) : (qav s).length ≤ s.length + 10 := by
 have := zk (zw (n := s.length) (by omega))
 simp [qav]; omega
theorem qyg {o : OpS} (h : jo o = true) : (wOp o).length ≤ 1000 := by
 obtain ⟨h1, h2, h3, _⟩ := js.1 h
 have k1 := qdl o.key (Nat.le_trans h2 (by decide))
 have k2 := qdl o.val (Nat.le_trans h3 (by decide))
 simp only [wOp, List.length_append, List.length_cons, List.length_nil]; omega
theorem qf1 {l : List OpS} (h : ∀ o ∈ l, jo o = true) : (l.flatMap wOp).length ≤ l.length * 1000 := by
 induction l with
 | nil => simp
 | cons o l ih =>
  have h1 := qyg (h o List.mem_cons_self)
  have h2 := ih (fun x hx => h x (List.mem_cons_of_mem _ hx))
  simp only [List.flatMap_cons, List.length_append, List.length_cons]
  omega
def Senc (l : List OpS) (i : { i : Nat // i ≤ l.length }) : St :=
 ⟨[(0, true, .d (.sl 3 (l.map qh))), (4, true, .own 0 1 (qa (wInt l.length ++ (l.take i.val).flatMap wOp))), (17, true, .d (.sl 3 (l.map qh))), (18, true, .d (.int .i64 l.length)), (19, true, .d (.int .i64 (i.val : Nat)))], [], [0], 1⟩
theorem qfd : (Tryz.prog.funcs[153]?).any (fun fn => fn.body.isSome && !(fn.name == "runtime.NumGoroutine")) = true := F153.body
theorem qm7 {α β : Type} (f : α → List β) (l : List α) {i : Nat} (h : i < l.length) : (l.take (i + 1)).flatMap f = (l.take i).flatMap f ++ f l[i] := by
 rw [List.take_succ_eq_append_getElem h, List.flatMap_append, List.flatMap_cons, List.flatMap_nil, List.append_nil]
theorem qf2 (l : List OpS) (hl : l.length ≤ 100000) : qg Tryz.prog 85 [.d (.sl 3 (l.map qh))] [] (.tup [.d (.sl 1 (qa (qo l).1)), .d (.int .i64 (qo l).2)]) [] := by
 refine F85.goT ?_
 try (refine ev ?_; try exact True.intro)
 (repeat (with_reducible refine ob ?_)); first | refine cl F152 (qkn qfd qjh l (by unfold maxLen; omega)) ?_ | refine clF F152 (qkn qfd qjh l (by unfold maxLen; omega)) (fun _ => by (refine ev1 @qh.eq_1 ?_; try exact True.intro)) ?_
 try (refine ev ?_; try exact True.intro)
 (repeat (with_reducible refine ob ?_))
 (repeat (with_reducible refine ob ?_)); refine xk _ (fun h => ?_) (fun h => ?_)
 ·have hb : qo l = ([], 1) := by
   unfold qo
   rw [if_pos]
   simp only [Bool.or_eq_true, decide_eq_true_eq, beq_iff_eq] at h ⊢
   rcases h with h | h
   ·left; omega
   ·right; exact h
  try (refine ev2 @hb @xd ?_; try exact True.intro)
 have hne : ¬ (decide (l.length = 0) || l.any (fun o => !jo o)) = true := by
  simp only [Bool.or_eq_true, decide_eq_true_eq, not_or]
  simp only [Bool.or_eq_false_iff, beq_eq_false_iff_ne] at h
  exact ⟨by omega, by simp [h.2]⟩
 have hpr : ∀ o ∈ l, jo o = true := by
  simp only [Bool.or_eq_true, not_or, List.any_eq_true, not_exists, not_and] at hne
  intro o ho
  simpa using hne.2 o ho
 have hwl := qf1 hpr
 have hil0 := zk (zw (n := l.length) (by omega))
 try (refine ev ?_; try exact True.intro)
 refine clA F147 (qa6 [] l.length (by simp) (zw (by omega))) ?_
 try (refine ev ?_; try exact True.intro)
 refine qk (Senc l) (fun i => l.length - i.val) ⟨0, Nat.zero_le _⟩ ?_ (fun i => ?_)
 ·try (refine ev2 @Senc.eq_1 @List.take_zero.{0} ?_; try exact True.intro)
 obtain ⟨i, hi⟩ := i
 try (refine ev1 @Senc.eq_1 ?_; try exact True.intro)
 (repeat (with_reducible refine ob ?_)); refine xk _ (fun h => ?_) (fun h => ?_)
 ·have hil : i < l.length := by simpa using h
  have ho := hpr l[i] (List.getElem_mem hil)
  obtain ⟨p1, p2, p3, _⟩ := js.1 ho
  have hpre : (wInt l.length ++ (l.take i).flatMap wOp).length ≤ 100000020 := by
   have := qf1 (l := l.take i) (fun o h => hpr o (List.mem_of_mem_take h))
   simp only [List.length_append, List.length_take] at this ⊢
   have : min i l.length ≤ 100000 := by omega
   omega
  have k1 := qdl l[i].key (by omega)
  try (refine ev2 (qi qh l hil) @qh.eq_1 ?_; try exact True.intro)
  (repeat (with_reducible refine ob ?_))
  refine clA F157 (qm6 (wInt l.length ++ (l.take i).flatMap wOp) l[i].key (by omega)) ?_
  try (refine ev ?_; try exact True.intro)
  refine clA F156 (qm5 ((wInt l.length ++ (l.take i).flatMap wOp) ++ qav l[i].key) l[i].del (by simp only [List.length_append] at hpre ⊢; omega)) ?_
  try (refine ev ?_; try exact True.intro)
  refine clA F155 (qkm ((wInt l.length ++ (l.take i).flatMap wOp) ++ qav l[i].key ++ [if l[i].del then 1 else 0]) l[i].val (by simp only [List.length_append, List.length_cons, List.length_nil] at hpre ⊢; omega)) ?_
  try (refine ev ?_; try exact True.intro)
  have e : wInt l.length ++ (l.take i).flatMap wOp ++ qav l[i].key ++ [if l[i].del then 1 else 0] ++ qav l[i].val = wInt l.length ++ (l.take (i + 1)).flatMap wOp := by
   rw [qm7 wOp l hil, wOp]; simp only [List.append_assoc]
  refine ⟨⟨i + 1, hil⟩, ?_, by dsimp only; omega⟩
  try (refine ev3 @Senc.eq_1 @e (qd (show i < 9223372036854775807 by omega)) ?_; try exact True.intro)
 ·have hie : i = l.length := by simp at h; omega
  subst hie
  try (refine ev1 @List.take_length.{0} ?_; try exact True.intro)
  have hw : wInt l.length ++ l.flatMap wOp = wOps l := rfl
  have hw2 : (wOps l).length = (wInt l.length).length + (l.flatMap wOp).length := by rw [wOps, List.length_append]
  try (refine ev1 @hw ?_; try exact True.intro)
  (repeat (with_reducible refine ob ?_)); refine xk _ (fun h => ?_) (fun h => ?_)
  ·have hb : qo l = ([], 6) := by
    unfold qo
    rw [if_neg hne, if_pos]
    simp only [Bool.or_eq_true, decide_eq_true_eq] at h ⊢
    omega
   try (refine ev2 @hb @xd ?_; try exact True.intro)
  ·have hb : qo l = (wOps l, 0) := by
    unfold qo
    rw [if_neg hne, if_neg]
    simp only [Bool.or_eq_true, Bool.or_eq_false_iff, decide_eq_true_eq, decide_eq_false_iff_not] at h ⊢
    omega
   try (refine ev1 @hb ?_; try exact True.intro)
end Go.Proofs.YtkcdbcbpbolgkaaGreatDoor
namespace Go.Proofs.YtkcdbcbpbolgkaaGreatDoor
open Go.Abs
set_option linter.unusedSimpArgs false
noncomputable section
set_option maxRecDepth 100000
set_option linter.defProp false
def d233 := cut Tryz.prog Tryz.f233 news
@[go_sem] def E233 := qm d233
def F233 := fnC d233 follows Tryz.func233
def d161 := cut Tryz.prog Tryz.f161 news
@[go_sem] def E161 := qm d161
def F161 := fnC d161 follows Tryz.func161
def d159 := cut Tryz.prog Tryz.f159 news
@[go_sem] def E159 := qm d159
def F159 := fnC d159 follows Tryz.func159
end
def fnv1 (h : Nat) (c : UInt8) : Nat := (h ^^^ c.toNat) * 1099511628211 % 18446744073709551616
def fnv (h : Nat) (s : List UInt8) : Nat := s.foldl fnv1 h
theorem qr4 (h : Nat) : fnv h [] = h := rfl
theorem qlh (h : Nat) (s : List UInt8) (c : UInt8) : fnv h (s ++ [c]) = (fnv h s ^^^ c.toNat) * 1099511628211 % 18446744073709551616 := by
 have : fnv h (s ++ [c]) = fnv1 (fnv h s) c := by unfold fnv; rw [List.foldl_append, List.foldl_cons, List.foldl_nil]
 rw [this, fnv1]
theorem qib {h : Nat} (hh : h < 18446744073709551616) (s : List UInt8) : fnv h s < 18446744073709551616 := by
 rcases List.eq_nil_or_concat s with rfl | ⟨t, c, rfl⟩
 ·rw [qr4]; exact hh
 ·rw [List.concat_eq_append, qlh]
  generalize (fnv h t ^^^ c.toNat) * 1099511628211 = x
  omega
theorem qgz (n : Int) : IntKind.u64.wrap n = n % 18446744073709551616 := by simp [IntKind.wrap, IntKind.bits, IntKind.signed]
theorem xbs (a b : Nat) (ha : a < 18446744073709551616) (hb : b < 18446744073709551616) : a ^^^ b < 18446744073709551616 := by
 have p : (18446744073709551616 : Nat) = 2 ^ 64 := by decide
 rw [p] at *
 exact Nat.xor_lt_two_pow ha hb
theorem q6q (a b : Nat) (ha : a < 18446744073709551616) (hb : b < 18446744073709551616) : qtc 64 (a : Int) (b : Int) = ((a ^^^ b : Nat) : Int) := by
 unfold qtc
 rw [BitVec.ofInt_natCast, BitVec.ofInt_natCast, BitVec.toNat_xor, BitVec.toNat_ofNat, BitVec.toNat_ofNat, Nat.mod_eq_of_lt ha, Nat.mod_eq_of_lt hb]
theorem f1 (x : Nat) : IntKind.u64.wrap ((x : Int) * 1099511628211) = ((x * 1099511628211 % 18446744073709551616 : Nat) : Int) := by
 rw [qgz]
 simp only [Int.natCast_emod, Int.natCast_mul, Int.cast_ofNat_Int]
theorem f2 (x : Nat) (h : x < 18446744073709551616) : IntKind.u64.wrap (x : Int) = x := by
 rw [qgz]; omega
theorem qr5 (h c : Nat) (hh : h < 18446744073709551616) (hc : c < 256) :
  IntKind.u64.wrap (IntKind.u64.wrap (qtc 64 (h : Int) (IntKind.u64.wrap (c : Int))) * 1099511628211) = (((h ^^^ c) * 1099511628211 % 18446744073709551616 : Nat) : Int) := by
 rw [f2 c (by omega), q6q h c hh (by omega), f2 _ (xbs h c hh (by omega)), f1]
theorem qas (c : UInt8) : c.toNat < 256 := UInt8.toNat_lt c
theorem xl (s : List UInt8) {i : Nat} (h : i < s.length) : (qa s).getD i [] = [.int .u8 (s[i].toNat : Int)] := qi (fun c : UInt8 => [D.int .u8 (c.toNat : Int)]) s h []
def k7 (c : UInt8) : D := .int .u8 c.toNat
theorem qyh (s : List UInt8) : D.noPtrL (s.map k7) = true := by induction s <;> simp_all [D.noPtrL, D.noPtr, k7]
theorem qg0 (s : List UInt8) : (s.map k7).all D.isCell = true := by induction s <;> simp_all [D.isCell, k7]
attribute [go_sem] qyh qg0
theorem q3c (s : List UInt8) {i : Nat} (h : i < s.length) (x : ASlot) : ((s.map k7).map ASlot.d).getD i x = .d (.int .u8 (s[i].toNat : Int)) := by simp [h, k7]
theorem qb1 (s : List UInt8) : (qa s).flatten = s.map k7 := by induction s <;> simp_all [qa, k7]
theorem qu6 (s : List UInt8) : qai 1 s.length (s.map k7) = qa s := by
 induction s with
 | nil => rfl
 | cons c s ih => simp only [List.length_cons, List.map_cons, qai, List.take_succ_cons, List.take_zero, List.drop_succ_cons, List.drop_zero, ih]; rfl
def q0e (h : Nat) (s : List UInt8) (i : { i : Nat // i ≤ s.length }) : St :=
 ⟨[(0, true, .d (.int .u64 (fnv h (s.take i.val) : Nat))), (7, true, .d (.ref 0 0 1 s.length)), (8, true, .d (.int .i64 s.length)), (9, true, .d (.int .i64 (i.val : Nat)))], [.row ((s.map k7).map .d)], [], 1⟩
theorem xbu (h : Nat) (s : List UInt8) (hh : h < 18446744073709551616) (hl : s.length ≤ 1000000000) : qg Tryz.prog 233 [.d (.int .u64 h), .d (.ref 0 0 1 s.length)] [.row ((s.map k7).map .d)] (.d (.int .u64 (fnv h s : Nat))) [.row ((s.map k7).map .d)] := by
 refine F233.go ?_
 try (refine ev ?_; try exact True.intro)
 refine qk (q0e h s) (fun i => s.length - i.val) ⟨0, Nat.zero_le _⟩ ?_ (fun i => ?_)
 ·try (refine ev3 @q0e.eq_1 @List.take_zero.{0} @qr4 ?_; try exact True.intro)
 obtain ⟨i, hi⟩ := i
 try (refine ev1 @q0e.eq_1 ?_; try exact True.intro)
 (repeat (with_reducible refine ob ?_)); refine xk _ (fun h => ?_) (fun h => ?_)
 ·have hil : i < s.length := by simpa using h
  try (refine ev2 @Nat.mul_one (q3c s hil) ?_; try exact True.intro)
  (repeat (with_reducible refine ob ?_))
  try simp only [qr5 _ _ (qib hh (s.take i)) (qas s[i]), go_sem, Nat.reduceAdd, Nat.reduceMul, Nat.reduceSub, Nat.reduceEqDiff, Nat.reduceLT, Nat.reduceLeDiff, Nat.reduceBEq, reduceIte, reduceCtorEq, Int.reduceAdd, Int.reduceLT, Int.reduceLE, Int.reduceGT, Int.reduceGE, Int.reduceEq, Int.reduceNe, Int.reduceBEq, Int.reduceBNe, Int.reduceToNat, Int.reduceNeg]
  refine ⟨⟨i + 1, hil⟩, ?_, by dsimp only; omega⟩
  try (refine ev4 @q0e.eq_1 (qd (show i < 9223372036854775807 by omega)) (List.take_succ_eq_append_getElem hil) @qlh ?_; try exact True.intro)
 ·have hie : i = s.length := by simp at h; omega
  subst hie
  try (refine ev1 @List.take_length.{0} ?_; try exact True.intro)
def be8 (h : Nat) : List UInt8 := [UInt8.ofNat (h / 256 ^ 7), UInt8.ofNat (h / 256 ^ 6), UInt8.ofNat (h / 256 ^ 5), UInt8.ofNat (h / 256 ^ 4), UInt8.ofNat (h / 256 ^ 3), UInt8.ofNat (h / 256 ^ 2), UInt8.ofNat (h / 256 ^ 1), UInt8.ofNat (h / 256 ^ 0)]
theorem jz (h : Nat) : (be8 h).length = 8 := rfl
theorem xfo (h : Nat) : ∀ {i : Nat} (hi : i < 8), (be8 h)[i]'(by rw [jz]; exact hi) = UInt8.ofNat (h / 256 ^ (7 - i))
 | 0, _ => rfl
 | 1, _ => rfl
 | 2, _ => rfl
 | 3, _ => rfl
 | 4, _ => rfl
 | 5, _ => rfl
 | 6, _ => rfl
 | 7, _ => rfl
theorem xi {n : Int} (h : I64 n) : IntKind.i64.wrap n = n := by
 obtain ⟨h1, h2⟩ := h
 simp [IntKind.wrap, IntKind.bits, IntKind.signed]; omega
theorem q0f (h i : Nat) (hi : i < 8) : IntKind.u8.wrap ((h : Int).fdiv (2 ^ min (8 * (7 - (i : Int))).toNat 64)) = ((UInt8.ofNat (h / 256 ^ (7 - i))).toNat : Int) := by
 have e1 : min (8 * (7 - (i : Int))).toNat 64 = 8 * (7 - i) := by omega
 have e2 : ((2 : Int) ^ (8 * (7 - i))) = ((256 ^ (7 - i) : Nat) : Int) := by rw [Int.natCast_pow, Int.pow_mul]; rfl
 rw [e1, e2, Int.fdiv_eq_ediv_of_nonneg _ (Int.natCast_nonneg _), ← Int.natCast_ediv, qfc, UInt8.toNat_ofNat']
 omega
theorem q6r (h : Nat) {i : Nat} (hi : i < 8) : (((be8 h).take i ++ List.replicate (8 - i) 0).map k7).set i (D.int .u8 ((UInt8.ofNat (h / 256 ^ (7 - i))).toNat : Int)) = ((be8 h).take (i + 1) ++ List.replicate (8 - (i + 1)) 0).map k7 := by
 have h8 := jz h
 have hl : ((be8 h).take i).length = i := by rw [List.length_take]; omega
 have e : D.int .u8 ((UInt8.ofNat (h / 256 ^ (7 - i))).toNat : Int) = k7 ((be8 h)[i]'(by omega)) := by rw [xfo h hi]; rfl
 rw [e, ← List.map_set, List.set_append_right _ _ (by omega), hl, Nat.sub_self, List.take_succ_eq_append_getElem (by omega), show 8 - i = (8 - (i + 1)) + 1 by omega, List.replicate_succ, List.set_cons_zero, List.append_assoc, List.cons_append, List.nil_append]
theorem qd8 (ds : List D) (i : Nat) (x : D) : (ds.map ASlot.d).set i (.d x) = (ds.set i x).map .d := by rw [List.map_set]
theorem qpx : k7 0 = .int .u8 0 := rfl
theorem q6s (h : Nat) : (be8 h).take 8 = be8 h := List.take_of_length_le (Nat.le_of_eq (jz h))
def qfe (k : Nat) (f0 : Fr) (os : List AObj) (h : Nat) (i : { i : Nat // i ≤ 8 }) : St :=
 ⟨(6, true, .d (.int .u64 (h : Nat))) :: (7, true, .d (.ptr (k + 1) 0)) :: (5, true, .d (.ptr k 0)) :: (12, true, .d (.int .i64 (i.val : Nat))) :: f0, os ++ [.row ((List.replicate 8 (D.int .u8 0)).map .d), .row ((((be8 h).take i.val ++ List.replicate (8 - i.val) 0).map k7).map .d)], [], 1⟩
theorem q6t (h : Nat) (s : List UInt8) (hh : h < 18446744073709551616) (hl : s.length ≤ 1000000000) : qg Tryz.prog 161 [.d (.int .u64 h), .d (.ref 0 0 1 s.length)] [.row ((s.map k7).map .d)] (.tup [.d (.int .u64 (fnv h s : Nat)), .d (.agg ((be8 (fnv h s)).map k7))]) [.row ((s.map k7).map .d)] := by
 refine F161.goT ?_
 try (refine ev ?_; try exact True.intro)
 (repeat (with_reducible refine ob ?_)); refine clO [0] F233 (xbu h s hh hl) ?_
 try (refine ev ?_; try exact True.intro)
 refine qk (qfe 1 [] [.row ((s.map k7).map .d)] (fnv h s)) (fun i => 8 - i.val) ⟨0, Nat.zero_le _⟩ ?_ (fun i => ?_)
 ·try (refine ev3 @qfe.eq_1 @List.take_zero.{0} @qpx ?_; try exact True.intro)
 obtain ⟨i, hi⟩ := i
 try (refine ev1 @qfe.eq_1 ?_; try exact True.intro)
 refine xk _ (fun hc => ?_) (fun hc => ?_)
 ·have hil : i < 8 := by simp at hc; omega
  have e1 : IntKind.i64.wrap (7 - (i : Int)) = 7 - i := xi (by unfold I64; omega)
  have e2 : IntKind.i64.wrap (8 * (7 - (i : Int))) = 8 * (7 - i) := xi (by unfold I64; omega)
  have hlen := jz (fnv h s)
  try simp only [Nat.mul_one, q0f _ _ hil, qd8, q6r _ hil, e1, e2, List.length_take, List.length_replicate, go_sem, Nat.reduceAdd, Nat.reduceMul, Nat.reduceSub, Nat.reduceEqDiff, Nat.reduceLT, Nat.reduceLeDiff, Nat.reduceBEq, reduceIte, reduceCtorEq, Int.reduceAdd, Int.reduceLT, Int.reduceLE, Int.reduceGT, Int.reduceGE, Int.reduceEq, Int.reduceNe, Int.reduceBEq, Int.reduceBNe, Int.reduceToNat, Int.reduceNeg]
  (repeat (with_reducible refine ob ?_))
  refine ⟨⟨i + 1, hil⟩, ?_, by dsimp only; omega⟩
  try (refine ev2 @qfe.eq_1 (qd (show i < 9223372036854775807 by omega)) ?_; try exact True.intro)
 ·have hie : i = 8 := by simp at hc; omega
  subst hie
  try (refine ev3 @q6s @be8.eq_1 @k7.eq_1 ?_; try exact True.intro)
def num1 (h : Nat) (c : UInt8) : Nat := h * 256 + c.toNat
def qk7 (s : List UInt8) : Nat := s.foldl num1 0
def vl (file : List UInt8) : Nat := if file.length < 8 then 14695981039346656037 else qk7 (file.drop (file.length - 8))
theorem qpy (s : List UInt8) (c : UInt8) : qk7 (s ++ [c]) = qk7 s * 256 + c.toNat := by unfold qk7; rw [List.foldl_append, List.foldl_cons, List.foldl_nil]; rfl
theorem qr6 : ∀ (n : Nat) (s : List UInt8), s.length = n → qk7 s < 256 ^ n
 | 0, s, h => by cases s <;> simp at h; simp [qk7]
 | n + 1, s, h => by
  rcases List.eq_nil_or_concat s with rfl | ⟨t, c, rfl⟩
  ·simp at h
  ·rw [List.concat_eq_append] at h ⊢
   have h1 := qr6 n t (by simpa using h)
   have h2 := qas c
   rw [qpy, Nat.pow_succ]
   omega
theorem q0g (a b : Nat) (ha : a < 18446744073709551616) (hb : b < 18446744073709551616) : bvOr 64 (a : Int) (b : Int) = ((a ||| b : Nat) : Int) := by
 unfold bvOr
 rw [BitVec.ofInt_natCast, BitVec.ofInt_natCast, BitVec.toNat_or, BitVec.toNat_ofNat, BitVec.toNat_ofNat, Nat.mod_eq_of_lt ha, Nat.mod_eq_of_lt hb]
theorem xhu (a c : Nat) (hc : c < 256) : a * 256 ||| c = a * 256 + c := by
 have := Nat.shiftLeft_add_eq_or_of_lt (i := 8) (b := c) (by omega) a
 rw [Nat.shiftLeft_eq] at this
 exact this.symm
theorem q6u (a c : Nat) (ha : a < 72057594037927936) (hc : c < 256) : IntKind.u64.wrap (bvOr 64 (IntKind.u64.wrap ((a : Int) * 2 ^ min 8 64)) (IntKind.u64.wrap (c : Int))) = ((a * 256 + c : Nat) : Int) := by
 have e1 : IntKind.u64.wrap ((a : Int) * 2 ^ min 8 64) = ((a * 256 : Nat) : Int) := by
  rw [qgz]
  show (a : Int) * 256 % 18446744073709551616 = _
  omega
 rw [e1, f2 c (by omega), q0g _ _ (by omega) (by omega), xhu a c hc, f2 _ (by omega)]
def xbw (s : List UInt8) (i : { i : Nat // i ≤ s.length }) : St :=
 ⟨[(3, true, .d (.int .u64 (qk7 (s.take i.val) : Nat))), (13, true, .d (.sl 1 (qa s))), (14, true, .d (.int .i64 s.length)), (15, true, .d (.int .i64 (i.val : Nat)))], [], [], 1⟩
theorem x8 (s : List UInt8) (n : Nat) : (qa s).drop n = qa (s.drop n) := by simp [qa]
theorem xm (s : List UInt8) (n : Nat) : (qa s).take n = qa (s.take n) := by simp [qa]
theorem xfp (file : List UInt8) (hl : file.length ≤ 1000000000) : qg Tryz.prog 159 [.d (.sl 1 (qa file))] [] (.d (.int .u64 (vl file : Nat))) [] := by
 refine F159.go ?_
 try (refine ev ?_; try exact True.intro)
 refine xk _ (fun hc => ?_) (fun hc => ?_)
 ·have hb : vl file = 14695981039346656037 := by unfold vl; rw [if_pos (by simp at hc; omega)]
  try (refine ev1 @hb ?_; try exact True.intro)
 have h8 : 8 ≤ file.length := by simp at hc; omega
 have e1 : IntKind.i64.wrap ((file.length : Int) - 8) = ((file.length - 8 : Nat) : Int) := by rw [xi (by unfold I64; omega)]; omega
 have hb : vl file = qk7 (file.drop (file.length - 8)) := by unfold vl; rw [if_neg (by omega)]
 have hd : (file.drop (file.length - 8)).length = 8 := by rw [List.length_drop]; omega
 generalize hs : file.drop (file.length - 8) = s at hb hd
 have e2 : s.take (file.length - (file.length - 8)) = s := List.take_of_length_le (by omega)
 try (refine ev6 @e1 @x8 @xm @hs @e2 @hb ?_; try exact True.intro)
 (repeat (with_reducible refine ob ?_))
 refine qk (xbw s) (fun i => s.length - i.val) ⟨0, Nat.zero_le _⟩ ?_ (fun i => ?_)
 ·try (refine ev2 @xbw.eq_1 @List.take_zero.{0} ?_; try exact True.intro)
  simp [qk7]
 obtain ⟨i, hi⟩ := i
 try (refine ev1 @xbw.eq_1 ?_; try exact True.intro)
 (repeat (with_reducible refine ob ?_)); refine xk _ (fun h => ?_) (fun h => ?_)
 ·have hil : i < s.length := by simpa using h
  have hlt : qk7 (s.take i) < 72057594037927936 := by
   have := qr6 i (s.take i) (by rw [List.length_take]; omega)
   have h7 : 256 ^ i ≤ 256 ^ 7 := Nat.pow_le_pow_right (by decide) (by omega)
   have : (256 : Nat) ^ 7 = 72057594037927936 := by decide
   omega
  try (refine ev1 (xl s hil) ?_; try exact True.intro)
  (repeat (with_reducible refine ob ?_))
  try simp only [q6u _ _ hlt (qas s[i]), go_sem, Nat.reduceAdd, Nat.reduceMul, Nat.reduceSub, Nat.reduceEqDiff, Nat.reduceLT, Nat.reduceLeDiff, Nat.reduceBEq, reduceIte, reduceCtorEq, Int.reduceAdd, Int.reduceLT, Int.reduceLE, Int.reduceGT, Int.reduceGE, Int.reduceEq, Int.reduceNe, Int.reduceBEq, Int.reduceBNe, Int.reduceToNat, Int.reduceNeg]
  refine ⟨⟨i + 1, hil⟩, ?_, by dsimp only; omega⟩
  try (refine ev4 @xbw.eq_1 (qd (show i < 9223372036854775807 by omega)) (List.take_succ_eq_append_getElem hil) @qpy ?_; try exact True.intro)
 ·have hie : i = s.length := by simp at h; omega
  subst hie
  try (refine ev1 @List.take_length.{0} ?_; try exact True.intro)
end Go.Proofs.YtkcdbcbpbolgkaaGreatDoor
namespace Go.Proofs.YtkcdbcbpbolgkaaGreatDoor
open Go.Abs
set_option linter.unusedSimpArgs false
attribute [go_sem] List.getD_nil
noncomputable section
set_option maxRecDepth 100000
set_option linter.defProp false
def d140 := cut Tryz.prog Tryz.f140 news
@[go_sem] def E140 := qm d140
def d100 := cut Tryz.prog Tryz.f100 news
@[go_sem] def E100 := qm d100
def d39 := cut Tryz.prog Tryz.f39 news
@[go_sem] def E39 := qm d39
end
end Go.Proofs.YtkcdbcbpbolgkaaGreatDoor
