/- Texts Ca, Cb, Cc, Cd, Ce, Wa, Wb, Wc, Cf. -/
import Derived.Test.YtkcdbcbpbolgkaaGreatDoorMak
import Derived.Calls
import Derived.Orders
import Derived.Tactics
import Derived.Laws.AppendOwn
import Derived.Laws.Slices
import Derived.Laws.Closers25
import Derived.Laws.StructEq
import Derived.Laws.BytesString
import Derived.Laws.CopyRow
import Derived.MapKept
import Derived.Maps.RangeRun
import Derived.TacticsIn
import Derived.OrdersIn
import Derived.RangeFuncRecord
import Derived.RangeFuncLeaves
import Derived.IntWalk
import Derived.ProofKit
import Derived.OpenShut
import Derived.Carry
import Derived.Test.YtkcdbcbpbolgkaaGreatDoorProg
import Derived.KernelRfl

namespace Go.Proofs.YtkcdbcbpbolgkaaGreatDoor
open Go.Abs
set_option linter.unusedSimpArgs false
def news : List (FuncId × Nat) := [(141, 5), (160, 1), (177, 1), (28, 2), (105, 2), (29, 1), (86, 1), (359, 2)]
theorem follows : Tryz.prog.follows .mixedOrders = true := by kernel_rfl
structure AV where
 kind : Int
 n : Int
 s : List UInt8
 deriving DecidableEq, Inhabited
def zk (v : AV) : List D := [.int .i64 v.kind, .int .i64 v.n, .str v.s]
theorem k7 (v : AV) : D.noPtrL (zk v) = true := rfl
def encI (n : Int) : List D := [.int .i64 n]
theorem yw (n : Int) : D.noPtrL (encI n) = true := rfl
structure Pk where
 kind : Int
 sess : Int
 epoch : Int
 from_ : Int
 to : Int
 seq : Int
 label : Int
 values : List AV
 clock : List Int
 deriving DecidableEq, Inhabited
def qk (p : Pk) : List D := [.int .i64 p.kind, .int .i64 p.sess, .int .i64 p.epoch, .int .i64 p.from_, .int .i64 p.to, .int .i64 p.seq, .int .i64 p.label, .sl 3 (p.values.map zk), .sl 1 (p.clock.map encI)]
theorem qe5 (p : Pk) : D.noPtrL (qk p) = true := by
 simp only [qk, D.noPtrL, D.noPtr, xi k7, xi yw, Bool.and_self]
theorem q04 (l : List AV) : D.noPtrR (l.map zk) = true := xi k7 l
theorem q5a (l : List Int) : D.noPtrR (l.map encI) = true := xi yw l
theorem q05 (l : List Pk) : D.noPtrR (l.map qk) = true := xi qe5 l
attribute [go_sem] k7 yw qe5 q04 q5a q05
noncomputable section
set_option maxRecDepth 100000
set_option linter.defProp false
def d219 := cut Tryz.prog Tryz.f219 news
@[go_sem] def E219 := qq d219
def F219 := fnC d219 follows Tryz.func219
def d215 := cut Tryz.prog Tryz.f215 news
@[go_sem] def E215 := qq d215
def F215 := fnC d215 follows Tryz.func215
def d212 := cut Tryz.prog Tryz.f212 news
@[go_sem] def E212 := qq d212
def F212 := fnC d212 follows Tryz.func212
def d218 := cut Tryz.prog Tryz.f218 news
@[go_sem] def E218 := qq d218
def F218 := fnC d218 follows Tryz.func218
def d136 := cut Tryz.prog Tryz.f136 news
@[go_sem] def E136 := qq d136
def F136 := fnC d136 follows Tryz.func136
def d137 := cut Tryz.prog Tryz.f137 news
@[go_sem] def E137 := qq d137
def F137 := fnC d137 follows Tryz.func137
def d214 := cut Tryz.prog Tryz.f214 news
@[go_sem] def E214 := qq d214
def F214 := fnC d214 follows Tryz.func214
def d217 := cut Tryz.prog Tryz.f217 news
@[go_sem] def E217 := qq d217
def F217 := fnC d217 follows Tryz.func217
end
def role (n : Int) : Bool := decide (n ≥ 0) && decide (n < 6)
theorem qua (n : Int) : qh Tryz.prog 219 [.d (.int .i64 n)] [] (.d (.bool (role n))) [] := by
 first | refine F219.go ?_ | refine F219.goT ?_
 (refine ev ?_; try exact True.intro)
 rfl
def qmt (v : AV) : Bool := if v.kind == 1 then v.s == [] else if v.kind == 2 then v.n == 0 && decide ((v.s.length : Int) ≤ 40) else false
theorem q06 (v : AV) : qh Tryz.prog 215 [.d (.agg (zk v))] [] (.d (.bool (qmt v))) [] := by
 first | refine F215.go ?_ | refine F215.goT ?_
 (refine ev1 @zk.eq_1 ?_; try exact True.intro)
 refine qm _ rfl rfl (fun h => ?_) (fun h => ?_)
 ·(refine ev2 @qmt.eq_1 @h ?_; try exact True.intro)
 ·(refine ev ?_; try exact True.intro)
  refine qm _ rfl rfl (fun h2 => ?_) (fun h2 => ?_)
  ·(refine ev3 @qmt.eq_1 @h @h2 ?_; try exact True.intro)
  ·(refine ev3 @qmt.eq_1 @h @h2 ?_; try exact True.intro)
def qou (p : Pk) : Bool := role p.from_ && role p.to && p.from_ != p.to && decide (p.seq ≥ 1) && decide (p.seq ≤ 1099511627776)
theorem qko (p : Pk) : qh Tryz.prog 212 [.d (.agg (qk p))] [] (.d (.bool (qou p))) [] := by
 first | refine F212.go ?_ | refine F212.goT ?_
 (refine ev1 @qk.eq_1 ?_; try exact True.intro)
 refine xj (qua _) F219.body (fun h => h) (fun _ => ⟨qa, trivial⟩) rfl rfl rfl ?_
 (refine ev ?_; try exact True.intro)
 refine xj (qua _) F219.body (fun h => h) (fun _ => ⟨qa, trivial⟩) rfl rfl rfl ?_
 (refine ev ?_; try exact True.intro)
 rfl
def bare (p : Pk) : Bool := p.epoch == 0 && (p.values.length : Int) == 0 && (p.clock.length : Int) == 0
theorem q07 (p : Pk) : qh Tryz.prog 218 [.d (.agg (qk p))] [] (.d (.bool (bare p))) [] := by
 first | refine F218.go ?_ | refine F218.goT ?_
 (refine ev1 @qk.eq_1 ?_; try exact True.intro)
 rfl
theorem qbr (p : Pk) : ([ASlot.d (.agg (qk p))].all ASlot.noPtr) = true := by
 simp only [List.all_cons, List.all_nil, ASlot.noPtr, D.noPtr, qe5, Bool.and_self]
def ack (p : Pk) : Bool := qou p && bare p && p.label == 0
theorem xam (p : Pk) : qh Tryz.prog 136 [.d (.agg (qk p))] [] (.d (.bool (ack p))) [] := by
 first | refine F136.go ?_ | refine F136.goT ?_
 (refine ev1 @qk.eq_1 ?_; try exact True.intro)
 refine xj (qko p) F212.body (fun h => h) (fun _ => ⟨qa, trivial⟩) (qbr p) rfl rfl ?_
 (refine ev ?_; try exact True.intro)
 refine xj (q07 p) F218.body (fun h => h) (fun _ => ⟨qa, trivial⟩) (qbr p) rfl rfl ?_
 (refine ev ?_; try exact True.intro)
 rfl
def order (p : Pk) : Bool := role p.from_ && (p.label == 1 || p.label == 2) && bare p && p.to == 0 && p.seq == 0
theorem qvw (p : Pk) : qh Tryz.prog 137 [.d (.agg (qk p))] [] (.d (.bool (order p))) [] := by
 first | refine F137.go ?_ | refine F137.goT ?_
 (refine ev1 @qk.eq_1 ?_; try exact True.intro)
 refine xj (qua _) F219.body (fun h => h) (fun _ => ⟨qa, trivial⟩) rfl rfl rfl ?_
 (refine ev ?_; try exact True.intro)
 refine ⟨by simp_all, ?_⟩
 refine xj (q07 p) F218.body (fun h => h) (fun _ => ⟨qa, trivial⟩) (qbr p) rfl rfl ?_
 (refine ev ?_; try exact True.intro)
 rfl
theorem q5b (v : AV) : qh Tryz.prog 214 [.d (.agg (zk v))] [] (.d (.bool (!qmt v))) [] := by
 first | refine F214.go ?_ | refine F214.goT ?_
 (refine ev1 @zk.eq_1 ?_; try exact True.intro)
 refine xj (q06 v) F215.body (fun h => h) (fun _ => ⟨qa, trivial⟩) rfl rfl rfl ?_
 (refine ev ?_; try exact True.intro)
theorem q5c (n : Int) : qh Tryz.prog 217 [.d (.int .i64 n)] [] (.d (.bool (decide (n < 0) || decide (n > 1099511627776)))) [] := by
 first | refine F217.go ?_ | refine F217.goT ?_
 (refine ev ?_; try exact True.intro)
 intro h
 rw [h]; rfl
end Go.Proofs.YtkcdbcbpbolgkaaGreatDoor
namespace Go.Proofs.YtkcdbcbpbolgkaaGreatDoor
open Go.Abs
set_option linter.unusedSimpArgs false
def idx {α : Type} (f : α → Bool) (l : List α) : Int := if l.any f then (l.findIdx f : Int) else -1
theorem qd7 {α : Type} {f : α → Bool} {l : List α} {i : Nat} (h : (l.take i).any f = false) (hi : l.length ≤ i) : idx f l = -1 := by
 rw [List.take_of_length_le hi] at h
 simp [idx, h]
theorem qd8 {α : Type} {f : α → Bool} {l : List α} {i : Nat} (h : (l.take i).any f = false) (hi : i < l.length) (hf : f l[i] = true) : idx f l = (i : Int) := by
 have ha : l.any f = true := List.any_eq_true.2 ⟨l[i], List.getElem_mem hi, hf⟩
 have hx : l.findIdx f = i := by
  rw [List.findIdx_eq hi]
  refine ⟨hf, fun j hj => ?_⟩
  rw [List.any_eq_false] at h
  have hj' : j < (l.take i).length := by simp; omega
  have := h (l.take i)[j] (List.getElem_mem hj')
  simpa using this
 simp [idx, ha, hx]
theorem k8 {α : Type} {f : α → Bool} {l : List α} {i : Nat} (h : (l.take i).any f = false) (hi : i < l.length) (hf : f l[i] = false) : (l.take (i + 1)).any f = false := by
 rw [List.take_succ_eq_append_getElem hi, List.any_append, h]
 simp [hf]
theorem qvx {α : Type} (f : α → Bool) (l : List α) : decide (idx f l ≥ 0) = l.any f := by
 unfold idx
 cases l.any f <;> simp
noncomputable section
set_option maxRecDepth 100000
set_option linter.defProp false
def d267 := cut Tryz.prog Tryz.f267 news
@[go_sem] def E267 := qq d267
def F267 := fnC d267 follows Tryz.func267
def d268 := cut Tryz.prog Tryz.f268 news
@[go_sem] def E268 := qq d268
def F268 := fnC d268 follows Tryz.func268
def d213 := cut Tryz.prog Tryz.f213 news
@[go_sem] def E213 := qq d213
def F213 := fnC d213 follows Tryz.func213
def d216 := cut Tryz.prog Tryz.f216 news
@[go_sem] def E216 := qq d216
def F216 := fnC d216 follows Tryz.func216
end
def Sidx {α : Type} (es : Nat) (enc : α → List D) (k : FuncId) (l : List α) (f : α → Bool) (i : { i : Nat // (l.take i).any f = false }) : St :=
 ⟨[(0, true, .d (.sl es (l.map enc))), (1, true, .d (.func (.func k) [] [])), (6, true, .d (.sl es (l.map enc))), (7, true, .d (.int .i64 l.length)), (8, true, .d (.int .i64 (i.val : Nat)))], [], [], 1⟩
theorem q08 {k : FuncId} {f : AV → Bool} (hb : (Tryz.prog.funcs[k]?).any (fun fn => fn.body.isSome && !(fn.name == "runtime.NumGoroutine")) = true)
  (hf : ∀ v, qh Tryz.prog k [.d (.agg (zk v))] [] (.d (.bool (f v))) []) (l : List AV) (hl : l.length ≤ maxLen) :
  qh Tryz.prog 267 [.d (.sl 3 (l.map zk)), .d (.func (.func k) [] [])] [] (.d (.int .i64 (idx f l))) [] := by
 first | refine F267.go ?_ | refine F267.goT ?_
 (refine ev ?_; try exact True.intro)
 refine qn (Sidx 3 zk k l f) (fun i => l.length - i.val) ⟨0, rfl⟩ ?_ (fun i => ?_)
 ·(refine ev2 @Sidx.eq_1 (xi k7) ?_; try exact True.intro)
 ·obtain ⟨i, hi⟩ := i
  (refine ev1 @Sidx.eq_1 ?_; try exact True.intro)
  refine qm _ rfl rfl (fun h => ?_) (fun h => ?_)
  ·have hil : i < l.length := by simpa using h
   (refine ev2 (qj zk l hil) @zk.eq_1 ?_; try exact True.intro)
   refine ⟨by omega, ?_⟩
   refine xj (hf l[i]) hb (fun h => h) (fun _ => ⟨qa, trivial⟩) rfl rfl rfl ?_
   (refine ev ?_; try exact True.intro)
   refine qm _ rfl rfl (fun h2 => ?_) (fun h2 => ?_)
   ·(refine ev1 (qd8 hi hil h2) ?_; try exact True.intro)
   ·(refine ev ?_; try exact True.intro)
    refine ⟨⟨i + 1, k8 hi hil h2⟩, ?_, by dsimp only; omega⟩
    (refine ev3 @Sidx.eq_1 (qg (show i < 9223372036854775807 by unfold maxLen at hl; omega)) (xi k7) ?_; try exact True.intro)
  ·have hil : l.length ≤ i := by simpa using h
   (refine ev1 (qd7 hi hil) ?_; try exact True.intro)
theorem q09 {k : FuncId} {f : Int → Bool} (hb : (Tryz.prog.funcs[k]?).any (fun fn => fn.body.isSome && !(fn.name == "runtime.NumGoroutine")) = true)
  (hf : ∀ v, qh Tryz.prog k [.d (.int .i64 v)] [] (.d (.bool (f v))) []) (l : List Int) (hl : l.length ≤ maxLen) :
  qh Tryz.prog 268 [.d (.sl 1 (l.map encI)), .d (.func (.func k) [] [])] [] (.d (.int .i64 (idx f l))) [] := by
 first | refine F268.go ?_ | refine F268.goT ?_
 (refine ev ?_; try exact True.intro)
 refine qn (Sidx 1 encI k l f) (fun i => l.length - i.val) ⟨0, rfl⟩ ?_ (fun i => ?_)
 ·(refine ev2 @Sidx.eq_1 (xi yw) ?_; try exact True.intro)
 ·obtain ⟨i, hi⟩ := i
  (refine ev1 @Sidx.eq_1 ?_; try exact True.intro)
  refine qm _ rfl rfl (fun h => ?_) (fun h => ?_)
  ·have hil : i < l.length := by simpa using h
   (refine ev2 (qj encI l hil) @encI.eq_1 ?_; try exact True.intro)
   refine ⟨by omega, ?_⟩
   refine xj (hf l[i]) hb (fun h => h) (fun _ => ⟨qa, trivial⟩) rfl rfl rfl ?_
   (refine ev ?_; try exact True.intro)
   refine qm _ rfl rfl (fun h2 => ?_) (fun h2 => ?_)
   ·(refine ev1 (qd8 hi hil h2) ?_; try exact True.intro)
   ·(refine ev ?_; try exact True.intro)
    refine ⟨⟨i + 1, k8 hi hil h2⟩, ?_, by dsimp only; omega⟩
    (refine ev3 @Sidx.eq_1 (qg (show i < 9223372036854775807 by unfold maxLen at hl; omega)) (xi yw) ?_; try exact True.intro)
  ·have hil : l.length ≤ i := by simpa using h
   (refine ev1 (qd7 hi hil) ?_; try exact True.intro)
theorem qrc {k : FuncId} {f : AV → Bool} (hb : (Tryz.prog.funcs[k]?).any (fun fn => fn.body.isSome && !(fn.name == "runtime.NumGoroutine")) = true)
  (hf : ∀ v, qh Tryz.prog k [.d (.agg (zk v))] [] (.d (.bool (f v))) []) (l : List AV) (hl : l.length ≤ maxLen) :
  qh Tryz.prog 213 [.d (.sl 3 (l.map zk)), .d (.func (.func k) [] [])] [] (.d (.bool (l.any f))) [] := by
 first | refine F213.go ?_ | refine F213.goT ?_
 (refine ev ?_; try exact True.intro)
 refine xj (q08 hb hf l hl) F267.body (fun h => h) (fun _ => ⟨qa, qa, trivial⟩) (by simp [ASlot.noPtr, D.noPtr, D.noPtrL, xi k7]) rfl rfl ?_
 (refine ev1 @qvx ?_; try exact True.intro)
theorem qrd {k : FuncId} {f : Int → Bool} (hb : (Tryz.prog.funcs[k]?).any (fun fn => fn.body.isSome && !(fn.name == "runtime.NumGoroutine")) = true)
  (hf : ∀ v, qh Tryz.prog k [.d (.int .i64 v)] [] (.d (.bool (f v))) []) (l : List Int) (hl : l.length ≤ maxLen) :
  qh Tryz.prog 216 [.d (.sl 1 (l.map encI)), .d (.func (.func k) [] [])] [] (.d (.bool (l.any f))) [] := by
 first | refine F216.go ?_ | refine F216.goT ?_
 (refine ev ?_; try exact True.intro)
 refine xj (q09 hb hf l hl) F268.body (fun h => h) (fun _ => ⟨qa, qa, trivial⟩) (by simp [ASlot.noPtr, D.noPtr, D.noPtrL, xi yw]) rfl rfl ?_
 (refine ev1 @qvx ?_; try exact True.intro)
noncomputable section
set_option maxRecDepth 100000
set_option linter.defProp false
def d135 := cut Tryz.prog Tryz.f135 news
@[go_sem] def E135 := qq d135
def F135 := fnC d135 follows Tryz.func135
def d70 := cut Tryz.prog Tryz.f70 news
@[go_sem] def E70 := qq d70
def F70 := fnC d70 follows Tryz.func70
end
def data (p : Pk) : Bool := qou p && (p.epoch == 0 || p.epoch == 1) && decide (p.label ≥ 0) && decide (p.label < 40) && decide ((p.values.length : Int) ≤ 4) && decide ((p.clock.length : Int) ≤ 6) && !(p.values.any fun v => !qmt v) && !(p.clock.any fun n => decide (n < 0) || decide (n > 1099511627776))
theorem q8q (p : Pk) (h1 : p.values.length ≤ maxLen) (h2 : p.clock.length ≤ maxLen) : qh Tryz.prog 135 [.d (.agg (qk p))] [] (.d (.bool (data p))) [] := by
 first | refine F135.go ?_ | refine F135.goT ?_
 (refine ev1 @qk.eq_1 ?_; try exact True.intro)
 refine xj (qko p) F212.body (fun h => h) (fun _ => ⟨qa, trivial⟩) (qbr p) rfl rfl ?_
 (refine ev ?_; try exact True.intro)
 refine ⟨by simp_all, ?_⟩
 refine xj (qrc F214.body q5b p.values h1) F213.body (fun h => h) (fun _ => ⟨qa, qa, trivial⟩) (by simp [ASlot.noPtr, D.noPtr, D.noPtrL, xi k7]) rfl rfl ?_
 (refine ev ?_; try exact True.intro)
 refine xj (qrd F217.body q5c p.clock h2) F216.body (fun h => h) (fun _ => ⟨qa, qa, trivial⟩) (by simp [ASlot.noPtr, D.noPtr, D.noPtrL, xi yw]) rfl rfl ?_
 (refine ev ?_; try exact True.intro)
 rfl
def qkp (p : Pk) : Bool := decide (p.kind ≥ 1) && decide (p.kind ≤ 4) && decide (p.sess ≥ 1) && decide (p.sess ≤ 32)
def xl (p : Pk) : Bool := qkp p && (if p.kind = 1 then data p else if p.kind = 2 then ack p else order p)
theorem yy (p : Pk) (h1 : p.values.length ≤ maxLen) (h2 : p.clock.length ≤ maxLen) : qh Tryz.prog 70 [.d (.agg (qk p))] [] (.d (.bool (xl p))) [] := by
 first | refine F70.go ?_ | refine F70.goT ?_
 (refine ev1 @qk.eq_1 ?_; try exact True.intro)
 have hk : (decide (p.kind ≥ 1) && decide (p.kind ≤ 4) && decide (p.sess ≥ 1) && decide (p.sess ≤ 32)) = qkp p := rfl
 simp only [hk]
 cases hG : qkp p with
 | false =>
  (refine ev ?_; try exact True.intro)
  refine qf9 (.bool false) rfl ?_
  (refine ev2 @xl.eq_1 @hG ?_; try exact True.intro)
 | true =>
  have h4 : p.kind = 1 ∨ p.kind = 2 ∨ p.kind = 3 ∨ p.kind = 4 := by simp [qkp] at hG; omega
  rcases h4 with hp | hp | hp | hp <;> simp only [hp, Int.reduceToNat, Int.reduceLE, Int.reduceLT, go_sem, Nat.reduceAdd, Nat.reduceMul, Nat.reduceSub, Nat.reduceEqDiff, Nat.reduceLT, Nat.reduceLeDiff, Nat.reduceBEq, reduceIte, reduceCtorEq, Int.reduceAdd, Int.reduceLT, Int.reduceLE, Int.reduceGT, Int.reduceGE, Int.reduceEq, Int.reduceNe, Int.reduceBEq, Int.reduceBNe, Int.reduceToNat, Int.reduceNeg]
  ·refine xj (q8q p h1 h2) F135.body (fun h => h) (fun _ => ⟨by simp [yj, ASlot.eqvD, D.eqv_refl, qk, hp], trivial⟩) (qbr p) rfl rfl ?_
   (refine ev3 @xl.eq_1 @hG @hp ?_; try exact True.intro)
  ·refine xj (xam p) F136.body (fun h => h) (fun _ => ⟨by simp [yj, ASlot.eqvD, D.eqv_refl, qk, hp], trivial⟩) (qbr p) rfl rfl ?_
   (refine ev3 @xl.eq_1 @hG @hp ?_; try exact True.intro)
  ·refine xj (qvw p) F137.body (fun h => h) (fun _ => ⟨by simp [yj, ASlot.eqvD, D.eqv_refl, qk, hp], trivial⟩) (qbr p) rfl rfl ?_
   (refine ev3 @xl.eq_1 @hG @hp ?_; try exact True.intro)
  ·refine xj (qvw p) F137.body (fun h => h) (fun _ => ⟨by simp [yj, ASlot.eqvD, D.eqv_refl, qk, hp], trivial⟩) (qbr p) rfl rfl ?_
   (refine ev3 @xl.eq_1 @hG @hp ?_; try exact True.intro)
end Go.Proofs.YtkcdbcbpbolgkaaGreatDoor
namespace Go.Proofs.YtkcdbcbpbolgkaaGreatDoor
open Go.Abs
set_option linter.unusedSimpArgs false
theorem qov {α : Type} [DecidableEq α] {l m : List α} {i : Nat} (h1 : i < l.length) (h2 : i < m.length) (h : l[i] ≠ m[i]) : decide (l = m) = false := by
 rw [decide_eq_false_iff_not]
 rintro rfl
 exact h rfl
theorem ky {α : Type} {l m : List α} {i : Nat} (h : l.take i = m.take i) (h1 : i < l.length) (h2 : i < m.length) (he : l[i] = m[i]) : l.take (i + 1) = m.take (i + 1) := by
 rw [List.take_succ_eq_append_getElem h1, List.take_succ_eq_append_getElem h2, h, he]
noncomputable section
set_option maxRecDepth 100000
set_option linter.defProp false
def d67 := cut Tryz.prog Tryz.f67 news
@[go_sem] def E67 := qq d67
def d68 := cut Tryz.prog Tryz.f68 news
@[go_sem] def E68 := qq d68
def d132 := cut Tryz.prog Tryz.f132 news
@[go_sem] def E132 := qq d132
def d133 := cut Tryz.prog Tryz.f133 news
@[go_sem] def E133 := qq d133
def d17 := cut Tryz.prog Tryz.f17 news
@[go_sem] def E17 := qq d17
end
def Seq {α : Type} (es : Nat) (enc : α → List D) (l m : List α) (i : { i : Nat // l.take i = m.take i }) : St :=
 ⟨[(0, true, .d (.sl es (l.map enc))), (1, true, .d (.sl es (m.map enc))), (12, true, .d (.int .i64 l.length)), (13, true, .d (.int .i64 (i.val : Nat)))], [], [], 1⟩
end Go.Proofs.YtkcdbcbpbolgkaaGreatDoor
namespace Go.Proofs.YtkcdbcbpbolgkaaGreatDoor
open Go.Abs
set_option linter.unusedSimpArgs false
def qbc (g : Nat → Bool) (n : Nat) : Bool := (List.range n).all g
theorem qyd (g : Nat → Bool) (n : Nat) : qbc g (n + 1) = (qbc g n && g n) := by simp [qbc, List.range_succ]
theorem w4 {g : Nat → Bool} {n : Nat} (h : qbc g n = true) (hg : g n = true) : qbc g (n + 1) = true := by rw [qyd, h, hg]; rfl
theorem qd9 {g : Nat → Bool} {i n : Nat} (hi : i < n) (hg : g i = false) : qbc g n = false := by
 simp only [qbc, List.all_eq_false]
 exact ⟨i, by simpa using hi, by simp [hg]⟩
theorem zm {g : Nat → Bool} {n : Nat} : qbc g n = true ↔ ∀ i, i < n → g i = true := by simp [qbc]
structure Qu where
 acc : Int
 cons : Int
 items : List Pk
 deriving DecidableEq, Inhabited
def encQ (q : Qu) : List D := [.int .i64 q.acc, .int .i64 q.cons, .sl 9 (q.items.map qk)]
theorem qye (q : Qu) : D.noPtrL (encQ q) = true := by (refine ev1 @encQ.eq_1 ?_; try exact True.intro)
attribute [go_sem] qye
def Pk.Sm (p : Pk) : Prop := p.values.length ≤ 1000 ∧ p.clock.length ≤ 1000
def Qu.Sm (q : Qu) : Prop := q.items.length ≤ 1000 ∧ ∀ p ∈ q.items, p.Sm
theorem Pk.Sm.v {p : Pk} (h : p.Sm) : p.values.length ≤ maxLen := by have := h.1; unfold maxLen; omega
theorem Pk.Sm.c {p : Pk} (h : p.Sm) : p.clock.length ≤ maxLen := by have := h.2; unfold maxLen; omega
noncomputable section
set_option maxRecDepth 100000
set_option linter.defProp false
def d220 := cut Tryz.prog Tryz.f220 news
@[go_sem] def E220 := qq d220
def d221 := cut Tryz.prog Tryz.f221 news
@[go_sem] def E221 := qq d221
def d188 := cut Tryz.prog Tryz.f188 news
@[go_sem] def E188 := qq d188
def d66 := cut Tryz.prog Tryz.f66 news
@[go_sem] def E66 := qq d66
def d222 := cut Tryz.prog Tryz.f222 news
@[go_sem] def E222 := qq d222
end
theorem zw {α : Type} {l : List α} {i : Nat} (h : i < l.length) (d : α) : l.getD i d = l[i] := by simp [List.getD, h]
end Go.Proofs.YtkcdbcbpbolgkaaGreatDoor
namespace Go.Proofs.YtkcdbcbpbolgkaaGreatDoor
open Go.Abs
set_option linter.unusedSimpArgs false
noncomputable section
set_option maxRecDepth 100000
set_option linter.defProp false
def d138 := cut Tryz.prog Tryz.f138 news
@[go_sem] def E138 := qq d138
def d15 := cut Tryz.prog Tryz.f15 news
@[go_sem] def E15 := qq d15
end
end Go.Proofs.YtkcdbcbpbolgkaaGreatDoor
namespace Go.Proofs.YtkcdbcbpbolgkaaGreatDoor
open Go.Abs
set_option linter.unusedSimpArgs false
theorem jv (s : List UInt8) : D.noPtrR (qc s) = true := xi (fun _ => rfl) s
theorem xm (s t : List UInt8) : qc s ++ qc t = qc (s ++ t) := by simp [qc]
theorem w5 (c : UInt8) : [[D.int .u8 (c.toNat : Int)]] = qc [c] := rfl
theorem zd (s : List UInt8) : (qc s).length = s.length := by simp [qc]
theorem xe : qc [] = [] := rfl
attribute [go_sem] jv zd
attribute [go_sem] xe
def qai (u : Nat) : List UInt8 := if u < 128 then [UInt8.ofNat u] else UInt8.ofNat (u % 128 + 128) :: qai (u / 128)
def zz (n : Int) : Nat := if 0 ≤ n then (2 * n).toNat else (-2 * n - 1).toNat
def wInt (n : Int) : List UInt8 := qai (zz n)
def I64 (n : Int) : Prop := -9223372036854775808 ≤ n ∧ n ≤ 9223372036854775807
theorem qmv : ∀ (k u : Nat), u < 128 ^ (k + 1) → (qai u).length ≤ k + 1
 | 0, u, h => by rw [qai, if_pos (by simpa using h)]; simp
 | k + 1, u, h => by
  rw [qai]
  split
  ·simp
  ·have := qmv k (u / 128) (by rw [Nat.div_lt_iff_lt_mul (by decide)]; rw [Nat.pow_succ] at h; exact h)
   simp; omega
theorem q5e {n : Int} (h : I64 n) : zz n < 18446744073709551616 := by
 obtain ⟨h1, h2⟩ := h
 unfold zz; split <;> omega
theorem zx {n : Int} (h : I64 n) : (wInt n).length ≤ 10 := qmv 9 _ (Nat.lt_of_lt_of_le (q5e h) (by decide))
theorem qhe (n : Int) : IntKind.u8.wrap n = n % 256 := by simp [IntKind.wrap, IntKind.bits, IntKind.signed]
theorem qeu (a : Nat) (h : a < 2 ^ 64) : ((BitVec.ofInt 64 (a : Int)) ^^^ (BitVec.ofInt 64 18446744073709551615)).toNat = 18446744073709551615 - a := by
 have e1 : BitVec.ofInt 64 18446744073709551615 = BitVec.allOnes 64 := by decide
 have e2 : BitVec.ofInt 64 (a : Int) = BitVec.ofNat 64 a := by simp
 rw [e1, e2, BitVec.xor_allOnes, BitVec.toNat_not, BitVec.toNat_ofNat, Nat.mod_eq_of_lt h]
theorem xci {n : Int} (h : I64 n) : IntKind.u64.wrap (qpp 64 (IntKind.u64.wrap (IntKind.u64.wrap n * 2 ^ min 1 64)) (IntKind.u64.wrap (n.fdiv (2 ^ min 63 64)))) = (zz n : Int) := by
 unfold qpp
 obtain ⟨h1, h2⟩ := h
 have hf : n.fdiv (2 ^ min 63 64) = if 0 ≤ n then 0 else -1 := by
  show n.fdiv 9223372036854775808 = _
  rw [Int.fdiv_eq_ediv_of_nonneg _ (by decide)]
  split <;> omega
 have hw : ∀ m : Int, IntKind.u64.wrap m = m % 18446744073709551616 := fun m => by simp [IntKind.wrap, IntKind.bits, IntKind.signed]
 have hz := q5e ⟨h1, h2⟩
 have hp : (2 : Int) ^ min 1 64 = 2 := rfl
 rw [hf, hp]
 by_cases hn : 0 ≤ n
 ·rw [if_pos hn]
  have e0 : BitVec.ofInt 64 (IntKind.u64.wrap 0) = 0#64 := by rw [hw]; rfl
  have e1 : IntKind.u64.wrap (IntKind.u64.wrap n * 2) = ((zz n : Nat) : Int) := by rw [hw, hw]; unfold zz; rw [if_pos hn]; omega
  rw [e0, e1, BitVec.xor_zero, BitVec.ofInt_natCast, BitVec.toNat_ofNat, Nat.mod_eq_of_lt hz, hw]
  omega
 ·rw [if_neg hn]
  have e0 : IntKind.u64.wrap (-1) = 18446744073709551615 := by rw [hw]; rfl
  have e1 : IntKind.u64.wrap (IntKind.u64.wrap n * 2) = ((18446744073709551615 - zz n : Nat) : Int) := by rw [hw, hw]; unfold zz at hz ⊢; rw [if_neg hn] at hz ⊢; omega
  rw [e0, e1, qeu _ (by show _ < 18446744073709551616; omega), hw]
  unfold zz at hz ⊢; rw [if_neg hn] at hz ⊢; omega
theorem q5f (u : Nat) : (IntKind.u8.wrap (bvOr 8 (IntKind.u8.wrap (u : Int)) 128)) = ((UInt8.ofNat (u % 128 + 128)).toNat : Int) := by
 unfold bvOr
 have hw : ∀ m : Int, IntKind.u8.wrap m = m % 256 := fun m => by simp [IntKind.wrap, IntKind.bits, IntKind.signed]
 have e1 : BitVec.ofInt 8 (IntKind.u8.wrap (u : Int)) = BitVec.ofNat 8 (u % 256) := by rw [hw, show ((u : Int) % 256) = ((u % 256 : Nat) : Int) by omega, BitVec.ofInt_natCast]
 have key : ∀ x : Fin 256, (BitVec.ofNat 8 x.val ||| BitVec.ofInt 8 128).toNat = x.val % 128 + 128 := by decide +kernel
 have := key ⟨u % 256, Nat.mod_lt _ (by decide)⟩
 simp only at this
 rw [e1, this, hw]
 simp only [UInt8.toNat_ofNat']
 omega
theorem qbd {u : Nat} (h : ¬ u < 128) : qai u = UInt8.ofNat (u % 128 + 128) :: qai (u / 128) := by rw [qai, if_neg h]
theorem qbe {u : Nat} (h : u < 128) : qai u = [UInt8.ofNat u] := by rw [qai, if_pos h]
theorem xdd (u : Nat) : (u : Int).fdiv (2 ^ min 7 64) = ((u / 128 : Nat) : Int) := by
 show (u : Int).fdiv 128 = _
 rw [Int.fdiv_eq_ediv_of_nonneg _ (by decide)]; omega
theorem qo0 (u : Nat) : IntKind.u8.wrap (u : Int) = ((UInt8.ofNat u).toNat : Int) := by
 rw [qhe _, UInt8.toNat_ofNat']; omega
noncomputable section
set_option maxRecDepth 100000
set_option linter.defProp false
def d147 := cut Tryz.prog Tryz.f147 news
@[go_sem] def E147 := qq d147
def F147 := fnC d147 follows Tryz.func147
def d156 := cut Tryz.prog Tryz.f156 news
@[go_sem] def E156 := qq d156
def F156 := fnC d156 follows Tryz.func156
def d157 := cut Tryz.prog Tryz.f157 news
@[go_sem] def E157 := qq d157
def F157 := fnC d157 follows Tryz.func157
def d155 := cut Tryz.prog Tryz.f155 news
@[go_sem] def E155 := qq d155
def F155 := fnC d155 follows Tryz.func155
end
def q5g (b : List UInt8) (n : Int) (i : { i : List UInt8 × Nat // i.1 ++ qai i.2 = b ++ wInt n }) : St :=
 ⟨[(0, true, .own 0 1 (qc i.val.1)), (5, true, .d (.int .u64 (i.val.2 : Nat)))], [], [0], 1⟩
theorem qa0 (b : List UInt8) (n : Int) (hb : b.length ≤ 1000000000) (hn : I64 n) : qh Tryz.prog 147 [.own 0 1 (qc b), .d (.int .i64 n)] [] (.own 0 1 (qc (b ++ wInt n))) [] := by
 refine F147.go ?_
 try (refine ev1 (xci hn) ?_; try exact True.intro)
 refine qn (q5g b n) (fun i => i.val.2) ⟨(b, zz n), rfl⟩ ?_ (fun i => ?_)
 ·try (refine ev1 @q5g.eq_1 ?_; try exact True.intro)
 obtain ⟨⟨p, u⟩, hi⟩ := i
 have hl : p.length ≤ 1000000010 := by
  have := congrArg List.length hi
  have := zx hn
  simp at *; omega
 try (refine ev1 @q5g.eq_1 ?_; try exact True.intro)
 (repeat (with_reducible refine ob ?_)); refine x5 _ (fun h => ?_) (fun h => ?_)
 ·have hu : ¬ u < 128 := by simp at h; omega
  try (refine ev4 @q5f @w5 @xm @xdd ?_; try exact True.intro)
  (repeat (with_reducible refine ob ?_))
  refine ⟨⟨(p ++ [UInt8.ofNat (u % 128 + 128)], u / 128), ?_⟩, ?_, ?_⟩
  ·simp only at hi ⊢; rw [qbd hu] at hi; rw [← hi]; simp
  ·try (refine ev1 @q5g.eq_1 ?_; try exact True.intro)
  ·simp only; omega
 ·have hu : u < 128 := by simp at h; omega
  try (refine ev3 @qo0 @w5 @xm ?_; try exact True.intro)
  (repeat (with_reducible refine ob ?_))
  simp only [qbe hu] at hi
  try (refine ev1 @hi ?_; try exact True.intro)
theorem qub (b : List UInt8) (v : Bool) (hb : b.length ≤ 1000000000) : qh Tryz.prog 156 [.own 0 1 (qc b), .d (.bool v)] [] (.own 0 1 (qc (b ++ [if v then 1 else 0]))) [] := by
 refine F156.go ?_
 try (refine ev ?_; try exact True.intro)
 have e1 : [[D.int .u8 1]] = qc [1] := rfl
 have e0 : [[D.int .u8 0]] = qc [0] := rfl
 cases v with
 | true =>
  try (refine ev ?_; try exact True.intro)
  (repeat (with_reducible refine ob ?_)); refine qdm ?_
  try simp only [e1, xm, if_true, go_sem, Nat.reduceAdd, Nat.reduceMul, Nat.reduceSub, Nat.reduceEqDiff, Nat.reduceLT, Nat.reduceLeDiff, Nat.reduceBEq, reduceIte, reduceCtorEq, Int.reduceAdd, Int.reduceLT, Int.reduceLE, Int.reduceGT, Int.reduceGE, Int.reduceEq, Int.reduceNe, Int.reduceBEq, Int.reduceBNe, Int.reduceToNat, Int.reduceNeg]
  omega
 | false =>
  try (refine ev ?_; try exact True.intro)
  (repeat (with_reducible refine ob ?_)); refine no_ ?_
  try (refine ev2 @e0 @xm ?_; try exact True.intro)
  omega
def qao (s : List UInt8) : List UInt8 := wInt s.length ++ s
theorem jf {n : Nat} (h : n ≤ 9000000000000000000) : I64 n := by unfold I64; omega
theorem quc (b s : List UInt8) (hb : b.length + s.length ≤ 900000000) : qh Tryz.prog 157 [.own 0 1 (qc b), .d (.str s)] [] (.own 0 1 (qc (b ++ qao s))) [] := by
 refine F157.go ?_
 try (refine ev ?_; try exact True.intro)
 refine clA F147 (qa0 b s.length (by omega) (jf (by omega))) ?_
 try (refine ev ?_; try exact True.intro)
 have hl := zx (jf (n := s.length) (by omega))
 have e : qc (b ++ wInt s.length) ++ qc s = qc (b ++ qao s) := by rw [xm, qao, List.append_assoc]
 try (refine ev2 @e @List.length_append.{0} ?_; try exact True.intro)
 refine ⟨by omega, by omega⟩
theorem qri (b s : List UInt8) (hb : b.length + s.length ≤ 900000000) : qh Tryz.prog 155 [.own 0 1 (qc b), .d (.sl 1 (qc s))] [] (.own 0 1 (qc (b ++ qao s))) [] := by
 refine F155.go ?_
 try (refine ev ?_; try exact True.intro)
 refine clA F147 (qa0 b s.length (by omega) (jf (by omega))) ?_
 try (refine ev ?_; try exact True.intro)
 have hl := zx (jf (n := s.length) (by omega))
 have e : qc (b ++ wInt s.length) ++ qc s = qc (b ++ qao s) := by rw [xm, qao, List.append_assoc]
 try (refine ev2 @e @List.length_append.{0} ?_; try exact True.intro)
 refine ⟨by omega, by omega⟩
end Go.Proofs.YtkcdbcbpbolgkaaGreatDoor
namespace Go.Proofs.YtkcdbcbpbolgkaaGreatDoor
open Go.Abs
set_option linter.unusedSimpArgs false
structure OpS where
 key : List UInt8
 del : Bool
 val : List UInt8
 deriving DecidableEq, Inhabited
def qp (o : OpS) : List D := [.str o.key, .bool o.del, .sl 1 (qc o.val)]
theorem qkr (o : OpS) : D.noPtrL (qp o) = true := by simp only [qp, D.noPtrL, D.noPtr, jv, Bool.and_self]
theorem qrj (l : List OpS) : D.noPtrR (l.map qp) = true := xi qkr l
attribute [go_sem] qkr qrj
noncomputable section
set_option maxRecDepth 100000
set_option linter.defProp false
def d154 := cut Tryz.prog Tryz.f154 news
@[go_sem] def E154 := qq d154
def F154 := fnC d154 follows Tryz.func154
def d153 := cut Tryz.prog Tryz.f153 news
@[go_sem] def E153 := qq d153
def F153 := fnC d153 follows Tryz.func153
def d231 := cut Tryz.prog Tryz.f231 news
@[go_sem] def E231 := qq d231
def F231 := fnC d231 follows Tryz.func231
def d152 := cut Tryz.prog Tryz.f152 news
@[go_sem] def E152 := qq d152
def F152 := fnC d152 follows Tryz.func152
def d85 := cut Tryz.prog Tryz.f85 news
@[go_sem] def E85 := qq d85
def F85 := fnC d85 follows Tryz.func85
end
def jw (o : OpS) : Bool := decide ((o.key.length : Int) ≥ 1) && decide ((o.key.length : Int) ≤ 40) && decide ((o.val.length : Int) ≤ 900) && !(o.del && decide ((o.val.length : Int) > 0))
theorem qmw (o : OpS) : qh Tryz.prog 154 [.d (.agg (qp o))] [] (.d (.bool (jw o))) [] := by
 refine F154.go ?_
 try (refine ev1 @qp.eq_1 ?_; try exact True.intro)
 simp only [jw, and_true]
 intro h
 refine ⟨h, fun h2 => ?_⟩
 rw [h, h2]; rfl
theorem qmx (o : OpS) : qh Tryz.prog 153 [.d (.agg (qp o))] [] (.d (.bool (!jw o))) [] := by
 refine F153.go ?_
 try (refine ev1 @qp.eq_1 ?_; try exact True.intro)
 (repeat (with_reducible refine ob ?_)); first | refine cl F154 (qmw o) ?_ | refine clF F154 (qmw o) (fun _ => by (refine ev1 @qp.eq_1 ?_; try exact True.intro)) ?_
 try (refine ev ?_; try exact True.intro)
def q5h (k : FuncId) (l : List OpS) (f : OpS → Bool) (i : { i : Nat // (l.take i).any f = false }) : St :=
 ⟨[(0, true, .d (.sl 3 (l.map qp))), (1, true, .d (.func (.func k) [] [])), (7, true, .d (.int .i64 l.length)), (8, true, .d (.int .i64 (i.val : Nat)))], [], [], 1⟩
theorem qrk {k : FuncId} {f : OpS → Bool} (hb : (Tryz.prog.funcs[k]?).any (fun fn => fn.body.isSome && !(fn.name == "runtime.NumGoroutine")) = true)
  (hf : ∀ v, qh Tryz.prog k [.d (.agg (qp v))] [] (.d (.bool (f v))) []) (l : List OpS) (hl : l.length ≤ maxLen) :
  qh Tryz.prog 231 [.d (.sl 3 (l.map qp)), .d (.func (.func k) [] [])] [] (.d (.int .i64 (idx f l))) [] := by
 refine F231.go ?_
 try (refine ev ?_; try exact True.intro)
 refine qn (q5h k l f) (fun i => l.length - i.val) ⟨0, rfl⟩ ?_ (fun i => ?_)
 ·try (refine ev1 @q5h.eq_1 ?_; try exact True.intro)
 obtain ⟨i, hi⟩ := i
 try (refine ev1 @q5h.eq_1 ?_; try exact True.intro)
 (repeat (with_reducible refine ob ?_)); refine x5 _ (fun h => ?_) (fun h => ?_)
 ·have hil : i < l.length := by simpa using h
  (refine ev2 (qj qp l hil) @qp.eq_1 ?_; try exact True.intro)
  (repeat (with_reducible refine ob ?_))
  refine xj (hf l[i]) hb (fun h => h) (fun _ => ⟨qa, trivial⟩) (by try (refine ev1 @qp.eq_1 ?_; try exact True.intro)) rfl rfl ?_
  try (refine ev ?_; try exact True.intro)
  (repeat (with_reducible refine ob ?_)); refine x5 _ (fun h => ?_) (fun h => ?_)
  ·try (refine ev1 (qd8 hi hil h) ?_; try exact True.intro)
  ·try (refine ev ?_; try exact True.intro)
   refine ⟨⟨i + 1, k8 hi hil (by simpa using h)⟩, ?_, by dsimp only; omega⟩
   try (refine ev2 @q5h.eq_1 (qg (show i < 9223372036854775807 by unfold maxLen at hl; omega)) ?_; try exact True.intro)
 ·have hil : l.length ≤ i := by simpa using h
  try (refine ev1 (qd7 hi hil) ?_; try exact True.intro)
theorem qie {k : FuncId} {f : OpS → Bool} (hb : (Tryz.prog.funcs[k]?).any (fun fn => fn.body.isSome && !(fn.name == "runtime.NumGoroutine")) = true)
  (hf : ∀ v, qh Tryz.prog k [.d (.agg (qp v))] [] (.d (.bool (f v))) []) (l : List OpS) (hl : l.length ≤ maxLen) :
  qh Tryz.prog 152 [.d (.sl 3 (l.map qp)), .d (.func (.func k) [] [])] [] (.d (.bool (l.any f))) [] := by
 refine F152.go ?_
 try (refine ev ?_; try exact True.intro)
 (repeat (with_reducible refine ob ?_)); first | refine cl F231 (qrk hb hf l hl) ?_ | refine clF F231 (qrk hb hf l hl) (fun _ => by (refine ev1 @qp.eq_1 ?_; try exact True.intro)) ?_
 try (refine ev1 @qvx ?_; try exact True.intro)
def wOp (o : OpS) : List UInt8 := qao o.key ++ [if o.del then 1 else 0] ++ qao o.val
def wOps (l : List OpS) : List UInt8 := wInt l.length ++ l.flatMap wOp
def qz (l : List OpS) : List UInt8 × Int :=
 if l.length = 0 || l.any (fun o => !jw o) then ([], 1) else if l.length > 20 || (wOps l).length > 2000 then ([], 6) else (wOps l, 0)
theorem wy {o : OpS} : jw o = true ↔ 1 ≤ o.key.length ∧ o.key.length ≤ 40 ∧ o.val.length ≤ 900 ∧ (o.del = true → o.val.length = 0) := by
 unfold jw
 cases o.del <;> simp [-List.length_eq_zero_iff] <;> omega
theorem qdn (s : List UInt8) (h : s.length ≤ 900000000) : (qao s).length ≤ s.length + 10 := by
 have := zx (jf (n := s.length) (by omega))
 simp [qao]; omega
theorem q1a {o : OpS} (h : jw o = true) : (wOp o).length ≤ 1000 := by
 obtain ⟨h1, h2, h3, _⟩ := wy.1 h
 have k1 := qdn o.key (Nat.le_trans h2 (by decide))
 have k2 := qdn o.val (Nat.le_trans h3 (by decide))
 simp only [wOp, List.length_append, List.length_cons, List.length_nil]; omega
theorem qi8 {l : List OpS} (h : ∀ o ∈ l, jw o = true) : (l.flatMap wOp).length ≤ l.length * 1000 := by
 induction l with
 | nil => simp
 | cons o l ih =>
  have h1 := q1a (h o List.mem_cons_self)
  have h2 := ih (fun x hx => h x (List.mem_cons_of_mem _ hx))
  simp only [List.flatMap_cons, List.length_append, List.length_cons]
  omega
def Senc (l : List OpS) (i : { i : Nat // i ≤ l.length }) : St :=
 ⟨[(0, true, .d (.sl 3 (l.map qp))), (4, true, .own 0 1 (qc (wInt l.length ++ (l.take i.val).flatMap wOp))), (17, true, .d (.sl 3 (l.map qp))), (18, true, .d (.int .i64 l.length)), (19, true, .d (.int .i64 (i.val : Nat)))], [], [0], 1⟩
theorem qif : (Tryz.prog.funcs[153]?).any (fun fn => fn.body.isSome && !(fn.name == "runtime.NumGoroutine")) = true := F153.body
theorem qrl {α β : Type} (f : α → List β) (l : List α) {i : Nat} (h : i < l.length) : (l.take (i + 1)).flatMap f = (l.take i).flatMap f ++ f l[i] := by
 rw [List.take_succ_eq_append_getElem h, List.flatMap_append, List.flatMap_cons, List.flatMap_nil, List.append_nil]
theorem qeb (l : List OpS) (hl : l.length ≤ 100000) : qh Tryz.prog 85 [.d (.sl 3 (l.map qp))] [] (.tup [.d (.sl 1 (qc (qz l).1)), .d (.int .i64 (qz l).2)]) [] := by
 refine F85.goT ?_
 try (refine ev ?_; try exact True.intro)
 (repeat (with_reducible refine ob ?_)); first | refine cl F152 (qie qif qmx l (by unfold maxLen; omega)) ?_ | refine clF F152 (qie qif qmx l (by unfold maxLen; omega)) (fun _ => by (refine ev1 @qp.eq_1 ?_; try exact True.intro)) ?_
 try (refine ev ?_; try exact True.intro)
 (repeat (with_reducible refine ob ?_))
 (repeat (with_reducible refine ob ?_)); refine x5 _ (fun h => ?_) (fun h => ?_)
 ·have hb : qz l = ([], 1) := by
   unfold qz
   rw [if_pos]
   simp only [Bool.or_eq_true, decide_eq_true_eq, beq_iff_eq] at h ⊢
   rcases h with h | h
   ·left; omega
   ·right; exact h
  try (refine ev2 @hb @xe ?_; try exact True.intro)
 have hne : ¬ (decide (l.length = 0) || l.any (fun o => !jw o)) = true := by
  simp only [Bool.or_eq_true, decide_eq_true_eq, not_or]
  simp only [Bool.or_eq_false_iff, beq_eq_false_iff_ne] at h
  exact ⟨by omega, by simp [h.2]⟩
 have hpr : ∀ o ∈ l, jw o = true := by
  simp only [Bool.or_eq_true, not_or, List.any_eq_true, not_exists, not_and] at hne
  intro o ho
  simpa using hne.2 o ho
 have hwl := qi8 hpr
 have hil0 := zx (jf (n := l.length) (by omega))
 try (refine ev ?_; try exact True.intro)
 refine clA F147 (qa0 [] l.length (by simp) (jf (by omega))) ?_
 try (refine ev ?_; try exact True.intro)
 refine qn (Senc l) (fun i => l.length - i.val) ⟨0, Nat.zero_le _⟩ ?_ (fun i => ?_)
 ·try (refine ev2 @Senc.eq_1 @List.take_zero.{0} ?_; try exact True.intro)
 obtain ⟨i, hi⟩ := i
 try (refine ev1 @Senc.eq_1 ?_; try exact True.intro)
 (repeat (with_reducible refine ob ?_)); refine x5 _ (fun h => ?_) (fun h => ?_)
 ·have hil : i < l.length := by simpa using h
  have ho := hpr l[i] (List.getElem_mem hil)
  obtain ⟨p1, p2, p3, _⟩ := wy.1 ho
  have hpre : (wInt l.length ++ (l.take i).flatMap wOp).length ≤ 100000020 := by
   have := qi8 (l := l.take i) (fun o h => hpr o (List.mem_of_mem_take h))
   simp only [List.length_append, List.length_take] at this ⊢
   have : min i l.length ≤ 100000 := by omega
   omega
  have k1 := qdn l[i].key (by omega)
  try (refine ev2 (qj qp l hil) @qp.eq_1 ?_; try exact True.intro)
  (repeat (with_reducible refine ob ?_))
  refine clA F157 (quc (wInt l.length ++ (l.take i).flatMap wOp) l[i].key (by omega)) ?_
  try (refine ev ?_; try exact True.intro)
  refine clA F156 (qub ((wInt l.length ++ (l.take i).flatMap wOp) ++ qao l[i].key) l[i].del (by simp only [List.length_append] at hpre ⊢; omega)) ?_
  try (refine ev ?_; try exact True.intro)
  refine clA F155 (qri ((wInt l.length ++ (l.take i).flatMap wOp) ++ qao l[i].key ++ [if l[i].del then 1 else 0]) l[i].val (by simp only [List.length_append, List.length_cons, List.length_nil] at hpre ⊢; omega)) ?_
  try (refine ev ?_; try exact True.intro)
  have e : wInt l.length ++ (l.take i).flatMap wOp ++ qao l[i].key ++ [if l[i].del then 1 else 0] ++ qao l[i].val = wInt l.length ++ (l.take (i + 1)).flatMap wOp := by
   rw [qrl wOp l hil, wOp]; simp only [List.append_assoc]
  refine ⟨⟨i + 1, hil⟩, ?_, by dsimp only; omega⟩
  try (refine ev3 @Senc.eq_1 @e (qg (show i < 9223372036854775807 by omega)) ?_; try exact True.intro)
 ·have hie : i = l.length := by simp at h; omega
  subst hie
  try (refine ev1 @List.take_length.{0} ?_; try exact True.intro)
  have hw : wInt l.length ++ l.flatMap wOp = wOps l := rfl
  have hw2 : (wOps l).length = (wInt l.length).length + (l.flatMap wOp).length := by rw [wOps, List.length_append]
  try (refine ev1 @hw ?_; try exact True.intro)
  (repeat (with_reducible refine ob ?_)); refine x5 _ (fun h => ?_) (fun h => ?_)
  ·have hb : qz l = ([], 6) := by
    unfold qz
    rw [if_neg hne, if_pos]
    simp only [Bool.or_eq_true, decide_eq_true_eq] at h ⊢
    omega
   try (refine ev2 @hb @xe ?_; try exact True.intro)
  ·have hb : qz l = (wOps l, 0) := by
    unfold qz
    rw [if_neg hne, if_neg]
    simp only [Bool.or_eq_true, Bool.or_eq_false_iff, decide_eq_true_eq, decide_eq_false_iff_not] at h ⊢
    omega
   try (refine ev1 @hb ?_; try exact True.intro)
end Go.Proofs.YtkcdbcbpbolgkaaGreatDoor
namespace Go.Proofs.YtkcdbcbpbolgkaaGreatDoor
open Go.Abs
set_option linter.unusedSimpArgs false
noncomputable section
set_option maxRecDepth 100000
set_option linter.defProp false
def d233 := cut Tryz.prog Tryz.f233 news
@[go_sem] def E233 := qq d233
def F233 := fnC d233 follows Tryz.func233
def d161 := cut Tryz.prog Tryz.f161 news
@[go_sem] def E161 := qq d161
def F161 := fnC d161 follows Tryz.func161
def d159 := cut Tryz.prog Tryz.f159 news
@[go_sem] def E159 := qq d159
def F159 := fnC d159 follows Tryz.func159
end
def fnv1 (h : Nat) (c : UInt8) : Nat := (h ^^^ c.toNat) * 1099511628211 % 18446744073709551616
def fnv (h : Nat) (s : List UInt8) : Nat := s.foldl fnv1 h
theorem qud (h : Nat) : fnv h [] = h := rfl
theorem qo1 (h : Nat) (s : List UInt8) (c : UInt8) : fnv h (s ++ [c]) = (fnv h s ^^^ c.toNat) * 1099511628211 % 18446744073709551616 := by
 have : fnv h (s ++ [c]) = fnv1 (fnv h s) c := by unfold fnv; rw [List.foldl_append, List.foldl_cons, List.foldl_nil]
 rw [this, fnv1]
theorem q1b {h : Nat} (hh : h < 18446744073709551616) (s : List UInt8) : fnv h s < 18446744073709551616 := by
 rcases List.eq_nil_or_concat s with rfl | ⟨t, c, rfl⟩
 ·rw [qud]; exact hh
 ·rw [List.concat_eq_append, qo1]
  generalize (fnv h t ^^^ c.toNat) * 1099511628211 = x
  omega
theorem qe6 (n : Int) : IntKind.u64.wrap n = n % 18446744073709551616 := by simp [IntKind.wrap, IntKind.bits, IntKind.signed]
theorem q5i (a b : Nat) (ha : a < 18446744073709551616) (hb : b < 18446744073709551616) : a ^^^ b < 18446744073709551616 := by
 have p : (18446744073709551616 : Nat) = 2 ^ 64 := by decide
 rw [p] at *
 exact Nat.xor_lt_two_pow ha hb
theorem q1c (a b : Nat) (ha : a < 18446744073709551616) (hb : b < 18446744073709551616) : qpp 64 (a : Int) (b : Int) = ((a ^^^ b : Nat) : Int) := by
 unfold qpp
 rw [BitVec.ofInt_natCast, BitVec.ofInt_natCast, BitVec.toNat_xor, BitVec.toNat_ofNat, BitVec.toNat_ofNat, Nat.mod_eq_of_lt ha, Nat.mod_eq_of_lt hb]
theorem f1 (x : Nat) : IntKind.u64.wrap ((x : Int) * 1099511628211) = ((x * 1099511628211 % 18446744073709551616 : Nat) : Int) := by
 rw [qe6]
 simp only [Int.natCast_emod, Int.natCast_mul, Int.cast_ofNat_Int]
theorem f2 (x : Nat) (h : x < 18446744073709551616) : IntKind.u64.wrap (x : Int) = x := by
 rw [qe6]; omega
theorem qvz (h c : Nat) (hh : h < 18446744073709551616) (hc : c < 256) :
  IntKind.u64.wrap (IntKind.u64.wrap (qpp 64 (h : Int) (IntKind.u64.wrap (c : Int))) * 1099511628211) = (((h ^^^ c) * 1099511628211 % 18446744073709551616 : Nat) : Int) := by
 rw [f2 c (by omega), q1c h c hh (by omega), f2 _ (q5i h c hh (by omega)), f1]
theorem qdo (c : UInt8) : c.toNat < 256 := UInt8.toNat_lt c
theorem ju (s : List UInt8) {i : Nat} (h : i < s.length) : (qc s).getD i [] = [.int .u8 (s[i].toNat : Int)] := qj (fun c : UInt8 => [D.int .u8 (c.toNat : Int)]) s h []
def k9 (c : UInt8) : D := .int .u8 c.toNat
theorem que (s : List UInt8) : D.noPtrL (s.map k9) = true := by induction s <;> simp_all [D.noPtrL, D.noPtr, k9]
theorem qks (s : List UInt8) : (s.map k9).all D.isCell = true := by induction s <;> simp_all [D.isCell, k9]
attribute [go_sem] que qks
theorem qyf (s : List UInt8) {i : Nat} (h : i < s.length) (x : ASlot) : ((s.map k9).map ASlot.d).getD i x = .d (.int .u8 (s[i].toNat : Int)) := by simp [h, k9]
theorem qcn (s : List UInt8) : (qc s).flatten = s.map k9 := by induction s <;> simp_all [qc, k9]
theorem qrm (s : List UInt8) : ye 1 s.length (s.map k9) = qc s := by
 induction s with
 | nil => rfl
 | cons c s ih => simp only [List.length_cons, List.map_cons, ye, List.take_succ_cons, List.take_zero, List.drop_succ_cons, List.drop_zero, ih]; rfl
def qv0 (h : Nat) (s : List UInt8) (i : { i : Nat // i ≤ s.length }) : St :=
 ⟨[(0, true, .d (.int .u64 (fnv h (s.take i.val) : Nat))), (7, true, .d (.ref 0 0 1 s.length)), (8, true, .d (.int .i64 s.length)), (9, true, .d (.int .i64 (i.val : Nat)))], [.row ((s.map k9).map .d)], [], 1⟩
theorem q5k (h : Nat) (s : List UInt8) (hh : h < 18446744073709551616) (hl : s.length ≤ 1000000000) : qh Tryz.prog 233 [.d (.int .u64 h), .d (.ref 0 0 1 s.length)] [.row ((s.map k9).map .d)] (.d (.int .u64 (fnv h s : Nat))) [.row ((s.map k9).map .d)] := by
 refine F233.go ?_
 try (refine ev ?_; try exact True.intro)
 refine qn (qv0 h s) (fun i => s.length - i.val) ⟨0, Nat.zero_le _⟩ ?_ (fun i => ?_)
 ·try (refine ev3 @qv0.eq_1 @List.take_zero.{0} @qud ?_; try exact True.intro)
 obtain ⟨i, hi⟩ := i
 try (refine ev1 @qv0.eq_1 ?_; try exact True.intro)
 (repeat (with_reducible refine ob ?_)); refine x5 _ (fun h => ?_) (fun h => ?_)
 ·have hil : i < s.length := by simpa using h
  try (refine ev2 @Nat.mul_one (qyf s hil) ?_; try exact True.intro)
  (repeat (with_reducible refine ob ?_))
  try simp only [qvz _ _ (q1b hh (s.take i)) (qdo s[i]), go_sem, Nat.reduceAdd, Nat.reduceMul, Nat.reduceSub, Nat.reduceEqDiff, Nat.reduceLT, Nat.reduceLeDiff, Nat.reduceBEq, reduceIte, reduceCtorEq, Int.reduceAdd, Int.reduceLT, Int.reduceLE, Int.reduceGT, Int.reduceGE, Int.reduceEq, Int.reduceNe, Int.reduceBEq, Int.reduceBNe, Int.reduceToNat, Int.reduceNeg]
  refine ⟨⟨i + 1, hil⟩, ?_, by dsimp only; omega⟩
  try (refine ev4 @qv0.eq_1 (qg (show i < 9223372036854775807 by omega)) (List.take_succ_eq_append_getElem hil) @qo1 ?_; try exact True.intro)
 ·have hie : i = s.length := by simp at h; omega
  subst hie
  try (refine ev1 @List.take_length.{0} ?_; try exact True.intro)
def be8 (h : Nat) : List UInt8 := [UInt8.ofNat (h / 256 ^ 7), UInt8.ofNat (h / 256 ^ 6), UInt8.ofNat (h / 256 ^ 5), UInt8.ofNat (h / 256 ^ 4), UInt8.ofNat (h / 256 ^ 3), UInt8.ofNat (h / 256 ^ 2), UInt8.ofNat (h / 256 ^ 1), UInt8.ofNat (h / 256 ^ 0)]
theorem qco (h : Nat) : (be8 h).length = 8 := rfl
theorem q8s (h : Nat) : ∀ {i : Nat} (hi : i < 8), (be8 h)[i]'(by rw [qco]; exact hi) = UInt8.ofNat (h / 256 ^ (7 - i))
 | 0, _ => rfl
 | 1, _ => rfl
 | 2, _ => rfl
 | 3, _ => rfl
 | 4, _ => rfl
 | 5, _ => rfl
 | 6, _ => rfl
 | 7, _ => rfl
theorem zn {n : Int} (h : I64 n) : IntKind.i64.wrap n = n := by
 obtain ⟨h1, h2⟩ := h
 simp [IntKind.wrap, IntKind.bits, IntKind.signed]; omega
theorem qv1 (h i : Nat) (hi : i < 8) : IntKind.u8.wrap ((h : Int).fdiv (2 ^ min (8 * (7 - (i : Int))).toNat 64)) = ((UInt8.ofNat (h / 256 ^ (7 - i))).toNat : Int) := by
 have e1 : min (8 * (7 - (i : Int))).toNat 64 = 8 * (7 - i) := by omega
 have e2 : ((2 : Int) ^ (8 * (7 - i))) = ((256 ^ (7 - i) : Nat) : Int) := by rw [Int.natCast_pow, Int.pow_mul]; rfl
 rw [e1, e2, Int.fdiv_eq_ediv_of_nonneg _ (Int.natCast_nonneg _), ← Int.natCast_ediv, qhe, UInt8.toNat_ofNat']
 omega
theorem q1d (h : Nat) {i : Nat} (hi : i < 8) : (((be8 h).take i ++ List.replicate (8 - i) 0).map k9).set i (D.int .u8 ((UInt8.ofNat (h / 256 ^ (7 - i))).toNat : Int)) = ((be8 h).take (i + 1) ++ List.replicate (8 - (i + 1)) 0).map k9 := by
 have h8 := qco h
 have hl : ((be8 h).take i).length = i := by rw [List.length_take]; omega
 have e : D.int .u8 ((UInt8.ofNat (h / 256 ^ (7 - i))).toNat : Int) = k9 ((be8 h)[i]'(by omega)) := by rw [q8s h hi]; rfl
 rw [e, ← List.map_set, List.set_append_right _ _ (by omega), hl, Nat.sub_self, List.take_succ_eq_append_getElem (by omega), show 8 - i = (8 - (i + 1)) + 1 by omega, List.replicate_succ, List.set_cons_zero, List.append_assoc, List.cons_append, List.nil_append]
theorem qgg (ds : List D) (i : Nat) (x : D) : (ds.map ASlot.d).set i (.d x) = (ds.set i x).map .d := by rw [List.map_set]
theorem qmy : k9 0 = .int .u8 0 := rfl
theorem q1e (h : Nat) : (be8 h).take 8 = be8 h := List.take_of_length_le (Nat.le_of_eq (qco h))
def qdp (k : Nat) (f0 : Fr) (os : List AObj) (h : Nat) (i : { i : Nat // i ≤ 8 }) : St :=
 ⟨(6, true, .d (.int .u64 (h : Nat))) :: (7, true, .d (.ptr (k + 1) 0)) :: (5, true, .d (.ptr k 0)) :: (12, true, .d (.int .i64 (i.val : Nat))) :: f0, os ++ [.row ((List.replicate 8 (D.int .u8 0)).map .d), .row ((((be8 h).take i.val ++ List.replicate (8 - i.val) 0).map k9).map .d)], [], 1⟩
theorem q1f (h : Nat) (s : List UInt8) (hh : h < 18446744073709551616) (hl : s.length ≤ 1000000000) : qh Tryz.prog 161 [.d (.int .u64 h), .d (.ref 0 0 1 s.length)] [.row ((s.map k9).map .d)] (.tup [.d (.int .u64 (fnv h s : Nat)), .d (.agg ((be8 (fnv h s)).map k9))]) [.row ((s.map k9).map .d)] := by
 refine F161.goT ?_
 try (refine ev ?_; try exact True.intro)
 (repeat (with_reducible refine ob ?_)); refine clO [0] F233 (q5k h s hh hl) ?_
 try (refine ev ?_; try exact True.intro)
 refine qn (qdp 1 [] [.row ((s.map k9).map .d)] (fnv h s)) (fun i => 8 - i.val) ⟨0, Nat.zero_le _⟩ ?_ (fun i => ?_)
 ·try (refine ev3 @qdp.eq_1 @List.take_zero.{0} @qmy ?_; try exact True.intro)
 obtain ⟨i, hi⟩ := i
 try (refine ev1 @qdp.eq_1 ?_; try exact True.intro)
 refine x5 _ (fun hc => ?_) (fun hc => ?_)
 ·have hil : i < 8 := by simp at hc; omega
  have e1 : IntKind.i64.wrap (7 - (i : Int)) = 7 - i := zn (by unfold I64; omega)
  have e2 : IntKind.i64.wrap (8 * (7 - (i : Int))) = 8 * (7 - i) := zn (by unfold I64; omega)
  have hlen := qco (fnv h s)
  try simp only [Nat.mul_one, qv1 _ _ hil, qgg, q1d _ hil, e1, e2, List.length_take, List.length_replicate, go_sem, Nat.reduceAdd, Nat.reduceMul, Nat.reduceSub, Nat.reduceEqDiff, Nat.reduceLT, Nat.reduceLeDiff, Nat.reduceBEq, reduceIte, reduceCtorEq, Int.reduceAdd, Int.reduceLT, Int.reduceLE, Int.reduceGT, Int.reduceGE, Int.reduceEq, Int.reduceNe, Int.reduceBEq, Int.reduceBNe, Int.reduceToNat, Int.reduceNeg]
  (repeat (with_reducible refine ob ?_))
  refine ⟨⟨i + 1, hil⟩, ?_, by dsimp only; omega⟩
  try (refine ev2 @qdp.eq_1 (qg (show i < 9223372036854775807 by omega)) ?_; try exact True.intro)
 ·have hie : i = 8 := by simp at hc; omega
  subst hie
  try (refine ev3 @q1e @be8.eq_1 @k9.eq_1 ?_; try exact True.intro)
def num1 (h : Nat) (c : UInt8) : Nat := h * 256 + c.toNat
def ql5 (s : List UInt8) : Nat := s.foldl num1 0
def qen (file : List UInt8) : Nat := if file.length < 8 then 14695981039346656037 else ql5 (file.drop (file.length - 8))
theorem qmz (s : List UInt8) (c : UInt8) : ql5 (s ++ [c]) = ql5 s * 256 + c.toNat := by unfold ql5; rw [List.foldl_append, List.foldl_cons, List.foldl_nil]; rfl
theorem qo2 : ∀ (n : Nat) (s : List UInt8), s.length = n → ql5 s < 256 ^ n
 | 0, s, h => by cases s <;> simp at h; simp [ql5]
 | n + 1, s, h => by
  rcases List.eq_nil_or_concat s with rfl | ⟨t, c, rfl⟩
  ·simp at h
  ·rw [List.concat_eq_append] at h ⊢
   have h1 := qo2 n t (by simpa using h)
   have h2 := qdo c
   rw [qmz, Nat.pow_succ]
   omega
theorem qv2 (a b : Nat) (ha : a < 18446744073709551616) (hb : b < 18446744073709551616) : bvOr 64 (a : Int) (b : Int) = ((a ||| b : Nat) : Int) := by
 unfold bvOr
 rw [BitVec.ofInt_natCast, BitVec.ofInt_natCast, BitVec.toNat_or, BitVec.toNat_ofNat, BitVec.toNat_ofNat, Nat.mod_eq_of_lt ha, Nat.mod_eq_of_lt hb]
theorem xar (a c : Nat) (hc : c < 256) : a * 256 ||| c = a * 256 + c := by
 have := Nat.shiftLeft_add_eq_or_of_lt (i := 8) (b := c) (by omega) a
 rw [Nat.shiftLeft_eq] at this
 exact this.symm
theorem q1g (a c : Nat) (ha : a < 72057594037927936) (hc : c < 256) : IntKind.u64.wrap (bvOr 64 (IntKind.u64.wrap ((a : Int) * 2 ^ min 8 64)) (IntKind.u64.wrap (c : Int))) = ((a * 256 + c : Nat) : Int) := by
 have e1 : IntKind.u64.wrap ((a : Int) * 2 ^ min 8 64) = ((a * 256 : Nat) : Int) := by
  rw [qe6]
  show (a : Int) * 256 % 18446744073709551616 = _
  omega
 rw [e1, f2 c (by omega), qv2 _ _ (by omega) (by omega), xar a c hc, f2 _ (by omega)]
def q5l (s : List UInt8) (i : { i : Nat // i ≤ s.length }) : St :=
 ⟨[(3, true, .d (.int .u64 (ql5 (s.take i.val) : Nat))), (13, true, .d (.sl 1 (qc s))), (14, true, .d (.int .i64 s.length)), (15, true, .d (.int .i64 (i.val : Nat)))], [], [], 1⟩
theorem qcp (s : List UInt8) (n : Nat) : (qc s).drop n = qc (s.drop n) := by simp [qc]
theorem qcq (s : List UInt8) (n : Nat) : (qc s).take n = qc (s.take n) := by simp [qc]
theorem q8t (file : List UInt8) (hl : file.length ≤ 1000000000) : qh Tryz.prog 159 [.d (.sl 1 (qc file))] [] (.d (.int .u64 (qen file : Nat))) [] := by
 refine F159.go ?_
 try (refine ev ?_; try exact True.intro)
 refine x5 _ (fun hc => ?_) (fun hc => ?_)
 ·have hb : qen file = 14695981039346656037 := by unfold qen; rw [if_pos (by simp at hc; omega)]
  try (refine ev1 @hb ?_; try exact True.intro)
 have h8 : 8 ≤ file.length := by simp at hc; omega
 have e1 : IntKind.i64.wrap ((file.length : Int) - 8) = ((file.length - 8 : Nat) : Int) := by rw [zn (by unfold I64; omega)]; omega
 have hb : qen file = ql5 (file.drop (file.length - 8)) := by unfold qen; rw [if_neg (by omega)]
 have hd : (file.drop (file.length - 8)).length = 8 := by rw [List.length_drop]; omega
 generalize hs : file.drop (file.length - 8) = s at hb hd
 have e2 : s.take (file.length - (file.length - 8)) = s := List.take_of_length_le (by omega)
 try (refine ev6 @e1 @qcp @qcq @hs @e2 @hb ?_; try exact True.intro)
 (repeat (with_reducible refine ob ?_))
 refine qn (q5l s) (fun i => s.length - i.val) ⟨0, Nat.zero_le _⟩ ?_ (fun i => ?_)
 ·try (refine ev2 @q5l.eq_1 @List.take_zero.{0} ?_; try exact True.intro)
  simp [ql5]
 obtain ⟨i, hi⟩ := i
 try (refine ev1 @q5l.eq_1 ?_; try exact True.intro)
 (repeat (with_reducible refine ob ?_)); refine x5 _ (fun h => ?_) (fun h => ?_)
 ·have hil : i < s.length := by simpa using h
  have hlt : ql5 (s.take i) < 72057594037927936 := by
   have := qo2 i (s.take i) (by rw [List.length_take]; omega)
   have h7 : 256 ^ i ≤ 256 ^ 7 := Nat.pow_le_pow_right (by decide) (by omega)
   have : (256 : Nat) ^ 7 = 72057594037927936 := by decide
   omega
  try (refine ev1 (ju s hil) ?_; try exact True.intro)
  (repeat (with_reducible refine ob ?_))
  try simp only [q1g _ _ hlt (qdo s[i]), go_sem, Nat.reduceAdd, Nat.reduceMul, Nat.reduceSub, Nat.reduceEqDiff, Nat.reduceLT, Nat.reduceLeDiff, Nat.reduceBEq, reduceIte, reduceCtorEq, Int.reduceAdd, Int.reduceLT, Int.reduceLE, Int.reduceGT, Int.reduceGE, Int.reduceEq, Int.reduceNe, Int.reduceBEq, Int.reduceBNe, Int.reduceToNat, Int.reduceNeg]
  refine ⟨⟨i + 1, hil⟩, ?_, by dsimp only; omega⟩
  try (refine ev4 @q5l.eq_1 (qg (show i < 9223372036854775807 by omega)) (List.take_succ_eq_append_getElem hil) @qmz ?_; try exact True.intro)
 ·have hie : i = s.length := by simp at h; omega
  subst hie
  try (refine ev1 @List.take_length.{0} ?_; try exact True.intro)
end Go.Proofs.YtkcdbcbpbolgkaaGreatDoor
namespace Go.Proofs.YtkcdbcbpbolgkaaGreatDoor
open Go.Abs
set_option linter.unusedSimpArgs false
attribute [go_sem] List.getD_nil
noncomputable section
set_option maxRecDepth 100000
set_option linter.defProp false
def d140 := cut Tryz.prog Tryz.f140 news
@[go_sem] def E140 := qq d140
def d100 := cut Tryz.prog Tryz.f100 news
@[go_sem] def E100 := qq d100
def d39 := cut Tryz.prog Tryz.f39 news
@[go_sem] def E39 := qq d39
end
def eqAt {α : Type} (f : α → α → Bool) (l m : List α) (i : Nat) : Bool := match l[i]?, m[i]? with | some x, some y => f x y | _, _ => true
def eqBy {α : Type} (f : α → α → Bool) (l m : List α) : Bool := l.length == m.length && qbc (eqAt f l m) l.length
theorem q1h {α : Type} [DecidableEq α] (l m : List α) : eqBy (fun x y => decide (x = y)) l m = decide (l = m) := by
 rw [Bool.eq_iff_iff]
 simp only [eqBy, Bool.and_eq_true, beq_iff_eq, zm, decide_eq_true_eq]
 constructor
 ·rintro ⟨h1, h2⟩
  refine List.ext_getElem h1 fun i hi hj => ?_
  have := h2 i hi
  simpa [eqAt, hi, hj] using this
 ·rintro rfl
  refine ⟨rfl, fun i hi => ?_⟩
  simp [eqAt, hi]
end Go.Proofs.YtkcdbcbpbolgkaaGreatDoor
