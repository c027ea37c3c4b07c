/- Texts Ca, Wa, Cb, Wb, Wc, Cc, Cd, Ce, Vi. -/
import Derived.Test.YtinnaedmdoengaaGreatMqk
import Derived.Calls
import Derived.Orders
import Derived.Tactics
import Derived.Laws.AppendOwn
import Derived.Laws.Slices
import Derived.Laws.Closers25
import Derived.Laws.StructEq
import Derived.Laws.BytesString
import Derived.Laws.CopyRow
import Derived.MapKept
import Derived.Maps.RangeRun
import Derived.TacticsIn
import Derived.OrdersIn
import Derived.RangeFuncRecord
import Derived.RangeFuncLeaves
import Derived.IntWalk
import Derived.ProofKit
import Derived.OpenShut
import Derived.Carry
import Derived.Test.YtinnaedmdoengaaGreatProg
import Derived.KernelRfl

namespace Go.Proofs.YtinnaedmdoengaaGreat
open Go.Abs
set_option linter.unusedSimpArgs false
def news : List (FuncId × Nat) := [(102, 1), (54, 1), (10, 2), (18, 2), (14, 1), (51, 1), (24, 2), (25, 5)]
theorem follows : Tryz.prog.follows .mixedOrders = true := by kernel_rfl
structure AV where
 kind : Int
 n : Int
 s : List UInt8
 deriving DecidableEq, Inhabited
def qx (v : AV) : List D := [.int .i64 v.kind, .int .i64 v.n, .str v.s]
theorem v7 (v : AV) : D.noPtrL (qx v) = true := rfl
def encI (n : Int) : List D := [.int .i64 n]
theorem qat (n : Int) : D.noPtrL (encI n) = true := rfl
structure Pk where
 kind : Int
 sess : Int
 epoch : Int
 from_ : Int
 to : Int
 seq : Int
 label : Int
 values : List AV
 clock : List Int
 deriving DecidableEq, Inhabited
def qe (p : Pk) : List D := [.int .i64 p.kind, .int .i64 p.sess, .int .i64 p.epoch, .int .i64 p.from_, .int .i64 p.to, .int .i64 p.seq, .int .i64 p.label, .sl 3 (p.values.map qx), .sl 1 (p.clock.map encI)]
theorem qgk (p : Pk) : D.noPtrL (qe p) = true := by
 simp only [qe, D.noPtrL, D.noPtr, xz v7, xz qat, Bool.and_self]
theorem q4t (l : List AV) : D.noPtrR (l.map qx) = true := xz v7 l
theorem q9a (l : List Int) : D.noPtrR (l.map encI) = true := xz qat l
theorem q4u (l : List Pk) : D.noPtrR (l.map qe) = true := xz qgk l
attribute [go_sem] v7 qat qgk q4t q9a q4u
noncomputable section
set_option maxRecDepth 100000
set_option linter.defProp false
def d203 := cut Tryz.prog Tryz.f203 news
@[go_sem] def E203 := ql d203
def F203 := fnC d203 follows Tryz.func203
def d199 := cut Tryz.prog Tryz.f199 news
@[go_sem] def E199 := ql d199
def F199 := fnC d199 follows Tryz.func199
def d196 := cut Tryz.prog Tryz.f196 news
@[go_sem] def E196 := ql d196
def F196 := fnC d196 follows Tryz.func196
def d202 := cut Tryz.prog Tryz.f202 news
@[go_sem] def E202 := ql d202
def F202 := fnC d202 follows Tryz.func202
def d164 := cut Tryz.prog Tryz.f164 news
@[go_sem] def E164 := ql d164
def F164 := fnC d164 follows Tryz.func164
def d165 := cut Tryz.prog Tryz.f165 news
@[go_sem] def E165 := ql d165
def F165 := fnC d165 follows Tryz.func165
def d198 := cut Tryz.prog Tryz.f198 news
@[go_sem] def E198 := ql d198
def F198 := fnC d198 follows Tryz.func198
def d201 := cut Tryz.prog Tryz.f201 news
@[go_sem] def E201 := ql d201
def F201 := fnC d201 follows Tryz.func201
end
def role (n : Int) : Bool := decide (n ≥ 0) && decide (n < 6)
theorem qxi (n : Int) : qg Tryz.prog 203 [.d (.int .i64 n)] [] (.d (.bool (role n))) [] := by
 first | refine F203.go ?_ | refine F203.goT ?_
 (refine ev ?_; try exact True.intro)
 rfl
def yj (v : AV) : Bool := if v.kind == 1 then v.s == [] else if v.kind == 2 then v.n == 0 && decide ((v.s.length : Int) ≤ 40) else false
theorem q4v (v : AV) : qg Tryz.prog 199 [.d (.agg (qx v))] [] (.d (.bool (yj v))) [] := by
 first | refine F199.go ?_ | refine F199.goT ?_
 (refine ev1 @qx.eq_1 ?_; try exact True.intro)
 refine qs _ rfl rfl (fun h => ?_) (fun h => ?_)
 ·(refine ev2 @yj.eq_1 @h ?_; try exact True.intro)
 ·(refine ev ?_; try exact True.intro)
  refine qs _ rfl rfl (fun h2 => ?_) (fun h2 => ?_)
  ·(refine ev3 @yj.eq_1 @h @h2 ?_; try exact True.intro)
  ·(refine ev3 @yj.eq_1 @h @h2 ?_; try exact True.intro)
def qdy (p : Pk) : Bool := role p.from_ && role p.to && p.from_ != p.to && decide (p.seq ≥ 1) && decide (p.seq ≤ 1099511627776)
theorem qmj (p : Pk) : qg Tryz.prog 196 [.d (.agg (qe p))] [] (.d (.bool (qdy p))) [] := by
 first | refine F196.go ?_ | refine F196.goT ?_
 (refine ev1 @qe.eq_1 ?_; try exact True.intro)
 refine xr (qxi _) F203.body (fun h => h) (fun _ => ⟨qc, trivial⟩) rfl rfl rfl ?_
 (refine ev ?_; try exact True.intro)
 refine xr (qxi _) F203.body (fun h => h) (fun _ => ⟨qc, trivial⟩) rfl rfl rfl ?_
 (refine ev ?_; try exact True.intro)
 rfl
def bare (p : Pk) : Bool := p.epoch == 0 && (p.values.length : Int) == 0 && (p.clock.length : Int) == 0
theorem q4w (p : Pk) : qg Tryz.prog 202 [.d (.agg (qe p))] [] (.d (.bool (bare p))) [] := by
 first | refine F202.go ?_ | refine F202.goT ?_
 (refine ev1 @qe.eq_1 ?_; try exact True.intro)
 rfl
theorem qcr (p : Pk) : ([ASlot.d (.agg (qe p))].all ASlot.noPtr) = true := by
 simp only [List.all_cons, List.all_nil, ASlot.noPtr, D.noPtr, qgk, Bool.and_self]
def ack (p : Pk) : Bool := qdy p && bare p && p.label == 0
theorem xe2 (p : Pk) : qg Tryz.prog 164 [.d (.agg (qe p))] [] (.d (.bool (ack p))) [] := by
 first | refine F164.go ?_ | refine F164.goT ?_
 (refine ev1 @qe.eq_1 ?_; try exact True.intro)
 refine xr (qmj p) F196.body (fun h => h) (fun _ => ⟨qc, trivial⟩) (qcr p) rfl rfl ?_
 (refine ev ?_; try exact True.intro)
 refine xr (q4w p) F202.body (fun h => h) (fun _ => ⟨qc, trivial⟩) (qcr p) rfl rfl ?_
 (refine ev ?_; try exact True.intro)
 rfl
def order (p : Pk) : Bool := role p.from_ && (p.label == 1 || p.label == 2) && bare p && p.to == 0 && p.seq == 0
theorem qy7 (p : Pk) : qg Tryz.prog 165 [.d (.agg (qe p))] [] (.d (.bool (order p))) [] := by
 first | refine F165.go ?_ | refine F165.goT ?_
 (refine ev1 @qe.eq_1 ?_; try exact True.intro)
 refine xr (qxi _) F203.body (fun h => h) (fun _ => ⟨qc, trivial⟩) rfl rfl rfl ?_
 (refine ev ?_; try exact True.intro)
 refine ⟨by simp_all, ?_⟩
 refine xr (q4w p) F202.body (fun h => h) (fun _ => ⟨qc, trivial⟩) (qcr p) rfl rfl ?_
 (refine ev ?_; try exact True.intro)
 rfl
theorem q9b (v : AV) : qg Tryz.prog 198 [.d (.agg (qx v))] [] (.d (.bool (!yj v))) [] := by
 first | refine F198.go ?_ | refine F198.goT ?_
 (refine ev1 @qx.eq_1 ?_; try exact True.intro)
 refine xr (q4v v) F199.body (fun h => h) (fun _ => ⟨qc, trivial⟩) rfl rfl rfl ?_
 (refine ev ?_; try exact True.intro)
theorem q9c (n : Int) : qg Tryz.prog 201 [.d (.int .i64 n)] [] (.d (.bool (decide (n < 0) || decide (n > 1099511627776)))) [] := by
 first | refine F201.go ?_ | refine F201.goT ?_
 (refine ev ?_; try exact True.intro)
 intro h
 rw [h]; rfl
end Go.Proofs.YtinnaedmdoengaaGreat
namespace Go.Proofs.YtinnaedmdoengaaGreat
open Go.Abs
set_option linter.unusedSimpArgs false
theorem jo (s : List UInt8) : D.noPtrR (qd s) = true := xz (fun _ => rfl) s
theorem qt (s t : List UInt8) : qd s ++ qd t = qd (s ++ t) := by simp [qd]
theorem yu (c : UInt8) : [[D.int .u8 (c.toNat : Int)]] = qd [c] := rfl
theorem zu (s : List UInt8) : (qd s).length = s.length := by simp [qd]
theorem qm : qd [] = [] := rfl
attribute [go_sem] jo zu
attribute [go_sem] qm
def qbj (u : Nat) : List UInt8 := if u < 128 then [UInt8.ofNat u] else UInt8.ofNat (u % 128 + 128) :: qbj (u / 128)
def zz (n : Int) : Nat := if 0 ≤ n then (2 * n).toNat else (-2 * n - 1).toNat
def wInt (n : Int) : List UInt8 := qbj (zz n)
def I64 (n : Int) : Prop := -9223372036854775808 ≤ n ∧ n ≤ 9223372036854775807
theorem qi0 : ∀ (k u : Nat), u < 128 ^ (k + 1) → (qbj u).length ≤ k + 1
 | 0, u, h => by rw [qbj, if_pos (by simpa using h)]; simp
 | k + 1, u, h => by
  rw [qbj]
  split
  ·simp
  ·have := qi0 k (u / 128) (by rw [Nat.div_lt_iff_lt_mul (by decide)]; rw [Nat.pow_succ] at h; exact h)
   simp; omega
theorem q9d {n : Int} (h : I64 n) : zz n < 18446744073709551616 := by
 obtain ⟨h1, h2⟩ := h
 unfold zz; split <;> omega
theorem xj {n : Int} (h : I64 n) : (wInt n).length ≤ 10 := qi0 9 _ (Nat.lt_of_lt_of_le (q9d h) (by decide))
theorem qk1 (n : Int) : 0 < (wInt n).length := by unfold wInt; rw [qbj]; split <;> simp
theorem qew (n : Int) : IntKind.u8.wrap n = n % 256 := by simp [IntKind.wrap, IntKind.bits, IntKind.signed]
theorem qf8 (a : Nat) (h : a < 2 ^ 64) : ((BitVec.ofInt 64 (a : Int)) ^^^ (BitVec.ofInt 64 18446744073709551615)).toNat = 18446744073709551615 - a := by
 have e1 : BitVec.ofInt 64 18446744073709551615 = BitVec.allOnes 64 := by decide
 have e2 : BitVec.ofInt 64 (a : Int) = BitVec.ofNat 64 a := by simp
 rw [e1, e2, BitVec.xor_allOnes, BitVec.toNat_not, BitVec.toNat_ofNat, Nat.mod_eq_of_lt h]
theorem xgn {n : Int} (h : I64 n) : IntKind.u64.wrap (qsd 64 (IntKind.u64.wrap (IntKind.u64.wrap n * 2 ^ min 1 64)) (IntKind.u64.wrap (n.fdiv (2 ^ min 63 64)))) = (zz n : Int) := by
 unfold qsd
 obtain ⟨h1, h2⟩ := h
 have hf : n.fdiv (2 ^ min 63 64) = if 0 ≤ n then 0 else -1 := by
  show n.fdiv 9223372036854775808 = _
  rw [Int.fdiv_eq_ediv_of_nonneg _ (by decide)]
  split <;> omega
 have hw : ∀ m : Int, IntKind.u64.wrap m = m % 18446744073709551616 := fun m => by simp [IntKind.wrap, IntKind.bits, IntKind.signed]
 have hz := q9d ⟨h1, h2⟩
 have hp : (2 : Int) ^ min 1 64 = 2 := rfl
 rw [hf, hp]
 by_cases hn : 0 ≤ n
 ·rw [if_pos hn]
  have e0 : BitVec.ofInt 64 (IntKind.u64.wrap 0) = 0#64 := by rw [hw]; rfl
  have e1 : IntKind.u64.wrap (IntKind.u64.wrap n * 2) = ((zz n : Nat) : Int) := by rw [hw, hw]; unfold zz; rw [if_pos hn]; omega
  rw [e0, e1, BitVec.xor_zero, BitVec.ofInt_natCast, BitVec.toNat_ofNat, Nat.mod_eq_of_lt hz, hw]
  omega
 ·rw [if_neg hn]
  have e0 : IntKind.u64.wrap (-1) = 18446744073709551615 := by rw [hw]; rfl
  have e1 : IntKind.u64.wrap (IntKind.u64.wrap n * 2) = ((18446744073709551615 - zz n : Nat) : Int) := by rw [hw, hw]; unfold zz at hz ⊢; rw [if_neg hn] at hz ⊢; omega
  rw [e0, e1, qf8 _ (by show _ < 18446744073709551616; omega), hw]
  unfold zz at hz ⊢; rw [if_neg hn] at hz ⊢; omega
theorem q9e (u : Nat) : (IntKind.u8.wrap (bvOr 8 (IntKind.u8.wrap (u : Int)) 128)) = ((UInt8.ofNat (u % 128 + 128)).toNat : Int) := by
 unfold bvOr
 have hw : ∀ m : Int, IntKind.u8.wrap m = m % 256 := fun m => by simp [IntKind.wrap, IntKind.bits, IntKind.signed]
 have e1 : BitVec.ofInt 8 (IntKind.u8.wrap (u : Int)) = BitVec.ofNat 8 (u % 256) := by rw [hw, show ((u : Int) % 256) = ((u % 256 : Nat) : Int) by omega, BitVec.ofInt_natCast]
 have key : ∀ x : Fin 256, (BitVec.ofNat 8 x.val ||| BitVec.ofInt 8 128).toNat = x.val % 128 + 128 := by decide +kernel
 have := key ⟨u % 256, Nat.mod_lt _ (by decide)⟩
 simp only at this
 rw [e1, this, hw]
 simp only [UInt8.toNat_ofNat']
 omega
theorem qca {u : Nat} (h : ¬ u < 128) : qbj u = UInt8.ofNat (u % 128 + 128) :: qbj (u / 128) := by rw [qbj, if_neg h]
theorem qau {u : Nat} (h : u < 128) : qbj u = [UInt8.ofNat u] := by rw [qbj, if_pos h]
theorem xhe (u : Nat) : (u : Int).fdiv (2 ^ min 7 64) = ((u / 128 : Nat) : Int) := by
 show (u : Int).fdiv 128 = _
 rw [Int.fdiv_eq_ediv_of_nonneg _ (by decide)]; omega
theorem qqy (u : Nat) : IntKind.u8.wrap (u : Int) = ((UInt8.ofNat u).toNat : Int) := by
 rw [qew _, UInt8.toNat_ofNat']; omega
noncomputable section
set_option maxRecDepth 100000
set_option linter.defProp false
def d91 := cut Tryz.prog Tryz.f91 news
@[go_sem] def E91 := ql d91
def F91 := fnC d91 follows Tryz.func91
def d98 := cut Tryz.prog Tryz.f98 news
@[go_sem] def E98 := ql d98
def F98 := fnC d98 follows Tryz.func98
def d99 := cut Tryz.prog Tryz.f99 news
@[go_sem] def E99 := ql d99
def F99 := fnC d99 follows Tryz.func99
def d97 := cut Tryz.prog Tryz.f97 news
@[go_sem] def E97 := ql d97
def F97 := fnC d97 follows Tryz.func97
end
def q9f (b : List UInt8) (n : Int) (i : { i : List UInt8 × Nat // i.1 ++ qbj i.2 = b ++ wInt n }) : St :=
 ⟨[(0, true, .own 0 1 (qd i.val.1)), (5, true, .d (.int .u64 (i.val.2 : Nat)))], [], [0], 1⟩
theorem kg (b : List UInt8) (n : Int) (hb : b.length ≤ 1000000000) (hn : I64 n) : qg Tryz.prog 91 [.own 0 1 (qd b), .d (.int .i64 n)] [] (.own 0 1 (qd (b ++ wInt n))) [] := by
 refine F91.go ?_
 try (refine ev1 (xgn hn) ?_; try exact True.intro)
 refine qj (q9f b n) (fun i => i.val.2) ⟨(b, zz n), rfl⟩ ?_ (fun i => ?_)
 ·try (refine ev1 @q9f.eq_1 ?_; try exact True.intro)
 obtain ⟨⟨p, u⟩, hi⟩ := i
 have hl : p.length ≤ 1000000010 := by
  have := congrArg List.length hi
  have := xj hn
  simp at *; omega
 try (refine ev1 @q9f.eq_1 ?_; try exact True.intro)
 (repeat (with_reducible refine ob ?_)); refine xt _ (fun h => ?_) (fun h => ?_)
 ·have hu : ¬ u < 128 := by simp at h; omega
  try (refine ev4 @q9e @yu @qt @xhe ?_; try exact True.intro)
  (repeat (with_reducible refine ob ?_))
  refine ⟨⟨(p ++ [UInt8.ofNat (u % 128 + 128)], u / 128), ?_⟩, ?_, ?_⟩
  ·simp only at hi ⊢; rw [qca hu] at hi; rw [← hi]; simp
  ·try (refine ev1 @q9f.eq_1 ?_; try exact True.intro)
  ·simp only; omega
 ·have hu : u < 128 := by simp at h; omega
  try (refine ev3 @qqy @yu @qt ?_; try exact True.intro)
  (repeat (with_reducible refine ob ?_))
  simp only [qau hu] at hi
  try (refine ev1 @hi ?_; try exact True.intro)
theorem qmk (b : List UInt8) (v : Bool) (hb : b.length ≤ 1000000000) : qg Tryz.prog 98 [.own 0 1 (qd b), .d (.bool v)] [] (.own 0 1 (qd (b ++ [if v then 1 else 0]))) [] := by
 refine F98.go ?_
 try (refine ev ?_; try exact True.intro)
 have e1 : [[D.int .u8 1]] = qd [1] := rfl
 have e0 : [[D.int .u8 0]] = qd [0] := rfl
 cases v with
 | true =>
  try (refine ev ?_; try exact True.intro)
  (repeat (with_reducible refine ob ?_)); refine qb9 ?_
  try simp only [e1, qt, if_true, go_sem, Nat.reduceAdd, Nat.reduceMul, Nat.reduceSub, Nat.reduceEqDiff, Nat.reduceLT, Nat.reduceLeDiff, Nat.reduceBEq, reduceIte, reduceCtorEq, Int.reduceAdd, Int.reduceLT, Int.reduceLE, Int.reduceGT, Int.reduceGE, Int.reduceEq, Int.reduceNe, Int.reduceBEq, Int.reduceBNe, Int.reduceToNat, Int.reduceNeg]
  omega
 | false =>
  try (refine ev ?_; try exact True.intro)
  (repeat (with_reducible refine ob ?_)); refine no_ ?_
  try (refine ev2 @e0 @qt ?_; try exact True.intro)
  omega
def yh (s : List UInt8) : List UInt8 := wInt s.length ++ s
theorem xp {n : Nat} (h : n ≤ 9000000000000000000) : I64 n := by unfold I64; omega
theorem qgl (b s : List UInt8) (hb : b.length + s.length ≤ 900000000) : qg Tryz.prog 99 [.own 0 1 (qd b), .d (.str s)] [] (.own 0 1 (qd (b ++ yh s))) [] := by
 refine F99.go ?_
 try (refine ev ?_; try exact True.intro)
 refine clA F91 (kg b s.length (by omega) (xp (by omega))) ?_
 try (refine ev ?_; try exact True.intro)
 have hl := xj (xp (n := s.length) (by omega))
 have e : qd (b ++ wInt s.length) ++ qd s = qd (b ++ yh s) := by rw [qt, yh, List.append_assoc]
 try (refine ev2 @e @List.length_append.{0} ?_; try exact True.intro)
 refine ⟨by omega, by omega⟩
theorem qj5 (b s : List UInt8) (hb : b.length + s.length ≤ 900000000) : qg Tryz.prog 97 [.own 0 1 (qd b), .d (.sl 1 (qd s))] [] (.own 0 1 (qd (b ++ yh s))) [] := by
 refine F97.go ?_
 try (refine ev ?_; try exact True.intro)
 refine clA F91 (kg b s.length (by omega) (xp (by omega))) ?_
 try (refine ev ?_; try exact True.intro)
 have hl := xj (xp (n := s.length) (by omega))
 have e : qd (b ++ wInt s.length) ++ qd s = qd (b ++ yh s) := by rw [qt, yh, List.append_assoc]
 try (refine ev2 @e @List.length_append.{0} ?_; try exact True.intro)
 refine ⟨by omega, by omega⟩
end Go.Proofs.YtinnaedmdoengaaGreat
namespace Go.Proofs.YtinnaedmdoengaaGreat
open Go.Abs
set_option linter.unusedSimpArgs false
def idx {α : Type} (f : α → Bool) (l : List α) : Int := if l.any f then (l.findIdx f : Int) else -1
theorem qhp {α : Type} {f : α → Bool} {l : List α} {i : Nat} (h : (l.take i).any f = false) (hi : l.length ≤ i) : idx f l = -1 := by
 rw [List.take_of_length_le hi] at h
 simp [idx, h]
theorem qhq {α : Type} {f : α → Bool} {l : List α} {i : Nat} (h : (l.take i).any f = false) (hi : i < l.length) (hf : f l[i] = true) : idx f l = (i : Int) := by
 have ha : l.any f = true := List.any_eq_true.2 ⟨l[i], List.getElem_mem hi, hf⟩
 have hx : l.findIdx f = i := by
  rw [List.findIdx_eq hi]
  refine ⟨hf, fun j hj => ?_⟩
  rw [List.any_eq_false] at h
  have hj' : j < (l.take i).length := by simp; omega
  have := h (l.take i)[j] (List.getElem_mem hj')
  simpa using this
 simp [idx, ha, hx]
theorem qad {α : Type} {f : α → Bool} {l : List α} {i : Nat} (h : (l.take i).any f = false) (hi : i < l.length) (hf : f l[i] = false) : (l.take (i + 1)).any f = false := by
 rw [List.take_succ_eq_append_getElem hi, List.any_append, h]
 simp [hf]
theorem qt2 {α : Type} (f : α → Bool) (l : List α) : decide (idx f l ≥ 0) = l.any f := by
 unfold idx
 cases l.any f <;> simp
noncomputable section
set_option maxRecDepth 100000
set_option linter.defProp false
def d211 := cut Tryz.prog Tryz.f211 news
@[go_sem] def E211 := ql d211
def F211 := fnC d211 follows Tryz.func211
def d212 := cut Tryz.prog Tryz.f212 news
@[go_sem] def E212 := ql d212
def F212 := fnC d212 follows Tryz.func212
def d197 := cut Tryz.prog Tryz.f197 news
@[go_sem] def E197 := ql d197
def F197 := fnC d197 follows Tryz.func197
def d200 := cut Tryz.prog Tryz.f200 news
@[go_sem] def E200 := ql d200
def F200 := fnC d200 follows Tryz.func200
end
def Sidx {α : Type} (es : Nat) (enc : α → List D) (k : FuncId) (l : List α) (f : α → Bool) (i : { i : Nat // (l.take i).any f = false }) : St :=
 ⟨[(0, true, .d (.sl es (l.map enc))), (1, true, .d (.func (.func k) [] [])), (6, true, .d (.sl es (l.map enc))), (7, true, .d (.int .i64 l.length)), (8, true, .d (.int .i64 (i.val : Nat)))], [], [], 1⟩
theorem q4x {k : FuncId} {f : AV → Bool} (hb : (Tryz.prog.funcs[k]?).any (fun fn => fn.body.isSome && !(fn.name == "runtime.NumGoroutine")) = true)
  (hf : ∀ v, qg Tryz.prog k [.d (.agg (qx v))] [] (.d (.bool (f v))) []) (l : List AV) (hl : l.length ≤ maxLen) :
  qg Tryz.prog 211 [.d (.sl 3 (l.map qx)), .d (.func (.func k) [] [])] [] (.d (.int .i64 (idx f l))) [] := by
 first | refine F211.go ?_ | refine F211.goT ?_
 (refine ev ?_; try exact True.intro)
 refine qj (Sidx 3 qx k l f) (fun i => l.length - i.val) ⟨0, rfl⟩ ?_ (fun i => ?_)
 ·(refine ev2 @Sidx.eq_1 (xz v7) ?_; try exact True.intro)
 ·obtain ⟨i, hi⟩ := i
  (refine ev1 @Sidx.eq_1 ?_; try exact True.intro)
  refine qs _ rfl rfl (fun h => ?_) (fun h => ?_)
  ·have hil : i < l.length := by simpa using h
   (refine ev2 (qq qx l hil) @qx.eq_1 ?_; try exact True.intro)
   refine ⟨by omega, ?_⟩
   refine xr (hf l[i]) hb (fun h => h) (fun _ => ⟨qc, trivial⟩) rfl rfl rfl ?_
   (refine ev ?_; try exact True.intro)
   refine qs _ rfl rfl (fun h2 => ?_) (fun h2 => ?_)
   ·(refine ev1 (qhq hi hil h2) ?_; try exact True.intro)
   ·(refine ev ?_; try exact True.intro)
    refine ⟨⟨i + 1, qad hi hil h2⟩, ?_, by dsimp only; omega⟩
    (refine ev3 @Sidx.eq_1 (qi (show i < 9223372036854775807 by unfold maxLen at hl; omega)) (xz v7) ?_; try exact True.intro)
  ·have hil : l.length ≤ i := by simpa using h
   (refine ev1 (qhp hi hil) ?_; try exact True.intro)
theorem q4y {k : FuncId} {f : Int → Bool} (hb : (Tryz.prog.funcs[k]?).any (fun fn => fn.body.isSome && !(fn.name == "runtime.NumGoroutine")) = true)
  (hf : ∀ v, qg Tryz.prog k [.d (.int .i64 v)] [] (.d (.bool (f v))) []) (l : List Int) (hl : l.length ≤ maxLen) :
  qg Tryz.prog 212 [.d (.sl 1 (l.map encI)), .d (.func (.func k) [] [])] [] (.d (.int .i64 (idx f l))) [] := by
 first | refine F212.go ?_ | refine F212.goT ?_
 (refine ev ?_; try exact True.intro)
 refine qj (Sidx 1 encI k l f) (fun i => l.length - i.val) ⟨0, rfl⟩ ?_ (fun i => ?_)
 ·(refine ev2 @Sidx.eq_1 (xz qat) ?_; try exact True.intro)
 ·obtain ⟨i, hi⟩ := i
  (refine ev1 @Sidx.eq_1 ?_; try exact True.intro)
  refine qs _ rfl rfl (fun h => ?_) (fun h => ?_)
  ·have hil : i < l.length := by simpa using h
   (refine ev2 (qq encI l hil) @encI.eq_1 ?_; try exact True.intro)
   refine ⟨by omega, ?_⟩
   refine xr (hf l[i]) hb (fun h => h) (fun _ => ⟨qc, trivial⟩) rfl rfl rfl ?_
   (refine ev ?_; try exact True.intro)
   refine qs _ rfl rfl (fun h2 => ?_) (fun h2 => ?_)
   ·(refine ev1 (qhq hi hil h2) ?_; try exact True.intro)
   ·(refine ev ?_; try exact True.intro)
    refine ⟨⟨i + 1, qad hi hil h2⟩, ?_, by dsimp only; omega⟩
    (refine ev3 @Sidx.eq_1 (qi (show i < 9223372036854775807 by unfold maxLen at hl; omega)) (xz qat) ?_; try exact True.intro)
  ·have hil : l.length ≤ i := by simpa using h
   (refine ev1 (qhp hi hil) ?_; try exact True.intro)
theorem qt3 {k : FuncId} {f : AV → Bool} (hb : (Tryz.prog.funcs[k]?).any (fun fn => fn.body.isSome && !(fn.name == "runtime.NumGoroutine")) = true)
  (hf : ∀ v, qg Tryz.prog k [.d (.agg (qx v))] [] (.d (.bool (f v))) []) (l : List AV) (hl : l.length ≤ maxLen) :
  qg Tryz.prog 197 [.d (.sl 3 (l.map qx)), .d (.func (.func k) [] [])] [] (.d (.bool (l.any f))) [] := by
 first | refine F197.go ?_ | refine F197.goT ?_
 (refine ev ?_; try exact True.intro)
 refine xr (q4x hb hf l hl) F211.body (fun h => h) (fun _ => ⟨qc, qc, trivial⟩) (by simp [ASlot.noPtr, D.noPtr, D.noPtrL, xz v7]) rfl rfl ?_
 (refine ev1 @qt2 ?_; try exact True.intro)
theorem qt4 {k : FuncId} {f : Int → Bool} (hb : (Tryz.prog.funcs[k]?).any (fun fn => fn.body.isSome && !(fn.name == "runtime.NumGoroutine")) = true)
  (hf : ∀ v, qg Tryz.prog k [.d (.int .i64 v)] [] (.d (.bool (f v))) []) (l : List Int) (hl : l.length ≤ maxLen) :
  qg Tryz.prog 200 [.d (.sl 1 (l.map encI)), .d (.func (.func k) [] [])] [] (.d (.bool (l.any f))) [] := by
 first | refine F200.go ?_ | refine F200.goT ?_
 (refine ev ?_; try exact True.intro)
 refine xr (q4y hb hf l hl) F212.body (fun h => h) (fun _ => ⟨qc, qc, trivial⟩) (by simp [ASlot.noPtr, D.noPtr, D.noPtrL, xz qat]) rfl rfl ?_
 (refine ev1 @qt2 ?_; try exact True.intro)
noncomputable section
set_option maxRecDepth 100000
set_option linter.defProp false
def d163 := cut Tryz.prog Tryz.f163 news
@[go_sem] def E163 := ql d163
def F163 := fnC d163 follows Tryz.func163
def d110 := cut Tryz.prog Tryz.f110 news
@[go_sem] def E110 := ql d110
def F110 := fnC d110 follows Tryz.func110
end
def data (p : Pk) : Bool := qdy p && (p.epoch == 0 || p.epoch == 1) && decide (p.label ≥ 0) && decide (p.label < 40) && decide ((p.values.length : Int) ≤ 4) && decide ((p.clock.length : Int) ≤ 6) && !(p.values.any fun v => !yj v) && !(p.clock.any fun n => decide (n < 0) || decide (n > 1099511627776))
theorem xde (p : Pk) (h1 : p.values.length ≤ maxLen) (h2 : p.clock.length ≤ maxLen) : qg Tryz.prog 163 [.d (.agg (qe p))] [] (.d (.bool (data p))) [] := by
 first | refine F163.go ?_ | refine F163.goT ?_
 (refine ev1 @qe.eq_1 ?_; try exact True.intro)
 refine xr (qmj p) F196.body (fun h => h) (fun _ => ⟨qc, trivial⟩) (qcr p) rfl rfl ?_
 (refine ev ?_; try exact True.intro)
 refine ⟨by simp_all, ?_⟩
 refine xr (qt3 F198.body q9b p.values h1) F197.body (fun h => h) (fun _ => ⟨qc, qc, trivial⟩) (by simp [ASlot.noPtr, D.noPtr, D.noPtrL, xz v7]) rfl rfl ?_
 (refine ev ?_; try exact True.intro)
 refine xr (qt4 F201.body q9c p.clock h2) F200.body (fun h => h) (fun _ => ⟨qc, qc, trivial⟩) (by simp [ASlot.noPtr, D.noPtr, D.noPtrL, xz qat]) rfl rfl ?_
 (refine ev ?_; try exact True.intro)
 rfl
def qml (p : Pk) : Bool := decide (p.kind ≥ 1) && decide (p.kind ≤ 4) && decide (p.sess ≥ 1) && decide (p.sess ≤ 32)
def xe (p : Pk) : Bool := qml p && (if p.kind = 1 then data p else if p.kind = 2 then ack p else order p)
theorem yk (p : Pk) (h1 : p.values.length ≤ maxLen) (h2 : p.clock.length ≤ maxLen) : qg Tryz.prog 110 [.d (.agg (qe p))] [] (.d (.bool (xe p))) [] := by
 first | refine F110.go ?_ | refine F110.goT ?_
 (refine ev1 @qe.eq_1 ?_; try exact True.intro)
 have hk : (decide (p.kind ≥ 1) && decide (p.kind ≤ 4) && decide (p.sess ≥ 1) && decide (p.sess ≤ 32)) = qml p := rfl
 simp only [hk]
 cases hG : qml p with
 | false =>
  (refine ev ?_; try exact True.intro)
  refine qac (.bool false) rfl ?_
  (refine ev2 @xe.eq_1 @hG ?_; try exact True.intro)
 | true =>
  have h4 : p.kind = 1 ∨ p.kind = 2 ∨ p.kind = 3 ∨ p.kind = 4 := by simp [qml] at hG; omega
  rcases h4 with hp | hp | hp | hp <;> simp only [hp, Int.reduceToNat, Int.reduceLE, Int.reduceLT, go_sem, Nat.reduceAdd, Nat.reduceMul, Nat.reduceSub, Nat.reduceEqDiff, Nat.reduceLT, Nat.reduceLeDiff, Nat.reduceBEq, reduceIte, reduceCtorEq, Int.reduceAdd, Int.reduceLT, Int.reduceLE, Int.reduceGT, Int.reduceGE, Int.reduceEq, Int.reduceNe, Int.reduceBEq, Int.reduceBNe, Int.reduceToNat, Int.reduceNeg]
  ·refine xr (xde p h1 h2) F163.body (fun h => h) (fun _ => ⟨by simp [qab, ASlot.eqvD, D.eqv_refl, qe, hp], trivial⟩) (qcr p) rfl rfl ?_
   (refine ev3 @xe.eq_1 @hG @hp ?_; try exact True.intro)
  ·refine xr (xe2 p) F164.body (fun h => h) (fun _ => ⟨by simp [qab, ASlot.eqvD, D.eqv_refl, qe, hp], trivial⟩) (qcr p) rfl rfl ?_
   (refine ev3 @xe.eq_1 @hG @hp ?_; try exact True.intro)
  ·refine xr (qy7 p) F165.body (fun h => h) (fun _ => ⟨by simp [qab, ASlot.eqvD, D.eqv_refl, qe, hp], trivial⟩) (qcr p) rfl rfl ?_
   (refine ev3 @xe.eq_1 @hG @hp ?_; try exact True.intro)
  ·refine xr (qy7 p) F165.body (fun h => h) (fun _ => ⟨by simp [qab, ASlot.eqvD, D.eqv_refl, qe, hp], trivial⟩) (qcr p) rfl rfl ?_
   (refine ev3 @xe.eq_1 @hG @hp ?_; try exact True.intro)
end Go.Proofs.YtinnaedmdoengaaGreat
namespace Go.Proofs.YtinnaedmdoengaaGreat
open Go.Abs
set_option linter.unusedSimpArgs false
structure OpS where
 key : List UInt8
 del : Bool
 val : List UInt8
 deriving DecidableEq, Inhabited
def qh (o : OpS) : List D := [.str o.key, .bool o.del, .sl 1 (qd o.val)]
theorem qgm (o : OpS) : D.noPtrL (qh o) = true := by simp only [qh, D.noPtrL, D.noPtr, jo, Bool.and_self]
theorem qae (l : List OpS) : D.noPtrR (l.map qh) = true := xz qgm l
attribute [go_sem] qgm qae
noncomputable section
set_option maxRecDepth 100000
set_option linter.defProp false
def d96 := cut Tryz.prog Tryz.f96 news
@[go_sem] def E96 := ql d96
def F96 := fnC d96 follows Tryz.func96
def d95 := cut Tryz.prog Tryz.f95 news
@[go_sem] def E95 := ql d95
def F95 := fnC d95 follows Tryz.func95
def d149 := cut Tryz.prog Tryz.f149 news
@[go_sem] def E149 := ql d149
def F149 := fnC d149 follows Tryz.func149
def d94 := cut Tryz.prog Tryz.f94 news
@[go_sem] def E94 := ql d94
def F94 := fnC d94 follows Tryz.func94
def d50 := cut Tryz.prog Tryz.f50 news
@[go_sem] def E50 := ql d50
def F50 := fnC d50 follows Tryz.func50
end
def je (o : OpS) : Bool := decide ((o.key.length : Int) ≥ 1) && decide ((o.key.length : Int) ≤ 40) && decide ((o.val.length : Int) ≤ 900) && !(o.del && decide ((o.val.length : Int) > 0))
theorem qo2 (o : OpS) : qg Tryz.prog 96 [.d (.agg (qh o))] [] (.d (.bool (je o))) [] := by
 refine F96.go ?_
 try (refine ev1 @qh.eq_1 ?_; try exact True.intro)
 simp only [je, and_true]
 intro h
 refine ⟨h, fun h2 => ?_⟩
 rw [h, h2]; rfl
theorem qi1 (o : OpS) : qg Tryz.prog 95 [.d (.agg (qh o))] [] (.d (.bool (!je o))) [] := by
 refine F95.go ?_
 try (refine ev1 @qh.eq_1 ?_; try exact True.intro)
 (repeat (with_reducible refine ob ?_)); first | refine cl F96 (qo2 o) ?_ | refine clF F96 (qo2 o) (fun _ => by (refine ev1 @qh.eq_1 ?_; try exact True.intro)) ?_
 try (refine ev ?_; try exact True.intro)
def q9g (k : FuncId) (l : List OpS) (f : OpS → Bool) (i : { i : Nat // (l.take i).any f = false }) : St :=
 ⟨[(0, true, .d (.sl 3 (l.map qh))), (1, true, .d (.func (.func k) [] [])), (7, true, .d (.int .i64 l.length)), (8, true, .d (.int .i64 (i.val : Nat)))], [], [], 1⟩
theorem qt5 {k : FuncId} {f : OpS → Bool} (hb : (Tryz.prog.funcs[k]?).any (fun fn => fn.body.isSome && !(fn.name == "runtime.NumGoroutine")) = true)
  (hf : ∀ v, qg Tryz.prog k [.d (.agg (qh v))] [] (.d (.bool (f v))) []) (l : List OpS) (hl : l.length ≤ maxLen) :
  qg Tryz.prog 149 [.d (.sl 3 (l.map qh)), .d (.func (.func k) [] [])] [] (.d (.int .i64 (idx f l))) [] := by
 refine F149.go ?_
 try (refine ev ?_; try exact True.intro)
 refine qj (q9g k l f) (fun i => l.length - i.val) ⟨0, rfl⟩ ?_ (fun i => ?_)
 ·try (refine ev1 @q9g.eq_1 ?_; try exact True.intro)
 obtain ⟨i, hi⟩ := i
 try (refine ev1 @q9g.eq_1 ?_; try exact True.intro)
 (repeat (with_reducible refine ob ?_)); refine xt _ (fun h => ?_) (fun h => ?_)
 ·have hil : i < l.length := by simpa using h
  (refine ev2 (qq qh l hil) @qh.eq_1 ?_; try exact True.intro)
  (repeat (with_reducible refine ob ?_))
  refine xr (hf l[i]) hb (fun h => h) (fun _ => ⟨qc, trivial⟩) (by try (refine ev1 @qh.eq_1 ?_; try exact True.intro)) rfl rfl ?_
  try (refine ev ?_; try exact True.intro)
  (repeat (with_reducible refine ob ?_)); refine xt _ (fun h => ?_) (fun h => ?_)
  ·try (refine ev1 (qhq hi hil h) ?_; try exact True.intro)
  ·try (refine ev ?_; try exact True.intro)
   refine ⟨⟨i + 1, qad hi hil (by simpa using h)⟩, ?_, by dsimp only; omega⟩
   try (refine ev2 @q9g.eq_1 (qi (show i < 9223372036854775807 by unfold maxLen at hl; omega)) ?_; try exact True.intro)
 ·have hil : l.length ≤ i := by simpa using h
  try (refine ev1 (qhp hi hil) ?_; try exact True.intro)
theorem qj6 {k : FuncId} {f : OpS → Bool} (hb : (Tryz.prog.funcs[k]?).any (fun fn => fn.body.isSome && !(fn.name == "runtime.NumGoroutine")) = true)
  (hf : ∀ v, qg Tryz.prog k [.d (.agg (qh v))] [] (.d (.bool (f v))) []) (l : List OpS) (hl : l.length ≤ maxLen) :
  qg Tryz.prog 94 [.d (.sl 3 (l.map qh)), .d (.func (.func k) [] [])] [] (.d (.bool (l.any f))) [] := by
 refine F94.go ?_
 try (refine ev ?_; try exact True.intro)
 (repeat (with_reducible refine ob ?_)); first | refine cl F149 (qt5 hb hf l hl) ?_ | refine clF F149 (qt5 hb hf l hl) (fun _ => by (refine ev1 @qh.eq_1 ?_; try exact True.intro)) ?_
 try (refine ev1 @qt2 ?_; try exact True.intro)
def wOp (o : OpS) : List UInt8 := yh o.key ++ [if o.del then 1 else 0] ++ yh o.val
def wOps (l : List OpS) : List UInt8 := wInt l.length ++ l.flatMap wOp
def qo (l : List OpS) : List UInt8 × Int :=
 if l.length = 0 || l.any (fun o => !je o) then ([], 1) else if l.length > 20 || (wOps l).length > 2000 then ([], 6) else (wOps l, 0)
theorem jh {o : OpS} : je o = true ↔ 1 ≤ o.key.length ∧ o.key.length ≤ 40 ∧ o.val.length ≤ 900 ∧ (o.del = true → o.val.length = 0) := by
 unfold je
 cases o.del <;> simp [-List.length_eq_zero_iff] <;> omega
theorem qa3 (s : List UInt8) (h : s.length ≤ 900000000) : (yh s).length ≤ s.length + 10 := by
 have := xj (xp (n := s.length) (by omega))
 simp [yh]; omega
theorem qxj {o : OpS} (h : je o = true) : (wOp o).length ≤ 1000 := by
 obtain ⟨h1, h2, h3, _⟩ := jh.1 h
 have k1 := qa3 o.key (Nat.le_trans h2 (by decide))
 have k2 := qa3 o.val (Nat.le_trans h3 (by decide))
 simp only [wOp, List.length_append, List.length_cons, List.length_nil]; omega
theorem qfj {l : List OpS} (h : ∀ o ∈ l, je o = true) : (l.flatMap wOp).length ≤ l.length * 1000 := by
 induction l with
 | nil => simp
 | cons o l ih =>
  have h1 := qxj (h o List.mem_cons_self)
  have h2 := ih (fun x hx => h x (List.mem_cons_of_mem _ hx))
  simp only [List.flatMap_cons, List.length_append, List.length_cons]
  omega
def Senc (l : List OpS) (i : { i : Nat // i ≤ l.length }) : St :=
 ⟨[(0, true, .d (.sl 3 (l.map qh))), (4, true, .own 0 1 (qd (wInt l.length ++ (l.take i.val).flatMap wOp))), (17, true, .d (.sl 3 (l.map qh))), (18, true, .d (.int .i64 l.length)), (19, true, .d (.int .i64 (i.val : Nat)))], [], [0], 1⟩
theorem qex : (Tryz.prog.funcs[95]?).any (fun fn => fn.body.isSome && !(fn.name == "runtime.NumGoroutine")) = true := F95.body
theorem qaf {α β : Type} (f : α → List β) (l : List α) {i : Nat} (h : i < l.length) : (l.take (i + 1)).flatMap f = (l.take i).flatMap f ++ f l[i] := by
 rw [List.take_succ_eq_append_getElem h, List.flatMap_append, List.flatMap_cons, List.flatMap_nil, List.append_nil]
theorem qfk (l : List OpS) (hl : l.length ≤ 100000) : qg Tryz.prog 50 [.d (.sl 3 (l.map qh))] [] (.tup [.d (.sl 1 (qd (qo l).1)), .d (.int .i64 (qo l).2)]) [] := by
 refine F50.goT ?_
 try (refine ev ?_; try exact True.intro)
 (repeat (with_reducible refine ob ?_)); first | refine cl F94 (qj6 qex qi1 l (by unfold maxLen; omega)) ?_ | refine clF F94 (qj6 qex qi1 l (by unfold maxLen; omega)) (fun _ => by (refine ev1 @qh.eq_1 ?_; try exact True.intro)) ?_
 try (refine ev ?_; try exact True.intro)
 (repeat (with_reducible refine ob ?_))
 (repeat (with_reducible refine ob ?_)); refine xt _ (fun h => ?_) (fun h => ?_)
 ·have hb : qo l = ([], 1) := by
   unfold qo
   rw [if_pos]
   simp only [Bool.or_eq_true, decide_eq_true_eq, beq_iff_eq] at h ⊢
   rcases h with h | h
   ·left; omega
   ·right; exact h
  try (refine ev2 @hb @qm ?_; try exact True.intro)
 have hne : ¬ (decide (l.length = 0) || l.any (fun o => !je o)) = true := by
  simp only [Bool.or_eq_true, decide_eq_true_eq, not_or]
  simp only [Bool.or_eq_false_iff, beq_eq_false_iff_ne] at h
  exact ⟨by omega, by simp [h.2]⟩
 have hpr : ∀ o ∈ l, je o = true := by
  simp only [Bool.or_eq_true, not_or, List.any_eq_true, not_exists, not_and] at hne
  intro o ho
  simpa using hne.2 o ho
 have hwl := qfj hpr
 have hil0 := xj (xp (n := l.length) (by omega))
 try (refine ev ?_; try exact True.intro)
 refine clA F91 (kg [] l.length (by simp) (xp (by omega))) ?_
 try (refine ev ?_; try exact True.intro)
 refine qj (Senc l) (fun i => l.length - i.val) ⟨0, Nat.zero_le _⟩ ?_ (fun i => ?_)
 ·try (refine ev2 @Senc.eq_1 @List.take_zero.{0} ?_; try exact True.intro)
 obtain ⟨i, hi⟩ := i
 try (refine ev1 @Senc.eq_1 ?_; try exact True.intro)
 (repeat (with_reducible refine ob ?_)); refine xt _ (fun h => ?_) (fun h => ?_)
 ·have hil : i < l.length := by simpa using h
  have ho := hpr l[i] (List.getElem_mem hil)
  obtain ⟨p1, p2, p3, _⟩ := jh.1 ho
  have hpre : (wInt l.length ++ (l.take i).flatMap wOp).length ≤ 100000020 := by
   have := qfj (l := l.take i) (fun o h => hpr o (List.mem_of_mem_take h))
   simp only [List.length_append, List.length_take] at this ⊢
   have : min i l.length ≤ 100000 := by omega
   omega
  have k1 := qa3 l[i].key (by omega)
  try (refine ev2 (qq qh l hil) @qh.eq_1 ?_; try exact True.intro)
  (repeat (with_reducible refine ob ?_))
  refine clA F99 (qgl (wInt l.length ++ (l.take i).flatMap wOp) l[i].key (by omega)) ?_
  try (refine ev ?_; try exact True.intro)
  refine clA F98 (qmk ((wInt l.length ++ (l.take i).flatMap wOp) ++ yh l[i].key) l[i].del (by simp only [List.length_append] at hpre ⊢; omega)) ?_
  try (refine ev ?_; try exact True.intro)
  refine clA F97 (qj5 ((wInt l.length ++ (l.take i).flatMap wOp) ++ yh l[i].key ++ [if l[i].del then 1 else 0]) l[i].val (by simp only [List.length_append, List.length_cons, List.length_nil] at hpre ⊢; omega)) ?_
  try (refine ev ?_; try exact True.intro)
  have e : wInt l.length ++ (l.take i).flatMap wOp ++ yh l[i].key ++ [if l[i].del then 1 else 0] ++ yh l[i].val = wInt l.length ++ (l.take (i + 1)).flatMap wOp := by
   rw [qaf wOp l hil, wOp]; simp only [List.append_assoc]
  refine ⟨⟨i + 1, hil⟩, ?_, by dsimp only; omega⟩
  try (refine ev3 @Senc.eq_1 @e (qi (show i < 9223372036854775807 by omega)) ?_; try exact True.intro)
 ·have hie : i = l.length := by simp at h; omega
  subst hie
  try (refine ev1 @List.take_length.{0} ?_; try exact True.intro)
  have hw : wInt l.length ++ l.flatMap wOp = wOps l := rfl
  have hw2 : (wOps l).length = (wInt l.length).length + (l.flatMap wOp).length := by rw [wOps, List.length_append]
  try (refine ev1 @hw ?_; try exact True.intro)
  (repeat (with_reducible refine ob ?_)); refine xt _ (fun h => ?_) (fun h => ?_)
  ·have hb : qo l = ([], 6) := by
    unfold qo
    rw [if_neg hne, if_pos]
    simp only [Bool.or_eq_true, decide_eq_true_eq] at h ⊢
    omega
   try (refine ev2 @hb @qm ?_; try exact True.intro)
  ·have hb : qo l = (wOps l, 0) := by
    unfold qo
    rw [if_neg hne, if_neg]
    simp only [Bool.or_eq_true, Bool.or_eq_false_iff, decide_eq_true_eq, decide_eq_false_iff_not] at h ⊢
    omega
   try (refine ev1 @hb ?_; try exact True.intro)
end Go.Proofs.YtinnaedmdoengaaGreat
namespace Go.Proofs.YtinnaedmdoengaaGreat
open Go.Abs
set_option linter.unusedSimpArgs false
noncomputable section
set_option maxRecDepth 100000
set_option linter.defProp false
def d151 := cut Tryz.prog Tryz.f151 news
@[go_sem] def E151 := ql d151
def F151 := fnC d151 follows Tryz.func151
def d103 := cut Tryz.prog Tryz.f103 news
@[go_sem] def E103 := ql d103
def F103 := fnC d103 follows Tryz.func103
def d101 := cut Tryz.prog Tryz.f101 news
@[go_sem] def E101 := ql d101
def F101 := fnC d101 follows Tryz.func101
end
def fnv1 (h : Nat) (c : UInt8) : Nat := (h ^^^ c.toNat) * 1099511628211 % 18446744073709551616
def fnv (h : Nat) (s : List UInt8) : Nat := s.foldl fnv1 h
theorem qqz (h : Nat) : fnv h [] = h := rfl
theorem qk2 (h : Nat) (s : List UInt8) (c : UInt8) : fnv h (s ++ [c]) = (fnv h s ^^^ c.toNat) * 1099511628211 % 18446744073709551616 := by
 have : fnv h (s ++ [c]) = fnv1 (fnv h s) c := by unfold fnv; rw [List.foldl_append, List.foldl_cons, List.foldl_nil]
 rw [this, fnv1]
theorem qc9 {h : Nat} (hh : h < 18446744073709551616) (s : List UInt8) : fnv h s < 18446744073709551616 := by
 rcases List.eq_nil_or_concat s with rfl | ⟨t, c, rfl⟩
 ·rw [qqz]; exact hh
 ·rw [List.concat_eq_append, qk2]
  generalize (fnv h t ^^^ c.toNat) * 1099511628211 = x
  omega
theorem qgn (n : Int) : IntKind.u64.wrap n = n % 18446744073709551616 := by simp [IntKind.wrap, IntKind.bits, IntKind.signed]
theorem q9h (a b : Nat) (ha : a < 18446744073709551616) (hb : b < 18446744073709551616) : a ^^^ b < 18446744073709551616 := by
 have p : (18446744073709551616 : Nat) = 2 ^ 64 := by decide
 rw [p] at *
 exact Nat.xor_lt_two_pow ha hb
theorem q4z (a b : Nat) (ha : a < 18446744073709551616) (hb : b < 18446744073709551616) : qsd 64 (a : Int) (b : Int) = ((a ^^^ b : Nat) : Int) := by
 unfold qsd
 rw [BitVec.ofInt_natCast, BitVec.ofInt_natCast, BitVec.toNat_xor, BitVec.toNat_ofNat, BitVec.toNat_ofNat, Nat.mod_eq_of_lt ha, Nat.mod_eq_of_lt hb]
theorem f1 (x : Nat) : IntKind.u64.wrap ((x : Int) * 1099511628211) = ((x * 1099511628211 % 18446744073709551616 : Nat) : Int) := by
 rw [qgn]
 simp only [Int.natCast_emod, Int.natCast_mul, Int.cast_ofNat_Int]
theorem f2 (x : Nat) (h : x < 18446744073709551616) : IntKind.u64.wrap (x : Int) = x := by
 rw [qgn]; omega
theorem qq0 (h c : Nat) (hh : h < 18446744073709551616) (hc : c < 256) :
  IntKind.u64.wrap (IntKind.u64.wrap (qsd 64 (h : Int) (IntKind.u64.wrap (c : Int))) * 1099511628211) = (((h ^^^ c) * 1099511628211 % 18446744073709551616 : Nat) : Int) := by
 rw [f2 c (by omega), q4z h c hh (by omega), f2 _ (q9h h c hh (by omega)), f1]
theorem qag (c : UInt8) : c.toNat < 256 := UInt8.toNat_lt c
theorem xn (s : List UInt8) {i : Nat} (h : i < s.length) : (qd s).getD i [] = [.int .u8 (s[i].toNat : Int)] := qq (fun c : UInt8 => [D.int .u8 (c.toNat : Int)]) s h []
def q9i (h : Nat) (s : List UInt8) (i : { i : Nat // i ≤ s.length }) : St :=
 ⟨[(0, true, .d (.int .u64 (fnv h (s.take i.val) : Nat))), (7, true, .d (.sl 1 (qd s))), (8, true, .d (.int .i64 s.length)), (9, true, .d (.int .i64 (i.val : Nat)))], [], [], 1⟩
theorem q40 (h : Nat) (s : List UInt8) (hh : h < 18446744073709551616) (hl : s.length ≤ 1000000000) : qg Tryz.prog 151 [.d (.int .u64 h), .d (.sl 1 (qd s))] [] (.d (.int .u64 (fnv h s : Nat))) [] := by
 refine F151.go ?_
 try (refine ev ?_; try exact True.intro)
 refine qj (q9i h s) (fun i => s.length - i.val) ⟨0, Nat.zero_le _⟩ ?_ (fun i => ?_)
 ·try (refine ev3 @q9i.eq_1 @List.take_zero.{0} @qqz ?_; try exact True.intro)
 obtain ⟨i, hi⟩ := i
 try (refine ev1 @q9i.eq_1 ?_; try exact True.intro)
 (repeat (with_reducible refine ob ?_)); refine xt _ (fun h => ?_) (fun h => ?_)
 ·have hil : i < s.length := by simpa using h
  try (refine ev1 (xn s hil) ?_; try exact True.intro)
  (repeat (with_reducible refine ob ?_))
  try simp only [qq0 _ _ (qc9 hh (s.take i)) (qag s[i]), go_sem, Nat.reduceAdd, Nat.reduceMul, Nat.reduceSub, Nat.reduceEqDiff, Nat.reduceLT, Nat.reduceLeDiff, Nat.reduceBEq, reduceIte, reduceCtorEq, Int.reduceAdd, Int.reduceLT, Int.reduceLE, Int.reduceGT, Int.reduceGE, Int.reduceEq, Int.reduceNe, Int.reduceBEq, Int.reduceBNe, Int.reduceToNat, Int.reduceNeg]
  refine ⟨⟨i + 1, hil⟩, ?_, by dsimp only; omega⟩
  try (refine ev4 @q9i.eq_1 (qi (show i < 9223372036854775807 by omega)) (List.take_succ_eq_append_getElem hil) @qk2 ?_; try exact True.intro)
 ·have hie : i = s.length := by simp at h; omega
  subst hie
  try (refine ev1 @List.take_length.{0} ?_; try exact True.intro)
def zo (c : UInt8) : D := .int .u8 c.toNat
theorem qxk (s : List UInt8) : D.noPtrL (s.map zo) = true := by induction s <;> simp_all [D.noPtrL, D.noPtr, zo]
theorem qgo (s : List UInt8) : (s.map zo).all D.isCell = true := by induction s <;> simp_all [D.isCell, zo]
attribute [go_sem] qxk qgo
theorem q1r (s : List UInt8) {i : Nat} (h : i < s.length) (x : ASlot) : ((s.map zo).map ASlot.d).getD i x = .d (.int .u8 (s[i].toNat : Int)) := by simp [h, zo]
theorem qah (s : List UInt8) : (qd s).flatten = s.map zo := by induction s <;> simp_all [qd, zo]
theorem qt6 (s : List UInt8) : y6 1 s.length (s.map zo) = qd s := by
 induction s with
 | nil => rfl
 | cons c s ih => simp only [List.length_cons, List.map_cons, y6, List.take_succ_cons, List.take_zero, List.drop_succ_cons, List.drop_zero, ih]; rfl
def qy8 (h : Nat) (s : List UInt8) (i : { i : Nat // i ≤ s.length }) : St :=
 ⟨[(0, true, .d (.int .u64 (fnv h (s.take i.val) : Nat))), (7, true, .d (.ref 0 0 1 s.length)), (8, true, .d (.int .i64 s.length)), (9, true, .d (.int .i64 (i.val : Nat)))], [.row ((s.map zo).map .d)], [], 1⟩
theorem q9j (h : Nat) (s : List UInt8) (hh : h < 18446744073709551616) (hl : s.length ≤ 1000000000) : qg Tryz.prog 151 [.d (.int .u64 h), .d (.ref 0 0 1 s.length)] [.row ((s.map zo).map .d)] (.d (.int .u64 (fnv h s : Nat))) [.row ((s.map zo).map .d)] := by
 refine F151.go ?_
 try (refine ev ?_; try exact True.intro)
 refine qj (qy8 h s) (fun i => s.length - i.val) ⟨0, Nat.zero_le _⟩ ?_ (fun i => ?_)
 ·try (refine ev3 @qy8.eq_1 @List.take_zero.{0} @qqz ?_; try exact True.intro)
 obtain ⟨i, hi⟩ := i
 try (refine ev1 @qy8.eq_1 ?_; try exact True.intro)
 (repeat (with_reducible refine ob ?_)); refine xt _ (fun h => ?_) (fun h => ?_)
 ·have hil : i < s.length := by simpa using h
  try (refine ev2 @Nat.mul_one (q1r s hil) ?_; try exact True.intro)
  (repeat (with_reducible refine ob ?_))
  try simp only [qq0 _ _ (qc9 hh (s.take i)) (qag s[i]), go_sem, Nat.reduceAdd, Nat.reduceMul, Nat.reduceSub, Nat.reduceEqDiff, Nat.reduceLT, Nat.reduceLeDiff, Nat.reduceBEq, reduceIte, reduceCtorEq, Int.reduceAdd, Int.reduceLT, Int.reduceLE, Int.reduceGT, Int.reduceGE, Int.reduceEq, Int.reduceNe, Int.reduceBEq, Int.reduceBNe, Int.reduceToNat, Int.reduceNeg]
  refine ⟨⟨i + 1, hil⟩, ?_, by dsimp only; omega⟩
  try (refine ev4 @qy8.eq_1 (qi (show i < 9223372036854775807 by omega)) (List.take_succ_eq_append_getElem hil) @qk2 ?_; try exact True.intro)
 ·have hie : i = s.length := by simp at h; omega
  subst hie
  try (refine ev1 @List.take_length.{0} ?_; try exact True.intro)
def be8 (h : Nat) : List UInt8 := [UInt8.ofNat (h / 256 ^ 7), UInt8.ofNat (h / 256 ^ 6), UInt8.ofNat (h / 256 ^ 5), UInt8.ofNat (h / 256 ^ 4), UInt8.ofNat (h / 256 ^ 3), UInt8.ofNat (h / 256 ^ 2), UInt8.ofNat (h / 256 ^ 1), UInt8.ofNat (h / 256 ^ 0)]
theorem zc (h : Nat) : (be8 h).length = 8 := rfl
theorem xdf (h : Nat) : ∀ {i : Nat} (hi : i < 8), (be8 h)[i]'(by rw [zc]; exact hi) = UInt8.ofNat (h / 256 ^ (7 - i))
 | 0, _ => rfl
 | 1, _ => rfl
 | 2, _ => rfl
 | 3, _ => rfl
 | 4, _ => rfl
 | 5, _ => rfl
 | 6, _ => rfl
 | 7, _ => rfl
theorem xk {n : Int} (h : I64 n) : IntKind.i64.wrap n = n := by
 obtain ⟨h1, h2⟩ := h
 simp [IntKind.wrap, IntKind.bits, IntKind.signed]; omega
theorem qq1 (h i : Nat) (hi : i < 8) : IntKind.u8.wrap ((h : Int).fdiv (2 ^ min (8 * (7 - (i : Int))).toNat 64)) = ((UInt8.ofNat (h / 256 ^ (7 - i))).toNat : Int) := by
 have e1 : min (8 * (7 - (i : Int))).toNat 64 = 8 * (7 - i) := by omega
 have e2 : ((2 : Int) ^ (8 * (7 - i))) = ((256 ^ (7 - i) : Nat) : Int) := by rw [Int.natCast_pow, Int.pow_mul]; rfl
 rw [e1, e2, Int.fdiv_eq_ediv_of_nonneg _ (Int.natCast_nonneg _), ← Int.natCast_ediv, qew, UInt8.toNat_ofNat']
 omega
theorem qxl (h : Nat) {i : Nat} (hi : i < 8) : (((be8 h).take i ++ List.replicate (8 - i) 0).map zo).set i (D.int .u8 ((UInt8.ofNat (h / 256 ^ (7 - i))).toNat : Int)) = ((be8 h).take (i + 1) ++ List.replicate (8 - (i + 1)) 0).map zo := by
 have h8 := zc h
 have hl : ((be8 h).take i).length = i := by rw [List.length_take]; omega
 have e : D.int .u8 ((UInt8.ofNat (h / 256 ^ (7 - i))).toNat : Int) = zo ((be8 h)[i]'(by omega)) := by rw [xdf h hi]; rfl
 rw [e, ← List.map_set, List.set_append_right _ _ (by omega), hl, Nat.sub_self, List.take_succ_eq_append_getElem (by omega), show 8 - i = (8 - (i + 1)) + 1 by omega, List.replicate_succ, List.set_cons_zero, List.append_assoc, List.cons_append, List.nil_append]
theorem qai (ds : List D) (i : Nat) (x : D) : (ds.map ASlot.d).set i (.d x) = (ds.set i x).map .d := by rw [List.map_set]
theorem qi2 : zo 0 = .int .u8 0 := rfl
theorem qxm (h : Nat) : (be8 h).take 8 = be8 h := List.take_of_length_le (Nat.le_of_eq (zc h))
def qey (k : Nat) (f0 : Fr) (os : List AObj) (h : Nat) (i : { i : Nat // i ≤ 8 }) : St :=
 ⟨(6, true, .d (.int .u64 (h : Nat))) :: (7, true, .d (.ptr (k + 1) 0)) :: (5, true, .d (.ptr k 0)) :: (12, true, .d (.int .i64 (i.val : Nat))) :: f0, os ++ [.row ((List.replicate 8 (D.int .u8 0)).map .d), .row ((((be8 h).take i.val ++ List.replicate (8 - i.val) 0).map zo).map .d)], [], 1⟩
theorem q41 (h : Nat) (s : List UInt8) (hh : h < 18446744073709551616) (hl : s.length ≤ 1000000000) : qg Tryz.prog 103 [.d (.int .u64 h), .d (.ref 0 0 1 s.length)] [.row ((s.map zo).map .d)] (.tup [.d (.int .u64 (fnv h s : Nat)), .d (.agg ((be8 (fnv h s)).map zo))]) [.row ((s.map zo).map .d)] := by
 refine F103.goT ?_
 try (refine ev ?_; try exact True.intro)
 (repeat (with_reducible refine ob ?_)); refine clO [0] F151 (q9j h s hh hl) ?_
 try (refine ev ?_; try exact True.intro)
 refine qj (qey 1 [] [.row ((s.map zo).map .d)] (fnv h s)) (fun i => 8 - i.val) ⟨0, Nat.zero_le _⟩ ?_ (fun i => ?_)
 ·try (refine ev3 @qey.eq_1 @List.take_zero.{0} @qi2 ?_; try exact True.intro)
 obtain ⟨i, hi⟩ := i
 try (refine ev1 @qey.eq_1 ?_; try exact True.intro)
 refine xt _ (fun hc => ?_) (fun hc => ?_)
 ·have hil : i < 8 := by simp at hc; omega
  have e1 : IntKind.i64.wrap (7 - (i : Int)) = 7 - i := xk (by unfold I64; omega)
  have e2 : IntKind.i64.wrap (8 * (7 - (i : Int))) = 8 * (7 - i) := xk (by unfold I64; omega)
  have hlen := zc (fnv h s)
  try simp only [Nat.mul_one, qq1 _ _ hil, qai, qxl _ hil, e1, e2, List.length_take, List.length_replicate, go_sem, Nat.reduceAdd, Nat.reduceMul, Nat.reduceSub, Nat.reduceEqDiff, Nat.reduceLT, Nat.reduceLeDiff, Nat.reduceBEq, reduceIte, reduceCtorEq, Int.reduceAdd, Int.reduceLT, Int.reduceLE, Int.reduceGT, Int.reduceGE, Int.reduceEq, Int.reduceNe, Int.reduceBEq, Int.reduceBNe, Int.reduceToNat, Int.reduceNeg]
  (repeat (with_reducible refine ob ?_))
  refine ⟨⟨i + 1, hil⟩, ?_, by dsimp only; omega⟩
  try (refine ev2 @qey.eq_1 (qi (show i < 9223372036854775807 by omega)) ?_; try exact True.intro)
 ·have hie : i = 8 := by simp at hc; omega
  subst hie
  try (refine ev3 @qxm @be8.eq_1 @zo.eq_1 ?_; try exact True.intro)
def num1 (h : Nat) (c : UInt8) : Nat := h * 256 + c.toNat
def qkp (s : List UInt8) : Nat := s.foldl num1 0
def k9 (file : List UInt8) : Nat := if file.length < 8 then 14695981039346656037 else qkp (file.drop (file.length - 8))
theorem qo3 (s : List UInt8) (c : UInt8) : qkp (s ++ [c]) = qkp s * 256 + c.toNat := by unfold qkp; rw [List.foldl_append, List.foldl_cons, List.foldl_nil]; rfl
theorem qq2 : ∀ (n : Nat) (s : List UInt8), s.length = n → qkp s < 256 ^ n
 | 0, s, h => by cases s <;> simp at h; simp [qkp]
 | n + 1, s, h => by
  rcases List.eq_nil_or_concat s with rfl | ⟨t, c, rfl⟩
  ·simp at h
  ·rw [List.concat_eq_append] at h ⊢
   have h1 := qq2 n t (by simpa using h)
   have h2 := qag c
   rw [qo3, Nat.pow_succ]
   omega
theorem qy9 (a b : Nat) (ha : a < 18446744073709551616) (hb : b < 18446744073709551616) : bvOr 64 (a : Int) (b : Int) = ((a ||| b : Nat) : Int) := by
 unfold bvOr
 rw [BitVec.ofInt_natCast, BitVec.ofInt_natCast, BitVec.toNat_or, BitVec.toNat_ofNat, BitVec.toNat_ofNat, Nat.mod_eq_of_lt ha, Nat.mod_eq_of_lt hb]
theorem xe3 (a c : Nat) (hc : c < 256) : a * 256 ||| c = a * 256 + c := by
 have := Nat.shiftLeft_add_eq_or_of_lt (i := 8) (b := c) (by omega) a
 rw [Nat.shiftLeft_eq] at this
 exact this.symm
theorem q42 (a c : Nat) (ha : a < 72057594037927936) (hc : c < 256) : IntKind.u64.wrap (bvOr 64 (IntKind.u64.wrap ((a : Int) * 2 ^ min 8 64)) (IntKind.u64.wrap (c : Int))) = ((a * 256 + c : Nat) : Int) := by
 have e1 : IntKind.u64.wrap ((a : Int) * 2 ^ min 8 64) = ((a * 256 : Nat) : Int) := by
  rw [qgn]
  show (a : Int) * 256 % 18446744073709551616 = _
  omega
 rw [e1, f2 c (by omega), qy9 _ _ (by omega) (by omega), xe3 a c hc, f2 _ (by omega)]
def q9l (s : List UInt8) (i : { i : Nat // i ≤ s.length }) : St :=
 ⟨[(3, true, .d (.int .u64 (qkp (s.take i.val) : Nat))), (13, true, .d (.sl 1 (qd s))), (14, true, .d (.int .i64 s.length)), (15, true, .d (.int .i64 (i.val : Nat)))], [], [], 1⟩
theorem xq (s : List UInt8) (n : Nat) : (qd s).drop n = qd (s.drop n) := by simp [qd]
theorem xf (s : List UInt8) (n : Nat) : (qd s).take n = qd (s.take n) := by simp [qd]
theorem xdg (file : List UInt8) (hl : file.length ≤ 1000000000) : qg Tryz.prog 101 [.d (.sl 1 (qd file))] [] (.d (.int .u64 (k9 file : Nat))) [] := by
 refine F101.go ?_
 try (refine ev ?_; try exact True.intro)
 refine xt _ (fun hc => ?_) (fun hc => ?_)
 ·have hb : k9 file = 14695981039346656037 := by unfold k9; rw [if_pos (by simp at hc; omega)]
  try (refine ev1 @hb ?_; try exact True.intro)
 have h8 : 8 ≤ file.length := by simp at hc; omega
 have e1 : IntKind.i64.wrap ((file.length : Int) - 8) = ((file.length - 8 : Nat) : Int) := by rw [xk (by unfold I64; omega)]; omega
 have hb : k9 file = qkp (file.drop (file.length - 8)) := by unfold k9; rw [if_neg (by omega)]
 have hd : (file.drop (file.length - 8)).length = 8 := by rw [List.length_drop]; omega
 generalize hs : file.drop (file.length - 8) = s at hb hd
 have e2 : s.take (file.length - (file.length - 8)) = s := List.take_of_length_le (by omega)
 try (refine ev6 @e1 @xq @xf @hs @e2 @hb ?_; try exact True.intro)
 (repeat (with_reducible refine ob ?_))
 refine qj (q9l s) (fun i => s.length - i.val) ⟨0, Nat.zero_le _⟩ ?_ (fun i => ?_)
 ·try (refine ev2 @q9l.eq_1 @List.take_zero.{0} ?_; try exact True.intro)
  simp [qkp]
 obtain ⟨i, hi⟩ := i
 try (refine ev1 @q9l.eq_1 ?_; try exact True.intro)
 (repeat (with_reducible refine ob ?_)); refine xt _ (fun h => ?_) (fun h => ?_)
 ·have hil : i < s.length := by simpa using h
  have hlt : qkp (s.take i) < 72057594037927936 := by
   have := qq2 i (s.take i) (by rw [List.length_take]; omega)
   have h7 : 256 ^ i ≤ 256 ^ 7 := Nat.pow_le_pow_right (by decide) (by omega)
   have : (256 : Nat) ^ 7 = 72057594037927936 := by decide
   omega
  try (refine ev1 (xn s hil) ?_; try exact True.intro)
  (repeat (with_reducible refine ob ?_))
  try simp only [q42 _ _ hlt (qag s[i]), go_sem, Nat.reduceAdd, Nat.reduceMul, Nat.reduceSub, Nat.reduceEqDiff, Nat.reduceLT, Nat.reduceLeDiff, Nat.reduceBEq, reduceIte, reduceCtorEq, Int.reduceAdd, Int.reduceLT, Int.reduceLE, Int.reduceGT, Int.reduceGE, Int.reduceEq, Int.reduceNe, Int.reduceBEq, Int.reduceBNe, Int.reduceToNat, Int.reduceNeg]
  refine ⟨⟨i + 1, hil⟩, ?_, by dsimp only; omega⟩
  try (refine ev4 @q9l.eq_1 (qi (show i < 9223372036854775807 by omega)) (List.take_succ_eq_append_getElem hil) @qo3 ?_; try exact True.intro)
 ·have hie : i = s.length := by simp at h; omega
  subst hie
  try (refine ev1 @List.take_length.{0} ?_; try exact True.intro)
end Go.Proofs.YtinnaedmdoengaaGreat
namespace Go.Proofs.YtinnaedmdoengaaGreat
open Go.Abs
set_option linter.unusedSimpArgs false
theorem q43 {α : Type} [DecidableEq α] {l m : List α} {i : Nat} (h1 : i < l.length) (h2 : i < m.length) (h : l[i] ≠ m[i]) : decide (l = m) = false := by
 rw [decide_eq_false_iff_not]
 rintro rfl
 exact h rfl
theorem qa4 {α : Type} {l m : List α} {i : Nat} (h : l.take i = m.take i) (h1 : i < l.length) (h2 : i < m.length) (he : l[i] = m[i]) : l.take (i + 1) = m.take (i + 1) := by
 rw [List.take_succ_eq_append_getElem h1, List.take_succ_eq_append_getElem h2, h, he]
theorem xbr (v w : AV) : (v.kind == w.kind && (v.n == w.n && v.s == w.s)) = decide (v = w) := by
 obtain ⟨a, b, c⟩ := v
 obtain ⟨d, e, f⟩ := w
 rw [Bool.eq_iff_iff]
 simp
noncomputable section
set_option maxRecDepth 100000
set_option linter.defProp false
def d86 := cut Tryz.prog Tryz.f86 news
@[go_sem] def E86 := ql d86
def F86 := fnC d86 follows Tryz.func86
def d87 := cut Tryz.prog Tryz.f87 news
@[go_sem] def E87 := ql d87
def F87 := fnC d87 follows Tryz.func87
def d141 := cut Tryz.prog Tryz.f141 news
@[go_sem] def E141 := ql d141
def F141 := fnC d141 follows Tryz.func141
def d142 := cut Tryz.prog Tryz.f142 news
@[go_sem] def E142 := ql d142
def F142 := fnC d142 follows Tryz.func142
def d38 := cut Tryz.prog Tryz.f38 news
@[go_sem] def E38 := ql d38
def F38 := fnC d38 follows Tryz.func38
end
def Seq {α : Type} (es : Nat) (enc : α → List D) (l m : List α) (i : { i : Nat // l.take i = m.take i }) : St :=
 ⟨[(0, true, .d (.sl es (l.map enc))), (1, true, .d (.sl es (m.map enc))), (12, true, .d (.int .i64 l.length)), (13, true, .d (.int .i64 (i.val : Nat)))], [], [], 1⟩
theorem xe4 (l m : List AV) (hl : l.length ≤ maxLen) :
  qg Tryz.prog 86 [.d (.sl 3 (l.map qx)), .d (.sl 3 (m.map qx))] [] (.d (.bool (decide (l = m)))) [] := by
 first | refine F86.go ?_ | refine F86.goT ?_
 (refine ev ?_; try exact True.intro)
 refine qs _ rfl rfl (fun h => ?_) (fun h => ?_)
 ·have hne : decide (l = m) = false := by rw [decide_eq_false_iff_not]; rintro rfl; simp at h
  (refine ev1 @hne ?_; try exact True.intro)
 ·have hlm : l.length = m.length := by simp at h; omega
  (refine ev ?_; try exact True.intro)
  refine qj (Seq 3 qx l m) (fun i => l.length - i.val) ⟨0, rfl⟩ ?_ (fun i => ?_)
  ·(refine ev2 @Seq.eq_1 (xz v7) ?_; try exact True.intro)
  ·obtain ⟨i, hi⟩ := i
   (refine ev1 @Seq.eq_1 ?_; try exact True.intro)
   refine qs _ rfl rfl (fun h => ?_) (fun h => ?_)
   ·have hil : i < l.length := by simpa using h
    have him : i < m.length := by omega
    (refine ev4 (qq qx l hil) (qq qx m him) @qx.eq_1 @xbr ?_; try exact True.intro)
    refine ⟨by omega, by omega, ?_⟩
    refine qs _ rfl rfl (fun h2 => ?_) (fun h2 => ?_)
    ·have hne : l[i] ≠ m[i] := by simpa using h2
     (refine ev1 (q43 hil him hne) ?_; try exact True.intro)
    ·have he : l[i] = m[i] := by simpa using h2
     (refine ev ?_; try exact True.intro)
     refine ⟨⟨i + 1, qa4 hi hil him he⟩, ?_, by dsimp only; omega⟩
     (refine ev3 @Seq.eq_1 (qi (show i < 9223372036854775807 by unfold maxLen at hl; omega)) (xz v7) ?_; try exact True.intro)
   ·have he : decide (l = m) = true := by
     have : l.length ≤ i := by simpa using h
     rw [List.take_of_length_le this, List.take_of_length_le (by omega)] at hi
     simp [hi]
    (refine ev1 @he ?_; try exact True.intro)
theorem qt7 (l : List AV) (hl : l.length ≤ 1000000) :
  qg Tryz.prog 141 [.d (.sl 3 (l.map qx))] [] (.d (.sl 3 (l.map qx))) [] := by
 first | refine F141.go ?_ | refine F141.goT ?_
 (refine ev ?_; try exact True.intro)
 refine qw5 rfl rfl (fun b hb => ?_)
 try (refine ev ?_; try exact True.intro)
 refine qs _ rfl rfl (fun h => ?_) (fun h => ?_)
 ·try (refine ev1 (hb h) ?_; try exact True.intro)
 ·try (refine ev ?_; try exact True.intro)
  omega
theorem qt8 (l : List Int) (hl : l.length ≤ 1000000) :
  qg Tryz.prog 142 [.d (.sl 1 (l.map encI))] [] (.d (.sl 1 (l.map encI))) [] := by
 first | refine F142.go ?_ | refine F142.goT ?_
 (refine ev ?_; try exact True.intro)
 refine qw5 rfl rfl (fun b hb => ?_)
 try (refine ev ?_; try exact True.intro)
 refine qs _ rfl rfl (fun h => ?_) (fun h => ?_)
 ·try (refine ev1 (hb h) ?_; try exact True.intro)
 ·try (refine ev ?_; try exact True.intro)
  omega
theorem xe5 (l m : List Int) (hl : l.length ≤ maxLen) :
  qg Tryz.prog 87 [.d (.sl 1 (l.map encI)), .d (.sl 1 (m.map encI))] [] (.d (.bool (decide (l = m)))) [] := by
 first | refine F87.go ?_ | refine F87.goT ?_
 (refine ev ?_; try exact True.intro)
 refine qs _ rfl rfl (fun h => ?_) (fun h => ?_)
 ·have hne : decide (l = m) = false := by rw [decide_eq_false_iff_not]; rintro rfl; simp at h
  try (refine ev1 @hne ?_; try exact True.intro)
 ·have hlm : l.length = m.length := by simp at h; omega
  try (refine ev ?_; try exact True.intro)
  refine qj (Seq 1 encI l m) (fun i => l.length - i.val) ⟨0, rfl⟩ ?_ (fun i => ?_)
  ·try (refine ev1 @Seq.eq_1 ?_; try exact True.intro)
  ·obtain ⟨i, hi⟩ := i
   try (refine ev1 @Seq.eq_1 ?_; try exact True.intro)
   refine qs _ rfl rfl (fun h => ?_) (fun h => ?_)
   ·have hil : i < l.length := by simpa using h
    have him : i < m.length := by omega
    try (refine ev3 (qq encI l hil) (qq encI m him) @encI.eq_1 ?_; try exact True.intro)
    refine ⟨by omega, by omega, ?_⟩
    refine qs _ rfl rfl (fun h2 => ?_) (fun h2 => ?_)
    ·have hne : l[i] ≠ m[i] := by simpa using h2
     try (refine ev1 (q43 hil him hne) ?_; try exact True.intro)
    ·have he : l[i] = m[i] := by simpa using h2
     try (refine ev ?_; try exact True.intro)
     refine ⟨⟨i + 1, qa4 hi hil him he⟩, ?_, by dsimp only; omega⟩
     try (refine ev2 @Seq.eq_1 (qi (show i < 9223372036854775807 by unfold maxLen at hl; omega)) ?_; try exact True.intro)
   ·have he : decide (l = m) = true := by
     have : l.length ≤ i := by simpa using h
     rw [List.take_of_length_le this, List.take_of_length_le (by omega)] at hi
     simp [hi]
    try (refine ev1 @he ?_; try exact True.intro)
theorem xbs (p q : Pk) : (p.kind == q.kind && p.sess == q.sess && p.epoch == q.epoch && p.from_ == q.from_ && p.to == q.to && p.seq == q.seq && p.label == q.label && decide (p.values = q.values) && decide (p.clock = q.clock)) = decide (p = q) := by
 obtain ⟨a1, a2, a3, a4, a5, a6, a7, a8, a9⟩ := p
 obtain ⟨b1, b2, b3, b4, b5, b6, b7, b8, b9⟩ := q
 rw [Bool.eq_iff_iff]
 simp [and_assoc]
set_option maxRecDepth 10000 in
theorem q1s (p q : Pk) (h1 : p.values.length ≤ maxLen) (h2 : p.clock.length ≤ maxLen) :
  qg Tryz.prog 38 [.d (.agg (qe p)), .d (.agg (qe q))] [] (.d (.bool (decide (p = q)))) [] := by
 first | refine F38.go ?_ | refine F38.goT ?_
 (refine ev1 @qe.eq_1 ?_; try exact True.intro)
 (repeat (with_reducible refine ob ?_)); refine cl F86 (xe4 p.values q.values h1) ?_
 try (refine ev ?_; try exact True.intro)
 (repeat (with_reducible refine ob ?_)); refine cl F87 (xe5 p.clock q.clock h2) ?_
 try (refine ev1 @xbs ?_; try exact True.intro)
end Go.Proofs.YtinnaedmdoengaaGreat
namespace Go.Proofs.YtinnaedmdoengaaGreat
open Go.Abs
set_option linter.unusedSimpArgs false
def qef (g : Nat → Bool) (n : Nat) : Bool := (List.range n).all g
theorem q1t (g : Nat → Bool) (n : Nat) : qef g (n + 1) = (qef g n && g n) := by simp [qef, List.range_succ]
theorem qi3 {g : Nat → Bool} {n : Nat} (h : qef g n = true) (hg : g n = true) : qef g (n + 1) = true := by rw [q1t, h, hg]; rfl
theorem qq3 {g : Nat → Bool} {i n : Nat} (hi : i < n) (hg : g i = false) : qef g n = false := by
 simp only [qef, List.all_eq_false]
 exact ⟨i, by simpa using hi, by simp [hg]⟩
theorem qaj {g : Nat → Bool} {n : Nat} : qef g n = true ↔ ∀ i, i < n → g i = true := by simp [qef]
structure Qu where
 acc : Int
 cons : Int
 items : List Pk
 deriving DecidableEq, Inhabited
def encQ (q : Qu) : List D := [.int .i64 q.acc, .int .i64 q.cons, .sl 9 (q.items.map qe)]
theorem q1u (q : Qu) : D.noPtrL (encQ q) = true := by (refine ev1 @encQ.eq_1 ?_; try exact True.intro)
attribute [go_sem] q1u
def Pk.Sm (p : Pk) : Prop := p.values.length ≤ 1000 ∧ p.clock.length ≤ 1000
def Qu.Sm (q : Qu) : Prop := q.items.length ≤ 1000 ∧ ∀ p ∈ q.items, p.Sm
theorem Pk.Sm.v {p : Pk} (h : p.Sm) : p.values.length ≤ maxLen := by have := h.1; unfold maxLen; omega
theorem Pk.Sm.c {p : Pk} (h : p.Sm) : p.clock.length ≤ maxLen := by have := h.2; unfold maxLen; omega
noncomputable section
set_option maxRecDepth 100000
set_option linter.defProp false
def d82 := cut Tryz.prog Tryz.f82 news
@[go_sem] def E82 := ql d82
def F82 := fnC d82 follows Tryz.func82
def d83 := cut Tryz.prog Tryz.f83 news
@[go_sem] def E83 := ql d83
def F83 := fnC d83 follows Tryz.func83
def d42 := cut Tryz.prog Tryz.f42 news
@[go_sem] def E42 := ql d42
def F42 := fnC d42 follows Tryz.func42
def d85 := cut Tryz.prog Tryz.f85 news
@[go_sem] def E85 := ql d85
def F85 := fnC d85 follows Tryz.func85
def d84 := cut Tryz.prog Tryz.f84 news
@[go_sem] def E84 := ql d84
def F84 := fnC d84 follows Tryz.func84
end
def qbc (p : Pk) : Bool := p.kind == 1 && xe p
theorem qfl (p : Pk) (hp : p.Sm) : qg Tryz.prog 82 [.d (.agg (qe p))] [] (.d (.bool (qbc p))) [] := by
 first | refine F82.go ?_ | refine F82.goT ?_
 (refine ev1 @qe.eq_1 ?_; try exact True.intro)
 (repeat (with_reducible refine ob ?_)); first | refine cl F110 (yk p hp.v hp.c) ?_ | refine clF F110 (yk p hp.v hp.c) (fun _ => by (refine ev2 @qe.eq_1 @encQ.eq_1 ?_; try exact True.intro)) ?_
 try (refine ev ?_; try exact True.intro)
 rfl
def qod (p q : Pk) : Bool := p.sess == q.sess && p.from_ == q.from_ && p.to == q.to
theorem qk3 (p q : Pk) : qg Tryz.prog 83 [.d (.agg (qe p)), .d (.agg (qe q))] [] (.d (.bool (qod p q))) [] := by
 first | refine F83.go ?_ | refine F83.goT ?_
 (refine ev1 @qe.eq_1 ?_; try exact True.intro)
 rfl
def qmm (q : Qu) (i : Nat) : Bool :=
 qbc (q.items.getD i default) && qod (q.items.getD i default) (q.items.getD 0 default) && (q.items.getD i default).seq == IntKind.i64.wrap (IntKind.i64.wrap (q.cons + 1) + (i : Int))
def jx (q : Qu) : Bool := qef (qmm q) q.items.length && (decide (q.cons ≥ 0) && decide (q.cons ≤ q.acc) && decide (q.acc ≤ 1099511627776) && ((q.items.length : Int) == IntKind.i64.wrap (q.acc - q.cons)) && decide ((q.items.length : Int) ≤ 4))
def qq4 (q : Qu) (i : { i : Nat // qef (qmm q) i = true }) : St :=
 ⟨[(1, true, .d (.ptr 0 0)), (6, true, .d (.sl 9 (q.items.map qe))), (7, true, .d (.int .i64 q.items.length)), (8, true, .d (.int .i64 (i.val : Nat)))],
  [.row [.d (.int .i64 q.acc), .d (.int .i64 q.cons), .d (.sl 9 (q.items.map qe))]], [], 1⟩
theorem qc2 {α : Type} {l : List α} {i : Nat} (h : i < l.length) (d : α) : l.getD i d = l[i] := by simp [List.getD, h]
set_option maxRecDepth 10000 in
theorem qcb (q : Qu) (hq : q.Sm) : qg Tryz.prog 42 [.d (.agg (encQ q))] [] (.d (.bool (jx q))) [] := by
 have hl := hq.1
 first | refine F42.go ?_ | refine F42.goT ?_
 (refine ev1 @encQ.eq_1 ?_; try exact True.intro)
 refine qj (qq4 q) (fun i => q.items.length - i.val) ⟨0, rfl⟩ ?_ (fun i => ?_)
 ·try (refine ev1 @qq4.eq_1 ?_; try exact True.intro)
 ·obtain ⟨i, hi⟩ := i
  try (refine ev1 @qq4.eq_1 ?_; try exact True.intro)
  refine qs _ rfl rfl (fun h => ?_) (fun h => ?_)
  ·have hil : i < q.items.length := by simpa using h
   have h0 : 0 < q.items.length := by omega
   have hw : IntKind.i64.wrap (IntKind.i64.wrap (q.cons + 1) + (i : Int)) = IntKind.i64.wrap (IntKind.i64.wrap (q.cons + 1) + (i : Int)) := rfl
   (refine ev4 (qq qe q.items hil) (qq qe q.items h0) @Int.toNat_zero @qe.eq_1 ?_; try exact True.intro)
   refine ⟨by omega, ?_⟩
   (repeat (with_reducible refine ob ?_)); first | refine cl F82 (qfl q.items[i] (hq.2 _ (List.getElem_mem hil))) ?_ | refine clF F82 (qfl q.items[i] (hq.2 _ (List.getElem_mem hil))) (fun _ => by (refine ev2 @qe.eq_1 @encQ.eq_1 ?_; try exact True.intro)) ?_
   try (refine ev1 (qq qe q.items h0) ?_; try exact True.intro)
   refine ⟨fun _ => ⟨by omega, by omega⟩, by simp [qe], ?_⟩
   (refine ev1 @qe.eq_1 ?_; try exact True.intro)
   (repeat (with_reducible refine ob ?_)); first | refine cl F83 (qk3 q.items[i] q.items[0]) ?_ | refine clF F83 (qk3 q.items[i] q.items[0]) (fun _ => by (refine ev2 @qe.eq_1 @encQ.eq_1 ?_; try exact True.intro)) ?_
   try (refine ev ?_; try exact True.intro)
   (repeat (with_reducible refine ob ?_))
   have hx : (!qbc q.items[i] || !qod q.items[i] q.items[0] || q.items[i].seq != IntKind.i64.wrap (IntKind.i64.wrap (q.cons + 1) + (i : Int))) = !qmm q i := by
    simp only [qmm, qc2 hil, qc2 h0, Bool.not_and]; rfl
   refine qs (!qmm q i) rfl ?_ (fun h2 => ?_) (fun h2 => ?_)
   ·try (refine ev1 @hx ?_; try exact True.intro)
   ·have hg : qmm q i = false := by simpa using h2
    (refine ev2 @jx.eq_1 (qq3 hil hg) ?_; try exact True.intro)
   ·have hg : qmm q i = true := by simpa using h2
    try (refine ev ?_; try exact True.intro)
    refine ⟨⟨i + 1, qi3 hi hg⟩, ?_, by dsimp only; omega⟩
    try (refine ev2 @qq4.eq_1 (qi (show i < 9223372036854775807 by omega)) ?_; try exact True.intro)
  ·have hil : q.items.length ≤ i := by simpa using h
   have ha : qef (qmm q) q.items.length = true := qaj.2 fun j hj => qaj.1 hi j (by omega)
   try (refine ev ?_; try exact True.intro)
   (repeat (with_reducible refine ob ?_))
   (refine ev2 @jx.eq_1 @ha ?_; try exact True.intro)
theorem qcs (p : Pk) (hp : p.Sm) : qg Tryz.prog 85 [.d (.agg (qe p))] [] (.d (.agg (qe p))) [] := by
 obtain ⟨h1, h2⟩ := hp
 first | refine F85.go ?_ | refine F85.goT ?_
 (refine ev1 @qe.eq_1 ?_; try exact True.intro)
 (repeat (with_reducible refine ob ?_)); first | refine cl F141 (qt7 p.values (by omega)) ?_ | refine clF F141 (qt7 p.values (by omega)) (fun _ => by (refine ev2 @qe.eq_1 @encQ.eq_1 ?_; try exact True.intro)) ?_
 try (refine ev ?_; try exact True.intro)
 (repeat (with_reducible refine ob ?_)); first | refine cl F142 (qt8 p.clock (by omega)) ?_ | refine clF F142 (qt8 p.clock (by omega)) (fun _ => by (refine ev2 @qe.eq_1 @encQ.eq_1 ?_; try exact True.intro)) ?_
 try (refine ev ?_; try exact True.intro)
def qq5 (l : List Pk) (i : { i : Nat // i ≤ l.length }) : St :=
 ⟨[(3, true, .own 0 9 ((l.take i.val).map qe)), (6, true, .d (.sl 9 (l.map qe))), (7, true, .d (.int .i64 l.length)), (8, true, .d (.int .i64 (i.val : Nat)))], [], [0], 1⟩
set_option maxRecDepth 10000 in
theorem qt9 (l : List Pk) (hl : l.length ≤ 1000) (hp : ∀ p ∈ l, p.Sm) : qg Tryz.prog 84 [.d (.sl 9 (l.map qe))] [] (.own 0 9 (l.map qe)) [] := by
 first | refine F84.go ?_ | refine F84.goT ?_
 (refine ev ?_; try exact True.intro)
 refine qj (qq5 l) (fun i => l.length - i.val) ⟨0, Nat.zero_le _⟩ ?_ (fun i => ?_)
 ·try (refine ev1 @qq5.eq_1 ?_; try exact True.intro)
  trace_state
 ·obtain ⟨i, hi⟩ := i
  try (refine ev1 @qq5.eq_1 ?_; try exact True.intro)
  refine qs _ rfl rfl (fun h => ?_) (fun h => ?_)
  ·have hil : i < l.length := by simpa using h
   (refine ev2 (qq qe l hil) @qe.eq_1 ?_; try exact True.intro)
   (repeat (with_reducible refine ob ?_))
   (repeat (with_reducible refine ob ?_)); first | refine cl F85 (qcs l[i] (hp _ (List.getElem_mem hil))) ?_ | refine clF F85 (qcs l[i] (hp _ (List.getElem_mem hil))) (fun _ => by (refine ev2 @qe.eq_1 @encQ.eq_1 ?_; try exact True.intro)) ?_
   (refine ev1 @qe.eq_1 ?_; try exact True.intro)
   have hlt : (l.take i).length ≤ 1000 := by simp; omega
   refine ⟨⟨by omega, by omega⟩, ⟨i + 1, hil⟩, ?_, by dsimp only; omega⟩
   (refine ev4 @qq5.eq_1 (qdx qe l hil) @qe.eq_1 (qi (show i < 9223372036854775807 by omega)) ?_; try exact True.intro)
  ·have hil : i = l.length := by
    have : l.length ≤ i := by simpa using h
    omega
   subst hil
   try (refine ev1 @List.take_length.{0} ?_; try exact True.intro)
end Go.Proofs.YtinnaedmdoengaaGreat
namespace Go.Proofs.YtinnaedmdoengaaGreat
open Go.Abs
set_option linter.unusedSimpArgs false
def xm : Qu := ⟨0, 0, []⟩
theorem qdz : qe default = [.int .i64 0, .int .i64 0, .int .i64 0, .int .i64 0, .int .i64 0, .int .i64 0, .int .i64 0, .sl 3 [], .sl 1 []] := rfl
noncomputable section
set_option maxRecDepth 100000
set_option linter.defProp false
def d35 := cut Tryz.prog Tryz.f35 news
@[go_sem] def E35 := ql d35
def F35 := fnC d35 follows Tryz.func35
def d37 := cut Tryz.prog Tryz.f37 news
@[go_sem] def E37 := ql d37
def F37 := fnC d37 follows Tryz.func37
end
def qcc (q : Qu) (p : Pk) : Qu × Int :=
 if !jx q || !qbc p || (decide ((q.items.length : Int) > 0) && !qod p (q.items.getD 0 default)) then (xm, 1)
 else if decide (p.seq ≤ q.acc) then (xm, 21)
 else if decide (p.seq > IntKind.i64.wrap (q.acc + 1)) then (xm, 22)
 else if (q.items.length : Int) == 4 then (xm, 19)
 else (⟨p.seq, q.cons, q.items ++ [p]⟩, 0)
set_option maxRecDepth 10000 in
theorem qmn (q : Qu) (p : Pk) (hq : q.Sm) (hp : p.Sm) : qg Tryz.prog 35 [.d (.agg (encQ q)), .d (.agg (qe p))] [] (.tup [.d (.agg (encQ (qcc q p).1)), .d (.int .i64 (qcc q p).2)]) [] := by
 have hl := hq.1
 first | refine F35.go ?_ | refine F35.goT ?_
 (refine ev2 @encQ.eq_1 @qe.eq_1 ?_; try exact True.intro)
 (repeat (with_reducible refine ob ?_)); first | refine cl F42 (qcb q hq) ?_ | refine clF F42 (qcb q hq) (fun _ => by (refine ev2 @qe.eq_1 @encQ.eq_1 ?_; try exact True.intro)) ?_
 try (refine ev ?_; try exact True.intro)
 (repeat (with_reducible refine ob ?_)); first | refine cl F82 (qfl p hp) ?_ | refine clF F82 (qfl p hp) (fun _ => by (refine ev2 @qe.eq_1 @encQ.eq_1 ?_; try exact True.intro)) ?_
 obtain ⟨acc, cons, items⟩ := q
 cases items with
 | nil =>
  try (refine ev ?_; try exact True.intro)
  (repeat (with_reducible refine ob ?_))
  refine qac (.bool false) rfl ?_
  try (refine ev ?_; try exact True.intro)
  (repeat (with_reducible refine ob ?_))
  refine qs _ rfl rfl (fun h1 => ?_) (fun h1 => ?_)
  ·try (refine ev3 @qcc.eq_1 @h1 @xm.eq_1 ?_; try exact True.intro)
  try (refine ev ?_; try exact True.intro)
  refine qs _ rfl rfl (fun h2 => ?_) (fun h2 => ?_)
  ·try (refine ev4 @qcc.eq_1 @h1 @h2 @xm.eq_1 ?_; try exact True.intro)
  try (refine ev ?_; try exact True.intro)
  refine qs _ rfl rfl (fun h3 => ?_) (fun h3 => ?_)
  ·try (refine ev5 @qcc.eq_1 @h1 @h2 @h3 @xm.eq_1 ?_; try exact True.intro)
  try (refine ev ?_; try exact True.intro)
  refine qs _ rfl rfl (fun h4 => ?_) (fun h4 => ?_)
  ·first | exact Bool.noConfusion h4 | try (refine ev6 @qcc.eq_1 @h1 @h2 @h3 @h4 @xm.eq_1 ?_; try exact True.intro)
  try (refine ev ?_; try exact True.intro)
  refine qmb (qt9 [] hq.1 hq.2) F84.body rfl ⟨by (refine ev2 @qe.eq_1 @encQ.eq_1 ?_; try exact True.intro), by try (refine ev ?_; try exact True.intro), by try (refine ev ?_; try exact True.intro), by try (refine ev ?_; try exact True.intro)⟩ (by try (refine ev ?_; try exact True.intro)) (by simp [ASlot.toks]) ?_
  simp only [qan, renT, go_sem, Nat.reduceAdd, Nat.reduceMul, Nat.reduceSub, Nat.reduceEqDiff, Nat.reduceLT, Nat.reduceLeDiff, Nat.reduceBEq, reduceIte, reduceCtorEq, Int.reduceAdd, Int.reduceLT, Int.reduceLE, Int.reduceGT, Int.reduceGE, Int.reduceEq, Int.reduceNe, Int.reduceBEq, Int.reduceBNe, Int.reduceToNat, Int.reduceNeg]
  (repeat (with_reducible refine ob ?_)); first | refine cl F85 (qcs p hp) ?_ | refine clF F85 (qcs p hp) (fun _ => by (refine ev2 @qe.eq_1 @encQ.eq_1 ?_; try exact True.intro)) ?_
  (refine ev8 @qe.eq_1 @qcc.eq_1 @h1 @h2 @h3 @h4 @beq_self_eq_true.{0} @List.map_append.{0,0} ?_; try exact True.intro)
  try (simp only [List.length_cons] at hl; omega)
 | cons x l =>
  try (refine ev ?_; try exact True.intro)
  refine ⟨by simp_all, fun h => ⟨h, by omega⟩, fun h => ⟨h, by simp [qe]⟩, ?_⟩
  (refine ev1 @qe.eq_1 ?_; try exact True.intro)
  (repeat (with_reducible refine ob ?_)); first | refine cl F83 (qk3 p x) ?_ | refine clF F83 (qk3 p x) (fun _ => by (refine ev2 @qe.eq_1 @encQ.eq_1 ?_; try exact True.intro)) ?_
  try (refine ev ?_; try exact True.intro)
  (repeat (with_reducible refine ob ?_))
  refine qs _ rfl rfl (fun h1 => ?_) (fun h1 => ?_)
  ·try (refine ev3 @qcc.eq_1 @h1 @xm.eq_1 ?_; try exact True.intro)
  try (refine ev ?_; try exact True.intro)
  refine qs _ rfl rfl (fun h2 => ?_) (fun h2 => ?_)
  ·try (refine ev4 @qcc.eq_1 @h1 @h2 @xm.eq_1 ?_; try exact True.intro)
  try (refine ev ?_; try exact True.intro)
  refine qs _ rfl rfl (fun h3 => ?_) (fun h3 => ?_)
  ·try (refine ev5 @qcc.eq_1 @h1 @h2 @h3 @xm.eq_1 ?_; try exact True.intro)
  try (refine ev ?_; try exact True.intro)
  refine qs _ rfl rfl (fun h4 => ?_) (fun h4 => ?_)
  ·first | exact Bool.noConfusion h4 | try (refine ev6 @qcc.eq_1 @h1 @h2 @h3 @h4 @xm.eq_1 ?_; try exact True.intro)
  try (refine ev ?_; try exact True.intro)
  refine qmb (qt9 (x :: l) hq.1 hq.2) F84.body rfl ⟨by (refine ev2 @qe.eq_1 @encQ.eq_1 ?_; try exact True.intro), by try (refine ev ?_; try exact True.intro), by try (refine ev ?_; try exact True.intro), by try (refine ev ?_; try exact True.intro)⟩ (by try (refine ev ?_; try exact True.intro)) (by simp [ASlot.toks]) ?_
  simp only [qan, renT, go_sem, Nat.reduceAdd, Nat.reduceMul, Nat.reduceSub, Nat.reduceEqDiff, Nat.reduceLT, Nat.reduceLeDiff, Nat.reduceBEq, reduceIte, reduceCtorEq, Int.reduceAdd, Int.reduceLT, Int.reduceLE, Int.reduceGT, Int.reduceGE, Int.reduceEq, Int.reduceNe, Int.reduceBEq, Int.reduceBNe, Int.reduceToNat, Int.reduceNeg]
  (repeat (with_reducible refine ob ?_)); first | refine cl F85 (qcs p hp) ?_ | refine clF F85 (qcs p hp) (fun _ => by (refine ev2 @qe.eq_1 @encQ.eq_1 ?_; try exact True.intro)) ?_
  (refine ev8 @qe.eq_1 @qcc.eq_1 @h1 @h2 @h3 @h4 @beq_self_eq_true.{0} @List.map_append.{0,0} ?_; try exact True.intro)
  try (simp only [List.length_cons] at hl; omega)
def qua (q : Qu) : Pk × Bool := match q.items with
 | [] => (default, false)
 | p :: _ => (p, true)
theorem q44 (q : Qu) (hq : q.Sm) : qg Tryz.prog 37 [.d (.agg (encQ q))] [] (.tup [.d (.agg (qe (qua q).1)), .d (.bool (qua q).2)]) [] := by
 first | refine F37.go ?_ | refine F37.goT ?_
 obtain ⟨acc, cons, items⟩ := q
 cases items with
 | nil =>
  simp only [encQ, qua, qdz, go_sem, Nat.reduceAdd, Nat.reduceMul, Nat.reduceSub, Nat.reduceEqDiff, Nat.reduceLT, Nat.reduceLeDiff, Nat.reduceBEq, reduceIte, reduceCtorEq, Int.reduceAdd, Int.reduceLT, Int.reduceLE, Int.reduceGT, Int.reduceGE, Int.reduceEq, Int.reduceNe, Int.reduceBEq, Int.reduceBNe, Int.reduceToNat, Int.reduceNeg]
  refine qs _ rfl rfl (fun h1 => ?_) (fun h1 => Bool.noConfusion h1)
  try (refine ev ?_; try exact True.intro)
 | cons p l =>
  simp only [encQ, qua, go_sem, Nat.reduceAdd, Nat.reduceMul, Nat.reduceSub, Nat.reduceEqDiff, Nat.reduceLT, Nat.reduceLeDiff, Nat.reduceBEq, reduceIte, reduceCtorEq, Int.reduceAdd, Int.reduceLT, Int.reduceLE, Int.reduceGT, Int.reduceGE, Int.reduceEq, Int.reduceNe, Int.reduceBEq, Int.reduceBNe, Int.reduceToNat, Int.reduceNeg]
  refine qs _ rfl rfl (fun h1 => ?_) (fun h1 => ?_)
  ·simp at h1; omega
  (refine ev1 @qe.eq_1 ?_; try exact True.intro)
  (repeat (with_reducible refine ob ?_))
  (repeat (with_reducible refine ob ?_)); first | refine cl F85 (qcs p (hq.2 _ (by simp))) ?_ | refine clF F85 (qcs p (hq.2 _ (by simp))) (fun _ => by (refine ev2 @qe.eq_1 @encQ.eq_1 ?_; try exact True.intro)) ?_
  (refine ev1 @qe.eq_1 ?_; try exact True.intro)
end Go.Proofs.YtinnaedmdoengaaGreat
namespace Go.Proofs.YtinnaedmdoengaaGreat
open Go.Abs
set_option linter.unusedSimpArgs false
noncomputable section
set_option maxRecDepth 100000
set_option linter.defProp false
def d36 := cut Tryz.prog Tryz.f36 news
@[go_sem] def E36 := ql d36
def F36 := fnC d36 follows Tryz.func36
def d7 := cut Tryz.prog Tryz.f7 news
@[go_sem] def E7 := ql d7
def F7 := fnC d7 follows Tryz.func7
end
def msg (seq : Int) : Pk := ⟨1, 1, 0, 0, 1, seq, seq.tmod 40, [], []⟩
theorem qo4 (seq : Int) : (msg seq).Sm := ⟨Nat.zero_le _, Nat.zero_le _⟩
theorem qj7 (seq : Int) : qg Tryz.prog 36 [.d (.int .i64 seq)] [] (.d (.agg (qe (msg seq)))) [] := by
 refine F36.go ?_
 try (refine ev2 @qe.eq_1 @msg.eq_1 ?_; try exact True.intro)
theorem xhf : qcc ⟨0, 0, []⟩ (msg 1) = (⟨1, 0, [msg 1]⟩, 0) := by decide
theorem xg7 : qcc ⟨1, 0, [msg 1]⟩ (msg 1) = (xm, 21) := by decide
theorem xhg : qcc ⟨1, 0, [msg 1]⟩ (msg 3) = (xm, 22) := by decide
theorem sm0 : (⟨0, 0, []⟩ : Qu).Sm := ⟨Nat.zero_le _, by simp⟩
theorem sm1 : (⟨1, 0, [msg 1]⟩ : Qu).Sm := ⟨by simp, by simp; exact qo4 1⟩
set_option maxRecDepth 10000 in
theorem qfm : qg Tryz.prog 7 [] [] (.d (.bool true)) [] := by
 have c1 := qmn ⟨0, 0, []⟩ (msg 1) sm0 (qo4 1)
 have c2 := qmn ⟨1, 0, [msg 1]⟩ (msg 1) sm1 (qo4 1)
 have c3 := qmn ⟨1, 0, [msg 1]⟩ (msg 3) sm1 (qo4 3)
 have c4 := q44 ⟨1, 0, [msg 1]⟩ sm1
 have c5 := q1s (msg 1) (msg 1) (qo4 1).v (qo4 1).c
 rw [xhf] at c1
 rw [xg7] at c2
 rw [xhg] at c3
 simp only [decide_true] at c5
 simp only [encQ, xm, List.map_nil] at c1 c2 c3 c4
 refine F7.go ?_
 try (refine ev ?_; try exact True.intro)
 (repeat (with_reducible refine ob ?_)); first | refine cl F36 (qj7 1) ?_ | refine clF F36 (qj7 1) (fun _ => by (refine ev2 @qe.eq_1 @encQ.eq_1 ?_; try exact True.intro)) ?_
 try (refine ev ?_; try exact True.intro)
 (repeat (with_reducible refine ob ?_)); first | refine cl F35 (c1) ?_ | refine clF F35 (c1) (fun _ => by (refine ev2 @qe.eq_1 @encQ.eq_1 ?_; try exact True.intro)) ?_
 (refine ev1 @encQ.eq_1 ?_; try exact True.intro)
 (repeat (with_reducible refine ob ?_)); first | refine cl F36 (qj7 1) ?_ | refine clF F36 (qj7 1) (fun _ => by (refine ev2 @qe.eq_1 @encQ.eq_1 ?_; try exact True.intro)) ?_
 try (refine ev ?_; try exact True.intro)
 (repeat (with_reducible refine ob ?_)); first | refine cl F35 (c2) ?_ | refine clF F35 (c2) (fun _ => by (refine ev2 @qe.eq_1 @encQ.eq_1 ?_; try exact True.intro)) ?_
 (refine ev2 @encQ.eq_1 @xm.eq_1 ?_; try exact True.intro)
 (repeat (with_reducible refine ob ?_)); first | refine cl F36 (qj7 3) ?_ | refine clF F36 (qj7 3) (fun _ => by (refine ev2 @qe.eq_1 @encQ.eq_1 ?_; try exact True.intro)) ?_
 try (refine ev ?_; try exact True.intro)
 (repeat (with_reducible refine ob ?_)); first | refine cl F35 (c3) ?_ | refine clF F35 (c3) (fun _ => by (refine ev2 @qe.eq_1 @encQ.eq_1 ?_; try exact True.intro)) ?_
 (refine ev2 @encQ.eq_1 @xm.eq_1 ?_; try exact True.intro)
 (repeat (with_reducible refine ob ?_)); first | refine cl F37 (c4) ?_ | refine clF F37 (c4) (fun _ => by (refine ev2 @qe.eq_1 @encQ.eq_1 ?_; try exact True.intro)) ?_
 simp only [qe, qua, go_sem, Nat.reduceAdd, Nat.reduceMul, Nat.reduceSub, Nat.reduceEqDiff, Nat.reduceLT, Nat.reduceLeDiff, Nat.reduceBEq, reduceIte, reduceCtorEq, Int.reduceAdd, Int.reduceLT, Int.reduceLE, Int.reduceGT, Int.reduceGE, Int.reduceEq, Int.reduceNe, Int.reduceBEq, Int.reduceBNe, Int.reduceToNat, Int.reduceNeg]
 (repeat (with_reducible refine ob ?_)); first | refine cl F36 (qj7 1) ?_ | refine clF F36 (qj7 1) (fun _ => by (refine ev2 @qe.eq_1 @encQ.eq_1 ?_; try exact True.intro)) ?_
 try (refine ev ?_; try exact True.intro)
 (repeat (with_reducible refine ob ?_)); first | refine cl F38 (c5) ?_ | refine clF F38 (c5) (fun _ => by (refine ev2 @qe.eq_1 @encQ.eq_1 ?_; try exact True.intro)) ?_
 try (refine ev ?_; try exact True.intro)
end Go.Proofs.YtinnaedmdoengaaGreat
