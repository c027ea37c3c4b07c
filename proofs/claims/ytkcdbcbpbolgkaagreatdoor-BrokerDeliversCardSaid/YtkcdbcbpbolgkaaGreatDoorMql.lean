/- Texts Ca, Wa, Cb, Wb, Wc, Cc, Cd, Ce, Cf. -/
import Derived.Test.YtkcdbcbpbolgkaaGreatDoorMqk
import Derived.Test.YtkcdbcbpbolgkaaGreatDoorProg
import Derived.KernelRfl
set_option linter.unusedSimpArgs false
namespace Go.Proofs.YtkcdbcbpbolgkaaGreatDoor
open Go.Abs
def news : List (FuncId × Nat) := [(141, 5), (160, 1), (177, 1), (28, 2), (105, 2), (29, 1), (86, 1), (359, 2), (64, 1), (45, 5), (139, 1), (102, 1), (71, 1), (72, 1), (73, 1), (21, 1), (41, 1), (14, 1), (47, 5), (13, 5)]
theorem follows : Tryz.prog.follows .mixedOrders = true := by kernel_rfl
structure AV where
 kind : Int
 n : Int
 s : List UInt8
 deriving DecidableEq, Inhabited
def xr (v : AV) : List D := [.int .i64 v.kind, .int .i64 v.n, .str v.s]
theorem yq (v : AV) : D.noPtrL (xr v) = true := rfl
def encI (n : Int) : List D := [.int .i64 n]
theorem qcs (n : Int) : D.noPtrL (encI n) = true := rfl
structure Pk where
 kind : Int
 sess : Int
 epoch : Int
 from_ : Int
 to : Int
 seq : Int
 label : Int
 values : List AV
 clock : List Int
 deriving DecidableEq, Inhabited
def qe (p : Pk) : List D := [.int .i64 p.kind, .int .i64 p.sess, .int .i64 p.epoch, .int .i64 p.from_, .int .i64 p.to, .int .i64 p.seq, .int .i64 p.label, .sl 3 (p.values.map xr), .sl 1 (p.clock.map encI)]
theorem qgp (p : Pk) : D.noPtrL (qe p) = true := by
 simp only [qe, D.noPtrL, D.noPtr, xx yq, xx qcs, Bool.and_self]
theorem xcp (l : List AV) : D.noPtrR (l.map xr) = true := xx yq l
theorem xh5 (l : List Int) : D.noPtrR (l.map encI) = true := xx qcs l
theorem xcq (l : List Pk) : D.noPtrR (l.map qe) = true := xx qgp l
attribute [go_sem] yq qcs qgp xcp xh5 xcq
noncomputable section
set_option maxRecDepth 100000
set_option linter.defProp false
def d219 := cut Tryz.prog Tryz.f219 news
@[go_sem] def E219 := ql d219
def F219 := fnC d219 follows Tryz.func219
def d215 := cut Tryz.prog Tryz.f215 news
@[go_sem] def E215 := ql d215
def F215 := fnC d215 follows Tryz.func215
def d212 := cut Tryz.prog Tryz.f212 news
@[go_sem] def E212 := ql d212
def F212 := fnC d212 follows Tryz.func212
def d218 := cut Tryz.prog Tryz.f218 news
@[go_sem] def E218 := ql d218
def F218 := fnC d218 follows Tryz.func218
def d136 := cut Tryz.prog Tryz.f136 news
@[go_sem] def E136 := ql d136
def F136 := fnC d136 follows Tryz.func136
def d137 := cut Tryz.prog Tryz.f137 news
@[go_sem] def E137 := ql d137
def F137 := fnC d137 follows Tryz.func137
def d214 := cut Tryz.prog Tryz.f214 news
@[go_sem] def E214 := ql d214
def F214 := fnC d214 follows Tryz.func214
def d217 := cut Tryz.prog Tryz.f217 news
@[go_sem] def E217 := ql d217
def F217 := fnC d217 follows Tryz.func217
end
def role (n : Int) : Bool := decide (n ≥ 0) && decide (n < 6)
theorem q3o (n : Int) : qg Tryz.prog 219 [.d (.int .i64 n)] [] (.d (.bool (role n))) [] := by
 first | refine F219.go ?_ | refine F219.goT ?_
 (refine ev ?_; try exact True.intro)
 rfl
def qbd (v : AV) : Bool := if v.kind == 1 then v.s == [] else if v.kind == 2 then v.n == 0 && decide ((v.s.length : Int) ≤ 40) else false
theorem xcr (v : AV) : qg Tryz.prog 215 [.d (.agg (xr v))] [] (.d (.bool (qbd v))) [] := by
 first | refine F215.go ?_ | refine F215.goT ?_
 (refine ev1 @xr.eq_1 ?_; try exact True.intro)
 refine qs _ rfl rfl (fun h => ?_) (fun h => ?_)
 ·(refine ev2 @qbd.eq_1 @h ?_; try exact True.intro)
 ·(refine ev ?_; try exact True.intro)
  refine qs _ rfl rfl (fun h2 => ?_) (fun h2 => ?_)
  ·(refine ev3 @qbd.eq_1 @h @h2 ?_; try exact True.intro)
  ·(refine ev3 @qbd.eq_1 @h @h2 ?_; try exact True.intro)
def qcx (p : Pk) : Bool := role p.from_ && role p.to && p.from_ != p.to && decide (p.seq ≥ 1) && decide (p.seq ≤ 1099511627776)
theorem qql (p : Pk) : qg Tryz.prog 212 [.d (.agg (qe p))] [] (.d (.bool (qcx p))) [] := by
 first | refine F212.go ?_ | refine F212.goT ?_
 (refine ev1 @qe.eq_1 ?_; try exact True.intro)
 refine xw (q3o _) F219.body (fun h => h) (fun _ => ⟨qc, trivial⟩) rfl rfl rfl ?_
 (refine ev ?_; try exact True.intro)
 refine xw (q3o _) F219.body (fun h => h) (fun _ => ⟨qc, trivial⟩) rfl rfl rfl ?_
 (refine ev ?_; try exact True.intro)
 rfl
def bare (p : Pk) : Bool := p.epoch == 0 && (p.values.length : Int) == 0 && (p.clock.length : Int) == 0
theorem xcs (p : Pk) : qg Tryz.prog 218 [.d (.agg (qe p))] [] (.d (.bool (bare p))) [] := by
 first | refine F218.go ?_ | refine F218.goT ?_
 (refine ev1 @qe.eq_1 ?_; try exact True.intro)
 rfl
theorem qe8 (p : Pk) : ([ASlot.d (.agg (qe p))].all ASlot.noPtr) = true := by
 simp only [List.all_cons, List.all_nil, ASlot.noPtr, D.noPtr, qgp, Bool.and_self]
def ack (p : Pk) : Bool := qcx p && bare p && p.label == 0
theorem xp8 (p : Pk) : qg Tryz.prog 136 [.d (.agg (qe p))] [] (.d (.bool (ack p))) [] := by
 first | refine F136.go ?_ | refine F136.goT ?_
 (refine ev1 @qe.eq_1 ?_; try exact True.intro)
 refine xw (qql p) F212.body (fun h => h) (fun _ => ⟨qc, trivial⟩) (qe8 p) rfl rfl ?_
 (refine ev ?_; try exact True.intro)
 refine xw (xcs p) F218.body (fun h => h) (fun _ => ⟨qc, trivial⟩) (qe8 p) rfl rfl ?_
 (refine ev ?_; try exact True.intro)
 rfl
def order (p : Pk) : Bool := role p.from_ && (p.label == 1 || p.label == 2) && bare p && p.to == 0 && p.seq == 0
theorem q5v (p : Pk) : qg Tryz.prog 137 [.d (.agg (qe p))] [] (.d (.bool (order p))) [] := by
 first | refine F137.go ?_ | refine F137.goT ?_
 (refine ev1 @qe.eq_1 ?_; try exact True.intro)
 refine xw (q3o _) F219.body (fun h => h) (fun _ => ⟨qc, trivial⟩) rfl rfl rfl ?_
 (refine ev ?_; try exact True.intro)
 refine ⟨by simp_all, ?_⟩
 refine xw (xcs p) F218.body (fun h => h) (fun _ => ⟨qc, trivial⟩) (qe8 p) rfl rfl ?_
 (refine ev ?_; try exact True.intro)
 rfl
theorem xh6 (v : AV) : qg Tryz.prog 214 [.d (.agg (xr v))] [] (.d (.bool (!qbd v))) [] := by
 first | refine F214.go ?_ | refine F214.goT ?_
 (refine ev1 @xr.eq_1 ?_; try exact True.intro)
 refine xw (xcr v) F215.body (fun h => h) (fun _ => ⟨qc, trivial⟩) rfl rfl rfl ?_
 (refine ev ?_; try exact True.intro)
theorem xh7 (n : Int) : qg Tryz.prog 217 [.d (.int .i64 n)] [] (.d (.bool (decide (n < 0) || decide (n > 1099511627776)))) [] := by
 first | refine F217.go ?_ | refine F217.goT ?_
 (refine ev ?_; try exact True.intro)
 intro h
 rw [h]; rfl
end Go.Proofs.YtkcdbcbpbolgkaaGreatDoor
namespace Go.Proofs.YtkcdbcbpbolgkaaGreatDoor
open Go.Abs
theorem y4 (s : List UInt8) : D.noPtrR (qd s) = true := xx (fun _ => rfl) s
theorem xz (s t : List UInt8) : qd s ++ qd t = qd (s ++ t) := by simp [qd]
theorem qbr (c : UInt8) : [[D.int .u8 (c.toNat : Int)]] = qd [c] := rfl
theorem jq (s : List UInt8) : (qd s).length = s.length := by simp [qd]
theorem qu : qd [] = [] := rfl
attribute [go_sem] y4 jq
attribute [go_sem] qu
def qdr (u : Nat) : List UInt8 := if u < 128 then [UInt8.ofNat u] else UInt8.ofNat (u % 128 + 128) :: qdr (u / 128)
def zz (n : Int) : Nat := if 0 ≤ n then (2 * n).toNat else (-2 * n - 1).toNat
def wInt (n : Int) : List UInt8 := qdr (zz n)
def I64 (n : Int) : Prop := -9223372036854775808 ≤ n ∧ n ≤ 9223372036854775807
theorem ql6 : ∀ (k u : Nat), u < 128 ^ (k + 1) → (qdr u).length ≤ k + 1
 | 0, u, h => by rw [qdr, if_pos (by simpa using h)]; simp
 | k + 1, u, h => by
  rw [qdr]
  split
  ·simp
  ·have := ql6 k (u / 128) (by rw [Nat.div_lt_iff_lt_mul (by decide)]; rw [Nat.pow_succ] at h; exact h)
   simp; omega
theorem xh8 {n : Int} (h : I64 n) : zz n < 18446744073709551616 := by
 obtain ⟨h1, h2⟩ := h
 unfold zz; split <;> omega
theorem xt {n : Int} (h : I64 n) : (wInt n).length ≤ 10 := ql6 9 _ (Nat.lt_of_lt_of_le (xh8 h) (by decide))
theorem qqm (n : Int) : IntKind.u8.wrap n = n % 256 := by simp [IntKind.wrap, IntKind.bits, IntKind.signed]
theorem qi4 (a : Nat) (h : a < 2 ^ 64) : ((BitVec.ofInt 64 (a : Int)) ^^^ (BitVec.ofInt 64 18446744073709551615)).toNat = 18446744073709551615 - a := by
 have e1 : BitVec.ofInt 64 18446744073709551615 = BitVec.allOnes 64 := by decide
 have e2 : BitVec.ofInt 64 (a : Int) = BitVec.ofNat 64 a := by simp
 rw [e1, e2, BitVec.xor_allOnes, BitVec.toNat_not, BitVec.toNat_ofNat, Nat.mod_eq_of_lt h]
theorem xsv {n : Int} (h : I64 n) : IntKind.u64.wrap (qx0 64 (IntKind.u64.wrap (IntKind.u64.wrap n * 2 ^ min 1 64)) (IntKind.u64.wrap (n.fdiv (2 ^ min 63 64)))) = (zz n : Int) := by
 unfold qx0
 obtain ⟨h1, h2⟩ := h
 have hf : n.fdiv (2 ^ min 63 64) = if 0 ≤ n then 0 else -1 := by
  show n.fdiv 9223372036854775808 = _
  rw [Int.fdiv_eq_ediv_of_nonneg _ (by decide)]
  split <;> omega
 have hw : ∀ m : Int, IntKind.u64.wrap m = m % 18446744073709551616 := fun m => by simp [IntKind.wrap, IntKind.bits, IntKind.signed]
 have hz := xh8 ⟨h1, h2⟩
 have hp : (2 : Int) ^ min 1 64 = 2 := rfl
 rw [hf, hp]
 by_cases hn : 0 ≤ n
 ·rw [if_pos hn]
  have e0 : BitVec.ofInt 64 (IntKind.u64.wrap 0) = 0#64 := by rw [hw]; rfl
  have e1 : IntKind.u64.wrap (IntKind.u64.wrap n * 2) = ((zz n : Nat) : Int) := by rw [hw, hw]; unfold zz; rw [if_pos hn]; omega
  rw [e0, e1, BitVec.xor_zero, BitVec.ofInt_natCast, BitVec.toNat_ofNat, Nat.mod_eq_of_lt hz, hw]
  omega
 ·rw [if_neg hn]
  have e0 : IntKind.u64.wrap (-1) = 18446744073709551615 := by rw [hw]; rfl
  have e1 : IntKind.u64.wrap (IntKind.u64.wrap n * 2) = ((18446744073709551615 - zz n : Nat) : Int) := by rw [hw, hw]; unfold zz at hz ⊢; rw [if_neg hn] at hz ⊢; omega
  rw [e0, e1, qi4 _ (by show _ < 18446744073709551616; omega), hw]
  unfold zz at hz ⊢; rw [if_neg hn] at hz ⊢; omega
theorem xia (u : Nat) : (IntKind.u8.wrap (bvOr 8 (IntKind.u8.wrap (u : Int)) 128)) = ((UInt8.ofNat (u % 128 + 128)).toNat : Int) := by
 unfold bvOr
 have hw : ∀ m : Int, IntKind.u8.wrap m = m % 256 := fun m => by simp [IntKind.wrap, IntKind.bits, IntKind.signed]
 have e1 : BitVec.ofInt 8 (IntKind.u8.wrap (u : Int)) = BitVec.ofNat 8 (u % 256) := by rw [hw, show ((u : Int) % 256) = ((u % 256 : Nat) : Int) by omega, BitVec.ofInt_natCast]
 have key : ∀ x : Fin 256, (BitVec.ofNat 8 x.val ||| BitVec.ofInt 8 128).toNat = x.val % 128 + 128 := by decide +kernel
 have := key ⟨u % 256, Nat.mod_lt _ (by decide)⟩
 simp only at this
 rw [e1, this, hw]
 simp only [UInt8.toNat_ofNat']
 omega
theorem qeo {u : Nat} (h : ¬ u < 128) : qdr u = UInt8.ofNat (u % 128 + 128) :: qdr (u / 128) := by rw [qdr, if_neg h]
theorem qct {u : Nat} (h : u < 128) : qdr u = [UInt8.ofNat u] := by rw [qdr, if_pos h]
theorem xt9 (u : Nat) : (u : Int).fdiv (2 ^ min 7 64) = ((u / 128 : Nat) : Int) := by
 show (u : Int).fdiv 128 = _
 rw [Int.fdiv_eq_ediv_of_nonneg _ (by decide)]; omega
theorem qwa (u : Nat) : IntKind.u8.wrap (u : Int) = ((UInt8.ofNat u).toNat : Int) := by
 rw [qqm _, UInt8.toNat_ofNat']; omega
noncomputable section
set_option maxRecDepth 100000
set_option linter.defProp false
def d147 := cut Tryz.prog Tryz.f147 news
@[go_sem] def E147 := ql d147
def F147 := fnC d147 follows Tryz.func147
def d156 := cut Tryz.prog Tryz.f156 news
@[go_sem] def E156 := ql d156
def F156 := fnC d156 follows Tryz.func156
def d157 := cut Tryz.prog Tryz.f157 news
@[go_sem] def E157 := ql d157
def F157 := fnC d157 follows Tryz.func157
def d155 := cut Tryz.prog Tryz.f155 news
@[go_sem] def E155 := ql d155
def F155 := fnC d155 follows Tryz.func155
end
def xib (b : List UInt8) (n : Int) (i : { i : List UInt8 × Nat // i.1 ++ qdr i.2 = b ++ wInt n }) : St :=
 ⟨[(0, true, .own 0 1 (qd i.val.1)), (5, true, .d (.int .u64 (i.val.2 : Nat)))], [], [0], 1⟩
theorem kg (b : List UInt8) (n : Int) (hb : b.length ≤ 1000000000) (hn : I64 n) : qg Tryz.prog 147 [.own 0 1 (qd b), .d (.int .i64 n)] [] (.own 0 1 (qd (b ++ wInt n))) [] := by
 refine F147.go ?_
 try (refine ev1 (xsv hn) ?_; try exact True.intro)
 refine qk (xib b n) (fun i => i.val.2) ⟨(b, zz n), rfl⟩ ?_ (fun i => ?_)
 ·try (refine ev1 @xib.eq_1 ?_; try exact True.intro)
 obtain ⟨⟨p, u⟩, hi⟩ := i
 have hl : p.length ≤ 1000000010 := by
  have := congrArg List.length hi
  have := xt hn
  simp at *; omega
 try (refine ev1 @xib.eq_1 ?_; try exact True.intro)
 (repeat (with_reducible refine ob ?_)); refine xq _ (fun h => ?_) (fun h => ?_)
 ·have hu : ¬ u < 128 := by simp at h; omega
  try (refine ev4 @xia @qbr @xz @xt9 ?_; try exact True.intro)
  (repeat (with_reducible refine ob ?_))
  refine ⟨⟨(p ++ [UInt8.ofNat (u % 128 + 128)], u / 128), ?_⟩, ?_, ?_⟩
  ·simp only at hi ⊢; rw [qeo hu] at hi; rw [← hi]; simp
  ·try (refine ev1 @xib.eq_1 ?_; try exact True.intro)
  ·simp only; omega
 ·have hu : u < 128 := by simp at h; omega
  try (refine ev3 @qwa @qbr @xz ?_; try exact True.intro)
  (repeat (with_reducible refine ob ?_))
  simp only [qct hu] at hi
  try (refine ev1 @hi ?_; try exact True.intro)
theorem qqn (b : List UInt8) (v : Bool) (hb : b.length ≤ 1000000000) : qg Tryz.prog 156 [.own 0 1 (qd b), .d (.bool v)] [] (.own 0 1 (qd (b ++ [if v then 1 else 0]))) [] := by
 refine F156.go ?_
 try (refine ev ?_; try exact True.intro)
 have e1 : [[D.int .u8 1]] = qd [1] := rfl
 have e0 : [[D.int .u8 0]] = qd [0] := rfl
 cases v with
 | true =>
  try (refine ev ?_; try exact True.intro)
  (repeat (with_reducible refine ob ?_)); refine qck ?_
  try simp only [e1, xz, if_true, go_sem, Nat.reduceAdd, Nat.reduceMul, Nat.reduceSub, Nat.reduceEqDiff, Nat.reduceLT, Nat.reduceLeDiff, Nat.reduceBEq, reduceIte, reduceCtorEq, Int.reduceAdd, Int.reduceLT, Int.reduceLE, Int.reduceGT, Int.reduceGE, Int.reduceEq, Int.reduceNe, Int.reduceBEq, Int.reduceBNe, Int.reduceToNat, Int.reduceNeg]
  omega
 | false =>
  try (refine ev ?_; try exact True.intro)
  (repeat (with_reducible refine ob ?_)); refine no_ ?_
  try (refine ev2 @e0 @xz ?_; try exact True.intro)
  omega
def qa8 (s : List UInt8) : List UInt8 := wInt s.length ++ s
theorem x5 {n : Nat} (h : n ≤ 9000000000000000000) : I64 n := by unfold I64; omega
theorem qjd (b s : List UInt8) (hb : b.length + s.length ≤ 900000000) : qg Tryz.prog 157 [.own 0 1 (qd b), .d (.str s)] [] (.own 0 1 (qd (b ++ qa8 s))) [] := by
 refine F157.go ?_
 try (refine ev ?_; try exact True.intro)
 refine clA F147 (kg b s.length (by omega) (x5 (by omega))) ?_
 try (refine ev ?_; try exact True.intro)
 have hl := xt (x5 (n := s.length) (by omega))
 have e : qd (b ++ wInt s.length) ++ qd s = qd (b ++ qa8 s) := by rw [xz, qa8, List.append_assoc]
 try (refine ev2 @e @List.length_append.{0} ?_; try exact True.intro)
 refine ⟨by omega, by omega⟩
theorem qnj (b s : List UInt8) (hb : b.length + s.length ≤ 900000000) : qg Tryz.prog 155 [.own 0 1 (qd b), .d (.sl 1 (qd s))] [] (.own 0 1 (qd (b ++ qa8 s))) [] := by
 refine F155.go ?_
 try (refine ev ?_; try exact True.intro)
 refine clA F147 (kg b s.length (by omega) (x5 (by omega))) ?_
 try (refine ev ?_; try exact True.intro)
 have hl := xt (x5 (n := s.length) (by omega))
 have e : qd (b ++ wInt s.length) ++ qd s = qd (b ++ qa8 s) := by rw [xz, qa8, List.append_assoc]
 try (refine ev2 @e @List.length_append.{0} ?_; try exact True.intro)
 refine ⟨by omega, by omega⟩
end Go.Proofs.YtkcdbcbpbolgkaaGreatDoor
namespace Go.Proofs.YtkcdbcbpbolgkaaGreatDoor
open Go.Abs
def idx {α : Type} (f : α → Bool) (l : List α) : Int := if l.any f then (l.findIdx f : Int) else -1
theorem qe9 {α : Type} {f : α → Bool} {l : List α} {i : Nat} (h : (l.take i).any f = false) (hi : l.length ≤ i) : idx f l = -1 := by
 rw [List.take_of_length_le hi] at h
 simp [idx, h]
theorem qfa {α : Type} {f : α → Bool} {l : List α} {i : Nat} (h : (l.take i).any f = false) (hi : i < l.length) (hf : f l[i] = true) : idx f l = (i : Int) := by
 have ha : l.any f = true := List.any_eq_true.2 ⟨l[i], List.getElem_mem hi, hf⟩
 have hx : l.findIdx f = i := by
  rw [List.findIdx_eq hi]
  refine ⟨hf, fun j hj => ?_⟩
  rw [List.any_eq_false] at h
  have hj' : j < (l.take i).length := by simp; omega
  have := h (l.take i)[j] (List.getElem_mem hj')
  simpa using this
 simp [idx, ha, hx]
theorem vq {α : Type} {f : α → Bool} {l : List α} {i : Nat} (h : (l.take i).any f = false) (hi : i < l.length) (hf : f l[i] = false) : (l.take (i + 1)).any f = false := by
 rw [List.take_succ_eq_append_getElem hi, List.any_append, h]
 simp [hf]
theorem qtu {α : Type} (f : α → Bool) (l : List α) : decide (idx f l ≥ 0) = l.any f := by
 unfold idx
 cases l.any f <;> simp
noncomputable section
set_option maxRecDepth 100000
set_option linter.defProp false
def d267 := cut Tryz.prog Tryz.f267 news
@[go_sem] def E267 := ql d267
def F267 := fnC d267 follows Tryz.func267
def d268 := cut Tryz.prog Tryz.f268 news
@[go_sem] def E268 := ql d268
def F268 := fnC d268 follows Tryz.func268
def d213 := cut Tryz.prog Tryz.f213 news
@[go_sem] def E213 := ql d213
def F213 := fnC d213 follows Tryz.func213
def d216 := cut Tryz.prog Tryz.f216 news
@[go_sem] def E216 := ql d216
def F216 := fnC d216 follows Tryz.func216
end
def Sidx {α : Type} (es : Nat) (enc : α → List D) (k : FuncId) (l : List α) (f : α → Bool) (i : { i : Nat // (l.take i).any f = false }) : St :=
 ⟨[(0, true, .d (.sl es (l.map enc))), (1, true, .d (.func (.func k) [] [])), (6, true, .d (.sl es (l.map enc))), (7, true, .d (.int .i64 l.length)), (8, true, .d (.int .i64 (i.val : Nat)))], [], [], 1⟩
theorem xct {k : FuncId} {f : AV → Bool} (hb : (Tryz.prog.funcs[k]?).any (fun fn => fn.body.isSome && !(fn.name == "runtime.NumGoroutine")) = true)
  (hf : ∀ v, qg Tryz.prog k [.d (.agg (xr v))] [] (.d (.bool (f v))) []) (l : List AV) (hl : l.length ≤ maxLen) :
  qg Tryz.prog 267 [.d (.sl 3 (l.map xr)), .d (.func (.func k) [] [])] [] (.d (.int .i64 (idx f l))) [] := by
 first | refine F267.go ?_ | refine F267.goT ?_
 (refine ev ?_; try exact True.intro)
 refine qk (Sidx 3 xr k l f) (fun i => l.length - i.val) ⟨0, rfl⟩ ?_ (fun i => ?_)
 ·(refine ev2 @Sidx.eq_1 (xx yq) ?_; try exact True.intro)
 ·obtain ⟨i, hi⟩ := i
  (refine ev1 @Sidx.eq_1 ?_; try exact True.intro)
  refine qs _ rfl rfl (fun h => ?_) (fun h => ?_)
  ·have hil : i < l.length := by simpa using h
   (refine ev2 (qi xr l hil) @xr.eq_1 ?_; try exact True.intro)
   refine ⟨by omega, ?_⟩
   refine xw (hf l[i]) hb (fun h => h) (fun _ => ⟨qc, trivial⟩) rfl rfl rfl ?_
   (refine ev ?_; try exact True.intro)
   refine qs _ rfl rfl (fun h2 => ?_) (fun h2 => ?_)
   ·(refine ev1 (qfa hi hil h2) ?_; try exact True.intro)
   ·(refine ev ?_; try exact True.intro)
    refine ⟨⟨i + 1, vq hi hil h2⟩, ?_, by dsimp only; omega⟩
    (refine ev3 @Sidx.eq_1 (qf (show i < 9223372036854775807 by unfold maxLen at hl; omega)) (xx yq) ?_; try exact True.intro)
  ·have hil : l.length ≤ i := by simpa using h
   (refine ev1 (qe9 hi hil) ?_; try exact True.intro)
theorem xcu {k : FuncId} {f : Int → Bool} (hb : (Tryz.prog.funcs[k]?).any (fun fn => fn.body.isSome && !(fn.name == "runtime.NumGoroutine")) = true)
  (hf : ∀ v, qg Tryz.prog k [.d (.int .i64 v)] [] (.d (.bool (f v))) []) (l : List Int) (hl : l.length ≤ maxLen) :
  qg Tryz.prog 268 [.d (.sl 1 (l.map encI)), .d (.func (.func k) [] [])] [] (.d (.int .i64 (idx f l))) [] := by
 first | refine F268.go ?_ | refine F268.goT ?_
 (refine ev ?_; try exact True.intro)
 refine qk (Sidx 1 encI k l f) (fun i => l.length - i.val) ⟨0, rfl⟩ ?_ (fun i => ?_)
 ·(refine ev2 @Sidx.eq_1 (xx qcs) ?_; try exact True.intro)
 ·obtain ⟨i, hi⟩ := i
  (refine ev1 @Sidx.eq_1 ?_; try exact True.intro)
  refine qs _ rfl rfl (fun h => ?_) (fun h => ?_)
  ·have hil : i < l.length := by simpa using h
   (refine ev2 (qi encI l hil) @encI.eq_1 ?_; try exact True.intro)
   refine ⟨by omega, ?_⟩
   refine xw (hf l[i]) hb (fun h => h) (fun _ => ⟨qc, trivial⟩) rfl rfl rfl ?_
   (refine ev ?_; try exact True.intro)
   refine qs _ rfl rfl (fun h2 => ?_) (fun h2 => ?_)
   ·(refine ev1 (qfa hi hil h2) ?_; try exact True.intro)
   ·(refine ev ?_; try exact True.intro)
    refine ⟨⟨i + 1, vq hi hil h2⟩, ?_, by dsimp only; omega⟩
    (refine ev3 @Sidx.eq_1 (qf (show i < 9223372036854775807 by unfold maxLen at hl; omega)) (xx qcs) ?_; try exact True.intro)
  ·have hil : l.length ≤ i := by simpa using h
   (refine ev1 (qe9 hi hil) ?_; try exact True.intro)
theorem qzo {k : FuncId} {f : AV → Bool} (hb : (Tryz.prog.funcs[k]?).any (fun fn => fn.body.isSome && !(fn.name == "runtime.NumGoroutine")) = true)
  (hf : ∀ v, qg Tryz.prog k [.d (.agg (xr v))] [] (.d (.bool (f v))) []) (l : List AV) (hl : l.length ≤ maxLen) :
  qg Tryz.prog 213 [.d (.sl 3 (l.map xr)), .d (.func (.func k) [] [])] [] (.d (.bool (l.any f))) [] := by
 first | refine F213.go ?_ | refine F213.goT ?_
 (refine ev ?_; try exact True.intro)
 refine xw (xct hb hf l hl) F267.body (fun h => h) (fun _ => ⟨qc, qc, trivial⟩) (by simp [ASlot.noPtr, D.noPtr, D.noPtrL, xx yq]) rfl rfl ?_
 (refine ev1 @qtu ?_; try exact True.intro)
theorem qzp {k : FuncId} {f : Int → Bool} (hb : (Tryz.prog.funcs[k]?).any (fun fn => fn.body.isSome && !(fn.name == "runtime.NumGoroutine")) = true)
  (hf : ∀ v, qg Tryz.prog k [.d (.int .i64 v)] [] (.d (.bool (f v))) []) (l : List Int) (hl : l.length ≤ maxLen) :
  qg Tryz.prog 216 [.d (.sl 1 (l.map encI)), .d (.func (.func k) [] [])] [] (.d (.bool (l.any f))) [] := by
 first | refine F216.go ?_ | refine F216.goT ?_
 (refine ev ?_; try exact True.intro)
 refine xw (xcu hb hf l hl) F268.body (fun h => h) (fun _ => ⟨qc, qc, trivial⟩) (by simp [ASlot.noPtr, D.noPtr, D.noPtrL, xx qcs]) rfl rfl ?_
 (refine ev1 @qtu ?_; try exact True.intro)
noncomputable section
set_option maxRecDepth 100000
set_option linter.defProp false
def d135 := cut Tryz.prog Tryz.f135 news
@[go_sem] def E135 := ql d135
def F135 := fnC d135 follows Tryz.func135
def d70 := cut Tryz.prog Tryz.f70 news
@[go_sem] def E70 := ql d70
def F70 := fnC d70 follows Tryz.func70
end
def data (p : Pk) : Bool := qcx p && (p.epoch == 0 || p.epoch == 1) && decide (p.label ≥ 0) && decide (p.label < 40) && decide ((p.values.length : Int) ≤ 4) && decide ((p.clock.length : Int) ≤ 6) && !(p.values.any fun v => !qbd v) && !(p.clock.any fun n => decide (n < 0) || decide (n > 1099511627776))
theorem xm8 (p : Pk) (h1 : p.values.length ≤ maxLen) (h2 : p.clock.length ≤ maxLen) : qg Tryz.prog 135 [.d (.agg (qe p))] [] (.d (.bool (data p))) [] := by
 first | refine F135.go ?_ | refine F135.goT ?_
 (refine ev1 @qe.eq_1 ?_; try exact True.intro)
 refine xw (qql p) F212.body (fun h => h) (fun _ => ⟨qc, trivial⟩) (qe8 p) rfl rfl ?_
 (refine ev ?_; try exact True.intro)
 refine ⟨by simp_all, ?_⟩
 refine xw (qzo F214.body xh6 p.values h1) F213.body (fun h => h) (fun _ => ⟨qc, qc, trivial⟩) (by simp [ASlot.noPtr, D.noPtr, D.noPtrL, xx yq]) rfl rfl ?_
 (refine ev ?_; try exact True.intro)
 refine xw (qzp F217.body xh7 p.clock h2) F216.body (fun h => h) (fun _ => ⟨qc, qc, trivial⟩) (by simp [ASlot.noPtr, D.noPtr, D.noPtrL, xx qcs]) rfl rfl ?_
 (refine ev ?_; try exact True.intro)
 rfl
def qep (p : Pk) : Bool := decide (p.kind ≥ 1) && decide (p.kind ≤ 4) && decide (p.sess ≥ 1) && decide (p.sess ≤ 32)
def qj (p : Pk) : Bool := qep p && (if p.kind = 1 then data p else if p.kind = 2 then ack p else order p)
theorem zr (p : Pk) (h1 : p.values.length ≤ maxLen) (h2 : p.clock.length ≤ maxLen) : qg Tryz.prog 70 [.d (.agg (qe p))] [] (.d (.bool (qj p))) [] := by
 first | refine F70.go ?_ | refine F70.goT ?_
 (refine ev1 @qe.eq_1 ?_; try exact True.intro)
 have hk : (decide (p.kind ≥ 1) && decide (p.kind ≤ 4) && decide (p.sess ≥ 1) && decide (p.sess ≤ 32)) = qep p := rfl
 simp only [hk]
 cases hG : qep p with
 | false =>
  (refine ev ?_; try exact True.intro)
  refine qkm (.bool false) rfl ?_
  (refine ev2 @qj.eq_1 @hG ?_; try exact True.intro)
 | true =>
  have h4 : p.kind = 1 ∨ p.kind = 2 ∨ p.kind = 3 ∨ p.kind = 4 := by simp [qep] at hG; omega
  rcases h4 with hp | hp | hp | hp <;> simp only [hp, Int.reduceToNat, Int.reduceLE, Int.reduceLT, go_sem, Nat.reduceAdd, Nat.reduceMul, Nat.reduceSub, Nat.reduceEqDiff, Nat.reduceLT, Nat.reduceLeDiff, Nat.reduceBEq, reduceIte, reduceCtorEq, Int.reduceAdd, Int.reduceLT, Int.reduceLE, Int.reduceGT, Int.reduceGE, Int.reduceEq, Int.reduceNe, Int.reduceBEq, Int.reduceBNe, Int.reduceToNat, Int.reduceNeg]
  ·refine xw (xm8 p h1 h2) F135.body (fun h => h) (fun _ => ⟨by simp [qb7, ASlot.eqvD, D.eqv_refl, qe, hp], trivial⟩) (qe8 p) rfl rfl ?_
   (refine ev3 @qj.eq_1 @hG @hp ?_; try exact True.intro)
  ·refine xw (xp8 p) F136.body (fun h => h) (fun _ => ⟨by simp [qb7, ASlot.eqvD, D.eqv_refl, qe, hp], trivial⟩) (qe8 p) rfl rfl ?_
   (refine ev3 @qj.eq_1 @hG @hp ?_; try exact True.intro)
  ·refine xw (q5v p) F137.body (fun h => h) (fun _ => ⟨by simp [qb7, ASlot.eqvD, D.eqv_refl, qe, hp], trivial⟩) (qe8 p) rfl rfl ?_
   (refine ev3 @qj.eq_1 @hG @hp ?_; try exact True.intro)
  ·refine xw (q5v p) F137.body (fun h => h) (fun _ => ⟨by simp [qb7, ASlot.eqvD, D.eqv_refl, qe, hp], trivial⟩) (qe8 p) rfl rfl ?_
   (refine ev3 @qj.eq_1 @hG @hp ?_; try exact True.intro)
end Go.Proofs.YtkcdbcbpbolgkaaGreatDoor
namespace Go.Proofs.YtkcdbcbpbolgkaaGreatDoor
open Go.Abs
structure OpS where
 key : List UInt8
 del : Bool
 val : List UInt8
 deriving DecidableEq, Inhabited
def qo (o : OpS) : List D := [.str o.key, .bool o.del, .sl 1 (qd o.val)]
theorem qje (o : OpS) : D.noPtrL (qo o) = true := by simp only [qo, D.noPtrL, D.noPtr, y4, Bool.and_self]
theorem qca (l : List OpS) : D.noPtrR (l.map qo) = true := xx qje l
attribute [go_sem] qje qca
noncomputable section
set_option maxRecDepth 100000
set_option linter.defProp false
def d154 := cut Tryz.prog Tryz.f154 news
@[go_sem] def E154 := ql d154
def F154 := fnC d154 follows Tryz.func154
def d153 := cut Tryz.prog Tryz.f153 news
@[go_sem] def E153 := ql d153
def F153 := fnC d153 follows Tryz.func153
def d231 := cut Tryz.prog Tryz.f231 news
@[go_sem] def E231 := ql d231
def F231 := fnC d231 follows Tryz.func231
def d152 := cut Tryz.prog Tryz.f152 news
@[go_sem] def E152 := ql d152
def F152 := fnC d152 follows Tryz.func152
def d85 := cut Tryz.prog Tryz.f85 news
@[go_sem] def E85 := ql d85
def F85 := fnC d85 follows Tryz.func85
end
def kj (o : OpS) : Bool := decide ((o.key.length : Int) ≥ 1) && decide ((o.key.length : Int) ≤ 40) && decide ((o.val.length : Int) ≤ 900) && !(o.del && decide ((o.val.length : Int) > 0))
theorem qtv (o : OpS) : qg Tryz.prog 154 [.d (.agg (qo o))] [] (.d (.bool (kj o))) [] := by
 refine F154.go ?_
 try (refine ev1 @qo.eq_1 ?_; try exact True.intro)
 simp only [kj, and_true]
 intro h
 refine ⟨h, fun h2 => ?_⟩
 rw [h, h2]; rfl
theorem ql7 (o : OpS) : qg Tryz.prog 153 [.d (.agg (qo o))] [] (.d (.bool (!kj o))) [] := by
 refine F153.go ?_
 try (refine ev1 @qo.eq_1 ?_; try exact True.intro)
 (repeat (with_reducible refine ob ?_)); first | refine cl F154 (qtv o) ?_ | refine clF F154 (qtv o) (fun _ => by (refine ev1 @qo.eq_1 ?_; try exact True.intro)) ?_
 try (refine ev ?_; try exact True.intro)
def xic (k : FuncId) (l : List OpS) (f : OpS → Bool) (i : { i : Nat // (l.take i).any f = false }) : St :=
 ⟨[(0, true, .d (.sl 3 (l.map qo))), (1, true, .d (.func (.func k) [] [])), (7, true, .d (.int .i64 l.length)), (8, true, .d (.int .i64 (i.val : Nat)))], [], [], 1⟩
theorem qzq {k : FuncId} {f : OpS → Bool} (hb : (Tryz.prog.funcs[k]?).any (fun fn => fn.body.isSome && !(fn.name == "runtime.NumGoroutine")) = true)
  (hf : ∀ v, qg Tryz.prog k [.d (.agg (qo v))] [] (.d (.bool (f v))) []) (l : List OpS) (hl : l.length ≤ maxLen) :
  qg Tryz.prog 231 [.d (.sl 3 (l.map qo)), .d (.func (.func k) [] [])] [] (.d (.int .i64 (idx f l))) [] := by
 refine F231.go ?_
 try (refine ev ?_; try exact True.intro)
 refine qk (xic k l f) (fun i => l.length - i.val) ⟨0, rfl⟩ ?_ (fun i => ?_)
 ·try (refine ev1 @xic.eq_1 ?_; try exact True.intro)
 obtain ⟨i, hi⟩ := i
 try (refine ev1 @xic.eq_1 ?_; try exact True.intro)
 (repeat (with_reducible refine ob ?_)); refine xq _ (fun h => ?_) (fun h => ?_)
 ·have hil : i < l.length := by simpa using h
  (refine ev2 (qi qo l hil) @qo.eq_1 ?_; try exact True.intro)
  (repeat (with_reducible refine ob ?_))
  refine xw (hf l[i]) hb (fun h => h) (fun _ => ⟨qc, trivial⟩) (by try (refine ev1 @qo.eq_1 ?_; try exact True.intro)) rfl rfl ?_
  try (refine ev ?_; try exact True.intro)
  (repeat (with_reducible refine ob ?_)); refine xq _ (fun h => ?_) (fun h => ?_)
  ·try (refine ev1 (qfa hi hil h) ?_; try exact True.intro)
  ·try (refine ev ?_; try exact True.intro)
   refine ⟨⟨i + 1, vq hi hil (by simpa using h)⟩, ?_, by dsimp only; omega⟩
   try (refine ev2 @xic.eq_1 (qf (show i < 9223372036854775807 by unfold maxLen at hl; omega)) ?_; try exact True.intro)
 ·have hil : l.length ≤ i := by simpa using h
  try (refine ev1 (qe9 hi hil) ?_; try exact True.intro)
theorem qnk {k : FuncId} {f : OpS → Bool} (hb : (Tryz.prog.funcs[k]?).any (fun fn => fn.body.isSome && !(fn.name == "runtime.NumGoroutine")) = true)
  (hf : ∀ v, qg Tryz.prog k [.d (.agg (qo v))] [] (.d (.bool (f v))) []) (l : List OpS) (hl : l.length ≤ maxLen) :
  qg Tryz.prog 152 [.d (.sl 3 (l.map qo)), .d (.func (.func k) [] [])] [] (.d (.bool (l.any f))) [] := by
 refine F152.go ?_
 try (refine ev ?_; try exact True.intro)
 (repeat (with_reducible refine ob ?_)); first | refine cl F231 (qzq hb hf l hl) ?_ | refine clF F231 (qzq hb hf l hl) (fun _ => by (refine ev1 @qo.eq_1 ?_; try exact True.intro)) ?_
 try (refine ev1 @qtu ?_; try exact True.intro)
def wOp (o : OpS) : List UInt8 := qa8 o.key ++ [if o.del then 1 else 0] ++ qa8 o.val
def wOps (l : List OpS) : List UInt8 := wInt l.length ++ l.flatMap wOp
def qr (l : List OpS) : List UInt8 × Int :=
 if l.length = 0 || l.any (fun o => !kj o) then ([], 1) else if l.length > 20 || (wOps l).length > 2000 then ([], 6) else (wOps l, 0)
theorem we {o : OpS} : kj o = true ↔ 1 ≤ o.key.length ∧ o.key.length ≤ 40 ∧ o.val.length ≤ 900 ∧ (o.del = true → o.val.length = 0) := by
 unfold kj
 cases o.del <;> simp [-List.length_eq_zero_iff] <;> omega
theorem qeq (s : List UInt8) (h : s.length ≤ 900000000) : (qa8 s).length ≤ s.length + 10 := by
 have := xt (x5 (n := s.length) (by omega))
 simp [qa8]; omega
theorem q3p {o : OpS} (h : kj o = true) : (wOp o).length ≤ 1000 := by
 obtain ⟨h1, h2, h3, _⟩ := we.1 h
 have k1 := qeq o.key (Nat.le_trans h2 (by decide))
 have k2 := qeq o.val (Nat.le_trans h3 (by decide))
 simp only [wOp, List.length_append, List.length_cons, List.length_nil]; omega
theorem qh9 {l : List OpS} (h : ∀ o ∈ l, kj o = true) : (l.flatMap wOp).length ≤ l.length * 1000 := by
 induction l with
 | nil => simp
 | cons o l ih =>
  have h1 := q3p (h o List.mem_cons_self)
  have h2 := ih (fun x hx => h x (List.mem_cons_of_mem _ hx))
  simp only [List.flatMap_cons, List.length_append, List.length_cons]
  omega
def Senc (l : List OpS) (i : { i : Nat // i ≤ l.length }) : St :=
 ⟨[(0, true, .d (.sl 3 (l.map qo))), (4, true, .own 0 1 (qd (wInt l.length ++ (l.take i.val).flatMap wOp))), (17, true, .d (.sl 3 (l.map qo))), (18, true, .d (.int .i64 l.length)), (19, true, .d (.int .i64 (i.val : Nat)))], [], [0], 1⟩
theorem qhp : (Tryz.prog.funcs[153]?).any (fun fn => fn.body.isSome && !(fn.name == "runtime.NumGoroutine")) = true := F153.body
theorem qf1 {α β : Type} (f : α → List β) (l : List α) {i : Nat} (h : i < l.length) : (l.take (i + 1)).flatMap f = (l.take i).flatMap f ++ f l[i] := by
 rw [List.take_succ_eq_append_getElem h, List.flatMap_append, List.flatMap_cons, List.flatMap_nil, List.append_nil]
theorem qia (l : List OpS) (hl : l.length ≤ 100000) : qg Tryz.prog 85 [.d (.sl 3 (l.map qo))] [] (.tup [.d (.sl 1 (qd (qr l).1)), .d (.int .i64 (qr l).2)]) [] := by
 refine F85.goT ?_
 try (refine ev ?_; try exact True.intro)
 (repeat (with_reducible refine ob ?_)); first | refine cl F152 (qnk qhp ql7 l (by unfold maxLen; omega)) ?_ | refine clF F152 (qnk qhp ql7 l (by unfold maxLen; omega)) (fun _ => by (refine ev1 @qo.eq_1 ?_; try exact True.intro)) ?_
 try (refine ev ?_; try exact True.intro)
 (repeat (with_reducible refine ob ?_))
 (repeat (with_reducible refine ob ?_)); refine xq _ (fun h => ?_) (fun h => ?_)
 ·have hb : qr l = ([], 1) := by
   unfold qr
   rw [if_pos]
   simp only [Bool.or_eq_true, decide_eq_true_eq, beq_iff_eq] at h ⊢
   rcases h with h | h
   ·left; omega
   ·right; exact h
  try (refine ev2 @hb @qu ?_; try exact True.intro)
 have hne : ¬ (decide (l.length = 0) || l.any (fun o => !kj o)) = true := by
  simp only [Bool.or_eq_true, decide_eq_true_eq, not_or]
  simp only [Bool.or_eq_false_iff, beq_eq_false_iff_ne] at h
  exact ⟨by omega, by simp [h.2]⟩
 have hpr : ∀ o ∈ l, kj o = true := by
  simp only [Bool.or_eq_true, not_or, List.any_eq_true, not_exists, not_and] at hne
  intro o ho
  simpa using hne.2 o ho
 have hwl := qh9 hpr
 have hil0 := xt (x5 (n := l.length) (by omega))
 try (refine ev ?_; try exact True.intro)
 refine clA F147 (kg [] l.length (by simp) (x5 (by omega))) ?_
 try (refine ev ?_; try exact True.intro)
 refine qk (Senc l) (fun i => l.length - i.val) ⟨0, Nat.zero_le _⟩ ?_ (fun i => ?_)
 ·try (refine ev2 @Senc.eq_1 @List.take_zero.{0} ?_; try exact True.intro)
 obtain ⟨i, hi⟩ := i
 try (refine ev1 @Senc.eq_1 ?_; try exact True.intro)
 (repeat (with_reducible refine ob ?_)); refine xq _ (fun h => ?_) (fun h => ?_)
 ·have hil : i < l.length := by simpa using h
  have ho := hpr l[i] (List.getElem_mem hil)
  obtain ⟨p1, p2, p3, _⟩ := we.1 ho
  have hpre : (wInt l.length ++ (l.take i).flatMap wOp).length ≤ 100000020 := by
   have := qh9 (l := l.take i) (fun o h => hpr o (List.mem_of_mem_take h))
   simp only [List.length_append, List.length_take] at this ⊢
   have : min i l.length ≤ 100000 := by omega
   omega
  have k1 := qeq l[i].key (by omega)
  try (refine ev2 (qi qo l hil) @qo.eq_1 ?_; try exact True.intro)
  (repeat (with_reducible refine ob ?_))
  refine clA F157 (qjd (wInt l.length ++ (l.take i).flatMap wOp) l[i].key (by omega)) ?_
  try (refine ev ?_; try exact True.intro)
  refine clA F156 (qqn ((wInt l.length ++ (l.take i).flatMap wOp) ++ qa8 l[i].key) l[i].del (by simp only [List.length_append] at hpre ⊢; omega)) ?_
  try (refine ev ?_; try exact True.intro)
  refine clA F155 (qnj ((wInt l.length ++ (l.take i).flatMap wOp) ++ qa8 l[i].key ++ [if l[i].del then 1 else 0]) l[i].val (by simp only [List.length_append, List.length_cons, List.length_nil] at hpre ⊢; omega)) ?_
  try (refine ev ?_; try exact True.intro)
  have e : wInt l.length ++ (l.take i).flatMap wOp ++ qa8 l[i].key ++ [if l[i].del then 1 else 0] ++ qa8 l[i].val = wInt l.length ++ (l.take (i + 1)).flatMap wOp := by
   rw [qf1 wOp l hil, wOp]; simp only [List.append_assoc]
  refine ⟨⟨i + 1, hil⟩, ?_, by dsimp only; omega⟩
  try (refine ev3 @Senc.eq_1 @e (qf (show i < 9223372036854775807 by omega)) ?_; try exact True.intro)
 ·have hie : i = l.length := by simp at h; omega
  subst hie
  try (refine ev1 @List.take_length.{0} ?_; try exact True.intro)
  have hw : wInt l.length ++ l.flatMap wOp = wOps l := rfl
  have hw2 : (wOps l).length = (wInt l.length).length + (l.flatMap wOp).length := by rw [wOps, List.length_append]
  try (refine ev1 @hw ?_; try exact True.intro)
  (repeat (with_reducible refine ob ?_)); refine xq _ (fun h => ?_) (fun h => ?_)
  ·have hb : qr l = ([], 6) := by
    unfold qr
    rw [if_neg hne, if_pos]
    simp only [Bool.or_eq_true, decide_eq_true_eq] at h ⊢
    omega
   try (refine ev2 @hb @qu ?_; try exact True.intro)
  ·have hb : qr l = (wOps l, 0) := by
    unfold qr
    rw [if_neg hne, if_neg]
    simp only [Bool.or_eq_true, Bool.or_eq_false_iff, decide_eq_true_eq, decide_eq_false_iff_not] at h ⊢
    omega
   try (refine ev1 @hb ?_; try exact True.intro)
end Go.Proofs.YtkcdbcbpbolgkaaGreatDoor
namespace Go.Proofs.YtkcdbcbpbolgkaaGreatDoor
open Go.Abs
noncomputable section
set_option maxRecDepth 100000
set_option linter.defProp false
def d233 := cut Tryz.prog Tryz.f233 news
@[go_sem] def E233 := ql d233
def F233 := fnC d233 follows Tryz.func233
def d161 := cut Tryz.prog Tryz.f161 news
@[go_sem] def E161 := ql d161
def F161 := fnC d161 follows Tryz.func161
def d159 := cut Tryz.prog Tryz.f159 news
@[go_sem] def E159 := ql d159
def F159 := fnC d159 follows Tryz.func159
end
def fnv1 (h : Nat) (c : UInt8) : Nat := (h ^^^ c.toNat) * 1099511628211 % 18446744073709551616
def fnv (h : Nat) (s : List UInt8) : Nat := s.foldl fnv1 h
theorem q3q (h : Nat) : fnv h [] = h := rfl
theorem qwb (h : Nat) (s : List UInt8) (c : UInt8) : fnv h (s ++ [c]) = (fnv h s ^^^ c.toNat) * 1099511628211 % 18446744073709551616 := by
 have : fnv h (s ++ [c]) = fnv1 (fnv h s) c := by unfold fnv; rw [List.foldl_append, List.foldl_cons, List.foldl_nil]
 rw [this, fnv1]
theorem qqo {h : Nat} (hh : h < 18446744073709551616) (s : List UInt8) : fnv h s < 18446744073709551616 := by
 rcases List.eq_nil_or_concat s with rfl | ⟨t, c, rfl⟩
 ·rw [q3q]; exact hh
 ·rw [List.concat_eq_append, qwb]
  generalize (fnv h t ^^^ c.toNat) * 1099511628211 = x
  omega
theorem qjf (n : Int) : IntKind.u64.wrap n = n % 18446744073709551616 := by simp [IntKind.wrap, IntKind.bits, IntKind.signed]
theorem xid (a b : Nat) (ha : a < 18446744073709551616) (hb : b < 18446744073709551616) : a ^^^ b < 18446744073709551616 := by
 have p : (18446744073709551616 : Nat) = 2 ^ 64 := by decide
 rw [p] at *
 exact Nat.xor_lt_two_pow ha hb
theorem xcv (a b : Nat) (ha : a < 18446744073709551616) (hb : b < 18446744073709551616) : qx0 64 (a : Int) (b : Int) = ((a ^^^ b : Nat) : Int) := by
 unfold qx0
 rw [BitVec.ofInt_natCast, BitVec.ofInt_natCast, BitVec.toNat_xor, BitVec.toNat_ofNat, BitVec.toNat_ofNat, Nat.mod_eq_of_lt ha, Nat.mod_eq_of_lt hb]
theorem f1 (x : Nat) : IntKind.u64.wrap ((x : Int) * 1099511628211) = ((x * 1099511628211 % 18446744073709551616 : Nat) : Int) := by
 rw [qjf]
 simp only [Int.natCast_emod, Int.natCast_mul, Int.cast_ofNat_Int]
theorem f2 (x : Nat) (h : x < 18446744073709551616) : IntKind.u64.wrap (x : Int) = x := by
 rw [qjf]; omega
theorem q5w (h c : Nat) (hh : h < 18446744073709551616) (hc : c < 256) :
  IntKind.u64.wrap (IntKind.u64.wrap (qx0 64 (h : Int) (IntKind.u64.wrap (c : Int))) * 1099511628211) = (((h ^^^ c) * 1099511628211 % 18446744073709551616 : Nat) : Int) := by
 rw [f2 c (by omega), xcv h c hh (by omega), f2 _ (xid h c hh (by omega)), f1]
theorem qfq (c : UInt8) : c.toNat < 256 := UInt8.toNat_lt c
theorem jg (s : List UInt8) {i : Nat} (h : i < s.length) : (qd s).getD i [] = [.int .u8 (s[i].toNat : Int)] := qi (fun c : UInt8 => [D.int .u8 (c.toNat : Int)]) s h []
def xie (h : Nat) (s : List UInt8) (i : { i : Nat // i ≤ s.length }) : St :=
 ⟨[(0, true, .d (.int .u64 (fnv h (s.take i.val) : Nat))), (7, true, .d (.sl 1 (qd s))), (8, true, .d (.int .i64 s.length)), (9, true, .d (.int .i64 (i.val : Nat)))], [], [], 1⟩
theorem xcw (h : Nat) (s : List UInt8) (hh : h < 18446744073709551616) (hl : s.length ≤ 1000000000) : qg Tryz.prog 233 [.d (.int .u64 h), .d (.sl 1 (qd s))] [] (.d (.int .u64 (fnv h s : Nat))) [] := by
 refine F233.go ?_
 try (refine ev ?_; try exact True.intro)
 refine qk (xie h s) (fun i => s.length - i.val) ⟨0, Nat.zero_le _⟩ ?_ (fun i => ?_)
 ·try (refine ev3 @xie.eq_1 @List.take_zero.{0} @q3q ?_; try exact True.intro)
 obtain ⟨i, hi⟩ := i
 try (refine ev1 @xie.eq_1 ?_; try exact True.intro)
 (repeat (with_reducible refine ob ?_)); refine xq _ (fun h => ?_) (fun h => ?_)
 ·have hil : i < s.length := by simpa using h
  try (refine ev1 (jg s hil) ?_; try exact True.intro)
  (repeat (with_reducible refine ob ?_))
  try simp only [q5w _ _ (qqo hh (s.take i)) (qfq s[i]), go_sem, Nat.reduceAdd, Nat.reduceMul, Nat.reduceSub, Nat.reduceEqDiff, Nat.reduceLT, Nat.reduceLeDiff, Nat.reduceBEq, reduceIte, reduceCtorEq, Int.reduceAdd, Int.reduceLT, Int.reduceLE, Int.reduceGT, Int.reduceGE, Int.reduceEq, Int.reduceNe, Int.reduceBEq, Int.reduceBNe, Int.reduceToNat, Int.reduceNeg]
  refine ⟨⟨i + 1, hil⟩, ?_, by dsimp only; omega⟩
  try (refine ev4 @xie.eq_1 (qf (show i < 9223372036854775807 by omega)) (List.take_succ_eq_append_getElem hil) @qwb ?_; try exact True.intro)
 ·have hie : i = s.length := by simp at h; omega
  subst hie
  try (refine ev1 @List.take_length.{0} ?_; try exact True.intro)
def ju (c : UInt8) : D := .int .u8 c.toNat
theorem q3r (s : List UInt8) : D.noPtrL (s.map ju) = true := by induction s <;> simp_all [D.noPtrL, D.noPtr, ju]
theorem qjg (s : List UInt8) : (s.map ju).all D.isCell = true := by induction s <;> simp_all [D.isCell, ju]
attribute [go_sem] q3r qjg
theorem q8w (s : List UInt8) {i : Nat} (h : i < s.length) (x : ASlot) : ((s.map ju).map ASlot.d).getD i x = .d (.int .u8 (s[i].toNat : Int)) := by simp [h, ju]
theorem qdy (s : List UInt8) : (qd s).flatten = s.map ju := by induction s <;> simp_all [qd, ju]
theorem qzr (s : List UInt8) : qb2 1 s.length (s.map ju) = qd s := by
 induction s with
 | nil => rfl
 | cons c s ih => simp only [List.length_cons, List.map_cons, qb2, List.take_succ_cons, List.take_zero, List.drop_succ_cons, List.drop_zero, ih]; rfl
def q5x (h : Nat) (s : List UInt8) (i : { i : Nat // i ≤ s.length }) : St :=
 ⟨[(0, true, .d (.int .u64 (fnv h (s.take i.val) : Nat))), (7, true, .d (.ref 0 0 1 s.length)), (8, true, .d (.int .i64 s.length)), (9, true, .d (.int .i64 (i.val : Nat)))], [.row ((s.map ju).map .d)], [], 1⟩
theorem xif (h : Nat) (s : List UInt8) (hh : h < 18446744073709551616) (hl : s.length ≤ 1000000000) : qg Tryz.prog 233 [.d (.int .u64 h), .d (.ref 0 0 1 s.length)] [.row ((s.map ju).map .d)] (.d (.int .u64 (fnv h s : Nat))) [.row ((s.map ju).map .d)] := by
 refine F233.go ?_
 try (refine ev ?_; try exact True.intro)
 refine qk (q5x h s) (fun i => s.length - i.val) ⟨0, Nat.zero_le _⟩ ?_ (fun i => ?_)
 ·try (refine ev3 @q5x.eq_1 @List.take_zero.{0} @q3q ?_; try exact True.intro)
 obtain ⟨i, hi⟩ := i
 try (refine ev1 @q5x.eq_1 ?_; try exact True.intro)
 (repeat (with_reducible refine ob ?_)); refine xq _ (fun h => ?_) (fun h => ?_)
 ·have hil : i < s.length := by simpa using h
  try (refine ev2 @Nat.mul_one (q8w s hil) ?_; try exact True.intro)
  (repeat (with_reducible refine ob ?_))
  try simp only [q5w _ _ (qqo hh (s.take i)) (qfq s[i]), go_sem, Nat.reduceAdd, Nat.reduceMul, Nat.reduceSub, Nat.reduceEqDiff, Nat.reduceLT, Nat.reduceLeDiff, Nat.reduceBEq, reduceIte, reduceCtorEq, Int.reduceAdd, Int.reduceLT, Int.reduceLE, Int.reduceGT, Int.reduceGE, Int.reduceEq, Int.reduceNe, Int.reduceBEq, Int.reduceBNe, Int.reduceToNat, Int.reduceNeg]
  refine ⟨⟨i + 1, hil⟩, ?_, by dsimp only; omega⟩
  try (refine ev4 @q5x.eq_1 (qf (show i < 9223372036854775807 by omega)) (List.take_succ_eq_append_getElem hil) @qwb ?_; try exact True.intro)
 ·have hie : i = s.length := by simp at h; omega
  subst hie
  try (refine ev1 @List.take_length.{0} ?_; try exact True.intro)
def be8 (h : Nat) : List UInt8 := [UInt8.ofNat (h / 256 ^ 7), UInt8.ofNat (h / 256 ^ 6), UInt8.ofNat (h / 256 ^ 5), UInt8.ofNat (h / 256 ^ 4), UInt8.ofNat (h / 256 ^ 3), UInt8.ofNat (h / 256 ^ 2), UInt8.ofNat (h / 256 ^ 1), UInt8.ofNat (h / 256 ^ 0)]
theorem k9 (h : Nat) : (be8 h).length = 8 := rfl
theorem xm9 (h : Nat) : ∀ {i : Nat} (hi : i < 8), (be8 h)[i]'(by rw [k9]; exact hi) = UInt8.ofNat (h / 256 ^ (7 - i))
 | 0, _ => rfl
 | 1, _ => rfl
 | 2, _ => rfl
 | 3, _ => rfl
 | 4, _ => rfl
 | 5, _ => rfl
 | 6, _ => rfl
 | 7, _ => rfl
theorem zk {n : Int} (h : I64 n) : IntKind.i64.wrap n = n := by
 obtain ⟨h1, h2⟩ := h
 simp [IntKind.wrap, IntKind.bits, IntKind.signed]; omega
theorem qwc (h i : Nat) (hi : i < 8) : IntKind.u8.wrap ((h : Int).fdiv (2 ^ min (8 * (7 - (i : Int))).toNat 64)) = ((UInt8.ofNat (h / 256 ^ (7 - i))).toNat : Int) := by
 have e1 : min (8 * (7 - (i : Int))).toNat 64 = 8 * (7 - i) := by omega
 have e2 : ((2 : Int) ^ (8 * (7 - i))) = ((256 ^ (7 - i) : Nat) : Int) := by rw [Int.natCast_pow, Int.pow_mul]; rfl
 rw [e1, e2, Int.fdiv_eq_ediv_of_nonneg _ (Int.natCast_nonneg _), ← Int.natCast_ediv, qqm, UInt8.toNat_ofNat']
 omega
theorem q3s (h : Nat) {i : Nat} (hi : i < 8) : (((be8 h).take i ++ List.replicate (8 - i) 0).map ju).set i (D.int .u8 ((UInt8.ofNat (h / 256 ^ (7 - i))).toNat : Int)) = ((be8 h).take (i + 1) ++ List.replicate (8 - (i + 1)) 0).map ju := by
 have h8 := k9 h
 have hl : ((be8 h).take i).length = i := by rw [List.length_take]; omega
 have e : D.int .u8 ((UInt8.ofNat (h / 256 ^ (7 - i))).toNat : Int) = ju ((be8 h)[i]'(by omega)) := by rw [xm9 h hi]; rfl
 rw [e, ← List.map_set, List.set_append_right _ _ (by omega), hl, Nat.sub_self, List.take_succ_eq_append_getElem (by omega), show 8 - i = (8 - (i + 1)) + 1 by omega, List.replicate_succ, List.set_cons_zero, List.append_assoc, List.cons_append, List.nil_append]
theorem qdz (ds : List D) (i : Nat) (x : D) : (ds.map ASlot.d).set i (.d x) = (ds.set i x).map .d := by rw [List.map_set]
theorem ql8 : ju 0 = .int .u8 0 := rfl
theorem q3t (h : Nat) : (be8 h).take 8 = be8 h := List.take_of_length_le (Nat.le_of_eq (k9 h))
def qhq (k : Nat) (f0 : Fr) (os : List AObj) (h : Nat) (i : { i : Nat // i ≤ 8 }) : St :=
 ⟨(6, true, .d (.int .u64 (h : Nat))) :: (7, true, .d (.ptr (k + 1) 0)) :: (5, true, .d (.ptr k 0)) :: (12, true, .d (.int .i64 (i.val : Nat))) :: f0, os ++ [.row ((List.replicate 8 (D.int .u8 0)).map .d), .row ((((be8 h).take i.val ++ List.replicate (8 - i.val) 0).map ju).map .d)], [], 1⟩
theorem xcx (h : Nat) (s : List UInt8) (hh : h < 18446744073709551616) (hl : s.length ≤ 1000000000) : qg Tryz.prog 161 [.d (.int .u64 h), .d (.ref 0 0 1 s.length)] [.row ((s.map ju).map .d)] (.tup [.d (.int .u64 (fnv h s : Nat)), .d (.agg ((be8 (fnv h s)).map ju))]) [.row ((s.map ju).map .d)] := by
 refine F161.goT ?_
 try (refine ev ?_; try exact True.intro)
 (repeat (with_reducible refine ob ?_)); refine clO [0] F233 (xif h s hh hl) ?_
 try (refine ev ?_; try exact True.intro)
 refine qk (qhq 1 [] [.row ((s.map ju).map .d)] (fnv h s)) (fun i => 8 - i.val) ⟨0, Nat.zero_le _⟩ ?_ (fun i => ?_)
 ·try (refine ev3 @qhq.eq_1 @List.take_zero.{0} @ql8 ?_; try exact True.intro)
 obtain ⟨i, hi⟩ := i
 try (refine ev1 @qhq.eq_1 ?_; try exact True.intro)
 refine xq _ (fun hc => ?_) (fun hc => ?_)
 ·have hil : i < 8 := by simp at hc; omega
  have e1 : IntKind.i64.wrap (7 - (i : Int)) = 7 - i := zk (by unfold I64; omega)
  have e2 : IntKind.i64.wrap (8 * (7 - (i : Int))) = 8 * (7 - i) := zk (by unfold I64; omega)
  have hlen := k9 (fnv h s)
  try simp only [Nat.mul_one, qwc _ _ hil, qdz, q3s _ hil, e1, e2, List.length_take, List.length_replicate, go_sem, Nat.reduceAdd, Nat.reduceMul, Nat.reduceSub, Nat.reduceEqDiff, Nat.reduceLT, Nat.reduceLeDiff, Nat.reduceBEq, reduceIte, reduceCtorEq, Int.reduceAdd, Int.reduceLT, Int.reduceLE, Int.reduceGT, Int.reduceGE, Int.reduceEq, Int.reduceNe, Int.reduceBEq, Int.reduceBNe, Int.reduceToNat, Int.reduceNeg]
  (repeat (with_reducible refine ob ?_))
  refine ⟨⟨i + 1, hil⟩, ?_, by dsimp only; omega⟩
  try (refine ev2 @qhq.eq_1 (qf (show i < 9223372036854775807 by omega)) ?_; try exact True.intro)
 ·have hie : i = 8 := by simp at hc; omega
  subst hie
  try (refine ev3 @q3t @be8.eq_1 @ju.eq_1 ?_; try exact True.intro)
def num1 (h : Nat) (c : UInt8) : Nat := h * 256 + c.toNat
def qn7 (s : List UInt8) : Nat := s.foldl num1 0
def qby (file : List UInt8) : Nat := if file.length < 8 then 14695981039346656037 else qn7 (file.drop (file.length - 8))
theorem qtw (s : List UInt8) (c : UInt8) : qn7 (s ++ [c]) = qn7 s * 256 + c.toNat := by unfold qn7; rw [List.foldl_append, List.foldl_cons, List.foldl_nil]; rfl
theorem qwd : ∀ (n : Nat) (s : List UInt8), s.length = n → qn7 s < 256 ^ n
 | 0, s, h => by cases s <;> simp at h; simp [qn7]
 | n + 1, s, h => by
  rcases List.eq_nil_or_concat s with rfl | ⟨t, c, rfl⟩
  ·simp at h
  ·rw [List.concat_eq_append] at h ⊢
   have h1 := qwd n t (by simpa using h)
   have h2 := qfq c
   rw [qtw, Nat.pow_succ]
   omega
theorem q5y (a b : Nat) (ha : a < 18446744073709551616) (hb : b < 18446744073709551616) : bvOr 64 (a : Int) (b : Int) = ((a ||| b : Nat) : Int) := by
 unfold bvOr
 rw [BitVec.ofInt_natCast, BitVec.ofInt_natCast, BitVec.toNat_or, BitVec.toNat_ofNat, BitVec.toNat_ofNat, Nat.mod_eq_of_lt ha, Nat.mod_eq_of_lt hb]
theorem xp9 (a c : Nat) (hc : c < 256) : a * 256 ||| c = a * 256 + c := by
 have := Nat.shiftLeft_add_eq_or_of_lt (i := 8) (b := c) (by omega) a
 rw [Nat.shiftLeft_eq] at this
 exact this.symm
theorem xcy (a c : Nat) (ha : a < 72057594037927936) (hc : c < 256) : IntKind.u64.wrap (bvOr 64 (IntKind.u64.wrap ((a : Int) * 2 ^ min 8 64)) (IntKind.u64.wrap (c : Int))) = ((a * 256 + c : Nat) : Int) := by
 have e1 : IntKind.u64.wrap ((a : Int) * 2 ^ min 8 64) = ((a * 256 : Nat) : Int) := by
  rw [qjf]
  show (a : Int) * 256 % 18446744073709551616 = _
  omega
 rw [e1, f2 c (by omega), q5y _ _ (by omega) (by omega), xp9 a c hc, f2 _ (by omega)]
def xih (s : List UInt8) (i : { i : Nat // i ≤ s.length }) : St :=
 ⟨[(3, true, .d (.int .u64 (qn7 (s.take i.val) : Nat))), (13, true, .d (.sl 1 (qd s))), (14, true, .d (.int .i64 s.length)), (15, true, .d (.int .i64 (i.val : Nat)))], [], [], 1⟩
theorem vr (s : List UInt8) (n : Nat) : (qd s).drop n = qd (s.drop n) := by simp [qd]
theorem jh (s : List UInt8) (n : Nat) : (qd s).take n = qd (s.take n) := by simp [qd]
theorem xna (file : List UInt8) (hl : file.length ≤ 1000000000) : qg Tryz.prog 159 [.d (.sl 1 (qd file))] [] (.d (.int .u64 (qby file : Nat))) [] := by
 refine F159.go ?_
 try (refine ev ?_; try exact True.intro)
 refine xq _ (fun hc => ?_) (fun hc => ?_)
 ·have hb : qby file = 14695981039346656037 := by unfold qby; rw [if_pos (by simp at hc; omega)]
  try (refine ev1 @hb ?_; try exact True.intro)
 have h8 : 8 ≤ file.length := by simp at hc; omega
 have e1 : IntKind.i64.wrap ((file.length : Int) - 8) = ((file.length - 8 : Nat) : Int) := by rw [zk (by unfold I64; omega)]; omega
 have hb : qby file = qn7 (file.drop (file.length - 8)) := by unfold qby; rw [if_neg (by omega)]
 have hd : (file.drop (file.length - 8)).length = 8 := by rw [List.length_drop]; omega
 generalize hs : file.drop (file.length - 8) = s at hb hd
 have e2 : s.take (file.length - (file.length - 8)) = s := List.take_of_length_le (by omega)
 try (refine ev6 @e1 @vr @jh @hs @e2 @hb ?_; try exact True.intro)
 (repeat (with_reducible refine ob ?_))
 refine qk (xih s) (fun i => s.length - i.val) ⟨0, Nat.zero_le _⟩ ?_ (fun i => ?_)
 ·try (refine ev2 @xih.eq_1 @List.take_zero.{0} ?_; try exact True.intro)
  simp [qn7]
 obtain ⟨i, hi⟩ := i
 try (refine ev1 @xih.eq_1 ?_; try exact True.intro)
 (repeat (with_reducible refine ob ?_)); refine xq _ (fun h => ?_) (fun h => ?_)
 ·have hil : i < s.length := by simpa using h
  have hlt : qn7 (s.take i) < 72057594037927936 := by
   have := qwd i (s.take i) (by rw [List.length_take]; omega)
   have h7 : 256 ^ i ≤ 256 ^ 7 := Nat.pow_le_pow_right (by decide) (by omega)
   have : (256 : Nat) ^ 7 = 72057594037927936 := by decide
   omega
  try (refine ev1 (jg s hil) ?_; try exact True.intro)
  (repeat (with_reducible refine ob ?_))
  try simp only [xcy _ _ hlt (qfq s[i]), go_sem, Nat.reduceAdd, Nat.reduceMul, Nat.reduceSub, Nat.reduceEqDiff, Nat.reduceLT, Nat.reduceLeDiff, Nat.reduceBEq, reduceIte, reduceCtorEq, Int.reduceAdd, Int.reduceLT, Int.reduceLE, Int.reduceGT, Int.reduceGE, Int.reduceEq, Int.reduceNe, Int.reduceBEq, Int.reduceBNe, Int.reduceToNat, Int.reduceNeg]
  refine ⟨⟨i + 1, hil⟩, ?_, by dsimp only; omega⟩
  try (refine ev4 @xih.eq_1 (qf (show i < 9223372036854775807 by omega)) (List.take_succ_eq_append_getElem hil) @qtw ?_; try exact True.intro)
 ·have hie : i = s.length := by simp at h; omega
  subst hie
  try (refine ev1 @List.take_length.{0} ?_; try exact True.intro)
end Go.Proofs.YtkcdbcbpbolgkaaGreatDoor
namespace Go.Proofs.YtkcdbcbpbolgkaaGreatDoor
open Go.Abs
theorem qwe {α : Type} [DecidableEq α] {l m : List α} {i : Nat} (h1 : i < l.length) (h2 : i < m.length) (h : l[i] ≠ m[i]) : decide (l = m) = false := by
 rw [decide_eq_false_iff_not]
 rintro rfl
 exact h rfl
theorem yk {α : Type} {l m : List α} {i : Nat} (h : l.take i = m.take i) (h1 : i < l.length) (h2 : i < m.length) (he : l[i] = m[i]) : l.take (i + 1) = m.take (i + 1) := by
 rw [List.take_succ_eq_append_getElem h1, List.take_succ_eq_append_getElem h2, h, he]
theorem xld (v w : AV) : (v.kind == w.kind && (v.n == w.n && v.s == w.s)) = decide (v = w) := by
 obtain ⟨a, b, c⟩ := v
 obtain ⟨d, e, f⟩ := w
 rw [Bool.eq_iff_iff]
 simp
noncomputable section
set_option maxRecDepth 100000
set_option linter.defProp false
def d67 := cut Tryz.prog Tryz.f67 news
@[go_sem] def E67 := ql d67
def F67 := fnC d67 follows Tryz.func67
def d68 := cut Tryz.prog Tryz.f68 news
@[go_sem] def E68 := ql d68
def F68 := fnC d68 follows Tryz.func68
def d132 := cut Tryz.prog Tryz.f132 news
@[go_sem] def E132 := ql d132
def F132 := fnC d132 follows Tryz.func132
def d133 := cut Tryz.prog Tryz.f133 news
@[go_sem] def E133 := ql d133
def F133 := fnC d133 follows Tryz.func133
def d17 := cut Tryz.prog Tryz.f17 news
@[go_sem] def E17 := ql d17
def F17 := fnC d17 follows Tryz.func17
end
def Seq {α : Type} (es : Nat) (enc : α → List D) (l m : List α) (i : { i : Nat // l.take i = m.take i }) : St :=
 ⟨[(0, true, .d (.sl es (l.map enc))), (1, true, .d (.sl es (m.map enc))), (12, true, .d (.int .i64 l.length)), (13, true, .d (.int .i64 (i.val : Nat)))], [], [], 1⟩
theorem xqa (l m : List AV) (hl : l.length ≤ maxLen) :
  qg Tryz.prog 67 [.d (.sl 3 (l.map xr)), .d (.sl 3 (m.map xr))] [] (.d (.bool (decide (l = m)))) [] := by
 first | refine F67.go ?_ | refine F67.goT ?_
 (refine ev ?_; try exact True.intro)
 refine qs _ rfl rfl (fun h => ?_) (fun h => ?_)
 ·have hne : decide (l = m) = false := by rw [decide_eq_false_iff_not]; rintro rfl; simp at h
  (refine ev1 @hne ?_; try exact True.intro)
 ·have hlm : l.length = m.length := by simp at h; omega
  (refine ev ?_; try exact True.intro)
  refine qk (Seq 3 xr l m) (fun i => l.length - i.val) ⟨0, rfl⟩ ?_ (fun i => ?_)
  ·(refine ev2 @Seq.eq_1 (xx yq) ?_; try exact True.intro)
  ·obtain ⟨i, hi⟩ := i
   (refine ev1 @Seq.eq_1 ?_; try exact True.intro)
   refine qs _ rfl rfl (fun h => ?_) (fun h => ?_)
   ·have hil : i < l.length := by simpa using h
    have him : i < m.length := by omega
    (refine ev4 (qi xr l hil) (qi xr m him) @xr.eq_1 @xld ?_; try exact True.intro)
    refine ⟨by omega, by omega, ?_⟩
    refine qs _ rfl rfl (fun h2 => ?_) (fun h2 => ?_)
    ·have hne : l[i] ≠ m[i] := by simpa using h2
     (refine ev1 (qwe hil him hne) ?_; try exact True.intro)
    ·have he : l[i] = m[i] := by simpa using h2
     (refine ev ?_; try exact True.intro)
     refine ⟨⟨i + 1, yk hi hil him he⟩, ?_, by dsimp only; omega⟩
     (refine ev3 @Seq.eq_1 (qf (show i < 9223372036854775807 by unfold maxLen at hl; omega)) (xx yq) ?_; try exact True.intro)
   ·have he : decide (l = m) = true := by
     have : l.length ≤ i := by simpa using h
     rw [List.take_of_length_le this, List.take_of_length_le (by omega)] at hi
     simp [hi]
    (refine ev1 @he ?_; try exact True.intro)
theorem qzs (l : List AV) (hl : l.length ≤ 1000000) :
  qg Tryz.prog 132 [.d (.sl 3 (l.map xr))] [] (.d (.sl 3 (l.map xr))) [] := by
 first | refine F132.go ?_ | refine F132.goT ?_
 (refine ev ?_; try exact True.intro)
 refine ql4 rfl rfl (fun b hb => ?_)
 try (refine ev ?_; try exact True.intro)
 refine qs _ rfl rfl (fun h => ?_) (fun h => ?_)
 ·try (refine ev1 (hb h) ?_; try exact True.intro)
 ·try (refine ev ?_; try exact True.intro)
  omega
theorem qzt (l : List Int) (hl : l.length ≤ 1000000) :
  qg Tryz.prog 133 [.d (.sl 1 (l.map encI))] [] (.d (.sl 1 (l.map encI))) [] := by
 first | refine F133.go ?_ | refine F133.goT ?_
 (refine ev ?_; try exact True.intro)
 refine ql4 rfl rfl (fun b hb => ?_)
 try (refine ev ?_; try exact True.intro)
 refine qs _ rfl rfl (fun h => ?_) (fun h => ?_)
 ·try (refine ev1 (hb h) ?_; try exact True.intro)
 ·try (refine ev ?_; try exact True.intro)
  omega
theorem xqb (l m : List Int) (hl : l.length ≤ maxLen) :
  qg Tryz.prog 68 [.d (.sl 1 (l.map encI)), .d (.sl 1 (m.map encI))] [] (.d (.bool (decide (l = m)))) [] := by
 first | refine F68.go ?_ | refine F68.goT ?_
 (refine ev ?_; try exact True.intro)
 refine qs _ rfl rfl (fun h => ?_) (fun h => ?_)
 ·have hne : decide (l = m) = false := by rw [decide_eq_false_iff_not]; rintro rfl; simp at h
  try (refine ev1 @hne ?_; try exact True.intro)
 ·have hlm : l.length = m.length := by simp at h; omega
  try (refine ev ?_; try exact True.intro)
  refine qk (Seq 1 encI l m) (fun i => l.length - i.val) ⟨0, rfl⟩ ?_ (fun i => ?_)
  ·try (refine ev1 @Seq.eq_1 ?_; try exact True.intro)
  ·obtain ⟨i, hi⟩ := i
   try (refine ev1 @Seq.eq_1 ?_; try exact True.intro)
   refine qs _ rfl rfl (fun h => ?_) (fun h => ?_)
   ·have hil : i < l.length := by simpa using h
    have him : i < m.length := by omega
    try (refine ev3 (qi encI l hil) (qi encI m him) @encI.eq_1 ?_; try exact True.intro)
    refine ⟨by omega, by omega, ?_⟩
    refine qs _ rfl rfl (fun h2 => ?_) (fun h2 => ?_)
    ·have hne : l[i] ≠ m[i] := by simpa using h2
     try (refine ev1 (qwe hil him hne) ?_; try exact True.intro)
    ·have he : l[i] = m[i] := by simpa using h2
     try (refine ev ?_; try exact True.intro)
     refine ⟨⟨i + 1, yk hi hil him he⟩, ?_, by dsimp only; omega⟩
     try (refine ev2 @Seq.eq_1 (qf (show i < 9223372036854775807 by unfold maxLen at hl; omega)) ?_; try exact True.intro)
   ·have he : decide (l = m) = true := by
     have : l.length ≤ i := by simpa using h
     rw [List.take_of_length_le this, List.take_of_length_le (by omega)] at hi
     simp [hi]
    try (refine ev1 @he ?_; try exact True.intro)
theorem xle (p q : Pk) : (p.kind == q.kind && p.sess == q.sess && p.epoch == q.epoch && p.from_ == q.from_ && p.to == q.to && p.seq == q.seq && p.label == q.label && decide (p.values = q.values) && decide (p.clock = q.clock)) = decide (p = q) := by
 obtain ⟨a1, a2, a3, a4, a5, a6, a7, a8, a9⟩ := p
 obtain ⟨b1, b2, b3, b4, b5, b6, b7, b8, b9⟩ := q
 rw [Bool.eq_iff_iff]
 simp [and_assoc]
set_option maxRecDepth 10000 in
theorem qea (p q : Pk) (h1 : p.values.length ≤ maxLen) (h2 : p.clock.length ≤ maxLen) :
  qg Tryz.prog 17 [.d (.agg (qe p)), .d (.agg (qe q))] [] (.d (.bool (decide (p = q)))) [] := by
 first | refine F17.go ?_ | refine F17.goT ?_
 (refine ev1 @qe.eq_1 ?_; try exact True.intro)
 (repeat (with_reducible refine ob ?_)); refine cl F67 (xqa p.values q.values h1) ?_
 try (refine ev ?_; try exact True.intro)
 (repeat (with_reducible refine ob ?_)); refine cl F68 (xqb p.clock q.clock h2) ?_
 try (refine ev1 @xle ?_; try exact True.intro)
end Go.Proofs.YtkcdbcbpbolgkaaGreatDoor
namespace Go.Proofs.YtkcdbcbpbolgkaaGreatDoor
open Go.Abs
def qcb (g : Nat → Bool) (n : Nat) : Bool := (List.range n).all g
theorem q8x (g : Nat → Bool) (n : Nat) : qcb g (n + 1) = (qcb g n && g n) := by simp [qcb, List.range_succ]
theorem y5 {g : Nat → Bool} {n : Nat} (h : qcb g n = true) (hg : g n = true) : qcb g (n + 1) = true := by rw [q8x, h, hg]; rfl
theorem qfb {g : Nat → Bool} {i n : Nat} (hi : i < n) (hg : g i = false) : qcb g n = false := by
 simp only [qcb, List.all_eq_false]
 exact ⟨i, by simpa using hi, by simp [hg]⟩
theorem zd {g : Nat → Bool} {n : Nat} : qcb g n = true ↔ ∀ i, i < n → g i = true := by simp [qcb]
structure Qu where
 acc : Int
 cons : Int
 items : List Pk
 deriving DecidableEq, Inhabited
def encQ (q : Qu) : List D := [.int .i64 q.acc, .int .i64 q.cons, .sl 9 (q.items.map qe)]
theorem q8y (q : Qu) : D.noPtrL (encQ q) = true := by (refine ev1 @encQ.eq_1 ?_; try exact True.intro)
attribute [go_sem] q8y
def Pk.Sm (p : Pk) : Prop := p.values.length ≤ 1000 ∧ p.clock.length ≤ 1000
def Qu.Sm (q : Qu) : Prop := q.items.length ≤ 1000 ∧ ∀ p ∈ q.items, p.Sm
theorem Pk.Sm.v {p : Pk} (h : p.Sm) : p.values.length ≤ maxLen := by have := h.1; unfold maxLen; omega
theorem Pk.Sm.c {p : Pk} (h : p.Sm) : p.clock.length ≤ maxLen := by have := h.2; unfold maxLen; omega
noncomputable section
set_option maxRecDepth 100000
set_option linter.defProp false
def d220 := cut Tryz.prog Tryz.f220 news
@[go_sem] def E220 := ql d220
def F220 := fnC d220 follows Tryz.func220
def d221 := cut Tryz.prog Tryz.f221 news
@[go_sem] def E221 := ql d221
def F221 := fnC d221 follows Tryz.func221
def d188 := cut Tryz.prog Tryz.f188 news
@[go_sem] def E188 := ql d188
def F188 := fnC d188 follows Tryz.func188
def d66 := cut Tryz.prog Tryz.f66 news
@[go_sem] def E66 := ql d66
def F66 := fnC d66 follows Tryz.func66
def d222 := cut Tryz.prog Tryz.f222 news
@[go_sem] def E222 := ql d222
def F222 := fnC d222 follows Tryz.func222
end
def vt (p : Pk) : Bool := p.kind == 1 && qj p
theorem qib (p : Pk) (hp : p.Sm) : qg Tryz.prog 220 [.d (.agg (qe p))] [] (.d (.bool (vt p))) [] := by
 first | refine F220.go ?_ | refine F220.goT ?_
 (refine ev1 @qe.eq_1 ?_; try exact True.intro)
 (repeat (with_reducible refine ob ?_)); first | refine cl F70 (zr p hp.v hp.c) ?_ | refine clF F70 (zr p hp.v hp.c) (fun _ => by (refine ev2 @qe.eq_1 @encQ.eq_1 ?_; try exact True.intro)) ?_
 try (refine ev ?_; try exact True.intro)
 rfl
def qiu (p q : Pk) : Bool := p.sess == q.sess && p.from_ == q.from_ && p.to == q.to
theorem qok (p q : Pk) : qg Tryz.prog 221 [.d (.agg (qe p)), .d (.agg (qe q))] [] (.d (.bool (qiu p q))) [] := by
 first | refine F221.go ?_ | refine F221.goT ?_
 (refine ev1 @qe.eq_1 ?_; try exact True.intro)
 rfl
def qqp (q : Qu) (i : Nat) : Bool :=
 vt (q.items.getD i default) && qiu (q.items.getD i default) (q.items.getD 0 default) && (q.items.getD i default).seq == IntKind.i64.wrap (IntKind.i64.wrap (q.cons + 1) + (i : Int))
def yc (q : Qu) : Bool := qcb (qqp q) q.items.length && (decide (q.cons ≥ 0) && decide (q.cons ≤ q.acc) && decide (q.acc ≤ 1099511627776) && ((q.items.length : Int) == IntKind.i64.wrap (q.acc - q.cons)) && decide ((q.items.length : Int) ≤ 4))
def qwf (q : Qu) (i : { i : Nat // qcb (qqp q) i = true }) : St :=
 ⟨[(1, true, .d (.ptr 0 0)), (6, true, .d (.sl 9 (q.items.map qe))), (7, true, .d (.int .i64 q.items.length)), (8, true, .d (.int .i64 (i.val : Nat)))],
  [.row [.d (.int .i64 q.acc), .d (.int .i64 q.cons), .d (.sl 9 (q.items.map qe))]], [], 1⟩
theorem zc {α : Type} {l : List α} {i : Nat} (h : i < l.length) (d : α) : l.getD i d = l[i] := by simp [List.getD, h]
set_option maxRecDepth 10000 in
theorem qcc (q : Qu) (hq : q.Sm) : qg Tryz.prog 188 [.d (.agg (encQ q))] [] (.d (.bool (yc q))) [] := by
 have hl := hq.1
 first | refine F188.go ?_ | refine F188.goT ?_
 (refine ev1 @encQ.eq_1 ?_; try exact True.intro)
 refine qk (qwf q) (fun i => q.items.length - i.val) ⟨0, rfl⟩ ?_ (fun i => ?_)
 ·try (refine ev1 @qwf.eq_1 ?_; try exact True.intro)
 ·obtain ⟨i, hi⟩ := i
  try (refine ev1 @qwf.eq_1 ?_; try exact True.intro)
  refine qs _ rfl rfl (fun h => ?_) (fun h => ?_)
  ·have hil : i < q.items.length := by simpa using h
   have h0 : 0 < q.items.length := by omega
   have hw : IntKind.i64.wrap (IntKind.i64.wrap (q.cons + 1) + (i : Int)) = IntKind.i64.wrap (IntKind.i64.wrap (q.cons + 1) + (i : Int)) := rfl
   (refine ev4 (qi qe q.items hil) (qi qe q.items h0) @Int.toNat_zero @qe.eq_1 ?_; try exact True.intro)
   refine ⟨by omega, ?_⟩
   (repeat (with_reducible refine ob ?_)); first | refine cl F220 (qib q.items[i] (hq.2 _ (List.getElem_mem hil))) ?_ | refine clF F220 (qib q.items[i] (hq.2 _ (List.getElem_mem hil))) (fun _ => by (refine ev2 @qe.eq_1 @encQ.eq_1 ?_; try exact True.intro)) ?_
   try (refine ev1 (qi qe q.items h0) ?_; try exact True.intro)
   refine ⟨fun _ => ⟨by omega, by omega⟩, by simp [qe], ?_⟩
   (refine ev1 @qe.eq_1 ?_; try exact True.intro)
   (repeat (with_reducible refine ob ?_)); first | refine cl F221 (qok q.items[i] q.items[0]) ?_ | refine clF F221 (qok q.items[i] q.items[0]) (fun _ => by (refine ev2 @qe.eq_1 @encQ.eq_1 ?_; try exact True.intro)) ?_
   try (refine ev ?_; try exact True.intro)
   (repeat (with_reducible refine ob ?_))
   have hx : (!vt q.items[i] || !qiu q.items[i] q.items[0] || q.items[i].seq != IntKind.i64.wrap (IntKind.i64.wrap (q.cons + 1) + (i : Int))) = !qqp q i := by
    simp only [qqp, zc hil, zc h0, Bool.not_and]; rfl
   refine qs (!qqp q i) rfl ?_ (fun h2 => ?_) (fun h2 => ?_)
   ·try (refine ev1 @hx ?_; try exact True.intro)
   ·have hg : qqp q i = false := by simpa using h2
    (refine ev2 @yc.eq_1 (qfb hil hg) ?_; try exact True.intro)
   ·have hg : qqp q i = true := by simpa using h2
    try (refine ev ?_; try exact True.intro)
    refine ⟨⟨i + 1, y5 hi hg⟩, ?_, by dsimp only; omega⟩
    try (refine ev2 @qwf.eq_1 (qf (show i < 9223372036854775807 by omega)) ?_; try exact True.intro)
  ·have hil : q.items.length ≤ i := by simpa using h
   have ha : qcb (qqp q) q.items.length = true := zd.2 fun j hj => zd.1 hi j (by omega)
   try (refine ev ?_; try exact True.intro)
   (repeat (with_reducible refine ob ?_))
   (refine ev2 @yc.eq_1 @ha ?_; try exact True.intro)
theorem qfc (p : Pk) (hp : p.Sm) : qg Tryz.prog 66 [.d (.agg (qe p))] [] (.d (.agg (qe p))) [] := by
 obtain ⟨h1, h2⟩ := hp
 first | refine F66.go ?_ | refine F66.goT ?_
 (refine ev1 @qe.eq_1 ?_; try exact True.intro)
 (repeat (with_reducible refine ob ?_)); first | refine cl F132 (qzs p.values (by omega)) ?_ | refine clF F132 (qzs p.values (by omega)) (fun _ => by (refine ev2 @qe.eq_1 @encQ.eq_1 ?_; try exact True.intro)) ?_
 try (refine ev ?_; try exact True.intro)
 (repeat (with_reducible refine ob ?_)); first | refine cl F133 (qzt p.clock (by omega)) ?_ | refine clF F133 (qzt p.clock (by omega)) (fun _ => by (refine ev2 @qe.eq_1 @encQ.eq_1 ?_; try exact True.intro)) ?_
 try (refine ev ?_; try exact True.intro)
def qwg (l : List Pk) (i : { i : Nat // i ≤ l.length }) : St :=
 ⟨[(3, true, .own 0 9 ((l.take i.val).map qe)), (6, true, .d (.sl 9 (l.map qe))), (7, true, .d (.int .i64 l.length)), (8, true, .d (.int .i64 (i.val : Nat)))], [], [0], 1⟩
set_option maxRecDepth 10000 in
theorem qqq (l : List Pk) (hl : l.length ≤ 1000) (hp : ∀ p ∈ l, p.Sm) : qg Tryz.prog 222 [.d (.sl 9 (l.map qe))] [] (.own 0 9 (l.map qe)) [] := by
 first | refine F222.go ?_ | refine F222.goT ?_
 (refine ev ?_; try exact True.intro)
 refine qk (qwg l) (fun i => l.length - i.val) ⟨0, Nat.zero_le _⟩ ?_ (fun i => ?_)
 ·try (refine ev1 @qwg.eq_1 ?_; try exact True.intro)
  trace_state
 ·obtain ⟨i, hi⟩ := i
  try (refine ev1 @qwg.eq_1 ?_; try exact True.intro)
  refine qs _ rfl rfl (fun h => ?_) (fun h => ?_)
  ·have hil : i < l.length := by simpa using h
   (refine ev2 (qi qe l hil) @qe.eq_1 ?_; try exact True.intro)
   (repeat (with_reducible refine ob ?_))
   (repeat (with_reducible refine ob ?_)); first | refine cl F66 (qfc l[i] (hp _ (List.getElem_mem hil))) ?_ | refine clF F66 (qfc l[i] (hp _ (List.getElem_mem hil))) (fun _ => by (refine ev2 @qe.eq_1 @encQ.eq_1 ?_; try exact True.intro)) ?_
   (refine ev1 @qe.eq_1 ?_; try exact True.intro)
   have hlt : (l.take i).length ≤ 1000 := by simp; omega
   refine ⟨⟨by omega, by omega⟩, ⟨i + 1, hil⟩, ?_, by dsimp only; omega⟩
   (refine ev4 @qwg.eq_1 (qax qe l hil) @qe.eq_1 (qf (show i < 9223372036854775807 by omega)) ?_; try exact True.intro)
  ·have hil : i = l.length := by
    have : l.length ≤ i := by simpa using h
    omega
   subst hil
   try (refine ev1 @List.take_length.{0} ?_; try exact True.intro)
end Go.Proofs.YtkcdbcbpbolgkaaGreatDoor
namespace Go.Proofs.YtkcdbcbpbolgkaaGreatDoor
open Go.Abs
def ja : Qu := ⟨0, 0, []⟩
theorem qkq : qe default = [.int .i64 0, .int .i64 0, .int .i64 0, .int .i64 0, .int .i64 0, .int .i64 0, .int .i64 0, .sl 3 [], .sl 1 []] := rfl
noncomputable section
set_option maxRecDepth 100000
set_option linter.defProp false
def d138 := cut Tryz.prog Tryz.f138 news
@[go_sem] def E138 := ql d138
def F138 := fnC d138 follows Tryz.func138
def d15 := cut Tryz.prog Tryz.f15 news
@[go_sem] def E15 := ql d15
def F15 := fnC d15 follows Tryz.func15
end
def ze (q : Qu) (p : Pk) : Qu × Int :=
 if !yc q || !vt p || (decide ((q.items.length : Int) > 0) && !qiu p (q.items.getD 0 default)) then (ja, 1)
 else if decide (p.seq ≤ q.acc) then (ja, 21)
 else if decide (p.seq > IntKind.i64.wrap (q.acc + 1)) then (ja, 22)
 else if (q.items.length : Int) == 4 then (ja, 19)
 else (⟨p.seq, q.cons, q.items ++ [p]⟩, 0)
set_option maxRecDepth 10000 in
theorem xcz (q : Qu) (p : Pk) (hq : q.Sm) (hp : p.Sm) : qg Tryz.prog 138 [.d (.agg (encQ q)), .d (.agg (qe p))] [] (.tup [.d (.agg (encQ (ze q p).1)), .d (.int .i64 (ze q p).2)]) [] := by
 have hl := hq.1
 first | refine F138.go ?_ | refine F138.goT ?_
 (refine ev2 @encQ.eq_1 @qe.eq_1 ?_; try exact True.intro)
 (repeat (with_reducible refine ob ?_)); first | refine cl F188 (qcc q hq) ?_ | refine clF F188 (qcc q hq) (fun _ => by (refine ev2 @qe.eq_1 @encQ.eq_1 ?_; try exact True.intro)) ?_
 try (refine ev ?_; try exact True.intro)
 (repeat (with_reducible refine ob ?_)); first | refine cl F220 (qib p hp) ?_ | refine clF F220 (qib p hp) (fun _ => by (refine ev2 @qe.eq_1 @encQ.eq_1 ?_; try exact True.intro)) ?_
 obtain ⟨acc, cons, items⟩ := q
 cases items with
 | nil =>
  try (refine ev ?_; try exact True.intro)
  (repeat (with_reducible refine ob ?_))
  refine qkm (.bool false) rfl ?_
  try (refine ev ?_; try exact True.intro)
  (repeat (with_reducible refine ob ?_))
  refine qs _ rfl rfl (fun h1 => ?_) (fun h1 => ?_)
  ·try (refine ev3 @ze.eq_1 @h1 @ja.eq_1 ?_; try exact True.intro)
  try (refine ev ?_; try exact True.intro)
  refine qs _ rfl rfl (fun h2 => ?_) (fun h2 => ?_)
  ·try (refine ev4 @ze.eq_1 @h1 @h2 @ja.eq_1 ?_; try exact True.intro)
  try (refine ev ?_; try exact True.intro)
  refine qs _ rfl rfl (fun h3 => ?_) (fun h3 => ?_)
  ·try (refine ev5 @ze.eq_1 @h1 @h2 @h3 @ja.eq_1 ?_; try exact True.intro)
  try (refine ev ?_; try exact True.intro)
  refine qs _ rfl rfl (fun h4 => ?_) (fun h4 => ?_)
  ·first | exact Bool.noConfusion h4 | try (refine ev6 @ze.eq_1 @h1 @h2 @h3 @h4 @ja.eq_1 ?_; try exact True.intro)
  try (refine ev ?_; try exact True.intro)
  refine qho (qqq [] hq.1 hq.2) F222.body rfl ⟨by (refine ev2 @qe.eq_1 @encQ.eq_1 ?_; try exact True.intro), by try (refine ev ?_; try exact True.intro), by try (refine ev ?_; try exact True.intro), by try (refine ev ?_; try exact True.intro)⟩ (by try (refine ev ?_; try exact True.intro)) (by simp [ASlot.toks]) ?_
  simp only [qeh, renT, go_sem, Nat.reduceAdd, Nat.reduceMul, Nat.reduceSub, Nat.reduceEqDiff, Nat.reduceLT, Nat.reduceLeDiff, Nat.reduceBEq, reduceIte, reduceCtorEq, Int.reduceAdd, Int.reduceLT, Int.reduceLE, Int.reduceGT, Int.reduceGE, Int.reduceEq, Int.reduceNe, Int.reduceBEq, Int.reduceBNe, Int.reduceToNat, Int.reduceNeg]
  (repeat (with_reducible refine ob ?_)); first | refine cl F66 (qfc p hp) ?_ | refine clF F66 (qfc p hp) (fun _ => by (refine ev2 @qe.eq_1 @encQ.eq_1 ?_; try exact True.intro)) ?_
  (refine ev8 @qe.eq_1 @ze.eq_1 @h1 @h2 @h3 @h4 @beq_self_eq_true.{0} @List.map_append.{0,0} ?_; try exact True.intro)
  try (simp only [List.length_cons] at hl; omega)
 | cons x l =>
  try (refine ev ?_; try exact True.intro)
  refine ⟨by simp_all, fun h => ⟨h, by omega⟩, fun h => ⟨h, by simp [qe]⟩, ?_⟩
  (refine ev1 @qe.eq_1 ?_; try exact True.intro)
  (repeat (with_reducible refine ob ?_)); first | refine cl F221 (qok p x) ?_ | refine clF F221 (qok p x) (fun _ => by (refine ev2 @qe.eq_1 @encQ.eq_1 ?_; try exact True.intro)) ?_
  try (refine ev ?_; try exact True.intro)
  (repeat (with_reducible refine ob ?_))
  refine qs _ rfl rfl (fun h1 => ?_) (fun h1 => ?_)
  ·try (refine ev3 @ze.eq_1 @h1 @ja.eq_1 ?_; try exact True.intro)
  try (refine ev ?_; try exact True.intro)
  refine qs _ rfl rfl (fun h2 => ?_) (fun h2 => ?_)
  ·try (refine ev4 @ze.eq_1 @h1 @h2 @ja.eq_1 ?_; try exact True.intro)
  try (refine ev ?_; try exact True.intro)
  refine qs _ rfl rfl (fun h3 => ?_) (fun h3 => ?_)
  ·try (refine ev5 @ze.eq_1 @h1 @h2 @h3 @ja.eq_1 ?_; try exact True.intro)
  try (refine ev ?_; try exact True.intro)
  refine qs _ rfl rfl (fun h4 => ?_) (fun h4 => ?_)
  ·first | exact Bool.noConfusion h4 | try (refine ev6 @ze.eq_1 @h1 @h2 @h3 @h4 @ja.eq_1 ?_; try exact True.intro)
  try (refine ev ?_; try exact True.intro)
  refine qho (qqq (x :: l) hq.1 hq.2) F222.body rfl ⟨by (refine ev2 @qe.eq_1 @encQ.eq_1 ?_; try exact True.intro), by try (refine ev ?_; try exact True.intro), by try (refine ev ?_; try exact True.intro), by try (refine ev ?_; try exact True.intro)⟩ (by try (refine ev ?_; try exact True.intro)) (by simp [ASlot.toks]) ?_
  simp only [qeh, renT, go_sem, Nat.reduceAdd, Nat.reduceMul, Nat.reduceSub, Nat.reduceEqDiff, Nat.reduceLT, Nat.reduceLeDiff, Nat.reduceBEq, reduceIte, reduceCtorEq, Int.reduceAdd, Int.reduceLT, Int.reduceLE, Int.reduceGT, Int.reduceGE, Int.reduceEq, Int.reduceNe, Int.reduceBEq, Int.reduceBNe, Int.reduceToNat, Int.reduceNeg]
  (repeat (with_reducible refine ob ?_)); first | refine cl F66 (qfc p hp) ?_ | refine clF F66 (qfc p hp) (fun _ => by (refine ev2 @qe.eq_1 @encQ.eq_1 ?_; try exact True.intro)) ?_
  (refine ev8 @qe.eq_1 @ze.eq_1 @h1 @h2 @h3 @h4 @beq_self_eq_true.{0} @List.map_append.{0,0} ?_; try exact True.intro)
  try (simp only [List.length_cons] at hl; omega)
def x9 (q : Qu) : Pk × Bool := match q.items with
 | [] => (default, false)
 | p :: _ => (p, true)
theorem qzu (q : Qu) (hq : q.Sm) : qg Tryz.prog 15 [.d (.agg (encQ q))] [] (.tup [.d (.agg (qe (x9 q).1)), .d (.bool (x9 q).2)]) [] := by
 first | refine F15.go ?_ | refine F15.goT ?_
 obtain ⟨acc, cons, items⟩ := q
 cases items with
 | nil =>
  simp only [encQ, x9, qkq, go_sem, Nat.reduceAdd, Nat.reduceMul, Nat.reduceSub, Nat.reduceEqDiff, Nat.reduceLT, Nat.reduceLeDiff, Nat.reduceBEq, reduceIte, reduceCtorEq, Int.reduceAdd, Int.reduceLT, Int.reduceLE, Int.reduceGT, Int.reduceGE, Int.reduceEq, Int.reduceNe, Int.reduceBEq, Int.reduceBNe, Int.reduceToNat, Int.reduceNeg]
  refine qs _ rfl rfl (fun h1 => ?_) (fun h1 => Bool.noConfusion h1)
  try (refine ev ?_; try exact True.intro)
 | cons p l =>
  simp only [encQ, x9, go_sem, Nat.reduceAdd, Nat.reduceMul, Nat.reduceSub, Nat.reduceEqDiff, Nat.reduceLT, Nat.reduceLeDiff, Nat.reduceBEq, reduceIte, reduceCtorEq, Int.reduceAdd, Int.reduceLT, Int.reduceLE, Int.reduceGT, Int.reduceGE, Int.reduceEq, Int.reduceNe, Int.reduceBEq, Int.reduceBNe, Int.reduceToNat, Int.reduceNeg]
  refine qs _ rfl rfl (fun h1 => ?_) (fun h1 => ?_)
  ·simp at h1; omega
  (refine ev1 @qe.eq_1 ?_; try exact True.intro)
  (repeat (with_reducible refine ob ?_))
  (repeat (with_reducible refine ob ?_)); first | refine cl F66 (qfc p (hq.2 _ (by simp))) ?_ | refine clF F66 (qfc p (hq.2 _ (by simp))) (fun _ => by (refine ev2 @qe.eq_1 @encQ.eq_1 ?_; try exact True.intro)) ?_
  (refine ev1 @qe.eq_1 ?_; try exact True.intro)
end Go.Proofs.YtkcdbcbpbolgkaaGreatDoor
namespace Go.Proofs.YtkcdbcbpbolgkaaGreatDoor
open Go.Abs
attribute [go_sem] List.getD_nil
noncomputable section
set_option maxRecDepth 100000
set_option linter.defProp false
def d140 := cut Tryz.prog Tryz.f140 news
@[go_sem] def E140 := ql d140
def F140 := fnC d140 follows Tryz.func140
def d100 := cut Tryz.prog Tryz.f100 news
@[go_sem] def E100 := ql d100
def d39 := cut Tryz.prog Tryz.f39 news
@[go_sem] def E39 := ql d39
end
def xo (q : Qu) (seq : Int) : Qu × Int :=
 if !yc q then (ja, 1)
 else if decide (seq ≥ 1) && decide (seq ≤ q.cons) then (ja, 21)
 else if (q.items.length : Int) == 0 || seq != (q.items.getD 0 default).seq then (ja, 22)
 else (⟨q.acc, seq, q.items.drop 1⟩, 0)
set_option maxRecDepth 10000 in
theorem q3u (q : Qu) (seq : Int) (hq : q.Sm) : qg Tryz.prog 140 [.d (.agg (encQ q)), .d (.int .i64 seq)] [] (.tup [.d (.agg (encQ (xo q seq).1)), .d (.int .i64 (xo q seq).2)]) [] := by
 have hl := hq.1
 first | refine F140.go ?_ | refine F140.goT ?_
 (refine ev1 @encQ.eq_1 ?_; try exact True.intro)
 (repeat (with_reducible refine ob ?_)); first | refine cl F188 (qcc q hq) ?_ | refine clF F188 (qcc q hq) (fun _ => by (refine ev2 @qe.eq_1 @encQ.eq_1 ?_; try exact True.intro)) ?_
 try (refine ev ?_; try exact True.intro)
 refine qs _ rfl rfl (fun h1 => ?_) (fun h1 => ?_)
 ·try (refine ev3 @xo.eq_1 @h1 @ja.eq_1 ?_; try exact True.intro)
 try (refine ev ?_; try exact True.intro)
 (repeat (with_reducible refine ob ?_))
 refine qs _ rfl rfl (fun h2 => ?_) (fun h2 => ?_)
 ·try (refine ev4 @xo.eq_1 @h1 @h2 @ja.eq_1 ?_; try exact True.intro)
 obtain ⟨acc, cons, items⟩ := q
 cases items with
 | nil =>
  try (refine ev ?_; try exact True.intro)
  (repeat (with_reducible refine ob ?_))
  refine qs _ rfl rfl (fun h3 => ?_) (fun h3 => ?_)
  ·try (refine ev4 @xo.eq_1 @h1 @h2 @ja.eq_1 ?_; try exact True.intro)
  ·exact Bool.noConfusion h3
 | cons x l =>
  (refine ev1 @qe.eq_1 ?_; try exact True.intro)
  (repeat (with_reducible refine ob ?_))
  refine qs _ rfl rfl (fun h3 => ?_) (fun h3 => ?_)
  ·try (refine ev5 @xo.eq_1 @h1 @h2 @h3 @ja.eq_1 ?_; try exact True.intro)
  (refine ev1 @qe.eq_1 ?_; try exact True.intro)
  refine ⟨by omega, ?_⟩
  simp only [List.length_cons] at hl
  refine qho (qqq l (by omega) (fun p hp => hq.2 p (List.mem_cons_of_mem _ hp))) F222.body rfl ⟨by (refine ev2 @qe.eq_1 @encQ.eq_1 ?_; try exact True.intro), by try (refine ev ?_; try exact True.intro), by try (refine ev ?_; try exact True.intro), by try (refine ev ?_; try exact True.intro)⟩ (by try (refine ev ?_; try exact True.intro)) (by simp [ASlot.toks]) ?_
  simp only [qeh, renT, xo, h1, h2, h3, go_sem, Nat.reduceAdd, Nat.reduceMul, Nat.reduceSub, Nat.reduceEqDiff, Nat.reduceLT, Nat.reduceLeDiff, Nat.reduceBEq, reduceIte, reduceCtorEq, Int.reduceAdd, Int.reduceLT, Int.reduceLE, Int.reduceGT, Int.reduceGE, Int.reduceEq, Int.reduceNe, Int.reduceBEq, Int.reduceBNe, Int.reduceToNat, Int.reduceNeg]
end Go.Proofs.YtkcdbcbpbolgkaaGreatDoor
