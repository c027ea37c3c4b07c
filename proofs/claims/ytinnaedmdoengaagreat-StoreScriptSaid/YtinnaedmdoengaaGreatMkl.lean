/- Texts Ca, Wa, Cb, Wb, Wc. -/
import Derived.Test.YtinnaedmdoengaaGreatMkk
import Derived.Calls
import Derived.Orders
import Derived.Tactics
import Derived.Laws.AppendOwn
import Derived.Laws.Slices
import Derived.Laws.Closers25
import Derived.Laws.StructEq
import Derived.Laws.BytesString
import Derived.Laws.CopyRow
import Derived.MapKept
import Derived.Maps.RangeRun
import Derived.TacticsIn
import Derived.OrdersIn
import Derived.RangeFuncRecord
import Derived.RangeFuncLeaves
import Derived.IntWalk
import Derived.ProofKit
import Derived.OpenShut
import Derived.Carry
import Derived.Test.YtinnaedmdoengaaGreatProg
import Derived.KernelRfl

namespace Go.Proofs.YtinnaedmdoengaaGreat
open Go.Abs
set_option linter.unusedSimpArgs false
def news : List (FuncId × Nat) := [(102, 1), (54, 1), (10, 2), (18, 2), (14, 1), (51, 1), (24, 2), (25, 5)]
theorem follows : Tryz.prog.follows .mixedOrders = true := by kernel_rfl
structure AV where
 kind : Int
 n : Int
 s : List UInt8
 deriving DecidableEq, Inhabited
def qe5 (v : AV) : List D := [.int .i64 v.kind, .int .i64 v.n, .str v.s]
theorem wh (v : AV) : D.noPtrL (qe5 v) = true := rfl
def encI (n : Int) : List D := [.int .i64 n]
theorem yg (n : Int) : D.noPtrL (encI n) = true := rfl
structure Pk where
 kind : Int
 sess : Int
 epoch : Int
 from_ : Int
 to : Int
 seq : Int
 label : Int
 values : List AV
 clock : List Int
 deriving DecidableEq, Inhabited
def qbg (p : Pk) : List D := [.int .i64 p.kind, .int .i64 p.sess, .int .i64 p.epoch, .int .i64 p.from_, .int .i64 p.to, .int .i64 p.seq, .int .i64 p.label, .sl 3 (p.values.map qe5), .sl 1 (p.clock.map encI)]
theorem qd6 (p : Pk) : D.noPtrL (qbg p) = true := by
 simp only [qbg, D.noPtrL, D.noPtr, xp wh, xp yg, Bool.and_self]
theorem qye (l : List AV) : D.noPtrR (l.map qe5) = true := xp wh l
theorem q4i (l : List Int) : D.noPtrR (l.map encI) = true := xp yg l
theorem qyf (l : List Pk) : D.noPtrR (l.map qbg) = true := xp qd6 l
attribute [go_sem] wh yg qd6 qye q4i qyf
noncomputable section
set_option maxRecDepth 100000
def q59 : List SOper := [
 ⟨some 2, .mov (.k (.d (.bool false))), none⟩]
def q6a : List SOper := [
 ⟨some 3, .mov (.t 0), none⟩,
 ⟨some 4, .bin .geq (.t 3) (.k (.d (.int .i64 0))), none⟩,
 ⟨some 5, .mov (.t 4), none⟩,
 ⟨some 6, .mov (.t 0), some (5, true)⟩,
 ⟨some 7, .bin .lss (.t 6) (.k (.d (.int .i64 6))), some (5, true)⟩,
 ⟨some 8, .pick (.t 5) (.t 7) (.k (.d (.bool false))), none⟩,
 ⟨some 2, .mov (.t 8), none⟩]
def s203 : SCode := (.seq (.region q59 0 []) (.seq (.region q6a 0 []) .ret))
theorem zg8 : qg s203.eq_1 := qh s203.eq_1
theorem xlj : qa q59.eq_1 := qc
theorem xlk : qa q6a.eq_1 := qc
attribute [go_sem] xlj xlk zg8
def q6b : List SOper := [
 ⟨some 1, .box 1 (.t 0), none⟩,
 ⟨some 2, .mov (.k (.d (.bool false))), none⟩]
def q6c : List SOper := [
 ⟨some 3, .faddr 0 (.t 1), none⟩,
 ⟨some 4, .load none (.t 3), none⟩]
def q6d : List SOper := [
 ⟨some 6, .bin .eql (.t 4) (.k (.d (.int .i64 1))), none⟩,
 ⟨some 5, .mov (.t 6), none⟩]
def q6e : List SOper := [
 ⟨some 7, .faddr 2 (.t 1), none⟩,
 ⟨some 8, .load none (.t 7), none⟩,
 ⟨some 9, .bin .eql (.t 8) (.k (.d (.str []))), none⟩,
 ⟨some 2, .mov (.t 9), none⟩]
def q6f : List SOper := [
 ⟨some 11, .bin .eql (.t 4) (.k (.d (.int .i64 2))), none⟩,
 ⟨some 10, .mov (.t 11), none⟩]
def q6g : List SOper := [
 ⟨some 12, .faddr 1 (.t 1), none⟩,
 ⟨some 13, .load none (.t 12), none⟩,
 ⟨some 14, .bin .eql (.t 13) (.k (.d (.int .i64 0))), none⟩,
 ⟨some 15, .mov (.t 14), none⟩,
 ⟨some 16, .faddr 2 (.t 1), some (15, true)⟩,
 ⟨some 17, .load none (.t 16), some (15, true)⟩,
 ⟨some 18, .lenS (.t 17), some (15, true)⟩,
 ⟨some 19, .bin .leq (.t 18) (.k (.d (.int .i64 40))), some (15, true)⟩,
 ⟨some 20, .pick (.t 15) (.t 19) (.k (.d (.bool false))), none⟩,
 ⟨some 2, .mov (.t 20), none⟩]
def q6h : List SOper := [
 ⟨some 2, .mov (.k (.d (.bool false))), none⟩]
def s199 : SCode := (.seq (.region q6b 1 []) (.seq (.seq (.region q6c 0 []) (.block 0 (.seq (.region q6d 0 []) (.cond (.t 5) (.seq (.region q6e 0 []) .ret) (.seq (.region q6f 0 []) (.cond (.t 10) (.seq (.region q6g 0 []) .ret) .skip)))))) (.seq (.region q6h 0 []) .ret)))
theorem zg9 : qg s199.eq_1 := qh s199.eq_1
theorem xlm : qa q6b.eq_1 := qc
theorem xln : qa q6c.eq_1 := qc
theorem xlo : qa q6d.eq_1 := qc
theorem xlp : qa q6e.eq_1 := qc
theorem xlq : qa q6f.eq_1 := qc
theorem xlr : qa q6g.eq_1 := qc
theorem xls : qa q6h.eq_1 := qc
attribute [go_sem] xlm xln xlo xlp xlq xlr xls zg9
def q6i : List SOper := [
 ⟨some 1, .box 1 (.t 0), none⟩,
 ⟨some 2, .mov (.k (.d (.bool false))), none⟩]
def q6j : List SOper := [
 ⟨some 3, .faddr 3 (.t 1), none⟩,
 ⟨some 4, .load none (.t 3), none⟩,
 ⟨some 5, .call (.k (.d (.func (.func 203) [] []))) [(.t 4)], none⟩,
 ⟨some 6, .mov (.t 5), none⟩,
 ⟨some 7, .faddr 4 (.t 1), some (6, true)⟩,
 ⟨some 8, .load none (.t 7), some (6, true)⟩,
 ⟨some 9, .call (.k (.d (.func (.func 203) [] []))) [(.t 8)], some (6, true)⟩,
 ⟨some 10, .pick (.t 6) (.t 9) (.k (.d (.bool false))), none⟩,
 ⟨some 11, .mov (.t 10), none⟩,
 ⟨some 12, .faddr 3 (.t 1), some (11, true)⟩,
 ⟨some 13, .load none (.t 12), some (11, true)⟩,
 ⟨some 14, .faddr 4 (.t 1), some (11, true)⟩,
 ⟨some 15, .load none (.t 14), some (11, true)⟩,
 ⟨some 16, .bin .neq (.t 13) (.t 15), some (11, true)⟩,
 ⟨some 17, .pick (.t 11) (.t 16) (.k (.d (.bool false))), none⟩,
 ⟨some 18, .mov (.t 17), none⟩,
 ⟨some 19, .faddr 5 (.t 1), some (18, true)⟩,
 ⟨some 20, .load none (.t 19), some (18, true)⟩,
 ⟨some 21, .bin .geq (.t 20) (.k (.d (.int .i64 1))), some (18, true)⟩,
 ⟨some 22, .pick (.t 18) (.t 21) (.k (.d (.bool false))), none⟩,
 ⟨some 23, .mov (.t 22), none⟩,
 ⟨some 24, .faddr 5 (.t 1), some (23, true)⟩,
 ⟨some 25, .load none (.t 24), some (23, true)⟩,
 ⟨some 26, .bin .leq (.t 25) (.k (.d (.int .i64 1099511627776))), some (23, true)⟩,
 ⟨some 27, .pick (.t 23) (.t 26) (.k (.d (.bool false))), none⟩,
 ⟨some 2, .mov (.t 27), none⟩]
def s196 : SCode := (.seq (.region q6i 1 []) (.seq (.region q6j 0 []) .ret))
theorem zha : qg s196.eq_1 := qh s196.eq_1
theorem xlt : qa q6i.eq_1 := qc
theorem xlu : qa q6j.eq_1 := qc
attribute [go_sem] xlt xlu zha
def q6k : List SOper := [
 ⟨some 1, .box 1 (.t 0), none⟩,
 ⟨some 2, .mov (.k (.d (.bool false))), none⟩]
def q6l : List SOper := [
 ⟨some 3, .faddr 2 (.t 1), none⟩,
 ⟨some 4, .load none (.t 3), none⟩,
 ⟨some 5, .bin .eql (.t 4) (.k (.d (.int .i64 0))), none⟩,
 ⟨some 6, .mov (.t 5), none⟩,
 ⟨some 7, .faddr 7 (.t 1), some (6, true)⟩,
 ⟨some 8, .load none (.t 7), some (6, true)⟩,
 ⟨some 9, .len (.t 8), some (6, true)⟩,
 ⟨some 10, .bin .eql (.t 9) (.k (.d (.int .i64 0))), some (6, true)⟩,
 ⟨some 11, .pick (.t 6) (.t 10) (.k (.d (.bool false))), none⟩,
 ⟨some 12, .mov (.t 11), none⟩,
 ⟨some 13, .faddr 8 (.t 1), some (12, true)⟩,
 ⟨some 14, .load none (.t 13), some (12, true)⟩,
 ⟨some 15, .len (.t 14), some (12, true)⟩,
 ⟨some 16, .bin .eql (.t 15) (.k (.d (.int .i64 0))), some (12, true)⟩,
 ⟨some 17, .pick (.t 12) (.t 16) (.k (.d (.bool false))), none⟩,
 ⟨some 2, .mov (.t 17), none⟩]
def s202 : SCode := (.seq (.region q6k 1 []) (.seq (.region q6l 0 []) .ret))
theorem zhb : qg s202.eq_1 := qh s202.eq_1
theorem xlv : qa q6k.eq_1 := qc
theorem xlw : qa q6l.eq_1 := qc
attribute [go_sem] xlv xlw zhb
def q6m : List SOper := [
 ⟨some 1, .box 1 (.t 0), none⟩,
 ⟨some 2, .mov (.k (.d (.bool false))), none⟩]
def q6n : List SOper := [
 ⟨some 3, .load (some 9) (.t 1), none⟩,
 ⟨some 4, .call (.k (.d (.func (.func 196) [] []))) [(.t 3)], none⟩,
 ⟨some 5, .mov (.t 4), none⟩,
 ⟨some 6, .load (some 9) (.t 1), some (5, true)⟩,
 ⟨some 7, .call (.k (.d (.func (.func 202) [] []))) [(.t 6)], some (5, true)⟩,
 ⟨some 8, .pick (.t 5) (.t 7) (.k (.d (.bool false))), none⟩,
 ⟨some 9, .mov (.t 8), none⟩,
 ⟨some 10, .faddr 6 (.t 1), some (9, true)⟩,
 ⟨some 11, .load none (.t 10), some (9, true)⟩,
 ⟨some 12, .bin .eql (.t 11) (.k (.d (.int .i64 0))), some (9, true)⟩,
 ⟨some 13, .pick (.t 9) (.t 12) (.k (.d (.bool false))), none⟩,
 ⟨some 2, .mov (.t 13), none⟩]
def s164 : SCode := (.seq (.region q6m 1 []) (.seq (.region q6n 0 []) .ret))
theorem zhc : qg s164.eq_1 := qh s164.eq_1
theorem xlx : qa q6m.eq_1 := qc
theorem xly : qa q6n.eq_1 := qc
attribute [go_sem] xlx xly zhc
def q6o : List SOper := [
 ⟨some 1, .box 1 (.t 0), none⟩,
 ⟨some 2, .mov (.k (.d (.bool false))), none⟩]
def q6p : List SOper := [
 ⟨some 3, .faddr 3 (.t 1), none⟩,
 ⟨some 4, .load none (.t 3), none⟩,
 ⟨some 5, .call (.k (.d (.func (.func 203) [] []))) [(.t 4)], none⟩,
 ⟨some 6, .mov (.t 5), none⟩,
 ⟨some 7, .faddr 6 (.t 1), some (6, true)⟩,
 ⟨some 8, .load none (.t 7), some (6, true)⟩,
 ⟨some 9, .bin .eql (.t 8) (.k (.d (.int .i64 1))), some (6, true)⟩,
 ⟨some 10, .mov (.t 9), some (6, true)⟩,
 ⟨some 11, .faddr 6 (.t 1), some (10, false)⟩,
 ⟨some 12, .load none (.t 11), some (10, false)⟩,
 ⟨some 13, .bin .eql (.t 12) (.k (.d (.int .i64 2))), some (10, false)⟩,
 ⟨some 14, .pick (.t 10) (.k (.d (.bool true))) (.t 13), some (6, true)⟩,
 ⟨some 15, .pick (.t 6) (.t 14) (.k (.d (.bool false))), none⟩,
 ⟨some 16, .mov (.t 15), none⟩,
 ⟨some 17, .load (some 9) (.t 1), some (16, true)⟩,
 ⟨some 18, .call (.k (.d (.func (.func 202) [] []))) [(.t 17)], some (16, true)⟩,
 ⟨some 19, .pick (.t 16) (.t 18) (.k (.d (.bool false))), none⟩,
 ⟨some 20, .mov (.t 19), none⟩,
 ⟨some 21, .faddr 4 (.t 1), some (20, true)⟩,
 ⟨some 22, .load none (.t 21), some (20, true)⟩,
 ⟨some 23, .bin .eql (.t 22) (.k (.d (.int .i64 0))), some (20, true)⟩,
 ⟨some 24, .pick (.t 20) (.t 23) (.k (.d (.bool false))), none⟩,
 ⟨some 25, .mov (.t 24), none⟩,
 ⟨some 26, .faddr 5 (.t 1), some (25, true)⟩,
 ⟨some 27, .load none (.t 26), some (25, true)⟩,
 ⟨some 28, .bin .eql (.t 27) (.k (.d (.int .i64 0))), some (25, true)⟩,
 ⟨some 29, .pick (.t 25) (.t 28) (.k (.d (.bool false))), none⟩,
 ⟨some 2, .mov (.t 29), none⟩]
def s165 : SCode := (.seq (.region q6o 1 []) (.seq (.region q6p 0 []) .ret))
theorem zhd : qg s165.eq_1 := qh s165.eq_1
theorem xlz : qa q6o.eq_1 := qc
theorem xl0 : qa q6p.eq_1 := qc
attribute [go_sem] xlz xl0 zhd
def q6q : List SOper := [
 ⟨some 1, .box 1 (.t 0), none⟩,
 ⟨some 2, .mov (.k (.d (.bool false))), none⟩]
def q6r : List SOper := [
 ⟨some 3, .load (some 3) (.t 1), none⟩,
 ⟨some 4, .call (.k (.d (.func (.func 199) [] []))) [(.t 3)], none⟩,
 ⟨some 5, .not (.t 4), none⟩,
 ⟨some 2, .mov (.t 5), none⟩]
def s198 : SCode := (.seq (.region q6q 1 []) (.seq (.region q6r 0 []) .ret))
theorem zhe : qg s198.eq_1 := qh s198.eq_1
theorem xl1 : qa q6q.eq_1 := qc
theorem xl2 : qa q6r.eq_1 := qc
attribute [go_sem] xl1 xl2 zhe
def q6s : List SOper := [
 ⟨some 2, .mov (.k (.d (.bool false))), none⟩]
def q6t : List SOper := [
 ⟨some 3, .mov (.t 0), none⟩,
 ⟨some 4, .bin .lss (.t 3) (.k (.d (.int .i64 0))), none⟩,
 ⟨some 5, .mov (.t 4), none⟩,
 ⟨some 6, .mov (.t 0), some (5, false)⟩,
 ⟨some 7, .bin .gtr (.t 6) (.k (.d (.int .i64 1099511627776))), some (5, false)⟩,
 ⟨some 8, .pick (.t 5) (.k (.d (.bool true))) (.t 7), none⟩,
 ⟨some 2, .mov (.t 8), none⟩]
def s201 : SCode := (.seq (.region q6s 0 []) (.seq (.region q6t 0 []) .ret))
theorem zhf : qg s201.eq_1 := qh s201.eq_1
theorem xl3 : qa q6s.eq_1 := qc
theorem xl4 : qa q6t.eq_1 := qc
attribute [go_sem] xl3 xl4 zhf
end
def role (n : Int) : Bool := decide (n ≥ 0) && decide (n < 6)
def qla (v : AV) : Bool := if v.kind == 1 then v.s == [] else if v.kind == 2 then v.n == 0 && decide ((v.s.length : Int) ≤ 40) else false
def qmt (p : Pk) : Bool := role p.from_ && role p.to && p.from_ != p.to && decide (p.seq ≥ 1) && decide (p.seq ≤ 1099511627776)
def bare (p : Pk) : Bool := p.epoch == 0 && (p.values.length : Int) == 0 && (p.clock.length : Int) == 0
def order (p : Pk) : Bool := role p.from_ && (p.label == 1 || p.label == 2) && bare p && p.to == 0 && p.seq == 0
end Go.Proofs.YtinnaedmdoengaaGreat
namespace Go.Proofs.YtinnaedmdoengaaGreat
open Go.Abs
set_option linter.unusedSimpArgs false
theorem jb (s : List UInt8) : D.noPtrR (qd s) = true := xp (fun _ => rfl) s
theorem xd (s t : List UInt8) : qd s ++ qd t = qd (s ++ t) := by simp [qd]
theorem wk (c : UInt8) : [[D.int .u8 (c.toNat : Int)]] = qd [c] := rfl
theorem zr (s : List UInt8) : (qd s).length = s.length := by simp [qd]
theorem qu : qd [] = [] := rfl
attribute [go_sem] jb zr
attribute [go_sem] qu
def y4 (u : Nat) : List UInt8 := if u < 128 then [UInt8.ofNat u] else UInt8.ofNat (u % 128 + 128) :: y4 (u / 128)
def zz (n : Int) : Nat := if 0 ≤ n then (2 * n).toNat else (-2 * n - 1).toNat
def wInt (n : Int) : List UInt8 := y4 (zz n)
def I64 (n : Int) : Prop := -9223372036854775808 ≤ n ∧ n ≤ 9223372036854775807
theorem qlb : ∀ (k u : Nat), u < 128 ^ (k + 1) → (y4 u).length ≤ k + 1
 | 0, u, h => by rw [y4, if_pos (by simpa using h)]; simp
 | k + 1, u, h => by
  rw [y4]
  split
  ·simp
  ·have := qlb k (u / 128) (by rw [Nat.div_lt_iff_lt_mul (by decide)]; rw [Nat.pow_succ] at h; exact h)
   simp; omega
theorem q4l {n : Int} (h : I64 n) : zz n < 18446744073709551616 := by
 obtain ⟨h1, h2⟩ := h
 unfold zz; split <;> omega
theorem wx {n : Int} (h : I64 n) : (wInt n).length ≤ 10 := qlb 9 _ (Nat.lt_of_lt_of_le (q4l h) (by decide))
theorem qcu (n : Int) : IntKind.u8.wrap n = n % 256 := by simp [IntKind.wrap, IntKind.bits, IntKind.signed]
theorem qdt (a : Nat) (h : a < 2 ^ 64) : ((BitVec.ofInt 64 (a : Int)) ^^^ (BitVec.ofInt 64 18446744073709551615)).toNat = 18446744073709551615 - a := by
 have e1 : BitVec.ofInt 64 18446744073709551615 = BitVec.allOnes 64 := by decide
 have e2 : BitVec.ofInt 64 (a : Int) = BitVec.ofNat 64 a := by simp
 rw [e1, e2, BitVec.xor_allOnes, BitVec.toNat_not, BitVec.toNat_ofNat, Nat.mod_eq_of_lt h]
theorem x64 {n : Int} (h : I64 n) : IntKind.u64.wrap (qnn 64 (IntKind.u64.wrap (IntKind.u64.wrap n * 2 ^ min 1 64)) (IntKind.u64.wrap (n.fdiv (2 ^ min 63 64)))) = (zz n : Int) := by
 unfold qnn
 obtain ⟨h1, h2⟩ := h
 have hf : n.fdiv (2 ^ min 63 64) = if 0 ≤ n then 0 else -1 := by
  show n.fdiv 9223372036854775808 = _
  rw [Int.fdiv_eq_ediv_of_nonneg _ (by decide)]
  split <;> omega
 have hw : ∀ m : Int, IntKind.u64.wrap m = m % 18446744073709551616 := fun m => by simp [IntKind.wrap, IntKind.bits, IntKind.signed]
 have hz := q4l ⟨h1, h2⟩
 have hp : (2 : Int) ^ min 1 64 = 2 := rfl
 rw [hf, hp]
 by_cases hn : 0 ≤ n
 ·rw [if_pos hn]
  have e0 : BitVec.ofInt 64 (IntKind.u64.wrap 0) = 0#64 := by rw [hw]; rfl
  have e1 : IntKind.u64.wrap (IntKind.u64.wrap n * 2) = ((zz n : Nat) : Int) := by rw [hw, hw]; unfold zz; rw [if_pos hn]; omega
  rw [e0, e1, BitVec.xor_zero, BitVec.ofInt_natCast, BitVec.toNat_ofNat, Nat.mod_eq_of_lt hz, hw]
  omega
 ·rw [if_neg hn]
  have e0 : IntKind.u64.wrap (-1) = 18446744073709551615 := by rw [hw]; rfl
  have e1 : IntKind.u64.wrap (IntKind.u64.wrap n * 2) = ((18446744073709551615 - zz n : Nat) : Int) := by rw [hw, hw]; unfold zz at hz ⊢; rw [if_neg hn] at hz ⊢; omega
  rw [e0, e1, qdt _ (by show _ < 18446744073709551616; omega), hw]
  unfold zz at hz ⊢; rw [if_neg hn] at hz ⊢; omega
theorem q4m (u : Nat) : (IntKind.u8.wrap (bvOr 8 (IntKind.u8.wrap (u : Int)) 128)) = ((UInt8.ofNat (u % 128 + 128)).toNat : Int) := by
 unfold bvOr
 have hw : ∀ m : Int, IntKind.u8.wrap m = m % 256 := fun m => by simp [IntKind.wrap, IntKind.bits, IntKind.signed]
 have e1 : BitVec.ofInt 8 (IntKind.u8.wrap (u : Int)) = BitVec.ofNat 8 (u % 256) := by rw [hw, show ((u : Int) % 256) = ((u % 256 : Nat) : Int) by omega, BitVec.ofInt_natCast]
 have key : ∀ x : Fin 256, (BitVec.ofNat 8 x.val ||| BitVec.ofInt 8 128).toNat = x.val % 128 + 128 := by decide +kernel
 have := key ⟨u % 256, Nat.mod_lt _ (by decide)⟩
 simp only at this
 rw [e1, this, hw]
 simp only [UInt8.toNat_ofNat']
 omega
theorem qas {u : Nat} (h : ¬ u < 128) : y4 u = UInt8.ofNat (u % 128 + 128) :: y4 (u / 128) := by rw [y4, if_neg h]
theorem yh {u : Nat} (h : u < 128) : y4 u = [UInt8.ofNat u] := by rw [y4, if_pos h]
theorem zhg (u : Nat) : (u : Int).fdiv (2 ^ min 7 64) = ((u / 128 : Nat) : Int) := by
 show (u : Int).fdiv 128 = _
 rw [Int.fdiv_eq_ediv_of_nonneg _ (by decide)]; omega
theorem qmu (u : Nat) : IntKind.u8.wrap (u : Int) = ((UInt8.ofNat u).toNat : Int) := by
 rw [qcu _, UInt8.toNat_ofNat']; omega
noncomputable section
set_option maxRecDepth 100000
def xl6 : List SOper := [
 ⟨some 4, .mov (.k (.d .nilsl)), none⟩]
def xl7 : List SOper := [
 ⟨some 6, .mov (.t 1), none⟩,
 ⟨some 7, .conv .u64 (.t 6), none⟩,
 ⟨some 8, .bin .shl (.t 7) (.k (.d (.int .u64 1))), none⟩,
 ⟨some 9, .mov (.t 1), none⟩,
 ⟨some 10, .bin .shr (.t 9) (.k (.d (.int .u64 63))), none⟩,
 ⟨some 11, .conv .u64 (.t 10), none⟩,
 ⟨some 12, .bin .xor (.t 8) (.t 11), none⟩,
 ⟨some 5, .mov (.t 12), none⟩]
def xl8 : List SOper := [
 ⟨some 13, .mov (.t 5), none⟩,
 ⟨some 14, .bin .geq (.t 13) (.k (.d (.int .u64 128))), none⟩]
def xl9 : List SOper := [
 ⟨some 15, .mov (.t 0), none⟩,
 ⟨some 16, .mov (.t 5), none⟩,
 ⟨some 17, .conv .u8 (.t 16), none⟩,
 ⟨some 18, .bin .or (.t 17) (.k (.d (.int .u8 128))), none⟩,
 ⟨some 19, .buildSlice false 1 1 [(.int .u8 0)] [(0, 1, (.t 18))], none⟩,
 ⟨some 20, .append false 1 1 (.t 15) (.t 19), none⟩,
 ⟨some 0, .mov (.t 20), none⟩]
def xma : List SOper := [
 ⟨some 21, .mov (.t 5), none⟩,
 ⟨some 22, .bin .shr (.t 21) (.k (.d (.int .u64 7))), none⟩,
 ⟨some 5, .mov (.t 22), none⟩]
def xij : SCode := (.seq (.seq (.region xl8 0 []) (.cond (.t 14) .skip (.exit 0))) (.block 1 (.seq (.region xl9 0 []) (.region xma 0 []))))
theorem x65 : qg xij.eq_1 := qh xij.eq_1
def xmb : List SOper := [
 ⟨some 23, .mov (.t 0), none⟩,
 ⟨some 24, .mov (.t 5), none⟩,
 ⟨some 25, .conv .u8 (.t 24), none⟩,
 ⟨some 26, .buildSlice false 1 1 [(.int .u8 0)] [(0, 1, (.t 25))], none⟩,
 ⟨some 27, .append false 1 1 (.t 23) (.t 26), none⟩,
 ⟨some 4, .mov (.t 27), none⟩]
def s91 : SCode := (.seq (.region xl6 0 []) (.seq (.region xl7 0 []) (.seq (.block 0 (.loop xij)) (.seq (.region xmb 0 []) .ret))))
theorem e91 : qg s91.eq_1 := qh s91.eq_1
theorem x66 : qa xl6.eq_1 := qc
theorem x67 : qa xl7.eq_1 := qc
theorem x68 : qa xl8.eq_1 := qc
theorem x69 : qa xl9.eq_1 := qc
theorem x7a : qa xma.eq_1 := qc
theorem x7b : qa xmb.eq_1 := qc
attribute [go_sem] x66 x67 x68 x69 x7a x65 x7b e91
theorem F91 : FnIs Tryz.prog 91 Tryz.f91 [] news s91 [.tmp 4] 28 := zc follows Tryz.func91
def xmc : List SOper := [
 ⟨some 4, .mov (.k (.d .nilsl)), none⟩]
def xmd : List SOper := [
 ⟨some 5, .mov (.t 1), none⟩]
def xme : List SOper := [
 ⟨some 6, .mov (.t 0), none⟩,
 ⟨some 7, .buildSlice false 1 1 [(.int .u8 0)] [(0, 1, (.k (.d (.int .u8 1))))], none⟩,
 ⟨some 8, .append false 1 1 (.t 6) (.t 7), none⟩,
 ⟨some 4, .mov (.t 8), none⟩]
def xmf : List SOper := [
 ⟨some 9, .mov (.t 0), none⟩,
 ⟨some 10, .buildSlice false 1 1 [(.int .u8 0)] [(0, 1, (.k (.d (.int .u8 0))))], none⟩,
 ⟨some 11, .append false 1 1 (.t 9) (.t 10), none⟩,
 ⟨some 4, .mov (.t 11), none⟩]
def s98 : SCode := (.seq (.region xmc 0 []) (.seq (.seq (.region xmd 0 []) (.cond (.t 5) (.seq (.region xme 0 []) .ret) .skip)) (.seq (.region xmf 0 []) .ret)))
theorem e98 : qg s98.eq_1 := qh s98.eq_1
theorem x7c : qa xmc.eq_1 := qc
theorem x7d : qa xmd.eq_1 := qc
theorem x7e : qa xme.eq_1 := qc
theorem x7f : qa xmf.eq_1 := qc
attribute [go_sem] x7c x7d x7e x7f e98
theorem F98 : FnIs Tryz.prog 98 Tryz.f98 [] news s98 [.tmp 4] 12 := zc follows Tryz.func98
def xmg : List SOper := [
 ⟨some 4, .mov (.k (.d .nilsl)), none⟩]
def xmh : List SOper := [
 ⟨some 5, .mov (.t 0), none⟩,
 ⟨some 6, .mov (.t 1), none⟩,
 ⟨some 7, .lenS (.t 6), none⟩,
 ⟨some 8, .call (.k (.d (.func (.func 91) [] []))) [(.t 5), (.t 7)], none⟩,
 ⟨some 9, .mov (.t 1), none⟩,
 ⟨some 10, .append false 1 1 (.t 8) (.t 9), none⟩,
 ⟨some 4, .mov (.t 10), none⟩]
def s99 : SCode := (.seq (.region xmg 0 []) (.seq (.region xmh 0 []) .ret))
theorem e99 : qg s99.eq_1 := qh s99.eq_1
theorem x7g : qa xmg.eq_1 := qc
theorem x7h : qa xmh.eq_1 := qc
attribute [go_sem] x7g x7h e99
theorem F99 : FnIs Tryz.prog 99 Tryz.f99 [] news s99 [.tmp 4] 11 := zc follows Tryz.func99
def xmi : List SOper := [
 ⟨some 4, .mov (.k (.d .nilsl)), none⟩]
def xmj : List SOper := [
 ⟨some 5, .mov (.t 0), none⟩,
 ⟨some 6, .mov (.t 1), none⟩,
 ⟨some 7, .len (.t 6), none⟩,
 ⟨some 8, .call (.k (.d (.func (.func 91) [] []))) [(.t 5), (.t 7)], none⟩,
 ⟨some 9, .mov (.t 1), none⟩,
 ⟨some 10, .append false 1 1 (.t 8) (.t 9), none⟩,
 ⟨some 4, .mov (.t 10), none⟩]
def s97 : SCode := (.seq (.region xmi 0 []) (.seq (.region xmj 0 []) .ret))
theorem e97 : qg s97.eq_1 := qh s97.eq_1
theorem x7i : qa xmi.eq_1 := qc
theorem x7j : qa xmj.eq_1 := qc
attribute [go_sem] x7i x7j e97
theorem F97 : FnIs Tryz.prog 97 Tryz.f97 [] news s97 [.tmp 4] 11 := zc follows Tryz.func97
end
def q4n (b : List UInt8) (n : Int) (i : { i : List UInt8 × Nat // i.1 ++ y4 i.2 = b ++ wInt n }) : St :=
 ⟨[(0, true, .own 0 1 (qd i.val.1)), (5, true, .d (.int .u64 (i.val.2 : Nat)))], [], [0], 1⟩
theorem qc9 (b : List UInt8) (n : Int) (hb : b.length ≤ 1000000000) (hn : I64 n) : qo Tryz.prog 91 [.own 0 1 (qd b), .d (.int .i64 n)] [] (.own 0 1 (qd (b ++ wInt n))) [] := by
 refine F91.go ?_
 try (refine ev1 (x64 hn) ?_; try exact True.intro)
 refine xc (q4n b n) (fun i => i.val.2) ⟨(b, zz n), rfl⟩ ?_ (fun i => ?_)
 ·try (refine ev1 @q4n.eq_1 ?_; try exact True.intro)
 obtain ⟨⟨p, u⟩, hi⟩ := i
 have hl : p.length ≤ 1000000010 := by
  have := congrArg List.length hi
  have := wx hn
  simp at *; omega
 try (refine ev1 @q4n.eq_1 ?_; try exact True.intro)
 (repeat (with_reducible refine ob ?_)); refine zk _ (fun h => ?_) (fun h => ?_)
 ·have hu : ¬ u < 128 := by simp at h; omega
  try (refine ev4 @q4m @wk @xd @zhg ?_; try exact True.intro)
  (repeat (with_reducible refine ob ?_))
  refine ⟨⟨(p ++ [UInt8.ofNat (u % 128 + 128)], u / 128), ?_⟩, ?_, ?_⟩
  ·simp only at hi ⊢; rw [qas hu] at hi; rw [← hi]; simp
  ·try (refine ev1 @q4n.eq_1 ?_; try exact True.intro)
  ·simp only; omega
 ·have hu : u < 128 := by simp at h; omega
  try (refine ev3 @qmu @wk @xd ?_; try exact True.intro)
  (repeat (with_reducible refine ob ?_))
  simp only [yh hu] at hi
  try (refine ev1 @hi ?_; try exact True.intro)
theorem qi7 (b : List UInt8) (v : Bool) (hb : b.length ≤ 1000000000) : qo Tryz.prog 98 [.own 0 1 (qd b), .d (.bool v)] [] (.own 0 1 (qd (b ++ [if v then 1 else 0]))) [] := by
 refine F98.go ?_
 try (refine ev ?_; try exact True.intro)
 have e1 : [[D.int .u8 1]] = qd [1] := rfl
 have e0 : [[D.int .u8 0]] = qd [0] := rfl
 cases v with
 | true =>
  try (refine ev ?_; try exact True.intro)
  (repeat (with_reducible refine ob ?_)); refine qct ?_
  try simp only [e1, xd, if_true, go_sem, Nat.reduceAdd, Nat.reduceMul, Nat.reduceSub, Nat.reduceEqDiff, Nat.reduceLT, Nat.reduceLeDiff, Nat.reduceBEq, reduceIte, reduceCtorEq, Int.reduceAdd, Int.reduceLT, Int.reduceLE, Int.reduceGT, Int.reduceGE, Int.reduceEq, Int.reduceNe, Int.reduceBEq, Int.reduceBNe, Int.reduceToNat, Int.reduceNeg]
  omega
 | false =>
  try (refine ev ?_; try exact True.intro)
  (repeat (with_reducible refine ob ?_)); refine no_ ?_
  try (refine ev2 @e0 @xd ?_; try exact True.intro)
  omega
def yi (s : List UInt8) : List UInt8 := wInt s.length ++ s
theorem zy {n : Nat} (h : n ≤ 9000000000000000000) : I64 n := by unfold I64; omega
theorem qi8 (b s : List UInt8) (hb : b.length + s.length ≤ 900000000) : qo Tryz.prog 99 [.own 0 1 (qd b), .d (.str s)] [] (.own 0 1 (qd (b ++ yi s))) [] := by
 refine F99.go ?_
 try (refine ev ?_; try exact True.intro)
 refine clA F91 (qc9 b s.length (by omega) (zy (by omega))) ?_
 try (refine ev ?_; try exact True.intro)
 have hl := wx (zy (n := s.length) (by omega))
 have e : qd (b ++ wInt s.length) ++ qd s = qd (b ++ yi s) := by rw [xd, yi, List.append_assoc]
 try (refine ev2 @e @List.length_append.{0} ?_; try exact True.intro)
 refine ⟨by omega, by omega⟩
theorem qg4 (b s : List UInt8) (hb : b.length + s.length ≤ 900000000) : qo Tryz.prog 97 [.own 0 1 (qd b), .d (.sl 1 (qd s))] [] (.own 0 1 (qd (b ++ yi s))) [] := by
 refine F97.go ?_
 try (refine ev ?_; try exact True.intro)
 refine clA F91 (qc9 b s.length (by omega) (zy (by omega))) ?_
 try (refine ev ?_; try exact True.intro)
 have hl := wx (zy (n := s.length) (by omega))
 have e : qd (b ++ wInt s.length) ++ qd s = qd (b ++ yi s) := by rw [xd, yi, List.append_assoc]
 try (refine ev2 @e @List.length_append.{0} ?_; try exact True.intro)
 refine ⟨by omega, by omega⟩
end Go.Proofs.YtinnaedmdoengaaGreat
namespace Go.Proofs.YtinnaedmdoengaaGreat
open Go.Abs
set_option linter.unusedSimpArgs false
def idx {α : Type} (f : α → Bool) (l : List α) : Int := if l.any f then (l.findIdx f : Int) else -1
theorem qe6 {α : Type} {f : α → Bool} {l : List α} {i : Nat} (h : (l.take i).any f = false) (hi : l.length ≤ i) : idx f l = -1 := by
 rw [List.take_of_length_le hi] at h
 simp [idx, h]
theorem qe7 {α : Type} {f : α → Bool} {l : List α} {i : Nat} (h : (l.take i).any f = false) (hi : i < l.length) (hf : f l[i] = true) : idx f l = (i : Int) := by
 have ha : l.any f = true := List.any_eq_true.2 ⟨l[i], List.getElem_mem hi, hf⟩
 have hx : l.findIdx f = i := by
  rw [List.findIdx_eq hi]
  refine ⟨hf, fun j hj => ?_⟩
  rw [List.any_eq_false] at h
  have hj' : j < (l.take i).length := by simp; omega
  have := h (l.take i)[j] (List.getElem_mem hj')
  simpa using this
 simp [idx, ha, hx]
theorem wy {α : Type} {f : α → Bool} {l : List α} {i : Nat} (h : (l.take i).any f = false) (hi : i < l.length) (hf : f l[i] = false) : (l.take (i + 1)).any f = false := by
 rw [List.take_succ_eq_append_getElem hi, List.any_append, h]
 simp [hf]
theorem qpc {α : Type} (f : α → Bool) (l : List α) : decide (idx f l ≥ 0) = l.any f := by
 unfold idx
 cases l.any f <;> simp
noncomputable section
set_option maxRecDepth 100000
def q6u : List SOper := [
 ⟨some 4, .mov (.k (.d (.int .i64 0))), none⟩]
def q6v : List SOper := [
 ⟨some 6, .mov (.t 0), none⟩,
 ⟨some 7, .len (.t 6), none⟩,
 ⟨some 8, .mov (.k (.d (.int .i64 0))), none⟩]
def q6w : List SOper := [
 ⟨some 9, .bin .lss (.t 8) (.t 7), none⟩]
def q6x : List SOper := [
 ⟨some 10, .mov (.t 8), none⟩,
 ⟨some 5, .mov (.t 10), none⟩]
def q6y : List SOper := [
 ⟨some 11, .mov (.t 1), none⟩,
 ⟨some 12, .mov (.t 0), none⟩,
 ⟨some 13, .mov (.t 5), none⟩,
 ⟨some 14, .iaddr 3 (.t 12) (.t 13), none⟩,
 ⟨some 15, .load (some 3) (.t 14), none⟩,
 ⟨some 16, .call (.t 11) [(.t 15)], none⟩]
def q6z : List SOper := [
 ⟨some 17, .mov (.t 5), none⟩,
 ⟨some 4, .mov (.t 17), none⟩]
def q60 : List SOper := [
 ⟨some 18, .bin .add (.t 8) (.k (.d (.int .i64 1))), none⟩,
 ⟨some 8, .mov (.t 18), none⟩]
def qyi : SCode := (.seq (.region q6w 0 []) (.seq (.cond (.t 9) .skip (.exit 0)) (.seq (.block 1 (.seq (.region q6x 0 []) (.seq (.region q6y 0 []) (.cond (.t 16) (.seq (.region q6z 0 []) .ret) .skip)))) (.region q60 0 []))))
theorem xmk : qg qyi.eq_1 := qh qyi.eq_1
def q61 : List SOper := [
 ⟨some 4, .mov (.k (.d (.int .i64 (-1)))), none⟩]
def s211 : SCode := (.seq (.region q6u 0 []) (.seq (.seq (.region q6v 0 []) (.block 0 (.loop qyi))) (.seq (.region q61 0 []) .ret)))
theorem zhh : qg s211.eq_1 := qh s211.eq_1
theorem xml : qa q6u.eq_1 := qc
theorem xmm : qa q6v.eq_1 := qc
theorem xmn : qa q6w.eq_1 := qc
theorem xmo : qa q6x.eq_1 := qc
theorem xmp : qa q6y.eq_1 := qc
theorem xmq : qa q6z.eq_1 := qc
theorem xmr : qa q60.eq_1 := qc
theorem xms : qa q61.eq_1 := qc
attribute [go_sem] xml xmm xmn xmo xmp xmq xmr xmk xms zhh
def q62 : List SOper := [
 ⟨some 4, .mov (.k (.d (.int .i64 0))), none⟩]
def q63 : List SOper := [
 ⟨some 6, .mov (.t 0), none⟩,
 ⟨some 7, .len (.t 6), none⟩,
 ⟨some 8, .mov (.k (.d (.int .i64 0))), none⟩]
def q64 : List SOper := [
 ⟨some 9, .bin .lss (.t 8) (.t 7), none⟩]
def q65 : List SOper := [
 ⟨some 10, .mov (.t 8), none⟩,
 ⟨some 5, .mov (.t 10), none⟩]
def q66 : List SOper := [
 ⟨some 11, .mov (.t 1), none⟩,
 ⟨some 12, .mov (.t 0), none⟩,
 ⟨some 13, .mov (.t 5), none⟩,
 ⟨some 14, .iaddr 1 (.t 12) (.t 13), none⟩,
 ⟨some 15, .load none (.t 14), none⟩,
 ⟨some 16, .call (.t 11) [(.t 15)], none⟩]
def q67 : List SOper := [
 ⟨some 17, .mov (.t 5), none⟩,
 ⟨some 4, .mov (.t 17), none⟩]
def q68 : List SOper := [
 ⟨some 18, .bin .add (.t 8) (.k (.d (.int .i64 1))), none⟩,
 ⟨some 8, .mov (.t 18), none⟩]
def qyj : SCode := (.seq (.region q64 0 []) (.seq (.cond (.t 9) .skip (.exit 0)) (.seq (.block 1 (.seq (.region q65 0 []) (.seq (.region q66 0 []) (.cond (.t 16) (.seq (.region q67 0 []) .ret) .skip)))) (.region q68 0 []))))
theorem xmt : qg qyj.eq_1 := qh qyj.eq_1
def q69 : List SOper := [
 ⟨some 4, .mov (.k (.d (.int .i64 (-1)))), none⟩]
def s212 : SCode := (.seq (.region q62 0 []) (.seq (.seq (.region q63 0 []) (.block 0 (.loop qyj))) (.seq (.region q69 0 []) .ret)))
theorem zhi : qg s212.eq_1 := qh s212.eq_1
theorem xmu : qa q62.eq_1 := qc
theorem xmv : qa q63.eq_1 := qc
theorem xmw : qa q64.eq_1 := qc
theorem xmx : qa q65.eq_1 := qc
theorem xmy : qa q66.eq_1 := qc
theorem xmz : qa q67.eq_1 := qc
theorem xm0 : qa q68.eq_1 := qc
theorem xm1 : qa q69.eq_1 := qc
attribute [go_sem] xmu xmv xmw xmx xmy xmz xm0 xmt xm1 zhi
def q7a : List SOper := [
 ⟨some 4, .mov (.k (.d (.bool false))), none⟩]
def q7b : List SOper := [
 ⟨some 5, .mov (.t 0), none⟩,
 ⟨some 6, .mov (.t 1), none⟩,
 ⟨some 7, .call (.k (.d (.func (.func 211) [] []))) [(.t 5), (.t 6)], none⟩,
 ⟨some 8, .bin .geq (.t 7) (.k (.d (.int .i64 0))), none⟩,
 ⟨some 4, .mov (.t 8), none⟩]
def s197 : SCode := (.seq (.region q7a 0 []) (.seq (.region q7b 0 []) .ret))
theorem zhj : qg s197.eq_1 := qh s197.eq_1
theorem xm2 : qa q7a.eq_1 := qc
theorem xm3 : qa q7b.eq_1 := qc
attribute [go_sem] xm2 xm3 zhj
def q7c : List SOper := [
 ⟨some 4, .mov (.k (.d (.bool false))), none⟩]
def q7d : List SOper := [
 ⟨some 5, .mov (.t 0), none⟩,
 ⟨some 6, .mov (.t 1), none⟩,
 ⟨some 7, .call (.k (.d (.func (.func 212) [] []))) [(.t 5), (.t 6)], none⟩,
 ⟨some 8, .bin .geq (.t 7) (.k (.d (.int .i64 0))), none⟩,
 ⟨some 4, .mov (.t 8), none⟩]
def s200 : SCode := (.seq (.region q7c 0 []) (.seq (.region q7d 0 []) .ret))
theorem zhk : qg s200.eq_1 := qh s200.eq_1
theorem xm4 : qa q7c.eq_1 := qc
theorem xm5 : qa q7d.eq_1 := qc
attribute [go_sem] xm4 xm5 zhk
end
noncomputable section
set_option maxRecDepth 100000
def q7e : List SOper := [
 ⟨some 1, .box 1 (.t 0), none⟩,
 ⟨some 2, .mov (.k (.d (.bool false))), none⟩]
def q7f : List SOper := [
 ⟨some 3, .load (some 9) (.t 1), none⟩,
 ⟨some 4, .call (.k (.d (.func (.func 196) [] []))) [(.t 3)], none⟩,
 ⟨some 5, .mov (.t 4), none⟩,
 ⟨some 6, .faddr 2 (.t 1), some (5, true)⟩,
 ⟨some 7, .load none (.t 6), some (5, true)⟩,
 ⟨some 8, .bin .eql (.t 7) (.k (.d (.int .i64 0))), some (5, true)⟩,
 ⟨some 9, .mov (.t 8), some (5, true)⟩,
 ⟨some 10, .faddr 2 (.t 1), some (9, false)⟩,
 ⟨some 11, .load none (.t 10), some (9, false)⟩,
 ⟨some 12, .bin .eql (.t 11) (.k (.d (.int .i64 1))), some (9, false)⟩,
 ⟨some 13, .pick (.t 9) (.k (.d (.bool true))) (.t 12), some (5, true)⟩,
 ⟨some 14, .pick (.t 5) (.t 13) (.k (.d (.bool false))), none⟩,
 ⟨some 15, .mov (.t 14), none⟩,
 ⟨some 16, .faddr 6 (.t 1), some (15, true)⟩,
 ⟨some 17, .load none (.t 16), some (15, true)⟩,
 ⟨some 18, .bin .geq (.t 17) (.k (.d (.int .i64 0))), some (15, true)⟩,
 ⟨some 19, .pick (.t 15) (.t 18) (.k (.d (.bool false))), none⟩,
 ⟨some 20, .mov (.t 19), none⟩,
 ⟨some 21, .faddr 6 (.t 1), some (20, true)⟩,
 ⟨some 22, .load none (.t 21), some (20, true)⟩,
 ⟨some 23, .bin .lss (.t 22) (.k (.d (.int .i64 40))), some (20, true)⟩,
 ⟨some 24, .pick (.t 20) (.t 23) (.k (.d (.bool false))), none⟩,
 ⟨some 25, .mov (.t 24), none⟩,
 ⟨some 26, .faddr 7 (.t 1), some (25, true)⟩,
 ⟨some 27, .load none (.t 26), some (25, true)⟩,
 ⟨some 28, .len (.t 27), some (25, true)⟩,
 ⟨some 29, .bin .leq (.t 28) (.k (.d (.int .i64 4))), some (25, true)⟩,
 ⟨some 30, .pick (.t 25) (.t 29) (.k (.d (.bool false))), none⟩,
 ⟨some 31, .mov (.t 30), none⟩,
 ⟨some 32, .faddr 8 (.t 1), some (31, true)⟩,
 ⟨some 33, .load none (.t 32), some (31, true)⟩,
 ⟨some 34, .len (.t 33), some (31, true)⟩,
 ⟨some 35, .bin .leq (.t 34) (.k (.d (.int .i64 6))), some (31, true)⟩,
 ⟨some 36, .pick (.t 31) (.t 35) (.k (.d (.bool false))), none⟩,
 ⟨some 37, .mov (.t 36), none⟩,
 ⟨some 38, .faddr 7 (.t 1), some (37, true)⟩,
 ⟨some 39, .load none (.t 38), some (37, true)⟩,
 ⟨some 40, .call (.k (.d (.func (.func 197) [] []))) [(.t 39), (.k (.d (.func (.func 198) [] [])))], some (37, true)⟩,
 ⟨some 41, .not (.t 40), some (37, true)⟩,
 ⟨some 42, .pick (.t 37) (.t 41) (.k (.d (.bool false))), none⟩,
 ⟨some 43, .mov (.t 42), none⟩,
 ⟨some 44, .faddr 8 (.t 1), some (43, true)⟩,
 ⟨some 45, .load none (.t 44), some (43, true)⟩,
 ⟨some 46, .call (.k (.d (.func (.func 200) [] []))) [(.t 45), (.k (.d (.func (.func 201) [] [])))], some (43, true)⟩,
 ⟨some 47, .not (.t 46), some (43, true)⟩,
 ⟨some 48, .pick (.t 43) (.t 47) (.k (.d (.bool false))), none⟩,
 ⟨some 2, .mov (.t 48), none⟩]
def s163 : SCode := (.seq (.region q7e 1 []) (.seq (.region q7f 0 []) .ret))
theorem zhl : qg s163.eq_1 := qh s163.eq_1
theorem xm6 : qa q7e.eq_1 := qc
theorem xm7 : qa q7f.eq_1 := qc
attribute [go_sem] xm6 xm7 zhl
def q7g : List SOper := [
 ⟨some 1, .box 1 (.t 0), none⟩,
 ⟨some 2, .mov (.k (.d (.bool false))), none⟩]
def q7h : List SOper := [
 ⟨some 4, .build [.nilfunc] [(0, 1, (.k (.d (.func (.func 163) [] []))))], none⟩,
 ⟨some 5, .build [.nilfunc] [(0, 1, (.k (.d (.func (.func 164) [] []))))], none⟩,
 ⟨some 6, .build [.nilfunc] [(0, 1, (.k (.d (.func (.func 165) [] []))))], none⟩,
 ⟨some 7, .build [.nilfunc] [(0, 1, (.k (.d (.func (.func 165) [] []))))], none⟩,
 ⟨some 8, .buildSlice false 1 5 [.nilfunc] [(1, 1, (.t 4)), (2, 1, (.t 5)), (3, 1, (.t 6)), (4, 1, (.t 7))], none⟩,
 ⟨some 3, .mov (.t 8), none⟩]
def q7i : List SOper := [
 ⟨some 9, .faddr 0 (.t 1), none⟩,
 ⟨some 10, .load none (.t 9), none⟩,
 ⟨some 11, .bin .geq (.t 10) (.k (.d (.int .i64 1))), none⟩,
 ⟨some 12, .mov (.t 11), none⟩,
 ⟨some 13, .faddr 0 (.t 1), some (12, true)⟩,
 ⟨some 14, .load none (.t 13), some (12, true)⟩,
 ⟨some 15, .bin .leq (.t 14) (.k (.d (.int .i64 4))), some (12, true)⟩,
 ⟨some 16, .pick (.t 12) (.t 15) (.k (.d (.bool false))), none⟩,
 ⟨some 17, .mov (.t 16), none⟩,
 ⟨some 18, .faddr 1 (.t 1), some (17, true)⟩,
 ⟨some 19, .load none (.t 18), some (17, true)⟩,
 ⟨some 20, .bin .geq (.t 19) (.k (.d (.int .i64 1))), some (17, true)⟩,
 ⟨some 21, .pick (.t 17) (.t 20) (.k (.d (.bool false))), none⟩,
 ⟨some 22, .mov (.t 21), none⟩,
 ⟨some 23, .faddr 1 (.t 1), some (22, true)⟩,
 ⟨some 24, .load none (.t 23), some (22, true)⟩,
 ⟨some 25, .bin .leq (.t 24) (.k (.d (.int .i64 32))), some (22, true)⟩,
 ⟨some 26, .pick (.t 22) (.t 25) (.k (.d (.bool false))), none⟩,
 ⟨some 27, .mov (.t 26), none⟩,
 ⟨some 28, .mov (.t 3), some (27, true)⟩,
 ⟨some 29, .faddr 0 (.t 1), some (27, true)⟩,
 ⟨some 30, .load none (.t 29), some (27, true)⟩,
 ⟨some 31, .iaddr 1 (.t 28) (.t 30), some (27, true)⟩,
 ⟨some 32, .faddr 0 (.t 31), some (27, true)⟩,
 ⟨some 33, .load none (.t 32), some (27, true)⟩,
 ⟨some 34, .load (some 9) (.t 1), some (27, true)⟩,
 ⟨some 35, .call (.t 33) [(.t 34)], some (27, true)⟩,
 ⟨some 36, .pick (.t 27) (.t 35) (.k (.d (.bool false))), none⟩,
 ⟨some 2, .mov (.t 36), none⟩]
def s110 : SCode := (.seq (.region q7g 1 []) (.seq (.region q7h 0 []) (.seq (.region q7i 0 []) .ret)))
theorem zhm : qg s110.eq_1 := qh s110.eq_1
theorem xm8 : qa q7g.eq_1 := qc
theorem xm9 : qa q7h.eq_1 := qc
theorem xna : qa q7i.eq_1 := qc
attribute [go_sem] xm8 xm9 xna zhm
end
def data (p : Pk) : Bool := qmt p && (p.epoch == 0 || p.epoch == 1) && decide (p.label ≥ 0) && decide (p.label < 40) && decide ((p.values.length : Int) ≤ 4) && decide ((p.clock.length : Int) ≤ 6) && !(p.values.any fun v => !qla v) && !(p.clock.any fun n => decide (n < 0) || decide (n > 1099511627776))
end Go.Proofs.YtinnaedmdoengaaGreat
namespace Go.Proofs.YtinnaedmdoengaaGreat
open Go.Abs
set_option linter.unusedSimpArgs false
structure OpS where
 key : List UInt8
 del : Bool
 val : List UInt8
 deriving DecidableEq, Inhabited
def qk (o : OpS) : List D := [.str o.key, .bool o.del, .sl 1 (qd o.val)]
theorem qd7 (o : OpS) : D.noPtrL (qk o) = true := by simp only [qk, D.noPtrL, D.noPtr, jb, Bool.and_self]
theorem wz (l : List OpS) : D.noPtrR (l.map qk) = true := xp qd7 l
attribute [go_sem] qd7 wz
noncomputable section
set_option maxRecDepth 100000
def xnb : List SOper := [
 ⟨some 1, .box 1 (.t 0), none⟩,
 ⟨some 2, .mov (.k (.d (.bool false))), none⟩]
def xnc : List SOper := [
 ⟨some 3, .faddr 0 (.t 1), none⟩,
 ⟨some 4, .load none (.t 3), none⟩,
 ⟨some 5, .lenS (.t 4), none⟩,
 ⟨some 6, .bin .geq (.t 5) (.k (.d (.int .i64 1))), none⟩,
 ⟨some 7, .mov (.t 6), none⟩,
 ⟨some 8, .faddr 0 (.t 1), some (7, true)⟩,
 ⟨some 9, .load none (.t 8), some (7, true)⟩,
 ⟨some 10, .lenS (.t 9), some (7, true)⟩,
 ⟨some 11, .bin .leq (.t 10) (.k (.d (.int .i64 40))), some (7, true)⟩,
 ⟨some 12, .pick (.t 7) (.t 11) (.k (.d (.bool false))), none⟩,
 ⟨some 13, .mov (.t 12), none⟩,
 ⟨some 14, .faddr 2 (.t 1), some (13, true)⟩,
 ⟨some 15, .load none (.t 14), some (13, true)⟩,
 ⟨some 16, .len (.t 15), some (13, true)⟩,
 ⟨some 17, .bin .leq (.t 16) (.k (.d (.int .i64 900))), some (13, true)⟩,
 ⟨some 18, .pick (.t 13) (.t 17) (.k (.d (.bool false))), none⟩,
 ⟨some 19, .mov (.t 18), none⟩,
 ⟨some 20, .faddr 1 (.t 1), some (19, true)⟩,
 ⟨some 21, .load none (.t 20), some (19, true)⟩,
 ⟨some 22, .mov (.t 21), some (19, true)⟩,
 ⟨some 23, .faddr 2 (.t 1), some (22, true)⟩,
 ⟨some 24, .load none (.t 23), some (22, true)⟩,
 ⟨some 25, .len (.t 24), some (22, true)⟩,
 ⟨some 26, .bin .gtr (.t 25) (.k (.d (.int .i64 0))), some (22, true)⟩,
 ⟨some 27, .pick (.t 22) (.t 26) (.k (.d (.bool false))), some (19, true)⟩,
 ⟨some 28, .not (.t 27), some (19, true)⟩,
 ⟨some 29, .pick (.t 19) (.t 28) (.k (.d (.bool false))), none⟩,
 ⟨some 2, .mov (.t 29), none⟩]
def s96 : SCode := (.seq (.region xnb 1 []) (.seq (.region xnc 0 []) .ret))
theorem e96 : qg s96.eq_1 := qh s96.eq_1
theorem x7p : qa xnb.eq_1 := qc
theorem x7q : qa xnc.eq_1 := qc
attribute [go_sem] x7p x7q e96
theorem F96 : FnIs Tryz.prog 96 Tryz.f96 [] news s96 [.tmp 2] 30 := zc follows Tryz.func96
def xnd : List SOper := [
 ⟨some 1, .box 1 (.t 0), none⟩,
 ⟨some 2, .mov (.k (.d (.bool false))), none⟩]
def xne : List SOper := [
 ⟨some 3, .load (some 3) (.t 1), none⟩,
 ⟨some 4, .call (.k (.d (.func (.func 96) [] []))) [(.t 3)], none⟩,
 ⟨some 5, .not (.t 4), none⟩,
 ⟨some 2, .mov (.t 5), none⟩]
def s95 : SCode := (.seq (.region xnd 1 []) (.seq (.region xne 0 []) .ret))
theorem e95 : qg s95.eq_1 := qh s95.eq_1
theorem x7r : qa xnd.eq_1 := qc
theorem x7s : qa xne.eq_1 := qc
attribute [go_sem] x7r x7s e95
theorem F95 : FnIs Tryz.prog 95 Tryz.f95 [] news s95 [.tmp 2] 6 := zc follows Tryz.func95
def q7j : List SOper := [
 ⟨some 4, .mov (.k (.d (.int .i64 0))), none⟩]
def q7k : List SOper := [
 ⟨some 6, .mov (.t 0), none⟩,
 ⟨some 7, .len (.t 6), none⟩,
 ⟨some 8, .mov (.k (.d (.int .i64 0))), none⟩]
def q7l : List SOper := [
 ⟨some 9, .bin .lss (.t 8) (.t 7), none⟩]
def q7m : List SOper := [
 ⟨some 10, .mov (.t 8), none⟩,
 ⟨some 5, .mov (.t 10), none⟩]
def q7n : List SOper := [
 ⟨some 11, .mov (.t 1), none⟩,
 ⟨some 12, .mov (.t 0), none⟩,
 ⟨some 13, .mov (.t 5), none⟩,
 ⟨some 14, .iaddr 3 (.t 12) (.t 13), none⟩,
 ⟨some 15, .load (some 3) (.t 14), none⟩,
 ⟨some 16, .call (.t 11) [(.t 15)], none⟩]
def q7o : List SOper := [
 ⟨some 17, .mov (.t 5), none⟩,
 ⟨some 4, .mov (.t 17), none⟩]
def q7p : List SOper := [
 ⟨some 18, .bin .add (.t 8) (.k (.d (.int .i64 1))), none⟩,
 ⟨some 8, .mov (.t 18), none⟩]
def qym : SCode := (.seq (.region q7l 0 []) (.seq (.cond (.t 9) .skip (.exit 0)) (.seq (.block 1 (.seq (.region q7m 0 []) (.seq (.region q7n 0 []) (.cond (.t 16) (.seq (.region q7o 0 []) .ret) .skip)))) (.region q7p 0 []))))
theorem xnf : qg qym.eq_1 := qh qym.eq_1
def q7q : List SOper := [
 ⟨some 4, .mov (.k (.d (.int .i64 (-1)))), none⟩]
def s149 : SCode := (.seq (.region q7j 0 []) (.seq (.seq (.region q7k 0 []) (.block 0 (.loop qym))) (.seq (.region q7q 0 []) .ret)))
theorem zhn : qg s149.eq_1 := qh s149.eq_1
theorem xng : qa q7j.eq_1 := qc
theorem xnh : qa q7k.eq_1 := qc
theorem xni : qa q7l.eq_1 := qc
theorem xnj : qa q7m.eq_1 := qc
theorem xnk : qa q7n.eq_1 := qc
theorem xnl : qa q7o.eq_1 := qc
theorem xnm : qa q7p.eq_1 := qc
theorem xnn : qa q7q.eq_1 := qc
attribute [go_sem] xng xnh xni xnj xnk xnl xnm xnf xnn zhn
theorem xno : FnIs Tryz.prog 149 Tryz.f149 [] news s149 [.tmp 4] 19 := zc follows Tryz.func149
def xnp : List SOper := [
 ⟨some 4, .mov (.k (.d (.bool false))), none⟩]
def xnq : List SOper := [
 ⟨some 5, .mov (.t 0), none⟩,
 ⟨some 6, .mov (.t 1), none⟩,
 ⟨some 7, .call (.k (.d (.func (.func 149) [] []))) [(.t 5), (.t 6)], none⟩,
 ⟨some 8, .bin .geq (.t 7) (.k (.d (.int .i64 0))), none⟩,
 ⟨some 4, .mov (.t 8), none⟩]
def s94 : SCode := (.seq (.region xnp 0 []) (.seq (.region xnq 0 []) .ret))
theorem e94 : qg s94.eq_1 := qh s94.eq_1
theorem x7t : qa xnp.eq_1 := qc
theorem x7u : qa xnq.eq_1 := qc
attribute [go_sem] x7t x7u e94
theorem F94 : FnIs Tryz.prog 94 Tryz.f94 [] news s94 [.tmp 4] 9 := zc follows Tryz.func94
def xnr : List SOper := [
 ⟨some 2, .mov (.k (.d .nilsl)), none⟩,
 ⟨some 3, .mov (.k (.d (.int .i64 0))), none⟩]
def xns : List SOper := [
 ⟨some 7, .mov (.t 0), none⟩,
 ⟨some 8, .len (.t 7), none⟩,
 ⟨some 9, .bin .eql (.t 8) (.k (.d (.int .i64 0))), none⟩,
 ⟨some 10, .mov (.t 9), none⟩,
 ⟨some 11, .mov (.t 0), some (10, false)⟩,
 ⟨some 12, .call (.k (.d (.func (.func 94) [] []))) [(.t 11), (.k (.d (.func (.func 95) [] [])))], some (10, false)⟩,
 ⟨some 13, .pick (.t 10) (.k (.d (.bool true))) (.t 12), none⟩]
def xnt : List SOper := [
 ⟨some 2, .mov (.k (.d .nilsl)), none⟩,
 ⟨some 3, .mov (.k (.d (.int .i64 1))), none⟩]
def xnu : List SOper := [
 ⟨some 14, .mov (.t 0), none⟩,
 ⟨some 15, .len (.t 14), none⟩,
 ⟨some 16, .call (.k (.d (.func (.func 91) [] []))) [(.k (.d .nilsl)), (.t 15)], none⟩,
 ⟨some 4, .mov (.t 16), none⟩]
def xnv : List SOper := [
 ⟨some 17, .mov (.t 0), none⟩,
 ⟨some 18, .len (.t 17), none⟩,
 ⟨some 19, .mov (.k (.d (.int .i64 0))), none⟩]
def xnw : List SOper := [
 ⟨some 20, .bin .lss (.t 19) (.t 18), none⟩]
def xnx : List SOper := [
 ⟨some 21, .iaddr 3 (.t 17) (.t 19), none⟩,
 ⟨some 22, .load (some 3) (.t 21), none⟩,
 ⟨some 6, .alloc 1 [(.d (.str [])), (.d (.bool false)), (.d .nilsl)], none⟩,
 ⟨none, .store (some 3) (.t 6) (.t 22), none⟩]
def xny : List SOper := [
 ⟨some 23, .mov (.t 4), none⟩,
 ⟨some 24, .faddr 0 (.t 6), none⟩,
 ⟨some 25, .load none (.t 24), none⟩,
 ⟨some 26, .call (.k (.d (.func (.func 99) [] []))) [(.t 23), (.t 25)], none⟩,
 ⟨some 27, .faddr 1 (.t 6), none⟩,
 ⟨some 28, .load none (.t 27), none⟩,
 ⟨some 29, .call (.k (.d (.func (.func 98) [] []))) [(.t 26), (.t 28)], none⟩,
 ⟨some 30, .faddr 2 (.t 6), none⟩,
 ⟨some 31, .load none (.t 30), none⟩,
 ⟨some 32, .call (.k (.d (.func (.func 97) [] []))) [(.t 29), (.t 31)], none⟩,
 ⟨some 4, .mov (.t 32), none⟩]
def xnz : List SOper := [
 ⟨some 33, .bin .add (.t 19) (.k (.d (.int .i64 1))), none⟩,
 ⟨some 19, .mov (.t 33), none⟩]
def xil : SCode := (.seq (.region xnw 0 []) (.seq (.cond (.t 20) .skip (.exit 0)) (.seq (.block 1 (.seq (.region xnx 1 []) (.region xny 0 [(3, 5), (3, 8), (6, 8)]))) (.region xnz 0 []))))
theorem x7v : qg xil.eq_1 := qh xil.eq_1
def q7r : List SOper := [
 ⟨some 34, .mov (.t 0), none⟩,
 ⟨some 35, .len (.t 34), none⟩,
 ⟨some 36, .bin .gtr (.t 35) (.k (.d (.int .i64 20))), none⟩,
 ⟨some 37, .mov (.t 36), none⟩,
 ⟨some 38, .mov (.t 4), some (37, false)⟩,
 ⟨some 39, .len (.t 38), some (37, false)⟩,
 ⟨some 40, .bin .gtr (.t 39) (.k (.d (.int .i64 2000))), some (37, false)⟩,
 ⟨some 41, .pick (.t 37) (.k (.d (.bool true))) (.t 40), none⟩]
def q7s : List SOper := [
 ⟨some 2, .mov (.k (.d .nilsl)), none⟩,
 ⟨some 3, .mov (.k (.d (.int .i64 6))), none⟩]
def q7t : List SOper := [
 ⟨some 42, .mov (.t 4), none⟩,
 ⟨some 2, .mov (.t 42), none⟩,
 ⟨some 3, .mov (.k (.d (.int .i64 0))), none⟩]
def s50 : SCode := (.seq (.region xnr 0 []) (.seq (.seq (.region xns 0 []) (.cond (.t 13) (.seq (.region xnt 0 []) .ret) .skip)) (.seq (.region xnu 0 []) (.seq (.seq (.region xnv 0 []) (.block 0 (.loop xil))) (.seq (.seq (.region q7r 0 []) (.cond (.t 41) (.seq (.region q7s 0 []) .ret) .skip)) (.seq (.region q7t 0 []) .ret))))))
theorem e50 : qg s50.eq_1 := qh s50.eq_1
theorem x7w : qa xnr.eq_1 := qc
theorem x7x : qa xns.eq_1 := qc
theorem x7y : qa xnt.eq_1 := qc
theorem x7z : qa xnu.eq_1 := qc
theorem x70 : qa xnv.eq_1 := qc
theorem x71 : qa xnw.eq_1 := qc
theorem x72 : qa xnx.eq_1 := qc
theorem x73 : qa xny.eq_1 := qc
theorem x74 : qa xnz.eq_1 := qc
theorem xn0 : qa q7r.eq_1 := qc
theorem xn1 : qa q7s.eq_1 := qc
theorem xn2 : qa q7t.eq_1 := qc
attribute [go_sem] x7w x7x x7y x7z x70 x71 x72 x73 x74 x7v xn0 xn1 xn2 e50
theorem F50 : FnIs Tryz.prog 50 Tryz.f50 [] news s50 [.tmp 2, .tmp 3] 43 := zc follows Tryz.func50
end
def zu (o : OpS) : Bool := decide ((o.key.length : Int) ≥ 1) && decide ((o.key.length : Int) ≤ 40) && decide ((o.val.length : Int) ≤ 900) && !(o.del && decide ((o.val.length : Int) > 0))
theorem qlc (o : OpS) : qo Tryz.prog 96 [.d (.agg (qk o))] [] (.d (.bool (zu o))) [] := by
 refine F96.go ?_
 try (refine ev1 @qk.eq_1 ?_; try exact True.intro)
 simp only [zu, and_true]
 intro h
 refine ⟨h, fun h2 => ?_⟩
 rw [h, h2]; rfl
theorem qga (o : OpS) : qo Tryz.prog 95 [.d (.agg (qk o))] [] (.d (.bool (!zu o))) [] := by
 refine F95.go ?_
 try (refine ev1 @qk.eq_1 ?_; try exact True.intro)
 (repeat (with_reducible refine ob ?_)); first | refine cl F96 (qlc o) ?_ | refine clF F96 (qlc o) (fun _ => by (refine ev1 @qk.eq_1 ?_; try exact True.intro)) ?_
 try (refine ev ?_; try exact True.intro)
def q4o (k : FuncId) (l : List OpS) (f : OpS → Bool) (i : { i : Nat // (l.take i).any f = false }) : St :=
 ⟨[(0, true, .d (.sl 3 (l.map qk))), (1, true, .d (.func (.func k) [] [])), (7, true, .d (.int .i64 l.length)), (8, true, .d (.int .i64 (i.val : Nat)))], [], [], 1⟩
theorem qpf {k : FuncId} {f : OpS → Bool} (hb : (Tryz.prog.funcs[k]?).any (fun fn => fn.body.isSome && !(fn.name == "runtime.NumGoroutine")) = true)
  (hf : ∀ v, qo Tryz.prog k [.d (.agg (qk v))] [] (.d (.bool (f v))) []) (l : List OpS) (hl : l.length ≤ maxLen) :
  qo Tryz.prog 149 [.d (.sl 3 (l.map qk)), .d (.func (.func k) [] [])] [] (.d (.int .i64 (idx f l))) [] := by
 refine xno.go ?_
 try (refine ev ?_; try exact True.intro)
 refine xc (q4o k l f) (fun i => l.length - i.val) ⟨0, rfl⟩ ?_ (fun i => ?_)
 ·try (refine ev1 @q4o.eq_1 ?_; try exact True.intro)
 obtain ⟨i, hi⟩ := i
 try (refine ev1 @q4o.eq_1 ?_; try exact True.intro)
 (repeat (with_reducible refine ob ?_)); refine zk _ (fun h => ?_) (fun h => ?_)
 ·have hil : i < l.length := by simpa using h
  (refine ev2 (xi qk l hil) @qk.eq_1 ?_; try exact True.intro)
  (repeat (with_reducible refine ob ?_))
  refine xk (hf l[i]) hb (fun h => h) (fun _ => ⟨qe, trivial⟩) (by try (refine ev1 @qk.eq_1 ?_; try exact True.intro)) rfl rfl ?_
  try (refine ev ?_; try exact True.intro)
  (repeat (with_reducible refine ob ?_)); refine zk _ (fun h => ?_) (fun h => ?_)
  ·try (refine ev1 (qe7 hi hil h) ?_; try exact True.intro)
  ·try (refine ev ?_; try exact True.intro)
   refine ⟨⟨i + 1, wy hi hil (by simpa using h)⟩, ?_, by dsimp only; omega⟩
   try (refine ev2 @q4o.eq_1 (qt (show i < 9223372036854775807 by unfold maxLen at hl; omega)) ?_; try exact True.intro)
 ·have hil : l.length ≤ i := by simpa using h
  try (refine ev1 (qe6 hi hil) ?_; try exact True.intro)
theorem qg5 {k : FuncId} {f : OpS → Bool} (hb : (Tryz.prog.funcs[k]?).any (fun fn => fn.body.isSome && !(fn.name == "runtime.NumGoroutine")) = true)
  (hf : ∀ v, qo Tryz.prog k [.d (.agg (qk v))] [] (.d (.bool (f v))) []) (l : List OpS) (hl : l.length ≤ maxLen) :
  qo Tryz.prog 94 [.d (.sl 3 (l.map qk)), .d (.func (.func k) [] [])] [] (.d (.bool (l.any f))) [] := by
 refine F94.go ?_
 try (refine ev ?_; try exact True.intro)
 (repeat (with_reducible refine ob ?_)); first | refine cl xno (qpf hb hf l hl) ?_ | refine clF xno (qpf hb hf l hl) (fun _ => by (refine ev1 @qk.eq_1 ?_; try exact True.intro)) ?_
 try (refine ev1 @qpc ?_; try exact True.intro)
def wOp (o : OpS) : List UInt8 := yi o.key ++ [if o.del then 1 else 0] ++ yi o.val
def wOps (l : List OpS) : List UInt8 := wInt l.length ++ l.flatMap wOp
def ql (l : List OpS) : List UInt8 × Int :=
 if l.length = 0 || l.any (fun o => !zu o) then ([], 1) else if l.length > 20 || (wOps l).length > 2000 then ([], 6) else (wOps l, 0)
theorem jg {o : OpS} : zu o = true ↔ 1 ≤ o.key.length ∧ o.key.length ≤ 40 ∧ o.val.length ≤ 900 ∧ (o.del = true → o.val.length = 0) := by
 unfold zu
 cases o.del <;> simp [-List.length_eq_zero_iff] <;> omega
theorem qbh (s : List UInt8) (h : s.length ≤ 900000000) : (yi s).length ≤ s.length + 10 := by
 have := wx (zy (n := s.length) (by omega))
 simp [yi]; omega
theorem qr3 {o : OpS} (h : zu o = true) : (wOp o).length ≤ 1000 := by
 obtain ⟨h1, h2, h3, _⟩ := jg.1 h
 have k1 := qbh o.key (Nat.le_trans h2 (by decide))
 have k2 := qbh o.val (Nat.le_trans h3 (by decide))
 simp only [wOp, List.length_append, List.length_cons, List.length_nil]; omega
theorem qda {l : List OpS} (h : ∀ o ∈ l, zu o = true) : (l.flatMap wOp).length ≤ l.length * 1000 := by
 induction l with
 | nil => simp
 | cons o l ih =>
  have h1 := qr3 (h o List.mem_cons_self)
  have h2 := ih (fun x hx => h x (List.mem_cons_of_mem _ hx))
  simp only [List.flatMap_cons, List.length_append, List.length_cons]
  omega
def Senc (l : List OpS) (i : { i : Nat // i ≤ l.length }) : St :=
 ⟨[(0, true, .d (.sl 3 (l.map qk))), (4, true, .own 0 1 (qd (wInt l.length ++ (l.take i.val).flatMap wOp))), (17, true, .d (.sl 3 (l.map qk))), (18, true, .d (.int .i64 l.length)), (19, true, .d (.int .i64 (i.val : Nat)))], [], [0], 1⟩
theorem qcv : (Tryz.prog.funcs[95]?).any (fun fn => fn.body.isSome && !(fn.name == "runtime.NumGoroutine")) = true := F95.body
theorem qi9 {α β : Type} (f : α → List β) (l : List α) {i : Nat} (h : i < l.length) : (l.take (i + 1)).flatMap f = (l.take i).flatMap f ++ f l[i] := by
 rw [List.take_succ_eq_append_getElem h, List.flatMap_append, List.flatMap_cons, List.flatMap_nil, List.append_nil]
theorem qdb (l : List OpS) (hl : l.length ≤ 100000) : qo Tryz.prog 50 [.d (.sl 3 (l.map qk))] [] (.tup [.d (.sl 1 (qd (ql l).1)), .d (.int .i64 (ql l).2)]) [] := by
 refine F50.goT ?_
 try (refine ev ?_; try exact True.intro)
 (repeat (with_reducible refine ob ?_)); first | refine cl F94 (qg5 qcv qga l (by unfold maxLen; omega)) ?_ | refine clF F94 (qg5 qcv qga l (by unfold maxLen; omega)) (fun _ => by (refine ev1 @qk.eq_1 ?_; try exact True.intro)) ?_
 try (refine ev ?_; try exact True.intro)
 (repeat (with_reducible refine ob ?_))
 (repeat (with_reducible refine ob ?_)); refine zk _ (fun h => ?_) (fun h => ?_)
 ·have hb : ql l = ([], 1) := by
   unfold ql
   rw [if_pos]
   simp only [Bool.or_eq_true, decide_eq_true_eq, beq_iff_eq] at h ⊢
   rcases h with h | h
   ·left; omega
   ·right; exact h
  try (refine ev2 @hb @qu ?_; try exact True.intro)
 have hne : ¬ (decide (l.length = 0) || l.any (fun o => !zu o)) = true := by
  simp only [Bool.or_eq_true, decide_eq_true_eq, not_or]
  simp only [Bool.or_eq_false_iff, beq_eq_false_iff_ne] at h
  exact ⟨by omega, by simp [h.2]⟩
 have hpr : ∀ o ∈ l, zu o = true := by
  simp only [Bool.or_eq_true, not_or, List.any_eq_true, not_exists, not_and] at hne
  intro o ho
  simpa using hne.2 o ho
 have hwl := qda hpr
 have hil0 := wx (zy (n := l.length) (by omega))
 try (refine ev ?_; try exact True.intro)
 refine clA F91 (qc9 [] l.length (by simp) (zy (by omega))) ?_
 try (refine ev ?_; try exact True.intro)
 refine xc (Senc l) (fun i => l.length - i.val) ⟨0, Nat.zero_le _⟩ ?_ (fun i => ?_)
 ·try (refine ev2 @Senc.eq_1 @List.take_zero.{0} ?_; try exact True.intro)
 obtain ⟨i, hi⟩ := i
 try (refine ev1 @Senc.eq_1 ?_; try exact True.intro)
 (repeat (with_reducible refine ob ?_)); refine zk _ (fun h => ?_) (fun h => ?_)
 ·have hil : i < l.length := by simpa using h
  have ho := hpr l[i] (List.getElem_mem hil)
  obtain ⟨p1, p2, p3, _⟩ := jg.1 ho
  have hpre : (wInt l.length ++ (l.take i).flatMap wOp).length ≤ 100000020 := by
   have := qda (l := l.take i) (fun o h => hpr o (List.mem_of_mem_take h))
   simp only [List.length_append, List.length_take] at this ⊢
   have : min i l.length ≤ 100000 := by omega
   omega
  have k1 := qbh l[i].key (by omega)
  try (refine ev2 (xi qk l hil) @qk.eq_1 ?_; try exact True.intro)
  (repeat (with_reducible refine ob ?_))
  refine clA F99 (qi8 (wInt l.length ++ (l.take i).flatMap wOp) l[i].key (by omega)) ?_
  try (refine ev ?_; try exact True.intro)
  refine clA F98 (qi7 ((wInt l.length ++ (l.take i).flatMap wOp) ++ yi l[i].key) l[i].del (by simp only [List.length_append] at hpre ⊢; omega)) ?_
  try (refine ev ?_; try exact True.intro)
  refine clA F97 (qg4 ((wInt l.length ++ (l.take i).flatMap wOp) ++ yi l[i].key ++ [if l[i].del then 1 else 0]) l[i].val (by simp only [List.length_append, List.length_cons, List.length_nil] at hpre ⊢; omega)) ?_
  try (refine ev ?_; try exact True.intro)
  have e : wInt l.length ++ (l.take i).flatMap wOp ++ yi l[i].key ++ [if l[i].del then 1 else 0] ++ yi l[i].val = wInt l.length ++ (l.take (i + 1)).flatMap wOp := by
   rw [qi9 wOp l hil, wOp]; simp only [List.append_assoc]
  refine ⟨⟨i + 1, hil⟩, ?_, by dsimp only; omega⟩
  try (refine ev3 @Senc.eq_1 @e (qt (show i < 9223372036854775807 by omega)) ?_; try exact True.intro)
 ·have hie : i = l.length := by simp at h; omega
  subst hie
  try (refine ev1 @List.take_length.{0} ?_; try exact True.intro)
  have hw : wInt l.length ++ l.flatMap wOp = wOps l := rfl
  have hw2 : (wOps l).length = (wInt l.length).length + (l.flatMap wOp).length := by rw [wOps, List.length_append]
  try (refine ev1 @hw ?_; try exact True.intro)
  (repeat (with_reducible refine ob ?_)); refine zk _ (fun h => ?_) (fun h => ?_)
  ·have hb : ql l = ([], 6) := by
    unfold ql
    rw [if_neg hne, if_pos]
    simp only [Bool.or_eq_true, decide_eq_true_eq] at h ⊢
    omega
   try (refine ev2 @hb @qu ?_; try exact True.intro)
  ·have hb : ql l = (wOps l, 0) := by
    unfold ql
    rw [if_neg hne, if_neg]
    simp only [Bool.or_eq_true, Bool.or_eq_false_iff, decide_eq_true_eq, decide_eq_false_iff_not] at h ⊢
    omega
   try (refine ev1 @hb ?_; try exact True.intro)
end Go.Proofs.YtinnaedmdoengaaGreat
namespace Go.Proofs.YtinnaedmdoengaaGreat
open Go.Abs
set_option linter.unusedSimpArgs false
noncomputable section
set_option maxRecDepth 100000
def q7u : List SOper := [
 ⟨some 4, .mov (.k (.d (.int .u64 0))), none⟩]
def q7v : List SOper := [
 ⟨some 7, .mov (.t 1), none⟩,
 ⟨some 8, .len (.t 7), none⟩,
 ⟨some 9, .mov (.k (.d (.int .i64 0))), none⟩]
def q7w : List SOper := [
 ⟨some 10, .bin .lss (.t 9) (.t 8), none⟩]
def q7x : List SOper := [
 ⟨some 11, .iaddr 1 (.t 7) (.t 9), none⟩,
 ⟨some 12, .load none (.t 11), none⟩,
 ⟨some 6, .mov (.t 12), none⟩]
def q7y : List SOper := [
 ⟨some 13, .mov (.t 0), none⟩,
 ⟨some 14, .mov (.t 6), none⟩,
 ⟨some 15, .conv .u64 (.t 14), none⟩,
 ⟨some 16, .bin .xor (.t 13) (.t 15), none⟩,
 ⟨some 17, .bin .mul (.t 16) (.k (.d (.int .u64 1099511628211))), none⟩,
 ⟨some 0, .mov (.t 17), none⟩]
def q7z : List SOper := [
 ⟨some 18, .bin .add (.t 9) (.k (.d (.int .i64 1))), none⟩,
 ⟨some 9, .mov (.t 18), none⟩]
def qyn : SCode := (.seq (.region q7w 0 []) (.seq (.cond (.t 10) .skip (.exit 0)) (.seq (.block 1 (.seq (.region q7x 0 []) (.region q7y 0 []))) (.region q7z 0 []))))
theorem xn3 : qg qyn.eq_1 := qh qyn.eq_1
def q70 : List SOper := [
 ⟨some 19, .mov (.t 0), none⟩,
 ⟨some 4, .mov (.t 19), none⟩]
def s151 : SCode := (.seq (.region q7u 0 []) (.seq (.seq (.region q7v 0 []) (.block 0 (.loop qyn))) (.seq (.region q70 0 []) .ret)))
theorem zho : qg s151.eq_1 := qh s151.eq_1
theorem xn4 : qa q7u.eq_1 := qc
theorem xn5 : qa q7v.eq_1 := qc
theorem xn6 : qa q7w.eq_1 := qc
theorem xn7 : qa q7x.eq_1 := qc
theorem xn8 : qa q7y.eq_1 := qc
theorem xn9 : qa q7z.eq_1 := qc
theorem xoa : qa q70.eq_1 := qc
attribute [go_sem] xn4 xn5 xn6 xn7 xn8 xn9 xn3 xoa zho
theorem x6h : FnIs Tryz.prog 151 Tryz.f151 [] news s151 [.tmp 4] 20 := zc follows Tryz.func151
def q71 : List SOper := [
 ⟨some 4, .mov (.k (.d (.int .u64 0))), none⟩,
 ⟨some 5, .alloc 1 [(.d (.int .u8 0)), (.d (.int .u8 0)), (.d (.int .u8 0)), (.d (.int .u8 0)), (.d (.int .u8 0)), (.d (.int .u8 0)), (.d (.int .u8 0)), (.d (.int .u8 0))], none⟩]
def q72 : List SOper := [
 ⟨some 9, .mov (.t 0), none⟩,
 ⟨some 10, .mov (.t 1), none⟩,
 ⟨some 11, .call (.k (.d (.func (.func 151) [] []))) [(.t 9), (.t 10)], none⟩,
 ⟨some 6, .mov (.t 11), none⟩]
def q73 : List SOper := [
 ⟨some 7, .alloc 1 [(.d (.int .u8 0)), (.d (.int .u8 0)), (.d (.int .u8 0)), (.d (.int .u8 0)), (.d (.int .u8 0)), (.d (.int .u8 0)), (.d (.int .u8 0)), (.d (.int .u8 0))], none⟩]
def q74 : List SOper := [
 ⟨some 12, .mov (.k (.d (.int .i64 0))), none⟩]
def q75 : List SOper := [
 ⟨some 13, .bin .lss (.t 12) (.k (.d (.int .i64 8))), none⟩]
def q76 : List SOper := [
 ⟨some 14, .mov (.t 12), none⟩,
 ⟨some 8, .mov (.t 14), none⟩]
def q77 : List SOper := [
 ⟨some 15, .mov (.t 8), none⟩,
 ⟨some 16, .mov (.t 6), none⟩,
 ⟨some 17, .mov (.t 8), none⟩,
 ⟨some 18, .bin .sub (.k (.d (.int .i64 7))) (.t 17), none⟩,
 ⟨some 19, .bin .mul (.k (.d (.int .i64 8))) (.t 18), none⟩,
 ⟨some 20, .bin .shr (.t 16) (.t 19), none⟩,
 ⟨some 21, .conv .u8 (.t 20), none⟩,
 ⟨some 22, .iaddrA 8 1 (.t 7) (.t 15), none⟩,
 ⟨none, .store none (.t 22) (.t 21), none⟩]
def q78 : List SOper := [
 ⟨some 23, .bin .add (.t 12) (.k (.d (.int .i64 1))), none⟩,
 ⟨some 12, .mov (.t 23), none⟩]
def qyo : SCode := (.seq (.region q75 0 []) (.seq (.cond (.t 13) .skip (.exit 0)) (.seq (.block 1 (.seq (.region q76 0 []) (.region q77 0 []))) (.region q78 0 []))))
theorem xob : qg qyo.eq_1 := qh qyo.eq_1
def q79 : List SOper := [
 ⟨some 24, .mov (.t 6), none⟩,
 ⟨some 25, .load (some 8) (.t 7), none⟩,
 ⟨some 4, .mov (.t 24), none⟩,
 ⟨none, .store (some 8) (.t 5) (.t 25), none⟩]
def s103 : SCode := (.seq (.region q71 1 []) (.seq (.region q72 0 []) (.seq (.region q73 1 []) (.seq (.seq (.region q74 0 []) (.block 0 (.loop qyo))) (.seq (.region q79 0 []) .ret)))))
theorem zhp : qg s103.eq_1 := qh s103.eq_1
theorem xoc : qa q71.eq_1 := qc
theorem xod : qa q72.eq_1 := qc
theorem xoe : qa q73.eq_1 := qc
theorem xof : qa q74.eq_1 := qc
theorem xog : qa q75.eq_1 := qc
theorem xoh : qa q76.eq_1 := qc
theorem xoi : qa q77.eq_1 := qc
theorem xoj : qa q78.eq_1 := qc
theorem xok : qa q79.eq_1 := qc
attribute [go_sem] xoc xod xoe xof xog xoh xoi xoj xob xok zhp
theorem x6i : FnIs Tryz.prog 103 Tryz.f103 [] news s103 [.tmp 4, .cell 5 (some 8)] 26 := zc follows Tryz.func103
def q8a : List SOper := [
 ⟨some 2, .mov (.k (.d (.int .u64 0))), none⟩]
def q8b : List SOper := [
 ⟨some 6, .mov (.t 0), none⟩,
 ⟨some 7, .len (.t 6), none⟩,
 ⟨some 8, .bin .lss (.t 7) (.k (.d (.int .i64 8))), none⟩]
def q8c : List SOper := [
 ⟨some 2, .mov (.k (.d (.int .u64 14695981039346656037))), none⟩]
def q8d : List SOper := [
 ⟨some 3, .mov (.k (.d (.int .u64 0))), none⟩]
def q8e : List SOper := [
 ⟨some 9, .mov (.t 0), none⟩,
 ⟨some 10, .mov (.t 0), none⟩,
 ⟨some 11, .len (.t 10), none⟩,
 ⟨some 12, .bin .sub (.t 11) (.k (.d (.int .i64 8))), none⟩,
 ⟨some 13, .slice 1 (.t 9) (some (.t 12)) none none, none⟩,
 ⟨some 14, .len (.t 13), none⟩,
 ⟨some 15, .mov (.k (.d (.int .i64 0))), none⟩]
def q8f : List SOper := [
 ⟨some 16, .bin .lss (.t 15) (.t 14), none⟩]
def q8g : List SOper := [
 ⟨some 17, .iaddr 1 (.t 13) (.t 15), none⟩,
 ⟨some 18, .load none (.t 17), none⟩,
 ⟨some 5, .mov (.t 18), none⟩]
def q8h : List SOper := [
 ⟨some 19, .mov (.t 3), none⟩,
 ⟨some 20, .bin .shl (.t 19) (.k (.d (.int .u64 8))), none⟩,
 ⟨some 21, .mov (.t 5), none⟩,
 ⟨some 22, .conv .u64 (.t 21), none⟩,
 ⟨some 23, .bin .or (.t 20) (.t 22), none⟩,
 ⟨some 3, .mov (.t 23), none⟩]
def q8i : List SOper := [
 ⟨some 24, .bin .add (.t 15) (.k (.d (.int .i64 1))), none⟩,
 ⟨some 15, .mov (.t 24), none⟩]
def qyp : SCode := (.seq (.region q8f 0 []) (.seq (.cond (.t 16) .skip (.exit 0)) (.seq (.block 1 (.seq (.region q8g 0 []) (.region q8h 0 []))) (.region q8i 0 []))))
theorem xol : qg qyp.eq_1 := qh qyp.eq_1
def qyq : List SOper := [
 ⟨some 25, .mov (.t 3), none⟩,
 ⟨some 2, .mov (.t 25), none⟩]
def s101 : SCode := (.seq (.region q8a 0 []) (.seq (.seq (.region q8b 0 []) (.cond (.t 8) (.seq (.region q8c 0 []) .ret) .skip)) (.seq (.region q8d 0 []) (.seq (.seq (.region q8e 0 []) (.block 0 (.loop qyp))) (.seq (.region qyq 0 []) .ret)))))
theorem zhq : qg s101.eq_1 := qh s101.eq_1
theorem xom : qa q8a.eq_1 := qc
theorem xon : qa q8b.eq_1 := qc
theorem xoo : qa q8c.eq_1 := qc
theorem xop : qa q8d.eq_1 := qc
theorem xoq : qa q8e.eq_1 := qc
theorem xos : qa q8f.eq_1 := qc
theorem xot : qa q8g.eq_1 := qc
theorem xou : qa q8h.eq_1 := qc
theorem xov : qa q8i.eq_1 := qc
theorem xim : qa qyq.eq_1 := qc
attribute [go_sem] xom xon xoo xop xoq xos xot xou xov xol xim zhq
theorem zgd : FnIs Tryz.prog 101 Tryz.f101 [] news s101 [.tmp 2] 26 := zc follows Tryz.func101
end
def fnv1 (h : Nat) (c : UInt8) : Nat := (h ^^^ c.toNat) * 1099511628211 % 18446744073709551616
def fnv (h : Nat) (s : List UInt8) : Nat := s.foldl fnv1 h
theorem qmv (h : Nat) : fnv h [] = h := rfl
theorem qhu (h : Nat) (s : List UInt8) (c : UInt8) : fnv h (s ++ [c]) = (fnv h s ^^^ c.toNat) * 1099511628211 % 18446744073709551616 := by
 have : fnv h (s ++ [c]) = fnv1 (fnv h s) c := by unfold fnv; rw [List.foldl_append, List.foldl_cons, List.foldl_nil]
 rw [this, fnv1]
theorem qe8 {h : Nat} (hh : h < 18446744073709551616) (s : List UInt8) : fnv h s < 18446744073709551616 := by
 rcases List.eq_nil_or_concat s with rfl | ⟨t, c, rfl⟩
 ·rw [qmv]; exact hh
 ·rw [List.concat_eq_append, qhu]
  generalize (fnv h t ^^^ c.toNat) * 1099511628211 = x
  omega
theorem qd8 (n : Int) : IntKind.u64.wrap n = n % 18446744073709551616 := by simp [IntKind.wrap, IntKind.bits, IntKind.signed]
theorem q4p (a b : Nat) (ha : a < 18446744073709551616) (hb : b < 18446744073709551616) : a ^^^ b < 18446744073709551616 := by
 have p : (18446744073709551616 : Nat) = 2 ^ 64 := by decide
 rw [p] at *
 exact Nat.xor_lt_two_pow ha hb
theorem qyr (a b : Nat) (ha : a < 18446744073709551616) (hb : b < 18446744073709551616) : qnn 64 (a : Int) (b : Int) = ((a ^^^ b : Nat) : Int) := by
 unfold qnn
 rw [BitVec.ofInt_natCast, BitVec.ofInt_natCast, BitVec.toNat_xor, BitVec.toNat_ofNat, BitVec.toNat_ofNat, Nat.mod_eq_of_lt ha, Nat.mod_eq_of_lt hb]
theorem f1 (x : Nat) : IntKind.u64.wrap ((x : Int) * 1099511628211) = ((x * 1099511628211 % 18446744073709551616 : Nat) : Int) := by
 rw [qd8]
 simp only [Int.natCast_emod, Int.natCast_mul, Int.cast_ofNat_Int]
theorem f2 (x : Nat) (h : x < 18446744073709551616) : IntKind.u64.wrap (x : Int) = x := by
 rw [qd8]; omega
theorem qmw (h c : Nat) (hh : h < 18446744073709551616) (hc : c < 256) :
  IntKind.u64.wrap (IntKind.u64.wrap (qnn 64 (h : Int) (IntKind.u64.wrap (c : Int))) * 1099511628211) = (((h ^^^ c) * 1099511628211 % 18446744073709551616 : Nat) : Int) := by
 rw [f2 c (by omega), qyr h c hh (by omega), f2 _ (q4p h c hh (by omega)), f1]
theorem w7 (c : UInt8) : c.toNat < 256 := UInt8.toNat_lt c
theorem xg (s : List UInt8) {i : Nat} (h : i < s.length) : (qd s).getD i [] = [.int .u8 (s[i].toNat : Int)] := xi (fun c : UInt8 => [D.int .u8 (c.toNat : Int)]) s h []
def q4q (h : Nat) (s : List UInt8) (i : { i : Nat // i ≤ s.length }) : St :=
 ⟨[(0, true, .d (.int .u64 (fnv h (s.take i.val) : Nat))), (7, true, .d (.sl 1 (qd s))), (8, true, .d (.int .i64 s.length)), (9, true, .d (.int .i64 (i.val : Nat)))], [], [], 1⟩
theorem xin (h : Nat) (s : List UInt8) (hh : h < 18446744073709551616) (hl : s.length ≤ 1000000000) : qo Tryz.prog 151 [.d (.int .u64 h), .d (.sl 1 (qd s))] [] (.d (.int .u64 (fnv h s : Nat))) [] := by
 refine x6h.go ?_
 try (refine ev ?_; try exact True.intro)
 refine xc (q4q h s) (fun i => s.length - i.val) ⟨0, Nat.zero_le _⟩ ?_ (fun i => ?_)
 ·try (refine ev3 @q4q.eq_1 @List.take_zero.{0} @qmv ?_; try exact True.intro)
 obtain ⟨i, hi⟩ := i
 try (refine ev1 @q4q.eq_1 ?_; try exact True.intro)
 (repeat (with_reducible refine ob ?_)); refine zk _ (fun h => ?_) (fun h => ?_)
 ·have hil : i < s.length := by simpa using h
  try (refine ev1 (xg s hil) ?_; try exact True.intro)
  (repeat (with_reducible refine ob ?_))
  try simp only [qmw _ _ (qe8 hh (s.take i)) (w7 s[i]), go_sem, Nat.reduceAdd, Nat.reduceMul, Nat.reduceSub, Nat.reduceEqDiff, Nat.reduceLT, Nat.reduceLeDiff, Nat.reduceBEq, reduceIte, reduceCtorEq, Int.reduceAdd, Int.reduceLT, Int.reduceLE, Int.reduceGT, Int.reduceGE, Int.reduceEq, Int.reduceNe, Int.reduceBEq, Int.reduceBNe, Int.reduceToNat, Int.reduceNeg]
  refine ⟨⟨i + 1, hil⟩, ?_, by dsimp only; omega⟩
  try (refine ev4 @q4q.eq_1 (qt (show i < 9223372036854775807 by omega)) (List.take_succ_eq_append_getElem hil) @qhu ?_; try exact True.intro)
 ·have hie : i = s.length := by simp at h; omega
  subst hie
  try (refine ev1 @List.take_length.{0} ?_; try exact True.intro)
def jp (c : UInt8) : D := .int .u8 c.toNat
theorem qr4 (s : List UInt8) : D.noPtrL (s.map jp) = true := by induction s <;> simp_all [D.noPtrL, D.noPtr, jp]
theorem qd9 (s : List UInt8) : (s.map jp).all D.isCell = true := by induction s <;> simp_all [D.isCell, jp]
attribute [go_sem] qr4 qd9
theorem qvq (s : List UInt8) {i : Nat} (h : i < s.length) (x : ASlot) : ((s.map jp).map ASlot.d).getD i x = .d (.int .u8 (s[i].toNat : Int)) := by simp [h, jp]
theorem qab (s : List UInt8) : (qd s).flatten = s.map jp := by induction s <;> simp_all [qd, jp]
theorem qpg (s : List UInt8) : wq 1 s.length (s.map jp) = qd s := by
 induction s with
 | nil => rfl
 | cons c s ih => simp only [List.length_cons, List.map_cons, wq, List.take_succ_cons, List.take_zero, List.drop_succ_cons, List.drop_zero, ih]; rfl
def qtj (h : Nat) (s : List UInt8) (i : { i : Nat // i ≤ s.length }) : St :=
 ⟨[(0, true, .d (.int .u64 (fnv h (s.take i.val) : Nat))), (7, true, .d (.ref 0 0 1 s.length)), (8, true, .d (.int .i64 s.length)), (9, true, .d (.int .i64 (i.val : Nat)))], [.row ((s.map jp).map .d)], [], 1⟩
theorem q4r (h : Nat) (s : List UInt8) (hh : h < 18446744073709551616) (hl : s.length ≤ 1000000000) : qo Tryz.prog 151 [.d (.int .u64 h), .d (.ref 0 0 1 s.length)] [.row ((s.map jp).map .d)] (.d (.int .u64 (fnv h s : Nat))) [.row ((s.map jp).map .d)] := by
 refine x6h.go ?_
 try (refine ev ?_; try exact True.intro)
 refine xc (qtj h s) (fun i => s.length - i.val) ⟨0, Nat.zero_le _⟩ ?_ (fun i => ?_)
 ·try (refine ev3 @qtj.eq_1 @List.take_zero.{0} @qmv ?_; try exact True.intro)
 obtain ⟨i, hi⟩ := i
 try (refine ev1 @qtj.eq_1 ?_; try exact True.intro)
 (repeat (with_reducible refine ob ?_)); refine zk _ (fun h => ?_) (fun h => ?_)
 ·have hil : i < s.length := by simpa using h
  try (refine ev2 @Nat.mul_one (qvq s hil) ?_; try exact True.intro)
  (repeat (with_reducible refine ob ?_))
  try simp only [qmw _ _ (qe8 hh (s.take i)) (w7 s[i]), go_sem, Nat.reduceAdd, Nat.reduceMul, Nat.reduceSub, Nat.reduceEqDiff, Nat.reduceLT, Nat.reduceLeDiff, Nat.reduceBEq, reduceIte, reduceCtorEq, Int.reduceAdd, Int.reduceLT, Int.reduceLE, Int.reduceGT, Int.reduceGE, Int.reduceEq, Int.reduceNe, Int.reduceBEq, Int.reduceBNe, Int.reduceToNat, Int.reduceNeg]
  refine ⟨⟨i + 1, hil⟩, ?_, by dsimp only; omega⟩
  try (refine ev4 @qtj.eq_1 (qt (show i < 9223372036854775807 by omega)) (List.take_succ_eq_append_getElem hil) @qhu ?_; try exact True.intro)
 ·have hie : i = s.length := by simp at h; omega
  subst hie
  try (refine ev1 @List.take_length.{0} ?_; try exact True.intro)
def be8 (h : Nat) : List UInt8 := [UInt8.ofNat (h / 256 ^ 7), UInt8.ofNat (h / 256 ^ 6), UInt8.ofNat (h / 256 ^ 5), UInt8.ofNat (h / 256 ^ 4), UInt8.ofNat (h / 256 ^ 3), UInt8.ofNat (h / 256 ^ 2), UInt8.ofNat (h / 256 ^ 1), UInt8.ofNat (h / 256 ^ 0)]
theorem ja (h : Nat) : (be8 h).length = 8 := rfl
theorem xio (h : Nat) : ∀ {i : Nat} (hi : i < 8), (be8 h)[i]'(by rw [ja]; exact hi) = UInt8.ofNat (h / 256 ^ (7 - i))
 | 0, _ => rfl
 | 1, _ => rfl
 | 2, _ => rfl
 | 3, _ => rfl
 | 4, _ => rfl
 | 5, _ => rfl
 | 6, _ => rfl
 | 7, _ => rfl
theorem xl {n : Int} (h : I64 n) : IntKind.i64.wrap n = n := by
 obtain ⟨h1, h2⟩ := h
 simp [IntKind.wrap, IntKind.bits, IntKind.signed]; omega
theorem qtk (h i : Nat) (hi : i < 8) : IntKind.u8.wrap ((h : Int).fdiv (2 ^ min (8 * (7 - (i : Int))).toNat 64)) = ((UInt8.ofNat (h / 256 ^ (7 - i))).toNat : Int) := by
 have e1 : min (8 * (7 - (i : Int))).toNat 64 = 8 * (7 - i) := by omega
 have e2 : ((2 : Int) ^ (8 * (7 - i))) = ((256 ^ (7 - i) : Nat) : Int) := by rw [Int.natCast_pow, Int.pow_mul]; rfl
 rw [e1, e2, Int.fdiv_eq_ediv_of_nonneg _ (Int.natCast_nonneg _), ← Int.natCast_ediv, qcu, UInt8.toNat_ofNat']
 omega
theorem qys (h : Nat) {i : Nat} (hi : i < 8) : (((be8 h).take i ++ List.replicate (8 - i) 0).map jp).set i (D.int .u8 ((UInt8.ofNat (h / 256 ^ (7 - i))).toNat : Int)) = ((be8 h).take (i + 1) ++ List.replicate (8 - (i + 1)) 0).map jp := by
 have h8 := ja h
 have hl : ((be8 h).take i).length = i := by rw [List.length_take]; omega
 have e : D.int .u8 ((UInt8.ofNat (h / 256 ^ (7 - i))).toNat : Int) = jp ((be8 h)[i]'(by omega)) := by rw [xio h hi]; rfl
 rw [e, ← List.map_set, List.set_append_right _ _ (by omega), hl, Nat.sub_self, List.take_succ_eq_append_getElem (by omega), show 8 - i = (8 - (i + 1)) + 1 by omega, List.replicate_succ, List.set_cons_zero, List.append_assoc, List.cons_append, List.nil_append]
theorem qb3 (ds : List D) (i : Nat) (x : D) : (ds.map ASlot.d).set i (.d x) = (ds.set i x).map .d := by rw [List.map_set]
theorem qld : jp 0 = .int .u8 0 := rfl
theorem qyt (h : Nat) : (be8 h).take 8 = be8 h := List.take_of_length_le (Nat.le_of_eq (ja h))
def qcw (k : Nat) (f0 : Fr) (os : List AObj) (h : Nat) (i : { i : Nat // i ≤ 8 }) : St :=
 ⟨(6, true, .d (.int .u64 (h : Nat))) :: (7, true, .d (.ptr (k + 1) 0)) :: (5, true, .d (.ptr k 0)) :: (12, true, .d (.int .i64 (i.val : Nat))) :: f0, os ++ [.row ((List.replicate 8 (D.int .u8 0)).map .d), .row ((((be8 h).take i.val ++ List.replicate (8 - i.val) 0).map jp).map .d)], [], 1⟩
theorem q4s (h : Nat) (s : List UInt8) (hh : h < 18446744073709551616) (hl : s.length ≤ 1000000000) : qo Tryz.prog 103 [.d (.int .u64 h), .d (.sl 1 (qd s))] [] (.tup [.d (.int .u64 (fnv h s : Nat)), .d (.agg ((be8 (fnv h s)).map jp))]) [] := by
 refine x6i.goT ?_
 try (refine ev ?_; try exact True.intro)
 (repeat (with_reducible refine ob ?_)); refine cl x6h (xin h s hh hl) ?_
 try (refine ev ?_; try exact True.intro)
 refine xc (qcw 0 [] [] (fnv h s)) (fun i => 8 - i.val) ⟨0, Nat.zero_le _⟩ ?_ (fun i => ?_)
 ·try (refine ev3 @qcw.eq_1 @List.take_zero.{0} @qld ?_; try exact True.intro)
 obtain ⟨i, hi⟩ := i
 try (refine ev1 @qcw.eq_1 ?_; try exact True.intro)
 refine zk _ (fun hc => ?_) (fun hc => ?_)
 ·have hil : i < 8 := by simp at hc; omega
  have e1 : IntKind.i64.wrap (7 - (i : Int)) = 7 - i := xl (by unfold I64; omega)
  have e2 : IntKind.i64.wrap (8 * (7 - (i : Int))) = 8 * (7 - i) := xl (by unfold I64; omega)
  have hlen := ja (fnv h s)
  try simp only [Nat.mul_one, qtk _ _ hil, qb3, qys _ hil, e1, e2, List.length_take, List.length_replicate, go_sem, Nat.reduceAdd, Nat.reduceMul, Nat.reduceSub, Nat.reduceEqDiff, Nat.reduceLT, Nat.reduceLeDiff, Nat.reduceBEq, reduceIte, reduceCtorEq, Int.reduceAdd, Int.reduceLT, Int.reduceLE, Int.reduceGT, Int.reduceGE, Int.reduceEq, Int.reduceNe, Int.reduceBEq, Int.reduceBNe, Int.reduceToNat, Int.reduceNeg]
  (repeat (with_reducible refine ob ?_))
  refine ⟨⟨i + 1, hil⟩, ?_, by dsimp only; omega⟩
  try (refine ev2 @qcw.eq_1 (qt (show i < 9223372036854775807 by omega)) ?_; try exact True.intro)
 ·have hie : i = 8 := by simp at hc; omega
  subst hie
  try (refine ev3 @qyt @be8.eq_1 @jp.eq_1 ?_; try exact True.intro)
theorem qyu (h : Nat) (s : List UInt8) (hh : h < 18446744073709551616) (hl : s.length ≤ 1000000000) : qo Tryz.prog 103 [.d (.int .u64 h), .d (.ref 0 0 1 s.length)] [.row ((s.map jp).map .d)] (.tup [.d (.int .u64 (fnv h s : Nat)), .d (.agg ((be8 (fnv h s)).map jp))]) [.row ((s.map jp).map .d)] := by
 refine x6i.goT ?_
 try (refine ev ?_; try exact True.intro)
 (repeat (with_reducible refine ob ?_)); refine clO [0] x6h (q4r h s hh hl) ?_
 try (refine ev ?_; try exact True.intro)
 refine xc (qcw 1 [] [.row ((s.map jp).map .d)] (fnv h s)) (fun i => 8 - i.val) ⟨0, Nat.zero_le _⟩ ?_ (fun i => ?_)
 ·try (refine ev3 @qcw.eq_1 @List.take_zero.{0} @qld ?_; try exact True.intro)
 obtain ⟨i, hi⟩ := i
 try (refine ev1 @qcw.eq_1 ?_; try exact True.intro)
 refine zk _ (fun hc => ?_) (fun hc => ?_)
 ·have hil : i < 8 := by simp at hc; omega
  have e1 : IntKind.i64.wrap (7 - (i : Int)) = 7 - i := xl (by unfold I64; omega)
  have e2 : IntKind.i64.wrap (8 * (7 - (i : Int))) = 8 * (7 - i) := xl (by unfold I64; omega)
  have hlen := ja (fnv h s)
  try simp only [Nat.mul_one, qtk _ _ hil, qb3, qys _ hil, e1, e2, List.length_take, List.length_replicate, go_sem, Nat.reduceAdd, Nat.reduceMul, Nat.reduceSub, Nat.reduceEqDiff, Nat.reduceLT, Nat.reduceLeDiff, Nat.reduceBEq, reduceIte, reduceCtorEq, Int.reduceAdd, Int.reduceLT, Int.reduceLE, Int.reduceGT, Int.reduceGE, Int.reduceEq, Int.reduceNe, Int.reduceBEq, Int.reduceBNe, Int.reduceToNat, Int.reduceNeg]
  (repeat (with_reducible refine ob ?_))
  refine ⟨⟨i + 1, hil⟩, ?_, by dsimp only; omega⟩
  try (refine ev2 @qcw.eq_1 (qt (show i < 9223372036854775807 by omega)) ?_; try exact True.intro)
 ·have hie : i = 8 := by simp at hc; omega
  subst hie
  try (refine ev3 @qyt @be8.eq_1 @jp.eq_1 ?_; try exact True.intro)
def num1 (h : Nat) (c : UInt8) : Nat := h * 256 + c.toNat
def qhl (s : List UInt8) : Nat := s.foldl num1 0
def jh (file : List UInt8) : Nat := if file.length < 8 then 14695981039346656037 else qhl (file.drop (file.length - 8))
theorem qle (s : List UInt8) (c : UInt8) : qhl (s ++ [c]) = qhl s * 256 + c.toNat := by unfold qhl; rw [List.foldl_append, List.foldl_cons, List.foldl_nil]; rfl
theorem qmx : ∀ (n : Nat) (s : List UInt8), s.length = n → qhl s < 256 ^ n
 | 0, s, h => by cases s <;> simp at h; simp [qhl]
 | n + 1, s, h => by
  rcases List.eq_nil_or_concat s with rfl | ⟨t, c, rfl⟩
  ·simp at h
  ·rw [List.concat_eq_append] at h ⊢
   have h1 := qmx n t (by simpa using h)
   have h2 := w7 c
   rw [qle, Nat.pow_succ]
   omega
theorem qtl (a b : Nat) (ha : a < 18446744073709551616) (hb : b < 18446744073709551616) : bvOr 64 (a : Int) (b : Int) = ((a ||| b : Nat) : Int) := by
 unfold bvOr
 rw [BitVec.ofInt_natCast, BitVec.ofInt_natCast, BitVec.toNat_or, BitVec.toNat_ofNat, BitVec.toNat_ofNat, Nat.mod_eq_of_lt ha, Nat.mod_eq_of_lt hb]
theorem xow (a c : Nat) (hc : c < 256) : a * 256 ||| c = a * 256 + c := by
 have := Nat.shiftLeft_add_eq_or_of_lt (i := 8) (b := c) (by omega) a
 rw [Nat.shiftLeft_eq] at this
 exact this.symm
theorem qyv (a c : Nat) (ha : a < 72057594037927936) (hc : c < 256) : IntKind.u64.wrap (bvOr 64 (IntKind.u64.wrap ((a : Int) * 2 ^ min 8 64)) (IntKind.u64.wrap (c : Int))) = ((a * 256 + c : Nat) : Int) := by
 have e1 : IntKind.u64.wrap ((a : Int) * 2 ^ min 8 64) = ((a * 256 : Nat) : Int) := by
  rw [qd8]
  show (a : Int) * 256 % 18446744073709551616 = _
  omega
 rw [e1, f2 c (by omega), qtl _ _ (by omega) (by omega), xow a c hc, f2 _ (by omega)]
def q4t (s : List UInt8) (i : { i : Nat // i ≤ s.length }) : St :=
 ⟨[(3, true, .d (.int .u64 (qhl (s.take i.val) : Nat))), (13, true, .d (.sl 1 (qd s))), (14, true, .d (.int .i64 s.length)), (15, true, .d (.int .i64 (i.val : Nat)))], [], [], 1⟩
theorem xq (s : List UInt8) (n : Nat) : (qd s).drop n = qd (s.drop n) := by simp [qd]
theorem xj (s : List UInt8) (n : Nat) : (qd s).take n = qd (s.take n) := by simp [qd]
theorem xip (file : List UInt8) (hl : file.length ≤ 1000000000) : qo Tryz.prog 101 [.d (.sl 1 (qd file))] [] (.d (.int .u64 (jh file : Nat))) [] := by
 refine zgd.go ?_
 try (refine ev ?_; try exact True.intro)
 refine zk _ (fun hc => ?_) (fun hc => ?_)
 ·have hb : jh file = 14695981039346656037 := by unfold jh; rw [if_pos (by simp at hc; omega)]
  try (refine ev1 @hb ?_; try exact True.intro)
 have h8 : 8 ≤ file.length := by simp at hc; omega
 have e1 : IntKind.i64.wrap ((file.length : Int) - 8) = ((file.length - 8 : Nat) : Int) := by rw [xl (by unfold I64; omega)]; omega
 have hb : jh file = qhl (file.drop (file.length - 8)) := by unfold jh; rw [if_neg (by omega)]
 have hd : (file.drop (file.length - 8)).length = 8 := by rw [List.length_drop]; omega
 generalize hs : file.drop (file.length - 8) = s at hb hd
 have e2 : s.take (file.length - (file.length - 8)) = s := List.take_of_length_le (by omega)
 try (refine ev6 @e1 @xq @xj @hs @e2 @hb ?_; try exact True.intro)
 (repeat (with_reducible refine ob ?_))
 refine xc (q4t s) (fun i => s.length - i.val) ⟨0, Nat.zero_le _⟩ ?_ (fun i => ?_)
 ·try (refine ev2 @q4t.eq_1 @List.take_zero.{0} ?_; try exact True.intro)
  simp [qhl]
 obtain ⟨i, hi⟩ := i
 try (refine ev1 @q4t.eq_1 ?_; try exact True.intro)
 (repeat (with_reducible refine ob ?_)); refine zk _ (fun h => ?_) (fun h => ?_)
 ·have hil : i < s.length := by simpa using h
  have hlt : qhl (s.take i) < 72057594037927936 := by
   have := qmx i (s.take i) (by rw [List.length_take]; omega)
   have h7 : 256 ^ i ≤ 256 ^ 7 := Nat.pow_le_pow_right (by decide) (by omega)
   have : (256 : Nat) ^ 7 = 72057594037927936 := by decide
   omega
  try (refine ev1 (xg s hil) ?_; try exact True.intro)
  (repeat (with_reducible refine ob ?_))
  try simp only [qyv _ _ hlt (w7 s[i]), go_sem, Nat.reduceAdd, Nat.reduceMul, Nat.reduceSub, Nat.reduceEqDiff, Nat.reduceLT, Nat.reduceLeDiff, Nat.reduceBEq, reduceIte, reduceCtorEq, Int.reduceAdd, Int.reduceLT, Int.reduceLE, Int.reduceGT, Int.reduceGE, Int.reduceEq, Int.reduceNe, Int.reduceBEq, Int.reduceBNe, Int.reduceToNat, Int.reduceNeg]
  refine ⟨⟨i + 1, hil⟩, ?_, by dsimp only; omega⟩
  try (refine ev4 @q4t.eq_1 (qt (show i < 9223372036854775807 by omega)) (List.take_succ_eq_append_getElem hil) @qle ?_; try exact True.intro)
 ·have hie : i = s.length := by simp at h; omega
  subst hie
  try (refine ev1 @List.take_length.{0} ?_; try exact True.intro)
end Go.Proofs.YtinnaedmdoengaaGreat
