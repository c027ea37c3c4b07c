/- Texts Yh, Ws. -/
import Derived.Test.YtkcdbcbpbolgkaaGreatDoorMao
import Derived.Calls
import Derived.Orders
import Derived.Tactics
import Derived.Laws.AppendOwn
import Derived.Laws.Slices
import Derived.Laws.Closers25
import Derived.Laws.StructEq
import Derived.Laws.BytesString
import Derived.Laws.CopyRow
import Derived.MapKept
import Derived.Maps.RangeRun
import Derived.TacticsIn
import Derived.OrdersIn
import Derived.RangeFuncRecord
import Derived.RangeFuncLeaves
import Derived.IntWalk
import Derived.ProofKit
import Derived.OpenShut
import Derived.Carry
import Derived.Test.YtkcdbcbpbolgkaaGreatDoorProg
import Derived.KernelRfl
import Derived.OwnWalkIn
import Derived.TacticsInMore
import Derived.LoopIn
import Derived.WalkKit
import Derived.Lib.Strings
import Derived.Lib.Slices
import Derived.Lib.Walk
import Derived.Lib.Bytealg
import Derived.Shelf.SlSortCmp.WholeK
import Derived.Shelf.SlSortCmp.NoneTotal

namespace Go.Proofs.YtkcdbcbpbolgkaaGreatDoor
open Go.Abs
set_option linter.unusedSimpArgs false
set_option linter.unusedVariables false
theorem xbg (n : Int) : unz (zz n) = n := by
 unfold zz unz
 split <;> split <;> omega
theorem toNat_ofNat {n : Nat} (h : n < 256) : (UInt8.ofNat n).toNat = n := by simp [UInt8.toNat_ofNat]; omega
theorem xbh (k : Nat) : ∀ (j u v : Nat) (l : List UInt8), j + (k + 1) = 10 → v * 128 ^ j < 18446744073709551616 → (v = 0 → j = 0) → dG (k + 1) j u (qai v ++ l) = some (unz (u + v * 128 ^ j), l) := by
 have small : ∀ (k j u v : Nat) (l : List UInt8), v < 128 → v * 128 ^ j < 18446744073709551616 → (v = 0 → j = 0) → dG (k + 1) j u (qai v ++ l) = some (unz (u + v * 128 ^ j), l) := by
  intro k j u v l hv hb h0
  rw [qbe hv, List.singleton_append, dG, toNat_ofNat (by omega), if_pos hv, if_neg]
  simp only [Bool.or_eq_true, Bool.and_eq_true, beq_iff_eq, decide_eq_true_eq, not_or, not_and]
  refine ⟨fun h => by have := h0 h; omega, fun h => ?_⟩
  subst h
  have e : (128 : Nat) ^ 9 = 9223372036854775808 := by decide
  rw [e] at hb; omega
 induction k with
 | zero =>
  intro j u v l hj hb h0
  refine small 0 j u v l ?_ hb h0
  have : j = 9 := by omega
  subst this
  have e : (128 : Nat) ^ 9 = 9223372036854775808 := by decide
  rw [e] at hb; omega
 | succ k ih =>
  intro j u v l hj hb h0
  by_cases hv : v < 128
  ·exact small _ j u v l hv hb h0
  ·have hm : v % 128 + 128 < 256 := by omega
   rw [qbd hv, List.cons_append, dG, toNat_ofNat hm, if_neg (by omega)]
   have e1 : (v % 128 + 128) % 128 = v % 128 := by omega
   have e2 : v % 128 * 128 ^ j + v / 128 * 128 ^ (j + 1) = v * 128 ^ j := by
    rw [Nat.pow_succ, Nat.mul_comm (128 ^ j) 128, ← Nat.mul_assoc, ← Nat.add_mul]
    congr 1; omega
   have hle : v / 128 * 128 ^ (j + 1) ≤ v * 128 ^ j := by omega
   rw [e1, ih (j + 1) _ (v / 128) l (by omega) (by omega) (by omega)]
   rw [Nat.add_assoc, e2]
theorem qje {n : Int} (hn : I64 n) (l : List UInt8) : dInt (wInt n ++ l) = some (n, l) := by
 have := xbh 9 0 0 (zz n) l rfl (by rw [Nat.pow_zero, Nat.mul_one]; exact q5e hn) (fun _ => rfl)
 rw [Nat.pow_zero, Nat.mul_one, Nat.zero_add, xbg] at this
 exact this
theorem qa3 {α : Type} {z : α} {f : Rd → α × Rd} {d : List UInt8 → Option (α × List UInt8)} (hd : qsb z f d) {r : Rd} (hr : r.Ok) (hf : r.failed = false) {v : α} {l : List UInt8} (h : d (r.b.drop r.pos) = some (v, l)) : f r = (v, ⟨r.b, r.b.length - l.length, false⟩) := by
 rw [hd r hr, if_neg (by simp [hf]), h]
end Go.Proofs.YtkcdbcbpbolgkaaGreatDoor
namespace Go.Proofs.YtkcdbcbpbolgkaaGreatDoor
open Go.Abs
set_option linter.unusedSimpArgs false
set_option maxRecDepth 100000
theorem qpd {α : Type} {enc : α → List D} {Q : α → Prop} : ∀ {rows : List (List D)}, (∀ r ∈ rows, ∃ x, r = enc x ∧ Q x) → ∃ l : List α, rows = l.map enc ∧ ∀ x ∈ l, Q x
 | [], _ => ⟨[], rfl, by simp⟩
 | r :: rows, h => by
  obtain ⟨x, rfl, hx⟩ := h r (by simp)
  obtain ⟨l, rfl, hl⟩ := qpd (enc := enc) (Q := Q) (rows := rows) (fun r hr => h r (by simp [hr]))
  exact ⟨x :: l, rfl, by simpa using ⟨hx, hl⟩⟩
theorem xbi {n : Int} (h : (Lit.int .i64 n).wf = true) : I64 n := by
 have h1 : IntKind.i64.min = -9223372036854775808 := by decide
 have h2 : IntKind.i64.max = 9223372036854775807 := by decide
 simp only [Lit.wf, Bool.and_eq_true, decide_eq_true_eq, h1, h2] at h
 exact h
theorem xcp {n : Int} (h : (Lit.int .u8 n).wf = true) : 0 ≤ n ∧ n ≤ 255 := by
 have h1 : IntKind.u8.min = 0 := by decide
 have h2 : IntKind.u8.max = 255 := by decide
 simp only [Lit.wf, Bool.and_eq_true, decide_eq_true_eq, h1, h2] at h
 exact h
theorem q2o {n : Nat} {ds : List D} (h : Shp Tryz.prog (n + 1) 3 ds) : ∃ x, ds = [.int .i64 x] ∧ I64 x := by
 simp only [Shp, Tryz.underlying3] at h
 obtain ⟨x, rfl, h⟩ := h
 exact ⟨x, rfl, xbi h⟩
theorem xbj {n : Nat} {ds : List D} (h : Shp Tryz.prog (n + 1) 5 ds) : ∃ x : Nat, ds = [.int .u8 (x : Nat)] ∧ x < 256 := by
 simp only [Shp, Tryz.underlying5] at h
 obtain ⟨x, rfl, h⟩ := h
 have := xcp h
 refine ⟨x.toNat, ?_, by omega⟩
 rw [Int.toNat_of_nonneg this.1]
theorem xcq (n : Int) : argS Tryz.prog 5 [.int .u8 n] = .d (.int .u8 n) := by simp only [argS, Tryz.underlying5]; rfl
end Go.Proofs.YtkcdbcbpbolgkaaGreatDoor
