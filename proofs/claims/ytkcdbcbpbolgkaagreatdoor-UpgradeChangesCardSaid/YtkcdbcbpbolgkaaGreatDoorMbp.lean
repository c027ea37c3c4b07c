/- Texts Yh, Zb, Zc, Zd, Ze, Zf, Zg, Zj, Zk, Zl, Zm, Zp, Zr, Zh, Zi, Zs, Yk, Ws. -/
import Derived.Test.YtkcdbcbpbolgkaaGreatDoorMbo
import Derived.Calls
import Derived.Orders
import Derived.Tactics
import Derived.Laws.AppendOwn
import Derived.Laws.Slices
import Derived.Laws.Closers25
import Derived.Laws.StructEq
import Derived.Laws.BytesString
import Derived.Laws.CopyRow
import Derived.MapKept
import Derived.Maps.RangeRun
import Derived.TacticsIn
import Derived.OrdersIn
import Derived.RangeFuncRecord
import Derived.RangeFuncLeaves
import Derived.IntWalk
import Derived.ProofKit
import Derived.OpenShut
import Derived.Carry
import Derived.Test.YtkcdbcbpbolgkaaGreatDoorProg
import Derived.KernelRfl
import Derived.OwnWalkIn
import Derived.TacticsInMore
import Derived.LoopIn
import Derived.WalkKit
import Derived.Lib.Strings
import Derived.Lib.Slices
import Derived.Lib.Walk
import Derived.Lib.Bytealg
import Derived.Shelf.SlSortCmp.WholeK
import Derived.Shelf.SlSortCmp.NoneTotal

namespace Go.Proofs.YtkcdbcbpbolgkaaGreatDoor
open Go.Abs
set_option linter.unusedSimpArgs false
set_option linter.unusedVariables false
theorem xie (n : Int) : unz (zz n) = n := by
 unfold zz unz
 split <;> split <;> omega
theorem toNat_ofNat {n : Nat} (h : n < 256) : (UInt8.ofNat n).toNat = n := by simp [UInt8.toNat_ofNat]; omega
theorem xif (k : Nat) : ∀ (j u v : Nat) (l : List UInt8), j + (k + 1) = 10 → v * 128 ^ j < 18446744073709551616 → (v = 0 → j = 0) → dG (k + 1) j u (qbv v ++ l) = some (unz (u + v * 128 ^ j), l) := by
 have small : ∀ (k j u v : Nat) (l : List UInt8), v < 128 → v * 128 ^ j < 18446744073709551616 → (v = 0 → j = 0) → dG (k + 1) j u (qbv v ++ l) = some (unz (u + v * 128 ^ j), l) := by
  intro k j u v l hv hb h0
  rw [qa5 hv, List.singleton_append, dG, toNat_ofNat (by omega), if_pos hv, if_neg]
  simp only [Bool.or_eq_true, Bool.and_eq_true, beq_iff_eq, decide_eq_true_eq, not_or, not_and]
  refine ⟨fun h => by have := h0 h; omega, fun h => ?_⟩
  subst h
  have e : (128 : Nat) ^ 9 = 9223372036854775808 := by decide
  rw [e] at hb; omega
 induction k with
 | zero =>
  intro j u v l hj hb h0
  refine small 0 j u v l ?_ hb h0
  have : j = 9 := by omega
  subst this
  have e : (128 : Nat) ^ 9 = 9223372036854775808 := by decide
  rw [e] at hb; omega
 | succ k ih =>
  intro j u v l hj hb h0
  by_cases hv : v < 128
  ·exact small _ j u v l hv hb h0
  ·have hm : v % 128 + 128 < 256 := by omega
   rw [qcp hv, List.cons_append, dG, toNat_ofNat hm, if_neg (by omega)]
   have e1 : (v % 128 + 128) % 128 = v % 128 := by omega
   have e2 : v % 128 * 128 ^ j + v / 128 * 128 ^ (j + 1) = v * 128 ^ j := by
    rw [Nat.pow_succ, Nat.mul_comm (128 ^ j) 128, ← Nat.mul_assoc, ← Nat.add_mul]
    congr 1; omega
   have hle : v / 128 * 128 ^ (j + 1) ≤ v * 128 ^ j := by omega
   rw [e1, ih (j + 1) _ (v / 128) l (by omega) (by omega) (by omega)]
   rw [Nat.add_assoc, e2]
theorem qlo {n : Int} (hn : I64 n) (l : List UInt8) : dInt (wInt n ++ l) = some (n, l) := by
 have := xif 9 0 0 (zz n) l rfl (by rw [Nat.pow_zero, Nat.mul_one]; exact xbo hn) (fun _ => rfl)
 rw [Nat.pow_zero, Nat.mul_one, Nat.zero_add, xie] at this
 exact this
theorem qcf {α : Type} {z : α} {f : Rd → α × Rd} {d : List UInt8 → Option (α × List UInt8)} (hd : qvu z f d) {r : Rd} (hr : r.Ok) (hf : r.failed = false) {v : α} {l : List UInt8} (h : d (r.b.drop r.pos) = some (v, l)) : f r = (v, ⟨r.b, r.b.length - l.length, false⟩) := by
 rw [hd r hr, if_neg (by simp [hf]), h]
end Go.Proofs.YtkcdbcbpbolgkaaGreatDoor
namespace Go.Proofs.YtkcdbcbpbolgkaaGreatDoor
open Go.Abs
set_option linter.unusedSimpArgs false
set_option linter.unusedVariables false
def qt (b : List UInt8) (p : Nat) : List UInt8 := (b.drop p).take 24
structure Rds where
 pos : Nat
 seed : Nat
 now : List UInt8
 recs : List (List UInt8)
 ends : List Nat
 deriving Inhabited
def Rds.used (s : Rds) : Nat := s.ends.getLastD 0
def q32 : Nat := 14695981039346656037
structure Rds.Ok (b : List UInt8) (s : Rds) : Prop where
 pos : s.pos ≤ b.length
 seed : s.seed < 18446744073709551616
 now : s.now.length ≤ 2000
 recs : s.recs.length ≤ s.pos
 ends : s.ends.length ≤ s.pos
 used : s.used ≤ s.pos
 small : ∀ r ∈ s.recs, r.length ≤ 2000
def zp : Nat → List (Nat × List UInt8) → List UInt8
 | _, [] => []
 | h, p :: l => xq p ++ be8 (fnv h (xq p)) ++ zp (fnv h (xq p)) l
def qcz : Nat → List (Nat × List UInt8) → Nat
 | h, [] => h
 | h, p :: l => qcz (fnv h (xq p)) l
theorem q33 (x : List UInt8) (h : Nat) (l : List (Nat × List UInt8)) : kj (x, h) l = (x ++ zp h l, qcz h l) := by
 induction l generalizing x h with
 | nil => simp [kj, zp, qcz]
 | cons p l ih =>
  have : kj (x, h) (p :: l) = kj (qdm (x, h) p) l := rfl
  rw [this, qdm, ih, zp, qcz]
  simp only [List.append_assoc]
theorem qga {h : Nat} {l : List (Nat × List UInt8)} (hl : ∀ p ∈ l, p.2.length ≤ 22) : (zp h l).length = 32 * l.length := by
 induction l generalizing h with
 | nil => simp [zp]
 | cons p l ih =>
  rw [zp, List.length_append, List.length_append, jz, wt (hl p List.mem_cons_self), ih (fun q hq => hl q (List.mem_cons_of_mem _ hq)), List.length_cons]
  omega
end Go.Proofs.YtkcdbcbpbolgkaaGreatDoor
namespace Go.Proofs.YtkcdbcbpbolgkaaGreatDoor
open Go.Abs
set_option linter.unusedSimpArgs false
set_option linter.unusedVariables false
theorem qsi (r : List UInt8) : partsOf r ≠ [] := by
 by_cases h : r.length > 22
 ·rw [vi h]; simp
 ·rw [vj h]; simp
theorem qcg (f r : List UInt8) : vm f r = f ++ zp (vl f) (partsOf r) := by rw [vm, q33]
def xu (rs : List (List UInt8)) : List UInt8 := rs.foldl vm []
structure Behind (rs : List (List UInt8)) (s : Rds) : Prop where
 pos : s.pos = (xu rs).length
 seed : s.seed = vl (xu rs)
 now : s.now = []
 recs : s.recs = rs
 used : s.used = (xu rs).length
structure ReadOf (rs : List (List UInt8)) (k j : Nat) (x : Rds × Int) : Prop where
 le : j ≤ rs.length
 recs : x.1.recs = rs.take j
 used : x.1.used = (xu (rs.take j)).length
 fit : (xu (rs.take j)).length ≤ k
 all : ∀ i, i ≤ rs.length → (xu (rs.take i)).length ≤ k → i ≤ j
end Go.Proofs.YtkcdbcbpbolgkaaGreatDoor
namespace Go.Proofs.YtkcdbcbpbolgkaaGreatDoor
open Go.Abs
set_option linter.unusedSimpArgs false
set_option linter.unusedVariables false
noncomputable section
set_option maxRecDepth 100000
set_option linter.defProp false
def d339 := cut Tryz.prog Tryz.f339 news
@[go_sem] def E339 := qm d339
def d342 := cut Tryz.prog Tryz.f342 news
@[go_sem] def E342 := qm d342
def d338 := cut Tryz.prog Tryz.f338 news
@[go_sem] def E338 := qm d338
def d328 := cut Tryz.prog Tryz.f328 news
@[go_sem] def E328 := qm d328
def d190 := cut Tryz.prog Tryz.f190 news
@[go_sem] def E190 := qm d190
def d290 := cut Tryz.prog Tryz.f290 news
@[go_sem] def E290 := qm d290
end
def wx (l : List Nat) : List (List D) := l.map fun n => [.int .i64 (n : Nat)]
end Go.Proofs.YtkcdbcbpbolgkaaGreatDoor
namespace Go.Proofs.YtkcdbcbpbolgkaaGreatDoor
open Go.Abs
set_option linter.unusedSimpArgs false
set_option linter.unusedVariables false
noncomputable section
set_option maxRecDepth 100000
set_option linter.defProp false
def d289 := cut Tryz.prog Tryz.f289 news
@[go_sem] def E289 := qm d289
def d248 := cut Tryz.prog Tryz.f248 news
@[go_sem] def E248 := qm d248
def d181 := cut Tryz.prog Tryz.f181 news
@[go_sem] def E181 := qm d181
end
def wm (l : List (List UInt8)) : List (List D) := l.map fun r => [.sl 1 (qa r)]
theorem qsk (l : List (List UInt8)) : D.noPtrR (wm l) = true := xp (fun r => by simp only [D.noPtrL, D.noPtr, zr, Bool.and_self]) l
theorem qy6 (l : List (List UInt8)) : (wm l).length = l.length := by simp [wm]
theorem qy7 : wm [] = [] := rfl
theorem qsl (l : List Nat) : D.noPtrR (wx l) = true := xp (fun _ => rfl) l
theorem qy8 (l : List Nat) : (wx l).length = l.length := by simp [wx]
theorem qy9 : wx [] = [] := rfl
attribute [go_sem] qsk qy6 qy7 qsl qy8 qy9
end Go.Proofs.YtkcdbcbpbolgkaaGreatDoor
namespace Go.Proofs.YtkcdbcbpbolgkaaGreatDoor
open Go.Abs
set_option linter.unusedSimpArgs false
set_option linter.unusedVariables false
noncomputable section
set_option maxRecDepth 100000
set_option linter.defProp false
def d235 := cut Tryz.prog Tryz.f235 news
@[go_sem] def E235 := qm d235
def F235 := fnC d235 follows Tryz.func235
def xii := cut Tryz.prog Tryz.f234 news [5] [2] true
@[go_sem] def xk1 := qm xii
def xf4 := fnC xii follows Tryz.func234
def d308 := cut Tryz.prog Tryz.f308 news
@[go_sem] def E308 := qm d308
def d256 := cut Tryz.prog Tryz.f256 news
@[go_sem] def E256 := qm d256
def d193 := cut Tryz.prog Tryz.f193 news
@[go_sem] def E193 := qm d193
end
def q06 (h : Nat) (s : List UInt8) (i : { i : Nat // i ≤ s.length }) : St :=
 ⟨[(1, true, .d (.sl 1 (qa s))), (5, true, .d (.int .u64 (fnv h (s.take i.val) : Nat))), (6, true, .d (.int .i64 (i.val : Nat)))], [], [], 1⟩
theorem qsn (h : Nat) (s : List UInt8) (hh : h < 18446744073709551616) (hl : s.length ≤ 1000000000) : qg Tryz.prog 235 [.d (.int .u64 h), .d (.sl 1 (qa s))] [] (.d (.int .u64 (fnv h s : Nat))) [] := by
 refine F235.go ?_
 try (refine ev ?_; try exact True.intro)
 refine qk (q06 h s) (fun i => s.length - i.val) ⟨0, Nat.zero_le _⟩ ?_ (fun i => ?_)
 ·try (refine ev4 @q06.eq_1 @List.take_zero.{0} @qr4 @Int.ofNat_zero ?_; try exact True.intro)
 obtain ⟨i, hi⟩ := i
 try (refine ev1 @q06.eq_1 ?_; try exact True.intro)
 (repeat (with_reducible refine ob ?_)); refine xk _ (fun h => ?_) (fun h => ?_)
 ·have hil : i < s.length := by simpa using h
  try (refine ev1 (xl s hil) ?_; try exact True.intro)
  (repeat (with_reducible refine ob ?_))
  try simp only [qr5 _ _ (qib hh (s.take i)) (qas s[i]), go_sem, Nat.reduceAdd, Nat.reduceMul, Nat.reduceSub, Nat.reduceEqDiff, Nat.reduceLT, Nat.reduceLeDiff, Nat.reduceBEq, reduceIte, reduceCtorEq, Int.reduceAdd, Int.reduceLT, Int.reduceLE, Int.reduceGT, Int.reduceGE, Int.reduceEq, Int.reduceNe, Int.reduceBEq, Int.reduceBNe, Int.reduceToNat, Int.reduceNeg]
  refine ⟨⟨i + 1, hil⟩, ?_, by dsimp only; omega⟩
  try (refine ev4 @q06.eq_1 (qd (show i < 9223372036854775807 by omega)) (List.take_succ_eq_append_getElem hil) @qlh ?_; try exact True.intro)
 ·have hie : i = s.length := by simp at h; omega
  subst hie
  try (refine ev1 @List.take_length.{0} ?_; try exact True.intro)
theorem q8e (h : Nat) : ∀ {k : Nat}, k < 8 → ((List.replicate (8 - k) 0 ++ (be8 h).drop (8 - k)).map k7).set (7 - k) (D.int .u8 ((UInt8.ofNat (h / 256 ^ k)).toNat : Int)) = (List.replicate (8 - (k + 1)) 0 ++ (be8 h).drop (8 - (k + 1))).map k7
 | 0, _ => rfl
 | 1, _ => rfl
 | 2, _ => rfl
 | 3, _ => rfl
 | 4, _ => rfl
 | 5, _ => rfl
 | 6, _ => rfl
 | 7, _ => rfl
def q07 (h : Nat) (k : { k : Nat // k ≤ 8 }) : St :=
 ⟨[(0, true, .d (.int .u64 (h / 256 ^ k.val : Nat))), (3, true, .d (.ref 0 0 1 8)), (4, true, .d (.int .i64 (7 - (k.val : Int))))], [.row (((List.replicate (8 - k.val) 0 ++ (be8 h).drop (8 - k.val)).map k7).map .d)], [], 1⟩
theorem qv6 (h : Nat) (hh : h < 18446744073709551616) : qg Tryz.prog 234 [.d (.int .u64 h)] [] (.d (.sl 1 (qa (be8 h)))) [] := by
 refine xf4.go ?_
 try (refine ev ?_; try exact True.intro)
 refine ⟨by decide, ?_⟩
 refine qkk (.fr 3) 32 1 (List.replicate 8 [D.int .u8 0]) ?_
 refine pu ?_
 try (refine ev ?_; try exact True.intro)
 refine qk (q07 h) (fun k => 8 - k.val) ⟨0, by simp⟩ ?_ (fun k => ?_)
 ·try (refine ev8 @q07.eq_1 @Nat.pow_zero @Nat.div_one @Nat.sub_zero @Int.ofNat_zero @Int.sub_zero @be8.eq_1 @k7.eq_1 ?_; try exact True.intro)
  rfl
 obtain ⟨k, hk⟩ := k
 try (refine ev1 @q07.eq_1 ?_; try exact True.intro)
 refine xk _ (fun hc => ?_) (fun hc => ?_)
 ·have hkl : k < 8 := by simp at hc; omega
  have e1 : (7 - (k : Int)).toNat = 7 - k := by omega
  have e2 : IntKind.u8.wrap (((h / 256 ^ k : Nat) : Int).tmod 256) = ((UInt8.ofNat (h / 256 ^ k)).toNat : Int) := by
   generalize h / 256 ^ k = x
   rw [Int.tmod_eq_emod_of_nonneg (by omega), qfc, UInt8.toNat_ofNat']
   omega
  have e3 : IntKind.u64.wrap (((h / 256 ^ k : Nat) : Int).tdiv 256) = ((h / 256 ^ (k + 1) : Nat) : Int) := by
   have h1 : h / 256 ^ k ≤ h := Nat.div_le_self _ _
   have h2 : h / 256 ^ (k + 1) = h / 256 ^ k / 256 := by rw [Nat.pow_succ, Nat.div_div_eq_div_mul]
   rw [h2]
   generalize h / 256 ^ k = x at h1
   rw [Int.tdiv_eq_ediv_of_nonneg (by omega), show ((x : Int) / 256) = ((x / 256 : Nat) : Int) by omega, f2 _ (by omega)]
  have e4 : IntKind.i64.wrap (7 - (k : Int) - 1) = 7 - ((k + 1 : Nat) : Int) := by rw [xi (by unfold I64; omega)]; omega
  try (refine ev6 @Nat.mul_one @e1 @e2 @e3 @qd8 (q8e h hkl) ?_; try exact True.intro)
  refine ⟨by omega, by simp only [List.length_replicate, List.length_drop, jz]; omega, ⟨k + 1, hkl⟩, ?_, by dsimp only; omega⟩
  try (refine ev2 @q07.eq_1 @e4 ?_; try exact True.intro)
 ·have : k = 8 := by simp at hc; omega
  subst this
  try (refine ev ?_; try exact True.intro)
  refine qfb 0 1 (qa (be8 h)) ?_ (hc := ?_) (hcc := ?_) (hes := ?_) (hok := D.okWR_noPtr (zr _))
  ·refine pu ?_
   try (refine ev1 @jz ?_; try exact True.intro)
  ·try (refine ev ?_; try exact True.intro)
   rw [qb1]
  ·try (refine ev ?_; try exact True.intro)
  ·intro r hr
   obtain ⟨x, _, rfl⟩ := List.mem_map.1 hr
   rfl
end Go.Proofs.YtkcdbcbpbolgkaaGreatDoor
namespace Go.Proofs.YtkcdbcbpbolgkaaGreatDoor
open Go.Abs
set_option linter.unusedSimpArgs false
set_option linter.unusedVariables false
noncomputable section
set_option maxRecDepth 100000
set_option linter.defProp false
def d105 := cut Tryz.prog Tryz.f105 news
@[go_sem] def E105 := qm d105
end
end Go.Proofs.YtkcdbcbpbolgkaaGreatDoor
namespace Go.Proofs.YtkcdbcbpbolgkaaGreatDoor
open Go.Abs
set_option linter.unusedSimpArgs false
set_option linter.unusedVariables false
def eRun : List En → List (List OpS) → Option (List En)
 | m, [] => some m
 | m, t :: ts => if (vk m t).2 = false then none else eRun (vk m t).1 ts
def qcv (ts : List (List OpS)) : List UInt8 := xu (ts.map wOps)
structure Bk (s : Sto) (ts : List (List OpS)) : Prop where
 file : s.file = qcv ts
 enc : ∀ t ∈ ts, (qo t).2 = 0
 run : eRun [] ts = some (ji s.m)
end Go.Proofs.YtkcdbcbpbolgkaaGreatDoor
namespace Go.Proofs.YtkcdbcbpbolgkaaGreatDoor
open Go.Abs
set_option linter.unusedSimpArgs false
set_option linter.unusedVariables false
end Go.Proofs.YtkcdbcbpbolgkaaGreatDoor
namespace Go.Proofs.YtkcdbcbpbolgkaaGreatDoor
open Go.Abs
set_option linter.unusedSimpArgs false
set_option linter.unusedVariables false
noncomputable section
set_option maxRecDepth 100000
set_option linter.defProp false
def d63r := cut Tryz.prog Tryz.f63 news [30, 1000030, 41, 1000041] [8, 14, 16]
@[go_sem] def E63r := qm d63r
def d129 := cut Tryz.prog Tryz.f129 news
@[go_sem] def E129 := qm d129
end
structure CIs (i : Nat) (x : List UInt8 × List OpS) : Prop where
 file : x.1.length ≤ i * 70000
 ops : x.2 = [] ∨ (qo x.2).2 = 0
theorem CIs.few {i : Nat} {x : List UInt8 × List OpS} (h : CIs i x) : x.2.length ≤ 20 := by
 rcases h.ops with h | h
 ·rw [h]; simp
 ·exact (ku h).1
end Go.Proofs.YtkcdbcbpbolgkaaGreatDoor
namespace Go.Proofs.YtkcdbcbpbolgkaaGreatDoor
open Go.Abs
set_option linter.unusedSimpArgs false
set_option linter.unusedVariables false
structure CTx (x : List UInt8 × List OpS) (ts : List (List OpS)) (ops : List OpS) : Prop where
 file : x.1 = qcv ts
 enc : ∀ t ∈ ts, (qo t).2 = 0
 now : x.2 = [] ∨ (qo x.2).2 = 0
 all : ts.flatten ++ x.2 = ops
theorem qfs : ∀ (n : Nat) (r : List UInt8), r.length ≤ n → (partsOf r).length = (r.length - 1) / 22 + 1
 | n, r, hn => by
  by_cases h : r.length > 22
  ·rw [vi h]
   cases n with
   | zero => omega
   | succ n =>
    have := qfs n (r.drop 22) (by rw [List.length_drop]; omega)
    rw [List.length_drop] at this
    rw [List.length_cons, this]
    omega
  ·rw [vj h]
   simp only [List.length_singleton]
   omega
end Go.Proofs.YtkcdbcbpbolgkaaGreatDoor
namespace Go.Proofs.YtkcdbcbpbolgkaaGreatDoor
open Go.Abs
set_option linter.unusedSimpArgs false
set_option linter.unusedVariables false
def hAll (f : List UInt8) : Nat → Nat
 | 0 => q32
 | k + 1 => fnv (hAll f k) (qt f (32 * k))
theorem qza (f : List UInt8) : ∀ k, hAll f k < 18446744073709551616
 | 0 => by show q32 < _; decide
 | k + 1 => qib (qza f k) _
theorem q1c (f g : List UInt8) : ∀ k, 32 * k ≤ f.length → hAll (f ++ g) k = hAll f k
 | 0, _ => rfl
 | k + 1, h => by
  have e : qt (f ++ g) (32 * k) = qt f (32 * k) := by
   unfold qt
   rw [List.drop_append_of_le_length (by omega), List.take_append_of_le_length (by rw [List.length_drop]; omega)]
  rw [hAll, hAll, q1c f g k (by omega), e]
def Chain (f : List UInt8) (h : Nat) : Prop := ∃ n, f.length = 32 * n ∧ hAll f n = h
theorem Chain.lt {f : List UInt8} {h : Nat} (hc : Chain f h) : h < 18446744073709551616 := by
 obtain ⟨n, _, h2⟩ := hc
 rw [← h2]; exact qza f n
theorem q4f {f : List UInt8} {h : Nat} (hc : Chain f h) {p : Nat × List UInt8} (hp : p.2.length ≤ 22) : Chain (f ++ (xq p ++ be8 (fnv h (xq p)))) (fnv h (xq p)) := by
 obtain ⟨n, h1, h2⟩ := hc
 have hl := wt hp
 refine ⟨n + 1, by simp only [List.length_append, jz]; omega, ?_⟩
 have e : qt (f ++ (xq p ++ be8 (fnv h (xq p)))) (32 * n) = xq p := by
  unfold qt
  rw [← h1, List.drop_left, ← hl, List.take_left]
 rw [hAll, q1c _ _ n (by omega), h2, e]
theorem qhb : ∀ (l : List (Nat × List UInt8)) {f : List UInt8} {h : Nat}, Chain f h → (∀ p ∈ l, p.2.length ≤ 22) → Chain (f ++ zp h l) (qcz h l)
 | [], f, h, hc, _ => by simpa [zp, qcz] using hc
 | p :: l, f, h, hc, hl => by
  have := qhb l (q4f hc (hl p (by simp))) (fun q hq => hl q (by simp [hq]))
  rw [zp, qcz]
  rwa [List.append_assoc] at this
theorem qwf : Chain [] (vl []) := ⟨0, rfl, rfl⟩
theorem qqm (p : Nat × List UInt8) : ∀ (l : List (Nat × List UInt8)) (h : Nat), zp h (l ++ [p]) = zp h l ++ (xq p ++ be8 (fnv (qcz h l) (xq p)))
 | [], h => by simp [zp, qcz]
 | q :: l, h => by simp only [List.cons_append, zp, qcz, qqm p l, List.append_assoc]
theorem qwg : ∀ (n : Nat) (r : List UInt8), r.length ≤ n → ∀ (i : Nat) (h : i < (partsOf r).length), (partsOf r)[i] = if i + 1 = (partsOf r).length then (2, r.drop (22 * i)) else (1, (r.drop (22 * i)).take 22)
 | n, r, hn, i, h => by
  by_cases h22 : r.length > 22
  ·have e := vi h22
   cases n with
   | zero => omega
   | succ n =>
    have hl : (partsOf r).length = (partsOf (r.drop 22)).length + 1 := by rw [e]; rfl
    cases i with
    | zero =>
     have := qsi (r.drop 22)
     have h0 : 0 < (partsOf (r.drop 22)).length := List.length_pos_iff.2 this
     rw [if_neg (by omega)]
     simp only [e, List.getElem_cons_zero, Nat.mul_zero, List.drop_zero]
    | succ i =>
     have ih := qwg n (r.drop 22) (by rw [List.length_drop]; omega) i (by omega)
     simp only [e, List.getElem_cons_succ, ih, List.length_cons, Nat.add_right_cancel_iff, List.drop_drop]
     rw [show 22 + 22 * i = 22 * (i + 1) by omega]
  ·have e := vj h22
   have hl : (partsOf r).length = 1 := by rw [e]; rfl
   have hi : i = 0 := by omega
   subst hi
   rw [if_pos (by omega)]
   simp only [e, List.getElem_cons_zero, Nat.mul_zero, List.drop_zero]
end Go.Proofs.YtkcdbcbpbolgkaaGreatDoor
namespace Go.Proofs.YtkcdbcbpbolgkaaGreatDoor
open Go.Abs
set_option linter.unusedSimpArgs false
set_option linter.unusedVariables false
noncomputable section
set_option maxRecDepth 100000
set_option linter.defProp false
def d168 := cut Tryz.prog Tryz.f168 news
@[go_sem] def E168 := qm d168
def F168 := fnC d168 follows Tryz.func168
def d170 := cut Tryz.prog Tryz.f170 news
@[go_sem] def E170 := qm d170
def F170 := fnC d170 follows Tryz.func170
def d169 := cut Tryz.prog Tryz.f169 news
@[go_sem] def E169 := qm d169
def F169 := fnC d169 follows Tryz.func169
def d91 := cut Tryz.prog Tryz.f91 news
@[go_sem] def E91 := qm d91
def F91 := fnC d91 follows Tryz.func91
end
theorem q8g (r : List UInt8) (hr : r.length ≤ 2000) : qg Tryz.prog 168 [.d (.sl 1 (qa r))] [] (.d (.int .i64 ((partsOf r).length : Nat))) [] := by
 have hn := qfs _ r (Nat.le_refl _)
 obtain ⟨q, hq⟩ : ∃ q, q = (r.length + 21) / 22 := ⟨_, rfl⟩
 have w1 : IntKind.i64.wrap ((r.length : Int) + 22) = (r.length : Int) + 22 := by rw [xi (by unfold I64; omega)]
 have w2 : IntKind.i64.wrap ((r.length : Int) + 22 - 1) = (r.length : Int) + 21 := by rw [xi (by unfold I64; omega)]; omega
 have w3 : ((r.length : Int) + 21).tdiv 22 = (q : Nat) := by rw [Int.tdiv_eq_ediv_of_nonneg (by omega)]; omega
 have w4 : IntKind.i64.wrap (q : Nat) = (q : Nat) := xi (by unfold I64; omega)
 refine F168.go ?_
 try (refine ev4 @w1 @w2 @w3 @w4 ?_; try exact True.intro)
 refine xk _ (fun hc => ?_) (fun hc => ?_)
 ·have e : (partsOf r).length = 1 := by simp at hc; omega
  try (refine ev1 @e ?_; try exact True.intro)
 ·have e : (partsOf r).length = q := by simp at hc; omega
  try (refine ev1 @e ?_; try exact True.intro)
def q1d (f : List UInt8) (k : Nat) : St :=
 ⟨[(0, true, .d (.sl 1 (qa f))), (3, true, .d (.int .u64 (hAll f k : Nat))), (4, true, .d (.int .i64 (32 * k : Nat)))], [], [], 1⟩
theorem xc4 (f : List UInt8) {h : Nat} (hc : Chain f h) (hf : f.length ≤ 200000000) : qg Tryz.prog 170 [.d (.sl 1 (qa f))] [] (.d (.int .u64 (h : Nat))) [] := by
 obtain ⟨n, h1, rfl⟩ := hc
 refine F170.go ?_
 try (refine ev ?_; try exact True.intro)
 refine qk (fun k : { k : Nat // k ≤ n } => q1d f k.val) (fun k => n - k.val) ⟨0, Nat.zero_le _⟩ ?_ (fun k => ?_)
 ·try simp only [q1d, hAll, q32, Nat.mul_zero, Int.ofNat_zero, go_sem, Nat.reduceAdd, Nat.reduceMul, Nat.reduceSub, Nat.reduceEqDiff, Nat.reduceLT, Nat.reduceLeDiff, Nat.reduceBEq, reduceIte, reduceCtorEq, Int.reduceAdd, Int.reduceLT, Int.reduceLE, Int.reduceGT, Int.reduceGE, Int.reduceEq, Int.reduceNe, Int.reduceBEq, Int.reduceBNe, Int.reduceToNat, Int.reduceNeg]
 obtain ⟨k, hk⟩ := k
 try (refine ev1 @q1d.eq_1 ?_; try exact True.intro)
 obtain ⟨p, hp⟩ : ∃ p, p = 32 * k := ⟨_, rfl⟩
 have hp1 : 32 * (k + 1) = p + 32 := by omega
 rw [← hp]
 have w1 : IntKind.i64.wrap ((p : Int) + 32) = (p : Int) + 32 := by rw [xi (by unfold I64; omega)]
 have w2 : IntKind.i64.wrap ((p : Int) + 2) = (p : Int) + 2 := by rw [xi (by unfold I64; omega)]
 have w3 : IntKind.i64.wrap ((p : Int) + 2 + 22) = (p : Int) + 24 := by rw [xi (by unfold I64; omega)]; omega
 try (refine ev1 @w1 ?_; try exact True.intro)
 refine xk _ (fun hc => ?_) (fun hc => ?_)
 ·have hkn : k < n := by simp at hc; omega
  have e1 : ((p : Int) + 24).toNat - p = 24 := by omega
  have e2 : ((qa f).drop p).take 24 = qa (qt f p) := by rw [x8, xm, qt]
  try (refine ev4 @w2 @w3 @e1 @e2 ?_; try exact True.intro)
  refine ⟨by omega, ?_⟩
  (repeat (with_reducible refine ob ?_)); refine cl F235 (qsn (hAll f k) (qt f p) (qza f k) (by rw [qt, List.length_take]; omega)) ?_
  try (refine ev ?_; try exact True.intro)
  refine ⟨⟨k + 1, hkn⟩, ?_, by dsimp only; omega⟩
  try simp only [q1d, w1, hAll, hp1, ← hp, go_sem, Nat.reduceAdd, Nat.reduceMul, Nat.reduceSub, Nat.reduceEqDiff, Nat.reduceLT, Nat.reduceLeDiff, Nat.reduceBEq, reduceIte, reduceCtorEq, Int.reduceAdd, Int.reduceLT, Int.reduceLE, Int.reduceGT, Int.reduceGE, Int.reduceEq, Int.reduceNe, Int.reduceBEq, Int.reduceBNe, Int.reduceToNat, Int.reduceNeg]
 ·have hkn : k = n := by simp at hc; omega
  subst hkn
  try (refine ev ?_; try exact True.intro)
def qiw (p : Nat × List UInt8) (j : Nat) : List UInt8 := [UInt8.ofNat p.1, UInt8.ofNat p.2.length] ++ p.2 ++ List.replicate j 0
theorem qzb (p : Nat × List UInt8) (j : Nat) : qiw p j ++ [0] = qiw p (j + 1) := by rw [qiw, List.append_assoc, ← List.replicate_succ']; rfl
def q1e (p : Nat × List UInt8) (h : Nat) (j : Nat) : St :=
 ⟨[(2, true, .d (.int .u64 (h : Nat))), (7, true, .own 0 1 (qa (qiw p j)))], [], [0], 1⟩
theorem xc5 (p : Nat × List UInt8) (h : Nat) (hp : p.1 = 1 ∨ p.1 = 2) (hl : p.2.length ≤ 22) (hh : h < 18446744073709551616) :
  qg Tryz.prog 169 [.d (.int .i64 (p.1 : Nat)), .d (.sl 1 (qa p.2)), .d (.int .u64 (h : Nat))] [] (.d (.sl 1 (qa (xq p ++ be8 (fnv h (xq p)))))) [] := by
 have u1 : IntKind.u8.wrap ((p.1 : Nat) : Int) = ((UInt8.ofNat p.1).toNat : Int) := by rw [qfc, UInt8.toNat_ofNat']; omega
 have u2 : IntKind.u8.wrap ((p.2.length : Nat) : Int) = ((UInt8.ofNat p.2.length).toNat : Int) := by rw [qfc, UInt8.toNat_ofNat']; omega
 have u3 : [[D.int .u8 ((UInt8.ofNat p.1).toNat : Int)], [D.int .u8 ((UInt8.ofNat p.2.length).toNat : Int)]] = qa [UInt8.ofNat p.1, UInt8.ofNat p.2.length] := rfl
 have u4 : UInt8.ofNat p.1 :: UInt8.ofNat p.2.length :: p.2 = qiw p 0 := by simp [qiw]
 refine F169.go ?_
 try (refine ev4 @u1 @u2 @u3 @xf ?_; try exact True.intro)
 refine ⟨by omega, ?_⟩
 refine qk (fun j : { j : Nat // j ≤ 22 - p.2.length } => q1e p h j.val) (fun j => 22 - p.2.length - j.val) ⟨0, Nat.zero_le _⟩ ?_ (fun j => ?_)
 ·try (refine ev2 @q1e.eq_1 @u4 ?_; try exact True.intro)
 obtain ⟨j, hj⟩ := j
 have hln : (qiw p j).length = 2 + p.2.length + j := by simp [qiw]; omega
 have hsu := qzb p j
 try (refine ev2 @q1e.eq_1 @hln ?_; try exact True.intro)
 refine xk _ (fun hc => ?_) (fun hc => ?_)
 ·have hjn : j < 22 - p.2.length := by simp at hc; omega
  have u5 : [[D.int .u8 0]] = qa [0] := rfl
  try (refine ev3 @u5 @xf @hsu ?_; try exact True.intro)
  refine ⟨by omega, ⟨j + 1, hjn⟩, ?_, by dsimp only; omega⟩
  try (refine ev1 @q1e.eq_1 ?_; try exact True.intro)
 ·have hjn : j = 22 - p.2.length := by simp at hc; omega
  have e : qiw p j = xq p := by rw [hjn]; rfl
  have h24 := wt hl
  rw [e]
  try (refine ev ?_; try exact True.intro)
  (repeat (with_reducible refine ob ?_)); refine cl F235 (qsn h (xq p) hh (by omega)) ?_
  try (refine ev ?_; try exact True.intro)
  (repeat (with_reducible refine ob ?_)); refine cl xf4 (qv6 (fnv h (xq p)) (qib hh _)) ?_
  try (refine ev3 @xf @jz @h24 ?_; try exact True.intro)
def q8h (file r : List UInt8) (synced : Int) (i : Nat) : St :=
 ⟨[(1, true, .d (.sl 1 (qa r))), (2, true, .d (.ptr 0 0)), (4, true, .d (.ptr 1 0)), (7, true, .d (.int .i64 ((partsOf r).length : Nat))), (6, true, .own 0 1 (qa (file ++ zp (vl file) ((partsOf r).take i)))), (8, true, .d (.int .i64 (i : Nat)))],
  [.row [.d (.sl 1 (qa file)), .d (.int .i64 synced)], .row [.d .nilsl, .d (.int .i64 0)]], [0], 1⟩
set_option maxRecDepth 10000 in
theorem qqn (file r : List UInt8) (synced : Int) (hc : Chain file (vl file)) (hf : file.length ≤ 100000000) (hr : r.length ≤ 2000) :
  qg Tryz.prog 91 [.d (.agg (we file synced)), .d (.sl 1 (qa r))] [] (.tup [.d (.agg (we (vm file r) synced)), .d (.int .i64 0)]) [] := by
 have hr0 : decide ((r.length : Int) > 2000) = false := by simp; omega
 have hn := qfs _ r (Nat.le_refl _)
 refine F91.goT ?_
 try (refine ev1 @we.eq_1 ?_; try exact True.intro)
 try (refine ev1 @hr0 ?_; try exact True.intro)
 (repeat (with_reducible refine ob ?_)); refine no_ ?_
 try (refine ev ?_; try exact True.intro)
 refine ⟨by omega, ?_⟩
 (repeat (with_reducible refine ob ?_)); refine cl F168 (q8g r hr) ?_
 try (refine ev ?_; try exact True.intro)
 refine qk (fun i : { i : Nat // i ≤ (partsOf r).length } => q8h file r synced i.val) (fun i => (partsOf r).length - i.val) ⟨0, Nat.zero_le _⟩ ?_ (fun i => ?_)
 ·try simp only [q8h, List.take_zero, zp, List.append_nil, Int.ofNat_zero, go_sem, Nat.reduceAdd, Nat.reduceMul, Nat.reduceSub, Nat.reduceEqDiff, Nat.reduceLT, Nat.reduceLeDiff, Nat.reduceBEq, reduceIte, reduceCtorEq, Int.reduceAdd, Int.reduceLT, Int.reduceLE, Int.reduceGT, Int.reduceGE, Int.reduceEq, Int.reduceNe, Int.reduceBEq, Int.reduceBNe, Int.reduceToNat, Int.reduceNeg]
 obtain ⟨i, hi⟩ := i
 try (refine ev1 @q8h.eq_1 ?_; try exact True.intro)
 refine xk _ (fun hd => ?_) (fun hd => ?_)
 ·have hil : i < (partsOf r).length := by simpa using hd
  obtain ⟨p1, p2⟩ := ko _ r (Nat.le_refl _) _ (List.getElem_mem hil)
  have hg := qwg _ r (Nat.le_refl _) i hil
  have hsn := qqm (partsOf r)[i] ((partsOf r).take i) (vl file)
  rw [← List.take_succ_eq_append_getElem hil] at hsn
  replace hsn := (congrArg (file ++ ·) hsn).trans (List.append_assoc ..).symm
  have hch := qhb ((partsOf r).take i) hc fun p hp => (ko _ r (Nat.le_refl _) p (List.mem_of_mem_take hp)).2
  have hcl : (zp (vl file) ((partsOf r).take i)).length = 32 * i := by
   rw [qga fun p hp => (ko _ r (Nat.le_refl _) p (List.mem_of_mem_take hp)).2, List.length_take]; omega
  have hfl : (file ++ zp (vl file) ((partsOf r).take i)).length = file.length + 32 * i := by rw [List.length_append, hcl]
  have hlt := hch.lt
  have hsd := xc4 _ hch (by omega)
  have hce := xc5 (partsOf r)[i] _ p1 p2 hlt
  generalize qcz (vl file) ((partsOf r).take i) = g at *
  generalize file ++ zp (vl file) ((partsOf r).take i) = fi at *
  generalize (partsOf r)[i] = pi at *
  obtain ⟨q, hq⟩ : ∃ q, q = 22 * i := ⟨_, rfl⟩
  rw [← hq] at hg
  have w1 : IntKind.i64.wrap ((i : Int) + 1) = (i : Int) + 1 := by rw [xi (by unfold I64; omega)]
  have w2 : IntKind.i64.wrap (((i : Int) + 1) * 22) = (q : Int) + 22 := by rw [xi (by unfold I64; omega)]; omega
  have w3 : IntKind.i64.wrap ((i : Int) * 22) = (q : Int) := by rw [xi (by unfold I64; omega)]; omega
  have w4 : IntKind.i64.wrap (((partsOf r).length : Int) - 1) = ((partsOf r).length : Int) - 1 := by rw [xi (by unfold I64; omega)]
  try (refine ev3 @w1 @w2 @w4 ?_; try exact True.intro)
  refine xk _ (fun he => ?_) (fun he => ?_)
  ·have hil1 : i + 1 = (partsOf r).length := by simp at he; omega
   rw [if_pos hil1] at hg
   subst hg
   have e1 : ((qa r).drop q).take (r.length - q) = qa (r.drop q) := by rw [x8, xm, List.take_of_length_le (by rw [List.length_drop]; omega)]
   have hpl : (r.drop q).length = r.length - q := List.length_drop ..
   change qg _ _ [.d (.int .i64 2), .d (.sl 1 (qa (r.drop q))), .d (.int .u64 (g : Nat))] _ _ _ at hce
   try (refine ev2 @w3 @e1 ?_; try exact True.intro)
   refine ⟨by omega, ?_⟩
   (repeat (with_reducible refine ob ?_)); refine cl F170 (hsd) ?_
   try (refine ev ?_; try exact True.intro)
   (repeat (with_reducible refine ob ?_)); refine cl F169 (hce) ?_
   try (refine ev3 @xf @jz (wt p2) ?_; try exact True.intro)
   refine ⟨by omega, ⟨i + 1, hil⟩, ?_, by dsimp only; omega⟩
   try (refine ev3 @q8h.eq_1 @hsn @w1 ?_; try exact True.intro)
  ·have hil1 : ¬ i + 1 = (partsOf r).length := by simp at he; omega
   rw [if_neg hil1] at hg
   subst hg
   have e0 : ((q : Int) + 22).toNat - q = 22 := by omega
   have e1 : ((qa r).drop q).take 22 = qa ((r.drop q).take 22) := by rw [x8, xm]
   change qg _ _ [.d (.int .i64 1), .d (.sl 1 (qa ((r.drop q).take 22))), .d (.int .u64 (g : Nat))] _ _ _ at hce
   try (refine ev3 @w3 @e0 @e1 ?_; try exact True.intro)
   refine ⟨by omega, ?_⟩
   (repeat (with_reducible refine ob ?_)); refine cl F170 (hsd) ?_
   try (refine ev ?_; try exact True.intro)
   (repeat (with_reducible refine ob ?_)); refine cl F169 (hce) ?_
   try (refine ev3 @xf @jz (wt p2) ?_; try exact True.intro)
   refine ⟨by omega, ⟨i + 1, hil⟩, ?_, by dsimp only; omega⟩
   try (refine ev3 @q8h.eq_1 @hsn @w1 ?_; try exact True.intro)
 ·have hin : i = (partsOf r).length := by simp at hd; omega
  subst hin
  have hwa := (qcg file r).symm
  try (refine ev2 @List.take_length.{0} @hwa ?_; try exact True.intro)
end Go.Proofs.YtkcdbcbpbolgkaaGreatDoor
namespace Go.Proofs.YtkcdbcbpbolgkaaGreatDoor
open Go.Abs
set_option linter.unusedSimpArgs false
set_option linter.unusedVariables false
noncomputable section
set_option maxRecDepth 100000
set_option linter.defProp false
def d167 := cut Tryz.prog Tryz.f167 news
@[go_sem] def E167 := qm d167
def F167 := fnC d167 follows Tryz.func167
def d166 := cut Tryz.prog Tryz.f166 news
@[go_sem] def E166 := qm d166
def F166 := fnC d166 follows Tryz.func166
def d90 := cut Tryz.prog Tryz.f90 news
@[go_sem] def E90 := qm d90
def F90 := fnC d90 follows Tryz.func90
end
theorem q1f (x : En) : ∀ l : List En, (eSet x l).length ≤ l.length + 1
 | [] => by simp [eSet]
 | y :: l => by
  have := q1f x l
  rw [eSet]
  split
  ·simp only [List.length_cons]; omega
  ·split <;> simp
theorem q1g (k : List UInt8) (l : List En) : (eDel k l).length ≤ l.length := List.length_filter_le _ _
theorem qzc (x : En) : ∀ (l : List En) (i : Nat) (hi : i ≤ l.length), (∀ y ∈ l.take i, Op.bytesLess y.1 x.1 = true) → (∀ h : i < l.length, Op.bytesLess l[i].1 x.1 = false) →
  eSet x l = l.take i ++ [x] ++ l.drop (if ∃ h : i < l.length, l[i].1 = x.1 then i + 1 else i)
 | [], i, hi, _, _ => by
  have : i = 0 := by simpa using hi
  subst this
  simp [eSet]
 | y :: l, 0, _, _, h2 => by
  have := h2 (by simp)
  simp only [List.getElem_cons_zero] at this
  rw [eSet, this]
  by_cases he : y.1 = x.1 <;> simp [he]
 | y :: l, i + 1, hi, h1, h2 => by
  have hy := h1 y (by simp)
  have ih := qzc x l i (by simpa using hi) (fun z hz => h1 z (by simp [hz])) (fun h => by have := h2 (by simpa using h); simpa only [List.getElem_cons_succ] using this)
  rw [eSet, if_pos hy, ih]
  simp only [List.take_succ_cons, List.cons_append, List.length_cons, Nat.add_lt_add_iff_right, List.getElem_cons_succ]
  split <;> simp
def q8i (l : List En) (x : En) (i : { i : Nat // i ≤ l.length ∧ ∀ y ∈ l.take i, Op.bytesLess y.1 x.1 = true }) : St :=
 ⟨[(0, true, .d (.sl 2 (l.map qs))), (3, true, .d (.ptr 0 0)), (5, true, .own 0 2 ((l.take i.val).map qs)), (6, true, .d (.int .i64 (i.val : Nat)))], [.row [.d (.str x.1), .d (.sl 1 (qa x.2))]], [0], 1⟩
theorem q8j (l : List En) (x : En) (hl : l.length ≤ 100000) : qg Tryz.prog 167 [.d (.sl 2 (l.map qs)), .d (.agg (qs x))] [] (.d (.sl 2 ((eSet x l).map qs))) [] := by
 refine F167.go ?_
 try (refine ev1 @qs.eq_1 ?_; try exact True.intro)
 refine qk (q8i l x) (fun i => l.length - i.val) ⟨0, Nat.zero_le _, by simp⟩ ?_ (fun i => ?_)
 ·try (refine ev4 @q8i.eq_1 @List.take_zero.{0} @List.map_nil.{0,0} @Int.ofNat_zero ?_; try exact True.intro)
 obtain ⟨i, hi, ha⟩ := i
 have w1 : IntKind.i64.wrap ((i : Int) + 1) = ((i + 1 : Nat) : Int) := qd (show i < 9223372036854775807 by omega)
 have tl : (l.take i).length ≤ i := by rw [List.length_take]; omega
 by_cases hil : i < l.length
 ·have hd : decide ((i : Int) < (l.length : Int)) = true := by simpa using hil
  try (refine ev4 @q8i.eq_1 @hd (qi qs l hil) @qs.eq_1 ?_; try exact True.intro)
  (repeat (with_reducible refine ob ?_))
  refine xk _ (fun hb => ?_) (fun hb => ?_)
  ·try (refine ev2 (qi qs l hil) @qs.eq_1 ?_; try exact True.intro)
   (repeat (with_reducible refine ob ?_))
   refine ⟨⟨i + 1, hil, fun y hy => ?_⟩, ?_, by dsimp only; omega⟩
   ·rw [List.take_succ_eq_append_getElem hil] at hy
    rcases List.mem_append.1 hy with hy | hy
    ·exact ha y hy
    ·simp only [List.mem_singleton] at hy; subst hy; exact hb
   try (refine ev4 @q8i.eq_1 (qih qs l hil) @qs.eq_1 @w1 ?_; try exact True.intro)
  ·have hx := qzc x l i hi ha (fun _ => hb)
   by_cases he : l[i].1 = x.1
   ·have he2 : (l[i].1 == x.1) = true := by simpa using he
    rw [if_pos ⟨hil, he⟩] at hx
    have hm : (eSet x l).map qs = (l.take i).map qs ++ [[D.str x.1, D.sl 1 (qa x.2)]] ++ (l.map qs).drop (i + 1) := by rw [hx]; simp [List.map_drop, qs]
    have ht : ((l.map qs).drop (i + 1)).take (l.length - (i + 1)) = (l.map qs).drop (i + 1) := List.take_of_length_le (by simp)
    have e1 : ((i : Int) + 1).toNat = i + 1 := by omega
    try (refine ev4 @hd (qi qs l hil) @qs.eq_1 @he2 ?_; try exact True.intro)
    refine ⟨by omega, by omega, ?_⟩
    (repeat (with_reducible refine ob ?_)); refine qde ?_
    try (refine ev4 @w1 @e1 @ht @hm ?_; try exact True.intro)
    refine ⟨by omega, by simp only [List.length_drop, List.length_map]; omega, ?_⟩
    rw [← hm]
    exact D.okWR_noPtr (qcq _)
   ·have he2 : (l[i].1 == x.1) = false := by simpa using he
    rw [if_neg (fun ⟨_, h⟩ => he h)] at hx
    have hm : (eSet x l).map qs = (l.take i).map qs ++ [[D.str x.1, D.sl 1 (qa x.2)]] ++ (l.map qs).drop i := by rw [hx]; simp [List.map_drop, qs]
    have ht : ((l.map qs).drop i).take (l.length - i) = (l.map qs).drop i := List.take_of_length_le (by simp)
    try (refine ev4 @hd (qi qs l hil) @qs.eq_1 @he2 ?_; try exact True.intro)
    refine ⟨by omega, by omega, ?_⟩
    (repeat (with_reducible refine ob ?_)); refine no_ ?_
    try (refine ev3 @Int.toNat_natCast @ht @hm ?_; try exact True.intro)
    refine ⟨by omega, by simp only [List.length_drop, List.length_map]; omega, ?_⟩
    rw [← hm]
    exact D.okWR_noPtr (qcq _)
 ·have hd : decide ((i : Int) < (l.length : Int)) = false := by simpa using hil
  have hx := qzc x l i hi ha (fun h => (hil h).elim)
  rw [if_neg (fun ⟨h, _⟩ => hil h)] at hx
  have hm : (eSet x l).map qs = (l.take i).map qs ++ [[D.str x.1, D.sl 1 (qa x.2)]] ++ (l.map qs).drop i := by rw [hx]; simp [List.map_drop, qs]
  have ht : ((l.map qs).drop i).take (l.length - i) = (l.map qs).drop i := List.take_of_length_le (by simp)
  have hg : (l.map qs).getD i [] = [] := by rw [List.getD_eq_getElem?_getD, List.getElem?_eq_none (by rw [List.length_map]; omega)]; rfl
  try (refine ev4 @q8i.eq_1 @hd @hg @Out.bad.eq_1 ?_; try exact True.intro)
  (repeat (with_reducible refine ob ?_))
  try (refine ev3 @hd @hg @Out.bad.eq_1 ?_; try exact True.intro)
  (repeat (with_reducible refine ob ?_)); refine no_ ?_
  try (refine ev3 @hd @hg @Out.bad.eq_1 ?_; try exact True.intro)
  refine ⟨by omega, ?_⟩
  (repeat (with_reducible refine ob ?_)); refine no_ ?_
  try (refine ev3 @Int.toNat_natCast @ht @hm ?_; try exact True.intro)
  refine ⟨by omega, by simp only [List.length_drop, List.length_map]; omega, ?_⟩
  rw [← hm]
  exact D.okWR_noPtr (qcq _)
def q8k (l : List En) (k : List UInt8) (i : { i : Nat // i ≤ l.length }) : St :=
 ⟨[(0, true, .d (.sl 2 (l.map qs))), (1, true, .d (.str k)), (5, true, .own 0 2 ((eDel k (l.take i.val)).map qs)), (6, true, .d (.int .i64 (i.val : Nat)))], [], [0], 1⟩
theorem qwh (k : List UInt8) (l : List En) {i : Nat} (h : i < l.length) : eDel k (l.take (i + 1)) = if l[i].1 = k then eDel k (l.take i) else eDel k (l.take i) ++ [l[i]] := by
 rw [List.take_succ_eq_append_getElem h, eDel, List.filter_append]
 split
 ·rename_i he; simp [eDel, he]
 ·rename_i he; simp [eDel, he]
theorem qqo (l : List En) (k : List UInt8) (hl : l.length ≤ 100000) : qg Tryz.prog 166 [.d (.sl 2 (l.map qs)), .d (.str k)] [] (.d (.sl 2 ((eDel k l).map qs))) [] := by
 refine F166.go ?_
 try (refine ev ?_; try exact True.intro)
 refine qk (q8k l k) (fun i => l.length - i.val) ⟨0, Nat.zero_le _⟩ ?_ (fun i => ?_)
 ·try (refine ev6 @q8k.eq_1 @List.take_zero.{0} @eDel.eq_1 @List.filter_nil.{0} @List.map_nil.{0,0} @Int.ofNat_zero ?_; try exact True.intro)
 obtain ⟨i, hi⟩ := i
 have hdl := q1g k (l.take i)
 rw [List.length_take] at hdl
 try (refine ev1 @q8k.eq_1 ?_; try exact True.intro)
 (repeat (with_reducible refine ob ?_)); refine xk _ (fun h => ?_) (fun h => ?_)
 ·have hil : i < l.length := by simpa using h
  try (refine ev2 (qi qs l hil) @qs.eq_1 ?_; try exact True.intro)
  (repeat (with_reducible refine ob ?_))
  refine xk _ (fun hk => ?_) (fun hk => ?_)
  ·have hx : eDel k (l.take (i + 1)) = eDel k (l.take i) ++ [l[i]] := by rw [qwh k l hil, if_neg (by simpa using hk)]
   try (refine ev2 (qi qs l hil) @qs.eq_1 ?_; try exact True.intro)
   (repeat (with_reducible refine ob ?_))
   refine ⟨⟨i + 1, hil⟩, ?_, by dsimp only; omega⟩
   try (refine ev7 @q8k.eq_1 @hx @List.map_append.{0,0} @List.map_cons.{0,0} @List.map_nil.{0,0} @qs.eq_1 (qd (show i < 9223372036854775807 by omega)) ?_; try exact True.intro)
  ·have hx : eDel k (l.take (i + 1)) = eDel k (l.take i) := by rw [qwh k l hil, if_pos (by simpa using hk)]
   try (refine ev ?_; try exact True.intro)
   refine ⟨⟨i + 1, hil⟩, ?_, by dsimp only; omega⟩
   try (refine ev3 @q8k.eq_1 @hx (qd (show i < 9223372036854775807 by omega)) ?_; try exact True.intro)
 ·have hil : i = l.length := by
   have : l.length ≤ i := by simpa using h
   omega
  subst hil
  try (refine ev1 @List.take_length.{0} ?_; try exact True.intro)
def qn2 (l : List En) (ops : List OpS) (n : Nat) (i : Nat) (m : List En) : St :=
 ⟨[(0, true, .d (.sl 2 (m.map qs))), (1, true, .d (.sl 3 (ops.map qh))), (6, true, .d (.int .i64 (i : Nat)))], [], [], 1⟩
theorem qix (l : List En) (ops : List OpS) (hl : l.length ≤ 400) (ho : ops.length ≤ 100000) (hv : ∀ o ∈ ops, o.val.length ≤ 1000000) :
  qg Tryz.prog 90 [.d (.sl 2 (l.map qs)), .d (.sl 3 (ops.map qh))] [] (.tup [.d (.sl 2 ((vk l ops).1.map qs)), .d (.bool (vk l ops).2)]) [] := by
 refine F90.goT ?_
 try (refine ev ?_; try exact True.intro)
 refine qk (fun x : { x : Nat × List En // x.1 ≤ ops.length ∧ x.2.length ≤ 400 ∧ vk x.2 (ops.drop x.1) = vk l ops } => qn2 l ops 0 x.val.1 x.val.2) (fun x => ops.length - x.val.1) ⟨(0, l), Nat.zero_le _, hl, rfl⟩ ?_ (fun x => ?_)
 ·try (refine ev2 @qn2.eq_1 @Int.ofNat_zero ?_; try exact True.intro)
 obtain ⟨⟨i, m⟩, hi, hm, hx⟩ := x
 simp only at hi hm hx
 try (refine ev1 @qn2.eq_1 ?_; try exact True.intro)
 refine xk _ (fun hc => ?_) (fun hc => ?_)
 ·have hil : i < ops.length := by simpa using hc
  rw [List.drop_eq_getElem_cons hil, vk] at hx
  have hvi := hv _ (List.getElem_mem hil)
  try (refine ev2 (qi qh ops hil) @qh.eq_1 ?_; try exact True.intro)
  (repeat (with_reducible refine ob ?_))
  refine xk _ (fun hd => ?_) (fun hd => ?_)
  ·have ho : eOp m ops[i] = eDel ops[i].key m := by rw [eOp, if_pos hd]
   have hle := q1g ops[i].key m
   try (refine ev2 (qi qh ops hil) @qh.eq_1 ?_; try exact True.intro)
   (repeat (with_reducible refine ob ?_))
   (repeat (with_reducible refine ob ?_)); first | refine cl F166 (qqo m ops[i].key (by omega)) ?_ | refine clF F166 (qqo m ops[i].key (by omega)) (fun _ => by (refine ev3 @qh.eq_1 @qs.eq_1 @xn.eq_1 ?_; try exact True.intro)) ?_
   rw [← ho] at hle ⊢
   generalize eOp m ops[i] = m' at hle hx
   try (refine ev ?_; try exact True.intro)
   refine xk _ (fun h4 => ?_) (fun h4 => ?_)
   ·rw [if_pos (by simp at h4; omega)] at hx
    try (refine ev1 hx.symm ?_; try exact True.intro)
   ·have h4' : m'.length ≤ 400 := by simp at h4; omega
    rw [if_neg (by omega)] at hx
    try (refine ev ?_; try exact True.intro)
    refine ⟨⟨(i + 1, m'), hil, h4', hx⟩, ?_, by dsimp only; omega⟩
    try (refine ev2 @qn2.eq_1 (qd (show i < 9223372036854775807 by omega)) ?_; try exact True.intro)
  ·have ho : eOp m ops[i] = eSet (ops[i].key, ops[i].val) m := by rw [eOp, if_neg (by simp [hd])]
   have hle := q1f (ops[i].key, ops[i].val) m
   try (refine ev2 (qi qh ops hil) @qh.eq_1 ?_; try exact True.intro)
   (repeat (with_reducible refine ob ?_))
   (repeat (with_reducible refine ob ?_)); first | refine cl F167 (q8j m (ops[i].key, ops[i].val) (by omega)) ?_ | refine clF F167 (q8j m (ops[i].key, ops[i].val) (by omega)) (fun _ => by (refine ev3 @qh.eq_1 @qs.eq_1 @xn.eq_1 ?_; try exact True.intro)) ?_
   rw [← ho] at hle ⊢
   generalize eOp m ops[i] = m' at hle hx
   try (refine ev ?_; try exact True.intro)
   refine xk _ (fun h4 => ?_) (fun h4 => ?_)
   ·rw [if_pos (by simp at h4; omega)] at hx
    try (refine ev1 hx.symm ?_; try exact True.intro)
   ·have h4' : m'.length ≤ 400 := by simp at h4; omega
    rw [if_neg (by omega)] at hx
    try (refine ev ?_; try exact True.intro)
    refine ⟨⟨(i + 1, m'), hil, h4', hx⟩, ?_, by dsimp only; omega⟩
    try (refine ev2 @qn2.eq_1 (qd (show i < 9223372036854775807 by omega)) ?_; try exact True.intro)
 ·have hie : i = ops.length := by
   have : ops.length ≤ i := by simpa using hc
   omega
  subst hie
  rw [List.drop_length, vk] at hx
  try (refine ev1 hx.symm ?_; try exact True.intro)
end Go.Proofs.YtkcdbcbpbolgkaaGreatDoor
namespace Go.Proofs.YtkcdbcbpbolgkaaGreatDoor
open Go.Abs
set_option linter.unusedSimpArgs false
set_option linter.unusedVariables false
noncomputable section
set_option maxRecDepth 100000
set_option linter.defProp false
def d108 := cut Tryz.prog Tryz.f108 news
@[go_sem] def E108 := qm d108
end
def qev (file : List UInt8) (synced : Int) (m : List En) : List D := [.sl 1 (qa file), .int .i64 synced, .sl 2 (m.map qs)]
theorem qzd (file : List UInt8) (synced : Int) (m : List En) : D.noPtrL (qev file synced m) = true := by simp only [qev, D.noPtrL, D.noPtr, zr, qcq, Bool.and_self]
attribute [go_sem] qzd
end Go.Proofs.YtkcdbcbpbolgkaaGreatDoor
namespace Go.Proofs.YtkcdbcbpbolgkaaGreatDoor
open Go.Abs
set_option linter.unusedSimpArgs false
set_option linter.unusedVariables false
noncomputable section
set_option maxRecDepth 100000
set_option linter.defProp false
def d122 := cut Tryz.prog Tryz.f122 news
@[go_sem] def E122 := qm d122
def d196 := cut Tryz.prog Tryz.f196 news
@[go_sem] def E196 := qm d196
def d95 := cut Tryz.prog Tryz.f95 news
@[go_sem] def E95 := qm d95
def F95 := fnC d95 follows Tryz.func95
def d31 := cut Tryz.prog Tryz.f31 news
@[go_sem] def E31 := qm d31
def F31 := fnC d31 follows Tryz.func31
end
def stR (s : Sto) : List D := qev s.file s.synced (ji s.m)
theorem q4g (p : List UInt8) (l : List En) {i : Nat} (h : i < l.length) : qlb p (l.take (i + 1)) = if pre p l[i].1 = true then qlb p (l.take i) ++ [l[i]] else qlb p (l.take i) := by
 rw [List.take_succ_eq_append_getElem h, qlb, List.filter_append, qlb]
 by_cases hp : pre p l[i].1 = true <;> simp [hp]
def qwi (f : List UInt8) (y : Int) (m : List En) (p : List UInt8) (i : Nat) : St :=
 ⟨[(1, true, .d (.str p)), (2, true, .d (.ptr 0 0)), (5, true, .own 0 2 ((qlb p (m.take i)).map qs)), (6, true, .d (.int .i64 (i : Nat)))], [.row [.d (.sl 1 (qa f)), .d (.int .i64 y), .d (.sl 2 (m.map qs))]], [0], 1⟩
theorem q8m (f : List UInt8) (y : Int) (m : List En) (p : List UInt8) (hm : m.length ≤ 1000000) (hp : p.length ≤ 1000000) (hk : ∀ e ∈ m, e.1.length ≤ 1000000) :
  qg Tryz.prog 95 [.d (.agg (qev f y m)), .d (.str p)] [] (.d (.sl 2 ((qlb p m).map qs))) [] := by
 refine F95.go ?_
 try (refine ev1 @qev.eq_1 ?_; try exact True.intro)
 refine qk (fun i : { i : Nat // i ≤ m.length } => qwi f y m p i.val) (fun i => m.length - i.val) ⟨0, Nat.zero_le _⟩ ?_ (fun i => ?_)
 ·try (refine ev6 @qwi.eq_1 @Int.ofNat_zero @List.map_nil.{0,0} @List.take_zero.{0} @qlb.eq_1 @List.filter_nil.{0} ?_; try exact True.intro)
 obtain ⟨i, hi⟩ := i
 try (refine ev1 @qwi.eq_1 ?_; try exact True.intro)
 refine xk _ (fun hc => ?_) (fun hc => ?_)
 ·have hil : i < m.length := by simpa using hc
  have hki := hk _ (List.getElem_mem hil)
  have hsn := q4g p m hil
  have hfl : (qlb p (m.take i)).length ≤ i := by
   have h1 : (qlb p (m.take i)).length ≤ (m.take i).length := List.length_filter_le _ _
   rw [List.length_take] at h1; omega
  try (refine ev2 (qi qs m hil) @qs.eq_1 ?_; try exact True.intro)
  (repeat (with_reducible refine ob ?_))
  try (refine ev ?_; try exact True.intro)
  refine xk _ (fun hd => ?_) (fun hd => ?_)
  ·have hpr : pre p m[i].1 = true := by
    simp only [Bool.and_eq_true, decide_eq_true_eq, beq_iff_eq, Nat.sub_zero] at hd
    simp only [pre, Bool.and_eq_true, decide_eq_true_eq, beq_iff_eq]
    exact ⟨by omega, hd.2⟩
   rw [if_pos hpr] at hsn
   try (refine ev2 (qi qs m hil) @qs.eq_1 ?_; try exact True.intro)
   (repeat (with_reducible refine ob ?_))
   refine ⟨⟨i + 1, hil⟩, ?_, by dsimp only; omega⟩
   try (refine ev7 @qwi.eq_1 @hsn @List.map_append.{0,0} @List.map_cons.{0,0} @List.map_nil.{0,0} @qs.eq_1 (qd (show i < 9223372036854775807 by omega)) ?_; try exact True.intro)
  ·have hpr : ¬ pre p m[i].1 = true := by
    intro h
    simp only [pre, Bool.and_eq_true, decide_eq_true_eq, beq_iff_eq] at h
    simp only [Bool.and_eq_false_iff, decide_eq_false_iff_not, beq_eq_false_iff_ne, Nat.sub_zero] at hd
    rcases hd with hd | hd
    ·exact hd (by omega)
    ·exact hd h.2
   rw [if_neg hpr] at hsn
   try (refine ev ?_; try exact True.intro)
   refine ⟨⟨i + 1, hil⟩, ?_, by dsimp only; omega⟩
   try (refine ev3 @qwi.eq_1 @hsn (qd (show i < 9223372036854775807 by omega)) ?_; try exact True.intro)
 ·have hie : i = m.length := by
   have : m.length ≤ i := by simpa using hc
   omega
  subst hie
  try (refine ev1 @List.take_length.{0} ?_; try exact True.intro)
set_option maxRecDepth 10000 in
theorem qze (s : Sto) (l : List OpS) (hs : s.m.Good) (hl : l.length ≤ 100000) (hv : ∀ o ∈ l, o.val.length ≤ 1000000) (hc : Chain s.file (vl s.file)) (hf : s.file.length ≤ 100000000) :
  qg Tryz.prog 31 [.d (.agg (stR s)), .d (.sl 3 (l.map qh))] [] (.tup [.d (.agg (stR (xh s l).1)), .d (.int .i64 (xh s l).2)]) [] := by
 obtain ⟨k1, k2⟩ := qds l hs.ok hs.few
 have hel : (ji s.m).length ≤ 400 := by rw [qei]; exact hs.few
 refine F31.goT ?_
 try (refine ev2 @stR.eq_1 @qev.eq_1 ?_; try exact True.intro)
 (repeat (with_reducible refine ob ?_)); first | refine cl F89 (qda l hl) ?_ | refine clF F89 (qda l hl) (fun _ => by (refine ev3 @qh.eq_1 @qs.eq_1 @xn.eq_1 ?_; try exact True.intro)) ?_
 try (refine ev ?_; try exact True.intro)
 refine xk _ (fun he => ?_) (fun he => ?_)
 ·have h1 : xh s l = (s, (qo l).2) := by rw [xh, if_pos (by simpa using he)]
  try (refine ev1 @h1 ?_; try exact True.intro)
 have he0 : (qo l).2 = 0 := by simpa using he
 try (refine ev ?_; try exact True.intro)
 (repeat (with_reducible refine ob ?_)); first | refine cl F90 (qix (ji s.m) l hel hl hv) ?_ | refine clF F90 (qix (ji s.m) l hel hl hv) (fun _ => by (refine ev3 @qh.eq_1 @qs.eq_1 @xn.eq_1 ?_; try exact True.intro)) ?_
 try (refine ev ?_; try exact True.intro)
 refine xk _ (fun ha => ?_) (fun ha => ?_)
 ·have h1 : xh s l = (s, 28) := by rw [xh, if_neg (by simpa using he0), if_pos (by rw [k1]; simpa using ha)]
  try (refine ev1 @h1 ?_; try exact True.intro)
 have ha1 : (jp s.m l).2 = true := by rw [k1]; simpa using ha
 have h1 : xh s l = (⟨vm s.file (qo l).1, s.synced, (jp s.m l).1⟩, 0) := by rw [xh, if_neg (by simpa using he0), if_neg (by simp [ha1])]
 have h2 := (k2 ha1).1
 try (refine ev ?_; try exact True.intro)
 (repeat (with_reducible refine ob ?_)); first | refine cl F91 (qqn s.file (qo l).1 s.synced hc hf (vn l)) ?_ | refine clF F91 (qqn s.file (qo l).1 s.synced hc hf (vn l)) (fun _ => by (refine ev3 @qh.eq_1 @qs.eq_1 @xn.eq_1 ?_; try exact True.intro)) ?_
 try (refine ev3 @h1 @we.eq_1 @h2 ?_; try exact True.intro)
end Go.Proofs.YtkcdbcbpbolgkaaGreatDoor
namespace Go.Proofs.YtkcdbcbpbolgkaaGreatDoor
open Go.Abs
set_option linter.unusedSimpArgs false
set_option linter.unusedVariables false
theorem xf8 {u : Nat} (h : u < 18446744073709551616) : I64 (unz u) := by unfold unz I64; split <;> omega
theorem qlp : I64 0 := by unfold I64; omega
theorem qwj : ∀ (k i u : Nat) (r : Rd), I64 (qin k i u r).1
 | 0, i, u, r => qlp
 | k + 1, i, u, r => by
  rw [qin]
  split
  ·exact qlp
  ·split
   ·exact xf8 (Nat.mod_lt _ (by decide))
   ·exact qwj k _ _ _
theorem xc7 (r : Rd) : I64 (rInt r).1 := qwj 10 0 0 r
theorem qwk (r : Rd) : I64 (yy r).1 := by
 unfold yy qcy
 split
 ·exact qlp
 ·split
  ·exact qlp
  ·exact xc7 r
end Go.Proofs.YtkcdbcbpbolgkaaGreatDoor
namespace Go.Proofs.YtkcdbcbpbolgkaaGreatDoor
open Go.Abs
set_option linter.unusedSimpArgs false
set_option maxRecDepth 100000
theorem qjx {α : Type} {enc : α → List D} {Q : α → Prop} : ∀ {rows : List (List D)}, (∀ r ∈ rows, ∃ x, r = enc x ∧ Q x) → ∃ l : List α, rows = l.map enc ∧ ∀ x ∈ l, Q x
 | [], _ => ⟨[], rfl, by simp⟩
 | r :: rows, h => by
  obtain ⟨x, rfl, hx⟩ := h r (by simp)
  obtain ⟨l, rfl, hl⟩ := qjx (enc := enc) (Q := Q) (rows := rows) (fun r hr => h r (by simp [hr]))
  exact ⟨x :: l, rfl, by simpa using ⟨hx, hl⟩⟩
theorem xio {n : Int} (h : (Lit.int .i64 n).wf = true) : I64 n := by
 have h1 : IntKind.i64.min = -9223372036854775808 := by decide
 have h2 : IntKind.i64.max = 9223372036854775807 := by decide
 simp only [Lit.wf, Bool.and_eq_true, decide_eq_true_eq, h1, h2] at h
 exact h
theorem xj3 {n : Int} (h : (Lit.int .u8 n).wf = true) : 0 ≤ n ∧ n ≤ 255 := by
 have h1 : IntKind.u8.min = 0 := by decide
 have h2 : IntKind.u8.max = 255 := by decide
 simp only [Lit.wf, Bool.and_eq_true, decide_eq_true_eq, h1, h2] at h
 exact h
theorem q1i {n : Nat} {ds : List D} (h : Shp Tryz.prog (n + 1) 3 ds) : ∃ x, ds = [.int .i64 x] ∧ I64 x := by
 simp only [Shp, Tryz.underlying3] at h
 obtain ⟨x, rfl, h⟩ := h
 exact ⟨x, rfl, xio h⟩
theorem xj4 {n : Nat} {ds : List D} (h : Shp Tryz.prog (n + 1) 5 ds) : ∃ x : Nat, ds = [.int .u8 (x : Nat)] ∧ x < 256 := by
 simp only [Shp, Tryz.underlying5] at h
 obtain ⟨x, rfl, h⟩ := h
 have := xj3 h
 refine ⟨x.toNat, ?_, by omega⟩
 rw [Int.toNat_of_nonneg this.1]
theorem xf9 {n : Nat} {ds : List D} (h : Shp Tryz.prog (n + 1) 5 ds) : ∃ c : UInt8, ds = [k7 c] ∧ True := by
 obtain ⟨x, rfl, hx⟩ := xj4 h
 refine ⟨UInt8.ofNat x, ?_, trivial⟩
 simp [k7, UInt8.toNat_ofNat]
 omega
theorem qwl (s : List UInt8) : s.map (fun c => [k7 c]) = qa s := by
 induction s with
 | nil => rfl
 | cons c s ih => rw [List.map_cons, ih]; rfl
theorem xc8 : Tryz.prog.cellsOf 5 = 1 := by kernel_rfl
theorem xc9 {n : Nat} {ds : List D} (h : Shp Tryz.prog (n + 2) 68 ds) : ∃ s : List UInt8, ds = [.sl 1 (qa s)] ∧ s.length ≤ maxLen := by
 rw [Shp] at h
 simp only [Tryz.underlying68] at h
 obtain ⟨r, rfl, l, h⟩ := h
 obtain ⟨s, rfl, _⟩ := qjx fun r hr => xf9 (h r hr)
 exact ⟨s, by rw [xc8, qwl], by simpa using l⟩
theorem xip {n : Nat} {ds : List D} (h : Shp Tryz.prog (n + 1) 9 ds) : ∃ s : List UInt8, ds = [.str s] ∧ s.length ≤ maxLen := by
 simp only [Shp, Tryz.underlying9] at h
 exact h
theorem xga {n : Nat} {ds : List D} (h : Shp Tryz.prog (n + 3) 71 ds) : ∃ o : OpS, ds = qh o ∧ o.key.length ≤ maxLen ∧ o.val.length ≤ maxLen := by
 rw [Shp] at h
 simp only [Tryz.underlying71, q23] at h
 obtain ⟨_, _, rfl, h1, _, _, rfl, h2, _, _, rfl, h3, rfl⟩ := h
 obtain ⟨a1, rfl, l1⟩ := xip h1
 simp only [Shp, Tryz.underlying4] at h2
 obtain ⟨a2, rfl⟩ := h2
 obtain ⟨a3, rfl, l3⟩ := xc9 h3
 exact ⟨⟨a1, a2, a3⟩, rfl, l1, l3⟩
theorem q4h : Tryz.prog.cellsOf 71 = 3 := by kernel_rfl
theorem xiq {n : Nat} {ds : List D} (h : Shp Tryz.prog (n + 4) 59 ds) : ∃ l : List OpS, ds = [.sl 3 (l.map qh)] ∧ l.length ≤ maxLen := by
 rw [Shp] at h
 simp only [Tryz.underlying59] at h
 obtain ⟨r, rfl, l, h⟩ := h
 obtain ⟨s, rfl, _⟩ := qjx fun r hr => xga (h r hr)
 exact ⟨s, by rw [q4h], by simpa using l⟩
theorem xir (l : List OpS) : argS Tryz.prog 59 [.sl 3 (l.map qh)] = .d (.sl 3 (l.map qh)) := by simp only [argS, Tryz.underlying59]; rfl
end Go.Proofs.YtkcdbcbpbolgkaaGreatDoor
