/- Texts Ud, Ue, Vh, Vq, Uf, Ws, Vt, Ug. -/
import Derived.Test.YtinnaedmdoengaaGreatMqp
import Derived.Calls
import Derived.Orders
import Derived.Tactics
import Derived.Laws.AppendOwn
import Derived.Laws.Slices
import Derived.Laws.Closers25
import Derived.Laws.StructEq
import Derived.Laws.BytesString
import Derived.Laws.CopyRow
import Derived.MapKept
import Derived.Maps.RangeRun
import Derived.TacticsIn
import Derived.OrdersIn
import Derived.RangeFuncRecord
import Derived.RangeFuncLeaves
import Derived.IntWalk
import Derived.ProofKit
import Derived.OpenShut
import Derived.Carry
import Derived.Test.YtinnaedmdoengaaGreatProg
import Derived.KernelRfl
import Derived.OwnWalkIn
import Derived.TacticsInMore
import Derived.LoopIn
import Derived.WalkKit
import Derived.Lib.Strings
import Derived.Lib.Slices
import Derived.Lib.Walk
import Derived.Lib.Bytealg
import Derived.Shelf.SlSortCmp.WholeK
import Derived.Shelf.SlSortCmp.NoneTotal

namespace Go.Proofs.YtinnaedmdoengaaGreat
open Go.Abs
set_option linter.unusedSimpArgs false
set_option linter.unusedVariables false
def qr9 : Option (List UInt8) → Option (Int × Int)
 | none => some (0, 0)
 | some b => if (rEnd (ky (ky ⟨b, 0, false⟩).2).2 != 0 || (ky ⟨b, 0, false⟩).1 == 0) = true then none else some ((ky ⟨b, 0, false⟩).1, (ky (ky ⟨b, 0, false⟩).2).1)
def vg (m : Cont) (name : List UInt8) : Nat → Nat
 | 0 => 0
 | d + 1 => vg m name d + (if (mGet (sKey name d) m).isSome then 1 else 0)
theorem qjo (m : Cont) (name : List UInt8) : ∀ d, vg m name d ≤ d
 | 0 => Nat.le_refl _
 | d + 1 => by have := qjo m name d; rw [vg]; split <;> omega
def q6w (a c : Int) : Option (List Pk) → Qu × Int
 | none => (xm, 4)
 | some l => if jx ⟨a, c, l⟩ = true then (⟨a, c, l⟩, 0) else (xm, 4)
def qeh (m : Cont) (name : List UInt8) : Qu × Int :=
 if (!qbm name) = true then (xm, 1) else
 match qr9 (mGet (nKey name) m) with
 | none => (xm, 4)
 | some (a, c) => if (decide (c < 0) || decide (a < c) || IntKind.i64.wrap (a - c) != (vg m name 4 : Nat)) = true then (xm, 4) else q6w a c (vw m name (vg m name 4) (c.toNat + 1))
noncomputable section
set_option maxRecDepth 100000
set_option linter.defProp false
def d34j := cut Tryz.prog Tryz.f34 news [] [10]
@[go_sem] def E34j := ql d34j
def F34j := fnC d34j follows Tryz.func34
end
def rsO (s : Sto) : AObj := .row [.d (.sl 1 (qd s.file)), .d (.int .i64 s.synced), .d (.sl 2 ((zm s.m).map qp))]
def SR0 (s : Sto) (name : List UInt8) (x : { x : Int × Int // I64 x.1 ∧ I64 x.2 }) : St :=
 ⟨[(1, true, .d (.str name)), (2, true, .d (.ptr 0 0)), (4, true, .d (.ptr 1 0)), (6, true, .d (.ptr 2 0))],
  [rsO s, ji, .row [.d (.int .i64 x.val.1), .d (.int .i64 x.val.2), .d .nilsl]], [], 1⟩
def SR1 (s : Sto) (name : List UInt8) (a c : Int) (d : Nat) : St :=
 ⟨[(1, true, .d (.str name)), (2, true, .d (.ptr 0 0)), (4, true, .d (.ptr 1 0)), (6, true, .d (.ptr 2 0)), (10, true, .d (.int .i64 (vg s.m name d : Nat))), (11, true, .d (.int .i64 (d : Nat)))],
  [rsO s, ji, .row [.d (.int .i64 a), .d (.int .i64 c), .d .nilsl]], [], 1⟩
def SR2 (s : Sto) (name : List UInt8) (a c : Int) (f i : Nat) (l : List Pk) : St :=
 ⟨[(1, true, .d (.str name)), (2, true, .d (.ptr 0 0)), (4, true, .d (.ptr 1 0)), (6, true, .d (.ptr 2 0)), (10, true, .d (.int .i64 (f : Nat))), (14, true, .d (.int .i64 (i : Nat)))],
  [rsO s, ji, .row [.d (.int .i64 a), .d (.int .i64 c), .own 0 9 (l.map qe)]], [0], 1⟩
set_option maxRecDepth 10000 in
theorem xa8 (s : Sto) (name : List UInt8) (hg : s.m.Good) (hn : name.length ≤ 1000) :
  qg Tryz.prog 34 [.d (.agg (stR s)), .d (.str name)] [] (.tup [.d (.agg (encQ (qeh s.m name).1)), .d (.int .i64 (qeh s.m name).2)]) [] := by
 have hm : ∀ x ∈ s.m.l, x.2.2.length ≤ 1000000 := fun x hx => by have := (hg.small x hx).2.2; omega
 have hel : (zm s.m).length ≤ 1000000 := by rw [qcu]; have := hg.few; omega
 have hG := fun k => xa7 s.file s.synced (zm s.m) k hel
 simp only [q9y hg.ok, qec] at hG
 have hk : name ++ [47, 110] = nKey name := rfl
 refine F34j.goT ?_
 try (refine ev2 @stR.eq_1 @qec.eq_1 ?_; try exact True.intro)
 (repeat (with_reducible refine ob ?_)); first | refine cl F68 (qih name) ?_ | refine clF F68 (qih name) (fun _ => by (refine ev3 @qe.eq_1 @encQ.eq_1 @qp.eq_1 ?_; try exact True.intro)) ?_
 try (refine ev ?_; try exact True.intro)
 refine xt _ (fun h => ?_) (fun h => ?_)
 ·have hb : qeh s.m name = (xm, 1) := by unfold qeh; rw [if_pos h]
  try (refine ev4 @hb @encQ.eq_1 @xm.eq_1 @List.map_nil.{0,0} ?_; try exact True.intro)
 have hb0 : (!qbm name) ≠ true := by rw [h]; simp
 try (refine ev1 @hk ?_; try exact True.intro)
 (repeat (with_reducible refine ob ?_))
 (repeat (with_reducible refine ob ?_)); first | refine cl F27 (hG (nKey name)) ?_ | refine clF F27 (hG (nKey name)) (fun _ => by (refine ev3 @qe.eq_1 @encQ.eq_1 @qp.eq_1 ?_; try exact True.intro)) ?_
 try (refine ev ?_; try exact True.intro)
 generalize hgn : mGet (nKey name) s.m = g
 have hgl : (optV g).length ≤ 1000000 := by rw [← hgn]; exact qfy s.m hm _
 have hL : qeh s.m name = (match qr9 g with
  | none => (xm, (4 : Int))
  | some (a, c) => if (decide (c < 0) || decide (a < c) || IntKind.i64.wrap (a - c) != (vg s.m name 4 : Nat)) = true then (xm, 4) else q6w a c (vw s.m name (vg s.m name 4) (c.toNat + 1))) := by
  unfold qeh
  rw [if_neg hb0, hgn]
 refine xe1 (fun x : { x : { x : Int × Int // I64 x.1 ∧ I64 x.2 } // qr9 g = some x.val } => SR0 s name x.val) ?_ ?_
 ·cases g with
  | none =>
   simp only [Option.isSome_none]
   (repeat (with_reducible refine ob ?_)); refine no_ ?_
   try (refine ev ?_; try exact True.intro)
   refine ⟨⟨⟨(0, 0), yp, yp⟩, rfl⟩, ?_⟩
   try (refine ev3 @SR0.eq_1 @rsO.eq_1 @ji.eq_1 ?_; try exact True.intro)
  | some b =>
   have hbl : b.length ≤ 1000000000 := by simp only [optV, Option.getD_some] at hgl; omega
   have r0 : (⟨b, 0, false⟩ : Rd).Ok := ⟨hbl, Nat.zero_le _⟩
   have i1 := yo ⟨b, 0, false⟩ r0
   have r1 := (vu r0).1
   have i2 := yo _ r1
   have r2 := (vu r1).1
   have i3 := qru _ r2
   have j1 := qnd ⟨b, 0, false⟩
   have j2 := qnd (ky ⟨b, 0, false⟩).2
   have hr : qr9 (some b) = if (rEnd (ky (ky ⟨b, 0, false⟩).2).2 != 0 || (ky ⟨b, 0, false⟩).1 == 0) = true then none else some ((ky ⟨b, 0, false⟩).1, (ky (ky ⟨b, 0, false⟩).2).1) := rfl
   simp only [rdO, Int.ofNat_zero] at i1 i2 i3
   simp only [Option.isSome_some, optV, Option.getD_some]
   (repeat (with_reducible refine ob ?_)); refine qb9 ?_
   try (refine ev ?_; try exact True.intro)
   (repeat (with_reducible refine ob ?_)); refine clO [3] F79 (i1) ?_ (hfit := by first | exact ⟨qc, trivial⟩ | exact ⟨qc, qc, trivial⟩ | (refine ev3 @qe.eq_1 @encQ.eq_1 @qp.eq_1 ?_; try exact True.intro))
   try (refine ev ?_; try exact True.intro)
   (repeat (with_reducible refine ob ?_)); refine clO [3] F79 (i2) ?_ (hfit := by first | exact ⟨qc, trivial⟩ | exact ⟨qc, qc, trivial⟩ | (refine ev3 @qe.eq_1 @encQ.eq_1 @qp.eq_1 ?_; try exact True.intro))
   try (refine ev ?_; try exact True.intro)
   (repeat (with_reducible refine ob ?_)); refine clO [3] F80 (i3) ?_ (hfit := by first | exact ⟨qc, trivial⟩ | exact ⟨qc, qc, trivial⟩ | (refine ev3 @qe.eq_1 @encQ.eq_1 @qp.eq_1 ?_; try exact True.intro))
   try (refine ev ?_; try exact True.intro)
   (repeat (with_reducible refine ob ?_))
   refine xt _ (fun h => ?_) (fun h => ?_)
   ·rw [if_pos h] at hr
    have hb : qeh s.m name = (xm, 4) := by rw [hL, hr]
    try (refine ev4 @hb @encQ.eq_1 @xm.eq_1 @List.map_nil.{0,0} ?_; try exact True.intro)
   ·rw [if_neg (by rw [h]; simp)] at hr
    try (refine ev ?_; try exact True.intro)
    refine ⟨⟨⟨(_, _), j1, j2⟩, hr⟩, ?_⟩
    try (refine ev3 @SR0.eq_1 @rsO.eq_1 @ji.eq_1 ?_; try exact True.intro)
 rintro ⟨⟨⟨a, c⟩, ia, ic⟩, hx⟩
 simp only at ia ic hx
 rw [hx] at hL
 simp only at hL
 refine pu ?_
 try (refine ev3 @SR0.eq_1 @rsO.eq_1 @ji.eq_1 ?_; try exact True.intro)
 refine qj (fun d : { d : Nat // d ≤ 4 } => SR1 s name a c d.val) (fun d => 4 - d.val) ⟨0, Nat.zero_le _⟩ ?_ (fun d => ?_)
 ·try simp only [SR1, rsO, ji, vg, Int.ofNat_zero, go_sem, Nat.reduceAdd, Nat.reduceMul, Nat.reduceSub, Nat.reduceEqDiff, Nat.reduceLT, Nat.reduceLeDiff, Nat.reduceBEq, reduceIte, reduceCtorEq, Int.reduceAdd, Int.reduceLT, Int.reduceLE, Int.reduceGT, Int.reduceGE, Int.reduceEq, Int.reduceNe, Int.reduceBEq, Int.reduceBNe, Int.reduceToNat, Int.reduceNeg]
 obtain ⟨d, hd⟩ := d
 try (refine ev3 @SR1.eq_1 @rsO.eq_1 @ji.eq_1 ?_; try exact True.intro)
 refine xt _ (fun h => ?_) (fun h => ?_)
 ·have hl : d < 4 := by simp at h; omega
  have hfl := qjo s.m name d
  try (refine ev ?_; try exact True.intro)
  (repeat (with_reducible refine ob ?_)); first | refine cl F71 (qjm name d hn hl) ?_ | refine clF F71 (qjm name d hn hl) (fun _ => by (refine ev3 @qe.eq_1 @encQ.eq_1 @qp.eq_1 ?_; try exact True.intro)) ?_
  try (refine ev ?_; try exact True.intro)
  (repeat (with_reducible refine ob ?_)); first | refine cl F27 (hG (sKey name d)) ?_ | refine clF F27 (hG (sKey name d)) (fun _ => by (refine ev3 @qe.eq_1 @encQ.eq_1 @qp.eq_1 ?_; try exact True.intro)) ?_
  try (refine ev ?_; try exact True.intro)
  cases hv : (mGet (sKey name d) s.m).isSome
  ·have hs : vg s.m name (d + 1) = vg s.m name d := by rw [vg, hv]; rfl
   (repeat (with_reducible refine ob ?_)); refine no_ ?_
   try (refine ev ?_; try exact True.intro)
   refine ⟨⟨d + 1, hl⟩, ?_, by dsimp only; omega⟩
   try (refine ev5 @SR1.eq_1 @rsO.eq_1 @ji.eq_1 @hs (qi (show d < 9223372036854775807 by omega)) ?_; try exact True.intro)
  ·have hs : vg s.m name (d + 1) = vg s.m name d + 1 := by rw [vg, hv]; rfl
   (repeat (with_reducible refine ob ?_)); refine qb9 ?_
   try (refine ev ?_; try exact True.intro)
   refine ⟨⟨d + 1, hl⟩, ?_, by dsimp only; omega⟩
   try (refine ev6 @SR1.eq_1 @rsO.eq_1 @ji.eq_1 @hs (qi (show d < 9223372036854775807 by omega)) (qi (show vg s.m name d < 9223372036854775807 by omega)) ?_; try exact True.intro)
 have hl : d = 4 := by simp at h; omega
 subst hl
 have hfl := qjo s.m name 4
 generalize vg s.m name 4 = w at hL hfl ⊢
 try (refine ev ?_; try exact True.intro)
 (repeat (with_reducible refine ob ?_))
 refine xt _ (fun h1 => ?_) (fun h1 => ?_)
 ·have hb : qeh s.m name = (xm, 4) := by rw [hL, if_pos h1]
  try (refine ev4 @hb @encQ.eq_1 @xm.eq_1 @List.map_nil.{0,0} ?_; try exact True.intro)
 rw [if_neg (by rw [h1]; simp)] at hL
 simp only [Bool.or_eq_false_iff, decide_eq_false_iff_not, bne_eq_false_iff_eq] at h1
 obtain ⟨⟨c0, c1⟩, c2⟩ := h1
 unfold I64 at ia ic
 rw [xk (by unfold I64; omega)] at c2
 obtain ⟨n, rfl⟩ : ∃ n : Nat, c = n := ⟨c.toNat, by omega⟩
 have ha : a = ((n + w : Nat) : Int) := by omega
 subst ha
 rw [Int.toNat_natCast] at hL
 clear h hd
 try (refine ev ?_; try exact True.intro)
 refine qj (fun x : { x : Nat × List Pk // x.1 ≤ w ∧ x.2.length = x.1 ∧ (∀ p ∈ x.2, p.W ∧ p.Sm) ∧ vw s.m name w (n + 1) = (vw s.m name (w - x.1) (n + 1 + x.1)).map (x.2 ++ ·) } => SR2 s name (n + w : Nat) n w x.val.1 x.val.2) (fun x => w - x.val.1)
  ⟨(0, []), Nat.zero_le _, rfl, fun p hp => (by cases hp), by simp⟩ ?_ (fun x => ?_)
 ·try (refine ev5 @SR2.eq_1 @rsO.eq_1 @ji.eq_1 @List.map_nil.{0,0} @Int.ofNat_zero ?_; try exact True.intro)
 obtain ⟨⟨i, l⟩, x1, x2, x3, x4⟩ := x
 simp only at x1 x2 x3 x4
 try (refine ev3 @SR2.eq_1 @rsO.eq_1 @ji.eq_1 ?_; try exact True.intro)
 refine xt _ (fun h => ?_) (fun h => ?_)
 ·have hiw : i < w := by simp at h; omega
  have e3 : w - i = (w - (i + 1)) + 1 := by omega
  have e2 : IntKind.i64.wrap (IntKind.i64.wrap ((n : Int) + 1) + (i : Int)) = ((n + 1 + i : Nat) : Int) := by rw [xk (n := (n : Int) + 1) (by unfold I64; omega), xk (by unfold I64; omega)]; omega
  have e4 : (((n + 1 + i : Nat) : Int)).tmod 4 = (((n + 1 + i) % 4 : Nat) : Int) := by rw [Int.tmod_eq_emod_of_nonneg (by omega)]; omega
  rw [e3, vw] at x4
  have hkd := q2s (optV (mGet (sKey name ((n + 1 + i) % 4)) s.m)) (by have := qfy s.m hm (sKey name ((n + 1 + i) % 4)); omega)
  obtain ⟨w1, w2⟩ := qnf (optV (mGet (sKey name ((n + 1 + i) % 4)) s.m))
  simp only [qe] at hkd
  try (refine ev2 @e2 @e4 ?_; try exact True.intro)
  (repeat (with_reducible refine ob ?_))
  (repeat (with_reducible refine ob ?_)); first | refine cl F71 (qjm name ((n + 1 + i) % 4) hn (Nat.mod_lt _ (by decide))) ?_ | refine clF F71 (qjm name ((n + 1 + i) % 4) hn (Nat.mod_lt _ (by decide))) (fun _ => by (refine ev3 @qe.eq_1 @encQ.eq_1 @qp.eq_1 ?_; try exact True.intro)) ?_
  try (refine ev ?_; try exact True.intro)
  (repeat (with_reducible refine ob ?_)); first | refine cl F27 (hG (sKey name ((n + 1 + i) % 4))) ?_ | refine clF F27 (hG (sKey name ((n + 1 + i) % 4))) (fun _ => by (refine ev3 @qe.eq_1 @encQ.eq_1 @qp.eq_1 ?_; try exact True.intro)) ?_
  try (refine ev ?_; try exact True.intro)
  (repeat (with_reducible refine ob ?_)); first | refine cl F81 (hkd) ?_ | refine clF F81 (hkd) (fun _ => by (refine ev3 @qe.eq_1 @encQ.eq_1 @qp.eq_1 ?_; try exact True.intro)) ?_
  try (refine ev ?_; try exact True.intro)
  have hat : ldAt s.m name (n + 1 + i) = kf (optV (mGet (sKey name ((n + 1 + i) % 4)) s.m)) := rfl
  rw [hat] at x4
  generalize kf (optV (mGet (sKey name ((n + 1 + i) % 4)) s.m)) = y at hkd w1 w2 x4 ⊢
  obtain ⟨p, e⟩ := y
  simp only at w1 w2 x4
  refine xt _ (fun h => ?_) (fun h => ?_)
  ·have hb : qeh s.m name = (xm, 4) := by rw [hL, x4, if_pos (by simpa using h)]; rfl
   try (refine ev4 @hb @encQ.eq_1 @xm.eq_1 @List.map_nil.{0,0} ?_; try exact True.intro)
  ·rw [if_neg (by simpa using h), Option.map_map] at x4
   try (refine ev ?_; try exact True.intro)
   (repeat (with_reducible refine ob ?_))
   refine ⟨⟨(i + 1, l ++ [p]), hiw, by simp [x2], fun q hq => ?_, ?_⟩, ?_, by dsimp only; omega⟩
   ·rcases List.mem_append.1 hq with hq | hq
    ·exact x3 q hq
    ·simp at hq; subst hq; exact ⟨w1, w2⟩
   ·rw [x4]
    congr 1
    funext z; simp
   ·try (refine ev8 @SR2.eq_1 @rsO.eq_1 @ji.eq_1 @List.map_append.{0,0} @List.map_cons.{0,0} @List.map_nil.{0,0} @qe.eq_1 (qi (show i < 9223372036854775807 by omega)) ?_; try exact True.intro)
 have hiw : i = w := by simp at h; omega
 subst hiw
 rw [Nat.sub_self, vw] at x4
 rw [x4, Option.map_some, List.append_nil] at hL
 generalize hq : (⟨((n + i : Nat) : Int), (n : Int), l⟩ : Qu) = q
 have hqe : encQ q = [.int .i64 ((n + i : Nat) : Int), .int .i64 (n : Int), .sl 9 (l.map qe)] := by rw [← hq]; rfl
 have hqs : q.Sm := by rw [← hq]; exact ⟨by simp only; omega, fun p hp => (x3 p hp).2⟩
 simp only [q6w, hq] at hL
 have kv := qdj q hqs
 rw [qjd] at kv
 simp only [hqe] at kv
 try (refine ev ?_; try exact True.intro)
 (repeat (with_reducible refine ob ?_)); first | refine cl F9 (kv) ?_ | refine clF F9 (kv) (fun _ => by (refine ev3 @qe.eq_1 @encQ.eq_1 @qp.eq_1 ?_; try exact True.intro)) ?_
 try (refine ev ?_; try exact True.intro)
 refine xt _ (fun h => ?_) (fun h => ?_)
 ·have hb : qeh s.m name = (xm, 4) := by rw [hL, if_neg (by simpa using h)]
  try (refine ev4 @hb @encQ.eq_1 @xm.eq_1 @List.map_nil.{0,0} ?_; try exact True.intro)
 ·have hb : qeh s.m name = (q, 0) := by rw [hL, if_pos (by simpa using h)]
  try (refine ev2 @hb @hqe ?_; try exact True.intro)
end Go.Proofs.YtinnaedmdoengaaGreat
namespace Go.Proofs.YtinnaedmdoengaaGreat
open Go.Abs
set_option linter.unusedSimpArgs false
set_option linter.unusedVariables false
theorem qff {α : Type} {z : α} {f : Rd → α × Rd} {d : List UInt8 → Option (α × List UInt8)} (hd : qh9 z f d) {r : Rd} (hr : r.Ok) (h : (f r).2.failed = false) :
  r.failed = false ∧ ∃ l, d (r.b.drop r.pos) = some ((f r).1, l) ∧ (f r).2 = ⟨r.b, r.b.length - l.length, false⟩ := by
 have hx := hd r hr
 by_cases hf : r.failed = true
 ·rw [if_pos hf] at hx; rw [hx] at h; simp only at h; rw [hf] at h; cases h
 ·rw [if_neg hf] at hx
  refine ⟨by simpa using hf, ?_⟩
  cases hc : d (r.b.drop r.pos) with
  | none => rw [hc] at hx; rw [hx] at h; cases h
  | some x =>
   obtain ⟨v, l⟩ := x
   rw [hc] at hx
   simp only at hx
   exact ⟨l, by rw [hx], by rw [hx]⟩
theorem qvy {r : Rd} (hr : r.Ok) : ∀ n, (yd n r).2.failed = false → r.b.drop r.pos = (yd n r).1.flatMap wInt ++ r.b.drop (yd n r).2.pos
 | 0, _ => by simp [yd]
 | n + 1, h => by
  obtain ⟨v1, v2, _⟩ := qh6 hr n
  rw [yd] at h ⊢
  simp only at h ⊢
  obtain ⟨h1, l, h2, h3⟩ := qff qbh v1 h
  have ih := qvy hr n h1
  rw [v2] at h2 h3
  obtain ⟨_, e1⟩ := qcx h2
  have hp := v1.pos
  rw [v2] at hp
  obtain ⟨t1, _⟩ := zr hp e1
  rw [ih, h3, List.flatMap_append, List.append_assoc]
  simp only [t1]
  rw [e1]; simp
theorem qvz {r : Rd} (h : rEnd r = 0) : r.failed = false ∧ r.b.length ≤ r.pos := by
 unfold rEnd at h
 split at h
 ·cases h
 ·rename_i hn
  simp only [Bool.or_eq_true, decide_eq_true_eq, not_or] at hn
  exact ⟨by simpa using hn.1, by omega⟩
theorem q6x {s : List UInt8} (hs : s.length ≤ 1000000000) (h : rEnd (qks s).2 = 0) : s = zx (qks s).1 := by
 have hr : (⟨s, 0, false⟩ : Rd).Ok := ⟨hs, Nat.zero_le _⟩
 obtain ⟨v1, v2, v3⟩ := qh6 hr 7
 have hd := qvy hr 7
 unfold qks at h ⊢
 simp only at h ⊢ v2 hd
 generalize yd 7 ⟨s, 0, false⟩ = x at h v1 v2 v3 hd ⊢
 obtain ⟨A, r1⟩ := x
 simp only at h v1 v2 v3 hd ⊢
 have iV := qm6 v1 4
 obtain ⟨h1, h2⟩ := qvz h
 obtain ⟨g1, l1, g2, g3⟩ := qff (qrx 6) iV.1 h1
 obtain ⟨f1, l2, f2, f3⟩ := qff (qx8 4) v1 g1
 have e0 := hd f1
 have p1 := v1.pos
 rw [v2] at f2 f3 p1
 obtain ⟨e1, _⟩ := qvg (w := wAV) (fun _ _ _ h => (q6c h).1) f2
 obtain ⟨t1, _⟩ := zr p1 e1
 generalize qbg 4 r1 = y at h1 h2 g2 g3 f3 e1 ⊢
 obtain ⟨V, r2⟩ := y
 simp only at h1 h2 g2 g3 f3 e1 ⊢
 subst f3
 simp only [t1] at g2
 obtain ⟨e2, _⟩ := qvg (w := wInt) (fun _ _ _ h => (qcx h).2) g2
 generalize qap 6 ⟨s, s.length - l2.length, false⟩ = z at h1 h2 g3 e2 ⊢
 obtain ⟨C, r3⟩ := z
 simp only at h1 h2 g3 e2 ⊢
 subst g3
 simp only at h2
 have hl1 : l1 = [] := by
  have q1 := congrArg List.length e1
  have q3 := congrArg List.length e2
  rw [List.length_append] at q3
  rw [List.length_drop, List.length_append] at q1
  exact List.eq_nil_of_length_eq_zero (by omega)
 obtain ⟨a0, a1, a2, a3, a4, a5, a6, rfl⟩ := xfl v3
 rw [List.drop_zero] at e0
 rw [hl1, List.append_nil] at e2
 rw [e0, e1, e2]
 simp only [zx, x7, pkOf, wAVs, qd0, List.getD_cons_zero, List.getD_cons_succ, List.append_assoc]
theorem qyk {b : List UInt8} (hb : b.length ≤ 1000000000) (h : (kf b).2 = 0) : xe (kf b).1 = true ∧ b = (jf (kf b).1).1 := by
 have hl := qja b
 unfold kf at h ⊢
 split at h
 ·rename_i hn; exact absurd h hn
 ·rename_i hn
  rw [if_neg hn]
  split at h
  ·cases h
  ·rename_i hv
   rw [if_neg hv]
   simp only [Bool.or_eq_true, bne_iff_ne, ne_eq, Bool.not_eq_true', not_or, Bool.not_eq_false, Decidable.not_not] at hv
   refine ⟨hv.2, ?_⟩
   simp only
   rw [jf, if_pos hv.2]
   simp only
   rw [← q6x (by omega) hv.1]
   unfold jy at hn ⊢
   split at hn
   ·simp at hn
   ·rename_i h8
    rw [if_neg h8]
    split at hn
    ·rename_i he
     rw [if_pos he, qcj, he, List.take_append_drop]
    ·simp at hn
theorem xcc {o : Option (List UInt8)} {v : List UInt8} (h1 : o.isSome = decide ((v.length : Int) > 0)) (h2 : optV o = v) : o = qbi v := by
 subst h2
 cases o with
 | none => rfl
 | some w =>
  unfold qbi
  rw [if_neg]; rfl
  intro h
  rw [h] at h1
  simp at h1
theorem qno (m : Cont) (name : List UInt8) : ∀ (n k : Nat) {l : List Pk}, vw m name n k = some l → (∀ p ∈ l, p.W ∧ p.Sm) ∧ l.length = n ∧ ∀ i (h : i < l.length), ldAt m name (k + i) = (l[i], 0)
 | 0, k, l, h => by
  cases h
  exact ⟨fun p hp => (by cases hp), rfl, fun i hi => absurd hi (Nat.not_lt_zero _)⟩
 | n + 1, k, l, h => by
  rw [vw] at h
  split at h
  ·cases h
  ·rename_i he
   obtain ⟨t, ht, rfl⟩ := Option.map_eq_some_iff.1 h
   obtain ⟨h1, h2, h3⟩ := qno m name n (k + 1) ht
   refine ⟨fun p hp => ?_, by simp [h2], fun i hi => ?_⟩
   ·rcases List.mem_cons.1 hp with rfl | hp
    ·exact qnf _
    ·exact h1 p hp
   ·cases i with
    | zero =>
     have : (ldAt m name k).2 = 0 := by simpa using he
     rw [Nat.add_zero, List.getElem_cons_zero, ← this]
    | succ i =>
     have := h3 i (by simpa using hi)
     rw [List.getElem_cons_succ, ← this]
     congr 1; omega
theorem xg9 {q : Qu} (h : jx q = true) (hp : ∀ p ∈ q.items, p.W) : q.W := ⟨(qr1 h).I.1, (qr1 h).I.2, hp⟩
theorem qnp {m : Cont} {name : List UInt8} (hn : qbm name = true) : qcm m name = (xm, 4) ∨ ∃ q, qcm m name = (q, 0) ∧ jx q = true ∧ q.W ∧ Rep m name q ∧ q.Sm := by
 unfold qcm
 rw [if_neg (by simp [hn])]
 split
 ·exact .inl rfl
 ·cases hi : vw m name ((qam (mGet (nKey name) m)).1 - (qam (mGet (nKey name) m)).2).toNat ((qam (mGet (nKey name) m)).2.toNat + 1) with
  | none => exact .inl rfl
  | some l =>
   rw [q6h]
   split
   ·exact .inl rfl
   ·rename_i hb
    simp only [Bool.or_eq_true, not_or, Bool.not_eq_true, Bool.not_eq_false'] at hb
    obtain ⟨b1, b2⟩ := hb
    obtain ⟨hw, _, _⟩ := qno m name _ _ hi
    generalize hq : (⟨(qam (mGet (nKey name) m)).1, (qam (mGet (nKey name) m)).2, l⟩ : Qu) = q at b1 b2
    unfold qkg at b1
    simp only [Bool.or_eq_false_iff, Bool.not_eq_false', beq_iff_eq] at b1
    have hl : q.items = l := by rw [← hq]
    refine .inr ⟨q, rfl, b1.1.1, xg9 b1.1.1 fun p hp => (hw p (by rwa [← hl])).1, ⟨xcc b1.1.2 b1.2, fun d hd => ?_⟩, ⟨by have := (qr1 b1.1.1).few; omega, fun p hp => (hw p (by rwa [← hl])).2⟩⟩
    have := qaj.1 b2 d hd
    unfold qng at this
    simp only [Bool.not_eq_true', Bool.or_eq_false_iff, Bool.not_eq_false', beq_iff_eq] at this
    exact xcc this.1 this.2
theorem xhk (r : Fin 4) (w : Fin 5) (p0 p1 p2 p3 : Bool) : (∀ d : Fin 4, (d.val + 4 - r.val) % 4 < w.val → [p0, p1, p2, p3].getD d.val false = true) → p0.toNat + p1.toNat + p2.toNat + p3.toNat = w.val →
  ∀ d : Fin 4, ¬ (d.val + 4 - r.val) % 4 < w.val → [p0, p1, p2, p3].getD d.val false = false := by
 revert r w p0 p1 p2 p3; decide +kernel
theorem xgw (r : Fin 4) (w : Fin 5) : (decide ((0 + 4 - r.val) % 4 < w.val)).toNat + (decide ((1 + 4 - r.val) % 4 < w.val)).toNat + (decide ((2 + 4 - r.val) % 4 < w.val)).toNat + (decide ((3 + 4 - r.val) % 4 < w.val)).toNat = w.val := by
 revert r w; decide +kernel
theorem q0b (m : Cont) (name : List UInt8) : vg m name 4 = (mGet (sKey name 0) m).isSome.toNat + (mGet (sKey name 1) m).isSome.toNat + (mGet (sKey name 2) m).isSome.toNat + (mGet (sKey name 3) m).isSome.toNat := by
 have h : ∀ b : Bool, (if b = true then 1 else 0) = b.toNat := by decide
 simp only [vg, h, Nat.zero_add]
theorem qla {q : Qu} (h : QV q) {d : Nat} (hd : d < 4) : (∃ i : Nat, ∃ hi : i < q.items.length, (q.cons.toNat + 1 + i) % 4 = d ∧ jw q d = (jf q.items[i]).1 ∧ jw q d ≠ [] ∧ (d + 4 - (q.cons.toNat + 1) % 4) % 4 < q.items.length) ∨ (jw q d = [] ∧ ¬ (d + 4 - (q.cons.toNat + 1) % 4) % 4 < q.items.length) := by
 have h0 := h.c0
 have h4 := h.few
 by_cases ht : (d + 4 - (q.cons.toNat + 1) % 4) % 4 < q.items.length
 ·have hs := q6k h ht (d := d) (by rw [Int.tmod_eq_emod_of_nonneg (by omega)]; omega)
  exact .inl ⟨_, ht, by omega, hs, by rw [hs]; exact q6j (h.it _ ht).1, ht⟩
 ·refine .inr ⟨q6l h fun i hi => ?_, ht⟩
  rw [Int.tmod_eq_emod_of_nonneg (by omega)]
  omega
theorem q6y {m : Cont} {name : List UInt8} {q : Qu} (h : QV q) (hr : mGet (nKey name) m = qbi (zy q)) : qr9 (mGet (nKey name) m) = some (q.acc, q.cons) := by
 obtain ⟨i1, i2⟩ := h.I
 rw [hr]
 by_cases hz : q.acc = 0 ∧ q.cons = 0
 ·have : zy q = [] := by unfold zy; rw [if_pos hz]
  rw [this]
  simp only [qbi, if_true, qr9, hz.1, hz.2]
 ·have hb : zy q = wInt q.acc ++ wInt q.cons := by unfold zy; rw [if_neg hz]
  have hp := qk1 q.acc
  have l1 := xj i1
  have l2 := xj i2
  have hne : zy q ≠ [] := by rw [hb]; intro h; have := congrArg List.length h; rw [List.length_append, List.length_nil] at this; omega
  have hl : (zy q).length ≤ 1000000000 := by rw [hb, List.length_append]; omega
  have r1 := wi qbh (r := ⟨zy q, 0, false⟩) ⟨hl, Nat.zero_le _⟩ rfl (v := q.acc) (l := wInt q.cons) (by simp only [List.drop_zero, hb]; exact qay i1 _)
  have ht := (zr (b := zy q) (p := 0) (q := wInt q.acc) (l := wInt q.cons) (Nat.zero_le _) (by rw [List.drop_zero, hb])).1
  have r2 := wi qbh (r := ⟨zy q, (zy q).length - (wInt q.cons).length, false⟩) ⟨hl, Nat.sub_le _ _⟩ rfl (v := q.cons) (l := []) (by simp only [ht]; have := qay i2 []; rwa [List.append_nil] at this)
  simp only at r1 r2
  have ha : (q.acc == 0) = false := by
   rw [beq_eq_false_iff_ne]
   have := h.c0; have := h.c1
   omega
  simp only [qbi, if_neg hne, qr9, r1, r2]
  rw [if_neg]
  simp [rEnd, ha]
theorem q6z {m : Cont} {name : List UInt8} {q : Qu} (h : jx q = true) (hw : q.W) (hn : qbm name = true) (hr : Rep m name q) : qeh m name = (q, 0) := by
 have hv := qr1 h
 have hv2 := hv
 obtain ⟨c0, c1, c2, c3, c4, _⟩ := hv2
 have hi := qjl hv hw hr q.items.length 0 (by omega)
 have hp : ∀ d, d < 4 → (mGet (sKey name d) m).isSome = decide ((d + 4 - (q.cons.toNat + 1) % 4) % 4 < q.items.length) := fun d hd => by
  rw [hr.2 d hd, qr0]
  rcases qla hv hd with ⟨i, hi, e1, e2, e3, e4⟩ | ⟨e1, e2⟩
  ·have := List.length_pos_iff.2 e3
   rw [decide_eq_true e4, decide_eq_true_iff]; omega
  ·rw [e1, decide_eq_false e2]; rfl
 have hf : vg m name 4 = q.items.length := by
  rw [q0b, hp 0 (by omega), hp 1 (by omega), hp 2 (by omega), hp 3 (by omega)]
  exact xgw ⟨(q.cons.toNat + 1) % 4, Nat.mod_lt _ (by decide)⟩ ⟨q.items.length, by omega⟩
 unfold qeh
 rw [if_neg (by simp [hn]), q6y hv hr.1]
 simp only
 rw [hf, if_neg, show q.cons.toNat + 1 = q.cons.toNat + 1 + 0 from rfl, hi, List.drop_zero, q6w, if_pos h]
 rw [xk (by unfold I64; omega)]
 simp only [Bool.or_eq_true, decide_eq_true_eq, bne_iff_ne, not_or, Decidable.not_not]
 exact ⟨⟨by omega, by omega⟩, by omega⟩
theorem qyl {m : Cont} {name : List UInt8} (hg : m.Good) (hn : qbm name = true) : qeh m name = (xm, 4) ∨ ∃ q, qeh m name = (q, 0) ∧ jx q = true ∧ q.W ∧ Rep m name q := by
 have hm : ∀ x ∈ m.l, x.2.2.length ≤ 1000000 := fun x hx => by have := (hg.small x hx).2.2; omega
 unfold qeh
 rw [if_neg (by simp [hn])]
 cases hx : qr9 (mGet (nKey name) m) with
 | none => exact .inl rfl
 | some x =>
  obtain ⟨a, c⟩ := x
  simp only
  split
  ·exact .inl rfl
  ·rename_i hb
   simp only [Bool.or_eq_true, decide_eq_true_eq, bne_iff_ne, ne_eq, not_or, Decidable.not_not] at hb
   cases hi : vw m name (vg m name 4) (c.toNat + 1) with
   | none => exact .inl rfl
   | some l =>
    rw [q6w]
    split
    ·rename_i hq
     obtain ⟨w1, w2, w3⟩ := qno m name _ _ hi
     have hv := qr1 hq
     have hw : (⟨a, c, l⟩ : Qu).W := xg9 hq fun p hp => (w1 p hp).1
     refine .inr ⟨_, rfl, hq, hw, ?_, ?_⟩
     ·have hc0 := hv.c0
      have hc1 := hv.c1
      simp only at hc0 hc1
      cases hb : mGet (nKey name) m with
      | none =>
       rw [hb] at hx
       cases hx
       rfl
      | some b =>
       rw [hb] at hx
       unfold qr9 at hx
       simp only at hx
       split at hx
       ·cases hx
       ·rename_i hz
        simp only [Bool.or_eq_true, bne_iff_ne, ne_eq, beq_iff_eq, not_or, Decidable.not_not] at hz
        simp only [Option.some.injEq, Prod.mk.injEq] at hx
        have hbl : b.length ≤ 1000000000 := by
         have := qfy m hm (nKey name)
         rw [hb] at this
         simp only [optV, Option.getD_some] at this
         omega
        have r0 : (⟨b, 0, false⟩ : Rd).Ok := ⟨hbl, Nat.zero_le _⟩
        have r1 := vu r0
        obtain ⟨z1, z2⟩ := qvz hz.1
        obtain ⟨g1, l1, g2, g3⟩ := qff qbh r1.1 z1
        obtain ⟨f1, l2, f2, f3⟩ := qff qbh r0 g1
        simp only [List.drop_zero] at f2 f3
        obtain ⟨_, e1⟩ := qcx f2
        obtain ⟨t1, _⟩ := zr (b := b) (p := 0) (Nat.zero_le _) (by rw [List.drop_zero]; exact e1)
        rw [f3] at g2 g3 z2 hx
        rw [g3] at z2
        simp only [t1] at g2 z2
        obtain ⟨_, e2⟩ := qcx g2
        rw [hx.1] at e1
        rw [hx.2] at e2
        have q1 := congrArg List.length e1
        have q2 := congrArg List.length e2
        rw [List.length_append] at q1 q2
        have hl1 : l1 = [] := List.eq_nil_of_length_eq_zero (by omega)
        rw [hl1, List.append_nil] at e2
        have hne : ¬ (a = 0 ∧ c = 0) := fun h => hz.2 (by rw [hx.1]; exact h.1)
        have hnq : zy ⟨a, c, l⟩ = b := by unfold zy; rw [if_neg hne, e1, e2]
        rw [hnq, qbi, if_neg]
        intro hbn
        have := qk1 a
        rw [hbn] at q1
        simp only [List.length_nil] at q1
        omega
     ·have h4 := hv.few
      have hc0 := hv.c0
      simp only at h4 hc0
      have hin : ∀ d, d < 4 → (d + 4 - (c.toNat + 1) % 4) % 4 < l.length → mGet (sKey name d) m = qbi (jw ⟨a, c, l⟩ d) := fun d hd ht => by
       rcases qla hv hd with ⟨i, hi, e1, e2, e3, _⟩ | ⟨_, e2⟩
       ·simp only at hi e1 e2
        have hat := w3 i hi
        unfold ldAt at hat
        rw [e1] at hat
        have hol := qfy m hm (sKey name d)
        obtain ⟨_, d2⟩ := qyk (by omega) (show (kf (optV (mGet (sKey name d) m))).2 = 0 by rw [hat])
        rw [hat] at d2
        simp only at d2
        rw [← e2] at d2
        rw [← d2] at e3 ⊢
        cases hg : mGet (sKey name d) m with
        | none => rw [hg] at e3; exact absurd rfl e3
        | some v =>
         rw [hg] at e3
         simp only [optV, Option.getD_some] at e3 ⊢
         rw [qbi, if_neg e3]
       ·exact absurd ht e2
      have hfd := q0b m name
      have hall := xhk ⟨(c.toNat + 1) % 4, Nat.mod_lt _ (by decide)⟩ ⟨l.length, by omega⟩ (mGet (sKey name 0) m).isSome (mGet (sKey name 1) m).isSome (mGet (sKey name 2) m).isSome (mGet (sKey name 3) m).isSome
       (fun d hd => by
        have hs := hin d.val d.isLt hd
        have hz : (mGet (sKey name d.val) m).isSome = true := by
         rw [hs, qr0]
         rcases qla hv d.isLt with ⟨i, hi, e1, e2, e3, _⟩ | ⟨_, e2⟩
         ·have := List.length_pos_iff.2 e3
          simp only [decide_eq_true_eq]; omega
         ·exact absurd hd e2
        obtain ⟨d, hlt⟩ := d
        have h4 : d = 0 ∨ d = 1 ∨ d = 2 ∨ d = 3 := by omega
        rcases h4 with rfl | rfl | rfl | rfl <;> exact hz) (by rw [← hfd]; exact w2.symm)
      intro d hd
      by_cases ht : (d + 4 - (c.toNat + 1) % 4) % 4 < l.length
      ·exact hin d hd ht
      ·have hno := hall ⟨d, hd⟩ ht
       have hz : (mGet (sKey name d) m).isSome = false := by
        have h4 : d = 0 ∨ d = 1 ∨ d = 2 ∨ d = 3 := by omega
        rcases h4 with rfl | rfl | rfl | rfl <;> exact hno
       rcases qla hv hd with ⟨i, hi, e1, e2, e3, e4⟩ | ⟨e1, e2⟩
       ·exact absurd e4 ht
       ·rw [e1]
        simpa [qbi] using hz
    ·exact .inl rfl
theorem xd0 {m : Cont} (hg : m.Good) (name : List UInt8) : qeh m name = qcm m name := by
 cases hn : qbm name with
 | false =>
  unfold qeh qcm
  rw [if_pos (by rw [hn]; rfl), if_pos (by rw [hn]; rfl)]
 | true =>
  rcases qnp (m := m) hn with h1 | ⟨q, h1, h2, h3, h4, _⟩
  ·rcases qyl hg hn with g1 | ⟨q, g1, g2, g3, g4⟩
   ·rw [h1, g1]
   ·rw [qeb g2 g3 hn g4] at h1
    cases h1
  ·rw [h1, q6z h2 h3 hn h4]
theorem xa9 (m : Cont) (name : List UInt8) : (qcm m name).1.Sm := by
 have he : xm.Sm := ⟨Nat.zero_le _, fun p hp => (by cases hp)⟩
 cases hn : qbm name with
 | false => unfold qcm; rw [if_pos (by rw [hn]; rfl)]; exact he
 | true =>
  rcases qnp (m := m) hn with h1 | ⟨q, h1, _, _, _, h2⟩
  ·rw [h1]; exact he
  ·rw [h1]; exact h2
end Go.Proofs.YtinnaedmdoengaaGreat
namespace Go.Proofs.YtinnaedmdoengaaGreat
open Go.Abs
set_option linter.unusedSimpArgs false
set_option linter.unusedVariables false
structure Sto.Few (n : Nat) (s : Sto) : Prop where
 ok : s.Ok n
 len : s.m.l.length ≤ 5 * n
theorem Sto.Few.v {n : Nat} {s : Sto} (h : s.Few n) : ∀ x ∈ s.m.l, x.2.2.length ≤ 1000000 := fun x hx => by
 have := (h.ok.good.small x hx).2.2; omega
end Go.Proofs.YtinnaedmdoengaaGreat
namespace Go.Proofs.YtinnaedmdoengaaGreat
open Go.Abs
set_option linter.unusedSimpArgs false
set_option linter.unusedVariables false
structure Pk.I (p : Pk) : Prop where
 h : ∀ x ∈ x7 p, I64 x
 v : ∀ x ∈ p.values, I64 x.kind ∧ I64 x.n
 c : ∀ x ∈ p.clock, I64 x
structure Qu.I (q : Qu) : Prop where
 a : I64 q.acc
 c : I64 q.cons
 p : ∀ p ∈ q.items, p.I
theorem xgx {p : Pk} (hi : p.I) (h : qkv p = true) : p.W := by
 unfold qkv at h
 simp only [Bool.and_eq_true, List.all_eq_true] at h
 refine ⟨hi.h, fun x hx => ⟨(hi.v x hx).1, (hi.v x hx).2, ?_⟩, hi.c⟩
 have := h.1 x hx
 simp only [qe6, Bool.not_eq_true', decide_eq_false_iff_not] at this
 omega
theorem q0d {q : Qu} (hi : q.I) (h : fewQ q = true) : q.W := by
 unfold fewQ at h
 simp only [Bool.and_eq_true, List.all_eq_true] at h
 exact ⟨hi.a, hi.c, fun p hp => xgx (hi.p p hp) (h.1 p hp)⟩
noncomputable section
set_option maxRecDepth 100000
set_option linter.defProp false
def d3 := cut Tryz.prog Tryz.f3 news
@[go_sem] def E3 := ql d3
end
end Go.Proofs.YtinnaedmdoengaaGreat
namespace Go.Proofs.YtinnaedmdoengaaGreat
open Go.Abs
set_option linter.unusedSimpArgs false
set_option linter.unusedVariables false
noncomputable section
set_option maxRecDepth 100000
set_option linter.defProp false
def d6c := cut Tryz.prog Tryz.f6 news [] [20]
@[go_sem] def E6c := ql d6c
def F6c := fnC d6c follows Tryz.func6
end
def SF0 (a b : Qu) (l : List OpS) (name : List UInt8) (c : List OpS × Int) (i : Nat) : St :=
 ⟨[(1, true, .d (.sl 3 (l.map qh))), (2, true, .d (.str name)), (3, true, .d (.ptr 0 0)), (7, true, .d (.sl 3 (c.1.map qh))), (9, true, .d (.sl 3 (c.1.map qh))), (11, true, .d (.int .i64 (i : Nat)))],
  [.row ((encQ a ++ encQ b).map .d)], [], 1⟩
set_option maxRecDepth 10000 in
set_option maxHeartbeats 2000000 in
theorem qnr (a b : Qu) (l : List OpS) (name : List UInt8) (ia : a.I) (ib : b.I) (la : a.items.length ≤ maxLen) (la2 : ∀ p ∈ a.items, p.values.length ≤ maxLen) (lb : b.items.length ≤ maxLen) (lb2 : ∀ p ∈ b.items, p.values.length ≤ maxLen) (hl : l.length ≤ maxLen) :
  qg Tryz.prog 6 [.d (.agg (encQ a ++ encQ b)), .d (.sl 3 (l.map qh)), .d (.str name)] [] (.d (.bool true)) [] := by
 have k0 := qrf
 simp only [stoO, mapO] at k0
 have q1 := qjb a la la2
 have q2 := qjb b lb lb2
 simp only [encQ] at q1 q2
 refine F6c.go ?_
 try (refine ev1 @encQ.eq_1 ?_; try exact True.intro)
 (repeat (with_reducible refine ob ?_)); first | refine cl F7 (qfm) ?_ | refine clF F7 (qfm) (fun _ => by (refine ev4 @qe.eq_1 @encQ.eq_1 @qh.eq_1 @qp.eq_1 ?_; try exact True.intro)) ?_
 try (refine ev ?_; try exact True.intro)
 (repeat (with_reducible refine ob ?_)); refine no_ ?_
 try (refine ev ?_; try exact True.intro)
 (repeat (with_reducible refine ob ?_)); first | refine cl F8 (q1) ?_ | refine clF F8 (q1) (fun _ => by (refine ev4 @qe.eq_1 @encQ.eq_1 @qh.eq_1 @qp.eq_1 ?_; try exact True.intro)) ?_
 try (refine ev ?_; try exact True.intro)
 (repeat (with_reducible refine ob ?_)); first | refine cl F8 (q2) ?_ | refine clF F8 (q2) (fun _ => by (refine ev4 @qe.eq_1 @encQ.eq_1 @qh.eq_1 @qp.eq_1 ?_; try exact True.intro)) ?_
 try (refine ev ?_; try exact True.intro)
 (repeat (with_reducible refine ob ?_)); first | refine cl F29 (qzi l hl) ?_ | refine clF F29 (qzi l hl) (fun _ => by (refine ev4 @qe.eq_1 @encQ.eq_1 @qh.eq_1 @qp.eq_1 ?_; try exact True.intro)) ?_
 try (refine ev ?_; try exact True.intro)
 (repeat (with_reducible refine ob ?_))
 refine xt _ (fun h => ?_) (fun h => ?_)
 ·try (refine ev ?_; try exact True.intro)
 have hv : fewQ a = true ∧ fewQ b = true ∧ sFew l = true ∧ name.length ≤ 100 := by
  simp only [Bool.or_eq_false_iff, Bool.not_eq_false', decide_eq_false_iff_not] at h
  exact ⟨h.1.1.1, h.1.1.2, h.1.2, by omega⟩
 obtain ⟨fa, fb, fl, hn⟩ := hv
 have wa := q0d ia fa
 have wb := q0d ib fb
 have sa := (qrs fa).1
 have sb := (qrs fb).1
 obtain ⟨l30, lv⟩ := q91 fl
 have t1 := qrt a sa.1
 have t2 := qrt b sb.1
 have c1 := qnc a b name sa wa sb wb (by omega)
 have c2 := qye a b name sa wa sb wb (by omega)
 have hcl : (k7 a b name).1.length ≤ 100 := by
  unfold k7
  split
  ·simp
  ·have := qa6 a b name 4; simp only; omega
 simp only [encQ] at c1 c2 t1 t2
 try (refine ev ?_; try exact True.intro)
 (repeat (with_reducible refine ob ?_)); first | refine cl F12 (t1) ?_ | refine clF F12 (t1) (fun _ => by (refine ev4 @qe.eq_1 @encQ.eq_1 @qh.eq_1 @qp.eq_1 ?_; try exact True.intro)) ?_
 try (refine ev ?_; try exact True.intro)
 (repeat (with_reducible refine ob ?_)); first | refine cl F12 (t2) ?_ | refine clF F12 (t2) (fun _ => by (refine ev4 @qe.eq_1 @encQ.eq_1 @qh.eq_1 @qp.eq_1 ?_; try exact True.intro)) ?_
 try (refine ev ?_; try exact True.intro)
 (repeat (with_reducible refine ob ?_)); first | refine cl F11 (c1) ?_ | refine clF F11 (c1) (fun _ => by (refine ev4 @qe.eq_1 @encQ.eq_1 @qh.eq_1 @qp.eq_1 ?_; try exact True.intro)) ?_
 try (refine ev ?_; try exact True.intro)
 (repeat (with_reducible refine ob ?_)); first | refine cl F30 (c2) ?_ | refine clF F30 (c2) (fun _ => by (refine ev4 @qe.eq_1 @encQ.eq_1 @qh.eq_1 @qp.eq_1 ?_; try exact True.intro)) ?_
 try (refine ev ?_; try exact True.intro)
 generalize k7 a b name = ch at hcl ⊢
 obtain ⟨ops, e⟩ := ch
 simp only at hcl
 (repeat (with_reducible refine ob ?_))
 (repeat (with_reducible refine ob ?_)); refine no_ ?_
 try (refine ev ?_; try exact True.intro)
 refine qj (fun i : { i : Nat // i ≤ ops.length } => SF0 a b l name (ops, e) i.val) (fun i => ops.length - i.val) ⟨0, Nat.zero_le _⟩ ?_ (fun i => ?_)
 ·try (refine ev3 @SF0.eq_1 @encQ.eq_1 @Int.ofNat_zero ?_; try exact True.intro)
 obtain ⟨i, hi⟩ := i
 try (refine ev2 @SF0.eq_1 @encQ.eq_1 ?_; try exact True.intro)
 refine xt _ (fun h => ?_) (fun h => ?_)
 ·have hil : i < ops.length := by simpa using h
  try (refine ev2 (qq qh ops hil) @qh.eq_1 ?_; try exact True.intro)
  (repeat (with_reducible refine ob ?_))
  (repeat (with_reducible refine ob ?_)); refine no_ ?_
  try (refine ev ?_; try exact True.intro)
  refine ⟨⟨i + 1, hil⟩, ?_, by dsimp only; omega⟩
  try (refine ev3 @SF0.eq_1 @encQ.eq_1 (qi (show i < 9223372036854775807 by omega)) ?_; try exact True.intro)
 have k1 := qxs newS [] (qi5 0).good.ok (by simp [newS, qbk]) (fun x hx => (by cases hx))
 have kt := xgq l (by omega) (fun o ho => by have := (lv o ho).2; omega)
 have kr := qyj newS l (qi5 0).good (by omega) (fun o ho => by have := (lv o ho).2; omega) qvt (by simp [newS])
 have hs' := (qd3 (qi5 0) l).good
 have hq := qig (xh newS l).1 name (fun x hx => by have := (hs'.small x hx).2.2; omega) (by omega)
 have hr := xa8 (xh newS l).1 name hs' (by omega)
 rw [xd0 hs'] at hr
 have hE : zm newS.m = [] := List.eq_nil_of_length_eq_zero (by rw [qcu]; rfl)
 have e0 : stR newS = [.sl 1 [], .int .i64 0, .sl 2 []] := by simp only [stR, qec, hE]; rfl
 rw [e0] at kr
 change qg _ _ _ _ (.d (.sl 2 ((zm newS.m).map qp))) _ at k1
 rw [hE] at k1
 simp only [stoO, mapO] at k1
 have hsm := xa9 (xh newS l).1.m name
 have he := qjc _ (qcm (xh newS l).1.m name).1 hsm
 have hfr := ym (qcm (xh newS l).1.m name).1 hsm.1
 rw [decide_eq_true rfl] at he
 try (refine ev ?_; try exact True.intro)
 refine clO [1, 2] F10 k0 ?_
 try (refine ev ?_; try exact True.intro)
 (repeat (with_reducible refine ob ?_)); first | refine cl F31 (kt) ?_ | refine clF F31 (kt) (fun _ => by (refine ev4 @qe.eq_1 @encQ.eq_1 @qh.eq_1 @qp.eq_1 ?_; try exact True.intro)) ?_
 try (refine ev ?_; try exact True.intro)
 rcases qd2 newS l with ⟨c1, c2⟩ | ⟨c1, _, _, _⟩
 ·have kc := q5f (s := newS) (l := l) (by omega) (by simp [newS]) c1
  simp only [stoO, mapO] at kc
  rw [c2] at kr hq hr he hfr
  simp only [stR, qec, encQ] at kr hr
  simp only [stoO, mapO, encQ] at hq hfr he
  have hne : ((xh newS l).2 != 0) = true := by simpa using c1
  refine clO [2, 1, 3] F14 kc ?_
  try (refine ev ?_; try exact True.intro)
  (repeat (with_reducible refine ob ?_)); first | refine cl F32 (kr) ?_ | refine clF F32 (kr) (fun _ => by (refine ev4 @qe.eq_1 @encQ.eq_1 @qh.eq_1 @qp.eq_1 ?_; try exact True.intro)) ?_
  try (refine ev1 @hne ?_; try exact True.intro)
  refine clO [2, 1] F33u k1 ?_
  try (refine ev1 @hne ?_; try exact True.intro)
  (repeat (with_reducible refine ob ?_)); refine no_ ?_
  try (refine ev ?_; try exact True.intro)
  refine pu ?_
  try (refine ev ?_; try exact True.intro)
  refine clO [2, 1] F15j hq ?_
  try (refine ev ?_; try exact True.intro)
  (repeat (with_reducible refine ob ?_)); first | refine cl F34j (hr) ?_ | refine clF F34j (hr) (fun _ => by (refine ev4 @qe.eq_1 @encQ.eq_1 @qh.eq_1 @qp.eq_1 ?_; try exact True.intro)) ?_
  try (refine ev1 @beq_self_eq_true.{0} ?_; try exact True.intro)
  (repeat (with_reducible refine ob ?_)); first | refine cl F16 (hfr) ?_ | refine clF F16 (hfr) (fun _ => by (refine ev4 @qe.eq_1 @encQ.eq_1 @qh.eq_1 @qp.eq_1 ?_; try exact True.intro)) ?_
  try (refine ev ?_; try exact True.intro)
  (repeat (with_reducible refine ob ?_)); first | refine cl F13 (he) ?_ | refine clF F13 (he) (fun _ => by (refine ev4 @qe.eq_1 @encQ.eq_1 @qh.eq_1 @qp.eq_1 ?_; try exact True.intro)) ?_
  try (refine ev ?_; try exact True.intro)
 ·have kc := qbz (s := newS) (l := l) (by omega) (by simp [newS]) c1
  simp only [stoO, mapO] at kc
  simp only [stR, qec, encQ] at kr hr
  simp only [stoO, mapO, encQ] at hq hfr he
  have hne : ((xh newS l).2 != 0) = false := by simpa using c1
  refine clO [2, 1, 3] F14 kc ?_
  try (refine ev ?_; try exact True.intro)
  (repeat (with_reducible refine ob ?_)); first | refine cl F32 (kr) ?_ | refine clF F32 (kr) (fun _ => by (refine ev4 @qe.eq_1 @encQ.eq_1 @qh.eq_1 @qp.eq_1 ?_; try exact True.intro)) ?_
  try (refine ev1 @hne ?_; try exact True.intro)
  refine qac (.sl 2 []) rfl ?_
  try (refine ev1 @hne ?_; try exact True.intro)
  (repeat (with_reducible refine ob ?_)); refine no_ ?_
  try (refine ev ?_; try exact True.intro)
  refine pu ?_
  try (refine ev ?_; try exact True.intro)
  refine clO [2, 3] F15j hq ?_
  try (refine ev ?_; try exact True.intro)
  (repeat (with_reducible refine ob ?_)); first | refine cl F34j (hr) ?_ | refine clF F34j (hr) (fun _ => by (refine ev4 @qe.eq_1 @encQ.eq_1 @qh.eq_1 @qp.eq_1 ?_; try exact True.intro)) ?_
  try (refine ev1 @beq_self_eq_true.{0} ?_; try exact True.intro)
  (repeat (with_reducible refine ob ?_)); first | refine cl F16 (hfr) ?_ | refine clF F16 (hfr) (fun _ => by (refine ev4 @qe.eq_1 @encQ.eq_1 @qh.eq_1 @qp.eq_1 ?_; try exact True.intro)) ?_
  try (refine ev ?_; try exact True.intro)
  (repeat (with_reducible refine ob ?_)); first | refine cl F13 (he) ?_ | refine clF F13 (he) (fun _ => by (refine ev4 @qe.eq_1 @encQ.eq_1 @qh.eq_1 @qp.eq_1 ?_; try exact True.intro)) ?_
  try (refine ev ?_; try exact True.intro)
end Go.Proofs.YtinnaedmdoengaaGreat
namespace Go.Proofs.YtinnaedmdoengaaGreat
open Go.Abs
set_option linter.unusedSimpArgs false
set_option maxRecDepth 100000
theorem qgy {α : Type} {enc : α → List D} {Q : α → Prop} : ∀ {rows : List (List D)}, (∀ r ∈ rows, ∃ x, r = enc x ∧ Q x) → ∃ l : List α, rows = l.map enc ∧ ∀ x ∈ l, Q x
 | [], _ => ⟨[], rfl, by simp⟩
 | r :: rows, h => by
  obtain ⟨x, rfl, hx⟩ := h r (by simp)
  obtain ⟨l, rfl, hl⟩ := qgy (enc := enc) (Q := Q) (rows := rows) (fun r hr => h r (by simp [hr]))
  exact ⟨x :: l, rfl, by simpa using ⟨hx, hl⟩⟩
theorem q64 {n : Int} (h : (Lit.int .i64 n).wf = true) : I64 n := by
 have h1 : IntKind.i64.min = -9223372036854775808 := by decide
 have h2 : IntKind.i64.max = 9223372036854775807 := by decide
 simp only [Lit.wf, Bool.and_eq_true, decide_eq_true_eq, h1, h2] at h
 exact h
theorem xgz {n : Int} (h : (Lit.int .u8 n).wf = true) : 0 ≤ n ∧ n ≤ 255 := by
 have h1 : IntKind.u8.min = 0 := by decide
 have h2 : IntKind.u8.max = 255 := by decide
 simp only [Lit.wf, Bool.and_eq_true, decide_eq_true_eq, h1, h2] at h
 exact h
theorem xcd {n : Nat} {ds : List D} (h : Shp Tryz.prog (n + 1) 3 ds) : ∃ x, ds = [.int .i64 x] ∧ I64 x := by
 simp only [Shp, Tryz.underlying3] at h
 obtain ⟨x, rfl, h⟩ := h
 exact ⟨x, rfl, q64 h⟩
theorem xg0 {n : Nat} {ds : List D} (h : Shp Tryz.prog (n + 1) 5 ds) : ∃ x : Nat, ds = [.int .u8 (x : Nat)] ∧ x < 256 := by
 simp only [Shp, Tryz.underlying5] at h
 obtain ⟨x, rfl, h⟩ := h
 have := xgz h
 refine ⟨x.toNat, ?_, by omega⟩
 rw [Int.toNat_of_nonneg this.1]
theorem xd1 {n : Nat} {ds : List D} (h : Shp Tryz.prog (n + 1) 5 ds) : ∃ c : UInt8, ds = [zo c] ∧ True := by
 obtain ⟨x, rfl, hx⟩ := xg0 h
 refine ⟨UInt8.ofNat x, ?_, trivial⟩
 simp [zo, UInt8.toNat_ofNat]
 omega
theorem qv2 (s : List UInt8) : s.map (fun c => [zo c]) = qd s := by
 induction s with
 | nil => rfl
 | cons c s ih => rw [List.map_cons, ih]; rfl
theorem xbf : Tryz.prog.cellsOf 5 = 1 := by kernel_rfl
theorem xbg {n : Nat} {ds : List D} (h : Shp Tryz.prog (n + 2) 42 ds) : ∃ s : List UInt8, ds = [.sl 1 (qd s)] ∧ s.length ≤ maxLen := by
 rw [Shp] at h
 simp only [Tryz.underlying42] at h
 obtain ⟨r, rfl, l, h⟩ := h
 obtain ⟨s, rfl, _⟩ := qgy fun r hr => xd1 (h r hr)
 exact ⟨s, by rw [xbf, qv2], by simpa using l⟩
theorem xce {n : Nat} {ds : List D} (h : Shp Tryz.prog (n + 1) 9 ds) : ∃ s : List UInt8, ds = [.str s] ∧ s.length ≤ maxLen := by
 simp only [Shp, Tryz.underlying9] at h
 exact h
theorem xd2 {n : Nat} {ds : List D} (h : Shp Tryz.prog (n + 3) 76 ds) : ∃ o : OpS, ds = qh o ∧ o.key.length ≤ maxLen ∧ o.val.length ≤ maxLen := by
 rw [Shp] at h
 simp only [Tryz.underlying76, qtv] at h
 obtain ⟨_, _, rfl, h1, _, _, rfl, h2, _, _, rfl, h3, rfl⟩ := h
 obtain ⟨a1, rfl, l1⟩ := xce h1
 simp only [Shp, Tryz.underlying4] at h2
 obtain ⟨a2, rfl⟩ := h2
 obtain ⟨a3, rfl, l3⟩ := xbg h3
 exact ⟨⟨a1, a2, a3⟩, rfl, l1, l3⟩
theorem q21 : Tryz.prog.cellsOf 76 = 3 := by kernel_rfl
theorem xcf {n : Nat} {ds : List D} (h : Shp Tryz.prog (n + 4) 62 ds) : ∃ l : List OpS, ds = [.sl 3 (l.map qh)] ∧ l.length ≤ maxLen := by
 rw [Shp] at h
 simp only [Tryz.underlying62] at h
 obtain ⟨r, rfl, l, h⟩ := h
 obtain ⟨s, rfl, _⟩ := qgy fun r hr => xd2 (h r hr)
 exact ⟨s, by rw [q21], by simpa using l⟩
theorem xf1 (l : List OpS) : argS Tryz.prog 62 [.sl 3 (l.map qh)] = .d (.sl 3 (l.map qh)) := by simp only [argS, Tryz.underlying62]; rfl
theorem xf2 (s : List UInt8) : argS Tryz.prog 9 [.str s] = .d (.str s) := by simp only [argS, Tryz.underlying9]; rfl
end Go.Proofs.YtinnaedmdoengaaGreat
namespace Go.Proofs.YtinnaedmdoengaaGreat
open Go.Abs
set_option linter.unusedSimpArgs false
set_option maxRecDepth 100000
theorem q68 {n : Nat} {ds : List D} (h : Shp Tryz.prog (n + 1) 3 ds) : ∃ x, ds = encI x ∧ I64 x := xcd h
theorem xg1 {n : Nat} {ds : List D} (h : Shp Tryz.prog (n + 2) 156 ds) : ∃ v : AV, ds = qx v ∧ I64 v.kind ∧ I64 v.n := by
 simp only [Shp, Tryz.underlying156, qtv, Tryz.underlying3, Tryz.underlying9] at h
 obtain ⟨_, _, rfl, ⟨a, rfl, ha⟩, _, _, rfl, ⟨b, rfl, hb⟩, _, _, rfl, ⟨c, rfl, hc⟩, rfl⟩ := h
 exact ⟨⟨a, b, c⟩, rfl, q64 ha, q64 hb⟩
theorem xbh : Tryz.prog.cellsOf 156 = 3 := by kernel_rfl
theorem q66 : Tryz.prog.cellsOf 3 = 1 := by kernel_rfl
theorem q22 : Tryz.prog.cellsOf 94 = 9 := by kernel_rfl
theorem xd3 {n : Nat} {ds : List D} (h : Shp Tryz.prog (n + 4) 94 ds) : ∃ p : Pk, ds = qe p ∧ p.I ∧ p.values.length ≤ maxLen := by
 rw [Shp] at h
 simp only [Tryz.underlying94, qtv] at h
 obtain ⟨_, _, rfl, h1, _, _, rfl, h2, _, _, rfl, h3, _, _, rfl, h4, _, _, rfl, h5, _, _, rfl, h6, _, _, rfl, h7, _, _, rfl, h8, _, _, rfl, h9, rfl⟩ := h
 obtain ⟨a1, rfl, i1⟩ := q68 h1
 obtain ⟨a2, rfl, i2⟩ := q68 h2
 obtain ⟨a3, rfl, i3⟩ := q68 h3
 obtain ⟨a4, rfl, i4⟩ := q68 h4
 obtain ⟨a5, rfl, i5⟩ := q68 h5
 obtain ⟨a6, rfl, i6⟩ := q68 h6
 obtain ⟨a7, rfl, i7⟩ := q68 h7
 rw [Shp] at h8 h9
 simp only [Tryz.underlying85, Tryz.underlying86] at h8 h9
 obtain ⟨r8, rfl, l8, h8⟩ := h8
 obtain ⟨r9, rfl, l9, h9⟩ := h9
 obtain ⟨vs, rfl, iv⟩ := qgy fun r hr => xg1 (h8 r hr)
 obtain ⟨ns, rfl, ic⟩ := qgy fun r hr => q68 (h9 r hr)
 refine ⟨⟨a1, a2, a3, a4, a5, a6, a7, vs, ns⟩, by rw [xbh, q66]; rfl, ⟨fun x hx => ?_, iv, ic⟩, by simpa using l8⟩
 simp only [x7, List.mem_cons, List.not_mem_nil, or_false] at hx
 rcases hx with rfl | rfl | rfl | rfl | rfl | rfl | rfl <;> assumption
theorem xcg {n : Nat} {ds : List D} (h : Shp Tryz.prog (n + 6) 24 ds) : ∃ q : Qu, ds = encQ q ∧ q.I ∧ q.items.length ≤ maxLen ∧ ∀ p ∈ q.items, p.values.length ≤ maxLen := by
 rw [Shp] at h
 simp only [Tryz.underlying24, qtv] at h
 obtain ⟨_, _, rfl, h1, _, _, rfl, h2, _, _, rfl, h3, rfl⟩ := h
 obtain ⟨a1, rfl, i1⟩ := q68 h1
 obtain ⟨a2, rfl, i2⟩ := q68 h2
 rw [Shp] at h3
 simp only [Tryz.underlying22] at h3
 obtain ⟨r3, rfl, l3, h3⟩ := h3
 obtain ⟨ps, rfl, hp⟩ := qgy fun r hr => xd3 (h3 r hr)
 exact ⟨⟨a1, a2, ps⟩, by rw [q22]; rfl, ⟨i1, i2, fun p h => (hp p h).1⟩, by simpa using l3, fun p h => (hp p h).2⟩
end Go.Proofs.YtinnaedmdoengaaGreat
namespace Go.Proofs.YtinnaedmdoengaaGreat
open Go.Abs
set_option linter.unusedSimpArgs false
set_option maxRecDepth 100000
theorem xg2 {n : Nat} {ds : List D} (h : Shp Tryz.prog (n + 7) 70 ds) : ∃ a b : Qu, ds = encQ a ++ encQ b ∧ (a.I ∧ a.items.length ≤ maxLen ∧ ∀ p ∈ a.items, p.values.length ≤ maxLen) ∧ (b.I ∧ b.items.length ≤ maxLen ∧ ∀ p ∈ b.items, p.values.length ≤ maxLen) := by
 rw [Shp] at h
 simp only [Tryz.underlying70, ShpA] at h
 obtain ⟨_, _, rfl, h1, _, _, rfl, h2, rfl⟩ := h
 obtain ⟨a, rfl, ha⟩ := xcg h1
 obtain ⟨b, rfl, hb⟩ := xcg h2
 exact ⟨a, b, by rw [List.append_nil], ha, hb⟩
theorem xg3 (a b : Qu) : argS Tryz.prog 70 (encQ a ++ encQ b) = .d (.agg (encQ a ++ encQ b)) := by simp only [argS, Tryz.underlying70]
end Go.Proofs.YtinnaedmdoengaaGreat
