/- Texts Ku, Km, Kv, Kw. -/
import Derived.Test.YtkcdbcbpbolgkaaGreatDoorMnr
import Derived.Calls
import Derived.Orders
import Derived.Tactics
import Derived.Laws.AppendOwn
import Derived.Laws.Slices
import Derived.Laws.Closers25
import Derived.Laws.StructEq
import Derived.Laws.BytesString
import Derived.Laws.CopyRow
import Derived.MapKept
import Derived.Maps.RangeRun
import Derived.TacticsIn
import Derived.OrdersIn
import Derived.RangeFuncRecord
import Derived.RangeFuncLeaves
import Derived.IntWalk
import Derived.ProofKit
import Derived.OpenShut
import Derived.Carry
import Derived.Test.YtkcdbcbpbolgkaaGreatDoorProg
import Derived.KernelRfl
import Derived.OwnWalkIn
import Derived.TacticsInMore
import Derived.LoopIn
import Derived.WalkKit
import Derived.Lib.Strings
import Derived.Lib.Slices
import Derived.Lib.Walk
import Derived.Lib.Bytealg
import Derived.Shelf.SlSortCmp.WholeK
import Derived.Shelf.SlSortCmp.NoneTotal
import Derived.Shelf.Spec.SlicesInsertGrow

namespace Go.Proofs.YtkcdbcbpbolgkaaGreatDoor
open Go.Abs
set_option linter.unusedSimpArgs false
set_option linter.unusedVariables false
attribute [-go_sem] qgs
noncomputable section
set_option maxRecDepth 100000
set_option linter.defProp false
def d11d := cut Tryz.prog Tryz.f11 news [8, 19, 21, 23, 25]
@[go_sem] def E11d := qj d11d
def F11d := fnC d11d follows Tryz.func11
end
set_option maxRecDepth 10000 in
theorem qug : qf Tryz.prog 11 [] [] (.d (.bool true)) [] := by
 obtain ⟨s', c, hr, H1⟩ := q9s
 have H2 := H1.tick 0
 have H3 := H2.tick 7
 have k0 := xnn 2 1 (by decide)
 have kr := xez xj1 (xeu xj1) (by decide) (v7 1) xe1 xnr
 have hb : wm ((2 : Nat) : Int) ((1 : Nat) : Int) = wm 2 1 := rfl
 rw [hb, hr] at kr
 have k1 := q4i xj1 H1 (by decide) (by decide) 0
 have k2 := q4i xj1 H2 (by decide) (by decide) 7
 have k3 := q4i xj1 H3 (by decide) (by decide) 8
 have km := q1i
 have ke := qls (v7 1) (v7 1) xe1.v xe1.c
 simp only [qe, v7, decide_true] at ke
 have e1 : qw7 (awB s') 0 2 1 = [⟨0, qwx (v7 1)⟩, ⟨1, v7 1⟩] := congrArg Prod.snd (xqr s')
 have e2 : qw7 (aw1 s') 7 2 1 = [] := congrArg Prod.snd (xqs s')
 have e3 : qw7 (aw2 s') 8 2 1 = [⟨1, v7 1⟩] := xr9 s'
 rw [e1] at k1
 rw [show qgr (awB s') 0 2 1 = aw1 s' from rfl] at k1 k2
 rw [e2] at k2
 rw [show qgr (aw1 s') 7 2 1 = aw2 s' from rfl] at k2
 rw [show qgr (qgr (awB s') 0 2 1) 7 2 1 = aw2 s' from rfl, e3] at k3
 generalize qgr (aw2 s') 8 2 1 = b3 at k3
 clear H1 H2 H3 e1 e2 e3 hr hb
 generalize awB s' = b0 at kr k1
 generalize aw1 s' = b1 at k1 k2
 generalize aw2 s' = b2 at k2 k3
 simp only [brO, tkO, qt, xe0, stoO, mapO, qmO, tmO, List.map_cons, List.map_nil] at k0 kr k1 k2 k3
 refine F11d.go ?_
 try (refine ev ?_; try exact True.intro)
 refine clT [0, 1, 2, 3, 4] F45n k0 ?_
 try (refine ev ?_; try exact True.intro)
 (repeat (with_reducible refine ob ?_)); refine no_ ?_
 try (refine ev ?_; try exact True.intro)
 (repeat (with_reducible refine ob ?_)); first | refine cl F60 (km) ?_ | refine clF F60 (km) (fun _ => by (refine ev2 @qe.eq_1 @xk.eq_1 ?_; try exact True.intro)) ?_
 try (refine ev ?_; try exact True.intro)
 cases c
 ·simp only [afB, qt, stoO, mapO, qmO, tmO] at kr
  refine clT [0, 1, 2, 3, 4, 5] F21d kr ?_
  try (refine ev ?_; try exact True.intro)
  refine clT [0, 1, 2, 3, 4, 6] F14t k1 ?_
  try (refine ev ?_; try exact True.intro)
  refine clT [0, 1, 2, 3, 6, 7] F14t k2 ?_
  try (refine ev ?_; try exact True.intro)
  refine clT [0, 1, 2, 3, 7, 8] F14t k3 ?_
  try (refine ev5 @List.map_nil.{0,0} @xk.eq_1 @qwx.eq_1 @qe.eq_1 @v7.eq_1 ?_; try exact True.intro)
  (repeat (with_reducible refine ob ?_)); first | refine cl F60 (km) ?_ | refine clF F60 (km) (fun _ => by (refine ev2 @qe.eq_1 @xk.eq_1 ?_; try exact True.intro)) ?_
  try (refine ev2 @qe.eq_1 @v7.eq_1 ?_; try exact True.intro)
  (repeat (with_reducible refine ob ?_)); first | refine cl F17 (ke) ?_ | refine clF F17 (ke) (fun _ => by (refine ev2 @qe.eq_1 @xk.eq_1 ?_; try exact True.intro)) ?_
  try (refine ev1 @List.map_nil.{0,0} ?_; try exact True.intro)
 ·simp only [afB, qt, stoO, mapO, qmO, tmO] at kr
  refine clT [0, 1, 2, 3, 4, 5] F21d kr ?_
  try (refine ev ?_; try exact True.intro)
  refine clT [0, 1, 5, 3, 4, 6] F14t k1 ?_
  try (refine ev ?_; try exact True.intro)
  refine clT [0, 1, 5, 3, 6, 7] F14t k2 ?_
  try (refine ev ?_; try exact True.intro)
  refine clT [0, 1, 5, 3, 7, 8] F14t k3 ?_
  try (refine ev5 @List.map_nil.{0,0} @xk.eq_1 @qwx.eq_1 @qe.eq_1 @v7.eq_1 ?_; try exact True.intro)
  (repeat (with_reducible refine ob ?_)); first | refine cl F60 (km) ?_ | refine clF F60 (km) (fun _ => by (refine ev2 @qe.eq_1 @xk.eq_1 ?_; try exact True.intro)) ?_
  try (refine ev2 @qe.eq_1 @v7.eq_1 ?_; try exact True.intro)
  (repeat (with_reducible refine ob ?_)); first | refine cl F17 (ke) ?_ | refine clF F17 (ke) (fun _ => by (refine ev2 @qe.eq_1 @xk.eq_1 ?_; try exact True.intro)) ?_
  try (refine ev1 @List.map_nil.{0,0} ?_; try exact True.intro)
end Go.Proofs.YtkcdbcbpbolgkaaGreatDoor
namespace Go.Proofs.YtkcdbcbpbolgkaaGreatDoor
open Go.Abs
set_option linter.unusedSimpArgs false
set_option linter.unusedVariables false
attribute [-go_sem] qgs
noncomputable section
set_option maxRecDepth 100000
set_option linter.defProp false
def d16d := cut Tryz.prog Tryz.f16 news [] [] true
@[go_sem] def E16d := qj d16d
def F16d := fnC d16d follows Tryz.func16
def d19d := cut Tryz.prog Tryz.f19 news [] [] true
@[go_sem] def E19d := qj d19d
def F19d := fnC d19d follows Tryz.func19
end
theorem qxb (s f t : Int) : qf Tryz.prog 16 [.d .nilptr, .d (.int .i64 s), .d (.int .i64 f), .d (.int .i64 t)] [] (.d (.agg (encQ ⟨0, 0, []⟩))) [] := by
 refine F16d.go ?_
 try (refine ev ?_; try exact True.intro)
 (repeat (with_reducible refine ob ?_)); refine qbv ?_
 try (refine ev ?_; try exact True.intro)
 refine pu ?_
 try (refine ev2 @encQ.eq_1 @List.map_nil.{0,0} ?_; try exact True.intro)
theorem qrq : qf Tryz.prog 19 [.d .nilptr] [] (.d (.agg (qx ⟨0, []⟩))) [] := by
 refine F19d.go ?_
 try (refine ev ?_; try exact True.intro)
 (repeat (with_reducible refine ob ?_)); refine qbv ?_
 try (refine ev ?_; try exact True.intro)
 refine pu ?_
 try (refine ev2 @qx.eq_1 @List.map_nil.{0,0} ?_; try exact True.intro)
end Go.Proofs.YtkcdbcbpbolgkaaGreatDoor
namespace Go.Proofs.YtkcdbcbpbolgkaaGreatDoor
open Go.Abs
set_option linter.unusedSimpArgs false
set_option linter.unusedVariables false
attribute [-go_sem] qgs
noncomputable section
set_option maxRecDepth 100000
set_option linter.defProp false
def d6n := cut Tryz.prog Tryz.f6 news
@[go_sem] def E6n := qj d6n
def F6n := fnC d6n follows Tryz.func6
def d42n := cut Tryz.prog Tryz.f42 news
@[go_sem] def E42n := qj d42n
def F42n := fnC d42n follows Tryz.func42
end
theorem qnl : qf Tryz.prog 42 [.d .nilptr] [] (.d (.bool false)) [] := by
 refine F42n.go ?_
 try (refine ev ?_; try exact True.intro)
 (repeat (with_reducible refine ob ?_)); refine qbv ?_
 try (refine ev ?_; try exact True.intro)
theorem q9t : qf Tryz.prog 38 [.d .nilptr] [] (.d (.agg (yd [] 0))) [] := by
 refine F38.go ?_
 try (refine ev ?_; try exact True.intro)
 (repeat (with_reducible refine ob ?_)); refine qbv ?_
 try (refine ev2 @yd.eq_1 @qs ?_; try exact True.intro)
set_option maxRecDepth 10000 in
theorem q1j (p : Pk) (n : Int) (hp : p.values.length ≤ maxLen) : qf Tryz.prog 6 [.d (.agg (qe p)), .d (.int .i64 n)] [] (.d (.bool true)) [] := by
 have kf := q5p p hp
 have k1 := q1g p
 have k2 := qwy n
 have k3 := q9p n
 have k4 := qxb 1 0 1
 have k5 := xb6 ⟨0, 0, []⟩ ⟨0, 0, []⟩ ⟨by simp, by simp⟩
 have k6 := qrq
 have k7 := q8f ⟨0, []⟩ ⟨0, []⟩ ⟨by simp, by simp⟩
 have k9 := q9t
 simp only [qe] at kf k1
 simp only [encQ, List.map_nil, decide_true] at k4 k5
 simp only [qx, List.map_nil, decide_true] at k6 k7
 simp only [yd, qs] at k9
 refine F6n.go ?_
 try (refine ev1 @qe.eq_1 ?_; try exact True.intro)
 (repeat (with_reducible refine ob ?_)); first | refine cl F11d (qug) ?_ | refine clF F11d (qug) (fun _ => by (refine ev4 @qe.eq_1 @xk.eq_1 @encQ.eq_1 @qx.eq_1 ?_; try exact True.intro)) ?_
 try (refine ev ?_; try exact True.intro)
 (repeat (with_reducible refine ob ?_)); refine no_ ?_
 try (refine ev ?_; try exact True.intro)
 (repeat (with_reducible refine ob ?_)); first | refine cl F36 (kf) ?_ | refine clF F36 (kf) (fun _ => by (refine ev4 @qe.eq_1 @xk.eq_1 @encQ.eq_1 @qx.eq_1 ?_; try exact True.intro)) ?_
 try (refine ev ?_; try exact True.intro)
 refine xq _ (fun h => ?_) (fun h => ?_)
 ·try (refine ev ?_; try exact True.intro)
 try (refine ev ?_; try exact True.intro)
 (repeat (with_reducible refine ob ?_)); first | refine cl F21d (k1) ?_ | refine clF F21d (k1) (fun _ => by (refine ev4 @qe.eq_1 @xk.eq_1 @encQ.eq_1 @qx.eq_1 ?_; try exact True.intro)) ?_
 try (refine ev ?_; try exact True.intro)
 (repeat (with_reducible refine ob ?_)); first | refine cl F41d (k2) ?_ | refine clF F41d (k2) (fun _ => by (refine ev4 @qe.eq_1 @xk.eq_1 @encQ.eq_1 @qx.eq_1 ?_; try exact True.intro)) ?_
 try (refine ev ?_; try exact True.intro)
 (repeat (with_reducible refine ob ?_)); first | refine cl F14t (k3) ?_ | refine clF F14t (k3) (fun _ => by (refine ev4 @qe.eq_1 @xk.eq_1 @encQ.eq_1 @qx.eq_1 ?_; try exact True.intro)) ?_
 try (refine ev ?_; try exact True.intro)
 (repeat (with_reducible refine ob ?_)); first | refine cl F16d (k4) ?_ | refine clF F16d (k4) (fun _ => by (refine ev4 @qe.eq_1 @xk.eq_1 @encQ.eq_1 @qx.eq_1 ?_; try exact True.intro)) ?_
 try (refine ev ?_; try exact True.intro)
 (repeat (with_reducible refine ob ?_)); first | refine cl F39 (k5) ?_ | refine clF F39 (k5) (fun _ => by (refine ev4 @qe.eq_1 @xk.eq_1 @encQ.eq_1 @qx.eq_1 ?_; try exact True.intro)) ?_
 try (refine ev ?_; try exact True.intro)
 (repeat (with_reducible refine ob ?_)); first | refine cl F19d (k6) ?_ | refine clF F19d (k6) (fun _ => by (refine ev4 @qe.eq_1 @xk.eq_1 @encQ.eq_1 @qx.eq_1 ?_; try exact True.intro)) ?_
 try (refine ev ?_; try exact True.intro)
 (repeat (with_reducible refine ob ?_)); first | refine cl F40 (k7) ?_ | refine clF F40 (k7) (fun _ => by (refine ev4 @qe.eq_1 @xk.eq_1 @encQ.eq_1 @qx.eq_1 ?_; try exact True.intro)) ?_
 try (refine ev ?_; try exact True.intro)
 (repeat (with_reducible refine ob ?_)); first | refine cl F42n (qnl) ?_ | refine clF F42n (qnl) (fun _ => by (refine ev4 @qe.eq_1 @xk.eq_1 @encQ.eq_1 @qx.eq_1 ?_; try exact True.intro)) ?_
 try (refine ev ?_; try exact True.intro)
 (repeat (with_reducible refine ob ?_)); first | refine cl F38 (k9) ?_ | refine clF F38 (k9) (fun _ => by (refine ev4 @qe.eq_1 @xk.eq_1 @encQ.eq_1 @qx.eq_1 ?_; try exact True.intro)) ?_
 try (refine ev ?_; try exact True.intro)
end Go.Proofs.YtkcdbcbpbolgkaaGreatDoor
namespace Go.Proofs.YtkcdbcbpbolgkaaGreatDoor
open Go.Abs
set_option linter.unusedSimpArgs false
set_option maxRecDepth 100000
structure Pk.I (p : Pk) : Prop where
 h : ∀ x ∈ kw p, I64 x
 v : ∀ x ∈ p.values, I64 x.kind ∧ I64 x.n
 c : ∀ x ∈ p.clock, I64 x
theorem xe3 {n : Nat} {ds : List D} (h : Shp Tryz.prog (n + 1) 3 ds) : ∃ x, ds = encI x ∧ I64 x := xqb h
theorem xsa {n : Nat} {ds : List D} (h : Shp Tryz.prog (n + 2) 158 ds) : ∃ v : AV, ds = xp v ∧ I64 v.kind ∧ I64 v.n := by
 simp only [Shp, Tryz.underlying158, qyu, Tryz.underlying3, Tryz.underlying9] at h
 obtain ⟨_, _, rfl, ⟨a, rfl, ha⟩, _, _, rfl, ⟨b, rfl, hb⟩, _, _, rfl, ⟨c, rfl, hc⟩, rfl⟩ := h
 exact ⟨⟨a, b, c⟩, rfl, xd1 ha, xd1 hb⟩
theorem xj2 : Tryz.prog.cellsOf 158 = 3 := by kernel_rfl
theorem xe4 : Tryz.prog.cellsOf 3 = 1 := by kernel_rfl
theorem xe5 {n : Nat} {ds : List D} (h : Shp Tryz.prog (n + 4) 90 ds) : ∃ p : Pk, ds = qe p ∧ p.I ∧ p.values.length ≤ maxLen := by
 rw [Shp] at h
 simp only [Tryz.underlying90, qyu] at h
 obtain ⟨_, _, rfl, h1, _, _, rfl, h2, _, _, rfl, h3, _, _, rfl, h4, _, _, rfl, h5, _, _, rfl, h6, _, _, rfl, h7, _, _, rfl, h8, _, _, rfl, h9, rfl⟩ := h
 obtain ⟨a1, rfl, i1⟩ := xe3 h1
 obtain ⟨a2, rfl, i2⟩ := xe3 h2
 obtain ⟨a3, rfl, i3⟩ := xe3 h3
 obtain ⟨a4, rfl, i4⟩ := xe3 h4
 obtain ⟨a5, rfl, i5⟩ := xe3 h5
 obtain ⟨a6, rfl, i6⟩ := xe3 h6
 obtain ⟨a7, rfl, i7⟩ := xe3 h7
 rw [Shp] at h8 h9
 simp only [Tryz.underlying30, Tryz.underlying31] at h8 h9
 obtain ⟨r8, rfl, l8, h8⟩ := h8
 obtain ⟨r9, rfl, l9, h9⟩ := h9
 obtain ⟨vs, rfl, iv⟩ := qmc fun r hr => xsa (h8 r hr)
 obtain ⟨ns, rfl, ic⟩ := qmc fun r hr => xe3 (h9 r hr)
 refine ⟨⟨a1, a2, a3, a4, a5, a6, a7, vs, ns⟩, by rw [xj2, xe4]; rfl, ⟨fun x hx => ?_, iv, ic⟩, by simpa using l8⟩
 simp only [kw, List.mem_cons, List.not_mem_nil, or_false] at hx
 rcases hx with rfl | rfl | rfl | rfl | rfl | rfl | rfl <;> assumption
theorem xns (q : Pk) : argS Tryz.prog 90 (qe q) = .d (.agg (qe q)) := by simp only [argS, Tryz.underlying90]
theorem xtc (n : Int) : argS Tryz.prog 3 (encI n) = .d (.int .i64 n) := by simp only [argS, Tryz.underlying3]; rfl
end Go.Proofs.YtkcdbcbpbolgkaaGreatDoor
