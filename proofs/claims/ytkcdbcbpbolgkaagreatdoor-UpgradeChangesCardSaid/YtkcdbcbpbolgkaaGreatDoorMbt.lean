/- Texts Tq. -/
import Derived.Test.YtkcdbcbpbolgkaaGreatDoorMbs
import Derived.Test.YtkcdbcbpbolgkaaGreatDoorRows
import Derived.Calls
import Derived.Orders
import Derived.Tactics
import Derived.Laws.AppendOwn
import Derived.Laws.Slices
import Derived.Laws.Closers25
import Derived.Laws.StructEq
import Derived.Laws.BytesString
import Derived.Laws.CopyRow
import Derived.MapKept
import Derived.Maps.RangeRun
import Derived.TacticsIn
import Derived.OrdersIn
import Derived.RangeFuncRecord
import Derived.RangeFuncLeaves
import Derived.IntWalk
import Derived.ProofKit
import Derived.OpenShut
import Derived.Carry
import Derived.Test.YtkcdbcbpbolgkaaGreatDoorProg
import Derived.KernelRfl
import Derived.OwnWalkIn
import Derived.TacticsInMore
import Derived.LoopIn
import Derived.WalkKit
import Derived.Lib.Strings
import Derived.Lib.Slices
import Derived.Lib.Walk
import Derived.Lib.Bytealg
import Derived.Shelf.SlSortCmp.WholeK
import Derived.Shelf.SlSortCmp.NoneTotal
import Derived.Shelf.Spec.SlicesInsertGrow
import Derived.LaidLaws
import Derived.FnData

namespace Go.Proofs.YtkcdbcbpbolgkaaGreatDoor
open Go.Abs Go.RowKit
set_option linter.unusedSimpArgs false
set_option maxRecDepth 100000
theorem xkn {n : Nat} {ds : List D} (h : Shp Tryz.prog (n + 1) 4 ds) : ∃ x, ds = encB x := by
 simp only [Shp, Tryz.underlying4] at h
 obtain ⟨x, rfl⟩ := h
 exact ⟨x, rfl⟩
theorem q4p : Tryz.prog.cellsOf 4 = 1 := by kernel_rfl
theorem q4q : Tryz.prog.cellsOf 170 = 4 := by kernel_rfl
theorem xgo {n : Nat} {ds : List D} (h : Shp Tryz.prog (n + 4) 170 ds) : ∃ x : Ue, ds = qf x := by
 rw [Shp] at h
 simp only [Tryz.underlying170, q23] at h
 obtain ⟨_, _, rfl, h1, _, _, rfl, h2, _, _, rfl, h3, _, _, rfl, h4, rfl⟩ := h
 obtain ⟨a1, rfl, _⟩ := q1i h1
 obtain ⟨a2, rfl, _⟩ := q1i h2
 rw [Shp] at h3 h4
 simp only [Tryz.underlying161] at h3 h4
 obtain ⟨r3, rfl, l3, h3⟩ := h3
 obtain ⟨r4, rfl, l4, h4⟩ := h4
 obtain ⟨ms, rfl, _⟩ := qjx (Q := fun _ => True) fun r hr => (xkn (h3 r hr)).imp fun _ h => ⟨h, trivial⟩
 obtain ⟨os, rfl, _⟩ := qjx (Q := fun _ => True) fun r hr => (xkn (h4 r hr)).imp fun _ h => ⟨h, trivial⟩
 exact ⟨⟨a1, a2, ms, os⟩, by rw [q4p]; rfl⟩
theorem xek {n : Nat} {ds : List D} (h : Shp Tryz.prog (n + 6) 57 ds) : ∃ m : Mg, ds = qj m ∧ m.ents.length ≤ maxLen := by
 rw [Shp] at h
 simp only [Tryz.underlying57, q23] at h
 obtain ⟨_, _, rfl, h1, _, _, rfl, h2, rfl⟩ := h
 obtain ⟨a1, rfl, _⟩ := q1i h1
 rw [Shp] at h2
 simp only [Tryz.underlying55] at h2
 obtain ⟨r2, rfl, l2, h2⟩ := h2
 obtain ⟨es, rfl, _⟩ := qjx (Q := fun _ => True) fun r hr => (xgo (h2 r hr)).imp fun _ h => ⟨h, trivial⟩
 exact ⟨⟨a1, es⟩, by rw [q4q]; rfl, by simpa using l2⟩
theorem xj9 {n : Nat} {ds : List D} (h : Shp Tryz.prog (n + 7) 58 ds) : ∃ a b : Mg, ds = qj a ++ qj b ∧ a.ents.length ≤ maxLen ∧ b.ents.length ≤ maxLen := by
 rw [Shp] at h
 simp only [Tryz.underlying58, ShpA] at h
 obtain ⟨_, _, rfl, h1, _, _, rfl, h2, rfl⟩ := h
 obtain ⟨a, rfl, ha⟩ := xek h1
 obtain ⟨b, rfl, hb⟩ := xek h2
 exact ⟨a, b, by rw [List.append_nil], ha, hb⟩
theorem xka (a b : Mg) : argS Tryz.prog 58 (qj a ++ qj b) = .d (.agg (qj a ++ qj b)) := by simp only [argS, Tryz.underlying58]
theorem xi2 (n : Int) : argS Tryz.prog 3 [.int .i64 n] = .d (.int .i64 n) := by simp only [argS, Tryz.underlying3]; rfl
theorem q1s {W : World} {n : String} {k g t : Nat} {cs : Array Value} {fuel : Nat} {p : List MemPlace} {nm : String} {d : DataW Unit} (hk : Tryz.prog.globalNamed n = some k) (ht : (Tryz.prog.globals[k]?).map (·.type) = some 291)
  (e1 : Tryz.prog.globalNamed n = some g) (e2 : (Tryz.prog.globals[g]?).map (·.type) = some t) (e3 : W.var? Tryz.prog n = some cs) (e4 : DataW.trod (fun _ => ()) Tryz.prog W 0 (fun _ => true) false fuel t cs.toList = some (.iface nm d, p)) :
  ∃ v, W.cell? ⟨k, 0, none⟩ = some v ∧ q9k v = true := by
 obtain rfl := Option.some.inj (hk.symm.trans e1)
 obtain rfl := Option.some.inj (ht.symm.trans e2)
 obtain ⟨_, u, v, hc, _⟩ := iface_of_trod Tryz.underlying291 e4
 have := World.var?_cell e1 e3 0
 refine ⟨.iface u v, ?_, rfl⟩
 rw [this, ← Array.getElem?_toList, hc]; rfl
theorem qzq {W : World} (h : laidMet Tryz.prog Rows.upgradeChangesRow.laid W) : qz9 W := by
 obtain ⟨ps, hv, _⟩ := h
 obtain ⟨_, _, _, _, _, _, _, _, _, _, hv, _⟩ := hv
 obtain ⟨_, _, _, _, _, _, _, _, _, _, hv, _⟩ := hv
 obtain ⟨_, _, _, _, _, _, _, _, _, _, hv, _⟩ := hv
 obtain ⟨_, _, _, _, _, _, a1, a2, a3, a4, hv, _⟩ := hv
 obtain ⟨_, _, _, _, _, _, b1, b2, b3, b4, _⟩ := hv
 have r := q1s (k := 2) (by kernel_rfl) (by kernel_rfl) a1 a2 a3 a4
 have s := q1s (k := 1) (by kernel_rfl) (by kernel_rfl) b1 b2 b3 b4
 intro k hk
 simp only [q1t, List.mem_cons, List.not_mem_nil, or_false] at hk
 rcases hk with rfl | rfl
 ·exact s
 ·exact r
theorem q4r {W : World} (h : laidMetH Tryz.prog Rows.upgradeChangesRow.laid W) : laidMet Tryz.prog Rows.upgradeChangesRow.laid W := h
end Go.Proofs.YtkcdbcbpbolgkaaGreatDoor
