/- Texts Kx. -/
import Derived.Test.YtkcdbcbpbolgkaaGreatDoorMns
import Derived.Test.YtkcdbcbpbolgkaaGreatDoorRows
import Derived.Calls
import Derived.Orders
import Derived.Tactics
import Derived.Laws.AppendOwn
import Derived.Laws.Slices
import Derived.Laws.Closers25
import Derived.Laws.StructEq
import Derived.Laws.BytesString
import Derived.Laws.CopyRow
import Derived.MapKept
import Derived.Maps.RangeRun
import Derived.TacticsIn
import Derived.OrdersIn
import Derived.RangeFuncRecord
import Derived.RangeFuncLeaves
import Derived.IntWalk
import Derived.ProofKit
import Derived.OpenShut
import Derived.Carry
import Derived.Test.YtkcdbcbpbolgkaaGreatDoorProg
import Derived.KernelRfl
import Derived.OwnWalkIn
import Derived.TacticsInMore
import Derived.LoopIn
import Derived.WalkKit
import Derived.Lib.Strings
import Derived.Lib.Slices
import Derived.Lib.Walk
import Derived.Lib.Bytealg
import Derived.Shelf.SlSortCmp.WholeK
import Derived.Shelf.SlSortCmp.NoneTotal
import Derived.Shelf.Spec.SlicesInsertGrow
import Derived.JoinedOf
import Derived.LaidLaws
import Derived.LaidHandle

namespace Go.Proofs.YtkcdbcbpbolgkaaGreatDoor
open Go.Abs Go.ChangeShapes Go.WideShapes Go.ChangeAt Go.RowKit
set_option linter.unusedSimpArgs false
theorem own : ownKnob Tryz.prog.godebug = none := by kernel_rfl
theorem laid : laidOutB Tryz.prog = true := by kernel_rfl
noncomputable def low : Nat := (World.holding Tryz.prog default ⟨#[], #[], []⟩).heap.size
abbrev xsd : ByteArray := { data := #[118, 97, 108, 117, 101, 32, 111, 117, 116, 32, 111, 102, 32, 114, 97, 110, 103, 101] }
abbrev xse : ByteArray := { data := #[105, 110, 118, 97, 108, 105, 100, 32, 115, 121, 110, 116, 97, 120] }
def qxc : DataW Unit → Array Value
 | .agg ds => (ds.map fun | .lit (.int k n) => Value.int k n | _ => .nilIface).toArray
 | _ => #[]
def qrr (c : Array Value) : Obj → Obj
 | .cells _ t f => .cells c t f
 | o => o
noncomputable def q1k (os : Os) : World :=
 let w0 := World.holding Tryz.prog os ⟨#[.cells #[.string xsd] 426, .cells #[.string xse] 426], #[], []⟩
 {w0 with heap := ((((w0.heap.modify 1 (qrr #[.iface 424 (.pointer (some ⟨low + 1, 0, none⟩))])).modify 2 (qrr #[.iface 424 (.pointer (some ⟨low, 0, none⟩))])).modify 3 (qrr (qxc Rows.laid_internal_strconv_uint64pow10))).modify 4
  (qrr (qxc Rows.laid_math_bits_deBruijn32tab))).modify 5 (qrr (qxc Rows.laid_math_bits_deBruijn64tab)) }
theorem qxd (os : Os) (args : Array Value) : laidMetH Tryz.prog Rows.brokerNilRow.laid ((q1k os).forCall (fun _ _ => 0) ⟨#[], args, []⟩).memory :=
 laidMetH_of_parts (laidMet_of_run' 8 (by kernel_rfl) (by kernel_rfl)) (by kernel_rfl)
set_option maxRecDepth 100000 in
theorem xqu (os : Os) (started : os.Started) (H : Type) (enc : TypeId × Value → H) :
  ReturnsInHanded {} Tryz.checked os 6 .any (fun w args => (Rows.brokerNilSpec.pre enc Tryz.prog Tryz.f6 [] false w args ∧ laidMetH Tryz.prog Rows.brokerNilRow.laid w) ∧ sizedMet enc Tryz.prog Tryz.f6 (OpenSpec.ofChange Rows.brokerNilSpec) false w args)
   (Rows.brokerNilSpec.post enc Tryz.prog Tryz.f6 false true false false) := by
 refine returnsInHanded_of_change_and (C := Tryz.checked) (X := fun w _ => laidMetH Tryz.prog Rows.brokerNilRow.laid w) (fun _ _ _ hh h => h.of_heap hh) own started (by kernel_rfl) Tryz.func6
  (ChangeSpec.witness_at (enc := enc) (C := Tryz.checked) (os := os) (X := fun w _ => laidMetH Tryz.prog Rows.brokerNilRow.laid w) false (q1k os) #[.agg #[.int .i64 0, .int .i64 0, .int .i64 0, .int .i64 0, .int .i64 0, .int .i64 0, .int .i64 0, .slice none 0 0, .slice none 0 0], .int .i64 0] 8 rfl (by kernel_rfl) (by kernel_rfl) (by kernel_rfl) (by kernel_rfl) (by kernel_rfl) (qxd os _)) ?_
 intro W base args ds gs before hval hW _ _ _ _
 refine xbi (n := 8) (base := base) (tb := 4) laid (by kernel_rfl) (by kernel_rfl) (by kernel_rfl) Tryz.underlying4 rfl ?_ ?_ hW hval
 ·intro ds hl
  have hl' : ds.length = 2 := by rw [hl]; kernel_rfl
  match ds, hl' with
  | [d1, d2], _ => rfl
 ·rw [Tryz.params6]
  intro a1_ s1 a2_ s2
  obtain ⟨x1, rfl, i1, v1⟩ := xe5 s1
  obtain ⟨x2, rfl, i2⟩ := xe3 s2
  simp only [List.nil_append, List.cons_append, xns, xtc, xg1]
  exact q1j x1 x2 v1
end Go.Proofs.YtkcdbcbpbolgkaaGreatDoor
