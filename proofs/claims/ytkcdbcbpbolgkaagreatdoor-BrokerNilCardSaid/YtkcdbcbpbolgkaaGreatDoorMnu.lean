/- Texts Ky. -/
import Derived.Test.YtkcdbcbpbolgkaaGreatDoorMnt
import Derived.Test.YtkcdbcbpbolgkaaGreatDoorRows
import Derived.Calls
import Derived.Orders
import Derived.Tactics
import Derived.Laws.AppendOwn
import Derived.Laws.Slices
import Derived.Laws.Closers25
import Derived.Laws.StructEq
import Derived.Laws.BytesString
import Derived.Laws.CopyRow
import Derived.MapKept
import Derived.Maps.RangeRun
import Derived.TacticsIn
import Derived.OrdersIn
import Derived.RangeFuncRecord
import Derived.RangeFuncLeaves
import Derived.IntWalk
import Derived.ProofKit
import Derived.OpenShut
import Derived.Carry
import Derived.Test.YtkcdbcbpbolgkaaGreatDoorProg
import Derived.KernelRfl
import Derived.OwnWalkIn
import Derived.TacticsInMore
import Derived.LoopIn
import Derived.WalkKit
import Derived.Lib.Strings
import Derived.Lib.Slices
import Derived.Lib.Walk
import Derived.Lib.Bytealg
import Derived.Shelf.SlSortCmp.WholeK
import Derived.Shelf.SlSortCmp.NoneTotal
import Derived.Shelf.Spec.SlicesInsertGrow
import Derived.JoinedOf
import Derived.LaidLaws
import Derived.LaidHandle
import Derived.LaidSub

namespace Go.Proofs.YtkcdbcbpbolgkaaGreatDoor
open Go.Abs Go.ChangeShapes Go.WideShapes Go.ChangeAt Go.RowKit
set_option linter.unusedSimpArgs false
set_option maxHeartbeats 20000000 in
theorem xqv : joinedFacts Tryz.pinned.checked.prog 6 Tryz.f6 Rows.brokerNilSpec Rows.brokerNilRow = true := by
 unfold joinedFacts
 simp only [Bool.and_eq_true]
 repeat' apply And.intro
 all_goals (as_aux_lemma => kernel_rfl)
theorem xsf : Tryz.pinned.checked.prog.funcNamed Rows.brokerNilRow.func = some 6 := by kernel_rfl
theorem xsg : Tryz.f6.isInstance Tryz.pinned.checked.prog Rows.brokerNilRow.origin Rows.brokerNilRow.targs := of_decide_eq_true (by kernel_rfl)
theorem xrb : Rows.brokerNilRow.holds Tryz.pinned (OpenSpec.ofChange Rows.brokerNilSpec) :=
 OpenClaim.holds_of_wide 6 Tryz.f6 rfl rfl rfl rfl rfl rfl rfl ⟨rfl, rfl, rfl, rfl, rfl⟩ rfl rfl rfl rfl rfl xsf Tryz.func6 xqv
  xsg (by unfold Func.isWrapper; first | (rw [if_pos (by decide +kernel)]; kernel_rfl) | (rw [if_neg (by decide +kernel)]; exact ⟨rfl, rfl⟩))
  (fun os started H enc _ => xqu os started H enc)
end Go.Proofs.YtkcdbcbpbolgkaaGreatDoor
