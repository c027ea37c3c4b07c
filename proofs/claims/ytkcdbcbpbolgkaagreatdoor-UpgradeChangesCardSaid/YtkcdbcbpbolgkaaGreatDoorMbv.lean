/- Texts Tt. -/
import Derived.Test.YtkcdbcbpbolgkaaGreatDoorMbu
import Derived.Test.YtkcdbcbpbolgkaaGreatDoorRows
import Derived.Calls
import Derived.Orders
import Derived.Tactics
import Derived.Laws.AppendOwn
import Derived.Laws.Slices
import Derived.Laws.Closers25
import Derived.Laws.StructEq
import Derived.Laws.BytesString
import Derived.Laws.CopyRow
import Derived.MapKept
import Derived.Maps.RangeRun
import Derived.TacticsIn
import Derived.OrdersIn
import Derived.RangeFuncRecord
import Derived.RangeFuncLeaves
import Derived.IntWalk
import Derived.ProofKit
import Derived.OpenShut
import Derived.Carry
import Derived.Test.YtkcdbcbpbolgkaaGreatDoorProg
import Derived.KernelRfl
import Derived.OwnWalkIn
import Derived.TacticsInMore
import Derived.LoopIn
import Derived.WalkKit
import Derived.Lib.Strings
import Derived.Lib.Slices
import Derived.Lib.Walk
import Derived.Lib.Bytealg
import Derived.Shelf.SlSortCmp.WholeK
import Derived.Shelf.SlSortCmp.NoneTotal
import Derived.Shelf.Spec.SlicesInsertGrow
import Derived.Shelf.Strconv.AtoiAll
import Derived.LaidLaws
import Derived.FnData
import Derived.JoinedOf
import Derived.LaidHandle
import Derived.LaidSub

namespace Go.Proofs.YtkcdbcbpbolgkaaGreatDoor
open Go.Abs Go.ChangeShapes Go.WideShapes Go.ChangeAt Go.RowKit
set_option linter.unusedSimpArgs false
set_option maxHeartbeats 20000000 in
theorem xi4 : joinedFacts Tryz.pinned.checked.prog 4 Tryz.f4 Rows.upgradeChangesSpec Rows.upgradeChangesRow = true := by
 unfold joinedFacts
 simp only [Bool.and_eq_true]
 repeat' apply And.intro
 all_goals (as_aux_lemma => kernel_rfl)
theorem xkd : Tryz.pinned.checked.prog.funcNamed Rows.upgradeChangesRow.func = some 4 := by kernel_rfl
theorem xke : Tryz.f4.isInstance Tryz.pinned.checked.prog Rows.upgradeChangesRow.origin Rows.upgradeChangesRow.targs := of_decide_eq_true (by kernel_rfl)
theorem xjk : Rows.upgradeChangesRow.holds Tryz.pinned (OpenSpec.ofChange Rows.upgradeChangesSpec) :=
 OpenClaim.holds_of_wide 4 Tryz.f4 rfl rfl rfl rfl rfl rfl rfl ⟨rfl, rfl, rfl, rfl, rfl⟩ rfl rfl rfl rfl rfl xkd Tryz.func4 xi4
  xke (by unfold Func.isWrapper; first | (rw [if_pos (by decide +kernel)]; kernel_rfl) | (rw [if_neg (by decide +kernel)]; exact ⟨rfl, rfl⟩))
  (fun os started H enc _ => xi3 os started H enc)
end Go.Proofs.YtkcdbcbpbolgkaaGreatDoor
