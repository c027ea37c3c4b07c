/- QueueStored returns true for every input, and its input reads behind the call as before. -/
import Derived.Test.YtinnaedmdoengaaMnp
import Derived.Test.YtinnaedmdoengaaRows
import Derived.Calls
import Derived.Orders
import Derived.Tactics
import Derived.Laws.AppendOwn
import Derived.Laws.Slices
import Derived.Laws.Closers25
import Derived.Laws.StructEq
import Derived.Laws.BytesString
import Derived.Laws.CopyRow
import Derived.MapKept
import Derived.Maps.RangeRun
import Derived.TacticsIn
import Derived.OrdersIn
import Derived.RangeFuncRecord
import Derived.RangeFuncLeaves
import Derived.IntWalk
import Derived.ProofKit
import Derived.OpenShut
import Derived.Carry
import Derived.Test.YtinnaedmdoengaaProg
import Derived.KernelRfl
import Derived.OwnWalkIn
import Derived.TacticsInMore
import Derived.LoopIn
import Derived.WalkKit
import Derived.Lib.Strings
import Derived.Lib.Slices
import Derived.Lib.Walk
import Derived.Lib.Bytealg
import Derived.Shelf.SlSortCmp.WholeK
import Derived.Shelf.SlSortCmp.NoneTotal

namespace Go.Proofs.Ytinnaedmdoengaa
open Go.Abs Go.ChangeShapes Go.WideShapes Go.ChangeAt Go.RowKit
set_option linter.unusedSimpArgs false
theorem own : ownKnob Try.prog.godebug = none := by kernel_rfl
theorem zi3 : laidOutB Try.prog = true := by kernel_rfl
set_option maxRecDepth 100000 in
theorem x4d (os : Os) (started : os.Started) (H : Type) (enc : TypeId × Value → H) :
  ReturnsInHanded {} Try.checked os 5 .any (Rows.queueStoredSpec.pre6 enc Try.prog Try.f5 Rows.queueStoredRow.domain false) (Rows.queueStoredSpec.post enc Try.prog Try.f5 false true false false) := by
 refine returnsInHanded_of_change (C := Try.checked) own started (by kernel_rfl) Try.func5
  (ChangeSpec.witness6 (enc := enc) (C := Try.checked) false ⟨#[], #[.slice none 0 0, .int .u8 0], []⟩ 8 (by kernel_rfl) (by kernel_rfl) (by kernel_rfl) (by kernel_rfl)) ?_
 intro W base args ds gs before hval hW _ _
 refine qxm (n := 8) (base := base) (tb := 4) zi3 (by kernel_rfl) (by kernel_rfl) (by kernel_rfl) Try.underlying4 rfl ?_ ?_ hW hval
 ·intro ds hl
  have hl' : ds.length = 2 := by rw [hl]; kernel_rfl
  match ds, hl' with
  | [d1, d2], _ => rfl
 ·rw [Try.params5]
  intro a1 s1 a2 s2
  obtain ⟨l, rfl, hl⟩ := qv4 s1
  obtain ⟨n, rfl, hn⟩ := x39 s2
  simp only [List.nil_append, List.cons_append, qv5, zgq, q23]
  exact qkm l n hn hl
theorem x4y : Rows.queueStoredRow.holds Try.pinned (OpenSpec.ofChange Rows.queueStoredSpec) :=
 OpenClaim.holds_of_wide 5 Try.f5 rfl rfl rfl rfl rfl rfl rfl ⟨rfl, rfl, rfl, rfl, rfl⟩ rfl rfl rfl rfl rfl (by kernel_rfl) Try.func5 (by kernel_rfl)
  (of_decide_eq_true (by kernel_rfl)) (by unfold Func.isWrapper; first | (rw [if_pos (by decide +kernel)]; kernel_rfl) | (rw [if_neg (by decide +kernel)]; exact ⟨rfl, rfl⟩))
  (fun os started H enc _ => x4d os started H enc)
theorem proved : Rows.QueueStoredSaid := x4y
end Go.Proofs.Ytinnaedmdoengaa
