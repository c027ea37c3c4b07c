/- QueueReplaced returns true for every input, and its input reads behind the call as before. -/
import Derived.Test.YtinnaedmdoengaaGreatMpp
import Derived.Test.YtinnaedmdoengaaGreatRows
import Derived.Calls
import Derived.Orders
import Derived.Tactics
import Derived.Laws.AppendOwn
import Derived.Laws.Slices
import Derived.Laws.Closers25
import Derived.Laws.StructEq
import Derived.Laws.BytesString
import Derived.Laws.CopyRow
import Derived.MapKept
import Derived.Maps.RangeRun
import Derived.TacticsIn
import Derived.OrdersIn
import Derived.RangeFuncRecord
import Derived.RangeFuncLeaves
import Derived.IntWalk
import Derived.ProofKit
import Derived.OpenShut
import Derived.Carry
import Derived.Test.YtinnaedmdoengaaGreatProg
import Derived.KernelRfl
import Derived.OwnWalkIn
import Derived.TacticsInMore
import Derived.LoopIn
import Derived.WalkKit
import Derived.Lib.Strings
import Derived.Lib.Slices
import Derived.Lib.Walk
import Derived.Lib.Bytealg
import Derived.Shelf.SlSortCmp.WholeK
import Derived.Shelf.SlSortCmp.NoneTotal

namespace Go.Proofs.YtinnaedmdoengaaGreat
open Go.Abs Go.ChangeShapes Go.WideShapes Go.ChangeAt Go.RowKit
set_option linter.unusedSimpArgs false
theorem own : ownKnob Tryz.prog.godebug = none := by kernel_rfl
theorem zn1 : laidOutB Tryz.prog = true := by kernel_rfl
set_option maxRecDepth 100000 in
theorem x7w (os : Os) (started : os.Started) (H : Type) (enc : TypeId × Value → H) :
  ReturnsInHanded {} Tryz.checked os 3 .any (Rows.queueReplacedSpec.pre6 enc Tryz.prog Tryz.f3 Rows.queueReplacedRow.domain false) (Rows.queueReplacedSpec.post enc Tryz.prog Tryz.f3 false true false false) := by
 refine returnsInHanded_of_change (C := Tryz.checked) own started (by kernel_rfl) Tryz.func3
  (ChangeSpec.witness6 (enc := enc) (C := Tryz.checked) false ⟨#[], #[.agg #[.int .i64 0, .int .i64 0, .slice none 0 0], .agg #[.int .i64 0, .int .i64 0, .slice none 0 0]], []⟩ 8 (by kernel_rfl) (by kernel_rfl) (by kernel_rfl) (by kernel_rfl)) ?_
 intro W base args ds gs before hval hW _ _
 refine qx2 (n := 8) (base := base) (tb := 4) zn1 (by kernel_rfl) (by kernel_rfl) (by kernel_rfl) Tryz.underlying4 rfl ?_ ?_ hW hval
 ·intro ds hl
  have hl' : ds.length = 2 := by rw [hl]; kernel_rfl
  match ds, hl' with
  | [d1, d2], _ => rfl
 ·rw [Tryz.params3]
  intro a1 s1 a2 s2
  obtain ⟨a, rfl, q1, q2, q3⟩ := xhc s1
  obtain ⟨b, rfl, q4, q5, q6⟩ := xhc s2
  simp only [List.nil_append, List.cons_append, x7v, q3h]
  exact qhq a b q1 q4 q2 q3 q5 q6
theorem x8h : Rows.queueReplacedRow.holds Tryz.pinned (OpenSpec.ofChange Rows.queueReplacedSpec) :=
 OpenClaim.holds_of_wide 3 Tryz.f3 rfl rfl rfl rfl rfl rfl rfl ⟨rfl, rfl, rfl, rfl, rfl⟩ rfl rfl rfl rfl rfl (by kernel_rfl) Tryz.func3 (by kernel_rfl)
  (of_decide_eq_true (by kernel_rfl)) (by unfold Func.isWrapper; first | (rw [if_pos (by decide +kernel)]; kernel_rfl) | (rw [if_neg (by decide +kernel)]; exact ⟨rfl, rfl⟩))
  (fun os started H enc _ => x7w os started H enc)
theorem proved : Rows.QueueReplacedSaid := x8h
end Go.Proofs.YtinnaedmdoengaaGreat
