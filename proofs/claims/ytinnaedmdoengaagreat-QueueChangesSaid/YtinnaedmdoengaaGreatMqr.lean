/- QueueChanges returns true for every input, and its input reads behind the call as before. -/
import Derived.Test.YtinnaedmdoengaaGreatMqq
import Derived.Test.YtinnaedmdoengaaGreatRows
import Derived.Calls
import Derived.Orders
import Derived.Tactics
import Derived.Laws.AppendOwn
import Derived.Laws.Slices
import Derived.Laws.Closers25
import Derived.Laws.StructEq
import Derived.Laws.BytesString
import Derived.Laws.CopyRow
import Derived.MapKept
import Derived.Maps.RangeRun
import Derived.TacticsIn
import Derived.OrdersIn
import Derived.RangeFuncRecord
import Derived.RangeFuncLeaves
import Derived.IntWalk
import Derived.ProofKit
import Derived.OpenShut
import Derived.Carry
import Derived.Test.YtinnaedmdoengaaGreatProg
import Derived.KernelRfl
import Derived.OwnWalkIn
import Derived.TacticsInMore
import Derived.LoopIn
import Derived.WalkKit
import Derived.Lib.Strings
import Derived.Lib.Slices
import Derived.Lib.Walk
import Derived.Lib.Bytealg
import Derived.Shelf.SlSortCmp.WholeK
import Derived.Shelf.SlSortCmp.NoneTotal

namespace Go.Proofs.YtinnaedmdoengaaGreat
open Go.Abs Go.ChangeShapes Go.WideShapes Go.ChangeAt Go.RowKit
set_option linter.unusedSimpArgs false
theorem own : ownKnob Tryz.prog.godebug = none := by kernel_rfl
theorem xhn : laidOutB Tryz.prog = true := by kernel_rfl
set_option maxRecDepth 100000 in
theorem xf3 (os : Os) (started : os.Started) (H : Type) (enc : TypeId × Value → H) :
  ReturnsInHanded {} Tryz.checked os 6 .any (Rows.queueChangesSpec.pre6 enc Tryz.prog Tryz.f6 Rows.queueChangesRow.domain false) (Rows.queueChangesSpec.post enc Tryz.prog Tryz.f6 false true false false) := by
 refine returnsInHanded_of_change (C := Tryz.checked) own started (by kernel_rfl) Tryz.func6
  (ChangeSpec.witness6 (enc := enc) (C := Tryz.checked) false ⟨#[], #[.agg #[.int .i64 0, .int .i64 0, .slice none 0 0, .int .i64 0, .int .i64 0, .slice none 0 0], .slice none 0 0, .string ⟨#[]⟩], []⟩ 8 (by kernel_rfl) (by kernel_rfl) (by kernel_rfl) (by kernel_rfl)) ?_
 intro W base args ds gs before hval hW _ _
 refine q4k (n := 8) (base := base) (tb := 4) xhn (by kernel_rfl) (by kernel_rfl) (by kernel_rfl) Tryz.underlying4 rfl ?_ ?_ hW hval
 ·intro ds hl
  have hl' : ds.length = 3 := by rw [hl]; kernel_rfl
  match ds, hl' with
  | [d1, d2, d3], _ => rfl
 ·rw [Tryz.params6]
  intro a1 s1 a2 s2 a3 s3
  obtain ⟨a, b, rfl, ⟨q1, q2, q3⟩, q4, q5, q6⟩ := xg2 s1
  obtain ⟨l, rfl, hl⟩ := xcf s2
  obtain ⟨name, rfl, _⟩ := xce s3
  simp only [List.nil_append, List.cons_append, xg3, xf1, xf2, q82]
  exact qnr a b l name q1 q4 q2 q3 q5 q6 hl
theorem xgd : Rows.queueChangesRow.holds Tryz.pinned (OpenSpec.ofChange Rows.queueChangesSpec) :=
 OpenClaim.holds_of_wide 6 Tryz.f6 rfl rfl rfl rfl rfl rfl rfl ⟨rfl, rfl, rfl, rfl, rfl⟩ rfl rfl rfl rfl rfl (by kernel_rfl) Tryz.func6 (by kernel_rfl)
  (of_decide_eq_true (by kernel_rfl)) (by unfold Func.isWrapper; first | (rw [if_pos (by decide +kernel)]; kernel_rfl) | (rw [if_neg (by decide +kernel)]; exact ⟨rfl, rfl⟩))
  (fun os started H enc _ => xf3 os started H enc)
theorem proved : Rows.QueueChangesSaid := xgd
end Go.Proofs.YtinnaedmdoengaaGreat
