/- StoreEncode returns true for every input, and its inputs read behind the call as before. -/
import Derived.Test.YtinnaedmdoengaaMep
import Derived.Test.YtinnaedmdoengaaRows
import Derived.Calls
import Derived.Orders
import Derived.Tactics
import Derived.Laws.AppendOwn
import Derived.Laws.Slices
import Derived.Laws.Closers25
import Derived.Laws.StructEq
import Derived.Laws.BytesString
import Derived.Laws.CopyRow
import Derived.MapKept
import Derived.Maps.RangeRun
import Derived.TacticsIn
import Derived.OrdersIn
import Derived.RangeFuncRecord
import Derived.RangeFuncLeaves
import Derived.IntWalk
import Derived.ProofKit
import Derived.OpenShut
import Derived.Carry
import Derived.Test.YtinnaedmdoengaaProg
import Derived.KernelRfl
import Derived.OwnWalkIn
import Derived.TacticsInMore
import Derived.LoopIn
import Derived.WalkKit
import Derived.Lib.Strings
import Derived.Lib.Slices
import Derived.Lib.Walk
import Derived.Lib.Bytealg
import Derived.Shelf.SlSortCmp.WholeK
import Derived.Shelf.SlSortCmp.NoneTotal

namespace Go.Proofs.Ytinnaedmdoengaa
open Go.Abs Go.ChangeShapes Go.WideShapes Go.ChangeAt Go.RowKit
set_option linter.unusedSimpArgs false
theorem own : ownKnob Try.prog.godebug = none := by kernel_rfl
theorem q98 : laidOutB Try.prog = true := by kernel_rfl
set_option maxRecDepth 100000 in
theorem qzo (os : Os) (started : os.Started) (H : Type) (enc : TypeId × Value → H) :
  ReturnsInHanded {} Try.checked os 7 .any (Rows.storeEncodeSpec.pre6 enc Try.prog Try.f7 Rows.storeEncodeRow.domain false) (Rows.storeEncodeSpec.post enc Try.prog Try.f7 false true false false) := by
 refine returnsInHanded_of_change (C := Try.checked) own started (by kernel_rfl) Try.func7
  (ChangeSpec.witness6 (enc := enc) (C := Try.checked) false ⟨#[], #[.slice none 0 0, .slice none 0 0], []⟩ 8 (by kernel_rfl) (by kernel_rfl) (by kernel_rfl) (by kernel_rfl)) ?_
 intro W base args ds gs before hval hW _ _
 refine qmv (n := 8) (base := base) (tb := 4) q98 (by kernel_rfl) (by kernel_rfl) (by kernel_rfl) Try.underlying4 rfl ?_ ?_ hW hval
 ·intro ds hl
  have hl' : ds.length = 2 := by rw [hl]; kernel_rfl
  match ds, hl' with
  | [d1, d2], _ => rfl
 ·rw [Try.params7]
  intro a1 s1 a2 s2
  obtain ⟨l, rfl, l1⟩ := qre s1
  obtain ⟨k, rfl, k1⟩ := qjq s2
  simp only [List.nil_append, List.cons_append, qzn, qq1, LawOk]
  exact qcq l k l1 k1
theorem qz7 : Rows.storeEncodeRow.holds Try.pinned (OpenSpec.ofChange Rows.storeEncodeSpec) :=
 OpenClaim.holds_of_wide 7 Try.f7 rfl rfl rfl rfl rfl rfl rfl ⟨rfl, rfl, rfl, rfl, rfl⟩ rfl rfl rfl rfl rfl (by kernel_rfl) Try.func7 (by kernel_rfl)
  (of_decide_eq_true (by kernel_rfl)) (by unfold Func.isWrapper; first | (rw [if_pos (by decide +kernel)]; kernel_rfl) | (rw [if_neg (by decide +kernel)]; exact ⟨rfl, rfl⟩))
  (fun os started H enc _ => qzo os started H enc)
theorem proved : Rows.StoreEncodeSaid := qz7
end Go.Proofs.Ytinnaedmdoengaa
