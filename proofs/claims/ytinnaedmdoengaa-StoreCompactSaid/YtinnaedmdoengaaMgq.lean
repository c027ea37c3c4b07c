/- StoreCompact returns true for every input, and its input reads behind the call as before. -/
import Derived.Test.YtinnaedmdoengaaMgp
import Derived.Test.YtinnaedmdoengaaRows
import Derived.Calls
import Derived.Orders
import Derived.Tactics
import Derived.Laws.AppendOwn
import Derived.Laws.Slices
import Derived.Laws.Closers25
import Derived.Laws.StructEq
import Derived.Laws.BytesString
import Derived.Laws.CopyRow
import Derived.MapKept
import Derived.Maps.RangeRun
import Derived.TacticsIn
import Derived.OrdersIn
import Derived.RangeFuncRecord
import Derived.RangeFuncLeaves
import Derived.IntWalk
import Derived.ProofKit
import Derived.OpenShut
import Derived.Carry
import Derived.Test.YtinnaedmdoengaaProg
import Derived.KernelRfl
import Derived.OwnWalkIn
import Derived.TacticsInMore
import Derived.LoopIn
import Derived.WalkKit
import Derived.Lib.Strings
import Derived.Lib.Slices
import Derived.Lib.Walk
import Derived.Lib.Bytealg
import Derived.Shelf.SlSortCmp.WholeK
import Derived.Shelf.SlSortCmp.NoneTotal

namespace Go.Proofs.Ytinnaedmdoengaa
open Go.Abs Go.ChangeShapes Go.WideShapes Go.ChangeAt Go.RowKit
set_option linter.unusedSimpArgs false
theorem own : ownKnob Try.prog.godebug = none := by kernel_rfl
theorem xhd : laidOutB Try.prog = true := by kernel_rfl
set_option maxRecDepth 100000 in
theorem q51 (os : Os) (started : os.Started) (H : Type) (enc : TypeId × Value → H) :
  ReturnsInHanded {} Try.checked os 8 .any (Rows.storeCompactSpec.pre6 enc Try.prog Try.f8 Rows.storeCompactRow.domain false) (Rows.storeCompactSpec.post enc Try.prog Try.f8 false true false false) := by
 refine returnsInHanded_of_change (C := Try.checked) own started (by kernel_rfl) Try.func8
  (ChangeSpec.witness6 (enc := enc) (C := Try.checked) false ⟨#[], #[.slice none 0 0], []⟩ 8 (by kernel_rfl) (by kernel_rfl) (by kernel_rfl) (by kernel_rfl)) ?_
 intro W base args ds gs before hval hW _ _
 refine qp2 (n := 8) (base := base) (tb := 4) xhd (by kernel_rfl) (by kernel_rfl) (by kernel_rfl) Try.underlying4 rfl ?_ ?_ hW hval
 ·intro ds hl
  have hl' : ds.length = 1 := by rw [hl]; kernel_rfl
  match ds, hl' with
  | [d1], _ => rfl
 ·rw [Try.params8]
  intro a1 s1
  obtain ⟨k, rfl, k1, k2⟩ := quq s1
  simp only [List.nil_append, List.cons_append, qur, LawOk]
  exact qds k k1 k2
theorem q6k : Rows.storeCompactRow.holds Try.pinned (OpenSpec.ofChange Rows.storeCompactSpec) :=
 OpenClaim.holds_of_wide 8 Try.f8 rfl rfl rfl rfl rfl rfl rfl ⟨rfl, rfl, rfl, rfl, rfl⟩ rfl rfl rfl rfl rfl (by kernel_rfl) Try.func8 (by kernel_rfl)
  (of_decide_eq_true (by kernel_rfl)) (by unfold Func.isWrapper; first | (rw [if_pos (by decide +kernel)]; kernel_rfl) | (rw [if_neg (by decide +kernel)]; exact ⟨rfl, rfl⟩))
  (fun os started H enc _ => q51 os started H enc)
theorem proved : Rows.StoreCompactSaid := q6k
end Go.Proofs.Ytinnaedmdoengaa
