/- StoreOpen returns true for every input, and its input reads behind the call as before. -/
import Derived.Test.YtinnaedmdoengaaGreatMfp
import Derived.Test.YtinnaedmdoengaaGreatRows
import Derived.Calls
import Derived.Orders
import Derived.Tactics
import Derived.Laws.AppendOwn
import Derived.Laws.Slices
import Derived.Laws.Closers25
import Derived.Laws.StructEq
import Derived.Laws.BytesString
import Derived.Laws.CopyRow
import Derived.MapKept
import Derived.Maps.RangeRun
import Derived.TacticsIn
import Derived.OrdersIn
import Derived.RangeFuncRecord
import Derived.RangeFuncLeaves
import Derived.IntWalk
import Derived.ProofKit
import Derived.OpenShut
import Derived.Carry
import Derived.Test.YtinnaedmdoengaaGreatProg
import Derived.KernelRfl
import Derived.OwnWalkIn
import Derived.TacticsInMore
import Derived.LoopIn
import Derived.WalkKit
import Derived.Lib.Strings
import Derived.Lib.Slices
import Derived.Lib.Walk
import Derived.Lib.Bytealg
import Derived.Shelf.SlSortCmp.WholeK
import Derived.Shelf.SlSortCmp.NoneTotal

namespace Go.Proofs.YtinnaedmdoengaaGreat
open Go.Abs Go.ChangeShapes Go.WideShapes Go.ChangeAt Go.RowKit
set_option linter.unusedSimpArgs false
theorem own : ownKnob Tryz.prog.godebug = none := by kernel_rfl
theorem xjd : laidOutB Tryz.prog = true := by kernel_rfl
set_option maxRecDepth 100000 in
theorem q8d (os : Os) (started : os.Started) (H : Type) (enc : TypeId × Value → H) :
  ReturnsInHanded {} Tryz.checked os 4 .any (Rows.storeOpenSpec.pre6 enc Tryz.prog Tryz.f4 Rows.storeOpenRow.domain false) (Rows.storeOpenSpec.post enc Tryz.prog Tryz.f4 false true false false) := by
 refine returnsInHanded_of_change (C := Tryz.checked) own started (by kernel_rfl) Tryz.func4
  (ChangeSpec.witness6 (enc := enc) (C := Tryz.checked) false ⟨#[], #[.slice none 0 0], []⟩ 8 (by kernel_rfl) (by kernel_rfl) (by kernel_rfl) (by kernel_rfl)) ?_
 intro W base args ds gs before hval hW _ _
 refine qph (n := 8) (base := base) (tb := 4) xjd (by kernel_rfl) (by kernel_rfl) (by kernel_rfl) Tryz.underlying4 rfl ?_ ?_ hW hval
 ·intro ds hl
  have hl' : ds.length = 1 := by rw [hl]; kernel_rfl
  match ds, hl' with
  | [d1], _ => rfl
 ·rw [Tryz.params4]
  intro a1 s1
  obtain ⟨k, rfl, k1⟩ := ql5 s1
  simp only [List.nil_append, List.cons_append, qt0, LawOk]
  exact qi8 k k1
theorem q8z : Rows.storeOpenRow.holds Tryz.pinned (OpenSpec.ofChange Rows.storeOpenSpec) :=
 OpenClaim.holds_of_wide 4 Tryz.f4 rfl rfl rfl rfl rfl rfl rfl ⟨rfl, rfl, rfl, rfl, rfl⟩ rfl rfl rfl rfl rfl (by kernel_rfl) Tryz.func4 (by kernel_rfl)
  (of_decide_eq_true (by kernel_rfl)) (by unfold Func.isWrapper; first | (rw [if_pos (by decide +kernel)]; kernel_rfl) | (rw [if_neg (by decide +kernel)]; exact ⟨rfl, rfl⟩))
  (fun os started H enc _ => q8d os started H enc)
theorem proved : Rows.StoreOpenSaid := q8z
end Go.Proofs.YtinnaedmdoengaaGreat
