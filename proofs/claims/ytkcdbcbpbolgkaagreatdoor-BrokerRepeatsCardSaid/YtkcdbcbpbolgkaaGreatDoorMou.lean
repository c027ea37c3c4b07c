/- Texts Lf. -/
import Derived.Test.YtkcdbcbpbolgkaaGreatDoorMot
import Derived.LaidSub
set_option linter.unusedSimpArgs false
namespace Go.Proofs.YtkcdbcbpbolgkaaGreatDoor
open Go.Abs Go.ChangeShapes Go.WideShapes Go.ChangeAt Go.RowKit
set_option maxHeartbeats 20000000 in
theorem xrl : joinedFacts Tryz.pinned.checked.prog 5 Tryz.f5 Rows.brokerRepeatsSpec Rows.brokerRepeatsRow = true := by
 unfold joinedFacts
 simp only [Bool.and_eq_true]
 repeat' apply And.intro
 all_goals (as_aux_lemma => kernel_rfl)
theorem xsz : Tryz.pinned.checked.prog.funcNamed Rows.brokerRepeatsRow.func = some 5 := by kernel_rfl
theorem xs0 : Tryz.f5.isInstance Tryz.pinned.checked.prog Rows.brokerRepeatsRow.origin Rows.brokerRepeatsRow.targs := of_decide_eq_true (by kernel_rfl)
theorem xrz : Rows.brokerRepeatsRow.holds Tryz.pinned (OpenSpec.ofChange Rows.brokerRepeatsSpec) :=
 OpenClaim.holds_of_wide 5 Tryz.f5 rfl rfl rfl rfl rfl rfl rfl ⟨rfl, rfl, rfl, rfl, rfl⟩ rfl rfl rfl rfl rfl xsz Tryz.func5 xrl
  xs0 (by unfold Func.isWrapper; first | (rw [if_pos (by decide +kernel)]; kernel_rfl) | (rw [if_neg (by decide +kernel)]; exact ⟨rfl, rfl⟩))
  (fun os started H enc _ => xrk os started H enc)
end Go.Proofs.YtkcdbcbpbolgkaaGreatDoor
