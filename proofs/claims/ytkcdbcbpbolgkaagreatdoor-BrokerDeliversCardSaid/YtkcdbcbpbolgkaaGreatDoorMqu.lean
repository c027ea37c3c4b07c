/- Texts Lk. -/
import Derived.Test.YtkcdbcbpbolgkaaGreatDoorMqt
import Derived.LaidSub
set_option linter.unusedSimpArgs false
namespace Go.Proofs.YtkcdbcbpbolgkaaGreatDoor
open Go.Abs Go.ChangeShapes Go.WideShapes Go.ChangeAt Go.RowKit
set_option maxHeartbeats 20000000 in
theorem xr9 : joinedFacts Tryz.pinned.checked.prog 3 Tryz.f3 Rows.brokerDeliversSpec Rows.brokerDeliversRow = true := by
 unfold joinedFacts
 simp only [Bool.and_eq_true]
 repeat' apply And.intro
 all_goals (as_aux_lemma => kernel_rfl)
theorem xtu : Tryz.pinned.checked.prog.funcNamed Rows.brokerDeliversRow.func = some 3 := by kernel_rfl
theorem xtv : Tryz.f3.isInstance Tryz.pinned.checked.prog Rows.brokerDeliversRow.origin Rows.brokerDeliversRow.targs := of_decide_eq_true (by kernel_rfl)
theorem xsn : Rows.brokerDeliversRow.holds Tryz.pinned (OpenSpec.ofChange Rows.brokerDeliversSpec) :=
 OpenClaim.holds_of_wide 3 Tryz.f3 rfl rfl rfl rfl rfl rfl rfl ⟨rfl, rfl, rfl, rfl, rfl⟩ rfl rfl rfl rfl rfl xtu Tryz.func3 xr9
  xtv (by unfold Func.isWrapper; first | (rw [if_pos (by decide +kernel)]; kernel_rfl) | (rw [if_neg (by decide +kernel)]; exact ⟨rfl, rfl⟩))
  (fun os started H enc _ => xr8 os started H enc)
end Go.Proofs.YtkcdbcbpbolgkaaGreatDoor
