/- Texts Lz. -/
import Derived.Test.YtkcdbcbpbolgkaaGreatDoorMwv
import Derived.LaidSub
set_option linter.unusedSimpArgs false
set_option linter.unusedVariables false
set_option linter.defProp false
set_option maxRecDepth 100000
noncomputable section
namespace Go.Proofs.YtkcdbcbpbolgkaaGreatDoor
open Go.Proofs.YtkcdbcbpbolgkaaGreatDoor.Tryz
open Go.Abs Go.ChangeShapes Go.WideShapes Go.ChangeAt Go.RowKit
set_option maxHeartbeats 20000000 in
theorem xyr:joinedFacts Tryz.pinned.checked.prog 8 Tryz.f8 Rows.brokerOpenSpec Rows.brokerOpenRow=true:=by
 unfold joinedFacts
 simp only[jAf]
 repeat' apply And.intro
 all_goals (as_aux_lemma=>kernel_rfl)
theorem xz8:pinned.checked.prog.funcNamed Rows.brokerOpenRow.func=some 8:=by kernel_rfl
theorem xz9:Tryz.f8.isInstance Tryz.pinned.checked.prog Rows.brokerOpenRow.origin Rows.brokerOpenRow.targs:=of_decide_eq_true (by kernel_rfl)
theorem xy5:Rows.brokerOpenRow.holds Tryz.pinned (OpenSpec.ofChange Rows.brokerOpenSpec):=
 OpenClaim.holds_of_wide 8 Tryz.f8 rfl rfl rfl rfl rfl rfl rfl ⟨rfl,rfl,rfl,rfl,rfl⟩ rfl rfl rfl rfl rfl xz8 Tryz.func8 xyr
  xz9 (by unfold Func.isWrapper;first|(rw[if_pos (by decide+kernel)];kernel_rfl)|(rw[if_neg (by decide+kernel)];exact⟨rfl,rfl⟩))
  (fun os started H enc _=>xyq os started H enc)
end Go.Proofs.YtkcdbcbpbolgkaaGreatDoor
