/- Texts Ls. -/
import Derived.Test.YtkcdbcbpbolgkaaGreatDoorMrv
import Derived.LaidSub
set_option linter.unusedSimpArgs false
set_option linter.unusedVariables false
set_option linter.defProp false
set_option maxRecDepth 100000
noncomputable section
namespace Go.Proofs.YtkcdbcbpbolgkaaGreatDoor
open Go.Proofs.YtkcdbcbpbolgkaaGreatDoor.Tryz
open Go.Abs Go.ChangeShapes Go.WideShapes Go.ChangeAt Go.RowKit
set_option maxHeartbeats 20000000 in
theorem xtu:joinedFacts Tryz.pinned.checked.prog 10 Tryz.f10 Rows.brokerDurableSpec Rows.brokerDurableRow=true:=by
 unfold joinedFacts
 simp only[jAf]
 repeat' apply And.intro
 all_goals (as_aux_lemma=>kernel_rfl)
theorem xu8:pinned.checked.prog.funcNamed Rows.brokerDurableRow.func=some 10:=by kernel_rfl
theorem xu9:Tryz.f10.isInstance Tryz.pinned.checked.prog Rows.brokerDurableRow.origin Rows.brokerDurableRow.targs:=of_decide_eq_true (by kernel_rfl)
theorem xt4:Rows.brokerDurableRow.holds Tryz.pinned (OpenSpec.ofChange Rows.brokerDurableSpec):=
 OpenClaim.holds_of_wide 10 Tryz.f10 rfl rfl rfl rfl rfl rfl rfl ⟨rfl,rfl,rfl,rfl,rfl⟩ rfl rfl rfl rfl rfl xu8 Tryz.func10 xtu
  xu9 (by unfold Func.isWrapper;first|(rw[if_pos (by decide+kernel)];kernel_rfl)|(rw[if_neg (by decide+kernel)];exact⟨rfl,rfl⟩))
  (fun os started H enc _=>xtt os started H enc)
end Go.Proofs.YtkcdbcbpbolgkaaGreatDoor
