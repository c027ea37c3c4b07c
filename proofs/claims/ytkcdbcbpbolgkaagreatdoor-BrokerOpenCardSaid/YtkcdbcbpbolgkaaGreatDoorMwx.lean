/- Xr. -/
import Derived.Test.YtkcdbcbpbolgkaaGreatDoorMww
import Derived.Test.YtkcdbcbpbolgkaaGreatDoorCards
import Derived.Test.YtkcdbcbpbolgkaaGreatDoorTie
import Derived.SevenTiedAt
set_option linter.unusedSimpArgs false
set_option linter.unusedVariables false
set_option linter.defProp false
set_option maxRecDepth 100000
noncomputable section
namespace Go.Proofs.YtkcdbcbpbolgkaaGreatDoor
open Go.Proofs.YtkcdbcbpbolgkaaGreatDoor.Tryz
open Go.Abs Go.ChangeShapes Go.WideShapes Go.ChangeAt Go.RowKit
set_option maxHeartbeats 20000000 in
theorem proved:Rows.BrokerOpenCardSaid:=
 Claim7.holds_tied_plain_at .later [] [.data,.data,.data,.sentinel,.sentinel] true (true,"b1adc7ad8ba675a42d8b6400a3b069c383f74ee3fa68f53c853f9c5cc32378d3") true
  xy5 (fun _ h=>by cases h) (by as_aux_lemma=>kernel_rfl) (fun _ h=>by cases h) brokerOpen_row_tie rfl ⟨rfl,rfl⟩ (by as_aux_lemma=>kernel_rfl) rfl
  (fun f fn hf hfn=>by
   obtain rfl:f=8:=jDl ((show Tryz.prog.funcNamed "farandole/farandolelaw54.BrokerOpen" =some 8 by as_aux_lemma=>kernel_rfl).symm.trans hf)|>.symm
   obtain rfl:fn=Tryz.f8:=(jDl (Tryz.func8.symm.trans hfn)).symm
   refine⟨by as_aux_lemma=>kernel_rfl,fun j t ht=> ?_⟩
   rw[Tryz.params8]at ht
   rcases j with _| _| _|j
   ·obtain rfl:t=68:=by simpa using ht.symm
    exact(show Tryz.prog.wantsStandIn 68=false by as_aux_lemma=>kernel_rfl)
   ·obtain rfl:t=3:=by simpa using ht.symm
    exact(show Tryz.prog.wantsStandIn 3=false by as_aux_lemma=>kernel_rfl)
   ·obtain rfl:t=3:=by simpa using ht.symm
    exact(show Tryz.prog.wantsStandIn 3=false by as_aux_lemma=>kernel_rfl)
   ·simp at ht)
  (by as_aux_lemma=>kernel_rfl)
end Go.Proofs.YtkcdbcbpbolgkaaGreatDoor
