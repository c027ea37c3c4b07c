/- BrokerDelivers returns true for every input, and its inputs read behind the call as before; the package variables that its row lists are tied to the program's text. -/
import Derived.Test.YtkcdbcbpbolgkaaGreatDoorMqu
import Derived.Test.YtkcdbcbpbolgkaaGreatDoorCards
import Derived.Test.YtkcdbcbpbolgkaaGreatDoorTie
import Derived.SevenTiedAt
set_option linter.unusedSimpArgs false
namespace Go.Proofs.YtkcdbcbpbolgkaaGreatDoor
open Go.Abs Go.ChangeShapes Go.WideShapes Go.ChangeAt Go.RowKit
set_option maxRecDepth 100000 in
set_option maxHeartbeats 20000000 in
theorem proved : Rows.BrokerDeliversCardSaid :=
 Claim7.holds_tied_plain_at .later [] [.data, .data, .data] true (true, "b1adc7ad8ba675a42d8b6400a3b069c383f74ee3fa68f53c853f9c5cc32378d3") true
  xsn (fun _ h => by cases h) (by as_aux_lemma => kernel_rfl) (fun _ h => by cases h) brokerDelivers_row_tie rfl ⟨rfl, rfl⟩ (by as_aux_lemma => kernel_rfl) rfl
  (fun f fn hf hfn => by
   obtain rfl : f = 3 := Option.some.inj ((show Tryz.prog.funcNamed "farandole/farandolelaw54.BrokerDelivers" = some 3 by as_aux_lemma => kernel_rfl).symm.trans hf) |>.symm
   obtain rfl : fn = Tryz.f3 := (Option.some.inj (Tryz.func3.symm.trans hfn)).symm
   refine ⟨by as_aux_lemma => kernel_rfl, fun j t ht => ?_⟩
   rw [Tryz.params3] at ht
   rcases j with _ | _ | _ | j
   ·obtain rfl : t = 23 := by simpa using ht.symm
    exact (show Tryz.prog.wantsStandIn 23 = false by as_aux_lemma => kernel_rfl)
   ·obtain rfl : t = 24 := by simpa using ht.symm
    exact (show Tryz.prog.wantsStandIn 24 = false by as_aux_lemma => kernel_rfl)
   ·obtain rfl : t = 5 := by simpa using ht.symm
    exact (show Tryz.prog.wantsStandIn 5 = false by as_aux_lemma => kernel_rfl)
   ·simp at ht)
  (by as_aux_lemma => kernel_rfl)
end Go.Proofs.YtkcdbcbpbolgkaaGreatDoor
