/- BrokerNil returns true for every input, and its inputs read behind the call as before; the package variables that its row lists are tied to the program's text. -/
import Derived.Test.YtkcdbcbpbolgkaaGreatDoorMnu
import Derived.Test.YtkcdbcbpbolgkaaGreatDoorRows
import Derived.Test.YtkcdbcbpbolgkaaGreatDoorCards
import Derived.Test.YtkcdbcbpbolgkaaGreatDoorTie
import Derived.Calls
import Derived.Orders
import Derived.Tactics
import Derived.Laws.AppendOwn
import Derived.Laws.Slices
import Derived.Laws.Closers25
import Derived.Laws.StructEq
import Derived.Laws.BytesString
import Derived.Laws.CopyRow
import Derived.MapKept
import Derived.Maps.RangeRun
import Derived.TacticsIn
import Derived.OrdersIn
import Derived.RangeFuncRecord
import Derived.RangeFuncLeaves
import Derived.IntWalk
import Derived.ProofKit
import Derived.OpenShut
import Derived.Carry
import Derived.Test.YtkcdbcbpbolgkaaGreatDoorProg
import Derived.KernelRfl
import Derived.OwnWalkIn
import Derived.TacticsInMore
import Derived.LoopIn
import Derived.WalkKit
import Derived.Lib.Strings
import Derived.Lib.Slices
import Derived.Lib.Walk
import Derived.Lib.Bytealg
import Derived.Shelf.SlSortCmp.WholeK
import Derived.Shelf.SlSortCmp.NoneTotal
import Derived.Shelf.Spec.SlicesInsertGrow
import Derived.JoinedOf
import Derived.LaidLaws
import Derived.LaidHandle
import Derived.LaidSub
import Derived.SevenTiedAt

namespace Go.Proofs.YtkcdbcbpbolgkaaGreatDoor
open Go.Abs Go.ChangeShapes Go.WideShapes Go.ChangeAt Go.RowKit
set_option linter.unusedSimpArgs false
set_option maxRecDepth 100000 in
set_option maxHeartbeats 20000000 in
theorem proved : Rows.BrokerNilCardSaid :=
 Claim7.holds_tied_plain_at .later [] [.data, .data, .data] true (true, "b1adc7ad8ba675a42d8b6400a3b069c383f74ee3fa68f53c853f9c5cc32378d3") true
  xrb (fun _ h => by cases h) (by as_aux_lemma => kernel_rfl) (fun _ h => by cases h) brokerNil_row_tie rfl ⟨rfl, rfl⟩ (by as_aux_lemma => kernel_rfl) rfl
  (fun f fn hf hfn => by
   obtain rfl : f = 6 := Option.some.inj ((show Tryz.prog.funcNamed "farandole/farandolelaw54.BrokerNil" = some 6 by as_aux_lemma => kernel_rfl).symm.trans hf) |>.symm
   obtain rfl : fn = Tryz.f6 := (Option.some.inj (Tryz.func6.symm.trans hfn)).symm
   refine ⟨by as_aux_lemma => kernel_rfl, fun j t ht => ?_⟩
   rw [Tryz.params6] at ht
   rcases j with _ | _ | j
   ·obtain rfl : t = 90 := by simpa using ht.symm
    exact (show Tryz.prog.wantsStandIn 90 = false by as_aux_lemma => kernel_rfl)
   ·obtain rfl : t = 3 := by simpa using ht.symm
    exact (show Tryz.prog.wantsStandIn 3 = false by as_aux_lemma => kernel_rfl)
   ·simp at ht)
  (by as_aux_lemma => kernel_rfl)
end Go.Proofs.YtkcdbcbpbolgkaaGreatDoor
