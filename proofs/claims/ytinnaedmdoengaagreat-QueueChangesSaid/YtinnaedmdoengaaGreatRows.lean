/-
  No cell of these rows narrows 'for every input' (looked for: loops, veiled, ifaces, maps, wideKeys, modest, calm, conditions, laid).
  DERIVED. THE GIVEN ROWS OF THIS SEAT. 4 by the template 'for every input the law returns true; each argument reads behind the call as it read before'; 0 by the template 'total and deterministic' (their statements: YtinnaedmdoengaaGreatTotals.lean).
  GIVEN WITH THE SEED: the statements are not yours to turn. If you find one false, say at which input.
  Laid BY PROGRAM, IN A SANDBOX (cutbox-rows.mjs): the forced cells as the released guide's own fill.sh prints them over the translation 25bba95d20225782… (all of the seat's roots in one cut). By AI agents, Wed Nov 11 2026. No macro, syntax, notation, axiom, sorry.
-/
import Derived.Test.YtinnaedmdoengaaGreatChecked
import GoSem.Claim
import GoSem.ClaimJoined
import GoSem.ClaimMapViews
import Derived.JoinedTies
import Derived.KernelRfl
namespace Go.Proofs.YtinnaedmdoengaaGreat
/- THE CELL 'sum', in the pinned program and in every row, IS THE sha256 OF THE DUMP (.gsa) THAT YtinnaedmdoengaaGreatProg.lean LOADS. Nothing in Lean hashes anything: it is a label: what it is worth is what the hold of that sum in a sandbox is worth. -/
noncomputable def Tryz.pinned : Pinned := { name := "ytinnaedmdoengaagreat", sum := "25bba95d2022578297d2e5247296137fb87fe7be921b32a25566bd3e9785467f", checked := Tryz.checked }
namespace Rows
def none {H : Type} : Left H := { results := [], args := [] }

/-- 'farandolelaw51.QueueReplaced': WHATEVER THE INPUT: true; the input reads as it did. -/
def queueReplacedSpec : ChangeSpec := { name := "queueReplaced", fn := fun _ => fun
  | [d1, d2] => { results := [.lit (.bool true)], args := [d1, d2] }
  | _ => none }
def queueReplacedRow : OpenClaim := { program := "ytinnaedmdoengaagreat", sum := "25bba95d2022578297d2e5247296137fb87fe7be921b32a25566bd3e9785467f", func := "farandole/farandolelaw51.QueueReplaced", spec := "queueReplaced", inPlace := ["maps.clone"], unfollowed := true, recurses := true, apart := false }
def QueueReplacedSaid : Prop := queueReplacedRow.holds Tryz.pinned (OpenSpec.ofChange queueReplacedSpec)

/-- ITS FALSE NEIGHBOUR: 'it returns false'. Refute it at one input. -/
def queueReplacedWrong : ChangeSpec := { name := "queueReplaced", fn := fun _ => fun
  | [d1, d2] => { results := [.lit (.bool false)], args := [d1, d2] }
  | _ => none }
def QueueReplacedWrongFalsely : Prop := queueReplacedRow.holds Tryz.pinned (OpenSpec.ofChange queueReplacedWrong)

/-- 'farandolelaw48.StoreOpen': WHATEVER THE INPUT: true; the input reads as it did. -/
def storeOpenSpec : ChangeSpec := { name := "storeOpen", fn := fun _ => fun
  | [d] => { results := [.lit (.bool true)], args := [d] }
  | _ => none }
def storeOpenRow : OpenClaim := { program := "ytinnaedmdoengaagreat", sum := "25bba95d2022578297d2e5247296137fb87fe7be921b32a25566bd3e9785467f", func := "farandole/farandolelaw48.StoreOpen", spec := "storeOpen", inPlace := ["maps.clone", "internal/bytealg.abigen_runtime_cmpstring"], unfollowed := true, recurses := true, apart := false }
def StoreOpenSaid : Prop := storeOpenRow.holds Tryz.pinned (OpenSpec.ofChange storeOpenSpec)

/-- ITS FALSE NEIGHBOUR: 'it returns false'. Refute it at one input. -/
def storeOpenWrong : ChangeSpec := { name := "storeOpen", fn := fun _ => fun
  | [d] => { results := [.lit (.bool false)], args := [d] }
  | _ => none }
def StoreOpenWrongFalsely : Prop := storeOpenRow.holds Tryz.pinned (OpenSpec.ofChange storeOpenWrong)

/-- 'farandolelaw48.StoreScript': WHATEVER THE INPUT: true; the input reads as it did. -/
def storeScriptSpec : ChangeSpec := { name := "storeScript", fn := fun _ => fun
  | [d1, d2, d3] => { results := [.lit (.bool true)], args := [d1, d2, d3] }
  | _ => none }
def storeScriptRow : OpenClaim := { program := "ytinnaedmdoengaagreat", sum := "25bba95d2022578297d2e5247296137fb87fe7be921b32a25566bd3e9785467f", func := "farandole/farandolelaw48.StoreScript", spec := "storeScript", inPlace := ["maps.clone", "internal/bytealg.abigen_runtime_cmpstring"], unfollowed := true, recurses := true, apart := false }
def StoreScriptSaid : Prop := storeScriptRow.holds Tryz.pinned (OpenSpec.ofChange storeScriptSpec)

/-- ITS FALSE NEIGHBOUR: 'it returns false'. Refute it at one input. -/
def storeScriptWrong : ChangeSpec := { name := "storeScript", fn := fun _ => fun
  | [d1, d2, d3] => { results := [.lit (.bool false)], args := [d1, d2, d3] }
  | _ => none }
def StoreScriptWrongFalsely : Prop := storeScriptRow.holds Tryz.pinned (OpenSpec.ofChange storeScriptWrong)

/-- 'farandolelaw51.QueueChanges': WHATEVER THE INPUT: true; the input reads as it did. -/
def queueChangesSpec : ChangeSpec := { name := "queueChanges", fn := fun _ => fun
  | [d1, d2, d3] => { results := [.lit (.bool true)], args := [d1, d2, d3] }
  | _ => none }
def queueChangesRow : OpenClaim := { program := "ytinnaedmdoengaagreat", sum := "25bba95d2022578297d2e5247296137fb87fe7be921b32a25566bd3e9785467f", func := "farandole/farandolelaw51.QueueChanges", spec := "queueChanges", inPlace := ["maps.clone", "internal/bytealg.abigen_runtime_cmpstring"], unfollowed := true, recurses := true, apart := false }
def QueueChangesSaid : Prop := queueChangesRow.holds Tryz.pinned (OpenSpec.ofChange queueChangesSpec)

/-- ITS FALSE NEIGHBOUR: 'it returns false'. Refute it at one input. -/
def queueChangesWrong : ChangeSpec := { name := "queueChanges", fn := fun _ => fun
  | [d1, d2, d3] => { results := [.lit (.bool false)], args := [d1, d2, d3] }
  | _ => none }
def QueueChangesWrongFalsely : Prop := queueChangesRow.holds Tryz.pinned (OpenSpec.ofChange queueChangesWrong)

/- THE SECOND FORM. 'bulk': how many values and letters a reading holds, each counted each time it is reached (what is shared counts as often as it is met; a slice's spare places count too). A statement '..UptoSaid' is the law's where the arguments, and the package variables that the reading takes, are together of bulk at most 1048576: NARROWER than '..Said'. Prove '..Said' where nothing that the law and all that it calls make is longer than what came in: it says more and counts as full. Else prove '..UptoSaid'. A law counts once. -/
mutual
def uptoBulk {H : Type} : DataW H → Nat
  | .lit (.string bytes) => bytes.length + 1
  | .lit _ => 1
  | .nil => 1
  | .ptr d => uptoBulk d + 1
  | .slice elems spare => uptoBulkAll elems + uptoBulkAll spare + 1
  | .agg parts => uptoBulkAll parts + 1
  | .iface _ d => uptoBulk d + 1
  | .map entries => uptoBulkEntries entries + 1
  | .held _ => 1
def uptoBulkAll {H : Type} : List (DataW H) → Nat
  | [] => 0
  | d :: r => uptoBulk d + uptoBulkAll r
def uptoBulkEntries {H : Type} : List (Lit × DataW H) → Nat
  | [] => 0
  | x :: r => uptoBulkEntry x + uptoBulkEntries r
def uptoBulkEntry {H : Type} : Lit × DataW H → Nat
  | (.string bytes, d) => bytes.length + uptoBulk d + 1
  | (_, d) => uptoBulk d + 1
 end
def uptoSmall : (H : Type) → List (DataW H) → Bool := fun _ ds => decide (uptoBulkAll ds ≤ 1048576)
def OpenSpec.upto (s : _root_.Go.ChangeSpec) : _root_.Go.OpenSpec := { _root_.Go.OpenSpec.ofChange s with cond := some uptoSmall }

/-- 'farandolelaw51.QueueReplaced', WHERE WHAT IT READS IS OF BULK AT MOST 1048576: true; the input reads as it did. -/
def queueReplacedUptoRow : OpenClaim := { program := "ytinnaedmdoengaagreat", sum := "25bba95d2022578297d2e5247296137fb87fe7be921b32a25566bd3e9785467f", func := "farandole/farandolelaw51.QueueReplaced", spec := "queueReplaced", inPlace := ["maps.clone"], unfollowed := true, recurses := true, apart := false, narrowed := true }
def QueueReplacedUptoSaid : Prop := queueReplacedUptoRow.holds Tryz.pinned (OpenSpec.upto queueReplacedSpec)

/-- 'farandolelaw48.StoreOpen', WHERE WHAT IT READS IS OF BULK AT MOST 1048576: true; the input reads as it did. -/
def storeOpenUptoRow : OpenClaim := { program := "ytinnaedmdoengaagreat", sum := "25bba95d2022578297d2e5247296137fb87fe7be921b32a25566bd3e9785467f", func := "farandole/farandolelaw48.StoreOpen", spec := "storeOpen", inPlace := ["maps.clone", "internal/bytealg.abigen_runtime_cmpstring"], unfollowed := true, recurses := true, apart := false, narrowed := true }
def StoreOpenUptoSaid : Prop := storeOpenUptoRow.holds Tryz.pinned (OpenSpec.upto storeOpenSpec)

/-- 'farandolelaw48.StoreScript', WHERE WHAT IT READS IS OF BULK AT MOST 1048576: true; the input reads as it did. -/
def storeScriptUptoRow : OpenClaim := { program := "ytinnaedmdoengaagreat", sum := "25bba95d2022578297d2e5247296137fb87fe7be921b32a25566bd3e9785467f", func := "farandole/farandolelaw48.StoreScript", spec := "storeScript", inPlace := ["maps.clone", "internal/bytealg.abigen_runtime_cmpstring"], unfollowed := true, recurses := true, apart := false, narrowed := true }
def StoreScriptUptoSaid : Prop := storeScriptUptoRow.holds Tryz.pinned (OpenSpec.upto storeScriptSpec)

/-- 'farandolelaw51.QueueChanges', WHERE WHAT IT READS IS OF BULK AT MOST 1048576: true; the input reads as it did. -/
def queueChangesUptoRow : OpenClaim := { program := "ytinnaedmdoengaagreat", sum := "25bba95d2022578297d2e5247296137fb87fe7be921b32a25566bd3e9785467f", func := "farandole/farandolelaw51.QueueChanges", spec := "queueChanges", inPlace := ["maps.clone", "internal/bytealg.abigen_runtime_cmpstring"], unfollowed := true, recurses := true, apart := false, narrowed := true }
def QueueChangesUptoSaid : Prop := queueChangesUptoRow.holds Tryz.pinned (OpenSpec.upto queueChangesSpec)

end Rows
end Go.Proofs.YtinnaedmdoengaaGreat
