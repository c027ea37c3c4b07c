/-
  No cell of these rows narrows 'for every input' (looked for: loops, veiled, ifaces, maps, wideKeys, modest, calm, conditions, laid).
  DERIVED. THE GIVEN ROWS OF THIS SEAT. 7 by the template 'for every input the law returns true; each argument reads behind the call as it read before'; 0 by the template 'total and deterministic' (their statements: YtinnaedmdoengaaTotals.lean).
  GIVEN WITH THE SEED: the statements are not yours to turn. If you find one false, say at which input.
  Laid BY PROGRAM, IN A SANDBOX (cutbox-rows.mjs): the forced cells as the released guide's own fill.sh prints them over the translation b466e93a222044de… (all of the seat's roots in one cut). By AI agents, Wed Nov 11 2026. No macro, syntax, notation, axiom, sorry.
-/
import Derived.Test.YtinnaedmdoengaaChecked
import GoSem.Claim
import GoSem.ClaimJoined
import GoSem.ClaimMapViews
import Derived.JoinedTies
import Derived.KernelRfl
namespace Go.Proofs.Ytinnaedmdoengaa
/- THE CELL 'sum', in the pinned program and in every row, IS THE sha256 OF THE DUMP (.gsa) THAT YtinnaedmdoengaaProg.lean LOADS. Nothing in Lean hashes anything: it is a label: what it is worth is what the hold of that sum in a sandbox is worth. -/
noncomputable def Try.pinned : Pinned := { name := "ytinnaedmdoengaa", sum := "b466e93a222044de67d5c2e13a3769c6451ed6d3c181e82b1e64d566491a4ea7", checked := Try.checked }
namespace Rows
def none {H : Type} : Left H := { results := [], args := [] }

/-- 'farandolelaw48.StoreMap': WHATEVER THE INPUT: true; the input reads as it did. -/
def storeMapSpec : ChangeSpec := { name := "storeMap", fn := fun _ => fun
  | [d1, d2] => { results := [.lit (.bool true)], args := [d1, d2] }
  | _ => none }
def storeMapRow : OpenClaim := { program := "ytinnaedmdoengaa", sum := "b466e93a222044de67d5c2e13a3769c6451ed6d3c181e82b1e64d566491a4ea7", func := "farandole/farandolelaw48.StoreMap", spec := "storeMap", inPlace := ["maps.clone", "internal/bytealg.abigen_runtime_cmpstring"], unfollowed := true, recurses := true, apart := false }
def StoreMapSaid : Prop := storeMapRow.holds Try.pinned (OpenSpec.ofChange storeMapSpec)

/-- ITS FALSE NEIGHBOUR: 'it returns false'. Refute it at one input. -/
def storeMapWrong : ChangeSpec := { name := "storeMap", fn := fun _ => fun
  | [d1, d2] => { results := [.lit (.bool false)], args := [d1, d2] }
  | _ => none }
def StoreMapWrongFalsely : Prop := storeMapRow.holds Try.pinned (OpenSpec.ofChange storeMapWrong)

/-- 'farandolelaw48.StoreFull': WHATEVER THE INPUT: true; the input reads as it did. -/
def storeFullSpec : ChangeSpec := { name := "storeFull", fn := fun _ => fun
  | [d] => { results := [.lit (.bool true)], args := [d] }
  | _ => none }
def storeFullRow : OpenClaim := { program := "ytinnaedmdoengaa", sum := "b466e93a222044de67d5c2e13a3769c6451ed6d3c181e82b1e64d566491a4ea7", func := "farandole/farandolelaw48.StoreFull", spec := "storeFull", inPlace := ["maps.clone", "internal/bytealg.abigen_runtime_cmpstring"], unfollowed := true, recurses := true, apart := false }
def StoreFullSaid : Prop := storeFullRow.holds Try.pinned (OpenSpec.ofChange storeFullSpec)

/-- ITS FALSE NEIGHBOUR: 'it returns false'. Refute it at one input. -/
def storeFullWrong : ChangeSpec := { name := "storeFull", fn := fun _ => fun
  | [d] => { results := [.lit (.bool false)], args := [d] }
  | _ => none }
def StoreFullWrongFalsely : Prop := storeFullRow.holds Try.pinned (OpenSpec.ofChange storeFullWrong)

/-- 'farandolelaw51.QueueStored': WHATEVER THE INPUT: true; the input reads as it did. -/
def queueStoredSpec : ChangeSpec := { name := "queueStored", fn := fun _ => fun
  | [d1, d2] => { results := [.lit (.bool true)], args := [d1, d2] }
  | _ => none }
def queueStoredRow : OpenClaim := { program := "ytinnaedmdoengaa", sum := "b466e93a222044de67d5c2e13a3769c6451ed6d3c181e82b1e64d566491a4ea7", func := "farandole/farandolelaw51.QueueStored", spec := "queueStored", inPlace := ["maps.clone"], unfollowed := true, recurses := true, apart := false }
def QueueStoredSaid : Prop := queueStoredRow.holds Try.pinned (OpenSpec.ofChange queueStoredSpec)

/-- ITS FALSE NEIGHBOUR: 'it returns false'. Refute it at one input. -/
def queueStoredWrong : ChangeSpec := { name := "queueStored", fn := fun _ => fun
  | [d1, d2] => { results := [.lit (.bool false)], args := [d1, d2] }
  | _ => none }
def QueueStoredWrongFalsely : Prop := queueStoredRow.holds Try.pinned (OpenSpec.ofChange queueStoredWrong)

/-- 'farandolelaw48.StoreNil': WHATEVER THE INPUT: true; the input reads as it did. -/
def storeNilSpec : ChangeSpec := { name := "storeNil", fn := fun _ => fun
  | [d1, d2] => { results := [.lit (.bool true)], args := [d1, d2] }
  | _ => none }
def storeNilRow : OpenClaim := { program := "ytinnaedmdoengaa", sum := "b466e93a222044de67d5c2e13a3769c6451ed6d3c181e82b1e64d566491a4ea7", func := "farandole/farandolelaw48.StoreNil", spec := "storeNil", inPlace := ["maps.clone", "internal/bytealg.abigen_runtime_cmpstring"], unfollowed := true, recurses := true, apart := false }
def StoreNilSaid : Prop := storeNilRow.holds Try.pinned (OpenSpec.ofChange storeNilSpec)

/-- ITS FALSE NEIGHBOUR: 'it returns false'. Refute it at one input. -/
def storeNilWrong : ChangeSpec := { name := "storeNil", fn := fun _ => fun
  | [d1, d2] => { results := [.lit (.bool false)], args := [d1, d2] }
  | _ => none }
def StoreNilWrongFalsely : Prop := storeNilRow.holds Try.pinned (OpenSpec.ofChange storeNilWrong)

/-- 'farandolelaw48.StoreEncode': WHATEVER THE INPUT: true; the input reads as it did. -/
def storeEncodeSpec : ChangeSpec := { name := "storeEncode", fn := fun _ => fun
  | [d1, d2] => { results := [.lit (.bool true)], args := [d1, d2] }
  | _ => none }
def storeEncodeRow : OpenClaim := { program := "ytinnaedmdoengaa", sum := "b466e93a222044de67d5c2e13a3769c6451ed6d3c181e82b1e64d566491a4ea7", func := "farandole/farandolelaw48.StoreEncode", spec := "storeEncode", inPlace := ["maps.clone", "internal/bytealg.abigen_runtime_cmpstring"], unfollowed := true, recurses := true, apart := false }
def StoreEncodeSaid : Prop := storeEncodeRow.holds Try.pinned (OpenSpec.ofChange storeEncodeSpec)

/-- ITS FALSE NEIGHBOUR: 'it returns false'. Refute it at one input. -/
def storeEncodeWrong : ChangeSpec := { name := "storeEncode", fn := fun _ => fun
  | [d1, d2] => { results := [.lit (.bool false)], args := [d1, d2] }
  | _ => none }
def StoreEncodeWrongFalsely : Prop := storeEncodeRow.holds Try.pinned (OpenSpec.ofChange storeEncodeWrong)

/-- 'farandolelaw48.StoreCompact': WHATEVER THE INPUT: true; the input reads as it did. -/
def storeCompactSpec : ChangeSpec := { name := "storeCompact", fn := fun _ => fun
  | [d] => { results := [.lit (.bool true)], args := [d] }
  | _ => none }
def storeCompactRow : OpenClaim := { program := "ytinnaedmdoengaa", sum := "b466e93a222044de67d5c2e13a3769c6451ed6d3c181e82b1e64d566491a4ea7", func := "farandole/farandolelaw48.StoreCompact", spec := "storeCompact", inPlace := ["maps.clone", "internal/bytealg.abigen_runtime_cmpstring"], unfollowed := true, recurses := true, apart := false }
def StoreCompactSaid : Prop := storeCompactRow.holds Try.pinned (OpenSpec.ofChange storeCompactSpec)

/-- ITS FALSE NEIGHBOUR: 'it returns false'. Refute it at one input. -/
def storeCompactWrong : ChangeSpec := { name := "storeCompact", fn := fun _ => fun
  | [d] => { results := [.lit (.bool false)], args := [d] }
  | _ => none }
def StoreCompactWrongFalsely : Prop := storeCompactRow.holds Try.pinned (OpenSpec.ofChange storeCompactWrong)

/-- 'farandolelaw48.StoreCrash': WHATEVER THE INPUT: true; the input reads as it did. -/
def storeCrashSpec : ChangeSpec := { name := "storeCrash", fn := fun _ => fun
  | [d1, d2] => { results := [.lit (.bool true)], args := [d1, d2] }
  | _ => none }
def storeCrashRow : OpenClaim := { program := "ytinnaedmdoengaa", sum := "b466e93a222044de67d5c2e13a3769c6451ed6d3c181e82b1e64d566491a4ea7", func := "farandole/farandolelaw48.StoreCrash", spec := "storeCrash", inPlace := ["maps.clone", "internal/bytealg.abigen_runtime_cmpstring"], unfollowed := true, recurses := true, apart := false }
def StoreCrashSaid : Prop := storeCrashRow.holds Try.pinned (OpenSpec.ofChange storeCrashSpec)

/-- ITS FALSE NEIGHBOUR: 'it returns false'. Refute it at one input. -/
def storeCrashWrong : ChangeSpec := { name := "storeCrash", fn := fun _ => fun
  | [d1, d2] => { results := [.lit (.bool false)], args := [d1, d2] }
  | _ => none }
def StoreCrashWrongFalsely : Prop := storeCrashRow.holds Try.pinned (OpenSpec.ofChange storeCrashWrong)

/- THE SECOND FORM. 'bulk': how many values and letters a reading holds, each counted each time it is reached (what is shared counts as often as it is met; a slice's spare places count too). A statement '..UptoSaid' is the law's where the arguments, and the package variables that the reading takes, are together of bulk at most 1048576: NARROWER than '..Said'. Prove '..Said' where nothing that the law and all that it calls make is longer than what came in: it says more and counts as full. Else prove '..UptoSaid'. A law counts once. -/
mutual
def uptoBulk {H : Type} : DataW H → Nat
  | .lit (.string bytes) => bytes.length + 1
  | .lit _ => 1
  | .nil => 1
  | .ptr d => uptoBulk d + 1
  | .slice elems spare => uptoBulkAll elems + uptoBulkAll spare + 1
  | .agg parts => uptoBulkAll parts + 1
  | .iface _ d => uptoBulk d + 1
  | .map entries => uptoBulkEntries entries + 1
  | .held _ => 1
def uptoBulkAll {H : Type} : List (DataW H) → Nat
  | [] => 0
  | d :: r => uptoBulk d + uptoBulkAll r
def uptoBulkEntries {H : Type} : List (Lit × DataW H) → Nat
  | [] => 0
  | x :: r => uptoBulkEntry x + uptoBulkEntries r
def uptoBulkEntry {H : Type} : Lit × DataW H → Nat
  | (.string bytes, d) => bytes.length + uptoBulk d + 1
  | (_, d) => uptoBulk d + 1
 end
def uptoSmall : (H : Type) → List (DataW H) → Bool := fun _ ds => decide (uptoBulkAll ds ≤ 1048576)
def OpenSpec.upto (s : _root_.Go.ChangeSpec) : _root_.Go.OpenSpec := { _root_.Go.OpenSpec.ofChange s with cond := some uptoSmall }

/-- 'farandolelaw48.StoreMap', WHERE WHAT IT READS IS OF BULK AT MOST 1048576: true; the input reads as it did. -/
def storeMapUptoRow : OpenClaim := { program := "ytinnaedmdoengaa", sum := "b466e93a222044de67d5c2e13a3769c6451ed6d3c181e82b1e64d566491a4ea7", func := "farandole/farandolelaw48.StoreMap", spec := "storeMap", inPlace := ["maps.clone", "internal/bytealg.abigen_runtime_cmpstring"], unfollowed := true, recurses := true, apart := false, narrowed := true }
def StoreMapUptoSaid : Prop := storeMapUptoRow.holds Try.pinned (OpenSpec.upto storeMapSpec)

/-- 'farandolelaw48.StoreFull', WHERE WHAT IT READS IS OF BULK AT MOST 1048576: true; the input reads as it did. -/
def storeFullUptoRow : OpenClaim := { program := "ytinnaedmdoengaa", sum := "b466e93a222044de67d5c2e13a3769c6451ed6d3c181e82b1e64d566491a4ea7", func := "farandole/farandolelaw48.StoreFull", spec := "storeFull", inPlace := ["maps.clone", "internal/bytealg.abigen_runtime_cmpstring"], unfollowed := true, recurses := true, apart := false, narrowed := true }
def StoreFullUptoSaid : Prop := storeFullUptoRow.holds Try.pinned (OpenSpec.upto storeFullSpec)

/-- 'farandolelaw51.QueueStored', WHERE WHAT IT READS IS OF BULK AT MOST 1048576: true; the input reads as it did. -/
def queueStoredUptoRow : OpenClaim := { program := "ytinnaedmdoengaa", sum := "b466e93a222044de67d5c2e13a3769c6451ed6d3c181e82b1e64d566491a4ea7", func := "farandole/farandolelaw51.QueueStored", spec := "queueStored", inPlace := ["maps.clone"], unfollowed := true, recurses := true, apart := false, narrowed := true }
def QueueStoredUptoSaid : Prop := queueStoredUptoRow.holds Try.pinned (OpenSpec.upto queueStoredSpec)

/-- 'farandolelaw48.StoreNil', WHERE WHAT IT READS IS OF BULK AT MOST 1048576: true; the input reads as it did. -/
def storeNilUptoRow : OpenClaim := { program := "ytinnaedmdoengaa", sum := "b466e93a222044de67d5c2e13a3769c6451ed6d3c181e82b1e64d566491a4ea7", func := "farandole/farandolelaw48.StoreNil", spec := "storeNil", inPlace := ["maps.clone", "internal/bytealg.abigen_runtime_cmpstring"], unfollowed := true, recurses := true, apart := false, narrowed := true }
def StoreNilUptoSaid : Prop := storeNilUptoRow.holds Try.pinned (OpenSpec.upto storeNilSpec)

/-- 'farandolelaw48.StoreEncode', WHERE WHAT IT READS IS OF BULK AT MOST 1048576: true; the input reads as it did. -/
def storeEncodeUptoRow : OpenClaim := { program := "ytinnaedmdoengaa", sum := "b466e93a222044de67d5c2e13a3769c6451ed6d3c181e82b1e64d566491a4ea7", func := "farandole/farandolelaw48.StoreEncode", spec := "storeEncode", inPlace := ["maps.clone", "internal/bytealg.abigen_runtime_cmpstring"], unfollowed := true, recurses := true, apart := false, narrowed := true }
def StoreEncodeUptoSaid : Prop := storeEncodeUptoRow.holds Try.pinned (OpenSpec.upto storeEncodeSpec)

/-- 'farandolelaw48.StoreCompact', WHERE WHAT IT READS IS OF BULK AT MOST 1048576: true; the input reads as it did. -/
def storeCompactUptoRow : OpenClaim := { program := "ytinnaedmdoengaa", sum := "b466e93a222044de67d5c2e13a3769c6451ed6d3c181e82b1e64d566491a4ea7", func := "farandole/farandolelaw48.StoreCompact", spec := "storeCompact", inPlace := ["maps.clone", "internal/bytealg.abigen_runtime_cmpstring"], unfollowed := true, recurses := true, apart := false, narrowed := true }
def StoreCompactUptoSaid : Prop := storeCompactUptoRow.holds Try.pinned (OpenSpec.upto storeCompactSpec)

/-- 'farandolelaw48.StoreCrash', WHERE WHAT IT READS IS OF BULK AT MOST 1048576: true; the input reads as it did. -/
def storeCrashUptoRow : OpenClaim := { program := "ytinnaedmdoengaa", sum := "b466e93a222044de67d5c2e13a3769c6451ed6d3c181e82b1e64d566491a4ea7", func := "farandole/farandolelaw48.StoreCrash", spec := "storeCrash", inPlace := ["maps.clone", "internal/bytealg.abigen_runtime_cmpstring"], unfollowed := true, recurses := true, apart := false, narrowed := true }
def StoreCrashUptoSaid : Prop := storeCrashUptoRow.holds Try.pinned (OpenSpec.upto storeCrashSpec)

end Rows
end Go.Proofs.Ytinnaedmdoengaa
