/-
  NARROWER THAN 'FOR EVERY INPUT', by the rows' own cells (each row's printed sentence says how): BrokerDelivers: laid · UpgradeChanges: laid · BrokerRepeats: laid · BrokerNil: laid · UpgradeStored: laid · BrokerOpen: laid · BrokerScript: laid · BrokerDurable: laid.
  DERIVED. THE GIVEN ROWS OF THIS SEAT. 8 by the template 'for every input the law returns true; each argument reads behind the call as it read before'; 0 by the template 'total and deterministic' (their statements: YtkcdbcbpbolgkaaGreatDoorTotals.lean).
  GIVEN WITH THE SEED: the statements are not yours to turn. If you find one false, say at which input.
  Laid BY PROGRAM, IN A SANDBOX (cutbox-rows.mjs): the forced cells as the released guide's own fill.sh prints them over the translation 3223ab715d85465f… (all of the seat's roots in one cut). By AI agents, Wed Nov 11 2026. No macro, syntax, notation, axiom, sorry.
-/
import Derived.Test.YtkcdbcbpbolgkaaGreatDoorChecked
import GoSem.Claim
import GoSem.ClaimJoined
import GoSem.ClaimMapViews
import Derived.JoinedTies
import Derived.KernelRfl
namespace Go.Proofs.YtkcdbcbpbolgkaaGreatDoor
/- THE CELL 'sum', in the pinned program and in every row, IS THE sha256 OF THE DUMP (.gsa) THAT YtkcdbcbpbolgkaaGreatDoorProg.lean LOADS. Nothing in Lean hashes anything: it is a label: what it is worth is what the hold of that sum in a sandbox is worth. -/
noncomputable def Tryz.pinned : Pinned := { name := "ytkcdbcbpbolgkaagreatdoor", sum := "3223ab715d85465fae3314b7fd55b3e3b9093637d3810b390a8829fe7121dd76", checked := Tryz.checked }
namespace Rows
def none {H : Type} : Left H := { results := [], args := [] }

/- WHAT THE LISTED PACKAGE-LEVEL VARIABLES READ AS WHEN THE CALL BEGINS. Each datum BY PROGRAM (the guide's laid-datum.mjs) off the statement by which the dump's own 'gosem.cut.vars' lays the variable. In a bare row this is a premise. The card (YtkcdbcbpbolgkaaGreatDoorCards.lean) ties it to the program's text. -/
def laid_math_bits_deBruijn32tab {H : Type} : DataW H := .agg [.lit (.int .u8 0), .lit (.int .u8 1), .lit (.int .u8 28), .lit (.int .u8 2), .lit (.int .u8 29), .lit (.int .u8 14), .lit (.int .u8 24), .lit (.int .u8 3), .lit (.int .u8 30), .lit (.int .u8 22), .lit (.int .u8 20), .lit (.int .u8 15), .lit (.int .u8 25), .lit (.int .u8 17), .lit (.int .u8 4), .lit (.int .u8 8), .lit (.int .u8 31), .lit (.int .u8 27), .lit (.int .u8 13), .lit (.int .u8 23), .lit (.int .u8 21), .lit (.int .u8 19), .lit (.int .u8 16), .lit (.int .u8 7), .lit (.int .u8 26), .lit (.int .u8 12), .lit (.int .u8 18), .lit (.int .u8 6), .lit (.int .u8 11), .lit (.int .u8 5), .lit (.int .u8 10), .lit (.int .u8 9)]
def laid_math_bits_deBruijn64tab {H : Type} : DataW H := .agg [.lit (.int .u8 0), .lit (.int .u8 1), .lit (.int .u8 56), .lit (.int .u8 2), .lit (.int .u8 57), .lit (.int .u8 49), .lit (.int .u8 28), .lit (.int .u8 3), .lit (.int .u8 61), .lit (.int .u8 58), .lit (.int .u8 42), .lit (.int .u8 50), .lit (.int .u8 38), .lit (.int .u8 29), .lit (.int .u8 17), .lit (.int .u8 4), .lit (.int .u8 62), .lit (.int .u8 47), .lit (.int .u8 59), .lit (.int .u8 36), .lit (.int .u8 45), .lit (.int .u8 43), .lit (.int .u8 51), .lit (.int .u8 22), .lit (.int .u8 53), .lit (.int .u8 39), .lit (.int .u8 33), .lit (.int .u8 30), .lit (.int .u8 24), .lit (.int .u8 18), .lit (.int .u8 12), .lit (.int .u8 5), .lit (.int .u8 63), .lit (.int .u8 55), .lit (.int .u8 48), .lit (.int .u8 27), .lit (.int .u8 60), .lit (.int .u8 41), .lit (.int .u8 37), .lit (.int .u8 16), .lit (.int .u8 46), .lit (.int .u8 35), .lit (.int .u8 44), .lit (.int .u8 21), .lit (.int .u8 52), .lit (.int .u8 32), .lit (.int .u8 23), .lit (.int .u8 11), .lit (.int .u8 54), .lit (.int .u8 26), .lit (.int .u8 40), .lit (.int .u8 15), .lit (.int .u8 34), .lit (.int .u8 20), .lit (.int .u8 31), .lit (.int .u8 10), .lit (.int .u8 25), .lit (.int .u8 14), .lit (.int .u8 19), .lit (.int .u8 9), .lit (.int .u8 13), .lit (.int .u8 8), .lit (.int .u8 7), .lit (.int .u8 6)]
def laid_internal_strconv_uint64pow10 {H : Type} : DataW H := .agg [.lit (.int .u64 1), .lit (.int .u64 10), .lit (.int .u64 100), .lit (.int .u64 1000), .lit (.int .u64 10000), .lit (.int .u64 100000), .lit (.int .u64 1000000), .lit (.int .u64 10000000), .lit (.int .u64 100000000), .lit (.int .u64 1000000000), .lit (.int .u64 10000000000), .lit (.int .u64 100000000000), .lit (.int .u64 1000000000000), .lit (.int .u64 10000000000000), .lit (.int .u64 100000000000000), .lit (.int .u64 1000000000000000), .lit (.int .u64 10000000000000000), .lit (.int .u64 100000000000000000), .lit (.int .u64 1000000000000000000), .lit (.int .u64 10000000000000000000)]
def laid_strconv_ErrRange {H : Type} : DataW H := .iface "*errors.errorString" (.ptr (.agg [.lit (.string [118, 97, 108, 117, 101, 32, 111, 117, 116, 32, 111, 102, 32, 114, 97, 110, 103, 101])]))
def laid_strconv_ErrSyntax {H : Type} : DataW H := .iface "*errors.errorString" (.ptr (.agg [.lit (.string [105, 110, 118, 97, 108, 105, 100, 32, 115, 121, 110, 116, 97, 120])]))

/-- 'farandolelaw54.BrokerDelivers': WHATEVER THE INPUT: true; the input reads as it did. -/
def brokerDeliversSpec : ChangeSpec := { name := "brokerDelivers", fn := fun _ => fun
  | [d1, d2, d3] => { results := [.lit (.bool true)], args := [d1, d2, d3] }
  | _ => none }
def brokerDeliversRow : OpenClaim := { program := "ytkcdbcbpbolgkaagreatdoor", sum := "3223ab715d85465fae3314b7fd55b3e3b9093637d3810b390a8829fe7121dd76", func := "farandole/farandolelaw54.BrokerDelivers", spec := "brokerDelivers", inPlace := ["maps.clone", "internal/bytealg.abigen_runtime_cmpstring", "slices.overlaps[farandole/upgrade.Entry]"], unfollowed := true, recurses := true, named := ["internal/strconv.uint64pow10", "math/bits.deBruijn32tab", "math/bits.deBruijn64tab"], plainKeys := false, apart := false, laid := [("math/bits.deBruijn32tab", laid_math_bits_deBruijn32tab), ("math/bits.deBruijn64tab", laid_math_bits_deBruijn64tab), ("internal/strconv.uint64pow10", laid_internal_strconv_uint64pow10)] }
def BrokerDeliversSaid : Prop := brokerDeliversRow.holds Tryz.pinned (OpenSpec.ofChange brokerDeliversSpec)

/-- ITS FALSE NEIGHBOUR: 'it returns false'. Refute it at one input. -/
def brokerDeliversWrong : ChangeSpec := { name := "brokerDelivers", fn := fun _ => fun
  | [d1, d2, d3] => { results := [.lit (.bool false)], args := [d1, d2, d3] }
  | _ => none }
def BrokerDeliversWrongFalsely : Prop := brokerDeliversRow.holds Tryz.pinned (OpenSpec.ofChange brokerDeliversWrong)

/-- 'farandolelaw53.UpgradeChanges': WHATEVER THE INPUT: true; the input reads as it did. -/
def upgradeChangesSpec : ChangeSpec := { name := "upgradeChanges", fn := fun _ => fun
  | [d1, d2, d3] => { results := [.lit (.bool true)], args := [d1, d2, d3] }
  | _ => none }
def upgradeChangesRow : OpenClaim := { program := "ytkcdbcbpbolgkaagreatdoor", sum := "3223ab715d85465fae3314b7fd55b3e3b9093637d3810b390a8829fe7121dd76", func := "farandole/farandolelaw53.UpgradeChanges", spec := "upgradeChanges", inPlace := ["slices.overlaps[farandole/upgrade.Entry]", "maps.clone", "internal/bytealg.abigen_runtime_cmpstring"], unfollowed := true, recurses := true, named := ["internal/strconv.uint64pow10", "math/bits.deBruijn32tab", "math/bits.deBruijn64tab", "strconv.ErrSyntax", "strconv.ErrRange"], plainKeys := false, apart := false, laid := [("math/bits.deBruijn32tab", laid_math_bits_deBruijn32tab), ("math/bits.deBruijn64tab", laid_math_bits_deBruijn64tab), ("internal/strconv.uint64pow10", laid_internal_strconv_uint64pow10), ("strconv.ErrRange", laid_strconv_ErrRange), ("strconv.ErrSyntax", laid_strconv_ErrSyntax)] }
def UpgradeChangesSaid : Prop := upgradeChangesRow.holds Tryz.pinned (OpenSpec.ofChange upgradeChangesSpec)

/-- ITS FALSE NEIGHBOUR: 'it returns false'. Refute it at one input. -/
def upgradeChangesWrong : ChangeSpec := { name := "upgradeChanges", fn := fun _ => fun
  | [d1, d2, d3] => { results := [.lit (.bool false)], args := [d1, d2, d3] }
  | _ => none }
def UpgradeChangesWrongFalsely : Prop := upgradeChangesRow.holds Tryz.pinned (OpenSpec.ofChange upgradeChangesWrong)

/-- 'farandolelaw54.BrokerRepeats': WHATEVER THE INPUT: true; the input reads as it did. -/
def brokerRepeatsSpec : ChangeSpec := { name := "brokerRepeats", fn := fun _ => fun
  | [d1, d2, d3] => { results := [.lit (.bool true)], args := [d1, d2, d3] }
  | _ => none }
def brokerRepeatsRow : OpenClaim := { program := "ytkcdbcbpbolgkaagreatdoor", sum := "3223ab715d85465fae3314b7fd55b3e3b9093637d3810b390a8829fe7121dd76", func := "farandole/farandolelaw54.BrokerRepeats", spec := "brokerRepeats", inPlace := ["maps.clone", "internal/bytealg.abigen_runtime_cmpstring", "slices.overlaps[farandole/upgrade.Entry]"], unfollowed := true, recurses := true, named := ["internal/strconv.uint64pow10", "math/bits.deBruijn32tab", "math/bits.deBruijn64tab"], plainKeys := false, apart := false, laid := [("math/bits.deBruijn32tab", laid_math_bits_deBruijn32tab), ("math/bits.deBruijn64tab", laid_math_bits_deBruijn64tab), ("internal/strconv.uint64pow10", laid_internal_strconv_uint64pow10)] }
def BrokerRepeatsSaid : Prop := brokerRepeatsRow.holds Tryz.pinned (OpenSpec.ofChange brokerRepeatsSpec)

/-- ITS FALSE NEIGHBOUR: 'it returns false'. Refute it at one input. -/
def brokerRepeatsWrong : ChangeSpec := { name := "brokerRepeats", fn := fun _ => fun
  | [d1, d2, d3] => { results := [.lit (.bool false)], args := [d1, d2, d3] }
  | _ => none }
def BrokerRepeatsWrongFalsely : Prop := brokerRepeatsRow.holds Tryz.pinned (OpenSpec.ofChange brokerRepeatsWrong)

/-- 'farandolelaw54.BrokerNil': WHATEVER THE INPUT: true; the input reads as it did. -/
def brokerNilSpec : ChangeSpec := { name := "brokerNil", fn := fun _ => fun
  | [d1, d2] => { results := [.lit (.bool true)], args := [d1, d2] }
  | _ => none }
def brokerNilRow : OpenClaim := { program := "ytkcdbcbpbolgkaagreatdoor", sum := "3223ab715d85465fae3314b7fd55b3e3b9093637d3810b390a8829fe7121dd76", func := "farandole/farandolelaw54.BrokerNil", spec := "brokerNil", inPlace := ["maps.clone", "internal/bytealg.abigen_runtime_cmpstring", "slices.overlaps[farandole/upgrade.Entry]"], unfollowed := true, recurses := true, named := ["internal/strconv.uint64pow10", "math/bits.deBruijn32tab", "math/bits.deBruijn64tab"], plainKeys := false, apart := false, laid := [("math/bits.deBruijn32tab", laid_math_bits_deBruijn32tab), ("math/bits.deBruijn64tab", laid_math_bits_deBruijn64tab), ("internal/strconv.uint64pow10", laid_internal_strconv_uint64pow10)] }
def BrokerNilSaid : Prop := brokerNilRow.holds Tryz.pinned (OpenSpec.ofChange brokerNilSpec)

/-- ITS FALSE NEIGHBOUR: 'it returns false'. Refute it at one input. -/
def brokerNilWrong : ChangeSpec := { name := "brokerNil", fn := fun _ => fun
  | [d1, d2] => { results := [.lit (.bool false)], args := [d1, d2] }
  | _ => none }
def BrokerNilWrongFalsely : Prop := brokerNilRow.holds Tryz.pinned (OpenSpec.ofChange brokerNilWrong)

/-- 'farandolelaw53.UpgradeStored': WHATEVER THE INPUT: true; the input reads as it did. -/
def upgradeStoredSpec : ChangeSpec := { name := "upgradeStored", fn := fun _ => fun
  | [d1, d2] => { results := [.lit (.bool true)], args := [d1, d2] }
  | _ => none }
def upgradeStoredRow : OpenClaim := { program := "ytkcdbcbpbolgkaagreatdoor", sum := "3223ab715d85465fae3314b7fd55b3e3b9093637d3810b390a8829fe7121dd76", func := "farandole/farandolelaw53.UpgradeStored", spec := "upgradeStored", inPlace := ["slices.overlaps[farandole/upgrade.Entry]", "maps.clone", "internal/bytealg.abigen_runtime_cmpstring"], unfollowed := true, recurses := true, named := ["internal/strconv.uint64pow10", "math/bits.deBruijn32tab", "math/bits.deBruijn64tab", "strconv.ErrSyntax", "strconv.ErrRange"], plainKeys := false, apart := false, laid := [("math/bits.deBruijn32tab", laid_math_bits_deBruijn32tab), ("math/bits.deBruijn64tab", laid_math_bits_deBruijn64tab), ("internal/strconv.uint64pow10", laid_internal_strconv_uint64pow10), ("strconv.ErrRange", laid_strconv_ErrRange), ("strconv.ErrSyntax", laid_strconv_ErrSyntax)] }
def UpgradeStoredSaid : Prop := upgradeStoredRow.holds Tryz.pinned (OpenSpec.ofChange upgradeStoredSpec)

/-- ITS FALSE NEIGHBOUR: 'it returns false'. Refute it at one input. -/
def upgradeStoredWrong : ChangeSpec := { name := "upgradeStored", fn := fun _ => fun
  | [d1, d2] => { results := [.lit (.bool false)], args := [d1, d2] }
  | _ => none }
def UpgradeStoredWrongFalsely : Prop := upgradeStoredRow.holds Tryz.pinned (OpenSpec.ofChange upgradeStoredWrong)

/-- 'farandolelaw54.BrokerOpen': WHATEVER THE INPUT: true; the input reads as it did. -/
def brokerOpenSpec : ChangeSpec := { name := "brokerOpen", fn := fun _ => fun
  | [d1, d2, d3] => { results := [.lit (.bool true)], args := [d1, d2, d3] }
  | _ => none }
def brokerOpenRow : OpenClaim := { program := "ytkcdbcbpbolgkaagreatdoor", sum := "3223ab715d85465fae3314b7fd55b3e3b9093637d3810b390a8829fe7121dd76", func := "farandole/farandolelaw54.BrokerOpen", spec := "brokerOpen", inPlace := ["maps.clone", "internal/bytealg.abigen_runtime_cmpstring"], unfollowed := true, recurses := true, named := ["internal/strconv.uint64pow10", "math/bits.deBruijn32tab", "math/bits.deBruijn64tab", "strconv.ErrSyntax", "strconv.ErrRange"], plainKeys := false, apart := false, laid := [("math/bits.deBruijn32tab", laid_math_bits_deBruijn32tab), ("math/bits.deBruijn64tab", laid_math_bits_deBruijn64tab), ("internal/strconv.uint64pow10", laid_internal_strconv_uint64pow10), ("strconv.ErrRange", laid_strconv_ErrRange), ("strconv.ErrSyntax", laid_strconv_ErrSyntax)] }
def BrokerOpenSaid : Prop := brokerOpenRow.holds Tryz.pinned (OpenSpec.ofChange brokerOpenSpec)

/-- ITS FALSE NEIGHBOUR: 'it returns false'. Refute it at one input. -/
def brokerOpenWrong : ChangeSpec := { name := "brokerOpen", fn := fun _ => fun
  | [d1, d2, d3] => { results := [.lit (.bool false)], args := [d1, d2, d3] }
  | _ => none }
def BrokerOpenWrongFalsely : Prop := brokerOpenRow.holds Tryz.pinned (OpenSpec.ofChange brokerOpenWrong)

/-- 'farandolelaw54.BrokerScript': WHATEVER THE INPUT: true; the input reads as it did. -/
def brokerScriptSpec : ChangeSpec := { name := "brokerScript", fn := fun _ => fun
  | [d1, d2] => { results := [.lit (.bool true)], args := [d1, d2] }
  | _ => none }
def brokerScriptRow : OpenClaim := { program := "ytkcdbcbpbolgkaagreatdoor", sum := "3223ab715d85465fae3314b7fd55b3e3b9093637d3810b390a8829fe7121dd76", func := "farandole/farandolelaw54.BrokerScript", spec := "brokerScript", inPlace := ["maps.clone", "internal/bytealg.abigen_runtime_cmpstring", "slices.overlaps[farandole/upgrade.Entry]"], unfollowed := true, recurses := true, named := ["internal/strconv.uint64pow10", "math/bits.deBruijn32tab", "math/bits.deBruijn64tab", "strconv.ErrSyntax", "strconv.ErrRange"], plainKeys := false, apart := false, laid := [("math/bits.deBruijn32tab", laid_math_bits_deBruijn32tab), ("math/bits.deBruijn64tab", laid_math_bits_deBruijn64tab), ("internal/strconv.uint64pow10", laid_internal_strconv_uint64pow10), ("strconv.ErrRange", laid_strconv_ErrRange), ("strconv.ErrSyntax", laid_strconv_ErrSyntax)] }
def BrokerScriptSaid : Prop := brokerScriptRow.holds Tryz.pinned (OpenSpec.ofChange brokerScriptSpec)

/-- ITS FALSE NEIGHBOUR: 'it returns false'. Refute it at one input. -/
def brokerScriptWrong : ChangeSpec := { name := "brokerScript", fn := fun _ => fun
  | [d1, d2] => { results := [.lit (.bool false)], args := [d1, d2] }
  | _ => none }
def BrokerScriptWrongFalsely : Prop := brokerScriptRow.holds Tryz.pinned (OpenSpec.ofChange brokerScriptWrong)

/-- 'farandolelaw54.BrokerDurable': WHATEVER THE INPUT: true; the input reads as it did. -/
def brokerDurableSpec : ChangeSpec := { name := "brokerDurable", fn := fun _ => fun
  | [d1, d2, d3] => { results := [.lit (.bool true)], args := [d1, d2, d3] }
  | _ => none }
def brokerDurableRow : OpenClaim := { program := "ytkcdbcbpbolgkaagreatdoor", sum := "3223ab715d85465fae3314b7fd55b3e3b9093637d3810b390a8829fe7121dd76", func := "farandole/farandolelaw54.BrokerDurable", spec := "brokerDurable", inPlace := ["maps.clone", "internal/bytealg.abigen_runtime_cmpstring", "slices.overlaps[farandole/upgrade.Entry]"], unfollowed := true, recurses := true, named := ["internal/strconv.uint64pow10", "math/bits.deBruijn32tab", "math/bits.deBruijn64tab", "strconv.ErrSyntax", "strconv.ErrRange"], plainKeys := false, apart := false, laid := [("math/bits.deBruijn32tab", laid_math_bits_deBruijn32tab), ("math/bits.deBruijn64tab", laid_math_bits_deBruijn64tab), ("internal/strconv.uint64pow10", laid_internal_strconv_uint64pow10), ("strconv.ErrRange", laid_strconv_ErrRange), ("strconv.ErrSyntax", laid_strconv_ErrSyntax)] }
def BrokerDurableSaid : Prop := brokerDurableRow.holds Tryz.pinned (OpenSpec.ofChange brokerDurableSpec)

/-- ITS FALSE NEIGHBOUR: 'it returns false'. Refute it at one input. -/
def brokerDurableWrong : ChangeSpec := { name := "brokerDurable", fn := fun _ => fun
  | [d1, d2, d3] => { results := [.lit (.bool false)], args := [d1, d2, d3] }
  | _ => none }
def BrokerDurableWrongFalsely : Prop := brokerDurableRow.holds Tryz.pinned (OpenSpec.ofChange brokerDurableWrong)

/- THE SECOND FORM. 'bulk': how many values and letters a reading holds, each counted each time it is reached (what is shared counts as often as it is met; a slice's spare places count too). A statement '..UptoSaid' is the law's where the arguments, and the package variables that the reading takes, are together of bulk at most 1048576: NARROWER than '..Said'. Prove '..Said' where nothing that the law and all that it calls make is longer than what came in: it says more and counts as full. Else prove '..UptoSaid'. A law counts once. -/
mutual
def uptoBulk {H : Type} : DataW H → Nat
  | .lit (.string bytes) => bytes.length + 1
  | .lit _ => 1
  | .nil => 1
  | .ptr d => uptoBulk d + 1
  | .slice elems spare => uptoBulkAll elems + uptoBulkAll spare + 1
  | .agg parts => uptoBulkAll parts + 1
  | .iface _ d => uptoBulk d + 1
  | .map entries => uptoBulkEntries entries + 1
  | .held _ => 1
def uptoBulkAll {H : Type} : List (DataW H) → Nat
  | [] => 0
  | d :: r => uptoBulk d + uptoBulkAll r
def uptoBulkEntries {H : Type} : List (Lit × DataW H) → Nat
  | [] => 0
  | x :: r => uptoBulkEntry x + uptoBulkEntries r
def uptoBulkEntry {H : Type} : Lit × DataW H → Nat
  | (.string bytes, d) => bytes.length + uptoBulk d + 1
  | (_, d) => uptoBulk d + 1
 end
def uptoSmall : (H : Type) → List (DataW H) → Bool := fun _ ds => decide (uptoBulkAll ds ≤ 1048576)
def OpenSpec.upto (s : _root_.Go.ChangeSpec) : _root_.Go.OpenSpec := { _root_.Go.OpenSpec.ofChange s with cond := some uptoSmall }

/-- 'farandolelaw54.BrokerDelivers', WHERE WHAT IT READS IS OF BULK AT MOST 1048576: true; the input reads as it did. -/
def brokerDeliversUptoRow : OpenClaim := { program := "ytkcdbcbpbolgkaagreatdoor", sum := "3223ab715d85465fae3314b7fd55b3e3b9093637d3810b390a8829fe7121dd76", func := "farandole/farandolelaw54.BrokerDelivers", spec := "brokerDelivers", inPlace := ["maps.clone", "internal/bytealg.abigen_runtime_cmpstring", "slices.overlaps[farandole/upgrade.Entry]"], unfollowed := true, recurses := true, named := ["internal/strconv.uint64pow10", "math/bits.deBruijn32tab", "math/bits.deBruijn64tab"], plainKeys := false, apart := false, laid := [("math/bits.deBruijn32tab", laid_math_bits_deBruijn32tab), ("math/bits.deBruijn64tab", laid_math_bits_deBruijn64tab), ("internal/strconv.uint64pow10", laid_internal_strconv_uint64pow10)], narrowed := true }
def BrokerDeliversUptoSaid : Prop := brokerDeliversUptoRow.holds Tryz.pinned (OpenSpec.upto brokerDeliversSpec)

/-- 'farandolelaw53.UpgradeChanges', WHERE WHAT IT READS IS OF BULK AT MOST 1048576: true; the input reads as it did. -/
def upgradeChangesUptoRow : OpenClaim := { program := "ytkcdbcbpbolgkaagreatdoor", sum := "3223ab715d85465fae3314b7fd55b3e3b9093637d3810b390a8829fe7121dd76", func := "farandole/farandolelaw53.UpgradeChanges", spec := "upgradeChanges", inPlace := ["slices.overlaps[farandole/upgrade.Entry]", "maps.clone", "internal/bytealg.abigen_runtime_cmpstring"], unfollowed := true, recurses := true, named := ["internal/strconv.uint64pow10", "math/bits.deBruijn32tab", "math/bits.deBruijn64tab", "strconv.ErrSyntax", "strconv.ErrRange"], plainKeys := false, apart := false, laid := [("math/bits.deBruijn32tab", laid_math_bits_deBruijn32tab), ("math/bits.deBruijn64tab", laid_math_bits_deBruijn64tab), ("internal/strconv.uint64pow10", laid_internal_strconv_uint64pow10), ("strconv.ErrRange", laid_strconv_ErrRange), ("strconv.ErrSyntax", laid_strconv_ErrSyntax)], narrowed := true }
def UpgradeChangesUptoSaid : Prop := upgradeChangesUptoRow.holds Tryz.pinned (OpenSpec.upto upgradeChangesSpec)

/-- 'farandolelaw54.BrokerRepeats', WHERE WHAT IT READS IS OF BULK AT MOST 1048576: true; the input reads as it did. -/
def brokerRepeatsUptoRow : OpenClaim := { program := "ytkcdbcbpbolgkaagreatdoor", sum := "3223ab715d85465fae3314b7fd55b3e3b9093637d3810b390a8829fe7121dd76", func := "farandole/farandolelaw54.BrokerRepeats", spec := "brokerRepeats", inPlace := ["maps.clone", "internal/bytealg.abigen_runtime_cmpstring", "slices.overlaps[farandole/upgrade.Entry]"], unfollowed := true, recurses := true, named := ["internal/strconv.uint64pow10", "math/bits.deBruijn32tab", "math/bits.deBruijn64tab"], plainKeys := false, apart := false, laid := [("math/bits.deBruijn32tab", laid_math_bits_deBruijn32tab), ("math/bits.deBruijn64tab", laid_math_bits_deBruijn64tab), ("internal/strconv.uint64pow10", laid_internal_strconv_uint64pow10)], narrowed := true }
def BrokerRepeatsUptoSaid : Prop := brokerRepeatsUptoRow.holds Tryz.pinned (OpenSpec.upto brokerRepeatsSpec)

/-- 'farandolelaw54.BrokerNil', WHERE WHAT IT READS IS OF BULK AT MOST 1048576: true; the input reads as it did. -/
def brokerNilUptoRow : OpenClaim := { program := "ytkcdbcbpbolgkaagreatdoor", sum := "3223ab715d85465fae3314b7fd55b3e3b9093637d3810b390a8829fe7121dd76", func := "farandole/farandolelaw54.BrokerNil", spec := "brokerNil", inPlace := ["maps.clone", "internal/bytealg.abigen_runtime_cmpstring", "slices.overlaps[farandole/upgrade.Entry]"], unfollowed := true, recurses := true, named := ["internal/strconv.uint64pow10", "math/bits.deBruijn32tab", "math/bits.deBruijn64tab"], plainKeys := false, apart := false, laid := [("math/bits.deBruijn32tab", laid_math_bits_deBruijn32tab), ("math/bits.deBruijn64tab", laid_math_bits_deBruijn64tab), ("internal/strconv.uint64pow10", laid_internal_strconv_uint64pow10)], narrowed := true }
def BrokerNilUptoSaid : Prop := brokerNilUptoRow.holds Tryz.pinned (OpenSpec.upto brokerNilSpec)

/-- 'farandolelaw53.UpgradeStored', WHERE WHAT IT READS IS OF BULK AT MOST 1048576: true; the input reads as it did. -/
def upgradeStoredUptoRow : OpenClaim := { program := "ytkcdbcbpbolgkaagreatdoor", sum := "3223ab715d85465fae3314b7fd55b3e3b9093637d3810b390a8829fe7121dd76", func := "farandole/farandolelaw53.UpgradeStored", spec := "upgradeStored", inPlace := ["slices.overlaps[farandole/upgrade.Entry]", "maps.clone", "internal/bytealg.abigen_runtime_cmpstring"], unfollowed := true, recurses := true, named := ["internal/strconv.uint64pow10", "math/bits.deBruijn32tab", "math/bits.deBruijn64tab", "strconv.ErrSyntax", "strconv.ErrRange"], plainKeys := false, apart := false, laid := [("math/bits.deBruijn32tab", laid_math_bits_deBruijn32tab), ("math/bits.deBruijn64tab", laid_math_bits_deBruijn64tab), ("internal/strconv.uint64pow10", laid_internal_strconv_uint64pow10), ("strconv.ErrRange", laid_strconv_ErrRange), ("strconv.ErrSyntax", laid_strconv_ErrSyntax)], narrowed := true }
def UpgradeStoredUptoSaid : Prop := upgradeStoredUptoRow.holds Tryz.pinned (OpenSpec.upto upgradeStoredSpec)

/-- 'farandolelaw54.BrokerOpen', WHERE WHAT IT READS IS OF BULK AT MOST 1048576: true; the input reads as it did. -/
def brokerOpenUptoRow : OpenClaim := { program := "ytkcdbcbpbolgkaagreatdoor", sum := "3223ab715d85465fae3314b7fd55b3e3b9093637d3810b390a8829fe7121dd76", func := "farandole/farandolelaw54.BrokerOpen", spec := "brokerOpen", inPlace := ["maps.clone", "internal/bytealg.abigen_runtime_cmpstring"], unfollowed := true, recurses := true, named := ["internal/strconv.uint64pow10", "math/bits.deBruijn32tab", "math/bits.deBruijn64tab", "strconv.ErrSyntax", "strconv.ErrRange"], plainKeys := false, apart := false, laid := [("math/bits.deBruijn32tab", laid_math_bits_deBruijn32tab), ("math/bits.deBruijn64tab", laid_math_bits_deBruijn64tab), ("internal/strconv.uint64pow10", laid_internal_strconv_uint64pow10), ("strconv.ErrRange", laid_strconv_ErrRange), ("strconv.ErrSyntax", laid_strconv_ErrSyntax)], narrowed := true }
def BrokerOpenUptoSaid : Prop := brokerOpenUptoRow.holds Tryz.pinned (OpenSpec.upto brokerOpenSpec)

/-- 'farandolelaw54.BrokerScript', WHERE WHAT IT READS IS OF BULK AT MOST 1048576: true; the input reads as it did. -/
def brokerScriptUptoRow : OpenClaim := { program := "ytkcdbcbpbolgkaagreatdoor", sum := "3223ab715d85465fae3314b7fd55b3e3b9093637d3810b390a8829fe7121dd76", func := "farandole/farandolelaw54.BrokerScript", spec := "brokerScript", inPlace := ["maps.clone", "internal/bytealg.abigen_runtime_cmpstring", "slices.overlaps[farandole/upgrade.Entry]"], unfollowed := true, recurses := true, named := ["internal/strconv.uint64pow10", "math/bits.deBruijn32tab", "math/bits.deBruijn64tab", "strconv.ErrSyntax", "strconv.ErrRange"], plainKeys := false, apart := false, laid := [("math/bits.deBruijn32tab", laid_math_bits_deBruijn32tab), ("math/bits.deBruijn64tab", laid_math_bits_deBruijn64tab), ("internal/strconv.uint64pow10", laid_internal_strconv_uint64pow10), ("strconv.ErrRange", laid_strconv_ErrRange), ("strconv.ErrSyntax", laid_strconv_ErrSyntax)], narrowed := true }
def BrokerScriptUptoSaid : Prop := brokerScriptUptoRow.holds Tryz.pinned (OpenSpec.upto brokerScriptSpec)

/-- 'farandolelaw54.BrokerDurable', WHERE WHAT IT READS IS OF BULK AT MOST 1048576: true; the input reads as it did. -/
def brokerDurableUptoRow : OpenClaim := { program := "ytkcdbcbpbolgkaagreatdoor", sum := "3223ab715d85465fae3314b7fd55b3e3b9093637d3810b390a8829fe7121dd76", func := "farandole/farandolelaw54.BrokerDurable", spec := "brokerDurable", inPlace := ["maps.clone", "internal/bytealg.abigen_runtime_cmpstring", "slices.overlaps[farandole/upgrade.Entry]"], unfollowed := true, recurses := true, named := ["internal/strconv.uint64pow10", "math/bits.deBruijn32tab", "math/bits.deBruijn64tab", "strconv.ErrSyntax", "strconv.ErrRange"], plainKeys := false, apart := false, laid := [("math/bits.deBruijn32tab", laid_math_bits_deBruijn32tab), ("math/bits.deBruijn64tab", laid_math_bits_deBruijn64tab), ("internal/strconv.uint64pow10", laid_internal_strconv_uint64pow10), ("strconv.ErrRange", laid_strconv_ErrRange), ("strconv.ErrSyntax", laid_strconv_ErrSyntax)], narrowed := true }
def BrokerDurableUptoSaid : Prop := brokerDurableUptoRow.holds Tryz.pinned (OpenSpec.upto brokerDurableSpec)

end Rows
end Go.Proofs.YtkcdbcbpbolgkaaGreatDoor
