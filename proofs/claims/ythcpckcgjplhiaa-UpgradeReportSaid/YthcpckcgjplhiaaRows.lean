/-
  No cell of these rows narrows 'for every input' (looked for: loops, veiled, ifaces, maps, wideKeys, modest, calm, conditions, laid).
  DERIVED. THE GIVEN ROWS OF THIS SEAT. 8 by the template 'for every input the law returns true; each argument reads behind the call as it read before'; 0 by the template 'total and deterministic' (their statements: YthcpckcgjplhiaaTotals.lean).
  GIVEN WITH THE SEED: the statements are not yours to turn. If you find one false, say at which input.
  Laid BY PROGRAM, IN A SANDBOX (cutbox-rows.mjs): the forced cells as the released guide's own fill.sh prints them over the translation 0251ab4a08e04539… (all of the seat's roots in one cut). By AI agents, Wed Nov 11 2026. No macro, syntax, notation, axiom, sorry.
-/
import Derived.Test.YthcpckcgjplhiaaChecked
import GoSem.Claim
import GoSem.ClaimJoined
import GoSem.ClaimMapViews
import Derived.JoinedTies
import Derived.KernelRfl
namespace Go.Proofs.Ythcpckcgjplhiaa
/- THE CELL 'sum', in the pinned program and in every row, IS THE sha256 OF THE DUMP (.gsa) THAT YthcpckcgjplhiaaProg.lean LOADS. Nothing in Lean hashes anything: it is a label: what it is worth is what the hold of that sum in a sandbox is worth. -/
noncomputable def Try.pinned : Pinned := { name := "ythcpckcgjplhiaa", sum := "0251ab4a08e045398c8e9b505650309cf5a536edb6618a6329e75c4645ab37ee", checked := Try.checked }
namespace Rows
def none {H : Type} : Left H := { results := [], args := [] }

/-- 'farandolelaw44.SamplesTexts': WHATEVER THE INPUT: true; the input reads as it did. -/
def samplesTextsSpec : ChangeSpec := { name := "samplesTexts", fn := fun _ => fun
  | [d] => { results := [.lit (.bool true)], args := [d] }
  | _ => none }
def samplesTextsRow : OpenClaim := { program := "ythcpckcgjplhiaa", sum := "0251ab4a08e045398c8e9b505650309cf5a536edb6618a6329e75c4645ab37ee", func := "farandole/farandolelaw44.SamplesTexts", spec := "samplesTexts", unfollowed := true, recurses := true, apart := false }
def SamplesTextsSaid : Prop := samplesTextsRow.holds Try.pinned (OpenSpec.ofChange samplesTextsSpec)

/-- ITS FALSE NEIGHBOUR: 'it returns false'. Refute it at one input. -/
def samplesTextsWrong : ChangeSpec := { name := "samplesTexts", fn := fun _ => fun
  | [d] => { results := [.lit (.bool false)], args := [d] }
  | _ => none }
def SamplesTextsWrongFalsely : Prop := samplesTextsRow.holds Try.pinned (OpenSpec.ofChange samplesTextsWrong)

/-- 'farandolelaw51.QueueConsume': WHATEVER THE INPUT: true; the input reads as it did. -/
def queueConsumeSpec : ChangeSpec := { name := "queueConsume", fn := fun _ => fun
  | [d1, d2] => { results := [.lit (.bool true)], args := [d1, d2] }
  | _ => none }
def queueConsumeRow : OpenClaim := { program := "ythcpckcgjplhiaa", sum := "0251ab4a08e045398c8e9b505650309cf5a536edb6618a6329e75c4645ab37ee", func := "farandole/farandolelaw51.QueueConsume", spec := "queueConsume", unfollowed := true, recurses := true, apart := false }
def QueueConsumeSaid : Prop := queueConsumeRow.holds Try.pinned (OpenSpec.ofChange queueConsumeSpec)

/-- ITS FALSE NEIGHBOUR: 'it returns false'. Refute it at one input. -/
def queueConsumeWrong : ChangeSpec := { name := "queueConsume", fn := fun _ => fun
  | [d1, d2] => { results := [.lit (.bool false)], args := [d1, d2] }
  | _ => none }
def QueueConsumeWrongFalsely : Prop := queueConsumeRow.holds Try.pinned (OpenSpec.ofChange queueConsumeWrong)

/-- 'farandolelaw51.QueueOnce': WHATEVER THE INPUT: true; the input reads as it did. -/
def queueOnceSpec : ChangeSpec := { name := "queueOnce", fn := fun _ => fun
  | [d] => { results := [.lit (.bool true)], args := [d] }
  | _ => none }
def queueOnceRow : OpenClaim := { program := "ythcpckcgjplhiaa", sum := "0251ab4a08e045398c8e9b505650309cf5a536edb6618a6329e75c4645ab37ee", func := "farandole/farandolelaw51.QueueOnce", spec := "queueOnce", unfollowed := true, recurses := true, apart := false }
def QueueOnceSaid : Prop := queueOnceRow.holds Try.pinned (OpenSpec.ofChange queueOnceSpec)

/-- ITS FALSE NEIGHBOUR: 'it returns false'. Refute it at one input. -/
def queueOnceWrong : ChangeSpec := { name := "queueOnce", fn := fun _ => fun
  | [d] => { results := [.lit (.bool false)], args := [d] }
  | _ => none }
def QueueOnceWrongFalsely : Prop := queueOnceRow.holds Try.pinned (OpenSpec.ofChange queueOnceWrong)

/-- 'farandolelaw51.QueueOffer': WHATEVER THE INPUT: true; the input reads as it did. -/
def queueOfferSpec : ChangeSpec := { name := "queueOffer", fn := fun _ => fun
  | [d1, d2, d3] => { results := [.lit (.bool true)], args := [d1, d2, d3] }
  | _ => none }
def queueOfferRow : OpenClaim := { program := "ythcpckcgjplhiaa", sum := "0251ab4a08e045398c8e9b505650309cf5a536edb6618a6329e75c4645ab37ee", func := "farandole/farandolelaw51.QueueOffer", spec := "queueOffer", unfollowed := true, recurses := true, apart := false }
def QueueOfferSaid : Prop := queueOfferRow.holds Try.pinned (OpenSpec.ofChange queueOfferSpec)

/-- ITS FALSE NEIGHBOUR: 'it returns false'. Refute it at one input. -/
def queueOfferWrong : ChangeSpec := { name := "queueOffer", fn := fun _ => fun
  | [d1, d2, d3] => { results := [.lit (.bool false)], args := [d1, d2, d3] }
  | _ => none }
def QueueOfferWrongFalsely : Prop := queueOfferRow.holds Try.pinned (OpenSpec.ofChange queueOfferWrong)

/-- 'farandolelaw53.UpgradeOrders': WHATEVER THE INPUT: true; the input reads as it did. -/
def upgradeOrdersSpec : ChangeSpec := { name := "upgradeOrders", fn := fun _ => fun
  | [d] => { results := [.lit (.bool true)], args := [d] }
  | _ => none }
def upgradeOrdersRow : OpenClaim := { program := "ythcpckcgjplhiaa", sum := "0251ab4a08e045398c8e9b505650309cf5a536edb6618a6329e75c4645ab37ee", func := "farandole/farandolelaw53.UpgradeOrders", spec := "upgradeOrders", inPlace := ["slices.overlaps[farandole/upgrade.Entry]"], unfollowed := true, recurses := true, apart := false }
def UpgradeOrdersSaid : Prop := upgradeOrdersRow.holds Try.pinned (OpenSpec.ofChange upgradeOrdersSpec)

/-- ITS FALSE NEIGHBOUR: 'it returns false'. Refute it at one input. -/
def upgradeOrdersWrong : ChangeSpec := { name := "upgradeOrders", fn := fun _ => fun
  | [d] => { results := [.lit (.bool false)], args := [d] }
  | _ => none }
def UpgradeOrdersWrongFalsely : Prop := upgradeOrdersRow.holds Try.pinned (OpenSpec.ofChange upgradeOrdersWrong)

/-- 'farandolelaw53.UpgradePhases': WHATEVER THE INPUT: true; the input reads as it did. -/
def upgradePhasesSpec : ChangeSpec := { name := "upgradePhases", fn := fun _ => fun
  | [d1, d2] => { results := [.lit (.bool true)], args := [d1, d2] }
  | _ => none }
def upgradePhasesRow : OpenClaim := { program := "ythcpckcgjplhiaa", sum := "0251ab4a08e045398c8e9b505650309cf5a536edb6618a6329e75c4645ab37ee", func := "farandole/farandolelaw53.UpgradePhases", spec := "upgradePhases", inPlace := ["slices.overlaps[farandole/upgrade.Entry]"], unfollowed := true, recurses := true, apart := false }
def UpgradePhasesSaid : Prop := upgradePhasesRow.holds Try.pinned (OpenSpec.ofChange upgradePhasesSpec)

/-- ITS FALSE NEIGHBOUR: 'it returns false'. Refute it at one input. -/
def upgradePhasesWrong : ChangeSpec := { name := "upgradePhases", fn := fun _ => fun
  | [d1, d2] => { results := [.lit (.bool false)], args := [d1, d2] }
  | _ => none }
def UpgradePhasesWrongFalsely : Prop := upgradePhasesRow.holds Try.pinned (OpenSpec.ofChange upgradePhasesWrong)

/-- 'farandolelaw53.UpgradeDone': WHATEVER THE INPUT: true; the input reads as it did. -/
def upgradeDoneSpec : ChangeSpec := { name := "upgradeDone", fn := fun _ => fun
  | [d1, d2, d3] => { results := [.lit (.bool true)], args := [d1, d2, d3] }
  | _ => none }
def upgradeDoneRow : OpenClaim := { program := "ythcpckcgjplhiaa", sum := "0251ab4a08e045398c8e9b505650309cf5a536edb6618a6329e75c4645ab37ee", func := "farandole/farandolelaw53.UpgradeDone", spec := "upgradeDone", inPlace := ["slices.overlaps[farandole/upgrade.Entry]"], unfollowed := true, recurses := true, apart := false }
def UpgradeDoneSaid : Prop := upgradeDoneRow.holds Try.pinned (OpenSpec.ofChange upgradeDoneSpec)

/-- ITS FALSE NEIGHBOUR: 'it returns false'. Refute it at one input. -/
def upgradeDoneWrong : ChangeSpec := { name := "upgradeDone", fn := fun _ => fun
  | [d1, d2, d3] => { results := [.lit (.bool false)], args := [d1, d2, d3] }
  | _ => none }
def UpgradeDoneWrongFalsely : Prop := upgradeDoneRow.holds Try.pinned (OpenSpec.ofChange upgradeDoneWrong)

/-- 'farandolelaw53.UpgradeReport': WHATEVER THE INPUT: true; the input reads as it did. -/
def upgradeReportSpec : ChangeSpec := { name := "upgradeReport", fn := fun _ => fun
  | [d1, d2, d3] => { results := [.lit (.bool true)], args := [d1, d2, d3] }
  | _ => none }
def upgradeReportRow : OpenClaim := { program := "ythcpckcgjplhiaa", sum := "0251ab4a08e045398c8e9b505650309cf5a536edb6618a6329e75c4645ab37ee", func := "farandole/farandolelaw53.UpgradeReport", spec := "upgradeReport", inPlace := ["slices.overlaps[farandole/upgrade.Entry]"], unfollowed := true, recurses := true, apart := false }
def UpgradeReportSaid : Prop := upgradeReportRow.holds Try.pinned (OpenSpec.ofChange upgradeReportSpec)

/-- ITS FALSE NEIGHBOUR: 'it returns false'. Refute it at one input. -/
def upgradeReportWrong : ChangeSpec := { name := "upgradeReport", fn := fun _ => fun
  | [d1, d2, d3] => { results := [.lit (.bool false)], args := [d1, d2, d3] }
  | _ => none }
def UpgradeReportWrongFalsely : Prop := upgradeReportRow.holds Try.pinned (OpenSpec.ofChange upgradeReportWrong)

/- THE SECOND FORM. 'bulk': how many values and letters a reading holds, each counted each time it is reached (what is shared counts as often as it is met; a slice's spare places count too). A statement '..UptoSaid' is the law's where the arguments, and the package variables that the reading takes, are together of bulk at most 1048576: NARROWER than '..Said'. Prove '..Said' where nothing that the law and all that it calls make is longer than what came in: it says more and counts as full. Else prove '..UptoSaid'. A law counts once. -/
mutual
def uptoBulk {H : Type} : DataW H → Nat
  | .lit (.string bytes) => bytes.length + 1
  | .lit _ => 1
  | .nil => 1
  | .ptr d => uptoBulk d + 1
  | .slice elems spare => uptoBulkAll elems + uptoBulkAll spare + 1
  | .agg parts => uptoBulkAll parts + 1
  | .iface _ d => uptoBulk d + 1
  | .map entries => uptoBulkEntries entries + 1
  | .held _ => 1
def uptoBulkAll {H : Type} : List (DataW H) → Nat
  | [] => 0
  | d :: r => uptoBulk d + uptoBulkAll r
def uptoBulkEntries {H : Type} : List (Lit × DataW H) → Nat
  | [] => 0
  | x :: r => uptoBulkEntry x + uptoBulkEntries r
def uptoBulkEntry {H : Type} : Lit × DataW H → Nat
  | (.string bytes, d) => bytes.length + uptoBulk d + 1
  | (_, d) => uptoBulk d + 1
 end
def uptoSmall : (H : Type) → List (DataW H) → Bool := fun _ ds => decide (uptoBulkAll ds ≤ 1048576)
def OpenSpec.upto (s : _root_.Go.ChangeSpec) : _root_.Go.OpenSpec := { _root_.Go.OpenSpec.ofChange s with cond := some uptoSmall }

/-- 'farandolelaw44.SamplesTexts', WHERE WHAT IT READS IS OF BULK AT MOST 1048576: true; the input reads as it did. -/
def samplesTextsUptoRow : OpenClaim := { program := "ythcpckcgjplhiaa", sum := "0251ab4a08e045398c8e9b505650309cf5a536edb6618a6329e75c4645ab37ee", func := "farandole/farandolelaw44.SamplesTexts", spec := "samplesTexts", unfollowed := true, recurses := true, apart := false, narrowed := true }
def SamplesTextsUptoSaid : Prop := samplesTextsUptoRow.holds Try.pinned (OpenSpec.upto samplesTextsSpec)

/-- 'farandolelaw51.QueueConsume', WHERE WHAT IT READS IS OF BULK AT MOST 1048576: true; the input reads as it did. -/
def queueConsumeUptoRow : OpenClaim := { program := "ythcpckcgjplhiaa", sum := "0251ab4a08e045398c8e9b505650309cf5a536edb6618a6329e75c4645ab37ee", func := "farandole/farandolelaw51.QueueConsume", spec := "queueConsume", unfollowed := true, recurses := true, apart := false, narrowed := true }
def QueueConsumeUptoSaid : Prop := queueConsumeUptoRow.holds Try.pinned (OpenSpec.upto queueConsumeSpec)

/-- 'farandolelaw51.QueueOnce', WHERE WHAT IT READS IS OF BULK AT MOST 1048576: true; the input reads as it did. -/
def queueOnceUptoRow : OpenClaim := { program := "ythcpckcgjplhiaa", sum := "0251ab4a08e045398c8e9b505650309cf5a536edb6618a6329e75c4645ab37ee", func := "farandole/farandolelaw51.QueueOnce", spec := "queueOnce", unfollowed := true, recurses := true, apart := false, narrowed := true }
def QueueOnceUptoSaid : Prop := queueOnceUptoRow.holds Try.pinned (OpenSpec.upto queueOnceSpec)

/-- 'farandolelaw51.QueueOffer', WHERE WHAT IT READS IS OF BULK AT MOST 1048576: true; the input reads as it did. -/
def queueOfferUptoRow : OpenClaim := { program := "ythcpckcgjplhiaa", sum := "0251ab4a08e045398c8e9b505650309cf5a536edb6618a6329e75c4645ab37ee", func := "farandole/farandolelaw51.QueueOffer", spec := "queueOffer", unfollowed := true, recurses := true, apart := false, narrowed := true }
def QueueOfferUptoSaid : Prop := queueOfferUptoRow.holds Try.pinned (OpenSpec.upto queueOfferSpec)

/-- 'farandolelaw53.UpgradeOrders', WHERE WHAT IT READS IS OF BULK AT MOST 1048576: true; the input reads as it did. -/
def upgradeOrdersUptoRow : OpenClaim := { program := "ythcpckcgjplhiaa", sum := "0251ab4a08e045398c8e9b505650309cf5a536edb6618a6329e75c4645ab37ee", func := "farandole/farandolelaw53.UpgradeOrders", spec := "upgradeOrders", inPlace := ["slices.overlaps[farandole/upgrade.Entry]"], unfollowed := true, recurses := true, apart := false, narrowed := true }
def UpgradeOrdersUptoSaid : Prop := upgradeOrdersUptoRow.holds Try.pinned (OpenSpec.upto upgradeOrdersSpec)

/-- 'farandolelaw53.UpgradePhases', WHERE WHAT IT READS IS OF BULK AT MOST 1048576: true; the input reads as it did. -/
def upgradePhasesUptoRow : OpenClaim := { program := "ythcpckcgjplhiaa", sum := "0251ab4a08e045398c8e9b505650309cf5a536edb6618a6329e75c4645ab37ee", func := "farandole/farandolelaw53.UpgradePhases", spec := "upgradePhases", inPlace := ["slices.overlaps[farandole/upgrade.Entry]"], unfollowed := true, recurses := true, apart := false, narrowed := true }
def UpgradePhasesUptoSaid : Prop := upgradePhasesUptoRow.holds Try.pinned (OpenSpec.upto upgradePhasesSpec)

/-- 'farandolelaw53.UpgradeDone', WHERE WHAT IT READS IS OF BULK AT MOST 1048576: true; the input reads as it did. -/
def upgradeDoneUptoRow : OpenClaim := { program := "ythcpckcgjplhiaa", sum := "0251ab4a08e045398c8e9b505650309cf5a536edb6618a6329e75c4645ab37ee", func := "farandole/farandolelaw53.UpgradeDone", spec := "upgradeDone", inPlace := ["slices.overlaps[farandole/upgrade.Entry]"], unfollowed := true, recurses := true, apart := false, narrowed := true }
def UpgradeDoneUptoSaid : Prop := upgradeDoneUptoRow.holds Try.pinned (OpenSpec.upto upgradeDoneSpec)

/-- 'farandolelaw53.UpgradeReport', WHERE WHAT IT READS IS OF BULK AT MOST 1048576: true; the input reads as it did. -/
def upgradeReportUptoRow : OpenClaim := { program := "ythcpckcgjplhiaa", sum := "0251ab4a08e045398c8e9b505650309cf5a536edb6618a6329e75c4645ab37ee", func := "farandole/farandolelaw53.UpgradeReport", spec := "upgradeReport", inPlace := ["slices.overlaps[farandole/upgrade.Entry]"], unfollowed := true, recurses := true, apart := false, narrowed := true }
def UpgradeReportUptoSaid : Prop := upgradeReportUptoRow.holds Try.pinned (OpenSpec.upto upgradeReportSpec)

end Rows
end Go.Proofs.Ythcpckcgjplhiaa
