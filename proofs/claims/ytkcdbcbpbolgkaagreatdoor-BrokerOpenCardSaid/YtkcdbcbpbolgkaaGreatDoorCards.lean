/-
  DERIVED. GIVEN WITH THE SEED: THE CARDS: each row of YtkcdbcbpbolgkaaGreatDoorRows.lean that lists a variable, with what it lists TIED to the program's text (the seventh form; the later family's looks); each row that meets fmt, with fmt's text TOLD by the authors' own Lean function (tested against real Go, not proved from fmt's source: count such statements apart). THE CARD IS WHAT COUNTS. Prove the row's statement (the work); the ties are given (YtkcdbcbpbolgkaaGreatDoorTie.lean); close each card by the builder's one call (the guide's Derived/Test/ToyasCard.lean, 'card_holds'). Laid BY PROGRAM, IN A SANDBOX (cutbox-door.mjs). By AI agents, Wed Nov 11 2026. No macro, syntax, notation, axiom, sorry.
-/
import Derived.Test.YtkcdbcbpbolgkaaGreatDoorRows
import GoSem.ClaimSeven
namespace Go.Proofs.YtkcdbcbpbolgkaaGreatDoor
namespace Rows

/-- THE TIED CARD OF 'farandolelaw54.BrokerDelivers'. -/
def brokerDeliversCard : Claim7 := { stood := { row := brokerDeliversRow, standIns := [], harness := (true, "b1adc7ad8ba675a42d8b6400a3b069c383f74ee3fa68f53c853f9c5cc32378d3"), looks := true }, kinds := [], alts := [], laidByText := true, laidKinds := [.data, .data, .data], laidTests := true, laidLooks := .later }
def BrokerDeliversCardSaid : Prop := Claim7.holds Tryz.pinned (.plain (OpenSpec.ofChange brokerDeliversSpec)) brokerDeliversCard

/-- THE TIED CARD OF 'farandolelaw53.UpgradeChanges'. -/
def upgradeChangesCard : Claim7 := { stood := { row := upgradeChangesRow, standIns := [], harness := (true, "b1adc7ad8ba675a42d8b6400a3b069c383f74ee3fa68f53c853f9c5cc32378d3"), looks := true }, kinds := [], alts := [], laidByText := true, laidKinds := [.data, .data, .data, .sentinel, .sentinel], laidTests := true, laidLooks := .later }
def UpgradeChangesCardSaid : Prop := Claim7.holds Tryz.pinned (.plain (OpenSpec.ofChange upgradeChangesSpec)) upgradeChangesCard

/-- THE TIED CARD OF 'farandolelaw54.BrokerRepeats'. -/
def brokerRepeatsCard : Claim7 := { stood := { row := brokerRepeatsRow, standIns := [], harness := (true, "b1adc7ad8ba675a42d8b6400a3b069c383f74ee3fa68f53c853f9c5cc32378d3"), looks := true }, kinds := [], alts := [], laidByText := true, laidKinds := [.data, .data, .data], laidTests := true, laidLooks := .later }
def BrokerRepeatsCardSaid : Prop := Claim7.holds Tryz.pinned (.plain (OpenSpec.ofChange brokerRepeatsSpec)) brokerRepeatsCard

/-- THE TIED CARD OF 'farandolelaw54.BrokerNil'. -/
def brokerNilCard : Claim7 := { stood := { row := brokerNilRow, standIns := [], harness := (true, "b1adc7ad8ba675a42d8b6400a3b069c383f74ee3fa68f53c853f9c5cc32378d3"), looks := true }, kinds := [], alts := [], laidByText := true, laidKinds := [.data, .data, .data], laidTests := true, laidLooks := .later }
def BrokerNilCardSaid : Prop := Claim7.holds Tryz.pinned (.plain (OpenSpec.ofChange brokerNilSpec)) brokerNilCard

/-- THE TIED CARD OF 'farandolelaw53.UpgradeStored'. -/
def upgradeStoredCard : Claim7 := { stood := { row := upgradeStoredRow, standIns := [], harness := (true, "b1adc7ad8ba675a42d8b6400a3b069c383f74ee3fa68f53c853f9c5cc32378d3"), looks := true }, kinds := [], alts := [], laidByText := true, laidKinds := [.data, .data, .data, .sentinel, .sentinel], laidTests := true, laidLooks := .later }
def UpgradeStoredCardSaid : Prop := Claim7.holds Tryz.pinned (.plain (OpenSpec.ofChange upgradeStoredSpec)) upgradeStoredCard

/-- THE TIED CARD OF 'farandolelaw54.BrokerOpen'. -/
def brokerOpenCard : Claim7 := { stood := { row := brokerOpenRow, standIns := [], harness := (true, "b1adc7ad8ba675a42d8b6400a3b069c383f74ee3fa68f53c853f9c5cc32378d3"), looks := true }, kinds := [], alts := [], laidByText := true, laidKinds := [.data, .data, .data, .sentinel, .sentinel], laidTests := true, laidLooks := .later }
def BrokerOpenCardSaid : Prop := Claim7.holds Tryz.pinned (.plain (OpenSpec.ofChange brokerOpenSpec)) brokerOpenCard

/-- THE TIED CARD OF 'farandolelaw54.BrokerScript'. -/
def brokerScriptCard : Claim7 := { stood := { row := brokerScriptRow, standIns := [], harness := (true, "b1adc7ad8ba675a42d8b6400a3b069c383f74ee3fa68f53c853f9c5cc32378d3"), looks := true }, kinds := [], alts := [], laidByText := true, laidKinds := [.data, .data, .data, .sentinel, .sentinel], laidTests := true, laidLooks := .later }
def BrokerScriptCardSaid : Prop := Claim7.holds Tryz.pinned (.plain (OpenSpec.ofChange brokerScriptSpec)) brokerScriptCard

/-- THE TIED CARD OF 'farandolelaw54.BrokerDurable'. -/
def brokerDurableCard : Claim7 := { stood := { row := brokerDurableRow, standIns := [], harness := (true, "b1adc7ad8ba675a42d8b6400a3b069c383f74ee3fa68f53c853f9c5cc32378d3"), looks := true }, kinds := [], alts := [], laidByText := true, laidKinds := [.data, .data, .data, .sentinel, .sentinel], laidTests := true, laidLooks := .later }
def BrokerDurableCardSaid : Prop := Claim7.holds Tryz.pinned (.plain (OpenSpec.ofChange brokerDurableSpec)) brokerDurableCard

/-- THE SECOND FORM's CARD OF 'farandolelaw54.BrokerDelivers'. -/
def brokerDeliversUptoCard : Claim7 := { stood := { row := brokerDeliversUptoRow, standIns := [], harness := (true, "b1adc7ad8ba675a42d8b6400a3b069c383f74ee3fa68f53c853f9c5cc32378d3"), looks := true }, kinds := [], alts := [], laidByText := true, laidKinds := [.data, .data, .data], laidTests := true, laidLooks := .later }
def BrokerDeliversUptoCardSaid : Prop := Claim7.holds Tryz.pinned (.plain (OpenSpec.upto brokerDeliversSpec)) brokerDeliversUptoCard

/-- THE SECOND FORM's CARD OF 'farandolelaw53.UpgradeChanges'. -/
def upgradeChangesUptoCard : Claim7 := { stood := { row := upgradeChangesUptoRow, standIns := [], harness := (true, "b1adc7ad8ba675a42d8b6400a3b069c383f74ee3fa68f53c853f9c5cc32378d3"), looks := true }, kinds := [], alts := [], laidByText := true, laidKinds := [.data, .data, .data, .sentinel, .sentinel], laidTests := true, laidLooks := .later }
def UpgradeChangesUptoCardSaid : Prop := Claim7.holds Tryz.pinned (.plain (OpenSpec.upto upgradeChangesSpec)) upgradeChangesUptoCard

/-- THE SECOND FORM's CARD OF 'farandolelaw54.BrokerRepeats'. -/
def brokerRepeatsUptoCard : Claim7 := { stood := { row := brokerRepeatsUptoRow, standIns := [], harness := (true, "b1adc7ad8ba675a42d8b6400a3b069c383f74ee3fa68f53c853f9c5cc32378d3"), looks := true }, kinds := [], alts := [], laidByText := true, laidKinds := [.data, .data, .data], laidTests := true, laidLooks := .later }
def BrokerRepeatsUptoCardSaid : Prop := Claim7.holds Tryz.pinned (.plain (OpenSpec.upto brokerRepeatsSpec)) brokerRepeatsUptoCard

/-- THE SECOND FORM's CARD OF 'farandolelaw54.BrokerNil'. -/
def brokerNilUptoCard : Claim7 := { stood := { row := brokerNilUptoRow, standIns := [], harness := (true, "b1adc7ad8ba675a42d8b6400a3b069c383f74ee3fa68f53c853f9c5cc32378d3"), looks := true }, kinds := [], alts := [], laidByText := true, laidKinds := [.data, .data, .data], laidTests := true, laidLooks := .later }
def BrokerNilUptoCardSaid : Prop := Claim7.holds Tryz.pinned (.plain (OpenSpec.upto brokerNilSpec)) brokerNilUptoCard

/-- THE SECOND FORM's CARD OF 'farandolelaw53.UpgradeStored'. -/
def upgradeStoredUptoCard : Claim7 := { stood := { row := upgradeStoredUptoRow, standIns := [], harness := (true, "b1adc7ad8ba675a42d8b6400a3b069c383f74ee3fa68f53c853f9c5cc32378d3"), looks := true }, kinds := [], alts := [], laidByText := true, laidKinds := [.data, .data, .data, .sentinel, .sentinel], laidTests := true, laidLooks := .later }
def UpgradeStoredUptoCardSaid : Prop := Claim7.holds Tryz.pinned (.plain (OpenSpec.upto upgradeStoredSpec)) upgradeStoredUptoCard

/-- THE SECOND FORM's CARD OF 'farandolelaw54.BrokerOpen'. -/
def brokerOpenUptoCard : Claim7 := { stood := { row := brokerOpenUptoRow, standIns := [], harness := (true, "b1adc7ad8ba675a42d8b6400a3b069c383f74ee3fa68f53c853f9c5cc32378d3"), looks := true }, kinds := [], alts := [], laidByText := true, laidKinds := [.data, .data, .data, .sentinel, .sentinel], laidTests := true, laidLooks := .later }
def BrokerOpenUptoCardSaid : Prop := Claim7.holds Tryz.pinned (.plain (OpenSpec.upto brokerOpenSpec)) brokerOpenUptoCard

/-- THE SECOND FORM's CARD OF 'farandolelaw54.BrokerScript'. -/
def brokerScriptUptoCard : Claim7 := { stood := { row := brokerScriptUptoRow, standIns := [], harness := (true, "b1adc7ad8ba675a42d8b6400a3b069c383f74ee3fa68f53c853f9c5cc32378d3"), looks := true }, kinds := [], alts := [], laidByText := true, laidKinds := [.data, .data, .data, .sentinel, .sentinel], laidTests := true, laidLooks := .later }
def BrokerScriptUptoCardSaid : Prop := Claim7.holds Tryz.pinned (.plain (OpenSpec.upto brokerScriptSpec)) brokerScriptUptoCard

/-- THE SECOND FORM's CARD OF 'farandolelaw54.BrokerDurable'. -/
def brokerDurableUptoCard : Claim7 := { stood := { row := brokerDurableUptoRow, standIns := [], harness := (true, "b1adc7ad8ba675a42d8b6400a3b069c383f74ee3fa68f53c853f9c5cc32378d3"), looks := true }, kinds := [], alts := [], laidByText := true, laidKinds := [.data, .data, .data, .sentinel, .sentinel], laidTests := true, laidLooks := .later }
def BrokerDurableUptoCardSaid : Prop := Claim7.holds Tryz.pinned (.plain (OpenSpec.upto brokerDurableSpec)) brokerDurableUptoCard
end Rows
end Go.Proofs.YtkcdbcbpbolgkaaGreatDoor
