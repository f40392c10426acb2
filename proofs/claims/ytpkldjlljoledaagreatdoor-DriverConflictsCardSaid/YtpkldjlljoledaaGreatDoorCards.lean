/-
  DERIVED. GIVEN WITH THE SEED: THE CARDS: each row of YtpkldjlljoledaaGreatDoorRows.lean that lists a variable, with what it lists TIED to the program's text (the seventh form; the later family's looks); each row that meets fmt, with fmt's text TOLD by the authors' own Lean function (tested against real Go, not proved from fmt's source: count such statements apart). THE CARD IS WHAT COUNTS. Prove the row's statement (the work); the ties are given (YtpkldjlljoledaaGreatDoorTie.lean); close each card by the builder's one call (the guide's Derived/Test/ToyasCard.lean, 'card_holds'). Laid BY PROGRAM, IN A SANDBOX (cutbox-door.mjs). By AI agents, Wed Nov 11 2026. No macro, syntax, notation, axiom, sorry.
-/
import Derived.Test.YtpkldjlljoledaaGreatDoorRows
import GoSem.ClaimSeven
namespace Go.Proofs.YtpkldjlljoledaaGreatDoor
namespace Rows

/-- THE TIED CARD OF 'wooferlaw03.DriverRegions'. -/
def driverRegionsCard : Claim7 := { stood := { row := driverRegionsRow, standIns := [], harness := (true, "1732b33386fc5b906a849cc158fc7a3fd930fdf180fb4279c255e943c205d5ca"), looks := true }, kinds := [], alts := [], laidByText := true, laidKinds := [.data, .data, .data, .data], laidTests := true, laidLooks := .later }
def DriverRegionsCardSaid : Prop := Claim7.holds Tryz.pinned (.plain (OpenSpec.ofChange driverRegionsSpec)) driverRegionsCard

/-- THE TIED CARD OF 'wooferlaw03.DriverConflicts'. -/
def driverConflictsCard : Claim7 := { stood := { row := driverConflictsRow, standIns := [], harness := (true, "1732b33386fc5b906a849cc158fc7a3fd930fdf180fb4279c255e943c205d5ca"), looks := true }, kinds := [], alts := [], laidByText := true, laidKinds := [.data, .data, .data, .data], laidTests := true, laidLooks := .later }
def DriverConflictsCardSaid : Prop := Claim7.holds Tryz.pinned (.plain (OpenSpec.ofChange driverConflictsSpec)) driverConflictsCard

/-- THE TIED CARD OF 'wooferlaw03.DriverReadings'. -/
def driverReadingsCard : Claim7 := { stood := { row := driverReadingsRow, standIns := [], harness := (true, "1732b33386fc5b906a849cc158fc7a3fd930fdf180fb4279c255e943c205d5ca"), looks := true }, kinds := [], alts := [], laidByText := true, laidKinds := [.data, .data, .data, .data], laidTests := true, laidLooks := .later }
def DriverReadingsCardSaid : Prop := Claim7.holds Tryz.pinned (.plain (OpenSpec.ofChange driverReadingsSpec)) driverReadingsCard

/-- THE TIED CARD OF 'wooferlaw03.DriverTexts'. -/
def driverTextsCard : Claim7 := { stood := { row := driverTextsRow, standIns := [], harness := (true, "1732b33386fc5b906a849cc158fc7a3fd930fdf180fb4279c255e943c205d5ca"), looks := true }, kinds := [], alts := [], laidByText := true, laidKinds := [.data, .data, .data, .data, .sentinel, .sentinel, .data, .pinned], laidTests := true, laidLooks := .later }
def DriverTextsCardSaid : Prop := Claim7.holds Tryz.pinned (.plain (OpenSpec.ofChange driverTextsSpec)) driverTextsCard

/-- THE TIED CARD OF 'wooferlaw03.DriverBack'. -/
def driverBackCard : Claim7 := { stood := { row := driverBackRow, standIns := [], harness := (true, "1732b33386fc5b906a849cc158fc7a3fd930fdf180fb4279c255e943c205d5ca"), looks := true }, kinds := [], alts := [], laidByText := true, laidKinds := [.data, .data, .data, .data, .sentinel, .sentinel, .data, .pinned], laidTests := true, laidLooks := .later }
def DriverBackCardSaid : Prop := Claim7.holds Tryz.pinned (.plain (OpenSpec.ofChange driverBackSpec)) driverBackCard

/-- THE SECOND FORM's CARD OF 'wooferlaw03.DriverRegions'. -/
def driverRegionsUptoCard : Claim7 := { stood := { row := driverRegionsUptoRow, standIns := [], harness := (true, "1732b33386fc5b906a849cc158fc7a3fd930fdf180fb4279c255e943c205d5ca"), looks := true }, kinds := [], alts := [], laidByText := true, laidKinds := [.data, .data, .data, .data], laidTests := true, laidLooks := .later }
def DriverRegionsUptoCardSaid : Prop := Claim7.holds Tryz.pinned (.plain (OpenSpec.upto driverRegionsSpec)) driverRegionsUptoCard

/-- THE SECOND FORM's CARD OF 'wooferlaw03.DriverConflicts'. -/
def driverConflictsUptoCard : Claim7 := { stood := { row := driverConflictsUptoRow, standIns := [], harness := (true, "1732b33386fc5b906a849cc158fc7a3fd930fdf180fb4279c255e943c205d5ca"), looks := true }, kinds := [], alts := [], laidByText := true, laidKinds := [.data, .data, .data, .data], laidTests := true, laidLooks := .later }
def DriverConflictsUptoCardSaid : Prop := Claim7.holds Tryz.pinned (.plain (OpenSpec.upto driverConflictsSpec)) driverConflictsUptoCard

/-- THE SECOND FORM's CARD OF 'wooferlaw03.DriverReadings'. -/
def driverReadingsUptoCard : Claim7 := { stood := { row := driverReadingsUptoRow, standIns := [], harness := (true, "1732b33386fc5b906a849cc158fc7a3fd930fdf180fb4279c255e943c205d5ca"), looks := true }, kinds := [], alts := [], laidByText := true, laidKinds := [.data, .data, .data, .data], laidTests := true, laidLooks := .later }
def DriverReadingsUptoCardSaid : Prop := Claim7.holds Tryz.pinned (.plain (OpenSpec.upto driverReadingsSpec)) driverReadingsUptoCard

/-- THE SECOND FORM's CARD OF 'wooferlaw03.DriverTexts'. -/
def driverTextsUptoCard : Claim7 := { stood := { row := driverTextsUptoRow, standIns := [], harness := (true, "1732b33386fc5b906a849cc158fc7a3fd930fdf180fb4279c255e943c205d5ca"), looks := true }, kinds := [], alts := [], laidByText := true, laidKinds := [.data, .data, .data, .data, .sentinel, .sentinel, .data, .pinned], laidTests := true, laidLooks := .later }
def DriverTextsUptoCardSaid : Prop := Claim7.holds Tryz.pinned (.plain (OpenSpec.upto driverTextsSpec)) driverTextsUptoCard

/-- THE SECOND FORM's CARD OF 'wooferlaw03.DriverBack'. -/
def driverBackUptoCard : Claim7 := { stood := { row := driverBackUptoRow, standIns := [], harness := (true, "1732b33386fc5b906a849cc158fc7a3fd930fdf180fb4279c255e943c205d5ca"), looks := true }, kinds := [], alts := [], laidByText := true, laidKinds := [.data, .data, .data, .data, .sentinel, .sentinel, .data, .pinned], laidTests := true, laidLooks := .later }
def DriverBackUptoCardSaid : Prop := Claim7.holds Tryz.pinned (.plain (OpenSpec.upto driverBackSpec)) driverBackUptoCard
end Rows
end Go.Proofs.YtpkldjlljoledaaGreatDoor
