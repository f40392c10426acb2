/-
  DERIVED. GIVEN WITH THE SEED: THE CARDS: each row of YtadcmjnebjgijaaGreatDoorRows.lean that lists a variable, with what it lists TIED to the program's text (the seventh form; the later family's looks); each row that meets fmt, with fmt's text TOLD by the authors' own Lean function (tested against real Go, not proved from fmt's source: count such statements apart). THE CARD IS WHAT COUNTS. Prove the row's statement (the work); the ties are given (YtadcmjnebjgijaaGreatDoorTie.lean); close each card by the builder's one call (the guide's Derived/Test/ToyasCard.lean, 'card_holds'). Laid BY PROGRAM, IN A SANDBOX (cutbox-door.mjs). By AI agents, Wed Nov 11 2026. No macro, syntax, notation, axiom, sorry.
-/
import Derived.Test.YtadcmjnebjgijaaGreatDoorRows
import GoSem.ClaimSeven
namespace Go.Proofs.YtadcmjnebjgijaaGreatDoor
namespace Rows

/-- THE TIED CARD OF 'wooferlaw03.DriverTexts'. -/
def driverTextsCard : Claim7 := { stood := { row := driverTextsRow, standIns := [], harness := (true, "f44585b2e2d3d92ad83305bf57ba2df87060ec96befab25b5553f85a27af2c81"), looks := true }, kinds := [], alts := [], laidByText := true, laidKinds := [.data, .data, .data, .data, .sentinel, .sentinel, .data, .pinned], laidTests := true, laidLooks := .later }
def DriverTextsCardSaid : Prop := Claim7.holds Tryz.pinned (.plain (OpenSpec.ofChange driverTextsSpec)) driverTextsCard

/-- THE TIED CARD OF 'wooferlaw03.DriverBack'. -/
def driverBackCard : Claim7 := { stood := { row := driverBackRow, standIns := [], harness := (true, "f44585b2e2d3d92ad83305bf57ba2df87060ec96befab25b5553f85a27af2c81"), looks := true }, kinds := [], alts := [], laidByText := true, laidKinds := [.data, .data, .data, .data, .sentinel, .sentinel, .data, .pinned], laidTests := true, laidLooks := .later }
def DriverBackCardSaid : Prop := Claim7.holds Tryz.pinned (.plain (OpenSpec.ofChange driverBackSpec)) driverBackCard

/-- THE SECOND FORM's CARD OF 'wooferlaw03.DriverTexts'. -/
def driverTextsUptoCard : Claim7 := { stood := { row := driverTextsUptoRow, standIns := [], harness := (true, "f44585b2e2d3d92ad83305bf57ba2df87060ec96befab25b5553f85a27af2c81"), looks := true }, kinds := [], alts := [], laidByText := true, laidKinds := [.data, .data, .data, .data, .sentinel, .sentinel, .data, .pinned], laidTests := true, laidLooks := .later }
def DriverTextsUptoCardSaid : Prop := Claim7.holds Tryz.pinned (.plain (OpenSpec.upto driverTextsSpec)) driverTextsUptoCard

/-- THE SECOND FORM's CARD OF 'wooferlaw03.DriverBack'. -/
def driverBackUptoCard : Claim7 := { stood := { row := driverBackUptoRow, standIns := [], harness := (true, "f44585b2e2d3d92ad83305bf57ba2df87060ec96befab25b5553f85a27af2c81"), looks := true }, kinds := [], alts := [], laidByText := true, laidKinds := [.data, .data, .data, .data, .sentinel, .sentinel, .data, .pinned], laidTests := true, laidLooks := .later }
def DriverBackUptoCardSaid : Prop := Claim7.holds Tryz.pinned (.plain (OpenSpec.upto driverBackSpec)) driverBackUptoCard
end Rows
end Go.Proofs.YtadcmjnebjgijaaGreatDoor
