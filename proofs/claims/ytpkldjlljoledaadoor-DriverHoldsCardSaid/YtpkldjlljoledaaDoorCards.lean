/-
  DERIVED. GIVEN WITH THE SEED: THE CARDS: each row of YtpkldjlljoledaaDoorRows.lean that lists a variable, with what it lists TIED to the program's text (the seventh form; the later family's looks); each row that meets fmt, with fmt's text TOLD by the authors' own Lean function (tested against real Go, not proved from fmt's source: count such statements apart). THE CARD IS WHAT COUNTS. Prove the row's statement (the work); the ties are given (YtpkldjlljoledaaDoorTie.lean); close each card by the builder's one call (the guide's Derived/Test/ToyasCard.lean, 'card_holds'). Laid BY PROGRAM, IN A SANDBOX (cutbox-door.mjs). By AI agents, Wed Nov 11 2026. No macro, syntax, notation, axiom, sorry.
-/
import Derived.Test.YtpkldjlljoledaaDoorRows
import GoSem.ClaimSeven
namespace Go.Proofs.YtpkldjlljoledaaDoor
namespace Rows

/-- THE TIED CARD OF 'wooferlaw03.DriverNumbers'. -/
def driverNumbersCard : Claim7 := { stood := { row := driverNumbersRow, standIns := [], harness := (true, "0d427818f740ea1e8607399c2910d03c1fbf3fd84a6fdff9c092b12219daeebf"), looks := false }, kinds := [], alts := [], laidByText := true, laidKinds := [.data, .data, .data, .data], laidTests := true, laidLooks := .later }
def DriverNumbersCardSaid : Prop := Claim7.holds Tryd.pinned (.plain (OpenSpec.ofChange driverNumbersSpec)) driverNumbersCard

/-- THE TIED CARD OF 'wooferlaw03.DriverBoxes'. -/
def driverBoxesCard : Claim7 := { stood := { row := driverBoxesRow, standIns := [], harness := (true, "0d427818f740ea1e8607399c2910d03c1fbf3fd84a6fdff9c092b12219daeebf"), looks := false }, kinds := [], alts := [], laidByText := true, laidKinds := [.data, .data, .data, .data], laidTests := true, laidLooks := .later }
def DriverBoxesCardSaid : Prop := Claim7.holds Tryd.pinned (.plain (OpenSpec.ofChange driverBoxesSpec)) driverBoxesCard

/-- THE TIED CARD OF 'wooferlaw03.DriverFigures'. -/
def driverFiguresCard : Claim7 := { stood := { row := driverFiguresRow, standIns := [], harness := (true, "0d427818f740ea1e8607399c2910d03c1fbf3fd84a6fdff9c092b12219daeebf"), looks := false }, kinds := [], alts := [], laidByText := true, laidKinds := [.data, .data, .data, .data], laidTests := true, laidLooks := .later }
def DriverFiguresCardSaid : Prop := Claim7.holds Tryd.pinned (.plain (OpenSpec.ofChange driverFiguresSpec)) driverFiguresCard

/-- THE TIED CARD OF 'wooferlaw03.DriverCurves'. -/
def driverCurvesCard : Claim7 := { stood := { row := driverCurvesRow, standIns := [], harness := (true, "0d427818f740ea1e8607399c2910d03c1fbf3fd84a6fdff9c092b12219daeebf"), looks := false }, kinds := [], alts := [], laidByText := true, laidKinds := [.data, .data, .data, .data], laidTests := true, laidLooks := .later }
def DriverCurvesCardSaid : Prop := Claim7.holds Tryd.pinned (.plain (OpenSpec.ofChange driverCurvesSpec)) driverCurvesCard

/-- THE TIED CARD OF 'wooferlaw03.DriverLaws'. -/
def driverLawsCard : Claim7 := { stood := { row := driverLawsRow, standIns := [], harness := (true, "0d427818f740ea1e8607399c2910d03c1fbf3fd84a6fdff9c092b12219daeebf"), looks := false }, kinds := [], alts := [], laidByText := true, laidKinds := [.data, .data, .data, .data], laidTests := true, laidLooks := .later }
def DriverLawsCardSaid : Prop := Claim7.holds Tryd.pinned (.plain (OpenSpec.ofChange driverLawsSpec)) driverLawsCard

/-- THE TIED CARD OF 'wooferlaw03.DriverWeighs'. -/
def driverWeighsCard : Claim7 := { stood := { row := driverWeighsRow, standIns := [], harness := (true, "0d427818f740ea1e8607399c2910d03c1fbf3fd84a6fdff9c092b12219daeebf"), looks := false }, kinds := [], alts := [], laidByText := true, laidKinds := [.data, .data, .data, .data], laidTests := true, laidLooks := .later }
def DriverWeighsCardSaid : Prop := Claim7.holds Tryd.pinned (.plain (OpenSpec.ofChange driverWeighsSpec)) driverWeighsCard

/-- THE TIED CARD OF 'wooferlaw03.DriverEven'. -/
def driverEvenCard : Claim7 := { stood := { row := driverEvenRow, standIns := [], harness := (true, "0d427818f740ea1e8607399c2910d03c1fbf3fd84a6fdff9c092b12219daeebf"), looks := false }, kinds := [], alts := [], laidByText := true, laidKinds := [.data, .data, .data, .data], laidTests := true, laidLooks := .later }
def DriverEvenCardSaid : Prop := Claim7.holds Tryd.pinned (.plain (OpenSpec.ofChange driverEvenSpec)) driverEvenCard

/-- THE TIED CARD OF 'wooferlaw03.DriverHolds'. -/
def driverHoldsCard : Claim7 := { stood := { row := driverHoldsRow, standIns := [], harness := (true, "0d427818f740ea1e8607399c2910d03c1fbf3fd84a6fdff9c092b12219daeebf"), looks := false }, kinds := [], alts := [], laidByText := true, laidKinds := [.data, .data, .data, .data], laidTests := true, laidLooks := .later }
def DriverHoldsCardSaid : Prop := Claim7.holds Tryd.pinned (.plain (OpenSpec.ofChange driverHoldsSpec)) driverHoldsCard

/-- THE SECOND FORM's CARD OF 'wooferlaw03.DriverNumbers'. -/
def driverNumbersUptoCard : Claim7 := { stood := { row := driverNumbersUptoRow, standIns := [], harness := (true, "0d427818f740ea1e8607399c2910d03c1fbf3fd84a6fdff9c092b12219daeebf"), looks := false }, kinds := [], alts := [], laidByText := true, laidKinds := [.data, .data, .data, .data], laidTests := true, laidLooks := .later }
def DriverNumbersUptoCardSaid : Prop := Claim7.holds Tryd.pinned (.plain (OpenSpec.upto driverNumbersSpec)) driverNumbersUptoCard

/-- THE SECOND FORM's CARD OF 'wooferlaw03.DriverBoxes'. -/
def driverBoxesUptoCard : Claim7 := { stood := { row := driverBoxesUptoRow, standIns := [], harness := (true, "0d427818f740ea1e8607399c2910d03c1fbf3fd84a6fdff9c092b12219daeebf"), looks := false }, kinds := [], alts := [], laidByText := true, laidKinds := [.data, .data, .data, .data], laidTests := true, laidLooks := .later }
def DriverBoxesUptoCardSaid : Prop := Claim7.holds Tryd.pinned (.plain (OpenSpec.upto driverBoxesSpec)) driverBoxesUptoCard

/-- THE SECOND FORM's CARD OF 'wooferlaw03.DriverFigures'. -/
def driverFiguresUptoCard : Claim7 := { stood := { row := driverFiguresUptoRow, standIns := [], harness := (true, "0d427818f740ea1e8607399c2910d03c1fbf3fd84a6fdff9c092b12219daeebf"), looks := false }, kinds := [], alts := [], laidByText := true, laidKinds := [.data, .data, .data, .data], laidTests := true, laidLooks := .later }
def DriverFiguresUptoCardSaid : Prop := Claim7.holds Tryd.pinned (.plain (OpenSpec.upto driverFiguresSpec)) driverFiguresUptoCard

/-- THE SECOND FORM's CARD OF 'wooferlaw03.DriverCurves'. -/
def driverCurvesUptoCard : Claim7 := { stood := { row := driverCurvesUptoRow, standIns := [], harness := (true, "0d427818f740ea1e8607399c2910d03c1fbf3fd84a6fdff9c092b12219daeebf"), looks := false }, kinds := [], alts := [], laidByText := true, laidKinds := [.data, .data, .data, .data], laidTests := true, laidLooks := .later }
def DriverCurvesUptoCardSaid : Prop := Claim7.holds Tryd.pinned (.plain (OpenSpec.upto driverCurvesSpec)) driverCurvesUptoCard

/-- THE SECOND FORM's CARD OF 'wooferlaw03.DriverLaws'. -/
def driverLawsUptoCard : Claim7 := { stood := { row := driverLawsUptoRow, standIns := [], harness := (true, "0d427818f740ea1e8607399c2910d03c1fbf3fd84a6fdff9c092b12219daeebf"), looks := false }, kinds := [], alts := [], laidByText := true, laidKinds := [.data, .data, .data, .data], laidTests := true, laidLooks := .later }
def DriverLawsUptoCardSaid : Prop := Claim7.holds Tryd.pinned (.plain (OpenSpec.upto driverLawsSpec)) driverLawsUptoCard

/-- THE SECOND FORM's CARD OF 'wooferlaw03.DriverWeighs'. -/
def driverWeighsUptoCard : Claim7 := { stood := { row := driverWeighsUptoRow, standIns := [], harness := (true, "0d427818f740ea1e8607399c2910d03c1fbf3fd84a6fdff9c092b12219daeebf"), looks := false }, kinds := [], alts := [], laidByText := true, laidKinds := [.data, .data, .data, .data], laidTests := true, laidLooks := .later }
def DriverWeighsUptoCardSaid : Prop := Claim7.holds Tryd.pinned (.plain (OpenSpec.upto driverWeighsSpec)) driverWeighsUptoCard

/-- THE SECOND FORM's CARD OF 'wooferlaw03.DriverEven'. -/
def driverEvenUptoCard : Claim7 := { stood := { row := driverEvenUptoRow, standIns := [], harness := (true, "0d427818f740ea1e8607399c2910d03c1fbf3fd84a6fdff9c092b12219daeebf"), looks := false }, kinds := [], alts := [], laidByText := true, laidKinds := [.data, .data, .data, .data], laidTests := true, laidLooks := .later }
def DriverEvenUptoCardSaid : Prop := Claim7.holds Tryd.pinned (.plain (OpenSpec.upto driverEvenSpec)) driverEvenUptoCard

/-- THE SECOND FORM's CARD OF 'wooferlaw03.DriverHolds'. -/
def driverHoldsUptoCard : Claim7 := { stood := { row := driverHoldsUptoRow, standIns := [], harness := (true, "0d427818f740ea1e8607399c2910d03c1fbf3fd84a6fdff9c092b12219daeebf"), looks := false }, kinds := [], alts := [], laidByText := true, laidKinds := [.data, .data, .data, .data], laidTests := true, laidLooks := .later }
def DriverHoldsUptoCardSaid : Prop := Claim7.holds Tryd.pinned (.plain (OpenSpec.upto driverHoldsSpec)) driverHoldsUptoCard
end Rows
end Go.Proofs.YtpkldjlljoledaaDoor
