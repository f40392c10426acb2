/-
  DERIVED. GIVEN WITH THE SEED: THE CARDS: each row of YtdeapbihbhoefaaDoorRows.lean that lists a variable, with what it lists TIED to the program's text (the seventh form; the later family's looks); each row that meets fmt, with fmt's text TOLD by the authors' own Lean function (tested against real Go, not proved from fmt's source: count such statements apart). THE CARD IS WHAT COUNTS. Prove the row's statement (the work); the ties are given (YtdeapbihbhoefaaDoorTie.lean); close each card by the builder's one call (the guide's Derived/Test/ToyasCard.lean, 'card_holds'). Laid BY PROGRAM, IN A SANDBOX (cutbox-door.mjs). By AI agents, Wed Nov 11 2026. No macro, syntax, notation, axiom, sorry.
-/
import Derived.Test.YtdeapbihbhoefaaDoorRows
import GoSem.ClaimSeven
namespace Go.Proofs.YtdeapbihbhoefaaDoor
namespace Rows

/-- THE TIED CARD OF 'wooferlaw08.ProtectGuards'. -/
def protectGuardsCard : Claim7 := { stood := { row := protectGuardsRow, standIns := [], harness := (true, "262680d1844c655dca28b4fd03fb476499e45b1b91f9c171f2bb6cc7b1390da8"), looks := false }, kinds := [], alts := [], laidByText := true, laidKinds := [.data, .data, .data, .funcs], laidTests := true, laidLooks := .later }
def ProtectGuardsCardSaid : Prop := Claim7.holds Tryd.pinned (.plain (OpenSpec.ofChange protectGuardsSpec)) protectGuardsCard

/-- THE TIED CARD OF 'wooferlaw08.ProtectStates'. -/
def protectStatesCard : Claim7 := { stood := { row := protectStatesRow, standIns := [], harness := (true, "262680d1844c655dca28b4fd03fb476499e45b1b91f9c171f2bb6cc7b1390da8"), looks := false }, kinds := [], alts := [], laidByText := true, laidKinds := [.data, .data, .data, .funcs], laidTests := true, laidLooks := .later }
def ProtectStatesCardSaid : Prop := Claim7.holds Tryd.pinned (.plain (OpenSpec.ofChange protectStatesSpec)) protectStatesCard

/-- THE TIED CARD OF 'wooferlaw08.ProtectRuns'. -/
def protectRunsCard : Claim7 := { stood := { row := protectRunsRow, standIns := [], harness := (true, "262680d1844c655dca28b4fd03fb476499e45b1b91f9c171f2bb6cc7b1390da8"), looks := false }, kinds := [], alts := [], laidByText := true, laidKinds := [.data, .data, .data, .funcs], laidTests := true, laidLooks := .later }
def ProtectRunsCardSaid : Prop := Claim7.holds Tryd.pinned (.plain (OpenSpec.ofChange protectRunsSpec)) protectRunsCard

/-- THE TIED CARD OF 'wooferlaw08.ProtectLimits'. -/
def protectLimitsCard : Claim7 := { stood := { row := protectLimitsRow, standIns := [], harness := (true, "262680d1844c655dca28b4fd03fb476499e45b1b91f9c171f2bb6cc7b1390da8"), looks := false }, kinds := [], alts := [], laidByText := true, laidKinds := [.data, .data, .data, .funcs], laidTests := true, laidLooks := .later }
def ProtectLimitsCardSaid : Prop := Claim7.holds Tryd.pinned (.plain (OpenSpec.ofChange protectLimitsSpec)) protectLimitsCard

/-- THE TIED CARD OF 'wooferlaw08.ProtectSearches'. -/
def protectSearchesCard : Claim7 := { stood := { row := protectSearchesRow, standIns := [], harness := (true, "262680d1844c655dca28b4fd03fb476499e45b1b91f9c171f2bb6cc7b1390da8"), looks := false }, kinds := [], alts := [], laidByText := true, laidKinds := [.data, .data, .data, .funcs], laidTests := true, laidLooks := .later }
def ProtectSearchesCardSaid : Prop := Claim7.holds Tryd.pinned (.plain (OpenSpec.ofChange protectSearchesSpec)) protectSearchesCard

/-- THE TIED CARD OF 'wooferlaw08.ProtectKeeps'. -/
def protectKeepsCard : Claim7 := { stood := { row := protectKeepsRow, standIns := [], harness := (true, "262680d1844c655dca28b4fd03fb476499e45b1b91f9c171f2bb6cc7b1390da8"), looks := false }, kinds := [], alts := [], laidByText := true, laidKinds := [.data, .data, .data, .funcs], laidTests := true, laidLooks := .later }
def ProtectKeepsCardSaid : Prop := Claim7.holds Tryd.pinned (.plain (OpenSpec.ofChange protectKeepsSpec)) protectKeepsCard

/-- THE TIED CARD OF 'wooferlaw08.ProtectQuiet'. -/
def protectQuietCard : Claim7 := { stood := { row := protectQuietRow, standIns := [], harness := (true, "262680d1844c655dca28b4fd03fb476499e45b1b91f9c171f2bb6cc7b1390da8"), looks := false }, kinds := [], alts := [], laidByText := true, laidKinds := [.data, .data, .data, .funcs], laidTests := true, laidLooks := .later }
def ProtectQuietCardSaid : Prop := Claim7.holds Tryd.pinned (.plain (OpenSpec.ofChange protectQuietSpec)) protectQuietCard

/-- THE TIED CARD OF 'wooferlaw08.ProtectLoudest'. -/
def protectLoudestCard : Claim7 := { stood := { row := protectLoudestRow, standIns := [], harness := (true, "262680d1844c655dca28b4fd03fb476499e45b1b91f9c171f2bb6cc7b1390da8"), looks := false }, kinds := [], alts := [], laidByText := true, laidKinds := [.data, .data, .data, .funcs], laidTests := true, laidLooks := .later }
def ProtectLoudestCardSaid : Prop := Claim7.holds Tryd.pinned (.plain (OpenSpec.ofChange protectLoudestSpec)) protectLoudestCard

/-- THE TIED CARD OF 'wooferlaw08.ProtectProofs'. -/
def protectProofsCard : Claim7 := { stood := { row := protectProofsRow, standIns := [], harness := (true, "262680d1844c655dca28b4fd03fb476499e45b1b91f9c171f2bb6cc7b1390da8"), looks := false }, kinds := [], alts := [], laidByText := true, laidKinds := [.data, .data, .data, .funcs], laidTests := true, laidLooks := .later }
def ProtectProofsCardSaid : Prop := Claim7.holds Tryd.pinned (.plain (OpenSpec.ofChange protectProofsSpec)) protectProofsCard

/-- THE TIED CARD OF 'wooferlaw08.ProtectOpposite'. -/
def protectOppositeCard : Claim7 := { stood := { row := protectOppositeRow, standIns := [], harness := (true, "262680d1844c655dca28b4fd03fb476499e45b1b91f9c171f2bb6cc7b1390da8"), looks := false }, kinds := [], alts := [], laidByText := true, laidKinds := [.data, .data, .data, .funcs], laidTests := true, laidLooks := .later }
def ProtectOppositeCardSaid : Prop := Claim7.holds Tryd.pinned (.plain (OpenSpec.ofChange protectOppositeSpec)) protectOppositeCard

/-- THE SECOND FORM's CARD OF 'wooferlaw08.ProtectGuards'. -/
def protectGuardsUptoCard : Claim7 := { stood := { row := protectGuardsUptoRow, standIns := [], harness := (true, "262680d1844c655dca28b4fd03fb476499e45b1b91f9c171f2bb6cc7b1390da8"), looks := false }, kinds := [], alts := [], laidByText := true, laidKinds := [.data, .data, .data, .funcs], laidTests := true, laidLooks := .later }
def ProtectGuardsUptoCardSaid : Prop := Claim7.holds Tryd.pinned (.plain (OpenSpec.upto protectGuardsSpec)) protectGuardsUptoCard

/-- THE SECOND FORM's CARD OF 'wooferlaw08.ProtectStates'. -/
def protectStatesUptoCard : Claim7 := { stood := { row := protectStatesUptoRow, standIns := [], harness := (true, "262680d1844c655dca28b4fd03fb476499e45b1b91f9c171f2bb6cc7b1390da8"), looks := false }, kinds := [], alts := [], laidByText := true, laidKinds := [.data, .data, .data, .funcs], laidTests := true, laidLooks := .later }
def ProtectStatesUptoCardSaid : Prop := Claim7.holds Tryd.pinned (.plain (OpenSpec.upto protectStatesSpec)) protectStatesUptoCard

/-- THE SECOND FORM's CARD OF 'wooferlaw08.ProtectRuns'. -/
def protectRunsUptoCard : Claim7 := { stood := { row := protectRunsUptoRow, standIns := [], harness := (true, "262680d1844c655dca28b4fd03fb476499e45b1b91f9c171f2bb6cc7b1390da8"), looks := false }, kinds := [], alts := [], laidByText := true, laidKinds := [.data, .data, .data, .funcs], laidTests := true, laidLooks := .later }
def ProtectRunsUptoCardSaid : Prop := Claim7.holds Tryd.pinned (.plain (OpenSpec.upto protectRunsSpec)) protectRunsUptoCard

/-- THE SECOND FORM's CARD OF 'wooferlaw08.ProtectLimits'. -/
def protectLimitsUptoCard : Claim7 := { stood := { row := protectLimitsUptoRow, standIns := [], harness := (true, "262680d1844c655dca28b4fd03fb476499e45b1b91f9c171f2bb6cc7b1390da8"), looks := false }, kinds := [], alts := [], laidByText := true, laidKinds := [.data, .data, .data, .funcs], laidTests := true, laidLooks := .later }
def ProtectLimitsUptoCardSaid : Prop := Claim7.holds Tryd.pinned (.plain (OpenSpec.upto protectLimitsSpec)) protectLimitsUptoCard

/-- THE SECOND FORM's CARD OF 'wooferlaw08.ProtectSearches'. -/
def protectSearchesUptoCard : Claim7 := { stood := { row := protectSearchesUptoRow, standIns := [], harness := (true, "262680d1844c655dca28b4fd03fb476499e45b1b91f9c171f2bb6cc7b1390da8"), looks := false }, kinds := [], alts := [], laidByText := true, laidKinds := [.data, .data, .data, .funcs], laidTests := true, laidLooks := .later }
def ProtectSearchesUptoCardSaid : Prop := Claim7.holds Tryd.pinned (.plain (OpenSpec.upto protectSearchesSpec)) protectSearchesUptoCard

/-- THE SECOND FORM's CARD OF 'wooferlaw08.ProtectKeeps'. -/
def protectKeepsUptoCard : Claim7 := { stood := { row := protectKeepsUptoRow, standIns := [], harness := (true, "262680d1844c655dca28b4fd03fb476499e45b1b91f9c171f2bb6cc7b1390da8"), looks := false }, kinds := [], alts := [], laidByText := true, laidKinds := [.data, .data, .data, .funcs], laidTests := true, laidLooks := .later }
def ProtectKeepsUptoCardSaid : Prop := Claim7.holds Tryd.pinned (.plain (OpenSpec.upto protectKeepsSpec)) protectKeepsUptoCard

/-- THE SECOND FORM's CARD OF 'wooferlaw08.ProtectQuiet'. -/
def protectQuietUptoCard : Claim7 := { stood := { row := protectQuietUptoRow, standIns := [], harness := (true, "262680d1844c655dca28b4fd03fb476499e45b1b91f9c171f2bb6cc7b1390da8"), looks := false }, kinds := [], alts := [], laidByText := true, laidKinds := [.data, .data, .data, .funcs], laidTests := true, laidLooks := .later }
def ProtectQuietUptoCardSaid : Prop := Claim7.holds Tryd.pinned (.plain (OpenSpec.upto protectQuietSpec)) protectQuietUptoCard

/-- THE SECOND FORM's CARD OF 'wooferlaw08.ProtectLoudest'. -/
def protectLoudestUptoCard : Claim7 := { stood := { row := protectLoudestUptoRow, standIns := [], harness := (true, "262680d1844c655dca28b4fd03fb476499e45b1b91f9c171f2bb6cc7b1390da8"), looks := false }, kinds := [], alts := [], laidByText := true, laidKinds := [.data, .data, .data, .funcs], laidTests := true, laidLooks := .later }
def ProtectLoudestUptoCardSaid : Prop := Claim7.holds Tryd.pinned (.plain (OpenSpec.upto protectLoudestSpec)) protectLoudestUptoCard

/-- THE SECOND FORM's CARD OF 'wooferlaw08.ProtectProofs'. -/
def protectProofsUptoCard : Claim7 := { stood := { row := protectProofsUptoRow, standIns := [], harness := (true, "262680d1844c655dca28b4fd03fb476499e45b1b91f9c171f2bb6cc7b1390da8"), looks := false }, kinds := [], alts := [], laidByText := true, laidKinds := [.data, .data, .data, .funcs], laidTests := true, laidLooks := .later }
def ProtectProofsUptoCardSaid : Prop := Claim7.holds Tryd.pinned (.plain (OpenSpec.upto protectProofsSpec)) protectProofsUptoCard

/-- THE SECOND FORM's CARD OF 'wooferlaw08.ProtectOpposite'. -/
def protectOppositeUptoCard : Claim7 := { stood := { row := protectOppositeUptoRow, standIns := [], harness := (true, "262680d1844c655dca28b4fd03fb476499e45b1b91f9c171f2bb6cc7b1390da8"), looks := false }, kinds := [], alts := [], laidByText := true, laidKinds := [.data, .data, .data, .funcs], laidTests := true, laidLooks := .later }
def ProtectOppositeUptoCardSaid : Prop := Claim7.holds Tryd.pinned (.plain (OpenSpec.upto protectOppositeSpec)) protectOppositeUptoCard
end Rows
end Go.Proofs.YtdeapbihbhoefaaDoor
