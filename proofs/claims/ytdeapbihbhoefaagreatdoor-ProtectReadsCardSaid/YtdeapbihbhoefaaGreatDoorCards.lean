/-
  DERIVED. GIVEN WITH THE SEED: THE CARDS: each row of YtdeapbihbhoefaaGreatDoorRows.lean that lists a variable, with what it lists TIED to the program's text (the seventh form; the later family's looks); each row that meets fmt, with fmt's text TOLD by the authors' own Lean function (tested against real Go, not proved from fmt's source: count such statements apart). THE CARD IS WHAT COUNTS. Prove the row's statement (the work); the ties are given (YtdeapbihbhoefaaGreatDoorTie.lean); close each card by the builder's one call (the guide's Derived/Test/ToyasCard.lean, 'card_holds'). Laid BY PROGRAM, IN A SANDBOX (cutbox-door.mjs). By AI agents, Wed Nov 11 2026. No macro, syntax, notation, axiom, sorry.
-/
import Derived.Test.YtdeapbihbhoefaaGreatDoorRows
import GoSem.ClaimSeven
namespace Go.Proofs.YtdeapbihbhoefaaGreatDoor
namespace Rows

/-- THE TIED CARD OF 'wooferlaw08.ProtectTexts'. -/
def protectTextsCard : Claim7 := { stood := { row := protectTextsRow, standIns := [], harness := (true, "d0f27042fe09e5deea602442b2d97885a8b6254a15cd80c894c0cd119697e177"), looks := false }, kinds := [], alts := [], laidByText := true, laidKinds := [.data, .data, .data, .data, .funcs, .pinned], laidTests := true, laidLooks := .later }
def ProtectTextsCardSaid : Prop := Claim7.holds Tryz.pinned (.plain (OpenSpec.ofChange protectTextsSpec)) protectTextsCard

/-- THE TIED CARD OF 'wooferlaw08.ProtectReads'. -/
def protectReadsCard : Claim7 := { stood := { row := protectReadsRow, standIns := [], harness := (true, "d0f27042fe09e5deea602442b2d97885a8b6254a15cd80c894c0cd119697e177"), looks := false }, kinds := [], alts := [], laidByText := true, laidKinds := [.data, .data, .data, .data, .funcs, .pinned], laidTests := true, laidLooks := .later }
def ProtectReadsCardSaid : Prop := Claim7.holds Tryz.pinned (.plain (OpenSpec.ofChange protectReadsSpec)) protectReadsCard

/-- THE SECOND FORM's CARD OF 'wooferlaw08.ProtectTexts'. -/
def protectTextsUptoCard : Claim7 := { stood := { row := protectTextsUptoRow, standIns := [], harness := (true, "d0f27042fe09e5deea602442b2d97885a8b6254a15cd80c894c0cd119697e177"), looks := false }, kinds := [], alts := [], laidByText := true, laidKinds := [.data, .data, .data, .data, .funcs, .pinned], laidTests := true, laidLooks := .later }
def ProtectTextsUptoCardSaid : Prop := Claim7.holds Tryz.pinned (.plain (OpenSpec.upto protectTextsSpec)) protectTextsUptoCard

/-- THE SECOND FORM's CARD OF 'wooferlaw08.ProtectReads'. -/
def protectReadsUptoCard : Claim7 := { stood := { row := protectReadsUptoRow, standIns := [], harness := (true, "d0f27042fe09e5deea602442b2d97885a8b6254a15cd80c894c0cd119697e177"), looks := false }, kinds := [], alts := [], laidByText := true, laidKinds := [.data, .data, .data, .data, .funcs, .pinned], laidTests := true, laidLooks := .later }
def ProtectReadsUptoCardSaid : Prop := Claim7.holds Tryz.pinned (.plain (OpenSpec.upto protectReadsSpec)) protectReadsUptoCard
end Rows
end Go.Proofs.YtdeapbihbhoefaaGreatDoor
