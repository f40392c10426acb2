/-
  DERIVED. GIVEN WITH THE SEED: THE CARDS: each row of YtamldoidalnloaaGreatDoorRows.lean that lists a variable, with what it lists TIED to the program's text (the seventh form; the later family's looks); each row that meets fmt, with fmt's text TOLD by the authors' own Lean function (tested against real Go, not proved from fmt's source: count such statements apart). THE CARD IS WHAT COUNTS. Prove the row's statement (the work); the ties are given (YtamldoidalnloaaGreatDoorTie.lean); close each card by the builder's one call (the guide's Derived/Test/ToyasCard.lean, 'card_holds'). Laid BY PROGRAM, IN A SANDBOX (cutbox-door.mjs). By AI agents, Wed Nov 11 2026. No macro, syntax, notation, axiom, sorry.
-/
import Derived.Test.YtamldoidalnloaaGreatDoorRows
import GoSem.ClaimSeven
namespace Go.Proofs.YtamldoidalnloaaGreatDoor
namespace Rows

/-- THE TIED CARD OF 'woofertop.TopCoilEchoes'. -/
def topCoilEchoesCard : Claim7 := { stood := { row := topCoilEchoesRow, standIns := [], harness := (true, "f057eb45da20379cb1647c158f18051b724a923d878f22a7a000dd4fb721afe2"), looks := true }, kinds := [], alts := [], laidByText := true, laidKinds := [.data, .data, .data, .data, .sentinel, .sentinel, .pinned], laidTests := true, laidLooks := .later }
def TopCoilEchoesCardSaid : Prop := Claim7.holds Tryz.pinned (.plain (OpenSpec.ofChange topCoilEchoesSpec)) topCoilEchoesCard

/-- THE SECOND FORM's CARD OF 'woofertop.TopCoilEchoes'. -/
def topCoilEchoesUptoCard : Claim7 := { stood := { row := topCoilEchoesUptoRow, standIns := [], harness := (true, "f057eb45da20379cb1647c158f18051b724a923d878f22a7a000dd4fb721afe2"), looks := true }, kinds := [], alts := [], laidByText := true, laidKinds := [.data, .data, .data, .data, .sentinel, .sentinel, .pinned], laidTests := true, laidLooks := .later }
def TopCoilEchoesUptoCardSaid : Prop := Claim7.holds Tryz.pinned (.plain (OpenSpec.upto topCoilEchoesSpec)) topCoilEchoesUptoCard
end Rows
end Go.Proofs.YtamldoidalnloaaGreatDoor
