/-
  DERIVED. GIVEN WITH THE SEED: THE CARDS: each row of YtleemphfkhbhaaaDoorRows.lean that lists a variable, with what it lists TIED to the program's text (the seventh form; the later family's looks); each row that meets fmt, with fmt's text TOLD by the authors' own Lean function (tested against real Go, not proved from fmt's source: count such statements apart). THE CARD IS WHAT COUNTS. Prove the row's statement (the work); the ties are given (YtleemphfkhbhaaaDoorTie.lean); close each card by the builder's one call (the guide's Derived/Test/ToyasCard.lean, 'card_holds'). Laid BY PROGRAM, IN A SANDBOX (cutbox-door.mjs). By AI agents, Wed Nov 11 2026. No macro, syntax, notation, axiom, sorry.
-/
import Derived.Test.YtleemphfkhbhaaaDoorRows
import GoSem.ClaimSeven
namespace Go.Proofs.YtleemphfkhbhaaaDoor
namespace Rows

/-- THE TIED CARD OF 'woofertop.TopDustPlayed'. -/
def topDustPlayedCard : Claim7 := { stood := { row := topDustPlayedRow, standIns := [], harness := (true, "916e9973a1518f467d8f49a59090e6951a0d7dd488991b9c64f33c97bfdb7e93"), looks := false }, kinds := [], alts := [], laidByText := true, laidKinds := [.funcs], laidTests := true, laidLooks := .later }
def TopDustPlayedCardSaid : Prop := Claim7.holds Tryd.pinned (.plain (OpenSpec.ofChange topDustPlayedSpec)) topDustPlayedCard

/-- THE TIED CARD OF 'woofertop.TopDustLoud'. -/
def topDustLoudCard : Claim7 := { stood := { row := topDustLoudRow, standIns := [], harness := (true, "916e9973a1518f467d8f49a59090e6951a0d7dd488991b9c64f33c97bfdb7e93"), looks := false }, kinds := [], alts := [], laidByText := true, laidKinds := [.funcs], laidTests := true, laidLooks := .later }
def TopDustLoudCardSaid : Prop := Claim7.holds Tryd.pinned (.plain (OpenSpec.ofChange topDustLoudSpec)) topDustLoudCard

/-- THE SECOND FORM's CARD OF 'woofertop.TopDustPlayed'. -/
def topDustPlayedUptoCard : Claim7 := { stood := { row := topDustPlayedUptoRow, standIns := [], harness := (true, "916e9973a1518f467d8f49a59090e6951a0d7dd488991b9c64f33c97bfdb7e93"), looks := false }, kinds := [], alts := [], laidByText := true, laidKinds := [.funcs], laidTests := true, laidLooks := .later }
def TopDustPlayedUptoCardSaid : Prop := Claim7.holds Tryd.pinned (.plain (OpenSpec.upto topDustPlayedSpec)) topDustPlayedUptoCard

/-- THE SECOND FORM's CARD OF 'woofertop.TopDustLoud'. -/
def topDustLoudUptoCard : Claim7 := { stood := { row := topDustLoudUptoRow, standIns := [], harness := (true, "916e9973a1518f467d8f49a59090e6951a0d7dd488991b9c64f33c97bfdb7e93"), looks := false }, kinds := [], alts := [], laidByText := true, laidKinds := [.funcs], laidTests := true, laidLooks := .later }
def TopDustLoudUptoCardSaid : Prop := Claim7.holds Tryd.pinned (.plain (OpenSpec.upto topDustLoudSpec)) topDustLoudUptoCard
end Rows
end Go.Proofs.YtleemphfkhbhaaaDoor
