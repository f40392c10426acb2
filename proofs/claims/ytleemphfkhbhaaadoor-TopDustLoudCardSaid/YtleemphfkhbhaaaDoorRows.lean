/-
  NARROWER THAN 'FOR EVERY INPUT', by the rows' own cells (each row's printed sentence says how): TopDustPlayed: laid · TopDustLoud: laid.
  DERIVED. THE GIVEN ROWS OF THIS SEAT. 2 by the template 'for every input the law returns true; each argument reads behind the call as it read before'; 0 by the template 'total and deterministic' (their statements: YtleemphfkhbhaaaDoorTotals.lean).
  GIVEN WITH THE SEED: the statements are not yours to turn. If you find one false, say at which input.
  Laid BY PROGRAM, IN A SANDBOX (cutbox-rows.mjs): the forced cells as the released guide's own fill.sh prints them over the translation 5eca7cac30671984… (all of the seat's roots in one cut). By AI agents, Wed Nov 11 2026. No macro, syntax, notation, axiom, sorry.
-/
import Derived.Test.YtleemphfkhbhaaaDoorChecked
import GoSem.Claim
import GoSem.ClaimJoined
import GoSem.ClaimMapViews
import Derived.JoinedTies
import Derived.KernelRfl
namespace Go.Proofs.YtleemphfkhbhaaaDoor
/- THE CELL 'sum', in the pinned program and in every row, IS THE sha256 OF THE DUMP (.gsa) THAT YtleemphfkhbhaaaDoorProg.lean LOADS. Nothing in Lean hashes anything: it is a label: what it is worth is what the hold of that sum in a sandbox is worth. -/
noncomputable def Tryd.pinned : Pinned := { name := "ytleemphfkhbhaaadoor", sum := "5eca7cac306719843508d7d4cfbf50f2af9bd15bdd613fe19c2d455cbf70a372", checked := Tryd.checked }
namespace Rows
def none {H : Type} : Left H := { results := [], args := [] }

/- WHAT THE LISTED PACKAGE-LEVEL VARIABLES READ AS WHEN THE CALL BEGINS. Each datum BY PROGRAM (the guide's laid-datum.mjs) off the statement by which the dump's own 'gosem.cut.vars' lays the variable. In a bare row this is a premise. The card (YtleemphfkhbhaaaDoorCards.lean) ties it to the program's text. -/
def laid_woofer_protect_conditions {H : Type} : DataW H := .iface "func table" (.agg [.agg [.iface "func" (.lit (.string [119, 111, 111, 102, 101, 114, 47, 112, 114, 111, 116, 101, 99, 116, 46, 99, 111, 110, 100, 105, 116, 105, 111, 110, 115, 36, 49]))], .agg [.iface "func" (.lit (.string [119, 111, 111, 102, 101, 114, 47, 112, 114, 111, 116, 101, 99, 116, 46, 99, 111, 110, 100, 105, 116, 105, 111, 110, 115, 36, 50]))], .agg [.iface "func" (.lit (.string [119, 111, 111, 102, 101, 114, 47, 112, 114, 111, 116, 101, 99, 116, 46, 99, 111, 110, 100, 105, 116, 105, 111, 110, 115, 36, 51]))]])

/-- 'woofertop.TopDustPlayed': WHATEVER THE INPUT: true; the input reads as it did. -/
def topDustPlayedSpec : ChangeSpec := { name := "topDustPlayed", fn := fun _ => fun
  | [d1, d2, d3] => { results := [.lit (.bool true)], args := [d1, d2, d3] }
  | _ => none }
def topDustPlayedRow : OpenClaim := { program := "ytleemphfkhbhaaadoor", sum := "5eca7cac306719843508d7d4cfbf50f2af9bd15bdd613fe19c2d455cbf70a372", func := "woofer/woofertop.TopDustPlayed", spec := "topDustPlayed", unfollowed := true, recurses := true, named := ["woofer/protect.conditions"], apart := false, laid := [("woofer/protect.conditions", laid_woofer_protect_conditions)] }
def TopDustPlayedSaid : Prop := topDustPlayedRow.holds Tryd.pinned (OpenSpec.ofChange topDustPlayedSpec)

/-- ITS FALSE NEIGHBOUR: 'it returns false'. Refute it at one input. -/
def topDustPlayedWrong : ChangeSpec := { name := "topDustPlayed", fn := fun _ => fun
  | [d1, d2, d3] => { results := [.lit (.bool false)], args := [d1, d2, d3] }
  | _ => none }
def TopDustPlayedWrongFalsely : Prop := topDustPlayedRow.holds Tryd.pinned (OpenSpec.ofChange topDustPlayedWrong)

/-- 'woofertop.TopDustLoud': WHATEVER THE INPUT: true; the input reads as it did. -/
def topDustLoudSpec : ChangeSpec := { name := "topDustLoud", fn := fun _ => fun
  | [d1, d2, d3] => { results := [.lit (.bool true)], args := [d1, d2, d3] }
  | _ => none }
def topDustLoudRow : OpenClaim := { program := "ytleemphfkhbhaaadoor", sum := "5eca7cac306719843508d7d4cfbf50f2af9bd15bdd613fe19c2d455cbf70a372", func := "woofer/woofertop.TopDustLoud", spec := "topDustLoud", unfollowed := true, recurses := true, named := ["woofer/protect.conditions"], apart := false, laid := [("woofer/protect.conditions", laid_woofer_protect_conditions)] }
def TopDustLoudSaid : Prop := topDustLoudRow.holds Tryd.pinned (OpenSpec.ofChange topDustLoudSpec)

/-- ITS FALSE NEIGHBOUR: 'it returns false'. Refute it at one input. -/
def topDustLoudWrong : ChangeSpec := { name := "topDustLoud", fn := fun _ => fun
  | [d1, d2, d3] => { results := [.lit (.bool false)], args := [d1, d2, d3] }
  | _ => none }
def TopDustLoudWrongFalsely : Prop := topDustLoudRow.holds Tryd.pinned (OpenSpec.ofChange topDustLoudWrong)

/- THE SECOND FORM. 'bulk': how many values and letters a reading holds, each counted each time it is reached (what is shared counts as often as it is met; a slice's spare places count too). A statement '..UptoSaid' is the law's where the arguments, and the package variables that the reading takes, are together of bulk at most 1048576: NARROWER than '..Said'. Prove '..Said' where nothing that the law and all that it calls make is longer than what came in: it says more and counts as full. Else prove '..UptoSaid'. A law counts once. -/
mutual
def uptoBulk {H : Type} : DataW H → Nat
  | .lit (.string bytes) => bytes.length + 1
  | .lit _ => 1
  | .nil => 1
  | .ptr d => uptoBulk d + 1
  | .slice elems spare => uptoBulkAll elems + uptoBulkAll spare + 1
  | .agg parts => uptoBulkAll parts + 1
  | .iface _ d => uptoBulk d + 1
  | .map entries => uptoBulkEntries entries + 1
  | .held _ => 1
def uptoBulkAll {H : Type} : List (DataW H) → Nat
  | [] => 0
  | d :: r => uptoBulk d + uptoBulkAll r
def uptoBulkEntries {H : Type} : List (Lit × DataW H) → Nat
  | [] => 0
  | x :: r => uptoBulkEntry x + uptoBulkEntries r
def uptoBulkEntry {H : Type} : Lit × DataW H → Nat
  | (.string bytes, d) => bytes.length + uptoBulk d + 1
  | (_, d) => uptoBulk d + 1
 end
def uptoSmall : (H : Type) → List (DataW H) → Bool := fun _ ds => decide (uptoBulkAll ds ≤ 1048576)
def OpenSpec.upto (s : _root_.Go.ChangeSpec) : _root_.Go.OpenSpec := { _root_.Go.OpenSpec.ofChange s with cond := some uptoSmall }

/-- 'woofertop.TopDustPlayed', WHERE WHAT IT READS IS OF BULK AT MOST 1048576: true; the input reads as it did. -/
def topDustPlayedUptoRow : OpenClaim := { program := "ytleemphfkhbhaaadoor", sum := "5eca7cac306719843508d7d4cfbf50f2af9bd15bdd613fe19c2d455cbf70a372", func := "woofer/woofertop.TopDustPlayed", spec := "topDustPlayed", unfollowed := true, recurses := true, named := ["woofer/protect.conditions"], apart := false, laid := [("woofer/protect.conditions", laid_woofer_protect_conditions)], narrowed := true }
def TopDustPlayedUptoSaid : Prop := topDustPlayedUptoRow.holds Tryd.pinned (OpenSpec.upto topDustPlayedSpec)

/-- 'woofertop.TopDustLoud', WHERE WHAT IT READS IS OF BULK AT MOST 1048576: true; the input reads as it did. -/
def topDustLoudUptoRow : OpenClaim := { program := "ytleemphfkhbhaaadoor", sum := "5eca7cac306719843508d7d4cfbf50f2af9bd15bdd613fe19c2d455cbf70a372", func := "woofer/woofertop.TopDustLoud", spec := "topDustLoud", unfollowed := true, recurses := true, named := ["woofer/protect.conditions"], apart := false, laid := [("woofer/protect.conditions", laid_woofer_protect_conditions)], narrowed := true }
def TopDustLoudUptoSaid : Prop := topDustLoudUptoRow.holds Tryd.pinned (OpenSpec.upto topDustLoudSpec)

end Rows
end Go.Proofs.YtleemphfkhbhaaaDoor
