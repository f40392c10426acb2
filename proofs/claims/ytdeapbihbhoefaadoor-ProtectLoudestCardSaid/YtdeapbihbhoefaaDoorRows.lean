/-
  NARROWER THAN 'FOR EVERY INPUT', by the rows' own cells (each row's printed sentence says how): ProtectGuards: laid · ProtectStates: laid · ProtectRuns: laid · ProtectLimits: laid · ProtectSearches: laid · ProtectKeeps: laid · ProtectQuiet: laid · ProtectLoudest: laid · ProtectProofs: laid · ProtectOpposite: laid.
  DERIVED. THE GIVEN ROWS OF THIS SEAT. 10 by the template 'for every input the law returns true; each argument reads behind the call as it read before'; 0 by the template 'total and deterministic' (their statements: YtdeapbihbhoefaaDoorTotals.lean).
  GIVEN WITH THE SEED: the statements are not yours to turn. If you find one false, say at which input.
  Laid BY PROGRAM, IN A SANDBOX (cutbox-rows.mjs): the forced cells as the released guide's own fill.sh prints them over the translation e2d31a0f6264c1b5… (all of the seat's roots in one cut). By AI agents, Wed Nov 11 2026. No macro, syntax, notation, axiom, sorry.
-/
import Derived.Test.YtdeapbihbhoefaaDoorChecked
import GoSem.Claim
import GoSem.ClaimJoined
import GoSem.ClaimMapViews
import Derived.JoinedTies
import Derived.KernelRfl
namespace Go.Proofs.YtdeapbihbhoefaaDoor
/- THE CELL 'sum', in the pinned program and in every row, IS THE sha256 OF THE DUMP (.gsa) THAT YtdeapbihbhoefaaDoorProg.lean LOADS. Nothing in Lean hashes anything: it is a label: what it is worth is what the hold of that sum in a sandbox is worth. -/
noncomputable def Tryd.pinned : Pinned := { name := "ytdeapbihbhoefaadoor", sum := "e2d31a0f6264c1b5f2af017ce38721ff0454621085d6dc24656b7e3ca0febd30", checked := Tryd.checked }
namespace Rows
def none {H : Type} : Left H := { results := [], args := [] }

/- WHAT THE LISTED PACKAGE-LEVEL VARIABLES READ AS WHEN THE CALL BEGINS. Each datum BY PROGRAM (the guide's laid-datum.mjs) off the statement by which the dump's own 'gosem.cut.vars' lays the variable. In a bare row this is a premise. The card (YtdeapbihbhoefaaDoorCards.lean) ties it to the program's text. -/
def laid_math_bits_deBruijn32tab {H : Type} : DataW H := .agg [.lit (.int .u8 0), .lit (.int .u8 1), .lit (.int .u8 28), .lit (.int .u8 2), .lit (.int .u8 29), .lit (.int .u8 14), .lit (.int .u8 24), .lit (.int .u8 3), .lit (.int .u8 30), .lit (.int .u8 22), .lit (.int .u8 20), .lit (.int .u8 15), .lit (.int .u8 25), .lit (.int .u8 17), .lit (.int .u8 4), .lit (.int .u8 8), .lit (.int .u8 31), .lit (.int .u8 27), .lit (.int .u8 13), .lit (.int .u8 23), .lit (.int .u8 21), .lit (.int .u8 19), .lit (.int .u8 16), .lit (.int .u8 7), .lit (.int .u8 26), .lit (.int .u8 12), .lit (.int .u8 18), .lit (.int .u8 6), .lit (.int .u8 11), .lit (.int .u8 5), .lit (.int .u8 10), .lit (.int .u8 9)]
def laid_math_bits_deBruijn64tab {H : Type} : DataW H := .agg [.lit (.int .u8 0), .lit (.int .u8 1), .lit (.int .u8 56), .lit (.int .u8 2), .lit (.int .u8 57), .lit (.int .u8 49), .lit (.int .u8 28), .lit (.int .u8 3), .lit (.int .u8 61), .lit (.int .u8 58), .lit (.int .u8 42), .lit (.int .u8 50), .lit (.int .u8 38), .lit (.int .u8 29), .lit (.int .u8 17), .lit (.int .u8 4), .lit (.int .u8 62), .lit (.int .u8 47), .lit (.int .u8 59), .lit (.int .u8 36), .lit (.int .u8 45), .lit (.int .u8 43), .lit (.int .u8 51), .lit (.int .u8 22), .lit (.int .u8 53), .lit (.int .u8 39), .lit (.int .u8 33), .lit (.int .u8 30), .lit (.int .u8 24), .lit (.int .u8 18), .lit (.int .u8 12), .lit (.int .u8 5), .lit (.int .u8 63), .lit (.int .u8 55), .lit (.int .u8 48), .lit (.int .u8 27), .lit (.int .u8 60), .lit (.int .u8 41), .lit (.int .u8 37), .lit (.int .u8 16), .lit (.int .u8 46), .lit (.int .u8 35), .lit (.int .u8 44), .lit (.int .u8 21), .lit (.int .u8 52), .lit (.int .u8 32), .lit (.int .u8 23), .lit (.int .u8 11), .lit (.int .u8 54), .lit (.int .u8 26), .lit (.int .u8 40), .lit (.int .u8 15), .lit (.int .u8 34), .lit (.int .u8 20), .lit (.int .u8 31), .lit (.int .u8 10), .lit (.int .u8 25), .lit (.int .u8 14), .lit (.int .u8 19), .lit (.int .u8 9), .lit (.int .u8 13), .lit (.int .u8 8), .lit (.int .u8 7), .lit (.int .u8 6)]
def laid_internal_strconv_uint64pow10 {H : Type} : DataW H := .agg [.lit (.int .u64 1), .lit (.int .u64 10), .lit (.int .u64 100), .lit (.int .u64 1000), .lit (.int .u64 10000), .lit (.int .u64 100000), .lit (.int .u64 1000000), .lit (.int .u64 10000000), .lit (.int .u64 100000000), .lit (.int .u64 1000000000), .lit (.int .u64 10000000000), .lit (.int .u64 100000000000), .lit (.int .u64 1000000000000), .lit (.int .u64 10000000000000), .lit (.int .u64 100000000000000), .lit (.int .u64 1000000000000000), .lit (.int .u64 10000000000000000), .lit (.int .u64 100000000000000000), .lit (.int .u64 1000000000000000000), .lit (.int .u64 10000000000000000000)]
def laid_woofer_protect_conditions {H : Type} : DataW H := .iface "func table" (.agg [.agg [.iface "func" (.lit (.string [119, 111, 111, 102, 101, 114, 47, 112, 114, 111, 116, 101, 99, 116, 46, 99, 111, 110, 100, 105, 116, 105, 111, 110, 115, 36, 49]))], .agg [.iface "func" (.lit (.string [119, 111, 111, 102, 101, 114, 47, 112, 114, 111, 116, 101, 99, 116, 46, 99, 111, 110, 100, 105, 116, 105, 111, 110, 115, 36, 50]))], .agg [.iface "func" (.lit (.string [119, 111, 111, 102, 101, 114, 47, 112, 114, 111, 116, 101, 99, 116, 46, 99, 111, 110, 100, 105, 116, 105, 111, 110, 115, 36, 51]))]])

/-- 'wooferlaw08.ProtectGuards': WHATEVER THE INPUT: true; the input reads as it did. -/
def protectGuardsSpec : ChangeSpec := { name := "protectGuards", fn := fun _ => fun
  | [d1, d2] => { results := [.lit (.bool true)], args := [d1, d2] }
  | _ => none }
def protectGuardsRow : OpenClaim := { program := "ytdeapbihbhoefaadoor", sum := "e2d31a0f6264c1b5f2af017ce38721ff0454621085d6dc24656b7e3ca0febd30", func := "woofer/wooferlaw08.ProtectGuards", spec := "protectGuards", inPlace := ["internal/abi.NoEscape", "internal/bytealg.MakeNoZero"], unfollowed := true, recurses := true, named := ["woofer/protect.conditions", "internal/strconv.uint64pow10", "math/bits.deBruijn32tab", "math/bits.deBruijn64tab"], apart := false, laid := [("math/bits.deBruijn32tab", laid_math_bits_deBruijn32tab), ("math/bits.deBruijn64tab", laid_math_bits_deBruijn64tab), ("internal/strconv.uint64pow10", laid_internal_strconv_uint64pow10), ("woofer/protect.conditions", laid_woofer_protect_conditions)] }
def ProtectGuardsSaid : Prop := protectGuardsRow.holds Tryd.pinned (OpenSpec.ofChange protectGuardsSpec)

/-- ITS FALSE NEIGHBOUR: 'it returns false'. Refute it at one input. -/
def protectGuardsWrong : ChangeSpec := { name := "protectGuards", fn := fun _ => fun
  | [d1, d2] => { results := [.lit (.bool false)], args := [d1, d2] }
  | _ => none }
def ProtectGuardsWrongFalsely : Prop := protectGuardsRow.holds Tryd.pinned (OpenSpec.ofChange protectGuardsWrong)

/-- 'wooferlaw08.ProtectStates': WHATEVER THE INPUT: true; the input reads as it did. -/
def protectStatesSpec : ChangeSpec := { name := "protectStates", fn := fun _ => fun
  | [d1, d2, d3] => { results := [.lit (.bool true)], args := [d1, d2, d3] }
  | _ => none }
def protectStatesRow : OpenClaim := { program := "ytdeapbihbhoefaadoor", sum := "e2d31a0f6264c1b5f2af017ce38721ff0454621085d6dc24656b7e3ca0febd30", func := "woofer/wooferlaw08.ProtectStates", spec := "protectStates", inPlace := ["internal/abi.NoEscape", "internal/bytealg.MakeNoZero"], unfollowed := true, recurses := true, named := ["woofer/protect.conditions", "internal/strconv.uint64pow10", "math/bits.deBruijn32tab", "math/bits.deBruijn64tab"], apart := false, laid := [("math/bits.deBruijn32tab", laid_math_bits_deBruijn32tab), ("math/bits.deBruijn64tab", laid_math_bits_deBruijn64tab), ("internal/strconv.uint64pow10", laid_internal_strconv_uint64pow10), ("woofer/protect.conditions", laid_woofer_protect_conditions)] }
def ProtectStatesSaid : Prop := protectStatesRow.holds Tryd.pinned (OpenSpec.ofChange protectStatesSpec)

/-- ITS FALSE NEIGHBOUR: 'it returns false'. Refute it at one input. -/
def protectStatesWrong : ChangeSpec := { name := "protectStates", fn := fun _ => fun
  | [d1, d2, d3] => { results := [.lit (.bool false)], args := [d1, d2, d3] }
  | _ => none }
def ProtectStatesWrongFalsely : Prop := protectStatesRow.holds Tryd.pinned (OpenSpec.ofChange protectStatesWrong)

/-- 'wooferlaw08.ProtectRuns': WHATEVER THE INPUT: true; the input reads as it did. -/
def protectRunsSpec : ChangeSpec := { name := "protectRuns", fn := fun _ => fun
  | [d1, d2] => { results := [.lit (.bool true)], args := [d1, d2] }
  | _ => none }
def protectRunsRow : OpenClaim := { program := "ytdeapbihbhoefaadoor", sum := "e2d31a0f6264c1b5f2af017ce38721ff0454621085d6dc24656b7e3ca0febd30", func := "woofer/wooferlaw08.ProtectRuns", spec := "protectRuns", inPlace := ["internal/abi.NoEscape", "internal/bytealg.MakeNoZero"], unfollowed := true, recurses := true, named := ["woofer/protect.conditions", "internal/strconv.uint64pow10", "math/bits.deBruijn32tab", "math/bits.deBruijn64tab"], apart := false, laid := [("math/bits.deBruijn32tab", laid_math_bits_deBruijn32tab), ("math/bits.deBruijn64tab", laid_math_bits_deBruijn64tab), ("internal/strconv.uint64pow10", laid_internal_strconv_uint64pow10), ("woofer/protect.conditions", laid_woofer_protect_conditions)] }
def ProtectRunsSaid : Prop := protectRunsRow.holds Tryd.pinned (OpenSpec.ofChange protectRunsSpec)

/-- ITS FALSE NEIGHBOUR: 'it returns false'. Refute it at one input. -/
def protectRunsWrong : ChangeSpec := { name := "protectRuns", fn := fun _ => fun
  | [d1, d2] => { results := [.lit (.bool false)], args := [d1, d2] }
  | _ => none }
def ProtectRunsWrongFalsely : Prop := protectRunsRow.holds Tryd.pinned (OpenSpec.ofChange protectRunsWrong)

/-- 'wooferlaw08.ProtectLimits': WHATEVER THE INPUT: true; the input reads as it did. -/
def protectLimitsSpec : ChangeSpec := { name := "protectLimits", fn := fun _ => fun
  | [d1, d2] => { results := [.lit (.bool true)], args := [d1, d2] }
  | _ => none }
def protectLimitsRow : OpenClaim := { program := "ytdeapbihbhoefaadoor", sum := "e2d31a0f6264c1b5f2af017ce38721ff0454621085d6dc24656b7e3ca0febd30", func := "woofer/wooferlaw08.ProtectLimits", spec := "protectLimits", inPlace := ["internal/abi.NoEscape", "internal/bytealg.MakeNoZero"], unfollowed := true, recurses := true, named := ["woofer/protect.conditions", "internal/strconv.uint64pow10", "math/bits.deBruijn32tab", "math/bits.deBruijn64tab"], apart := false, laid := [("math/bits.deBruijn32tab", laid_math_bits_deBruijn32tab), ("math/bits.deBruijn64tab", laid_math_bits_deBruijn64tab), ("internal/strconv.uint64pow10", laid_internal_strconv_uint64pow10), ("woofer/protect.conditions", laid_woofer_protect_conditions)] }
def ProtectLimitsSaid : Prop := protectLimitsRow.holds Tryd.pinned (OpenSpec.ofChange protectLimitsSpec)

/-- ITS FALSE NEIGHBOUR: 'it returns false'. Refute it at one input. -/
def protectLimitsWrong : ChangeSpec := { name := "protectLimits", fn := fun _ => fun
  | [d1, d2] => { results := [.lit (.bool false)], args := [d1, d2] }
  | _ => none }
def ProtectLimitsWrongFalsely : Prop := protectLimitsRow.holds Tryd.pinned (OpenSpec.ofChange protectLimitsWrong)

/-- 'wooferlaw08.ProtectSearches': WHATEVER THE INPUT: true; the input reads as it did. -/
def protectSearchesSpec : ChangeSpec := { name := "protectSearches", fn := fun _ => fun
  | [d1, d2, d3] => { results := [.lit (.bool true)], args := [d1, d2, d3] }
  | _ => none }
def protectSearchesRow : OpenClaim := { program := "ytdeapbihbhoefaadoor", sum := "e2d31a0f6264c1b5f2af017ce38721ff0454621085d6dc24656b7e3ca0febd30", func := "woofer/wooferlaw08.ProtectSearches", spec := "protectSearches", inPlace := ["internal/abi.NoEscape", "internal/bytealg.MakeNoZero"], unfollowed := true, recurses := true, named := ["woofer/protect.conditions", "internal/strconv.uint64pow10", "math/bits.deBruijn32tab", "math/bits.deBruijn64tab"], apart := false, laid := [("math/bits.deBruijn32tab", laid_math_bits_deBruijn32tab), ("math/bits.deBruijn64tab", laid_math_bits_deBruijn64tab), ("internal/strconv.uint64pow10", laid_internal_strconv_uint64pow10), ("woofer/protect.conditions", laid_woofer_protect_conditions)] }
def ProtectSearchesSaid : Prop := protectSearchesRow.holds Tryd.pinned (OpenSpec.ofChange protectSearchesSpec)

/-- ITS FALSE NEIGHBOUR: 'it returns false'. Refute it at one input. -/
def protectSearchesWrong : ChangeSpec := { name := "protectSearches", fn := fun _ => fun
  | [d1, d2, d3] => { results := [.lit (.bool false)], args := [d1, d2, d3] }
  | _ => none }
def ProtectSearchesWrongFalsely : Prop := protectSearchesRow.holds Tryd.pinned (OpenSpec.ofChange protectSearchesWrong)

/-- 'wooferlaw08.ProtectKeeps': WHATEVER THE INPUT: true; the input reads as it did. -/
def protectKeepsSpec : ChangeSpec := { name := "protectKeeps", fn := fun _ => fun
  | [d1, d2] => { results := [.lit (.bool true)], args := [d1, d2] }
  | _ => none }
def protectKeepsRow : OpenClaim := { program := "ytdeapbihbhoefaadoor", sum := "e2d31a0f6264c1b5f2af017ce38721ff0454621085d6dc24656b7e3ca0febd30", func := "woofer/wooferlaw08.ProtectKeeps", spec := "protectKeeps", inPlace := ["internal/abi.NoEscape", "internal/bytealg.MakeNoZero"], unfollowed := true, recurses := true, named := ["woofer/protect.conditions", "internal/strconv.uint64pow10", "math/bits.deBruijn32tab", "math/bits.deBruijn64tab"], apart := false, laid := [("math/bits.deBruijn32tab", laid_math_bits_deBruijn32tab), ("math/bits.deBruijn64tab", laid_math_bits_deBruijn64tab), ("internal/strconv.uint64pow10", laid_internal_strconv_uint64pow10), ("woofer/protect.conditions", laid_woofer_protect_conditions)] }
def ProtectKeepsSaid : Prop := protectKeepsRow.holds Tryd.pinned (OpenSpec.ofChange protectKeepsSpec)

/-- ITS FALSE NEIGHBOUR: 'it returns false'. Refute it at one input. -/
def protectKeepsWrong : ChangeSpec := { name := "protectKeeps", fn := fun _ => fun
  | [d1, d2] => { results := [.lit (.bool false)], args := [d1, d2] }
  | _ => none }
def ProtectKeepsWrongFalsely : Prop := protectKeepsRow.holds Tryd.pinned (OpenSpec.ofChange protectKeepsWrong)

/-- 'wooferlaw08.ProtectQuiet': WHATEVER THE INPUT: true; the input reads as it did. -/
def protectQuietSpec : ChangeSpec := { name := "protectQuiet", fn := fun _ => fun
  | [d1, d2, d3] => { results := [.lit (.bool true)], args := [d1, d2, d3] }
  | _ => none }
def protectQuietRow : OpenClaim := { program := "ytdeapbihbhoefaadoor", sum := "e2d31a0f6264c1b5f2af017ce38721ff0454621085d6dc24656b7e3ca0febd30", func := "woofer/wooferlaw08.ProtectQuiet", spec := "protectQuiet", inPlace := ["internal/abi.NoEscape", "internal/bytealg.MakeNoZero"], unfollowed := true, recurses := true, named := ["woofer/protect.conditions", "internal/strconv.uint64pow10", "math/bits.deBruijn32tab", "math/bits.deBruijn64tab"], apart := false, laid := [("math/bits.deBruijn32tab", laid_math_bits_deBruijn32tab), ("math/bits.deBruijn64tab", laid_math_bits_deBruijn64tab), ("internal/strconv.uint64pow10", laid_internal_strconv_uint64pow10), ("woofer/protect.conditions", laid_woofer_protect_conditions)] }
def ProtectQuietSaid : Prop := protectQuietRow.holds Tryd.pinned (OpenSpec.ofChange protectQuietSpec)

/-- ITS FALSE NEIGHBOUR: 'it returns false'. Refute it at one input. -/
def protectQuietWrong : ChangeSpec := { name := "protectQuiet", fn := fun _ => fun
  | [d1, d2, d3] => { results := [.lit (.bool false)], args := [d1, d2, d3] }
  | _ => none }
def ProtectQuietWrongFalsely : Prop := protectQuietRow.holds Tryd.pinned (OpenSpec.ofChange protectQuietWrong)

/-- 'wooferlaw08.ProtectLoudest': WHATEVER THE INPUT: true; the input reads as it did. -/
def protectLoudestSpec : ChangeSpec := { name := "protectLoudest", fn := fun _ => fun
  | [d1, d2, d3] => { results := [.lit (.bool true)], args := [d1, d2, d3] }
  | _ => none }
def protectLoudestRow : OpenClaim := { program := "ytdeapbihbhoefaadoor", sum := "e2d31a0f6264c1b5f2af017ce38721ff0454621085d6dc24656b7e3ca0febd30", func := "woofer/wooferlaw08.ProtectLoudest", spec := "protectLoudest", inPlace := ["internal/abi.NoEscape", "internal/bytealg.MakeNoZero"], unfollowed := true, recurses := true, named := ["woofer/protect.conditions", "internal/strconv.uint64pow10", "math/bits.deBruijn32tab", "math/bits.deBruijn64tab"], apart := false, laid := [("math/bits.deBruijn32tab", laid_math_bits_deBruijn32tab), ("math/bits.deBruijn64tab", laid_math_bits_deBruijn64tab), ("internal/strconv.uint64pow10", laid_internal_strconv_uint64pow10), ("woofer/protect.conditions", laid_woofer_protect_conditions)] }
def ProtectLoudestSaid : Prop := protectLoudestRow.holds Tryd.pinned (OpenSpec.ofChange protectLoudestSpec)

/-- ITS FALSE NEIGHBOUR: 'it returns false'. Refute it at one input. -/
def protectLoudestWrong : ChangeSpec := { name := "protectLoudest", fn := fun _ => fun
  | [d1, d2, d3] => { results := [.lit (.bool false)], args := [d1, d2, d3] }
  | _ => none }
def ProtectLoudestWrongFalsely : Prop := protectLoudestRow.holds Tryd.pinned (OpenSpec.ofChange protectLoudestWrong)

/-- 'wooferlaw08.ProtectProofs': WHATEVER THE INPUT: true; the input reads as it did. -/
def protectProofsSpec : ChangeSpec := { name := "protectProofs", fn := fun _ => fun
  | [d1, d2, d3] => { results := [.lit (.bool true)], args := [d1, d2, d3] }
  | _ => none }
def protectProofsRow : OpenClaim := { program := "ytdeapbihbhoefaadoor", sum := "e2d31a0f6264c1b5f2af017ce38721ff0454621085d6dc24656b7e3ca0febd30", func := "woofer/wooferlaw08.ProtectProofs", spec := "protectProofs", inPlace := ["internal/abi.NoEscape", "internal/bytealg.MakeNoZero"], unfollowed := true, recurses := true, named := ["woofer/protect.conditions", "internal/strconv.uint64pow10", "math/bits.deBruijn32tab", "math/bits.deBruijn64tab"], apart := false, laid := [("math/bits.deBruijn32tab", laid_math_bits_deBruijn32tab), ("math/bits.deBruijn64tab", laid_math_bits_deBruijn64tab), ("internal/strconv.uint64pow10", laid_internal_strconv_uint64pow10), ("woofer/protect.conditions", laid_woofer_protect_conditions)] }
def ProtectProofsSaid : Prop := protectProofsRow.holds Tryd.pinned (OpenSpec.ofChange protectProofsSpec)

/-- ITS FALSE NEIGHBOUR: 'it returns false'. Refute it at one input. -/
def protectProofsWrong : ChangeSpec := { name := "protectProofs", fn := fun _ => fun
  | [d1, d2, d3] => { results := [.lit (.bool false)], args := [d1, d2, d3] }
  | _ => none }
def ProtectProofsWrongFalsely : Prop := protectProofsRow.holds Tryd.pinned (OpenSpec.ofChange protectProofsWrong)

/-- 'wooferlaw08.ProtectOpposite': WHATEVER THE INPUT: true; the input reads as it did. -/
def protectOppositeSpec : ChangeSpec := { name := "protectOpposite", fn := fun _ => fun
  | [d1, d2, d3] => { results := [.lit (.bool true)], args := [d1, d2, d3] }
  | _ => none }
def protectOppositeRow : OpenClaim := { program := "ytdeapbihbhoefaadoor", sum := "e2d31a0f6264c1b5f2af017ce38721ff0454621085d6dc24656b7e3ca0febd30", func := "woofer/wooferlaw08.ProtectOpposite", spec := "protectOpposite", inPlace := ["internal/abi.NoEscape", "internal/bytealg.MakeNoZero"], unfollowed := true, recurses := true, named := ["woofer/protect.conditions", "internal/strconv.uint64pow10", "math/bits.deBruijn32tab", "math/bits.deBruijn64tab"], apart := false, laid := [("math/bits.deBruijn32tab", laid_math_bits_deBruijn32tab), ("math/bits.deBruijn64tab", laid_math_bits_deBruijn64tab), ("internal/strconv.uint64pow10", laid_internal_strconv_uint64pow10), ("woofer/protect.conditions", laid_woofer_protect_conditions)] }
def ProtectOppositeSaid : Prop := protectOppositeRow.holds Tryd.pinned (OpenSpec.ofChange protectOppositeSpec)

/-- ITS FALSE NEIGHBOUR: 'it returns false'. Refute it at one input. -/
def protectOppositeWrong : ChangeSpec := { name := "protectOpposite", fn := fun _ => fun
  | [d1, d2, d3] => { results := [.lit (.bool false)], args := [d1, d2, d3] }
  | _ => none }
def ProtectOppositeWrongFalsely : Prop := protectOppositeRow.holds Tryd.pinned (OpenSpec.ofChange protectOppositeWrong)

/- THE SECOND FORM. 'bulk': how many values and letters a reading holds, each counted each time it is reached (what is shared counts as often as it is met; a slice's spare places count too). A statement '..UptoSaid' is the law's where the arguments, and the package variables that the reading takes, are together of bulk at most 1048576: NARROWER than '..Said'. Prove '..Said' where nothing that the law and all that it calls make is longer than what came in: it says more and counts as full. Else prove '..UptoSaid'. A law counts once. -/
mutual
def uptoBulk {H : Type} : DataW H → Nat
  | .lit (.string bytes) => bytes.length + 1
  | .lit _ => 1
  | .nil => 1
  | .ptr d => uptoBulk d + 1
  | .slice elems spare => uptoBulkAll elems + uptoBulkAll spare + 1
  | .agg parts => uptoBulkAll parts + 1
  | .iface _ d => uptoBulk d + 1
  | .map entries => uptoBulkEntries entries + 1
  | .held _ => 1
def uptoBulkAll {H : Type} : List (DataW H) → Nat
  | [] => 0
  | d :: r => uptoBulk d + uptoBulkAll r
def uptoBulkEntries {H : Type} : List (Lit × DataW H) → Nat
  | [] => 0
  | x :: r => uptoBulkEntry x + uptoBulkEntries r
def uptoBulkEntry {H : Type} : Lit × DataW H → Nat
  | (.string bytes, d) => bytes.length + uptoBulk d + 1
  | (_, d) => uptoBulk d + 1
 end
def uptoSmall : (H : Type) → List (DataW H) → Bool := fun _ ds => decide (uptoBulkAll ds ≤ 1048576)
def OpenSpec.upto (s : _root_.Go.ChangeSpec) : _root_.Go.OpenSpec := { _root_.Go.OpenSpec.ofChange s with cond := some uptoSmall }

/-- 'wooferlaw08.ProtectGuards', WHERE WHAT IT READS IS OF BULK AT MOST 1048576: true; the input reads as it did. -/
def protectGuardsUptoRow : OpenClaim := { program := "ytdeapbihbhoefaadoor", sum := "e2d31a0f6264c1b5f2af017ce38721ff0454621085d6dc24656b7e3ca0febd30", func := "woofer/wooferlaw08.ProtectGuards", spec := "protectGuards", inPlace := ["internal/abi.NoEscape", "internal/bytealg.MakeNoZero"], unfollowed := true, recurses := true, named := ["woofer/protect.conditions", "internal/strconv.uint64pow10", "math/bits.deBruijn32tab", "math/bits.deBruijn64tab"], apart := false, laid := [("math/bits.deBruijn32tab", laid_math_bits_deBruijn32tab), ("math/bits.deBruijn64tab", laid_math_bits_deBruijn64tab), ("internal/strconv.uint64pow10", laid_internal_strconv_uint64pow10), ("woofer/protect.conditions", laid_woofer_protect_conditions)], narrowed := true }
def ProtectGuardsUptoSaid : Prop := protectGuardsUptoRow.holds Tryd.pinned (OpenSpec.upto protectGuardsSpec)

/-- 'wooferlaw08.ProtectStates', WHERE WHAT IT READS IS OF BULK AT MOST 1048576: true; the input reads as it did. -/
def protectStatesUptoRow : OpenClaim := { program := "ytdeapbihbhoefaadoor", sum := "e2d31a0f6264c1b5f2af017ce38721ff0454621085d6dc24656b7e3ca0febd30", func := "woofer/wooferlaw08.ProtectStates", spec := "protectStates", inPlace := ["internal/abi.NoEscape", "internal/bytealg.MakeNoZero"], unfollowed := true, recurses := true, named := ["woofer/protect.conditions", "internal/strconv.uint64pow10", "math/bits.deBruijn32tab", "math/bits.deBruijn64tab"], apart := false, laid := [("math/bits.deBruijn32tab", laid_math_bits_deBruijn32tab), ("math/bits.deBruijn64tab", laid_math_bits_deBruijn64tab), ("internal/strconv.uint64pow10", laid_internal_strconv_uint64pow10), ("woofer/protect.conditions", laid_woofer_protect_conditions)], narrowed := true }
def ProtectStatesUptoSaid : Prop := protectStatesUptoRow.holds Tryd.pinned (OpenSpec.upto protectStatesSpec)

/-- 'wooferlaw08.ProtectRuns', WHERE WHAT IT READS IS OF BULK AT MOST 1048576: true; the input reads as it did. -/
def protectRunsUptoRow : OpenClaim := { program := "ytdeapbihbhoefaadoor", sum := "e2d31a0f6264c1b5f2af017ce38721ff0454621085d6dc24656b7e3ca0febd30", func := "woofer/wooferlaw08.ProtectRuns", spec := "protectRuns", inPlace := ["internal/abi.NoEscape", "internal/bytealg.MakeNoZero"], unfollowed := true, recurses := true, named := ["woofer/protect.conditions", "internal/strconv.uint64pow10", "math/bits.deBruijn32tab", "math/bits.deBruijn64tab"], apart := false, laid := [("math/bits.deBruijn32tab", laid_math_bits_deBruijn32tab), ("math/bits.deBruijn64tab", laid_math_bits_deBruijn64tab), ("internal/strconv.uint64pow10", laid_internal_strconv_uint64pow10), ("woofer/protect.conditions", laid_woofer_protect_conditions)], narrowed := true }
def ProtectRunsUptoSaid : Prop := protectRunsUptoRow.holds Tryd.pinned (OpenSpec.upto protectRunsSpec)

/-- 'wooferlaw08.ProtectLimits', WHERE WHAT IT READS IS OF BULK AT MOST 1048576: true; the input reads as it did. -/
def protectLimitsUptoRow : OpenClaim := { program := "ytdeapbihbhoefaadoor", sum := "e2d31a0f6264c1b5f2af017ce38721ff0454621085d6dc24656b7e3ca0febd30", func := "woofer/wooferlaw08.ProtectLimits", spec := "protectLimits", inPlace := ["internal/abi.NoEscape", "internal/bytealg.MakeNoZero"], unfollowed := true, recurses := true, named := ["woofer/protect.conditions", "internal/strconv.uint64pow10", "math/bits.deBruijn32tab", "math/bits.deBruijn64tab"], apart := false, laid := [("math/bits.deBruijn32tab", laid_math_bits_deBruijn32tab), ("math/bits.deBruijn64tab", laid_math_bits_deBruijn64tab), ("internal/strconv.uint64pow10", laid_internal_strconv_uint64pow10), ("woofer/protect.conditions", laid_woofer_protect_conditions)], narrowed := true }
def ProtectLimitsUptoSaid : Prop := protectLimitsUptoRow.holds Tryd.pinned (OpenSpec.upto protectLimitsSpec)

/-- 'wooferlaw08.ProtectSearches', WHERE WHAT IT READS IS OF BULK AT MOST 1048576: true; the input reads as it did. -/
def protectSearchesUptoRow : OpenClaim := { program := "ytdeapbihbhoefaadoor", sum := "e2d31a0f6264c1b5f2af017ce38721ff0454621085d6dc24656b7e3ca0febd30", func := "woofer/wooferlaw08.ProtectSearches", spec := "protectSearches", inPlace := ["internal/abi.NoEscape", "internal/bytealg.MakeNoZero"], unfollowed := true, recurses := true, named := ["woofer/protect.conditions", "internal/strconv.uint64pow10", "math/bits.deBruijn32tab", "math/bits.deBruijn64tab"], apart := false, laid := [("math/bits.deBruijn32tab", laid_math_bits_deBruijn32tab), ("math/bits.deBruijn64tab", laid_math_bits_deBruijn64tab), ("internal/strconv.uint64pow10", laid_internal_strconv_uint64pow10), ("woofer/protect.conditions", laid_woofer_protect_conditions)], narrowed := true }
def ProtectSearchesUptoSaid : Prop := protectSearchesUptoRow.holds Tryd.pinned (OpenSpec.upto protectSearchesSpec)

/-- 'wooferlaw08.ProtectKeeps', WHERE WHAT IT READS IS OF BULK AT MOST 1048576: true; the input reads as it did. -/
def protectKeepsUptoRow : OpenClaim := { program := "ytdeapbihbhoefaadoor", sum := "e2d31a0f6264c1b5f2af017ce38721ff0454621085d6dc24656b7e3ca0febd30", func := "woofer/wooferlaw08.ProtectKeeps", spec := "protectKeeps", inPlace := ["internal/abi.NoEscape", "internal/bytealg.MakeNoZero"], unfollowed := true, recurses := true, named := ["woofer/protect.conditions", "internal/strconv.uint64pow10", "math/bits.deBruijn32tab", "math/bits.deBruijn64tab"], apart := false, laid := [("math/bits.deBruijn32tab", laid_math_bits_deBruijn32tab), ("math/bits.deBruijn64tab", laid_math_bits_deBruijn64tab), ("internal/strconv.uint64pow10", laid_internal_strconv_uint64pow10), ("woofer/protect.conditions", laid_woofer_protect_conditions)], narrowed := true }
def ProtectKeepsUptoSaid : Prop := protectKeepsUptoRow.holds Tryd.pinned (OpenSpec.upto protectKeepsSpec)

/-- 'wooferlaw08.ProtectQuiet', WHERE WHAT IT READS IS OF BULK AT MOST 1048576: true; the input reads as it did. -/
def protectQuietUptoRow : OpenClaim := { program := "ytdeapbihbhoefaadoor", sum := "e2d31a0f6264c1b5f2af017ce38721ff0454621085d6dc24656b7e3ca0febd30", func := "woofer/wooferlaw08.ProtectQuiet", spec := "protectQuiet", inPlace := ["internal/abi.NoEscape", "internal/bytealg.MakeNoZero"], unfollowed := true, recurses := true, named := ["woofer/protect.conditions", "internal/strconv.uint64pow10", "math/bits.deBruijn32tab", "math/bits.deBruijn64tab"], apart := false, laid := [("math/bits.deBruijn32tab", laid_math_bits_deBruijn32tab), ("math/bits.deBruijn64tab", laid_math_bits_deBruijn64tab), ("internal/strconv.uint64pow10", laid_internal_strconv_uint64pow10), ("woofer/protect.conditions", laid_woofer_protect_conditions)], narrowed := true }
def ProtectQuietUptoSaid : Prop := protectQuietUptoRow.holds Tryd.pinned (OpenSpec.upto protectQuietSpec)

/-- 'wooferlaw08.ProtectLoudest', WHERE WHAT IT READS IS OF BULK AT MOST 1048576: true; the input reads as it did. -/
def protectLoudestUptoRow : OpenClaim := { program := "ytdeapbihbhoefaadoor", sum := "e2d31a0f6264c1b5f2af017ce38721ff0454621085d6dc24656b7e3ca0febd30", func := "woofer/wooferlaw08.ProtectLoudest", spec := "protectLoudest", inPlace := ["internal/abi.NoEscape", "internal/bytealg.MakeNoZero"], unfollowed := true, recurses := true, named := ["woofer/protect.conditions", "internal/strconv.uint64pow10", "math/bits.deBruijn32tab", "math/bits.deBruijn64tab"], apart := false, laid := [("math/bits.deBruijn32tab", laid_math_bits_deBruijn32tab), ("math/bits.deBruijn64tab", laid_math_bits_deBruijn64tab), ("internal/strconv.uint64pow10", laid_internal_strconv_uint64pow10), ("woofer/protect.conditions", laid_woofer_protect_conditions)], narrowed := true }
def ProtectLoudestUptoSaid : Prop := protectLoudestUptoRow.holds Tryd.pinned (OpenSpec.upto protectLoudestSpec)

/-- 'wooferlaw08.ProtectProofs', WHERE WHAT IT READS IS OF BULK AT MOST 1048576: true; the input reads as it did. -/
def protectProofsUptoRow : OpenClaim := { program := "ytdeapbihbhoefaadoor", sum := "e2d31a0f6264c1b5f2af017ce38721ff0454621085d6dc24656b7e3ca0febd30", func := "woofer/wooferlaw08.ProtectProofs", spec := "protectProofs", inPlace := ["internal/abi.NoEscape", "internal/bytealg.MakeNoZero"], unfollowed := true, recurses := true, named := ["woofer/protect.conditions", "internal/strconv.uint64pow10", "math/bits.deBruijn32tab", "math/bits.deBruijn64tab"], apart := false, laid := [("math/bits.deBruijn32tab", laid_math_bits_deBruijn32tab), ("math/bits.deBruijn64tab", laid_math_bits_deBruijn64tab), ("internal/strconv.uint64pow10", laid_internal_strconv_uint64pow10), ("woofer/protect.conditions", laid_woofer_protect_conditions)], narrowed := true }
def ProtectProofsUptoSaid : Prop := protectProofsUptoRow.holds Tryd.pinned (OpenSpec.upto protectProofsSpec)

/-- 'wooferlaw08.ProtectOpposite', WHERE WHAT IT READS IS OF BULK AT MOST 1048576: true; the input reads as it did. -/
def protectOppositeUptoRow : OpenClaim := { program := "ytdeapbihbhoefaadoor", sum := "e2d31a0f6264c1b5f2af017ce38721ff0454621085d6dc24656b7e3ca0febd30", func := "woofer/wooferlaw08.ProtectOpposite", spec := "protectOpposite", inPlace := ["internal/abi.NoEscape", "internal/bytealg.MakeNoZero"], unfollowed := true, recurses := true, named := ["woofer/protect.conditions", "internal/strconv.uint64pow10", "math/bits.deBruijn32tab", "math/bits.deBruijn64tab"], apart := false, laid := [("math/bits.deBruijn32tab", laid_math_bits_deBruijn32tab), ("math/bits.deBruijn64tab", laid_math_bits_deBruijn64tab), ("internal/strconv.uint64pow10", laid_internal_strconv_uint64pow10), ("woofer/protect.conditions", laid_woofer_protect_conditions)], narrowed := true }
def ProtectOppositeUptoSaid : Prop := protectOppositeUptoRow.holds Tryd.pinned (OpenSpec.upto protectOppositeSpec)

end Rows
end Go.Proofs.YtdeapbihbhoefaaDoor
