/-
  NARROWER THAN 'FOR EVERY INPUT', by the rows' own cells (each row's printed sentence says how): DriverNumbers: laid · DriverBoxes: laid · DriverFigures: laid · DriverCurves: laid · DriverLaws: laid · DriverWeighs: laid · DriverEven: laid · DriverHolds: laid.
  DERIVED. THE GIVEN ROWS OF THIS SEAT. 8 by the template 'for every input the law returns true; each argument reads behind the call as it read before'; 0 by the template 'total and deterministic' (their statements: YtpkldjlljoledaaDoorTotals.lean).
  GIVEN WITH THE SEED: the statements are not yours to turn. If you find one false, say at which input.
  Laid BY PROGRAM, IN A SANDBOX (cutbox-rows.mjs): the forced cells as the released guide's own fill.sh prints them over the translation 8d76e2b136bdc5d6… (all of the seat's roots in one cut). By AI agents, Wed Nov 11 2026. No macro, syntax, notation, axiom, sorry.
-/
import Derived.Test.YtpkldjlljoledaaDoorChecked
import GoSem.Claim
import GoSem.ClaimJoined
import GoSem.ClaimMapViews
import Derived.JoinedTies
import Derived.KernelRfl
namespace Go.Proofs.YtpkldjlljoledaaDoor
/- THE CELL 'sum', in the pinned program and in every row, IS THE sha256 OF THE DUMP (.gsa) THAT YtpkldjlljoledaaDoorProg.lean LOADS. Nothing in Lean hashes anything: it is a label: what it is worth is what the hold of that sum in a sandbox is worth. -/
noncomputable def Tryd.pinned : Pinned := { name := "ytpkldjlljoledaadoor", sum := "8d76e2b136bdc5d614ef33c6a5935f0aeead0f5c9f9cd5fcdbbbc9ff4944efeb", checked := Tryd.checked }
namespace Rows
def none {H : Type} : Left H := { results := [], args := [] }

/- WHAT THE LISTED PACKAGE-LEVEL VARIABLES READ AS WHEN THE CALL BEGINS. Each datum BY PROGRAM (the guide's laid-datum.mjs) off the statement by which the dump's own 'gosem.cut.vars' lays the variable. In a bare row this is a premise. The card (YtpkldjlljoledaaDoorCards.lean) ties it to the program's text. -/
def laid_math_bits_deBruijn32tab {H : Type} : DataW H := .agg [.lit (.int .u8 0), .lit (.int .u8 1), .lit (.int .u8 28), .lit (.int .u8 2), .lit (.int .u8 29), .lit (.int .u8 14), .lit (.int .u8 24), .lit (.int .u8 3), .lit (.int .u8 30), .lit (.int .u8 22), .lit (.int .u8 20), .lit (.int .u8 15), .lit (.int .u8 25), .lit (.int .u8 17), .lit (.int .u8 4), .lit (.int .u8 8), .lit (.int .u8 31), .lit (.int .u8 27), .lit (.int .u8 13), .lit (.int .u8 23), .lit (.int .u8 21), .lit (.int .u8 19), .lit (.int .u8 16), .lit (.int .u8 7), .lit (.int .u8 26), .lit (.int .u8 12), .lit (.int .u8 18), .lit (.int .u8 6), .lit (.int .u8 11), .lit (.int .u8 5), .lit (.int .u8 10), .lit (.int .u8 9)]
def laid_math_bits_deBruijn64tab {H : Type} : DataW H := .agg [.lit (.int .u8 0), .lit (.int .u8 1), .lit (.int .u8 56), .lit (.int .u8 2), .lit (.int .u8 57), .lit (.int .u8 49), .lit (.int .u8 28), .lit (.int .u8 3), .lit (.int .u8 61), .lit (.int .u8 58), .lit (.int .u8 42), .lit (.int .u8 50), .lit (.int .u8 38), .lit (.int .u8 29), .lit (.int .u8 17), .lit (.int .u8 4), .lit (.int .u8 62), .lit (.int .u8 47), .lit (.int .u8 59), .lit (.int .u8 36), .lit (.int .u8 45), .lit (.int .u8 43), .lit (.int .u8 51), .lit (.int .u8 22), .lit (.int .u8 53), .lit (.int .u8 39), .lit (.int .u8 33), .lit (.int .u8 30), .lit (.int .u8 24), .lit (.int .u8 18), .lit (.int .u8 12), .lit (.int .u8 5), .lit (.int .u8 63), .lit (.int .u8 55), .lit (.int .u8 48), .lit (.int .u8 27), .lit (.int .u8 60), .lit (.int .u8 41), .lit (.int .u8 37), .lit (.int .u8 16), .lit (.int .u8 46), .lit (.int .u8 35), .lit (.int .u8 44), .lit (.int .u8 21), .lit (.int .u8 52), .lit (.int .u8 32), .lit (.int .u8 23), .lit (.int .u8 11), .lit (.int .u8 54), .lit (.int .u8 26), .lit (.int .u8 40), .lit (.int .u8 15), .lit (.int .u8 34), .lit (.int .u8 20), .lit (.int .u8 31), .lit (.int .u8 10), .lit (.int .u8 25), .lit (.int .u8 14), .lit (.int .u8 19), .lit (.int .u8 9), .lit (.int .u8 13), .lit (.int .u8 8), .lit (.int .u8 7), .lit (.int .u8 6)]
def laid_internal_strconv_uint64pow10 {H : Type} : DataW H := .agg [.lit (.int .u64 1), .lit (.int .u64 10), .lit (.int .u64 100), .lit (.int .u64 1000), .lit (.int .u64 10000), .lit (.int .u64 100000), .lit (.int .u64 1000000), .lit (.int .u64 10000000), .lit (.int .u64 100000000), .lit (.int .u64 1000000000), .lit (.int .u64 10000000000), .lit (.int .u64 100000000000), .lit (.int .u64 1000000000000), .lit (.int .u64 10000000000000), .lit (.int .u64 100000000000000), .lit (.int .u64 1000000000000000), .lit (.int .u64 10000000000000000), .lit (.int .u64 100000000000000000), .lit (.int .u64 1000000000000000000), .lit (.int .u64 10000000000000000000)]
def laid_woofer_driver_limits {H : Type} : DataW H := .agg [.agg [.lit (.int .i64 1), .lit (.int .i64 50)], .agg [.lit (.int .i64 0), .lit (.int .i64 10)], .agg [.lit (.int .i64 1), .lit (.int .i64 20)], .agg [.lit (.int .i64 1), .lit (.int .i64 100)], .agg [.lit (.int .i64 1), .lit (.int .i64 5000)], .agg [.lit (.int .i64 1), .lit (.int .i64 100)]]

/-- 'wooferlaw03.DriverNumbers': WHATEVER THE INPUT: true; the input reads as it did. -/
def driverNumbersSpec : ChangeSpec := { name := "driverNumbers", fn := fun _ => fun
  | [d1, d2] => { results := [.lit (.bool true)], args := [d1, d2] }
  | _ => none }
def driverNumbersRow : OpenClaim := { program := "ytpkldjlljoledaadoor", sum := "8d76e2b136bdc5d614ef33c6a5935f0aeead0f5c9f9cd5fcdbbbc9ff4944efeb", func := "woofer/wooferlaw03.DriverNumbers", spec := "driverNumbers", unfollowed := true, recurses := true, named := ["woofer/driver.limits", "internal/strconv.uint64pow10", "math/bits.deBruijn32tab", "math/bits.deBruijn64tab"], apart := false, laid := [("math/bits.deBruijn32tab", laid_math_bits_deBruijn32tab), ("math/bits.deBruijn64tab", laid_math_bits_deBruijn64tab), ("internal/strconv.uint64pow10", laid_internal_strconv_uint64pow10), ("woofer/driver.limits", laid_woofer_driver_limits)] }
def DriverNumbersSaid : Prop := driverNumbersRow.holds Tryd.pinned (OpenSpec.ofChange driverNumbersSpec)

/-- ITS FALSE NEIGHBOUR: 'it returns false'. Refute it at one input. -/
def driverNumbersWrong : ChangeSpec := { name := "driverNumbers", fn := fun _ => fun
  | [d1, d2] => { results := [.lit (.bool false)], args := [d1, d2] }
  | _ => none }
def DriverNumbersWrongFalsely : Prop := driverNumbersRow.holds Tryd.pinned (OpenSpec.ofChange driverNumbersWrong)

/-- 'wooferlaw03.DriverBoxes': WHATEVER THE INPUT: true; the input reads as it did. -/
def driverBoxesSpec : ChangeSpec := { name := "driverBoxes", fn := fun _ => fun
  | [d1, d2, d3] => { results := [.lit (.bool true)], args := [d1, d2, d3] }
  | _ => none }
def driverBoxesRow : OpenClaim := { program := "ytpkldjlljoledaadoor", sum := "8d76e2b136bdc5d614ef33c6a5935f0aeead0f5c9f9cd5fcdbbbc9ff4944efeb", func := "woofer/wooferlaw03.DriverBoxes", spec := "driverBoxes", unfollowed := true, recurses := true, named := ["woofer/driver.limits", "internal/strconv.uint64pow10", "math/bits.deBruijn32tab", "math/bits.deBruijn64tab"], apart := false, laid := [("math/bits.deBruijn32tab", laid_math_bits_deBruijn32tab), ("math/bits.deBruijn64tab", laid_math_bits_deBruijn64tab), ("internal/strconv.uint64pow10", laid_internal_strconv_uint64pow10), ("woofer/driver.limits", laid_woofer_driver_limits)] }
def DriverBoxesSaid : Prop := driverBoxesRow.holds Tryd.pinned (OpenSpec.ofChange driverBoxesSpec)

/-- ITS FALSE NEIGHBOUR: 'it returns false'. Refute it at one input. -/
def driverBoxesWrong : ChangeSpec := { name := "driverBoxes", fn := fun _ => fun
  | [d1, d2, d3] => { results := [.lit (.bool false)], args := [d1, d2, d3] }
  | _ => none }
def DriverBoxesWrongFalsely : Prop := driverBoxesRow.holds Tryd.pinned (OpenSpec.ofChange driverBoxesWrong)

/-- 'wooferlaw03.DriverFigures': WHATEVER THE INPUT: true; the input reads as it did. -/
def driverFiguresSpec : ChangeSpec := { name := "driverFigures", fn := fun _ => fun
  | [d1, d2] => { results := [.lit (.bool true)], args := [d1, d2] }
  | _ => none }
def driverFiguresRow : OpenClaim := { program := "ytpkldjlljoledaadoor", sum := "8d76e2b136bdc5d614ef33c6a5935f0aeead0f5c9f9cd5fcdbbbc9ff4944efeb", func := "woofer/wooferlaw03.DriverFigures", spec := "driverFigures", unfollowed := true, recurses := true, named := ["woofer/driver.limits", "internal/strconv.uint64pow10", "math/bits.deBruijn32tab", "math/bits.deBruijn64tab"], apart := false, laid := [("math/bits.deBruijn32tab", laid_math_bits_deBruijn32tab), ("math/bits.deBruijn64tab", laid_math_bits_deBruijn64tab), ("internal/strconv.uint64pow10", laid_internal_strconv_uint64pow10), ("woofer/driver.limits", laid_woofer_driver_limits)] }
def DriverFiguresSaid : Prop := driverFiguresRow.holds Tryd.pinned (OpenSpec.ofChange driverFiguresSpec)

/-- ITS FALSE NEIGHBOUR: 'it returns false'. Refute it at one input. -/
def driverFiguresWrong : ChangeSpec := { name := "driverFigures", fn := fun _ => fun
  | [d1, d2] => { results := [.lit (.bool false)], args := [d1, d2] }
  | _ => none }
def DriverFiguresWrongFalsely : Prop := driverFiguresRow.holds Tryd.pinned (OpenSpec.ofChange driverFiguresWrong)

/-- 'wooferlaw03.DriverCurves': WHATEVER THE INPUT: true; the input reads as it did. -/
def driverCurvesSpec : ChangeSpec := { name := "driverCurves", fn := fun _ => fun
  | [d1, d2, d3] => { results := [.lit (.bool true)], args := [d1, d2, d3] }
  | _ => none }
def driverCurvesRow : OpenClaim := { program := "ytpkldjlljoledaadoor", sum := "8d76e2b136bdc5d614ef33c6a5935f0aeead0f5c9f9cd5fcdbbbc9ff4944efeb", func := "woofer/wooferlaw03.DriverCurves", spec := "driverCurves", unfollowed := true, recurses := true, named := ["woofer/driver.limits", "internal/strconv.uint64pow10", "math/bits.deBruijn32tab", "math/bits.deBruijn64tab"], apart := false, laid := [("math/bits.deBruijn32tab", laid_math_bits_deBruijn32tab), ("math/bits.deBruijn64tab", laid_math_bits_deBruijn64tab), ("internal/strconv.uint64pow10", laid_internal_strconv_uint64pow10), ("woofer/driver.limits", laid_woofer_driver_limits)] }
def DriverCurvesSaid : Prop := driverCurvesRow.holds Tryd.pinned (OpenSpec.ofChange driverCurvesSpec)

/-- ITS FALSE NEIGHBOUR: 'it returns false'. Refute it at one input. -/
def driverCurvesWrong : ChangeSpec := { name := "driverCurves", fn := fun _ => fun
  | [d1, d2, d3] => { results := [.lit (.bool false)], args := [d1, d2, d3] }
  | _ => none }
def DriverCurvesWrongFalsely : Prop := driverCurvesRow.holds Tryd.pinned (OpenSpec.ofChange driverCurvesWrong)

/-- 'wooferlaw03.DriverLaws': WHATEVER THE INPUT: true; the input reads as it did. -/
def driverLawsSpec : ChangeSpec := { name := "driverLaws", fn := fun _ => fun
  | [d1, d2, d3] => { results := [.lit (.bool true)], args := [d1, d2, d3] }
  | _ => none }
def driverLawsRow : OpenClaim := { program := "ytpkldjlljoledaadoor", sum := "8d76e2b136bdc5d614ef33c6a5935f0aeead0f5c9f9cd5fcdbbbc9ff4944efeb", func := "woofer/wooferlaw03.DriverLaws", spec := "driverLaws", unfollowed := true, recurses := true, named := ["woofer/driver.limits", "internal/strconv.uint64pow10", "math/bits.deBruijn32tab", "math/bits.deBruijn64tab"], apart := false, laid := [("math/bits.deBruijn32tab", laid_math_bits_deBruijn32tab), ("math/bits.deBruijn64tab", laid_math_bits_deBruijn64tab), ("internal/strconv.uint64pow10", laid_internal_strconv_uint64pow10), ("woofer/driver.limits", laid_woofer_driver_limits)] }
def DriverLawsSaid : Prop := driverLawsRow.holds Tryd.pinned (OpenSpec.ofChange driverLawsSpec)

/-- ITS FALSE NEIGHBOUR: 'it returns false'. Refute it at one input. -/
def driverLawsWrong : ChangeSpec := { name := "driverLaws", fn := fun _ => fun
  | [d1, d2, d3] => { results := [.lit (.bool false)], args := [d1, d2, d3] }
  | _ => none }
def DriverLawsWrongFalsely : Prop := driverLawsRow.holds Tryd.pinned (OpenSpec.ofChange driverLawsWrong)

/-- 'wooferlaw03.DriverWeighs': WHATEVER THE INPUT: true; the input reads as it did. -/
def driverWeighsSpec : ChangeSpec := { name := "driverWeighs", fn := fun _ => fun
  | [d1, d2] => { results := [.lit (.bool true)], args := [d1, d2] }
  | _ => none }
def driverWeighsRow : OpenClaim := { program := "ytpkldjlljoledaadoor", sum := "8d76e2b136bdc5d614ef33c6a5935f0aeead0f5c9f9cd5fcdbbbc9ff4944efeb", func := "woofer/wooferlaw03.DriverWeighs", spec := "driverWeighs", unfollowed := true, recurses := true, named := ["woofer/driver.limits", "internal/strconv.uint64pow10", "math/bits.deBruijn32tab", "math/bits.deBruijn64tab"], apart := false, laid := [("math/bits.deBruijn32tab", laid_math_bits_deBruijn32tab), ("math/bits.deBruijn64tab", laid_math_bits_deBruijn64tab), ("internal/strconv.uint64pow10", laid_internal_strconv_uint64pow10), ("woofer/driver.limits", laid_woofer_driver_limits)] }
def DriverWeighsSaid : Prop := driverWeighsRow.holds Tryd.pinned (OpenSpec.ofChange driverWeighsSpec)

/-- ITS FALSE NEIGHBOUR: 'it returns false'. Refute it at one input. -/
def driverWeighsWrong : ChangeSpec := { name := "driverWeighs", fn := fun _ => fun
  | [d1, d2] => { results := [.lit (.bool false)], args := [d1, d2] }
  | _ => none }
def DriverWeighsWrongFalsely : Prop := driverWeighsRow.holds Tryd.pinned (OpenSpec.ofChange driverWeighsWrong)

/-- 'wooferlaw03.DriverEven': WHATEVER THE INPUT: true; the input reads as it did. -/
def driverEvenSpec : ChangeSpec := { name := "driverEven", fn := fun _ => fun
  | [d1, d2, d3] => { results := [.lit (.bool true)], args := [d1, d2, d3] }
  | _ => none }
def driverEvenRow : OpenClaim := { program := "ytpkldjlljoledaadoor", sum := "8d76e2b136bdc5d614ef33c6a5935f0aeead0f5c9f9cd5fcdbbbc9ff4944efeb", func := "woofer/wooferlaw03.DriverEven", spec := "driverEven", unfollowed := true, recurses := true, named := ["woofer/driver.limits", "internal/strconv.uint64pow10", "math/bits.deBruijn32tab", "math/bits.deBruijn64tab"], apart := false, laid := [("math/bits.deBruijn32tab", laid_math_bits_deBruijn32tab), ("math/bits.deBruijn64tab", laid_math_bits_deBruijn64tab), ("internal/strconv.uint64pow10", laid_internal_strconv_uint64pow10), ("woofer/driver.limits", laid_woofer_driver_limits)] }
def DriverEvenSaid : Prop := driverEvenRow.holds Tryd.pinned (OpenSpec.ofChange driverEvenSpec)

/-- ITS FALSE NEIGHBOUR: 'it returns false'. Refute it at one input. -/
def driverEvenWrong : ChangeSpec := { name := "driverEven", fn := fun _ => fun
  | [d1, d2, d3] => { results := [.lit (.bool false)], args := [d1, d2, d3] }
  | _ => none }
def DriverEvenWrongFalsely : Prop := driverEvenRow.holds Tryd.pinned (OpenSpec.ofChange driverEvenWrong)

/-- 'wooferlaw03.DriverHolds': WHATEVER THE INPUT: true; the input reads as it did. -/
def driverHoldsSpec : ChangeSpec := { name := "driverHolds", fn := fun _ => fun
  | [d1, d2, d3] => { results := [.lit (.bool true)], args := [d1, d2, d3] }
  | _ => none }
def driverHoldsRow : OpenClaim := { program := "ytpkldjlljoledaadoor", sum := "8d76e2b136bdc5d614ef33c6a5935f0aeead0f5c9f9cd5fcdbbbc9ff4944efeb", func := "woofer/wooferlaw03.DriverHolds", spec := "driverHolds", unfollowed := true, recurses := true, named := ["woofer/driver.limits", "internal/strconv.uint64pow10", "math/bits.deBruijn32tab", "math/bits.deBruijn64tab"], apart := false, laid := [("math/bits.deBruijn32tab", laid_math_bits_deBruijn32tab), ("math/bits.deBruijn64tab", laid_math_bits_deBruijn64tab), ("internal/strconv.uint64pow10", laid_internal_strconv_uint64pow10), ("woofer/driver.limits", laid_woofer_driver_limits)] }
def DriverHoldsSaid : Prop := driverHoldsRow.holds Tryd.pinned (OpenSpec.ofChange driverHoldsSpec)

/-- ITS FALSE NEIGHBOUR: 'it returns false'. Refute it at one input. -/
def driverHoldsWrong : ChangeSpec := { name := "driverHolds", fn := fun _ => fun
  | [d1, d2, d3] => { results := [.lit (.bool false)], args := [d1, d2, d3] }
  | _ => none }
def DriverHoldsWrongFalsely : Prop := driverHoldsRow.holds Tryd.pinned (OpenSpec.ofChange driverHoldsWrong)

/- THE SECOND FORM. 'bulk': how many values and letters a reading holds, each counted each time it is reached (what is shared counts as often as it is met; a slice's spare places count too). A statement '..UptoSaid' is the law's where the arguments, and the package variables that the reading takes, are together of bulk at most 1048576: NARROWER than '..Said'. Prove '..Said' where nothing that the law and all that it calls make is longer than what came in: it says more and counts as full. Else prove '..UptoSaid'. A law counts once. -/
mutual
def uptoBulk {H : Type} : DataW H → Nat
  | .lit (.string bytes) => bytes.length + 1
  | .lit _ => 1
  | .nil => 1
  | .ptr d => uptoBulk d + 1
  | .slice elems spare => uptoBulkAll elems + uptoBulkAll spare + 1
  | .agg parts => uptoBulkAll parts + 1
  | .iface _ d => uptoBulk d + 1
  | .map entries => uptoBulkEntries entries + 1
  | .held _ => 1
def uptoBulkAll {H : Type} : List (DataW H) → Nat
  | [] => 0
  | d :: r => uptoBulk d + uptoBulkAll r
def uptoBulkEntries {H : Type} : List (Lit × DataW H) → Nat
  | [] => 0
  | x :: r => uptoBulkEntry x + uptoBulkEntries r
def uptoBulkEntry {H : Type} : Lit × DataW H → Nat
  | (.string bytes, d) => bytes.length + uptoBulk d + 1
  | (_, d) => uptoBulk d + 1
 end
def uptoSmall : (H : Type) → List (DataW H) → Bool := fun _ ds => decide (uptoBulkAll ds ≤ 1048576)
def OpenSpec.upto (s : _root_.Go.ChangeSpec) : _root_.Go.OpenSpec := { _root_.Go.OpenSpec.ofChange s with cond := some uptoSmall }

/-- 'wooferlaw03.DriverNumbers', WHERE WHAT IT READS IS OF BULK AT MOST 1048576: true; the input reads as it did. -/
def driverNumbersUptoRow : OpenClaim := { program := "ytpkldjlljoledaadoor", sum := "8d76e2b136bdc5d614ef33c6a5935f0aeead0f5c9f9cd5fcdbbbc9ff4944efeb", func := "woofer/wooferlaw03.DriverNumbers", spec := "driverNumbers", unfollowed := true, recurses := true, named := ["woofer/driver.limits", "internal/strconv.uint64pow10", "math/bits.deBruijn32tab", "math/bits.deBruijn64tab"], apart := false, laid := [("math/bits.deBruijn32tab", laid_math_bits_deBruijn32tab), ("math/bits.deBruijn64tab", laid_math_bits_deBruijn64tab), ("internal/strconv.uint64pow10", laid_internal_strconv_uint64pow10), ("woofer/driver.limits", laid_woofer_driver_limits)], narrowed := true }
def DriverNumbersUptoSaid : Prop := driverNumbersUptoRow.holds Tryd.pinned (OpenSpec.upto driverNumbersSpec)

/-- 'wooferlaw03.DriverBoxes', WHERE WHAT IT READS IS OF BULK AT MOST 1048576: true; the input reads as it did. -/
def driverBoxesUptoRow : OpenClaim := { program := "ytpkldjlljoledaadoor", sum := "8d76e2b136bdc5d614ef33c6a5935f0aeead0f5c9f9cd5fcdbbbc9ff4944efeb", func := "woofer/wooferlaw03.DriverBoxes", spec := "driverBoxes", unfollowed := true, recurses := true, named := ["woofer/driver.limits", "internal/strconv.uint64pow10", "math/bits.deBruijn32tab", "math/bits.deBruijn64tab"], apart := false, laid := [("math/bits.deBruijn32tab", laid_math_bits_deBruijn32tab), ("math/bits.deBruijn64tab", laid_math_bits_deBruijn64tab), ("internal/strconv.uint64pow10", laid_internal_strconv_uint64pow10), ("woofer/driver.limits", laid_woofer_driver_limits)], narrowed := true }
def DriverBoxesUptoSaid : Prop := driverBoxesUptoRow.holds Tryd.pinned (OpenSpec.upto driverBoxesSpec)

/-- 'wooferlaw03.DriverFigures', WHERE WHAT IT READS IS OF BULK AT MOST 1048576: true; the input reads as it did. -/
def driverFiguresUptoRow : OpenClaim := { program := "ytpkldjlljoledaadoor", sum := "8d76e2b136bdc5d614ef33c6a5935f0aeead0f5c9f9cd5fcdbbbc9ff4944efeb", func := "woofer/wooferlaw03.DriverFigures", spec := "driverFigures", unfollowed := true, recurses := true, named := ["woofer/driver.limits", "internal/strconv.uint64pow10", "math/bits.deBruijn32tab", "math/bits.deBruijn64tab"], apart := false, laid := [("math/bits.deBruijn32tab", laid_math_bits_deBruijn32tab), ("math/bits.deBruijn64tab", laid_math_bits_deBruijn64tab), ("internal/strconv.uint64pow10", laid_internal_strconv_uint64pow10), ("woofer/driver.limits", laid_woofer_driver_limits)], narrowed := true }
def DriverFiguresUptoSaid : Prop := driverFiguresUptoRow.holds Tryd.pinned (OpenSpec.upto driverFiguresSpec)

/-- 'wooferlaw03.DriverCurves', WHERE WHAT IT READS IS OF BULK AT MOST 1048576: true; the input reads as it did. -/
def driverCurvesUptoRow : OpenClaim := { program := "ytpkldjlljoledaadoor", sum := "8d76e2b136bdc5d614ef33c6a5935f0aeead0f5c9f9cd5fcdbbbc9ff4944efeb", func := "woofer/wooferlaw03.DriverCurves", spec := "driverCurves", unfollowed := true, recurses := true, named := ["woofer/driver.limits", "internal/strconv.uint64pow10", "math/bits.deBruijn32tab", "math/bits.deBruijn64tab"], apart := false, laid := [("math/bits.deBruijn32tab", laid_math_bits_deBruijn32tab), ("math/bits.deBruijn64tab", laid_math_bits_deBruijn64tab), ("internal/strconv.uint64pow10", laid_internal_strconv_uint64pow10), ("woofer/driver.limits", laid_woofer_driver_limits)], narrowed := true }
def DriverCurvesUptoSaid : Prop := driverCurvesUptoRow.holds Tryd.pinned (OpenSpec.upto driverCurvesSpec)

/-- 'wooferlaw03.DriverLaws', WHERE WHAT IT READS IS OF BULK AT MOST 1048576: true; the input reads as it did. -/
def driverLawsUptoRow : OpenClaim := { program := "ytpkldjlljoledaadoor", sum := "8d76e2b136bdc5d614ef33c6a5935f0aeead0f5c9f9cd5fcdbbbc9ff4944efeb", func := "woofer/wooferlaw03.DriverLaws", spec := "driverLaws", unfollowed := true, recurses := true, named := ["woofer/driver.limits", "internal/strconv.uint64pow10", "math/bits.deBruijn32tab", "math/bits.deBruijn64tab"], apart := false, laid := [("math/bits.deBruijn32tab", laid_math_bits_deBruijn32tab), ("math/bits.deBruijn64tab", laid_math_bits_deBruijn64tab), ("internal/strconv.uint64pow10", laid_internal_strconv_uint64pow10), ("woofer/driver.limits", laid_woofer_driver_limits)], narrowed := true }
def DriverLawsUptoSaid : Prop := driverLawsUptoRow.holds Tryd.pinned (OpenSpec.upto driverLawsSpec)

/-- 'wooferlaw03.DriverWeighs', WHERE WHAT IT READS IS OF BULK AT MOST 1048576: true; the input reads as it did. -/
def driverWeighsUptoRow : OpenClaim := { program := "ytpkldjlljoledaadoor", sum := "8d76e2b136bdc5d614ef33c6a5935f0aeead0f5c9f9cd5fcdbbbc9ff4944efeb", func := "woofer/wooferlaw03.DriverWeighs", spec := "driverWeighs", unfollowed := true, recurses := true, named := ["woofer/driver.limits", "internal/strconv.uint64pow10", "math/bits.deBruijn32tab", "math/bits.deBruijn64tab"], apart := false, laid := [("math/bits.deBruijn32tab", laid_math_bits_deBruijn32tab), ("math/bits.deBruijn64tab", laid_math_bits_deBruijn64tab), ("internal/strconv.uint64pow10", laid_internal_strconv_uint64pow10), ("woofer/driver.limits", laid_woofer_driver_limits)], narrowed := true }
def DriverWeighsUptoSaid : Prop := driverWeighsUptoRow.holds Tryd.pinned (OpenSpec.upto driverWeighsSpec)

/-- 'wooferlaw03.DriverEven', WHERE WHAT IT READS IS OF BULK AT MOST 1048576: true; the input reads as it did. -/
def driverEvenUptoRow : OpenClaim := { program := "ytpkldjlljoledaadoor", sum := "8d76e2b136bdc5d614ef33c6a5935f0aeead0f5c9f9cd5fcdbbbc9ff4944efeb", func := "woofer/wooferlaw03.DriverEven", spec := "driverEven", unfollowed := true, recurses := true, named := ["woofer/driver.limits", "internal/strconv.uint64pow10", "math/bits.deBruijn32tab", "math/bits.deBruijn64tab"], apart := false, laid := [("math/bits.deBruijn32tab", laid_math_bits_deBruijn32tab), ("math/bits.deBruijn64tab", laid_math_bits_deBruijn64tab), ("internal/strconv.uint64pow10", laid_internal_strconv_uint64pow10), ("woofer/driver.limits", laid_woofer_driver_limits)], narrowed := true }
def DriverEvenUptoSaid : Prop := driverEvenUptoRow.holds Tryd.pinned (OpenSpec.upto driverEvenSpec)

/-- 'wooferlaw03.DriverHolds', WHERE WHAT IT READS IS OF BULK AT MOST 1048576: true; the input reads as it did. -/
def driverHoldsUptoRow : OpenClaim := { program := "ytpkldjlljoledaadoor", sum := "8d76e2b136bdc5d614ef33c6a5935f0aeead0f5c9f9cd5fcdbbbc9ff4944efeb", func := "woofer/wooferlaw03.DriverHolds", spec := "driverHolds", unfollowed := true, recurses := true, named := ["woofer/driver.limits", "internal/strconv.uint64pow10", "math/bits.deBruijn32tab", "math/bits.deBruijn64tab"], apart := false, laid := [("math/bits.deBruijn32tab", laid_math_bits_deBruijn32tab), ("math/bits.deBruijn64tab", laid_math_bits_deBruijn64tab), ("internal/strconv.uint64pow10", laid_internal_strconv_uint64pow10), ("woofer/driver.limits", laid_woofer_driver_limits)], narrowed := true }
def DriverHoldsUptoSaid : Prop := driverHoldsUptoRow.holds Tryd.pinned (OpenSpec.upto driverHoldsSpec)

end Rows
end Go.Proofs.YtpkldjlljoledaaDoor
