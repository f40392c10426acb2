/-
  DERIVED. GIVEN WITH THE SEED: THE PROGRAM's TIES (one call each: nine closed facts by the kernel) AND EACH ROW's TIE, after the 31st guide's Derived/Test/Toyas{Tie, Card}.lean. No idea stands in it: it is a product of the set-up. Laid BY PROGRAM, IN A SANDBOX (cutbox-door.mjs). By AI agents, Wed Nov 11 2026. No macro, syntax, notation, axiom, sorry.
-/
import Derived.Test.YtdeapbihbhoefaaDoorRows
import Derived.LaidByTextLater
import Derived.SevenTiedAt
import Derived.LaidSub
import Derived.LaidOnce
namespace Go.Proofs.YtdeapbihbhoefaaDoor
open Go
set_option maxRecDepth 100000
theorem seatTie1 : Tryd.prog.laidByTextLater [("math/bits.deBruijn32tab", Rows.laid_math_bits_deBruijn32tab), ("math/bits.deBruijn64tab", Rows.laid_math_bits_deBruijn64tab), ("internal/strconv.uint64pow10", Rows.laid_internal_strconv_uint64pow10), ("woofer/protect.conditions", Rows.laid_woofer_protect_conditions)] [.data, .data, .data, .funcs] true :=
  Program.laidByTextLater_by_one 32 8 65 (by kernel_rfl) (by kernel_rfl) (by kernel_rfl) (by kernel_rfl) (by kernel_rfl) (by kernel_rfl) (fun _ _ => by kernel_rfl)
theorem noOwnUnsafe : Tryd.pinned.checked.prog.headLifts.contains "ownunsafe" = false := by kernel_rfl
theorem tie : Tryd.prog.laidByTextLater [("math/bits.deBruijn32tab", Rows.laid_math_bits_deBruijn32tab), ("math/bits.deBruijn64tab", Rows.laid_math_bits_deBruijn64tab), ("internal/strconv.uint64pow10", Rows.laid_internal_strconv_uint64pow10), ("woofer/protect.conditions", Rows.laid_woofer_protect_conditions)] [.data, .data, .data, .funcs] true :=
  Program.laidByTextLater.sub seatTie1 ["math/bits.deBruijn32tab", "math/bits.deBruijn64tab", "internal/strconv.uint64pow10", "woofer/protect.conditions"] (by kernel_rfl) (by kernel_rfl)
theorem protectGuards_row_tie : Rows.protectGuardsRow.laidByTextAt .later Tryd.pinned [.data, .data, .data, .funcs] true :=
  OpenClaim.laidByTextAt_later rfl rfl tie noOwnUnsafe
theorem protectStates_row_tie : Rows.protectStatesRow.laidByTextAt .later Tryd.pinned [.data, .data, .data, .funcs] true :=
  OpenClaim.laidByTextAt_later rfl rfl tie noOwnUnsafe
theorem protectRuns_row_tie : Rows.protectRunsRow.laidByTextAt .later Tryd.pinned [.data, .data, .data, .funcs] true :=
  OpenClaim.laidByTextAt_later rfl rfl tie noOwnUnsafe
theorem protectLimits_row_tie : Rows.protectLimitsRow.laidByTextAt .later Tryd.pinned [.data, .data, .data, .funcs] true :=
  OpenClaim.laidByTextAt_later rfl rfl tie noOwnUnsafe
theorem protectSearches_row_tie : Rows.protectSearchesRow.laidByTextAt .later Tryd.pinned [.data, .data, .data, .funcs] true :=
  OpenClaim.laidByTextAt_later rfl rfl tie noOwnUnsafe
theorem protectKeeps_row_tie : Rows.protectKeepsRow.laidByTextAt .later Tryd.pinned [.data, .data, .data, .funcs] true :=
  OpenClaim.laidByTextAt_later rfl rfl tie noOwnUnsafe
theorem protectQuiet_row_tie : Rows.protectQuietRow.laidByTextAt .later Tryd.pinned [.data, .data, .data, .funcs] true :=
  OpenClaim.laidByTextAt_later rfl rfl tie noOwnUnsafe
theorem protectLoudest_row_tie : Rows.protectLoudestRow.laidByTextAt .later Tryd.pinned [.data, .data, .data, .funcs] true :=
  OpenClaim.laidByTextAt_later rfl rfl tie noOwnUnsafe
theorem protectProofs_row_tie : Rows.protectProofsRow.laidByTextAt .later Tryd.pinned [.data, .data, .data, .funcs] true :=
  OpenClaim.laidByTextAt_later rfl rfl tie noOwnUnsafe
theorem protectOpposite_row_tie : Rows.protectOppositeRow.laidByTextAt .later Tryd.pinned [.data, .data, .data, .funcs] true :=
  OpenClaim.laidByTextAt_later rfl rfl tie noOwnUnsafe
theorem protectGuardsUpto_row_tie : Rows.protectGuardsUptoRow.laidByTextAt .later Tryd.pinned [.data, .data, .data, .funcs] true :=
  OpenClaim.laidByTextAt_later rfl rfl tie noOwnUnsafe
theorem protectStatesUpto_row_tie : Rows.protectStatesUptoRow.laidByTextAt .later Tryd.pinned [.data, .data, .data, .funcs] true :=
  OpenClaim.laidByTextAt_later rfl rfl tie noOwnUnsafe
theorem protectRunsUpto_row_tie : Rows.protectRunsUptoRow.laidByTextAt .later Tryd.pinned [.data, .data, .data, .funcs] true :=
  OpenClaim.laidByTextAt_later rfl rfl tie noOwnUnsafe
theorem protectLimitsUpto_row_tie : Rows.protectLimitsUptoRow.laidByTextAt .later Tryd.pinned [.data, .data, .data, .funcs] true :=
  OpenClaim.laidByTextAt_later rfl rfl tie noOwnUnsafe
theorem protectSearchesUpto_row_tie : Rows.protectSearchesUptoRow.laidByTextAt .later Tryd.pinned [.data, .data, .data, .funcs] true :=
  OpenClaim.laidByTextAt_later rfl rfl tie noOwnUnsafe
theorem protectKeepsUpto_row_tie : Rows.protectKeepsUptoRow.laidByTextAt .later Tryd.pinned [.data, .data, .data, .funcs] true :=
  OpenClaim.laidByTextAt_later rfl rfl tie noOwnUnsafe
theorem protectQuietUpto_row_tie : Rows.protectQuietUptoRow.laidByTextAt .later Tryd.pinned [.data, .data, .data, .funcs] true :=
  OpenClaim.laidByTextAt_later rfl rfl tie noOwnUnsafe
theorem protectLoudestUpto_row_tie : Rows.protectLoudestUptoRow.laidByTextAt .later Tryd.pinned [.data, .data, .data, .funcs] true :=
  OpenClaim.laidByTextAt_later rfl rfl tie noOwnUnsafe
theorem protectProofsUpto_row_tie : Rows.protectProofsUptoRow.laidByTextAt .later Tryd.pinned [.data, .data, .data, .funcs] true :=
  OpenClaim.laidByTextAt_later rfl rfl tie noOwnUnsafe
theorem protectOppositeUpto_row_tie : Rows.protectOppositeUptoRow.laidByTextAt .later Tryd.pinned [.data, .data, .data, .funcs] true :=
  OpenClaim.laidByTextAt_later rfl rfl tie noOwnUnsafe
end Go.Proofs.YtdeapbihbhoefaaDoor
