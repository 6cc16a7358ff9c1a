/-
  DERIVED. GIVEN WITH THE SEED: THE PROGRAM's TIES (one call each: nine closed facts by the kernel) AND EACH ROW's TIE, after the 31st guide's Derived/Test/Toyas{Tie, Card}.lean. No idea stands in it: it is a product of the set-up. Laid BY PROGRAM, IN A SANDBOX (cutbox-door.mjs). By AI agents, Wed Nov 11 2026. No macro, syntax, notation, axiom, sorry.
-/
import Derived.Test.YtfjkncfjclifoaaGreatDoorRows
import Derived.LaidByTextLater
import Derived.SevenTiedAt
import Derived.LaidSub
import Derived.LaidOnce
namespace Go.Proofs.YtfjkncfjclifoaaGreatDoor
open Go
set_option maxRecDepth 100000
theorem seatTie1 : Tryz.prog.laidByTextLater [("math/bits.deBruijn64tab", Rows.laid_math_bits_deBruijn64tab), ("porism/lattice.keys", Rows.laid_porism_lattice_keys), ("porism/value.words", Rows.laid_porism_value_words)] [.data, .widerDeep, .widerDeep] true :=
  Program.laidByTextLater_by_one 24 8 65 (by kernel_rfl) (by kernel_rfl) (by kernel_rfl) (by kernel_rfl) (by kernel_rfl) (by kernel_rfl) (fun _ _ => by kernel_rfl)
theorem noOwnUnsafe : Tryz.pinned.checked.prog.headLifts.contains "ownunsafe" = false := by kernel_rfl
theorem tie : Tryz.prog.laidByTextLater [("math/bits.deBruijn64tab", Rows.laid_math_bits_deBruijn64tab), ("porism/lattice.keys", Rows.laid_porism_lattice_keys), ("porism/value.words", Rows.laid_porism_value_words)] [.data, .widerDeep, .widerDeep] true :=
  Program.laidByTextLater.sub seatTie1 ["math/bits.deBruijn64tab", "porism/lattice.keys", "porism/value.words"] (by kernel_rfl) (by kernel_rfl)
theorem branchIsolated_row_tie : Rows.branchIsolatedRow.laidByTextAt .later Tryz.pinned [.data, .widerDeep, .widerDeep] true :=
  OpenClaim.laidByTextAt_later rfl rfl tie noOwnUnsafe
theorem branchValid_row_tie : Rows.branchValidRow.laidByTextAt .later Tryz.pinned [.data, .widerDeep, .widerDeep] true :=
  OpenClaim.laidByTextAt_later rfl rfl tie noOwnUnsafe
theorem branchAncestors_row_tie : Rows.branchAncestorsRow.laidByTextAt .later Tryz.pinned [.data, .widerDeep, .widerDeep] true :=
  OpenClaim.laidByTextAt_later rfl rfl tie noOwnUnsafe
theorem branchForks_row_tie : Rows.branchForksRow.laidByTextAt .later Tryz.pinned [.data, .widerDeep, .widerDeep] true :=
  OpenClaim.laidByTextAt_later rfl rfl tie noOwnUnsafe
theorem branchIndependent_row_tie : Rows.branchIndependentRow.laidByTextAt .later Tryz.pinned [.data, .widerDeep, .widerDeep] true :=
  OpenClaim.laidByTextAt_later rfl rfl tie noOwnUnsafe
theorem branchMeets_row_tie : Rows.branchMeetsRow.laidByTextAt .later Tryz.pinned [.data, .widerDeep, .widerDeep] true :=
  OpenClaim.laidByTextAt_later rfl rfl tie noOwnUnsafe
theorem branchIsolatedUpto_row_tie : Rows.branchIsolatedUptoRow.laidByTextAt .later Tryz.pinned [.data, .widerDeep, .widerDeep] true :=
  OpenClaim.laidByTextAt_later rfl rfl tie noOwnUnsafe
theorem branchValidUpto_row_tie : Rows.branchValidUptoRow.laidByTextAt .later Tryz.pinned [.data, .widerDeep, .widerDeep] true :=
  OpenClaim.laidByTextAt_later rfl rfl tie noOwnUnsafe
theorem branchAncestorsUpto_row_tie : Rows.branchAncestorsUptoRow.laidByTextAt .later Tryz.pinned [.data, .widerDeep, .widerDeep] true :=
  OpenClaim.laidByTextAt_later rfl rfl tie noOwnUnsafe
theorem branchForksUpto_row_tie : Rows.branchForksUptoRow.laidByTextAt .later Tryz.pinned [.data, .widerDeep, .widerDeep] true :=
  OpenClaim.laidByTextAt_later rfl rfl tie noOwnUnsafe
theorem branchIndependentUpto_row_tie : Rows.branchIndependentUptoRow.laidByTextAt .later Tryz.pinned [.data, .widerDeep, .widerDeep] true :=
  OpenClaim.laidByTextAt_later rfl rfl tie noOwnUnsafe
theorem branchMeetsUpto_row_tie : Rows.branchMeetsUptoRow.laidByTextAt .later Tryz.pinned [.data, .widerDeep, .widerDeep] true :=
  OpenClaim.laidByTextAt_later rfl rfl tie noOwnUnsafe
end Go.Proofs.YtfjkncfjclifoaaGreatDoor
