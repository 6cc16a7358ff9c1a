/-
  DERIVED. GIVEN WITH THE SEED: THE PROGRAM's TIES (one call each: nine closed facts by the kernel) AND EACH ROW's TIE, after the 31st guide's Derived/Test/Toyas{Tie, Card}.lean. No idea stands in it: it is a product of the set-up. Laid BY PROGRAM, IN A SANDBOX (cutbox-door.mjs). By AI agents, Wed Nov 11 2026. No macro, syntax, notation, axiom, sorry.
-/
import Derived.Test.YtlcjmejclpilhaaGreatDoorRows
import Derived.LaidByTextLater
import Derived.SevenTiedAt
import Derived.LaidSub
import Derived.LaidOnce
namespace Go.Proofs.YtlcjmejclpilhaaGreatDoor
open Go
set_option maxRecDepth 100000
theorem seatTie1 : Tryz.prog.laidByTextLater [("math/bits.deBruijn64tab", Rows.laid_math_bits_deBruijn64tab), ("porism/lattice.keys", Rows.laid_porism_lattice_keys), ("porism/porismref03.Keys", Rows.laid_porism_porismref03_Keys), ("porism/value.words", Rows.laid_porism_value_words)] [.data, .widerDeep, .data, .widerDeep] true :=
  Program.laidByTextLater_by_one 29 8 65 (by kernel_rfl) (by kernel_rfl) (by kernel_rfl) (by kernel_rfl) (by kernel_rfl) (by kernel_rfl) (fun _ _ => by kernel_rfl)
theorem noOwnUnsafe : Tryz.pinned.checked.prog.headLifts.contains "ownunsafe" = false := by kernel_rfl
theorem tie : Tryz.prog.laidByTextLater [("math/bits.deBruijn64tab", Rows.laid_math_bits_deBruijn64tab), ("porism/lattice.keys", Rows.laid_porism_lattice_keys), ("porism/porismref03.Keys", Rows.laid_porism_porismref03_Keys), ("porism/value.words", Rows.laid_porism_value_words)] [.data, .widerDeep, .data, .widerDeep] true :=
  Program.laidByTextLater.sub seatTie1 ["math/bits.deBruijn64tab", "porism/lattice.keys", "porism/porismref03.Keys", "porism/value.words"] (by kernel_rfl) (by kernel_rfl)
theorem mergeSymmetric_row_tie : Rows.mergeSymmetricRow.laidByTextAt .later Tryz.pinned [.data, .widerDeep, .data, .widerDeep] true :=
  OpenClaim.laidByTextAt_later rfl rfl tie noOwnUnsafe
theorem mergeIdentities_row_tie : Rows.mergeIdentitiesRow.laidByTextAt .later Tryz.pinned [.data, .widerDeep, .data, .widerDeep] true :=
  OpenClaim.laidByTextAt_later rfl rfl tie noOwnUnsafe
theorem mergeOps_row_tie : Rows.mergeOpsRow.laidByTextAt .later Tryz.pinned [.data, .widerDeep, .data, .widerDeep] true :=
  OpenClaim.laidByTextAt_later rfl rfl tie noOwnUnsafe
theorem mergeIndependent_row_tie : Rows.mergeIndependentRow.laidByTextAt .later Tryz.pinned [.data, .widerDeep, .data, .widerDeep] true :=
  OpenClaim.laidByTextAt_later rfl rfl tie noOwnUnsafe
theorem mergeCommits_row_tie : Rows.mergeCommitsRow.laidByTextAt .later Tryz.pinned [.data, .widerDeep, .data, .widerDeep] true :=
  OpenClaim.laidByTextAt_later rfl rfl tie noOwnUnsafe
theorem mergePoints_row_tie : Rows.mergePointsRow.laidByTextAt .later Tryz.pinned [.data, .widerDeep, .data, .widerDeep] true :=
  OpenClaim.laidByTextAt_later rfl rfl tie noOwnUnsafe
theorem mergeSymmetricUpto_row_tie : Rows.mergeSymmetricUptoRow.laidByTextAt .later Tryz.pinned [.data, .widerDeep, .data, .widerDeep] true :=
  OpenClaim.laidByTextAt_later rfl rfl tie noOwnUnsafe
theorem mergeIdentitiesUpto_row_tie : Rows.mergeIdentitiesUptoRow.laidByTextAt .later Tryz.pinned [.data, .widerDeep, .data, .widerDeep] true :=
  OpenClaim.laidByTextAt_later rfl rfl tie noOwnUnsafe
theorem mergeOpsUpto_row_tie : Rows.mergeOpsUptoRow.laidByTextAt .later Tryz.pinned [.data, .widerDeep, .data, .widerDeep] true :=
  OpenClaim.laidByTextAt_later rfl rfl tie noOwnUnsafe
theorem mergeIndependentUpto_row_tie : Rows.mergeIndependentUptoRow.laidByTextAt .later Tryz.pinned [.data, .widerDeep, .data, .widerDeep] true :=
  OpenClaim.laidByTextAt_later rfl rfl tie noOwnUnsafe
theorem mergeCommitsUpto_row_tie : Rows.mergeCommitsUptoRow.laidByTextAt .later Tryz.pinned [.data, .widerDeep, .data, .widerDeep] true :=
  OpenClaim.laidByTextAt_later rfl rfl tie noOwnUnsafe
theorem mergePointsUpto_row_tie : Rows.mergePointsUptoRow.laidByTextAt .later Tryz.pinned [.data, .widerDeep, .data, .widerDeep] true :=
  OpenClaim.laidByTextAt_later rfl rfl tie noOwnUnsafe
end Go.Proofs.YtlcjmejclpilhaaGreatDoor
