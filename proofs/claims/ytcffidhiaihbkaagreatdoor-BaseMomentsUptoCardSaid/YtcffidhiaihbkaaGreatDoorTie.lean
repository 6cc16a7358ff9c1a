/-
  DERIVED. GIVEN WITH THE SEED: THE PROGRAM's TIES (one call each: nine closed facts by the kernel) AND EACH ROW's TIE, after the 31st guide's Derived/Test/Toyas{Tie, Card}.lean. No idea stands in it: it is a product of the set-up. Laid BY PROGRAM, IN A SANDBOX (cutbox-door.mjs). By AI agents, Wed Nov 11 2026. No macro, syntax, notation, axiom, sorry.
-/
import Derived.Test.YtcffidhiaihbkaaGreatDoorRows
import Derived.LaidByTextLater
import Derived.SevenTiedAt
import Derived.LaidSub
import Derived.LaidOnce
namespace Go.Proofs.YtcffidhiaihbkaaGreatDoor
open Go
set_option maxRecDepth 100000
theorem seatTie1 : Tryz.prog.laidByTextLater [("math/bits.deBruijn64tab", Rows.laid_math_bits_deBruijn64tab), ("porism/lattice.keys", Rows.laid_porism_lattice_keys), ("porism/value.words", Rows.laid_porism_value_words)] [.data, .widerDeep, .widerDeep] true :=
  Program.laidByTextLater_by_one 24 8 65 (by kernel_rfl) (by kernel_rfl) (by kernel_rfl) (by kernel_rfl) (by kernel_rfl) (by kernel_rfl) (fun _ _ => by kernel_rfl)
theorem noOwnUnsafe : Tryz.pinned.checked.prog.headLifts.contains "ownunsafe" = false := by kernel_rfl
theorem tie : Tryz.prog.laidByTextLater [("math/bits.deBruijn64tab", Rows.laid_math_bits_deBruijn64tab), ("porism/lattice.keys", Rows.laid_porism_lattice_keys), ("porism/value.words", Rows.laid_porism_value_words)] [.data, .widerDeep, .widerDeep] true :=
  Program.laidByTextLater.sub seatTie1 ["math/bits.deBruijn64tab", "porism/lattice.keys", "porism/value.words"] (by kernel_rfl) (by kernel_rfl)
theorem baseMoments_row_tie : Rows.baseMomentsRow.laidByTextAt .later Tryz.pinned [.data, .widerDeep, .widerDeep] true :=
  OpenClaim.laidByTextAt_later rfl rfl tie noOwnUnsafe
theorem baseValid_row_tie : Rows.baseValidRow.laidByTextAt .later Tryz.pinned [.data, .widerDeep, .widerDeep] true :=
  OpenClaim.laidByTextAt_later rfl rfl tie noOwnUnsafe
theorem baseOrder_row_tie : Rows.baseOrderRow.laidByTextAt .later Tryz.pinned [.data, .widerDeep, .widerDeep] true :=
  OpenClaim.laidByTextAt_later rfl rfl tie noOwnUnsafe
theorem baseRepeats_row_tie : Rows.baseRepeatsRow.laidByTextAt .later Tryz.pinned [.data, .widerDeep, .widerDeep] true :=
  OpenClaim.laidByTextAt_later rfl rfl tie noOwnUnsafe
theorem baseParts_row_tie : Rows.basePartsRow.laidByTextAt .later Tryz.pinned [.data, .widerDeep, .widerDeep] true :=
  OpenClaim.laidByTextAt_later rfl rfl tie noOwnUnsafe
theorem baseRestores_row_tie : Rows.baseRestoresRow.laidByTextAt .later Tryz.pinned [.data, .widerDeep, .widerDeep] true :=
  OpenClaim.laidByTextAt_later rfl rfl tie noOwnUnsafe
theorem baseMomentsUpto_row_tie : Rows.baseMomentsUptoRow.laidByTextAt .later Tryz.pinned [.data, .widerDeep, .widerDeep] true :=
  OpenClaim.laidByTextAt_later rfl rfl tie noOwnUnsafe
theorem baseValidUpto_row_tie : Rows.baseValidUptoRow.laidByTextAt .later Tryz.pinned [.data, .widerDeep, .widerDeep] true :=
  OpenClaim.laidByTextAt_later rfl rfl tie noOwnUnsafe
theorem baseOrderUpto_row_tie : Rows.baseOrderUptoRow.laidByTextAt .later Tryz.pinned [.data, .widerDeep, .widerDeep] true :=
  OpenClaim.laidByTextAt_later rfl rfl tie noOwnUnsafe
theorem baseRepeatsUpto_row_tie : Rows.baseRepeatsUptoRow.laidByTextAt .later Tryz.pinned [.data, .widerDeep, .widerDeep] true :=
  OpenClaim.laidByTextAt_later rfl rfl tie noOwnUnsafe
theorem basePartsUpto_row_tie : Rows.basePartsUptoRow.laidByTextAt .later Tryz.pinned [.data, .widerDeep, .widerDeep] true :=
  OpenClaim.laidByTextAt_later rfl rfl tie noOwnUnsafe
theorem baseRestoresUpto_row_tie : Rows.baseRestoresUptoRow.laidByTextAt .later Tryz.pinned [.data, .widerDeep, .widerDeep] true :=
  OpenClaim.laidByTextAt_later rfl rfl tie noOwnUnsafe
end Go.Proofs.YtcffidhiaihbkaaGreatDoor
