/-
  DERIVED. GIVEN WITH THE SEED: THE CARDS: each row of YtcffidhiaihbkaaGreatDoorRows.lean that lists a variable, with what it lists TIED to the program's text (the seventh form; the later family's looks); each row that meets fmt, with fmt's text TOLD by the authors' own Lean function (tested against real Go, not proved from fmt's source: count such statements apart). THE CARD IS WHAT COUNTS. Prove the row's statement (the work); the ties are given (YtcffidhiaihbkaaGreatDoorTie.lean); close each card by the builder's one call (the guide's Derived/Test/ToyasCard.lean, 'card_holds'). Laid BY PROGRAM, IN A SANDBOX (cutbox-door.mjs). By AI agents, Wed Nov 11 2026. No macro, syntax, notation, axiom, sorry.
-/
import Derived.Test.YtcffidhiaihbkaaGreatDoorRows
import GoSem.ClaimSeven
namespace Go.Proofs.YtcffidhiaihbkaaGreatDoor
namespace Rows

/-- THE TIED CARD OF 'porismlaw30.BaseMoments'. -/
def baseMomentsCard : Claim7 := { stood := { row := baseMomentsRow, standIns := [], harness := (true, "3798c2315ebef985ca3079b798da4d5d478c6bc720ddfeb4026e80afc60d19e0"), looks := false }, kinds := [], alts := [], laidByText := true, laidKinds := [.data, .widerDeep, .widerDeep], laidTests := true, laidLooks := .later }
def BaseMomentsCardSaid : Prop := Claim7.holds Tryz.pinned (.plain (OpenSpec.ofChange baseMomentsSpec)) baseMomentsCard

/-- THE TIED CARD OF 'porismlaw30.BaseValid'. -/
def baseValidCard : Claim7 := { stood := { row := baseValidRow, standIns := [], harness := (true, "3798c2315ebef985ca3079b798da4d5d478c6bc720ddfeb4026e80afc60d19e0"), looks := false }, kinds := [], alts := [], laidByText := true, laidKinds := [.data, .widerDeep, .widerDeep], laidTests := true, laidLooks := .later }
def BaseValidCardSaid : Prop := Claim7.holds Tryz.pinned (.plain (OpenSpec.ofChange baseValidSpec)) baseValidCard

/-- THE TIED CARD OF 'porismlaw30.BaseOrder'. -/
def baseOrderCard : Claim7 := { stood := { row := baseOrderRow, standIns := [], harness := (true, "3798c2315ebef985ca3079b798da4d5d478c6bc720ddfeb4026e80afc60d19e0"), looks := false }, kinds := [], alts := [], laidByText := true, laidKinds := [.data, .widerDeep, .widerDeep], laidTests := true, laidLooks := .later }
def BaseOrderCardSaid : Prop := Claim7.holds Tryz.pinned (.plain (OpenSpec.ofChange baseOrderSpec)) baseOrderCard

/-- THE TIED CARD OF 'porismlaw30.BaseRepeats'. -/
def baseRepeatsCard : Claim7 := { stood := { row := baseRepeatsRow, standIns := [], harness := (true, "3798c2315ebef985ca3079b798da4d5d478c6bc720ddfeb4026e80afc60d19e0"), looks := false }, kinds := [], alts := [], laidByText := true, laidKinds := [.data, .widerDeep, .widerDeep], laidTests := true, laidLooks := .later }
def BaseRepeatsCardSaid : Prop := Claim7.holds Tryz.pinned (.plain (OpenSpec.ofChange baseRepeatsSpec)) baseRepeatsCard

/-- THE TIED CARD OF 'porismlaw30.BaseParts'. -/
def basePartsCard : Claim7 := { stood := { row := basePartsRow, standIns := [], harness := (true, "3798c2315ebef985ca3079b798da4d5d478c6bc720ddfeb4026e80afc60d19e0"), looks := false }, kinds := [], alts := [], laidByText := true, laidKinds := [.data, .widerDeep, .widerDeep], laidTests := true, laidLooks := .later }
def BasePartsCardSaid : Prop := Claim7.holds Tryz.pinned (.plain (OpenSpec.ofChange basePartsSpec)) basePartsCard

/-- THE TIED CARD OF 'porismlaw30.BaseRestores'. -/
def baseRestoresCard : Claim7 := { stood := { row := baseRestoresRow, standIns := [], harness := (true, "3798c2315ebef985ca3079b798da4d5d478c6bc720ddfeb4026e80afc60d19e0"), looks := false }, kinds := [], alts := [], laidByText := true, laidKinds := [.data, .widerDeep, .widerDeep], laidTests := true, laidLooks := .later }
def BaseRestoresCardSaid : Prop := Claim7.holds Tryz.pinned (.plain (OpenSpec.ofChange baseRestoresSpec)) baseRestoresCard

/-- THE SECOND FORM's CARD OF 'porismlaw30.BaseMoments'. -/
def baseMomentsUptoCard : Claim7 := { stood := { row := baseMomentsUptoRow, standIns := [], harness := (true, "3798c2315ebef985ca3079b798da4d5d478c6bc720ddfeb4026e80afc60d19e0"), looks := false }, kinds := [], alts := [], laidByText := true, laidKinds := [.data, .widerDeep, .widerDeep], laidTests := true, laidLooks := .later }
def BaseMomentsUptoCardSaid : Prop := Claim7.holds Tryz.pinned (.plain (OpenSpec.upto baseMomentsSpec)) baseMomentsUptoCard

/-- THE SECOND FORM's CARD OF 'porismlaw30.BaseValid'. -/
def baseValidUptoCard : Claim7 := { stood := { row := baseValidUptoRow, standIns := [], harness := (true, "3798c2315ebef985ca3079b798da4d5d478c6bc720ddfeb4026e80afc60d19e0"), looks := false }, kinds := [], alts := [], laidByText := true, laidKinds := [.data, .widerDeep, .widerDeep], laidTests := true, laidLooks := .later }
def BaseValidUptoCardSaid : Prop := Claim7.holds Tryz.pinned (.plain (OpenSpec.upto baseValidSpec)) baseValidUptoCard

/-- THE SECOND FORM's CARD OF 'porismlaw30.BaseOrder'. -/
def baseOrderUptoCard : Claim7 := { stood := { row := baseOrderUptoRow, standIns := [], harness := (true, "3798c2315ebef985ca3079b798da4d5d478c6bc720ddfeb4026e80afc60d19e0"), looks := false }, kinds := [], alts := [], laidByText := true, laidKinds := [.data, .widerDeep, .widerDeep], laidTests := true, laidLooks := .later }
def BaseOrderUptoCardSaid : Prop := Claim7.holds Tryz.pinned (.plain (OpenSpec.upto baseOrderSpec)) baseOrderUptoCard

/-- THE SECOND FORM's CARD OF 'porismlaw30.BaseRepeats'. -/
def baseRepeatsUptoCard : Claim7 := { stood := { row := baseRepeatsUptoRow, standIns := [], harness := (true, "3798c2315ebef985ca3079b798da4d5d478c6bc720ddfeb4026e80afc60d19e0"), looks := false }, kinds := [], alts := [], laidByText := true, laidKinds := [.data, .widerDeep, .widerDeep], laidTests := true, laidLooks := .later }
def BaseRepeatsUptoCardSaid : Prop := Claim7.holds Tryz.pinned (.plain (OpenSpec.upto baseRepeatsSpec)) baseRepeatsUptoCard

/-- THE SECOND FORM's CARD OF 'porismlaw30.BaseParts'. -/
def basePartsUptoCard : Claim7 := { stood := { row := basePartsUptoRow, standIns := [], harness := (true, "3798c2315ebef985ca3079b798da4d5d478c6bc720ddfeb4026e80afc60d19e0"), looks := false }, kinds := [], alts := [], laidByText := true, laidKinds := [.data, .widerDeep, .widerDeep], laidTests := true, laidLooks := .later }
def BasePartsUptoCardSaid : Prop := Claim7.holds Tryz.pinned (.plain (OpenSpec.upto basePartsSpec)) basePartsUptoCard

/-- THE SECOND FORM's CARD OF 'porismlaw30.BaseRestores'. -/
def baseRestoresUptoCard : Claim7 := { stood := { row := baseRestoresUptoRow, standIns := [], harness := (true, "3798c2315ebef985ca3079b798da4d5d478c6bc720ddfeb4026e80afc60d19e0"), looks := false }, kinds := [], alts := [], laidByText := true, laidKinds := [.data, .widerDeep, .widerDeep], laidTests := true, laidLooks := .later }
def BaseRestoresUptoCardSaid : Prop := Claim7.holds Tryz.pinned (.plain (OpenSpec.upto baseRestoresSpec)) baseRestoresUptoCard
end Rows
end Go.Proofs.YtcffidhiaihbkaaGreatDoor
