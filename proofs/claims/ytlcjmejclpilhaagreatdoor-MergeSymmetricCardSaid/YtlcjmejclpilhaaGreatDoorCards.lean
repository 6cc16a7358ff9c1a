/-
  DERIVED. GIVEN WITH THE SEED: THE CARDS: each row of YtlcjmejclpilhaaGreatDoorRows.lean that lists a variable, with what it lists TIED to the program's text (the seventh form; the later family's looks); each row that meets fmt, with fmt's text TOLD by the authors' own Lean function (tested against real Go, not proved from fmt's source: count such statements apart). THE CARD IS WHAT COUNTS. Prove the row's statement (the work); the ties are given (YtlcjmejclpilhaaGreatDoorTie.lean); close each card by the builder's one call (the guide's Derived/Test/ToyasCard.lean, 'card_holds'). Laid BY PROGRAM, IN A SANDBOX (cutbox-door.mjs). By AI agents, Wed Nov 11 2026. No macro, syntax, notation, axiom, sorry.
-/
import Derived.Test.YtlcjmejclpilhaaGreatDoorRows
import GoSem.ClaimSeven
namespace Go.Proofs.YtlcjmejclpilhaaGreatDoor
namespace Rows

/-- THE TIED CARD OF 'porismlaw34.MergeSymmetric'. -/
def mergeSymmetricCard : Claim7 := { stood := { row := mergeSymmetricRow, standIns := [], harness := (true, "0e38b02a15147930d4d90b02833867985025771f0dd3f7faecdde187f9abbe15"), looks := false }, kinds := [], alts := [], laidByText := true, laidKinds := [.data, .widerDeep, .data, .widerDeep], laidTests := true, laidLooks := .later }
def MergeSymmetricCardSaid : Prop := Claim7.holds Tryz.pinned (.plain (OpenSpec.ofChange mergeSymmetricSpec)) mergeSymmetricCard

/-- THE TIED CARD OF 'porismlaw34.MergeIdentities'. -/
def mergeIdentitiesCard : Claim7 := { stood := { row := mergeIdentitiesRow, standIns := [], harness := (true, "0e38b02a15147930d4d90b02833867985025771f0dd3f7faecdde187f9abbe15"), looks := false }, kinds := [], alts := [], laidByText := true, laidKinds := [.data, .widerDeep, .data, .widerDeep], laidTests := true, laidLooks := .later }
def MergeIdentitiesCardSaid : Prop := Claim7.holds Tryz.pinned (.plain (OpenSpec.ofChange mergeIdentitiesSpec)) mergeIdentitiesCard

/-- THE TIED CARD OF 'porismlaw34.MergeOps'. -/
def mergeOpsCard : Claim7 := { stood := { row := mergeOpsRow, standIns := [], harness := (true, "0e38b02a15147930d4d90b02833867985025771f0dd3f7faecdde187f9abbe15"), looks := false }, kinds := [], alts := [], laidByText := true, laidKinds := [.data, .widerDeep, .data, .widerDeep], laidTests := true, laidLooks := .later }
def MergeOpsCardSaid : Prop := Claim7.holds Tryz.pinned (.plain (OpenSpec.ofChange mergeOpsSpec)) mergeOpsCard

/-- THE TIED CARD OF 'porismlaw34.MergeIndependent'. -/
def mergeIndependentCard : Claim7 := { stood := { row := mergeIndependentRow, standIns := [], harness := (true, "0e38b02a15147930d4d90b02833867985025771f0dd3f7faecdde187f9abbe15"), looks := false }, kinds := [], alts := [], laidByText := true, laidKinds := [.data, .widerDeep, .data, .widerDeep], laidTests := true, laidLooks := .later }
def MergeIndependentCardSaid : Prop := Claim7.holds Tryz.pinned (.plain (OpenSpec.ofChange mergeIndependentSpec)) mergeIndependentCard

/-- THE TIED CARD OF 'porismlaw34.MergeCommits'. -/
def mergeCommitsCard : Claim7 := { stood := { row := mergeCommitsRow, standIns := [], harness := (true, "0e38b02a15147930d4d90b02833867985025771f0dd3f7faecdde187f9abbe15"), looks := false }, kinds := [], alts := [], laidByText := true, laidKinds := [.data, .widerDeep, .data, .widerDeep], laidTests := true, laidLooks := .later }
def MergeCommitsCardSaid : Prop := Claim7.holds Tryz.pinned (.plain (OpenSpec.ofChange mergeCommitsSpec)) mergeCommitsCard

/-- THE TIED CARD OF 'porismlaw34.MergePoints'. -/
def mergePointsCard : Claim7 := { stood := { row := mergePointsRow, standIns := [], harness := (true, "0e38b02a15147930d4d90b02833867985025771f0dd3f7faecdde187f9abbe15"), looks := false }, kinds := [], alts := [], laidByText := true, laidKinds := [.data, .widerDeep, .data, .widerDeep], laidTests := true, laidLooks := .later }
def MergePointsCardSaid : Prop := Claim7.holds Tryz.pinned (.plain (OpenSpec.ofChange mergePointsSpec)) mergePointsCard

/-- THE SECOND FORM's CARD OF 'porismlaw34.MergeSymmetric'. -/
def mergeSymmetricUptoCard : Claim7 := { stood := { row := mergeSymmetricUptoRow, standIns := [], harness := (true, "0e38b02a15147930d4d90b02833867985025771f0dd3f7faecdde187f9abbe15"), looks := false }, kinds := [], alts := [], laidByText := true, laidKinds := [.data, .widerDeep, .data, .widerDeep], laidTests := true, laidLooks := .later }
def MergeSymmetricUptoCardSaid : Prop := Claim7.holds Tryz.pinned (.plain (OpenSpec.upto mergeSymmetricSpec)) mergeSymmetricUptoCard

/-- THE SECOND FORM's CARD OF 'porismlaw34.MergeIdentities'. -/
def mergeIdentitiesUptoCard : Claim7 := { stood := { row := mergeIdentitiesUptoRow, standIns := [], harness := (true, "0e38b02a15147930d4d90b02833867985025771f0dd3f7faecdde187f9abbe15"), looks := false }, kinds := [], alts := [], laidByText := true, laidKinds := [.data, .widerDeep, .data, .widerDeep], laidTests := true, laidLooks := .later }
def MergeIdentitiesUptoCardSaid : Prop := Claim7.holds Tryz.pinned (.plain (OpenSpec.upto mergeIdentitiesSpec)) mergeIdentitiesUptoCard

/-- THE SECOND FORM's CARD OF 'porismlaw34.MergeOps'. -/
def mergeOpsUptoCard : Claim7 := { stood := { row := mergeOpsUptoRow, standIns := [], harness := (true, "0e38b02a15147930d4d90b02833867985025771f0dd3f7faecdde187f9abbe15"), looks := false }, kinds := [], alts := [], laidByText := true, laidKinds := [.data, .widerDeep, .data, .widerDeep], laidTests := true, laidLooks := .later }
def MergeOpsUptoCardSaid : Prop := Claim7.holds Tryz.pinned (.plain (OpenSpec.upto mergeOpsSpec)) mergeOpsUptoCard

/-- THE SECOND FORM's CARD OF 'porismlaw34.MergeIndependent'. -/
def mergeIndependentUptoCard : Claim7 := { stood := { row := mergeIndependentUptoRow, standIns := [], harness := (true, "0e38b02a15147930d4d90b02833867985025771f0dd3f7faecdde187f9abbe15"), looks := false }, kinds := [], alts := [], laidByText := true, laidKinds := [.data, .widerDeep, .data, .widerDeep], laidTests := true, laidLooks := .later }
def MergeIndependentUptoCardSaid : Prop := Claim7.holds Tryz.pinned (.plain (OpenSpec.upto mergeIndependentSpec)) mergeIndependentUptoCard

/-- THE SECOND FORM's CARD OF 'porismlaw34.MergeCommits'. -/
def mergeCommitsUptoCard : Claim7 := { stood := { row := mergeCommitsUptoRow, standIns := [], harness := (true, "0e38b02a15147930d4d90b02833867985025771f0dd3f7faecdde187f9abbe15"), looks := false }, kinds := [], alts := [], laidByText := true, laidKinds := [.data, .widerDeep, .data, .widerDeep], laidTests := true, laidLooks := .later }
def MergeCommitsUptoCardSaid : Prop := Claim7.holds Tryz.pinned (.plain (OpenSpec.upto mergeCommitsSpec)) mergeCommitsUptoCard

/-- THE SECOND FORM's CARD OF 'porismlaw34.MergePoints'. -/
def mergePointsUptoCard : Claim7 := { stood := { row := mergePointsUptoRow, standIns := [], harness := (true, "0e38b02a15147930d4d90b02833867985025771f0dd3f7faecdde187f9abbe15"), looks := false }, kinds := [], alts := [], laidByText := true, laidKinds := [.data, .widerDeep, .data, .widerDeep], laidTests := true, laidLooks := .later }
def MergePointsUptoCardSaid : Prop := Claim7.holds Tryz.pinned (.plain (OpenSpec.upto mergePointsSpec)) mergePointsUptoCard
end Rows
end Go.Proofs.YtlcjmejclpilhaaGreatDoor
