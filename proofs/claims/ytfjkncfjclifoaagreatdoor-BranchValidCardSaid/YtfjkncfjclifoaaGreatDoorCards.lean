/-
  DERIVED. GIVEN WITH THE SEED: THE CARDS: each row of YtfjkncfjclifoaaGreatDoorRows.lean that lists a variable, with what it lists TIED to the program's text (the seventh form; the later family's looks); each row that meets fmt, with fmt's text TOLD by the authors' own Lean function (tested against real Go, not proved from fmt's source: count such statements apart). THE CARD IS WHAT COUNTS. Prove the row's statement (the work); the ties are given (YtfjkncfjclifoaaGreatDoorTie.lean); close each card by the builder's one call (the guide's Derived/Test/ToyasCard.lean, 'card_holds'). Laid BY PROGRAM, IN A SANDBOX (cutbox-door.mjs). By AI agents, Wed Nov 11 2026. No macro, syntax, notation, axiom, sorry.
-/
import Derived.Test.YtfjkncfjclifoaaGreatDoorRows
import GoSem.ClaimSeven
namespace Go.Proofs.YtfjkncfjclifoaaGreatDoor
namespace Rows

/-- THE TIED CARD OF 'porismlaw33.BranchIsolated'. -/
def branchIsolatedCard : Claim7 := { stood := { row := branchIsolatedRow, standIns := [], harness := (true, "b357607866b333e521b0c846016e96bbcd32f8d31f0cad443502b2b688c60ddf"), looks := false }, kinds := [], alts := [], laidByText := true, laidKinds := [.data, .widerDeep, .widerDeep], laidTests := true, laidLooks := .later }
def BranchIsolatedCardSaid : Prop := Claim7.holds Tryz.pinned (.plain (OpenSpec.ofChange branchIsolatedSpec)) branchIsolatedCard

/-- THE TIED CARD OF 'porismlaw33.BranchValid'. -/
def branchValidCard : Claim7 := { stood := { row := branchValidRow, standIns := [], harness := (true, "b357607866b333e521b0c846016e96bbcd32f8d31f0cad443502b2b688c60ddf"), looks := false }, kinds := [], alts := [], laidByText := true, laidKinds := [.data, .widerDeep, .widerDeep], laidTests := true, laidLooks := .later }
def BranchValidCardSaid : Prop := Claim7.holds Tryz.pinned (.plain (OpenSpec.ofChange branchValidSpec)) branchValidCard

/-- THE TIED CARD OF 'porismlaw33.BranchAncestors'. -/
def branchAncestorsCard : Claim7 := { stood := { row := branchAncestorsRow, standIns := [], harness := (true, "b357607866b333e521b0c846016e96bbcd32f8d31f0cad443502b2b688c60ddf"), looks := false }, kinds := [], alts := [], laidByText := true, laidKinds := [.data, .widerDeep, .widerDeep], laidTests := true, laidLooks := .later }
def BranchAncestorsCardSaid : Prop := Claim7.holds Tryz.pinned (.plain (OpenSpec.ofChange branchAncestorsSpec)) branchAncestorsCard

/-- THE TIED CARD OF 'porismlaw33.BranchForks'. -/
def branchForksCard : Claim7 := { stood := { row := branchForksRow, standIns := [], harness := (true, "b357607866b333e521b0c846016e96bbcd32f8d31f0cad443502b2b688c60ddf"), looks := false }, kinds := [], alts := [], laidByText := true, laidKinds := [.data, .widerDeep, .widerDeep], laidTests := true, laidLooks := .later }
def BranchForksCardSaid : Prop := Claim7.holds Tryz.pinned (.plain (OpenSpec.ofChange branchForksSpec)) branchForksCard

/-- THE TIED CARD OF 'porismlaw33.BranchIndependent'. -/
def branchIndependentCard : Claim7 := { stood := { row := branchIndependentRow, standIns := [], harness := (true, "b357607866b333e521b0c846016e96bbcd32f8d31f0cad443502b2b688c60ddf"), looks := false }, kinds := [], alts := [], laidByText := true, laidKinds := [.data, .widerDeep, .widerDeep], laidTests := true, laidLooks := .later }
def BranchIndependentCardSaid : Prop := Claim7.holds Tryz.pinned (.plain (OpenSpec.ofChange branchIndependentSpec)) branchIndependentCard

/-- THE TIED CARD OF 'porismlaw33.BranchMeets'. -/
def branchMeetsCard : Claim7 := { stood := { row := branchMeetsRow, standIns := [], harness := (true, "b357607866b333e521b0c846016e96bbcd32f8d31f0cad443502b2b688c60ddf"), looks := false }, kinds := [], alts := [], laidByText := true, laidKinds := [.data, .widerDeep, .widerDeep], laidTests := true, laidLooks := .later }
def BranchMeetsCardSaid : Prop := Claim7.holds Tryz.pinned (.plain (OpenSpec.ofChange branchMeetsSpec)) branchMeetsCard

/-- THE SECOND FORM's CARD OF 'porismlaw33.BranchIsolated'. -/
def branchIsolatedUptoCard : Claim7 := { stood := { row := branchIsolatedUptoRow, standIns := [], harness := (true, "b357607866b333e521b0c846016e96bbcd32f8d31f0cad443502b2b688c60ddf"), looks := false }, kinds := [], alts := [], laidByText := true, laidKinds := [.data, .widerDeep, .widerDeep], laidTests := true, laidLooks := .later }
def BranchIsolatedUptoCardSaid : Prop := Claim7.holds Tryz.pinned (.plain (OpenSpec.upto branchIsolatedSpec)) branchIsolatedUptoCard

/-- THE SECOND FORM's CARD OF 'porismlaw33.BranchValid'. -/
def branchValidUptoCard : Claim7 := { stood := { row := branchValidUptoRow, standIns := [], harness := (true, "b357607866b333e521b0c846016e96bbcd32f8d31f0cad443502b2b688c60ddf"), looks := false }, kinds := [], alts := [], laidByText := true, laidKinds := [.data, .widerDeep, .widerDeep], laidTests := true, laidLooks := .later }
def BranchValidUptoCardSaid : Prop := Claim7.holds Tryz.pinned (.plain (OpenSpec.upto branchValidSpec)) branchValidUptoCard

/-- THE SECOND FORM's CARD OF 'porismlaw33.BranchAncestors'. -/
def branchAncestorsUptoCard : Claim7 := { stood := { row := branchAncestorsUptoRow, standIns := [], harness := (true, "b357607866b333e521b0c846016e96bbcd32f8d31f0cad443502b2b688c60ddf"), looks := false }, kinds := [], alts := [], laidByText := true, laidKinds := [.data, .widerDeep, .widerDeep], laidTests := true, laidLooks := .later }
def BranchAncestorsUptoCardSaid : Prop := Claim7.holds Tryz.pinned (.plain (OpenSpec.upto branchAncestorsSpec)) branchAncestorsUptoCard

/-- THE SECOND FORM's CARD OF 'porismlaw33.BranchForks'. -/
def branchForksUptoCard : Claim7 := { stood := { row := branchForksUptoRow, standIns := [], harness := (true, "b357607866b333e521b0c846016e96bbcd32f8d31f0cad443502b2b688c60ddf"), looks := false }, kinds := [], alts := [], laidByText := true, laidKinds := [.data, .widerDeep, .widerDeep], laidTests := true, laidLooks := .later }
def BranchForksUptoCardSaid : Prop := Claim7.holds Tryz.pinned (.plain (OpenSpec.upto branchForksSpec)) branchForksUptoCard

/-- THE SECOND FORM's CARD OF 'porismlaw33.BranchIndependent'. -/
def branchIndependentUptoCard : Claim7 := { stood := { row := branchIndependentUptoRow, standIns := [], harness := (true, "b357607866b333e521b0c846016e96bbcd32f8d31f0cad443502b2b688c60ddf"), looks := false }, kinds := [], alts := [], laidByText := true, laidKinds := [.data, .widerDeep, .widerDeep], laidTests := true, laidLooks := .later }
def BranchIndependentUptoCardSaid : Prop := Claim7.holds Tryz.pinned (.plain (OpenSpec.upto branchIndependentSpec)) branchIndependentUptoCard

/-- THE SECOND FORM's CARD OF 'porismlaw33.BranchMeets'. -/
def branchMeetsUptoCard : Claim7 := { stood := { row := branchMeetsUptoRow, standIns := [], harness := (true, "b357607866b333e521b0c846016e96bbcd32f8d31f0cad443502b2b688c60ddf"), looks := false }, kinds := [], alts := [], laidByText := true, laidKinds := [.data, .widerDeep, .widerDeep], laidTests := true, laidLooks := .later }
def BranchMeetsUptoCardSaid : Prop := Claim7.holds Tryz.pinned (.plain (OpenSpec.upto branchMeetsSpec)) branchMeetsUptoCard
end Rows
end Go.Proofs.YtfjkncfjclifoaaGreatDoor
