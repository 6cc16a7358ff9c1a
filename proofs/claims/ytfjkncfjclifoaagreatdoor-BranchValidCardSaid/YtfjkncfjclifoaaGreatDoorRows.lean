/-
  NARROWER THAN 'FOR EVERY INPUT', by the rows' own cells (each row's printed sentence says how): BranchIsolated: laid · BranchValid: laid · BranchAncestors: laid · BranchForks: laid · BranchIndependent: laid · BranchMeets: laid.
  DERIVED. THE GIVEN ROWS OF THIS SEAT. 6 by the template 'for every input the law returns true; each argument reads behind the call as it read before'; 0 by the template 'total and deterministic' (their statements: YtfjkncfjclifoaaGreatDoorTotals.lean).
  GIVEN WITH THE SEED: the statements are not yours to turn. If you find one false, say at which input.
  Laid BY PROGRAM, IN A SANDBOX (cutbox-rows.mjs): the forced cells as the released guide's own fill.sh prints them over the translation 61510b63245286c4… (all of the seat's roots in one cut). By AI agents, Wed Nov 11 2026. No macro, syntax, notation, axiom, sorry.
-/
import Derived.Test.YtfjkncfjclifoaaGreatDoorChecked
import GoSem.Claim
import GoSem.ClaimJoined
import GoSem.ClaimMapViews
import Derived.JoinedTies
import Derived.KernelRfl
namespace Go.Proofs.YtfjkncfjclifoaaGreatDoor
/- THE CELL 'sum', in the pinned program and in every row, IS THE sha256 OF THE DUMP (.gsa) THAT YtfjkncfjclifoaaGreatDoorProg.lean LOADS. Nothing in Lean hashes anything: it is a label: what it is worth is what the hold of that sum in a sandbox is worth. -/
noncomputable def Tryz.pinned : Pinned := { name := "ytfjkncfjclifoaagreatdoor", sum := "61510b63245286c41d89b8ed8bd5442d14f6eadca50504e01c6ab7d5e90c0e2c", checked := Tryz.checked }
namespace Rows
def none {H : Type} : Left H := { results := [], args := [] }

/- WHAT THE LISTED PACKAGE-LEVEL VARIABLES READ AS WHEN THE CALL BEGINS. Each datum BY PROGRAM (the guide's laid-datum.mjs) off the statement by which the dump's own 'gosem.cut.vars' lays the variable. In a bare row this is a premise. The card (YtfjkncfjclifoaaGreatDoorCards.lean) ties it to the program's text. -/
def laid_math_bits_deBruijn64tab {H : Type} : DataW H := .agg [.lit (.int .u8 0), .lit (.int .u8 1), .lit (.int .u8 56), .lit (.int .u8 2), .lit (.int .u8 57), .lit (.int .u8 49), .lit (.int .u8 28), .lit (.int .u8 3), .lit (.int .u8 61), .lit (.int .u8 58), .lit (.int .u8 42), .lit (.int .u8 50), .lit (.int .u8 38), .lit (.int .u8 29), .lit (.int .u8 17), .lit (.int .u8 4), .lit (.int .u8 62), .lit (.int .u8 47), .lit (.int .u8 59), .lit (.int .u8 36), .lit (.int .u8 45), .lit (.int .u8 43), .lit (.int .u8 51), .lit (.int .u8 22), .lit (.int .u8 53), .lit (.int .u8 39), .lit (.int .u8 33), .lit (.int .u8 30), .lit (.int .u8 24), .lit (.int .u8 18), .lit (.int .u8 12), .lit (.int .u8 5), .lit (.int .u8 63), .lit (.int .u8 55), .lit (.int .u8 48), .lit (.int .u8 27), .lit (.int .u8 60), .lit (.int .u8 41), .lit (.int .u8 37), .lit (.int .u8 16), .lit (.int .u8 46), .lit (.int .u8 35), .lit (.int .u8 44), .lit (.int .u8 21), .lit (.int .u8 52), .lit (.int .u8 32), .lit (.int .u8 23), .lit (.int .u8 11), .lit (.int .u8 54), .lit (.int .u8 26), .lit (.int .u8 40), .lit (.int .u8 15), .lit (.int .u8 34), .lit (.int .u8 20), .lit (.int .u8 31), .lit (.int .u8 10), .lit (.int .u8 25), .lit (.int .u8 14), .lit (.int .u8 19), .lit (.int .u8 9), .lit (.int .u8 13), .lit (.int .u8 8), .lit (.int .u8 7), .lit (.int .u8 6)]
def laid_porism_lattice_keys {H : Type} : DataW H := .slice [.lit (.string [108, 97, 116, 116, 105, 99, 101]), .lit (.string [102, 117, 110, 99, 116, 105, 111, 110]), .lit (.string [111, 110]), .lit (.string [98, 97, 115, 101]), .lit (.string [118, 105, 101, 119]), .lit (.string [107, 101, 121]), .lit (.string [100, 101, 110, 121]), .lit (.string [110, 111, 116]), .lit (.string [105, 110, 116]), .lit (.string [115, 121, 109])] []
def laid_porism_value_words {H : Type} : DataW H := .agg [.lit (.string [108, 97, 116, 116, 105, 99, 101]), .lit (.string [102, 117, 110, 99, 116, 105, 111, 110]), .lit (.string [111, 110]), .lit (.string [98, 97, 115, 101]), .lit (.string [118, 105, 101, 119]), .lit (.string [107, 101, 121]), .lit (.string [100, 101, 110, 121]), .lit (.string [110, 111, 116]), .lit (.string [105, 110, 116]), .lit (.string [115, 121, 109])]

/-- 'porismlaw33.BranchIsolated': WHATEVER THE INPUT: true; the input reads as it did. -/
def branchIsolatedSpec : ChangeSpec := { name := "branchIsolated", fn := fun _ => fun
  | [d1, d2, d3, d4, d5] => { results := [.lit (.bool true)], args := [d1, d2, d3, d4, d5] }
  | _ => none }
def branchIsolatedRow : OpenClaim := { program := "ytfjkncfjclifoaagreatdoor", sum := "61510b63245286c41d89b8ed8bd5442d14f6eadca50504e01c6ab7d5e90c0e2c", func := "porism/porismlaw33.BranchIsolated", spec := "branchIsolated", unfollowed := true, recurses := true, named := ["porism/value.words", "porism/lattice.keys", "math/bits.deBruijn64tab"], apart := false, laid := [("math/bits.deBruijn64tab", laid_math_bits_deBruijn64tab), ("porism/lattice.keys", laid_porism_lattice_keys), ("porism/value.words", laid_porism_value_words)] }
def BranchIsolatedSaid : Prop := branchIsolatedRow.holds Tryz.pinned (OpenSpec.ofChange branchIsolatedSpec)

/-- ITS FALSE NEIGHBOUR: 'it returns false'. Refute it at one input. -/
def branchIsolatedWrong : ChangeSpec := { name := "branchIsolated", fn := fun _ => fun
  | [d1, d2, d3, d4, d5] => { results := [.lit (.bool false)], args := [d1, d2, d3, d4, d5] }
  | _ => none }
def BranchIsolatedWrongFalsely : Prop := branchIsolatedRow.holds Tryz.pinned (OpenSpec.ofChange branchIsolatedWrong)

/-- 'porismlaw33.BranchValid': WHATEVER THE INPUT: true; the input reads as it did. -/
def branchValidSpec : ChangeSpec := { name := "branchValid", fn := fun _ => fun
  | [d1, d2, d3, d4, d5, d6] => { results := [.lit (.bool true)], args := [d1, d2, d3, d4, d5, d6] }
  | _ => none }
def branchValidRow : OpenClaim := { program := "ytfjkncfjclifoaagreatdoor", sum := "61510b63245286c41d89b8ed8bd5442d14f6eadca50504e01c6ab7d5e90c0e2c", func := "porism/porismlaw33.BranchValid", spec := "branchValid", unfollowed := true, recurses := true, named := ["porism/value.words", "porism/lattice.keys", "math/bits.deBruijn64tab"], apart := false, laid := [("math/bits.deBruijn64tab", laid_math_bits_deBruijn64tab), ("porism/lattice.keys", laid_porism_lattice_keys), ("porism/value.words", laid_porism_value_words)] }
def BranchValidSaid : Prop := branchValidRow.holds Tryz.pinned (OpenSpec.ofChange branchValidSpec)

/-- ITS FALSE NEIGHBOUR: 'it returns false'. Refute it at one input. -/
def branchValidWrong : ChangeSpec := { name := "branchValid", fn := fun _ => fun
  | [d1, d2, d3, d4, d5, d6] => { results := [.lit (.bool false)], args := [d1, d2, d3, d4, d5, d6] }
  | _ => none }
def BranchValidWrongFalsely : Prop := branchValidRow.holds Tryz.pinned (OpenSpec.ofChange branchValidWrong)

/-- 'porismlaw33.BranchAncestors': WHATEVER THE INPUT: true; the input reads as it did. -/
def branchAncestorsSpec : ChangeSpec := { name := "branchAncestors", fn := fun _ => fun
  | [d1, d2, d3] => { results := [.lit (.bool true)], args := [d1, d2, d3] }
  | _ => none }
def branchAncestorsRow : OpenClaim := { program := "ytfjkncfjclifoaagreatdoor", sum := "61510b63245286c41d89b8ed8bd5442d14f6eadca50504e01c6ab7d5e90c0e2c", func := "porism/porismlaw33.BranchAncestors", spec := "branchAncestors", unfollowed := true, recurses := true, named := ["porism/value.words", "porism/lattice.keys", "math/bits.deBruijn64tab"], apart := false, laid := [("math/bits.deBruijn64tab", laid_math_bits_deBruijn64tab), ("porism/lattice.keys", laid_porism_lattice_keys), ("porism/value.words", laid_porism_value_words)] }
def BranchAncestorsSaid : Prop := branchAncestorsRow.holds Tryz.pinned (OpenSpec.ofChange branchAncestorsSpec)

/-- ITS FALSE NEIGHBOUR: 'it returns false'. Refute it at one input. -/
def branchAncestorsWrong : ChangeSpec := { name := "branchAncestors", fn := fun _ => fun
  | [d1, d2, d3] => { results := [.lit (.bool false)], args := [d1, d2, d3] }
  | _ => none }
def BranchAncestorsWrongFalsely : Prop := branchAncestorsRow.holds Tryz.pinned (OpenSpec.ofChange branchAncestorsWrong)

/-- 'porismlaw33.BranchForks': WHATEVER THE INPUT: true; the input reads as it did. -/
def branchForksSpec : ChangeSpec := { name := "branchForks", fn := fun _ => fun
  | [d1, d2, d3, d4, d5] => { results := [.lit (.bool true)], args := [d1, d2, d3, d4, d5] }
  | _ => none }
def branchForksRow : OpenClaim := { program := "ytfjkncfjclifoaagreatdoor", sum := "61510b63245286c41d89b8ed8bd5442d14f6eadca50504e01c6ab7d5e90c0e2c", func := "porism/porismlaw33.BranchForks", spec := "branchForks", unfollowed := true, recurses := true, named := ["porism/value.words", "porism/lattice.keys", "math/bits.deBruijn64tab"], apart := false, laid := [("math/bits.deBruijn64tab", laid_math_bits_deBruijn64tab), ("porism/lattice.keys", laid_porism_lattice_keys), ("porism/value.words", laid_porism_value_words)] }
def BranchForksSaid : Prop := branchForksRow.holds Tryz.pinned (OpenSpec.ofChange branchForksSpec)

/-- ITS FALSE NEIGHBOUR: 'it returns false'. Refute it at one input. -/
def branchForksWrong : ChangeSpec := { name := "branchForks", fn := fun _ => fun
  | [d1, d2, d3, d4, d5] => { results := [.lit (.bool false)], args := [d1, d2, d3, d4, d5] }
  | _ => none }
def BranchForksWrongFalsely : Prop := branchForksRow.holds Tryz.pinned (OpenSpec.ofChange branchForksWrong)

/-- 'porismlaw33.BranchIndependent': WHATEVER THE INPUT: true; the input reads as it did. -/
def branchIndependentSpec : ChangeSpec := { name := "branchIndependent", fn := fun _ => fun
  | [d1, d2, d3, d4, d5, d6] => { results := [.lit (.bool true)], args := [d1, d2, d3, d4, d5, d6] }
  | _ => none }
def branchIndependentRow : OpenClaim := { program := "ytfjkncfjclifoaagreatdoor", sum := "61510b63245286c41d89b8ed8bd5442d14f6eadca50504e01c6ab7d5e90c0e2c", func := "porism/porismlaw33.BranchIndependent", spec := "branchIndependent", unfollowed := true, recurses := true, named := ["porism/value.words", "porism/lattice.keys", "math/bits.deBruijn64tab"], apart := false, laid := [("math/bits.deBruijn64tab", laid_math_bits_deBruijn64tab), ("porism/lattice.keys", laid_porism_lattice_keys), ("porism/value.words", laid_porism_value_words)] }
def BranchIndependentSaid : Prop := branchIndependentRow.holds Tryz.pinned (OpenSpec.ofChange branchIndependentSpec)

/-- ITS FALSE NEIGHBOUR: 'it returns false'. Refute it at one input. -/
def branchIndependentWrong : ChangeSpec := { name := "branchIndependent", fn := fun _ => fun
  | [d1, d2, d3, d4, d5, d6] => { results := [.lit (.bool false)], args := [d1, d2, d3, d4, d5, d6] }
  | _ => none }
def BranchIndependentWrongFalsely : Prop := branchIndependentRow.holds Tryz.pinned (OpenSpec.ofChange branchIndependentWrong)

/-- 'porismlaw33.BranchMeets': WHATEVER THE INPUT: true; the input reads as it did. -/
def branchMeetsSpec : ChangeSpec := { name := "branchMeets", fn := fun _ => fun
  | [d1, d2, d3, d4, d5, d6] => { results := [.lit (.bool true)], args := [d1, d2, d3, d4, d5, d6] }
  | _ => none }
def branchMeetsRow : OpenClaim := { program := "ytfjkncfjclifoaagreatdoor", sum := "61510b63245286c41d89b8ed8bd5442d14f6eadca50504e01c6ab7d5e90c0e2c", func := "porism/porismlaw33.BranchMeets", spec := "branchMeets", unfollowed := true, recurses := true, named := ["porism/value.words", "porism/lattice.keys", "math/bits.deBruijn64tab"], apart := false, laid := [("math/bits.deBruijn64tab", laid_math_bits_deBruijn64tab), ("porism/lattice.keys", laid_porism_lattice_keys), ("porism/value.words", laid_porism_value_words)] }
def BranchMeetsSaid : Prop := branchMeetsRow.holds Tryz.pinned (OpenSpec.ofChange branchMeetsSpec)

/-- ITS FALSE NEIGHBOUR: 'it returns false'. Refute it at one input. -/
def branchMeetsWrong : ChangeSpec := { name := "branchMeets", fn := fun _ => fun
  | [d1, d2, d3, d4, d5, d6] => { results := [.lit (.bool false)], args := [d1, d2, d3, d4, d5, d6] }
  | _ => none }
def BranchMeetsWrongFalsely : Prop := branchMeetsRow.holds Tryz.pinned (OpenSpec.ofChange branchMeetsWrong)

/- THE SECOND FORM. 'bulk': how many values and letters a reading holds, each counted each time it is reached (what is shared counts as often as it is met; a slice's spare places count too). A statement '..UptoSaid' is the law's where the arguments, and the package variables that the reading takes, are together of bulk at most 1048576: NARROWER than '..Said'. Prove '..Said' where nothing that the law and all that it calls make is longer than what came in: it says more and counts as full. Else prove '..UptoSaid'. A law counts once. -/
mutual
def uptoBulk {H : Type} : DataW H → Nat
  | .lit (.string bytes) => bytes.length + 1
  | .lit _ => 1
  | .nil => 1
  | .ptr d => uptoBulk d + 1
  | .slice elems spare => uptoBulkAll elems + uptoBulkAll spare + 1
  | .agg parts => uptoBulkAll parts + 1
  | .iface _ d => uptoBulk d + 1
  | .map entries => uptoBulkEntries entries + 1
  | .held _ => 1
def uptoBulkAll {H : Type} : List (DataW H) → Nat
  | [] => 0
  | d :: r => uptoBulk d + uptoBulkAll r
def uptoBulkEntries {H : Type} : List (Lit × DataW H) → Nat
  | [] => 0
  | x :: r => uptoBulkEntry x + uptoBulkEntries r
def uptoBulkEntry {H : Type} : Lit × DataW H → Nat
  | (.string bytes, d) => bytes.length + uptoBulk d + 1
  | (_, d) => uptoBulk d + 1
 end
def uptoSmall : (H : Type) → List (DataW H) → Bool := fun _ ds => decide (uptoBulkAll ds ≤ 1048576)
def OpenSpec.upto (s : _root_.Go.ChangeSpec) : _root_.Go.OpenSpec := { _root_.Go.OpenSpec.ofChange s with cond := some uptoSmall }

/-- 'porismlaw33.BranchIsolated', WHERE WHAT IT READS IS OF BULK AT MOST 1048576: true; the input reads as it did. -/
def branchIsolatedUptoRow : OpenClaim := { program := "ytfjkncfjclifoaagreatdoor", sum := "61510b63245286c41d89b8ed8bd5442d14f6eadca50504e01c6ab7d5e90c0e2c", func := "porism/porismlaw33.BranchIsolated", spec := "branchIsolated", unfollowed := true, recurses := true, named := ["porism/value.words", "porism/lattice.keys", "math/bits.deBruijn64tab"], apart := false, laid := [("math/bits.deBruijn64tab", laid_math_bits_deBruijn64tab), ("porism/lattice.keys", laid_porism_lattice_keys), ("porism/value.words", laid_porism_value_words)], narrowed := true }
def BranchIsolatedUptoSaid : Prop := branchIsolatedUptoRow.holds Tryz.pinned (OpenSpec.upto branchIsolatedSpec)

/-- 'porismlaw33.BranchValid', WHERE WHAT IT READS IS OF BULK AT MOST 1048576: true; the input reads as it did. -/
def branchValidUptoRow : OpenClaim := { program := "ytfjkncfjclifoaagreatdoor", sum := "61510b63245286c41d89b8ed8bd5442d14f6eadca50504e01c6ab7d5e90c0e2c", func := "porism/porismlaw33.BranchValid", spec := "branchValid", unfollowed := true, recurses := true, named := ["porism/value.words", "porism/lattice.keys", "math/bits.deBruijn64tab"], apart := false, laid := [("math/bits.deBruijn64tab", laid_math_bits_deBruijn64tab), ("porism/lattice.keys", laid_porism_lattice_keys), ("porism/value.words", laid_porism_value_words)], narrowed := true }
def BranchValidUptoSaid : Prop := branchValidUptoRow.holds Tryz.pinned (OpenSpec.upto branchValidSpec)

/-- 'porismlaw33.BranchAncestors', WHERE WHAT IT READS IS OF BULK AT MOST 1048576: true; the input reads as it did. -/
def branchAncestorsUptoRow : OpenClaim := { program := "ytfjkncfjclifoaagreatdoor", sum := "61510b63245286c41d89b8ed8bd5442d14f6eadca50504e01c6ab7d5e90c0e2c", func := "porism/porismlaw33.BranchAncestors", spec := "branchAncestors", unfollowed := true, recurses := true, named := ["porism/value.words", "porism/lattice.keys", "math/bits.deBruijn64tab"], apart := false, laid := [("math/bits.deBruijn64tab", laid_math_bits_deBruijn64tab), ("porism/lattice.keys", laid_porism_lattice_keys), ("porism/value.words", laid_porism_value_words)], narrowed := true }
def BranchAncestorsUptoSaid : Prop := branchAncestorsUptoRow.holds Tryz.pinned (OpenSpec.upto branchAncestorsSpec)

/-- 'porismlaw33.BranchForks', WHERE WHAT IT READS IS OF BULK AT MOST 1048576: true; the input reads as it did. -/
def branchForksUptoRow : OpenClaim := { program := "ytfjkncfjclifoaagreatdoor", sum := "61510b63245286c41d89b8ed8bd5442d14f6eadca50504e01c6ab7d5e90c0e2c", func := "porism/porismlaw33.BranchForks", spec := "branchForks", unfollowed := true, recurses := true, named := ["porism/value.words", "porism/lattice.keys", "math/bits.deBruijn64tab"], apart := false, laid := [("math/bits.deBruijn64tab", laid_math_bits_deBruijn64tab), ("porism/lattice.keys", laid_porism_lattice_keys), ("porism/value.words", laid_porism_value_words)], narrowed := true }
def BranchForksUptoSaid : Prop := branchForksUptoRow.holds Tryz.pinned (OpenSpec.upto branchForksSpec)

/-- 'porismlaw33.BranchIndependent', WHERE WHAT IT READS IS OF BULK AT MOST 1048576: true; the input reads as it did. -/
def branchIndependentUptoRow : OpenClaim := { program := "ytfjkncfjclifoaagreatdoor", sum := "61510b63245286c41d89b8ed8bd5442d14f6eadca50504e01c6ab7d5e90c0e2c", func := "porism/porismlaw33.BranchIndependent", spec := "branchIndependent", unfollowed := true, recurses := true, named := ["porism/value.words", "porism/lattice.keys", "math/bits.deBruijn64tab"], apart := false, laid := [("math/bits.deBruijn64tab", laid_math_bits_deBruijn64tab), ("porism/lattice.keys", laid_porism_lattice_keys), ("porism/value.words", laid_porism_value_words)], narrowed := true }
def BranchIndependentUptoSaid : Prop := branchIndependentUptoRow.holds Tryz.pinned (OpenSpec.upto branchIndependentSpec)

/-- 'porismlaw33.BranchMeets', WHERE WHAT IT READS IS OF BULK AT MOST 1048576: true; the input reads as it did. -/
def branchMeetsUptoRow : OpenClaim := { program := "ytfjkncfjclifoaagreatdoor", sum := "61510b63245286c41d89b8ed8bd5442d14f6eadca50504e01c6ab7d5e90c0e2c", func := "porism/porismlaw33.BranchMeets", spec := "branchMeets", unfollowed := true, recurses := true, named := ["porism/value.words", "porism/lattice.keys", "math/bits.deBruijn64tab"], apart := false, laid := [("math/bits.deBruijn64tab", laid_math_bits_deBruijn64tab), ("porism/lattice.keys", laid_porism_lattice_keys), ("porism/value.words", laid_porism_value_words)], narrowed := true }
def BranchMeetsUptoSaid : Prop := branchMeetsUptoRow.holds Tryz.pinned (OpenSpec.upto branchMeetsSpec)

end Rows
end Go.Proofs.YtfjkncfjclifoaaGreatDoor
