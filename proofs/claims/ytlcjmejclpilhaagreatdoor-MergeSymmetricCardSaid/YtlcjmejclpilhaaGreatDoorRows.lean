/-
  NARROWER THAN 'FOR EVERY INPUT', by the rows' own cells (each row's printed sentence says how): MergeSymmetric: laid · MergeIdentities: laid · MergeOps: laid · MergeIndependent: laid · MergeCommits: laid · MergePoints: laid.
  DERIVED. THE GIVEN ROWS OF THIS SEAT. 6 by the template 'for every input the law returns true; each argument reads behind the call as it read before'; 0 by the template 'total and deterministic' (their statements: YtlcjmejclpilhaaGreatDoorTotals.lean).
  GIVEN WITH THE SEED: the statements are not yours to turn. If you find one false, say at which input.
  Laid BY PROGRAM, IN A SANDBOX (cutbox-rows.mjs): the forced cells as the released guide's own fill.sh prints them over the translation 378d5ded9a9a5e8d… (all of the seat's roots in one cut). By AI agents, Wed Nov 11 2026. No macro, syntax, notation, axiom, sorry.
-/
import Derived.Test.YtlcjmejclpilhaaGreatDoorChecked
import GoSem.Claim
import GoSem.ClaimJoined
import GoSem.ClaimMapViews
import Derived.JoinedTies
import Derived.KernelRfl
namespace Go.Proofs.YtlcjmejclpilhaaGreatDoor
/- THE CELL 'sum', in the pinned program and in every row, IS THE sha256 OF THE DUMP (.gsa) THAT YtlcjmejclpilhaaGreatDoorProg.lean LOADS. Nothing in Lean hashes anything: it is a label: what it is worth is what the hold of that sum in a sandbox is worth. -/
noncomputable def Tryz.pinned : Pinned := { name := "ytlcjmejclpilhaagreatdoor", sum := "378d5ded9a9a5e8d45cc803da3bac8f0008656b3a2884320a7f1f81de55e95db", checked := Tryz.checked }
namespace Rows
def none {H : Type} : Left H := { results := [], args := [] }

/- WHAT THE LISTED PACKAGE-LEVEL VARIABLES READ AS WHEN THE CALL BEGINS. Each datum BY PROGRAM (the guide's laid-datum.mjs) off the statement by which the dump's own 'gosem.cut.vars' lays the variable. In a bare row this is a premise. The card (YtlcjmejclpilhaaGreatDoorCards.lean) ties it to the program's text. -/
def laid_math_bits_deBruijn64tab {H : Type} : DataW H := .agg [.lit (.int .u8 0), .lit (.int .u8 1), .lit (.int .u8 56), .lit (.int .u8 2), .lit (.int .u8 57), .lit (.int .u8 49), .lit (.int .u8 28), .lit (.int .u8 3), .lit (.int .u8 61), .lit (.int .u8 58), .lit (.int .u8 42), .lit (.int .u8 50), .lit (.int .u8 38), .lit (.int .u8 29), .lit (.int .u8 17), .lit (.int .u8 4), .lit (.int .u8 62), .lit (.int .u8 47), .lit (.int .u8 59), .lit (.int .u8 36), .lit (.int .u8 45), .lit (.int .u8 43), .lit (.int .u8 51), .lit (.int .u8 22), .lit (.int .u8 53), .lit (.int .u8 39), .lit (.int .u8 33), .lit (.int .u8 30), .lit (.int .u8 24), .lit (.int .u8 18), .lit (.int .u8 12), .lit (.int .u8 5), .lit (.int .u8 63), .lit (.int .u8 55), .lit (.int .u8 48), .lit (.int .u8 27), .lit (.int .u8 60), .lit (.int .u8 41), .lit (.int .u8 37), .lit (.int .u8 16), .lit (.int .u8 46), .lit (.int .u8 35), .lit (.int .u8 44), .lit (.int .u8 21), .lit (.int .u8 52), .lit (.int .u8 32), .lit (.int .u8 23), .lit (.int .u8 11), .lit (.int .u8 54), .lit (.int .u8 26), .lit (.int .u8 40), .lit (.int .u8 15), .lit (.int .u8 34), .lit (.int .u8 20), .lit (.int .u8 31), .lit (.int .u8 10), .lit (.int .u8 25), .lit (.int .u8 14), .lit (.int .u8 19), .lit (.int .u8 9), .lit (.int .u8 13), .lit (.int .u8 8), .lit (.int .u8 7), .lit (.int .u8 6)]
def laid_porism_lattice_keys {H : Type} : DataW H := .slice [.lit (.string [108, 97, 116, 116, 105, 99, 101]), .lit (.string [102, 117, 110, 99, 116, 105, 111, 110]), .lit (.string [111, 110]), .lit (.string [98, 97, 115, 101]), .lit (.string [118, 105, 101, 119]), .lit (.string [107, 101, 121]), .lit (.string [100, 101, 110, 121]), .lit (.string [110, 111, 116]), .lit (.string [105, 110, 116]), .lit (.string [115, 121, 109])] []
def laid_porism_porismref03_Keys {H : Type} : DataW H := .slice [.lit (.string [108, 97, 116, 116, 105, 99, 101]), .lit (.string [102, 117, 110, 99, 116, 105, 111, 110]), .lit (.string [111, 110]), .lit (.string [98, 97, 115, 101]), .lit (.string [118, 105, 101, 119]), .lit (.string [107, 101, 121]), .lit (.string [100, 101, 110, 121]), .lit (.string [110, 111, 116]), .lit (.string [105, 110, 116]), .lit (.string [115, 121, 109])] []
def laid_porism_value_words {H : Type} : DataW H := .agg [.lit (.string [108, 97, 116, 116, 105, 99, 101]), .lit (.string [102, 117, 110, 99, 116, 105, 111, 110]), .lit (.string [111, 110]), .lit (.string [98, 97, 115, 101]), .lit (.string [118, 105, 101, 119]), .lit (.string [107, 101, 121]), .lit (.string [100, 101, 110, 121]), .lit (.string [110, 111, 116]), .lit (.string [105, 110, 116]), .lit (.string [115, 121, 109])]

/-- 'porismlaw34.MergeSymmetric': WHATEVER THE INPUT: true; the input reads as it did. -/
def mergeSymmetricSpec : ChangeSpec := { name := "mergeSymmetric", fn := fun _ => fun
  | [d1, d2, d3, d4] => { results := [.lit (.bool true)], args := [d1, d2, d3, d4] }
  | _ => none }
def mergeSymmetricRow : OpenClaim := { program := "ytlcjmejclpilhaagreatdoor", sum := "378d5ded9a9a5e8d45cc803da3bac8f0008656b3a2884320a7f1f81de55e95db", func := "porism/porismlaw34.MergeSymmetric", spec := "mergeSymmetric", unfollowed := true, recurses := true, named := ["porism/porismref03.Keys", "porism/value.words", "porism/lattice.keys", "math/bits.deBruijn64tab"], plainKeys := false, apart := false, laid := [("math/bits.deBruijn64tab", laid_math_bits_deBruijn64tab), ("porism/lattice.keys", laid_porism_lattice_keys), ("porism/porismref03.Keys", laid_porism_porismref03_Keys), ("porism/value.words", laid_porism_value_words)] }
def MergeSymmetricSaid : Prop := mergeSymmetricRow.holds Tryz.pinned (OpenSpec.ofChange mergeSymmetricSpec)

/-- ITS FALSE NEIGHBOUR: 'it returns false'. Refute it at one input. -/
def mergeSymmetricWrong : ChangeSpec := { name := "mergeSymmetric", fn := fun _ => fun
  | [d1, d2, d3, d4] => { results := [.lit (.bool false)], args := [d1, d2, d3, d4] }
  | _ => none }
def MergeSymmetricWrongFalsely : Prop := mergeSymmetricRow.holds Tryz.pinned (OpenSpec.ofChange mergeSymmetricWrong)

/-- 'porismlaw34.MergeIdentities': WHATEVER THE INPUT: true; the input reads as it did. -/
def mergeIdentitiesSpec : ChangeSpec := { name := "mergeIdentities", fn := fun _ => fun
  | [d1, d2, d3] => { results := [.lit (.bool true)], args := [d1, d2, d3] }
  | _ => none }
def mergeIdentitiesRow : OpenClaim := { program := "ytlcjmejclpilhaagreatdoor", sum := "378d5ded9a9a5e8d45cc803da3bac8f0008656b3a2884320a7f1f81de55e95db", func := "porism/porismlaw34.MergeIdentities", spec := "mergeIdentities", unfollowed := true, recurses := true, named := ["porism/porismref03.Keys", "porism/value.words", "porism/lattice.keys", "math/bits.deBruijn64tab"], plainKeys := false, apart := false, laid := [("math/bits.deBruijn64tab", laid_math_bits_deBruijn64tab), ("porism/lattice.keys", laid_porism_lattice_keys), ("porism/porismref03.Keys", laid_porism_porismref03_Keys), ("porism/value.words", laid_porism_value_words)] }
def MergeIdentitiesSaid : Prop := mergeIdentitiesRow.holds Tryz.pinned (OpenSpec.ofChange mergeIdentitiesSpec)

/-- ITS FALSE NEIGHBOUR: 'it returns false'. Refute it at one input. -/
def mergeIdentitiesWrong : ChangeSpec := { name := "mergeIdentities", fn := fun _ => fun
  | [d1, d2, d3] => { results := [.lit (.bool false)], args := [d1, d2, d3] }
  | _ => none }
def MergeIdentitiesWrongFalsely : Prop := mergeIdentitiesRow.holds Tryz.pinned (OpenSpec.ofChange mergeIdentitiesWrong)

/-- 'porismlaw34.MergeOps': WHATEVER THE INPUT: true; the input reads as it did. -/
def mergeOpsSpec : ChangeSpec := { name := "mergeOps", fn := fun _ => fun
  | [d1, d2, d3] => { results := [.lit (.bool true)], args := [d1, d2, d3] }
  | _ => none }
def mergeOpsRow : OpenClaim := { program := "ytlcjmejclpilhaagreatdoor", sum := "378d5ded9a9a5e8d45cc803da3bac8f0008656b3a2884320a7f1f81de55e95db", func := "porism/porismlaw34.MergeOps", spec := "mergeOps", unfollowed := true, recurses := true, named := ["porism/porismref03.Keys", "porism/value.words", "porism/lattice.keys", "math/bits.deBruijn64tab"], plainKeys := false, apart := false, laid := [("math/bits.deBruijn64tab", laid_math_bits_deBruijn64tab), ("porism/lattice.keys", laid_porism_lattice_keys), ("porism/porismref03.Keys", laid_porism_porismref03_Keys), ("porism/value.words", laid_porism_value_words)] }
def MergeOpsSaid : Prop := mergeOpsRow.holds Tryz.pinned (OpenSpec.ofChange mergeOpsSpec)

/-- ITS FALSE NEIGHBOUR: 'it returns false'. Refute it at one input. -/
def mergeOpsWrong : ChangeSpec := { name := "mergeOps", fn := fun _ => fun
  | [d1, d2, d3] => { results := [.lit (.bool false)], args := [d1, d2, d3] }
  | _ => none }
def MergeOpsWrongFalsely : Prop := mergeOpsRow.holds Tryz.pinned (OpenSpec.ofChange mergeOpsWrong)

/-- 'porismlaw34.MergeIndependent': WHATEVER THE INPUT: true; the input reads as it did. -/
def mergeIndependentSpec : ChangeSpec := { name := "mergeIndependent", fn := fun _ => fun
  | [d1, d2, d3, d4] => { results := [.lit (.bool true)], args := [d1, d2, d3, d4] }
  | _ => none }
def mergeIndependentRow : OpenClaim := { program := "ytlcjmejclpilhaagreatdoor", sum := "378d5ded9a9a5e8d45cc803da3bac8f0008656b3a2884320a7f1f81de55e95db", func := "porism/porismlaw34.MergeIndependent", spec := "mergeIndependent", unfollowed := true, recurses := true, named := ["porism/porismref03.Keys", "porism/value.words", "porism/lattice.keys", "math/bits.deBruijn64tab"], plainKeys := false, apart := false, laid := [("math/bits.deBruijn64tab", laid_math_bits_deBruijn64tab), ("porism/lattice.keys", laid_porism_lattice_keys), ("porism/porismref03.Keys", laid_porism_porismref03_Keys), ("porism/value.words", laid_porism_value_words)] }
def MergeIndependentSaid : Prop := mergeIndependentRow.holds Tryz.pinned (OpenSpec.ofChange mergeIndependentSpec)

/-- ITS FALSE NEIGHBOUR: 'it returns false'. Refute it at one input. -/
def mergeIndependentWrong : ChangeSpec := { name := "mergeIndependent", fn := fun _ => fun
  | [d1, d2, d3, d4] => { results := [.lit (.bool false)], args := [d1, d2, d3, d4] }
  | _ => none }
def MergeIndependentWrongFalsely : Prop := mergeIndependentRow.holds Tryz.pinned (OpenSpec.ofChange mergeIndependentWrong)

/-- 'porismlaw34.MergeCommits': WHATEVER THE INPUT: true; the input reads as it did. -/
def mergeCommitsSpec : ChangeSpec := { name := "mergeCommits", fn := fun _ => fun
  | [d1, d2, d3, d4] => { results := [.lit (.bool true)], args := [d1, d2, d3, d4] }
  | _ => none }
def mergeCommitsRow : OpenClaim := { program := "ytlcjmejclpilhaagreatdoor", sum := "378d5ded9a9a5e8d45cc803da3bac8f0008656b3a2884320a7f1f81de55e95db", func := "porism/porismlaw34.MergeCommits", spec := "mergeCommits", unfollowed := true, recurses := true, named := ["porism/porismref03.Keys", "porism/value.words", "porism/lattice.keys", "math/bits.deBruijn64tab"], plainKeys := false, apart := false, laid := [("math/bits.deBruijn64tab", laid_math_bits_deBruijn64tab), ("porism/lattice.keys", laid_porism_lattice_keys), ("porism/porismref03.Keys", laid_porism_porismref03_Keys), ("porism/value.words", laid_porism_value_words)] }
def MergeCommitsSaid : Prop := mergeCommitsRow.holds Tryz.pinned (OpenSpec.ofChange mergeCommitsSpec)

/-- ITS FALSE NEIGHBOUR: 'it returns false'. Refute it at one input. -/
def mergeCommitsWrong : ChangeSpec := { name := "mergeCommits", fn := fun _ => fun
  | [d1, d2, d3, d4] => { results := [.lit (.bool false)], args := [d1, d2, d3, d4] }
  | _ => none }
def MergeCommitsWrongFalsely : Prop := mergeCommitsRow.holds Tryz.pinned (OpenSpec.ofChange mergeCommitsWrong)

/-- 'porismlaw34.MergePoints': WHATEVER THE INPUT: true; the input reads as it did. -/
def mergePointsSpec : ChangeSpec := { name := "mergePoints", fn := fun _ => fun
  | [d1, d2, d3, d4, d5] => { results := [.lit (.bool true)], args := [d1, d2, d3, d4, d5] }
  | _ => none }
def mergePointsRow : OpenClaim := { program := "ytlcjmejclpilhaagreatdoor", sum := "378d5ded9a9a5e8d45cc803da3bac8f0008656b3a2884320a7f1f81de55e95db", func := "porism/porismlaw34.MergePoints", spec := "mergePoints", unfollowed := true, recurses := true, named := ["porism/porismref03.Keys", "porism/value.words", "porism/lattice.keys", "math/bits.deBruijn64tab"], plainKeys := false, apart := false, laid := [("math/bits.deBruijn64tab", laid_math_bits_deBruijn64tab), ("porism/lattice.keys", laid_porism_lattice_keys), ("porism/porismref03.Keys", laid_porism_porismref03_Keys), ("porism/value.words", laid_porism_value_words)] }
def MergePointsSaid : Prop := mergePointsRow.holds Tryz.pinned (OpenSpec.ofChange mergePointsSpec)

/-- ITS FALSE NEIGHBOUR: 'it returns false'. Refute it at one input. -/
def mergePointsWrong : ChangeSpec := { name := "mergePoints", fn := fun _ => fun
  | [d1, d2, d3, d4, d5] => { results := [.lit (.bool false)], args := [d1, d2, d3, d4, d5] }
  | _ => none }
def MergePointsWrongFalsely : Prop := mergePointsRow.holds Tryz.pinned (OpenSpec.ofChange mergePointsWrong)

/- THE SECOND FORM. 'bulk': how many values and letters a reading holds, each counted each time it is reached (what is shared counts as often as it is met; a slice's spare places count too). A statement '..UptoSaid' is the law's where the arguments, and the package variables that the reading takes, are together of bulk at most 1048576: NARROWER than '..Said'. Prove '..Said' where nothing that the law and all that it calls make is longer than what came in: it says more and counts as full. Else prove '..UptoSaid'. A law counts once. -/
mutual
def uptoBulk {H : Type} : DataW H → Nat
  | .lit (.string bytes) => bytes.length + 1
  | .lit _ => 1
  | .nil => 1
  | .ptr d => uptoBulk d + 1
  | .slice elems spare => uptoBulkAll elems + uptoBulkAll spare + 1
  | .agg parts => uptoBulkAll parts + 1
  | .iface _ d => uptoBulk d + 1
  | .map entries => uptoBulkEntries entries + 1
  | .held _ => 1
def uptoBulkAll {H : Type} : List (DataW H) → Nat
  | [] => 0
  | d :: r => uptoBulk d + uptoBulkAll r
def uptoBulkEntries {H : Type} : List (Lit × DataW H) → Nat
  | [] => 0
  | x :: r => uptoBulkEntry x + uptoBulkEntries r
def uptoBulkEntry {H : Type} : Lit × DataW H → Nat
  | (.string bytes, d) => bytes.length + uptoBulk d + 1
  | (_, d) => uptoBulk d + 1
 end
def uptoSmall : (H : Type) → List (DataW H) → Bool := fun _ ds => decide (uptoBulkAll ds ≤ 1048576)
def OpenSpec.upto (s : _root_.Go.ChangeSpec) : _root_.Go.OpenSpec := { _root_.Go.OpenSpec.ofChange s with cond := some uptoSmall }

/-- 'porismlaw34.MergeSymmetric', WHERE WHAT IT READS IS OF BULK AT MOST 1048576: true; the input reads as it did. -/
def mergeSymmetricUptoRow : OpenClaim := { program := "ytlcjmejclpilhaagreatdoor", sum := "378d5ded9a9a5e8d45cc803da3bac8f0008656b3a2884320a7f1f81de55e95db", func := "porism/porismlaw34.MergeSymmetric", spec := "mergeSymmetric", unfollowed := true, recurses := true, named := ["porism/porismref03.Keys", "porism/value.words", "porism/lattice.keys", "math/bits.deBruijn64tab"], plainKeys := false, apart := false, laid := [("math/bits.deBruijn64tab", laid_math_bits_deBruijn64tab), ("porism/lattice.keys", laid_porism_lattice_keys), ("porism/porismref03.Keys", laid_porism_porismref03_Keys), ("porism/value.words", laid_porism_value_words)], narrowed := true }
def MergeSymmetricUptoSaid : Prop := mergeSymmetricUptoRow.holds Tryz.pinned (OpenSpec.upto mergeSymmetricSpec)

/-- 'porismlaw34.MergeIdentities', WHERE WHAT IT READS IS OF BULK AT MOST 1048576: true; the input reads as it did. -/
def mergeIdentitiesUptoRow : OpenClaim := { program := "ytlcjmejclpilhaagreatdoor", sum := "378d5ded9a9a5e8d45cc803da3bac8f0008656b3a2884320a7f1f81de55e95db", func := "porism/porismlaw34.MergeIdentities", spec := "mergeIdentities", unfollowed := true, recurses := true, named := ["porism/porismref03.Keys", "porism/value.words", "porism/lattice.keys", "math/bits.deBruijn64tab"], plainKeys := false, apart := false, laid := [("math/bits.deBruijn64tab", laid_math_bits_deBruijn64tab), ("porism/lattice.keys", laid_porism_lattice_keys), ("porism/porismref03.Keys", laid_porism_porismref03_Keys), ("porism/value.words", laid_porism_value_words)], narrowed := true }
def MergeIdentitiesUptoSaid : Prop := mergeIdentitiesUptoRow.holds Tryz.pinned (OpenSpec.upto mergeIdentitiesSpec)

/-- 'porismlaw34.MergeOps', WHERE WHAT IT READS IS OF BULK AT MOST 1048576: true; the input reads as it did. -/
def mergeOpsUptoRow : OpenClaim := { program := "ytlcjmejclpilhaagreatdoor", sum := "378d5ded9a9a5e8d45cc803da3bac8f0008656b3a2884320a7f1f81de55e95db", func := "porism/porismlaw34.MergeOps", spec := "mergeOps", unfollowed := true, recurses := true, named := ["porism/porismref03.Keys", "porism/value.words", "porism/lattice.keys", "math/bits.deBruijn64tab"], plainKeys := false, apart := false, laid := [("math/bits.deBruijn64tab", laid_math_bits_deBruijn64tab), ("porism/lattice.keys", laid_porism_lattice_keys), ("porism/porismref03.Keys", laid_porism_porismref03_Keys), ("porism/value.words", laid_porism_value_words)], narrowed := true }
def MergeOpsUptoSaid : Prop := mergeOpsUptoRow.holds Tryz.pinned (OpenSpec.upto mergeOpsSpec)

/-- 'porismlaw34.MergeIndependent', WHERE WHAT IT READS IS OF BULK AT MOST 1048576: true; the input reads as it did. -/
def mergeIndependentUptoRow : OpenClaim := { program := "ytlcjmejclpilhaagreatdoor", sum := "378d5ded9a9a5e8d45cc803da3bac8f0008656b3a2884320a7f1f81de55e95db", func := "porism/porismlaw34.MergeIndependent", spec := "mergeIndependent", unfollowed := true, recurses := true, named := ["porism/porismref03.Keys", "porism/value.words", "porism/lattice.keys", "math/bits.deBruijn64tab"], plainKeys := false, apart := false, laid := [("math/bits.deBruijn64tab", laid_math_bits_deBruijn64tab), ("porism/lattice.keys", laid_porism_lattice_keys), ("porism/porismref03.Keys", laid_porism_porismref03_Keys), ("porism/value.words", laid_porism_value_words)], narrowed := true }
def MergeIndependentUptoSaid : Prop := mergeIndependentUptoRow.holds Tryz.pinned (OpenSpec.upto mergeIndependentSpec)

/-- 'porismlaw34.MergeCommits', WHERE WHAT IT READS IS OF BULK AT MOST 1048576: true; the input reads as it did. -/
def mergeCommitsUptoRow : OpenClaim := { program := "ytlcjmejclpilhaagreatdoor", sum := "378d5ded9a9a5e8d45cc803da3bac8f0008656b3a2884320a7f1f81de55e95db", func := "porism/porismlaw34.MergeCommits", spec := "mergeCommits", unfollowed := true, recurses := true, named := ["porism/porismref03.Keys", "porism/value.words", "porism/lattice.keys", "math/bits.deBruijn64tab"], plainKeys := false, apart := false, laid := [("math/bits.deBruijn64tab", laid_math_bits_deBruijn64tab), ("porism/lattice.keys", laid_porism_lattice_keys), ("porism/porismref03.Keys", laid_porism_porismref03_Keys), ("porism/value.words", laid_porism_value_words)], narrowed := true }
def MergeCommitsUptoSaid : Prop := mergeCommitsUptoRow.holds Tryz.pinned (OpenSpec.upto mergeCommitsSpec)

/-- 'porismlaw34.MergePoints', WHERE WHAT IT READS IS OF BULK AT MOST 1048576: true; the input reads as it did. -/
def mergePointsUptoRow : OpenClaim := { program := "ytlcjmejclpilhaagreatdoor", sum := "378d5ded9a9a5e8d45cc803da3bac8f0008656b3a2884320a7f1f81de55e95db", func := "porism/porismlaw34.MergePoints", spec := "mergePoints", unfollowed := true, recurses := true, named := ["porism/porismref03.Keys", "porism/value.words", "porism/lattice.keys", "math/bits.deBruijn64tab"], plainKeys := false, apart := false, laid := [("math/bits.deBruijn64tab", laid_math_bits_deBruijn64tab), ("porism/lattice.keys", laid_porism_lattice_keys), ("porism/porismref03.Keys", laid_porism_porismref03_Keys), ("porism/value.words", laid_porism_value_words)], narrowed := true }
def MergePointsUptoSaid : Prop := mergePointsUptoRow.holds Tryz.pinned (OpenSpec.upto mergePointsSpec)

end Rows
end Go.Proofs.YtlcjmejclpilhaaGreatDoor
