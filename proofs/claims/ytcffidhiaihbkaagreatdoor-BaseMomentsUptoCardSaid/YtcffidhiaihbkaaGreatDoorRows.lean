/-
  NARROWER THAN 'FOR EVERY INPUT', by the rows' own cells (each row's printed sentence says how): BaseMoments: laid · BaseValid: laid · BaseOrder: laid · BaseRepeats: laid · BaseParts: laid · BaseRestores: laid.
  DERIVED. THE GIVEN ROWS OF THIS SEAT. 6 by the template 'for every input the law returns true; each argument reads behind the call as it read before'; 0 by the template 'total and deterministic' (their statements: YtcffidhiaihbkaaGreatDoorTotals.lean).
  GIVEN WITH THE SEED: the statements are not yours to turn. If you find one false, say at which input.
  Laid BY PROGRAM, IN A SANDBOX (cutbox-rows.mjs): the forced cells as the released guide's own fill.sh prints them over the translation b6c325571623b3a7… (all of the seat's roots in one cut). By AI agents, Wed Nov 11 2026. No macro, syntax, notation, axiom, sorry.
-/
import Derived.Test.YtcffidhiaihbkaaGreatDoorChecked
import GoSem.Claim
import GoSem.ClaimJoined
import GoSem.ClaimMapViews
import Derived.JoinedTies
import Derived.KernelRfl
namespace Go.Proofs.YtcffidhiaihbkaaGreatDoor
/- THE CELL 'sum', in the pinned program and in every row, IS THE sha256 OF THE DUMP (.gsa) THAT YtcffidhiaihbkaaGreatDoorProg.lean LOADS. Nothing in Lean hashes anything: it is a label: what it is worth is what the hold of that sum in a sandbox is worth. -/
noncomputable def Tryz.pinned : Pinned := { name := "ytcffidhiaihbkaagreatdoor", sum := "b6c325571623b3a7c259291718bd3fbd157c65862ade14994fb66a0d7e8258b8", checked := Tryz.checked }
namespace Rows
def none {H : Type} : Left H := { results := [], args := [] }

/- WHAT THE LISTED PACKAGE-LEVEL VARIABLES READ AS WHEN THE CALL BEGINS. Each datum BY PROGRAM (the guide's laid-datum.mjs) off the statement by which the dump's own 'gosem.cut.vars' lays the variable. In a bare row this is a premise. The card (YtcffidhiaihbkaaGreatDoorCards.lean) ties it to the program's text. -/
def laid_math_bits_deBruijn64tab {H : Type} : DataW H := .agg [.lit (.int .u8 0), .lit (.int .u8 1), .lit (.int .u8 56), .lit (.int .u8 2), .lit (.int .u8 57), .lit (.int .u8 49), .lit (.int .u8 28), .lit (.int .u8 3), .lit (.int .u8 61), .lit (.int .u8 58), .lit (.int .u8 42), .lit (.int .u8 50), .lit (.int .u8 38), .lit (.int .u8 29), .lit (.int .u8 17), .lit (.int .u8 4), .lit (.int .u8 62), .lit (.int .u8 47), .lit (.int .u8 59), .lit (.int .u8 36), .lit (.int .u8 45), .lit (.int .u8 43), .lit (.int .u8 51), .lit (.int .u8 22), .lit (.int .u8 53), .lit (.int .u8 39), .lit (.int .u8 33), .lit (.int .u8 30), .lit (.int .u8 24), .lit (.int .u8 18), .lit (.int .u8 12), .lit (.int .u8 5), .lit (.int .u8 63), .lit (.int .u8 55), .lit (.int .u8 48), .lit (.int .u8 27), .lit (.int .u8 60), .lit (.int .u8 41), .lit (.int .u8 37), .lit (.int .u8 16), .lit (.int .u8 46), .lit (.int .u8 35), .lit (.int .u8 44), .lit (.int .u8 21), .lit (.int .u8 52), .lit (.int .u8 32), .lit (.int .u8 23), .lit (.int .u8 11), .lit (.int .u8 54), .lit (.int .u8 26), .lit (.int .u8 40), .lit (.int .u8 15), .lit (.int .u8 34), .lit (.int .u8 20), .lit (.int .u8 31), .lit (.int .u8 10), .lit (.int .u8 25), .lit (.int .u8 14), .lit (.int .u8 19), .lit (.int .u8 9), .lit (.int .u8 13), .lit (.int .u8 8), .lit (.int .u8 7), .lit (.int .u8 6)]
def laid_porism_lattice_keys {H : Type} : DataW H := .slice [.lit (.string [108, 97, 116, 116, 105, 99, 101]), .lit (.string [102, 117, 110, 99, 116, 105, 111, 110]), .lit (.string [111, 110]), .lit (.string [98, 97, 115, 101]), .lit (.string [118, 105, 101, 119]), .lit (.string [107, 101, 121]), .lit (.string [100, 101, 110, 121]), .lit (.string [110, 111, 116]), .lit (.string [105, 110, 116]), .lit (.string [115, 121, 109])] []
def laid_porism_value_words {H : Type} : DataW H := .agg [.lit (.string [108, 97, 116, 116, 105, 99, 101]), .lit (.string [102, 117, 110, 99, 116, 105, 111, 110]), .lit (.string [111, 110]), .lit (.string [98, 97, 115, 101]), .lit (.string [118, 105, 101, 119]), .lit (.string [107, 101, 121]), .lit (.string [100, 101, 110, 121]), .lit (.string [110, 111, 116]), .lit (.string [105, 110, 116]), .lit (.string [115, 121, 109])]

/-- 'porismlaw30.BaseMoments': WHATEVER THE INPUT: true; the input reads as it did. -/
def baseMomentsSpec : ChangeSpec := { name := "baseMoments", fn := fun _ => fun
  | [d1, d2, d3, d4, d5, d6] => { results := [.lit (.bool true)], args := [d1, d2, d3, d4, d5, d6] }
  | _ => none }
def baseMomentsRow : OpenClaim := { program := "ytcffidhiaihbkaagreatdoor", sum := "b6c325571623b3a7c259291718bd3fbd157c65862ade14994fb66a0d7e8258b8", func := "porism/porismlaw30.BaseMoments", spec := "baseMoments", unfollowed := true, recurses := true, named := ["porism/value.words", "porism/lattice.keys", "math/bits.deBruijn64tab"], apart := false, laid := [("math/bits.deBruijn64tab", laid_math_bits_deBruijn64tab), ("porism/lattice.keys", laid_porism_lattice_keys), ("porism/value.words", laid_porism_value_words)] }
def BaseMomentsSaid : Prop := baseMomentsRow.holds Tryz.pinned (OpenSpec.ofChange baseMomentsSpec)

/-- ITS FALSE NEIGHBOUR: 'it returns false'. Refute it at one input. -/
def baseMomentsWrong : ChangeSpec := { name := "baseMoments", fn := fun _ => fun
  | [d1, d2, d3, d4, d5, d6] => { results := [.lit (.bool false)], args := [d1, d2, d3, d4, d5, d6] }
  | _ => none }
def BaseMomentsWrongFalsely : Prop := baseMomentsRow.holds Tryz.pinned (OpenSpec.ofChange baseMomentsWrong)

/-- 'porismlaw30.BaseValid': WHATEVER THE INPUT: true; the input reads as it did. -/
def baseValidSpec : ChangeSpec := { name := "baseValid", fn := fun _ => fun
  | [d1, d2, d3, d4] => { results := [.lit (.bool true)], args := [d1, d2, d3, d4] }
  | _ => none }
def baseValidRow : OpenClaim := { program := "ytcffidhiaihbkaagreatdoor", sum := "b6c325571623b3a7c259291718bd3fbd157c65862ade14994fb66a0d7e8258b8", func := "porism/porismlaw30.BaseValid", spec := "baseValid", unfollowed := true, recurses := true, named := ["porism/value.words", "porism/lattice.keys", "math/bits.deBruijn64tab"], apart := false, laid := [("math/bits.deBruijn64tab", laid_math_bits_deBruijn64tab), ("porism/lattice.keys", laid_porism_lattice_keys), ("porism/value.words", laid_porism_value_words)] }
def BaseValidSaid : Prop := baseValidRow.holds Tryz.pinned (OpenSpec.ofChange baseValidSpec)

/-- ITS FALSE NEIGHBOUR: 'it returns false'. Refute it at one input. -/
def baseValidWrong : ChangeSpec := { name := "baseValid", fn := fun _ => fun
  | [d1, d2, d3, d4] => { results := [.lit (.bool false)], args := [d1, d2, d3, d4] }
  | _ => none }
def BaseValidWrongFalsely : Prop := baseValidRow.holds Tryz.pinned (OpenSpec.ofChange baseValidWrong)

/-- 'porismlaw30.BaseOrder': WHATEVER THE INPUT: true; the input reads as it did. -/
def baseOrderSpec : ChangeSpec := { name := "baseOrder", fn := fun _ => fun
  | [d1, d2, d3, d4] => { results := [.lit (.bool true)], args := [d1, d2, d3, d4] }
  | _ => none }
def baseOrderRow : OpenClaim := { program := "ytcffidhiaihbkaagreatdoor", sum := "b6c325571623b3a7c259291718bd3fbd157c65862ade14994fb66a0d7e8258b8", func := "porism/porismlaw30.BaseOrder", spec := "baseOrder", unfollowed := true, recurses := true, named := ["porism/value.words", "porism/lattice.keys", "math/bits.deBruijn64tab"], apart := false, laid := [("math/bits.deBruijn64tab", laid_math_bits_deBruijn64tab), ("porism/lattice.keys", laid_porism_lattice_keys), ("porism/value.words", laid_porism_value_words)] }
def BaseOrderSaid : Prop := baseOrderRow.holds Tryz.pinned (OpenSpec.ofChange baseOrderSpec)

/-- ITS FALSE NEIGHBOUR: 'it returns false'. Refute it at one input. -/
def baseOrderWrong : ChangeSpec := { name := "baseOrder", fn := fun _ => fun
  | [d1, d2, d3, d4] => { results := [.lit (.bool false)], args := [d1, d2, d3, d4] }
  | _ => none }
def BaseOrderWrongFalsely : Prop := baseOrderRow.holds Tryz.pinned (OpenSpec.ofChange baseOrderWrong)

/-- 'porismlaw30.BaseRepeats': WHATEVER THE INPUT: true; the input reads as it did. -/
def baseRepeatsSpec : ChangeSpec := { name := "baseRepeats", fn := fun _ => fun
  | [d1, d2, d3, d4] => { results := [.lit (.bool true)], args := [d1, d2, d3, d4] }
  | _ => none }
def baseRepeatsRow : OpenClaim := { program := "ytcffidhiaihbkaagreatdoor", sum := "b6c325571623b3a7c259291718bd3fbd157c65862ade14994fb66a0d7e8258b8", func := "porism/porismlaw30.BaseRepeats", spec := "baseRepeats", unfollowed := true, recurses := true, named := ["porism/value.words", "porism/lattice.keys", "math/bits.deBruijn64tab"], apart := false, laid := [("math/bits.deBruijn64tab", laid_math_bits_deBruijn64tab), ("porism/lattice.keys", laid_porism_lattice_keys), ("porism/value.words", laid_porism_value_words)] }
def BaseRepeatsSaid : Prop := baseRepeatsRow.holds Tryz.pinned (OpenSpec.ofChange baseRepeatsSpec)

/-- ITS FALSE NEIGHBOUR: 'it returns false'. Refute it at one input. -/
def baseRepeatsWrong : ChangeSpec := { name := "baseRepeats", fn := fun _ => fun
  | [d1, d2, d3, d4] => { results := [.lit (.bool false)], args := [d1, d2, d3, d4] }
  | _ => none }
def BaseRepeatsWrongFalsely : Prop := baseRepeatsRow.holds Tryz.pinned (OpenSpec.ofChange baseRepeatsWrong)

/-- 'porismlaw30.BaseParts': WHATEVER THE INPUT: true; the input reads as it did. -/
def basePartsSpec : ChangeSpec := { name := "baseParts", fn := fun _ => fun
  | [d1, d2, d3, d4] => { results := [.lit (.bool true)], args := [d1, d2, d3, d4] }
  | _ => none }
def basePartsRow : OpenClaim := { program := "ytcffidhiaihbkaagreatdoor", sum := "b6c325571623b3a7c259291718bd3fbd157c65862ade14994fb66a0d7e8258b8", func := "porism/porismlaw30.BaseParts", spec := "baseParts", unfollowed := true, recurses := true, named := ["porism/value.words", "porism/lattice.keys", "math/bits.deBruijn64tab"], apart := false, laid := [("math/bits.deBruijn64tab", laid_math_bits_deBruijn64tab), ("porism/lattice.keys", laid_porism_lattice_keys), ("porism/value.words", laid_porism_value_words)] }
def BasePartsSaid : Prop := basePartsRow.holds Tryz.pinned (OpenSpec.ofChange basePartsSpec)

/-- ITS FALSE NEIGHBOUR: 'it returns false'. Refute it at one input. -/
def basePartsWrong : ChangeSpec := { name := "baseParts", fn := fun _ => fun
  | [d1, d2, d3, d4] => { results := [.lit (.bool false)], args := [d1, d2, d3, d4] }
  | _ => none }
def BasePartsWrongFalsely : Prop := basePartsRow.holds Tryz.pinned (OpenSpec.ofChange basePartsWrong)

/-- 'porismlaw30.BaseRestores': WHATEVER THE INPUT: true; the input reads as it did. -/
def baseRestoresSpec : ChangeSpec := { name := "baseRestores", fn := fun _ => fun
  | [d1, d2, d3] => { results := [.lit (.bool true)], args := [d1, d2, d3] }
  | _ => none }
def baseRestoresRow : OpenClaim := { program := "ytcffidhiaihbkaagreatdoor", sum := "b6c325571623b3a7c259291718bd3fbd157c65862ade14994fb66a0d7e8258b8", func := "porism/porismlaw30.BaseRestores", spec := "baseRestores", unfollowed := true, recurses := true, named := ["porism/value.words", "porism/lattice.keys", "math/bits.deBruijn64tab"], apart := false, laid := [("math/bits.deBruijn64tab", laid_math_bits_deBruijn64tab), ("porism/lattice.keys", laid_porism_lattice_keys), ("porism/value.words", laid_porism_value_words)] }
def BaseRestoresSaid : Prop := baseRestoresRow.holds Tryz.pinned (OpenSpec.ofChange baseRestoresSpec)

/-- ITS FALSE NEIGHBOUR: 'it returns false'. Refute it at one input. -/
def baseRestoresWrong : ChangeSpec := { name := "baseRestores", fn := fun _ => fun
  | [d1, d2, d3] => { results := [.lit (.bool false)], args := [d1, d2, d3] }
  | _ => none }
def BaseRestoresWrongFalsely : Prop := baseRestoresRow.holds Tryz.pinned (OpenSpec.ofChange baseRestoresWrong)

/- THE SECOND FORM. 'bulk': how many values and letters a reading holds, each counted each time it is reached (what is shared counts as often as it is met; a slice's spare places count too). A statement '..UptoSaid' is the law's where the arguments, and the package variables that the reading takes, are together of bulk at most 1048576: NARROWER than '..Said'. Prove '..Said' where nothing that the law and all that it calls make is longer than what came in: it says more and counts as full. Else prove '..UptoSaid'. A law counts once. -/
mutual
def uptoBulk {H : Type} : DataW H → Nat
  | .lit (.string bytes) => bytes.length + 1
  | .lit _ => 1
  | .nil => 1
  | .ptr d => uptoBulk d + 1
  | .slice elems spare => uptoBulkAll elems + uptoBulkAll spare + 1
  | .agg parts => uptoBulkAll parts + 1
  | .iface _ d => uptoBulk d + 1
  | .map entries => uptoBulkEntries entries + 1
  | .held _ => 1
def uptoBulkAll {H : Type} : List (DataW H) → Nat
  | [] => 0
  | d :: r => uptoBulk d + uptoBulkAll r
def uptoBulkEntries {H : Type} : List (Lit × DataW H) → Nat
  | [] => 0
  | x :: r => uptoBulkEntry x + uptoBulkEntries r
def uptoBulkEntry {H : Type} : Lit × DataW H → Nat
  | (.string bytes, d) => bytes.length + uptoBulk d + 1
  | (_, d) => uptoBulk d + 1
 end
def uptoSmall : (H : Type) → List (DataW H) → Bool := fun _ ds => decide (uptoBulkAll ds ≤ 1048576)
def OpenSpec.upto (s : _root_.Go.ChangeSpec) : _root_.Go.OpenSpec := { _root_.Go.OpenSpec.ofChange s with cond := some uptoSmall }

/-- 'porismlaw30.BaseMoments', WHERE WHAT IT READS IS OF BULK AT MOST 1048576: true; the input reads as it did. -/
def baseMomentsUptoRow : OpenClaim := { program := "ytcffidhiaihbkaagreatdoor", sum := "b6c325571623b3a7c259291718bd3fbd157c65862ade14994fb66a0d7e8258b8", func := "porism/porismlaw30.BaseMoments", spec := "baseMoments", unfollowed := true, recurses := true, named := ["porism/value.words", "porism/lattice.keys", "math/bits.deBruijn64tab"], apart := false, laid := [("math/bits.deBruijn64tab", laid_math_bits_deBruijn64tab), ("porism/lattice.keys", laid_porism_lattice_keys), ("porism/value.words", laid_porism_value_words)], narrowed := true }
def BaseMomentsUptoSaid : Prop := baseMomentsUptoRow.holds Tryz.pinned (OpenSpec.upto baseMomentsSpec)

/-- 'porismlaw30.BaseValid', WHERE WHAT IT READS IS OF BULK AT MOST 1048576: true; the input reads as it did. -/
def baseValidUptoRow : OpenClaim := { program := "ytcffidhiaihbkaagreatdoor", sum := "b6c325571623b3a7c259291718bd3fbd157c65862ade14994fb66a0d7e8258b8", func := "porism/porismlaw30.BaseValid", spec := "baseValid", unfollowed := true, recurses := true, named := ["porism/value.words", "porism/lattice.keys", "math/bits.deBruijn64tab"], apart := false, laid := [("math/bits.deBruijn64tab", laid_math_bits_deBruijn64tab), ("porism/lattice.keys", laid_porism_lattice_keys), ("porism/value.words", laid_porism_value_words)], narrowed := true }
def BaseValidUptoSaid : Prop := baseValidUptoRow.holds Tryz.pinned (OpenSpec.upto baseValidSpec)

/-- 'porismlaw30.BaseOrder', WHERE WHAT IT READS IS OF BULK AT MOST 1048576: true; the input reads as it did. -/
def baseOrderUptoRow : OpenClaim := { program := "ytcffidhiaihbkaagreatdoor", sum := "b6c325571623b3a7c259291718bd3fbd157c65862ade14994fb66a0d7e8258b8", func := "porism/porismlaw30.BaseOrder", spec := "baseOrder", unfollowed := true, recurses := true, named := ["porism/value.words", "porism/lattice.keys", "math/bits.deBruijn64tab"], apart := false, laid := [("math/bits.deBruijn64tab", laid_math_bits_deBruijn64tab), ("porism/lattice.keys", laid_porism_lattice_keys), ("porism/value.words", laid_porism_value_words)], narrowed := true }
def BaseOrderUptoSaid : Prop := baseOrderUptoRow.holds Tryz.pinned (OpenSpec.upto baseOrderSpec)

/-- 'porismlaw30.BaseRepeats', WHERE WHAT IT READS IS OF BULK AT MOST 1048576: true; the input reads as it did. -/
def baseRepeatsUptoRow : OpenClaim := { program := "ytcffidhiaihbkaagreatdoor", sum := "b6c325571623b3a7c259291718bd3fbd157c65862ade14994fb66a0d7e8258b8", func := "porism/porismlaw30.BaseRepeats", spec := "baseRepeats", unfollowed := true, recurses := true, named := ["porism/value.words", "porism/lattice.keys", "math/bits.deBruijn64tab"], apart := false, laid := [("math/bits.deBruijn64tab", laid_math_bits_deBruijn64tab), ("porism/lattice.keys", laid_porism_lattice_keys), ("porism/value.words", laid_porism_value_words)], narrowed := true }
def BaseRepeatsUptoSaid : Prop := baseRepeatsUptoRow.holds Tryz.pinned (OpenSpec.upto baseRepeatsSpec)

/-- 'porismlaw30.BaseParts', WHERE WHAT IT READS IS OF BULK AT MOST 1048576: true; the input reads as it did. -/
def basePartsUptoRow : OpenClaim := { program := "ytcffidhiaihbkaagreatdoor", sum := "b6c325571623b3a7c259291718bd3fbd157c65862ade14994fb66a0d7e8258b8", func := "porism/porismlaw30.BaseParts", spec := "baseParts", unfollowed := true, recurses := true, named := ["porism/value.words", "porism/lattice.keys", "math/bits.deBruijn64tab"], apart := false, laid := [("math/bits.deBruijn64tab", laid_math_bits_deBruijn64tab), ("porism/lattice.keys", laid_porism_lattice_keys), ("porism/value.words", laid_porism_value_words)], narrowed := true }
def BasePartsUptoSaid : Prop := basePartsUptoRow.holds Tryz.pinned (OpenSpec.upto basePartsSpec)

/-- 'porismlaw30.BaseRestores', WHERE WHAT IT READS IS OF BULK AT MOST 1048576: true; the input reads as it did. -/
def baseRestoresUptoRow : OpenClaim := { program := "ytcffidhiaihbkaagreatdoor", sum := "b6c325571623b3a7c259291718bd3fbd157c65862ade14994fb66a0d7e8258b8", func := "porism/porismlaw30.BaseRestores", spec := "baseRestores", unfollowed := true, recurses := true, named := ["porism/value.words", "porism/lattice.keys", "math/bits.deBruijn64tab"], apart := false, laid := [("math/bits.deBruijn64tab", laid_math_bits_deBruijn64tab), ("porism/lattice.keys", laid_porism_lattice_keys), ("porism/value.words", laid_porism_value_words)], narrowed := true }
def BaseRestoresUptoSaid : Prop := baseRestoresUptoRow.holds Tryz.pinned (OpenSpec.upto baseRestoresSpec)

end Rows
end Go.Proofs.YtcffidhiaihbkaaGreatDoor
