/-
  Part of the walk.
-/
import Derived.Test.YtlcjmejclpilhaaGreatDoorTie
import Derived.Test.YtlcjmejclpilhaaGreatDoorCards
import Derived.ProofKit
import Derived.SevenTiedAt
import Derived.KernelRfl
set_option linter.unusedSimpArgs false
set_option linter.unusedVariables false
set_option maxRecDepth 100000
set_option maxHeartbeats 4000000
namespace Go.Proofs.YtlcjmejclpilhaaGreatDoor
open Go.ChangeShapes Go.WideShapes Go.ChangeAt Go.RowKit Go.Proofs
theorem yd9:Rows.mergeSymmetricRow.wfByText (OpenSpec.ofChange Rows.mergeSymmetricSpec)=true:=by kernel_rfl
theorem yeA:Tryz.pinned.checked.prog.mainIs=some (true, "0e38b02a15147930d4d90b02833867985025771f0dd3f7faecdde187f9abbe15".toList):=by kernel_rfl
theorem yeB:false=Tryz.prog.looks []:=by kernel_rfl
end Go.Proofs.YtlcjmejclpilhaaGreatDoor
