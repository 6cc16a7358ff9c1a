/-
  Part of the walk.
-/
import Derived.Test.YtlcjmejclpilhaaGreatDoorTie
import Derived.Test.YtlcjmejclpilhaaGreatDoorCards
import Derived.ProofKit
import Derived.SevenTiedAt
import Derived.KernelRfl
set_option linter.unusedSimpArgs false
set_option linter.unusedVariables false
set_option maxRecDepth 100000
set_option maxHeartbeats 4000000
namespace Go.Proofs.YtlcjmejclpilhaaGreatDoor
open Go.ChangeShapes Go.WideShapes Go.ChangeAt Go.RowKit Go.Proofs
theorem yeC:false=Rows.mergeSymmetricRow.goesBy Tryz.prog:=by kernel_rfl
end Go.Proofs.YtlcjmejclpilhaaGreatDoor
