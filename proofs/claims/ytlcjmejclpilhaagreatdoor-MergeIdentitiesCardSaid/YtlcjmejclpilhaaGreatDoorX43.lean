/-
  MergeIdentities, as a contract.
-/
import Derived.Test.YtlcjmejclpilhaaGreatDoorX42
set_option linter.unusedSimpArgs false
set_option linter.unusedVariables false
set_option maxRecDepth 100000
set_option maxHeartbeats 4000000
namespace Go.AL
open Go.Proofs Go.Proofs.Tryz
theorem zyD(p:Pg)(hp:p.ok)(x:Dt)(hx:x.raw)(y:Dt)(hy:y.raw):EPure prog G0 4 [.agg p.c,.agg x.c,.agg y.c] fun v=>v=bo true:=zyV zyE p hp x y hx hy
end Go.AL
