/-
  Branches: what the laws share: the fixed examples, the common ancestor.
-/
import Derived.Test.YtfjkncfjclifoaaGreatDoorZ38
import Derived.Test.YtfjkncfjclifoaaGreatDoorZ42
set_option linter.unusedSimpArgs false
set_option linter.unusedVariables false
set_option maxRecDepth 100000
set_option maxHeartbeats 4000000
namespace Go.AL
open Go.Proofs Go.Proofs.Tryz
theorem zl6 (h:Heap):ECall prog G0 9 [] h fun q h2=>q=bo true∧h2=h:=⟨_,_,⟨rfl,rfl⟩,aO h⟩
theorem znS (x:Rp) (a b:Int) (hcs:x.cs.length≤140737488355328):EPure prog G0 21 [.agg x.c,i64 a,i64 b] fun v=>v=i64 (oT (rB (x.cs.map zm6) a) (rB (x.cs.map zm6) b) (x.cs.map zm6).length):=
 EPure.args ⟨_,rfl,.sc,Common_ok (x.cs.map zm6) a b (by simpa using hcs)⟩ (.cons (zfJ x) (.cons (PLe.refl _) (.cons (PLe.refl _) .nil)))
end Go.AL
