/-
  Part of the walk.
-/
import Derived.Test.YtlcjmejclpilhaaGreatDoorV07
import Derived.Test.YtlcjmejclpilhaaGreatDoorTie
import Derived.SevenTiedAt
set_option linter.unusedSimpArgs false
set_option linter.unusedVariables false
set_option maxRecDepth 100000
set_option maxHeartbeats 4000000
namespace Go.Proofs.YtlcjmejclpilhaaGreatDoor
open Go
theorem jf0:(Rows.mergeSymmetricRow.wf (OpenSpec.ofChange Rows.mergeSymmetricSpec))=true:=by kernel_rfl
theorem jf1:(laidOutB Tryz.prog)=true:=by kernel_rfl
theorem jf2:(mapsRowed Tryz.prog)=true:=by kernel_rfl
theorem jf3:(Tryz.f3.params.all (Tryz.prog.readableRec ·))=true:=by kernel_rfl
theorem jf4:(namedTie Tryz.prog Rows.mergeSymmetricRow.named Rows.mergeSymmetricSpec.vars)=true:=by kernel_rfl
theorem jf5:((Rows.mergeSymmetricRow.stops==[]))=true:=by kernel_rfl
theorem jf6:((Tryz.prog.stops==[]))=true:=by kernel_rfl
theorem jf7:((Rows.mergeSymmetricRow.knobs==[]))=true:=by kernel_rfl
theorem jf8:((Tryz.prog.stopKnobs==[]))=true:=by kernel_rfl
theorem jf9:((Rows.mergeSymmetricRow.inPlace==Tryz.prog.inPlace 3))=true:=by kernel_rfl
theorem zcJ:((Rows.mergeSymmetricRow.unfollowed==Tryz.prog.unfollowed 3))=true:=by kernel_rfl
theorem fZ:((Rows.mergeSymmetricRow.recurses==Tryz.prog.recurses 3))=true:=by kernel_rfl
theorem gE:((Rows.mergeSymmetricRow.named==Tryz.prog.varsNamed 3))=true:=by kernel_rfl
theorem yfW:((Rows.mergeSymmetricRow.maps==(Tryz.f3.params.toList++Rows.mergeSymmetricSpec.plain.varTypes Tryz.prog).any (Tryz.prog.mapsRec ·)))=true:=by kernel_rfl
theorem jE:((Rows.mergeSymmetricRow.ifaces==(Tryz.f3.params.toList++Rows.mergeSymmetricSpec.plain.varTypes Tryz.prog).any (Tryz.prog.ifacesRec ·)))=true:=by kernel_rfl
theorem mF:((Rows.mergeSymmetricRow.mapsOut==Tryz.prog.mapsAmong Tryz.f3.resultTypes.toList))=true:=by kernel_rfl
theorem mE:((Rows.mergeSymmetricRow.loops==(Tryz.f3.params.toList++Rows.mergeSymmetricSpec.plain.varTypes Tryz.prog).any (Tryz.prog.loopsFrom ·)))=true:=by kernel_rfl
theorem mD:((Rows.mergeSymmetricRow.wideKeys==(Tryz.f3.params.toList++Rows.mergeSymmetricSpec.plain.varTypes Tryz.prog++Tryz.f3.resultTypes.toList).any (Tryz.prog.wideKeysFrom ·)))=true:=by kernel_rfl
theorem nZ:(Rows.mergeSymmetricSpec.vars.all (Tryz.prog.varReadable ·))=true:=by kernel_rfl
theorem nH:(Tryz.f3.resultTypes.all (fun t=>Tryz.prog.readableRec t&&decide (t<Tryz.prog.types.size)))=true:=by kernel_rfl
theorem nE:((Rows.mergeSymmetricRow.ifacesOut==Tryz.f3.resultTypes.toList.any (Tryz.prog.ifacesRec ·)))=true:=by kernel_rfl
theorem nD:((Rows.mergeSymmetricRow.loopsOut==Tryz.f3.resultTypes.toList.any (Tryz.prog.loopsFrom ·)))=true:=by kernel_rfl
theorem yfV:((Rows.mergeSymmetricRow.plainKeys==Tryz.prog.plainKeys))=true:=by kernel_rfl
theorem nB:(Rows.mergeSymmetricRow.shortTexts.isNone)=true:=by kernel_rfl
theorem nA:(Tryz.prog.stopsHeard)=true:=by kernel_rfl
theorem oZ:(Tryz.prog.mayEnter)=true:=by kernel_rfl
theorem oY:((Rows.mergeSymmetricRow.lifted==Tryz.prog.liftsFinal))=true:=by kernel_rfl
theorem oX:((Tryz.prog.make==some Rows.mergeSymmetricRow.make))=true:=by kernel_rfl
theorem oW:((Rows.mergeSymmetricRow.kinds==(if Rows.mergeSymmetricRow.domain.isEmpty then [] else Tryz.f3.params.toList.map fun t=>match Tryz.prog.underlying t with|some (.int k)=>some k|_=>none)))=true:=by kernel_rfl
theorem oV:((Rows.mergeSymmetricRow.pinned==Rows.mergeSymmetricRow.pinnedBy))=true:=by kernel_rfl
theorem pT:((Rows.mergeSymmetricRow.veiled==(Tryz.f3.params.toList++Rows.mergeSymmetricSpec.plain.varTypes Tryz.prog++Tryz.f3.resultTypes.toList).any (Tryz.prog.veiledRec ·)))=true:=by kernel_rfl
theorem pS:(Rows.mergeSymmetricRow.veiledFits Tryz.prog Tryz.f3.params.toList (Tryz.f3.params.toList++Rows.mergeSymmetricSpec.plain.varTypes Tryz.prog++Tryz.f3.resultTypes.toList))=true:=by kernel_rfl
end Go.Proofs.YtlcjmejclpilhaaGreatDoor
