/-
  The closed facts of the row of MergeIdentities, one by one.
-/
import Derived.Test.YtlcjmejclpilhaaGreatDoorX12
import Derived.Test.YtlcjmejclpilhaaGreatDoorTie
import Derived.SevenTiedAt
set_option linter.unusedSimpArgs false
set_option linter.unusedVariables false
set_option maxRecDepth 100000
set_option maxHeartbeats 4000000
namespace Go.Proofs.YtlcjmejclpilhaaGreatDoor
open Go
theorem jf0:(Rows.mergeIdentitiesRow.wf (OpenSpec.ofChange Rows.mergeIdentitiesSpec))=true:=by kernel_rfl
theorem jf1:(laidOutB Tryz.prog)=true:=by kernel_rfl
theorem jf2:(mapsRowed Tryz.prog)=true:=by kernel_rfl
theorem jf3:(Tryz.f4.params.all (Tryz.prog.readableRec ·))=true:=by kernel_rfl
theorem jf4:(namedTie Tryz.prog Rows.mergeIdentitiesRow.named Rows.mergeIdentitiesSpec.vars)=true:=by kernel_rfl
theorem jf5:((Rows.mergeIdentitiesRow.stops==[]))=true:=by kernel_rfl
theorem jf6:((Tryz.prog.stops==[]))=true:=by kernel_rfl
theorem jf7:((Rows.mergeIdentitiesRow.knobs==[]))=true:=by kernel_rfl
theorem jf8:((Tryz.prog.stopKnobs==[]))=true:=by kernel_rfl
theorem jf9:((Rows.mergeIdentitiesRow.inPlace==Tryz.prog.inPlace 4))=true:=by kernel_rfl
theorem zcJ:((Rows.mergeIdentitiesRow.unfollowed==Tryz.prog.unfollowed 4))=true:=by kernel_rfl
theorem fZ:((Rows.mergeIdentitiesRow.recurses==Tryz.prog.recurses 4))=true:=by kernel_rfl
theorem gE:((Rows.mergeIdentitiesRow.named==Tryz.prog.varsNamed 4))=true:=by kernel_rfl
theorem yfW:((Rows.mergeIdentitiesRow.maps==(Tryz.f4.params.toList++Rows.mergeIdentitiesSpec.plain.varTypes Tryz.prog).any (Tryz.prog.mapsRec ·)))=true:=by kernel_rfl
theorem jE:((Rows.mergeIdentitiesRow.ifaces==(Tryz.f4.params.toList++Rows.mergeIdentitiesSpec.plain.varTypes Tryz.prog).any (Tryz.prog.ifacesRec ·)))=true:=by kernel_rfl
theorem mF:((Rows.mergeIdentitiesRow.mapsOut==Tryz.prog.mapsAmong Tryz.f4.resultTypes.toList))=true:=by kernel_rfl
theorem mE:((Rows.mergeIdentitiesRow.loops==(Tryz.f4.params.toList++Rows.mergeIdentitiesSpec.plain.varTypes Tryz.prog).any (Tryz.prog.loopsFrom ·)))=true:=by kernel_rfl
theorem mD:((Rows.mergeIdentitiesRow.wideKeys==(Tryz.f4.params.toList++Rows.mergeIdentitiesSpec.plain.varTypes Tryz.prog++Tryz.f4.resultTypes.toList).any (Tryz.prog.wideKeysFrom ·)))=true:=by kernel_rfl
theorem nZ:(Rows.mergeIdentitiesSpec.vars.all (Tryz.prog.varReadable ·))=true:=by kernel_rfl
theorem nH:(Tryz.f4.resultTypes.all (fun t=>Tryz.prog.readableRec t&&decide (t<Tryz.prog.types.size)))=true:=by kernel_rfl
theorem nE:((Rows.mergeIdentitiesRow.ifacesOut==Tryz.f4.resultTypes.toList.any (Tryz.prog.ifacesRec ·)))=true:=by kernel_rfl
theorem nD:((Rows.mergeIdentitiesRow.loopsOut==Tryz.f4.resultTypes.toList.any (Tryz.prog.loopsFrom ·)))=true:=by kernel_rfl
theorem yfV:((Rows.mergeIdentitiesRow.plainKeys==Tryz.prog.plainKeys))=true:=by kernel_rfl
theorem nB:(Rows.mergeIdentitiesRow.shortTexts.isNone)=true:=by kernel_rfl
theorem nA:(Tryz.prog.stopsHeard)=true:=by kernel_rfl
theorem oZ:(Tryz.prog.mayEnter)=true:=by kernel_rfl
theorem oY:((Rows.mergeIdentitiesRow.lifted==Tryz.prog.liftsFinal))=true:=by kernel_rfl
theorem oX:((Tryz.prog.make==some Rows.mergeIdentitiesRow.make))=true:=by kernel_rfl
theorem oW:((Rows.mergeIdentitiesRow.kinds==(if Rows.mergeIdentitiesRow.domain.isEmpty then [] else Tryz.f4.params.toList.map fun t=>match Tryz.prog.underlying t with|some (.int k)=>some k|_=>none)))=true:=by kernel_rfl
theorem oV:((Rows.mergeIdentitiesRow.pinned==Rows.mergeIdentitiesRow.pinnedBy))=true:=by kernel_rfl
theorem pT:((Rows.mergeIdentitiesRow.veiled==(Tryz.f4.params.toList++Rows.mergeIdentitiesSpec.plain.varTypes Tryz.prog++Tryz.f4.resultTypes.toList).any (Tryz.prog.veiledRec ·)))=true:=by kernel_rfl
theorem pS:(Rows.mergeIdentitiesRow.veiledFits Tryz.prog Tryz.f4.params.toList (Tryz.f4.params.toList++Rows.mergeIdentitiesSpec.plain.varTypes Tryz.prog++Tryz.f4.resultTypes.toList))=true:=by kernel_rfl
end Go.Proofs.YtlcjmejclpilhaaGreatDoor
