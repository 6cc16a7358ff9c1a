/-
  The closed facts of the row of BranchIndependent, one by one.
-/
import Derived.Test.YtfjkncfjclifoaaGreatDoorZ16
import Derived.Test.YtfjkncfjclifoaaGreatDoorTie
import Derived.SevenTiedAt
set_option linter.unusedSimpArgs false
set_option linter.unusedVariables false
set_option maxRecDepth 100000
set_option maxHeartbeats 4000000
namespace Go.Proofs.YtfjkncfjclifoaaGreatDoor
open Go
theorem jf0:(Rows.branchIndependentRow.wf (OpenSpec.ofChange Rows.branchIndependentSpec))=true:=by kernel_rfl
theorem jf1:(laidOutB Tryz.prog)=true:=by kernel_rfl
theorem jf2:(mapsRowed Tryz.prog)=true:=by kernel_rfl
theorem jf3:(Tryz.f7.params.all (Tryz.prog.readableRec ·))=true:=by kernel_rfl
theorem jf4:(namedTie Tryz.prog Rows.branchIndependentRow.named Rows.branchIndependentSpec.vars)=true:=by kernel_rfl
theorem jf5:((Rows.branchIndependentRow.stops==[]))=true:=by kernel_rfl
theorem jf6:((Tryz.prog.stops==[]))=true:=by kernel_rfl
theorem jf7:((Rows.branchIndependentRow.knobs==[]))=true:=by kernel_rfl
theorem jf8:((Tryz.prog.stopKnobs==[]))=true:=by kernel_rfl
theorem jf9:((Rows.branchIndependentRow.inPlace==Tryz.prog.inPlace 7))=true:=by kernel_rfl
theorem zcJ:((Rows.branchIndependentRow.unfollowed==Tryz.prog.unfollowed 7))=true:=by kernel_rfl
theorem fZ:((Rows.branchIndependentRow.recurses==Tryz.prog.recurses 7))=true:=by kernel_rfl
theorem gE:((Rows.branchIndependentRow.named==Tryz.prog.varsNamed 7))=true:=by kernel_rfl
theorem gD:((Rows.branchIndependentRow.maps==(Tryz.f7.params.toList++Rows.branchIndependentSpec.plain.varTypes Tryz.prog).any (Tryz.prog.mapsRec ·)))=true:=by kernel_rfl
theorem jE:((Rows.branchIndependentRow.ifaces==(Tryz.f7.params.toList++Rows.branchIndependentSpec.plain.varTypes Tryz.prog).any (Tryz.prog.ifacesRec ·)))=true:=by kernel_rfl
theorem mF:((Rows.branchIndependentRow.mapsOut==Tryz.prog.mapsAmong Tryz.f7.resultTypes.toList))=true:=by kernel_rfl
theorem mE:((Rows.branchIndependentRow.loops==(Tryz.f7.params.toList++Rows.branchIndependentSpec.plain.varTypes Tryz.prog).any (Tryz.prog.loopsFrom ·)))=true:=by kernel_rfl
theorem mD:((Rows.branchIndependentRow.wideKeys==(Tryz.f7.params.toList++Rows.branchIndependentSpec.plain.varTypes Tryz.prog++Tryz.f7.resultTypes.toList).any (Tryz.prog.wideKeysFrom ·)))=true:=by kernel_rfl
theorem nZ:(Rows.branchIndependentSpec.vars.all (Tryz.prog.varReadable ·))=true:=by kernel_rfl
theorem nH:(Tryz.f7.resultTypes.all (fun t=>Tryz.prog.readableRec t&&decide (t<Tryz.prog.types.size)))=true:=by kernel_rfl
theorem nE:((Rows.branchIndependentRow.ifacesOut==Tryz.f7.resultTypes.toList.any (Tryz.prog.ifacesRec ·)))=true:=by kernel_rfl
theorem nD:((Rows.branchIndependentRow.loopsOut==Tryz.f7.resultTypes.toList.any (Tryz.prog.loopsFrom ·)))=true:=by kernel_rfl
theorem nC:((Rows.branchIndependentRow.plainKeys==Tryz.prog.plainKeys))=true:=by kernel_rfl
theorem nB:(Rows.branchIndependentRow.shortTexts.isNone)=true:=by kernel_rfl
theorem nA:(Tryz.prog.stopsHeard)=true:=by kernel_rfl
theorem oZ:(Tryz.prog.mayEnter)=true:=by kernel_rfl
theorem oY:((Rows.branchIndependentRow.lifted==Tryz.prog.liftsFinal))=true:=by kernel_rfl
theorem oX:((Tryz.prog.make==some Rows.branchIndependentRow.make))=true:=by kernel_rfl
theorem oW:((Rows.branchIndependentRow.kinds==(if Rows.branchIndependentRow.domain.isEmpty then [] else Tryz.f7.params.toList.map fun t=>match Tryz.prog.underlying t with|some (.int k)=>some k|_=>none)))=true:=by kernel_rfl
theorem oV:((Rows.branchIndependentRow.pinned==Rows.branchIndependentRow.pinnedBy))=true:=by kernel_rfl
theorem pT:((Rows.branchIndependentRow.veiled==(Tryz.f7.params.toList++Rows.branchIndependentSpec.plain.varTypes Tryz.prog++Tryz.f7.resultTypes.toList).any (Tryz.prog.veiledRec ·)))=true:=by kernel_rfl
theorem pS:(Rows.branchIndependentRow.veiledFits Tryz.prog Tryz.f7.params.toList (Tryz.f7.params.toList++Rows.branchIndependentSpec.plain.varTypes Tryz.prog++Tryz.f7.resultTypes.toList))=true:=by kernel_rfl
end Go.Proofs.YtfjkncfjclifoaaGreatDoor
