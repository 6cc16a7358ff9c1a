/-
  The closed facts of the row of BranchForks, one by one.
-/
import Derived.Test.YtfjkncfjclifoaaGreatDoorZ16
import Derived.Test.YtfjkncfjclifoaaGreatDoorTie
import Derived.SevenTiedAt
set_option linter.unusedSimpArgs false
set_option linter.unusedVariables false
set_option maxRecDepth 100000
set_option maxHeartbeats 4000000
namespace Go.Proofs.YtfjkncfjclifoaaGreatDoor
open Go
theorem jf0:(Rows.branchForksRow.wf (OpenSpec.ofChange Rows.branchForksSpec))=true:=by kernel_rfl
theorem jf1:(laidOutB Tryz.prog)=true:=by kernel_rfl
theorem jf2:(mapsRowed Tryz.prog)=true:=by kernel_rfl
theorem jf3:(Tryz.f6.params.all (Tryz.prog.readableRec ·))=true:=by kernel_rfl
theorem jf4:(namedTie Tryz.prog Rows.branchForksRow.named Rows.branchForksSpec.vars)=true:=by kernel_rfl
theorem jf5:((Rows.branchForksRow.stops==[]))=true:=by kernel_rfl
theorem jf6:((Tryz.prog.stops==[]))=true:=by kernel_rfl
theorem jf7:((Rows.branchForksRow.knobs==[]))=true:=by kernel_rfl
theorem jf8:((Tryz.prog.stopKnobs==[]))=true:=by kernel_rfl
theorem jf9:((Rows.branchForksRow.inPlace==Tryz.prog.inPlace 6))=true:=by kernel_rfl
theorem zcJ:((Rows.branchForksRow.unfollowed==Tryz.prog.unfollowed 6))=true:=by kernel_rfl
theorem fZ:((Rows.branchForksRow.recurses==Tryz.prog.recurses 6))=true:=by kernel_rfl
theorem gE:((Rows.branchForksRow.named==Tryz.prog.varsNamed 6))=true:=by kernel_rfl
theorem gD:((Rows.branchForksRow.maps==(Tryz.f6.params.toList++Rows.branchForksSpec.plain.varTypes Tryz.prog).any (Tryz.prog.mapsRec ·)))=true:=by kernel_rfl
theorem jE:((Rows.branchForksRow.ifaces==(Tryz.f6.params.toList++Rows.branchForksSpec.plain.varTypes Tryz.prog).any (Tryz.prog.ifacesRec ·)))=true:=by kernel_rfl
theorem mF:((Rows.branchForksRow.mapsOut==Tryz.prog.mapsAmong Tryz.f6.resultTypes.toList))=true:=by kernel_rfl
theorem mE:((Rows.branchForksRow.loops==(Tryz.f6.params.toList++Rows.branchForksSpec.plain.varTypes Tryz.prog).any (Tryz.prog.loopsFrom ·)))=true:=by kernel_rfl
theorem mD:((Rows.branchForksRow.wideKeys==(Tryz.f6.params.toList++Rows.branchForksSpec.plain.varTypes Tryz.prog++Tryz.f6.resultTypes.toList).any (Tryz.prog.wideKeysFrom ·)))=true:=by kernel_rfl
theorem nZ:(Rows.branchForksSpec.vars.all (Tryz.prog.varReadable ·))=true:=by kernel_rfl
theorem nH:(Tryz.f6.resultTypes.all (fun t=>Tryz.prog.readableRec t&&decide (t<Tryz.prog.types.size)))=true:=by kernel_rfl
theorem nE:((Rows.branchForksRow.ifacesOut==Tryz.f6.resultTypes.toList.any (Tryz.prog.ifacesRec ·)))=true:=by kernel_rfl
theorem nD:((Rows.branchForksRow.loopsOut==Tryz.f6.resultTypes.toList.any (Tryz.prog.loopsFrom ·)))=true:=by kernel_rfl
theorem nC:((Rows.branchForksRow.plainKeys==Tryz.prog.plainKeys))=true:=by kernel_rfl
theorem nB:(Rows.branchForksRow.shortTexts.isNone)=true:=by kernel_rfl
theorem nA:(Tryz.prog.stopsHeard)=true:=by kernel_rfl
theorem oZ:(Tryz.prog.mayEnter)=true:=by kernel_rfl
theorem oY:((Rows.branchForksRow.lifted==Tryz.prog.liftsFinal))=true:=by kernel_rfl
theorem oX:((Tryz.prog.make==some Rows.branchForksRow.make))=true:=by kernel_rfl
theorem oW:((Rows.branchForksRow.kinds==(if Rows.branchForksRow.domain.isEmpty then [] else Tryz.f6.params.toList.map fun t=>match Tryz.prog.underlying t with|some (.int k)=>some k|_=>none)))=true:=by kernel_rfl
theorem oV:((Rows.branchForksRow.pinned==Rows.branchForksRow.pinnedBy))=true:=by kernel_rfl
theorem pT:((Rows.branchForksRow.veiled==(Tryz.f6.params.toList++Rows.branchForksSpec.plain.varTypes Tryz.prog++Tryz.f6.resultTypes.toList).any (Tryz.prog.veiledRec ·)))=true:=by kernel_rfl
theorem pS:(Rows.branchForksRow.veiledFits Tryz.prog Tryz.f6.params.toList (Tryz.f6.params.toList++Rows.branchForksSpec.plain.varTypes Tryz.prog++Tryz.f6.resultTypes.toList))=true:=by kernel_rfl
end Go.Proofs.YtfjkncfjclifoaaGreatDoor
