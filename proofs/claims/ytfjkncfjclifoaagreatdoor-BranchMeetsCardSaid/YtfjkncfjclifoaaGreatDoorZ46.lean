/-
  The closed facts of the row of BranchMeets, one by one.
-/
import Derived.Test.YtfjkncfjclifoaaGreatDoorZ16
import Derived.Test.YtfjkncfjclifoaaGreatDoorTie
import Derived.SevenTiedAt
set_option linter.unusedSimpArgs false
set_option linter.unusedVariables false
set_option maxRecDepth 100000
set_option maxHeartbeats 4000000
namespace Go.Proofs.YtfjkncfjclifoaaGreatDoor
open Go
theorem jf0:(Rows.branchMeetsRow.wf (OpenSpec.ofChange Rows.branchMeetsSpec))=true:=by kernel_rfl
theorem jf1:(laidOutB Tryz.prog)=true:=by kernel_rfl
theorem jf2:(mapsRowed Tryz.prog)=true:=by kernel_rfl
theorem jf3:(Tryz.f8.params.all (Tryz.prog.readableRec ·))=true:=by kernel_rfl
theorem jf4:(namedTie Tryz.prog Rows.branchMeetsRow.named Rows.branchMeetsSpec.vars)=true:=by kernel_rfl
theorem jf5:((Rows.branchMeetsRow.stops==[]))=true:=by kernel_rfl
theorem jf6:((Tryz.prog.stops==[]))=true:=by kernel_rfl
theorem jf7:((Rows.branchMeetsRow.knobs==[]))=true:=by kernel_rfl
theorem jf8:((Tryz.prog.stopKnobs==[]))=true:=by kernel_rfl
theorem jf9:((Rows.branchMeetsRow.inPlace==Tryz.prog.inPlace 8))=true:=by kernel_rfl
theorem jf10:((Rows.branchMeetsRow.unfollowed==Tryz.prog.unfollowed 8))=true:=by kernel_rfl
theorem jf11:((Rows.branchMeetsRow.recurses==Tryz.prog.recurses 8))=true:=by kernel_rfl
theorem jf12:((Rows.branchMeetsRow.named==Tryz.prog.varsNamed 8))=true:=by kernel_rfl
theorem jf13:((Rows.branchMeetsRow.maps==(Tryz.f8.params.toList++Rows.branchMeetsSpec.plain.varTypes Tryz.prog).any (Tryz.prog.mapsRec ·)))=true:=by kernel_rfl
theorem jf14:((Rows.branchMeetsRow.ifaces==(Tryz.f8.params.toList++Rows.branchMeetsSpec.plain.varTypes Tryz.prog).any (Tryz.prog.ifacesRec ·)))=true:=by kernel_rfl
theorem jf15:((Rows.branchMeetsRow.mapsOut==Tryz.prog.mapsAmong Tryz.f8.resultTypes.toList))=true:=by kernel_rfl
theorem jf16:((Rows.branchMeetsRow.loops==(Tryz.f8.params.toList++Rows.branchMeetsSpec.plain.varTypes Tryz.prog).any (Tryz.prog.loopsFrom ·)))=true:=by kernel_rfl
theorem jf17:((Rows.branchMeetsRow.wideKeys==(Tryz.f8.params.toList++Rows.branchMeetsSpec.plain.varTypes Tryz.prog++Tryz.f8.resultTypes.toList).any (Tryz.prog.wideKeysFrom ·)))=true:=by kernel_rfl
theorem jf18:(Rows.branchMeetsSpec.vars.all (Tryz.prog.varReadable ·))=true:=by kernel_rfl
theorem jf19:(Tryz.f8.resultTypes.all (fun t=>Tryz.prog.readableRec t&&decide (t<Tryz.prog.types.size)))=true:=by kernel_rfl
theorem jf20:((Rows.branchMeetsRow.ifacesOut==Tryz.f8.resultTypes.toList.any (Tryz.prog.ifacesRec ·)))=true:=by kernel_rfl
theorem jf21:((Rows.branchMeetsRow.loopsOut==Tryz.f8.resultTypes.toList.any (Tryz.prog.loopsFrom ·)))=true:=by kernel_rfl
theorem jf22:((Rows.branchMeetsRow.plainKeys==Tryz.prog.plainKeys))=true:=by kernel_rfl
theorem jf23:(Rows.branchMeetsRow.shortTexts.isNone)=true:=by kernel_rfl
theorem jf24:(Tryz.prog.stopsHeard)=true:=by kernel_rfl
theorem jf25:(Tryz.prog.mayEnter)=true:=by kernel_rfl
theorem jf26:((Rows.branchMeetsRow.lifted==Tryz.prog.liftsFinal))=true:=by kernel_rfl
theorem jf27:((Tryz.prog.make==some Rows.branchMeetsRow.make))=true:=by kernel_rfl
theorem jf28:((Rows.branchMeetsRow.kinds==(if Rows.branchMeetsRow.domain.isEmpty then [] else Tryz.f8.params.toList.map fun t=>match Tryz.prog.underlying t with|some (.int k)=>some k|_=>none)))=true:=by kernel_rfl
theorem jf29:((Rows.branchMeetsRow.pinned==Rows.branchMeetsRow.pinnedBy))=true:=by kernel_rfl
theorem jf30:((Rows.branchMeetsRow.veiled==(Tryz.f8.params.toList++Rows.branchMeetsSpec.plain.varTypes Tryz.prog++Tryz.f8.resultTypes.toList).any (Tryz.prog.veiledRec ·)))=true:=by kernel_rfl
theorem jf31:(Rows.branchMeetsRow.veiledFits Tryz.prog Tryz.f8.params.toList (Tryz.f8.params.toList++Rows.branchMeetsSpec.plain.varTypes Tryz.prog++Tryz.f8.resultTypes.toList))=true:=by kernel_rfl
end Go.Proofs.YtfjkncfjclifoaaGreatDoor
