/-
  The closed facts of the row of BranchIsolated, one by one.
-/
import Derived.Test.YtfjkncfjclifoaaGreatDoorZ16
import Derived.Test.YtfjkncfjclifoaaGreatDoorTie
import Derived.SevenTiedAt
set_option linter.unusedSimpArgs false
set_option linter.unusedVariables false
set_option maxRecDepth 100000
set_option maxHeartbeats 4000000
namespace Go.Proofs.YtfjkncfjclifoaaGreatDoor
open Go
theorem jf0:(Rows.branchIsolatedRow.wf (OpenSpec.ofChange Rows.branchIsolatedSpec))=true:=by kernel_rfl
theorem jf1:(laidOutB Tryz.prog)=true:=by kernel_rfl
theorem jf2:(mapsRowed Tryz.prog)=true:=by kernel_rfl
theorem jf3:(Tryz.f3.params.all (Tryz.prog.readableRec ·))=true:=by kernel_rfl
theorem jf4:(namedTie Tryz.prog Rows.branchIsolatedRow.named Rows.branchIsolatedSpec.vars)=true:=by kernel_rfl
theorem jf5:((Rows.branchIsolatedRow.stops==[]))=true:=by kernel_rfl
theorem jf6:((Tryz.prog.stops==[]))=true:=by kernel_rfl
theorem jf7:((Rows.branchIsolatedRow.knobs==[]))=true:=by kernel_rfl
theorem jf8:((Tryz.prog.stopKnobs==[]))=true:=by kernel_rfl
theorem jf9:((Rows.branchIsolatedRow.inPlace==Tryz.prog.inPlace 3))=true:=by kernel_rfl
theorem zcJ:((Rows.branchIsolatedRow.unfollowed==Tryz.prog.unfollowed 3))=true:=by kernel_rfl
theorem fZ:((Rows.branchIsolatedRow.recurses==Tryz.prog.recurses 3))=true:=by kernel_rfl
theorem gE:((Rows.branchIsolatedRow.named==Tryz.prog.varsNamed 3))=true:=by kernel_rfl
theorem gD:((Rows.branchIsolatedRow.maps==(Tryz.f3.params.toList++Rows.branchIsolatedSpec.plain.varTypes Tryz.prog).any (Tryz.prog.mapsRec ·)))=true:=by kernel_rfl
theorem jE:((Rows.branchIsolatedRow.ifaces==(Tryz.f3.params.toList++Rows.branchIsolatedSpec.plain.varTypes Tryz.prog).any (Tryz.prog.ifacesRec ·)))=true:=by kernel_rfl
theorem mF:((Rows.branchIsolatedRow.mapsOut==Tryz.prog.mapsAmong Tryz.f3.resultTypes.toList))=true:=by kernel_rfl
theorem mE:((Rows.branchIsolatedRow.loops==(Tryz.f3.params.toList++Rows.branchIsolatedSpec.plain.varTypes Tryz.prog).any (Tryz.prog.loopsFrom ·)))=true:=by kernel_rfl
theorem mD:((Rows.branchIsolatedRow.wideKeys==(Tryz.f3.params.toList++Rows.branchIsolatedSpec.plain.varTypes Tryz.prog++Tryz.f3.resultTypes.toList).any (Tryz.prog.wideKeysFrom ·)))=true:=by kernel_rfl
theorem nZ:(Rows.branchIsolatedSpec.vars.all (Tryz.prog.varReadable ·))=true:=by kernel_rfl
theorem nH:(Tryz.f3.resultTypes.all (fun t=>Tryz.prog.readableRec t&&decide (t<Tryz.prog.types.size)))=true:=by kernel_rfl
theorem nE:((Rows.branchIsolatedRow.ifacesOut==Tryz.f3.resultTypes.toList.any (Tryz.prog.ifacesRec ·)))=true:=by kernel_rfl
theorem nD:((Rows.branchIsolatedRow.loopsOut==Tryz.f3.resultTypes.toList.any (Tryz.prog.loopsFrom ·)))=true:=by kernel_rfl
theorem nC:((Rows.branchIsolatedRow.plainKeys==Tryz.prog.plainKeys))=true:=by kernel_rfl
theorem nB:(Rows.branchIsolatedRow.shortTexts.isNone)=true:=by kernel_rfl
theorem nA:(Tryz.prog.stopsHeard)=true:=by kernel_rfl
theorem oZ:(Tryz.prog.mayEnter)=true:=by kernel_rfl
theorem oY:((Rows.branchIsolatedRow.lifted==Tryz.prog.liftsFinal))=true:=by kernel_rfl
theorem oX:((Tryz.prog.make==some Rows.branchIsolatedRow.make))=true:=by kernel_rfl
theorem oW:((Rows.branchIsolatedRow.kinds==(if Rows.branchIsolatedRow.domain.isEmpty then [] else Tryz.f3.params.toList.map fun t=>match Tryz.prog.underlying t with|some (.int k)=>some k|_=>none)))=true:=by kernel_rfl
theorem oV:((Rows.branchIsolatedRow.pinned==Rows.branchIsolatedRow.pinnedBy))=true:=by kernel_rfl
theorem pT:((Rows.branchIsolatedRow.veiled==(Tryz.f3.params.toList++Rows.branchIsolatedSpec.plain.varTypes Tryz.prog++Tryz.f3.resultTypes.toList).any (Tryz.prog.veiledRec ·)))=true:=by kernel_rfl
theorem pS:(Rows.branchIsolatedRow.veiledFits Tryz.prog Tryz.f3.params.toList (Tryz.f3.params.toList++Rows.branchIsolatedSpec.plain.varTypes Tryz.prog++Tryz.f3.resultTypes.toList))=true:=by kernel_rfl
end Go.Proofs.YtfjkncfjclifoaaGreatDoor
