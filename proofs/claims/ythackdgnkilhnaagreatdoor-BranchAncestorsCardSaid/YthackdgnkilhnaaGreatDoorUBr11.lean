/-
  The closed facts of the row of BranchAncestors, one by one.
-/
import Derived.Test.YthackdgnkilhnaaGreatDoorUFacts
import Derived.Test.YthackdgnkilhnaaGreatDoorTie
import Derived.ProofKit
import Derived.SevenTiedAt
set_option linter.unusedSimpArgs false
set_option linter.unusedVariables false
namespace Go.Proofs.YthackdgnkilhnaaGreatDoor
open Go
theorem jf0 : (Rows.branchAncestorsRow.wf (OpenSpec.ofChange Rows.branchAncestorsSpec)) = true := by kernel_rfl
theorem jf1 : (laidOutB Tryz.prog) = true := by kernel_rfl
theorem jf2 : (mapsRowed Tryz.prog) = true := by kernel_rfl
theorem jf3 : (Tryz.f11.params.all (Tryz.prog.readableRec ·)) = true := by kernel_rfl
theorem jf4 : (namedTie Tryz.prog Rows.branchAncestorsRow.named Rows.branchAncestorsSpec.vars) = true := by kernel_rfl
theorem jf5 : ((Rows.branchAncestorsRow.stops == [])) = true := by kernel_rfl
theorem jf6 : ((Tryz.prog.stops == [])) = true := by kernel_rfl
theorem jf7 : ((Rows.branchAncestorsRow.knobs == [])) = true := by kernel_rfl
theorem jf8 : ((Tryz.prog.stopKnobs == [])) = true := by kernel_rfl
theorem jf9 : ((Rows.branchAncestorsRow.inPlace == Tryz.prog.inPlace 11)) = true := by kernel_rfl
theorem jf10 : ((Rows.branchAncestorsRow.unfollowed == Tryz.prog.unfollowed 11)) = true := by kernel_rfl
theorem jf11 : ((Rows.branchAncestorsRow.recurses == Tryz.prog.recurses 11)) = true := by kernel_rfl
theorem jf12 : ((Rows.branchAncestorsRow.named == Tryz.prog.varsNamed 11)) = true := by kernel_rfl
theorem jf13 : ((Rows.branchAncestorsRow.maps == (Tryz.f11.params.toList ++ Rows.branchAncestorsSpec.plain.varTypes Tryz.prog).any (Tryz.prog.mapsRec ·))) = true := by kernel_rfl
theorem jf14 : ((Rows.branchAncestorsRow.ifaces == (Tryz.f11.params.toList ++ Rows.branchAncestorsSpec.plain.varTypes Tryz.prog).any (Tryz.prog.ifacesRec ·))) = true := by kernel_rfl
theorem jf15 : ((Rows.branchAncestorsRow.mapsOut == Tryz.prog.mapsAmong Tryz.f11.resultTypes.toList)) = true := by kernel_rfl
theorem jf16 : ((Rows.branchAncestorsRow.loops == (Tryz.f11.params.toList ++ Rows.branchAncestorsSpec.plain.varTypes Tryz.prog).any (Tryz.prog.loopsFrom ·))) = true := by kernel_rfl
theorem jf17 : ((Rows.branchAncestorsRow.wideKeys == (Tryz.f11.params.toList ++ Rows.branchAncestorsSpec.plain.varTypes Tryz.prog ++ Tryz.f11.resultTypes.toList).any (Tryz.prog.wideKeysFrom ·))) = true := by kernel_rfl
theorem jf18 : (Rows.branchAncestorsSpec.vars.all (Tryz.prog.varReadable ·)) = true := by kernel_rfl
theorem jf19 : (Tryz.f11.resultTypes.all (fun t => Tryz.prog.readableRec t && decide (t < Tryz.prog.types.size))) = true := by kernel_rfl
theorem jf20 : ((Rows.branchAncestorsRow.ifacesOut == Tryz.f11.resultTypes.toList.any (Tryz.prog.ifacesRec ·))) = true := by kernel_rfl
theorem jf21 : ((Rows.branchAncestorsRow.loopsOut == Tryz.f11.resultTypes.toList.any (Tryz.prog.loopsFrom ·))) = true := by kernel_rfl
theorem jf22 : ((Rows.branchAncestorsRow.plainKeys == Tryz.prog.plainKeys)) = true := by kernel_rfl
theorem jf23 : (Rows.branchAncestorsRow.shortTexts.isNone) = true := by kernel_rfl
theorem jf24 : (Tryz.prog.stopsHeard) = true := by kernel_rfl
theorem jf25 : (Tryz.prog.mayEnter) = true := by kernel_rfl
theorem jf26 : ((Rows.branchAncestorsRow.lifted == Tryz.prog.liftsFinal)) = true := by kernel_rfl
theorem jf27 : ((Tryz.prog.make == some Rows.branchAncestorsRow.make)) = true := by kernel_rfl
theorem jf28 : ((Rows.branchAncestorsRow.kinds == (if Rows.branchAncestorsRow.domain.isEmpty then [] else Tryz.f11.params.toList.map fun t => match Tryz.prog.underlying t with | some (.int k) => some k | _ => none))) = true := by kernel_rfl
theorem jf29 : ((Rows.branchAncestorsRow.pinned == Rows.branchAncestorsRow.pinnedBy)) = true := by kernel_rfl
theorem jf30 : ((Rows.branchAncestorsRow.veiled == (Tryz.f11.params.toList ++ Rows.branchAncestorsSpec.plain.varTypes Tryz.prog ++ Tryz.f11.resultTypes.toList).any (Tryz.prog.veiledRec ·))) = true := by kernel_rfl
theorem jf31 : (Rows.branchAncestorsRow.veiledFits Tryz.prog Tryz.f11.params.toList (Tryz.f11.params.toList ++ Rows.branchAncestorsSpec.plain.varTypes Tryz.prog ++ Tryz.f11.resultTypes.toList)) = true := by kernel_rfl
end Go.Proofs.YthackdgnkilhnaaGreatDoor
