/-
  The row of BranchMeets and its card.
-/
import Derived.Test.YtfjkncfjclifoaaGreatDoorZ45
import Derived.Test.YtfjkncfjclifoaaGreatDoorZ46
set_option linter.unusedSimpArgs false
set_option linter.unusedVariables false
set_option maxRecDepth 100000
set_option maxHeartbeats 4000000
namespace Go.Proofs.YtfjkncfjclifoaaGreatDoor
open Go.ChangeShapes Go.WideShapes Go.ChangeAt Go.RowKit Go.AL Go.Proofs
theorem wK {a b:Bool} (ha:a=true) (hb:b=true):(a&&b)=true:=by rw [ha,hb];rfl
set_option maxRecDepth 100000 in
theorem zmK:joinedFacts Tryz.prog 8 Tryz.f8 Rows.branchMeetsSpec Rows.branchMeetsRow=true:=by
 unfold joinedFacts
 exact (wK (wK (wK (wK (wK (wK (wK (wK (wK (wK (wK (wK (wK (wK (wK (wK (wK (wK (wK (wK (wK (wK (wK (wK (wK (wK (wK (wK (wK (wK (wK jf0 jf1) jf2) jf3) jf4) jf5) jf6) jf7) jf8) jf9) jf10) jf11) jf12) jf13) jf14) jf15) jf16) jf17) jf18) jf19) jf20) jf21) jf22) jf23) jf24) jf25) jf26) jf27) jf28) jf29) jf30) jf31)
theorem nZ:Rows.BranchMeetsSaid:=
 OpenClaim.holds_of_wide 8 Tryz.f8 rfl rfl rfl rfl rfl rfl rfl ⟨rfl,rfl,rfl,rfl,rfl⟩ rfl rfl rfl rfl rfl (by kernel_rfl) Tryz.func8 zmK
  (of_decide_eq_true (by kernel_rfl)) (by unfold Func.isWrapper;first|(rw [if_pos (by decide+kernel)];kernel_rfl)|(rw [if_neg (by decide+kernel)];exact ⟨rfl,rfl⟩))
  (fun os started H enc _=>nH os started H enc)
theorem branchMeets_card:Rows.BranchMeetsCardSaid:=
 Claim7.holds_tied_plain_at .later [] [.data,.widerDeep,.widerDeep] true (true, "b357607866b333e521b0c846016e96bbcd32f8d31f0cad443502b2b688c60ddf") false
  nZ (fun _ h=>by cases h) (by kernel_rfl) (fun _ h=>by cases h) branchMeets_row_tie rfl ⟨rfl,rfl⟩ (by kernel_rfl) rfl
  (fun f fn hf hfn=>by
   obtain rfl:f=8:=Option.some.inj ((show Tryz.prog.funcNamed "porism/porismlaw33.BranchMeets" =some 8 by kernel_rfl).symm.trans hf) |>.symm
   obtain rfl:fn=Tryz.f8:=(Option.some.inj (Tryz.func8.symm.trans hfn)).symm
   exact ⟨by kernel_rfl,fun j t ht=>by
    rw [ps_] at ht
    have hm:t∈[27,31,5,9,32,65]:=by simpa using Array.mem_of_getElem? ht
    have hall:([27,31,5,9,32,65].all fun u=> !Tryz.prog.wantsStandIn u)=true:=by kernel_rfl
    exact (show Tryz.prog.wantsStandIn t=false by simpa using List.all_eq_true.1 hall t hm)⟩)
  (by kernel_rfl)
end Go.Proofs.YtfjkncfjclifoaaGreatDoor
