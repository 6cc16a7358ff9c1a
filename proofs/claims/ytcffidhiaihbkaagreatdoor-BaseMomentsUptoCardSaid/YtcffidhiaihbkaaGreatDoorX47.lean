/-
  The row of BaseMoments and its card.
-/
import Derived.Test.YtcffidhiaihbkaaGreatDoorX46
set_option linter.unusedSimpArgs false
set_option linter.unusedVariables false
set_option maxRecDepth 100000
set_option maxHeartbeats 4000000
namespace Go.Proofs.YtcffidhiaihbkaaGreatDoor
open Go.ChangeShapes Go.WideShapes Go.ChangeAt Go.RowKit Go.AL Go.Proofs
theorem wK {a b:Bool} (ha:a=true) (hb:b=true):(a&&b)=true:=by rw [ha,hb];rfl
set_option maxRecDepth 100000 in
theorem zmK:joinedFacts Tryz.prog 3 Tryz.f3 (Rows.OpenSpec.upto Rows.baseMomentsSpec).bare Rows.baseMomentsUptoRow=true:=by
 unfold joinedFacts
 exact (wK (wK (wK (wK (wK (wK (wK (wK (wK (wK (wK (wK (wK (wK (wK (wK (wK (wK (wK (wK (wK (wK (wK (wK (wK (wK (wK (wK (wK (wK (wK jf0 jf1) jf2) jf3) jf4) jf5) jf6) jf7) jf8) jf9) zcJ) fZ) gE) gD) jE) mF) mE) mD) nZ) nH) nE) nD) nC) nB) nA) oZ) oY) oX) oW) oV) pT) pS)
theorem pV:Rows.BaseMomentsUptoSaid:=
 OpenClaim.holds_of_cond 3 Tryz.f3 rfl rfl rfl rfl rfl rfl rfl ⟨rfl,rfl,rfl,rfl,rfl⟩ rfl rfl rfl rfl rfl (by kernel_rfl) Tryz.func3 zmK
  (of_decide_eq_true (by kernel_rfl)) (by unfold Func.isWrapper;first|(rw [if_pos (by decide+kernel)];kernel_rfl)|(rw [if_neg (by decide+kernel)];exact ⟨rfl,rfl⟩))
  (fun os started H enc _ F=>by rw [OpenClaim.pre_eq_preRow];exact pP os started H enc F)
theorem baseMomentsUpto_card:Rows.BaseMomentsUptoCardSaid:=
 Claim7.holds_tied_plain_at .later [] [.data,.widerDeep,.widerDeep] true (true, "3798c2315ebef985ca3079b798da4d5d478c6bc720ddfeb4026e80afc60d19e0") false
  pV (fun _ h=>by cases h) (by kernel_rfl) (fun _ h=>by cases h) baseMomentsUpto_row_tie rfl ⟨rfl,rfl⟩ (by kernel_rfl) rfl
  (fun f fn hf hfn=>by
   obtain rfl:f=3:=Option.some.inj ((show Tryz.prog.funcNamed "porism/porismlaw30.BaseMoments" =some 3 by kernel_rfl).symm.trans hf) |>.symm
   obtain rfl:fn=Tryz.f3:=(Option.some.inj (Tryz.func3.symm.trans hfn)).symm
   exact ⟨by kernel_rfl,fun j t ht=>by
    rw [znX] at ht
    have hm:t∈[27,31,38,3,32,5]:=by simpa using Array.mem_of_getElem? ht
    have hall:([27,31,38,3,32,5].all fun u=> !Tryz.prog.wantsStandIn u)=true:=by kernel_rfl
    exact (show Tryz.prog.wantsStandIn t=false by simpa using List.all_eq_true.1 hall t hm)⟩)
  (by kernel_rfl)
end Go.Proofs.YtcffidhiaihbkaaGreatDoor
