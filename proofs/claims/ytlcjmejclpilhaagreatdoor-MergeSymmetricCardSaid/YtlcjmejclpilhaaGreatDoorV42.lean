/-
  The row of MergeSymmetric and its card.
-/
import Derived.Test.YtlcjmejclpilhaaGreatDoorV38
import Derived.Test.YtlcjmejclpilhaaGreatDoorV39
import Derived.Test.YtlcjmejclpilhaaGreatDoorV40
import Derived.Test.YtlcjmejclpilhaaGreatDoorV41
set_option linter.unusedSimpArgs false
set_option linter.unusedVariables false
set_option maxRecDepth 100000
set_option maxHeartbeats 4000000
namespace Go.Proofs.YtlcjmejclpilhaaGreatDoor
open Go.ChangeShapes Go.WideShapes Go.ChangeAt Go.RowKit Go.AL Go.Proofs
theorem wK{a b:Bool}(ha:a=true)(hb:b=true):(a&&b)=true:=by rw[ha,hb];rfl
set_option maxRecDepth 100000 in
theorem zmK:joinedFacts Tryz.prog 3 Tryz.f3 Rows.mergeSymmetricSpec Rows.mergeSymmetricRow=true:=by
 unfold joinedFacts;exact(wK (wK (wK (wK (wK (wK (wK (wK (wK (wK (wK (wK (wK (wK (wK (wK (wK (wK (wK (wK (wK (wK (wK (wK (wK (wK (wK (wK (wK (wK (wK jf0 jf1) jf2) jf3) jf4) jf5) jf6) jf7) jf8) jf9) zcJ) fZ) gE) yfW) jE) mF) mE) mD) nZ) nH) nE) nD) yfV) nB) nA) oZ) oY) oX) oW) oV) pT) pS)
theorem yd7:Rows.MergeSymmetricSaid:=
 OpenClaim.holds_of_wide 3 Tryz.f3 rfl rfl rfl rfl rfl rfl rfl ⟨rfl,rfl,rfl,rfl,rfl⟩ rfl rfl rfl rfl rfl (by kernel_rfl) Tryz.func3 zmK
  (Xj (by kernel_rfl)) (by unfold Func.isWrapper;first|(rw[Qj (by decide+kernel)];kernel_rfl)|(rw[Qi (by decide+kernel)];exact⟨rfl,rfl⟩))
  (fun os started H enc _=>yd6 os started H enc)
theorem mergeSymmetric_card:Rows.MergeSymmetricCardSaid:=
 Claim7.holds_tied_plain_at .later [] [.data,.widerDeep,.data,.widerDeep] true (true, "0e38b02a15147930d4d90b02833867985025771f0dd3f7faecdde187f9abbe15") false
  yd7 (fun _ h=>by cases h) yd9 (fun _ h=>by cases h) mergeSymmetric_row_tie rfl ⟨rfl,rfl⟩ yeA rfl
  (fun f fn hf hfn=>by
   obtain rfl:f=3:=Option.some.inj ((show Tryz.prog.funcNamed "porism/porismlaw34.MergeSymmetric" =some 3 by kernel_rfl).symm.trans hf) |>.symm
   obtain rfl:fn=Tryz.f3:=(Option.some.inj (Tryz.func3.symm.trans hfn)).symm;exact⟨yeB,fun j t ht=>by
    rw[znX] at ht;have hm:t∈[27,31,31,31]:=by simpa using Kn ht
    have hall:([27,31,31,31].all fun u=> !Tryz.prog.wantsStandIn u)=true:=by kernel_rfl
    exact(show Tryz.prog.wantsStandIn t=false by simpa using Xg.1 hall t hm)⟩)
  yeC
end Go.Proofs.YtlcjmejclpilhaaGreatDoor
