/-
  Part of the walk.
-/
import Derived.Test.YtlcjmejclpilhaaGreatDoorV14
set_option linter.unusedSimpArgs false
set_option linter.unusedVariables false
set_option maxRecDepth 100000
set_option maxHeartbeats 4000000
namespace Go.AL
open Go.Proofs Go.Proofs.Tryz
structure Ru.ok(r:Ru):Prop where
 n:r.name.size<=140737488355328
 en:r.elem.name.size<=140737488355328
 ev:r.elem.var.size<=140737488355328
 al:r.args.length<=140737488355328
 a: ∀t∈r.args,t.ok
 bl:r.body.length<=140737488355328
 b: ∀l∈r.body,l.ok
structure Ru.fm(r:Ru):Prop where
 a:r.args.length<=4
 b:r.body.length<=8
 l: ∀l∈r.body,l.fm
 n:r.name=eS->r.elem.var=eS
theorem zcY(l:List Li): ∀x∈l, ∀p∈([.agg x.c]:List PV),Tree p:=by simp[zJ]
theorem zf4(r:Ru)(hr:r.ok):EB 217 [.agg r.c] fun b=>b=true->r.fm:=by
 refine ECall.cut (R:=fun p _=> ∃b:Bool,p=bo b/\(b=true->r.fm)) (pv func217 78 false Qf3 rfl rfl ?_) Qhb;refine g2 ?_;obtain⟨name,pred,args,⟨ek,en,ev,ei⟩,body,at'⟩:=r;obtain⟨h1,h2,h3,h4,h5,h6,h7⟩:=hr;dsimp only at h1 h2 h3 h4 h5 h6 h7;have hall:=zhX args (fun _=>True) 4 292 [] h4 (fun x hx=>(bB x (h5 x hx)).mono Qho) (zuN args);have hbod:=zmW body Li.fm 8 294 [] h6 (fun x hx=>zjN x (h7 x hx)) (zcY body);by_cases hk:0<=ek/\ek<=3
 ·have hk4:ek=0\/ek=1\/ek=2\/ek=3:=Qf0;by_cases h0:name=⟨#[]⟩
  ·subst h0;rcases hk4 with rfl|rfl|rfl|rfl
   all_goals ((repeat' (first|refine gz ?_|(refine gn ?_;intro zs zh;(try simp only[go_sem,Int.reduceBEq,Int.reduceBNe] at zh);subst zh;(first|refine gv ?_|((first|refine zC ((vG name h1).call zK Qf1 _) ?_|refine zC ((sL en _ _ (vG en h2)).call zK Qfc _) ?_|refine zC ((sL ev _ _ (tW ev h3)).call zK Qfc _) ?_|refine zC (hall.call zK Qfm _) ?_|refine zC (hbod.call zK Qfm _) ?_);intro p2 h2 hr2;obtain⟨hr2,rfl⟩:=hr2;first|obtain⟨_,rfl,hr2⟩:=hr2|obtain⟨_,rfl⟩:=hr2|subst hr2|skip)|(refine yS (fun he=> ?_) (fun he=> ?_)<;>(try simp only[mM] at he))))|((with_reducible refine tO rfl ?_);intro sr hsr;simp only[sK,wP] at hsr;subst hsr;(fail_if_success(with_reducible(first|refine tL ?_|refine tN ?_)));refine tK (fun he=> ?_) (fun he=> ?_)<;>(intro ts2 hts;simp only[wP] at hts;subst hts;(try simp only[mM] at he)))|fail)))
   all_goals try(exact⟨false,rfl,Qf1⟩)
   all_goals (refine⟨_,rfl,fun hb=>⟨?_,?_,?_,fun hn=> ?_⟩⟩<;>clear hall hbod<;>dsimp only at* <;>grind)
  ·rcases hk4 with rfl|rfl|rfl|rfl
   all_goals ((repeat' (first|refine gz ?_|(refine gn ?_;intro zs zh;(try simp only[go_sem,h0,Int.reduceBEq,Int.reduceBNe] at zh);subst zh;(first|refine gv ?_|((first|refine zC ((vG name h1).call zK Qf1 _) ?_|refine zC ((sL en _ _ (vG en h2)).call zK Qfc _) ?_|refine zC ((sL ev _ _ (tW ev h3)).call zK Qfc _) ?_|refine zC (hall.call zK Qfm _) ?_|refine zC (hbod.call zK Qfm _) ?_);intro p2 h2 hr2;obtain⟨hr2,rfl⟩:=hr2;first|obtain⟨_,rfl,hr2⟩:=hr2|obtain⟨_,rfl⟩:=hr2|subst hr2|skip)|(refine yS (fun he=> ?_) (fun he=> ?_)<;>(try simp only[mM] at he))))|((with_reducible refine tO rfl ?_);intro sr hsr;simp only[sK,wP] at hsr;subst hsr;(fail_if_success(with_reducible(first|refine tL ?_|refine tN ?_)));refine tK (fun he=> ?_) (fun he=> ?_)<;>(intro ts2 hts;simp only[wP] at hts;subst hts;(try simp only[mM] at he)))|fail)))
   all_goals try(exact⟨false,rfl,Qf1⟩)
   all_goals (refine⟨_,rfl,fun hb=>⟨?_,?_,?_,fun hn=> ?_⟩⟩<;>clear hall hbod<;>dsimp only at* <;>grind)
 ·(repeat' (first|refine gz ?_|(refine gn ?_;intro zs zh;(try simp only[go_sem] at zh);subst zh;(first|refine gv ?_|((first|refine zC ((vG name h1).call zK Qf1 _) ?_|refine zC ((sL en _ _ (vG en h2)).call zK Qfc _) ?_|refine zC ((sL ev _ _ (tW ev h3)).call zK Qfc _) ?_|refine zC (hall.call zK Qfm _) ?_|refine zC (hbod.call zK Qfm _) ?_);intro p2 h2 hr2;obtain⟨hr2,rfl⟩:=hr2;first|obtain⟨_,rfl,hr2⟩:=hr2|obtain⟨_,rfl⟩:=hr2|subst hr2|skip)|(refine yS (fun he=> ?_) (fun he=> ?_)<;>(try simp only[mM] at he))))|((with_reducible refine tO rfl ?_);intro sr hsr;simp only[sK,wP] at hsr;subst hsr;(fail_if_success(with_reducible(first|refine tL ?_|refine tN ?_)));refine tK (fun he=> ?_) (fun he=> ?_)<;>(intro ts2 hts;simp only[wP] at hts;subst hts;(try simp only[mM] at he)))|fail));all_goals try(exact⟨false,rfl,Qf1⟩)
  all_goals (exfalso;omega)
end Go.AL
