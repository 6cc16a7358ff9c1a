/-
  Programs: whether literals, rules, functions and predicates are formed.
-/
import Derived.Test.YtfjkncfjclifoaaGreatDoorZ24
set_option linter.unusedSimpArgs false
set_option linter.unusedVariables false
set_option maxRecDepth 100000
set_option maxHeartbeats 4000000
namespace Go.AL
open Go.Proofs Go.Proofs.Tryz
structure Li.ok (l:Li):Prop where
 n:l.name.size≤140737488355328
 b:l.bind.size≤140737488355328
 e:l.elem.size≤140737488355328
 al:l.args.length≤140737488355328
 a: ∀ t∈l.args,t.ok
structure Li.fm (l:Li):Prop where
 a:l.args.length≤4
 c:l.kind=5→l.args.length=2
 b:l.bind≠eS→l.kind=1
theorem gO (l:List Tm): ∀ x∈l, ∀ p∈([.agg x.c]:List PV),Tree p:=by simp [zJ]
theorem zjN (l:Li) (hl:l.ok):EB 166 [.agg l.c] fun b=>b=true→l.fm:=by
 refine ECall.cut (R:=fun p _=> ∃ b:Bool,p=bo b∧(b=true→l.fm)) (pv func166 78 false (by kernel_rfl) rfl rfl ?_) (by rintro p h ⟨n,rfl,h⟩;exact ⟨n,rfl,h⟩)
 refine g2 ?_
 obtain ⟨kind,name,pred,args,bind,elem,least,op,at'⟩:=l
 obtain ⟨h1,h2,h3,h4,h5⟩:=hl
 dsimp only at h1 h2 h3 h4 h5
 have hall:=zhX args (fun _=>True) 4 164 [] h4 (fun x hx=>(bB x (h5 x hx)).mono (by rintro p ⟨b,rfl,_⟩;exact ⟨b,rfl,fun _=>trivial⟩)) (gO args)
 (repeat' (first|refine nx ?_|(intro zs zh;(try simp only [go_sem] at zh);subst zh)|(refine ns ?_;intro zs zh;(try simp only [go_sem] at zh);subst zh;first|refine nx ?_|refine zH (by omega) ?_|((first|refine zC (hall.call zK (by simp [yO,zJ]) _) ?_|refine zC ((sL name _ _ (vG name h1)).call zK (by simp [yO]) _) ?_|refine zC ((sL elem _ _ (vG elem h3)).call zK (by simp [yO]) _) ?_|refine zC ((sL bind _ _ (tW bind h2)).call zK (by simp [yO]) _) ?_);intro p2 h2 hr2;obtain ⟨hr2,rfl⟩:=hr2;first|obtain ⟨_,rfl,hr2⟩:=hr2|obtain ⟨_,rfl⟩:=hr2|subst hr2|skip)|(refine yS (fun he=> ?_) (fun he=> ?_)<;>(try simp only [decide_eq_true_eq,decide_eq_false_iff_not,Bool.not_eq_true',Bool.not_eq_false',Bool.not_eq_true,beq_iff_eq,beq_eq_false_iff_ne,bne_iff_ne,bne_eq_false_iff_eq] at he)))|((with_reducible refine tO rfl ?_);intro sr hsr;simp only [sK,List.getD_cons_succ,List.getD_cons_zero,Option.map_some,Option.getD_some,Bool.not_false,Bool.not_true] at hsr;subst hsr;(fail_if_success (with_reducible (first|refine tL ?_|refine tN ?_)));refine tK (fun he=> ?_) (fun he=> ?_)<;>(intro ts2 hts;simp only [List.getD_cons_succ,List.getD_cons_zero,Option.getD_some,List.set_cons_zero,List.set_cons_succ] at hts;subst hts;(try simp only [decide_eq_true_eq,decide_eq_false_iff_not,Bool.not_eq_true',Bool.not_eq_false',Bool.not_eq_true,beq_iff_eq,beq_eq_false_iff_ne,bne_iff_ne,bne_eq_false_iff_eq] at he)))))
 all_goals try (exact ⟨false,rfl,by simp⟩)
 all_goals (refine ⟨_,rfl,fun _=>⟨?_,fun hk=> ?_,fun hb=> ?_⟩⟩<;>clear hall<;>dsimp only at* <;>grind)
end Go.AL
