/-
  What the laws ask of the sizes; names; branches found.
-/
import Derived.Test.YtcffidhiaihbkaaGreatDoorX20
set_option linter.unusedSimpArgs false
set_option linter.unusedVariables false
set_option maxRecDepth 100000
set_option maxHeartbeats 4000000
namespace Go.AL
open Go.Proofs Go.Proofs.Tryz
structure Fu.ok (y:Fu):Prop where
 n:y.name.size≤140737488355328
 l:y.lat.size≤140737488355328
 fl:y.fr.length≤140737488355328
 f: ∀ s∈y.fr,s.size≤140737488355328
 tl:y.to.length≤140737488355328
 t: ∀ s∈y.to,s.size≤140737488355328
 tb:y.table.length≤140737488355328
def Fu.fm (f:Fu):Prop:=f.fr.length=f.to.length∧f.fr.length≤8
structure Pd.ok (p:Pd):Prop where
 n:p.name.size≤140737488355328
 l:p.lat.size≤140737488355328
 t:p.types.length≤140737488355328
def Pd.fm (p:Pd):Prop:=0≤p.key∧p.key≤p.types.length∧p.types.length≤4∧(p.key=p.types.length∨p.lat=⟨#[]⟩)
theorem gN (l:List BA): ∀ x∈l, ∀ p∈([yQ x]:List PV),Tree p:=by simp
theorem ziN (l:List Int): ∀ x∈l, ∀ p∈([i64 x]:List PV),Tree p:=by simp
theorem ebT {f:FuncId} {args:List PV} (h:EB f args):EB f args fun b=>b=true→True:=h.mono (by rintro p ⟨b,rfl,_⟩;exact ⟨b,rfl,fun _=>trivial⟩)
theorem zjO (f:Fu) (hf:f.ok):EB 107 [.agg f.c] fun b=>b=true→f.fm:=by
 refine ECall.cut (R:=fun p _=> ∃ b:Bool,p=bo b∧(b=true→f.fm)) (pv func107 35 false (by kernel_rfl) rfl rfl ?_) (by rintro p h ⟨n,rfl,h⟩;exact ⟨n,rfl,h⟩)
 refine g2 ?_
 obtain ⟨name,lat,of',fr,to,table,at'⟩:=f
 obtain ⟨h1,h2,h3,h4,h5,h6,h7⟩:=hf
 dsimp only at h1 h2 h3 h4 h5 h6 h7
 have hfr:=zcD fr (fun _=>True) 8 145 [] h3 (fun x hx=>ebT (vG x (h4 x hx))) (gN fr)
 have hto:=zcD to (fun _=>True) 8 145 [] h5 (fun x hx=>ebT (vG x (h6 x hx))) (gN to)
 (repeat' (first|refine gz ?_|(refine gn ?_;intro zs zh;(try simp only [go_sem] at zh);subst zh;(first|refine gv ?_|((first|refine zC ((vG name h1).call zK (by simp) _) ?_|refine zC ((vG lat h2).call zK (by simp) _) ?_|refine zC (hfr.call zK (by simp [yO]) _) ?_|refine zC (hto.call zK (by simp [yO]) _) ?_);intro p2 h2 hr2;obtain ⟨hr2,rfl⟩:=hr2;first|obtain ⟨_,rfl,hr2⟩:=hr2|obtain ⟨_,rfl⟩:=hr2|subst hr2|skip)|(refine yS (fun he=> ?_) (fun he=> ?_)<;>(try simp only [mM] at he))))|((with_reducible refine tO rfl ?_);intro sr hsr;simp only [sK,wP] at hsr;subst hsr;(fail_if_success (with_reducible (first|refine tL ?_|refine tN ?_)));refine tK (fun he=> ?_) (fun he=> ?_)<;>(intro ts2 hts;simp only [wP] at hts;subst hts;(try simp only [mM] at he)))|fail))
 all_goals try (exact ⟨false,rfl,by simp⟩)
 all_goals (refine ⟨_,rfl,fun hb=> ?_⟩;clear hfr hto;unfold Fu.fm;dsimp only at*;grind)
theorem zdT (n:Int):EB 149 [i64 n]:=by
 refine ECall.pure (pv func149 9 false (by kernel_rfl) rfl rfl ?_)
 refine g2 ?_
 (repeat' (first|refine gp ?_|refine gs (fun he=> ?_) (fun he=> ?_)|fail))
 all_goals (exact ⟨⟨⟨_,rfl,trivial⟩,.sc⟩,rfl⟩)
theorem zf5 (p:Pd) (hp:p.ok):EB 109 [.agg p.c] fun b=>b=true→p.fm:=by
 refine ECall.cut (R:=fun q _=> ∃ b:Bool,q=bo b∧(b=true→p.fm)) (pv func109 59 false (by kernel_rfl) rfl rfl ?_) (by rintro p h ⟨n,rfl,h⟩;exact ⟨n,rfl,h⟩)
 refine g2 ?_
 obtain ⟨name,types,lat,of',base,key,at'⟩:=p
 obtain ⟨h1,h2,h3⟩:=hp
 dsimp only at h1 h2 h3
 have hty:=zkK types (fun _=>True) 4 149 [] h3 (fun x hx=>ebT (zdT x)) (ziN types)
 (repeat' (first|refine gz ?_|(refine gn ?_;intro zs zh;(try simp only [go_sem] at zh);subst zh;(first|refine gv ?_|((first|refine zC ((vG name h1).call zK (by simp) _) ?_|refine zC ((vG lat h2).call zK (by simp) _) ?_|refine zC (hty.call zK (by simp [yO]) _) ?_);intro p2 h2 hr2;obtain ⟨hr2,rfl⟩:=hr2;first|obtain ⟨_,rfl,hr2⟩:=hr2|obtain ⟨_,rfl⟩:=hr2|subst hr2|skip)|(refine yS (fun he=> ?_) (fun he=> ?_)<;>(try simp only [mM] at he))))|((with_reducible refine tO rfl ?_);intro sr hsr;simp only [sK,wP] at hsr;subst hsr;(fail_if_success (with_reducible (first|refine tL ?_|refine tN ?_)));refine tK (fun he=> ?_) (fun he=> ?_)<;>(intro ts2 hts;simp only [wP] at hts;subst hts;(try simp only [mM] at he)))|fail))
 all_goals try (exact ⟨false,rfl,by simp⟩)
 all_goals (refine ⟨_,rfl,fun hb=> ?_⟩;clear hty;unfold Pd.fm;dsimp only at*;grind)
structure Pg.ok (y:Pg):Prop where
 ll:y.lats.length≤140737488355328
 l: ∀ x∈y.lats,x.ok
 fl:y.funs.length≤140737488355328
 f: ∀ x∈y.funs,x.ok
 pl:y.preds.length≤140737488355328
 p: ∀ x∈y.preds,x.ok
 rl:y.rules.length≤140737488355328
 r: ∀ x∈y.rules,x.ok
structure Pg.fm (y:Pg):Prop where
 ll:y.lats.length≤4
 fl:y.funs.length≤8
 f: ∀ x∈y.funs,x.fm
 pl:y.preds.length≤24
 p: ∀ x∈y.preds,x.fm
 rl:y.rules.length≤40
 r: ∀ x∈y.rules,x.fm
theorem aQ (l:La):EB 104 [.agg l.c]:=by
 refine ECall.cut (R:=fun p _=> ∃ b:Bool,p=bo b) (pv func104 6 false (by kernel_rfl) rfl rfl ?_) (by rintro p h ⟨n,rfl⟩;exact ⟨n,rfl,trivial⟩)
 refine g2 ?_
 refine ge ?_
 exact ⟨_,rfl⟩
theorem zdU (p:Pg) (hp:p.ok):EB 74 [.agg p.c] fun b=>b=true→p.fm:=by
 refine ECall.cut (R:=fun q _=> ∃ b:Bool,q=bo b∧(b=true→p.fm)) (pv func74 23 false (by kernel_rfl) rfl rfl ?_) (by rintro p h ⟨n,rfl,h⟩;exact ⟨n,rfl,h⟩)
 refine g2 ?_
 obtain ⟨lats,funs,preds,rules⟩:=p
 obtain ⟨h1,h2,h3,h4,h5,h6,h7,h8⟩:=hp
 dsimp only at h1 h2 h3 h4 h5 h6 h7 h8
 have hla:=zmX lats (fun _=>True) 4 104 [] h1 (fun x hx=>ebT (aQ x)) (by simp [zJ])
 have hfu:=zmY funs Fu.fm 8 107 [] h3 (fun x hx=>zjO x (h4 x hx)) (by simp [zJ])
 have hpd:=zmV preds Pd.fm 24 109 [] h5 (fun x hx=>zf5 x (h6 x hx)) (by simp [zJ])
 have hru:=zmU rules Ru.fm 40 111 [] h7 (fun x hx=>zf4 x (h8 x hx)) (by simp [zJ])
 (repeat' (first|refine gz ?_|(refine gn ?_;intro zs zh;(try simp only [go_sem] at zh);subst zh;(first|refine gv ?_|((first|refine zC (hla.call zK (by simp [yO,zJ]) _) ?_|refine zC (hfu.call zK (by simp [yO,zJ]) _) ?_|refine zC (hpd.call zK (by simp [yO,zJ]) _) ?_|refine zC (hru.call zK (by simp [yO,zJ]) _) ?_);intro p2 h2 hr2;obtain ⟨hr2,rfl⟩:=hr2;first|obtain ⟨_,rfl,hr2⟩:=hr2|obtain ⟨_,rfl⟩:=hr2|subst hr2|skip)|(refine yS (fun he=> ?_) (fun he=> ?_)<;>(try simp only [mM] at he))))|((with_reducible refine tO rfl ?_);intro sr hsr;simp only [sK,wP] at hsr;subst hsr;(fail_if_success (with_reducible (first|refine tL ?_|refine tN ?_)));refine tK (fun he=> ?_) (fun he=> ?_)<;>(intro ts2 hts;simp only [wP] at hts;subst hts;(try simp only [mM] at he)))|fail))
 all_goals try (exact ⟨false,rfl,by simp⟩)
 all_goals (refine ⟨_,rfl,fun hb=>⟨?_,?_,?_,?_,?_,?_,?_⟩⟩<;>clear hla hfu hpd hru<;>dsimp only at* <;>grind)
end Go.AL
namespace Go.AL
open Go.Proofs Go.Proofs.Tryz
def Op1.ok (x:Op1):Prop:=x.args.length≤140737488355328∧ ∀ a∈x.args,a.ok
def Co.ok (x:Co):Prop:=x.ops.length≤1099511627776∧ ∀ a∈x.ops,a.ok
def Br.ok (x:Br):Prop:=x.name.size≤140737488355328
structure Rp.ok (r:Rp):Prop where
 cl:r.cs.length≤1099511627776
 c: ∀ x∈r.cs,x.ok
 bl:r.bs.length≤1099511627776
 b: ∀ x∈r.bs,x.ok
theorem lR (q:Pd):EB 39 [.agg q.c] fun b=>b=(q.of' != -1):=by
 refine ECall.cut (R:=fun v _=> ∃ b:Bool,v=bo b∧b=(q.of' != -1)) (pv func39 6 false (by kernel_rfl) rfl rfl ?_) (by rintro p h ⟨b,rfl,h⟩;exact ⟨b,rfl,h⟩)
 refine g2 ?_
 refine ge ?_
 exact ⟨_,rfl,rfl⟩
end Go.AL
