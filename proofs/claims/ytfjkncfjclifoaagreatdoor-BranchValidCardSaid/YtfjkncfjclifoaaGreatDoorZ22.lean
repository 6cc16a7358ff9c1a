/-
  Relations: rows sorted in place: parts merged, short ones.
-/
import Derived.Test.YtfjkncfjclifoaaGreatDoorZ21
set_option linter.unusedSimpArgs false
set_option linter.unusedVariables false
set_option maxRecDepth 100000
set_option maxHeartbeats 4000000
namespace Go.AL
open Go.Proofs Go.Proofs.Tryz
structure Fu.ok (y:Fu):Prop where
 n:y.name.size≤140737488355328
 l:y.lat.size≤140737488355328
 fl:y.fr.length≤140737488355328
 f: ∀ s∈y.fr,s.size≤140737488355328
 tl:y.to.length≤140737488355328
 t: ∀ s∈y.to,s.size≤140737488355328
 tb:y.table.length≤140737488355328
def Fu.fm (f:Fu):Prop:=f.fr.length=f.to.length∧f.fr.length≤8
structure Pd.ok (p:Pd):Prop where
 n:p.name.size≤140737488355328
 l:p.lat.size≤140737488355328
 t:p.types.length≤140737488355328
def Pd.fm (p:Pd):Prop:=0≤p.key∧p.key≤p.types.length∧p.types.length≤4
theorem gN (l:List BA): ∀ x∈l, ∀ p∈([yQ x]:List PV),Tree p:=by simp
theorem ziN (l:List Int): ∀ x∈l, ∀ p∈([i64 x]:List PV),Tree p:=by simp
theorem ebT {f:FuncId} {args:List PV} (h:EB f args):EB f args fun b=>b=true→True:=h.mono (by rintro p ⟨b,rfl,_⟩;exact ⟨b,rfl,fun _=>trivial⟩)
theorem zjO (f:Fu) (hf:f.ok):EB 111 [.agg f.c] fun b=>b=true→f.fm:=by
 refine ECall.cut (R:=fun p _=> ∃ b:Bool,p=bo b∧(b=true→f.fm)) (pv func111 35 false (by kernel_rfl) rfl rfl ?_) (by rintro p h ⟨n,rfl,h⟩;exact ⟨n,rfl,h⟩)
 refine g2 ?_
 obtain ⟨name,lat,of',fr,to,table,at'⟩:=f
 obtain ⟨h1,h2,h3,h4,h5,h6,h7⟩:=hf
 dsimp only at h1 h2 h3 h4 h5 h6 h7
 have hfr:=zcD fr (fun _=>True) 8 153 [] h3 (fun x hx=>ebT (vG x (h4 x hx))) (gN fr)
 have hto:=zcD to (fun _=>True) 8 153 [] h5 (fun x hx=>ebT (vG x (h6 x hx))) (gN to)
 (repeat' (first|refine gz ?_|(refine gn ?_;intro zs zh;(try simp only [go_sem] at zh);subst zh;(first|refine gv ?_|((first|refine zC ((vG name h1).call zK (by simp) _) ?_|refine zC ((vG lat h2).call zK (by simp) _) ?_|refine zC (hfr.call zK (by simp [yO]) _) ?_|refine zC (hto.call zK (by simp [yO]) _) ?_);intro p2 h2 hr2;obtain ⟨hr2,rfl⟩:=hr2;first|obtain ⟨_,rfl,hr2⟩:=hr2|obtain ⟨_,rfl⟩:=hr2|subst hr2|skip)|(refine yS (fun he=> ?_) (fun he=> ?_)<;>(try simp only [decide_eq_true_eq,decide_eq_false_iff_not,Bool.not_eq_true',Bool.not_eq_false',Bool.not_eq_true,beq_iff_eq,beq_eq_false_iff_ne,bne_iff_ne,bne_eq_false_iff_eq] at he))))|((with_reducible refine tO rfl ?_);intro sr hsr;simp only [sK,List.getD_cons_succ,List.getD_cons_zero,Option.map_some,Option.getD_some,Bool.not_false,Bool.not_true] at hsr;subst hsr;(fail_if_success (with_reducible (first|refine tL ?_|refine tN ?_)));refine tK (fun he=> ?_) (fun he=> ?_)<;>(intro ts2 hts;simp only [List.getD_cons_succ,List.getD_cons_zero,Option.getD_some,List.set_cons_zero,List.set_cons_succ] at hts;subst hts;(try simp only [decide_eq_true_eq,decide_eq_false_iff_not,Bool.not_eq_true',Bool.not_eq_false',Bool.not_eq_true,beq_iff_eq,beq_eq_false_iff_ne,bne_iff_ne,bne_eq_false_iff_eq] at he)))|fail))
 all_goals try (exact ⟨false,rfl,by simp⟩)
 all_goals (refine ⟨_,rfl,fun hb=> ?_⟩;clear hfr hto;unfold Fu.fm;dsimp only at*;grind)
theorem zdT (n:Int):EB 157 [i64 n]:=by
 refine ECall.pure (pv func157 9 false (by kernel_rfl) rfl rfl ?_)
 refine g2 ?_
 (repeat' (first|refine gp ?_|refine gs (fun he=> ?_) (fun he=> ?_)|fail))
 all_goals (exact ⟨⟨⟨_,rfl,trivial⟩,.sc⟩,rfl⟩)
theorem zf5 (p:Pd) (hp:p.ok):EB 113 [.agg p.c] fun b=>b=true→p.fm:=by
 refine ECall.cut (R:=fun q _=> ∃ b:Bool,q=bo b∧(b=true→p.fm)) (pv func113 59 false (by kernel_rfl) rfl rfl ?_) (by rintro p h ⟨n,rfl,h⟩;exact ⟨n,rfl,h⟩)
 refine g2 ?_
 obtain ⟨name,types,lat,of',base,key,at'⟩:=p
 obtain ⟨h1,h2,h3⟩:=hp
 dsimp only at h1 h2 h3
 have hty:=zkK types (fun _=>True) 4 157 [] h3 (fun x hx=>ebT (zdT x)) (ziN types)
 (repeat' (first|refine gz ?_|(refine gn ?_;intro zs zh;(try simp only [go_sem] at zh);subst zh;(first|refine gv ?_|((first|refine zC ((vG name h1).call zK (by simp) _) ?_|refine zC ((vG lat h2).call zK (by simp) _) ?_|refine zC (hty.call zK (by simp [yO]) _) ?_);intro p2 h2 hr2;obtain ⟨hr2,rfl⟩:=hr2;first|obtain ⟨_,rfl,hr2⟩:=hr2|obtain ⟨_,rfl⟩:=hr2|subst hr2|skip)|(refine yS (fun he=> ?_) (fun he=> ?_)<;>(try simp only [decide_eq_true_eq,decide_eq_false_iff_not,Bool.not_eq_true',Bool.not_eq_false',Bool.not_eq_true,beq_iff_eq,beq_eq_false_iff_ne,bne_iff_ne,bne_eq_false_iff_eq] at he))))|((with_reducible refine tO rfl ?_);intro sr hsr;simp only [sK,List.getD_cons_succ,List.getD_cons_zero,Option.map_some,Option.getD_some,Bool.not_false,Bool.not_true] at hsr;subst hsr;(fail_if_success (with_reducible (first|refine tL ?_|refine tN ?_)));refine tK (fun he=> ?_) (fun he=> ?_)<;>(intro ts2 hts;simp only [List.getD_cons_succ,List.getD_cons_zero,Option.getD_some,List.set_cons_zero,List.set_cons_succ] at hts;subst hts;(try simp only [decide_eq_true_eq,decide_eq_false_iff_not,Bool.not_eq_true',Bool.not_eq_false',Bool.not_eq_true,beq_iff_eq,beq_eq_false_iff_ne,bne_iff_ne,bne_eq_false_iff_eq] at he)))|fail))
 all_goals try (exact ⟨false,rfl,by simp⟩)
 all_goals (refine ⟨_,rfl,fun hb=> ?_⟩;clear hty;unfold Pd.fm;dsimp only at*;grind)
structure Pg.ok (y:Pg):Prop where
 ll:y.lats.length≤140737488355328
 l: ∀ x∈y.lats,x.ok
 fl:y.funs.length≤140737488355328
 f: ∀ x∈y.funs,x.ok
 pl:y.preds.length≤140737488355328
 p: ∀ x∈y.preds,x.ok
 rl:y.rules.length≤140737488355328
 r: ∀ x∈y.rules,x.ok
structure Pg.fm (y:Pg):Prop where
 ll:y.lats.length≤4
 fl:y.funs.length≤8
 f: ∀ x∈y.funs,x.fm
 pl:y.preds.length≤24
 p: ∀ x∈y.preds,x.fm
 rl:y.rules.length≤40
 r: ∀ x∈y.rules,x.fm
theorem aQ (l:La):EB 108 [.agg l.c]:=by
 refine ECall.cut (R:=fun p _=> ∃ b:Bool,p=bo b) (pv func108 6 false (by kernel_rfl) rfl rfl ?_) (by rintro p h ⟨n,rfl⟩;exact ⟨n,rfl,trivial⟩)
 refine g2 ?_
 refine ge ?_
 exact ⟨_,rfl⟩
theorem zdU (p:Pg) (hp:p.ok):EB 84 [.agg p.c] fun b=>b=true→p.fm:=by
 refine ECall.cut (R:=fun q _=> ∃ b:Bool,q=bo b∧(b=true→p.fm)) (pv func84 23 false (by kernel_rfl) rfl rfl ?_) (by rintro p h ⟨n,rfl,h⟩;exact ⟨n,rfl,h⟩)
 refine g2 ?_
 obtain ⟨lats,funs,preds,rules⟩:=p
 obtain ⟨h1,h2,h3,h4,h5,h6,h7,h8⟩:=hp
 dsimp only at h1 h2 h3 h4 h5 h6 h7 h8
 have hla:=zmX lats (fun _=>True) 4 108 [] h1 (fun x hx=>ebT (aQ x)) (by simp [zJ])
 have hfu:=zmY funs Fu.fm 8 111 [] h3 (fun x hx=>zjO x (h4 x hx)) (by simp [zJ])
 have hpd:=zmV preds Pd.fm 24 113 [] h5 (fun x hx=>zf5 x (h6 x hx)) (by simp [zJ])
 have hru:=zmU rules Ru.fm 40 115 [] h7 (fun x hx=>zf4 x (h8 x hx)) (by simp [zJ])
 (repeat' (first|refine gz ?_|(refine gn ?_;intro zs zh;(try simp only [go_sem] at zh);subst zh;(first|refine gv ?_|((first|refine zC (hla.call zK (by simp [yO,zJ]) _) ?_|refine zC (hfu.call zK (by simp [yO,zJ]) _) ?_|refine zC (hpd.call zK (by simp [yO,zJ]) _) ?_|refine zC (hru.call zK (by simp [yO,zJ]) _) ?_);intro p2 h2 hr2;obtain ⟨hr2,rfl⟩:=hr2;first|obtain ⟨_,rfl,hr2⟩:=hr2|obtain ⟨_,rfl⟩:=hr2|subst hr2|skip)|(refine yS (fun he=> ?_) (fun he=> ?_)<;>(try simp only [decide_eq_true_eq,decide_eq_false_iff_not,Bool.not_eq_true',Bool.not_eq_false',Bool.not_eq_true,beq_iff_eq,beq_eq_false_iff_ne,bne_iff_ne,bne_eq_false_iff_eq] at he))))|((with_reducible refine tO rfl ?_);intro sr hsr;simp only [sK,List.getD_cons_succ,List.getD_cons_zero,Option.map_some,Option.getD_some,Bool.not_false,Bool.not_true] at hsr;subst hsr;(fail_if_success (with_reducible (first|refine tL ?_|refine tN ?_)));refine tK (fun he=> ?_) (fun he=> ?_)<;>(intro ts2 hts;simp only [List.getD_cons_succ,List.getD_cons_zero,Option.getD_some,List.set_cons_zero,List.set_cons_succ] at hts;subst hts;(try simp only [decide_eq_true_eq,decide_eq_false_iff_not,Bool.not_eq_true',Bool.not_eq_false',Bool.not_eq_true,beq_iff_eq,beq_eq_false_iff_ne,bne_iff_ne,bne_eq_false_iff_eq] at he)))|fail))
 all_goals try (exact ⟨false,rfl,by simp⟩)
 all_goals (refine ⟨_,rfl,fun hb=>⟨?_,?_,?_,?_,?_,?_,?_⟩⟩<;>clear hla hfu hpd hru<;>dsimp only at* <;>grind)
end Go.AL
namespace Go.AL
open Go.Proofs Go.Proofs.Tryz
@[go_sem] def URel1f226.pl:Nat→DPlan
 |4=>⟨[yA,yA,yA,yA,yA,yA,yA,yA,yB,yA,yA,yA,yA,yB,yC,yA,yA],wR,0⟩
 |6=>⟨[yA,yA,yA,yA,yA,yA,yA,yA,yA,yB,yA,yA,yA,yB,yA,yC,yA,yC],yM,0⟩
 |_=>⟨[],[],0⟩
def xI (l:List Rw):List PV:=(l.map Rw.c).flatten
theorem tR (x:Rw) (l:List Rw):xI (x::l)=pH x.args::kJ x.w::xI l:=rfl
theorem xK (l:List Rw):(xI l).length=l.length*2:=by
 induction l with
 |nil=>rfl
 |cons x l ih=>rw [tR];simp only [List.length_cons,ih];omega
theorem xG (l:List Rw) (i:Nat) (h:i<l.length):List.take 2 (List.drop (i*2) (xI l))=[pH l[i].args,kJ l[i].w]:=by
 induction l generalizing i with
 |nil=>cases h
 | cons x l ih=>
  cases i with
  |zero=>rfl
  |succ i=>
   rw [tR,show (i+1)*2=i*2+1+1 by omega,List.drop_succ_cons,List.drop_succ_cons,ih i (by simpa using h)]
   rfl
structure Rw.ok (r:Rw):Prop where
 al:r.args.length≤140737488355328
 a: ∀ v∈r.args,v.s.size≤140737488355328
theorem uS (a b:Rw) (ha:a.ok) (hb:b.ok):EPure prog G0 71 [.agg a.c,.agg b.c] fun p=>p=i64 (sD a.args b.args):=by
 refine ECall.cut (R:=fun p _=>p=i64 (sD a.args b.args)) (pv func71 10 false (by kernel_rfl) rfl rfl ?_) (by rintro p h rfl;rfl)
 refine g2 ?_
 refine ge ?_
 (refine Go.AL.g1 ?_;refine zC ((zb6 a.args b.args ha.al hb.al ha.a hb.a).call zK (by simp) _) ?_;intro p2 h2 hr2;refine Go.AL.g2 ?_)
 obtain ⟨rfl,rfl⟩:=hr2
 refine ge ?_
 rfl
def SubR (l' l:List Rw):Prop:=l'.length=l.length∧ ∀ x∈l',x∈l
theorem SubR.refl (l:List Rw):SubR l l:=⟨rfl,fun _ h=>h⟩
theorem SubR.swap {l' l:List Rw} (h:SubR l' l) {i j:Nat} (hi:i<l'.length) (hj:j<l'.length):SubR ((l'.set i l'[j]).set j l'[i]) l:=
 ⟨by simp [h.1],fun x hx=>by
  rcases List.mem_or_eq_of_mem_set hx with hx|rfl
  ·rcases List.mem_or_eq_of_mem_set hx with hx|rfl
   ·exact h.2 x hx
   ·exact h.2 _ (List.getElem_mem hj)
  ·exact h.2 _ (List.getElem_mem hi)⟩
abbrev kP:PV:= .fn (.func 71) [] []
end Go.AL
namespace Go.AL
open Go.Proofs Go.Proofs.Tryz
@[go_sem] def URel2f229.pl:Nat→DPlan
 |3=>⟨[yA,yA,yA,yA,yA,yA,yA,yA,yA,yA,yA,yA,yA,yB,yA,yA,yA,yA,yA,yB,yA,yC,yA,yC],iot24,0⟩
 |_=>⟨[],[],0⟩
theorem zeR {n:Nat} (h:n≤140737488355328):IntKind.i64.wrap (n:Int)=n:=xM (by omega) (by omega)
theorem SubR.trans {a b c:List Rw} (h:SubR a b) (k:SubR b c):SubR a c:=⟨h.1.trans k.1,fun x hx=>k.2 x (h.2 x hx)⟩
end Go.AL
namespace Go.AL
open Go.Proofs Go.Proofs.Tryz
@[go_sem] def URel3f227.pl:Nat→DPlan
 |5=>⟨[yA,yA,yA,yA,yB,yA,yA,yA,yB,yC,yA],vJ,0⟩
 |11=>⟨[yA,yA,yA,yA,yA,yA,yA,yA,yA,yB,yA,yA,yA,yB,yA,yC,yA,yC],yM,0⟩
 |17=>⟨[yA,yA,yA,yA,yB,yA,yA,yA,yB,yC,yA,yA],xF,0⟩
 |23=>⟨[yA,yA,yA,yA,yA,yA,yA,yA,yA,yB,yA,yA,yA,yB,yA,yC,yA,yC],yM,0⟩
 |35=>⟨[yA,yA,yA,yA,yA,yA,yB,yA,yA,yA,yB,yC,yA,yA],wS,0⟩
 |_=>⟨[],[],0⟩
theorem iS:(prog.underlying 3).isSome=true:=by kernel_rfl
theorem rZ:(prog.underlying 238).isSome=true:=by kernel_rfl
theorem zeU (n:Nat):((n:Nat):Int) / 2 ^ min 1 64=((n / 2:Nat):Int):=by
 rw [show min 1 64=1 from rfl,Int.pow_succ,Int.pow_zero,Int.one_mul];norm_cast
def SymC (l:List Rw) (a m b:Nat):Prop:= ∀ (h:Heap) (r:Nat) (hr:h[r]? =some (.var 76 (xI l))),
  ECall prog G0 227 [.ms r 0 2 l.length,i64 a,i64 m,i64 b,kP] h fun _ h'=> ∃ l',SubR l' l∧h'=h.set r (.var 76 (xI l'))
end Go.AL
