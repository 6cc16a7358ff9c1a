/-
  Part of the walk.
-/
import Derived.Test.YtlcjmejclpilhaaGreatDoorV15
set_option linter.unusedSimpArgs false
set_option linter.unusedVariables false
set_option maxRecDepth 100000
set_option maxHeartbeats 4000000
namespace Go.AL
open Go.Proofs Go.Proofs.Tryz
structure Fu.ok(y:Fu):Prop where
 n:y.name.size<=140737488355328
 l:y.lat.size<=140737488355328
 fl:y.fr.length<=140737488355328
 f: ∀s∈y.fr,s.size<=140737488355328
 tl:y.to.length<=140737488355328
 t: ∀s∈y.to,s.size<=140737488355328
 tb:y.table.length<=140737488355328
def Fu.fm(f:Fu):Prop:=f.fr.length=f.to.length/\f.fr.length<=8
structure Pd.ok(p:Pd):Prop where
 n:p.name.size<=140737488355328
 l:p.lat.size<=140737488355328
 t:p.types.length<=140737488355328
def Pd.fm(p:Pd):Prop:=0<=p.key/\p.key<=p.types.length/\p.types.length<=4/\(p.key=p.types.length\/p.lat=⟨#[]⟩)
theorem gN(l:List BA): ∀x∈l, ∀p∈([yQ x]:List PV),Tree p:=Qf1
theorem zzQ(l:List Int): ∀x∈l, ∀p∈([i64 x]:List PV),Tree p:=Qf1
theorem ebT{f:FuncId}{args:List PV}(h:EB f args):EB f args fun b=>b=true->True:=h.mono Qho
theorem zjO(f:Fu)(hf:f.ok):EB 213 [.agg f.c] fun b=>b=true->f.fm:=by
 refine ECall.cut (R:=fun p _=> ∃b:Bool,p=bo b/\(b=true->f.fm)) (pv func213 35 false Qf3 rfl rfl ?_) Qhb;refine g2 ?_;obtain⟨name,lat,of',fr,to,table,at'⟩:=f;obtain⟨h1,h2,h3,h4,h5,h6,h7⟩:=hf;dsimp only at h1 h2 h3 h4 h5 h6 h7;have hfr:=zcD fr (fun _=>True) 8 281 [] h3 (fun x hx=>ebT (vG x (h4 x hx))) (gN fr);have hto:=zcD to (fun _=>True) 8 281 [] h5 (fun x hx=>ebT (vG x (h6 x hx))) (gN to);(repeat' (first|refine gz ?_|(refine gn ?_;intro zs zh;(try simp only[go_sem] at zh);subst zh;(first|refine gv ?_|((first|refine zC ((vG name h1).call zK Qf1 _) ?_|refine zC ((vG lat h2).call zK Qf1 _) ?_|refine zC (hfr.call zK Qfc _) ?_|refine zC (hto.call zK Qfc _) ?_);intro p2 h2 hr2;obtain⟨hr2,rfl⟩:=hr2;first|obtain⟨_,rfl,hr2⟩:=hr2|obtain⟨_,rfl⟩:=hr2|subst hr2|skip)|(refine yS (fun he=> ?_) (fun he=> ?_)<;>(try simp only[mM] at he))))|((with_reducible refine tO rfl ?_);intro sr hsr;simp only[sK,wP] at hsr;subst hsr;(fail_if_success(with_reducible(first|refine tL ?_|refine tN ?_)));refine tK (fun he=> ?_) (fun he=> ?_)<;>(intro ts2 hts;simp only[wP] at hts;subst hts;(try simp only[mM] at he)))|fail));all_goals try(exact⟨false,rfl,Qf1⟩)
 all_goals (refine⟨_,rfl,fun hb=> ?_⟩;clear hfr hto;unfold Fu.fm;dsimp only at*;grind)
theorem zdT(n:Int):EB 285 [i64 n]:=by
 refine ECall.pure (pv func285 9 false Qf3 rfl rfl ?_);refine g2 ?_;(repeat' (first|refine gp ?_|refine gs (fun he=> ?_) (fun he=> ?_)|fail));all_goals (exact⟨⟨⟨_,rfl,trivial⟩,.sc⟩,rfl⟩)
theorem zf5(p:Pd)(hp:p.ok):EB 215 [.agg p.c] fun b=>b=true->p.fm:=by
 refine ECall.cut (R:=fun q _=> ∃b:Bool,q=bo b/\(b=true->p.fm)) (pv func215 59 false Qf3 rfl rfl ?_) Qhb;refine g2 ?_;obtain⟨name,types,lat,of',base,key,at'⟩:=p;obtain⟨h1,h2,h3⟩:=hp;dsimp only at h1 h2 h3;have hty:=zkK types (fun _=>True) 4 285 [] h3 (fun x hx=>ebT (zdT x)) (zzQ types);(repeat' (first|refine gz ?_|(refine gn ?_;intro zs zh;(try simp only[go_sem] at zh);subst zh;(first|refine gv ?_|((first|refine zC ((vG name h1).call zK Qf1 _) ?_|refine zC ((vG lat h2).call zK Qf1 _) ?_|refine zC (hty.call zK Qfc _) ?_);intro p2 h2 hr2;obtain⟨hr2,rfl⟩:=hr2;first|obtain⟨_,rfl,hr2⟩:=hr2|obtain⟨_,rfl⟩:=hr2|subst hr2|skip)|(refine yS (fun he=> ?_) (fun he=> ?_)<;>(try simp only[mM] at he))))|((with_reducible refine tO rfl ?_);intro sr hsr;simp only[sK,wP] at hsr;subst hsr;(fail_if_success(with_reducible(first|refine tL ?_|refine tN ?_)));refine tK (fun he=> ?_) (fun he=> ?_)<;>(intro ts2 hts;simp only[wP] at hts;subst hts;(try simp only[mM] at he)))|fail));all_goals try(exact⟨false,rfl,Qf1⟩)
 all_goals (refine⟨_,rfl,fun hb=> ?_⟩;clear hty;unfold Pd.fm;dsimp only at*;grind)
structure Pg.ok(y:Pg):Prop where
 ll:y.pQ.length<=140737488355328
 l: ∀x∈y.pQ,x.ok
 fl:y.pZ.length<=140737488355328
 f: ∀x∈y.pZ,x.ok
 pl:y.pk.length<=140737488355328
 p: ∀x∈y.pk,x.ok
 rl:y.pX.length<=140737488355328
 r: ∀x∈y.pX,x.ok
structure Pg.fm(y:Pg):Prop where
 ll:y.pQ.length<=4
 fl:y.pZ.length<=8
 f: ∀x∈y.pZ,x.fm
 pl:y.pk.length<=24
 p: ∀x∈y.pk,x.fm
 rl:y.pX.length<=40
 r: ∀x∈y.pX,x.fm
theorem aQ(l:La):EB 210 [.agg l.c]:=by
 refine ECall.cut (R:=fun p _=> ∃b:Bool,p=bo b) (pv func210 6 false Qf3 rfl rfl ?_) Qhk;refine g2 ?_;refine ge ?_;exact⟨_,rfl⟩
theorem zdU(p:Pg)(hp:p.ok):EB 162 [.agg p.c] fun b=>b=true->p.fm:=by
 refine ECall.cut (R:=fun q _=> ∃b:Bool,q=bo b/\(b=true->p.fm)) (pv func162 23 false Qf3 rfl rfl ?_) Qhb;refine g2 ?_;obtain⟨pQ,pZ,pk,pX⟩:=p;obtain⟨h1,h2,h3,h4,h5,h6,h7,h8⟩:=hp;dsimp only at h1 h2 h3 h4 h5 h6 h7 h8;have hla:=zmX pQ (fun _=>True) 4 210 [] h1 (fun x hx=>ebT (aQ x)) Qfb;have hfu:=zmY pZ Fu.fm 8 213 [] h3 (fun x hx=>zjO x (h4 x hx)) Qfb;have hpd:=zmV pk Pd.fm 24 215 [] h5 (fun x hx=>zf5 x (h6 x hx)) Qfb;have hru:=zmU pX Ru.fm 40 217 [] h7 (fun x hx=>zf4 x (h8 x hx)) Qfb;(repeat' (first|refine gz ?_|(refine gn ?_;intro zs zh;(try simp only[go_sem] at zh);subst zh;(first|refine gv ?_|((first|refine zC (hla.call zK Qfm _) ?_|refine zC (hfu.call zK Qfm _) ?_|refine zC (hpd.call zK Qfm _) ?_|refine zC (hru.call zK Qfm _) ?_);intro p2 h2 hr2;obtain⟨hr2,rfl⟩:=hr2;first|obtain⟨_,rfl,hr2⟩:=hr2|obtain⟨_,rfl⟩:=hr2|subst hr2|skip)|(refine yS (fun he=> ?_) (fun he=> ?_)<;>(try simp only[mM] at he))))|((with_reducible refine tO rfl ?_);intro sr hsr;simp only[sK,wP] at hsr;subst hsr;(fail_if_success(with_reducible(first|refine tL ?_|refine tN ?_)));refine tK (fun he=> ?_) (fun he=> ?_)<;>(intro ts2 hts;simp only[wP] at hts;subst hts;(try simp only[mM] at he)))|fail));all_goals try(exact⟨false,rfl,Qf1⟩)
 all_goals (refine⟨_,rfl,fun hb=>⟨?_,?_,?_,?_,?_,?_,?_⟩⟩<;>clear hla hfu hpd hru<;>dsimp only at* <;>grind)
@[go_sem] def URel1f353.pl:Nat->DPlan
 |4=>⟨[yA,yA,yA,yA,yA,yA,yA,yA,yB,yA,yA,yA,yA,yB,yC,yA,yA],wR,0⟩
 |6=>⟨[yA,yA,yA,yA,yA,yA,yA,yA,yA,yB,yA,yA,yA,yB,yA,yC,yA,yC],yM,0⟩
 |_=>⟨[],[],0⟩
theorem zyA{α:Type}{l:List α}{n:Nat}{a:α}(h:l[n]? =some a):l.set n a=l:=by
 obtain⟨h1,h2⟩:=gsi h;subst h2;exact Js h1
def xI(l:List Rw):List PV:=(l.map Rw.c).flatten
theorem tR(x:Rw)(l:List Rw):xI (x::l)=pH x.args::kJ x.w::xI l:=rfl
theorem xK(l:List Rw):(xI l).length=l.length*2:=by
 induction l with
 |nil=>rfl
 |cons x l ih=>rw[tR];simp only[Qn,ih];omega
theorem xG(l:List Rw)(i:Nat)(h:i<l.length):List.take 2 (List.drop (i*2) (xI l))=[pH l[i].args,kJ l[i].w]:=by
 exact Qbm
structure Rw.ok(r:Rw):Prop where
 al:r.args.length<=140737488355328
 a: ∀v∈r.args,v.s.size<=140737488355328
theorem uS(a b:Rw)(ha:a.ok)(hb:b.ok):EPure prog G0 147 [.agg a.c,.agg b.c] fun p=>p=i64 (sD a.args b.args):=by
 refine ECall.cut (R:=fun p _=>p=i64 (sD a.args b.args)) (pv func147 10 false Qf3 rfl rfl ?_) Qgi;refine g2 ?_;refine ge ?_;(refine Go.AL.g1 ?_;refine zC ((zb6 a.args b.args ha.al hb.al ha.a hb.a).call zK Qf1 _) (yf0 ?_);rintro p2 h2 ⟨rfl,rfl⟩);refine ge ?_;rfl
def SubR(l' l:List Rw):Prop:=l'.length=l.length/\ ∀x∈l',x∈l
abbrev kP:PV:= .fn (.func 147) [] []
@[go_sem] def URel2f382.pl:Nat->DPlan
 |3=>⟨[yA,yA,yA,yA,yA,yA,yA,yA,yA,yA,yA,yA,yA,yB,yA,yA,yA,yA,yA,yB,yA,yC,yA,yC],iot24,0⟩
 |_=>⟨[],[],0⟩
theorem zeR{n:Nat}(h:n<=140737488355328):IntKind.i64.wrap (n:Int)=n:=xM Qf0 Qf0
@[go_sem] def URel3f354.pl:Nat->DPlan
 |5=>⟨[yA,yA,yA,yA,yB,yA,yA,yA,yB,yC,yA],vJ,0⟩
 |11=>⟨[yA,yA,yA,yA,yA,yA,yA,yA,yA,yB,yA,yA,yA,yB,yA,yC,yA,yC],yM,0⟩
 |17=>⟨[yA,yA,yA,yA,yB,yA,yA,yA,yB,yC,yA,yA],xF,0⟩
 |23=>⟨[yA,yA,yA,yA,yA,yA,yA,yA,yA,yB,yA,yA,yA,yB,yA,yC,yA,yC],yM,0⟩
 |35=>⟨[yA,yA,yA,yA,yA,yA,yB,yA,yA,yA,yB,yC,yA,yA],wS,0⟩
 |_=>⟨[],[],0⟩
theorem iS:(prog.underlying 3).isSome=true:=Qf3
theorem rZ:(prog.underlying 261).isSome=true:=Qf3
theorem zeU(n:Nat):((n:Nat):Int) / 2 ^ min 1 64=((n / 2:Nat):Int):=by
 rw[show min 1 64=1 from rfl,Int.pow_succ,Int.pow_zero,Int.one_mul];norm_cast
def SymC(l:List Rw)(a m b:Nat):Prop:= ∀(h:Heap)(r:Nat)(hr:h[r]? =some (.var 159 (xI l))),
  ECall prog G0 354 [.ms r 0 2 l.length,i64 a,i64 m,i64 b,kP] h fun _ h'=> ∃l',SubR l' l/\h'=h.set r (.var 159 (xI l'))
end Go.AL
