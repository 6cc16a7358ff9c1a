/-
  Part of the walk.
-/
import Derived.Test.YtlcjmejclpilhaaGreatDoorV20
set_option linter.unusedSimpArgs false
set_option linter.unusedVariables false
set_option maxRecDepth 100000
set_option maxHeartbeats 4000000
namespace Go.AL
open Go.Proofs Go.Proofs.Tryz
@[go_sem] def UTyp13f229.pl:Nat->DPlan
 |10=>⟨[yA,yB,yA,yA],[0,1,2,3],0⟩
 |12=>⟨[yA,yB,yA,yA],[0,1,2,3],0⟩
 |16=>⟨[yA,yB,yA,yA,yB,yA,yB,yA,yB,yA,yB,yA,yB,yC,yA,yA,yA,yA,yB,yA,yA,yA,yB,yA,yB,yA,yB,yC,yA,yA,yA],yd1,0⟩
 |17=>⟨[yA,yB,yA,yA],[0,1,2,3],0⟩
 |24=>⟨[yB,yA,yA,yB,yA,yB,yB,yA,yA,yA,yA,yA],xF,0⟩
 |25=>⟨[yA,yA,yA,yA,yA,yA,yB,yA,yA,yB,yA,yA,yA,yA,yA,yA,yA,yB,yA,yB,yA,yA,yB,yA,yA,yA,yA,yB,yA,yB,yA,yA,yB,yA,yA],iot35,0⟩
 |26=>⟨[yA,yB,yA,yA],[0,1,2,3],0⟩
 |30=>⟨[yA,yB,yA,yA],[0,1,2,3],0⟩
 |_=>⟨[],[],0⟩
attribute [-go_sem] only pI
def BodyAt(h:Heap)(B:PV)(body:List Li):Prop:=(body=[]/\B= .ts 9 [])\/ ∃(qb:Nat)(T:TypeId),B= .ms qb 0 9 body.length/\h[qb]? =some (.var T (body.map Li.c).flatten)
theorem BodyAt.len{h:Heap}{B:PV}{body:List Li}(k:BodyAt h B body):pI (α:=Prop) prog 189 B=some (i64 body.length,True):=by
 have e:(wX prog 189).isSome=true:=Qf3;rcases k with ⟨rfl,rfl⟩|⟨qb,T,rfl,_⟩<;>simp only[pI,e,Wk]<;>rfl
theorem sP(l:List Li):(l.map Li.c).flatten.length=l.length*9:=by
 induction l with
 |nil=>rfl
 |cons x l ih=>simp only[Xa,Yl,Ql,ih,Qn,Xv];omega
theorem sV(l:List Li)(i:Nat)(hi:i<l.length):(l.map Li.c).flatten.drop (i*9)=l[i].c++((l.drop (i+1)).map Li.c).flatten:=by
 induction l generalizing i with
 |nil=>simp at hi
 | cons x l ih=>
  cases i with
  |zero=>simp
  |succ i=>
   have:=ih i Qg3;rw[Xa,Yl,show(i+1)*9=x.c.length+i*9 by simp;omega,<-Wy,Kh,this];simp
open UTyp13f229 in
theorem zu5(b0 b1:Blk)(pc:List PV)(ml mf mp:NM)(L F P R Rep:PV)(J:Heap)(pQ:List La)(fs:List (Fu×PV))(ps:List Pd)(hS:Sc pQ fs ps ml mf mp L F P J)(x:Ru)(B:PV)(hx:x.fm)(hB:BodyAt (SH b0 b1 pc ml mf mp L F P R Rep J) B x.body)
  (hh:(x.pred= -1/\x.name=eS)\/ ∃i:Nat,x.pred=i/\ ∃h:i<ps.length,x.args.length=ps[i].types.length) (hb: ∀l∈x.body,LitK ps l l.pred):
  ECall prog G0 229 [.ptr 6 0,.agg (RuC x B)] (SH b0 b1 pc ml mf mp L F P R Rep J) fun p h'=> ∃(e at':Int),p= .tup [i64 e,i64 at']/\ ∀(r:Nat)(b:Blk),(SH b0 b1 pc ml mf mp L F P R Rep J)[r]? =some b->h'[r]? =some b:=by
 refine pv func229 169 false Qf3 rfl rfl ?_;refine g2 ?_;have h6:(SH b0 b1 pc ml mf mp L F P R Rep J)[6]? =some (.var 258 [L,F,P,R,.mp 3,.mp 4,.mp 5,Rep]):=rfl;generalize SH b0 b1 pc ml mf mp L F P R Rep J=H at*;refine gf (a4 @tI @tH @xY @xN) ?_;have hm1:(H++[.var 191 (RuC x B),.map [],.var 378 (CC (H.length+1) (List.replicate 36 0) (List.replicate 36 0)),.var 375 [.ptr (H.length+2) 0]])[H.length+1]? =some (.map []):=by rw[xN];rfl
 have zoK:(H++[.var 191 (RuC x B),.map [],.var 378 (CC (H.length+1) (List.replicate 36 0) (List.replicate 36 0)),.var 375 [.ptr (H.length+2) 0]])[H.length+2]? =some (.var 378 (CC (H.length+1) (List.replicate 36 0) (List.replicate 36 0))):=by rw[xN];rfl
 have hv1:(H++[.var 191 (RuC x B),.map [],.var 378 (CC (H.length+1) (List.replicate 36 0) (List.replicate 36 0)),.var 375 [.ptr (H.length+2) 0]])[H.length+3]? =some (.var 375 [.ptr (H.length+2) 0]):=by rw[xN];rfl
 have hr1:(H++[.var 191 (RuC x B),.map [],.var 378 (CC (H.length+1) (List.replicate 36 0) (List.replicate 36 0)),.var 375 [.ptr (H.length+2) 0]])[H.length]? =some (.var 191 (RuC x B)):=by rw[xY];rfl
 have hk1: ∀(r:Nat)(b:Blk),H[r]? =some b->(H++[.var 191 (RuC x B),.map [],.var 378 (CC (H.length+1) (List.replicate 36 0) (List.replicate 36 0)),.var 375 [.ptr (H.length+2) 0]])[r]? =some b:=fun r b h=>by rw[Qg (gsi h).1];exact h
 have hI1:CI [] (List.replicate 36 0) (List.replicate 36 0):=⟨by simp[NMap],Qf1,Qf1,Qf1,fun _=>0,fun _=>0,Qf1⟩
 have hlB:=hB.len;have hqm: ∀r,r<H.length->r≠H.length+1/\r≠H.length+2:=fun r h=>by omega
 have hfa:=hx.a;have hfb:=hx.b;(refine g1 ?_;refine zC (zhF _ _ _ _ _ _ _ hm1 zoK hv1 hI1 x.args Qfh) (yf0 ?_);rintro p2 h2 ⟨es,cls,hU,hI,hle,_,hargs⟩);have hH1: ∀r (b:Blk),H[r]? =some b->r<H.length:=fun r b h=>(gsi h).1;generalize H++[.var 191 (RuC x B),.map [],.var 378 (CC (H.length+1) (List.replicate 36 0) (List.replicate 36 0)),.var 375 [.ptr (H.length+2) 0]]=H1 at*;generalize List.replicate 36 (0:Int)=T0 at*;have keep: ∀(es:NM)(cls:List Nat)(tys:List Int)(h:Heap),Upd (H.length+1) (H.length+2) es cls tys H1 h-> ∀(r:Nat)(b:Blk),H[r]? =some b->h[r]? =some b:=fun es cls tys h u r b hr=>by
  obtain⟨aa1,aa2⟩:=hqm r (hH1 r b hr);exact u.k r b aa1 aa2 (hk1 r b hr)
 have hrule:=hU.get hm1 zoK hr1 Qf1 Qf1;refine gf (a2 @hrule @hlB) ?_;refine zO x.body.length (K9 (.d::K9 (K9 (.v::D4 (D4 (K9 (K9 (K9 (K9 (K9 (K9 (K9 (K9 (K9 (K9 (K9 (K9 (K9 (K9 (K4 (.k:: .k::[]))))))))))))))))))))) (own:=false) (fun i (s:NM×List Nat×Heap)=>[i64 i]) (fun s=>s.2.2) (fun i s=>Upd (H.length+1) (H.length+2) s.1 s.2.1 T0 H1 s.2.2/\CI s.1 s.2.1 T0/\s.1.length<=4+4*i/\(∀t∈x.args,t.var≠eS->Has s.1 t.var)/\ ∀l∈x.body.take i, ∀t∈l.args,t.var≠eS->Has s.1 t.var) (es,cls,h2) rfl rfl ⟨hU,hI,by simp at hle ⊢;omega,hargs,Qf1⟩ Qf0 ?_ ?_
 ·clear hU hI hle hargs hrule;rintro⟨es,cls,h⟩ ⟨hU,hI,hle,hargs,hbody⟩ t ht;dsimp only at*;simp only[zY] at ht;subst ht;rw[Yt] at hbody;have fin: ∀(e a:Int)(es:NM)(cls:List Nat)(tys:List Int)(h:Heap),Upd (H.length+1) (H.length+2) es cls tys H1 h-> ∃(e' at':Int),PV.tup [i64 e,i64 a]= .tup [i64 e',i64 at']/\ ∀(r:Nat)(b:Blk),H[r]? =some b->h[r]? =some b:=fun e a es cls tys h u=>⟨e,a,rfl,keep _ _ _ _ u⟩
  have hv:=hU.get hm1 zoK hv1 Qf1 Qf1;have hrule:=hU.get hm1 zoK hr1 Qf1 Qf1;have hUc:=hU.c;have mM:=rG (qm:=H.length+1) hI.l1 hI.l2;refine gf (a5 @zM @hv @hUc @kE @mM) ?_;have hlM:pI (α:=Prop) prog 256 (.mp (H.length+1))=none:=rfl;(refine wU ?_;intro sr hsr;simp only[go_sem,hv,hUc,kE,mM,hlM] at hsr;subst hsr;refine iR rfl (fun rd=>OpOk.lenMap rfl rfl rfl rfl rfl hU.m eG (by have:=hI.le;omega) ⟨rfl,rfl⟩) ?_;intro ts2 hts;simp only[go_sem] at hts;subst hts);by_cases h12:12<es.length
  ·have e0:decide ((12:Int)<(es.length:Int))=true:=Qfh;refine gf (a2 @hrule @e0) ?_;exact fin _ _ _ _ _ _ hU
  ·have e0 :decide ((12:Int)<(es.length:Int))=false:=Qfh;have main: ∀(cls:List Nat)(tys:List Int)(h:Heap),Upd (H.length+1) (H.length+2) es cls tys H1 h->CI es cls tys->True:=fun _ _ _ _ _=>trivial;rcases hh with ⟨hp,hnm⟩|⟨pi,hp,hpi,hpl⟩
   ·have e1:decide (0<=x.pred)=false:=by rw[hp];rfl
    refine gf (a4 @hrule @e0 @e1 @hlB) ?_;refine zO x.body.length (K4 (.d:: .d::K4 (.k:: .d::K9 (K9 (K9 (K9 (K9 (K4 (.k:: .k:: .v::D9 (D9 (D9 (D9 (.d::K9 (K9 (K9 (K9 (K9 (K9 (K9 (K4 (.k::[]))))))))))))))))))))) (own:=false) (fun i (s:List Nat×List Int×Heap)=>[i64 i]) (fun s=>s.2.2) (fun i s=>Upd (H.length+1) (H.length+2) es s.1 s.2.1 H1 s.2.2/\CI es s.1 s.2.1) (cls,T0,h) rfl rfl ⟨hU,hI⟩ Qf0 ?_ ?_
    ·rintro⟨cls2,tys2,h2⟩ ⟨hU2,hI2⟩ t ht;dsimp only at hU2 hI2;simp only[zY] at ht;subst ht;have hrule2:=hU2.get hm1 zoK hr1 Qf1 Qf1;refine gf (a3 @zM @hrule2 @hlB) ?_;refine zO x.body.length (K4 (.d:: .d::K4 (.k:: .k:: .v:: .k:: .d:: .d:: .d::K9 (K9 (K9 (K9 (K9 (K9 (K9 (K9 (K9 (K4 (.k:: .k:: .v::D9 (D9 (D9 (D9 (D9 (D9 (K9 (.k::[])))))))))))))))))))) (own:=false) (fun i (s:Bool×Heap)=>[bo s.1,i64 i]) (fun s=>s.2) (fun i s=>Upd (H.length+1) (H.length+2) es cls2 tys2 H1 s.2) (false,h2) rfl rfl hU2 Qf0 ?_ ?_
     ·rintro⟨fd,h3⟩ hU3 t ht;dsimp only at hU3;simp only[zY] at ht;subst ht;have hrule3:=hU3.get hm1 zoK hr1 Qf1 Qf1;have Z9:=(a2 @zM @hrule3)
      by_cases hev:x.elem.var=eS
      ·have e2:(!decide (x.elem.var=eS))=false:=by simp[hev]
       exact Qcx
      ·have e2:(!decide (x.elem.var=eS))=true:=by simp[hev]
       cases fd with
       |true=>
        exact Qcx
       |false=>
        exact Qcx
     ·rintro i ⟨fd,h3⟩ hi hw hU3 t ht;dsimp only at hU3;simp only[zY] at ht;subst ht;rcases hB with ⟨h0,_⟩|⟨qb,T,rfl,hqb⟩
      ·rw[h0] at hi;simp at hi
      have hqb':=keep _ _ _ _ hU3 _ _ hqb;have hfl:=sP x.body;have hfd:=sV x.body i hi;have hlf:=hx.l _ (Qc hi);have hlk:=hb _ (Qc hi);generalize x.body[i]=l at*;have hc9:i*9+9<=x.body.length*9:=Qf0;have ha:=hI2.n.all;have hcl4:=rG (qm:=H.length+1) hI2.l1 hI2.l2;obtain⟨lk,ln,lp,la,lb,le,ll,lo,lat⟩:=l;have hlb:=hlf.b;dsimp only at hlk hfd hlb;have Z:=(a8 @hi @hw @hqb' @hfl @hfd @zB @zA @zX)
      by_cases hbe:lb=eS
      ·have e3:decide (lb=eS)=true:=by simp[hbe]
       have hU4:=hU3.app [.var 194 (Li.c ⟨lk,ln,lp,la,lb,le,ll,lo,lat⟩)];refine gf (a2 Z @e3) ?_;exact⟨(fd,_),hU4,rfl,rfl,rfl⟩
      ·have e3:decide (lb=eS)=false:=by simp[hbe]
       have hk5:lk=1:=hlb hbe;obtain⟨j,rfl,hjl,_⟩: ∃j:Nat,lp=j/\ ∃h:j<ps.length,la.length=ps[j].types.length:=by
        exact Qd7
       have hU4:=hU3.app [.var 194 (Li.c ⟨lk,ln,j,la,lb,le,ll,lo,lat⟩)];have hva:=hU4.get hm1 zoK hv1 Qf1 Qf1;have hrule4:=hU4.get hm1 zoK hr1 Qf1 Qf1;have h64:=keep _ _ _ _ hU4 _ _ h6;have hUc4:=hU4.c;have Z5:=(a6 Z @e3 @hva @hUc4 @hcl4 @kE)
       have hUm4:=hU4.m;cases hg:vV (.string lb) es 0 with
       |some y=>
        obtain⟨y1,y2⟩:=y;have hlu:=lC hUm4 ha hg;refine gf (a2 Z5 @hlu) ?_;exact Qd5
       | none=>
        have hlu:=lD hUm4 ha hg;cases fd with
        |true=>
         refine gf (a2 Z5 @hlu) ?_;exact Qd5
        | false=>
         by_cases hbv:lb=x.elem.var
         ·have e4:(!decide (lb=x.elem.var))=false:=by simp[hbv]
          have hnn:x.name≠eS:=fun hn=>hbe (hbv.trans (hx.n hn));exact absurd hnm hnn
         ·have e4:(!decide (lb=x.elem.var))=true:=by simp[hbv]
          refine gf (a4 Z5 @hlu @e4 @hrule4) ?_;exact Qd5
    ·rintro i ⟨cls2,tys2,h2⟩ hi hw ⟨hU2,hI2⟩ t ht;have Z2:=(a3 @hi @hw @zB)
     dsimp only at hU2 hI2;simp only[zY] at ht;subst ht;rcases hB with ⟨h0,_⟩|⟨qb,T,rfl,hqb⟩
     ·rw[h0] at hi;simp at hi
     have hqb':=keep _ _ _ _ hU2 _ _ hqb;have hfl:=sP x.body;have hfd:=sV x.body i hi;have hlf:=hx.l _ (Qc hi);have hlk:=hb _ (Qc hi);have hlh:=hbody _ (Qc hi);generalize x.body[i]=l at*;have hla:=hlf.a;have hc9:i*9+9<=x.body.length*9:=Qf0;obtain⟨lk,ln,lp,la,lb,le,ll,lo,lat⟩:=l;dsimp only at hlk hlh hla hfd;have Z6:=(a6 Z2 @hqb' @hfl @hfd @zA @zX)
     have hlc:=hlf.c;dsimp only at hlc;by_cases hk:lk=5
     ·subst hk;have e3:((5:Int)==5)=true:=rfl;have e3':((5:Int)!=5)=false:=rfl;have hl2:=hlc rfl;obtain⟨a,b,rfl⟩: ∃a b,la=[a,b]:=by
       match la,hl2 with
       | [a,b],_=>exact⟨a,b,rfl⟩
      have hU3:=hU2.app [.var 194 (Li.c ⟨5,ln,lp,[a,b],lb,le,ll,lo,lat⟩)];have hva:=hU3.get hm1 zoK hv1 Qf1 Qf1;refine gf (a4 Z6 @e3 @e3' @hva) ?_;(refine vY ?_;refine zN rfl rfl rfl ?_;intro sr hsr;simp only[sK,wP] at hsr;subst hsr;(first|refine pK ?_|refine pL ?_);intro sr hsr;simp only[go_sem,hi,hw,zA,e3,e3',hva] at hsr;subst hsr;refine zP Qf2 Qf2 (zbF _ _ _ es cls2 tys2 hU3.m hU3.c hI2 a b (hlh a Qf1) (hlh b Qf1)) (yf0 ?_);rintro p2 h2 ⟨r,cls3,tys3,rfl,hU4,hI4⟩);exact Qap
     ·have e3:(lk==5)=false:=Qf6;have e3':(lk !=5)=true:=Qf6;obtain⟨j,rfl,hjl,hja⟩: ∃j:Nat,lp=j/\ ∃h:j<ps.length,la.length=ps[j].types.length:=by
       exact Qdl
      obtain⟨qp,rfl,hqp⟩:=hS.p.vec Qfh;have hU3:=hU2.app [.var 194 (Li.c ⟨lk,ln,j,la,lb,le,ll,lo,lat⟩)];have hva:=hU3.get hm1 zoK hv1 Qf1 Qf1;have h63:=keep _ _ _ _ hU3 _ _ h6;refine gf (a4 Z6 @e3 @e3' @hva) ?_;(refine vY ?_;refine zN rfl rfl rfl ?_;intro sr hsr;simp only[sK,wP] at hsr;subst hsr;(first|refine pK ?_|refine pL ?_);intro sr hsr;simp only[go_sem,hi,hw,zA,e3,e3',hva] at hsr;subst hsr;refine zP Qf2 Qf2 (nS _ _ _ (qp+7) es cls2 tys2 hU3.m hU3.c hI2 ps L F R (.mp 3) (.mp 4) (.mp 5) Rep h63 j hjl la hla Qf0 hlh) (yf0 ?_);rintro p2 h2 ⟨r,cls3,tys3,rfl,hU4,hI4⟩);exact Qap
   ·have e1 :decide (0<=x.pred)=true:=by rw[hp];simp
    have Z8:=(a3 @e0 @e1 @hlB)
    refine gf (a3 Z8 @hrule @hv) ?_;obtain⟨qp,rfl,hqp⟩:=hS.p.vec Qfh;(refine g1f (a4 Z8 @hrule @hv @hp) ?_;refine zC (nS _ _ _ (qp+7) es cls T0 hU.m hU.c hI ps L F R (.mp 3) (.mp 4) (.mp 5) Rep (keep _ _ _ _ hU _ _ h6) pi hpi x.args hfa Qf0 hargs) (yf0 ?_);rintro p2 h2 ⟨r,cls1,tys1,rfl,hU0,hI1⟩);have hU1:=hU.trans hU0;have hrule1:=hU1.get hm1 zoK hr1 Qf1 Qf1;cases r with
    |false=>
     refine gf (a2 Z8 @hrule1) ?_;exact fin _ _ _ _ _ _ hU1
    | true =>
     refine gf (a2 Z8 @hrule1) ?_;refine zO x.body.length (K4 (.d:: .d::K4 (.k:: .d::K9 (K9 (K9 (K9 (K9 (K4 (.k:: .k:: .v::D9 (D9 (D9 (D9 (.d::K9 (K9 (K9 (K9 (K9 (K9 (K9 (K4 (.k::[]))))))))))))))))))))) (own:=false) (fun i (s:List Nat×List Int×Heap)=>[i64 i]) (fun s=>s.2.2) (fun i s=>Upd (H.length+1) (H.length+2) es s.1 s.2.1 H1 s.2.2/\CI es s.1 s.2.1) (cls1,tys1,_) rfl rfl ⟨hU1,hI1⟩ Qf0 ?_ ?_
     ·rintro⟨cls2,tys2,h2⟩ ⟨hU2,hI2⟩ t ht;dsimp only at hU2 hI2;simp only[zY] at ht;subst ht;have hrule2:=hU2.get hm1 zoK hr1 Qf1 Qf1;refine gf (a3 @zM @hrule2 @hlB) ?_;refine zO x.body.length (K4 (.d:: .d::K4 (.k:: .k:: .v:: .k:: .d:: .d:: .d::K9 (K9 (K9 (K9 (K9 (K9 (K9 (K9 (K9 (K4 (.k:: .k:: .v::D9 (D9 (D9 (D9 (D9 (D9 (K9 (.k::[])))))))))))))))))))) (own:=false) (fun i (s:Bool×Heap)=>[bo s.1,i64 i]) (fun s=>s.2) (fun i s=>Upd (H.length+1) (H.length+2) es cls2 tys2 H1 s.2) (false,h2) rfl rfl hU2 Qf0 ?_ ?_
      ·rintro⟨fd,h3⟩ hU3 t ht;dsimp only at hU3;simp only[zY] at ht;subst ht;have hrule3:=hU3.get hm1 zoK hr1 Qf1 Qf1;have Z10:=(a2 @zM @hrule3)
       by_cases hev:x.elem.var=eS
       ·have e2:(!decide (x.elem.var=eS))=false:=by simp[hev]
        exact Qco
       ·have e2:(!decide (x.elem.var=eS))=true:=by simp[hev]
        cases fd with
        |true=>
         exact Qco
        |false=>
         exact Qco
      ·rintro i ⟨fd,h3⟩ hi hw hU3 t ht;dsimp only at hU3;simp only[zY] at ht;subst ht;rcases hB with ⟨h0,_⟩|⟨qb,T,rfl,hqb⟩
       ·rw[h0] at hi;simp at hi
       have hqb':=keep _ _ _ _ hU3 _ _ hqb;have hfl:=sP x.body;have hfd:=sV x.body i hi;have hlf:=hx.l _ (Qc hi);have hlk:=hb _ (Qc hi);generalize x.body[i]=l at*;have hc9:i*9+9<=x.body.length*9:=Qf0;have ha:=hI2.n.all;have hcl4:=rG (qm:=H.length+1) hI2.l1 hI2.l2;obtain⟨lk,ln,lp,la,lb,le,ll,lo,lat⟩:=l;have hlb:=hlf.b;dsimp only at hlk hfd hlb;have Z1:=(a8 @hi @hw @hqb' @hfl @hfd @zB @zA @zX)
       by_cases hbe:lb=eS
       ·have e3:decide (lb=eS)=true:=by simp[hbe]
        have hU4:=hU3.app [.var 194 (Li.c ⟨lk,ln,lp,la,lb,le,ll,lo,lat⟩)];refine gf (a2 Z1 @e3) ?_;exact⟨(fd,_),hU4,rfl,rfl,rfl⟩
       ·have e3:decide (lb=eS)=false:=by simp[hbe]
        have hk5:lk=1:=hlb hbe;obtain⟨j,rfl,hjl,_⟩: ∃j:Nat,lp=j/\ ∃h:j<ps.length,la.length=ps[j].types.length:=by
         exact Qd7
        have hU4:=hU3.app [.var 194 (Li.c ⟨lk,ln,j,la,lb,le,ll,lo,lat⟩)];have hva:=hU4.get hm1 zoK hv1 Qf1 Qf1;have hrule4:=hU4.get hm1 zoK hr1 Qf1 Qf1;have h64:=keep _ _ _ _ hU4 _ _ h6;have hUc4:=hU4.c;have Z4:=(a6 Z1 @e3 @hva @hUc4 @hcl4 @kE)
        have hUm4:=hU4.m;cases hg:vV (.string lb) es 0 with
        |some y=>
         obtain⟨y1,y2⟩:=y;have hlu:=lC hUm4 ha hg;refine gf (a2 Z4 @hlu) ?_;exact Qd5
        | none=>
         have hlu:=lD hUm4 ha hg;cases fd with
         |true=>
          refine gf (a2 Z4 @hlu) ?_;exact Qd5
         | false=>
          by_cases hbv:lb=x.elem.var
          ·have e4:(!decide (lb=x.elem.var))=false:=by simp[hbv]
           have hnn:x.name≠eS:=fun hn=>hbe (hbv.trans (hx.n hn));have hpj:=zG (f:=Pd.c) [] hjl;have hpi':=zG (f:=Pd.c) [] hpi;generalize ps[j]=pj at*;generalize ps[pi]=pi' at*;by_cases hof:pj.of'=pi'.of'
           ·have e5:(pj.of' !=pi'.of')=false:=by simp[hof]
            refine Qev ?_;exact⟨(true,_),hU4,rfl,rfl,rfl⟩
           ·have e5:(pj.of' !=pi'.of')=true:=by simp[hof]
            refine Qev ?_;exact Qd5
          ·have e4:(!decide (lb=x.elem.var))=true:=by simp[hbv]
           refine gf (a4 Z4 @hlu @e4 @hrule4) ?_;exact Qd5
     ·rintro i ⟨cls2,tys2,h2⟩ hi hw ⟨hU2,hI2⟩ t ht;have Z3:=(a3 @hi @hw @zB)
      dsimp only at hU2 hI2;simp only[zY] at ht;subst ht;rcases hB with ⟨h0,_⟩|⟨qb,T,rfl,hqb⟩
      ·rw[h0] at hi;simp at hi
      have hqb':=keep _ _ _ _ hU2 _ _ hqb;have hfl:=sP x.body;have hfd:=sV x.body i hi;have hlf:=hx.l _ (Qc hi);have hlk:=hb _ (Qc hi);have hlh:=hbody _ (Qc hi);generalize x.body[i]=l at*;have hla:=hlf.a;have hc9:i*9+9<=x.body.length*9:=Qf0;obtain⟨lk,ln,lp,la,lb,le,ll,lo,lat⟩:=l;dsimp only at hlk hlh hla hfd;have Z7:=(a6 Z3 @hqb' @hfl @hfd @zA @zX)
      have hlc:=hlf.c;dsimp only at hlc;by_cases hk:lk=5
      ·subst hk;have e3:((5:Int)==5)=true:=rfl;have e3':((5:Int)!=5)=false:=rfl;have hl2:=hlc rfl;obtain⟨a,b,rfl⟩: ∃a b,la=[a,b]:=by
        match la,hl2 with
        | [a,b],_=>exact⟨a,b,rfl⟩
       have hU3:=hU2.app [.var 194 (Li.c ⟨5,ln,lp,[a,b],lb,le,ll,lo,lat⟩)];have hva:=hU3.get hm1 zoK hv1 Qf1 Qf1;refine gf (a4 Z7 @e3 @e3' @hva) ?_;(refine vY ?_;refine zN rfl rfl rfl ?_;intro sr hsr;simp only[sK,wP] at hsr;subst hsr;(first|refine pK ?_|refine pL ?_);intro sr hsr;simp only[go_sem,hi,hw,zA,e3,e3',hva] at hsr;subst hsr;refine zP Qf2 Qf2 (zbF _ _ _ es cls2 tys2 hU3.m hU3.c hI2 a b (hlh a Qf1) (hlh b Qf1)) (yf0 ?_);rintro p2 h2 ⟨r,cls3,tys3,rfl,hU4,hI4⟩);exact Qan
      ·have e3:(lk==5)=false:=Qf6;have e3':(lk !=5)=true:=Qf6;obtain⟨j,rfl,hjl,hja⟩: ∃j:Nat,lp=j/\ ∃h:j<ps.length,la.length=ps[j].types.length:=by
        exact Qdl
       have hU3:=hU2.app [.var 194 (Li.c ⟨lk,ln,j,la,lb,le,ll,lo,lat⟩)];have hva:=hU3.get hm1 zoK hv1 Qf1 Qf1;have h63:=keep _ _ _ _ hU3 _ _ h6;refine gf (a4 Z7 @e3 @e3' @hva) ?_;(refine vY ?_;refine zN rfl rfl rfl ?_;intro sr hsr;simp only[sK,wP] at hsr;subst hsr;(first|refine pK ?_|refine pL ?_);intro sr hsr;simp only[go_sem,hi,hw,zA,e3,e3',hva] at hsr;subst hsr;refine zP Qf2 Qf2 (nS _ _ _ (qp+7) es cls2 tys2 hU3.m hU3.c hI2 ps L F R (.mp 3) (.mp 4) (.mp 5) Rep h63 j hjl la hla Qf0 hlh) (yf0 ?_);rintro p2 h2 ⟨r,cls3,tys3,rfl,hU4,hI4⟩);exact Qan
 ·clear hU hI hle hargs hrule;rintro i ⟨es,cls,h⟩ hi hw ⟨hU,hI,hle,hargs,hbody⟩ t ht;dsimp only at*;simp only[zY] at ht;subst ht;rcases hB with ⟨h0,_⟩|⟨qb,T,rfl,hqb⟩
  ·rw[h0] at hi;simp at hi
  have hqb':=keep _ _ _ _ hU _ _ hqb;have hfl:=sP x.body;have hfd:=sV x.body i hi;have hlf:=hx.l _ (Qc hi);have htk:=Xh hi;generalize x.body[i]=l at*;have hla:=hlf.a;have hc9:i*9+9<=x.body.length*9:=Qf0;have hU2:=hU.app [.var 194 l.c];have hv:=(hU.get hm1 zoK hv1 Qf1 Qf1)
  have hva: ∀b,(h++[b])[H.length+3]? =some (.var 375 [.ptr (H.length+2) 0]):=fun b=>by rw[Qg (gsi hv).1];exact hv
  refine gf (a9 @hi @hw @hqb' @hfl @hfd @zB @zA @zX @hva) ?_;(refine g1f (a2 @hva @zA) ?_;refine zC (zhF _ _ _ _ es cls T0 hU2.m hU2.c (hva _) hI l.args (by have:=hx.b;omega)) (yf0 ?_);rintro p2 h2 ⟨es2,cls2,hU3,hI3,hle3,hhas,hargs3⟩);refine gf (a2 @hi @hw) ?_;refine⟨(es2,cls2,_),⟨hU2.trans hU3,hI3,by dsimp only;omega,fun t ht hne=>hhas _ (hargs t ht hne),fun l' hl' t ht hne=> ?_⟩,rfl,rfl,rfl⟩;rw[htk] at hl';rcases Qo.1 hl' with hl'|hl'
  ·exact hhas _ (hbody l' hl' t ht hne)
  ·rw[Qp] at hl';subst hl';exact hargs3 t ht hne
attribute [go_sem] only pI
end Go.AL
