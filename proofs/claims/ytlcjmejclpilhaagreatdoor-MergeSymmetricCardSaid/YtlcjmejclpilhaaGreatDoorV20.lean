/-
  Part of the walk.
-/
import Derived.Test.YtlcjmejclpilhaaGreatDoorV19
set_option linter.unusedSimpArgs false
set_option linter.unusedVariables false
set_option maxRecDepth 100000
set_option maxHeartbeats 4000000
namespace Go.AL
open Go.Proofs Go.Proofs.Tryz
@[go_sem] def UTyp8f163.pl:Nat->DPlan
 |6=>⟨[yA,yA,yA,yA,⟨7,0,[1003]⟩,yA,⟨7,0,[1006]⟩,yA,yB,⟨6,0,[1003,1006,1006]⟩,⟨6,0,[1006]⟩,yA,⟨7,0,[1006]⟩,yC],wS,0⟩
 |7=>⟨[yA,yB,⟨6,0,[1006]⟩,yA,⟨7,0,[1006]⟩,yC,yA,yC,yA,yC],xS,0⟩
 |8=>⟨[yA,yA,yA,yA,yA,yB,yB,yA,yC,yA,yA,yA,yC],yN,0⟩
 |13=>⟨[yA,yA,yA,yB,yA,yB,yC,yA,yC,yA,yC],vJ,0⟩
 |14=>⟨[yA,yB,⟨6,0,[1008]⟩,yA,⟨7,0,[1008]⟩,yC,yA,yC,yA,yC],xS,0⟩
 |17=>⟨[yA,yB,yA,yB,yA,yB,yB,yC,yA,yA,yA,yA,yC,yA],wS,0⟩
 |18=>⟨[yA,yA,yA,yA,yB,yA,yB,yA,yA,⟨6,0,[1008]⟩,yA,⟨7,0,[1008]⟩,yC],yN,0⟩
 |19=>⟨[yA,yA,yA,yA,yA,yB,yB,yA,yC,yA,yA,yA,yC],yN,0⟩
 |27=>⟨[yA,yA,yA,yB,yA,yB,yC,yA,yC],uW,0⟩
 |30=>⟨[yA,yA,yA,yA,yB,yA,yB,yA,yA,⟨6,0,[1011]⟩,yA,⟨7,0,[1011]⟩,yC],yN,0⟩
 |31=>⟨[yA,yA,yA,yA,yA,yB,yB,yA,yC,yA,yA,yA,yC],yN,0⟩
 |_=>⟨[],[],0⟩
theorem zlT{r:Option Nat}:(Value.map r).oneCell'=true:=rfl
attribute [go_sem] zlT oA Nat.lt_add_one
attribute [-go_sem] only
theorem uO(h:Heap)(r:Nat)(es:NM)(n:Nat)(s:BA)(i:Nat)(e:Int)(hr:h[r]? =some (.map es))(hes:NMap es n)(hi:i<n):ECall prog G0 219 [.mp r,yQ s,i64 i,i64 e] h fun p h'=> ∃(e':Int)(es':NM),p=i64 e'/\h'=h.set r (.map es')/\NMap es' n/\(e'=0->e=0):=by
 refine(aS h r es n s i e hr hes).mono ?_;rintro p h' ⟨e',rfl,rfl|rfl,hez⟩
 ·refine⟨e',es,rfl,?_,hes,hez⟩;obtain⟨hlt,he⟩:=gsi hr;rw[<-he,Js]
 ·exact⟨e',_,rfl,rfl,hes.set hi,hez⟩
def bU(rp:List (Int×Int))(e at':Int):List (Int×Int):=if e=0 then rp else rp++[(e,at')]
theorem vB(rp:List (Int×Int))(e at':Int):(bU rp e at').length<=rp.length+1:=by unfold bU;split<;>simp
theorem zaO(rp:List (Int×Int))(e at':Int):rp.length<=(bU rp e at').length:=by unfold bU;split<;>simp
theorem wQ{rp:List (Int×Int)}{e at':Int}(h:bU rp e at'=[]):rp=[]/\e=0:=by
 unfold bU at h;split at h
 ·exact⟨h,by assumption⟩
 ·simp at h
abbrev RLi(pQ:List La)(i:Nat)(rp:List (Int×Int)):Prop:=rp.length<=i/\(rp=[]-> ∀(j:Nat)(h:j<pQ.length),j<i->uE pQ[j]=0)
abbrev RLn(pQ:List La)(n:Nat)(rp:List (Int×Int)):Prop:=rp.length<=n/\(rp=[]-> ∀x∈pQ,uE x=0)
theorem wZ(b0 b1:Blk)(pc:List PV)(ml mf mp:NM)(L F P R Rep:PV)(J:Heap)(rp:List (Int×Int))(hrp:rp.length<=1048576)(hG:GrowN 7 253 (iV rp) 2 J Rep)(e at':Int):
  ECall prog G0 218 [.ptr 6 0,i64 e,i64 at'] (SH b0 b1 pc ml mf mp L F P R Rep J) fun _ h'=> ∃Rep' J',h'=SH b0 b1 pc ml mf mp L F P R Rep' J'/\GrowN 7 253 (iV (bU rp e at')) 2 J' Rep'/\Keep J J':=by
 refine(zdD b0 b1 pc ml mf mp L F P R Rep J rp hrp hG e at').mono ?_;rintro _ h' (⟨rfl,rfl⟩|⟨he,Rep',J',rfl,h1,h2⟩)
 ·exact⟨Rep,J,rfl,hG,Keep.refl _⟩
 ·refine⟨Rep',J',rfl,?_,h2⟩;unfold bU;rw[Qi he];exact h1
theorem GrowN.set2{off:Nat}{t:TypeId}{els:List (List PV)}{k:Nat}{J:Heap}{V:PV}(h:GrowN off t els k J V){q:Nat}{b:Blk}(hq:J[q]? =some b)(hb: ∀k n,b≠ .vec t k n)(c:Blk):GrowN off t els k (J.set q c) V:=by
 rcases h with h|⟨q',h1,hq'⟩
 ·exact .inl h
 ·refine .inr ⟨q',h1,?_⟩;have:q≠q':=fun e=>by subst e;rw[hq] at hq';cases hq';exact hb _ _ rfl
  rw[Qd this];exact hq'
structure NSI(p:Pg)(i:Nat)(ml:NM)(J:Heap)(L Rep:PV)(rp:List (Int×Int)):Prop where
 m:NMap ml i
 l:GrowN 7 131 ((p.pQ.take i).map La.c) 4 J L
 r:GrowN 7 253 (iV rp) 2 J Rep
 rl:RLi p.pQ i rp
@[reducible] def Fu.c2(x:Fu×PV):List PV:=[yQ x.1.name,yQ x.1.lat,i64 x.1.of',rR x.1.fr,rR x.1.to,x.2,i64 x.1.at']
structure NSF(p:Pg)(i:Nat)(mf:NM)(J:Heap)(L F Rep:PV)(rp:List (Int×Int))(fs:List (Fu×PV)):Prop where
 m:NMap mf i
 l:GrowN 7 131 (p.pQ.map La.c) 4 J L
 f:GrowN 7 183 (fs.map Fu.c2) 7 J F
 r:GrowN 7 253 (iV rp) 2 J Rep
 rl:RLn p.pQ (p.pQ.length+i) rp
 fl:fs.length=i
 fb: ∀x∈fs,x.2= .nil\/x.2=vF x.1.table
def PzL(pk ps:List Pd):Prop:= ∀(j:Nat)(h:j<ps.length)(h':j<pk.length),pk[j].lat=eS->ps[j].of'= -1
theorem PzL.app{pk ps:List Pd}{i:Nat}{x y:Pd}(h:PzL pk ps)(hl:ps.length=i)(hi:i<pk.length)(hx:pk[i]=x)(hy:x.lat=eS->y.of'= -1):PzL pk (ps++[y]):=fun j h1 h2 e=>by
 rw[Ql] at h1;rcases Xy j ps.length with q|q
 ·rw[List.getElem_append_left q];exact h j q h2 e
 ·have:j=i:=by simp at h1;omega
  subst this;rw[List.getElem_append_right q];simp only[List.getElem_singleton];exact hy (by rw[<-hx];exact e)
structure NSP(p:Pg)(i:Nat)(mp:NM)(J:Heap)(L F P Rep:PV)(rp:List (Int×Int))(fs:List (Fu×PV))(ps:List Pd):Prop where
 m:NMap mp i
 l:GrowN 7 131 (p.pQ.map La.c) 4 J L
 f:GrowN 7 183 (fs.map Fu.c2) 7 J F
 pp:GrowN 7 73 (ps.map Pd.c) 7 J P
 r:GrowN 7 253 (iV rp) 2 J Rep
 rl:RLn p.pQ (p.pQ.length+p.pZ.length+i) rp
 pl:ps.length=i
 pb: ∀x∈ps, -1<=x.of'/\x.of'<p.pQ.length/\x.types.length<=4
 pz:PzL p.pk ps
def NSK(b0 b1:Blk)(p:Pg)(q:PV)(h':Heap):Prop:= ∃(ml mf mp:NM)(L F P Rep:PV)(J:Heap)(rp:List (Int×Int))(fs:List (Fu×PV))(ps:List Pd),q= .ptr 6 0/\h'=SH b0 b1 p.c ml mf mp L F P .nil Rep J/\
 NMap ml p.pQ.length/\NMap mf fs.length/\NMap mp ps.length/\GrowN 7 131 (p.pQ.map La.c) 4 J L/\GrowN 7 183 (fs.map Fu.c2) 7 J F/\(∀x∈fs,x.2= .nil\/x.2=vF x.1.table)/\
 GrowN 7 73 (ps.map Pd.c) 7 J P/\GrowN 7 253 (iV rp) 2 J Rep/\ps.length=p.pk.length/\(∀x∈ps, -1<=x.of'/\x.of'<p.pQ.length/\x.types.length<=4)/\fs.length=p.pZ.length/\rp.length<=36/\(rp=[]-> ∀x∈p.pQ,uE x=0)/\PzL p.pk ps
open UTyp8f163 in
theorem dV(b0 b1:Blk)(p:Pg)(hp:p.ok)(hf:p.fm)(hle: ∀x∈p.pQ,x.pw.length<=1048576/\x.pJ.length<=1048576):ECall prog G0 163 [.agg p.c] [b0,b1] fun q h'=>NSK b0 b1 p q h':=by
 have Z:=(a3 @zB @zA @zX)
 have Z1:=(a2 @zB @Nat.add_lt_add_iff_right)
 refine pv func163 183 false Qf3 rfl rfl ?_;refine g2 ?_;obtain⟨pQ,pZ,pk,pX⟩:=p;obtain⟨h1,h2,h3,h4,h5,h6,h7,h8⟩:=hp;obtain⟨f1,f2,f3,f4,f5,f6,f7⟩:=hf;dsimp only at*;refine ge ?_;refine zO pQ.length (K4 (.k:: .d:: .d::K9 (K4 (.k:: .k:: .k:: .v::D9 (D9 (D9 (D9 (.d:: .d:: .d::K9 (K9 (K9 (K9 (K9 (K9 (K9 (K9 (K9 (K9 (K9 (K9 (K9 (.k:: .k:: .k::[]))))))))))))))))))))) (own:=false) (fun i (s:NM×PV×PV×List (Int×Int)×Heap)=>[i64 i]) (fun s=>SH b0 b1 _ s.1 [] [] s.2.1 .nil .nil .nil s.2.2.1 s.2.2.2.2) (fun i s=>NSI ⟨pQ,pZ,pk,pX⟩ i s.1 s.2.2.2.2 s.2.1 s.2.2.1 s.2.2.2.1) ([],.nil,.nil,[],[]) rfl rfl ⟨by simp[NMap],.inl ⟨rfl,rfl⟩,.inl ⟨rfl,rfl⟩,Qf1,fun _ _ _ h=>absurd h (Xt _)⟩ Qf0 ?_ ?_
 ·rintro⟨ml,L,Rep,rp,J⟩ ⟨i1,i2,i3,i4⟩ t ht;dsimp only at*;simp only[zY] at ht;subst ht;refine gf @zM ?_;have htl:pQ.take pQ.length=pQ:=Qf1;rw[htl] at i2;refine zO pZ.length (K4 (.k:: .k:: .k:: .d:: .d:: .d::K9 (K9 (K9 (K9 (K9 (K9 (.k:: .k:: .v::D9 (D9 (D9 (D9 (D9 (D9 (D4 (D4 (K9 (K9 (K9 (K9 (K9 (K9 ([])))))))))))))))))))))) (own:=false) (fun i (s:NM×PV×PV×List (Int×Int)×Heap×List (Fu×PV))=>[i64 i]) (fun s=>SH b0 b1 _ ml s.1 [] L s.2.1 .nil .nil s.2.2.1 s.2.2.2.2.1) (fun i s=>NSF ⟨pQ,pZ,pk,pX⟩ i s.1 s.2.2.2.2.1 L s.2.1 s.2.2.1 s.2.2.2.1 s.2.2.2.2.2) ([],.nil,Rep,rp,J,[]) rfl rfl ⟨by simp[NMap],i2,.inl ⟨rfl,rfl⟩,i3,⟨by dsimp only;omega,fun q x hx=>by obtain⟨j,hj,rfl⟩:=Qy hx;exact i4.2 q j hj hj⟩,rfl,Qf1⟩ Qf0 ?_ ?_
  ·rintro⟨mf,F,Rep,rp,J,fs⟩ ⟨hmf0,i2,i3,i4,i5,hfl0,hfb0⟩ t ht;dsimp only at*;simp only[zY] at ht;subst ht;refine gf @zM ?_;refine zO pk.length (K9 (.k:: .d:: .d:: .d::K9 (K9 (K9 (K9 (K9 (K9 (K9 (K9 (K9 (K9 (K9 (K9 (K9 (.k:: .k:: .v::D9 (D9 (D9 (D9 (D9 (D4 (.k::[]))))))))))))))))))))) (own:=false) (fun i (s:NM×PV×PV×List (Int×Int)×Heap×List Pd)=>[i64 i]) (fun s=>SH b0 b1 _ ml mf s.1 L F s.2.1 .nil s.2.2.1 s.2.2.2.2.1) (fun i s=>NSP ⟨pQ,pZ,pk,pX⟩ i s.1 s.2.2.2.2.1 L F s.2.1 s.2.2.1 s.2.2.2.1 fs s.2.2.2.2.2) ([],.nil,Rep,rp,J,[]) rfl rfl ⟨by simp[NMap],i2,i3,.inl ⟨rfl,rfl⟩,i4,⟨by dsimp only;omega,i5.2⟩,rfl,Qf1,fun _ h=>absurd h (Xt _)⟩ Qf0 ?_ ?_
   ·rintro⟨mp,P,Rep,rp,J,ps⟩ ⟨k1,k2,k3,k4,k5,k6,k7,k8,k9⟩ t ht;dsimp only at*;simp only[zY] at ht;subst ht;refine gf @zM ?_;exact⟨ml,mf,mp,L,F,P,Rep,J,rp,fs,ps,rfl,rfl,i1,by rw[hfl0];exact hmf0,by rw[k7];exact k1,k2,k3,hfb0,k4,k5,k7,k8,hfl0,Qf0,k6.2,k9⟩
   ·rintro i ⟨mp,P,Rep,rp,J,ps⟩ hi hw ⟨j1,j2,j3,jp,j4,j5,j6,j7,j8⟩ t ht;have Z3:=(a3 Z @hi @hw)
    have Z8:=(a3 Z1 @hi @hw)
    dsimp only at*;simp only[zY] at ht;subst ht;have hx:=zG (f:=Pd.c) [] hi;obtain⟨x,hxe⟩: ∃x,pk[i]=x:=⟨_,rfl⟩
    have hxo:x.ok:=hxe▸h6 _ (Qc hi);have hxf:x.fm:=hxe▸f5 _ (Qc hi);have hxl:=hxf.2.2;rw[hxe] at hx;have h68:(6<J.length+1+1+1+1+1+1+1+1)=True:=Qf1;have Z7:=(a3 Z3 @hx @h68)
    refine gf Z7 ?_;(refine g1f Z7 ?_;refine zC ((zd7 x.types Qf0 (all_map fun _=>rfl)).call zK Qf1 _) (yf0 ?_);rintro p2 h2 ⟨rfl,rfl⟩);by_cases hs:x.lat=eS
    ·have hb:(!decide (x.lat=eS))=false:=by simp[hs]
     refine gf (a3 Z7 @hb @hs) ?_;(refine yf1 Z7 ?_;refine xR rfl rfl (uO _ 5 mp (i+1) x.name i 0 rfl (j1.mono Qf0) Qf0) (by rintro _ _ ⟨_,_,_,rfl,_⟩ k hk _;have hk:k∈[1011]:=hk;simp only[Qp] at hk;subst hk;simp[nu]) (yf0 ?_);rintro p2 h2 ⟨e',mp',rfl,rfl,hmp',hez⟩);refine gf Z7 ?_;(refine yf1 Z7 ?_;refine zP Qf2 Qf2 (wZ b0 b1 _ ml mf mp' L F P .nil Rep (J++[.var 73 _]) rp Qf0 (j4.app _) e' x.at') (yf0 ?_);rintro p2 h2 ⟨Rep',J',rfl,hr',hk'⟩);have hq':=hk' J.length _ (Wb ..) Qf1;have hF':=hk'.grow Qf2 (j3.app _);have hL':=hk'.grow Qf2 (j2.app _);have hP':=hk'.grow Qf2 (jp.app _);have hqlt:J.length<J'.length:=(gsi hq').1;have h6J:(6<J'.length+1+1+1+1+1+1+1)=True:=Qf1;have hqJ:(J.length<J'.length)=True:=Qfl;have hpb: ∀y:Pd,y∈ps++[⟨x.name,x.types,eS, -1,x.base,x.key,x.at'⟩]-> -1<=y.of'/\(y.of':Int)<(pQ.length:Int)/\y.types.length<=4:=by
      intro y hy;rcases Qo.1 hy with hy|hy
      ·exact j7 y hy
      ·rw[Qp] at hy;subst hy;dsimp only;omega
     have hpz:PzL pk (ps++[⟨x.name,x.types,eS, -1,x.base,x.key,x.at'⟩]):=PzL.app j8 j6 hi hxe (fun _=>rfl);clear h68 hx hk';generalize J.length=q at*;rcases hP' with ⟨h0,rfl⟩|⟨ql,rfl,hql⟩
     ·have hps:ps=[]:=Qg5;subst hps;refine gf (a4 Z8 @hq' @h6J @hqJ) ?_;exact⟨(mp',_,Rep',bU rp e' x.at',_,[⟨x.name,x.types,eS, -1,x.base,x.key,x.at'⟩]),⟨hmp',hL'.app _,hF'.app _,.inr ⟨J'.length,Qf1,Qf1⟩,hr'.app _,⟨by have:=vB rp e' x.at';dsimp only;omega,fun q=>j5.2 (wQ q).1⟩,by simp at j6 ⊢;omega,hpb,hpz⟩,rfl,rfl,rfl⟩
     ·simp only[Qr] at hql;have hqll:ql<J'.length:=(gsi hql).1;have hfl:ps.length<=24:=Qf0;refine gf (a5 Z8 @hq' @h6J @hqJ @hql) ?_;exact⟨(mp',_,Rep',bU rp e' x.at',_,ps++[⟨x.name,x.types,eS, -1,x.base,x.key,x.at'⟩]),⟨hmp',hL'.set2 hql Qf1 _,hF'.set2 hql Qf1 _,.inr ⟨ql,by rw[Xq];rfl,by rw[Qh hqll];simp⟩,hr'.set2 hql Qf1 _,⟨by have:=vB rp e' x.at';dsimp only;omega,fun q=>j5.2 (wQ q).1⟩,by simp[j6],hpb,hpz⟩,rfl,rfl,rfl⟩
    ·have hb:(!decide (x.lat=eS))=true:=by simp[hs]
     refine gf (a5 Z3 @hx @h68 @hb @hs) ?_;(refine yf1 (a3 Z3 @hx @h68) ?_;refine zP Qf2 Qf2 (lE _ 3 ml pQ.length x.lat rfl i1) (yf0 ?_);rintro p2 h2 ⟨of',rfl,ho1,ho2,rfl⟩);refine gf (a4 Z3 @hx @h68 @hs) ?_;by_cases hof0:of'<0
     ·have hof:decide (of'<0)=true:=by simp[hof0]
      refine zjA (a4 Z3 @hx @h68 @hof) ?_;(refine yf1 (a3 Z3 @hx @h68) ?_;refine xR rfl rfl (uO _ 5 mp (i+1) x.name i 70 rfl (j1.mono Qf0) Qf0) (by rintro _ _ ⟨_,_,_,rfl,_⟩ k hk _;have hk:k∈[1011]:=hk;simp only[Qp] at hk;subst hk;simp[nu]) (yf0 ?_);rintro p2 h2 ⟨e',mp',rfl,rfl,hmp',hez⟩);exact Qa0
     ·have hof:decide (of'<0)=false:=Qfh;(repeat(first|refine gz ?_|(refine gn ?_;intro zs zh;(try simp only[go_sem,Z3,hx,h68,hof,decide_false] at zh);subst zh;refine gv ?_)|refine yD UTyp8f163.pl ?_));(refine yf1 (a3 Z3 @hx @h68) ?_;refine xR rfl rfl (uO _ 5 mp (i+1) x.name i 0 rfl (j1.mono Qf0) Qf0) (by rintro _ _ ⟨_,_,_,rfl,_⟩ k hk _;have hk:k∈[1011]:=hk;simp only[Qp] at hk;subst hk;simp[nu]) (yf0 ?_);rintro p2 h2 ⟨e',mp',rfl,rfl,hmp',hez⟩);exact Qa0
  ·rintro i ⟨mf,F,Rep,rp,J,fs⟩ hi hw ⟨j1,j2,j3,j4,j5,j6,j7⟩ t ht;have Z10:=(a3 Z1 @hi @hw)
   dsimp only at*;simp only[zY] at ht;subst ht;have hx:=zG (f:=Fu.c) [] hi;obtain⟨x,hxe⟩: ∃x,pZ[i]=x:=⟨_,rfl⟩
   have hxo:x.ok:=hxe▸h4 _ (Qc hi);have hxf:x.fm:=hxe▸f3 _ (Qc hi);have hxl:=hxf.2;have hxl2:x.to.length<=8:=by have:=hxf.1;omega
   rw[hxe] at hx;have h68:(6<J.length+1+1+1+1+1+1+1+1)=True:=Qf1;have Z2:=(a5 Z @hi @hx @hw @h68)
   refine gf Z2 ?_;(refine yf1 Z2 ?_;refine zP Qf2 Qf2 (lE _ 3 ml pQ.length x.lat rfl i1) (yf0 ?_);rintro p2 h2 ⟨of',rfl,ho1,ho2,rfl⟩);refine gf Z2 ?_;(refine yf1 Z2 ?_;refine xR rfl rfl ((lU x.fr Qf0 (all_map fun _=>rfl)).call zK Qf1 _) Qh9 (yf0 ?_);rintro p2 h2 ⟨rfl,rfl⟩);refine gf Z2 ?_;(refine yf1 Z2 ?_;refine zP Qf2 Qf2 ((lU x.to Qf0 (all_map fun _=>rfl)).call zK Qf1 _) (yf0 ?_);rintro p2 h2 ⟨rfl,rfl⟩);refine gf Z2 ?_;by_cases hof0:0<=of'
   ·have hof:decide (0<=of')=true:=by simp[hof0]
    have Z9:=(a2 Z2 @hof)
    obtain⟨ofn,rfl⟩:=Qm hof0;have hofl:ofn<pQ.length:=Qf0;have hlx:=zG (f:=La.c) [] hofl;obtain⟨hle1,hle2⟩:=hle _ (Qc hofl);refine zjA (a3 Z9 @hofl @hlx) ?_;(refine zF rfl rfl rfl ?_;intro zs zh;simp only[go_sem,Z9,hofl,hlx,decide_true] at zh;subst zh;refine zP Qf2 Qf2 (((ze6 pQ[ofn] (h2 _ (Qc hofl)) hle1 ⟨x.name,x.lat,ofn,x.fr,x.to,[],x.at'⟩ ⟨hxo.n,hxo.l,hxo.fl,hxo.f,hxo.tl,hxo.t,Qf1⟩ hxf.1).call zK Qfb _).args (.cons (PLe.refl _) (.cons (PLes.agg (.cons (PLe.refl _) (.cons (PLe.refl _) (.cons (PLe.refl _) (.cons (PLe.refl _) (.cons (PLe.refl _) (.cons (PLe.nil_ts 1) (.cons (PLe.refl _) .nil)))))))) .nil))) (yf0 ?_);rintro p2 h2 ⟨⟨tb,e,rfl,htb⟩,rfl⟩);refine zjA (a3 Z9 @hofl @hlx) ?_;(refine yf1 Z9 ?_;refine xR rfl rfl (uO _ 4 mf (i+1) x.name i e rfl (j1.mono Qf0) Qf0) (by rintro _ _ ⟨_,_,_,rfl,_⟩ k hk _;have hk:k∈[1008]:=hk;simp only[Qp] at hk;subst hk;simp[nu]) (yf0 ?_);rintro p2 h2 ⟨e',mf',rfl,rfl,hmf',hez⟩);refine gf Z9 ?_;(refine yf1 Z9 ?_;refine zP Qf2 Qf2 (wZ b0 b1 _ ml mf' [] L F .nil .nil Rep (J++[.var 183 _]) rp Qf0 (j4.app _) e' x.at') (yf0 ?_);rintro p2 h2 ⟨Rep',J',rfl,hr',hk'⟩);have hq':=hk' J.length _ (Wb ..) Qf1;have hF':=hk'.grow Qf2 (j3.app _);have hL':=hk'.grow Qf2 (j2.app _);have hqlt:J.length<J'.length:=(gsi hq').1;have h6J:(6<J'.length+1+1+1+1+1+1+1)=True:=Qf1;have hqJ:(J.length<J'.length)=True:=Qfl;have hfb: ∀y∈fs++[(⟨x.name,x.lat,ofn,x.fr,x.to,tb,x.at'⟩,vF tb)],y.2= .nil\/y.2=vF y.1.table:=by
     exact Qd1
    clear h68 hx hk';generalize J.length=q at*;rcases hF' with ⟨h0,rfl⟩|⟨ql,rfl,hql⟩
    ·have hfs:fs=[]:=Qg5;subst hfs;refine gf (a4 Z10 @hq' @h6J @hqJ) ?_;exact⟨(mf',_,Rep',bU rp e' x.at',_,[(⟨x.name,x.lat,ofn,x.fr,x.to,tb,x.at'⟩,vF tb)]),⟨hmf',hL'.app _,.inr ⟨J'.length,Qf1,Qf1⟩,hr'.app _,⟨by have:=vB rp e' x.at';dsimp only;omega,fun q=>j5.2 (wQ q).1⟩,by simp at j6 ⊢;omega,hfb⟩,rfl,rfl,rfl⟩
    ·simp only[Qr] at hql;have hqll:ql<J'.length:=(gsi hql).1;have hfl:fs.length<=8:=Qf0;refine gf (a5 Z10 @hq' @h6J @hqJ @hql) ?_;exact⟨(mf',_,Rep',bU rp e' x.at',_,fs++[(⟨x.name,x.lat,ofn,x.fr,x.to,tb,x.at'⟩,vF tb)]),⟨hmf',hL'.set2 hql Qf1 _,.inr ⟨ql,by rw[Xq];rfl,by rw[Qh hqll];simp⟩,hr'.set2 hql Qf1 _,⟨by have:=vB rp e' x.at';dsimp only;omega,fun q=>j5.2 (wQ q).1⟩,by simp[j6],hfb⟩,rfl,rfl,rfl⟩
   ·have hof:decide (0<=of')=false:=Qfh;have Z6:=(a6 Z @hi @hx @hw @h68 @hof)
    refine gf Z6 ?_;(refine yf1 Z6 ?_;refine xR rfl rfl (uO _ 4 mf (i+1) x.name i 70 rfl (j1.mono Qf0) Qf0) (by rintro _ _ ⟨_,_,_,rfl,_⟩ k hk _;have hk:k∈[1008]:=hk;simp only[Qp] at hk;subst hk;simp[nu]) (yf0 ?_);rintro p2 h2 ⟨e',mf',rfl,rfl,hmf',hez⟩);refine gf Z6 ?_;(refine yf1 Z6 ?_;refine zP Qf2 Qf2 (wZ b0 b1 _ ml mf' [] L F .nil .nil Rep (J++[.var 183 _]) rp Qf0 (j4.app _) e' x.at') (yf0 ?_);rintro p2 h2 ⟨Rep',J',rfl,hr',hk'⟩);have hq':=hk' J.length _ (Wb ..) Qf1;have hF':=hk'.grow Qf2 (j3.app _);have hL':=hk'.grow Qf2 (j2.app _);have hqlt:J.length<J'.length:=(gsi hq').1;have h6J:(6<J'.length+1+1+1+1+1+1+1)=True:=Qf1;have hqJ:(J.length<J'.length)=True:=Qfl;have hfb: ∀y∈fs++[(⟨x.name,x.lat,of',x.fr,x.to,[],x.at'⟩,.nil)],y.2= .nil\/y.2=vF y.1.table:=by
     exact Qd1
    clear h68 hx hk';generalize J.length=q at*;rcases hF' with ⟨h0,rfl⟩|⟨ql,rfl,hql⟩
    ·have hfs:fs=[]:=Qg5;subst hfs;refine gf (a4 Z10 @hq' @h6J @hqJ) ?_;exact⟨(mf',_,Rep',bU rp e' x.at',_,[(⟨x.name,x.lat,of',x.fr,x.to,[],x.at'⟩,.nil)]),⟨hmf',hL'.app _,.inr ⟨J'.length,Qf1,Qf1⟩,hr'.app _,⟨by have:=vB rp e' x.at';dsimp only;omega,fun q=>j5.2 (wQ q).1⟩,by simp at j6 ⊢;omega,hfb⟩,rfl,rfl,rfl⟩
    ·simp only[Qr] at hql;have hqll:ql<J'.length:=(gsi hql).1;have hfl:fs.length<=8:=Qf0;refine gf (a5 Z10 @hq' @h6J @hqJ @hql) ?_;exact⟨(mf',_,Rep',bU rp e' x.at',_,fs++[(⟨x.name,x.lat,of',x.fr,x.to,[],x.at'⟩,.nil)]),⟨hmf',hL'.set2 hql Qf1 _,.inr ⟨ql,by rw[Xq];rfl,by rw[Qh hqll];simp⟩,hr'.set2 hql Qf1 _,⟨by have:=vB rp e' x.at';dsimp only;omega,fun q=>j5.2 (wQ q).1⟩,by simp[j6],hfb⟩,rfl,rfl,rfl⟩
 ·rintro i ⟨ml,L,Rep,rp,J⟩ hi hw ⟨i1,i2,i3,i4⟩ t ht;dsimp only at*;simp only[zY] at ht;subst ht;have hx:=zG (f:=La.c) [] hi;obtain⟨x,hxe⟩: ∃x,pQ[i]=x:=⟨_,rfl⟩
  obtain⟨hxe1,hxe2⟩:=hle _ (Qc hi);rw[hxe] at hxe1 hxe2;have hxo:x.ok:=hxe▸h2 _ (Qc hi);have htl:(pQ.take i).length=i:=Qfh;have htk:(pQ.take (i+1)).map La.c=(pQ.take i).map La.c++[x.c]:=by rw[Xh hi,hxe,Xq];rfl
  rw[hxe] at hx;have h68:(6<J.length+1+1+1+1+1+1+1+1)=True:=Qf1;have Z5:=(a5 Z @hi @hx @hw @h68)
  refine gf Z5 ?_;(refine yf1 Z5 ?_;refine xR rfl rfl ((zjV x hxo).1.call zK Qfb _) Qh9 (yf0 ?_);rintro p2 h2 ⟨rfl,rfl⟩);obtain⟨e,hce⟩: ∃e,uE x=e:=⟨_,rfl⟩
  rw[hce];(refine yf1 Z5 ?_;refine xR rfl rfl (uO _ 3 ml (i+1) x.name i e rfl (i1.mono Qf0) Qf0) (by rintro _ _ ⟨_,_,_,rfl,_⟩ k hk _;have hk:k∈[1006]:=hk;simp only[Qp] at hk;subst hk;simp[nu]) (yf0 ?_);rintro p2 h2 ⟨e',ml',rfl,rfl,hml',hez⟩);have ck:bU rp e' x.at'=[]-> ∀(j:Nat)(h:j<pQ.length),j<i+1->uE pQ[j]=0:=fun q j h hj=>by
   rcases Xy j i with r|r
   ·exact i4.2 (wQ q).1 j h r
   ·have:j=i:=Qf0;subst this;rw[hxe,hce];exact hez (wQ q).2
  refine gf Z5 ?_;(refine yf1 Z5 ?_;refine zP Qf2 Qf2 (wZ b0 b1 _ ml' [] [] L .nil .nil .nil Rep (J++[.var 131 x.c]) rp Qf0 (i3.app _) e' x.at') (yf0 ?_);rintro p2 h2 ⟨Rep',J',rfl,hr',hk'⟩);have hq':J'[J.length]? =some (.var 131 x.c):=hk' _ _ Qf1 Qf1;have hL':=hk'.grow Qf2 (i2.app [.var 131 x.c]);have hqlt:J.length<J'.length:=(gsi hq').1;have h6J:(6<J'.length+1+1+1+1+1+1+1)=True:=Qf1;have hqJ:(J.length<J'.length)=True:=Qfl;have Z4:=(a6 Z1 @hi @hw @hq' @h6J @hqJ)
  clear h68 hx hk' i2 i3;generalize J.length=q at*;refine gf Z4 ?_;(refine yf1 Z4 ?_;refine xR rfl rfl ((lU x.pw Qf0 (all_map fun _=>rfl)).call zK Qf1 _) Qh9 (yf0 ?_);rintro p2 h2 ⟨rfl,rfl⟩);refine gf Z4 ?_;(refine yf1 Z4 ?_;refine zP Qf2 Qf2 ((zd8 x.pJ Qf0 (all_map fun _=>rfl)).call zK Qf1 _) (yf0 ?_);rintro p2 h2 ⟨rfl,rfl⟩);have hqs: ∀b,(J'.set q b)[q]? =some b:=fun b=>Qh hqlt;rcases hL' with ⟨h0,rfl⟩|⟨ql,rfl,hql⟩
  ·rw[h0] at htk;refine zjA (a2 Z4 @hqs) ?_;exact⟨(ml',_,Rep',bU rp e' x.at',_),⟨hml',.inr ⟨J'.length,by rw[htk];simp,by rw[htk];simp⟩,(hr'.set2 hq' Qf1 _).app _,⟨by have:=vB rp e' x.at';dsimp only;omega,ck⟩⟩,rfl,rfl,rfl⟩
  ·simp only[Qr,htl] at hql;have hne:q≠ql:=fun e=>by subst e;rw[hq'] at hql;cases hql
   have hql2: ∀b,(J'.set q b)[ql]? =some (.vec 131 4 i):=fun b=>by rw[Qd hne];exact hql
   have hqll:ql<J'.length:=(gsi hql).1;refine zjA (a4 Z4 @hqs @hql2 @htl) ?_;exact⟨(ml',_,Rep',bU rp e' x.at',_),⟨hml',.inr ⟨ql,by rw[htk],by rw[Qh (by simp;exact hqll),htk];simp;omega⟩,(hr'.set2 hq' Qf1 _).set2 (hql2 _) Qf1 _,⟨by have:=vB rp e' x.at';dsimp only;omega,ck⟩⟩,rfl,rfl,rfl⟩
attribute [go_sem] only
@[go_sem] def UTyp9f227.pl:Nat->DPlan
 |4=>⟨[yA,yA,yA,yA,yB,yA,yA,yA,yB,yC,yA,yA,yC],yN,0⟩
 |7=>⟨[yA,yA,yA,yA,yE,yA,yA,yA,yE,yA,yE,vC,yC],yN,1⟩
 |10=>⟨[yB,yA,yA,yA,yB,yC,yA],tV,0⟩
 |13=>⟨[yA,yA,yA,yA,yB,yA,yA,yB,yA,yA],xS,0⟩
 |17=>⟨[yA,yA,yA,yB,yA,yA,yA,yA,yB,yC,yA,yA,yA,yC],wS,0⟩
 |21=>⟨[yA,yA,yA,yA,yB,yA,yA,yA,yA,yB,yC,yA,yA,yA,yC],yG,0⟩
 |24=>⟨[yA,yA,yA,yA,yB,yA,yA,yA,yA,yB,yA,yA,yB,yA,yB,yA],xE,0⟩
 |_=>⟨[],[],0⟩
theorem GrowN.vec{off:Nat}{t:TypeId}{els:List (List PV)}{k:Nat}{J:Heap}{V:PV}(h:GrowN off t els k J V)(h0:0<els.length): ∃q,V= .vec (q+off) k els/\J[q]? =some (.vec t k els.length):=by
 rcases h with ⟨h,_⟩|h
 ·subst h;simp at h0
 ·exact h
theorem zb2(b0 b1:Blk)(pc:List PV)(ml mf mp:NM)(L F P R Rep:PV)(J:Heap)(pQ:List La)(hl: ∀x∈pQ,x.ok)(hll:pQ.length<=140737488355328)(hG:GrowN 7 131 (pQ.map La.c) 4 J L)(i:Nat)(hi:i<pQ.length)(s:BA):
  ECall prog G0 298 [.ptr 6 0,i64 i,yQ s] (SH b0 b1 pc ml mf mp L F P R Rep J) fun p h'=>(∃n:Int,p=i64 n/\ -1<=n/\n<pQ[i].pw.length)/\h'=SH b0 b1 pc ml mf mp L F P R Rep J:=by
 refine pv func298 18 false Qf3 rfl rfl ?_;refine g2 ?_;obtain⟨q,rfl,hq⟩:=hG.vec Qfh;have hx:=zG (f:=La.c) [] hi;have hxo:=hl _ (Qc hi);refine gf (a3 @hi @hx @zB) ?_;(refine g1f (a3 @hi @hx @zB) ?_;refine zC ((qH pQ[i].pw s hxo.e).call zK Qf1 _) (yf0 ?_);rintro p2 h2 ⟨⟨n,rfl,h1,h2⟩,rfl⟩);refine ge ?_;exact⟨⟨n,rfl,h1,h2⟩,rfl⟩
def But(q:Nat)(J J':Heap):Prop:= ∀(r:Nat)(b:Blk),r≠q->J[r]? =some b->J'[r]? =some b
theorem But.grow{q:Nat}{J J':Heap}(h:But q J J'){t:TypeId}{els:List (List PV)}{k:Nat}{V:PV}{b:Blk}(hq:J[q]? =some b)(hb: ∀k n,b≠ .vec t k n)(hG:GrowN 7 t els k J V):GrowN 7 t els k J' V:=by
 rcases hG with hG|⟨q',h1,hq'⟩
 ·exact .inl hG
 ·exact .inr ⟨q',h1,h q' _ (fun e=>by subst e;rw[hq] at hq';cases hq';exact hb _ _ rfl) hq'⟩
structure Sc(pQ:List La)(fs:List (Fu×PV))(ps:List Pd)(ml mf mp:NM)(L F P:PV)(J:Heap):Prop where
 lo: ∀x∈pQ,x.ok
 ll:pQ.length<=4
 l:GrowN 7 131 (pQ.map La.c) 4 J L
 f:GrowN 7 183 (fs.map Fu.c2) 7 J F
 fl:fs.length<=8
 p:GrowN 7 73 (ps.map Pd.c) 7 J P
 pl:ps.length<=24
 pb: ∀x∈ps, -1<=x.of'/\x.of'<pQ.length/\x.types.length<=4
 ml:NMap ml pQ.length
 mf:NMap mf fs.length
 mp:NMap mp ps.length
abbrev RuC(x:Ru)(B:PV):List PV:=[yQ x.name,i64 x.pred,zrX x.args,i64 x.elem.kind,yQ x.elem.name,yQ x.elem.var,i64 x.elem.ix,B,i64 x.at']
open UTyp9f227 in
theorem zjI(b0 b1:Blk)(pc:List PV)(ml mf mp:NM)(L F P R Rep:PV)(J:Heap)(pQ:List La)(fs:List (Fu×PV))(ps:List Pd)(hS:Sc pQ fs ps ml mf mp L F P J)(q:Nat)(x:Ru)(B:PV)(hq:J[q]? =some (.var 191 (RuC x B)))(hx:x.args.length<=4):
  ECall prog G0 227 [.ptr 6 0,.ptr (q+7) 0] (SH b0 b1 pc ml mf mp L F P R Rep J) fun p h'=> ∃(e pd ix:Int)(J':Heap),p=i64 e/\h'=SH b0 b1 pc ml mf mp L F P R Rep J'/\But q J J'/\J'[q]? =some (.var 191 (RuC {x with pred:=pd,elem:={x.elem with ix:=ix}} B))/\
   (e=0->(pd= -1/\x.name=eS)\/ ∃i:Nat,pd=i/\ ∃h:i<ps.length,x.args.length=ps[i].types.length):=by
 refine pv func227 132 false Qf3 rfl rfl ?_;refine g2 ?_;have hqlt:q<J.length:=(gsi hq).1;obtain⟨name,pred,args,⟨ek,en,ev,ei⟩,body,at'⟩:=x;dsimp only at*;have hqs: ∀b,(J.set q b)[q]? =some b:=fun b=>Qh hqlt;have Z1:=(a2 @hq @hqs)
 by_cases hn:name=eS
 ·subst hn;refine ygE Z1 ?_;exact⟨0, -1, -1,_,rfl,rfl,fun r b hr hb=>by rw[Qd (Ne.symm hr)];exact hb,hqs _,fun _=> .inl ⟨rfl,rfl⟩⟩
 ·refine ygE (a2 Z1 @hn) ?_;(refine zF rfl rfl rfl ?_;intro zs zh;simp only[go_sem,Z1,hn,Wi] at zh;subst zh;refine zP Qf2 Qf2 (lE _ 5 mp ps.length name rfl hS.mp) (yf0 ?_);rintro p2 h2 ⟨pd,rfl,hp1,hp2,rfl⟩);have hqs2: ∀b,((J.set q b)++[.non])[q]? =some b:=fun b=>by rw[Qg Qgc];exact hqs b
  by_cases hp0:pd<0
  ·have e1:decide (pd<0)=true:=by simp[hp0]
   refine ygE (a3 Z1 @hn @e1) ?_;exact⟨70,pd, -1,_,rfl,rfl,fun r b hr hb=>by rw[Qd (Ne.symm hr)];exact hb,hqs _,fun h=>by omega⟩
  ·have e1:decide (pd<0)=false:=Qfh;obtain⟨i,rfl⟩:=Qm (show 0<=pd by omega);have hi:i<ps.length:=Qf0;obtain⟨qp,rfl,hqp⟩:=hS.p.vec Qfh;have hy:=zG (f:=Pd.c) [] hi;obtain⟨y,hye⟩: ∃y,ps[i]=y:=⟨_,rfl⟩
   have hyb:=hS.pb _ (Qc hi);rw[hye] at hy hyb;obtain⟨yn,yt,yl,yo,yb,yk,ya⟩:=y;dsimp only at hyb;refine ygE (a9 Z1 @hqs2 @hn @e1 @hi @hy @zB @zA @zX) ?_;have h2q:(J.set q (.var 191 [yQ name,i64 i,zrX args,i64 ek,yQ en,yQ ev,i64 (-1),B,i64 at'])++[.var 73 [yQ yn,vF yt,yQ yl,i64 yo,bo yb,i64 yk,i64 ya]])[q]? =some (.var 191 [yQ name,i64 i,zrX args,i64 ek,yQ en,yQ ev,i64 (-1),B,i64 at']):=by rw[Qg Qgc];exact hqs _
   have h2y:=zA (J.set q (.var 191 [yQ name,i64 i,zrX args,i64 ek,yQ en,yQ ev,i64 (-1),B,i64 at'])) (.var 73 [yQ yn,vF yt,yQ yl,i64 yo,bo yb,i64 yk,i64 ya]);have Z:=(a2 @h2q @h2y)
   have h2k:But q J (J.set q (.var 191 [yQ name,i64 i,zrX args,i64 ek,yQ en,yQ ev,i64 (-1),B,i64 at'])++[.var 73 [yQ yn,vF yt,yQ yl,i64 yo,bo yb,i64 yk,i64 ya]]):=fun r b hr hb=>by
    rw[Qg (by simpa using (gsi hb).1),Qd (Ne.symm hr)];exact hb
   have hqy:q≠(J.set q (.var 191 [yQ name,i64 i,zrX args,i64 ek,yQ en,yQ ev,i64 (-1),B,i64 at'])).length:=by rw[Xb];omega
   generalize J.set q (.var 191 [yQ name,i64 i,zrX args,i64 ek,yQ en,yQ ev,i64 (-1),B,i64 at'])++[.var 73 [yQ yn,vF yt,yQ yl,i64 yo,bo yb,i64 yk,i64 ya]]=J2 at*;generalize (J.set q (.var 191 [yQ name,i64 i,zrX args,i64 ek,yQ en,yQ ev,i64 (-1),B,i64 at'])).length=qy at*;have hL2:=h2k.grow hq Qf1 hS.l;have hF2:=h2k.grow hq Qf1 hS.f;have h2lt:q<J2.length:=(gsi h2q).1;have h2s: ∀b,(J2.set q b)[q]? =some b:=fun b=>Qh h2lt;have h2t: ∀b,(J2.set q b)[qy]? =some (.var 73 [yQ yn,vF yt,yQ yl,i64 yo,bo yb,i64 yk,i64 ya]):=fun b=>by rw[Qd hqy];exact h2y
   have h2b: ∀b,But q J (J2.set q b):=fun b r c hr hc=>by rw[Qd (Ne.symm hr)];exact h2k r c hr hc
   clear hqs hqs2 hq;have fin: ∀(e:Int),e≠0-> ∃(e' pd ix:Int)(J':Heap),i64 e=i64 e'/\SH b0 b1 pc ml mf mp L F (.vec (qp+7) 7 (ps.map Pd.c)) R Rep J2=SH b0 b1 pc ml mf mp L F (.vec (qp+7) 7 (ps.map Pd.c)) R Rep J'/\But q J J'/\J'[q]? =some (.var 191 [yQ name,i64 pd,zrX args,i64 ek,yQ en,yQ ev,i64 ix,B,i64 at'])/\
     (e'=0->(pd= -1/\name=eS)\/ ∃i:Nat,pd=i/\ ∃h:i<ps.length,args.length=ps[i].types.length):=fun e he=>⟨e,i, -1,J2,rfl,rfl,h2k,h2q,fun h=>absurd h he⟩
   cases yb with
   |true=>
    refine gf Z ?_;exact fin 73 Qf2
   | false=>
    refine gf Z ?_;(refine yf1 Z ?_;refine zP Qf2 Qf2 ((zcB ⟨yn,yt,yl,yo,false,yk,ya⟩ args Qf0 (by dsimp only;omega)).call zK Qfb _) (yf0 ?_);rintro p2 h2 ⟨⟨e,rfl,he⟩,rfl⟩);by_cases he0:e=0
    ·subst he0;have he:=he rfl;dsimp only at he;have e2:((0:Int)!=0)=false:=rfl;have okk:(i:Int)= -1/\name=eS\/ ∃j:Nat,(i:Int)=j/\ ∃h:j<ps.length,args.length=ps[j].types.length:= .inr ⟨i,rfl,hi,by rw[hye];exact he⟩;have fin2: ∀(e ix:Int),e≠0\/((i:Int)= -1/\name=eS\/ ∃j:Nat,(i:Int)=j/\ ∃h:j<ps.length,args.length=ps[j].types.length)-> ∃(e' pd ix':Int)(J':Heap),i64 e=i64 e'/\SH b0 b1 pc ml mf mp L F (.vec (qp+7) 7 (ps.map Pd.c)) R Rep (J2.set q (.var 191 [yQ name,i64 i,zrX args,i64 ek,yQ en,yQ ev,i64 ix,B,i64 at']))=SH b0 b1 pc ml mf mp L F (.vec (qp+7) 7 (ps.map Pd.c)) R Rep J'/\But q J J'/\J'[q]? =some (.var 191 [yQ name,i64 pd,zrX args,i64 ek,yQ en,yQ ev,i64 ix',B,i64 at'])/\
       (e'=0->(pd= -1/\name=eS)\/ ∃i:Nat,pd=i/\ ∃h:i<ps.length,args.length=ps[i].types.length):=fun e ix h=>⟨e,i,ix,_,rfl,rfl,h2b _,h2s _,fun h0=>h.resolve_left (fun k=>k h0)⟩
     by_cases hk0:((ek==0)!=decide (yo<0))=true
     ·refine gf (a3 Z @e2 @hk0) ?_;exact fin 72 Qf2
     ·simp only[Bool.not_eq_true] at hk0;by_cases hk1:ek=1
      ·subst hk1;have hyo:0<=yo:=by simp at hk0;omega
       obtain⟨yo,rfl⟩:=Qm hyo;refine gf (a3 Z @e2 @hk0) ?_;(refine yf1 (a3 Z @e2 @hk0) ?_;refine zP Qf2 Qf2 (zb2 b0 b1 pc ml mf mp L F (.vec (qp+7) 7 (ps.map Pd.c)) R Rep J2 pQ hS.lo (by have:=hS.ll;omega) hL2 yo Qf0 en) (yf0 ?_);rintro p2 h2 ⟨⟨ix,rfl,hx1,hx2⟩,rfl⟩);by_cases hix:ix<0
       ·exact Qc8
       ·have e3:decide (ix<0)=false:=Qfh;refine gf (a3 Z @h2s @e3) ?_;exact fin2 0 ix (.inr okk)
      ·have e4:(ek==1)=false:=by simp[hk1]
       by_cases hk3:ek=3
       ·subst hk3;refine gf (a4 Z @e2 @hk0 @e4) ?_;(refine yf1 (a3 Z @e2 @hk0) ?_;refine zP Qf2 Qf2 (lE _ 4 mf fs.length en rfl hS.mf) (yf0 ?_);rintro p2 h2 ⟨ix,rfl,hx1,hx2,rfl⟩);by_cases hix:ix<0
        ·exact Qc8
        ·have e3:decide (ix<0)=false:=Qfh;obtain⟨ix,rfl⟩:=Qm (show 0<=ix by omega);have hfx:ix<fs.length:=Qf0;obtain⟨qf,rfl,hqf⟩:=hF2.vec Qfh;have hfy:=zG (f:=Fu.c2) [] hfx;have Z2:=(a7 Z @h2s @h2t @e3 @hfx @hfy @zB)
         by_cases hof:fs[ix].1.of'=yo
         ·have e5:(fs[ix].1.of' !=yo)=false:=by simp[hof]
          refine gf (a2 Z2 @e5) ?_;exact fin2 0 ix (.inr okk)
         ·have e5:(fs[ix].1.of' !=yo)=true:=by simp[hof]
          refine gf (a2 Z2 @e5) ?_;exact fin2 72 ix (.inl Qf2)
       ·have e5:(ek==3)=false:=by simp[hk3]
        refine gf (a5 Z @e2 @hk0 @e4 @e5) ?_;exact⟨0,i, -1,J2,rfl,rfl,h2k,h2q,fun _=>okk⟩
    ·exact Qdq
@[go_sem] def UTyp10f228.pl:Nat->DPlan
 |3=>⟨[yA,yA,yA,⟨1,0,[0,1,0]⟩,yA,⟨1,0,[0,1,0]⟩,yA,yA,yA,⟨1,0,[0,1,0]⟩,yA,⟨1,0,[0,1,0]⟩,vC,⟨2,1,[]⟩,⟨5,0,[]⟩,yC],xE,2⟩
 |7=>⟨[yA,yA,yA,yA,yB,yA,yA,yA,yB,yC,yA,yA,yC],yN,0⟩
 |10=>⟨[yA,yA,yA,yA,yE,yA,yA,yA,yE,yA,yE,vC,yC],yN,1⟩
 |11=>⟨[yB,yA,yA,yA,yB,yC,yA],tV,0⟩
 |17=>⟨[yA,yA,yA,yB,yA,yA,yA,yB,yC,yA,yA,yC],xF,0⟩
 |20=>⟨[yA,yA,yA,⟨7,0,[1001]⟩,yA,yA,yA,yA,yB,yA,yB,yA,yB,⟨6,0,[1001]⟩,yA],yG,0⟩
 |_=>⟨[],[],0⟩
attribute [-go_sem] only
theorem iJ{α:Type}{pre:List α}{n:Nat}(hn:pre.length=n)(ys:List α)(k:Nat):(pre++ys).drop (n+k)=ys.drop k:=by subst hn;rw[List.drop_append];simp
theorem iA{α:Type}{pre:List α}{n:Nat}(hn:pre.length=n)(ys:List α)(k:Nat):(pre++ys).take (n+k)=pre++ys.take k:=by subst hn;rw[List.take_append,Yo Qf0];simp
theorem lT{α:Type}{pre:List α}{n:Nat}(hn:pre.length=n)(ys:List α):(pre++ys).drop n=ys:=by subst hn;simp
theorem tI{α:Type}(X l:List α)(b:α):(X++l).set X.length b=X++l.set 0 b:=by rw[Zr _ _ (Xe _)];simp
theorem tH{α:Type}(X l:List α)(k:Nat)(b:α):(X++l).set (X.length+k) b=X++l.set k b:=by rw[Zr _ _ Qf0];simp
theorem xY{α:Type}(X l:List α):(X++l)[X.length]? =l[0]? :=by rw[Zj (Xe _)];simp
theorem xN{α:Type}(X l:List α)(k:Nat):(X++l)[X.length+k]? =l[k]? :=by rw[Zj Qf0];simp
def LitK(ps:List Pd)(x:Li)(pd:Int):Prop:=(x.kind=5/\pd= -1)\/(x.kind≠5/\ ∃i:Nat,pd=i/\ ∃h:i<ps.length,x.args.length=ps[i].types.length)
open UTyp10f228 in
theorem aM(b0 b1:Blk)(pc:List PV)(ml mf mp:NM)(L F P R Rep:PV)(J:Heap)(pQ:List La)(fs:List (Fu×PV))(ps:List Pd)(hS:Sc pQ fs ps ml mf mp L F P J)(q n:Nat)(T:TypeId)(pre suf:List PV)(hn:pre.length=n)(x:Li)(hx:x.fm)
  (hq:J[q]? =some (.var T (pre++(x.c++suf)))):
  ECall prog G0 228 [.ptr 6 0,.ptr (q+7) n] (SH b0 b1 pc ml mf mp L F P R Rep J) fun p h'=> ∃(e pd ls:Int)(J':Heap),p=i64 e/\h'=SH b0 b1 pc ml mf mp L F P R Rep J'/\But q J J'/\J'[q]? =some (.var T (pre++(Li.c {x with pred:=pd,least:=ls}++suf)))/\(e=0->LitK ps x pd):=by
 refine pv func228 139 false Qf3 rfl rfl ?_;refine g2 ?_;have hqlt:q<J.length:=(gsi hq).1;obtain⟨hxa,hxc,hxb⟩:=hx;obtain⟨kind,name,pred,args,bind,elem,least,op,at'⟩:=x;dsimp only at*;simp only[Xx,Yj] at hq;have hqs: ∀b,(J.set q b)[q]? =some b:=fun b=>Qh hqlt;have d1:=fun ys k=>iJ hn ys k;have d2:=fun ys k=>iA hn ys k;have d3:=fun ys=>lT hn ys;have d4: ∀ys j k,(pre++ys).drop (n+j+k)=ys.drop (j+k):=fun ys j k=>by rw[Ji];exact d1 ys _
 have Z1:=(a9 @hq @hqs @hn @d1 @d2 @d3 @d4 @tI (a3 @tH @xY @xN))
 have kb: ∀b,But q J (J.set q b):=fun b r c hr hc=>by rw[Qd (Ne.symm hr)];exact hc
 by_cases hk:kind=5
 ·subst hk;have hl2:=hxc rfl;obtain⟨a,b,rfl⟩: ∃a b,args=[a,b]:=by
   match args,hl2 with
   | [a,b],_=>exact⟨a,b,rfl⟩
  have hqs2: ∀b c,((J.set q b)++[c])[q]? =some b:=fun b c=>by rw[Qg Qgc];exact hqs b
  have hqs3: ∀b c d,((J.set q b)++[c,d])[q]? =some b:=fun b c d=>by rw[Qg Qgc];exact hqs b
  have Z3:=(a3 Z1 @hqs2 @hqs3)
  obtain⟨va,⟨ta,na,sa⟩⟩:=a;obtain⟨vb,⟨tb,nb,sb⟩⟩:=b;have kb2: ∀b l,But q J (J.set q b++l):=fun b l r c hr hc=>by rw[Qg (by simpa using (gsi hc).1)];exact kb b r c hr hc
  by_cases ha:va=eS
  ·subst ha;by_cases hb:vb=eS
   ·subst hb;by_cases ht:ta=tb
    ·have e1:(ta !=tb)=false:=by simp[ht]
     refine ygE (a2 Z3 @e1) ?_;exact Qc4
    ·have e1:(ta !=tb)=true:=by simp[ht]
     refine ygE (a2 Z3 @e1) ?_;exact⟨72, -1, -1,_,rfl,rfl,kb2 _ _,hqs3 _ _ _,fun _=> .inl ⟨rfl,rfl⟩⟩
   ·refine ygE (a2 Z3 @hb) ?_;exact Qc4
  ·refine ygE (a2 Z3 @ha) ?_;exact Qc4
 ·have e0:(kind==5)=false:=Qf6;refine ygE (a2 Z1 @e0) ?_;(refine zF rfl rfl rfl ?_;intro zs zh;simp only[go_sem,Z1,Wi,e0] at zh;subst zh;refine zP Qf2 Qf2 (lE _ 5 mp ps.length name rfl hS.mp) (yf0 ?_);rintro p2 h2 ⟨pd,rfl,hp1,hp2,rfl⟩);by_cases hp0:pd<0
  ·have e1:decide (pd<0)=true:=by simp[hp0]
   refine ygE (a2 Z1 @e1) ?_;exact⟨70,pd, -1,_,rfl,rfl,kb _,hqs _,fun h=>by omega⟩
  ·have e1:decide (pd<0)=false:=Qfh;obtain⟨i,rfl⟩:=Qm (show 0<=pd by omega);have hi:i<ps.length:=Qf0;obtain⟨qp,rfl,hqp⟩:=hS.p.vec Qfh;have hy:=zG (f:=Pd.c) [] hi;obtain⟨y,hye⟩: ∃y,ps[i]=y:=⟨_,rfl⟩
   have hyb:=hS.pb _ (Qc hi);rw[hye] at hy hyb;obtain⟨yn,yt,yl,yo,yb,yk,ya⟩:=y;dsimp only at hyb;have hqs2: ∀b,((J.set q b)++[.non])[q]? =some b:=fun b=>by rw[Qg Qgc];exact hqs b
   refine ygE (a6 Z1 @hqs2 @e1 @hi @hy @zB) ?_;have h2q:(J.set q (.var T (pre++(i64 kind::yQ name::i64 i::zrX args::yQ bind::yQ elem::i64 (-1)::i64 op::i64 at'::suf)))++[(.var 73 [yQ yn,vF yt,yQ yl,i64 yo,bo yb,i64 yk,i64 ya])])[q]? =some (.var T (pre++(i64 kind::yQ name::i64 i::zrX args::yQ bind::yQ elem::i64 (-1)::i64 op::i64 at'::suf))):=by rw[Qg Qgc];exact hqs _
   have h2y:=zA (J.set q (.var T (pre++(i64 kind::yQ name::i64 i::zrX args::yQ bind::yQ elem::i64 (-1)::i64 op::i64 at'::suf)))) (.var 73 [yQ yn,vF yt,yQ yl,i64 yo,bo yb,i64 yk,i64 ya]);have h2k:But q J (J.set q (.var T (pre++(i64 kind::yQ name::i64 i::zrX args::yQ bind::yQ elem::i64 (-1)::i64 op::i64 at'::suf)))++[(.var 73 [yQ yn,vF yt,yQ yl,i64 yo,bo yb,i64 yk,i64 ya])]):=fun r b hr hb=>by
    rw[Qg (by simpa using (gsi hb).1),Qd (Ne.symm hr)];exact hb
   have hqy:q≠(J.set q (.var T (pre++(i64 kind::yQ name::i64 i::zrX args::yQ bind::yQ elem::i64 (-1)::i64 op::i64 at'::suf)))).length:=by rw[Xb];omega
   generalize J.set q (.var T (pre++(i64 kind::yQ name::i64 i::zrX args::yQ bind::yQ elem::i64 (-1)::i64 op::i64 at'::suf)))++[(.var 73 [yQ yn,vF yt,yQ yl,i64 yo,bo yb,i64 yk,i64 ya])]=J2 at*;generalize (J.set q (.var T (pre++(i64 kind::yQ name::i64 i::zrX args::yQ bind::yQ elem::i64 (-1)::i64 op::i64 at'::suf)))).length=qy at*;have hL2:=h2k.grow hq Qf1 hS.l;have h2lt:q<J2.length:=(gsi h2q).1;have h2s: ∀b,(J2.set q b)[q]? =some b:=fun b=>Qh h2lt;have h2t: ∀b,(J2.set q b)[qy]? =some (.var 73 [yQ yn,vF yt,yQ yl,i64 yo,bo yb,i64 yk,i64 ya]):=fun b=>by rw[Qd hqy];exact h2y
   have Z:=(a9 @h2q @h2y @h2s @h2t @d1 @d2 @d3 @d4 @hn)
   have h2b: ∀b,But q J (J2.set q b):=fun b r c hr hc=>by rw[Qd (Ne.symm hr)];exact h2k r c hr hc
   clear hqs hqs2 kb;have fin: ∀(e:Int),e≠0-> ∃(e' pd l2:Int)(J':Heap),i64 e=i64 e'/\SH b0 b1 pc ml mf mp L F (.vec (qp+7) 7 (ps.map Pd.c)) R Rep J2=SH b0 b1 pc ml mf mp L F (.vec (qp+7) 7 (ps.map Pd.c)) R Rep J'/\But q J J'/\J'[q]? =some (.var T (pre++(i64 kind::yQ name::i64 pd::zrX args::yQ bind::yQ elem::i64 l2::i64 op::i64 at'::suf)))/\(e'=0->LitK ps ⟨kind,name,pred,args,bind,elem,least,op,at'⟩ pd):=fun e he=>⟨e,i, -1,J2,rfl,rfl,h2k,h2q,fun h=>absurd h he⟩
   refine gf Z ?_;(refine yf1 Z ?_;refine zP Qf2 Qf2 ((zcB ⟨yn,yt,yl,yo,yb,yk,ya⟩ args Qf0 (by dsimp only;omega)).call zK Qfb _) (yf0 ?_);rintro p2 h2 ⟨⟨e,rfl,he⟩,rfl⟩);by_cases he0:e=0
   ·subst he0;have he:=he rfl;dsimp only at he;have e2:((0:Int)!=0)=false:=rfl;have okk:LitK ps ⟨kind,name,pred,args,bind,elem,least,op,at'⟩ i:= .inr ⟨hk,i,rfl,hi,by rw[hye];exact he⟩;have fin2: ∀(e ls:Int),e≠0\/LitK ps ⟨kind,name,pred,args,bind,elem,least,op,at'⟩ i-> ∃(e' pd l2:Int)(J':Heap),i64 e=i64 e'/\SH b0 b1 pc ml mf mp L F (.vec (qp+7) 7 (ps.map Pd.c)) R Rep (J2.set q (.var T (pre++(i64 kind::yQ name::i64 i::zrX args::yQ bind::yQ elem::i64 ls::i64 op::i64 at'::suf))))=SH b0 b1 pc ml mf mp L F (.vec (qp+7) 7 (ps.map Pd.c)) R Rep J'/\But q J J'/\J'[q]? =some (.var T (pre++(i64 kind::yQ name::i64 pd::zrX args::yQ bind::yQ elem::i64 l2::i64 op::i64 at'::suf)))/\(e'=0->LitK ps ⟨kind,name,pred,args,bind,elem,least,op,at'⟩ pd):=fun e ls h=>⟨e,i,ls,_,rfl,rfl,h2b _,h2s _,fun h0=>h.resolve_left (fun k=>k h0)⟩
    by_cases hyo:yo<0
    ·have e3:decide (yo<0)=true:=by simp[hyo]
     by_cases hbe:bind=eS
     ·by_cases hee:elem=eS
      ·subst hbe;exact Qcy
      ·subst hbe;refine gf (a4 Z @e2 @e3 @hee) ?_;exact fin 72 Qf2
     ·refine gf (a4 Z @e2 @e3 @hbe) ?_;exact fin 72 Qf2
    ·have e3:decide (yo<0)=false:=Qfh;obtain⟨yo,rfl⟩:=Qm (show 0<=yo by omega);by_cases hee:elem=eS
     ·exact Qcy
     ·refine gf (a4 Z @e2 @e3 @hee) ?_;(refine yf1 Z ?_;refine zP Qf2 Qf2 (zb2 b0 b1 pc ml mf mp L F (.vec (qp+7) 7 (ps.map Pd.c)) R Rep J2 pQ hS.lo (by have:=hS.ll;omega) hL2 yo Qf0 elem) (yf0 ?_);rintro p2 h2 ⟨⟨ix,rfl,hx1,hx2⟩,rfl⟩);by_cases hix:ix<0
      ·have e4:decide (ix<0)=true:=by simp[hix]
       refine gf (a2 Z @e4) ?_;exact fin2 70 ix (.inl Qf2)
      ·have e4:decide (ix<0)=false:=Qfh;have hyl:yo<pQ.length:=Qf0;obtain⟨ql,rfl,hql⟩:=hL2.vec Qfh;have hly:=zG (f:=La.c) [] hyl;have hq7:(q+7<J2.length+1+1+1+1+1+1+1)=True:=Qfh;have Z2:=(a6 Z @hq7 @e4 @hyl @hly @zB)
       refine zjA Z2 ?_;(refine zF rfl rfl rfl ?_;intro sr hsr;simp only[go_sem,Z2,Xb] at hsr;subst hsr;refine xR rfl rfl ((qJ pQ[yo] (hS.lo _ (Qc hyl))).call zK Qfb _) Qh9 (yf0 ?_);rintro p2 h2 ⟨⟨bt,rfl,hbt⟩,rfl⟩);by_cases hbb:ix=bt
       ·have e5:(ix==bt)=true:=by simp[hbb]
        refine zjA (a2 Z2 @e5) ?_;exact fin2 72 ix (.inl Qf2)
       ·have e5:(ix==bt)=false:=by simp[hbb]
        refine zjA (a2 Z2 @e5) ?_;exact fin2 0 ix (.inr okk)
   ·exact Qdq
attribute [go_sem] only
@[go_sem] def UTyp11f300.pl:Nat->DPlan
 |4=>⟨[yA,yA,yA,yB,yA,yA,yA,yA,yA,yC,yA,yC,yA,yA,yA,yC],xE,0⟩
 |_=>⟨[],[],0⟩
attribute [-go_sem] only splice
def CC(qm:Nat)(cls:List Nat)(tys:List Int):List PV:= .mp qm::(cls.map (fun n:Nat=>i64 n)++tys.map fun n=>i64 n)
section
variable{qm:Nat}{cls:List Nat}{tys:List Int}
theorem rG(h1:cls.length=36)(h2:tys.length=36):(CC qm cls tys).length=73:=by simp[CC,h1,h2]
theorem kE:(CC qm cls tys).getD 0 .un= .mp qm:=rfl
theorem cc_1(h1:cls.length=36){i:Nat}(hi:i<36):((CC qm cls tys).drop (1+i)).getD 0 .un=i64 (cls.getD i 0:Nat):=by
 rw[Qb,Yg,Wn,Nat.add_comm];simp only[CC,Wf];rw[Qg (by simp[h1,hi]),Qu,Qb,Qa Qf0];rfl
theorem zk1(h1:cls.length=36)(h2:tys.length=36){i:Nat}(hi:i<36):((CC qm cls tys).drop (37+i)).getD 0 .un=i64 (tys.getD i 0):=by
 rw[Qb,Yg,Wn,show 37+i=(36+i)+1 by omega];simp only[CC,Wf];rw[Zj Qfa,Qr,h1,Jh,Qu,Qb,Qa Qf0];rfl
theorem zbE{cs:List PV}{o:Nat}{v:PV}(h:o<cs.length):splice cs o [v]=cs.set o v:=by
 unfold splice;rw[Ub,Qj h];simp
theorem cs_1(h1:cls.length=36)(h2:tys.length=36){i v:Nat}(hi:i<36):splice (CC qm cls tys) (1+i) [i64 v]=CC qm (cls.set i v) tys:=by
 rw[zbE (by rw[rG h1 h2];omega),Nat.add_comm];simp only[CC,Xl];rw[Ko _ _ (by simp[h1,hi]),Ky]
theorem cs_2(h1:cls.length=36)(h2:tys.length=36){i:Nat}{v:Int}(hi:i<36):splice (CC qm cls tys) (37+i) [i64 v]=CC qm cls (tys.set i v):=by
 rw[zbE (by rw[rG h1 h2];omega),show 37+i=(36+i)+1 by omega];simp only[CC,Xl];rw[Zr _ _ Qfa,Qr,h1,Jh,Ky]
end
def Has(es:NM)(s:BA):Prop:=(vV (.string s) es 0).isSome=true
structure CI(es:NM)(cls:List Nat)(tys:List Int):Prop where
 n:NMap es es.length
 le:es.length<=36
 l1:cls.length=36
 l2:tys.length=36
 f: ∃rt d:Nat->Nat, ∀x,x<es.length->cls.getD x 0<es.length/\rt x<es.length/\cls.getD (rt x) 0=rt x/\d (rt x)=0/\(cls.getD x 0=x->rt x=x)/\(cls.getD x 0≠x->rt x=rt (cls.getD x 0)/\d (cls.getD x 0)<d x)
structure Upd(qm qc:Nat)(es:NM)(cls:List Nat)(tys:List Int)(h h':Heap):Prop where
 m:h'[qm]? =some (.map es)
 c:h'[qc]? =some (.var 378 (CC qm cls tys))
 k: ∀(r:Nat)(b:Blk),r≠qm->r≠qc->h[r]? =some b->h'[r]? =some b
theorem Upd.trans{qm qc:Nat}{es es':NM}{cls cls':List Nat}{tys tys':List Int}{h h' h'':Heap}(a:Upd qm qc es cls tys h h')(b:Upd qm qc es' cls' tys' h' h''):Upd qm qc es' cls' tys' h h'':=⟨b.m,b.c,fun r c h1 h2 h3=>b.k r c h1 h2 (a.k r c h1 h2 h3)⟩
theorem Upd.app{qm qc:Nat}{es:NM}{cls:List Nat}{tys:List Int}{h h':Heap}(a:Upd qm qc es cls tys h h')(l:Heap):Upd qm qc es cls tys h (h'++l):=
 ⟨by rw[Qg (gsi a.m).1];exact a.m,by rw[Qg (gsi a.c).1];exact a.c,fun r c h1 h2 h3=>by
  have:=a.k r c h1 h2 h3;rw[Qg (gsi this).1];exact this⟩
theorem Upd.refl{qm qc:Nat}{es:NM}{cls:List Nat}{tys:List Int}{h:Heap}(m:h[qm]? =some (.map es))(c:h[qc]? =some (.var 378 (CC qm cls tys))):Upd qm qc es cls tys h h:=⟨m,c,fun _ _ _ _ h=>h⟩
theorem lZ{k:Value}{x:Value×PV}: ∀{es:NM}{j:Nat},(vV k es j).isSome=true->(vV k (es++[x]) j).isSome=true
 | [],_,h=>by cases h
 | y::es,j,h=>by
  simp only[Xx,vV] at h ⊢
  by_cases hv:sY k y.1=true
  ·rw[Qj hv];rfl
  ·rw[Qi hv] at h ⊢
   exact lZ h
theorem gW{s:BA}{p:PV}: ∀{es:NM}{j:Nat},(vV (.string s) (es++[(.string s,p)]) j).isSome=true
 | [],j=>by simp[vV,sY]
 |y::es,j=>by
  simp only[Xx,vV];split
  ·rfl
  ·exact gW
theorem CI.push{es:NM}{cls:List Nat}{tys:List Int}(h:CI es cls tys)(hl:es.length<36)(s:BA):CI (es++[(.string s,i64 (es.length:Nat))]) (cls.set es.length es.length) tys:=by
 obtain⟨h1,h2,h3,h4,rt,d,h5⟩:=h;refine⟨?_,by simp;omega,by simp[h3],h4,fun x=>if x=es.length then x else rt x,fun x=>if x=es.length then 0 else d x,fun x hx=> ?_⟩
 ·intro x hx;rw[Ql,Wp];rcases Qo.1 hx with hx|hx
  ·obtain⟨a,i,e,hi⟩:=h1 x hx;exact⟨a,i,e,Qf0⟩
  ·simp at hx;subst hx;exact⟨⟨s,rfl⟩,_,rfl,Qf0⟩
 ·rw[Ql,Wp] at hx ⊢
  have gs: ∀y,(cls.set es.length es.length).getD y 0=if y=es.length then es.length else cls.getD y 0:=fun y=>by
   rw[Qb,Qq,Qb];by_cases e:es.length=y
   ·subst e;simp[h3,hl]
   ·simp[e,Ne.symm e]
  simp only[gs];by_cases e:x=es.length
  ·subst e;simp
  ·obtain⟨aa1,aa2,aa3,aa4,aa5,aa6⟩:=h5 x Qf0;have e2:rt x≠es.length:=Qf0;have e3:cls.getD x 0≠es.length:=Qf0;simp only[e,e2,e3,Wr];exact⟨Qf0,Qf0,aa3,aa4,aa5,aa6⟩
open UTyp11f300 in
theorem dM(h:Heap)(qm qc:Nat)(es:NM)(cls:List Nat)(tys:List Int)(hm:h[qm]? =some (.map es))(hc:h[qc]? =some (.var 378 (CC qm cls tys)))(hI:CI es cls tys)(s:BA)(hn:Has es s\/es.length<36):
  ECall prog G0 300 [.ptr qc 0,yQ s] h fun p h'=> ∃(i:Nat)(es':NM)(cls':List Nat),p=i64 i/\i<es'.length/\cls'.getD i 0=i/\Upd qm qc es' cls' tys h h'/\h'.length=h.length/\CI es' cls' tys/\es'.length<=es.length+1/\(Has es s->es'=es/\cls'=cls)/\(∀s',Has es s'->Has es' s')/\Has es' s:=by
 refine pv func300 52 false Qf3 rfl rfl ?_;refine g2 ?_;have ha:=hI.n.all;have hqm:qm<h.length:=(gsi hm).1;have hqc:qc<h.length:=(gsi hc).1;have hne:qm≠qc:=fun e=>by subst e;rw[hm] at hc;cases hc
 have mM:=rG (qm:=qm) hI.l1 hI.l2;have F:=(a2 @hc @mM)
 cases hg:vV (.string s) es 0 with
 | some x=>
  obtain⟨j,p⟩:=x;have hlk:=lC hm ha hg;obtain⟨y,hy,rfl⟩:=mQ hg;obtain⟨_,i,e,hi⟩:=hI.n y hy;rw[e] at hlk;have hHas:Has es s:=by unfold Has;rw[hg];rfl
  obtain⟨rt,d,hf⟩:=hI.f;refine gf (a3 F @hlk @kE) ?_;refine zW (K4 (.k:: .v::K9 (K9 (K9 (K4 (D9 (D4 (.d:: .k::[])))))))) (fun (x:Nat)=>[i64 x]) (fun _=>h) (fun x=>x<es.length) (fun x=>d x) (own:=false) i rfl rfl hi ?_;intro x hx;refine gm ?_;obtain⟨aa1,aa2,aa3,aa4,aa5,aa6⟩:=hf x hx;have hx36:x<36:=by have:=hI.le;omega
  have c1:=cc_1 (qm:=qm) (tys:=tys) hI.l1 hx36;by_cases hr:cls.getD x 0=x
  ·have e1:(((cls.getD x 0:Nat):Int)!=(x:Int))=false:=by rw[hr];exact Jw _
   refine gf (a5 F @c1 @hx36 @zB @e1) ?_;exact⟨x,es,cls,rfl,hx,hr,Upd.refl hm hc,rfl,hI,Qf0,fun _=>⟨rfl,rfl⟩,fun _ h=>h,hHas⟩
  ·have e1:(((cls.getD x 0:Nat):Int)!=(x:Int))=true:=by rw[bne_iff_ne];omega
   refine gf (a5 F @c1 @hx36 @zB @e1) ?_;exact⟨_,aa1,(aa6 hr).2,rfl,rfl,rfl⟩
 | none=>
  have hlk:=lD hm ha hg;have hl:es.length<36:=hn.resolve_left (fun k=>by unfold Has at k;rw[hg] at k;cases k);refine gf (a3 F @hlk @kE) ?_;(refine wU ?_;intro sr hsr;simp only[go_sem,F,hlk,kE] at hsr;subst hsr;refine iR rfl (fun rd=>OpOk.lenMap rfl rfl rfl rfl rfl hm eG Qf0 ⟨rfl,rfl⟩) ?_;intro ts2 hts;simp only[go_sem] at hts;subst hts);have hms: ∀b,(h.set qm b)[qm]? =some b:=fun b=>Qh hqm;have hmc: ∀b,(h.set qm b)[qc]? =some (.var 378 (CC qm cls tys)):=fun b=>by rw[Qd hne];exact hc
  have hle:decide (es.length<=140737488355328)=true:=Qfh;have hgl: ∀p:Value×PV,(es++[p])[es.length]? =some p:=fun p=>by simp
  have hsl: ∀p q:Value×PV,(es++[p]).set es.length q=es++[q]:=fun p q=>by simp
  have c2:=cs_1 (qm:=qm) (v:=es.length) hI.l1 hI.l2 hl;refine zjA (a9 @hc @hm @hlk @kE @mM @eG @zh0 @zm1 (a9 @ha @hg @hle @hms @hmc @hgl @hsl @c2 (a2 @zB @hl))) ?_;have hI2:=hI.push hl s;have hgn:(cls.set es.length es.length).getD es.length 0=es.length:=by simp[hI.l1,hl]
  have c3:=cc_1 (qm:=qm) (tys:=tys) hI2.l1 hl;rw[hgn] at c3;have e1:((es.length:Int)!=(es.length:Int))=false:=Jw _;have hcl2:=rG (qm:=qm) hI2.l1 hI2.l2;have hqs: ∀b c,((h.set qm b).set qc c)[qc]? =some c:=fun b c=>Qh (by simpa using hqc);have hU:Upd qm qc (es++[(.string s,i64 (es.length:Nat))]) (cls.set es.length es.length) tys h ((h.set qm (.map (es++[(.string s,i64 (es.length:Nat))]))).set qc (.var 378 (CC qm (cls.set es.length es.length) tys))):=
   ⟨by rw[Qd (Ne.symm hne)];exact hms _,hqs _ _,fun r b h1 h2 h3=>by rw[Qd (Ne.symm h2),Qd (Ne.symm h1)];exact h3⟩
  refine zW (K4 (.k:: .v::K9 (K9 (K9 (K4 (D9 (D4 (.d:: .k::[])))))))) (fun (_:Unit)=>[i64 (es.length:Nat)]) (fun _=>_) (fun x=>True) (fun x=>0) (own:=false) () rfl rfl trivial ?_;intro _ _;refine gm ?_;refine gf (a6 @hqs @c3 @hcl2 @hl @zB @e1) ?_;refine⟨es.length,_,_,rfl,Qf1,hgn,hU,Qf1,hI2,Qf1,fun hh=> ?_,fun s' hs'=>lZ hs',gW⟩;unfold Has at hh;rw[hg] at hh;cases hh
attribute [go_sem] only splice
end Go.AL
namespace Go.AL
open Go.Proofs Go.Proofs.Tryz
@[go_sem] def UTyp12f301.pl:Nat->DPlan
 |4=>⟨[yA,yB,yA,yA,yA,yA,yB,yA,yA,yA,yB,yA,yA,yB,yC,yA],xE,0⟩
 |_=>⟨[],[],0⟩
@[go_sem] def UTyp12f302.pl:Nat->DPlan
 |5=>⟨[yA,yA,yB,⟨6,0,[1005]⟩,yA,yA,⟨7,0,[1005]⟩,yC,yA,yA],xS,0⟩
 |6=>⟨[yA,yA,yA,yA,yA,yB,yA,yA,yA,yA,yA,yA,yA,yB,yA,yA,yA,yA,yA,yA,yA,yA,yB,yA,yA,yA,yA,yA,yB,yA,yA],yd1,0⟩
 |8=>⟨[yA,yA,yA,yA,yA,yA,yA,yB,yA,yA,yA,yA,yA,yB,yA,yA,yA,yA,yC],sI,0⟩
 |_=>⟨[],[],0⟩
attribute [-go_sem] only splice
theorem CI.tys{es:NM}{cls:List Nat}{tys tys':List Int}(h:CI es cls tys)(hl:tys'.length=36):CI es cls tys':=⟨h.n,h.le,h.l1,hl,h.f⟩
theorem CI.link{es:NM}{cls:List Nat}{tys:List Int}(h:CI es cls tys){i j:Nat}(hi:i<es.length)(hj:j<es.length)(ri:cls.getD i 0=i)(rj:cls.getD j 0=j):CI es (cls.set i j) tys:=by
 obtain⟨h1,h2,h3,h4,rt,d,h5⟩:=h;have hl:i<cls.length:=Qf0;have gs: ∀y,(cls.set i j).getD y 0=if y=i then j else cls.getD y 0:=fun y=>by
  rw[Qb,Qq,Qb];by_cases e:i=y
  ·subst e;simp[hl]
  ·simp[e,Ne.symm e]
 by_cases hij:i=j
 ·subst hij;refine⟨h1,h2,by simp[h3],h4,rt,d,fun x hx=> ?_⟩;have gs2: ∀y,(cls.set i i).getD y 0=cls.getD y 0:=fun y=>by
   rw[gs];split
   ·rename_i e;subst e;exact ri.symm
   ·rfl
  simp only[gs2];exact h5 x hx
 ·refine⟨h1,h2,by simp[h3],h4,fun x=>if rt x=i then j else rt x,fun x=>if rt x=i then d x+1 else d x,fun x hx=> ?_⟩;obtain⟨aa1,aa2,aa3,aa4,aa5,aa6⟩:=h5 x hx;obtain⟨i1,i2,i3,i4,i5,i6⟩:=h5 i hi;obtain⟨j1,j2,j3,j4,j5,j6⟩:=h5 j hj;obtain⟨r1,r2,r3,r4,r5,r6⟩:=h5 (rt x) aa2;have eri:=i5 ri;have erj:=j5 rj;have err:=r5 aa3;have hji:j≠i:=Ne.symm hij;simp only[gs];by_cases hx0:x=i
  ·subst hx0;simp only[eri,erj,Wk,hji,Wr];refine⟨hj,hj,rj,by rw[erj] at j4;exact j4,(by intro e;first|exact absurd e hji|cases e),fun _=>⟨trivial,?_⟩⟩;rw[erj] at j4;omega
  ·simp only[hx0,Wr];by_cases hr:rt x=i
   ·simp only[hr,Wk,erj,hji,Wr];refine⟨aa1,hj,rj,by rw[erj] at j4;exact j4,fun e=>absurd ((aa5 e).symm.trans hr) hx0,fun e=> ?_⟩;obtain⟨b1,b2⟩:=aa6 e;rw[<-b1,hr];simp only[Wk];exact⟨trivial,Qf0⟩
   ·simp only[hr,Wr,err];refine⟨aa1,aa2,aa3,aa4,aa5,fun e=> ?_⟩;obtain⟨b1,b2⟩:=aa6 e;rw[<-b1];simp only[hr,Wr];exact⟨trivial,b2⟩
theorem eZ(h:Heap)(qm qc:Nat)(es:NM)(cls:List Nat)(tys:List Int)(hm:h[qm]? =some (.map es))(hc:h[qc]? =some (.var 378 (CC qm cls tys)))(hI:CI es cls tys)(t:Tm)(k:Int)(hn:t.var≠eS->Has es t.var):
  ECall prog G0 351 [.ptr qc 0,.agg t.c,i64 k] h fun p h'=> ∃(b:Bool)(cls':List Nat)(tys':List Int),p=bo b/\Upd qm qc es cls' tys' h h'/\CI es cls' tys':=by
 refine pv func351 41 false Qf3 rfl rfl ?_;refine g2 ?_;obtain⟨v,⟨ty,n,sx⟩⟩:=t;dsimp only at*;by_cases hv:v=eS
 ·subst hv;refine gf @zA ?_;exact⟨_,cls,tys,rfl,(Upd.refl hm hc).app _,hI⟩
 ·have hU:=(Upd.refl hm hc).app [.var 315 [yQ v,i64 ty,i64 n,yQ sx]];refine gf (a2 @zA @hv) ?_;(refine g1f @zA ?_;refine zC (dM _ qm qc es cls tys hU.m hU.c hI v (.inl (hn hv))) (yf0 ?_);rintro p2 h2 ⟨i,es',cls',rfl,hi,hri,hU2,hlen,hI2,hle,hsame,_,_⟩);obtain⟨rfl,rfl⟩:=hsame (hn hv);have hU3:=hU.trans hU2;have hqc:qc<h2.length:=(gsi hU2.c).1;have hi36:i<36:=by have:=hI2.le;omega
  have c1:=zk1 (qm:=qm) hI2.l1 hI2.l2 hi36;have mM:=rG (qm:=qm) hI2.l1 hI2.l2;have h37:(37+i<73)=True:=Qfh;have hUc:=hU2.c;by_cases h0:tys.getD i 0=0
  ·rw[h0] at c1;have hqs: ∀c,(h2.set qc c)[qc]? =some c:=fun c=>Qh hqc;have c2:=cs_2 (qm:=qm) (v:=k) hI2.l1 hI2.l2 hi36;have hI3:=hI2.tys (tys':=tys.set i k) (by simp[hI2.l2]);have c3:=zk1 (qm:=qm) hI3.l1 hI3.l2 hi36;have c4:(tys.set i k).getD i 0=k:=by simp[hI2.l2,hi36]
   rw[c4] at c3;have hcl3:=rG (qm:=qm) hI3.l1 hI3.l2;have e0:((0:Int)==0)=true:=rfl;refine gf (a9 @hUc @c1 @mM @h37 @hi36 @zB @hqs @c2 (a3 @c3 @hcl3 @e0)) ?_;have hne:qm≠qc:=fun e=>by have:=hU2.m;rw[e,hU2.c] at this;cases this
   exact⟨_,_,_,rfl,⟨by rw[Qd (Ne.symm hne)];exact hU3.m,hqs _,fun r b h1 h2 h3=>by rw[Qd (Ne.symm h2)];exact hU3.k r b h1 h2 h3⟩,hI3⟩
  ·have e0:(tys.getD i 0==0)=false:=Qg5;refine gf (a7 @hUc @c1 @mM @h37 @hi36 @zB @e0) ?_;exact⟨_,_,_,rfl,hU3,hI2⟩
theorem Upd.get{qm qc:Nat}{es es':NM}{cls cls':List Nat}{tys tys':List Int}{h h':Heap}(u:Upd qm qc es' cls' tys' h h')(hm:h[qm]? =some (.map es))(hc:h[qc]? =some (.var 378 (CC qm cls tys))){r:Nat}{b:Blk}(hr:h[r]? =some b)(h1: ∀es,b≠ .map es)(h2: ∀cs,b≠ .var 378 cs):h'[r]? =some b:=
 u.k r b (fun e=>by subst e;rw[hm] at hr;cases hr;exact h1 _ rfl) (fun e=>by subst e;rw[hc] at hr;cases hr;exact h2 _ rfl) hr
open UTyp12f302 in
theorem zbF(h:Heap)(qm qc:Nat)(es:NM)(cls:List Nat)(tys:List Int)(hm:h[qm]? =some (.map es))(hc:h[qc]? =some (.var 378 (CC qm cls tys)))(hI:CI es cls tys)(a b:Tm)(ha:a.var≠eS->Has es a.var)(hb:b.var≠eS->Has es b.var):
  ECall prog G0 302 [.ptr qc 0,.agg a.c,.agg b.c] h fun p h'=> ∃(r:Bool)(cls':List Nat)(tys':List Int),p=bo r/\Upd qm qc es cls' tys' h h'/\CI es cls' tys':=by
 refine pv func302 92 false Qf3 rfl rfl ?_;refine g2 ?_;obtain⟨va,⟨ta,na,sa⟩⟩:=a;obtain⟨vb,⟨tb,nb,sb⟩⟩:=b;dsimp only at*;have hU:=(Upd.refl hm hc).app [.var 315 [yQ va,i64 ta,i64 na,yQ sa],.var 315 [yQ vb,i64 tb,i64 nb,yQ sb]];have ha0:(h++[.var 315 [yQ va,i64 ta,i64 na,yQ sa],.var 315 [yQ vb,i64 tb,i64 nb,yQ sb]])[h.length]? =some (.var 315 [yQ va,i64 ta,i64 na,yQ sa]):=by rw[xY];rfl
 have hb0:(h++[.var 315 [yQ va,i64 ta,i64 na,yQ sa],.var 315 [yQ vb,i64 tb,i64 nb,yQ sb]])[h.length+1]? =some (.var 315 [yQ vb,i64 tb,i64 nb,yQ sb]):=by rw[xN];rfl
 have F1:=(a2 @ha0 @hb0)
 by_cases hva:va=eS
 ·subst hva;refine gf F1 ?_;(refine g1f F1 ?_;refine zC (eZ _ qm qc es cls tys hU.m hU.c hI ⟨vb,tb,nb,sb⟩ ta hb) (yf0 ?_);rintro p2 h2 ⟨r,cls2,tys2,rfl,hU2,hI2⟩);refine ge ?_;exact⟨r,cls2,tys2,rfl,hU.trans hU2,hI2⟩
 ·by_cases hvb:vb=eS
  ·subst hvb;refine gf (a2 F1 @hva) ?_;(refine g1f F1 ?_;refine zC (eZ _ qm qc es cls tys hU.m hU.c hI ⟨va,ta,na,sa⟩ tb ha) (yf0 ?_);rintro p2 h2 ⟨r,cls2,tys2,rfl,hU2,hI2⟩);refine ge ?_;exact⟨r,cls2,tys2,rfl,hU.trans hU2,hI2⟩
  ·refine gf (a3 F1 @hva @hvb) ?_;have hl1:(h.length+1<h.length+1+1)=True:=Qf1;(refine yf1 F1 ?_;refine xR rfl rfl (dM _ qm qc es cls tys hU.m hU.c hI va (.inl (ha hva))) (by
    rintro _ h' ⟨i,es',cls',_,_,_,hU2,_⟩ k hk _;have hk:k∈[1005]:=hk;simp only[Qp] at hk;subst hk;simp only[nu,Kw,Kv,Nat.reduceLT,Nat.reduceSub,Wr,Ql,Qn,Xv,Yd,Nat.reduceAdd,Nat.lt_add_one,Wk];(try rw[Qj Qf0]);rw[hb0,hU2.get hU.m hU.c hb0 Qf1 Qf1]) (yf0 ?_);intro p2 h2 hr2)
   obtain⟨i,es',cls',rfl,hi,hri,hU2,hlen,hI2,hle,hsame,_,_⟩:=hr2;obtain⟨rfl,rfl⟩:=hsame (ha hva);have hb2:=hU2.get hU.m hU.c hb0 Qf1 Qf1;have hl2:(h.length+1<h.length+2)=True:=Qf1;refine gf (a3 @hb2 @hl1 @hl2) ?_;(refine yf1 (a3 @hb2 @hl1 @hl2) ?_;refine zP Qf2 Qf2 (dM _ qm qc es' cls' tys hU2.m hU2.c hI2 vb (.inl (hb hvb))) (yf0 ?_);rintro p2 h2 ⟨j,es3,cls3,rfl,hj,hrj,hU3,hlen3,hI3,hle3,hsame3,_,_⟩);obtain⟨rfl,rfl⟩:=hsame3 (hb hvb);have hU4:=(hU.trans hU2).trans hU3;have hUc:=hU3.c;have hqc:qc<h2.length:=(gsi hUc).1;have hi36:i<36:=by have:=hI3.le;omega
   have hj36:j<36:=by have:=hI3.le;omega
   have c1:=zk1 (qm:=qm) hI3.l1 hI3.l2 hi36;have c2:=zk1 (qm:=qm) hI3.l1 hI3.l2 hj36;have mM:=rG (qm:=qm) hI3.l1 hI3.l2;have h37:(37+i<73)=True:=Qfh;have h38:(37+j<73)=True:=Qfh;have hne:qm≠qc:=fun e=>by have:=hU4.m;rw[e,hUc] at this;cases this
   have hqs: ∀c,(h2.set qc c)[qc]? =some c:=fun c=>Qh hqc;have c3: ∀v:Int,splice (CC qm cls3 tys) (37+j) [i64 v]=CC qm cls3 (tys.set j v):=fun v=>cs_2 hI3.l1 hI3.l2 hj36;have l3: ∀v:Int,(tys.set j v).length=36:=fun v=>by simp[hI3.l2]
   have c4: ∀v:Int,splice (CC qm cls3 (tys.set j v)) (1+i) [i64 j]=CC qm (cls3.set i j) (tys.set j v):=fun v=>cs_1 hI3.l1 (l3 v) hi36;have F:=(a9 @hUc @c1 @c2 @mM @h37 @h38 @hi36 @hj36 (a4 @zB @c3 @c4 @hqs))
   have l4: ∀v:Int,(CC qm cls3 (tys.set j v)).length=73:=fun v=>rG hI3.l1 (l3 v);have fin: ∀v:Int, ∃(r:Bool)(cls':List Nat)(tys':List Int),bo true=bo r/\Upd qm qc es3 cls' tys' h (h2.set qc (.var 378 (CC qm (cls3.set i j) (tys.set j v))))/\CI es3 cls' tys':=fun v=>
    ⟨true,_,_,rfl,⟨by rw[Qd (Ne.symm hne)];exact hU4.m,hqs _,fun r b h1 h2 h3=>by rw[Qd (Ne.symm h2)];exact hU4.k r b h1 h2 h3⟩,(hI3.link hi hj hri hrj).tys (l3 v)⟩
   generalize tys.getD i 0=ti at*;generalize tys.getD j 0=tj at*;by_cases e1:ti=0
   ·subst e1;have f1:((0:Int)!=0)=false:=rfl;(repeat(first|refine gz ?_|(refine gn ?_;intro zs zh;(try simp only[go_sem,F,f1,l4,Wi] at zh);subst zh;refine gv ?_)|refine yD UTyp12f302.pl ?_));exact fin _
   ·have f1:(ti !=0)=true:=by simpa using e1
    by_cases e2:tj=0
    ·subst e2;have f2:((0:Int)!=0)=false:=rfl;(repeat(first|refine gz ?_|(refine gn ?_;intro zs zh;(try simp only[go_sem,F,f1,f2,l4,Wi] at zh);subst zh;refine gv ?_)|refine yD UTyp12f302.pl ?_));exact fin _
    ·have f2:(tj !=0)=true:=by simpa using e2
     by_cases e3:ti=tj
     ·have f3:(ti !=tj)=false:=by simp[e3]
      refine Qcr ?_;exact fin _
     ·have f3:(ti !=tj)=true:=by simp[e3]
      refine Qcr ?_;exact⟨false,cls3,tys,rfl,hU4,hI3⟩
attribute [go_sem] splice
theorem zhF(h:Heap)(qm qc qv:Nat)(es:NM)(cls:List Nat)(tys:List Int)(hm:h[qm]? =some (.map es))(hc:h[qc]? =some (.var 378 (CC qm cls tys)))(hv:h[qv]? =some (.var 375 [.ptr qc 0]))(hI:CI es cls tys)(l:List Tm)(hl:es.length+l.length<=36):
  ECall prog G0 299 [zrX l,.ptr qv 0] h fun _ h'=> ∃(es':NM)(cls':List Nat),Upd qm qc es' cls' tys h h'/\CI es' cls' tys/\es'.length<=es.length+l.length/\(∀s,Has es s->Has es' s)/\ ∀t∈l,t.var≠eS->Has es' t.var:=by
 refine pv func299 19 false Qf3 rfl rfl ?_;refine g2 ?_;refine ge ?_;refine zO l.length (K4 (.d:: .k:: .k:: .v::D9 (.d:: .d::[]))) (own:=false) (fun i (s:NM×List Nat×Heap)=>[i64 i]) (fun s=>s.2.2) (fun i s=>Upd qm qc s.1 s.2.1 tys h s.2.2/\CI s.1 s.2.1 tys/\s.1.length<=es.length+i/\(∀x,Has es x->Has s.1 x)/\ ∀t∈l.take i,t.var≠eS->Has s.1 t.var) (es,cls,h) rfl rfl ⟨Upd.refl hm hc,hI,Xe _,fun _ h=>h,Qf1⟩ Qf0 ?_ ?_
 ·rintro⟨es',cls',h'⟩ ⟨aa1,aa2,aa3,aa4,aa5⟩ t ht;dsimp only at*;simp only[zY] at ht;subst ht;refine gf @zM ?_;exact⟨es',cls',aa1,aa2,aa3,aa4,by rw[Yt] at aa5;exact aa5⟩
 ·rintro i ⟨es',cls',h'⟩ hi hw ⟨aa1,aa2,aa3,aa4,aa5⟩ t ht;dsimp only at*;simp only[zY] at ht;subst ht;have hx:=zG (f:=Tm.c) [] hi;have F:=(a5 @hi @hx @zB @hw @zA)
  have htk:=Xh hi;generalize l[i]=x at*;have hv':=aa1.get hm hc hv Qf1 Qf1;have hqv:qv<h'.length:=(gsi hv').1;have hqa: ∀b,(h'++[b])[qv]? =some (.var 375 [.ptr qc 0]):=fun b=>by rw[Qg hqv];exact hv'
  by_cases hs:x.var=eS
  ·obtain⟨v,k⟩:=x;dsimp only at hs;subst hs;refine gf (a2 F @zX) ?_;refine⟨(es',cls',_),⟨aa1.app _,aa2,by dsimp only;omega,aa4,fun t ht hne=> ?_⟩,rfl,rfl,rfl⟩;rw[htk] at ht;rcases Qo.1 ht with ht|ht
   ·exact aa5 t ht hne
   ·rw[Qp] at ht;subst ht;exact absurd rfl hne
  ·have hU:=aa1.app [.var 315 x.c];refine gf (a4 F @zX @hs @hqa) ?_;(refine g1f (a2 F @hqa) ?_;refine zC (dM _ qm qc es' cls' tys hU.m hU.c aa2 x.var (.inr Qf0)) (yf0 ?_);rintro p2 h2 ⟨i',es2,cls2,rfl,hi2,hri,hU2,hlen,hI2,hle,hsame,hhas,hself⟩);refine gf (a4 @hi @hx @zB @hw) ?_;refine⟨(es2,cls2,_),⟨hU.trans hU2,hI2,by dsimp only;omega,fun s hs=>hhas s (aa4 s hs),fun t ht hne=> ?_⟩,rfl,rfl,rfl⟩;rw[htk] at ht;rcases Qo.1 ht with ht|ht
   ·exact hhas _ (aa5 t ht hne)
   ·rw[Qp] at ht;subst ht;exact hself
open UTyp12f301 in
theorem nS(h:Heap)(qm qc qp:Nat)(es:NM)(cls:List Nat)(tys:List Int)(hm:h[qm]? =some (.map es))(hc:h[qc]? =some (.var 378 (CC qm cls tys)))(hI:CI es cls tys)(ps:List Pd)(L F R:PV)(m1 m2 m3:PV)(Rep:PV)
  (hs:h[6]? =some (.var 258 [L,F,.vec qp 7 (ps.map Pd.c),R,m1,m2,m3,Rep])) (j:Nat) (hj:j<ps.length) (l:List Tm) (hll:l.length<=4) (hl:l.length<=ps[j].types.length) (hn: ∀t∈l,t.var≠eS->Has es t.var):
  ECall prog G0 301 [.ptr 6 0,.ptr qc 0,i64 j,zrX l] h fun p h'=> ∃(b:Bool)(cls':List Nat)(tys':List Int),p=bo b/\Upd qm qc es cls' tys' h h'/\CI es cls' tys':=by
 refine pv func301 35 false Qf3 rfl rfl ?_;refine g2 ?_;refine ge ?_;refine zO l.length (K4 (K4 (.d:: .d:: .d:: .k:: .k:: .v::D9 (D9 (.d:: .d:: .d::[]))))) (own:=false) (fun i (s:List Nat×List Int×Heap)=>[i64 i]) (fun s=>s.2.2) (fun i s=>Upd qm qc es s.1 s.2.1 h s.2.2/\CI es s.1 s.2.1) (cls,tys,h) rfl rfl ⟨Upd.refl hm hc,hI⟩ Qf0 ?_ ?_
 ·rintro⟨cls',tys',h'⟩ ⟨aa1,aa2⟩ t ht;dsimp only at*;simp only[zY] at ht;subst ht;refine gf @zM ?_;exact⟨true,cls',tys',rfl,aa1,aa2⟩
 ·rintro i ⟨cls',tys',h'⟩ hi hw ⟨aa1,aa2⟩ t ht;dsimp only at*;simp only[zY] at ht;subst ht;have hx:=zG (f:=Tm.c) [] hi;have hxm:=hn _ (Qc hi);generalize l[i]=x at*;have hs':=aa1.get hm hc hs Qf1 Qf1;have hs6:6<h'.length:=(gsi hs').1;have hsa: ∀b,(h'++[b])[6]? =some (.var 258 [L,F,.vec qp 7 (ps.map Pd.c),R,m1,m2,m3,Rep]):=fun b=>by rw[Qg hs6];exact hs'
  have hU:=aa1.app [.var 315 x.c];have hy:=zG (f:=Pd.c) [] hj;generalize ps[j]=y at*;have hit:i<y.types.length:=Qf0;have hty:=zG (f:=fun n:Int=>[i64 n]) [] hit;have Z:=(a9 @hi @hx @zB @hw @zA @zX @hsa @hj (a3 @hy @hit @hty))
  refine gf Z ?_;(refine yf1 Z ?_;refine zP Qf2 Qf2 (eZ _ qm qc es cls' tys' hU.m hU.c aa2 x y.types[i] hxm) (yf0 ?_);rintro p2 h2 ⟨b,cls2,tys2,rfl,hU2,hI2⟩);cases b with
  |true=>
   refine gf (a3 @hi @zB @hw) ?_;exact⟨(cls2,tys2,_),⟨hU.trans hU2,hI2⟩,rfl,rfl,rfl⟩
  |false=>
   refine gf (a3 @hi @zB @hw) ?_;exact⟨false,cls2,tys2,rfl,hU.trans hU2,hI2⟩
attribute [go_sem] only
end Go.AL
