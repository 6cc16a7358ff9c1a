/-
  MergeIdentities, but for its head.
-/
import Derived.Test.YtlcjmejclpilhaaGreatDoorX40
set_option linter.unusedSimpArgs false
set_option linter.unusedVariables false
set_option maxRecDepth 100000
set_option maxHeartbeats 4000000
namespace Go.AL
open Go.Proofs Go.Proofs.Tryz
noncomputable def zx0(p:Pg)(d:Dt)(i:Nat)(key:List Vl):Nat->Option Fa:=zfO (iD (kH p d i) key)
noncomputable def zy3(p:Pg)(b o t:Dt)(i:Nat):List (List Vl):=(kH p b i).map (·.1)++((kH p o i).map (·.1)++(kH p t i).map (·.1))
noncomputable def zlS(p:Pg)(b o t:Dt)(i:Nat):List (List Vl):=aO (zy3 p b o t i)
noncomputable def zwO(p:Pg)(b o t:Dt)(i:Nat)(key:List Vl)(m:Nat):Option Fa:=lL (zx0 p b i key m) (zx0 p o i key m) (zx0 p t i key m)
theorem zsG{p:Pg}{F:Nat->List Vl->Nat->Option Fa}{ks:Nat->List (List Vl)}{X:Dt}{i:Nat}(h:(p.pk.getD i zuW).base=false):jI p F ks (i+1) X=jI p F ks i X:=by
 show(if (p.pk.getD i zuW).base=true then zcZ p (F i) (ks i) (jI p F ks i X) else jI p F ks i X)=_;rw[Qi (by rw[h];decide)]
theorem zsF{p:Pg}{F:Nat->List Vl->Nat->Option Fa}{ks:Nat->List (List Vl)}{X:Dt}{i:Nat}(h:(p.pk.getD i zuW).base=true):jI p F ks (i+1) X=zcZ p (F i) (ks i) (jI p F ks i X):=by
 show(if (p.pk.getD i zuW).base=true then zcZ p (F i) (ks i) (jI p F ks i X) else jI p F ks i X)=_;rw[Qj h]
theorem ztU{p:Pg}{F:List Vl->Nat->Option Fa}(k:List Vl): ∀(l:List (List Vl))(X:Dt),zcZ p F (l++[k]) X=iZ p (F k) 64 (zcZ p F l X)
 | [],_=>rfl
 |a::l,X=>ztU k l (iZ p (F a) 64 X)
section
variable{p:Pg}(hp:p.ok)(hle:p.sm)
include hp hle
theorem zsL{d:Dt}(hX:DatX p d){i:Nat}(hi:i<p.pk.length)(hb:p.pk[i].base=true){key:List Vl}(h:key∈(kH p d i).map (·.1)): ∀v∈key,VIn v:=by
 have htold:=zvD hp hle hX hi hb;unfold kH at h;rw[zvH,eD hi] at h;rcases h with h|⟨c,hc,rfl⟩
 ·cases h
 obtain⟨-, -, -,ax,ek, -⟩:=htold c hc;intro v hv;rw[ek] at hv;exact(ax.vv v (Zk hv)).in'
theorem zjS{x y z:Dt}(hX:DatX p x)(hY:DatX p y)(hZ:DatX p z){i:Nat}(hi:i<p.pk.length)(hb:p.pk[i].base=true){key:List Vl}(h:key∈zlS p x y z i): ∀v∈key,VIn v:=by
 unfold zlS at h;rw[iY] at h;unfold zy3 at h;rcases Qo.1 h with h|h
 ·exact zsL hp hle hX hi hb h
 rcases Qo.1 h with h|h
 ·exact zsL hp hle hY hi hb h
 ·exact zsL hp hle hZ hi hb h
theorem zt3{d:Dt}(hX:DatX p d){i:Nat}(hi:i<p.pk.length)(hb:p.pk[i].base=true){key:List Vl}(hv: ∀v∈key,VIn v){m:Nat}{g:Fa}(h:zx0 p d i key m=some g):FcX p i key g:=by
 unfold zx0 zfO at h;by_cases hm:m<64
 ·rw[zv3 hp hle hX hi hb hv hm] at h;exact zu9 hp hle hX hm hv h
 ·rw[Qb,Ye (by rw[zsB (ztI p d i)];omega)] at h;cases h
theorem zw8{x y z:Dt}(hY:DatX p y)(hZ:DatX p z){i:Nat}(hi:i<p.pk.length)(hb:p.pk[i].base=true){key:List Vl}(hv: ∀v∈key,VIn v){m:Nat}{g:Fa}(h:zwO p x y z i key m=some g):FcX p i key g:=by
 unfold zwO at h;rcases zsD (zx0 p x i key m) (zx0 p y i key m) (zx0 p z i key m) with e|e
 ·rw[e] at h;exact zt3 hp hle hY hi hb hv h
 ·rw[e] at h;exact zt3 hp hle hZ hi hb hv h
theorem zsX{i:Nat}{F:List Vl->Nat->Option Fa}: ∀(ks:List (List Vl))(X:Dt)(N:Nat),DatX p X->LenD N X->(∀key∈ks, ∀m g,m<64->F key m=some g->FcX p i key g)->LenD (N+64*ks.length) (zcZ p F ks X)
 | [],X,N,_,h,_=>h
 |k::ks,X,N,hX,h,hF=>by
  have h1:=(zmE hp hle hX (fun m g hm hg=>hF k (Qe ..) m g hm hg) 64 (Xe _)).1;have h2:=zsV hp hle hX (fun m g hm hg=>hF k (Qe ..) m g hm hg) h 64 (Xe _);have h3:=zsX ks _ (N+64) h1 h2 (fun key hk=>hF key (Qf _ hk));have e:N+64*(k::ks).length=N+64+64*ks.length:=by rw[Qn];omega
  rw[e];exact h3
theorem ztX{x y z:Dt}(hE:DatX p (zq4 p))(hX:DatX p x)(hY:DatX p y)(hZ:DatX p z)(hky: ∀i,(zy3 p x y z i).length<=100000): ∀n,n<=p.pk.length->DatX p (jI p (zwO p x y z) (zlS p x y z) n (zq4 p))/\LenD (6400000*n) (jI p (zwO p x y z) (zlS p x y z) n (zq4 p))
 | 0,_=>⟨hE,⟨fun z hz=>by
   have:z=[]:=Ua hz;rw[this];exact Yn _,fun z hz=>by
   have:z=[]:=Ua hz;rw[this];exact Yn _⟩⟩
 | n+1,hn=>by
  obtain⟨h1,h2⟩:=ztX hE hX hY hZ hky n Qf3;have hi:n<p.pk.length:=Qf3;rcases Zp (p.pk.getD n zuW).base with hb|hb
  ·have hb':p.pk[n].base=true:=Qh6;rw[zsF hb];have hF: ∀key∈zlS p x y z n, ∀m g,m<64->zwO p x y z n key m=some g->FcX p n key g:=fun key hk m g _ hg=>zw8 hp hle hY hZ hi hb' (zjS hp hle hX hY hZ hi hb' hk) hg;refine⟨(ziY hp hle _ _ h1 hF).1,?_⟩;have h3:=zsX hp hle _ _ _ h1 h2 hF;have h4:(zlS p x y z n).length<=100000:=Ya (zhM _) (hky n);exact⟨fun w hw=>by have:=h3.r w hw;omega,fun w hw=>by have:=h3.l w hw;omega⟩
  ·rw[zsG hb];exact⟨h1,fun w hw=>by have:=h2.r w hw;omega,fun w hw=>by have:=h2.l w hw;omega⟩
theorem zv5{x y z:Dt}(hE:DatX p (zq4 p))(hX:DatX p x)(hY:DatX p y)(hZ:DatX p z)(hky: ∀i,(zy3 p x y z i).length<=100000){key:List Vl}(hv: ∀v∈key,VIn v){m:Nat}(hm:m<64): ∀n,n<=p.pk.length-> ∀j:Nat,n<=j->ztF p (jI p (zwO p x y z) (zlS p x y z) n (zq4 p)) j key m=none
 |0,_,j,_=>lkE ..
 | n+1,hn,j,hj=>by
  have ih:=zv5 hE hX hY hZ hky hv hm n Qf3 j Qf3;have hi:n<p.pk.length:=Qf3;rcases Zp (p.pk.getD n zuW).base with hb|hb
  ·have hb':p.pk[n].base=true:=Qh6;rw[zsF hb,(ziY hp hle (i:=n) _ _ (ztX hp hle hE hX hY hZ hky n Qf3).1 (fun key hk m g _ hg=>zw8 hp hle hY hZ hi hb' (zjS hp hle hX hY hZ hi hb' hk) hg)).2 j key m hm hv,Qi (fun w=>by have:=w.1;omega)];exact ih
  ·rw[zsG hb];exact ih
theorem zyU{x y z:Dt}(hE:DatX p (zq4 p))(hX:DatX p x)(hY:DatX p y)(hZ:DatX p z)(hky: ∀i,(zy3 p x y z i).length<=100000){i:Nat}(hi:i<p.pk.length)(hb:p.pk[i].base=true){D:Dt}(hD:D=jI p (zwO p x y z) (zlS p x y z) i (zq4 p)){j:Nat}(hj:j<(zlS p x y z i).length):
  DatX p (zcZ p (zwO p x y z i) ((zlS p x y z i).take j) D)/\LenD (6400000*i+6400000) (zcZ p (zwO p x y z i) ((zlS p x y z i).take j) D)/\ ∀m:Nat,m<64->ztF p (zcZ p (zwO p x y z i) ((zlS p x y z i).take j) D) i (zlS p x y z i)[j] m=none:=by
 obtain⟨h1,h2⟩:=ztX hp hle hE hX hY hZ hky i Qf3;rw[<-hD] at h1 h2;have hF: ∀key∈(zlS p x y z i).take j, ∀m g,m<64->zwO p x y z i key m=some g->FcX p i key g:=fun key hk m g _ hg=>zw8 hp hle hY hZ hi hb (zjS hp hle hX hY hZ hi hb (Zk hk)) hg;have hv:=zjS hp hle hX hY hZ hi hb (Qc hj);have hl:=zsX hp hle ((zlS p x y z i).take j) D _ h1 h2 hF;have h4:(zlS p x y z i).length<=100000:=Ya (zhM _) (hky i);have h5:((zlS p x y z i).take j).length<=100000:=Qft;refine⟨(ziY hp hle _ _ h1 hF).1,⟨fun w hw=>by have:=hl.r w hw;omega,fun w hw=>by have:=hl.l w hw;omega⟩,fun m hm=> ?_⟩;have hn:(zlS p x y z i)[j]∉(zlS p x y z i).take j:=fun w=>by
  have hso:SoT (zlS p x y z i):=ziT _;obtain⟨k,hk,e⟩:=Qy w;rw[Xk] at hk;rw[List.getElem_take] at e;have:=Zd.1 hso k j Qf3 hj Qf3;exact this.ne e
 rw[(ziY hp hle _ _ h1 hF).2 i _ m hm hv,Qi (fun w=>hn w.2.1),hD];exact zv5 hp hle hE hX hY hZ hky hv hm i Qf3 i (Xe _)
theorem zxU(h:zpQ p=true):DatX p (zq4 p):=by
 obtain⟨-, -,hck⟩:=(ze0 p hp hle).2 h;refine⟨h,by simp[zq4],by simp[zq4],fun j hj hr hl=> ?_⟩;have e1:(zq4 p).pg[j]=[]:=Ud ..;have e2:(zq4 p).pQ[j]=[]:=Ud ..;rw[e1,e2];exact⟨fun _=>⟨rfl,rfl⟩,fun _ _=>⟨rfl,fun k=>CelX.nil _ (hck _ (Qc k))⟩,fun _ _=>⟨rfl,⟨⟨fun i j _ hj=>absurd hj (Xt _),Qf4⟩,Qf4⟩,fun i hi=>absurd hi (Xt _)⟩⟩
end
end Go.AL
namespace Go.AL
open Go.Proofs Go.Proofs.Tryz
@[go_sem] def UMx2f11.pl:Nat->DPlan
 |9=>⟨[yB,yB,yA,⟨6,0,[1004,1006,1004,1007]⟩,⟨7,0,[1004]⟩,⟨7,0,[1006]⟩,yA,⟨6,0,[1004,1007]⟩,⟨7,0,[1004]⟩,⟨7,0,[1007]⟩,yA,yC,yA,yA,yA],yG,0⟩
 |13=>⟨[yA,⟨7,0,[1004]⟩,yA,yA,yA,⟨6,0,[1004]⟩,yA,yA,yA,⟨6,0,[1004]⟩,yA,yA,yA,⟨6,0,[1004]⟩,yC,yC,yA],wR,0⟩
 |_=>⟨[],[],0⟩
@[go_sem] def zu6:DPlan:=⟨[yA,⟨7,0,[1004]⟩,yA,yA,yA,⟨6,0,[1004]⟩,yA,yA,yA,⟨6,0,[1004]⟩,yA,yA,yA,⟨6,0,[1004]⟩,yC,yC,yA],wR,0⟩
@[go_sem] def uD:DPlan:=⟨[yB,yB,yA,⟨6,0,[1004,1006,1004,1007]⟩,⟨7,0,[1004]⟩,⟨7,0,[1006]⟩,yA,⟨6,0,[1004,1007]⟩,⟨7,0,[1004]⟩,⟨7,0,[1007]⟩,yA,yC,yA,yA,yA],yG,0⟩
abbrev CR:=Nat×List Vl×Cf
def zt8(x:CR):List PV:=ztE x.1 x.2.1 x.2.2
def CfO(lo:Nat)(l:List CR)(V:PV)(H:Heap):Prop:=(l=[]/\V= .nil)\/ ∃r,lo<=r/\0<l.length/\V= .ms r 0 12 l.length/\H[r]? =some (.var 98 (l.flatMap zt8))
noncomputable def qZ(p:Pg)(b o t:Dt)(i:Nat)(key:List Vl):List CR:=(zuF (zx0 p b i key) (zx0 p o i key) (zx0 p t i key) 64).map fun x=>(i,key,x)
noncomputable def zm7(p:Pg)(b o t:Dt):Nat->List CR
 |0=>[]
 |i+1=>if (p.pk.getD i zuW).base=true then zm7 p b o t i++(zlS p b o t i).flatMap (qZ p b o t i) else zm7 p b o t i
structure TS where
 D:Dt
 V:PV
 H:Heap
def KpC(rq lq:Nat)(h H:Heap):Prop:= ∀(r:Nat)(b:Blk),r≠rq->r≠lq->(∀cs,b≠ .var 98 cs)->h[r]? =some b->H[r]? =some b
theorem KpC.refl(rq lq:Nat)(h:Heap):KpC rq lq h h:=fun _ _ _ _ _ h=>h
theorem KpC.trans{rq lq:Nat}{h H G:Heap}(a:KpC rq lq h H)(b:KpC rq lq H G):KpC rq lq h G:=fun r c h1 h2 h3 hc=>b r c h1 h2 h3 (a r c h1 h2 h3 hc)
theorem KpC.of{rq lq:Nat}{h H:Heap}(a: ∀(r:Nat)(b:Blk),h[r]? =some b->H[r]? =some b):KpC rq lq h H:=fun r b _ _ _=>a r b
theorem CfO.app{lo:Nat}{l:List CR}{V:PV}{H:Heap}(h:CfO lo l V H)(B:Heap):CfO lo l V (H++B):=by
 rcases h with h|⟨r,h1,h2,h3,h4⟩
 ·exact .inl h
 ·exact .inr ⟨r,h1,h2,h3,yJ _ _ _ _ h4⟩
theorem zxF{p:Pg}{x y z:Dt}{i:Nat}(h:(p.pk.getD i zuW).base=false):zm7 p x y z (i+1)=zm7 p x y z i:=by
 show(if (p.pk.getD i zuW).base=true then _ else _)=_;rw[Qi (by rw[h];decide)]
theorem zxE{p:Pg}{x y z:Dt}{i:Nat}(h:(p.pk.getD i zuW).base=true):zm7 p x y z (i+1)=zm7 p x y z i++(zlS p x y z i).flatMap (qZ p x y z i):=by
 show(if (p.pk.getD i zuW).base=true then _ else _)=_;rw[Qj h]
theorem zkX{n0:Nat}{t0:List PV}{k r o:Nat}(hk:1000<=k)(h:t0.getD (k-1000) .un= .ptr r o)(hr:r<n0):nu n0 t0 k=r:=by
 unfold nu;rw[Qi Qf3,h];exact Qj hr
theorem zw9{α β:Type}{f:α->List β}{k:Nat}(h: ∀a,(f a).length<=k): ∀l:List α,(l.flatMap f).length<=k*l.length
 | []=>by simp
 |a::l=>by
  have:=zw9 h l;have:=h a;rw[Yp,Ql,Qn,Nat.mul_succ];omega
theorem zsR(p:Pg)(x y z:Dt)(i:Nat)(key:List Vl):(qZ p x y z i key).length<=64:=by
 unfold qZ;rw[Qs];exact zvP 64
theorem zwI{p:Pg}{x y z:Dt}(hky: ∀i,(zy3 p x y z i).length<=100000): ∀n,(zm7 p x y z n).length<=6400000*n
 |0=>Xe _
 | n+1=>by
  have ih:=zwI hky n;rcases Zp (p.pk.getD n zuW).base with hb|hb
  ·rw[zxE hb,Ql];have h1:=zw9 (f:=qZ p x y z n) (fun a=>zsR p x y z n a) (zlS p x y z n);have h2:(zlS p x y z n).length<=100000:=Ya (zhM _) (hky n);omega
  ·rw[zxF hb];omega
theorem ztK(a:CR):(zt8 a).length=12:=rfl
theorem cfRow(p:Pg)(x y z:Dt)(i:Nat)(key:List Vl):(qZ p x y z i key).flatMap zt8=(zuF (zx0 p x i key) (zx0 p y i key) (zx0 p z i key) 64).flatMap (ztE i key):=by
 unfold qZ;rw[List.flatMap_map];rfl
structure OI(p:Pg)(x y z:Dt)(q rq lq:Nat)(h:Heap)(i:Nat)(s:TS):Prop where
 D:s.D=jI p (zwO p x y z) (zlS p x y z) i (zq4 p)
 dat:DataAt s.D q rq lq s.H
 out:CfO 0 (zm7 p x y z i) s.V s.H
 k:KpC rq lq h s.H
structure KI(p:Pg)(x y z:Dt)(q rq lq:Nat)(h:Heap)(i:Nat)(D:Dt)(ks:List (List Vl))(j:Nat)(s:TS):Prop where
 D:s.D=zcZ p (zwO p x y z i) (ks.take j) D
 dat:DataAt s.D q rq lq s.H
 out:CfO 0 (zm7 p x y z i++(ks.take j).flatMap (qZ p x y z i)) s.V s.H
 k:KpC rq lq h s.H
open UMx2f11 in
theorem Three_n(p:Pg)(hp:p.ok)(hle:p.sm)(x y z:Dt)(hx:x.sz)(hy:y.sz)(hz:z.sz)(hX:DatX p x)(hY:DatX p y)(hZ:DatX p z)(hpn:p.pk.length<=100)(hky: ∀i,(zy3 p x y z i).length<=100000):
  ECall prog G0 11 [.agg p.c,.agg x.c,.agg y.c,.agg z.c] [] fun v h'=> ∃(V:PV)(q1 q2:Nat)(D:Dt),D=jI p (zwO p x y z) (zlS p x y z) p.pk.length (zq4 p)/\v= .tup [.agg [.ms q1 0 1 D.pg.length,.ms q2 0 1 D.pQ.length],V]/\h'[q1]? =some (.var 95 (D.pg.map uN))/\h'[q2]? =some (.var 124 (D.pQ.map vD))/\CfO 0 (zm7 p x y z p.pk.length) V h':=by
 refine pv func11 91 false Qf6 rfl rfl ?_;refine g2 ?_;refine ge ?_;(refine Go.AL.g1 ?_;refine zC ((zeD p hp hle x hx).call zK Qfe _) ?_;intro p2 h2 hr2;refine Go.AL.g2 ?_);obtain⟨rfl,rfl⟩:=hr2;rw[pO hX];refine ge ?_;(refine Go.AL.g1 ?_;refine zC ((zeD p hp hle y hy).call zK Qfe _) ?_;intro p2 h2 hr2;refine Go.AL.g2 ?_);obtain⟨rfl,rfl⟩:=hr2;rw[pO hY];refine ge ?_;(refine Go.AL.g1 ?_;refine zC ((zeD p hp hle z hz).call zK Qfe _) ?_;intro p2 h2 hr2;refine Go.AL.g2 ?_);obtain⟨rfl,rfl⟩:=hr2;rw[pO hZ];refine ge ?_;(refine Go.AL.g1 ?_;refine zC (zz2 p Qf3 _) ?_;intro p2 h2 hr2;refine Go.AL.g2 ?_);obtain⟨rq,lq,rfl,g1,g2,g3,g4,g5⟩:=hr2;have hne:rq≠lq:=fun w=>by subst w;rw[g3] at g4;simp at g4
 have e0:=g5 0 _ rfl;have e1:=g5 1 _ rfl;have e2:=g5 2 _ rfl;have e3:=g5 3 _ rfl;have e4:=g5 4 _ rfl;clear g5;have g1:5<=rq:=g1;have g2:5<=lq:=g2;have k0: ∀l:List Blk,(h2++l)[h2.length]? =l[0]? :=fun l=>rU h2 l;have s0: ∀(l:List Blk)(b:Blk),(h2++l).set h2.length b=h2++l.set 0 b:=fun l b=>qK h2 l b;have j0: ∀l:List Blk,(h2++l)[0]? =some (Blk.var 27 p.c):=fun l=>yJ _ _ _ _ e0;refine gf (a3 @k0 @s0 @j0) ?_;obtain⟨q,hq⟩: ∃q,q=h2.length:=⟨_,rfl⟩
 have hqr:rq<q:=by rw[hq];exact(gsi g3).1
 have hql:lq<q:=by rw[hq];exact(gsi g4).1
 obtain⟨h,hh⟩: ∃h,h=h2++[Blk.var 31 [.ms rq 0 1 (zq4 p).pg.length,.ms lq 0 1 (zq4 p).pQ.length]]:=⟨_,rfl⟩
 rw[<-hh,<-hq];have hD0:DataAt (zq4 p) q rq lq h:=⟨by rw[hh,hq,k0];rfl,by rw[hh];exact yJ _ _ _ _ g3,by rw[hh];exact yJ _ _ _ _ g4⟩
 have f0:h[0]? =some (Blk.var 27 p.c):=by rw[hh];exact yJ _ _ _ _ e0
 have f1:h[1]? =some (Blk.var 31 x.c):=by rw[hh];exact yJ _ _ _ _ e1
 have f2:h[2]? =some (Blk.var 31 y.c):=by rw[hh];exact yJ _ _ _ _ e2
 have f3:h[3]? =some (Blk.var 31 z.c):=by rw[hh];exact yJ _ _ _ _ e3
 have f4:h[4]? =some (Blk.var 31 [.nil,.nil]):=by rw[hh];exact yJ _ _ _ _ e4
 refine zW (K9 (.k:: .k:: .v::D4 (.d:: .k:: .d::K9 (K9 (K4 (.v::D9 (D9 (D9 (D9 (D9 (.d:: .d:: .k:: .k::[]))))))))))) (own:=true) (fun s:Nat×TS=>[s.2.V,i64 s.1]) (fun s=>s.2.H) (fun s=>s.1<=p.pk.length/\OI p x y z q rq lq h s.1 s.2) (fun s=>p.pk.length-s.1) (0,⟨zq4 p,.nil,h⟩) rfl rfl ⟨Qf3,rfl,hD0,.inl ⟨rfl,rfl⟩,KpC.refl _ _ _⟩ ?_;rintro⟨i,⟨D,V,H⟩⟩ ⟨hi,hI⟩ t ht;dsimp only at hi hI;simp only[zY] at ht;subst ht;have hD1:=hI.D;have hdat:=hI.dat;have hout:=hI.out;have hk:=hI.k;dsimp only at hD1 hdat hout hk;have c0:=hk 0 _ Qf3 Qf3 Qf4 f0;have c1:=hk 1 _ Qf3 Qf3 Qf4 f1;have c2:=hk 2 _ Qf3 Qf3 Qf4 f2;have c3:=hk 3 _ Qf3 Qf3 Qf4 f3;have c4:=hk 4 _ Qf3 Qf3 Qf4 f4;by_cases hin:i<p.pk.length
 case neg=>
  obtain rfl:i=p.pk.length:=Qf3;have hd:(((p.pk.length:Nat):Int)<(p.pk.length:Int))=False:=Qf4;have dt:=hdat.t;have r4: ∀B:Blk,(H.set 4 B)[4]? =some B:=fun B=>Qh (gsi c4).1;refine gf (a3 @hd @c4 @dt) ?_;have er:Tryz.f11.results.toList=[.cell 8 31,.tmp 9]:=Qf6;simp only[AEnd,er,go_sem,r4];rw[<-hD1];refine⟨V,rq,lq,rfl,by rw[Qd Qf3];exact hdat.r,by rw[Qd Qf3];exact hdat.l,?_⟩;rcases hout with w|⟨r,w1,w2,w3,w4⟩
  ·exact .inl w
  ·exact .inr ⟨r,w1,w2,w3,by rw[Qd (fun w=>by subst w;rw[c4] at w4;cases w4)];exact w4⟩
 case pos=>
  have hd:((i:Int)<(p.pk.length:Int))=True:=Yk Qf3;have hxp:=zG (f:=Pd.c) [] hin;have k1: ∀l:List Blk,(H++l)[H.length]? =l[0]? :=fun l=>rU H l;have s1: ∀(l:List Blk)(b:Blk),(H++l).set H.length b=H++l.set 0 b:=fun l b=>qK H l b;rcases Zp p.pk[i].base with hbs|hbs
  case inr=>
   have jY:IntKind.i64.wrap ((i:Int)+1)=((i+1:Nat):Int):=Qhb;refine gf (a8 @hd @zB @hin @hxp @k1 @s1 @hbs @jY) ?_;have hgb:(p.pk.getD i zuW).base=false:=by rw[eD hin];exact hbs
   exact⟨(i+1,⟨D,V,_⟩),⟨by dsimp only;omega,⟨by dsimp only;rw[hD1,zsG hgb],hdat.app _,(zxF hgb).symm▸hout.app _,hk.trans (KpC.of fun r b hb=>yJ _ _ _ _ hb)⟩⟩,by dsimp only;omega,by(simp only[zY,xJ,Xs];try rfl),rfl,rfl⟩
  case inl=>
   obtain⟨pc,hpc⟩: ∃pc,pc=p.pk[i].c:=⟨_,rfl⟩
   rw[<-hpc] at hxp;have hpl:pc.length=7:=by rw[hpc];rfl
   have hpt:pc.take 7=pc:=by rw[hpc];rfl
   have hp4:(pc.drop 4).getD 0 .un=bo true:=by rw[hpc];show bo p.pk[i].base=_;rw[hbs]
   obtain⟨Hp,hHp⟩: ∃Hp,Hp=H++[Blk.var 73 pc]:=⟨_,rfl⟩
   have l1:H.length<Hp.length:=by rw[hHp];simp
   have d0:Hp[0]? =some (Blk.var 27 p.c):=by rw[hHp];exact yJ _ _ _ _ c0
   have d1:Hp[1]? =some (Blk.var 31 x.c):=by rw[hHp];exact yJ _ _ _ _ c1
   have d2:Hp[2]? =some (Blk.var 31 y.c):=by rw[hHp];exact yJ _ _ _ _ c2
   have d3:Hp[3]? =some (Blk.var 31 z.c):=by rw[hHp];exact yJ _ _ _ _ c3
   have hdat1:DataAt D q rq lq Hp:=by rw[hHp];exact hdat.app _
   have hout1:CfO 0 (zm7 p x y z i) V Hp:=by rw[hHp];exact hout.app _
   have hk1:KpC rq lq h Hp:=by rw[hHp];exact hk.trans (KpC.of fun r b hb=>yJ _ _ _ _ hb)
   have q2:2<Hp.length:=(gsi d2).1;have q3:3<Hp.length:=(gsi d3).1;(repeat(first|refine gz ?_|(refine gn ?_;intro zs zh;(try simp only[go_sem,hd,zB,hin,hxp,k1,s1,hpl,hpt,hp4] at zh);subst zh;refine gv ?_)|refine zQ zu6 _ 13 Qf6 ?_));rw[<-hHp];refine gf (a4 @d0 @d1 @d2 @d3) ?_;(refine zF rfl rfl rfl ?_;intro sr hsr;simp only[go_sem,d0,d1,d2,d3] at hsr;subst hsr;refine xR rfl rfl (zvE p hp hle x hx hX i hin hbs _) (by
    rintro _ _ ⟨m,es, -, -, -, -, -,kk⟩ k hk _;have hk:k∈[1004,1006,1004,1007]:=hk;simp only[Qw,Zn,Ka] at hk;exact hk.elim (fun w=>by subst w;rw[zkX Qf5 rfl Qf3,kk 0 _ d0,d0]) fun hk=>hk.elim (fun w=>by subst w;rw[zkX Qf5 rfl q2,kk 2 _ d2,d2]) fun hk=>hk.elim (fun w=>by subst w;rw[zkX Qf5 rfl Qf3,kk 0 _ d0,d0]) fun w=>by subst w;rw[zkX Qf5 rfl q3,kk 3 _ d3,d3]) ?_;intro p2 h2 hr2;refine Go.AL.g2 ?_)
   obtain⟨m1,es1,rfl,u1,u2,u3,u4,u5⟩:=hr2;rename Heap=>H1;have v0:=u5 0 _ d0;have v2:=u5 2 _ d2;have v3:=u5 3 _ d3;have y0:(0<Hp.length)=True:=Yk Qf3;have y2:(2<Hp.length)=True:=Yk (gsi d2).1;have y3:(3<Hp.length)=True:=Yk (gsi d3).1;have mI: ∀(f:Nat->Blk->Blk)(K:Heap)(r:Nat),(K.mapIdx f)[r]? =(K[r]?).map (f r):=fun f K r=>Zl;refine gf (a7 @v0 @v2 @v3 @y0 @y2 @y3 @mI) ?_
   (refine zF rfl rfl rfl ?_;intro sr hsr;simp only[go_sem,v0,v2,v3,y0,y2,y3,mI] at hsr;subst hsr;refine xR rfl rfl (zvE p hp hle y hy hY i hin hbs _) (by
    rintro _ _ ⟨m,es, -, -, -, -, -,kk⟩ k hk _;have hk:k∈[1004,1007]:=hk;simp only[Qw,Zn,Ka] at hk;exact hk.elim (fun w=>by subst w;rw[zkX Qf5 rfl Qf3,kk 0 _ v0,v0]) fun w=>by subst w;rw[zkX Qf5 rfl q3,kk 3 _ v3,v3]) ?_;intro p2 h2 hr2;refine Go.AL.g2 ?_)
   obtain⟨m2,es2,rfl,w1,w2,w3,w4,w5⟩:=hr2;rename Heap=>H2;have x0:=w5 0 _ v0;have x3:=w5 3 _ v3;refine gf (a5 @x0 @x3 @y0 @y3 @mI) ?_;(refine zF rfl rfl rfl ?_;intro zs zh;simp only[go_sem,x0,x3,y0,y3,mI] at zh;subst zh;refine zP Qf5 Qf5 (zvE p hp hle z hz hZ i hin hbs _) ?_;intro p2 h2 hr2;refine Go.AL.g2 ?_);obtain⟨m3,es3,rfl,t1,t2,t3,t4,t5⟩:=hr2;rename Heap=>H3;have hbs':p.pk[i].base=true:=hbs;have hE:=zxU hp hle hX.tv;have kx: ∀(r:Nat)(b:Blk),Hp[r]? =some b->H3[r]? =some b:=fun r b hb=>t5 r b (w5 r b (u5 r b hb));have L1:Lns i m1 es1 H3:=u2.keep (t5 _ _ (w5 _ _ u2.a)) fun e _ b hb=>t5 _ _ (w5 _ _ hb);have L2:Lns i m2 es2 H3:=w2.keep (t5 _ _ w2.a) fun e _ b hb=>t5 _ _ hb;have hms:N.keysM [(m1,es1),(m2,es2),(m3,es3)]=zy3 p x y z i:=by
    unfold zy3;rw[<-u1,<-w1,<-t1];simp[N.keysM,Zg,Function.comp_def]
   have hkx:=ya7 [(m1,es1),(m2,es2),(m3,es3)] H3 (fun a ha=>by
    simp only[Qw,Zn,Ka] at ha;rcases ha with rfl|rfl|rfl
    ·exact .of L1
    ·exact .of L2
    ·exact .of t2) (by rw[hms];exact hky i) Qf4
   rw[hms] at hkx;have hnk:(zlS p x y z i).length<=100000:=Ya (zhM _) (hky i);have hdat3:DataAt D q rq lq H3:=⟨kx _ _ hdat1.t,kx _ _ hdat1.r,kx _ _ hdat1.l⟩
   have hout3:CfO 0 (zm7 p x y z i) V H3:=by
    rcases hout1 with a|⟨r,a1',a2',a3',a4'⟩
    ·exact .inl a
    ·exact .inr ⟨r,a1',a2',a3',kx _ _ a4'⟩
   have hk3:KpC rq lq h H3:=hk1.trans (KpC.of kx);obtain⟨ks,hks⟩: ∃ks,ks=zlS p x y z i:=⟨_,rfl⟩
   have hkx:ECall prog G0 50 [.tc 1 [[.mp m1],[.mp m2],[.mp m3]]] H3 fun v h'=>v= .ts 1 (ks.map fun k=>[pH k])/\h'=H3:=by rw[hks];exact hkx
   rw[<-hks] at hnk;refine ge ?_;(refine Go.AL.g1 ?_;refine zC (hkx) ?_;intro p2 h2 hr2;refine Go.AL.g2 ?_);obtain⟨rfl,rfl⟩:=hr2;rename Heap=>H3;refine ge ?_;refine zW (K9 (.k:: .k:: .v::K4 (.k:: .k:: .d::K9 (K9 (K9 (K9 (K9 (.k:: .k:: .k:: .v::D9 (D9 (.d:: .d:: .k:: .k:: .k::[])))))))))) (own:=true) (fun s:Nat×TS=>[s.2.V,i64 s.1]) (fun s=>s.2.H) (fun s=>s.1<=ks.length/\KI p x y z q rq lq H3 i D ks s.1 s.2) (fun s=>ks.length-s.1) (0,⟨D,V,H3⟩) rfl rfl ⟨Qf3,rfl,hdat3,by simpa using hout3,KpC.refl _ _ _⟩ ?_;rintro⟨j,⟨DD,VV,HH⟩⟩ ⟨hj,hJ⟩ t ht;dsimp only at hj hJ;simp only[zY] at ht;subst ht;have zD:=hJ.D;have zdat:=hJ.dat;have zout:=hJ.out;have zk:=hJ.k;dsimp only at zD zdat zout zk;have hgb:(p.pk.getD i zuW).base=true:=by rw[eD hin];exact hbs
   by_cases hjn:j<ks.length
   case neg=>
    obtain rfl:j=ks.length:=Qf3;have hdj:(((ks.length:Nat):Int)<(ks.length:Int))=False:=Qf4;have jY:IntKind.i64.wrap ((i:Int)+1)=((i+1:Nat):Int):=Qhb;rw[Yt] at zD zout;refine gf (a3 @hdj @zB @jY) ?_;exact⟨(i+1,⟨DD,VV,HH⟩),⟨by dsimp only;omega,⟨by dsimp only;rw[zsF hgb,<-hD1,<-hks];exact zD,zdat,by rw[zxE hgb,<-hks];exact zout,hk3.trans zk⟩⟩,by dsimp only;omega,by(simp only[zY,xJ,Xs];try rfl),rfl,rfl⟩
   case pos=>
    have hdj:((j:Int)<(ks.length:Int))=True:=Yk Qf3;have hxk:=zG (f:=fun k:List Vl=>[pH k]) [] hjn;obtain⟨key,hkey⟩: ∃key,key=ks[j]:=⟨_,rfl⟩
    rw[<-hkey] at hxk;have b0:HH[0]? =some (Blk.var 27 p.c):=zk 0 _ Qf3 Qf3 Qf4 (kx _ _ d0);have y0:(0<HH.length)=True:=Yk (gsi b0).1;have hzm: ∀(r:Nat)(b:Blk),H3[r]? =some b->(∀cs,b≠ .var 95 cs)->(∀cs,b≠ .var 124 cs)->(∀cs,b≠ .var 98 cs)->HH[r]? =some b:=fun r b hb n1 n2 n3=>by
     have:=hdat3.off hb n1 n2;exact zk r b this.1 this.2 n3 hb
    have mvL: ∀{m:Nat}{es:List LnE},Lns i m es H3->Lns i m es HH:=fun hL=>hL.keep (hzm _ _ hL.a Qf4 Qf4 Qf4) fun e he b hb=>by
     have h1:=(hL.l e he).2;rw[h1] at hb;cases hb;exact hzm _ _ h1 Qf4 Qf4 Qf4
    have M1:=mvL L1;have M2:=mvL L2;have M3:=mvL t2;have hjk:j<(zlS p x y z i).length:=by rw[<-hks];exact hjn
    have hkey':key=(zlS p x y z i)[j]:=by rw[hkey];simp only[hks]
    have hkm:key∈zlS p x y z i:=by rw[hkey'];exact Qc _
    have hkK:Key key:=by
     have hm:key∈N.keysM [(m1,es1),(m2,es2),(m3,es3)]:=by rw[hms];unfold zlS at hkm;exact(iY key _).1 hkm
     obtain⟨e',he',hm⟩:=Jg.1 hm;obtain⟨e,he,rfl⟩:=Xf.1 hm;simp only[Qw,Zn,Ka] at he';rcases he' with rfl|rfl|rfl
     ·exact M1.k e he
     ·exact M2.k e he
     ·exact M3.k e he
    obtain⟨iX,iL,iN⟩:=zyU hp hle hE hX hY hZ hky hin hbs hD1 hjk;rw[<-hkey'] at iN;rw[<-hks,<-zD] at iX iL iN;have hkv:=hkK.vk;(repeat(first|refine gz ?_|(refine gn ?_;intro zs zh;(try simp only[go_sem,hdj,zB,hjn,hxk,b0] at zh);subst zh;refine gv ?_)|refine zQ uD _ 9 Qf6 ?_));refine zp6 (own:=true) wN zK ⟨[⟨0,0,[]⟩,⟨7,0,[1004]⟩,⟨0,0,[]⟩,⟨0,0,[]⟩,⟨0,0,[]⟩,⟨6,0,[1004]⟩,⟨0,0,[]⟩,⟨0,0,[]⟩,⟨0,0,[]⟩,⟨6,0,[1004]⟩,⟨0,0,[]⟩,⟨0,0,[]⟩,⟨0,0,[]⟩,⟨6,0,[1004]⟩,⟨4,0,[]⟩,⟨4,0,[]⟩,⟨0,0,[]⟩],[0,1,2,3,4,5,6,7,8,9,10,11,12,13,14,15,16],0⟩ [0,1,2,3,4,5,6,7,8,9,10,11,12,13,14] [15,16] Qf6 rfl ?_;(repeat(first|refine gz ?_|(refine gn ?_;intro zs zh;(try simp only[go_sem,b0,y0,mI] at zh);subst zh;refine gv ?_)|refine zQ uD _ 9 Qf6 ?_))
    (refine zF rfl rfl rfl ?_;intro sr hsr;simp only[go_sem,b0,y0,mI] at hsr;subst hsr;refine xR rfl rfl (zzG i m1 es1 HH M1 key hkK) (by
     rintro _ _ ⟨r,B, -,rfl, -⟩ k hk _;have hk:k∈[1004]:=hk;rw[Qp] at hk;subst hk;rw[zkX Qf5 rfl (of_eq_true y0),yJ _ _ _ _ b0,b0]) ?_;intro p2 h2 hr2;refine Go.AL.g2 ?_)
    rename Heap=>G1;obtain⟨r1,B1,rfl,E1,l1'⟩:=hr2;have b1:G1[0]? =some (Blk.var 27 p.c):=by rw[E1];exact yJ _ _ _ _ b0
    have M2':Lns i m2 es2 G1:=by rw[E1];exact M2.app _
    (repeat(first|refine gz ?_|(refine gn ?_;intro zs zh;(try simp only[go_sem,b1,y0,mI] at zh);subst zh;refine gv ?_)|refine zQ uD _ 9 Qf6 ?_))
    (refine zF rfl rfl rfl ?_;intro sr hsr;simp only[go_sem,b1,y0,mI] at hsr;subst hsr;refine xR rfl rfl (zzG i m2 es2 G1 M2' key hkK) (by
     rintro _ _ ⟨r,B, -,rfl, -⟩ k hk _;have hk:k∈[1004]:=hk;rw[Qp] at hk;subst hk;rw[zkX Qf5 rfl (of_eq_true y0),yJ _ _ _ _ b1,b1]) ?_;intro p2 h2 hr2;refine Go.AL.g2 ?_)
    rename Heap=>G2;obtain⟨r2,B2,rfl,E2,l2'⟩:=hr2;have b2:G2[0]? =some (Blk.var 27 p.c):=by rw[E2];exact yJ _ _ _ _ b1
    have M3':Lns i m3 es3 G2:=by rw[E2,E1];exact(M3.app _).app _
    (repeat(first|refine gz ?_|(refine gn ?_;intro zs zh;(try simp only[go_sem,b2,y0,mI] at zh);subst zh;refine gv ?_)|refine zQ uD _ 9 Qf6 ?_))
    (refine zF rfl rfl rfl ?_;intro sr hsr;simp only[go_sem,b2,y0,mI] at hsr;subst hsr;refine xR rfl rfl (zzG i m3 es3 G2 M3' key hkK) (by
     rintro _ _ ⟨r,B, -,rfl, -⟩ k hk _;have hk:k∈[1004]:=hk;rw[Qp] at hk;subst hk;rw[zkX Qf5 rfl (of_eq_true y0),yJ _ _ _ _ b2,b2]) ?_;intro p2 h2 hr2;refine Go.AL.g2 ?_)
    rename Heap=>G3;obtain⟨r3,B3,rfl,E3,l3'⟩:=hr2;rw[u1] at l1';rw[w1] at l2';rw[t1] at l3';have l1':G3[r1]? =some (.var 205 (zuI i key (iD (kH p x i) key) (iD (kH p x i) key))):=by rw[E3,E2];exact yJ _ _ _ _ (yJ _ _ _ _ l1')
    have l2':G3[r2]? =some (.var 205 (zuI i key (iD (kH p y i) key) (iD (kH p y i) key))):=by rw[E3];exact yJ _ _ _ _ l2'
    have gk: ∀(r:Nat)(b:Blk),HH[r]? =some b->G3[r]? =some b:=fun r b hb=>by rw[E3,E2,E1];exact yJ _ _ _ _ (yJ _ _ _ _ (yJ _ _ _ _ hb))
    have gD:DataAt DD q rq lq G3:=⟨gk _ _ zdat.t,gk _ _ zdat.r,gk _ _ zdat.l⟩
    (repeat(first|refine gz ?_|(refine gn ?_;intro zs zh;(try simp only[go_sem,y0,mI] at zh);subst zh;refine gv ?_)|refine zQ uD _ 9 Qf6 ?_));(refine zF rfl rfl rfl ?_;intro zs zh;simp only[go_sem,y0,mI] at zh;subst zh;refine zP Qf5 Qf5 (zzT p hp hle (6400000*i+6400000) Qf3 DD iX iL q rq lq G3 gD i key (iD (kH p x i) key) (iD (kH p y i) key) (iD (kH p z i) key) (zsB (ztI p x i) key) (zsB (ztI p y i) key) (zsB (ztI p z i) key) (fun g m hg=>zt3 hp hle hX hin hbs hkv hg) (fun g m hg=>zt3 hp hle hY hin hbs hkv hg) (fun g m hg=>zt3 hp hle hZ hin hbs hkv hg) iN hkv r1 r2 r3 l1' l2' l3') ?_;intro p2 h2 hr2;refine Go.AL.g2 ?_);rename Heap=>G4;obtain⟨o1,o2,o3⟩:=hr2;have jY:IntKind.i64.wrap ((j:Int)+1)=((j+1:Nat):Int):=Qhb;have hzo:((zS prog 98).map fun z=>wI (nI z))=some true:=Qf6;obtain⟨zc,hzc,hzs⟩: ∃zc,zS prog 98=some zc/\wI (nI zc)=true:=by
     exact Qcf
    have htp:wD prog 34=some (98,12,176):=Qf6;have htk:ks.take (j+1)=ks.take j++[key]:=by rw[Xh hjn,<-hkey]
    obtain⟨L,hL⟩: ∃L,L=zm7 p x y z i++(ks.take j).flatMap (qZ p x y z i):=⟨_,rfl⟩
    rw[<-hL] at zout;have hLl:L.length<=6400000*101:=by
     have h1:=zwI hky i;have h2:=zw9 (f:=qZ p x y z i) (fun a=>zsR p x y z i a) (ks.take j);have h3:(ks.take j).length<=100000:=Qft;rw[hL,Ql];omega
    have hLn:zm7 p x y z i++(ks.take (j+1)).flatMap (qZ p x y z i)=L++qZ p x y z i key:=by
     rw[htk,Wx,<-Qv,<-hL];simp
    have fin: ∀(V':PV)(G':Heap),CfO 0 (L++qZ p x y z i key) V' G'->DataAt (iZ p (zwO p x y z i key) 64 DD) q rq lq G'->KpC rq lq G4 G'->KI p x y z q rq lq H3 i D ks (j+1) ⟨iZ p (zwO p x y z i key) 64 DD,V',G'⟩:=fun V' G' a1' a2' a3'=>
     ⟨by dsimp only;rw[htk,ztU,<-zD],a2',by rw[hLn];exact a1',(zk.trans (KpC.of gk)).trans (KpC.trans (fun r b h1 h2 _=>o3 r b h1 h2) a3')⟩
    have o2:DataAt (iZ p (zwO p x y z i key) 64 DD) q rq lq G4:=o2;have ckl:(qZ p x y z i key).length<=64:=zsR p x y z i key;have o1:CfO 0 (qZ p x y z i key) p2 G4:=by
     rcases o1 with ⟨a1',a2'⟩|⟨r,a1',a2',a3',a4'⟩
     ·refine .inl ⟨?_,a2'⟩;show(zuF (zx0 p x i key) (zx0 p y i key) (zx0 p z i key) 64).map _=[];unfold zx0;rw[a1'];rfl
     ·refine .inr ⟨r,Yn _,?_,?_,?_⟩
      ·unfold qZ;rw[Qs];exact a2'
      ·unfold qZ;rw[Qs];exact a3'
      ·rw[cfRow];exact a4'
    have zout4:CfO 0 L VV G4:=by
     rcases zout with a|⟨r,a1',a2',a3',a4'⟩
     ·exact .inl a
     ·have:=zdat.off a4' Qf4 Qf4;exact .inr ⟨r,a1',a2',a3',o3 r _ this.1 this.2 (gk _ _ a4')⟩
    clear zout;refine Wap ?_;show ADe _ _ _ _ _ _ _ _ _ _;rcases zout4 with ⟨eL,rfl⟩|⟨r0, -,hp0,rfl,hb0⟩
    ·rcases o1 with ⟨eC,rfl⟩|⟨rc, -,hpc',rfl,hbc⟩
     ·refine ztB (i:=15) rfl rfl rfl (fun rd=>OpOk.appNN (s:= .tmp 71) (x:= .tmp 85) rfl rfl rfl rfl rfl rfl htp ⟨rfl,rfl⟩) ?_;intro ts2 hts;simp only[go_sem] at hts;subst hts;refine zn8 (own:=false) [16] (ρ2:=[]) ?_;intro ds hds;simp only[Xa,Wj] at hds;subst hds;refine Wap ?_;refine znZ ?_;refine Wao ?_;exact⟨(j+1,⟨_,.nil,G4⟩),⟨by dsimp only;omega,fin _ _ (.inl ⟨by rw[eL,eC];rfl,rfl⟩) o2 (KpC.refl _ _ _)⟩,by dsimp only;omega,by(simp only[zY,xJ,Xs];try rfl),rfl,rfl⟩
     ·have e1':(qZ p x y z i key).flatMap zt8=((qZ p x y z i key).map zt8).flatten:=rfl;have e2':(qZ p x y z i key).length=((qZ p x y z i key).map zt8).length:=by rw[Qs]
      have hl: ∀e∈(qZ p x y z i key).map zt8,e.length=12:=fun e he=>by obtain⟨a, -,rfl⟩:=Xf.1 he;exact ztK a
      have hcf:CfO 0 (L++qZ p x y z i key) (.ms G4.length 0 12 ((qZ p x y z i key).map zt8).length) (G4++[.var 98 ((qZ p x y z i key).map zt8).flatten]):=
       .inr ⟨G4.length,Yn _,by rw[eL];exact hpc',by rw[eL,<-e2'];rfl,by rw[zA,eL];rfl⟩
      obtain⟨l,hl'⟩: ∃l,l=(qZ p x y z i key).map zt8:=⟨_,rfl⟩
      rw[e2'] at hpc' ckl ⊢
      rw[e1'] at hbc;rw[<-hl'] at hl hbc hpc' ckl hcf ⊢
      refine ztB (i:=15) rfl rfl rfl (fun rd=>OpOk.appNM (s:= .tmp 71) (x:= .tmp 85) rfl rfl rfl rfl rfl rfl hbc hl hpc' htp hzc hzs Qf3 Qf3 ⟨rfl,rfl⟩) ?_;intro ts2 hts;simp only[go_sem] at hts;subst hts;refine zn8 (own:=false) [16] (ρ2:=[]) ?_;intro ds hds;simp only[Xa,Wj] at hds;subst hds;refine Wap ?_;refine znZ ?_;refine Wao ?_;exact⟨(j+1,⟨_,.ms G4.length 0 12 l.length,G4++[.var 98 l.flatten]⟩),⟨by dsimp only;omega,fin _ _ (hcf) (o2.app _) (KpC.of fun r b hb=>yJ _ _ _ _ hb)⟩,by dsimp only;omega,by(simp only[zY,xJ,Xs];try rfl),rfl,rfl⟩
    ·have hn0:=o2.off hb0 Qf4 Qf4;have hq0:q≠r0:=fun w=>by subst w;rw[o2.t] at hb0;cases hb0
     rcases o1 with ⟨eC,rfl⟩|⟨rc, -,hpc',rfl,hbc⟩
     ·refine ztB (i:=15) rfl rfl rfl (fun rd=>OpOk.appendMsNil (s:= .tmp 71) (x:= .tmp 85) rfl rfl rfl rfl rfl rfl htp ⟨rfl,rfl⟩) ?_;intro ts2 hts;simp only[go_sem] at hts;subst hts;refine zn8 (own:=false) [16] (ρ2:=[]) ?_;intro ds hds;simp only[Xa,Wj] at hds;subst hds;refine Wap ?_;refine znZ ?_;refine Wao ?_;exact⟨(j+1,⟨_,.ms r0 0 12 L.length,G4⟩),⟨by dsimp only;omega,fin _ _ (.inr ⟨r0,Yn _,by rw[eC,Xz];exact hp0,by rw[eC,Xz],by rw[eC,Xz];exact hb0⟩) o2 (KpC.refl _ _ _)⟩,by dsimp only;omega,by(simp only[zY,xJ,Xs];try rfl),rfl,rfl⟩
     ·have e1':(qZ p x y z i key).flatMap zt8=((qZ p x y z i key).map zt8).flatten:=rfl;have e2':(qZ p x y z i key).length=((qZ p x y z i key).map zt8).length:=by rw[Qs]
      have f1':L.flatMap zt8=(L.map zt8).flatten:=rfl;have f2':L.length=(L.map zt8).length:=by rw[Qs]
      have hl: ∀e∈(qZ p x y z i key).map zt8,e.length=12:=fun e he=>by obtain⟨a, -,rfl⟩:=Xf.1 he;exact ztK a
      have hl0: ∀e∈L.map zt8,e.length=12:=fun e he=>by obtain⟨a, -,rfl⟩:=Xf.1 he;exact ztK a
      have hcf:CfO 0 (L++qZ p x y z i key) (.ms G4.length 0 12 ((L.map zt8).length+((qZ p x y z i key).map zt8).length)) (G4.set r0 .old++[.var 98 ((L.map zt8).flatten++((qZ p x y z i key).map zt8).flatten)]):=
       .inr ⟨G4.length,Yn _,by rw[Ql];omega,by rw[Ql,<-e2',<-f2'],by
        have:=zA (G4.set r0 .old) (.var 98 ((L.map zt8).flatten++((qZ p x y z i key).map zt8).flatten));rw[Xb] at this;rw[this,Wx];rfl⟩
      have hdn:DataAt (iZ p (zwO p x y z i key) 64 DD) q rq lq (G4.set r0 .old):=⟨by rw[Qd hq0.symm];exact o2.t,by rw[Qd hn0.1];exact o2.r,by rw[Qd hn0.2];exact o2.l⟩
      have hkn:KpC rq lq G4 (G4.set r0 .old):=fun r b _ _ h3 hb=>by
       rw[Qd (fun w=>by subst w;rw[hb0] at hb;cases hb;exact h3 _ rfl)];exact hb
      obtain⟨l,hl'⟩: ∃l,l=(qZ p x y z i key).map zt8:=⟨_,rfl⟩
      obtain⟨l0,hl0'⟩: ∃l0,l0=L.map zt8:=⟨_,rfl⟩
      rw[e2'] at hpc' ckl ⊢
      rw[f2'] at hLl ⊢
      rw[e1'] at hbc;rw[f1'] at hb0;rw[<-hl'] at hl hbc hpc' ckl hcf ⊢
      rw[<-hl0'] at hl0 hb0 hLl hcf ⊢
      refine ztB (i:=15) rfl rfl rfl (fun rd=>OpOk.appMM (s:= .tmp 71) (x:= .tmp 85) rfl rfl rfl rfl rfl rfl hb0 hbc hl0 hl hpc' htp hzc hzs Qf3 Qf3 ⟨rfl,rfl⟩) ?_;intro ts2 hts;simp only[go_sem] at hts;subst hts;refine zn8 (own:=false) [16] (ρ2:=[]) ?_;intro ds hds;simp only[Xa,Wj] at hds;subst hds;refine Wap ?_;refine znZ ?_;refine Wao ?_;exact⟨(j+1,⟨_,.ms G4.length 0 12 (l0.length+l.length),G4.set r0 .old++[.var 98 (l0.flatten++l.flatten)]⟩),⟨by dsimp only;omega,fin _ _ (hcf) (hdn.app _) (hkn.trans (KpC.of fun r b hb=>yJ _ _ _ _ hb))⟩,by dsimp only;omega,by(simp only[zY,xJ,Xs];try rfl),rfl,rfl⟩
noncomputable def cfs(l:List CR):PV:= .ts 12 (l.map zt8)
theorem yfP(f:Nat)(o:Option Fa):zU (f+2) (fA o)=true:=by
 cases o with
 |none=>rfl
 |some g=>exact eJ f g.args
theorem zyM(f:Nat)(r:List LRw):zU (f+4) (vD r)=true:=by
 exact Qbu
theorem yaM(f:Nat)(a:CR): ∀p∈zt8 a,zU (f+2) p=true:=fun p hp=>by
 unfold zt8 ztE at hp;simp only[Qw,Zn,Ka] at hp;rcases hp with rfl|rfl|rfl|rfl|rfl|rfl|rfl|rfl|rfl|rfl|rfl|rfl<;>first|rfl|exact eJ f _|exact zlM f _|exact yfP f _
theorem zy8{h:Heap}{f:Nat}{cs:List PV}(hc: ∀p∈cs,zU f p=true):cs.map (fz 0 h f)=cs:=by
 conv=>rhs;rw[<-Kl cs]
 exact Yq fun p hp=>vE 0 h f p (hc p hp)
theorem zzC{α:Type}{h:Heap}{r f:Nat}{t:TypeId}{l:List α}{g:α->PV}(e:h[r]? =some (.var t (l.map g)))(ht: ∀a,zU f (g a)=true):fz 0 h (f+1) (.ms r 0 1 l.length)= .ts 1 (l.map fun a=>[g a]):=by
 rw[fzM f r 0 1 l.length e,zy8 (fun p hp=>by obtain⟨a, -,rfl⟩:=Xf.1 hp;exact ht a),zsY _ _ (by rw[Qs];exact Xe _),Yo (by rw[Qs];exact Xe _),Zg];rfl
theorem Three_e(p:Pg)(hp:p.ok)(hle:p.sm)(x y z:Dt)(hx:x.sz)(hy:y.sz)(hz:z.sz)(hX:DatX p x)(hY:DatX p y)(hZ:DatX p z)(hpn:p.pk.length<=100)(hky: ∀i,(zy3 p x y z i).length<=100000):
  EPure prog G0 11 [.agg p.c,.agg x.c,.agg y.c,.agg z.c] fun v=>v= .tup [.agg (jI p (zwO p x y z) (zlS p x y z) p.pk.length (zq4 p)).c,cfs (zm7 p x y z p.pk.length)]:=by
 refine ECall.cutW (Three_n p hp hle x y z hx hy hz hX hY hZ hpn hky) ?_;rintro v h ⟨V,q1,q2,D,hD,rfl,h1,h2,h3⟩;have t2:zU 39 (cfs (zm7 p x y z p.pk.length))=true:=by
  unfold cfs;refine Qe8 ?_;exact fun a _ q hq=>yaM 36 a q hq
 refine⟨.tup [.agg D.c,cfs (zm7 p x y z p.pk.length)],?_,by rw[hD],yP 40 _ ?_⟩
 ·rw[zlG 39,Xa,Xa,Wj,fzA 38,Xa,Xa,Wj,zzC (f:=37) h1 (rE 33),zzC (f:=37) h2 (zyM 33)];refine PLes.tup (.cons (PLe.refl _) (.cons ?_ .nil));rcases h3 with ⟨e,rfl⟩|⟨r, -,h4,rfl,h5⟩
  ·rw[e,fzN 38];exact PLe.nil_ts 12
  ·rw[fzM 38 r 0 12 _ h5,zy8 (fun q hq=>by obtain⟨a, -,hq⟩:=Jg.1 hq;exact yaM 36 a q hq)];have:=rL 12 ((zm7 p x y z p.pk.length).map zt8) (fun e he=>by obtain⟨a, -,rfl⟩:=Xf.1 he;exact ztK a);rw[Qs] at this;rw[List.flatMap_def,this];exact PLe.refl _
 ·have t1:=eH 33 D;simp only[zU,Wm,Jb,Zx] at t1 t2 ⊢
  simp only[t1,t2,Kd]
theorem zs0{p:Pg}{f g:Nat->Option Fa}: ∀(n:Nat)(X:Dt),(∀m,m<n->f m=g m)->iZ p f n X=iZ p g n X
 |0,_,_=>rfl
 |n+1,X,h=>by
  unfold iZ;rw[zs0 n X fun m hm=>h m Qf3,h n Qf3]
theorem zs2{p:Pg}{F F':List Vl->Nat->Option Fa}: ∀(ks:List (List Vl))(X:Dt),(∀key∈ks, ∀m,m<64->F key m=F' key m)->zcZ p F ks X=zcZ p F' ks X
 | [],_,_=>rfl
 |k::ks,X,h=>by
  unfold zcZ;rw[zs0 64 X fun m hm=>h k (Qe ..) m hm,zs2 ks _ fun key hk=>h key (Qf _ hk)]
theorem zsZ{p:Pg}{F F':Nat->List Vl->Nat->Option Fa}{ks:Nat->List (List Vl)}{X:Dt}: ∀n:Nat,(∀i,i<n->(p.pk.getD i zuW).base=true-> ∀key∈ks i, ∀m,m<64->F i key m=F' i key m)->jI p F ks n X=jI p F' ks n X
 |0,_=>rfl
 |n+1,h=>by
  have ih:=zsZ (p:=p) (X:=X) n fun i hi=>h i Qf3;rcases Zp (p.pk.getD n zuW).base with hb|hb
  ·rw[zsF hb,zsF hb,ih,zs2 _ _ (h n Qf3 hb)]
  ·rw[zsG hb,zsG hb,ih]
theorem zsT{a b c a' b' c':Nat->Option Fa}: ∀n:Nat,(∀m,m<n->a m=a' m/\b m=b' m/\c m=c' m)->zuF a b c n=zuF a' b' c' n
 |0,_=>rfl
 |n+1,h=>by
  obtain⟨h1,h2,h3⟩:=h n Qf3;unfold zuF;rw[h1,h2,h3,zsT n fun m hm=>h m Qf3]
noncomputable def zw4(p:Pg)(b o t:Dt)(i:Nat)(key:List Vl):List CR:=(zuF (fun m=>ztF p b i key m) (fun m=>ztF p o i key m) (fun m=>ztF p t i key m) 64).map fun x=>(i,key,x)
noncomputable def zz9(p:Pg)(b o t:Dt):Nat->List CR
 |0=>[]
 |i+1=>if (p.pk.getD i zuW).base=true then zz9 p b o t i++(zlS p b o t i).flatMap (zw4 p b o t i) else zz9 p b o t i
theorem zfP{α β:Type}{f g:α->List β}: ∀{l:List α},(∀a∈l,f a=g a)->l.flatMap f=l.flatMap g
 | [],_=>rfl
 |a::l,h=>by rw[Yp,Yp,h a (Qe ..),zfP fun b hb=>h b (Qf _ hb)]
section
variable{p:Pg}(hp:p.ok)(hle:p.sm){x y z:Dt}(hX:DatX p x)(hY:DatX p y)(hZ:DatX p z)
include hp hle hX hY hZ
theorem zs4{d:Dt}(hD:DatX p d){i:Nat}(hi:i<p.pk.length)(hb:p.pk[i].base=true){key:List Vl}(hv: ∀v∈key,VIn v){m:Nat}(hm:m<64):zx0 p d i key m=ztF p d i key m:=have _:=hX;have _:=hY;have _:=hZ;zv3 hp hle hD hi hb hv hm
theorem zwS:jI p (zwO p x y z) (zlS p x y z) p.pk.length (zq4 p)=zhB p x y z (zlS p x y z):=by
 unfold zhB;refine zsZ _ fun i hi hb key hk m hm=> ?_;have hb':p.pk[i].base=true:=Qh6;have hv:=zjS hp hle hX hY hZ hi hb' hk;unfold zwO;rw[zs4 hp hle hX hY hZ hX hi hb' hv hm,zs4 hp hle hX hY hZ hY hi hb' hv hm,zs4 hp hle hX hY hZ hZ hi hb' hv hm]
theorem zuP: ∀n,n<=p.pk.length->zm7 p x y z n=zz9 p x y z n
 |0,_=>rfl
 | n+1,hn=>by
  have ih:=zuP n Qf3;have hi:n<p.pk.length:=Qf3;rcases Zp (p.pk.getD n zuW).base with hb|hb
  ·have hb':p.pk[n].base=true:=Qh6;rw[zxE hb,ih];show _=if (p.pk.getD n zuW).base=true then _ else _
   rw[Qj hb];congr 1;refine zfP fun key hk=> ?_;have hv:=zjS hp hle hX hY hZ hi hb' hk;unfold qZ zw4;rw[zsT 64 fun m hm=>⟨zs4 hp hle hX hY hZ hX hi hb' hv hm,zs4 hp hle hX hY hZ hY hi hb' hv hm,zs4 hp hle hX hY hZ hZ hi hb' hv hm⟩]
  ·rw[zxF hb,ih];show _=if (p.pk.getD n zuW).base=true then _ else _
   rw[Qi (by rw[hb];decide)]
theorem zvJ{i:Nat}(hi:i<p.pk.length)(hb:p.pk[i].base=true)(key:List Vl):key∈zlS p x y z i↔key∈zaH p x i\/key∈zaH p y i\/key∈zaH p z i:=by
 unfold zlS zy3;rw[iY,Qo,Qo,zsM hp hle hX hi hb,zsM hp hle hY hi hb,zsM hp hle hZ hi hb]
end
theorem Three_x(p:Pg)(hp:p.ok)(hle:p.sm)(x y z:Dt)(hx:x.sz)(hy:y.sz)(hz:z.sz)(hX:DatX p x)(hY:DatX p y)(hZ:DatX p z)(hpn:p.pk.length<=100)(hky: ∀i,(zy3 p x y z i).length<=100000):
  EPure prog G0 11 [.agg p.c,.agg x.c,.agg y.c,.agg z.c] fun v=>v= .tup [.agg (zhB p x y z (zlS p x y z)).c,cfs (zz9 p x y z p.pk.length)]:=by
 have:=Three_e p hp hle x y z hx hy hz hX hY hZ hpn hky;rw[zwS hp hle hX hY hZ,zuP hp hle hX hY hZ _ (Xe _)] at this;exact this
end Go.AL
namespace Go.AL
open Go.Proofs Go.Proofs.Tryz
theorem zzY(T:List Ln)(c:Tld):(zxH T c).length<=T.length+1:=by
 unfold zxH zk4 zk7;rw[Qs];split
 ·omega
 ·rw[Ql];simp
theorem zu0: ∀(L:List Tld)(T:List Ln),(L.foldl zxH T).length<=T.length+L.length
 | [],T=>by simp
 |c::L,T=>by
  have h1:=zu0 L (zxH T c);have h2:=zzY T c;rw[Yw,Qn];omega
theorem zvK{α β:Type}{f:α->List β}{k:Nat}: ∀{l:List α},(∀a∈l,(f a).length<=k)->(l.flatMap f).length<=k*l.length
 | [],_=>by simp
 |a::l,h=>by
  have h1:=zvK (l:=l) fun b hb=>h b (Qf _ hb);have h2:=h a (Qe ..);rw[Yp,Ql,Qn,Nat.mul_succ];omega
theorem zsN(p:Pg){d:Dt}(h:d.few14)(i:Nat):(kH p d i).length<=192:=by
 unfold kH;refine Ya (zu0 _ _) ?_;rw[Ql];have hr:(d.pg.getD i []).length<=12/\ ∀x∈d.pg.getD i [],zx1 x:=by
  rcases Xy i d.pg.length with hi|hi
  ·rw[eD hi];exact h.r _ (Qc hi)
  ·rw[Qb,Ye hi];simp
 have hl:(d.pQ.getD i []).length<=12/\ ∀x∈d.pQ.getD i [],tC x:=by
  rcases Xy i d.pQ.length with hi|hi
  ·rw[eD hi];exact h.l _ (Qc hi)
  ·rw[Qb,Ye hi];simp
 have h1:(zqP (p.pk.getD i zuW).key.toNat i (d.pg.getD i [])).length<=8*(d.pg.getD i []).length:=zvK fun x hx=>by rw[Qs];exact(hr.2 x hx).2
 have h2:(zsI (p.pk.getD i zuW).key.toNat i (d.pQ.getD i [])).length<=8*(d.pQ.getD i []).length:=zvK fun x hx=>by rw[Qs];exact(hl.2 x hx).2
 have:=hr.1;have:=hl.1;simp only[Xv];omega
theorem zxP(p:Pg){x y z:Dt}(hx:x.few14)(hy:y.few14)(hz:z.few14)(i:Nat):(zy3 p x y z i).length<=100000:=by
 unfold zy3;have h1:=zsN p hx i;have h2:=zsN p hy i;have h3:=zsN p hz i;rw[Ql,Ql,Qs,Qs,Qs];omega
abbrev Pg.few7(p:Pg):Prop:=(∀x∈p.pQ,x.pw.length<=10/\x.pJ.length<=80)/\p.pk.length<=26
theorem zyX(p:Pg)(hp:p.ok)(x y z:Dt)(hx:x.raw)(hy:y.raw)(hz:z.raw):EB 10 [.agg p.c,.agg x.c,.agg y.c,.agg z.c] fun b=>b=true->p.few7/\x.few14/\y.few14/\z.few14:=by
 refine ECall.cut (R:=fun v _=> ∃b:Bool,v=bo b/\(b=true->p.few7/\x.few14/\y.few14/\z.few14)) (pv func10 23 false Qf6 rfl rfl ?_) Qhf;refine g2 ?_;refine ge ?_;(refine g1 ?_;refine zC ((zjP p hp).call zK Qfe _) ?_;intro p2 h2 hr2;refine g2 ?_);obtain⟨⟨b,rfl,h0⟩,rfl⟩:=hr2;cases b with
 |false=>
  exact Qf2
 | true=>
  refine ge ?_;(refine g1 ?_;refine zC ((zpY x hx).call zK Qfe _) ?_;intro p2 h2 hr2;refine g2 ?_);obtain⟨⟨b,rfl,h1⟩,rfl⟩:=hr2;cases b with
  |false=>
   exact Qf2
  | true=>
   refine ge ?_;(refine g1 ?_;refine zC ((zpY y hy).call zK Qfe _) ?_;intro p2 h2 hr2;refine g2 ?_);obtain⟨⟨b,rfl,h2⟩,rfl⟩:=hr2;cases b with
   |false=>
    exact Qf2
   |true=>
    refine ge ?_;(refine g1 ?_;refine zC ((zpY z hz).call zK Qfe _) ?_;intro p2 h2 hr2;refine g2 ?_);obtain⟨⟨b,rfl,h3⟩,rfl⟩:=hr2;refine ge ?_;exact⟨b,rfl,fun hb=>⟨h0 rfl,h1 rfl,h2 rfl,h3 hb⟩⟩
theorem zwR(p:Pg)(hp:p.ok)(x y z:Dt)(hx:x.raw)(hy:y.raw)(hz:z.raw):EB 15 [.agg p.c,.agg x.c,.agg y.c,.agg z.c] fun b=>b=true->p.few7/\(x.few14/\y.few14/\z.few14)/\DatX p x/\DatX p y/\DatX p z:=by
 refine ECall.cut (R:=fun v _=> ∃b:Bool,v=bo b/\(b=true->p.few7/\(x.few14/\y.few14/\z.few14)/\DatX p x/\DatX p y/\DatX p z)) (pv func15 29 false Qf6 rfl rfl ?_) Qhf;refine g2 ?_;refine ge ?_;(refine g1 ?_;refine zC ((zyX p hp x y z hx hy hz).call zK Qfe _) ?_;intro p2 h2 hr2;refine g2 ?_);obtain⟨⟨b,rfl,h0⟩,rfl⟩:=hr2;cases b with
 |false=>
  exact Qf2
 | true=>
  obtain⟨f7,k1,k2,k3⟩:=h0 rfl;have hle:p.sm:=fun a ha=>by have:=f7.1 a ha;omega
  refine ge ?_;(refine g1 ?_;refine zC ((zeD p hp hle x (hx.sz14 k1)).call zK Qfe _) ?_;intro p2 h2 hr2;refine g2 ?_);obtain⟨rfl,rfl⟩:=hr2;by_cases hX:DatX p x
  case neg=>
   rw[uA hX];exact Qf2
  rw[pO hX];refine ge ?_;(refine g1 ?_;refine zC ((zeD p hp hle y (hy.sz14 k2)).call zK Qfe _) ?_;intro p2 h2 hr2;refine g2 ?_);obtain⟨rfl,rfl⟩:=hr2;by_cases hY:DatX p y
  case neg=>
   rw[uA hY];exact Qf2
  rw[pO hY];refine ge ?_;(refine g1 ?_;refine zC ((zeD p hp hle z (hz.sz14 k3)).call zK Qfe _) ?_;intro p2 h2 hr2;refine g2 ?_);obtain⟨rfl,rfl⟩:=hr2;refine ge ?_;exact⟨_,rfl,fun hb=>⟨f7,⟨k1,k2,k3⟩,hX,hY,zoX.1 hb⟩⟩
section
variable{p:Pg}(hp:p.ok)(hle:p.sm)
theorem zxJ{d:Dt}(hX:DatX p d){i:Nat}(h: ¬((p.pk.getD i zuW).base=true/\i<p.pk.length)):d.pg.getD i []=[]/\d.pQ.getD i []=[]:=by
 rcases Xy i p.pk.length with hi|hi
 ·have hb:p.pk[i].base=false:=by
   rw[eD hi] at h;cases hh:p.pk[i].base with
   |false=>rfl
   |true=>exact absurd ⟨hh,hi⟩ h
  have hir:i<d.pg.length:=Qgo;have hil:i<d.pQ.length:=Qgp;obtain⟨x1, -, -⟩:=hX.at' i hi hir hil;rw[eD hir,eD hil];exact x1 hb
 ·exact⟨by rw[Qb,Ye Qgo];rfl,by rw[Qb,Ye Qgp];rfl⟩
theorem zv9{d:Dt}(hX:DatX p d){i:Nat}{key:List Vl}(h:key∈zaH p d i):(p.pk.getD i zuW).base=true/\i<p.pk.length:=by
 by_cases w:(p.pk.getD i zuW).base=true/\i<p.pk.length
 ·exact w
 ·obtain⟨h1,h2⟩:=zxJ hX w;unfold zaH at h;rw[h1,h2] at h;simp at h
theorem ztW{d:Dt}(hX:DatX p d){i:Nat}{key:List Vl}(h:key∈(kH p d i).map (·.1)):(p.pk.getD i zuW).base=true/\i<p.pk.length:=by
 by_cases w:(p.pk.getD i zuW).base=true/\i<p.pk.length
 ·exact w
 ·obtain⟨h1,h2⟩:=zxJ hX w;unfold kH at h;rw[h1,h2] at h;simp[zqP,zsI] at h
include hp hle
theorem ya6{x y z:Dt}(hX:DatX p x)(hY:DatX p y)(hZ:DatX p z){i:Nat}{key:List Vl}(h:key∈zlS p x y z i):(p.pk.getD i zuW).base=true/\i<p.pk.length:=by
 have _:=hp;have _:=hle;unfold zlS zy3 at h;rw[iY,Qo,Qo] at h;rcases h with h|h|h
 ·exact ztW hX h
 ·exact ztW hY h
 ·exact ztW hZ h
theorem ksT_v{x y z:Dt}(hX:DatX p x)(hY:DatX p y)(hZ:DatX p z)(i:Nat)(key:List Vl)(h:key∈zlS p x y z i): ∀v∈key,VIn v:=by
 obtain⟨hb,hi⟩:=ya6 hp hle hX hY hZ h;exact zjS hp hle hX hY hZ hi Qh6 h
theorem zvZ{b o t Z:Dt}(hB:DatX p b)(hO:DatX p o)(hT:DatX p t)(hZ:DatX p Z)(h: ∀(j:Nat)(key:List Vl)(m:Nat),m<64->(∀v∈key,VIn v)->ztF p Z j key m=lL (ztF p b j key m) (ztF p o j key m) (ztF p t j key m)):zhB p b o t (zlS p b o t)=Z:=
 zx8 hp hle (zxU hp hle hB.tv) hO hT hZ (ksT_v hp hle hB hO hT)
  (fun i key hk=>by
   obtain⟨hb,hi⟩:=zv9 hO hk;exact(zvJ hp hle hB hO hT hi Qh6 key).2 (.inr (.inl hk)))
  (fun i key hk=>by
   obtain⟨hb,hi⟩:=zv9 hT hk;exact(zvJ hp hle hB hO hT hi Qh6 key).2 (.inr (.inr hk))) h
omit hp hle in
theorem zvQ{b o t:Dt}(h: ∀(i:Nat)(key:List Vl)(m:Nat),m<64-> ¬zt6 (ztF p b i key m) (ztF p o i key m) (ztF p t i key m)): ∀n,zz9 p b o t n=[]
 |0=>rfl
 | n+1=>by
  have e: ∀key,zw4 p b o t n key=[]:=fun key=>by
   unfold zw4;rw[zxW.2 fun m hm=>h n key m hm];rfl
  show(if (p.pk.getD n zuW).base=true then zz9 p b o t n++(zlS p b o t n).flatMap (zw4 p b o t n) else zz9 p b o t n)=[];rw[zvQ h n,zfP (g:=fun _=>[]) fun k _=>e k];simp
end
theorem zsJ(p:Pg)(hp:p.ok)(hle:p.sm)(hpn:p.pk.length<=26)(b o t Z:Dt)(hb:b.sz)(ho:o.sz)(ht:t.sz)(kb:b.few14)(ko:o.few14)(kt:t.few14)(hB:DatX p b)(hO:DatX p o)(hT:DatX p t)(hZ:DatX p Z)
  (h: ∀(j:Nat)(key:List Vl)(m:Nat),ztF p Z j key m=lL (ztF p b j key m) (ztF p o j key m) (ztF p t j key m)) (hc: ∀(i:Nat)(key:List Vl)(m:Nat), ¬zt6 (ztF p b i key m) (ztF p o i key m) (ztF p t i key m)):
  EPure prog G0 11 [.agg p.c,.agg b.c,.agg o.c,.agg t.c] fun v=>v= .tup [.agg Z.c,.ts 12 []]:=by
 have k:=Three_x p hp hle b o t hb ho ht hB hO hT Qf3 (zxP p kb ko kt);rw[zvZ hp hle hB hO hT hZ fun j key m _ _=>h j key m,zvQ fun i key m _=>hc i key m] at k;exact k
theorem zyV(hhead:EPure prog G0 9 [] fun v=>v=bo true)(p:Pg)(hp:p.ok)(x y:Dt)(hx:x.raw)(hy:y.raw):
  EPure prog G0 4 [.agg p.c,.agg x.c,.agg y.c] fun v=>v=bo true:=by
 refine ECall.cut (R:=fun v _=>v=bo true) (pv func4 73 false Qf6 rfl rfl ?_) Qgl;refine g2 ?_;refine ge ?_;(refine g1 ?_;refine zC (hhead.call zK Qf4 _) ?_;intro p2 h2 hr2;refine g2 ?_);obtain⟨rfl,rfl⟩:=hr2;refine ge ?_;(refine g1 ?_;refine zC ((zwR p hp x y y hx hy hy).call zK Qfe _) ?_;intro p2 h2 hr2;refine g2 ?_);obtain⟨⟨b,rfl,h0⟩,rfl⟩:=hr2;cases b with
 |false=>
  refine ge ?_;rfl
 |true=>
  obtain⟨f7,⟨k1,k2, -⟩,hX,hY, -⟩:=h0 rfl;have hle:p.sm:=fun a ha=>by have:=f7.1 a ha;omega
  have sx:=hx.sz14 k1;have sy:=hy.sz14 k2;have c1:=zsJ p hp hle f7.2 x x y y sx sx sy k1 k1 k2 hX hX hY hY (fun j key m=>(ztQ _ _).symm) (fun i key m w=>w.2.1 rfl);have c2:=zsJ p hp hle f7.2 x y x y sx sy sx k1 k2 k1 hX hY hX hY (fun j key m=>(zrO _ _).symm) (fun i key m w=>w.2.2 rfl);have c3:=zsJ p hp hle f7.2 x y y y sx sy sy k1 k2 k2 hX hY hY hY (fun j key m=>(ztR _ _).symm) (fun i key m w=>w.1 rfl);have cs:=zyO y (ye2 sy);refine ge ?_;(refine g1 ?_;refine zC (c1.call zK Qfe _) ?_;intro p2 h2 hr2;refine g2 ?_);obtain⟨rfl,rfl⟩:=hr2;refine ge ?_;(refine g1 ?_;refine zC (c2.call zK Qfe _) ?_;intro p2 h2 hr2;refine g2 ?_);obtain⟨rfl,rfl⟩:=hr2;refine ge ?_;(refine g1 ?_;refine zC (c3.call zK Qfe _) ?_;intro p2 h2 hr2;refine g2 ?_);obtain⟨rfl,rfl⟩:=hr2;have w0:(IntKind.i64.wrap (IntKind.i64.wrap (((0:Nat):Int)+((0:Nat):Int))+((0:Nat):Int))==0)=true:=Qf5;refine gf @w0 ?_;(refine g1f @w0 ?_;refine zC (cs.call zK Qfe _) ?_;intro p2 h2 hr2;refine g2 ?_);obtain⟨rfl,rfl⟩:=hr2;refine gf @w0 ?_;(refine g1f @w0 ?_;refine zC (cs.call zK Qfe _) ?_;intro p2 h2 hr2;refine g2 ?_);obtain⟨rfl,rfl⟩:=hr2;refine gf @w0 ?_;(refine g1f @w0 ?_;refine zC (cs.call zK Qfe _) ?_;intro p2 h2 hr2;refine g2 ?_);obtain⟨rfl,rfl⟩:=hr2;refine gf @w0 ?_;rfl
end Go.AL
