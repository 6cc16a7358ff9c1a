/-
  Part of the walk.
-/
import Derived.Test.YtlcjmejclpilhaaGreatDoorV29
import Derived.Test.YtlcjmejclpilhaaGreatDoorV09
import Derived.Test.YtlcjmejclpilhaaGreatDoorV10
import Derived.Test.YtlcjmejclpilhaaGreatDoorV11
import Derived.Test.YtlcjmejclpilhaaGreatDoorV12
import Derived.Test.YtlcjmejclpilhaaGreatDoorV13
set_option linter.unusedSimpArgs false
set_option linter.unusedVariables false
set_option maxRecDepth 100000
set_option maxHeartbeats 4000000
namespace Go.AL
open Go.Proofs Go.Proofs.Tryz
@[go_sem] def UMx2f11.pl:Nat->DPlan
 |9=>⟨[yB,yB,yA,⟨6,0,[1004,1006,1004,1007]⟩,⟨7,0,[1004]⟩,⟨7,0,[1006]⟩,yA,⟨6,0,[1004,1007]⟩,⟨7,0,[1004]⟩,⟨7,0,[1007]⟩,yA,yC,yA,yA,yA],yG,0⟩
 |13=>⟨[yA,⟨7,0,[1004]⟩,yA,yA,yA,⟨6,0,[1004]⟩,yA,yA,yA,⟨6,0,[1004]⟩,yA,yA,yA,⟨6,0,[1004]⟩,yC,yC,yA],wR,0⟩
 |_=>⟨[],[],0⟩
@[go_sem] def zu6:DPlan:=⟨[yA,⟨7,0,[1004]⟩,yA,yA,yA,⟨6,0,[1004]⟩,yA,yA,yA,⟨6,0,[1004]⟩,yA,yA,yA,⟨6,0,[1004]⟩,yC,yC,yA],wR,0⟩
@[go_sem] def uD:DPlan:=⟨[yB,yB,yA,⟨6,0,[1004,1006,1004,1007]⟩,⟨7,0,[1004]⟩,⟨7,0,[1006]⟩,yA,⟨6,0,[1004,1007]⟩,⟨7,0,[1004]⟩,⟨7,0,[1007]⟩,yA,yC,yA,yA,yA],yG,0⟩
abbrev CR:=Nat×List Vl×Cf
def zt8(x:CR):List PV:=ztE x.1 x.2.1 x.2.2
def CfO(lo:Nat)(l:List CR)(V:PV)(H:Heap):Prop:=(l=[]/\V= .nil)\/ ∃r,lo<=r/\0<l.length/\V= .ms r 0 12 l.length/\H[r]? =some (.var 98 (l.flatMap zt8))
noncomputable def qZ(p:Pg)(b o t:Dt)(i:Nat)(key:List Vl):List CR:=(zuF (zx0 p b i key) (zx0 p o i key) (zx0 p t i key) 64).map fun x=>(i,key,x)
noncomputable def zm7(p:Pg)(b o t:Dt):Nat->List CR
 |0=>[]
 |i+1=>if (p.pk.getD i zuW).base=true then zm7 p b o t i++(zlS p b o t i).flatMap (qZ p b o t i) else zm7 p b o t i
structure TS where
 D:Dt
 V:PV
 H:Heap
def KpC(rq lq:Nat)(h H:Heap):Prop:= ∀(r:Nat)(b:Blk),r≠rq->r≠lq->(∀cs,b≠ .var 98 cs)->h[r]? =some b->H[r]? =some b
theorem KpC.refl(rq lq:Nat)(h:Heap):KpC rq lq h h:=fun _ _ _ _ _ h=>h
theorem KpC.trans{rq lq:Nat}{h H G:Heap}(a:KpC rq lq h H)(b:KpC rq lq H G):KpC rq lq h G:=fun r c h1 h2 h3 hc=>b r c h1 h2 h3 (a r c h1 h2 h3 hc)
theorem KpC.of{rq lq:Nat}{h H:Heap}(a: ∀(r:Nat)(b:Blk),h[r]? =some b->H[r]? =some b):KpC rq lq h H:=fun r b _ _ _=>a r b
theorem CfO.app{lo:Nat}{l:List CR}{V:PV}{H:Heap}(h:CfO lo l V H)(B:Heap):CfO lo l V (H++B):=by
 rcases h with h|⟨r,h1,h2,h3,h4⟩
 ·exact .inl h
 ·exact .inr ⟨r,h1,h2,h3,yJ _ _ _ _ h4⟩
theorem zxF{p:Pg}{x y z:Dt}{i:Nat}(h:(p.pk.getD i zuW).base=false):zm7 p x y z (i+1)=zm7 p x y z i:=by
 show(if (p.pk.getD i zuW).base=true then _ else _)=_;rw[Qi (by rw[h];decide)]
theorem zxE{p:Pg}{x y z:Dt}{i:Nat}(h:(p.pk.getD i zuW).base=true):zm7 p x y z (i+1)=zm7 p x y z i++(zlS p x y z i).flatMap (qZ p x y z i):=by
 show(if (p.pk.getD i zuW).base=true then _ else _)=_;rw[Qj h]
theorem zkX{n0:Nat}{t0:List PV}{k r o:Nat}(hk:1000<=k)(h:t0.getD (k-1000) .un= .ptr r o)(hr:r<n0):nu n0 t0 k=r:=by
 unfold nu;rw[Qi Qf0,h];exact Qj hr
theorem zw9{α β:Type}{f:α->List β}{k:Nat}(h: ∀a,(f a).length<=k): ∀l:List α,(l.flatMap f).length<=k*l.length
 | []=>by simp
 |a::l=>by
  have:=zw9 h l;have:=h a;rw[Yp,Ql,Qn,Nat.mul_succ];omega
theorem zsR(p:Pg)(x y z:Dt)(i:Nat)(key:List Vl):(qZ p x y z i key).length<=64:=by
 unfold qZ;rw[Qr];exact zvP 64
theorem zwI{p:Pg}{x y z:Dt}(hky: ∀i,(zy3 p x y z i).length<=100000): ∀n,(zm7 p x y z n).length<=6400000*n
 |0=>Xe _
 | n+1=>by
  have ih:=zwI hky n;rcases Zp (p.pk.getD n zuW).base with hb|hb
  ·rw[zxE hb,Ql];have h1:=zw9 (f:=qZ p x y z n) (fun a=>zsR p x y z n a) (zlS p x y z n);have h2:(zlS p x y z n).length<=100000:=Ya (zhM _) (hky n);omega
  ·rw[zxF hb];omega
theorem ztK(a:CR):(zt8 a).length=12:=rfl
theorem cfRow(p:Pg)(x y z:Dt)(i:Nat)(key:List Vl):(qZ p x y z i key).flatMap zt8=(zuF (zx0 p x i key) (zx0 p y i key) (zx0 p z i key) 64).flatMap (ztE i key):=by
 unfold qZ;rw[List.flatMap_map];rfl
structure OI(p:Pg)(x y z:Dt)(q rq lq:Nat)(h:Heap)(i:Nat)(s:TS):Prop where
 D:s.D=jI p (zwO p x y z) (zlS p x y z) i (zq4 p)
 dat:DataAt s.D q rq lq s.H
 out:CfO 0 (zm7 p x y z i) s.V s.H
 k:KpC rq lq h s.H
structure KI(p:Pg)(x y z:Dt)(q rq lq:Nat)(h:Heap)(i:Nat)(D:Dt)(ks:List (List Vl))(j:Nat)(s:TS):Prop where
 D:s.D=zcZ p (zwO p x y z i) (ks.take j) D
 dat:DataAt s.D q rq lq s.H
 out:CfO 0 (zm7 p x y z i++(ks.take j).flatMap (qZ p x y z i)) s.V s.H
 k:KpC rq lq h s.H
open UMx2f11 in
theorem Three_n(p:Pg)(hp:p.ok)(hle:p.sm)(x y z:Dt)(hx:x.sz)(hy:y.sz)(hz:z.sz)(hX:DatX p x)(hY:DatX p y)(hZ:DatX p z)(hpn:p.pk.length<=100)(hky: ∀i,(zy3 p x y z i).length<=100000):
  ECall prog G0 11 [.agg p.c,.agg x.c,.agg y.c,.agg z.c] [] fun v h'=> ∃(V:PV)(q1 q2:Nat)(D:Dt),D=jI p (zwO p x y z) (zlS p x y z) p.pk.length (zq4 p)/\v= .tup [.agg [.ms q1 0 1 D.pg.length,.ms q2 0 1 D.pQ.length],V]/\h'[q1]? =some (.var 95 (D.pg.map uN))/\h'[q2]? =some (.var 124 (D.pQ.map vD))/\CfO 0 (zm7 p x y z p.pk.length) V h':=by
 refine pv func11 91 false Qf3 rfl rfl ?_;refine g2 ?_;refine ge ?_;(refine Go.AL.g1 ?_;refine zC ((zeD p hp hle x hx).call zK Qfb _) ?_;intro p2 h2 hr2;refine Go.AL.g2 ?_);obtain ⟨rfl,rfl⟩:=hr2;rw[pO hX];refine ge ?_;(refine Go.AL.g1 ?_;refine zC ((zeD p hp hle y hy).call zK Qfb _) ?_;intro p2 h2 hr2;refine Go.AL.g2 ?_);obtain ⟨rfl,rfl⟩:=hr2;rw[pO hY];refine ge ?_;(refine Go.AL.g1 ?_;refine zC ((zeD p hp hle z hz).call zK Qfb _) ?_;intro p2 h2 hr2;refine Go.AL.g2 ?_);obtain ⟨rfl,rfl⟩:=hr2;rw[pO hZ];refine ge ?_;(refine Go.AL.g1 ?_;refine zC (zz2 p Qf0 _) ?_;intro p2 h2 hr2;refine Go.AL.g2 ?_);obtain ⟨rq,lq,rfl,g1,g2,g3,g4,g5⟩:=hr2;have hne:rq≠lq:=fun w=>by subst w;rw[g3] at g4;simp at g4
 have e0:=g5 0 _ rfl;have e1:=g5 1 _ rfl;have e2:=g5 2 _ rfl;have e3:=g5 3 _ rfl;have e4:=g5 4 _ rfl;clear g5;have g1:5<=rq:=g1;have g2:5<=lq:=g2;have k0: ∀l:List Blk,(h2++l)[h2.length]? =l[0]? :=fun l=>rU h2 l;have s0: ∀(l:List Blk)(b:Blk),(h2++l).set h2.length b=h2++l.set 0 b:=fun l b=>qK h2 l b;have j0: ∀l:List Blk,(h2++l)[0]? =some (Blk.var 27 p.c):=fun l=>yJ _ _ _ _ e0;refine gf (a3 @k0 @s0 @j0) ?_;obtain⟨q,hq⟩: ∃q,q=h2.length:=⟨_,rfl⟩
 have hqr:rq<q:=by rw[hq];exact(gsi g3).1
 have hql:lq<q:=by rw[hq];exact(gsi g4).1
 obtain⟨h,hh⟩: ∃h,h=h2++[Blk.var 31 [.ms rq 0 1 (zq4 p).pg.length,.ms lq 0 1 (zq4 p).pQ.length]]:=⟨_,rfl⟩
 rw[<-hh,<-hq];have hD0:DataAt (zq4 p) q rq lq h:=⟨by rw[hh,hq,k0];rfl,by rw[hh];exact yJ _ _ _ _ g3,by rw[hh];exact yJ _ _ _ _ g4⟩
 have f0:h[0]? =some (Blk.var 27 p.c):=by rw[hh];exact yJ _ _ _ _ e0
 have f1:h[1]? =some (Blk.var 31 x.c):=by rw[hh];exact yJ _ _ _ _ e1
 have f2:h[2]? =some (Blk.var 31 y.c):=by rw[hh];exact yJ _ _ _ _ e2
 have f3:h[3]? =some (Blk.var 31 z.c):=by rw[hh];exact yJ _ _ _ _ e3
 have f4:h[4]? =some (Blk.var 31 [.nil,.nil]):=by rw[hh];exact yJ _ _ _ _ e4
 refine zW (K9 (.k:: .k:: .v::D4 (.d:: .k:: .d::K9 (K9 (K4 (.v::D9 (D9 (D9 (D9 (D9 (.d:: .d:: .k:: .k::[]))))))))))) (own:=true) (fun s:Nat×TS=>[s.2.V,i64 s.1]) (fun s=>s.2.H) (fun s=>s.1<=p.pk.length/\OI p x y z q rq lq h s.1 s.2) (fun s=>p.pk.length-s.1) (0,⟨zq4 p,.nil,h⟩) rfl rfl ⟨Qf0,rfl,hD0,.inl ⟨rfl,rfl⟩,KpC.refl _ _ _⟩ ?_;rintro⟨i,⟨D,V,H⟩⟩ ⟨hi,hI⟩ t ht;dsimp only at hi hI;simp only[zY] at ht;subst ht;have hD1:=hI.D;have hdat:=hI.dat;have hout:=hI.out;have hk:=hI.k;dsimp only at hD1 hdat hout hk;have c0:=hk 0 _ Qf0 Qf0 Qf1 f0;have c1:=hk 1 _ Qf0 Qf0 Qf1 f1;have c2:=hk 2 _ Qf0 Qf0 Qf1 f2;have c3:=hk 3 _ Qf0 Qf0 Qf1 f3;have c4:=hk 4 _ Qf0 Qf0 Qf1 f4;by_cases hin:i<p.pk.length
 case neg=>
  obtain rfl:i=p.pk.length:=Qf0;have hd:(((p.pk.length:Nat):Int)<(p.pk.length:Int))=False:=Qf1;have dt:=hdat.t;have r4: ∀B:Blk,(H.set 4 B)[4]? =some B:=fun B=>Qh (gsi c4).1;refine gf (a3 @hd @c4 @dt) ?_;have er:Tryz.f11.results.toList=[.cell 8 31,.tmp 9]:=Qf3;simp only[AEnd,er,go_sem,r4];rw[<-hD1];refine⟨V,rq,lq,rfl,by rw[Qd Qf0];exact hdat.r,by rw[Qd Qf0];exact hdat.l,?_⟩;rcases hout with w|⟨r,w1,w2,w3,w4⟩
  ·exact .inl w
  ·exact .inr ⟨r,w1,w2,w3,by rw[Qd (fun w=>by subst w;rw[c4] at w4;cases w4)];exact w4⟩
 case pos=>
  have hd:((i:Int)<(p.pk.length:Int))=True:=Yk Qf0;have hxp:=zG (f:=Pd.c) [] hin;have k1: ∀l:List Blk,(H++l)[H.length]? =l[0]? :=fun l=>rU H l;have s1: ∀(l:List Blk)(b:Blk),(H++l).set H.length b=H++l.set 0 b:=fun l b=>qK H l b;rcases Zp p.pk[i].base with hbs|hbs
  case inr=>
   have jY:IntKind.i64.wrap ((i:Int)+1)=((i+1:Nat):Int):=Qh8;refine gf (a8 @hd @zB @hin @hxp @k1 @s1 @hbs @jY) ?_;have hgb:(p.pk.getD i zuW).base=false:=by rw[eD hin];exact hbs
   exact⟨(i+1,⟨D,V,_⟩),⟨by dsimp only;omega,⟨by dsimp only;rw[hD1,zsG hgb],hdat.app _,(zxF hgb).symm▸hout.app _,hk.trans (KpC.of fun r b hb=>yJ _ _ _ _ hb)⟩⟩,by dsimp only;omega,by(simp only[zY,xJ,Xs];try rfl),rfl,rfl⟩
  case inl=>
   obtain⟨pc,hpc⟩: ∃pc,pc=p.pk[i].c:=⟨_,rfl⟩
   rw[<-hpc] at hxp;have hpl:pc.length=7:=by rw[hpc];rfl
   have hpt:pc.take 7=pc:=by rw[hpc];rfl
   have hp4:(pc.drop 4).getD 0 .un=bo true:=by rw[hpc];show bo p.pk[i].base=_;rw[hbs]
   obtain⟨Hp,hHp⟩: ∃Hp,Hp=H++[Blk.var 73 pc]:=⟨_,rfl⟩
   have l1:H.length<Hp.length:=by rw[hHp];simp
   have d0:Hp[0]? =some (Blk.var 27 p.c):=by rw[hHp];exact yJ _ _ _ _ c0
   have d1:Hp[1]? =some (Blk.var 31 x.c):=by rw[hHp];exact yJ _ _ _ _ c1
   have d2:Hp[2]? =some (Blk.var 31 y.c):=by rw[hHp];exact yJ _ _ _ _ c2
   have d3:Hp[3]? =some (Blk.var 31 z.c):=by rw[hHp];exact yJ _ _ _ _ c3
   have hdat1:DataAt D q rq lq Hp:=by rw[hHp];exact hdat.app _
   have hout1:CfO 0 (zm7 p x y z i) V Hp:=by rw[hHp];exact hout.app _
   have hk1:KpC rq lq h Hp:=by rw[hHp];exact hk.trans (KpC.of fun r b hb=>yJ _ _ _ _ hb)
   have q2:2<Hp.length:=(gsi d2).1;have q3:3<Hp.length:=(gsi d3).1;(repeat(first|refine gz ?_|(refine gn ?_;intro zs zh;(try simp only[go_sem,hd,zB,hin,hxp,k1,s1,hpl,hpt,hp4] at zh);subst zh;refine gv ?_)|refine zQ zu6 _ 13 Qf3 ?_));rw[<-hHp];refine gf (a4 @d0 @d1 @d2 @d3) ?_;(refine yf1 (a4 @d0 @d1 @d2 @d3) ?_;refine xR rfl rfl (zvE p hp hle x hx hX i hin hbs _) (by
    rintro _ _ ⟨m,es, -, -, -, -, -,kk⟩ k hk _;have hk:k∈[1004,1006,1004,1007]:=hk;simp only[Qw,Zn,Kb] at hk;exact hk.elim (fun w=>by subst w;rw[zkX Qf2 rfl Qf0,kk 0 _ d0,d0]) fun hk=>hk.elim (fun w=>by subst w;rw[zkX Qf2 rfl q2,kk 2 _ d2,d2]) fun hk=>hk.elim (fun w=>by subst w;rw[zkX Qf2 rfl Qf0,kk 0 _ d0,d0]) fun w=>by subst w;rw[zkX Qf2 rfl q3,kk 3 _ d3,d3]) ?_;intro p2 h2 hr2;refine Go.AL.g2 ?_)
   obtain⟨m1,es1,rfl,u1,u2,u3,u4,u5⟩:=hr2;rename Heap=>H1;have v0:=u5 0 _ d0;have v2:=u5 2 _ d2;have v3:=u5 3 _ d3;have y0:(0<Hp.length)=True:=Yk Qf0;have y2:(2<Hp.length)=True:=Yk (gsi d2).1;have y3:(3<Hp.length)=True:=Yk (gsi d3).1;have mI: ∀(f:Nat->Blk->Blk)(K:Heap)(r:Nat),(K.mapIdx f)[r]? =(K[r]?).map (f r):=fun f K r=>Zl;have F1:=(a3 @y0 @y3 @mI)
   refine gf (a5 F1 @v0 @v2 @v3 @y2) ?_;(refine yf1 (a5 F1 @v0 @v2 @v3 @y2) ?_;refine xR rfl rfl (zvE p hp hle y hy hY i hin hbs _) (by
    rintro _ _ ⟨m,es, -, -, -, -, -,kk⟩ k hk _;have hk:k∈[1004,1007]:=hk;simp only[Qw,Zn,Kb] at hk;exact hk.elim (fun w=>by subst w;rw[zkX Qf2 rfl Qf0,kk 0 _ v0,v0]) fun w=>by subst w;rw[zkX Qf2 rfl q3,kk 3 _ v3,v3]) ?_;intro p2 h2 hr2;refine Go.AL.g2 ?_)
   obtain⟨m2,es2,rfl,w1,w2,w3,w4,w5⟩:=hr2;rename Heap=>H2;have x0:=w5 0 _ v0;have x3:=w5 3 _ v3;refine gf (a3 F1 @x0 @x3) ?_;(refine yf1 (a3 F1 @x0 @x3) ?_;refine zP Qf2 Qf2 (zvE p hp hle z hz hZ i hin hbs _) ?_;intro p2 h2 hr2;refine Go.AL.g2 ?_);obtain ⟨m3,es3,rfl,t1,t2,t3,t4,t5⟩:=hr2;rename Heap=>H3;have hbs':p.pk[i].base=true:=hbs;have hE:=zxU hp hle hX.tv;have kx: ∀(r:Nat)(b:Blk),Hp[r]? =some b->H3[r]? =some b:=fun r b hb=>t5 r b (w5 r b (u5 r b hb));have L1:Lns i m1 es1 H3:=u2.keep (t5 _ _ (w5 _ _ u2.a)) fun e _ b hb=>t5 _ _ (w5 _ _ hb);have L2:Lns i m2 es2 H3:=w2.keep (t5 _ _ w2.a) fun e _ b hb=>t5 _ _ hb;have hms:N.keysM [(m1,es1),(m2,es2),(m3,es3)]=zy3 p x y z i:=by
    unfold zy3;rw[<-u1,<-w1,<-t1];simp[N.keysM,Zg,Function.comp_def]
   have hkx:=ya7 [(m1,es1),(m2,es2),(m3,es3)] H3 (fun a ha=>by
    simp only[Qw,Zn,Kb] at ha;rcases ha with rfl|rfl|rfl
    ·exact .of L1
    ·exact .of L2
    ·exact .of t2) (by rw[hms];exact hky i) Qf1
   rw[hms] at hkx;have hnk:(zlS p x y z i).length<=100000:=Ya (zhM _) (hky i);have hdat3:DataAt D q rq lq H3:=⟨kx _ _ hdat1.t,kx _ _ hdat1.r,kx _ _ hdat1.l⟩
   have hout3:CfO 0 (zm7 p x y z i) V H3:=by
    rcases hout1 with a|⟨r,a1',a2',a3',a4'⟩
    ·exact .inl a
    ·exact .inr ⟨r,a1',a2',a3',kx _ _ a4'⟩
   have hk3:KpC rq lq h H3:=hk1.trans (KpC.of kx);obtain⟨ks,hks⟩: ∃ks,ks=zlS p x y z i:=⟨_,rfl⟩
   have hkx:ECall prog G0 50 [.tc 1 [[.mp m1],[.mp m2],[.mp m3]]] H3 fun v h'=>v= .ts 1 (ks.map fun k=>[pH k])/\h'=H3:=by rw[hks];exact hkx
   rw[<-hks] at hnk;refine ge ?_;(refine Go.AL.g1 ?_;refine zC (hkx) ?_;intro p2 h2 hr2;refine Go.AL.g2 ?_);obtain ⟨rfl,rfl⟩:=hr2;rename Heap=>H3;refine ge ?_;refine zW (K9 (.k:: .k:: .v::K4 (.k:: .k:: .d::K9 (K9 (K9 (K9 (K9 (.k:: .k:: .k:: .v::D9 (D9 (.d:: .d:: .k:: .k:: .k::[])))))))))) (own:=true) (fun s:Nat×TS=>[s.2.V,i64 s.1]) (fun s=>s.2.H) (fun s=>s.1<=ks.length/\KI p x y z q rq lq H3 i D ks s.1 s.2) (fun s=>ks.length-s.1) (0,⟨D,V,H3⟩) rfl rfl ⟨Qf0,rfl,hdat3,by simpa using hout3,KpC.refl _ _ _⟩ ?_;rintro⟨j,⟨DD,VV,HH⟩⟩ ⟨hj,hJ⟩ t ht;dsimp only at hj hJ;simp only[zY] at ht;subst ht;have zD:=hJ.D;have zdat:=hJ.dat;have zout:=hJ.out;have zk:=hJ.k;dsimp only at zD zdat zout zk;have hgb:(p.pk.getD i zuW).base=true:=by rw[eD hin];exact hbs
   by_cases hjn:j<ks.length
   case neg=>
    obtain rfl:j=ks.length:=Qf0;have hdj:(((ks.length:Nat):Int)<(ks.length:Int))=False:=Qf1;have jY:IntKind.i64.wrap ((i:Int)+1)=((i+1:Nat):Int):=Qh8;rw[Yt] at zD zout;refine gf (a3 @hdj @zB @jY) ?_;exact⟨(i+1,⟨DD,VV,HH⟩),⟨by dsimp only;omega,⟨by dsimp only;rw[zsF hgb,<-hD1,<-hks];exact zD,zdat,by rw[zxE hgb,<-hks];exact zout,hk3.trans zk⟩⟩,by dsimp only;omega,by(simp only[zY,xJ,Xs];try rfl),rfl,rfl⟩
   case pos=>
    have hdj:((j:Int)<(ks.length:Int))=True:=Yk Qf0;have hxk:=zG (f:=fun k:List Vl=>[pH k]) [] hjn;obtain⟨key,hkey⟩: ∃key,key=ks[j]:=⟨_,rfl⟩
    rw[<-hkey] at hxk;have b0:HH[0]? =some (Blk.var 27 p.c):=zk 0 _ Qf0 Qf0 Qf1 (kx _ _ d0);have y0:(0<HH.length)=True:=Yk (gsi b0).1;have F:=(a2 @y0 @mI)
    have hzm: ∀(r:Nat)(b:Blk),H3[r]? =some b->(∀cs,b≠ .var 95 cs)->(∀cs,b≠ .var 124 cs)->(∀cs,b≠ .var 98 cs)->HH[r]? =some b:=fun r b hb n1 n2 n3=>by
     have:=hdat3.off hb n1 n2;exact zk r b this.1 this.2 n3 hb
    have mvL: ∀{m:Nat}{es:List LnE},Lns i m es H3->Lns i m es HH:=fun hL=>hL.keep (hzm _ _ hL.a Qf1 Qf1 Qf1) fun e he b hb=>by
     have h1:=(hL.l e he).2;rw[h1] at hb;cases hb;exact hzm _ _ h1 Qf1 Qf1 Qf1
    have M1:=mvL L1;have M2:=mvL L2;have M3:=mvL t2;have hjk:j<(zlS p x y z i).length:=by rw[<-hks];exact hjn
    have hkey':key=(zlS p x y z i)[j]:=by rw[hkey];simp only[hks]
    have hkm:key∈zlS p x y z i:=by rw[hkey'];exact Qc _
    have hkK:Key key:=by
     have hm:key∈N.keysM [(m1,es1),(m2,es2),(m3,es3)]:=by rw[hms];unfold zlS at hkm;exact(iY key _).1 hkm
     obtain⟨e',he',hm⟩:=Jg.1 hm;obtain⟨e,he,rfl⟩:=Xf.1 hm;simp only[Qw,Zn,Kb] at he';rcases he' with rfl|rfl|rfl
     ·exact M1.k e he
     ·exact M2.k e he
     ·exact M3.k e he
    obtain⟨iX,iL,iN⟩:=zyU hp hle hE hX hY hZ hky hin hbs hD1 hjk;rw[<-hkey'] at iN;rw[<-hks,<-zD] at iX iL iN;have hkv:=hkK.vk;(repeat(first|refine gz ?_|(refine gn ?_;intro zs zh;(try simp only[go_sem,hdj,zB,hjn,hxk,b0] at zh);subst zh;refine gv ?_)|refine zQ uD _ 9 Qf3 ?_));refine zp6 (own:=true) wN zK ⟨[⟨0,0,[]⟩,⟨7,0,[1004]⟩,⟨0,0,[]⟩,⟨0,0,[]⟩,⟨0,0,[]⟩,⟨6,0,[1004]⟩,⟨0,0,[]⟩,⟨0,0,[]⟩,⟨0,0,[]⟩,⟨6,0,[1004]⟩,⟨0,0,[]⟩,⟨0,0,[]⟩,⟨0,0,[]⟩,⟨6,0,[1004]⟩,⟨4,0,[]⟩,⟨4,0,[]⟩,⟨0,0,[]⟩],[0,1,2,3,4,5,6,7,8,9,10,11,12,13,14,15,16],0⟩ [0,1,2,3,4,5,6,7,8,9,10,11,12,13,14] [15,16] Qf3 rfl ?_;(repeat(first|refine gz ?_|(refine gn ?_;intro zs zh;(try simp only[go_sem,F,b0] at zh);subst zh;refine gv ?_)|refine zQ uD _ 9 Qf3 ?_))
    (refine yf1 (a2 F @b0) ?_;refine xR rfl rfl (zzG i m1 es1 HH M1 key hkK) (by
     rintro _ _ ⟨r,B, -,rfl, -⟩ k hk _;have hk:k∈[1004]:=hk;rw[Qp] at hk;subst hk;rw[zkX Qf2 rfl (of_eq_true y0),yJ _ _ _ _ b0,b0]) ?_;intro p2 h2 hr2;refine Go.AL.g2 ?_)
    rename Heap=>G1;obtain⟨r1,B1,rfl,E1,l1'⟩:=hr2;have b1:G1[0]? =some (Blk.var 27 p.c):=by rw[E1];exact yJ _ _ _ _ b0
    have M2':Lns i m2 es2 G1:=by rw[E1];exact M2.app _
    (repeat(first|refine gz ?_|(refine gn ?_;intro zs zh;(try simp only[go_sem,F,b1] at zh);subst zh;refine gv ?_)|refine zQ uD _ 9 Qf3 ?_))
    (refine yf1 (a2 F @b1) ?_;refine xR rfl rfl (zzG i m2 es2 G1 M2' key hkK) (by
     rintro _ _ ⟨r,B, -,rfl, -⟩ k hk _;have hk:k∈[1004]:=hk;rw[Qp] at hk;subst hk;rw[zkX Qf2 rfl (of_eq_true y0),yJ _ _ _ _ b1,b1]) ?_;intro p2 h2 hr2;refine Go.AL.g2 ?_)
    rename Heap=>G2;obtain⟨r2,B2,rfl,E2,l2'⟩:=hr2;have b2:G2[0]? =some (Blk.var 27 p.c):=by rw[E2];exact yJ _ _ _ _ b1
    have M3':Lns i m3 es3 G2:=by rw[E2,E1];exact(M3.app _).app _
    (repeat(first|refine gz ?_|(refine gn ?_;intro zs zh;(try simp only[go_sem,F,b2] at zh);subst zh;refine gv ?_)|refine zQ uD _ 9 Qf3 ?_))
    (refine yf1 (a2 F @b2) ?_;refine xR rfl rfl (zzG i m3 es3 G2 M3' key hkK) (by
     rintro _ _ ⟨r,B, -,rfl, -⟩ k hk _;have hk:k∈[1004]:=hk;rw[Qp] at hk;subst hk;rw[zkX Qf2 rfl (of_eq_true y0),yJ _ _ _ _ b2,b2]) ?_;intro p2 h2 hr2;refine Go.AL.g2 ?_)
    rename Heap=>G3;obtain⟨r3,B3,rfl,E3,l3'⟩:=hr2;rw[u1] at l1';rw[w1] at l2';rw[t1] at l3';have l1':G3[r1]? =some (.var 205 (zuI i key (iD (kH p x i) key) (iD (kH p x i) key))):=by rw[E3,E2];exact yJ _ _ _ _ (yJ _ _ _ _ l1')
    have l2':G3[r2]? =some (.var 205 (zuI i key (iD (kH p y i) key) (iD (kH p y i) key))):=by rw[E3];exact yJ _ _ _ _ l2'
    have gk: ∀(r:Nat)(b:Blk),HH[r]? =some b->G3[r]? =some b:=fun r b hb=>by rw[E3,E2,E1];exact yJ _ _ _ _ (yJ _ _ _ _ (yJ _ _ _ _ hb))
    have gD:DataAt DD q rq lq G3:=⟨gk _ _ zdat.t,gk _ _ zdat.r,gk _ _ zdat.l⟩
    (repeat(first|refine gz ?_|(refine gn ?_;intro zs zh;(try simp only[go_sem,F] at zh);subst zh;refine gv ?_)|refine zQ uD _ 9 Qf3 ?_));(refine yf1 F ?_;refine zP Qf2 Qf2 (zzT p hp hle (6400000*i+6400000) Qf0 DD iX iL q rq lq G3 gD i key (iD (kH p x i) key) (iD (kH p y i) key) (iD (kH p z i) key) (zsB (ztI p x i) key) (zsB (ztI p y i) key) (zsB (ztI p z i) key) (fun g m hg=>zt3 hp hle hX hin hbs hkv hg) (fun g m hg=>zt3 hp hle hY hin hbs hkv hg) (fun g m hg=>zt3 hp hle hZ hin hbs hkv hg) iN hkv r1 r2 r3 l1' l2' l3') ?_;intro p2 h2 hr2;refine Go.AL.g2 ?_);rename Heap=>G4;obtain⟨o1,o2,o3⟩:=hr2;have jY:IntKind.i64.wrap ((j:Int)+1)=((j+1:Nat):Int):=Qh8;have hzo:((zS prog 98).map fun z=>wI (nI z))=some true:=Qf3;obtain⟨zc,hzc,hzs⟩: ∃zc,zS prog 98=some zc/\wI (nI zc)=true:=by
     exact Qce
    have htp:wD prog 34=some (98,12,176):=Qf3;have htk:ks.take (j+1)=ks.take j++[key]:=by rw[Xh hjn,<-hkey]
    obtain⟨L,hL⟩: ∃L,L=zm7 p x y z i++(ks.take j).flatMap (qZ p x y z i):=⟨_,rfl⟩
    rw[<-hL] at zout;have hLl:L.length<=6400000*101:=by
     have h1:=zwI hky i;have h2:=zw9 (f:=qZ p x y z i) (fun a=>zsR p x y z i a) (ks.take j);have h3:(ks.take j).length<=100000:=Qfq;rw[hL,Ql];omega
    have hLn:zm7 p x y z i++(ks.take (j+1)).flatMap (qZ p x y z i)=L++qZ p x y z i key:=by
     rw[htk,Wx,<-Qv,<-hL];simp
    have fin: ∀(V':PV)(G':Heap),CfO 0 (L++qZ p x y z i key) V' G'->DataAt (iZ p (zwO p x y z i key) 64 DD) q rq lq G'->KpC rq lq G4 G'->KI p x y z q rq lq H3 i D ks (j+1) ⟨iZ p (zwO p x y z i key) 64 DD,V',G'⟩:=fun V' G' a1' a2' a3'=>
     ⟨by dsimp only;rw[htk,ztU,<-zD],a2',by rw[hLn];exact a1',(zk.trans (KpC.of gk)).trans (KpC.trans (fun r b h1 h2 _=>o3 r b h1 h2) a3')⟩
    have o2:DataAt (iZ p (zwO p x y z i key) 64 DD) q rq lq G4:=o2;have ckl:(qZ p x y z i key).length<=64:=zsR p x y z i key;have o1:CfO 0 (qZ p x y z i key) p2 G4:=by
     rcases o1 with ⟨a1',a2'⟩|⟨r,a1',a2',a3',a4'⟩
     ·refine .inl ⟨?_,a2'⟩;show(zuF (zx0 p x i key) (zx0 p y i key) (zx0 p z i key) 64).map _=[];unfold zx0;rw[a1'];rfl
     ·refine .inr ⟨r,Yn _,?_,?_,?_⟩
      ·unfold qZ;rw[Qr];exact a2'
      ·unfold qZ;rw[Qr];exact a3'
      ·rw[cfRow];exact a4'
    have zout4:CfO 0 L VV G4:=by
     rcases zout with a|⟨r,a1',a2',a3',a4'⟩
     ·exact .inl a
     ·have:=zdat.off a4' Qf1 Qf1;exact .inr ⟨r,a1',a2',a3',o3 r _ this.1 this.2 (gk _ _ a4')⟩
    clear zout;(repeat(first|refine gz ?_|(refine gn ?_;intro zs zh;(try simp only[go_sem] at zh);subst zh;refine gv ?_)|refine zQ uD _ 9 Qf3 ?_));show ADe _ _ _ _ _ _ _ _ _ _;rcases zout4 with ⟨eL,rfl⟩|⟨r0, -,hp0,rfl,hb0⟩
    ·rcases o1 with ⟨eC,rfl⟩|⟨rc, -,hpc',rfl,hbc⟩
     ·refine ztB (i:=15) rfl rfl rfl (fun rd=>OpOk.appNN (s:= .tmp 71) (x:= .tmp 85) rfl rfl rfl rfl rfl rfl htp ⟨rfl,rfl⟩) ?_;intro ts2 hts;simp only[go_sem] at hts;subst hts;refine zn8 (own:=false) [16] (ρ2:=[]) ?_;intro ds hds;simp only[Xa,Wj] at hds;subst hds;refine Qam ?_;refine znZ ?_;refine Qal ?_;exact⟨(j+1,⟨_,.nil,G4⟩),⟨by dsimp only;omega,fin _ _ (.inl ⟨by rw[eL,eC];rfl,rfl⟩) o2 (KpC.refl _ _ _)⟩,by dsimp only;omega,by(simp only[zY,xJ,Xs];try rfl),rfl,rfl⟩
     ·have e1':(qZ p x y z i key).flatMap zt8=((qZ p x y z i key).map zt8).flatten:=rfl;have e2':(qZ p x y z i key).length=((qZ p x y z i key).map zt8).length:=by rw[Qr]
      have hl: ∀e∈(qZ p x y z i key).map zt8,e.length=12:=fun e he=>by obtain⟨a, -,rfl⟩:=Xf.1 he;exact ztK a
      have hcf:CfO 0 (L++qZ p x y z i key) (.ms G4.length 0 12 ((qZ p x y z i key).map zt8).length) (G4++[.var 98 ((qZ p x y z i key).map zt8).flatten]):=
       .inr ⟨G4.length,Yn _,by rw[eL];exact hpc',by rw[eL,<-e2'];rfl,by rw[zA,eL];rfl⟩
      obtain⟨l,hl'⟩: ∃l,l=(qZ p x y z i key).map zt8:=⟨_,rfl⟩
      rw[e2'] at hpc' ckl ⊢
      rw[e1'] at hbc;rw[<-hl'] at hl hbc hpc' ckl hcf ⊢
      refine ztB (i:=15) rfl rfl rfl (fun rd=>OpOk.appNM (s:= .tmp 71) (x:= .tmp 85) rfl rfl rfl rfl rfl rfl hbc hl hpc' htp hzc hzs Qf0 Qf0 ⟨rfl,rfl⟩) ?_;intro ts2 hts;simp only[go_sem] at hts;subst hts;refine zn8 (own:=false) [16] (ρ2:=[]) ?_;intro ds hds;simp only[Xa,Wj] at hds;subst hds;refine Qam ?_;refine znZ ?_;refine Qal ?_;exact⟨(j+1,⟨_,.ms G4.length 0 12 l.length,G4++[.var 98 l.flatten]⟩),⟨by dsimp only;omega,fin _ _ (hcf) (o2.app _) (KpC.of fun r b hb=>yJ _ _ _ _ hb)⟩,by dsimp only;omega,by(simp only[zY,xJ,Xs];try rfl),rfl,rfl⟩
    ·have hn0:=o2.off hb0 Qf1 Qf1;have hq0:q≠r0:=fun w=>by subst w;rw[o2.t] at hb0;cases hb0
     rcases o1 with ⟨eC,rfl⟩|⟨rc, -,hpc',rfl,hbc⟩
     ·refine ztB (i:=15) rfl rfl rfl (fun rd=>OpOk.appendMsNil (s:= .tmp 71) (x:= .tmp 85) rfl rfl rfl rfl rfl rfl htp ⟨rfl,rfl⟩) ?_;intro ts2 hts;simp only[go_sem] at hts;subst hts;refine zn8 (own:=false) [16] (ρ2:=[]) ?_;intro ds hds;simp only[Xa,Wj] at hds;subst hds;refine Qam ?_;refine znZ ?_;refine Qal ?_;exact⟨(j+1,⟨_,.ms r0 0 12 L.length,G4⟩),⟨by dsimp only;omega,fin _ _ (.inr ⟨r0,Yn _,by rw[eC,Xz];exact hp0,by rw[eC,Xz],by rw[eC,Xz];exact hb0⟩) o2 (KpC.refl _ _ _)⟩,by dsimp only;omega,by(simp only[zY,xJ,Xs];try rfl),rfl,rfl⟩
     ·have e1':(qZ p x y z i key).flatMap zt8=((qZ p x y z i key).map zt8).flatten:=rfl;have e2':(qZ p x y z i key).length=((qZ p x y z i key).map zt8).length:=by rw[Qr]
      have f1':L.flatMap zt8=(L.map zt8).flatten:=rfl;have f2':L.length=(L.map zt8).length:=by rw[Qr]
      have hl: ∀e∈(qZ p x y z i key).map zt8,e.length=12:=fun e he=>by obtain⟨a, -,rfl⟩:=Xf.1 he;exact ztK a
      have hl0: ∀e∈L.map zt8,e.length=12:=fun e he=>by obtain⟨a, -,rfl⟩:=Xf.1 he;exact ztK a
      have hcf:CfO 0 (L++qZ p x y z i key) (.ms G4.length 0 12 ((L.map zt8).length+((qZ p x y z i key).map zt8).length)) (G4.set r0 .old++[.var 98 ((L.map zt8).flatten++((qZ p x y z i key).map zt8).flatten)]):=
       .inr ⟨G4.length,Yn _,by rw[Ql];omega,by rw[Ql,<-e2',<-f2'],by
        have:=zA (G4.set r0 .old) (.var 98 ((L.map zt8).flatten++((qZ p x y z i key).map zt8).flatten));rw[Xb] at this;rw[this,Wx];rfl⟩
      have hdn:DataAt (iZ p (zwO p x y z i key) 64 DD) q rq lq (G4.set r0 .old):=⟨by rw[Qd hq0.symm];exact o2.t,by rw[Qd hn0.1];exact o2.r,by rw[Qd hn0.2];exact o2.l⟩
      have hkn:KpC rq lq G4 (G4.set r0 .old):=fun r b _ _ h3 hb=>by
       rw[Qd (fun w=>by subst w;rw[hb0] at hb;cases hb;exact h3 _ rfl)];exact hb
      obtain⟨l,hl'⟩: ∃l,l=(qZ p x y z i key).map zt8:=⟨_,rfl⟩
      obtain⟨l0,hl0'⟩: ∃l0,l0=L.map zt8:=⟨_,rfl⟩
      rw[e2'] at hpc' ckl ⊢
      rw[f2'] at hLl ⊢
      rw[e1'] at hbc;rw[f1'] at hb0;rw[<-hl'] at hl hbc hpc' ckl hcf ⊢
      rw[<-hl0'] at hl0 hb0 hLl hcf ⊢
      refine ztB (i:=15) rfl rfl rfl (fun rd=>OpOk.appMM (s:= .tmp 71) (x:= .tmp 85) rfl rfl rfl rfl rfl rfl hb0 hbc hl0 hl hpc' htp hzc hzs Qf0 Qf0 ⟨rfl,rfl⟩) ?_;intro ts2 hts;simp only[go_sem] at hts;subst hts;refine zn8 (own:=false) [16] (ρ2:=[]) ?_;intro ds hds;simp only[Xa,Wj] at hds;subst hds;refine Qam ?_;refine znZ ?_;refine Qal ?_;exact⟨(j+1,⟨_,.ms G4.length 0 12 (l0.length+l.length),G4.set r0 .old++[.var 98 (l0.flatten++l.flatten)]⟩),⟨by dsimp only;omega,fin _ _ (hcf) (hdn.app _) (hkn.trans (KpC.of fun r b hb=>yJ _ _ _ _ hb))⟩,by dsimp only;omega,by(simp only[zY,xJ,Xs];try rfl),rfl,rfl⟩
noncomputable def cfs(l:List CR):PV:= .ts 12 (l.map zt8)
theorem yfP(f:Nat)(o:Option Fa):zU (f+2) (fA o)=true:=by
 cases o with
 |none=>rfl
 |some g=>exact eJ f g.args
theorem zyM(f:Nat)(r:List LRw):zU (f+4) (vD r)=true:=by
 exact Qbt
theorem yaM(f:Nat)(a:CR): ∀p∈zt8 a,zU (f+2) p=true:=fun p hp=>by
 unfold zt8 ztE at hp;simp only[Qw,Zn,Kb] at hp;rcases hp with rfl|rfl|rfl|rfl|rfl|rfl|rfl|rfl|rfl|rfl|rfl|rfl<;>first|rfl|exact eJ f _|exact zlM f _|exact yfP f _
theorem zy8{h:Heap}{f:Nat}{cs:List PV}(hc: ∀p∈cs,zU f p=true):cs.map (fz 0 h f)=cs:=by
 conv=>rhs;rw[<-Kl cs]
 exact Yq fun p hp=>vE 0 h f p (hc p hp)
theorem zzC{α:Type}{h:Heap}{r f:Nat}{t:TypeId}{l:List α}{g:α->PV}(e:h[r]? =some (.var t (l.map g)))(ht: ∀a,zU f (g a)=true):fz 0 h (f+1) (.ms r 0 1 l.length)= .ts 1 (l.map fun a=>[g a]):=by
 rw[fzM f r 0 1 l.length e,zy8 (fun p hp=>by obtain⟨a, -,rfl⟩:=Xf.1 hp;exact ht a),zsY _ _ (by rw[Qr];exact Xe _),Yo (by rw[Qr];exact Xe _),Zg];rfl
theorem Three_e(p:Pg)(hp:p.ok)(hle:p.sm)(x y z:Dt)(hx:x.sz)(hy:y.sz)(hz:z.sz)(hX:DatX p x)(hY:DatX p y)(hZ:DatX p z)(hpn:p.pk.length<=100)(hky: ∀i,(zy3 p x y z i).length<=100000):
  EPure prog G0 11 [.agg p.c,.agg x.c,.agg y.c,.agg z.c] fun v=>v= .tup [.agg (jI p (zwO p x y z) (zlS p x y z) p.pk.length (zq4 p)).c,cfs (zm7 p x y z p.pk.length)]:=by
 refine ECall.cutW (Three_n p hp hle x y z hx hy hz hX hY hZ hpn hky) ?_;rintro v h ⟨V,q1,q2,D,hD,rfl,h1,h2,h3⟩;have t2:zU 39 (cfs (zm7 p x y z p.pk.length))=true:=by
  unfold cfs;refine Qe6 ?_;exact fun a _ q hq=>yaM 36 a q hq
 refine⟨.tup [.agg D.c,cfs (zm7 p x y z p.pk.length)],?_,by rw[hD],yP 40 _ ?_⟩
 ·rw[zlG 39,Xa,Xa,Wj,fzA 38,Xa,Xa,Wj,zzC (f:=37) h1 (rE 33),zzC (f:=37) h2 (zyM 33)];refine PLes.tup (.cons (PLe.refl _) (.cons ?_ .nil));rcases h3 with ⟨e,rfl⟩|⟨r, -,h4,rfl,h5⟩
  ·rw[e,fzN 38];exact PLe.nil_ts 12
  ·rw[fzM 38 r 0 12 _ h5,zy8 (fun q hq=>by obtain⟨a, -,hq⟩:=Jg.1 hq;exact yaM 36 a q hq)];have:=rL 12 ((zm7 p x y z p.pk.length).map zt8) (fun e he=>by obtain⟨a, -,rfl⟩:=Xf.1 he;exact ztK a);rw[Qr] at this;rw[List.flatMap_def,this];exact PLe.refl _
 ·have t1:=eH 33 D;simp only[zU,Wm,Jb,Zw] at t1 t2 ⊢
  simp only[t1,t2,Jl]
theorem zs0{p:Pg}{f g:Nat->Option Fa}: ∀(n:Nat)(X:Dt),(∀m,m<n->f m=g m)->iZ p f n X=iZ p g n X
 |0,_,_=>rfl
 |n+1,X,h=>by
  unfold iZ;rw[zs0 n X fun m hm=>h m Qf0,h n Qf0]
theorem zs2{p:Pg}{F F':List Vl->Nat->Option Fa}: ∀(ks:List (List Vl))(X:Dt),(∀key∈ks, ∀m,m<64->F key m=F' key m)->zcZ p F ks X=zcZ p F' ks X
 | [],_,_=>rfl
 |k::ks,X,h=>by
  unfold zcZ;rw[zs0 64 X fun m hm=>h k (Qe ..) m hm,zs2 ks _ fun key hk=>h key (Qf _ hk)]
theorem zsZ{p:Pg}{F F':Nat->List Vl->Nat->Option Fa}{ks:Nat->List (List Vl)}{X:Dt}: ∀n:Nat,(∀i,i<n->(p.pk.getD i zuW).base=true-> ∀key∈ks i, ∀m,m<64->F i key m=F' i key m)->jI p F ks n X=jI p F' ks n X
 |0,_=>rfl
 |n+1,h=>by
  have ih:=zsZ (p:=p) (X:=X) n fun i hi=>h i Qf0;rcases Zp (p.pk.getD n zuW).base with hb|hb
  ·rw[zsF hb,zsF hb,ih,zs2 _ _ (h n Qf0 hb)]
  ·rw[zsG hb,zsG hb,ih]
theorem zsT{a b c a' b' c':Nat->Option Fa}: ∀n:Nat,(∀m,m<n->a m=a' m/\b m=b' m/\c m=c' m)->zuF a b c n=zuF a' b' c' n
 |0,_=>rfl
 |n+1,h=>by
  obtain⟨h1,h2,h3⟩:=h n Qf0;unfold zuF;rw[h1,h2,h3,zsT n fun m hm=>h m Qf0]
noncomputable def zw4(p:Pg)(b o t:Dt)(i:Nat)(key:List Vl):List CR:=(zuF (fun m=>ztF p b i key m) (fun m=>ztF p o i key m) (fun m=>ztF p t i key m) 64).map fun x=>(i,key,x)
noncomputable def zz9(p:Pg)(b o t:Dt):Nat->List CR
 |0=>[]
 |i+1=>if (p.pk.getD i zuW).base=true then zz9 p b o t i++(zlS p b o t i).flatMap (zw4 p b o t i) else zz9 p b o t i
theorem zfP{α β:Type}{f g:α->List β}: ∀{l:List α},(∀a∈l,f a=g a)->l.flatMap f=l.flatMap g
 | [],_=>rfl
 |a::l,h=>by rw[Yp,Yp,h a (Qe ..),zfP fun b hb=>h b (Qf _ hb)]
section
variable{p:Pg}(hp:p.ok)(hle:p.sm){x y z:Dt}(hX:DatX p x)(hY:DatX p y)(hZ:DatX p z)
include hp hle hX hY hZ
theorem zs4{d:Dt}(hD:DatX p d){i:Nat}(hi:i<p.pk.length)(hb:p.pk[i].base=true){key:List Vl}(hv: ∀v∈key,VIn v){m:Nat}(hm:m<64):zx0 p d i key m=ztF p d i key m:=have _:=hX;have _:=hY;have _:=hZ;zv3 hp hle hD hi hb hv hm
theorem zwS:jI p (zwO p x y z) (zlS p x y z) p.pk.length (zq4 p)=zhB p x y z (zlS p x y z):=by
 unfold zhB;refine zsZ _ fun i hi hb key hk m hm=> ?_;have hb':p.pk[i].base=true:=Qh3;have hv:=zjS hp hle hX hY hZ hi hb' hk;unfold zwO;rw[zs4 hp hle hX hY hZ hX hi hb' hv hm,zs4 hp hle hX hY hZ hY hi hb' hv hm,zs4 hp hle hX hY hZ hZ hi hb' hv hm]
theorem zuP: ∀n,n<=p.pk.length->zm7 p x y z n=zz9 p x y z n
 |0,_=>rfl
 | n+1,hn=>by
  have ih:=zuP n Qf0;have hi:n<p.pk.length:=Qf0;rcases Zp (p.pk.getD n zuW).base with hb|hb
  ·have hb':p.pk[n].base=true:=Qh3;rw[zxE hb,ih];show _=if (p.pk.getD n zuW).base=true then _ else _
   rw[Qj hb];congr 1;refine zfP fun key hk=> ?_;have hv:=zjS hp hle hX hY hZ hi hb' hk;unfold qZ zw4;rw[zsT 64 fun m hm=>⟨zs4 hp hle hX hY hZ hX hi hb' hv hm,zs4 hp hle hX hY hZ hY hi hb' hv hm,zs4 hp hle hX hY hZ hZ hi hb' hv hm⟩]
  ·rw[zxF hb,ih];show _=if (p.pk.getD n zuW).base=true then _ else _
   rw[Qi (by rw[hb];decide)]
theorem zvJ{i:Nat}(hi:i<p.pk.length)(hb:p.pk[i].base=true)(key:List Vl):key∈zlS p x y z i↔key∈zaH p x i\/key∈zaH p y i\/key∈zaH p z i:=by
 unfold zlS zy3;rw[iY,Qo,Qo,zsM hp hle hX hi hb,zsM hp hle hY hi hb,zsM hp hle hZ hi hb]
end
theorem Three_x(p:Pg)(hp:p.ok)(hle:p.sm)(x y z:Dt)(hx:x.sz)(hy:y.sz)(hz:z.sz)(hX:DatX p x)(hY:DatX p y)(hZ:DatX p z)(hpn:p.pk.length<=100)(hky: ∀i,(zy3 p x y z i).length<=100000):
  EPure prog G0 11 [.agg p.c,.agg x.c,.agg y.c,.agg z.c] fun v=>v= .tup [.agg (zhB p x y z (zlS p x y z)).c,cfs (zz9 p x y z p.pk.length)]:=by
 have:=Three_e p hp hle x y z hx hy hz hX hY hZ hpn hky;rw[zwS hp hle hX hY hZ,zuP hp hle hX hY hZ _ (Xe _)] at this;exact this
end Go.AL
namespace Go.AL
open Go.Proofs Go.Proofs.Tryz
theorem zzY(T:List Ln)(c:Tld):(zxH T c).length<=T.length+1:=by
 unfold zxH zk4 zk7;rw[Qr];split
 ·omega
 ·rw[Ql];simp
theorem zu0: ∀(L:List Tld)(T:List Ln),(L.foldl zxH T).length<=T.length+L.length
 | [],T=>by simp
 |c::L,T=>by
  have h1:=zu0 L (zxH T c);have h2:=zzY T c;rw[Yw,Qn];omega
theorem zvK{α β:Type}{f:α->List β}{k:Nat}: ∀{l:List α},(∀a∈l,(f a).length<=k)->(l.flatMap f).length<=k*l.length
 | [],_=>by simp
 |a::l,h=>by
  have h1:=zvK (l:=l) fun b hb=>h b (Qf _ hb);have h2:=h a (Qe ..);rw[Yp,Ql,Qn,Nat.mul_succ];omega
theorem zsN(p:Pg){d:Dt}(h:d.few14)(i:Nat):(kH p d i).length<=192:=by
 unfold kH;refine Ya (zu0 _ _) ?_;rw[Ql];have hr:(d.pg.getD i []).length<=12/\ ∀x∈d.pg.getD i [],zx1 x:=by
  rcases Xy i d.pg.length with hi|hi
  ·rw[eD hi];exact h.r _ (Qc hi)
  ·rw[Qb,Ye hi];simp
 have hl:(d.pQ.getD i []).length<=12/\ ∀x∈d.pQ.getD i [],tC x:=by
  rcases Xy i d.pQ.length with hi|hi
  ·rw[eD hi];exact h.l _ (Qc hi)
  ·rw[Qb,Ye hi];simp
 have h1:(zqP (p.pk.getD i zuW).key.toNat i (d.pg.getD i [])).length<=8*(d.pg.getD i []).length:=zvK fun x hx=>by rw[Qr];exact(hr.2 x hx).2
 have h2:(zsI (p.pk.getD i zuW).key.toNat i (d.pQ.getD i [])).length<=8*(d.pQ.getD i []).length:=zvK fun x hx=>by rw[Qr];exact(hl.2 x hx).2
 have:=hr.1;have:=hl.1;simp only[Xv];omega
theorem zxP(p:Pg){x y z:Dt}(hx:x.few14)(hy:y.few14)(hz:z.few14)(i:Nat):(zy3 p x y z i).length<=100000:=by
 unfold zy3;have h1:=zsN p hx i;have h2:=zsN p hy i;have h3:=zsN p hz i;rw[Ql,Ql,Qr,Qr,Qr];omega
abbrev Pg.few7(p:Pg):Prop:=(∀x∈p.pQ,x.pw.length<=10/\x.pJ.length<=80)/\p.pk.length<=26
theorem zyX(p:Pg)(hp:p.ok)(x y z:Dt)(hx:x.raw)(hy:y.raw)(hz:z.raw):EB 10 [.agg p.c,.agg x.c,.agg y.c,.agg z.c] fun b=>b=true->p.few7/\x.few14/\y.few14/\z.few14:=by
 refine ECall.cut (R:=fun v _=> ∃b:Bool,v=bo b/\(b=true->p.few7/\x.few14/\y.few14/\z.few14)) (pv func10 23 false Qf3 rfl rfl ?_) Qhc;refine g2 ?_;refine ge ?_;(refine g1 ?_;refine zC ((zjP p hp).call zK Qfb _) (yf0 ?_);rintro p2 h2 ⟨⟨b,rfl,h0⟩,rfl⟩);cases b with
 |false=>
  exact Qey
 | true=>
  refine ge ?_;(refine g1 ?_;refine zC ((zpY x hx).call zK Qfb _) (yf0 ?_);rintro p2 h2 ⟨⟨b,rfl,h1⟩,rfl⟩);cases b with
  |false=>
   exact Qey
  | true=>
   refine ge ?_;(refine g1 ?_;refine zC ((zpY y hy).call zK Qfb _) (yf0 ?_);rintro p2 h2 ⟨⟨b,rfl,h2⟩,rfl⟩);cases b with
   |false=>
    exact Qey
   |true=>
    refine ge ?_;(refine g1 ?_;refine zC ((zpY z hz).call zK Qfb _) (yf0 ?_);rintro p2 h2 ⟨⟨b,rfl,h3⟩,rfl⟩);refine ge ?_;exact⟨b,rfl,fun hb=>⟨h0 rfl,h1 rfl,h2 rfl,h3 hb⟩⟩
theorem zwR(p:Pg)(hp:p.ok)(x y z:Dt)(hx:x.raw)(hy:y.raw)(hz:z.raw):EB 15 [.agg p.c,.agg x.c,.agg y.c,.agg z.c] fun b=>b=true->p.few7/\(x.few14/\y.few14/\z.few14)/\DatX p x/\DatX p y/\DatX p z:=by
 refine ECall.cut (R:=fun v _=> ∃b:Bool,v=bo b/\(b=true->p.few7/\(x.few14/\y.few14/\z.few14)/\DatX p x/\DatX p y/\DatX p z)) (pv func15 29 false Qf3 rfl rfl ?_) Qhc;refine g2 ?_;refine ge ?_;(refine g1 ?_;refine zC ((zyX p hp x y z hx hy hz).call zK Qfb _) (yf0 ?_);rintro p2 h2 ⟨⟨b,rfl,h0⟩,rfl⟩);cases b with
 |false=>
  exact Qey
 | true=>
  obtain⟨f7,k1,k2,k3⟩:=h0 rfl;have hle:p.sm:=fun a ha=>by have:=f7.1 a ha;omega
  refine ge ?_;(refine g1 ?_;refine zC ((zeD p hp hle x (hx.sz14 k1)).call zK Qfb _) (yf0 ?_);rintro p2 h2 ⟨rfl,rfl⟩);by_cases hX:DatX p x
  case neg=>
   rw[uA hX];exact Qey
  rw[pO hX];refine ge ?_;(refine g1 ?_;refine zC ((zeD p hp hle y (hy.sz14 k2)).call zK Qfb _) (yf0 ?_);rintro p2 h2 ⟨rfl,rfl⟩);by_cases hY:DatX p y
  case neg=>
   rw[uA hY];exact Qey
  rw[pO hY];refine ge ?_;(refine g1 ?_;refine zC ((zeD p hp hle z (hz.sz14 k3)).call zK Qfb _) (yf0 ?_);rintro p2 h2 ⟨rfl,rfl⟩);refine ge ?_;exact⟨_,rfl,fun hb=>⟨f7,⟨k1,k2,k3⟩,hX,hY,zoX.1 hb⟩⟩
section
variable{p:Pg}(hp:p.ok)(hle:p.sm)
theorem zxJ{d:Dt}(hX:DatX p d){i:Nat}(h: ¬((p.pk.getD i zuW).base=true/\i<p.pk.length)):d.pg.getD i []=[]/\d.pQ.getD i []=[]:=by
 rcases Xy i p.pk.length with hi|hi
 ·have hb:p.pk[i].base=false:=by
   rw[eD hi] at h;cases hh:p.pk[i].base with
   |false=>rfl
   |true=>exact absurd ⟨hh,hi⟩ h
  have hir:i<d.pg.length:=Qgl;have hil:i<d.pQ.length:=Qgm;obtain⟨x1, -, -⟩:=hX.at' i hi hir hil;rw[eD hir,eD hil];exact x1 hb
 ·exact⟨by rw[Qb,Ye Qgl];rfl,by rw[Qb,Ye Qgm];rfl⟩
theorem zv9{d:Dt}(hX:DatX p d){i:Nat}{key:List Vl}(h:key∈zaH p d i):(p.pk.getD i zuW).base=true/\i<p.pk.length:=by
 by_cases w:(p.pk.getD i zuW).base=true/\i<p.pk.length
 ·exact w
 ·obtain⟨h1,h2⟩:=zxJ hX w;unfold zaH at h;rw[h1,h2] at h;simp at h
theorem ztW{d:Dt}(hX:DatX p d){i:Nat}{key:List Vl}(h:key∈(kH p d i).map (·.1)):(p.pk.getD i zuW).base=true/\i<p.pk.length:=by
 by_cases w:(p.pk.getD i zuW).base=true/\i<p.pk.length
 ·exact w
 ·obtain⟨h1,h2⟩:=zxJ hX w;unfold kH at h;rw[h1,h2] at h;simp[zqP,zsI] at h
include hp hle
theorem ya6{x y z:Dt}(hX:DatX p x)(hY:DatX p y)(hZ:DatX p z){i:Nat}{key:List Vl}(h:key∈zlS p x y z i):(p.pk.getD i zuW).base=true/\i<p.pk.length:=by
 have _:=hp;have _:=hle;unfold zlS zy3 at h;rw[iY,Qo,Qo] at h;rcases h with h|h|h
 ·exact ztW hX h
 ·exact ztW hY h
 ·exact ztW hZ h
theorem ksT_v{x y z:Dt}(hX:DatX p x)(hY:DatX p y)(hZ:DatX p z)(i:Nat)(key:List Vl)(h:key∈zlS p x y z i): ∀v∈key,VIn v:=by
 obtain⟨hb,hi⟩:=ya6 hp hle hX hY hZ h;exact zjS hp hle hX hY hZ hi Qh3 h
theorem zvZ{b o t Z:Dt}(hB:DatX p b)(hO:DatX p o)(hT:DatX p t)(hZ:DatX p Z)(h: ∀(j:Nat)(key:List Vl)(m:Nat),m<64->(∀v∈key,VIn v)->ztF p Z j key m=lL (ztF p b j key m) (ztF p o j key m) (ztF p t j key m)):zhB p b o t (zlS p b o t)=Z:=
 zx8 hp hle (zxU hp hle hB.tv) hO hT hZ (ksT_v hp hle hB hO hT)
  (fun i key hk=>by
   obtain⟨hb,hi⟩:=zv9 hO hk;exact(zvJ hp hle hB hO hT hi Qh3 key).2 (.inr (.inl hk)))
  (fun i key hk=>by
   obtain⟨hb,hi⟩:=zv9 hT hk;exact(zvJ hp hle hB hO hT hi Qh3 key).2 (.inr (.inr hk))) h
omit hp hle in
theorem zvQ{b o t:Dt}(h: ∀(i:Nat)(key:List Vl)(m:Nat),m<64-> ¬zt6 (ztF p b i key m) (ztF p o i key m) (ztF p t i key m)): ∀n,zz9 p b o t n=[]
 |0=>rfl
 | n+1=>by
  have e: ∀key,zw4 p b o t n key=[]:=fun key=>by
   unfold zw4;rw[zxW.2 fun m hm=>h n key m hm];rfl
  show(if (p.pk.getD n zuW).base=true then zz9 p b o t n++(zlS p b o t n).flatMap (zw4 p b o t n) else zz9 p b o t n)=[];rw[zvQ h n,zfP (g:=fun _=>[]) fun k _=>e k];simp
end
theorem zsJ(p:Pg)(hp:p.ok)(hle:p.sm)(hpn:p.pk.length<=26)(b o t Z:Dt)(hb:b.sz)(ho:o.sz)(ht:t.sz)(kb:b.few14)(ko:o.few14)(kt:t.few14)(hB:DatX p b)(hO:DatX p o)(hT:DatX p t)(hZ:DatX p Z)
  (h: ∀(j:Nat)(key:List Vl)(m:Nat),ztF p Z j key m=lL (ztF p b j key m) (ztF p o j key m) (ztF p t j key m)) (hc: ∀(i:Nat)(key:List Vl)(m:Nat), ¬zt6 (ztF p b i key m) (ztF p o i key m) (ztF p t i key m)):
  EPure prog G0 11 [.agg p.c,.agg b.c,.agg o.c,.agg t.c] fun v=>v= .tup [.agg Z.c,.ts 12 []]:=by
 have k:=Three_x p hp hle b o t hb ho ht hB hO hT Qf0 (zxP p kb ko kt);rw[zvZ hp hle hB hO hT hZ fun j key m _ _=>h j key m,zvQ fun i key m _=>hc i key m] at k;exact k
theorem zyV(hhead:EPure prog G0 9 [] fun v=>v=bo true)(p:Pg)(hp:p.ok)(x y:Dt)(hx:x.raw)(hy:y.raw):
  EPure prog G0 4 [.agg p.c,.agg x.c,.agg y.c] fun v=>v=bo true:=by
 refine ECall.cut (R:=fun v _=>v=bo true) (pv func4 73 false Qf3 rfl rfl ?_) Qgi;refine g2 ?_;refine ge ?_;(refine g1 ?_;refine zC (hhead.call zK Qf1 _) (yf0 ?_);rintro p2 h2 ⟨rfl,rfl⟩);refine ge ?_;(refine g1 ?_;refine zC ((zwR p hp x y y hx hy hy).call zK Qfb _) (yf0 ?_);rintro p2 h2 ⟨⟨b,rfl,h0⟩,rfl⟩);cases b with
 |false=>
  refine ge ?_;rfl
 |true=>
  obtain⟨f7,⟨k1,k2, -⟩,hX,hY, -⟩:=h0 rfl;have hle:p.sm:=fun a ha=>by have:=f7.1 a ha;omega
  have sx:=hx.sz14 k1;have sy:=hy.sz14 k2;have c1:=zsJ p hp hle f7.2 x x y y sx sx sy k1 k1 k2 hX hX hY hY (fun j key m=>(ztQ _ _).symm) (fun i key m w=>w.2.1 rfl);have c2:=zsJ p hp hle f7.2 x y x y sx sy sx k1 k2 k1 hX hY hX hY (fun j key m=>(zrO _ _).symm) (fun i key m w=>w.2.2 rfl);have c3:=zsJ p hp hle f7.2 x y y y sx sy sy k1 k2 k2 hX hY hY hY (fun j key m=>(ztR _ _).symm) (fun i key m w=>w.1 rfl);have cs:=zyO y (ye2 sy);refine ge ?_;(refine g1 ?_;refine zC (c1.call zK Qfb _) (yf0 ?_);rintro p2 h2 ⟨rfl,rfl⟩);refine ge ?_;(refine g1 ?_;refine zC (c2.call zK Qfb _) (yf0 ?_);rintro p2 h2 ⟨rfl,rfl⟩);refine ge ?_;(refine g1 ?_;refine zC (c3.call zK Qfb _) (yf0 ?_);rintro p2 h2 ⟨rfl,rfl⟩);have w0:(IntKind.i64.wrap (IntKind.i64.wrap (((0:Nat):Int)+((0:Nat):Int))+((0:Nat):Int))==0)=true:=Qf2;refine gf @w0 ?_;(refine g1f @w0 ?_;refine zC (cs.call zK Qfb _) (yf0 ?_);rintro p2 h2 ⟨rfl,rfl⟩);refine gf @w0 ?_;(refine g1f @w0 ?_;refine zC (cs.call zK Qfb _) (yf0 ?_);rintro p2 h2 ⟨rfl,rfl⟩);refine gf @w0 ?_;(refine g1f @w0 ?_;refine zC (cs.call zK Qfb _) (yf0 ?_);rintro p2 h2 ⟨rfl,rfl⟩);refine gf @w0 ?_;rfl
end Go.AL
namespace Go.AL
open Go.Proofs Go.Proofs.Tryz
instance:DecidableEq Fa:=fun x y=>decidable_of_iff (x.pred=y.pred/\x.args=y.args/\x.elem=y.elem) Qgr
def zuE(l:List Rw)(key:List Vl)(m:Nat):Option Fa:=(zjH 1 key (m:Int) l).map fun x=>⟨0,x.args, -1⟩
theorem zvR{l:List Rw}(hX:DatX zlK (zbC l))(j:Nat)(key:List Vl)(m:Nat):ztF zlK (zbC l) j key m=if j=0/\key.length=1 then zuE l key m else none:=by
 by_cases hj:j=0
 ·subst hj;rw[ztN hX (i:=0) Qf2 (by show 0<1;omega) (by show 0<1;omega)];show ydT zlK yaL l [] ((0:Nat):Int) key m=_;unfold ydT;by_cases hk:key.length=1
  ·have e1: ¬(yaL.base=false\/(key.length:Int)≠yaL.key):=by
    rintro (w|w)
    ·cases w
    ·exact w (by rw[hk];rfl)
   have e2: ¬yaL.of'≠ -1:=fun w=>w rfl;rw[Qi e1,Qi e2,Qj ⟨rfl,hk⟩];rfl
  ·have e1:yaL.base=false\/(key.length:Int)≠yaL.key:= .inr fun w=>hk (by
    have:(key.length:Int)=1:=w;omega)
   rw[Qj e1,Qi fun w=>hk w.2]
 ·rw[zc3 (p:=zlK) (d:=zbC l) (.inr (show((zlK.pk.length:Nat):Int)<=(j:Int) from(show((1:Nat):Int)<=(j:Int) by omega))),Qi fun w=>hj w.1]
def K34:List (List Vl):=[[aC],[zzI]]
def A34:List (List Vl):=[[aC,zqL 3],[aC,zqL 5],[aC,zqL 7],[zzI,zqL 1]]
def spB:Int->List Sp->Bool
 |_,[]=>true
 |lo,s::l=>decide (lo<=s.a)&&(decide (s.a<s.b)&&(decide (s.b<=64)&&spB (s.b+1) l))
theorem zy5: ∀(l:List Sp)(lo:Int),spB lo l=true->SpF lo l
 | [],_,_=>trivial
 |s::l,lo,h=>by
  unfold spB at h;rw[Qt,Qt,Qt] at h;exact⟨Xj h.1,Xj h.2.1,Xj h.2.2.1,zy5 l _ h.2.2.2⟩
def r0:Rw:=⟨[],[]⟩
def gdB(l:List Rw):Bool:=
 (l.all fun x=>decide (x.args∈A34)&&(spB 0 x.w&&(decide (x.w≠[])&&decide (x.w.length<=8))))&&(decide (l.length<=12)&&
 (((List.range l.length).all fun j=>(List.range j).all fun i=>decide (sD (l.getD i r0).args (l.getD j r0).args<0))&&
 ((List.range l.length).all fun i=> !((l.take i).any fun y=>tA 1 y (l.getD i r0)))))
theorem A34_x{l:List Vl}(h:l∈A34):(∃a b,l=[a,b]/\a.t=2/\b.t=1/\zoC a=true/\zoC b=true)/\l.take 1∈K34/\ ∀v∈l,v.s.size<=140737488355328:=by
 have h':l=[aC,zqL 3]\/l=[aC,zqL 5]\/l=[aC,zqL 7]\/l=[zzI,zqL 1]:=by simpa [A34] using h
 rcases h' with rfl|rfl|rfl|rfl
 ·exact⟨⟨_,_,rfl,rfl,rfl,zw5,vv_3⟩,Qe ..,Qf2⟩
 ·exact⟨⟨_,_,rfl,rfl,rfl,zw5,vv_5⟩,Qe ..,Qf2⟩
 ·exact⟨⟨_,_,rfl,rfl,rfl,zw5,vv_7⟩,Qe ..,Qf2⟩
 ·exact⟨⟨_,_,rfl,rfl,rfl,yaY,vv_1⟩,Qf _ (Qe ..),Qf2⟩
structure Gd(l:List Rw):Prop where
 X:DatX zlK (zbC l)
 k: ∀x∈l,x.args.take 1∈K34
 sz:(zbC l).sz
 f:(zbC l).few14
theorem zuA{l:List Rw}(h:gdB l=true):Gd l:=by
 unfold gdB at h;rw[Qt,Qt,Qt,Xg] at h;obtain⟨h1,h2,h3,h4⟩:=h;have hr: ∀x∈l,x.args∈A34/\SpF 0 x.w/\x.w≠[]/\x.w.length<=8:=fun x hx=>by
  have:=h1 x hx;rw[Qt,Qt,Qt] at this;exact⟨Xj this.1,zy5 _ _ this.2.1,Xj this.2.2.1,Xj this.2.2.2⟩
 have hl:=Xj h2;have two: ∀x∈l,x.args.length=2:=fun x hx=>by
  obtain⟨⟨a,b,e, -⟩, -⟩:=A34_x (hr x hx).1;rw[e];rfl
 have hf:(zbC l).few14:=⟨by show 1<=26;omega,by show 1<=26;omega,fun r hr'=>by
  have:r=l:=Qgv;subst this;exact⟨hl,fun x hx=>⟨by rw[two x hx];omega,(hr x hx).2.2.2⟩⟩,fun r hr'=>by
  have:r=[]:=Qgv;subst this;exact⟨Qf1,Qf1⟩⟩
 refine⟨dat34 (fun i j hij hj=> ?_) (fun x hx=>⟨(hr x hx).2.1,(hr x hx).2.2.1⟩) (fun x hx=>(A34_x (hr x hx).1).1) (fun i hi=> ?_),fun x hx=>(A34_x (hr x hx).1).2.1,?_,hf⟩
 ·rw[Xg] at h3;have:=h3 j (Jm.2 hj);rw[Xg] at this;have:=Xj (this i (Jm.2 hij))
  rwa [eD hj,eD (Nat.lt_trans hij hj)] at this
 ·rw[Xg] at h4;have:=h4 i (Jm.2 hi);rw[eD hi] at this;simpa using this
 ·refine⟨by show 1<=_;omega,by show 1<=_;omega,fun r hr'=> ?_,fun r hr'=> ?_,fun r hr'=> ?_⟩
  ·have:r=l:=Qgv;subst this;exact⟨Qf0,fun x hx=>⟨by rw[two x hx];omega,(A34_x (hr x hx).1).2.2,by have:=(hr x hx).2.2.2;omega⟩⟩
  ·have:r=[]:=Qgv;subst this;exact⟨Qf1,Qf1⟩
  ·have:r=[]:=Qgv;subst this;simp
theorem Gd.no{l:List Rw}(h:Gd l){key:List Vl}(hk:key∉K34)(m:Nat):zuE l key m=none:=by
 unfold zuE;have e:zjH 1 key (m:Int) l=none:=zqG fun j hj=>by
  have: ¬l[j].args.take 1=key:=fun w=>hk (by rw[<-w];exact h.k _ (Qc hj));rw[Zy this,Bool.false_and]
 rw[e];rfl
def chB(b o t:Option Fa):Option Fa:=if o≠t/\o=b then t else o
theorem ya9(b o t:Option Fa):lL b o t=chB b o t:=by
 unfold lL chB;by_cases q:o≠t/\o=b
 ·rw[pO q,Qj rfl,Qj q]
 ·rw[uA q,Qi Qf2,Qi q]
def okB(b o t z:List Rw):Bool:=K34.all fun key=>(List.range 64).all fun m=>decide (zuE z key m=chB (zuE b key m) (zuE o key m) (zuE t key m))
def cfB(b o t:Option Fa):Bool:=decide (o≠t/\o≠b/\t≠b)
def noB(b o t:List Rw):Bool:=K34.all fun key=>(List.range 64).all fun m=> !cfB (zuE b key m) (zuE o key m) (zuE t key m)
theorem yaV{f:List Vl->Nat->Bool}(h:(K34.all fun key=>(List.range 64).all fun m=>f key m)=true){key:List Vl}{m:Nat}(hk:key∈K34)(hm:m<64):f key m=true:=by
 rw[Xg] at h;have:=h key hk;rw[Xg] at this;exact this m (Jm.2 hm)
section
variable{b o t z:List Rw}(hB:Gd b)(hO:Gd o)(hT:Gd t)
include hB hO hT
theorem ydH(hZ:Gd z)(h:okB b o t z=true):zhB zlK (zbC b) (zbC o) (zbC t) (zlS zlK (zbC b) (zbC o) (zbC t))=zbC z:=by
 refine zvZ zw7 zw6 hB.X hO.X hT.X hZ.X fun j key m hm _=> ?_;rw[zvR hZ.X,zvR hB.X,zvR hO.X,zvR hT.X,ya9];by_cases hj:j=0/\key.length=1
 ·simp only[Qj hj];by_cases hk:key∈K34
  ·exact Xj (yaV (f:=fun key m=>decide (zuE z key m=chB (zuE b key m) (zuE o key m) (zuE t key m))) h hk hm)
  ·rw[hZ.no hk,hB.no hk,hO.no hk,hT.no hk];rfl
 ·simp only[Qi hj];rfl
theorem no34(h:noB b o t=true):zz9 zlK (zbC b) (zbC o) (zbC t) 1=[]:=by
 refine zvQ (fun j key m hm=> ?_) 1;rw[zvR hB.X,zvR hO.X,zvR hT.X];by_cases hj:j=0/\key.length=1
 ·simp only[Qj hj];by_cases hk:key∈K34
  ·have:=yaV (f:=fun key m=> !cfB (zuE b key m) (zuE o key m) (zuE t key m)) h hk hm;intro w;have e:cfB (zuE b key m) (zuE o key m) (zuE t key m)=true:=Yz w;rw[e] at this;cases this
  ·rw[hB.no hk,hO.no hk,hT.no hk];exact fun w=>w.1 rfl
 ·simp only[Qi hj];exact fun w=>w.1 rfl
theorem Three34:EPure prog G0 11 [.agg zlK.c,.agg (zbC b).c,.agg (zbC o).c,.agg (zbC t).c] fun v=>v= .tup [.agg (zhB zlK (zbC b) (zbC o) (zbC t) (zlS zlK (zbC b) (zbC o) (zbC t))).c,cfs (zz9 zlK (zbC b) (zbC o) (zbC t) 1)]:=
 Three_x zlK zw7 zw6 _ _ _ hB.sz hO.sz hT.sz hB.X hO.X hT.X Qf2 (zxP zlK hB.f hO.f hT.f)
end
def puB(b o t:Option Fa)(m:Nat):List Cf->List Cf
 | []=>[⟨b,o,t,yW (zo2 ⟨m,(m:Int)+1⟩)⟩]
 |x::l=>if x.b=b/\x.o=o/\x.t=t then⟨b,o,t,yW (uQ x.w ||| zo2 ⟨m,(m:Int)+1⟩)⟩::l else x::puB b o t m l
theorem zy6(b o t:Option Fa)(m:Nat): ∀l,zc4 b o t m l=puB b o t m l
 | []=>rfl
 |x::l=>by
  unfold zc4 puB;by_cases q:x.b=b/\x.o=o/\x.t=t
  ·rw[pO q,Qj rfl,Qj q]
  ·rw[uA q,Qi Qf2,Qi q,zy6 b o t m l]
def cuB(fb fo ft:Nat->Option Fa):Nat->List Cf
 |0=>[]
 |m+1=>if cfB (fb m) (fo m) (ft m) then puB (fb m) (fo m) (ft m) m (cuB fb fo ft m) else cuB fb fo ft m
theorem zxC(fb fo ft:Nat->Option Fa): ∀n,zuF fb fo ft n=cuB fb fo ft n
 |0=>rfl
 | m+1=>by
  unfold zuF cuB;by_cases q:zt6 (fb m) (fo m) (ft m)
  ·have e:cfB (fb m) (fo m) (ft m)=true:=Yz q;rw[pO q,Qj rfl,e,Qj rfl,zy6,zxC fb fo ft m]
  ·have e:cfB (fb m) (fo m) (ft m)=false:=Zy q;rw[uA q,Qi Qf2,e,Qi Qf2,zxC fb fo ft m]
theorem one34{b o t:List Rw}(hB:Gd b)(hO:Gd o)(hT:Gd t)(hk: ∀key,key∈zaH zlK (zbC b) 0\/key∈zaH zlK (zbC o) 0\/key∈zaH zlK (zbC t) 0↔key=[aC]){L:List Cf}(h:cuB (zuE b [aC]) (zuE o [aC]) (zuE t [aC]) 64=L):zz9 zlK (zbC b) (zbC o) (zbC t) 1=L.map fun x=>(0,[aC],x):=by
 have e:zlS zlK (zbC b) (zbC o) (zbC t) 0=[[aC]]:=zr9 (ziT _) (List.pairwise_singleton ..) fun key=>by
  rw[zvJ zw7 zw6 hB.X hO.X hT.X (i:=0) Qf2 rfl,hk,Qp]
 show(if (zlK.pk.getD 0 zuW).base=true then zz9 zlK (zbC b) (zbC o) (zbC t) 0++(zlS zlK (zbC b) (zbC o) (zbC t) 0).flatMap (zw4 zlK (zbC b) (zbC o) (zbC t) 0) else zz9 zlK (zbC b) (zbC o) (zbC t) 0)=_;rw[Qj (show(zlK.pk.getD 0 zuW).base=true from rfl),e];show []++([[aC]].flatMap (zw4 zlK (zbC b) (zbC o) (zbC t) 0))=_;rw[Yj,Yp,List.flatMap_nil,Xz];unfold zw4;rw[zsT (a':=zuE b [aC]) (b':=zuE o [aC]) (c':=zuE t [aC]) 64 fun m hm=>⟨by rw[zvR hB.X,Qj ⟨rfl,rfl⟩],by rw[zvR hO.X,Qj ⟨rfl,rfl⟩],by rw[zvR hT.X,Qj ⟨rfl,rfl⟩]⟩,zxC,h]
def rA(n:Int)(w:List Sp):Rw:=⟨[aC,zqL n],w⟩
def rB(w:List Sp):Rw:=⟨[zzI,zqL 1],w⟩
def l1:List Rw:=[rA 3 [⟨0,10⟩]]
def l2:List Rw:=[rA 3 [⟨0,4⟩,⟨6,10⟩],rA 5 [⟨4,6⟩]]
def l3:List Rw:=[rA 3 [⟨0,10⟩],rB [⟨0,2⟩]]
def l4:List Rw:=[rA 3 [⟨0,4⟩,⟨6,10⟩],rA 5 [⟨4,6⟩],rB [⟨0,2⟩]]
def l5:List Rw:=[rA 3 [⟨0,4⟩,⟨8,10⟩],rA 5 [⟨4,8⟩]]
def l6:List Rw:=[rA 3 [⟨0,6⟩],rA 7 [⟨6,10⟩]]
def l7:List Rw:=[rA 3 [⟨0,4⟩],rA 5 [⟨4,8⟩],rA 7 [⟨8,10⟩]]
theorem zz8:Gd l1:=zuA Qf3
theorem gz2:Gd l2:=zuA Qf3
theorem gz3:Gd l3:=zuA Qf3
theorem gz4:Gd l4:=zuA Qf3
theorem gz5:Gd l5:=zuA Qf3
theorem gz6:Gd l6:=zuA Qf3
theorem gz7:Gd l7:=zuA Qf3
theorem zoK:EPure prog G0 11 [.agg zlK.c,.agg (zbC l1).c,.agg (zbC l2).c,.agg (zbC l3).c] fun v=>v= .tup [.agg (zbC l4).c,.ts 12 []]:=by
 have k:=Three34 zz8 gz2 gz3;rw[ydH zz8 gz2 gz3 gz4 Qf3,no34 zz8 gz2 gz3 Qf3] at k;exact k
theorem hc3:EPure prog G0 11 [.agg zlK.c,.agg (zbC l1).c,.agg (zbC l1).c,.agg (zbC l3).c] fun v=>v= .tup [.agg (zbC l3).c,.ts 12 []]:=by
 have k:=Three34 zz8 zz8 gz3;rw[ydH zz8 zz8 gz3 gz3 Qf3,no34 zz8 zz8 gz3 Qf3] at k;exact k
def cf34:Cf:=⟨some ⟨0,[aC,zqL 3], -1⟩,some ⟨0,[aC,zqL 5], -1⟩,some ⟨0,[aC,zqL 7], -1⟩,[⟨6,8⟩]⟩
instance:DecidableEq Cf:=fun x y=>decidable_of_iff (x.b=y.b/\x.o=y.o/\x.t=y.t/\x.w=y.w) Qgr
theorem cu34:cuB (zuE l1 [aC]) (zuE l5 [aC]) (zuE l6 [aC]) 64=[cf34]:=Xj Qf3
theorem zxI:EPure prog G0 11 [.agg zlK.c,.agg (zbC l1).c,.agg (zbC l5).c,.agg (zbC l6).c] fun v=>v= .tup [.agg (zbC l7).c,.ts 12 [ztE 0 [aC] cf34]]:=by
 have k:=Three34 zz8 gz5 gz6;rw[ydH zz8 gz5 gz6 gz7 Qf3,one34 zz8 gz5 gz6 (fun key=>by
  have e1:zaH zlK (zbC l1) 0=[[aC]]:=rfl;have e2:zaH zlK (zbC l5) 0=[[aC],[aC]]:=rfl;have e3:zaH zlK (zbC l6) 0=[[aC],[aC]]:=rfl;rw[e1,e2,e3];simp) cu34] at k
 exact k
theorem zxD{g:FuncId}{args args':List PV}{w r:PV}(k:EPure prog G0 g args fun v=>v=w)(h:(Nat.beq args'.length args.length&&(args'.zip args).all fun y=>zw2 12 y.1 y.2)=true)(e:nU 40 w r=true):EPure prog G0 g args' fun v=>v=r:=by
 rw[<-eM 40 w r e];exact k.argsB h
end Go.AL
namespace Go.AL
open Go.Proofs Go.Proofs.Tryz
theorem zkk0:TabOk prog G0 tb0:=zc0
theorem zkk1:TabOk prog G0 tb1:=yR wN zK zkk0 tc1 Qf3 Qf3
theorem zkk2:TabOk prog G0 tb2:=yR wN zK zkk1 tc2 Qf3 Qf3
theorem zkk3:TabOk prog G0 tb3:=yR wN zK zkk2 tc3 Qf3 Qf3
theorem zkk4:TabOk prog G0 tb4:=yR wN zK zkk3 tc4 Qf3 Qf3
theorem zkk5:TabOk prog G0 tb5:=yR wN zK zkk4 tc5 Qf3 Qf3
theorem zkk6:TabOk prog G0 tb6:=yR wN zK zkk5 tc6 Qf3 Qf3
theorem zkk7:TabOk prog G0 tb7:=yR wN zK zkk6 tc7 Qf3 Qf3
theorem zkk8:TabOk prog G0 tb8:=yR wN zK zkk7 tc8 Qf3 Qf3
theorem zkk9:TabOk prog G0 tb9:=yR wN zK zkk8 tc9 Qf3 Qf3
theorem zkk10:TabOk prog G0 znI:=yR wN zK zkk9 tc10 Qf3 Qf3
theorem zkk11:TabOk prog G0 znH:=yR wN zK zkk10 tc11 Qf3 Qf3
theorem zkk12:TabOk prog G0 ydG:=yR wN zK zkk11 tc12 Qf3 Qf3
theorem zkk13:TabOk prog G0 ydF:=yR wN zK zkk12 tc13 Qf3 Qf3
theorem zkk14:TabOk prog G0 ydE:=yR wN zK zkk13 tc14 Qf3 Qf3
theorem zkk15:TabOk prog G0 ydD:=yR wN zK zkk14 tc15 Qf3 Qf3
theorem zkk16:TabOk prog G0 ydC:=yR wN zK zkk15 tc16 Qf3 Qf3
theorem zkk17:TabOk prog G0 ydB:=yR wN zK zkk16 tc17 Qf3 Qf3
theorem zkk18:TabOk prog G0 ydA:=yR wN zK zkk17 tc18 Qf3 Qf3
theorem zkk19:TabOk prog G0 yc9:=yR wN zK zkk18 tc19 Qf3 Qf3
theorem zkk20:TabOk prog G0 yc8:=yR wN zK zkk19 tc20 Qf3 Qf3
theorem zkk21:TabOk prog G0 yc7:=yR wN zK zkk20 tc21 Qf3 Qf3
theorem zkk22:TabOk prog G0 tb22:=yR wN zK zkk21 tc22 Qf3 Qf3
theorem con23:EPure prog G0 11 ta23 (fun v=>v=tr23):=zxD zoK Qf3 Qf3
theorem zkk23:TabOk prog G0 yc6:=zpK zK zkk22 con23 Qf3
theorem zkk24:TabOk prog G0 yc5:=yR wN zK zkk23 tc24 Qf3 Qf3
theorem zkk25:TabOk prog G0 yc4:=yR wN zK zkk24 tc25 Qf3 Qf3
theorem zkk26:TabOk prog G0 yc3:=yR wN zK zkk25 tc26 Qf3 Qf3
theorem zkk27:TabOk prog G0 yc2:=yR wN zK zkk26 tc27 Qf3 Qf3
theorem zkk28:TabOk prog G0 yc1:=yR wN zK zkk27 tc28 Qf3 Qf3
theorem zkk29:TabOk prog G0 yc0:=yR wN zK zkk28 tc29 Qf3 Qf3
theorem zkk30:TabOk prog G0 ycZ:=yR wN zK zkk29 tc30 Qf3 Qf3
theorem zkk31:TabOk prog G0 ycY:=yR wN zK zkk30 tc31 Qf3 Qf3
theorem zkk32:TabOk prog G0 ycX:=yR wN zK zkk31 tc32 Qf3 Qf3
theorem zkk33:TabOk prog G0 ycW:=yR wN zK zkk32 tc33 Qf3 Qf3
theorem zkk34:TabOk prog G0 ycV:=yR wN zK zkk33 tc34 Qf3 Qf3
theorem zkk35:TabOk prog G0 ycU:=yR wN zK zkk34 tc35 Qf3 Qf3
theorem zkk36:TabOk prog G0 ycT:=yR wN zK zkk35 tc36 Qf3 Qf3
theorem zkk37:TabOk prog G0 tb37:=yR wN zK zkk36 tc37 Qf3 Qf3
theorem con38:EPure prog G0 11 ta38 (fun v=>v=tr38):=zxD zxI Qf3 Qf3
theorem zkk38:TabOk prog G0 ycS:=zpK zK zkk37 con38 Qf3
theorem zkk39:TabOk prog G0 ycR:=yR wN zK zkk38 tc39 Qf3 Qf3
theorem zkk40:TabOk prog G0 ycQ:=yR wN zK zkk39 tc40 Qf3 Qf3
theorem zkk41:TabOk prog G0 ycP:=yR wN zK zkk40 tc41 Qf3 Qf3
theorem zkk42:TabOk prog G0 ycO:=yR wN zK zkk41 tc42 Qf3 Qf3
theorem zkk43:TabOk prog G0 ycN:=yR wN zK zkk42 tc43 Qf3 Qf3
theorem zkk44:TabOk prog G0 ycM:=yR wN zK zkk43 tc44 Qf3 Qf3
theorem zkk45:TabOk prog G0 ycL:=yR wN zK zkk44 tc45 Qf3 Qf3
theorem zkk46:TabOk prog G0 ycK:=yR wN zK zkk45 tc46 Qf3 Qf3
theorem zkk47:TabOk prog G0 ycJ:=yR wN zK zkk46 tc47 Qf3 Qf3
theorem zkk48:TabOk prog G0 ycI:=yR wN zK zkk47 tc48 Qf3 Qf3
theorem zkk49:TabOk prog G0 ycH:=yR wN zK zkk48 tc49 Qf3 Qf3
theorem zkk50:TabOk prog G0 ycG:=yR wN zK zkk49 tc50 Qf3 Qf3
theorem zkk51:TabOk prog G0 ycF:=yR wN zK zkk50 tc51 Qf3 Qf3
theorem zkk52:TabOk prog G0 ycE:=yR wN zK zkk51 tc52 Qf3 Qf3
theorem zkk53:TabOk prog G0 ycD:=yR wN zK zkk52 tc53 Qf3 Qf3
theorem zkk54:TabOk prog G0 ycC:=yR wN zK zkk53 tc54 Qf3 Qf3
theorem zkk55:TabOk prog G0 ycB:=yR wN zK zkk54 tc55 Qf3 Qf3
theorem zkk56:TabOk prog G0 ycA:=yR wN zK zkk55 tc56 Qf3 Qf3
theorem zkk57:TabOk prog G0 yb9:=yR wN zK zkk56 tc57 Qf3 Qf3
theorem zkk58:TabOk prog G0 yb8:=yR wN zK zkk57 tc58 Qf3 Qf3
theorem zkk59:TabOk prog G0 yb7:=yR wN zK zkk58 tc59 Qf3 Qf3
theorem zkk60:TabOk prog G0 yb6:=yR wN zK zkk59 tc60 Qf3 Qf3
theorem zkk61:TabOk prog G0 yb5:=yR wN zK zkk60 tc61 Qf3 Qf3
theorem zkk62:TabOk prog G0 yb4:=yR wN zK zkk61 tc62 Qf3 Qf3
theorem zkk63:TabOk prog G0 yb3:=yR wN zK zkk62 tc63 Qf3 Qf3
theorem zkk64:TabOk prog G0 yb2:=yR wN zK zkk63 tc64 Qf3 Qf3
theorem zkk65:TabOk prog G0 yb1:=yR wN zK zkk64 tc65 Qf3 Qf3
theorem zkk66:TabOk prog G0 yb0:=yR wN zK zkk65 tc66 Qf3 Qf3
theorem zkk67:TabOk prog G0 ybZ:=yR wN zK zkk66 tc67 Qf3 Qf3
theorem zkk68:TabOk prog G0 ybY:=yR wN zK zkk67 tc68 Qf3 Qf3
theorem zkk69:TabOk prog G0 ybX:=yR wN zK zkk68 tc69 Qf3 Qf3
theorem zkk70:TabOk prog G0 ybW:=yR wN zK zkk69 tc70 Qf3 Qf3
theorem zkk71:TabOk prog G0 ybV:=yR wN zK zkk70 tc71 Qf3 Qf3
theorem zkk72:TabOk prog G0 ybU:=yR wN zK zkk71 tc72 Qf3 Qf3
theorem zkk73:TabOk prog G0 ybT:=yR wN zK zkk72 tc73 Qf3 Qf3
theorem zkk74:TabOk prog G0 ybS:=yR wN zK zkk73 tc74 Qf3 Qf3
theorem zkk75:TabOk prog G0 ybR:=yR wN zK zkk74 tc75 Qf3 Qf3
theorem zkk76:TabOk prog G0 ybQ:=yR wN zK zkk75 tc76 Qf3 Qf3
theorem zkk77:TabOk prog G0 tb77:=yR wN zK zkk76 tc77 Qf3 Qf3
theorem con78:EPure prog G0 11 ta78 (fun v=>v=tr78):=zxD hc3 Qf3 Qf3
theorem zkk78:TabOk prog G0 ybP:=zpK zK zkk77 con78 Qf3
theorem zkk79:TabOk prog G0 ybO:=yR wN zK zkk78 tc79 Qf3 Qf3
theorem zkk80:TabOk prog G0 ybN:=yR wN zK zkk79 tc80 Qf3 Qf3
theorem zkk81:TabOk prog G0 ybM:=yR wN zK zkk80 tc81 Qf3 Qf3
theorem zkk82:TabOk prog G0 ybL:=yR wN zK zkk81 tc82 Qf3 Qf3
theorem zkk83:TabOk prog G0 ybK:=yR wN zK zkk82 tc83 Qf3 Qf3
theorem zkk84:TabOk prog G0 ybJ:=yR wN zK zkk83 tc84 Qf3 Qf3
theorem zkk85:TabOk prog G0 ybI:=yR wN zK zkk84 tc85 Qf3 Qf3
theorem zkk86:TabOk prog G0 ybH:=yR wN zK zkk85 tc86 Qf3 Qf3
theorem zkk87:TabOk prog G0 ybG:=yR wN zK zkk86 tc87 Qf3 Qf3
theorem zkk88:TabOk prog G0 ybF:=yR wN zK zkk87 tc88 Qf3 Qf3
theorem zkk89:TabOk prog G0 ybE:=yR wN zK zkk88 tc89 Qf3 Qf3
theorem zkk90:TabOk prog G0 ybD:=yR wN zK zkk89 tc90 Qf3 Qf3
theorem zkk91:TabOk prog G0 tb91:=yR wN zK zkk90 tc91 Qf3 Qf3
theorem zyE:EPure prog G0 9 [] fun v=>v= .sc (.bool true):=TabOk.pure zkk91 (show(9,[],.sc (.bool true))∈tb91 from Qe ..) Qf3
theorem PLes.app{a b c d:List PV}(h:PLes a b)(k:PLes c d):PLes (a++c) (b++d):=by
 induction h with
 |nil=>exact k
 |cons h _ ih=>exact .cons h ih
def Dec{α:Type}(n:Nat)(t:TypeId)(c:α->List PV)(K:α->Prop):Prop:= ∀(m:Nat)(x:List PV),Shp prog (m+n) t x-> ∃a,K a/\PLes x (c a)
def DecS{α:Type}(n:Nat)(ts:List TypeId)(c:α->List PV)(K:α->Prop):Prop:= ∀(m:Nat)(ps:List (List PV)),ps.length=ts.length->(∀(i:Nat)(t:TypeId)(p:List PV),ts[i]? =some t->ps[i]? =some p->Shp prog (m+n) t p)-> ∃a,K a/\PLes ps.flatten (c a)
def zcS(P:Program)(t:TypeId):Option (List TypeId):=match P.underlying t with
 |some (.struct fs)=>some (fs.toList.map (·.type))
 |_=>none
def slOf(P:Program)(t:TypeId):Option (TypeId×Nat×Bool):=match P.underlying t with
 |some (.slice e)=>some (e,P.cellsOf e,decide (1<=P.bytesOf e))
 |_=>none
theorem Dec.up{α:Type}{n k:Nat}{t:TypeId}{c:α->List PV}{K:α->Prop}(D:Dec n t c K)(h:n<=k):Dec k t c K:=fun m x hx=>D (m+(k-n)) x (by rw[show m+(k-n)+n=m+k by omega];exact hx)
theorem Dec.map{α β:Type}{n:Nat}{t:TypeId}{c:α->List PV}{K:α->Prop}{d:β->List PV}{L:β->Prop}(D:Dec n t c K)(f:α->β)(hc: ∀a,c a=d (f a))(hK: ∀a,K a->L (f a)):Dec n t d L:=fun m x hx=>by
 obtain⟨a,h,k⟩:=D m x hx;exact⟨f a,hK a h,by rw[<-hc];exact k⟩
theorem zj1{t:TypeId}{k:IntKind}(h:prog.underlying t=some (.int k)):Dec 0 t (fun z:Int=>[.sc (.int k z)]) fun z=>k.min<=z/\z<=k.max:=fun m x hx=>by
 unfold Shp at hx;rw[h] at hx;have hx: ∃z,x=[.sc (.int k z)]/\k.min<=z/\z<=k.max:=by cases m<;>exact hx
 obtain⟨z,rfl,hz⟩:=hx;exact⟨z,hz,PLes.refl _⟩
theorem zgB{t:TypeId}(h:prog.underlying t=some .bool):Dec 0 t (fun z:Bool=>[bo z]) fun _=>True:=fun m x hx=>by
 unfold Shp at hx;rw[h] at hx;have hx: ∃b,x=[.sc (.bool b)]:=by cases m<;>exact hx
 obtain⟨z,rfl⟩:=hx;exact⟨z,trivial,PLes.refl _⟩
theorem aT{t:TypeId}(h:prog.underlying t=some .string):Dec 0 t (fun z:BA=>[yQ z]) fun z=>z.size<=140737488355328:=fun m x hx=>by
 unfold Shp at hx;rw[h] at hx;have hx: ∃s:BA,x=[.sc (.string s)]/\s.size<=maxLen/\s.size<=reachBytes:=by cases m<;>exact hx
 obtain⟨z,rfl,_,hz⟩:=hx;have:reachBytes=140737488351232:=Qf2;exact⟨z,Qf0,PLes.refl _⟩
theorem zj2{α:Type}{n k:Nat}{e:TypeId}{c:α->List PV}{K:α->Prop}(D:Dec n e c K)(m:Nat): ∀els:List (List PV),(∀x∈els,Shp prog (m+n) e x)-> ∃l:List α,l.length=els.length/\(∀a∈l,K a)/\PLe (.ts k els) (.ts k (l.map c)):=fun els h=>by
 have key: ∃l:List α,l.length=els.length/\(∀a∈l,K a)/\ ∀(i:Nat)(x y:List PV),els[i]? =some x->(l.map c)[i]? =some y->PLes x y:=by
  induction els with
  |nil=>exact⟨[],rfl,Qf1,fun i x y hx=>by simp at hx⟩
  | cons x els ih=>
   obtain⟨a,ha,k⟩:=D m x (h x (Qe ..));obtain⟨l,h1,h2,h3⟩:=ih fun y hy=>h y (Qf _ hy);refine⟨a::l,by simp[h1],fun b hb=> ?_,fun i y z hy hz=> ?_⟩
   ·rcases Qw.1 hb with rfl|hb
    ·exact ha
    ·exact h2 b hb
   ·cases i with
    |zero=>simp at hy hz;subst hy;subst hz;exact k
    |succ i=>exact h3 i y z Qg2 (by simpa using hz)
 obtain⟨l,h1,h2,h3⟩:=key;exact⟨l,h1,h2,PLe.ts Qfa fun i x y hx hy=>⟨(h3 i x y hx hy).len,(h3 i x y hx hy).get⟩⟩
theorem Dec.slice{α:Type}{n k:Nat}{t e:TypeId}{c:α->List PV}{K:α->Prop}(D:Dec n e c K)(h:slOf prog t=some (e,k,true)):Dec (n+1) t (fun l:List α=>[.ts k (l.map c)]) fun l=>l.length<=140737488355328/\ ∀a∈l,K a:=fun m x hx=>by
 unfold slOf at h;split at h
 case h_2=>cases h
 rename_i e' hu;simp only[Option.some.injEq,Ys,Xm] at h;obtain⟨h1,h2,hb⟩:=h;subst h1;subst h2;rw[show m+(n+1)=(m+n)+1 by omega] at hx;unfold Shp at hx;rw[hu] at hx;have hx:x=[.nil]\/ ∃els,x=[.ts (prog.cellsOf e') els]/\els.length*prog.bytesOf e'<=reachBytes/\ ∀x∈els,Shp prog (m+n) e' x:=hx;rcases hx with rfl|⟨els,rfl,hl,hels⟩
 ·exact⟨[],⟨Yn _,Qf1⟩,.cons (PLe.nil_ts _) .nil⟩
 ·obtain⟨l,h1,h2,h3⟩:=zj2 (k:=prog.cellsOf e') D m els hels;have:reachBytes=140737488351232:=Qf2;have:=Nat.le_mul_of_pos_right els.length hb;exact⟨l,⟨Qf0,h2⟩,.cons h3 .nil⟩
theorem DecS.nil{n:Nat}:DecS n [] (fun _:Unit=>[]) fun _=>True:=fun m ps h _=>⟨(),trivial,by rw[Xi h];exact .nil⟩
theorem DecS.cons{α β:Type}{n:Nat}{t:TypeId}{ts:List TypeId}{c:α->List PV}{K:α->Prop}{d:β->List PV}{L:β->Prop}(D:Dec n t c K)(E:DecS n ts d L):DecS n (t::ts) (fun a:α×β=>c a.1++d a.2) fun a=>K a.1/\L a.2:=fun m ps h k=>by
 match ps,h with
 |p::ps,h=>
  obtain⟨a,h1,h2⟩:=D m p (k 0 t p rfl rfl);obtain⟨b,h3,h4⟩:=E m ps Qfn fun i t p ht hp=>k (i+1) t p (by simpa using ht) (by simpa using hp);exact⟨(a,b),⟨h1,h3⟩,h2.app h4⟩
theorem Dec.struct{α:Type}{n:Nat}{t:TypeId}{ts:List TypeId}{c:α->List PV}{K:α->Prop}(h:zcS prog t=some ts)(E:DecS n ts c K):Dec (n+1) t c K:=fun m x hx=>by
 unfold zcS at h;split at h
 case h_2=>cases h
 rename_i fs hu;cases h;rw[show m+(n+1)=(m+n)+1 by omega] at hx;unfold Shp at hx;rw[hu] at hx;have hx: ∃parts:List (List PV),parts.length=fs.size/\x=parts.flatten/\ ∀(i:Nat)(f:Field)(p:List PV),fs[i]? =some f->parts[i]? =some p->Shp prog (m+n) f.type p:=hx;obtain⟨ps,hl,rfl,hp⟩:=hx;refine E m ps Qfu fun i t p ht hp'=> ?_;rw[Qu] at ht;cases hf:fs.toList[i]? with
 |none=>rw[hf] at ht;cases ht
 |some f=>
  rw[hf] at ht;cases ht;exact hp i f p (by rw[<-Yi];exact hf) hp'
theorem dI:Dec 0 3 (fun z:Int=>[i64 z]) fun _=>True:=(zj1 Qf3).map id (fun _=>rfl) fun _ _=>trivial
theorem dB:Dec 0 4 (fun z:Bool=>[bo z]) fun _=>True:=zgB Qf3
theorem dS:Dec 0 9 (fun z:BA=>[yQ z]) fun z=>z.size<=140737488355328:=aT Qf3
theorem dSs:Dec 1 128 (fun l:List BA=>[rR l]) fun l=>l.length<=140737488355328/\ ∀s∈l,s.size<=140737488355328:=dS.slice Qf3
theorem dIs:Dec 1 71 (fun l:List Int=>[vF l]) fun l=>l.length<=140737488355328/\ ∀s∈l,True:=dI.slice Qf3
theorem dVl:Dec 1 168 Vl.c Vl.ok:=(Dec.struct (ts:=[3,3,9]) Qf3 (.cons dI (.cons dI (.cons dS .nil)))).map (fun a=>⟨a.1,a.2.1,a.2.2.1⟩) (fun _=>rfl) fun _ h=>h.2.2.1
theorem zs9:Dec 2 50 (fun l:List Vl=>[pH l]) fun l=>l.length<=140737488355328/\ ∀s∈l,s.ok:=dVl.slice Qf3
theorem dSp:Dec 1 54 Sp.c fun _=>True:=(Dec.struct (ts:=[3,3]) Qf3 (.cons dI (.cons dI .nil))).map (fun a=>⟨a.1,a.2.1⟩) (fun _=>rfl) fun _ _=>trivial
theorem dTm:Dec 2 315 Tm.c Tm.ok:=(Dec.struct (ts:=[9,168]) Qf3 (.cons (dS.up Qf2) (.cons dVl .nil))).map (fun a=>⟨a.1,a.2.1⟩) (fun _=>rfl) fun _ h=>⟨h.1,h.2.1⟩
theorem dTms:Dec 3 186 (fun l:List Tm=>[zrX l]) fun l=>l.length<=140737488355328/\ ∀s∈l,s.ok:=dTm.slice Qf3
theorem zeQ(n:Nat):Dec n 3 (fun z:Int=>[i64 z]) fun _=>True:=dI.up (Yn n)
theorem zm4(n:Nat):Dec n 9 (fun z:BA=>[yQ z]) fun z=>z.size<=140737488355328:=dS.up (Yn n)
theorem dLi:Dec 4 194 Li.c Li.ok:=(Dec.struct (ts:=[3,9,3,186,9,9,3,3,3]) Qf3 (.cons (zeQ 3) (.cons (zm4 3) (.cons (zeQ 3) (.cons dTms (.cons (zm4 3) (.cons (zm4 3) (.cons (zeQ 3) (.cons (zeQ 3) (.cons (zeQ 3) .nil)))))))))).map
 (fun a=>⟨a.1,a.2.1,a.2.2.1,a.2.2.2.1,a.2.2.2.2.1,a.2.2.2.2.2.1,a.2.2.2.2.2.2.1,a.2.2.2.2.2.2.2.1,a.2.2.2.2.2.2.2.2.1⟩) (fun _=>rfl) fun _ h=>⟨h.2.1,h.2.2.2.2.1,h.2.2.2.2.2.1,h.2.2.2.1.1,h.2.2.2.1.2⟩
theorem dLis:Dec 5 189 (fun l:List Li=>[.ts 9 (l.map Li.c)]) fun l=>l.length<=140737488355328/\ ∀s∈l,s.ok:=dLi.slice Qf3
theorem dEl:Dec 1 188 El.c fun e=>e.name.size<=140737488355328/\e.var.size<=140737488355328:=(Dec.struct (ts:=[3,9,9,3]) Qf3 (.cons dI (.cons dS (.cons dS (.cons dI .nil))))).map (fun a=>⟨a.1,a.2.1,a.2.2.1,a.2.2.2.1⟩) (fun _=>rfl) fun _ h=>⟨h.2.1,h.2.2.1⟩
theorem dRu:Dec 6 191 Ru.c Ru.ok:=(Dec.struct (ts:=[9,3,186,188,189,3]) Qf3 (.cons (zm4 5) (.cons (zeQ 5) (.cons (dTms.up Qf2) (.cons (dEl.up Qf2) (.cons dLis (.cons (zeQ 5) .nil))))))).map
 (fun a=>⟨a.1,a.2.1,a.2.2.1,a.2.2.2.1,a.2.2.2.2.1,a.2.2.2.2.2.1⟩) (fun _=>rfl) fun _ h=>⟨h.1,h.2.2.2.1.1,h.2.2.2.1.2,h.2.2.1.1,h.2.2.1.2,h.2.2.2.2.1.1,h.2.2.2.2.1.2⟩
theorem dRus:Dec 7 25 (fun l:List Ru=>[.ts 9 (l.map Ru.c)]) fun l=>l.length<=140737488355328/\ ∀s∈l,s.ok:=dRu.slice Qf3
theorem zzO:prog.underlying 308=some (.array 2 3):=Qf3
theorem dPr:Dec 1 308 (fun c:Int×Int=>[i64 c.1,i64 c.2]) fun _=>True:=fun m x hx=>by
 unfold Shp at hx;rw[zzO] at hx;have hx: ∃parts:List (List PV),parts.length=2/\x=parts.flatten/\ ∀p∈parts,Shp prog m 3 p:=hx;obtain⟨ps,hl,rfl,hp⟩:=hx
 match ps,hl,hp with
 | [a,b],_,hp=>
  obtain⟨u,_,h1⟩:=dI m a (hp a Qf1);obtain⟨v,_,h2⟩:=dI m b (hp b Qf1);exact⟨(u,v),trivial,h1.app (h2.app .nil)⟩
theorem dPrs:Dec 2 129 (fun l:List (Int×Int)=>[.ts 2 (l.map fun c=>[i64 c.1,i64 c.2])]) fun l=>l.length<=140737488355328/\ ∀s∈l,True:=dPr.slice Qf3
theorem dLa:Dec 3 131 La.c La.ok:=(Dec.struct (ts:=[9,128,129,3]) Qf3 (.cons (zm4 2) (.cons (dSs.up Qf2) (.cons dPrs (.cons (zeQ 2) .nil))))).map (fun a=>⟨a.1,a.2.1,a.2.2.1,a.2.2.2.1⟩) (fun _=>rfl) fun _ h=>⟨h.1,h.2.1.1,h.2.1.2,h.2.2.1.1⟩
theorem dLas:Dec 4 22 (fun l:List La=>[.ts 4 (l.map La.c)]) fun l=>l.length<=140737488355328/\ ∀s∈l,s.ok:=dLa.slice Qf3
theorem dFu:Dec 2 183 Fu.c Fu.ok:=(Dec.struct (ts:=[9,9,3,128,128,71,3]) Qf3 (.cons (zm4 1) (.cons (zm4 1) (.cons (zeQ 1) (.cons dSs (.cons dSs (.cons dIs (.cons (zeQ 1) .nil)))))))).map
 (fun a=>⟨a.1,a.2.1,a.2.2.1,a.2.2.2.1,a.2.2.2.2.1,a.2.2.2.2.2.1,a.2.2.2.2.2.2.1⟩) (fun _=>rfl) fun _ h=>⟨h.1,h.2.1,h.2.2.2.1.1,h.2.2.2.1.2,h.2.2.2.2.1.1,h.2.2.2.2.1.2,h.2.2.2.2.2.1.1⟩
theorem dFus:Dec 3 23 (fun l:List Fu=>[.ts 7 (l.map Fu.c)]) fun l=>l.length<=140737488355328/\ ∀s∈l,s.ok:=dFu.slice Qf3
theorem dPd:Dec 2 73 Pd.c Pd.ok:=(Dec.struct (ts:=[9,71,9,3,4,3,3]) Qf3 (.cons (zm4 1) (.cons dIs (.cons (zm4 1) (.cons (zeQ 1) (.cons (dB.up Qf2) (.cons (zeQ 1) (.cons (zeQ 1) .nil)))))))).map
 (fun a=>⟨a.1,a.2.1,a.2.2.1,a.2.2.2.1,a.2.2.2.2.1,a.2.2.2.2.2.1,a.2.2.2.2.2.2.1⟩) (fun _=>rfl) fun _ h=>⟨h.1,h.2.2.1,h.2.1.1⟩
theorem dPds:Dec 3 24 (fun l:List Pd=>[.ts 7 (l.map Pd.c)]) fun l=>l.length<=140737488355328/\ ∀s∈l,s.ok:=dPd.slice Qf3
theorem dPg:Dec 8 27 Pg.c Pg.ok:=(Dec.struct (ts:=[22,23,24,25]) Qf3 (.cons (dLas.up Qf2) (.cons (dFus.up Qf2) (.cons (dPds.up Qf2) (.cons dRus .nil))))).map
 (fun a=>⟨a.1,a.2.1,a.2.2.1,a.2.2.2.1⟩) (fun _=>rfl) fun _ h=>⟨h.1.1,h.1.2,h.2.1.1,h.2.1.2,h.2.2.1.1,h.2.2.1.2,h.2.2.2.1.1,h.2.2.2.1.2⟩
def Op1.raw(x:Op1):Prop:=x.args.length<=140737488355328/\ ∀a∈x.args,a.ok
def iP(l:List Op1):Prop:=l.length<=140737488355328/\ ∀x∈l,x.raw
structure Rp.raw(r:Rp):Prop where
 cl:r.cs.length<=140737488355328
 c: ∀x∈r.cs,iP x.ops
 bl:r.bs.length<=140737488355328
 b: ∀x∈r.bs,x.ok
section
variable{H:Type}{enc:TypeId×Value->H}{w:World}{base:Nat}{spare:Nat->Bool}{held:Bool}
theorem Dec.arg{α:Type}{n b0:Nat}{t:TypeId}{c:α->List PV}{K:α->Prop}(D:Dec n t c K){ts:List TypeId}(hs:zcS prog t=some ts)(hok:zg3 prog n t=true){v:Value}{d:DataW H}{ps:List MemPlace}
  (hw:Light prog t d) (hv:Value.okWide prog w .any b0 t v) (h:DataW.Trod enc prog w base spare held t v d ps): ∃a,K a/\VRel ⟨[],[],w,fun _=>False⟩ (.agg (c a)) v:=by
 unfold zcS at hs;split at hs
 case h_2=>cases hs
 rename_i fs hu;obtain⟨vs,rfl,ht,hsh⟩:=zkF (X:=fun _=>False) (fun _ h=>h) hu hok hw hv h;obtain⟨a,hK,hle⟩:=D 0 _ (by rw[Yd];exact hsh);exact⟨a,hK,ht.agg hle.len.symm fun i p q hp hq=>hle.get i p q hp hq⟩
end
end Go.AL
namespace Go.AL
open Go.Proofs Go.Proofs.Tryz
theorem dSps:Dec 2 96 (fun l:List Sp=>[kJ l]) fun l=>l.length<=140737488355328/\ ∀s∈l,True:=dSp.slice Qf3
theorem dCe:Dec 1 208 Ce.c fun _=>True:=(Dec.struct (ts:=[3,3,3]) Qf3 (.cons dI (.cons dI (.cons dI .nil)))).map (fun a=>⟨a.1,a.2.1,a.2.2.1⟩) (fun _=>rfl) fun _ _=>trivial
theorem dCes:Dec 2 160 (fun l:List Ce=>[ces l]) fun l=>l.length<=140737488355328/\ ∀s∈l,True:=dCe.slice Qf3
def Rw.raw(x:Rw):Prop:=x.args.length<=140737488355328/\(∀a∈x.args,a.s.size<=140737488355328)/\x.w.length<=140737488355328
def LRw.raw(x:LRw):Prop:=x.args.length<=140737488355328/\(∀a∈x.args,a.s.size<=140737488355328)/\x.cs.length<=140737488355328
theorem dRw:Dec 3 159 Rw.c Rw.raw:=(Dec.struct (ts:=[50,96]) Qf3 (.cons zs9 (.cons dSps .nil))).map (fun a=>⟨a.1,a.2.1⟩) (fun _=>rfl) fun _ h=>⟨h.1.1,h.1.2,h.2.1.1⟩
theorem dLRw:Dec 3 162 LRw.c LRw.raw:=(Dec.struct (ts:=[50,160]) Qf3 (.cons zs9 (.cons dCes .nil))).map (fun a=>⟨a.1,a.2.1⟩) (fun _=>rfl) fun _ h=>⟨h.1.1,h.1.2,h.2.1.1⟩
theorem dRel:Dec 4 95 (fun l:List Rw=>[uN l]) fun l=>l.length<=140737488355328/\ ∀s∈l,s.raw:=dRw.slice Qf3
theorem dLRel:Dec 4 124 (fun l:List LRw=>[vD l]) fun l=>l.length<=140737488355328/\ ∀s∈l,s.raw:=dLRw.slice Qf3
theorem dRels:Dec 5 28 (fun l:List (List Rw)=>[.ts 1 (l.map fun r=>[uN r])]) fun l=>l.length<=140737488355328/\ ∀s∈l,s.length<=140737488355328/\ ∀x∈s,x.raw:=dRel.slice Qf3
theorem zs3:Dec 5 29 (fun l:List (List LRw)=>[.ts 1 (l.map fun r=>[vD r])]) fun l=>l.length<=140737488355328/\ ∀s∈l,s.length<=140737488355328/\ ∀x∈s,x.raw:=dLRel.slice Qf3
theorem dDt:Dec 6 31 Dt.c Dt.raw:=(Dec.struct (ts:=[28,29]) Qf3 (.cons dRels (.cons zs3 .nil))).map (fun a=>⟨a.1,a.2.1⟩) (fun _=>rfl) fun _ h=>⟨h.1.1,h.2.1.1,h.1.2,h.2.1.2⟩
end Go.AL
