/-
  Part of the walk.
-/
import Derived.Test.YtlcjmejclpilhaaGreatDoorV30
set_option linter.unusedSimpArgs false
set_option linter.unusedVariables false
set_option maxRecDepth 100000
set_option maxHeartbeats 4000000
namespace Go.AL
open Go.Proofs Go.Proofs.Tryz
def yfD(x:CR):CR:=(x.1,x.2.1,x.2.2.ex)
theorem yfF(p:Pg)(b o t:Dt)(i:Nat):zlS p b o t i=zlS p b t o i:=zr9 (ziT _) (ziT _) fun k=>by
 unfold zlS;rw[iY,iY];unfold zy3;simp only[Qo];exact⟨fun h=>h.elim .inl fun h=>h.elim (fun h=> .inr (.inr h)) fun h=> .inr (.inl h),fun h=>h.elim .inl fun h=>h.elim (fun h=> .inr (.inr h)) fun h=> .inr (.inl h)⟩
theorem yfN(p:Pg)(b o t:Dt)(i:Nat)(key:List Vl):(zw4 p b o t i key).map yfD=zw4 p b t o i key:=by
 unfold zw4;rw[<-yeY,Zg,Zg];rfl
theorem ye0(p:Pg)(b o t:Dt): ∀n,(zz9 p b o t n).map yfD=zz9 p b t o n
 |0=>rfl
 | n+1=>by
  show(if (p.pk.getD n zuW).base=true then zz9 p b o t n++(zlS p b o t n).flatMap (zw4 p b o t n) else zz9 p b o t n).map yfD=(if (p.pk.getD n zuW).base=true then zz9 p b t o n++(zlS p b t o n).flatMap (zw4 p b t o n) else zz9 p b t o n);split
  ·rw[Xq,ye0 p b o t n,List.map_flatMap,yfF p b o t n];congr 1;exact zfP fun key _=>yfN p b o t n key
  ·exact ye0 p b o t n
theorem yeZ{p:Pg}{b o t:Dt}: ∀{n:Nat},zz9 p b o t n=[]-> ∀i,i<n->(p.pk.getD i zuW).base=true-> ∀key∈zlS p b o t i,zw4 p b o t i key=[]
 | n+1,h,i,hi,hb,key,hk=>by
  have h':(if (p.pk.getD n zuW).base=true then zz9 p b o t n++(zlS p b o t n).flatMap (zw4 p b o t n) else zz9 p b o t n)=[]:=h;by_cases e:i=n
  ·subst e;rw[Qj hb,List.append_eq_nil_iff,List.flatMap_eq_nil_iff] at h';exact h'.2 key hk
  ·split at h'
   ·rw[List.append_eq_nil_iff] at h';exact yeZ h'.1 i Qf0 hb key hk
   ·exact yeZ h' i Qf0 hb key hk
theorem ye4{p:Pg}{b o t:Dt}(h:zz9 p b o t p.pk.length=[]):zhB p b o t (zlS p b o t)=zhB p b t o (zlS p b t o):=by
 have e:zlS p b o t=zlS p b t o:=funext fun i=>yfF p b o t i;unfold zhB;rw[<-e];refine zsZ _ fun i hi hb key hk m hm=>ye6 ?_;have:=yeZ h i hi hb key hk;unfold zw4 at this;exact zxW.1 (List.map_eq_nil_iff.1 this) m hm
theorem yfT{p:Pg}(hp:p.ok)(hle:p.sm){d:Dt}{N:Nat}(hX:DatX p d)(hL:LenD N d)(hN:N<=140737488355328)(hpl:p.pk.length<=140737488355328):d.cm:=by
 have hS:=zrM hX hL (znP hp hle hX.tv).2;refine⟨by rw[hX.rl];exact hpl,by rw[hX.ll];exact hpl,fun r hr=>⟨Ya (hL.r r hr) hN,fun x hx=> ?_⟩,fun r hr=>⟨Ya (hL.l r hr) hN,fun x hx=> ?_⟩⟩
 ·obtain⟨i,hi,rfl⟩:=Qy hr;obtain⟨-,k⟩:=(hS.r i (by rw[<-hX.rl];exact hi) hi).2 x hx;exact⟨by have:=k.al;omega,fun v hv=>by have:=k.a v hv;omega,by have:=k.w;omega⟩
 ·obtain⟨i,hi,rfl⟩:=Qy hr;have k:=(hS.l i hi).2 x hx;exact⟨by have:=k.1;omega,fun v hv=>by have:=k.2.2 v hv;omega,by have:=k.2.1;omega⟩
theorem yfA{p:Pg}(hp:p.ok)(hle:p.sm){b o t:Dt}(hB:DatX p b)(hO:DatX p o)(hT:DatX p t)(hpl:p.pk.length<=26)(hky: ∀i,(zy3 p b o t i).length<=100000):(zhB p b o t (zlS p b o t)).cm:=by
 obtain⟨h1,h2⟩:=ztX hp hle (zxU hp hle hB.tv) hB hO hT hky p.pk.length (Xe _);rw[zwS hp hle hB hO hT] at h1 h2;exact yfT hp hle h1 h2 Qf0 Qf0
theorem yeK{p:Pg}{d:Dt}(h:d.cm){i:Nat}{key:List Vl}(hk:key∈zaH p d i):key.length<=140737488355328/\ ∀v∈key,v.s.size<=140737488355328:=by
 obtain⟨-, -,h3,h4⟩:=h;have m1: ∀{α:Type}{l:List (List α)}{x:α},x∈l.getD i []-> ∃r∈l,x∈r:=fun {α l x} hx=>by
  rcases Xy i l.length with q|q
  ·rw[eD q] at hx;exact⟨_,Qc q,hx⟩
  ·rw[Qb,Ye q] at hx;cases hx
 unfold zaH at hk;rcases Qo.1 hk with hk|hk
 ·obtain⟨x,hx,rfl⟩:=Xf.1 hk;obtain⟨r,hr,hx⟩:=m1 hx;have k:=(h3 r hr).2 x hx;exact⟨by have:=k.1;rw[Xk];omega,fun v hv=>k.2.1 v (Zk hv)⟩
 ·obtain⟨x,hx,rfl⟩:=Xf.1 hk;obtain⟨r,hr,hx⟩:=m1 hx;have k:=(h4 r hr).2 x hx;exact⟨by have:=k.1;rw[Xk];omega,fun v hv=>k.2.1 v (Zk hv)⟩
def yfZ(o:Option Fa):Prop:= ∀g,o=some g->g.args.length<=140737488355328
structure CfG(x:CR):Prop where
 k:x.2.1.length<=140737488355328
 v: ∀v∈x.2.1,v.s.size<=140737488355328
 w:x.2.2.w.length<=140737488355328
 b:yfZ x.2.2.b
 o:yfZ x.2.2.o
 t:yfZ x.2.2.t
theorem yeX{p:Pg}(hp:p.ok)(hle:p.sm){d:Dt}(hX:DatX p d){i:Nat}{key:List Vl}{m:Nat}(hm:m<64)(hv: ∀v∈key,VIn v):yfZ (ztF p d i key m):=fun g hg=>by
 have:=(FcX.gd hp hle hX (zu9 hp hle hX hm hv hg)).1.1;omega
theorem yfH{p:Pg}(hp:p.ok)(hle:p.sm){b o t:Dt}(hB:DatX p b)(hO:DatX p o)(hT:DatX p t)(cb:b.cm)(co:o.cm)(ct:t.cm): ∀n,n<=p.pk.length-> ∀x∈zz9 p b o t n,CfG x
 |0,_,x,h=>by cases h
 | n+1,hn,x,h=>by
  have h':x∈(if (p.pk.getD n zuW).base=true then zz9 p b o t n++(zlS p b o t n).flatMap (zw4 p b o t n) else zz9 p b o t n):=h;have ih:=yfH hp hle hB hO hT cb co ct n Qf0 x;split at h'
  case isFalse=>exact ih h'
  rename_i hb;rcases Qo.1 h' with h'|h'
  ·exact ih h'
  obtain⟨key,hk,h'⟩:=Jg.1 h';unfold zw4 at h';obtain⟨y,hy,rfl⟩:=Xf.1 h';obtain⟨m,hm,e1,e2,e3,w,hw,e4⟩:=ztM hy;have hi:n<p.pk.length:=Qf0;have hb':p.pk[n].base=true:=Qh3;have hv:=zjS hp hle hB hO hT hi hb' hk;have hkk:key.length<=140737488355328/\ ∀v∈key,v.s.size<=140737488355328:=by
   rcases (zvJ hp hle hB hO hT hi hb' key).1 hk with q|q|q
   ·exact yeK cb q
   ·exact yeK co q
   ·exact yeK ct q
  refine⟨hkk.1,hkk.2,?_,?_,?_,?_⟩
  ·show y.w.length<=_;rw[e4];have:=zuX hw;omega
  ·show yfZ y.b;rw[e1];exact yeX hp hle hB hm hv
  ·show yfZ y.o;rw[e2];exact yeX hp hle hO hm hv
  ·show yfZ y.t;rw[e3];exact yeX hp hle hT hm hv
theorem ye1{p:Pg}{b o t:Dt}(hky: ∀i,(zy3 p b o t i).length<=100000): ∀n,(zz9 p b o t n).length<=6400000*n
 |0=>Xe _
 | n+1=>by
  have ih:=ye1 hky n;show(if (p.pk.getD n zuW).base=true then zz9 p b o t n++(zlS p b o t n).flatMap (zw4 p b o t n) else zz9 p b o t n).length<=_;split
  ·rw[Ql];have h1:=zw9 (f:=zw4 p b o t n) (k:=64) (fun a=>by unfold zw4;rw[Qr];exact zvP 64) (zlS p b o t n);have h2:(zlS p b o t n).length<=100000:=Ya (zhM _) (hky n);omega
  ·omega
@[go_sem] def UMz2f12.pl:Nat->DPlan
 |6=>⟨[yA,yA,yA,yA,yB,yA,yA,yA,yA,yB,yA,yA,yA,yA,yA,yA,yB,yA,yA,yA,yA,yB,yC,yA,yA,yA,yA,yA,yA,yA,yB,yA,yA,yA,yA,yB,yC,yA,yA,yA,yA,yA,yA,yA,yB,yA,yA,yA,yA,yB,yC,yA,yA,yA,yA,yA,yA,yA,yB,yA,yA,yA,yA,yB,yC,yA,yA,yA,yA,yA,yA,yA,yB,yA,yA,yA,yA,yB,yC,yA,yA],[0,1,2,3,4,5,6,7,8,9,10,11,12,13,14,15,16,17,18,19,20,21,22,23,24,25,26,27,28,29,30,31,32,33,34,35,36,37,38,39,40,41,42,43,44,45,46,47,48,49,50,51,52,53,54,55,56,57,58,59,60,61,62,63,64,65,66,67,68,69,70,71,72,73,74,75,76,77,78,79,80],0⟩
 |_=>⟨[],[],0⟩
@[go_sem] def UMz2f13.pl:Nat->DPlan
 |5=>⟨[yA,yA,yA,yA,yA,yA,yA,yA,yB,yA,yA,yA,yA,yB,yA,yA,yC,yA,yA,yC],yfQ,0⟩
 |_=>⟨[],[],0⟩
theorem yeE(i:Int)(o:Option Fa)(h:yfZ o):EPure prog G0 32 [.agg [i64 (fP i o),fA o,i64 (fE o)],.agg [i64 (fP i o),fA o,i64 (fE o)]] fun r=>r=bo true:=by
 cases o with
 |none=>
  have k:=yeF ⟨i,[], -1⟩ ⟨i,[], -1⟩ Qf1;rw[Yz ⟨rfl,rfl,rfl⟩] at k;exact EPure.args k (.cons (PLes.agg (.cons (PLe.refl _) (.cons (PLe.nil_ts 3) (.cons (PLe.refl _) .nil)))) (.cons (PLes.agg (.cons (PLe.refl _) (.cons (PLe.nil_ts 3) (.cons (PLe.refl _) .nil)))) .nil))
 |some g=>
  have k:=yeF g g (h g rfl);rw[Yz ⟨rfl,rfl,rfl⟩] at k;exact k
theorem yfI(o:Option Fa):Tree (fA o):=yP 40 _ (yfP 38 o)
theorem yfG(x:CR):zt8 x=[i64 x.1,pH x.2.1,kJ x.2.2.w,i64 (fP x.1 x.2.2.b),fA x.2.2.b,i64 (fE x.2.2.b),i64 (fP x.1 x.2.2.o),fA x.2.2.o,i64 (fE x.2.2.o),i64 (fP x.1 x.2.2.t),fA x.2.2.t,i64 (fE x.2.2.t)]:=rfl
open UMz2f12 in
theorem yfB(L:List CR)(hl:L.length<=140737488355328)(hg: ∀x∈L,CfG x):EPure prog G0 12 [.ts 12 (L.map zt8),.ts 12 (L.map zt8)] fun r=>r=bo true:=by
 refine ECall.pure (pv func12 98 false Qf3 rfl rfl ?_);refine g2 ?_;have h0:((L.length:Int)!=(L.length:Int))=false:=Qf1;refine gf @h0 ?_;refine zO L.length (K4 (.d:: .v::K4 (.k::D9 (D9 (D9 (D9 (D9 (D9 (D9 (D9 (D9 (D4 (.d:: .d::[]))))))))))))) (own:=false) (fun i (_:Unit)=>[i64 i]) (fun _=>_) (fun _ _=>True) () rfl rfl trivial hl ?_ ?_
 ·exact Qep
 ·rintro i _ hi hw _;refine gm ?_;have hx:=zG (f:=zt8) [] hi;have hgx:=hg _ (Qc hi);generalize L[i]=x at*;rw[yfG] at hx;have F:=(a4 @hi @hx @hw @zB)
  obtain⟨g1,g2,g3,g4,g5,g6⟩:=hgx;have k1:=(zyB x.2.1 g1 g2).call zK Qf1;have k2:=(zyC x.2.2.w g3).call zK Qf1;have k3:=(yeE x.1 x.2.2.b g4).call zK (by simp[zJ,yfI]);have k4:=(yeE x.1 x.2.2.o g5).call zK (by simp[zJ,yfI]);have k5:=(yeE x.1 x.2.2.t g6).call zK (by simp[zJ,yfI]);refine zjA F ?_;simp only[List.append_eq,Xx,Yj,Xa,Wj];refine zjA F ?_;(refine vY ?_;refine zN rfl rfl rfl ?_;intro sr hsr;simp only[sK,wP] at hsr;subst hsr;(first|refine pK ?_|refine pL ?_);intro sr hsr;simp only[go_sem,F,Jw] at hsr;subst hsr;refine zP Qf2 Qf2 (k1 _) ?_;intro p2 h2 hr2;refine Go.AL.g2 ?_);obtain ⟨rfl,rfl⟩:=hr2;refine zjA F ?_;(refine vY ?_;refine zN rfl rfl rfl ?_;intro sr hsr;simp only[sK,wP] at hsr;subst hsr;(first|refine pK ?_|refine pL ?_);intro sr hsr;simp only[go_sem,F,Jw] at hsr;subst hsr;refine zP Qf2 Qf2 (k2 _) ?_;intro p2 h2 hr2;refine Go.AL.g2 ?_);obtain ⟨rfl,rfl⟩:=hr2;refine zjA F ?_;(refine vY ?_;refine zN rfl rfl rfl ?_;intro sr hsr;simp only[sK,wP] at hsr;subst hsr;(first|refine pK ?_|refine pL ?_);intro sr hsr;simp only[go_sem,F,Jw] at hsr;subst hsr;refine zP Qf2 Qf2 (k3 _) ?_;intro p2 h2 hr2;refine Go.AL.g2 ?_);obtain ⟨rfl,rfl⟩:=hr2;refine zjA F ?_;(refine vY ?_;refine zN rfl rfl rfl ?_;intro sr hsr;simp only[sK,wP] at hsr;subst hsr;(first|refine pK ?_|refine pL ?_);intro sr hsr;simp only[go_sem,F,Jw] at hsr;subst hsr;refine zP Qf2 Qf2 (k4 _) ?_;intro p2 h2 hr2;refine Go.AL.g2 ?_);obtain ⟨rfl,rfl⟩:=hr2;refine zjA F ?_;(refine vY ?_;refine zN rfl rfl rfl ?_;intro sr hsr;simp only[sK,wP] at hsr;subst hsr;(first|refine pK ?_|refine pL ?_);intro sr hsr;simp only[go_sem,F,Jw] at hsr;subst hsr;refine zP Qf2 Qf2 (k5 _) ?_;intro p2 h2 hr2;refine Go.AL.g2 ?_);obtain ⟨rfl,rfl⟩:=hr2;refine zjA F ?_;exact Qb9
theorem yeV(A R ps:List PV)(n:Nat):splice (A++R) (A.length+n) ps=A++splice R n ps:=by
 unfold splice;rw[List.take_length_add_append,Ji,List.drop_length_add_append,Qv,Qv,Qv]
theorem ye5(A R ps:List PV)(n:Nat)(h:n+ps.length<=A.length):splice (A++R) n ps=splice A n ps++R:=by
 unfold splice;rw[Uk Qf0,List.drop_append_of_le_length h,Qv,Qv,Qv]
theorem yeI{α:Type}{f:α->List PV}{k:Nat}(hf: ∀a,(f a).length=k){o:Nat}{ps:List PV}(ho:o+ps.length<=k): ∀{l:List α}{i:Nat}{x y:α},l[i]? =some x->splice (f x) o ps=f y->splice (l.flatMap f) (i*k+o) ps=(l.set i y).flatMap f
 |a::l,0,x,y,hx,e=>by
  simp at hx;subst hx;rw[Yp,Ki,Yd,ye5 _ _ _ _ (by rw[hf];exact ho),e];rfl
 |a::l,i+1,x,y,hx,e=>by
  have e1:(i+1)*k+o=(f a).length+(i*k+o):=by rw[hf,Nat.succ_mul];omega
  rw[Yp,e1,yeV,yeI hf ho Qfz e];rfl
def yeR(L:List CR)(i:Nat):List CR:=(L.take i).map yfD++L.drop i
theorem yeN(L:List CR)(i:Nat):(yeR L i).length=L.length:=by unfold yeR;rw[Ql,Qr,<-Ql,Kk]
theorem yfS{L:List CR}{i:Nat}(h:i<L.length):(yeR L i)[i]? =some L[i]:=by
 unfold yeR;rw[Zj (by rw[Qr,Xk];omega),Qr,Xk,Jx Qf0,Nat.sub_self,Yg,Wn,Qa h]
theorem yfL{L:List CR}{i:Nat}(h:i<L.length):(yeR L i).set i (yfD L[i])=yeR L (i+1):=by
 unfold yeR;rw[Zr _ _ (by rw[Qr,Xk];omega),Qr,Xk,Jx Qf0,Nat.sub_self,Zt h,Xn,Xh h,Xq,Qv];rfl
theorem yfM(L:List CR):yeR L L.length=L.map yfD:=by unfold yeR;rw[Yt,Um,Xz]
def yfU(x:CR):CR:=(x.1,x.2.1,⟨x.2.2.b,x.2.2.t,x.2.2.t,x.2.2.w⟩)
theorem spl_o(x:CR):splice (zt8 x) 6 [i64 (fP x.1 x.2.2.t),fA x.2.2.t,i64 (fE x.2.2.t)]=zt8 (yfU x):=rfl
theorem spl_t(x:CR):splice (zt8 (yfU x)) 9 [i64 (fP x.1 x.2.2.o),fA x.2.2.o,i64 (fE x.2.2.o)]=zt8 (yfD x):=rfl
theorem yfX: ∀l:List CR,(l.flatMap zt8).length=l.length*12
 | []=>rfl
 |x::l=>by rw[Yp,Ql,yfX l,ztK,Qn];omega
theorem ck0:wA ([]:List PV) 0 12 0=[]:=rfl
open UMz2f13 in
theorem yfK(L:List CR)(hl:L.length<=1000000000):EPure prog G0 13 [.ts 12 (L.map zt8)] fun v=>v= .ts 12 ((L.map yfD).map zt8):=by
 rcases Yr L.length with h0|h0
 ·obtain rfl:=Xi h0;refine ECall.cutW (R:=fun v h=>v= .ts 12 []\/v= .tc 12 []) (pv func13 33 true Qf3 rfl rfl ?_) ?_;refine g2 ?_
  ·refine gf @ck0 ?_;refine zO 0 (K4 (.v:: .k:: .k:: .k::D9 (D9 (D4 (.d:: .d:: .k::[]))))) (own:=true) (fun i (_:Unit)=>[i64 i]) (fun _=>[]) (fun _ _=>True) () rfl rfl trivial Qf0 ?_ (fun i _ h=>absurd h (Xt _));rintro _ _;refine gm ?_;have hc0:decide (((0:Nat):Int)<0)=false:=rfl;(repeat(first|refine gz ?_|(refine gn ?_;intro zs zh;(try simp only[go_sem,hc0,Xv] at zh);subst zh;refine gv ?_)|refine yD UMz2f13.pl ?_));exact .inr rfl
  ·rintro v h (rfl|rfl)
   ·exact⟨.ts 12 [],by rw[vE 0 h 40 _ rfl];exact PLe.refl _,rfl,yP 40 _ rfl⟩
   ·exact⟨.ts 12 [],by rw[vE 0 h 40 _ rfl];exact PLe.tc_ts _ _,rfl,yP 40 _ rfl⟩
 refine ECall.cutW (R:=fun v h=>v= .ms 0 0 12 (L.map yfD).length/\h[0]? =some (.var 98 ((L.map yfD).flatMap zt8))) (pv func13 33 true Qf3 rfl rfl ?_) ?_;refine g2 ?_
 ·have hzo:((zS prog 98).map fun z=>wI (nI z))=some true:=Qf3;obtain⟨zc,hzc,hzs⟩: ∃zc,zS prog 98=some zc/\wI (nI zc)=true:=by
   exact Qce
  have htp:wD prog 34=some (98,12,176):=Qf3;obtain⟨x0,L',rfl⟩: ∃a l,L=a::l:=by cases L with|nil=>simp at h0|cons a l=>exact⟨a,l,rfl⟩
  rw[Qn] at hl;have hb1:((L'.length+1)*176<=140737488355328)=True:=Yk Qf0;have hb2:(L'.length<=140737488355327)=True:=Yk Qf0;(repeat(first|refine gz ?_|(refine gn ?_;intro zs zh;(try simp only[go_sem,ck0,Xa,Qr,Xv,hb1,hb2] at zh);subst zh;refine gv ?_)|refine yD UMz2f13.pl ?_));rw[<-Qn (a:=x0)] at hl;have hLn:L'.length+1=(x0::L').length:=rfl;rw[hLn];have hfl:zt8 x0++(L'.map zt8).flatten=(yeR (x0::L') 0).flatMap zt8:=by simp[yeR,List.flatMap_def]
  rw[hfl,<-Xa];clear hfl hLn hb1 hb2;generalize x0::L'=L at*;refine zO L.length (K4 (.v:: .k:: .k:: .k::D9 (D9 (D4 (.d:: .d:: .k::[]))))) (own:=true) (fun i (_:Heap)=>[i64 i]) (fun s=>s) (fun i s=>s=[.var 98 ((yeR L i).flatMap zt8)]) _ rfl rfl rfl Qf0 ?_ ?_
  ·rintro s rfl;refine gm ?_;rw[yfM];refine gf @zM ?_;exact⟨by rw[Qr],rfl⟩
  ·rintro i s hi hw rfl;refine gm ?_;have hx:=zG (f:=zt8) [] hi;have hat:=yfS hi;have hst:=yfL hi;have hlen:((yeR L i).flatMap zt8).length=L.length*12:=by rw[yfX,yeN]
   have sp1:(((yeR L i).flatMap zt8).take (i*12+6)++i64 (fP L[i].1 L[i].2.2.t)::fA L[i].2.2.t::i64 (fE L[i].2.2.t)::((yeR L i).flatMap zt8).drop (i*12+6+3))=((yeR L i).set i (yfU L[i])).flatMap zt8:=by
    have:=yeI (f:=zt8) (ps:=[i64 (fP L[i].1 L[i].2.2.t),fA L[i].2.2.t,i64 (fE L[i].2.2.t)]) ztK Qf1 hat (spl_o L[i]);simpa [splice] using this
   have hat2:((yeR L i).set i (yfU L[i]))[i]? =some (yfU L[i]):=Qh (by rw[yeN];exact hi);have sp2:((((yeR L i).set i (yfU L[i])).flatMap zt8).take (i*12+9)++i64 (fP L[i].1 L[i].2.2.o)::fA L[i].2.2.o::i64 (fE L[i].2.2.o)::(((yeR L i).set i (yfU L[i])).flatMap zt8).drop (i*12+9+3))=(yeR L (i+1)).flatMap zt8:=by
    have:=yeI (f:=zt8) (ps:=[i64 (fP L[i].1 L[i].2.2.o),fA L[i].2.2.o,i64 (fE L[i].2.2.o)]) ztK Qf1 hat2 (spl_t L[i]);rw[Wi,hst] at this;simpa [splice] using this
   have hlen2:(((yeR L i).set i (yfU L[i])).flatMap zt8).length=L.length*12:=by rw[yfX,Xb,yeN]
   have ho1:(i*12+6+3<=L.length*12)=True:=Yk Qf0;have ho2:(i*12+9+3<=L.length*12)=True:=Yk Qf0;generalize ((yeR L i).set i (yfU L[i])).flatMap zt8=F2 at*;generalize (yeR L i).flatMap zt8=F1 at*;generalize (yeR L (i+1)).flatMap zt8=F3 at*;generalize L[i]=x at*;rw[yfG] at hx;refine gf (a9 @hi @hw @hx @zB @hlen @hlen2 @ho1 @ho2 (a2 @sp1 @sp2)) ?_;exact⟨_,rfl,rfl,rfl,rfl⟩
 ·rintro v h ⟨rfl,hr⟩;refine⟨.ts 12 ((L.map yfD).map zt8),?_,rfl,yP 40 _ ?_⟩
  ·rw[fzM 39 0 0 12 _ hr,zy8 (fun q hq=>by obtain⟨a, -,hq⟩:=Jg.1 hq;exact yaM 37 a q hq)];have:=rL 12 ((L.map yfD).map zt8) (fun e he=>by obtain⟨a, -,rfl⟩:=Xf.1 he;exact ztK a);rw[Qr] at this;rw[List.flatMap_def,this];exact PLe.refl _
  ·refine Qe6 ?_;exact fun a _ q hq=>yaM 37 _ q hq
@[go_sem] def UMz3f11.pl:Nat->DPlan
 |9=>⟨[yB,yB,yA,⟨6,0,[1004,1006,1004,1007]⟩,⟨7,0,[1004]⟩,⟨7,0,[1006]⟩,yA,⟨6,0,[1004,1007]⟩,⟨7,0,[1004]⟩,⟨7,0,[1007]⟩,yA,yC,yA,yA,yA],yG,0⟩
 |13=>⟨[yA,⟨7,0,[1004]⟩,yA,yA,yA,⟨6,0,[1004]⟩,yA,yA,yA,⟨6,0,[1004]⟩,yA,yA,yA,⟨6,0,[1004]⟩,yC,yC,yA],wR,0⟩
 |_=>⟨[],[],0⟩
open UMz3f11 in
theorem Three_bad(p:Pg)(hp:p.ok)(hle:p.sm)(x y z:Dt)(hx:x.sz)(hy:y.sz)(hz:z.sz)(hn: ¬(DatX p x/\DatX p y/\DatX p z)):
  EPure prog G0 11 [.agg p.c,.agg x.c,.agg y.c,.agg z.c] fun v=>v= .tup [.agg dtN.c,.ts 12 []]:=by
 refine ECall.cutW (R:=fun v _=>v= .tup [.agg [.nil,.nil],.nil]) (pv func11 91 false Qf3 rfl rfl ?_) ?_;refine g2 ?_
 ·refine ge ?_;(refine g1 ?_;refine zC ((zeD p hp hle x hx).call zK Qfb _) (yf0 ?_);rintro p2 h2 ⟨rfl,rfl⟩);by_cases hX:DatX p x
  case neg=>
   rw[uA hX];refine ge ?_;rfl
  rw[pO hX];refine ge ?_;(refine g1 ?_;refine zC ((zeD p hp hle y hy).call zK Qfb _) (yf0 ?_);rintro p2 h2 ⟨rfl,rfl⟩);by_cases hY:DatX p y
  case neg=>
   rw[uA hY];refine ge ?_;rfl
  rw[pO hY];refine ge ?_;(refine g1 ?_;refine zC ((zeD p hp hle z hz).call zK Qfb _) (yf0 ?_);rintro p2 h2 ⟨rfl,rfl⟩);by_cases hZ:DatX p z
  case pos=>exact absurd ⟨hX,hY,hZ⟩ hn
  rw[uA hZ];refine ge ?_;rfl
 ·rintro v h rfl;exact⟨.tup [.agg dtN.c,.ts 12 []],by rw[vE 0 h 40 _ rfl];exact PLes.tup (.cons (PLes.agg (.cons (PLe.nil_ts 1) (.cons (PLe.nil_ts 1) .nil))) (.cons (PLe.nil_ts 12) .nil)),rfl,yP 40 _ rfl⟩
theorem ye3(p:Pg)(hp:p.ok)(hle:p.sm)(hpn:p.pk.length<=26)(b o t:Dt)(hb:b.sz)(ho:o.sz)(ht:t.sz)(kb:b.few14)(ko:o.few14)(kt:t.few14): ∃(D D':Dt)(L:List CR),
  EPure prog G0 11 [.agg p.c,.agg b.c,.agg o.c,.agg t.c] (fun v=>v= .tup [.agg D.c,.ts 12 (L.map zt8)])/\
  EPure prog G0 11 [.agg p.c,.agg b.c,.agg t.c,.agg o.c] (fun v=>v= .tup [.agg D'.c,.ts 12 ((L.map yfD).map zt8)])/\
  (L=[]->D'=D)/\D.cm/\L.length<=1000000000/\ ∀x∈L,CfG x:=by
 by_cases h:DatX p b/\DatX p o/\DatX p t
 ·obtain⟨hB,hO,hT⟩:=h;have ky:=zxP p kb ko kt;have k1:=Three_x p hp hle b o t hb ho ht hB hO hT Qf0 ky;have k2:=Three_x p hp hle b t o hb ht ho hB hT hO Qf0 (zxP p kb kt ko);rw[<-ye0] at k2;exact⟨_,_,_,k1,k2,fun e=>(ye4 e).symm,yfA hp hle hB hO hT hpn ky,by have:=ye1 ky p.pk.length;omega,yfH hp hle hB hO hT (ye2 hb) (ye2 ho) (ye2 ht) _ (Xe _)⟩
 ·exact⟨dtN,dtN,[],Three_bad p hp hle b o t hb ho ht h,Three_bad p hp hle b t o hb ht ho fun w=>h ⟨w.1,w.2.2,w.2.1⟩,fun _=>rfl,⟨Qf1,Qf1,Qf1,Qf1⟩,Qf1,Qf1⟩
theorem exG{L:List CR}(h: ∀x∈L,CfG x): ∀x∈L.map yfD,CfG x:=fun x hx=>by
 obtain⟨y,hy,rfl⟩:=Xf.1 hx;have k:=h y hy;exact⟨k.k,k.v,k.w,k.b,k.t,k.o⟩
theorem yfE(a:CR): ∀p∈zt8 a,Tree p:=fun p hp=>yP 40 _ (yaM 38 a p hp)
theorem yfR(hhead:EPure prog G0 9 [] fun v=>v=bo true)(p:Pg)(hp:p.ok)(x y z:Dt)(hx:x.raw)(hy:y.raw)(hz:z.raw):
  EPure prog G0 3 [.agg p.c,.agg x.c,.agg y.c,.agg z.c] fun v=>v=bo true:=by
 refine ECall.cut (R:=fun v _=>v=bo true) (pv func3 55 false Qf3 rfl rfl ?_) Qgi;refine g2 ?_;refine ge ?_;(refine g1 ?_;refine zC (hhead.call zK Qf1 _) (yf0 ?_);rintro p2 h2 ⟨rfl,rfl⟩);refine ge ?_;(refine g1 ?_;refine zC ((zyX p hp x y z hx hy hz).call zK Qfb _) (yf0 ?_);rintro p2 h2 ⟨⟨b,rfl,h0⟩,rfl⟩);cases b with
 |false=>
  refine ge ?_;rfl
 | true=>
  obtain⟨f7,k1,k2,k3⟩:=h0 rfl;have hle:p.sm:=fun a ha=>by have:=f7.1 a ha;omega
  obtain⟨D,D',L,c1,c2,e,dc,ll,lg⟩:=ye3 p hp hle f7.2 x y z (hx.sz14 k1) (hy.sz14 k2) (hz.sz14 k3) k1 k2 k3;have c3:=yfK L ll;have c4:=yfB (L.map yfD) (by rw[Qr];omega) (exG lg);have cs:=zyO D dc;refine ge ?_;(refine g1 ?_;refine zC (c1.call zK Qfb _) (yf0 ?_);rintro p2 h2 ⟨rfl,rfl⟩);refine ge ?_;(refine g1 ?_;refine zC (c2.call zK Qfb _) (yf0 ?_);rintro p2 h2 ⟨rfl,rfl⟩);refine ge ?_;(refine g1 ?_;refine zC (c3.call zK (by simp[zJ];exact fun a b c _=>yfE _) _) (yf0 ?_);rintro p2 h2 ⟨rfl,rfl⟩);refine ge ?_;(refine g1 ?_;refine zC (c4.call zK (by simp[zJ];exact fun a b c _=>yfE _) _) (yf0 ?_);rintro p2 h2 ⟨rfl,rfl⟩);cases L with
  |nil=>
   obtain rfl:=e rfl;have w0:(decide ((0:Int)<((0:Nat):Int)))=false:=Qf2;refine gf @w0 ?_;(refine g1f @w0 ?_;refine zC (cs.call zK Qfb _) (yf0 ?_);rintro p2 h2 ⟨rfl,rfl⟩);refine gf @w0 ?_;rfl
  |cons a L=>
   have w0:decide ((0:Int)<((L.length+1:Nat):Int))=true:=Yz Qf0;refine gf @w0 ?_;rfl
theorem yfJ(p:Pg)(hp:p.ok)(x:Dt)(hx:x.raw)(y:Dt)(hy:y.raw)(z:Dt)(hz:z.raw):EPure prog G0 3 [.agg p.c,.agg x.c,.agg y.c,.agg z.c] fun v=>v=bo true:=yfR zyE p hp x y z hx hy hz
end Go.AL
