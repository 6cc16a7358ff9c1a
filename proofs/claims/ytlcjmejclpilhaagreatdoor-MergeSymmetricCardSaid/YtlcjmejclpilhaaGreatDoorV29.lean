/-
  Part of the walk.
-/
import Derived.Test.YtlcjmejclpilhaaGreatDoorV28
set_option linter.unusedSimpArgs false
set_option linter.unusedVariables false
set_option maxRecDepth 100000
set_option maxHeartbeats 4000000
namespace Go.AL
open Go.Proofs Go.Proofs.Tryz
theorem ziD{b o t:Option Fa}{m:Nat}: ∀{l:List Cf},(∀x∈l, ¬(x.b=b/\x.o=o/\x.t=t))->zc4 b o t m l=l++[⟨b,o,t,yW (zo2 ⟨m,(m:Int)+1⟩)⟩]
 | [],_=>rfl
 |x::l,h=>by
  unfold zc4;rw[uA (h x (Qe ..)),Qi Qf2,ziD fun y hy=>h y (Qf _ hy)];rfl
abbrev Cf.tr(x:Cf):Option Fa×Option Fa×Option Fa:=(x.b,x.o,x.t)
theorem zmD{b o t:Option Fa}{m:Nat}: ∀{l:List Cf}{k:Nat}{x:Cf},(l.map Cf.tr).Nodup->l[k]? =some x->x.b=b/\x.o=o/\x.t=t->zc4 b o t m l=l.set k ⟨b,o,t,yW (uQ x.w ||| zo2 ⟨m,(m:Int)+1⟩)⟩
 |y::l,0,x,_,hk,h=>by
  simp at hk;subst hk;unfold zc4;rw[pO h,Qj rfl];rfl
 |y::l,k+1,x,hn,hk,h=>by
  rw[Xa,Zs] at hn;have hk':l[k]? =some x:=Qft;unfold zc4;rw[uA fun w=>hn.1 ?_,Qi Qf2,zmD hn.2 hk' h];rfl;refine Xf.2 ⟨x,Qk hk',?_⟩;obtain⟨h1,h2,h3⟩:=h;obtain⟨w1,w2,w3⟩:=w;simp only[Cf.tr,h1,h2,h3,w1,w2,w3]
def ztE(i:Int)(key:List Vl)(x:Cf):List PV:=[i64 i,pH key,kJ x.w,i64 (fP i x.b),fA x.b,i64 (fE x.b),i64 (fP i x.o),fA x.o,i64 (fE x.o),i64 (fP i x.t),fA x.t,i64 (fE x.t)]
def ze3(l:List Cf):List (Value×PV):=l.zipIdx.map fun x=>(Value.agg (kG x.1.b x.1.o x.1.t),i64 x.2)
theorem zwK(l:List Cf)(x:Cf):ze3 (l++[x])=ze3 l++[(Value.agg (kG x.b x.o x.t),i64 l.length)]:=by
 unfold ze3;rw[List.zipIdx_append,Xq];simp
theorem znV{l:List Cf}{j:Nat}{q:Value×PV}(h:(ze3 l)[j]? =some q): ∃x,l[j]? =some x/\q=(Value.agg (kG x.b x.o x.t),i64 j):=by
 unfold ze3 at h;rw[Qu,Kr] at h;cases hj:l[j]? with
 |none=>rw[hj] at h;cases h
 |some x=>rw[hj] at h;simp at h;exact⟨x,rfl,h.symm⟩
theorem zwJ{l:List Cf}{k:Nat}{x y:Cf}(hk:l[k]? =some x)(h:y.b=x.b/\y.o=x.o/\y.t=x.t):ze3 (l.set k y)=ze3 l:=by
 refine Zh fun j=> ?_;unfold ze3;rw[Qu,Qu,Kr,Kr,Qq];split
 ·rename_i e;subst e;have hkl:=(gsi hk).1;rw[Qj hkl,hk];simp[h.1,h.2.1,h.2.2]
 ·rfl
theorem GdO.key{i:Int}{o:Option Fa}(h:GdO i o):(sA o).size<=maxLen/\(Lit.int .i64 (sE o)).wf=true:=by
 cases o with
 |none=>exact⟨Qf2,Qf2⟩
 | some g=>
  obtain⟨-,k,e⟩:=h g rfl;refine⟨?_,?_⟩
  ·have h1:=zxT (l:=g.args) fun v hv=>(zqC v).2 (k.2 v hv);have h2:(cS g.args).size=(g.args.flatMap zhA).length:=by simp[cS,ByteArray.size]
   have:=k.1;show(cS g.args).size<=_;rw[h2,zdI];omega
  ·show(Lit.int .i64 g.elem).wf=true;simp only[Lit.wf,Qt,Xm,zhI,zhJ];exact e
theorem zr3{i:Int}{a b c:Option Fa}(ha:GdO i a)(hb:GdO i b)(hc:GdO i c): ∃l,keyOf prog 214 (.agg (kG a b c))=some l:=
 zyT _ _ _ _ _ _ _ _ _ ha.key.1 hb.key.1 hc.key.1 ha.key.2 hb.key.2 hc.key.2
theorem zr4{i:Int}{a b c a' b' c':Option Fa}(ha:GdO i a)(hb:GdO i b)(hc:GdO i c)(ha':GdO i a')(hb':GdO i b')(hc':GdO i c')(h:Value.agg (kG a b c)= .agg (kG a' b' c')):a=a'/\b=b'/\c=c':=by
 simp only[Value.agg.injEq,kG] at h;have h:=Ym Array.toList h;simp only[List.cons.injEq,Value.string.injEq,Value.int.injEq,Value.bool.injEq,true_and,and_true] at h;obtain⟨h1,h2,h3,h4,h5,h6,h7,h8,h9⟩:=h;exact⟨zoX.1 (by rw[<-zu8 ha ha',h1,h2,h3];simp),zoX.1 (by rw[<-zu8 hb hb',h4,h5,h6];simp),zoX.1 (by rw[<-zu8 hc hc',h7,h8,h9];simp)⟩
theorem FcX.gd{p:Pg}(hp:p.ok)(hle:p.sm){X:Dt}(hX:DatX p X){i:Nat}{key:List Vl}{g:Fa}(h:FcX p i key g):Key g.args/\In64 g.elem:=by
 have ho:=h.op hp hle hX (m:=0) Qf0;refine⟨⟨by rw[h.ax.1];exact ho.htl,fun v hv=> ?_⟩,?_⟩
 ·obtain⟨j,hj,rfl⟩:=Qy hv;exact(h.ax.2 j hj (by rw[<-h.ax.1];exact hj)).2
 ·by_cases hof:(p.pk[i]'h.hi).of'= -1
  ·rw[h.e1 hof];exact⟨Qf2,Qf2⟩
  ·have h1:=ho.hof;have hol:(p.pk[i]'h.hi).of'.toNat<p.pQ.length:=Qf0;have:=(h.e2 hol Qf0).1;have hlo:=(hp.l _ (Qc hol)).e;unfold ze7 at this;rw[Xm] at this;exact⟨Qf0,Qf0⟩
@[go_sem] def UMw9f51.pl:Nat->DPlan
 |6=>⟨[yA,yA,yA,yA,yA,yE,yA,yA,yA,yA,yA,yE,yA,yA,yA,yA,yA,yE,yA,vC,yC],pR,1⟩
 |12=>⟨[yB,yA,yA,yA,yA,yA,yA,yB,yB,yC],xS,0⟩
 |18=>⟨[yA,yA,yA,yA,yA,yA,yA,yB,yA,yA,yA,yB,yA,yA,yA,yA,yA,yB,yA,yA,yA,yA,yA,yB,yA,yA,yA,yA,yA,yB,yA,yA,yC,yA],zrK,0⟩
 |19=>⟨[yA,yA,yA,yA,yA,yA,yB,yB,yA,yC,yA,yA,yC],yN,0⟩
 |_=>⟨[],[],0⟩
@[go_sem] def lQ:DPlan:=⟨[yA,yA,yA,yA,yA,yE,yA,yA,yA,yA,yA,yE,yA,yA,yA,yA,yA,yE,yA,vC,yC],pR,1⟩
@[go_sem] def nR:DPlan:=⟨[yB,yA,yA,yA,yA,yA,yA,yB,yB,yC],xS,0⟩
@[go_sem] def pV:DPlan:=⟨[yA,yA,yA,yA,yA,yA,yB,yB,yA,yC,yA,yA,yC],yN,0⟩
structure TH where
 D:Dt
 V:PV
 cf:List Cf
 H:Heap
def OutC(lo:Nat)(i:Int)(key:List Vl)(H:Heap)(cf:List Cf)(V:PV):Prop:=(cf=[]/\V= .nil)\/ ∃r,lo<=r/\0<cf.length/\V= .ms r 0 12 cf.length/\H[r]? =some (.var 98 (cf.flatMap (ztE i key)))
abbrev zfO(M:List (Option Fa))(m:Nat):Option Fa:=M.getD m none
structure ThI(p:Pg)(X:Dt)(i:Int)(key:List Vl)(A B C:List (Option Fa))(q rq lq:Nat)(h:Heap)(m:Nat)(s:TH):Prop where
 D:s.D=iZ p (fun m=>lL (zfO A m) (zfO B m) (zfO C m)) m X
 c:s.cf=zuF (zfO A) (zfO B) (zfO C) m
 dat:DataAt s.D q rq lq s.H
 mp:s.H[h.length+1]? =some (.map (ze3 s.cf))
 pb:s.H[h.length]? =some (.var 27 p.c)
 out:OutC (h.length+2) i key s.H s.cf s.V
 k: ∀(r:Nat)(b:Blk),r≠rq->r≠lq->h[r]? =some b->s.H[r]? =some b
theorem tk3{cs:List PV}{k:Nat}{x y z:PV}(h:(cs.drop k).take 3=[x,y,z]):(cs.drop k).getD 0 .un=x/\(cs.drop (k+2)).getD 0 .un=z:=by
 have e:cs.drop (k+2)=(cs.drop k).drop 2:=by rw[Wy]
 rw[e];generalize cs.drop k=l at*
 match l,h with
 |a::b::c::l,h=>simp at h;obtain⟨rfl,rfl,rfl⟩:=h;exact⟨rfl,rfl⟩
theorem zzH{i:Int}{key:List Vl}{M:List (Option Fa)}(hM:M.length=64){m:Nat}(hm:m<64): ∃L:List PV,L=zuI i key M M/\L.length=385/\(L.drop (1+m*3)).take 3=[yQ (sA (zfO M m)),i64 (sE (zfO M m)),bo (zfO M m).isSome]/\(L.drop (193+m*3)).take 3=[i64 (fP i (zfO M m)),fA (zfO M m),i64 (fE (zfO M m))]/\(L.drop (1+m*3+2)).getD 0 .un=bo (zfO M m).isSome/\(L.drop (193+m*3)).getD 0 .un=i64 (fP i (zfO M m))/\L.getD 0 .un=pH key:=by
 refine⟨_,rfl,znQ (zvA hM) (zwM hM),?_⟩;have hm':m<M.length:=Qf0;have e:zfO M m=M[m]:=by unfold zfO;rw[Qb,Qa hm'];rfl
 have h1:=ya4 (key:=key) (F:=M.map (ybC i)) (zvA hM) (m:=m) (by rw[(zvA hM).n];exact hm);have h2:=ya5 (key:=key) (zvA hM) (zwM (i:=i) hM) (m:=m) (by rw[(zwM (i:=i) hM).n];exact hm);rw[Xu,yaZ,<-e] at h1;rw[Xu,ya8,<-e] at h2;exact⟨h1,h2,(tk3 h1).2,(tk3 h2).1,rfl⟩
theorem zs5{fb fo ft:Nat->Option Fa}: ∀n,((zuF fb fo ft n).map Cf.tr).Nodup
 |0=>Kg
 | n+1=>by
  unfold zuF;have ih:=zs5 (fb:=fb) (fo:=fo) (ft:=ft) n;split
  ·by_cases q: ∃x∈zuF fb fo ft n,x.b=fb n/\x.o=fo n/\x.t=ft n
   ·obtain⟨x,hx,h⟩:=q;obtain⟨k,hk⟩:=Zq hx;rw[zmD ih hk h,Ky,show Cf.tr ⟨fb n,fo n,ft n,yW (uQ x.w ||| zo2 ⟨n,(n:Int)+1⟩)⟩=x.tr by simp only[Cf.tr,h.1,h.2.1,h.2.2]];have:((zuF fb fo ft n).map Cf.tr).set k x.tr=(zuF fb fo ft n).map Cf.tr:=zyA (by rw[Qu,hk];rfl);rw[this];exact ih
   ·rw[ziD fun x hx w=>q ⟨x,hx,w⟩,Xq,Za];refine⟨ih,Qf1,fun a ha b hb=> ?_⟩;simp at hb;subst hb;intro e;obtain⟨x,hx,rfl⟩:=Xf.1 ha;simp only[Cf.tr,Ys] at e;exact q ⟨x,hx,e⟩
  ·exact ih
theorem zvP{fb fo ft:Nat->Option Fa}: ∀n,(zuF fb fo ft n).length<=n
 |0=>Xe _
 | n+1=>by
  have ih:=zvP (fb:=fb) (fo:=fo) (ft:=ft) n;unfold zuF;split
  ·by_cases q: ∃x∈zuF fb fo ft n,x.b=fb n/\x.o=fo n/\x.t=ft n
   ·obtain⟨x,hx,h⟩:=q;obtain⟨k,hk⟩:=Zq hx;rw[zmD (zs5 n) hk h,Xb];omega
   ·rw[ziD fun x hx w=>q ⟨x,hx,w⟩,Ql,Wp];omega
  ·omega
theorem buTr(x1 x2 x3 x4 x5 x6 x7 x8 x9:PV):kB prog 214 [(0,.agg [x1,x2,x3]),(1,.agg [x4,x5,x6]),(2,.agg [x7,x8,x9])]=some (.agg [x1,x2,x3,x4,x5,x6,x7,x8,x9]):=Qf3
theorem buSp(a b:Int):kB prog 54 [(0,i64 a),(1,i64 b)]=some (.agg [i64 a,i64 b]):=Qf3
theorem buCf(a:Int)(k:List Vl)(x1 x2 x3 x4 x5 x6 x7 x8 x9:PV):kB prog 98 [(0,i64 a),(1,pH k),(3,.agg [x1,x2,x3]),(4,.agg [x4,x5,x6]),(5,.agg [x7,x8,x9])]=some (.agg [i64 a,pH k,.nil,x1,x2,x3,x4,x5,x6,x7,x8,x9]):=Qf3
theorem zu4{b o t:Option Fa}{m:Nat}: ∀{l:List Cf}{x:Cf},x∈zc4 b o t m l->x∈l\/(x.b=b/\x.o=o/\x.t=t/\ ∃w,w<2 ^ 64/\x.w=yW w)
 | [],x,h=>by
  unfold zc4 at h;rw[Qp] at h;subst h;exact .inr ⟨rfl,rfl,rfl,_,zoI _,rfl⟩
 | y::l,x,h=>by
  unfold zc4 at h;split at h
  ·rcases Qw.1 h with rfl|h
   ·exact .inr ⟨rfl,rfl,rfl,_,Uf (wB _) (zoI _),rfl⟩
   ·exact .inl (Qf _ h)
  ·rcases Qw.1 h with rfl|h
   ·exact .inl (Qe ..)
   ·exact(zu4 h).imp (Qf _) id
theorem ztM{fb fo ft:Nat->Option Fa}{x:Cf}: ∀{n:Nat},x∈zuF fb fo ft n-> ∃k,k<n/\x.b=fb k/\x.o=fo k/\x.t=ft k/\ ∃w,w<2 ^ 64/\x.w=yW w
 |0,h=>by cases h
 | n+1,h=>by
  unfold zuF at h;split at h
  ·rcases zu4 h with h|⟨h1,h2,h3,h4⟩
   ·obtain⟨k,hk,e⟩:=ztM h;exact⟨k,Qf0,e⟩
   ·exact⟨n,Qf0,h1,h2,h3,h4⟩
  ·obtain⟨k,hk,e⟩:=ztM h;exact⟨k,Qf0,e⟩
theorem ztD(h:Heap)(t:TypeId)(ok:Bool)(p:PV)(cs:List PV):xQ (α:=Prop) prog h t ok p (.agg cs)=none:=rfl
theorem zv0: ∀{l:List Sp}{lo:Int},SpF lo l->(l.length:Int)<=max 0 (64-lo)
 | [],_,_=>by simp;omega
 |s::l,lo,h=>by
  obtain⟨h1,h2,h3,h4⟩:=h;have:=zv0 h4;rw[Qn];omega
theorem zuX{w:Nat}(hw:w<2 ^ 64):(yW w).length<=64:=by
 have:=zv0 (qS hw).1;omega
theorem ztJ{α:Type}(o:Option α):o=none\/ ∃g,o=some g:=by cases o<;>simp
theorem spl9(x1 x2 x3 x4 x5 x6 x7 x8 x9 y1 y2 y3 y4 y5 y6 y7 y8 y9:PV):splice [x1,x2,x3,x4,x5,x6,x7,x8,x9] 0 [y1,y2,y3,y4,y5,y6,y7,y8,y9]=[y1,y2,y3,y4,y5,y6,y7,y8,y9]:=rfl
theorem zzF(x1 x2 x3 x4 x5 x6 x7 x8 x9 x10 x11 x12 y1 y2 y3 y4 y5 y6 y7 y8 y9 y10 y11 y12:PV):splice [x1,x2,x3,x4,x5,x6,x7,x8,x9,x10,x11,x12] 0 [y1,y2,y3,y4,y5,y6,y7,y8,y9,y10,y11,y12]=[y1,y2,y3,y4,y5,y6,y7,y8,y9,y10,y11,y12]:=rfl
theorem yaN(x1 x2 x3 x4 x5 x6 x7 x8 x9 x10 x11 x12 y:PV):splice [x1,x2,x3,x4,x5,x6,x7,x8,x9,x10,x11,x12] 2 [y]=[x1,x2,y,x4,x5,x6,x7,x8,x9,x10,x11,x12]:=rfl
theorem spl2(x1 x2 y1 y2:PV):splice [x1,x2] 0 [y1,y2]=[y1,y2]:=rfl
theorem tmTr0:(kC prog 212).map (fun x=>(x.1,x.2.2))=some (214,3):=Qf3
theorem tmTr: ∃d,kC prog 212=some (214,d,3):=by
 have h:=tmTr0;cases hh:kC prog 212 with
 |none=>rw[hh] at h;cases h
 |some x=>
  rw[hh] at h;obtain⟨a,b,c⟩:=x;simp at h;exact⟨b,by rw[h.1,h.2]⟩
theorem ziI:(prog.info? 3).bind (·.zero)=some (.int .i64 0):=Qf3
theorem DataAt.off{d:Dt}{q rq lq:Nat}{G:Heap}(hD:DataAt d q rq lq G){r:Nat}{b:Blk}(hr:G[r]? =some b)(h1: ∀cs,b≠ .var 95 cs)(h2: ∀cs,b≠ .var 124 cs):r≠rq/\r≠lq:=
 ⟨fun w=>by subst w;rw[hD.r] at hr;cases hr;exact h1 _ rfl,fun w=>by subst w;rw[hD.l] at hr;cases hr;exact h2 _ rfl⟩
theorem zxX(i:Int)(key:List Vl)(x:Cf):(ztE i key x).length=12:=rfl
theorem zl6(i:Int)(key:List Vl): ∀l:List Cf,(l.flatMap (ztE i key)).length=l.length*12
 | []=>rfl
 |x::l=>by rw[Yp,Ql,zl6 i key l,zxX,Qn];omega
theorem yeM(i:Int)(key:List Vl): ∀(l:List Cf)(k:Nat)(x:Cf),l[k]? =some x-> ∀T:List PV,((l.flatMap (ztE i key)++T).drop (k*12+2)).getD 0 .un=kJ x.w/\ ∀w,(l.flatMap (ztE i key)++T).set (k*12+2) (kJ w)=(l.set k ⟨x.b,x.o,x.t,w⟩).flatMap (ztE i key)++T
 |y::l,0,x,h,T=>by
  simp at h;subst h;exact⟨rfl,fun w=>rfl⟩
 |y::l,k+1,x,h,T=>by
  obtain⟨h1,h2⟩:=yeM i key l k x Qfn T;have e:(k+1)*12+2=(ztE i key y).length+(k*12+2):=by rw[zxX];omega
  rw[Yp,Qv,e];refine⟨?_,fun w=> ?_⟩
  ·rw[<-Wy,Kh];exact h1
  ·rw[Zr _ _ (Kt _ _),Jh,h2 w,Xl,Yp,Qv]
theorem zsV{p:Pg}(hp:p.ok)(hle:p.sm){X:Dt}(hX:DatX p X){i:Nat}{key:List Vl}{f:Nat->Option Fa}(hf: ∀m g,m<64->f m=some g->FcX p i key g){N:Nat}(hN:LenD N X): ∀n,n<=64->LenD (N+n) (iZ p f n X)
 |0,_=>hN
 | n+1,hn=>by
  have ih:=zsV hp hle hX hf hN n Qf0;obtain⟨h1, -⟩:=zmE hp hle hX hf n Qf0;unfold iZ;cases hfn:f n with
  |none=>exact⟨fun z hz=>by have:=ih.r z hz;omega,fun z hz=>by have:=ih.l z hz;omega⟩
  |some g=>
   have:=ih.op h1 ((hf n g Qf0 hfn).op hp hle h1 (m:=n) Qf0);exact this
attribute [-go_sem] only
attribute [-go_sem] kB
attribute [-go_sem] splice
open UMw9f51 in
theorem zzT(p:Pg)(hp:p.ok)(hle:p.sm)(N:Nat)(hN:N<=1000000000)(X:Dt)(hX:DatX p X)(hLn:LenD N X)(q rq lq:Nat)(h:Heap)(hD:DataAt X q rq lq h)(i:Nat)(key:List Vl)(A B C:List (Option Fa))(hA:A.length=64)(hB:B.length=64)(hC:C.length=64)
  (fA': ∀g m,zfO A m=some g->FcX p i key g) (fB': ∀g m,zfO B m=some g->FcX p i key g) (fC': ∀g m,zfO C m=some g->FcX p i key g) (hno: ∀m:Nat,m<64->ztF p X i key m=none) (hkv: ∀v∈key,VIn v)
  (ra rb rc:Nat) (hra:h[ra]? =some (.var 205 (zuI i key A A))) (hrb:h[rb]? =some (.var 205 (zuI i key B B))) (hrc:h[rc]? =some (.var 205 (zuI i key C C))):
  ECall prog G0 51 [.agg p.c,.ptr q 0,.ptr ra 0,.ptr rb 0,.ptr rc 0] h fun V h'=>OutC (h.length+2) i key h' (zuF (zfO A) (zfO B) (zfO C) 64) V/\DataAt (iZ p (fun m=>lL (zfO A m) (zfO B m) (zfO C m)) 64 X) q rq lq h'/\ ∀(r:Nat)(b:Blk),r≠rq->r≠lq->h[r]? =some b->h'[r]? =some b:=by
 refine pv func51 156 false Qf3 rfl rfl ?_;refine g2 ?_;refine ge ?_;refine zW (K9 (.k:: .k:: .v:: .k::D4 (.d:: .d:: .k:: .v::D9 (D9 (D9 (D9 (D9 (D9 (D9 (D9 (D9 (D9 (D9 (D9 (D9 (D9 (D4 (D4 (.k::[]))))))))))))))))))) (own:=true) (fun s:Nat×TH=>[s.2.V,i64 s.1]) (fun s=>s.2.H) (fun s=>s.1<=64/\ThI p X i key A B C q rq lq h s.1 s.2) (fun s=>64-s.1) (0,⟨X,.nil,[],h++[.var 27 p.c,.map []]⟩) rfl rfl ⟨Qf0,rfl,rfl,hD.app _,by rw[sB];rfl,by rw[rU];rfl,.inl ⟨rfl,rfl⟩,fun r b _ _ hb=>yJ _ _ _ _ hb⟩ ?_;rintro⟨m,⟨D,V,cf,H⟩⟩ ⟨hm64,hI⟩ t ht;dsimp only at hm64 hI;simp only[zY] at ht;subst ht;by_cases hm:m<64
 case neg=>
  obtain rfl:m=64:=Qf0;have h64:(((64:Nat):Int)<64)=False:=Qf1;have hout:=hI.out;have hdat:=hI.dat;have hk:=hI.k;have hc:=hI.c;have hDD:=hI.D;dsimp only at hout hdat hk hc hDD;rw[hc] at hout;rw[hDD] at hdat;refine gf @h64 ?_;exact⟨hout,hdat,hk⟩
 case pos=>
  have hm6:((m:Int)<64)=True:=Yk Qf0;have hD1:=hI.D;have zoK:=hI.c;have hdat:=hI.dat;have hmp:=hI.mp;have hpb:=hI.pb;have hout:=hI.out;have hkk:=hI.k;dsimp only at hD1 zoK hdat hmp hpb hout hkk;have nerq: ∀{r:Nat}{t:TypeId}{cs:List PV},h[r]? =some (.var t cs)->t≠95->t≠124->r≠rq/\r≠lq:=fun hr h1 h2=>
   ⟨fun w=>by subst w;rw[hD.r] at hr;cases hr;exact h1 rfl,fun w=>by subst w;rw[hD.l] at hr;cases hr;exact h2 rfl⟩
  have hra2:=hkk ra _ (nerq hra Qf2 Qf2).1 (nerq hra Qf2 Qf2).2 hra;have hrb2:=hkk rb _ (nerq hrb Qf2 Qf2).1 (nerq hrb Qf2 Qf2).2 hrb;have hrc2:=hkk rc _ (nerq hrc Qf2 Qf2).1 (nerq hrc Qf2 Qf2).2 hrc;obtain⟨La,eLa,la,sa,fa,ia,pa,ka⟩:=zzH (i:=i) (key:=key) hA hm;obtain⟨Lb,eLb,lb,sb,fb,ib,pb,kb⟩:=zzH (i:=i) (key:=key) hB hm;obtain⟨Lc,eLc,lc,sc,fc,ic,pc,kc⟩:=zzH (i:=i) (key:=key) hC hm;rw[<-eLa] at hra2;rw[<-eLb] at hrb2;rw[<-eLc] at hrc2;obtain⟨a,ha⟩: ∃a,a=zfO A m:=⟨_,rfl⟩
  obtain⟨b,hb⟩: ∃b,b=zfO B m:=⟨_,rfl⟩
  obtain⟨c,hc⟩: ∃c,c=zfO C m:=⟨_,rfl⟩
  rw[<-ha] at sa fa ia pa;rw[<-hb] at sb fb ib pb;rw[<-hc] at sc fc ic pc;have b1:(1+m*3+3<=385)=True:=Yk Qf0;have b2:(193+m*3+3<=385)=True:=Yk Qf0;have hra3: ∀B:List Blk,(H++B)[ra]? =some (.var 205 La):=fun B=>yJ _ _ _ _ hra2;have hrb3: ∀B:List Blk,(H++B)[rb]? =some (.var 205 Lb):=fun B=>yJ _ _ _ _ hrb2;have hrc3: ∀B:List Blk,(H++B)[rc]? =some (.var 205 Lc):=fun B=>yJ _ _ _ _ hrc2;have hpb3: ∀B:List Blk,(H++B)[h.length]? =some (.var 27 p.c):=fun B=>yJ _ _ _ _ hpb;have jY:IntKind.i64.wrap ((m:Int)+1)=((m+1:Nat):Int):=Qh8;have d1:(3<=385-(1+m*3))=True:=Yk Qf0;have d2:(3<=385-(193+m*3))=True:=Yk Qf0;have jY:IntKind.i64.wrap ((m:Int)+1)=(m:Int)+1:=xM Qf0 Qf0;have F:=(a4 @zB @hm @hm6 @jY)
  have F1:=(a9 F @ka @fa @fb @fc @la @lb @lc (Go.AL.a2 @d2 @buCf))
  have hch:lL (zfO A m) (zfO B m) (zfO C m)=lL a b c:=by rw[ha,hb,hc]
  have gda:GdO i a:=fun g hg=>by have:=fA' g m (by rw[<-ha];exact hg);exact⟨this.pr,this.gd hp hle hX⟩
  have gdb:GdO i b:=fun g hg=>by have:=fB' g m (by rw[<-hb];exact hg);exact⟨this.pr,this.gd hp hle hX⟩
  have gdc:GdO i c:=fun g hg=>by have:=fC' g m (by rw[<-hc];exact hg);exact⟨this.pr,this.gd hp hle hX⟩
  have hff: ∀k g,k<64->lL (zfO A k) (zfO B k) (zfO C k)=some g->FcX p i key g:=fun k g _ hg=>by
   rcases zsD (zfO A k) (zfO B k) (zfO C k) with e|e
   ·rw[e] at hg;exact fB' g k hg
   ·rw[e] at hg;exact fC' g k hg
  obtain⟨hDX,hDl⟩:=zmE hp hle hX hff m Qf0;have hDL:=zsV hp hle hX hff hLn m Qf0;rw[<-hD1] at hDX hDl hDL;have hDno:ztF p D i key m=none:=by
   rw[hDl i key m hm hkv,Qi (fun w=>Nat.lt_irrefl _ w.2.2.1)];exact hno m hm
  have mM:cf.length<=64:=by rw[zoK];have:=zvP (fb:=zfO A) (fo:=zfO B) (ft:=zfO C) m;omega
  obtain⟨T1,hT1⟩: ∃T1,T1=Blk.var 214 [yQ (sA a),i64 (sE a),bo a.isSome,yQ (sA b),i64 (sE b),bo b.isSome,yQ (sA c),i64 (sE c),bo c.isSome]:=⟨_,rfl⟩
  obtain⟨T2,hT2⟩: ∃T2,T2=Blk.var 54 [i64 m,i64 ((m:Int)+1)]:=⟨_,rfl⟩
  have hHl:h.length+1<H.length:=(gsi hmp).1;have pack: ∀(G:Heap)(D':Dt),DataAt D' q rq lq G->(∀r b,r≠rq->r≠lq->(H++[T1,T2])[r]? =some b->G[r]? =some b)->(G[H.length]? =some T1/\G[H.length+1]? =some T2/\G[ra]? =some (.var 205 La)/\G[rb]? =some (.var 205 Lb)/\G[rc]? =some (.var 205 Lc))/\G[h.length]? =some (.var 27 p.c)/\G[h.length+1]? =some (.map (ze3 cf))/\OutC (h.length+2) i key G cf V/\ ∀r b,r≠rq->r≠lq->h[r]? =some b->G[r]? =some b:=fun G D' gD gK=>by
   have mv: ∀{r:Nat}{b:Blk},(H++[T1,T2])[r]? =some b->(∀cs,b≠ .var 95 cs)->(∀cs,b≠ .var 124 cs)->G[r]? =some b:=fun hr h1 h2=>by
    have:=(hdat.app [T1,T2]).off hr h1 h2;exact gK _ _ this.1 this.2 hr
   refine⟨⟨mv (by rw[rU];rfl) (by rw[hT1];simp) (by rw[hT1];simp),mv (by rw[sB];rfl) (by rw[hT2];simp) (by rw[hT2];simp),mv (hra3 _) Qf1 Qf1,mv (hrb3 _) Qf1 Qf1,mv (hrc3 _) Qf1 Qf1⟩,mv (hpb3 _) Qf1 Qf1,mv (yJ _ _ _ _ hmp) Qf1 Qf1,?_,fun r b h1 h2 h3=>gK r b h1 h2 (yJ _ _ _ _ (hkk r b h1 h2 h3))⟩;rcases hout with w|⟨r,w1,w2,w3,w4⟩
   ·exact .inl w
   ·exact .inr ⟨r,w1,w2,w3,mv (yJ _ _ _ _ w4) Qf1 Qf1⟩
  have next: ∀(G:Heap)(D':Dt)(V':PV)(cf':List Cf),(D'=match lL a b c with|none=>D|some g=>zl0 p D (zz7 g m))->cf'=zuF (zfO A) (zfO B) (zfO C) (m+1)->DataAt D' q rq lq G->G[h.length+1]? =some (.map (ze3 cf'))->G[h.length]? =some (.var 27 p.c)->OutC (h.length+2) i key G cf' V'->(∀r b,r≠rq->r≠lq->h[r]? =some b->G[r]? =some b)->ThI p X i key A B C q rq lq h (m+1) ⟨D',V',cf',G⟩:=fun G D' V' cf' e1 e2 e3 e4 e5 e6 e7=>by
   refine⟨?_,e2,e3,e4,e5,e6,e7⟩;show D'=_;rw[e1];unfold iZ;rw[hch,hD1];cases lL a b c<;>rfl
  have hcfk:zuF (zfO A) (zfO B) (zfO C) (m+1)=if ze8 (zt6 a b c)=true then zc4 a b c m cf else cf:=by
   show(if ze8 (zt6 (zfO A m) (zfO B m) (zfO C m))=true then zc4 (zfO A m) (zfO B m) (zfO C m) m (zuF (zfO A) (zfO B) (zfO C) m) else zuF (zfO A) (zfO B) (zfO C) m)=_;rw[<-zoK,<-ha,<-hb,<-hc]
  have eBC:za2 (α:=Prop) prog 201 (.agg [yQ (sA b),i64 (sE b),bo b.isSome]) (.agg [yQ (sA c),i64 (sE c),bo c.isSome])=some (ze8 (b=c),True):=by rw[ydR,zu8 gdb gdc]
  have eBA:za2 (α:=Prop) prog 201 (.agg [yQ (sA b),i64 (sE b),bo b.isSome]) (.agg [yQ (sA a),i64 (sE a),bo a.isSome])=some (ze8 (b=a),True):=by rw[ydR,zu8 gdb gda]
  have eCA:za2 (α:=Prop) prog 201 (.agg [yQ (sA c),i64 (sE c),bo c.isSome]) (.agg [yQ (sA a),i64 (sE a),bo a.isSome])=some (ze8 (c=a),True):=by rw[ydR,zu8 gdc gda]
  refine gf (a9 @hm6 @hra3 @hrb3 @hrc3 @sa @sb @sc @la (a9 @lb @lc @d1 @qK @rN @rU @sB @jY (a6 @zB @hm @buTr @buSp @spl9 @spl2))) ?_;rw[<-hT1,<-hT2];have gT1: ∀B:List Blk,(H++T1::B)[H.length]? =some (Blk.var 214 [yQ (sA a),i64 (sE a),bo a.isSome,yQ (sA b),i64 (sE b),bo b.isSome,yQ (sA c),i64 (sE c),bo c.isSome]):=fun B=>by rw[rU,<-hT1];rfl
  have gT2: ∀B:List Blk,(H++T1::T2::B)[H.length+1]? =some (Blk.var 54 [i64 m,i64 ((m:Int)+1)]):=fun B=>by rw[sB,<-hT2];rfl
  by_cases q1:b=c
  case pos=>
   rw[pO q1] at eBC;have hco:lL a b c=b:=by rw[<-q1];exact ztR a b
   have hcfl:ze8 (zt6 a b c)=false:=uA fun w=>w.1 q1;rw[hcfl] at hcfk;rcases ztJ b with ho|⟨g,ho⟩
   case inl=>
    have hi':((Lb.drop (1+m*3+2)).getD 0 .un)=bo false:=Qg6;obtain⟨⟨gT,gS,gRa,gRb,gRc⟩,gP,gM,gO,gK⟩:=pack _ D (hdat.app _) (fun r b _ _ hb=>hb);have gD:=hdat.app [T1,T2];have hco:=hco.trans ho;refine gf (a9 @hra3 @hrb3 @hrc3 @gT1 @gT2 @hpb3 @eBC @lb (a9 @fb @d2 @qK @rN @rU @sB @zB @hm (a3 @hm6 @jY @hi'))) ?_;obtain⟨G,hG⟩: ∃G,G=H++[T1,T2]:=⟨_,rfl⟩
    rw[<-hG] at gT gS gRa gRb gRc gP gM gO gK gD ⊢
    rw[hT1] at gT;rw[hT2] at gS;refine gf (a8 F @gT @gS @gRa @gRb @gRc @gP @eBC) ?_;exact⟨(m+1,⟨D,V,cf,G⟩),⟨by dsimp only;omega,next G _ V cf Qf4 Qgd gD gM gP gO gK⟩,by dsimp only;omega,by(simp only[zY,xJ,Xs];rfl),rfl,rfl⟩
   case inr=>
    have hi':((Lb.drop (1+m*3+2)).getD 0 .un)=bo true:=Qg6;have hf':(Lb.drop (193+m*3)).take 3=g.c:=by rw[fb,ho];rfl
    have hFg:=fB' g m (by rw[<-hb,ho]);have hco:=hco.trans ho;refine gf (a9 @hra3 @hrb3 @hrc3 @gT1 @gT2 @hpb3 @eBC @lb (a9 @d2 @qK @rN @rU @sB @zB @hm @hm6 (a3 @jY @hi' @hf'))) ?_;(refine yf1 (a9 @hra3 @hrb3 @hrc3 @gT1 @gT2 @hpb3 @eBC @lb (a9 @d2 @qK @rN @rU @sB @zB @hm @hm6 (a3 @jY @hi' @hf'))) ?_;refine zP Qf2 Qf2 (zx3 p hp hle (N+m) Qf0 D hDX hDL q rq lq _ (hdat.app _) i key g hFg m hm hDno) ?_;intro p2 h2 hr2;refine Go.AL.g2 ?_);obtain ⟨rfl,gA⟩:=hr2;obtain⟨⟨gT,gS,gRa,gRb,gRc⟩,gP,gM,gO,gK⟩:=pack h2 _ gA.d gA.k;have gD:=gA.d;rw[hT1] at gT;rw[hT2] at gS;refine gf (a8 F @gT @gS @gRa @gRb @gRc @gP @eBC) ?_;exact⟨(m+1,⟨_,V,cf,h2⟩),⟨by dsimp only;omega,next h2 _ V cf Qf4 Qgd gD gM gP gO gK⟩,by dsimp only;omega,by(simp only[zY,xJ,Xs];rfl),rfl,rfl⟩
  case neg=>
   by_cases q2:b=a
   case pos=>
    have q3:c≠a:=fun w=>q1 (q2.trans w.symm);rw[uA q1] at eBC;rw[pO q2] at eBA;rw[uA q3] at eCA;have hco:lL a b c=c:=by rw[<-q2];exact ztQ b c
    have hcfl:ze8 (zt6 a b c)=false:=uA fun w=>w.2.1 q2;rw[hcfl] at hcfk;rcases ztJ c with ho|⟨g,ho⟩
    case inl=>
     have hi':((Lc.drop (1+m*3+2)).getD 0 .un)=bo false:=by rw[ic,ho];rfl
     obtain⟨⟨gT,gS,gRa,gRb,gRc⟩,gP,gM,gO,gK⟩:=pack _ D (hdat.app _) (fun r b _ _ hb=>hb);have gD:=hdat.app [T1,T2];have hco:=hco.trans ho;refine gf (a9 @hra3 @hrb3 @hrc3 @gT1 @gT2 @hpb3 @eBC @eBA (a9 @eCA @lc @fc @d2 @qK @rN @rU @sB (a5 @zB @hm @hm6 @jY @hi'))) ?_;obtain⟨G,hG⟩: ∃G,G=H++[T1,T2]:=⟨_,rfl⟩
     rw[<-hG] at gT gS gRa gRb gRc gP gM gO gK gD ⊢
     rw[hT1] at gT;rw[hT2] at gS;refine gf (a9 F @gT @gS @gRa @gRb @gRc @gP @eBC (Go.AL.a2 @eBA @eCA)) ?_;exact⟨(m+1,⟨D,V,cf,G⟩),⟨by dsimp only;omega,next G _ V cf Qf4 Qgd gD gM gP gO gK⟩,by dsimp only;omega,by(simp only[zY,xJ,Xs];rfl),rfl,rfl⟩
    case inr=>
     have hi':((Lc.drop (1+m*3+2)).getD 0 .un)=bo true:=by rw[ic,ho];rfl
     have hf':(Lc.drop (193+m*3)).take 3=g.c:=by rw[fc,ho];rfl
     have hFg:=fC' g m (by rw[<-hc,ho]);have hco:=hco.trans ho;refine gf (a9 @hra3 @hrb3 @hrc3 @gT1 @gT2 @hpb3 @eBC @eBA (a9 @eCA @lc @d2 @qK @rN @rU @sB @zB (a5 @hm @hm6 @jY @hi' @hf'))) ?_;(refine yf1 (a9 @hra3 @hrb3 @hrc3 @gT1 @gT2 @hpb3 @eBC @eBA (a9 @eCA @lc @d2 @qK @rN @rU @sB @zB (a5 @hm @hm6 @jY @hi' @hf'))) ?_;refine zP Qf2 Qf2 (zx3 p hp hle (N+m) Qf0 D hDX hDL q rq lq _ (hdat.app _) i key g hFg m hm hDno) ?_;intro p2 h2 hr2;refine Go.AL.g2 ?_);obtain ⟨rfl,gA⟩:=hr2;obtain⟨⟨gT,gS,gRa,gRb,gRc⟩,gP,gM,gO,gK⟩:=pack h2 _ gA.d gA.k;have gD:=gA.d;rw[hT1] at gT;rw[hT2] at gS;refine gf (a9 F @gT @gS @gRa @gRb @gRc @gP @eBC (Go.AL.a2 @eBA @eCA)) ?_;exact⟨(m+1,⟨_,V,cf,h2⟩),⟨by dsimp only;omega,next h2 _ V cf Qf4 Qgd gD gM gP gO gK⟩,by dsimp only;omega,by(simp only[zY,xJ,Xs];rfl),rfl,rfl⟩
   case neg=>
    by_cases q3:c=a
    case pos=>
     rw[uA q1] at eBC;rw[uA q2] at eBA;rw[pO q3] at eCA;have hco:lL a b c=b:=by rw[q3];exact zrO a b
     have hcfl:ze8 (zt6 a b c)=false:=uA fun w=>w.2.2 q3;rw[hcfl] at hcfk;rcases ztJ b with ho|⟨g,ho⟩
     case inl=>
      have hi':((Lb.drop (1+m*3+2)).getD 0 .un)=bo false:=Qg6;obtain⟨⟨gT,gS,gRa,gRb,gRc⟩,gP,gM,gO,gK⟩:=pack _ D (hdat.app _) (fun r b _ _ hb=>hb);have gD:=hdat.app [T1,T2];have hco:=hco.trans ho;refine gf (a9 @hra3 @hrb3 @hrc3 @gT1 @gT2 @hpb3 @eBC @eBA (a9 @eCA @lb @fb @d2 @qK @rN @rU @sB (a5 @zB @hm @hm6 @jY @hi'))) ?_;obtain⟨G,hG⟩: ∃G,G=H++[T1,T2]:=⟨_,rfl⟩
      rw[<-hG] at gT gS gRa gRb gRc gP gM gO gK gD ⊢
      rw[hT1] at gT;rw[hT2] at gS;refine gf (a9 F @gT @gS @gRa @gRb @gRc @gP @eBC (Go.AL.a2 @eBA @eCA)) ?_;exact⟨(m+1,⟨D,V,cf,G⟩),⟨by dsimp only;omega,next G _ V cf Qf4 Qgd gD gM gP gO gK⟩,by dsimp only;omega,by(simp only[zY,xJ,Xs];rfl),rfl,rfl⟩
     case inr=>
      have hi':((Lb.drop (1+m*3+2)).getD 0 .un)=bo true:=Qg6;have hf':(Lb.drop (193+m*3)).take 3=g.c:=by rw[fb,ho];rfl
      have hFg:=fB' g m (by rw[<-hb,ho]);have hco:=hco.trans ho;refine gf (a9 @hra3 @hrb3 @hrc3 @gT1 @gT2 @hpb3 @eBC @eBA (a9 @eCA @lb @d2 @qK @rN @rU @sB @zB (a5 @hm @hm6 @jY @hi' @hf'))) ?_;(refine yf1 (a9 @hra3 @hrb3 @hrc3 @gT1 @gT2 @hpb3 @eBC @eBA (a9 @eCA @lb @d2 @qK @rN @rU @sB @zB (a5 @hm @hm6 @jY @hi' @hf'))) ?_;refine zP Qf2 Qf2 (zx3 p hp hle (N+m) Qf0 D hDX hDL q rq lq _ (hdat.app _) i key g hFg m hm hDno) ?_;intro p2 h2 hr2;refine Go.AL.g2 ?_);obtain ⟨rfl,gA⟩:=hr2;obtain⟨⟨gT,gS,gRa,gRb,gRc⟩,gP,gM,gO,gK⟩:=pack h2 _ gA.d gA.k;have gD:=gA.d;rw[hT1] at gT;rw[hT2] at gS;refine gf (a9 F @gT @gS @gRa @gRb @gRc @gP @eBC (Go.AL.a2 @eBA @eCA)) ?_;exact⟨(m+1,⟨_,V,cf,h2⟩),⟨by dsimp only;omega,next h2 _ V cf Qf4 Qgd gD gM gP gO gK⟩,by dsimp only;omega,by(simp only[zY,xJ,Xs];rfl),rfl,rfl⟩
    case neg=>
     rw[uA q1] at eBC;rw[uA q2] at eBA;rw[uA q3] at eCA;have hco:lL a b c=b:=by unfold lL;rw[uA (fun w=>q2 w.2),Qi Qf2]
     have hcfl:ze8 (zt6 a b c)=true:=pO ⟨q1,q2,q3⟩;rw[hcfl] at hcfk;rcases ztJ b with ho|⟨g,ho⟩
     case inl=>
      have hi':((Lb.drop (1+m*3+2)).getD 0 .un)=bo false:=Qg6;obtain⟨⟨gT,gS,gRa,gRb,gRc⟩,gP,gM,gO,gK⟩:=pack _ D (hdat.app _) (fun r b _ _ hb=>hb);have gD:=hdat.app [T1,T2];have hco:=hco.trans ho;refine gf (a9 @hra3 @hrb3 @hrc3 @gT1 @gT2 @hpb3 @eBC @eBA (a9 @eCA @lb @fb @d2 @qK @rN @rU @sB (a5 @zB @hm @hm6 @jY @hi'))) ?_;obtain⟨G,hG⟩: ∃G,G=H++[T1,T2]:=⟨_,rfl⟩
      rw[<-hG] at gT gS gRa gRb gRc gP gM gO gK gD ⊢
      rw[hT1] at gT;rw[hT2] at gS;have F4:=(a9 F @gT @gS @gRa @gRb @gRc @gP @eBC (Go.AL.a2 @eBA @eCA))
      refine gf F4 ?_;obtain⟨dT,hdT⟩:=tmTr;have wP: ∀x∈cf,GdO i x.b/\GdO i x.o/\GdO i x.t/\ ∃w,w<2 ^ 64/\x.w=yW w:=fun x hx=>by
       exact Qaj
      obtain⟨lx,hlx⟩:=zr3 gda gdb gdc;have hes: ∀z∈ze3 cf, ∃l,keyOf prog 214 z.1=some l:=fun z hz=>by
       exact Qc0
      by_cases hsn: ∃x∈cf,x.b=a/\x.o=b/\x.t=c
      case pos=>
       obtain⟨x,hxm,hxe⟩:=hsn;obtain⟨k,hk⟩:=Zq hxm;have hkl:=(gsi hk).1;have hone: ∀(j:Nat)(z:Value×PV),(ze3 cf)[j]? =some z->z.1=Value.agg (kG a b c)->z.2=i64 k:=fun j z hj hz=>by
        exact Qa4
       have hthere: ∃z∈ze3 cf,z.1=Value.agg (kG a b c):=by
        exact Qb8
       (refine wU ?_;intro sr hsr;simp only[go_sem,ztD] at hsr;subst hsr;refine iR (p:= .tup [i64 k,bo true]) (h':=G) rfl (fun rd=>OpOk.lookS ydU rfl hdT rfl gM (vs:=kG a b c) rfl ziI hlx hes (fun w=>by obtain⟨z,hz,e⟩:=hthere;exact absurd e (w z hz)) (fun j z hj hz=>⟨by rw[hone j z hj hz];rfl,rfl⟩)) ?_;intro ts2 hts;simp only[go_sem] at hts;subst hts);rcases gO with ⟨e1, -⟩|⟨r,o1,o2,rfl,o4⟩
       ·rw[e1] at hxm;cases hxm
       obtain⟨g1,g2⟩:=yeM i key cf k x hk [];rw[Xz] at g1 g2;have g3:=zl6 i key cf;obtain⟨-, -, -,ww,hw64,hww⟩:=wP x hxm;have hxl:x.w.length<=64:=by rw[hww];exact zuX hw64
       have hcfe:=zmD (m:=m) (by rw[zoK];exact zs5 m) hk hxe;rw[<-show uQ [⟨(m:Int),(m:Int)+1⟩]=zo2 ⟨m,(m:Int)+1⟩ by show 0 ||| _=_;rw[Nat.zero_or]] at hcfe;have g5:=g2 (yW (uQ x.w ||| uQ [⟨m,(m:Int)+1⟩]));rw[hxe.1,hxe.2.1,hxe.2.2] at g5;have g6:OutC (h.length+2) i key (G.set r (.var 98 ((cf.set k ⟨a,b,c,yW (uQ x.w ||| uQ [⟨m,(m:Int)+1⟩])⟩).flatMap (ztE i key)))) (cf.set k ⟨a,b,c,yW (uQ x.w ||| uQ [⟨m,(m:Int)+1⟩])⟩) (.ms r 0 12 cf.length):= .inr ⟨r,o1,by rw[Xb];exact o2,by rw[Xb],Qh (gsi o4).1⟩;have g7:DataAt _ q rq lq (G.set r (.var 98 ((cf.set k ⟨a,b,c,yW (uQ x.w ||| uQ [⟨m,(m:Int)+1⟩])⟩).flatMap (ztE i key)))):=⟨by rw[Qd (fun w=>by have:=gD.t;rw[<-w,o4] at this;cases this)];exact gD.t,by rw[Qd (fun w=>by have:=gD.r;rw[<-w,o4] at this;cases this)];exact gD.r,by rw[Qd (fun w=>by have:=gD.l;rw[<-w,o4] at this;cases this)];exact gD.l⟩
       have g8:(G.set r (.var 98 ((cf.set k ⟨a,b,c,yW (uQ x.w ||| uQ [⟨m,(m:Int)+1⟩])⟩).flatMap (ztE i key))))[h.length+1]? =some (.map (ze3 (cf.set k ⟨a,b,c,yW (uQ x.w ||| uQ [⟨m,(m:Int)+1⟩])⟩))):=Qhz;have g9:(G.set r (.var 98 ((cf.set k ⟨a,b,c,yW (uQ x.w ||| uQ [⟨m,(m:Int)+1⟩])⟩).flatMap (ztE i key))))[h.length]? =some (.var 27 p.c):=by rw[Qd Qf0];exact gP
       have g10: ∀r' b',r'≠rq->r'≠lq->h[r']? =some b'->(G.set r (.var 98 ((cf.set k ⟨a,b,c,yW (uQ x.w ||| uQ [⟨m,(m:Int)+1⟩])⟩).flatMap (ztE i key))))[r']? =some b':=fun r' b' h1 h2 h3=>by
        have:=(gsi h3).1;rw[Qd Qf0];exact gK r' b' h1 h2 h3
       have hun:=zqW x.w [⟨m,(m:Int)+1⟩] Qf0 Qf1;have a1:((k:Int)<(cf.length:Int))=True:=Yk Qf0;have a2:(k*12+2<cf.length*12)=True:=Yk Qf0;have g11:splice (cf.flatMap (ztE i key)) (k*12+2) [kJ (yW (uQ x.w ||| uQ [⟨m,(m:Int)+1⟩]))]=(cf.set k ⟨a,b,c,yW (uQ x.w ||| uQ [⟨m,(m:Int)+1⟩])⟩).flatMap (ztE i key):=by rw[zbE Qf0,g5,Xz]
       generalize yW (uQ x.w ||| uQ [⟨m,(m:Int)+1⟩])=w2 at*;refine gf (a9 @gT @gS @gRa @gRb @gRc @gP @eBC @eBA (a9 @eCA @zB @hm @hm6 @jY @o4 @a1 @a2 (a3 @g1 @g3 @hkl))) ?_;(refine yf1 (a9 @gT @gS @gRa @gRb @gRc @gP @eBC @eBA (a9 @eCA @zB @hm @hm6 @jY @o4 @a1 @a2 (a3 @g1 @g3 @hkl))) ?_;refine zP Qf2 Qf2 ((hun.call zK Qf1 _).args (.cons (PLe.refl _) (.cons (PLe.tc_ts 2 _) .nil))) ?_;intro p2 h2 hr2;refine Go.AL.g2 ?_);obtain ⟨rfl,e2⟩:=hr2;replace e2:=e2.symm;subst e2;refine gf (a9 @gT @gS @gRa @gRb @gRc @gP @eBC @eBA (a9 @eCA @zB @hm @hm6 @jY @o4 @a1 @a2 (a4 @g1 @g3 @hkl @g11))) ?_;exact⟨(m+1,⟨_,.ms r 0 12 cf.length,cf.set k ⟨a,b,c,w2⟩,_⟩),⟨by dsimp only;omega,next _ _ _ _ Qf4 (by rw[hcfk,Qj rfl,hcfe]) g7 g8 g9 g6 g10⟩,by dsimp only;omega,by(simp only[zY,xJ,Xs];rfl),rfl,rfl⟩
      case neg=>
       have hnone: ∀z∈ze3 cf,z.1≠Value.agg (kG a b c):=fun z hz e=>by
        exact Qbi
       have hcfn:=ziD (b:=a) (o:=b) (t:=c) (m:=m) fun y hy w=>hsn ⟨y,hy,w⟩;rw[<-show uQ [] ||| uQ [⟨(m:Int),(m:Int)+1⟩]=zo2 ⟨m,(m:Int)+1⟩ by show 0 ||| (0 ||| _)=_;rw[Nat.zero_or,Nat.zero_or]] at hcfn;(refine wU ?_;intro sr hsr;simp only[go_sem,ztD] at hsr;subst hsr;refine iR (p:= .tup [i64 0,bo false]) (h':=G) rfl (fun rd=>OpOk.lookS ydU rfl hdT rfl gM (vs:=kG a b c) rfl ziI hlx hes (fun _=>⟨rfl,rfl⟩) (fun j z hj hz=>absurd hz (hnone z (Qk hj)))) ?_;intro ts2 hts;simp only[go_sem] at hts;subst hts);obtain⟨G2,hG2⟩: ∃G2,G2=G.set (h.length+1) (.map (ze3 cf++[(Value.agg (kG a b c),i64 cf.length)])):=⟨_,rfl⟩
       have mv2: ∀{r:Nat}{bb:Blk},G[r]? =some bb->(∀es,bb≠ .map es)->G2[r]? =some bb:=fun {r} {bb} hr hb=>by
        exact Qeg
       have k2T:=mv2 gT Qf1;have k2S:=mv2 gS Qf1;have k2a:=mv2 gRa Qf1;have k2b:=mv2 gRb Qf1;have k2c:=mv2 gRc Qf1;have k2P:=mv2 gP Qf1;have k2M:G2[h.length+1]? =some (.map (ze3 (cf++[⟨a,b,c,yW (uQ [] ||| uQ [⟨m,(m:Int)+1⟩])⟩]))):=by rw[hG2,Qh (gsi gM).1,zwK]
       have k2D:DataAt _ q rq lq G2:=⟨mv2 gD.t Qf1,mv2 gD.r Qf1,mv2 gD.l Qf1⟩
       have k2K: ∀r' b',r'≠rq->r'≠lq->h[r']? =some b'->G2[r']? =some b':=fun r' b' h1 h2 h3=>by
        exact Qef
       have hfpa:i64 (fP i a)=i64 i:=by
        exact Qd4
       have hun:=zqW [] [⟨m,(m:Int)+1⟩] Qf1 Qf1;have hG2l:h.length+1<G2.length:=(gsi k2M).1;rw[hfpa] at pa;have F8:=(a6 F1 @k2a @k2b @k2c @k2S @pa)
       rcases gO with ⟨e1,rfl⟩|⟨r,o1,o2,rfl,o4⟩
       ·subst e1;refine gf F4 ?_;(refine wU ?_;intro sr hsr;simp only[go_sem,ztD] at hsr;subst hsr;refine iR (p:= .ud) (h':=G2) rfl (fun rd=>by rw[hG2];exact OpOk.newS ydU rfl hdT rfl gM (vs:=kG a b c) rfl hlx hes hnone ⟨rfl,rfl⟩) ?_;intro ts2 hts;simp only[go_sem] at hts;subst hts);have k3: ∀(r:Nat)(bb B:Blk),G2[r]? =some bb->(G2++[B])[r]? =some bb:=fun r bb B hr=>yJ _ _ _ _ hr;have k3S: ∀B:Blk,(G2++[B])[H.length+1]? =some (Blk.var 54 [i64 m,i64 ((m:Int)+1)]):=fun B=>k3 _ _ _ k2S;have F6:=(a6 @k2a @k2b @k2c @k3S @zA @zX)
        have k0S:=k2S;(repeat(first|refine gz ?_|(refine gn ?_;intro zs zh;(try simp only[go_sem,F8] at zh);subst zh;refine gv ?_)|refine zQ lQ _ 6 Qf3 ?_|refine zQ nR _ 12 Qf3 ?_|refine zQ pV _ 19 Qf3 ?_));refine Qa1 ?_;(repeat(first|refine gz ?_|(refine gn ?_;intro zs zh;(try simp only[go_sem,F6,F1,pa,zzF] at zh);subst zh;refine gv ?_)|refine zQ lQ _ 6 Qf3 ?_|refine zQ nR _ 12 Qf3 ?_|refine zQ pV _ 19 Qf3 ?_));(refine yf1 (Go.AL.a2 F6 @zB) ?_;refine zP Qf2 Qf2 ((hun.call zK Qf1 _).args (.cons (PLe.nil_ts 2) (.cons (PLe.tc_ts 2 _) .nil))) ?_;intro p2 h2 hr2;refine Go.AL.g2 ?_);obtain ⟨rfl,e2⟩:=hr2;replace e2:=e2.symm;subst e2;refine gf (a4 F6 @zB @jY @yaN) ?_;exact Qae
       ·have o4':=mv2 o4 Qf1;have hlen:=zl6 i key cf;have hby:((cf.length+1)*176<=140737488355328)=True:=Yk Qf0;have hby2:(cf.length+1<=140737488355328)=True:=Yk Qf0;refine gf F4 ?_;(refine wU ?_;intro sr hsr;simp only[go_sem,ztD] at hsr;subst hsr;refine iR (p:= .ud) (h':=G2) rfl (fun rd=>by rw[hG2];exact OpOk.newS ydU rfl hdT rfl gM (vs:=kG a b c) rfl hlx hes hnone ⟨rfl,rfl⟩) ?_;intro ts2 hts;simp only[go_sem] at hts;subst hts);obtain⟨G3,hG3⟩: ∃G3,G3=G2.set r .old:=⟨_,rfl⟩
        have h3l:G2.length=G3.length:=by rw[hG3,Xb]
        have k4: ∀{r':Nat}{bb:Blk}(B:Blk),G2[r']? =some bb->r'≠r->(G3++[B])[r']? =some bb:=fun B hr hne=>yJ _ _ _ _ (by rw[hG3,Qd (Ne.symm hne)];exact hr);have nC: ∀{r':Nat}{bb:Blk},G2[r']? =some bb->(∀cs,bb≠ .var 98 cs)->r'≠r:=fun hr hne w=>by subst w;rw[o4'] at hr;cases hr;exact hne _ rfl
        have k3S: ∀B:Blk,(G3++[B])[H.length+1]? =some (Blk.var 54 [i64 m,i64 ((m:Int)+1)]):=fun B=>k4 B k2S (nC k2S Qf1);have z1:((cf.length:Int)<(((cf.length+1:Nat)):Int))=True:=Yk Qf0;have z2:(cf.length*12+2<(cf.length+1)*12)=True:=Yk Qf0;(repeat(first|refine gz ?_|(refine gn ?_;intro zs zh;(try simp only[go_sem,F8,o4',hlen,hby,hby2] at zh);subst zh;refine gv ?_)|refine zQ lQ _ 6 Qf3 ?_|refine zQ nR _ 12 Qf3 ?_|refine zQ pV _ 19 Qf3 ?_));refine Qa1 ?_;(repeat(first|refine gz ?_|(refine gn ?_;intro zs zh;(try simp only[go_sem,F8,o4',hlen,hby,hby2,zzF] at zh);subst zh;refine gv ?_)|refine zQ lQ _ 6 Qf3 ?_|refine zQ nR _ 12 Qf3 ?_|refine zQ pV _ 19 Qf3 ?_));rw[<-hG3,h3l];obtain⟨M,hM⟩: ∃M,M=cf.flatMap (ztE i key)++[i64 i,pH key,.nil,i64 (fP i a),fA a,i64 (fE a),i64 (fP i b),fA b,i64 (fE b),i64 (fP i c),fA c,i64 (fE c)]:=⟨_,rfl⟩
        rw[<-hM];have gm:M.length=(cf.length+1)*12:=by rw[hM,Ql,hlen];simp;omega
        have gd:(M.drop (cf.length*12+2)).getD 0 .un= .nil:=by rw[hM,<-hlen,<-Wy,Kh];rfl
        have gs: ∀w,splice M (cf.length*12+2) [kJ w]=(cf++[(⟨a,b,c,w⟩:Cf)]).flatMap (ztE i key):=fun w=>by
         rw[zbE (by rw[gm];omega),hM,<-hlen,Zr _ _ (Kt _ _),Jh,Wx];simp[ztE]
        have gss:=gs (yW (uQ [] ||| uQ [⟨m,(m:Int)+1⟩]));have z4:(((cf.length:Int))<(cf.length:Int)+1)=True:=Yk Qf0;have z5:(cf.length*12+2<(cf.length+1)*12)=True:=Yk Qf0;have z6:(cf.length<cf.length+1)=True:=Yk Qf0;have z7:((cf.length:Int)<((cf.length+1:Nat):Int))=True:=Yk Qf0;have F2:=(a9 @k3S @zB @zA @zX @gm @gd @z4 @z5 (Go.AL.a2 @z6 @z7))
        refine gf F2 ?_;(refine yf1 F2 ?_;refine zP Qf2 Qf2 ((hun.call zK Qf1 _).args (.cons (PLe.nil_ts 2) (.cons (PLe.tc_ts 2 _) .nil))) ?_;intro p2 h2 hr2;refine Go.AL.g2 ?_);obtain ⟨rfl,e2⟩:=hr2;replace e2:=e2.symm;subst e2;refine gf (a3 F2 @jY @gss) ?_;exact Qab
     case inr=>
      have hi':((Lb.drop (1+m*3+2)).getD 0 .un)=bo true:=Qg6;have hf':(Lb.drop (193+m*3)).take 3=g.c:=by rw[fb,ho];rfl
      have hFg:=fB' g m (by rw[<-hb,ho]);have hco:=hco.trans ho;refine gf (a9 @hra3 @hrb3 @hrc3 @gT1 @gT2 @hpb3 @eBC @eBA (a9 @eCA @lb @d2 @qK @rN @rU @sB @zB (a5 @hm @hm6 @jY @hi' @hf'))) ?_;(refine yf1 (a9 @hra3 @hrb3 @hrc3 @gT1 @gT2 @hpb3 @eBC @eBA (a9 @eCA @lb @d2 @qK @rN @rU @sB @zB (a5 @hm @hm6 @jY @hi' @hf'))) ?_;refine zP Qf2 Qf2 (zx3 p hp hle (N+m) Qf0 D hDX hDL q rq lq _ (hdat.app _) i key g hFg m hm hDno) ?_;intro p2 h2 hr2;refine Go.AL.g2 ?_);obtain ⟨rfl,gA⟩:=hr2;obtain⟨⟨gT,gS,gRa,gRb,gRc⟩,gP,gM,gO,gK⟩:=pack h2 _ gA.d gA.k;have gD:=gA.d;rw[hT1] at gT;rw[hT2] at gS;have F5:=(a9 F @gT @gS @gRa @gRb @gRc @gP @eBC (Go.AL.a2 @eBA @eCA))
      refine gf F5 ?_;obtain⟨dT,hdT⟩:=tmTr;have wP: ∀x∈cf,GdO i x.b/\GdO i x.o/\GdO i x.t/\ ∃w,w<2 ^ 64/\x.w=yW w:=fun x hx=>by
       exact Qaj
      obtain⟨lx,hlx⟩:=zr3 gda gdb gdc;have hes: ∀z∈ze3 cf, ∃l,keyOf prog 214 z.1=some l:=fun z hz=>by
       exact Qc0
      by_cases hsn: ∃x∈cf,x.b=a/\x.o=b/\x.t=c
      case pos=>
       obtain⟨x,hxm,hxe⟩:=hsn;obtain⟨k,hk⟩:=Zq hxm;have hkl:=(gsi hk).1;have hone: ∀(j:Nat)(z:Value×PV),(ze3 cf)[j]? =some z->z.1=Value.agg (kG a b c)->z.2=i64 k:=fun j z hj hz=>by
        exact Qa4
       have hthere: ∃z∈ze3 cf,z.1=Value.agg (kG a b c):=by
        exact Qb8
       (refine wU ?_;intro sr hsr;simp only[go_sem,ztD] at hsr;subst hsr;refine iR (p:= .tup [i64 k,bo true]) (h':=h2) rfl (fun rd=>OpOk.lookS ydU rfl hdT rfl gM (vs:=kG a b c) rfl ziI hlx hes (fun w=>by obtain⟨z,hz,e⟩:=hthere;exact absurd e (w z hz)) (fun j z hj hz=>⟨by rw[hone j z hj hz];rfl,rfl⟩)) ?_;intro ts2 hts;simp only[go_sem] at hts;subst hts);rcases gO with ⟨e1, -⟩|⟨r,o1,o2,rfl,o4⟩
       ·rw[e1] at hxm;cases hxm
       obtain⟨g1,g2⟩:=yeM i key cf k x hk [];rw[Xz] at g1 g2;have g3:=zl6 i key cf;obtain⟨-, -, -,ww,hw64,hww⟩:=wP x hxm;have hxl:x.w.length<=64:=by rw[hww];exact zuX hw64
       have hcfe:=zmD (m:=m) (by rw[zoK];exact zs5 m) hk hxe;rw[<-show uQ [⟨(m:Int),(m:Int)+1⟩]=zo2 ⟨m,(m:Int)+1⟩ by show 0 ||| _=_;rw[Nat.zero_or]] at hcfe;have g5:=g2 (yW (uQ x.w ||| uQ [⟨m,(m:Int)+1⟩]));rw[hxe.1,hxe.2.1,hxe.2.2] at g5;have g6:OutC (h.length+2) i key (h2.set r (.var 98 ((cf.set k ⟨a,b,c,yW (uQ x.w ||| uQ [⟨m,(m:Int)+1⟩])⟩).flatMap (ztE i key)))) (cf.set k ⟨a,b,c,yW (uQ x.w ||| uQ [⟨m,(m:Int)+1⟩])⟩) (.ms r 0 12 cf.length):= .inr ⟨r,o1,by rw[Xb];exact o2,by rw[Xb],Qh (gsi o4).1⟩;have g7:DataAt _ q rq lq (h2.set r (.var 98 ((cf.set k ⟨a,b,c,yW (uQ x.w ||| uQ [⟨m,(m:Int)+1⟩])⟩).flatMap (ztE i key)))):=⟨by rw[Qd (fun w=>by have:=gD.t;rw[<-w,o4] at this;cases this)];exact gD.t,by rw[Qd (fun w=>by have:=gD.r;rw[<-w,o4] at this;cases this)];exact gD.r,by rw[Qd (fun w=>by have:=gD.l;rw[<-w,o4] at this;cases this)];exact gD.l⟩
       have g8:(h2.set r (.var 98 ((cf.set k ⟨a,b,c,yW (uQ x.w ||| uQ [⟨m,(m:Int)+1⟩])⟩).flatMap (ztE i key))))[h.length+1]? =some (.map (ze3 (cf.set k ⟨a,b,c,yW (uQ x.w ||| uQ [⟨m,(m:Int)+1⟩])⟩))):=Qhz;have g9:(h2.set r (.var 98 ((cf.set k ⟨a,b,c,yW (uQ x.w ||| uQ [⟨m,(m:Int)+1⟩])⟩).flatMap (ztE i key))))[h.length]? =some (.var 27 p.c):=by rw[Qd Qf0];exact gP
       have g10: ∀r' b',r'≠rq->r'≠lq->h[r']? =some b'->(h2.set r (.var 98 ((cf.set k ⟨a,b,c,yW (uQ x.w ||| uQ [⟨m,(m:Int)+1⟩])⟩).flatMap (ztE i key))))[r']? =some b':=fun r' b' h1 h2 h3=>by
        have:=(gsi h3).1;rw[Qd Qf0];exact gK r' b' h1 h2 h3
       have hun:=zqW x.w [⟨m,(m:Int)+1⟩] Qf0 Qf1;have a1:((k:Int)<(cf.length:Int))=True:=Yk Qf0;have a2:(k*12+2<cf.length*12)=True:=Yk Qf0;have g11:splice (cf.flatMap (ztE i key)) (k*12+2) [kJ (yW (uQ x.w ||| uQ [⟨m,(m:Int)+1⟩]))]=(cf.set k ⟨a,b,c,yW (uQ x.w ||| uQ [⟨m,(m:Int)+1⟩])⟩).flatMap (ztE i key):=by rw[zbE Qf0,g5,Xz]
       generalize yW (uQ x.w ||| uQ [⟨m,(m:Int)+1⟩])=w2 at*;refine gf (a9 @gT @gS @gRa @gRb @gRc @gP @eBC @eBA (a9 @eCA @zB @hm @hm6 @jY @o4 @a1 @a2 (a3 @g1 @g3 @hkl))) ?_;(refine yf1 (a9 @gT @gS @gRa @gRb @gRc @gP @eBC @eBA (a9 @eCA @zB @hm @hm6 @jY @o4 @a1 @a2 (a3 @g1 @g3 @hkl))) ?_;refine zP Qf2 Qf2 ((hun.call zK Qf1 _).args (.cons (PLe.refl _) (.cons (PLe.tc_ts 2 _) .nil))) ?_;intro p2 h2 hr2;refine Go.AL.g2 ?_);obtain ⟨rfl,e2⟩:=hr2;replace e2:=e2.symm;subst e2;refine gf (a9 @gT @gS @gRa @gRb @gRc @gP @eBC @eBA (a9 @eCA @zB @hm @hm6 @jY @o4 @a1 @a2 (a4 @g1 @g3 @hkl @g11))) ?_;exact⟨(m+1,⟨_,.ms r 0 12 cf.length,cf.set k ⟨a,b,c,w2⟩,_⟩),⟨by dsimp only;omega,next _ _ _ _ Qf4 (by rw[hcfk,Qj rfl,hcfe]) g7 g8 g9 g6 g10⟩,by dsimp only;omega,by(simp only[zY,xJ,Xs];rfl),rfl,rfl⟩
      case neg=>
       have hnone: ∀z∈ze3 cf,z.1≠Value.agg (kG a b c):=fun z hz e=>by
        exact Qbi
       have hcfn:=ziD (b:=a) (o:=b) (t:=c) (m:=m) fun y hy w=>hsn ⟨y,hy,w⟩;rw[<-show uQ [] ||| uQ [⟨(m:Int),(m:Int)+1⟩]=zo2 ⟨m,(m:Int)+1⟩ by show 0 ||| (0 ||| _)=_;rw[Nat.zero_or,Nat.zero_or]] at hcfn;(refine wU ?_;intro sr hsr;simp only[go_sem,ztD] at hsr;subst hsr;refine iR (p:= .tup [i64 0,bo false]) (h':=h2) rfl (fun rd=>OpOk.lookS ydU rfl hdT rfl gM (vs:=kG a b c) rfl ziI hlx hes (fun _=>⟨rfl,rfl⟩) (fun j z hj hz=>absurd hz (hnone z (Qk hj)))) ?_;intro ts2 hts;simp only[go_sem] at hts;subst hts);obtain⟨G2,hG2⟩: ∃G2,G2=h2.set (h.length+1) (.map (ze3 cf++[(Value.agg (kG a b c),i64 cf.length)])):=⟨_,rfl⟩
       have mv2: ∀{r:Nat}{bb:Blk},h2[r]? =some bb->(∀es,bb≠ .map es)->G2[r]? =some bb:=fun {r} {bb} hr hb=>by
        exact Qeg
       have k2T:=mv2 gT Qf1;have k2S:=mv2 gS Qf1;have k2a:=mv2 gRa Qf1;have k2b:=mv2 gRb Qf1;have k2c:=mv2 gRc Qf1;have k2P:=mv2 gP Qf1;have k2M:G2[h.length+1]? =some (.map (ze3 (cf++[⟨a,b,c,yW (uQ [] ||| uQ [⟨m,(m:Int)+1⟩])⟩]))):=by rw[hG2,Qh (gsi gM).1,zwK]
       have k2D:DataAt _ q rq lq G2:=⟨mv2 gD.t Qf1,mv2 gD.r Qf1,mv2 gD.l Qf1⟩
       have k2K: ∀r' b',r'≠rq->r'≠lq->h[r']? =some b'->G2[r']? =some b':=fun r' b' h1 h2 h3=>by
        exact Qef
       have hfpa:i64 (fP i a)=i64 i:=by
        exact Qd4
       have hun:=zqW [] [⟨m,(m:Int)+1⟩] Qf1 Qf1;have hG2l:h.length+1<G2.length:=(gsi k2M).1;rw[hfpa] at pa;have F9:=(a6 F1 @k2a @k2b @k2c @k2S @pa)
       rcases gO with ⟨e1,rfl⟩|⟨r,o1,o2,rfl,o4⟩
       ·subst e1;refine gf F5 ?_;(refine wU ?_;intro sr hsr;simp only[go_sem,ztD] at hsr;subst hsr;refine iR (p:= .ud) (h':=G2) rfl (fun rd=>by rw[hG2];exact OpOk.newS ydU rfl hdT rfl gM (vs:=kG a b c) rfl hlx hes hnone ⟨rfl,rfl⟩) ?_;intro ts2 hts;simp only[go_sem] at hts;subst hts);have k3: ∀(r:Nat)(bb B:Blk),G2[r]? =some bb->(G2++[B])[r]? =some bb:=fun r bb B hr=>yJ _ _ _ _ hr;have k3S: ∀B:Blk,(G2++[B])[H.length+1]? =some (Blk.var 54 [i64 m,i64 ((m:Int)+1)]):=fun B=>k3 _ _ _ k2S;have F7:=(a6 @k2a @k2b @k2c @k3S @zA @zX)
        have k0S:=k2S;(repeat(first|refine gz ?_|(refine gn ?_;intro zs zh;(try simp only[go_sem,F9] at zh);subst zh;refine gv ?_)|refine zQ lQ _ 6 Qf3 ?_|refine zQ nR _ 12 Qf3 ?_|refine zQ pV _ 19 Qf3 ?_));refine Qa1 ?_;(repeat(first|refine gz ?_|(refine gn ?_;intro zs zh;(try simp only[go_sem,F7,F1,pa,zzF] at zh);subst zh;refine gv ?_)|refine zQ lQ _ 6 Qf3 ?_|refine zQ nR _ 12 Qf3 ?_|refine zQ pV _ 19 Qf3 ?_));(refine yf1 (Go.AL.a2 F7 @zB) ?_;refine zP Qf2 Qf2 ((hun.call zK Qf1 _).args (.cons (PLe.nil_ts 2) (.cons (PLe.tc_ts 2 _) .nil))) ?_;intro p2 h2 hr2;refine Go.AL.g2 ?_);obtain ⟨rfl,e2⟩:=hr2;replace e2:=e2.symm;subst e2;refine gf (a4 F7 @zB @jY @yaN) ?_;exact Qae
       ·have o4':=mv2 o4 Qf1;have hlen:=zl6 i key cf;have hby:((cf.length+1)*176<=140737488355328)=True:=Yk Qf0;have hby2:(cf.length+1<=140737488355328)=True:=Yk Qf0;refine gf F5 ?_;(refine wU ?_;intro sr hsr;simp only[go_sem,ztD] at hsr;subst hsr;refine iR (p:= .ud) (h':=G2) rfl (fun rd=>by rw[hG2];exact OpOk.newS ydU rfl hdT rfl gM (vs:=kG a b c) rfl hlx hes hnone ⟨rfl,rfl⟩) ?_;intro ts2 hts;simp only[go_sem] at hts;subst hts);obtain⟨G3,hG3⟩: ∃G3,G3=G2.set r .old:=⟨_,rfl⟩
        have h3l:G2.length=G3.length:=by rw[hG3,Xb]
        have k4: ∀{r':Nat}{bb:Blk}(B:Blk),G2[r']? =some bb->r'≠r->(G3++[B])[r']? =some bb:=fun B hr hne=>yJ _ _ _ _ (by rw[hG3,Qd (Ne.symm hne)];exact hr);have nC: ∀{r':Nat}{bb:Blk},G2[r']? =some bb->(∀cs,bb≠ .var 98 cs)->r'≠r:=fun hr hne w=>by subst w;rw[o4'] at hr;cases hr;exact hne _ rfl
        have k3S: ∀B:Blk,(G3++[B])[H.length+1]? =some (Blk.var 54 [i64 m,i64 ((m:Int)+1)]):=fun B=>k4 B k2S (nC k2S Qf1);have z1:((cf.length:Int)<(((cf.length+1:Nat)):Int))=True:=Yk Qf0;have z2:(cf.length*12+2<(cf.length+1)*12)=True:=Yk Qf0;(repeat(first|refine gz ?_|(refine gn ?_;intro zs zh;(try simp only[go_sem,F9,o4',hlen,hby,hby2] at zh);subst zh;refine gv ?_)|refine zQ lQ _ 6 Qf3 ?_|refine zQ nR _ 12 Qf3 ?_|refine zQ pV _ 19 Qf3 ?_));refine Qa1 ?_;(repeat(first|refine gz ?_|(refine gn ?_;intro zs zh;(try simp only[go_sem,F9,o4',hlen,hby,hby2,zzF] at zh);subst zh;refine gv ?_)|refine zQ lQ _ 6 Qf3 ?_|refine zQ nR _ 12 Qf3 ?_|refine zQ pV _ 19 Qf3 ?_));rw[<-hG3,h3l];obtain⟨M,hM⟩: ∃M,M=cf.flatMap (ztE i key)++[i64 i,pH key,.nil,i64 (fP i a),fA a,i64 (fE a),i64 (fP i b),fA b,i64 (fE b),i64 (fP i c),fA c,i64 (fE c)]:=⟨_,rfl⟩
        rw[<-hM];have gm:M.length=(cf.length+1)*12:=by rw[hM,Ql,hlen];simp;omega
        have gd:(M.drop (cf.length*12+2)).getD 0 .un= .nil:=by rw[hM,<-hlen,<-Wy,Kh];rfl
        have gs: ∀w,splice M (cf.length*12+2) [kJ w]=(cf++[(⟨a,b,c,w⟩:Cf)]).flatMap (ztE i key):=fun w=>by
         rw[zbE (by rw[gm];omega),hM,<-hlen,Zr _ _ (Kt _ _),Jh,Wx];simp[ztE]
        have gss:=gs (yW (uQ [] ||| uQ [⟨m,(m:Int)+1⟩]));have z4:(((cf.length:Int))<(cf.length:Int)+1)=True:=Yk Qf0;have z5:(cf.length*12+2<(cf.length+1)*12)=True:=Yk Qf0;have z6:(cf.length<cf.length+1)=True:=Yk Qf0;have z7:((cf.length:Int)<((cf.length+1:Nat):Int))=True:=Yk Qf0;have F3:=(a9 @k3S @zB @zA @zX @gm @gd @z4 @z5 (Go.AL.a2 @z6 @z7))
        refine gf F3 ?_;(refine yf1 F3 ?_;refine zP Qf2 Qf2 ((hun.call zK Qf1 _).args (.cons (PLe.nil_ts 2) (.cons (PLe.tc_ts 2 _) .nil))) ?_;intro p2 h2 hr2;refine Go.AL.g2 ?_);obtain ⟨rfl,e2⟩:=hr2;replace e2:=e2.symm;subst e2;refine gf (a3 F3 @jY @gss) ?_;exact Qab
attribute [go_sem] only kB splice
@[go_sem] def UMx1f48.pl:Nat->DPlan
 |1=>⟨[yA,⟨1,0,[0,1]⟩,yA,vC,yA,⟨1,0,[0,1]⟩,yA,⟨2,1,[]⟩,yA,yC],[0,1,2,4,5,6,3,7,8,9],2⟩
 |_=>⟨[],[],0⟩
theorem zv4{α:Type}{n k:Nat}{f:List α->PV}(hf:f []= .ts k [])(i:Nat)(p q:PV)(h1:(List.replicate n PV.nil)[i]? =some p)(h2:((List.replicate n ([]:List α)).map f)[i]? =some q):PLe p q:=by
 rw[List.map_replicate,hf] at h2;have a:=Qk h1;have b:=Qk h2;rw[Ua a,Ua b];exact PLe.nil_ts k
open UMx1f48 in
theorem zz2(p:Pg)(hp:p.pk.length<=1048576)(h:Heap):ECall prog G0 48 [.agg p.c] h fun v h'=> ∃q1 q2,v= .agg [.ms q1 0 1 (zq4 p).pg.length,.ms q2 0 1 (zq4 p).pQ.length]/\h.length<=q1/\h.length<=q2/\h'[q1]? =some (.var 95 ((zq4 p).pg.map uN))/\h'[q2]? =some (.var 124 ((zq4 p).pQ.map vD))/\ ∀(r:Nat)(b:Blk),h[r]? =some b->h'[r]? =some b:=by
 refine ECall.hple (R:=fun v h'=> ∃q1 q2,v= .agg [.ms q1 0 1 p.pk.length,.ms q2 0 1 p.pk.length]/\h.length<=q1/\h.length<=q2/\q1≠q2/\h'[q1]? =some (.var 95 (List.replicate p.pk.length .nil))/\h'[q2]? =some (.var 124 (List.replicate p.pk.length .nil))/\ ∀(r:Nat)(b:Blk),h[r]? =some b->h'[r]? =some b) (pv func48 12 false Qf3 rfl rfl ?_) ?_;refine g2 ?_
 ·have k0: ∀l:List Blk,(h++l)[h.length]? =l[0]? :=fun l=>rU h l;have kk: ∀(l:List Blk)(k:Nat),(h++l)[h.length+k]? =l[k]? :=fun l k=>sB h l k;have ss: ∀(l:List Blk)(k:Nat)(b:Blk),(h++l).set (h.length+k) b=h++l.set k b:=fun l k b=>by rw[Zr _ _ (Kt _ _),Jh]
  have s3: ∀(l:List Blk)(b:Blk),(h++l).set (h.length+2+1) b=h++l.set 3 b:=fun l b=>ss l 3 b;have k3: ∀l:List Blk,(h++l)[h.length+2+1]? =l[3]? :=fun l=>kk l 3;refine gf (a5 @k0 @kk @ss @s3 @k3) ?_;refine⟨h.length+2,h.length+3,rfl,Qf0,Qf0,Qf0,?_,?_,?_⟩
  ·rw[zv2];simp
  ·rw[zv2];simp
  ·intro r b hb;simp[Qs,(gsi hb).1];exact(gsi hb).2
 ·rintro v h' ⟨q1,q2,rfl,g1,g2,g3,g4,g5,g6⟩;have n1:(zq4 p).pg.length=p.pk.length:=by simp[zq4]
  have n2:(zq4 p).pQ.length=p.pk.length:=by simp[zq4]
  refine⟨_,zyF g4 g5 g3 (c1':=(zq4 p).pg.map uN) (c2':=(zq4 p).pQ.map vD) (by simp[zq4]) (zv4 rfl) (by simp[zq4]) (zv4 rfl),q1,q2,by rw[n1,n2],g1,g2,?_,?_,fun r b hb=> ?_⟩
  ·rw[Qd (Ne.symm g3),Qh (gsi g4).1]
  ·rw[Qh (by rw[Xb];exact(gsi g5).1)]
  ·have:=(gsi hb).1;rw[Qd Qf0,Qd Qf0];exact g6 r b hb
theorem zzD{k:Nat}: ∀{l:List (List PV)},(∀e∈l,e.length=k)->l.flatten.length=l.length*k
 | [],_=>by simp
 |a::l,h=>by
  have:=zzD (l:=l) fun e he=>h e (Qf _ he);rw[Yl,Ql,this,h a (Qe ..),Qn,Nat.succ_mul];omega
section
variable{P:Program}{G:Glob}{rd:Option Nat}
theorem OpOk.appNN{o:Oper}{h:Heap}{F:Operand->PV}{R:PV->Heap->Prop}{c:Call}{t e:TypeId}{k b:Nat}{s x:Operand}(ho:o.op= .call c)(hc:c.callee= .builtin .append)(ha:c.args= #[s,x])(hat:c.argTypes= #[t,t])
  (hs:F s= .nil) (hx:F x= .nil) (ht:wD P t=some (e,k,b)) (kk:R .nil h):OpOk P G rd o h F R:=by
 refine OpOk.of_own (p:= .nil) (h':=h) ?_ kk;rw[ho];simp only[zk2,hc,ha,hat,hs,hx,ht,rO,jA,Wk]
theorem OpOk.appNM{o:Oper}{h:Heap}{F:Operand->PV}{R:PV->Heap->Prop}{c:Call}{t e e2:TypeId}{r k b:Nat}{l:List (List PV)}{z:Value}{s x:Operand}(ho:o.op= .call c)(hc:c.callee= .builtin .append)(ha:c.args= #[s,x])(hat:c.argTypes= #[t,t])
  (hs:F s= .nil) (hx:F x= .ms r 0 k l.length) (hr:h[r]? =some (.var e2 l.flatten)) (hl: ∀y∈l,y.length=k) (h0:0<l.length) (ht:wD P t=some (e,k,b)) (hz:zS P e=some z) (hsh:wI (nI z)=true) (hb1:l.length*b<=140737488355328) (hb2:l.length<=140737488355328)
  (kk:R (.ms h.length 0 k l.length) (h++[.var e l.flatten])):OpOk P G rd o h F R:=by
 refine OpOk.of_own (p:= .ms h.length 0 k l.length) (h':=h++[.var e l.flatten]) ?_ kk;have hch:=rL k l hl;rw[ho];cases l with
 |nil=>exact absurd h0 Qf1
 |cons y ys=>
  rw[Qn] at hch hb1 hb2 hx;simp only[zk2,hc,ha,hat,hs,hx,ht,rO,hr,Wk,hch,zaR,hz,Yj,Xv,Yd,Qn];rw[Qj ⟨hsh,hb1,hb2⟩]
theorem OpOk.appMM{o:Oper}{h:Heap}{F:Operand->PV}{R:PV->Heap->Prop}{c:Call}{t e e2:TypeId}{r1 r2 k b:Nat}{l1 l2:List (List PV)}{z:Value}{s x:Operand}(ho:o.op= .call c)(hc:c.callee= .builtin .append)(ha:c.args= #[s,x])(hat:c.argTypes= #[t,t])
  (hs:F s= .ms r1 0 k l1.length) (hx:F x= .ms r2 0 k l2.length) (hr1:h[r1]? =some (.var e l1.flatten)) (hr2:h[r2]? =some (.var e2 l2.flatten)) (hl1: ∀y∈l1,y.length=k) (hl2: ∀y∈l2,y.length=k) (h0:0<l2.length) (ht:wD P t=some (e,k,b)) (hz:zS P e=some z) (hsh:wI (nI z)=true) (hb1:(l1.length+l2.length)*b<=140737488355328) (hb2:l1.length+l2.length<=140737488355328)
  (kk:R (.ms h.length 0 k (l1.length+l2.length)) (h.set r1 .old++[.var e (l1.flatten++l2.flatten)])):OpOk P G rd o h F R:=by
 refine OpOk.of_ownM (p:= .ms h.length 0 k (l1.length+l2.length)) (h':=h.set r1 .old++[.var e (l1.flatten++l2.flatten)]) ?_ kk;have hch:=rL k l2 hl2;rw[ho];simp only[zcU,hc,ha,hat,hs,hx,ht,rO,hr1,hr2,Wk,hch,hz];rw[Qj ⟨trivial,trivial,zzD hl1,h0,hsh,hb1,hb2⟩]
end
end Go.AL
namespace Go.AL
open Go.Proofs Go.Proofs.Tryz
theorem zwA(t:List Vl): ∀l:List (List Vl),(zuH t l).length<=l.length+1
 | []=>Xe _
 |x::l=>by
  unfold zuH;have:=zwA t l;split
  ·rw[Qn,Qn];omega
  ·split<;>simp
theorem zhM: ∀l:List (List Vl),(aO l).length<=l.length
 | []=>Xe _
 |x::l=>by
  show(zuH x (aO l)).length<=_;have:=zwA x (aO l);have:=zhM l;rw[Qn];omega
noncomputable def zx0(p:Pg)(d:Dt)(i:Nat)(key:List Vl):Nat->Option Fa:=zfO (iD (kH p d i) key)
noncomputable def zy3(p:Pg)(b o t:Dt)(i:Nat):List (List Vl):=(kH p b i).map (·.1)++((kH p o i).map (·.1)++(kH p t i).map (·.1))
noncomputable def zlS(p:Pg)(b o t:Dt)(i:Nat):List (List Vl):=aO (zy3 p b o t i)
noncomputable def zwO(p:Pg)(b o t:Dt)(i:Nat)(key:List Vl)(m:Nat):Option Fa:=lL (zx0 p b i key m) (zx0 p o i key m) (zx0 p t i key m)
theorem zsG{p:Pg}{F:Nat->List Vl->Nat->Option Fa}{ks:Nat->List (List Vl)}{X:Dt}{i:Nat}(h:(p.pk.getD i zuW).base=false):jI p F ks (i+1) X=jI p F ks i X:=by
 show(if (p.pk.getD i zuW).base=true then zcZ p (F i) (ks i) (jI p F ks i X) else jI p F ks i X)=_;rw[Qi (by rw[h];decide)]
theorem zsF{p:Pg}{F:Nat->List Vl->Nat->Option Fa}{ks:Nat->List (List Vl)}{X:Dt}{i:Nat}(h:(p.pk.getD i zuW).base=true):jI p F ks (i+1) X=zcZ p (F i) (ks i) (jI p F ks i X):=by
 show(if (p.pk.getD i zuW).base=true then zcZ p (F i) (ks i) (jI p F ks i X) else jI p F ks i X)=_;rw[Qj h]
theorem ztU{p:Pg}{F:List Vl->Nat->Option Fa}(k:List Vl): ∀(l:List (List Vl))(X:Dt),zcZ p F (l++[k]) X=iZ p (F k) 64 (zcZ p F l X)
 | [],_=>rfl
 |a::l,X=>ztU k l (iZ p (F a) 64 X)
section
variable{p:Pg}(hp:p.ok)(hle:p.sm)
include hp hle
theorem zsL{d:Dt}(hX:DatX p d){i:Nat}(hi:i<p.pk.length)(hb:p.pk[i].base=true){key:List Vl}(h:key∈(kH p d i).map (·.1)): ∀v∈key,VIn v:=by
 have htold:=zvD hp hle hX hi hb;unfold kH at h;rw[zvH,eD hi] at h;rcases h with h|⟨c,hc,rfl⟩
 ·cases h
 obtain⟨-, -, -,ax,ek, -⟩:=htold c hc;intro v hv;rw[ek] at hv;exact(ax.vv v (Zk hv)).in'
theorem zjS{x y z:Dt}(hX:DatX p x)(hY:DatX p y)(hZ:DatX p z){i:Nat}(hi:i<p.pk.length)(hb:p.pk[i].base=true){key:List Vl}(h:key∈zlS p x y z i): ∀v∈key,VIn v:=by
 unfold zlS at h;rw[iY] at h;unfold zy3 at h;rcases Qo.1 h with h|h
 ·exact zsL hp hle hX hi hb h
 rcases Qo.1 h with h|h
 ·exact zsL hp hle hY hi hb h
 ·exact zsL hp hle hZ hi hb h
theorem zt3{d:Dt}(hX:DatX p d){i:Nat}(hi:i<p.pk.length)(hb:p.pk[i].base=true){key:List Vl}(hv: ∀v∈key,VIn v){m:Nat}{g:Fa}(h:zx0 p d i key m=some g):FcX p i key g:=by
 unfold zx0 zfO at h;by_cases hm:m<64
 ·rw[zv3 hp hle hX hi hb hv hm] at h;exact zu9 hp hle hX hm hv h
 ·rw[Qb,Ye (by rw[zsB (ztI p d i)];omega)] at h;cases h
theorem zw8{x y z:Dt}(hY:DatX p y)(hZ:DatX p z){i:Nat}(hi:i<p.pk.length)(hb:p.pk[i].base=true){key:List Vl}(hv: ∀v∈key,VIn v){m:Nat}{g:Fa}(h:zwO p x y z i key m=some g):FcX p i key g:=by
 unfold zwO at h;rcases zsD (zx0 p x i key m) (zx0 p y i key m) (zx0 p z i key m) with e|e
 ·rw[e] at h;exact zt3 hp hle hY hi hb hv h
 ·rw[e] at h;exact zt3 hp hle hZ hi hb hv h
theorem zsX{i:Nat}{F:List Vl->Nat->Option Fa}: ∀(ks:List (List Vl))(X:Dt)(N:Nat),DatX p X->LenD N X->(∀key∈ks, ∀m g,m<64->F key m=some g->FcX p i key g)->LenD (N+64*ks.length) (zcZ p F ks X)
 | [],X,N,_,h,_=>h
 |k::ks,X,N,hX,h,hF=>by
  have h1:=(zmE hp hle hX (fun m g hm hg=>hF k (Qe ..) m g hm hg) 64 (Xe _)).1;have h2:=zsV hp hle hX (fun m g hm hg=>hF k (Qe ..) m g hm hg) h 64 (Xe _);have h3:=zsX ks _ (N+64) h1 h2 (fun key hk=>hF key (Qf _ hk));have e:N+64*(k::ks).length=N+64+64*ks.length:=by rw[Qn];omega
  rw[e];exact h3
theorem ztX{x y z:Dt}(hE:DatX p (zq4 p))(hX:DatX p x)(hY:DatX p y)(hZ:DatX p z)(hky: ∀i,(zy3 p x y z i).length<=100000): ∀n,n<=p.pk.length->DatX p (jI p (zwO p x y z) (zlS p x y z) n (zq4 p))/\LenD (6400000*n) (jI p (zwO p x y z) (zlS p x y z) n (zq4 p))
 | 0,_=>⟨hE,⟨fun z hz=>by
   have:z=[]:=Ua hz;rw[this];exact Yn _,fun z hz=>by
   have:z=[]:=Ua hz;rw[this];exact Yn _⟩⟩
 | n+1,hn=>by
  obtain⟨h1,h2⟩:=ztX hE hX hY hZ hky n Qf0;have hi:n<p.pk.length:=Qf0;rcases Zp (p.pk.getD n zuW).base with hb|hb
  ·have hb':p.pk[n].base=true:=Qh3;rw[zsF hb];have hF: ∀key∈zlS p x y z n, ∀m g,m<64->zwO p x y z n key m=some g->FcX p n key g:=fun key hk m g _ hg=>zw8 hp hle hY hZ hi hb' (zjS hp hle hX hY hZ hi hb' hk) hg;refine⟨(ziY hp hle _ _ h1 hF).1,?_⟩;have h3:=zsX hp hle _ _ _ h1 h2 hF;have h4:(zlS p x y z n).length<=100000:=Ya (zhM _) (hky n);exact⟨fun w hw=>by have:=h3.r w hw;omega,fun w hw=>by have:=h3.l w hw;omega⟩
  ·rw[zsG hb];exact⟨h1,fun w hw=>by have:=h2.r w hw;omega,fun w hw=>by have:=h2.l w hw;omega⟩
theorem zv5{x y z:Dt}(hE:DatX p (zq4 p))(hX:DatX p x)(hY:DatX p y)(hZ:DatX p z)(hky: ∀i,(zy3 p x y z i).length<=100000){key:List Vl}(hv: ∀v∈key,VIn v){m:Nat}(hm:m<64): ∀n,n<=p.pk.length-> ∀j:Nat,n<=j->ztF p (jI p (zwO p x y z) (zlS p x y z) n (zq4 p)) j key m=none
 |0,_,j,_=>lkE ..
 | n+1,hn,j,hj=>by
  have ih:=zv5 hE hX hY hZ hky hv hm n Qf0 j Qf0;have hi:n<p.pk.length:=Qf0;rcases Zp (p.pk.getD n zuW).base with hb|hb
  ·have hb':p.pk[n].base=true:=Qh3;rw[zsF hb,(ziY hp hle (i:=n) _ _ (ztX hp hle hE hX hY hZ hky n Qf0).1 (fun key hk m g _ hg=>zw8 hp hle hY hZ hi hb' (zjS hp hle hX hY hZ hi hb' hk) hg)).2 j key m hm hv,Qi (fun w=>by have:=w.1;omega)];exact ih
  ·rw[zsG hb];exact ih
theorem zyU{x y z:Dt}(hE:DatX p (zq4 p))(hX:DatX p x)(hY:DatX p y)(hZ:DatX p z)(hky: ∀i,(zy3 p x y z i).length<=100000){i:Nat}(hi:i<p.pk.length)(hb:p.pk[i].base=true){D:Dt}(hD:D=jI p (zwO p x y z) (zlS p x y z) i (zq4 p)){j:Nat}(hj:j<(zlS p x y z i).length):
  DatX p (zcZ p (zwO p x y z i) ((zlS p x y z i).take j) D)/\LenD (6400000*i+6400000) (zcZ p (zwO p x y z i) ((zlS p x y z i).take j) D)/\ ∀m:Nat,m<64->ztF p (zcZ p (zwO p x y z i) ((zlS p x y z i).take j) D) i (zlS p x y z i)[j] m=none:=by
 obtain⟨h1,h2⟩:=ztX hp hle hE hX hY hZ hky i Qf0;rw[<-hD] at h1 h2;have hF: ∀key∈(zlS p x y z i).take j, ∀m g,m<64->zwO p x y z i key m=some g->FcX p i key g:=fun key hk m g _ hg=>zw8 hp hle hY hZ hi hb (zjS hp hle hX hY hZ hi hb (Zk hk)) hg;have hv:=zjS hp hle hX hY hZ hi hb (Qc hj);have hl:=zsX hp hle ((zlS p x y z i).take j) D _ h1 h2 hF;have h4:(zlS p x y z i).length<=100000:=Ya (zhM _) (hky i);have h5:((zlS p x y z i).take j).length<=100000:=Qfq;refine⟨(ziY hp hle _ _ h1 hF).1,⟨fun w hw=>by have:=hl.r w hw;omega,fun w hw=>by have:=hl.l w hw;omega⟩,fun m hm=> ?_⟩;have hn:(zlS p x y z i)[j]∉(zlS p x y z i).take j:=fun w=>by
  have hso:SoT (zlS p x y z i):=ziT _;obtain⟨k,hk,e⟩:=Qy w;rw[Xk] at hk;rw[List.getElem_take] at e;have:=Zd.1 hso k j Qf0 hj Qf0;exact this.ne e
 rw[(ziY hp hle _ _ h1 hF).2 i _ m hm hv,Qi (fun w=>hn w.2.1),hD];exact zv5 hp hle hE hX hY hZ hky hv hm i Qf0 i (Xe _)
theorem zxU(h:zpQ p=true):DatX p (zq4 p):=by
 obtain⟨-, -,hck⟩:=(ze0 p hp hle).2 h;refine⟨h,by simp[zq4],by simp[zq4],fun j hj hr hl=> ?_⟩;have e1:(zq4 p).pg[j]=[]:=Ud ..;have e2:(zq4 p).pQ[j]=[]:=Ud ..;rw[e1,e2];exact⟨fun _=>⟨rfl,rfl⟩,fun _ _=>⟨rfl,fun k=>CelX.nil _ (hck _ (Qc k))⟩,fun _ _=>⟨rfl,⟨⟨fun i j _ hj=>absurd hj (Xt _),Qf1⟩,Qf1⟩,fun i hi=>absurd hi (Xt _)⟩⟩
end
end Go.AL
