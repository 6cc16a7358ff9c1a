/-
  Part of the walk.
-/
import Derived.WalkKit
import Derived.RangeFuncNested
import Derived.RangeFuncLeaves
import Derived.KernelRfl
set_option linter.unusedSimpArgs false
set_option linter.unusedVariables false
set_option maxRecDepth 100000
set_option maxHeartbeats 4000000
namespace Go.AL
def skD(p:Prop):Prop:=p
theorem skO{q:Prop}(h:skD q):q:=h
theorem Qa0{p:Prop}(h:p:=by
 refine gf (a3 Z3 @hx @h68) ?_;(refine yf1 (a3 Z3 @hx @h68) ?_;refine zP Qf2 Qf2 (wZ b0 b1 _ ml mf mp' L F P .nil Rep (J++[.var 73 _]) rp Qf0 (j4.app _) e' x.at') (yf0 ?_);rintro p2 h2 ⟨Rep',J',rfl,hr',hk'⟩);have hq':=hk' J.length _ (Wb ..) Qf1;have hF':=hk'.grow Qf2 (j3.app _);have hL':=hk'.grow Qf2 (j2.app _);have hP':=hk'.grow Qf2 (jp.app _);have hqlt:J.length<J'.length:=(gsi hq').1;have h6J:(6<J'.length+1+1+1+1+1+1+1)=True:=Qf1;have hqJ:(J.length<J'.length)=True:=Qfl;have hpb: ∀y:Pd,y∈ps++[⟨x.name,x.types,x.lat,of',x.base,x.key,x.at'⟩]-> -1<=y.of'/\(y.of':Int)<(pQ.length:Int)/\y.types.length<=4:=by
  intro y hy;rcases Qo.1 hy with hy|hy
  ·exact j7 y hy
  ·rw[Qp] at hy;subst hy;dsimp only;omega
 have hpz:PzL pk (ps++[⟨x.name,x.types,x.lat,of',x.base,x.key,x.at'⟩]):=PzL.app j8 j6 hi hxe (fun e=>absurd e hs);clear h68 hx hk';generalize J.length=q at*;rcases hP' with ⟨h0,rfl⟩|⟨ql,rfl,hql⟩
 ·have hps:ps=[]:=Qg5;subst hps;refine gf (a4 Z8 @hq' @h6J @hqJ) ?_;exact⟨(mp',_,Rep',bU rp e' x.at',_,[⟨x.name,x.types,x.lat,of',x.base,x.key,x.at'⟩]),⟨hmp',hL'.app _,hF'.app _,.inr ⟨J'.length,Qf1,Qf1⟩,hr'.app _,⟨by have:=vB rp e' x.at';dsimp only;omega,fun q=>j5.2 (wQ q).1⟩,by simp at j6 ⊢;omega,hpb,hpz⟩,rfl,rfl,rfl⟩
 ·simp only[Qr] at hql;have hqll:ql<J'.length:=(gsi hql).1;have hfl:ps.length<=24:=Qf0;refine gf (a5 Z8 @hq' @h6J @hqJ @hql) ?_;exact⟨(mp',_,Rep',bU rp e' x.at',_,ps++[⟨x.name,x.types,x.lat,of',x.base,x.key,x.at'⟩]),⟨hmp',hL'.set2 hql Qf1 _,hF'.set2 hql Qf1 _,.inr ⟨ql,by rw[Xq];rfl,by rw[Qh hqll];simp⟩,hr'.set2 hql Qf1 _,⟨by have:=vB rp e' x.at';dsimp only;omega,fun q=>j5.2 (wQ q).1⟩,by simp[j6],hpb,hpz⟩,rfl,rfl,rfl⟩):p:=h
theorem Qa1{p q:Prop}(k:q)(h:skD q->p:=by intro gk;refine jS (own:=true) wN zK ⟨[⟨0,0,[]⟩,⟨0,0,[]⟩,⟨0,0,[]⟩,⟨0,0,[]⟩,⟨0,0,[]⟩,⟨0,0,[]⟩,⟨0,0,[]⟩,⟨1,0,[]⟩,⟨0,0,[]⟩,⟨0,0,[]⟩,⟨0,0,[]⟩,⟨1,0,[]⟩,⟨0,0,[]⟩,⟨0,0,[]⟩,⟨0,0,[]⟩,⟨0,0,[]⟩,⟨0,0,[]⟩,⟨1,0,[]⟩,⟨0,0,[]⟩,⟨0,0,[]⟩,⟨0,0,[]⟩,⟨0,0,[]⟩,⟨0,0,[]⟩,⟨1,0,[]⟩,⟨0,0,[]⟩,⟨0,0,[]⟩,⟨0,0,[]⟩,⟨0,0,[]⟩,⟨0,0,[]⟩,⟨1,0,[]⟩,⟨0,0,[]⟩,⟨0,0,[]⟩,⟨4,0,[]⟩,⟨0,0,[]⟩],[0,1,2,3,4,5,6,7,8,9,10,11,12,13,14,15,16,17,18,19,20,21,22,23,24,25,26,27,28,29,30,31,32,33],0⟩ Qf3 ?_;exact skO gk):p:=h k
theorem Qa2{p:Prop}(h:p:=by
 have hnewb:(S.w.setRow g (olds++news++cur.toList.drop (els.length*k+news.length)).toArray).heap[g]? =some (.cells (olds++news++cur.toList.drop (els.length*k+news.length)).toArray e (0,0)):=setRow_heap S.w g cur _ e _ hg;have hother: ∀b,b≠g->(S.w.setRow g (olds++news++cur.toList.drop (els.length*k+news.length)).toArray).heap[b]? =S.w.heap[b]? :=fun b hb=>setRow_other S.w g b _ hb;obtain⟨x,hS'⟩:=kQ (v:= .slice (some ⟨g,0,none⟩) (els.length+xs.length) c1) (n':=els.length+xs.length) (w':=S.w.setRow g (olds++news++cur.toList.drop (els.length*k+news.length)).toArray) hS hb Qf0 rfl ztC rfl Qf1
  (fun b hb=>by
   by_cases hbg:b=g
   ·subst hbg;refine .inl fun y hy hby=>⟨rfl,fun j u hj hju=> ?_⟩
    rw[cell_of_row _ _ _ _ _ _ hg] at hju;rw[cell_of_row _ _ _ _ _ _ hnewb];have h2:olds[j]? =some u:=by rw[<-hcur,Xr,Qj hj];simpa using hju
    have h3:=(gsi h2).1;simp only[Je,Qv];rw[Qs,Qj h3];exact h2
   ·exact .inr (hother b hbg))
  (fun b hb hne=>hother b fun hbg=>hne _ hφ (by rw[he,hbg];rfl)) (fun b hb=> .inl ⟨_,hφ,by rw[he];exact hb⟩)
  (fun b m ⟨ar,t1,f1,h1,h2⟩=>by
   by_cases hbg:b=g
   ·subst hbg;rw[hg] at h1;cases h1;exact⟨_,_,_,hnewb,by simp;omega⟩
   ·exact⟨ar,t1,f1,(hother b hbg).trans h1,h2⟩)
  (.inr ⟨g,c1,_,rfl,hnewb,hroom,hcm,by simp;omega⟩)
 refine⟨_,_,_,by rw[he];exact hr1,x,hS',fin _ _ _ _ _ x hS' rfl hnewb ?_ hroom hcm⟩;rw[<-hal];exact List.take_left):p:=h
theorem Qa3{p:Prop}(h:p:=by
 rintro i _ hi hw hI;refine gm ?_;have hlb:i<b.length:=Qf0;have hg:=zG (f:=Vl.c) [] hi;have hgb:=zG (f:=Vl.c) [] hlb;by_cases he:a[i]=b[i]
 ·have hI': ∀(j:Nat)(h:j<a.length)(h':j<b.length),j<i+1->a[j]=b[j]:=fun j h h' hj=>by
   rcases Xy j i with hji|hji
   ·exact hI j h h' hji
   ·have:j=i:=Qf0;subst this;exact he
  rw[<-he] at hgb;have f1: ∀x:Int,(x==x)=true:=fun x=>by simp
  have f1s: ∀s:BA,decide (s=s)=true:=fun s=>by simp
  generalize a[i]=x at*;refine gf (a9 @hi @hlb @hw @hg @hgb @zB @eqV @f1 @f1s) ?_;exact⟨(),hI',rfl,rfl,rfl⟩
 ·have e:decide (a=b)=false:=by
   rw[Xo];intro h;subst h;exact he rfl
  rw[e];have f2:(a[i].t==b[i].t&&(a[i].n==b[i].n&&decide (a[i].s=b[i].s)))=false:=by
   rcases Zp (a[i].t==b[i].t&&(a[i].n==b[i].n&&decide (a[i].s=b[i].s))) with h|h
   ·exfalso;simp only[Zw,Qt,Zm,Xm] at h;apply he;generalize a[i]=x at*;generalize b[i]=y at*;cases x;cases y;simp_all
   ·exact h
  generalize a[i]=x at*;generalize b[i]=y at*;refine gf (a8 @hi @hlb @hw @hg @hgb @zB @eqV @f2) ?_;exact⟨⟨rfl,.sc⟩,rfl⟩):p:=h
theorem Qa4{p:Prop}(h:p:=by
 obtain⟨y,hy,rfl⟩:=znV hj;obtain⟨y1,y2,y3, -⟩:=wP y (Qk hy);obtain⟨w1,w2,w3⟩:=zr4 y1 y2 y3 gda gdb gdc hz;have hnd:=zs5 (fb:=zfO A) (fo:=zfO B) (ft:=zfO C) m;rw[<-zoK] at hnd;have hp2:=Zd.1 hnd;have e1:=(gsi hy).2;have e2:=(gsi hk).2;have hyl:=(gsi hy).1;have etr:y.tr=x.tr:=by simp only[Cf.tr,w1,w2,w3,hxe.1,hxe.2.1,hxe.2.2]
 have:j=k:=by
  rcases Jy j k with g|g|g
  ·exact absurd (by rw[Xu,Xu,e1,e2];exact etr) (hp2 j k (by simpa using hyl) (by simpa using hkl) g)
  ·exact g
  ·exact absurd (by rw[Xu,Xu,e1,e2];exact etr.symm) (hp2 k j (by simpa using hkl) (by simpa using hyl) g)
 rw[this]):p:=h
theorem Qa5{p:Prop}(h:p:=by
 clear search ih hcd hqd hM hMa w1 w2 e1 e2 w3 w4 k3 k4 hd ham hmb hb hm1 hm2 hgt hgt1 hi hij hlt;have gx:=xG l q k1;have gy:=xG l c k2;have hby:=uS l[q] l[c] (hok _ (Qc k1)) (hok _ (Qc k2));generalize l[q]=x at*;generalize l[c]=y at*;generalize hcc:sD x.args y.args=cc at*;(repeat(first|refine gz ?_|(refine gn ?_;intro zs zh;(try simp only[go_sem,F2,hlt1,hm,hu,hsh,hc,hwc,hwp,gx,gy,k1,k2,hneg] at zh);subst zh;(first|refine gv ?_|((first|refine zC (hby.call zK Qfb _) ?_|refine zP Qf2 Qf2 (hby.call zK Qfb _) ?_);intro p2 h2 hr2;obtain⟨hr2,rfl⟩:=hr2;first|obtain⟨_,rfl,hr2⟩:=hr2|obtain⟨_,rfl⟩:=hr2|subst hr2|skip)))|refine yD URsx1f354.pl ?_));exact⟨c+1,⟨fin.1,fin.2.1⟩,fin.2.2,rfl,rfl,rfl⟩):p:=h
theorem Qa6{p:Prop}(h:p:=by
 (refine Go.AL.g1 ?_;refine zC ((hOf.call zK Qf1 _).args (.cons hple .nil)) (yf0 ?_);rintro p2 h2 ⟨rfl,rfl⟩);refine gf (a4 F @hwp @hwp1 @g4) ?_;(refine Go.AL.g1f @g4 ?_;refine zC (mM.call zK Qf1 _) (yf0 ?_);rintro p2 h2 ⟨rfl,rfl⟩);rcases hG with ⟨he,rfl⟩|⟨q,rfl,hq⟩
 ·refine ge ?_;exact⟨(i+1,_,_),fin _ _ (.inr ⟨_,by rw[hst,he];rfl,by rw[hst,he];simp⟩),by dsimp only;omega,rfl,rfl,rfl⟩
 ·have hq1:q<J.length:=(gsi hq).1;have hq2: ∀b,(J++[b])[q]? =some (.vec 159 2 i):=fun b=>by rw[Qg hq1,hq,hgl]
  refine gf (a2 @hq2 @hgl) ?_;exact⟨(i+1,_,_),fin _ _ (.inr ⟨q,by rw[hst],by rw[hst];rw[Qh Qfh];simp;omega⟩),by dsimp only;omega,rfl,rfl,rfl⟩):p:=h
theorem Qa7{p:Prop}(h:p:=by
 rintro i _ hi hw _;refine gm ?_;have hx:=zG (f:=ziC) [] hi;(repeat' (first|refine gz ?_|(refine gn ?_;intro zs zh;(try simp only[go_sem,hi,hx,ziC,zB,hw] at zh);subst zh;(first|refine gv ?_|(refine yS (fun he=> ?_) (fun he=> ?_)<;>(try simp only[mM] at he))))|((with_reducible refine tO rfl ?_);intro sr hsr;simp only[sK,wP] at hsr;subst hsr;(fail_if_success(with_reducible(first|refine tL ?_|refine tN ?_)));refine tK (fun he=> ?_) (fun he=> ?_)<;>(intro ts2 hts;simp only[wP] at hts;subst hts;(try simp only[mM] at he)))|fail));all_goals first|(exact⟨⟨⟨_,rfl,trivial⟩,.sc⟩,rfl⟩)|(refine⟨(),trivial,?_,?_,rfl⟩<;>simp only[zY,xJ,Xs])):p:=h
theorem Qa8{p:Prop}(h:p:=by
 rw[holds,Qu] at hj;cases hk:(List.range (els.length*k))[j]? with
 |none=>rw[hk] at hj;cases hj
 |some j'=>
  rw[hk] at hj;cases hj;obtain⟨hlt,rfl⟩:=gsi hk;simp at hlt ⊢
  exact hlt):p:=h
theorem Qa9{p:Prop}(h:p:=by
 rintro k b6 hk zg1 hI6;refine gm ?_;have hy:=zG (f:=Li.c) [] hk;generalize x.body[k]=y at*;cases b6
 ·(have F:=(a7 @hi @hw @hx @zB @hk @zg1 @hy);(repeat' (first|refine dR F ?_|refine dQ F (fun he=> ?_) (fun he=> ?_)|fail));all_goals clear F);exact⟨_,Qf1,rfl,rfl,rfl⟩
 ·(have F:=(a7 @hi @hw @hx @zB @hk @zg1 @hy);(repeat' (first|refine dR F ?_|refine dQ F (fun he=> ?_) (fun he=> ?_)|fail));all_goals clear F);exact⟨_,fun _=>hI6 rfl,rfl,rfl,rfl⟩):p:=h
theorem Qaa{p:Prop}(h:p:=by
 exact⟨⟨rfl,.sc⟩,rfl⟩):p:=h
theorem Qab{p:Prop}(h:p:=by
 refine⟨(m+1,⟨_,.ms G3.length 0 12 (cf.length+1),cf++[⟨a,b,c,yW (uQ [] ||| uQ [⟨m,(m:Int)+1⟩])⟩],_⟩),⟨by dsimp only;omega,next _ _ _ _ Qf4 (by rw[hcfk,Qj rfl,hcfn]) ⟨k4 _ k2D.t (nC k2D.t Qf1),k4 _ k2D.r (nC k2D.r Qf1),k4 _ k2D.l (nC k2D.l Qf1)⟩ (k4 _ k2M (nC k2M Qf1)) (k4 _ k2P (nC k2P Qf1)) (.inr ⟨G3.length,Qf0,Qf1,Qf1,zA _ _⟩) (fun r' b' h1 h2 h3=>k4 _ (k2K r' b' h1 h2 h3) (by have:=(gsi h3).1;omega))⟩,by dsimp only;omega,by(simp only[zY,xJ,Xs];rfl),rfl,rfl⟩):p:=h
theorem Qac{p:Prop}(h:p:=by
 obtain⟨hlt,rfl⟩:=hog j v hj;rcases Yr els.length with h0|h0
 ·rw[h0] at hlt;omega
 ·have ha:=g4 Qf0;cases ha;exact(g5 j hlt).1):p:=h
theorem Qad{p q:Prop}(k:q)(h:skD q->p:=by intro gk;(repeat(first|refine gz ?_|(refine gn ?_;intro zs zh;(try simp only[go_sem,F1,h0,h01,wi,hi1,hp1,hc0] at zh);subst zh;(first|refine gv ?_|((first|refine zC (hiv.call zK Qf1 _) ?_|refine zP Qf2 Qf2 (hiv.call zK Qf1 _) ?_|refine zC (hby.call zK Qfb _) ?_|refine zP Qf2 Qf2 (hby.call zK Qfb _) ?_);intro p2 h2 hr2;obtain⟨hr2,rfl⟩:=hr2;first|obtain⟨_,rfl,hr2⟩:=hr2|obtain⟨_,rfl⟩:=hr2|subst hr2|skip)))|refine yD URsx6f80.pl ?_));exact skO gk):p:=h k
theorem Qae{p:Prop}(h:p:=by
 refine⟨(m+1,⟨_,.ms G2.length 0 12 1,[⟨a,b,c,yW (uQ [] ||| uQ [⟨m,(m:Int)+1⟩])⟩],_⟩),⟨by dsimp only;omega,next _ _ _ _ Qf4 (by rw[hcfk,Qj rfl,hcfn];rfl) ⟨k3 _ _ _ k2D.t,k3 _ _ _ k2D.r,k3 _ _ _ k2D.l⟩ (k3 _ _ _ k2M) (k3 _ _ _ k2P) (.inr ⟨G2.length,Qf0,Qf1,rfl,?_⟩) (fun r' b' h1 h2 h3=>k3 _ _ _ (k2K r' b' h1 h2 h3))⟩,by dsimp only;omega,by(simp only[zY,xJ,Xs];rfl),rfl,rfl⟩;rw[zA];simp[ztE,hfpa]):p:=h
theorem Qaf{p:Prop}(h:p:=by
 apply Zh;intro j;rw[Xr];split
 ·rename_i hj;have h1:=(g5 j hj).1;rcases Yr els.length with h0|h0
  ·rw[h0] at hj;omega
  ·have ha:=g4 Qf0;cases ha;rw[Addr.add_lit,Yd,cell_of_row _ _ _ _ _ _ hg] at h1;rw[Yi,h1,holds,Qu,Kc Qf0];rfl
 ·rename_i hj;rw[Ye (by rw[hol];omega)]):p:=h
theorem Qag{p:Prop}(h:p:=by
 obtain⟨h1,h2,h3,h4,h5,h6⟩:=hm;have hab:a.block≠b:=fun e=>by
  obtain⟨e',k,n,hh,_⟩:=h6 r _ hp (by simp[sC,e]);rw[hb] at hh;cases hh
 refine⟨(World.cell?_of_block (hw _ hab)).trans h1,h2,h3,by simp only[];omega,h5,fun r' v' hp' hv'=> ?_⟩;obtain⟨e,k,n,hh,hlt⟩:=h6 r' v' hp' hv';refine⟨e,k,n,?_,hlt⟩;have:r≠r':=fun e=>by subst e;rw[hb] at hh;cases hh
 simp only[Qq,Qi this];exact hh):p:=h
theorem Qah{p:Prop}(h:p:=by
 obtain⟨rfl,h1⟩:=h1;have h2:=wJ (lo.map f) b 0;rcases hb2:yV (α:=Bool) (lo.map f) b 0 with _|⟨a,c'⟩<;>rcases hp2:yV (α:=Prop) (lo.map f) b 0 with _|⟨a',c0'⟩<;>rw[hb2,hp2] at h2
 ·simp only[hb2,hp2];exact zT
 ·exact h2.elim
 ·exact h2.elim
 ·obtain⟨rfl,h2⟩:=h2;simp only[hb2,hp2];exact sW _ (rT h1 h2)):p:=h
theorem Qai{p:Prop}(h:p:=by
 refine zF rfl rfl rfl ?_;intro sr hsr;simp only[go_sem] at hsr;subst hsr;refine tY Qf2 Qf2 hcall ?_;intro ts2 hts;simp only[zZ,Xn,Xl] at hts;subst hts;(repeat(first|refine gz ?_|(refine gn ?_;intro zs zh;(try simp only[go_sem,Z] at zh);subst zh;refine gv ?_)|refine zQ yL _ 11 Qf3 ?_));exact⟨rfl,rfl⟩):p:=h
theorem Qaj{p:Prop}(h:p:=by
 rw[zoK] at hx;obtain⟨k,hk,e1,e2,e3,e4⟩:=ztM hx;refine⟨fun g hg=> ?_,fun g hg=> ?_,fun g hg=> ?_,e4⟩
 ·have:=fA' g k (by rw[<-e1];exact hg);exact⟨this.pr,this.gd hp hle hX⟩
 ·have:=fB' g k (by rw[<-e2];exact hg);exact⟨this.pr,this.gd hp hle hX⟩
 ·have:=fC' g k (by rw[<-e3];exact hg);exact⟨this.pr,this.gd hp hle hX⟩):p:=h
theorem Qak{p:Prop}(h:p:=by
 refine zF rfl rfl rfl ?_;intro sr hsr;simp only[go_sem,hpl] at hsr;subst hsr;refine tY Qf2 Qf2 hcall9 ?_;intro ts2 hts;simp only[zZ,Xn,Xl] at hts;subst hts;(repeat(first|refine gz ?_|(refine gn ?_;intro zs zh;(try simp only[go_sem,Z,h7q] at zh);subst zh;refine gv ?_)|refine zQ yF _ 2 Qf3 ?_));exact⟨rfl,rfl⟩):p:=h
theorem Qal{p q:Prop}(k:q)(h:skD q->p:=by intro gk;(repeat(first|refine gz ?_|(refine gn ?_;intro zs zh;(try simp only[go_sem,jY] at zh);subst zh;refine gv ?_)|refine zQ uD _ 9 Qf3 ?_));exact skO gk):p:=h k
theorem Qam{p q:Prop}(k:q)(h:skD q->p:=by intro gk;(repeat(first|refine gz ?_|(refine gn ?_;intro zs zh;(try simp only[go_sem] at zh);subst zh;refine gv ?_)|refine zQ uD _ 9 Qf3 ?_));exact skO gk):p:=h k
theorem Qan{p:Prop}(h:p:=by
 have hU5:=hU3.trans hU4;have hl5:=hU4.get hU3.m hU3.c (zA _ _) Qf1 Qf1;cases r with
 |true=>
  refine gf (a4 Z3 @e3 @e3' @hl5) ?_;exact⟨(cls3,tys3,_),⟨hU5,hI4⟩,rfl,rfl,rfl⟩
 |false=>
  refine gf (a4 Z3 @e3 @e3' @hl5) ?_;exact fin _ _ _ _ _ _ hU5):p:=h
theorem Qao{p:Prop}(h:p:=by
 refine zF rfl rfl rfl ?_;intro sr hsr;simp only[go_sem] at hsr;subst hsr;refine tY Qf2 Qf2 hcall ?_;intro ts2 hts;simp only[zZ,Xn,Xl] at hts;subst hts;(repeat(first|refine gz ?_|(refine gn ?_;intro zs zh;(try simp only[go_sem,h4x] at zh);subst zh;refine gv ?_)|refine zQ yF _ 2 Qf3 ?_));exact⟨rfl,rfl⟩):p:=h
theorem Qap{p:Prop}(h:p:=by
 have hU5:=hU3.trans hU4;have hl5:=hU4.get hU3.m hU3.c (zA _ _) Qf1 Qf1;cases r with
 |true=>
  refine gf (a4 Z2 @e3 @e3' @hl5) ?_;exact⟨(cls3,tys3,_),⟨hU5,hI4⟩,rfl,rfl,rfl⟩
 |false=>
  refine gf (a4 Z2 @e3 @e3' @hl5) ?_;exact fin _ _ _ _ _ _ hU5):p:=h
theorem Qaq{p q:Prop}(k:q)(h:skD q->p:=by intro gk;(repeat(first|refine gz ?_|(refine gn ?_;intro zs zh;(try simp only[go_sem,F2,e3] at zh);subst zh;(first|refine gv ?_|((first|refine zC (hvv.call zK Qfb _) ?_|refine zP Qf2 Qf2 (hvv.call zK Qfb _) ?_);intro p2 h2 hr2;obtain⟨hr2,rfl⟩:=hr2;first|obtain⟨_,rfl,hr2⟩:=hr2|obtain⟨_,rfl⟩:=hr2|subst hr2|skip)))|refine yD URsx6f80.pl ?_));exact skO gk):p:=h k
theorem Qar{p q:Prop}(k:q)(h:skD q->p:=by intro gk;(repeat(first|refine gz ?_|(refine gn ?_;intro zs zh;(try simp only[go_sem,F3,e3] at zh);subst zh;(first|refine gv ?_|((first|refine zC (hvv.call zK Qfb _) ?_|refine zP Qf2 Qf2 (hvv.call zK Qfb _) ?_);intro p2 h2 hr2;obtain⟨hr2,rfl⟩:=hr2;first|obtain⟨_,rfl,hr2⟩:=hr2|obtain⟨_,rfl⟩:=hr2|subst hr2|skip)))|refine yD URsx6f80.pl ?_));exact skO gk):p:=h k
theorem Qas{p:Prop}(h:p:=by
 have F:=(a9 @hi @hlb @hw @hg @hgb @zB @qK @rN (a2 @rU @sB))
 refine gf F ?_;(refine g1f F ?_;refine zC ((hF _ (Qc hi) _ (Qc hlb)).call zK Qfb _) (yf0 ?_);rintro p2 h2 ⟨⟨r,rfl, -⟩,rfl⟩);cases r
 ·refine gf F ?_;exact⟨_,rfl,Qf1⟩
 ·refine gf F ?_;exact⟨_,trivial,rfl,rfl,rfl⟩):p:=h
theorem Qat{p:Prop}(h:p:=by
 (have F:=(a4 @hi @hw @hx @zB);(repeat' (first|refine dR F ?_|refine dQ F (fun he=> ?_) (fun he=> ?_)|fail));all_goals clear F);exact⟨_,Qf1,rfl,rfl,rfl⟩):p:=h
theorem Qau{p:Prop}(h:p:=by
 rcases Qo.1 hu with h|h
 ·obtain⟨j,hj,rfl⟩:=Qy h;obtain⟨hlt,he⟩:=hog j _ (Qa hj);rw[he];exact(g5 j hlt).2.1
 ·exact hsrc.one u h):p:=h
theorem Qav{p:Prop}(h:p:=by
 refine⟨ar1,t1,f1,(hw b1 fun e=> ?_).trans hr1,hm1⟩;subst e;rw[hh] at hr1;cases hr1):p:=h
theorem Qaw{p:Prop}(h:p:=by
 have e1:(d'.extract 0 xs.length).toList=d'.toList:=by rw[show xs.length=d'.size from hds.symm,Array.extract_size]
 have e2:((Array.range n).extract 0 xs.length).toList=List.range n:=by
  rw[show xs.length=(Array.range n).size by simp[n],Array.extract_size];simp
 rw[e1,e2] at hperm;exact hperm):p:=h
theorem Qax{p:Prop}(h:p:=by
 have e0:S.h.set r (.vec e k (els.length+([]:List (List PV)).length))=S.h:=by
  apply Zh;intro j;rw[Qq];split
  ·rename_i hj;subst hj;rw[hb];simp[hr]
  ·rfl
 rw[e0,Xz];exact⟨Ext.refl _,hS,.vec hts hb (Xe _) (fun _=>hφ)⟩):p:=h
theorem Qay{p:Prop}(h:p:=by
 repeat' split
 all_goals first|exact zT|exact xB _ _):p:=h
theorem Qaz{p:Prop}(h:p:=by
 generalize x[k]=y at*;(have F:=(a7 @hi @hx @hw @zB @hk @zg1 @hy);(repeat' (first|refine dR F ?_|refine dQ F (fun he=> ?_) (fun he=> ?_)|fail));all_goals clear F);all_goals first|exact⟨_,rfl,Qf1⟩|exact⟨(),up2 ⟨Qf0,Qf0⟩,rfl,rfl,rfl⟩):p:=h
theorem Qb0{p:Prop}(h:p:=by
 rename_i b hb;have hy:=nK hA.tr hb;rcases wP with ⟨hbw,wP⟩|⟨hbw,e1,e2⟩
 ·rw[Qj (by simp[Region.wanted,hg,hy,hbw])];exact step wP
 ·rw[Qi (by simp[Region.wanted,hg,hy,hbw])];exact⟨fun _ _=>trivial,skip e1 e2⟩):p:=h
theorem Qb1{p:Prop}(h:p:=by
 rcases Int.le_total 0 b with hb|hb
 ·obtain⟨m,rfl⟩:=Qm hb;exact Int.ofNat_le.2 (Nat.mod_le n m)
 ·obtain⟨m,hm⟩:=Qm (Int.neg_nonneg_of_nonpos hb);rw[show b= -(m:Int) by omega,Int.tmod_neg];exact Int.ofNat_le.2 (Nat.mod_le n m)):p:=h
theorem Qb2{p:Prop}(h:p:=by
  rename_i t m k x hop;obtain⟨w',g1,g2,g3,rfl⟩:=upd t m k x Qh6 Qh6 Qh6 he;rw[hop];exact⟨S.φ,w',g2,g3,.inr ⟨by simp only[Xp,g1,Xd,Yc],rfl⟩⟩):p:=h
theorem Qb3{p:Prop}(h:p:=by
 subst h0;(repeat' (first|refine gp ?_|refine gs (fun he=> ?_) (fun he=> ?_)|fail));exact⟨⟨⟨_,rfl,trivial⟩,.sc⟩,rfl⟩):p:=h
theorem Qb4{p:Prop}(h:p:=by
 refine hK1.trans fun q c hq hc=> ?_;have:r≠q:=fun w=>by
  subst w;rw[hHr] at hq;cases hq;rcases hc with hc|hc
  ·have:=hlo1.2 _ (Qk hj1);dsimp only at this;omega
  ·exact hc.1 _ rfl
 rw[Qd this];exact hq):p:=h
theorem Qb5{p:Prop}(h:p:=by
 rintro b1 m1 ⟨ar1,t1,f1,hr1,hm1⟩;by_cases e:b1=b
 ·subst e;rw[show w.heap[b1]? =some (.cells ar1 t1 f1) from hr1] at hhs;cases hhs;exact⟨arr',_,_,hw1b,by rw[hasz];exact hm1⟩
 ·exact⟨ar1,t1,f1,(jY b1 e).trans hr1,hm1⟩):p:=h
theorem Qb6{p:Prop}(h:p:=by
 cases b<;>first|exact h.elim|skip
 cases c<;>first|exact k.elim|skip
 exact hr h k):p:=h
theorem Qb7{p:Prop}(h:p:=by
 refine gf @zg1 ?_;refine⟨(_,es2),⟨⟨?_,g2,g3,(hI1.app _).k.trans g4⟩,?_⟩,rfl,rfl,rfl⟩
 ·dsimp only;rw[g1,hI1.t,htq,<-Qv,zu1]
 ·exact g4 _ _ hrA (.inr ⟨fun cs e=>(by cases e),fun es e=>(by cases e)⟩)):p:=h
theorem Qb8{p:Prop}(h:p:=by
 refine⟨(Value.agg (kG x.b x.o x.t),i64 k),?_,by rw[hxe.1,hxe.2.1,hxe.2.2]⟩;unfold ze3;refine Xf.2 ⟨(x,k),?_,rfl⟩;rw[List.mem_iff_getElem?];exact⟨k,by rw[Kr,hk];simp⟩):p:=h
theorem Qb9{p:Prop}(h:p:=by
 exact⟨(),trivial,rfl,rfl,rfl⟩):p:=h
theorem Qba{p:Prop}(h:p:=by
 refine gf (a5 F @hlt1 @we @d3 @zM) ?_;(refine Go.AL.g1f F ?_;refine zC (ih l hl hok hso s m b Qf0 Qf0 Qf0 Qf0 h r hr) (yf0 ?_);intro p2 h2 hr2);subst hr2;refine ge ?_;rfl):p:=h
theorem Qbb{p:Prop}(h:p:=by
 rename_i cs vs;obtain⟨m,hm⟩:=zgO (n:=S.h.length) (cs:=cs) fun p hp=>by
  obtain⟨i,hi,rfl⟩:=Qy hp;exact ih i _ vs[i] (Qa hi) (Qx Qf0)
 exact⟨m+1,pP fun H F hF=>by simp only[fz];rw[zf9 hm hF]⟩):p:=h
theorem Qbc{p:Prop}(h:p:=by
 cases ok
 ·exact hq
 ·refine .tup rfl fun i p y hp hy=> ?_
  match i with
  |0=>simp at hp hy;subst hp;subst hy;exact hq
  |1=>simp at hp hy;subst hp;subst hy;exact .sc trivial
  |i+2=>simp at hp):p:=h
theorem Qbd{p:Prop}(h:p:=by
  rw[Wc] at he;split at he
  · rename_i hij
    subst hij;rw[hj] at he;cases he;exact hborn.2.2 _ e' hj
  · exact hborn.2.2 i e he):p:=h
theorem Qbe{p:Prop}(h:p:=by
 exact⟨_,rfl,Qf1⟩):p:=h
theorem Qbf{p:Prop}(h:p:=by
 rw[Zd];intro i j hi hj hij;have:=hsorted i j (Yn _) hij Qf0;simp only[ltOf] at this ⊢
 rw[hgy i hi,hgy j hj,<-ha _ (hdn i Qf0),<-ha _ (hdn j Qf0)];exact this):p:=h
theorem Qbg{p q:Prop}(k:q)(h:skD q->p:=by intro gk;refine zp6 (own:=false) wN zK ⟨[⟨0,0,[]⟩,⟨0,0,[]⟩,⟨6,0,[1005]⟩,⟨0,0,[]⟩,⟨7,0,[1005]⟩,⟨4,0,[]⟩,⟨0,0,[]⟩,⟨4,0,[]⟩,⟨0,0,[]⟩],[0,1,2,3,4,5,6,7,8],0⟩ [0,1,2,3,4] [5,6,7,8] Qf3 rfl ?_;exact skO gk):p:=h k
theorem Qbh{p:Prop}(h:p:=by
 split at k
 ·rename_i p c he;exact⟨p,h,⟨rfl,c,he,(val k).1⟩,(val k).2⟩
 ·exact k.elim):p:=h
theorem Qbi{p:Prop}(h:p:=by
 obtain⟨j,hj⟩:=Zq hz;obtain⟨y,hy,rfl⟩:=znV hj;obtain⟨y1,y2,y3, -⟩:=wP y (Qk hy);exact hsn ⟨y,Qk hy,zr4 y1 y2 y3 gda gdb gdc e⟩):p:=h
theorem Qbj{p:Prop}(h:p:=by
 split at ht
 ·rename_i hu';exact fin (fun d=>by simp only[Op.equalIn,Xp,Xc hu',Xd,Yc,Option.isNone]) Qf1 Qf1 Qf1 Qf1 Qf1 (.inr Qf1)
 ·cases ht):p:=h
theorem Qbk{p:Prop}(h:p:=by
 refine⟨h1,fun t=>by rw[<-zn5];exact h2 t,fun x hx=> ?_⟩;obtain⟨y,hy,e⟩:=h3 x hx;rcases Qo.1 hy with hy|hy
 ·exact .inr ⟨y,hy,e⟩
 ·rw[Qp] at hy;subst hy;exact .inl e):p:=h
theorem Qbl{p:Prop}(h:p:=by
 simp only[sC] at hby;have:r'=r:=hS'.inj r' r y _ b2 hy hown hby rfl;subst this;exact⟨e,k,els.length+xs.length,by simp[hr],by rw[<-hal];exact hjl⟩):p:=h
theorem Qbm{p:Prop}(h:p:=by
 induction l generalizing i with
 |nil=>cases h
 | cons x l ih=>
  cases i with
  |zero=>rfl
  |succ i=>
   rw[tR,show(i+1)*2=i*2+1+1 by omega,Wg,Wg,ih i Qfn];rfl):p:=h
theorem Qbn{p:Prop}(h:p:=by
 have:j=i:=Qf0;subst this;exact q):p:=h
theorem Qbo{p:Prop}(h:p:=by
 cases hv1 with
 |fn hl1 hl2 h3 h4=>
  rename_i us vs;have e1:us= #[]:=Yu (by simpa using hl1);have e2:vs= #[]:=Yu (by simpa using hl2);subst e1;subst e2;rfl):p:=h
theorem Qbp{p:Prop}(h:p:=by
 rw[Jg];constructor
 ·rintro⟨x,hx,h⟩;obtain⟨s,hs,rfl⟩:=Xf.1 h;exact⟨x,hx,s,hs,rfl⟩
 ·rintro⟨x,hx,s,hs,rfl⟩;exact⟨x,hx,Xf.2 ⟨s,hs,rfl⟩⟩):p:=h
theorem Qbq{p:Prop}(h:p:=by
 match i,hp,hv with
 |0,hp,hv=>simp at hp hv;subst hp;subst hv;exact hvr x
 |1,hp,hv=>simp at hp hv;subst hp;subst hv;exact hvr y
 |i+2,hp,hv=>simp at hp):p:=h
theorem Qbr{p:Prop}(h:p:=by
 by_cases qe:ze7 l (ms.getD i 0)=true
 ·rw[Qj ⟨qe,Qf0,Qf0⟩,Qj ⟨Qf0,hv,qe⟩]
 ·rw[Qi (fun w=>qe w.1),Qi (fun w=>qe w.2.2)]):p:=h
theorem Qbs{p:Prop}(h:p:=by
 exfalso;have:=k s.a.toNat;rw[List.any_nil,Jj] at this;have e:xT s s.a.toNat=true:=Qgz;rw[e,Bool.true_or] at this;cases this):p:=h
theorem Qbt{p:Prop}(h:p:=by
 simp only[zU,Jf,Xg,Function.comp_apply];intro x _ p hp;simp only[LRw.c,Qw,Zn,Kb] at hp;rcases hp with rfl|rfl
 ·exact eJ (f+1) x.args
 ·simp[zU,Jf]):p:=h
theorem Qbu{p:Prop}(h:p:=by
 (refine⟨(),trivial,?_,?_,rfl⟩<;>simp only[zY,xJ,Xs])):p:=h
theorem Qbv{p:Prop}(h:p:=by
 rintro s hI;refine gm ?_;have ht8:(s.map u8).take 8=s.map u8:=Yo (by simp[hI.1]);refine zjA (a3 @zM @hI.1 @ht8) ?_;exact⟨_,rfl,hI⟩):p:=h
theorem Qbw{p:Prop}(h:p:=by
 obtain⟨l⟩:=vs
 match l,hl with
 | [a,b,c,d,e],_=>exact⟨a,b,c,d,e,rfl⟩):p:=h
theorem Qbx{p:Prop}(h:p:=by
 exact⟨⟨⟨_,rfl,Qf1⟩,.sc⟩,rfl⟩):p:=h
theorem Qby{p:Prop}(h:p:=by
 obtain⟨_,rfl⟩:=hog _ _ hu;exact g6 i e j p hi hp):p:=h
theorem Qbz{p:Prop}(h:p:=by
 refine⟨fun e=> ?_,hM.2.2.2.1⟩;obtain⟨e',k,n,hh',_⟩:=hM.2.2.2.2.2 r _ hφ (by simp[sC,e]);rw[show h[r]? =_ from hr] at hh';cases hh'):p:=h
theorem Qc0{p:Prop}(h:p:=by
 obtain⟨j,hj⟩:=Zq hz;obtain⟨x,hx,rfl⟩:=znV hj;obtain⟨x1,x2,x3, -⟩:=wP x (Qk hx);exact zr3 x1 x2 x3):p:=h
theorem Qc1{p:Prop}(h:p:=by
 simp only[Qq,Qi e] at hc;refine(hS.blks r' c v hc hvv).ext x fun n hn=>hw n fun en=> ?_;subst en;exact e (hS.inj r r' _ v n hp hvv rfl hn)):p:=h
theorem Qc2{p:Prop}(h:p:=by
 rintro p h ⟨os,e,rfl,h1⟩;exact⟨os,e,vE _ _ _ _ (by simp[zU]),h1⟩):p:=h
theorem Qc3{p:Prop}(h:p:=by
  rename_i hi;have hi':i<ar.size:=(Qz.1 he).1;rw[Qs,Qj Qf0] at hq;exact hrel i e q he hq):p:=h
theorem Qc4{p:Prop}(h:p:=by
 exact⟨0, -1, -1,_,rfl,rfl,kb2 _ _,hqs3 _ _ _,fun _=> .inl ⟨rfl,rfl⟩⟩):p:=h
theorem Qc5{p:Prop}(h:p:=by
 rw[zuR hM (Ug a)];refine Zh fun q=> ?_;rw[Qq];split
 ·rename_i w;subst w;first|exact hHr|(rw[Qj hrl];exact hHr)
 ·rfl):p:=h
theorem Qc6{p:Prop}(h:p:=by
 have e1:=Ym List.length hsl;rw[Qr] at e1;have e2:=Kz (rowOf (oU l) M es) seen;have e3:=qG es.length seen hnd hlt;omega):p:=h
theorem Qc7{p:Prop}(h:p:=by
 refine gf (a2 F @hq2) ?_;refine⟨_,_,_,_,_,_,rfl,rfl,_,_,rfl,.inr ⟨q,by rw[Xq];rfl,?_⟩⟩;rw[Qh Qfh];simp):p:=h
theorem Qc8{p:Prop}(h:p:=by
 have e3:decide (ix<0)=true:=by simp[hix]
 refine gf (a3 Z @h2s @e3) ?_;exact fin2 70 ix (.inl Qf2)):p:=h
theorem Qc9{p:Prop}(h:p:=by
 have q1:zU 39 (pH x.args)=true:=all_map fun _=>rfl;have q2:zU 39 (ces x.cs)=true:=all_map fun _=>rfl;simp only[LRw.c,Wm,Jb,q1,q2,Zw]):p:=h
theorem Qca{p:Prop}(h:p:=by
  rw[Ke] at he;split at he
  · rename_i hi;cases he;rw[hi];exact hborn.1
  · exact hborn.2.2 i e he):p:=h
theorem Qcb{p:Prop}(h:p:=by
 rintro _ hI2;refine gm ?_;refine gf (a5 @hi @hx @hw @zB @zM) ?_;exact⟨(),up ⟨Qf0,za5 hI2⟩,rfl,rfl,rfl⟩):p:=h
theorem Qcc{p:Prop}(h:p:=by
 cases hi:P.info? t with
 |none=>rw[hi] at h;cases h
 |some i=>
  rw[hi] at h;simp only[Jq] at h;simp[zeroValue,typeInfo,hi,h]):p:=h
theorem Qcd{p:Prop}(h:p:=by
 rw[cell_of_row _ _ _ _ _ _ hw'];rw[<-harr,Xr] at hj;split at hj
 ·simpa using hj
 ·cases hj):p:=h
theorem Qce{p:Prop}(h:p:=by
 cases hh:zS prog 98 with
 |none=>rw[hh] at hzo;cases hzo
 |some w=>rw[hh] at hzo;exact⟨w,rfl,by simpa using hzo⟩):p:=h
theorem Qcf{p:Prop}(h:p:=by
 intro K ts h k;refine eU ((iha _ ts h k).mono fun e t1 h1 q=> ?_);cases e with
 |normal=>exact ihb K t1 h1 q
 |_=>exact q):p:=h
theorem Qcg{p:Prop}(h:p:=by
 have hi':i<n:=Qf0;simp only[ys,Xu,Array.getElem_toList];rw[Qb,<-getElem!_pos d' i Qf0,Qa (hdn i hi')];rfl):p:=h
theorem Qch{p:Prop}(h:p:=by
 have:d'[i]! ∈d'.toList:=by rw[getElem!_pos d' i Qf0];exact Jv.2 (Array.getElem_mem _)
 exact Jm.1 (hpm.mem_iff.1 this)):p:=h
theorem Qci{p:Prop}(h:p:=by
 refine⟨ar1,t1,f1,(hw b1 fun e=> ?_).trans hr1,hm1⟩;subst e;simp only[] at hr1 hh;rw[hh] at hr1;cases hr1):p:=h
theorem Qcj{p:Prop}(h:p:=by
 rw[Qp] at hc;subst hc;dsimp only at h1 h2 ⊢
 obtain rfl:m=n:=Qf0;exact⟨rfl,q⟩):p:=h
theorem Qck{p q:Prop}(k:q)(h:skD q->p:=by intro gk;(repeat(first|refine gz ?_|(refine gn ?_;intro zs zh;(try simp only[go_sem,zM,hlR6,h6x,e6] at zh);subst zh;refine gv ?_)|refine zQ yF _ 2 Qf3 ?_));exact skO gk):p:=h k
theorem Qcl{p:Prop}(h:p:=by
 have hg:=zb3 hb;cases b with
 |true=>exact k'.1 rfl _ (mO hg (kW hg))
 |false=>exact k'.2 rfl _ (mO hg (kW hg))):p:=h
theorem Qcm{p:Prop}(h:p:=by
 exact fin _ _ hq ⟨ts',ps',as',bd',st,_,hb,hst,rfl,rfl,rfl⟩):p:=h
theorem Qcn{p:Prop}(h:p:=by
 have hy:=nJ hA.tr hb;rw[Qi (by simp[Region.wanted,hg,hy])];exact⟨fun _ _=>trivial,skip wP.1 wP.2⟩):p:=h
theorem Qco{p:Prop}(h:p:=by
 refine gf (a2 Z10 @e2) ?_;exact fin _ _ _ _ _ _ hU3):p:=h
theorem Qcp{p:Prop}(h:p:=by
 rw[Qu] at h;cases hx:l[i]? with
 |none=>rw[hx] at h;cases h
 |some x=>rw[hx] at h;cases h;exact⟨x,rfl,rfl⟩):p:=h
theorem Qcq{p:Prop}(h:p:=by
 refine⟨z,?_,by rw[Xw];exact hr⟩;have hm:m<len:=Qf0;simp[Instr.index,asIntOf,Xc hus,hm,zV hs,hz]):p:=h
theorem Qcr{p q:Prop}(k:q)(h:skD q->p:=by intro gk;(repeat(first|refine gz ?_|(refine gn ?_;intro zs zh;(try simp only[go_sem,F,f1,f2,f3,l4,Wi] at zh);subst zh;refine gv ?_)|refine yD UTyp12f302.pl ?_));exact skO gk):p:=h k
theorem Qcs{p q:Prop}(k:q)(h:skD q->p:=by intro gk;refine uV (own:=false) _ _ _ _ ?_;exact skO gk):p:=h k
theorem Qct{p:Prop}(h:p:=by
 split at e
 ·rename_i q hq;cases e;obtain⟨c,h1,h2⟩:=qY hq;exact⟨rfl,c,h1,h2⟩
 ·cases e):p:=h
theorem Qcu{p:Prop}(h:p:=by
 rcases Xy k j with q|q
 ·exact hA k hk hk' q
 ·have:k=j:=Qf0;subst this;exact h):p:=h
theorem Qcv{p:Prop}(h:p:=by
 have e2:(2:Nat) ^ 64=18446744073709551616:=Qf2;omega):p:=h
theorem Qcw{p:Prop}(h:p:=by
 (refine g1 ?_;refine zC ((zlQ _ hlt).call zK Qf1 _) (yf0 ?_);rintro p2 h2 ⟨rfl,rfl⟩);refine ge ?_;rfl):p:=h
theorem Qcx{p:Prop}(h:p:=by
 refine gf (a2 Z9 @e2) ?_;exact fin _ _ _ _ _ _ hU3):p:=h
theorem Qcy{p:Prop}(h:p:=by
 subst hee;refine gf (a3 Z @e2 @e3) ?_;exact⟨0,i, -1,J2,rfl,rfl,h2k,h2q,fun _=>okk⟩):p:=h
theorem Qcz{p:Prop}(h:p:=by
 subst this;exact fin ⟨.slice none 0 0,by simp[Instr.sliceAt,Instr.slice,Xc hu,hxe,e1,zV hk],.nil⟩):p:=h
theorem Qd0{p:Prop}(h:p:=by
 exact .ts rfl (Xe _) (Yn _) Qf1 ⟨0,0,none⟩ (fun h=>absurd rfl h) (fun _=>undef) Qf1 Qf1):p:=h
theorem Qd1{p:Prop}(h:p:=by
 intro y hy;rcases Qo.1 hy with hy|hy
 ·exact j7 y hy
 ·rw[Qp] at hy;subst hy;simp):p:=h
theorem Qd2{p:Prop}(h:p:=by
 rcases Yr k with h0|h0
 ·subst h0;rw[Wn] at c1;rw[c1] at hb;cases hb
 ·dsimp only;omega):p:=h
theorem Qd3{p:Prop}(h:p:=by
 obtain⟨q,hq,rfl⟩:=vW hp;exact ih (h i q v hq hv)):p:=h
theorem Qd4{p:Prop}(h:p:=by
 cases hca:a with
 |none=>rfl
 |some ga=>show i64 ga.pred=_;rw[(gda ga hca).1]):p:=h
theorem Qd5{p:Prop}(h:p:=by
 exact fin _ _ _ _ _ _ hU4):p:=h
theorem Qd6{p:Prop}(h:p:=by
 exact⟨_,trivial,rfl,rfl,rfl⟩):p:=h
theorem Qd7{p:Prop}(h:p:=by
 rcases hlk with ⟨h5,_⟩|⟨_,h5⟩
 ·dsimp only at h5;omega
 ·exact h5):p:=h
theorem Qd8{p:Prop}(h:p:=by
 rw[Qp] at hc;subst hc;exact⟨by dsimp only;omega,by dsimp only;omega,by dsimp only;omega⟩):p:=h
theorem Qd9{p:Prop}(h:p:=by
 refine gf @zM ?_;rfl):p:=h
theorem Qda{p:Prop}(h:p:=by
 rename_i p c hr;exact fin p c hr q.1 q.2 (by simp only[AEnd,hr];exact⟨q.1,trivial,trivial⟩)):p:=h
theorem Qdb{p:Prop}(h:p:=by
 simp only[zY] at ht;subst ht;refine gf (a2 @zM @hw) ?_;exact⟨(H1,es1),hI1,rfl,rfl,rfl⟩):p:=h
theorem Qdc{p q:Prop}(k:q)(h:skD q->p:=by intro gk;(repeat(first|refine gz ?_|(refine gn ?_;intro zs zh;(try simp only[go_sem,Z,Sk] at zh);subst zh;refine gv ?_)|refine yD UCsx2f195.pp ?_));exact skO gk):p:=h k
theorem Qdd{p:Prop}(h:p:=by
 have q1:x.s.data.toList.length=x.s.size:=Wq;have q2:y.s.data.toList.length=y.s.size:=Wq;omega):p:=h
theorem Qde{p:Prop}(h:p:=by
 have hi:i<cs.length:=by rw[hl];exact(gsi hq).1
 exact h i _ q (Qa hi) hq S u (hr i _ u (Qa hi) hu)):p:=h
theorem Qdf{p:Prop}(h:p:=by
 rintro s hI;refine gm ?_;refine gf (a2 @zM @hw) ?_;exact⟨s,hI,rfl,rfl,rfl⟩):p:=h
theorem Qdg{p:Prop}(h:p:=by
 simp only[pA,vA];rw[jN fun x h=>hx x.2 (by simp[Op.operands];exact⟨x.1,by simpa using h⟩)]):p:=h
theorem Qdh{p:Prop}(h:p:=by
 subst e1;subst e2;exact next φ w _ (Ext.refl _) (put φ _ w _ .ud undef (Ext.refl _) hA.st .ud)):p:=h
theorem Qdi{p q:Prop}(k:q)(h:skD q->p:=by intro gk;(repeat(first|refine gz ?_|(refine gn ?_;intro zs zh;(try simp only[go_sem,F] at zh);subst zh;refine gv ?_)|refine yD UWrd2f155.pp ?_));exact skO gk):p:=h k
theorem Qdj{p:Prop}(h:p:=by
 exact .inr ⟨q,h1,by rw[Qg (gsi hq).1];exact hq⟩):p:=h
theorem Qdk{p:Prop}(h:p:=by
 refine Zc (by simp[n]) fun i h1 h2=> ?_;simp only[Xu,List.getElem_range];rw[Qb,Qa h2];rfl):p:=h
theorem Qdl{p:Prop}(h:p:=by
 rcases hlk with ⟨h5,_⟩|⟨_,h5⟩
 ·exact absurd h5 hk
 ·exact h5):p:=h
theorem Qdm{p:Prop}(h:p:=by
 rcases Xy j i with q|q
 ·exact hI j hj q
 ·have:j=i:=Qf0;subst this;exact h):p:=h
theorem Qdn{p:Prop}(h:p:=by
 refine gf F ?_;refine⟨_,_,_,_,_,_,rfl,rfl,_,_,rfl,.inr ⟨_,rfl,?_⟩⟩;simp):p:=h
theorem Qdo{p:Prop}(h:p:=by
 split at e
 ·rename_i p h1 hx;exact mJ hc hx (ih _ _ _ _ e Q hq)
 ·cases e):p:=h
theorem Qdp{p:Prop}(h:p:=by
 rw[Xg];intro x hx;obtain⟨e,_,rfl⟩:=Xf.1 hx;rfl):p:=h
theorem Qdq{p:Prop}(h:p:=by
 have e2:(e !=0)=true:=by simp[he0]
 refine gf (a2 Z @e2) ?_;exact fin e he0):p:=h
theorem Qdr{p:Prop}(h:p:=by
 cases r with
 |none=>simp[lO hz,Result.andThen]
 |some y=>simp[Result.andThen]):p:=h
theorem Qds{p:Prop}(h:p:=by
 rcases Xy i len with h|h
 ·exact h
 ·rw[Ye Qf0] at hq;cases hq):p:=h
theorem Qdt{p:Prop}(h:p:=by
 refine moved _ c1 Qf0 rfl ?_;rw[he];rw[<-Kx];exact hr1):p:=h
theorem Qdu{p:Prop}(h:p:=by
 rintro p h ⟨e,rfl,h1⟩;exact⟨e,rfl,h1⟩):p:=h
theorem Qdv{p:Prop}(h:p:=by
 rw[Xo];intro h;subst h;exact hl rfl):p:=h
theorem Qdw{p:Prop}(h:p:=by
  rename_i hij;rw[Qi hij] at hq;exact hrel i e q' he hq):p:=h
theorem Qdx{p:Prop}(h:p:=by
 rcases Qo.1 hx with hx|hx
 ·exact hlt x hx
 ·rw[Qp] at hx;subst hx;exact hil):p:=h
theorem Qdy{p q:Prop}(k:q)(h:skD q->p:=by intro gk;refine gf (a9 @h64 @hi @hw @zB @hms @hd @hrA @e1 (a9 @hpos @hsub @hJj @d1 @d2 @d3 @d4 @hpl (a6 @hSj @a1 @a2 @a3 @e2 @e3))) ?_;exact skO gk):p:=h k
theorem Qdz{p:Prop}(h:p:=by
 subst hik;rw[ho] at ho';cases ho';exact getD_set_true (hedge e he hb)):p:=h
theorem Qe0{p:Prop}(h:p:=by
 have:=Ym List.length h0;rw[xC] at this;exact ByteArray.ext (Yu this)):p:=h
theorem Qe1{p:Prop}(h:p:=by
 cases hv0 with
 |ms hp hb=>exact⟨_,_,rfl,hp⟩
 |oms hb=>rw[hr] at hb;cases hb):p:=h
theorem Qe2{p:Prop}(h:p:=by
 simp only[Ys] at hx;rw[hx.1];unfold tP Shp;rw[ht];exact⟨_,rfl⟩):p:=h
theorem Qe3{p:Prop}(h:p:=by
 rintro _ _;refine gm ?_;refine gf @zM ?_;exact⟨_,rfl,fun _=>hl⟩):p:=h
theorem Qe4{p:Prop}(h:p:=by
 rw[Qi e2] at b;have:=h.t _ _ _ a b;rw[Qi Qf0];exact this):p:=h
theorem Qe5{p:Prop}(h:p:=by
 rcases Qo.1 hx with hx|hx
 ·exact h.2 x hx
 ·rw[Qp] at hx;subst hx;simp):p:=h
theorem Qe6{p q:Prop}(k:q)(h:skD q->p:=by intro gk;simp only[zU,Jf,Xg,Function.comp_apply];exact skO gk):p:=h k
theorem Qe7{p:Prop}(h:p:=by
 cases hx:a.testBit m<;>cases hy:b.testBit m<;>cases hw:(zo2 s).testBit m<;>simp_all):p:=h
theorem Qe8{p:Prop}(h:p:=by
 obtain⟨g,hg,rfl⟩:=Qy hv;exact(t4.2 g hg (by rw[<-t4.1];exact hg)).2):p:=h
theorem Qe9{p:Prop}(h:p:=by
 by_cases hi:i<n
 ·rw[ha i hi];exact hK _ (Qc hi)
 ·rw[ha' i hi];exact hK0):p:=h
theorem Qea{p:Prop}(h:p:=by
 cases h1 with|mp hp hb'=>exact⟨_,rfl,hp⟩):p:=h
theorem Qeb{p:Prop}(h:p:=by
 obtain⟨y,hy,rfl⟩:=Xf.1 hx;split
 ·exact hf _ (h.2 y hy)
 ·exact h.2 y hy):p:=h
theorem Qec{p:Prop}(h:p:=by
 refine moved _ 0 Qf0 rfl ?_;rw[ho0,hn0,he,Yd,Yj];exact hr1):p:=h
theorem Qed{p:Prop}(h:p:=by
 rintro p h ⟨r,rfl,h1⟩;exact⟨r,vE _ _ _ _ (all_map fun _=>rfl),h1⟩):p:=h
theorem Qee{p:Prop}(h:p:=by
 subst e;exact⟨_,Yh _ (Qp.2 rfl),by dsimp only;omega,by dsimp only;omega⟩):p:=h
theorem Qef{p:Prop}(h:p:=by
 have:=(gsi h3).1;rw[hG2,Qd Qf0];exact gK r' b' h1 h2 h3):p:=h
theorem Qeg{p:Prop}(h:p:=by
 rw[hG2,Qd (fun w=>by subst w;rw[gM] at hr;cases hr;exact hb _ rfl)];exact hr):p:=h
theorem Qeh{p:Prop}(h:p:=by
 exfalso;rw[Yx,Array.getElem?_replicate] at hl;split at hl<;>cases hl):p:=h
theorem Qei{p:Prop}(h:p:=by
 refine⟨List.Pairwise.nil,?_,fun t=>rfl⟩;intro q hq;simp[yT] at hq):p:=h
theorem Qej{p:Prop}(h:p:=by
 split at h
 ·cases h;assumption
 ·cases h):p:=h
theorem Qek{p:Prop}(h:p:=by
 obtain⟨p,c,e,hc,hR⟩:=k _ rfl;simp only[AEnd,hr,e];exact⟨hc,hR⟩):p:=h
theorem Qel{p q:Prop}(k:q)(h:skD q->p:=by intro gk;(repeat(first|refine gz ?_|(refine gn ?_;intro zs zh;(try simp only[go_sem,Z1,Z,h6x,hq2,hib,hset] at zh);subst zh;refine gv ?_)|refine zQ yF _ 2 Qf3 ?_));exact skO gk):p:=h k
theorem Qem{p:Prop}(h:p:=by
 have hne:((a.length:Int)!=(b.length:Int))=true:=Qfh;have e:decide (a=b)=false:=by
  exact Qdv
 rw[e];refine gf @hne ?_;exact Qaa):p:=h
theorem Qen{p:Prop}(h:p:=by
 rintro _ hI;refine gm ?_;have e:a=b:=Zc hl fun j h h'=>hI j h h' h;subst e;have e:decide (a=a)=true:=Qf1;rw[e];refine gf @zM ?_;exact⟨⟨rfl,.sc⟩,rfl⟩):p:=h
theorem Qeo{p:Prop}(h:p:=by
 rintro _ hI;refine gm ?_;have e:a=b:=Zc hl fun j h h'=>hI j h h' h;subst e;have e:decide (a=a)=true:=Qf1;rw[e];refine gf @zM ?_;exact Qaa):p:=h
theorem Qep{p:Prop}(h:p:=by
 rintro _ _;refine gm ?_;refine gf @zM ?_;exact Qaa):p:=h
theorem Qeq{p:Prop}(h:p:=by
 rcases Xy j i with hji|hji
 ·exact hI j h h' hji
 ·have:j=i:=Qf0;subst this;exact he):p:=h
theorem Qer{p:Prop}(h:p:=by
 rintro b6 hI6;refine gm ?_;refine gf Z ?_;exact⟨b6,hI6,rfl,rfl,rfl⟩):p:=h
theorem Qes{p q:Prop}(k:q)(h:skD q->p:=by intro gk;(repeat(first|refine gz ?_|(refine gn ?_;intro zs zh;(try simp only[go_sem,Z1] at zh);subst zh;refine gv ?_)|refine zQ yL _ 11 Qf3 ?_));exact skO gk):p:=h k
theorem Qet{p:Prop}(h:p:=by
 apply he;generalize a[i]=x at*;generalize b[i]=y at*;cases x;cases y;simp_all):p:=h
theorem Qeu{p:Prop}(h:p:=by
 rintro w' hw b1 m ⟨ar1,t1,f1,hr1,hm1⟩;exact Qav):p:=h
theorem Qev{p q:Prop}(k:q)(h:skD q->p:=by intro gk;refine gf (a9 @hi @hw @hqb' @hfl @hfd @zB @zA @zX (a9 @e3 @hva @hUc4 @hcl4 @kE @hlu @e4 @hrule4 (a7 @h64 @hp @hjl @hpi @hpj @hpi' @e5))) ?_;exact skO gk):p:=h k
theorem Qew{p:Prop}(h:p:=by
 rintro s hI;refine gm ?_;refine gf @zM ?_;(exact⟨⟨⟨_,rfl,trivial⟩,.sc⟩,rfl⟩)):p:=h
theorem Qex{p:Prop}(h:p:=by
 have hne:((a.length:Int)!=(b.length:Int))=true:=Qfh;refine gf @hne ?_;exact Qbe):p:=h
theorem Qey{p:Prop}(h:p:=by
 refine ge ?_;exact Qbe):p:=h
theorem Qez{p:Prop}(h:p:=by
 exact⟨⟨⟨_,rfl,trivial⟩,.sc⟩,rfl⟩):p:=h
theorem Qf0{p:Prop}(h:p:=by omega):p:=h
theorem Qf1{p:Prop}(h:p:=by simp):p:=h
theorem Qf2{p:Prop}(h:p:=by decide):p:=h
theorem Qf3{p:Prop}(h:p:=by kernel_rfl):p:=h
theorem Qf4{p:Prop}(h:p:=by rw[hco]):p:=h
theorem Qf5{p:Prop}(h:p:=by simp[hl]):p:=h
theorem Qf6{p:Prop}(h:p:=by simp[hk]):p:=h
theorem Qf7{p:Prop}(h:p:=by simp[hx]):p:=h
theorem Qf8{p:Prop}(h:p:=by simp[w']):p:=h
theorem Qf9{p:Prop}(h:p:=by simp[h0]):p:=h
theorem Qfa{p:Prop}(h:p:=by simp[h1]):p:=h
theorem Qfb{p:Prop}(h:p:=by simp[zJ]):p:=h
theorem Qfc{p:Prop}(h:p:=by simp[yO]):p:=h
theorem Qfd{p:Prop}(h:p:=by simp[qM]):p:=h
theorem Qfe{p:Prop}(h:p:=by simp[he]):p:=h
theorem Qff{p:Prop}(h:p:=by simp[h2]):p:=h
theorem Qfg{p:Prop}(h:p:=by assumption):p:=h
theorem Qfh{p:Prop}(h:p:=by simp;omega):p:=h
theorem Qfi{p:Prop}(h:p:=by simp[hsz]):p:=h
theorem Qfj{p:Prop}(h:p:=by simp[hty]):p:=h
theorem Qfk{p:Prop}(h:p:=by rw[pG,pG]):p:=h
theorem Qfl{p:Prop}(h:p:=by simp[hqlt]):p:=h
theorem Qfm{p:Prop}(h:p:=by simp[yO,zJ]):p:=h
theorem Qfn{p:Prop}(h:p:=by simpa using h):p:=h
theorem Qfo{p:Prop}(h:p:=by simp[maxLen]):p:=h
theorem Qfp{p:Prop}(h:p:=by rw[hux];simp):p:=h
theorem Qfq{p:Prop}(h:p:=by rw[Xk];omega):p:=h
theorem Qfr{p:Prop}(h:p:=by rw[We];omega):p:=h
theorem Qfs{p:Prop}(h:p:=by cases o<;>rfl):p:=h
theorem Qft{p:Prop}(h:p:=by simpa using hk):p:=h
theorem Qfu{p:Prop}(h:p:=by simpa using hl):p:=h
theorem Qfv{p:Prop}(h:p:=by simpa using hj):p:=h
theorem Qfw{p:Prop}(h:p:=by simp[St.push]):p:=h
theorem Qfx{p:Prop}(h:p:=by simpa using hu):p:=h
theorem Qfy{p:Prop}(h:p:=by simpa using hq):p:=h
theorem Qfz{p:Prop}(h:p:=by simpa using hx):p:=h
theorem Qg0{p:Prop}(h:p:=by simpa using ho):p:=h
theorem Qg1{p:Prop}(h:p:=by simpa using he):p:=h
theorem Qg2{p:Prop}(h:p:=by simpa using hy):p:=h
theorem Qg3{p:Prop}(h:p:=by simpa using hi):p:=h
theorem Qg4{p:Prop}(h:p:=by simp only[fz]):p:=h
theorem Qg5{p:Prop}(h:p:=by simpa using h0):p:=h
theorem Qg6{p:Prop}(h:p:=by rw[ib,ho];rfl):p:=h
theorem Qg7{p:Prop}(h:p:=by simpa using hsz):p:=h
theorem Qg8{p:Prop}(h:p:=by rw[holds];simp):p:=h
theorem Qg9{p:Prop}(h:p:=by simpa using hjl):p:=h
theorem Qga{p:Prop}(h:p:=by rw[hH0,sB];rfl):p:=h
theorem Qgb{p:Prop}(h:p:=by simpa using hlen):p:=h
theorem Qgc{p:Prop}(h:p:=by simpa using hqlt):p:=h
theorem Qgd{p:Prop}(h:p:=by rw[hcfk,Qi Qf2]):p:=h
theorem Qge{p:Prop}(h:p:=by rw[hsrc.len,hsz]):p:=h
theorem Qgf{p:Prop}(h:p:=by rw[vO hr hb];rfl):p:=h
theorem Qgg{p:Prop}(h:p:=by rw[Xb];exact hrl):p:=h
theorem Qgh{p:Prop}(h:p:=by simp[Op.operands]):p:=h
theorem Qgi{p:Prop}(h:p:=by rintro p h rfl;rfl):p:=h
theorem Qgj{p:Prop}(h:p:=by have:=ho.hof;omega):p:=h
theorem Qgk{p:Prop}(h:p:=by rw[xM Qf0 Qf0];rfl):p:=h
theorem Qgl{p:Prop}(h:p:=by rw[hX.rl];exact hi):p:=h
theorem Qgm{p:Prop}(h:p:=by rw[hX.ll];exact hi):p:=h
theorem Qgn{p:Prop}(h:p:=by rw[hS.len];exact hr):p:=h
theorem Qgo{p:Prop}(h:p:=by simp[Op.operands,e]):p:=h
theorem Qgp{p:Prop}(h:p:=by simp at hlen ⊢;omega):p:=h
theorem Qgq{p:Prop}(h:p:=by intro c;rw[ho];simp):p:=h
theorem Qgr{p:Prop}(h:p:=by cases x;cases y;simp):p:=h
theorem Qgs{p:Prop}(h:p:=by simpa [zlK] using hx):p:=h
theorem Qgt{p:Prop}(h:p:=by rw[hS.len];exact hlt):p:=h
theorem Qgu{p:Prop}(h:p:=by rw[xM Qf0 Qf0];omega):p:=h
theorem Qgv{p:Prop}(h:p:=by simpa [zbC] using hr'):p:=h
theorem Qgw{p:Prop}(h:p:=by rw[Ql,hol,hsrc.len,Wo]):p:=h
theorem Qgx{p:Prop}(h:p:=by simp[St.push,<-hS.len]):p:=h
theorem Qgy{p:Prop}(h:p:=by and_intros<;>kernel_rfl):p:=h
theorem Qgz{p:Prop}(h:p:=by unfold xT;rw[Xm];omega):p:=h
theorem Qh0{p:Prop}(h:p:=by unfold xT;rw[Xo];omega):p:=h
theorem Qh1{p:Prop}(h:p:=by simp only[zY,xJ,Xs];rfl):p:=h
theorem Qh2{p:Prop}(h:p:=by cases x;cases y;simp_all):p:=h
theorem Qh3{p:Prop}(h:p:=by rw[eD hi] at hb;exact hb):p:=h
theorem Qh4{p:Prop}(h:p:=by rw[ho];simp[Op.operands]):p:=h
theorem Qh5{p:Prop}(h:p:=by subst ho;simp[Op.operands]):p:=h
theorem Qh6{p:Prop}(h:p:=by rw[hop];simp[Op.operands]):p:=h
theorem Qh7{p:Prop}(h:p:=by rw[IntKind.wrap_u64];omega):p:=h
theorem Qh8{p:Prop}(h:p:=by rw[IntKind.wrap_i64];omega):p:=h
theorem Qh9{p:Prop}(h:p:=by rintro _ _ ⟨_,rfl⟩ _ _ _;rfl):p:=h
theorem Qha{p:Prop}(h:p:=by intro n hn;simp[sC] at hn;omega):p:=h
theorem Qhb{p:Prop}(h:p:=by rintro p h ⟨n,rfl,h⟩;exact⟨n,rfl,h⟩):p:=h
theorem Qhc{p:Prop}(h:p:=by rintro p h ⟨b,rfl,h⟩;exact⟨b,rfl,h⟩):p:=h
theorem Qhd{p:Prop}(h:p:=by rintro p h ⟨n,rfl,k⟩;exact⟨n,rfl,k⟩):p:=h
theorem Qhe{p:Prop}(h:p:=by simp[Op.operands,Call.operands,mM,e1]):p:=h
theorem Qhf{p:Prop}(h:p:=by have:=hv 1 _ u1 rfl rfl;cases this;rfl):p:=h
theorem Qhg{p:Prop}(h:p:=by have:=hv 2 _ u2 rfl rfl;cases this;rfl):p:=h
theorem Qhh{p:Prop}(h:p:=by have:=hv 3 _ u3 rfl rfl;cases this;rfl):p:=h
theorem Qhi{p:Prop}(h:p:=by rintro p h rfl;exact vE _ _ _ _ (zkI _)):p:=h
theorem Qhj{p:Prop}(h:p:=by rw[hby];exact growslice_fits Qf0 hbytes):p:=h
theorem Qhk{p:Prop}(h:p:=by rintro p h ⟨n,rfl⟩;exact⟨n,rfl,trivial⟩):p:=h
theorem Qhl{p:Prop}(h:p:=by rintro p h ⟨b,rfl⟩;exact⟨b,rfl,trivial⟩):p:=h
theorem Qhm{p:Prop}(h:p:=by intro n hn;simp[sC] at hn;simp only[];omega):p:=h
theorem Qhn{p:Prop}(h:p:=by rw[ho];simp[Op.operands,Call.operands,hc,ha]):p:=h
theorem Qho{p:Prop}(h:p:=by rintro p ⟨b,rfl,_⟩;exact⟨b,rfl,fun _=>trivial⟩):p:=h
theorem Qhp{p:Prop}(h:p:=by simp[IntKind.wrap,IntKind.bits,IntKind.signed];omega):p:=h
theorem Qhq{p:Prop}(h:p:=by rw[hby];have:=oH hbytes;rw[h0,Yd] at this;exact this):p:=h
theorem Qhr{p:Prop}(h:p:=by simp only[dC,go_sem,wH,zA,zX,tG,wG,set2,wF,Xa,Qn]<;>rfl):p:=h
theorem Qhs{p:Prop}(h:p:=by generalize ρ x=u at h1;cases h1;exact⟨rfl,by assumption⟩):p:=h
theorem Qht{p:Prop}(h:p:=by generalize ρ y=u at h2;cases h2;exact⟨rfl,by assumption⟩):p:=h
theorem Qhu{p:Prop}(h:p:=by generalize ρ k=u at h2;cases h2;exact⟨rfl,by assumption⟩):p:=h
theorem Qhv{p:Prop}(h:p:=by rintro _ _ _ ⟨rfl,rfl,rfl⟩;exact⟨_,_,_,_,_,_,hb3,rfl,rfl⟩):p:=h
theorem Qhw{p:Prop}(h:p:=by generalize ρ m=u at h1;cases h1;exact⟨_,rfl,by assumption⟩):p:=h
theorem Qhx{p:Prop}(h:p:=by unfold zS at hz;rw[hi] at hz;simp[hzv] at hz;exact hz.symm):p:=h
theorem Qhy{p:Prop}(h:p:=by generalize ρ it=u at h1;cases h1;exact⟨_,rfl,by assumption⟩):p:=h
theorem Qhz{p:Prop}(h:p:=by rw[Qd Qf0,zwJ hk ⟨hxe.1.symm,hxe.2.1.symm,hxe.2.2.symm⟩];exact gM):p:=h
theorem Qi0{p:Prop}(h:p:=by cases o<;>rfl):p:=h
theorem Qi1{p:Prop}(h:p:=by simp only[fz]):p:=h
theorem Qi2{p:Prop}(h:p:=by and_intros<;>kernel_rfl):p:=h
theorem Qi3{p:Prop}(h:p:=by cases o<;>rfl):p:=h
theorem Qi4{p:Prop}(h:p:=by simp only[fz]):p:=h
theorem Qi5{p:Prop}(h:p:=by and_intros<;>kernel_rfl):p:=h
theorem Qi6{p:Prop}(h:p:=by cases o<;>rfl):p:=h
theorem Qi7{p:Prop}(h:p:=by simp only[fz]):p:=h
theorem Qi8{p:Prop}(h:p:=by and_intros<;>kernel_rfl):p:=h
abbrev Qa:=@List.getElem?_eq_getElem
abbrev Qb:=@List.getD_eq_getElem?_getD
abbrev Qc:=@List.getElem_mem
abbrev Qd:=@List.getElem?_set_ne
abbrev Qe:=@List.mem_cons_self
abbrev Qf:=@List.mem_cons_of_mem
abbrev Qg:=@List.getElem?_append_left
abbrev Qh:=@List.getElem?_set_self
abbrev Qi:=@if_neg
abbrev Qj:=@if_pos
abbrev Qk:=@List.mem_of_getElem?
abbrev Ql:=@List.length_append
abbrev Qm:=@Int.eq_ofNat_of_zero_le
abbrev Qn:=@List.length_cons
abbrev Qo:=@List.mem_append
abbrev Qp:=@List.mem_singleton
abbrev Qq:=@List.getElem?_set
abbrev Qr:=@List.length_map
abbrev Qs:=@List.getElem?_append
abbrev Qt:=@Bool.and_eq_true
abbrev Qu:=@List.getElem?_map
abbrev Qv:=@List.append_assoc
abbrev Qw:=@List.mem_cons
abbrev Qx:=@Array.getElem?_eq_getElem
abbrev Qy:=@List.getElem_of_mem
abbrev Qz:=@Array.getElem?_eq_some_iff
abbrev Xa:=@List.map_cons
abbrev Xb:=@List.length_set
abbrev Xc:=@run_underlying
abbrev Xd:=@Result.andThen_ok
abbrev Xe:=@Nat.le_refl
abbrev Xf:=@List.mem_map
abbrev Xg:=@List.all_eq_true
abbrev Xh:=@List.take_succ_eq_append_getElem
abbrev Xi:=@List.eq_nil_of_length_eq_zero
abbrev Xj:=@of_decide_eq_true
abbrev Xk:=@List.length_take
abbrev Xl:=@List.set_cons_succ
abbrev Xm:=@decide_eq_true_eq
abbrev Xn:=@List.set_cons_zero
abbrev Xo:=@decide_eq_false_iff_not
abbrev Xp:=@Sem.run_bind
abbrev Xq:=@List.map_append
abbrev Xr:=@List.getElem?_take
abbrev Xs:=@List.tail_cons
abbrev Xt:=@Nat.not_lt_zero
abbrev Xu:=@List.getElem_map
abbrev Xv:=@List.length_nil
abbrev Xw:=@Int.toNat_natCast
abbrev Xx:=@List.cons_append
abbrev Xy:=@Nat.lt_or_ge
abbrev Xz:=@List.append_nil
abbrev Ya:=@Nat.le_trans
abbrev Yb:=@List.pairwise_cons
abbrev Yc:=@Sem.run_pure
abbrev Yd:=@Nat.zero_add
abbrev Ye:=@List.getElem?_eq_none
abbrev Yf:=@Nat.lt_of_lt_of_le
abbrev Yg:=@List.getElem?_drop
abbrev Yh:=@List.mem_append_right
abbrev Yi:=@Array.getElem?_toList
abbrev Yj:=@List.nil_append
abbrev Yk:=@eq_true
abbrev Yl:=@List.flatten_cons
abbrev Ym:=@congrArg
abbrev Yn:=@Nat.zero_le
abbrev Yo:=@List.take_of_length_le
abbrev Yp:=@List.flatMap_cons
abbrev Yq:=@List.map_congr_left
abbrev Yr:=@Nat.eq_zero_or_pos
abbrev Ys:=@Prod.mk.injEq
abbrev Yt:=@List.take_length
abbrev Yu:=@Array.eq_empty_of_size_eq_zero
abbrev Yv:=@Classical.byContradiction
abbrev Yw:=@List.foldl_cons
abbrev Yx:=@Array.getD_eq_getD_getElem?
abbrev Yy:=@Nat.pow_le_pow_right
abbrev Yz:=@decide_eq_true
abbrev Za:=@List.nodup_append
abbrev Zb:=@List.mem_append_left
abbrev Zc:=@List.ext_getElem
abbrev Zd:=@List.pairwise_iff_getElem
abbrev Ze:=@List.mem_or_eq_of_mem_set
abbrev Zf:=@List.getElem?_replicate
abbrev Zg:=@List.map_map
abbrev Zh:=@List.ext_getElem?
abbrev Zi:=@List.mem_map_of_mem
abbrev Zj:=@List.getElem?_append_right
abbrev Zk:=@List.mem_of_mem_take
abbrev Zl:=@List.getElem?_mapIdx
abbrev Zm:=@beq_iff_eq
abbrev Zn:=@List.not_mem_nil
abbrev Zo:=@Bool.false_eq_true
abbrev Zp:=@Bool.eq_false_or_eq_true
abbrev Zq:=@List.getElem?_of_mem
abbrev Zr:=@List.set_append_right
abbrev Zs:=@List.nodup_cons
abbrev Zt:=@List.drop_eq_getElem_cons
abbrev Zu:=@List.drop_eq_nil_of_le
abbrev Zv:=@Nat.mul_le_mul_right
abbrev Zw:=@Bool.and_true
abbrev Zx:=@Nat.zero_testBit
abbrev Zy:=@decide_eq_false
abbrev Zz:=@Option.isSome_iff_exists
abbrev Wa:=@Nat.two_pow_pos
abbrev Wb:=@List.getElem?_concat_length
abbrev Wc:=@Array.getElem?_modify
abbrev Wd:=@Array.getElem?_append
abbrev We:=@beq_eq_false_iff_ne
abbrev Wf:=@List.getElem?_cons_succ
abbrev Wg:=@List.drop_succ_cons
abbrev Wh:=@Option.map_some
abbrev Wi:=@List.set_set
abbrev Wj:=@List.map_nil
abbrev Wk:=@if_true
abbrev Wl:=@Nat.lt_of_le_of_lt
abbrev Wm:=@List.all_cons
abbrev Wn:=@Nat.add_zero
abbrev Wo:=@Nat.add_mul
abbrev Wp:=@List.length_singleton
abbrev Wq:=@Array.length_toList
abbrev Wr:=@if_false
abbrev Ws:=@List.getElem?_cons_zero
abbrev Wt:=@Array.size_append
abbrev Wu:=@Nat.testBit_and
abbrev Wv:=@Option.getD_some
abbrev Ww:=@List.replicate_succ
abbrev Wx:=@List.flatMap_append
abbrev Wy:=@List.drop_drop
abbrev Wz:=@decide_eq_true_iff
abbrev Ja:=@Nat.eq_of_testBit_eq
abbrev Jb:=@List.all_nil
abbrev Jc:=@List.toList_toArray
abbrev Jd:=@List.size_toArray
abbrev Je:=@List.getElem?_toArray
abbrev Jf:=@List.all_map
abbrev Jg:=@List.mem_flatMap
abbrev Jh:=@Nat.add_sub_cancel_left
abbrev Ji:=@Nat.add_assoc
abbrev Jj:=@List.any_cons
abbrev Jk:=@Bool.true_and
abbrev Jl:=@Bool.and_self
abbrev Jm:=@List.mem_range
abbrev Jn:=@List.foldl_append
abbrev Jo:=@Bool.eq_iff_iff
abbrev Jp:=@Nat.testBit_lt_two_pow
abbrev Jq:=@Option.bind_some
abbrev Jr:=@Nat.eq_of_beq_eq_true
abbrev Js:=@List.set_getElem_self
abbrev Jt:=@List.length_replicate
abbrev Ju:=@Nat.mul_one
abbrev Jv:=@Array.mem_toList_iff
abbrev Jw:=@bne_self_eq_false
abbrev Jx:=@Nat.min_eq_left
abbrev Jy:=@Nat.lt_trichotomy
abbrev Jz:=@List.append_inj
abbrev Ka:=@Bool.or_eq_true
abbrev Kb:=@or_false
abbrev Kc:=@List.getElem?_range
abbrev Kd:=@List.filterMap_cons
abbrev Ke:=@Array.getElem?_push
abbrev Kf:=@Nat.testBit_or
abbrev Kg:=@List.nodup_nil
abbrev Kh:=@List.drop_left
abbrev Ki:=@Nat.zero_mul
abbrev Kj:=@Nat.testBit_two_pow_sub_one
abbrev Kk:=@List.take_append_drop
abbrev Kl:=@List.map_id
abbrev Km:=@List.getElem_set_self
abbrev Kn:=@Array.mem_of_getElem?
abbrev Ko:=@List.set_append_left
abbrev Kq:=@List.pairwise_append
abbrev Kr:=@List.getElem?_zipIdx
abbrev Ks:=@List.foldl_nil
abbrev Kt:=@Nat.le_add_right
abbrev Ku:=@List.replicate_zero
abbrev Kv:=@List.getD_cons_zero
abbrev Kw:=@List.getD_cons_succ
abbrev Kx:=@List.append_toArray
abbrev Ky:=@List.map_set
abbrev Kz:=@List.length_filterMap_le
abbrev Ua:=@List.eq_of_mem_replicate
abbrev Ub:=@List.set_eq_take_append_cons_drop
abbrev Uc:=@Bool.or_false
abbrev Ud:=@List.getElem_replicate
abbrev Ue:=@List.getElem_cons_zero
abbrev Uf:=@Nat.or_lt_two_pow
abbrev Ug:=@Int.le_refl
abbrev Uh:=@List.take_zero
abbrev Ui:=@List.singleton_append
abbrev Uj:=@List.filterMap_append
abbrev Uk:=@List.take_append_of_le_length
abbrev Ul:=@List.getElem_set
abbrev Um:=@List.drop_length
abbrev Un:=@Nat.testBit_two_pow_sub_succ
abbrev Uo:=@Nat.add_sub_cancel'
abbrev Up:=@List.length_pos_iff
abbrev Uq:=@List.getElem_set_ne
theorem gsi{α:Type}{l:List α}{i:Nat}{a:α}(h:l[i]? =some a): ∃(h:i<l.length),l[i]=a:=List.getElem?_eq_some_iff.1 h
open Go.RowKit
inductive PV where
  |un
  |ud
  |sc (v:Value)
  |nil
  |agg (cs:List PV)
  |tup (vs:List PV)
  |ts (k:Nat) (els:List (List PV))
  |tc (k:Nat) (els:List (List PV))
  |vec (r k:Nat) (els:List (List PV))
  |ms (r off k len:Nat)
  |ptr (r off:Nat)
  |tp (cs:List PV)
  |fn (f:Fn) (fst cap:List PV)
  |ifc (t:TypeId) (v:PV)
  |mp (r:Nat)
  |yl (r:Nat)
  |it (r:Nat)
  deriving Inhabited
inductive Blk where
  |var (t:TypeId) (cs:List PV)
  |vec (e:TypeId) (k n:Nat)
  |map (es:List (Value×PV))
  |loop (ts:List PV) (ps:List Tmp) (assign body:Code) (st:LoopState) (pend:Option Code)
  |non
  |old
  |iter (m:Option Nat) (n:Nat) (seen:List Nat)
  |siter (s:ByteArray) (pos:Nat)
  deriving Inhabited
def Blk.isIt:Blk->Bool
  | .iter .. =>true
  | .siter .. =>true
  |_=>false
abbrev Heap:=List Blk
structure St where
  φ:List Value
  h:Heap
  w:World
  x:Addr->Prop
def sC:Value->Option Nat
  | .pointer (some a)=>some a.block
  | .slice (some a) _ _=>some a.block
  | .map r=>r
  |_=>none
def tJ:Value->Prop
  | .int k n=>k.min<=n/\n<=k.max
  | .string s=>s.size<=maxLen
  | .bool _=>True
  | .nilIface=>True
  | .nilFunc=>True
  | .pointer none=>True
  | .map none=>True
  |_=>False
def yaO(v:Value):Prop:=tJ v\/ ∃vs:Array Value,v= .agg vs
def St.Stable(S:St)(a:Addr):Prop:=
  a.spot=none/\a.block<S.w.heap.size/\ ¬S.x a/\ ∀(r:Nat)(v:Value),S.φ[r]? =some v->sC v=some a.block-> ∃e k n,S.h[r]? =some (.vec e k n)/\a.off<n*k
def St.Row(S:St)(b m:Nat):Prop:= ∃(arr:Array Value)(t:TypeId)(f:Nat×Nat),S.w.heap[b]? =some (.cells arr t f)/\m<=arr.size
def St.M(S:St)(a:Addr)(v:Value):Prop:=S.w.cell? a=some v/\v.oneCell'=true/\S.Stable a
inductive VRel(S:St):PV->Value->Prop
  |un {v:Value}:VRel S .un v
  |ud:VRel S .ud undef
  |sc {v:Value} (h:tJ v):VRel S (.sc v) v
  |nil:VRel S .nil (.slice none 0 0)
  |agg {cs:List PV} {vs:Array Value} (hl:vs.size=cs.length) (h1: ∀(i:Nat)(v:Value),vs[i]? =some v->v.oneCell'=true)
      (h: ∀(i:Nat)(p:PV)(v:Value),cs[i]? =some p->vs[i]? =some v->VRel S p v):VRel S (.agg cs) (.agg vs)
  |tup {cs:List PV} {vs:Array Value} (hl:vs.size=cs.length)
      (h: ∀(i:Nat)(p:PV)(v:Value),cs[i]? =some p->vs[i]? =some v->VRel S p v):VRel S (.tup cs) (.tuple vs)
  |ts {k n c:Nat} {els:List (List PV)} {a:Option Addr} (hl:els.length=n) (hc:n<=c) (hm:c<=maxLen)
      (hk: ∀(i:Nat)(e:List PV),els[i]? =some e->e.length=k) (ad:Addr) (ha:n≠0->a=some ad) (val:Nat->Value)
      (hv: ∀j,j<n*k->S.M (ad.add j) (val j))
      (h: ∀(i:Nat)(e:List PV)(j:Nat)(p:PV),els[i]? =some e->e[j]? =some p->VRel S p (val (i*k+j))):VRel S (.ts k els) (.slice a n c)
  |tc {k n:Nat} {els:List (List PV)} {a:Option Addr} (ht:VRel S (.ts k els) (.slice a n n)):VRel S (.tc k els) (.slice a n n)
  |vec {r k n:Nat} {e:TypeId} {els:List (List PV)} {v:Value} (ht:VRel S (.ts k els) v) (hb:S.h[r]? =some (.vec e k n))
      (hle:els.length<=n) (ho:els.length=n->S.φ[r]? =some v):VRel S (.vec r k els) v
  |ms {r off k len c b:Nat} {t:TypeId} {cs:List PV} (hp:S.φ[r]? =some (.pointer (some ⟨b,0,none⟩))) (hb:S.h[r]? =some (.var t cs))
      (hl:off+len*k<=cs.length) (hc:len<=c) (hm:c<=maxLen) (hz:S.Row b (off+c*k)):VRel S (.ms r off k len) (.slice (some ⟨b,off,none⟩) len c)
  |oms {r off k len c:Nat} {a:Addr} (hb:S.h[r]? =some .old) (hc:len<=c) (hm:c<=maxLen):VRel S (.ms r off k len) (.slice (some a) len c)
  |ptr {r off b:Nat} {t:TypeId} {cs:List PV} (hp:S.φ[r]? =some (.pointer (some ⟨b,0,none⟩))) (hb:S.h[r]? =some (.var t cs)):
      VRel S (.ptr r off) (.pointer (some ⟨b,off,none⟩))
  |optr {r off:Nat} {a:Addr} (hb:S.h[r]? =some .old):VRel S (.ptr r off) (.pointer (some a))
  |tp {cs:List PV} {a:Addr} (val:Nat->Value) (hv: ∀j,j<cs.length->S.M (a.add j) (val j))
      (h: ∀(j:Nat)(p:PV),cs[j]? =some p->VRel S p (val j)):VRel S (.tp cs) (.pointer (some a))
  |fn {f:Fn} {ps qs:List PV} {us vs:Array Value} (hl:us.size=ps.length) (hl':vs.size=qs.length)
      (h: ∀(i:Nat)(p:PV)(v:Value),ps[i]? =some p->us[i]? =some v->VRel S p v)
      (h': ∀(i:Nat)(p:PV)(v:Value),qs[i]? =some p->vs[i]? =some v->VRel S p v):VRel S (.fn f ps qs) (.func f us vs)
  |ifc {t:TypeId} {p:PV} {v:Value} (h:VRel S p v):VRel S (.ifc t p) (.iface t v)
  |mp {r b:Nat} {es:List (Value×PV)} (hp:S.φ[r]? =some (.map (some b))) (hb:S.h[r]? =some (.map es)):VRel S (.mp r) (.map (some b))
  |yl {r b:Nat} (hp:S.φ[r]? =some (.pointer (some ⟨b,0,none⟩))) {ts:List PV} {ps:List Tmp} {assign body:Code} {st:LoopState} {pend:Option Code} (hb:S.h[r]? =some (.loop ts ps assign body st pend)):VRel S (.yl r) (.func (.yield b) #[] #[])
  |it {r b:Nat} (hp:S.φ[r]? =some (.pointer (some ⟨b,0,none⟩))) {c:Blk} (hb:S.h[r]? =some c) (hi:c.isIt=true):VRel S (.it r) (.pointer (some ⟨b,0,none⟩))
def BRel(S:St):Blk->Value->Prop
  | .var t cs,v=> ∃(b:Nat)(arr:Array Value),v= .pointer (some ⟨b,0,none⟩)/\S.w.heap[b]? =some (.cells arr t (0,0))/\cs.length<=arr.size/\
      (∀(i:Nat)(u:Value),arr[i]? =some u->u.oneCell'=true)/\ ∀(i:Nat)(p:PV)(u:Value),cs[i]? =some p->arr[i]? =some u->VRel S p u
  | .vec e k n,v=>(v= .slice none 0 0/\n=0)\/ ∃(b c:Nat)(arr:Array Value),v= .slice (some ⟨b,0,none⟩) n c/\S.w.heap[b]? =some (.cells arr e (0,0))/\
      n<=c/\c<=maxLen/\arr.size=c*k
  | .map es,v=> ∃(b clock:Nat)(entries:Array MapEntry),v= .map (some b)/\S.w.heap[b]? =some (.map entries clock)/\entries.size=es.length/\
      (clock=entries.size/\(∀q∈es,yaO q.1)/\ ∀(i:Nat)(e:MapEntry),entries[i]? =some e->e.born=i)/\
      ∀(i:Nat)(e:MapEntry)(q:Value×PV),entries[i]? =some e->es[i]? =some q->e.key=q.1/\VRel S q.2 e.val
  | .loop ts ps assign body st pend,v=> ∃(b:Nat)(L:Loop),v= .pointer (some ⟨b,0,none⟩)/\S.w.heap[b]? =some (.loop L)/\L.params.toList=ps/\L.assign=assign/\L.body=body/\L.state=st/\L.pending=pend/\
      L.tmps.size=ts.length/\ ∀(i:Nat)(p:PV),ts[i]? =some p->VRel S p (L.tmps.getD i undef)
  | .non,v=>sC v=none
  | .old,v=>sC v=none
  | .iter m n seen,v=> ∃(b:Nat)(bm:Option Nat),v= .pointer (some ⟨b,0,none⟩)/\S.w.heap[b]? =some (.mapIter bm n seen.toArray n)/\ ∀r,m=some r-> ∃(es:List (Value×PV))(bk:Nat),S.h[r]? =some (.map es)/\S.φ[r]? =some (.map (some bk))/\bm=some bk
  | .siter s pos,v=> ∃b:Nat,v= .pointer (some ⟨b,0,none⟩)/\S.w.heap[b]? =some (.stringIter s pos)/\s.size<=maxLen
structure SRel(S:St):Prop where
  len:S.φ.length=S.h.length
  blks: ∀(r:Nat)(b:Blk)(v:Value),S.h[r]? =some b->S.φ[r]? =some v->BRel S b v
  inj: ∀(r r':Nat)(v v':Value)(n:Nat),S.φ[r]? =some v->S.φ[r']? =some v'->sC v=some n->sC v'=some n->r=r'
  xlt: ∀a,S.x a->a.block<S.w.heap.size
  xown: ∀a,S.x a-> ∀(r:Nat)(v:Value),S.φ[r]? =some v->sC v≠some a.block
def Blk.le(same:Prop):Blk->Blk->Prop
  | .var t cs,.var t' cs'=>t=t'/\cs.length=cs'.length/\same
  | .vec e k n,.vec e' k' n'=>e=e'/\k=k'/\n<=n'/\(n=n'->same)
  | .map _,.map _=>same
  | .loop ..,.loop .. =>same
  | .iter ..,.iter .. =>same
  | .siter ..,.siter .. =>same
  | .non,_=>True
  | .var _ _,.old=>True
  | .old,.old=>True
  |_,_=>False
def St.Own(S:St)(b:Nat):Prop:= ∃(r:Nat)(v:Value),S.φ[r]? =some v/\sC v=some b
structure TapeLe(w w':World):Prop where
  tape:w'.tape=w.tape
  drawn:w.drawn<=w'.drawn
theorem ztC{w w':World}(h:w'.tape=w.tape:=by rfl)(k:w.drawn<=w'.drawn:=by first|exact Xe _|exact Nat.le_succ _|simp):TapeLe w w':=⟨h,k⟩
theorem TapeLe.trans{a b c:World}(h:TapeLe a b)(k:TapeLe b c):TapeLe a c:=⟨k.tape.trans h.tape,Ya h.drawn k.drawn⟩
structure Ext(S S':St):Prop where
  x:S'.x=S.x
  os:S'.w.os=S.w.os
  tape:TapeLe S.w S'.w
  output:S'.w.output=S.w.output
  size:S.w.heap.size<=S'.w.heap.size
  unt: ∀b,b<S.w.heap.size-> ¬S.Own b-> ¬S'.Own b/\S'.w.heap[b]? =S.w.heap[b]?
  mem: ∀a v,S.M a v->S'.M a v
  blks: ∀(r:Nat)(b:Blk),S.h[r]? =some b-> ∃b',S'.h[r]? =some b'/\Blk.le (S'.φ[r]? =S.φ[r]?) b b'
  rows: ∀b m,S.Row b m->S'.Row b m
theorem Blk.le_refl(b:Blk){p:Prop}(hp:p):Blk.le p b b:=by cases b<;>simp[Blk.le,hp]
theorem Blk.le_trans{a b c:Blk}{p q r:Prop}(h:Blk.le p a b)(k:Blk.le q b c)(hr:p->q->r):Blk.le r a c:=by
  cases a with
  |non=>trivial
  | var t cs=>
    cases b<;>first|exact h.elim|skip
    · cases c<;>first|exact k.elim|trivial|skip
      exact⟨h.1.trans k.1,h.2.1.trans k.2.1,hr h.2.2 k.2.2⟩
    · cases c<;>first|exact k.elim|trivial
  | vec e k n=>
    cases b<;>first|exact h.elim|skip
    cases c<;>first|exact k.elim|skip
    obtain⟨h1,h2,h3,h4⟩:=h;obtain⟨k1,k2,k3,k4⟩:=k;exact⟨h1.trans k1,h2.trans k2,Ya h3 k3,fun e=>hr (h4 Qf0) (k4 Qf0)⟩
  | map es=>
    exact Qb6
  | loop=>
    exact Qb6
  | iter=>
    exact Qb6
  | siter=>
    exact Qb6
  | old=>
    cases b<;>first|exact h.elim|skip
    cases c<;>first|exact k.elim|trivial
theorem Ext.refl(S:St):Ext S S:=⟨rfl,rfl,ztC,rfl,Xe _,fun _ _ h=>⟨h,rfl⟩,fun _ _ h=>h,fun _ b h=>⟨b,h,Blk.le_refl b rfl⟩,fun _ _ h=>h⟩
theorem Ext.trans{A B C:St}(h:Ext A B)(k:Ext B C):Ext A C:=
  ⟨k.x.trans h.x,k.os.trans h.os,h.tape.trans k.tape,k.output.trans h.output,Ya h.size k.size,
   fun b hb hn=>let ⟨h1,h2⟩:=h.unt b hb hn;let ⟨k1,k2⟩:=k.unt b (Yf hb h.size) h1;⟨k1,k2.trans h2⟩,
   fun a v hm=>k.mem a v (h.mem a v hm),
   fun r b hb=>by
    obtain⟨b',hb',hl⟩:=h.blks r b hb;obtain⟨b'',hb'',hl'⟩:=k.blks r b' hb';exact⟨b'',hb'',Blk.le_trans hl hl' (fun p q=>q.trans p)⟩,
   fun b m hr=>k.rows b m (h.rows b m hr)⟩
theorem VRel.ext{S S':St}{p:PV}{v:Value}(h:VRel S p v)(x:Ext S S'):VRel S' p v:=by
  induction h with
  |un=>exact .un
  |ud=>exact .ud
  |sc h=>exact .sc h
  |nil=>exact .nil
  |agg hl h1 _ ih=>exact .agg hl h1 ih
  |tup hl _ ih=>exact .tup hl ih
  |ts hl hc hm hk ad ha val hv _ ih=>exact .ts hl hc hm hk ad ha val (fun j hj=>x.mem _ _ (hv j hj)) ih
  |tc _ ih=>exact .tc ih
  | vec ht hb hle ho ih=>
    obtain⟨b',hb',hl⟩:=x.blks _ _ hb;cases b'<;>simp only[Blk.le] at hl;obtain⟨rfl,rfl,hn,hs⟩:=hl;exact .vec ih hb' Qf0 (fun e=>by have hq:=ho Qf0;rw[hs Qf0];exact hq)
  | ms hp hb hl hc hm hz=>
    obtain⟨b',hb',hl'⟩:=x.blks _ _ hb;cases b' with
    | var t' cs'=>
      obtain⟨rfl,hlen,hs⟩:=hl';exact .ms (hs.trans hp) hb' Qf0 hc hm (x.rows _ _ hz)
    |old=>exact .oms hb' hc hm
    |_=>exact hl'.elim
  | oms hb hc hm=>
    obtain⟨b',hb',hl'⟩:=x.blks _ _ hb;cases b'<;>first|exact .oms hb' hc hm|exact hl'.elim
  | ptr hp hb=>
    obtain⟨b',hb',hl'⟩:=x.blks _ _ hb;cases b' with
    |var t' cs'=>exact .ptr (hl'.2.2.trans hp) hb'
    |old=>exact .optr hb'
    |_=>exact hl'.elim
  | optr hb=>
    obtain⟨b',hb',hl'⟩:=x.blks _ _ hb;cases b'<;>first|exact .optr hb'|exact hl'.elim
  |tp val hv _ ih=>exact .tp val (fun j hj=>x.mem _ _ (hv j hj)) ih
  |fn hl hl' _ _ ih ih'=>exact .fn hl hl' ih ih'
  |ifc _ ih=>exact .ifc ih
  | mp hp hb=>
    obtain⟨b',hb',hl'⟩:=x.blks _ _ hb;cases b'<;>simp only[Blk.le] at hl';exact .mp (hl'.trans hp) hb'
  | yl hp hb=>
    obtain⟨b',hb',hl'⟩:=x.blks _ _ hb;cases b'<;>simp only[Blk.le] at hl';exact .yl (hl'.trans hp) hb'
  | it hp hb hi=>
    rename_i c;obtain⟨b',hb',hl'⟩:=x.blks _ _ hb;cases c<;>simp only[Blk.isIt,Zo] at hi<;>cases b'<;>simp only[Blk.le] at hl'<;>exact .it (hl'.trans hp) hb' rfl
end Go.AL
namespace Go.AL
open Go.RowKit
abbrev Glob:=Nat->Option (List PV)
def GRel(S:St)(G:Glob):Prop:= ∀g cs,G g=some cs->VRel S (.tp cs) (.pointer (some ⟨g,0,none⟩))
def zeV:Value->PV
 | .slice none 0 0=> .nil
 | .int k n=>if k.min<=n/\n<=k.max then .sc (.int k n) else .un
 | .string s=>if s.size<=maxLen then .sc (.string s) else .un
 | .bool b=> .sc (.bool b)
 | .nilIface=> .sc .nilIface
 | .nilFunc=> .sc .nilFunc
 | .pointer none=> .sc (.pointer none)
 | .map none=> .sc (.map none)
 |_=> .un
def nI:Value->PV
 | .agg cs=>if cs.toList.all Value.oneCell' then .agg (cs.toList.map zeV) else .un
 | .tuple vs=>if vs.size=0 then .ud else .un
 |v=>zeV v
theorem cR(S:St)(v:Value):VRel S (zeV v) v:=by
 unfold zeV;split
 ·exact .nil
 ·split
  ·exact .sc Qfg
  ·exact .un
 ·split
  ·exact .sc Qfg
  ·exact .un
 all_goals first|exact .sc trivial|exact .un
theorem sN(S:St)(v:Value):VRel S (nI v) v:=by
 cases v with
 | agg cs=>
  simp only[nI];split
  ·rename_i h;rw[Xg] at h;refine .agg Qf1 (fun i v hv=>h v ?_) (fun i p v hp hv=> ?_)
   ·rw[Qz] at hv;obtain⟨hi,rfl⟩:=hv;simp
   ·rw[Qu] at hp;have:cs.toList[i]? =some v:=by simpa using hv
    rw[this] at hp;cases hp;exact cR S v
  ·exact .un
 | tuple vs=>
  simp only[nI];split
  ·rename_i h;have:vs= #[]:=Yu h;subst this;exact .ud
  ·exact .un
 |_=>rw[nI]<;>first|exact cR S _|(intro _ h;cases h)
def wV(G:Glob)(ts:List PV):Operand->PV
 | .tmp t=>ts.getD t .un
 | .const v=>nI v
 | .global g=>match G g with|some cs=> .tp cs|none=> .un
 | .func f=> .fn (.func f) [] []
structure TRel(S:St)(ts:List PV)(tmps:Array Value):Prop where
 size:tmps.size=ts.length
 rel: ∀i p,ts[i]? =some p->VRel S p (tmps.getD i undef)
theorem lI{S:St}{G:Glob}{ts:List PV}{a:Act}(hG:GRel S G)(hT:TRel S ts a.tmps)(x:Operand):VRel S (wV G ts x) (a.eval x):=by
 cases x with
 |tmp t=>
  simp only[wV,Act.eval];cases h:ts[t]? with
  |none=>rw[Qb,h];exact .un
  |some p=>rw[Qb,h];exact hT.rel t p h
 |const v=>exact sN S v
 |global g=>
  simp only[wV,Act.eval];split
  ·rename_i cs h;exact hG g cs h
  ·exact .un
 |func f=>exact .fn rfl rfl (by intro i p v h;simp at h) (by intro i p v h;simp at h)
theorem TRel.ext{S S':St}{ts:List PV}{tmps:Array Value}(h:TRel S ts tmps)(x:Ext S S'):TRel S' ts tmps:=⟨h.size,fun i p hp=>(h.rel i p hp).ext x⟩
theorem GRel.ext{S S':St}{G:Glob}(h:GRel S G)(x:Ext S S'):GRel S' G:=fun g cs hg=>(h g cs hg).ext x
def zZ(ts:List PV)(dst:Option Tmp)(p:PV):List PV:=
 match dst with
 |some d=>ts.set d p
 |none=>ts
theorem TRel.put{S:St}{ts:List PV}{a:Act}(h:TRel S ts a.tmps)(dst:Option Tmp){p:PV}{v:Value}(hv:VRel S p v):TRel S (zZ ts dst p) (a.put dst v).tmps:=by
 cases dst with
 |none=>exact h
 | some d=>
  simp only[zZ,Act.put];refine⟨by simp[h.size],fun i q hq=> ?_⟩;rw[Qq] at hq;have hs:=h.size;split at hq
  ·subst d;split at hq
   ·cases hq;rename_i hlt;have hlt':i<a.tmps.size:=Qf0;simp[Array.getD,hlt',hv]
   ·cases hq
  ·rename_i hne;have:=h.rel i q hq;rw[Yx] at this ⊢
   rwa [Array.getElem?_setIfInBounds_ne hne]
def dD(P:Program)(t:TypeId):Option Bool:=match P.underlying t with|some (.struct _)|some (.array ..)=>some true|some _=>some false|none=>none
def xL(P:Program)(t:TypeId):Option Nat:=(P.info? t).map (·.size)
def zR(P:Program)(t:TypeId)(f:Nat):Option (Nat×TypeId):=match P.underlying t with|some (.struct fs)=>(fs[f]?).map fun f=>(f.offset,f.type)|_=>none
def wX(P:Program)(t:TypeId):Option TypeId:=match P.underlying t with|some (.slice e)=>some e|_=>none
def bR(P:Program)(t:TypeId):Option (Nat×TypeId):=match P.underlying t with|some (.array n e)=>some (n,e)|_=>none
def zeT(P:Program)(t:TypeId):Option IntKind:=match P.underlying t with|some (.int k)=>some k|_=>none
def bW(P:Program)(t:TypeId):Bool:=match P.underlying t with|some .bool=>true|_=>false
def gJ(P:Program)(t:TypeId):Bool:=match P.underlying t with|some .string=>true|_=>false
def zg9(P:Program)(t:TypeId):Option Bool:=match P.underlying t with|some (.interface _)=>some true|some _=>some false|none=>none
def dG(b:Bool):PV->PV->PV
 | .sc (.bool x),.sc (.bool y)=> .sc (.bool (bif b then x else y))
 |p,q=>if b then p else q
theorem aJ{S:St}{b:Bool}{p q:PV}{u v:Value}(hp:VRel S p u)(hq:VRel S q v):VRel S (dG b p q) (if b then u else v):=by
 unfold dG;split
 ·cases hp;cases hq;cases b<;>exact .sc trivial
 ·cases b
  ·exact hq
  ·exact hp
class CK(α:Type) where
 cnd:(c:Prop)->[Decidable c]->α
 both:α->α->α
instance:CK Prop:=⟨fun c=>c,And⟩
instance:CK Bool:=⟨fun c=>decide c,Bool.and⟩
theorem vL(c:Prop)[Decidable c]:(CK.cnd c:Prop)=c:=rfl
theorem wE(c d:Prop):(CK.both c d:Prop)=(c/\d):=rfl
def zcM{α:Type}[CK α](P:Program)(t:TypeId)(op:BinOp):PV->PV->Option (PV×α)
 | .sc (.int k a),.sc (.int k' b)=>
  match op with
  | .shl=>some (.sc (.int k (k.wrap (a*2 ^ min b.toNat k.bits))),CK.cnd (0<=b))
  | .shr=>some (.sc (.int k (a / 2 ^ min b.toNat k.bits)),CK.cnd (0<=b))
  | .add=>if k=k' then some (.sc (.int k (k.wrap (a+b))),CK.cnd True) else none
  | .sub=>if k=k' then some (.sc (.int k (k.wrap (a-b))),CK.cnd True) else none
  | .mul=>if k=k' then some (.sc (.int k (k.wrap (a*b))),CK.cnd True) else none
  | .quo=>if k=k' then some (.sc (.int k (k.wrap (a.tdiv b))),CK.cnd (b≠0)) else none
  | .rem=>if k=k' then some (.sc (.int k (a.tmod b)),CK.cnd (b≠0)) else none
  | .and=>if k=k' then some (.sc (.int k (bits .and k a b)),CK.cnd True) else none
  | .or=>if k=k' then some (.sc (.int k (bits .or k a b)),CK.cnd True) else none
  | .xor=>if k=k' then some (.sc (.int k (bits .xor k a b)),CK.cnd True) else none
  | .andNot=>if k=k' then some (.sc (.int k (bits .andNot k a b)),CK.cnd True) else none
  | .eql=>if k=k' then some (.sc (.bool (a==b)),CK.cnd True) else none
  | .neq=>if k=k' then some (.sc (.bool (a !=b)),CK.cnd True) else none
  | .lss=>if k=k' then some (.sc (.bool (decide (a<b))),CK.cnd True) else none
  | .leq=>if k=k' then some (.sc (.bool (decide (a<=b))),CK.cnd True) else none
  | .gtr=>if k=k' then some (.sc (.bool (decide (b<a))),CK.cnd True) else none
  | .geq=>if k=k' then some (.sc (.bool (decide (b<=a))),CK.cnd True) else none
 | .sc (.bool a),.sc (.bool b)=>
  match op with
  | .eql=>if bW P t then some (.sc (.bool (a==b)),CK.cnd True) else none
  | .neq=>if bW P t then some (.sc (.bool (a !=b)),CK.cnd True) else none
  |_=>none
 | .sc (.string a),.sc (.string b)=>
  match op with
  | .eql=>some (.sc (.bool (decide (a=b))),CK.cnd True)
  | .neq=>some (.sc (.bool (!decide (a=b))),CK.cnd True)
  |_=>none
 |_,_=>none
def zaG:PV->Option (Nat×List (List PV))
 | .ts k e=>some (k,e)
 | .tc k e=>some (k,e)
 | .vec _ k e=>some (k,e)
 |_=>none
theorem zt1{S:St}{p:PV}{k:Nat}{els:List (List PV)}{v:Value}(h:zaG p=some (k,els))(hv:VRel S p v):VRel S (.ts k els) v:=by
 cases p<;>simp only[zaG,Option.some.injEq,Ys,reduceCtorEq] at h
 ·obtain⟨rfl,rfl⟩:=h;exact hv
 ·obtain⟨rfl,rfl⟩:=h;cases hv with|tc ht=>exact ht
 ·obtain⟨rfl,rfl⟩:=h;cases hv with|vec ht=>exact ht
def zk5{α:Type}[CK α](P:Program)(t:TypeId)(cs:List PV):Option (PV×α):=
 match xL P t,dD P t with
 |some s,some true=>some (.agg (cs.take s),CK.cnd (s<=cs.length))
 |some _,some false=>some (cs.getD 0 .un,CK.cnd (0<cs.length))
 |_,_=>none
def pI{α:Type}[CK α](P:Program)(t:TypeId):PV->Option (PV×α)
 | .nil=>if (wX P t).isSome then some (.sc (.int .i64 0),CK.cnd True) else none
 | .ts _ e=>if (wX P t).isSome then some (.sc (.int .i64 e.length),CK.cnd True) else none
 | .tc _ e=>if (wX P t).isSome then some (.sc (.int .i64 e.length),CK.cnd True) else none
 | .vec _ _ e=>if (wX P t).isSome then some (.sc (.int .i64 e.length),CK.cnd True) else none
 | .ms _ _ _ n=>if (wX P t).isSome then some (.sc (.int .i64 n),CK.cnd True) else none
 | .sc (.string s)=>if gJ P t then some (.sc (.int .i64 s.size),CK.cnd True) else none
 |_=>none
def yV{α:Type}[CK α]:Option PV->Nat->Nat->Option (Nat×α)
 |none,_,z=>some (z,CK.cnd True)
 |some (.sc (.int _ n)),d,_=>some (n.toNat,CK.cnd (0<=n/\n<=d))
 |_,_,_=>none
def yI{α:Type}[CK α](P:Program)(h:Heap)(f:Operand->PV):Op->Option (PV×α)
 | .move x=>some (f x,CK.cnd True)
 | .assign x=>some (f x,CK.cnd True)
 | .pick c a b=>match f c with
  | .sc (.bool t)=>some (dG t (f a) (f b),CK.cnd True)
  |_=>none
 | .nilCheck x=>match f x with
  | .ptr r o=>some (.ptr r o,CK.cnd True)
  | .tp cs=>some (.tp cs,CK.cnd True)
  | .fn (.func g) a b=>some (.fn (.func g) a b,CK.cnd True)
  | .fn (.via t s g p) a b=>some (.fn (.via t s g p) a b,CK.cnd True)
  | .yl r=>some (.yl r,CK.cnd True)
  | .ifc t p=>some (.ifc t p,CK.cnd True)
  |_=>none
 | .binOp op t x y _=>zcM P t op (f x) (f y)
 | .unOp op _ x=>match op,f x with
  | .not,.sc (.bool b)=>some (.sc (.bool !b),CK.cnd True)
  | .neg,.sc (.int k n)=>some (.sc (.int k (k.wrap (0-n))),CK.cnd True)
  | .xor,.sc (.int k n)=>some (.sc (.int k (bits .xor k (if k.signed then -1 else k.max) n)),CK.cnd True)
  |_,_=>none
 | .convert s d x=>match zeT P d,f x with
  |some k,.sc (.int _ n)=>if (P.underlying s).isSome then some (.sc (.int k (k.wrap n)),CK.cnd True) else none
  |_,.sc (.string b)=>if gJ P d/\(P.underlying s).isSome then some (.sc (.string b),CK.cnd True) else none
  |_,_=>none
 | .makeInterface t x=>if zg9 P t=some false then some (.ifc t (f x),CK.cnd True) else none
 | .makeFunc fn a b=>some (.fn fn (a.toList.map f) (b.toList.map f),CK.cnd True)
 | .field t x i=>match zR P t i,f x with
  |some (off,ft),.agg cs=>match xL P ft,dD P ft with
   |some s,some true=>some (.agg ((cs.drop off).take s),CK.cnd (off+s<=cs.length))
   |some _,some false=>some (cs.getD off .un,CK.cnd (off<cs.length))
   |_,_=>none
  |_,_=>none
 | .fieldAddr t x i=>match zR P t i,f x with
  |some (off,ft),.ptr r o=>match xL P ft with
   |some (_+1)=>some (.ptr r (o+off),CK.cnd True)
   |_=>none
  |some (off,ft),.tp cs=>match xL P ft with
   |some (_+1)=>some (.tp (cs.drop off),CK.cnd True)
   |_=>none
  |_,_=>none
 | .indexAddr t x i=>match f i with
  | .sc (.int _ n)=>match wX P t with
   |some e=>match zaG (f x),f x with
    |some (k,els),_=>if xL P e=some k then some (.tp (els.getD n.toNat []),CK.cnd (0<=n/\n<els.length)) else none
    |none,.ms r off k len=>if xL P e=some k then some (.ptr r (off+n.toNat*k),CK.cnd (0<=n/\n<len)) else none
    |_,_=>none
   | none=>match bR P t,f x with
    |some (len,e),.ptr r o=>match xL P e with
     |some k=>some (.ptr r (o+n.toNat*k),CK.cnd (0<=n/\n<len))
     |none=>none
    |some (len,e),.tp cs=>match xL P e with
     |some k=>some (.tp (cs.drop (n.toNat*k)),CK.cnd (0<=n/\n<len))
     |none=>none
    |_,_=>none
  |_=>none
 | .index t x i=>match f i with
  | .sc (.int _ n)=>match bR P t,f x with
   |some (len,e),.agg cs=>match xL P e,dD P e with
    |some s,some true=>some (.agg ((cs.drop (n.toNat*s)).take s),CK.cnd (0<=n/\n<len/\n.toNat*s+s<=cs.length))
    |some s,some false=>some (cs.getD (n.toNat*s) .un,CK.cnd (0<=n/\n<len/\n.toNat*s<cs.length))
    |_,_=>none
   |_,.sc (.string b)=>if gJ P t then some (.sc (.int .u8 (b.data.getD n.toNat 0).toNat),CK.cnd (0<=n/\n<b.size)) else none
   |_,_=>none
  |_=>none
 | .load t x=>match f x with
  | .tp cs=>zk5 P t cs
  | .ptr r o=>match h[r]? with
   |some (.var _ cs)=>zk5 P t (cs.drop o)
   |_=>none
  |_=>none
 | .extract x i=>match f x with
  | .tup vs=>some (vs.getD i .un,CK.cnd (i<vs.length))
  |_=>none
 | .slice t x lo hi mx=>match wX P t with
  | some e=>match zaG (f x) with
   | some (k,els)=>if xL P e=some k then
     match mx with
     | none=>match yV (hi.map f) els.length els.length with
      |some (b,c)=>match yV (lo.map f) b 0 with
       |some (a,c')=>some (.ts k ((els.take b).drop a),CK.both (CK.cnd (b<=els.length/\a<=b)) (CK.both c c'))
       |none=>none
      |none=>none
     | some m=>match yV (some (f m)) els.length 0 with
      | some (d,c0)=>match yV (hi.map f) d d with
       |some (b,c)=>match yV (lo.map f) b 0 with
        |some (a,c')=>some (.tc k ((els.take b).drop a),CK.both (CK.cnd (b=d/\d<=els.length/\a<=b/\hi.isSome)) (CK.both c0 (CK.both c c')))
        |none=>none
       |none=>none
      |none=>none
    else none
   |none=>none
  | none=>match bR P t,f x with
   |some (n,e),.ptr r o=>match xL P e,h[r]? with
    |some k,some (.var _ cs)=>if lo.isNone&&hi.isNone&&mx.isNone then some (.ms r o k n,CK.cnd (o+n*k<=cs.length/\n<=maxLen)) else none
    |_,_=>none
   |some (n,e),.tp cs=>if xL P e=some 1/\lo.isNone/\hi.isNone/\mx.isNone then some (.ts 1 (cs.map ([·])),CK.cnd (cs.length=n/\n<=maxLen)) else none
   | _,.sc (.string s)=>if gJ P t/\mx.isNone then
     match yV (hi.map f) s.size s.size with
     |some (b,c)=>match yV (lo.map f) b 0 with
      |some (a,c')=>some (.sc (.string (s.extract a b)),CK.both (CK.cnd (b<=s.size/\a<=b)) (CK.both c c'))
      |none=>none
     |none=>none
    else none
   |_,_=>none
 | .call c=>match c.callee,c.args.toList,c.argTypes.toList with
  | .builtin .len,[x],[t]=>pI P t (f x)
  | .builtin .max,[x,y],_=>match f x,f y with
   | .sc (.int k a),.sc (.int k' b)=>if k=k' then some (.sc (.int k (if b>a then b else a)),CK.cnd True) else none
   |_,_=>none
  | .builtin .min,[x,y],_=>match f x,f y with
   | .sc (.int k a),.sc (.int k' b)=>if k=k' then some (.sc (.int k (if b<a then b else a)),CK.cnd True) else none
   |_,_=>none
  |_,_,_=>none
 |_=>none
end Go.AL
