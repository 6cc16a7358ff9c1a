/-
  What a call lays behind the blocks that there were is given up; these stand as they stood.
-/
import Derived.Test.YtlcjmejclpilhaaGreatDoorX37
set_option linter.unusedSimpArgs false
set_option linter.unusedVariables false
set_option maxRecDepth 100000
set_option maxHeartbeats 4000000
namespace Go.AL
open Go.Proofs Go.Proofs.Tryz
theorem zv1: ∀{l:List Sp}{n:Int},0<=n->SpF n l->(∀s∈l,n<=s.a/\s.good)/\l.Pairwise fun s t=>s.b<t.a
 | [],_,_,_=>⟨Qf4,List.Pairwise.nil⟩
 | s::l,n,hn,h=>by
  obtain⟨h1,h2,h3,h4⟩:=h;obtain⟨k1,k2⟩:=zv1 (n:=s.b+1) Qf3 h4;refine⟨fun t ht=> ?_,Yb.2 ⟨fun t ht=>by have:=(k1 t ht).1;omega,k2⟩⟩;rcases Qw.1 ht with rfl|ht
  ·exact⟨h1,Qf3,h2,h3⟩
  ·have:=(k1 t ht).1;exact⟨Qf3,(k1 t ht).2⟩
theorem zyL{r:List Rw}(hc:CanL r){x:Rw}(hx:x∈r){s:Sp}(hs:s∈x.w){m:Nat}(hh:xT s m=true):(yH r x.args).testBit m=true:=by
 rw[zoV ((iW r).1 hc.1) hx,zoQ];exact List.any_eq_true.2 ⟨s,hs,hh⟩
theorem zzS{r:List Rw}{t:List Vl}{m:Nat}(hb:(yH r t).testBit m=true): ∃x∈r,x.args=t/\ ∃s∈x.w,xT s m=true:=by
 have hx: ∃x∈r,x.args=t:=Yv fun q=>by
  rw[bL fun x hx e=>q ⟨x,hx,e⟩] at hb;simp at hb
 have: ∃x∈r,x.args=t/\yH r t=uQ x.w:=by
  clear hb
  induction r with
  |nil=>obtain⟨x,hx,_⟩:=hx;cases hx
  | cons y r ih=>
   unfold yH;by_cases q:y.args=t
   ·exact⟨y,Qe ..,q,by rw[Qj q]⟩
   ·rw[Qi q];obtain⟨x,hx,e⟩:=hx;rcases Qw.1 hx with rfl|hx
    ·exact absurd e q
    ·obtain⟨z,hz,e1,e2⟩:=ih ⟨x,hx,e⟩;exact⟨z,Qf _ hz,e1,e2⟩
 obtain⟨x,hx,e,e2⟩:=this;rw[e2,zoQ] at hb;obtain⟨s,hs,hh⟩:=List.any_eq_true.1 hb;exact⟨x,hx,e,s,hs,hh⟩
structure PairR(p:Pg)(a b:Dt)(i:Nat):Prop where
 hA:DatX p a
 hB:DatX p b
 hi:i<p.pk.length
 hb:p.pk[i].base=true
 hof:p.pk[i].of'= -1
theorem zzB{p:Pg}(hp:p.ok)(hle:p.sm){d:Dt}(hX:DatX p d){i:Nat}(hi:i<p.pk.length)(hb:p.pk[i].base=true)(hof:p.pk[i].of'= -1){key:List Vl}(hkl:(key.length:Int)=p.pk[i].key){m:Nat}(hm:m<64)(g:Fa):
  ztF p d i key m=some g↔ ∃t,g=⟨i,t, -1⟩/\t.take p.pk[i].key.toNat=key/\(yH (d.pg.getD i []) t).testBit m=true:=by
 have h1:i<d.pg.length:=Qgo;have h2:i<d.pQ.length:=Qgp;obtain⟨-,hR,hK⟩:=(hX.at' i hi h1 h2).2.2 hb hof;rw[eD h1,zf7 hX hi h1 h2 hb hof hkl];have hc:=fH (k:=p.pk[i].key.toNat) (key:=key) hm hR.1 hK;constructor
 ·intro h;cases hr:(zjH p.pk[i].key.toNat key m d.pg[i]).map (·.args) with
  |none=>rw[hr] at h;cases h
  |some t=>
   rw[hr] at h;injection h with h;exact⟨t,h.symm,(hc t).1 hr⟩
 ·rintro⟨t,rfl,h3,h4⟩;rw[(hc t).2 ⟨h3,h4⟩];rfl
theorem zvS{p:Pg}(hp:p.ok)(hle:p.sm){d:Dt}(hX:DatX p d){i:Nat}(hi:i<p.pk.length)(hb:p.pk[i].base=true)(hof:p.pk[i].of'≠ -1):
  ∃hol:p.pk[i].of'.toNat<p.pQ.length,CelX p.pQ[p.pk[i].of'.toNat] p.pk[i].types (d.pQ.getD i []):=by
 obtain⟨-,ht0⟩:=znP hp hle hX.tv;obtain⟨-,t1,t2⟩:=ht0 _ (Qc hi);have hol:p.pk[i].of'.toNat<p.pQ.length:=Qf3;have h1:i<d.pg.length:=Qgo;have h2:i<d.pQ.length:=Qgp;rw[eD h2];exact⟨hol,((hX.at' i hi h1 h2).2.1 hb hof).2 hol⟩
theorem lkG{p:Pg}(hp:p.ok)(hle:p.sm){d:Dt}(hX:DatX p d){i:Nat}(hi:i<p.pk.length)(hb:p.pk[i].base=true)(hof:p.pk[i].of'≠ -1)(hol:p.pk[i].of'.toNat<p.pQ.length){t:List Vl}(ht:ArgX p.pk[i].types t){m:Nat}(hm:m<64):
  ztF p d i t m=if (eF p.pQ[p.pk[i].of'.toNat] (d.pQ.getD i []) t).getD m 0=oU p.pQ[p.pk[i].of'.toNat] then none else some ⟨i,t,(eF p.pQ[p.pk[i].of'.toNat] (d.pQ.getD i []) t).getD m 0⟩:=by
 have h1:i<d.pg.length:=Qgo;have h2:i<d.pQ.length:=Qgp;have hc:=((hX.at' i hi h1 h2).2.1 hb hof).2 hol;have hkl:(t.length:Int)=p.pk[i].key:=by
  have:=ht.1;have:=zsQ p hp hle hX.tv _ (Qc hi) hof;omega
 rw[zjD hX hi h1 h2 hb hof hol hkl,ztL hc ht hm,eD h2];have hg:=znB (hp.l _ (Qc hol)) hc.1 (znA hc t) hm;by_cases q:(eF p.pQ[p.pk[i].of'.toNat] d.pQ[i] t).getD m 0=oU p.pQ[p.pk[i].of'.toNat]
 ·rw[Qj (.inr q),Qj q]
 ·rw[Qi (fun w=>w.elim (fun w=>by omega) q),Qi q]
theorem zyS{p:Pg}(hp:p.ok)(hle:p.sm){d:Dt}(hX:DatX p d){i:Nat}(hi:i<p.pk.length)(hb:p.pk[i].base=true)(hof:p.pk[i].of'≠ -1){key:List Vl}{m:Nat}(hm:m<64)(hv: ∀v∈key,VIn v)(h: ¬(ArgX p.pk[i].types key/\key∈(d.pQ.getD i []).map (·.args))):ztF p d i key m=none:=by
 cases hk:ztF p d i key m with
 |none=>rfl
 | some g=>
  obtain⟨hol,hc⟩:=zvS hp hle hX hi hb hof;have h1:i<d.pg.length:=Qgo;have h2:i<d.pQ.length:=Qgp;by_cases hkl:(key.length:Int)=p.pk[i].key
  case neg=>rw[znT hX hi h1 h2 (.inr hkl)] at hk;cases hk
  by_cases hax:ArgX p.pk[i].types key
  ·rw[lkG hp hle hX hi hb hof hol hax hm,mR (fun x hx e=>h ⟨hax,Xf.2 ⟨x,hx,e⟩⟩),ziB hm,Qj rfl] at hk;cases hk
  ·rw[eD h2] at hc;rw[zjD hX hi h1 h2 hb hof hol hkl,zbH hc hv hax hm,Qj (.inr rfl)] at hk;cases hk
theorem zvO(bt:Int)(ms:List Int){m:Nat}: ∀n,n<=64->(∀c∈zh6 bt ms n,c.a<=(m:Int)->(m:Int)<c.b->ms.getD m 0=c.e/\c.e≠bt)/\(m<n->ms.getD m 0≠bt-> ∃c∈zh6 bt ms n,c.a<=(m:Int)/\(m:Int)<c.b)
 |0,_=>⟨fun c hc=>by simp[zh6] at hc,fun h=>by omega⟩
 | n + 1,hn=>by
  obtain⟨i1,i2⟩:=zvO bt ms (m:=m) n Qf3;have low:=zoY bt ms n Qf3;simp only[zh6];unfold zm5;by_cases q:ms.getD n 0=bt
  ·rw[Qj q];refine⟨i1,fun h h2=> ?_⟩;by_cases e:m=n
   ·subst e;exact absurd q h2
   ·exact i2 Qf3 h2
  ·rw[Qi q];cases hg:(zh6 bt ms n).getLast? with
   | none=>
    have he:zh6 bt ms n=[]:=List.getLast?_eq_none_iff.1 hg;dsimp only;refine⟨fun c hc h1 h2=> ?_,fun h h2=> ?_⟩
    ·exact Qck
    ·by_cases e:m=n
     ·subst e;exact⟨_,Qp.2 rfl,by dsimp only;omega,by dsimp only;omega⟩
     ·obtain⟨c,hc, -⟩:=i2 Qf3 h2;rw[he] at hc;cases hc
   | some d=>
    have hdm:d∈zh6 bt ms n:=List.mem_of_getLast? hg;obtain⟨l1,l2,l3⟩:=low d hdm;have hsp:zh6 bt ms n=(zh6 bt ms n).dropLast++[d]:=by
     have hne:zh6 bt ms n≠[]:=fun e=>by rw[e] at hg;cases hg
     rw[List.getLast?_eq_some_getLast hne] at hg;injection hg with hg;rw[<-hg];exact(List.dropLast_concat_getLast hne).symm
    dsimp only;by_cases q2:d.b=(n:Int)/\d.e=ms.getD n 0
    ·rw[Qj q2];have hw:IntKind.i64.wrap (d.b+1)=d.b+1:=xM Qf3 Qf3;rw[hw];refine⟨fun c hc h1 h2=> ?_,fun h h2=> ?_⟩
     ·rcases Qo.1 hc with hc|hc
      ·exact i1 c (zqI hc) h1 h2
      ·rw[Qp] at hc;subst hc;dsimp only at h1 h2 ⊢
       by_cases e:m=n
       ·subst e;exact⟨q2.2.symm,fun w=>q (q2.2.symm.trans w)⟩
       ·exact i1 d hdm h1 Qf3
     ·by_cases e:m=n
      ·exact Qeg
      ·obtain⟨c,hc,h3,h4⟩:=i2 Qf3 h2;rw[hsp] at hc;rcases Qo.1 hc with hc|hc
       ·exact⟨c,Zb _ hc,h3,h4⟩
       ·rw[Qp] at hc;subst hc;exact⟨_,Yh _ (Qp.2 rfl),h3,by dsimp only;omega⟩
    ·rw[Qi q2];refine⟨fun c hc h1 h2=> ?_,fun h h2=> ?_⟩
     ·rcases Qo.1 hc with hc|hc
      ·exact i1 c hc h1 h2
      ·exact Qck
     ·by_cases e:m=n
      ·exact Qeg
      ·obtain⟨c,hc,h3⟩:=i2 Qf3 h2;exact⟨c,Zb _ hc,h3⟩
theorem zr5{k:Nat}{i:Int}{y:List Rw}{c:Tld}:c∈zqP k i y↔ ∃x∈y, ∃s∈x.w,c=⟨x.args.take k,⟨i,x.args, -1⟩,s.a,s.b⟩:=by
 unfold zqP;exact Qbq
theorem zr6{k:Nat}{i:Int}{z:List LRw}{c:Tld}:c∈zsI k i z↔ ∃x∈z, ∃s∈x.cs,c=⟨x.args.take k,⟨i,x.args,s.e⟩,s.a,s.b⟩:=by
 unfold zsI;exact Qbq
theorem zvD{p:Pg}(hp:p.ok)(hle:p.sm){d:Dt}(hX:DatX p d){i:Nat}(hi:i<p.pk.length)(hb:p.pk[i].base=true):
  ∀c∈zqP p.pk[i].key.toNat i (d.pg.getD i [])++zsI p.pk[i].key.toNat i (d.pQ.getD i []),0<=c.a/\c.a<c.b/\c.b<=64/\ArgX p.pk[i].types c.g.args/\c.k=c.g.args.take p.pk[i].key.toNat/\ ∀m:Nat,m<64->c.a<=(m:Int)->(m:Int)<c.b->ztF p d i c.k m=some c.g:=by
 have hir:i<d.pg.length:=Qgo;have hil:i<d.pQ.length:=Qgp;obtain⟨x1,x2,x3⟩:=hX.at' i hi hir hil;obtain⟨hfm, -, -⟩:=(ze0 p hp hle).2 hX.tv;obtain⟨q0,q1, -⟩:=hfm.p _ (Qc hi);intro c hc;rw[eD hir,eD hil] at hc;by_cases hof:p.pk[i].of'= -1
 ·obtain⟨a1,a2,a3⟩:=x3 hb hof;rcases Qo.1 hc with hc|hc
  ·obtain⟨x,hx,s,hs,rfl⟩:=zr5.1 hc;dsimp only;have hsg:=(zv1 (Ug 0) (a2.1.2 x hx).1).1 s hs;obtain⟨-,g1,g2,g3⟩:=hsg;refine⟨g1,g2,g3,a2.2 x hx,rfl,fun m hm h1 h2=> ?_⟩;have hkl:((x.args.take p.pk[i].key.toNat).length:Int)=p.pk[i].key:=by
    have:=(a2.2 x hx).1;rw[Xk];omega
   refine(zzB hp hle hX hi hb hof hkl hm _).2 ⟨x.args,rfl,rfl,?_⟩;rw[eD hir];exact zyL a2.1 hx hs (by rw[gQ hm];exact Yz ⟨h1,h2⟩)
  ·rw[a1] at hc;cases hc
 ·obtain⟨hol,hc'⟩:=zvS hp hle hX hi hb hof;rw[eD hil] at hc';rcases Qo.1 hc with hc|hc
  ·rw[(x2 hb hof).1] at hc;cases hc
  ·obtain⟨x,hx,s,hs,rfl⟩:=zr6.1 hc;dsimp only;obtain⟨r1,r2⟩:=hc'.row hx;have hax:=hc'.2.1 x hx;have hkt:x.args.take p.pk[i].key.toNat=x.args:=Yo (by
    have:=hax.1;have:=zsQ p hp hle hX.tv _ (Qc hi) hof;omega)
   rw[hkt];have hs':=hs;rw[<-r1] at hs';obtain⟨g1,g2,g3⟩:=zoY _ _ 64 (Xe _) s hs';refine⟨g1,g2,Qf3,hax,rfl,fun m hm h1 h2=> ?_⟩;obtain⟨e1,e2⟩:=(zvO _ _ 64 (Xe _)).1 s hs' h1 h2;rw[lkG hp hle hX hi hb hof hol hax hm,eD hil,zfD hc'.keys hx,Qi (by rw[e1];exact e2),e1]
theorem zzR{p:Pg}(hp:p.ok)(hle:p.sm){d:Dt}(hX:DatX p d){i:Nat}(hi:i<p.pk.length)(hb:p.pk[i].base=true){key:List Vl}(hv: ∀v∈key,VIn v){m:Nat}(hm:m<64){g:Fa}(h:ztF p d i key m=some g):
  ∃c∈zqP p.pk[i].key.toNat i (d.pg.getD i [])++zsI p.pk[i].key.toNat i (d.pQ.getD i []),c.hit key m:=by
 have hir:i<d.pg.length:=Qgo;have hil:i<d.pQ.length:=Qgp;obtain⟨x1,x2,x3⟩:=hX.at' i hi hir hil;by_cases hkl:(key.length:Int)=p.pk[i].key
 case neg=>rw[znT hX hi hir hil (.inr hkl)] at h;cases h
 by_cases hof:p.pk[i].of'= -1
 ·obtain⟨a1,a2,a3⟩:=x3 hb hof;obtain⟨t, -,h1,h2⟩:=(zzB hp hle hX hi hb hof hkl hm g).1 h;rw[eD hir] at h2;obtain⟨x,hx,rfl,s,hs,hh⟩:=zzS h2;rw[gQ hm] at hh;exact⟨_,Zb _ (zr5.2 ⟨x,by rw[eD hir];exact hx,s,hs,rfl⟩),h1,Xj hh⟩
 ·obtain⟨hol,hc'⟩:=zvS hp hle hX hi hb hof;by_cases q:ArgX p.pk[i].types key/\key∈(d.pQ.getD i []).map (·.args)
  ·obtain⟨x,hx,rfl⟩:=Xf.1 q.2;rw[lkG hp hle hX hi hb hof hol q.1 hm,zfD hc'.keys hx] at h;obtain⟨r1,r2⟩:=hc'.row hx;split at h
   ·cases h
   rename_i hne;obtain⟨s,hs,h1,h2⟩:=(zvO _ _ 64 (Xe _)).2 hm hne;rw[r1] at hs;refine⟨_,Yh _ (zr6.2 ⟨x,hx,s,hs,rfl⟩),?_,h1,h2⟩;exact Yo Qf3
  ·rw[zyS hp hle hX hi hb hof hm hv q] at h;cases h
theorem zv3{p:Pg}(hp:p.ok)(hle:p.sm){d:Dt}(hX:DatX p d){i:Nat}(hi:i<p.pk.length)(hb:p.pk[i].base=true){key:List Vl}(hv: ∀v∈key,VIn v){m:Nat}(hm:m<64):(iD (kH p d i) key).getD m none=ztF p d i key m:=by
 unfold kH;rw[eD hi];refine zy9 hm _ _ (fun c hc hh=> ?_) ?_
 ·obtain⟨-, -, -, -, -,h⟩:=zvD hp hle hX hi hb c hc;rw[<-h m hm hh.2.1 hh.2.2,hh.1]
 ·have e0:(iD [] key).getD m none=none:=by
   show(List.replicate 64 none).getD m none=none;rw[Qb,Zf,Qj hm];rfl
  rw[e0];cases h:ztF p d i key m with
  |none=>exact .inl rfl
  |some g=>exact .inr ⟨rfl,zzR hp hle hX hi hb hv hm h⟩
theorem ztI(p:Pg)(d:Dt)(i:Nat):LnW (kH p d i):=yaQ _ ⟨Kg,Qf4⟩
theorem zsM{p:Pg}(hp:p.ok)(hle:p.sm){d:Dt}(hX:DatX p d){i:Nat}(hi:i<p.pk.length)(hb:p.pk[i].base=true)(key:List Vl):key∈(kH p d i).map (·.1)↔key∈zaH p d i:=by
 have hir:i<d.pg.length:=Qgo;have hil:i<d.pQ.length:=Qgp;obtain⟨x1,x2,x3⟩:=hX.at' i hi hir hil;unfold kH zaH;rw[zvH,eD hi,eD hir,eD hil,Qo];constructor
 ·rintro (h|⟨c,hc,rfl⟩)
  ·cases h
  rcases Qo.1 hc with hc|hc
  ·obtain⟨x,hx,s,hs,rfl⟩:=zr5.1 hc;exact .inl (Xf.2 ⟨x,hx,rfl⟩)
  ·obtain⟨x,hx,s,hs,rfl⟩:=zr6.1 hc;exact .inr (Xf.2 ⟨x,hx,rfl⟩)
 ·intro h;refine .inr ?_;by_cases hof:p.pk[i].of'= -1
  ·obtain⟨a1,a2,a3⟩:=x3 hb hof;rcases h with h|h
   ·obtain⟨x,hx,rfl⟩:=Xf.1 h;have hne:=zdB (a2.1.2 x hx);cases hw:x.w with
    |nil=>rw[hw] at hne;exact absurd zb8 hne
    |cons s l=>exact⟨_,Zb _ (zr5.2 ⟨x,hx,s,by rw[hw];exact Qe ..,rfl⟩),rfl⟩
   ·rw[a1] at h;cases h
  ·obtain⟨hol,hc'⟩:=zvS hp hle hX hi hb hof;rw[eD hil] at hc';rcases h with h|h
   ·rw[(x2 hb hof).1] at h;cases h
   ·obtain⟨x,hx,rfl⟩:=Xf.1 h;have hne:=(hc'.row hx).2;cases hw:x.cs with
    |nil=>exact absurd hw hne
    |cons s l=>exact⟨_,Yh _ (zr6.2 ⟨x,hx,s,by rw[hw];exact Qe ..,rfl⟩),rfl⟩
noncomputable abbrev zwN(L:List Tld):List Ln:=L.foldl zxH []
theorem zu1(L:List Tld)(c:Tld):zwN (L++[c])=zxH (zwN L) c:=by unfold zwN;rw[Jm];rfl
def yaJ(k:Nat)(i:Int)(x:Rw):List Tld:=x.w.map fun s=>⟨x.args.take k,⟨i,x.args, -1⟩,s.a,s.b⟩
def yaK(k:Nat)(i:Int)(x:LRw):List Tld:=x.cs.map fun c=>⟨x.args.take k,⟨i,x.args,c.e⟩,c.a,c.b⟩
theorem zx5(k:Nat)(i:Int){y:List Rw}{j:Nat}(h:j<y.length):zqP k i (y.take (j+1))=zqP k i (y.take j)++yaJ k i y[j]:=by
 unfold zqP;rw[Xh h,Wx];simp[yaJ]
theorem zx6(k:Nat)(i:Int){y:List LRw}{j:Nat}(h:j<y.length):zsI k i (y.take (j+1))=zsI k i (y.take j)++yaK k i y[j]:=by
 unfold zsI;rw[Xh h,Wx];simp[yaK]
theorem ya0{k:Nat}{i:Int}{x:Rw}{q:Nat}(h:q<(yaJ k i x).length)(h':q<x.w.length):(yaJ k i x)[q]=⟨x.args.take k,⟨i,x.args, -1⟩,x.w[q].a,x.w[q].b⟩:=Xu _
theorem ya1{k:Nat}{i:Int}{x:LRw}{q:Nat}(h:q<(yaK k i x).length)(h':q<x.cs.length):(yaK k i x)[q]=⟨x.args.take k,⟨i,x.args,x.cs[q].e⟩,x.cs[q].a,x.cs[q].b⟩:=Xu _
structure RdI(i:Int)(h H0:Heap)(L:List Tld)(es:List LnE)(H:Heap):Prop where
 t:es.map (·.1)=zwN L
 l:Lns i (h.length+3) es H
 lo: ∀e∈es,h.length<=e.2
 k:KpB h.length H0 H
theorem RdI.app{i:Int}{h H0:Heap}{L:List Tld}{es:List LnE}{H:Heap}(r:RdI i h H0 L es H)(B:Heap):RdI i h H0 L es (H++B):=⟨r.t,r.l.app B,r.lo,r.k.trans (KpB.app _ _ _)⟩
theorem zvE(p:Pg)(hp:p.ok)(hle:p.sm)(d:Dt)(hd:d.sz)(hX:DatX p d)(i:Nat)(hi:i<p.pk.length)(hb:p.pk[i].base=true)(h:Heap):
  ECall prog G0 49 [.agg p.c,.agg d.c,i64 i] h fun v h'=> ∃(m:Nat)(es:List LnE),v= .mp m/\es.map (·.1)=kH p d i/\Lns i m es h'/\h.length<=m/\(∀e∈es,h.length<=e.2)/\ ∀(r:Nat)(b:Blk),h[r]? =some b->h'[r]? =some b:=by
 have hir:i<d.pg.length:=Qgo;have hil:i<d.pQ.length:=Qgp;have htold:=zvD hp hle hX hi hb;have hrf:kH p d i=zwN (zqP p.pk[i].key.toNat i d.pg[i]++zsI p.pk[i].key.toNat i d.pQ[i]):=by unfold kH;rw[eD hi,eD hir,eD hil]
 rw[hrf];rw[eD hir,eD hil] at htold;obtain⟨hfm, -, -⟩:=(ze0 p hp hle).2 hX.tv;obtain⟨q0,q1, -⟩:=hfm.p _ (Qc hi);obtain⟨htl0, -⟩:=znP hp hle hX.tv;have htl:p.pk[i].types.length<=1048576:=by
  have:=(znP hp hle hX.tv).2 _ (Qc hi);omega
 obtain⟨hy1,hy2⟩:=hd.r _ (Qc hir);obtain⟨hz1,hz2⟩:=hd.l _ (Qc hil);have hyr:=zG (f:=fun r=>[uN r]) [] hir;have hzl:=zG (f:=fun r=>[vD r]) [] hil;have hset:=fun (lo m rp rq ro:Nat) (es:List LnE) (H:Heap)=>set_x p hp i hi m rp rq ro lo es H;refine pv func49 76 false Qf6 rfl rfl ?_;refine g2 ?_;have hp0: ∀l:List Blk,(h++ .var 27 p.c::l)[h.length]? =some (.var 27 p.c):=fun l=>rU h _;generalize hy:d.pg[i]=y at*;generalize hz:d.pQ[i]=z at*;generalize p.pk[i].types=ty at*;generalize hkk:p.pk[i].key=kk at*;refine gf (a7 @rU @sB @qK @rN @hyr @hir @zB) ?_;obtain⟨H0,hH0⟩: ∃H0,H0=h++[Blk.var 27 p.c,.var 31 d.c,.var 3 [i64 i],.map [],.var 112 [.mp (h.length+3)]]:=⟨_,rfl⟩
 rw[<-hH0];have b0:H0[h.length]? =some (.var 27 p.c):=by rw[hH0,rU];rfl
 have b1:H0[h.length+1]? =some (.var 31 d.c):=Qgd;have b2:H0[h.length+2]? =some (.var 3 [i64 i]):=Qgd;have b3:H0[h.length+3]? =some (.map []):=Qgd;have b4:H0[h.length+4]? =some (.var 112 [.mp (h.length+3)]):=Qgd;have hKh:KpB h.length h H0:=by rw[hH0];exact KpB.app _ _ _
 have kk0: ∀{H:Heap},KpB h.length H0 H->H[h.length]? =some (.var 27 p.c)/\H[h.length+1]? =some (.var 31 d.c)/\H[h.length+2]? =some (.var 3 [i64 i])/\H[h.length+4]? =some (.var 112 [.mp (h.length+3)])/\h.length<=H.length:=fun {H} k=>by
  have f: ∀(t:TypeId)(cs:List PV),t≠205->(∀cs',Blk.var t cs≠ .var 205 cs')/\ ∀es,Blk.var t cs≠ .map es:=fun t cs h=>⟨fun cs' e=>h (by cases e;rfl),fun es e=>by cases e⟩
  have h0:=k _ _ b0 (.inr (f _ _ Qf5));exact⟨h0,k _ _ b1 (.inr (f _ _ Qf5)),k _ _ b2 (.inr (f _ _ Qf5)),k _ _ b4 (.inr (f _ _ Qf5)),Nat.le_of_lt (gsi h0).1⟩
 have hI0:RdI i h H0 [] [] H0:=⟨rfl,⟨b3,Qf4,Qf4,Kg,Kg⟩,Qf4,KpB.refl _ _⟩
 clear hH0;refine zO y.length (K9 (.k:: .d:: .k:: .d::K9 (.k:: .k:: .k:: .v::D9 (D9 (.d:: .d::K9 (K9 (K9 (.k:: .k:: .k::[])))))))) (own:=false) (fun j (_:Heap×List LnE)=>[i64 j]) (fun s=>s.1) (fun j s=>RdI i h H0 (zqP kk.toNat i (y.take j)) s.2 s.1) (H0,[]) rfl rfl (by rw[Uh];exact hI0) Qf3 ?_ ?_
 ·rintro⟨H,es⟩ hI t ht;dsimp only at hI;rw[Yt] at hI;obtain⟨c0,c1,c2,c4,cl⟩:=kk0 hI.k;simp only[zY] at ht;subst ht;refine gf (a6 @zM @c1 @c2 @hzl @hil @zB) ?_;refine zO z.length (K9 (K4 (.k:: .d:: .k:: .d::K9 (K9 (K9 (K4 (K4 (.v::D9 (D9 (D4 (.k::[]))))))))))) (own:=false) (fun j (_:Heap×List LnE)=>[i64 j]) (fun s=>s.1) (fun j s=>RdI i h H0 (zqP kk.toNat i y++zsI kk.toNat i (z.take j)) s.2 s.1) (H,es) rfl rfl (by rw[Uh];show RdI _ _ _ (_++[]) _ _;rw[Xz];exact hI) Qf3 ?_ ?_
  ·rintro⟨H,es⟩ hI t ht;dsimp only at hI;rw[Yt] at hI;obtain⟨c0,c1,c2,c4,cl⟩:=kk0 hI.k;simp only[zY] at ht;subst ht;refine gf (a2 @zM @c4) ?_;refine⟨h.length+3,es,rfl,hI.t,hI.l,Qf3,hI.lo,fun r b hr=> ?_⟩;exact hI.k _ _ (hKh _ _ hr (.inl (gsi hr).1)) (.inl (gsi hr).1)
  ·rintro j ⟨H,es⟩ hj hw hI t ht;dsimp only at hI;simp only[zY] at ht;subst ht;have hx:=zG (f:=LRw.c) [] hj;have htk:=zx6 kk.toNat (i:Int) hj;obtain⟨-,hx2⟩:=hz2 _ (Qc hj);have hmem: ∀c∈yaK kk.toNat i z[j],c∈zqP kk.toNat i y++zsI kk.toNat i z:=fun c hc=>Yh _ (Jg.2 ⟨_,Qc hj,hc⟩);generalize z[j]=x at*;refine gf (a6 @hj @hx @zB @hw @zA @zX) ?_;refine zO x.cs.length (K9 (K4 (.k:: .k:: .k:: .d::K9 (K9 (K9 (K9 (K4 (.k:: .k:: .v::D9 (D4 (.d:: .k:: .k::[])))))))))) (own:=false) (fun j (_:Heap×List LnE)=>[i64 j]) (fun s=>s.1) (fun q s=>RdI i h H0 (zqP kk.toNat i y++zsI kk.toNat i (z.take j)++(yaK kk.toNat i x).take q) s.2 s.1/\s.1[H.length]? =some (.var 162 x.c)) (H++[.var 162 x.c],es) rfl rfl ⟨by rw[Uh,Xz];exact hI.app _,zA _ _⟩ Qf3 ?_ ?_
   ·rintro⟨H1,es1⟩ ⟨hI1,hb1⟩ t ht;dsimp only at hI1;rw[show x.cs.length=(yaK kk.toNat i x).length by simp[yaK],Yt,Qv,<-htk] at hI1;exact Qdc
   ·rintro q ⟨H1,es1⟩ hq zg1 ⟨hI1,hb1⟩ t ht;dsimp only at hI1 hb1;simp only[zY] at ht;subst ht;have hql:q<(yaK kk.toNat i x).length:=by simpa [yaK] using hq
    have hcs:=zG (f:=Ce.c) [] hq;have htq:=Xh hql;obtain⟨t1,t2,t3,t4,t5, -⟩:=htold _ (hmem _ (Qc hql));have hspq:(yaK kk.toNat i x)[q]=⟨x.args.take kk.toNat,⟨i,x.args,x.cs[q].e⟩,x.cs[q].a,x.cs[q].b⟩:=ya1 ..;rw[hspq] at htq t1 t2 t3 t4 t5;generalize x.cs[q]=c at*;dsimp only at t1 t2 t3 t4 t5;have hvx: ∀v∈x.args,zoC v=true:=fun v hv=>by
     exact Qea
    have hrA:=yJ H1 [Blk.var 208 c.c] _ _ hb1;have F1:=(a7 @hq @hcs @zB @zg1 @zA @zX @hrA)
    obtain⟨c0,c1,c2,c4,cl⟩:=kk0 (hI1.app [Blk.var 208 c.c]).k;refine gf F1 ?_;(refine Go.AL.g1f F1 ?_;refine zC (hset h.length (h.length+3) _ _ _ es1 _ (hI1.app _).l ⟨Qf3,hI1.lo⟩ cl c0 c2 c4 x.args (by rw[t4.1];exact htl) hvx q0 (by rw[t4.1];exact q1) c.e c.a c.b t1 t2 t3) ?_;intro p2 h2 hr2;refine Go.AL.g2 ?_);exact Qay
 ·rintro j ⟨H,es⟩ hj hw hI t ht;dsimp only at hI;simp only[zY] at ht;subst ht;have hx:=zG (f:=Rw.c) [] hj;have htk:=zx5 kk.toNat (i:Int) hj;have hx2:=(hy2 _ (Qc hj)).w;have hmem: ∀c∈yaJ kk.toNat i y[j],c∈zqP kk.toNat i y++zsI kk.toNat i z:=fun c hc=>Zb _ (Jg.2 ⟨_,Qc hj,hc⟩);generalize y[j]=x at*;refine gf (a6 @hj @hx @zB @hw @zA @zX) ?_;refine zO x.w.length (K9 (.k:: .k:: .k:: .d::K9 (K9 (.k:: .v::D9 (.d:: .d:: .d::K9 (K9 (K9 (K4 ([]))))))))) (own:=false) (fun j (_:Heap×List LnE)=>[i64 j]) (fun s=>s.1) (fun q s=>RdI i h H0 (zqP kk.toNat i (y.take j)++(yaJ kk.toNat i x).take q) s.2 s.1/\s.1[H.length]? =some (.var 159 x.c)) (H++[.var 159 x.c],es) rfl rfl ⟨by rw[Uh,Xz];exact hI.app _,zA _ _⟩ Qf3 ?_ ?_
  ·rintro⟨H1,es1⟩ ⟨hI1,hb1⟩ t ht;dsimp only at hI1;rw[show x.w.length=(yaJ kk.toNat i x).length by simp[yaJ],Yt,<-htk] at hI1;exact Qdc
  ·rintro q ⟨H1,es1⟩ hq zg1 ⟨hI1,hb1⟩ t ht;dsimp only at hI1 hb1;simp only[zY] at ht;subst ht;have hql:q<(yaJ kk.toNat i x).length:=by simpa [yaJ] using hq
   have hcs:=zG (f:=Sp.c) [] hq;have htq:=Xh hql;obtain⟨t1,t2,t3,t4,t5, -⟩:=htold _ (hmem _ (Qc hql));have hspq:(yaJ kk.toNat i x)[q]=⟨x.args.take kk.toNat,⟨i,x.args, -1⟩,x.w[q].a,x.w[q].b⟩:=ya0 ..;rw[hspq] at htq t1 t2 t3 t4 t5;generalize x.w[q]=c at*;dsimp only at t1 t2 t3 t4 t5;have hvx: ∀v∈x.args,zoC v=true:=fun v hv=>by
    exact Qea
   have hrA:=yJ H1 [Blk.var 54 c.c] _ _ hb1;have F:=(a7 @hq @hcs @zB @zg1 @zA @zX @hrA)
   obtain⟨c0,c1,c2,c4,cl⟩:=kk0 (hI1.app [Blk.var 54 c.c]).k;refine gf F ?_;(refine Go.AL.g1f F ?_;refine zC (hset h.length (h.length+3) _ _ _ es1 _ (hI1.app _).l ⟨Qf3,hI1.lo⟩ cl c0 c2 c4 x.args (by rw[t4.1];exact htl) hvx q0 (by rw[t4.1];exact q1) (-1) c.a c.b t1 t2 t3) ?_;intro p2 h2 hr2;refine Go.AL.g2 ?_);exact Qay
noncomputable def zq5(xs:List (List Vl)):Nat->List (List Vl)
 |0=>[]
 |n+1=>if ze8 (0<n/\xs[n]? =xs[n-1]?)=true then zq5 xs n else zq5 xs n++(xs[n]?).toList
theorem zxV{xs:List (List Vl)}(h:0<xs.length):zq5 xs 1=xs.take 1:=by
 show(if ze8 (0<0/\xs[0]? =xs[0-1]?)=true then zq5 xs 0 else zq5 xs 0++(xs[0]?).toList)=_;rw[uA fun w=>Nat.lt_irrefl 0 w.1,Qi Qf5];cases xs with
 |nil=>simp at h
 |cons x l=>rfl
theorem yeO{xs:List (List Vl)}{n:Nat}(h0:0<n)(hn:n<xs.length)(e:xs[n]=xs[n-1]'Qf3):zq5 xs (n+1)=zq5 xs n:=by
 show(if ze8 (0<n/\xs[n]? =xs[n-1]?)=true then zq5 xs n else zq5 xs n++(xs[n]?).toList)=_;rw[Qa hn,Qa Qf3,pO ⟨h0,by rw[e]⟩,Qj rfl]
theorem zxB{xs:List (List Vl)}{n:Nat}(hn:n<xs.length)(e:0<n->xs[n]≠xs[n-1]'Qf3):zq5 xs (n+1)=zq5 xs n++[xs[n]]:=by
 show(if ze8 (0<n/\xs[n]? =xs[n-1]?)=true then zq5 xs n else zq5 xs n++(xs[n]?).toList)=_;rw[Qa hn,Qa Qf3,uA fun w=>e w.1 (Option.some.inj w.2),Qi Qf5];rfl
theorem zwH{xs:List (List Vl)}(h:xs.Pairwise fun x y=> ¬zaF y x): ∀n,n<=xs.length->SoT (zq5 xs n)/\(∀k,k∈zq5 xs n↔k∈xs.take n)/\ ∀(h0:0<n)(h1:n-1<xs.length), ∀k∈zq5 xs n,k=xs[n-1]\/zaF k xs[n-1]
 |0,_=>⟨List.Pairwise.nil,fun k=>by simp[zq5],fun h=>absurd h Qf5⟩
 | n +1,hn=>by
  obtain⟨i1,i2,i3⟩:=zwH h n Qf3;have hnl:n<xs.length:=Qf3;have hw:=Zd.1 h;by_cases q:0<n/\xs[n]=xs[n-1]'Qf3
  ·rw[yeO q.1 hnl q.2];refine⟨i1,fun k=> ?_,fun _ _ k hk=> ?_⟩
   ·rw[i2 k,Xh hnl,Qo,Qp];refine⟨.inl,fun w=>w.elim id fun e=> ?_⟩;rw[e,q.2];exact List.mem_take_iff_getElem.2 ⟨n-1,Qf3,rfl⟩
   ·have:=i3 q.1 Qf3 k hk;rw[<-q.2] at this;exact this
  ·have hne: ∀k∈zq5 xs n,zaF k xs[n]:=fun k hk=>by
    rcases Yr n with e|h0
    ·subst e;simp[zq5] at hk
    ·have hx:zaF (xs[n-1]'Qf3) xs[n]:=by
      rcases zaF.tri (xs[n-1]'Qf3) xs[n] with e|e|e
      ·exact e
      ·exact absurd ⟨h0,e.symm⟩ q
      ·exact absurd e (hw (n-1) n Qf3 hnl Qf3)
     rcases i3 h0 Qf3 k hk with e|e
     ·rw[e];exact hx
     ·exact e.tr hx
   rw[zxB hnl fun h w=>q ⟨h,w⟩];refine⟨Kq.2 ⟨i1,List.pairwise_singleton ..,fun a ha b hb=> ?_⟩,fun k=> ?_,fun _ _ k hk=> ?_⟩
   ·rw[Qp] at hb;subst hb;exact hne a ha
   ·rw[Qo,i2 k,Xh hnl,Qo]
   ·rcases Qo.1 hk with hk|hk
    ·exact .inr (hne k hk)
    ·exact .inl (Qp.1 hk)
theorem zz3{xs:List (List Vl)}(h:xs.Pairwise fun x y=> ¬zaF y x):zq5 xs xs.length=aO xs:=by
 obtain⟨h1,h2, -⟩:=zwH h xs.length (Xe _);exact zyN h1 fun x=>by rw[h2 x,Yt]
theorem zwU{a b:List (List Vl)}(h: ∀k,k∈a↔k∈b):aO a=aO b:=zr9 (ziT a) (ziT b) fun k=>by rw[iY,iY,h]
end Go.AL
namespace Go.AL
open Go.RowKit Go.Sort Go.Shelf Go.Proofs
section
variable{P:Program}{G:Glob}
def zt4(n:Nat)(arr:Array Value)(i:Nat):Value:=if i<n then arr.getD i undef else .slice none 0 0
theorem ACall.pdqSort1{α:Type}{ρ:Ren}(L:SlLaysF.n14 P ρ)(hen:uG P (ρ.f 14)=true)(lim:Nat)(hlim:lim<4611686018427387904)(hG:GTree G)
  (c:α->PV) (d0:α) (hd0:PLe .nil (c d0)) (hct: ∀x,Tree (c x)) (cf:α->α->Int) (hO:SWO (ltOf cf)) (g:FuncId) (K:α->Prop) (hK0:K d0)
  (hg: ∀x y,K x->K y->Pure P G g [c x,c y] (.sc (.int .i64 (cf x y)))) {h:Heap} {r:Nat} {t:TypeId} (xs:List α) (hK: ∀x∈xs,K x)
  (hr:h[r]? =some (.var t (xs.map c))) (hlen:xs.length<4611686018427387904):
  ACall P G (ρ.f 14) [.ms r 0 1 xs.length,.sc (.int .i64 0),.sc (.int .i64 xs.length),.sc (.int .i64 lim),.fn (.func g) [] []] h fun p h'=>p= .tup []/\ ∃ys:List α,ys.Perm xs/\ys.Pairwise (fun x y=>ltOf cf y x=false)/\h'=h.set r (.var t (ys.map c)):=by
 refine⟨hen,fun φ w X vs hS hGr hl hv=> ?_⟩;obtain⟨v0,u1,u2,u3,v1,rfl⟩: ∃v0 u1 u2 u3 v1,vs= #[v0,u1,u2,u3,v1]:=by
  exact Qbx
 have hv0:=hv 0 _ v0 rfl rfl;have hv1:=hv 4 _ v1 rfl rfl;obtain rfl:u1= .int .i64 0:=Qhi;obtain rfl:u2= .int .i64 xs.length:=Qhj;obtain rfl:u3= .int .i64 lim:=Qhk;obtain rfl:v1= .func (.func g) #[] #[]:=by
  exact Qbp
 obtain⟨b,cap,rfl,hφ⟩: ∃b cap,v0= .slice (some ⟨b,0,none⟩) xs.length cap/\φ[r]? =some (.pointer (some ⟨b,0,none⟩)):=by
  exact Qe3
 obtain⟨b',arr,e,hh,hsz,hone,hrel⟩:=hS.blks r _ _ hr hφ;obtain rfl:b=b':=by cases e;rfl
 clear e hv hv0 hv1 hl;rw[Qs] at hsz;have hhs:w.heap[b]? =some (.cells arr t (0,0)):=hh;have hblk:b<w.heap.size:=(Qz.1 hhs).1;let n:=xs.length
 let a:Nat->α:=fun i=>xs.getD i d0
 have ha: ∀(i:Nat)(hi:i<n),a i=xs[i]:=fun i hi=>by simp only[a];rw[Qb,Qa hi];rfl
 have ha': ∀i, ¬i<n->a i=d0:=fun i hi=>by simp only[a];rw[Qb,Ye Qf3];rfl
 have hKa: ∀i,K (a i):=fun i=>by
  exact Qeb
 have hO':SWO (ltOf fun i j:Nat=>cf (a i) (a j)):=⟨fun x=>hO.irrefl (a x),fun x y z=>hO.trans (a x) (a y) (a z),fun x y z=>hO.ntrans (a x) (a y) (a z)⟩
 have encg: ∀i (hi:i<n),zt4 n arr i=arr[i]'Qf3:=fun i hi=>by
  unfold zt4;rw[Qj hi];have:i<arr.size:=Qf3;simp[Array.getD,this]
 have h1:OneCell (zt4 n arr):=fun x=>by
  by_cases hx:x<n
  ·rw[encg x hx];exact hone _ _ (Qx Qf3)
  ·unfold zt4;rw[Qi hx];rfl
 have cellb: ∀j,w.cell? ⟨b,j,none⟩=arr[j]? :=fun j=>by simp[World.cell?,hhs]
 have hr0: ∀i,i<n->(Array.range n)[i]! =i:=fun i hi=>by rw[getElem!_pos _ _ Qg6];simp
 have hH:Holds (zt4 n arr) w b 0 (Array.range n):=by
  intro j hj;have hj':j<n:=Qfy;rw[hr0 _ hj',encg j hj',Yd,cellb];refine⟨Qx Qf3,?_⟩;simp only[World.frozen?,hhs];simp
 have eg: ∀args w,(callFunc g args).run P w= .ok (.enter g args) w:=iC (hg d0 d0 hK0 hK0).1;have hMb: ∀a v,St.M ⟨φ,h,w,X⟩ a v->a.block≠b/\a.block<w.heap.size:=fun a v hM=>by
  exact Qc0
 have hvr: ∀x,VRel ⟨φ,h,w,X⟩ (c (a x)) (zt4 n arr x):=fun x=>by
  by_cases hx:x<n
  ·rw[encg x hx,ha x hx];exact hrel x _ _ (by rw[Qu,Qa hx];rfl) (Qx Qf3)
  ·unfold zt4;rw[Qi hx,ha' x hx];exact hd0 _ _ .nil
 have hszw: ∀(m:Nat)(dk:Array Nat)(os:Array Obj),w.heap.size<=(sortWorld (zt4 n arr) w b 0 m dk os).heap.size:=fun m dk os=>by
  unfold sortWorld;rw[size_grow,Go.Proofs.size_putRow];show w.heap.size<=w.heap.size+_;omega
 have hcmp:CmpLays1 P g #[] (zt4 n arr) (fun i j=>cf (a i) (a j)) b 0 (Array.range n).size w:=fun m os dk hdk x y=>by
  refine Pure.calls (hg (a x) (a y) (hKa x) (hKa y)) (by
   intro p hp;simp only[Qw,Zn,Ka] at hp;rcases hp with rfl|rfl<;>exact hct _) hG hGr (fun ad v hM=> ?_) (hszw _ _ _) Qf4 fun i p v hp hv=> ?_
  ·obtain⟨hne,hlt⟩:=hMb ad v hM;unfold sortWorld;rw[cell?_grow _ _ _ (by rw[Go.Proofs.size_putRow];exact hlt),cell?_putRow_other _ _ _ _ _ _ (Or.inl hne)];exact hM.1
  ·exact Qbr
 have hcon:=Any.pdqsortCmpFunc_all L (zt4 n arr) (fun i j=>cf (a i) (a j)) g #[] hO' b 0 cap (Array.range n) w eg hcmp ⟨h1,hH,hblk⟩ ((Array.range n).size+1) 0 (Array.range n).size lim (Array.range n) w Qf3 rfl (SW.start hH) (Yn _) (Xe _) Qge hlim (Or.inl rfl);rw[show(Array.range n).size=xs.length by simp[n]] at hcon;have hpd:=pdq_sorts (ltOf fun i j=>cf (a i) (a j)) hO' (Array.range n) 0 xs.length lim true true (Yn _) (by simp[n]) (Or.inl rfl);refine(callsIn_wide.2 hcon).mono ?_;rintro e w' ⟨rfl,m,os,rfl⟩;obtain⟨⟨hds, -,hperm⟩,hsorted⟩:=hpd;generalize Go.Sort.pdq (ltOf fun i j=>cf (a i) (a j)) (Array.range n) 0 xs.length lim true true=d' at*;have hds:d'.size=n:=by simpa using hds
 have hpm:d'.toList.Perm (List.range n):=by
  exact Qax
 have hdn: ∀i<n,d'[i]! <n:=fun i hi=>by
  exact Qci
 let ys:List α:=d'.toList.map fun i=>xs.getD i d0
 have hys:ys.length=n:=by simp[ys,hds]
 have hgy: ∀(i:Nat)(hi:i<ys.length),ys[i]=xs[d'[i]!]'(hdn i Qf3):=fun i hi=>by
  exact Qch
 have hxs:(List.range n).map (fun i=>xs.getD i d0)=xs:=by
  exact Qdl
 have hyp:ys.Perm xs:=by
  have:=hpm.map (fun i=>xs.getD i d0);rw[hxs] at this;exact this
 have hyw:ys.Pairwise fun x y=>ltOf cf y x=false:=by
  exact Qbg
 have hlm:(ys.map c).length=n:=(Qs c).trans hys;have hl':(ys.map c).length=(xs.map c).length:=hlm.trans (Qs c).symm;let w1:World:=putRow (zt4 n arr) (Go.Sort.ahead w m) b 0 d'
 let arr':Array Value:=putCells (zt4 n arr) 0 d' arr
 have jY: ∀k,k≠b->w1.heap[k]? =w.heap[k]? :=fun k hk=>by
  simp only[w1,putRow,mapBlock,Go.Sort.ahead,Wd];rw[Qi (fun e=>hk e.symm)]
 have hw1b:w1.heap[b]? =some (.cells arr' t (0,0)):=by
  simp only[w1,putRow,mapBlock,Go.Sort.ahead,Wd];rw[Qj trivial,hhs];rfl
 have hasz:arr'.size=arr.size:=by simp[arr',putCells]
 have hs1:w1.heap.size=w.heap.size:=by simp[w1,putRow,mapBlock,Go.Sort.ahead]
 have hag: ∀j,j<arr.size->arr'[j]? =some (if j<n then arr[d'[j]!]! else arr[j]!):=fun j hj=>by
  simp only[arr',putCells,Array.getElem?_mapIdx,Qx hj,Wi,hds,Yd,Yn,true_and,Nat.sub_zero];by_cases hjn:j<n
  ·have:=hdn j hjn;rw[Qj hjn,Qj hjn,encg _ this,getElem!_pos arr _ Qf3]
  ·rw[Qi hjn,Qi hjn,getElem!_pos arr j hj]
 have hone': ∀(i:Nat)(u:Value),arr'[i]? =some u->u.oneCell'=true:=fun i u hu=>by
  have hi:i<arr.size:=by rw[<-hasz];exact(Qz.1 hu).1
  rw[hag i hi] at hu;cases hu;split
  ·rename_i hin;have:=hdn i hin;rw[getElem!_pos arr _ Qf3];exact hone _ _ (Qx _)
  ·rw[getElem!_pos arr _ hi];exact hone _ _ (Qx _)
 have hrow: ∀b1 m1,St.Row ⟨φ,h,w,X⟩ b1 m1->St.Row {(⟨φ,h,w,X⟩:St) with w:=w1} b1 m1:=by
  exact Qb7
 have htl:TapeLe w w1:=⟨rfl,Kt _ _⟩
 have hvn: ∀(i:Nat)(p:PV)(u:Value),(ys.map c)[i]? =some p->arr'[i]? =some u->VRel ⟨φ,h,w,X⟩ p u:=fun i p u hp hu=>by
  have hi:i<n:=by have:=(gsi hp).1;rw[hlm] at this;exact this
  rw[hag i Qf3,Qj hi] at hu;cases hu;have hd:=hdn i hi;rw[getElem!_pos arr _ Qf3];have hi2:i<ys.length:=Qf3;rw[Qu,Qa hi2,Wi,hgy i hi2] at hp;refine hrel (d'[i]!) p _ ?_ (Qx _);rw[Qu,Qa hd,Wi,hp]
 have x1:=eT (arr':=arr') hS hφ hr hl' (w':=w1) rfl htl rfl hs1 jY hrow;have hS1:=cM (arr':=arr') hS hφ hr hl' (w':=w1) rfl htl rfl hs1 jY hrow hw1b (by rw[hlm,hasz];exact hsz) hone' hvn;refine⟨φ,h.set r (.var t (ys.map c)),.tup [],.tuple #[],rfl,x1.trans (bF hS1 os),zc6 hS1 os,.tup rfl fun i p v hp=>by simp at hp,rfl,ys,hyp,hyw,rfl⟩
end
end Go.AL
namespace Go.Proofs
open Go.Shelf Go.AL
def Tryz.sortKey_ren:Go.Shelf.Ren:=⟨fun|14=>166|20=>231|21=>232|22=>233|23=>234|24=>235|25=>236|26=>237|27=>238|46=>304|47=>305|48=>306|49=>307|50=>308|15=>167|57=>352|28=>239|29=>240|n=>n,fun|24=>50|22=>74|3=>3|25=>99|4=>4|0=>0|46=>326|45=>325|50=>216|66=>383|39=>261|55=>245|70=>387|76=>417|77=>418|53=>332|5=>5|9=>9|n=>n,fun n=>n⟩
theorem Tryz.sortKey:Go.Proofs.SlLaysF.n14 Tryz.prog Tryz.sortKey_ren:={
 mixed:=Qf6
 f14:=⟨Tryz.f166.name,Qf5,Tryz.func166.trans (Ym some Qf6)⟩
 f15:=Tryz.func167.trans (Ym some Qf6)
 f20:=⟨Tryz.f231.name,Qf5,Tryz.func231.trans (Ym some Qf6)⟩
 f21:=⟨Tryz.f232.name,Qf5,Tryz.func232.trans (Ym some Qf6)⟩
 f22:=⟨Tryz.f233.name,Qf5,Tryz.func233.trans (Ym some Qf6)⟩
 f23:=⟨Tryz.f234.name,Qf5,Tryz.func234.trans (Ym some Qf6)⟩
 f24:=⟨Tryz.f235.name,Qf5,Tryz.func235.trans (Ym some Qf6)⟩
 f25:=⟨Tryz.f236.name,Qf5,Tryz.func236.trans (Ym some Qf6)⟩
 f26:=⟨Tryz.f237.name,Qf5,Tryz.func237.trans (Ym some Qf6)⟩
 f27:=⟨Tryz.f238.name,Qf5,Tryz.func238.trans (Ym some Qf6)⟩
 f28:=Tryz.func239.trans (Ym some Qf6)
 f29:=Tryz.func240.trans (Ym some Qf6)
 f46:=⟨Tryz.f304.name,Qf5,Tryz.func304.trans (Ym some Qf6)⟩
 f47:=Tryz.func305.trans (Ym some Qf6)
 f48:=Tryz.func306.trans (Ym some Qf6)
 f49:=⟨Tryz.f307.name,Qf5,Tryz.func307.trans (Ym some Qf6)⟩
 f50:=⟨Tryz.f308.name,Qf5,Tryz.func308.trans (Ym some Qf6)⟩
 f57:=⟨Tryz.f352.name,Qf5,Tryz.func352.trans (Ym some Qf6)⟩
 t0:=Tryz.underlying0
 a0:=Tryz.isAgg0
 z0:=Tryz.sizeOf0
 v0:=Tryz.zeroValue0
 t3:=Tryz.underlying3
 a3:=Tryz.isAgg3
 z3:=Tryz.sizeOf3
 v3:=Tryz.zeroValue3
 t4:=Tryz.underlying4
 a4:=Tryz.isAgg4
 z4:=Tryz.sizeOf4
 v4:=Tryz.zeroValue4
 t5:=Tryz.underlying5
 a5:=Tryz.isAgg5
 z5:=Tryz.sizeOf5
 v5:=Tryz.zeroValue5
 t9:=Tryz.underlying9
 a9:=Tryz.isAgg9
 z9:=Tryz.sizeOf9
 v9:=Tryz.zeroValue9
 t22:=Tryz.underlying74
 a22:=Tryz.isAgg74
 z22:=Tryz.sizeOf74
 v22:=Tryz.zeroValue74
 a24:=Tryz.isAgg50
 z24:=Tryz.sizeOf50
 t25:=Tryz.underlying99
 a25:=Tryz.isAgg99
 z25:=Tryz.sizeOf99
 v25:=Tryz.zeroValue99
 t39:=Tryz.underlying261
 a39:=Tryz.isAgg261
 z39:=Tryz.sizeOf261
 v39:=Tryz.zeroValue261
 t45:=Tryz.underlying325
 a45:=Tryz.isAgg325
 z45:=Tryz.sizeOf325
 v45:=Tryz.zeroValue325
 t46:=Tryz.underlying326
 a46:=Tryz.isAgg326
 z46:=Tryz.sizeOf326
 v46:=Tryz.zeroValue326
 t50:=Tryz.underlying216
 a50:=Tryz.isAgg216
 z50:=Tryz.sizeOf216
 v50:=Tryz.zeroValue216
 t53:=Tryz.underlying332
 a53:=Tryz.isAgg332
 z53:=Tryz.sizeOf332
 v53:=Tryz.zeroValue332
 t55:=Tryz.underlying245
 a55:=Tryz.isAgg245
 z55:=Tryz.sizeOf245
 v55:=Tryz.zeroValue245
 t66:=Tryz.underlying383
 a66:=Tryz.isAgg383
 z66:=Tryz.sizeOf383
 v66:=Tryz.zeroValue383
 t70:=Tryz.underlying387
 a70:=Tryz.isAgg387
 z70:=Tryz.sizeOf387
 v70:=Tryz.zeroValue387
 t76:=Tryz.underlying417
 a76:=Tryz.isAgg417
 z76:=Tryz.sizeOf417
 v76:=Tryz.zeroValue417
 t77:=Tryz.underlying418
 a77:=Tryz.isAgg418
 z77:=Tryz.sizeOf418
 v77:=Tryz.zeroValue418}
end Go.Proofs
namespace Go.AL
open Go.RowKit
section
variable{P:Program}{G:Glob}{rd:Option Nat}
theorem zwQ(z:Value)(n:Nat):(Builtin.zeroCells #[z] n).toList=List.replicate n z:=by
 unfold Builtin.zeroCells;refine Zc Qf4 fun i h1 h2=> ?_;simp[Nat.mod_one]
theorem ztP{cs ps:List PV}{o:Nat}(h:o+ps.length<=cs.length):(splice cs o ps).length=cs.length:=by simp[splice];omega
theorem OpOk.clearMs{o:Oper}{h:Heap}{F:Operand->PV}{R:PV->Heap->Prop}{c:Call}{t e te:TypeId}{x:Operand}{r off len:Nat}{cs:List PV}{z:Value}
  (ho:o.op= .call c) (hc:c.callee= .builtin .clear) (ha:c.args= #[x]) (hat:c.argTypes= #[t]) (hx:F x= .ms r off 1 len) (hb:h[r]? =some (.var te cs)) (hl:off+len<=cs.length)
  (ht:P.underlying t=some (.slice e)) (hz:(P.info? e).bind (·.zero)=some z) (hzc:z.cells= #[z]) (hz1:z.oneCell'=true)
  (hr:R (.tup []) (h.set r (.var te (splice cs off (List.replicate len (nI z)))))):OpOk P G rd o h F R:=by
 refine .of_run Qgt fun φ w X ρ hS hG hv=> ?_;have h1:=hv x Qhq;rw[hx] at h1;obtain⟨b,cp,hu,hp⟩: ∃b cp,ρ x= .slice (some ⟨b,off,none⟩) len cp/\φ[r]? =some (.pointer (some ⟨b,0,none⟩)):=by
  generalize ρ x=u at h1;cases h1 with
  |ms hp hb'=>exact⟨_,_,rfl,hp⟩
  |oms hb'=>rw[hb] at hb';cases hb'
 obtain⟨b',arr,e1,hh,hsz,hone,hrel⟩:=hS.blks r _ _ hb hp;cases e1;simp only[] at hh;obtain⟨w',hr0,g1,g2,g3,g4,g5,g6⟩:=nG P b te (List.replicate len z) off 0 arr w hh (by rw[Js];omega) (fun u hu=>by rw[(List.mem_replicate.1 hu).2];exact hz1);have hsl:(splice cs off (List.replicate len (nI z))).length=cs.length:=ztP (by rw[Js];exact hl);have hzz: ∀b m,St.Row ⟨φ,h,w,X⟩ b m->St.Row {(⟨φ,h,w,X⟩:St) with w:=w'} b m:=by
  rintro b1 m ⟨ar,t1,f1,hr1,hm1⟩;by_cases hb1:b1=b
  ·subst hb1;simp only[] at hr1;rw[hh] at hr1;cases hr1;exact⟨_,_,_,g6,by simp;omega⟩
  ·exact⟨ar,t1,f1,(g5 b1 hb1).trans hr1,hm1⟩
 have hrun:(Builtin.clear_ #[t] o.type #[ρ x]).run P w= .ok (.tuple #[]) w':=by
  rw[hu];cases len with
  | zero=>
   have:w'=w:=by
    have:(storeCells ⟨b,off,none⟩ ([]:List Value) 0).run P w= .ok () w:=rfl;rw[Ku] at hr0;rw[this] at hr0;cases hr0;rfl
   subst this;simp[Builtin.clear_,Xc ht]
  |succ n=>
   have hr1:(storeCells ⟨b,off,none⟩ (Builtin.zeroCells #[z] (n+1)).toList).run P w= .ok () w':=by rw[zwQ];exact hr0
   simp[Builtin.clear_,Xc ht,lO hz,hzc,hr1]
 refine⟨φ,h.set r (.var te (splice cs off (List.replicate len (nI z)))),w',.tup [],.tuple #[],?_,eT (arr':=arr) hS hp hb hsl g1 g2 g3 g4 g5 hzz,cM hS hp hb hsl g1 g2 g3 g4 g5 hzz g6 (by rw[hsl];simp;omega) (fun i u hi=> ?_) (fun i q u hq hi=> ?_),.tup rfl fun i p v hp=>by simp at hp,hr⟩
 ·unfold execOp;rw[ho];simp[resolve,invoke,builtin,hc,ha,hat,hrun]
 all_goals
  simp only[Wn,Je,Qr,Xk,Wq,Ql,Js,Xr,Yg,Yi,Zf] at hi
 ·split at hi
  ·split at hi
   ·split at hi
    ·exact hone _ u hi
    ·cases hi
   ·split at hi
    ·cases hi;exact hz1
    ·cases hi
  ·exact hone _ u hi
 ·simp only[splice,Qr,Xk,Ql,Js,Xr,Yg,Zf] at hq;have m1:min off arr.size=off:=Qf3;have m2:min off cs.length=off:=Qf3;rw[m1] at hi;rw[m2] at hq;by_cases c1:i<off
  ·rw[Qj Qf3,Qj c1,Qj c1] at hi;rw[Qj Qf3,Qj c1,Qj c1] at hq;exact hrel i q u hq hi
  ·by_cases c2:i<off+len
   ·rw[Qj Qf3,Qi c1,Qj Qf3] at hi;rw[Qj Qf3,Qi c1,Qj Qf3] at hq;cases hi;cases hq;exact sN _ z
   ·rw[Qi Qf3] at hi hq;refine hrel _ q u hq ?_;rw[<-hi]
theorem OpOk.sliceLo{o:Oper}{h:Heap}{F:Operand->PV}{R:PV->Heap->Prop}{t e te:TypeId}{x lo:Operand}{r off len a:Nat}{cs:List PV}
  (ho:o.op= .slice t x (some lo) none none) (hx:F x= .ms r off 1 len) (hb:h[r]? =some (.var te cs)) (ht:wX P t=some e) (hs:xL P e=some 1)
  (hlo:F lo= .sc (.int .i64 a)) (ha:a<len) (hr:R (.ms r (off+a) 1 (len-a)) h):OpOk P G rd o h F R:=by
 refine .of_run Qgt fun φ w X ρ hS hG hv=> ?_;have h1:=hv x Qh7;have h2:=hv lo Qh7;rw[hx] at h1;rw[hlo] at h2;have hl:ρ lo= .int .i64 a:=by generalize ρ lo=u at h2;cases h2;rfl
 generalize hu:ρ x=u at h1;cases h1 with
 |oms hb'=>rw[hb] at hb';cases hb'
 | ms hp hb' hle hc hm hz=>
  rename_i c b t' cs';rw[hb] at hb';cases hb';have hca: ¬c=a:=Qf3;refine⟨φ,h,w,.ms r (off+a) 1 (len-a),.slice (some ⟨b,off+a,none⟩) (len-a) (c-a),?_,Ext.refl _,hS,?_,hr⟩
  ·unfold execOp;rw[ho];have e1':(Instr.sliceBounds true len c (some (.int .i64 ↑a)) none none).run P w= .ok (a,len,c) w:=by simp[Instr.sliceBounds,vS (show a<=len by omega)]
   simp[Instr.sliceAt,Instr.slice,hu,hl,Xc (tS ht),e1',zV hs,hca,Addr.add]
  ·refine .ms hp hb Qf3 Qf3 Qf3 ?_;rw[show off+a+(c-a)*1=off+c*1 by omega];exact hz
theorem OpOk.sliceHi{o:Oper}{h:Heap}{F:Operand->PV}{R:PV->Heap->Prop}{t e te:TypeId}{x hi:Operand}{r off len a:Nat}{cs:List PV}
  (ho:o.op= .slice t x none (some hi) none) (hx:F x= .ms r off 1 len) (hb:h[r]? =some (.var te cs)) (ht:wX P t=some e) (hs:xL P e=some 1)
  (hlo:F hi= .sc (.int .i64 a)) (ha:a<=len) (h0:0<len) (hr:R (.ms r off 1 a) h):OpOk P G rd o h F R:=by
 refine .of_run Qgt fun φ w X ρ hS hG hv=> ?_;have h1:=hv x Qh7;have h2:=hv hi Qh7;rw[hx] at h1;rw[hlo] at h2;have hl:ρ hi= .int .i64 a:=by generalize ρ hi=u at h2;cases h2;rfl
 generalize hu:ρ x=u at h1;cases h1 with
 |oms hb'=>rw[hb] at hb';cases hb'
 | ms hp hb' hle hc hm hz=>
  rename_i c b t' cs';rw[hb] at hb';cases hb';have hca: ¬c=0:=Qf3;refine⟨φ,h,w,.ms r off 1 a,.slice (some ⟨b,off,none⟩) a c,?_,Ext.refl _,hS,?_,hr⟩
  ·unfold execOp;rw[ho];have e1':(Instr.sliceBounds true len c none (some (.int .i64 ↑a)) none).run P w= .ok (0,a,c) w:=by simp[Instr.sliceBounds,vS (show a<=c by omega)]
   simp[Instr.sliceAt,Instr.slice,hu,hl,Xc (tS ht),e1',zV hs,hca,Addr.add]
  ·exact .ms hp hb Qf3 Qf3 hm hz
end
end Go.AL
namespace Go.AL
open Go.RowKit
def ClF(n:Nat)(p:PV)(F0:Nat):Prop:= ∀(H:Heap)(F:Nat),F0<=F->fz n H F p=p
theorem zt2{α:Type}{Q:α->Nat->Prop}(mono: ∀a m m',m<=m'->Q a m->Q a m'): ∀{l:List α},(∀a∈l, ∃m,Q a m)-> ∃m, ∀a∈l,Q a m
 | [],_=>⟨0,Qf4⟩
 |a::l,h=>by
  obtain⟨m1,h1⟩:=h a (Qe ..);obtain⟨m2,h2⟩:=zt2 mono fun b hb=>h b (Qf _ hb);refine⟨max m1 m2,fun b hb=> ?_⟩;rcases Qw.1 hb with rfl|hb
  ·exact mono _ _ _ (Nat.le_max_left ..) h1
  ·exact mono _ _ _ (Nat.le_max_right ..) (h2 b hb)
theorem zt0{n:Nat}(p:PV)(m m':Nat)(h:m<=m')(k:ClF n p m):ClF n p m':=fun H F hF=>k H F (Ya h hF)
theorem zf9{n:Nat}{cs:List PV}{m:Nat}(h: ∀p∈cs,ClF n p m){H:Heap}{F:Nat}(hF:m<=F):cs.map (fz n H F)=cs:=by
 conv=>rhs;rw[<-Kl cs]
 exact Yq fun p hp=>h p hp H F hF
theorem zgO{n:Nat}{cs:List PV}(h: ∀p∈cs, ∃m,ClF n p m): ∃m, ∀p∈cs,ClF n p m:=zt2 zt0 h
theorem zy1{n:Nat}{els:List (List PV)}(h: ∀e∈els, ∀p∈e, ∃m,ClF n p m): ∃m, ∀e∈els, ∀p∈e,ClF n p m:=
 zt2 (Q:=fun (e:List PV) m=> ∀p∈e,ClF n p m) (fun e m m' hm k p hp=>zt0 p m m' hm (k p hp)) fun e he=>zgO (h e he)
theorem zyQ{n:Nat}{els:List (List PV)}{m:Nat}(h: ∀e∈els, ∀p∈e,ClF n p m){H:Heap}{F:Nat}(hF:m<=F):els.map (fun e=>e.map (fz n H F))=els:=by
 conv=>rhs;rw[<-Kl els]
 exact Yq fun e he=>zf9 (h e he) hF
theorem pP{n:Nat}{p:PV}{m:Nat}(h: ∀(H:Heap)(F:Nat),m<=F->fz n H (F+1) p=p):ClF n p (m+1):=fun H F hF=>by
 obtain⟨F',rfl⟩: ∃F',F=F'+1:=⟨F-1,Qf3⟩
 exact h H F' Qf3
theorem zvC{S:St}{p:PV}{v:Value}(h:VRel S p v): ∃m,ClF S.h.length p m:=by
 induction h with
 |un=>exact⟨1,pP (m:=0) fun H F _=>rfl⟩
 |ud=>exact⟨1,pP (m:=0) fun H F _=>rfl⟩
 |sc=>exact⟨1,pP (m:=0) fun H F _=>rfl⟩
 |nil=>exact⟨1,pP (m:=0) fun H F _=>rfl⟩
 | agg hl h1 h ih=>
  exact Qbc
 | tup hl h ih=>
  exact Qbc
 | ts hl hc hm hk ad ha val hv h ih=>
  rename_i k n c els a;obtain⟨m,hm⟩:=zy1 (n:=S.h.length) (els:=els) fun e he p hp=>by
   obtain⟨i,hi,rfl⟩:=Qy he;obtain⟨j,hj,rfl⟩:=Qy hp;exact ih i _ j _ (Qa hi) (Qa hj)
  exact⟨m+1,pP fun H F hF=>by simp only[fz];rw[zyQ hm hF]⟩
 |tc ht ih=>
  obtain⟨m,hm⟩:=ih;refine⟨m+1,pP fun H F hF=> ?_⟩;have:=hm H (F+1) Qf3;simp only[fz,PV.ts.injEq,true_and] at this;simp only[fz];rw[this]
 | vec ht hb hle ho ih=>
  obtain⟨m,hm⟩:=ih;refine⟨m+1,pP fun H F hF=> ?_⟩;rename_i r k n e els v;have hr:r<S.h.length:=(gsi hb).1;have:els.map (fun e=>e.map (fz S.h.length H F))=els:=by
   have h1:=hm H (F+1) Qf3;unfold fz at h1;simpa using h1
  simp only[fz,Qj hr];rw[this]
 |ms hp hb=>exact⟨1,pP (m:=0) fun H F _=>by simp only[fz,Qj (gsi hb).1]⟩
 |oms hb=>exact⟨1,pP (m:=0) fun H F _=>by simp only[fz,Qj (gsi hb).1]⟩
 |ptr hp hb=>exact⟨1,pP (m:=0) fun H F _=>by simp only[fz,Qj (gsi hb).1]⟩
 |optr hb=>exact⟨1,pP (m:=0) fun H F _=>by simp only[fz,Qj (gsi hb).1]⟩
 | tp val hv h ih=>
  rename_i cs a;obtain⟨m,hm⟩:=zgO (n:=S.h.length) (cs:=cs) fun p hp=>by
   obtain⟨i,hi,rfl⟩:=Qy hp;exact ih i _ (Qa hi)
  exact⟨m+1,pP fun H F hF=>by simp only[fz];rw[zf9 hm hF]⟩
 | fn hl hl' h h' ih ih'=>
  rename_i f ps qs us vs;obtain⟨m,hm⟩:=zgO (n:=S.h.length) (cs:=ps) fun p hp=>by
   obtain⟨i,hi,rfl⟩:=Qy hp;exact ih i _ us[i] (Qa hi) (Qx Qf3)
  obtain⟨m',hm'⟩:=zgO (n:=S.h.length) (cs:=qs) fun p hp=>by
   obtain⟨i,hi,rfl⟩:=Qy hp;exact ih' i _ vs[i] (Qa hi) (Qx Qf3)
  exact⟨max m m'+1,pP fun H F hF=>by
   simp only[fz];rw[zf9 hm (Ya (Nat.le_max_left ..) hF),zf9 hm' (Ya (Nat.le_max_right ..) hF)]⟩
 |ifc h ih=>
  obtain⟨m,hm⟩:=ih;exact⟨m+1,pP fun H F hF=>by simp only[fz];rw[hm H F hF]⟩
 |mp hp hb=>exact⟨1,pP (m:=0) fun H F _=>by simp only[fz,Qj (gsi hb).1]⟩
 |yl hp hb=>exact⟨1,pP (m:=0) fun H F _=>by simp only[fz,Qj (gsi hb).1]⟩
 |it hp hb=>exact⟨1,pP (m:=0) fun H F _=>by simp only[fz,Qj (gsi hb).1]⟩
theorem zz5{S:St}{b:Blk}{v:Value}(h:BRel S b v): ∃m, ∀(H:Heap)(F:Nat),m<=F->zm2 S.h.length H F b=b:=by
 cases b with
 | var t cs=>
  obtain⟨b,arr, -, -,hsz, -,hr⟩:=h;obtain⟨m,hm⟩:=zgO (n:=S.h.length) (cs:=cs) fun p hp=>by
   obtain⟨i,hi,rfl⟩:=Qy hp;exact zvC (hr i _ arr[i] (Qa hi) (Qx Qf3))
  exact⟨m,fun H F hF=>by simp only[zm2];rw[zf9 hm hF]⟩
 |vec=>exact⟨0,fun H F _=>rfl⟩
 | map es=>
  obtain⟨b,clock,entries, -, -,hsz, -,hr⟩:=h;obtain⟨m,hm⟩:=zt2 (Q:=fun (x:Value×PV) m=>ClF S.h.length x.2 m) (fun x m m' hm k=>zt0 x.2 m m' hm k) (l:=es) fun x hx=>by
   obtain⟨i,hi,rfl⟩:=Qy hx;exact zvC (hr i entries[i] _ (Qx Qf3) (Qa hi)).2
  refine⟨m,fun H F hF=> ?_⟩;simp only[zm2];congr 1;conv=>rhs;rw[<-Kl es]
  exact Yq fun x hx=>by rw[hm x hx H F hF];rfl
 | loop ts ps ac bd st pd=>
  obtain⟨b,L, -, -, -, -, -, -, -,hsz,hr⟩:=h;obtain⟨m,hm⟩:=zgO (n:=S.h.length) (cs:=ts) fun p hp=>by
   obtain⟨i,hi,rfl⟩:=Qy hp;exact zvC (hr i _ (Qa hi))
  exact⟨m,fun H F hF=>by simp only[zm2];rw[zf9 hm hF]⟩
 |non=>exact⟨0,fun H F _=>rfl⟩
 |old=>exact⟨0,fun H F _=>rfl⟩
 | iter m k s=>
  obtain⟨b,bm, -, -,hr⟩:=h;refine⟨0,fun H F _=> ?_⟩;simp only[zm2];cases m with
  |none=>rfl
  |some r=>
   obtain⟨es,bk,he, -⟩:=hr r rfl;have:r<S.h.length:=(gsi he).1;simp[this]
 |siter=>exact⟨0,fun H F _=>rfl⟩
theorem zzV{S:St}(hS:SRel S): ∃m, ∀b∈S.h, ∀(H:Heap)(F:Nat),m<=F->zm2 S.h.length H F b=b:=
 zt2 (Q:=fun (b:Blk) m=> ∀(H:Heap)(F:Nat),m<=F->zm2 S.h.length H F b=b) (fun b m m' hm k H F hF=>k H F (Ya hm hF)) fun b hb=>by
  obtain⟨r,hr,rfl⟩:=Qy hb;exact zz5 (hS.blks r _ (S.φ[r]'Qgq) (Qa hr) (Qa _))
theorem ACall.cut3{P:Program}{G:Glob}{f:FuncId}{args:List PV}{h:Heap}{R:PV->Prop}(k:ACall P G f args h fun p h'=>h'.take h.length=h/\R (fz h.length h' 40 p)):ACall P G f args h fun p h'=>R p/\h'=h:=by
 refine⟨k.1,fun φ w X vs a b c d=> ?_⟩;obtain⟨m,hm⟩:=zzV a;refine(k.2 φ w X vs a b c d).mono ?_;rintro e w' ⟨φ',h',p,v,he,x,hs,hv,ht,hr⟩;have x':=zb4 hs x h.length m (Xe _);refine⟨φ'.take h.length,zk3 h.length h' m,fz h.length h' 40 p,v,he,x',zhT hs h.length m,bY hs h.length m 40 hv,hr,?_⟩;unfold zk3;rw[ht];conv=>rhs;rw[<-Kl h]
 exact Yq fun b hb=>hm b hb h' m (Xe _)
end Go.AL
