/-
  Programs: classes of variables: types set, classes joined.
-/
import Derived.Test.YtcffidhiaihbkaaGreatDoorX29
set_option linter.unusedSimpArgs false
set_option linter.unusedVariables false
set_option maxRecDepth 100000
set_option maxHeartbeats 4000000
namespace Go.AL
open Go.Proofs Go.Proofs.Tryz
@[go_sem] def UTyp12f165.pl:Nat→DPlan
 |4=>⟨[yA,yB,yA,yA,yA,yA,yB,yA,yA,yA,yB,yA,yA,yB,yC,yA],xE,0⟩
 |_=>⟨[],[],0⟩
@[go_sem] def UTyp12f166.pl:Nat→DPlan
 |5=>⟨[yA,yA,yB,⟨6,0,[1005]⟩,yA,yA,⟨7,0,[1005]⟩,yC,yA,yA],xS,0⟩
 |6=>⟨[yA,yA,yA,yA,yA,yB,yA,yA,yA,yA,yA,yA,yA,yB,yA,yA,yA,yA,yA,yA,yA,yA,yB,yA,yA,yA,yA,yA,yB,yA,yA],pQ,0⟩
 |8=>⟨[yA,yA,yA,yA,yA,yA,yA,yB,yA,yA,yA,yA,yA,yB,yA,yA,yA,yA,yC],sI,0⟩
 |_=>⟨[],[],0⟩
attribute [-go_sem] only splice
theorem CI.tys {es:NM} {cls:List Nat} {tys tys':List Int} (h:CI es cls tys) (hl:tys'.length=36):CI es cls tys':=⟨h.n,h.le,h.l1,hl,h.f⟩
theorem CI.link {es:NM} {cls:List Nat} {tys:List Int} (h:CI es cls tys) {i j:Nat} (hi:i<es.length) (hj:j<es.length) (ri:cls.getD i 0=i) (rj:cls.getD j 0=j):CI es (cls.set i j) tys:=by
 obtain ⟨h1,h2,h3,h4,rt,d,h5⟩:=h
 have hl:i<cls.length:=by omega
 have gs: ∀ y,(cls.set i j).getD y 0=if y=i then j else cls.getD y 0:=fun y=>by
  rw [List.getD_eq_getElem?_getD,List.getElem?_set,List.getD_eq_getElem?_getD]
  by_cases e:i=y
  ·subst e;simp [hl]
  ·simp [e,Ne.symm e]
 by_cases hij:i=j
 ·subst hij
  refine ⟨h1,h2,by simp [h3],h4,rt,d,fun x hx=> ?_⟩
  have gs2: ∀ y,(cls.set i i).getD y 0=cls.getD y 0:=fun y=>by
   rw [gs];split
   ·rename_i e;subst e;exact ri.symm
   ·rfl
  simp only [gs2]
  exact h5 x hx
 ·refine ⟨h1,h2,by simp [h3],h4,fun x=>if rt x=i then j else rt x,fun x=>if rt x=i then d x+1 else d x,fun x hx=> ?_⟩
  obtain ⟨aa1,aa2,aa3,aa4,aa5,aa6⟩:=h5 x hx
  obtain ⟨i1,i2,i3,i4,i5,i6⟩:=h5 i hi
  obtain ⟨j1,j2,j3,j4,j5,j6⟩:=h5 j hj
  obtain ⟨r1,r2,r3,r4,r5,r6⟩:=h5 (rt x) aa2
  have eri:=i5 ri
  have erj:=j5 rj
  have err:=r5 aa3
  have hji:j≠i:=Ne.symm hij
  simp only [gs]
  by_cases hx0:x=i
  ·subst hx0
   simp only [eri,erj,if_true,hji,if_false]
   refine ⟨hj,hj,rj,by rw [erj] at j4;exact j4,(by intro e;first|exact absurd e hji|cases e),fun _=>⟨trivial,?_⟩⟩
   rw [erj] at j4;omega
  ·simp only [hx0,if_false]
   by_cases hr:rt x=i
   ·simp only [hr,if_true,erj,hji,if_false]
    refine ⟨aa1,hj,rj,by rw [erj] at j4;exact j4,fun e=>absurd ((aa5 e).symm.trans hr) hx0,fun e=> ?_⟩
    obtain ⟨b1,b2⟩:=aa6 e
    rw [←b1,hr]
    simp only [if_true]
    exact ⟨trivial,by omega⟩
   ·simp only [hr,if_false,err]
    refine ⟨aa1,aa2,aa3,aa4,aa5,fun e=> ?_⟩
    obtain ⟨b1,b2⟩:=aa6 e
    rw [←b1]
    simp only [hr,if_false]
    exact ⟨trivial,b2⟩
theorem eZ (h:Heap) (qm qc:Nat) (es:NM) (cls:List Nat) (tys:List Int) (hm:h[qm]? =some (.map es)) (hc:h[qc]? =some (.var 254 (CC qm cls tys))) (hI:CI es cls tys) (t:Tm) (k:Int) (hn:t.var≠eS→Has es t.var):
  ECall prog G0 204 [.ptr qc 0,.agg t.c,i64 k] h fun p h'=> ∃ (b:Bool) (cls':List Nat) (tys':List Int),p=bo b∧Upd qm qc es cls' tys' h h'∧CI es cls' tys':=by
 refine pv func204 41 false (by kernel_rfl) rfl rfl ?_
 refine g2 ?_
 obtain ⟨v,⟨ty,n,sx⟩⟩:=t
 dsimp only at*
 by_cases hv:v=eS
 ·subst hv
  refine gf @zA ?_
  exact ⟨_,cls,tys,rfl,(Upd.refl hm hc).app _,hI⟩
 ·have hU:=(Upd.refl hm hc).app [.var 207 [yQ v,i64 ty,i64 n,yQ sx]]
  refine gf (a2 @zA @hv) ?_
  (refine g1f @zA ?_;refine zC (dM _ qm qc es cls tys hU.m hU.c hI v (.inl (hn hv))) ?_;intro p2 h2 hr2;refine g2 ?_)
  obtain ⟨i,es',cls',rfl,hi,hri,hU2,hlen,hI2,hle,hsame,_,_⟩:=hr2
  obtain ⟨rfl,rfl⟩:=hsame (hn hv)
  have hU3:=hU.trans hU2
  have hqc:qc<h2.length:=(gsi hU2.c).1
  have hi36:i<36:=by have:=hI2.le;omega
  have c1:=zk1 (qm:=qm) hI2.l1 hI2.l2 hi36
  have mM:=rG (qm:=qm) hI2.l1 hI2.l2
  have h37:(37+i<73)=True:=by simp;omega
  have hUc:=hU2.c
  by_cases h0:tys.getD i 0=0
  ·rw [h0] at c1
   have hqs: ∀ c,(h2.set qc c)[qc]? =some c:=fun c=>List.getElem?_set_self hqc
   have c2:=cs_2 (qm:=qm) (v:=k) hI2.l1 hI2.l2 hi36
   have hI3:=hI2.tys (tys':=tys.set i k) (by simp [hI2.l2])
   have c3:=zk1 (qm:=qm) hI3.l1 hI3.l2 hi36
   have c4:(tys.set i k).getD i 0=k:=by simp [hI2.l2,hi36]
   rw [c4] at c3
   have hcl3:=rG (qm:=qm) hI3.l1 hI3.l2
   have e0:((0:Int)==0)=true:=rfl
   refine gf (a9 @hUc @c1 @mM @h37 @hi36 @zB @hqs @c2 (a3 @c3 @hcl3 @e0)) ?_
   have hne:qm≠qc:=fun e=>by have:=hU2.m;rw [e,hU2.c] at this;cases this
   exact ⟨_,_,_,rfl,⟨by rw [List.getElem?_set_ne (Ne.symm hne)];exact hU3.m,hqs _,fun r b h1 h2 h3=>by rw [List.getElem?_set_ne (Ne.symm h2)];exact hU3.k r b h1 h2 h3⟩,hI3⟩
  ·have e0:(tys.getD i 0==0)=false:=by simpa using h0
   refine gf (a7 @hUc @c1 @mM @h37 @hi36 @zB @e0) ?_
   exact ⟨_,_,_,rfl,hU3,hI2⟩
theorem Upd.get {qm qc:Nat} {es es':NM} {cls cls':List Nat} {tys tys':List Int} {h h':Heap} (u:Upd qm qc es' cls' tys' h h') (hm:h[qm]? =some (.map es)) (hc:h[qc]? =some (.var 254 (CC qm cls tys))) {r:Nat} {b:Blk} (hr:h[r]? =some b) (h1: ∀ es,b≠ .map es) (h2: ∀ cs,b≠ .var 254 cs):h'[r]? =some b:=
 u.k r b (fun e=>by subst e;rw [hm] at hr;cases hr;exact h1 _ rfl) (fun e=>by subst e;rw [hc] at hr;cases hr;exact h2 _ rfl) hr
open UTyp12f166 in
theorem zbF (h:Heap) (qm qc:Nat) (es:NM) (cls:List Nat) (tys:List Int) (hm:h[qm]? =some (.map es)) (hc:h[qc]? =some (.var 254 (CC qm cls tys))) (hI:CI es cls tys) (a b:Tm) (ha:a.var≠eS→Has es a.var) (hb:b.var≠eS→Has es b.var):
  ECall prog G0 166 [.ptr qc 0,.agg a.c,.agg b.c] h fun p h'=> ∃ (r:Bool) (cls':List Nat) (tys':List Int),p=bo r∧Upd qm qc es cls' tys' h h'∧CI es cls' tys':=by
 refine pv func166 92 false (by kernel_rfl) rfl rfl ?_
 refine g2 ?_
 obtain ⟨va,⟨ta,na,sa⟩⟩:=a
 obtain ⟨vb,⟨tb,nb,sb⟩⟩:=b
 dsimp only at*
 have hU:=(Upd.refl hm hc).app [.var 207 [yQ va,i64 ta,i64 na,yQ sa],.var 207 [yQ vb,i64 tb,i64 nb,yQ sb]]
 have ha0:(h++[.var 207 [yQ va,i64 ta,i64 na,yQ sa],.var 207 [yQ vb,i64 tb,i64 nb,yQ sb]])[h.length]? =some (.var 207 [yQ va,i64 ta,i64 na,yQ sa]):=by rw [xY];rfl
 have hb0:(h++[.var 207 [yQ va,i64 ta,i64 na,yQ sa],.var 207 [yQ vb,i64 tb,i64 nb,yQ sb]])[h.length+1]? =some (.var 207 [yQ vb,i64 tb,i64 nb,yQ sb]):=by rw [xN];rfl
 by_cases hva:va=eS
 ·subst hva
  refine gf (a2 @ha0 @hb0) ?_
  (refine g1f (a2 @ha0 @hb0) ?_;refine zC (eZ _ qm qc es cls tys hU.m hU.c hI ⟨vb,tb,nb,sb⟩ ta hb) ?_;intro p2 h2 hr2;refine g2 ?_)
  obtain ⟨r,cls2,tys2,rfl,hU2,hI2⟩:=hr2
  refine ge ?_
  exact ⟨r,cls2,tys2,rfl,hU.trans hU2,hI2⟩
 ·by_cases hvb:vb=eS
  ·subst hvb
   refine gf (a3 @ha0 @hb0 @hva) ?_
   (refine g1f (a2 @ha0 @hb0) ?_;refine zC (eZ _ qm qc es cls tys hU.m hU.c hI ⟨va,ta,na,sa⟩ tb ha) ?_;intro p2 h2 hr2;refine g2 ?_)
   obtain ⟨r,cls2,tys2,rfl,hU2,hI2⟩:=hr2
   refine ge ?_
   exact ⟨r,cls2,tys2,rfl,hU.trans hU2,hI2⟩
  ·refine gf (a4 @ha0 @hb0 @hva @hvb) ?_
   have hl1:(h.length+1<h.length+1+1)=True:=by simp
   (refine zF rfl rfl rfl ?_;intro sr hsr;simp only [go_sem,ha0,hb0] at hsr;subst hsr;refine xR rfl rfl (dM _ qm qc es cls tys hU.m hU.c hI va (.inl (ha hva))) (by
    rintro _ h' ⟨i,es',cls',_,_,_,hU2,_⟩ k hk _
    have hk:k∈[1005]:=hk
    simp only [List.mem_singleton] at hk
    subst hk
    simp only [nu,List.getD_cons_succ,List.getD_cons_zero,Nat.reduceLT,Nat.reduceSub,if_false,List.length_append,List.length_cons,List.length_nil,Nat.zero_add,Nat.reduceAdd,Nat.lt_add_one,if_true]
    (try rw [if_pos (by omega)])
    rw [hb0,hU2.get hU.m hU.c hb0 (by simp) (by simp)]) ?_;intro p2 h2 hr2 ts2 hts;simp only [go_sem] at hts;subst hts)
   obtain ⟨i,es',cls',rfl,hi,hri,hU2,hlen,hI2,hle,hsame,_,_⟩:=hr2
   obtain ⟨rfl,rfl⟩:=hsame (ha hva)
   have hb2:=hU2.get hU.m hU.c hb0 (by simp) (by simp)
   have hl2:(h.length+1<h.length+2)=True:=by simp
   refine gf (a3 @hb2 @hl1 @hl2) ?_
   (refine zF rfl rfl rfl ?_;intro zs zh;simp only [go_sem,hb2,hl1,hl2] at zh;subst zh;refine zP (by decide) (by decide) (dM _ qm qc es' cls' tys hU2.m hU2.c hI2 vb (.inl (hb hvb))) ?_;intro p2 h2 hr2 ts2 hts;simp only [go_sem] at hts;subst hts)
   obtain ⟨j,es3,cls3,rfl,hj,hrj,hU3,hlen3,hI3,hle3,hsame3,_,_⟩:=hr2
   obtain ⟨rfl,rfl⟩:=hsame3 (hb hvb)
   have hU4:=(hU.trans hU2).trans hU3
   have hUc:=hU3.c
   have hqc:qc<h2.length:=(gsi hUc).1
   have hi36:i<36:=by have:=hI3.le;omega
   have hj36:j<36:=by have:=hI3.le;omega
   have c1:=zk1 (qm:=qm) hI3.l1 hI3.l2 hi36
   have c2:=zk1 (qm:=qm) hI3.l1 hI3.l2 hj36
   have mM:=rG (qm:=qm) hI3.l1 hI3.l2
   have h37:(37+i<73)=True:=by simp;omega
   have h38:(37+j<73)=True:=by simp;omega
   have hne:qm≠qc:=fun e=>by have:=hU4.m;rw [e,hUc] at this;cases this
   have hqs: ∀ c,(h2.set qc c)[qc]? =some c:=fun c=>List.getElem?_set_self hqc
   have c3: ∀ v:Int,splice (CC qm cls3 tys) (37+j) [i64 v]=CC qm cls3 (tys.set j v):=fun v=>cs_2 hI3.l1 hI3.l2 hj36
   have l3: ∀ v:Int,(tys.set j v).length=36:=fun v=>by simp [hI3.l2]
   have c4: ∀ v:Int,splice (CC qm cls3 (tys.set j v)) (1+i) [i64 j]=CC qm (cls3.set i j) (tys.set j v):=fun v=>cs_1 hI3.l1 (l3 v) hi36
   have l4: ∀ v:Int,(CC qm cls3 (tys.set j v)).length=73:=fun v=>rG hI3.l1 (l3 v)
   have fin: ∀ v:Int, ∃ (r:Bool) (cls':List Nat) (tys':List Int),bo true=bo r∧Upd qm qc es3 cls' tys' h (h2.set qc (.var 254 (CC qm (cls3.set i j) (tys.set j v))))∧CI es3 cls' tys':=fun v=>
    ⟨true,_,_,rfl,⟨by rw [List.getElem?_set_ne (Ne.symm hne)];exact hU4.m,hqs _,fun r b h1 h2 h3=>by rw [List.getElem?_set_ne (Ne.symm h2)];exact hU4.k r b h1 h2 h3⟩,(hI3.link hi hj hri hrj).tys (l3 v)⟩
   generalize tys.getD i 0=ti at*
   generalize tys.getD j 0=tj at*
   by_cases e1:ti=0
   ·subst e1
    have f1:((0:Int)!=0)=false:=rfl
    (repeat (first|refine gz ?_|(refine gn ?_;intro zs zh;(try simp only [go_sem,hUc,c1,c2,mM,h37,h38,hi36,hj36,zB,f1,c3,c4,l4,hqs,List.set_set] at zh);subst zh;refine gv ?_)|refine yD UTyp12f166.pl ?_))
    exact fin _
   ·have f1:(ti !=0)=true:=by simpa using e1
    by_cases e2:tj=0
    ·subst e2
     have f2:((0:Int)!=0)=false:=rfl
     (repeat (first|refine gz ?_|(refine gn ?_;intro zs zh;(try simp only [go_sem,hUc,c1,c2,mM,h37,h38,hi36,hj36,zB,f1,f2,c3,c4,l4,hqs,List.set_set] at zh);subst zh;refine gv ?_)|refine yD UTyp12f166.pl ?_))
     exact fin _
    ·have f2:(tj !=0)=true:=by simpa using e2
     by_cases e3:ti=tj
     ·have f3:(ti !=tj)=false:=by simp [e3]
      (repeat (first|refine gz ?_|(refine gn ?_;intro zs zh;(try simp only [go_sem,hUc,c1,c2,mM,h37,h38,hi36,hj36,zB,f1,f2,f3,c3,c4,l4,hqs,List.set_set] at zh);subst zh;refine gv ?_)|refine yD UTyp12f166.pl ?_))
      exact fin _
     ·have f3:(ti !=tj)=true:=by simp [e3]
      (repeat (first|refine gz ?_|(refine gn ?_;intro zs zh;(try simp only [go_sem,hUc,c1,c2,mM,h37,h38,hi36,hj36,zB,f1,f2,f3,c3,c4,l4,hqs,List.set_set] at zh);subst zh;refine gv ?_)|refine yD UTyp12f166.pl ?_))
      exact ⟨false,cls3,tys,rfl,hU4,hI3⟩
attribute [go_sem] splice
theorem zhF (h:Heap) (qm qc qv:Nat) (es:NM) (cls:List Nat) (tys:List Int) (hm:h[qm]? =some (.map es)) (hc:h[qc]? =some (.var 254 (CC qm cls tys))) (hv:h[qv]? =some (.var 251 [.ptr qc 0])) (hI:CI es cls tys) (l:List Tm) (hl:es.length+l.length≤36):
  ECall prog G0 163 [mI l,.ptr qv 0] h fun _ h'=> ∃ (es':NM) (cls':List Nat),Upd qm qc es' cls' tys h h'∧CI es' cls' tys∧es'.length≤es.length+l.length∧(∀ s,Has es s→Has es' s)∧ ∀ t∈l,t.var≠eS→Has es' t.var:=by
 refine pv func163 19 false (by kernel_rfl) rfl rfl ?_
 refine g2 ?_
 refine ge ?_
 refine zO l.length (K4 (.d:: .k:: .k:: .v::D9 (.d:: .d::[]))) (own:=false) (fun i (s:NM×List Nat×Heap)=>[i64 i]) (fun s=>s.2.2) (fun i s=>Upd qm qc s.1 s.2.1 tys h s.2.2∧CI s.1 s.2.1 tys∧s.1.length≤es.length+i∧(∀ x,Has es x→Has s.1 x)∧ ∀ t∈l.take i,t.var≠eS→Has s.1 t.var) (es,cls,h) rfl rfl ⟨Upd.refl hm hc,hI,Nat.le_refl _,fun _ h=>h,by simp⟩ (by omega) ?_ ?_
 ·rintro ⟨es',cls',h'⟩ ⟨aa1,aa2,aa3,aa4,aa5⟩ t ht
  dsimp only at*
  simp only [zY] at ht;subst ht
  refine gf @zM ?_
  exact ⟨es',cls',aa1,aa2,aa3,aa4,by rw [List.take_length] at aa5;exact aa5⟩
 ·rintro i ⟨es',cls',h'⟩ hi hw ⟨aa1,aa2,aa3,aa4,aa5⟩ t ht
  dsimp only at*
  simp only [zY] at ht;subst ht
  have hx:=zG (f:=Tm.c) [] hi
  have htk:=List.take_succ_eq_append_getElem hi
  generalize l[i]=x at*
  have hv':=aa1.get hm hc hv (by simp) (by simp)
  have hqv:qv<h'.length:=(gsi hv').1
  have hqa: ∀ b,(h'++[b])[qv]? =some (.var 251 [.ptr qc 0]):=fun b=>by rw [List.getElem?_append_left hqv];exact hv'
  by_cases hs:x.var=eS
  ·obtain ⟨v,k⟩:=x
   dsimp only at hs
   subst hs
   refine gf (a6 @hi @hx @zB @hw @zA @zD) ?_
   refine ⟨(es',cls',_),⟨aa1.app _,aa2,by dsimp only;omega,aa4,fun t ht hne=> ?_⟩,rfl,rfl,rfl⟩
   rw [htk] at ht
   rcases List.mem_append.1 ht with ht|ht
   ·exact aa5 t ht hne
   ·rw [List.mem_singleton] at ht;subst ht;exact absurd rfl hne
  ·have hU:=aa1.app [.var 207 x.c]
   refine gf (a8 @hi @hx @zB @hw @zA @zD @hs @hqa) ?_
   (refine g1f (a6 @hi @hx @zB @hw @zA @hqa) ?_;refine zC (dM _ qm qc es' cls' tys hU.m hU.c aa2 x.var (.inr (by omega))) ?_;intro p2 h2 hr2;refine g2 ?_)
   obtain ⟨i',es2,cls2,rfl,hi2,hri,hU2,hlen,hI2,hle,hsame,hhas,hself⟩:=hr2
   refine gf (a4 @hi @hx @zB @hw) ?_
   refine ⟨(es2,cls2,_),⟨hU.trans hU2,hI2,by dsimp only;omega,fun s hs=>hhas s (aa4 s hs),fun t ht hne=> ?_⟩,rfl,rfl,rfl⟩
   rw [htk] at ht
   rcases List.mem_append.1 ht with ht|ht
   ·exact hhas _ (aa5 t ht hne)
   ·rw [List.mem_singleton] at ht;subst ht;exact hself
open UTyp12f165 in
theorem nS (h:Heap) (qm qc qp:Nat) (es:NM) (cls:List Nat) (tys:List Int) (hm:h[qm]? =some (.map es)) (hc:h[qc]? =some (.var 254 (CC qm cls tys))) (hI:CI es cls tys) (ps:List Pd) (L F R:PV) (m1 m2 m3:PV) (Rep:PV)
  (hs:h[6]? =some (.var 154 [L,F,.vec qp 7 (ps.map Pd.c),R,m1,m2,m3,Rep])) (j:Nat) (hj:j<ps.length) (l:List Tm) (hll:l.length≤4) (hl:l.length≤ps[j].types.length) (hn: ∀ t∈l,t.var≠eS→Has es t.var):
  ECall prog G0 165 [.ptr 6 0,.ptr qc 0,i64 j,mI l] h fun p h'=> ∃ (b:Bool) (cls':List Nat) (tys':List Int),p=bo b∧Upd qm qc es cls' tys' h h'∧CI es cls' tys':=by
 refine pv func165 35 false (by kernel_rfl) rfl rfl ?_
 refine g2 ?_
 refine ge ?_
 refine zO l.length (K4 (K4 (.d:: .d:: .d:: .k:: .k:: .v::D9 (D9 (.d:: .d:: .d::[]))))) (own:=false) (fun i (s:List Nat×List Int×Heap)=>[i64 i]) (fun s=>s.2.2) (fun i s=>Upd qm qc es s.1 s.2.1 h s.2.2∧CI es s.1 s.2.1) (cls,tys,h) rfl rfl ⟨Upd.refl hm hc,hI⟩ (by omega) ?_ ?_
 ·rintro ⟨cls',tys',h'⟩ ⟨aa1,aa2⟩ t ht
  dsimp only at*
  simp only [zY] at ht;subst ht
  refine gf @zM ?_
  exact ⟨true,cls',tys',rfl,aa1,aa2⟩
 ·rintro i ⟨cls',tys',h'⟩ hi hw ⟨aa1,aa2⟩ t ht
  dsimp only at*
  simp only [zY] at ht;subst ht
  have hx:=zG (f:=Tm.c) [] hi
  have hxm:=hn _ (List.getElem_mem hi)
  generalize l[i]=x at*
  have hs':=aa1.get hm hc hs (by simp) (by simp)
  have hs6:6<h'.length:=(gsi hs').1
  have hsa: ∀ b,(h'++[b])[6]? =some (.var 154 [L,F,.vec qp 7 (ps.map Pd.c),R,m1,m2,m3,Rep]):=fun b=>by rw [List.getElem?_append_left hs6];exact hs'
  have hU:=aa1.app [.var 207 x.c]
  have hy:=zG (f:=Pd.c) [] hj
  generalize ps[j]=y at*
  have hit:i<y.types.length:=by omega
  have hty:=zG (f:=fun n:Int=>[i64 n]) [] hit
  refine gf (a9 @hi @hx @zB @hw @zA @zD @hsa @hj (a3 @hy @hit @hty)) ?_
  (refine zF rfl rfl rfl ?_;intro zs zh;simp only [go_sem,hi,hx,zB,hw,zA,zD,hsa,hj,hy,hit,hty] at zh;subst zh;refine zP (by decide) (by decide) (eZ _ qm qc es cls' tys' hU.m hU.c aa2 x y.types[i] hxm) ?_;intro p2 h2 hr2 ts2 hts;simp only [go_sem] at hts;subst hts)
  obtain ⟨b,cls2,tys2,rfl,hU2,hI2⟩:=hr2
  cases b with
  |true=>
   refine gf (a3 @hi @zB @hw) ?_
   exact ⟨(cls2,tys2,_),⟨hU.trans hU2,hI2⟩,rfl,rfl,rfl⟩
  |false=>
   refine gf (a3 @hi @zB @hw) ?_
   exact ⟨false,cls2,tys2,rfl,hU.trans hU2,hI2⟩
end Go.AL
