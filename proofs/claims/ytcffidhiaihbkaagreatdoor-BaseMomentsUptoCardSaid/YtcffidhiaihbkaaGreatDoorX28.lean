/-
  Programs: the scope.
-/
import Derived.Test.YtcffidhiaihbkaaGreatDoorX27
set_option linter.unusedSimpArgs false
set_option linter.unusedVariables false
set_option maxRecDepth 100000
set_option maxHeartbeats 4000000
namespace Go.AL
open Go.Proofs Go.Proofs.Tryz
@[go_sem] def UTyp8f75.pl:Nat→DPlan
 |6=>⟨[yA,yA,yA,yA,⟨7,0,[1003]⟩,yA,⟨7,0,[1006]⟩,yA,yB,⟨6,0,[1003,1006,1006]⟩,⟨6,0,[1006]⟩,yA,⟨7,0,[1006]⟩,yC],wS,0⟩
 |7=>⟨[yA,yB,⟨6,0,[1006]⟩,yA,⟨7,0,[1006]⟩,yC,yA,yC,yA,yC],xS,0⟩
 |8=>⟨[yA,yA,yA,yA,yA,yB,yB,yA,yC,yA,yA,yA,yC],yN,0⟩
 |13=>⟨[yA,yA,yA,yB,yA,yB,yC,yA,yC,yA,yC],vJ,0⟩
 |14=>⟨[yA,yB,⟨6,0,[1008]⟩,yA,⟨7,0,[1008]⟩,yC,yA,yC,yA,yC],xS,0⟩
 |17=>⟨[yA,yB,yA,yB,yA,yB,yB,yC,yA,yA,yA,yA,yC,yA],wS,0⟩
 |18=>⟨[yA,yA,yA,yA,yB,yA,yB,yA,yA,⟨6,0,[1008]⟩,yA,⟨7,0,[1008]⟩,yC],yN,0⟩
 |19=>⟨[yA,yA,yA,yA,yA,yB,yB,yA,yC,yA,yA,yA,yC],yN,0⟩
 |27=>⟨[yA,yA,yA,yB,yA,yB,yC,yA,yC],uW,0⟩
 |30=>⟨[yA,yA,yA,yA,yB,yA,yB,yA,yA,⟨6,0,[1011]⟩,yA,⟨7,0,[1011]⟩,yC],yN,0⟩
 |31=>⟨[yA,yA,yA,yA,yA,yB,yB,yA,yC,yA,yA,yA,yC],yN,0⟩
 |_=>⟨[],[],0⟩
theorem zlT {r:Option Nat}:(Value.map r).oneCell'=true:=rfl
attribute [go_sem] zlT oA Nat.lt_add_one
attribute [-go_sem] only
theorem uO (h:Heap) (r:Nat) (es:NM) (n:Nat) (s:BA) (i:Nat) (e:Int) (hr:h[r]? =some (.map es)) (hes:NMap es n) (hi:i<n):ECall prog G0 113 [.mp r,yQ s,i64 i,i64 e] h fun p h'=> ∃ (e':Int) (es':NM),p=i64 e'∧h'=h.set r (.map es')∧NMap es' n∧(e'=0→e=0):=by
 refine (aS h r es n s i e hr hes).mono ?_
 rintro p h' ⟨e',rfl,rfl|rfl,hez⟩
 ·refine ⟨e',es,rfl,?_,hes,hez⟩
  obtain ⟨hlt,he⟩:=gsi hr
  rw [←he,List.set_getElem_self]
 ·exact ⟨e',_,rfl,rfl,hes.set hi,hez⟩
def bU (rp:List (Int×Int)) (e at':Int):List (Int×Int):=if e=0 then rp else rp++[(e,at')]
theorem vB (rp:List (Int×Int)) (e at':Int):(bU rp e at').length≤rp.length+1:=by unfold bU;split<;>simp
theorem zaO (rp:List (Int×Int)) (e at':Int):rp.length≤(bU rp e at').length:=by unfold bU;split<;>simp
theorem wQ {rp:List (Int×Int)} {e at':Int} (h:bU rp e at'=[]):rp=[]∧e=0:=by
 unfold bU at h
 split at h
 ·exact ⟨h,by assumption⟩
 ·simp at h
abbrev RLi (lats:List La) (i:Nat) (rp:List (Int×Int)):Prop:=rp.length≤i∧(rp=[]→ ∀ (j:Nat) (h:j<lats.length),j<i→uE lats[j]=0)
abbrev RLn (lats:List La) (n:Nat) (rp:List (Int×Int)):Prop:=rp.length≤n∧(rp=[]→ ∀ x∈lats,uE x=0)
theorem wZ (b0 b1:Blk) (pc:List PV) (ml mf mp:NM) (L F P R Rep:PV) (J:Heap) (rp:List (Int×Int)) (hrp:rp.length≤1048576) (hG:GrowN 7 149 (iV rp) 2 J Rep) (e at':Int):
  ECall prog G0 112 [.ptr 6 0,i64 e,i64 at'] (SH b0 b1 pc ml mf mp L F P R Rep J) fun _ h'=> ∃ Rep' J',h'=SH b0 b1 pc ml mf mp L F P R Rep' J'∧GrowN 7 149 (iV (bU rp e at')) 2 J' Rep'∧Keep J J':=by
 refine (zdD b0 b1 pc ml mf mp L F P R Rep J rp hrp hG e at').mono ?_
 rintro _ h' (⟨rfl,rfl⟩|⟨he,Rep',J',rfl,h1,h2⟩)
 ·exact ⟨Rep,J,rfl,hG,Keep.refl _⟩
 ·refine ⟨Rep',J',rfl,?_,h2⟩
  unfold bU;rw [if_neg he];exact h1
theorem GrowN.set2 {off:Nat} {t:TypeId} {els:List (List PV)} {k:Nat} {J:Heap} {V:PV} (h:GrowN off t els k J V) {q:Nat} {b:Blk} (hq:J[q]? =some b) (hb: ∀ k n,b≠ .vec t k n) (c:Blk):GrowN off t els k (J.set q c) V:=by
 rcases h with h|⟨q',h1,hq'⟩
 ·exact .inl h
 ·refine .inr ⟨q',h1,?_⟩
  have:q≠q':=fun e=>by subst e;rw [hq] at hq';cases hq';exact hb _ _ rfl
  rw [List.getElem?_set_ne this];exact hq'
structure NSI (p:Pg) (i:Nat) (ml:NM) (J:Heap) (L Rep:PV) (rp:List (Int×Int)):Prop where
 m:NMap ml i
 l:GrowN 7 73 ((p.lats.take i).map La.c) 4 J L
 r:GrowN 7 149 (iV rp) 2 J Rep
 rl:RLi p.lats i rp
@[reducible] def Fu.c2 (x:Fu×PV):List PV:=[yQ x.1.name,yQ x.1.lat,i64 x.1.of',rR x.1.fr,rR x.1.to,x.2,i64 x.1.at']
structure NSF (p:Pg) (i:Nat) (mf:NM) (J:Heap) (L F Rep:PV) (rp:List (Int×Int)) (fs:List (Fu×PV)):Prop where
 m:NMap mf i
 l:GrowN 7 73 (p.lats.map La.c) 4 J L
 f:GrowN 7 109 (fs.map Fu.c2) 7 J F
 r:GrowN 7 149 (iV rp) 2 J Rep
 rl:RLn p.lats (p.lats.length+i) rp
 fl:fs.length=i
 fb: ∀ x∈fs,x.2= .nil∨x.2=vF x.1.table
def PzL (preds ps:List Pd):Prop:= ∀ (j:Nat) (h:j<ps.length) (h':j<preds.length),preds[j].lat=eS→ps[j].of'= -1
theorem PzL.app {preds ps:List Pd} {i:Nat} {x y:Pd} (h:PzL preds ps) (hl:ps.length=i) (hi:i<preds.length) (hx:preds[i]=x) (hy:x.lat=eS→y.of'= -1):PzL preds (ps++[y]):=fun j h1 h2 e=>by
 rw [List.length_append] at h1
 rcases Nat.lt_or_ge j ps.length with q|q
 ·rw [List.getElem_append_left q];exact h j q h2 e
 ·have:j=i:=by simp at h1;omega
  subst this
  rw [List.getElem_append_right q]
  simp only [List.getElem_singleton]
  exact hy (by rw [←hx];exact e)
structure NSP (p:Pg) (i:Nat) (mp:NM) (J:Heap) (L F P Rep:PV) (rp:List (Int×Int)) (fs:List (Fu×PV)) (ps:List Pd):Prop where
 m:NMap mp i
 l:GrowN 7 73 (p.lats.map La.c) 4 J L
 f:GrowN 7 109 (fs.map Fu.c2) 7 J F
 pp:GrowN 7 59 (ps.map Pd.c) 7 J P
 r:GrowN 7 149 (iV rp) 2 J Rep
 rl:RLn p.lats (p.lats.length+p.funs.length+i) rp
 pl:ps.length=i
 pb: ∀ x∈ps, -1≤x.of'∧x.of'<p.lats.length∧x.types.length≤4
 pz:PzL p.preds ps
def NSK (b0 b1:Blk) (p:Pg) (q:PV) (h':Heap):Prop:= ∃ (ml mf mp:NM) (L F P Rep:PV) (J:Heap) (rp:List (Int×Int)) (fs:List (Fu×PV)) (ps:List Pd),q= .ptr 6 0∧h'=SH b0 b1 p.c ml mf mp L F P .nil Rep J∧
 NMap ml p.lats.length∧NMap mf fs.length∧NMap mp ps.length∧GrowN 7 73 (p.lats.map La.c) 4 J L∧GrowN 7 109 (fs.map Fu.c2) 7 J F∧(∀ x∈fs,x.2= .nil∨x.2=vF x.1.table)∧
 GrowN 7 59 (ps.map Pd.c) 7 J P∧GrowN 7 149 (iV rp) 2 J Rep∧ps.length=p.preds.length∧(∀ x∈ps, -1≤x.of'∧x.of'<p.lats.length∧x.types.length≤4)∧fs.length=p.funs.length∧rp.length≤36∧(rp=[]→ ∀ x∈p.lats,uE x=0)∧PzL p.preds ps
open UTyp8f75 in
theorem dV (b0 b1:Blk) (p:Pg) (hp:p.ok) (hf:p.fm) (hle: ∀ x∈p.lats,x.elems.length≤1048576∧x.covers.length≤1048576):ECall prog G0 75 [.agg p.c] [b0,b1] fun q h'=>NSK b0 b1 p q h':=by
 refine pv func75 183 false (by kernel_rfl) rfl rfl ?_
 refine g2 ?_
 obtain ⟨lats,funs,preds,rules⟩:=p
 obtain ⟨h1,h2,h3,h4,h5,h6,h7,h8⟩:=hp
 obtain ⟨f1,f2,f3,f4,f5,f6,f7⟩:=hf
 dsimp only at*
 refine ge ?_
 refine zO lats.length (K4 (.k:: .d:: .d::K9 (K4 (.k:: .k:: .k:: .v::D9 (D9 (D9 (D9 (.d:: .d:: .d::K9 (K9 (K9 (K9 (K9 (K9 (K9 (K9 (K9 (K9 (K9 (K9 (K9 (.k:: .k:: .k::[]))))))))))))))))))))) (own:=false) (fun i (s:NM×PV×PV×List (Int×Int)×Heap)=>[i64 i]) (fun s=>SH b0 b1 _ s.1 [] [] s.2.1 .nil .nil .nil s.2.2.1 s.2.2.2.2) (fun i s=>NSI ⟨lats,funs,preds,rules⟩ i s.1 s.2.2.2.2 s.2.1 s.2.2.1 s.2.2.2.1) ([],.nil,.nil,[],[]) rfl rfl ⟨by simp [NMap],.inl ⟨rfl,rfl⟩,.inl ⟨rfl,rfl⟩,by simp,fun _ _ _ h=>absurd h (Nat.not_lt_zero _)⟩ (by omega) ?_ ?_
 ·rintro ⟨ml,L,Rep,rp,J⟩ ⟨i1,i2,i3,i4⟩ t ht
  dsimp only at*
  simp only [zY] at ht;subst ht
  refine gf @zM ?_
  have htl:lats.take lats.length=lats:=by simp
  rw [htl] at i2
  refine zO funs.length (K4 (.k:: .k:: .k:: .d:: .d:: .d::K9 (K9 (K9 (K9 (K9 (K9 (.k:: .k:: .v::D9 (D9 (D9 (D9 (D9 (D9 (D4 (D4 (K9 (K9 (K9 (K9 (K9 (K9 ([])))))))))))))))))))))) (own:=false) (fun i (s:NM×PV×PV×List (Int×Int)×Heap×List (Fu×PV))=>[i64 i]) (fun s=>SH b0 b1 _ ml s.1 [] L s.2.1 .nil .nil s.2.2.1 s.2.2.2.2.1) (fun i s=>NSF ⟨lats,funs,preds,rules⟩ i s.1 s.2.2.2.2.1 L s.2.1 s.2.2.1 s.2.2.2.1 s.2.2.2.2.2) ([],.nil,Rep,rp,J,[]) rfl rfl ⟨by simp [NMap],i2,.inl ⟨rfl,rfl⟩,i3,⟨by dsimp only;omega,fun q x hx=>by obtain ⟨j,hj,rfl⟩:=List.getElem_of_mem hx;exact i4.2 q j hj hj⟩,rfl,by simp⟩ (by omega) ?_ ?_
  ·rintro ⟨mf,F,Rep,rp,J,fs⟩ ⟨hmf0,i2,i3,i4,i5,hfl0,hfb0⟩ t ht
   dsimp only at*
   simp only [zY] at ht;subst ht
   refine gf @zM ?_
   refine zO preds.length (K9 (.k:: .d:: .d:: .d::K9 (K9 (K9 (K9 (K9 (K9 (K9 (K9 (K9 (K9 (K9 (K9 (K9 (.k:: .k:: .v::D9 (D9 (D9 (D9 (D9 (D4 (.k::[]))))))))))))))))))))) (own:=false) (fun i (s:NM×PV×PV×List (Int×Int)×Heap×List Pd)=>[i64 i]) (fun s=>SH b0 b1 _ ml mf s.1 L F s.2.1 .nil s.2.2.1 s.2.2.2.2.1) (fun i s=>NSP ⟨lats,funs,preds,rules⟩ i s.1 s.2.2.2.2.1 L F s.2.1 s.2.2.1 s.2.2.2.1 fs s.2.2.2.2.2) ([],.nil,Rep,rp,J,[]) rfl rfl ⟨by simp [NMap],i2,i3,.inl ⟨rfl,rfl⟩,i4,⟨by dsimp only;omega,i5.2⟩,rfl,by simp,fun _ h=>absurd h (Nat.not_lt_zero _)⟩ (by omega) ?_ ?_
   ·rintro ⟨mp,P,Rep,rp,J,ps⟩ ⟨k1,k2,k3,k4,k5,k6,k7,k8,k9⟩ t ht
    dsimp only at*
    simp only [zY] at ht;subst ht
    refine gf @zM ?_
    exact ⟨ml,mf,mp,L,F,P,Rep,J,rp,fs,ps,rfl,rfl,i1,by rw [hfl0];exact hmf0,by rw [k7];exact k1,k2,k3,hfb0,k4,k5,k7,k8,hfl0,by omega,k6.2,k9⟩
   ·rintro i ⟨mp,P,Rep,rp,J,ps⟩ hi hw ⟨j1,j2,j3,jp,j4,j5,j6,j7,j8⟩ t ht
    dsimp only at*
    simp only [zY] at ht;subst ht
    have hx:=zG (f:=Pd.c) [] hi
    obtain ⟨x,hxe⟩: ∃ x,preds[i]=x:=⟨_,rfl⟩
    have hxo:x.ok:=hxe▸h6 _ (List.getElem_mem hi)
    have hxf:x.fm:=hxe▸f5 _ (List.getElem_mem hi)
    have hxl:=hxf.2.2
    rw [hxe] at hx
    have h68:(6<J.length+1+1+1+1+1+1+1+1)=True:=by simp
    refine gf (a7 @hi @hx @zB @hw @zA @zD @h68) ?_
    (refine g1f (a7 @hi @hx @zB @hw @zA @zD @h68) ?_;refine zC ((zd7 x.types (by omega) (all_map fun _=>rfl)).call zK (by simp) _) ?_;intro p2 h2 hr2;refine g2 ?_)
    obtain ⟨rfl,rfl⟩:=hr2
    by_cases hs:x.lat=eS
    ·have hb:(!decide (x.lat=eS))=false:=by simp [hs]
     refine gf (a9 @hi @hx @zB @hw @zA @zD @h68 @hb @hs) ?_
     (refine zF rfl rfl rfl ?_;intro sr hsr;simp only [go_sem,hi,hx,zB,hw,zA,zD,h68] at hsr;subst hsr;refine xR rfl rfl (uO _ 5 mp (i+1) x.name i 0 rfl (j1.mono (by omega)) (by omega)) (by rintro _ _ ⟨_,_,_,rfl,_⟩ k hk _;have hk:k∈[1011]:=hk;simp only [List.mem_singleton] at hk;subst hk;simp [nu]) ?_;intro p2 h2 hr2 ts2 hts;simp only [go_sem] at hts;subst hts)
     obtain ⟨e',mp',rfl,rfl,hmp',hez⟩:=hr2
     refine gf (a7 @hi @hx @zB @hw @zA @zD @h68) ?_
     (refine zF rfl rfl rfl ?_;intro zs zh;simp only [go_sem,hi,hx,zB,hw,zA,zD,h68] at zh;subst zh;refine zP (by decide) (by decide) (wZ b0 b1 _ ml mf mp' L F P .nil Rep (J++[.var 59 _]) rp (by omega) (j4.app _) e' x.at') ?_;intro p2 h2 hr2 ts2 hts;simp only [go_sem] at hts;subst hts)
     obtain ⟨Rep',J',rfl,hr',hk'⟩:=hr2
     have hq':=hk' J.length _ (List.getElem?_concat_length ..) (by simp)
     have hF':=hk'.grow (by decide) (j3.app _)
     have hL':=hk'.grow (by decide) (j2.app _)
     have hP':=hk'.grow (by decide) (jp.app _)
     have hqlt:J.length<J'.length:=(gsi hq').1
     have h6J:(6<J'.length+1+1+1+1+1+1+1)=True:=by simp
     have hqJ:(J.length<J'.length)=True:=by simp [hqlt]
     have hpb: ∀ y:Pd,y∈ps++[⟨x.name,x.types,eS, -1,x.base,x.key,x.at'⟩]→ -1≤y.of'∧(y.of':Int)<(lats.length:Int)∧y.types.length≤4:=by
      intro y hy
      rcases List.mem_append.1 hy with hy|hy
      ·exact j7 y hy
      ·rw [List.mem_singleton] at hy;subst hy;dsimp only;omega
     have hpz:PzL preds (ps++[⟨x.name,x.types,eS, -1,x.base,x.key,x.at'⟩]):=PzL.app j8 j6 hi hxe (fun _=>rfl)
     clear h68 hx hk'
     generalize J.length=q at*
     rcases hP' with ⟨h0,rfl⟩|⟨ql,rfl,hql⟩
     ·have hps:ps=[]:=by simpa using h0
      subst hps
      (repeat (first|refine gz ?_|(refine gn ?_;intro zs zh;(try simp only [go_sem,hi,zB,hw,hq',h6J,hqJ,Nat.add_lt_add_iff_right] at zh);subst zh;refine gv ?_)|refine yD UTyp8f75.pl ?_))
      exact ⟨(mp',_,Rep',bU rp e' x.at',_,[⟨x.name,x.types,eS, -1,x.base,x.key,x.at'⟩]),⟨hmp',hL'.app _,hF'.app _,.inr ⟨J'.length,by simp,by simp⟩,hr'.app _,⟨by have:=vB rp e' x.at';dsimp only;omega,fun q=>j5.2 (wQ q).1⟩,by simp at j6 ⊢;omega,hpb,hpz⟩,rfl,rfl,rfl⟩
     ·simp only [List.length_map] at hql
      have hqll:ql<J'.length:=(gsi hql).1
      have hfl:ps.length≤24:=by omega
      (repeat (first|refine gz ?_|(refine gn ?_;intro zs zh;(try simp only [go_sem,hi,zB,hw,hq',h6J,hqJ,Nat.add_lt_add_iff_right,hql] at zh);subst zh;refine gv ?_)|refine yD UTyp8f75.pl ?_))
      exact ⟨(mp',_,Rep',bU rp e' x.at',_,ps++[⟨x.name,x.types,eS, -1,x.base,x.key,x.at'⟩]),⟨hmp',hL'.set2 hql (by simp) _,hF'.set2 hql (by simp) _,.inr ⟨ql,by rw [List.map_append];rfl,by rw [List.getElem?_set_self hqll];simp⟩,hr'.set2 hql (by simp) _,⟨by have:=vB rp e' x.at';dsimp only;omega,fun q=>j5.2 (wQ q).1⟩,by simp [j6],hpb,hpz⟩,rfl,rfl,rfl⟩
    ·have hb:(!decide (x.lat=eS))=true:=by simp [hs]
     refine gf (a9 @hi @hx @zB @hw @zA @zD @h68 @hb @hs) ?_
     (refine zF rfl rfl rfl ?_;intro zs zh;simp only [go_sem,hi,hx,zB,hw,zA,zD,h68] at zh;subst zh;refine zP (by decide) (by decide) (lE _ 3 ml lats.length x.lat rfl i1) ?_;intro p2 h2 hr2 ts2 hts;simp only [go_sem] at hts;subst hts)
     obtain ⟨of',rfl,ho1,ho2,rfl⟩:=hr2
     refine gf (a8 @hi @hx @zB @hw @zA @zD @h68 @hs) ?_
     by_cases hof0:of'<0
     ·have hof:decide (of'<0)=true:=by simp [hof0]
      (repeat (first|refine gz ?_|(refine gn ?_;intro zs zh;(try simp only [go_sem,hi,hx,zB,hw,zA,zD,h68,hof,decide_true] at zh);subst zh;refine gv ?_)|refine yD UTyp8f75.pl ?_))
      (refine zF rfl rfl rfl ?_;intro sr hsr;simp only [go_sem,hi,hx,zB,hw,zA,zD,h68] at hsr;subst hsr;refine xR rfl rfl (uO _ 5 mp (i+1) x.name i 70 rfl (j1.mono (by omega)) (by omega)) (by rintro _ _ ⟨_,_,_,rfl,_⟩ k hk _;have hk:k∈[1011]:=hk;simp only [List.mem_singleton] at hk;subst hk;simp [nu]) ?_;intro p2 h2 hr2 ts2 hts;simp only [go_sem] at hts;subst hts)
      obtain ⟨e',mp',rfl,rfl,hmp',hez⟩:=hr2
      refine gf (a7 @hi @hx @zB @hw @zA @zD @h68) ?_
      (refine zF rfl rfl rfl ?_;intro zs zh;simp only [go_sem,hi,hx,zB,hw,zA,zD,h68] at zh;subst zh;refine zP (by decide) (by decide) (wZ b0 b1 _ ml mf mp' L F P .nil Rep (J++[.var 59 _]) rp (by omega) (j4.app _) e' x.at') ?_;intro p2 h2 hr2 ts2 hts;simp only [go_sem] at hts;subst hts)
      obtain ⟨Rep',J',rfl,hr',hk'⟩:=hr2
      have hq':=hk' J.length _ (List.getElem?_concat_length ..) (by simp)
      have hF':=hk'.grow (by decide) (j3.app _)
      have hL':=hk'.grow (by decide) (j2.app _)
      have hP':=hk'.grow (by decide) (jp.app _)
      have hqlt:J.length<J'.length:=(gsi hq').1
      have h6J:(6<J'.length+1+1+1+1+1+1+1)=True:=by simp
      have hqJ:(J.length<J'.length)=True:=by simp [hqlt]
      have hpb: ∀ y:Pd,y∈ps++[⟨x.name,x.types,x.lat,of',x.base,x.key,x.at'⟩]→ -1≤y.of'∧(y.of':Int)<(lats.length:Int)∧y.types.length≤4:=by
       intro y hy
       rcases List.mem_append.1 hy with hy|hy
       ·exact j7 y hy
       ·rw [List.mem_singleton] at hy;subst hy;dsimp only;omega
      have hpz:PzL preds (ps++[⟨x.name,x.types,x.lat,of',x.base,x.key,x.at'⟩]):=PzL.app j8 j6 hi hxe (fun e=>absurd e hs)
      clear h68 hx hk'
      generalize J.length=q at*
      rcases hP' with ⟨h0,rfl⟩|⟨ql,rfl,hql⟩
      ·have hps:ps=[]:=by simpa using h0
       subst hps
       (repeat (first|refine gz ?_|(refine gn ?_;intro zs zh;(try simp only [go_sem,hi,zB,hw,hq',h6J,hqJ,Nat.add_lt_add_iff_right] at zh);subst zh;refine gv ?_)|refine yD UTyp8f75.pl ?_))
       exact ⟨(mp',_,Rep',bU rp e' x.at',_,[⟨x.name,x.types,x.lat,of',x.base,x.key,x.at'⟩]),⟨hmp',hL'.app _,hF'.app _,.inr ⟨J'.length,by simp,by simp⟩,hr'.app _,⟨by have:=vB rp e' x.at';dsimp only;omega,fun q=>j5.2 (wQ q).1⟩,by simp at j6 ⊢;omega,hpb,hpz⟩,rfl,rfl,rfl⟩
      ·simp only [List.length_map] at hql
       have hqll:ql<J'.length:=(gsi hql).1
       have hfl:ps.length≤24:=by omega
       (repeat (first|refine gz ?_|(refine gn ?_;intro zs zh;(try simp only [go_sem,hi,zB,hw,hq',h6J,hqJ,Nat.add_lt_add_iff_right,hql] at zh);subst zh;refine gv ?_)|refine yD UTyp8f75.pl ?_))
       exact ⟨(mp',_,Rep',bU rp e' x.at',_,ps++[⟨x.name,x.types,x.lat,of',x.base,x.key,x.at'⟩]),⟨hmp',hL'.set2 hql (by simp) _,hF'.set2 hql (by simp) _,.inr ⟨ql,by rw [List.map_append];rfl,by rw [List.getElem?_set_self hqll];simp⟩,hr'.set2 hql (by simp) _,⟨by have:=vB rp e' x.at';dsimp only;omega,fun q=>j5.2 (wQ q).1⟩,by simp [j6],hpb,hpz⟩,rfl,rfl,rfl⟩
     ·have hof:decide (of'<0)=false:=by simp;omega
      (repeat (first|refine gz ?_|(refine gn ?_;intro zs zh;(try simp only [go_sem,hi,hx,zB,hw,zA,zD,h68,hof,decide_false] at zh);subst zh;refine gv ?_)|refine yD UTyp8f75.pl ?_))
      (refine zF rfl rfl rfl ?_;intro sr hsr;simp only [go_sem,hi,hx,zB,hw,zA,zD,h68] at hsr;subst hsr;refine xR rfl rfl (uO _ 5 mp (i+1) x.name i 0 rfl (j1.mono (by omega)) (by omega)) (by rintro _ _ ⟨_,_,_,rfl,_⟩ k hk _;have hk:k∈[1011]:=hk;simp only [List.mem_singleton] at hk;subst hk;simp [nu]) ?_;intro p2 h2 hr2 ts2 hts;simp only [go_sem] at hts;subst hts)
      obtain ⟨e',mp',rfl,rfl,hmp',hez⟩:=hr2
      refine gf (a7 @hi @hx @zB @hw @zA @zD @h68) ?_
      (refine zF rfl rfl rfl ?_;intro zs zh;simp only [go_sem,hi,hx,zB,hw,zA,zD,h68] at zh;subst zh;refine zP (by decide) (by decide) (wZ b0 b1 _ ml mf mp' L F P .nil Rep (J++[.var 59 _]) rp (by omega) (j4.app _) e' x.at') ?_;intro p2 h2 hr2 ts2 hts;simp only [go_sem] at hts;subst hts)
      obtain ⟨Rep',J',rfl,hr',hk'⟩:=hr2
      have hq':=hk' J.length _ (List.getElem?_concat_length ..) (by simp)
      have hF':=hk'.grow (by decide) (j3.app _)
      have hL':=hk'.grow (by decide) (j2.app _)
      have hP':=hk'.grow (by decide) (jp.app _)
      have hqlt:J.length<J'.length:=(gsi hq').1
      have h6J:(6<J'.length+1+1+1+1+1+1+1)=True:=by simp
      have hqJ:(J.length<J'.length)=True:=by simp [hqlt]
      have hpb: ∀ y:Pd,y∈ps++[⟨x.name,x.types,x.lat,of',x.base,x.key,x.at'⟩]→ -1≤y.of'∧(y.of':Int)<(lats.length:Int)∧y.types.length≤4:=by
       intro y hy
       rcases List.mem_append.1 hy with hy|hy
       ·exact j7 y hy
       ·rw [List.mem_singleton] at hy;subst hy;dsimp only;omega
      have hpz:PzL preds (ps++[⟨x.name,x.types,x.lat,of',x.base,x.key,x.at'⟩]):=PzL.app j8 j6 hi hxe (fun e=>absurd e hs)
      clear h68 hx hk'
      generalize J.length=q at*
      rcases hP' with ⟨h0,rfl⟩|⟨ql,rfl,hql⟩
      ·have hps:ps=[]:=by simpa using h0
       subst hps
       (repeat (first|refine gz ?_|(refine gn ?_;intro zs zh;(try simp only [go_sem,hi,zB,hw,hq',h6J,hqJ,Nat.add_lt_add_iff_right] at zh);subst zh;refine gv ?_)|refine yD UTyp8f75.pl ?_))
       exact ⟨(mp',_,Rep',bU rp e' x.at',_,[⟨x.name,x.types,x.lat,of',x.base,x.key,x.at'⟩]),⟨hmp',hL'.app _,hF'.app _,.inr ⟨J'.length,by simp,by simp⟩,hr'.app _,⟨by have:=vB rp e' x.at';dsimp only;omega,fun q=>j5.2 (wQ q).1⟩,by simp at j6 ⊢;omega,hpb,hpz⟩,rfl,rfl,rfl⟩
      ·simp only [List.length_map] at hql
       have hqll:ql<J'.length:=(gsi hql).1
       have hfl:ps.length≤24:=by omega
       (repeat (first|refine gz ?_|(refine gn ?_;intro zs zh;(try simp only [go_sem,hi,zB,hw,hq',h6J,hqJ,Nat.add_lt_add_iff_right,hql] at zh);subst zh;refine gv ?_)|refine yD UTyp8f75.pl ?_))
       exact ⟨(mp',_,Rep',bU rp e' x.at',_,ps++[⟨x.name,x.types,x.lat,of',x.base,x.key,x.at'⟩]),⟨hmp',hL'.set2 hql (by simp) _,hF'.set2 hql (by simp) _,.inr ⟨ql,by rw [List.map_append];rfl,by rw [List.getElem?_set_self hqll];simp⟩,hr'.set2 hql (by simp) _,⟨by have:=vB rp e' x.at';dsimp only;omega,fun q=>j5.2 (wQ q).1⟩,by simp [j6],hpb,hpz⟩,rfl,rfl,rfl⟩
  ·rintro i ⟨mf,F,Rep,rp,J,fs⟩ hi hw ⟨j1,j2,j3,j4,j5,j6,j7⟩ t ht
   dsimp only at*
   simp only [zY] at ht;subst ht
   have hx:=zG (f:=Fu.c) [] hi
   obtain ⟨x,hxe⟩: ∃ x,funs[i]=x:=⟨_,rfl⟩
   have hxo:x.ok:=hxe▸h4 _ (List.getElem_mem hi)
   have hxf:x.fm:=hxe▸f3 _ (List.getElem_mem hi)
   have hxl:=hxf.2
   have hxl2:x.to.length≤8:=by have:=hxf.1;omega
   rw [hxe] at hx
   have h68:(6<J.length+1+1+1+1+1+1+1+1)=True:=by simp
   refine gf (a7 @hi @hx @zB @hw @zA @zD @h68) ?_
   (refine zF rfl rfl rfl ?_;intro zs zh;simp only [go_sem,hi,hx,zB,hw,zA,zD,h68] at zh;subst zh;refine zP (by decide) (by decide) (lE _ 3 ml lats.length x.lat rfl i1) ?_;intro p2 h2 hr2 ts2 hts;simp only [go_sem] at hts;subst hts)
   obtain ⟨of',rfl,ho1,ho2,rfl⟩:=hr2
   refine gf (a7 @hi @hx @zB @hw @zA @zD @h68) ?_
   (refine zF rfl rfl rfl ?_;intro sr hsr;simp only [go_sem,hi,hx,zB,hw,zA,zD,h68] at hsr;subst hsr;refine xR rfl rfl ((lU x.fr (by omega) (all_map fun _=>rfl)).call zK (by simp) _) (by rintro _ _ ⟨_,rfl⟩ _ _ _;rfl) ?_;intro p2 h2 hr2 ts2 hts;simp only [go_sem] at hts;subst hts)
   obtain ⟨rfl,rfl⟩:=hr2
   refine gf (a7 @hi @hx @zB @hw @zA @zD @h68) ?_
   (refine zF rfl rfl rfl ?_;intro zs zh;simp only [go_sem,hi,hx,zB,hw,zA,zD,h68] at zh;subst zh;refine zP (by decide) (by decide) ((lU x.to (by omega) (all_map fun _=>rfl)).call zK (by simp) _) ?_;intro p2 h2 hr2 ts2 hts;simp only [go_sem] at hts;subst hts)
   obtain ⟨rfl,rfl⟩:=hr2
   refine gf (a7 @hi @hx @zB @hw @zA @zD @h68) ?_
   by_cases hof0:0≤of'
   ·have hof:decide (0≤of')=true:=by simp [hof0]
    obtain ⟨ofn,rfl⟩:=Int.eq_ofNat_of_zero_le hof0
    have hofl:ofn<lats.length:=by omega
    have hlx:=zG (f:=La.c) [] hofl
    obtain ⟨hle1,hle2⟩:=hle _ (List.getElem_mem hofl)
    (repeat (first|refine gz ?_|(refine gn ?_;intro zs zh;(try simp only [go_sem,hi,hx,zB,hw,zA,zD,h68,hof,hofl,hlx,decide_true] at zh);subst zh;refine gv ?_)|refine yD UTyp8f75.pl ?_))
    (refine zF rfl rfl rfl ?_;intro zs zh;simp only [go_sem,hi,hx,zB,hw,zA,zD,h68,hof,hofl,hlx,decide_true] at zh;subst zh;refine zP (by decide) (by decide) (((ze6 lats[ofn] (h2 _ (List.getElem_mem hofl)) hle1 ⟨x.name,x.lat,ofn,x.fr,x.to,[],x.at'⟩ ⟨hxo.n,hxo.l,hxo.fl,hxo.f,hxo.tl,hxo.t,by simp⟩ hxf.1).call zK (by simp [zJ]) _).args (.cons (PLe.refl _) (.cons (PLes.agg (.cons (PLe.refl _) (.cons (PLe.refl _) (.cons (PLe.refl _) (.cons (PLe.refl _) (.cons (PLe.refl _) (.cons (PLe.nil_ts 1) (.cons (PLe.refl _) .nil)))))))) .nil))) ?_;intro p2 h2 hr2 ts2 hts;simp only [go_sem] at hts;subst hts)
    obtain ⟨⟨tb,e,rfl,htb⟩,rfl⟩:=hr2
    (repeat (first|refine gz ?_|(refine gn ?_;intro zs zh;(try simp only [go_sem,hi,hx,zB,hw,zA,zD,h68,hof,hofl,hlx,decide_true] at zh);subst zh;refine gv ?_)|refine yD UTyp8f75.pl ?_))
    (refine zF rfl rfl rfl ?_;intro sr hsr;simp only [go_sem,hi,hx,zB,hw,zA,zD,h68,hof] at hsr;subst hsr;refine xR rfl rfl (uO _ 4 mf (i+1) x.name i e rfl (j1.mono (by omega)) (by omega)) (by rintro _ _ ⟨_,_,_,rfl,_⟩ k hk _;have hk:k∈[1008]:=hk;simp only [List.mem_singleton] at hk;subst hk;simp [nu]) ?_;intro p2 h2 hr2 ts2 hts;simp only [go_sem] at hts;subst hts)
    obtain ⟨e',mf',rfl,rfl,hmf',hez⟩:=hr2
    refine gf (a8 @hi @hx @zB @hw @zA @zD @h68 @hof) ?_
    (refine zF rfl rfl rfl ?_;intro zs zh;simp only [go_sem,hi,hx,zB,hw,zA,zD,h68,hof] at zh;subst zh;refine zP (by decide) (by decide) (wZ b0 b1 _ ml mf' [] L F .nil .nil Rep (J++[.var 109 _]) rp (by omega) (j4.app _) e' x.at') ?_;intro p2 h2 hr2 ts2 hts;simp only [go_sem] at hts;subst hts)
    obtain ⟨Rep',J',rfl,hr',hk'⟩:=hr2
    have hq':=hk' J.length _ (List.getElem?_concat_length ..) (by simp)
    have hF':=hk'.grow (by decide) (j3.app _)
    have hL':=hk'.grow (by decide) (j2.app _)
    have hqlt:J.length<J'.length:=(gsi hq').1
    have h6J:(6<J'.length+1+1+1+1+1+1+1)=True:=by simp
    have hqJ:(J.length<J'.length)=True:=by simp [hqlt]
    have hfb: ∀ y∈fs++[(⟨x.name,x.lat,ofn,x.fr,x.to,tb,x.at'⟩,vF tb)],y.2= .nil∨y.2=vF y.1.table:=by
     intro y hy
     rcases List.mem_append.1 hy with hy|hy
     ·exact j7 y hy
     ·rw [List.mem_singleton] at hy;subst hy;simp
    clear h68 hx hk'
    generalize J.length=q at*
    rcases hF' with ⟨h0,rfl⟩|⟨ql,rfl,hql⟩
    ·have hfs:fs=[]:=by simpa using h0
     subst hfs
     (repeat (first|refine gz ?_|(refine gn ?_;intro zs zh;(try simp only [go_sem,hi,zB,hw,hq',h6J,hqJ,Nat.add_lt_add_iff_right] at zh);subst zh;refine gv ?_)|refine yD UTyp8f75.pl ?_))
     exact ⟨(mf',_,Rep',bU rp e' x.at',_,[(⟨x.name,x.lat,ofn,x.fr,x.to,tb,x.at'⟩,vF tb)]),⟨hmf',hL'.app _,.inr ⟨J'.length,by simp,by simp⟩,hr'.app _,⟨by have:=vB rp e' x.at';dsimp only;omega,fun q=>j5.2 (wQ q).1⟩,by simp at j6 ⊢;omega,hfb⟩,rfl,rfl,rfl⟩
    ·simp only [List.length_map] at hql
     have hqll:ql<J'.length:=(gsi hql).1
     have hfl:fs.length≤8:=by omega
     (repeat (first|refine gz ?_|(refine gn ?_;intro zs zh;(try simp only [go_sem,hi,zB,hw,hq',h6J,hqJ,Nat.add_lt_add_iff_right,hql] at zh);subst zh;refine gv ?_)|refine yD UTyp8f75.pl ?_))
     exact ⟨(mf',_,Rep',bU rp e' x.at',_,fs++[(⟨x.name,x.lat,ofn,x.fr,x.to,tb,x.at'⟩,vF tb)]),⟨hmf',hL'.set2 hql (by simp) _,.inr ⟨ql,by rw [List.map_append];rfl,by rw [List.getElem?_set_self hqll];simp⟩,hr'.set2 hql (by simp) _,⟨by have:=vB rp e' x.at';dsimp only;omega,fun q=>j5.2 (wQ q).1⟩,by simp [j6],hfb⟩,rfl,rfl,rfl⟩
   ·have hof:decide (0≤of')=false:=by simp;omega
    refine gf (a8 @hi @hx @zB @hw @zA @zD @h68 @hof) ?_
    (refine zF rfl rfl rfl ?_;intro sr hsr;simp only [go_sem,hi,hx,zB,hw,zA,zD,h68,hof] at hsr;subst hsr;refine xR rfl rfl (uO _ 4 mf (i+1) x.name i 70 rfl (j1.mono (by omega)) (by omega)) (by rintro _ _ ⟨_,_,_,rfl,_⟩ k hk _;have hk:k∈[1008]:=hk;simp only [List.mem_singleton] at hk;subst hk;simp [nu]) ?_;intro p2 h2 hr2 ts2 hts;simp only [go_sem] at hts;subst hts)
    obtain ⟨e',mf',rfl,rfl,hmf',hez⟩:=hr2
    refine gf (a8 @hi @hx @zB @hw @zA @zD @h68 @hof) ?_
    (refine zF rfl rfl rfl ?_;intro zs zh;simp only [go_sem,hi,hx,zB,hw,zA,zD,h68,hof] at zh;subst zh;refine zP (by decide) (by decide) (wZ b0 b1 _ ml mf' [] L F .nil .nil Rep (J++[.var 109 _]) rp (by omega) (j4.app _) e' x.at') ?_;intro p2 h2 hr2 ts2 hts;simp only [go_sem] at hts;subst hts)
    obtain ⟨Rep',J',rfl,hr',hk'⟩:=hr2
    have hq':=hk' J.length _ (List.getElem?_concat_length ..) (by simp)
    have hF':=hk'.grow (by decide) (j3.app _)
    have hL':=hk'.grow (by decide) (j2.app _)
    have hqlt:J.length<J'.length:=(gsi hq').1
    have h6J:(6<J'.length+1+1+1+1+1+1+1)=True:=by simp
    have hqJ:(J.length<J'.length)=True:=by simp [hqlt]
    have hfb: ∀ y∈fs++[(⟨x.name,x.lat,of',x.fr,x.to,[],x.at'⟩,.nil)],y.2= .nil∨y.2=vF y.1.table:=by
     intro y hy
     rcases List.mem_append.1 hy with hy|hy
     ·exact j7 y hy
     ·rw [List.mem_singleton] at hy;subst hy;simp
    clear h68 hx hk'
    generalize J.length=q at*
    rcases hF' with ⟨h0,rfl⟩|⟨ql,rfl,hql⟩
    ·have hfs:fs=[]:=by simpa using h0
     subst hfs
     (repeat (first|refine gz ?_|(refine gn ?_;intro zs zh;(try simp only [go_sem,hi,zB,hw,hq',h6J,hqJ,Nat.add_lt_add_iff_right] at zh);subst zh;refine gv ?_)|refine yD UTyp8f75.pl ?_))
     exact ⟨(mf',_,Rep',bU rp e' x.at',_,[(⟨x.name,x.lat,of',x.fr,x.to,[],x.at'⟩,.nil)]),⟨hmf',hL'.app _,.inr ⟨J'.length,by simp,by simp⟩,hr'.app _,⟨by have:=vB rp e' x.at';dsimp only;omega,fun q=>j5.2 (wQ q).1⟩,by simp at j6 ⊢;omega,hfb⟩,rfl,rfl,rfl⟩
    ·simp only [List.length_map] at hql
     have hqll:ql<J'.length:=(gsi hql).1
     have hfl:fs.length≤8:=by omega
     (repeat (first|refine gz ?_|(refine gn ?_;intro zs zh;(try simp only [go_sem,hi,zB,hw,hq',h6J,hqJ,Nat.add_lt_add_iff_right,hql] at zh);subst zh;refine gv ?_)|refine yD UTyp8f75.pl ?_))
     exact ⟨(mf',_,Rep',bU rp e' x.at',_,fs++[(⟨x.name,x.lat,of',x.fr,x.to,[],x.at'⟩,.nil)]),⟨hmf',hL'.set2 hql (by simp) _,.inr ⟨ql,by rw [List.map_append];rfl,by rw [List.getElem?_set_self hqll];simp⟩,hr'.set2 hql (by simp) _,⟨by have:=vB rp e' x.at';dsimp only;omega,fun q=>j5.2 (wQ q).1⟩,by simp [j6],hfb⟩,rfl,rfl,rfl⟩
 ·rintro i ⟨ml,L,Rep,rp,J⟩ hi hw ⟨i1,i2,i3,i4⟩ t ht
  dsimp only at*
  simp only [zY] at ht;subst ht
  have hx:=zG (f:=La.c) [] hi
  obtain ⟨x,hxe⟩: ∃ x,lats[i]=x:=⟨_,rfl⟩
  obtain ⟨hxe1,hxe2⟩:=hle _ (List.getElem_mem hi)
  rw [hxe] at hxe1 hxe2
  have hxo:x.ok:=hxe▸h2 _ (List.getElem_mem hi)
  have htl:(lats.take i).length=i:=by simp;omega
  have htk:(lats.take (i+1)).map La.c=(lats.take i).map La.c++[x.c]:=by rw [List.take_succ_eq_append_getElem hi,hxe,List.map_append];rfl
  rw [hxe] at hx
  have h68:(6<J.length+1+1+1+1+1+1+1+1)=True:=by simp
  refine gf (a7 @hi @hx @zB @hw @zA @zD @h68) ?_
  (refine zF rfl rfl rfl ?_;intro sr hsr;simp only [go_sem,hi,hx,zB,hw,zA,zD,h68] at hsr;subst hsr;refine xR rfl rfl ((zjV x hxo).1.call zK (by simp [zJ]) _) (by rintro _ _ ⟨_,rfl⟩ _ _ _;rfl) ?_;intro p2 h2 hr2 ts2 hts;simp only [go_sem] at hts;subst hts)
  obtain ⟨rfl,rfl⟩:=hr2
  obtain ⟨e,hce⟩: ∃ e,uE x=e:=⟨_,rfl⟩
  rw [hce]
  (refine zF rfl rfl rfl ?_;intro sr hsr;simp only [go_sem,hi,hx,zB,hw,zA,zD,h68] at hsr;subst hsr;refine xR rfl rfl (uO _ 3 ml (i+1) x.name i e rfl (i1.mono (by omega)) (by omega)) (by rintro _ _ ⟨_,_,_,rfl,_⟩ k hk _;have hk:k∈[1006]:=hk;simp only [List.mem_singleton] at hk;subst hk;simp [nu]) ?_;intro p2 h2 hr2 ts2 hts;simp only [go_sem] at hts;subst hts)
  obtain ⟨e',ml',rfl,rfl,hml',hez⟩:=hr2
  have ck:bU rp e' x.at'=[]→ ∀ (j:Nat) (h:j<lats.length),j<i+1→uE lats[j]=0:=fun q j h hj=>by
   rcases Nat.lt_or_ge j i with r|r
   ·exact i4.2 (wQ q).1 j h r
   ·have:j=i:=by omega
    subst this
    rw [hxe,hce];exact hez (wQ q).2
  refine gf (a7 @hi @hx @zB @hw @zA @zD @h68) ?_
  (refine zF rfl rfl rfl ?_;intro zs zh;simp only [go_sem,hi,hx,zB,hw,zA,zD,h68] at zh;subst zh;refine zP (by decide) (by decide) (wZ b0 b1 _ ml' [] [] L .nil .nil .nil Rep (J++[.var 73 x.c]) rp (by omega) (i3.app _) e' x.at') ?_;intro p2 h2 hr2 ts2 hts;simp only [go_sem] at hts;subst hts)
  obtain ⟨Rep',J',rfl,hr',hk'⟩:=hr2
  have hq':J'[J.length]? =some (.var 73 x.c):=hk' _ _ (by simp) (by simp)
  have hL':=hk'.grow (by decide) (i2.app [.var 73 x.c])
  have hqlt:J.length<J'.length:=(gsi hq').1
  have h6J:(6<J'.length+1+1+1+1+1+1+1)=True:=by simp
  have hqJ:(J.length<J'.length)=True:=by simp [hqlt]
  clear h68 hx hk' i2 i3
  generalize J.length=q at*
  (repeat (first|refine gz ?_|(refine gn ?_;intro zs zh;(try simp only [go_sem,hi,zB,hw,hq',h6J,hqJ,Nat.add_lt_add_iff_right] at zh);subst zh;refine gv ?_)|refine yD UTyp8f75.pl ?_))
  (refine zF rfl rfl rfl ?_;intro sr hsr;simp only [go_sem,hi,zB,hw,hq',h6J,hqJ,Nat.add_lt_add_iff_right] at hsr;subst hsr;refine xR rfl rfl ((lU x.elems (by omega) (all_map fun _=>rfl)).call zK (by simp) _) (by rintro _ _ ⟨_,rfl⟩ _ _ _;rfl) ?_;intro p2 h2 hr2 ts2 hts;simp only [go_sem] at hts;subst hts)
  obtain ⟨rfl,rfl⟩:=hr2
  (repeat (first|refine gz ?_|(refine gn ?_;intro zs zh;(try simp only [go_sem,hi,zB,hw,hq',h6J,hqJ,Nat.add_lt_add_iff_right] at zh);subst zh;refine gv ?_)|refine yD UTyp8f75.pl ?_))
  (refine zF rfl rfl rfl ?_;intro zs zh;simp only [go_sem,hi,zB,hw,hq',h6J,hqJ,Nat.add_lt_add_iff_right] at zh;subst zh;refine zP (by decide) (by decide) ((zd8 x.covers (by omega) (all_map fun _=>rfl)).call zK (by simp) _) ?_;intro p2 h2 hr2 ts2 hts;simp only [go_sem] at hts;subst hts)
  obtain ⟨rfl,rfl⟩:=hr2
  have hqs: ∀ b,(J'.set q b)[q]? =some b:=fun b=>List.getElem?_set_self hqlt
  rcases hL' with ⟨h0,rfl⟩|⟨ql,rfl,hql⟩
  ·rw [h0] at htk
   (repeat (first|refine gz ?_|(refine gn ?_;intro zs zh;(try simp only [go_sem,hi,zB,hw,hq',h6J,hqJ,hqs,Nat.add_lt_add_iff_right,List.set_set,List.length_set] at zh);subst zh;refine gv ?_)|refine yD UTyp8f75.pl ?_))
   exact ⟨(ml',_,Rep',bU rp e' x.at',_),⟨hml',.inr ⟨J'.length,by rw [htk];simp,by rw [htk];simp⟩,(hr'.set2 hq' (by simp) _).app _,⟨by have:=vB rp e' x.at';dsimp only;omega,ck⟩⟩,rfl,rfl,rfl⟩
  ·simp only [List.length_map,htl] at hql
   have hne:q≠ql:=fun e=>by subst e;rw [hq'] at hql;cases hql
   have hql2: ∀ b,(J'.set q b)[ql]? =some (.vec 73 4 i):=fun b=>by rw [List.getElem?_set_ne hne];exact hql
   have hqll:ql<J'.length:=(gsi hql).1
   (repeat (first|refine gz ?_|(refine gn ?_;intro zs zh;(try simp only [go_sem,hi,zB,hw,hq',h6J,hqJ,hqs,hql2,htl,Nat.add_lt_add_iff_right,List.set_set,List.length_set] at zh);subst zh;refine gv ?_)|refine yD UTyp8f75.pl ?_))
   exact ⟨(ml',_,Rep',bU rp e' x.at',_),⟨hml',.inr ⟨ql,by rw [htk],by rw [List.getElem?_set_self (by simp;exact hqll),htk];simp;omega⟩,(hr'.set2 hq' (by simp) _).set2 (hql2 _) (by simp) _,⟨by have:=vB rp e' x.at';dsimp only;omega,ck⟩⟩,rfl,rfl,rfl⟩
end Go.AL
