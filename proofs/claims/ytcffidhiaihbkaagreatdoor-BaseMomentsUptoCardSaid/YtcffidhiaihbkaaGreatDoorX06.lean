/-
  An operation beside blocks that it does not see.
-/
import Derived.Test.YtcffidhiaihbkaaGreatDoorX05
set_option linter.unusedSimpArgs false
set_option linter.unusedVariables false
set_option maxRecDepth 100000
set_option maxHeartbeats 4000000
namespace Go.AL
open Go.RowKit
inductive Av (fb:List Nat):PV→Prop
 |un:Av fb .un
 |ud:Av fb .ud
 |sc {v:Value}:Av fb (.sc v)
 |nil:Av fb .nil
 |agg {cs:List PV} (h: ∀ p∈cs,Av fb p):Av fb (.agg cs)
 |tup {cs:List PV} (h: ∀ p∈cs,Av fb p):Av fb (.tup cs)
 |ts {k:Nat} {els:List (List PV)} (h: ∀ e∈els, ∀ p∈e,Av fb p):Av fb (.ts k els)
 |tc {k:Nat} {els:List (List PV)} (h: ∀ e∈els, ∀ p∈e,Av fb p):Av fb (.tc k els)
 |vec {r k:Nat} {els:List (List PV)} (hr:r∉fb) (h: ∀ e∈els, ∀ p∈e,Av fb p):Av fb (.vec r k els)
 |ms {r o k n:Nat} (hr:r∉fb):Av fb (.ms r o k n)
 |ptr {r o:Nat} (hr:r∉fb):Av fb (.ptr r o)
 |tp {cs:List PV} (h: ∀ p∈cs,Av fb p):Av fb (.tp cs)
 |fn {f:Fn} {a b:List PV} (h: ∀ p∈a,Av fb p) (h': ∀ p∈b,Av fb p):Av fb (.fn f a b)
 |ifc {t:TypeId} {p:PV} (h:Av fb p):Av fb (.ifc t p)
 |mp {r:Nat} (hr:r∉fb):Av fb (.mp r)
 |yl {r:Nat} (hr:r∉fb):Av fb (.yl r)
 |it {r:Nat} (hr:r∉fb):Av fb (.it r)
theorem VRel.av {S S':St} {fb:List Nat} {p:PV} {v:Value} (h:VRel S p v) (ha:Av fb p) (hm: ∀ a u,S.M a u→S'.M a u) (hφ: ∀ r u,r∉fb→S.φ[r]? =some u→S'.φ[r]? =some u) (hh: ∀ r b,r∉fb→S.h[r]? =some b→S'.h[r]? =some b) (hz: ∀ b m,S.Row b m→S'.Row b m):VRel S' p v:=by
 induction h with
 |un=>exact .un
 |ud=>exact .ud
 |sc h=>exact .sc h
 |nil=>exact .nil
 |agg hl h1 _ ih=>cases ha with|agg ha=>exact .agg hl h1 fun i p v hp hv=>ih i p v hp hv (ha p (List.mem_of_getElem? hp))
 |tup hl _ ih=>cases ha with|tup ha=>exact .tup hl fun i p v hp hv=>ih i p v hp hv (ha p (List.mem_of_getElem? hp))
 |ts hl hc hm' hk ad ha' val hv _ ih=>
  cases ha with|ts ha=>exact .ts hl hc hm' hk ad ha' val (fun j hj=>hm _ _ (hv j hj)) fun i e j p hi hp=>ih i e j p hi hp (ha e (List.mem_of_getElem? hi) p (List.mem_of_getElem? hp))
 |tc _ ih=>cases ha with|tc ha=>exact .tc (ih (.ts ha))
 |vec _ hb hle ho ih=>cases ha with|vec hr ha=>exact .vec (ih (.ts ha)) (hh _ _ hr hb) hle fun e=>hφ _ _ hr (ho e)
 |ms hp hb hl hc hm' hzz=>cases ha with|ms hr=>exact .ms (hφ _ _ hr hp) (hh _ _ hr hb) hl hc hm' (hz _ _ hzz)
 |oms hb hc hm'=>cases ha with|ms hr=>exact .oms (hh _ _ hr hb) hc hm'
 |optr hb=>cases ha with|ptr hr=>exact .optr (hh _ _ hr hb)
 |ptr hp hb=>cases ha with|ptr hr=>exact .ptr (hφ _ _ hr hp) (hh _ _ hr hb)
 |tp val hv _ ih=>cases ha with|tp ha=>exact .tp val (fun j hj=>hm _ _ (hv j hj)) fun j p hp=>ih j p hp (ha p (List.mem_of_getElem? hp))
 |fn hl hl' _ _ ih ih'=>cases ha with|fn h h'=>exact .fn hl hl' (fun i p v hp hv=>ih i p v hp hv (h p (List.mem_of_getElem? hp))) fun i p v hp hv=>ih' i p v hp hv (h' p (List.mem_of_getElem? hp))
 |ifc _ ih=>cases ha with|ifc ha=>exact .ifc (ih ha)
 |mp hp hb=>cases ha with|mp hr=>exact .mp (hφ _ _ hr hp) (hh _ _ hr hb)
 |yl hp hb=>cases ha with|yl hr=>exact .yl (hφ _ _ hr hp) (hh _ _ hr hb)
 |it hp hb hi=>cases ha with|it hr=>exact .it (hφ _ _ hr hp) (hh _ _ hr hb) hi
def AvB (fb:List Nat):Blk→Prop
 | .var _ cs=> ∀ p∈cs,Av fb p
 | .map es=> ∀ q∈es,Av fb q.2
 | .loop ts .. => ∀ p∈ts,Av fb p
 | .iter m _ _=> ∀ r,m=some r→r∉fb
 |_=>True
theorem BRel.av {S S':St} {fb:List Nat} {b:Blk} {v:Value} (h:BRel S b v) (ha:AvB fb b) (hm: ∀ a u,S.M a u→S'.M a u) (hφ: ∀ r u,r∉fb→S.φ[r]? =some u→S'.φ[r]? =some u) (hh: ∀ r b,r∉fb→S.h[r]? =some b→S'.h[r]? =some b)
  (hw:S'.w=S.w):BRel S' b v:=by
 cases b with
 |var t cs=>
  obtain ⟨b',arr,rfl,h1,h2,h3,h4⟩:=h
  exact ⟨b',arr,rfl,by rw [hw];exact h1,h2,h3,fun i p u hp hu=>(h4 i p u hp hu).av (ha p (List.mem_of_getElem? hp)) hm hφ hh fun b m h=>by obtain ⟨ar,t1,f1,h1,h2⟩:=h;exact ⟨ar,t1,f1,by rw [hw];exact h1,h2⟩⟩
 |vec e k n=>
  rcases h with h|⟨b',c,arr,rfl,h1,h2⟩
  ·exact .inl h
  ·exact .inr ⟨b',c,arr,rfl,by rw [hw];exact h1,h2⟩
 |map es=>
  obtain ⟨b',cl,en,rfl,h1,h2,h3,h4⟩:=h
  exact ⟨b',cl,en,rfl,by rw [hw];exact h1,h2,h3,fun i e q he hq=>⟨(h4 i e q he hq).1,(h4 i e q he hq).2.av (ha q (List.mem_of_getElem? hq)) hm hφ hh fun b m h=>by obtain ⟨ar,t1,f1,h1,h2⟩:=h;exact ⟨ar,t1,f1,by rw [hw];exact h1,h2⟩⟩⟩
 |loop ts ps a' bd st pd=>
  obtain ⟨b',L,rfl,h1,h2,h3,h4,h5,h6,h7,h8⟩:=h
  exact ⟨b',L,rfl,by rw [hw];exact h1,h2,h3,h4,h5,h6,h7,fun i p hp=>(h8 i p hp).av (ha p (List.mem_of_getElem? hp)) hm hφ hh fun b m h=>by obtain ⟨ar,t1,f1,h1,h2⟩:=h;exact ⟨ar,t1,f1,by rw [hw];exact h1,h2⟩⟩
 |iter m k s=>
  obtain ⟨b',bm,rfl,h1,h2⟩:=h
  refine ⟨b',bm,rfl,by rw [hw];exact h1,fun r hr=> ?_⟩
  obtain ⟨es,bk,g1,g2,g3⟩:=h2 r hr
  exact ⟨es,bk,hh _ _ (ha r hr) g1,hφ _ _ (ha r hr) g2,g3⟩
 |siter s p=>
  obtain ⟨b',rfl,h1,h2⟩:=h
  exact ⟨b',rfl,by rw [hw];exact h1,h2⟩
 |non=>exact h
 |old=>exact h
def φhide (fb:List Nat) (φ:List Value):List Value:=φ.mapIdx fun i v=>if fb.contains i then undef else v
theorem φhide_get {fb:List Nat} {φ:List Value} {r:Nat} {v:Value} (h:(φhide fb φ)[r]? =some v) (hb: ∃ n,sC v=some n):r∉fb∧φ[r]? =some v:=by
 unfold φhide at h
 rw [List.getElem?_mapIdx] at h
 cases hv:φ[r]? with
 |none=>rw [hv] at h;cases h
 | some u=>
  rw [hv] at h
  simp only [Option.map_some,Option.some.injEq] at h
  split at h
  ·subst h
   obtain ⟨n,hn⟩:=hb
   simp [undef,sC] at hn
  ·rename_i hc
   subst h
   exact ⟨by simpa using hc,rfl⟩
theorem φhide_of {fb:List Nat} {φ:List Value} {r:Nat} {v:Value} (hr:r∉fb) (h:φ[r]? =some v):(φhide fb φ)[r]? =some v:=by
 unfold φhide
 rw [List.getElem?_mapIdx,h]
 simp [hr]
def St.veil (S:St) (fb:List Nat):St:=
 ⟨φhide fb S.φ,rI fb S.h,S.w,fun a=>S.x a∨((∃ r v,r∈fb∧S.φ[r]? =some v∧sC v=some a.block)∧ ¬S.Stable a)⟩
theorem kU {fb:List Nat} {h:Heap} {r:Nat} {b:Blk} (hr:r∉fb) (hb:h[r]? =some b):(rI fb h)[r]? =some b:=by
 rw [qO,if_neg (fun e=>hr e.1)];exact hb
theorem zaI {S:St} {fb:List Nat} {a:Addr} {u:Value} (h:S.M a u):(S.veil fb).M a u:=by
 obtain ⟨h1,h2,h3,h4,h5,h6⟩:=h
 refine ⟨h1,h2,h3,h4,?_,fun r v hv hb=> ?_⟩
 ·rintro (hx|⟨_,hn⟩)
  ·exact h5 hx
  ·exact hn ⟨h3,h4,h5,h6⟩
 ·obtain ⟨hr,hv'⟩:=φhide_get hv ⟨_,hb⟩
  obtain ⟨e,k,n,hh,ho⟩:=h6 r v hv' hb
  exact ⟨e,k,n,kU hr hh,ho⟩
theorem zg7 {S:St} {fb:List Nat} {p:PV} {v:Value} (h:VRel S p v) (ha:Av fb p):VRel (S.veil fb) p v:=
 h.av ha (fun _ _ h=>zaI h) (fun _ _ hr h=>φhide_of hr h) (fun _ _ hr h=>kU hr h) fun _ _ h=>h
theorem ziG {S:St} (hS:SRel S) {fb:List Nat} (ha: ∀ r b,r∉fb→S.h[r]? =some b→AvB fb b):SRel (S.veil fb):=by
 refine ⟨by simp [St.veil,φhide,zf2,hS.len],fun r b v hb hv=> ?_,fun r r' v v' n hv hv' hn hn'=> ?_,fun a hx=> ?_,fun a hx r v hv hb=> ?_⟩
 ·simp only [St.veil] at hb hv
  by_cases hr:r∈fb
  ·rw [qO] at hb
   have hlt:r<S.h.length:=by
    have:=(gsi hv).1
    simp [φhide] at this
    rw [←hS.len];exact this
   rw [if_pos ⟨hr,hlt⟩] at hb
   cases hb
   show sC v=none
   cases hbv:sC v with
   |none=>rfl
   |some n=>exact absurd hr (φhide_get hv ⟨n,hbv⟩).1
  ·rw [qO,if_neg (fun e=>hr e.1)] at hb
   have hv0:S.φ[r]? =some v:=by
    unfold φhide at hv
    rw [List.getElem?_mapIdx] at hv
    have hc:fb.contains r=false:=by simpa using hr
    cases h0:S.φ[r]? with
    |none=>rw [h0] at hv;cases hv
    |some u=>rw [h0] at hv;simpa [hr] using hv
   exact (hS.blks r b v hb hv0).av (ha r b hr hb) (fun _ _ h=>zaI h) (fun _ _ hr h=>φhide_of hr h) (fun _ _ hr h=>kU hr h) rfl
 ·exact hS.inj r r' v v' n (φhide_get hv ⟨n,hn⟩).2 (φhide_get hv' ⟨n,hn'⟩).2 hn hn'
 ·rcases hx with hx|⟨⟨r,v,_,hv,hb⟩,_⟩
  ·exact hS.xlt a hx
  ·exact hS.own_lt ⟨r,v,hv,hb⟩
 ·obtain ⟨hr,hv'⟩:=φhide_get hv ⟨_,hb⟩
  rcases hx with hx|⟨⟨r',v',hr',hv'',hb'⟩,_⟩
  ·exact hS.xown a hx r v hv' hb
  ·exact hr (hS.inj r r' v v' _ hv' hv'' hb hb'▸hr')
end Go.AL
namespace Go.AL
open Go.RowKit
def xV (fb:List Nat) (h h1:Heap):Heap:=h1.mapIdx fun i b=>if fb.contains i then h.getD i .non else b
theorem xA {fb:List Nat} {h h1:Heap} {r:Nat} (hr:r∉fb):(xV fb h h1)[r]? =h1[r]? :=by
 unfold xV
 rw [List.getElem?_mapIdx]
 cases h1[r]? with
 |none=>rfl
 |some b=>simp [hr]
theorem qF {fb:List Nat} {h h1:Heap} {r:Nat} (hr:r∈fb) (hl:r<h1.length) (hl':r<h.length):(xV fb h h1)[r]? =h[r]? :=by
 unfold xV
 rw [List.getElem?_mapIdx,List.getElem?_eq_getElem hl,List.getElem?_eq_getElem hl']
 simp [hr,List.getD_eq_getElem?_getD,hl']
def φback (fb:List Nat) (φ φ1:List Value):List Value:=φ1.mapIdx fun i v=>if fb.contains i then φ.getD i undef else v
theorem φback_out {fb:List Nat} {φ φ1:List Value} {r:Nat} (hr:r∉fb):(φback fb φ φ1)[r]? =φ1[r]? :=by
 unfold φback
 rw [List.getElem?_mapIdx]
 cases φ1[r]? with
 |none=>rfl
 |some b=>simp [hr]
theorem φback_in {fb:List Nat} {φ φ1:List Value} {r:Nat} (hr:r∈fb) (hl:r<φ1.length) (hl':r<φ.length):(φback fb φ φ1)[r]? =φ[r]? :=by
 unfold φback
 rw [List.getElem?_mapIdx,List.getElem?_eq_getElem hl,List.getElem?_eq_getElem hl']
 simp [hr,List.getD_eq_getElem?_getD,hl']
theorem aP {S:St} (hS:SRel S) {fb:List Nat} (hfb: ∀ r∈fb,r<S.h.length) {φ1:List Value} {h1:Heap} {w1:World} (x:Ext (S.veil fb) ⟨φ1,h1,w1,(S.veil fb).x⟩) (hS1:SRel ⟨φ1,h1,w1,(S.veil fb).x⟩)
  (hnon: ∀ r∈fb,h1[r]? =some .non):Ext S ⟨φback fb S.φ φ1,xV fb S.h h1,w1,S.x⟩∧SRel ⟨φback fb S.φ φ1,xV fb S.h h1,w1,S.x⟩∧
   ∀ p v,VRel ⟨φ1,h1,w1,(S.veil fb).x⟩ p v→VRel ⟨φback fb S.φ φ1,xV fb S.h h1,w1,S.x⟩ p v:=by
 have l1: ∀ r∈fb,r<h1.length:=fun r hr=>(gsi (hnon r hr)).1
 have l2: ∀ r∈fb,r<φ1.length:=fun r hr=>by have:=hS1.len;simp only [] at this;rw [this];exact l1 r hr
 have l3: ∀ r∈fb,r<S.φ.length:=fun r hr=>by rw [hS.len];exact hfb r hr
 have hM: ∀ a u,St.M ⟨φ1,h1,w1,(S.veil fb).x⟩ a u→St.M ⟨φback fb S.φ φ1,xV fb S.h h1,w1,S.x⟩ a u:=by
  rintro a u ⟨m1,m2,m3,m4,m5,m6⟩
  refine ⟨m1,m2,m3,m4,fun hx=>m5 (.inl hx),fun r v hv hb=> ?_⟩
  simp only [] at hv
  by_cases hr:r∈fb
  ·rw [φback_in hr (l2 r hr) (l3 r hr)] at hv
   have hst:S.Stable a:=Classical.byContradiction fun hn=>m5 (.inr ⟨⟨r,v,hr,hv,hb⟩,hn⟩)
   obtain ⟨e,k,n,hh,ho⟩:=hst.2.2.2 r v hv hb
   exact ⟨e,k,n,(qF hr (l1 r hr) (hfb r hr)).trans hh,ho⟩
  ·rw [φback_out hr] at hv
   obtain ⟨e,k,n,hh,ho⟩:=m6 r v hv hb
   exact ⟨e,k,n,(xA hr).trans hh,ho⟩
 have hV: ∀ p v,VRel ⟨φ1,h1,w1,(S.veil fb).x⟩ p v→VRel ⟨φback fb S.φ φ1,xV fb S.h h1,w1,S.x⟩ p v:=by
  have out: ∀ {r:Nat} {b:Blk},b≠ .non→h1[r]? =some b→r∉fb:=fun hb h hr=>by rw [hnon _ hr] at h;cases h;exact hb rfl
  intro p v h
  induction h with
  |un=>exact .un
  |ud=>exact .ud
  |sc h=>exact .sc h
  |nil=>exact .nil
  |agg hl h1 _ ih=>exact .agg hl h1 ih
  |tup hl _ ih=>exact .tup hl ih
  |ts hl hc hm hk ad ha val hv _ ih=>exact .ts hl hc hm hk ad ha val (fun j hj=>hM _ _ (hv j hj)) ih
  |tc _ ih=>exact .tc ih
  |vec _ hb hle ho ih=>have hr:=out (by simp) hb;exact .vec ih ((xA hr).trans hb) hle fun e=>(φback_out hr).trans (ho e)
  |ms hp hb hl hc hm hz=>have hr:=out (by simp) hb;exact .ms ((φback_out hr).trans hp) ((xA hr).trans hb) hl hc hm hz
  |oms hb hc hm=>have hr:=out (by simp) hb;exact .oms ((xA hr).trans hb) hc hm
  |optr hb=>have hr:=out (by simp) hb;exact .optr ((xA hr).trans hb)
  |ptr hp hb=>have hr:=out (by simp) hb;exact .ptr ((φback_out hr).trans hp) ((xA hr).trans hb)
  |tp val hv _ ih=>exact .tp val (fun j hj=>hM _ _ (hv j hj)) ih
  |fn hl hl' _ _ ih ih'=>exact .fn hl hl' ih ih'
  |ifc _ ih=>exact .ifc ih
  |mp hp hb=>have hr:=out (by simp) hb;exact .mp ((φback_out hr).trans hp) ((xA hr).trans hb)
  |yl hp hb=>have hr:=out (by simp) hb;exact .yl ((φback_out hr).trans hp) ((xA hr).trans hb)
  |it hp hb hi=>have hr:=out (by rintro rfl;cases hi) hb;exact .it ((φback_out hr).trans hp) ((xA hr).trans hb) hi
 have own0: ∀ b,(S.veil fb).Own b→S.Own b:=by
  rintro b ⟨r,v,hv,hb⟩
  exact ⟨r,v,(φhide_get hv ⟨b,hb⟩).2,hb⟩
 have kI: ∀ r v n,r∈fb→S.φ[r]? =some v→sC v=some n→ ¬St.Own ⟨φ1,h1,w1,(S.veil fb).x⟩ n∧w1.heap[n]? =S.w.heap[n]? :=by
  intro r v n hr hv hn
  refine x.unt n (hS.own_lt ⟨r,v,hv,hn⟩) ?_
  rintro ⟨r',v',hv',hn'⟩
  obtain ⟨hr',hv''⟩:=φhide_get hv' ⟨n,hn'⟩
  exact hr' (hS.inj r r' v v' n hv hv'' hn hn'▸hr)
 have xx:Ext S ⟨φback fb S.φ φ1,xV fb S.h h1,w1,S.x⟩:=by
  refine ⟨rfl,x.os,x.tape,x.output,x.size,fun b hb hn=> ?_,fun a u hm=>hM _ _ (x.mem _ _ (zaI hm)),fun r b hb=> ?_,x.rows⟩
  ·obtain ⟨u1,u2⟩:=x.unt b hb fun h=>hn (own0 b h)
   refine ⟨?_,u2⟩
   rintro ⟨r,v,hv,hbv⟩
   simp only [] at hv
   by_cases hr:r∈fb
   ·rw [φback_in hr (l2 r hr) (l3 r hr)] at hv
    exact hn ⟨r,v,hv,hbv⟩
   ·rw [φback_out hr] at hv
    exact u1 ⟨r,v,hv,hbv⟩
  ·by_cases hr:r∈fb
   ·exact ⟨b,(qF hr (l1 r hr) (hfb r hr)).trans hb,Blk.le_refl b (φback_in hr (l2 r hr) (l3 r hr))⟩
   ·obtain ⟨b',hb',hle⟩:=x.blks r b (kU hr hb)
    refine ⟨b',(xA hr).trans hb',Blk.le_trans (q:=True) hle (Blk.le_refl b' trivial) fun h _=> ?_⟩
    simp only [] at h ⊢
    rw [φback_out hr,h]
    show (φhide fb S.φ)[r]? =S.φ[r]?
    unfold φhide
    rw [List.getElem?_mapIdx]
    cases S.φ[r]? with
    |none=>rfl
    |some u=>simp [hr]
 refine ⟨xx,⟨?_,fun r b v hb hv=> ?_,fun r r' v v' n hv hv' hn hn'=> ?_,fun a ha=>Nat.lt_of_lt_of_le (hS.xlt a ha) x.size,fun a ha r v hv hb=> ?_⟩,hV⟩
 ·have:=hS1.len
  simpa [φback,xV] using this
 ·simp only [] at hb hv
  by_cases hr:r∈fb
  ·rw [φback_in hr (l2 r hr) (l3 r hr)] at hv
   rw [qF hr (l1 r hr) (hfb r hr)] at hb
   exact (hS.blks r b v hb hv).ext xx fun n hn=>(kI r v n hr hv hn).2
  ·rw [φback_out hr] at hv
   rw [xA hr] at hb
   have h0:=hS1.blks r b v hb hv
   cases b with
   |var t cs=>obtain ⟨b',arr,rfl,k1,k2,k3,k4⟩:=h0;exact ⟨b',arr,rfl,k1,k2,k3,fun i p u hp hu=>hV _ _ (k4 i p u hp hu)⟩
   |vec e k n=>exact h0
   |map es=>obtain ⟨b',cl,en,rfl,k1,k2,k3,k4⟩:=h0;exact ⟨b',cl,en,rfl,k1,k2,k3,fun i e q he hq=>⟨(k4 i e q he hq).1,hV _ _ (k4 i e q he hq).2⟩⟩
   |loop ts ps a' bd st pd=>obtain ⟨b',L,rfl,k1,k2,k3,k4,k5,k6,k7,k8⟩:=h0;exact ⟨b',L,rfl,k1,k2,k3,k4,k5,k6,k7,fun i p hp=>hV _ _ (k8 i p hp)⟩
   |iter m k s=>
    obtain ⟨b',bm,rfl,k1,k2⟩:=h0
    refine ⟨b',bm,rfl,k1,fun r' hr'=> ?_⟩
    obtain ⟨es,bk,g1,g2,g3⟩:=k2 r' hr'
    have hro:r'∉fb:=fun h=>by rw [hnon _ h] at g1;cases g1
    exact ⟨es,bk,(xA hro).trans g1,(φback_out hro).trans g2,g3⟩
   |siter s p=>exact h0
   |non=>exact h0
   |old=>exact h0
 ·simp only [] at hv hv'
  by_cases hr:r∈fb<;>by_cases hr':r'∈fb
  ·rw [φback_in hr (l2 r hr) (l3 r hr)] at hv
   rw [φback_in hr' (l2 r' hr') (l3 r' hr')] at hv'
   exact hS.inj r r' v v' n hv hv' hn hn'
  ·rw [φback_in hr (l2 r hr) (l3 r hr)] at hv
   rw [φback_out hr'] at hv'
   exact absurd ⟨r',v',hv',hn'⟩ (kI r v n hr hv hn).1
  ·rw [φback_out hr] at hv
   rw [φback_in hr' (l2 r' hr') (l3 r' hr')] at hv'
   exact absurd ⟨r,v,hv,hn⟩ (kI r' v' n hr' hv' hn').1
  ·rw [φback_out hr] at hv
   rw [φback_out hr'] at hv'
   exact hS1.inj r r' v v' n hv hv' hn hn'
 ·simp only [] at hv ha
  by_cases hr:r∈fb
  ·rw [φback_in hr (l2 r hr) (l3 r hr)] at hv
   exact hS.xown a ha r v hv hb
  ·rw [φback_out hr] at hv
   exact hS1.xown a (.inl ha) r v hv hb
end Go.AL
namespace Go.AL
open Go.RowKit
theorem Av.of_tree {fb:List Nat} {p:PV} (h:Tree p):Av fb p:=by
 induction h with
 |un=>exact .un
 |ud=>exact .ud
 |sc=>exact .sc
 |nil=>exact .nil
 |agg _ ih=>exact .agg ih
 |tup _ ih=>exact .tup ih
 |ts _ ih=>exact .ts ih
 |tc _ ih=>exact .tc ih
 |tp _ ih=>exact .tp ih
 |fn _ _ ih ih'=>exact .fn ih ih'
 |ifc _ ih=>exact .ifc ih
def zg4 (fb:List Nat):Nat→PV→Bool
 |0,_=>false
 |f+1,p=>match p with
  | .un| .ud| .sc _| .nil=>true
  | .agg cs=>cs.all (zg4 fb f)
  | .tup cs=>cs.all (zg4 fb f)
  | .ts _ els=>els.all fun e=>e.all (zg4 fb f)
  | .tc _ els=>els.all fun e=>e.all (zg4 fb f)
  | .vec r _ els=> !fb.contains r&&els.all fun e=>e.all (zg4 fb f)
  | .ms r _ _ _=> !fb.contains r
  | .ptr r _=> !fb.contains r
  | .tp cs=>cs.all (zg4 fb f)
  | .fn _ a b=>a.all (zg4 fb f)&&b.all (zg4 fb f)
  | .ifc _ p=>zg4 fb f p
  | .mp r=> !fb.contains r
  | .yl r=> !fb.contains r
  | .it r=> !fb.contains r
theorem dO {fb:List Nat}: ∀ (f:Nat) (p:PV),zg4 fb f p=true→Av fb p:=by
 intro f
 induction f with
 |zero=>intro p h;cases h
 |succ f ih=>
  intro p h
  cases p<;>simp only [zg4,List.all_eq_true,Bool.and_eq_true,Bool.not_eq_true',List.contains_eq_mem,decide_eq_false_iff_not,reduceCtorEq] at h
  ·exact .un
  ·exact .ud
  ·exact .sc
  ·exact .nil
  ·exact .agg fun p hp=>ih p (h p hp)
  ·exact .tup fun p hp=>ih p (h p hp)
  ·exact .ts fun e he p hp=>ih p (h e he p hp)
  ·exact .tc fun e he p hp=>ih p (h e he p hp)
  ·exact .vec h.1 fun e he p hp=>ih p (h.2 e he p hp)
  ·exact .ms h
  ·exact .ptr h
  ·exact .tp fun p hp=>ih p (h p hp)
  ·exact .fn (fun p hp=>ih p (h.1 p hp)) fun p hp=>ih p (h.2 p hp)
  ·exact .ifc (ih _ h)
  ·exact .mp h
  ·exact .yl h
  ·exact .it h
def zh5 (fb:List Nat) (f:Nat):Blk→Bool
 | .var _ cs=>cs.all (zg4 fb f)
 | .map es=>es.all fun q=>zg4 fb f q.2
 | .loop ts _ _ _ _ _=>ts.all (zg4 fb f)
 | .iter m _ _=>match m with
  |some r=> !fb.contains r
  |none=>true
 |_=>true
theorem zgS {fb:List Nat} {f:Nat} {b:Blk} (h:zh5 fb f b=true):AvB fb b:=by
 cases b<;>simp only [zh5,List.all_eq_true] at h
 ·exact fun p hp=>dO f p (h p hp)
 ·trivial
 ·exact fun q hq=>dO f _ (h q hq)
 ·exact fun p hp=>dO f p (h p hp)
 ·trivial
 ·trivial
 ·intro r hr
  subst hr
  simpa using h
 ·trivial
def za4 (fb:List Nat) (f:Nat) (h:Heap):Bool:=(List.range h.length).all fun r=>fb.contains r||zh5 fb f (h.getD r .non)
theorem zeG {fb:List Nat} {f:Nat} {h:Heap} (k:za4 fb f h=true): ∀ r b,r∉fb→h[r]? =some b→AvB fb b:=by
 intro r b hr hb
 unfold za4 at k
 rw [List.all_eq_true] at k
 have hlt:=(gsi hb).1
 have:=k r (List.mem_range.2 hlt)
 rw [List.getD_eq_getElem?_getD,hb] at this
 simp only [List.contains_eq_mem,Bool.or_eq_true,decide_eq_true_eq,Option.getD_some] at this
 exact zgS (this.resolve_left hr)
theorem OpOk.frame {P:Program} {G:Glob} {rd:Option Nat} {o:Oper} {h h0:Heap} {F:Operand→PV} {p:PV} {fb:List Nat} (hG: ∀ g cs,G g=some cs→ ∀ p∈cs,Tree p)
  (k:OpOk P G rd o (rI fb h) F fun q h'=>q=p∧h'=h0) (hfb: ∀ r∈fb,r<h.length) (hn: ∀ r∈fb,h0[r]? =some .non) (hx: ∀ x∈o.op.operands,Av fb (F x)) (hb: ∀ r b,r∉fb→h[r]? =some b→AvB fb b):
  OpOk P G rd o h F fun q h'=>q=p∧h'=xV fb h h0:=by
 intro φ w X a K Q hS hGr hv hK
 refine k (φhide fb φ) w _ a K Q (ziG hS hb) (fun g cs hg=>zg7 (hGr g cs hg) (Av.of_tree (.tp (hG g cs hg)))) (fun x hm=>zg7 (hv x hm) (hx x hm)) ?_
 rintro φ' h' w' q v x hs hq ⟨rfl,rfl⟩
 obtain ⟨x1,x2,x3⟩:=aP (S:=⟨φ,h,w,X⟩) hS hfb x hs hn
 exact hK _ _ _ _ _ x1 x2 (x3 _ _ hq) ⟨rfl,rfl⟩
end Go.AL
