/-
  Part of the walk.
-/
import Derived.Test.YtlcjmejclpilhaaGreatDoorV02
import Derived.OrdersIn
set_option linter.unusedSimpArgs false
set_option linter.unusedVariables false
set_option maxRecDepth 100000
set_option maxHeartbeats 4000000
namespace Go.AL
open Go.RowKit
def fz(n:Nat)(h:Heap):Nat->PV->PV
 |0,_=> .un
 | f+1,p=>match p with
  | .un=> .un
  | .ud=> .ud
  | .sc v=> .sc v
  | .nil=> .nil
  | .agg cs=> .agg (cs.map (fz n h f))
  | .tup vs=> .tup (vs.map (fz n h f))
  | .ts k els=> .ts k (els.map fun e=>e.map (fz n h f))
  | .tc k els=> .tc k (els.map fun e=>e.map (fz n h f))
  | .vec r k els=>if r<n then .vec r k (els.map fun e=>e.map (fz n h f)) else .ts k (els.map fun e=>e.map (fz n h f))
  | .ms r off k len=>if r<n then .ms r off k len else match h[r]? with
   |some (.var _ cs)=> .ts k (wA (cs.map (fz n h f)) off k len)
   |_=> .un
  | .ptr r off=>if r<n then .ptr r off else match h[r]? with
   |some (.var _ cs)=> .tp ((cs.drop off).map (fz n h f))
   |_=> .un
  | .tp cs=> .tp (cs.map (fz n h f))
  | .fn g a b=> .fn g (a.map (fz n h f)) (b.map (fz n h f))
  | .ifc t p=> .ifc t (fz n h f p)
  | .mp r=>if r<n then .mp r else .un
  | .yl r=>if r<n then .yl r else .un
  | .it r=>if r<n then .it r else .un
def zm2(n:Nat)(h:Heap)(f:Nat):Blk->Blk
 | .var t cs=> .var t (cs.map (fz n h f))
 | .vec e k m=> .vec e k m
 | .map es=> .map (es.map fun x=>(x.1,fz n h f x.2))
 | .loop ts ps as bd st pd=> .loop (ts.map (fz n h f)) ps as bd st pd
 | .non=> .non
 | .old=> .old
 | .iter m k s=> .iter (m.filter fun r=>decide (r<n)) k s
 | .siter s p=> .siter s p
def zk3(n:Nat)(h:Heap)(f:Nat):Heap:=(h.take n).map (zm2 n h f)
theorem Blk.le_fz{n:Nat}{h:Heap}{f:Nat}{p:Prop}(hp:p)(b:Blk):Blk.le p b (zm2 n h f b):=by cases b<;>simp[zm2,Blk.le,hp]
def St.cut(S:St)(n f:Nat):St:=⟨S.φ.take n,zk3 n S.h f,S.w,S.x⟩
theorem cut_h{S:St}{n f r:Nat}{b:Blk}(h:(S.cut n f).h[r]? =some b):r<n/\ ∃b',S.h[r]? =some b'/\b=zm2 n S.h f b':=by
 simp only[St.cut,zk3,Qu,Xr] at h;split at h
 ·rename_i hr;cases hb:S.h[r]? with
  |none=>rw[hb] at h;cases h
  |some b'=>rw[hb] at h;cases h;exact⟨hr,b',rfl,rfl⟩
 ·cases h
theorem vO{S:St}{n f r:Nat}{b:Blk}(hr:r<n)(h:S.h[r]? =some b):(S.cut n f).h[r]? =some (zm2 n S.h f b):=by
 simp[St.cut,zk3,Xr,hr,h]
theorem zuB{S:St}{n f r:Nat}{v:Value}(h:(S.cut n f).φ[r]? =some v):r<n/\S.φ[r]? =some v:=by
 simp only[St.cut,Xr] at h;split at h
 ·exact⟨by assumption,h⟩
 ·cases h
theorem rD{S:St}{n f r:Nat}{v:Value}(hr:r<n)(h:S.φ[r]? =some v):(S.cut n f).φ[r]? =some v:=by
 simp[St.cut,Xr,hr,h]
theorem bZ{S:St}{n f:Nat}{a:Addr}{v:Value}(h:S.M a v):(S.cut n f).M a v:=by
 obtain⟨h1,h2,h3,h4,h5,h6⟩:=h;refine⟨h1,h2,h3,h4,h5,fun r u hu hb=> ?_⟩;obtain⟨hr,hu'⟩:=zuB hu;obtain⟨e,k,m,hh,ho⟩:=h6 r u hu' hb;exact⟨e,k,m,by rw[vO hr hh];rfl,ho⟩
theorem fG{S:St}(hS:SRel S){n f r b:Nat}{t:TypeId}{cs:List PV}(hr:n<=r)(hp:S.φ[r]? =some (.pointer (some ⟨b,0,none⟩)))(hb:S.h[r]? =some (.var t cs))(f':Nat):
  ∃val:Nat->Value,(∀j,j<cs.length->(S.cut n f).M ⟨b,j,none⟩ (val j))/\ ∀(j:Nat)(p:PV),cs[j]? =some p->VRel S p (val j):=by
 obtain⟨b',arr,he,hh,hsz,h1,hrel⟩:=hS.blks r _ _ hb hp;cases he;have hlt:b<S.w.heap.size:=(Qz.1 hh).1;refine⟨fun j=>arr.getD j undef,fun j hj=>⟨?_,?_,rfl,hlt,fun hx=>hS.xown _ hx r _ hp rfl,fun r' u hu hbu=> ?_⟩,fun j p hjp=> ?_⟩
 ·simp only[St.cut,World.cell?];rw[hh];have hj':j<arr.size:=Qf0;simp[Array.getD,hj']
 ·have hj':j<arr.size:=Qf0;refine h1 j _ ?_;simp[Array.getD,hj']
 ·obtain⟨hr',hu'⟩:=zuB hu;have:=hS.inj r r' _ _ _ hp hu' rfl hbu;omega
 ·have hj':j<arr.size:=Yf (gsi hjp).1 hsz;refine hrel j p _ hjp ?_;simp[Array.getD,hj']
theorem rQ(b off j:Nat):(⟨b,off,none⟩:Addr).add j=⟨b,off+j,none⟩:=by
 unfold Addr.add;split
 ·rename_i h;subst h;rfl
 ·rfl
theorem vW{α β:Type}{g:α->β}{l:List α}{i:Nat}{y:β}(h:(l.map g)[i]? =some y): ∃x,l[i]? =some x/\y=g x:=by
 exact Qcp
theorem ts_map{S S':St}{g:PV->PV}(hm: ∀a u,S.M a u->S'.M a u)(hg: ∀p u,VRel S p u->VRel S' (g p) u){k:Nat}{els:List (List PV)}{v:Value}(h:VRel S (.ts k els) v):
  VRel S' (.ts k (els.map fun e=>e.map g)) v:=by
 cases h with
 | ts hl hc hmx hk ad ha val hv h=>
  refine .ts Qf5 hc hmx (fun i e he=> ?_) ad ha val (fun j hj=>hm _ _ (hv j hj)) (fun i e j p hi hp=> ?_)
  ·obtain⟨e',he',rfl⟩:=vW he;simp[hk i e' he']
  ·obtain⟨e',he',rfl⟩:=vW hi;obtain⟨p',hp',rfl⟩:=vW hp;exact hg _ _ (h i e' j p' he' hp')
theorem bY{S:St}(hS:SRel S)(n F:Nat): ∀(f:Nat){p:PV}{v:Value},VRel S p v->VRel (S.cut n F) (fz n S.h f p) v:=by
 intro f
 induction f with
 |zero=>intro p v _;exact .un
 | succ f ih=>
  intro p v h;cases h with
  |un=>exact .un
  |ud=>exact .ud
  |sc h=>exact .sc h
  |nil=>exact .nil
  |agg hl h1 h=>
   refine .agg Qf5 h1 fun i p v hp hv=> ?_;exact Qd3
  |tup hl h=>
   refine .tup Qf5 fun i p v hp hv=> ?_;exact Qd3
  |ts hl hc hm hk ad ha val hv h=>exact ts_map (fun _ _ h=>bZ h) (fun _ _ h=>ih h) (.ts hl hc hm hk ad ha val hv h)
  |tc ht=>exact .tc (ts_map (fun _ _ h=>bZ h) (fun _ _ h=>ih h) ht)
  | vec ht hb hle ho=>
   rename_i r k m e els;simp only[fz];have ht':=ts_map (S':=S.cut n F) (fun _ _ h=>bZ h) (fun _ _ h=>ih h) ht;split
   ·rename_i hr;exact .vec ht' Qgf (by simpa using hle) (fun e=>rD hr (ho (by simpa using e)))
   ·exact ht'
  | oms hb hc hm=>
   simp only[fz];split
   ·rename_i hr;exact .oms Qgf hc hm
   ·rw[hb];exact .un
  | optr hb=>
   simp only[fz];split
   ·rename_i hr;exact .optr Qgf
   ·rw[hb];exact .un
  | ms hp hb hl hc hm hz=>
   rename_i r off k len c b t cs;simp only[fz];split
   ·rename_i hr;exact .ms (rD hr hp) Qgf Qfu hc hm hz
   ·rename_i hr;rw[hb];obtain⟨val,hv,hrel⟩:=fG hS (n:=n) (f:=F) Qf0 hp hb 0;refine .ts (by simp[wA]) hc hm (fun i e he=> ?_) ⟨b,off,none⟩ (fun _=>rfl) (fun j=>val (off+j)) (fun j hj=> ?_) (fun i e j p hi hp'=> ?_)
    ·obtain⟨hi,rfl⟩:=vN he;simp only[Xk,List.length_drop,Qr];have:=Zv k (show i+1<=len from hi);rw[Wo] at this;omega
    ·have:=hv (off+j) Qf0
     rwa [<-rQ] at this
    ·obtain⟨hi',rfl⟩:=vN hi;rw[Xr] at hp';split at hp'
     ·rw[Yg] at hp';obtain⟨q,hq,rfl⟩:=vW hp';have:=ih (hrel _ q hq)
      rwa [Ji] at this
     ·cases hp'
  | ptr hp hb=>
   rename_i r off b t cs;simp only[fz];split
   ·rename_i hr;exact .ptr (rD hr hp) Qgf
   ·rename_i hr;rw[hb];obtain⟨val,hv,hrel⟩:=fG hS (n:=n) (f:=F) Qf0 hp hb 0;refine .tp (fun j=>val (off+j)) (fun j hj=> ?_) (fun j p hp'=> ?_)
    ·simp at hj;have:=hv (off+j) Qf0
     rwa [<-rQ] at this
    ·obtain⟨q,hq,rfl⟩:=vW hp';rw[Yg] at hq;exact ih (hrel _ q hq)
  |tp val hv h=>
   refine .tp val (fun j hj=>bZ (hv j Qfv)) fun j p hp=> ?_;obtain⟨q,hq,rfl⟩:=vW hp;exact ih (h j q hq)
  | fn hl hl' h h'=>
   refine .fn Qf5 (by simp[hl']) (fun i p v hp hv=> ?_) (fun i p v hp hv=> ?_)
   ·exact Qd3
   ·obtain⟨q,hq,rfl⟩:=vW hp;exact ih (h' i q v hq hv)
  |ifc h=>exact .ifc (ih h)
  | mp hp hb=>
   simp only[fz];split
   ·rename_i hr;exact .mp (rD hr hp) Qgf
   ·exact .un
  | yl hp hb=>
   simp only[fz];split
   ·rename_i hr;exact .yl (rD hr hp) Qgf
   ·exact .un
  | it hp hb hi=>
   rename_i c;simp only[fz];split
   ·rename_i hr;exact .it (rD hr hp) (vO hr hb) (by cases c<;>simp only[Blk.isIt,Zo] at hi<;>rfl)
   ·exact .un
theorem zhT{S:St}(hS:SRel S)(n F:Nat):SRel (S.cut n F):=by
 refine⟨?_,fun r b v hb hv=> ?_,fun r r' v v' m hv hv'=>hS.inj r r' v v' m (zuB hv).2 (zuB hv').2,hS.xlt,fun a ha r v hv=>hS.xown a ha r v (zuB hv).2⟩
 ·simp only[St.cut,zk3,Qr,Xk,hS.len]
 ·obtain⟨hr,b',hb',rfl⟩:=cut_h hb;have h0:=hS.blks r b' v hb' (zuB hv).2;cases b' with
  |var t cs=>
   obtain⟨b,arr,he,hh,hsz,h1,hrel⟩:=h0;refine⟨b,arr,he,hh,by simp[hsz],h1,fun i p u hp hu=> ?_⟩;obtain⟨q,hq,rfl⟩:=vW hp;exact bY hS n F F (hrel i q u hq hu)
  |vec e k m=>exact h0
  |map es=>
   obtain⟨b,clock,entries,he,hh,hsz,h1,hrel⟩:=h0;refine⟨b,clock,entries,he,hh,by simp[hsz],⟨h1.1,fun q hq=>by obtain⟨q',hq',rfl⟩:=Xf.1 hq;exact h1.2.1 q' hq',h1.2.2⟩,fun i e q hi hq=> ?_⟩;obtain⟨q',hq',rfl⟩:=vW hq;obtain⟨hk,hv⟩:=hrel i e q' hi hq';exact⟨hk,bY hS n F F hv⟩
  |loop ts ps as bd st pd=>
   obtain⟨b,L,he,hh,k1,k2,k3,k4,k5,k6,k7⟩:=h0;refine⟨b,L,he,hh,k1,k2,k3,k4,k5,by simp[k6],fun i p hp=> ?_⟩;obtain⟨q,hq,rfl⟩:=vW hp;exact bY hS n F F (k7 i q hq)
  |iter m k s=>
   obtain⟨b,bm,he,hh,h1⟩:=h0;refine⟨b,bm,he,hh,fun r hr=> ?_⟩;rw[Option.filter_eq_some_iff] at hr;obtain⟨es,bk,g1,g2,g3⟩:=h1 r hr.1;have hlt:r<n:=by simpa using hr.2
   exact⟨_,bk,vO hlt g1,rD hlt g2,g3⟩
  |siter s p=>exact h0
  |non=>exact h0
  |old=>exact h0
theorem zb4{S₀ S:St}(hS:SRel S)(x:Ext S₀ S)(n F:Nat)(hn:S₀.h.length<=n):Ext S₀ (S.cut n F):=by
 refine⟨x.x,x.os,x.tape,x.output,x.size,fun b hb ho=> ?_,fun a v h=>bZ (x.mem a v h),fun r b hb=> ?_,x.rows⟩
 ·obtain⟨h1,h2⟩:=x.unt b hb ho;refine⟨?_,h2⟩;rintro⟨r,v,hv,hbv⟩;exact h1 ⟨r,v,(zuB hv).2,hbv⟩
 ·have hr:r<n:=Yf (gsi hb).1 hn;obtain⟨b',hb',hl⟩:=x.blks r b hb;refine⟨_,vO hr hb',?_⟩;have e:(S.cut n F).φ[r]? =S.φ[r]? :=by simp[St.cut,Xr,hr]
  rw[e];refine Blk.le_trans hl (Blk.le_fz (p:=True) trivial b') fun h _=>h
theorem ACall.cut{P:Program}{G:Glob}{f:FuncId}{args:List PV}{h:Heap}{R:PV->Heap->Prop}(n F:Nat)(hn:h.length<=n)
  (k:ACall P G f args h fun p h'=>R (fz n h' F p) (zk3 n h' F)):ACall P G f args h R:=by
 refine⟨k.1,fun φ w X vs a b c d=>(k.2 φ w X vs a b c d).mono ?_⟩;rintro e w' ⟨φ',h',p,v,he,x,hs,hv,hr⟩;have x':=zb4 hs x n F hn;exact⟨φ'.take n,zk3 n h' F,fz n h' F p,v,he,x',zhT hs n F,bY hs n F F hv,hr⟩
def nW{α:Type}[CK α](P:Program)(ts:List PV)(h:Heap):ResultVar->Option (PV×α)
 | .tmp t=>some (ts.getD t .un,CK.cnd True)
 | .cell a t=>match ts.getD a .un with
  | .ptr r o=>match h[r]? with
   |some (.var _ cs)=>zk5 P t (cs.drop o)
   |_=>none
  |_=>none
def qD{α:Type}[CK α](P:Program)(ts:List PV)(h:Heap):List ResultVar->Option (List PV×α)
 | []=>some ([],CK.cnd True)
 | x::xs=>match nW P ts h x with
  |some (p,c)=>match qD P ts h xs with
   |some (ps,d)=>some (p::ps,CK.both c d)
   |none=>none
  |none=>none
def nV{α:Type}[CK α](P:Program)(ts:List PV)(h:Heap)(xs:List ResultVar):Option (PV×α):=
 match qD P ts h xs with
 |some ([p],c)=>some (p,c)
 |some (ps,c)=>some (.tup ps,c)
 |none=>none
theorem zgU{P:Program}{S:St}{ts:List PV}{tmps:Array Value}(hS:SRel S)(hT:TRel S ts tmps){x:ResultVar}{p:PV}{c:Prop}(he:nW P ts S.h x=some (p,c))(hc:c):
  ∃v,Sem.run P (match x with| .tmp t=>pure (tmps.getD t undef)| .cell a t=>do loadVar t (←asAddr (tmps.getD a undef)):Sem Value) S.w= .ok v S.w/\VRel S p v:=by
 cases x with
 |tmp t=>
  simp only[nW] at he;cases he;refine⟨_,rfl,?_⟩;cases h:ts[t]? with
  |none=>rw[Qb,h];exact .un
  |some p=>rw[Qb,h];exact hT.rel t p h
 | cell a t=>
  simp only[nW] at he;split at he
  ·rename_i r o hr;split at he
   ·rename_i T cs hh;rw[Qb] at hr;cases h:ts[a]? with
    |none=>rw[h] at hr;cases hr
    | some q=>
     rw[h] at hr;simp only[Wv] at hr;subst hr;have h1:=hT.rel a _ h;simp only[];generalize tmps.getD a undef=u at h1 ⊢
     cases h1 with
     |optr hb=>rw[hh] at hb;cases hb
     | ptr hp hb=>
      rw[hh] at hb;cases hb;obtain⟨b',arr,e,hhp,hsz,h1,hrel⟩:=hS.blks r _ _ hh hp;cases e;obtain⟨v,hv,hr⟩:=sS (S:=S) (t:=t) (P:=P) (a:=⟨_,o,none⟩) (cs:=cs.drop o) (fun j=>arr.getD (o+j) undef)
       (fun j hj=>by
        have hj':o+j<arr.size:=by simp at hj;omega
        rw[rQ];simp only[World.cell?];rw[hhp];refine⟨by simp[Array.getD,hj'],h1 (o+j) _ ?_⟩;simp[Array.getD,hj'])
       (fun j q hq=>by
        rw[Yg] at hq;have hj':o+j<arr.size:=Yf (gsi hq).1 hsz;exact hrel (o+j) q _ hq (by simp[Array.getD,hj'])) he hc
      exact⟨v,by simp[asAddr,hv],hr⟩
   ·cases he
  ·cases he
theorem zgT{P:Program}{S:St}{ts:List PV}{tmps:Array Value}(hS:SRel S)(hT:TRel S ts tmps): ∀{xs:List ResultVar}{ps:List PV}{c:Prop},qD P ts S.h xs=some (ps,c)->c->
  ∃vs:List Value,Sem.run P (xs.mapM fun| .tmp t=>pure (tmps.getD t undef)| .cell a t=>do loadVar t (←asAddr (tmps.getD a undef))) S.w= .ok vs S.w/\vs.length=ps.length/\
   ∀(i:Nat)(p:PV)(v:Value),ps[i]? =some p->vs[i]? =some v->VRel S p v:=by
 intro xs
 induction xs with
 |nil=>
  intro ps c he _;simp only[qD] at he;cases he;exact⟨[],rfl,rfl,fun i p v h=>by simp at h⟩
 | cons x xs ih=>
  intro ps c he hc;simp only[qD] at he;split at he
  ·rename_i p c1 h1;split at he
   ·rename_i qs d h2;cases he;rw[wE] at hc;obtain⟨v,hv,hr⟩:=zgU hS hT h1 hc.1;obtain⟨vs,hvs,hl,hrs⟩:=ih h2 hc.2;refine⟨v::vs,?_,by simp[hl],fun i q u hq hu=> ?_⟩
    ·rw[List.mapM_cons];simp only[Xp,hvs,Xd,Yc];cases x<;>simp_all[Xp]
    ·cases i with
     |zero=>simp at hq hu;subst hq;subst hu;exact hr
     |succ i=>exact hrs i q u Qfy Qfx
   ·cases he
  ·cases he
theorem zkG{P:Program}{S:St}{ts:List PV}{tmps:Array Value}{fn:Func}(hS:SRel S)(hT:TRel S ts tmps){p:PV}{c:Prop}(he:nV P ts S.h fn.results.toList=some (p,c))(hc:c):
  ∃v,(results fn tmps).run P S.w= .ok v S.w/\VRel S p v:=by
 unfold nV at he;have key: ∀{ps:List PV}{d:Prop},qD P ts S.h fn.results.toList=some (ps,d)->d-> ∃vs:Array Value,(results fn tmps).run P S.w= .ok (if h:vs.size=1 then vs[0] else .tuple vs) S.w/\vs.size=ps.length/\
   ∀(i:Nat)(p:PV)(v:Value),ps[i]? =some p->vs[i]? =some v->VRel S p v:=by
  intro ps d h hd;obtain⟨vs,hvs,hl,hr⟩:=zgT hS hT h hd;refine⟨vs.toArray,?_,by simp[hl],fun i p v hp hv=>hr i p v hp (by simpa using hv)⟩;unfold results;rw[Array.mapM_eq_mapM_toList];simp only[Xp,Sem.run_map];erw [hvs];rfl
 split at he
 ·rename_i q d h;cases he;obtain⟨vs,hrun,hsz,hr⟩:=key h hc;simp at hsz;rw[dif_pos hsz] at hrun;exact⟨_,hrun,hr 0 _ _ rfl Qfi⟩
 ·rename_i qs d hne h;cases he;obtain⟨vs,hrun,hsz,hr⟩:=key h hc;have hne1: ¬vs.size=1:=fun e=>by
   rw[hsz] at e
   match qs,e,hne with
   | [q],_,hne=>exact hne q rfl
  rw[dif_neg hne1] at hrun;exact⟨_,hrun,.tup hsz hr⟩
 ·cases he
def AEnd(P:Program)(fn:Func)(R:PV->Heap->Prop):Exit->List PV->Heap->Prop
 | .normal,ts,h| .ret,ts,h=>match nV (α:=Prop) P ts h fn.results.toList with
  |some (p,c)=>c/\R p h
  |none=>False
 |_,_,_=>False
theorem World.cell_deferred{w:World}{r:Nat}{ds:Option (List Deferred)}(h:w.heap[r]? =some (.deferred ds)){a:Addr}(ha:a.block=r):w.cell? a=none:=by
 unfold World.cell?;rw[ha,h]
theorem zc9{S:St}(hS:SRel S){r:Nat}{ds:List Deferred}(hlt:r<S.w.heap.size)(hb:S.w.heap[r]? =some (.deferred (some ds)))(hn: ¬S.Own r)(w':World)
  (hw:w'=S.w.putObj r (.deferred none)):SRel ⟨S.φ,S.h,w',S.x⟩/\ ∀p v,VRel S p v->VRel ⟨S.φ,S.h,w',S.x⟩ p v:=by
 have hsz:w'.heap.size=S.w.heap.size:=by rw[hw];simp
 have hoth: ∀k,k≠r->w'.heap[k]? =S.w.heap[k]? :=fun k hk=>by rw[hw];exact World.putObj_heap_other hk
 have hM: ∀a v,S.M a v->St.M ⟨S.φ,S.h,w',S.x⟩ a v:=by
  rintro a v ⟨h1,h2,h3,h4,h5,h6⟩;have hne:a.block≠r:=fun e=>by rw[World.cell_deferred hb e] at h1;cases h1
  exact⟨(World.cell?_of_block (hoth _ hne)).trans h1,h2,h3,by simp only[];omega,h5,h6⟩
 have hR: ∀b m,S.Row b m->St.Row ⟨S.φ,S.h,w',S.x⟩ b m:=by
  rintro b m ⟨ar,t1,f1,h1,h2⟩;refine⟨ar,t1,f1,(hoth b fun e=> ?_).trans h1,h2⟩;subst e;rw[hb] at h1;cases h1
 have hV: ∀p v,VRel S p v->VRel ⟨S.φ,S.h,w',S.x⟩ p v:=by
  intro p v h
  induction h with
  |un=>exact .un
  |ud=>exact .ud
  |sc h=>exact .sc h
  |nil=>exact .nil
  |agg hl h1 _ ih=>exact .agg hl h1 ih
  |tup hl _ ih=>exact .tup hl ih
  |ts hl hc hm hk ad ha val hv _ ih=>exact .ts hl hc hm hk ad ha val (fun j hj=>hM _ _ (hv j hj)) ih
  |tc _ ih=>exact .tc ih
  |vec ht hb hle ho ih=>exact .vec ih hb hle ho
  |ms hp hb hl hc hm hz=>exact .ms hp hb hl hc hm (hR _ _ hz)
  |oms hb hc hm=>exact .oms hb hc hm
  |optr hb=>exact .optr hb
  |ptr hp hb=>exact .ptr hp hb
  |tp val hv _ ih=>exact .tp val (fun j hj=>hM _ _ (hv j hj)) ih
  |fn hl hl' _ _ ih ih'=>exact .fn hl hl' ih ih'
  |ifc _ ih=>exact .ifc ih
  |mp hp hb=>exact .mp hp hb
  |yl hp hb=>exact .yl hp hb
  |it hp hb hi=>exact .it hp hb hi
 refine⟨⟨hS.len,fun k b v hk hv=> ?_,hS.inj,fun a ha=>by simp only[];rw[hsz];exact hS.xlt a ha,hS.xown⟩,hV⟩;have h0:=hS.blks k b v hk hv;have hnb: ∀n,sC v=some n->n≠r:=fun n hbn e=>hn ⟨k,v,hv,by rw[hbn,e]⟩;cases b with
 |var t cs=>
  obtain⟨b,arr,rfl,hh,hsz',h1,hrel⟩:=h0;exact⟨b,arr,rfl,(hoth b (hnb b rfl)).trans hh,hsz',h1,fun i p u hp hu=>hV _ _ (hrel i p u hp hu)⟩
 |vec e k m=>
  rcases h0 with h0|⟨b,c,arr,rfl,hh,h0⟩
  ·exact .inl h0
  ·exact .inr ⟨b,c,arr,rfl,(hoth b (hnb b rfl)).trans hh,h0⟩
 |map es=>
  obtain⟨b,clock,entries,rfl,hh,hsz',h1,hrel⟩:=h0;exact⟨b,clock,entries,rfl,(hoth b (hnb b rfl)).trans hh,hsz',h1,fun i e q hi hq=>⟨(hrel i e q hi hq).1,hV _ _ (hrel i e q hi hq).2⟩⟩
 |loop ts ps as bd st pd=>
  obtain⟨b,L,rfl,hh,k1,k2,k3,k4,k5,k6,k7⟩:=h0;exact⟨b,L,rfl,(hoth b (hnb b rfl)).trans hh,k1,k2,k3,k4,k5,k6,fun i p hp=>hV _ _ (k7 i p hp)⟩
 |iter m k s=>
  obtain⟨b,bm,rfl,hh,h1⟩:=h0;exact⟨b,bm,rfl,(hoth b (hnb b rfl)).trans hh,h1⟩
 |siter s p=>
  obtain⟨b,rfl,hh,h1⟩:=h0;exact⟨b,rfl,(hoth b (hnb b rfl)).trans hh,h1⟩
 |non=>exact h0
 |old=>exact h0
theorem fW{P:Program}{fn:Func}{R:Ending->World->Prop}{ts:List PV}{tmps:Array Value}{p:PV}{c:Prop}(hc:c): ∀(rs:List Nat)(S:St),SRel S->TRel S ts tmps->nV P ts S.h fn.results.toList=some (p,c)->
  rs.Nodup->(∀r∈rs,r<S.w.heap.size/\S.w.heap[r]? =some (.deferred (some []))/\ ¬S.Own r)->
  (∀w' v,SRel ⟨S.φ,S.h,w',S.x⟩->VRel ⟨S.φ,S.h,w',S.x⟩ p v->w'.heap.size=S.w.heap.size->w'.os=S.w.os->TapeLe S.w w'->w'.output=S.w.output->(∀k,k∉rs->w'.heap[k]? =S.w.heap[k]?)->
   R (.returned v) w')->LeavesInM Fence.wide 0 P fn tmps R (rs.map fun r=>⟨.collected r, #[]⟩) .returning S.w:=by
 intro rs
 induction rs with
 |nil=>
  intro S hS hT he _ _ hR;obtain⟨v,hv,hr⟩:=zkG hS hT he hc;exact⟨v,hv,hR S.w v hS hr rfl rfl ztC rfl fun _ _=>rfl⟩
 | cons r rs ih=>
  intro S hS hT he hnd hrs hR;obtain⟨hlt,hb,hn⟩:=hrs r Qf1;obtain⟨hS',hV⟩:=zc9 hS hlt hb hn _ rfl;rw[Zs] at hnd;refine⟨Qf1,.inl ⟨r,_,rfl,run_takeDeferred hb,?_⟩⟩;refine ih ⟨S.φ,S.h,S.w.putObj r (.deferred none),S.x⟩ hS' ⟨hT.size,fun i q hq=>hV _ _ (hT.rel i q hq)⟩ he hnd.2 (fun k hk=> ?_) (fun w' v h1 h2 h3 h4 h5 h6 h7=> ?_)
  ·obtain⟨k1,k2,k3⟩:=hrs k Qf6;have hne:k≠r:=fun e=>hnd.1 (e▸hk);exact⟨by simpa using k1,(World.putObj_heap_other hne).trans k2,k3⟩
  ·refine hR w' v h1 h2 (by simpa using h3) h4 ⟨h5.tape,h5.drawn⟩ h6 fun k hk=> ?_;simp only[Qw,not_or] at hk;exact(h7 k hk.2).trans (World.putObj_heap_other hk.1)
theorem uF{P:Program}{G:Glob}{f:FuncId}{fn:Func}{c:Code}{args:List PV}{h:Heap}{R:PV->Heap->Prop}(hf:P.funcs[f]? =some fn)(hb:fn.body=some c)
  (hen:uG P f=true) (k:AWp P G none c (AEnd P fn R) (args++List.replicate (fn.ntmps-args.length) .ud) h):ACall P G f args h R:=by
 refine⟨hen,fun φ w X vs hS hG hl hv=> ?_⟩;refine callsIn_of_wp_marks hf hb trivial ?_;have hA:ARel w.heap.size ⟨φ,h,w,X⟩ G (args++List.replicate (fn.ntmps-args.length) .ud) {tmps:=vs++Array.replicate (fn.ntmps-vs.size) undef,defers:=[]}:=by
  refine⟨hS,hG,⟨by simp[hl],fun i p hp=> ?_⟩,⟨[],rfl,Qf1,Qf1⟩,Xe _⟩;rw[Qs] at hp;split at hp
  ·rename_i hlt;have hlt':i<vs.size:=Qf0;have h1:(vs++Array.replicate (fn.ntmps-vs.size) undef).getD i undef=vs[i]:=by
    rw[Yx,Array.getElem?_append_left hlt'];simp[hlt']
   rw[h1];exact hv i p _ hp (by simp[hlt'])
  ·have hge:vs.size<=i:=Qf0;rw[Zf] at hp;split at hp
   ·cases hp;have h1:(vs++Array.replicate (fn.ntmps-vs.size) undef).getD i undef=undef:=by
     rw[Yx,Array.getElem?_append_right hge,Array.getElem?_replicate];split<;>rfl
    rw[h1];exact .ud
   ·cases hp
 refine wpIn_mono (k w.heap.size φ w X _ hA) ?_;rintro e a' w' ⟨φ',ts',h',x,hA',q⟩;have fin:(match nV (α:=Prop) P ts' h' fn.results.toList with|some (p,c)=>c/\R p h'|none=>False)->
   LeavesInM Fence.wide 0 P fn a'.tmps (fun e w'=> ∃(φ':List Value)(h':Heap)(p:PV)(v:Value),e= .returned v/\Ext ⟨φ,h,w,X⟩ ⟨φ',h',w',X⟩/\SRel ⟨φ',h',w',X⟩/\VRel ⟨φ',h',w',X⟩ p v/\R p h') a'.defers .returning w':=by
  intro q;split at q
  ·rename_i p c he;obtain⟨rs,hds,hnd,hrs⟩:=hA'.mark;rw[hds];refine fW q.1 rs ⟨φ',h',w',X⟩ hA'.st hA'.tr he hnd (fun r hr=>(hrs r hr).2) fun w'' v h1 h2 h3 h4 h5 h6 h7=> ?_;refine⟨φ',h',p,v,rfl,⟨rfl,h4.trans x.os,x.tape.trans h5,h6.trans x.output,by have:=x.size;simp only[] at*;omega,fun b hb ho=> ?_,fun a u hm=> ?_,x.blks,fun b m hr=>by
    obtain⟨ar,t1,f1,g1,g2⟩:=x.rows b m hr;refine⟨ar,t1,f1,(h7 b fun hbr=> ?_).trans g1,g2⟩;have:=(hrs b hbr).2.2.1;simp only[] at this g1;rw[this] at g1;cases g1⟩,h1,h2,q.2⟩
   ·obtain⟨k1,k2⟩:=x.unt b hb ho;refine⟨k1,(h7 b fun hbr=> ?_).trans k2⟩;have:=(hrs b hbr).1;simp only[] at hb;omega
   ·obtain⟨m1,m2,m3,m4,m5,m6⟩:=x.mem a u hm;have hblk:a.block∉rs:=fun hr=>by
     have:=hrs _ hr;rw[World.cell_deferred this.2.2.1 rfl] at m1;cases m1
    exact⟨(World.cell?_of_block (h7 _ hblk)).trans m1,m2,m3,by simp only[] at*;omega,m5,m6⟩
  ·exact q.elim
 cases e with
 |normal=>exact fin q
 |ret=>exact fin q
 |_=>exact q.elim
def St.fill(S:St)(r:Nat)(v:Value)(b:Blk):St:={S with φ:=S.φ.set r v,h:=S.h.set r b}
theorem zf8{S S1:St}(x:Ext S S1)(hS:SRel S)(hl1:S1.φ=S.φ)(hh1:S1.h=S.h){r:Nat}(hr:S.h[r]? =some .non)(v:Value)(b:Blk)(hb: ∀n,sC v=some n->S.w.heap.size<=n):Ext S (S1.fill r v b):=by
 refine⟨x.x,x.os,x.tape,x.output,x.size,fun n hn ho=>⟨?_,(x.unt n hn ho).2⟩,fun a u hm=> ?_,fun r' c hc=> ?_,x.rows⟩
 ·rintro⟨r',u,hp,hu⟩;simp only[St.fill,hl1,Qq] at hp;split at hp
  ·split at hp
   ·cases hp;have:=hb n hu;omega
   ·cases hp
  ·exact ho ⟨r',u,hp,hu⟩
 ·obtain⟨h1,h2,h3,h4,h5,h6⟩:=x.mem a u hm;have hlt:=hm.2.2.2.1;refine⟨h1,h2,h3,h4,h5,fun r' y hp hy=> ?_⟩;simp only[St.fill,Qq] at hp ⊢
  split at hp
  ·split at hp
   ·cases hp;have:=hb _ hy;omega
   ·cases hp
  ·rename_i hne;obtain⟨e,k,n,hh,ho⟩:=h6 r' y hp hy;exact⟨e,k,n,by rw[Qi hne];exact hh,ho⟩
 ·by_cases hne:r=r'
  ·subst hne;rw[hr] at hc;cases hc;have hlt:r<S.h.length:=(gsi hr).1;exact⟨b,by simp[St.fill,hh1,hlt],trivial⟩
  ·refine⟨c,?_,Blk.le_refl c ?_⟩
   ·simp only[St.fill,hh1,Qq,Qi hne];exact hc
   ·simp only[St.fill,hl1,Qq,Qi hne]
theorem zc7{S S1:St}{v:Value}{b:Blk}{r:Nat}(hS:SRel S)(hr:S.h[r]? =some .non)(x:Ext S (S1.fill r v b))(hφ:S1.φ=S.φ)(hh:S1.h=S.h)(hx:S1.x=S.x)
  (hw: ∀n,n<S.w.heap.size->S1.w.heap[n]? =S.w.heap[n]?) (hnew:BRel (S1.fill r v b) b v) (hno: ∀n,sC v=some n->S.w.heap.size<=n):SRel (S1.fill r v b):=by
 have hlt:r<S.h.length:=(gsi hr).1;have get: ∀{α:Type}{l:List α}{y z:α}{r':Nat},(l.set r y)[r']? =some z->(r=r'/\z=y)\/(r≠r'/\l[r']? =some z):=by
  intro α l y z r' h;rw[Qq] at h;split at h
  ·rename_i e;split at h
   ·cases h;exact .inl ⟨e,rfl⟩
   ·cases h
  ·rename_i e;exact .inr ⟨e,h⟩
 refine⟨by simp[St.fill,hφ,hh,hS.len],fun r' c u hb hvv=> ?_,fun r1 r2 u u' n hp hp' hn hn'=> ?_,fun a ha=> ?_,fun a ha r' u hp=> ?_⟩
 ·simp only[St.fill,hφ,hh] at hb hvv;rcases get hb with ⟨e,rfl⟩|⟨e,hb⟩<;>rcases get hvv with ⟨e',rfl⟩|⟨e',hvv⟩
  ·exact hnew
  ·exact absurd e e'
  ·exact absurd e' e
  ·exact(hS.blks r' c u hb hvv).ext x fun n hn=>hw n (hS.own_lt ⟨r',u,hvv,hn⟩)
 ·simp only[St.fill,hφ] at hp hp';rcases get hp with ⟨e,e1⟩|⟨e,g1⟩<;>rcases get hp' with ⟨e',e2⟩|⟨e',g2⟩
  ·omega
  ·have h1:=hno n (e1▸hn);have h2:=hS.own_lt ⟨r2,u',g2,hn'⟩;omega
  ·have h1:=hno n (e2▸hn');have h2:=hS.own_lt ⟨r1,u,g1,hn⟩;omega
  ·exact hS.inj r1 r2 u u' n g1 g2 hn hn'
 ·have:=hS.xlt a (by simpa [St.fill,hx] using ha);exact Yf this x.size
 ·have hxa:S.x a:=by simpa [St.fill,hx] using ha
  simp only[St.fill,hφ] at hp;rcases get hp with ⟨_,rfl⟩|⟨_,hp⟩
  ·intro hb;have h1:=hno _ hb;have h2:=hS.xlt a hxa;omega
  ·exact hS.xown a hxa r' u hp
theorem iF{S:St}(hS:SRel S){r:Nat}(hr:S.h[r]? =some .non)(t:TypeId)(cs:List PV)(vs:Array Value)(hc:CRel S cs vs):
  let S':=({S with w:=S.w.alloc (.cells vs t)}:St).fill r (.pointer (some ⟨S.w.heap.size,0,none⟩)) (.var t cs)
  Ext S S'/\SRel S'/\S'.φ[r]? =some (.pointer (some ⟨S.w.heap.size,0,none⟩))/\S'.h[r]? =some (.var t cs):=by
 intro S';have hlt:r<S.h.length:=(gsi hr).1;have x:Ext S S':=zf8 (wT hS _) hS rfl rfl hr _ _ Qha;refine⟨x,zc7 hS hr x rfl rfl rfl (fun n hn=>Below.heap_alloc _ _ _ hn) ⟨S.w.heap.size,vs,rfl,heap_alloc_new _ _,Nat.le_of_eq hc.len.symm,hc.one,fun i p u hp hu=>(hc.rel i p u hp hu).ext x⟩ Qha,?_,?_⟩
 ·simp[S',St.fill,hS.len,hlt]
 ·simp[S',St.fill,hlt]
def vH{α:Type}[CK α](P:Program)(r:Nat)(f:Operand->PV):Op->Option (PV×Blk×α)
 | .alloc t=>match zS P t with
  |some z=>if wI (nI z) then some (.ptr r 0,.var t (xD (nI z)),CK.cnd True) else none
  |none=>none
 | .box t x=>if wI (f x) then some (.ptr r 0,.var t (xD (f x)),CK.cnd True) else none
 | .makeSlice t l c=>match wD P t with
  |some (e,k,b)=>match zS P e,f l,f c with
   | some z,.sc (.int .i64 n),.sc (.int .i64 m)=>if wI (nI z) then
     some (.ms r 0 k n.toNat,.var e (List.replicate n.toNat (xD (nI z))).flatten,CK.cnd (n=m/\0<=n/\n*b<=140737488355328/\n<=140737488355328)) else none
   |_,_,_=>none
  |none=>none
 |_=>none
theorem zd1{P:Program}{S:St}{ρ:Operand->Value}{f:Operand->PV}{o:Oper}{r:Nat}{p:PV}{b:Blk}{c:Prop}(hS:SRel S)(hx: ∀x∈o.op.operands,VRel S (f x) (ρ x))(hr:S.h[r]? =some .non)
  (he:vH P r f o.op=some (p,b,c)) (hc:c): ∃φ' w' v,(execOp ρ o).run P S.w= .ok (.value v) w'/\Ext S {S with φ:=φ',h:=S.h.set r b,w:=w'}/\SRel {S with φ:=φ',h:=S.h.set r b,w:=w'}/\
   VRel {S with φ:=φ',h:=S.h.set r b,w:=w'} p v:=by
 have fin: ∀{s:Sem Value}{φ':List Value}{w':World}{v:Value},s.run P S.w= .ok v w'->Ext S {S with φ:=φ',h:=S.h.set r b,w:=w'}->SRel {S with φ:=φ',h:=S.h.set r b,w:=w'}->VRel {S with φ:=φ',h:=S.h.set r b,w:=w'} p v->
   ∃φ' w' v,Sem.run P (do pure (.value (←s)):Sem Next) S.w= .ok (.value v) w'/\Ext S {S with φ:=φ',h:=S.h.set r b,w:=w'}/\SRel {S with φ:=φ',h:=S.h.set r b,w:=w'}/\
   VRel {S with φ:=φ',h:=S.h.set r b,w:=w'} p v:=by
  intro s φ' w' v hr x hs hv;exact⟨φ',w',v,by simp only[Xp,hr,Xd,Yc],x,hs,hv⟩
 unfold execOp;cases hop:o.op with
 |alloc t=>
  rw[hop] at he hx;simp only[vH,vL,wE] at he;split at he
  case h_2=>cases he
  rename_i z hz;split at he
  case isFalse=>cases he
  rename_i hsh;cases he;obtain⟨x,hS',hp,hb⟩:=iF hS hr t _ _ (vM (S:=S) hsh (sN S z));exact fin (w':=S.w.alloc (.cells z.cells t)) (by simp[Instr.alloc,mP hz,newVar,newRow]) x hS' (.ptr hp hb)
 |box t y=>
  rw[hop] at he hx;simp only[vH,vL,wE] at he;split at he
  case isFalse=>cases he
  rename_i hsh;cases he;obtain⟨x,hS',hp,hb⟩:=iF hS hr t _ _ (vM (S:=S) hsh (hx y Qgh));exact fin (w':=S.w.alloc (.cells (ρ y).cells t)) (by simp[Instr.box,newVar,newRow]) x hS' (.ptr hp hb)
 |makeSlice t l m=>
  rw[hop] at he hx;simp only[vH,vL,wE] at he;split at he
  case h_2=>cases he
  rename_i e k by' ht;split at he
  case h_2=>cases he
  rename_i z n m' hz hfl hfm;split at he
  case isFalse=>cases he
  rename_i hsh;cases he;obtain⟨rfl,h0,hb,hn⟩:=hc;have h1:=hx l Qgh;have h2:=hx m Qgh;rw[hfl] at h1;rw[hfm] at h2;have g1:ρ l= .int .i64 n:=by generalize ρ l=u at h1;cases h1;rfl
  have g2:ρ m= .int .i64 n:=by generalize ρ m=u at h2;cases h2;rfl
  obtain⟨htu,i,zv,hi,hzv,hsz,hby,hzs,hk0⟩:=uH ht;have:z=zv:=Qhx;subst this;obtain⟨m,rfl⟩:=Qm h0;have hc:=tQ (S:=S) hsh m;have hrun:=run_make (P:=P) S.w t e i z htu hi hzv .i64 .i64 m m h0 (Ug _) (by rw[hby,Int.mul_comm];omega) Qf0;rw[Xw] at hrun ⊢
  obtain⟨x,hS',hp,hb'⟩:=iF hS hr e _ _ hc;have hmx:(140737488355328:Nat)<=maxLen:=Qfo;have e0:m*k=m*z.cells.size:=by rw[hzs]
  have e1:madeCells z.cells (m*k)=(Array.range (m*z.cells.size)).map (z.cells[· %z.cells.size]!):=by rw[e0];rfl
  rw[hsz,e1] at hrun;refine fin (by rw[g1,g2];exact hrun) x hS' ?_;have hlen:((List.replicate m (xD (nI z))).flatten).length=m*k:=by rw[<-hc.len];simp[hzs]
  have hrow: ∀cs0,St.Row (({S with w:=S.w.alloc (.cells ((Array.range (m*z.cells.size)).map (z.cells[· %z.cells.size]!)) e)}:St).fill r (.pointer (some ⟨S.w.heap.size,0,none⟩)) cs0) S.w.heap.size (0+m*k):=fun cs0=>⟨_,_,_,heap_alloc_new _ _,by simp[hzs]⟩
  exact .ms hp hb' (by rw[hlen,Xw];omega) (Xe _) Qf0 (hrow _)
 |_=>rw[hop] at he;cases he
theorem zd2{P:Program}{r:Nat}{f:Operand->PV}{op:Op}{p:PV}{b:Blk}(e:vH P r f op=some (p,b,true)): ∃c:Prop,vH P r f op=some (p,b,c)/\c:=by
 have k:CkRel (γ:=PV×Blk) ((vH P r f op).map fun r=>((r.1,r.2.1),r.2.2)) ((vH P r f op).map fun r=>((r.1,r.2.1),r.2.2)):=by
  cases op<;>simp only[vH]<;>(repeat' split)
  all_goals first|exact zT|exact xB (γ:=PV×Blk) (_,_) _
 rw[e] at k;cases hc:vH (α:=Prop) P r f op with
 |none=>rw[hc] at k;exact k.elim
 |some r=>rw[hc] at k;obtain⟨q,hh,c⟩:=r;obtain⟨hq,k⟩:=k;cases hq;exact⟨c,rfl,k rfl⟩
def rY(h:Heap)(m:Nat):Heap:=h++List.replicate m .non
theorem zbG{S:St}(hS:SRel S)(m:Nat):Ext S ⟨S.φ++List.replicate m undef,rY S.h m,S.w,S.x⟩/\SRel ⟨S.φ++List.replicate m undef,rY S.h m,S.w,S.x⟩:=by
 have old: ∀{r:Nat}{v:Value}{n:Nat},(S.φ++List.replicate m undef)[r]? =some v->sC v=some n->S.φ[r]? =some v:=by
  intro r v n h hb;rw[Qs] at h;split at h
  ·exact h
  ·rw[Zf] at h;split at h
   ·cases h;simp[sC,undef] at hb
   ·cases h
 have x:Ext S ⟨S.φ++List.replicate m undef,rY S.h m,S.w,S.x⟩:=by
  refine⟨rfl,rfl,ztC,rfl,Xe _,fun b hb ho=>⟨?_,rfl⟩,fun a v hm=> ?_,fun r b hb=> ?_,fun _ _ h=>h⟩
  ·rintro⟨r,v,hv,hbv⟩;exact ho ⟨r,v,old hv hbv,hbv⟩
  ·obtain⟨h1,h2,h3,h4,h5,h6⟩:=hm;refine⟨h1,h2,h3,h4,h5,fun r v hv hb=> ?_⟩;obtain⟨e,k,n,hh,ho⟩:=h6 r v (old hv hb) hb;have hlt:r<S.h.length:=(gsi hh).1;exact⟨e,k,n,by simp only[rY];rw[Qs,Qj hlt];exact hh,ho⟩
  ·have hlt:r<S.h.length:=(gsi hb).1;have hlt':r<S.φ.length:=Qgt;exact⟨b,by simp only[rY];rw[Qs,Qj hlt];exact hb,Blk.le_refl b (by simp only[];rw[Qs,Qj hlt'])⟩
 refine⟨x,⟨by simp[rY,hS.len],fun r b v hb hv=> ?_,fun r r' v v' n hv hv' hb hb'=>hS.inj r r' v v' n (old hv hb) (old hv' hb') hb hb',hS.xlt,fun a ha r v hv hb=>hS.xown a ha r v (old hv hb) hb⟩⟩;by_cases hlt:r<S.h.length
 ·have hlt':r<S.φ.length:=Qgt;simp only[rY,Qs,Qj hlt] at hb;simp only[Qs,Qj hlt'] at hv;exact(hS.blks r b v hb hv).ext x fun n _=>rfl
 ·have hlt': ¬r<S.φ.length:=Qgt;simp only[rY,Qs,Qi hlt,Zf] at hb;simp only[Qs,Qi hlt',Zf] at hv;split at hb
  ·cases hb;split at hv
   ·cases hv;rfl
   ·cases hv
  ·cases hb
def rI(fb:List Nat)(h:Heap):Heap:=fb.foldl (fun h r=>h.set r .non) h
theorem qO{fb:List Nat}: ∀{h:Heap}{r:Nat},(rI fb h)[r]? =if r∈fb/\r<h.length then some .non else h[r]? :=by
 induction fb with
 |nil=>intro h r;simp[rI]
 | cons s fb ih=>
  intro h r;have:rI (s::fb) h=rI fb (h.set s .non):=rfl;rw[this,ih];simp only[Xb,Qw];by_cases h1:r∈fb/\r<h.length
  ·rw[Qj h1,Qj ⟨.inr h1.1,h1.2⟩]
  ·rw[Qi h1,Qq];by_cases h2:s=r
   ·subst h2;by_cases h3:s<h.length
    ·simp[h3]
    ·simp[h3]
   ·rw[Qi h2];have h3: ¬((r=s\/r∈fb)/\r<h.length):=by
     rintro⟨h4|h4,h5⟩
     ·exact h2 h4.symm
     ·exact h1 ⟨h4,h5⟩
    rw[Qi h3]
theorem zf2{fb:List Nat}: ∀{h:Heap},(rI fb h).length=h.length:=by
 induction fb with
 |nil=>intro h;rfl
 |cons s fb ih=>intro h;show(rI fb (h.set s .non)).length=_;rw[ih];simp
theorem qN{fb:List Nat}{h:Heap}{s:Nat}(b:Blk)(hs:s∈fb):rI fb (h.set s b)=rI fb h:=by
 apply Zh;intro r;rw[qO,qO];simp only[Xb];by_cases h1:r∈fb/\r<h.length
 ·rw[Qj h1,Qj h1]
 ·rw[Qi h1,Qi h1,Qq];split
  ·rename_i e;subst e;have h2: ¬s<h.length:=fun h2=>h1 ⟨hs,h2⟩;simp[h2]
  ·rfl
inductive Av(fb:List Nat):PV->Prop
 |un:Av fb .un
 |ud:Av fb .ud
 |sc {v:Value}:Av fb (.sc v)
 |nil:Av fb .nil
 |agg {cs:List PV} (h: ∀p∈cs,Av fb p):Av fb (.agg cs)
 |tup {cs:List PV} (h: ∀p∈cs,Av fb p):Av fb (.tup cs)
 |ts {k:Nat} {els:List (List PV)} (h: ∀e∈els, ∀p∈e,Av fb p):Av fb (.ts k els)
 |tc {k:Nat} {els:List (List PV)} (h: ∀e∈els, ∀p∈e,Av fb p):Av fb (.tc k els)
 |vec {r k:Nat} {els:List (List PV)} (hr:r∉fb) (h: ∀e∈els, ∀p∈e,Av fb p):Av fb (.vec r k els)
 |ms {r o k n:Nat} (hr:r∉fb):Av fb (.ms r o k n)
 |ptr {r o:Nat} (hr:r∉fb):Av fb (.ptr r o)
 |tp {cs:List PV} (h: ∀p∈cs,Av fb p):Av fb (.tp cs)
 |fn {f:Fn} {a b:List PV} (h: ∀p∈a,Av fb p) (h': ∀p∈b,Av fb p):Av fb (.fn f a b)
 |ifc {t:TypeId} {p:PV} (h:Av fb p):Av fb (.ifc t p)
 |mp {r:Nat} (hr:r∉fb):Av fb (.mp r)
 |yl {r:Nat} (hr:r∉fb):Av fb (.yl r)
 |it {r:Nat} (hr:r∉fb):Av fb (.it r)
theorem VRel.av{S S':St}{fb:List Nat}{p:PV}{v:Value}(h:VRel S p v)(ha:Av fb p)(hm: ∀a u,S.M a u->S'.M a u)(hφ: ∀r u,r∉fb->S.φ[r]? =some u->S'.φ[r]? =some u)(hh: ∀r b,r∉fb->S.h[r]? =some b->S'.h[r]? =some b)(hz: ∀b m,S.Row b m->S'.Row b m):VRel S' p v:=by
 induction h with
 |un=>exact .un
 |ud=>exact .ud
 |sc h=>exact .sc h
 |nil=>exact .nil
 |agg hl h1 _ ih=>cases ha with|agg ha=>exact .agg hl h1 fun i p v hp hv=>ih i p v hp hv (ha p (Qk hp))
 |tup hl _ ih=>cases ha with|tup ha=>exact .tup hl fun i p v hp hv=>ih i p v hp hv (ha p (Qk hp))
 |ts hl hc hm' hk ad ha' val hv _ ih=>
  cases ha with|ts ha=>exact .ts hl hc hm' hk ad ha' val (fun j hj=>hm _ _ (hv j hj)) fun i e j p hi hp=>ih i e j p hi hp (ha e (Qk hi) p (Qk hp))
 |tc _ ih=>cases ha with|tc ha=>exact .tc (ih (.ts ha))
 |vec _ hb hle ho ih=>cases ha with|vec hr ha=>exact .vec (ih (.ts ha)) (hh _ _ hr hb) hle fun e=>hφ _ _ hr (ho e)
 |ms hp hb hl hc hm' hzz=>cases ha with|ms hr=>exact .ms (hφ _ _ hr hp) (hh _ _ hr hb) hl hc hm' (hz _ _ hzz)
 |oms hb hc hm'=>cases ha with|ms hr=>exact .oms (hh _ _ hr hb) hc hm'
 |optr hb=>cases ha with|ptr hr=>exact .optr (hh _ _ hr hb)
 |ptr hp hb=>cases ha with|ptr hr=>exact .ptr (hφ _ _ hr hp) (hh _ _ hr hb)
 |tp val hv _ ih=>cases ha with|tp ha=>exact .tp val (fun j hj=>hm _ _ (hv j hj)) fun j p hp=>ih j p hp (ha p (Qk hp))
 |fn hl hl' _ _ ih ih'=>cases ha with|fn h h'=>exact .fn hl hl' (fun i p v hp hv=>ih i p v hp hv (h p (Qk hp))) fun i p v hp hv=>ih' i p v hp hv (h' p (Qk hp))
 |ifc _ ih=>cases ha with|ifc ha=>exact .ifc (ih ha)
 |mp hp hb=>cases ha with|mp hr=>exact .mp (hφ _ _ hr hp) (hh _ _ hr hb)
 |yl hp hb=>cases ha with|yl hr=>exact .yl (hφ _ _ hr hp) (hh _ _ hr hb)
 |it hp hb hi=>cases ha with|it hr=>exact .it (hφ _ _ hr hp) (hh _ _ hr hb) hi
def AvB(fb:List Nat):Blk->Prop
 | .var _ cs=> ∀p∈cs,Av fb p
 | .map es=> ∀q∈es,Av fb q.2
 | .loop ts .. => ∀p∈ts,Av fb p
 | .iter m _ _=> ∀r,m=some r->r∉fb
 |_=>True
theorem BRel.av{S S':St}{fb:List Nat}{b:Blk}{v:Value}(h:BRel S b v)(ha:AvB fb b)(hm: ∀a u,S.M a u->S'.M a u)(hφ: ∀r u,r∉fb->S.φ[r]? =some u->S'.φ[r]? =some u)(hh: ∀r b,r∉fb->S.h[r]? =some b->S'.h[r]? =some b)
  (hw:S'.w=S.w):BRel S' b v:=by
 cases b with
 |var t cs=>
  obtain⟨b',arr,rfl,h1,h2,h3,h4⟩:=h;exact⟨b',arr,rfl,by rw[hw];exact h1,h2,h3,fun i p u hp hu=>(h4 i p u hp hu).av (ha p (Qk hp)) hm hφ hh fun b m h=>by obtain⟨ar,t1,f1,h1,h2⟩:=h;exact⟨ar,t1,f1,by rw[hw];exact h1,h2⟩⟩
 |vec e k n=>
  rcases h with h|⟨b',c,arr,rfl,h1,h2⟩
  ·exact .inl h
  ·exact .inr ⟨b',c,arr,rfl,by rw[hw];exact h1,h2⟩
 |map es=>
  obtain⟨b',cl,en,rfl,h1,h2,h3,h4⟩:=h;exact⟨b',cl,en,rfl,by rw[hw];exact h1,h2,h3,fun i e q he hq=>⟨(h4 i e q he hq).1,(h4 i e q he hq).2.av (ha q (Qk hq)) hm hφ hh fun b m h=>by obtain⟨ar,t1,f1,h1,h2⟩:=h;exact⟨ar,t1,f1,by rw[hw];exact h1,h2⟩⟩⟩
 |loop ts ps a' bd st pd=>
  obtain⟨b',L,rfl,h1,h2,h3,h4,h5,h6,h7,h8⟩:=h;exact⟨b',L,rfl,by rw[hw];exact h1,h2,h3,h4,h5,h6,h7,fun i p hp=>(h8 i p hp).av (ha p (Qk hp)) hm hφ hh fun b m h=>by obtain⟨ar,t1,f1,h1,h2⟩:=h;exact⟨ar,t1,f1,by rw[hw];exact h1,h2⟩⟩
 |iter m k s=>
  obtain⟨b',bm,rfl,h1,h2⟩:=h;refine⟨b',bm,rfl,by rw[hw];exact h1,fun r hr=> ?_⟩;obtain⟨es,bk,g1,g2,g3⟩:=h2 r hr;exact⟨es,bk,hh _ _ (ha r hr) g1,hφ _ _ (ha r hr) g2,g3⟩
 |siter s p=>
  obtain⟨b',rfl,h1,h2⟩:=h;exact⟨b',rfl,by rw[hw];exact h1,h2⟩
 |non=>exact h
 |old=>exact h
def φhide(fb:List Nat)(φ:List Value):List Value:=φ.mapIdx fun i v=>if fb.contains i then undef else v
theorem φhide_get{fb:List Nat}{φ:List Value}{r:Nat}{v:Value}(h:(φhide fb φ)[r]? =some v)(hb: ∃n,sC v=some n):r∉fb/\φ[r]? =some v:=by
 unfold φhide at h;rw[Zl] at h;cases hv:φ[r]? with
 |none=>rw[hv] at h;cases h
 | some u=>
  rw[hv] at h;simp only[Wh,Option.some.injEq] at h;split at h
  ·subst h;obtain⟨n,hn⟩:=hb;simp[undef,sC] at hn
  ·rename_i hc;subst h;exact⟨by simpa using hc,rfl⟩
theorem φhide_of{fb:List Nat}{φ:List Value}{r:Nat}{v:Value}(hr:r∉fb)(h:φ[r]? =some v):(φhide fb φ)[r]? =some v:=by
 unfold φhide;rw[Zl,h];simp[hr]
def St.veil(S:St)(fb:List Nat):St:=
 ⟨φhide fb S.φ,rI fb S.h,S.w,fun a=>S.x a\/((∃r v,r∈fb/\S.φ[r]? =some v/\sC v=some a.block)/\ ¬S.Stable a)⟩
theorem kU{fb:List Nat}{h:Heap}{r:Nat}{b:Blk}(hr:r∉fb)(hb:h[r]? =some b):(rI fb h)[r]? =some b:=by
 rw[qO,Qi (fun e=>hr e.1)];exact hb
theorem zaI{S:St}{fb:List Nat}{a:Addr}{u:Value}(h:S.M a u):(S.veil fb).M a u:=by
 obtain⟨h1,h2,h3,h4,h5,h6⟩:=h;refine⟨h1,h2,h3,h4,?_,fun r v hv hb=> ?_⟩
 ·rintro (hx|⟨_,hn⟩)
  ·exact h5 hx
  ·exact hn ⟨h3,h4,h5,h6⟩
 ·obtain⟨hr,hv'⟩:=φhide_get hv ⟨_,hb⟩;obtain⟨e,k,n,hh,ho⟩:=h6 r v hv' hb;exact⟨e,k,n,kU hr hh,ho⟩
theorem zg7{S:St}{fb:List Nat}{p:PV}{v:Value}(h:VRel S p v)(ha:Av fb p):VRel (S.veil fb) p v:=
 h.av ha (fun _ _ h=>zaI h) (fun _ _ hr h=>φhide_of hr h) (fun _ _ hr h=>kU hr h) fun _ _ h=>h
theorem ziG{S:St}(hS:SRel S){fb:List Nat}(ha: ∀r b,r∉fb->S.h[r]? =some b->AvB fb b):SRel (S.veil fb):=by
 refine⟨by simp[St.veil,φhide,zf2,hS.len],fun r b v hb hv=> ?_,fun r r' v v' n hv hv' hn hn'=> ?_,fun a hx=> ?_,fun a hx r v hv hb=> ?_⟩
 ·simp only[St.veil] at hb hv;by_cases hr:r∈fb
  ·rw[qO] at hb;have hlt:r<S.h.length:=by
    have:=(gsi hv).1;simp[φhide] at this;rw[<-hS.len];exact this
   rw[Qj ⟨hr,hlt⟩] at hb;cases hb;show sC v=none;cases hbv:sC v with
   |none=>rfl
   |some n=>exact absurd hr (φhide_get hv ⟨n,hbv⟩).1
  ·rw[qO,Qi (fun e=>hr e.1)] at hb;have hv0:S.φ[r]? =some v:=by
    unfold φhide at hv;rw[Zl] at hv;have hc:fb.contains r=false:=by simpa using hr
    cases h0:S.φ[r]? with
    |none=>rw[h0] at hv;cases hv
    |some u=>rw[h0] at hv;simpa [hr] using hv
   exact(hS.blks r b v hb hv0).av (ha r b hr hb) (fun _ _ h=>zaI h) (fun _ _ hr h=>φhide_of hr h) (fun _ _ hr h=>kU hr h) rfl
 ·exact hS.inj r r' v v' n (φhide_get hv ⟨n,hn⟩).2 (φhide_get hv' ⟨n,hn'⟩).2 hn hn'
 ·rcases hx with hx|⟨⟨r,v,_,hv,hb⟩,_⟩
  ·exact hS.xlt a hx
  ·exact hS.own_lt ⟨r,v,hv,hb⟩
 ·obtain⟨hr,hv'⟩:=φhide_get hv ⟨_,hb⟩;rcases hx with hx|⟨⟨r',v',hr',hv'',hb'⟩,_⟩
  ·exact hS.xown a hx r v hv' hb
  ·exact hr (hS.inj r r' v v' _ hv' hv'' hb hb'▸hr')
def xV(fb:List Nat)(h h1:Heap):Heap:=h1.mapIdx fun i b=>if fb.contains i then h.getD i .non else b
theorem xA{fb:List Nat}{h h1:Heap}{r:Nat}(hr:r∉fb):(xV fb h h1)[r]? =h1[r]? :=by
 unfold xV;rw[Zl];cases h1[r]? with
 |none=>rfl
 |some b=>simp[hr]
theorem qF{fb:List Nat}{h h1:Heap}{r:Nat}(hr:r∈fb)(hl:r<h1.length)(hl':r<h.length):(xV fb h h1)[r]? =h[r]? :=by
 unfold xV;rw[Zl,Qa hl,Qa hl'];simp[hr,Qb,hl']
def φback(fb:List Nat)(φ φ1:List Value):List Value:=φ1.mapIdx fun i v=>if fb.contains i then φ.getD i undef else v
theorem φback_out{fb:List Nat}{φ φ1:List Value}{r:Nat}(hr:r∉fb):(φback fb φ φ1)[r]? =φ1[r]? :=by
 unfold φback;rw[Zl];cases φ1[r]? with
 |none=>rfl
 |some b=>simp[hr]
theorem φback_in{fb:List Nat}{φ φ1:List Value}{r:Nat}(hr:r∈fb)(hl:r<φ1.length)(hl':r<φ.length):(φback fb φ φ1)[r]? =φ[r]? :=by
 unfold φback;rw[Zl,Qa hl,Qa hl'];simp[hr,Qb,hl']
theorem aP{S:St}(hS:SRel S){fb:List Nat}(hfb: ∀r∈fb,r<S.h.length){φ1:List Value}{h1:Heap}{w1:World}(x:Ext (S.veil fb) ⟨φ1,h1,w1,(S.veil fb).x⟩)(hS1:SRel ⟨φ1,h1,w1,(S.veil fb).x⟩)
  (hnon: ∀r∈fb,h1[r]? =some .non):Ext S ⟨φback fb S.φ φ1,xV fb S.h h1,w1,S.x⟩/\SRel ⟨φback fb S.φ φ1,xV fb S.h h1,w1,S.x⟩/\
   ∀p v,VRel ⟨φ1,h1,w1,(S.veil fb).x⟩ p v->VRel ⟨φback fb S.φ φ1,xV fb S.h h1,w1,S.x⟩ p v:=by
 have l1: ∀r∈fb,r<h1.length:=fun r hr=>(gsi (hnon r hr)).1;have l2: ∀r∈fb,r<φ1.length:=fun r hr=>by have:=hS1.len;simp only[] at this;rw[this];exact l1 r hr
 have l3: ∀r∈fb,r<S.φ.length:=fun r hr=>by rw[hS.len];exact hfb r hr
 have hM: ∀a u,St.M ⟨φ1,h1,w1,(S.veil fb).x⟩ a u->St.M ⟨φback fb S.φ φ1,xV fb S.h h1,w1,S.x⟩ a u:=by
  rintro a u ⟨m1,m2,m3,m4,m5,m6⟩;refine⟨m1,m2,m3,m4,fun hx=>m5 (.inl hx),fun r v hv hb=> ?_⟩;simp only[] at hv;by_cases hr:r∈fb
  ·rw[φback_in hr (l2 r hr) (l3 r hr)] at hv;have hst:S.Stable a:=Yv fun hn=>m5 (.inr ⟨⟨r,v,hr,hv,hb⟩,hn⟩);obtain⟨e,k,n,hh,ho⟩:=hst.2.2.2 r v hv hb;exact⟨e,k,n,(qF hr (l1 r hr) (hfb r hr)).trans hh,ho⟩
  ·rw[φback_out hr] at hv;obtain⟨e,k,n,hh,ho⟩:=m6 r v hv hb;exact⟨e,k,n,(xA hr).trans hh,ho⟩
 have hV: ∀p v,VRel ⟨φ1,h1,w1,(S.veil fb).x⟩ p v->VRel ⟨φback fb S.φ φ1,xV fb S.h h1,w1,S.x⟩ p v:=by
  have out: ∀{r:Nat}{b:Blk},b≠ .non->h1[r]? =some b->r∉fb:=fun hb h hr=>by rw[hnon _ hr] at h;cases h;exact hb rfl
  intro p v h
  induction h with
  |un=>exact .un
  |ud=>exact .ud
  |sc h=>exact .sc h
  |nil=>exact .nil
  |agg hl h1 _ ih=>exact .agg hl h1 ih
  |tup hl _ ih=>exact .tup hl ih
  |ts hl hc hm hk ad ha val hv _ ih=>exact .ts hl hc hm hk ad ha val (fun j hj=>hM _ _ (hv j hj)) ih
  |tc _ ih=>exact .tc ih
  |vec _ hb hle ho ih=>have hr:=out Qf1 hb;exact .vec ih ((xA hr).trans hb) hle fun e=>(φback_out hr).trans (ho e)
  |ms hp hb hl hc hm hz=>have hr:=out Qf1 hb;exact .ms ((φback_out hr).trans hp) ((xA hr).trans hb) hl hc hm hz
  |oms hb hc hm=>have hr:=out Qf1 hb;exact .oms ((xA hr).trans hb) hc hm
  |optr hb=>have hr:=out Qf1 hb;exact .optr ((xA hr).trans hb)
  |ptr hp hb=>have hr:=out Qf1 hb;exact .ptr ((φback_out hr).trans hp) ((xA hr).trans hb)
  |tp val hv _ ih=>exact .tp val (fun j hj=>hM _ _ (hv j hj)) ih
  |fn hl hl' _ _ ih ih'=>exact .fn hl hl' ih ih'
  |ifc _ ih=>exact .ifc ih
  |mp hp hb=>have hr:=out Qf1 hb;exact .mp ((φback_out hr).trans hp) ((xA hr).trans hb)
  |yl hp hb=>have hr:=out Qf1 hb;exact .yl ((φback_out hr).trans hp) ((xA hr).trans hb)
  |it hp hb hi=>have hr:=out (by rintro rfl;cases hi) hb;exact .it ((φback_out hr).trans hp) ((xA hr).trans hb) hi
 have own0: ∀b,(S.veil fb).Own b->S.Own b:=by
  rintro b ⟨r,v,hv,hb⟩;exact⟨r,v,(φhide_get hv ⟨b,hb⟩).2,hb⟩
 have kI: ∀r v n,r∈fb->S.φ[r]? =some v->sC v=some n-> ¬St.Own ⟨φ1,h1,w1,(S.veil fb).x⟩ n/\w1.heap[n]? =S.w.heap[n]? :=by
  intro r v n hr hv hn;refine x.unt n (hS.own_lt ⟨r,v,hv,hn⟩) ?_;rintro⟨r',v',hv',hn'⟩;obtain⟨hr',hv''⟩:=φhide_get hv' ⟨n,hn'⟩;exact hr' (hS.inj r r' v v' n hv hv'' hn hn'▸hr)
 have xx:Ext S ⟨φback fb S.φ φ1,xV fb S.h h1,w1,S.x⟩:=by
  refine⟨rfl,x.os,x.tape,x.output,x.size,fun b hb hn=> ?_,fun a u hm=>hM _ _ (x.mem _ _ (zaI hm)),fun r b hb=> ?_,x.rows⟩
  ·obtain⟨u1,u2⟩:=x.unt b hb fun h=>hn (own0 b h);refine⟨?_,u2⟩;rintro⟨r,v,hv,hbv⟩;simp only[] at hv;by_cases hr:r∈fb
   ·rw[φback_in hr (l2 r hr) (l3 r hr)] at hv;exact hn ⟨r,v,hv,hbv⟩
   ·rw[φback_out hr] at hv;exact u1 ⟨r,v,hv,hbv⟩
  ·by_cases hr:r∈fb
   ·exact⟨b,(qF hr (l1 r hr) (hfb r hr)).trans hb,Blk.le_refl b (φback_in hr (l2 r hr) (l3 r hr))⟩
   ·obtain⟨b',hb',hle⟩:=x.blks r b (kU hr hb);refine⟨b',(xA hr).trans hb',Blk.le_trans (q:=True) hle (Blk.le_refl b' trivial) fun h _=> ?_⟩;simp only[] at h ⊢
    rw[φback_out hr,h];show(φhide fb S.φ)[r]? =S.φ[r]?;unfold φhide;rw[Zl];cases S.φ[r]? with
    |none=>rfl
    |some u=>simp[hr]
 refine⟨xx,⟨?_,fun r b v hb hv=> ?_,fun r r' v v' n hv hv' hn hn'=> ?_,fun a ha=>Yf (hS.xlt a ha) x.size,fun a ha r v hv hb=> ?_⟩,hV⟩
 ·have:=hS1.len;simpa [φback,xV] using this
 ·simp only[] at hb hv;by_cases hr:r∈fb
  ·rw[φback_in hr (l2 r hr) (l3 r hr)] at hv;rw[qF hr (l1 r hr) (hfb r hr)] at hb;exact(hS.blks r b v hb hv).ext xx fun n hn=>(kI r v n hr hv hn).2
  ·rw[φback_out hr] at hv;rw[xA hr] at hb;have h0:=hS1.blks r b v hb hv;cases b with
   |var t cs=>obtain⟨b',arr,rfl,k1,k2,k3,k4⟩:=h0;exact⟨b',arr,rfl,k1,k2,k3,fun i p u hp hu=>hV _ _ (k4 i p u hp hu)⟩
   |vec e k n=>exact h0
   |map es=>obtain⟨b',cl,en,rfl,k1,k2,k3,k4⟩:=h0;exact⟨b',cl,en,rfl,k1,k2,k3,fun i e q he hq=>⟨(k4 i e q he hq).1,hV _ _ (k4 i e q he hq).2⟩⟩
   |loop ts ps a' bd st pd=>obtain⟨b',L,rfl,k1,k2,k3,k4,k5,k6,k7,k8⟩:=h0;exact⟨b',L,rfl,k1,k2,k3,k4,k5,k6,k7,fun i p hp=>hV _ _ (k8 i p hp)⟩
   |iter m k s=>
    obtain⟨b',bm,rfl,k1,k2⟩:=h0;refine⟨b',bm,rfl,k1,fun r' hr'=> ?_⟩;obtain⟨es,bk,g1,g2,g3⟩:=k2 r' hr';have hro:r'∉fb:=fun h=>by rw[hnon _ h] at g1;cases g1
    exact⟨es,bk,(xA hro).trans g1,(φback_out hro).trans g2,g3⟩
   |siter s p=>exact h0
   |non=>exact h0
   |old=>exact h0
 ·simp only[] at hv hv';by_cases hr:r∈fb<;>by_cases hr':r'∈fb
  ·rw[φback_in hr (l2 r hr) (l3 r hr)] at hv;rw[φback_in hr' (l2 r' hr') (l3 r' hr')] at hv';exact hS.inj r r' v v' n hv hv' hn hn'
  ·rw[φback_in hr (l2 r hr) (l3 r hr)] at hv;rw[φback_out hr'] at hv';exact absurd ⟨r',v',hv',hn'⟩ (kI r v n hr hv hn).1
  ·rw[φback_out hr] at hv;rw[φback_in hr' (l2 r' hr') (l3 r' hr')] at hv';exact absurd ⟨r,v,hv,hn⟩ (kI r' v' n hr' hv' hn').1
  ·rw[φback_out hr] at hv;rw[φback_out hr'] at hv';exact hS1.inj r r' v v' n hv hv' hn hn'
 ·simp only[] at hv ha;by_cases hr:r∈fb
  ·rw[φback_in hr (l2 r hr) (l3 r hr)] at hv;exact hS.xown a ha r v hv hb
  ·rw[φback_out hr] at hv;exact hS1.xown a (.inl ha) r v hv hb
theorem Av.of_tree{fb:List Nat}{p:PV}(h:Tree p):Av fb p:=by
 induction h with
 |un=>exact .un
 |ud=>exact .ud
 |sc=>exact .sc
 |nil=>exact .nil
 |agg _ ih=>exact .agg ih
 |tup _ ih=>exact .tup ih
 |ts _ ih=>exact .ts ih
 |tc _ ih=>exact .tc ih
 |tp _ ih=>exact .tp ih
 |fn _ _ ih ih'=>exact .fn ih ih'
 |ifc _ ih=>exact .ifc ih
def zg4(fb:List Nat):Nat->PV->Bool
 |0,_=>false
 |f+1,p=>match p with
  | .un| .ud| .sc _| .nil=>true
  | .agg cs=>cs.all (zg4 fb f)
  | .tup cs=>cs.all (zg4 fb f)
  | .ts _ els=>els.all fun e=>e.all (zg4 fb f)
  | .tc _ els=>els.all fun e=>e.all (zg4 fb f)
  | .vec r _ els=> !fb.contains r&&els.all fun e=>e.all (zg4 fb f)
  | .ms r _ _ _=> !fb.contains r
  | .ptr r _=> !fb.contains r
  | .tp cs=>cs.all (zg4 fb f)
  | .fn _ a b=>a.all (zg4 fb f)&&b.all (zg4 fb f)
  | .ifc _ p=>zg4 fb f p
  | .mp r=> !fb.contains r
  | .yl r=> !fb.contains r
  | .it r=> !fb.contains r
theorem dO{fb:List Nat}: ∀(f:Nat)(p:PV),zg4 fb f p=true->Av fb p:=by
 intro f
 induction f with
 |zero=>intro p h;cases h
 |succ f ih=>
  intro p h;cases p<;>simp only[zg4,Xg,Qt,Bool.not_eq_true',List.contains_eq_mem,Xo,reduceCtorEq] at h
  ·exact .un
  ·exact .ud
  ·exact .sc
  ·exact .nil
  ·exact .agg fun p hp=>ih p (h p hp)
  ·exact .tup fun p hp=>ih p (h p hp)
  ·exact .ts fun e he p hp=>ih p (h e he p hp)
  ·exact .tc fun e he p hp=>ih p (h e he p hp)
  ·exact .vec h.1 fun e he p hp=>ih p (h.2 e he p hp)
  ·exact .ms h
  ·exact .ptr h
  ·exact .tp fun p hp=>ih p (h p hp)
  ·exact .fn (fun p hp=>ih p (h.1 p hp)) fun p hp=>ih p (h.2 p hp)
  ·exact .ifc (ih _ h)
  ·exact .mp h
  ·exact .yl h
  ·exact .it h
def zh5(fb:List Nat)(f:Nat):Blk->Bool
 | .var _ cs=>cs.all (zg4 fb f)
 | .map es=>es.all fun q=>zg4 fb f q.2
 | .loop ts _ _ _ _ _=>ts.all (zg4 fb f)
 | .iter m _ _=>match m with
  |some r=> !fb.contains r
  |none=>true
 |_=>true
theorem zgS{fb:List Nat}{f:Nat}{b:Blk}(h:zh5 fb f b=true):AvB fb b:=by
 cases b<;>simp only[zh5,Xg] at h
 ·exact fun p hp=>dO f p (h p hp)
 ·trivial
 ·exact fun q hq=>dO f _ (h q hq)
 ·exact fun p hp=>dO f p (h p hp)
 ·trivial
 ·trivial
 ·intro r hr;subst hr;simpa using h
 ·trivial
def za4(fb:List Nat)(f:Nat)(h:Heap):Bool:=(List.range h.length).all fun r=>fb.contains r||zh5 fb f (h.getD r .non)
theorem zeG{fb:List Nat}{f:Nat}{h:Heap}(k:za4 fb f h=true): ∀r b,r∉fb->h[r]? =some b->AvB fb b:=by
 intro r b hr hb;unfold za4 at k;rw[Xg] at k;have hlt:=(gsi hb).1;have:=k r (Jm.2 hlt);rw[Qb,hb] at this;simp only[List.contains_eq_mem,Ka,Xm,Wv] at this;exact zgS (this.resolve_left hr)
theorem OpOk.frame{P:Program}{G:Glob}{rd:Option Nat}{o:Oper}{h h0:Heap}{F:Operand->PV}{p:PV}{fb:List Nat}(hG: ∀g cs,G g=some cs-> ∀p∈cs,Tree p)
  (k:OpOk P G rd o (rI fb h) F fun q h'=>q=p/\h'=h0) (hfb: ∀r∈fb,r<h.length) (hn: ∀r∈fb,h0[r]? =some .non) (hx: ∀x∈o.op.operands,Av fb (F x)) (hb: ∀r b,r∉fb->h[r]? =some b->AvB fb b):
  OpOk P G rd o h F fun q h'=>q=p/\h'=xV fb h h0:=by
 intro φ w X a K Q hS hGr hv hK;refine k (φhide fb φ) w _ a K Q (ziG hS hb) (fun g cs hg=>zg7 (hGr g cs hg) (Av.of_tree (.tp (hG g cs hg)))) (fun x hm=>zg7 (hv x hm) (hx x hm)) ?_;rintro φ' h' w' q v x hs hq ⟨rfl,rfl⟩;obtain⟨x1,x2,x3⟩:=aP (S:=⟨φ,h,w,X⟩) hS hfb x hs hn;exact hK _ _ _ _ _ x1 x2 (x3 _ _ hq) ⟨rfl,rfl⟩
theorem nT{f f':Operand->PV}{l:Array Operand}(h: ∀x∈l,f x=f' x):l.toList.map f=l.toList.map f':=
 Yq fun x hx=>h x Qfz
theorem qU{f f':Operand->PV}{l:Option Operand}(h: ∀x,l=some x->f x=f' x):l.map f=l.map f':=by
 cases l with
 |none=>rfl
 |some x=>simp[h x rfl]
theorem zu7{P:Program}{h:Heap}{f f':Operand->PV}{op:Op}(hx: ∀x∈op.operands,f x=f' x):yI (α:=Prop) P h f op=yI P h f' op:=by
 cases op with
 |move x=>simp only[yI,hx x Qgh]
 |assign x=>simp only[yI,hx x Qgh]
 |pick c a b=>simp only[yI,hx c Qgh,hx a Qgh,hx b Qgh]
 |nilCheck x=>simp only[yI,hx x Qgh]
 |binOp o t x y u=>simp only[yI,hx x Qgh,hx y Qgh]
 |unOp o t x=>simp only[yI,hx x Qgh]
 |convert s d x=>simp only[yI,hx x Qgh]
 |makeInterface t x=>simp only[yI,hx x Qgh]
 |makeFunc fn a b=>simp only[yI,nT (l:=a) fun x h=>hx x (by simp[Op.operands,h]),nT (l:=b) fun x h=>hx x (by simp[Op.operands,h])]
 |field t x i=>simp only[yI,hx x Qgh]
 |fieldAddr t x i=>simp only[yI,hx x Qgh]
 |indexAddr t x i=>simp only[yI,hx x Qgh,hx i Qgh]
 |index t x i=>simp only[yI,hx x Qgh,hx i Qgh]
 |load t x=>simp only[yI,hx x Qgh]
 |extract x i=>simp only[yI,hx x Qgh]
 |slice t x lo hi mx=>
  have h1:=hx x Qgh;have h2:=qU (l:=lo) (f:=f) (f':=f') fun y e=>hx y Qgo;have h3:=qU (l:=hi) (f:=f) (f':=f') fun y e=>hx y Qgo;cases mx with
  |none=>simp only[yI,h1,h2,h3]
  |some m=>simp only[yI,h1,h2,h3,hx m Qgh]
 |call c=>
  have ha: ∀x∈c.args.toList,f x=f' x:=fun x h=>hx x (by simp[Op.operands,Call.operands];exact .inr Qfn);simp only[yI];generalize c.args.toList=l at ha ⊢
  generalize c.argTypes.toList=t;split
  ·simp only[ha _ (Qe ..)]
  ·rename_i x y _;simp only[ha x Qf1,ha y Qf1]
  ·rename_i x y _;simp only[ha x Qf1,ha y Qf1]
  ·rfl
 |_=>rfl
theorem cC{P:Program}{h:Heap}{f f':Operand->PV}{op:Op}(hx: ∀x∈op.operands,f x=f' x):zcI (α:=Prop) P h f op=zcI P h f' op:=by
 cases op with
 |binOp o t x y u=>cases o<;>first|rfl|simp only[zcI,hx x Qgh,hx y Qgh]
 |lookup t m k ok=>simp only[zcI,hx m Qgh,hx k Qgh]
 |convert s d x=>simp only[zcI,hx x Qgh]
 |slice t x lo hi mx=>
  have h1:=hx x Qgh;have h2:=qU (l:=lo) (f:=f) (f':=f') fun y e=>hx y Qgo;have h3:=qU (l:=hi) (f:=f) (f':=f') fun y e=>hx y Qgo;cases mx with
  |none=>simp only[zcI,h1,h2,h3]
  |some m=>simp only[zcI,h1,h2,h3,hx m Qgh]
 |_=>rfl
theorem pW{P:Program}{h:Heap}{f f':Operand->PV}{op:Op}(hx: ∀x∈op.operands,f x=f' x):wO (α:=Prop) P h f op=wO P h f' op:=by
 unfold wO;rw[zu7 hx,cC hx]
theorem eA{P:Program}{r:Nat}{f f':Operand->PV}{op:Op}(hx: ∀x∈op.operands,f x=f' x):vH (α:=Prop) P r f op=vH P r f' op:=by
 cases op with
 |box t x=>simp only[vH,hx x Qgh]
 |makeSlice t l c=>simp only[vH,hx l Qgh,hx c Qgh]
 |_=>rfl
def pA{α:Type}[CK α](P:Program)(f:Operand->PV):Op->Option (PV×α)
 | .build t parts=>(vA P [] f (.build t parts)).map fun r=>(r.1,r.2.2)
 | .buildSlice t n parts=>(vA P [] f (.buildSlice t n parts)).map fun r=>(r.1,r.2.2)
 |op=>wO P [] f op
theorem jN{f f':Operand->PV}{l:List (Nat×Operand)}(h: ∀x∈l,f x.2=f' x.2):(l.map fun x=>(x.1,f x.2))=l.map fun x=>(x.1,f' x.2):=
 Yq fun x hx=>by rw[h x hx]
theorem cF{P:Program}{f f':Operand->PV}{op:Op}(hx: ∀x∈op.operands,f x=f' x):pA (α:=Prop) P f op=pA P f' op:=by
 cases op with
 |build t parts=>
  exact Qdg
 |buildSlice t n parts=>
  exact Qdg
 |_=>simp only[pA];exact pW (P:=P) (h:=[]) hx
theorem cE{P:Program}{h h':Heap}(hh: ∀(r:Nat)(t:TypeId)(cs:List PV),h[r]? =some (.var t cs)->h'[r]? =some (.var t cs)){f:Operand->PV}{op:Op}{p:PV}{c:Prop}
  (he:yI P h f op=some (p,c)):yI P h' f op=some (p,c):=by
 cases op with
 | load t x=>
  simp only[yI] at he ⊢
  split at he
  ·exact he
  ·split at he
   ·rename_i r o _ _ t' cs hr;rw[hh _ _ _ hr];exact he
   ·cases he
  ·cases he
 | slice t x lo hi mx=>
  simp only[yI] at he ⊢
  split at he
  ·exact he
  ·split at he
   ·rename_i n e r o _ _;split at he
    ·rename_i k _ t' cs hk hr;rw[hk,hh _ _ _ hr];exact he
    ·cases he
   ·exact he
   ·exact he
   ·cases he
 |_=>exact he
theorem aL{h h':Heap}(hh: ∀(r:Nat)(b:Blk),b≠ .non->h[r]? =some b->h'[r]? =some b){p:PV}{es:List (Value×PV)}(he:oS h p=some es):oS h' p=some es:=by
 unfold oS at he ⊢
 split at he
 ·split at he
  ·rename_i hb;rw[hh _ _ Qf1 hb];exact he
  ·cases he
 ·exact he
 ·cases he
theorem eE{P:Program}{h h':Heap}(hh: ∀(r:Nat)(b:Blk),b≠ .non->h[r]? =some b->h'[r]? =some b){t:TypeId}{ok:Bool}{m k p:PV}{c:Prop}(he:xQ P h t ok m k=some (p,c)):xQ P h' t ok m k=some (p,c):=by
 unfold xQ at he ⊢
 split at he
 ·split at he
  ·split at he
   ·rename_i hes hz;rw[aL hh hes,hz];exact he
   ·cases he
  ·cases he
 ·cases he
theorem sX{P:Program}{h h':Heap}(hh: ∀(r:Nat)(b:Blk),b≠ .non->h[r]? =some b->h'[r]? =some b){f:Operand->PV}{op:Op}{p:PV}{c:Prop}
  (he:wO P h f op=some (p,c)):wO P h' f op=some (p,c):=by
 unfold wO at he ⊢
 split at he
 ·rename_i r hr;cases he;rw[cE (fun r t cs hb=>hh r _ Qf1 hb) hr]
 ·rename_i hr;have key:(∀t x,op≠ .load t x)->(∀t x lo hi mx,op= .slice t x lo hi mx->f x= .nil)->yI (α:=Prop) P h' f op=none:=by
   intro k1 k2;rw[<-hr];cases op with
   |load t x=>exact absurd rfl (k1 t x)
   |slice t x lo hi mx=>
    simp only[yI,k2 t x lo hi mx rfl,zaG];cases wX P t<;>cases bR P t<;>rfl
   |_=>rfl
  cases op with
  |lookup t m k ok=>rw[key Qf1 Qf1];exact eE hh he
  | slice t x lo hi mx=>
   rw[key Qf1 (fun t' x' lo' hi' mx' e=>by
    cases e;simp only[zcI] at he;split at he
    ·assumption
    ·cases he)]
   exact he
  |binOp o t x y u=>rw[key Qf1 Qf1];cases o<;>exact he
  |convert s d x=>rw[key Qf1 Qf1];exact he
  |_=>cases he
structure DAnn where
 cl:Nat
 slot:Nat
 fb:List Nat
 deriving Inhabited
def nu(n0:Nat)(t0:List PV)(k:Nat):Nat:=if k<1000 then n0+k else match t0.getD (k-1000) .un with
 | .ptr r _=>if r<n0 then r else n0+k
 |_=>n0+k
theorem bX{n0:Nat}{t0:List PV}{a b:Nat}(ha:a<1000)(hb:1000<=b):nu n0 t0 a≠nu n0 t0 b:=by
 unfold nu;rw[Qj ha,Qi Qf0];split
 ·split<;>omega
 ·omega
def only(vs:List Nat)(h:Heap):Heap:=h.mapIdx fun i b=>if vs.contains i then b else .non
theorem oA{vs:List Nat}{h:Heap}{r:Nat}:(only vs h)[r]? =(h[r]?).map fun b=>if vs.contains r then b else .non:=by
 unfold only;rw[Zl]
theorem jP{vs:List Nat}{h h':Heap}(hl:h'.length=h.length)(hv: ∀r∈vs,h'[r]? =h[r]?):only vs h'=only vs h:=by
 apply Zh;intro r;rw[oA,oA];by_cases hr:r∈vs
 ·rw[hv r hr]
 ·have hc:vs.contains r=false:=by simpa using hr
  simp only[hc];by_cases hlt:r<h.length
  ·rw[Qa hlt,Qa Qf0];rfl
  ·rw[Ye Qf0,Ye Qf0]
theorem cQ{vs:List Nat}{h h':Heap}(hv: ∀r∈vs,h'[r]? =h[r]?)(r:Nat)(b:Blk)(hbn:b≠ .non)(hr:(only vs h)[r]? =some b):(only vs h')[r]? =some b:=by
 rw[oA] at hr ⊢
 by_cases hm:r∈vs
 ·rw[hv r hm];exact hr
 ·exfalso;have hc:vs.contains r=false:=by simpa using hm
  rw[hc] at hr;cases hb:h[r]? with
  |none=>rw[hb] at hr;cases hr
  |some b'=>rw[hb] at hr;simp at hr;exact hbn hr.symm
section
variable(P:Program)(G:Glob)(rd:Option Nat)(n0:Nat)(t0:List PV)
def DPure(o:Oper)(f:Operand->PV)(p:PV):Prop:= ∃(c:Call)(x:Operand)(g:FuncId)(fst cap:List PV),o.op= .call c/\c.callee= .value x/\f x= .fn (.func g) fst cap/\
 Pure P G g (fst++c.args.toList.map f++cap) p/\(∀q∈fst++c.args.toList.map f++cap,Tree q)/\Tree p
def kI(n0:Nat)(t0:List PV)(fb:List Nat):List Nat:=(fb.filter fun k=>decide (k<1000)).map (nu n0 t0)
theorem zbZ{fb:List Nat}{k:Nat}(hk:k∈fb)(h:k<1000):nu n0 t0 k∈kI n0 t0 fb:=Xf.2 ⟨k,List.mem_filter.2 ⟨hk,by simpa using h⟩,rfl⟩
theorem kV{fb:List Nat}{k:Nat}(h:1000<=k):nu n0 t0 k∉kI n0 t0 fb:=by
 intro hm;obtain⟨j,hj,e⟩:=Xf.1 hm;exact bX (Xj (List.mem_filter.1 hj).2) h e
theorem nL{fb:List Nat}{h h0:Heap}{s:Nat}(b:Blk)(hs:s∈fb)(hl:s<h.length):xV fb (h.set s b) h0=(xV fb h h0).set s b:=by
 apply Zh;intro r;rw[Qq];unfold xV;rw[Zl,Zl,List.length_mapIdx];by_cases hr:s=r
 ·subst hr;by_cases hl0:s<h0.length
  ·simp[hs,hl,hl0,Qb]
  ·simp[hl0]
 ·rw[Qi hr];cases h0[r]? with
  |none=>rfl
  |some c=>simp[Qb,Qq,hr]
def DHid(o:Oper)(ts:List PV)(fb:List Nat)(h:Heap)(p:PV)(h1 h0:Heap):Prop:=
 OpOk P G rd o (rI fb h) (wV G ts) (fun q h'=>q=p/\h'=h0)/\(∀r∈fb,r<h.length)/\(∀r∈fb,h0[r]? =some .non)/\(∀x∈o.op.operands,Av fb (wV G ts x))/\
  (∀r b,r∉fb->h[r]? =some b->AvB fb b)/\h1=xV fb h h0
def DOpr(d:DAnn)(o:Oper)(ts:List PV)(h:Heap)(p:PV)(h1:Heap):Prop:=
 match d.cl with
 |0=>h1=h/\ ∃c:Prop,pA P (wV G ts) o.op=some (p,c)/\c
 |1=>h1=h/\ ∃c:Prop,wO P (rI (d.fb.map (nu n0 t0)) h) (wV G ts) o.op=some (p,c)/\c
 |2=>h[nu n0 t0 d.slot]? =some .non/\ ∃(b:Blk)(c:Prop),vH P (nu n0 t0 d.slot) (wV G ts) o.op=some (p,b,c)/\c/\h1=h.set (nu n0 t0 d.slot) b
 |3=>h1=h/\DPure P G o (wV G ts) p
 |5=> ∃(t:TypeId)(a x:Operand)(off:Nat)(c:Prop),o.op= .store t a x/\wV G ts a= .ptr (nu n0 t0 d.slot) off/\vA P h (wV G ts) (.store t a x)=some (p,h1,c)/\c
 |6=>(∃h0,DHid P G rd o ts (kI n0 t0 d.fb) h p h1 h0)/\ ∀k∈d.fb,1000<=k->h1[nu n0 t0 k]? =h[nu n0 t0 k]?
 |7=>h1=h/\ ∃c:Prop,wO P (only (d.fb.map (nu n0 t0)) h) (wV G ts) o.op=some (p,c)/\c
 |_=>OpOk P G rd o h (wV G ts) fun q h'=>q=p/\h'=h1
def DGd(d:DAnn)(ops:List Oper)(o:Oper)(ts:List PV)(h:Heap)(p:PV)(h1:Heap):Prop:=
 match o.guard with
 |none=>DOpr P G rd n0 t0 d o ts h p h1
 |some (j,want)=>match zh9 ops ts j with
  |some (.sc (.bool b))=>(b=want/\DOpr P G rd n0 t0 d o ts h p h1)\/(b≠want/\p= .ud/\h1=h)
  |some .ud=>p= .ud/\h1=h
  |_=>False
def DStep(ann:Nat->DAnn)(ops:List Oper)(i:Nat)(s s':List PV×Heap):Prop:=
 ∃(o:Oper)(p:PV)(h1:Heap),ops[i]? =some o/\DGd P G rd n0 t0 (ann i) ops o s.1 s.2 p h1/\s'=(zZ s.1 o.dst p,h1)
def DRun(ann:Nat->DAnn)(ops:List Oper):List Nat->List PV×Heap->List PV×Heap->Prop
 | [],s,s'=>s'=s
 |i::r,s,s'=> ∃m,DStep P G rd n0 t0 ann ops i s m/\DRun ann ops r m s'
def rdT(ops:List Oper)(o:Oper):List Tmp:=
 o.op.operands.toList.filterMap (fun| .tmp t=>some t|_=>none)++match o.guard with
  |some (j,_)=>((ops[j]?).bind (·.dst)).toList
  |none=>[]
def lK(ops:List Oper)(da db:DAnn)(a b:Oper):Bool:=
 (match a.dst with|some d=> !(rdT ops b).contains d&&b.dst !=some d|none=>true)&&
 (match b.dst with|some d=> !(rdT ops a).contains d|none=>true)&&
 (da.cl==0||da.cl==3||db.cl==0||db.cl==3||(da.cl==1&&db.cl==1)||(da.cl==1&&db.cl==2&&da.fb.contains db.slot)||
  (da.cl==2&&db.cl==1&&db.fb.contains da.slot)||(da.cl==2&&db.cl==2&&decide (da.slot<1000)&&decide (db.slot<1000)&&da.slot !=db.slot)||
  (da.cl==1&&db.cl==5&&da.fb.contains db.slot)||(da.cl==5&&db.cl==1&&db.fb.contains da.slot)||
  ((da.cl==1||da.cl==7)&&(db.cl==1||db.cl==7))||(da.cl==7&&db.cl==2&&decide (db.slot<1000)&&da.fb.all (fun k=>decide (1000<=k)))||
  (da.cl==2&&db.cl==7&&decide (da.slot<1000)&&db.fb.all (fun k=>decide (1000<=k)))||(da.cl==7&&db.cl==6&&da.fb.all (fun k=>db.fb.contains k&&decide (1000<=k)))||
  (da.cl==6&&db.cl==7&&db.fb.all (fun k=>da.fb.contains k&&decide (1000<=k)))||(da.cl==2&&db.cl==6&&decide (da.slot<1000)&&db.fb.contains da.slot)||
  (da.cl==6&&db.cl==2&&decide (db.slot<1000)&&da.fb.contains db.slot))
variable{P G rd n0 t0}
structure Agree(ops:List Oper)(o:Oper)(ts ts':List PV):Prop where
 ev: ∀x∈o.op.operands,wV G ts x=wV G ts' x
 gd: ∀j w,o.guard=some (j,w)->zh9 ops ts j=zh9 ops ts' j
theorem fO{ops:List Oper}{o:Oper}{ts:List PV}{dst:Option Tmp}{p:PV}(h: ∀d,dst=some d->d∉rdT ops o):Agree (G:=G) ops o ts (zZ ts dst p):=by
 cases dst with
 |none=>exact⟨fun x _=>rfl,fun j w _=>rfl⟩
 | some d=>
  have hd:=h d rfl;unfold rdT at hd;rw[Qo,not_or] at hd;have key: ∀t,t≠d->ts.getD t .un=(ts.set d p).getD t .un:=fun t ht=>by
   rw[Qb,Qb,Qq,Qi (Ne.symm ht)]
  refine⟨fun x hx=> ?_,fun j w hg=> ?_⟩
  ·cases x with
   |tmp t=>
    refine key t fun e=>hd.1 ?_;subst e;exact List.mem_filterMap.2 ⟨.tmp t,by simpa using hx,rfl⟩
   |_=>rfl
  ·rw[hg] at hd;simp only[zh9,zZ];cases hj:(ops[j]?).bind (·.dst) with
   |none=>rfl
   |some t=>
    simp only[Wh,Option.some.injEq];refine key t fun e=>hd.2 ?_;show d∈((ops[j]?).bind (·.dst)).toList;rw[hj,e];simp
theorem OpOk.congr{o:Oper}{h:Heap}{f f':Operand->PV}{R:PV->Heap->Prop}(hf: ∀x∈o.op.operands,f x=f' x)(k:OpOk P G rd o h f R):OpOk P G rd o h f' R:=
 fun φ w X a K Q hS hG hx hK=>k φ w X a K Q hS hG (fun x hm=>by rw[hf x hm];exact hx x hm) hK
theorem DPure.congr{o:Oper}{f f':Operand->PV}{p:PV}(hf: ∀x∈o.op.operands,f x=f' x)(k:DPure P G o f p):DPure P G o f' p:=by
 obtain⟨c,x,g,fst,cap,ho,hc,hfx,hp,ht,hr⟩:=k;have e:c.args.toList.map f=c.args.toList.map f':=nT fun y hy=>hf y (by simp[ho,Op.operands,Call.operands,hy]);rw[e] at hp ht;exact⟨c,x,g,fst,cap,ho,hc,by rw[<-hf x (by simp[ho,Op.operands,Call.operands,hc])];exact hfx,hp,ht,hr⟩
theorem DOpr.congr{d:DAnn}{o:Oper}{ts ts':List PV}{h:Heap}{p:PV}{h1:Heap}(hf: ∀x∈o.op.operands,wV G ts x=wV G ts' x)(k:DOpr P G rd n0 t0 d o ts h p h1):DOpr P G rd n0 t0 d o ts' h p h1:=by
 unfold DOpr at*;split at k
 ·rw[cF hf] at k;exact k
 ·rw[pW hf] at k;exact k
 ·rw[eA hf] at k;exact k
 ·exact⟨k.1,k.2.congr hf⟩
 ·obtain⟨t,a,x,off,c,ho,ha,he,hc⟩:=k;have e1:=hf a (by simp[ho,Op.operands]);have e2:=hf x (by simp[ho,Op.operands]);refine⟨t,a,x,off,c,ho,e1▸ha,?_,hc⟩;rw[<-he];simp only[vA,e1,e2]
 ·obtain⟨⟨h0,k1,k2,k3,k4,k5⟩,k6⟩:=k;exact⟨⟨h0,k1.congr hf,k2,k3,fun x hx=>by rw[<-hf x hx];exact k4 x hx,k5⟩,k6⟩
 ·rw[pW hf] at k;exact k
 ·exact k.congr hf
theorem DGd.congr{d:DAnn}{ops:List Oper}{o:Oper}{ts ts':List PV}{h:Heap}{p:PV}{h1:Heap}(ha:Agree (G:=G) ops o ts ts')(k:DGd P G rd n0 t0 d ops o ts h p h1):DGd P G rd n0 t0 d ops o ts' h p h1:=by
 unfold DGd at*;cases hg:o.guard with
 |none=>rw[hg] at k;exact k.congr ha.ev
 | some jw=>
  obtain⟨j,w⟩:=jw;rw[hg] at k;simp only[] at k ⊢
  rw[<-ha.gd j w hg];split at k
  ·rcases k with ⟨h1,k⟩|k
   ·exact .inl ⟨h1,k.congr ha.ev⟩
   ·exact .inr k
  ·exact k
  ·exact k.elim
theorem DGd.free{d:DAnn}(hd:d.cl=0\/d.cl=3){ops:List Oper}{o:Oper}{ts:List PV}{h h1:Heap}{p:PV}(k:DGd P G rd n0 t0 d ops o ts h p h1):h1=h/\ ∀h',DGd P G rd n0 t0 d ops o ts h' p h':=by
 have key: ∀{h h1:Heap},DOpr P G rd n0 t0 d o ts h p h1->h1=h/\ ∀h',DOpr P G rd n0 t0 d o ts h' p h':=by
  intro h h1 k;unfold DOpr at*;rcases hd with hd|hd<;>rw[hd] at k ⊢ <;>exact⟨k.1,fun h'=>⟨rfl,k.2⟩⟩
 unfold DGd at*;split at k
 ·exact key k
 ·split at k
  ·rcases k with ⟨e,k⟩|⟨e,k1,k2⟩
   ·exact⟨(key k).1,fun h'=> .inl ⟨e,(key k).2 h'⟩⟩
   ·exact⟨k2,fun h'=> .inr ⟨e,k1,rfl⟩⟩
  ·exact⟨k.2,fun h'=>⟨k.1,rfl⟩⟩
  ·exact k.elim
theorem DGd.cases{d:DAnn}{ops:List Oper}{o:Oper}{ts:List PV}{h h1:Heap}{p:PV}(k:DGd P G rd n0 t0 d ops o ts h p h1):
  (h1=h/\ ∀h',DGd P G rd n0 t0 d ops o ts h' p h')\/(DOpr P G rd n0 t0 d o ts h p h1/\ ∀h' h1',DOpr P G rd n0 t0 d o ts h' p h1'->DGd P G rd n0 t0 d ops o ts h' p h1'):=by
 unfold DGd at*;split at k
 ·exact .inr ⟨k,fun _ _ h=>h⟩
 ·split at k
  ·rcases k with ⟨e,k⟩|⟨e,k1,k2⟩
   ·exact .inr ⟨k,fun _ _ h=> .inl ⟨e,h⟩⟩
   ·exact .inl ⟨k2,fun h'=> .inr ⟨e,k1,rfl⟩⟩
  ·exact .inl ⟨k.2,fun h'=>⟨k.1,rfl⟩⟩
  ·exact k.elim
theorem jV{h h1:Heap}{f:Operand->PV}{t:TypeId}{a x:Operand}{r off:Nat}{p:PV}{c:Prop}(ha:f a= .ptr r off)(he:vA P h f (.store t a x)=some (p,h1,c)): ∃B,h1=h.set r B:=by
 simp only[vA,ha] at he;repeat' split at he
 all_goals first
  |(cases he;done)
  |(cases he;exact⟨_,rfl⟩)
theorem DGd.swap{da db:DAnn}{ops:List Oper}{a b:Oper}{ts:List PV}{h h1 h2:Heap}{p q:PV}
  (hc:(da.cl==0||da.cl==3||db.cl==0||db.cl==3||(da.cl==1&&db.cl==1)||(da.cl==1&&db.cl==2&&da.fb.contains db.slot)||
  (da.cl==2&&db.cl==1&&db.fb.contains da.slot)||(da.cl==2&&db.cl==2&&decide (da.slot<1000)&&decide (db.slot<1000)&&da.slot !=db.slot)||
  (da.cl==1&&db.cl==5&&da.fb.contains db.slot)||(da.cl==5&&db.cl==1&&db.fb.contains da.slot)||
  ((da.cl==1||da.cl==7)&&(db.cl==1||db.cl==7))||(da.cl==7&&db.cl==2&&decide (db.slot<1000)&&da.fb.all (fun k=>decide (1000<=k)))||
  (da.cl==2&&db.cl==7&&decide (da.slot<1000)&&db.fb.all (fun k=>decide (1000<=k)))||(da.cl==7&&db.cl==6&&da.fb.all (fun k=>db.fb.contains k&&decide (1000<=k)))||
  (da.cl==6&&db.cl==7&&db.fb.all (fun k=>da.fb.contains k&&decide (1000<=k)))||(da.cl==2&&db.cl==6&&decide (da.slot<1000)&&db.fb.contains da.slot)||
  (da.cl==6&&db.cl==2&&decide (db.slot<1000)&&da.fb.contains db.slot))=true)
  (ka:DGd P G rd n0 t0 da ops a ts h p h1) (kb:DGd P G rd n0 t0 db ops b ts h1 q h2): ∃h1',DGd P G rd n0 t0 db ops b ts h q h1'/\DGd P G rd n0 t0 da ops a ts h1' p h2:=by
 have freeA:(h1=h/\ ∀h',DGd P G rd n0 t0 da ops a ts h' p h')-> ∃h1',DGd P G rd n0 t0 db ops b ts h q h1'/\DGd P G rd n0 t0 da ops a ts h1' p h2:=fun⟨e,k⟩=>⟨h2,e▸kb,k h2⟩
 have freeB:(h2=h1/\ ∀h',DGd P G rd n0 t0 db ops b ts h' q h')-> ∃h1',DGd P G rd n0 t0 db ops b ts h q h1'/\DGd P G rd n0 t0 da ops a ts h1' p h2:=fun⟨e,k⟩=>⟨h,k h,e▸ka⟩
 rcases ka.cases with fa|⟨ka',ra⟩
 ·exact freeA fa
 rcases kb.cases with fb|⟨kb',rb⟩
 ·exact freeB fb
 simp only[Ka,Zm,Qt,List.contains_iff_mem,bne_iff_ne,ne_eq,Xg] at hc;simp only[Xm] at hc;rcases hc with (((((((((((((((hc|hc)|hc)|hc)|hc)|hc)|hc)|hc)|hc)|hc)|hc)|hc)|hc)|hc)|hc)|hc)|hc
 ·exact freeA (ka.free (.inl hc))
 ·exact freeA (ka.free (.inr hc))
 ·exact freeB (kb.free (.inl hc))
 ·exact freeB (kb.free (.inr hc))
 ·unfold DOpr at ka' kb';rw[hc.1] at ka';rw[hc.2] at kb';obtain⟨rfl,ka'⟩:=ka';obtain⟨rfl,kb'⟩:=kb';exact⟨h2,kb,ka⟩
 ·unfold DOpr at ka' kb';rw[hc.1.1] at ka';rw[hc.1.2] at kb';obtain⟨rfl,ka'⟩:=ka';refine⟨h2,kb,ra _ _ ?_⟩;unfold DOpr;rw[hc.1.1];obtain⟨_,b',c',_,_,rfl⟩:=kb';refine⟨rfl,?_⟩;rw[qN _ (Xf.2 ⟨_,hc.2,rfl⟩)];exact ka'
 ·unfold DOpr at ka' kb';rw[hc.1.1] at ka';rw[hc.1.2] at kb';obtain⟨hn,b',c',e1,e2,rfl⟩:=ka';obtain⟨rfl,kb'⟩:=kb';rw[qN _ (Xf.2 ⟨_,hc.2,rfl⟩)] at kb';refine⟨h,rb _ _ ?_,ka⟩;unfold DOpr;rw[hc.1.2];exact⟨rfl,kb'⟩
 ·obtain⟨⟨⟨⟨g1,g2⟩,g3⟩,g4⟩,g5⟩:=hc;unfold DOpr at ka' kb';rw[g1] at ka';rw[g2] at kb';obtain⟨hn,b1,c1,e1,e2,rfl⟩:=ka';obtain⟨hn',b2,c2,e3,e4,rfl⟩:=kb';have hne:nu n0 t0 da.slot≠nu n0 t0 db.slot:=fun e=>g5 (by unfold nu at e;rw[Qj g3,Qj g4] at e;omega);rw[Qq,Qi hne] at hn';refine⟨h.set (nu n0 t0 db.slot) b2,rb _ _ ?_,ra _ _ ?_⟩
  ·unfold DOpr;rw[g2];exact⟨hn',b2,c2,e3,e4,rfl⟩
  ·unfold DOpr;rw[g1];refine⟨by rw[Qq,Qi (Ne.symm hne)];exact hn,b1,c1,e1,e2,?_⟩;rw[List.set_comm _ _ hne]
 ·obtain⟨⟨g1,g2⟩,g3⟩:=hc;unfold DOpr at ka' kb';rw[g1] at ka';rw[g2] at kb';obtain⟨rfl,ka'⟩:=ka';refine⟨h2,kb,ra _ _ ?_⟩;unfold DOpr;rw[g1];obtain⟨t,a,x,off,c,ho,ha,he,hc⟩:=kb';obtain⟨B,rfl⟩:=jV ha he;refine⟨rfl,?_⟩;rw[qN _ (Xf.2 ⟨_,g3,rfl⟩)];exact ka'
 ·obtain⟨⟨g1,g2⟩,g3⟩:=hc;unfold DOpr at ka' kb';rw[g1] at ka';rw[g2] at kb';obtain⟨t,a,x,off,c,ho,ha,he,hc⟩:=ka';obtain⟨B,rfl⟩:=jV ha he;obtain⟨rfl,kb'⟩:=kb';rw[qN _ (Xf.2 ⟨_,g3,rfl⟩)] at kb';refine⟨h,rb _ _ ?_,ka⟩;unfold DOpr;rw[g2];exact⟨rfl,kb'⟩
 ·have ea:h1=h:=by
   unfold DOpr at ka';rcases hc.1 with e|e<;>rw[e] at ka'<;>exact ka'.1
  have eb:h2=h1:=by
   unfold DOpr at kb';rcases hc.2 with e|e<;>rw[e] at kb'<;>exact kb'.1
  subst eb;subst ea;exact⟨_,kb,ka⟩
 ·obtain⟨⟨⟨g1,g2⟩,g3⟩,g4⟩:=hc;unfold DOpr at ka' kb';rw[g1] at ka';rw[g2] at kb';obtain⟨rfl,ka'⟩:=ka';refine⟨h2,kb,ra _ _ ?_⟩;unfold DOpr;rw[g1];obtain⟨_,b',c',_,_,rfl⟩:=kb';refine⟨rfl,?_⟩;rw[jP (h:=h1) Qf1 fun r hr=> ?_]
  ·exact ka'
  ·obtain⟨k,hk,rfl⟩:=Xf.1 hr;rw[Qq,Qi (bX g3 (g4 k hk))]
 ·obtain⟨⟨⟨g1,g2⟩,g3⟩,g4⟩:=hc;unfold DOpr at ka' kb';rw[g1] at ka';rw[g2] at kb';obtain⟨hn,b',c',e1,e2,rfl⟩:=ka';obtain⟨rfl,kb'⟩:=kb';refine⟨h,rb _ _ ?_,ka⟩;unfold DOpr;rw[g2];refine⟨rfl,?_⟩;rw[jP (h:=h) Qf1 fun r hr=> ?_] at kb'
  ·exact kb'
  ·obtain⟨k,hk,rfl⟩:=Xf.1 hr;rw[Qq,Qi (bX g3 (g4 k hk))]
 ·obtain⟨⟨g1,g2⟩,g3⟩:=hc;unfold DOpr at ka' kb';rw[g1] at ka';rw[g2] at kb';obtain⟨rfl,c,he,hc⟩:=ka';obtain⟨k1,k3⟩:=kb';refine⟨h2,kb,ra _ _ ?_⟩;unfold DOpr;rw[g1];refine⟨rfl,c,sX (cQ fun r hr=> ?_) he,hc⟩;obtain⟨k,hk,rfl⟩:=Xf.1 hr;exact k3 k (g3 k hk).1 (g3 k hk).2
 ·obtain⟨⟨g1,g2⟩,g3⟩:=hc;unfold DOpr at ka' kb';rw[g1] at ka';rw[g2] at kb';obtain⟨k1,k3⟩:=ka';obtain⟨rfl,c,he,hc⟩:=kb';refine⟨h,rb _ _ ?_,ka⟩;unfold DOpr;rw[g2];refine⟨rfl,c,sX (cQ fun r hr=> ?_) he,hc⟩;obtain⟨k,hk,rfl⟩:=Xf.1 hr;exact(k3 k (g3 k hk).1 (g3 k hk).2).symm
 ·obtain⟨⟨⟨g1,g2⟩,g3⟩,g4⟩:=hc;unfold DOpr at ka' kb';rw[g1] at ka';rw[g2] at kb';obtain⟨hn,b1,c1,e1,e2,rfl⟩:=ka';obtain⟨⟨h0,k1,k2,k3,k4,k5,rfl⟩,k7⟩:=kb';have hs:=zbZ (n0:=n0) (t0:=t0) g4 g3;have hl:nu n0 t0 da.slot<h.length:=(gsi hn).1;have hl0:nu n0 t0 da.slot<h0.length:=(gsi (k3 _ hs)).1;rw[qN _ hs] at k1;refine⟨xV (kI n0 t0 db.fb) h h0,rb _ _ ?_,ra _ _ ?_⟩
  ·unfold DOpr;rw[g2];refine⟨⟨h0,k1,fun r hr=>by have:=k2 r hr;simpa using this,k3,k4,fun r b hr hb=>k5 r b hr (by rw[Qq,Qi (by rintro rfl;exact hr hs)];exact hb),rfl⟩,fun k hk hge=> ?_⟩;have:=k7 k hk hge;rw[xA (kV n0 t0 hge),Qq,Qi (bX g3 hge)] at this;rw[xA (kV n0 t0 hge)];exact this
  ·unfold DOpr;rw[g1];exact⟨by rw[qF hs hl0 hl];exact hn,b1,c1,e1,e2,nL _ hs hl⟩
 ·obtain⟨⟨⟨g1,g2⟩,g3⟩,g4⟩:=hc;unfold DOpr at ka' kb';rw[g1] at ka';rw[g2] at kb';obtain⟨⟨h0,k1,k2,k3,k4,k5,rfl⟩,k7⟩:=ka';obtain⟨hn,b1,c1,e1,e2,rfl⟩:=kb';have hs:=zbZ (n0:=n0) (t0:=t0) g4 g3;have hl:=k2 _ hs;have hl0:nu n0 t0 db.slot<h0.length:=(gsi (k3 _ hs)).1;rw[qF hs hl0 hl] at hn;refine⟨h.set (nu n0 t0 db.slot) b1,rb _ _ ?_,ra _ _ ?_⟩
  ·unfold DOpr;rw[g2];exact⟨hn,b1,c1,e1,e2,rfl⟩
  ·unfold DOpr;rw[g1];refine⟨⟨h0,by rw[qN _ hs];exact k1,fun r hr=>by have:=k2 r hr;simpa using this,k3,k4,fun r b hr hb=>k5 r b hr (by rw[Qq,Qi (by rintro rfl;exact hr hs)] at hb;exact hb),(nL _ hs hl).symm⟩,fun k hk hge=> ?_⟩;have:=k7 k hk hge;rw[xA (kV n0 t0 hge)] at this;rw[<-nL _ hs hl,xA (kV n0 t0 hge),Qq,Qi (bX g3 hge)];exact this
theorem DStep.swap{ann:Nat->DAnn}{ops:List Oper}{i j:Nat}{a b:Oper}(ha:ops[i]? =some a)(hb:ops[j]? =some b)(hc:lK ops (ann i) (ann j) a b=true){s m s':List PV×Heap}
  (k:DStep P G rd n0 t0 ann ops i s m) (k':DStep P G rd n0 t0 ann ops j m s'): ∃m',DStep P G rd n0 t0 ann ops j s m'/\DStep P G rd n0 t0 ann ops i m' s':=by
 obtain⟨o,p,h1,ho,ka,rfl⟩:=k;rw[ha] at ho;cases ho;obtain⟨o,q,h2,ho,kb,rfl⟩:=k';rw[hb] at ho;cases ho;unfold lK at hc;rw[Qt,Qt] at hc;obtain⟨⟨c1,c2⟩,c3⟩:=hc;have d1: ∀d,a.dst=some d->d∉rdT ops b/\b.dst≠some d:=by
  intro d hd;rw[hd] at c1;simpa using c1
 have d2: ∀d,b.dst=some d->d∉rdT ops a:=by
  intro d hd;rw[hd] at c2;simpa using c2
 have ag:=fO (G:=G) (ops:=ops) (o:=b) (ts:=s.1) (p:=p) (dst:=a.dst) fun d hd=>(d1 d hd).1;have kb':DGd P G rd n0 t0 (ann j) ops b s.1 h1 q h2:=kb.congr ⟨fun x hx=>(ag.ev x hx).symm,fun j w hg=>(ag.gd j w hg).symm⟩;obtain⟨h1',k1,k2⟩:=DGd.swap c3 ka kb';refine⟨(zZ s.1 b.dst q,h1'),⟨b,q,h1',hb,k1,rfl⟩,a,p,h2,ha,k2.congr (fO d2),?_⟩;simp only[Ys,and_true];cases hda:a.dst with
 |none=>rfl
 | some d=>
  cases hdb:b.dst with
  |none=>rfl
  |some e=>
   simp only[zZ];refine List.set_comm _ _ fun he=>(d1 d hda).2 ?_;rw[hdb,he]
end
end Go.AL
