/-
  A plan for a region whose order is drawn, reckoned and tested.
-/
import Derived.Test.YtlcjmejclpilhaaGreatDoorX05
import Derived.OrdersIn
set_option linter.unusedSimpArgs false
set_option linter.unusedVariables false
set_option maxRecDepth 100000
set_option maxHeartbeats 4000000
namespace Go.AL
open Go.RowKit
theorem nT{f f':Operand->PV}{l:Array Operand}(h: ∀x∈l,f x=f' x):l.toList.map f=l.toList.map f':=
 Yq fun x hx=>h x Qg2
theorem qU{f f':Operand->PV}{l:Option Operand}(h: ∀x,l=some x->f x=f' x):l.map f=l.map f':=by
 cases l with
 |none=>rfl
 |some x=>simp[h x rfl]
theorem zu7{P:Program}{h:Heap}{f f':Operand->PV}{op:Op}(hx: ∀x∈op.operands,f x=f' x):yI (α:=Prop) P h f op=yI P h f' op:=by
 cases op with
 |move x=>simp only[yI,hx x Qgk]
 |assign x=>simp only[yI,hx x Qgk]
 |pick c a b=>simp only[yI,hx c Qgk,hx a Qgk,hx b Qgk]
 |nilCheck x=>simp only[yI,hx x Qgk]
 |binOp o t x y u=>simp only[yI,hx x Qgk,hx y Qgk]
 |unOp o t x=>simp only[yI,hx x Qgk]
 |convert s d x=>simp only[yI,hx x Qgk]
 |makeInterface t x=>simp only[yI,hx x Qgk]
 |makeFunc fn a b=>simp only[yI,nT (l:=a) fun x h=>hx x (by simp[Op.operands,h]),nT (l:=b) fun x h=>hx x (by simp[Op.operands,h])]
 |field t x i=>simp only[yI,hx x Qgk]
 |fieldAddr t x i=>simp only[yI,hx x Qgk]
 |indexAddr t x i=>simp only[yI,hx x Qgk,hx i Qgk]
 |index t x i=>simp only[yI,hx x Qgk,hx i Qgk]
 |load t x=>simp only[yI,hx x Qgk]
 |extract x i=>simp only[yI,hx x Qgk]
 |slice t x lo hi mx=>
  have h1:=hx x Qgk;have h2:=qU (l:=lo) (f:=f) (f':=f') fun y e=>hx y Qgr;have h3:=qU (l:=hi) (f:=f) (f':=f') fun y e=>hx y Qgr;cases mx with
  |none=>simp only[yI,h1,h2,h3]
  |some m=>simp only[yI,h1,h2,h3,hx m Qgk]
 |call c=>
  have ha: ∀x∈c.args.toList,f x=f' x:=fun x h=>hx x (by simp[Op.operands,Call.operands];exact .inr Qfq);simp only[yI];generalize c.args.toList=l at ha ⊢
  generalize c.argTypes.toList=t;split
  ·simp only[ha _ (Qe ..)]
  ·rename_i x y _;simp only[ha x Qf4,ha y Qf4]
  ·rename_i x y _;simp only[ha x Qf4,ha y Qf4]
  ·rfl
 |_=>rfl
theorem cC{P:Program}{h:Heap}{f f':Operand->PV}{op:Op}(hx: ∀x∈op.operands,f x=f' x):zcI (α:=Prop) P h f op=zcI P h f' op:=by
 cases op with
 |binOp o t x y u=>cases o<;>first|rfl|simp only[zcI,hx x Qgk,hx y Qgk]
 |lookup t m k ok=>simp only[zcI,hx m Qgk,hx k Qgk]
 |convert s d x=>simp only[zcI,hx x Qgk]
 |slice t x lo hi mx=>
  have h1:=hx x Qgk;have h2:=qU (l:=lo) (f:=f) (f':=f') fun y e=>hx y Qgr;have h3:=qU (l:=hi) (f:=f) (f':=f') fun y e=>hx y Qgr;cases mx with
  |none=>simp only[zcI,h1,h2,h3]
  |some m=>simp only[zcI,h1,h2,h3,hx m Qgk]
 |_=>rfl
theorem pW{P:Program}{h:Heap}{f f':Operand->PV}{op:Op}(hx: ∀x∈op.operands,f x=f' x):wO (α:=Prop) P h f op=wO P h f' op:=by
 unfold wO;rw[zu7 hx,cC hx]
theorem eA{P:Program}{r:Nat}{f f':Operand->PV}{op:Op}(hx: ∀x∈op.operands,f x=f' x):vH (α:=Prop) P r f op=vH P r f' op:=by
 cases op with
 |box t x=>simp only[vH,hx x Qgk]
 |makeSlice t l c=>simp only[vH,hx l Qgk,hx c Qgk]
 |_=>rfl
def pA{α:Type}[CK α](P:Program)(f:Operand->PV):Op->Option (PV×α)
 | .build t parts=>(vA P [] f (.build t parts)).map fun r=>(r.1,r.2.2)
 | .buildSlice t n parts=>(vA P [] f (.buildSlice t n parts)).map fun r=>(r.1,r.2.2)
 |op=>wO P [] f op
theorem jN{f f':Operand->PV}{l:List (Nat×Operand)}(h: ∀x∈l,f x.2=f' x.2):(l.map fun x=>(x.1,f x.2))=l.map fun x=>(x.1,f' x.2):=
 Yq fun x hx=>by rw[h x hx]
theorem cF{P:Program}{f f':Operand->PV}{op:Op}(hx: ∀x∈op.operands,f x=f' x):pA (α:=Prop) P f op=pA P f' op:=by
 cases op with
 |build t parts=>
  exact Qdh
 |buildSlice t n parts=>
  exact Qdh
 |_=>simp only[pA];exact pW (P:=P) (h:=[]) hx
theorem cE{P:Program}{h h':Heap}(hh: ∀(r:Nat)(t:TypeId)(cs:List PV),h[r]? =some (.var t cs)->h'[r]? =some (.var t cs)){f:Operand->PV}{op:Op}{p:PV}{c:Prop}
  (he:yI P h f op=some (p,c)):yI P h' f op=some (p,c):=by
 cases op with
 | load t x=>
  simp only[yI] at he ⊢
  split at he
  ·exact he
  ·split at he
   ·rename_i r o _ _ t' cs hr;rw[hh _ _ _ hr];exact he
   ·cases he
  ·cases he
 | slice t x lo hi mx=>
  simp only[yI] at he ⊢
  split at he
  ·exact he
  ·split at he
   ·rename_i n e r o _ _;split at he
    ·rename_i k _ t' cs hk hr;rw[hk,hh _ _ _ hr];exact he
    ·cases he
   ·exact he
   ·exact he
   ·cases he
 |_=>exact he
theorem aL{h h':Heap}(hh: ∀(r:Nat)(b:Blk),b≠ .non->h[r]? =some b->h'[r]? =some b){p:PV}{es:List (Value×PV)}(he:oS h p=some es):oS h' p=some es:=by
 unfold oS at he ⊢
 split at he
 ·split at he
  ·rename_i hb;rw[hh _ _ Qf4 hb];exact he
  ·cases he
 ·exact he
 ·cases he
theorem eE{P:Program}{h h':Heap}(hh: ∀(r:Nat)(b:Blk),b≠ .non->h[r]? =some b->h'[r]? =some b){t:TypeId}{ok:Bool}{m k p:PV}{c:Prop}(he:xQ P h t ok m k=some (p,c)):xQ P h' t ok m k=some (p,c):=by
 unfold xQ at he ⊢
 split at he
 ·split at he
  ·split at he
   ·rename_i hes hz;rw[aL hh hes,hz];exact he
   ·cases he
  ·cases he
 ·cases he
theorem sX{P:Program}{h h':Heap}(hh: ∀(r:Nat)(b:Blk),b≠ .non->h[r]? =some b->h'[r]? =some b){f:Operand->PV}{op:Op}{p:PV}{c:Prop}
  (he:wO P h f op=some (p,c)):wO P h' f op=some (p,c):=by
 unfold wO at he ⊢
 split at he
 ·rename_i r hr;cases he;rw[cE (fun r t cs hb=>hh r _ Qf4 hb) hr]
 ·rename_i hr;have key:(∀t x,op≠ .load t x)->(∀t x lo hi mx,op= .slice t x lo hi mx->f x= .nil)->yI (α:=Prop) P h' f op=none:=by
   intro k1 k2;rw[<-hr];cases op with
   |load t x=>exact absurd rfl (k1 t x)
   |slice t x lo hi mx=>
    simp only[yI,k2 t x lo hi mx rfl,zaG];cases wX P t<;>cases bR P t<;>rfl
   |_=>rfl
  cases op with
  |lookup t m k ok=>rw[key Qf4 Qf4];exact eE hh he
  | slice t x lo hi mx=>
   rw[key Qf4 (fun t' x' lo' hi' mx' e=>by
    cases e;simp only[zcI] at he;split at he
    ·assumption
    ·cases he)]
   exact he
  |binOp o t x y u=>rw[key Qf4 Qf4];cases o<;>exact he
  |convert s d x=>rw[key Qf4 Qf4];exact he
  |_=>cases he
structure DAnn where
 cl:Nat
 slot:Nat
 fb:List Nat
 deriving Inhabited
def nu(n0:Nat)(t0:List PV)(k:Nat):Nat:=if k<1000 then n0+k else match t0.getD (k-1000) .un with
 | .ptr r _=>if r<n0 then r else n0+k
 |_=>n0+k
theorem bX{n0:Nat}{t0:List PV}{a b:Nat}(ha:a<1000)(hb:1000<=b):nu n0 t0 a≠nu n0 t0 b:=by
 unfold nu;rw[Qj ha,Qi Qf3];split
 ·split<;>omega
 ·omega
def only(vs:List Nat)(h:Heap):Heap:=h.mapIdx fun i b=>if vs.contains i then b else .non
theorem oA{vs:List Nat}{h:Heap}{r:Nat}:(only vs h)[r]? =(h[r]?).map fun b=>if vs.contains r then b else .non:=by
 unfold only;rw[Zl]
theorem jP{vs:List Nat}{h h':Heap}(hl:h'.length=h.length)(hv: ∀r∈vs,h'[r]? =h[r]?):only vs h'=only vs h:=by
 apply Zh;intro r;rw[oA,oA];by_cases hr:r∈vs
 ·rw[hv r hr]
 ·have hc:vs.contains r=false:=by simpa using hr
  simp only[hc];by_cases hlt:r<h.length
  ·rw[Qa hlt,Qa Qf3];rfl
  ·rw[Ye Qf3,Ye Qf3]
theorem cQ{vs:List Nat}{h h':Heap}(hv: ∀r∈vs,h'[r]? =h[r]?)(r:Nat)(b:Blk)(hbn:b≠ .non)(hr:(only vs h)[r]? =some b):(only vs h')[r]? =some b:=by
 rw[oA] at hr ⊢
 by_cases hm:r∈vs
 ·rw[hv r hm];exact hr
 ·exfalso;have hc:vs.contains r=false:=by simpa using hm
  rw[hc] at hr;cases hb:h[r]? with
  |none=>rw[hb] at hr;cases hr
  |some b'=>rw[hb] at hr;simp at hr;exact hbn hr.symm
section
variable(P:Program)(G:Glob)(rd:Option Nat)(n0:Nat)(t0:List PV)
def DPure(o:Oper)(f:Operand->PV)(p:PV):Prop:= ∃(c:Call)(x:Operand)(g:FuncId)(fst cap:List PV),o.op= .call c/\c.callee= .value x/\f x= .fn (.func g) fst cap/\
 Pure P G g (fst++c.args.toList.map f++cap) p/\(∀q∈fst++c.args.toList.map f++cap,Tree q)/\Tree p
def kI(n0:Nat)(t0:List PV)(fb:List Nat):List Nat:=(fb.filter fun k=>decide (k<1000)).map (nu n0 t0)
theorem zbZ{fb:List Nat}{k:Nat}(hk:k∈fb)(h:k<1000):nu n0 t0 k∈kI n0 t0 fb:=Xf.2 ⟨k,List.mem_filter.2 ⟨hk,by simpa using h⟩,rfl⟩
theorem kV{fb:List Nat}{k:Nat}(h:1000<=k):nu n0 t0 k∉kI n0 t0 fb:=by
 intro hm;obtain⟨j,hj,e⟩:=Xf.1 hm;exact bX (Xj (List.mem_filter.1 hj).2) h e
theorem nL{fb:List Nat}{h h0:Heap}{s:Nat}(b:Blk)(hs:s∈fb)(hl:s<h.length):xV fb (h.set s b) h0=(xV fb h h0).set s b:=by
 apply Zh;intro r;rw[Qq];unfold xV;rw[Zl,Zl,List.length_mapIdx];by_cases hr:s=r
 ·subst hr;by_cases hl0:s<h0.length
  ·simp[hs,hl,hl0,Qb]
  ·simp[hl0]
 ·rw[Qi hr];cases h0[r]? with
  |none=>rfl
  |some c=>simp[Qb,Qq,hr]
def DHid(o:Oper)(ts:List PV)(fb:List Nat)(h:Heap)(p:PV)(h1 h0:Heap):Prop:=
 OpOk P G rd o (rI fb h) (wV G ts) (fun q h'=>q=p/\h'=h0)/\(∀r∈fb,r<h.length)/\(∀r∈fb,h0[r]? =some .non)/\(∀x∈o.op.operands,Av fb (wV G ts x))/\
  (∀r b,r∉fb->h[r]? =some b->AvB fb b)/\h1=xV fb h h0
def DOpr(d:DAnn)(o:Oper)(ts:List PV)(h:Heap)(p:PV)(h1:Heap):Prop:=
 match d.cl with
 |0=>h1=h/\ ∃c:Prop,pA P (wV G ts) o.op=some (p,c)/\c
 |1=>h1=h/\ ∃c:Prop,wO P (rI (d.fb.map (nu n0 t0)) h) (wV G ts) o.op=some (p,c)/\c
 |2=>h[nu n0 t0 d.slot]? =some .non/\ ∃(b:Blk)(c:Prop),vH P (nu n0 t0 d.slot) (wV G ts) o.op=some (p,b,c)/\c/\h1=h.set (nu n0 t0 d.slot) b
 |3=>h1=h/\DPure P G o (wV G ts) p
 |5=> ∃(t:TypeId)(a x:Operand)(off:Nat)(c:Prop),o.op= .store t a x/\wV G ts a= .ptr (nu n0 t0 d.slot) off/\vA P h (wV G ts) (.store t a x)=some (p,h1,c)/\c
 |6=>(∃h0,DHid P G rd o ts (kI n0 t0 d.fb) h p h1 h0)/\ ∀k∈d.fb,1000<=k->h1[nu n0 t0 k]? =h[nu n0 t0 k]?
 |7=>h1=h/\ ∃c:Prop,wO P (only (d.fb.map (nu n0 t0)) h) (wV G ts) o.op=some (p,c)/\c
 |_=>OpOk P G rd o h (wV G ts) fun q h'=>q=p/\h'=h1
def DGd(d:DAnn)(ops:List Oper)(o:Oper)(ts:List PV)(h:Heap)(p:PV)(h1:Heap):Prop:=
 match o.guard with
 |none=>DOpr P G rd n0 t0 d o ts h p h1
 |some (j,want)=>match zh9 ops ts j with
  |some (.sc (.bool b))=>(b=want/\DOpr P G rd n0 t0 d o ts h p h1)\/(b≠want/\p= .ud/\h1=h)
  |some .ud=>p= .ud/\h1=h
  |_=>False
def DStep(ann:Nat->DAnn)(ops:List Oper)(i:Nat)(s s':List PV×Heap):Prop:=
 ∃(o:Oper)(p:PV)(h1:Heap),ops[i]? =some o/\DGd P G rd n0 t0 (ann i) ops o s.1 s.2 p h1/\s'=(zZ s.1 o.dst p,h1)
def DRun(ann:Nat->DAnn)(ops:List Oper):List Nat->List PV×Heap->List PV×Heap->Prop
 | [],s,s'=>s'=s
 |i::r,s,s'=> ∃m,DStep P G rd n0 t0 ann ops i s m/\DRun ann ops r m s'
def rdT(ops:List Oper)(o:Oper):List Tmp:=
 o.op.operands.toList.filterMap (fun| .tmp t=>some t|_=>none)++match o.guard with
  |some (j,_)=>((ops[j]?).bind (·.dst)).toList
  |none=>[]
def lK(ops:List Oper)(da db:DAnn)(a b:Oper):Bool:=
 (match a.dst with|some d=> !(rdT ops b).contains d&&b.dst !=some d|none=>true)&&
 (match b.dst with|some d=> !(rdT ops a).contains d|none=>true)&&
 (da.cl==0||da.cl==3||db.cl==0||db.cl==3||(da.cl==1&&db.cl==1)||(da.cl==1&&db.cl==2&&da.fb.contains db.slot)||
  (da.cl==2&&db.cl==1&&db.fb.contains da.slot)||(da.cl==2&&db.cl==2&&decide (da.slot<1000)&&decide (db.slot<1000)&&da.slot !=db.slot)||
  (da.cl==1&&db.cl==5&&da.fb.contains db.slot)||(da.cl==5&&db.cl==1&&db.fb.contains da.slot)||
  ((da.cl==1||da.cl==7)&&(db.cl==1||db.cl==7))||(da.cl==7&&db.cl==2&&decide (db.slot<1000)&&da.fb.all (fun k=>decide (1000<=k)))||
  (da.cl==2&&db.cl==7&&decide (da.slot<1000)&&db.fb.all (fun k=>decide (1000<=k)))||(da.cl==7&&db.cl==6&&da.fb.all (fun k=>db.fb.contains k&&decide (1000<=k)))||
  (da.cl==6&&db.cl==7&&db.fb.all (fun k=>da.fb.contains k&&decide (1000<=k)))||(da.cl==2&&db.cl==6&&decide (da.slot<1000)&&db.fb.contains da.slot)||
  (da.cl==6&&db.cl==2&&decide (db.slot<1000)&&da.fb.contains db.slot))
variable{P G rd n0 t0}
structure Agree(ops:List Oper)(o:Oper)(ts ts':List PV):Prop where
 ev: ∀x∈o.op.operands,wV G ts x=wV G ts' x
 gd: ∀j w,o.guard=some (j,w)->zh9 ops ts j=zh9 ops ts' j
theorem fO{ops:List Oper}{o:Oper}{ts:List PV}{dst:Option Tmp}{p:PV}(h: ∀d,dst=some d->d∉rdT ops o):Agree (G:=G) ops o ts (zZ ts dst p):=by
 cases dst with
 |none=>exact⟨fun x _=>rfl,fun j w _=>rfl⟩
 | some d=>
  have hd:=h d rfl;unfold rdT at hd;rw[Qo,not_or] at hd;have key: ∀t,t≠d->ts.getD t .un=(ts.set d p).getD t .un:=fun t ht=>by
   rw[Qb,Qb,Qq,Qi (Ne.symm ht)]
  refine⟨fun x hx=> ?_,fun j w hg=> ?_⟩
  ·cases x with
   |tmp t=>
    refine key t fun e=>hd.1 ?_;subst e;exact List.mem_filterMap.2 ⟨.tmp t,by simpa using hx,rfl⟩
   |_=>rfl
  ·rw[hg] at hd;simp only[zh9,zZ];cases hj:(ops[j]?).bind (·.dst) with
   |none=>rfl
   |some t=>
    simp only[Wi,Option.some.injEq];refine key t fun e=>hd.2 ?_;show d∈((ops[j]?).bind (·.dst)).toList;rw[hj,e];simp
theorem OpOk.congr{o:Oper}{h:Heap}{f f':Operand->PV}{R:PV->Heap->Prop}(hf: ∀x∈o.op.operands,f x=f' x)(k:OpOk P G rd o h f R):OpOk P G rd o h f' R:=
 fun φ w X a K Q hS hG hx hK=>k φ w X a K Q hS hG (fun x hm=>by rw[hf x hm];exact hx x hm) hK
theorem DPure.congr{o:Oper}{f f':Operand->PV}{p:PV}(hf: ∀x∈o.op.operands,f x=f' x)(k:DPure P G o f p):DPure P G o f' p:=by
 obtain⟨c,x,g,fst,cap,ho,hc,hfx,hp,ht,hr⟩:=k;have e:c.args.toList.map f=c.args.toList.map f':=nT fun y hy=>hf y (by simp[ho,Op.operands,Call.operands,hy]);rw[e] at hp ht;exact⟨c,x,g,fst,cap,ho,hc,by rw[<-hf x (by simp[ho,Op.operands,Call.operands,hc])];exact hfx,hp,ht,hr⟩
theorem DOpr.congr{d:DAnn}{o:Oper}{ts ts':List PV}{h:Heap}{p:PV}{h1:Heap}(hf: ∀x∈o.op.operands,wV G ts x=wV G ts' x)(k:DOpr P G rd n0 t0 d o ts h p h1):DOpr P G rd n0 t0 d o ts' h p h1:=by
 unfold DOpr at*;split at k
 ·rw[cF hf] at k;exact k
 ·rw[pW hf] at k;exact k
 ·rw[eA hf] at k;exact k
 ·exact⟨k.1,k.2.congr hf⟩
 ·obtain⟨t,a,x,off,c,ho,ha,he,hc⟩:=k;have e1:=hf a (by simp[ho,Op.operands]);have e2:=hf x (by simp[ho,Op.operands]);refine⟨t,a,x,off,c,ho,e1▸ha,?_,hc⟩;rw[<-he];simp only[vA,e1,e2]
 ·obtain⟨⟨h0,k1,k2,k3,k4,k5⟩,k6⟩:=k;exact⟨⟨h0,k1.congr hf,k2,k3,fun x hx=>by rw[<-hf x hx];exact k4 x hx,k5⟩,k6⟩
 ·rw[pW hf] at k;exact k
 ·exact k.congr hf
theorem DGd.congr{d:DAnn}{ops:List Oper}{o:Oper}{ts ts':List PV}{h:Heap}{p:PV}{h1:Heap}(ha:Agree (G:=G) ops o ts ts')(k:DGd P G rd n0 t0 d ops o ts h p h1):DGd P G rd n0 t0 d ops o ts' h p h1:=by
 unfold DGd at*;cases hg:o.guard with
 |none=>rw[hg] at k;exact k.congr ha.ev
 | some jw=>
  obtain⟨j,w⟩:=jw;rw[hg] at k;simp only[] at k ⊢
  rw[<-ha.gd j w hg];split at k
  ·rcases k with ⟨h1,k⟩|k
   ·exact .inl ⟨h1,k.congr ha.ev⟩
   ·exact .inr k
  ·exact k
  ·exact k.elim
theorem DGd.free{d:DAnn}(hd:d.cl=0\/d.cl=3){ops:List Oper}{o:Oper}{ts:List PV}{h h1:Heap}{p:PV}(k:DGd P G rd n0 t0 d ops o ts h p h1):h1=h/\ ∀h',DGd P G rd n0 t0 d ops o ts h' p h':=by
 have key: ∀{h h1:Heap},DOpr P G rd n0 t0 d o ts h p h1->h1=h/\ ∀h',DOpr P G rd n0 t0 d o ts h' p h':=by
  intro h h1 k;unfold DOpr at*;rcases hd with hd|hd<;>rw[hd] at k ⊢ <;>exact⟨k.1,fun h'=>⟨rfl,k.2⟩⟩
 unfold DGd at*;split at k
 ·exact key k
 ·split at k
  ·rcases k with ⟨e,k⟩|⟨e,k1,k2⟩
   ·exact⟨(key k).1,fun h'=> .inl ⟨e,(key k).2 h'⟩⟩
   ·exact⟨k2,fun h'=> .inr ⟨e,k1,rfl⟩⟩
  ·exact⟨k.2,fun h'=>⟨k.1,rfl⟩⟩
  ·exact k.elim
theorem DGd.cases{d:DAnn}{ops:List Oper}{o:Oper}{ts:List PV}{h h1:Heap}{p:PV}(k:DGd P G rd n0 t0 d ops o ts h p h1):
  (h1=h/\ ∀h',DGd P G rd n0 t0 d ops o ts h' p h')\/(DOpr P G rd n0 t0 d o ts h p h1/\ ∀h' h1',DOpr P G rd n0 t0 d o ts h' p h1'->DGd P G rd n0 t0 d ops o ts h' p h1'):=by
 unfold DGd at*;split at k
 ·exact .inr ⟨k,fun _ _ h=>h⟩
 ·split at k
  ·rcases k with ⟨e,k⟩|⟨e,k1,k2⟩
   ·exact .inr ⟨k,fun _ _ h=> .inl ⟨e,h⟩⟩
   ·exact .inl ⟨k2,fun h'=> .inr ⟨e,k1,rfl⟩⟩
  ·exact .inl ⟨k.2,fun h'=>⟨k.1,rfl⟩⟩
  ·exact k.elim
theorem jV{h h1:Heap}{f:Operand->PV}{t:TypeId}{a x:Operand}{r off:Nat}{p:PV}{c:Prop}(ha:f a= .ptr r off)(he:vA P h f (.store t a x)=some (p,h1,c)): ∃B,h1=h.set r B:=by
 simp only[vA,ha] at he;repeat' split at he
 all_goals first
  |(cases he;done)
  |(cases he;exact⟨_,rfl⟩)
theorem DGd.swap{da db:DAnn}{ops:List Oper}{a b:Oper}{ts:List PV}{h h1 h2:Heap}{p q:PV}
  (hc:(da.cl==0||da.cl==3||db.cl==0||db.cl==3||(da.cl==1&&db.cl==1)||(da.cl==1&&db.cl==2&&da.fb.contains db.slot)||
  (da.cl==2&&db.cl==1&&db.fb.contains da.slot)||(da.cl==2&&db.cl==2&&decide (da.slot<1000)&&decide (db.slot<1000)&&da.slot !=db.slot)||
  (da.cl==1&&db.cl==5&&da.fb.contains db.slot)||(da.cl==5&&db.cl==1&&db.fb.contains da.slot)||
  ((da.cl==1||da.cl==7)&&(db.cl==1||db.cl==7))||(da.cl==7&&db.cl==2&&decide (db.slot<1000)&&da.fb.all (fun k=>decide (1000<=k)))||
  (da.cl==2&&db.cl==7&&decide (da.slot<1000)&&db.fb.all (fun k=>decide (1000<=k)))||(da.cl==7&&db.cl==6&&da.fb.all (fun k=>db.fb.contains k&&decide (1000<=k)))||
  (da.cl==6&&db.cl==7&&db.fb.all (fun k=>da.fb.contains k&&decide (1000<=k)))||(da.cl==2&&db.cl==6&&decide (da.slot<1000)&&db.fb.contains da.slot)||
  (da.cl==6&&db.cl==2&&decide (db.slot<1000)&&da.fb.contains db.slot))=true)
  (ka:DGd P G rd n0 t0 da ops a ts h p h1) (kb:DGd P G rd n0 t0 db ops b ts h1 q h2): ∃h1',DGd P G rd n0 t0 db ops b ts h q h1'/\DGd P G rd n0 t0 da ops a ts h1' p h2:=by
 have freeA:(h1=h/\ ∀h',DGd P G rd n0 t0 da ops a ts h' p h')-> ∃h1',DGd P G rd n0 t0 db ops b ts h q h1'/\DGd P G rd n0 t0 da ops a ts h1' p h2:=fun⟨e,k⟩=>⟨h2,e▸kb,k h2⟩
 have freeB:(h2=h1/\ ∀h',DGd P G rd n0 t0 db ops b ts h' q h')-> ∃h1',DGd P G rd n0 t0 db ops b ts h q h1'/\DGd P G rd n0 t0 da ops a ts h1' p h2:=fun⟨e,k⟩=>⟨h,k h,e▸ka⟩
 rcases ka.cases with fa|⟨ka',ra⟩
 ·exact freeA fa
 rcases kb.cases with fb|⟨kb',rb⟩
 ·exact freeB fb
 simp only[Jz,Zm,Qt,List.contains_iff_mem,bne_iff_ne,ne_eq,Xg] at hc;simp only[Xm] at hc;rcases hc with (((((((((((((((hc|hc)|hc)|hc)|hc)|hc)|hc)|hc)|hc)|hc)|hc)|hc)|hc)|hc)|hc)|hc)|hc
 ·exact freeA (ka.free (.inl hc))
 ·exact freeA (ka.free (.inr hc))
 ·exact freeB (kb.free (.inl hc))
 ·exact freeB (kb.free (.inr hc))
 ·unfold DOpr at ka' kb';rw[hc.1] at ka';rw[hc.2] at kb';obtain⟨rfl,ka'⟩:=ka';obtain⟨rfl,kb'⟩:=kb';exact⟨h2,kb,ka⟩
 ·unfold DOpr at ka' kb';rw[hc.1.1] at ka';rw[hc.1.2] at kb';obtain⟨rfl,ka'⟩:=ka';refine⟨h2,kb,ra _ _ ?_⟩;unfold DOpr;rw[hc.1.1];obtain⟨_,b',c',_,_,rfl⟩:=kb';refine⟨rfl,?_⟩;rw[qN _ (Xf.2 ⟨_,hc.2,rfl⟩)];exact ka'
 ·unfold DOpr at ka' kb';rw[hc.1.1] at ka';rw[hc.1.2] at kb';obtain⟨hn,b',c',e1,e2,rfl⟩:=ka';obtain⟨rfl,kb'⟩:=kb';rw[qN _ (Xf.2 ⟨_,hc.2,rfl⟩)] at kb';refine⟨h,rb _ _ ?_,ka⟩;unfold DOpr;rw[hc.1.2];exact⟨rfl,kb'⟩
 ·obtain⟨⟨⟨⟨g1,g2⟩,g3⟩,g4⟩,g5⟩:=hc;unfold DOpr at ka' kb';rw[g1] at ka';rw[g2] at kb';obtain⟨hn,b1,c1,e1,e2,rfl⟩:=ka';obtain⟨hn',b2,c2,e3,e4,rfl⟩:=kb';have hne:nu n0 t0 da.slot≠nu n0 t0 db.slot:=fun e=>g5 (by unfold nu at e;rw[Qj g3,Qj g4] at e;omega);rw[Qq,Qi hne] at hn';refine⟨h.set (nu n0 t0 db.slot) b2,rb _ _ ?_,ra _ _ ?_⟩
  ·unfold DOpr;rw[g2];exact⟨hn',b2,c2,e3,e4,rfl⟩
  ·unfold DOpr;rw[g1];refine⟨by rw[Qq,Qi (Ne.symm hne)];exact hn,b1,c1,e1,e2,?_⟩;rw[List.set_comm _ _ hne]
 ·obtain⟨⟨g1,g2⟩,g3⟩:=hc;unfold DOpr at ka' kb';rw[g1] at ka';rw[g2] at kb';obtain⟨rfl,ka'⟩:=ka';refine⟨h2,kb,ra _ _ ?_⟩;unfold DOpr;rw[g1];obtain⟨t,a,x,off,c,ho,ha,he,hc⟩:=kb';obtain⟨B,rfl⟩:=jV ha he;refine⟨rfl,?_⟩;rw[qN _ (Xf.2 ⟨_,g3,rfl⟩)];exact ka'
 ·obtain⟨⟨g1,g2⟩,g3⟩:=hc;unfold DOpr at ka' kb';rw[g1] at ka';rw[g2] at kb';obtain⟨t,a,x,off,c,ho,ha,he,hc⟩:=ka';obtain⟨B,rfl⟩:=jV ha he;obtain⟨rfl,kb'⟩:=kb';rw[qN _ (Xf.2 ⟨_,g3,rfl⟩)] at kb';refine⟨h,rb _ _ ?_,ka⟩;unfold DOpr;rw[g2];exact⟨rfl,kb'⟩
 ·have ea:h1=h:=by
   unfold DOpr at ka';rcases hc.1 with e|e<;>rw[e] at ka'<;>exact ka'.1
  have eb:h2=h1:=by
   unfold DOpr at kb';rcases hc.2 with e|e<;>rw[e] at kb'<;>exact kb'.1
  subst eb;subst ea;exact⟨_,kb,ka⟩
 ·obtain⟨⟨⟨g1,g2⟩,g3⟩,g4⟩:=hc;unfold DOpr at ka' kb';rw[g1] at ka';rw[g2] at kb';obtain⟨rfl,ka'⟩:=ka';refine⟨h2,kb,ra _ _ ?_⟩;unfold DOpr;rw[g1];obtain⟨_,b',c',_,_,rfl⟩:=kb';refine⟨rfl,?_⟩;rw[jP (h:=h1) Qf4 fun r hr=> ?_]
  ·exact ka'
  ·obtain⟨k,hk,rfl⟩:=Xf.1 hr;rw[Qq,Qi (bX g3 (g4 k hk))]
 ·obtain⟨⟨⟨g1,g2⟩,g3⟩,g4⟩:=hc;unfold DOpr at ka' kb';rw[g1] at ka';rw[g2] at kb';obtain⟨hn,b',c',e1,e2,rfl⟩:=ka';obtain⟨rfl,kb'⟩:=kb';refine⟨h,rb _ _ ?_,ka⟩;unfold DOpr;rw[g2];refine⟨rfl,?_⟩;rw[jP (h:=h) Qf4 fun r hr=> ?_] at kb'
  ·exact kb'
  ·obtain⟨k,hk,rfl⟩:=Xf.1 hr;rw[Qq,Qi (bX g3 (g4 k hk))]
 ·obtain⟨⟨g1,g2⟩,g3⟩:=hc;unfold DOpr at ka' kb';rw[g1] at ka';rw[g2] at kb';obtain⟨rfl,c,he,hc⟩:=ka';obtain⟨k1,k3⟩:=kb';refine⟨h2,kb,ra _ _ ?_⟩;unfold DOpr;rw[g1];refine⟨rfl,c,sX (cQ fun r hr=> ?_) he,hc⟩;obtain⟨k,hk,rfl⟩:=Xf.1 hr;exact k3 k (g3 k hk).1 (g3 k hk).2
 ·obtain⟨⟨g1,g2⟩,g3⟩:=hc;unfold DOpr at ka' kb';rw[g1] at ka';rw[g2] at kb';obtain⟨k1,k3⟩:=ka';obtain⟨rfl,c,he,hc⟩:=kb';refine⟨h,rb _ _ ?_,ka⟩;unfold DOpr;rw[g2];refine⟨rfl,c,sX (cQ fun r hr=> ?_) he,hc⟩;obtain⟨k,hk,rfl⟩:=Xf.1 hr;exact(k3 k (g3 k hk).1 (g3 k hk).2).symm
 ·obtain⟨⟨⟨g1,g2⟩,g3⟩,g4⟩:=hc;unfold DOpr at ka' kb';rw[g1] at ka';rw[g2] at kb';obtain⟨hn,b1,c1,e1,e2,rfl⟩:=ka';obtain⟨⟨h0,k1,k2,k3,k4,k5,rfl⟩,k7⟩:=kb';have hs:=zbZ (n0:=n0) (t0:=t0) g4 g3;have hl:nu n0 t0 da.slot<h.length:=(gsi hn).1;have hl0:nu n0 t0 da.slot<h0.length:=(gsi (k3 _ hs)).1;rw[qN _ hs] at k1;refine⟨xV (kI n0 t0 db.fb) h h0,rb _ _ ?_,ra _ _ ?_⟩
  ·unfold DOpr;rw[g2];refine⟨⟨h0,k1,fun r hr=>by have:=k2 r hr;simpa using this,k3,k4,fun r b hr hb=>k5 r b hr (by rw[Qq,Qi (by rintro rfl;exact hr hs)];exact hb),rfl⟩,fun k hk hge=> ?_⟩;have:=k7 k hk hge;rw[xA (kV n0 t0 hge),Qq,Qi (bX g3 hge)] at this;rw[xA (kV n0 t0 hge)];exact this
  ·unfold DOpr;rw[g1];exact⟨by rw[qF hs hl0 hl];exact hn,b1,c1,e1,e2,nL _ hs hl⟩
 ·obtain⟨⟨⟨g1,g2⟩,g3⟩,g4⟩:=hc;unfold DOpr at ka' kb';rw[g1] at ka';rw[g2] at kb';obtain⟨⟨h0,k1,k2,k3,k4,k5,rfl⟩,k7⟩:=ka';obtain⟨hn,b1,c1,e1,e2,rfl⟩:=kb';have hs:=zbZ (n0:=n0) (t0:=t0) g4 g3;have hl:=k2 _ hs;have hl0:nu n0 t0 db.slot<h0.length:=(gsi (k3 _ hs)).1;rw[qF hs hl0 hl] at hn;refine⟨h.set (nu n0 t0 db.slot) b1,rb _ _ ?_,ra _ _ ?_⟩
  ·unfold DOpr;rw[g2];exact⟨hn,b1,c1,e1,e2,rfl⟩
  ·unfold DOpr;rw[g1];refine⟨⟨h0,by rw[qN _ hs];exact k1,fun r hr=>by have:=k2 r hr;simpa using this,k3,k4,fun r b hr hb=>k5 r b hr (by rw[Qq,Qi (by rintro rfl;exact hr hs)] at hb;exact hb),(nL _ hs hl).symm⟩,fun k hk hge=> ?_⟩;have:=k7 k hk hge;rw[xA (kV n0 t0 hge)] at this;rw[<-nL _ hs hl,xA (kV n0 t0 hge),Qq,Qi (bX g3 hge)];exact this
theorem DStep.swap{ann:Nat->DAnn}{ops:List Oper}{i j:Nat}{a b:Oper}(ha:ops[i]? =some a)(hb:ops[j]? =some b)(hc:lK ops (ann i) (ann j) a b=true){s m s':List PV×Heap}
  (k:DStep P G rd n0 t0 ann ops i s m) (k':DStep P G rd n0 t0 ann ops j m s'): ∃m',DStep P G rd n0 t0 ann ops j s m'/\DStep P G rd n0 t0 ann ops i m' s':=by
 obtain⟨o,p,h1,ho,ka,rfl⟩:=k;rw[ha] at ho;cases ho;obtain⟨o,q,h2,ho,kb,rfl⟩:=k';rw[hb] at ho;cases ho;unfold lK at hc;rw[Qt,Qt] at hc;obtain⟨⟨c1,c2⟩,c3⟩:=hc;have d1: ∀d,a.dst=some d->d∉rdT ops b/\b.dst≠some d:=by
  intro d hd;rw[hd] at c1;simpa using c1
 have d2: ∀d,b.dst=some d->d∉rdT ops a:=by
  intro d hd;rw[hd] at c2;simpa using c2
 have ag:=fO (G:=G) (ops:=ops) (o:=b) (ts:=s.1) (p:=p) (dst:=a.dst) fun d hd=>(d1 d hd).1;have kb':DGd P G rd n0 t0 (ann j) ops b s.1 h1 q h2:=kb.congr ⟨fun x hx=>(ag.ev x hx).symm,fun j w hg=>(ag.gd j w hg).symm⟩;obtain⟨h1',k1,k2⟩:=DGd.swap c3 ka kb';refine⟨(zZ s.1 b.dst q,h1'),⟨b,q,h1',hb,k1,rfl⟩,a,p,h2,ha,k2.congr (fO d2),?_⟩;simp only[Ys,and_true];cases hda:a.dst with
 |none=>rfl
 | some d=>
  cases hdb:b.dst with
  |none=>rfl
  |some e=>
   simp only[zZ];refine List.set_comm _ _ fun he=>(d1 d hda).2 ?_;rw[hdb,he]
end
end Go.AL
namespace Go.AL
open Go.RowKit
inductive Anc(ops:List Oper):Nat->Nat->Prop
 |edge {a i:Nat} {o:Oper} {e:Edge} (ho:ops[i]? =some o) (he:e∈o.after) (hb:Region.binds .any e=true) (ha:e.on=a):Anc ops a i
 |far {a i:Nat} {o:Oper} {e:Edge} (ho:ops[i]? =some o) (he:e∈o.after) (hb:Region.binds .any e=true) (ha:Anc ops a e.on):Anc ops a i
structure Plan(ops:List Oper)(ann:Nat->DAnn)(ρ:List Nat):Prop where
 nodup:ρ.Nodup
 lt: ∀i∈ρ,i<ops.length
 pair:ρ.Pairwise fun i j=>(Anc ops i j\/ ∀a b,ops[i]? =some a->ops[j]? =some b->lK ops (ann i) (ann j) a b=true)/\
  ∀o,ops[i]? =some o-> ∀e∈o.after,Region.binds .any e=true->e.on≠j
 self: ∀i∈ρ, ∀o,ops[i]? =some o-> ∀e∈o.after,Region.binds .any e=true->e.on<ops.length/\e.on≠i
theorem Plan.cut{ops:List Oper}{ann:Nat->DAnn}{α β:List Nat}{i:Nat}(h:Plan ops ann (α++i::β)):Plan ops ann (α++β):=by
 have hsub:(α++β).Sublist (α++i::β):=List.Sublist.append_left (List.sublist_cons_self i β) α;exact⟨h.nodup.sublist hsub,fun j hj=>h.lt j (hsub.subset hj),h.pair.sublist hsub,fun j hj=>h.self j (hsub.subset hj)⟩
theorem jX{ops:Array Oper}{listed:Array Bool}(hdc: ∀(i:Nat)(o:Oper),ops[i]? =some o->listed.getD i false=true-> ∀e∈o.after,Region.binds .any e=true->listed.getD e.on false=true){a i:Nat}
  (h:Anc ops.toList a i):(∀o,ops[i]? =some o-> ∀e∈o.after,Region.binds .any e=true->listed.getD e.on false=true)->listed.getD a false=true:=by
 induction h with
 |edge ho he hb ha=>intro hr;rw[<-ha];exact hr _ Qg3 _ he hb
 |far ho he hb _ ih=>
  intro hr;have hl:=hr _ Qg3 _ he hb;exact ih fun o' ho' e' he' hb'=>hdc _ o' ho' hl e' he' hb'
section
variable{P:Program}{G:Glob}{rd:Option Nat}{n0:Nat}{t0:List PV}
theorem qW{ann:Nat->DAnn}{ops:List Oper}{i:Nat}{b:Oper}(hb:ops[i]? =some b): ∀{α β:List Nat}{s s':List PV×Heap},(∀a∈α, ∀o,ops[a]? =some o->lK ops (ann a) (ann i) o b=true)->
  DRun P G rd n0 t0 ann ops (α++i::β) s s'-> ∃m,DStep P G rd n0 t0 ann ops i s m/\DRun P G rd n0 t0 ann ops (α++β) m s':=by
 intro α
 induction α with
 |nil=>intro β s s' _ h;exact h
 |cons a α ih=>
  intro β s s' hc h;obtain⟨m,h1,h2⟩:=h;obtain⟨m',h3,h4⟩:=ih (fun a ha=>hc a (Qf _ ha)) h2;have h1':=h1;obtain⟨o,_,_,ho,_⟩:=h1';obtain⟨m'',h5,h6⟩:=DStep.swap ho hb (hc a (Qe ..) o ho) h1 h3;exact⟨m'',h5,m',h6,h4⟩
def GTree(G:Glob):Prop:= ∀g cs,G g=some cs-> ∀p∈cs,Tree p
theorem zeO{P:Program}{f:Operand->PV}{op:Op}{p:PV}{h0:Heap}{c:Prop}(hop:(∃t ps,op= .build t ps)\/ ∃t n ps,op= .buildSlice t n ps)(h:Heap)(he:vA P [] f op=some (p,h0,c)):vA P h f op=some (p,h,c):=by
 rcases hop with ⟨t,ps,rfl⟩|⟨t,n,ps,rfl⟩
 ·simp only[vA] at he ⊢
  split at he
  ·cases he;rfl
  ·cases he
 ·simp only[vA] at he ⊢
  repeat' split at he
  all_goals first
   |(cases he;done)
   |(cases he;simp_all)
theorem zgZ{o:Oper}{ts:List PV}{h:Heap}{p:PV}{c:Prop}(he:pA P (wV G ts) o.op=some (p,c))(hc:c):OpOk P G rd o h (wV G ts) fun q h'=>q=p/\h'=h:=by
 have viaEff:((∃t ps,o.op= .build t ps)\/ ∃t n ps,o.op= .buildSlice t n ps)->(vA P [] (wV G ts) o.op).map (fun r=>(r.1,r.2.2))=some (p,c)->OpOk P G rd o h (wV G ts) fun q h'=>q=p/\h'=h:=by
  intro hop he;cases hr:vA (α:=Prop) P [] (wV G ts) o.op with
  |none=>rw[hr] at he;cases he
  |some r=>
   obtain⟨q,h0,d⟩:=r;rw[hr] at he;cases he;exact .of_eff (zeO hop h hr) hc ⟨rfl,rfl⟩
 cases hop:o.op with
 |build t ps=>rw[hop] at he;exact viaEff (.inl ⟨t,ps,hop⟩) (by rw[hop];exact he)
 |buildSlice t n ps=>rw[hop] at he;exact viaEff (.inr ⟨t,n,ps,hop⟩) (by rw[hop];exact he)
 |_=>exact .of_pure (sX (h:=[]) Qf4 (by rw[hop] at he ⊢;exact he)) hc ⟨rfl,rfl⟩
theorem DOpr.ok(hG:GTree G){d:DAnn}{o:Oper}{ts:List PV}{h:Heap}{p:PV}{h1:Heap}(k:DOpr P G rd n0 t0 d o ts h p h1):OpOk P G rd o h (wV G ts) fun q h'=>q=p/\h'=h1:=by
 unfold DOpr at k;split at k
 ·obtain⟨rfl,c,he,hc⟩:=k;exact zgZ he hc
 ·obtain⟨rfl,c,he,hc⟩:=k;refine .of_pure (sX (h:=rI (d.fb.map (nu n0 t0)) h1) (fun r b hbn hr=> ?_) he) hc ⟨rfl,rfl⟩;rw[qO] at hr;split at hr
  ·cases hr;exact absurd rfl hbn
  ·exact hr
 ·obtain⟨hn,b,c,he,hc,rfl⟩:=k;refine .of_run (fun c hop=>by rw[hop] at he;cases he) fun φ w X ρ hS _ hx=> ?_;obtain⟨φ',w',v,hrun,x,hs,hv⟩:=zd1 (P:=P) (S:=⟨φ,h,w,X⟩) (o:=o) (ρ:=ρ) hS hx hn he hc;exact⟨φ',_,w',p,v,hrun,x,hs,hv,rfl,rfl⟩
 ·obtain⟨rfl,c,x,g,fst,cap,ho,hc,hx,hp,ht,hr⟩:=k;exact .call ho hc hx (hp.frame ht hr hG h1)
 ·obtain⟨t,a,x,off,c,ho,_,he,hc⟩:=k;exact .of_eff (ho▸he) hc ⟨rfl,rfl⟩
 ·obtain⟨⟨h0,k1,k2,k3,k4,k5,rfl⟩,_⟩:=k;exact .frame hG k1 k2 k3 k4 k5
 ·obtain⟨rfl,c,he,hc⟩:=k;refine .of_pure (sX (h:=only (d.fb.map (nu n0 t0)) h1) (fun r b hbn hr=> ?_) he) hc ⟨rfl,rfl⟩;rw[oA] at hr;cases hb:h1[r]? with
  |none=>rw[hb] at hr;cases hr
  |some b'=>
   rw[hb] at hr;simp only[Wi,Option.some.injEq] at hr;split at hr
   ·rw[hr]
   ·exact absurd hr.symm hbn
 ·exact k
theorem nQ(hG:GTree G){ops:Array Oper}{ann:Nat->DAnn}{QQ:Exit->Act->World->Prop}{sF:List PV×Heap}{Q0:List PV->Heap->Prop}(hQ0:Q0 sF.1 sF.2): ∀(fuel:Nat)(ρ:List Nat)(listed:Array Bool)(s:List PV×Heap),DRun P G rd n0 t0 ann ops.toList ρ s sF->
  Plan ops.toList ann ρ->ρ.length<=fuel->listed.size=ops.size->(∀i,i<ops.size->(i∈ρ↔listed.getD i true=false))->
  (∀(i:Nat)(o:Oper),ops[i]? =some o->listed.getD i false=true-> ∀e∈o.after,Region.binds .any e=true->listed.getD e.on false=true)->
  ∀(B:Nat)(φ:List Value)(w:World)(X:Addr->Prop)(a:Act),ARel B ⟨φ,s.2,w,X⟩ G s.1 a->
   (∀(φ':List Value)(w':World)(a':Act)(ts':List PV)(h':Heap),Ext ⟨φ,s.2,w,X⟩ ⟨φ',h',w',X⟩->ARel B ⟨φ',h',w',X⟩ G ts' a'->Q0 ts' h'->QQ .normal a' w')->
   wpAnyIn (FW rd) 0 P .any ops QQ fuel listed a w:=by
 intro fuel
 induction fuel with
 |zero=>
  intro ρ listed s hrun hpl hlen hsz hmem hdc B φ w X a hA hQ;have hρ:ρ=[]:=Xi Qf3;subst hρ;cases hrun;refine⟨?_,hQ φ w a _ _ (Ext.refl _) hA hQ0⟩;refine List.eq_nil_iff_forall_not_mem.2 fun i hi=> ?_;obtain⟨h0,o,ho,_⟩:=mem_ready.1 hi;have:=(hmem i (Qz.1 ho).1).2 h0;cases this
 | succ fuel ih=>
  intro ρ listed s hrun hpl hlen hsz hmem hdc B φ w X a hA hQ;have unl: ∀i,i<ops.size->i∈ρ->listed.getD i false=false:=fun i hi h=>by
   have:=(hmem i hi).1 h;rw[Yx] at this ⊢
   have hlt:i<listed.size:=Qf3;simp[hlt] at this ⊢
   exact this
  have lst: ∀i,i<ops.size->i∉ρ->listed.getD i false=true:=fun i hi h=>by
   have h1:listed.getD i true≠false:=fun e=>h ((hmem i hi).2 e);rw[Yx] at h1 ⊢
   have hlt:i<listed.size:=Qf3;simp[hlt] at h1 ⊢
   exact h1
  refine⟨fun hr=> ?_,fun i hi=> ?_⟩
  ·cases ρ with
   |nil=>cases hrun;exact hQ φ w a _ _ (Ext.refl _) hA hQ0
   | cons i ρ=>
    exfalso;have hlt:i<ops.size:=by simpa using hpl.lt i Qf4
    have:i∈Region.ready .any ops listed:=by
     rw[mem_ready];refine⟨(hmem i hlt).1 Qf4,ops[i],by simp[hlt],fun e he hb=> ?_⟩;have hs:=hpl.self i Qf4 ops[i] (by simp[hlt]) e he hb;refine lst _ (by simpa using hs.1) fun hm=> ?_;rcases Qw.1 hm with h|h
     ·exact hs.2 h
     ·exact((Yb.1 hpl.pair).1 _ h).2 ops[i] (by simp[hlt]) e he hb rfl
    rw[hr] at this;cases this
  ·obtain⟨h0,o,ho,hedge⟩:=mem_ready.1 hi;have hlt:i<ops.size:=(Qz.1 ho).1;have hiρ:i∈ρ:=(hmem i hlt).2 h0;obtain⟨α,β,rfl⟩:=List.append_of_mem hiρ;have hnd:=hpl.nodup;rw[Za] at hnd;obtain⟨hnα,hnβ,hdis⟩:=hnd;rw[Zs] at hnβ;have hiα:i∉α:=fun h=>hdis i h i Qf4 rfl;obtain⟨m,hst,hrun'⟩:=qW (b:=o) Qg3 (fun x hx ox hox=>by
    have hp:=(Kq.1 hpl.pair).2.2 x hx i Qf4;rcases hp.1 with hanc|hc
    ·have hxlt:x<ops.size:=by simpa using hpl.lt x Qfa
     have h1:=jX hdc hanc fun o' ho' e he hb=>by rw[ho] at ho';cases ho';exact hedge e he hb
     rw[unl x hxlt Qfa] at h1;cases h1
    ·exact hc ox o hox Qg3) hrun
   have hpl':=hpl.cut;have hmem': ∀k,k<ops.size->(k∈α++β↔(listed.setIfInBounds i true).getD k true=false):=by
    intro k hk;by_cases hik:i=k
    ·subst hik;have hlt':i<listed.size:=Qf3;simp[hlt',hiα,hnβ.1]
    ·rw[getD_set_ne true hik,<-hmem k hk];simp[Ne.symm hik]
   have hdc': ∀(k:Nat)(o':Oper),ops[k]? =some o'->(listed.setIfInBounds i true).getD k false=true-> ∀e∈o'.after,Region.binds .any e=true->(listed.setIfInBounds i true).getD e.on false=true:=by
    intro k o' ho' hk e he hb;by_cases hik:i=k
    ·exact Qe1
    ·rw[getD_set_ne false hik] at hk;exact getD_set_true (hdc k o' ho' hk e he hb)
   have next: ∀(φ':List Value)(w':World)(a':Act),Ext ⟨φ,s.2,w,X⟩ ⟨φ',m.2,w',X⟩->ARel B ⟨φ',m.2,w',X⟩ G m.1 a'->wpAnyIn (FW rd) 0 P .any ops QQ fuel (listed.setIfInBounds i true) a' w':=fun φ' w' a' x hA'=>
    ih (α++β) _ m hrun' hpl' Qgs Qga hmem' hdc' B φ' w' X a' hA' fun φ'' w'' a'' ts'' h'' x' hA'' hq=>hQ φ'' w'' a'' ts'' h'' (x.trans x') hA'' hq
   obtain⟨o',p,h1,ho',wP,rfl⟩:=hst;rw[Yi,ho] at ho';cases ho';have put: ∀(φ':List Value)(h':Heap)(w':World)(dst:Option Tmp)(q:PV)(v:Value),Ext ⟨φ,s.2,w,X⟩ ⟨φ',h',w',X⟩->SRel ⟨φ',h',w',X⟩->VRel ⟨φ',h',w',X⟩ q v->
     ARel B ⟨φ',h',w',X⟩ G (zZ s.1 dst q) (a.put dst v):=fun φ' h' w' dst q v x hs hv=>
    ⟨hs,hA.gl.ext x,(hA.tr.ext x).put dst hv,by have:=hA.mark.ext x;cases dst<;>exact this,Ya hA.base x.size⟩
   have step: ∀(hk:DOpr P G rd n0 t0 (ann i) o s.1 s.2 p h1),o.wpIn (FW rd) 0 P a w (wpAnyIn (FW rd) 0 P .any ops QQ fuel (listed.setIfInBounds i true)) QQ:=fun hk=>
    hk.ok hG φ w X a _ _ hA.st hA.gl (fun x _=>lI hA.gl hA.tr x) fun φ' h' w' q v x hs hv ⟨e1,e2⟩=>by subst e1;subst e2;exact next φ' w' _ x (put φ' _ w' _ _ v x hs hv)
   have skip:p= .ud->h1=s.2->wpAnyIn (FW rd) 0 P .any ops QQ fuel (listed.setIfInBounds i true) (a.put o.dst undef) w:=fun e1 e2=>by
    exact Qdi
   simp only[wpOpIn,ho];unfold DGd at wP;cases hg:o.guard with
   |none=>
    rw[hg] at wP;rw[Qj (by simp[Region.wanted,hg])];exact step wP
   | some jw=>
    obtain⟨j,want⟩:=jw;rw[hg] at wP;simp only[] at wP;split at wP
    ·exact Qb2
    ·rename_i hb;exact Qco
    ·exact wP.elim
theorem zu2{φ:List Value}{h:Heap}{w:World}{X:Addr->Prop}(n:Nat)(hn:w.drawn<=n)(hS:SRel ⟨φ,h,w,X⟩):Ext ⟨φ,h,w,X⟩ ⟨φ,h,{w with drawn:=n},X⟩/\SRel ⟨φ,h,{w with drawn:=n},X⟩:=by
 have x:Ext ⟨φ,h,w,X⟩ ⟨φ,h,{w with drawn:=n},X⟩:=⟨rfl,rfl,ztC rfl hn,rfl,Xe _,fun b hb hn=>⟨hn,rfl⟩,fun a v hm=>hm,fun r b hb=>⟨b,hb,Blk.le_refl b rfl⟩,fun _ _ h=>h⟩
 exact⟨x,⟨hS.len,fun r b v hb hv=>(hS.blks r b v hb hv).ext x fun _ _=>rfl,hS.inj,hS.xlt,hS.xown⟩⟩
theorem bM(hm:P.follows .mixedOrders=true)(hG:GTree G){id:Nat}{l:List Oper}{ann:Nat->DAnn}{ρ:List Nat}(hpl:Plan l ann ρ)(hln:ρ.length<=l.length)(hall: ∀i,i<l.length->i∈ρ)(m:Nat){Q:Exit->List PV->Heap->Prop}{ts:List PV}{h:Heap}
  (k: ∃sF,DRun P G rd n0 t0 ann l ρ (ts,rY h m) sF/\Q .normal sF.1 sF.2):AWp P G rd (.region id l.toArray true) Q ts h:=by
 intro B φ w X a hA;obtain⟨sF,hrun,hq⟩:=k;refine wpIn_region_any hm ?_;obtain⟨x1,hS1⟩:=zu2 (w.drawn+1) (Nat.le_succ _) hA.st;obtain⟨x2,hS2⟩:=zbG hS1 m;have x:=x1.trans x2;have hlen:ρ.length<=l.toArray.size:=by simpa using hln
 refine nQ hG (Q0:=Q .normal) hq _ ρ _ (ts,rY h m) (by simpa using hrun) (by simpa using hpl) hlen Qf4 (fun i hi=> ?_) (fun i o ho hl=> ?_) B _ _ X a
  ⟨hS2,hA.gl.ext x,hA.tr.ext x,hA.mark.ext x,Ya hA.base x.size⟩ fun φ' w' a' ts' h' x' hA' hq'=>⟨φ',ts',h',x.trans x',hA',hq'⟩
 ·simp at hi;simp[hi,hall i hi]
 ·exact Qej
end
end Go.AL
namespace Go.AL
open Go.RowKit
def zcC(m:List Nat)(o:Oper):Nat:=
 o.after.toList.foldl (fun acc e=>if Region.binds .any e then acc ||| (1 <<< e.on) ||| m.getD e.on 0 else acc) 0
def qB(ops:List Oper):List Nat->List Nat->List Nat
 | [],m=>m
 |i::r,m=>match ops[i]? with
  |some o=>qB ops r (m.set i (zcC m o))
  |none=>qB ops r m
theorem zaA{ops:List Oper}{m:List Nat}(hm: ∀i a,(m.getD i 0).testBit a=true->Anc ops a i){i:Nat}{o:Oper}(ho:ops[i]? =some o): ∀a,(zcC m o).testBit a=true->Anc ops a i:=by
 have key: ∀(l:List Edge)(acc:Nat),(∀e∈l,e∈o.after)->(∀a,acc.testBit a=true->Anc ops a i)->
   ∀a,(l.foldl (fun acc e=>if Region.binds .any e then acc ||| (1 <<< e.on) ||| m.getD e.on 0 else acc) acc).testBit a=true->Anc ops a i:=by
  intro l
  induction l with
  |nil=>intro acc _ h a ha;exact h a ha
  | cons e l ih=>
   intro acc hl h a ha;refine ih _ (fun x hx=>hl x (Qf _ hx)) (fun b hb=> ?_) a ha;simp only[] at hb;split at hb
   ·rename_i hbind;have he:=hl e Qf4;rw[Kf,Kf,Jz,Jz] at hb;rcases hb with (hb|hb)|hb
    ·exact h b hb
    ·rw[Nat.one_shiftLeft,Nat.testBit_two_pow] at hb;exact .edge ho he hbind (Xj hb)
    ·exact .far ho he hbind (hm _ b hb)
   ·exact h b hb
 intro a ha;exact key _ 0 (fun e he=>by simpa using he) (fun b hb=>by simp at hb) a ha
theorem fN{ops:List Oper}: ∀(r:List Nat)(m:List Nat),(∀i a,(m.getD i 0).testBit a=true->Anc ops a i)-> ∀i a,((qB ops r m).getD i 0).testBit a=true->Anc ops a i:=by
 intro r
 induction r with
 |nil=>intro m h;exact h
 | cons i r ih=>
  intro m h;simp only[qB];split
  ·rename_i o ho;refine ih _ fun j a ha=> ?_;rw[Qb,Qq] at ha;split at ha
   ·rename_i e;subst e;split at ha
    ·exact zaA h ho a ha
    ·simp at ha
   ·exact h j a (by rw[Qb];exact ha)
  ·exact ih m h
def dH(a:Oper)(j:Nat):Bool:=a.after.toList.all fun e=> !Region.binds .any e||e.on !=j
def zhE(ops:List Oper)(ann:Nat->DAnn)(m:List Nat)(i j:Nat):Bool:=
 i !=j&&match ops[i]?,ops[j]? with
  |some a,some b=>((m.getD j 0).testBit i||lK ops (ann i) (ann j) a b)&&dH a j
  |_,_=>false
def pB(ops:List Oper)(ann:Nat->DAnn)(m:List Nat):List Nat->Bool
 | []=>true
 |i::r=>r.all (zhE ops ann m i)&&pB ops ann m r
def nY(ops:List Oper)(i:Nat):Bool:=
 decide (i<ops.length)&&match ops[i]? with
  |some o=>o.after.toList.all fun e=> !Region.binds .any e||(decide (e.on<ops.length)&&e.on !=i)
  |none=>false
def zh1(ops:List Oper)(ann:Nat->DAnn)(ρ:List Nat):Bool:=
 decide (ρ.length<=ops.length)&&(List.range ops.length).all (ρ.contains ·)&&ρ.all (nY ops)&&pB ops ann (qB ops ρ (List.replicate ops.length 0)) ρ
theorem gU{a:Oper}{j:Nat}(h:dH a j=true): ∀e∈a.after,Region.binds .any e=true->e.on≠j:=by
 intro e he hb;unfold dH at h;rw[Xg] at h;have:=h e Qg4;rw[hb] at this;simpa using this
theorem jO{ops:List Oper}{ann:Nat->DAnn}{m:List Nat}(hm: ∀i a,(m.getD i 0).testBit a=true->Anc ops a i): ∀{ρ:List Nat},pB ops ann m ρ=true->ρ.Nodup/\
  ρ.Pairwise fun i j=>(Anc ops i j\/ ∀a b,ops[i]? =some a->ops[j]? =some b->lK ops (ann i) (ann j) a b=true)/\ ∀o,ops[i]? =some o-> ∀e∈o.after,Region.binds .any e=true->e.on≠j:=by
 intro ρ
 induction ρ with
 |nil=>intro _;exact⟨.nil,.nil⟩
 | cons i r ih=>
  intro h;simp only[pB,Qt,Xg] at h;obtain⟨h1,h2⟩:=h;obtain⟨k1,k2⟩:=ih h2;have key: ∀j∈r,i≠j/\((Anc ops i j\/ ∀a b,ops[i]? =some a->ops[j]? =some b->lK ops (ann i) (ann j) a b=true)/\ ∀o,ops[i]? =some o-> ∀e∈o.after,Region.binds .any e=true->e.on≠j):=by
   intro j hj;have hp:=h1 j hj;unfold zhE at hp;rw[Qt] at hp;obtain⟨hne,hp⟩:=hp;refine⟨by simpa using hne,?_⟩;split at hp
   ·rename_i a b ha hb;rw[Qt,Jz] at hp;refine⟨?_,fun o ho=> ?_⟩
    ·rcases hp.1 with h|h
     ·exact .inl (hm _ _ h)
     ·refine .inr fun a' b' ha' hb'=> ?_;rw[ha] at ha';rw[hb] at hb';cases ha';cases hb';exact h
    ·rw[ha] at ho;cases ho;exact gU hp.2
   ·cases hp
  exact⟨Zs.2 ⟨fun hi=>(key i hi).1 rfl,k1⟩,.cons (fun j hj=>(key j hj).2) k2⟩
theorem cP{ops:List Oper}{ann:Nat->DAnn}{ρ:List Nat}(h:zh1 ops ann ρ=true):Plan ops ann ρ/\ρ.length<=ops.length/\ ∀i,i<ops.length->i∈ρ:=by
 unfold zh1 at h;simp only[Qt] at h;obtain⟨⟨⟨h1,h2⟩,h3⟩,h4⟩:=h;obtain⟨k1,k2⟩:=jO (fN ρ _ (by
  intro i a ha;rw[Qb,Zf] at ha;split at ha<;>simp at ha)) h4
 rw[Xg] at h2 h3;refine⟨⟨k1,fun i hi=> ?_,k2,fun i hi o ho e he hb=> ?_⟩,Xj h1,fun i hi=> ?_⟩
 ·have:=h3 i hi;unfold nY at this;rw[Qt] at this;exact Xj this.1
 ·have:=h3 i hi;unfold nY at this;rw[Qt,ho] at this;have h5:=this.2;simp only[Xg] at h5;have h6:=h5 e Qg4;rw[hb] at h6;simp only[Bool.not_true,Bool.false_or,Qt,Xm,bne_iff_ne,ne_eq] at h6;exact h6
 ·have:=h2 i (Jl.2 hi);simpa using this
def zh3:Op->Nat
 | .load .. | .slice .. | .lookup .. =>1
 | .alloc _| .box .. | .makeSlice .. =>2
 | .store .. =>5
 | .call c=>match c.callee with
  | .builtin .len| .builtin .max| .builtin .min=>0
  |_=>4
 | .move _| .assign _| .pick .. | .nilCheck _| .binOp .. | .unOp .. | .convert .. | .makeInterface .. | .makeFunc .. | .field .. | .fieldAddr .. | .index .. | .indexAddr .. | .extract .. | .build .. | .buildSlice .. =>0
 |_=>4
def zc2(ops:List Oper)(slots:List Nat):Op->Option Nat
 | .store _ (.tmp t) _=>match (List.range ops.length).find? (fun i=>match ops[i]? with|some o=>o.dst==some t|none=>false) with
  |some i=>match ops[i]? with
   |some o=>if zh3 o.op==2 then some (slots.getD i 0) else none
   |none=>none
  |none=>some (1000+t)
 |_=>none
def zbM(ops:List Oper):Nat->Nat->List Nat->List Nat
 |0,_,acc=>acc.reverse
 | f+1,bits,acc=>
  let ready:=(List.range ops.length).filter fun i=> !bits.testBit i&&match ops[i]? with
   |some o=>o.after.toList.all fun e=> !Region.binds .any e||bits.testBit e.on
   |none=>false
  let pick:=match ready.find? (fun i=>match ops[i]? with|some o=>zh3 o.op !=2|none=>false) with
   |some i=>some i
   |none=>ready.head?
  match pick with
  |some i=>zbM ops f (bits ||| (1 <<< i)) (i::acc)
  |none=>acc.reverse
def zaQ(ops:List Oper):Nat->Operand->Option Nat
 |0,_=>none
 | f+1,.tmp t=>match ops.find? (fun o=>o.dst==some t) with
  |none=>some (1000+t)
  |some o=>match o.op with
   | .fieldAddr _ y _| .nilCheck y| .move y| .indexAddr _ y _=>zaQ ops f y
   |_=>none
 |_,_=>none
def zkJ(kp:Bool)(ops:List Oper)(ρ m:List Nat):List DAnn:=
 let read (x:Operand):Bool:=match x with
  | .tmp t=>match ops.find? (fun o=>o.dst==some t) with
   |some o=>(match o.op with| .load .. | .extract .. | .field .. | .slice .. =>true| .call _=>true|_=>false)
   |none=>false
  |_=>false
 let cls0:=ops.map fun o=>match o.op with| .slice _ x _ _ _=>if read x then 0 else 1|op=>zh3 op
 let slots:List Nat:=(cls0.foldl (fun (acc:List Nat×Nat) c=>if c==2 then(acc.2::acc.1,acc.2+1) else(0::acc.1,acc.2)) ([],0)).1.reverse
 let idx:=List.range ops.length
 let free (i j:Nat):Bool:=i !=j&& !(m.getD i 0).testBit j&& !(m.getD j 0).testBit i
 let als:=idx.filter fun i=>cls0.getD i 0==2
 let sts:=idx.filter fun i=>cls0.getD i 0==5&&idx.any (fun j=>cls0.getD j 0==1&&free i j)
 let name (i:Nat):Nat:=match ops[i]? with|some o=>(zc2 ops slots o.op).getD 999|none=>999
 let rname (i:Nat):Option Nat:=match ops[i]? with
  |some o=>(match o.op with| .load _ x=>zaQ ops 10 x| .slice _ x _ _ _=>zaQ ops 10 x|_=>none)
  |none=>none
 let calls:=idx.filter fun i=>cls0.getD i 0==4&&(match ops[i]? with|some o=>(match o.op with| .call _=>true|_=>false)|none=>false)&&ρ.any (fun j=>free i j&&cls0.getD j 0 !=0)
 let keeps:=if !kp then [] else calls.filter fun i=>ρ.all fun j=> !free i j||cls0.getD j 0==0||(cls0.getD j 0==1&&(rname j).isSome&&sts.all fun a=> !free j a)||cls0.getD j 0==2
 idx.map fun i=>
  let c:=cls0.getD i 0
  let c':=if keeps.contains i then 6 else if calls.contains i then 3 else if c==5&& !sts.contains i then 4 else if c==1&&keeps.any (free i ·) then 7 else c
  ⟨c',if c'==5 then name i else slots.getD i 0,
   if c'==1 then(als.filter fun a=> !(m.getD i 0).testBit a).map (slots.getD · 0)++(sts.filter fun a=> !(m.getD i 0).testBit a).map name
   else if c'==7 then(rname i).toList
   else if c'==6 then(idx.filter fun j=>free i j&&cls0.getD j 0==1).filterMap rname++(als.filter (free i ·)).map (slots.getD · 0) else []⟩
def zmT(ops:List Oper)(ρ m:List Nat):List DAnn:=zkJ true ops ρ m
structure DPlan where
 ann:List DAnn
 ord:List Nat
 places:Nat
def dE(ops:List Oper):DPlan:=
 let ρ:=zbM ops ops.length 0 []
 let m:=qB ops ρ (List.replicate ops.length 0)
 let ann:=zmT ops ρ m
 ⟨ann,ρ,(ann.filter fun d=>d.cl==2).length⟩
def DPlan.at(p:DPlan)(i:Nat):DAnn:=p.ann.getD i default
def DPlan.good(p:DPlan)(ops:List Oper):Bool:=zh1 ops p.at p.ord
end Go.AL
