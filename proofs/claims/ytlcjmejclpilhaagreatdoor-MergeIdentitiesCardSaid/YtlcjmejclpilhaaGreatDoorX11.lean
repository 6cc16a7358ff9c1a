/-
  A region whose order is drawn, of which two operations may not change places: both orders are walked.
-/
import Derived.Test.YtlcjmejclpilhaaGreatDoorX10
import Derived.IntWalk
import Derived.Maps.RangeRun
set_option linter.unusedSimpArgs false
set_option linter.unusedVariables false
set_option maxRecDepth 100000
set_option maxHeartbeats 4000000
namespace Go.AL
open Go.RowKit
inductive Mk where
 |k
 |d
 |v
def zY:List Mk->List PV->List PV->List PV
 | [],_,ts=>ts
 | .k::m,vs,ts=>match ts with
  | []=>[]
  |p::ts=>p::zY m vs ts
 | .d::m,vs,ts=>match ts with
  | []=>[]
  |_::ts=> .un::zY m vs ts
 | .v::m,vs,ts=>match ts,vs with
  | [],_=>[]
  |_::ts,[]=> .un::zY m [] ts
  |_::ts,v::vs=>v::zY m vs ts
def xJ:List Mk->List PV->List PV
 | [],_=>[]
 | .k::m,ts=>xJ m ts.tail
 | .d::m,ts=>xJ m ts.tail
 | .v::m,ts=>match ts with
  | []=>[]
  |p::ts=>p::xJ m ts
theorem TLe.refl(a:List PV):TLe a a:=⟨rfl,fun i p q h k=>by rw[h] at k;cases k;exact .inl rfl⟩
theorem TLe.cons{p q:PV}{a b:List PV}(h:TLe a b)(hq:q=p\/q= .un):TLe (p::a) (q::b):=
 ⟨by simp[h.1],fun i x y hx hy=>by
  cases i with
  |zero=>simp at hx hy;subst hx;subst hy;exact hq
  |succ i=>exact h.2 i x y Qg2 Qg5⟩
theorem TLe.mix: ∀(m:List Mk)(a b vs:List PV),xJ m a=vs->zY m [] a=zY m [] b->TLe a (zY m vs b):=by
 intro m
 induction m with
 |nil=>intro a b vs _ h;simp only[zY] at h ⊢;subst h;exact TLe.refl a
 | cons x m ih=>
  intro a b vs hp h;cases x with
  | k=>
   cases a<;>cases b<;>simp only[zY] at h ⊢
   ·exact TLe.refl _
   ·cases h
   ·cases h
   ·rename_i p a q b;simp only[List.cons.injEq] at h;exact(ih a b vs (by simpa [xJ] using hp) h.2).cons (.inl h.1.symm)
  | d=>
   cases a<;>cases b<;>simp only[zY] at h ⊢
   ·exact TLe.refl _
   ·cases h
   ·cases h
   ·rename_i p a q b;simp only[List.cons.injEq,true_and] at h;exact(ih a b vs (by simpa [xJ] using hp) h).cons (.inr rfl)
  | v=>
   cases a<;>cases b<;>simp only[zY] at h ⊢
   ·exact TLe.refl _
   ·cases h
   ·cases h
   ·rename_i p a q b;simp only[List.cons.injEq,true_and] at h;simp only[xJ] at hp;subst hp;exact(ih a b _ rfl h).cons (.inl rfl)
section
variable{P:Program}{G:Glob}{D:Option Nat->Prop}{own:Bool}
theorem zW{σ:Type}(M:List Mk)(f:σ->List PV)(g:σ->Heap)(I:σ->Prop)(m:σ->Nat){c:Code}{K:Exit->List PV->Heap->Prop}{ts:List PV}{h:Heap}(s0:σ)(h1:xJ M ts=f s0)(h2:h=g s0)(h3:I s0)
  (k: ∀s,I s-> ∀t,zY M (f s) ts=t->uJ P G D own c (AThen (fun ts' h'=> ∃s',I s'/\m s'<m s/\xJ M ts'=f s'/\zY M [] ts'=zY M [] ts/\h'=g s') K) t (g s)):EWp P G D (.loop c) K ts h:=by
 refine mS (fun n ts' h=> ∃s,I s/\m s=n/\xJ M ts'=f s/\zY M [] ts'=zY M [] ts/\h=g s) (m s0) ⟨s0,h3,rfl,h1,rfl,h2⟩ ?_;rintro n ts' h ⟨s,hI,rfl,e1,e2,rfl⟩;refine lF (TLe.mix M ts' ts _ e1 e2) ((uV _ _ _ _ (k s hI _ rfl)).mono fun e t1 h1 q=> ?_);cases e with
 |normal=>obtain⟨s',a,b,c,d,e⟩:=q;exact⟨m s',b,s',a,rfl,c,d,e⟩
 |_=>exact q
end
theorem zM(a:Nat):(a<a)=False:=Qf4
theorem zB(a:Nat):(0<=(a:Int))=True:=Qf4
end Go.AL
namespace Go.AL
section
variable{P:Program}{G:Glob}{D:Option Nat->Prop}{own:Bool}
theorem zO{σ:Type}(n:Nat)(M:List Mk)(f:Nat->σ->List PV)(g:σ->Heap)(I:Nat->σ->Prop){c:Code}{K:Exit->List PV->Heap->Prop}{ts:List PV}{h:Heap}(s0:σ)(h1:xJ M ts=f 0 s0)(h2:h=g s0)(h3:I 0 s0)(hn:n<=140737488355328)
  (k0: ∀s,I n s-> ∀t,zY M (f n s) ts=t->uJ P G D own c (AThen (fun _ _=>False) K) t (g s))
  (k1: ∀i s,i<n->IntKind.i64.wrap (↑i+1)= ↑(i+1)->I i s-> ∀t,zY M (f i s) ts=t->uJ P G D own c (AThen (fun ts' h'=> ∃s',I (i+1) s'/\xJ M ts'=f (i+1) s'/\zY M [] ts'=zY M [] ts/\h'=g s') K) t (g s)):EWp P G D (.loop c) K ts h:=by
 refine mS (fun m ts' h=> ∃i s,m=n-i/\i<=n/\I i s/\xJ M ts'=f i s/\zY M [] ts'=zY M [] ts/\h=g s) n ⟨0,s0,rfl,Yn _,h3,h1,rfl,h2⟩ ?_;rintro m ts' h ⟨i,s,rfl,hi,hI,e1,e2,rfl⟩;have hle:=TLe.mix M ts' ts _ e1 e2;rcases Xy i n with hlt|hge
 ·have hw:IntKind.i64.wrap ((i:Int)+1)= ↑(i+1):=by
   rw[IntWalk.i64_in _ ⟨Qf3,Qf3⟩];rfl
  refine lF hle ((uV _ _ _ _ (k1 i s hlt hw hI _ rfl)).mono fun e t1 h1 q=> ?_);cases e with
  |normal=>obtain⟨s',a,b,c,d⟩:=q;exact⟨n-(i+1),Qf3,i+1,s',rfl,hlt,a,b,c,d⟩
  |_=>exact q
 ·have e:i=n:=Qf3;subst e;refine lF hle ((uV _ _ _ _ (k0 s hI _ rfl)).mono fun e t1 h1 q=> ?_);cases e with
  |normal=>exact q.elim
  |_=>exact q
end
end Go.AL
namespace Go.AL
open Go.RowKit
section
variable(P:Program)(G:Glob)(D:Option Nat->Prop)(own:Bool)
def GGo(ds:List (Option Tmp))(o:Oper)(rest:List Oper)(Q:List PV->Heap->Prop)(ts:List PV)(h:Heap)(j:Nat):Option PV->Prop
 |some (.sc (.bool b))=>(b=true-> ∀t',ts.set ((ds.getD j none).getD 0) (.sc (.bool true))=t'->ER P G D own ds (o::rest) Q t' h)/\(b=false-> ∀t',ts.set ((ds.getD j none).getD 0) (.sc (.bool false))=t'->ER P G D own ds (o::rest) Q t' h)
 |_=>False
variable{P G D own}
theorem zb3{ds:List (Option Tmp)}{ts:List PV}{j:Nat}{p:PV}(h:sK ds ts j=some p):ts.getD ((ds.getD j none).getD 0) .un=p:=by
 unfold sK at h;cases hd:ds.getD j none with
 |none=>rw[hd] at h;cases h
 |some d=>rw[hd] at h;simp only[Wi,Option.some.injEq] at h;simpa using h
theorem tO{ds:List (Option Tmp)}{o:Oper}{rest:List Oper}{Q:List PV->Heap->Prop}{ts:List PV}{h:Heap}{j:Nat}{want:Bool}(_hg:o.guard=some (j,want))(k: ∀r,sK ds ts j=r->GGo P G D own ds o rest Q ts h j r):ER P G D own ds (o::rest) Q ts h:=by
 have k':=k _ rfl;unfold GGo at k';split at k'
 ·rename_i b hb;exact Qcm
 ·exact k'.elim
section
variable{ds:List (Option Tmp)}{o:Oper}{rest:List Oper}{Q:List PV->Heap->Prop}{ts:List PV}{h:Heap}{j:Nat}{n0:Nat}{t0:List PV}{ann:Nat->DAnn}{ops:List Oper}{i:Nat}{r:List Nat}
theorem tL(k:False):GGo P G D own ds o rest Q ts h j (some (.sc (.bool true))):=k.elim
theorem tN(k:False):GGo P G D own ds o rest Q ts h j (some (.sc (.bool false))):=k.elim
theorem tK{b:Bool}(k1:b=true-> ∀t',ts.set ((ds.getD j none).getD 0) (.sc (.bool true))=t'->ER P G D own ds (o::rest) Q t' h)(k2:b=false-> ∀t',ts.set ((ds.getD j none).getD 0) (.sc (.bool false))=t'->ER P G D own ds (o::rest) Q t' h):GGo P G D own ds o rest Q ts h j (some (.sc (.bool b))):=⟨k1,k2⟩
end
end
end Go.AL
namespace Go.AL
section
variable{P:Program}{G:Glob}{D:Option Nat->Prop}{own:Bool}
theorem vY{n0:Nat}{t0:List PV}{ann:Nat->DAnn}{ds:List (Option Tmp)}{ops:List Oper}{r:List Nat}{Q:List PV->Heap->Prop}{ts:List PV}{h:Heap}(k:AD P G own n0 t0 ann ds ops r Q ts h):AD P G own n0 t0 ann ds ops r Q ts h:=k
theorem zaX{id:Nat}{ops:Array Oper}{K:Exit->List PV->Heap->Prop}{ts:List PV}{h:Heap}(k:EWp P G D (.region id ops true) K ts h):EWp P G D (.region id ops true) K ts h:=k
end
end Go.AL
namespace Go.AL
section
variable{P:Program}{G:Glob}{D:Option Nat->Prop}{own:Bool}
theorem jS(hm:P.follows .mixedOrders=true)(hG:GTree G)(pl:DPlan){id:Nat}{ops:Array Oper}{K:Exit->List PV->Heap->Prop}{ts:List PV}{h:Heap}(hg:pl.good ops.toList=true)
  (k: ∀n0,h.length=n0-> ∀l,ops.toList=l-> ∀ds,l.map (·.dst)=ds-> ∀h2,rY h pl.places=h2->AD P G own n0 ts pl.at ds l pl.ord (K .normal) ts h2):EWp P G D (.region id ops true) K ts h:=
 zdZ hm hG pl hg (k _ rfl _ rfl _ rfl _ rfl)
end
end Go.AL
namespace Go.AL
theorem uR{α:Type}{g:α->α}: ∀{l:List α},(∀x∈l,g x=x)->l.map g=l
 | [],_=>rfl
 |x::l,h=>by rw[Xa,h x (Qe ..),uR fun y hy=>h y (Qf _ hy)]
theorem vE(n:Nat)(H:Heap): ∀(f:Nat)(p:PV),zU f p=true->fz n H f p=p:=by
 intro f
 induction f with
 |zero=>intro p h;cases h
 | succ f ih=>
  intro p h;have il: ∀cs:List PV,cs.all (zU f)=true->cs.map (fz n H f)=cs:=fun cs hc=>uR fun x hx=>ih x (by rw[Xg] at hc;exact hc x hx);have ill: ∀els:List (List PV),(els.all fun e=>e.all (zU f))=true->els.map (fun e=>e.map (fz n H f))=els:=fun els hc=>uR fun x hx=>by
   rw[Xg] at hc;exact il x (hc x hx)
  cases p<;>simp only[zU,Qt,reduceCtorEq] at h<;>simp only[fz]
  ·rw[il _ h]
  ·rw[il _ h]
  ·rw[ill _ h]
  ·rw[ill _ h]
  ·rw[il _ h]
  ·rw[il _ h.1,il _ h.2]
  ·rw[ih _ h]
theorem all_map{α β:Type}{f:α->β}{g:β->Bool}{l:List α}(h: ∀x,g (f x)=true):(l.map f).all g=true:=by
 rw[Jf,Xg];intro x _;exact h x
end Go.AL
namespace Go.AL
open Go.RowKit
section
variable(P:Program)(G:Glob)(own:Bool)
def DX(n0:Nat)(t0:List PV)(ann:Nat->DAnn)(ds:List (Option Tmp))(ops:List Oper)(i:Nat)(r:List Nat)(Q:List PV->Heap->Prop)(ts:List PV)(h:Heap)(o:Oper)(d:DAnn)(j:Nat)(want:Bool):Option PV->Prop
 | some (.sc (.bool b))=>(b=want/\ ∀s,vI P own n0 t0 d o.op (wV G ts) h=s->ADGo P G own n0 t0 ann ds ops r Q d o ts h s)\/(b≠want/\ ∀t',zZ ts o.dst .ud=t'->AD P G own n0 t0 ann ds ops r Q t' h)\/
   ((b=true-> ∀t',ts.set ((ds.getD j none).getD 0) (.sc (.bool true))=t'->AD P G own n0 t0 ann ds ops (i::r) Q t' h)/\(b=false-> ∀t',ts.set ((ds.getD j none).getD 0) (.sc (.bool false))=t'->AD P G own n0 t0 ann ds ops (i::r) Q t' h))
 |some .ud=> ∀t',zZ ts o.dst .ud=t'->AD P G own n0 t0 ann ds ops r Q t' h
 |_=>False
variable{P G own}
section
variable{n0:Nat}{t0:List PV}{ann:Nat->DAnn}{ds:List (Option Tmp)}{ops:List Oper}{i:Nat}{r:List Nat}{Q:List PV->Heap->Prop}{ts:List PV}{h:Heap}{o:Oper}{d:DAnn}{j:Nat}{want:Bool}
theorem zN(ho:ops[i]? =some o)(hg:o.guard=some (j,want))(hd:ann i=d)(k: ∀x,sK ds ts j=x->DX P G own n0 t0 ann ds ops i r Q ts h o d j want x):AD P G own n0 t0 ann ds ops (i::r) Q ts h:=by
 have k':=k _ rfl;unfold DX at k';split at k'
 ·rename_i b hb;rcases k' with ⟨e,k'⟩|⟨e,k'⟩|k'
  ·exact bP ho hg hb hd (by rw[Qj e];exact k')
  ·exact bP ho hg hb hd (by rw[Qi e];exact k' _ rfl)
  ·exact Qcm
 ·rename_i hb;exact zeP ho hg hb (k' _ rfl)
 ·exact k'.elim
theorem pK(k: ∀s,vI P own n0 t0 d o.op (wV G ts) h=s->ADGo P G own n0 t0 ann ds ops r Q d o ts h s):DX P G own n0 t0 ann ds ops i r Q ts h o d j true (some (.sc (.bool true))):= .inl ⟨rfl,k⟩
theorem pL(k: ∀s,vI P own n0 t0 d o.op (wV G ts) h=s->ADGo P G own n0 t0 ann ds ops r Q d o ts h s):DX P G own n0 t0 ann ds ops i r Q ts h o d j false (some (.sc (.bool false))):= .inl ⟨rfl,k⟩
theorem dx_st(k: ∀t',zZ ts o.dst .ud=t'->AD P G own n0 t0 ann ds ops r Q t' h):DX P G own n0 t0 ann ds ops i r Q ts h o d j false (some (.sc (.bool true))):= .inr (.inl ⟨Qf5,k⟩)
theorem dx_sf(k: ∀t',zZ ts o.dst .ud=t'->AD P G own n0 t0 ann ds ops r Q t' h):DX P G own n0 t0 ann ds ops i r Q ts h o d j true (some (.sc (.bool false))):= .inr (.inl ⟨Qf5,k⟩)
theorem dx_ud(k: ∀t',zZ ts o.dst .ud=t'->AD P G own n0 t0 ann ds ops r Q t' h):DX P G own n0 t0 ann ds ops i r Q ts h o d j want (some .ud):=k
theorem iT{b:Bool}(k1:b=true-> ∀t',ts.set ((ds.getD j none).getD 0) (.sc (.bool true))=t'->AD P G own n0 t0 ann ds ops (i::r) Q t' h)(k2:b=false-> ∀t',ts.set ((ds.getD j none).getD 0) (.sc (.bool false))=t'->AD P G own n0 t0 ann ds ops (i::r) Q t' h):DX P G own n0 t0 ann ds ops i r Q ts h o d j want (some (.sc (.bool b))):= .inr (.inr ⟨k1,k2⟩)
end
end
end Go.AL
namespace Go.AL
open Go.RowKit
end Go.AL
namespace Go.AL.N
open Go.RowKit
section
variable(P:Program)(G:Glob)(D:Option Nat->Prop)(own:Bool)
def EWp(c:Code)(K:Exit->List PV->Heap->Prop)(ts:List PV)(h:Heap):Prop:= ∀rd,D rd->AWp P G rd c K ts h
mutual
def ER(ds:List (Option Tmp)):List Oper->(List PV->Heap->Prop)->List PV->Heap->Prop
 | [],Q,ts,h=>Q ts h
 |o::rest,Q,ts,h=>EGo ds rest Q o ts h (vU P G own ds o ts h)\/(o.guard=none/\ ∀rd,D rd->OpOk P G rd o h (wV G ts) fun p h'=>ER ds rest Q (zZ ts o.dst p) h')
def EGo(ds:List (Option Tmp)):List Oper->(List PV->Heap->Prop)->Oper->List PV->Heap->SR->Prop
 |rest,Q,o,ts,_,.val p h' c=>c/\ER ds rest Q (zZ ts o.dst p) h'
 |rest,Q,o,ts,h,.call g args=>ACall P G g args h fun p h'=>ER ds rest Q (zZ ts o.dst p) h'
 |_,_,_,_,_,.no=>False
end
def uJ:Code->(Exit->List PV->Heap->Prop)->List PV->Heap->Prop
 | .skip,Q,ts,h=>Q .normal ts h
 | .label _,Q,ts,h=>Q .normal ts h
 | .exit id,Q,ts,h=>Q (.exit id) ts h
 | .ret,Q,ts,h=>Q .ret ts h
 | .region _ ops false,Q,ts,h=>ER P G D own (ops.toList.map (·.dst)) ops.toList (Q .normal) ts h
 | .seq a b,Q,ts,h=>uJ a (AThen (uJ b Q) Q) ts h
 | .cond x a b,Q,ts,h=>match wV G ts x with
  | .sc (.bool t)=>if t=true then uJ a Q ts h else uJ b Q ts h
  |_=>False
 | .block id c,Q,ts,h=>uJ c (ABlock id Q) ts h
 |c,Q,ts,h=>EWp P G D c Q ts h
variable{P G D own}
theorem EWp.mono{c:Code}{K K':Exit->List PV->Heap->Prop}{ts:List PV}{h:Heap}(k:EWp P G D c K ts h)(hk: ∀e t h,K e t h->K' e t h):EWp P G D c K' ts h:=fun rd hd=>(k rd hd).mono hk
theorem eU{a b:Code}{K:Exit->List PV->Heap->Prop}{ts:List PV}{h:Heap}(k:EWp P G D a (AThen (EWp P G D b K) K) ts h):EWp P G D (.seq a b) K ts h:=fun rd hd=>lH ((k rd hd).mono fun e t1 h1 q=>by
 cases e with
 |normal=>exact q rd hd
 |_=>exact q)
theorem mS{c:Code}{K:Exit->List PV->Heap->Prop}{ts:List PV}{h:Heap}(I:Nat->List PV->Heap->Prop)(n:Nat)(h0:I n ts h)
  (k: ∀n ts h,I n ts h->EWp P G D c (AThen (fun ts' h'=> ∃m,m<n/\I m ts' h') K) ts h):EWp P G D (.loop c) K ts h:=fun rd hd=>mV I n h0 fun n ts h hi=>k n ts h hi rd hd
theorem ER.sreg{ops:List Oper}{rd:Option Nat}(hd:D rd): ∀{rest:List Oper}{Q:List PV->Heap->Prop}{ts:List PV}{h:Heap},ER P G D own (ops.map (·.dst)) rest Q ts h->SReg P G rd ops rest Q ts h:=by
 intro rest
 induction rest with
 |nil=>intro Q ts h k;simp only[ER] at k;exact k
 | cons o rest ih=>
  intro Q ts h k;simp only[ER] at k;simp only[SReg];rcases k with k|⟨hg,k⟩
  ·have go: ∀{r:SR},qC P own o.op (wV G ts) h=r->EGo P G D own (ops.map (·.dst)) rest Q o ts h r->OpOk P G rd o h (wV G ts) fun p h'=>SReg P G rd ops rest Q (zZ ts o.dst p) h':=by
    intro r hr k;cases r with
    |val p h' c=>simp only[EGo] at k;exact uI (own:=own) (by rw[hr];exact⟨k.1,ih k.2⟩)
    |call g args=>simp only[EGo] at k;exact uI (own:=own) (by rw[hr];exact k.mono fun p h' q=>ih q)
    |no=>simp only[EGo] at k
   have bad: ¬EGo P G D own (ops.map (·.dst)) rest Q o ts h .no:=fun k=>by simp only[EGo] at k
   have skip: ∀{p:PV}{h':Heap}{c:Prop},EGo P G D own (ops.map (·.dst)) rest Q o ts h (.val p h' c)->c/\ER P G D own (ops.map (·.dst)) rest Q (zZ ts o.dst p) h':=fun k=>by simp only[EGo] at k;exact k
   cases hg:o.guard with
   |none=>
    have e:vU P G own (ops.map (·.dst)) o ts h=qC P own o.op (wV G ts) h:=by unfold vU;rw[hg]
    rw[e] at k;exact go rfl k
   | some jw=>
    obtain⟨j,want⟩:=jw;unfold vU at k;rw[hg] at k;simp only[oQ];simp only[] at k;split at k
    ·rename_i b hb;rw[hb];split at k
     ·rename_i e;exact⟨fun _=>go rfl k,fun ne=>absurd e ne⟩
     ·rename_i e;exact⟨fun e'=>absurd e' e,fun _=>ih (skip k).2⟩
    ·rename_i hb;rw[hb];exact ih (skip k).2
    ·exact absurd k bad
  ·rw[hg];exact(k rd hd).mono fun p h' q=>ih q
theorem uV: ∀(c:Code)(K:Exit->List PV->Heap->Prop)(ts:List PV)(h:Heap),uJ P G D own c K ts h->EWp P G D c K ts h:=by
 intro c
 induction c with
 |skip=>intro K ts h k rd _;exact mU k
 |label l=>intro K ts h k rd _;exact oI k
 |exit id=>intro K ts h k rd _;exact mW k
 |ret=>intro K ts h k rd _;exact jB k
 |region id ops d=>
  intro K ts h k;cases d with
  |false=>intro rd hd;have:=rM (id:=id) (ER.sreg (rd:=rd) hd k);simpa using this
  |true=>exact k
 |seq a b iha ihb=>
  exact Qcg
 | cond x a b iha ihb=>
  intro K ts h k rd hd;simp only[uJ] at k;split at k
  ·rename_i t hx;exact qQ hx (fun e=>iha K ts h (by rw[Qj e] at k;exact k) rd hd) fun e=>ihb K ts h (by rw[Qi (by simp[e])] at k;exact k) rd hd
  ·exact k.elim
 |block id c ih=>intro K ts h k rd hd;exact oK (ih _ ts h k rd hd)
 |_=>intro K ts h k;exact k
theorem zbX{f:FuncId}{fn:Func}{c:Code}{args ts:List PV}{h:Heap}{R:PV->Heap->Prop}(hf:P.funcs[f]? =some fn)(hb:fn.body=some c)
  (hen:uG P f=true) (ht:args++List.replicate (fn.ntmps-args.length) .ud=ts) {own:Bool} (k:uJ P G (fun rd=>rd=none) own c (AEnd P fn R) ts h):ACall P G f args h R:=
 uF hf hb hen (by rw[ht];exact uV _ _ _ _ k none rfl)
theorem lF{c:Code}{K:Exit->List PV->Heap->Prop}{ts ts':List PV}{h:Heap}(hl:TLe ts ts')(k:EWp P G D c K ts' h):EWp P G D c K ts h:=fun rd hd=>zcA hl (k rd hd)
theorem zW{σ:Type}(M:List Mk)(f:σ->List PV)(g:σ->Heap)(I:σ->Prop)(m:σ->Nat){c:Code}{K:Exit->List PV->Heap->Prop}{ts:List PV}{h:Heap}(s0:σ)(h1:xJ M ts=f s0)(h2:h=g s0)(h3:I s0)
  (k: ∀s,I s-> ∀t,zY M (f s) ts=t->uJ P G D own c (AThen (fun ts' h'=> ∃s',I s'/\m s'<m s/\xJ M ts'=f s'/\zY M [] ts'=zY M [] ts/\h'=g s') K) t (g s)):EWp P G D (.loop c) K ts h:=by
 refine mS (fun n ts' h=> ∃s,I s/\m s=n/\xJ M ts'=f s/\zY M [] ts'=zY M [] ts/\h=g s) (m s0) ⟨s0,h3,rfl,h1,rfl,h2⟩ ?_;rintro n ts' h ⟨s,hI,rfl,e1,e2,rfl⟩;refine lF (TLe.mix M ts' ts _ e1 e2) ((uV _ _ _ _ (k s hI _ rfl)).mono fun e t1 h1 q=> ?_);cases e with
 |normal=>obtain⟨s',a,b,c,d,e⟩:=q;exact⟨m s',b,s',a,rfl,c,d,e⟩
 |_=>exact q
section
variable{ds:List (Option Tmp)}{o:Oper}{rest:List Oper}{Q:List PV->Heap->Prop}{ts:List PV}{h:Heap}
theorem wU(k: ∀r,vU P G own ds o ts h=r->EGo P G D own ds rest Q o ts h r):ER P G D own ds (o::rest) Q ts h:=by
 simp only[ER];exact .inl (k _ rfl)
theorem za1(k:Q ts h):ER P G D own ds [] Q ts h:=by
 simp only[ER];exact k
theorem za0{h':Heap}{p:PV}(k: ∀ts',zZ ts o.dst p=ts'->ER P G D own ds rest Q ts' h'):EGo P G D own ds rest Q o ts h (.val p h' True):=by
 simp only[EGo];exact⟨trivial,k _ rfl⟩
theorem zH{h':Heap}{p:PV}{c:Prop}(hc:c)(k: ∀ts',zZ ts o.dst p=ts'->ER P G D own ds rest Q ts' h'):EGo P G D own ds rest Q o ts h (.val p h' c):=by
 simp only[EGo];exact⟨hc,k _ rfl⟩
theorem zC{g:FuncId}{args:List PV}{R:PV->Heap->Prop}(hc:ACall P G g args h R)(k: ∀p h',R p h'-> ∀ts',zZ ts o.dst p=ts'->ER P G D own ds rest Q ts' h'):
  EGo P G D own ds rest Q o ts h (.call g args):=by
 simp only[EGo];exact hc.mono fun p h' hr=>k p h' hr _ rfl
theorem uL{R:PV->Heap->Prop}(hg:o.guard=none)(hc: ∀rd,D rd->OpOk P G rd o h (wV G ts) R)(k: ∀p h',R p h'-> ∀ts',zZ ts o.dst p=ts'->ER P G D own ds rest Q ts' h'):ER P G D own ds (o::rest) Q ts h:=by
 simp only[ER];exact .inr ⟨hg,fun rd hd=>(hc rd hd).mono fun p h' hr=>k p h' hr _ rfl⟩
end
section
variable{K:Exit->List PV->Heap->Prop}{ts:List PV}{h:Heap}
theorem zaY{a b:Code}(k:uJ P G D own a (AThen (uJ P G D own b K) K) ts h):uJ P G D own (.seq a b) K ts h:=k
theorem eV(k:K .normal ts h):uJ P G D own .skip K ts h:=k
theorem eX{id:Nat}(k:K (.exit id) ts h):uJ P G D own (.exit id) K ts h:=k
theorem zaZ(k:K .ret ts h):uJ P G D own .ret K ts h:=k
theorem iG{l:Nat}(k:K .normal ts h):uJ P G D own (.label l) K ts h:=k
theorem iH{id:Nat}{c:Code}(k:uJ P G D own c (ABlock id K) ts h):uJ P G D own (.block id c) K ts h:=k
theorem lS{id:Nat}{ops:Array Oper}(k: ∀l,ops.toList=l-> ∀ds,l.map (·.dst)=ds->ER P G D own ds l (K .normal) ts h):uJ P G D own (.region id ops false) K ts h:=by
 simp only[uJ];exact k _ rfl _ rfl
theorem qP{id:Nat}{ops:Array Oper}(k:EWp P G D (.region id ops true) K ts h):uJ P G D own (.region id ops true) K ts h:=k
theorem eW{c:Code}(k:EWp P G D (.loop c) K ts h):uJ P G D own (.loop c) K ts h:=k
theorem mC{f:Operand}{ps:Array Tmp}{as bd:Code}(k:EWp P G D (.rangeFunc f ps as bd) K ts h):uJ P G D own (.rangeFunc f ps as bd) K ts h:=k
theorem eY{x:Operand}{a b:Code}(k: ∀r,wV G ts x=r->ACond r (uJ P G D own a K ts h) (uJ P G D own b K ts h)):uJ P G D own (.cond x a b) K ts h:=k _ rfl
end
end
end Go.AL.N
namespace Go.AL
open Go.RowKit
section
variable{P:Program}{G:Glob}{rd:Option Nat}
theorem OpOk.nilCmp{o:Oper}{h:Heap}{F:Operand->PV}{R:PV->Heap->Prop}{t yt:TypeId}{x y:Operand}{k:Nat}{els:List (List PV)}(ho:o.op= .binOp .eql t x y yt)(hx:F x= .ts k els)(hy:F y= .nil)(ht:(wX P t).isSome=true)
  (r: ∀b,R (.sc (.bool b)) h):OpOk P G rd o h F R:=by
 refine .of_run Qgt fun φ w X ρ hS hG hv=> ?_;have h1:=hv x Qh7;have h2:=hv y Qh7;rw[hx] at h1;rw[hy] at h2;obtain⟨e,he⟩:=Wa.1 ht;have hte:=tS he;have hux: ∃a n c,ρ x= .slice a n c:=by generalize ρ x=u at h1;cases h1;exact⟨_,_,_,rfl⟩
 obtain⟨a,n,c,hux⟩:=hux;have huy:ρ y= .slice none 0 0:=by generalize ρ y=u at h2;cases h2;rfl
 have e0: ∀d,(Op.equalIn (d+1) t (ρ x) (ρ y)).run P w= .ok a.isNone w:=fun d=>by
  rw[hux,huy];cases a<;>simp only[Op.equalIn,Xp,Xc hte,Xd,Yc,Option.isNone]
 have e1:(Op.equalIn 10000 t (ρ x) (ρ y)).run P w= .ok a.isNone w:=e0 9999;obtain⟨e2,_⟩:=mB (P:=P) (S:=⟨φ,h,w,X⟩) (t:=t) e1 Qfs Qfs Qfs Qfs;have e3:=mA (P:=P) (S:=⟨φ,h,w,X⟩) (op:= .eql) (t:=t) (x:=x) (y:=y) (u:=ρ x) (v:=ρ y) Qfs (.inl (by rw[huy];simp));refine⟨φ,h,w,.sc (.bool a.isNone),.bool a.isNone,?_,Ext.refl _,hS,.sc trivial,r _⟩;unfold execOp;rw[ho];simp only[Xp] at e2 e3 ⊢
 simp only[e3,e2,Xd,Xp,Yc]
theorem OpOk.appendEmpty{o:Oper}{h:Heap}{F:Operand->PV}{R:PV->Heap->Prop}{c:Call}{t e:TypeId}{k b:Nat}{s x:Operand}(ho:o.op= .call c)(hc:c.callee= .builtin .append)(ha:c.args= #[s,x])(hat:c.argTypes= #[t,t])(hs:F s= .tc k [])(hx:F x= .ts k [])(ht:wD P t=some (e,k,b))
  (r:R (.ts k []) h):OpOk P G rd o h F R:=by
 refine .of_run Qgt fun φ w X ρ hS hG hv=> ?_;have h1:=hv s Qhq;have h2:=hv x Qhq;rw[hs] at h1;rw[hx] at h2;obtain⟨htu,i,zv,hi,hz,hsz,hby,hzs,hk0⟩:=uH ht;have hus: ∃a,ρ s= .slice a 0 0:=by generalize ρ s=u at h1;cases h1 with|tc h1=>cases h1 with|ts hl=>simp at hl;subst hl;exact⟨_,rfl⟩
 have hux: ∃a c,ρ x= .slice a 0 c:=by generalize ρ x=u at h2;cases h2 with|ts hl=>simp at hl;subst hl;exact⟨_,_,rfl⟩
 obtain⟨a,hus⟩:=hus;obtain⟨a2,c2,hux⟩:=hux;refine⟨φ,h,w,.ts k [],.slice a 0 0,?_,Ext.refl _,hS,.ts rfl (Xe _) (Yn _) Qf4 ⟨0,0,none⟩ (fun h=>absurd rfl h) (fun _=>undef) Qf4 Qf4,r⟩;have hrun:(Builtin.append_ #[t,t] o.type #[ρ s,ρ x]).run P w= .ok (.slice a 0 0) w:=by
  rw[hus,hux];simp[Builtin.append_,Xc htu,sizeOf,typeInfo,hi,Builtin.lenOf,Builtin.firstCells];cases a<;>cases a2<;>simp[Builtin.firstCells,loadCells,loadCellsFrom,storeCells]
 unfold execOp;rw[ho];simp[resolve,invoke,builtin,hc,ha,hat,hrun]
theorem bE{S:St}(hS:SRel S){r b:Nat}{m:Option Nat}{n:Nat}{seen seen':List Nat}(hp:S.φ[r]? =some (.pointer (some ⟨b,0,none⟩)))(hb:S.h[r]? =some (.iter m n seen))
  {w':World} (ho:w'.os=S.w.os) (ht:TapeLe S.w w') (hu:w'.output=S.w.output) (hs:w'.heap.size=S.w.heap.size) (hw: ∀k,k≠b->w'.heap[k]? =S.w.heap[k]?) (hz: ∀b m,S.Row b m->St.Row {S with w:=w'} b m):
  Ext S {S with h:=S.h.set r (.iter m n seen'),w:=w'}:=by
 have hr:r<S.h.length:=(gsi hb).1;have hown: ∀n, ¬S.Own n->n≠b:=fun n hn e=>hn ⟨r,_,hp,by subst e;rfl⟩;refine⟨rfl,ho,ht,hu,by simp only[];omega,fun n hn hno=>⟨hno,hw n (hown n hno)⟩,fun a v hm=> ?_,fun r' c hc=> ?_,hz⟩
 ·exact Qag
 ·by_cases e:r=r'
  ·subst e;rw[hb] at hc;cases hc;exact⟨.iter m n seen',by simp[hr],by simp[Blk.le]⟩
  ·exact⟨c,by simp only[Qq,Qi e];exact hc,Blk.le_refl c rfl⟩
theorem zc5{S:St}(hS:SRel S){r b m bk n:Nat}{seen seen':List Nat}{es:List (Value×PV)}(hp:S.φ[r]? =some (.pointer (some ⟨b,0,none⟩)))(hb:S.h[r]? =some (.iter (some m) n seen))(hm:S.h[m]? =some (.map es))(hk:S.φ[m]? =some (.map (some bk)))
  {w':World} (ho:w'.os=S.w.os) (ht:TapeLe S.w w') (hu:w'.output=S.w.output) (hs:w'.heap.size=S.w.heap.size) (hw: ∀k,k≠b->w'.heap[k]? =S.w.heap[k]?) (hz: ∀b m,S.Row b m->St.Row {S with w:=w'} b m)
  (hnew:w'.heap[b]? =some (.mapIter (some bk) n seen'.toArray n)):SRel {S with h:=S.h.set r (.iter (some m) n seen'),w:=w'}:=by
 have x:=bE (seen':=seen') hS hp hb ho ht hu hs hw hz;have hr:r<S.h.length:=(gsi hb).1;have hrm:r≠m:=fun e=>by subst e;rw[hb] at hm;cases hm
 refine⟨by simp[hS.len],fun r' c v hc hvv=> ?_,hS.inj,fun a ha=>by have:=hS.xlt a ha;simp only[];omega,hS.xown⟩;by_cases e:r=r'
 ·subst e;simp only[Qq,Qj hr, ↓reduceIte] at hc;cases hc;rw[hp] at hvv;cases hvv;exact⟨b,some bk,rfl,hnew,fun r' hr'=>by cases hr';exact⟨es,bk,by simp only[Qq,Qi hrm];exact hm,hk,rfl⟩⟩
 ·exact Qc2
theorem OpOk.next{o:Oper}{h:Heap}{F:Operand->PV}{R:PV->Heap->Prop}{it:Operand}{r m:Nat}{es:List (Value×PV)}{seen:List Nat}(hks: ∀q∈es, ∀vs,q.1≠ .agg vs)(ho:o.op= .next it false)(hx:F it= .it r)(hb:h[r]? =some (.iter (some m) es.length seen))(hm:h[m]? =some (.map es))
  (k0:(∀i,i<es.length->i∈seen)->R (.tup [.sc (.bool false)]) h) (k1: ∀(i:Nat)(q:Value×PV),es[i]? =some q->i∉seen->R (.tup [.sc (.bool true),.sc q.1,q.2]) (h.set r (.iter (some m) es.length (seen++[i])))):OpOk P G rd o h F R:=by
 refine .of_run Qgt fun φ w X ρ hS hG hv=> ?_;have h1:=hv it Qh7;rw[hx] at h1;have hit: ∃b,ρ it= .pointer (some ⟨b,0,none⟩)/\φ[r]? =some (.pointer (some ⟨b,0,none⟩)):=Qi1;obtain⟨b,hit,hφ⟩:=hit;obtain⟨b',bm,he,hh,hmm⟩:=hS.blks r _ _ hb hφ;cases he;obtain⟨es',bk,g1,g2,rfl⟩:=hmm m rfl;rw[hm] at g1;cases g1;obtain⟨bk',clock,ar,he,hh2,hsz,⟨hck,hok,hborn⟩,hrel⟩:=hS.blks m _ _ hm g2;cases he;have hae: ∀(i:Nat)(e:MapEntry),ar[i]? =some e-> ∃q,es[i]? =some q/\e.born=i/\e.key=q.1/\VRel ⟨φ,h,w,X⟩ q.2 e.val:=fun i e he=>by
  have hi:i<es.length:=by rw[<-hsz];exact(Qz.1 he).1
  exact⟨es[i],Qa hi,hborn i e he,hrel i e _ he (Qa hi)⟩
 have hmem: ∀e∈ar.toList, ∃i,ar[i]? =some e:=fun e he=>by
  obtain⟨i,hi⟩:=Zq he;exact⟨i,by simpa using hi⟩
 rcases run_next_at (P:=P) w o.type b bk es.length es.length seen.toArray ar clock hh hh2 (fun e he=>by
   obtain⟨i,hi⟩:=hmem e he;obtain⟨q,q1,q2,_⟩:=hae i e hi;rw[q2];exact(gsi q1).1) (Xe _) with ⟨h0,hrun⟩|⟨e,he,w1,jY,hrun⟩
 ·refine⟨φ,h,w,.tup [.sc (.bool false)],.tuple #[.bool false],?_,Ext.refl _,hS,.tup rfl fun i p v hp hv=> ?_,k0 fun i hi=> ?_⟩
  ·unfold execOp;rw[ho];simp only[hit,hrun,Xp,Xd,Yc]
  ·match i with
   |0=>simp at hp hv;subst hp;subst hv;exact .sc trivial
   |i+1=>simp at hp
  ·have hi':i<ar.size:=by rw[hsz];exact hi
   have hne:ar[i]∉(leftOf ar seen.toArray).toList:=fun hmm=>by
    have:=List.length_pos_of_mem hmm;simp at this;omega
   unfold leftOf at hne;simp at hne;have:=hborn i _ (Qx hi');rw[this] at hne;exact hne
 ·obtain⟨hmm',hcs⟩:=mem_left he;obtain⟨i,hi⟩:=hmem e hmm';obtain⟨q,q1,q2,q3,q4⟩:=hae i e hi;have hns:i∉seen:=by
   rw[q2] at hcs;simpa using hcs
  have hd:w1.os=w.os/\TapeLe w w1/\w1.output=w.output/\w1.heap=w.heap:=by rcases jY with rfl|rfl<;>exact⟨rfl,ztC,rfl,rfl⟩
  obtain⟨d1,d2,d3,d4⟩:=hd;let w':World:=ChangeMaps.setBlock w1 b (.mapIter (some bk) es.length (seen.toArray.push e.born) clock)
  have hck':clock=es.length:=by rw[hck,hsz]
  have hblt:b<w.heap.size:=(Qz.1 hh).1;have hsz':w'.heap.size=w.heap.size:=by simp[w',ChangeMaps.setBlock,d4]
  have hw: ∀k,k≠b->w'.heap[k]? =w.heap[k]? :=fun k hk=>by simp[w',ChangeMaps.setBlock,d4,Array.getElem?_setIfInBounds,Ne.symm hk]
  have hz: ∀b1 m,St.Row ⟨φ,h,w,X⟩ b1 m->St.Row {(⟨φ,h,w,X⟩:St) with w:=w'} b1 m:=by
   rintro b1 m ⟨ar1,t1,f1,hr1,hm1⟩;exact Qcj
  have hnew:w'.heap[b]? =some (.mapIter (some bk) es.length (seen++[i]).toArray es.length):=by
   simp[w',ChangeMaps.setBlock,d4,Array.getElem?_setIfInBounds,hblt,q2,hck']
  have x:=bE (seen':=seen++[i]) hS hφ hb (w':=w') (by simp[w',ChangeMaps.setBlock,d1]) ⟨by simp[w',ChangeMaps.setBlock,d2.tape],by simp[w',ChangeMaps.setBlock,d2.drawn]⟩ (by simp[w',ChangeMaps.setBlock,d3]) hsz' hw hz;refine⟨φ,h.set r (.iter (some m) es.length (seen++[i])),w',.tup [.sc (.bool true),.sc q.1,q.2],.tuple #[.bool true,e.key,e.val],?_,x,zc5 hS hφ hb hm g2 (by simp[w',ChangeMaps.setBlock,d1]) ⟨by simp[w',ChangeMaps.setBlock,d2.tape],by simp[w',ChangeMaps.setBlock,d2.drawn]⟩ (by simp[w',ChangeMaps.setBlock,d3]) hsz' hw hz hnew,.tup rfl fun j p v hp hv=> ?_,k1 i q q1 hns⟩
  ·unfold execOp;rw[ho];simp only[hit,hrun,Xp,Xd,Yc];rfl
  ·match j with
   |0=>simp at hp hv;subst hp;subst hv;exact .sc trivial
   |1=>simp at hp hv;subst hp;subst hv;rw[q3];exact .sc ((hok q (Qk q1)).elim id fun⟨vs,e⟩=>absurd e (hks q (Qk q1) vs))
   |2=>simp at hp hv;subst hp;subst hv;exact q4.ext x
   |j+3=>simp at hp
theorem OpOk.entry{o:Oper}{h:Heap}{F:Operand->PV}{R:PV->Heap->Prop}{it:Operand}{r m i:Nat}{es:List (Value×PV)}{seen:List Nat}{q:Value×PV}(hks: ∀vs,q.1≠ .agg vs)(ho:o.op= .entry it)(hx:F it= .it r)(hb:h[r]? =some (.iter (some m) es.length (seen++[i])))(hm:h[m]? =some (.map es))(hq:es[i]? =some q)
  (k:R (.tup [.sc q.1,q.2]) h):OpOk P G rd o h F R:=by
 refine .of_run Qgt fun φ w X ρ hS hG hv=> ?_;have h1:=hv it Qh7;rw[hx] at h1;have hit: ∃b,ρ it= .pointer (some ⟨b,0,none⟩)/\φ[r]? =some (.pointer (some ⟨b,0,none⟩)):=Qi1;obtain⟨b,hit,hφ⟩:=hit;obtain⟨b',bm,he,hh,hmm⟩:=hS.blks r _ _ hb hφ;cases he;obtain⟨es',bk,g1,g2,rfl⟩:=hmm m rfl;rw[hm] at g1;cases g1;obtain⟨bk',clock,ar,he,hh2,hsz,⟨hck,hok,hborn⟩,hrel⟩:=hS.blks m _ _ hm g2;cases he;have hi:i<ar.size:=by rw[hsz];exact(gsi hq).1
 have hbi:=hborn i _ (Qx hi);have hck':clock=es.length:=by rw[hck,hsz]
 subst hck';obtain⟨k1,k2⟩:=hrel i _ q (Qx hi) hq;have hrun:=run_entry_at (P:=P) w b bk es.length seen.toArray ar es.length ar[i] (by rw[hh,hbi];simp) hh2 Qf4 (by
  have e:ar.toList.map (fun x=>x.born)=List.range ar.size:=by
   refine Zh fun j=> ?_;rw[Qu,Yi];rcases Xy j ar.size with hj|hj
   ·rw[Qx hj,Kb hj,Wi,hborn j _ (Qx hj)]
   ·rw[Array.getElem?_eq_none hj,Ye Qfy];rfl
  rw[e];exact List.nodup_range)
 refine⟨φ,h,w,.tup [.sc q.1,q.2],.tuple #[ar[i].key,ar[i].val],?_,Ext.refl _,hS,.tup rfl fun j p v hp hv=> ?_,k⟩
 ·unfold execOp;rw[ho];simp only[hit,hrun,Xp,Xd,Yc]
 ·match j with
  |0=>simp at hp hv;subst hp;subst hv;rw[k1];exact .sc ((hok q (Qk hq)).elim id fun⟨vs,e⟩=>absurd e (hks vs))
  |1=>simp at hp hv;subst hp;subst hv;exact k2
  |j+2=>simp at hp
end
end Go.AL
namespace Go.AL
open Go.RowKit
section
variable{P:Program}{G:Glob}{D:Option Nat->Prop}
theorem zj9{rd:Option Nat}{c:Code}{Q:Exit->List PV->Heap->Prop}{ts ts':List PV}{h:Heap}(hl:PLes ts ts')(k:AWp P G rd c Q ts' h):AWp P G rd c Q ts h:=by
 intro B φ w X a hA;refine k B φ w X a ⟨hA.st,hA.gl,⟨by rw[hA.tr.size,hl.len],fun i q hq=> ?_⟩,hA.mark,hA.base⟩;have hi:i<ts.length:=by rw[hl.len];exact(gsi hq).1
 exact hl.get i _ q (Qa hi) hq _ _ (hA.tr.rel i _ (Qa hi))
theorem zjQ{c:Code}{K:Exit->List PV->Heap->Prop}{ts ts':List PV}{h:Heap}(hl:PLes ts ts')(k:EWp P G D c K ts' h):EWp P G D c K ts h:=by
 obtain⟨e,t1,h1,a,b⟩:=k;exact⟨e,t1,h1,a,fun rd hd=>zj9 hl (b rd hd)⟩
theorem PLes.set{ts ts':List PV}(h:PLes ts ts')(i:Nat){p q:PV}(hp:PLe p q):PLes (ts.set i p) (ts'.set i q):=by
 induction h generalizing i with
 |nil=>exact .nil
 |cons h r ih=>
  cases i with
  |zero=>exact .cons hp r
  |succ i=>exact .cons h (ih i)
theorem PLes.rput{ps:List Tmp}: ∀{ts ts' as as':List PV},PLes ts ts'->PLes as as'->PLes (rput ts ps as) (rput ts' ps as'):=by
 induction ps with
 |nil=>intro ts ts' as as' h _;cases as<;>cases as'<;>simpa [AL.rput] using h
 |cons t ps ih=>
  intro ts ts' as as' h k;cases k with
  |nil=>simpa [AL.rput] using h
  |cons hp r=>simp only[AL.rput];exact ih (h.set t hp) r
theorem EYl.args{r:Nat}{args args':List PV}{h:Heap}{R:PV->Heap->Prop}(k:EYl P G r args h R)(hle:PLes args' args):EYl P G r args' h R:=by
 obtain⟨ts,ps,as,bd,st,pd,hb,hl,hw⟩:=k;exact⟨ts,ps,as,bd,st,pd,hb,by rw[hle.len];exact hl,zjQ (PLes.rput (PLes.refl ts) hle) hw⟩
end
end Go.AL
namespace Go.AL
open Go.RowKit
mutual
theorem dN: ∀p:PV,Av [] p
 | .un=> .un
 | .ud=> .ud
 | .sc _=> .sc
 | .nil=> .nil
 | .agg cs=> .agg (sO cs)
 | .tup cs=> .tup (sO cs)
 | .ts _ els=> .ts (mX els)
 | .tc _ els=> .tc (mX els)
 | .vec _ _ els=> .vec Qf4 (mX els)
 | .ms .. => .ms Qf4
 | .ptr .. => .ptr Qf4
 | .tp cs=> .tp (sO cs)
 | .fn _ a b=> .fn (sO a) (sO b)
 | .ifc _ p=> .ifc (dN p)
 | .mp _=> .mp Qf4
 | .yl _=> .yl Qf4
 | .it _=> .it Qf4
theorem sO: ∀(cs:List PV), ∀p∈cs,Av [] p
 | [],_,h=>by cases h
 |c::cs,p,h=>by
  rcases Qw.1 h with h0|h
  ·rw[h0];exact dN c
  ·exact sO cs p h
theorem mX: ∀(els:List (List PV)), ∀e∈els, ∀p∈e,Av [] p
 | [],_,h=>by cases h
 |c::cs,e,h=>by
  rcases Qw.1 h with h0|h
  ·rw[h0];exact sO c
  ·exact mX cs e h
end
theorem zkE(b:Blk):AvB [] b:=by
 cases b<;>simp only[AvB]
 ·exact sO _
 ·exact fun q _=>dN _
 ·exact sO _
 ·simp
theorem jJ{h h':Heap}:xV [] h h'=h':=by
 unfold xV;apply Zh;intro r;rw[Zl];cases h'[r]? <;>simp
section
variable{P:Program}{G:Glob}{D:Option Nat->Prop}{own:Bool}
variable{n0:Nat}{t0:List PV}{ann:Nat->DAnn}{ds:List (Option Tmp)}{ops:List Oper}{i:Nat}{r:List Nat}{Q:List PV->Heap->Prop}{ts:List PV}{h:Heap}{o:Oper}{d:DAnn}
theorem xR{g:FuncId}{args:List PV}{R:PV->Heap->Prop}(h6:d.cl=6)(hh:kI n0 t0 d.fb=[])(hc:ECall P G g args h R)(hk: ∀p h',R p h'-> ∀k∈d.fb,1000<=k->h'[nu n0 t0 k]? =h[nu n0 t0 k]?)
  (k: ∀p h',R p h'-> ∀ts',zZ ts o.dst p=ts'->AD P G own n0 t0 ann ds ops r Q ts' h'):ADGo P G own n0 t0 ann ds ops r Q d o ts h (.call g args):=by
 obtain⟨p,h',a,b⟩:=hc;unfold ADGo ADo;simp only[h6,Wk,hh];refine⟨p,h',by simpa only[rI,Ks] using b,Qf4,Qf4,fun x _=>dN _,fun r b _ _=>zkE b,?_,?_⟩
 ·rw[jJ];exact hk p h' a
 ·rw[jJ];exact k p h' a _ rfl
end
theorem OpOk.lenMap{P:Program}{G:Glob}{rd:Option Nat}{o:Oper}{h:Heap}{F:Operand->PV}{R:PV->Heap->Prop}{c:Call}{t k e:TypeId}{d:TypeDesc}{x:Operand}{r:Nat}{es:List (Value×PV)}(ho:o.op= .call c)(hc:c.callee= .builtin .len)(ha:c.args= #[x])(hat:c.argTypes= #[t])(hx:F x= .mp r)(hb:h[r]? =some (.map es))
  (ht:kC P t=some (k,d,e)) (hn:es.length<=140737488355328) (hr:R (.sc (.int .i64 es.length)) h):OpOk P G rd o h F R:=by
 refine .of_run Qgt fun φ w X ρ hS hG hv=> ?_;have h1:=hv x Qhq;rw[hx] at h1;obtain⟨t1,t2⟩:=ydV ht;have hu: ∃b,ρ x= .map (some b)/\φ[r]? =some (.map (some b)):=by
  generalize ρ x=u at h1;exact Qec
 obtain⟨b,hu,hp⟩:=hu;obtain⟨b',clock,entries,e1,e2,e3,_,_⟩:=hS.blks r _ _ hb hp;cases e1;refine⟨φ,h,w,.sc (.int .i64 es.length),.int .i64 es.length,?_,Ext.refl _,hS,.sc ?_,hr⟩
 ·have hrun:(Builtin.len_ #[t] o.type #[ρ x]).run P w= .ok (.int .i64 es.length) w:=by
   rw[hu];simp[Builtin.len_,Xc t1,MapKept.run_getObj_map e2,goInt,e3]
  unfold execOp;rw[ho];simp[resolve,invoke,builtin,hc,ha,hat,hrun]
 ·simp only[tJ];constructor
  ·exact Int.le_trans Qf5 (Int.natCast_nonneg _)
  ·have:(IntKind.i64.max:Int)=9223372036854775807:=Qf5;omega
section
variable{P:Program}{G:Glob}{D:Option Nat->Prop}{own:Bool}
variable{ds:List (Option Tmp)}{o:Oper}{rest:List Oper}{Q:List PV->Heap->Prop}{ts:List PV}{h:Heap}
theorem iR{p:PV}{h':Heap}(hg:o.guard=none)(hc: ∀rd,OpOk P G rd o h (wV G ts) fun q g=>q=p/\g=h')(k: ∀ts',zZ ts o.dst p=ts'->ER P G D own ds rest Q ts' h'):EGo P G D own ds rest Q o ts h .no:=by
 simp only[EGo];exact⟨hg,p,h',fun rd _=>hc rd,k _ rfl⟩
end
end Go.AL
namespace Go.AL
open Go.RowKit
section
variable{P:Program}{G:Glob}{rd:Option Nat}{n0:Nat}{t0:List PV}
theorem iI(hG:GTree G){ops:Array Oper}{ann:Nat->DAnn}{QQ:Exit->Act->World->Prop}{fuel:Nat}{listed:Array Bool}{i:Nat}{s m:List PV×Heap}(hst:DStep P G rd n0 t0 ann ops.toList i s m)
  {B:Nat} {φ:List Value} {w:World} {X:Addr->Prop} {a:Act} (hA:ARel B ⟨φ,s.2,w,X⟩ G s.1 a)
  (next: ∀(φ':List Value)(w':World)(a':Act),Ext ⟨φ,s.2,w,X⟩ ⟨φ',m.2,w',X⟩->ARel B ⟨φ',m.2,w',X⟩ G m.1 a'->wpAnyIn (FW rd) 0 P .any ops QQ fuel (listed.setIfInBounds i true) a' w'):
  wpOpIn (FW rd) 0 P ops QQ i (wpAnyIn (FW rd) 0 P .any ops QQ fuel (listed.setIfInBounds i true)) a w:=by
 obtain⟨o,p,h1,ho',wP,rfl⟩:=hst;have ho:ops[i]? =some o:=by simpa using ho'
 have put: ∀(φ':List Value)(h':Heap)(w':World)(dst:Option Tmp)(q:PV)(v:Value),Ext ⟨φ,s.2,w,X⟩ ⟨φ',h',w',X⟩->SRel ⟨φ',h',w',X⟩->VRel ⟨φ',h',w',X⟩ q v->
   ARel B ⟨φ',h',w',X⟩ G (zZ s.1 dst q) (a.put dst v):=fun φ' h' w' dst q v x hs hv=>
  ⟨hs,hA.gl.ext x,(hA.tr.ext x).put dst hv,by have:=hA.mark.ext x;cases dst<;>exact this,Ya hA.base x.size⟩
 have step: ∀(hk:DOpr P G rd n0 t0 (ann i) o s.1 s.2 p h1),o.wpIn (FW rd) 0 P a w (wpAnyIn (FW rd) 0 P .any ops QQ fuel (listed.setIfInBounds i true)) QQ:=fun hk=>
  hk.ok hG φ w X a _ _ hA.st hA.gl (fun x _=>lI hA.gl hA.tr x) fun φ' h' w' q v x hs hv ⟨e1,e2⟩=>by subst e1;subst e2;exact next φ' w' _ x (put φ' _ w' _ _ v x hs hv)
 have skip:p= .ud->h1=s.2->wpAnyIn (FW rd) 0 P .any ops QQ fuel (listed.setIfInBounds i true) (a.put o.dst undef) w:=fun e1 e2=>by
  exact Qdi
 simp only[wpOpIn,ho];unfold DGd at wP;cases hg:o.guard with
 |none=>
  rw[hg] at wP;rw[Qj (by simp[Region.wanted,hg])];exact step wP
 | some jw=>
  obtain⟨j,want⟩:=jw;rw[hg] at wP;simp only[] at wP;split at wP
  ·exact Qb2
  ·rename_i hb;exact Qco
  ·exact wP.elim
theorem tX{ann:Nat->DAnn}{ops:List Oper}: ∀{α β:List Nat}{s m s':List PV×Heap},DRun P G rd n0 t0 ann ops α s m->DRun P G rd n0 t0 ann ops β m s'->DRun P G rd n0 t0 ann ops (α++β) s s'
 | [],_,_,_,_,h,k=>by cases h;exact k
 |_::α,_,_,_,_,⟨m,h1,h2⟩,k=>⟨m,h1,tX h2 k⟩
theorem dX(hG:GTree G){ops:Array Oper}{ann:Nat->DAnn}{QQ:Exit->Act->World->Prop}{sF sM:List PV×Heap}{Q0:List PV->Heap->Prop}(hQ0:Q0 sF.1 sF.2){i j:Nat}{β:List Nat}(hβ:DRun P G rd n0 t0 ann ops.toList β sM sF)(hij:i≠j)
  (eij: ∀o,ops.toList[i]? =some o-> ∀e∈o.after,Region.binds .any e=true->e.on≠j) (hanc: ∀b∈β,Anc ops.toList i b\/Anc ops.toList j b):
  ∀(fuel:Nat)(α:List Nat)(listed:Array Bool)(s s1:List PV×Heap),DRun P G rd n0 t0 ann ops.toList α s s1->DRun P G rd n0 t0 ann ops.toList [i,j] s1 sM->DRun P G rd n0 t0 ann ops.toList [j,i] s1 sM->
  Plan ops.toList ann (α++i::β)->Plan ops.toList ann (α++j::β)->(α++i::j::β).length<=fuel->listed.size=ops.size->(∀k,k<ops.size->(k∈α++i::j::β↔listed.getD k true=false))->
  (∀(k:Nat)(o:Oper),ops[k]? =some o->listed.getD k false=true-> ∀e∈o.after,Region.binds .any e=true->listed.getD e.on false=true)->
  ∀(B:Nat)(φ:List Value)(w:World)(X:Addr->Prop)(a:Act),ARel B ⟨φ,s.2,w,X⟩ G s.1 a->
   (∀(φ':List Value)(w':World)(a':Act)(ts':List PV)(h':Heap),Ext ⟨φ,s.2,w,X⟩ ⟨φ',h',w',X⟩->ARel B ⟨φ',h',w',X⟩ G ts' a'->Q0 ts' h'->QQ .normal a' w')->
   wpAnyIn (FW rd) 0 P .any ops QQ fuel listed a w:=by
 intro fuel
 induction fuel with
 |zero=>intro α listed s s1 _ _ _ _ _ hlen;simp at hlen
 | succ fuel ih=>
  intro α listed s s1 hα r1 r2 p1 p2 hlen hsz hmem hdc B φ w X a hA hQ;have hi':i<ops.size:=by simpa using p1.lt i Qf4
  have hj':j<ops.size:=by simpa using p2.lt j Qf4
  have unl: ∀k,k<ops.size->k∈α++i::j::β->listed.getD k false=false:=fun k hk h=>by
   have:=(hmem k hk).1 h;rw[Yx] at this ⊢
   have hlt:k<listed.size:=Qf3;simp[hlt] at this ⊢
   exact this
  have lst: ∀k,k<ops.size->k∉α++i::j::β->listed.getD k false=true:=fun k hk h=>by
   have h1:listed.getD k true≠false:=fun e=>h ((hmem k hk).2 e);rw[Yx] at h1 ⊢
   have hlt:k<listed.size:=Qf3;simp[hlt] at h1 ⊢
   exact h1
  have iα:i∉α:=fun h=>by
   have:=p1.nodup;rw[Za] at this;exact this.2.2 i h i Qf4 rfl
  have iβ:i∉β:=fun h=>by
   have:=p1.nodup;rw[Za,Zs] at this;exact this.2.1.1 h
  have jα:j∉α:=fun h=>by
   have:=p2.nodup;rw[Za] at this;exact this.2.2 j h j Qf4 rfl
  have jβ:j∉β:=fun h=>by
   have:=p2.nodup;rw[Za,Zs] at this;exact this.2.1.1 h
  have rdy: ∀x,x<ops.size->x∈α++i::j::β->(∀o,ops[x]? =some o-> ∀e∈o.after,Region.binds .any e=true->e.on<ops.size/\e.on∉α++i::j::β)->x∈Region.ready .any ops listed:=fun x hx hm he=>by
   rw[mem_ready];refine⟨(hmem x hx).1 hm,ops[x],by simp[hx],fun e he' hb=> ?_⟩;obtain⟨h1,h2⟩:=he ops[x] Qfa e he' hb;exact lst _ h1 h2
  have setm: ∀(k:Nat)(ρ:List Nat),k<ops.size->(∀x,x∈ρ↔x∈α++i::j::β/\x≠k)-> ∀x,x<ops.size->(x∈ρ↔(listed.setIfInBounds k true).getD x true=false):=by
   intro k ρ hk hρ x hx;by_cases hik:k=x
   ·subst hik;have hlt':k<listed.size:=Qf3;simp[hlt',hρ]
   ·rw[getD_set_ne true hik,<-hmem x hx,hρ];simp[Ne.symm hik]
  have setd: ∀(k:Nat),k∈Region.ready .any ops listed-> ∀(x:Nat)(o':Oper),ops[x]? =some o'->(listed.setIfInBounds k true).getD x false=true-> ∀e∈o'.after,Region.binds .any e=true->(listed.setIfInBounds k true).getD e.on false=true:=by
   intro k hk x o' ho' hx e he hb;obtain⟨h0,o,ho,hedge⟩:=mem_ready.1 hk;by_cases hik:k=x
   ·exact Qe1
   ·rw[getD_set_ne false hik] at hx;exact getD_set_true (hdc x o' ho' hx e he hb)
  refine⟨fun hr=> ?_,fun b hb=> ?_⟩
  ·exfalso;cases α with
   | nil=>
    have:i∈Region.ready .any ops listed:=rdy i hi' Qf4 fun o ho e he hb=>by
     have hs:=p1.self i Qf4 o Qg3 e he hb;refine⟨by simpa using hs.1,fun hm=> ?_⟩;simp only[Yj,Qw] at hm;rcases hm with h|h|h
     ·exact hs.2 h
     ·exact eij o Qg3 e he hb h
     ·exact((Yb.1 p1.pair).1 _ h).2 o Qg3 e he hb rfl
    rw[hr] at this;cases this
   | cons x α=>
    have hx:x<ops.size:=by simpa using p1.lt x Qf4
    have:x∈Region.ready .any ops listed:=rdy x hx Qf4 fun o ho e he hb=>by
     have hs:=p1.self x Qf4 o Qg3 e he hb;refine⟨by simpa using hs.1,fun hm=> ?_⟩;simp only[Xx,Qw,Qo] at hm;have q1:=(Yb.1 p1.pair).1;have q2:=(Yb.1 p2.pair).1;rcases hm with h|h|h|h|h
     ·exact hs.2 h
     ·exact(q1 _ (by simp[h])).2 o Qg3 e he hb rfl
     ·exact(q1 i Qf4).2 o Qg3 e he hb h
     ·exact(q2 j Qf4).2 o Qg3 e he hb h
     ·exact(q1 _ (by simp[h])).2 o Qg3 e he hb rfl
    rw[hr] at this;cases this
  ·obtain⟨h0,o,ho,hedge⟩:=mem_ready.1 hb;have hlt:b<ops.size:=(Qz.1 ho).1;have hbρ:b∈α++i::j::β:=(hmem b hlt).2 h0;have noanc: ∀x,x∈α++i::j::β->x<ops.size-> ¬Anc ops.toList x b:=fun x hx hxl hanc'=>by
    have h1:=jX hdc hanc' fun o' ho' e he hb'=>by rw[ho] at ho';cases ho';exact hedge e he hb'
    rw[unl x hxl hx] at h1;cases h1
   have comm: ∀(ρ:List Nat),(∀x∈ρ,x∈α++i::j::β/\x<ops.size)->(∀x∈ρ,(Anc ops.toList x b\/ ∀a c,ops.toList[x]? =some a->ops.toList[b]? =some c->lK ops.toList (ann x) (ann b) a c=true))-> ∀x∈ρ, ∀ox,ops.toList[x]? =some ox->lK ops.toList (ann x) (ann b) ox o=true:=fun ρ h1 h2 x hx ox hox=>by
    rcases h2 x hx with h|h
    ·exact absurd h (noanc x (h1 x hx).1 (h1 x hx).2)
    ·exact h ox o hox Qg3
   have αlt: ∀x∈α,x<ops.size:=fun x hx=>by simpa using p1.lt x Qfa
   by_cases hbi:b=i
   ·subst hbi;have hc:=comm α (fun x hx=>⟨by simp[hx],αlt x hx⟩) fun x hx=>((Kq.1 p1.pair).2.2 x hx b Qf4).1;obtain⟨m,hst,hrun⟩:=qW (b:=o) Qg3 (β:=[j]) hc (tX hα r1);refine iI hG hst hA fun φ' w' a' x hA'=> ?_;have hrun2:DRun P G rd n0 t0 ann ops.toList (α++j::β) m sF:=by
     have:=tX hrun hβ;simpa using this
    refine nQ hG hQ0 fuel (α++j::β) _ m hrun2 p2 Qgs Qga (setm b _ hlt fun x=> ?_) (setd b hb) B φ' w' X a' hA' fun φ'' w'' a'' ts'' h'' x' hA'' hq=>hQ φ'' w'' a'' ts'' h'' (x.trans x') hA'' hq;simp only[Qo,Qw];constructor
    ·rintro (h|h|h)
     ·exact⟨.inl h,fun e=>iα (e▸h)⟩
     ·exact⟨.inr (.inr (.inl h)),fun e=>hij (e▸h)⟩
     ·exact⟨.inr (.inr (.inr h)),fun e=>iβ (e▸h)⟩
    ·rintro⟨h|h|h|h,hne⟩
     ·exact .inl h
     ·exact absurd h hne
     ·exact .inr (.inl h)
     ·exact .inr (.inr h)
   ·by_cases hbj:b=j
    ·subst hbj;have hc:=comm α (fun x hx=>⟨by simp[hx],αlt x hx⟩) fun x hx=>((Kq.1 p2.pair).2.2 x hx b Qf4).1;obtain⟨m,hst,hrun⟩:=qW (b:=o) Qg3 (β:=[i]) hc (tX hα r2);refine iI hG hst hA fun φ' w' a' x hA'=> ?_;have hrun2:DRun P G rd n0 t0 ann ops.toList (α++i::β) m sF:=by
      have:=tX hrun hβ;simpa using this
     refine nQ hG hQ0 fuel (α++i::β) _ m hrun2 p1 Qgs Qga (setm b _ hlt fun x=> ?_) (setd b hb) B φ' w' X a' hA' fun φ'' w'' a'' ts'' h'' x' hA'' hq=>hQ φ'' w'' a'' ts'' h'' (x.trans x') hA'' hq;simp only[Qo,Qw];constructor
     ·rintro (h|h|h)
      ·exact⟨.inl h,fun e=>jα (e▸h)⟩
      ·exact⟨.inr (.inl h),fun e=>hbi (e▸h)⟩
      ·exact⟨.inr (.inr (.inr h)),fun e=>jβ (e▸h)⟩
     ·rintro⟨h|h|h|h,hne⟩
      ·exact .inl h
      ·exact .inr (.inl h)
      ·exact absurd h hne
      ·exact .inr (.inr h)
    ·have hbα:b∈α:=by
      simp only[Qo,Qw] at hbρ;rcases hbρ with h|h|h|h
      ·exact h
      ·exact absurd h hbi
      ·exact absurd h hbj
      ·rcases hanc b h with h|h
       ·exact absurd h (noanc i Qf4 hi')
       ·exact absurd h (noanc j Qf4 hj')
     obtain⟨α1,α2,rfl⟩:=List.append_of_mem hbα;have hc:=comm α1 (fun x hx=>⟨by simp[hx],αlt x Qfa⟩) fun x hx=>by
      have:=p1.pair;rw[Qv] at this;exact((Kq.1 this).2.2 x hx b Qf4).1
     obtain⟨m,hst,hrun⟩:=qW (b:=o) Qg3 hc hα;have nd:b∉α1/\b∉α2:=by
      have:=p1.nodup;rw[Qv,Za,Xx,Zs] at this;exact⟨fun h=>this.2.2 b h b Qf4 rfl,fun h=>this.2.1.1 (by simp[h])⟩
     refine iI hG hst hA fun φ' w' a' x hA'=> ?_;refine ih (α1++α2) _ m s1 hrun r1 r2 ?_ ?_ Qgs Qga (setm b _ hlt fun x=> ?_) (setd b hb) B φ' w' X a' hA' fun φ'' w'' a'' ts'' h'' x' hA'' hq=>hQ φ'' w'' a'' ts'' h'' (x.trans x') hA'' hq
     ·have:=p1;rw[Qv,Xx] at this;simpa using this.cut
     ·have:=p2;rw[Qv,Xx] at this;simpa using this.cut
     ·simp only[Qo,Qw];constructor
      ·rintro ((h|h)|h|h|h)
       ·exact⟨.inl (.inl h),fun e=>nd.1 (e▸h)⟩
       ·exact⟨.inl (.inr (.inr h)),fun e=>nd.2 (e▸h)⟩
       ·exact⟨.inr (.inl h),fun e=>hbi (e▸h)⟩
       ·exact⟨.inr (.inr (.inl h)),fun e=>hbj (e▸h)⟩
       ·exact⟨.inr (.inr (.inr h)),fun e=>by
         subst e;rcases hanc _ h with k|k
         ·exact noanc i Qf4 hi' k
         ·exact noanc j Qf4 hj' k⟩
      ·rintro⟨(h|h|h)|h|h|h,hne⟩
       ·exact .inl (.inl h)
       ·exact absurd h hne
       ·exact .inl (.inr h)
       ·exact .inr (.inl h)
       ·exact .inr (.inr (.inl h))
       ·exact .inr (.inr (.inr h))
end
def dF(ops:List Oper)(ann:Nat->DAnn)(α:List Nat)(i j:Nat)(β:List Nat):Bool:=
 decide ((α++i::j::β).length<=ops.length)&&(List.range ops.length).all ((α++i::j::β).contains ·)&&(α++i::j::β).all (nY ops)&&pB ops ann (qB ops (α++i::j::β) (List.replicate ops.length 0)) (α++i::β)&&
  pB ops ann (qB ops (α++i::j::β) (List.replicate ops.length 0)) (α++j::β)&&(i !=j)&&(match ops[i]? with|some o=>dH o j|none=>false)&&
  β.all fun b=>((qB ops (α++i::j::β) (List.replicate ops.length 0)).getD b 0).testBit i||((qB ops (α++i::j::β) (List.replicate ops.length 0)).getD b 0).testBit j
theorem zbL{ops:List Oper}{ann:Nat->DAnn}{m ρ:List Nat}(hm: ∀i a,(m.getD i 0).testBit a=true->Anc ops a i)(h3: ∀i∈ρ,nY ops i=true)(h4:pB ops ann m ρ=true):Plan ops ann ρ:=by
 obtain⟨k1,k2⟩:=jO hm h4;refine⟨k1,fun i hi=> ?_,k2,fun i hi o ho e he hb=> ?_⟩
 ·have:=h3 i hi;unfold nY at this;rw[Qt] at this;exact Xj this.1
 ·have:=h3 i hi;unfold nY at this;rw[Qt,ho] at this;have h5:=this.2;simp only[Xg] at h5;have h6:=h5 e Qg4;rw[hb] at h6;simpa using h6
theorem zdE{ops:List Oper}{ann:Nat->DAnn}{α:List Nat}{i j:Nat}{β:List Nat}(h:dF ops ann α i j β=true):Plan ops ann (α++i::β)/\Plan ops ann (α++j::β)/\(α++i::j::β).length<=ops.length/\(∀k,k<ops.length->k∈α++i::j::β)/\i≠j/\
  (∀o,ops[i]? =some o-> ∀e∈o.after,Region.binds .any e=true->e.on≠j)/\ ∀b∈β,Anc ops i b\/Anc ops j b:=by
 unfold dF at h;simp only[Qt] at h;obtain⟨⟨⟨⟨⟨⟨⟨h1,h2⟩,h3⟩,h4⟩,h5⟩,h6⟩,h7⟩,h8⟩:=h;have hm:=fN (ops:=ops) (α++i::j::β) (List.replicate ops.length 0) (by
  intro i a ha;rw[Qb,Zf] at ha;split at ha<;>simp at ha)
 rw[Xg] at h2 h3 h8;refine⟨zbL hm (fun k hk=>h3 k ?_) h4,zbL hm (fun k hk=>h3 k ?_) h5,Xj h1,fun k hk=> ?_,by simpa using h6,fun o ho=> ?_,fun b hb=> ?_⟩
 ·simp only[Qo,Qw] at hk ⊢
  rcases hk with h|h|h
  ·exact .inl h
  ·exact .inr (.inl h)
  ·exact .inr (.inr (.inr h))
 ·simp only[Qo,Qw] at hk ⊢
  rcases hk with h|h|h
  ·exact .inl h
  ·exact .inr (.inr (.inl h))
  ·exact .inr (.inr (.inr h))
 ·have:=h2 k Qfw;simpa using this
 ·rw[ho] at h7;exact gU h7
 ·have:=h8 b hb;rw[Jz] at this;rcases this with h|h
  ·exact .inl (hm b i h)
  ·exact .inr (hm b j h)
section
variable{P:Program}{G:Glob}{rd:Option Nat}{D:Option Nat->Prop}{own:Bool}
theorem zeE(hm:P.follows .mixedOrders=true)(hG:GTree G){id:Nat}{l:List Oper}{ann:Nat->DAnn}{α:List Nat}{i j:Nat}{β:List Nat}(hpl:dF l ann α i j β=true)(m:Nat){Q:Exit->List PV->Heap->Prop}{ts:List PV}{h:Heap}
  (k: ∃s1 sM sF,DRun P G rd h.length ts ann l α (ts,rY h m) s1/\DRun P G rd h.length ts ann l [i,j] s1 sM/\DRun P G rd h.length ts ann l [j,i] s1 sM/\DRun P G rd h.length ts ann l β sM sF/\Q .normal sF.1 sF.2):AWp P G rd (.region id l.toArray true) Q ts h:=by
 intro B φ w X a hA;obtain⟨s1,sM,sF,r1,r2,r3,r4,hq⟩:=k;obtain⟨q1,q2,q3,q4,q5,q6,q7⟩:=zdE hpl;refine wpIn_region_any hm ?_;obtain⟨x1,hS1⟩:=zu2 (w.drawn+1) (Nat.le_succ _) hA.st;obtain⟨x2,hS2⟩:=zbG hS1 m;have x:=x1.trans x2;refine dX hG (Q0:=Q .normal) hq (ann:=ann) (i:=i) (j:=j) (β:=β) (by simpa using r4) q5 (by simpa using q6) (by simpa using q7) _ α _ (ts,rY h m) s1 (by simpa using r1) (by simpa using r2) (by simpa using r3) (by simpa using q1) (by simpa using q2) (by simpa using q3) Qf4 (fun k hk=> ?_) (fun k o ho hl=> ?_) B _ _ X a
  ⟨hS2,hA.gl.ext x,hA.tr.ext x,hA.mark.ext x,Ya hA.base x.size⟩ fun φ' w' a' ts' h' x' hA' hq'=>⟨φ',ts',h',x.trans x',hA',hq'⟩
 ·simp at hk;have:=q4 k hk;simp only[Qo,Qw] at this;simp[hk,this]
 ·exact Qej
theorem nP(hm:P.follows .mixedOrders=true)(hG:GTree G)(pl:DPlan)(α:List Nat)(i j:Nat)(β:List Nat){id:Nat}{ops:Array Oper}{K:Exit->List PV->Heap->Prop}{ts:List PV}{h:Heap}(hg:dF ops.toList pl.at α i j β=true)
  (k: ∀n0,h.length=n0-> ∀l,ops.toList=l-> ∀ds,l.map (·.dst)=ds-> ∀h2,rY h pl.places=h2->AD P G own n0 ts pl.at ds l α (fun t1 g1=> ∃tM gM,AD P G own n0 ts pl.at ds l [i,j] (fun t g=>t=tM/\g=gM) t1 g1/\AD P G own n0 ts pl.at ds l [j,i] (fun t g=>t=tM/\g=gM) t1 g1/\AD P G own n0 ts pl.at ds l β (K .normal) tM gM) ts h2):EWp P G D (.region id ops true) K ts h:=by
 obtain⟨t1,h1,⟨tM,gM,a1,a2,a3⟩,a4⟩:=AD.det _ _ _ _ (k _ rfl _ rfl _ rfl _ rfl);obtain⟨tF,hF,b1,b2⟩:=AD.det _ _ _ _ a3;refine⟨.normal,tF,hF,b1,fun rd _=> ?_⟩;obtain⟨⟨_,_⟩,d1,rfl,rfl⟩:=AD.ok (rd:=rd) _ _ _ _ (a4 (fun t h=>t=t1/\h=h1) ⟨rfl,rfl⟩);obtain⟨⟨_,_⟩,d2,rfl,rfl⟩:=AD.ok (rd:=rd) _ _ _ _ a1;obtain⟨⟨_,_⟩,d3,e1,e2⟩:=AD.ok (rd:=rd) _ _ _ _ a2;cases e1;cases e2;obtain⟨⟨t5,h5⟩,d4,e1,e2⟩:=AD.ok (rd:=rd) _ _ _ _ (b2 (fun t h=>t=tF/\h=hF) ⟨rfl,rfl⟩);simp only[] at e1 e2;rw[e1,e2] at d4;have:=zeE (P:=P) (rd:=rd) hm hG (id:=id) hg pl.places (Q:=fun e t h=>e= .normal/\t=tF/\h=hF) (ts:=ts) (h:=h) ⟨_,_,_,d1,d2,d3,d4,rfl,rfl,rfl⟩;simpa using this
end
end Go.AL
