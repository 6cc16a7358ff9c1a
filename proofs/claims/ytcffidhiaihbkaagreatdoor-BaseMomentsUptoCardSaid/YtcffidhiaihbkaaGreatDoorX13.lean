/-
  A call in a drawn region that leaves certain blocks as they are, and hides none.
-/
import Derived.Test.YtcffidhiaihbkaaGreatDoorX12
import Derived.IntWalk
import Derived.Maps.RangeRun
set_option linter.unusedSimpArgs false
set_option linter.unusedVariables false
set_option maxRecDepth 100000
set_option maxHeartbeats 4000000
namespace Go.AL
open Go.RowKit
def znK:List Nat→List PV→List PV→List PV
 |k::ks,v::vs,ts=>znK ks vs (ts.set k v)
 |_,_,ts=>ts
def TLe (a b:List PV):Prop:=a.length=b.length∧ ∀ (i:Nat) (p q:PV),a[i]? =some p→b[i]? =some q→q=p∨q= .un
section
variable {P:Program} {G:Glob} {D:Option Nat→Prop} {own:Bool}
theorem zcA {rd:Option Nat} {c:Code} {Q:Exit→List PV→Heap→Prop} {ts ts':List PV} {h:Heap} (hl:TLe ts ts') (k:AWp P G rd c Q ts' h):AWp P G rd c Q ts h:=by
 intro B φ w X a hA
 refine k B φ w X a ⟨hA.st,hA.gl,⟨by rw [hA.tr.size,hl.1],fun i q hq=> ?_⟩,hA.mark,hA.base⟩
 have hi:i<ts.length:=by rw [hl.1];exact (gsi hq).1
 rcases hl.2 i _ q (List.getElem?_eq_getElem hi) hq with e|e
 ·subst e;exact hA.tr.rel i _ (List.getElem?_eq_getElem hi)
 ·subst e;exact .un
theorem lF {c:Code} {K:Exit→List PV→Heap→Prop} {ts ts':List PV} {h:Heap} (hl:TLe ts ts') (k:EWp P G D c K ts' h):EWp P G D c K ts h:=by
 obtain ⟨e,t1,h1,a,b⟩:=k
 exact ⟨e,t1,h1,a,fun rd hd=>zcA hl (b rd hd)⟩
theorem PLe.ts {k:Nat} {els els':List (List PV)} (hl:els.length=els'.length) (h: ∀ (i:Nat) (e e':List PV),els[i]? =some e→els'[i]? =some e'→e.length=e'.length∧ ∀ (j:Nat) (p q:PV),e[j]? =some p→e'[j]? =some q→PLe p q):
  PLe (.ts k els) (.ts k els'):=fun S v hv=>by
 cases hv with
 | ts hl' hc hm hk ad ha val hval hr=>
  refine .ts (hl▸hl') hc hm (fun i e' he'=> ?_) ad ha val hval fun i e' j q he' hq=> ?_
  ·have hi:i<els.length:=by rw [hl];exact (gsi he').1
   rw [←(h i _ e' (List.getElem?_eq_getElem hi) he').1]
   exact hk i _ (List.getElem?_eq_getElem hi)
  ·have hi:i<els.length:=by rw [hl];exact (gsi he').1
   obtain ⟨h1,h2⟩:=h i _ e' (List.getElem?_eq_getElem hi) he'
   have hj:j<els[i].length:=by rw [h1];exact (gsi hq).1
   exact h2 j _ q (List.getElem?_eq_getElem hj) hq S _ (hr i _ j _ (List.getElem?_eq_getElem hi) (List.getElem?_eq_getElem hj))
theorem PLe.tup {cs ds:List PV} (hl:cs.length=ds.length) (h: ∀ (i:Nat) (p q:PV),cs[i]? =some p→ds[i]? =some q→PLe p q):PLe (.tup cs) (.tup ds):=fun S v hv=>by
 cases hv with
 |tup hl' hr=>
  refine .tup (hl'.trans hl) fun i q u hq hu=> ?_
  have hi:i<cs.length:=by rw [hl];exact (gsi hq).1
  exact h i _ q (List.getElem?_eq_getElem hi) hq S u (hr i _ u (List.getElem?_eq_getElem hi) hu)
inductive PLes:List PV→List PV→Prop
 |nil:PLes [] []
 |cons {p q:PV} {ps qs:List PV} (h:PLe p q) (r:PLes ps qs):PLes (p::ps) (q::qs)
theorem PLes.len {ps qs:List PV} (h:PLes ps qs):ps.length=qs.length:=by
 induction h with
 |nil=>rfl
 |cons _ _ ih=>simp [ih]
theorem PLes.get {ps qs:List PV} (h:PLes ps qs): ∀ (i:Nat) (p q:PV),ps[i]? =some p→qs[i]? =some q→PLe p q:=by
 induction h with
 |nil=>intro i p q hp;simp at hp
 |cons h _ ih=>
  intro i p q hp hq
  cases i with
  |zero=>simp at hp hq;subst hp;subst hq;exact h
  |succ i=>exact ih i p q (by simpa using hp) (by simpa using hq)
theorem PLes.refl: ∀ ps:List PV,PLes ps ps
 | []=> .nil
 |p::ps=> .cons (PLe.refl p) (PLes.refl ps)
theorem PLes.agg {ps qs:List PV} (h:PLes ps qs):PLe (.agg ps) (.agg qs):=PLe.agg h.len h.get
theorem PLes.tup {ps qs:List PV} (h:PLes ps qs):PLe (.tup ps) (.tup qs):=PLe.tup h.len h.get
theorem PLes.ts_map {α:Type} {k:Nat} {l:List α} {f g:α→List PV} (h: ∀ x∈l,PLes (f x) (g x)):PLe (.ts k (l.map f)) (.ts k (l.map g)):=by
 refine PLe.ts (by simp) fun i e e' he he'=> ?_
 rw [List.getElem?_map] at he he'
 cases hx:l[i]? with
 |none=>rw [hx] at he;cases he
 |some x=>
  rw [hx] at he he'
  cases he;cases he'
  exact ⟨(h x (List.mem_of_getElem? hx)).len,(h x (List.mem_of_getElem? hx)).get⟩
theorem ECall.args {f:FuncId} {args args':List PV} {h:Heap} {R:PV→Heap→Prop} (k:ECall P G f args h R) (hle:PLes args' args):ECall P G f args' h R:=by
 obtain ⟨p,h',a,b⟩:=k
 exact ⟨p,h',a,b.args hle.len hle.get⟩
theorem EPure.args {f:FuncId} {args args':List PV} {K:PV→Prop} (k:EPure P G f args K) (hle:PLes args' args):EPure P G f args' K:=by
 obtain ⟨p,a,t,b⟩:=k
 exact ⟨p,a,t,ACall.args b hle.len hle.get⟩
theorem EPure.weaken {f:FuncId} {args:List PV} {K K':PV→Prop} (k:EPure P G f args K) (hk: ∀ p,K p→ ∃ q,PLe p q∧K' q∧Tree q):EPure P G f args K':=by
 obtain ⟨p,a,t,b⟩:=k
 obtain ⟨q,hq,r,tq⟩:=hk _ a
 refine ⟨q,r,tq,ACall.weaken (b.mono ?_)⟩
 rintro _ _ ⟨rfl,rfl⟩
 exact ⟨q,hq,rfl,rfl⟩
end
theorem oN {v:Value}:Tree (.sc v)↔True:=⟨fun _=>trivial,fun _=> .sc⟩
theorem cJ:Tree .nil↔True:=⟨fun _=>trivial,fun _=> .nil⟩
theorem zJ {cs:List PV}:Tree (.agg cs)↔ ∀ p∈cs,Tree p:=⟨fun h=>by cases h with|agg h=>exact h,.agg⟩
theorem cI {cs:List PV}:Tree (.tup cs)↔ ∀ p∈cs,Tree p:=⟨fun h=>by cases h with|tup h=>exact h,.tup⟩
theorem xX {k:Nat} {els:List (List PV)}:Tree (.ts k els)↔ ∀ e∈els, ∀ p∈e,Tree p:=⟨fun h=>by cases h with|ts h=>exact h,.ts⟩
theorem yO {f:Fn} {a b:List PV}:Tree (.fn f a b)↔(∀ p∈a,Tree p)∧ ∀ p∈b,Tree p:=⟨fun h=>by cases h with|fn h k=>exact ⟨h,k⟩,fun h=> .fn h.1 h.2⟩
end Go.AL
namespace Go.AL
open Go.RowKit
section
variable {P:Program} {G:Glob} {D:Option Nat→Prop} {own:Bool}
theorem mO {ts:List PV} {d:Nat} {p:PV} (h:ts.getD d .un=p) (hd:d<ts.length):ts.set d p=ts:=by
 subst h
 rw [List.getD_eq_getElem?_getD,List.getElem?_eq_getElem hd]
 exact List.set_getElem_self hd
theorem kW {ts:List PV} {d:Nat} {v:Value} (h:ts.getD d .un= .sc v):d<ts.length:=by
 by_cases hd:d<ts.length
 ·exact hd
 ·rw [List.getD_eq_getElem?_getD,List.getElem?_eq_none (by omega)] at h;cases h
end
end Go.AL
namespace Go.AL
open Go.RowKit
inductive Mk where
 |k
 |d
 |v
def zY:List Mk→List PV→List PV→List PV
 | [],_,ts=>ts
 | .k::m,vs,ts=>match ts with
  | []=>[]
  |p::ts=>p::zY m vs ts
 | .d::m,vs,ts=>match ts with
  | []=>[]
  |_::ts=> .un::zY m vs ts
 | .v::m,vs,ts=>match ts,vs with
  | [],_=>[]
  |_::ts,[]=> .un::zY m [] ts
  |_::ts,v::vs=>v::zY m vs ts
def xJ:List Mk→List PV→List PV
 | [],_=>[]
 | .k::m,ts=>xJ m ts.tail
 | .d::m,ts=>xJ m ts.tail
 | .v::m,ts=>match ts with
  | []=>[]
  |p::ts=>p::xJ m ts
theorem TLe.refl (a:List PV):TLe a a:=⟨rfl,fun i p q h k=>by rw [h] at k;cases k;exact .inl rfl⟩
theorem TLe.cons {p q:PV} {a b:List PV} (h:TLe a b) (hq:q=p∨q= .un):TLe (p::a) (q::b):=
 ⟨by simp [h.1],fun i x y hx hy=>by
  cases i with
  |zero=>simp at hx hy;subst hx;subst hy;exact hq
  |succ i=>exact h.2 i x y (by simpa using hx) (by simpa using hy)⟩
theorem TLe.mix: ∀ (m:List Mk) (a b vs:List PV),xJ m a=vs→zY m [] a=zY m [] b→TLe a (zY m vs b):=by
 intro m
 induction m with
 |nil=>intro a b vs _ h;simp only [zY] at h ⊢;subst h;exact TLe.refl a
 | cons x m ih=>
  intro a b vs hp h
  cases x with
  | k=>
   cases a<;>cases b<;>simp only [zY] at h ⊢
   ·exact TLe.refl _
   ·cases h
   ·cases h
   ·rename_i p a q b
    simp only [List.cons.injEq] at h
    exact (ih a b vs (by simpa [xJ] using hp) h.2).cons (.inl h.1.symm)
  | d=>
   cases a<;>cases b<;>simp only [zY] at h ⊢
   ·exact TLe.refl _
   ·cases h
   ·cases h
   ·rename_i p a q b
    simp only [List.cons.injEq,true_and] at h
    exact (ih a b vs (by simpa [xJ] using hp) h).cons (.inr rfl)
  | v=>
   cases a<;>cases b<;>simp only [zY] at h ⊢
   ·exact TLe.refl _
   ·cases h
   ·cases h
   ·rename_i p a q b
    simp only [List.cons.injEq,true_and] at h
    simp only [xJ] at hp
    subst hp
    exact (ih a b _ rfl h).cons (.inl rfl)
section
variable {P:Program} {G:Glob} {D:Option Nat→Prop} {own:Bool}
theorem zW {σ:Type} (M:List Mk) (f:σ→List PV) (g:σ→Heap) (I:σ→Prop) (m:σ→Nat) {c:Code} {K:Exit→List PV→Heap→Prop} {ts:List PV} {h:Heap} (s0:σ) (h1:xJ M ts=f s0) (h2:h=g s0) (h3:I s0)
  (k: ∀ s,I s→ ∀ t,zY M (f s) ts=t→uJ P G D own c (AThen (fun ts' h'=> ∃ s',I s'∧m s'<m s∧xJ M ts'=f s'∧zY M [] ts'=zY M [] ts∧h'=g s') K) t (g s)):EWp P G D (.loop c) K ts h:=by
 refine mS (fun n ts' h=> ∃ s,I s∧m s=n∧xJ M ts'=f s∧zY M [] ts'=zY M [] ts∧h=g s) (m s0) ⟨s0,h3,rfl,h1,rfl,h2⟩ ?_
 rintro n ts' h ⟨s,hI,rfl,e1,e2,rfl⟩
 refine lF (TLe.mix M ts' ts _ e1 e2) ((uV _ _ _ _ (k s hI _ rfl)).mono fun e t1 h1 q=> ?_)
 cases e with
 |normal=>obtain ⟨s',a,b,c,d,e⟩:=q;exact ⟨m s',b,s',a,rfl,c,d,e⟩
 |_=>exact q
end
theorem zM (a:Nat):(a<a)=False:=by simp
theorem zB (a:Nat):(0≤(a:Int))=True:=by simp
end Go.AL
namespace Go.AL
section
variable {P:Program} {G:Glob} {D:Option Nat→Prop} {own:Bool}
theorem zO {σ:Type} (n:Nat) (M:List Mk) (f:Nat→σ→List PV) (g:σ→Heap) (I:Nat→σ→Prop) {c:Code} {K:Exit→List PV→Heap→Prop} {ts:List PV} {h:Heap} (s0:σ) (h1:xJ M ts=f 0 s0) (h2:h=g s0) (h3:I 0 s0) (hn:n≤140737488355328)
  (k0: ∀ s,I n s→ ∀ t,zY M (f n s) ts=t→uJ P G D own c (AThen (fun _ _=>False) K) t (g s))
  (k1: ∀ i s,i<n→IntKind.i64.wrap (↑i+1)= ↑(i+1)→I i s→ ∀ t,zY M (f i s) ts=t→uJ P G D own c (AThen (fun ts' h'=> ∃ s',I (i+1) s'∧xJ M ts'=f (i+1) s'∧zY M [] ts'=zY M [] ts∧h'=g s') K) t (g s)):EWp P G D (.loop c) K ts h:=by
 refine mS (fun m ts' h=> ∃ i s,m=n-i∧i≤n∧I i s∧xJ M ts'=f i s∧zY M [] ts'=zY M [] ts∧h=g s) n ⟨0,s0,rfl,Nat.zero_le _,h3,h1,rfl,h2⟩ ?_
 rintro m ts' h ⟨i,s,rfl,hi,hI,e1,e2,rfl⟩
 have hle:=TLe.mix M ts' ts _ e1 e2
 rcases Nat.lt_or_ge i n with hlt|hge
 ·have hw:IntKind.i64.wrap ((i:Int)+1)= ↑(i+1):=by
   rw [IntWalk.i64_in _ ⟨by omega,by omega⟩];rfl
  refine lF hle ((uV _ _ _ _ (k1 i s hlt hw hI _ rfl)).mono fun e t1 h1 q=> ?_)
  cases e with
  |normal=>obtain ⟨s',a,b,c,d⟩:=q;exact ⟨n-(i+1),by omega,i+1,s',rfl,hlt,a,b,c,d⟩
  |_=>exact q
 ·have e:i=n:=by omega
  subst e
  refine lF hle ((uV _ _ _ _ (k0 s hI _ rfl)).mono fun e t1 h1 q=> ?_)
  cases e with
  |normal=>exact q.elim
  |_=>exact q
end
end Go.AL
namespace Go.AL
open Go.RowKit
section
variable (P:Program) (G:Glob) (D:Option Nat→Prop) (own:Bool)
def GGo (ds:List (Option Tmp)) (o:Oper) (rest:List Oper) (Q:List PV→Heap→Prop) (ts:List PV) (h:Heap) (j:Nat):Option PV→Prop
 |some (.sc (.bool b))=>(b=true→ ∀ t',ts.set ((ds.getD j none).getD 0) (.sc (.bool true))=t'→ER P G D own ds (o::rest) Q t' h)∧(b=false→ ∀ t',ts.set ((ds.getD j none).getD 0) (.sc (.bool false))=t'→ER P G D own ds (o::rest) Q t' h)
 |_=>False
variable {P G D own}
theorem zb3 {ds:List (Option Tmp)} {ts:List PV} {j:Nat} {p:PV} (h:sK ds ts j=some p):ts.getD ((ds.getD j none).getD 0) .un=p:=by
 unfold sK at h
 cases hd:ds.getD j none with
 |none=>rw [hd] at h;cases h
 |some d=>rw [hd] at h;simp only [Option.map_some,Option.some.injEq] at h;simpa using h
theorem tO {ds:List (Option Tmp)} {o:Oper} {rest:List Oper} {Q:List PV→Heap→Prop} {ts:List PV} {h:Heap} {j:Nat} {want:Bool} (_hg:o.guard=some (j,want)) (k: ∀ r,sK ds ts j=r→GGo P G D own ds o rest Q ts h j r):ER P G D own ds (o::rest) Q ts h:=by
 have k':=k _ rfl
 unfold GGo at k'
 split at k'
 ·rename_i b hb
  have hg:=zb3 hb
  cases b with
  |true=>exact k'.1 rfl _ (mO hg (kW hg))
  |false=>exact k'.2 rfl _ (mO hg (kW hg))
 ·exact k'.elim
section
variable {ds:List (Option Tmp)} {o:Oper} {rest:List Oper} {Q:List PV→Heap→Prop} {ts:List PV} {h:Heap} {j:Nat} {n0:Nat} {t0:List PV} {ann:Nat→DAnn} {ops:List Oper} {i:Nat} {r:List Nat}
theorem tL (k:False):GGo P G D own ds o rest Q ts h j (some (.sc (.bool true))):=k.elim
theorem tN (k:False):GGo P G D own ds o rest Q ts h j (some (.sc (.bool false))):=k.elim
theorem tK {b:Bool} (k1:b=true→ ∀ t',ts.set ((ds.getD j none).getD 0) (.sc (.bool true))=t'→ER P G D own ds (o::rest) Q t' h) (k2:b=false→ ∀ t',ts.set ((ds.getD j none).getD 0) (.sc (.bool false))=t'→ER P G D own ds (o::rest) Q t' h):GGo P G D own ds o rest Q ts h j (some (.sc (.bool b))):=⟨k1,k2⟩
end
end
end Go.AL
namespace Go.AL
section
variable {P:Program} {G:Glob} {D:Option Nat→Prop} {own:Bool}
theorem vY {n0:Nat} {t0:List PV} {ann:Nat→DAnn} {ds:List (Option Tmp)} {ops:List Oper} {r:List Nat} {Q:List PV→Heap→Prop} {ts:List PV} {h:Heap} (k:AD P G own n0 t0 ann ds ops r Q ts h):AD P G own n0 t0 ann ds ops r Q ts h:=k
theorem zaX {id:Nat} {ops:Array Oper} {K:Exit→List PV→Heap→Prop} {ts:List PV} {h:Heap} (k:EWp P G D (.region id ops true) K ts h):EWp P G D (.region id ops true) K ts h:=k
end
end Go.AL
namespace Go.AL
section
variable {P:Program} {G:Glob} {D:Option Nat→Prop} {own:Bool}
theorem jS (hm:P.follows .mixedOrders=true) (hG:GTree G) (pl:DPlan) {id:Nat} {ops:Array Oper} {K:Exit→List PV→Heap→Prop} {ts:List PV} {h:Heap} (hg:pl.good ops.toList=true)
  (k: ∀ n0,h.length=n0→ ∀ l,ops.toList=l→ ∀ ds,l.map (·.dst)=ds→ ∀ h2,rY h pl.places=h2→AD P G own n0 ts pl.at ds l pl.ord (K .normal) ts h2):EWp P G D (.region id ops true) K ts h:=
 zdZ hm hG pl hg (k _ rfl _ rfl _ rfl _ rfl)
end
end Go.AL
namespace Go.AL
theorem uR {α:Type} {g:α→α}: ∀ {l:List α},(∀ x∈l,g x=x)→l.map g=l
 | [],_=>rfl
 |x::l,h=>by rw [List.map_cons,h x (List.mem_cons_self ..),uR fun y hy=>h y (List.mem_cons_of_mem _ hy)]
theorem vE (n:Nat) (H:Heap): ∀ (f:Nat) (p:PV),zU f p=true→fz n H f p=p:=by
 intro f
 induction f with
 |zero=>intro p h;cases h
 | succ f ih=>
  intro p h
  have il: ∀ cs:List PV,cs.all (zU f)=true→cs.map (fz n H f)=cs:=fun cs hc=>uR fun x hx=>ih x (by rw [List.all_eq_true] at hc;exact hc x hx)
  have ill: ∀ els:List (List PV),(els.all fun e=>e.all (zU f))=true→els.map (fun e=>e.map (fz n H f))=els:=fun els hc=>uR fun x hx=>by
   rw [List.all_eq_true] at hc;exact il x (hc x hx)
  cases p<;>simp only [zU,Bool.and_eq_true,reduceCtorEq] at h<;>simp only [fz]
  ·rw [il _ h]
  ·rw [il _ h]
  ·rw [ill _ h]
  ·rw [ill _ h]
  ·rw [il _ h]
  ·rw [il _ h.1,il _ h.2]
  ·rw [ih _ h]
theorem all_map {α β:Type} {f:α→β} {g:β→Bool} {l:List α} (h: ∀ x,g (f x)=true):(l.map f).all g=true:=by
 rw [List.all_map,List.all_eq_true];intro x _;exact h x
end Go.AL
namespace Go.AL
open Go.RowKit
section
variable (P:Program) (G:Glob) (own:Bool)
def DX (n0:Nat) (t0:List PV) (ann:Nat→DAnn) (ds:List (Option Tmp)) (ops:List Oper) (i:Nat) (r:List Nat) (Q:List PV→Heap→Prop) (ts:List PV) (h:Heap) (o:Oper) (d:DAnn) (j:Nat) (want:Bool):Option PV→Prop
 | some (.sc (.bool b))=>(b=want∧ ∀ s,vI P own n0 t0 d o.op (wV G ts) h=s→ADGo P G own n0 t0 ann ds ops r Q d o ts h s)∨(b≠want∧ ∀ t',zZ ts o.dst .ud=t'→AD P G own n0 t0 ann ds ops r Q t' h)∨
   ((b=true→ ∀ t',ts.set ((ds.getD j none).getD 0) (.sc (.bool true))=t'→AD P G own n0 t0 ann ds ops (i::r) Q t' h)∧(b=false→ ∀ t',ts.set ((ds.getD j none).getD 0) (.sc (.bool false))=t'→AD P G own n0 t0 ann ds ops (i::r) Q t' h))
 |some .ud=> ∀ t',zZ ts o.dst .ud=t'→AD P G own n0 t0 ann ds ops r Q t' h
 |_=>False
variable {P G own}
section
variable {n0:Nat} {t0:List PV} {ann:Nat→DAnn} {ds:List (Option Tmp)} {ops:List Oper} {i:Nat} {r:List Nat} {Q:List PV→Heap→Prop} {ts:List PV} {h:Heap} {o:Oper} {d:DAnn} {j:Nat} {want:Bool}
theorem zN (ho:ops[i]? =some o) (hg:o.guard=some (j,want)) (hd:ann i=d) (k: ∀ x,sK ds ts j=x→DX P G own n0 t0 ann ds ops i r Q ts h o d j want x):AD P G own n0 t0 ann ds ops (i::r) Q ts h:=by
 have k':=k _ rfl
 unfold DX at k'
 split at k'
 ·rename_i b hb
  rcases k' with ⟨e,k'⟩|⟨e,k'⟩|k'
  ·exact bP ho hg hb hd (by rw [if_pos e];exact k')
  ·exact bP ho hg hb hd (by rw [if_neg e];exact k' _ rfl)
  ·have hg:=zb3 hb
   cases b with
   |true=>exact k'.1 rfl _ (mO hg (kW hg))
   |false=>exact k'.2 rfl _ (mO hg (kW hg))
 ·rename_i hb;exact zeP ho hg hb (k' _ rfl)
 ·exact k'.elim
theorem pK (k: ∀ s,vI P own n0 t0 d o.op (wV G ts) h=s→ADGo P G own n0 t0 ann ds ops r Q d o ts h s):DX P G own n0 t0 ann ds ops i r Q ts h o d j true (some (.sc (.bool true))):= .inl ⟨rfl,k⟩
theorem pL (k: ∀ s,vI P own n0 t0 d o.op (wV G ts) h=s→ADGo P G own n0 t0 ann ds ops r Q d o ts h s):DX P G own n0 t0 ann ds ops i r Q ts h o d j false (some (.sc (.bool false))):= .inl ⟨rfl,k⟩
theorem dx_st (k: ∀ t',zZ ts o.dst .ud=t'→AD P G own n0 t0 ann ds ops r Q t' h):DX P G own n0 t0 ann ds ops i r Q ts h o d j false (some (.sc (.bool true))):= .inr (.inl ⟨by decide,k⟩)
theorem dx_sf (k: ∀ t',zZ ts o.dst .ud=t'→AD P G own n0 t0 ann ds ops r Q t' h):DX P G own n0 t0 ann ds ops i r Q ts h o d j true (some (.sc (.bool false))):= .inr (.inl ⟨by decide,k⟩)
theorem dx_ud (k: ∀ t',zZ ts o.dst .ud=t'→AD P G own n0 t0 ann ds ops r Q t' h):DX P G own n0 t0 ann ds ops i r Q ts h o d j want (some .ud):=k
theorem iT {b:Bool} (k1:b=true→ ∀ t',ts.set ((ds.getD j none).getD 0) (.sc (.bool true))=t'→AD P G own n0 t0 ann ds ops (i::r) Q t' h) (k2:b=false→ ∀ t',ts.set ((ds.getD j none).getD 0) (.sc (.bool false))=t'→AD P G own n0 t0 ann ds ops (i::r) Q t' h):DX P G own n0 t0 ann ds ops i r Q ts h o d j want (some (.sc (.bool b))):= .inr (.inr ⟨k1,k2⟩)
end
end
end Go.AL
namespace Go.AL
open Go.RowKit
end Go.AL
namespace Go.AL.N
open Go.RowKit
section
variable (P:Program) (G:Glob) (D:Option Nat→Prop) (own:Bool)
def EWp (c:Code) (K:Exit→List PV→Heap→Prop) (ts:List PV) (h:Heap):Prop:= ∀ rd,D rd→AWp P G rd c K ts h
mutual
def ER (ds:List (Option Tmp)):List Oper→(List PV→Heap→Prop)→List PV→Heap→Prop
 | [],Q,ts,h=>Q ts h
 |o::rest,Q,ts,h=>EGo ds rest Q o ts h (vU P G own ds o ts h)∨(o.guard=none∧ ∀ rd,D rd→OpOk P G rd o h (wV G ts) fun p h'=>ER ds rest Q (zZ ts o.dst p) h')
def EGo (ds:List (Option Tmp)):List Oper→(List PV→Heap→Prop)→Oper→List PV→Heap→SR→Prop
 |rest,Q,o,ts,_,.val p h' c=>c∧ER ds rest Q (zZ ts o.dst p) h'
 |rest,Q,o,ts,h,.call g args=>ACall P G g args h fun p h'=>ER ds rest Q (zZ ts o.dst p) h'
 |_,_,_,_,_,.no=>False
end
def uJ:Code→(Exit→List PV→Heap→Prop)→List PV→Heap→Prop
 | .skip,Q,ts,h=>Q .normal ts h
 | .label _,Q,ts,h=>Q .normal ts h
 | .exit id,Q,ts,h=>Q (.exit id) ts h
 | .ret,Q,ts,h=>Q .ret ts h
 | .region _ ops false,Q,ts,h=>ER P G D own (ops.toList.map (·.dst)) ops.toList (Q .normal) ts h
 | .seq a b,Q,ts,h=>uJ a (AThen (uJ b Q) Q) ts h
 | .cond x a b,Q,ts,h=>match wV G ts x with
  | .sc (.bool t)=>if t=true then uJ a Q ts h else uJ b Q ts h
  |_=>False
 | .block id c,Q,ts,h=>uJ c (ABlock id Q) ts h
 |c,Q,ts,h=>EWp P G D c Q ts h
variable {P G D own}
theorem EWp.mono {c:Code} {K K':Exit→List PV→Heap→Prop} {ts:List PV} {h:Heap} (k:EWp P G D c K ts h) (hk: ∀ e t h,K e t h→K' e t h):EWp P G D c K' ts h:=fun rd hd=>(k rd hd).mono hk
theorem eU {a b:Code} {K:Exit→List PV→Heap→Prop} {ts:List PV} {h:Heap} (k:EWp P G D a (AThen (EWp P G D b K) K) ts h):EWp P G D (.seq a b) K ts h:=fun rd hd=>lH ((k rd hd).mono fun e t1 h1 q=>by
 cases e with
 |normal=>exact q rd hd
 |_=>exact q)
theorem mS {c:Code} {K:Exit→List PV→Heap→Prop} {ts:List PV} {h:Heap} (I:Nat→List PV→Heap→Prop) (n:Nat) (h0:I n ts h)
  (k: ∀ n ts h,I n ts h→EWp P G D c (AThen (fun ts' h'=> ∃ m,m<n∧I m ts' h') K) ts h):EWp P G D (.loop c) K ts h:=fun rd hd=>mV I n h0 fun n ts h hi=>k n ts h hi rd hd
theorem ER.sreg {ops:List Oper} {rd:Option Nat} (hd:D rd): ∀ {rest:List Oper} {Q:List PV→Heap→Prop} {ts:List PV} {h:Heap},ER P G D own (ops.map (·.dst)) rest Q ts h→SReg P G rd ops rest Q ts h:=by
 intro rest
 induction rest with
 |nil=>intro Q ts h k;simp only [ER] at k;exact k
 | cons o rest ih=>
  intro Q ts h k
  simp only [ER] at k
  simp only [SReg]
  rcases k with k|⟨hg,k⟩
  ·have go: ∀ {r:SR},qC P own o.op (wV G ts) h=r→EGo P G D own (ops.map (·.dst)) rest Q o ts h r→OpOk P G rd o h (wV G ts) fun p h'=>SReg P G rd ops rest Q (zZ ts o.dst p) h':=by
    intro r hr k
    cases r with
    |val p h' c=>simp only [EGo] at k;exact uI (own:=own) (by rw [hr];exact ⟨k.1,ih k.2⟩)
    |call g args=>simp only [EGo] at k;exact uI (own:=own) (by rw [hr];exact k.mono fun p h' q=>ih q)
    |no=>simp only [EGo] at k
   have bad: ¬EGo P G D own (ops.map (·.dst)) rest Q o ts h .no:=fun k=>by simp only [EGo] at k
   have skip: ∀ {p:PV} {h':Heap} {c:Prop},EGo P G D own (ops.map (·.dst)) rest Q o ts h (.val p h' c)→c∧ER P G D own (ops.map (·.dst)) rest Q (zZ ts o.dst p) h':=fun k=>by simp only [EGo] at k;exact k
   cases hg:o.guard with
   |none=>
    have e:vU P G own (ops.map (·.dst)) o ts h=qC P own o.op (wV G ts) h:=by unfold vU;rw [hg]
    rw [e] at k
    exact go rfl k
   | some jw=>
    obtain ⟨j,want⟩:=jw
    unfold vU at k
    rw [hg] at k
    simp only [oQ]
    simp only [] at k
    split at k
    ·rename_i b hb
     rw [hb]
     split at k
     ·rename_i e
      exact ⟨fun _=>go rfl k,fun ne=>absurd e ne⟩
     ·rename_i e
      exact ⟨fun e'=>absurd e' e,fun _=>ih (skip k).2⟩
    ·rename_i hb
     rw [hb]
     exact ih (skip k).2
    ·exact absurd k bad
  ·rw [hg]
   exact (k rd hd).mono fun p h' q=>ih q
theorem uV: ∀ (c:Code) (K:Exit→List PV→Heap→Prop) (ts:List PV) (h:Heap),uJ P G D own c K ts h→EWp P G D c K ts h:=by
 intro c
 induction c with
 |skip=>intro K ts h k rd _;exact mU k
 |label l=>intro K ts h k rd _;exact oI k
 |exit id=>intro K ts h k rd _;exact mW k
 |ret=>intro K ts h k rd _;exact jB k
 |region id ops d=>
  intro K ts h k
  cases d with
  |false=>intro rd hd;have:=rM (id:=id) (ER.sreg (rd:=rd) hd k);simpa using this
  |true=>exact k
 |seq a b iha ihb=>
  intro K ts h k
  refine eU ((iha _ ts h k).mono fun e t1 h1 q=> ?_)
  cases e with
  |normal=>exact ihb K t1 h1 q
  |_=>exact q
 | cond x a b iha ihb=>
  intro K ts h k rd hd
  simp only [uJ] at k
  split at k
  ·rename_i t hx
   exact qQ hx (fun e=>iha K ts h (by rw [if_pos e] at k;exact k) rd hd) fun e=>ihb K ts h (by rw [if_neg (by simp [e])] at k;exact k) rd hd
  ·exact k.elim
 |block id c ih=>intro K ts h k rd hd;exact oK (ih _ ts h k rd hd)
 |_=>intro K ts h k;exact k
theorem sA {f:FuncId} {fn:Func} {c:Code} {args ts:List PV} {h:Heap} {R:PV→Heap→Prop} (hf:P.funcs[f]? =some fn) (hb:fn.body=some c)
  (hen:uG P f=true) (ht:args++List.replicate (fn.ntmps-args.length) .ud=ts) {own:Bool} (k:uJ P G (fun rd=>rd=none) own c (AEnd P fn R) ts h):ACall P G f args h R:=
 uF hf hb hen (by rw [ht];exact uV _ _ _ _ k none rfl)
theorem lF {c:Code} {K:Exit→List PV→Heap→Prop} {ts ts':List PV} {h:Heap} (hl:TLe ts ts') (k:EWp P G D c K ts' h):EWp P G D c K ts h:=fun rd hd=>zcA hl (k rd hd)
theorem zW {σ:Type} (M:List Mk) (f:σ→List PV) (g:σ→Heap) (I:σ→Prop) (m:σ→Nat) {c:Code} {K:Exit→List PV→Heap→Prop} {ts:List PV} {h:Heap} (s0:σ) (h1:xJ M ts=f s0) (h2:h=g s0) (h3:I s0)
  (k: ∀ s,I s→ ∀ t,zY M (f s) ts=t→uJ P G D own c (AThen (fun ts' h'=> ∃ s',I s'∧m s'<m s∧xJ M ts'=f s'∧zY M [] ts'=zY M [] ts∧h'=g s') K) t (g s)):EWp P G D (.loop c) K ts h:=by
 refine mS (fun n ts' h=> ∃ s,I s∧m s=n∧xJ M ts'=f s∧zY M [] ts'=zY M [] ts∧h=g s) (m s0) ⟨s0,h3,rfl,h1,rfl,h2⟩ ?_
 rintro n ts' h ⟨s,hI,rfl,e1,e2,rfl⟩
 refine lF (TLe.mix M ts' ts _ e1 e2) ((uV _ _ _ _ (k s hI _ rfl)).mono fun e t1 h1 q=> ?_)
 cases e with
 |normal=>obtain ⟨s',a,b,c,d,e⟩:=q;exact ⟨m s',b,s',a,rfl,c,d,e⟩
 |_=>exact q
section
variable {ds:List (Option Tmp)} {o:Oper} {rest:List Oper} {Q:List PV→Heap→Prop} {ts:List PV} {h:Heap}
theorem wU (k: ∀ r,vU P G own ds o ts h=r→EGo P G D own ds rest Q o ts h r):ER P G D own ds (o::rest) Q ts h:=by
 simp only [ER];exact .inl (k _ rfl)
theorem za1 (k:Q ts h):ER P G D own ds [] Q ts h:=by
 simp only [ER];exact k
theorem za0 {h':Heap} {p:PV} (k: ∀ ts',zZ ts o.dst p=ts'→ER P G D own ds rest Q ts' h'):EGo P G D own ds rest Q o ts h (.val p h' True):=by
 simp only [EGo];exact ⟨trivial,k _ rfl⟩
theorem zH {h':Heap} {p:PV} {c:Prop} (hc:c) (k: ∀ ts',zZ ts o.dst p=ts'→ER P G D own ds rest Q ts' h'):EGo P G D own ds rest Q o ts h (.val p h' c):=by
 simp only [EGo];exact ⟨hc,k _ rfl⟩
theorem zC {g:FuncId} {args:List PV} {R:PV→Heap→Prop} (hc:ACall P G g args h R) (k: ∀ p h',R p h'→ ∀ ts',zZ ts o.dst p=ts'→ER P G D own ds rest Q ts' h'):
  EGo P G D own ds rest Q o ts h (.call g args):=by
 simp only [EGo];exact hc.mono fun p h' hr=>k p h' hr _ rfl
theorem uL {R:PV→Heap→Prop} (hg:o.guard=none) (hc: ∀ rd,D rd→OpOk P G rd o h (wV G ts) R) (k: ∀ p h',R p h'→ ∀ ts',zZ ts o.dst p=ts'→ER P G D own ds rest Q ts' h'):ER P G D own ds (o::rest) Q ts h:=by
 simp only [ER];exact .inr ⟨hg,fun rd hd=>(hc rd hd).mono fun p h' hr=>k p h' hr _ rfl⟩
end
section
variable {K:Exit→List PV→Heap→Prop} {ts:List PV} {h:Heap}
theorem zaY {a b:Code} (k:uJ P G D own a (AThen (uJ P G D own b K) K) ts h):uJ P G D own (.seq a b) K ts h:=k
theorem eV (k:K .normal ts h):uJ P G D own .skip K ts h:=k
theorem eX {id:Nat} (k:K (.exit id) ts h):uJ P G D own (.exit id) K ts h:=k
theorem zaZ (k:K .ret ts h):uJ P G D own .ret K ts h:=k
theorem iG {l:Nat} (k:K .normal ts h):uJ P G D own (.label l) K ts h:=k
theorem iH {id:Nat} {c:Code} (k:uJ P G D own c (ABlock id K) ts h):uJ P G D own (.block id c) K ts h:=k
theorem lS {id:Nat} {ops:Array Oper} (k: ∀ l,ops.toList=l→ ∀ ds,l.map (·.dst)=ds→ER P G D own ds l (K .normal) ts h):uJ P G D own (.region id ops false) K ts h:=by
 simp only [uJ];exact k _ rfl _ rfl
theorem qP {id:Nat} {ops:Array Oper} (k:EWp P G D (.region id ops true) K ts h):uJ P G D own (.region id ops true) K ts h:=k
theorem eW {c:Code} (k:EWp P G D (.loop c) K ts h):uJ P G D own (.loop c) K ts h:=k
theorem mC {f:Operand} {ps:Array Tmp} {as bd:Code} (k:EWp P G D (.rangeFunc f ps as bd) K ts h):uJ P G D own (.rangeFunc f ps as bd) K ts h:=k
theorem eY {x:Operand} {a b:Code} (k: ∀ r,wV G ts x=r→ACond r (uJ P G D own a K ts h) (uJ P G D own b K ts h)):uJ P G D own (.cond x a b) K ts h:=k _ rfl
end
end
end Go.AL.N
namespace Go.AL
open Go.RowKit
section
variable {P:Program} {G:Glob} {rd:Option Nat}
theorem OpOk.nilCmp {o:Oper} {h:Heap} {F:Operand→PV} {R:PV→Heap→Prop} {t yt:TypeId} {x y:Operand} {k:Nat} {els:List (List PV)} (ho:o.op= .binOp .eql t x y yt) (hx:F x= .ts k els) (hy:F y= .nil) (ht:(wX P t).isSome=true)
  (r: ∀ b,R (.sc (.bool b)) h):OpOk P G rd o h F R:=by
 refine .of_run (by intro c;rw [ho];simp) fun φ w X ρ hS hG hv=> ?_
 have h1:=hv x (by rw [ho];simp [Op.operands])
 have h2:=hv y (by rw [ho];simp [Op.operands])
 rw [hx] at h1
 rw [hy] at h2
 obtain ⟨e,he⟩:=Option.isSome_iff_exists.1 ht
 have hte:=tS he
 have hux: ∃ a n c,ρ x= .slice a n c:=by generalize ρ x=u at h1;cases h1;exact ⟨_,_,_,rfl⟩
 obtain ⟨a,n,c,hux⟩:=hux
 have huy:ρ y= .slice none 0 0:=by generalize ρ y=u at h2;cases h2;rfl
 have e0: ∀ d,(Op.equalIn (d+1) t (ρ x) (ρ y)).run P w= .ok a.isNone w:=fun d=>by
  rw [hux,huy]
  cases a<;>simp only [Op.equalIn,Sem.run_bind,run_underlying hte,Result.andThen_ok,Sem.run_pure,Option.isNone]
 have e1:(Op.equalIn 10000 t (ρ x) (ρ y)).run P w= .ok a.isNone w:=e0 9999
 obtain ⟨e2,_⟩:=mB (P:=P) (S:=⟨φ,h,w,X⟩) (t:=t) e1 (by rw [hux];simp) (by rw [hux];simp) (by rw [hux];simp) (by rw [hux];simp)
 have e3:=mA (P:=P) (S:=⟨φ,h,w,X⟩) (op:= .eql) (t:=t) (x:=x) (y:=y) (u:=ρ x) (v:=ρ y) (by rw [hux];simp) (.inl (by rw [huy];simp))
 refine ⟨φ,h,w,.sc (.bool a.isNone),.bool a.isNone,?_,Ext.refl _,hS,.sc trivial,r _⟩
 unfold execOp
 rw [ho]
 simp only [Sem.run_bind] at e2 e3 ⊢
 simp only [e3,e2,Result.andThen_ok,Sem.run_bind,Sem.run_pure]
theorem OpOk.appendEmpty {o:Oper} {h:Heap} {F:Operand→PV} {R:PV→Heap→Prop} {c:Call} {t e:TypeId} {k b:Nat} {s x:Operand} (ho:o.op= .call c) (hc:c.callee= .builtin .append) (ha:c.args= #[s,x]) (hat:c.argTypes= #[t,t]) (hs:F s= .tc k []) (hx:F x= .ts k []) (ht:wD P t=some (e,k,b))
  (r:R (.ts k []) h):OpOk P G rd o h F R:=by
 refine .of_run (by intro c;rw [ho];simp) fun φ w X ρ hS hG hv=> ?_
 have h1:=hv s (by rw [ho];simp [Op.operands,Call.operands,hc,ha])
 have h2:=hv x (by rw [ho];simp [Op.operands,Call.operands,hc,ha])
 rw [hs] at h1
 rw [hx] at h2
 obtain ⟨htu,i,zv,hi,hz,hsz,hby,hzs,hk0⟩:=uH ht
 have hus: ∃ a,ρ s= .slice a 0 0:=by generalize ρ s=u at h1;cases h1 with|tc h1=>cases h1 with|ts hl=>simp at hl;subst hl;exact ⟨_,rfl⟩
 have hux: ∃ a c,ρ x= .slice a 0 c:=by generalize ρ x=u at h2;cases h2 with|ts hl=>simp at hl;subst hl;exact ⟨_,_,rfl⟩
 obtain ⟨a,hus⟩:=hus
 obtain ⟨a2,c2,hux⟩:=hux
 refine ⟨φ,h,w,.ts k [],.slice a 0 0,?_,Ext.refl _,hS,.ts rfl (Nat.le_refl _) (Nat.zero_le _) (by simp) ⟨0,0,none⟩ (fun h=>absurd rfl h) (fun _=>undef) (by simp) (by simp),r⟩
 have hrun:(Builtin.append_ #[t,t] o.type #[ρ s,ρ x]).run P w= .ok (.slice a 0 0) w:=by
  rw [hus,hux]
  simp [Builtin.append_,run_underlying htu,sizeOf,typeInfo,hi,Builtin.lenOf,Builtin.firstCells]
  cases a<;>cases a2<;>simp [Builtin.firstCells,loadCells,loadCellsFrom,storeCells]
 unfold execOp
 rw [ho]
 simp [resolve,invoke,builtin,hc,ha,hat,hrun]
theorem bE {S:St} (hS:SRel S) {r b:Nat} {m:Option Nat} {n:Nat} {seen seen':List Nat} (hp:S.φ[r]? =some (.pointer (some ⟨b,0,none⟩))) (hb:S.h[r]? =some (.iter m n seen))
  {w':World} (ho:w'.os=S.w.os) (ht:TapeLe S.w w') (hu:w'.output=S.w.output) (hs:w'.heap.size=S.w.heap.size) (hw: ∀ k,k≠b→w'.heap[k]? =S.w.heap[k]?) (hz: ∀ b m,S.Row b m→St.Row {S with w:=w'} b m):
  Ext S {S with h:=S.h.set r (.iter m n seen'),w:=w'}:=by
 have hr:r<S.h.length:=(gsi hb).1
 have hown: ∀ n, ¬S.Own n→n≠b:=fun n hn e=>hn ⟨r,_,hp,by subst e;rfl⟩
 refine ⟨rfl,ho,ht,hu,by simp only [];omega,fun n hn hno=>⟨hno,hw n (hown n hno)⟩,fun a v hm=> ?_,fun r' c hc=> ?_,hz⟩
 ·obtain ⟨h1,h2,h3,h4,h5,h6⟩:=hm
  have hab:a.block≠b:=fun e=>by
   obtain ⟨e',k,n,hh,_⟩:=h6 r _ hp (by simp [sC,e])
   rw [hb] at hh
   cases hh
  refine ⟨(World.cell?_of_block (hw _ hab)).trans h1,h2,h3,by simp only [];omega,h5,fun r' v' hp' hv'=> ?_⟩
  obtain ⟨e,k,n,hh,hlt⟩:=h6 r' v' hp' hv'
  refine ⟨e,k,n,?_,hlt⟩
  have:r≠r':=fun e=>by subst e;rw [hb] at hh;cases hh
  simp only [List.getElem?_set,if_neg this]
  exact hh
 ·by_cases e:r=r'
  ·subst e
   rw [hb] at hc
   cases hc
   exact ⟨.iter m n seen',by simp [hr],by simp [Blk.le]⟩
  ·exact ⟨c,by simp only [List.getElem?_set,if_neg e];exact hc,Blk.le_refl c rfl⟩
theorem zc5 {S:St} (hS:SRel S) {r b m bk n:Nat} {seen seen':List Nat} {es:List (Value×PV)} (hp:S.φ[r]? =some (.pointer (some ⟨b,0,none⟩))) (hb:S.h[r]? =some (.iter (some m) n seen)) (hm:S.h[m]? =some (.map es)) (hk:S.φ[m]? =some (.map (some bk)))
  {w':World} (ho:w'.os=S.w.os) (ht:TapeLe S.w w') (hu:w'.output=S.w.output) (hs:w'.heap.size=S.w.heap.size) (hw: ∀ k,k≠b→w'.heap[k]? =S.w.heap[k]?) (hz: ∀ b m,S.Row b m→St.Row {S with w:=w'} b m)
  (hnew:w'.heap[b]? =some (.mapIter (some bk) n seen'.toArray n)):SRel {S with h:=S.h.set r (.iter (some m) n seen'),w:=w'}:=by
 have x:=bE (seen':=seen') hS hp hb ho ht hu hs hw hz
 have hr:r<S.h.length:=(gsi hb).1
 have hrm:r≠m:=fun e=>by subst e;rw [hb] at hm;cases hm
 refine ⟨by simp [hS.len],fun r' c v hc hvv=> ?_,hS.inj,fun a ha=>by have:=hS.xlt a ha;simp only [];omega,hS.xown⟩
 by_cases e:r=r'
 ·subst e
  simp only [List.getElem?_set,if_pos hr, ↓reduceIte] at hc
  cases hc
  rw [hp] at hvv
  cases hvv
  exact ⟨b,some bk,rfl,hnew,fun r' hr'=>by cases hr';exact ⟨es,bk,by simp only [List.getElem?_set,if_neg hrm];exact hm,hk,rfl⟩⟩
 ·simp only [List.getElem?_set,if_neg e] at hc
  refine (hS.blks r' c v hc hvv).ext x fun n hn=>hw n fun en=> ?_
  subst en
  exact e (hS.inj r r' _ v n hp hvv rfl hn)
theorem OpOk.next {o:Oper} {h:Heap} {F:Operand→PV} {R:PV→Heap→Prop} {it:Operand} {r m:Nat} {es:List (Value×PV)} {seen:List Nat} (ho:o.op= .next it false) (hx:F it= .it r) (hb:h[r]? =some (.iter (some m) es.length seen)) (hm:h[m]? =some (.map es))
  (k0:(∀ i,i<es.length→i∈seen)→R (.tup [.sc (.bool false)]) h) (k1: ∀ (i:Nat) (q:Value×PV),es[i]? =some q→i∉seen→R (.tup [.sc (.bool true),.sc q.1,q.2]) (h.set r (.iter (some m) es.length (seen++[i])))):OpOk P G rd o h F R:=by
 refine .of_run (by intro c;rw [ho];simp) fun φ w X ρ hS hG hv=> ?_
 have h1:=hv it (by rw [ho];simp [Op.operands])
 rw [hx] at h1
 have hit: ∃ b,ρ it= .pointer (some ⟨b,0,none⟩)∧φ[r]? =some (.pointer (some ⟨b,0,none⟩)):=by generalize ρ it=u at h1;cases h1;exact ⟨_,rfl,by assumption⟩
 obtain ⟨b,hit,hφ⟩:=hit
 obtain ⟨b',bm,he,hh,hmm⟩:=hS.blks r _ _ hb hφ
 cases he
 obtain ⟨es',bk,g1,g2,rfl⟩:=hmm m rfl
 rw [hm] at g1
 cases g1
 obtain ⟨bk',clock,ar,he,hh2,hsz,⟨hck,hok,hborn⟩,hrel⟩:=hS.blks m _ _ hm g2
 cases he
 have hae: ∀ (i:Nat) (e:MapEntry),ar[i]? =some e→ ∃ q,es[i]? =some q∧e.born=i∧e.key=q.1∧VRel ⟨φ,h,w,X⟩ q.2 e.val:=fun i e he=>by
  have hi:i<es.length:=by rw [←hsz];exact (Array.getElem?_eq_some_iff.1 he).1
  exact ⟨es[i],List.getElem?_eq_getElem hi,hborn i e he,hrel i e _ he (List.getElem?_eq_getElem hi)⟩
 have hmem: ∀ e∈ar.toList, ∃ i,ar[i]? =some e:=fun e he=>by
  obtain ⟨i,hi⟩:=List.getElem?_of_mem he
  exact ⟨i,by simpa using hi⟩
 rcases run_next_at (P:=P) w o.type b bk es.length es.length seen.toArray ar clock hh hh2 (fun e he=>by
   obtain ⟨i,hi⟩:=hmem e he
   obtain ⟨q,q1,q2,_⟩:=hae i e hi
   rw [q2];exact (gsi q1).1) (Nat.le_refl _) with ⟨h0,hrun⟩|⟨e,he,w1,hw1,hrun⟩
 ·refine ⟨φ,h,w,.tup [.sc (.bool false)],.tuple #[.bool false],?_,Ext.refl _,hS,.tup rfl fun i p v hp hv=> ?_,k0 fun i hi=> ?_⟩
  ·unfold execOp
   rw [ho]
   simp only [hit,hrun,Sem.run_bind,Result.andThen_ok,Sem.run_pure]
  ·match i with
   |0=>simp at hp hv;subst hp;subst hv;exact .sc trivial
   |i+1=>simp at hp
  ·have hi':i<ar.size:=by rw [hsz];exact hi
   have hne:ar[i]∉(leftOf ar seen.toArray).toList:=fun hmm=>by
    have:=List.length_pos_of_mem hmm
    simp at this;omega
   unfold leftOf at hne
   simp at hne
   have:=hborn i _ (Array.getElem?_eq_getElem hi')
   rw [this] at hne
   exact hne
 ·obtain ⟨hmm',hcs⟩:=mem_left he
  obtain ⟨i,hi⟩:=hmem e hmm'
  obtain ⟨q,q1,q2,q3,q4⟩:=hae i e hi
  have hns:i∉seen:=by
   rw [q2] at hcs
   simpa using hcs
  have hd:w1.os=w.os∧TapeLe w w1∧w1.output=w.output∧w1.heap=w.heap:=by rcases hw1 with rfl|rfl<;>exact ⟨rfl,iN,rfl,rfl⟩
  obtain ⟨d1,d2,d3,d4⟩:=hd
  let w':World:=ChangeMaps.setBlock w1 b (.mapIter (some bk) es.length (seen.toArray.push e.born) clock)
  have hck':clock=es.length:=by rw [hck,hsz]
  have hblt:b<w.heap.size:=(Array.getElem?_eq_some_iff.1 hh).1
  have hsz':w'.heap.size=w.heap.size:=by simp [w',ChangeMaps.setBlock,d4]
  have hw: ∀ k,k≠b→w'.heap[k]? =w.heap[k]? :=fun k hk=>by simp [w',ChangeMaps.setBlock,d4,Array.getElem?_setIfInBounds,Ne.symm hk]
  have hz: ∀ b1 m,St.Row ⟨φ,h,w,X⟩ b1 m→St.Row {(⟨φ,h,w,X⟩:St) with w:=w'} b1 m:=by
   rintro b1 m ⟨ar1,t1,f1,hr1,hm1⟩
   refine ⟨ar1,t1,f1,(hw b1 fun e=> ?_).trans hr1,hm1⟩
   subst e
   simp only [] at hr1 hh
   rw [hh] at hr1
   cases hr1
  have hnew:w'.heap[b]? =some (.mapIter (some bk) es.length (seen++[i]).toArray es.length):=by
   simp [w',ChangeMaps.setBlock,d4,Array.getElem?_setIfInBounds,hblt,q2,hck']
  have x:=bE (seen':=seen++[i]) hS hφ hb (w':=w') (by simp [w',ChangeMaps.setBlock,d1]) ⟨by simp [w',ChangeMaps.setBlock,d2.tape],by simp [w',ChangeMaps.setBlock,d2.drawn]⟩ (by simp [w',ChangeMaps.setBlock,d3]) hsz' hw hz
  refine ⟨φ,h.set r (.iter (some m) es.length (seen++[i])),w',.tup [.sc (.bool true),.sc q.1,q.2],.tuple #[.bool true,e.key,e.val],?_,x,zc5 hS hφ hb hm g2 (by simp [w',ChangeMaps.setBlock,d1]) ⟨by simp [w',ChangeMaps.setBlock,d2.tape],by simp [w',ChangeMaps.setBlock,d2.drawn]⟩ (by simp [w',ChangeMaps.setBlock,d3]) hsz' hw hz hnew,.tup rfl fun j p v hp hv=> ?_,k1 i q q1 hns⟩
  ·unfold execOp
   rw [ho]
   simp only [hit,hrun,Sem.run_bind,Result.andThen_ok,Sem.run_pure]
   rfl
  ·match j with
   |0=>simp at hp hv;subst hp;subst hv;exact .sc trivial
   |1=>simp at hp hv;subst hp;subst hv;rw [q3];exact .sc (hok q (List.mem_of_getElem? q1))
   |2=>simp at hp hv;subst hp;subst hv;exact q4.ext x
   |j+3=>simp at hp
theorem OpOk.entry {o:Oper} {h:Heap} {F:Operand→PV} {R:PV→Heap→Prop} {it:Operand} {r m i:Nat} {es:List (Value×PV)} {seen:List Nat} {q:Value×PV} (ho:o.op= .entry it) (hx:F it= .it r) (hb:h[r]? =some (.iter (some m) es.length (seen++[i]))) (hm:h[m]? =some (.map es)) (hq:es[i]? =some q)
  (k:R (.tup [.sc q.1,q.2]) h):OpOk P G rd o h F R:=by
 refine .of_run (by intro c;rw [ho];simp) fun φ w X ρ hS hG hv=> ?_
 have h1:=hv it (by rw [ho];simp [Op.operands])
 rw [hx] at h1
 have hit: ∃ b,ρ it= .pointer (some ⟨b,0,none⟩)∧φ[r]? =some (.pointer (some ⟨b,0,none⟩)):=by generalize ρ it=u at h1;cases h1;exact ⟨_,rfl,by assumption⟩
 obtain ⟨b,hit,hφ⟩:=hit
 obtain ⟨b',bm,he,hh,hmm⟩:=hS.blks r _ _ hb hφ
 cases he
 obtain ⟨es',bk,g1,g2,rfl⟩:=hmm m rfl
 rw [hm] at g1
 cases g1
 obtain ⟨bk',clock,ar,he,hh2,hsz,⟨hck,hok,hborn⟩,hrel⟩:=hS.blks m _ _ hm g2
 cases he
 have hi:i<ar.size:=by rw [hsz];exact (gsi hq).1
 have hbi:=hborn i _ (Array.getElem?_eq_getElem hi)
 have hck':clock=es.length:=by rw [hck,hsz]
 subst hck'
 obtain ⟨k1,k2⟩:=hrel i _ q (Array.getElem?_eq_getElem hi) hq
 have hrun:=run_entry_at (P:=P) w b bk es.length seen.toArray ar es.length ar[i] (by rw [hh,hbi];simp) hh2 (by simp) (by
  have e:ar.toList.map (fun x=>x.born)=List.range ar.size:=by
   refine List.ext_getElem? fun j=> ?_
   rw [List.getElem?_map,Array.getElem?_toList]
   rcases Nat.lt_or_ge j ar.size with hj|hj
   ·rw [Array.getElem?_eq_getElem hj,List.getElem?_range hj,Option.map_some,hborn j _ (Array.getElem?_eq_getElem hj)]
   ·rw [Array.getElem?_eq_none hj,List.getElem?_eq_none (by simpa using hj)];rfl
  rw [e];exact List.nodup_range)
 refine ⟨φ,h,w,.tup [.sc q.1,q.2],.tuple #[ar[i].key,ar[i].val],?_,Ext.refl _,hS,.tup rfl fun j p v hp hv=> ?_,k⟩
 ·unfold execOp
  rw [ho]
  simp only [hit,hrun,Sem.run_bind,Result.andThen_ok,Sem.run_pure]
 ·match j with
  |0=>simp at hp hv;subst hp;subst hv;rw [k1];exact .sc (hok q (List.mem_of_getElem? hq))
  |1=>simp at hp hv;subst hp;subst hv;exact k2
  |j+2=>simp at hp
end
end Go.AL
namespace Go.AL
open Go.RowKit
section
variable {P:Program} {G:Glob} {D:Option Nat→Prop}
theorem zj9 {rd:Option Nat} {c:Code} {Q:Exit→List PV→Heap→Prop} {ts ts':List PV} {h:Heap} (hl:PLes ts ts') (k:AWp P G rd c Q ts' h):AWp P G rd c Q ts h:=by
 intro B φ w X a hA
 refine k B φ w X a ⟨hA.st,hA.gl,⟨by rw [hA.tr.size,hl.len],fun i q hq=> ?_⟩,hA.mark,hA.base⟩
 have hi:i<ts.length:=by rw [hl.len];exact (gsi hq).1
 exact hl.get i _ q (List.getElem?_eq_getElem hi) hq _ _ (hA.tr.rel i _ (List.getElem?_eq_getElem hi))
theorem zjQ {c:Code} {K:Exit→List PV→Heap→Prop} {ts ts':List PV} {h:Heap} (hl:PLes ts ts') (k:EWp P G D c K ts' h):EWp P G D c K ts h:=by
 obtain ⟨e,t1,h1,a,b⟩:=k
 exact ⟨e,t1,h1,a,fun rd hd=>zj9 hl (b rd hd)⟩
theorem PLes.set {ts ts':List PV} (h:PLes ts ts') (i:Nat) {p q:PV} (hp:PLe p q):PLes (ts.set i p) (ts'.set i q):=by
 induction h generalizing i with
 |nil=>exact .nil
 |cons h r ih=>
  cases i with
  |zero=>exact .cons hp r
  |succ i=>exact .cons h (ih i)
theorem PLes.rput {ps:List Tmp}: ∀ {ts ts' as as':List PV},PLes ts ts'→PLes as as'→PLes (rput ts ps as) (rput ts' ps as'):=by
 induction ps with
 |nil=>intro ts ts' as as' h _;cases as<;>cases as'<;>simpa [AL.rput] using h
 |cons t ps ih=>
  intro ts ts' as as' h k
  cases k with
  |nil=>simpa [AL.rput] using h
  |cons hp r=>simp only [AL.rput];exact ih (h.set t hp) r
theorem EYl.args {r:Nat} {args args':List PV} {h:Heap} {R:PV→Heap→Prop} (k:EYl P G r args h R) (hle:PLes args' args):EYl P G r args' h R:=by
 obtain ⟨ts,ps,as,bd,st,pd,hb,hl,hw⟩:=k
 exact ⟨ts,ps,as,bd,st,pd,hb,by rw [hle.len];exact hl,zjQ (PLes.rput (PLes.refl ts) hle) hw⟩
end
end Go.AL
namespace Go.AL
open Go.RowKit
mutual
theorem dN: ∀ p:PV,Av [] p
 | .un=> .un
 | .ud=> .ud
 | .sc _=> .sc
 | .nil=> .nil
 | .agg cs=> .agg (sO cs)
 | .tup cs=> .tup (sO cs)
 | .ts _ els=> .ts (mX els)
 | .tc _ els=> .tc (mX els)
 | .vec _ _ els=> .vec (by simp) (mX els)
 | .ms .. => .ms (by simp)
 | .ptr .. => .ptr (by simp)
 | .tp cs=> .tp (sO cs)
 | .fn _ a b=> .fn (sO a) (sO b)
 | .ifc _ p=> .ifc (dN p)
 | .mp _=> .mp (by simp)
 | .yl _=> .yl (by simp)
 | .it _=> .it (by simp)
theorem sO: ∀ (cs:List PV), ∀ p∈cs,Av [] p
 | [],_,h=>by cases h
 |c::cs,p,h=>by
  rcases List.mem_cons.1 h with h0|h
  ·rw [h0];exact dN c
  ·exact sO cs p h
theorem mX: ∀ (els:List (List PV)), ∀ e∈els, ∀ p∈e,Av [] p
 | [],_,h=>by cases h
 |c::cs,e,h=>by
  rcases List.mem_cons.1 h with h0|h
  ·rw [h0];exact sO c
  ·exact mX cs e h
end
theorem zkE (b:Blk):AvB [] b:=by
 cases b<;>simp only [AvB]
 ·exact sO _
 ·exact fun q _=>dN _
 ·exact sO _
 ·simp
theorem jJ {h h':Heap}:xV [] h h'=h':=by
 unfold xV
 apply List.ext_getElem?
 intro r
 rw [List.getElem?_mapIdx]
 cases h'[r]? <;>simp
section
variable {P:Program} {G:Glob} {D:Option Nat→Prop} {own:Bool}
variable {n0:Nat} {t0:List PV} {ann:Nat→DAnn} {ds:List (Option Tmp)} {ops:List Oper} {i:Nat} {r:List Nat} {Q:List PV→Heap→Prop} {ts:List PV} {h:Heap} {o:Oper} {d:DAnn}
theorem xR {g:FuncId} {args:List PV} {R:PV→Heap→Prop} (h6:d.cl=6) (hh:kI n0 t0 d.fb=[]) (hc:ECall P G g args h R) (hk: ∀ p h',R p h'→ ∀ k∈d.fb,1000≤k→h'[nu n0 t0 k]? =h[nu n0 t0 k]?)
  (k: ∀ p h',R p h'→ ∀ ts',zZ ts o.dst p=ts'→AD P G own n0 t0 ann ds ops r Q ts' h'):ADGo P G own n0 t0 ann ds ops r Q d o ts h (.call g args):=by
 obtain ⟨p,h',a,b⟩:=hc
 unfold ADGo ADo
 simp only [h6,if_true,hh]
 refine ⟨p,h',by simpa only [rI,List.foldl_nil] using b,by simp,by simp,fun x _=>dN _,fun r b _ _=>zkE b,?_,?_⟩
 ·rw [jJ];exact hk p h' a
 ·rw [jJ];exact k p h' a _ rfl
end
theorem OpOk.lenMap {P:Program} {G:Glob} {rd:Option Nat} {o:Oper} {h:Heap} {F:Operand→PV} {R:PV→Heap→Prop} {c:Call} {t k e:TypeId} {d:TypeDesc} {x:Operand} {r:Nat} {es:List (Value×PV)} (ho:o.op= .call c) (hc:c.callee= .builtin .len) (ha:c.args= #[x]) (hat:c.argTypes= #[t]) (hx:F x= .mp r) (hb:h[r]? =some (.map es))
  (ht:kC P t=some (k,d,e)) (hn:es.length≤140737488355328) (hr:R (.sc (.int .i64 es.length)) h):OpOk P G rd o h F R:=by
 refine .of_run (by intro c;rw [ho];simp) fun φ w X ρ hS hG hv=> ?_
 have h1:=hv x (by rw [ho];simp [Op.operands,Call.operands,hc,ha])
 rw [hx] at h1
 obtain ⟨t1,t2⟩:=pX ht
 have hu: ∃ b,ρ x= .map (some b)∧φ[r]? =some (.map (some b)):=by
  generalize ρ x=u at h1
  cases h1 with|mp hp hb'=>exact ⟨_,rfl,hp⟩
 obtain ⟨b,hu,hp⟩:=hu
 obtain ⟨b',clock,entries,e1,e2,e3,_,_⟩:=hS.blks r _ _ hb hp
 cases e1
 refine ⟨φ,h,w,.sc (.int .i64 es.length),.int .i64 es.length,?_,Ext.refl _,hS,.sc ?_,hr⟩
 ·have hrun:(Builtin.len_ #[t] o.type #[ρ x]).run P w= .ok (.int .i64 es.length) w:=by
   rw [hu]
   simp [Builtin.len_,run_underlying t1,MapKept.run_getObj_map e2,goInt,e3]
  unfold execOp
  rw [ho]
  simp [resolve,invoke,builtin,hc,ha,hat,hrun]
 ·simp only [tJ]
  constructor
  ·exact Int.le_trans (by decide) (Int.natCast_nonneg _)
  ·have:(IntKind.i64.max:Int)=9223372036854775807:=by decide
   omega
section
variable {P:Program} {G:Glob} {D:Option Nat→Prop} {own:Bool}
variable {ds:List (Option Tmp)} {o:Oper} {rest:List Oper} {Q:List PV→Heap→Prop} {ts:List PV} {h:Heap}
theorem iR {p:PV} {h':Heap} (hg:o.guard=none) (hc: ∀ rd,OpOk P G rd o h (wV G ts) fun q g=>q=p∧g=h') (k: ∀ ts',zZ ts o.dst p=ts'→ER P G D own ds rest Q ts' h'):EGo P G D own ds rest Q o ts h .no:=by
 simp only [EGo];exact ⟨hg,p,h',fun rd _=>hc rd,k _ rfl⟩
end
end Go.AL
