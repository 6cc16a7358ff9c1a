/-
  New blocks, stores, appends: the steps that turn what a call owns.
-/
import Derived.Test.YtcffidhiaihbkaaGreatDoorX01
import Derived.MapKept
import Derived.Laws.StructEq
import Derived.Maps.AppendAt
set_option linter.unusedSimpArgs false
set_option linter.unusedVariables false
set_option maxRecDepth 100000
set_option maxHeartbeats 4000000
namespace Go.AL
open Go.RowKit
def sY:Value→Value→Bool
 | .int k n,.int k' n'=>decide (k=k')&&decide (n=n')
 | .bool a,.bool b=>decide (a=b)
 | .string s,.string s'=>decide (s=s')
 | .nilIface,.nilIface=>true
 | .nilFunc,.nilFunc=>true
 | .pointer none,.pointer none=>true
 | .map none,.map none=>true
 |_,_=>false
theorem jZ {a b:Value} (h:sY a b=true):a=b:=by
 unfold sY at h
 split at h<;>simp_all
def pF:TypeDesc→Value→Bool
 | .bool,.bool _=>true
 | .int k,.int k' _=>decide (k'=k)
 | .string,.string _=>true
 |_,_=>false
theorem uM {d:TypeDesc} {v:Value} (h:pF d v=true):MapKept.IsKey d v:=by
 unfold pF at h
 split at h
 ·trivial
 ·rename_i k k' n
  exact (of_decide_eq_true h:k'=k)
 ·trivial
 ·cases h
def vV (k:Value):List (Value×PV)→Nat→Option (Nat×PV)
 | [],_=>none
 |x::xs,i=>if sY k x.1 then some (i,x.2) else vV k xs (i+1)
theorem gB {d:TypeDesc} {a b:Value} (ha:MapKept.IsKey d a) (hb:MapKept.IsKey d b):Instr.sameNow d a b=some (sY a b):=by
 cases d<;>cases a<;>cases b<;>simp_all [MapKept.IsKey,Instr.sameNow,sY]
 ·rw [Bool.eq_iff_iff];simp
 ·rw [Bool.eq_iff_iff,beq_iff_eq,decide_eq_true_iff]
 ·rw [Bool.eq_iff_iff,MapKept.bytes_beq,decide_eq_true_iff]
theorem qR {d:TypeDesc} {k:Value} (hk:MapKept.IsKey d k): ∀ (es:List (Value×PV)) (l:List MapEntry) (i:Nat),l.length=es.length→(∀ (j:Nat) (e:MapEntry) (q:Value×PV),l[j]? =some e→es[j]? =some q→e.key=q.1)→
  (∀ q∈es,pF d q.1=true)→
  (vV k es i=none∧Instr.findNow d k l i=some none∧ ∀ q∈es,sY k q.1=false)∨ ∃ (j:Nat) (q:Value×PV) (e:MapEntry),vV k es i=some (i+j,q.2)∧es[j]? =some q∧l[j]? =some e∧Instr.findNow d k l i=some (some (i+j,e.val))∧e.key=k:=by
 intro es
 induction es with
 |nil=>
  intro l i hl _ _
  have:l=[]:=List.eq_nil_of_length_eq_zero (by simpa using hl)
  subst this
  exact .inl ⟨rfl,rfl,by simp⟩
 | cons q es ih=>
  intro l i hl hk' hd
  cases l with
  |nil=>simp at hl
  | cons e l=>
   have h0:=hk' 0 e q rfl rfl
   have hs:=gB hk (uM (hd q (List.mem_cons_self ..)))
   rw [←h0] at hs
   simp only [vV,Instr.findNow,hs]
   cases hv:sY k e.key with
   |true=>
    refine .inr ⟨0,q,e,?_,rfl,rfl,rfl,(jZ hv).symm⟩
    rw [←h0,hv];rfl
   | false=>
    rw [←h0,hv]
    simp only [Bool.false_eq_true,if_false]
    rcases ih l (i+1) (by simpa using hl) (fun j e q h1 h2=>hk' (j+1) e q (by simpa using h1) (by simpa using h2)) (fun q hq=>hd q (List.mem_cons_of_mem _ hq)) with ⟨a,b,c⟩|⟨j,q',e',a,b,c,d',f⟩
    ·refine .inl ⟨a,b,fun q' hq'=> ?_⟩
     rcases List.mem_cons.1 hq' with rfl|hq'
     ·rw [←h0];exact hv
     ·exact c q' hq'
    ·exact .inr ⟨j+1,q',e',by rw [a];congr 2;omega,by simpa using b,by simpa using c,by rw [d'];congr 3;omega,f⟩
def kC (P:Program) (t:TypeId):Option (TypeId×TypeDesc×TypeId):=match P.underlying t with
 |some (.map k e)=>(P.underlying k).map fun d=>(k,d,e)
 |_=>none
theorem pX {P:Program} {t k e:TypeId} {d:TypeDesc} (h:kC P t=some (k,d,e)):P.underlying t=some (.map k e)∧P.underlying k=some d:=by
 unfold kC at h
 split at h
 ·rename_i k' e' hu
  cases hd:P.underlying k' with
  |none=>rw [hd] at h;cases h
  |some d'=>rw [hd] at h;cases h;exact ⟨hu,hd⟩
 ·cases h
def oS (h:Heap):PV→Option (List (Value×PV))
 | .mp r=>match h[r]? with
  |some (.map es)=>some es
  |_=>none
 | .sc (.map none)=>some []
 |_=>none
def xQ {α:Type} [CK α] (P:Program) (h:Heap) (t:TypeId) (ok:Bool) (m:PV):PV→Option (PV×α)
 | .sc kv=>match kC P t with
  | some (_,d,e)=>match oS h m,(P.info? e).bind (·.zero) with
   | some es,some z=>if pF d kv&&es.all (fun x=>pF d x.1) then
     match vV kv es 0 with
     |some (_,p)=>some (if ok then .tup [p,.sc (.bool true)] else p,CK.cnd True)
     |none=>some (if ok then .tup [nI z,.sc (.bool false)] else nI z,CK.cnd True)
    else none
   |_,_=>none
  |none=>none
 |_=>none
section
variable {P:Program} {S:St}
theorem lO {t:TypeId} {z:Value} (h:(P.info? t).bind (·.zero)=some z) (w:World):(zeroValue t).run P w= .ok z w:=by
 cases hi:P.info? t with
 |none=>rw [hi] at h;cases h
 |some i=>
  rw [hi] at h
  simp only [Option.bind_some] at h
  simp [zeroValue,typeInfo,hi,h]
theorem zaB (hS:SRel S) {t:TypeId} {ok:Bool} {m k p:PV} {c:Prop} {u v:Value} (he:xQ P S.h t ok m k=some (p,c)) (hu:VRel S m u) (hv:VRel S k v):
  ∃ z,(Instr.lookup t u v ok).run P S.w= .ok z S.w∧VRel S p z:=by
 unfold xQ at he
 split at he
 case h_2=>cases he
 rename_i kv
 have hkv:v=kv:=by cases hv;rfl
 subst hkv
 split at he
 case h_2=>cases he
 rename_i kt d e ht
 obtain ⟨h1,h2⟩:=pX ht
 split at he
 case h_2=>cases he
 rename_i es z hes hz
 split at he
 case isFalse=>cases he
 rename_i hkb
 rw [Bool.and_eq_true,List.all_eq_true] at hkb
 have fin: ∀ (l:List MapEntry) (x:Value),(x= .map none∧l=[]∨ ∃ b cl ar,x= .map (some b)∧S.w.heap[b]? =some (.map ar cl)∧ar.toList=l)→u=x→l.length=es.length→
   (∀ (j:Nat) (e:MapEntry) (q:Value×PV),l[j]? =some e→es[j]? =some q→e.key=q.1∧VRel S q.2 e.val)→ ∃ z,(Instr.lookup t u v ok).run P S.w= .ok z S.w∧VRel S p z:=by
  rintro l x hx rfl hl hrel
  have run: ∀ r,Instr.findNow d v l 0=some r→(Instr.lookup t u v ok).run P S.w=(match r with
    |some (_,y)=> .ok (if ok then .tuple #[y,.bool true] else y) S.w
    |none=> .ok (if ok then .tuple #[z,.bool false] else z) S.w):=by
   intro r hr
   rcases hx with ⟨rfl,rfl⟩|⟨b,cl,ar,rfl,hb,rfl⟩
   ·simp only [Instr.lookup,Sem.run_bind,run_underlying h1,Result.andThen_ok,Sem.run_pure,MapKept.run_checkKey h2 (uM hkb.1) _ 9999,MapKept.run_findKey h2 hr]
    cases r with
    |none=>simp [lO hz,Result.andThen]
    |some y=>simp [Result.andThen]
   ·simp only [Instr.lookup,Sem.run_bind,run_underlying h1,Result.andThen_ok,Sem.run_pure,MapKept.run_getObj_map hb,MapKept.run_checkKey h2 (uM hkb.1) _ 9999,MapKept.run_findKey h2 hr]
    cases r with
    |none=>simp [lO hz,Result.andThen]
    |some y=>simp [Result.andThen]
  rcases qR (uM hkb.1) es l 0 hl (fun j e q a b=>(hrel j e q a b).1) (fun q hq=>hkb.2 q hq) with ⟨a,b,_⟩|⟨j,q,e',a,b,c',d',_⟩
  ·rw [a] at he
   refine ⟨_,run _ b,?_⟩
   simp only [Option.some.injEq,Prod.mk.injEq] at he
   obtain ⟨rfl,_⟩:=he
   cases ok
   ·exact sN S z
   ·refine .tup rfl fun i p y hp hy=> ?_
    match i with
    |0=>simp at hp hy;subst hp;subst hy;exact sN S z
    |1=>simp at hp hy;subst hp;subst hy;exact .sc trivial
    |i+2=>simp at hp
  ·rw [a] at he
   refine ⟨_,run _ d',?_⟩
   simp only [Option.some.injEq,Prod.mk.injEq] at he
   obtain ⟨rfl,_⟩:=he
   have hq:=(hrel j e' q c' b).2
   cases ok
   ·exact hq
   ·refine .tup rfl fun i p y hp hy=> ?_
    match i with
    |0=>simp at hp hy;subst hp;subst hy;exact hq
    |1=>simp at hp hy;subst hp;subst hy;exact .sc trivial
    |i+2=>simp at hp
 unfold oS at hes
 split at hes
 ·rename_i r
  split at hes
  ·rename_i es' hb
   cases hes
   cases hu with
   |mp hp hb'=>
    obtain ⟨b',cl,ar,he',hh,hsz,_,hrel⟩:=hS.blks r _ _ hb hp
    cases he'
    exact fin ar.toList _ (.inr ⟨_,cl,ar,rfl,hh,rfl⟩) rfl (by simpa using hsz) (fun j e q hj hq=>hrel j e q (by simpa using hj) hq)
  ·cases hes
 ·cases hes
  cases hu
  exact fin [] _ (.inl ⟨rfl,rfl⟩) rfl rfl (by simp)
 ·cases hes
def zcT (P:Program) (t:TypeId) (cs:List PV) (off:Nat):Option PV:=
 match xL P t,dD P t with
 |some s,some true=>if off+s≤cs.length then some (.agg ((cs.drop off).take s)) else none
 |some _,some false=>if off<cs.length then some (cs.getD off .un) else none
 |_,_=>none
def znN (P:Program) (r:TypeId→PV→PV→Option Bool):List Field→List PV→List PV→Option Bool
 | [],_,_=>some true
 | f::fs,xs,ys=>if f.name= "_" then none else match zcT P f.type xs f.offset,zcT P f.type ys f.offset with
  |some p,some q=>match r f.type p q,znN P r fs xs ys with
   |some b,some b'=>some (b&&b')
   |_,_=>none
  |_,_=>none
def zeW (P:Program):Nat→TypeId→PV→PV→Option Bool
 |0,_,_,_=>none
 |n+1,t,p,q=>match P.underlying t,p,q with
  |some .bool,.sc (.bool a),.sc (.bool b)=>some (a==b)
  |some (.int _),.sc (.int k a),.sc (.int k' b)=>if k=k' then some (a==b) else none
  |some .string,.sc (.string a),.sc (.string b)=>some (decide (a=b))
  |some (.struct fs),.agg xs,.agg ys=>if P.stoodInHeld t then none else znN P (zeW P n) fs.toList xs ys
  |_,_,_=>none
theorem bO {t:TypeId} {cs:List PV} {vs:Array Value} {off:Nat} {p:PV} (hl:vs.size=cs.length) (h1: ∀ (i:Nat) (u:Value),vs[i]? =some u→u.oneCell'=true)
  (h: ∀ (i:Nat) (p:PV) (u:Value),cs[i]? =some p→vs[i]? =some u→VRel S p u) (he:zcT P t cs off=some p): ∃ v,(part t vs off).run P S.w= .ok v S.w∧VRel S p v:=by
 unfold zcT at he
 split at he
 ·rename_i s hs hg
  split at he
  ·rename_i hle
   cases he
   exact lA (c:=off+s≤cs.length) hl h1 h (by rw [hs,hg]) hle
  ·cases he
 ·rename_i s hs hg
  split at he
  ·rename_i hle
   cases he
   exact lA (c:=off<cs.length) hl h1 h (by rw [hs,hg]) hle
  ·cases he
 ·cases he
theorem zkT: ∀ (n:Nat) (t:TypeId) (p q:PV) (b:Bool) (x y:Value) (m:Nat),zeW P n t p q=some b→n≤m→VRel S p x→VRel S q y→(Op.equalIn m t x y).run P S.w= .ok b S.w:=by
 intro n
 induction n with
 |zero=>intro t p q b x y m h;cases h
 | succ n ih=>
  intro t p q b x y m h hm hx hy
  obtain ⟨m,rfl⟩: ∃ m',m=m'+1:=⟨m-1,by omega⟩
  simp only [zeW] at h
  split at h
  ·rename_i a c hu
   cases h;cases hx;cases hy
   exact run_equalIn_bool' S.w m t a c hu
  ·rename_i kk k a k' c hu
   split at h
   ·rename_i hk
    subst hk
    cases h;cases hx;cases hy
    exact run_equalIn_int S.w m t k kk a c hu
   ·cases h
  ·rename_i a c hu
   cases h;cases hx;cases hy
   rw [run_equalIn_string S.w m t a c hu,nM]
  ·rename_i fs xs ys hu
   split at h
   ·cases h
   ·rename_i hst
    have hf:P.fieldsOf t=fs:=by simp [Program.fieldsOf,hu]
    cases hx with|agg hxl hx1 hxr=>
    cases hy with|agg hyl hy1 hyr=>
    rename_i us vs
    rw [run_equalIn_struct S.w m t us vs (by rw [hf];exact hu) (by simpa using hst),hf]
    generalize fs.toList=fl at h
    clear hu hf
    induction fl generalizing b with
    |nil=>cases h;rfl
    | cons f fl ihf=>
     simp only [znN] at h
     split at h
     ·cases h
     ·rename_i hn
      split at h
      ·rename_i p' q' hp' hq'
       split at h
       ·rename_i b1 b2 hb1 hb2
        cases h
        obtain ⟨x',hx',rx⟩:=bO hxl hx1 hxr hp'
        obtain ⟨y',hy',ry⟩:=bO hyl hy1 hyr hq'
        have:=ih f.type p' q' b1 x' y' m hb1 (by omega) rx ry
        simp only [Op.eqFields,hn,ne_eq,not_false_eq_true,if_true,Sem.run_bind,hx',hy',this,Result.andThen_ok]
        cases b1 with
        |true=>simpa using ihf b2 hb2
        |false=>simp
       ·cases h
      ·cases h
  ·cases h
def zeS (P:Program) (t:TypeId):Bool:=match P.underlying t with|some (.pointer _)=>true|_=>false
def bV (P:Program) (t:TypeId):Bool:=match P.underlying t with|some (.func ..)=>true|_=>false
def zcP (P:Program) (t:TypeId):Bool:=match P.underlying t with|some (.map ..)=>true|_=>false
def tifc (P:Program) (t:TypeId):Bool:=match P.underlying t with|some (.interface _)=>true|_=>false
def sE {α:Type} [CK α] (P:Program) (t:TypeId) (p q:PV):Option (Bool×α):=
 match p,q with
 | .nil,.nil=>if (wX P t).isSome then some (true,CK.cnd True) else none
 | .ts _ els,.nil=>if (wX P t).isSome then some (false,CK.cnd (0<els.length)) else none
 | .tc _ els,.nil=>if (wX P t).isSome then some (false,CK.cnd (0<els.length)) else none
 | .vec _ _ els,.nil=>if (wX P t).isSome then some (false,CK.cnd (0<els.length)) else none
 | .ms ..,.nil=>if (wX P t).isSome then some (false,CK.cnd True) else none
 | .ptr ..,.sc (.pointer none)=>if zeS P t then some (false,CK.cnd True) else none
 | .tp ..,.sc (.pointer none)=>if zeS P t then some (false,CK.cnd True) else none
 | .sc (.pointer none),.sc (.pointer none)=>if zeS P t then some (true,CK.cnd True) else none
 | .fn ..,.sc .nilFunc=>if bV P t then some (false,CK.cnd True) else none
 | .sc .nilFunc,.sc .nilFunc=>if bV P t then some (true,CK.cnd True) else none
 | .mp ..,.sc (.map none)=>if zcP P t then some (false,CK.cnd True) else none
 | .sc (.map none),.sc (.map none)=>if zcP P t then some (true,CK.cnd True) else none
 | .ifc ..,.sc .nilIface=>if tifc P t then some (false,CK.cnd True) else none
 | .agg xs,.agg ys=>if P.eqGuardType P.depth t then none else (zeW P 20 t (.agg xs) (.agg ys)).map fun b=>(b,CK.cnd True)
 |_,_=>none
theorem mB {t:TypeId} {x y:Value} {b:Bool} (h:(Op.equalIn 10000 t x y).run P S.w= .ok b S.w) (h1: ∀ k a,x≠ .int k a) (h2: ∀ k a,x≠ .float k a) (h3: ∀ k a a',x≠ .complex k a a') (h4: ∀ a,x≠ .string a):
  (binOp .eql t x y).run P S.w= .ok (.bool b) S.w∧(binOp .neq t x y).run P S.w= .ok (.bool !b) S.w:=by
 have e1:(Op.equal t x y).run P S.w= .ok b S.w:=h
 cases x<;>first
  |exact absurd rfl (h1 _ _)
  |exact absurd rfl (h2 _ _)
  |exact absurd rfl (h3 _ _ _)
  |exact absurd rfl (h4 _)
  |exact ⟨by simp only [binOp,Sem.run_bind,e1,Result.andThen_ok,Sem.run_pure],by simp only [binOp,Sem.run_bind,e1,Result.andThen_ok,Sem.run_pure]⟩
theorem mA {op:BinOp} {t:TypeId} {x y:Operand} {u v:Value} (h1: ∀ vs,u≠ .agg vs) (h2:v≠ .nilIface∨u≠ .nilIface):(eqGuard op t x y u v).run P S.w= .ok () S.w:=by
 cases op<;>first
  |rfl
  | (cases u<;>first
    |exact absurd rfl (h1 _)
    |rfl
    | (cases v<;>first
      |rfl
      |(rcases h2 with h2|h2<;>exact absurd rfl h2)))
theorem zcE {t:TypeId} {p q:PV} {b:Bool} {c:Prop} {x y:Operand} {u v:Value} (he:sE P t p q=some (b,c)) (hc:c) (hu:VRel S p u) (hv:VRel S q v):
  ((do eqGuard .eql t x y u v;binOp .eql t u v:Sem Value)).run P S.w= .ok (.bool b) S.w∧((do eqGuard .neq t x y u v;binOp .neq t u v:Sem Value)).run P S.w= .ok (.bool !b) S.w:=by
 have tsl:(wX P t).isSome=true→ ∃ e,P.underlying t=some (.slice e):=fun h=>by
  obtain ⟨e,he⟩:=Option.isSome_iff_exists.1 h
  exact ⟨e,tS he⟩
 have fin:(∀ d,(Op.equalIn (d+1) t u v).run P S.w= .ok b S.w)→(∀ k a,u≠ .int k a)→(∀ k a,u≠ .float k a)→(∀ k a a',u≠ .complex k a a')→(∀ a,u≠ .string a)→(∀ vs,u≠ .agg vs)→(v≠ .nilIface∨u≠ .nilIface)→
   ((do eqGuard .eql t x y u v;binOp .eql t u v:Sem Value)).run P S.w= .ok (.bool b) S.w∧((do eqGuard .neq t x y u v;binOp .neq t u v:Sem Value)).run P S.w= .ok (.bool !b) S.w:=by
  intro h a1 a2 a3 a4 a5 a6
  obtain ⟨e1,e2⟩:=mB (P:=P) (S:=S) (t:=t) (h 9999) a1 a2 a3 a4
  simp only [Sem.run_bind,mA a5 a6,Result.andThen_ok,e1,e2,and_self]
 have sl: ∀ (a a':Option Addr) (n m n' m':Nat),(wX P t).isSome=true→u= .slice a n m→v= .slice a' n' m'→a'=none→b=a.isNone→
   ((do eqGuard .eql t x y u v;binOp .eql t u v:Sem Value)).run P S.w= .ok (.bool b) S.w∧((do eqGuard .neq t x y u v;binOp .neq t u v:Sem Value)).run P S.w= .ok (.bool !b) S.w:=by
  rintro a a' n m n' m' ht rfl rfl rfl rfl
  obtain ⟨e,hte⟩:=tsl ht
  refine fin (fun d=> ?_) (by simp) (by simp) (by simp) (by simp) (by simp) (.inl (by simp))
  cases a<;>simp only [Op.equalIn,Sem.run_bind,run_underlying hte,Result.andThen_ok,Sem.run_pure,Option.isNone]
 have tsu: ∀ {k:Nat} {els:List (List PV)} {z:Value},VRel S (.ts k els) z→0<els.length→ ∃ a n m,z= .slice (some a) n m:=by
  intro k els z h hl
  cases h with
  |ts hl' hc hm hk ad ha val hv h=>exact ⟨ad,_,_,by rw [ha (by omega)]⟩
 unfold sE at he
 split at he
 ·split at he
  ·rename_i ht;cases he;cases hu;cases hv;exact sl _ _ _ _ _ _ ht rfl rfl rfl rfl
  ·cases he
 ·split at he
  ·rename_i ht;cases he;cases hv;obtain ⟨a,n,m,rfl⟩:=tsu hu hc;exact sl _ _ _ _ _ _ ht rfl rfl rfl rfl
  ·cases he
 ·split at he
  ·rename_i ht;cases he;cases hv;cases hu with|tc hu=>obtain ⟨a,n,m,h⟩:=tsu hu hc;exact sl _ _ _ _ _ _ ht h rfl rfl rfl
  ·cases he
 ·split at he
  ·rename_i ht;cases he;cases hv;cases hu with|vec hu=>obtain ⟨a,n,m,h⟩:=tsu hu hc;exact sl _ _ _ _ _ _ ht h rfl rfl rfl
  ·cases he
 ·split at he
  ·rename_i ht;cases he;cases hv;cases hu<;>exact sl _ _ _ _ _ _ ht rfl rfl rfl rfl
  ·cases he
 ·split at he
  ·rename_i ht
   cases he;cases hv
   unfold zeS at ht
   split at ht
   ·rename_i e hu';cases hu<;>exact fin (fun d=>by simp only [Op.equalIn,Sem.run_bind,run_underlying hu',Result.andThen_ok,Sem.run_pure,Option.isNone]) (by simp) (by simp) (by simp) (by simp) (by simp) (.inr (by simp))
   ·cases ht
  ·cases he
 ·split at he
  ·rename_i ht
   cases he;cases hv
   unfold zeS at ht
   split at ht
   ·rename_i e hu';cases hu with|tp=>exact fin (fun d=>by simp only [Op.equalIn,Sem.run_bind,run_underlying hu',Result.andThen_ok,Sem.run_pure,Option.isNone]) (by simp) (by simp) (by simp) (by simp) (by simp) (.inr (by simp))
   ·cases ht
  ·cases he
 ·split at he
  ·rename_i ht
   cases he;cases hv;cases hu
   unfold zeS at ht
   split at ht
   ·rename_i e hu';exact fin (fun d=>by simp only [Op.equalIn,Sem.run_bind,run_underlying hu',Result.andThen_ok,Sem.run_pure,Option.isNone]) (by simp) (by simp) (by simp) (by simp) (by simp) (.inr (by simp))
   ·cases ht
  ·cases he
 ·split at he
  ·rename_i ht
   cases he;cases hv
   unfold bV at ht
   split at ht
   ·rename_i hu';cases hu with|fn=>exact fin (fun d=>by simp only [Op.equalIn,Sem.run_bind,run_underlying hu',Result.andThen_ok,Sem.run_pure,Option.isNone]) (by simp) (by simp) (by simp) (by simp) (by simp) (.inr (by simp))
   ·cases ht
  ·cases he
 ·split at he
  ·rename_i ht
   cases he;cases hv;cases hu
   unfold bV at ht
   split at ht
   ·rename_i hu';exact fin (fun d=>by simp only [Op.equalIn,Sem.run_bind,run_underlying hu',Result.andThen_ok,Sem.run_pure,Option.isNone]) (by simp) (by simp) (by simp) (by simp) (by simp) (.inr (by simp))
   ·cases ht
  ·cases he
 ·split at he
  ·rename_i ht
   cases he;cases hv
   unfold zcP at ht
   split at ht
   ·rename_i hu';cases hu with|mp=>exact fin (fun d=>by simp only [Op.equalIn,Sem.run_bind,run_underlying hu',Result.andThen_ok,Sem.run_pure,Option.isNone]) (by simp) (by simp) (by simp) (by simp) (by simp) (.inr (by simp))
   ·cases ht
  ·cases he
 ·split at he
  ·rename_i ht
   cases he;cases hv;cases hu
   unfold zcP at ht
   split at ht
   ·rename_i hu';exact fin (fun d=>by simp only [Op.equalIn,Sem.run_bind,run_underlying hu',Result.andThen_ok,Sem.run_pure,Option.isNone]) (by simp) (by simp) (by simp) (by simp) (by simp) (.inr (by simp))
   ·cases ht
  ·cases he
 ·split at he
  ·rename_i ht
   cases he;cases hv
   unfold tifc at ht
   split at ht
   ·rename_i hu';cases hu with|ifc=>exact fin (fun d=>by simp only [Op.equalIn,Sem.run_bind,run_underlying hu',Result.andThen_ok,Sem.run_pure,Option.isNone]) (by simp) (by simp) (by simp) (by simp) (by simp) (.inr (by simp))
   ·cases ht
  ·cases he
 ·rename_i xs ys
  split at he
  ·cases he
  ·rename_i hg
   cases hq:zeW P 20 t (.agg xs) (.agg ys) with
   |none=>rw [hq] at he;cases he
   |some b'=>
    rw [hq] at he
    cases he
    have h1:=zkT 20 t _ _ _ u v 10000 hq (by omega) hu hv
    cases hu with|agg=>
    cases hv with|agg=>
    have hg':P.eqGuardType P.depth t=false:=by simpa using hg
    simp only [Sem.run_bind,run_eqGuard_agg S.w _ t _ _ _ _ hg',Result.andThen_ok,run_eql_struct,run_neq_struct,h1,and_self]
 ·cases he
end
end Go.AL
namespace Go.AL
open Go.RowKit
def rA {α:Type} [CK α] (P:Program) (h:Heap) (f:Operand→PV):Op→Option (PV×α)
 | .binOp .eql t x y _=>match sE P t (f x) (f y) with
  |some (b,c)=>some (.sc (.bool b),c)
  |none=>none
 | .binOp .neq t x y _=>match sE P t (f x) (f y) with
  |some (b,c)=>some (.sc (.bool !b),c)
  |none=>none
 | .binOp .add _ x y _=>match f x,f y with
  | .sc (.string a),.sc (.string b)=>some (.sc (.string (a++b)),CK.cnd (a.size+b.size≤maxLen))
  |_,_=>none
 | .lookup t m k ok=>xQ P h t ok (f m) (f k)
 | .slice t x lo hi mx=>match wX P t,f x with
  | some e,.nil=>if (xL P e).isSome then
    match mx with
    | none=>match yV (hi.map f) 0 0 with
     |some (b,c)=>match yV (lo.map f) b 0 with
      |some (_,c')=>some (.nil,CK.both (CK.cnd (b=0)) (CK.both c c'))
      |none=>none
     |none=>none
    | some m=>match yV (some (f m)) 0 0 with
     | some (d,c0)=>match yV (hi.map f) d d with
      |some (b,c)=>match yV (lo.map f) b 0 with
       |some (_,c')=>some (.nil,CK.both (CK.cnd (hi.isSome∧d=0)) (CK.both c0 (CK.both c c')))
       |none=>none
      |none=>none
     |none=>none
   else none
  |_,_=>none
 |_=>none
def wO {α:Type} [CK α] (P:Program) (h:Heap) (f:Operand→PV) (op:Op):Option (PV×α):=
 match yI P h f op with
 |some r=>some r
 |none=>rA P h f op
section
variable {P:Program} {S:St}
theorem zgL {ρ:Operand→Value} {f:Operand→PV} {o:Oper} {p:PV} {c:Prop} (hS:SRel S) (hx: ∀ x∈o.op.operands,VRel S (f x) (ρ x))
  (he:rA P S.h f o.op=some (p,c)) (hc:c): ∃ v,(execOp ρ o).run P S.w= .ok (.value v) S.w∧VRel S p v:=by
 have fin: ∀ {s:Sem Value},(∃ z,s.run P S.w= .ok z S.w∧VRel S p z)→ ∃ v,Sem.run P (do pure (.value (←s)):Sem Next) S.w= .ok (.value v) S.w∧VRel S p v:=fun ⟨z,hz,hr⟩=>⟨z,by simp only [Sem.run_bind,hz,Result.andThen_ok,Sem.run_pure],hr⟩
 unfold execOp
 unfold rA at he
 split at he
 ·rename_i t x y _ hop
  rw [hop] at hx
  rw [hop]
  split at he
  ·rename_i b c' hb
   cases he
   exact fin ⟨_,(zcE (x:=x) (y:=y) hb hc (hx x (by simp [Op.operands])) (hx y (by simp [Op.operands]))).1,.sc trivial⟩
  ·cases he
 ·rename_i t x y _ hop
  rw [hop] at hx
  rw [hop]
  split at he
  ·rename_i b c' hb
   cases he
   exact fin ⟨_,(zcE (x:=x) (y:=y) hb hc (hx x (by simp [Op.operands])) (hx y (by simp [Op.operands]))).2,.sc trivial⟩
  ·cases he
 ·rename_i t x y _ hop
  rw [hop] at hx
  rw [hop]
  have h1:=hx x (by simp [Op.operands])
  have h2:=hx y (by simp [Op.operands])
  split at he
  ·rename_i a b ha hb
   cases he
   rw [ha] at h1
   rw [hb] at h2
   simp only [vL] at hc
   refine fin ⟨.string (a++b),?_,.sc ?_⟩
   ·generalize ρ x=u at h1
    generalize ρ y=v at h2
    cases h1;cases h2
    have: ¬((a.size+b.size:Nat):Int)>IntKind.i64.max:=by
     have:(maxLen:Int)≤IntKind.i64.max:=by decide
     omega
    simp only [eqGuard,binOp,Op.stringOp,if_neg this]
    rfl
   ·show (a++b).size≤maxLen
    rw [ByteArray.size_append];exact hc
  ·cases he
 ·rename_i t m k ok hop
  rw [hop] at hx
  rw [hop]
  exact fin (zaB hS he (hx m (by simp [Op.operands])) (hx k (by simp [Op.operands])))
 ·rename_i t x lo hi mx hop
  rw [hop] at hx
  rw [hop]
  split at he
  case h_2=>cases he
  rename_i e hte hfx
  split at he
  case isFalse=>cases he
  rename_i hsz
  obtain ⟨k,hk⟩:=Option.isSome_iff_exists.1 hsz
  have hxx:=hx x (by simp [Op.operands])
  rw [hfx] at hxx
  have hu:P.underlying t=some (.slice e):=tS hte
  have hxe:ρ x= .slice none 0 0:=by generalize ρ x=u at hxx;cases hxx;rfl
  have ol:ORel S (lo.map f) (lo.map ρ):=rS fun o ho=>hx o (by subst ho;simp [Op.operands])
  have oh:ORel S (hi.map f) (hi.map ρ):=rS fun o ho=>hx o (by subst ho;simp [Op.operands])
  cases mx with
  | none=>
   simp only [] at he
   split at he
   ·rename_i b c1 hb
    split at he
    ·rename_i a c2 ha
     cases he
     simp only [vL,wE] at hc
     obtain ⟨rfl,hc1,hc2⟩:=hc
     obtain ⟨e1,e2,e3⟩:=pU (P:=P) (S:=S) (isS:=true) (Nat.le_refl 0) hb ha hc1 hc2 oh ol
     have:a=0:=by omega
     subst this
     exact fin ⟨.slice none 0 0,by simp [Instr.sliceAt,Instr.slice,run_underlying hu,hxe,e1,zV hk],.nil⟩
    ·cases he
   ·cases he
  | some m=>
   simp only [] at he
   have om:=hx m (by simp [Op.operands])
   split at he
   ·rename_i d c0 hd
    split at he
    ·rename_i b c1 hb
     split at he
     ·rename_i a c2 ha
      cases he
      simp only [vL,wE] at hc
      obtain ⟨⟨hhi,rfl⟩,hc0,hc1,hc2⟩:=hc
      obtain ⟨e1,e2,e3,e4⟩:=lX (P:=P) (S:=S) (Nat.le_refl 0) hd hb ha hc0 hc1 hc2 om oh ol (by simpa using hhi)
      have:a=0:=by omega
      subst this
      have:b=0:=by omega
      subst this
      exact fin ⟨.slice none 0 0,by simp [Instr.sliceAt,Instr.slice,run_underlying hu,hxe,e1,zV hk],.nil⟩
     ·cases he
    ·cases he
   ·cases he
 ·cases he
theorem zgV {ρ:Operand→Value} {f:Operand→PV} {o:Oper} {p:PV} {c:Prop} (hS:SRel S) (hx: ∀ x∈o.op.operands,VRel S (f x) (ρ x))
  (he:wO P S.h f o.op=some (p,c)) (hc:c): ∃ v,(execOp ρ o).run P S.w= .ok (.value v) S.w∧VRel S p v:=by
 unfold wO at he
 split at he
 ·rename_i r hr
  cases he
  exact zeI hS hx hr hc
 ·exact zgL hS hx he hc
end
end Go.AL
namespace Go.AL
open Go.RowKit
def xD:PV→List PV
 | .agg cs=>cs
 |p=>[p]
def wI:PV→Bool
 | .un| .ud| .tup _=>false
 |_=>true
theorem jM {S:St} {p:PV} {v:Value} (h:wI p=true) (hv:VRel S p v):
  v.cells.size=(xD p).length∧(∀ (i:Nat) (u:Value),v.cells[i]? =some u→u.oneCell'=true)∧
   ∀ (i:Nat) (q:PV) (u:Value),(xD p)[i]? =some q→v.cells[i]? =some u→VRel S q u:=by
 have one: ∀ {p:PV} {v:Value},xD p=[p]→v.cells= #[v]→v.oneCell'=true→VRel S p v→
   v.cells.size=(xD p).length∧(∀ (i:Nat) (u:Value),v.cells[i]? =some u→u.oneCell'=true)∧
   ∀ (i:Nat) (q:PV) (u:Value),(xD p)[i]? =some q→v.cells[i]? =some u→VRel S q u:=by
  intro p v h1 h2 h3 h4
  rw [h1,h2]
  refine ⟨rfl,fun i u hu=> ?_,fun i q u hq hu=> ?_⟩
  ·cases i with
   |zero=>simp at hu;subst hu;exact h3
   |succ i=>simp at hu
  ·cases i with
   |zero=>simp at hu hq;subst hu;subst hq;exact h4
   |succ i=>simp at hu
 have hv':=hv
 cases hv with
 |un=>simp [wI] at h
 |ud=>simp [wI] at h
 |tup=>simp [wI] at h
 |agg hl h1 hc=>exact ⟨hl,h1,hc⟩
 |sc hs=>cases v<;>first|exact one rfl rfl rfl hv'|(simp [tJ] at hs)
 |nil=>exact one rfl rfl rfl hv'
 |ts=>exact one rfl rfl rfl hv'
 |tc=>exact one rfl rfl rfl hv'
 |vec ht=>cases ht;exact one rfl rfl rfl hv'
 |ms=>exact one rfl rfl rfl hv'
 |oms=>exact one rfl rfl rfl hv'
 |ptr=>exact one rfl rfl rfl hv'
 |optr=>exact one rfl rfl rfl hv'
 |tp=>exact one rfl rfl rfl hv'
 |fn=>exact one rfl rfl rfl hv'
 |ifc=>exact one rfl rfl rfl hv'
 |mp=>exact one rfl rfl rfl hv'
 |yl=>exact one rfl rfl rfl hv'
 |it=>exact one rfl rfl rfl hv'
theorem SRel.own_lt {S:St} (h:SRel S) {b:Nat} (ho:S.Own b):b<S.w.heap.size:=by
 obtain ⟨r,v,hp,hb⟩:=ho
 have hr:r<S.h.length:=by rw [←h.len];exact (gsi hp).1
 have hk:=h.blks r S.h[r] v (List.getElem?_eq_getElem hr) hp
 have lt: ∀ {n:Nat} {o:Obj},S.w.heap[n]? =some o→n<S.w.heap.size:=fun h=>(Array.getElem?_eq_some_iff.1 h).1
 cases hc:S.h[r] with
 |var t cs=>rw [hc] at hk;obtain ⟨b',arr,rfl,hh,_⟩:=hk;simp [sC] at hb;subst hb;exact lt hh
 |vec e k n=>
  rw [hc] at hk
  rcases hk with ⟨rfl,_⟩|⟨b',c,arr,rfl,hh,_⟩
  ·simp [sC] at hb
  ·simp [sC] at hb;subst hb;exact lt hh
 |map es=>rw [hc] at hk;obtain ⟨b',cl,en,rfl,hh,_⟩:=hk;simp [sC] at hb;subst hb;exact lt hh
 |loop ts ps as bd st pd=>rw [hc] at hk;obtain ⟨b',L,rfl,hh,_⟩:=hk;simp [sC] at hb;subst hb;exact lt hh
 |iter m k s=>rw [hc] at hk;obtain ⟨b',bm,rfl,hh,_⟩:=hk;simp [sC] at hb;subst hb;exact lt hh
 |siter s p=>rw [hc] at hk;obtain ⟨b',rfl,hh,_⟩:=hk;simp [sC] at hb;subst hb;exact lt hh
 |non=>rw [hc] at hk;rw [show sC v=none from hk] at hb;cases hb
 |old=>rw [hc] at hk;rw [show sC v=none from hk] at hb;cases hb
theorem wT {S:St} (hS:SRel S) (o:Obj):Ext S {S with w:=S.w.alloc o}:=by
 refine ⟨rfl,rfl,iN,rfl,by simp,fun b hb hn=>⟨hn,Below.heap_alloc _ _ _ hb⟩,fun a v hm=> ?_,fun r b hb=>⟨b,hb,Blk.le_refl b rfl⟩,fun b m ⟨arr,t,f,hr,hm⟩=>⟨arr,t,f,(Below.heap_alloc _ _ _ (Array.getElem?_eq_some_iff.1 hr).1).trans hr,hm⟩⟩
 obtain ⟨h1,h2,h3,h4,h5,h6⟩:=hm
 exact ⟨(World.cell?_alloc_lt _ _ _ h4).trans h1,h2,h3,by simp;omega,h5,h6⟩
theorem BRel.ext {S S':St} {b:Blk} {v:Value} (h:BRel S b v) (x:Ext S S') (hh: ∀ n,sC v=some n→S'.w.heap[n]? =S.w.heap[n]?):BRel S' b v:=by
 cases b with
 |var t cs=>
  obtain ⟨b',arr,rfl,h1,h2,h3,h4⟩:=h
  exact ⟨b',arr,rfl,(hh b' rfl).trans h1,h2,h3,fun i p u hp hu=>(h4 i p u hp hu).ext x⟩
 |vec e k n=>
  rcases h with h|⟨b',c,arr,rfl,h1,h2⟩
  ·exact .inl h
  ·exact .inr ⟨b',c,arr,rfl,(hh b' rfl).trans h1,h2⟩
 |map es=>
  obtain ⟨b',cl,en,rfl,h1,h2,h3,h4⟩:=h
  exact ⟨b',cl,en,rfl,(hh b' rfl).trans h1,h2,h3,fun i e q he hq=>⟨(h4 i e q he hq).1,(h4 i e q he hq).2.ext x⟩⟩
 |loop ts ps as bd st pd=>obtain ⟨b',L,rfl,h1,h2,h3,h4,h5,h6,h7,h8⟩:=h;exact ⟨b',L,rfl,(hh b' rfl).trans h1,h2,h3,h4,h5,h6,h7,fun i p hp=>(h8 i p hp).ext x⟩
 |iter m k s=>
  obtain ⟨b',bm,rfl,h1,h2⟩:=h
  refine ⟨b',bm,rfl,(hh b' rfl).trans h1,fun r hr=> ?_⟩
  obtain ⟨es,bk,g1,g2,g3⟩:=h2 r hr
  obtain ⟨c',hc',hl⟩:=x.blks _ _ g1
  cases c'<;>simp only [Blk.le] at hl
  exact ⟨_,bk,hc',hl.trans g2,g3⟩
 |siter s p=>obtain ⟨b',rfl,h1,h2⟩:=h;exact ⟨b',rfl,(hh b' rfl).trans h1,h2⟩
 |non=>exact h
 |old=>exact h
theorem nO {S:St} (hS:SRel S) (o:Obj):SRel {S with w:=S.w.alloc o}:=
 ⟨hS.len,fun r b v hb hv=>(hS.blks r b v hb hv).ext (wT hS o) fun n hn=>Below.heap_alloc _ _ _ (hS.own_lt ⟨r,v,hv,hn⟩),hS.inj,
  fun a ha=>by have:=hS.xlt a ha;simp;omega,hS.xown⟩
def St.push (S:St) (v:Value) (b:Blk):St:={S with φ:=S.φ++[v],h:=S.h++[b]}
theorem tZ {S S1:St} (x:Ext S S1) (hS:SRel S) (hl1:S1.φ=S.φ) (hh1:S1.h=S.h) (v:Value) (b:Blk) (hb: ∀ n,sC v=some n→S.w.heap.size≤n):Ext S (S1.push v b):=by
 refine ⟨x.x,x.os,x.tape,x.output,x.size,fun n hn ho=>⟨?_,(x.unt n hn ho).2⟩,fun a u hm=> ?_,fun r c hc=> ?_,x.rows⟩
 ·rintro ⟨r,u,hp,hu⟩
  simp only [St.push,hl1,List.getElem?_append] at hp
  split at hp
  ·exact ho ⟨r,u,hp,hu⟩
  ·rename_i hr
   have:u=v:=by
    cases hk:r-S.φ.length with
    |zero=>rw [hk] at hp;simpa using hp.symm
    |succ k=>rw [hk] at hp;simp at hp
   subst this
   have:=hb n hu
   omega
 ·obtain ⟨h1,h2,h3,h4,h5,h6⟩:=x.mem a u hm
  have hlt:=hm.2.2.2.1
  refine ⟨h1,h2,h3,h4,h5,fun r y hp hy=> ?_⟩
  simp only [St.push,List.getElem?_append] at hp ⊢
  split at hp
  ·obtain ⟨e,k,n,hh,ho⟩:=h6 r y hp hy
   have hr:r<S1.h.length:=(gsi hh).1
   exact ⟨e,k,n,by rw [if_pos hr];exact hh,ho⟩
  ·have:y=v:=by
    cases hk:r-S1.φ.length with
    |zero=>rw [hk] at hp;simpa using hp.symm
    |succ k=>rw [hk] at hp;simp at hp
   subst this
   have:=hb _ hy
   omega
 ·have hr:r<S.h.length:=(gsi hc).1
  refine ⟨c,?_,Blk.le_refl c ?_⟩
  ·simp only [St.push,hh1,List.getElem?_append,if_pos hr];exact hc
  ·have hr':r<S.φ.length:=by rw [hS.len];exact hr
   simp only [St.push,hl1,List.getElem?_append,if_pos hr']
theorem uP {S S1:St} {v:Value} {b:Blk} (hS:SRel S) (x:Ext S (S1.push v b)) (hφ:S1.φ=S.φ) (hh:S1.h=S.h) (hx:S1.x=S.x) (hw: ∀ n,n<S.w.heap.size→S1.w.heap[n]? =S.w.heap[n]?)
  (hnew:BRel (S1.push v b) b v) (hno: ∀ n,sC v=some n→S.w.heap.size≤n):SRel (S1.push v b):=by
 have last: ∀ {α:Type} {l:List α} {y z:α} {r:Nat}, ¬r<l.length→(l++[y])[r]? =some z→r=l.length∧z=y:=by
  intro α l y z r hr h
  rw [List.getElem?_append,if_neg hr] at h
  cases hk:r-l.length with
  |zero=>rw [hk] at h;simp at h;exact ⟨by omega,h.symm⟩
  |succ k=>rw [hk] at h;simp at h
 refine ⟨by simp [St.push,hφ,hh,hS.len],fun r c u hb hvv=> ?_,fun r r' u u' n hp hp' hn hn'=> ?_,fun a ha=> ?_,fun a ha r u hp=> ?_⟩
 ·simp only [St.push,hφ,hh] at hb hvv
  by_cases hr:r<S.h.length
  ·rw [List.getElem?_append,if_pos hr] at hb
   rw [List.getElem?_append,if_pos (by rw [hS.len];exact hr)] at hvv
   exact (hS.blks r c u hb hvv).ext x fun n hn=>hw n (hS.own_lt ⟨r,u,hvv,hn⟩)
  ·obtain ⟨_,rfl⟩:=last hr hb
   obtain ⟨_,rfl⟩:=last (by rw [hS.len];exact hr) hvv
   exact hnew
 ·simp only [St.push,hφ] at hp hp'
  have key: ∀ (r:Nat) (u:Value),(S.φ++[v])[r]? =some u→sC u=some n→(r<S.φ.length∧S.φ[r]? =some u∧n<S.w.heap.size)∨(r=S.φ.length∧S.w.heap.size≤n):=by
   intro r u hp hn
   by_cases hr:r<S.φ.length
   ·rw [List.getElem?_append,if_pos hr] at hp
    exact .inl ⟨hr,hp,hS.own_lt ⟨r,u,hp,hn⟩⟩
   ·obtain ⟨h1,rfl⟩:=last hr hp
    exact .inr ⟨h1,hno n hn⟩
  rcases key r u hp hn with ⟨a,b,c⟩|⟨a,b⟩<;>rcases key r' u' hp' hn' with ⟨a',b',c'⟩|⟨a',b'⟩
  ·exact hS.inj r r' u u' n b b' hn hn'
  ·omega
  ·omega
  ·omega
 ·have:=hS.xlt a (by simpa [St.push,hx] using ha)
  exact Nat.lt_of_lt_of_le this x.size
 ·have hxa:S.x a:=by simpa [St.push,hx] using ha
  simp only [St.push,hφ] at hp
  by_cases hr:r<S.φ.length
  ·rw [List.getElem?_append,if_pos hr] at hp
   exact hS.xown a hxa r u hp
  ·obtain ⟨_,rfl⟩:=last hr hp
   intro hb
   have h1:=hno _ hb
   have h2:=hS.xlt a hxa
   omega
theorem eN {S:St} (hS:SRel S) (t:TypeId) (cs:List PV) (vs:Array Value) (hl:vs.size=cs.length) (h1: ∀ (i:Nat) (u:Value),vs[i]? =some u→u.oneCell'=true)
  (hv: ∀ (i:Nat) (p:PV) (u:Value),cs[i]? =some p→vs[i]? =some u→VRel S p u):
  let S':=({S with w:=S.w.alloc (.cells vs t)}:St).push (.pointer (some ⟨S.w.heap.size,0,none⟩)) (.var t cs)
  Ext S S'∧SRel S'∧VRel S' (.ptr S.h.length 0) (.pointer (some ⟨S.w.heap.size,0,none⟩)):=by
 intro S'
 have x:Ext S S':=tZ (wT hS _) hS rfl rfl _ _ (by intro n hn;simp [sC] at hn;omega)
 refine ⟨x,uP hS x rfl rfl rfl (fun n hn=>Below.heap_alloc _ _ _ hn) ⟨S.w.heap.size,vs,rfl,heap_alloc_new _ _,Nat.le_of_eq hl.symm,h1,fun i p u hp hu=>(hv i p u hp hu).ext x⟩ (by intro n hn;simp [sC] at hn;omega),?_⟩
 ·refine .ptr (t:=t) (cs:=cs) ?_ ?_
  ·simp [S',St.push,hS.len]
  ·simp [S',St.push]
theorem eT {S:St} (hS:SRel S) {r b:Nat} {t:TypeId} {cs cs':List PV} {arr':Array Value} (hp:S.φ[r]? =some (.pointer (some ⟨b,0,none⟩))) (hb:S.h[r]? =some (.var t cs))
  (hl:cs'.length=cs.length) {w':World} (ho:w'.os=S.w.os) (ht:TapeLe S.w w') (hu:w'.output=S.w.output) (hs:w'.heap.size=S.w.heap.size) (hw: ∀ k,k≠b→w'.heap[k]? =S.w.heap[k]?) (hz: ∀ b m,S.Row b m→St.Row {S with w:=w'} b m):
  Ext S {S with h:=S.h.set r (.var t cs'),w:=w'}:=by
 have hr:r<S.h.length:=(gsi hb).1
 have hown: ∀ n, ¬S.Own n→n≠b:=fun n hn e=>hn ⟨r,_,hp,by subst e;rfl⟩
 refine ⟨rfl,ho,ht,hu,by simp only [];omega,fun n hn hno=>⟨hno,hw n (hown n hno)⟩,fun a v hm=> ?_,fun r' c hc=> ?_,hz⟩
 ·obtain ⟨h1,h2,h3,h4,h5,h6⟩:=hm
  have hab:a.block≠b:=fun e=>by
   obtain ⟨e',k,n,hh,_⟩:=h6 r _ hp (by simp [sC,e])
   rw [hb] at hh
   cases hh
  refine ⟨(World.cell?_of_block (hw _ hab)).trans h1,h2,h3,by simp only [];omega,h5,fun r' v' hp' hv'=> ?_⟩
  obtain ⟨e,k,n,hh,hlt⟩:=h6 r' v' hp' hv'
  refine ⟨e,k,n,?_,hlt⟩
  have:r≠r':=fun e=>by subst e;rw [hb] at hh;cases hh
  simp only [List.getElem?_set,if_neg this]
  exact hh
 ·by_cases e:r=r'
  ·subst e
   rw [hb] at hc
   cases hc
   refine ⟨.var t cs',by simp [hr],?_⟩
   simp [Blk.le,hl]
  ·exact ⟨c,by simp only [List.getElem?_set,if_neg e];exact hc,Blk.le_refl c rfl⟩
theorem cM {S:St} (hS:SRel S) {r b:Nat} {t:TypeId} {cs cs':List PV} {arr':Array Value} (hp:S.φ[r]? =some (.pointer (some ⟨b,0,none⟩))) (hb:S.h[r]? =some (.var t cs))
  (hl:cs'.length=cs.length) {w':World} (ho:w'.os=S.w.os) (ht:TapeLe S.w w') (hu:w'.output=S.w.output) (hs:w'.heap.size=S.w.heap.size) (hw: ∀ k,k≠b→w'.heap[k]? =S.w.heap[k]?) (hz: ∀ b m,S.Row b m→St.Row {S with w:=w'} b m)
  (hnew:w'.heap[b]? =some (.cells arr' t (0,0))) (hsz:cs'.length≤arr'.size) (h1: ∀ (i:Nat) (u:Value),arr'[i]? =some u→u.oneCell'=true)
  (hv: ∀ (i:Nat) (p:PV) (u:Value),cs'[i]? =some p→arr'[i]? =some u→VRel S p u):
  SRel {S with h:=S.h.set r (.var t cs'),w:=w'}:=by
 have x:=eT (arr':=arr') hS hp hb hl ho ht hu hs hw hz
 have hr:r<S.h.length:=(gsi hb).1
 refine ⟨by simp [hS.len],fun r' c v hc hvv=> ?_,hS.inj,fun a ha=>by have:=hS.xlt a ha;simp only [];omega,hS.xown⟩
 by_cases e:r=r'
 ·subst e
  simp only [List.getElem?_set,if_pos hr, ↓reduceIte] at hc
  cases hc
  rw [hp] at hvv
  cases hvv
  exact ⟨b,arr',rfl,hnew,hsz,h1,fun i p u hpp hu=>(hv i p u hpp hu).ext x⟩
 ·simp only [List.getElem?_set,if_neg e] at hc
  refine (hS.blks r' c v hc hvv).ext x fun n hn=>hw n fun en=> ?_
  subst en
  exact e (hS.inj r r' _ v n hp hvv rfl hn)
def splice (cs:List PV) (o:Nat) (ps:List PV):List PV:=cs.take o++ps++cs.drop (o+ps.length)
theorem lW {α:Type} (l:List α) (n:Nat) (vs:List α) (v:α) (h:n<l.length):
  (l.set n v).take (n+1)++vs++(l.set n v).drop (n+1+vs.length)=l.take n++v::vs++l.drop (n+(vs.length+1)):=by
 have e1:(l.set n v).take (n+1)=l.take n++[v]:=by
  rw [List.take_succ_eq_append_getElem (by simpa using h),List.take_set_of_le (Nat.le_refl n)]
  simp
 have e2:(l.set n v).drop (n+1+vs.length)=l.drop (n+(vs.length+1)):=by
  rw [List.drop_set_of_lt (by omega)]
  congr 1
  omega
 rw [e1,e2]
 simp
theorem nG (P:Program) (g:Nat) (e:TypeId): ∀ (vs:List Value) (o i:Nat) (cur:Array Value) (w:World),w.heap[g]? =some (.cells cur e (0,0))→o+i+vs.length≤cur.size→(∀ u∈vs,u.oneCell'=true)→
  ∃ w',(storeCells ⟨g,o,none⟩ vs i).run P w= .ok () w'∧w'.os=w.os∧TapeLe w w'∧w'.output=w.output∧w'.heap.size=w.heap.size∧(∀ k,k≠g→w'.heap[k]? =w.heap[k]?)∧
   w'.heap[g]? =some (.cells (cur.toList.take (o+i)++vs++cur.toList.drop (o+i+vs.length)).toArray e (0,0)):=by
 intro vs
 induction vs with
 |nil=>intro o i cur w h _ _;exact ⟨w,rfl,rfl,iN,rfl,rfl,fun _ _=>rfl,by simp [h]⟩
 | cons v vs ih=>
  intro o i cur w h hl h1
  simp only [List.length_cons] at hl
  have hc:w.cell? ⟨g,o+i,none⟩=some cur[o+i]:=by rw [cell_of_row _ _ _ _ _ _ h];simp
  have hf:w.frozen? ⟨g,o+i,none⟩=false:=frozen_of_row _ _ _ _ _ h
  have hw1:=heap_setCell_same w g (o+i) cur e v h
  obtain ⟨w',hr,e1,e2,e3,e4,e5,e6⟩:=ih o (i+1) (cur.setIfInBounds (o+i) v) (w.setCell ⟨g,o+i,none⟩ v) hw1 (by simp;omega) (fun u hu=>h1 u (List.mem_cons_of_mem _ hu))
  refine ⟨w',?_,e1,⟨e2.tape,e2.drawn⟩,e3,e4.trans (by simp),fun k hk=>(e5 k hk).trans (heap_setCell_other _ _ _ _ hk),?_⟩
  ·simp only [storeCells,Addr.add_lit,Sem.run_bind,run_store P w _ v _ (h1 v (List.mem_cons_self ..)),hc,hf,Result.andThen_ok,Bool.false_eq_true,if_false]
   exact hr
  ·rw [e6]
   show some (Obj.cells (((cur.setIfInBounds (o+i) v).toList.take (o+i+1))++vs++(cur.setIfInBounds (o+i) v).toList.drop (o+i+1+vs.length)).toArray e (0,0))=_
   rw [Array.toList_setIfInBounds,lW cur.toList (o+i) vs v (by simp;omega)]
   simp [Nat.add_assoc]
theorem zfA {P:Program} {S:St} (hS:SRel S) {ty:TypeId} {r o sz:Nat} {t:TypeId} {cs:List PV} {p:PV} {u v:Value} (hb:S.h[r]? =some (.var t cs)) (hu:VRel S (.ptr r o) u) (hsh:wI p=true) (hv:VRel S p v)
  (hs:xL P ty=some sz) (hp:(xD p).length=sz) (hl:o+sz≤cs.length):
  ∃ w',(Instr.storeAt ty u v).run P S.w= .ok () w'∧Ext S {S with h:=S.h.set r (.var t (splice cs o (xD p))),w:=w'}∧SRel {S with h:=S.h.set r (.var t (splice cs o (xD p))),w:=w'}:=by
 obtain ⟨h1,h2,h3⟩:=jM hsh hv
 cases hu with
 |optr hb'=>rw [hb] at hb';cases hb'
 | ptr hp' hb'=>
  rename_i b t' cs'
  rw [hb] at hb'
  cases hb'
  obtain ⟨b0,arr,he,hh,hsz,ho1,hcs⟩:=hS.blks r _ _ hb hp'
  cases he
  obtain ⟨w',hr,e1,e2,e3,e4,e5,e6⟩:=nG P b t v.cells.toList o 0 arr S.w hh (by simp;omega) (fun x hx=>by
   obtain ⟨i,hi,rfl⟩:=List.getElem_of_mem hx
   exact h2 i _ (by simp at hi ⊢))
  have hsl:(splice cs o (xD p)).length=cs.length:=by simp [splice];omega
  have hz: ∀ b m,S.Row b m→St.Row {S with w:=w'} b m:=by
   rintro b1 m ⟨ar,t1,f1,hr1,hm1⟩
   by_cases hb1:b1=b
   ·subst hb1
    rw [hh] at hr1
    cases hr1
    exact ⟨_,_,_,e6,by simp;omega⟩
   ·exact ⟨ar,t1,f1,(e5 b1 hb1).trans hr1,hm1⟩
  refine ⟨w',?_,eT (arr':=arr) hS hp' hb hsl e1 e2 e3 e4 e5 hz,cM hS hp' hb hsl e1 e2 e3 e4 e5 hz e6 (by rw [hsl];simp;omega) (fun i x hx=> ?_) (fun i q x hq hx=> ?_)⟩
  ·simp only [Instr.storeAt,Instr.sureAddr,storeVar,Sem.run_bind,Sem.run_pure,Result.andThen_ok,zV hs]
   rw [if_neg (by omega)]
   exact hr
  all_goals
   simp only [Nat.add_zero,List.getElem?_toArray,List.getElem?_append,List.length_take,Array.length_toList,List.length_append,List.getElem?_take,List.getElem?_drop,Array.getElem?_toList] at hx
  ·split at hx
   ·split at hx
    ·split at hx
     ·exact ho1 _ x hx
     ·cases hx
    ·exact h2 _ x hx
   ·exact ho1 _ x hx
  ·simp only [splice,List.getElem?_append,List.length_take,List.length_append,List.getElem?_take,List.getElem?_drop] at hq
   have m1:min o arr.size=o:=by omega
   have m2:min o cs.length=o:=by omega
   rw [m1] at hx
   rw [m2] at hq
   by_cases c1:i<o
   ·rw [if_pos (by omega),if_pos c1,if_pos c1] at hx
    rw [if_pos (by omega),if_pos c1,if_pos c1] at hq
    exact hcs i q x hq hx
   ·by_cases c2:i<o+sz
    ·rw [if_pos (by omega),if_neg c1] at hx
     rw [if_pos (by omega),if_neg c1] at hq
     exact h3 _ q x hq hx
    ·rw [if_neg (by omega)] at hx hq
     refine hcs _ q x hq ?_
     rw [←hx]
     congr 1
     omega
end Go.AL
