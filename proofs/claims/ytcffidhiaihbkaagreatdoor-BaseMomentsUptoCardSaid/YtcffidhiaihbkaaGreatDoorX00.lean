/-
  Each operation of 'apure0' is what the model does.
-/
import Derived.WalkKit
import Derived.RangeFuncNested
import Derived.RangeFuncLeaves
set_option linter.unusedSimpArgs false
set_option linter.unusedVariables false
set_option maxRecDepth 100000
set_option maxHeartbeats 4000000
namespace Go.AL
theorem gsi {α:Type} {l:List α} {i:Nat} {a:α} (h:l[i]? =some a): ∃ (h:i<l.length),l[i]=a:=List.getElem?_eq_some_iff.1 h
open Go.RowKit
inductive PV where
  |un
  |ud
  |sc (v:Value)
  |nil
  |agg (cs:List PV)
  |tup (vs:List PV)
  |ts (k:Nat) (els:List (List PV))
  |tc (k:Nat) (els:List (List PV))
  |vec (r k:Nat) (els:List (List PV))
  |ms (r off k len:Nat)
  |ptr (r off:Nat)
  |tp (cs:List PV)
  |fn (f:Fn) (fst cap:List PV)
  |ifc (t:TypeId) (v:PV)
  |mp (r:Nat)
  |yl (r:Nat)
  |it (r:Nat)
  deriving Inhabited
inductive Blk where
  |var (t:TypeId) (cs:List PV)
  |vec (e:TypeId) (k n:Nat)
  |map (es:List (Value×PV))
  |loop (ts:List PV) (ps:List Tmp) (assign body:Code) (st:LoopState) (pend:Option Code)
  |non
  |old
  |iter (m:Option Nat) (n:Nat) (seen:List Nat)
  |siter (s:ByteArray) (pos:Nat)
  deriving Inhabited
def Blk.isIt:Blk→Bool
  | .iter .. =>true
  | .siter .. =>true
  |_=>false
abbrev Heap:=List Blk
structure St where
  φ:List Value
  h:Heap
  w:World
  x:Addr→Prop
def sC:Value→Option Nat
  | .pointer (some a)=>some a.block
  | .slice (some a) _ _=>some a.block
  | .map r=>r
  |_=>none
def tJ:Value→Prop
  | .int k n=>k.min≤n∧n≤k.max
  | .string s=>s.size≤maxLen
  | .bool _=>True
  | .nilIface=>True
  | .nilFunc=>True
  | .pointer none=>True
  | .map none=>True
  |_=>False
def St.Stable (S:St) (a:Addr):Prop:=
  a.spot=none∧a.block<S.w.heap.size∧ ¬S.x a∧ ∀ (r:Nat) (v:Value),S.φ[r]? =some v→sC v=some a.block→ ∃ e k n,S.h[r]? =some (.vec e k n)∧a.off<n*k
def St.Row (S:St) (b m:Nat):Prop:= ∃ (arr:Array Value) (t:TypeId) (f:Nat×Nat),S.w.heap[b]? =some (.cells arr t f)∧m≤arr.size
def St.M (S:St) (a:Addr) (v:Value):Prop:=S.w.cell? a=some v∧v.oneCell'=true∧S.Stable a
inductive VRel (S:St):PV→Value→Prop
  |un {v:Value}:VRel S .un v
  |ud:VRel S .ud undef
  |sc {v:Value} (h:tJ v):VRel S (.sc v) v
  |nil:VRel S .nil (.slice none 0 0)
  |agg {cs:List PV} {vs:Array Value} (hl:vs.size=cs.length) (h1: ∀ (i:Nat) (v:Value),vs[i]? =some v→v.oneCell'=true)
      (h: ∀ (i:Nat) (p:PV) (v:Value),cs[i]? =some p→vs[i]? =some v→VRel S p v):VRel S (.agg cs) (.agg vs)
  |tup {cs:List PV} {vs:Array Value} (hl:vs.size=cs.length)
      (h: ∀ (i:Nat) (p:PV) (v:Value),cs[i]? =some p→vs[i]? =some v→VRel S p v):VRel S (.tup cs) (.tuple vs)
  |ts {k n c:Nat} {els:List (List PV)} {a:Option Addr} (hl:els.length=n) (hc:n≤c) (hm:c≤maxLen)
      (hk: ∀ (i:Nat) (e:List PV),els[i]? =some e→e.length=k) (ad:Addr) (ha:n≠0→a=some ad) (val:Nat→Value)
      (hv: ∀ j,j<n*k→S.M (ad.add j) (val j))
      (h: ∀ (i:Nat) (e:List PV) (j:Nat) (p:PV),els[i]? =some e→e[j]? =some p→VRel S p (val (i*k+j))):VRel S (.ts k els) (.slice a n c)
  |tc {k n:Nat} {els:List (List PV)} {a:Option Addr} (ht:VRel S (.ts k els) (.slice a n n)):VRel S (.tc k els) (.slice a n n)
  |vec {r k n:Nat} {e:TypeId} {els:List (List PV)} {v:Value} (ht:VRel S (.ts k els) v) (hb:S.h[r]? =some (.vec e k n))
      (hle:els.length≤n) (ho:els.length=n→S.φ[r]? =some v):VRel S (.vec r k els) v
  |ms {r off k len c b:Nat} {t:TypeId} {cs:List PV} (hp:S.φ[r]? =some (.pointer (some ⟨b,0,none⟩))) (hb:S.h[r]? =some (.var t cs))
      (hl:off+len*k≤cs.length) (hc:len≤c) (hm:c≤maxLen) (hz:S.Row b (off+c*k)):VRel S (.ms r off k len) (.slice (some ⟨b,off,none⟩) len c)
  |oms {r off k len c:Nat} {a:Addr} (hb:S.h[r]? =some .old) (hc:len≤c) (hm:c≤maxLen):VRel S (.ms r off k len) (.slice (some a) len c)
  |ptr {r off b:Nat} {t:TypeId} {cs:List PV} (hp:S.φ[r]? =some (.pointer (some ⟨b,0,none⟩))) (hb:S.h[r]? =some (.var t cs)):
      VRel S (.ptr r off) (.pointer (some ⟨b,off,none⟩))
  |optr {r off:Nat} {a:Addr} (hb:S.h[r]? =some .old):VRel S (.ptr r off) (.pointer (some a))
  |tp {cs:List PV} {a:Addr} (val:Nat→Value) (hv: ∀ j,j<cs.length→S.M (a.add j) (val j))
      (h: ∀ (j:Nat) (p:PV),cs[j]? =some p→VRel S p (val j)):VRel S (.tp cs) (.pointer (some a))
  |fn {f:Fn} {ps qs:List PV} {us vs:Array Value} (hl:us.size=ps.length) (hl':vs.size=qs.length)
      (h: ∀ (i:Nat) (p:PV) (v:Value),ps[i]? =some p→us[i]? =some v→VRel S p v)
      (h': ∀ (i:Nat) (p:PV) (v:Value),qs[i]? =some p→vs[i]? =some v→VRel S p v):VRel S (.fn f ps qs) (.func f us vs)
  |ifc {t:TypeId} {p:PV} {v:Value} (h:VRel S p v):VRel S (.ifc t p) (.iface t v)
  |mp {r b:Nat} {es:List (Value×PV)} (hp:S.φ[r]? =some (.map (some b))) (hb:S.h[r]? =some (.map es)):VRel S (.mp r) (.map (some b))
  |yl {r b:Nat} (hp:S.φ[r]? =some (.pointer (some ⟨b,0,none⟩))) {ts:List PV} {ps:List Tmp} {assign body:Code} {st:LoopState} {pend:Option Code} (hb:S.h[r]? =some (.loop ts ps assign body st pend)):VRel S (.yl r) (.func (.yield b) #[] #[])
  |it {r b:Nat} (hp:S.φ[r]? =some (.pointer (some ⟨b,0,none⟩))) {c:Blk} (hb:S.h[r]? =some c) (hi:c.isIt=true):VRel S (.it r) (.pointer (some ⟨b,0,none⟩))
def BRel (S:St):Blk→Value→Prop
  | .var t cs,v=> ∃ (b:Nat) (arr:Array Value),v= .pointer (some ⟨b,0,none⟩)∧S.w.heap[b]? =some (.cells arr t (0,0))∧cs.length≤arr.size∧
      (∀ (i:Nat) (u:Value),arr[i]? =some u→u.oneCell'=true)∧ ∀ (i:Nat) (p:PV) (u:Value),cs[i]? =some p→arr[i]? =some u→VRel S p u
  | .vec e k n,v=>(v= .slice none 0 0∧n=0)∨ ∃ (b c:Nat) (arr:Array Value),v= .slice (some ⟨b,0,none⟩) n c∧S.w.heap[b]? =some (.cells arr e (0,0))∧
      n≤c∧c≤maxLen∧arr.size=c*k
  | .map es,v=> ∃ (b clock:Nat) (entries:Array MapEntry),v= .map (some b)∧S.w.heap[b]? =some (.map entries clock)∧entries.size=es.length∧
      (clock=entries.size∧(∀ q∈es,tJ q.1)∧ ∀ (i:Nat) (e:MapEntry),entries[i]? =some e→e.born=i)∧
      ∀ (i:Nat) (e:MapEntry) (q:Value×PV),entries[i]? =some e→es[i]? =some q→e.key=q.1∧VRel S q.2 e.val
  | .loop ts ps assign body st pend,v=> ∃ (b:Nat) (L:Loop),v= .pointer (some ⟨b,0,none⟩)∧S.w.heap[b]? =some (.loop L)∧L.params.toList=ps∧L.assign=assign∧L.body=body∧L.state=st∧L.pending=pend∧
      L.tmps.size=ts.length∧ ∀ (i:Nat) (p:PV),ts[i]? =some p→VRel S p (L.tmps.getD i undef)
  | .non,v=>sC v=none
  | .old,v=>sC v=none
  | .iter m n seen,v=> ∃ (b:Nat) (bm:Option Nat),v= .pointer (some ⟨b,0,none⟩)∧S.w.heap[b]? =some (.mapIter bm n seen.toArray n)∧ ∀ r,m=some r→ ∃ (es:List (Value×PV)) (bk:Nat),S.h[r]? =some (.map es)∧S.φ[r]? =some (.map (some bk))∧bm=some bk
  | .siter s pos,v=> ∃ b:Nat,v= .pointer (some ⟨b,0,none⟩)∧S.w.heap[b]? =some (.stringIter s pos)∧s.size≤maxLen
structure SRel (S:St):Prop where
  len:S.φ.length=S.h.length
  blks: ∀ (r:Nat) (b:Blk) (v:Value),S.h[r]? =some b→S.φ[r]? =some v→BRel S b v
  inj: ∀ (r r':Nat) (v v':Value) (n:Nat),S.φ[r]? =some v→S.φ[r']? =some v'→sC v=some n→sC v'=some n→r=r'
  xlt: ∀ a,S.x a→a.block<S.w.heap.size
  xown: ∀ a,S.x a→ ∀ (r:Nat) (v:Value),S.φ[r]? =some v→sC v≠some a.block
def Blk.le (same:Prop):Blk→Blk→Prop
  | .var t cs,.var t' cs'=>t=t'∧cs.length=cs'.length∧same
  | .vec e k n,.vec e' k' n'=>e=e'∧k=k'∧n≤n'∧(n=n'→same)
  | .map _,.map _=>same
  | .loop ..,.loop .. =>same
  | .iter ..,.iter .. =>same
  | .siter ..,.siter .. =>same
  | .non,_=>True
  | .var _ _,.old=>True
  | .old,.old=>True
  |_,_=>False
def St.Own (S:St) (b:Nat):Prop:= ∃ (r:Nat) (v:Value),S.φ[r]? =some v∧sC v=some b
structure TapeLe (w w':World):Prop where
  tape:w'.tape=w.tape
  drawn:w.drawn≤w'.drawn
theorem iN {w w':World} (h:w'.tape=w.tape:=by rfl) (k:w.drawn≤w'.drawn:=by first|exact Nat.le_refl _|exact Nat.le_succ _|simp):TapeLe w w':=⟨h,k⟩
theorem TapeLe.trans {a b c:World} (h:TapeLe a b) (k:TapeLe b c):TapeLe a c:=⟨k.tape.trans h.tape,Nat.le_trans h.drawn k.drawn⟩
structure Ext (S S':St):Prop where
  x:S'.x=S.x
  os:S'.w.os=S.w.os
  tape:TapeLe S.w S'.w
  output:S'.w.output=S.w.output
  size:S.w.heap.size≤S'.w.heap.size
  unt: ∀ b,b<S.w.heap.size→ ¬S.Own b→ ¬S'.Own b∧S'.w.heap[b]? =S.w.heap[b]?
  mem: ∀ a v,S.M a v→S'.M a v
  blks: ∀ (r:Nat) (b:Blk),S.h[r]? =some b→ ∃ b',S'.h[r]? =some b'∧Blk.le (S'.φ[r]? =S.φ[r]?) b b'
  rows: ∀ b m,S.Row b m→S'.Row b m
theorem Blk.le_refl (b:Blk) {p:Prop} (hp:p):Blk.le p b b:=by cases b<;>simp [Blk.le,hp]
theorem Blk.le_trans {a b c:Blk} {p q r:Prop} (h:Blk.le p a b) (k:Blk.le q b c) (hr:p→q→r):Blk.le r a c:=by
  cases a with
  |non=>trivial
  | var t cs=>
    cases b<;>first|exact h.elim|skip
    · cases c<;>first|exact k.elim|trivial|skip
      exact ⟨h.1.trans k.1,h.2.1.trans k.2.1,hr h.2.2 k.2.2⟩
    · cases c<;>first|exact k.elim|trivial
  | vec e k n=>
    cases b<;>first|exact h.elim|skip
    cases c<;>first|exact k.elim|skip
    obtain ⟨h1,h2,h3,h4⟩:=h
    obtain ⟨k1,k2,k3,k4⟩:=k
    exact ⟨h1.trans k1,h2.trans k2,Nat.le_trans h3 k3,fun e=>hr (h4 (by omega)) (k4 (by omega))⟩
  | map es=>
    cases b<;>first|exact h.elim|skip
    cases c<;>first|exact k.elim|skip
    exact hr h k
  | loop=>
    cases b<;>first|exact h.elim|skip
    cases c<;>first|exact k.elim|skip
    exact hr h k
  | iter=>
    cases b<;>first|exact h.elim|skip
    cases c<;>first|exact k.elim|skip
    exact hr h k
  | siter=>
    cases b<;>first|exact h.elim|skip
    cases c<;>first|exact k.elim|skip
    exact hr h k
  | old=>
    cases b<;>first|exact h.elim|skip
    cases c<;>first|exact k.elim|trivial
theorem Ext.refl (S:St):Ext S S:=⟨rfl,rfl,iN,rfl,Nat.le_refl _,fun _ _ h=>⟨h,rfl⟩,fun _ _ h=>h,fun _ b h=>⟨b,h,Blk.le_refl b rfl⟩,fun _ _ h=>h⟩
theorem Ext.trans {A B C:St} (h:Ext A B) (k:Ext B C):Ext A C:=
  ⟨k.x.trans h.x,k.os.trans h.os,h.tape.trans k.tape,k.output.trans h.output,Nat.le_trans h.size k.size,
   fun b hb hn=>let ⟨h1,h2⟩:=h.unt b hb hn;let ⟨k1,k2⟩:=k.unt b (Nat.lt_of_lt_of_le hb h.size) h1;⟨k1,k2.trans h2⟩,
   fun a v hm=>k.mem a v (h.mem a v hm),
   fun r b hb=>by
    obtain ⟨b',hb',hl⟩:=h.blks r b hb
    obtain ⟨b'',hb'',hl'⟩:=k.blks r b' hb'
    exact ⟨b'',hb'',Blk.le_trans hl hl' (fun p q=>q.trans p)⟩,
   fun b m hr=>k.rows b m (h.rows b m hr)⟩
theorem VRel.ext {S S':St} {p:PV} {v:Value} (h:VRel S p v) (x:Ext S S'):VRel S' p v:=by
  induction h with
  |un=>exact .un
  |ud=>exact .ud
  |sc h=>exact .sc h
  |nil=>exact .nil
  |agg hl h1 _ ih=>exact .agg hl h1 ih
  |tup hl _ ih=>exact .tup hl ih
  |ts hl hc hm hk ad ha val hv _ ih=>exact .ts hl hc hm hk ad ha val (fun j hj=>x.mem _ _ (hv j hj)) ih
  |tc _ ih=>exact .tc ih
  | vec ht hb hle ho ih=>
    obtain ⟨b',hb',hl⟩:=x.blks _ _ hb
    cases b'<;>simp only [Blk.le] at hl
    obtain ⟨rfl,rfl,hn,hs⟩:=hl
    exact .vec ih hb' (by omega) (fun e=>by have hq:=ho (by omega);rw [hs (by omega)];exact hq)
  | ms hp hb hl hc hm hz=>
    obtain ⟨b',hb',hl'⟩:=x.blks _ _ hb
    cases b' with
    | var t' cs'=>
      obtain ⟨rfl,hlen,hs⟩:=hl'
      exact .ms (hs.trans hp) hb' (by omega) hc hm (x.rows _ _ hz)
    |old=>exact .oms hb' hc hm
    |_=>exact hl'.elim
  | oms hb hc hm=>
    obtain ⟨b',hb',hl'⟩:=x.blks _ _ hb
    cases b'<;>first|exact .oms hb' hc hm|exact hl'.elim
  | ptr hp hb=>
    obtain ⟨b',hb',hl'⟩:=x.blks _ _ hb
    cases b' with
    |var t' cs'=>exact .ptr (hl'.2.2.trans hp) hb'
    |old=>exact .optr hb'
    |_=>exact hl'.elim
  | optr hb=>
    obtain ⟨b',hb',hl'⟩:=x.blks _ _ hb
    cases b'<;>first|exact .optr hb'|exact hl'.elim
  |tp val hv _ ih=>exact .tp val (fun j hj=>x.mem _ _ (hv j hj)) ih
  |fn hl hl' _ _ ih ih'=>exact .fn hl hl' ih ih'
  |ifc _ ih=>exact .ifc ih
  | mp hp hb=>
    obtain ⟨b',hb',hl'⟩:=x.blks _ _ hb
    cases b'<;>simp only [Blk.le] at hl'
    exact .mp (hl'.trans hp) hb'
  | yl hp hb=>
    obtain ⟨b',hb',hl'⟩:=x.blks _ _ hb
    cases b'<;>simp only [Blk.le] at hl'
    exact .yl (hl'.trans hp) hb'
  | it hp hb hi=>
    rename_i c
    obtain ⟨b',hb',hl'⟩:=x.blks _ _ hb
    cases c<;>simp only [Blk.isIt,Bool.false_eq_true] at hi<;>cases b'<;>simp only [Blk.le] at hl'<;>exact .it (hl'.trans hp) hb' rfl
end Go.AL
namespace Go.AL
open Go.RowKit
abbrev Glob:=Nat→Option (List PV)
def GRel (S:St) (G:Glob):Prop:= ∀ g cs,G g=some cs→VRel S (.tp cs) (.pointer (some ⟨g,0,none⟩))
def zeV:Value→PV
 | .slice none 0 0=> .nil
 | .int k n=>if k.min≤n∧n≤k.max then .sc (.int k n) else .un
 | .string s=>if s.size≤maxLen then .sc (.string s) else .un
 | .bool b=> .sc (.bool b)
 | .nilIface=> .sc .nilIface
 | .nilFunc=> .sc .nilFunc
 | .pointer none=> .sc (.pointer none)
 | .map none=> .sc (.map none)
 |_=> .un
def nI:Value→PV
 | .agg cs=>if cs.toList.all Value.oneCell' then .agg (cs.toList.map zeV) else .un
 | .tuple vs=>if vs.size=0 then .ud else .un
 |v=>zeV v
theorem cR (S:St) (v:Value):VRel S (zeV v) v:=by
 unfold zeV
 split
 ·exact .nil
 ·split
  ·exact .sc (by assumption)
  ·exact .un
 ·split
  ·exact .sc (by assumption)
  ·exact .un
 all_goals first|exact .sc trivial|exact .un
theorem sN (S:St) (v:Value):VRel S (nI v) v:=by
 cases v with
 | agg cs=>
  simp only [nI]
  split
  ·rename_i h
   rw [List.all_eq_true] at h
   refine .agg (by simp) (fun i v hv=>h v ?_) (fun i p v hp hv=> ?_)
   ·rw [Array.getElem?_eq_some_iff] at hv
    obtain ⟨hi,rfl⟩:=hv
    simp
   ·rw [List.getElem?_map] at hp
    have:cs.toList[i]? =some v:=by simpa using hv
    rw [this] at hp
    cases hp
    exact cR S v
  ·exact .un
 | tuple vs=>
  simp only [nI]
  split
  ·rename_i h
   have:vs= #[]:=Array.eq_empty_of_size_eq_zero h
   subst this
   exact .ud
  ·exact .un
 |_=>rw [nI]<;>first|exact cR S _|(intro _ h;cases h)
def wV (G:Glob) (ts:List PV):Operand→PV
 | .tmp t=>ts.getD t .un
 | .const v=>nI v
 | .global g=>match G g with|some cs=> .tp cs|none=> .un
 | .func f=> .fn (.func f) [] []
structure TRel (S:St) (ts:List PV) (tmps:Array Value):Prop where
 size:tmps.size=ts.length
 rel: ∀ i p,ts[i]? =some p→VRel S p (tmps.getD i undef)
theorem lI {S:St} {G:Glob} {ts:List PV} {a:Act} (hG:GRel S G) (hT:TRel S ts a.tmps) (x:Operand):VRel S (wV G ts x) (a.eval x):=by
 cases x with
 |tmp t=>
  simp only [wV,Act.eval]
  cases h:ts[t]? with
  |none=>rw [List.getD_eq_getElem?_getD,h];exact .un
  |some p=>rw [List.getD_eq_getElem?_getD,h];exact hT.rel t p h
 |const v=>exact sN S v
 |global g=>
  simp only [wV,Act.eval]
  split
  ·rename_i cs h;exact hG g cs h
  ·exact .un
 |func f=>exact .fn rfl rfl (by intro i p v h;simp at h) (by intro i p v h;simp at h)
theorem TRel.ext {S S':St} {ts:List PV} {tmps:Array Value} (h:TRel S ts tmps) (x:Ext S S'):TRel S' ts tmps:=⟨h.size,fun i p hp=>(h.rel i p hp).ext x⟩
theorem GRel.ext {S S':St} {G:Glob} (h:GRel S G) (x:Ext S S'):GRel S' G:=fun g cs hg=>(h g cs hg).ext x
def zZ (ts:List PV) (dst:Option Tmp) (p:PV):List PV:=
 match dst with
 |some d=>ts.set d p
 |none=>ts
theorem TRel.put {S:St} {ts:List PV} {a:Act} (h:TRel S ts a.tmps) (dst:Option Tmp) {p:PV} {v:Value} (hv:VRel S p v):TRel S (zZ ts dst p) (a.put dst v).tmps:=by
 cases dst with
 |none=>exact h
 | some d=>
  simp only [zZ,Act.put]
  refine ⟨by simp [h.size],fun i q hq=> ?_⟩
  rw [List.getElem?_set] at hq
  have hs:=h.size
  split at hq
  ·subst d
   split at hq
   ·cases hq
    rename_i hlt
    have hlt':i<a.tmps.size:=by omega
    simp [Array.getD,hlt',hv]
   ·cases hq
  ·rename_i hne
   have:=h.rel i q hq
   rw [Array.getD_eq_getD_getElem?] at this ⊢
   rwa [Array.getElem?_setIfInBounds_ne hne]
def dD (P:Program) (t:TypeId):Option Bool:=match P.underlying t with|some (.struct _)|some (.array ..)=>some true|some _=>some false|none=>none
def xL (P:Program) (t:TypeId):Option Nat:=(P.info? t).map (·.size)
def zR (P:Program) (t:TypeId) (f:Nat):Option (Nat×TypeId):=match P.underlying t with|some (.struct fs)=>(fs[f]?).map fun f=>(f.offset,f.type)|_=>none
def wX (P:Program) (t:TypeId):Option TypeId:=match P.underlying t with|some (.slice e)=>some e|_=>none
def bR (P:Program) (t:TypeId):Option (Nat×TypeId):=match P.underlying t with|some (.array n e)=>some (n,e)|_=>none
def zeT (P:Program) (t:TypeId):Option IntKind:=match P.underlying t with|some (.int k)=>some k|_=>none
def bW (P:Program) (t:TypeId):Bool:=match P.underlying t with|some .bool=>true|_=>false
def gJ (P:Program) (t:TypeId):Bool:=match P.underlying t with|some .string=>true|_=>false
def zg9 (P:Program) (t:TypeId):Option Bool:=match P.underlying t with|some (.interface _)=>some true|some _=>some false|none=>none
def dG (b:Bool):PV→PV→PV
 | .sc (.bool x),.sc (.bool y)=> .sc (.bool (bif b then x else y))
 |p,q=>if b then p else q
theorem aJ {S:St} {b:Bool} {p q:PV} {u v:Value} (hp:VRel S p u) (hq:VRel S q v):VRel S (dG b p q) (if b then u else v):=by
 unfold dG
 split
 ·cases hp;cases hq;cases b<;>exact .sc trivial
 ·cases b
  ·exact hq
  ·exact hp
class CK (α:Type) where
 cnd:(c:Prop)→[Decidable c]→α
 both:α→α→α
instance:CK Prop:=⟨fun c=>c,And⟩
instance:CK Bool:=⟨fun c=>decide c,Bool.and⟩
theorem vL (c:Prop) [Decidable c]:(CK.cnd c:Prop)=c:=rfl
theorem wE (c d:Prop):(CK.both c d:Prop)=(c∧d):=rfl
def zcM {α:Type} [CK α] (P:Program) (t:TypeId) (op:BinOp):PV→PV→Option (PV×α)
 | .sc (.int k a),.sc (.int k' b)=>
  match op with
  | .shl=>some (.sc (.int k (k.wrap (a*2 ^ min b.toNat k.bits))),CK.cnd (0≤b))
  | .shr=>some (.sc (.int k (a / 2 ^ min b.toNat k.bits)),CK.cnd (0≤b))
  | .add=>if k=k' then some (.sc (.int k (k.wrap (a+b))),CK.cnd True) else none
  | .sub=>if k=k' then some (.sc (.int k (k.wrap (a-b))),CK.cnd True) else none
  | .mul=>if k=k' then some (.sc (.int k (k.wrap (a*b))),CK.cnd True) else none
  | .quo=>if k=k' then some (.sc (.int k (k.wrap (a.tdiv b))),CK.cnd (b≠0)) else none
  | .rem=>if k=k' then some (.sc (.int k (a.tmod b)),CK.cnd (b≠0)) else none
  | .and=>if k=k' then some (.sc (.int k (bits .and k a b)),CK.cnd True) else none
  | .or=>if k=k' then some (.sc (.int k (bits .or k a b)),CK.cnd True) else none
  | .xor=>if k=k' then some (.sc (.int k (bits .xor k a b)),CK.cnd True) else none
  | .andNot=>if k=k' then some (.sc (.int k (bits .andNot k a b)),CK.cnd True) else none
  | .eql=>if k=k' then some (.sc (.bool (a==b)),CK.cnd True) else none
  | .neq=>if k=k' then some (.sc (.bool (a !=b)),CK.cnd True) else none
  | .lss=>if k=k' then some (.sc (.bool (decide (a<b))),CK.cnd True) else none
  | .leq=>if k=k' then some (.sc (.bool (decide (a≤b))),CK.cnd True) else none
  | .gtr=>if k=k' then some (.sc (.bool (decide (b<a))),CK.cnd True) else none
  | .geq=>if k=k' then some (.sc (.bool (decide (b≤a))),CK.cnd True) else none
 | .sc (.bool a),.sc (.bool b)=>
  match op with
  | .eql=>if bW P t then some (.sc (.bool (a==b)),CK.cnd True) else none
  | .neq=>if bW P t then some (.sc (.bool (a !=b)),CK.cnd True) else none
  |_=>none
 | .sc (.string a),.sc (.string b)=>
  match op with
  | .eql=>some (.sc (.bool (decide (a=b))),CK.cnd True)
  | .neq=>some (.sc (.bool (!decide (a=b))),CK.cnd True)
  |_=>none
 |_,_=>none
def zaG:PV→Option (Nat×List (List PV))
 | .ts k e=>some (k,e)
 | .tc k e=>some (k,e)
 | .vec _ k e=>some (k,e)
 |_=>none
theorem iL {S:St} {p:PV} {k:Nat} {els:List (List PV)} {v:Value} (h:zaG p=some (k,els)) (hv:VRel S p v):VRel S (.ts k els) v:=by
 cases p<;>simp only [zaG,Option.some.injEq,Prod.mk.injEq,reduceCtorEq] at h
 ·obtain ⟨rfl,rfl⟩:=h;exact hv
 ·obtain ⟨rfl,rfl⟩:=h;cases hv with|tc ht=>exact ht
 ·obtain ⟨rfl,rfl⟩:=h;cases hv with|vec ht=>exact ht
def zk5 {α:Type} [CK α] (P:Program) (t:TypeId) (cs:List PV):Option (PV×α):=
 match xL P t,dD P t with
 |some s,some true=>some (.agg (cs.take s),CK.cnd (s≤cs.length))
 |some _,some false=>some (cs.getD 0 .un,CK.cnd (0<cs.length))
 |_,_=>none
def pI {α:Type} [CK α] (P:Program) (t:TypeId):PV→Option (PV×α)
 | .nil=>if (wX P t).isSome then some (.sc (.int .i64 0),CK.cnd True) else none
 | .ts _ e=>if (wX P t).isSome then some (.sc (.int .i64 e.length),CK.cnd True) else none
 | .tc _ e=>if (wX P t).isSome then some (.sc (.int .i64 e.length),CK.cnd True) else none
 | .vec _ _ e=>if (wX P t).isSome then some (.sc (.int .i64 e.length),CK.cnd True) else none
 | .ms _ _ _ n=>if (wX P t).isSome then some (.sc (.int .i64 n),CK.cnd True) else none
 | .sc (.string s)=>if gJ P t then some (.sc (.int .i64 s.size),CK.cnd True) else none
 |_=>none
def yV {α:Type} [CK α]:Option PV→Nat→Nat→Option (Nat×α)
 |none,_,z=>some (z,CK.cnd True)
 |some (.sc (.int _ n)),d,_=>some (n.toNat,CK.cnd (0≤n∧n≤d))
 |_,_,_=>none
def yI {α:Type} [CK α] (P:Program) (h:Heap) (f:Operand→PV):Op→Option (PV×α)
 | .move x=>some (f x,CK.cnd True)
 | .assign x=>some (f x,CK.cnd True)
 | .pick c a b=>match f c with
  | .sc (.bool t)=>some (dG t (f a) (f b),CK.cnd True)
  |_=>none
 | .nilCheck x=>match f x with
  | .ptr r o=>some (.ptr r o,CK.cnd True)
  | .tp cs=>some (.tp cs,CK.cnd True)
  | .fn (.func g) a b=>some (.fn (.func g) a b,CK.cnd True)
  | .fn (.via t s g p) a b=>some (.fn (.via t s g p) a b,CK.cnd True)
  | .yl r=>some (.yl r,CK.cnd True)
  | .ifc t p=>some (.ifc t p,CK.cnd True)
  |_=>none
 | .binOp op t x y _=>zcM P t op (f x) (f y)
 | .unOp op _ x=>match op,f x with
  | .not,.sc (.bool b)=>some (.sc (.bool !b),CK.cnd True)
  | .neg,.sc (.int k n)=>some (.sc (.int k (k.wrap (0-n))),CK.cnd True)
  | .xor,.sc (.int k n)=>some (.sc (.int k (bits .xor k (if k.signed then -1 else k.max) n)),CK.cnd True)
  |_,_=>none
 | .convert s d x=>match zeT P d,f x with
  |some k,.sc (.int _ n)=>if (P.underlying s).isSome then some (.sc (.int k (k.wrap n)),CK.cnd True) else none
  |_,.sc (.string b)=>if gJ P d∧(P.underlying s).isSome then some (.sc (.string b),CK.cnd True) else none
  |_,_=>none
 | .makeInterface t x=>if zg9 P t=some false then some (.ifc t (f x),CK.cnd True) else none
 | .makeFunc fn a b=>some (.fn fn (a.toList.map f) (b.toList.map f),CK.cnd True)
 | .field t x i=>match zR P t i,f x with
  |some (off,ft),.agg cs=>match xL P ft,dD P ft with
   |some s,some true=>some (.agg ((cs.drop off).take s),CK.cnd (off+s≤cs.length))
   |some _,some false=>some (cs.getD off .un,CK.cnd (off<cs.length))
   |_,_=>none
  |_,_=>none
 | .fieldAddr t x i=>match zR P t i,f x with
  |some (off,ft),.ptr r o=>match xL P ft with
   |some (_+1)=>some (.ptr r (o+off),CK.cnd True)
   |_=>none
  |some (off,ft),.tp cs=>match xL P ft with
   |some (_+1)=>some (.tp (cs.drop off),CK.cnd True)
   |_=>none
  |_,_=>none
 | .indexAddr t x i=>match f i with
  | .sc (.int _ n)=>match wX P t with
   |some e=>match zaG (f x),f x with
    |some (k,els),_=>if xL P e=some k then some (.tp (els.getD n.toNat []),CK.cnd (0≤n∧n<els.length)) else none
    |none,.ms r off k len=>if xL P e=some k then some (.ptr r (off+n.toNat*k),CK.cnd (0≤n∧n<len)) else none
    |_,_=>none
   | none=>match bR P t,f x with
    |some (len,e),.ptr r o=>match xL P e with
     |some k=>some (.ptr r (o+n.toNat*k),CK.cnd (0≤n∧n<len))
     |none=>none
    |some (len,e),.tp cs=>match xL P e with
     |some k=>some (.tp (cs.drop (n.toNat*k)),CK.cnd (0≤n∧n<len))
     |none=>none
    |_,_=>none
  |_=>none
 | .index t x i=>match f i with
  | .sc (.int _ n)=>match bR P t,f x with
   |some (len,e),.agg cs=>match xL P e,dD P e with
    |some s,some true=>some (.agg ((cs.drop (n.toNat*s)).take s),CK.cnd (0≤n∧n<len∧n.toNat*s+s≤cs.length))
    |some s,some false=>some (cs.getD (n.toNat*s) .un,CK.cnd (0≤n∧n<len∧n.toNat*s<cs.length))
    |_,_=>none
   |_,.sc (.string b)=>if gJ P t then some (.sc (.int .u8 (b.data.getD n.toNat 0).toNat),CK.cnd (0≤n∧n<b.size)) else none
   |_,_=>none
  |_=>none
 | .load t x=>match f x with
  | .tp cs=>zk5 P t cs
  | .ptr r o=>match h[r]? with
   |some (.var _ cs)=>zk5 P t (cs.drop o)
   |_=>none
  |_=>none
 | .extract x i=>match f x with
  | .tup vs=>some (vs.getD i .un,CK.cnd (i<vs.length))
  |_=>none
 | .slice t x lo hi mx=>match wX P t with
  | some e=>match zaG (f x) with
   | some (k,els)=>if xL P e=some k then
     match mx with
     | none=>match yV (hi.map f) els.length els.length with
      |some (b,c)=>match yV (lo.map f) b 0 with
       |some (a,c')=>some (.ts k ((els.take b).drop a),CK.both (CK.cnd (b≤els.length∧a≤b)) (CK.both c c'))
       |none=>none
      |none=>none
     | some m=>match yV (some (f m)) els.length 0 with
      | some (d,c0)=>match yV (hi.map f) d d with
       |some (b,c)=>match yV (lo.map f) b 0 with
        |some (a,c')=>some (.tc k ((els.take b).drop a),CK.both (CK.cnd (b=d∧d≤els.length∧a≤b∧hi.isSome)) (CK.both c0 (CK.both c c')))
        |none=>none
       |none=>none
      |none=>none
    else none
   |none=>none
  | none=>match bR P t,f x with
   |some (n,e),.ptr r o=>match xL P e,h[r]? with
    |some k,some (.var _ cs)=>if lo.isNone&&hi.isNone&&mx.isNone then some (.ms r o k n,CK.cnd (o+n*k≤cs.length∧n≤maxLen)) else none
    |_,_=>none
   |some (n,e),.tp cs=>if xL P e=some 1∧lo.isNone∧hi.isNone∧mx.isNone then some (.ts 1 (cs.map ([·])),CK.cnd (cs.length=n∧n≤maxLen)) else none
   | _,.sc (.string s)=>if gJ P t∧mx.isNone then
     match yV (hi.map f) s.size s.size with
     |some (b,c)=>match yV (lo.map f) b 0 with
      |some (a,c')=>some (.sc (.string (s.extract a b)),CK.both (CK.cnd (b≤s.size∧a≤b)) (CK.both c c'))
      |none=>none
     |none=>none
    else none
   |_,_=>none
 | .call c=>match c.callee,c.args.toList,c.argTypes.toList with
  | .builtin .len,[x],[t]=>pI P t (f x)
  | .builtin .max,[x,y],_=>match f x,f y with
   | .sc (.int k a),.sc (.int k' b)=>if k=k' then some (.sc (.int k (if b>a then b else a)),CK.cnd True) else none
   |_,_=>none
  | .builtin .min,[x,y],_=>match f x,f y with
   | .sc (.int k a),.sc (.int k' b)=>if k=k' then some (.sc (.int k (if b<a then b else a)),CK.cnd True) else none
   |_,_=>none
  |_,_,_=>none
 |_=>none
end Go.AL
namespace Go.AL
open Go.RowKit
theorem za7 (k:IntKind) (n:Int):k.min≤k.wrap n∧k.wrap n≤k.max:=by
 cases k<;>simp only [IntKind.wrap,IntKind.min,IntKind.max,IntKind.signed,IntKind.bits]<;>constructor<;>simp<;>(try split)<;>omega
theorem pC (k:IntKind) (n:Int):tJ (.int k (k.wrap n)):=za7 k n
theorem lB (op:BinOp) (k:IntKind) (a b:Int):tJ (.int k (bits op k a b)):=by
 unfold bits;exact za7 k _
theorem zbR (k:IntKind):k.min≤0:=by cases k<;>decide
theorem zbS (k:IntKind):0≤k.max:=by cases k<;>decide
theorem zi4 {k:IntKind} {a b:Int} (h:tJ (.int k a)):tJ (.int k (a.tmod b)):=by
 simp only [tJ] at h ⊢
 have h1:=zbR k
 have h2:=zbS k
 rcases Int.le_total 0 a with ha|ha
 ·have p:=Int.tmod_nonneg b ha
  have q:a.tmod b≤a:=by
   obtain ⟨n,rfl⟩:=Int.eq_ofNat_of_zero_le ha
   rcases Int.le_total 0 b with hb|hb
   ·obtain ⟨m,rfl⟩:=Int.eq_ofNat_of_zero_le hb
    exact Int.ofNat_le.2 (Nat.mod_le n m)
   ·obtain ⟨m,hm⟩:=Int.eq_ofNat_of_zero_le (Int.neg_nonneg_of_nonpos hb)
    rw [show b= -(m:Int) by omega,Int.tmod_neg]
    exact Int.ofNat_le.2 (Nat.mod_le n m)
  omega
 ·obtain ⟨n,hn⟩:=Int.eq_ofNat_of_zero_le (Int.neg_nonneg_of_nonpos ha)
  have e:a= -(n:Int):=by omega
  subst e
  rw [Int.neg_tmod]
  have:0≤(n:Int).tmod b:=Int.tmod_nonneg b (by omega)
  have q:(n:Int).tmod b≤n:=by
   rcases Int.le_total 0 b with hb|hb
   ·obtain ⟨m,rfl⟩:=Int.eq_ofNat_of_zero_le hb
    exact Int.ofNat_le.2 (Nat.mod_le n m)
   ·obtain ⟨m,hm⟩:=Int.eq_ofNat_of_zero_le (Int.neg_nonneg_of_nonpos hb)
    rw [show b= -(m:Int) by omega,Int.tmod_neg]
    exact Int.ofNat_le.2 (Nat.mod_le n m)
  omega
theorem zlR {k:IntKind} {a:Int} {m:Nat} (h:tJ (.int k a)):tJ (.int k (a / 2 ^ m)):=by
 simp only [tJ] at h ⊢
 have h1:=zbR k
 have h2:=zbS k
 have hp:(0:Int)<2 ^ m:=Int.pow_pos (by omega)
 rcases Int.le_total 0 a with ha|ha
 ·have p:0≤a / 2 ^ m:=Int.ediv_nonneg ha (Int.le_of_lt hp)
  have q:a / 2 ^ m≤a:=Int.ediv_le_self _ ha
  omega
 ·have q:a / 2 ^ m≤0:=Int.ediv_nonpos_of_nonpos_of_neg ha hp
  have p:a≤a / 2 ^ m:=by
   have h3:a*2 ^ m≤a:=by
    have:=Int.mul_nonneg (show 0≤ -a by omega) (show 0≤(2:Int) ^ m-1 by omega)
    rw [Int.mul_sub,Int.neg_mul,Int.mul_one] at this
    omega
   exact (Int.le_ediv_iff_mul_le hp).2 h3
  omega
theorem gA (k yk:IntKind) (x y:Int) (h:0≤y):Op.shift .shl k x yk y=pure (.int k (k.wrap (x*2 ^ min y.toNat k.bits))):=by
 simp only [Op.shift];rw [if_neg (by omega)]
theorem vQ (k yk:IntKind) (x y:Int) (h:0≤y):Op.shift .shr k x yk y=pure (.int k (x / 2 ^ min y.toNat k.bits)):=by
 simp only [Op.shift];rw [if_neg (by omega),Int.fdiv_eq_ediv_of_nonneg _ (Int.pow_nonneg (by omega))]
theorem nM (a b:ByteArray):(a.toList==b.toList)=decide (a=b):=by
 rw [Bool.eq_iff_iff,beq_iff_eq,decide_eq_true_iff,ByteArray.toList_eq,ByteArray.toList_eq]
 constructor
 ·intro h
  cases a;cases b
  simpa using h
 ·rintro rfl;rfl
theorem rW {P:Program} {t:TypeId} (h:P.underlying t=some .bool) (d:Nat) (a b:Bool) (w:World):(Op.equalIn (d+1) t (.bool a) (.bool b)).run P w= .ok (a==b) w:=by
 simp only [Op.equalIn,Sem.run_bind,run_underlying h,Result.andThen_ok,Sem.run_pure]
theorem fT {P:Program} {t:TypeId} (h:P.underlying t=some .bool) (a b:Bool) (w:World):(binOp .eql t (.bool a) (.bool b)).run P w= .ok (.bool (a==b)) w:=by
 simp only [binOp,Op.equal,Op.maxDepth,Sem.run_bind,rW h 9999,Result.andThen_ok,Sem.run_pure]
theorem fR {P:Program} {t:TypeId} (h:P.underlying t=some .bool) (a b:Bool) (w:World):(binOp .neq t (.bool a) (.bool b)).run P w= .ok (.bool (a !=b)) w:=by
 simp only [binOp,Op.equal,Op.maxDepth,Sem.run_bind,rW h 9999,Result.andThen_ok,Sem.run_pure,bne]
theorem zkV {P:Program} {S:St} {op:BinOp} {t:TypeId} {x y:Operand} {p q r:PV} {c:Prop} {u v:Value}
  (h:zcM P t op p q=some (r,c)) (hc:c) (hu:VRel S p u) (hv:VRel S q v):
  ∃ z,((do eqGuard op t x y u v;binOp op t u v:Sem Value)).run P S.w= .ok z S.w∧VRel S r z:=by
 unfold zcM at h
 simp only [vL,wE] at h
 split at h
 ·rename_i k a k' b
  cases hu with|sc ha=>
  cases hv with|sc hb=>
  split at h
  ·cases h
   refine ⟨_,?_,.sc (pC _ _)⟩
   simp [eqGuard_shl,binOp_shl,gA _ _ _ _ hc]
  ·cases h
   refine ⟨_,?_,.sc (zlR ha)⟩
   simp [eqGuard_shr,binOp_shr,vQ _ _ _ _ hc]
  all_goals
   split at h
   case isFalse=>cases h
   rename_i hk
   subst hk
   cases h
  ·exact ⟨_,by simp [eqGuard_add,binOp_add,Op.intArith],.sc (pC _ _)⟩
  ·exact ⟨_,by simp [eqGuard_sub,binOp_sub,Op.intArith],.sc (pC _ _)⟩
  ·exact ⟨_,by simp [eqGuard_mul,binOp_mul,Op.intArith],.sc (pC _ _)⟩
  ·exact ⟨_,by simp [eqGuard_quo,binOp_quo,Op.intDiv,hc],.sc (pC _ _)⟩
  ·exact ⟨_,by simp [eqGuard_rem,binOp_rem,Op.intDiv,hc],.sc (zi4 ha)⟩
  ·exact ⟨_,by simp [eqGuard_and,binOp_and,intBits_and],.sc (lB _ _ _ _)⟩
  ·exact ⟨_,by simp [eqGuard_or,binOp_or,intBits_or],.sc (lB _ _ _ _)⟩
  ·exact ⟨_,by simp [eqGuard_xor,binOp_xor,intBits_xor],.sc (lB _ _ _ _)⟩
  ·exact ⟨_,by simp [eqGuard_andNot,binOp_andNot,intBits_andNot],.sc (lB _ _ _ _)⟩
  ·exact ⟨_,by simp [eqGuard_at_int,binOp_eql],.sc trivial⟩
  ·exact ⟨_,by simp [eqGuard_at_int,binOp_neq],.sc trivial⟩
  ·exact ⟨_,by simp [eqGuard_lss,binOp_lss],.sc trivial⟩
  ·exact ⟨_,by simp [eqGuard_leq,binOp_leq],.sc trivial⟩
  ·exact ⟨_,by simp [eqGuard_gtr,binOp_gtr],.sc trivial⟩
  ·exact ⟨_,by simp [eqGuard_geq,binOp_geq],.sc trivial⟩
 ·rename_i a b
  cases hu;cases hv
  have bl:bW P t=true→P.underlying t=some .bool:=fun hb=>by
   unfold bW at hb
   split at hb
   ·assumption
   ·cases hb
  split at h
  ·split at h
   ·rename_i hb
    cases h
    exact ⟨_,by simp [eqGuard_at_bool,fT (bl hb)],.sc trivial⟩
   ·cases h
  ·split at h
   ·rename_i hb
    cases h
    exact ⟨.bool (a !=b),by simp [eqGuard_at_bool,fR (bl hb)],.sc trivial⟩
   ·cases h
  ·cases h
 ·rename_i a b
  cases hu;cases hv
  split at h
  ·cases h
   exact ⟨.bool (decide (a=b)),by rw [←nM];simp [eqGuard_at_string,binOp,Op.stringOp],.sc trivial⟩
  ·cases h
   exact ⟨.bool (!decide (a=b)),by rw [←nM];simp [eqGuard_at_string,binOp,Op.stringOp],.sc trivial⟩
  ·cases h
 ·cases h
section
variable {P:Program} {S:St}
theorem oG {t:TypeId} {b:Bool} (h:dD P t=some b) (w:World):(isAgg t).run P w= .ok b w:=by
 unfold dD at h
 cases hd:P.underlying t with
 |none=>rw [hd] at h;cases h
 |some d=>
  rw [hd] at h
  simp only [isAgg,Sem.run_bind,run_underlying hd,Result.andThen_ok]
  cases d<;>simp at h<;>subst h<;>rfl
theorem zV {t:TypeId} {s:Nat} (hs:xL P t=some s) (w:World):(sizeOf t).run P w= .ok s w:=by
 unfold xL at hs
 cases hi:P.info? t with
 |none=>rw [hi] at hs;cases hs
 |some i=>
  rw [hi] at hs
  simp only [Option.map_some,Option.some.injEq] at hs
  subst hs
  simp [sizeOf,typeInfo,hi]
theorem fS {a:Addr} (val:Nat→Value): ∀ (n i:Nat) (acc:Array Value) (w:World),(∀ j,i≤j→j<i+n→w.cell? (a.add j)=some (val j))→
  (loadCellsFrom a i n acc).run P w= .ok (acc++((List.range' i n).map val).toArray) w:=by
 intro n
 induction n with
 |zero=>intro i acc w _;simp [loadCellsFrom]
 |succ n ih=>
  intro i acc w h
  simp only [loadCellsFrom,Sem.run_bind,run_load,h i (Nat.le_refl _) (by omega),Result.andThen_ok]
  rw [ih (i+1) _ w (fun j hj hj'=>h j (by omega) (by omega))]
  simp [List.range'_succ]
theorem sS {t:TypeId} {a:Addr} {cs:List PV} {p:PV} {c:Prop} (val:Nat→Value)
  (hv: ∀ j,j<cs.length→S.w.cell? (a.add j)=some (val j)∧(val j).oneCell'=true) (h: ∀ (j:Nat) (p:PV),cs[j]? =some p→VRel S p (val j))
  (he:zk5 P t cs=some (p,c)) (hc:c): ∃ v,(loadVar t a).run P S.w= .ok v S.w∧VRel S p v:=by
 unfold zk5 at he
 simp only [vL,wE] at he
 split at he
 ·rename_i s hs hg
  cases he
  refine ⟨.agg ((List.range' 0 s).map val).toArray,?_,?_⟩
  ·simp only [loadVar,Sem.run_bind,oG hg,Result.andThen_ok,if_true,zV hs,loadCells]
   rw [fS val s 0 #[] S.w (fun j _ hj=>(hv j (by omega)).1)]
   simp
  ·refine .agg (by simp;omega) (fun i v hi=> ?_) (fun i p v hp hi=> ?_)
   ·simp at hi
    obtain ⟨k,hk,rfl⟩:=hi
    obtain ⟨hj,rfl⟩:=gsi hk
    simp at hj ⊢
    exact (hv i (by omega)).2
   ·simp at hi
    obtain ⟨k,hk,rfl⟩:=hi
    obtain ⟨hj,rfl⟩:=gsi hk
    simp at hj ⊢
    rw [List.getElem?_take,if_pos hj] at hp
    exact h i p hp
 ·rename_i s hs hg
  cases he
  refine ⟨val 0,?_,?_⟩
  ·have:=(hv 0 hc).1
   rw [Addr.add_zero'] at this
   simp [loadVar,oG hg,run_load,this]
  ·have:cs[0]? =some cs[0]:=List.getElem?_eq_getElem hc
   have e:cs.getD 0 .un=cs[0]:=by rw [List.getD_eq_getElem?_getD,this];rfl
   rw [e]
   exact h 0 _ this
 ·cases he
end
end Go.AL
