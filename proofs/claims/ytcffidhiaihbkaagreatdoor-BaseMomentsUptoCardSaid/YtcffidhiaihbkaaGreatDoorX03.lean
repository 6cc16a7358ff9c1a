/-
  Struct, array and slice literals; 'aeff': operations that lay blocks or write them.
-/
import Derived.Test.YtcffidhiaihbkaaGreatDoorX02
set_option linter.unusedSimpArgs false
set_option linter.unusedVariables false
set_option maxRecDepth 100000
set_option maxHeartbeats 4000000
namespace Go.AL
open Go.RowKit
def wD (P:Program) (t:TypeId):Option (TypeId×Nat×Nat):=
 match P.underlying t with
 | some (.slice e)=>match P.info? e with
  |some i=>match i.zero with
   |some z=>if z.cells.size=i.size∧0<i.size then some (e,i.size,i.bytes) else none
   |none=>none
  |none=>none
 |_=>none
theorem uH {P:Program} {t e:TypeId} {k b:Nat} (h:wD P t=some (e,k,b)):P.underlying t=some (.slice e)∧ ∃ i z,P.info? e=some i∧i.zero=some z∧i.size=k∧i.bytes=b∧z.cells.size=k∧0<k:=by
 unfold wD at h
 split at h
 ·rename_i e' hu
  split at h
  ·rename_i i hi
   split at h
   ·rename_i z hz
    split at h
    ·rename_i hc
     cases h
     exact ⟨hu,i,z,hi,hz,rfl,rfl,hc.1,hc.2⟩
    ·cases h
   ·cases h
  ·cases h
 ·cases h
def wA (cs:List PV) (off k len:Nat):List (List PV):=(List.range len).map fun i=>(cs.drop (off+i*k)).take k
def rO (h:Heap) (k:Nat):PV→Option (List (List PV))
 | .nil=>some []
 | .ts k' e=>if k'=k then some e else none
 | .tc k' e=>if k'=k then some e else none
 | .vec _ k' e=>if k'=k then some e else none
 | .ms r off k' len=>if k'=k then (match h[r]? with|some (.var _ cs)=>some (wA cs off k len)|_=>none) else none
 |_=>none
theorem vN {cs:List PV} {off k len i:Nat} {e:List PV} (h:(wA cs off k len)[i]? =some e):i<len∧e=(cs.drop (off+i*k)).take k:=by
 unfold wA at h
 rw [List.getElem?_map] at h
 cases hk:(List.range len)[i]? with
 |none=>rw [hk] at h;cases h
 |some j=>
  rw [hk] at h
  cases h
  obtain ⟨hlt,rfl⟩:=gsi hk
  simp at hlt ⊢
  exact hlt
structure SrcOk (S:St) (k:Nat) (xs:List (List PV)) (a:Option Addr) (news:List Value):Prop where
 len:news.length=xs.length*k
 elen: ∀ (i:Nat) (e:List PV),xs[i]? =some e→e.length=k
 addr:0<xs.length→ ∃ ad,a=some ad∧ ∀ j u,news[j]? =some u→S.w.cell? (ad.add j)=some u
 one: ∀ u∈news,u.oneCell'=true
 rel: ∀ (i:Nat) (e:List PV) (j:Nat) (p:PV) (u:Value),xs[i]? =some e→e[j]? =some p→news[i*k+j]? =some u→VRel S p u
theorem zaN {S:St} {k:Nat} {xs:List (List PV)} {v:Value} (h:VRel S (.ts k xs) v): ∃ a c news,v= .slice a xs.length c∧SrcOk S k xs a news:=by
 obtain ⟨a,c,ad,val,rfl,h1,h2,h3,h4,h5,h6⟩:=uU h
 refine ⟨a,c,(List.range (xs.length*k)).map val,rfl,by simp,h3,fun hn=>⟨ad,h4 (by omega),fun j u hu=> ?_⟩,fun u hu=> ?_,fun i e j p u hi hp hu=> ?_⟩
 ·rw [List.getElem?_map] at hu
  cases hk:(List.range (xs.length*k))[j]? with
  |none=>rw [hk] at hu;cases hu
  |some j'=>
   rw [hk] at hu
   cases hu
   obtain ⟨hlt,rfl⟩:=gsi hk
   simp at hlt ⊢
   exact (h5 j hlt).1
 ·simp at hu
  obtain ⟨j,hj,rfl⟩:=hu
  exact (h5 j hj).2.1
 ·rw [List.getElem?_map] at hu
  cases hk:(List.range (xs.length*k))[i*k+j]? with
  |none=>rw [hk] at hu;cases hu
  |some j'=>
   rw [hk] at hu
   cases hu
   obtain ⟨hlt,rfl⟩:=gsi hk
   simp
   exact h6 i e j p hi hp
theorem iO {S:St} (hS:SRel S) {k:Nat} {p:PV} {xs:List (List PV)} {v:Value} (he:rO S.h k p=some xs) (hv:VRel S p v) (hk:0<k): ∃ a c news,v= .slice a xs.length c∧SrcOk S k xs a news:=by
 cases p<;>simp only [rO,reduceCtorEq] at he<;>(try cases he)
 ·cases hv
  exact ⟨none,0,[],rfl,by simp,by simp,fun h=>absurd h (by simp),by simp,by simp⟩
 ·split at he
  ·cases he;rename_i e;subst e;exact zaN hv
  ·cases he
 ·split at he
  ·cases he;rename_i e;subst e;cases hv with|tc ht=>exact zaN ht
  ·cases he
 ·split at he
  ·cases he;rename_i e;subst e;cases hv with|vec ht=>exact zaN ht
  ·cases he
 ·split at he
  case isFalse=>cases he
  rename_i e
  subst e
  split at he
  case h_2=>cases he
  rename_i r off k len _ t cs hb
  cases he
  cases hv with
  |oms hb' _ _=>rw [hb] at hb';cases hb'
  | ms hp hb' hl hcc hm hzz=>
   rename_i c b t' cs'
   rw [hb] at hb'
   cases hb'
   obtain ⟨b0,arr,hbe,hh,hsz,ho1,hcs⟩:=hS.blks r _ _ hb hp
   cases hbe
   have hln:(wA cs off k len).length=len:=by simp [wA]
   refine ⟨some ⟨b,off,none⟩,c,(arr.toList.drop off).take (len*k),by rw [hln],by simp [wA];omega,fun i e hi=> ?_,fun _=>⟨_,rfl,fun j u hu=> ?_⟩,fun u hu=> ?_,fun i e j p u hi hp' hu=> ?_⟩
   ·obtain ⟨hlt,rfl⟩:=vN hi
    simp
    have:i*k+k≤len*k:=by have:=Nat.mul_le_mul_right k (show i+1≤len by omega);rwa [Nat.add_mul,Nat.one_mul] at this
    omega
   ·rw [Addr.add_lit,cell_of_row _ _ _ _ _ _ hh]
    rw [List.getElem?_take] at hu
    split at hu
    ·rw [List.getElem?_drop] at hu;simpa using hu
    ·cases hu
   ·have:=List.mem_of_mem_drop (List.mem_of_mem_take hu)
    obtain ⟨i,hi,rfl⟩:=List.getElem_of_mem this
    exact ho1 i _ (by simp at hi ⊢)
   ·obtain ⟨hlt,rfl⟩:=vN hi
    rw [List.getElem?_take] at hp' hu
    split at hp'
    ·split at hu
     ·rw [List.getElem?_drop] at hp' hu
      exact hcs _ p u hp' (by rw [Nat.add_assoc];simpa using hu)
     ·cases hu
    ·cases hp'
theorem zaU {i k j n:Nat} (hi:i<n) (hj:j<k):i*k+j<n*k:=by
 have:=Nat.mul_le_mul_right k (show i+1≤n by omega)
 rw [Nat.add_mul,Nat.one_mul] at this
 omega
theorem oF {S:St} {k n b c:Nat} {els:List (List PV)} {all:List Value} (hl:els.length=n) (hk: ∀ (i:Nat) (e:List PV),els[i]? =some e→e.length=k) (hc:n≤c) (hm:c≤maxLen)
  (hM: ∀ j u,all[j]? =some u→S.M ⟨b,j,none⟩ u) (hal:all.length=n*k) (hr: ∀ (i:Nat) (e:List PV) (j:Nat) (p:PV) (u:Value),els[i]? =some e→e[j]? =some p→all[i*k+j]? =some u→VRel S p u):
  VRel S (.ts k els) (.slice (some ⟨b,0,none⟩) n c):=by
 refine .ts hl hc hm hk ⟨b,0,none⟩ (fun _=>rfl) (fun j=>all.getD j undef) (fun j hj=> ?_) (fun i e j p hi hp=> ?_)
 ·rw [Addr.add_lit,Nat.zero_add]
  exact hM j _ (by rw [List.getD_eq_getElem?_getD,List.getElem?_eq_getElem (by omega)];rfl)
 ·have hi':=(gsi hi).1
  have hj':=(gsi hp).1
  rw [hk i e hi] at hj'
  have:=zaU (k:=k) (show i<n by omega) hj'
  exact hr i e j p _ hi hp (by rw [List.getD_eq_getElem?_getD,List.getElem?_eq_getElem (by omega)];rfl)
theorem ziH {S:St} (hS:SRel S) {e:TypeId} {k n c:Nat} (arr:Array Value) (hsz:arr.size=c*k) (hn:n≤c) (hm:c≤maxLen):
  let S':=({S with w:=S.w.drew.alloc (.cells arr e)}:St).push (.slice (some ⟨S.w.heap.size,0,none⟩) n c) (.vec e k n)
  Ext S S'∧SRel S':=by
 intro S'
 have x0:Ext S {S with w:=S.w.drew.alloc (.cells arr e)}:=by
  have:=wT hS (.cells arr e)
  exact ⟨this.x,this.os,iN,this.output,this.size,this.unt,this.mem,this.blks,this.rows⟩
 have x:Ext S S':=tZ x0 hS rfl rfl _ _ (by intro n hn;simp [sC] at hn;omega)
 exact ⟨x,uP hS x rfl rfl rfl (fun k hk=>Below.heap_alloc S.w.drew _ _ hk) (.inr ⟨S.w.heap.size,c,arr,rfl,heap_alloc_new S.w.drew _,hn,hm,hsz⟩) (by intro n hn;simp [sC] at hn;omega)⟩
theorem kQ {S:St} (hS:SRel S) {r n n':Nat} {e:TypeId} {k:Nat} {v:Value} (hb:S.h[r]? =some (.vec e k n)) {w':World} (hn:n<n') (ho:w'.os=S.w.os) (ht:TapeLe S.w w') (hu:w'.output=S.w.output) (hs:S.w.heap.size≤w'.heap.size)
  (hw: ∀ b,b<S.w.heap.size→(∀ y,S.φ[r]? =some y→sC y=some b→sC v=some b∧ ∀ j u,j<n*k→S.w.cell? ⟨b,j,none⟩=some u→w'.cell? ⟨b,j,none⟩=some u)∨w'.heap[b]? =S.w.heap[b]?)
  (hw2: ∀ b,b<S.w.heap.size→(∀ y,S.φ[r]? =some y→sC y≠some b)→w'.heap[b]? =S.w.heap[b]?)
  (hv: ∀ b,sC v=some b→(∃ y,S.φ[r]? =some y∧sC y=some b)∨S.w.heap.size≤b)
  (hz: ∀ b m,S.Row b m→St.Row {S with w:=w'} b m) (hnew:(v= .slice none 0 0∧n'=0)∨ ∃ (b c:Nat) (arr:Array Value),v= .slice (some ⟨b,0,none⟩) n' c∧w'.heap[b]? =some (.cells arr e (0,0))∧n'≤c∧c≤maxLen∧arr.size=c*k):
  Ext S {S with φ:=S.φ.set r v,h:=S.h.set r (.vec e k n'),w:=w'}∧SRel {S with φ:=S.φ.set r v,h:=S.h.set r (.vec e k n'),w:=w'}:=by
 have hr:r<S.h.length:=(gsi hb).1
 have hr':r<S.φ.length:=by rw [hS.len];exact hr
 have hφ:S.φ[r]? =some S.φ[r]:=List.getElem?_eq_getElem hr'
 have x:Ext S {S with φ:=S.φ.set r v,h:=S.h.set r (.vec e k n'),w:=w'}:=by
  refine ⟨rfl,ho,ht,hu,hs,fun b hbl hno=>⟨?_,hw2 b hbl fun y hy hby=>hno ⟨r,y,hy,hby⟩⟩,fun a u hm=> ?_,fun r' c hc=> ?_,hz⟩
  ·rintro ⟨r',y,hy,hby⟩
   simp only [List.getElem?_set] at hy
   by_cases er:r=r'
   ·subst er
    rw [if_pos rfl,if_pos hr'] at hy
    cases hy
    rcases hv b hby with ⟨z,hz,hbz⟩|h
    ·exact hno ⟨r,z,hz,hbz⟩
    ·omega
   ·rw [if_neg er] at hy
    exact hno ⟨r',y,hy,hby⟩
  ·obtain ⟨h1,h2,h3,h4,h5,h6⟩:=hm
   obtain ⟨ab,ao,asp⟩:=a
   simp only at h3 h4 h6
   subst h3
   refine ⟨?_,h2,rfl,Nat.lt_of_lt_of_le h4 hs,h5,fun r' y hy hby=> ?_⟩
   ·by_cases hown:sC S.φ[r]=some ab
    ·obtain ⟨e',k',m',hh,hlt⟩:=h6 r _ hφ hown
     rw [hb] at hh
     cases hh
     rcases hw ab h4 with h|h
     ·exact (h _ hφ hown).2 ao u hlt h1
     ·exact (World.cell?_of_block (a:=⟨ab,ao,none⟩) h).trans h1
    ·exact (World.cell?_of_block (a:=⟨ab,ao,none⟩) (hw2 ab h4 fun y hy hby=>by rw [hφ] at hy;cases hy;exact hown hby)).trans h1
   ·simp only [List.getElem?_set] at hy ⊢
    by_cases er:r=r'
    ·subst er
     rw [if_pos rfl,if_pos hr'] at hy
     rw [if_pos rfl,if_pos hr]
     cases hy
     refine ⟨e,k,n',rfl,?_⟩
     rcases hv ab hby with ⟨z,hz,hbz⟩|h
     ·obtain ⟨e',k',m',hh,hlt⟩:=h6 r z hz hbz
      rw [hb] at hh
      cases hh
      exact Nat.lt_of_lt_of_le hlt (Nat.mul_le_mul_right k (Nat.le_of_lt hn))
     ·omega
    ·rw [if_neg er] at hy ⊢
     exact h6 r' y hy hby
  ·by_cases er:r=r'
   ·subst er
    rw [hb] at hc
    cases hc
    exact ⟨.vec e k n',by simp [hr],by simp only [Blk.le];exact ⟨trivial,trivial,Nat.le_of_lt hn,fun h=>absurd h (by omega)⟩⟩
   ·exact ⟨c,by simp only [List.getElem?_set,if_neg er];exact hc,Blk.le_refl c (by simp only [List.getElem?_set,if_neg er])⟩
 refine ⟨x,by simp [hS.len],fun r' c y hc hy=> ?_,fun r1 r2 y1 y2 b h1 h2 hb1 hb2=> ?_,fun a ha=>Nat.lt_of_lt_of_le (hS.xlt a ha) hs,fun a ha r1 y1 h1 hb1=> ?_⟩
 ·simp only [List.getElem?_set] at hc hy
  by_cases er:r=r'
  ·subst er
   rw [if_pos rfl,if_pos hr] at hc
   rw [if_pos rfl,if_pos hr'] at hy
   cases hc;cases hy
   exact hnew
  ·rw [if_neg er] at hc hy
   refine (hS.blks r' c y hc hy).ext x fun b hby=>hw2 b (hS.own_lt ⟨r',y,hy,hby⟩) fun z hz hbz=> ?_
   exact er (hS.inj r r' z y b hz hy hbz hby)
 ·have key: ∀ r1 y1,(S.φ.set r v)[r1]? =some y1→sC y1=some b→(r1≠r∧S.φ[r1]? =some y1)∨(r1=r∧((∃ y,S.φ[r]? =some y∧sC y=some b)∨S.w.heap.size≤b)):=by
   intro r1 y1 h hbb
   simp only [List.getElem?_set] at h
   by_cases er:r=r1
   ·subst er
    rw [if_pos rfl,if_pos hr'] at h
    cases h
    exact .inr ⟨rfl,hv b hbb⟩
   ·rw [if_neg er] at h
    exact .inl ⟨fun e=>er e.symm,h⟩
  rcases key r1 y1 h1 hb1 with ⟨n1,g1⟩|⟨rfl,g1⟩<;>rcases key r2 y2 h2 hb2 with ⟨n2,g2⟩|⟨e2,g2⟩
  ·exact hS.inj _ _ _ _ _ g1 g2 hb1 hb2
  ·subst e2
   rcases g2 with ⟨z,hz,hbz⟩|h
   ·exact hS.inj _ _ _ _ _ g1 hz hb1 hbz
   ·have:=hS.own_lt ⟨r1,y1,g1,hb1⟩;omega
  ·rcases g1 with ⟨z,hz,hbz⟩|h
   ·exact hS.inj _ _ _ _ _ hz g2 hbz hb2
   ·have:=hS.own_lt ⟨r2,y2,g2,hb2⟩;omega
  ·exact e2.symm
 ·simp only [List.getElem?_set] at h1
  by_cases er:r=r1
  ·subst er
   rw [if_pos rfl,if_pos hr'] at h1
   cases h1
   rcases hv _ hb1 with ⟨z,hz,hbz⟩|h
   ·exact hS.xown a ha r z hz hbz
   ·have:=hS.xlt a ha;omega
  ·rw [if_neg er] at h1
   exact hS.xown a ha r1 y1 h1 hb1
theorem sH {k n:Nat} {els xs:List (List PV)} {olds news:List Value} {S S':St} (hl:els.length=n) (ho:olds.length=n*k) (hk: ∀ (i:Nat) (e:List PV),els[i]? =some e→e.length=k)
  (hr: ∀ (i:Nat) (e:List PV) (j:Nat) (p:PV) (u:Value),els[i]? =some e→e[j]? =some p→olds[i*k+j]? =some u→VRel S p u)
  (hk': ∀ (i:Nat) (e:List PV),xs[i]? =some e→e.length=k) (hr': ∀ (i:Nat) (e:List PV) (j:Nat) (p:PV) (u:Value),xs[i]? =some e→e[j]? =some p→news[i*k+j]? =some u→VRel S p u) (x:Ext S S'):
  (∀ (i:Nat) (e:List PV),(els++xs)[i]? =some e→e.length=k)∧
  ∀ (i:Nat) (e:List PV) (j:Nat) (p:PV) (u:Value),(els++xs)[i]? =some e→e[j]? =some p→(olds++news)[i*k+j]? =some u→VRel S' p u:=by
 constructor
 ·intro i e hi
  rw [List.getElem?_append] at hi
  split at hi
  ·exact hk i e hi
  ·exact hk' _ e hi
 ·intro i e j p u hi hp hu
  rw [List.getElem?_append] at hi hu
  split at hi
  ·rename_i hlt
   have hj:=(gsi hp).1
   rw [hk i e hi] at hj
   have:=zaU (k:=k) (show i<n by omega) hj
   rw [if_pos (by omega)] at hu
   exact (hr i e j p u hi hp hu).ext x
  ·rename_i hge
   have:n*k≤i*k:=Nat.mul_le_mul_right k (by omega)
   rw [if_neg (by omega)] at hu
   refine (hr' _ e j p u hi hp ?_).ext x
   rw [←hu,ho]
   congr 1
   rw [Nat.sub_mul,hl]
   omega
theorem oH {n m b:Nat} (h:(n+m)*b≤140737488355328):(n+m)*b≤281474976710656:=by omega
set_option maxHeartbeats 1000000 in
theorem jW {P:Program} {S:St} (hS:SRel S) {t ty e:TypeId} {r k b:Nat} {els xs:List (List PV)} {q:PV} {u v:Value} (ht:wD P t=some (e,k,b)) (hu:VRel S (.vec r k els) u) (hb:S.h[r]? =some (.vec e k els.length))
  (hq:rO S.h k q=some xs) (hv:VRel S q v) (hbytes:(els.length+xs.length)*b≤140737488355328) (hlen:els.length+xs.length≤140737488355328):
  ∃ z w' φ',(Builtin.append_ #[t,t] ty #[u,v]).run P S.w= .ok z w'∧Ext S {S with φ:=φ',h:=S.h.set r (.vec e k (els.length+xs.length)),w:=w'}∧
   SRel {S with φ:=φ',h:=S.h.set r (.vec e k (els.length+xs.length)),w:=w'}∧VRel {S with φ:=φ',h:=S.h.set r (.vec e k (els.length+xs.length)),w:=w'} (.vec r k (els++xs)) z:=by
 obtain ⟨htu,i,zv,hi,hz,hsz,hby,hzs,hk0⟩:=uH ht
 have hr:r<S.h.length:=(gsi hb).1
 have hmx:(140737488355328:Nat)≤maxLen:=by simp [maxLen]
 cases hu with
 | vec hts hb' hle ho=>
  rename_i n0 e0
  rw [hb] at hb'
  cases hb'
  have hφ:=ho rfl
  obtain ⟨a,c,news,rfl,hsrc⟩:=iO hS hq hv hk0
  rcases Nat.eq_zero_or_pos xs.length with hx0|hx0
  ·have hxs:xs=[]:=List.eq_nil_of_length_eq_zero hx0
   subst hxs
   refine ⟨u,S.w,S.φ,?_,?_⟩
   ·obtain ⟨a1,c1,ad1,val1,rfl,g1,g2,_⟩:=uU hts
    simp [Builtin.append_,run_underlying htu,sizeOf,typeInfo,hi,Builtin.lenOf,Builtin.firstCells,g1]
    cases a<;>cases a1<;>simp [Builtin.firstCells,loadCells,loadCellsFrom,storeCells]
   ·have e0:S.h.set r (.vec e k (els.length+([]:List (List PV)).length))=S.h:=by
     apply List.ext_getElem?
     intro j
     rw [List.getElem?_set]
     split
     ·rename_i hj;subst hj;rw [hb];simp [hr]
     ·rfl
    rw [e0,List.append_nil]
    exact ⟨Ext.refl _,hS,.vec hts hb (Nat.le_refl _) (fun _=>hφ)⟩
  ·obtain ⟨ad,rfl,hnews⟩:=hsrc.addr hx0
   obtain ⟨a1,c1,ad1,val1,hu1,g1,g2,g3,g4,g5,g6⟩:=uU hts
   obtain ⟨olds,holds⟩: ∃ olds:List Value,olds=(List.range (els.length*k)).map val1:=⟨_,rfl⟩
   have hol:olds.length=els.length*k:=by rw [holds];simp
   have hog: ∀ j v,olds[j]? =some v→j<els.length*k∧v=val1 j:=fun j v hj=>by
    rw [holds,List.getElem?_map] at hj
    cases hk:(List.range (els.length*k))[j]? with
    |none=>rw [hk] at hj;cases hj
    |some j'=>
     rw [hk] at hj
     cases hj
     obtain ⟨hlt,rfl⟩:=gsi hk
     simp at hlt ⊢
     exact hlt
   have hor: ∀ (i:Nat) (e:List PV) (j:Nat) (p:PV) (u:Value),els[i]? =some e→e[j]? =some p→olds[i*k+j]? =some u→VRel S p u:=fun i e j p u hi hp hu=>by
    obtain ⟨_,rfl⟩:=hog _ _ hu
    exact g6 i e j p hi hp
   have hal:(olds++news).length=(els.length+xs.length)*k:=by rw [List.length_append,hol,hsrc.len,Nat.add_mul]
   have hlenA:(els++xs).length=els.length+xs.length:=List.length_append
   have hone: ∀ u∈olds++news,u.oneCell'=true:=fun u hu=>by
    rcases List.mem_append.1 hu with h|h
    ·obtain ⟨j,hj,rfl⟩:=List.getElem_of_mem h
     obtain ⟨hlt,he⟩:=hog j _ (List.getElem?_eq_getElem hj)
     rw [he]
     exact (g5 j hlt).2.1
    ·exact hsrc.one u h
   have fin: ∀ (φ':List Value) (w':World) (b2 c2:Nat) (arr:Array Value),Ext S {S with φ:=φ',h:=S.h.set r (.vec e k (els.length+xs.length)),w:=w'}→
     SRel {S with φ:=φ',h:=S.h.set r (.vec e k (els.length+xs.length)),w:=w'}→φ'=S.φ.set r (.slice (some ⟨b2,0,none⟩) (els.length+xs.length) c2)→w'.heap[b2]? =some (.cells arr e (0,0))→
     arr.toList.take ((els.length+xs.length)*k)=olds++news→els.length+xs.length≤c2→c2≤maxLen→
     VRel {S with φ:=φ',h:=S.h.set r (.vec e k (els.length+xs.length)),w:=w'} (.vec r k (els++xs)) (.slice (some ⟨b2,0,none⟩) (els.length+xs.length) c2):=by
    intro φ' w' b2 c2 arr x hS' hφ' hw' harr hc2 hm2
    have hown:φ'[r]? =some (.slice (some ⟨b2,0,none⟩) (els.length+xs.length) c2):=by rw [hφ',List.getElem?_set,if_pos rfl,if_pos (by rw [hS.len];exact hr)]
    obtain ⟨q1,q2⟩:=sH rfl hol g3 hor hsrc.elen hsrc.rel x
    refine .vec (n:=els.length+xs.length) (e:=e) (oF hlenA q1 hc2 hm2 (fun j u hj=> ?_) hal q2) (by simp [hr]) (by omega) (fun _=>hown)
    have hjl:=(gsi hj).1
    refine ⟨?_,hone u (List.mem_of_getElem? hj),rfl,(Array.getElem?_eq_some_iff.1 hw').1,fun hx=> ?_,fun r' y hy hby=> ?_⟩
    ·rw [cell_of_row _ _ _ _ _ _ hw']
     rw [←harr,List.getElem?_take] at hj
     split at hj
     ·simpa using hj
     ·cases hj
    ·exact hS'.xown _ hx r _ hown rfl
    ·simp only [sC] at hby
     have:r'=r:=hS'.inj r' r y _ b2 hy hown hby rfl
     subst this
     exact ⟨e,k,els.length+xs.length,by simp [hr],by rw [←hal];exact hjl⟩
   have zc: ∀ (N cp:Nat),N≤cp→ ∀ (pre:List Value),pre.length=N*k→(pre.toArray++Builtin.zeroCells zv.cells (cp-N)).size=cp*k:=fun N cp hN pre hp=>by
    rw [Array.size_append,List.size_toArray,size_zeroCells,hzs,hp, ←Nat.add_mul]
    congr 1
    omega
   have moved: ∀ (w':World) (old:Nat),old<els.length+xs.length→w'=S.w.drew.alloc (.cells ((olds++news).toArray++Builtin.zeroCells zv.cells (grownCap S.w (els.length+xs.length) old e-(els.length+xs.length))) e)→
     (Builtin.append_ #[t,t] ty #[u,.slice (some ad) xs.length c]).run P S.w= .ok (.slice (some ⟨S.w.heap.size,0,none⟩) (els.length+xs.length) (grownCap S.w (els.length+xs.length) old e)) w'→
     ∃ z w' φ',(Builtin.append_ #[t,t] ty #[u,.slice (some ad) xs.length c]).run P S.w= .ok z w'∧Ext S {S with φ:=φ',h:=S.h.set r (.vec e k (els.length+xs.length)),w:=w'}∧
      SRel {S with φ:=φ',h:=S.h.set r (.vec e k (els.length+xs.length)),w:=w'}∧VRel {S with φ:=φ',h:=S.h.set r (.vec e k (els.length+xs.length)),w:=w'} (.vec r k (els++xs)) z:=by
    intro w' old hold hw' hrun
    have hge:=grownCap_ge S.w (els.length+xs.length) old e
    have hcm:=grownCap_le_maxLen S.w (els.length+xs.length) old e (by omega)
    have hnewb:w'.heap[S.w.heap.size]? =some (.cells ((olds++news).toArray++Builtin.zeroCells zv.cells (grownCap S.w (els.length+xs.length) old e-(els.length+xs.length))) e (0,0)):=by
     rw [hw'];exact heap_alloc_new S.w.drew _
    have hsame: ∀ b,b<S.w.heap.size→w'.heap[b]? =S.w.heap[b]? :=fun b hb=>by rw [hw'];exact Below.heap_alloc S.w.drew _ _ hb
    obtain ⟨x,hS'⟩:=kQ (v:= .slice (some ⟨S.w.heap.size,0,none⟩) (els.length+xs.length) (grownCap S.w (els.length+xs.length) old e)) (n':=els.length+xs.length) (w':=w') hS hb (by omega) (by rw [hw'];rfl) (by rw [hw'];exact iN) (by rw [hw'];rfl) (by rw [hw'];simp)
     (fun b hb=> .inr (hsame b hb)) (fun b hb _=>hsame b hb) (fun b hb=> .inr (by simp [sC] at hb;omega)) (fun b m ⟨ar,t1,f1,h1,h2⟩=>⟨ar,t1,f1,(hsame b (Array.getElem?_eq_some_iff.1 h1).1).trans h1,h2⟩) (.inr ⟨_,_,_,rfl,hnewb,hge,hcm,zc _ _ hge _ hal⟩)
    refine ⟨_,w',_,hrun,x,hS',fin _ w' _ _ _ x hS' rfl hnewb ?_ hge hcm⟩
    simp only [Array.toList_append]
    rw [←hal]
    exact List.take_left
   rcases hS.blks r _ _ hb hφ with ⟨he,hn0⟩|⟨g,cp,cur,he,hg,hnc,hcm,hcs⟩
   ·have ho0:olds=[]:=List.eq_nil_of_length_eq_zero (by rw [hol,hn0,Nat.zero_mul])
    have hxn:0+xs.length=els.length+xs.length:=by omega
    have hr1:=run_append_nil (P:=P) S.w t ty e i zv htu hi hz ad xs.length c news (by rw [hsrc.len,hsz]) hnews hx0 (by omega) (by rw [hby];have:=oH hbytes;rw [hn0,Nat.zero_add] at this;exact this)
    refine moved _ 0 (by omega) rfl ?_
    rw [ho0,hn0,he,Nat.zero_add,List.nil_append]
    exact hr1
   ·have he1:els.length=els.length:=rfl
    have hu1':=hu1
    rw [he] at hu1
    cases hu1
    by_cases hroom:els.length+xs.length≤c1
    ·have hcur:cur.toList.take (els.length*k)=olds:=by
      apply List.ext_getElem?
      intro j
      rw [List.getElem?_take]
      split
      ·rename_i hj
       have h1:=(g5 j hj).1
       rcases Nat.eq_zero_or_pos els.length with h0|h0
       ·rw [h0] at hj;omega
       ·have ha:=g4 (by omega)
        cases ha
        rw [Addr.add_lit,Nat.zero_add,cell_of_row _ _ _ _ _ _ hg] at h1
        rw [Array.getElem?_toList,h1,holds,List.getElem?_map,List.getElem?_range (by omega)]
        rfl
      ·rename_i hj
       rw [List.getElem?_eq_none (by rw [hol];omega)]
     have hfit:els.length*k+news.length≤cur.size:=by rw [hsrc.len,hcs, ←Nat.add_mul];exact Nat.mul_le_mul_right _ hroom
     have hr1:=run_append_room (P:=P) S.w t ty e i htu hi g els.length c1 cur hg ad xs.length c news (by rw [hsrc.len,hsz]) hnews hsrc.one hroom (by rw [hsz];exact hfit)
     rw [hsz,hcur] at hr1
     have hnewb:(S.w.setRow g (olds++news++cur.toList.drop (els.length*k+news.length)).toArray).heap[g]? =some (.cells (olds++news++cur.toList.drop (els.length*k+news.length)).toArray e (0,0)):=setRow_heap S.w g cur _ e _ hg
     have hother: ∀ b,b≠g→(S.w.setRow g (olds++news++cur.toList.drop (els.length*k+news.length)).toArray).heap[b]? =S.w.heap[b]? :=fun b hb=>setRow_other S.w g b _ hb
     obtain ⟨x,hS'⟩:=kQ (v:= .slice (some ⟨g,0,none⟩) (els.length+xs.length) c1) (n':=els.length+xs.length) (w':=S.w.setRow g (olds++news++cur.toList.drop (els.length*k+news.length)).toArray) hS hb (by omega) rfl iN rfl (by simp)
      (fun b hb=>by
       by_cases hbg:b=g
       ·subst hbg
        refine .inl fun y hy hby=>⟨rfl,fun j u hj hju=> ?_⟩
        rw [cell_of_row _ _ _ _ _ _ hg] at hju
        rw [cell_of_row _ _ _ _ _ _ hnewb]
        have h2:olds[j]? =some u:=by rw [←hcur,List.getElem?_take,if_pos hj];simpa using hju
        have h3:=(gsi h2).1
        simp only [List.getElem?_toArray,List.append_assoc]
        rw [List.getElem?_append,if_pos h3]
        exact h2
       ·exact .inr (hother b hbg))
      (fun b hb hne=>hother b fun hbg=>hne _ hφ (by rw [he,hbg];rfl)) (fun b hb=> .inl ⟨_,hφ,by rw [he];exact hb⟩)
      (fun b m ⟨ar,t1,f1,h1,h2⟩=>by
       by_cases hbg:b=g
       ·subst hbg
        rw [hg] at h1
        cases h1
        exact ⟨_,_,_,hnewb,by simp;omega⟩
       ·exact ⟨ar,t1,f1,(hother b hbg).trans h1,h2⟩)
      (.inr ⟨g,c1,_,rfl,hnewb,hroom,hcm,by simp;omega⟩)
     refine ⟨_,_,_,by rw [he];exact hr1,x,hS',fin _ _ _ _ _ x hS' rfl hnewb ?_ hroom hcm⟩
     rw [←hal]
     exact List.take_left
    ·have hold: ∀ j v,olds[j]? =some v→S.w.cell? ((⟨g,0,none⟩:Addr).add j)=some v:=fun j v hj=>by
      obtain ⟨hlt,rfl⟩:=hog j v hj
      rcases Nat.eq_zero_or_pos els.length with h0|h0
      ·rw [h0] at hlt;omega
      ·have ha:=g4 (by omega)
       cases ha
       exact (g5 j hlt).1
     have hr1:=run_append_grow (P:=P) S.w t ty e i zv htu hi hz ⟨g,0,none⟩ els.length c1 olds (by rw [hol,hsz]) hold ad xs.length c news (by rw [hsrc.len,hsz]) hnews (by omega) (by omega) (by rw [hby];exact growslice_fits (by omega) hbytes)
     refine moved _ c1 (by omega) rfl ?_
     rw [he]
     rw [←List.append_toArray]
     exact hr1
end Go.AL
namespace Go.AL
open Go.RowKit
theorem zdS {S:St} (hS:SRel S) (e:TypeId) (k:Nat):Ext S (S.push (.slice none 0 0) (.vec e k 0))∧SRel (S.push (.slice none 0 0) (.vec e k 0))∧VRel (S.push (.slice none 0 0) (.vec e k 0)) (.vec S.h.length k []) (.slice none 0 0):=by
 have x:Ext S (S.push (.slice none 0 0) (.vec e k 0)):=tZ (Ext.refl S) hS rfl rfl _ _ (by intro n hn;simp [sC] at hn)
 refine ⟨x,uP hS x rfl rfl rfl (fun _ _=>rfl) (.inl ⟨rfl,rfl⟩) (by intro n hn;simp [sC] at hn),.vec (n:=0) (e:=e) ?_ (by simp [St.push]) (by simp) (fun _=>by simp [St.push,hS.len])⟩
 exact .ts rfl (Nat.le_refl _) (Nat.zero_le _) (by simp) ⟨0,0,none⟩ (fun h=>absurd rfl h) (fun _=>undef) (by simp) (by simp)
theorem append_nil {P:Program} {S:St} (hS:SRel S) {t ty e:TypeId} {k b:Nat} {xs:List (List PV)} {q:PV} {u v:Value} (ht:wD P t=some (e,k,b)) (hu:VRel S .nil u)
  (hq:rO S.h k q=some xs) (hv:VRel S q v) (hbytes:xs.length*b≤140737488355328) (hlen:xs.length≤140737488355328):
  ∃ z w' φ',(Builtin.append_ #[t,t] ty #[u,v]).run P S.w= .ok z w'∧Ext S {S with φ:=φ',h:=S.h++[.vec e k xs.length],w:=w'}∧
   SRel {S with φ:=φ',h:=S.h++[.vec e k xs.length],w:=w'}∧VRel {S with φ:=φ',h:=S.h++[.vec e k xs.length],w:=w'} (.vec S.h.length k xs) z:=by
 cases hu
 obtain ⟨x1,h1,v1⟩:=zdS hS e k
 have hq':rO (S.push (.slice none 0 0) (.vec e k 0)).h k q=some xs:=by
  cases q<;>simp only [rO] at hq ⊢ <;>try exact hq
  rename_i r off k' len
  split at hq
  ·rename_i hk
   rw [if_pos hk]
   split at hq
   ·rename_i tt cs hb
    have hr:=(gsi hb).1
    simp only [St.push,List.getElem?_append,if_pos hr,hb]
    exact hq
   ·cases hq
  ·cases hq
 obtain ⟨z,w',φ',hr,x2,h2,v2⟩:=jW (P:=P) (ty:=ty) h1 ht v1 (by simp [St.push]) hq' (hv.ext x1) (by simpa using hbytes) (by simpa using hlen)
 have eh:(S.push (.slice none 0 0) (.vec e k 0)).h.set S.h.length (.vec e k (([]:List (List PV)).length+xs.length))=S.h++[.vec e k xs.length]:=by
  simp [St.push]
 rw [eh] at x2 h2 v2
 exact ⟨z,w',φ',hr,x1.trans x2,h2,v2⟩
theorem zeK {P:Program} {S:St} (hS:SRel S) {t ty e:TypeId} {k b:Nat} {els xs:List (List PV)} {q:PV} {u v:Value} (ht:wD P t=some (e,k,b)) (hu:VRel S (.tc k els) u)
  (hq:rO S.h k q=some xs) (hv:VRel S q v) (hbytes:(els.length+xs.length)*b≤140737488355328) (hlen:els.length+xs.length≤140737488355328) (hx0:0<xs.length):
  ∃ z w' φ',(Builtin.append_ #[t,t] ty #[u,v]).run P S.w= .ok z w'∧Ext S {S with φ:=φ',h:=S.h++[.vec e k (els.length+xs.length)],w:=w'}∧
   SRel {S with φ:=φ',h:=S.h++[.vec e k (els.length+xs.length)],w:=w'}∧VRel {S with φ:=φ',h:=S.h++[.vec e k (els.length+xs.length)],w:=w'} (.vec S.h.length k (els++xs)) z:=by
 obtain ⟨htu,i,zv,hi,hz,hsz,hby,hzs,hk0⟩:=uH ht
 have hmx:(140737488355328:Nat)≤maxLen:=by simp [maxLen]
 cases hu with
 | tc hts=>
  rename_i n a1
  obtain ⟨a,c,news,rfl,hsrc⟩:=iO hS hq hv hk0
  obtain ⟨ad,rfl,hnews⟩:=hsrc.addr hx0
  obtain ⟨a2,c1,ad1,val1,hu1,g1,g2,g3,g4,g5,g6⟩:=uU hts
  cases hu1
  obtain ⟨olds,holds⟩: ∃ olds:List Value,olds=(List.range (els.length*k)).map val1:=⟨_,rfl⟩
  have hol:olds.length=els.length*k:=by rw [holds];simp
  have hog: ∀ j v,olds[j]? =some v→j<els.length*k∧v=val1 j:=fun j v hj=>by
   rw [holds,List.getElem?_map] at hj
   cases hk:(List.range (els.length*k))[j]? with
   |none=>rw [hk] at hj;cases hj
   |some j'=>
    rw [hk] at hj
    cases hj
    obtain ⟨hlt,rfl⟩:=gsi hk
    simp at hlt ⊢
    exact hlt
  have hor: ∀ (i:Nat) (e:List PV) (j:Nat) (p:PV) (u:Value),els[i]? =some e→e[j]? =some p→olds[i*k+j]? =some u→VRel S p u:=fun i e j p u hi hp hu=>by
   obtain ⟨_,rfl⟩:=hog _ _ hu
   exact g6 i e j p hi hp
  have hal:(olds++news).length=(els.length+xs.length)*k:=by rw [List.length_append,hol,hsrc.len,Nat.add_mul]
  have hone: ∀ u∈olds++news,u.oneCell'=true:=fun u hu=>by
   rcases List.mem_append.1 hu with h|h
   ·obtain ⟨j,hj,rfl⟩:=List.getElem_of_mem h
    obtain ⟨hlt,he⟩:=hog j _ (List.getElem?_eq_getElem hj)
    rw [he]
    exact (g5 j hlt).2.1
   ·exact hsrc.one u h
  have key: ∀ old,old<els.length+xs.length→(Builtin.append_ #[t,t] ty #[.slice a1 els.length els.length,.slice (some ad) xs.length c]).run P S.w=
    .ok (.slice (some ⟨S.w.heap.size,0,none⟩) (els.length+xs.length) (grownCap S.w (els.length+xs.length) old e)) (S.w.drew.alloc (.cells ((olds++news).toArray++Builtin.zeroCells zv.cells (grownCap S.w (els.length+xs.length) old e-(els.length+xs.length))) e))→
    ∃ z w' φ',(Builtin.append_ #[t,t] ty #[.slice a1 els.length els.length,.slice (some ad) xs.length c]).run P S.w= .ok z w'∧Ext S {S with φ:=φ',h:=S.h++[.vec e k (els.length+xs.length)],w:=w'}∧
     SRel {S with φ:=φ',h:=S.h++[.vec e k (els.length+xs.length)],w:=w'}∧VRel {S with φ:=φ',h:=S.h++[.vec e k (els.length+xs.length)],w:=w'} (.vec S.h.length k (els++xs)) z:=by
   intro old hold hrun
   have hge:=grownCap_ge S.w (els.length+xs.length) old e
   have hcm:=grownCap_le_maxLen S.w (els.length+xs.length) old e (by omega)
   have hsz':((olds++news).toArray++Builtin.zeroCells zv.cells (grownCap S.w (els.length+xs.length) old e-(els.length+xs.length))).size=grownCap S.w (els.length+xs.length) old e*k:=by
    rw [Array.size_append,List.size_toArray,size_zeroCells,hzs,hal, ←Nat.add_mul]
    congr 1
    omega
   obtain ⟨x,hS'⟩:=ziH (e:=e) hS _ hsz' hge hcm
   refine ⟨_,_,_,hrun,x,hS',?_⟩
   obtain ⟨q1,q2⟩:=sH rfl hol g3 hor hsrc.elen hsrc.rel x
   have hown:(S.φ++[Value.slice (some ⟨S.w.heap.size,0,none⟩) (els.length+xs.length) (grownCap S.w (els.length+xs.length) old e)])[S.h.length]? =some (Value.slice (some ⟨S.w.heap.size,0,none⟩) (els.length+xs.length) (grownCap S.w (els.length+xs.length) old e)):=by rw [←hS.len];simp
   refine .vec (n:=els.length+xs.length) (e:=e) (oF (List.length_append) q1 hge hcm (fun j u hj=> ?_) hal q2) (by simp) (by simp) (fun _=>hown)
   have hjl:=(gsi hj).1
   have hnewb:(S.w.drew.alloc (.cells ((olds++news).toArray++Builtin.zeroCells zv.cells (grownCap S.w (els.length+xs.length) old e-(els.length+xs.length))) e)).heap[S.w.heap.size]? =some (.cells ((olds++news).toArray++Builtin.zeroCells zv.cells (grownCap S.w (els.length+xs.length) old e-(els.length+xs.length))) e (0,0)):=heap_alloc_new S.w.drew _
   refine ⟨?_,hone u (List.mem_of_getElem? hj),rfl,(Array.getElem?_eq_some_iff.1 hnewb).1,fun hx=>hS'.xown _ hx S.h.length _ hown rfl,fun r' y hy hby=> ?_⟩
   ·show World.cell? (S.w.drew.alloc _) _=_
    rw [cell_of_row _ _ _ _ _ _ hnewb]
    rw [Array.getElem?_append,if_pos (by simpa using hjl)]
    simpa using hj
   ·simp only [sC] at hby
    have:r'=S.h.length:=hS'.inj r' _ y _ S.w.heap.size hy hown hby rfl
    subst this
    exact ⟨e,k,els.length+xs.length,by simp [St.push],by rw [←hal];exact hjl⟩
  cases a1 with
  |none=>
   have h0:els.length=0:=Nat.eq_zero_of_not_pos fun h=>by have:=g4 (by omega);cases this
   have ho0:olds=[]:=List.eq_nil_of_length_eq_zero (by rw [hol,h0,Nat.zero_mul])
   have hr1:=run_append_nil (P:=P) S.w t ty e i zv htu hi hz ad xs.length c news (by rw [hsrc.len,hsz]) hnews hx0 (by omega) (by rw [hby];have:=oH hbytes;rw [h0,Nat.zero_add] at this;exact this)
   refine key 0 (by omega) ?_
   rw [ho0,h0,Nat.zero_add,List.nil_append]
   exact hr1
  | some b1=>
   have hold: ∀ j v,olds[j]? =some v→S.w.cell? (b1.add j)=some v:=fun j v hj=>by
    obtain ⟨hlt,rfl⟩:=hog j v hj
    rcases Nat.eq_zero_or_pos els.length with h0|h0
    ·rw [h0] at hlt;omega
    ·have ha:=g4 (by omega)
     cases ha
     exact (g5 j hlt).1
   have hr1:=run_append_grow (P:=P) S.w t ty e i zv htu hi hz b1 els.length els.length olds (by rw [hol,hsz]) hold ad xs.length c news (by rw [hsrc.len,hsz]) hnews (by omega) (by omega) (by rw [hby];exact growslice_fits (by omega) hbytes)
   refine key els.length (by omega) ?_
   rw [←List.append_toArray]
   exact hr1
end Go.AL
namespace Go.AL
open Go.RowKit
theorem zdW (off:Nat): ∀ (l:List Value) (i:Nat) (cells:Array Value),off+i+l.length≤cells.size→
  ((l.zipIdx i).foldl (fun cs (x:Value×Nat)=>cs.setIfInBounds (off+x.2) x.1) cells).toList=cells.toList.take (off+i)++l++cells.toList.drop (off+i+l.length):=by
 intro l
 induction l with
 |nil=>intro i cells _;simp
 |cons v l ih=>
  intro i cells h
  simp only [List.length_cons] at h
  simp only [List.zipIdx_cons,List.foldl_cons]
  rw [ih (i+1) _ (by simp;omega),Array.toList_setIfInBounds]
  have:=lW cells.toList (off+i) l v (by simp;omega)
  rw [show off+(i+1)=off+i+1 by omega,this]
  simp
def lM (place:Nat→Option (Nat×Nat)) (cells:List PV):List (Nat×PV)→Option (List PV)
 | []=>some cells
 |(i,p)::rest=>
  match place i with
  |none=>none
  |some (off,size)=>if wI p=true∧(xD p).length=size∧off+size≤cells.length then lM place (splice cells off (xD p)) rest else none
structure CRel (S:St) (cs:List PV) (vs:Array Value):Prop where
 len:vs.size=cs.length
 one: ∀ (i:Nat) (u:Value),vs[i]? =some u→u.oneCell'=true
 rel: ∀ (i:Nat) (p:PV) (u:Value),cs[i]? =some p→vs[i]? =some u→VRel S p u
theorem CRel.splice {S:St} {cs ps:List PV} {vs us ws:Array Value} {off:Nat} (h:CRel S cs vs) (k:CRel S ps us) (hl:off+ps.length≤cs.length)
  (hw:ws.toList=vs.toList.take off++us.toList++vs.toList.drop (off+us.size)):CRel S (AL.splice cs off ps) ws:=by
 have h1:=h.len
 have k1:=k.len
 have hws: ∀ i:Nat,ws[i]? =(vs.toList.take off++us.toList++vs.toList.drop (off+us.size))[i]? :=fun i=>by rw [←hw,Array.getElem?_toList]
 have m1:min off vs.size=off:=by omega
 have m2:min off cs.length=off:=by omega
 refine ⟨?_,fun i u hu=> ?_,fun i p u hp hu=> ?_⟩
 ·have:ws.size=ws.toList.length:=by simp
  rw [this,hw]
  simp [AL.splice]
  omega
 ·rw [hws] at hu
  simp only [List.getElem?_append,List.length_take,Array.length_toList,List.length_append,List.getElem?_take,List.getElem?_drop,Array.getElem?_toList] at hu
  split at hu
  ·split at hu
   ·split at hu
    ·exact h.one _ u hu
    ·cases hu
   ·exact k.one _ u hu
  ·exact h.one _ u hu
 ·rw [hws] at hu
  simp only [List.getElem?_append,List.length_take,Array.length_toList,List.length_append,List.getElem?_take,List.getElem?_drop,Array.getElem?_toList,m1] at hu
  simp only [AL.splice,List.getElem?_append,List.length_take,List.length_append,List.getElem?_take,List.getElem?_drop,m2] at hp
  by_cases c1:i<off
  ·rw [if_pos (by omega),if_pos c1,if_pos c1] at hp hu
   exact h.rel i p u hp hu
  ·by_cases c2:i<off+ps.length
   ·rw [if_pos (by omega),if_neg c1] at hp hu
    exact k.rel _ p u hp hu
   ·rw [if_neg (by omega)] at hp hu
    refine h.rel _ p u hp ?_
    rw [←hu]
    congr 1
    omega
theorem vM {S:St} {p:PV} {v:Value} (h:wI p=true) (hv:VRel S p v):CRel S (xD p) v.cells:=
 let ⟨a,b,c⟩:=jM h hv
 ⟨a,b,c⟩
theorem zb1 {S:St} {place:Nat→Option (Nat×Nat)} {f:Operand→PV} {ρ:Operand→Value}: ∀ (l:List (Nat×Operand)) (cs cs':List PV) (vs:Array Value),(∀ x∈l,VRel S (f x.2) (ρ x.2))→CRel S cs vs→
  lM place cs (l.map fun x=>(x.1,f x.2))=some cs'→ ∃ vs',Instr.fill place vs (l.map fun x=>(x.1,ρ x.2))=some vs'∧CRel S cs' vs':=by
 intro l
 induction l with
 |nil=>intro cs cs' vs _ h he;cases he;exact ⟨vs,rfl,h⟩
 | cons x l ih=>
  intro cs cs' vs hx h he
  simp only [List.map_cons,lM] at he
  simp only [List.map_cons,Instr.fill]
  split at he
  ·cases he
  ·rename_i off size hpl
   split at he
   case isFalse=>cases he
   rename_i hc
   obtain ⟨hs,hl,hle⟩:=hc
   have k:=vM hs (hx x (List.mem_cons_self ..))
   have e1:(ρ x.2).cells.size=size:=by rw [k.len,hl]
   have e2:vs.size=cs.length:=h.len
   rw [hpl]
   simp only []
   rw [if_neg (by rw [e1];simp;omega)]
   have hfold:=zdW off (ρ x.2).cells.toList 0 vs (by simp;omega)
   refine ih _ cs' _ (fun y hy=>hx y (List.mem_cons_of_mem _ hy)) (h.splice k (by omega) ?_) he
   rw [←Array.foldl_toList,Array.toList_zipIdx]
   simpa using hfold
def zS (P:Program) (t:TypeId):Option Value:=(P.info? t).bind (·.zero)
def xW (P:Program) (t:TypeId):Option (Nat→Option (Nat×Nat)):=
 match P.underlying t with
 |some (.struct fs)=>if fs.all fun f=>(xL P f.type).isSome then some fun i=>(fs[i]?).bind fun f=>(xL P f.type).map fun s=>(f.offset,s) else none
 |some (.array _ e)=>(xL P e).map fun s i=>some (i*s,s)
 |_=>none
def kB (P:Program) (t:TypeId) (ps:List (Nat×PV)):Option PV:=
 match zS P t,xW P t with
 |some z,some pl=>if wI (nI z) then (lM pl (xD (nI z)) ps).map .agg else none
 |_,_=>none
theorem mP {P:Program} {t:TypeId} {z:Value} (h:zS P t=some z) (w:World):(zeroValue t).run P w= .ok z w:=by
 unfold zS at h
 cases hi:P.info? t with
 |none=>rw [hi] at h;cases h
 |some i=>
  rw [hi] at h
  simp only [Option.bind_some] at h
  simp [zeroValue,typeInfo,hi,h]
theorem aH {P:Program} (w:World): ∀ (l:List Field),(l.all fun f=>(xL P f.type).isSome)=true→
  (l.mapM (fun f=>do pure (f.offset, ←sizeOf f.type):Field→Sem (Nat×Nat))).run P w= .ok (l.map fun f=>(f.offset,(xL P f.type).getD 0)) w:=by
 intro l
 induction l with
 |nil=>intro _;rfl
 |cons f l ih=>
  intro h
  simp only [List.all_cons,Bool.and_eq_true] at h
  obtain ⟨s,hs⟩:=Option.isSome_iff_exists.1 h.1
  simp only [List.mapM_cons,Sem.run_bind,zV hs,Result.andThen_ok,Sem.run_pure,ih h.2,List.map_cons,hs,Option.getD_some]
theorem zgJ {P:Program} {S:St} {t:TypeId} {parts:Array (Nat×Operand)} {f:Operand→PV} {ρ:Operand→Value} {p:PV} (hx: ∀ x∈parts,VRel S (f x.2) (ρ x.2))
  (he:kB P t (parts.toList.map fun x=>(x.1,f x.2))=some p): ∃ v,(Instr.build t (parts.map fun (i,x)=>(i,ρ x))).run P S.w= .ok v S.w∧VRel S p v:=by
 unfold kB at he
 split at he
 case h_2=>cases he
 rename_i z pl hz hpl
 split at he
 case isFalse=>cases he
 rename_i hsh
 cases hf:lM pl (xD (nI z)) (parts.toList.map fun x=>(x.1,f x.2)) with
 |none=>rw [hf] at he;cases he
 | some cs'=>
  rw [hf] at he
  cases he
  obtain ⟨vs',hv,hc⟩:=zb1 (S:=S) (ρ:=ρ) parts.toList _ cs' z.cells (fun x hxm=>hx x (by simpa using hxm)) (vM hsh (sN S z)) hf
  refine ⟨.agg vs',?_,.agg hc.len hc.one hc.rel⟩
  have emap:(parts.map fun (i,x)=>(i,ρ x)).toList=parts.toList.map fun x=>(x.1,ρ x.2):=by simp
  simp only [Instr.build,Sem.run_bind,mP hz,Result.andThen_ok]
  unfold xW at hpl
  split at hpl
  ·rename_i fs hus
   split at hpl
   case isFalse=>cases hpl
   rename_i hall
   cases hpl
   rw [run_underlying hus]
   simp only [Result.andThen_ok,Sem.run_bind]
   have hm:(fs.mapM (fun f=>do pure (f.offset, ←sizeOf f.type):Field→Sem (Nat×Nat))).run P S.w= .ok ((fs.toList.map fun f=>(f.offset,(xL P f.type).getD 0)).toArray) S.w:=by
    rw [Array.mapM_eq_mapM_toList]
    simp only [Sem.run_map,aH S.w fs.toList (by simpa using hall),Result.andThen_ok]
   rw [hm]
   simp only [Result.andThen_ok,emap]
   have epl:(fun (i:Nat)=>((fs.toList.map fun f=>(f.offset,(xL P f.type).getD 0)).toArray)[i]?)=fun (i:Nat)=>(fs[i]?).bind fun (f:Field)=>(xL P f.type).map fun s=>(f.offset,s):=by
    funext i
    simp only [List.getElem?_toArray,List.getElem?_map,Array.getElem?_toList]
    cases hf:fs[i]? with
    |none=>rfl
    | some f=>
     have:(xL P f.type).isSome=true:=by
      rw [Array.all_eq_true] at hall
      obtain ⟨hi,rfl⟩:=Array.getElem?_eq_some_iff.1 hf
      exact hall i hi
     obtain ⟨s,hs⟩:=Option.isSome_iff_exists.1 this
     simp [hs]
   rw [epl,hv]
   rfl
  ·rename_i n e hus
   cases hs:xL P e with
   |none=>rw [hs] at hpl;cases hpl
   |some s=>
    rw [hs] at hpl
    cases hpl
    rw [run_underlying hus]
    simp only [Result.andThen_ok,Sem.run_bind,zV hs,emap,hv]
    rfl
  ·cases hpl
end Go.AL
