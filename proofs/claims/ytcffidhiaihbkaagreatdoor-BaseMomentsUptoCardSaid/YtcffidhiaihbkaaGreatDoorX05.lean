/-
  The list of blocks with some hidden.
-/
import Derived.Test.YtcffidhiaihbkaaGreatDoorX04
set_option linter.unusedSimpArgs false
set_option linter.unusedVariables false
set_option maxRecDepth 100000
set_option maxHeartbeats 4000000
namespace Go.AL
def CkRel {γ:Type}:Option (γ×Bool)→Option (γ×Prop)→Prop
 |some (x,b),some (y,c)=>x=y∧(b=true→c)
 |none,none=>True
 |_,_=>False
theorem zT {γ:Type}:CkRel (γ:=γ) none none:=trivial
theorem xB {γ:Type} (x:γ) (c:Prop) [Decidable c]:CkRel (some (x,(CK.cnd c:Bool))) (some (x,(CK.cnd c:Prop))):=⟨rfl,fun h=>of_decide_eq_true h⟩
theorem zkW (P:Program) (t:TypeId) (op:BinOp) (p q:PV):CkRel (zcM P t op p q) (zcM P t op p q):=by
 unfold zcM
 repeat' split
 all_goals first|exact zT|exact xB _ _
theorem zhZ (P:Program) (t:TypeId) (cs:List PV):CkRel (zk5 P t cs) (zk5 P t cs):=by
 unfold zk5
 repeat' split
 all_goals first|exact zT|exact xB _ _
theorem zkR (P:Program) (t:TypeId) (p:PV):CkRel (pI P t p) (pI P t p):=by
 unfold pI
 repeat' split
 all_goals first|exact zT|exact xB _ _
theorem wJ (q:Option PV) (d z:Nat):CkRel (yV q d z) (yV q d z):=by
 unfold yV
 repeat' split
 all_goals first|exact zT|exact xB _ _
theorem sW {γ:Type} (x:γ) {c:Prop} [Decidable c] {b:Bool} {d:Prop} (h:b=true→d):CkRel (some (x,CK.both (CK.cnd c:Bool) b)) (some (x,CK.both (CK.cnd c:Prop) d)):=
 ⟨rfl,fun e=>by
  have e':(decide c&&b)=true:=e
  rw [Bool.and_eq_true] at e'
  exact ⟨of_decide_eq_true e'.1,h e'.2⟩⟩
theorem rT {b b':Bool} {d d':Prop} (h:b=true→d) (h':b'=true→d'):(CK.both b b':Bool)=true→CK.both d d':=fun e=>by
 have e':(b&&b')=true:=e
 rw [Bool.and_eq_true] at e'
 exact ⟨h e'.1,h' e'.2⟩
theorem zeJ (P:Program) (h:Heap) (f:Operand→PV) (op:Op):CkRel (yI P h f op) (yI P h f op):=by
 cases op with
 |binOp o t x y u=>exact zkW _ _ _ _ _
 | slice t x lo hi mx=>
  simp only [yI]
  split
  ·split
   ·rename_i e _ y k els hy
    split
    ·split
     ·have h1:=wJ (hi.map f) els.length els.length
      rcases hb:yV (α:=Bool) (hi.map f) els.length els.length with _|⟨b,c⟩<;>rcases hp:yV (α:=Prop) (hi.map f) els.length els.length with _|⟨b',c0⟩<;>rw [hb,hp] at h1
      ·exact zT
      ·exact h1.elim
      ·exact h1.elim
      ·obtain ⟨rfl,h1⟩:=h1
       have h2:=wJ (lo.map f) b 0
       rcases hb2:yV (α:=Bool) (lo.map f) b 0 with _|⟨a,c'⟩<;>rcases hp2:yV (α:=Prop) (lo.map f) b 0 with _|⟨a',c0'⟩<;>rw [hb2,hp2] at h2
       ·simp only [hb2,hp2];exact zT
       ·exact h2.elim
       ·exact h2.elim
       ·obtain ⟨rfl,h2⟩:=h2
        simp only [hb2,hp2]
        exact sW _ (rT h1 h2)
     ·rename_i m
      have h0:=wJ (some (f m)) els.length 0
      rcases hb0:yV (α:=Bool) (some (f m)) els.length 0 with _|⟨d,c00⟩<;>rcases hp0:yV (α:=Prop) (some (f m)) els.length 0 with _|⟨d',c01⟩<;>rw [hb0,hp0] at h0
      ·exact zT
      ·exact h0.elim
      ·exact h0.elim
      obtain ⟨rfl,h0⟩:=h0
      have h1:=wJ (hi.map f) d d
      rcases hb:yV (α:=Bool) (hi.map f) d d with _|⟨b,c⟩<;>rcases hp:yV (α:=Prop) (hi.map f) d d with _|⟨b',c0⟩<;>rw [hb,hp] at h1
      ·simp only [hb,hp];exact zT
      ·exact h1.elim
      ·exact h1.elim
      ·obtain ⟨rfl,h1⟩:=h1
       simp only [hb,hp]
       have h2:=wJ (lo.map f) b 0
       rcases hb2:yV (α:=Bool) (lo.map f) b 0 with _|⟨a,c'⟩<;>rcases hp2:yV (α:=Prop) (lo.map f) b 0 with _|⟨a',c0'⟩<;>rw [hb2,hp2] at h2
       ·simp only [hb2,hp2];exact zT
       ·exact h2.elim
       ·exact h2.elim
       ·obtain ⟨rfl,h2⟩:=h2
        simp only [hb2,hp2]
        exact sW _ (rT h0 (rT h1 h2))
    ·exact zT
   ·exact zT
  ·split
   ·repeat' split
    all_goals first|exact zT|exact xB _ _
   ·repeat' split
    all_goals first|exact zT|exact xB _ _
   ·rename_i s _
    split
    ·have h1:=wJ (hi.map f) s.size s.size
     rcases hb:yV (α:=Bool) (hi.map f) s.size s.size with _|⟨b,c⟩<;>rcases hp:yV (α:=Prop) (hi.map f) s.size s.size with _|⟨b',c0⟩<;>rw [hb,hp] at h1
     ·exact zT
     ·exact h1.elim
     ·exact h1.elim
     ·obtain ⟨rfl,h1⟩:=h1
      have h2:=wJ (lo.map f) b 0
      rcases hb2:yV (α:=Bool) (lo.map f) b 0 with _|⟨a,c'⟩<;>rcases hp2:yV (α:=Prop) (lo.map f) b 0 with _|⟨a',c0'⟩<;>rw [hb2,hp2] at h2
      ·simp only [hb2,hp2];exact zT
      ·exact h2.elim
      ·exact h2.elim
      ·obtain ⟨rfl,h2⟩:=h2
       simp only [hb2,hp2]
       exact sW _ (rT h1 h2)
    ·exact zT
   ·exact zT
 | _=>
  simp only [yI]
  repeat' split
  all_goals first
   |exact zT
   |exact xB _ _
   |exact zkR _ _ _
   |exact zhZ _ _ _
theorem zaE (P:Program) (h:Heap) (t:TypeId) (s x:PV):CkRel (γ:=PV×Heap) ((oR P h t s x).map fun r=>((r.1,r.2.1),r.2.2)) ((oR P h t s x).map fun r=>((r.1,r.2.1),r.2.2)):=by
 unfold oR
 repeat' split
 all_goals first|exact zT|exact xB (γ:=PV×Heap) (_,_) _
theorem zcF (P:Program) (h:Heap) (f:Operand→PV) (op:Op):CkRel (γ:=PV×Heap) ((vA P h f op).map fun r=>((r.1,r.2.1),r.2.2)) ((vA P h f op).map fun r=>((r.1,r.2.1),r.2.2)):=by
 cases op<;>simp only [vA]<;>(repeat' split)
 all_goals first|exact zT|exact xB (γ:=PV×Heap) (_,_) _|exact zaE _ _ _ _ _
theorem zkS (P:Program) (t:TypeId) (p q:PV):CkRel (sE P t p q) (sE P t p q):=by
 unfold sE
 repeat' split
 all_goals first
  |exact zT
  |exact xB _ _
  |(cases zeW P 20 t _ _<;>first|exact zT|exact xB _ _)
theorem zaC (P:Program) (h:Heap) (t:TypeId) (ok:Bool) (m k:PV):CkRel (xQ P h t ok m k) (xQ P h t ok m k):=by
 unfold xQ
 repeat' split
 all_goals first|exact zT|exact xB _ _
theorem sR {γ:Type} {x:Option (γ×Bool)} {y:Option (γ×Prop)} (h:CkRel x y):(x=none∧y=none)∨ ∃ a b c,x=some (a,b)∧y=some (a,c)∧(b=true→c):=by
 cases x with
 |none=>cases y with
  |none=>exact .inl ⟨rfl,rfl⟩
  |some y=>exact h.elim
 |some x=>cases y with
  |none=>exact h.elim
  |some y=>obtain ⟨a,b⟩:=x;obtain ⟨a',c⟩:=y;obtain ⟨rfl,hb⟩:=h;exact .inr ⟨a,b,c,rfl,rfl,hb⟩
theorem zgM (P:Program) (h:Heap) (f:Operand→PV) (op:Op):CkRel (rA P h f op) (rA P h f op):=by
 cases op with
 | binOp o t x y u=>
  cases o<;>simp only [rA]<;>try exact zT
  ·split
   ·exact xB _ _
   ·exact zT
  all_goals
   rcases sR (zkS P t (f x) (f y)) with ⟨e1,e2⟩|⟨a,b,c,e1,e2,h1⟩<;>simp only [e1,e2]
   ·exact zT
   ·exact ⟨rfl,h1⟩
 |lookup t m k ok=>exact zaC _ _ _ _ _ _
 | slice t x lo hi mx=>
  simp only [rA]
  split
  ·split
   ·cases mx with
    |none=>
     simp only []
     rcases sR (wJ (hi.map f) 0 0) with ⟨e1,e2⟩|⟨b,c,c',e1,e2,h1⟩<;>simp only [e1,e2]
     ·exact zT
     rcases sR (wJ (lo.map f) b 0) with ⟨e3,e4⟩|⟨a,d,d',e3,e4,h2⟩<;>simp only [e3,e4]
     ·exact zT
     exact sW _ (rT h1 h2)
    |some m=>
     simp only []
     rcases sR (wJ (some (f m)) 0 0) with ⟨e1,e2⟩|⟨b,c,c',e1,e2,h1⟩<;>simp only [e1,e2]
     ·exact zT
     rcases sR (wJ (hi.map f) b b) with ⟨e3,e4⟩|⟨a,d,d',e3,e4,h2⟩<;>simp only [e3,e4]
     ·exact zT
     rcases sR (wJ (lo.map f) a 0) with ⟨e5,e6⟩|⟨g,d,d',e5,e6,h3⟩<;>simp only [e5,e6]
     ·exact zT
     exact sW _ (rT h1 (rT h2 h3))
   ·exact zT
  ·exact zT
 |_=>exact zT
theorem bN (P:Program) (h:Heap) (f:Operand→PV) (op:Op):CkRel (wO P h f op) (wO P h f op):=by
 have k:=zeJ P h f op
 unfold wO
 cases hb:yI (α:=Bool) P h f op with
 |none=>
  cases hp:yI (α:=Prop) P h f op with
  |none=>exact zgM P h f op
  |some r=>rw [hb,hp] at k;exact k.elim
 |some r=>
  cases hp:yI (α:=Prop) P h f op with
  |none=>rw [hb,hp] at k;exact k.elim
  |some r'=>rw [hb,hp] at k;exact k
theorem qY {P:Program} {h:Heap} {f:Operand→PV} {op:Op} {p:PV} (e:wO P h f op=some (p,true)): ∃ c:Prop,wO P h f op=some (p,c)∧c:=by
 have k:=bN P h f op
 rw [e] at k
 cases hc:wO (α:=Prop) P h f op with
 |none=>rw [hc] at k;exact k.elim
 |some r=>rw [hc] at k;obtain ⟨q,c⟩:=r;obtain ⟨rfl,k⟩:=k;exact ⟨c,rfl,k rfl⟩
theorem lV {P:Program} {h h':Heap} {f:Operand→PV} {op:Op} {p:PV} (e:vA P h f op=some (p,h',true)): ∃ c:Prop,vA P h f op=some (p,h',c)∧c:=by
 have k:=zcF P h f op
 rw [e] at k
 cases hc:vA (α:=Prop) P h f op with
 |none=>rw [hc] at k;exact k.elim
 |some r=>rw [hc] at k;obtain ⟨q,hh,c⟩:=r;obtain ⟨hq,k⟩:=k;cases hq;exact ⟨c,rfl,k rfl⟩
end Go.AL
namespace Go.AL
open Go.RowKit
def fz (n:Nat) (h:Heap):Nat→PV→PV
 |0,_=> .un
 | f+1,p=>match p with
  | .un=> .un
  | .ud=> .ud
  | .sc v=> .sc v
  | .nil=> .nil
  | .agg cs=> .agg (cs.map (fz n h f))
  | .tup vs=> .tup (vs.map (fz n h f))
  | .ts k els=> .ts k (els.map fun e=>e.map (fz n h f))
  | .tc k els=> .tc k (els.map fun e=>e.map (fz n h f))
  | .vec r k els=>if r<n then .vec r k (els.map fun e=>e.map (fz n h f)) else .ts k (els.map fun e=>e.map (fz n h f))
  | .ms r off k len=>if r<n then .ms r off k len else match h[r]? with
   |some (.var _ cs)=> .ts k (wA (cs.map (fz n h f)) off k len)
   |_=> .un
  | .ptr r off=>if r<n then .ptr r off else match h[r]? with
   |some (.var _ cs)=> .tp ((cs.drop off).map (fz n h f))
   |_=> .un
  | .tp cs=> .tp (cs.map (fz n h f))
  | .fn g a b=> .fn g (a.map (fz n h f)) (b.map (fz n h f))
  | .ifc t p=> .ifc t (fz n h f p)
  | .mp r=>if r<n then .mp r else .un
  | .yl r=>if r<n then .yl r else .un
  | .it r=>if r<n then .it r else .un
def zm2 (n:Nat) (h:Heap) (f:Nat):Blk→Blk
 | .var t cs=> .var t (cs.map (fz n h f))
 | .vec e k m=> .vec e k m
 | .map es=> .map (es.map fun x=>(x.1,fz n h f x.2))
 | .loop ts ps as bd st pd=> .loop (ts.map (fz n h f)) ps as bd st pd
 | .non=> .non
 | .old=> .old
 | .iter m k s=> .iter (m.filter fun r=>decide (r<n)) k s
 | .siter s p=> .siter s p
def zk3 (n:Nat) (h:Heap) (f:Nat):Heap:=(h.take n).map (zm2 n h f)
theorem Blk.le_fz {n:Nat} {h:Heap} {f:Nat} {p:Prop} (hp:p) (b:Blk):Blk.le p b (zm2 n h f b):=by cases b<;>simp [zm2,Blk.le,hp]
def St.cut (S:St) (n f:Nat):St:=⟨S.φ.take n,zk3 n S.h f,S.w,S.x⟩
theorem cut_h {S:St} {n f r:Nat} {b:Blk} (h:(S.cut n f).h[r]? =some b):r<n∧ ∃ b',S.h[r]? =some b'∧b=zm2 n S.h f b':=by
 simp only [St.cut,zk3,List.getElem?_map,List.getElem?_take] at h
 split at h
 ·rename_i hr
  cases hb:S.h[r]? with
  |none=>rw [hb] at h;cases h
  |some b'=>rw [hb] at h;cases h;exact ⟨hr,b',rfl,rfl⟩
 ·cases h
theorem vO {S:St} {n f r:Nat} {b:Blk} (hr:r<n) (h:S.h[r]? =some b):(S.cut n f).h[r]? =some (zm2 n S.h f b):=by
 simp [St.cut,zk3,List.getElem?_take,hr,h]
theorem iX {S:St} {n f r:Nat} {v:Value} (h:(S.cut n f).φ[r]? =some v):r<n∧S.φ[r]? =some v:=by
 simp only [St.cut,List.getElem?_take] at h
 split at h
 ·exact ⟨by assumption,h⟩
 ·cases h
theorem rD {S:St} {n f r:Nat} {v:Value} (hr:r<n) (h:S.φ[r]? =some v):(S.cut n f).φ[r]? =some v:=by
 simp [St.cut,List.getElem?_take,hr,h]
theorem bZ {S:St} {n f:Nat} {a:Addr} {v:Value} (h:S.M a v):(S.cut n f).M a v:=by
 obtain ⟨h1,h2,h3,h4,h5,h6⟩:=h
 refine ⟨h1,h2,h3,h4,h5,fun r u hu hb=> ?_⟩
 obtain ⟨hr,hu'⟩:=iX hu
 obtain ⟨e,k,m,hh,ho⟩:=h6 r u hu' hb
 exact ⟨e,k,m,by rw [vO hr hh];rfl,ho⟩
theorem fG {S:St} (hS:SRel S) {n f r b:Nat} {t:TypeId} {cs:List PV} (hr:n≤r) (hp:S.φ[r]? =some (.pointer (some ⟨b,0,none⟩))) (hb:S.h[r]? =some (.var t cs)) (f':Nat):
  ∃ val:Nat→Value,(∀ j,j<cs.length→(S.cut n f).M ⟨b,j,none⟩ (val j))∧ ∀ (j:Nat) (p:PV),cs[j]? =some p→VRel S p (val j):=by
 obtain ⟨b',arr,he,hh,hsz,h1,hrel⟩:=hS.blks r _ _ hb hp
 cases he
 have hlt:b<S.w.heap.size:=(Array.getElem?_eq_some_iff.1 hh).1
 refine ⟨fun j=>arr.getD j undef,fun j hj=>⟨?_,?_,rfl,hlt,fun hx=>hS.xown _ hx r _ hp rfl,fun r' u hu hbu=> ?_⟩,fun j p hjp=> ?_⟩
 ·simp only [St.cut,World.cell?]
  rw [hh]
  have hj':j<arr.size:=by omega
  simp [Array.getD,hj']
 ·have hj':j<arr.size:=by omega
  refine h1 j _ ?_
  simp [Array.getD,hj']
 ·obtain ⟨hr',hu'⟩:=iX hu
  have:=hS.inj r r' _ _ _ hp hu' rfl hbu
  omega
 ·have hj':j<arr.size:=Nat.lt_of_lt_of_le (gsi hjp).1 hsz
  refine hrel j p _ hjp ?_
  simp [Array.getD,hj']
theorem rQ (b off j:Nat):(⟨b,off,none⟩:Addr).add j=⟨b,off+j,none⟩:=by
 unfold Addr.add
 split
 ·rename_i h;subst h;rfl
 ·rfl
theorem vW {α β:Type} {g:α→β} {l:List α} {i:Nat} {y:β} (h:(l.map g)[i]? =some y): ∃ x,l[i]? =some x∧y=g x:=by
 rw [List.getElem?_map] at h
 cases hx:l[i]? with
 |none=>rw [hx] at h;cases h
 |some x=>rw [hx] at h;cases h;exact ⟨x,rfl,rfl⟩
theorem ts_map {S S':St} {g:PV→PV} (hm: ∀ a u,S.M a u→S'.M a u) (hg: ∀ p u,VRel S p u→VRel S' (g p) u) {k:Nat} {els:List (List PV)} {v:Value} (h:VRel S (.ts k els) v):
  VRel S' (.ts k (els.map fun e=>e.map g)) v:=by
 cases h with
 | ts hl hc hmx hk ad ha val hv h=>
  refine .ts (by simp [hl]) hc hmx (fun i e he=> ?_) ad ha val (fun j hj=>hm _ _ (hv j hj)) (fun i e j p hi hp=> ?_)
  ·obtain ⟨e',he',rfl⟩:=vW he
   simp [hk i e' he']
  ·obtain ⟨e',he',rfl⟩:=vW hi
   obtain ⟨p',hp',rfl⟩:=vW hp
   exact hg _ _ (h i e' j p' he' hp')
theorem bY {S:St} (hS:SRel S) (n F:Nat): ∀ (f:Nat) {p:PV} {v:Value},VRel S p v→VRel (S.cut n F) (fz n S.h f p) v:=by
 intro f
 induction f with
 |zero=>intro p v _;exact .un
 | succ f ih=>
  intro p v h
  cases h with
  |un=>exact .un
  |ud=>exact .ud
  |sc h=>exact .sc h
  |nil=>exact .nil
  |agg hl h1 h=>
   refine .agg (by simp [hl]) h1 fun i p v hp hv=> ?_
   obtain ⟨q,hq,rfl⟩:=vW hp
   exact ih (h i q v hq hv)
  |tup hl h=>
   refine .tup (by simp [hl]) fun i p v hp hv=> ?_
   obtain ⟨q,hq,rfl⟩:=vW hp
   exact ih (h i q v hq hv)
  |ts hl hc hm hk ad ha val hv h=>exact ts_map (fun _ _ h=>bZ h) (fun _ _ h=>ih h) (.ts hl hc hm hk ad ha val hv h)
  |tc ht=>exact .tc (ts_map (fun _ _ h=>bZ h) (fun _ _ h=>ih h) ht)
  | vec ht hb hle ho=>
   rename_i r k m e els
   simp only [fz]
   have ht':=ts_map (S':=S.cut n F) (fun _ _ h=>bZ h) (fun _ _ h=>ih h) ht
   split
   ·rename_i hr
    exact .vec ht' (by rw [vO hr hb];rfl) (by simpa using hle) (fun e=>rD hr (ho (by simpa using e)))
   ·exact ht'
  | oms hb hc hm=>
   simp only [fz]
   split
   ·rename_i hr
    exact .oms (by rw [vO hr hb];rfl) hc hm
   ·rw [hb]
    exact .un
  | optr hb=>
   simp only [fz]
   split
   ·rename_i hr
    exact .optr (by rw [vO hr hb];rfl)
   ·rw [hb]
    exact .un
  | ms hp hb hl hc hm hz=>
   rename_i r off k len c b t cs
   simp only [fz]
   split
   ·rename_i hr
    exact .ms (rD hr hp) (by rw [vO hr hb];rfl) (by simpa using hl) hc hm hz
   ·rename_i hr
    rw [hb]
    obtain ⟨val,hv,hrel⟩:=fG hS (n:=n) (f:=F) (by omega) hp hb 0
    refine .ts (by simp [wA]) hc hm (fun i e he=> ?_) ⟨b,off,none⟩ (fun _=>rfl) (fun j=>val (off+j)) (fun j hj=> ?_) (fun i e j p hi hp'=> ?_)
    ·obtain ⟨hi,rfl⟩:=vN he
     simp only [List.length_take,List.length_drop,List.length_map]
     have:=Nat.mul_le_mul_right k (show i+1≤len from hi)
     rw [Nat.add_mul] at this
     omega
    ·have:=hv (off+j) (by omega)
     rwa [←rQ] at this
    ·obtain ⟨hi',rfl⟩:=vN hi
     rw [List.getElem?_take] at hp'
     split at hp'
     ·rw [List.getElem?_drop] at hp'
      obtain ⟨q,hq,rfl⟩:=vW hp'
      have:=ih (hrel _ q hq)
      rwa [Nat.add_assoc] at this
     ·cases hp'
  | ptr hp hb=>
   rename_i r off b t cs
   simp only [fz]
   split
   ·rename_i hr
    exact .ptr (rD hr hp) (by rw [vO hr hb];rfl)
   ·rename_i hr
    rw [hb]
    obtain ⟨val,hv,hrel⟩:=fG hS (n:=n) (f:=F) (by omega) hp hb 0
    refine .tp (fun j=>val (off+j)) (fun j hj=> ?_) (fun j p hp'=> ?_)
    ·simp at hj
     have:=hv (off+j) (by omega)
     rwa [←rQ] at this
    ·obtain ⟨q,hq,rfl⟩:=vW hp'
     rw [List.getElem?_drop] at hq
     exact ih (hrel _ q hq)
  |tp val hv h=>
   refine .tp val (fun j hj=>bZ (hv j (by simpa using hj))) fun j p hp=> ?_
   obtain ⟨q,hq,rfl⟩:=vW hp
   exact ih (h j q hq)
  | fn hl hl' h h'=>
   refine .fn (by simp [hl]) (by simp [hl']) (fun i p v hp hv=> ?_) (fun i p v hp hv=> ?_)
   ·obtain ⟨q,hq,rfl⟩:=vW hp
    exact ih (h i q v hq hv)
   ·obtain ⟨q,hq,rfl⟩:=vW hp
    exact ih (h' i q v hq hv)
  |ifc h=>exact .ifc (ih h)
  | mp hp hb=>
   simp only [fz]
   split
   ·rename_i hr
    exact .mp (rD hr hp) (by rw [vO hr hb];rfl)
   ·exact .un
  | yl hp hb=>
   simp only [fz]
   split
   ·rename_i hr
    exact .yl (rD hr hp) (by rw [vO hr hb];rfl)
   ·exact .un
  | it hp hb hi=>
   rename_i c
   simp only [fz]
   split
   ·rename_i hr
    exact .it (rD hr hp) (vO hr hb) (by cases c<;>simp only [Blk.isIt,Bool.false_eq_true] at hi<;>rfl)
   ·exact .un
theorem zhT {S:St} (hS:SRel S) (n F:Nat):SRel (S.cut n F):=by
 refine ⟨?_,fun r b v hb hv=> ?_,fun r r' v v' m hv hv'=>hS.inj r r' v v' m (iX hv).2 (iX hv').2,hS.xlt,fun a ha r v hv=>hS.xown a ha r v (iX hv).2⟩
 ·simp only [St.cut,zk3,List.length_map,List.length_take,hS.len]
 ·obtain ⟨hr,b',hb',rfl⟩:=cut_h hb
  have h0:=hS.blks r b' v hb' (iX hv).2
  cases b' with
  |var t cs=>
   obtain ⟨b,arr,he,hh,hsz,h1,hrel⟩:=h0
   refine ⟨b,arr,he,hh,by simp [hsz],h1,fun i p u hp hu=> ?_⟩
   obtain ⟨q,hq,rfl⟩:=vW hp
   exact bY hS n F F (hrel i q u hq hu)
  |vec e k m=>exact h0
  |map es=>
   obtain ⟨b,clock,entries,he,hh,hsz,h1,hrel⟩:=h0
   refine ⟨b,clock,entries,he,hh,by simp [hsz],⟨h1.1,fun q hq=>by obtain ⟨q',hq',rfl⟩:=List.mem_map.1 hq;exact h1.2.1 q' hq',h1.2.2⟩,fun i e q hi hq=> ?_⟩
   obtain ⟨q',hq',rfl⟩:=vW hq
   obtain ⟨hk,hv⟩:=hrel i e q' hi hq'
   exact ⟨hk,bY hS n F F hv⟩
  |loop ts ps as bd st pd=>
   obtain ⟨b,L,he,hh,k1,k2,k3,k4,k5,k6,k7⟩:=h0
   refine ⟨b,L,he,hh,k1,k2,k3,k4,k5,by simp [k6],fun i p hp=> ?_⟩
   obtain ⟨q,hq,rfl⟩:=vW hp
   exact bY hS n F F (k7 i q hq)
  |iter m k s=>
   obtain ⟨b,bm,he,hh,h1⟩:=h0
   refine ⟨b,bm,he,hh,fun r hr=> ?_⟩
   rw [Option.filter_eq_some_iff] at hr
   obtain ⟨es,bk,g1,g2,g3⟩:=h1 r hr.1
   have hlt:r<n:=by simpa using hr.2
   exact ⟨_,bk,vO hlt g1,rD hlt g2,g3⟩
  |siter s p=>exact h0
  |non=>exact h0
  |old=>exact h0
theorem zb4 {S₀ S:St} (hS:SRel S) (x:Ext S₀ S) (n F:Nat) (hn:S₀.h.length≤n):Ext S₀ (S.cut n F):=by
 refine ⟨x.x,x.os,x.tape,x.output,x.size,fun b hb ho=> ?_,fun a v h=>bZ (x.mem a v h),fun r b hb=> ?_,x.rows⟩
 ·obtain ⟨h1,h2⟩:=x.unt b hb ho
  refine ⟨?_,h2⟩
  rintro ⟨r,v,hv,hbv⟩
  exact h1 ⟨r,v,(iX hv).2,hbv⟩
 ·have hr:r<n:=Nat.lt_of_lt_of_le (gsi hb).1 hn
  obtain ⟨b',hb',hl⟩:=x.blks r b hb
  refine ⟨_,vO hr hb',?_⟩
  have e:(S.cut n F).φ[r]? =S.φ[r]? :=by simp [St.cut,List.getElem?_take,hr]
  rw [e]
  refine Blk.le_trans hl (Blk.le_fz (p:=True) trivial b') fun h _=>h
theorem ACall.cut {P:Program} {G:Glob} {f:FuncId} {args:List PV} {h:Heap} {R:PV→Heap→Prop} (n F:Nat) (hn:h.length≤n)
  (k:ACall P G f args h fun p h'=>R (fz n h' F p) (zk3 n h' F)):ACall P G f args h R:=by
 refine ⟨k.1,fun φ w X vs a b c d=>(k.2 φ w X vs a b c d).mono ?_⟩
 rintro e w' ⟨φ',h',p,v,he,x,hs,hv,hr⟩
 have x':=zb4 hs x n F hn
 exact ⟨φ'.take n,zk3 n h' F,fz n h' F p,v,he,x',zhT hs n F,bY hs n F F hv,hr⟩
end Go.AL
namespace Go.AL
open Go.RowKit
def nW {α:Type} [CK α] (P:Program) (ts:List PV) (h:Heap):ResultVar→Option (PV×α)
 | .tmp t=>some (ts.getD t .un,CK.cnd True)
 | .cell a t=>match ts.getD a .un with
  | .ptr r o=>match h[r]? with
   |some (.var _ cs)=>zk5 P t (cs.drop o)
   |_=>none
  |_=>none
def qD {α:Type} [CK α] (P:Program) (ts:List PV) (h:Heap):List ResultVar→Option (List PV×α)
 | []=>some ([],CK.cnd True)
 | x::xs=>match nW P ts h x with
  |some (p,c)=>match qD P ts h xs with
   |some (ps,d)=>some (p::ps,CK.both c d)
   |none=>none
  |none=>none
def nV {α:Type} [CK α] (P:Program) (ts:List PV) (h:Heap) (xs:List ResultVar):Option (PV×α):=
 match qD P ts h xs with
 |some ([p],c)=>some (p,c)
 |some (ps,c)=>some (.tup ps,c)
 |none=>none
theorem zgU {P:Program} {S:St} {ts:List PV} {tmps:Array Value} (hS:SRel S) (hT:TRel S ts tmps) {x:ResultVar} {p:PV} {c:Prop} (he:nW P ts S.h x=some (p,c)) (hc:c):
  ∃ v,Sem.run P (match x with| .tmp t=>pure (tmps.getD t undef)| .cell a t=>do loadVar t (←asAddr (tmps.getD a undef)):Sem Value) S.w= .ok v S.w∧VRel S p v:=by
 cases x with
 |tmp t=>
  simp only [nW] at he
  cases he
  refine ⟨_,rfl,?_⟩
  cases h:ts[t]? with
  |none=>rw [List.getD_eq_getElem?_getD,h];exact .un
  |some p=>rw [List.getD_eq_getElem?_getD,h];exact hT.rel t p h
 | cell a t=>
  simp only [nW] at he
  split at he
  ·rename_i r o hr
   split at he
   ·rename_i T cs hh
    rw [List.getD_eq_getElem?_getD] at hr
    cases h:ts[a]? with
    |none=>rw [h] at hr;cases hr
    | some q=>
     rw [h] at hr
     simp only [Option.getD_some] at hr
     subst hr
     have h1:=hT.rel a _ h
     simp only []
     generalize tmps.getD a undef=u at h1 ⊢
     cases h1 with
     |optr hb=>rw [hh] at hb;cases hb
     | ptr hp hb=>
      rw [hh] at hb
      cases hb
      obtain ⟨b',arr,e,hhp,hsz,h1,hrel⟩:=hS.blks r _ _ hh hp
      cases e
      obtain ⟨v,hv,hr⟩:=sS (S:=S) (t:=t) (P:=P) (a:=⟨_,o,none⟩) (cs:=cs.drop o) (fun j=>arr.getD (o+j) undef)
       (fun j hj=>by
        have hj':o+j<arr.size:=by simp at hj;omega
        rw [rQ]
        simp only [World.cell?]
        rw [hhp]
        refine ⟨by simp [Array.getD,hj'],h1 (o+j) _ ?_⟩
        simp [Array.getD,hj'])
       (fun j q hq=>by
        rw [List.getElem?_drop] at hq
        have hj':o+j<arr.size:=Nat.lt_of_lt_of_le (gsi hq).1 hsz
        exact hrel (o+j) q _ hq (by simp [Array.getD,hj'])) he hc
      exact ⟨v,by simp [asAddr,hv],hr⟩
   ·cases he
  ·cases he
theorem zgT {P:Program} {S:St} {ts:List PV} {tmps:Array Value} (hS:SRel S) (hT:TRel S ts tmps): ∀ {xs:List ResultVar} {ps:List PV} {c:Prop},qD P ts S.h xs=some (ps,c)→c→
  ∃ vs:List Value,Sem.run P (xs.mapM fun| .tmp t=>pure (tmps.getD t undef)| .cell a t=>do loadVar t (←asAddr (tmps.getD a undef))) S.w= .ok vs S.w∧vs.length=ps.length∧
   ∀ (i:Nat) (p:PV) (v:Value),ps[i]? =some p→vs[i]? =some v→VRel S p v:=by
 intro xs
 induction xs with
 |nil=>
  intro ps c he _
  simp only [qD] at he
  cases he
  exact ⟨[],rfl,rfl,fun i p v h=>by simp at h⟩
 | cons x xs ih=>
  intro ps c he hc
  simp only [qD] at he
  split at he
  ·rename_i p c1 h1
   split at he
   ·rename_i qs d h2
    cases he
    rw [wE] at hc
    obtain ⟨v,hv,hr⟩:=zgU hS hT h1 hc.1
    obtain ⟨vs,hvs,hl,hrs⟩:=ih h2 hc.2
    refine ⟨v::vs,?_,by simp [hl],fun i q u hq hu=> ?_⟩
    ·rw [List.mapM_cons]
     simp only [Sem.run_bind,hvs,Result.andThen_ok,Sem.run_pure]
     cases x<;>simp_all [Sem.run_bind]
    ·cases i with
     |zero=>simp at hq hu;subst hq;subst hu;exact hr
     |succ i=>exact hrs i q u (by simpa using hq) (by simpa using hu)
   ·cases he
  ·cases he
theorem zkG {P:Program} {S:St} {ts:List PV} {tmps:Array Value} {fn:Func} (hS:SRel S) (hT:TRel S ts tmps) {p:PV} {c:Prop} (he:nV P ts S.h fn.results.toList=some (p,c)) (hc:c):
  ∃ v,(results fn tmps).run P S.w= .ok v S.w∧VRel S p v:=by
 unfold nV at he
 have key: ∀ {ps:List PV} {d:Prop},qD P ts S.h fn.results.toList=some (ps,d)→d→ ∃ vs:Array Value,(results fn tmps).run P S.w= .ok (if h:vs.size=1 then vs[0] else .tuple vs) S.w∧vs.size=ps.length∧
   ∀ (i:Nat) (p:PV) (v:Value),ps[i]? =some p→vs[i]? =some v→VRel S p v:=by
  intro ps d h hd
  obtain ⟨vs,hvs,hl,hr⟩:=zgT hS hT h hd
  refine ⟨vs.toArray,?_,by simp [hl],fun i p v hp hv=>hr i p v hp (by simpa using hv)⟩
  unfold results
  rw [Array.mapM_eq_mapM_toList]
  simp only [Sem.run_bind,Sem.run_map]
  erw [hvs]
  rfl
 split at he
 ·rename_i q d h
  cases he
  obtain ⟨vs,hrun,hsz,hr⟩:=key h hc
  simp at hsz
  rw [dif_pos hsz] at hrun
  exact ⟨_,hrun,hr 0 _ _ rfl (by simp [hsz])⟩
 ·rename_i qs d hne h
  cases he
  obtain ⟨vs,hrun,hsz,hr⟩:=key h hc
  have hne1: ¬vs.size=1:=fun e=>by
   rw [hsz] at e
   match qs,e,hne with
   | [q],_,hne=>exact hne q rfl
  rw [dif_neg hne1] at hrun
  exact ⟨_,hrun,.tup hsz hr⟩
 ·cases he
def AEnd (P:Program) (fn:Func) (R:PV→Heap→Prop):Exit→List PV→Heap→Prop
 | .normal,ts,h| .ret,ts,h=>match nV (α:=Prop) P ts h fn.results.toList with
  |some (p,c)=>c∧R p h
  |none=>False
 |_,_,_=>False
theorem World.cell_deferred {w:World} {r:Nat} {ds:Option (List Deferred)} (h:w.heap[r]? =some (.deferred ds)) {a:Addr} (ha:a.block=r):w.cell? a=none:=by
 unfold World.cell?
 rw [ha,h]
theorem zc9 {S:St} (hS:SRel S) {r:Nat} {ds:List Deferred} (hlt:r<S.w.heap.size) (hb:S.w.heap[r]? =some (.deferred (some ds))) (hn: ¬S.Own r) (w':World)
  (hw:w'=S.w.putObj r (.deferred none)):SRel ⟨S.φ,S.h,w',S.x⟩∧ ∀ p v,VRel S p v→VRel ⟨S.φ,S.h,w',S.x⟩ p v:=by
 have hsz:w'.heap.size=S.w.heap.size:=by rw [hw];simp
 have hoth: ∀ k,k≠r→w'.heap[k]? =S.w.heap[k]? :=fun k hk=>by rw [hw];exact World.putObj_heap_other hk
 have hM: ∀ a v,S.M a v→St.M ⟨S.φ,S.h,w',S.x⟩ a v:=by
  rintro a v ⟨h1,h2,h3,h4,h5,h6⟩
  have hne:a.block≠r:=fun e=>by rw [World.cell_deferred hb e] at h1;cases h1
  exact ⟨(World.cell?_of_block (hoth _ hne)).trans h1,h2,h3,by simp only [];omega,h5,h6⟩
 have hR: ∀ b m,S.Row b m→St.Row ⟨S.φ,S.h,w',S.x⟩ b m:=by
  rintro b m ⟨ar,t1,f1,h1,h2⟩
  refine ⟨ar,t1,f1,(hoth b fun e=> ?_).trans h1,h2⟩
  subst e
  rw [hb] at h1
  cases h1
 have hV: ∀ p v,VRel S p v→VRel ⟨S.φ,S.h,w',S.x⟩ p v:=by
  intro p v h
  induction h with
  |un=>exact .un
  |ud=>exact .ud
  |sc h=>exact .sc h
  |nil=>exact .nil
  |agg hl h1 _ ih=>exact .agg hl h1 ih
  |tup hl _ ih=>exact .tup hl ih
  |ts hl hc hm hk ad ha val hv _ ih=>exact .ts hl hc hm hk ad ha val (fun j hj=>hM _ _ (hv j hj)) ih
  |tc _ ih=>exact .tc ih
  |vec ht hb hle ho ih=>exact .vec ih hb hle ho
  |ms hp hb hl hc hm hz=>exact .ms hp hb hl hc hm (hR _ _ hz)
  |oms hb hc hm=>exact .oms hb hc hm
  |optr hb=>exact .optr hb
  |ptr hp hb=>exact .ptr hp hb
  |tp val hv _ ih=>exact .tp val (fun j hj=>hM _ _ (hv j hj)) ih
  |fn hl hl' _ _ ih ih'=>exact .fn hl hl' ih ih'
  |ifc _ ih=>exact .ifc ih
  |mp hp hb=>exact .mp hp hb
  |yl hp hb=>exact .yl hp hb
  |it hp hb hi=>exact .it hp hb hi
 refine ⟨⟨hS.len,fun k b v hk hv=> ?_,hS.inj,fun a ha=>by simp only [];rw [hsz];exact hS.xlt a ha,hS.xown⟩,hV⟩
 have h0:=hS.blks k b v hk hv
 have hnb: ∀ n,sC v=some n→n≠r:=fun n hbn e=>hn ⟨k,v,hv,by rw [hbn,e]⟩
 cases b with
 |var t cs=>
  obtain ⟨b,arr,rfl,hh,hsz',h1,hrel⟩:=h0
  exact ⟨b,arr,rfl,(hoth b (hnb b rfl)).trans hh,hsz',h1,fun i p u hp hu=>hV _ _ (hrel i p u hp hu)⟩
 |vec e k m=>
  rcases h0 with h0|⟨b,c,arr,rfl,hh,h0⟩
  ·exact .inl h0
  ·exact .inr ⟨b,c,arr,rfl,(hoth b (hnb b rfl)).trans hh,h0⟩
 |map es=>
  obtain ⟨b,clock,entries,rfl,hh,hsz',h1,hrel⟩:=h0
  exact ⟨b,clock,entries,rfl,(hoth b (hnb b rfl)).trans hh,hsz',h1,fun i e q hi hq=>⟨(hrel i e q hi hq).1,hV _ _ (hrel i e q hi hq).2⟩⟩
 |loop ts ps as bd st pd=>
  obtain ⟨b,L,rfl,hh,k1,k2,k3,k4,k5,k6,k7⟩:=h0
  exact ⟨b,L,rfl,(hoth b (hnb b rfl)).trans hh,k1,k2,k3,k4,k5,k6,fun i p hp=>hV _ _ (k7 i p hp)⟩
 |iter m k s=>
  obtain ⟨b,bm,rfl,hh,h1⟩:=h0
  exact ⟨b,bm,rfl,(hoth b (hnb b rfl)).trans hh,h1⟩
 |siter s p=>
  obtain ⟨b,rfl,hh,h1⟩:=h0
  exact ⟨b,rfl,(hoth b (hnb b rfl)).trans hh,h1⟩
 |non=>exact h0
 |old=>exact h0
theorem fW {P:Program} {fn:Func} {R:Ending→World→Prop} {ts:List PV} {tmps:Array Value} {p:PV} {c:Prop} (hc:c): ∀ (rs:List Nat) (S:St),SRel S→TRel S ts tmps→nV P ts S.h fn.results.toList=some (p,c)→
  rs.Nodup→(∀ r∈rs,r<S.w.heap.size∧S.w.heap[r]? =some (.deferred (some []))∧ ¬S.Own r)→
  (∀ w' v,SRel ⟨S.φ,S.h,w',S.x⟩→VRel ⟨S.φ,S.h,w',S.x⟩ p v→w'.heap.size=S.w.heap.size→w'.os=S.w.os→TapeLe S.w w'→w'.output=S.w.output→(∀ k,k∉rs→w'.heap[k]? =S.w.heap[k]?)→
   R (.returned v) w')→LeavesInM Fence.wide 0 P fn tmps R (rs.map fun r=>⟨.collected r, #[]⟩) .returning S.w:=by
 intro rs
 induction rs with
 |nil=>
  intro S hS hT he _ _ hR
  obtain ⟨v,hv,hr⟩:=zkG hS hT he hc
  exact ⟨v,hv,hR S.w v hS hr rfl rfl iN rfl fun _ _=>rfl⟩
 | cons r rs ih=>
  intro S hS hT he hnd hrs hR
  obtain ⟨hlt,hb,hn⟩:=hrs r (by simp)
  obtain ⟨hS',hV⟩:=zc9 hS hlt hb hn _ rfl
  rw [List.nodup_cons] at hnd
  refine ⟨by simp,.inl ⟨r,_,rfl,run_takeDeferred hb,?_⟩⟩
  refine ih ⟨S.φ,S.h,S.w.putObj r (.deferred none),S.x⟩ hS' ⟨hT.size,fun i q hq=>hV _ _ (hT.rel i q hq)⟩ he hnd.2 (fun k hk=> ?_) (fun w' v h1 h2 h3 h4 h5 h6 h7=> ?_)
  ·obtain ⟨k1,k2,k3⟩:=hrs k (by simp [hk])
   have hne:k≠r:=fun e=>hnd.1 (e▸hk)
   exact ⟨by simpa using k1,(World.putObj_heap_other hne).trans k2,k3⟩
  ·refine hR w' v h1 h2 (by simpa using h3) h4 ⟨h5.tape,h5.drawn⟩ h6 fun k hk=> ?_
   simp only [List.mem_cons,not_or] at hk
   exact (h7 k hk.2).trans (World.putObj_heap_other hk.1)
theorem uF {P:Program} {G:Glob} {f:FuncId} {fn:Func} {c:Code} {args:List PV} {h:Heap} {R:PV→Heap→Prop} (hf:P.funcs[f]? =some fn) (hb:fn.body=some c)
  (hen:uG P f=true) (k:AWp P G none c (AEnd P fn R) (args++List.replicate (fn.ntmps-args.length) .ud) h):ACall P G f args h R:=by
 refine ⟨hen,fun φ w X vs hS hG hl hv=> ?_⟩
 refine callsIn_of_wp_marks hf hb trivial ?_
 have hA:ARel w.heap.size ⟨φ,h,w,X⟩ G (args++List.replicate (fn.ntmps-args.length) .ud) {tmps:=vs++Array.replicate (fn.ntmps-vs.size) undef,defers:=[]}:=by
  refine ⟨hS,hG,⟨by simp [hl],fun i p hp=> ?_⟩,⟨[],rfl,by simp,by simp⟩,Nat.le_refl _⟩
  rw [List.getElem?_append] at hp
  split at hp
  ·rename_i hlt
   have hlt':i<vs.size:=by omega
   have h1:(vs++Array.replicate (fn.ntmps-vs.size) undef).getD i undef=vs[i]:=by
    rw [Array.getD_eq_getD_getElem?,Array.getElem?_append_left hlt']
    simp [hlt']
   rw [h1]
   exact hv i p _ hp (by simp [hlt'])
  ·have hge:vs.size≤i:=by omega
   rw [List.getElem?_replicate] at hp
   split at hp
   ·cases hp
    have h1:(vs++Array.replicate (fn.ntmps-vs.size) undef).getD i undef=undef:=by
     rw [Array.getD_eq_getD_getElem?,Array.getElem?_append_right hge,Array.getElem?_replicate]
     split<;>rfl
    rw [h1]
    exact .ud
   ·cases hp
 refine wpIn_mono (k w.heap.size φ w X _ hA) ?_
 rintro e a' w' ⟨φ',ts',h',x,hA',q⟩
 have fin:(match nV (α:=Prop) P ts' h' fn.results.toList with|some (p,c)=>c∧R p h'|none=>False)→
   LeavesInM Fence.wide 0 P fn a'.tmps (fun e w'=> ∃ (φ':List Value) (h':Heap) (p:PV) (v:Value),e= .returned v∧Ext ⟨φ,h,w,X⟩ ⟨φ',h',w',X⟩∧SRel ⟨φ',h',w',X⟩∧VRel ⟨φ',h',w',X⟩ p v∧R p h') a'.defers .returning w':=by
  intro q
  split at q
  ·rename_i p c he
   obtain ⟨rs,hds,hnd,hrs⟩:=hA'.mark
   rw [hds]
   refine fW q.1 rs ⟨φ',h',w',X⟩ hA'.st hA'.tr he hnd (fun r hr=>(hrs r hr).2) fun w'' v h1 h2 h3 h4 h5 h6 h7=> ?_
   refine ⟨φ',h',p,v,rfl,⟨rfl,h4.trans x.os,x.tape.trans h5,h6.trans x.output,by have:=x.size;simp only [] at*;omega,fun b hb ho=> ?_,fun a u hm=> ?_,x.blks,fun b m hr=>by
    obtain ⟨ar,t1,f1,g1,g2⟩:=x.rows b m hr
    refine ⟨ar,t1,f1,(h7 b fun hbr=> ?_).trans g1,g2⟩
    have:=(hrs b hbr).2.2.1
    simp only [] at this g1
    rw [this] at g1
    cases g1⟩,h1,h2,q.2⟩
   ·obtain ⟨k1,k2⟩:=x.unt b hb ho
    refine ⟨k1,(h7 b fun hbr=> ?_).trans k2⟩
    have:=(hrs b hbr).1
    simp only [] at hb
    omega
   ·obtain ⟨m1,m2,m3,m4,m5,m6⟩:=x.mem a u hm
    have hblk:a.block∉rs:=fun hr=>by
     have:=hrs _ hr
     rw [World.cell_deferred this.2.2.1 rfl] at m1
     cases m1
    exact ⟨(World.cell?_of_block (h7 _ hblk)).trans m1,m2,m3,by simp only [] at*;omega,m5,m6⟩
  ·exact q.elim
 cases e with
 |normal=>exact fin q
 |ret=>exact fin q
 |_=>exact q.elim
end Go.AL
namespace Go.AL
open Go.RowKit
def St.fill (S:St) (r:Nat) (v:Value) (b:Blk):St:={S with φ:=S.φ.set r v,h:=S.h.set r b}
theorem zf8 {S S1:St} (x:Ext S S1) (hS:SRel S) (hl1:S1.φ=S.φ) (hh1:S1.h=S.h) {r:Nat} (hr:S.h[r]? =some .non) (v:Value) (b:Blk) (hb: ∀ n,sC v=some n→S.w.heap.size≤n):Ext S (S1.fill r v b):=by
 refine ⟨x.x,x.os,x.tape,x.output,x.size,fun n hn ho=>⟨?_,(x.unt n hn ho).2⟩,fun a u hm=> ?_,fun r' c hc=> ?_,x.rows⟩
 ·rintro ⟨r',u,hp,hu⟩
  simp only [St.fill,hl1,List.getElem?_set] at hp
  split at hp
  ·split at hp
   ·cases hp
    have:=hb n hu
    omega
   ·cases hp
  ·exact ho ⟨r',u,hp,hu⟩
 ·obtain ⟨h1,h2,h3,h4,h5,h6⟩:=x.mem a u hm
  have hlt:=hm.2.2.2.1
  refine ⟨h1,h2,h3,h4,h5,fun r' y hp hy=> ?_⟩
  simp only [St.fill,List.getElem?_set] at hp ⊢
  split at hp
  ·split at hp
   ·cases hp
    have:=hb _ hy
    omega
   ·cases hp
  ·rename_i hne
   obtain ⟨e,k,n,hh,ho⟩:=h6 r' y hp hy
   exact ⟨e,k,n,by rw [if_neg hne];exact hh,ho⟩
 ·by_cases hne:r=r'
  ·subst hne
   rw [hr] at hc
   cases hc
   have hlt:r<S.h.length:=(gsi hr).1
   exact ⟨b,by simp [St.fill,hh1,hlt],trivial⟩
  ·refine ⟨c,?_,Blk.le_refl c ?_⟩
   ·simp only [St.fill,hh1,List.getElem?_set,if_neg hne];exact hc
   ·simp only [St.fill,hl1,List.getElem?_set,if_neg hne]
theorem zc7 {S S1:St} {v:Value} {b:Blk} {r:Nat} (hS:SRel S) (hr:S.h[r]? =some .non) (x:Ext S (S1.fill r v b)) (hφ:S1.φ=S.φ) (hh:S1.h=S.h) (hx:S1.x=S.x)
  (hw: ∀ n,n<S.w.heap.size→S1.w.heap[n]? =S.w.heap[n]?) (hnew:BRel (S1.fill r v b) b v) (hno: ∀ n,sC v=some n→S.w.heap.size≤n):SRel (S1.fill r v b):=by
 have hlt:r<S.h.length:=(gsi hr).1
 have get: ∀ {α:Type} {l:List α} {y z:α} {r':Nat},(l.set r y)[r']? =some z→(r=r'∧z=y)∨(r≠r'∧l[r']? =some z):=by
  intro α l y z r' h
  rw [List.getElem?_set] at h
  split at h
  ·rename_i e
   split at h
   ·cases h;exact .inl ⟨e,rfl⟩
   ·cases h
  ·rename_i e;exact .inr ⟨e,h⟩
 refine ⟨by simp [St.fill,hφ,hh,hS.len],fun r' c u hb hvv=> ?_,fun r1 r2 u u' n hp hp' hn hn'=> ?_,fun a ha=> ?_,fun a ha r' u hp=> ?_⟩
 ·simp only [St.fill,hφ,hh] at hb hvv
  rcases get hb with ⟨e,rfl⟩|⟨e,hb⟩<;>rcases get hvv with ⟨e',rfl⟩|⟨e',hvv⟩
  ·exact hnew
  ·exact absurd e e'
  ·exact absurd e' e
  ·exact (hS.blks r' c u hb hvv).ext x fun n hn=>hw n (hS.own_lt ⟨r',u,hvv,hn⟩)
 ·simp only [St.fill,hφ] at hp hp'
  rcases get hp with ⟨e,e1⟩|⟨e,g1⟩<;>rcases get hp' with ⟨e',e2⟩|⟨e',g2⟩
  ·omega
  ·have h1:=hno n (e1▸hn);have h2:=hS.own_lt ⟨r2,u',g2,hn'⟩;omega
  ·have h1:=hno n (e2▸hn');have h2:=hS.own_lt ⟨r1,u,g1,hn⟩;omega
  ·exact hS.inj r1 r2 u u' n g1 g2 hn hn'
 ·have:=hS.xlt a (by simpa [St.fill,hx] using ha)
  exact Nat.lt_of_lt_of_le this x.size
 ·have hxa:S.x a:=by simpa [St.fill,hx] using ha
  simp only [St.fill,hφ] at hp
  rcases get hp with ⟨_,rfl⟩|⟨_,hp⟩
  ·intro hb
   have h1:=hno _ hb
   have h2:=hS.xlt a hxa
   omega
  ·exact hS.xown a hxa r' u hp
theorem iF {S:St} (hS:SRel S) {r:Nat} (hr:S.h[r]? =some .non) (t:TypeId) (cs:List PV) (vs:Array Value) (hc:CRel S cs vs):
  let S':=({S with w:=S.w.alloc (.cells vs t)}:St).fill r (.pointer (some ⟨S.w.heap.size,0,none⟩)) (.var t cs)
  Ext S S'∧SRel S'∧S'.φ[r]? =some (.pointer (some ⟨S.w.heap.size,0,none⟩))∧S'.h[r]? =some (.var t cs):=by
 intro S'
 have hlt:r<S.h.length:=(gsi hr).1
 have x:Ext S S':=zf8 (wT hS _) hS rfl rfl hr _ _ (by intro n hn;simp [sC] at hn;omega)
 refine ⟨x,zc7 hS hr x rfl rfl rfl (fun n hn=>Below.heap_alloc _ _ _ hn) ⟨S.w.heap.size,vs,rfl,heap_alloc_new _ _,Nat.le_of_eq hc.len.symm,hc.one,fun i p u hp hu=>(hc.rel i p u hp hu).ext x⟩ (by intro n hn;simp [sC] at hn;omega),?_,?_⟩
 ·simp [S',St.fill,hS.len,hlt]
 ·simp [S',St.fill,hlt]
def vH {α:Type} [CK α] (P:Program) (r:Nat) (f:Operand→PV):Op→Option (PV×Blk×α)
 | .alloc t=>match zS P t with
  |some z=>if wI (nI z) then some (.ptr r 0,.var t (xD (nI z)),CK.cnd True) else none
  |none=>none
 | .box t x=>if wI (f x) then some (.ptr r 0,.var t (xD (f x)),CK.cnd True) else none
 | .makeSlice t l c=>match wD P t with
  |some (e,k,b)=>match zS P e,f l,f c with
   | some z,.sc (.int .i64 n),.sc (.int .i64 m)=>if wI (nI z) then
     some (.ms r 0 k n.toNat,.var e (List.replicate n.toNat (xD (nI z))).flatten,CK.cnd (n=m∧0≤n∧n*b≤140737488355328∧n≤140737488355328)) else none
   |_,_,_=>none
  |none=>none
 |_=>none
theorem zd1 {P:Program} {S:St} {ρ:Operand→Value} {f:Operand→PV} {o:Oper} {r:Nat} {p:PV} {b:Blk} {c:Prop} (hS:SRel S) (hx: ∀ x∈o.op.operands,VRel S (f x) (ρ x)) (hr:S.h[r]? =some .non)
  (he:vH P r f o.op=some (p,b,c)) (hc:c): ∃ φ' w' v,(execOp ρ o).run P S.w= .ok (.value v) w'∧Ext S {S with φ:=φ',h:=S.h.set r b,w:=w'}∧SRel {S with φ:=φ',h:=S.h.set r b,w:=w'}∧
   VRel {S with φ:=φ',h:=S.h.set r b,w:=w'} p v:=by
 have fin: ∀ {s:Sem Value} {φ':List Value} {w':World} {v:Value},s.run P S.w= .ok v w'→Ext S {S with φ:=φ',h:=S.h.set r b,w:=w'}→SRel {S with φ:=φ',h:=S.h.set r b,w:=w'}→VRel {S with φ:=φ',h:=S.h.set r b,w:=w'} p v→
   ∃ φ' w' v,Sem.run P (do pure (.value (←s)):Sem Next) S.w= .ok (.value v) w'∧Ext S {S with φ:=φ',h:=S.h.set r b,w:=w'}∧SRel {S with φ:=φ',h:=S.h.set r b,w:=w'}∧
   VRel {S with φ:=φ',h:=S.h.set r b,w:=w'} p v:=by
  intro s φ' w' v hr x hs hv
  exact ⟨φ',w',v,by simp only [Sem.run_bind,hr,Result.andThen_ok,Sem.run_pure],x,hs,hv⟩
 unfold execOp
 cases hop:o.op with
 |alloc t=>
  rw [hop] at he hx
  simp only [vH,vL,wE] at he
  split at he
  case h_2=>cases he
  rename_i z hz
  split at he
  case isFalse=>cases he
  rename_i hsh
  cases he
  obtain ⟨x,hS',hp,hb⟩:=iF hS hr t _ _ (vM (S:=S) hsh (sN S z))
  exact fin (w':=S.w.alloc (.cells z.cells t)) (by simp [Instr.alloc,mP hz,newVar,newRow]) x hS' (.ptr hp hb)
 |box t y=>
  rw [hop] at he hx
  simp only [vH,vL,wE] at he
  split at he
  case isFalse=>cases he
  rename_i hsh
  cases he
  obtain ⟨x,hS',hp,hb⟩:=iF hS hr t _ _ (vM (S:=S) hsh (hx y (by simp [Op.operands])))
  exact fin (w':=S.w.alloc (.cells (ρ y).cells t)) (by simp [Instr.box,newVar,newRow]) x hS' (.ptr hp hb)
 |makeSlice t l m=>
  rw [hop] at he hx
  simp only [vH,vL,wE] at he
  split at he
  case h_2=>cases he
  rename_i e k by' ht
  split at he
  case h_2=>cases he
  rename_i z n m' hz hfl hfm
  split at he
  case isFalse=>cases he
  rename_i hsh
  cases he
  obtain ⟨rfl,h0,hb,hn⟩:=hc
  have h1:=hx l (by simp [Op.operands])
  have h2:=hx m (by simp [Op.operands])
  rw [hfl] at h1
  rw [hfm] at h2
  have g1:ρ l= .int .i64 n:=by generalize ρ l=u at h1;cases h1;rfl
  have g2:ρ m= .int .i64 n:=by generalize ρ m=u at h2;cases h2;rfl
  obtain ⟨htu,i,zv,hi,hzv,hsz,hby,hzs,hk0⟩:=uH ht
  have:z=zv:=by unfold zS at hz;rw [hi] at hz;simp [hzv] at hz;exact hz.symm
  subst this
  obtain ⟨m,rfl⟩:=Int.eq_ofNat_of_zero_le h0
  have hc:=tQ (S:=S) hsh m
  have hrun:=run_make (P:=P) S.w t e i z htu hi hzv .i64 .i64 m m h0 (Int.le_refl _) (by rw [hby,Int.mul_comm];omega) (by omega)
  rw [Int.toNat_natCast] at hrun ⊢
  obtain ⟨x,hS',hp,hb'⟩:=iF hS hr e _ _ hc
  have hmx:(140737488355328:Nat)≤maxLen:=by simp [maxLen]
  have e0:m*k=m*z.cells.size:=by rw [hzs]
  have e1:madeCells z.cells (m*k)=(Array.range (m*z.cells.size)).map (z.cells[· %z.cells.size]!):=by rw [e0];rfl
  rw [hsz,e1] at hrun
  refine fin (by rw [g1,g2];exact hrun) x hS' ?_
  have hlen:((List.replicate m (xD (nI z))).flatten).length=m*k:=by rw [←hc.len];simp [hzs]
  have hrow: ∀ cs0,St.Row (({S with w:=S.w.alloc (.cells ((Array.range (m*z.cells.size)).map (z.cells[· %z.cells.size]!)) e)}:St).fill r (.pointer (some ⟨S.w.heap.size,0,none⟩)) cs0) S.w.heap.size (0+m*k):=fun cs0=>⟨_,_,_,heap_alloc_new _ _,by simp [hzs]⟩
  exact .ms hp hb' (by rw [hlen,Int.toNat_natCast];omega) (Nat.le_refl _) (by omega) (hrow _)
 |_=>rw [hop] at he;cases he
theorem zd2 {P:Program} {r:Nat} {f:Operand→PV} {op:Op} {p:PV} {b:Blk} (e:vH P r f op=some (p,b,true)): ∃ c:Prop,vH P r f op=some (p,b,c)∧c:=by
 have k:CkRel (γ:=PV×Blk) ((vH P r f op).map fun r=>((r.1,r.2.1),r.2.2)) ((vH P r f op).map fun r=>((r.1,r.2.1),r.2.2)):=by
  cases op<;>simp only [vH]<;>(repeat' split)
  all_goals first|exact zT|exact xB (γ:=PV×Blk) (_,_) _
 rw [e] at k
 cases hc:vH (α:=Prop) P r f op with
 |none=>rw [hc] at k;exact k.elim
 |some r=>rw [hc] at k;obtain ⟨q,hh,c⟩:=r;obtain ⟨hq,k⟩:=k;cases hq;exact ⟨c,rfl,k rfl⟩
def rY (h:Heap) (m:Nat):Heap:=h++List.replicate m .non
theorem zbG {S:St} (hS:SRel S) (m:Nat):Ext S ⟨S.φ++List.replicate m undef,rY S.h m,S.w,S.x⟩∧SRel ⟨S.φ++List.replicate m undef,rY S.h m,S.w,S.x⟩:=by
 have old: ∀ {r:Nat} {v:Value} {n:Nat},(S.φ++List.replicate m undef)[r]? =some v→sC v=some n→S.φ[r]? =some v:=by
  intro r v n h hb
  rw [List.getElem?_append] at h
  split at h
  ·exact h
  ·rw [List.getElem?_replicate] at h
   split at h
   ·cases h;simp [sC,undef] at hb
   ·cases h
 have x:Ext S ⟨S.φ++List.replicate m undef,rY S.h m,S.w,S.x⟩:=by
  refine ⟨rfl,rfl,iN,rfl,Nat.le_refl _,fun b hb ho=>⟨?_,rfl⟩,fun a v hm=> ?_,fun r b hb=> ?_,fun _ _ h=>h⟩
  ·rintro ⟨r,v,hv,hbv⟩
   exact ho ⟨r,v,old hv hbv,hbv⟩
  ·obtain ⟨h1,h2,h3,h4,h5,h6⟩:=hm
   refine ⟨h1,h2,h3,h4,h5,fun r v hv hb=> ?_⟩
   obtain ⟨e,k,n,hh,ho⟩:=h6 r v (old hv hb) hb
   have hlt:r<S.h.length:=(gsi hh).1
   exact ⟨e,k,n,by simp only [rY];rw [List.getElem?_append,if_pos hlt];exact hh,ho⟩
  ·have hlt:r<S.h.length:=(gsi hb).1
   have hlt':r<S.φ.length:=by rw [hS.len];exact hlt
   exact ⟨b,by simp only [rY];rw [List.getElem?_append,if_pos hlt];exact hb,Blk.le_refl b (by simp only [];rw [List.getElem?_append,if_pos hlt'])⟩
 refine ⟨x,⟨by simp [rY,hS.len],fun r b v hb hv=> ?_,fun r r' v v' n hv hv' hb hb'=>hS.inj r r' v v' n (old hv hb) (old hv' hb') hb hb',hS.xlt,fun a ha r v hv hb=>hS.xown a ha r v (old hv hb) hb⟩⟩
 by_cases hlt:r<S.h.length
 ·have hlt':r<S.φ.length:=by rw [hS.len];exact hlt
  simp only [rY,List.getElem?_append,if_pos hlt] at hb
  simp only [List.getElem?_append,if_pos hlt'] at hv
  exact (hS.blks r b v hb hv).ext x fun n _=>rfl
 ·have hlt': ¬r<S.φ.length:=by rw [hS.len];exact hlt
  simp only [rY,List.getElem?_append,if_neg hlt,List.getElem?_replicate] at hb
  simp only [List.getElem?_append,if_neg hlt',List.getElem?_replicate] at hv
  split at hb
  ·cases hb
   split at hv
   ·cases hv;rfl
   ·cases hv
  ·cases hb
end Go.AL
namespace Go.AL
open Go.RowKit
def rI (fb:List Nat) (h:Heap):Heap:=fb.foldl (fun h r=>h.set r .non) h
theorem qO {fb:List Nat}: ∀ {h:Heap} {r:Nat},(rI fb h)[r]? =if r∈fb∧r<h.length then some .non else h[r]? :=by
 induction fb with
 |nil=>intro h r;simp [rI]
 | cons s fb ih=>
  intro h r
  have:rI (s::fb) h=rI fb (h.set s .non):=rfl
  rw [this,ih]
  simp only [List.length_set,List.mem_cons]
  by_cases h1:r∈fb∧r<h.length
  ·rw [if_pos h1,if_pos ⟨.inr h1.1,h1.2⟩]
  ·rw [if_neg h1,List.getElem?_set]
   by_cases h2:s=r
   ·subst h2
    by_cases h3:s<h.length
    ·simp [h3]
    ·simp [h3]
   ·rw [if_neg h2]
    have h3: ¬((r=s∨r∈fb)∧r<h.length):=by
     rintro ⟨h4|h4,h5⟩
     ·exact h2 h4.symm
     ·exact h1 ⟨h4,h5⟩
    rw [if_neg h3]
theorem zf2 {fb:List Nat}: ∀ {h:Heap},(rI fb h).length=h.length:=by
 induction fb with
 |nil=>intro h;rfl
 |cons s fb ih=>intro h;show (rI fb (h.set s .non)).length=_;rw [ih];simp
theorem qN {fb:List Nat} {h:Heap} {s:Nat} (b:Blk) (hs:s∈fb):rI fb (h.set s b)=rI fb h:=by
 apply List.ext_getElem?
 intro r
 rw [qO,qO]
 simp only [List.length_set]
 by_cases h1:r∈fb∧r<h.length
 ·rw [if_pos h1,if_pos h1]
 ·rw [if_neg h1,if_neg h1,List.getElem?_set]
  split
  ·rename_i e
   subst e
   have h2: ¬s<h.length:=fun h2=>h1 ⟨hs,h2⟩
   simp [h2]
  ·rfl
end Go.AL
