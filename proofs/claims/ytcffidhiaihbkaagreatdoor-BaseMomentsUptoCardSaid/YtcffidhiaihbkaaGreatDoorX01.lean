/-
  'apure0_ok'.
-/
import Derived.Test.YtcffidhiaihbkaaGreatDoorX00
set_option linter.unusedSimpArgs false
set_option linter.unusedVariables false
set_option maxRecDepth 100000
set_option maxHeartbeats 4000000
namespace Go.AL
open Go.RowKit
section
variable {P:Program} {S:St}
theorem VRel.agg_inv {cs:List PV} {v:Value} (h:VRel S (.agg cs) v): ∃ vs:Array Value,v= .agg vs∧vs.size=cs.length∧(∀ (i:Nat) (u:Value),vs[i]? =some u→u.oneCell'=true)∧
  ∀ (i:Nat) (p:PV) (u:Value),cs[i]? =some p→vs[i]? =some u→VRel S p u:=by
 cases h with|agg hl h1 h=>exact ⟨_,rfl,hl,h1,h⟩
theorem nN {t:TypeId} {i off:Nat} {ft:TypeId} (h:zR P t i=some (off,ft)): ∃ (fs:Array Field) (f:Field),P.underlying t=some (.struct fs)∧fs[i]? =some f∧f.offset=off∧f.type=ft:=by
 unfold zR at h
 split at h
 ·rename_i fs hu
  cases hf:fs[i]? with
  |none=>rw [hf] at h;cases h
  |some f=>rw [hf] at h;simp at h;exact ⟨fs,f,hu,hf,h.1,h.2⟩
 ·cases h
theorem tS {t e:TypeId} (h:wX P t=some e):P.underlying t=some (.slice e):=by
 unfold wX at h
 split at h
 ·cases h;assumption
 ·cases h
theorem pY {t e:TypeId} {n:Nat} (h:bR P t=some (n,e)):P.underlying t=some (.array n e):=by
 unfold bR at h
 split at h
 ·cases h;assumption
 ·cases h
theorem qL {t:TypeId} (h:gJ P t=true):P.underlying t=some .string:=by
 unfold gJ at h
 split at h
 ·assumption
 ·cases h
theorem cK {t:TypeId} {k:IntKind} (h:zeT P t=some k):P.underlying t=some (.int k):=by
 unfold zeT at h
 split at h
 ·cases h;assumption
 ·cases h
theorem lA {t:TypeId} {cs:List PV} {vs:Array Value} {off:Nat} {p:PV} {c:Prop} (hl:vs.size=cs.length) (h1: ∀ (i:Nat) (u:Value),vs[i]? =some u→u.oneCell'=true)
  (h: ∀ (i:Nat) (p:PV) (u:Value),cs[i]? =some p→vs[i]? =some u→VRel S p u)
  (he:(match xL P t,dD P t with
   |some s,some true=>some (PV.agg ((cs.drop off).take s),off+s≤cs.length)
   |some _,some false=>some (cs.getD off .un,off<cs.length)
   |_,_=>none)=some (p,c)) (hc:c): ∃ v,(part t vs off).run P S.w= .ok v S.w∧VRel S p v:=by
 split at he
 ·rename_i s hs hg
  cases he
  refine ⟨.agg (vs.extract off (off+s)),by simp [part,oG hg,zV hs],.agg (by simp;omega) (fun i u hu=> ?_) (fun i p u hp hu=> ?_)⟩
  ·rw [Array.getElem?_extract] at hu
   split at hu
   ·exact h1 _ u hu
   ·cases hu
  ·rw [Array.getElem?_extract] at hu
   split at hu
   ·rw [List.getElem?_take] at hp
    split at hp
    ·rw [List.getElem?_drop] at hp;exact h _ p u hp hu
    ·cases hp
   ·cases hu
 ·rename_i s hs hg
  cases he
  have hv:vs[off]? =some vs[off]:=Array.getElem?_eq_getElem (by omega)
  have hp:cs[off]? =some cs[off]:=List.getElem?_eq_getElem hc
  refine ⟨vs[off],by simp [part,oG hg,hv],?_⟩
  rw [List.getD_eq_getElem?_getD,hp]
  exact h _ _ _ hp hv
 ·cases he
theorem zf6 {t:TypeId} {i:Nat} {p q:PV} {c:Prop} {u:Value} (he:(match zR P t i,q with
   |some (off,ft),.agg cs=>(match xL P ft,dD P ft with
    |some s,some true=>some (PV.agg ((cs.drop off).take s),off+s≤cs.length)
    |some _,some false=>some (cs.getD off .un,off<cs.length)
    |_,_=>none)
   |_,_=>none)=some (p,c)) (hc:c) (hu:VRel S q u): ∃ v,(Instr.field t u i).run P S.w= .ok v S.w∧VRel S p v:=by
 split at he
 ·rename_i off ft cs ht
  obtain ⟨fs,f,hus,hf,rfl,rfl⟩:=nN ht
  obtain ⟨vs,rfl,hl,h1,h⟩:=hu.agg_inv
  obtain ⟨v,hv,hr⟩:=lA (P:=P) hl h1 h he hc
  exact ⟨v,by simp [Instr.field,run_underlying hus,hf,asAgg,hv],hr⟩
 ·cases he
theorem dA (a:Addr) (i j:Nat):(a.add i).add j=a.add (i+j):=by
 unfold Addr.add
 by_cases hi:i=0<;>by_cases hj:j=0<;>simp [hi,hj,Nat.add_assoc]
theorem zbA {cs:List PV} {a:Addr} (h:VRel S (.tp cs) (.pointer (some a))) (n:Nat):VRel S (.tp (cs.drop n)) (.pointer (some (a.add n))):=by
 cases h with
 |tp val hv h=>
  refine .tp (fun j=>val (n+j)) (fun j hj=> ?_) (fun j p hp=> ?_)
  ·rw [dA];exact hv _ (by simp at hj;omega)
  ·rw [List.getElem?_drop] at hp;exact h _ p hp
theorem fY {t:TypeId} {i:Nat} {p q:PV} {c:Prop} {u:Value} (he:(match zR P t i,q with
  |some (off,ft),.ptr r o=>(match xL P ft with
   |some (_+1)=>some (PV.ptr r (o+off),True)
   |_=>none)
  |some (off,ft),.tp cs=>(match xL P ft with
   |some (_+1)=>some (PV.tp (cs.drop off),True)
   |_=>none)
  |_,_=>none)=some (p,c)) (hu:VRel S q u): ∃ v,(Instr.fieldAt t u i).run P S.w= .ok v S.w∧VRel S p v:=by
 split at he
 ·rename_i off ft r o ht
  obtain ⟨fs,f,hus,hf,rfl,rfl⟩:=nN ht
  split at he
  ·rename_i s hs
   cases he
   cases hu with
   |ptr hp hb=>
    refine ⟨_,?_,.ptr hp hb⟩
    simp [Instr.fieldAt,run_underlying hus,hf,Instr.sureAddr,fieldPlace,zV hs,Addr.add_lit]
   |optr hb=>
    rename_i a
    refine ⟨.pointer (some (a.add f.offset)),?_,.optr hb⟩
    simp [Instr.fieldAt,run_underlying hus,hf,Instr.sureAddr,fieldPlace,zV hs]
  ·cases he
 ·rename_i off ft cs ht
  obtain ⟨fs,f,hus,hf,rfl,rfl⟩:=nN ht
  split at he
  ·rename_i s hs
   cases he
   have hu':=hu
   cases hu with
   |tp val hv h=>
    refine ⟨_,?_,zbA hu' f.offset⟩
    simp [Instr.fieldAt,run_underlying hus,hf,Instr.sureAddr,fieldPlace,zV hs]
  ·cases he
 ·cases he
theorem uU {k:Nat} {els:List (List PV)} {v:Value} (h:VRel S (.ts k els) v): ∃ (a:Option Addr) (c:Nat) (ad:Addr) (val:Nat→Value),v= .slice a els.length c∧els.length≤c∧c≤maxLen∧
  (∀ (i:Nat) (e:List PV),els[i]? =some e→e.length=k)∧(els.length≠0→a=some ad)∧(∀ j,j<els.length*k→S.M (ad.add j) (val j))∧
  ∀ (i:Nat) (e:List PV) (j:Nat) (p:PV),els[i]? =some e→e[j]? =some p→VRel S p (val (i*k+j)):=by
 cases h with
 |ts hl hc hm hk ad ha val hv h=>subst hl;exact ⟨_,_,ad,val,rfl,hc,hm,hk,ha,hv,h⟩
theorem ziM {k:Nat} {els:List (List PV)} {e:List PV} {i:Nat} {ad:Addr} {val:Nat→Value} (hk: ∀ (i:Nat) (e:List PV),els[i]? =some e→e.length=k)
  (hv: ∀ j,j<els.length*k→S.M (ad.add j) (val j)) (h: ∀ (i:Nat) (e:List PV) (j:Nat) (p:PV),els[i]? =some e→e[j]? =some p→VRel S p (val (i*k+j)))
  (hi:els[i]? =some e):VRel S (.tp e) (.pointer (some (ad.add (i*k)))):=by
 have hil:i<els.length:=(gsi hi).1
 refine .tp (fun j=>val (i*k+j)) (fun j hj=> ?_) (fun j p hp=>h i e j p hi hp)
 rw [dA]
 rw [hk i e hi] at hj
 refine hv _ ?_
 have:(i+1)*k≤els.length*k:=Nat.mul_le_mul_right k hil
 rw [Nat.add_mul,Nat.one_mul] at this
 omega
theorem fX {t:TypeId} {p q r:PV} {c:Prop} {u v:Value} (he:(match r with
  | .sc (.int _ n)=>(match wX P t with
   |some e=>(match zaG q,q with
    |some (k,els),_=>if xL P e=some k then some (PV.tp (els.getD n.toNat []),0≤n∧n<els.length) else none
    |none,.ms r off k len=>if xL P e=some k then some (.ptr r (off+n.toNat*k),0≤n∧n<len) else none
    |_,_=>none)
   | none=>(match bR P t,q with
    |some (len,e),.ptr r o=>(match xL P e with
     |some k=>some (PV.ptr r (o+n.toNat*k),0≤n∧n<len)
     |none=>none)
    |some (len,e),.tp cs=>(match xL P e with
     |some k=>some (PV.tp (cs.drop (n.toNat*k)),0≤n∧n<len)
     |none=>none)
    |_,_=>none))
  |_=>none)=some (p,c)) (hc:c) (hu:VRel S q u) (hv:VRel S r v): ∃ z,(Instr.indexAt t u v).run P S.w= .ok z S.w∧VRel S p z:=by
 split at he
 case h_2=>cases he
 rename_i ik n
 cases hv with|sc hn=>
 split at he
 ·rename_i e hte
  have hus:=tS hte
  split at he
  ·rename_i k els hq
   split at he
   case isFalse=>cases he
   rename_i hs
   cases he
   obtain ⟨a,cc,ad,val,rfl,h1,h2,h3,h4,h5,h6⟩:=uU (iL hq hu)
   obtain ⟨m,rfl⟩:=Int.eq_ofNat_of_zero_le hc.1
   have hm:m<els.length:=by omega
   have ha:=h4 (by omega)
   subst ha
   have hg:els[m]? =some els[m]:=List.getElem?_eq_getElem hm
   refine ⟨.pointer (some (ad.add (m*k))),?_,?_⟩
   ·simp [Instr.indexAt,asIntOf,run_underlying hus,hm,zV hs]
   ·rw [List.getD_eq_getElem?_getD,Int.toNat_natCast,hg]
    exact ziM h3 h5 h6 hg
  ·rename_i rr off k len hq
   split at he
   case isFalse=>cases he
   rename_i hs
   cases he
   cases hu with
   |ms hp hb hl hcc hm _=>
    obtain ⟨m,rfl⟩:=Int.eq_ofNat_of_zero_le hc.1
    have hml:m<len:=by omega
    refine ⟨_,?_,.ptr hp hb⟩
    simp [Instr.indexAt,asIntOf,run_underlying hus,hml,zV hs,Addr.add_lit]
   |oms hb hcc hm=>
    obtain ⟨m,rfl⟩:=Int.eq_ofNat_of_zero_le hc.1
    have hml:m<len:=by omega
    rename_i a
    refine ⟨.pointer (some (a.add (m*k))),?_,.optr hb⟩
    simp [Instr.indexAt,asIntOf,run_underlying hus,hml,zV hs]
  ·cases he
 ·split at he
  ·rename_i len e rr o hta
   have hus:=pY hta
   split at he
   ·rename_i k hs
    cases he
    cases hu with
    |ptr hp hb=>
     obtain ⟨m,rfl⟩:=Int.eq_ofNat_of_zero_le hc.1
     have hml:m<len:=by omega
     refine ⟨_,?_,.ptr hp hb⟩
     simp [Instr.indexAt,asIntOf,run_underlying hus,hml,zV hs,Addr.add_lit,Instr.sureAddr]
    |optr hb=>
     obtain ⟨m,rfl⟩:=Int.eq_ofNat_of_zero_le hc.1
     have hml:m<len:=by omega
     rename_i a
     refine ⟨.pointer (some (a.add (m*k))),?_,.optr hb⟩
     simp [Instr.indexAt,asIntOf,run_underlying hus,hml,zV hs,Instr.sureAddr]
   ·cases he
  ·rename_i len e cs hta
   have hus:=pY hta
   split at he
   ·rename_i k hs
    cases he
    have hu':=hu
    cases hu with
    |tp val hv h=>
     obtain ⟨m,rfl⟩:=Int.eq_ofNat_of_zero_le hc.1
     have hml:m<len:=by omega
     refine ⟨_,?_,zbA hu' (m*k)⟩
     simp [Instr.indexAt,asIntOf,run_underlying hus,hml,zV hs,Instr.sureAddr]
   ·cases he
  ·cases he
theorem zjC (hS:SRel S) {t:TypeId} {p q:PV} {c:Prop} {u:Value} (he:(match q with
  | .tp cs=>zk5 P t cs
  | .ptr r o=>(match S.h[r]? with
   |some (.var _ cs)=>zk5 P t (cs.drop o)
   |_=>none)
  |_=>none)=some (p,c)) (hc:c) (hu:VRel S q u): ∃ z,(Instr.loadAt t u).run P S.w= .ok z S.w∧VRel S p z:=by
 split at he
 ·rename_i cs
  cases hu with
  |tp val hv h=>
   obtain ⟨z,hz,hr⟩:=sS (S:=S) (P:=P) val (fun j hj=>⟨(hv j hj).1,(hv j hj).2.1⟩) h he hc
   exact ⟨z,by simp [Instr.loadAt,Instr.sureAddr,hz],hr⟩
 ·rename_i r o
  split at he
  ·rename_i tt cs hb
   cases hu with
   | ptr hp hb'=>
    rename_i b _ _
    obtain ⟨b',arr,hbe,hh,hl,h1,hcs⟩:=hS.blks r _ _ hb hp
    cases hbe
    have hcell: ∀ j,j<(cs.drop o).length→S.w.cell? ((⟨b,o,none⟩:Addr).add j)=some (arr.getD (o+j) undef):=fun j hj=>by
     simp at hj
     rw [Addr.add_lit,cell_of_row _ _ _ _ _ _ hh]
     have:o+j<arr.size:=by omega
     simp [Array.getD,this]
    have harr: ∀ j,j<(cs.drop o).length→arr[o+j]? =some (arr.getD (o+j) undef):=fun j hj=>by
     simp at hj
     have:o+j<arr.size:=by omega
     simp [Array.getD,this]
    obtain ⟨z,hz,hr⟩:=sS (S:=S) (P:=P) (a:=⟨b,o,none⟩) (cs:=cs.drop o) (fun j=>arr.getD (o+j) undef) (fun j hj=>⟨hcell j hj,h1 _ _ (harr j hj)⟩)
     (fun j p hp=>hcs (o+j) p _ (by rw [List.getElem?_drop] at hp;exact hp) (harr j (gsi hp).1)) he hc
    exact ⟨z,by simp [Instr.loadAt,Instr.sureAddr,hz],hr⟩
   |optr hb'=>rw [hb] at hb';cases hb'
  ·cases he
 ·cases he
end
end Go.AL
namespace Go.AL
open Go.RowKit
section
variable {P:Program} {S:St}
theorem zf0 {t:TypeId} {p q r:PV} {c:Prop} {u v:Value} (he:(match r with
  | .sc (.int _ n)=>(match bR P t,q with
   |some (len,e),.agg cs=>(match xL P e,dD P e with
    |some s,some true=>some (PV.agg ((cs.drop (n.toNat*s)).take s),0≤n∧n<len∧n.toNat*s+s≤cs.length)
    |some s,some false=>some (cs.getD (n.toNat*s) .un,0≤n∧n<len∧n.toNat*s<cs.length)
    |_,_=>none)
   |_,.sc (.string b)=>if gJ P t then some (PV.sc (.int .u8 (b.data.getD n.toNat 0).toNat),0≤n∧n<b.size) else none
   |_,_=>none)
  |_=>none)=some (p,c)) (hc:c) (hu:VRel S q u) (hv:VRel S r v): ∃ z,(Instr.index t u v).run P S.w= .ok z S.w∧VRel S p z:=by
 split at he
 case h_2=>cases he
 rename_i ik n
 cases hv with|sc hn=>
 split at he
 ·rename_i len e cs hta
  have hus:=pY hta
  obtain ⟨vs,rfl,hl,h1,h⟩:=hu.agg_inv
  split at he
  ·rename_i s hs hg
   cases he
   obtain ⟨h0,h2,h3⟩:=hc
   obtain ⟨m,rfl⟩:=Int.eq_ofNat_of_zero_le h0
   rw [Int.toNat_natCast] at h3
   obtain ⟨z,hz,hr⟩:=lA (P:=P) (S:=S) (t:=e) (off:=m*s) (p:= .agg ((cs.drop (m*s)).take s)) (c:=m*s+s≤cs.length) hl h1 h (by rw [hs,hg]) h3
   refine ⟨z,?_,by rw [Int.toNat_natCast];exact hr⟩
   have hm:m<len:=by omega
   simp [Instr.index,asIntOf,run_underlying hus,hm,zV hs,hz]
  ·rename_i s hs hg
   cases he
   obtain ⟨h0,h2,h3⟩:=hc
   obtain ⟨m,rfl⟩:=Int.eq_ofNat_of_zero_le h0
   rw [Int.toNat_natCast] at h3
   obtain ⟨z,hz,hr⟩:=lA (P:=P) (S:=S) (t:=e) (off:=m*s) (p:=cs.getD (m*s) .un) (c:=m*s<cs.length) hl h1 h (by rw [hs,hg]) h3
   refine ⟨z,?_,by rw [Int.toNat_natCast];exact hr⟩
   have hm:m<len:=by omega
   simp [Instr.index,asIntOf,run_underlying hus,hm,zV hs,hz]
  ·cases he
 ·split at he
  case isFalse=>cases he
  rename_i b hs
  cases he
  cases hu with|sc hb=>
  obtain ⟨h0,h2⟩:=hc
  obtain ⟨m,rfl⟩:=Int.eq_ofNat_of_zero_le h0
  have hm:m<b.size:=by omega
  have hg:b[m]? =some (b.data.getD m 0):=by
   have:m<b.data.size:=hm
   rw [getElem?_pos b m hm,Array.getD,dif_pos this]
   rfl
  refine ⟨_,by simp [Instr.index,asIntOf,run_underlying (qL hs),hg],.sc ?_⟩
  have:=(b.data.getD m 0).toNat_lt
  simp only [tJ,Int.toNat_natCast]
  generalize (b.data.getD m 0).toNat=y at this ⊢
  exact ⟨by simp [IntKind.min,IntKind.signed],by simp [IntKind.max,IntKind.signed,IntKind.bits];omega⟩
 ·cases he
theorem zlX {t ty:TypeId} {p q:PV} {c:Prop} {u:Value} (he:pI P t q=some (p,c)) (hu:VRel S q u):
  ∃ z,(Builtin.len_ #[t] ty #[u]).run P S.w= .ok z S.w∧VRel S p z:=by
 have sl: ∀ {a:Option Addr} {n cc:Nat} {e:TypeId},wX P t=some e→n≤maxLen→u= .slice a n cc→ ∃ z,(Builtin.len_ #[t] ty #[u]).run P S.w= .ok z S.w∧VRel S (.sc (.int .i64 n)) z:=by
  intro a n cc e ht hn hu
  subst hu
  refine ⟨.int .i64 n,by simp [Builtin.len_,run_underlying (tS ht),goInt],.sc ?_⟩
  simp only [maxLen] at hn
  exact ⟨by simp [IntKind.min,IntKind.signed,IntKind.bits]<;>omega,by simp [IntKind.max,IntKind.signed,IntKind.bits]<;>omega⟩
 cases q<;>simp only [pI,vL,wE,reduceCtorEq] at he<;>(try cases he)
 case sc v=>
  cases v<;>simp only [reduceCtorEq] at he
  rename_i s
  split at he
  case isFalse=>cases he
  rename_i ht
  cases he
  cases hu with|sc hs=>
  refine ⟨.int .i64 s.size,by simp [Builtin.len_,run_underlying (qL ht),goInt],.sc ?_⟩
  simp only [tJ,maxLen] at hs ⊢
  exact ⟨by simp [IntKind.min,IntKind.signed,IntKind.bits]<;>omega,by simp [IntKind.max,IntKind.signed,IntKind.bits]<;>omega⟩
 all_goals
  split at he
  case isFalse=>cases he
  rename_i ht
  obtain ⟨e,ht⟩:=Option.isSome_iff_exists.1 ht
  cases he
 ·cases hu;exact sl ht (Nat.zero_le _) rfl
 ·obtain ⟨a,cc,ad,val,rfl,h1,h2,_⟩:=uU hu;exact sl ht (Nat.le_trans h1 h2) rfl
 ·cases hu with|tc hu=>obtain ⟨a,cc,ad,val,hv,h1,h2,_⟩:=uU hu;exact sl ht (Nat.le_trans h1 h2) hv
 ·cases hu with|vec hu=>obtain ⟨a,cc,ad,val,rfl,h1,h2,_⟩:=uU hu;exact sl ht (Nat.le_trans h1 h2) rfl
 ·cases hu with
  |ms hp hb hl hcc hm _=>exact sl ht (Nat.le_trans hcc hm) rfl
  |oms hb hcc hm=>exact sl ht (Nat.le_trans hcc hm) rfl
def ORel (S:St):Option PV→Option Value→Prop
 |none,none=>True
 |some p,some v=>VRel S p v
 |_,_=>False
theorem oE {q:Option PV} {d z n:Nat} {c:Prop} {x:Option Value} (he:yV q d z=some (n,c)) (hc:c) (hx:ORel S q x):
  (q=none∧x=none∧n=z)∨ ∃ (k:IntKind),x=some (.int k n)∧n≤d:=by
 unfold yV at he
 simp only [vL,wE] at he
 split at he
 ·cases he
  cases x with
  |none=>exact .inl ⟨rfl,rfl,rfl⟩
  |some v=>exact hx.elim
 ·rename_i k m
  cases he
  cases x with
  |none=>exact hx.elim
  |some v=>
   simp only [ORel] at hx
   cases hx with|sc h=>
   obtain ⟨j,rfl⟩:=Int.eq_ofNat_of_zero_le hc.1
   exact .inr ⟨k,by simp,by omega⟩
 ·cases he
theorem vS {k:IntKind} {n d:Nat} (h:n≤d) (code:BoundsCode) (w:World):(Instr.sliceBound (.int k n) d code).run P w= .ok n w:=by
 have:(n:Int)≤d:=by omega
 simp [Instr.sliceBound,asIntOf,this]
theorem rS {f:Operand→PV} {ρ:Operand→Value} {x:Option Operand} (h: ∀ o,x=some o→VRel S (f o) (ρ o)):ORel S (x.map f) (x.map ρ):=by
 cases x with
 |none=>trivial
 |some o=>exact h o rfl
theorem pU {isS:Bool} {len cap:Nat} {qh ql:Option PV} {lo hi:Option Value} {a b:Nat} {c c':Prop} (hlc:len≤cap) (heh:yV qh len len=some (b,c)) (hel:yV ql b 0=some (a,c'))
  (hc:c) (hc':c') (hh:ORel S qh hi) (hl:ORel S ql lo):
  (Instr.sliceBounds isS len cap lo hi none).run P S.w= .ok (a,b,cap) S.w∧a≤b∧b≤len:=by
 rcases oE heh hc hh with ⟨_,rfl,rfl⟩|⟨k,rfl,hb⟩<;>rcases oE hel hc' hl with ⟨_,rfl,rfl⟩|⟨k',rfl,ha⟩
 ·exact ⟨by simp [Instr.sliceBounds],Nat.zero_le _,Nat.le_refl _⟩
 ·exact ⟨by simp [Instr.sliceBounds,vS ha],ha,Nat.le_refl _⟩
 ·exact ⟨by simp [Instr.sliceBounds,vS (Nat.le_trans hb hlc)],Nat.zero_le _,hb⟩
 ·exact ⟨by simp [Instr.sliceBounds,vS (Nat.le_trans hb hlc),vS ha],ha,hb⟩
theorem lX {len cap:Nat} {qh ql:Option PV} {qm:PV} {lo hi:Option Value} {mx:Value} {a b d:Nat} {c0 c c':Prop} (hlc:len≤cap) (hem:yV (some qm) len 0=some (d,c0)) (heh:yV qh d d=some (b,c)) (hel:yV ql b 0=some (a,c'))
  (hc0:c0) (hc:c) (hc':c') (hm:VRel S qm mx) (hh:ORel S qh hi) (hl:ORel S ql lo) (hn:hi.isSome=true):
  (Instr.sliceBounds true len cap lo hi (some mx)).run P S.w= .ok (a,b,d) S.w∧a≤b∧b≤d∧d≤len:=by
 rcases oE (x:=some mx) hem hc0 hm with ⟨h,_⟩|⟨k0,h0,hd⟩
 ·cases h
 ·cases h0
  rcases oE heh hc hh with ⟨_,rfl,rfl⟩|⟨k,rfl,hb⟩
  ·cases hn
  ·rcases oE hel hc' hl with ⟨_,rfl,rfl⟩|⟨k',rfl,ha⟩
   ·exact ⟨by simp [Instr.sliceBounds,vS (Nat.le_trans hd hlc),vS hb],Nat.zero_le _,hb,hd⟩
   ·exact ⟨by simp [Instr.sliceBounds,vS (Nat.le_trans hd hlc),vS hb,vS ha],ha,hb,hd⟩
theorem zg8 {k:Nat} {els:List (List PV)} {a:Option Addr} {c l h m:Nat} (hv:VRel S (.ts k els) (.slice a els.length c)) (hl:l≤h) (hh:h≤els.length) (hm:h≤m) (hmc:m≤c):
  VRel S (.ts k ((els.take h).drop l)) (.slice (if m=l then a else a.map (·.add (l*k))) (h-l) (m-l)):=by
 obtain ⟨a',c',ad,val,he,h1,h2,h3,h4,h5,h6⟩:=uU hv
 cases he
 have hget: ∀ i e,((els.take h).drop l)[i]? =some e→els[l+i]? =some e:=fun i e hi=>by
  rw [List.getElem?_drop,List.getElem?_take] at hi
  split at hi
  ·exact hi
  ·cases hi
 have hlen:((els.take h).drop l).length=h-l:=by simp;omega
 refine .ts hlen (by omega) (by omega) (fun i e hi=>h3 _ e (hget i e hi)) (ad.add (l*k)) (fun hn=> ?_) (fun j=>val (l*k+j)) (fun j hj=> ?_) (fun i e j p hi hp=> ?_)
 ·rw [if_neg (by omega),h4 (by omega)];rfl
 ·rw [dA]
  refine h5 _ ?_
  have:h*k≤els.length*k:=Nat.mul_le_mul_right k hh
  rw [Nat.sub_mul] at hj
  omega
 ·have:=h6 (l+i) e j p (hget i e hi) hp
  rwa [Nat.add_mul,Nat.add_assoc] at this
theorem fV {s:ByteArray} (a b:Nat) (h:tJ (.string s)):tJ (.string (s.extract a b)):=by
 simp only [tJ] at h ⊢
 rw [ByteArray.size_extract]
 omega
theorem zfG (hS:SRel S) {t:TypeId} {f:Operand→PV} {ρ:Operand→Value} {x:Operand} {lo hi mx:Option Operand} {p:PV} {c:Prop} (he:yI P S.h f (.slice t x lo hi mx)=some (p,c)) (hc:c)
  (hx:VRel S (f x) (ρ x)) (hlo: ∀ o,lo=some o→VRel S (f o) (ρ o)) (hhi: ∀ o,hi=some o→VRel S (f o) (ρ o)) (hmx: ∀ o,mx=some o→VRel S (f o) (ρ o)):
  ∃ z,(Instr.sliceAt t (ρ x) (lo.map ρ) (hi.map ρ) (mx.map ρ)).run P S.w= .ok z S.w∧VRel S p z:=by
 simp only [yI,vL,wE] at he
 split at he
 ·rename_i e hte
  have hus:=tS hte
  split at he
  case h_2=>cases he
  rename_i k els hq
  split at he
  case isFalse=>cases he
  rename_i hs
  have hx':=iL hq hx
  obtain ⟨a0,c0,ad,val,hv0,h1,h2,_⟩:=uU hx'
  rw [hv0] at hx' ⊢
  split at he
  ·split at he
   case h_2=>cases he
   rename_i b cb hb
   split at he
   case h_2=>cases he
   rename_i a ca ha
   cases he
   obtain ⟨⟨hc1,hc2⟩,hc3,hc4⟩:=hc
   obtain ⟨hr,hab,hbl⟩:=pU (S:=S) (P:=P) (isS:=true) h1 hb ha hc3 hc4 (rS hhi) (rS hlo)
   refine ⟨_,?_,zg8 hx' hab hbl (Nat.le_trans hbl h1) (Nat.le_refl _)⟩
   simp [Instr.sliceAt,Instr.slice,run_underlying hus,hr,zV hs]
  ·rename_i m
   split at he
   case h_2=>cases he
   rename_i d cd hd
   split at he
   case h_2=>cases he
   rename_i b cb hb
   split at he
   case h_2=>cases he
   rename_i a ca ha
   cases he
   obtain ⟨⟨hc1,hc2,hc3,hc4⟩,hc5,hc6,hc7⟩:=hc
   obtain ⟨hr,hab,hbd,hdl⟩:=lX (S:=S) (P:=P) h1 hd hb ha hc5 hc6 hc7 (hmx m rfl) (rS hhi) (rS hlo) (by simpa using hc4)
   subst hc1
   refine ⟨_,?_,.tc (zg8 (m:=b) hx' hab hdl (Nat.le_refl _) (Nat.le_trans hdl h1))⟩
   simp [Instr.sliceAt,Instr.slice,run_underlying hus,hr,zV hs]
 ·split at he
  ·rename_i n e r o hta hfx
   have hus:=pY hta
   split at he
   case h_2=>cases he
   rename_i k tt cs hs hb
   split at he
   case isFalse=>cases he
   rename_i hno
   cases he
   simp only [Bool.and_eq_true,Option.isNone_iff_eq_none] at hno
   obtain ⟨⟨rfl,rfl⟩,rfl⟩:=hno
   rw [hfx] at hx
   generalize ρ x=u at hx ⊢
   cases hx with
   |ptr hp hb'=>
    rename_i b _ _
    rw [hb] at hb'
    cases hb'
    obtain ⟨b0,arr0,he0,hh0,hsz0,_⟩:=hS.blks _ _ _ hb hp
    cases he0
    refine ⟨.slice (some ⟨b,o,none⟩) n n,?_,.ms hp hb hc.1 (Nat.le_refl _) hc.2 ⟨arr0,_,_,hh0,Nat.le_trans hc.1 hsz0⟩⟩
    cases n with
    |zero=>simp [Instr.sliceAt,run_underlying hus,Instr.sureAddr,Instr.sliceBounds,zV hs]
    |succ n=>simp [Instr.sliceAt,run_underlying hus,Instr.sureAddr,Instr.sliceBounds,zV hs,Addr.add_zero']
   |optr hb'=>rw [hb] at hb';cases hb'
  ·rename_i n e cs hta hfx
   have hus:=pY hta
   split at he
   case isFalse=>cases he
   rename_i hno
   cases he
   obtain ⟨hs,h1,h2,h3⟩:=hno
   simp only [Option.isNone_iff_eq_none] at h1 h2 h3
   subst h1;subst h2;subst h3
   rw [hfx] at hx
   generalize ρ x=u at hx ⊢
   cases hx with
   | tp val hv h=>
    rename_i a
    obtain ⟨hc1,hc2⟩:=hc
    subst hc1
    refine ⟨.slice (some a) cs.length cs.length,?_,.ts (by simp) (Nat.le_refl _) hc2 (fun i e hi=> ?_) a (fun _=>rfl) val (fun j hj=>hv j (by omega)) (fun i e j p hi hp=> ?_)⟩
    ·cases hn:cs.length with
     |zero=>simp [Instr.sliceAt,run_underlying hus,Instr.sureAddr,Instr.sliceBounds,zV hs,hn]
     |succ n=>simp [Instr.sliceAt,run_underlying hus,Instr.sureAddr,Instr.sliceBounds,zV hs,Addr.add_zero',hn]
    ·rw [List.getElem?_map] at hi
     cases hk:cs[i]? with
     |none=>rw [hk] at hi;cases hi
     |some q=>rw [hk] at hi;cases hi;rfl
    ·rw [List.getElem?_map] at hi
     cases hk:cs[i]? with
     |none=>rw [hk] at hi;cases hi
     |some q=>
      rw [hk] at hi
      cases hi
      cases j with
      |zero=>simp at hp;subst hp;simpa using h i _ hk
      |succ j=>simp at hp
  ·rename_i s hfx
   split at he
   case isFalse=>cases he
   rename_i hno
   obtain ⟨hst,h3⟩:=hno
   simp only [Option.isNone_iff_eq_none] at h3
   subst h3
   split at he
   case h_2=>cases he
   rename_i b cb hb
   split at he
   case h_2=>cases he
   rename_i a ca ha
   cases he
   rw [hfx] at hx
   generalize ρ x=u at hx ⊢
   cases hx with|sc hsc=>
   obtain ⟨⟨hc1,hc2⟩,hc3,hc4⟩:=hc
   obtain ⟨hr,hab,hbl⟩:=pU (S:=S) (P:=P) (isS:=false) (Nat.le_refl _) hb ha hc3 hc4 (rS hhi) (rS hlo)
   refine ⟨_,?_,.sc (fV a b hsc)⟩
   simp [Instr.sliceAt,Instr.slice,run_underlying (qL hst),hr]
  ·cases he
end
end Go.AL
namespace Go.AL
open Go.RowKit
section
variable {P:Program} {S:St}
theorem kS {f:Operand→PV} {ρ:Operand→Value} (l:Array Operand) (h: ∀ x∈l,VRel S (f x) (ρ x)):
    (l.map ρ).size=(l.toList.map f).length∧ ∀ (i:Nat) (p:PV) (v:Value),(l.toList.map f)[i]? =some p→(l.map ρ)[i]? =some v→VRel S p v:=by
  refine ⟨by simp,fun i p v hp hv=> ?_⟩
  rw [List.getElem?_map] at hp
  rw [Array.getElem?_map] at hv
  cases hk:l[i]? with
  |none=>rw [hk] at hv;cases hv
  | some x=>
    have hk':l.toList[i]? =some x:=by simpa using hk
    rw [hk] at hv
    rw [hk'] at hp
    cases hv;cases hp
    obtain ⟨hi,rfl⟩:=Array.getElem?_eq_some_iff.1 hk
    exact h _ (Array.getElem_mem hi)
theorem qA {α:Type} {a:Array α} {l:List α} (h:a.toList=l):a=l.toArray:=by cases a;simpa using h
theorem zeI {ρ:Operand→Value} {f:Operand→PV} {o:Oper} {p:PV} {c:Prop} (hS:SRel S) (hx: ∀ x∈o.op.operands,VRel S (f x) (ρ x))
    (he:yI P S.h f o.op=some (p,c)) (hc:c): ∃ v,(execOp ρ o).run P S.w= .ok (.value v) S.w∧VRel S p v:=by
  have fin: ∀ {s:Sem Value},(∃ z,s.run P S.w= .ok z S.w∧VRel S p z)→ ∃ v,Sem.run P (do pure (.value (←s)):Sem Next) S.w= .ok (.value v) S.w∧VRel S p v:=fun ⟨z,hz,hr⟩=>⟨z,by simp only [Sem.run_bind,hz,Result.andThen_ok,Sem.run_pure],hr⟩
  unfold execOp
  cases hop:o.op with
  | move x=>
    rw [hop] at he hx
    cases he
    exact ⟨_,rfl,hx x (by simp [Op.operands])⟩
  | assign x=>
    rw [hop] at he hx
    cases he
    exact ⟨_,rfl,hx x (by simp [Op.operands])⟩
  | pick t a b=>
    rw [hop] at he hx
    simp only [yI,vL,wE] at he
    split at he
    · rename_i bb hb
      cases he
      have h1:=hx t (by simp [Op.operands])
      rw [hb] at h1
      refine ⟨if bb then ρ a else ρ b,?_,aJ (hx a (by simp [Op.operands])) (hx b (by simp [Op.operands]))⟩
      have h2:ρ t= .bool bb:=by generalize ρ t=u at h1;cases h1;rfl
      cases bb<;>simp [asBool,h2]
    · cases he
  | nilCheck x=>
    rw [hop] at he hx
    simp only [yI,vL,wE] at he
    have h1:=hx x (by simp [Op.operands])
    split at he
    all_goals first
      |cases he;done
      | (rename_i hfx
         cases he
         rw [hfx] at h1
         simp only []
         generalize ρ x=u at h1 ⊢
         cases h1<;>first
           |exact ⟨_,rfl,by assumption⟩
           |exact ⟨_,rfl,.optr (by assumption)⟩
           |(refine ⟨_,rfl,?_⟩;first|exact .ptr (by assumption) (by assumption)|exact .tp _ (by assumption) (by assumption)|exact .fn (by assumption) (by assumption) (by assumption) (by assumption)|exact .yl (by assumption) (by assumption)|exact .ifc (by assumption)))
  | binOp op t x y yt=>
    rw [hop] at he hx
    simp only [yI,vL,wE] at he
    exact fin (zkV he hc (hx x (by simp [Op.operands])) (hx y (by simp [Op.operands])))
  | unOp op t x=>
    rw [hop] at he hx
    simp only [yI,vL,wE] at he
    refine fin ?_
    have h1:=hx x (by simp [Op.operands])
    split at he
    · rename_i b hfx
      cases he
      rw [hfx] at h1
      generalize ρ x=u at h1 ⊢
      cases h1
      exact ⟨_,rfl,.sc trivial⟩
    · rename_i k n hfx
      cases he
      rw [hfx] at h1
      generalize ρ x=u at h1 ⊢
      cases h1
      exact ⟨_,rfl,.sc (pC _ _)⟩
    · rename_i k n hfx
      cases he
      rw [hfx] at h1
      generalize ρ x=u at h1 ⊢
      cases h1
      exact ⟨_,rfl,.sc (lB _ _ _ _)⟩
    · cases he
  | convert s d x=>
    rw [hop] at he hx
    simp only [yI,vL,wE] at he
    refine fin ?_
    have h1:=hx x (by simp [Op.operands])
    split at he
    · rename_i k ik n hti hfx
      split at he
      case isFalse=>cases he
      rename_i hu
      cases he
      rw [hfx] at h1
      generalize ρ x=u at h1 ⊢
      cases h1
      obtain ⟨ds,hds⟩:=Option.isSome_iff_exists.1 hu
      refine ⟨.int k (k.wrap n),?_,.sc (pC _ _)⟩
      simp [convert,run_underlying hds,run_underlying (cK hti),Conv.intToInt]
    · rename_i b hfx
      split at he
      case isFalse=>cases he
      rename_i hu
      cases he
      rw [hfx] at h1
      generalize ρ x=u at h1 ⊢
      cases h1 with|sc hb=>
      obtain ⟨ds,hds⟩:=Option.isSome_iff_exists.1 hu.2
      refine ⟨.string b,?_,.sc hb⟩
      simp [convert,run_underlying hds,run_underlying (qL hu.1)]
    · cases he
  | makeInterface t x=>
    rw [hop] at he hx
    simp only [yI,vL,wE] at he
    split at he
    case isFalse=>cases he
    rename_i ht
    cases he
    refine fin ⟨.iface t (ρ x),?_,.ifc (hx x (by simp [Op.operands]))⟩
    unfold zg9 at ht
    split at ht
    · cases ht
    · rename_i d hne hd
      simp only [Instr.makeInterface,Sem.run_bind,run_underlying hd,Result.andThen_ok]
      rfl
    · cases ht
  | makeFunc fn a b=>
    rw [hop] at he hx
    cases he
    obtain ⟨h1,h2⟩:=kS (S:=S) (f:=f) (ρ:=ρ) a (fun x hxm=>hx x (by simp [Op.operands,hxm]))
    obtain ⟨h3,h4⟩:=kS (S:=S) (f:=f) (ρ:=ρ) b (fun x hxm=>hx x (by simp [Op.operands,hxm]))
    exact fin ⟨_,rfl,.fn h1 h3 h2 h4⟩
  | field t x i=>
    rw [hop] at he hx
    simp only [yI,vL,wE] at he
    exact fin (zf6 he hc (hx x (by simp [Op.operands])))
  | fieldAddr t x i=>
    rw [hop] at he hx
    simp only [yI,vL,wE] at he
    exact fin (fY he (hx x (by simp [Op.operands])))
  | indexAddr t x i=>
    rw [hop] at he hx
    simp only [yI,vL,wE] at he
    exact fin (fX he hc (hx x (by simp [Op.operands])) (hx i (by simp [Op.operands])))
  | index t x i=>
    rw [hop] at he hx
    simp only [yI,vL,wE] at he
    exact fin (zf0 he hc (hx x (by simp [Op.operands])) (hx i (by simp [Op.operands])))
  | load t x=>
    rw [hop] at he hx
    simp only [yI,vL,wE] at he
    exact fin (zjC hS he hc (hx x (by simp [Op.operands])))
  | extract x i=>
    rw [hop] at he hx
    simp only [yI,vL,wE] at he
    refine fin ?_
    have h1:=hx x (by simp [Op.operands])
    split at he
    · rename_i vs hfx
      cases he
      rw [hfx] at h1
      generalize ρ x=u at h1 ⊢
      cases h1 with
      | tup hl h=>
        rename_i us
        have hv:us[i]? =some us[i]:=Array.getElem?_eq_getElem (by omega)
        have hp:vs[i]? =some vs[i]:=List.getElem?_eq_getElem hc
        refine ⟨us[i],by simp [Instr.extract,hv],?_⟩
        rw [List.getD_eq_getElem?_getD,hp]
        exact h i _ _ hp hv
    · cases he
  | slice t x lo hi mx=>
    rw [hop] at he hx
    exact fin (zfG hS he hc (hx x (by simp [Op.operands])) (fun o ho=>hx o (by subst ho;simp [Op.operands])) (fun o ho=>hx o (by subst ho;simp [Op.operands])) (fun o ho=>hx o (by subst ho;simp [Op.operands])))
  | call cl=>
    rw [hop] at he hx
    simp only [yI,vL,wE] at he
    split at he
    · rename_i x t mM hca hct
      obtain ⟨z,hz,hr⟩:=zlX (P:=P) (S:=S) (ty:=o.type) he (hx x (by simp [Op.operands,Call.operands,mM];rw [←Array.mem_toList_iff,hca];simp))
      refine ⟨z,?_,hr⟩
      have e1:cl.args= #[x]:=qA hca
      have e2:cl.argTypes= #[t]:=qA hct
      simp [resolve,invoke,builtin,mM,e1,e2,hz]
    · rename_i _ x y mM hca
      have e1:cl.args= #[x,y]:=qA hca
      have h1:=hx x (by simp [Op.operands,Call.operands,mM,e1])
      have h2:=hx y (by simp [Op.operands,Call.operands,mM,e1])
      split at he
      case h_2=>cases he
      rename_i k a k' b hfx hfy
      split at he
      case isFalse=>cases he
      rename_i hk
      subst hk
      cases he
      rw [hfx] at h1
      rw [hfy] at h2
      have g1:ρ x= .int k a∧tJ (.int k a):=by generalize ρ x=u at h1;cases h1;exact ⟨rfl,by assumption⟩
      have g2:ρ y= .int k b∧tJ (.int k b):=by generalize ρ y=u at h2;cases h2;exact ⟨rfl,by assumption⟩
      refine ⟨_,?_,.sc (by split;exact g2.2;exact g1.2)⟩
      simp [resolve,invoke,builtin,mM,e1,g1.1,g2.1,Builtin.max_,Builtin.max2]
    · rename_i _ x y mM hca
      have e1:cl.args= #[x,y]:=qA hca
      have h1:=hx x (by simp [Op.operands,Call.operands,mM,e1])
      have h2:=hx y (by simp [Op.operands,Call.operands,mM,e1])
      split at he
      case h_2=>cases he
      rename_i k a k' b hfx hfy
      split at he
      case isFalse=>cases he
      rename_i hk
      subst hk
      cases he
      rw [hfx] at h1
      rw [hfy] at h2
      have g1:ρ x= .int k a∧tJ (.int k a):=by generalize ρ x=u at h1;cases h1;exact ⟨rfl,by assumption⟩
      have g2:ρ y= .int k b∧tJ (.int k b):=by generalize ρ y=u at h2;cases h2;exact ⟨rfl,by assumption⟩
      refine ⟨_,?_,.sc (by split;exact g2.2;exact g1.2)⟩
      simp [resolve,invoke,builtin,mM,e1,g1.1,g2.1,Builtin.min_,Builtin.min2]
    · cases he
  |_=>rw [hop] at he;cases he
end
end Go.AL
