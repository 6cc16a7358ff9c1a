/-
  An append onto a row that the call may write: the row is written behind its end, or moves; either way it bears a new number, and the old one is given up.
-/
import Derived.Test.YtcffidhiaihbkaaGreatDoorX08
set_option linter.unusedSimpArgs false
set_option linter.unusedVariables false
set_option maxRecDepth 100000
set_option maxHeartbeats 4000000
namespace Go.AL
open Go.RowKit
section
variable {P:Program} {S:St}
theorem lY (hS:SRel S) {r g0 g:Nat} {e0 e:TypeId} {cs0 cs:List PV} {arr:Array Value} {w':World} (hp:S.φ[r]? =some (.pointer (some ⟨g0,0,none⟩))) (hb:S.h[r]? =some (.var e0 cs0))
  (hg:g=g0∨S.w.heap.size≤g) (ho:w'.os=S.w.os) (ht:TapeLe S.w w') (hu:w'.output=S.w.output) (hs:S.w.heap.size≤w'.heap.size) (hw: ∀ b,b<S.w.heap.size→b≠g0→w'.heap[b]? =S.w.heap[b]?)
  (hz: ∀ b m,S.Row b m→St.Row {S with w:=w'} b m) (hnew:w'.heap[g]? =some (.cells arr e (0,0))) (hsz:cs.length≤arr.size) (h1: ∀ (i:Nat) (u:Value),arr[i]? =some u→u.oneCell'=true)
  (hv: ∀ (i:Nat) (p:PV) (u:Value),cs[i]? =some p→arr[i]? =some u→VRel S p u):
  Ext S ⟨S.φ.set r undef++[.pointer (some ⟨g,0,none⟩)],S.h.set r .old++[.var e cs],w',S.x⟩∧SRel ⟨S.φ.set r undef++[.pointer (some ⟨g,0,none⟩)],S.h.set r .old++[.var e cs],w',S.x⟩:=by
 have hr:r<S.h.length:=(gsi hb).1
 have hr':r<S.φ.length:=by rw [hS.len];exact hr
 have hg0:g0<S.w.heap.size:=hS.own_lt ⟨r,_,hp,rfl⟩
 have kφ: ∀ (k:Nat) (y:Value) (b:Nat),(S.φ.set r undef++[.pointer (some ⟨g,0,none⟩)])[k]? =some y→sC y=some b→(k≠r∧k<S.φ.length∧S.φ[k]? =some y)∨(k=S.φ.length∧y= .pointer (some ⟨g,0,none⟩)∧b=g):=by
  intro k y b hk hbk
  rw [List.getElem?_append,List.length_set] at hk
  split at hk
  ·rename_i hlt
   rw [List.getElem?_set] at hk
   by_cases e:r=k
   ·subst e
    rw [if_pos rfl,if_pos hr'] at hk
    cases hk
    simp [sC,undef] at hbk
   ·rw [if_neg e] at hk
    exact .inl ⟨fun h=>e h.symm,hlt,hk⟩
  ·rename_i hlt
   have:k-S.φ.length=0:=by
    rcases Nat.eq_zero_or_pos (k-S.φ.length) with h|h
    ·exact h
    ·rw [List.getElem?_eq_none (by simp;omega)] at hk;cases hk
   rw [this] at hk
   simp at hk
   subst hk
   simp [sC] at hbk
   exact .inr ⟨by omega,rfl,hbk.symm⟩
 have kh: ∀ (k:Nat),k≠r→k<S.h.length→(S.h.set r .old++[.var e cs])[k]? =S.h[k]? :=by
  intro k hk hlt
  rw [List.getElem?_append,List.length_set,if_pos hlt,List.getElem?_set,if_neg (Ne.symm hk)]
 have hbr:(S.h.set r .old++[.var e cs])[r]? =some .old:=by
  rw [List.getElem?_append,List.length_set,if_pos hr,List.getElem?_set,if_pos rfl,if_pos hr]
 have x:Ext S ⟨S.φ.set r undef++[.pointer (some ⟨g,0,none⟩)],S.h.set r .old++[.var e cs],w',S.x⟩:=by
  refine ⟨rfl,ho,ht,hu,hs,fun b hbl hno=>⟨?_,hw b hbl fun e=>hno ⟨r,_,hp,by rw [e];rfl⟩⟩,fun a u hm=> ?_,fun k c hc=> ?_,hz⟩
  ·rintro ⟨k,y,hy,hby⟩
   rcases kφ k y b hy hby with ⟨_,_,h⟩|⟨_,_,h⟩
   ·exact hno ⟨k,y,h,hby⟩
   ·rcases hg with hg|hg
    ·exact hno ⟨r,_,hp,by rw [h,hg];rfl⟩
    ·omega
  ·obtain ⟨m1,m2,m3,m4,m5,m6⟩:=hm
   have hne:a.block≠g0:=fun e=>by
    obtain ⟨e',k',n',hh,_⟩:=m6 r _ hp (by rw [e];rfl)
    rw [hb] at hh
    cases hh
   refine ⟨(World.cell?_of_block (hw _ m4 hne)).trans m1,m2,m3,Nat.lt_of_lt_of_le m4 hs,m5,fun k y hy hby=> ?_⟩
   rcases kφ k y _ hy hby with ⟨h2,h3,h4⟩|⟨_,_,h4⟩
   ·obtain ⟨e',k',n',hh,hlt⟩:=m6 k y h4 hby
    exact ⟨e',k',n',(kh k h2 (by rw [←hS.len];exact h3)).trans hh,hlt⟩
   ·rcases hg with hg|hg
    ·exact absurd (h4.trans hg) hne
    ·omega
  ·by_cases e1:k=r
   ·subst e1
    rw [hb] at hc
    cases hc
    exact ⟨.old,hbr,trivial⟩
   ·have hlt:k<S.h.length:=(gsi hc).1
    refine ⟨c,(kh k e1 hlt).trans hc,Blk.le_refl c ?_⟩
    simp only []
    rw [List.getElem?_append,List.length_set,if_pos (by rw [hS.len];exact hlt),List.getElem?_set,if_neg (Ne.symm e1)]
 refine ⟨x,by simp [hS.len],fun k c y hc hy=> ?_,fun k k' y y' b hy hy' hby hby'=> ?_,fun a ha=>Nat.lt_of_lt_of_le (hS.xlt a ha) hs,fun a ha k y hy hby=> ?_⟩
 ·simp only [] at hc hy
  by_cases e1:k=r
  ·subst e1
   rw [hbr] at hc
   cases hc
   rw [List.getElem?_append,List.length_set,if_pos hr',List.getElem?_set,if_pos rfl,if_pos hr'] at hy
   cases hy
   rfl
  ·by_cases hlt:k<S.h.length
   ·rw [kh k e1 hlt] at hc
    rw [List.getElem?_append,List.length_set,if_pos (by rw [hS.len];exact hlt),List.getElem?_set,if_neg (Ne.symm e1)] at hy
    refine (hS.blks k c y hc hy).ext x fun b hby=>hw b (hS.own_lt ⟨k,y,hy,hby⟩) fun e2=> ?_
    subst e2
    exact e1 (hS.inj k r y _ b hy hp hby rfl)
   ·rw [List.getElem?_append,List.length_set,if_neg hlt] at hc
    rw [List.getElem?_append,List.length_set,if_neg (by rw [hS.len];exact hlt)] at hy
    have h0:k-S.h.length=0:=by
     rcases Nat.eq_zero_or_pos (k-S.h.length) with h|h
     ·exact h
     ·rw [List.getElem?_eq_none (by simp;omega)] at hc;cases hc
    rw [h0] at hc
    rw [hS.len,h0] at hy
    simp at hc hy
    subst hc;subst hy
    exact ⟨g,arr,rfl,hnew,hsz,h1,fun i p u hp hu=>(hv i p u hp hu).ext x⟩
 ·rcases kφ k y b hy hby with ⟨a1,a2,a3⟩|⟨a1,a2,a3⟩<;>rcases kφ k' y' b hy' hby' with ⟨b1,b2,b3⟩|⟨b1,b2,b3⟩
  ·exact hS.inj k k' y y' b a3 b3 hby hby'
  ·exfalso
   rcases hg with hg|hg
   ·exact a1 (hS.inj k r y _ b a3 hp hby (by rw [b3,hg];rfl))
   ·have:=hS.own_lt ⟨k,y,a3,hby⟩;omega
  ·exfalso
   rcases hg with hg|hg
   ·exact b1 (hS.inj k' r y' _ b b3 hp hby' (by rw [a3,hg];rfl))
   ·have:=hS.own_lt ⟨k',y',b3,hby'⟩;omega
  ·omega
 ·rcases kφ k y _ hy hby with ⟨_,_,h⟩|⟨_,_,h⟩
  ·exact hS.xown a ha k y h hby
  ·rcases hg with hg|hg
   ·exact hS.xown a ha r _ hp (by rw [h,hg];rfl)
   ·have:=hS.xlt a ha;omega
theorem zeL (hS:SRel S) {t ty e:TypeId} {r k b len:Nat} {cs:List PV} {xs:List (List PV)} {q:PV} {u v z0:Value} (ht:wD P t=some (e,k,b)) (hu:VRel S (.ms r 0 k len) u) (hb:S.h[r]? =some (.var e cs)) (mM:cs.length=len*k)
  (hq:rO S.h k q=some xs) (hv:VRel S q v) (hbytes:(len+xs.length)*b≤140737488355328) (hlen:len+xs.length≤140737488355328) (hx0:0<xs.length) (hz0:zS P e=some z0) (hsh:wI (nI z0)=true):
  ∃ z w' φ',(Builtin.append_ #[t,t] ty #[u,v]).run P S.w= .ok z w'∧Ext S ⟨φ',S.h.set r .old++[.var e (cs++xs.flatten)],w',S.x⟩∧SRel ⟨φ',S.h.set r .old++[.var e (cs++xs.flatten)],w',S.x⟩∧
   VRel ⟨φ',S.h.set r .old++[.var e (cs++xs.flatten)],w',S.x⟩ (.ms S.h.length 0 k (len+xs.length)) z:=by
 obtain ⟨htu,i,zv,hi,hzi,hsz,hby,hzs,hk0⟩:=uH ht
 have hzz:z0=zv:=by unfold zS at hz0;rw [hi] at hz0;simp [hzi] at hz0;exact hz0.symm
 subst hzz
 have hmx:(140737488355328:Nat)≤maxLen:=by simp [maxLen]
 have hr:r<S.h.length:=(gsi hb).1
 cases hu with
 |oms hb' _ _=>rw [hb] at hb';cases hb'
 | ms hp hb' hl hcc hm hrow=>
  rename_i c g t' cs'
  rw [hb] at hb'
  cases hb'
  obtain ⟨g',arr,hge,hh,hasz,hone,hrel⟩:=hS.blks r _ _ hb hp
  cases hge
  obtain ⟨ar2,t2,f2,hh2,hcap⟩:=hrow
  rw [hh] at hh2
  cases hh2
  obtain ⟨a,cq,news,rfl,hsrc⟩:=iO hS hq hv hk0
  obtain ⟨ad,rfl,hnews⟩:=hsrc.addr hx0
  have hfl:xs.flatten.length=xs.length*k:=bC hsrc.elen
  have hnl:news.length=xs.length*i.size:=by rw [hsrc.len,hsz]
  have htake:(arr.toList.take (len*k)).length=len*k:=by simp;omega
  have hlk:len*k+xs.length*k=(len+xs.length)*k:=(Nat.add_mul ..).symm
  have cells: ∀ (arr':Array Value),(∀ j,j<(len+xs.length)*k→arr'[j]? =(arr.toList.take (len*k)++news)[j]?)→ ∀ (j:Nat) (p:PV) (y:Value),(cs++xs.flatten)[j]? =some p→arr'[j]? =some y→VRel S p y:=by
   intro arr' hj j p y hpj hyj
   have hlt:=(gsi hpj).1
   rw [List.length_append,hfl,mM,hlk] at hlt
   rw [hj j hlt] at hyj
   rw [List.getElem?_append] at hpj hyj
   rw [htake] at hyj
   rw [mM] at hpj
   split at hpj
   ·rename_i hjl
    rw [if_pos hjl,List.getElem?_take,if_pos hjl] at hyj
    exact hrel j p y hpj (by simpa using hyj)
   ·rename_i hjl
    rw [if_neg hjl] at hyj
    obtain ⟨_,e',he',hp'⟩:=bD hsrc.elen _ p hpj
    refine hsrc.rel _ e' _ p y he' hp' ?_
    rw [Nat.div_add_mod' (j-len*k) k]
    exact hyj
  by_cases hroom:len+xs.length≤c
  ·have hck:(len+xs.length)*k≤c*k:=Nat.mul_le_mul_right k hroom
   have hfit:len*i.size+news.length≤arr.size:=by rw [hnl,hsz];omega
   have hrun:=run_append_room (P:=P) S.w t ty e i htu hi g len c arr hh ad xs.length cq news hnl hnews hsrc.one hroom hfit
   have hnewb:=setRow_heap S.w g arr (arr.toList.take (len*i.size)++news++arr.toList.drop (len*i.size+news.length)).toArray e (0,0) hh
   have hoth: ∀ b,b≠g→(S.w.setRow g (arr.toList.take (len*i.size)++news++arr.toList.drop (len*i.size+news.length)).toArray).heap[b]? =S.w.heap[b]? :=fun b hb=>setRow_other S.w g b _ hb
   have hsize:(arr.toList.take (len*i.size)++news++arr.toList.drop (len*i.size+news.length)).toArray.size=arr.size:=by simp;omega
   obtain ⟨x,hS'⟩:=lY (cs:=cs++xs.flatten) hS hp hb (.inl rfl) (w':=S.w.setRow g (arr.toList.take (len*i.size)++news++arr.toList.drop (len*i.size+news.length)).toArray) rfl iN rfl (by simp [World.setRow]) (fun b _ hne=>hoth b hne)
    (fun b m ⟨a1,t1,f1,q1,q2⟩=>by
     by_cases hbg:b=g
     ·subst hbg
      rw [hh] at q1
      cases q1
      exact ⟨_,_,_,hnewb,by rw [hsize];exact q2⟩
     ·exact ⟨a1,t1,f1,(hoth b hbg).trans q1,q2⟩) hnewb (by rw [hsize,List.length_append,hfl,mM];omega)
    (fun j y hy=>by
     have:y∈arr.toList.take (len*i.size)++news++arr.toList.drop (len*i.size+news.length):=List.mem_of_getElem? (by simpa using hy)
     rcases List.mem_append.1 this with h|h
     ·rcases List.mem_append.1 h with h|h
      ·obtain ⟨j',hj',rfl⟩:=List.getElem_of_mem (List.mem_of_mem_take h)
       exact hone j' _ (by simp at hj' ⊢)
      ·exact hsrc.one y h
     ·obtain ⟨j',hj',rfl⟩:=List.getElem_of_mem (List.mem_of_mem_drop h)
      exact hone j' _ (by simp at hj' ⊢))
    (cells _ (fun j hj=>by
     rw [hsz]
     simp only [List.getElem?_toArray]
     rw [List.getElem?_append,if_pos (by rw [List.length_append,htake,hsrc.len,hlk];exact hj)]))
   refine ⟨_,_,_,hrun,x,hS',?_⟩
   refine .ms (b:=g) (t:=e) (cs:=cs++xs.flatten) (by simp [hS.len]) (by simp) (by rw [List.length_append,hfl,mM];omega) hroom hm ⟨_,_,_,hnewb,by rw [hsize];exact hcap⟩
  ·have hold: ∀ j y,(arr.toList.take (len*k))[j]? =some y→S.w.cell? ((⟨g,0,none⟩:Addr).add j)=some y:=fun j y hj=>by
    rw [List.getElem?_take] at hj
    split at hj
    ·rw [Addr.add_lit,cell_of_row _ _ _ _ _ _ hh]
     simpa using hj
    ·cases hj
   have hrun:=run_append_grow (P:=P) S.w t ty e i z0 htu hi hzi ⟨g,0,none⟩ len c (arr.toList.take (len*k)) (by rw [htake,hsz]) hold ad xs.length cq news hnl hnews (by omega) (by omega) (by rw [hby];exact growslice_fits (by omega) hbytes)
   have hge:=grownCap_ge S.w (len+xs.length) c e
   have hcm:=grownCap_le_maxLen S.w (len+xs.length) c e (by omega)
   obtain ⟨m,hm'⟩: ∃ m,m=grownCap S.w (len+xs.length) c e-(len+xs.length):=⟨_,rfl⟩
   rw [←hm'] at hrun
   have hzc:=tQ (S:=S) hsh m
   rw [←sG] at hzc
   have hzs':(Builtin.zeroCells z0.cells m).size=m*k:=by rw [sG];simp [hzs]
   have hall:((arr.toList.take (len*k)).toArray++news.toArray).size=(len+xs.length)*k:=by rw [Array.size_append,List.size_toArray,List.size_toArray,htake,hsrc.len,hlk]
   have hnewb:(S.w.drew.alloc (.cells ((arr.toList.take (len*k)).toArray++news.toArray++Builtin.zeroCells z0.cells m) e)).heap[S.w.heap.size]? =some (.cells ((arr.toList.take (len*k)).toArray++news.toArray++Builtin.zeroCells z0.cells m) e (0,0)):=heap_alloc_new S.w.drew _
   have hsame: ∀ b,b<S.w.heap.size→(S.w.drew.alloc (.cells ((arr.toList.take (len*k)).toArray++news.toArray++Builtin.zeroCells z0.cells m) e)).heap[b]? =S.w.heap[b]? :=fun b hb=>Below.heap_alloc S.w.drew _ _ hb
   obtain ⟨x,hS'⟩:=lY (cs:=cs++xs.flatten) hS hp hb (.inr (Nat.le_refl _)) (w':=S.w.drew.alloc (.cells ((arr.toList.take (len*k)).toArray++news.toArray++Builtin.zeroCells z0.cells m) e)) rfl iN rfl (by simp) (fun b hb _=>hsame b hb)
    (fun b m ⟨a1,t1,f1,q1,q2⟩=>⟨a1,t1,f1,(hsame b (Array.getElem?_eq_some_iff.1 q1).1).trans q1,q2⟩) hnewb (by rw [List.length_append,hfl,mM,Array.size_append,hall];omega)
    (fun j y hy=>by
     rw [Array.getElem?_append] at hy
     split at hy
     ·rw [Array.getElem?_append] at hy
      split at hy
      ·have:y∈arr.toList.take (len*k):=List.mem_of_getElem? (by simpa using hy)
       obtain ⟨j',hj',rfl⟩:=List.getElem_of_mem (List.mem_of_mem_take this)
       exact hone j' _ (by simp at hj' ⊢)
      ·exact hsrc.one y (List.mem_of_getElem? (by simpa using hy))
     ·exact hzc.one _ y hy)
    (cells _ (fun j hj=>by
     rw [Array.getElem?_append,if_pos (by rw [hall];exact hj),List.append_toArray,List.getElem?_toArray]))
   refine ⟨_,_,_,hrun,x,hS',?_⟩
   refine .ms (b:=S.w.heap.size) (t:=e) (cs:=cs++xs.flatten) (by simp [hS.len]) (by simp) (by rw [List.length_append,hfl,mM];omega) hge hcm ⟨_,_,_,hnewb,?_⟩
   have e2:len+xs.length+m=grownCap S.w (len+xs.length) c e:=by omega
   rw [Array.size_append,hall,hzs', ←Nat.add_mul,e2]
   omega
def zcU (P:Program) (h:Heap) (f:Operand→PV):Op→Option (PV×Heap)
 | .call c=>match c.callee,c.args.toList,c.argTypes.toList with
  | .builtin .append,[s,x],[t,t']=>if t=t' then match wD P t with
   | some (e,k,b)=>match f s,rO h k (f x) with
    | .ms r 0 k' len,some xs=>match h[r]?,zS P e with
     | some (.var e' cs),some z=>if e'=e∧k'=k∧cs.length=len*k∧0<xs.length∧wI (nI z)=true∧(len+xs.length)*b≤140737488355328∧len+xs.length≤140737488355328 then
       some (.ms h.length 0 k (len+xs.length),h.set r .old++[.var e (cs++xs.flatten)]) else none
     |_,_=>none
    |_,_=>none
   |none=>none
   else none
  |_,_,_=>none
 |_=>none
theorem OpOk.of_ownM {G:Glob} {rd:Option Nat} {o:Oper} {h h':Heap} {f:Operand→PV} {p:PV} {R:PV→Heap→Prop} (he:zcU P h f o.op=some (p,h')) (hr:R p h'):OpOk P G rd o h f R:=by
 refine .of_run (fun c hop=>by rw [hop] at he;cases he) fun φ w X ρ hS _ hx=> ?_
 unfold zcU at he
 split at he
 case h_2=>cases he
 rename_i c hop
 split at he
 case h_2=>cases he
 rename_i s x t t' mM hca hct
 split at he
 case isFalse=>cases he
 rename_i htt
 subst htt
 split at he
 case h_2=>cases he
 rename_i e k b ht
 split at he
 case h_2=>cases he
 rename_i r k' len xs hfs hq
 split at he
 case h_2=>cases he
 rename_i e' cs z hb hz
 split at he
 case isFalse=>cases he
 rename_i hc
 obtain ⟨rfl,rfl,hcl',hx0,hsh,hby,hln⟩:=hc
 cases he
 have e1:c.args= #[s,x]:=qA hca
 have e2:c.argTypes= #[t,t]:=qA hct
 have h1:=hx s (by simp [hop,Op.operands,Call.operands,e1])
 have h2:=hx x (by simp [hop,Op.operands,Call.operands,e1])
 rw [hfs] at h1
 obtain ⟨v,w',φ',hrun,x1,hS',hv⟩:=zeL (P:=P) (ty:=o.type) hS ht h1 hb hcl' hq h2 hby hln hx0 hz hsh
 refine ⟨φ',_,w',_,v,?_,x1,hS',hv,hr⟩
 simp [execOp,hop,resolve,invoke,builtin,mM,e1,e2,hrun]
def aA (P:Program) (h:Heap) (f:Operand→PV) (op:Op):Option (PV×Heap):=
 match zk2 P h f op with
 |some r=>some r
 |none=>zcU P h f op
theorem OpOk.of_ownA {G:Glob} {rd:Option Nat} {o:Oper} {h h':Heap} {f:Operand→PV} {p:PV} {R:PV→Heap→Prop} (he:aA P h f o.op=some (p,h')) (hr:R p h'):OpOk P G rd o h f R:=by
 unfold aA at he
 split at he
 ·rename_i r hr'
  cases he
  exact .of_own hr' hr
 ·exact .of_ownM he hr
end
end Go.AL
