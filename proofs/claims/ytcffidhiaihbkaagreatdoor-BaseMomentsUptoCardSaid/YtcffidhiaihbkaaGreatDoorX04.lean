/-
  Calls: a function's contract, how it is met at a call, how it is made of its body.
-/
import Derived.Test.YtcffidhiaihbkaaGreatDoorX03
import Derived.Laws.MakeOwn
set_option linter.unusedSimpArgs false
set_option linter.unusedVariables false
set_option maxRecDepth 100000
set_option maxHeartbeats 4000000
namespace Go.AL
open Go.RowKit
def oR {α:Type} [CK α] (P:Program) (h:Heap) (t:TypeId) (s x:PV):Option (PV×Heap×α):=
 match wD P t with
 |none=>none
 | some (e,k,b)=>match rO h k x with
  |none=>none
  | some xs=>match s with
   | .nil=>some (.vec h.length k xs,h++[.vec e k xs.length],CK.cnd (xs.length*b≤140737488355328∧xs.length≤140737488355328))
   | .vec r k' els=>match h[r]? with
    | some (.vec e' k2 n)=>if e'=e∧k2=k∧k'=k then
      some (.vec r k (els++xs),h.set r (.vec e k (els.length+xs.length)),CK.cnd (n=els.length∧(els.length+xs.length)*b≤140737488355328∧els.length+xs.length≤140737488355328)) else none
    |_=>none
   | .tc k' els=>if k'=k then
     some (.vec h.length k (els++xs),h++[.vec e k (els.length+xs.length)],CK.cnd (0<xs.length∧(els.length+xs.length)*b≤140737488355328∧els.length+xs.length≤140737488355328)) else none
   |_=>none
def vA {α:Type} [CK α] (P:Program) (h:Heap) (f:Operand→PV):Op→Option (PV×Heap×α)
 | .build t parts=>match kB P t (parts.toList.map fun x=>(x.1,f x.2)) with
  |some p=>some (p,h,CK.cnd True)
  |none=>none
 | .buildSlice t n parts=>match wD P t with
  | some (e,k,_)=>match zS P e with
   | some z=>if n*k≤16777216∧wI (nI z) then
     match lM (fun i=>some (i*k,k)) (List.replicate n (xD (nI z))).flatten (parts.toList.map fun x=>(x.1,f x.2)) with
     |some cs=>some (.tc k (wA cs 0 k n),h,CK.cnd True)
     |none=>none
    else none
   |none=>none
  |none=>none
 | .alloc t=>match zS P t with
  |some z=>if wI (nI z) then some (.ptr h.length 0,h++[.var t (xD (nI z))],CK.cnd True) else none
  |none=>none
 | .box t x=>if wI (f x) then some (.ptr h.length 0,h++[.var t (xD (f x))],CK.cnd True) else none
 | .store t a x=>match f a with
  | .ptr r o=>match h[r]? with
   |some (.var T cs)=>match xL P t with
    |some s=>if wI (f x) then some (.ud,h.set r (.var T (splice cs o (xD (f x)))),CK.cnd ((xD (f x)).length=s∧o+s≤cs.length)) else none
    |none=>none
   |_=>none
  |_=>none
 | .makeSlice t l c=>match wD P t with
  |some (e,k,b)=>match zS P e,f l,f c with
   | some z,.sc (.int .i64 n),.sc (.int .i64 m)=>if wI (nI z) then
     some (.ms h.length 0 k n.toNat,h++[.var e (List.replicate n.toNat (xD (nI z))).flatten],CK.cnd (n=m∧0≤n∧n*b≤140737488355328∧n≤140737488355328)) else none
   |_,_,_=>none
  |none=>none
 | .makeMap _ none=>some (.mp h.length,h++[.map []],CK.cnd True)
 | .call c=>match c.callee,c.args.toList,c.argTypes.toList with
  | .builtin .append,[s,x],[t,t']=>if t=t' then oR P h t (f s) (f x) else none
  |_,_,_=>none
 |_=>none
theorem tQ {S:St} {z:Value} (hs:wI (nI z)=true) (n:Nat):CRel S (List.replicate n (xD (nI z))).flatten ((Array.range (n*z.cells.size)).map (z.cells[· %z.cells.size]!)):=by
 have hz:=vM (S:=S) hs (sN S z)
 have hl:((List.replicate n (xD (nI z))).flatten).length=n*z.cells.size:=by simp [hz.len]
 have hg: ∀ (i:Nat) (u:Value),((Array.range (n*z.cells.size)).map (z.cells[· %z.cells.size]!))[i]? =some u→z.cells[i%z.cells.size]? =some u∧i<n*z.cells.size:=by
  intro i u hu
  rw [Array.getElem?_map] at hu
  cases hr:(Array.range (n*z.cells.size))[i]? with
  |none=>rw [hr] at hu;cases hu
  |some j=>
   rw [hr] at hu
   cases hu
   obtain ⟨hi,rfl⟩:=Array.getElem?_eq_some_iff.1 hr
   simp at hi ⊢
   have hpos:0<z.cells.size:=Nat.pos_of_ne_zero fun h=>by rw [h,Nat.mul_zero] at hi;omega
   have hj:=Nat.mod_lt i hpos
   exact ⟨by rw [Array.getElem?_eq_getElem hj,getElem!_pos z.cells (i%z.cells.size) hj],hi⟩
 have hq: ∀ (m i:Nat) (p:PV),((List.replicate m (xD (nI z))).flatten)[i]? =some p→(xD (nI z))[i%z.cells.size]? =some p:=by
  intro m
  induction m with
  |zero=>intro i p h;simp at h
  | succ m ih=>
   intro i p h
   rw [List.replicate_succ,List.flatten_cons,List.getElem?_append] at h
   split at h
   ·rename_i hlt
    rw [hz.len,Nat.mod_eq_of_lt hlt]
    exact h
   ·rename_i hge
    have:=ih _ p h
    rw [←hz.len] at hge this
    rw [Nat.mod_eq_sub_mod (by omega)]
    exact this
 refine ⟨by simp [hz.len],fun i u hu=>hz.one _ u (hg i u hu).1,fun i p u hp hu=>hz.rel _ p u (hq n i p hp) (hg i u hu).1⟩
theorem zi8 {P:Program} {S:St} (hS:SRel S) {t e:TypeId} {k b:Nat} {z:Value} {n:Int} (ht:wD P t=some (e,k,b)) (hz:zS P e=some z) (hs:wI (nI z)=true) (h0:0≤n) (hb:n*b≤140737488355328) (hn:n≤140737488355328):
  ∃ v w' φ',(Instr.makeSlice t (.int .i64 n) (.int .i64 n)).run P S.w= .ok v w'∧Ext S {S with φ:=φ',h:=S.h++[.var e (List.replicate n.toNat (xD (nI z))).flatten],w:=w'}∧
   SRel {S with φ:=φ',h:=S.h++[.var e (List.replicate n.toNat (xD (nI z))).flatten],w:=w'}∧VRel {S with φ:=φ',h:=S.h++[.var e (List.replicate n.toNat (xD (nI z))).flatten],w:=w'} (.ms S.h.length 0 k n.toNat) v:=by
 obtain ⟨htu,i,zv,hi,hzv,hsz,hby,hzs,hk0⟩:=uH ht
 have:z=zv:=by unfold zS at hz;rw [hi] at hz;simp [hzv] at hz;exact hz.symm
 subst this
 obtain ⟨m,rfl⟩:=Int.eq_ofNat_of_zero_le h0
 have hc:=tQ (S:=S) hs m
 have hrun:=run_make (P:=P) S.w t e i z htu hi hzv .i64 .i64 m m h0 (Int.le_refl _) (by rw [hby,Int.mul_comm];omega) (by omega)
 obtain ⟨x,hS',hv⟩:=eN hS e _ _ hc.len hc.one hc.rel
 have hmx:(140737488355328:Nat)≤maxLen:=by simp [maxLen]
 rw [Int.toNat_natCast] at hrun ⊢
 have e0:m*k=m*z.cells.size:=by rw [hzs]
 have e1:madeCells z.cells (m*k)=(Array.range (m*z.cells.size)).map (z.cells[· %z.cells.size]!):=by rw [e0];rfl
 rw [hsz,e1] at hrun
 refine ⟨_,_,_,hrun,x,hS',?_⟩
 cases hv with
 |optr hb'=>simp [St.push] at hb'
 |ptr hp hb'=>
  have hlen:((List.replicate m (xD (nI z))).flatten).length=m*k:=by rw [←hc.len];simp [hzs]
  refine .ms (t:=e) (cs:=(List.replicate m (xD (nI z))).flatten) hp ?_ (by rw [hlen];omega) (Nat.le_refl _) (by omega) ⟨_,_,_,heap_alloc_new _ _,by simp [hzs]⟩
  simp [St.push]
theorem zeM {pl:Nat→Option (Nat×Nat)}: ∀ (ps:List (Nat×PV)) (cs cs':List PV),lM pl cs ps=some cs'→cs'.length=cs.length:=by
 intro ps
 induction ps with
 |nil=>intro cs cs' h;cases h;rfl
 | cons x ps ih=>
  intro cs cs' h
  simp only [lM] at h
  split at h
  ·cases h
  ·split at h
   case isFalse=>cases h
   rename_i hc
   rw [ih _ _ h]
   simp [splice]
   omega
theorem zkU {P:Program} {S:St} {ρ:Operand→Value} {f:Operand→PV} {o:Oper} {p:PV} {h':Heap} {c:Prop} (hS:SRel S) (hx: ∀ x∈o.op.operands,VRel S (f x) (ρ x))
  (he:vA P S.h f o.op=some (p,h',c)) (hc:c): ∃ φ' w',Ext S {S with φ:=φ',h:=h',w:=w'}∧SRel {S with φ:=φ',h:=h',w:=w'}∧
   ((∃ v,(execOp ρ o).run P S.w= .ok (.value v) w'∧VRel {S with φ:=φ',h:=h',w:=w'} p v)∨((execOp ρ o).run P S.w= .ok .skip w'∧p= .ud)):=by
 have fin: ∀ {s:Sem Value} {φ':List Value} {h':Heap} {w':World} {v:Value} {p:PV},s.run P S.w= .ok v w'→Ext S {S with φ:=φ',h:=h',w:=w'}→SRel {S with φ:=φ',h:=h',w:=w'}→VRel {S with φ:=φ',h:=h',w:=w'} p v→
   ∃ φ' w',Ext S {S with φ:=φ',h:=h',w:=w'}∧SRel {S with φ:=φ',h:=h',w:=w'}∧
   ((∃ v,Sem.run P (do pure (.value (←s)):Sem Next) S.w= .ok (.value v) w'∧VRel {S with φ:=φ',h:=h',w:=w'} p v)∨(Sem.run P (do pure (.value (←s)):Sem Next) S.w= .ok .skip w'∧p= .ud)):=by
  intro s φ' h' w' v p hr x hs hv
  exact ⟨φ',w',x,hs,.inl ⟨v,by simp only [Sem.run_bind,hr,Result.andThen_ok,Sem.run_pure],hv⟩⟩
 unfold execOp
 cases hop:o.op with
 |build t parts=>
  rw [hop] at he hx
  simp only [vA,vL,wE] at he
  split at he
  case h_2=>cases he
  rename_i q hq
  cases he
  obtain ⟨v,hr,hv⟩:=zgJ (P:=P) (S:=S) (ρ:=ρ) (fun x hxm=>hx x.2 (by simp only [Op.operands];simp;exact ⟨x.1,hxm⟩)) hq
  exact fin hr (Ext.refl _) hS hv
 | buildSlice t n parts=>
  rw [hop] at he hx
  simp only [vA,vL,wE] at he
  split at he
  case h_2=>cases he
  rename_i e k b ht
  split at he
  case h_2=>cases he
  rename_i z hz
  split at he
  case isFalse=>cases he
  rename_i hcond
  split at he
  case h_2=>cases he
  rename_i cs hfill
  cases he
  obtain ⟨hn,hsh⟩:=hcond
  obtain ⟨htu,i,zv,hi,hzv,hsz,hby,hzs,hk0⟩:=uH ht
  have:z=zv:=by unfold zS at hz;rw [hi] at hz;simp [hzv] at hz;exact hz.symm
  subst this
  obtain ⟨vs,hv,hcr⟩:=zb1 (S:=S) (ρ:=ρ) parts.toList _ cs _ (fun x hxm=>hx x.2 (by simp only [Op.operands];simp;exact ⟨x.1,by simpa using hxm⟩)) (tQ (S:=S) hsh n) hfill
  have hvl:vs.size=n*k:=by
   rw [hcr.len,zeM _ _ _ hfill, ←(tQ (S:=S) hsh n).len]
   simp [hzs]
  have x:=wT hS (.cells vs e)
  have hmx:(16777216:Nat)≤maxLen:=by simp [maxLen]
  have hnk:n≤n*k:=Nat.le_mul_of_pos_right n hk0
  have hcsl:cs.length=n*k:=by rw [←hcr.len,hvl]
  refine fin (v:= .slice (some ⟨S.w.heap.size,0,none⟩) n n) (w':=S.w.alloc (.cells vs e)) (φ':=S.φ) ?_ x (nO hS _) (.tc (oF (all:=vs.toList) (by simp [wA]) (fun i e hi=> ?_) (Nat.le_refl _) (by omega) (fun j u hj=> ?_) (by simp [hvl]) (fun i e j p u hi hp hu=> ?_)))
  ·have emap:(parts.map fun (i,x)=>(i,ρ x)).toList=parts.toList.map fun x=>(x.1,ρ x.2):=by simp
   simp only [Instr.buildSlice,Sem.run_bind,run_underlying htu,Result.andThen_ok,zV (show xL P e=some k by simp [xL,hi,hsz])]
   rw [if_neg (by omega)]
   have e0:n*k=n*z.cells.size:=by rw [hzs]
   split
   ·rename_i h0
    have hn0:Array.range (n*z.cells.size)= #[]:=by rw [←e0,h0];rfl
    rw [hn0] at hv
    simp only [Sem.run_bind,Sem.run_pure,Result.andThen_ok,emap,e0,hn0,Array.map_empty] at hv ⊢
    rw [←hzs]
    rw [←hzs] at hv
    rw [hv]
    simp [newRow]
   ·simp only [Sem.run_bind,mP hz,Sem.run_pure,Result.andThen_ok,emap]
    rw [e0,hv]
    simp [newRow]
  ·obtain ⟨hlt,rfl⟩:=vN hi
   have:=zaU (k:=k) hlt (show k-1<k by omega)
   simp;omega
  ·have hj':vs[j]? =some u:=by simpa using hj
   have hlt:=(Array.getElem?_eq_some_iff.1 hj').1
   have hg:(S.w.alloc (.cells vs e)).heap[S.w.heap.size]? =some (.cells vs e (0,0)):=heap_alloc_new S.w _
   refine ⟨by rw [cell_of_row _ _ _ _ _ _ hg];exact hj',hcr.one j u hj',rfl,by simp,fun hx=> ?_,fun r y hy hby=> ?_⟩
   ·have:=hS.xlt _ hx
    simp at this
   ·have:=hS.own_lt ⟨r,y,hy,hby⟩
    simp at this
  ·obtain ⟨hlt,rfl⟩:=vN hi
   rw [List.getElem?_take] at hp
   split at hp
   ·rw [List.getElem?_drop] at hp
    exact (hcr.rel _ p u (by rw [←hp,Nat.zero_add]) (by simpa using hu)).ext x
   ·cases hp
 |alloc t=>
  rw [hop] at he hx
  simp only [vA,vL,wE] at he
  split at he
  case h_2=>cases he
  rename_i z hz
  split at he
  case isFalse=>cases he
  rename_i hsh
  cases he
  have hcr:=vM (S:=S) hsh (sN S z)
  obtain ⟨x,hS',hv⟩:=eN hS t _ _ hcr.len hcr.one hcr.rel
  refine fin (w':=S.w.alloc (.cells z.cells t)) (φ':=S.φ++[.pointer (some ⟨S.w.heap.size,0,none⟩)]) ?_ x hS' hv
  simp [Instr.alloc,mP hz,newVar,newRow]
 |box t y=>
  rw [hop] at he hx
  simp only [vA,vL,wE] at he
  split at he
  case isFalse=>cases he
  rename_i hsh
  cases he
  have hcr:=vM (S:=S) hsh (hx y (by simp [Op.operands]))
  obtain ⟨x,hS',hv⟩:=eN hS t _ _ hcr.len hcr.one hcr.rel
  refine fin (w':=S.w.alloc (.cells (ρ y).cells t)) (φ':=S.φ++[.pointer (some ⟨S.w.heap.size,0,none⟩)]) ?_ x hS' hv
  simp [Instr.box,newVar,newRow]
 |store t a y=>
  rw [hop] at he hx
  simp only [vA,vL,wE] at he
  split at he
  case h_2=>cases he
  rename_i r off hfa
  split at he
  case h_2=>cases he
  rename_i T cs hb
  split at he
  case h_2=>cases he
  rename_i s hs
  split at he
  case isFalse=>cases he
  rename_i hsh
  cases he
  have h1:=hx a (by simp [Op.operands])
  rw [hfa] at h1
  obtain ⟨w',hr,x,hS'⟩:=zfA (P:=P) hS hb h1 hsh (hx y (by simp [Op.operands])) hs hc.1 hc.2
  refine ⟨S.φ,w',x,hS',.inr ⟨?_,rfl⟩⟩
  simp only [Sem.run_bind,hr,Result.andThen_ok,Sem.run_pure]
 |makeSlice t l m=>
  rw [hop] at he hx
  simp only [vA,vL,wE] at he
  split at he
  case h_2=>cases he
  rename_i e k b ht
  split at he
  case h_2=>cases he
  rename_i z n m' hz hfl hfm
  split at he
  case isFalse=>cases he
  rename_i hsh
  cases he
  obtain ⟨rfl,h0,hb,hn⟩:=hc
  have h1:=hx l (by simp [Op.operands])
  have h2:=hx m (by simp [Op.operands])
  rw [hfl] at h1
  rw [hfm] at h2
  have g1:ρ l= .int .i64 n:=by generalize ρ l=u at h1;cases h1;rfl
  have g2:ρ m= .int .i64 n:=by generalize ρ m=u at h2;cases h2;rfl
  obtain ⟨v,w',φ',hr,x,hS',hv⟩:=zi8 (P:=P) hS ht hz hsh h0 hb hn
  refine fin (v:=v) ?_ x hS' hv
  rw [g1,g2]
  exact hr
 | makeMap t r=>
  rw [hop] at he hx
  cases r with
  |some r=>simp [vA] at he
  | none=>
   simp only [vA,vL,wE] at he
   cases he
   have x:Ext S (({S with w:=S.w.alloc (.map #[] 0)}:St).push (.map (some S.w.heap.size)) (.map [])):=tZ (wT hS _) hS rfl rfl _ _ (by intro n hn;simp [sC] at hn;omega)
   have hS':SRel (({S with w:=S.w.alloc (.map #[] 0)}:St).push (.map (some S.w.heap.size)) (.map [])):=
    uP hS x rfl rfl rfl (fun n hn=>Below.heap_alloc _ _ _ hn) ⟨S.w.heap.size,0, #[],rfl,heap_alloc_new S.w _,rfl,⟨rfl,by simp,by simp⟩,by simp⟩ (by intro n hn;simp [sC] at hn;omega)
   exact fin (v:= .map (some S.w.heap.size)) (w':=S.w.alloc (.map #[] 0)) (φ':=S.φ++[.map (some S.w.heap.size)]) rfl x hS' (.mp (es:=[]) (by simp [St.push, ←hS.len]) (by simp [St.push]))
 | call cl=>
  rw [hop] at he hx
  simp only [vA,vL,wE] at he
  split at he
  case h_2=>cases he
  rename_i s y t t' mM hca hct
  split at he
  case isFalse=>cases he
  rename_i htt
  subst htt
  have e1:=qA hca
  have e2:=qA hct
  have hs:=hx s (by simp [Op.operands,Call.operands,mM,e1])
  have hy:=hx y (by simp [Op.operands,Call.operands,mM,e1])
  have done: ∀ {h':Heap} {p:PV},(∃ z w' φ',(Builtin.append_ #[t,t] o.type #[ρ s,ρ y]).run P S.w= .ok z w'∧Ext S {S with φ:=φ',h:=h',w:=w'}∧SRel {S with φ:=φ',h:=h',w:=w'}∧VRel {S with φ:=φ',h:=h',w:=w'} p z)→
    ∃ φ' w',Ext S {S with φ:=φ',h:=h',w:=w'}∧SRel {S with φ:=φ',h:=h',w:=w'}∧
    ((∃ v,Sem.run P (do let d ←resolve ρ cl o.type;invoke d.target d.args:Sem Next) S.w= .ok (.value v) w'∧VRel {S with φ:=φ',h:=h',w:=w'} p v)∨(Sem.run P (do let d ←resolve ρ cl o.type;invoke d.target d.args:Sem Next) S.w= .ok .skip w'∧p= .ud)):=by
   rintro h' p ⟨z,w',φ',hr,x,hS',hv⟩
   refine ⟨φ',w',x,hS',.inl ⟨z,?_,hv⟩⟩
   simp [resolve,invoke,builtin,mM,e1,e2,hr]
  unfold oR at he
  simp only [vL,wE] at he
  split at he
  ·cases he
  ·rename_i e k b ht
   split at he
   ·cases he
   ·rename_i xs hxs
    split at he
    ·rename_i hfs
     cases he
     rw [hfs] at hs
     exact done (append_nil hS ht hs hxs hy hc.1 hc.2)
    ·rename_i r k' els hfs
     split at he
     case h_2=>cases he
     rename_i e' k2 n hb
     split at he
     case isFalse=>cases he
     rename_i hcond
     obtain ⟨rfl,rfl,rfl⟩:=hcond
     cases he
     obtain ⟨rfl,h1,h2⟩:=hc
     rw [hfs] at hs
     exact done (jW hS ht hs hb hxs hy h1 h2)
    ·rename_i k' els hfs
     split at he
     case isFalse=>cases he
     rename_i hk
     subst hk
     cases he
     obtain ⟨h0,h1,h2⟩:=hc
     rw [hfs] at hs
     exact done (zeK hS ht hs hxs hy h1 h2 h0)
    ·cases he
 |_=>rw [hop] at he;cases he
end Go.AL
namespace Go.AL
open Go.RowKit
def FW (rd:Option Nat):Fence:={Fence.wide with round:=rd}
theorem FW_inRound (rd:Option Nat) (l:Nat):(FW rd).inRound l=FW (some l):=rfl
section
variable (P:Program) (G:Glob) (rd:Option Nat)
def OpOk (o:Oper) (h:Heap) (f:Operand→PV) (R:PV→Heap→Prop):Prop:=
 ∀ (φ:List Value) (w:World) (X:Addr→Prop) (a:Act) (K:Act→World→Prop) (Q:Exit→Act→World→Prop),SRel ⟨φ,h,w,X⟩→GRel ⟨φ,h,w,X⟩ G→
  (∀ x∈o.op.operands,VRel ⟨φ,h,w,X⟩ (f x) (a.eval x))→
  (∀ (φ':List Value) (h':Heap) (w':World) (p:PV) (v:Value),Ext ⟨φ,h,w,X⟩ ⟨φ',h',w',X⟩→SRel ⟨φ',h',w',X⟩→VRel ⟨φ',h',w',X⟩ p v→R p h'→K (a.put o.dst v) w')→
  o.wpIn (FW rd) 0 P a w K Q
variable {P G rd}
theorem OpOk.mono {o:Oper} {h:Heap} {f:Operand→PV} {R R':PV→Heap→Prop} (k:OpOk P G rd o h f R) (hr: ∀ p h',R p h'→R' p h'):OpOk P G rd o h f R':=
 fun φ w X a K Q hS hG hx hK=>k φ w X a K Q hS hG hx fun φ' h' w' p v e s r t=>hK φ' h' w' p v e s r (hr _ _ t)
theorem OpOk.of_run {o:Oper} {h:Heap} {f:Operand→PV} {R:PV→Heap→Prop} (hd: ∀ c,o.op≠ .defer c)
  (k: ∀ (φ:List Value) (w:World) (X:Addr→Prop) (ρ:Operand→Value),SRel ⟨φ,h,w,X⟩→GRel ⟨φ,h,w,X⟩ G→(∀ x∈o.op.operands,VRel ⟨φ,h,w,X⟩ (f x) (ρ x))→
   ∃ (φ':List Value) (h':Heap) (w':World) (p:PV) (v:Value),(execOp ρ o).run P w= .ok (.value v) w'∧Ext ⟨φ,h,w,X⟩ ⟨φ',h',w',X⟩∧SRel ⟨φ',h',w',X⟩∧VRel ⟨φ',h',w',X⟩ p v∧R p h'):
  OpOk P G rd o h f R:=by
 intro φ w X a K Q hS hG hx hK
 obtain ⟨φ',h',w',p,v,hrun,he,hs,hv,hr⟩:=k φ w X a.eval hS hG hx
 refine ⟨fun f _=>trivial,?_⟩
 rw [Oper.semAt_eq _ _ _ hd,hrun]
 exact hK φ' h' w' p v he hs hv hr
theorem OpOk.of_eff {o:Oper} {h h':Heap} {f:Operand→PV} {p:PV} {c:Prop} {R:PV→Heap→Prop} (he:vA P h f o.op=some (p,h',c)) (hc:c) (hr:R p h'):
  OpOk P G rd o h f R:=by
 intro φ w X a K Q hS hG hx hK
 have hd: ∀ c,o.op≠ .defer c:=fun c hop=>by rw [hop] at he;simp [vA] at he
 obtain ⟨φ',w',x,hS',hrun⟩:=zkU (P:=P) (S:=⟨φ,h,w,X⟩) (o:=o) (ρ:=a.eval) hS hx he hc
 refine ⟨fun f _=>trivial,?_⟩
 rw [Oper.semAt_eq _ _ _ hd]
 rcases hrun with ⟨v,hrun,hv⟩|⟨hrun,rfl⟩
 ·rw [hrun];exact hK φ' h' w' p v x hS' hv hr
 ·rw [hrun];exact hK φ' h' w' .ud undef x hS' .ud hr
theorem OpOk.of_pure {o:Oper} {h:Heap} {f:Operand→PV} {p:PV} {c:Prop} {R:PV→Heap→Prop} (he:wO P h f o.op=some (p,c)) (hc:c) (hr:R p h):
  OpOk P G rd o h f R:=by
 refine .of_run (fun c hop=>by rw [hop] at he;simp [wO,yI,rA] at he) fun φ w X ρ hS _ hx=> ?_
 obtain ⟨v,hrun,hv⟩:=zgV (P:=P) (S:=⟨φ,h,w,X⟩) (o:=o) (ρ:=ρ) hS hx he hc
 exact ⟨φ,h,w,p,v,hrun,Ext.refl _,hS,hv,hr⟩
variable (P G rd)
def AStep (o:Oper) (ts:List PV) (h:Heap) (K:PV→Heap→Prop):Prop:=
 match wO (α:=Prop) P h (wV G ts) o.op with
 |some (p,c)=>c∧K p h
 |none=>match vA (α:=Prop) P h (wV G ts) o.op with
  |some (p,h',c)=>c∧K p h'
  |none=>OpOk P G rd o h (wV G ts) K
def zh9 (ops:List Oper) (ts:List PV) (j:Nat):Option PV:=((ops[j]?).bind (·.dst)).map (ts.getD · .un)
def AReg (ops:List Oper):List Oper→(List PV→Heap→Prop)→List PV→Heap→Prop
 | [],Q,ts,h=>Q ts h
 | o::rest,Q,ts,h=>
  match o.guard with
  |none=>AStep P G rd o ts h fun p h'=>AReg ops rest Q (zZ ts o.dst p) h'
  |some (j,want)=>
   match zh9 ops ts j with
   |some (.sc (.bool b))=>(b=want→AStep P G rd o ts h fun p h'=>AReg ops rest Q (zZ ts o.dst p) h')∧(b≠want→AReg ops rest Q (zZ ts o.dst .ud) h)
   |some .ud=>AReg ops rest Q (zZ ts o.dst .ud) h
   |_=>False
def SReg (ops:List Oper):List Oper→(List PV→Heap→Prop)→List PV→Heap→Prop
 | [],Q,ts,h=>Q ts h
 | o::rest,Q,ts,h=>
  match o.guard with
  |none=>OpOk P G rd o h (wV G ts) fun p h'=>SReg ops rest Q (zZ ts o.dst p) h'
  |some (j,want)=>
   match zh9 ops ts j with
   |some (.sc (.bool b))=>(b=want→OpOk P G rd o h (wV G ts) fun p h'=>SReg ops rest Q (zZ ts o.dst p) h')∧(b≠want→SReg ops rest Q (zZ ts o.dst .ud) h)
   |some .ud=>SReg ops rest Q (zZ ts o.dst .ud) h
   |_=>False
variable {P G rd}
theorem AStep.ok {o:Oper} {ts:List PV} {h:Heap} {K:PV→Heap→Prop} (k:AStep P G rd o ts h K):OpOk P G rd o h (wV G ts) K:=by
 unfold AStep at k
 split at k
 ·rename_i p c he
  exact .of_pure he k.1 k.2
 ·split at k
  ·rename_i p h' c he
   exact .of_eff he k.1 k.2
  ·exact k
end
def MRel (B:Nat) (S:St) (ds:List Deferred):Prop:= ∃ rs:List Nat,ds=rs.map (fun r=>⟨.collected r, #[]⟩)∧rs.Nodup∧ ∀ r∈rs,B≤r∧r<S.w.heap.size∧S.w.heap[r]? =some (.deferred (some []))∧ ¬S.Own r
theorem MRel.ext {B:Nat} {S S':St} {ds:List Deferred} (h:MRel B S ds) (x:Ext S S'):MRel B S' ds:=by
 obtain ⟨rs,he,hn,h⟩:=h
 refine ⟨rs,he,hn,fun r hr=> ?_⟩
 obtain ⟨hB,hlt,hb,hn⟩:=h r hr
 obtain ⟨h1,h2⟩:=x.unt r hlt hn
 exact ⟨hB,Nat.lt_of_lt_of_le hlt x.size,h2.trans hb,h1⟩
structure ARel (B:Nat) (S:St) (G:Glob) (ts:List PV) (a:Act):Prop where
 st:SRel S
 gl:GRel S G
 tr:TRel S ts a.tmps
 mark:MRel B S a.defers
 base:B≤S.w.heap.size
def AWp (P:Program) (G:Glob) (rd:Option Nat) (c:Code) (Q:Exit→List PV→Heap→Prop) (ts:List PV) (h:Heap):Prop:=
 ∀ (B:Nat) (φ:List Value) (w:World) (X:Addr→Prop) (a:Act),ARel B ⟨φ,h,w,X⟩ G ts a→
  c.wpIn (FW rd) 0 P (fun e a' w'=> ∃ (φ':List Value) (ts':List PV) (h':Heap),Ext ⟨φ,h,w,X⟩ ⟨φ',h',w',X⟩∧ARel B ⟨φ',h',w',X⟩ G ts' a'∧Q e ts' h') a w
section
variable {P:Program} {G:Glob} {rd:Option Nat}
theorem nK {S:St} {ops:Array Oper} {ts:List PV} {tmps:Array Value} {j:Nat} {b:Bool} (hT:TRel S ts tmps) (h:zh9 ops.toList ts j=some (.sc (.bool b))):yielded ops tmps j=some b:=by
 unfold zh9 at h
 unfold yielded
 rw [Array.getElem?_toList] at h
 cases hd:(ops[j]?).bind (·.dst) with
 |none=>rw [hd] at h;simp at h
 | some d=>
  rw [hd] at h
  simp only [Option.map_some,Option.some.injEq] at h
  rw [List.getD_eq_getElem?_getD] at h
  cases ht:ts[d]? with
  |none=>rw [ht] at h;simp at h
  |some p=>
   rw [ht] at h
   simp only [Option.getD_some] at h
   subst h
   have:=hT.rel d _ ht
   rw [Array.getD_eq_getD_getElem?] at this
   simp only [Option.bind_some]
   cases hv:tmps[d]? with
   |none=>rw [hv] at this;cases this
   |some v=>rw [hv] at this;simp only [Option.getD_some] at this;cases this;rfl
theorem nJ {S:St} {ops:Array Oper} {ts:List PV} {tmps:Array Value} {j:Nat} (hT:TRel S ts tmps) (h:zh9 ops.toList ts j=some .ud):yielded ops tmps j=none:=by
 unfold zh9 at h
 unfold yielded
 rw [Array.getElem?_toList] at h
 cases hd:(ops[j]?).bind (·.dst) with
 |none=>rfl
 | some d=>
  rw [hd] at h
  simp only [Option.map_some,Option.some.injEq] at h
  rw [List.getD_eq_getElem?_getD] at h
  cases ht:ts[d]? with
  |none=>rw [ht] at h;simp at h
  | some p=>
   rw [ht] at h
   simp only [Option.getD_some] at h
   subst h
   have:=hT.rel d _ ht
   rw [Array.getD_eq_getD_getElem?] at this
   simp only [Option.bind_some]
   cases hv:tmps[d]? with
   |none=>rfl
   |some v=>
    rw [hv] at this
    simp only [Option.getD_some] at this
    generalize v=u at this
    cases this
    rfl
theorem aF {ops:Array Oper} {Q:List PV→Heap→Prop}: ∀ (n:Nat) (ts:List PV) (h:Heap),SReg P G rd ops.toList (ops.toList.drop n) Q ts h→
  ∀ (B:Nat) (φ:List Value) (w:World) (X:Addr→Prop) (a:Act),ARel B ⟨φ,h,w,X⟩ G ts a→ ∀ (QQ:Exit→Act→World→Prop),
   (∀ (φ':List Value) (w':World) (a':Act) (ts':List PV) (h':Heap),Ext ⟨φ,h,w,X⟩ ⟨φ',h',w',X⟩→ARel B ⟨φ',h',w',X⟩ G ts' a'→Q ts' h'→QQ .normal a' w')→
   wpOpsIn (FW rd) 0 P ops QQ (List.range' n (ops.size-n)) a w:=by
 intro n
 generalize hm:ops.size-n=m
 induction m generalizing n with
 |zero=>
  intro ts h hr B φ w X a hA QQ hQ
  have:ops.toList.drop n=[]:=List.drop_eq_nil_of_le (by simp;omega)
  rw [this] at hr
  exact hQ φ w a ts h (Ext.refl _) hA hr
 | succ m ih=>
  intro ts h hr B φ w X a hA QQ hQ
  have hlt:n<ops.size:=by omega
  have hd:ops.toList.drop n=ops[n]::ops.toList.drop (n+1):=by
   rw [List.drop_eq_getElem_cons (by simpa using hlt)];simp
  have hg:ops[n]? =some ops[n]:=by simp [hlt]
  rw [hd] at hr
  simp only [List.range'_succ,wpOpsIn,hg]
  have next: ∀ (φ':List Value) (h':Heap) (w':World) (a':Act) (ts':List PV),Ext ⟨φ,h,w,X⟩ ⟨φ',h',w',X⟩→ARel B ⟨φ',h',w',X⟩ G ts' a'→SReg P G rd ops.toList (ops.toList.drop (n+1)) Q ts' h'→
    wpOpsIn (FW rd) 0 P ops QQ (List.range' (n+1) m) a' w':=fun φ' h' w' a' ts' x hA' hr'=>
   ih (n+1) (by omega) ts' h' hr' B φ' w' X a' hA' QQ fun φ'' w'' a'' ts'' h'' x' hA'' hq=>hQ φ'' w'' a'' ts'' h'' (x.trans x') hA'' hq
  have put: ∀ (φ':List Value) (h':Heap) (w':World) (dst:Option Tmp) (p:PV) (v:Value),Ext ⟨φ,h,w,X⟩ ⟨φ',h',w',X⟩→SRel ⟨φ',h',w',X⟩→VRel ⟨φ',h',w',X⟩ p v→
    ARel B ⟨φ',h',w',X⟩ G (zZ ts dst p) (a.put dst v):=fun φ' h' w' dst p v x hs hv=>
   ⟨hs,hA.gl.ext x,(hA.tr.ext x).put dst hv,by have:=hA.mark.ext x;cases dst<;>exact this,Nat.le_trans hA.base x.size⟩
  have step: ∀ (hk:OpOk P G rd ops[n] h (wV G ts) fun p h'=>SReg P G rd ops.toList (ops.toList.drop (n+1)) Q (zZ ts ops[n].dst p) h'),
    ops[n].wpIn (FW rd) 0 P a w (wpOpsIn (FW rd) 0 P ops QQ (List.range' (n+1) m)) QQ:=fun hk=>
   hk φ w X a _ _ hA.st hA.gl (fun x _=>lI hA.gl hA.tr x) fun φ' h' w' p v x hs hv hr'=>next φ' h' w' _ _ x (put φ' h' w' _ p v x hs hv) hr'
  have skip: ∀ (hk:SReg P G rd ops.toList (ops.toList.drop (n+1)) Q (zZ ts ops[n].dst .ud) h),wpOpsIn (FW rd) 0 P ops QQ (List.range' (n+1) m) (a.put ops[n].dst undef) w:=fun hk=>
   next φ h w _ _ (Ext.refl _) (put φ h w _ .ud undef (Ext.refl _) hA.st .ud) hk
  simp only [SReg] at hr
  cases wP:ops[n].guard with
  |none=>
   rw [wP] at hr
   rw [if_pos (by simp [Region.wanted,wP])]
   exact step hr
  | some jw=>
   obtain ⟨j,want⟩:=jw
   rw [wP] at hr
   simp only [] at hr
   split at hr
   ·rename_i b hb
    have hy:=nK hA.tr hb
    by_cases hbw:b=want
    ·rw [if_pos (by simp [Region.wanted,wP,hy,hbw])]
     exact step (hr.1 hbw)
    ·rw [if_neg (by simp [Region.wanted,wP,hy,hbw])]
     exact ⟨fun _ _=>trivial,skip (hr.2 hbw)⟩
   ·rename_i hb
    have hy:=nJ hA.tr hb
    rw [if_neg (by simp [Region.wanted,wP,hy])]
    exact ⟨fun _ _=>trivial,skip hr⟩
   ·exact hr.elim
theorem rM {id:Nat} {l:List Oper} {Q:Exit→List PV→Heap→Prop} {ts:List PV} {h:Heap} (k:SReg P G rd l l (Q .normal) ts h):AWp P G rd (.region id l.toArray false) Q ts h:=by
 intro B φ w X a hA
 refine wpIn_region ?_
 rw [List.range_eq_range']
 exact aF 0 ts h (by simpa using k) B φ w X a hA _ fun φ' w' a' ts' h' x hA' hq=>⟨φ',ts',h',x,hA',hq⟩
theorem AWp.mono {c:Code} {Q Q':Exit→List PV→Heap→Prop} {ts:List PV} {h:Heap} (k:AWp P G rd c Q ts h) (hq: ∀ e ts h,Q e ts h→Q' e ts h):AWp P G rd c Q' ts h:=
 fun B φ w X a hA=>wpIn_mono (k B φ w X a hA) fun e a' w' ⟨φ',ts',h',x,hA',q⟩=>⟨φ',ts',h',x,hA',hq _ _ _ q⟩
def AThen (N:List PV→Heap→Prop) (Q:Exit→List PV→Heap→Prop):Exit→List PV→Heap→Prop
 | .normal,ts,h=>N ts h
 |e,ts,h=>Q e ts h
theorem lH {c d:Code} {Q:Exit→List PV→Heap→Prop} {ts:List PV} {h:Heap} (k:AWp P G rd c (AThen (AWp P G rd d Q) Q) ts h):AWp P G rd (.seq c d) Q ts h:=by
 intro B φ w X a hA
 refine wpIn_seq (wpIn_mono (k B φ w X a hA) ?_)
 rintro e a' w' ⟨φ',ts',h',x,hA',q⟩
 cases e with
 |normal=>
  refine wpIn_mono (q B φ' w' X a' hA') ?_
  rintro e a'' w'' ⟨φ'',ts'',h'',x',hA'',q'⟩
  exact ⟨φ'',ts'',h'',x.trans x',hA'',q'⟩
 |_=>exact ⟨φ',ts',h',x,hA',q⟩
theorem mU {Q:Exit→List PV→Heap→Prop} {ts:List PV} {h:Heap} (k:Q .normal ts h):AWp P G rd .skip Q ts h:=
 fun B φ w X a hA=>wpIn_skip ⟨φ,ts,h,Ext.refl _,hA,k⟩
theorem oI {l:Nat} {Q:Exit→List PV→Heap→Prop} {ts:List PV} {h:Heap} (k:Q .normal ts h):AWp P G rd (.label l) Q ts h:=
 fun B φ w X a hA=>wpIn_label ⟨φ,ts,h,Ext.refl _,hA,k⟩
theorem mW {id:Nat} {Q:Exit→List PV→Heap→Prop} {ts:List PV} {h:Heap} (k:Q (.exit id) ts h):AWp P G rd (.exit id) Q ts h:=
 fun B φ w X a hA=>wpIn_exit ⟨φ,ts,h,Ext.refl _,hA,k⟩
theorem jB {Q:Exit→List PV→Heap→Prop} {ts:List PV} {h:Heap} (k:Q .ret ts h):AWp P G rd .ret Q ts h:=
 fun B φ w X a hA=>wpIn_ret ⟨φ,ts,h,Ext.refl _,hA,k⟩
theorem qQ {x:Operand} {c d:Code} {Q:Exit→List PV→Heap→Prop} {ts:List PV} {h:Heap} {b:Bool} (hx:wV G ts x= .sc (.bool b))
  (k:b=true→AWp P G rd c Q ts h) (k':b=false→AWp P G rd d Q ts h):AWp P G rd (.cond x c d) Q ts h:=by
 intro B φ w X a hA
 have hv:=lI hA.gl hA.tr x
 rw [hx] at hv
 have he:a.eval x= .bool b:=by generalize a.eval x=v at hv;cases hv;rfl
 exact wpIn_cond_split he (fun hb=>k hb B φ w X a hA) (fun hb=>k' hb B φ w X a hA)
def ABlock (id:Nat) (Q:Exit→List PV→Heap→Prop):Exit→List PV→Heap→Prop
 | .exit id',ts,h=>if id'=id then Q .normal ts h else Q (.exit id') ts h
 |e,ts,h=>Q e ts h
theorem oK {id:Nat} {c:Code} {Q:Exit→List PV→Heap→Prop} {ts:List PV} {h:Heap} (k:AWp P G rd c (ABlock id Q) ts h):AWp P G rd (.block id c) Q ts h:=by
 intro B φ w X a hA
 refine wpIn_block (wpIn_mono (k B φ w X a hA) ?_)
 rintro e a' w' ⟨φ',ts',h',x,hA',q⟩
 cases e with
 |exit id'=>
  simp only [ABlock] at q
  simp only [Exit.inBlock]
  split
  ·rename_i e;rw [if_pos e] at q;exact ⟨φ',ts',h',x,hA',q⟩
  ·rename_i e;rw [if_neg e] at q;exact ⟨φ',ts',h',x,hA',q⟩
 |_=>exact ⟨φ',ts',h',x,hA',q⟩
theorem kF {F:Fence} {n:Nat} {c:Code} {Q:Exit→Act→World→Prop} {a:Act} {w:World} (J:Nat→Act→World→Prop) (j:Nat) (h0:J j a w)
  (round: ∀ j a w,J j a w→c.wpIn F n P (Exit.then (fun a' w'=> ∃ m,m<j∧J m a' w') Q) a w):(Code.loop c).wpIn F n P Q a w:=by
 intro b k cs hro hb hr
 have key: ∀ j a w,J j a w→
   ∃ e a' w',Q e a' w'∧ArrivesIn (Machine.fenced P F) P (lone (b.atR a (.code c:: .inLoop c::k)) cs w) b k cs e a' w':=by
  intro j
  induction j using Nat.strongRecOn with
  | _ j ih=>
   intro a w hI
   obtain ⟨e,a₁,w₁,hq,harr⟩:=round j a w hI b (.inLoop c::k) cs hro hb hr
   cases e with
   |normal=>
    obtain ⟨m,hlt,hI₁⟩:=hq
    obtain ⟨e₂,a₂,w₂,hq₂,harr₂⟩:=ih m hlt a₁ w₁ hI₁
    exact ⟨e₂,a₂,w₂,hq₂,.of_steps (StepsIn.trans harr (.one (fenced_calm hb hr rfl) stepR_inLoop)) harr₂⟩
   |exit id=>exact ⟨_,a₁,w₁,hq,.pass (x:= .inLoop c) rfl (fun _ _=> .inl (by simp)) harr⟩
   |goto l=>exact ⟨_,a₁,w₁,hq,.pass (x:= .inLoop c) rfl (fun _ _=> .inl (by simp)) harr⟩
   |ret=>exact ⟨_,a₁,w₁,hq,.pass (x:= .inLoop c) rfl (fun _ _=> .inl (by simp)) harr⟩
   |panic ch=>exact ⟨_,a₁,w₁,hq,.pass (x:= .inLoop c) rfl (fun _ _=> .inl (by simp)) harr⟩
   |outgrown=>exact ⟨_,a₁,w₁,hq,.pass (x:= .inLoop c) rfl (fun _ _=> .inl (by simp)) harr⟩
 obtain ⟨e,a',w',hq,harr⟩:=key _ a w h0
 exact ⟨e,a',w',hq,.of_steps (.one (fenced_calm hb hr rfl) stepR_loop) harr⟩
theorem mV {c:Code} {Q:Exit→List PV→Heap→Prop} {ts:List PV} {h:Heap} (I:Nat→List PV→Heap→Prop) (n:Nat) (h0:I n ts h)
  (k: ∀ n ts h,I n ts h→AWp P G rd c (AThen (fun ts' h'=> ∃ m,m<n∧I m ts' h') Q) ts h):AWp P G rd (.loop c) Q ts h:=by
 intro B φ w X a hA
 refine kF (fun n a' w'=> ∃ (φ':List Value) (ts':List PV) (h':Heap),Ext ⟨φ,h,w,X⟩ ⟨φ',h',w',X⟩∧ARel B ⟨φ',h',w',X⟩ G ts' a'∧I n ts' h') n ⟨φ,ts,h,Ext.refl _,hA,h0⟩ ?_
 rintro n a' w' ⟨φ',ts',h',x,hA',hi⟩
 refine wpIn_mono (k n ts' h' hi B φ' w' X a' hA') ?_
 rintro e a'' w'' ⟨φ'',ts'',h'',x',hA'',q⟩
 cases e with
 |normal=>obtain ⟨m,hm,hi'⟩:=q;exact ⟨m,hm,φ'',ts'',h'',x.trans x',hA'',hi'⟩
 |_=>exact ⟨φ'',ts'',h'',x.trans x',hA'',q⟩
end
end Go.AL
namespace Go.AL
open Go.RowKit
inductive Tree:PV→Prop
 |un:Tree .un
 |ud:Tree .ud
 |sc {v:Value}:Tree (.sc v)
 |nil:Tree .nil
 |agg {cs:List PV} (h: ∀ p∈cs,Tree p):Tree (.agg cs)
 |tup {cs:List PV} (h: ∀ p∈cs,Tree p):Tree (.tup cs)
 |ts {k:Nat} {els:List (List PV)} (h: ∀ e∈els, ∀ p∈e,Tree p):Tree (.ts k els)
 |tc {k:Nat} {els:List (List PV)} (h: ∀ e∈els, ∀ p∈e,Tree p):Tree (.tc k els)
 |tp {cs:List PV} (h: ∀ p∈cs,Tree p):Tree (.tp cs)
 |fn {f:Fn} {a b:List PV} (h: ∀ p∈a,Tree p) (h': ∀ p∈b,Tree p):Tree (.fn f a b)
 |ifc {t:TypeId} {p:PV} (h:Tree p):Tree (.ifc t p)
theorem VRel.tree {S S':St} {p:PV} {v:Value} (h:VRel S p v) (ht:Tree p) (hm: ∀ a u,S.M a u→S'.M a u):VRel S' p v:=by
 induction h with
 |un=>exact .un
 |ud=>exact .ud
 |sc h=>exact .sc h
 |nil=>exact .nil
 |agg hl h1 _ ih=>cases ht with|agg ht=>exact .agg hl h1 fun i p v hp hv=>ih i p v hp hv (ht p (List.mem_of_getElem? hp))
 |tup hl _ ih=>cases ht with|tup ht=>exact .tup hl fun i p v hp hv=>ih i p v hp hv (ht p (List.mem_of_getElem? hp))
 |ts hl hc hm' hk ad ha val hv _ ih=>
  cases ht with|ts ht=>exact .ts hl hc hm' hk ad ha val (fun j hj=>hm _ _ (hv j hj)) fun i e j p hi hp=>ih i e j p hi hp (ht e (List.mem_of_getElem? hi) p (List.mem_of_getElem? hp))
 |tc _ ih=>cases ht with|tc ht=>exact .tc (ih (.ts ht))
 |vec _ _ _ _ _=>cases ht
 |ms=>cases ht
 |oms=>cases ht
 |ptr=>cases ht
 |optr=>cases ht
 |tp val hv _ ih=>cases ht with|tp ht=>exact .tp val (fun j hj=>hm _ _ (hv j hj)) fun j p hp=>ih j p hp (ht p (List.mem_of_getElem? hp))
 |fn hl hl' _ _ ih ih'=>cases ht with|fn h h'=>exact .fn hl hl' (fun i p v hp hv=>ih i p v hp hv (h p (List.mem_of_getElem? hp))) fun i p v hp hv=>ih' i p v hp hv (h' p (List.mem_of_getElem? hp))
 |ifc _ ih=>cases ht with|ifc ht=>exact .ifc (ih ht)
 |mp=>cases ht
 |yl=>cases ht
 |it=>cases ht
def PLe (p q:PV):Prop:= ∀ (S:St) (v:Value),VRel S p v→VRel S q v
theorem PLe.refl (p:PV):PLe p p:=fun _ _ h=>h
theorem PLe.trans {p q r:PV} (h:PLe p q) (k:PLe q r):PLe p r:=fun S v x=>k S v (h S v x)
theorem PLe.un (p:PV):PLe p .un:=fun _ _ _=> .un
theorem PLe.nil_ts (k:Nat):PLe .nil (.ts k []):=fun S v h=>by
 cases h
 exact .ts rfl (Nat.le_refl _) (Nat.zero_le _) (by simp) ⟨0,0,none⟩ (fun h=>absurd rfl h) (fun _=>undef) (by simp) (by simp)
theorem PLe.vec_ts (r k:Nat) (e:List (List PV)):PLe (.vec r k e) (.ts k e):=fun S v h=>by cases h with|vec h=>exact h
theorem PLe.tc_ts (k:Nat) (e:List (List PV)):PLe (.tc k e) (.ts k e):=fun S v h=>by cases h with|tc h=>exact h
theorem PLe.agg {cs ds:List PV} (hl:cs.length=ds.length) (h: ∀ (i:Nat) (p q:PV),cs[i]? =some p→ds[i]? =some q→PLe p q):PLe (.agg cs) (.agg ds):=fun S v hv=>by
 cases hv with
 |agg hl' h1 hr=>
  refine .agg (hl'.trans hl) h1 fun i q u hq hu=> ?_
  have hi:i<cs.length:=by rw [hl];exact (gsi hq).1
  exact h i _ q (List.getElem?_eq_getElem hi) hq S u (hr i _ u (List.getElem?_eq_getElem hi) hu)
def uG (P:Program) (f:FuncId):Bool:=match P.funcs[f]? with|some fn=> !(fn.name== "runtime.NumGoroutine")&&fn.body.isSome|none=>false
def ACall (P:Program) (G:Glob) (f:FuncId) (args:List PV) (h:Heap) (R:PV→Heap→Prop):Prop:=
 uG P f=true∧ ∀ (φ:List Value) (w:World) (X:Addr→Prop) (vs:Array Value),SRel ⟨φ,h,w,X⟩→GRel ⟨φ,h,w,X⟩ G→vs.size=args.length→
  (∀ (i:Nat) (p:PV) (v:Value),args[i]? =some p→vs[i]? =some v→VRel ⟨φ,h,w,X⟩ p v)→
  CallsIn Fence.wide 0 P f vs w fun e w'=> ∃ (φ':List Value) (h':Heap) (p:PV) (v:Value),e= .returned v∧Ext ⟨φ,h,w,X⟩ ⟨φ',h',w',X⟩∧SRel ⟨φ',h',w',X⟩∧VRel ⟨φ',h',w',X⟩ p v∧R p h'
theorem ACall.mono {P:Program} {G:Glob} {f:FuncId} {args:List PV} {h:Heap} {R R':PV→Heap→Prop} (k:ACall P G f args h R) (hr: ∀ p h',R p h'→R' p h'):ACall P G f args h R':=
 ⟨k.1,fun φ w X vs a b c d=>(k.2 φ w X vs a b c d).mono fun e w' ⟨φ',h',p,v,x1,x2,x3,x4,x5⟩=>⟨φ',h',p,v,x1,x2,x3,x4,hr p h' x5⟩⟩
def Pure (P:Program) (G:Glob) (f:FuncId) (args:List PV) (res:PV):Prop:=ACall P G f args [] fun p h'=>p=res∧h'=[]
theorem ACall.args {P:Program} {G:Glob} {f:FuncId} {args args':List PV} {h:Heap} {R:PV→Heap→Prop} (k:ACall P G f args h R) (hl:args'.length=args.length)
  (hle: ∀ (i:Nat) (p q:PV),args'[i]? =some p→args[i]? =some q→PLe p q):ACall P G f args' h R:=
 ⟨k.1,fun φ w X vs a b c d=>k.2 φ w X vs a b (c.trans hl) fun i q v hq hv=>by
  have hi:i<args'.length:=by rw [hl];exact (gsi hq).1
  exact hle i _ q (List.getElem?_eq_getElem hi) hq _ v (d i _ v (List.getElem?_eq_getElem hi) hv)⟩
theorem Pure.frame {P:Program} {G:Glob} {f:FuncId} {args:List PV} {res:PV} (k:Pure P G f args res) (ht: ∀ p∈args,Tree p) (hr:Tree res) (hG: ∀ g cs,G g=some cs→ ∀ p∈cs,Tree p) (h:Heap):
  ACall P G f args h fun p h'=>p=res∧h'=h:=by
 refine ⟨k.1,fun φ w X vs hS hGr hl hv=> ?_⟩
 let S:St:=⟨φ,h,w,X⟩
 let X0:Addr→Prop:=fun a=>a.block<w.heap.size∧ ¬S.Stable a
 have hm: ∀ a u,S.M a u→(⟨[],[],w,X0⟩:St).M a u:=fun a u ⟨h1,h2,h3⟩=>⟨h1,h2,h3.1,h3.2.1,fun hx=>hx.2 h3,fun r v hp=>by simp at hp⟩
 have hS0:SRel ⟨[],[],w,X0⟩:=⟨rfl,fun r b v hb=>by simp at hb,fun r r' v v' n hp=>by simp at hp,fun a ha=>ha.1,fun a ha r v hp=>by simp at hp⟩
 have hG0:GRel ⟨[],[],w,X0⟩ G:=fun g cs hg=>(hGr g cs hg).tree (.tp (hG g cs hg)) hm
 refine (k.2 [] w X0 vs hS0 hG0 hl fun i p v hp hvv=>(hv i p v hp hvv).tree (ht p (List.mem_of_getElem? hp)) hm).mono ?_
 rintro e w' ⟨φ',h',p,v,rfl,x,hS',hvr,rfl,rfl⟩
 have hφ':φ'=[]:=List.eq_nil_of_length_eq_zero (by have:=hS'.len;simpa using this)
 subst hφ'
 have hsame: ∀ b,b<w.heap.size→w'.heap[b]? =w.heap[b]? :=fun b hb=>(x.unt b hb (by rintro ⟨r,y,hy,_⟩;simp at hy)).2
 have x':Ext S ⟨φ,h,w',X⟩:=by
  refine ⟨rfl,x.os,x.tape,x.output,x.size,fun b hb hn=>⟨hn,hsame b hb⟩,fun a u hmu=> ?_,fun r b hb=>⟨b,hb,Blk.le_refl b rfl⟩,fun b m ⟨ar,t1,f1,h1,h2⟩=>⟨ar,t1,f1,(hsame b (Array.getElem?_eq_some_iff.1 h1).1).trans h1,h2⟩⟩
  obtain ⟨h1,h2,h3,h4,h5,h6⟩:=hmu
  exact ⟨(World.cell?_of_block (hsame _ h4)).trans h1,h2,h3,Nat.lt_of_lt_of_le h4 x.size,h5,h6⟩
 refine ⟨φ,h,p,v,rfl,x',⟨hS.len,fun r b y hb hy=>(hS.blks r b y hb hy).ext x' fun n hn=>hsame n (hS.own_lt ⟨r,y,hy,hn⟩),hS.inj,fun a ha=>Nat.lt_of_lt_of_le (hS.xlt a ha) x.size,hS.xown⟩,?_,rfl,rfl⟩
 refine hvr.tree hr fun a u hmu=> ?_
 obtain ⟨h1,h2,h3,h4,h5,h6⟩:=hmu
 refine ⟨h1,h2,?_⟩
 by_cases hlt:a.block<w.heap.size
 ·have hst:S.Stable a:=Classical.byContradiction fun hn=>h5 ⟨hlt,hn⟩
  exact ⟨h3,h4,hst.2.2.1,hst.2.2.2⟩
 ·exact ⟨h3,h4,fun hx=>hlt (hS.xlt a hx),fun r y hy hb=>absurd (hS.own_lt ⟨r,y,hy,hb⟩) hlt⟩
theorem iC {P:Program} {f:FuncId} (h:uG P f=true) (args:Array Value) (w:World):(callFunc f args).run P w= .ok (.enter f args) w:=by
 unfold uG at h
 split at h
 ·rename_i fn hf
  simp only [Bool.and_eq_true,Bool.not_eq_true'] at h
  obtain ⟨b,hb⟩:=Option.isSome_iff_exists.1 h.2
  have hn: ¬fn.name= "runtime.NumGoroutine" :=by simpa using h.1
  simp [callFunc,hf,hn,hb]
 ·cases h
section
variable {P:Program} {G:Glob} {rd:Option Nat}
theorem OpOk.call {o:Oper} {c:Call} {x:Operand} {f:FuncId} {fst cap:List PV} {h:Heap} {F:Operand→PV} {R:PV→Heap→Prop} (ho:o.op= .call c) (hc:c.callee= .value x)
  (hx:F x= .fn (.func f) fst cap) (k:ACall P G f (fst++c.args.toList.map F++cap) h R):OpOk P G rd o h F R:=by
 intro φ w X a K Q hS hG hop hK
 refine ⟨fun f _=>trivial,?_⟩
 rw [Oper.semAt_eq _ _ _ (fun c' hd=>by rw [ho] at hd;cases hd)]
 have hxv:=hop x (by rw [ho];simp [Op.operands,Call.operands,hc])
 rw [hx] at hxv
 obtain ⟨us,vs,he,hl,hl',h1,h2⟩: ∃ (us vs:Array Value),a.eval x= .func (.func f) us vs∧us.size=fst.length∧vs.size=cap.length∧
   (∀ (i:Nat) (p:PV) (v:Value),fst[i]? =some p→us[i]? =some v→VRel ⟨φ,h,w,X⟩ p v)∧(∀ (i:Nat) (p:PV) (v:Value),cap[i]? =some p→vs[i]? =some v→VRel ⟨φ,h,w,X⟩ p v):=by
  generalize a.eval x=u at hxv
  cases hxv with
  |fn hl hl' h h'=>exact ⟨_,_,rfl,hl,hl',h,h'⟩
 obtain ⟨m1,m2⟩:=kS (S:=⟨φ,h,w,X⟩) (f:=F) (ρ:=a.eval) c.args (fun y hy=>hop y (by rw [ho];simp [Op.operands,Call.operands,hy]))
 have hrun:(execOp a.eval o).run P w= .ok (.enter f (us++c.args.map a.eval++vs)) w:=by
  simp [execOp,ho,resolve,hc,he,Deferred.ofValue,invoke,iC k.1]
 rw [hrun]
 refine ⟨fun h=>by simp [FW,Fence.wide] at h,?_⟩
 have hsz:(us++c.args.map a.eval++vs).size=(fst++c.args.toList.map F++cap).length:=by
  simp only [Array.size_append,List.length_append,hl,hl',m1]
 have hcall:=k.2 φ w X (us++c.args.map a.eval++vs) hS hG hsz fun i p v hp hv=>by
  simp only [List.getElem?_append,List.length_append] at hp
  simp only [Array.getElem?_append,Array.size_append,hl,m1] at hv
  split at hp
  ·rename_i hlt
   rw [if_pos hlt] at hv
   split at hp
   ·rename_i hlt2
    rw [if_pos hlt2] at hv
    exact h1 i p v hp hv
   ·rename_i hlt2
    rw [if_neg hlt2] at hv
    exact m2 _ p v hp hv
  ·rename_i hlt
   rw [if_neg hlt] at hv
   exact h2 _ p v hp hv
 exact (show CallsIn (FW rd) (0-1) P f _ w _ from hcall).mono fun e w' ⟨φ',h',p,v,he,x,hs,hv,hr⟩=>by
  subst he
  exact hK φ' h' w' p v x hs hv hr
end
end Go.AL
