/-
  What a row's data tells of a value: its shape; an argument that is a struct.
-/
import Derived.Test.YtcffidhiaihbkaaGreatDoorZ11
import Derived.ProofKit
import Derived.Deep.Slices
import Derived.OpenShut
import Derived.Lib.SmallJoins
set_option linter.unusedSimpArgs false
set_option linter.unusedVariables false
set_option maxRecDepth 100000
set_option maxHeartbeats 4000000
namespace Go.AL
open Go.RowKit
def pJ:List Nat→Nat→List PV→List PV
 |_,_,[]=>[]
 |ks,i,p::ts=>(if ks.contains i then p else .un)::pJ ks (i+1) ts
section
variable {P:Program} {G:Glob} {rd:Option Nat}
end
end Go.AL
namespace Go.AL
def rH (l:List (Nat×Nat)) (i:Nat):Option (Nat×Nat):=l[i]?
def zkZ (P:Program):List Field→Option (List (Nat×Nat))
 | []=>some []
 |f::fs=>match xL P f.type,zkZ P fs with
  |some s,some l=>some ((f.offset,s)::l)
  |_,_=>none
theorem zfK {P:Program}: ∀ {fs:List Field} {l:List (Nat×Nat)},zkZ P fs=some l→ ∀ i:Nat,((fs[i]?).bind fun f:Field=>(xL P f.type).map fun s=>(f.offset,s))=l[i]? :=by
 intro fs
 induction fs with
 |nil=>intro l h i;cases h;simp
 | cons f fs ih=>
  intro l h i
  simp only [zkZ] at h
  split at h
  ·rename_i s l' hs hl
   cases h
   cases i with
   |zero=>simp [hs]
   |succ i=>simpa using ih hl i
  ·cases h
theorem xP {P:Program} {t:TypeId} {fs:Array Field} {l:List (Nat×Nat)} (h:P.underlying t=some (.struct fs)) (hf:(fs.all fun f=>(xL P f.type).isSome)=true) (hl:zkZ P fs.toList=some l):xW P t=some (rH l):=by
 unfold xW
 rw [h]
 simp only [hf,if_true,Option.some.injEq]
 funext i
 rw [←Array.getElem?_toList]
 exact zfK hl i
end Go.AL
namespace Go.AL
open Go.RowKit
def ACond (r:PV) (A B:Prop):Prop:=
 match r with
 | .sc (.bool t)=>if t=true then A else B
 |_=>False
theorem zcG {A B:Prop} (k:A):ACond (.sc (.bool true)) A B:=by simp only [ACond,if_true];exact k
theorem zcH {A B:Prop} (k:B):ACond (.sc (.bool false)) A B:=by simp only [ACond,Bool.false_eq_true,if_false];exact k
theorem yS {t:Bool} {A B:Prop} (k:t=true→A) (k':t=false→B):ACond (.sc (.bool t)) A B:=by
 cases t
 ·exact zcH (k' rfl)
 ·exact zcG (k rfl)
section
variable {P:Program} {G:Glob} {rd:Option Nat} {own:Bool} {Q N:Exit→List PV→Heap→Prop} {M:List PV→Heap→Prop} {ts:List PV} {h:Heap}
theorem zmO {a b:Code} (k:awp P G rd own a (AThen (awp P G rd own b Q) Q) ts h):awp P G rd own (.seq a b) Q ts h:=k
theorem zkA (k:Q .normal ts h):awp P G rd own .skip Q ts h:=k
theorem zkC {id:Nat} (k:Q (.exit id) ts h):awp P G rd own (.exit id) Q ts h:=k
theorem zmP (k:Q .ret ts h):awp P G rd own .ret Q ts h:=k
theorem zgP {l:Nat} (k:Q .normal ts h):awp P G rd own (.label l) Q ts h:=k
theorem zgR {id:Nat} {c:Code} (k:awp P G rd own c (ABlock id Q) ts h):awp P G rd own (.block id c) Q ts h:=k
theorem zeF {id:Nat} {ops:Array Oper} (k: ∀ l,ops.toList=l→ ∀ ds,l.map (·.dst)=ds→AR P G own ds l (Q .normal) ts h):awp P G rd own (.region id ops false) Q ts h:=by
 simp only [awp];exact k _ rfl _ rfl
theorem zgQ {id:Nat} {ops:Array Oper} (k:AWp P G rd (.region id ops true) Q ts h):awp P G rd own (.region id ops true) Q ts h:=k
theorem zkB {c:Code} (k:AWp P G rd (.loop c) Q ts h):awp P G rd own (.loop c) Q ts h:=k
theorem zkD {x:Operand} {a b:Code} (k: ∀ r,wV G ts x=r→ACond r (awp P G rd own a Q ts h) (awp P G rd own b Q ts h)):awp P G rd own (.cond x a b) Q ts h:=k _ rfl
theorem th_n (k:M ts h):AThen M Q .normal ts h:=k
theorem th_x {id:Nat} (k:Q (.exit id) ts h):AThen M Q (.exit id) ts h:=k
theorem th_r (k:Q .ret ts h):AThen M Q .ret ts h:=k
theorem bl_n {id:Nat} (k:Q .normal ts h):ABlock id Q .normal ts h:=k
theorem bl_r {id:Nat} (k:Q .ret ts h):ABlock id Q .ret ts h:=k
theorem zmN {id:Nat} (k:Q .normal ts h):ABlock id Q (.exit id) ts h:=by simp only [ABlock,if_true];exact k
theorem zb9 {id id':Nat} (hn: ¬id'=id) (k:Q (.exit id') ts h):ABlock id Q (.exit id') ts h:=by simp only [ABlock,if_neg hn];exact k
theorem end_n {fn:Func} {R:PV→Heap→Prop} {xs:List ResultVar} (hr:fn.results.toList=xs) (k: ∀ r,nV (α:=Prop) P ts h xs=r→ ∃ p c,r=some (p,c)∧c∧R p h):AEnd P fn R .normal ts h:=by
 obtain ⟨p,c,e,hc,hR⟩:=k _ rfl
 simp only [AEnd,hr,e]
 exact ⟨hc,hR⟩
theorem end_r {fn:Func} {R:PV→Heap→Prop} {xs:List ResultVar} (hr:fn.results.toList=xs) (k: ∀ r,nV (α:=Prop) P ts h xs=r→ ∃ p c,r=some (p,c)∧c∧R p h):AEnd P fn R .ret ts h:=by
 obtain ⟨p,c,e,hc,hR⟩:=k _ rfl
 simp only [AEnd,hr,e]
 exact ⟨hc,hR⟩
end
end Go.AL
namespace Go.AL
theorem ACall.weaken {P:Program} {G:Glob} {f:FuncId} {args:List PV} {h:Heap} {R:PV→Heap→Prop} (k:ACall P G f args h fun p h'=> ∃ q,PLe p q∧R q h'):ACall P G f args h R:=
 ⟨k.1,fun φ w X vs a b c d=>(k.2 φ w X vs a b c d).mono fun e w' ⟨φ',h',p,v,x1,x2,x3,x4,q,x5,x6⟩=>⟨φ',h',q,v,x1,x2,x3,x5 _ _ x4,x6⟩⟩
end Go.AL
namespace Go.AL
open Go.RowKit
section
variable {H:Type} {enc:TypeId×Value→H} {P:Program} {w:World} {base:Nat} {spare:Nat→Bool} {held:Bool}
structure Told (S:St) (qs:List PV) (cs:List Value):Prop where
 len:qs.length=cs.length
 rel: ∀ (i:Nat) (p:PV) (v:Value),qs[i]? =some p→cs[i]? =some v→VRel S p v
 one: ∀ v∈cs,v.oneCell'=true
theorem Told.nil (S:St):Told S [] []:=⟨rfl,fun i p v h=>by simp at h,fun v h=>by cases h⟩
theorem Told.append {S:St} {a b:List PV} {x y:List Value} (h:Told S a x) (k:Told S b y):Told S (a++b) (x++y):=by
 refine ⟨by simp [h.len,k.len],fun i p v hp hv=> ?_,fun v hv=> ?_⟩
 ·rcases Nat.lt_or_ge i a.length with hi|hi
  ·rw [List.getElem?_append_left hi] at hp
   rw [List.getElem?_append_left (by rw [←h.len];exact hi)] at hv
   exact h.rel i p v hp hv
  ·rw [List.getElem?_append_right hi] at hp
   rw [List.getElem?_append_right (by rw [←h.len];exact hi), ←h.len] at hv
   exact k.rel _ p v hp hv
 ·rcases List.mem_append.1 hv with hv|hv
  ·exact h.one v hv
  ·exact k.one v hv
theorem Told.single {S:St} {p:PV} {v:Value} (h:VRel S p v) (ho:v.oneCell'=true):Told S [p] [v]:=by
 refine ⟨rfl,fun i q u hq hu=> ?_,fun u hu=> ?_⟩
 ·cases i with
  |zero=>simp at hq hu;subst hq;subst hu;exact h
  |succ i=>simp at hq
 ·simp at hu;subst hu;exact ho
def tP (P:Program):Nat→TypeId→DataW H→List PV
 | n,t,d=>match n,d with
  |_,.lit (.bool b)=>[.sc (.bool b)]
  |_,.lit (.int k z)=>[.sc (.int k z)]
  |_,.lit (.string s)=>[.sc (.string ⟨s.toArray⟩)]
  |_,.nil=>match P.underlying t with
   |some (.slice _)=>[.nil]
   |_=>[.un]
  |n+1,.slice xs _=>match P.underlying t with
   |some (.slice e)=>[.ts (P.cellsOf e) (xs.map (tP P n e))]
   |_=>[.un]
  |n+1,.agg xs=>match P.underlying t with
   |some (.struct fs)=>(List.zipWith (fun (f:Field) x=>tP P n f.type x) fs.toList xs).flatten
   |some (.array _ e)=>(xs.map (tP P n e)).flatten
   |_=>[.un]
  |_,_=>[.un]
def kM (P:Program):List Field→Nat→Nat→Bool
 | [],o,n=>o==n
 |f::fs,o,n=>f.offset==o&&kM P fs (o+P.cellsOf f.type) n
def zg3 (P:Program):Nat→TypeId→Bool
 |n,t=>match n,P.underlying t with
  |_,some .bool=>true
  |_,some (.int _)=>true
  |_,some .string=>true
  |0,some (.slice _)=>true
  |n+1,some (.slice e)=>zg3 P n e
  |n+1,some (.struct fs)=>kM P fs.toList 0 (P.cellsOf t)&&fs.toList.all fun f=>zg3 P n f.type
  |n+1,some (.array k e)=>zg3 P n e&&k*P.cellsOf e==P.cellsOf t
  |_,_=>false
theorem zhV {X:Addr→Prop} (hX: ∀ a, ¬X a) {a:Addr} {v:Value} (h:w.cell? a=some v) (ho:v.oneCell'=true):St.M ⟨[],[],w,X⟩ a v:=by
 refine ⟨h,ho,?_⟩
 unfold World.cell? at h
 split at h
 ·rename_i c t f hb
  split at h
  ·cases h
  ·rename_i hs
   refine ⟨by simpa using hs,(Array.getElem?_eq_some_iff.1 hb).1,hX a,fun r v hr=>by simp at hr⟩
 ·cases h
theorem zg0 (a:Addr) (x y:Nat):(a.add x).add y=a.add (x+y):=by
 unfold Addr.add
 by_cases hx:x=0
 ·subst hx;simp
 ·by_cases hy:y=0
  ·subst hy;simp [hx]
  ·rw [if_neg hx,if_neg hy,if_neg (by omega)];simp [Nat.add_assoc]
theorem dW {S:St} {m n:Nat} {cs:List Value} (IH: ∀ (t:TypeId) (cs:List Value) (d:DataW H) (ps:List MemPlace),zg3 P n t=true→DataW.trod enc P w base spare held m t cs=some (d,ps)→Told S (tP P n t d) cs):
  ∀ (fs:List Field) (o:Nat) (xs:List (DataW H×List MemPlace)),kM P fs o cs.length=true→o≤cs.length→(fs.all fun f=>zg3 P n f.type)=true→xs.length=fs.length→
   (∀ (i:Nat) (f:Field),fs[i]? =some f→DataW.trod enc P w base spare held m f.type ((cs.drop f.offset).take (P.cellsOf f.type))=xs[i]?)→
   Told S (List.zipWith (fun (f:Field) x=>tP P n f.type x) fs (xs.map (·.1))).flatten (cs.drop o):=by
 intro fs
 induction fs with
 |nil=>
  intro o xs hl ho _ _ _
  simp only [kM,beq_iff_eq] at hl
  subst hl
  simp only [List.zipWith_nil_left,List.flatten_nil,List.drop_length]
  exact .nil S
 | cons f fs ih=>
  intro o xs hl ho hall hlen hx
  simp only [kM,Bool.and_eq_true,beq_iff_eq] at hl
  simp only [List.all_cons,Bool.and_eq_true] at hall
  cases xs with
  |nil=>simp at hlen
  | cons x xs=>
   have h0:=hx 0 f rfl
   rw [List.getElem?_cons_zero,hl.1] at h0
   have t0:=IH _ _ x.1 x.2 hall.1 h0
   have hle:o+P.cellsOf f.type≤cs.length:=by
    have: ∀ (fs:List Field) (o n:Nat),kM P fs o n=true→o≤n:=by
     intro fs
     induction fs with
     |nil=>intro o n h;simp only [kM,beq_iff_eq] at h;omega
     |cons f fs ih=>intro o n h;simp only [kM,Bool.and_eq_true] at h;have:=ih _ _ h.2;omega
    exact this _ _ _ hl.2
   have t1:=ih _ xs hl.2 hle hall.2 (by simpa using hlen) fun i g hg=>by simpa using hx (i+1) g (by simpa using hg)
   have e:cs.drop o=(cs.drop o).take (P.cellsOf f.type)++cs.drop (o+P.cellsOf f.type):=by
    rw [←List.drop_drop,List.take_append_drop]
   rw [e,List.map_cons,List.zipWith_cons_cons,List.flatten_cons]
   exact t0.append t1
theorem aX {S:St} {m n:Nat} {e:TypeId} {cs:List Value} (IH: ∀ (t:TypeId) (cs:List Value) (d:DataW H) (ps:List MemPlace),zg3 P n t=true→DataW.trod enc P w base spare held m t cs=some (d,ps)→Told S (tP P n t d) cs) (he:zg3 P n e=true):
  ∀ (xs:List (DataW H×List MemPlace)) (j:Nat),cs.length=(j+xs.length)*P.cellsOf e→
   (∀ i,i<xs.length→DataW.trod enc P w base spare held m e ((cs.drop ((j+i)*P.cellsOf e)).take (P.cellsOf e))=xs[i]?)→
   Told S ((xs.map (·.1)).map (tP P n e)).flatten (cs.drop (j*P.cellsOf e)):=by
 intro xs
 induction xs with
 |nil=>
  intro j hl _
  rw [List.length_nil,Nat.add_zero] at hl
  rw [←hl,List.drop_length]
  exact .nil S
 | cons x xs ih=>
  intro j hl hx
  have h0:=hx 0 (Nat.zero_lt_succ _)
  rw [List.getElem?_cons_zero,Nat.add_zero] at h0
  have t0:=IH _ _ x.1 x.2 he h0
  have t1:=ih (j+1) (by rw [hl,List.length_cons];congr 1;omega) fun i hi=>by
   have:=hx (i+1) (by simpa using hi)
   rw [List.getElem?_cons_succ] at this
   rw [←this,show j+1+i=j+(i+1) by omega]
  have e:cs.drop (j*P.cellsOf e)=(cs.drop (j*P.cellsOf e)).take (P.cellsOf e)++cs.drop ((j+1)*P.cellsOf e):=by
   rw [Nat.add_mul,Nat.one_mul, ←List.drop_drop,List.take_append_drop]
  rw [e,List.map_cons,List.map_cons,List.flatten_cons]
  exact t0.append t1
theorem lN {X:Addr→Prop} (hX: ∀ a, ¬X a): ∀ (m n:Nat) (t:TypeId) (cs:List Value) (d:DataW H) (ps:List MemPlace),zg3 P n t=true→DataW.trod enc P w base spare held m t cs=some (d,ps)→Told ⟨[],[],w,X⟩ (tP P n t d) cs:=by
 intro m
 induction m with
 |zero=>intro n t cs d ps _ h;simp [DataW.trod] at h
 | succ m ih=>
  intro n t cs d ps hok h
  unfold zg3 at hok
  split at hok
  ·rename_i ht
   obtain ⟨b,rfl,hx⟩:=DataW.trod_bool ht h
   simp only [Prod.mk.injEq] at hx
   rw [hx.1];unfold tP
   exact .single (.sc trivial) rfl
  ·rename_i k ht
   obtain ⟨z,rfl,hx,hw⟩:=DataW.trod_int ht h
   simp only [Prod.mk.injEq] at hx
   rw [hx.1];unfold tP
   refine .single (.sc ?_) rfl
   simpa [Lit.wf,tJ] using hw
  ·rename_i ht
   obtain ⟨s,rfl,hx,hw⟩:=DataW.trod_string ht h
   simp only [Prod.mk.injEq] at hx
   rw [hx.1];unfold tP
   refine .single (.sc ?_) rfl
   exact hw
  ·rename_i e ht
   rcases DataW.trod_slice ht h with ⟨rfl,hx⟩|⟨a,len,cap,elems,rest,q,hq,rfl,hx,hb,hl,hm,hlen,hel,_,_⟩
   ·simp only [Prod.mk.injEq] at hx
    rw [hx.1];unfold tP;rw [ht]
    exact .single .nil rfl
   ·simp only [Prod.mk.injEq] at hx
    rw [hx.1];unfold tP
    exact .single .un rfl
  ·rename_i n' e ht
   rcases DataW.trod_slice ht h with ⟨rfl,hx⟩|⟨a,len,cap,elems,rest,q,hq,rfl,hx,hb,hl,hm,hlen,hel,_,_⟩
   ·simp only [Prod.mk.injEq] at hx
    rw [hx.1];unfold tP;dsimp only;rw [ht]
    exact .single .nil rfl
   ·simp only [Prod.mk.injEq] at hx
    cases hq
    rw [hx.1];unfold tP;dsimp only;rw [ht]
    refine .single ?_ rfl
    have each: ∀ i,i<len→ ∃ x cs',elems[i]? =some x∧cs'.length=P.cellsOf e∧Told ⟨[],[],w,X⟩ (tP P n' e x.1) cs'∧ ∀ r,r<P.cellsOf e→w.cell? (a.add (i*P.cellsOf e+r))=cs'[r]? :=by
     intro i hi
     have h1:=hel i hi
     rw [List.getElem?_eq_getElem (by omega)] at h1
     cases hc:w.cells? base (a.add (i*P.cellsOf e)) (P.cellsOf e) with
     |none=>rw [hc] at h1;cases h1
     |some cs'=>
      rw [hc] at h1
      obtain ⟨_,c1,c2⟩:=World.cells?_some hc
      refine ⟨_,cs',List.getElem?_eq_getElem (by omega),c1,ih n' e cs' _ _ hok h1,fun r hr=> ?_⟩
      rw [←c2 r hr,zg0]
    have each2: ∀ j,j<len*P.cellsOf e→ ∃ v,w.cell? (a.add j)=some v∧v.oneCell'=true:=by
     intro j hj
     have hk:0<P.cellsOf e:=by
      rcases Nat.eq_zero_or_pos (P.cellsOf e) with h0|h0
      ·rw [h0] at hj;omega
      ·exact h0
     have hi:j / P.cellsOf e<len:=Nat.div_lt_of_lt_mul (by rw [Nat.mul_comm];exact hj)
     obtain ⟨x,cs',_,c1,c2,c3⟩:=each _ hi
     have hr:=Nat.mod_lt j hk
     have:=c3 _ hr
     rw [show j / P.cellsOf e*P.cellsOf e+j%P.cellsOf e=j by rw [Nat.mul_comm];exact Nat.div_add_mod j _] at this
     rw [List.getElem?_eq_getElem (by omega)] at this
     exact ⟨_,this,c2.one _ (List.getElem_mem _)⟩
    refine .ts (by simp [hlen]) hl hm ?_ a (fun _=>rfl) (fun j=>(w.cell? (a.add j)).getD undef) ?_ ?_
    ·intro i q hq
     rw [List.map_map,List.getElem?_map] at hq
     have hi:i<len:=by
      rcases Nat.lt_or_ge i len with h|h
      ·exact h
      ·rw [List.getElem?_eq_none (by omega)] at hq;cases hq
     obtain ⟨x,cs',c0,c1,c2,c3⟩:=each i hi
     rw [c0] at hq
     cases hq
     rw [←c1];exact c2.len
    ·intro j hj
     obtain ⟨v,h1,h2⟩:=each2 j hj
     simp only [h1,Option.getD_some]
     exact zhV hX h1 h2
    ·intro i q j p hq hp
     rw [List.map_map,List.getElem?_map] at hq
     have hi:i<len:=by
      rcases Nat.lt_or_ge i len with h|h
      ·exact h
      ·rw [List.getElem?_eq_none (by omega)] at hq;cases hq
     obtain ⟨x,cs',c0,c1,c2,c3⟩:=each i hi
     rw [c0] at hq
     cases hq
     have hj:j<P.cellsOf e:=by
      have:=(gsi hp).1
      rw [←c1, ←c2.len];exact this
     have h3:=c3 j hj
     rw [h3]
     rw [List.getElem?_eq_getElem (by omega)] at h3 ⊢
     exact c2.rel j p _ hp (List.getElem?_eq_getElem (by omega))
  ·rename_i n' fs ht
   simp only [Bool.and_eq_true] at hok
   obtain ⟨xs,m',hm,hx,hlen,hxl,hf⟩:=DataW.trod_struct ht h
   cases hm
   simp only [Prod.mk.injEq] at hx
   rw [hx.1];unfold tP;dsimp only;rw [ht]
   have:=dW (cs:=cs) (ih n') fs.toList 0 xs (by rw [hlen];exact hok.1) (Nat.zero_le _) hok.2 (by simpa using hxl) (fun i f hi=>hf i f (by simpa using hi))
   simpa using this
  ·rename_i n' k e ht
   simp only [Bool.and_eq_true,beq_iff_eq] at hok
   obtain ⟨xs,m',hm,hx,hlen,hxl,hf⟩:=DataW.trod_array ht h
   cases hm
   simp only [Prod.mk.injEq] at hx
   rw [hx.1];unfold tP;dsimp only;rw [ht]
   have:=aX (cs:=cs) (ih n') hok.1 xs 0 (by rw [hlen, ←hok.2,Nat.zero_add,hxl]) (fun i hi=>by rw [Nat.zero_add];exact hf i (by omega))
   simpa using this
  ·cases hok
end
end Go.AL
namespace Go.AL
open Go.RowKit
section
variable {H:Type} {enc:TypeId×Value→H} {P:Program} {w:World} {base:Nat} {spare:Nat→Bool} {held:Bool}
def Shp (P:Program):Nat→TypeId→List PV→Prop
 |n,t,qs=>match n,P.underlying t with
  |_,some .bool=> ∃ b,qs=[.sc (.bool b)]
  |_,some (.int k)=> ∃ z,qs=[.sc (.int k z)]∧k.min≤z∧z≤k.max
  |_,some .string=> ∃ s,qs=[.sc (.string s)]∧s.size≤maxLen∧s.size≤reachBytes
  |0,some (.slice _)=> ∃ p,qs=[p]
  |n+1,some (.slice e)=>qs=[.nil]∨ ∃ els,qs=[.ts (P.cellsOf e) els]∧els.length*P.bytesOf e≤reachBytes∧ ∀ x∈els,Shp P n e x
  |n+1,some (.struct fs)=> ∃ parts:List (List PV),parts.length=fs.size∧qs=parts.flatten∧ ∀ (i:Nat) (f:Field) (p:List PV),fs[i]? =some f→parts[i]? =some p→Shp P n f.type p
  |n+1,some (.array k e)=> ∃ parts:List (List PV),parts.length=k∧qs=parts.flatten∧ ∀ p∈parts,Shp P n e p
  |_,_=>False
def Light (P:Program) (t:TypeId) (d:DataW H):Prop:= ∀ k∈d.weights P t,k≤reachBytes
theorem gX {e:TypeId}: ∀ {xs:List (DataW H)},(∀ k∈DataW.weightsAll P e xs,k≤reachBytes)→ ∀ x∈xs,Light P e x:=by
 intro xs
 induction xs with
 |nil=>intro _ x hx;cases hx
 |cons y ys ih=>
  intro h x hx
  simp only [DataW.weightsAll,List.mem_append] at h
  rcases List.mem_cons.1 hx with rfl|hx
  ·exact fun k hk=>h k (.inl hk)
  ·exact ih (fun k hk=>h k (.inr hk)) x hx
theorem aN: ∀ {ts:List TypeId} {xs:List (DataW H)},(∀ k∈DataW.weightsEach P ts xs,k≤reachBytes)→ ∀ (i:Nat) (t:TypeId) (x:DataW H),ts[i]? =some t→xs[i]? =some x→Light P t x:=by
 intro ts
 induction ts with
 |nil=>intro xs _ i t x ht;simp at ht
 | cons u us ih=>
  intro xs h i t x ht hx
  cases xs with
  |nil=>simp at hx
  | cons y ys=>
   simp only [DataW.weightsEach,List.mem_append] at h
   cases i with
   |zero=>
    simp only [List.getElem?_cons_zero,Option.some.injEq] at ht hx
    subst ht;subst hx
    exact fun k hk=>h k (.inl hk)
   |succ i=>exact ih (fun k hk=>h k (.inr hk)) i t x (by simpa using ht) (by simpa using hx)
theorem cH: ∀ (m n:Nat) (t:TypeId) (cs:List Value) (d:DataW H) (ps:List MemPlace),zg3 P n t=true→Light P t d→DataW.trod enc P w base spare held m t cs=some (d,ps)→Shp P n t (tP P n t d):=by
 intro m
 induction m with
 |zero=>intro n t cs d ps _ _ h;simp [DataW.trod] at h
 | succ m ih=>
  intro n t cs d ps hok hlight h
  unfold zg3 at hok
  split at hok
  ·rename_i ht
   obtain ⟨b,rfl,hx⟩:=DataW.trod_bool ht h
   simp only [Prod.mk.injEq] at hx
   rw [hx.1];unfold tP Shp;rw [ht]
   exact ⟨b,rfl⟩
  ·rename_i k ht
   obtain ⟨z,rfl,hx,hw⟩:=DataW.trod_int ht h
   simp only [Prod.mk.injEq] at hx
   rw [hx.1];unfold tP Shp;rw [ht]
   exact ⟨z,rfl,by simpa [Lit.wf] using hw⟩
  ·rename_i ht
   obtain ⟨s,rfl,hx,hw⟩:=DataW.trod_string ht h
   simp only [Prod.mk.injEq] at hx
   rw [hx.1];unfold tP Shp;rw [ht]
   refine ⟨_,rfl,hw,?_⟩
   rw [hx.1] at hlight
   have hk:=hlight s.data.toList.length (by unfold DataW.weights;exact List.mem_singleton.2 rfl)
   have he:(⟨s.data.toList.toArray⟩:ByteArray).size=s.data.toList.length:=List.size_toArray ..
   exact Nat.le_trans (Nat.le_of_eq he) hk
  ·rename_i e ht
   rcases DataW.trod_slice ht h with ⟨rfl,hx⟩|⟨a,len,cap,elems,rest,q,hq,rfl,hx,hb,hl,hm,hlen,hel,_,_⟩
   ·simp only [Prod.mk.injEq] at hx
    rw [hx.1];unfold tP Shp;rw [ht]
    exact ⟨_,rfl⟩
   ·simp only [Prod.mk.injEq] at hx
    rw [hx.1];unfold tP Shp;rw [ht]
    exact ⟨_,rfl⟩
  ·rename_i n' e ht
   rcases DataW.trod_slice ht h with ⟨rfl,hx⟩|⟨a,len,cap,elems,rest,q,hq,rfl,hx,hb,hl,hm,hlen,hel,_,_⟩
   ·simp only [Prod.mk.injEq] at hx
    rw [hx.1];unfold tP Shp;dsimp only;rw [ht]
    exact .inl rfl
   ·simp only [Prod.mk.injEq] at hx
    cases hq
    rw [hx.1];unfold tP Shp;dsimp only;rw [ht]
    rw [hx.1] at hlight
    unfold Light DataW.weights at hlight
    rw [ht] at hlight
    have hl0:=hlight _ (List.mem_cons_self ..)
    refine .inr ⟨_,rfl,?_,fun x hx=> ?_⟩
    ·refine Nat.le_trans (Nat.mul_le_mul_right _ ?_) hl0
     simp
    rw [List.map_map] at hx
    obtain ⟨y,hy,rfl⟩:=List.mem_map.1 hx
    obtain ⟨i,hi,rfl⟩:=List.getElem_of_mem hy
    have h1:=hel i (by omega)
    rw [List.getElem?_eq_getElem hi] at h1
    obtain ⟨cs',_,h2⟩:=Option.bind_eq_some_iff.1 h1
    exact ih n' e cs' _ _ hok (gX (fun k hk=>hlight k (List.mem_cons_of_mem _ (List.mem_append_left _ hk))) _ (List.mem_map_of_mem (List.getElem_mem hi))) h2
  ·rename_i n' fs ht
   simp only [Bool.and_eq_true] at hok
   obtain ⟨xs,m',hm,hx,hlen,hxl,hf⟩:=DataW.trod_struct ht h
   cases hm
   simp only [Prod.mk.injEq] at hx
   rw [hx.1];unfold tP Shp;dsimp only;rw [ht]
   refine ⟨_,?_,rfl,fun i f p hi hp=> ?_⟩
   ·simp [hxl]
   ·rw [List.getElem?_zipWith,Array.getElem?_toList,hi,List.getElem?_map] at hp
    cases hxi:xs[i]? with
    |none=>rw [hxi] at hp;cases hp
    | some y=>
     rw [hxi] at hp
     cases hp
     have h1:=hf i f hi
     rw [hxi] at h1
     refine ih n' f.type _ _ y.2 ?_ ?_ h1
     rotate_left
     ·refine aN (ts:=fs.toList.map (·.type)) (xs:=xs.map (·.1)) ?_ i f.type y.1 (by rw [List.getElem?_map,Array.getElem?_toList,hi];rfl) (by rw [List.getElem?_map,hxi];rfl)
      rw [hx.1] at hlight;unfold Light DataW.weights at hlight;rw [ht] at hlight;exact hlight
     have:=hok.2
     rw [List.all_eq_true] at this
     exact this f (by rw [Array.mem_toList_iff];exact Array.mem_of_getElem? hi)
  ·rename_i n' k e ht
   simp only [Bool.and_eq_true,beq_iff_eq] at hok
   obtain ⟨xs,m',hm,hx,hlen,hxl,hf⟩:=DataW.trod_array ht h
   cases hm
   simp only [Prod.mk.injEq] at hx
   rw [hx.1];unfold tP Shp;dsimp only;rw [ht]
   refine ⟨_,by simp [hxl],rfl,fun p hp=> ?_⟩
   rw [List.map_map] at hp
   obtain ⟨y,hy,rfl⟩:=List.mem_map.1 hp
   obtain ⟨i,hi,rfl⟩:=List.getElem_of_mem hy
   have h1:=hf i (by omega)
   rw [List.getElem?_eq_getElem hi] at h1
   rw [hx.1] at hlight;unfold Light DataW.weights at hlight;rw [ht] at hlight
   exact ih n' e _ _ _ hok.1 (gX hlight _ (List.mem_map_of_mem (List.getElem_mem hi))) h1
  ·cases hok
theorem zkF {X:Addr→Prop} (hX: ∀ a, ¬X a) {n:Nat} {t:TypeId} {fs:Array Field} {v:Value} {d:DataW H} {ps:List MemPlace} {b0:Nat} (hs:P.underlying t=some (.struct fs)) (hok:zg3 P n t=true)
  (hw:Light P t d) (hv:Value.okWide P w .any b0 t v) (h:DataW.Trod enc P w base spare held t v d ps): ∃ vs:Array Value,v= .agg vs∧Told ⟨[],[],w,X⟩ (tP P n t d) vs.toList∧Shp P n t (tP P n t d):=by
 obtain ⟨cs,rfl,hsz⟩:=WideShapes.okWide_struct hs hv
 obtain ⟨fuel,hf⟩:=h
 exact ⟨cs,rfl,lN hX fuel n t _ d ps hok hf,cH fuel n t _ d ps hok hw hf⟩
theorem Told.agg {S:St} {qs rs:List PV} {vs:Array Value} (h:Told S qs vs.toList) (hl:rs.length=qs.length) (hr: ∀ (i:Nat) (p q:PV),qs[i]? =some p→rs[i]? =some q→PLe p q):VRel S (.agg rs) (.agg vs):=by
 have hlen:vs.size=rs.length:=by rw [hl,h.len];simp
 refine .agg hlen (fun i v hv=>h.one v (by rw [Array.mem_toList_iff];exact Array.mem_of_getElem? hv)) fun i q v hq hv=> ?_
 have hi:i<qs.length:=by rw [←hl];exact (gsi hq).1
 exact hr i _ q (List.getElem?_eq_getElem hi) hq S v (h.rel i _ v (List.getElem?_eq_getElem hi) (by rw [Array.getElem?_toList];exact hv))
theorem eP {X:Addr→Prop} (hX: ∀ a, ¬X a) {name:String} {g n m:Nat} {t:TypeId} {cs:Array Value} {d:DataW H} {ps:List MemPlace} {qs:List PV} (hok:zg3 P n t=true) (hg:P.globalNamed name=some g) (hv:w.var? P name=some cs)
  (hd:DataW.trod enc P w base spare held m t cs.toList=some (d,ps)) (hq:tP P n t d=qs):VRel ⟨[],[],w,X⟩ (.tp qs) (.pointer (some ⟨g,0,none⟩)):=by
 subst hq
 have ht:=lN (X:=X) hX m n t _ d ps hok hd
 have hc: ∀ i,w.cell? ((⟨g,0,none⟩:Addr).add i)=cs[i]? :=by
  intro i
  rw [←World.var?_cell hg hv i]
  unfold Addr.add
  split
  ·rename_i h;subst h;rfl
  ·simp
 refine .tp (fun i=>(w.cell? ((⟨g,0,none⟩:Addr).add i)).getD undef) (fun j hj=> ?_) fun j p hp=> ?_
 ·have hj':j<cs.size:=by have:=ht.len;simp at this;omega
  have h1:=hc j
  rw [Array.getElem?_eq_getElem hj'] at h1
  simp only [h1,Option.getD_some]
  exact zhV hX h1 (ht.one _ (by rw [Array.mem_toList_iff];exact Array.getElem_mem hj'))
 ·have hj:=(gsi hp).1
  have hj':j<cs.size:=by have:=ht.len;simp at this;omega
  have h1:=hc j
  rw [Array.getElem?_eq_getElem hj'] at h1
  rw [h1]
  exact ht.rel j p _ hp (by rw [Array.getElem?_toList,Array.getElem?_eq_getElem hj'];rfl)
theorem zdY {X:Addr→Prop} {φ':List Value} {h':Heap} {w':World} (e:Ext ⟨[],[],w,X⟩ ⟨φ',h',w',X⟩):Below w.heap.size w w':=
 ⟨e.os,e.tape.tape,e.output,e.size,fun k hk=>(e.unt k hk (by rintro ⟨r,v,hr,_⟩;simp at hr)).2⟩
end
end Go.AL
