/-
  The order of tuples.
-/
import Derived.Test.YtfjkncfjclifoaaGreatDoorZ33
import Derived.Sort.Statements
import Derived.Shelf.SlSortCmp.Insertion
set_option linter.unusedSimpArgs false
set_option linter.unusedVariables false
set_option maxRecDepth 100000
set_option maxHeartbeats 4000000
namespace Go.AL
open Go.Proofs Go.Proofs.Tryz
@[go_sem] def UCel2f88.pl:Nat→DPlan
 |13=>⟨[yA,yA,yA,yB,yA,yA,yA,yA,yB,yA,yA,yA,yC,yA,yC,yC,yA,yC],yM,0⟩
 |_=>⟨[],[],0⟩
theorem tmL:kC prog 173=some (9,.string,177):=by kernel_rfl
theorem zjX (r o:Nat):sE (α:=Prop) prog 177 (.ptr r o) (.sc (.pointer none))=some (false,True):=by kernel_rfl
theorem zjY:sE (α:=Prop) prog 177 (.sc (.pointer none)) (.sc (.pointer none))=some (true,True):=by kernel_rfl
theorem zaS:nI (.pointer none)= .sc (.pointer none):=rfl
theorem ziL:(prog.info? 177).bind (·.zero)=some (.pointer none):=by kernel_rfl
theorem tmA:kC prog 174=some (9,.string,73):=by kernel_rfl
theorem ziA:(prog.info? 73).bind (·.zero)=some (.slice none 0 0):=by kernel_rfl
structure En where
 k:BA
 r:Nat
 a:List Vl
abbrev ma (es:List En):NM:=es.map fun e=>(Value.string e.k,PV.ptr e.r 0)
abbrev mb (es:List En):NM:=es.map fun e=>(Value.string e.k,pH e.a)
def En.ok (e:En):Prop:=e.a.length≤1048576∧(∀ a∈e.a,a.s.size≤16)∧e.k=zk0 e.a
def LineAt (h:Heap) (r:Nat):Prop:= ∃ ms:List Int,ms.length=64∧h[r]? =some (.var 231 (ms.map i64))
structure TB (l:La) (tb m1 m2:Nat) (es:List En) (h:Heap):Prop where
 t:h[tb]? =some (.var 176 [yQ l.name,rR l.elems,.ts 2 (l.covers.map fun c=>[i64 c.1,i64 c.2]),i64 l.at',.mp m1,.mp m2])
 a:h[m1]? =some (.map (ma es))
 b:h[m2]? =some (.map (mb es))
 n:m1≠m2
 l: ∀ e∈es,LineAt h e.r
 k: ∀ e∈es,e.ok
 d:(es.map (·.k)).Nodup
def Kp (h h':Heap):Prop:= ∀ (r:Nat) (b:Blk),h[r]? =some b→(∀ cs,b≠ .var 231 cs)→(∀ es,b≠ .map es)→h'[r]? =some b
theorem Kp.refl (h:Heap):Kp h h:=fun _ _ h _ _=>h
theorem Kp.trans {h h1 h2:Heap} (a:Kp h h1) (b:Kp h1 h2):Kp h h2:=fun r c hc n1 n2=>b r c (a r c hc n1 n2) n1 n2
theorem dJ (es:List En):(ma es).all (fun x=>pF .string x.1)=true:=by
 rw [List.all_eq_true];intro x hx;obtain ⟨e,_,rfl⟩:=List.mem_map.1 hx;rfl
theorem zaT (es:List En):(mb es).all (fun x=>pF .string x.1)=true:=by
 rw [List.all_eq_true];intro x hx;obtain ⟨e,_,rfl⟩:=List.mem_map.1 hx;rfl
theorem gV {s:BA}: ∀ {es:NM} {j:Nat},vV (.string s) es j=none→ ∀ x∈es,x.1≠ .string s
 | [],_,_,x,hx=>by cases hx
 | y::es,j,h,x,hx=>by
  unfold vV at h
  split at h
  ·cases h
  ·rename_i hv
   rcases List.mem_cons.1 hx with rfl|hx
   ·intro e;rw [e] at hv;exact hv (by simp [sY])
   ·exact gV h x hx
theorem cT {s:BA} (f g:En→PV): ∀ {es:List En} {j:Nat},vV (.string s) (es.map fun e=>(Value.string e.k,f e)) j=none→vV (.string s) (es.map fun e=>(Value.string e.k,g e)) j=none
 | [],_,_=>rfl
 | e::es,j,h=>by
  simp only [List.map_cons,vV] at h ⊢
  split at h
  ·cases h
  ·rename_i hv
   rw [if_neg hv]
   exact cT f g h
theorem zfR {h:Heap} {r:Nat} {es:List En} {s:BA} {j:Nat} {p:PV} (hr:h[r]? =some (.map (ma es))) (hm:vV (.string s) (ma es) 0=some (j,p)):xQ (α:=Prop) prog h 173 false (.mp r) (yQ s)=some (p,True):=by
 unfold xQ
 rw [tmL]
 simp only [oS,hr,ziL,zm1,dJ,hm,Bool.and_self,if_true,vL,Bool.false_eq_true,if_false]
theorem zfS {h:Heap} {r:Nat} {es:List En} {s:BA} (hr:h[r]? =some (.map (ma es))) (hm:vV (.string s) (ma es) 0=none):xQ (α:=Prop) prog h 173 false (.mp r) (yQ s)=some (.sc (.pointer none),True):=by
 unfold xQ
 rw [tmL]
 simp only [oS,hr,ziL,zm1,dJ,hm,Bool.and_self,if_true,vL,Bool.false_eq_true,if_false,zaS]
theorem zfT {h:Heap} {r:Nat} {es:List En} {s:BA} {j:Nat} {p:PV} (hr:h[r]? =some (.map (mb es))) (hm:vV (.string s) (mb es) 0=some (j,p)):xQ (α:=Prop) prog h 174 false (.mp r) (yQ s)=some (p,True):=by
 unfold xQ
 rw [tmA]
 simp only [oS,hr,ziA,zm1,zaT,hm,Bool.and_self,if_true,vL,Bool.false_eq_true,if_false]
theorem buL:kB prog 231 []=some (.agg (List.replicate 64 (i64 0))):=by kernel_rfl
attribute [-go_sem] kB
open UCel2f88 in
theorem zbQ (l:La) (hl:l.ok) (tb m1 m2:Nat) (es:List En) (h:Heap) (hT:TB l tb m1 m2 es h) (hz:es.length≤70368744177664) (args:List Vl) (ha:args.length≤1048576) (hs: ∀ a∈args,a.s.size≤16):
  ECall prog G0 88 [.ptr tb 0,pH args] h fun p h'=> ∃ (r:Nat) (es':List En),p= .ptr r 0∧TB l tb m1 m2 es' h'∧LineAt h' r∧Kp h h'∧es'.length≤es.length+1:=by
 refine pv func88 56 false (by kernel_rfl) rfl rfl ?_
 refine g2 ?_
 have hk:=zlY args ha hs
 obtain ⟨s,hsk⟩: ∃ s,s=zk0 args:=⟨_,rfl⟩
 rw [←hsk] at hk
 have ht:=hT.t
 have hma:=hT.a
 refine gf @ht ?_
 (refine Go.AL.g1f @ht ?_;refine zC (hk.call zK (by simp) _) ?_;intro p2 h2 hr2;refine Go.AL.g2 ?_)
 obtain ⟨rfl,e2⟩:=hr2
 replace e2:=e2.symm
 subst e2
 cases hm:vV (.string s) (ma es) 0 with
 |some x=>
  obtain ⟨j,p⟩:=x
  have hlk:=zfR hma hm
  obtain ⟨y,hy,rfl⟩:=mQ hm
  obtain ⟨e,he,rfl⟩:=List.mem_map.1 hy
  dsimp only at hlk
  refine gf (a3 @ht @hlk @zjX) ?_
  exact ⟨e.r,es,rfl,hT,hT.l e he,Kp.refl h,by omega⟩
 | none=>
  have hlk:=zfS hma hm
  have htl:tb<h.length:=(gsi ht).1
  have htA: ∀ b:Blk,(h++[b])[tb]? =some (.var 176 [yQ l.name,rR l.elems,.ts 2 (l.covers.map fun c=>[i64 c.1,i64 c.2]),i64 l.at',.mp m1,.mp m2]):=fun b=>by rw [List.getElem?_append_left htl];exact ht
  refine gf (a5 @ht @hlk @htA @zjY @buL) ?_
  (refine Go.AL.g1f (a3 @ht @hlk @htA) ?_;refine zC ((qJ l hl).call zK (by simp [zJ]) _) ?_;intro p2 h2 hr2;refine Go.AL.g2 ?_)
  obtain ⟨⟨n,rfl, -⟩,e2⟩:=hr2
  replace e2:=e2.symm
  subst e2
  have hlA:=(gV hm)
  have hm':vV (.string s) (mb es) 0=none:=cT (fun e=> .ptr e.r 0) (fun e=>pH e.a) hm
  have h0l:(0≤(es.length:Int))=True:=by simp
  have hdl:decide (es.length≤140737488355328)=true:=by rw [decide_eq_true_eq];omega
  have g1: ∀ (f:En→Value×PV) (x:Value×PV),(es.map f++[x])[es.length]? =some x:=fun f x=>by
   have:=List.getElem?_concat_length (l:=es.map f) (a:=x);rwa [List.length_map] at this
  have g2: ∀ (f:En→Value×PV) (x y:Value×PV),(es.map f++[x]).set es.length y=es.map f++[y]:=fun f x y=>by
   have:es.length=(es.map f).length:=by simp
   rw [this,List.set_append_right _ _ (Nat.le_refl _)];simp
  have LF: ∀ (ms:List Int) (H1:Heap),ms.length=64→h++[.var 231 (ms.map i64)]=H1→LineAt H1 h.length∧H1[tb]? =some (.var 176 [yQ l.name,rR l.elems,.ts 2 (l.covers.map fun c=>[i64 c.1,i64 c.2]),i64 l.at',.mp m1,.mp m2])∧H1[m1]? =some (.map (ma es))∧H1[m2]? =some (.map (mb es))∧H1.length=h.length+1∧ ∀ (r:Nat) (b:Blk),h[r]? =some b→H1[r]? =some b:=by
   intro ms H1 hms hH
   have hold: ∀ (r:Nat) (b:Blk),h[r]? =some b→H1[r]? =some b:=fun r b hr=>by rw [←hH,List.getElem?_append_left (gsi hr).1];exact hr
   exact ⟨⟨ms,hms,by rw [←hH];simp⟩,hold _ _ ht,hold _ _ hma,hold _ _ hT.b,by rw [←hH];simp,hold⟩
  have fin: ∀ H1:Heap,LineAt H1 h.length→H1[tb]? =some (.var 176 [yQ l.name,rR l.elems,.ts 2 (l.covers.map fun c=>[i64 c.1,i64 c.2]),i64 l.at',.mp m1,.mp m2])→H1[m1]? =some (.map (ma es))→H1[m2]? =some (.map (mb es))→(∀ (r:Nat) (b:Blk),h[r]? =some b→H1[r]? =some b)→
    TB l tb m1 m2 (es++[⟨s,h.length,args⟩]) ((H1.set m1 (.map (ma es++[(Value.string s,PV.ptr h.length 0)]))).set m2 (.map (mb es++[(Value.string s,pH args)])))∧LineAt ((H1.set m1 (.map (ma es++[(Value.string s,PV.ptr h.length 0)]))).set m2 (.map (mb es++[(Value.string s,pH args)]))) h.length∧Kp h ((H1.set m1 (.map (ma es++[(Value.string s,PV.ptr h.length 0)]))).set m2 (.map (mb es++[(Value.string s,pH args)]))):=by
   intro H1 hLA ht1 hma1 hmb1 hold
   generalize hX:Blk.map (ma es++[(Value.string s,PV.ptr h.length 0)])=X
   generalize hY:Blk.map (mb es++[(Value.string s,pH args)])=Y
   have keep: ∀ (r:Nat) (t:Nat) (cs:List PV),H1[r]? =some (.var t cs)→((H1.set m1 X).set m2 Y)[r]? =some (.var t cs):=fun r t cs hr=>by
    have n1:m1≠r:=fun e=>by subst e;rw [hma1] at hr;cases hr
    have n2:m2≠r:=fun e=>by subst e;rw [hmb1] at hr;cases hr
    rw [List.getElem?_set_ne n2,List.getElem?_set_ne n1];exact hr
   have lk: ∀ r,LineAt H1 r→LineAt ((H1.set m1 X).set m2 Y) r:=fun r ⟨ms,a,b⟩=>⟨ms,a,keep _ _ _ b⟩
   refine ⟨⟨keep _ _ _ ht1,?_,?_,hT.n,fun e he=> ?_,fun e he=> ?_,?_⟩,lk _ hLA,fun r b hr n1 n2=> ?_⟩
   ·rw [List.getElem?_set_ne (Ne.symm hT.n),List.getElem?_set_self (gsi hma1).1, ←hX,ma,ma,List.map_append];rfl
   ·rw [List.getElem?_set_self (by rw [List.length_set];exact (gsi hmb1).1), ←hY,mb,mb,List.map_append];rfl
   ·rcases List.mem_append.1 he with he|he
    ·obtain ⟨ms,a,b⟩:=hT.l e he
     exact lk _ ⟨ms,a,hold _ _ b⟩
    ·rw [List.mem_singleton] at he;subst he;exact lk _ hLA
   ·rcases List.mem_append.1 he with he|he
    ·exact hT.k e he
    ·rw [List.mem_singleton] at he;subst he;exact ⟨ha,hs,hsk⟩
   ·rw [List.map_append,List.nodup_append]
    refine ⟨hT.d,by simp,fun a ha b hb=> ?_⟩
    simp at hb
    subst hb
    intro e
    subst e
    obtain ⟨x,hx,rfl⟩:=List.mem_map.1 ha
    exact hlA _ (List.mem_map_of_mem (f:=fun e:En=>(Value.string e.k,PV.ptr e.r 0)) hx) rfl
   ·have n1':m1≠r:=fun e=>by subst e;rw [hma] at hr;cases hr;exact n2 _ rfl
    have n2':m2≠r:=fun e=>by subst e;rw [hT.b] at hr;cases hr;exact n2 _ rfl
    rw [List.getElem?_set_ne n2',List.getElem?_set_ne n1'];exact hold r b hr
  by_cases hn0:n=0
  ·have hb:(n !=0)=false:=by simp [hn0]
   generalize hH:h++[Blk.var 231 _]=H1 at*
   obtain ⟨hLA,ht1,hma1,hmb1,hnew,hold⟩:=LF (List.replicate 64 0) H1 rfl hH
   have f2: ∀ b:Blk,(H1.set m1 b)[m1]? =some b:=fun b=>List.getElem?_set_self (gsi hma1).1
   have f3: ∀ b:Blk,(H1.set m1 b)[m2]? =some (.map (mb es)):=fun b=>by rw [List.getElem?_set_ne hT.n];exact hmb1
   have f4: ∀ b c:Blk,((H1.set m1 b).set m2 c)[m2]? =some c:=fun b c=>List.getElem?_set_self (gsi (f3 b)).1
   (repeat (first|refine gz ?_|(refine gn ?_;intro zs zh;(try simp only [go_sem,hb,ht1,hma1,tmL,ziL,tmA,ziA,dJ,zaT,zm1,hm,hm',hdl,f2,f3,f4,g1,g2,h0l,List.set_set,List.length_map,Bool.and_self,zaS] at zh);subst zh;refine gv ?_)|refine yD UCel2f88.pl ?_))
   obtain ⟨a1,a2,a3⟩:=fin H1 hLA ht1 hma1 hmb1 hold
   exact ⟨_,_,rfl,a1,a2,a3,by simp⟩
  ·have hb:(n !=0)=true:=by simp [hn0]
   refine gf (a2 @hb @htA) ?_
   refine zO 64 (K9 (.d::K9 (K9 (.k:: .k:: .v::D4 (D4 (K9 (K4 (K4 ([]))))))))) (own:=false) (fun i (_:List Int)=>[i64 i]) (fun s=>h++[.var 231 (s.map i64)]) (fun _ s=>s.length=64) (List.replicate 64 0) rfl rfl rfl (by omega) ?_ ?_
   ·rintro ms hms
    refine gm ?_
    have h64:(((64:Nat):Int)<64)=False:=by simp
    refine gf @h64 ?_
    obtain ⟨H1,hH⟩: ∃ H1,h++[Blk.var 231 (ms.map i64)]=H1:=⟨_,rfl⟩
    rw [hH]
    obtain ⟨hLA,ht1,hma1,hmb1,hnew,hold⟩:=LF ms H1 hms hH
    have f2: ∀ b:Blk,(H1.set m1 b)[m1]? =some b:=fun b=>List.getElem?_set_self (gsi hma1).1
    have f3: ∀ b:Blk,(H1.set m1 b)[m2]? =some (.map (mb es)):=fun b=>by rw [List.getElem?_set_ne hT.n];exact hmb1
    have f4: ∀ b c:Blk,((H1.set m1 b).set m2 c)[m2]? =some c:=fun b c=>List.getElem?_set_self (gsi (f3 b)).1
    (repeat (first|refine gz ?_|(refine gn ?_;intro zs zh;(try simp only [go_sem,h64,ht1,hma1,tmL,ziL,tmA,ziA,dJ,zaT,zm1,hm,hm',hdl,f2,f3,f4,g1,g2,h0l,List.set_set,List.length_map,Bool.and_self,zaS] at zh);subst zh;refine gv ?_)|refine yD UCel2f88.pl ?_))
    obtain ⟨a1,a2,a3⟩:=fin H1 hLA ht1 hma1 hmb1 hold
    exact ⟨_,_,rfl,a1,a2,a3,by simp⟩
   ·rintro i ms hi hw hms
    refine gm ?_
    have h64:((i:Int)<64)=True:=by simp;omega
    have hi64:i<ms.length:=by omega
    have hsp: ∀ v,(ms.map i64).take i++i64 v::(ms.map i64).drop (i+1)=(ms.set i v).map i64:=fun v=>wY i64 ms i v hi64
    refine gf (a8 @h64 @hi @hw @zB @zA @zD @hms @hsp) ?_
    exact ⟨ms.set i n,by simpa using hms,rfl,rfl,rfl⟩
end Go.AL
namespace Go.AL
open Go.Proofs Go.Proofs.Tryz
@[go_sem] def UCel3f89.pp:Nat→DPlan
 |4=>⟨[yB,yA,yB,yA,yA,yB,yB,yA,yA,yA,yB,yB,uX,yA,yA,yC],xE,0⟩
 |_=>⟨[],[],0⟩
@[go_sem] def UCel3f89.pl:Nat→DPlan
 |4=>⟨[⟨7,0,[1006]⟩,yA,yB,yA,yA,yB,yB,yA,yA,yA,yB,yB,⟨6,0,[1006]⟩,yA,yA,yC],xE,0⟩
 |_=>⟨[],[],0⟩
theorem jT (l:La) (tb m1 m2:Nat) (es:List En) (h:Heap) (hT:TB l tb m1 m2 es h) (n:Int):
  ECall prog G0 132 [.ptr tb 0,i64 n] h fun p h'=>h'=h∧ ∃ b:Bool,p=bo b∧(b=true→0≤n∧n<l.elems.length):=by
 refine pv func132 17 false (by kernel_rfl) rfl rfl ?_
 refine g2 ?_
 have ht:=hT.t
 by_cases h0:0≤n
 ·have e0:decide (0≤n)=true:=by simp [h0]
  refine gf (a2 @ht @e0) ?_
  exact ⟨rfl,_,rfl,fun h=>⟨h0,by simpa using h⟩⟩
 ·have e0:decide (0≤n)=false:=by simp [h0]
  refine gf (a2 @ht @e0) ?_
  exact ⟨rfl,_,rfl,by simp⟩
theorem jQ (a b:Int) (h:Heap):ECall prog G0 133 [i64 a,i64 b] h fun p h'=>p= .fn (.func 176) [] [.ptr h.length 0,.ptr (h.length+1) 0]∧h'=h++[.var 3 [i64 a],.var 3 [i64 b]]:=by
 refine pv func133 6 false (by kernel_rfl) rfl rfl ?_
 refine g2 ?_
 refine ge ?_
 exact ⟨rfl,rfl⟩
theorem zbN (a b:Int) (c1 c2 r:Nat) (J:Heap→Prop) (h0:Heap) (hJ:J h0) (h1:h0[c1]? =some (.var 3 [i64 a])) (h2: ∀ h,J h→h[c2]? =some (.var 3 [i64 b]))
  (hy: ∀ (k:Nat) h,k<64→J h→EYl prog G0 r [i64 k] h fun p h'=>p=bo true∧J h'):ECall prog G0 176 [.yl r,.ptr c1 0,.ptr c2 0] h0 fun _ h'=>J h':=by
 refine pv func176 17 false (by kernel_rfl) rfl rfl ?_
 refine g2 ?_
 obtain ⟨k0,hk0⟩: ∃ k0:Nat,(if a<0 then (0:Int) else a)=k0:=by
  by_cases h:a<0
  ·exact ⟨0,by rw [if_pos h];rfl⟩
  ·exact ⟨a.toNat,by rw [if_neg h];omega⟩
 refine gf (a2 @h1 @hk0) ?_
 refine zW (K4 (.v:: .k:: .k::D9 (.d::[]))) (fun (s:Nat×Heap)=>[i64 s.1]) (fun s=>s.2) (fun s=>J s.2) (fun s=>64-s.1) (own:=false) (k0,h0) rfl rfl hJ ?_
 rintro ⟨k,h⟩ hJh t ht
 dsimp only at*
 simp only [zY] at ht;subst ht
 have hb:=h2 h hJh
 by_cases hk:(k:Int)<(if (64:Int)<b then 64 else b)
 ·have hk':decide ((k:Int)<(if (64:Int)<b then 64 else b))=true:=by simpa using hk
  have hk64:k<64:=by split at hk<;>omega
  have hwr:IntKind.i64.wrap ((k:Int)+1)=((k+1:Nat):Int):=by rw [xM (by omega) (by omega)];omega
  refine gf (a2 @hb @hk') ?_
  (refine wU ?_;intro sr hsr;simp only [go_sem] at hsr;subst hsr;refine rC rfl (by simp only [dC,go_sem]<;>rfl) (hy k h hk64 hJh) ?_;intro p2 h2 hr2 ts2 hts;simp only [go_sem] at hts;subst hts)
  obtain ⟨rfl,hJ2⟩:=hr2
  refine gf @hwr ?_
  exact ⟨(k+1,_),hJ2,by dsimp only;omega,rfl,rfl,rfl⟩
 ·have hk':decide ((k:Int)<(if (64:Int)<b then 64 else b))=false:=by simpa using hk
  refine gf (a2 @hb @hk') ?_
  exact hJh
theorem zfX (l:La) (hl:l.ok) (a b:Int):EPure prog G0 134 [.agg [yQ l.name,rR l.elems,.ts 2 (l.covers.map fun c=>[i64 c.1,i64 c.2]),i64 l.at'],i64 a,i64 b] fun p=> ∃ n,p=i64 n:=by
 obtain ⟨p,⟨n,e,_⟩,k⟩:=zjE l hl a b
 exact ⟨p,⟨n,e⟩,k⟩
open UCel3f89 in
theorem zfI (l_:La) (hl:l_.ok) (tb m1 m2:Nat) (es:List En) (h:Heap) (hT:TB l_ tb m1 m2 es h) (r:Nat) (hr:LineAt h r) (a b e:Int):
  ECall prog G0 89 [.ptr tb 0,.ptr r 0,i64 a,i64 b,i64 e] h fun _ h'=> ∃ (ms:List Int) (B:Heap),ms.length=64∧h'=h.set r (.var 231 (ms.map i64))++B:=by
 refine pv func89 34 false (by kernel_rfl) rfl rfl ?_
 refine g2 ?_
 obtain ⟨ms0,hms0,hr0⟩:=hr
 have hrl:r<h.length:=(gsi hr0).1
 have hself:h=h.set r (.var 231 (ms0.map i64)):=by
  obtain ⟨h1,h2⟩:=gsi hr0
  rw [←h2,List.set_getElem_self]
 refine gf (a4 @rU @sB @qK @rN) ?_
 (refine g1f (a4 @rU @sB @qK @rN) ?_;refine zC (jT l_ tb m1 m2 es _ ⟨by rw [List.getElem?_append_left (gsi hT.t).1];exact hT.t,by rw [List.getElem?_append_left (gsi hT.a).1];exact hT.a,by rw [List.getElem?_append_left (gsi hT.b).1];exact hT.b,hT.n,fun x hx=>by obtain ⟨ms,q1,q2⟩:=hT.l x hx;exact ⟨ms,q1,by rw [List.getElem?_append_left (gsi q2).1];exact q2⟩,hT.k,hT.d⟩ e) ?_;intro p2 h2 hr2;refine g2 ?_)
 obtain ⟨rfl,el,rfl,hel⟩:=hr2
 cases el with
 |false=>
  refine gf (a4 @rU @sB @qK @rN) ?_
  exact ⟨ms0,_,hms0,by rw [←hself]⟩
 | true=>
  refine gf (a4 @rU @sB @qK @rN) ?_
  (refine g1f (a4 @rU @sB @qK @rN) ?_;refine zC (jQ a b _) ?_;intro p2 h2 hr2;refine g2 ?_)
  obtain ⟨rfl,rfl⟩:=hr2
  refine gf (a4 @rU @sB @qK @rN) ?_
  refine tT (f:=176) (fst:=[]) (cap:=_) (fun _ h=>h) rfl ?_
  simp only [List.toList_toArray,List.cons_append,List.nil_append,List.append_nil,List.append_assoc,List.length_append,List.length_cons,List.length_nil,Nat.zero_add,Nat.reduceAdd,Nat.add_assoc,List.singleton_append]
  generalize hL:Blk.loop _ _ _ _ _ _=L
  refine (zbN a b (h.length+3) (h.length+4) (h.length+5) (fun h1=> ∃ ms:List Int,ms.length=64∧h1=h.set r (.var 231 (ms.map i64))++[.var 149 [.ptr tb 0],.var 177 [.ptr r 0],.var 3 [i64 e],.var 3 [i64 a],.var 3 [i64 b],L]) _ ⟨ms0,hms0,by rw [←hself]⟩ ((sB h _ 3).trans rfl) ?_ ?_).mono ?_
  ·rintro _ ⟨ms,_,rfl⟩
   have:=sB (h.set r (.var 231 (ms.map i64))) [.var 149 [.ptr tb 0],.var 177 [.ptr r 0],.var 3 [i64 e],.var 3 [i64 a],.var 3 [i64 b],L] 4
   rw [List.length_set] at this
   exact this
  ·rintro k _ hk64 ⟨ms,hms,rfl⟩
   subst hL
   have htl:=(gsi hT.t).1
   have hrt:r≠tb:=fun e=>by subst e;have:=hT.t;rw [hr0] at this;cases this
   have F0: ∀ (X:Blk) (l:List Blk),(h.set r X++l)[h.length]? =l[0]? :=fun X l=>by have:=rU (h.set r X) l;rwa [List.length_set] at this
   have Fk: ∀ (X:Blk) (l:List Blk) (k:Nat),(h.set r X++l)[h.length+k]? =l[k]? :=fun X l k=>by have:=sB (h.set r X) l k;rwa [List.length_set] at this
   have Sk: ∀ (X:Blk) (l:List Blk) (k:Nat) (b:Blk),(h.set r X++l).set (h.length+k) b=h.set r X++l.set k b:=fun X l k b=>by have:=rN (h.set r X) l k b;rwa [List.length_set] at this
   have Ft: ∀ (X:Blk) (l:List Blk),(h.set r X++l)[tb]? =some (.var 176 [yQ l_.name,rR l_.elems,.ts 2 (l_.covers.map fun c=>[i64 c.1,i64 c.2]),i64 l_.at',.mp m1,.mp m2]):=fun X l=>by rw [List.getElem?_append_left (by rw [List.length_set];exact htl),List.getElem?_set_ne hrt];exact hT.t
   have Fr: ∀ (X:Blk) (l:List Blk),(h.set r X++l)[r]? =some X:=fun X l=>by rw [List.getElem?_append_left (by rw [List.length_set];exact hrl),List.getElem?_set_self hrl]
   have Sr: ∀ (X Y:Blk) (l:List Blk),(h.set r X++l).set r Y=h.set r Y++l:=fun X Y l=>by rw [List.set_append_left _ _ (by rw [List.length_set];exact hrl),List.set_set]
   have hk:k<ms.length:=by omega
   have hd:=yU i64 ms k .un hk
   have hsp: ∀ v,(ms.map i64).take k++i64 v::(ms.map i64).drop (k+1)=(ms.set k v).map i64:=fun v=>wY i64 ms k v hk
   have hk6:((k:Int)<64)=True:=by simp;omega
   refine ⟨_,_,_,_,_,_,(Fk _ _ 5).trans rfl,rfl,?_⟩
   refine uV (own:=false) _ _ _ _ ?_
   simp only [rput,List.set_cons_zero,List.set_cons_succ]
   (repeat (first|refine gz ?_|(refine gn ?_;intro zs zh;(try simp only [go_sem,F0,Fk,Ft,Fr,Sk,Sr] at zh);subst zh;refine gv ?_)|refine yD UCel3f89.pl ?_))
   refine ⟨rfl,_,_,_,_,_,(Fk _ _ 5).trans rfl,?_⟩
   refine uV (own:=false) _ _ _ _ ?_
   simp only [Sk,List.set_cons_zero,List.set_cons_succ]
   (repeat (first|refine gz ?_|(refine gn ?_;intro zs zh;(try simp only [go_sem,F0,Fk,Ft,Fr,Sk,Sr,hd,hsp,hk6,hms,zB] at zh);subst zh;refine gv ?_)|refine yD UCel3f89.pp ?_))
   (refine zF rfl rfl rfl ?_;intro sr hsr;simp only [go_sem,F0,Fk,Ft,Fr,Sk,Sr,hd,hsp,hk6,hms,zB] at hsr;subst hsr;refine vP rfl (zfX l_ hl _ _) (by simp [zJ]) ?_;intro p2 hr2 ts2 hts;simp only [go_sem] at hts;subst hts)
   obtain ⟨v,rfl⟩:=hr2
   (repeat (first|refine gz ?_|(refine gn ?_;intro zs zh;(try simp only [go_sem,F0,Fk,Ft,Fr,Sk,Sr,hd,hsp,hk6,hms,zB] at zh);subst zh;refine gv ?_)|refine yD UCel3f89.pp ?_))
   refine ⟨_,_,_,_,_,_,(Fk _ _ 5).trans rfl,rfl,ms.set k v,by simpa using hms,?_⟩
   rw [Sk]
   rfl
  ·rintro p h' ⟨ms,hms,rfl⟩
   subst hL
   have Fk: ∀ (X:Blk) (l:List Blk) (k:Nat),(h.set r X++l)[h.length+k]? =l[k]? :=fun X l k=>by have:=sB (h.set r X) l k;rwa [List.length_set] at this
   have Sk: ∀ (X:Blk) (l:List Blk) (k:Nat) (b:Blk),(h.set r X++l).set (h.length+k) b=h.set r X++l.set k b:=fun X l k b=>by have:=rN (h.set r X) l k b;rwa [List.length_set] at this
   refine ⟨_,_,_,_,_,_,(Fk _ _ 5).trans rfl,by simp,?_⟩
   simp only [Sk,List.set_cons_zero,List.set_cons_succ]
   refine ge ?_
   exact ⟨ms,_,hms,rfl⟩
end Go.AL
namespace Go.AL
open Go.Proofs Go.Proofs.Tryz
@[go_sem] def UCel4f90.pl:Nat→DPlan
 |5=>⟨[yA,yA,yA,yB,yA,yA],znU,0⟩
 |_=>⟨[],[],0⟩
def RowN (n:Nat) (cs:List Ce) (J:Heap) (V:PV):Prop:=(cs=[]∧V= .nil)∨ ∃ j,0<cs.length∧V= .ms (n+j) 0 3 cs.length∧J[j]? =some (.var 138 (cs.map Ce.c).flatten)
theorem aW (l:List Ce):(l.map Ce.c).flatten.length=l.length*3:=by
 induction l with
 |nil=>rfl
 |cons x l ih=>rw [List.map_cons,List.flatten_cons,List.length_append,ih,List.length_cons];simp;omega
theorem zi0 {α:Type}: ∀ {l:List α},0<l.length→ ∃ l' x,l=l'++[x]
 |l,h=>by
  have:l≠[]:=fun e=>by subst e;simp at h
  exact ⟨l.dropLast,l.getLast this,(List.dropLast_concat_getLast this).symm⟩
def zm5 (bt:Int) (cs:List Ce) (i:Nat) (v:Int):List Ce:=if v=bt then cs else match cs.getLast? with
 |none=>[⟨i,(i+1:Nat),v⟩]
 |some c=>if c.b=i∧c.e=v then cs.dropLast++[⟨c.a,IntKind.i64.wrap (c.b+1),c.e⟩] else cs++[⟨i,(i+1:Nat),v⟩]
def zh6 (bt:Int) (ms:List Int):Nat→List Ce
 |0=>[]
 |i+1=>zm5 bt (zh6 bt ms i) i (ms.getD i 0)
noncomputable def oU (l:La):Int:=open Classical in if h: ∃ n,EPure prog G0 78 [.agg l.c] (fun p=>p=i64 n) then Classical.choose h else 0
theorem zj7 (l:La) (hl:l.ok):EPure prog G0 78 [.agg l.c] fun p=>p=i64 (oU l):=by
 have h: ∃ n,EPure prog G0 78 [.agg l.c] (fun p=>p=i64 n):=by
  obtain ⟨p,⟨n,rfl, -⟩,t,c⟩:=qJ l hl
  exact ⟨n,_,rfl,t,c⟩
 unfold oU
 rw [dif_pos h]
 exact Classical.choose_spec h
open UCel4f90 in
theorem zgH (l:La) (hl:l.ok) (tb m1 m2:Nat) (es:List En) (h:Heap) (hT:TB l tb m1 m2 es h) (r:Nat) (ms:List Int) (hms:ms.length=64) (hr0:h[r]? =some (.var 231 (ms.map i64))):
  ECall prog G0 90 [.ptr tb 0,.ptr r 0] h fun p h'=> ∃ J:Heap,h'=h++J∧RowN h.length (zh6 (oU l) ms 64) J p∧(zh6 (oU l) ms 64).length≤64:=by
 refine pv func90 70 true (by kernel_rfl) rfl rfl ?_
 refine g2 ?_
 have htb:=hT.t
 refine gf @htb ?_
 (refine g1f @htb ?_;refine zC ((zj7 l hl).call zK (by simp [zJ]) _) ?_;intro p2 h2 hr2;refine g2 ?_)
 obtain ⟨rfl,e2⟩:=hr2
 replace e2:=e2.symm
 subst e2
 generalize oU l=bt
 refine gf @htb ?_
 refine zO 64 (K4 (.k:: .v:: .k:: .d:: .d:: .d::K4 (.k:: .k:: .v::D9 (D9 (D9 (D9 (D9 (D4 (.d:: .d:: .d:: .k::[]))))))))) (own:=true) (fun i (s:PV×List Ce×Heap)=>[s.1,i64 i]) (fun s=>h++s.2.2) (fun i s=>RowN h.length s.2.1 s.2.2 s.1∧s.2.1.length≤i∧s.2.1=zh6 bt ms i) (.nil,[],[]) rfl (by simp) ⟨.inl ⟨rfl,rfl⟩,Nat.zero_le _,rfl⟩ (by omega) ?_ ?_
 ·rintro ⟨V,cs,J⟩ ⟨hI,hn,hcs⟩ t ht
  dsimp only at*
  simp only [zY] at ht;subst ht
  have h64:(((64:Nat):Int)<64)=False:=by simp
  refine gf @h64 ?_
  subst hcs
  exact ⟨J,rfl,hI,hn⟩
 ·rintro i ⟨V,cs,J⟩ hi hw ⟨hI,hn,hcs⟩ t ht
  dsimp only at*
  simp only [zY] at ht;subst ht
  have h64:((i:Int)<64)=True:=eq_true (by omega)
  have hi64:i<ms.length:=by omega
  have hd:=yU i64 ms i .un hi64
  have hrA:(h++J)[r]? =some (.var 231 (ms.map i64)):=by rw [List.getElem?_append_left (gsi hr0).1];exact hr0
  have hstep:zh6 bt ms (i+1)=zm5 bt cs i ms[i]:=by rw [zh6, ←hcs,List.getD_eq_getElem?_getD,List.getElem?_eq_getElem hi64];rfl
  generalize hv:ms[i]=v at*
  by_cases hbt:v=bt
  ·have e1:(v==bt)=true:=by simp [hbt]
   rcases hI with ⟨h0,rfl⟩|⟨j,hc0,rfl,hj⟩
   ·refine gf (a8 @h64 @hi @hw @zB @hms @hd @hrA @e1) ?_
    exact ⟨(.nil,cs,J),⟨.inl ⟨h0,rfl⟩,by dsimp only;omega,by rw [hstep,zm5,if_pos hbt]⟩,rfl,rfl,rfl⟩
   ·refine gf (a8 @h64 @hi @hw @zB @hms @hd @hrA @e1) ?_
    exact ⟨(.ms (h.length+j) 0 3 cs.length,cs,J),⟨.inr ⟨j,hc0,rfl,hj⟩,by dsimp only;omega,by rw [hstep,zm5,if_pos hbt]⟩,rfl,rfl,rfl⟩
  ·have e1:(v==bt)=false:=by simp [hbt]
   have hwi:IntKind.i64.wrap ((i:Int)+1)=((i+1:Nat):Int):=hw
   rcases hI with ⟨h0,rfl⟩|⟨j,hc0,rfl,hj⟩
   ·subst h0
    refine gf (a8 @h64 @hi @hw @zB @hms @hd @hrA @e1) ?_
    exact ⟨(.ms (h.length+J.length) 0 3 1,[⟨i,(i+1:Nat),v⟩],J++[.var 138 [i64 i,i64 (i+1:Nat),i64 v]]),⟨.inr ⟨J.length,by simp,rfl,by simp⟩,by simp,by rw [hstep];simp [zm5,hbt]⟩,rfl,rfl,by simp⟩
   ·obtain ⟨cs',c,rfl⟩:=zi0 hc0
    rw [List.length_append,List.length_singleton] at hn
    obtain ⟨ca,cb,ce⟩:=c
    obtain ⟨pre,hpre⟩: ∃ pre,(cs'.map Ce.c).flatten=pre:=⟨_,rfl⟩
    have hpl:pre.length=cs'.length*3:=by rw [←hpre,aW]
    have hjl:j<J.length:=(gsi hj).1
    have hJj:(h++J)[h.length+j]? =some (.var 138 (pre++[i64 ca,i64 cb,i64 ce])):=by
     rw [sB,hj,List.map_append,List.flatten_append,hpre]
     rfl
    have hSj: ∀ b:Blk,(h++J).set (h.length+j) b=h++J.set j b:=fun b=>rN h J j b
    have d1:=fun ys k=>iJ hpl ys k
    have d2:=fun ys k=>iA hpl ys k
    have d3:=fun ys=>lT hpl ys
    have d4: ∀ ys:List PV,(pre++ys).drop (cs'.length*3+1+1)=ys.drop 2:=fun ys=>d1 ys 2
    have hpos:((0:Int)<((cs'.length+1:Nat):Int))=True:=eq_true (by omega)
    have hsub:IntKind.i64.wrap (((cs'.length+1:Nat):Int)-1)=((cs'.length:Nat):Int):=by rw [xM (by omega) (by omega)];omega
    have a1:(cs'.length*3+3=(cs'.length+1)*3)=True:=eq_true (by omega)
    have a2:((cs'.length+1+1)*24≤140737488355328)=True:=eq_true (by omega)
    have a3:(cs'.length≤140737488355326)=True:=eq_true (by omega)
    have fin: ∃ x,x=(Blk.var 138 (pre++[i64 ca,i64 cb,i64 ce,i64 i,i64 (i+1:Nat),i64 v]))∧RowN h.length (cs'++[⟨ca,cb,ce⟩]++[⟨i,(i+1:Nat),v⟩]) (J.set j .old++[x]) (.ms (h.length+J.length) 0 3 (cs'.length+1+1)):=by
     refine ⟨_,rfl,.inr ⟨J.length,by simp,by simp,?_⟩⟩
     rw [List.getElem?_append_right (by simp)]
     simp [←hpre]
    obtain ⟨x,hx,fin⟩:=fin
    by_cases hb:cb=(i:Int)
    ·have e2:(cb==(i:Int))=true:=by simp [hb]
     by_cases he:ce=v
     ·have e3:(ce==v)=true:=by simp [he]
      refine gf (a9 @h64 @hi @hw @zB @hms @hd @hrA @e1 (a9 @hpos @hsub @hJj @d1 @d2 @d3 @d4 @hpl (a6 @hSj @a1 @a2 @a3 @e2 @e3))) ?_
      exact ⟨(.ms (h.length+j) 0 3 (cs'.length+1),cs'++[⟨ca,IntKind.i64.wrap (cb+1),ce⟩],J.set j (.var 138 (pre++[i64 ca,i64 (IntKind.i64.wrap (cb+1)),i64 ce]))),⟨.inr ⟨j,by simp,by simp,by rw [List.getElem?_set_self hjl];simp [←hpre]⟩,by simp;omega,by rw [hstep];simp [zm5,hbt,hb,he]⟩,(by simp only [zY,xJ,List.tail_cons]<;>simp),rfl,rfl⟩
     ·have e3:(ce==v)=false:=by simp [he]
      refine gf (a9 @h64 @hi @hw @zB @hms @hd @hrA @e1 (a9 @hpos @hsub @hJj @d1 @d2 @d3 @d4 @hpl (a6 @hSj @a1 @a2 @a3 @e2 @e3))) ?_
      exact ⟨(.ms (h.length+J.length) 0 3 (cs'.length+1+1),cs'++[⟨ca,cb,ce⟩]++[⟨i,(i+1:Nat),v⟩],J.set j .old++[x]),⟨fin,by simp;omega,by rw [hstep];simp [zm5,hbt,hb,he]⟩,rfl,rfl,by rw [hx]⟩
    ·have e2:(cb==(i:Int))=false:=by simp [hb]
     refine gf (a9 @h64 @hi @hw @zB @hms @hd @hrA @e1 (a9 @hpos @hsub @hJj @d1 @d2 @d3 @d4 @hpl (a5 @hSj @a1 @a2 @a3 @e2))) ?_
     exact ⟨(.ms (h.length+J.length) 0 3 (cs'.length+1+1),cs'++[⟨ca,cb,ce⟩]++[⟨i,(i+1:Nat),v⟩],J.set j .old++[x]),⟨fin,by simp;omega,by rw [hstep];simp [zm5,hbt,hb]⟩,rfl,rfl,by rw [hx]⟩
end Go.AL
namespace Go.AL
open Go.Proofs Go.Proofs.Tryz
theorem TB.keep {l:La} {tb m1 m2:Nat} {es:List En} {h h':Heap} (hT:TB l tb m1 m2 es h) (k: ∀ (r:Nat) (b:Blk),h[r]? =some b→h'[r]? =some b):TB l tb m1 m2 es h':=
 ⟨k _ _ hT.t,k _ _ hT.a,k _ _ hT.b,hT.n,fun e he=>by obtain ⟨ms,a,b⟩:=hT.l e he;exact ⟨ms,a,k _ _ b⟩,hT.k,hT.d⟩
theorem yJ (h B:Heap): ∀ (r:Nat) (b:Blk),h[r]? =some b→(h++B)[r]? =some b:=fun r b hr=>by
 rw [List.getElem?_append_left (gsi hr).1];exact hr
theorem Kp.app (h B:Heap):Kp h (h++B):=fun r b hr _ _=>yJ h B r b hr
theorem LineAt.keep {h h':Heap} {r:Nat} (hl:LineAt h r) (k: ∀ (r:Nat) (b:Blk),h[r]? =some b→h'[r]? =some b):LineAt h' r:=by
 obtain ⟨ms,a,b⟩:=hl;exact ⟨ms,a,k _ _ b⟩
theorem iB {h:Heap} {r:Nat} (hr:LineAt h r) {ms:List Int} (hms:ms.length=64) (B:Heap):
  (∀ q,LineAt h q→LineAt (h.set r (.var 231 (ms.map i64))++B) q)∧(∀ (q:Nat) (b:Blk),h[q]? =some b→(∀ cs,b≠ .var 231 cs)→(h.set r (.var 231 (ms.map i64))++B)[q]? =some b):=by
 obtain ⟨ms0,e0,hr0⟩:=hr
 have hrl:=(gsi hr0).1
 refine ⟨fun q ⟨ms1,e1,h1⟩=> ?_,fun q b hq hn=> ?_⟩
 ·by_cases hqr:r=q
  ·subst hqr
   exact ⟨ms,hms,by rw [List.getElem?_append_left (by rw [List.length_set];exact hrl),List.getElem?_set_self hrl]⟩
  ·exact ⟨ms1,e1,yJ _ _ _ _ (by rw [List.getElem?_set_ne hqr];exact h1)⟩
 ·have hqr:r≠q:=fun e=>by subst e;rw [hr0] at hq;cases hq;exact hn _ rfl
  exact yJ _ _ _ _ (by rw [List.getElem?_set_ne hqr];exact hq)
theorem TB.line {l:La} {tb m1 m2:Nat} {es:List En} {h:Heap} (hT:TB l tb m1 m2 es h) {r:Nat} (hr:LineAt h r) {ms:List Int} (hms:ms.length=64) (B:Heap):TB l tb m1 m2 es (h.set r (.var 231 (ms.map i64))++B):=by
 obtain ⟨k1,k2⟩:=iB hr hms B
 exact ⟨k2 _ _ hT.t (by simp),k2 _ _ hT.a (by simp),k2 _ _ hT.b (by simp),hT.n,fun e he=>k1 _ (hT.l e he),hT.k,hT.d⟩
theorem Kp.line {h:Heap} {r:Nat} (hr:LineAt h r) {ms:List Int} (hms:ms.length=64) (B:Heap):Kp h (h.set r (.var 231 (ms.map i64))++B):=fun q b hq n1 _=>(iB hr hms B).2 q b hq n1
def LRw.ok (x:LRw):Prop:=x.args.length≤1048576∧x.cs.length≤1099511627776∧ ∀ a∈x.args,a.s.size≤16
theorem zbI (l:La) (hl:l.ok) (rs:List LRw) (hrs:rs.length≤1099511627776) (hr: ∀ x∈rs,x.ok) (h:Heap):
  ECall prog G0 67 [.agg l.c,.tc 1 [[vD rs]]] h fun p h'=> ∃ (tb m1 m2:Nat) (es:List En),p= .ptr tb 0∧TB l tb m1 m2 es h'∧Kp h h'∧es.length≤rs.length:=by
 refine pv func67 54 false (by kernel_rfl) rfl rfl ?_
 refine g2 ?_
 refine gf (a4 @rU @sB @qK @rN) ?_
 refine zO 1 (K4 (.k:: .k:: .k:: .d:: .k:: .d:: .d:: .k:: .d::K4 (.k:: .k:: .k:: .v::D9 (D9 (D9 (D4 (.d:: .k::[]))))))) (own:=false) (fun i (s:Heap×List En)=>[i64 i]) (fun s=>s.1) (fun i s=>TB l (h.length+3) (h.length+1) (h.length+2) s.2 s.1∧Kp h s.1∧s.2.length≤i*rs.length) (_,[]) rfl rfl ⟨⟨by rw [sB];rfl,by rw [sB];rfl,by rw [sB];rfl,by omega,by simp,by simp,by simp⟩,Kp.app _ _,by simp⟩ (by omega) ?_ ?_
 ·rintro ⟨H,es⟩ ⟨hT,hK,hn⟩ t ht
  dsimp only at*
  simp only [zY] at ht;subst ht
  have h1:(((1:Nat):Int)<1)=False:=by simp
  refine gf @h1 ?_
  exact ⟨_,_,_,es,rfl,hT,hK,by omega⟩
 ·rintro i ⟨H,es⟩ hi hw ⟨hT,hK,hn⟩ t ht
  dsimp only at*
  simp only [zY] at ht;subst ht
  have hi0:i=0:=by omega
  subst hi0
  refine gf @hw ?_
  refine zO rs.length (K9 (.d:: .d:: .k:: .d::K9 (K4 (.v::D9 (D9 (D4 (.d:: .d:: .d:: .k:: .k::[]))))))) (own:=false) (fun i (s:Heap×List En)=>[i64 i]) (fun s=>s.1) (fun j s=>TB l (h.length+3) (h.length+1) (h.length+2) s.2 s.1∧Kp h s.1∧s.2.length≤j) (H,es) rfl rfl ⟨hT,hK,by simpa using hn⟩ (by omega) ?_ ?_
  ·rintro ⟨H,es⟩ ⟨hT,hK,hn⟩ t ht
   dsimp only at*
   simp only [zY] at ht;subst ht
   refine gf (a2 @hw @zM) ?_
   exact ⟨(H,es),⟨hT,hK,by dsimp only;omega⟩,rfl,rfl,rfl⟩
  ·rintro j ⟨H,es⟩ hj hw2 ⟨hT,hK,hn⟩ t ht
   dsimp only at*
   simp only [zY] at ht;subst ht
   have hx:=zG (f:=LRw.c) [] hj
   have hxo:=hr _ (List.getElem_mem hj)
   generalize rs[j]=x at*
   obtain ⟨hx1,hx2,hx3⟩:=hxo
   refine gf (a6 @hj @hx @zB @hw2 @zA @zD) ?_
   (refine g1f (a6 @hj @hx @zB @hw2 @zA @zD) ?_;refine zC (zbQ l hl _ _ _ es _ (hT.keep (yJ _ _)) (by omega) x.args hx1 hx3) ?_;intro p2 h2 hr2;refine g2 ?_)
   obtain ⟨r,es',rfl,hT2,hL2,hK2,hn2⟩:=hr2
   have hw9:=hK2 H.length _ (zA H _) (by simp) (by simp)
   have hK3:=(hK.trans (Kp.app _ _)).trans hK2
   refine gf (a5 @hj @hx @zB @hw2 @hw9) ?_
   refine zO x.cs.length (K9 (.k:: .k:: .k:: .d::K9 (K9 (K4 (.k:: .k:: .v::D9 (D4 (.k:: .k:: .k::[]))))))) (own:=false) (fun i (s:Heap)=>[i64 i]) (fun s=>s) (fun _ s=>TB l (h.length+3) (h.length+1) (h.length+2) es' s∧Kp h s∧LineAt s r) _ rfl rfl ⟨hT2,hK3,hL2⟩ (by omega) ?_ ?_
   ·rintro H4 ⟨hT4,hK4,hL4⟩
    refine gm ?_
    refine gf (a2 @hw2 @zM) ?_
    exact ⟨(H4,es'),⟨hT4,hK4,by dsimp only;omega⟩,rfl,rfl,rfl⟩
   ·rintro k H4 hk hw3 ⟨hT4,hK4,hL4⟩
    refine gm ?_
    have hy:=zG (f:=Ce.c) [] hk
    generalize x.cs[k]=y at*
    refine gf (a6 @hk @hy @zB @hw3 @zA @zD) ?_
    (refine g1f (a6 @hk @hy @zB @hw3 @zA @zD) ?_;refine zC (zfI l hl _ _ _ es' _ (hT4.keep (yJ _ _)) r (hL4.keep (yJ _ _)) y.a y.b y.e) ?_;intro p2 h2 hr2;refine g2 ?_)
    obtain ⟨ms,B,hms,rfl⟩:=hr2
    have hL5:=hL4.keep (yJ _ [Blk.var 138 y.c])
    refine gf @hw3 ?_
    exact ⟨_,⟨(hT4.keep (yJ _ _)).line hL5 hms B,(hK4.trans (Kp.app _ _)).trans (Kp.line hL5 hms B),(iB hL5 hms B).1 r hL5⟩,rfl,rfl,rfl⟩
end Go.AL
namespace Go.AL
open Go.Sort
structure Cm3 {α:Type} (f:α→α→Int):Prop where
 r: ∀ x y,f x y= -1∨f x y=0∨f x y=1
 e: ∀ x y,f x y=0↔x=y
 s: ∀ x y,f y x= - f x y
 t: ∀ x y z,f x y= -1→f y z= -1→f x z= -1
theorem cmI:Cm3 rJ:=by
 refine ⟨fun x y=> ?_,fun x y=> ?_,fun x y=> ?_,fun x y z=> ?_⟩<;>unfold rJ<;>(repeat' split)<;>omega
theorem Cm3.pull {α β:Type} {f:α→α→Int} (h:Cm3 f) (g:β→α) (hg: ∀ x y,g x=g y→x=y):Cm3 fun x y=>f (g x) (g y):=
 ⟨fun x y=>h.r _ _,fun x y=>⟨fun k=>hg _ _ ((h.e _ _).1 k),fun k=>by subst k;exact (h.e _ _).2 rfl⟩,fun x y=>h.s _ _,fun x y z=>h.t _ _ _⟩
theorem Cm3.pair {α β:Type} {f:α→α→Int} {g:β→β→Int} (h:Cm3 f) (k:Cm3 g):Cm3 fun x y:α×β=>if f x.1 y.1=0 then g x.2 y.2 else f x.1 y.1:=by
 refine ⟨fun x y=> ?_,fun x y=> ?_,fun x y=> ?_,fun x y z=> ?_⟩
 ·split
  ·exact k.r _ _
  ·exact h.r _ _
 ·constructor
  ·intro e
   split at e
   ·rename_i e1;exact Prod.ext ((h.e _ _).1 e1) ((k.e _ _).1 e)
   ·rename_i e1;exact absurd e e1
  ·rintro rfl
   rw [if_pos ((h.e _ _).2 rfl)];exact (k.e _ _).2 rfl
 ·have e1:=h.s x.1 y.1
  by_cases e:f x.1 y.1=0
  ·rw [if_pos e,if_pos (by omega)];exact k.s _ _
  ·rw [if_neg e,if_neg (by omega)];exact e1
 ·intro a b
  by_cases e1:f x.1 y.1=0
  ·rw [if_pos e1] at a
   have e1':=(h.e _ _).1 e1
   by_cases e2:f y.1 z.1=0
   ·rw [if_pos e2] at b
    rw [←(h.e _ _).1 e2,if_pos e1];exact k.t _ _ _ a b
   ·rw [if_neg e2] at b
    rw [e1',if_neg e2];exact b
  ·rw [if_neg e1] at a
   by_cases e2:f y.1 z.1=0
   ·rw [←(h.e _ _).1 e2,if_neg e1];exact a
   ·rw [if_neg e2] at b
    have:=h.t _ _ _ a b
    rw [if_neg (by omega)];exact this
theorem Cm3.lex {α:Type} {f:α→α→Int} (h:Cm3 f):Cm3 (vZ f):=by
 have r: ∀ x y:List α,vZ f x y= -1∨vZ f x y=0∨vZ f x y=1:=by
  intro x
  induction x with
  |nil=>intro y;cases y<;>simp [vZ]
  | cons a x ih=>
   intro y
   cases y with
   |nil=>simp [vZ]
   |cons b y=>
    simp only [vZ];split
    ·exact ih y
    ·exact h.r _ _
 have e: ∀ x y:List α,vZ f x y=0↔x=y:=by
  intro x
  induction x with
  |nil=>intro y;cases y<;>simp [vZ]
  | cons a x ih=>
   intro y
   cases y with
   |nil=>simp [vZ]
   | cons b y=>
    simp only [vZ]
    by_cases e:f a b=0
    ·rw [if_pos e,ih y,(h.e _ _).1 e];simp
    ·rw [if_neg e]
     constructor
     ·intro k;exact absurd k e
     ·intro k;injection k with k1 k2;exact absurd ((h.e _ _).2 k1) e
 have s: ∀ x y:List α,vZ f y x= - vZ f x y:=by
  intro x
  induction x with
  |nil=>intro y;cases y<;>simp [vZ]
  | cons a x ih=>
   intro y
   cases y with
   |nil=>simp [vZ]
   |cons b y=>
    simp only [vZ]
    have e1:=h.s a b
    by_cases e:f a b=0
    ·rw [if_pos e,if_pos (by omega)];exact ih y
    ·rw [if_neg e,if_neg (by omega)];exact e1
 refine ⟨r,e,s,?_⟩
 intro x
 induction x with
 | nil=>
  intro y z a b
  cases y with
  |nil=>simp [vZ] at a
  |cons c y=>
   cases z with
   |nil=>simp [vZ] at b
   |cons d z=>rfl
 | cons p x ih=>
  intro y z a b
  cases y with
  |nil=>simp [vZ] at a
  | cons c y=>
   cases z with
   |nil=>simp [vZ] at b
   | cons d z=>
    simp only [vZ] at a b ⊢
    by_cases e1:f p c=0
    ·rw [if_pos e1] at a
     have e1':=(h.e _ _).1 e1
     by_cases e2:f c d=0
     ·rw [if_pos e2] at b
      rw [←(h.e _ _).1 e2,if_pos e1];exact ih _ _ a b
     ·rw [if_neg e2] at b
      rw [e1',if_neg e2];exact b
    ·rw [if_neg e1] at a
     by_cases e2:f c d=0
     ·rw [←(h.e _ _).1 e2,if_neg e1];exact a
     ·rw [if_neg e2] at b
      have:=h.t _ _ _ a b
      rw [if_neg (by omega)];exact this
theorem cmC:Cm3 bT:=cmI.pull (fun x:UInt8=>(x.toNat:Int)) fun x y h=>by
 have:x.toNat=y.toNat:=by omega
 exact UInt8.toNat_inj.1 this
theorem cmB:Cm3 znM:=cmC.lex.pull (fun s:BA=>s.data.toList) fun x y h=>by
 have:x.data=y.data:=by rw [←Array.toList_inj];exact h
 exact ByteArray.ext this
theorem cmV:Cm3 iU:=(cmI.pair (cmI.pair cmB)).pull (fun v:Vl=>(v.t,v.n,v.s)) fun x y h=>by
 obtain ⟨a,b,c⟩:=x
 obtain ⟨a',b',c'⟩:=y
 simp only [Prod.mk.injEq] at h
 obtain ⟨rfl,rfl,rfl⟩:=h
 rfl
theorem cmT:Cm3 sD:=cmV.lex
theorem Cm3.swo {α:Type} {f:α→α→Int} (h:Cm3 f):SWO (Go.Proofs.ltOf f):=by
 have ns: ∀ x y,f x y<0↔f x y= -1:=fun x y=>by have:=h.r x y;omega
 refine ⟨fun x=> ?_,fun x y z=> ?_,fun x y z=> ?_⟩
 ·have:=(h.e x x).2 rfl
  simp [Go.Proofs.ltOf,this]
 ·simp only [Go.Proofs.ltOf,decide_eq_true_eq,ns]
  exact h.t x y z
 ·simp only [Go.Proofs.ltOf,decide_eq_false_iff_not,ns]
  intro a b c
  have r1:=h.r x y
  have r2:=h.r y z
  have s1:=h.s x y
  have s2:=h.s y z
  have s3:=h.s x z
  rcases r1 with r1|r1|r1
  ·exact a r1
  ·have:=(h.e _ _).1 r1;subst this;exact b c
  ·rcases r2 with r2|r2|r2
   ·exact b r2
   ·have:=(h.e _ _).1 r2;subst this;omega
   ·have:=h.t z y x (by omega) (by omega);omega
theorem aG {β α:Type} {f:α→α→Int} (h:Cm3 f) (g:β→α) {xs ys zs:List β} (hx:xs.Perm zs) (hy:ys.Perm zs) (hn: ∀ a∈zs, ∀ b∈zs,g a=g b→a=b)
  (px:xs.Pairwise fun x y=>Go.Proofs.ltOf f (g y) (g x)=false) (py:ys.Pairwise fun x y=>Go.Proofs.ltOf f (g y) (g x)=false):xs=ys:=by
 refine List.Perm.eq_of_pairwise (le:=fun x y=>Go.Proofs.ltOf f (g y) (g x)=false) (fun a b ha hb h1 h2=> ?_) px py (hx.trans hy.symm)
 simp only [Go.Proofs.ltOf,decide_eq_false_iff_not] at h1 h2
 refine hn a (hx.mem_iff.1 ha) b (hy.mem_iff.1 hb) ?_
 have r:=h.r (g a) (g b)
 have s:=h.s (g a) (g b)
 exact (h.e _ _).1 (by omega)
end Go.AL
