/-
  The library's sort at the program's rows.
-/
import Derived.Test.YtcffidhiaihbkaaGreatDoorX33
import Derived.Sort.Statements
import Derived.Shelf.SlSortCmp.Insertion
import Derived.Shelf.SlSortCmp.NoneTotal
import Derived.Shelf.SlGeneric
set_option linter.unusedSimpArgs false
set_option linter.unusedVariables false
set_option maxRecDepth 100000
set_option maxHeartbeats 4000000
namespace Go.AL
open Go.Proofs Go.Proofs.Tryz
@[go_sem] def UCel2f72.pl:Nat→DPlan
 |13=>⟨[yA,yA,yA,yB,yA,yA,yA,yA,yB,yA,yA,yA,yC,yA,yC,yC,yA,yC],yM,0⟩
 |_=>⟨[],[],0⟩
theorem tmL:kC prog 173=some (9,.string,143):=by kernel_rfl
theorem zjX (r o:Nat):sE (α:=Prop) prog 143 (.ptr r o) (.sc (.pointer none))=some (false,True):=by kernel_rfl
theorem zjY:sE (α:=Prop) prog 143 (.sc (.pointer none)) (.sc (.pointer none))=some (true,True):=by kernel_rfl
theorem zaS:nI (.pointer none)= .sc (.pointer none):=rfl
theorem ziL:(prog.info? 143).bind (·.zero)=some (.pointer none):=by kernel_rfl
theorem tmA:kC prog 174=some (9,.string,32):=by kernel_rfl
theorem ziA:(prog.info? 32).bind (·.zero)=some (.slice none 0 0):=by kernel_rfl
structure En where
 k:BA
 r:Nat
 a:List Vl
abbrev ma (es:List En):NM:=es.map fun e=>(Value.string e.k,PV.ptr e.r 0)
abbrev mb (es:List En):NM:=es.map fun e=>(Value.string e.k,pH e.a)
def En.ok (e:En):Prop:=e.a.length≤1048576∧(∀ a∈e.a,a.s.size≤1048576)∧e.k=zk0 e.a
def LineAt (h:Heap) (r:Nat):Prop:= ∃ ms:List Int,ms.length=64∧h[r]? =some (.var 188 (ms.map i64))
structure TB (l:La) (tb m1 m2:Nat) (es:List En) (h:Heap):Prop where
 t:h[tb]? =some (.var 176 [yQ l.name,rR l.elems,.ts 2 (l.covers.map fun c=>[i64 c.1,i64 c.2]),i64 l.at',.mp m1,.mp m2])
 a:h[m1]? =some (.map (ma es))
 b:h[m2]? =some (.map (mb es))
 n:m1≠m2
 l: ∀ e∈es,LineAt h e.r
 k: ∀ e∈es,e.ok
 d:(es.map (·.k)).Nodup
def Kp (h h':Heap):Prop:= ∀ (r:Nat) (b:Blk),h[r]? =some b→(∀ cs,b≠ .var 188 cs)→(∀ es,b≠ .map es)→h'[r]? =some b
theorem Kp.refl (h:Heap):Kp h h:=fun _ _ h _ _=>h
theorem Kp.trans {h h1 h2:Heap} (a:Kp h h1) (b:Kp h1 h2):Kp h h2:=fun r c hc n1 n2=>b r c (a r c hc n1 n2) n1 n2
theorem dJ (es:List En):(ma es).all (fun x=>pF .string x.1)=true:=by
 rw [List.all_eq_true];intro x hx;obtain ⟨e,_,rfl⟩:=List.mem_map.1 hx;rfl
theorem zaT (es:List En):(mb es).all (fun x=>pF .string x.1)=true:=by
 rw [List.all_eq_true];intro x hx;obtain ⟨e,_,rfl⟩:=List.mem_map.1 hx;rfl
theorem gV {s:BA}: ∀ {es:NM} {j:Nat},vV (.string s) es j=none→ ∀ x∈es,x.1≠ .string s
 | [],_,_,x,hx=>by cases hx
 | y::es,j,h,x,hx=>by
  unfold vV at h
  split at h
  ·cases h
  ·rename_i hv
   rcases List.mem_cons.1 hx with rfl|hx
   ·intro e;rw [e] at hv;exact hv (by simp [sY])
   ·exact gV h x hx
theorem cT {s:BA} (f g:En→PV): ∀ {es:List En} {j:Nat},vV (.string s) (es.map fun e=>(Value.string e.k,f e)) j=none→vV (.string s) (es.map fun e=>(Value.string e.k,g e)) j=none
 | [],_,_=>rfl
 | e::es,j,h=>by
  simp only [List.map_cons,vV] at h ⊢
  split at h
  ·cases h
  ·rename_i hv
   rw [if_neg hv]
   exact cT f g h
theorem zfR {h:Heap} {r:Nat} {es:List En} {s:BA} {j:Nat} {p:PV} (hr:h[r]? =some (.map (ma es))) (hm:vV (.string s) (ma es) 0=some (j,p)):xQ (α:=Prop) prog h 173 false (.mp r) (yQ s)=some (p,True):=by
 unfold xQ
 rw [tmL]
 simp only [oS,hr,ziL,zm1,dJ,hm,Bool.and_self,if_true,vL,Bool.false_eq_true,if_false]
theorem zfS {h:Heap} {r:Nat} {es:List En} {s:BA} (hr:h[r]? =some (.map (ma es))) (hm:vV (.string s) (ma es) 0=none):xQ (α:=Prop) prog h 173 false (.mp r) (yQ s)=some (.sc (.pointer none),True):=by
 unfold xQ
 rw [tmL]
 simp only [oS,hr,ziL,zm1,dJ,hm,Bool.and_self,if_true,vL,Bool.false_eq_true,if_false,zaS]
theorem zfT {h:Heap} {r:Nat} {es:List En} {s:BA} {j:Nat} {p:PV} (hr:h[r]? =some (.map (mb es))) (hm:vV (.string s) (mb es) 0=some (j,p)):xQ (α:=Prop) prog h 174 false (.mp r) (yQ s)=some (p,True):=by
 unfold xQ
 rw [tmA]
 simp only [oS,hr,ziA,zm1,zaT,hm,Bool.and_self,if_true,vL,Bool.false_eq_true,if_false]
theorem buL:kB prog 188 []=some (.agg (List.replicate 64 (i64 0))):=by kernel_rfl
attribute [-go_sem] kB
end Go.AL
namespace Go.AL
open Go.Proofs Go.Proofs.Tryz
@[go_sem] def UCel3f91.pp:Nat→DPlan
 |4=>⟨[yB,yA,yB,yA,yA,yB,yB,yA,yA,yA,yB,yB,uX,yA,yA,yC],xE,0⟩
 |_=>⟨[],[],0⟩
@[go_sem] def UCel3f91.pl:Nat→DPlan
 |4=>⟨[⟨7,0,[1006]⟩,yA,yB,yA,yA,yB,yB,yA,yA,yA,yB,yB,⟨6,0,[1006]⟩,yA,yA,yC],xE,0⟩
 |_=>⟨[],[],0⟩
theorem jQ (a b:Int) (h:Heap):ECall prog G0 134 [i64 a,i64 b] h fun p h'=>p= .fn (.func 174) [] [.ptr h.length 0,.ptr (h.length+1) 0]∧h'=h++[.var 3 [i64 a],.var 3 [i64 b]]:=by
 refine pv func134 6 false (by kernel_rfl) rfl rfl ?_
 refine g2 ?_
 refine ge ?_
 exact ⟨rfl,rfl⟩
end Go.AL
namespace Go.AL
open Go.Proofs Go.Proofs.Tryz
@[go_sem] def UCel4f92.pl:Nat→DPlan
 |5=>⟨[yA,yA,yA,yB,yA,yA],znU,0⟩
 |_=>⟨[],[],0⟩
def RowN (n:Nat) (cs:List Ce) (J:Heap) (V:PV):Prop:=(cs=[]∧V= .nil)∨ ∃ j,0<cs.length∧V= .ms (n+j) 0 3 cs.length∧J[j]? =some (.var 161 (cs.map Ce.c).flatten)
theorem aW (l:List Ce):(l.map Ce.c).flatten.length=l.length*3:=by
 induction l with
 |nil=>rfl
 |cons x l ih=>rw [List.map_cons,List.flatten_cons,List.length_append,ih,List.length_cons];simp;omega
theorem zi0 {α:Type}: ∀ {l:List α},0<l.length→ ∃ l' x,l=l'++[x]
 |l,h=>by
  have:l≠[]:=fun e=>by subst e;simp at h
  exact ⟨l.dropLast,l.getLast this,(List.dropLast_concat_getLast this).symm⟩
def zm5 (bt:Int) (cs:List Ce) (i:Nat) (v:Int):List Ce:=if v=bt then cs else match cs.getLast? with
 |none=>[⟨i,(i+1:Nat),v⟩]
 |some c=>if c.b=i∧c.e=v then cs.dropLast++[⟨c.a,IntKind.i64.wrap (c.b+1),c.e⟩] else cs++[⟨i,(i+1:Nat),v⟩]
def zh6 (bt:Int) (ms:List Int):Nat→List Ce
 |0=>[]
 |i+1=>zm5 bt (zh6 bt ms i) i (ms.getD i 0)
open UCel4f92 in
theorem zgH (l:La) (hl:l.ok) (tb m1 m2:Nat) (es:List En) (h:Heap) (hT:TB l tb m1 m2 es h) (r:Nat) (ms:List Int) (hms:ms.length=64) (hr0:h[r]? =some (.var 188 (ms.map i64))):
  ECall prog G0 92 [.ptr tb 0,.ptr r 0] h fun p h'=> ∃ J:Heap,h'=h++J∧RowN h.length (zh6 (oU l) ms 64) J p∧(zh6 (oU l) ms 64).length≤64:=by
 refine pv func92 70 true (by kernel_rfl) rfl rfl ?_
 refine g2 ?_
 have htb:=hT.t
 refine gf @htb ?_
 (refine g1f @htb ?_;refine zC ((zj7 l hl).call zK (by simp [zJ]) _) ?_;intro p2 h2 hr2;refine g2 ?_)
 obtain ⟨rfl,e2⟩:=hr2
 replace e2:=e2.symm
 subst e2
 generalize oU l=bt
 refine gf @htb ?_
 refine zO 64 (K4 (.k:: .v:: .k:: .d:: .d:: .d::K4 (.k:: .k:: .v::D9 (D9 (D9 (D9 (D9 (D4 (.d:: .d:: .d:: .k::[]))))))))) (own:=true) (fun i (s:PV×List Ce×Heap)=>[s.1,i64 i]) (fun s=>h++s.2.2) (fun i s=>RowN h.length s.2.1 s.2.2 s.1∧s.2.1.length≤i∧s.2.1=zh6 bt ms i) (.nil,[],[]) rfl (by simp) ⟨.inl ⟨rfl,rfl⟩,Nat.zero_le _,rfl⟩ (by omega) ?_ ?_
 ·rintro ⟨V,cs,J⟩ ⟨hI,hn,hcs⟩ t ht
  dsimp only at*
  simp only [zY] at ht;subst ht
  have h64:(((64:Nat):Int)<64)=False:=by simp
  refine gf @h64 ?_
  subst hcs
  exact ⟨J,rfl,hI,hn⟩
 ·rintro i ⟨V,cs,J⟩ hi hw ⟨hI,hn,hcs⟩ t ht
  dsimp only at*
  simp only [zY] at ht;subst ht
  have h64:((i:Int)<64)=True:=eq_true (by omega)
  have hi64:i<ms.length:=by omega
  have hd:=yU i64 ms i .un hi64
  have hrA:(h++J)[r]? =some (.var 188 (ms.map i64)):=by rw [List.getElem?_append_left (gsi hr0).1];exact hr0
  have hstep:zh6 bt ms (i+1)=zm5 bt cs i ms[i]:=by rw [zh6, ←hcs,List.getD_eq_getElem?_getD,List.getElem?_eq_getElem hi64];rfl
  generalize hv:ms[i]=v at*
  by_cases hbt:v=bt
  ·have e1:(v==bt)=true:=by simp [hbt]
   rcases hI with ⟨h0,rfl⟩|⟨j,hc0,rfl,hj⟩
   ·refine gf (a8 @h64 @hi @hw @zB @hms @hd @hrA @e1) ?_
    exact ⟨(.nil,cs,J),⟨.inl ⟨h0,rfl⟩,by dsimp only;omega,by rw [hstep,zm5,if_pos hbt]⟩,rfl,rfl,rfl⟩
   ·refine gf (a8 @h64 @hi @hw @zB @hms @hd @hrA @e1) ?_
    exact ⟨(.ms (h.length+j) 0 3 cs.length,cs,J),⟨.inr ⟨j,hc0,rfl,hj⟩,by dsimp only;omega,by rw [hstep,zm5,if_pos hbt]⟩,rfl,rfl,rfl⟩
  ·have e1:(v==bt)=false:=by simp [hbt]
   have hwi:IntKind.i64.wrap ((i:Int)+1)=((i+1:Nat):Int):=hw
   rcases hI with ⟨h0,rfl⟩|⟨j,hc0,rfl,hj⟩
   ·subst h0
    refine gf (a8 @h64 @hi @hw @zB @hms @hd @hrA @e1) ?_
    exact ⟨(.ms (h.length+J.length) 0 3 1,[⟨i,(i+1:Nat),v⟩],J++[.var 161 [i64 i,i64 (i+1:Nat),i64 v]]),⟨.inr ⟨J.length,by simp,rfl,by simp⟩,by simp,by rw [hstep];simp [zm5,hbt]⟩,rfl,rfl,by simp⟩
   ·obtain ⟨cs',c,rfl⟩:=zi0 hc0
    rw [List.length_append,List.length_singleton] at hn
    obtain ⟨ca,cb,ce⟩:=c
    obtain ⟨pre,hpre⟩: ∃ pre,(cs'.map Ce.c).flatten=pre:=⟨_,rfl⟩
    have hpl:pre.length=cs'.length*3:=by rw [←hpre,aW]
    have hjl:j<J.length:=(gsi hj).1
    have hJj:(h++J)[h.length+j]? =some (.var 161 (pre++[i64 ca,i64 cb,i64 ce])):=by
     rw [sB,hj,List.map_append,List.flatten_append,hpre]
     rfl
    have hSj: ∀ b:Blk,(h++J).set (h.length+j) b=h++J.set j b:=fun b=>rN h J j b
    have d1:=fun ys k=>iJ hpl ys k
    have d2:=fun ys k=>iA hpl ys k
    have d3:=fun ys=>lT hpl ys
    have d4: ∀ ys:List PV,(pre++ys).drop (cs'.length*3+1+1)=ys.drop 2:=fun ys=>d1 ys 2
    have hpos:((0:Int)<((cs'.length+1:Nat):Int))=True:=eq_true (by omega)
    have hsub:IntKind.i64.wrap (((cs'.length+1:Nat):Int)-1)=((cs'.length:Nat):Int):=by rw [xM (by omega) (by omega)];omega
    have a1:(cs'.length*3+3=(cs'.length+1)*3)=True:=eq_true (by omega)
    have a2:((cs'.length+1+1)*24≤140737488355328)=True:=eq_true (by omega)
    have a3:(cs'.length≤140737488355326)=True:=eq_true (by omega)
    have fin: ∃ x,x=(Blk.var 161 (pre++[i64 ca,i64 cb,i64 ce,i64 i,i64 (i+1:Nat),i64 v]))∧RowN h.length (cs'++[⟨ca,cb,ce⟩]++[⟨i,(i+1:Nat),v⟩]) (J.set j .old++[x]) (.ms (h.length+J.length) 0 3 (cs'.length+1+1)):=by
     refine ⟨_,rfl,.inr ⟨J.length,by simp,by simp,?_⟩⟩
     rw [List.getElem?_append_right (by simp)]
     simp [←hpre]
    obtain ⟨x,hx,fin⟩:=fin
    by_cases hb:cb=(i:Int)
    ·have e2:(cb==(i:Int))=true:=by simp [hb]
     by_cases he:ce=v
     ·have e3:(ce==v)=true:=by simp [he]
      refine gf (a9 @h64 @hi @hw @zB @hms @hd @hrA @e1 (a9 @hpos @hsub @hJj @d1 @d2 @d3 @d4 @hpl (a6 @hSj @a1 @a2 @a3 @e2 @e3))) ?_
      exact ⟨(.ms (h.length+j) 0 3 (cs'.length+1),cs'++[⟨ca,IntKind.i64.wrap (cb+1),ce⟩],J.set j (.var 161 (pre++[i64 ca,i64 (IntKind.i64.wrap (cb+1)),i64 ce]))),⟨.inr ⟨j,by simp,by simp,by rw [List.getElem?_set_self hjl];simp [←hpre]⟩,by simp;omega,by rw [hstep];simp [zm5,hbt,hb,he]⟩,(by simp only [zY,xJ,List.tail_cons]<;>simp),rfl,rfl⟩
     ·have e3:(ce==v)=false:=by simp [he]
      refine gf (a9 @h64 @hi @hw @zB @hms @hd @hrA @e1 (a9 @hpos @hsub @hJj @d1 @d2 @d3 @d4 @hpl (a6 @hSj @a1 @a2 @a3 @e2 @e3))) ?_
      exact ⟨(.ms (h.length+J.length) 0 3 (cs'.length+1+1),cs'++[⟨ca,cb,ce⟩]++[⟨i,(i+1:Nat),v⟩],J.set j .old++[x]),⟨fin,by simp;omega,by rw [hstep];simp [zm5,hbt,hb,he]⟩,rfl,rfl,by rw [hx]⟩
    ·have e2:(cb==(i:Int))=false:=by simp [hb]
     refine gf (a9 @h64 @hi @hw @zB @hms @hd @hrA @e1 (a9 @hpos @hsub @hJj @d1 @d2 @d3 @d4 @hpl (a5 @hSj @a1 @a2 @a3 @e2))) ?_
     exact ⟨(.ms (h.length+J.length) 0 3 (cs'.length+1+1),cs'++[⟨ca,cb,ce⟩]++[⟨i,(i+1:Nat),v⟩],J.set j .old++[x]),⟨fin,by simp;omega,by rw [hstep];simp [zm5,hbt,hb]⟩,rfl,rfl,by rw [hx]⟩
end Go.AL
namespace Go.AL
open Go.Proofs Go.Proofs.Tryz
theorem TB.keep {l:La} {tb m1 m2:Nat} {es:List En} {h h':Heap} (hT:TB l tb m1 m2 es h) (k: ∀ (r:Nat) (b:Blk),h[r]? =some b→h'[r]? =some b):TB l tb m1 m2 es h':=
 ⟨k _ _ hT.t,k _ _ hT.a,k _ _ hT.b,hT.n,fun e he=>by obtain ⟨ms,a,b⟩:=hT.l e he;exact ⟨ms,a,k _ _ b⟩,hT.k,hT.d⟩
theorem yJ (h B:Heap): ∀ (r:Nat) (b:Blk),h[r]? =some b→(h++B)[r]? =some b:=fun r b hr=>by
 rw [List.getElem?_append_left (gsi hr).1];exact hr
theorem Kp.app (h B:Heap):Kp h (h++B):=fun r b hr _ _=>yJ h B r b hr
theorem iB {h:Heap} {r:Nat} (hr:LineAt h r) {ms:List Int} (hms:ms.length=64) (B:Heap):
  (∀ q,LineAt h q→LineAt (h.set r (.var 188 (ms.map i64))++B) q)∧(∀ (q:Nat) (b:Blk),h[q]? =some b→(∀ cs,b≠ .var 188 cs)→(h.set r (.var 188 (ms.map i64))++B)[q]? =some b):=by
 obtain ⟨ms0,e0,hr0⟩:=hr
 have hrl:=(gsi hr0).1
 refine ⟨fun q ⟨ms1,e1,h1⟩=> ?_,fun q b hq hn=> ?_⟩
 ·by_cases hqr:r=q
  ·subst hqr
   exact ⟨ms,hms,by rw [List.getElem?_append_left (by rw [List.length_set];exact hrl),List.getElem?_set_self hrl]⟩
  ·exact ⟨ms1,e1,yJ _ _ _ _ (by rw [List.getElem?_set_ne hqr];exact h1)⟩
 ·have hqr:r≠q:=fun e=>by subst e;rw [hr0] at hq;cases hq;exact hn _ rfl
  exact yJ _ _ _ _ (by rw [List.getElem?_set_ne hqr];exact hq)
theorem TB.line {l:La} {tb m1 m2:Nat} {es:List En} {h:Heap} (hT:TB l tb m1 m2 es h) {r:Nat} (hr:LineAt h r) {ms:List Int} (hms:ms.length=64) (B:Heap):TB l tb m1 m2 es (h.set r (.var 188 (ms.map i64))++B):=by
 obtain ⟨k1,k2⟩:=iB hr hms B
 exact ⟨k2 _ _ hT.t (by simp),k2 _ _ hT.a (by simp),k2 _ _ hT.b (by simp),hT.n,fun e he=>k1 _ (hT.l e he),hT.k,hT.d⟩
theorem Kp.line {h:Heap} {r:Nat} (hr:LineAt h r) {ms:List Int} (hms:ms.length=64) (B:Heap):Kp h (h.set r (.var 188 (ms.map i64))++B):=fun q b hq n1 _=>(iB hr hms B).2 q b hq n1
def LRw.ok (x:LRw):Prop:=x.args.length≤1048576∧x.cs.length≤1099511627776∧ ∀ a∈x.args,a.s.size≤1048576
end Go.AL
namespace Go.AL
open Go.Sort
structure Cm3 {α:Type} (f:α→α→Int):Prop where
 r: ∀ x y,f x y= -1∨f x y=0∨f x y=1
 e: ∀ x y,f x y=0↔x=y
 s: ∀ x y,f y x= - f x y
 t: ∀ x y z,f x y= -1→f y z= -1→f x z= -1
theorem cmI:Cm3 rJ:=by
 refine ⟨fun x y=> ?_,fun x y=> ?_,fun x y=> ?_,fun x y z=> ?_⟩<;>unfold rJ<;>(repeat' split)<;>omega
theorem Cm3.pull {α β:Type} {f:α→α→Int} (h:Cm3 f) (g:β→α) (hg: ∀ x y,g x=g y→x=y):Cm3 fun x y=>f (g x) (g y):=
 ⟨fun x y=>h.r _ _,fun x y=>⟨fun k=>hg _ _ ((h.e _ _).1 k),fun k=>by subst k;exact (h.e _ _).2 rfl⟩,fun x y=>h.s _ _,fun x y z=>h.t _ _ _⟩
theorem Cm3.pair {α β:Type} {f:α→α→Int} {g:β→β→Int} (h:Cm3 f) (k:Cm3 g):Cm3 fun x y:α×β=>if f x.1 y.1=0 then g x.2 y.2 else f x.1 y.1:=by
 refine ⟨fun x y=> ?_,fun x y=> ?_,fun x y=> ?_,fun x y z=> ?_⟩
 ·split
  ·exact k.r _ _
  ·exact h.r _ _
 ·constructor
  ·intro e
   split at e
   ·rename_i e1;exact Prod.ext ((h.e _ _).1 e1) ((k.e _ _).1 e)
   ·rename_i e1;exact absurd e e1
  ·rintro rfl
   rw [if_pos ((h.e _ _).2 rfl)];exact (k.e _ _).2 rfl
 ·have e1:=h.s x.1 y.1
  by_cases e:f x.1 y.1=0
  ·rw [if_pos e,if_pos (by omega)];exact k.s _ _
  ·rw [if_neg e,if_neg (by omega)];exact e1
 ·intro a b
  by_cases e1:f x.1 y.1=0
  ·rw [if_pos e1] at a
   have e1':=(h.e _ _).1 e1
   by_cases e2:f y.1 z.1=0
   ·rw [if_pos e2] at b
    rw [←(h.e _ _).1 e2,if_pos e1];exact k.t _ _ _ a b
   ·rw [if_neg e2] at b
    rw [e1',if_neg e2];exact b
  ·rw [if_neg e1] at a
   by_cases e2:f y.1 z.1=0
   ·rw [←(h.e _ _).1 e2,if_neg e1];exact a
   ·rw [if_neg e2] at b
    have:=h.t _ _ _ a b
    rw [if_neg (by omega)];exact this
theorem Cm3.lex {α:Type} {f:α→α→Int} (h:Cm3 f):Cm3 (vZ f):=by
 have r: ∀ x y:List α,vZ f x y= -1∨vZ f x y=0∨vZ f x y=1:=by
  intro x
  induction x with
  |nil=>intro y;cases y<;>simp [vZ]
  | cons a x ih=>
   intro y
   cases y with
   |nil=>simp [vZ]
   |cons b y=>
    simp only [vZ];split
    ·exact ih y
    ·exact h.r _ _
 have e: ∀ x y:List α,vZ f x y=0↔x=y:=by
  intro x
  induction x with
  |nil=>intro y;cases y<;>simp [vZ]
  | cons a x ih=>
   intro y
   cases y with
   |nil=>simp [vZ]
   | cons b y=>
    simp only [vZ]
    by_cases e:f a b=0
    ·rw [if_pos e,ih y,(h.e _ _).1 e];simp
    ·rw [if_neg e]
     constructor
     ·intro k;exact absurd k e
     ·intro k;injection k with k1 k2;exact absurd ((h.e _ _).2 k1) e
 have s: ∀ x y:List α,vZ f y x= - vZ f x y:=by
  intro x
  induction x with
  |nil=>intro y;cases y<;>simp [vZ]
  | cons a x ih=>
   intro y
   cases y with
   |nil=>simp [vZ]
   |cons b y=>
    simp only [vZ]
    have e1:=h.s a b
    by_cases e:f a b=0
    ·rw [if_pos e,if_pos (by omega)];exact ih y
    ·rw [if_neg e,if_neg (by omega)];exact e1
 refine ⟨r,e,s,?_⟩
 intro x
 induction x with
 | nil=>
  intro y z a b
  cases y with
  |nil=>simp [vZ] at a
  |cons c y=>
   cases z with
   |nil=>simp [vZ] at b
   |cons d z=>rfl
 | cons p x ih=>
  intro y z a b
  cases y with
  |nil=>simp [vZ] at a
  | cons c y=>
   cases z with
   |nil=>simp [vZ] at b
   | cons d z=>
    simp only [vZ] at a b ⊢
    by_cases e1:f p c=0
    ·rw [if_pos e1] at a
     have e1':=(h.e _ _).1 e1
     by_cases e2:f c d=0
     ·rw [if_pos e2] at b
      rw [←(h.e _ _).1 e2,if_pos e1];exact ih _ _ a b
     ·rw [if_neg e2] at b
      rw [e1',if_neg e2];exact b
    ·rw [if_neg e1] at a
     by_cases e2:f c d=0
     ·rw [←(h.e _ _).1 e2,if_neg e1];exact a
     ·rw [if_neg e2] at b
      have:=h.t _ _ _ a b
      rw [if_neg (by omega)];exact this
theorem cmC:Cm3 bT:=cmI.pull (fun x:UInt8=>(x.toNat:Int)) fun x y h=>by
 have:x.toNat=y.toNat:=by omega
 exact UInt8.toNat_inj.1 this
theorem cmB:Cm3 znM:=cmC.lex.pull (fun s:BA=>s.data.toList) fun x y h=>by
 have:x.data=y.data:=by rw [←Array.toList_inj];exact h
 exact ByteArray.ext this
theorem cmV:Cm3 iU:=(cmI.pair (cmI.pair cmB)).pull (fun v:Vl=>(v.t,v.n,v.s)) fun x y h=>by
 obtain ⟨a,b,c⟩:=x
 obtain ⟨a',b',c'⟩:=y
 simp only [Prod.mk.injEq] at h
 obtain ⟨rfl,rfl,rfl⟩:=h
 rfl
theorem zqQ:Cm3 sD:=cmV.lex
theorem Cm3.swo {α:Type} {f:α→α→Int} (h:Cm3 f):SWO (Go.Proofs.ltOf f):=by
 have ns: ∀ x y,f x y<0↔f x y= -1:=fun x y=>by have:=h.r x y;omega
 refine ⟨fun x=> ?_,fun x y z=> ?_,fun x y z=> ?_⟩
 ·have:=(h.e x x).2 rfl
  simp [Go.Proofs.ltOf,this]
 ·simp only [Go.Proofs.ltOf,decide_eq_true_eq,ns]
  exact h.t x y z
 ·simp only [Go.Proofs.ltOf,decide_eq_false_iff_not,ns]
  intro a b c
  have r1:=h.r x y
  have r2:=h.r y z
  have s1:=h.s x y
  have s2:=h.s y z
  have s3:=h.s x z
  rcases r1 with r1|r1|r1
  ·exact a r1
  ·have:=(h.e _ _).1 r1;subst this;exact b c
  ·rcases r2 with r2|r2|r2
   ·exact b r2
   ·have:=(h.e _ _).1 r2;subst this;omega
   ·have:=h.t z y x (by omega) (by omega);omega
theorem aG {β α:Type} {f:α→α→Int} (h:Cm3 f) (g:β→α) {xs ys zs:List β} (hx:xs.Perm zs) (hy:ys.Perm zs) (hn: ∀ a∈zs, ∀ b∈zs,g a=g b→a=b)
  (px:xs.Pairwise fun x y=>Go.Proofs.ltOf f (g y) (g x)=false) (py:ys.Pairwise fun x y=>Go.Proofs.ltOf f (g y) (g x)=false):xs=ys:=by
 refine List.Perm.eq_of_pairwise (le:=fun x y=>Go.Proofs.ltOf f (g y) (g x)=false) (fun a b ha hb h1 h2=> ?_) px py (hx.trans hy.symm)
 simp only [Go.Proofs.ltOf,decide_eq_false_iff_not] at h1 h2
 refine hn a (hx.mem_iff.1 ha) b (hy.mem_iff.1 hb) ?_
 have r:=h.r (g a) (g b)
 have s:=h.s (g a) (g b)
 exact (h.e _ _).1 (by omega)
end Go.AL
namespace Go.AL
open Go.RowKit Go.Sort Go.Shelf Go.Proofs
section
variable {P:Program} {G:Glob}
theorem dT {W W':World} (ht:TapeLe W W') (ho:W'.os=W.os) (hu:W'.output=W.output) (hs:W.heap.size≤W'.heap.size) (hh: ∀ b,b<W.heap.size→W'.heap[b]? =W.heap[b]?):
  ∃ q os,W'=grow (W.drewN q) os:=by
 refine ⟨W'.drawn-W.drawn,W'.heap.extract W.heap.size W'.heap.size,?_⟩
 obtain ⟨h1,t1,d1,o1,u1⟩:=W
 obtain ⟨h2,t2,d2,o2,u2⟩:=W'
 obtain ⟨ht,hd⟩:=ht
 dsimp only at*
 subst ht;subst ho;subst hu
 have e1:d1+(d2-d1)=d2:=by omega
 have e2:h1++h2.extract h1.size h2.size=h2:=by
  apply Array.ext_getElem?
  intro i
  rw [Array.getElem?_append]
  split
  ·rename_i hi;exact (hh i hi).symm
  ·rename_i hi
   rw [Array.getElem?_extract]
   split
   ·congr 1;omega
   ·rw [Array.getElem?_eq_none (by omega)]
 simp only [grow,World.drewN,e1,e2]
theorem Pure.calls {f:FuncId} {args:List PV} {u:Value} (k:Pure P G f args (.sc u)) (ht: ∀ p∈args,Tree p) (hG:GTree G) {φ:List Value} {h:Heap} {w:World} {X:Addr→Prop} (hGr:GRel ⟨φ,h,w,X⟩ G)
  {W:World} (hW: ∀ a v,St.M ⟨φ,h,w,X⟩ a v→W.cell? a=some v) (hsz:w.heap.size≤W.heap.size) {vs:Array Value} (hl:vs.size=args.length) (hv: ∀ (i:Nat) (p:PV) (v:Value),args[i]? =some p→vs[i]? =some v→VRel ⟨φ,h,w,X⟩ p v):
  Calls P f vs W fun e W'=>e= .returned u∧ ∃ q os,W'=grow (W.drewN q) os:=by
 let S:St:=⟨φ,h,w,X⟩
 let X0:Addr→Prop:=fun a=>a.block<W.heap.size∧ ¬S.Stable a
 have hm: ∀ a v,S.M a v→(⟨[],[],W,X0⟩:St).M a v:=fun a v hM=>⟨hW a v hM,hM.2.1,hM.2.2.1,Nat.lt_of_lt_of_le hM.2.2.2.1 hsz,fun hx=>hx.2 hM.2.2,fun r v hp=>by simp at hp⟩
 have hS0:SRel ⟨[],[],W,X0⟩:=⟨rfl,fun r b v hb=>by simp at hb,fun r r' v v' n hp=>by simp at hp,fun a ha=>ha.1,fun a ha r v hp=>by simp at hp⟩
 have hG0:GRel ⟨[],[],W,X0⟩ G:=fun g cs hg=>(hGr g cs hg).tree (.tp (hG g cs hg)) hm
 refine (callsIn_wide.1 (k.2 [] W X0 vs hS0 hG0 hl fun i p v hp hvv=>(hv i p v hp hvv).tree (ht p (List.mem_of_getElem? hp)) hm)).mono ?_
 rintro e W' ⟨φ',h',p,v,rfl,x,hS',hvr,rfl,rfl⟩
 refine ⟨by cases hvr;rfl,dT x.tape x.os x.output x.size fun b hb=>(x.unt b hb (by rintro ⟨r,y,hy,_⟩;simp at hy)).2⟩
theorem bF {S:St} (hS:SRel S) (os:Array Obj):Ext S {S with w:=grow S.w os}:=by
 have hh: ∀ b,b<S.w.heap.size→(grow S.w os).heap[b]? =S.w.heap[b]? :=fun b hb=>heap_grow_old S.w os hb
 refine ⟨rfl,rfl,iN,rfl,by simp,fun b hb hn=>⟨hn,hh b hb⟩,fun a v hm=> ?_,fun r b hb=>⟨b,hb,Blk.le_refl b rfl⟩,fun b m ⟨arr,t,f,hr,hm⟩=>⟨arr,t,f,(hh b (Array.getElem?_eq_some_iff.1 hr).1).trans hr,hm⟩⟩
 obtain ⟨h1,h2,h3,h4,h5,h6⟩:=hm
 exact ⟨(World.cell?_of_block (hh _ h4)).trans h1,h2,h3,by simp;omega,h5,h6⟩
theorem zc6 {S:St} (hS:SRel S) (os:Array Obj):SRel {S with w:=grow S.w os}:=
 ⟨hS.len,fun r b v hb hv=>(hS.blks r b v hb hv).ext (bF hS os) fun n hn=>heap_grow_old S.w os (hS.own_lt ⟨r,v,hv,hn⟩),hS.inj,
  fun a ha=>by have:=hS.xlt a ha;simp;omega,hS.xown⟩
abbrev sZ {β:Type} (f g:β→PV) (l:List β):List PV:=(l.map fun x=>[f x,g x]).flatten
theorem sQ {β:Type} (f g:β→PV) (l:List β):(sZ f g l).length=l.length*2:=by
 induction l with
 |nil=>rfl
 |cons x l ih=>simp only [sZ,List.map_cons,List.flatten_cons,List.length_append,List.length_cons,List.length_nil] at ih ⊢;omega
theorem kY {β:Type} (f g:β→PV): ∀ (l:List β) (i:Nat) (h:i<l.length),(sZ f g l)[i*2]? =some (f l[i])
 |x::l,0,_=>rfl
 |x::l,i+1,h=>by
  have:=kY f g l i (by simpa using h)
  rw [show (i+1)*2=i*2+1+1 by omega]
  simpa only [sZ,List.map_cons,List.flatten_cons,List.cons_append,List.nil_append,List.getElem?_cons_succ,List.getElem_cons_succ] using this
theorem eR {β:Type} (f g:β→PV): ∀ (l:List β) (i:Nat) (h:i<l.length),(sZ f g l)[i*2+1]? =some (g l[i])
 |x::l,0,_=>rfl
 |x::l,i+1,h=>by
  have:=eR f g l i (by simpa using h)
  rw [show (i+1)*2+1=i*2+1+1+1 by omega]
  simpa only [sZ,List.map_cons,List.flatten_cons,List.cons_append,List.nil_append,List.getElem?_cons_succ,List.getElem_cons_succ] using this
def kD (n:Nat) (arr:Array Value) (i:Nat):List Value:=if i<n then [arr.getD (i*2) undef,arr.getD (i*2+1) undef] else [.slice none 0 0,.slice none 0 0]
theorem bG (n:Nat) (arr:Array Value) (i:Nat):(kD n arr i).length=2:=by unfold kD;split<;>rfl
theorem zgA {n:Nat} {arr:Array Value} (hn:n*2≤arr.size) {i e:Nat} (hi:i<n) (he:e<2):(kD n arr i)[e]! =arr[i*2+e]'(by omega):=by
 unfold kD
 rw [if_pos hi]
 match e,he with
 |0,_=>simp [Array.getD,show i*2<arr.size by omega]
 |1,_=>simp [Array.getD,show i*2+1<arr.size by omega]
theorem ACall.pdqSort {α:Type} {ρ:Ren} (L:SlLaysF0.n14 P ρ) (aE: ∀ w,(isAgg (ρ.t 24)).run P w= .ok true w) (zE: ∀ w,(Go.sizeOf (ρ.t 24)).run P w= .ok 2 w) (hen:uG P (ρ.f 14)=true) (lim:Nat) (hlim:lim<4611686018427387904) (hG:GTree G)
  (c:α→PV) (d0:α) (hd0:PLe .nil (c d0)) (hct: ∀ x,Tree (c x)) (cf:α→α→Int) (hO:SWO (ltOf cf)) (g:FuncId) (K:α→Prop) (hK0:K d0)
  (hg: ∀ x y,K x→K y→Pure P G g [.agg [c x,.un],.agg [c y,.un]] (.sc (.int .i64 (cf x y)))) {h:Heap} {r:Nat} {t:TypeId} (xs:List (α×PV)) (hK: ∀ x∈xs,K x.1)
  (hr:h[r]? =some (.var t (sZ (fun x:α×PV=>c x.1) (·.2) xs))) (hlen:xs.length<4611686018427387904):
  ACall P G (ρ.f 14) [.ms r 0 2 xs.length,.sc (.int .i64 0),.sc (.int .i64 xs.length),.sc (.int .i64 lim),.fn (.func g) [] []] h fun p h'=>p= .tup []∧ ∃ ys:List (α×PV),ys.Perm xs∧ys.Pairwise (fun x y=>ltOf cf y.1 x.1=false)∧h'=h.set r (.var t (sZ (fun x:α×PV=>c x.1) (·.2) ys)):=by
 refine ⟨hen,fun φ w X vs hS hGr hl hv=> ?_⟩
 obtain ⟨v0,u1,u2,u3,v1,rfl⟩: ∃ v0 u1 u2 u3 v1,vs= #[v0,u1,u2,u3,v1]:=by
  obtain ⟨l⟩:=vs
  match l,hl with
  | [a,b,c,d,e],_=>exact ⟨a,b,c,d,e,rfl⟩
 have hv0:=hv 0 _ v0 rfl rfl
 have hv1:=hv 4 _ v1 rfl rfl
 obtain rfl:u1= .int .i64 0:=by have:=hv 1 _ u1 rfl rfl;cases this;rfl
 obtain rfl:u2= .int .i64 xs.length:=by have:=hv 2 _ u2 rfl rfl;cases this;rfl
 obtain rfl:u3= .int .i64 lim:=by have:=hv 3 _ u3 rfl rfl;cases this;rfl
 obtain rfl:v1= .func (.func g) #[] #[]:=by
  cases hv1 with
  |fn hl1 hl2 h3 h4=>
   rename_i us vs
   have e1:us= #[]:=Array.eq_empty_of_size_eq_zero (by simpa using hl1)
   have e2:vs= #[]:=Array.eq_empty_of_size_eq_zero (by simpa using hl2)
   subst e1;subst e2;rfl
 obtain ⟨b,cap,rfl,hφ⟩: ∃ b cap,v0= .slice (some ⟨b,0,none⟩) xs.length cap∧φ[r]? =some (.pointer (some ⟨b,0,none⟩)):=by
  cases hv0 with
  |ms hp hb=>exact ⟨_,_,rfl,hp⟩
  |oms hb=>rw [hr] at hb;cases hb
 obtain ⟨b',arr,e,hh,hsz,hone,hrel⟩:=hS.blks r _ _ hr hφ
 obtain rfl:b=b':=by cases e;rfl
 clear e hv hv0 hv1 hl
 rw [sQ] at hsz
 have hhs:w.heap[b]? =some (.cells arr t (0,0)):=hh
 have hblk:b<w.heap.size:=(Array.getElem?_eq_some_iff.1 hhs).1
 let n:=xs.length
 let a:Nat→α:=fun i=>(xs.map (·.1)).getD i d0
 have ha: ∀ (i:Nat) (hi:i<n),a i=xs[i].1:=fun i hi=>by simp only [a];rw [List.getD_eq_getElem?_getD,List.getElem?_map,List.getElem?_eq_getElem hi];rfl
 have ha': ∀ i, ¬i<n→a i=d0:=fun i hi=>by simp only [a];rw [List.getD_eq_getElem?_getD,List.getElem?_eq_none (by simp;omega)];rfl
 have hKa: ∀ i,K (a i):=fun i=>by
  by_cases hi:i<n
  ·rw [ha i hi];exact hK _ (List.getElem_mem hi)
  ·rw [ha' i hi];exact hK0
 have hO':SWO (ltOf fun i j:Nat=>cf (a i) (a j)):=⟨fun x=>hO.irrefl (a x),fun x y z=>hO.trans (a x) (a y) (a z),fun x y z=>hO.ntrans (a x) (a y) (a z)⟩
 have h1: ∀ x, ∀ v∈kD n arr x,v.oneCell'=true:=fun x v hv=>by
  unfold kD at hv
  split at hv
  ·rename_i hx
   have i0:x*2<arr.size:=by omega
   have i1:x*2+1<arr.size:=by omega
   simp only [List.mem_cons,List.not_mem_nil,or_false] at hv
   rcases hv with rfl|rfl
   ·simp only [Array.getD,i0,dif_pos];exact hone _ _ (Array.getElem?_eq_getElem i0)
   ·simp only [Array.getD,i1,dif_pos];exact hone _ _ (Array.getElem?_eq_getElem i1)
  ·simp only [List.mem_cons,List.not_mem_nil,or_false] at hv
   rcases hv with rfl|rfl<;>rfl
 have cellb: ∀ j,w.cell? ⟨b,j,none⟩=arr[j]? :=fun j=>by simp [World.cell?,hhs]
 have flatE: ∀ (d:Array Nat),d.size=n→(∀ i<n,d[i]! <n)→ ∀ j,(hj:j<n*2)→(flatK (kD n arr) 2 d)[j]! =arr[d[j / 2]! *2+j%2]! :=fun d hd hdn j hj=>by
  rw [get_flatK _ _ _ _ (by rw [hd];exact hj)]
  have:=hdn (j / 2) (by omega)
  rw [zgA hsz this (Nat.mod_lt _ (by omega)),getElem!_pos arr _ (by omega)]
 have hH:HoldsK (kD n arr) 2 w b 0 (Array.range n):=by
  intro j hj
  have hj':j<n*2:=by simpa using hj
  have hr0: ∀ i,i<n→(Array.range n)[i]! =i:=fun i hi=>by rw [getElem!_pos _ _ (by simpa using hi)];simp
  rw [flatE _ (by simp) (fun i hi=>by rw [hr0 i hi];exact hi) j hj',hr0 _ (by omega),show j / 2*2+j%2=j by omega,Nat.zero_add,cellb,getElem!_pos arr j (by omega)]
  refine ⟨Array.getElem?_eq_getElem (by omega),?_⟩
  simp only [World.frozen?,hhs]
  simp
 have eg: ∀ args w,(callFunc g args).run P w= .ok (.enter g args) w:=iC (hg d0 d0 hK0 hK0).1
 have hMb: ∀ a v,St.M ⟨φ,h,w,X⟩ a v→a.block≠b∧a.block<w.heap.size:=fun a v hM=>by
  refine ⟨fun e=> ?_,hM.2.2.2.1⟩
  obtain ⟨e',k,n,hh',_⟩:=hM.2.2.2.2.2 r _ hφ (by simp [sC,e])
  rw [show h[r]? =_ from hr] at hh'
  cases hh'
 have hvr: ∀ x,VRel ⟨φ,h,w,X⟩ (.agg [c (a x),.un]) (.agg (kD n arr x).toArray):=fun x=>by
  refine .agg (by simp [bG]) (fun i v hv=>h1 x v (by rw [←List.mem_toArray];exact Array.mem_of_getElem? hv)) fun i p v hp hv=> ?_
  match i,hp,hv with
  |1,hp,hv=>simp at hp;subst hp;exact .un
  |i+2,hp,hv=>simp at hp
  | 0,hp,hv=>
   simp only [List.getElem?_cons_zero,Option.some.injEq] at hp
   subst hp
   unfold kD at hv
   by_cases hx:x<n
   ·rw [if_pos hx] at hv
    have i0:x*2<arr.size:=by omega
    simp [Array.getD,i0] at hv
    subst hv
    have:=kY (fun x:α×PV=>c x.1) (·.2) xs x hx
    rw [ha x hx]
    exact hrel (x*2) _ _ this (Array.getElem?_eq_getElem i0)
   ·rw [if_neg hx] at hv
    simp at hv
    subst hv
    rw [ha' x hx]
    exact hd0 _ _ .nil
 have hcmp:CmpLays P g #[] (kD n arr) 2 (fun i j=>cf (a i) (a j)) b 0 (Array.range n).size w:=fun m os dk hdk x y=>by
  refine Pure.calls (hg (a x) (a y) (hKa x) (hKa y)) (by
   intro p hp
   simp only [List.mem_cons,List.not_mem_nil,or_false] at hp
   rcases hp with rfl|rfl
   ·exact .agg fun q hq=>by simp only [List.mem_cons,List.not_mem_nil,or_false] at hq;rcases hq with rfl|rfl<;>first|exact hct _|exact .un
   ·exact .agg fun q hq=>by simp only [List.mem_cons,List.not_mem_nil,or_false] at hq;rcases hq with rfl|rfl<;>first|exact hct _|exact .un) hG hGr (fun ad v hM=> ?_) (size_sortWorldK_c _ _ _ _ _ _ _ _) (by simp) fun i p v hp hv=> ?_
  ·obtain ⟨hne,hlt⟩:=hMb ad v hM
   unfold sortWorldK
   rw [cell?_grow _ _ _ (by simpa [putRowK,putRow,mapBlock,Go.Sort.ahead] using hlt),cell?_putRowK_other _ _ _ _ _ _ _ hne]
   exact hM.1
  ·match i,hp,hv with
   |0,hp,hv=>simp at hp hv;subst hp;subst hv;exact hvr x
   |1,hp,hv=>simp at hp hv;subst hp;subst hv;exact hvr y
   |i+2,hp,hv=>simp at hp
 have hcon:=AnyQ.pdqsortCmpFunc_all L 2 aE zE (kD n arr) (fun i j=>cf (a i) (a j)) g #[] hO' b 0 cap (Array.range n) w eg hcmp ⟨bG n arr,h1,hH,hblk⟩ ((Array.range n).size+1) 0 (Array.range n).size lim (Array.range n) w (by omega) rfl (SWK.start hH) (Nat.zero_le _) (Nat.le_refl _) (by simpa using hlen) hlim (Or.inl rfl)
 rw [show (Array.range n).size=xs.length by simp [n]] at hcon
 have hpd:=pdq_sorts (ltOf fun i j=>cf (a i) (a j)) hO' (Array.range n) 0 xs.length lim true true (Nat.zero_le _) (by simp [n]) (Or.inl rfl)
 refine (callsIn_wide.2 hcon).mono ?_
 rintro e w' ⟨rfl,m,os,rfl⟩
 obtain ⟨⟨hds, -,hperm⟩,hsorted⟩:=hpd
 generalize Go.Sort.pdq (ltOf fun i j=>cf (a i) (a j)) (Array.range n) 0 xs.length lim true true=d' at*
 have hds:d'.size=n:=by simpa using hds
 have hpm:d'.toList.Perm (List.range n):=by
  have e1:(d'.extract 0 xs.length).toList=d'.toList:=by rw [show xs.length=d'.size from hds.symm,Array.extract_size]
  have e2:((Array.range n).extract 0 xs.length).toList=List.range n:=by
   rw [show xs.length=(Array.range n).size by simp [n],Array.extract_size];simp
  rw [e1,e2] at hperm
  exact hperm
 have hdn: ∀ i<n,d'[i]! <n:=fun i hi=>by
  have:d'[i]! ∈d'.toList:=by rw [getElem!_pos d' i (by omega)];exact Array.mem_toList_iff.2 (Array.getElem_mem _)
  exact List.mem_range.1 (hpm.mem_iff.1 this)
 have hn0: ∀ x:List (α×PV),x=xs→n=x.length:=fun x hx=>by subst hx;rfl
 let ys:List (α×PV):=d'.toList.map fun i=>xs.getD i (d0,.un)
 have hys:ys.length=n:=by simp [ys,hds]
 have hgy: ∀ (i:Nat) (hi:i<ys.length),ys[i]=xs[d'[i]!]'(hdn i (by omega)):=fun i hi=>by
  have hi':i<n:=by omega
  simp only [ys,List.getElem_map,Array.getElem_toList]
  rw [List.getD_eq_getElem?_getD, ←getElem!_pos d' i (by omega),List.getElem?_eq_getElem (hdn i hi')]
  rfl
 have hxs:(List.range n).map (fun i=>xs.getD i (d0,.un))=xs:=by
  refine List.ext_getElem (by simp [n]) fun i h1 h2=> ?_
  simp only [List.getElem_map,List.getElem_range]
  rw [List.getD_eq_getElem?_getD,List.getElem?_eq_getElem h2];rfl
 have hyp:ys.Perm xs:=by
  have:=hpm.map (fun i=>xs.getD i (d0,PV.un))
  rw [hxs] at this
  exact this
 have hyw:ys.Pairwise fun x y=>ltOf cf y.1 x.1=false:=by
  rw [List.pairwise_iff_getElem]
  intro i j hi hj hij
  have:=hsorted i j (Nat.zero_le _) hij (by omega)
  simp only [ltOf] at this ⊢
  rw [hgy i hi,hgy j hj, ←ha _ (hdn i (by omega)), ←ha _ (hdn j (by omega))]
  exact this
 have hl':(sZ (fun x:α×PV=>c x.1) (·.2) ys).length=(sZ (fun x:α×PV=>c x.1) (·.2) xs).length:=by rw [sQ,sQ,hys]
 let w1:World:=putRowK (kD n arr) 2 (Go.Sort.ahead w m) b 0 d'
 let arr':Array Value:=putCells id 0 (flatK (kD n arr) 2 d') arr
 have hw1: ∀ k,k≠b→w1.heap[k]? =w.heap[k]? :=fun k hk=>by
  simp only [w1,putRowK,putRow,mapBlock,Go.Sort.ahead,Array.getElem?_modify]
  rw [if_neg (fun e=>hk e.symm)]
 have hw1b:w1.heap[b]? =some (.cells arr' t (0,0)):=by
  simp only [w1,putRowK,putRow,mapBlock,Go.Sort.ahead,Array.getElem?_modify]
  rw [if_pos trivial,hhs]
  rfl
 have hasz:arr'.size=arr.size:=by simp [arr',putCells]
 have hs1:w1.heap.size=w.heap.size:=by simp [w1,putRowK,putRow,mapBlock,Go.Sort.ahead]
 have hag: ∀ j,j<arr.size→arr'[j]? =some (if j<n*2 then arr[d'[j / 2]! *2+j%2]! else arr[j]!):=fun j hj=>by
  simp only [arr',putCells,Array.getElem?_mapIdx,Array.getElem?_eq_getElem hj,Option.map_some,size_flatK,hds,Nat.zero_add,Nat.zero_le,true_and,Nat.sub_zero,id]
  by_cases hjn:j<n*2
  ·rw [if_pos hjn,if_pos hjn,flatE d' hds hdn j hjn]
  ·rw [if_neg hjn,if_neg hjn,getElem!_pos arr j hj]
 have hone': ∀ (i:Nat) (u:Value),arr'[i]? =some u→u.oneCell'=true:=fun i u hu=>by
  have hi:i<arr.size:=by rw [←hasz];exact (Array.getElem?_eq_some_iff.1 hu).1
  rw [hag i hi] at hu
  cases hu
  split
  ·have:=hdn (i / 2) (by omega)
   rw [getElem!_pos arr _ (by omega)]
   exact hone _ _ (Array.getElem?_eq_getElem _)
  ·rw [getElem!_pos arr _ hi]
   exact hone _ _ (Array.getElem?_eq_getElem _)
 have hrow: ∀ b1 m1,St.Row ⟨φ,h,w,X⟩ b1 m1→St.Row {(⟨φ,h,w,X⟩:St) with w:=w1} b1 m1:=by
  rintro b1 m1 ⟨ar1,t1,f1,hr1,hm1⟩
  by_cases e:b1=b
  ·subst e
   rw [show w.heap[b1]? =some (.cells ar1 t1 f1) from hr1] at hhs
   cases hhs
   exact ⟨arr',_,_,hw1b,by rw [hasz];exact hm1⟩
  ·exact ⟨ar1,t1,f1,(hw1 b1 e).trans hr1,hm1⟩
 have htl:TapeLe w w1:=⟨rfl,Nat.le_add_right _ _⟩
 have hvn: ∀ (i:Nat) (p:PV) (u:Value),(sZ (fun x:α×PV=>c x.1) (·.2) ys)[i]? =some p→arr'[i]? =some u→VRel ⟨φ,h,w,X⟩ p u:=fun i p u hp hu=>by
  have hi:i<n*2:=by have:=(gsi hp).1;rw [sQ,hys] at this;exact this
  rw [hag i (by omega),if_pos hi] at hu
  cases hu
  have hd:=hdn (i / 2) (by omega)
  rw [getElem!_pos arr _ (by omega)]
  refine hrel (d'[i / 2]! *2+i%2) p _ ?_ (Array.getElem?_eq_getElem _)
  have hi2:i / 2<ys.length:=by omega
  rcases Nat.mod_two_eq_zero_or_one i with he|he
  ·have e1:=kY (fun x:α×PV=>c x.1) (·.2) ys (i / 2) hi2
   rw [show i / 2*2=i by omega,hp,hgy _ hi2] at e1
   rw [he,Nat.add_zero,kY _ _ xs _ hd,e1]
  ·have e1:=eR (fun x:α×PV=>c x.1) (·.2) ys (i / 2) hi2
   rw [show i / 2*2+1=i by omega,hp,hgy _ hi2] at e1
   rw [he,eR _ _ xs _ hd,e1]
 have x1:=eT (arr':=arr') hS hφ hr hl' (w':=w1) rfl htl rfl hs1 hw1 hrow
 have hS1:=cM (arr':=arr') hS hφ hr hl' (w':=w1) rfl htl rfl hs1 hw1 hrow hw1b (by rw [sQ,hys,hasz];exact hsz) hone' hvn
 refine ⟨φ,h.set r (.var t (sZ (fun x:α×PV=>c x.1) (·.2) ys)),.tup [],.tuple #[],rfl,x1.trans (bF hS1 os),zc6 hS1 os,.tup rfl fun i p v hp=>by simp at hp,rfl,ys,hyp,hyw,rfl⟩
theorem ACall.pdqNone {ρ:Ren} (L:SlLaysF0.n14 P ρ) (hen:uG P (ρ.f 14)=true) (lim:Int) (g:FuncId) (h:Heap):
  ACall P G (ρ.f 14) [.nil,.sc (.int .i64 0),.sc (.int .i64 0),.sc (.int .i64 lim),.fn (.func g) [] []] h fun p h'=>p= .tup []∧h'=h:=by
 refine ⟨hen,fun φ w X vs hS hGr hl hv=> ?_⟩
 obtain ⟨v0,u1,u2,u3,v1,rfl⟩: ∃ v0 u1 u2 u3 v1,vs= #[v0,u1,u2,u3,v1]:=by
  obtain ⟨l⟩:=vs
  match l,hl with
  | [a,b,c,d,e],_=>exact ⟨a,b,c,d,e,rfl⟩
 obtain rfl:v0= .slice none 0 0:=by have:=hv 0 _ v0 rfl rfl;cases this;rfl
 obtain rfl:u1= .int .i64 0:=by have:=hv 1 _ u1 rfl rfl;cases this;rfl
 obtain rfl:u2= .int .i64 0:=by have:=hv 2 _ u2 rfl rfl;cases this;rfl
 obtain rfl:u3= .int .i64 lim:=by have:=hv 3 _ u3 rfl rfl;cases this;rfl
 refine (callsIn_wide.2 (AnyF.pdqsortCmpFunc_none L none 0 lim v1 w)).mono ?_
 rintro e w' ⟨rfl,rfl⟩
 exact ⟨φ,h,.tup [],.tuple #[],rfl,Ext.refl _,hS,.tup rfl fun i p v hp=>by simp at hp,rfl,rfl⟩
theorem ACall.bitsLen {ρ:Ren} (L:SlLaysF0.n14 P ρ) (hen:uG P (ρ.f 15)=true) (n:Nat) (hn:n<4611686018427387904) (h:Heap):
  ACall P G (ρ.f 15) [.sc (.int .u64 n)] h fun p h'=>p= .sc (.int .i64 (Lib.bitLen n:Nat))∧h'=h:=by
 refine ⟨hen,fun φ w X vs hS hGr hl hv=> ?_⟩
 obtain ⟨v0,rfl⟩: ∃ v0,vs= #[v0]:=by
  obtain ⟨l⟩:=vs
  match l,hl with
  | [a],_=>exact ⟨a,rfl⟩
 obtain rfl:v0= .int .u64 n:=by have:=hv 0 _ v0 rfl rfl;cases this;rfl
 have hb:=Any.bits_Len (SlLaysF0.n15.bits (P:=P) (ρ:=ρ) {L with}) (n:Int) w (by omega) (by omega)
 rw [Int.toNat_natCast] at hb
 have hlt:Lib.bitLen n≤62:=Lib.bitLen_le n 62 (by omega) (by omega)
 refine (callsIn_wide.2 hb).mono ?_
 rintro e w' ⟨rfl,rfl⟩
 have k1:IntKind.i64.min= -9223372036854775808:=by decide
 have k2:IntKind.i64.max=9223372036854775807:=by decide
 have hok:tJ (.int .i64 ((Lib.bitLen n:Nat):Int)):=⟨by rw [k1];omega,by rw [k2];omega⟩
 exact ⟨φ,h,_,_,rfl,Ext.refl _,hS,.sc hok,rfl,rfl⟩
end
end Go.AL
namespace Go.Proofs
open Go.Shelf
def Tryz.sortLRow_ren:Go.Shelf.Ren:=⟨fun|14=>136|20=>175|21=>176|22=>177|23=>178|24=>179|25=>180|26=>181|27=>182|46=>208|47=>209|48=>210|49=>211|50=>212|15=>137|57=>222|28=>183|29=>184|n=>n,fun|24=>130|22=>88|3=>3|25=>180|4=>4|0=>0|46=>265|45=>264|50=>246|66=>290|39=>230|55=>145|70=>294|76=>304|77=>305|53=>271|5=>5|9=>9|n=>n,fun n=>n⟩
theorem Tryz.sortLRow:Go.Proofs.SlLaysF0.n14 Tryz.prog Tryz.sortLRow_ren:={
 mixed:=by kernel_rfl
 f14:=⟨Tryz.f136.name,by decide,Tryz.func136.trans (congrArg some (by kernel_rfl))⟩
 f15:=Tryz.func137.trans (congrArg some (by kernel_rfl))
 f20:=⟨Tryz.f175.name,by decide,Tryz.func175.trans (congrArg some (by kernel_rfl))⟩
 f21:=⟨Tryz.f176.name,by decide,Tryz.func176.trans (congrArg some (by kernel_rfl))⟩
 f22:=⟨Tryz.f177.name,by decide,Tryz.func177.trans (congrArg some (by kernel_rfl))⟩
 f23:=⟨Tryz.f178.name,by decide,Tryz.func178.trans (congrArg some (by kernel_rfl))⟩
 f24:=⟨Tryz.f179.name,by decide,Tryz.func179.trans (congrArg some (by kernel_rfl))⟩
 f25:=⟨Tryz.f180.name,by decide,Tryz.func180.trans (congrArg some (by kernel_rfl))⟩
 f26:=⟨Tryz.f181.name,by decide,Tryz.func181.trans (congrArg some (by kernel_rfl))⟩
 f27:=⟨Tryz.f182.name,by decide,Tryz.func182.trans (congrArg some (by kernel_rfl))⟩
 f28:=Tryz.func183.trans (congrArg some (by kernel_rfl))
 f29:=Tryz.func184.trans (congrArg some (by kernel_rfl))
 f46:=⟨Tryz.f208.name,by decide,Tryz.func208.trans (congrArg some (by kernel_rfl))⟩
 f47:=Tryz.func209.trans (congrArg some (by kernel_rfl))
 f48:=Tryz.func210.trans (congrArg some (by kernel_rfl))
 f49:=⟨Tryz.f211.name,by decide,Tryz.func211.trans (congrArg some (by kernel_rfl))⟩
 f50:=⟨Tryz.f212.name,by decide,Tryz.func212.trans (congrArg some (by kernel_rfl))⟩
 f57:=⟨Tryz.f222.name,by decide,Tryz.func222.trans (congrArg some (by kernel_rfl))⟩
 t0:=Tryz.underlying0
 a0:=Tryz.isAgg0
 z0:=Tryz.sizeOf0
 v0:=Tryz.zeroValue0
 t3:=Tryz.underlying3
 a3:=Tryz.isAgg3
 z3:=Tryz.sizeOf3
 v3:=Tryz.zeroValue3
 t4:=Tryz.underlying4
 a4:=Tryz.isAgg4
 z4:=Tryz.sizeOf4
 v4:=Tryz.zeroValue4
 t5:=Tryz.underlying5
 a5:=Tryz.isAgg5
 z5:=Tryz.sizeOf5
 v5:=Tryz.zeroValue5
 t9:=Tryz.underlying9
 a9:=Tryz.isAgg9
 z9:=Tryz.sizeOf9
 v9:=Tryz.zeroValue9
 t22:=Tryz.underlying88
 a22:=Tryz.isAgg88
 z22:=Tryz.sizeOf88
 v22:=Tryz.zeroValue88
 t25:=Tryz.underlying180
 a25:=Tryz.isAgg180
 z25:=Tryz.sizeOf180
 v25:=Tryz.zeroValue180
 t39:=Tryz.underlying230
 a39:=Tryz.isAgg230
 z39:=Tryz.sizeOf230
 v39:=Tryz.zeroValue230
 t45:=Tryz.underlying264
 a45:=Tryz.isAgg264
 z45:=Tryz.sizeOf264
 v45:=Tryz.zeroValue264
 t46:=Tryz.underlying265
 a46:=Tryz.isAgg265
 z46:=Tryz.sizeOf265
 v46:=Tryz.zeroValue265
 t50:=Tryz.underlying246
 a50:=Tryz.isAgg246
 z50:=Tryz.sizeOf246
 v50:=Tryz.zeroValue246
 t53:=Tryz.underlying271
 a53:=Tryz.isAgg271
 z53:=Tryz.sizeOf271
 v53:=Tryz.zeroValue271
 t55:=Tryz.underlying145
 a55:=Tryz.isAgg145
 z55:=Tryz.sizeOf145
 v55:=Tryz.zeroValue145
 t66:=Tryz.underlying290
 a66:=Tryz.isAgg290
 z66:=Tryz.sizeOf290
 v66:=Tryz.zeroValue290
 t70:=Tryz.underlying294
 a70:=Tryz.isAgg294
 z70:=Tryz.sizeOf294
 v70:=Tryz.zeroValue294
 t76:=Tryz.underlying304
 a76:=Tryz.isAgg304
 z76:=Tryz.sizeOf304
 v76:=Tryz.zeroValue304
 t77:=Tryz.underlying305
 a77:=Tryz.isAgg305
 z77:=Tryz.sizeOf305
 v77:=Tryz.zeroValue305}
end Go.Proofs
