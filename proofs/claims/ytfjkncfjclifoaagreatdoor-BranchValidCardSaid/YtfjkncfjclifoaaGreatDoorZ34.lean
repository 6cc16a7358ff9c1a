/-
  The order of tuples.
-/
import Derived.Test.YtfjkncfjclifoaaGreatDoorZ33
import Derived.Sort.Statements
import Derived.Shelf.SlSortCmp.Insertion
set_option linter.unusedSimpArgs false
set_option linter.unusedVariables false
set_option maxRecDepth 100000
set_option maxHeartbeats 4000000
namespace Go.AL
open Go.Proofs Go.Proofs.Tryz
theorem mG (bs:BA) (c:UInt8):xH (bs.push c)=xH bs++[[.sc (.int .u8 c.toNat)]]:=by
 unfold xH
 have:(bs.push c).data.toList=bs.data.toList++[c]:=by
  show (bs.data.push c).toList=_
  simp
 rw [this,List.map_append];rfl
theorem kA (a b:BA):xH (a++b)=xH a++xH b:=by
 unfold xH
 have:(a++b).data.toList=a.data.toList++b.data.toList:=by simp
 rw [this,List.map_append]
theorem ziJ (v:Int): ∃ c:UInt8,IntKind.u8.wrap v=((c.toNat:Nat):Int):=by
 refine ⟨UInt8.ofNat (IntKind.u8.wrap v).toNat,?_⟩
 rw [IntKind.wrap_u8]
 simp
 omega
abbrev KB (J:Heap) (V:PV) (bs:BA):Prop:=GrowN 0 5 (xH bs) 1 J V
theorem KB.mono {J J':Heap} {V:PV} {bs:BA} (h:KB J V bs) (k: ∀ (q n:Nat),J[q]? =some (.vec 5 1 n)→J'[q]? =some (.vec 5 1 n)):KB J' V bs:=by
 rcases h with h|⟨q,h1,hq⟩
 ·exact .inl h
 ·exact .inr ⟨q,h1,k _ _ hq⟩
theorem zjD (args:List Vl) (hl:args.length≤1048576) (hs: ∀ a∈args,a.s.size≤16):EPure prog G0 131 [pH args] fun p=> ∃ s,p=yQ s:=by
 refine ECall.cut (R:=fun p _=> ∃ s,p=yQ s) (pv func131 48 false (by kernel_rfl) rfl rfl ?_) (by rintro p h ⟨n,rfl⟩;exact ⟨n,rfl⟩)
 refine g2 ?_
 refine ge ?_
 refine zO args.length (.k:: .k:: .k:: .v:: .k:: .d:: .k:: .d:: .d:: .k:: .k:: .v::D9 (D9 (D9 (D4 (.d:: .d:: .d:: .k:: .k::[]))))) (own:=false) (fun i (s:PV×BA×Heap)=>[s.1,i64 i]) (fun s=>s.2.2) (fun i s=>KB s.2.2 s.1 s.2.1∧s.2.1.size≤i*40) (.nil,⟨#[]⟩,[]) rfl rfl ⟨.inl ⟨rfl,rfl⟩,Nat.zero_le _⟩ (by omega) ?_ ?_
 ·rintro ⟨V,bs,J⟩ ⟨hI,hn⟩ t ht
  dsimp only at*
  simp only [zY] at ht;subst ht
  refine gf @zM ?_
  rcases hI with ⟨h0,rfl⟩|⟨q,rfl,hq⟩
  ·have hb:bs= .empty:=by
    have:=congrArg List.length h0
    rw [xC] at this
    exact ByteArray.ext (Array.eq_empty_of_size_eq_zero this)
   (refine wU ?_;intro sr hsr;simp only [go_sem] at hsr;subst hsr;refine iR rfl (fun rd=>OpOk.bytesStr (x:= .tmp 46) rfl (.inr ⟨rfl,hb⟩) (by kernel_rfl:prog.underlying 274=some (.slice 5)) (by kernel_rfl) (by kernel_rfl) ⟨rfl,rfl⟩) ?_;intro ts2 hts;simp only [go_sem] at hts;subst hts)
   refine ge ?_
   exact ⟨_,rfl⟩
  ·(refine wU ?_;intro sr hsr;simp only [go_sem] at hsr;subst hsr;refine iR rfl (fun rd=>OpOk.bytesStr (x:= .tmp 46) (bs:=bs) rfl (.inl rfl) (by kernel_rfl:prog.underlying 274=some (.slice 5)) (by kernel_rfl) (by kernel_rfl) ⟨rfl,rfl⟩) ?_;intro ts2 hts;simp only [go_sem] at hts;subst hts)
   refine ge ?_
   exact ⟨_,rfl⟩
 ·rintro i ⟨V,bs,J⟩ hi hw ⟨hI,hn⟩ t ht
  dsimp only at*
  simp only [zY] at ht;subst ht
  have hx:=zG (f:=Vl.c) [] hi
  have hsx:=hs _ (List.getElem_mem hi)
  generalize args[i]=x at*
  refine gf (a6 @hi @hx @zB @hw @zA @zD) ?_
  have hKB0:KB (J++[.var 72 x.c]) V bs:=hI.mono fun q n hq=>by rw [List.getElem?_append_left (gsi hq).1];exact hq
  have hp0:(J++[.var 72 x.c])[J.length]? =some (.var 72 x.c):=zA _ _
  generalize J.length=p at*
  generalize J++[.var 72 x.c]=J1 at*
  refine zO 3 (.k:: .k:: .k:: .v:: .k:: .k:: .k:: .d:: .d::K9 (K4 (.k:: .k:: .v::D9 (D4 (.d:: .d:: .d::K4 (.k:: .k:: .k::[])))))) (own:=false) (fun i (s:PV×BA×Heap)=>[s.1,i64 i]) (fun s=>s.2.2) (fun j s=>KB s.2.2 s.1 s.2.1∧s.2.1.size≤i*40+j*8∧s.2.2[p]? =some (.var 72 x.c)∧(0<j→0<s.2.1.size)) (V,bs,J1) rfl rfl ⟨hKB0,by omega,hp0,by simp⟩ (by omega) ?_ ?_
  ·rintro ⟨V2,bs2,J2⟩ ⟨hI2,hn2,hp2,hpos⟩ t ht
   dsimp only at*
   simp only [zY] at ht;subst ht
   have h3:(((3:Nat):Int)<3)=False:=by simp
   rcases hI2 with ⟨h0,rfl⟩|⟨q,rfl,hq⟩
   ·have:=congrArg List.length h0
    rw [xC,List.length_nil] at this
    omega
   ·refine gf (a3 @hw @h3 @hp2) ?_
    have hbl:(xH bs2).length=bs2.size:=xC _
    have hqJ:q<J2.length:=(gsi hq).1
    (refine wU ?_;intro sr hsr;simp only [go_sem,hw,h3,hp2] at hsr;subst hsr;refine iR rfl (fun rd=>OpOk.appendStr (s:= .tmp 41) (x:= .tmp 43) rfl rfl rfl rfl rfl rfl (by kernel_rfl:wD prog 274=some (5,1,1)) (by kernel_rfl) hq (by rw [hbl];omega) (by rw [hbl];omega) ⟨rfl,rfl⟩) ?_;intro ts2 hts;simp only [go_sem] at hts;subst hts)
    refine gf (a3 @hw @h3 @hp2) ?_
    exact ⟨(_,bs2++x.s,_),⟨.inr ⟨q,by rw [kA],by rw [List.getElem?_set_self hqJ,kA,List.length_append,xC x.s]⟩,by dsimp only;rw [ByteArray.size_append];omega⟩,(by simp only [zY,xJ,List.tail_cons];rfl),rfl,rfl⟩
  ·rintro j ⟨V2,bs2,J2⟩ hj hw2 ⟨hI2,hn2,hp2,hpos⟩ t ht
   dsimp only at*
   simp only [zY] at ht;subst ht
   have h3:((j:Int)<3)=True:=by simp;omega
   have h3n: ∃ n:Int,([[i64 x.t],[i64 x.n],[i64 x.s.size]]:List (List PV)).getD j []=[i64 n]:=by
    match j,hj with
    |0,_=>exact ⟨_,rfl⟩
    |1,_=>exact ⟨_,rfl⟩
    |2,_=>exact ⟨_,rfl⟩
   obtain ⟨n,h3n⟩:=h3n
   refine gf (a5 @h3 @hj @h3n @zB @hw2) ?_
   refine zO 8 (.k:: .k:: .k:: .v::K4 (.d::K9 (K9 (.k:: .v::D9 (.d:: .d::K4 (K4 ([]))))))) (own:=false) (fun i (s:PV×BA×Heap)=>[s.1,i64 i]) (fun s=>s.2.2) (fun k s=>KB s.2.2 s.1 s.2.1∧s.2.1.size≤i*40+j*8+k∧s.2.2[p]? =some (.var 72 x.c)∧(0<k→0<s.2.1.size)) (V2,bs2,J2) rfl rfl ⟨hI2,by dsimp only;omega,hp2,by simp⟩ (by omega) ?_ ?_
   ·rintro ⟨V3,bs3,J3⟩ ⟨hI3,hn3,hp3,hpos3⟩ t ht
    dsimp only at*
    simp only [zY] at ht;subst ht
    have h8:(((8:Nat):Int)<8)=False:=by simp
    refine gf (a4 @h8 @h3 @hj @hw2) ?_
    exact ⟨(V3,bs3,J3),⟨hI3,by dsimp only;omega,hp3,fun _=>hpos3 (by omega)⟩,rfl,rfl,rfl⟩
   ·rintro k ⟨V3,bs3,J3⟩ hk hw3 ⟨hI3,hn3,hp3,hpos3⟩ t ht
    dsimp only at*
    simp only [zY] at ht;subst ht
    have h8:((k:Int)<8)=True:=by simp;omega
    have h8k:IntKind.i64.wrap (8*(k:Int))=((8*k:Nat):Int):=by rw [IntKind.wrap_i64];omega
    obtain ⟨c,hc⟩:=ziJ (n / 2 ^ min (8*k) 64)
    rcases hI3 with ⟨h0,rfl⟩|⟨q,rfl,hq⟩
    ·have hb:bs3=⟨#[]⟩:=by
      have:=congrArg List.length h0
      rw [xC] at this
      exact ByteArray.ext (Array.eq_empty_of_size_eq_zero this)
     subst hb
     refine gf (a6 @h8 @hk @hw3 @h8k @hc @iS) ?_
     have hb1:((⟨#[]⟩:BA).push c).size=1:=rfl
     exact ⟨(_,(⟨#[]⟩:BA).push c,_),⟨.inr ⟨J3.length,by rw [mG],by simp [xC,hb1]⟩,by dsimp only;omega,by dsimp only;rw [List.getElem?_append_left (gsi hp3).1];exact hp3,fun _=>by dsimp only;omega⟩,(by simp only [zY,xJ,List.tail_cons];rfl),rfl,rfl⟩
    ·have hqJ:q<J3.length:=(gsi hq).1
     have hbl:(xH bs3).length=bs3.size:=xC _
     refine gf (a8 @h8 @hk @hw3 @h8k @hc @hq @hbl @iS) ?_
     have hb1:(bs3.push c).size=bs3.size+1:=ByteArray.size_push
     have hqp:q≠p:=fun e=>by subst e;rw [hq] at hp3;cases hp3
     exact ⟨(_,bs3.push c,_),⟨.inr ⟨q,by rw [mG],by rw [List.getElem?_set_self hqJ,xC,hb1]⟩,by dsimp only;omega,by dsimp only;rw [List.getElem?_set_ne hqp];exact hp3,fun _=>by dsimp only;omega⟩,(by simp only [zY,xJ,List.tail_cons];rfl),rfl,rfl⟩
noncomputable def zk0 (args:List Vl):BA:=open Classical in if h: ∃ s,EPure prog G0 131 [pH args] (fun p=>p=yQ s) then Classical.choose h else ⟨#[]⟩
theorem zlY (args:List Vl) (hl:args.length≤1048576) (hs: ∀ a∈args,a.s.size≤16):EPure prog G0 131 [pH args] fun p=>p=yQ (zk0 args):=by
 have h: ∃ s,EPure prog G0 131 [pH args] (fun p=>p=yQ s):=by
  obtain ⟨p,⟨s,rfl⟩,t,c⟩:=zjD args hl hs
  exact ⟨s,yQ s,rfl,t,c⟩
 unfold zk0
 rw [dif_pos h]
 exact Classical.choose_spec h
end Go.AL
namespace Go.AL
open Go.Proofs Go.Proofs.Tryz
@[go_sem] def UCel2f88.pl:Nat→DPlan
 |13=>⟨[yA,yA,yA,yB,yA,yA,yA,yA,yB,yA,yA,yA,yC,yA,yC,yC,yA,yC],yM,0⟩
 |_=>⟨[],[],0⟩
theorem tmL:kC prog 173=some (9,.string,177):=by kernel_rfl
theorem zjX (r o:Nat):sE (α:=Prop) prog 177 (.ptr r o) (.sc (.pointer none))=some (false,True):=by kernel_rfl
theorem zjY:sE (α:=Prop) prog 177 (.sc (.pointer none)) (.sc (.pointer none))=some (true,True):=by kernel_rfl
theorem zaS:nI (.pointer none)= .sc (.pointer none):=rfl
theorem ziL:(prog.info? 177).bind (·.zero)=some (.pointer none):=by kernel_rfl
theorem tmA:kC prog 174=some (9,.string,73):=by kernel_rfl
theorem ziA:(prog.info? 73).bind (·.zero)=some (.slice none 0 0):=by kernel_rfl
structure En where
 k:BA
 r:Nat
 a:List Vl
abbrev ma (es:List En):NM:=es.map fun e=>(Value.string e.k,PV.ptr e.r 0)
abbrev mb (es:List En):NM:=es.map fun e=>(Value.string e.k,pH e.a)
def En.ok (e:En):Prop:=e.a.length≤1048576∧(∀ a∈e.a,a.s.size≤16)∧e.k=zk0 e.a
def LineAt (h:Heap) (r:Nat):Prop:= ∃ ms:List Int,ms.length=64∧h[r]? =some (.var 231 (ms.map i64))
structure TB (l:La) (tb m1 m2:Nat) (es:List En) (h:Heap):Prop where
 t:h[tb]? =some (.var 176 [yQ l.name,rR l.elems,.ts 2 (l.covers.map fun c=>[i64 c.1,i64 c.2]),i64 l.at',.mp m1,.mp m2])
 a:h[m1]? =some (.map (ma es))
 b:h[m2]? =some (.map (mb es))
 n:m1≠m2
 l: ∀ e∈es,LineAt h e.r
 k: ∀ e∈es,e.ok
 d:(es.map (·.k)).Nodup
def Kp (h h':Heap):Prop:= ∀ (r:Nat) (b:Blk),h[r]? =some b→(∀ cs,b≠ .var 231 cs)→(∀ es,b≠ .map es)→h'[r]? =some b
theorem Kp.refl (h:Heap):Kp h h:=fun _ _ h _ _=>h
theorem Kp.trans {h h1 h2:Heap} (a:Kp h h1) (b:Kp h1 h2):Kp h h2:=fun r c hc n1 n2=>b r c (a r c hc n1 n2) n1 n2
theorem dJ (es:List En):(ma es).all (fun x=>pF .string x.1)=true:=by
 rw [List.all_eq_true];intro x hx;obtain ⟨e,_,rfl⟩:=List.mem_map.1 hx;rfl
theorem zaT (es:List En):(mb es).all (fun x=>pF .string x.1)=true:=by
 rw [List.all_eq_true];intro x hx;obtain ⟨e,_,rfl⟩:=List.mem_map.1 hx;rfl
theorem gV {s:BA}: ∀ {es:NM} {j:Nat},vV (.string s) es j=none→ ∀ x∈es,x.1≠ .string s
 | [],_,_,x,hx=>by cases hx
 | y::es,j,h,x,hx=>by
  unfold vV at h
  split at h
  ·cases h
  ·rename_i hv
   rcases List.mem_cons.1 hx with rfl|hx
   ·intro e;rw [e] at hv;exact hv (by simp [sY])
   ·exact gV h x hx
theorem cT {s:BA} (f g:En→PV): ∀ {es:List En} {j:Nat},vV (.string s) (es.map fun e=>(Value.string e.k,f e)) j=none→vV (.string s) (es.map fun e=>(Value.string e.k,g e)) j=none
 | [],_,_=>rfl
 | e::es,j,h=>by
  simp only [List.map_cons,vV] at h ⊢
  split at h
  ·cases h
  ·rename_i hv
   rw [if_neg hv]
   exact cT f g h
theorem zfR {h:Heap} {r:Nat} {es:List En} {s:BA} {j:Nat} {p:PV} (hr:h[r]? =some (.map (ma es))) (hm:vV (.string s) (ma es) 0=some (j,p)):xQ (α:=Prop) prog h 173 false (.mp r) (yQ s)=some (p,True):=by
 unfold xQ
 rw [tmL]
 simp only [oS,hr,ziL,zm1,dJ,hm,Bool.and_self,if_true,vL,Bool.false_eq_true,if_false]
theorem zfS {h:Heap} {r:Nat} {es:List En} {s:BA} (hr:h[r]? =some (.map (ma es))) (hm:vV (.string s) (ma es) 0=none):xQ (α:=Prop) prog h 173 false (.mp r) (yQ s)=some (.sc (.pointer none),True):=by
 unfold xQ
 rw [tmL]
 simp only [oS,hr,ziL,zm1,dJ,hm,Bool.and_self,if_true,vL,Bool.false_eq_true,if_false,zaS]
theorem zfT {h:Heap} {r:Nat} {es:List En} {s:BA} {j:Nat} {p:PV} (hr:h[r]? =some (.map (mb es))) (hm:vV (.string s) (mb es) 0=some (j,p)):xQ (α:=Prop) prog h 174 false (.mp r) (yQ s)=some (p,True):=by
 unfold xQ
 rw [tmA]
 simp only [oS,hr,ziA,zm1,zaT,hm,Bool.and_self,if_true,vL,Bool.false_eq_true,if_false]
theorem buL:kB prog 231 []=some (.agg (List.replicate 64 (i64 0))):=by kernel_rfl
attribute [-go_sem] kB
end Go.AL
namespace Go.AL
open Go.Proofs Go.Proofs.Tryz
@[go_sem] def UCel3f89.pp:Nat→DPlan
 |4=>⟨[yB,yA,yB,yA,yA,yB,yB,yA,yA,yA,yB,yB,uX,yA,yA,yC],xE,0⟩
 |_=>⟨[],[],0⟩
@[go_sem] def UCel3f89.pl:Nat→DPlan
 |4=>⟨[⟨7,0,[1006]⟩,yA,yB,yA,yA,yB,yB,yA,yA,yA,yB,yB,⟨6,0,[1006]⟩,yA,yA,yC],xE,0⟩
 |_=>⟨[],[],0⟩
theorem jQ (a b:Int) (h:Heap):ECall prog G0 133 [i64 a,i64 b] h fun p h'=>p= .fn (.func 176) [] [.ptr h.length 0,.ptr (h.length+1) 0]∧h'=h++[.var 3 [i64 a],.var 3 [i64 b]]:=by
 refine pv func133 6 false (by kernel_rfl) rfl rfl ?_
 refine g2 ?_
 refine ge ?_
 exact ⟨rfl,rfl⟩
end Go.AL
namespace Go.AL
open Go.Proofs Go.Proofs.Tryz
@[go_sem] def UCel4f90.pl:Nat→DPlan
 |5=>⟨[yA,yA,yA,yB,yA,yA],znU,0⟩
 |_=>⟨[],[],0⟩
def RowN (n:Nat) (cs:List Ce) (J:Heap) (V:PV):Prop:=(cs=[]∧V= .nil)∨ ∃ j,0<cs.length∧V= .ms (n+j) 0 3 cs.length∧J[j]? =some (.var 138 (cs.map Ce.c).flatten)
theorem aW (l:List Ce):(l.map Ce.c).flatten.length=l.length*3:=by
 induction l with
 |nil=>rfl
 |cons x l ih=>rw [List.map_cons,List.flatten_cons,List.length_append,ih,List.length_cons];simp;omega
theorem zi0 {α:Type}: ∀ {l:List α},0<l.length→ ∃ l' x,l=l'++[x]
 |l,h=>by
  have:l≠[]:=fun e=>by subst e;simp at h
  exact ⟨l.dropLast,l.getLast this,(List.dropLast_concat_getLast this).symm⟩
def zm5 (bt:Int) (cs:List Ce) (i:Nat) (v:Int):List Ce:=if v=bt then cs else match cs.getLast? with
 |none=>[⟨i,(i+1:Nat),v⟩]
 |some c=>if c.b=i∧c.e=v then cs.dropLast++[⟨c.a,IntKind.i64.wrap (c.b+1),c.e⟩] else cs++[⟨i,(i+1:Nat),v⟩]
def zh6 (bt:Int) (ms:List Int):Nat→List Ce
 |0=>[]
 |i+1=>zm5 bt (zh6 bt ms i) i (ms.getD i 0)
open UCel4f90 in
theorem zgH (l:La) (hl:l.ok) (tb m1 m2:Nat) (es:List En) (h:Heap) (hT:TB l tb m1 m2 es h) (r:Nat) (ms:List Int) (hms:ms.length=64) (hr0:h[r]? =some (.var 231 (ms.map i64))):
  ECall prog G0 90 [.ptr tb 0,.ptr r 0] h fun p h'=> ∃ J:Heap,h'=h++J∧RowN h.length (zh6 (oU l) ms 64) J p∧(zh6 (oU l) ms 64).length≤64:=by
 refine pv func90 70 true (by kernel_rfl) rfl rfl ?_
 refine g2 ?_
 have htb:=hT.t
 refine gf @htb ?_
 (refine g1f @htb ?_;refine zC ((zj7 l hl).call zK (by simp [zJ]) _) ?_;intro p2 h2 hr2;refine g2 ?_)
 obtain ⟨rfl,e2⟩:=hr2
 replace e2:=e2.symm
 subst e2
 generalize oU l=bt
 refine gf @htb ?_
 refine zO 64 (K4 (.k:: .v:: .k:: .d:: .d:: .d::K4 (.k:: .k:: .v::D9 (D9 (D9 (D9 (D9 (D4 (.d:: .d:: .d:: .k::[]))))))))) (own:=true) (fun i (s:PV×List Ce×Heap)=>[s.1,i64 i]) (fun s=>h++s.2.2) (fun i s=>RowN h.length s.2.1 s.2.2 s.1∧s.2.1.length≤i∧s.2.1=zh6 bt ms i) (.nil,[],[]) rfl (by simp) ⟨.inl ⟨rfl,rfl⟩,Nat.zero_le _,rfl⟩ (by omega) ?_ ?_
 ·rintro ⟨V,cs,J⟩ ⟨hI,hn,hcs⟩ t ht
  dsimp only at*
  simp only [zY] at ht;subst ht
  have h64:(((64:Nat):Int)<64)=False:=by simp
  refine gf @h64 ?_
  subst hcs
  exact ⟨J,rfl,hI,hn⟩
 ·rintro i ⟨V,cs,J⟩ hi hw ⟨hI,hn,hcs⟩ t ht
  dsimp only at*
  simp only [zY] at ht;subst ht
  have h64:((i:Int)<64)=True:=eq_true (by omega)
  have hi64:i<ms.length:=by omega
  have hd:=yU i64 ms i .un hi64
  have hrA:(h++J)[r]? =some (.var 231 (ms.map i64)):=by rw [List.getElem?_append_left (gsi hr0).1];exact hr0
  have hstep:zh6 bt ms (i+1)=zm5 bt cs i ms[i]:=by rw [zh6, ←hcs,List.getD_eq_getElem?_getD,List.getElem?_eq_getElem hi64];rfl
  generalize hv:ms[i]=v at*
  by_cases hbt:v=bt
  ·have e1:(v==bt)=true:=by simp [hbt]
   rcases hI with ⟨h0,rfl⟩|⟨j,hc0,rfl,hj⟩
   ·refine gf (a8 @h64 @hi @hw @zB @hms @hd @hrA @e1) ?_
    exact ⟨(.nil,cs,J),⟨.inl ⟨h0,rfl⟩,by dsimp only;omega,by rw [hstep,zm5,if_pos hbt]⟩,rfl,rfl,rfl⟩
   ·refine gf (a8 @h64 @hi @hw @zB @hms @hd @hrA @e1) ?_
    exact ⟨(.ms (h.length+j) 0 3 cs.length,cs,J),⟨.inr ⟨j,hc0,rfl,hj⟩,by dsimp only;omega,by rw [hstep,zm5,if_pos hbt]⟩,rfl,rfl,rfl⟩
  ·have e1:(v==bt)=false:=by simp [hbt]
   have hwi:IntKind.i64.wrap ((i:Int)+1)=((i+1:Nat):Int):=hw
   rcases hI with ⟨h0,rfl⟩|⟨j,hc0,rfl,hj⟩
   ·subst h0
    refine gf (a8 @h64 @hi @hw @zB @hms @hd @hrA @e1) ?_
    exact ⟨(.ms (h.length+J.length) 0 3 1,[⟨i,(i+1:Nat),v⟩],J++[.var 138 [i64 i,i64 (i+1:Nat),i64 v]]),⟨.inr ⟨J.length,by simp,rfl,by simp⟩,by simp,by rw [hstep];simp [zm5,hbt]⟩,rfl,rfl,by simp⟩
   ·obtain ⟨cs',c,rfl⟩:=zi0 hc0
    rw [List.length_append,List.length_singleton] at hn
    obtain ⟨ca,cb,ce⟩:=c
    obtain ⟨pre,hpre⟩: ∃ pre,(cs'.map Ce.c).flatten=pre:=⟨_,rfl⟩
    have hpl:pre.length=cs'.length*3:=by rw [←hpre,aW]
    have hjl:j<J.length:=(gsi hj).1
    have hJj:(h++J)[h.length+j]? =some (.var 138 (pre++[i64 ca,i64 cb,i64 ce])):=by
     rw [sB,hj,List.map_append,List.flatten_append,hpre]
     rfl
    have hSj: ∀ b:Blk,(h++J).set (h.length+j) b=h++J.set j b:=fun b=>rN h J j b
    have d1:=fun ys k=>iJ hpl ys k
    have d2:=fun ys k=>iA hpl ys k
    have d3:=fun ys=>lT hpl ys
    have d4: ∀ ys:List PV,(pre++ys).drop (cs'.length*3+1+1)=ys.drop 2:=fun ys=>d1 ys 2
    have hpos:((0:Int)<((cs'.length+1:Nat):Int))=True:=eq_true (by omega)
    have hsub:IntKind.i64.wrap (((cs'.length+1:Nat):Int)-1)=((cs'.length:Nat):Int):=by rw [xM (by omega) (by omega)];omega
    have a1:(cs'.length*3+3=(cs'.length+1)*3)=True:=eq_true (by omega)
    have a2:((cs'.length+1+1)*24≤140737488355328)=True:=eq_true (by omega)
    have a3:(cs'.length≤140737488355326)=True:=eq_true (by omega)
    have fin: ∃ x,x=(Blk.var 138 (pre++[i64 ca,i64 cb,i64 ce,i64 i,i64 (i+1:Nat),i64 v]))∧RowN h.length (cs'++[⟨ca,cb,ce⟩]++[⟨i,(i+1:Nat),v⟩]) (J.set j .old++[x]) (.ms (h.length+J.length) 0 3 (cs'.length+1+1)):=by
     refine ⟨_,rfl,.inr ⟨J.length,by simp,by simp,?_⟩⟩
     rw [List.getElem?_append_right (by simp)]
     simp [←hpre]
    obtain ⟨x,hx,fin⟩:=fin
    by_cases hb:cb=(i:Int)
    ·have e2:(cb==(i:Int))=true:=by simp [hb]
     by_cases he:ce=v
     ·have e3:(ce==v)=true:=by simp [he]
      refine gf (a9 @h64 @hi @hw @zB @hms @hd @hrA @e1 (a9 @hpos @hsub @hJj @d1 @d2 @d3 @d4 @hpl (a6 @hSj @a1 @a2 @a3 @e2 @e3))) ?_
      exact ⟨(.ms (h.length+j) 0 3 (cs'.length+1),cs'++[⟨ca,IntKind.i64.wrap (cb+1),ce⟩],J.set j (.var 138 (pre++[i64 ca,i64 (IntKind.i64.wrap (cb+1)),i64 ce]))),⟨.inr ⟨j,by simp,by simp,by rw [List.getElem?_set_self hjl];simp [←hpre]⟩,by simp;omega,by rw [hstep];simp [zm5,hbt,hb,he]⟩,(by simp only [zY,xJ,List.tail_cons]<;>simp),rfl,rfl⟩
     ·have e3:(ce==v)=false:=by simp [he]
      refine gf (a9 @h64 @hi @hw @zB @hms @hd @hrA @e1 (a9 @hpos @hsub @hJj @d1 @d2 @d3 @d4 @hpl (a6 @hSj @a1 @a2 @a3 @e2 @e3))) ?_
      exact ⟨(.ms (h.length+J.length) 0 3 (cs'.length+1+1),cs'++[⟨ca,cb,ce⟩]++[⟨i,(i+1:Nat),v⟩],J.set j .old++[x]),⟨fin,by simp;omega,by rw [hstep];simp [zm5,hbt,hb,he]⟩,rfl,rfl,by rw [hx]⟩
    ·have e2:(cb==(i:Int))=false:=by simp [hb]
     refine gf (a9 @h64 @hi @hw @zB @hms @hd @hrA @e1 (a9 @hpos @hsub @hJj @d1 @d2 @d3 @d4 @hpl (a5 @hSj @a1 @a2 @a3 @e2))) ?_
     exact ⟨(.ms (h.length+J.length) 0 3 (cs'.length+1+1),cs'++[⟨ca,cb,ce⟩]++[⟨i,(i+1:Nat),v⟩],J.set j .old++[x]),⟨fin,by simp;omega,by rw [hstep];simp [zm5,hbt,hb]⟩,rfl,rfl,by rw [hx]⟩
end Go.AL
namespace Go.AL
open Go.Proofs Go.Proofs.Tryz
theorem TB.keep {l:La} {tb m1 m2:Nat} {es:List En} {h h':Heap} (hT:TB l tb m1 m2 es h) (k: ∀ (r:Nat) (b:Blk),h[r]? =some b→h'[r]? =some b):TB l tb m1 m2 es h':=
 ⟨k _ _ hT.t,k _ _ hT.a,k _ _ hT.b,hT.n,fun e he=>by obtain ⟨ms,a,b⟩:=hT.l e he;exact ⟨ms,a,k _ _ b⟩,hT.k,hT.d⟩
theorem yJ (h B:Heap): ∀ (r:Nat) (b:Blk),h[r]? =some b→(h++B)[r]? =some b:=fun r b hr=>by
 rw [List.getElem?_append_left (gsi hr).1];exact hr
theorem Kp.app (h B:Heap):Kp h (h++B):=fun r b hr _ _=>yJ h B r b hr
theorem LineAt.keep {h h':Heap} {r:Nat} (hl:LineAt h r) (k: ∀ (r:Nat) (b:Blk),h[r]? =some b→h'[r]? =some b):LineAt h' r:=by
 obtain ⟨ms,a,b⟩:=hl;exact ⟨ms,a,k _ _ b⟩
theorem iB {h:Heap} {r:Nat} (hr:LineAt h r) {ms:List Int} (hms:ms.length=64) (B:Heap):
  (∀ q,LineAt h q→LineAt (h.set r (.var 231 (ms.map i64))++B) q)∧(∀ (q:Nat) (b:Blk),h[q]? =some b→(∀ cs,b≠ .var 231 cs)→(h.set r (.var 231 (ms.map i64))++B)[q]? =some b):=by
 obtain ⟨ms0,e0,hr0⟩:=hr
 have hrl:=(gsi hr0).1
 refine ⟨fun q ⟨ms1,e1,h1⟩=> ?_,fun q b hq hn=> ?_⟩
 ·by_cases hqr:r=q
  ·subst hqr
   exact ⟨ms,hms,by rw [List.getElem?_append_left (by rw [List.length_set];exact hrl),List.getElem?_set_self hrl]⟩
  ·exact ⟨ms1,e1,yJ _ _ _ _ (by rw [List.getElem?_set_ne hqr];exact h1)⟩
 ·have hqr:r≠q:=fun e=>by subst e;rw [hr0] at hq;cases hq;exact hn _ rfl
  exact yJ _ _ _ _ (by rw [List.getElem?_set_ne hqr];exact hq)
theorem TB.line {l:La} {tb m1 m2:Nat} {es:List En} {h:Heap} (hT:TB l tb m1 m2 es h) {r:Nat} (hr:LineAt h r) {ms:List Int} (hms:ms.length=64) (B:Heap):TB l tb m1 m2 es (h.set r (.var 231 (ms.map i64))++B):=by
 obtain ⟨k1,k2⟩:=iB hr hms B
 exact ⟨k2 _ _ hT.t (by simp),k2 _ _ hT.a (by simp),k2 _ _ hT.b (by simp),hT.n,fun e he=>k1 _ (hT.l e he),hT.k,hT.d⟩
theorem Kp.line {h:Heap} {r:Nat} (hr:LineAt h r) {ms:List Int} (hms:ms.length=64) (B:Heap):Kp h (h.set r (.var 231 (ms.map i64))++B):=fun q b hq n1 _=>(iB hr hms B).2 q b hq n1
def LRw.ok (x:LRw):Prop:=x.args.length≤1048576∧x.cs.length≤1099511627776∧ ∀ a∈x.args,a.s.size≤16
end Go.AL
namespace Go.AL
open Go.Sort
structure Cm3 {α:Type} (f:α→α→Int):Prop where
 r: ∀ x y,f x y= -1∨f x y=0∨f x y=1
 e: ∀ x y,f x y=0↔x=y
 s: ∀ x y,f y x= - f x y
 t: ∀ x y z,f x y= -1→f y z= -1→f x z= -1
theorem cmI:Cm3 rJ:=by
 refine ⟨fun x y=> ?_,fun x y=> ?_,fun x y=> ?_,fun x y z=> ?_⟩<;>unfold rJ<;>(repeat' split)<;>omega
theorem Cm3.pull {α β:Type} {f:α→α→Int} (h:Cm3 f) (g:β→α) (hg: ∀ x y,g x=g y→x=y):Cm3 fun x y=>f (g x) (g y):=
 ⟨fun x y=>h.r _ _,fun x y=>⟨fun k=>hg _ _ ((h.e _ _).1 k),fun k=>by subst k;exact (h.e _ _).2 rfl⟩,fun x y=>h.s _ _,fun x y z=>h.t _ _ _⟩
theorem Cm3.pair {α β:Type} {f:α→α→Int} {g:β→β→Int} (h:Cm3 f) (k:Cm3 g):Cm3 fun x y:α×β=>if f x.1 y.1=0 then g x.2 y.2 else f x.1 y.1:=by
 refine ⟨fun x y=> ?_,fun x y=> ?_,fun x y=> ?_,fun x y z=> ?_⟩
 ·split
  ·exact k.r _ _
  ·exact h.r _ _
 ·constructor
  ·intro e
   split at e
   ·rename_i e1;exact Prod.ext ((h.e _ _).1 e1) ((k.e _ _).1 e)
   ·rename_i e1;exact absurd e e1
  ·rintro rfl
   rw [if_pos ((h.e _ _).2 rfl)];exact (k.e _ _).2 rfl
 ·have e1:=h.s x.1 y.1
  by_cases e:f x.1 y.1=0
  ·rw [if_pos e,if_pos (by omega)];exact k.s _ _
  ·rw [if_neg e,if_neg (by omega)];exact e1
 ·intro a b
  by_cases e1:f x.1 y.1=0
  ·rw [if_pos e1] at a
   have e1':=(h.e _ _).1 e1
   by_cases e2:f y.1 z.1=0
   ·rw [if_pos e2] at b
    rw [←(h.e _ _).1 e2,if_pos e1];exact k.t _ _ _ a b
   ·rw [if_neg e2] at b
    rw [e1',if_neg e2];exact b
  ·rw [if_neg e1] at a
   by_cases e2:f y.1 z.1=0
   ·rw [←(h.e _ _).1 e2,if_neg e1];exact a
   ·rw [if_neg e2] at b
    have:=h.t _ _ _ a b
    rw [if_neg (by omega)];exact this
theorem Cm3.lex {α:Type} {f:α→α→Int} (h:Cm3 f):Cm3 (vZ f):=by
 have r: ∀ x y:List α,vZ f x y= -1∨vZ f x y=0∨vZ f x y=1:=by
  intro x
  induction x with
  |nil=>intro y;cases y<;>simp [vZ]
  | cons a x ih=>
   intro y
   cases y with
   |nil=>simp [vZ]
   |cons b y=>
    simp only [vZ];split
    ·exact ih y
    ·exact h.r _ _
 have e: ∀ x y:List α,vZ f x y=0↔x=y:=by
  intro x
  induction x with
  |nil=>intro y;cases y<;>simp [vZ]
  | cons a x ih=>
   intro y
   cases y with
   |nil=>simp [vZ]
   | cons b y=>
    simp only [vZ]
    by_cases e:f a b=0
    ·rw [if_pos e,ih y,(h.e _ _).1 e];simp
    ·rw [if_neg e]
     constructor
     ·intro k;exact absurd k e
     ·intro k;injection k with k1 k2;exact absurd ((h.e _ _).2 k1) e
 have s: ∀ x y:List α,vZ f y x= - vZ f x y:=by
  intro x
  induction x with
  |nil=>intro y;cases y<;>simp [vZ]
  | cons a x ih=>
   intro y
   cases y with
   |nil=>simp [vZ]
   |cons b y=>
    simp only [vZ]
    have e1:=h.s a b
    by_cases e:f a b=0
    ·rw [if_pos e,if_pos (by omega)];exact ih y
    ·rw [if_neg e,if_neg (by omega)];exact e1
 refine ⟨r,e,s,?_⟩
 intro x
 induction x with
 | nil=>
  intro y z a b
  cases y with
  |nil=>simp [vZ] at a
  |cons c y=>
   cases z with
   |nil=>simp [vZ] at b
   |cons d z=>rfl
 | cons p x ih=>
  intro y z a b
  cases y with
  |nil=>simp [vZ] at a
  | cons c y=>
   cases z with
   |nil=>simp [vZ] at b
   | cons d z=>
    simp only [vZ] at a b ⊢
    by_cases e1:f p c=0
    ·rw [if_pos e1] at a
     have e1':=(h.e _ _).1 e1
     by_cases e2:f c d=0
     ·rw [if_pos e2] at b
      rw [←(h.e _ _).1 e2,if_pos e1];exact ih _ _ a b
     ·rw [if_neg e2] at b
      rw [e1',if_neg e2];exact b
    ·rw [if_neg e1] at a
     by_cases e2:f c d=0
     ·rw [←(h.e _ _).1 e2,if_neg e1];exact a
     ·rw [if_neg e2] at b
      have:=h.t _ _ _ a b
      rw [if_neg (by omega)];exact this
theorem cmC:Cm3 bT:=cmI.pull (fun x:UInt8=>(x.toNat:Int)) fun x y h=>by
 have:x.toNat=y.toNat:=by omega
 exact UInt8.toNat_inj.1 this
theorem cmB:Cm3 znM:=cmC.lex.pull (fun s:BA=>s.data.toList) fun x y h=>by
 have:x.data=y.data:=by rw [←Array.toList_inj];exact h
 exact ByteArray.ext this
theorem cmV:Cm3 iU:=(cmI.pair (cmI.pair cmB)).pull (fun v:Vl=>(v.t,v.n,v.s)) fun x y h=>by
 obtain ⟨a,b,c⟩:=x
 obtain ⟨a',b',c'⟩:=y
 simp only [Prod.mk.injEq] at h
 obtain ⟨rfl,rfl,rfl⟩:=h
 rfl
theorem zqQ:Cm3 sD:=cmV.lex
theorem Cm3.swo {α:Type} {f:α→α→Int} (h:Cm3 f):SWO (Go.Proofs.ltOf f):=by
 have ns: ∀ x y,f x y<0↔f x y= -1:=fun x y=>by have:=h.r x y;omega
 refine ⟨fun x=> ?_,fun x y z=> ?_,fun x y z=> ?_⟩
 ·have:=(h.e x x).2 rfl
  simp [Go.Proofs.ltOf,this]
 ·simp only [Go.Proofs.ltOf,decide_eq_true_eq,ns]
  exact h.t x y z
 ·simp only [Go.Proofs.ltOf,decide_eq_false_iff_not,ns]
  intro a b c
  have r1:=h.r x y
  have r2:=h.r y z
  have s1:=h.s x y
  have s2:=h.s y z
  have s3:=h.s x z
  rcases r1 with r1|r1|r1
  ·exact a r1
  ·have:=(h.e _ _).1 r1;subst this;exact b c
  ·rcases r2 with r2|r2|r2
   ·exact b r2
   ·have:=(h.e _ _).1 r2;subst this;omega
   ·have:=h.t z y x (by omega) (by omega);omega
theorem aG {β α:Type} {f:α→α→Int} (h:Cm3 f) (g:β→α) {xs ys zs:List β} (hx:xs.Perm zs) (hy:ys.Perm zs) (hn: ∀ a∈zs, ∀ b∈zs,g a=g b→a=b)
  (px:xs.Pairwise fun x y=>Go.Proofs.ltOf f (g y) (g x)=false) (py:ys.Pairwise fun x y=>Go.Proofs.ltOf f (g y) (g x)=false):xs=ys:=by
 refine List.Perm.eq_of_pairwise (le:=fun x y=>Go.Proofs.ltOf f (g y) (g x)=false) (fun a b ha hb h1 h2=> ?_) px py (hx.trans hy.symm)
 simp only [Go.Proofs.ltOf,decide_eq_false_iff_not] at h1 h2
 refine hn a (hx.mem_iff.1 ha) b (hy.mem_iff.1 hb) ?_
 have r:=h.r (g a) (g b)
 have s:=h.s (g a) (g b)
 exact (h.e _ _).1 (by omega)
end Go.AL
