/-
  Comparisons of the references: what is held against itself is the same.
-/
import Derived.Test.YtcffidhiaihbkaaGreatDoorZ42
set_option linter.unusedSimpArgs false
set_option linter.unusedVariables false
set_option maxRecDepth 100000
set_option maxHeartbeats 4000000
namespace Go.AL
open Go.Proofs Go.Proofs.Tryz
@[go_sem] def UChxf12.pl:Nat→DPlan
 |1=>⟨[⟨6,0,[1003]⟩,yA,⟨7,0,[1003]⟩,yB,yA,yA,yB,yA,yB,yC,yA,yA,yA],yN,0⟩
 |_=>⟨[],[],0⟩
abbrev pdZ:Pd:=⟨⟨#[]⟩,[],⟨#[]⟩, -1,false,0,0⟩
open Classical in
noncomputable def zsZ (p:Pg) (o:Op1):Int:=if ¬(o.kind=1∨o.kind=2)∨ ¬VfX p o.pred o.elem o.args then 1
 else if (p.preds.getD o.pred.toNat pdZ).base=false then 73 else if 0≤o.span.a∧o.span.a<o.span.b∧o.span.b≤64 then 0 else 1
attribute [-go_sem] only
open UChxf12 in
theorem zsN (p:Pg) (hp:p.ok) (hle:p.sm) (o:Op1) (ho:o.ok):EPure prog G0 12 [.agg p.c,.agg o.c] fun v=>v=i64 (zsZ p o):=by
 refine ECall.cut (R:=fun v _=>v=i64 (zsZ p o)) (pv func12 48 false (by kernel_rfl) rfl rfl ?_) (by rintro p h rfl;rfl)
 refine g2 ?_
 refine ge ?_
 (refine zF rfl rfl rfl ?_;intro sr hsr;simp only [go_sem] at hsr;subst hsr;refine xR rfl rfl (jY _) (by rintro _ _ ⟨_,rfl⟩ k hk _;have hk:k∈[1003]:=hk;simp only [List.mem_singleton] at hk;subst hk;rfl) ?_;intro p2 h2 hr2 ts2 hts;simp only [go_sem] at hts;subst hts)
 obtain ⟨rfl,rfl⟩:=hr2
 have hlk:=lkT (h:=[.var 27 p.c,.var 38 o.c,.map zaH]) (r:=2) o.kind rfl
 have key:(¬(o.kind=1∨o.kind=2)∧iZ o.kind= .sc .nilFunc)∨((o.kind=1∨o.kind=2)∧ ∃ f,iZ o.kind= .fn (.func f) [] []):=by
  unfold iZ
  by_cases h1:o.kind=1
  ·rw [if_pos h1];exact .inr ⟨.inl h1,_,rfl⟩
  ·rw [if_neg h1]
   by_cases h2:o.kind=2
   ·rw [if_pos h2];exact .inr ⟨.inr h2,_,rfl⟩
   ·rw [if_neg h2];exact .inl ⟨fun w=>w.elim h1 h2,rfl⟩
 rcases key with ⟨hk,ha⟩|⟨hk,f,ha⟩
 ·rw [ha] at hlk
  have hE:zsZ p o=1:=by unfold zsZ;rw [if_pos (.inl hk)]
  rw [hE]
  refine gf (a2 @hlk @zjW) ?_
  rfl
 ·rw [ha] at hlk
  refine gf (a2 @hlk @za2) ?_
  (refine vY ?_;refine zN rfl rfl rfl ?_;intro sr hsr;simp only [sK,List.getD_cons_succ,List.getD_cons_zero,Option.map_some,Option.getD_some,Bool.not_false,Bool.not_true] at hsr;subst hsr;(first|refine pK ?_|refine pL ?_);intro sr hsr;simp only [go_sem,hlk,za2] at hsr;subst hsr;refine zP (by decide) (by decide) ((zhB p hp hle o.pred o.elem o.args ho.1).call zK (by simp [zJ]) _) ?_;intro p2 h2 hr2 ts2 hts;simp only [go_sem] at hts;subst hts)
  obtain ⟨rfl,rfl⟩:=hr2
  by_cases hb:VfX p o.pred o.elem o.args
  case neg=>
   have hE:zsZ p o=1:=by unfold zsZ;rw [if_pos (.inr hb)]
   rw [hE,uA hb]
   refine gf (a2 @hlk @za2) ?_
   rfl
  case pos=>
   rw [pO hb]
   have hE:zsZ p o=if (p.preds.getD o.pred.toNat pdZ).base=false then 73 else if 0≤o.span.a∧o.span.a<o.span.b∧o.span.b≤64 then 0 else 1:=by
    unfold zsZ;rw [if_neg (fun w=>w.elim (fun w=>w hk) fun w=>w hb)]
   obtain ⟨_,i,hpi,hi, -⟩:=hb
   have hx:=zG (f:=Pd.c) [] hi
   have htn:o.pred.toNat=i:=by omega
   have hpos:(0≤o.pred)=True:=eq_true (by omega)
   have hlt:(o.pred<(p.preds.length:Int))=True:=eq_true (by omega)
   have hgd:p.preds.getD o.pred.toNat pdZ=p.preds[i]:=by rw [htn,List.getD_eq_getElem?_getD,List.getElem?_eq_getElem hi];rfl
   rw [hgd] at hE
   clear hgd
   generalize p.preds[i]=x at*
   refine gf (a4 @hpos @hlt @htn @hx) ?_
   obtain ⟨xname,xtypes,xlat,xof,xbase,xkey,xat⟩:=x
   cases xbase with
   |false=>
    rw [hE,if_pos rfl]
    refine gf (a4 @hpos @hlt @htn @hx) ?_
    rfl
   | true=>
    rw [hE,if_neg (fun w=>Bool.noConfusion w)]
    by_cases s1:o.span.a<0
    ·have t1:decide (o.span.a<0)=true:=by simp [s1]
     rw [if_neg (by omega)]
     refine gf (a5 @hpos @hlt @htn @hx @t1) ?_
     rfl
    ·have t1:decide (o.span.a<0)=false:=by simp [s1]
     by_cases s2:o.span.b≤o.span.a
     ·have t2:decide (o.span.b≤o.span.a)=true:=by simp [s2]
      rw [if_neg (by omega)]
      refine gf (a6 @hpos @hlt @htn @hx @t1 @t2) ?_
      rfl
     ·have t2:decide (o.span.b≤o.span.a)=false:=by simp [s2]
      by_cases s3:64<o.span.b
      ·have t3:decide (64<o.span.b)=true:=by simp [s3]
       rw [if_neg (by omega)]
       refine gf (a7 @hpos @hlt @htn @hx @t1 @t2 @t3) ?_
       rfl
      ·have t3:decide (64<o.span.b)=false:=by simp [s3]
       rw [if_pos (by omega)]
       refine gf (a7 @hpos @hlt @htn @hx @t1 @t2 @t3) ?_
       rfl
end Go.AL
namespace Go.AL
open Go.Proofs Go.Proofs.Tryz
theorem lL {p:Pg} {o:Op1}:zsZ p o=0↔(o.kind=1∨o.kind=2)∧VfX p o.pred o.elem o.args∧(p.preds.getD o.pred.toNat pdZ).base=true∧o.span.good:=by
 unfold zsZ
 by_cases h1: ¬(o.kind=1∨o.kind=2)∨ ¬VfX p o.pred o.elem o.args
 ·rw [if_pos h1]
  exact ⟨fun h=>absurd h (by decide),fun h=>h1.elim (fun q=>absurd h.1 q) fun q=>absurd h.2.1 q⟩
 ·rw [if_neg h1]
  have hk:o.kind=1∨o.kind=2:=Classical.byContradiction fun q=>h1 (.inl q)
  have hv:VfX p o.pred o.elem o.args:=Classical.byContradiction fun q=>h1 (.inr q)
  cases hb:(p.preds.getD o.pred.toNat pdZ).base with
  |false=>
   rw [if_pos rfl]
   exact ⟨fun h=>absurd h (by decide),fun h=>Bool.noConfusion h.2.2.1⟩
  |true=>
   rw [if_neg (fun w=>Bool.noConfusion w)]
   by_cases hs:0≤o.span.a∧o.span.a<o.span.b∧o.span.b≤64
   ·rw [if_pos hs];exact ⟨fun _=>⟨hk,hv,rfl,hs⟩,fun _=>rfl⟩
   ·rw [if_neg hs];exact ⟨fun h=>absurd h (by decide),fun h=>absurd h.2.2.2 hs⟩
theorem zsX {p:Pg} (hp:p.ok) (hle:p.sm) {o:Op1} (h:zsZ p o=0):ChK p o:=by
 obtain ⟨hk,⟨hv,i,hpi,hi,ha,h1,h2⟩,hb,hs⟩:=lL.1 h
 obtain ⟨hf,hpb, -⟩:=(ze0 p hp hle).2 hv
 refine ⟨⟨hf,hpb,i,hpi,hi,ha,fun k q=>(h2 k q).1⟩,hk,fun w=> ?_,hs⟩
 rw [List.getD_eq_getElem?_getD,List.getElem?_eq_getElem w] at hb
 exact hb
noncomputable def zoM (p:Pg) (o:Op1):Int:=zsZ p o
theorem zoK (p:Pg) (hp:p.ok) (hle:p.sm) (o:Op1) (ho:o.ok):EPure prog G0 12 [.agg p.c,.agg o.c] (fun v=>v=i64 (zoM p o))∧(zoM p o=0→ChK p o):=⟨zsN p hp hle o ho,zsX hp hle⟩
theorem zbX {p:Pg} {o:Op1} (h:zoM p o=0) {s:Sp} (hs:s.good):zoM p {o with span:=s}=0:=by
 obtain ⟨a,b,c, -⟩:=lL.1 h
 exact lL.2 ⟨a,b,c,hs⟩
theorem zsM {p:Pg} {o:Op1} (h:zoM p o=0) {k:Int} (hk:k=1∨k=2):zoM p {o with kind:=k}=0:=by
 obtain ⟨-,b,c,d⟩:=lL.1 h
 exact lL.2 ⟨hk,b,c,d⟩
noncomputable def uD (p:Pg):List Op1→Int
 | []=>0
 |o::l=>if zoM p o=0 then uD p l else zoM p o
theorem bS {p:Pg}: ∀ {l:List Op1},(∀ (j:Nat) (h:j<l.length),zoM p l[j]=0)→uD p l=0
 | [],_=>rfl
 |o::l,h=>by
  unfold uD
  have h0:zoM p o=0:=h 0 (by simp)
  rw [if_pos h0]
  exact bS fun j hj=>h (j+1) (by simpa using hj)
theorem zgO {p:Pg}: ∀ {l:List Op1} {i:Nat} (hi:i<l.length),(∀ (j:Nat) (h:j<l.length),j<i→zoM p l[j]=0)→zoM p l[i]≠0→uD p l=zoM p l[i]
 |o::l,0,_,_,h=>by
  unfold uD
  have h0:zoM p o≠0:=h
  rw [if_neg h0];rfl
 |o::l,i+1,hi,h,k=>by
  unfold uD
  have h0:zoM p o=0:=h 0 (by simp) (by omega)
  rw [if_pos h0]
  exact zgO (by simpa using hi) (fun j hj hji=>h (j+1) (by simpa using hj) (by omega)) k
theorem zdV {p:Pg}: ∀ {l:List Op1},uD p l=0→ ∀ o∈l,zoM p o=0
 | [],_,o,ho=>by cases ho
 | x::l,h,o,ho=>by
  unfold uD at h
  by_cases q:zoM p x=0
  ·rw [if_pos q] at h
   rcases List.mem_cons.1 ho with rfl|ho
   ·exact q
   ·exact zdV h o ho
  ·rw [if_neg q] at h;exact absurd h q
def zj6 (d:Dt):Bool:=(d.rels.any fun z=>decide (2000<z.length))||d.lats.any fun z=>decide (2000<z.length)
noncomputable def zk4 (p:Pg) (d:Dt) (ops:List Op1):Dt×Int:=
 if ze8 (DatX p d)=false then (znO,1)
 else if 60<ops.length then (znO,2)
 else if uD p ops≠0 then (znO,uD p ops)
 else if zj6 (ops.foldl (zl0 p) d)=true then (znO,2)
 else (ops.foldl (zl0 p) d,0)
def nR (i:Nat):Nat:=4096+i
theorem zi6 (i:Nat):nR (i+1)=nR i+1:=rfl
theorem nR_le {i:Nat} (h:i≤60):nR i≤17179869184:=by unfold nR;omega
theorem zjA {d:Dt} (hd:d.sz):LenD (nR 0) d:=⟨fun z hz=>by have:=(hd.r z hz).1;have:nR 0=4096:=rfl;omega,fun z hz=>by have:=(hd.l z hz).1;have:nR 0=4096:=rfl;omega⟩
theorem zc4 {p:Pg} (hp:p.ok): ∀ (l:List Op1) {d:Dt} {i:Nat},(∀ o∈l, ∃ j,OpX p o j)→DatX p d→LenD (nR i) d→DatX p (l.foldl (zl0 p) d)∧LenD (nR (i+l.length)) (l.foldl (zl0 p) d)
 | [],_,_,_,hX,hL=>⟨hX,hL⟩
 |o::l,d,i,h,hX,hL=>by
  obtain ⟨j,hj⟩:=h o (List.mem_cons_self ..)
  have h1:=hL.op hX hj
  rw [←zi6] at h1
  have:=zc4 hp l (fun o ho=>h o (List.mem_cons_of_mem _ ho)) (hX.op hp hj) h1
  rw [List.foldl_cons,List.length_cons,show i+(l.length+1)=i+1+l.length by omega]
  exact this
theorem znP {p:Pg} (hp:p.ok) (hle:p.sm) (h:zpQ p=true):p.preds.length≤1048576∧ ∀ x∈p.preds,x.types.length≤1048576∧x.of'<p.lats.length∧ -1≤x.of':=by
 obtain ⟨hf,hpb, -⟩:=(ze0 p hp hle).2 h
 exact ⟨by have:=hf.pl;omega,fun x hx=>⟨by obtain ⟨f1,f2,f3⟩:=hf.p _ hx;omega,(hpb x hx).2,(hpb x hx).1⟩⟩
theorem zrX {d:Dt} (h:zj6 d=false):(∀ z∈d.rels,z.length≤2000)∧ ∀ z∈d.lats,z.length≤2000:=by
 unfold zj6 at h
 rw [Bool.or_eq_false_iff,List.any_eq_false,List.any_eq_false] at h
 exact ⟨fun z hz=>by have:=h.1 z hz;simpa using this,fun z hz=>by have:=h.2 z hz;simpa using this⟩
theorem zn8 (p:Pg) (hp:p.ok) (hle:p.sm) (d:Dt) (ops:List Op1) (ho: ∀ o∈ops,o.ok) (hd:d.sz) (h0:(zk4 p d ops).2=0):(zk4 p d ops).1=ops.foldl (zl0 p) d∧(zk4 p d ops).1.sz∧DatX p (zk4 p d ops).1:=by
 unfold zk4 at h0 ⊢
 by_cases h1:ze8 (DatX p d)=false
 ·rw [if_pos h1] at h0;cases h0
 rw [if_neg h1] at h0 ⊢
 have hX:DatX p d:=zoX.1 (by cases q:ze8 (DatX p d);exact absurd q h1;rfl)
 by_cases h2:60<ops.length
 ·rw [if_pos h2] at h0;cases h0
 rw [if_neg h2] at h0 ⊢
 by_cases h3:uD p ops≠0
 ·rw [if_pos h3] at h0;exact absurd h0 h3
 rw [if_neg h3] at h0 ⊢
 by_cases h4:zj6 (ops.foldl (zl0 p) d)=true
 ·rw [if_pos h4] at h0;cases h0
 rw [if_neg h4] at h0 ⊢
 have hz:uD p ops=0:=Classical.byContradiction h3
 obtain ⟨r1, -⟩:=zc4 hp ops (fun o k=>((zoK p hp hle o (ho o k)).2 (zdV hz o k)).op) hX (zjA hd)
 refine ⟨rfl,?_,r1⟩
 obtain ⟨b1,b2⟩:=zrX (by cases q:zj6 (ops.foldl (zl0 p) d);rfl;exact absurd q h4)
 have ht:=znP hp hle hX.tv
 dsimp only
 generalize ops.foldl (zl0 p) d=e at*
 have hS:DtS p 2000 e:=zrM r1 ⟨b1,b2⟩ ht.2
 refine ⟨by have:=r1.rl;omega,by have:=r1.ll;omega,fun z hz=> ?_,fun z hz=> ?_,fun z hz x hx a ha=> ?_⟩
 ·obtain ⟨j,hj,rfl⟩:=List.getElem_of_mem hz
  exact ⟨by have:=b1 _ hz;omega,fun x hx=>((hS.r j (by rw [←r1.rl];exact hj) hj).2 x hx).2.lt⟩
 ·obtain ⟨j,hj,rfl⟩:=List.getElem_of_mem hz
  exact ⟨by have:=b2 _ hz;omega,fun x hx=>by obtain ⟨a,b,_⟩:=(hS.l j hj).2 x hx;exact ⟨by omega,b⟩⟩
 ·obtain ⟨j,hj,rfl⟩:=List.getElem_of_mem hz
  have:=((hS.l j hj).2 x hx).2.2 a ha
  omega
end Go.AL
namespace Go.AL
def wP (l:List Op1):List Op1:=l.flatMap fun o=>[o,o]
theorem iY (o:Op1) (l:List Op1):wP (o::l)=o::o::wP l:=rfl
theorem mM: ∀ l:List Op1,(wP l).length=2*l.length
 | []=>rfl
 |o::l=>by rw [iY,List.length_cons,List.length_cons,List.length_cons,mM l];omega
theorem yL (p:Pg) (o:Op1) (l:List Op1):uD p (o::l)=if zoM p o=0 then uD p l else zoM p o:=rfl
theorem fJ (p:Pg): ∀ l:List Op1,uD p (wP l)=uD p l
 | []=>rfl
 |o::l=>by
  rw [iY,yL,yL,yL,fJ p l]
  by_cases h:zoM p o=0
  ·rw [if_pos h,if_pos h]
  ·rw [if_neg h,if_neg h]
theorem zbH (p:Pg): ∀ {l m:List Op1},uD p (l++m)=0→uD p l=0∧uD p m=0
 | [],m,h=>⟨rfl,h⟩
 | o::l,m,h=>by
  rw [List.cons_append,yL] at h
  rw [yL]
  by_cases q:zoM p o=0
  ·rw [if_pos q] at h ⊢
   exact zbH p h
  ·rw [if_neg q] at h;exact absurd h q
open Classical in
theorem zhD {k:Nat} {z:List Rw} {args:List Vl} {s:Sp} (hc:CanL z) (hs:s.good):bA k (bA k z args s) args s=bA k z args s:=by
 obtain ⟨c1,c2, -⟩:=zdF (k:=k) (args:=args) hc hs
 obtain ⟨d1,d2, -⟩:=zdF (k:=k) (args:=args) c1 hs
 refine CanL.uniq d1 c1 fun t=> ?_
 rw [d2 t,c2 t]
 have hsl:=zoI s
 generalize yH z t=a at*
 by_cases q:t.take k=args.take k
 ·rw [if_pos q,if_pos q]
  refine Nat.eq_of_testBit_eq fun m=> ?_
  rw [Nat.testBit_or,zn3 hsl,Nat.testBit_or,zn3 hsl]
  by_cases e:args=t
  ·rw [if_pos e]
   cases a.testBit m<;>cases hw:(zo2 s).testBit m<;>simp
  ·rw [if_neg e,Nat.zero_testBit]
   cases a.testBit m<;>cases hw:(zo2 s).testBit m<;>simp
 ·rw [if_neg q,if_neg q,if_neg (fun e=>q (by rw [e])),Nat.or_zero,Nat.or_zero]
theorem zmE {z:List Rw} {args:List Vl} {s:Sp} (hc:CanL z) (hs:s.good):dP (dP z args s) args s=dP z args s:=by
 obtain ⟨c1,c2, -⟩:=bK (args:=args) hc hs
 obtain ⟨d1,d2, -⟩:=bK (args:=args) c1 hs
 refine CanL.uniq d1 c1 fun t=> ?_
 rw [d2 t,c2 t,zpI]
theorem zqG {f:Int} {ms:List Int} {a b:Int}:tB (fun _=>f) (tB (fun _=>f) ms a b) a b=tB (fun _=>f) ms a b:=by
 refine mH (yY ..) (yY ..) fun i hi=> ?_
 rw [tU hi,tU hi]
 split<;>rfl
def yZ (l:La) (a b e:Int) (ms:List Int):List Int:=if ze7 l e=true then tB (fun _=>e) ms a b else ms
theorem zc3 (l:La) (a b e:Int) (ms:List Int):yZ l a b e (yZ l a b e ms)=yZ l a b e ms:=by
 unfold yZ
 split
 ·exact zqG
 ·rfl
theorem zbJ (l:La) (T:Tbl) (args:List Vl) (a b e:Int):za9 l T args a b e=oT (uZ (oU l) T args) (zk0 args) (yZ l a b e):=rfl
theorem zr7 {l:La} {T:Tbl} {args:List Vl} {a b e:Int}:(∀ y∈za9 l T args a b e,zk0 y.1=zk0 args→ ∃ ms,y.2=yZ l a b e ms)∧ ∃ y∈za9 l T args a b e,zk0 y.1=zk0 args:=by
 rw [zbJ]
 unfold oT
 refine ⟨fun y hy hk=> ?_,?_⟩
 ·obtain ⟨x,hx,rfl⟩:=List.mem_map.1 hy
  by_cases q:zk0 x.1=zk0 args
  ·rw [if_pos q];exact ⟨_,rfl⟩
  ·rw [if_neg q] at hk;exact absurd hk q
 ·have: ∃ x∈uZ (oU l) T args,zk0 x.1=zk0 args:=by
   unfold uZ
   split
   ·rename_i h
    unfold vR at h
    obtain ⟨x,hx,e⟩:=List.mem_map.1 h
    exact ⟨x,hx,e⟩
   ·exact ⟨_,List.mem_append_right _ (List.mem_singleton_self _),rfl⟩
  obtain ⟨x,hx,e⟩:=this
  exact ⟨_,List.mem_map_of_mem hx,by rw [if_pos e];exact e⟩
theorem znD {l:La} {ms:List Int} (h:zh2 l ms) (he:zh6 (oU l) ms 64=[]):ms=List.replicate 64 (oU l):=by
 rw [←zmI h,he];rfl
theorem zk7 {l:La} {ty:List Int} {z:List LRw} (h:CelX l ty z) (args:List Vl) (a b:Int) {e:Int} (he:ze9 l e):
  uY (oU l) (za9 l (xU l (uY (oU l) (za9 l (xU l z) args a b e))) args a b e)=uY (oU l) (za9 l (xU l z) args a b e):=by
 have hG:=h.good.set args a b he
 obtain ⟨k1,k2⟩:=zr7 (l:=l) (T:=xU l z) (args:=args) (a:=a) (b:=b) (e:=e)
 generalize za9 l (xU l z) args a b e=T at*
 have hk:=kR (bt:=oU l) hG.1
 refine zq0 ?_ (rB _ _).2 hk
 rw [kT hk]
 have hrow: ∀ x∈uY (oU l) T,zbI (oU l) (x.args,wL l x.cs)=some x∧(zk0 x.args=zk0 args→yZ l a b e (wL l x.cs)=wL l x.cs):=fun x hx=>by
  obtain ⟨y,hy,e1,e2,e3⟩:=fA.1 hx
  have hl:wL l x.cs=y.2:=by rw [e2,zmI (hG.2 y hy)]
  refine ⟨?_,fun hkx=> ?_⟩
  ·unfold zbI
   dsimp only
   rw [hl, ←e2,if_neg e3]
  ·obtain ⟨ms,hm⟩:=k1 y hy (by rw [←e1];exact hkx)
   rw [hl,hm,zc3]
 have same: ∀ R:List LRw,(∀ x∈R,x∈uY (oU l) T)→(oT (R.map fun x=>(x.args,wL l x.cs)) (zk0 args) (yZ l a b e)).filterMap (zbI (oU l))=R:=fun R=>by
  induction R with
  |nil=>exact fun _=>rfl
  | cons x R ih=>
   intro hR
   obtain ⟨q1,q2⟩:=hrow x (hR x (List.mem_cons_self ..))
   have ih':=ih fun z hz=>hR z (List.mem_cons_of_mem x hz)
   unfold oT at ih' ⊢
   rw [List.map_cons,List.map_cons]
   have:zbI (oU l) (if zk0 (x.args,wL l x.cs).1=zk0 args then ((x.args,wL l x.cs).1,yZ l a b e (x.args,wL l x.cs).2) else (x.args,wL l x.cs))=some x:=by
    dsimp only
    by_cases q:zk0 x.args=zk0 args
    ·rw [if_pos q,q2 q];exact q1
    ·rw [if_neg q];exact q1
   rw [List.filterMap_cons_some this,ih']
 rw [zbJ]
 unfold uZ
 by_cases hin:zk0 args∈vR ((uY (oU l) T).map fun x=>(x.args,wL l x.cs))
 ·rw [if_pos hin,same _ fun x hx=>hx]
 ·rw [if_neg hin]
  have hup:oT ((uY (oU l) T).map (fun x=>(x.args,wL l x.cs))++[(args,List.replicate 64 (oU l))]) (zk0 args) (yZ l a b e)=oT ((uY (oU l) T).map fun x=>(x.args,wL l x.cs)) (zk0 args) (yZ l a b e)++[(args,yZ l a b e (List.replicate 64 (oU l)))]:=by
   unfold oT
   rw [List.map_append];simp
  rw [hup,List.filterMap_append,same _ fun x hx=>hx]
  obtain ⟨y,hy,hky⟩:=k2
  obtain ⟨ms,hm⟩:=k1 y hy hky
  have hno:zh6 (oU l) y.2 64=[]:=by
   apply Classical.byContradiction
   intro hne
   have hx:(⟨y.1,zh6 (oU l) y.2 64⟩:LRw)∈uY (oU l) T:=fA.2 ⟨y,hy,rfl,rfl,hne⟩
   apply hin
   unfold vR
   rw [List.map_map,List.mem_map]
   exact ⟨_,hx,hky⟩
  have hb:=znD (hG.2 y hy) hno
  have hs:yZ l a b e (List.replicate 64 (oU l))=List.replicate 64 (oU l):=by
   rw [←hb,hm,zc3]
  have hrn:zbI (oU l) (args,yZ l a b e (List.replicate 64 (oU l)))=none:=by
   unfold zbI
   rw [hs]
   dsimp only
   rw [if_pos]
   rw [←hb];exact hno
  rw [List.filterMap_cons_none hrn]
  simp
theorem zq4 {p:Pg} (hp:p.ok) {d:Dt} {o:Op1} {i:Nat} (h:DatX p d) (ho:OpX p o i):zl0 p (zl0 p d o) o=zl0 p d o:=by
 have hi:=ho.hi
 have hir:i<d.rels.length:=by rw [h.rl];exact hi
 have hil:i<d.lats.length:=by rw [h.ll];exact hi
 obtain ⟨h1,h2,h3⟩:=h.at' i hi hir hil
 by_cases hof:p.preds[i].of'= -1
 ·obtain ⟨q1,q2,q3⟩:=h3 ho.b hof
  rw [zo7 ho.hoi hi hir hof,zo7 (d:=⟨d.rels.set i (zaL p.preds[i] d.rels[i] o),d.lats⟩) ho.hoi hi (by simpa using hir) hof]
  dsimp only
  rw [List.getElem_set_self,List.set_set]
  have:zaL p.preds[i] (zaL p.preds[i] d.rels[i] o) o=zaL p.preds[i] d.rels[i] o:=by
   unfold zaL
   split
   ·exact zhD q2.1 ho.s
   ·exact zmE q2.1 ho.s
  rw [this]
 ·have hol:p.preds[i].of'.toNat<p.lats.length:=by have:=ho.hof;omega
  obtain ⟨q1,q2⟩:=h2 ho.b hof
  have hc:=q2 hol
  rw [zo8 ho.hoi hi hil hof hol,zo8 (d:=⟨d.rels,d.lats.set i (zcQ p.lats[p.preds[i].of'.toNat] d.lats[i] o)⟩) ho.hoi hi (by simpa using hil) hof hol]
  dsimp only
  rw [List.getElem_set_self,List.set_set]
  have hg:ze9 p.lats[p.preds[i].of'.toNat] (if o.kind=1 then o.elem else oU p.lats[p.preds[i].of'.toNat]):=by
   split
   ·exact zp4 (hp.l _ (List.getElem_mem hol)) hc.1 (ho.el hol (by have:=ho.hof;omega))
   ·exact zpN _
  have:zcQ p.lats[p.preds[i].of'.toNat] (zcQ p.lats[p.preds[i].of'.toNat] d.lats[i] o) o=zcQ p.lats[p.preds[i].of'.toNat] d.lats[i] o:=zk7 hc _ _ _ hg
  rw [this]
theorem zbC {p:Pg} (hp:p.ok): ∀ (l:List Op1) {d:Dt},(∀ o∈l, ∃ j,OpX p o j)→DatX p d→(wP l).foldl (zl0 p) d=l.foldl (zl0 p) d
 | [],_,_,_=>rfl
 |o::l,d,h,hX=>by
  obtain ⟨j,hj⟩:=h o (List.mem_cons_self ..)
  rw [iY,List.foldl_cons,List.foldl_cons,List.foldl_cons,zq4 hp hX hj]
  exact zbC hp l (fun o ho=>h o (List.mem_cons_of_mem _ ho)) (hX.op hp hj)
theorem zbK {p:Pg} (hp:p.ok): ∀ (l:List Op1) {d:Dt} {N:Nat},(∀ o∈l, ∃ j,OpX p o j)→DatX p d→LenD N d→LenD (N+l.length) (l.foldl (zl0 p) d)
 | [],_,_,_,_,hL=>hL
 |o::l,d,N,h,hX,hL=>by
  obtain ⟨j,hj⟩:=h o (List.mem_cons_self ..)
  have:=zbK hp l (fun o ho=>h o (List.mem_cons_of_mem _ ho)) (hX.op hp hj) (hL.op hX hj)
  rw [List.foldl_cons,List.length_cons,show N+(l.length+1)=N+1+l.length by omega]
  exact this
theorem zs4 {N:Nat} {d:Dt} (h:LenD N d) (hN:N≤2000):zj6 d=false:=by
 unfold zj6
 rw [Bool.or_eq_false_iff,List.any_eq_false,List.any_eq_false]
 exact ⟨fun z hz=>by have:=h.r z hz;simp;omega,fun z hz=>by have:=h.l z hz;simp;omega⟩
theorem lQ (p:Pg) (hp:p.ok) (hle:p.sm) (d:Dt) (ops:List Op1) (ho: ∀ o∈ops,o.ok) {N:Nat} (hL:LenD N d) (hN:N+ops.length≤2000) (hl:ops.length≤60):
  zk4 p d ops=if ze8 (DatX p d)=false then (znO,1) else if uD p ops≠0 then (znO,uD p ops) else (ops.foldl (zl0 p) d,0):=by
 unfold zk4
 by_cases h1:ze8 (DatX p d)=false
 ·rw [if_pos h1,if_pos h1]
 rw [if_neg h1,if_neg h1,if_neg (by omega)]
 by_cases h3:uD p ops≠0
 ·rw [if_pos h3,if_pos h3]
 rw [if_neg h3,if_neg h3]
 have hX:DatX p d:=zoX.1 (by cases q:ze8 (DatX p d);exact absurd q h1;rfl)
 have hz:uD p ops=0:=Classical.byContradiction h3
 have:=zbK hp ops (fun o k=>((zoK p hp hle o (ho o k)).2 (zdV hz o k)).op) hX hL
 rw [if_neg (by rw [zs4 this (by omega)];decide)]
theorem zr3 (p:Pg) (hp:p.ok) (hle:p.sm) (d:Dt) (ops:List Op1) (ho: ∀ o∈ops,o.ok) {N:Nat} (hL:LenD N d) (hN:N≤1000) (hl:ops.length≤20):zk4 p d (wP ops)=zk4 p d ops:=by
 have hm: ∀ o∈wP ops,o∈ops:=fun o h=>by
  unfold wP at h
  obtain ⟨x,hx,q⟩:=List.mem_flatMap.1 h
  simp at q;subst q;exact hx
 have htl:=mM ops
 rw [lQ p hp hle d ops ho hL (by omega) (by omega),lQ p hp hle d (wP ops) (fun o h=>ho o (hm o h)) hL (by omega) (by omega),fJ]
 by_cases h1:ze8 (DatX p d)=false
 ·rw [if_pos h1,if_pos h1]
 rw [if_neg h1,if_neg h1]
 by_cases h3:uD p ops≠0
 ·rw [if_pos h3,if_pos h3]
 rw [if_neg h3,if_neg h3]
 have hX:DatX p d:=zoX.1 (by cases q:ze8 (DatX p d);exact absurd q h1;rfl)
 have hz:uD p ops=0:=Classical.byContradiction h3
 rw [zbC hp ops (fun o k=>((zoK p hp hle o (ho o k)).2 (zdV hz o k)).op) hX]
theorem zr4 (p:Pg) (hp:p.ok) (hle:p.sm) (d:Dt) (l m:List Op1) (ho: ∀ o∈l++m,o.ok) {N:Nat} (hL:LenD N d) (hN:N+(l++m).length≤2000) (hl:(l++m).length≤60) (h0:(zk4 p d (l++m)).2=0):
  (zk4 p d l).2=0∧zk4 p (zk4 p d l).1 m=((zk4 p d (l++m)).1,0):=by
 rw [List.length_append] at hN hl
 rw [lQ p hp hle d (l++m) ho hL (by rw [List.length_append];exact hN) (by rw [List.length_append];exact hl)] at h0 ⊢
 by_cases h1:ze8 (DatX p d)=false
 ·rw [if_pos h1] at h0;cases h0
 rw [if_neg h1] at h0 ⊢
 by_cases h3:uD p (l++m)≠0
 ·rw [if_pos h3] at h0;exact absurd h0 h3
 rw [if_neg h3] at h0 ⊢
 have hX:DatX p d:=zoX.1 (by cases q:ze8 (DatX p d);exact absurd q h1;rfl)
 have hz:uD p (l++m)=0:=Classical.byContradiction h3
 obtain ⟨z1,z2⟩:=zbH p hz
 have hop: ∀ o∈l, ∃ j,OpX p o j:=fun o k=>((zoK p hp hle o (ho o (List.mem_append_left _ k))).2 (zdV z1 o k)).op
 rw [lQ p hp hle d l (fun o h=>ho o (List.mem_append_left _ h)) hL (by omega) (by omega),if_neg h1,if_neg (by rw [z1];exact fun k=>k rfl)]
 refine ⟨rfl,?_⟩
 have hX':DatX p (l.foldl (zl0 p) d):=by
  have key: ∀ (l:List Op1) {d:Dt},(∀ o∈l, ∃ j,OpX p o j)→DatX p d→DatX p (l.foldl (zl0 p) d):=fun l=>by
   induction l with
   |nil=>exact fun _ h=>h
   |cons o l ih=>
    intro d h hX
    obtain ⟨j,hj⟩:=h o (List.mem_cons_self ..)
    exact ih (fun o ho=>h o (List.mem_cons_of_mem _ ho)) (hX.op hp hj)
  exact key l hop hX
 rw [lQ p hp hle _ m (fun o h=>ho o (List.mem_append_right _ h)) (zbK hp l hop hX hL) (by omega) (by omega),if_neg (by rw [pO hX'];decide),if_neg (by rw [z2];exact fun k=>k rfl), ←List.foldl_append]
end Go.AL
namespace Go.AL
open Go.Proofs Go.Proofs.Tryz
structure Dt.raw (d:Dt):Prop where
 rl:d.rels.length≤140737488355328
 ll:d.lats.length≤140737488355328
 r: ∀ r∈d.rels,r.length≤140737488355328∧ ∀ x∈r,x.args.length≤140737488355328∧(∀ a∈x.args,a.s.size≤140737488355328)∧x.w.length≤140737488355328
 l: ∀ r∈d.lats,r.length≤140737488355328∧ ∀ x∈r,x.args.length≤140737488355328∧(∀ a∈x.args,a.s.size≤140737488355328)∧x.cs.length≤140737488355328
def gG (x:Rw):Prop:=x.args.length≤6∧x.w.length≤20
def tC (x:LRw):Prop:=x.args.length≤8∧x.cs.length≤8
structure Dt.few (d:Dt):Prop where
 rl:d.rels.length≤40
 ll:d.lats.length≤40
 r: ∀ r∈d.rels,r.length≤40∧ ∀ x∈r,gG x
 l: ∀ r∈d.lats,r.length≤8∧ ∀ x∈r,tC x
theorem zg2 {α:Type} {l:List α} {P:α→Prop} {i:Nat} (hi:i<l.length) (h: ∀ (j:Nat) (h:j<l.length),j<i→P l[j]) (q:P l[i]): ∀ (j:Nat) (h:j<l.length),j<i+1→P l[j]:=fun j k hj=>by
 rcases Nat.lt_or_ge j i with hji|hji
 ·exact h j k hji
 ·have:j=i:=by omega
  subst this;exact q
theorem za5 {α:Type} {l:List α} {P:α→Prop} (h: ∀ (j:Nat) (h:j<l.length),j<l.length→P l[j]): ∀ x∈l,P x:=fun x hx=>by
 obtain ⟨j,hj,rfl⟩:=List.getElem_of_mem hx;exact h j hj hj
theorem zsL (l:List Rw) (hl:l.length≤140737488355328):EB 33 [uN l] fun b=>b=true→l.length≤40∧ ∀ x∈l,gG x:=by
 refine ECall.pure (pv func33 29 false (by kernel_rfl) rfl rfl ?_)
 refine g2 ?_
 (repeat' (first|refine gp ?_|refine gs (fun he=> ?_) (fun he=> ?_)|fail))
 all_goals try exact ⟨⟨⟨_,rfl,by simp⟩,.sc⟩,rfl⟩
 refine zO l.length (.k:: .k:: .d:: .v:: .k:: .k:: .k::D9 (D9 (D4 ([])))) (own:=false) (fun i (_:Unit)=>[i64 i]) (fun _=>_) (fun i _=> ∀ (j:Nat) (h:j<l.length),j<i→gG l[j]) () rfl rfl (fun j _ hj=>absurd hj (Nat.not_lt_zero _)) (by omega) ?_ ?_
 ·rintro _ hI
  refine gm ?_
  refine gf @zM ?_
  exact ⟨⟨⟨_,rfl,fun _=>⟨by omega,za5 hI⟩⟩,.sc⟩,rfl⟩
 ·rintro i _ hi hw hI
  refine gm ?_
  have hx:=zG (f:=Rw.c) [] hi
  have up:=zg2 (P:=gG) hi hI
  generalize l[i]=x at*
  (have F:=(a4 @hi @hw @hx @zB);(repeat' (first|refine dR F ?_|refine dQ F (fun he=> ?_) (fun he=> ?_)|fail));all_goals clear F)
  all_goals first|exact ⟨⟨⟨_,rfl,by simp⟩,.sc⟩,rfl⟩|exact ⟨(),up ⟨by omega,by omega⟩,rfl,rfl,rfl⟩
theorem zkX (l:List LRw) (hl:l.length≤140737488355328):EB 34 [vD l] fun b=>b=true→l.length≤8∧ ∀ x∈l,tC x:=by
 refine ECall.pure (pv func34 51 false (by kernel_rfl) rfl rfl ?_)
 refine g2 ?_
 (repeat' (first|refine gp ?_|refine gs (fun he=> ?_) (fun he=> ?_)|fail))
 all_goals try exact ⟨⟨⟨_,rfl,by simp⟩,.sc⟩,rfl⟩
 refine zO l.length (.k:: .k:: .d:: .v:: .d:: .k:: .k:: .k::D9 (D9 (D9 (D9 (D4 (.d:: .d:: .d::[])))))) (own:=false) (fun i (_:Unit)=>[i64 i]) (fun _=>_) (fun i _=> ∀ (j:Nat) (h:j<l.length),j<i→tC l[j]) () rfl rfl (fun j _ hj=>absurd hj (Nat.not_lt_zero _)) (by omega) ?_ ?_
 ·rintro _ hI
  refine gm ?_
  refine gf @zM ?_
  exact ⟨⟨⟨_,rfl,fun _=>⟨by omega,za5 hI⟩⟩,.sc⟩,rfl⟩
 ·rintro i _ hi hw hI
  refine gm ?_
  have hx:=zG (f:=LRw.c) [] hi
  have up:=zg2 (P:=tC) hi hI
  generalize l[i]=x at*
  (have F:=(a4 @hi @hw @hx @zB);(repeat' (first|refine dR F ?_|refine dQ F (fun he=> ?_) (fun he=> ?_)|fail));all_goals clear F)
  all_goals try exact ⟨⟨⟨_,rfl,by simp⟩,.sc⟩,rfl⟩
  refine zO x.args.length (.k:: .k:: .d:: .k:: .v::K9 (K9 (K4 (.k:: .k:: .k::D9 (D9 (.d:: .d:: .d::[])))))) (own:=false) (fun i (_:Unit)=>[i64 i]) (fun _=>_) (fun i _=>True) () rfl rfl trivial (by omega) ?_ ?_
  ·rintro _ _
   refine gm ?_
   refine gf (a5 @hi @hw @hx @zB @zM) ?_
   exact ⟨(),up ⟨by omega,by omega⟩,rfl,rfl,rfl⟩
  ·rintro k _ hk hw2 _
   refine gm ?_
   have hy:=zG (f:=Vl.c) [] hk
   generalize x.args[k]=y at*
   (have F:=(a7 @hi @hw @hx @zB @hk @hw2 @hy);(repeat' (first|refine dR F ?_|refine dQ F (fun he=> ?_) (fun he=> ?_)|fail));all_goals clear F)
   all_goals first|exact ⟨⟨⟨_,rfl,by simp⟩,.sc⟩,rfl⟩|exact ⟨(),trivial,rfl,rfl,rfl⟩
theorem zbT (p:Pg) (hp:p.ok) (d:Dt) (hd:d.raw):EB 10 [.agg p.c,.agg d.c] fun b=>b=true→((∀ x∈p.lats,x.elems.length≤10∧x.covers.length≤80)∧p.preds.length≤26)∧d.few:=by
 refine ECall.cut (R:=fun v _=> ∃ b:Bool,v=bo b∧(b=true→((∀ x∈p.lats,x.elems.length≤10∧x.covers.length≤80)∧p.preds.length≤26)∧d.few)) (pv func10 50 false (by kernel_rfl) rfl rfl ?_) (by rintro p h ⟨b,rfl,h⟩;exact ⟨b,rfl,h⟩)
 refine g2 ?_
 obtain ⟨hr1,hr2',hr3,hr4⟩:=hd
 refine ge ?_
 (refine g1 ?_;refine zC ((zjP p hp).call zK (by simp [zJ]) _) ?_;intro p2 h2 hr2;refine g2 ?_)
 obtain ⟨⟨b,rfl,hb⟩,rfl⟩:=hr2
 cases b with
 |false=>
  refine ge ?_
  exact ⟨_,rfl,by simp⟩
 | true=>
  have hb:=hb rfl
  (repeat' (first|refine gp ?_|refine gs (fun he=> ?_) (fun he=> ?_)|fail))
  all_goals try exact ⟨_,rfl,by simp⟩
  refine zO d.rels.length (K4 (.d:: .v::K9 (K4 (.k:: .k:: .k::D9 (D4 (.d::K9 (K4 (.k::[])))))))) (own:=false) (fun i (_:Unit)=>[i64 i]) (fun _=>_) (fun i _=> ∀ (j:Nat) (h:j<d.rels.length),j<i→d.rels[j].length≤40∧ ∀ x∈d.rels[j],gG x) () rfl rfl (fun j _ hj=>absurd hj (Nat.not_lt_zero _)) (by omega) ?_ ?_
  ·rintro _ hI1
   refine gm ?_
   refine gf @zM ?_
   refine zO d.lats.length (K4 (.d:: .k:: .v::K9 (K9 (K9 (.k:: .k::D9 (D4 (.d::[]))))))) (own:=false) (fun i (_:Unit)=>[i64 i]) (fun _=>_) (fun i _=> ∀ (j:Nat) (h:j<d.lats.length),j<i→d.lats[j].length≤8∧ ∀ x∈d.lats[j],tC x) () rfl rfl (fun j _ hj=>absurd hj (Nat.not_lt_zero _)) (by omega) ?_ ?_
   ·rintro _ hI2
    refine gm ?_
    refine gf @zM ?_
    exact ⟨_,rfl,fun _=>⟨hb,by omega,by omega,za5 (P:=fun r:List Rw=>r.length≤40∧ ∀ x∈r,gG x) hI1,za5 (P:=fun r:List LRw=>r.length≤8∧ ∀ x∈r,tC x) hI2⟩⟩
   ·rintro i _ hi hw hI
    refine gm ?_
    have hx:=zG (f:=fun r:List LRw=>[vD r]) [] hi
    have hxo:=(hr4 _ (List.getElem_mem hi)).1
    have up:=zg2 (P:=fun r:List LRw=>r.length≤8∧ ∀ x∈r,tC x) hi hI
    generalize d.lats[i]=x at*
    refine gf (a4 @hi @hx @hw @zB) ?_
    (refine g1f (a4 @hi @hx @hw @zB) ?_;refine zC ((zkX x hxo).call zK (by simp) _) ?_;intro p2 h2 hr2;refine g2 ?_)
    obtain ⟨⟨b,rfl,hs⟩,rfl⟩:=hr2
    cases b with
    |false=>
     refine gf @hw ?_
     exact ⟨_,rfl,by simp⟩
    |true=>
     refine gf @hw ?_
     exact ⟨(),up (hs rfl),rfl,rfl,rfl⟩
  ·rintro i _ hi hw hI
   refine gm ?_
   have hx:=zG (f:=fun r:List Rw=>[uN r]) [] hi
   have hxo:=(hr3 _ (List.getElem_mem hi)).1
   have up:=zg2 (P:=fun r:List Rw=>r.length≤40∧ ∀ x∈r,gG x) hi hI
   generalize d.rels[i]=x at*
   refine gf (a4 @hi @hx @hw @zB) ?_
   (refine g1f (a4 @hi @hx @hw @zB) ?_;refine zC ((zsL x hxo).call zK (by simp) _) ?_;intro p2 h2 hr2;refine g2 ?_)
   obtain ⟨⟨b,rfl,hs⟩,rfl⟩:=hr2
   cases b with
   |false=>
    refine gf @hw ?_
    exact ⟨_,rfl,by simp⟩
   |true=>
    refine gf @hw ?_
    exact ⟨(),up (hs rfl),rfl,rfl,rfl⟩
theorem Dt.raw.sz {d:Dt} (h:d.raw) (k:d.few):d.sz:=
 ⟨by have:=k.rl;omega,by have:=k.ll;omega,fun r hr=>⟨by have:=(k.r r hr).1;omega,fun x hx=>by
  obtain ⟨a1,a2⟩:=(k.r r hr).2 x hx
  exact ⟨by omega,((h.r r hr).2 x hx).2.1,by omega⟩⟩,fun r hr=>⟨by have:=(k.l r hr).1;omega,fun x hx=>by
  obtain ⟨a1,a2⟩:=(k.l r hr).2 x hx
  exact ⟨by omega,by omega⟩⟩,fun r hr x hx=>((h.l r hr).2 x hx).2.1⟩
theorem Dt.few.len {d:Dt} (k:d.few):LenD 40 d:=⟨fun z hz=>(k.r z hz).1,fun z hz=>by have:=(k.l z hz).1;omega⟩
end Go.AL
namespace Go.AL
open Go.Proofs Go.Proofs.Tryz
theorem zlG {n:Nat} {h:Heap} (f:Nat) (cs:List PV):fz n h (f+1) (.tup cs)= .tup (cs.map (fz n h f)):=by simp only [fz]
theorem fzA {n:Nat} {h:Heap} (f:Nat) (cs:List PV):fz n h (f+1) (.agg cs)= .agg (cs.map (fz n h f)):=by simp only [fz]
theorem ziD {n:Nat} {h:Heap} (f:Nat) (v:Value):fz n h (f+1) (.sc v)= .sc v:=by simp only [fz]
theorem fzN {n:Nat} {h:Heap} (f:Nat):fz n h (f+1) .nil= .nil:=by simp only [fz]
theorem eJ (f:Nat) (l:List Vl):zU (f+2) (pH l)=true:=by simp [zU,List.all_map]
theorem zhM {h:Heap} {e:Int}:fz 0 h 40 (.tup [.agg [.nil,.nil],i64 e])= .tup [.agg [.nil,.nil],i64 e]:=by
 rw [zlG 39,List.map_cons,List.map_cons,List.map_nil,fzA 38,List.map_cons,List.map_cons,List.map_nil,fzN 37,ziD 38]
end Go.AL
namespace Go.AL
open Go.Proofs Go.Proofs.Tryz
end Go.AL
namespace Go.AL
open Go.Proofs Go.Proofs.Tryz
end Go.AL
namespace Go.AL
open Go.Proofs Go.Proofs.Tryz
end Go.AL
namespace Go.AL
open Go.Proofs Go.Proofs.Tryz
@[go_sem] def UBra2f21.pl:Nat→DPlan
 |1=>⟨[yA,⟨1,0,[0,1]⟩,yA,vC,yA,⟨1,0,[0,1]⟩,yA,⟨2,1,[]⟩,yA,yC],[0,1,2,4,5,6,3,7,8,9],2⟩
 |_=>⟨[],[],0⟩
theorem fzM {h:Heap} (f r off k len:Nat) {t:TypeId} {cs:List PV} (e:h[r]? =some (.var t cs)):fz 0 h (f+1) (.ms r off k len)= .ts k (wA (cs.map (fz 0 h f)) off k len):=by
 simp only [fz,Nat.not_lt_zero,if_false,e]
theorem eH (f:Nat) (d:Dt):zU (f+6) (.agg d.c)=true:=by
 have h1: ∀ r:List Rw,zU (f+4) (uN r)=true:=rE f
 have h2: ∀ r:List LRw,zU (f+4) (vD r)=true:=fun r=>by
  simp only [zU,List.all_map,List.all_eq_true,Function.comp_apply]
  intro x _ p hp
  simp only [LRw.c,List.mem_cons,List.not_mem_nil,or_false] at hp
  rcases hp with rfl|rfl
  ·exact eJ (f+1) x.args
  ·simp [zU,List.all_map]
 simp only [zU,Dt.c,List.all_cons,List.all_nil,Bool.and_true,List.all_map]
 simp only [zU] at h1 h2
 simp [h1,h2,Function.comp_def]
end Go.AL
namespace Go.AL
open Go.Proofs Go.Proofs.Tryz
structure Rp.sz (r:Rp):Prop where
 cl:r.cs.length≤1048576
 c: ∀ x∈r.cs,OpsG x.ops
 bl:r.bs.length≤1048576
 b: ∀ x∈r.bs,x.ok
end Go.AL
namespace Go.AL
open Go.Proofs Go.Proofs.Tryz
@[go_sem] def USamef24.pl:Nat→DPlan
 |6=>⟨[yA,yB,yA,yA,yB,yA,yB,yA,yA,yB,yC,yA],xF,0⟩
 |11=>⟨[yA,yB,yA,yA,yB,yA,yB,yA,yA,yB,yC,yA],xF,0⟩
 |_=>⟨[],[],0⟩
@[go_sem] def USamef31.pl:Nat→DPlan
 |6=>⟨[yA,yA,yA,yA,yB,yA,yA,yA,yA,yB,yC,yA,yA,yA,yA,yA,yA,yB,yA,yA,yA,yA,yB,yC,yA,yA],iot26,0⟩
 |_=>⟨[],[],0⟩
@[go_sem] def USamef55.pl:Nat→DPlan
 |6=>⟨[yA,yA,yA,yA,yB,yA,yA,yA,yA,yB,yC,yA,yA,yA,yA,yA,yA,yB,yA,yA,yA,yA,yA,yB,yA,yA,yA],iot27,0⟩
 |11=>⟨[yA,yA,yA,yA,yB,yA,yA,yB,yA,yA,yA,yA,yB,yA,yA,yB,yA],wR,0⟩
 |_=>⟨[],[],0⟩
@[go_sem] def USamef57.pl:Nat→DPlan
 |4=>⟨[yA,yA,yA,yB,yA,yA,yA,yB,yC,yA],xS,0⟩
 |_=>⟨[],[],0⟩
@[go_sem] def USamef58.pl:Nat→DPlan
 |6=>⟨[yA,yA,yA,yB,yA,yA,yA,yB,yA],uW,0⟩
 |_=>⟨[],[],0⟩
@[go_sem] def USamef126.pl:Nat→DPlan
 |4=>⟨[yA,yA,yA,yA,yA,yA,yA],tV,0⟩
 |5=>⟨[yA,yA,yA,yA,yA,yA,yA,yA,yC,yA],xS,0⟩
 |_=>⟨[],[],0⟩
theorem zdA (a:Int):EPure prog G0 85 [i64 a,i64 a] fun p=>p=i64 0:=by
 refine ECall.pure (pv func85 11 false (by kernel_rfl) rfl rfl ?_)
 refine g2 ?_
 have h1:decide (a<a)=false:=by simp
 refine gf @h1 ?_
 exact ⟨⟨rfl,.sc⟩,rfl⟩
open USamef126 in
theorem zm3 (s:BA) (hs:s.size≤140737488355328):EPure prog G0 126 [yQ s,yQ s] fun p=>p=i64 0:=by
 refine ECall.pure (pv func126 39 false (by kernel_rfl) rfl rfl ?_)
 refine g2 ?_
 refine ge ?_
 refine zO s.size (K4 (.d:: .v::D9 (D9 (D9 (.d::K4 (.k::[])))))) (own:=false) (fun i (_:Unit)=>[i64 i]) (fun _=>_) (fun _ _=>True) () rfl rfl trivial hs ?_ ?_
 ·rintro _ _
  refine gm ?_
  refine gf @zM ?_
  (refine g1 ?_;refine zC ((zdA s.size).call zK (by simp) _) ?_;intro p2 h2 hr2;refine g2 ?_)
  obtain ⟨rfl,rfl⟩:=hr2
  refine ge ?_
  exact ⟨⟨rfl,.sc⟩,rfl⟩
 ·rintro i _ hi hw _
  refine gm ?_
  have hi2:decide ((i:Int)<(s.size:Int))=true:=by simp;omega
  have hi3:((i:Int)<(s.size:Int))=True:=eq_true (by omega)
  (repeat (first|refine gz ?_|(refine gn ?_;intro zs zh;(try simp only [go_sem,hi,hw,hi2,hi3,zB,bne_self_eq_false] at zh);subst zh;refine gv ?_)|refine yD USamef126.pl ?_))
  exact ⟨(),trivial,rfl,rfl,rfl⟩
theorem zsB (v:Vl) (hs:v.s.size≤140737488355328):EPure prog G0 84 [.agg v.c,.agg v.c] fun p=>p=i64 0:=by
 refine ECall.cut (R:=fun p _=>p=i64 0) (pv func84 30 false (by kernel_rfl) rfl rfl ?_) (by rintro p h rfl;rfl)
 refine g2 ?_
 (repeat (first|refine gz ?_|(refine gn ?_;intro zs zh;(try simp only [go_sem,bne_self_eq_false] at zh);subst zh;refine gv ?_)))
 (refine g1 ?_;refine zC ((zm3 v.s hs).call zK (by simp) _) ?_;intro p2 h2 hr2;refine g2 ?_)
 obtain ⟨rfl,rfl⟩:=hr2
 refine ge ?_
 rfl
open USamef57 in
theorem zdH (l:List Vl) (hl:l.length≤140737488355328) (hs: ∀ v∈l,v.s.size≤140737488355328):EPure prog G0 57 [pH l,pH l] fun p=>p=i64 0:=by
 refine ECall.pure (pv func57 36 false (by kernel_rfl) rfl rfl ?_)
 refine g2 ?_
 refine ge ?_
 refine zO l.length (K4 (.d:: .v::D9 (D9 (D4 (.d:: .d:: .d::K4 (.k::[])))))) (own:=false) (fun i (_:Unit)=>[i64 i]) (fun _=>_) (fun _ _=>True) () rfl rfl trivial hl ?_ ?_
 ·rintro _ _
  refine gm ?_
  refine gf @zM ?_
  (refine g1 ?_;refine zC ((zdA l.length).call zK (by simp) _) ?_;intro p2 h2 hr2;refine g2 ?_)
  obtain ⟨rfl,rfl⟩:=hr2
  refine ge ?_
  exact ⟨⟨rfl,.sc⟩,rfl⟩
 ·rintro i _ hi hw _
  refine gm ?_
  have hx:=zG (f:=Vl.c) [] hi
  have hsx:=hs _ (List.getElem_mem hi)
  generalize l[i]=x at*
  refine gf (a4 @hi @hx @hw @zB) ?_
  (refine zF rfl rfl rfl ?_;intro zs zh;simp only [go_sem,hi,hx,hw,zB] at zh;subst zh;refine zP (by decide) (by decide) ((zsB x hsx).call zK (by simp [zJ]) _) ?_;intro p2 h2 hr2 ts2 hts;simp only [go_sem] at hts;subst hts)
  obtain ⟨rfl,rfl⟩:=hr2
  have h0:((0:Int)!=0)=false:=rfl
  refine gf (a5 @hi @hx @hw @zB @h0) ?_
  exact ⟨(),trivial,rfl,rfl,rfl⟩
theorem zqP (l:List Vl) (hl:l.length≤140737488355328) (hs: ∀ v∈l,v.s.size≤140737488355328):EPure prog G0 80 [pH l,pH l] fun p=>p=bo true:=by
 refine ECall.pure (pv func80 9 false (by kernel_rfl) rfl rfl ?_)
 refine g2 ?_
 refine ge ?_
 (refine g1 ?_;refine zC ((zdH l hl hs).call zK (by simp) _) ?_;intro p2 h2 hr2;refine g2 ?_)
 obtain ⟨rfl,rfl⟩:=hr2
 have h0:((0:Int)==0)=true:=rfl
 refine gf @h0 ?_
 exact ⟨⟨rfl,.sc⟩,rfl⟩
theorem eqSp2 (a b c d:Int):sE (α:=Prop) prog 36 (.agg [i64 a,i64 b]) (.agg [i64 c,i64 d])=some (a==c&&(b==d&&true),True):=by kernel_rfl
open USamef58 in
theorem zqR (l:List Sp) (hl:l.length≤140737488355328):EPure prog G0 58 [kJ l,kJ l] fun p=>p=bo true:=by
 refine ECall.pure (pv func58 26 false (by kernel_rfl) rfl rfl ?_)
 refine g2 ?_
 have h0:((l.length:Int)!=(l.length:Int))=false:=by simp
 refine gf @h0 ?_
 refine zO l.length (K4 (.d:: .v::K4 (.k::D9 (D4 (.d:: .d::[]))))) (own:=false) (fun i (_:Unit)=>[i64 i]) (fun _=>_) (fun _ _=>True) () rfl rfl trivial hl ?_ ?_
 ·rintro _ _
  refine gm ?_
  refine gf @zM ?_
  exact ⟨⟨rfl,.sc⟩,rfl⟩
 ·rintro i _ hi hw _
  refine gm ?_
  have hx:=zG (f:=Sp.c) [] hi
  generalize l[i]=x at*
  refine gf (a5 @hi @hx @hw @zB @eqSp2) ?_
  exact ⟨(),trivial,rfl,rfl,rfl⟩
def Rw.cm (x:Rw):Prop:=x.args.length≤140737488355328∧(∀ v∈x.args,v.s.size≤140737488355328)∧x.w.length≤140737488355328
def LRw.cm (x:LRw):Prop:=x.args.length≤140737488355328∧(∀ v∈x.args,v.s.size≤140737488355328)∧x.cs.length≤140737488355328
open USamef31 in
theorem zm7 (l:List Rw) (hl:l.length≤140737488355328) (hs: ∀ x∈l,x.cm):EPure prog G0 31 [uN l,uN l] fun p=>p=bo true:=by
 refine ECall.pure (pv func31 43 false (by kernel_rfl) rfl rfl ?_)
 refine g2 ?_
 have h0:((l.length:Int)!=(l.length:Int))=false:=by simp
 refine gf @h0 ?_
 refine zO l.length (K4 (.d:: .v::K4 (.k::D9 (D9 (D9 (D4 (.d::[]))))))) (own:=false) (fun i (_:Unit)=>[i64 i]) (fun _=>_) (fun _ _=>True) () rfl rfl trivial hl ?_ ?_
 ·rintro _ _
  refine gm ?_
  refine gf @zM ?_
  exact ⟨⟨rfl,.sc⟩,rfl⟩
 ·rintro i _ hi hw _
  refine gm ?_
  have hx:=zG (f:=Rw.c) [] hi
  obtain ⟨h1,h2,h3⟩:=hs _ (List.getElem_mem hi)
  generalize l[i]=x at*
  have h4:((0:Int)!=0)=false:=rfl
  refine gf (a4 @hi @hx @hw @zB) ?_
  (refine zF rfl rfl rfl ?_;intro zs zh;simp only [go_sem,hi,hx,hw,zB] at zh;subst zh;refine zP (by decide) (by decide) ((zdH x.args h1 h2).call zK (by simp) _) ?_;intro p2 h2 hr2 ts2 hts;simp only [go_sem] at hts;subst hts)
  obtain ⟨rfl,rfl⟩:=hr2
  refine gf (a5 @hi @hx @hw @zB @h4) ?_
  (refine vY ?_;refine zN rfl rfl rfl ?_;intro sr hsr;simp only [sK,List.getD_cons_succ,List.getD_cons_zero,Option.map_some,Option.getD_some,Bool.not_false,Bool.not_true] at hsr;subst hsr;(first|refine pK ?_|refine pL ?_);intro sr hsr;simp only [go_sem,hi,hx,hw,zB,h4] at hsr;subst hsr;refine zP (by decide) (by decide) ((zqR x.w h3).call zK (by simp) _) ?_;intro p2 h2 hr2 ts2 hts;simp only [go_sem] at hts;subst hts)
  obtain ⟨rfl,rfl⟩:=hr2
  refine gf (a5 @hi @hx @hw @zB @h4) ?_
  exact ⟨(),trivial,rfl,rfl,rfl⟩
open USamef55 in
theorem zm6 (l:List LRw) (hl:l.length≤140737488355328) (hs: ∀ x∈l,x.cm):EPure prog G0 55 [vD l,vD l] fun p=>p=bo true:=by
 refine ECall.pure (pv func55 72 false (by kernel_rfl) rfl rfl ?_)
 refine g2 ?_
 have h0:((l.length:Int)!=(l.length:Int))=false:=by simp
 refine gf @h0 ?_
 refine zO l.length (K4 (.d:: .v:: .d::K4 (.k::D9 (D9 (D9 (D9 (D9 (D9 (D4 (.d:: .d::[])))))))))) (own:=false) (fun i (_:Unit)=>[i64 i]) (fun _=>_) (fun _ _=>True) () rfl rfl trivial hl ?_ ?_
 ·rintro _ _
  refine gm ?_
  refine gf @zM ?_
  exact ⟨⟨rfl,.sc⟩,rfl⟩
 ·rintro i _ hi hw _
  refine gm ?_
  have hx:=zG (f:=LRw.c) [] hi
  obtain ⟨h1,h2,h3⟩:=hs _ (List.getElem_mem hi)
  generalize l[i]=x at*
  have h4:((x.cs.length:Int)!=(x.cs.length:Int))=false:=by simp
  refine gf (a4 @hi @hx @hw @zB) ?_
  (refine zF rfl rfl rfl ?_;intro zs zh;simp only [go_sem,hi,hx,hw,zB] at zh;subst zh;refine zP (by decide) (by decide) ((zqP x.args h1 h2).call zK (by simp) _) ?_;intro p2 h2 hr2 ts2 hts;simp only [go_sem] at hts;subst hts)
  obtain ⟨rfl,rfl⟩:=hr2
  refine gf (a5 @hi @hx @hw @zB @h4) ?_
  refine zO x.cs.length (K4 (.d:: .k:: .v::K9 (K9 (K9 (K9 (.k:: .k::D9 (D9 (D9 ([]))))))))) (own:=false) (fun i (_:Unit)=>[i64 i]) (fun _=>_) (fun _ _=>True) () rfl rfl trivial h3 ?_ ?_
  ·rintro _ _
   refine gm ?_
   refine gf (a5 @hi @hx @hw @zB @zM) ?_
   exact ⟨(),trivial,rfl,rfl,rfl⟩
  ·rintro k _ hk hw2 _
   refine gm ?_
   have hy:=zG (f:=Ce.c) [] hk
   generalize x.cs[k]=y at*
   refine gf (a8 @hi @hx @hw @zB @hk @hy @hw2 @zs8) ?_
   exact ⟨(),trivial,rfl,rfl,rfl⟩
def Dt.cm (d:Dt):Prop:=d.rels.length≤140737488355328∧d.lats.length≤140737488355328∧(∀ r∈d.rels,r.length≤140737488355328∧ ∀ x∈r,x.cm)∧ ∀ r∈d.lats,r.length≤140737488355328∧ ∀ x∈r,x.cm
theorem znT {d:Dt} (h:d.sz):d.cm:=
 ⟨by have:=h.rl;omega,by have:=h.ll;omega,fun r hr=>⟨by have:=(h.r r hr).1;omega,fun x hx=>by
  have k:=(h.r r hr).2 x hx
  exact ⟨by have:=k.al;omega,k.a,by have:=k.w;omega⟩⟩,fun r hr=>⟨by have:=(h.l r hr).1;omega,fun x hx=>by
  have k:=(h.l r hr).2 x hx
  exact ⟨by omega,h.s r hr x hx,by omega⟩⟩⟩
open USamef24 in
theorem pP (d:Dt) (hd:d.cm):EPure prog G0 24 [.agg d.c,.agg d.c] fun p=>p=bo true:=by
 obtain ⟨d1,d2,d3,d4⟩:=hd
 refine ECall.cut (R:=fun p _=>p=bo true) (pv func24 61 false (by kernel_rfl) rfl rfl ?_) (by rintro p h rfl;rfl)
 refine g2 ?_
 have h0:((d.rels.length:Int)!=(d.rels.length:Int))=false:=by simp
 have h1:((d.lats.length:Int)!=(d.lats.length:Int))=false:=by simp
 refine gf (a2 @h0 @h1) ?_
 refine zO d.rels.length (K4 (.d:: .v::K9 (K4 (K4 (D9 (D9 (.d::K9 (K9 (.k::[]))))))))) (own:=false) (fun i (_:Unit)=>[i64 i]) (fun _=>_) (fun _ _=>True) () rfl rfl trivial d1 ?_ ?_
 ·rintro _ _
  refine gm ?_
  refine gf @zM ?_
  refine zO d.lats.length (K4 (.d:: .k:: .v::K9 (K9 (K9 (K4 (K4 (D9 (D9 (.d::[]))))))))) (own:=false) (fun i (_:Unit)=>[i64 i]) (fun _=>_) (fun _ _=>True) () rfl rfl trivial d2 ?_ ?_
  ·rintro _ _
   refine gm ?_
   refine gf @zM ?_
   rfl
  ·rintro i _ hi hw _
   refine gm ?_
   have hx:=zG (f:=fun r:List LRw=>[vD r]) [] hi
   obtain ⟨k1,k2⟩:=d4 _ (List.getElem_mem hi)
   generalize d.lats[i]=x at*
   refine gf (a4 @hi @hx @hw @zB) ?_
   (refine zF rfl rfl rfl ?_;intro zs zh;simp only [go_sem,hi,hx,hw,zB] at zh;subst zh;refine zP (by decide) (by decide) ((zm6 x k1 k2).call zK (by simp) _) ?_;intro p2 h2 hr2 ts2 hts;simp only [go_sem] at hts;subst hts)
   obtain ⟨rfl,rfl⟩:=hr2
   refine gf (a4 @hi @hx @hw @zB) ?_
   exact ⟨(),trivial,rfl,rfl,rfl⟩
 ·rintro i _ hi hw _
  refine gm ?_
  have hx:=zG (f:=fun r:List Rw=>[uN r]) [] hi
  obtain ⟨k1,k2⟩:=d3 _ (List.getElem_mem hi)
  generalize d.rels[i]=x at*
  refine gf (a4 @hi @hx @hw @zB) ?_
  (refine zF rfl rfl rfl ?_;intro zs zh;simp only [go_sem,hi,hx,hw,zB] at zh;subst zh;refine zP (by decide) (by decide) ((zm7 x k1 k2).call zK (by simp) _) ?_;intro p2 h2 hr2 ts2 hts;simp only [go_sem] at hts;subst hts)
  obtain ⟨rfl,rfl⟩:=hr2
  refine gf (a4 @hi @hx @hw @zB) ?_
  exact ⟨(),trivial,rfl,rfl,rfl⟩
end Go.AL
