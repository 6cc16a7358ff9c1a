/-
  Part of the walk.
-/
import Derived.Test.YtlcjmejclpilhaaGreatDoorV22
import Derived.Sort.Statements
import Derived.Shelf.SlSortCmp.Insertion
import Derived.Shelf.SlSortCmp.NoneTotal
import Derived.Shelf.SlGeneric
set_option linter.unusedSimpArgs false
set_option linter.unusedVariables false
set_option maxRecDepth 100000
set_option maxHeartbeats 4000000
namespace Go.AL
open Go.Proofs Go.Proofs.Tryz
@[go_sem] def UCel4f196.pl:Nat->DPlan
 |5=>⟨[yA,yA,yA,yB,yA,yA],znU,0⟩
 |_=>⟨[],[],0⟩
def RowN(n:Nat)(cs:List Ce)(J:Heap)(V:PV):Prop:=(cs=[]/\V= .nil)\/ ∃j,0<cs.length/\V= .ms (n+j) 0 3 cs.length/\J[j]? =some (.var 208 (cs.map Ce.c).flatten)
theorem aW(l:List Ce):(l.map Ce.c).flatten.length=l.length*3:=by
 induction l with
 |nil=>rfl
 |cons x l ih=>rw[Xa,Yl,Ql,ih,Qn];simp;omega
theorem zi0{α:Type}: ∀{l:List α},0<l.length-> ∃l' x,l=l'++[x]
 |l,h=>by
  have:l≠[]:=fun e=>by subst e;simp at h
  exact⟨l.dropLast,l.getLast this,(List.dropLast_concat_getLast this).symm⟩
def zm5(bt:Int)(cs:List Ce)(i:Nat)(v:Int):List Ce:=if v=bt then cs else match cs.getLast? with
 |none=>[⟨i,(i+1:Nat),v⟩]
 |some c=>if c.b=i/\c.e=v then cs.dropLast++[⟨c.a,IntKind.i64.wrap (c.b+1),c.e⟩] else cs++[⟨i,(i+1:Nat),v⟩]
def zh6(bt:Int)(ms:List Int):Nat->List Ce
 |0=>[]
 |i+1=>zm5 bt (zh6 bt ms i) i (ms.getD i 0)
open UCel4f196 in
theorem zgH(l:La)(hl:l.ok)(tb m1 m2:Nat)(es:List En)(h:Heap)(hT:TB l tb m1 m2 es h)(r:Nat)(ms:List Int)(hms:ms.length=64)(hr0:h[r]? =some (.var 287 (ms.map i64))):
  ECall prog G0 196 [.ptr tb 0,.ptr r 0] h fun p h'=> ∃J:Heap,h'=h++J/\RowN h.length (zh6 (oU l) ms 64) J p/\(zh6 (oU l) ms 64).length<=64:=by
 refine pv func196 70 true Qf3 rfl rfl ?_;refine g2 ?_;have htb:=hT.t;refine gf @htb ?_;(refine g1f @htb ?_;refine zC ((zj7 l hl).call zK Qfb _) (yf0 ?_);rintro p2 h2 ⟨rfl,e2⟩);replace e2:=e2.symm;subst e2;generalize oU l=bt;refine gf @htb ?_;refine zO 64 (K4 (.k:: .v:: .k:: .d:: .d:: .d::K4 (.k:: .k:: .v::D9 (D9 (D9 (D9 (D9 (D4 (.d:: .d:: .d:: .k::[]))))))))) (own:=true) (fun i (s:PV×List Ce×Heap)=>[s.1,i64 i]) (fun s=>h++s.2.2) (fun i s=>RowN h.length s.2.1 s.2.2 s.1/\s.2.1.length<=i/\s.2.1=zh6 bt ms i) (.nil,[],[]) rfl Qf1 ⟨.inl ⟨rfl,rfl⟩,Yn _,rfl⟩ Qf0 ?_ ?_
 ·rintro⟨V,cs,J⟩ ⟨hI,hn,hcs⟩ t ht;dsimp only at*;simp only[zY] at ht;subst ht;have h64:(((64:Nat):Int)<64)=False:=Qf1;refine gf @h64 ?_;subst hcs;exact⟨J,rfl,hI,hn⟩
 ·rintro i ⟨V,cs,J⟩ hi hw ⟨hI,hn,hcs⟩ t ht;dsimp only at*;simp only[zY] at ht;subst ht;have h64:((i:Int)<64)=True:=Yk Qf0;have hi64:i<ms.length:=Qf0;have hd:=yU i64 ms i .un hi64;have hrA:(h++J)[r]? =some (.var 287 (ms.map i64)):=by rw[Qg (gsi hr0).1];exact hr0
  have F:=(a7 @h64 @hi @hw @zB @hms @hd @hrA)
  have hstep:zh6 bt ms (i+1)=zm5 bt cs i ms[i]:=by rw[zh6,<-hcs,Qb,Qa hi64];rfl
  generalize hv:ms[i]=v at*;by_cases hbt:v=bt
  ·have e1:(v==bt)=true:=by simp[hbt]
   rcases hI with ⟨h0,rfl⟩|⟨j,hc0,rfl,hj⟩
   ·refine gf (Go.AL.a2 F @e1) ?_;exact⟨(.nil,cs,J),⟨.inl ⟨h0,rfl⟩,by dsimp only;omega,by rw[hstep,zm5,Qj hbt]⟩,rfl,rfl,rfl⟩
   ·refine gf (Go.AL.a2 F @e1) ?_;exact⟨(.ms (h.length+j) 0 3 cs.length,cs,J),⟨.inr ⟨j,hc0,rfl,hj⟩,by dsimp only;omega,by rw[hstep,zm5,Qj hbt]⟩,rfl,rfl,rfl⟩
  ·have e1:(v==bt)=false:=by simp[hbt]
   have hwi:IntKind.i64.wrap ((i:Int)+1)=((i+1:Nat):Int):=hw;rcases hI with ⟨h0,rfl⟩|⟨j,hc0,rfl,hj⟩
   ·subst h0;refine gf (Go.AL.a2 F @e1) ?_;exact⟨(.ms (h.length+J.length) 0 3 1,[⟨i,(i+1:Nat),v⟩],J++[.var 208 [i64 i,i64 (i+1:Nat),i64 v]]),⟨.inr ⟨J.length,Qf1,rfl,Qf1⟩,Qf1,by rw[hstep];simp[zm5,hbt]⟩,rfl,rfl,Qf1⟩
   ·obtain⟨cs',c,rfl⟩:=zi0 hc0;rw[Ql,Wp] at hn;obtain⟨ca,cb,ce⟩:=c;obtain⟨pre,hpre⟩: ∃pre,(cs'.map Ce.c).flatten=pre:=⟨_,rfl⟩
    have hpl:pre.length=cs'.length*3:=by rw[<-hpre,aW]
    have hjl:j<J.length:=(gsi hj).1;have hJj:(h++J)[h.length+j]? =some (.var 208 (pre++[i64 ca,i64 cb,i64 ce])):=by
     rw[sB,hj,Xq,List.flatten_append,hpre];rfl
    have hSj: ∀b:Blk,(h++J).set (h.length+j) b=h++J.set j b:=fun b=>rN h J j b;have d1:=fun ys k=>iJ hpl ys k;have d2:=fun ys k=>iA hpl ys k;have d3:=fun ys=>lT hpl ys;have d4: ∀ys:List PV,(pre++ys).drop (cs'.length*3+1+1)=ys.drop 2:=fun ys=>d1 ys 2;have hpos:((0:Int)<((cs'.length+1:Nat):Int))=True:=Yk Qf0;have hsub:IntKind.i64.wrap (((cs'.length+1:Nat):Int)-1)=((cs'.length:Nat):Int):=Qgu;have a1:(cs'.length*3+3=(cs'.length+1)*3)=True:=Yk Qf0;have a2:((cs'.length+1+1)*24<=140737488355328)=True:=Yk Qf0;have a3:(cs'.length<=140737488355326)=True:=Yk Qf0;have fin: ∃x,x=(Blk.var 208 (pre++[i64 ca,i64 cb,i64 ce,i64 i,i64 (i+1:Nat),i64 v]))/\RowN h.length (cs'++[⟨ca,cb,ce⟩]++[⟨i,(i+1:Nat),v⟩]) (J.set j .old++[x]) (.ms (h.length+J.length) 0 3 (cs'.length+1+1)):=by
     refine⟨_,rfl,.inr ⟨J.length,Qf1,Qf1,?_⟩⟩;rw[Zj Qf1];simp[<-hpre]
    obtain⟨x,hx,fin⟩:=fin;by_cases hb:cb=(i:Int)
    ·have e2:(cb==(i:Int))=true:=by simp[hb]
     by_cases he:ce=v
     ·have e3:(ce==v)=true:=Qfe;refine Qdy ?_;exact⟨(.ms (h.length+j) 0 3 (cs'.length+1),cs'++[⟨ca,IntKind.i64.wrap (cb+1),ce⟩],J.set j (.var 208 (pre++[i64 ca,i64 (IntKind.i64.wrap (cb+1)),i64 ce]))),⟨.inr ⟨j,Qf1,Qf1,by rw[Qh hjl];simp[<-hpre]⟩,by simp;omega,by rw[hstep];simp[zm5,hbt,hb,he]⟩,(by simp only[zY,xJ,Xs]<;>simp),rfl,rfl⟩
     ·have e3:(ce==v)=false:=Qfe;refine Qdy ?_;exact⟨(.ms (h.length+J.length) 0 3 (cs'.length+1+1),cs'++[⟨ca,cb,ce⟩]++[⟨i,(i+1:Nat),v⟩],J.set j .old++[x]),⟨fin,by simp;omega,by rw[hstep];simp[zm5,hbt,hb,he]⟩,rfl,rfl,by rw[hx]⟩
    ·have e2:(cb==(i:Int))=false:=by simp[hb]
     refine gf (a9 @h64 @hi @hw @zB @hms @hd @hrA @e1 (a9 @hpos @hsub @hJj @d1 @d2 @d3 @d4 @hpl (a5 @hSj @a1 @a2 @a3 @e2))) ?_;exact⟨(.ms (h.length+J.length) 0 3 (cs'.length+1+1),cs'++[⟨ca,cb,ce⟩]++[⟨i,(i+1:Nat),v⟩],J.set j .old++[x]),⟨fin,by simp;omega,by rw[hstep];simp[zm5,hbt,hb]⟩,rfl,rfl,by rw[hx]⟩
theorem TB.keep{l:La}{tb m1 m2:Nat}{es:List En}{h h':Heap}(hT:TB l tb m1 m2 es h)(k: ∀(r:Nat)(b:Blk),h[r]? =some b->h'[r]? =some b):TB l tb m1 m2 es h':=
 ⟨k _ _ hT.t,k _ _ hT.a,k _ _ hT.b,hT.n,fun e he=>by obtain⟨ms,a,b⟩:=hT.l e he;exact⟨ms,a,k _ _ b⟩,hT.k,hT.d⟩
theorem yJ(h B:Heap): ∀(r:Nat)(b:Blk),h[r]? =some b->(h++B)[r]? =some b:=fun r b hr=>by
 rw[Qg (gsi hr).1];exact hr
theorem Kp.app(h B:Heap):Kp h (h++B):=fun r b hr _ _=>yJ h B r b hr
theorem iB{h:Heap}{r:Nat}(hr:LineAt h r){ms:List Int}(hms:ms.length=64)(B:Heap):
  (∀q,LineAt h q->LineAt (h.set r (.var 287 (ms.map i64))++B) q)/\(∀(q:Nat)(b:Blk),h[q]? =some b->(∀cs,b≠ .var 287 cs)->(h.set r (.var 287 (ms.map i64))++B)[q]? =some b):=by
 obtain⟨ms0,e0,hr0⟩:=hr;have hrl:=(gsi hr0).1;refine⟨fun q ⟨ms1,e1,h1⟩=> ?_,fun q b hq hn=> ?_⟩
 ·by_cases hqr:r=q
  ·subst hqr;exact⟨ms,hms,by rw[Qg Qgg,Qh hrl]⟩
  ·exact⟨ms1,e1,yJ _ _ _ _ (by rw[Qd hqr];exact h1)⟩
 ·have hqr:r≠q:=fun e=>by subst e;rw[hr0] at hq;cases hq;exact hn _ rfl
  exact yJ _ _ _ _ (by rw[Qd hqr];exact hq)
theorem TB.line{l:La}{tb m1 m2:Nat}{es:List En}{h:Heap}(hT:TB l tb m1 m2 es h){r:Nat}(hr:LineAt h r){ms:List Int}(hms:ms.length=64)(B:Heap):TB l tb m1 m2 es (h.set r (.var 287 (ms.map i64))++B):=by
 obtain⟨k1,k2⟩:=iB hr hms B;exact⟨k2 _ _ hT.t Qf1,k2 _ _ hT.a Qf1,k2 _ _ hT.b Qf1,hT.n,fun e he=>k1 _ (hT.l e he),hT.k,hT.d⟩
theorem Kp.line{h:Heap}{r:Nat}(hr:LineAt h r){ms:List Int}(hms:ms.length=64)(B:Heap):Kp h (h.set r (.var 287 (ms.map i64))++B):=fun q b hq n1 _=>(iB hr hms B).2 q b hq n1
def LRw.ok(x:LRw):Prop:=x.args.length<=1048576/\x.cs.length<=1099511627776/\ ∀a∈x.args,a.s.size<=1048576
end Go.AL
namespace Go.AL
open Go.Sort
structure Cm3{α:Type}(f:α->α->Int):Prop where
 r: ∀x y,f x y= -1\/f x y=0\/f x y=1
 e: ∀x y,f x y=0↔x=y
 s: ∀x y,f y x= - f x y
 t: ∀x y z,f x y= -1->f y z= -1->f x z= -1
theorem cmI:Cm3 rJ:=by
 refine⟨fun x y=> ?_,fun x y=> ?_,fun x y=> ?_,fun x y z=> ?_⟩<;>unfold rJ<;>(repeat' split)<;>omega
theorem Cm3.pull{α β:Type}{f:α->α->Int}(h:Cm3 f)(g:β->α)(hg: ∀x y,g x=g y->x=y):Cm3 fun x y=>f (g x) (g y):=
 ⟨fun x y=>h.r _ _,fun x y=>⟨fun k=>hg _ _ ((h.e _ _).1 k),fun k=>by subst k;exact(h.e _ _).2 rfl⟩,fun x y=>h.s _ _,fun x y z=>h.t _ _ _⟩
theorem Cm3.pair{α β:Type}{f:α->α->Int}{g:β->β->Int}(h:Cm3 f)(k:Cm3 g):Cm3 fun x y:α×β=>if f x.1 y.1=0 then g x.2 y.2 else f x.1 y.1:=by
 refine⟨fun x y=> ?_,fun x y=> ?_,fun x y=> ?_,fun x y z=> ?_⟩
 ·split
  ·exact k.r _ _
  ·exact h.r _ _
 ·constructor
  ·intro e;split at e
   ·rename_i e1;exact Prod.ext ((h.e _ _).1 e1) ((k.e _ _).1 e)
   ·rename_i e1;exact absurd e e1
  ·rintro rfl;rw[Qj ((h.e _ _).2 rfl)];exact(k.e _ _).2 rfl
 ·have e1:=h.s x.1 y.1;by_cases e:f x.1 y.1=0
  ·rw[Qj e,Qj Qf0];exact k.s _ _
  ·rw[Qi e,Qi Qf0];exact e1
 ·intro a b;by_cases e1:f x.1 y.1=0
  ·rw[Qj e1] at a;have e1':=(h.e _ _).1 e1;by_cases e2:f y.1 z.1=0
   ·rw[Qj e2] at b;rw[<-(h.e _ _).1 e2,Qj e1];exact k.t _ _ _ a b
   ·rw[Qi e2] at b;rw[e1',Qi e2];exact b
  ·rw[Qi e1] at a;by_cases e2:f y.1 z.1=0
   ·rw[<-(h.e _ _).1 e2,Qi e1];exact a
   ·exact Qe4
theorem Cm3.lex{α:Type}{f:α->α->Int}(h:Cm3 f):Cm3 (vZ f):=by
 have r: ∀x y:List α,vZ f x y= -1\/vZ f x y=0\/vZ f x y=1:=by
  intro x
  induction x with
  |nil=>intro y;cases y<;>simp[vZ]
  | cons a x ih=>
   intro y;cases y with
   |nil=>simp[vZ]
   |cons b y=>
    simp only[vZ];split
    ·exact ih y
    ·exact h.r _ _
 have e: ∀x y:List α,vZ f x y=0↔x=y:=by
  intro x
  induction x with
  |nil=>intro y;cases y<;>simp[vZ]
  | cons a x ih=>
   intro y;cases y with
   |nil=>simp[vZ]
   | cons b y=>
    simp only[vZ];by_cases e:f a b=0
    ·rw[Qj e,ih y,(h.e _ _).1 e];simp
    ·rw[Qi e];constructor
     ·intro k;exact absurd k e
     ·intro k;injection k with k1 k2;exact absurd ((h.e _ _).2 k1) e
 have s: ∀x y:List α,vZ f y x= - vZ f x y:=by
  intro x
  induction x with
  |nil=>intro y;cases y<;>simp[vZ]
  | cons a x ih=>
   intro y;cases y with
   |nil=>simp[vZ]
   |cons b y=>
    simp only[vZ];have e1:=h.s a b;by_cases e:f a b=0
    ·rw[Qj e,Qj Qf0];exact ih y
    ·rw[Qi e,Qi Qf0];exact e1
 refine⟨r,e,s,?_⟩;intro x
 induction x with
 | nil=>
  intro y z a b;cases y with
  |nil=>simp[vZ] at a
  |cons c y=>
   cases z with
   |nil=>simp[vZ] at b
   |cons d z=>rfl
 | cons p x ih=>
  intro y z a b;cases y with
  |nil=>simp[vZ] at a
  | cons c y=>
   cases z with
   |nil=>simp[vZ] at b
   | cons d z=>
    simp only[vZ] at a b ⊢
    by_cases e1:f p c=0
    ·rw[Qj e1] at a;have e1':=(h.e _ _).1 e1;by_cases e2:f c d=0
     ·rw[Qj e2] at b;rw[<-(h.e _ _).1 e2,Qj e1];exact ih _ _ a b
     ·rw[Qi e2] at b;rw[e1',Qi e2];exact b
    ·rw[Qi e1] at a;by_cases e2:f c d=0
     ·rw[<-(h.e _ _).1 e2,Qi e1];exact a
     ·exact Qe4
theorem cmC:Cm3 bT:=cmI.pull (fun x:UInt8=>(x.toNat:Int)) fun x y h=>by
 have:x.toNat=y.toNat:=Qf0;exact UInt8.toNat_inj.1 this
theorem cmB:Cm3 znM:=cmC.lex.pull (fun s:BA=>s.data.toList) fun x y h=>by
 have:x.data=y.data:=by rw[<-Array.toList_inj];exact h
 exact ByteArray.ext this
theorem cmV:Cm3 iU:=(cmI.pair (cmI.pair cmB)).pull (fun v:Vl=>(v.t,v.n,v.s)) fun x y h=>by
 obtain⟨a,b,c⟩:=x;obtain⟨a',b',c'⟩:=y;simp only[Ys] at h;obtain⟨rfl,rfl,rfl⟩:=h;rfl
theorem zqQ:Cm3 sD:=cmV.lex
theorem Cm3.swo{α:Type}{f:α->α->Int}(h:Cm3 f):SWO (Go.Proofs.ltOf f):=by
 have ns: ∀x y,f x y<0↔f x y= -1:=fun x y=>by have:=h.r x y;omega
 refine⟨fun x=> ?_,fun x y z=> ?_,fun x y z=> ?_⟩
 ·have:=(h.e x x).2 rfl;simp[Go.Proofs.ltOf,this]
 ·simp only[Go.Proofs.ltOf,Xm,ns];exact h.t x y z
 ·simp only[Go.Proofs.ltOf,Xo,ns];intro a b c;have r1:=h.r x y;have r2:=h.r y z;have s1:=h.s x y;have s2:=h.s y z;have s3:=h.s x z;rcases r1 with r1|r1|r1
  ·exact a r1
  ·have:=(h.e _ _).1 r1;subst this;exact b c
  ·rcases r2 with r2|r2|r2
   ·exact b r2
   ·have:=(h.e _ _).1 r2;subst this;omega
   ·have:=h.t z y x Qf0 Qf0;omega
theorem aG{β α:Type}{f:α->α->Int}(h:Cm3 f)(g:β->α){xs ys zs:List β}(hx:xs.Perm zs)(hy:ys.Perm zs)(hn: ∀a∈zs, ∀b∈zs,g a=g b->a=b)
  (px:xs.Pairwise fun x y=>Go.Proofs.ltOf f (g y) (g x)=false) (py:ys.Pairwise fun x y=>Go.Proofs.ltOf f (g y) (g x)=false):xs=ys:=by
 refine List.Perm.eq_of_pairwise (le:=fun x y=>Go.Proofs.ltOf f (g y) (g x)=false) (fun a b ha hb h1 h2=> ?_) px py (hx.trans hy.symm);simp only[Go.Proofs.ltOf,Xo] at h1 h2;refine hn a (hx.mem_iff.1 ha) b (hy.mem_iff.1 hb) ?_;have r:=h.r (g a) (g b);have s:=h.s (g a) (g b);exact(h.e _ _).1 Qf0
end Go.AL
namespace Go.AL
open Go.RowKit Go.Sort Go.Shelf Go.Proofs
section
variable{P:Program}{G:Glob}
theorem zvW{W W':World}(ht:TapeLe W W')(ho:W'.os=W.os)(hu:W'.output=W.output)(hs:W.heap.size<=W'.heap.size)(hh: ∀b,b<W.heap.size->W'.heap[b]? =W.heap[b]?):
  ∃q os,W'=grow (W.drewN q) os:=by
 refine⟨W'.drawn-W.drawn,W'.heap.extract W.heap.size W'.heap.size,?_⟩;obtain⟨h1,t1,d1,o1,u1⟩:=W;obtain⟨h2,t2,d2,o2,u2⟩:=W';obtain⟨ht,hd⟩:=ht;dsimp only at*;subst ht;subst ho;subst hu;have e1:d1+(d2-d1)=d2:=Qf0;have e2:h1++h2.extract h1.size h2.size=h2:=by
  apply Array.ext_getElem?;intro i;rw[Wd];split
  ·rename_i hi;exact(hh i hi).symm
  ·rename_i hi;rw[Array.getElem?_extract];split
   ·congr 1;omega
   ·rw[Array.getElem?_eq_none Qf0]
 simp only[grow,World.drewN,e1,e2]
theorem Pure.calls{f:FuncId}{args:List PV}{u:Value}(k:Pure P G f args (.sc u))(ht: ∀p∈args,Tree p)(hG:GTree G){φ:List Value}{h:Heap}{w:World}{X:Addr->Prop}(hGr:GRel ⟨φ,h,w,X⟩ G)
  {W:World} (hW: ∀a v,St.M ⟨φ,h,w,X⟩ a v->W.cell? a=some v) (hsz:w.heap.size<=W.heap.size) {vs:Array Value} (hl:vs.size=args.length) (hv: ∀(i:Nat)(p:PV)(v:Value),args[i]? =some p->vs[i]? =some v->VRel ⟨φ,h,w,X⟩ p v):
  Calls P f vs W fun e W'=>e= .returned u/\ ∃q os,W'=grow (W.drewN q) os:=by
 let S:St:=⟨φ,h,w,X⟩
 let X0:Addr->Prop:=fun a=>a.block<W.heap.size/\ ¬S.Stable a
 have hm: ∀a v,S.M a v->(⟨[],[],W,X0⟩:St).M a v:=fun a v hM=>⟨hW a v hM,hM.2.1,hM.2.2.1,Yf hM.2.2.2.1 hsz,fun hx=>hx.2 hM.2.2,fun r v hp=>by simp at hp⟩
 have hS0:SRel ⟨[],[],W,X0⟩:=⟨rfl,fun r b v hb=>by simp at hb,fun r r' v v' n hp=>by simp at hp,fun a ha=>ha.1,fun a ha r v hp=>by simp at hp⟩
 have hG0:GRel ⟨[],[],W,X0⟩ G:=fun g cs hg=>(hGr g cs hg).tree (.tp (hG g cs hg)) hm;refine(callsIn_wide.1 (k.2 [] W X0 vs hS0 hG0 hl fun i p v hp hvv=>(hv i p v hp hvv).tree (ht p (Qk hp)) hm)).mono ?_;rintro e W' ⟨φ',h',p,v,rfl,x,hS',hvr,rfl,rfl⟩;refine⟨by cases hvr;rfl,zvW x.tape x.os x.output x.size fun b hb=>(x.unt b hb (by rintro⟨r,y,hy,_⟩;simp at hy)).2⟩
theorem bF{S:St}(hS:SRel S)(os:Array Obj):Ext S {S with w:=grow S.w os}:=by
 have hh: ∀b,b<S.w.heap.size->(grow S.w os).heap[b]? =S.w.heap[b]? :=fun b hb=>heap_grow_old S.w os hb;refine⟨rfl,rfl,ztC,rfl,Qf1,fun b hb hn=>⟨hn,hh b hb⟩,fun a v hm=> ?_,fun r b hb=>⟨b,hb,Blk.le_refl b rfl⟩,fun b m ⟨arr,t,f,hr,hm⟩=>⟨arr,t,f,(hh b (Qz.1 hr).1).trans hr,hm⟩⟩;obtain⟨h1,h2,h3,h4,h5,h6⟩:=hm;exact⟨(World.cell?_of_block (hh _ h4)).trans h1,h2,h3,by simp;omega,h5,h6⟩
theorem zc6{S:St}(hS:SRel S)(os:Array Obj):SRel {S with w:=grow S.w os}:=
 ⟨hS.len,fun r b v hb hv=>(hS.blks r b v hb hv).ext (bF hS os) fun n hn=>heap_grow_old S.w os (hS.own_lt ⟨r,v,hv,hn⟩),hS.inj,
  fun a ha=>by have:=hS.xlt a ha;simp;omega,hS.xown⟩
abbrev sZ{β:Type}(f g:β->PV)(l:List β):List PV:=(l.map fun x=>[f x,g x]).flatten
theorem sQ{β:Type}(f g:β->PV)(l:List β):(sZ f g l).length=l.length*2:=by
 induction l with
 |nil=>rfl
 |cons x l ih=>simp only[sZ,Xa,Yl,Ql,Qn,Xv] at ih ⊢;omega
theorem kY{β:Type}(f g:β->PV): ∀(l:List β)(i:Nat)(h:i<l.length),(sZ f g l)[i*2]? =some (f l[i])
 |x::l,0,_=>rfl
 |x::l,i+1,h=>by
  have:=kY f g l i Qfn;rw[show(i+1)*2=i*2+1+1 by omega];simpa only[sZ,Xa,Yl,Xx,Yj,Wf,List.getElem_cons_succ] using this
theorem eR{β:Type}(f g:β->PV): ∀(l:List β)(i:Nat)(h:i<l.length),(sZ f g l)[i*2+1]? =some (g l[i])
 |x::l,0,_=>rfl
 |x::l,i+1,h=>by
  have:=eR f g l i Qfn;rw[show(i+1)*2+1=i*2+1+1+1 by omega];simpa only[sZ,Xa,Yl,Xx,Yj,Wf,List.getElem_cons_succ] using this
def kD(n:Nat)(arr:Array Value)(i:Nat):List Value:=if i<n then [arr.getD (i*2) undef,arr.getD (i*2+1) undef] else [.slice none 0 0,.slice none 0 0]
theorem bG(n:Nat)(arr:Array Value)(i:Nat):(kD n arr i).length=2:=by unfold kD;split<;>rfl
theorem zgA{n:Nat}{arr:Array Value}(hn:n*2<=arr.size){i e:Nat}(hi:i<n)(he:e<2):(kD n arr i)[e]! =arr[i*2+e]'Qf0:=by
 unfold kD;rw[Qj hi]
 match e,he with
 |0,_=>simp[Array.getD,show i*2<arr.size by omega]
 |1,_=>simp[Array.getD,show i*2+1<arr.size by omega]
theorem ACall.pdqSort{α:Type}{ρ:Ren}(L:SlLaysF0.n14 P ρ)(aE: ∀w,(isAgg (ρ.t 24)).run P w= .ok true w)(zE: ∀w,(Go.sizeOf (ρ.t 24)).run P w= .ok 2 w)(hen:uG P (ρ.f 14)=true)(lim:Nat)(hlim:lim<4611686018427387904)(hG:GTree G)
  (c:α->PV) (d0:α) (hd0:PLe .nil (c d0)) (hct: ∀x,Tree (c x)) (cf:α->α->Int) (hO:SWO (ltOf cf)) (g:FuncId) (K:α->Prop) (hK0:K d0)
  (hg: ∀x y,K x->K y->Pure P G g [.agg [c x,.un],.agg [c y,.un]] (.sc (.int .i64 (cf x y)))) {h:Heap} {r:Nat} {t:TypeId} (xs:List (α×PV)) (hK: ∀x∈xs,K x.1)
  (hr:h[r]? =some (.var t (sZ (fun x:α×PV=>c x.1) (·.2) xs))) (hlen:xs.length<4611686018427387904):
  ACall P G (ρ.f 14) [.ms r 0 2 xs.length,.sc (.int .i64 0),.sc (.int .i64 xs.length),.sc (.int .i64 lim),.fn (.func g) [] []] h fun p h'=>p= .tup []/\ ∃ys:List (α×PV),ys.Perm xs/\ys.Pairwise (fun x y=>ltOf cf y.1 x.1=false)/\h'=h.set r (.var t (sZ (fun x:α×PV=>c x.1) (·.2) ys)):=by
 refine⟨hen,fun φ w X vs hS hGr hl hv=> ?_⟩;obtain⟨v0,u1,u2,u3,v1,rfl⟩: ∃v0 u1 u2 u3 v1,vs= #[v0,u1,u2,u3,v1]:=by
  exact Qbw
 have hv0:=hv 0 _ v0 rfl rfl;have hv1:=hv 4 _ v1 rfl rfl;obtain rfl:u1= .int .i64 0:=Qhf;obtain rfl:u2= .int .i64 xs.length:=Qhg;obtain rfl:u3= .int .i64 lim:=Qhh;obtain rfl:v1= .func (.func g) #[] #[]:=by
  exact Qbo
 obtain⟨b,cap,rfl,hφ⟩: ∃b cap,v0= .slice (some ⟨b,0,none⟩) xs.length cap/\φ[r]? =some (.pointer (some ⟨b,0,none⟩)):=by
  exact Qe1
 obtain⟨b',arr,e,hh,hsz,hone,hrel⟩:=hS.blks r _ _ hr hφ;obtain rfl:b=b':=by cases e;rfl
 clear e hv hv0 hv1 hl;rw[sQ] at hsz;have hhs:w.heap[b]? =some (.cells arr t (0,0)):=hh;have hblk:b<w.heap.size:=(Qz.1 hhs).1;let n:=xs.length
 let a:Nat->α:=fun i=>(xs.map (·.1)).getD i d0
 have ha: ∀(i:Nat)(hi:i<n),a i=xs[i].1:=fun i hi=>by simp only[a];rw[Qb,Qu,Qa hi];rfl
 have ha': ∀i, ¬i<n->a i=d0:=fun i hi=>by simp only[a];rw[Qb,Ye Qfh];rfl
 have hKa: ∀i,K (a i):=fun i=>by
  exact Qe9
 have hO':SWO (ltOf fun i j:Nat=>cf (a i) (a j)):=⟨fun x=>hO.irrefl (a x),fun x y z=>hO.trans (a x) (a y) (a z),fun x y z=>hO.ntrans (a x) (a y) (a z)⟩
 have h1: ∀x, ∀v∈kD n arr x,v.oneCell'=true:=fun x v hv=>by
  unfold kD at hv;split at hv
  ·rename_i hx;have i0:x*2<arr.size:=Qf0;have i1:x*2+1<arr.size:=Qf0;simp only[Qw,Zn,Kb] at hv;rcases hv with rfl|rfl
   ·simp only[Array.getD,i0,dif_pos];exact hone _ _ (Qx i0)
   ·simp only[Array.getD,i1,dif_pos];exact hone _ _ (Qx i1)
  ·simp only[Qw,Zn,Kb] at hv;rcases hv with rfl|rfl<;>rfl
 have cellb: ∀j,w.cell? ⟨b,j,none⟩=arr[j]? :=fun j=>by simp[World.cell?,hhs]
 have flatE: ∀(d:Array Nat),d.size=n->(∀i<n,d[i]! <n)-> ∀j,(hj:j<n*2)->(flatK (kD n arr) 2 d)[j]! =arr[d[j / 2]! *2+j%2]! :=fun d hd hdn j hj=>by
  rw[get_flatK _ _ _ _ (by rw[hd];exact hj)];have:=hdn (j / 2) Qf0;rw[zgA hsz this (Nat.mod_lt _ Qf0),getElem!_pos arr _ Qf0]
 have hH:HoldsK (kD n arr) 2 w b 0 (Array.range n):=by
  intro j hj;have hj':j<n*2:=Qfv;have hr0: ∀i,i<n->(Array.range n)[i]! =i:=fun i hi=>by rw[getElem!_pos _ _ Qg3];simp
  rw[flatE _ Qf1 (fun i hi=>by rw[hr0 i hi];exact hi) j hj',hr0 _ Qf0,show j / 2*2+j%2=j by omega,Yd,cellb,getElem!_pos arr j Qf0];refine⟨Qx Qf0,?_⟩;simp only[World.frozen?,hhs];simp
 have eg: ∀args w,(callFunc g args).run P w= .ok (.enter g args) w:=iC (hg d0 d0 hK0 hK0).1;have hMb: ∀a v,St.M ⟨φ,h,w,X⟩ a v->a.block≠b/\a.block<w.heap.size:=fun a v hM=>by
  exact Qbz
 have hvr: ∀x,VRel ⟨φ,h,w,X⟩ (.agg [c (a x),.un]) (.agg (kD n arr x).toArray):=fun x=>by
  refine .agg (by simp[bG]) (fun i v hv=>h1 x v (by rw[<-List.mem_toArray];exact Kn hv)) fun i p v hp hv=> ?_
  match i,hp,hv with
  |1,hp,hv=>simp at hp;subst hp;exact .un
  |i+2,hp,hv=>simp at hp
  | 0,hp,hv=>
   simp only[Ws,Option.some.injEq] at hp;subst hp;unfold kD at hv;by_cases hx:x<n
   ·rw[Qj hx] at hv;have i0:x*2<arr.size:=Qf0;simp[Array.getD,i0] at hv;subst hv;have:=kY (fun x:α×PV=>c x.1) (·.2) xs x hx;rw[ha x hx];exact hrel (x*2) _ _ this (Qx i0)
   ·rw[Qi hx] at hv;simp at hv;subst hv;rw[ha' x hx];exact hd0 _ _ .nil
 have hcmp:CmpLays P g #[] (kD n arr) 2 (fun i j=>cf (a i) (a j)) b 0 (Array.range n).size w:=fun m os dk hdk x y=>by
  refine Pure.calls (hg (a x) (a y) (hKa x) (hKa y)) (by
   intro p hp;simp only[Qw,Zn,Kb] at hp;rcases hp with rfl|rfl
   ·exact .agg fun q hq=>by simp only[Qw,Zn,Kb] at hq;rcases hq with rfl|rfl<;>first|exact hct _|exact .un
   ·exact .agg fun q hq=>by simp only[Qw,Zn,Kb] at hq;rcases hq with rfl|rfl<;>first|exact hct _|exact .un) hG hGr (fun ad v hM=> ?_) (size_sortWorldK_c _ _ _ _ _ _ _ _) Qf1 fun i p v hp hv=> ?_
  ·obtain⟨hne,hlt⟩:=hMb ad v hM;unfold sortWorldK;rw[cell?_grow _ _ _ (by simpa [putRowK,putRow,mapBlock,Go.Sort.ahead] using hlt),cell?_putRowK_other _ _ _ _ _ _ _ hne];exact hM.1
  ·exact Qbq
 have hcon:=AnyQ.pdqsortCmpFunc_all L 2 aE zE (kD n arr) (fun i j=>cf (a i) (a j)) g #[] hO' b 0 cap (Array.range n) w eg hcmp ⟨bG n arr,h1,hH,hblk⟩ ((Array.range n).size+1) 0 (Array.range n).size lim (Array.range n) w Qf0 rfl (SWK.start hH) (Yn _) (Xe _) Qgb hlim (Or.inl rfl);rw[show(Array.range n).size=xs.length by simp[n]] at hcon;have hpd:=pdq_sorts (ltOf fun i j=>cf (a i) (a j)) hO' (Array.range n) 0 xs.length lim true true (Yn _) (by simp[n]) (Or.inl rfl);refine(callsIn_wide.2 hcon).mono ?_;rintro e w' ⟨rfl,m,os,rfl⟩;obtain⟨⟨hds, -,hperm⟩,hsorted⟩:=hpd;generalize Go.Sort.pdq (ltOf fun i j=>cf (a i) (a j)) (Array.range n) 0 xs.length lim true true=d' at*;have hds:d'.size=n:=by simpa using hds
 have hpm:d'.toList.Perm (List.range n):=by
  exact Qaw
 have hdn: ∀i<n,d'[i]! <n:=fun i hi=>by
  exact Qch
 have hn0: ∀x:List (α×PV),x=xs->n=x.length:=fun x hx=>by subst hx;rfl
 let ys:List (α×PV):=d'.toList.map fun i=>xs.getD i (d0,.un)
 have hys:ys.length=n:=by simp[ys,hds]
 have hgy: ∀(i:Nat)(hi:i<ys.length),ys[i]=xs[d'[i]!]'(hdn i Qf0):=fun i hi=>by
  exact Qcg
 have hxs:(List.range n).map (fun i=>xs.getD i (d0,.un))=xs:=by
  exact Qdk
 have hyp:ys.Perm xs:=by
  have:=hpm.map (fun i=>xs.getD i (d0,PV.un));rw[hxs] at this;exact this
 have hyw:ys.Pairwise fun x y=>ltOf cf y.1 x.1=false:=by
  exact Qbf
 have hl':(sZ (fun x:α×PV=>c x.1) (·.2) ys).length=(sZ (fun x:α×PV=>c x.1) (·.2) xs).length:=by rw[sQ,sQ,hys]
 let w1:World:=putRowK (kD n arr) 2 (Go.Sort.ahead w m) b 0 d'
 let arr':Array Value:=putCells id 0 (flatK (kD n arr) 2 d') arr
 have jY: ∀k,k≠b->w1.heap[k]? =w.heap[k]? :=fun k hk=>by
  simp only[w1,putRowK,putRow,mapBlock,Go.Sort.ahead,Wc];rw[Qi (fun e=>hk e.symm)]
 have hw1b:w1.heap[b]? =some (.cells arr' t (0,0)):=by
  simp only[w1,putRowK,putRow,mapBlock,Go.Sort.ahead,Wc];rw[Qj trivial,hhs];rfl
 have hasz:arr'.size=arr.size:=by simp[arr',putCells]
 have hs1:w1.heap.size=w.heap.size:=by simp[w1,putRowK,putRow,mapBlock,Go.Sort.ahead]
 have hag: ∀j,j<arr.size->arr'[j]? =some (if j<n*2 then arr[d'[j / 2]! *2+j%2]! else arr[j]!):=fun j hj=>by
  simp only[arr',putCells,Array.getElem?_mapIdx,Qx hj,Wh,size_flatK,hds,Yd,Yn,true_and,Nat.sub_zero,id];by_cases hjn:j<n*2
  ·rw[Qj hjn,Qj hjn,flatE d' hds hdn j hjn]
  ·rw[Qi hjn,Qi hjn,getElem!_pos arr j hj]
 have hone': ∀(i:Nat)(u:Value),arr'[i]? =some u->u.oneCell'=true:=fun i u hu=>by
  have hi:i<arr.size:=by rw[<-hasz];exact(Qz.1 hu).1
  rw[hag i hi] at hu;cases hu;split
  ·have:=hdn (i / 2) Qf0;rw[getElem!_pos arr _ Qf0];exact hone _ _ (Qx _)
  ·rw[getElem!_pos arr _ hi];exact hone _ _ (Qx _)
 have hrow: ∀b1 m1,St.Row ⟨φ,h,w,X⟩ b1 m1->St.Row {(⟨φ,h,w,X⟩:St) with w:=w1} b1 m1:=by
  exact Qb5
 have htl:TapeLe w w1:=⟨rfl,Kt _ _⟩
 have hvn: ∀(i:Nat)(p:PV)(u:Value),(sZ (fun x:α×PV=>c x.1) (·.2) ys)[i]? =some p->arr'[i]? =some u->VRel ⟨φ,h,w,X⟩ p u:=fun i p u hp hu=>by
  have hi:i<n*2:=by have:=(gsi hp).1;rw[sQ,hys] at this;exact this
  rw[hag i Qf0,Qj hi] at hu;cases hu;have hd:=hdn (i / 2) Qf0;rw[getElem!_pos arr _ Qf0];refine hrel (d'[i / 2]! *2+i%2) p _ ?_ (Qx _);have hi2:i / 2<ys.length:=Qf0;rcases Nat.mod_two_eq_zero_or_one i with he|he
  ·have e1:=kY (fun x:α×PV=>c x.1) (·.2) ys (i / 2) hi2;rw[show i / 2*2=i by omega,hp,hgy _ hi2] at e1;rw[he,Wn,kY _ _ xs _ hd,e1]
  ·have e1:=eR (fun x:α×PV=>c x.1) (·.2) ys (i / 2) hi2;rw[show i / 2*2+1=i by omega,hp,hgy _ hi2] at e1;rw[he,eR _ _ xs _ hd,e1]
 have x1:=eT (arr':=arr') hS hφ hr hl' (w':=w1) rfl htl rfl hs1 jY hrow;have hS1:=cM (arr':=arr') hS hφ hr hl' (w':=w1) rfl htl rfl hs1 jY hrow hw1b (by rw[sQ,hys,hasz];exact hsz) hone' hvn;refine⟨φ,h.set r (.var t (sZ (fun x:α×PV=>c x.1) (·.2) ys)),.tup [],.tuple #[],rfl,x1.trans (bF hS1 os),zc6 hS1 os,.tup rfl fun i p v hp=>by simp at hp,rfl,ys,hyp,hyw,rfl⟩
theorem ACall.pdqNone{ρ:Ren}(L:SlLaysF0.n14 P ρ)(hen:uG P (ρ.f 14)=true)(lim:Int)(g:FuncId)(h:Heap):
  ACall P G (ρ.f 14) [.nil,.sc (.int .i64 0),.sc (.int .i64 0),.sc (.int .i64 lim),.fn (.func g) [] []] h fun p h'=>p= .tup []/\h'=h:=by
 refine⟨hen,fun φ w X vs hS hGr hl hv=> ?_⟩;obtain⟨v0,u1,u2,u3,v1,rfl⟩: ∃v0 u1 u2 u3 v1,vs= #[v0,u1,u2,u3,v1]:=by
  exact Qbw
 obtain rfl:v0= .slice none 0 0:=by have:=hv 0 _ v0 rfl rfl;cases this;rfl
 obtain rfl:u1= .int .i64 0:=Qhf;obtain rfl:u2= .int .i64 0:=Qhg;obtain rfl:u3= .int .i64 lim:=Qhh;refine(callsIn_wide.2 (AnyF.pdqsortCmpFunc_none L none 0 lim v1 w)).mono ?_;rintro e w' ⟨rfl,rfl⟩;exact⟨φ,h,.tup [],.tuple #[],rfl,Ext.refl _,hS,.tup rfl fun i p v hp=>by simp at hp,rfl,rfl⟩
theorem ACall.bitsLen{ρ:Ren}(L:SlLaysF0.n14 P ρ)(hen:uG P (ρ.f 15)=true)(n:Nat)(hn:n<4611686018427387904)(h:Heap):
  ACall P G (ρ.f 15) [.sc (.int .u64 n)] h fun p h'=>p= .sc (.int .i64 (Lib.bitLen n:Nat))/\h'=h:=by
 refine⟨hen,fun φ w X vs hS hGr hl hv=> ?_⟩;obtain⟨v0,rfl⟩: ∃v0,vs= #[v0]:=by
  obtain⟨l⟩:=vs
  match l,hl with
  | [a],_=>exact⟨a,rfl⟩
 obtain rfl:v0= .int .u64 n:=by have:=hv 0 _ v0 rfl rfl;cases this;rfl
 have hb:=Any.bits_Len (SlLaysF0.n15.bits (P:=P) (ρ:=ρ) {L with}) (n:Int) w Qf0 Qf0;rw[Xw] at hb;have hlt:Lib.bitLen n<=62:=Lib.bitLen_le n 62 Qf0 Qf0;refine(callsIn_wide.2 hb).mono ?_;rintro e w' ⟨rfl,rfl⟩;have k1:IntKind.i64.min= -9223372036854775808:=Qf2;have k2:IntKind.i64.max=9223372036854775807:=Qf2;have hok:tJ (.int .i64 ((Lib.bitLen n:Nat):Int)):=⟨by rw[k1];omega,by rw[k2];omega⟩
 exact⟨φ,h,_,_,rfl,Ext.refl _,hS,.sc hok,rfl,rfl⟩
end
end Go.AL
namespace Go.Proofs
open Go.Shelf Go.AL
def Tryz.sortLRow_ren:Go.Shelf.Ren:=⟨fun|14=>274|20=>329|21=>330|22=>331|23=>332|24=>333|25=>334|26=>335|27=>336|46=>368|47=>305|48=>306|49=>369|50=>370|15=>167|57=>381|28=>239|29=>240|n=>n,fun|24=>162|22=>123|3=>3|25=>282|4=>4|0=>0|46=>326|45=>325|50=>216|66=>383|39=>261|55=>245|70=>387|76=>417|77=>418|53=>332|5=>5|9=>9|n=>n,fun n=>n⟩
theorem Tryz.sortLRow:Go.Proofs.SlLaysF0.n14 Tryz.prog Tryz.sortLRow_ren:={
 mixed:=Qf3
 f14:=⟨Tryz.f274.name,Qf2,Tryz.func274.trans (Ym some Qf3)⟩
 f15:=Tryz.func167.trans (Ym some Qf3)
 f20:=⟨Tryz.f329.name,Qf2,Tryz.func329.trans (Ym some Qf3)⟩
 f21:=⟨Tryz.f330.name,Qf2,Tryz.func330.trans (Ym some Qf3)⟩
 f22:=⟨Tryz.f331.name,Qf2,Tryz.func331.trans (Ym some Qf3)⟩
 f23:=⟨Tryz.f332.name,Qf2,Tryz.func332.trans (Ym some Qf3)⟩
 f24:=⟨Tryz.f333.name,Qf2,Tryz.func333.trans (Ym some Qf3)⟩
 f25:=⟨Tryz.f334.name,Qf2,Tryz.func334.trans (Ym some Qf3)⟩
 f26:=⟨Tryz.f335.name,Qf2,Tryz.func335.trans (Ym some Qf3)⟩
 f27:=⟨Tryz.f336.name,Qf2,Tryz.func336.trans (Ym some Qf3)⟩
 f28:=Tryz.func239.trans (Ym some Qf3)
 f29:=Tryz.func240.trans (Ym some Qf3)
 f46:=⟨Tryz.f368.name,Qf2,Tryz.func368.trans (Ym some Qf3)⟩
 f47:=Tryz.func305.trans (Ym some Qf3)
 f48:=Tryz.func306.trans (Ym some Qf3)
 f49:=⟨Tryz.f369.name,Qf2,Tryz.func369.trans (Ym some Qf3)⟩
 f50:=⟨Tryz.f370.name,Qf2,Tryz.func370.trans (Ym some Qf3)⟩
 f57:=⟨Tryz.f381.name,Qf2,Tryz.func381.trans (Ym some Qf3)⟩
 t0:=Tryz.underlying0
 a0:=Tryz.isAgg0
 z0:=Tryz.sizeOf0
 v0:=Tryz.zeroValue0
 t3:=Tryz.underlying3
 a3:=Tryz.isAgg3
 z3:=Tryz.sizeOf3
 v3:=Tryz.zeroValue3
 t4:=Tryz.underlying4
 a4:=Tryz.isAgg4
 z4:=Tryz.sizeOf4
 v4:=Tryz.zeroValue4
 t5:=Tryz.underlying5
 a5:=Tryz.isAgg5
 z5:=Tryz.sizeOf5
 v5:=Tryz.zeroValue5
 t9:=Tryz.underlying9
 a9:=Tryz.isAgg9
 z9:=Tryz.sizeOf9
 v9:=Tryz.zeroValue9
 t22:=Tryz.underlying123
 a22:=Tryz.isAgg123
 z22:=Tryz.sizeOf123
 v22:=Tryz.zeroValue123
 t25:=Tryz.underlying282
 a25:=Tryz.isAgg282
 z25:=Tryz.sizeOf282
 v25:=Tryz.zeroValue282
 t39:=Tryz.underlying261
 a39:=Tryz.isAgg261
 z39:=Tryz.sizeOf261
 v39:=Tryz.zeroValue261
 t45:=Tryz.underlying325
 a45:=Tryz.isAgg325
 z45:=Tryz.sizeOf325
 v45:=Tryz.zeroValue325
 t46:=Tryz.underlying326
 a46:=Tryz.isAgg326
 z46:=Tryz.sizeOf326
 v46:=Tryz.zeroValue326
 t50:=Tryz.underlying216
 a50:=Tryz.isAgg216
 z50:=Tryz.sizeOf216
 v50:=Tryz.zeroValue216
 t53:=Tryz.underlying332
 a53:=Tryz.isAgg332
 z53:=Tryz.sizeOf332
 v53:=Tryz.zeroValue332
 t55:=Tryz.underlying245
 a55:=Tryz.isAgg245
 z55:=Tryz.sizeOf245
 v55:=Tryz.zeroValue245
 t66:=Tryz.underlying383
 a66:=Tryz.isAgg383
 z66:=Tryz.sizeOf383
 v66:=Tryz.zeroValue383
 t70:=Tryz.underlying387
 a70:=Tryz.isAgg387
 z70:=Tryz.sizeOf387
 v70:=Tryz.zeroValue387
 t76:=Tryz.underlying417
 a76:=Tryz.isAgg417
 z76:=Tryz.sizeOf417
 v76:=Tryz.zeroValue417
 t77:=Tryz.underlying418
 a77:=Tryz.isAgg418
 z77:=Tryz.sizeOf418
 v77:=Tryz.zeroValue418}
end Go.Proofs
namespace Go.AL
open Go.Proofs Go.Sort
def LRw.ok2(x:LRw):Prop:=x.args.length<=1048576/\x.cs.length<=64/\ ∀a∈x.args,a.s.size<=1048576
theorem zbO(f:En->PV): ∀{es:List En}{i:Nat}(j:Nat){e:En},(es.map (·.k)).Nodup->es[i]? =some e->vV (.string e.k) (es.map fun e=>(Value.string e.k,f e)) j=some (j+i,f e)
 | [],i,j,e,_,h=>by simp at h
 |x::es,0,j,e,_,h=>by
  simp at h;subst h;simp[vV,sY]
 |x::es,i+1,j,e,hn,h=>by
  rw[Xa,Zs] at hn;have h':es[i]? =some e:=Qfn;have hne: ¬e.k=x.k:=fun q=>hn.1 (by rw[<-q];exact Zi (f:=fun e:En=>e.k) (Qk h'));have:=zbO f (j+1) hn.2 h';simp only[Xa,vV];rw[Qi (by simp[sY,hne]),this];congr 2;omega
theorem qG: ∀(n:Nat)(l:List Nat),l.Nodup->(∀x∈l,x<n)->l.length<=n
 |0,[],_,_=>Xe _
 |0,x::l,_,h=>absurd (h x (Qe ..)) (Xt _)
 | n+1,l,hn,h=>by
  by_cases hm:n∈l
  ·have:=qG n (l.erase n) (hn.erase n) fun x hx=>by
    have h1:=h x (List.mem_of_mem_erase hx);have h2:x≠n:=fun e=>by subst e;exact hn.not_mem_erase hx
    omega
   rw[List.length_erase_of_mem hm] at this;omega
  ·have:=qG n l hn fun x hx=>by
    have h1:=h x hx;have h2:x≠n:=fun e=>by subst e;exact hm hx
    omega
   omega
theorem aK{l:List Nat}{n:Nat}(hn:l.Nodup)(h1: ∀x∈l,x<n)(h2: ∀x,x<n->x∈l):l.Perm (List.range n):=by
 rw[List.perm_iff_count];intro a;rw[hn.count,List.nodup_range.count];simp only[Jm];by_cases ha:a<n
 ·rw[Qj (h2 a ha),Qj ha]
 ·rw[Qi (fun h=>ha (h1 a h)),Qi ha]
theorem zb5(bt:Int)(ms:List Int): ∀n,(zh6 bt ms n).length<=n
 |0=>Xe _
 | n+1=>by
  have h:=zb5 bt ms n;simp only[zh6,zm5];split
  ·omega
  ·split
   ·simp
   ·rename_i c hc;have hne:zh6 bt ms n≠[]:=fun e=>by rw[e] at hc;cases hc
    have hp:=Up.2 hne;split<;>simp<;>omega
abbrev RX:=(LRw×Nat)×PV
abbrev rxc(x:LRw×Nat):PV:=pH x.1.args
def RowOK(lo:Nat)(H:Heap)(x:RX):Prop:=x.2= .ms x.1.2 0 3 x.1.1.cs.length/\lo<=x.1.2/\H[x.1.2]? =some (.var 208 (x.1.1.cs.map Ce.c).flatten)
abbrev rxf(xs:List RX):List PV:=sZ (fun x:RX=>rxc x.1) (·.2) xs
def OutAt(lo:Nat)(H:Heap)(xs:List RX)(V:PV):Prop:=(xs=[]/\V= .nil)\/ ∃r,lo<=r/\0<xs.length/\V= .ms r 0 2 xs.length/\H[r]? =some (.var 162 (rxf xs))
abbrev rxL(x y:LRw):Prop:=ltOf sD y.args x.args=false
theorem swoA:SWO (ltOf fun a b:LRw×Nat=>sD a.1.args b.1.args):=by
 have h:=zqQ.swo;exact⟨fun x=>h.irrefl _,fun x y z=>h.trans _ _ _,fun x y z=>h.ntrans _ _ _⟩
theorem zi3(x y:LRw)(hx:x.args.length<=1048576/\ ∀a∈x.args,a.s.size<=1048576)(hy:y.args.length<=1048576/\ ∀a∈y.args,a.s.size<=1048576):EPure Tryz.prog G0 198 [.agg [pH x.args,.un],.agg [pH y.args,.un]] fun p=>p=i64 (sD x.args y.args):=by
 refine ECall.cut (R:=fun p _=>p=i64 (sD x.args y.args)) (pv Tryz.func198 10 false Qf3 rfl rfl ?_) Qgi;refine g2 ?_;refine ge ?_;(refine g1 ?_;refine zC ((zb6 x.args y.args Qf0 Qf0 (fun a h=>by have:=hx.2 a h;omega) (fun a h=>by have:=hy.2 a h;omega)).call zK Qf1 _) ?_;intro p2 h2 hr2;refine g2 ?_);obtain⟨rfl,rfl⟩:=hr2;refine ge ?_;rfl
theorem ECall.acall{f:FuncId}{args:List PV}{h:Heap}{R:PV->Heap->Prop}(k:ECall Tryz.prog G0 f args h R):ACall Tryz.prog G0 f args h R:=by
 obtain⟨p,h',a,b⟩:=k;exact b.mono (by rintro _ _ ⟨rfl,rfl⟩;exact a)
theorem EPure.pure1{f:FuncId}{args:List PV}{u:PV}(k:EPure Tryz.prog G0 f args fun p=>p=u):Go.AL.Pure Tryz.prog G0 f args u:=by
 obtain⟨p,rfl,t,c⟩:=k;exact c
end Go.AL
namespace Go.AL.N
open Go.Proofs Go.Sort
theorem zfF(lo:Nat)(H:Heap)(xs:List RX)(V:PV)(hO:OutAt lo H xs V)(hR: ∀x∈xs,RowOK lo H x)(hA: ∀x∈xs,x.1.1.args.length<=1048576/\ ∀a∈x.1.1.args,a.s.size<=1048576)(hz:xs.length<=2199023255552):
  ACall Tryz.prog G0 197 [V,.fn (.func 198) [] []] H fun p h'=>p= .tup []/\h'.length=H.length/\(∀q,q<lo->h'[q]? =H[q]?)/\ ∃ys:List RX,ys.Perm xs/\ys.Pairwise (fun x y=>rxL x.1.1 y.1.1)/\OutAt lo h' ys V/\ ∀x∈ys,RowOK lo h' x:=by
 have L:=Tryz.sortLRow;rcases hO with ⟨rfl,rfl⟩|⟨r,hr,h0,rfl,hH⟩
 ·refine pv Tryz.func197 14 false Qf3 rfl rfl ?_;refine g2 ?_;have zj6:IntKind.u64.wrap 0=0:=Qf2;have h5:(Tryz.prog.underlying 3).isSome=true:=Qf3;refine gf (Go.AL.a2 @zj6 @h5) ?_;(refine g1f (Go.AL.a2 @zj6 @h5) ?_;refine zC ((show ACall Tryz.prog G0 167 [.sc (.int .u64 0)] H _ from ACall.bitsLen L Qf3 0 Qf0 H)) ?_;intro p2 h2 hr2;refine g2 ?_);obtain⟨rfl,rfl⟩:=hr2;refine ge ?_;(refine g1 ?_;refine zC (ACall.pdqNone L Qf3 _ _ _) ?_;intro p2 h2 hr2;refine g2 ?_);obtain⟨rfl,rfl⟩:=hr2;refine ge ?_;exact⟨rfl,rfl,fun _ _=>rfl,[],.nil,.nil,.inl ⟨rfl,rfl⟩,Qf1⟩
 ·refine pv Tryz.func197 14 false Qf3 rfl rfl ?_;refine g2 ?_;have h5:(Tryz.prog.underlying 3).isSome=true:=Qf3;have hwn:IntKind.u64.wrap (xs.length:Int)=xs.length:=Qhp;have hbl:Lib.bitLen xs.length<4611686018427387904:=Wl (Lib.bitLen_le xs.length 62 Qf0 Qf0) Qf0;refine gf (Go.AL.a2 @hwn @h5) ?_;(refine g1f (Go.AL.a2 @hwn @h5) ?_;refine zC (ACall.bitsLen L Qf3 xs.length Qf0 H) ?_;intro p2 h2 hr2;refine g2 ?_);obtain⟨rfl,rfl⟩:=hr2;refine gf (Go.AL.a2 @hwn @h5) ?_;(refine g1f (Go.AL.a2 @hwn @h5) ?_;refine zC (ACall.pdqSort L Tryz.isAgg162 Tryz.sizeOf162 Qf3 _ hbl zK rxc (⟨[],[]⟩,0) (PLe.nil_ts 3) (fun x=>by simp) (fun a b:LRw×Nat=>sD a.1.args b.1.args) swoA 198 (fun x=>x.1.args.length<=1048576/\ ∀a∈x.1.args,a.s.size<=1048576) ⟨Qf1,Qf1⟩ (fun x y hx hy=>(zi3 x.1 y.1 hx hy).pure1) xs hA hH Qf0) ?_;intro p2 h2 hr2;refine g2 ?_);obtain⟨rfl,ys,hp,hs,rfl⟩:=hr2;refine ge ?_;have hrl:=(gsi hH).1;refine⟨rfl,Qf1,fun q hq=>Qd Qf0,ys,hp,hs,.inr ⟨r,hr,by rw[hp.length_eq];exact h0,by rw[hp.length_eq],Qh hrl⟩,fun x hx=> ?_⟩;obtain⟨a1,a2,a3⟩:=hR x (hp.mem_iff.1 hx);refine⟨a1,a2,?_⟩;rw[Qd (fun e=>by rw[e] at hH;rw[hH] at a3;cases a3)];exact a3
theorem zlE{P:Program}{G:Glob}{D:Option Nat->Prop}{c:Code}{K:Exit->List PV->Heap->Prop}{ts:List PV}{h:Heap}(k:EWp P G D c K ts h):EWp P G D c K ts h:=k
theorem ge{p q:Prop}(k:q) (h:q->p:=by
 intro gk;(repeat((fail_if_success(with_reducible refine zlE ?_));first|refine nx ?_|(intro zs zh;(try simp only[go_sem] at zh);subst zh)|(refine ns ?_;intro zs zh;(try simp only[go_sem] at zh);subst zh;first|refine nx ?_|refine zH (by clear gk;omega) ?_)));exact gk):p:=h k
theorem gf{F0 p q:Prop}(F:F0)(k:q) (h:F0->q->p:=by
 intro F gk;(repeat((fail_if_success(with_reducible refine zlE ?_));first|refine nx ?_|(intro zs zh;(try simp only[go_sem] at zh);subst zh)|(refine ns ?_;intro zs zh;(try simp only[go_sem,F] at zh);subst zh;first|refine nx ?_|refine zH (by clear gk;omega) ?_)));exact gk):p:=h F k
theorem zjZ:za2 (α:=Prop) Tryz.prog 160 .nil .nil=some (true,True):=Qf3
theorem zhR(r o k n:Nat):za2 (α:=Prop) Tryz.prog 160 (.ms r o k n) .nil=some (false,True):=Qf3
def rowOf(bt:Int)(M:En->List Int)(es:List En)(i:Nat):Option LRw:=(es[i]?).bind fun e=>if zh6 bt (M e) 64=[] then none else some ⟨e.a,zh6 bt (M e) 64⟩
structure RS where
 seen:List Nat
 J:Heap
 V:PV
 xs:List RX
abbrev RS.hp(h:Heap)(m1 n:Nat)(s:RS):Heap:=h++ .iter (some m1) n s.seen::s.J
structure RIv(h:Heap)(m1 n:Nat)(bt:Int)(M:En->List Int)(es:List En)(s:RS):Prop where
 nd:s.seen.Nodup
 lt: ∀i∈s.seen,i<n
 out:OutAt (h.length+1) (s.hp h m1 n) s.xs s.V
 row: ∀x∈s.xs,RowOK (h.length+1) (s.hp h m1 n) x
 sel:s.xs.map (·.1.1)=s.seen.filterMap (rowOf bt M es)
theorem zbY{h:Heap}{m1 n:Nat}{seen:List Nat}{J:Heap}{q:Nat}{t:TypeId}{cs:List PV}(i:Nat)(J2:Heap)(hq:(h++ .iter (some m1) n seen::J)[q]? =some (.var t cs)):(h++ .iter (some m1) n (seen++[i])::(J++J2))[q]? =some (.var t cs):=by
 rcases Xy q h.length with hl|hl
 ·rw[Qg hl] at hq ⊢;exact hq
 ·rw[Zj hl] at hq ⊢
  cases hk:q-h.length with
  |zero=>rw[hk] at hq;simp at hq
  |succ k=>
   rw[hk] at hq;rw[Wf] at hq ⊢
   rw[Qg (gsi hq).1];exact hq
theorem zhL{h:Heap}{it:Blk}{J:Heap}{q r:Nat}{t u:TypeId}{cs ds:List PV}(b:Blk)(hr:(h++it::J)[r]? =some (.var u ds))(hne:t≠u)(hq:(h++it::J)[q]? =some (.var t cs))(B:Heap):((h++it::J).set r b++B)[q]? =some (.var t cs):=by
 have hrq:r≠q:=fun e=>by subst e;rw[hr] at hq;cases hq;exact hne rfl
 rw[Qg (by rw[Xb];exact(gsi hq).1),Qd hrq];exact hq
abbrev rxL'(x y:LRw):Prop:=ltOf sD y.args x.args=false
theorem rel_n(l:La)(hl:l.ok)(tb m1 m2:Nat)(es:List En)(h:Heap)(hT:TB l tb m1 m2 es h)(hz:es.length<=2199023255552)(M:En->List Int)(hM: ∀e∈es,(M e).length=64/\h[e.r]? =some (.var 287 ((M e).map i64))):
  ACall Tryz.prog G0 145 [.ptr tb 0] h fun p h'=>h'.take h.length=h/\ ∃xs:List RX,OutAt (h.length+1) h' xs p/\(∀x∈xs,RowOK (h.length+1) h' x)/\(xs.map (·.1.1)).Perm ((List.range es.length).filterMap (rowOf (oU l) M es))/\(xs.map (·.1.1)).Pairwise rxL:=by
 refine pv Tryz.func145 37 true Qf3 rfl rfl ?_;refine g2 ?_;have htb:=hT.t;have hma:=hT.a;have hsel: ∀i r,rowOf (oU l) M es i=some r->r.args.length<=1048576/\ ∀a∈r.args,a.s.size<=1048576:=fun i r hr=>by
  unfold rowOf at hr;cases he:es[i]? with
  |none=>rw[he] at hr;cases hr
  | some e=>
   rw[he] at hr;simp only[Jq] at hr;split at hr
   ·cases hr
   ·cases hr;obtain⟨a1,a2, -⟩:=hT.k e (Qk he);exact⟨a1,a2⟩
 refine gf (Go.AL.a3 @htb @hma @tmL) ?_;refine zW (.k:: .k:: .k:: .v:: .d:: .d:: .d::K4 (.k::D9 (D9 (D4 (.k:: .k:: .k::[]))))) (own:=true) (fun s:RS=>[s.V]) (fun s=>s.hp h m1 es.length) (RIv h m1 es.length (oU l) M es) (fun s=>es.length-s.seen.length) ⟨[],[],.nil,[]⟩ rfl (by simp[RS.hp]) ⟨Kg,Qf1,.inl ⟨rfl,rfl⟩,Qf1,rfl⟩ ?_;rintro⟨seen,J,V,xs⟩ ⟨hnd,hlt,hout,hrow,hsl⟩ t ht;dsimp only[RS.hp] at*;simp only[zY] at ht;subst ht;refine ge ?_;have hit: ∀s:List Nat,(h++Blk.iter (some m1) es.length s::J)[h.length]? =some (.iter (some m1) (ma es).length s):=fun s=>by rw[rU];simp
 have hm1: ∀(b:Blk)(J:Heap),(h++b::J)[m1]? =some (.map (ma es)):=fun b J=>yJ h (b::J) _ _ hma;refine uL rfl (R:=fun p h'=>(p= .tup [bo false]/\h'=h++Blk.iter (some m1) es.length seen::J/\ ∀i,i<es.length->i∈seen)\/ ∃i e,es[i]? =some e/\i∉seen/\p= .tup [bo true,yQ e.k,.ptr e.r 0]/\h'=h++Blk.iter (some m1) es.length (seen++[i])::J)
  (fun rd _=>OpOk.next (r:=h.length) (m:=m1) (es:=ma es) (seen:=seen) (fun q hq vs e=>by obtain⟨x, -,rfl⟩:=Xf.1 hq;cases e) rfl rfl (hit seen) (hm1 _ _) (fun hall=> .inl ⟨rfl,rfl,by simpa using hall⟩) (fun i q hq hi=>by
   rw[Qu] at hq;cases he:es[i]? with
   |none=>rw[he] at hq;cases hq
   |some e=>
    rw[he] at hq;cases hq;exact .inr ⟨i,e,he,hi,rfl,by rw[qK];simp⟩)) ?_
 rintro p h' (⟨rfl,rfl,hall⟩|⟨i,e,hei,hns,rfl,rfl⟩) ts2 hts
 ·simp only[zZ,Xn,Xl] at hts;subst hts;refine ge ?_;have hxs: ∀x∈xs,x.1.1.args.length<=1048576/\ ∀a∈x.1.1.args,a.s.size<=1048576:=fun x hx=>by
   have hm:x.1.1∈xs.map (·.1.1):=Zi (f:=fun x:RX=>x.1.1) hx;rw[hsl,List.mem_filterMap] at hm;obtain⟨j, -,hj⟩:=hm;exact hsel j _ hj
  have hlen:xs.length<=es.length:=by
   exact Qc6
  (refine g1 ?_;refine zC (zfF (h.length+1) _ xs V hout hrow hxs Qf0) ?_;intro p2 h2 hr2;refine g2 ?_);obtain⟨rfl,hl2,hk2,ys,hp,hs,hO2,hR2⟩:=hr2;refine ge ?_;refine⟨Zh fun q=> ?_,ys,hO2,hR2,?_,?_⟩
  ·rw[Xr];split
   ·rename_i hq;rw[hk2 q Qf0,Qg hq]
   ·rename_i hq;rw[Ye Qf0]
  ·refine(hp.map _).trans ?_;rw[hsl];exact(aK hnd hlt hall).filterMap _
  ·rw[List.pairwise_map];exact hs
 ·simp only[zZ,Xn,Xl] at hts;subst hts;refine ge ?_;refine uL rfl (R:=fun p h'=>p= .tup [yQ e.k,.ptr e.r 0]/\h'=h++Blk.iter (some m1) es.length (seen++[i])::J) (fun rd _=>OpOk.entry (r:=h.length) (m:=m1) (i:=i) (es:=ma es) (seen:=seen) (q:=(Value.string e.k,PV.ptr e.r 0)) (fun vs e=>by cases e) rfl rfl (hit _) (hm1 _ _) (by rw[Qu,hei];rfl) ⟨rfl,rfl⟩) ?_;rintro p h' ⟨rfl,rfl⟩ ts2 hts;simp only[zZ,Xn,Xl] at hts;subst hts;refine ge ?_;have hem:=Qk hei;obtain⟨hM1,hM2⟩:=hM e hem;(refine g1 ?_;refine zC ((zgH l hl tb m1 m2 es _ (hT.keep (yJ _ _)) e.r (M e) hM1 (yJ _ _ _ _ hM2)).acall) ?_;intro p2 h2 hr2;refine g2 ?_);obtain⟨J2,rfl,hrn,hn64⟩:=hr2;have hil:i<es.length:=(gsi hei).1;have hsl2:=qG es.length (seen++[i]) (Za.2 ⟨hnd,Qf1,fun a ha b hb=>by simp at hb;subst hb;exact fun q=>hns (q▸ha)⟩) (fun x hx=>by
   rcases Qo.1 hx with hx|hx
   ·exact hlt x hx
   ·rw[Qp] at hx;subst hx;exact hil)
  have hnd2:(seen++[i]).Nodup:=Za.2 ⟨hnd,Qf1,fun a ha b hb=>by simp at hb;subst hb;exact fun q=>hns (q▸ha)⟩;have hlt2: ∀x∈seen++[i],x<es.length:=fun x hx=>by
   exact Qdx
  rw[Ql,Wp] at hsl2;have hm:es.length-(seen++[i]).length<es.length-seen.length:=Qfh;have hrow2: ∀x∈xs,RowOK (h.length+1) (h++Blk.iter (some m1) es.length (seen++[i])::(J++J2)) x:=fun x hx=>by
   obtain⟨a1,a2,a3⟩:=hrow x hx;exact⟨a1,a2,zbY i J2 a3⟩
  have hout2:OutAt (h.length+1) (h++Blk.iter (some m1) es.length (seen++[i])::(J++J2)) xs V:=by
   rcases hout with h0|⟨r,a1,a2,a3,a4⟩
   ·exact .inl h0
   ·exact .inr ⟨r,a1,a2,a3,zbY i J2 a4⟩
  rcases hrn with ⟨hc0,rfl⟩|⟨j,hc0,rfl,hj⟩
  ·have hro:rowOf (oU l) M es i=none:=by simp[rowOf,hei,hc0]
   refine gf @zjZ ?_;exact⟨⟨seen++[i],J++J2,V,xs⟩,⟨hnd2,hlt2,hout2,hrow2,by rw[Uj];simp[hro,hsl]⟩,hm,rfl,rfl,by simp[RS.hp]⟩
  ·have hne:zh6 (oU l) (M e) 64≠[]:=fun q=>by rw[q] at hc0;simp at hc0
   have hro:rowOf (oU l) M es i=some ⟨e.a,zh6 (oU l) (M e) 64⟩:=by simp[rowOf,hei,hne]
   generalize zh6 (oU l) (M e) 64=cs at*;obtain⟨ha1,ha2, -⟩:=hT.k e hem;have hlk: ∀(b:Blk)(J:Heap),xQ (α:=Prop) Tryz.prog (h++b::J) 276 false (.mp m2) (yQ e.k)=some (pH e.a,True):=fun b J=>zfT (yJ h (b::J) _ _ hT.b) (zbO (fun e=>pH e.a) 0 hT.d hei);have htb2: ∀(b:Blk)(J:Heap),(h++b::J)[tb]? =_:=fun b J=>yJ h (b::J) _ _ htb;have hjl:j<J2.length:=(gsi hj).1;refine gf (Go.AL.a3 @hlk @htb2 @zhR) ?_;(refine g1f (Go.AL.a3 @hlk @htb2 @zhR) ?_;refine zC (((iK e.a Qf0 (all_map fun _=>rfl)).call zK Qf1 _).acall) ?_;intro p2 h2 hr2;refine g2 ?_);obtain⟨rfl,rfl⟩:=hr2;have hq: ∀s:List Nat,(h++Blk.iter (some m1) es.length s::(J++J2))[h.length+(J.length+1)+j]? =some (.var 208 (cs.map Ce.c).flatten):=fun s=>by
    rw[show h.length+(J.length+1)+j=h.length+(J.length+j+1) by omega,sB,Wf,sB];exact hj
   have hn2:xs.length<=es.length:=by
    exact Qc6
   have hH2:(h++Blk.iter (some m1) es.length (seen++[i])::(J++J2)).length=h.length+(J.length+J2.length+1):=Qf1;rcases hout2 with ⟨rfl,rfl⟩|⟨r,b1,b2,rfl,b4⟩
   ·refine ge ?_;obtain⟨B,hB⟩: ∃B,Blk.var 162 [pH e.a,PV.ms (h.length+(J.length+1)+j) 0 3 cs.length]=B:=⟨_,rfl⟩
    rw[hB];have hhp:h++Blk.iter (some m1) es.length (seen++[i])::(J++(J2++[B]))=(h++Blk.iter (some m1) es.length (seen++[i])::(J++J2))++[B]:=Qf1;refine⟨⟨seen++[i],J++(J2++[B]),.ms (h.length+(J.length+J2.length+1)) 0 2 1,[((⟨e.a,cs⟩,h.length+(J.length+1)+j),.ms (h.length+(J.length+1)+j) 0 3 cs.length)]⟩,⟨hnd2,hlt2,.inr ⟨h.length+(J.length+J2.length+1),Qf0,Qf1,rfl,?_⟩,fun y hy=> ?_,?_⟩,hm,rfl,rfl,rfl⟩
    ·dsimp only[RS.hp];rw[hhp,<-hH2,zA,<-hB];rfl
    ·rw[Qp] at hy;subst hy;refine⟨rfl,by dsimp only;omega,?_⟩;dsimp only[RS.hp];rw[hhp];exact yJ _ _ _ _ (hq _)
    ·rw[Uj,<-hsl];simp[hro]
   ·have hfl:=sQ (fun x:RX=>rxc x.1) (·.2) xs;have a1:((xs.length+1)*48<=140737488355328)=True:=Yk Qf0;have a2:(xs.length<=140737488355327)=True:=Yk Qf0;refine gf (Go.AL.a4 @b4 @hfl @a1 @a2) ?_;obtain⟨k,rfl⟩: ∃k,r=h.length+(k+1):=⟨r-h.length-1,Qf0⟩
    obtain⟨B,hB⟩: ∃B,Blk.var 162 (rxf xs++[pH e.a,PV.ms (h.length+(J.length+1)+j) 0 3 cs.length])=B:=⟨_,rfl⟩
    rw[hB];have hhp:h++Blk.iter (some m1) es.length (seen++[i])::((J++J2).set k .old++[B])=(h++Blk.iter (some m1) es.length (seen++[i])::(J++J2)).set (h.length+(k+1)) .old++[B]:=by
     rw[rN,Xl,Qv,Xx]
    refine⟨⟨seen++[i],(J++J2).set k .old++[B],.ms (h.length+(J.length+J2.length+1)) 0 2 (xs.length+1),xs++[((⟨e.a,cs⟩,h.length+(J.length+1)+j),.ms (h.length+(J.length+1)+j) 0 3 cs.length)]⟩,⟨hnd2,hlt2,.inr ⟨h.length+(J.length+J2.length+1),Qf0,Qf1,Qf1,?_⟩,fun y hy=> ?_,?_⟩,hm,rfl,rfl,hhp.symm⟩
    ·dsimp only[RS.hp];rw[hhp,<-hH2,show(h++Blk.iter (some m1) es.length (seen++[i])::(J++J2)).length=((h++Blk.iter (some m1) es.length (seen++[i])::(J++J2)).set (h.length+(k+1)) .old).length by rw[Xb],zA,<-hB];simp[rxf,sZ]
    ·dsimp only[RS.hp];rw[hhp];rcases Qo.1 hy with hy|hy
     ·obtain⟨c1,c2,c3⟩:=hrow2 y hy;exact⟨c1,c2,zhL _ b4 Qf2 c3 _⟩
     ·rw[Qp] at hy;subst hy;exact⟨rfl,by dsimp only;omega,zhL _ b4 Qf2 (hq _) _⟩
    ·rw[Xq,hsl,Uj];simp[hro]
end Go.AL.N
namespace Go.AL
open Go.Proofs Go.Sort
theorem ACall.cut2{P:Program}{G:Glob}{f:FuncId}{args:List PV}{h:Heap}{R:PV->Heap->Prop}(n F F':Nat)(hn:h.length<=n)(k:ACall P G f args h fun p h'=>R (fz n h' F' p) (zk3 n h' F)):ACall P G f args h R:=by
 refine⟨k.1,fun φ w X vs a b c d=>(k.2 φ w X vs a b c d).mono ?_⟩;rintro e w' ⟨φ',h',p,v,he,x,hs,hv,hr⟩;have x':=zb4 hs x n F hn;exact⟨φ'.take n,zk3 n h' F,fz n h' F' p,v,he,x',zhT hs n F,bY hs n F F' hv,hr⟩
theorem ydQ{n:Nat}{h:Heap}(f r off k len:Nat){T:TypeId}{cs:List PV}(hr: ¬r<n)(hh:h[r]? =some (.var T cs)):fz n h (f+1) (.ms r off k len)= .ts k (wA (cs.map (fz n h f)) off k len):=by
 simp only[fz,Qi hr,hh]
theorem fzS0{n:Nat}{h:Heap}(f:Nat)(v:Value):fz n h (f+1) (.sc v)= .sc v:=by simp only[fz]
theorem fzN0{n:Nat}{h:Heap}(f:Nat):fz n h (f+1) .nil= .nil:=by simp only[fz]
theorem fzB0(n:Nat)(h h':Heap)(b:Blk):zm2 n h 0 b=zm2 n h' 0 b:=by
 cases b<;>simp only[zm2]<;>first|rfl|(congr 1)
theorem zl8{n:Nat}{H:Heap}{x:RX}{lo:Nat}(hn:n<=lo)(hR:RowOK lo H x):fz n H 39 (rxc x.1)=pH x.1.1.args/\fz n H 39 x.2=ces x.1.1.cs:=by
 obtain⟨a1,a2,a3⟩:=hR;have q1:zU 39 (pH x.1.1.args)=true:=all_map fun _=>rfl;have e1:(x.1.1.cs.map Ce.c).flatten.map (fz n H 38)=(x.1.1.cs.map Ce.c).flatten:=uR fun p hp=>by
  obtain⟨e,he,hp⟩:=List.mem_flatten.1 hp;obtain⟨c,_,rfl⟩:=Xf.1 he;simp only[Ce.c,Qw,Zn,Kb] at hp;rcases hp with rfl|rfl|rfl<;>exact fzS0 37 _
 have e2:=rL 3 (x.1.1.cs.map Ce.c) (fun e he=>by obtain⟨b,_,rfl⟩:=Xf.1 he;rfl);rw[Qr] at e2;refine⟨vE n H 39 _ q1,?_⟩;rw[a1,ydQ 38 _ _ _ _ Qf0 a3,e1,e2]
theorem zl9{n lo:Nat}{H:Heap}{xs:List RX}{V:PV}(hn:n<=lo)(hO:OutAt lo H xs V)(hR: ∀x∈xs,RowOK lo H x):PLe (fz n H 40 V) (vD (xs.map (·.1.1))):=by
 rcases hO with ⟨rfl,rfl⟩|⟨r,h1,h2,rfl,h3⟩
 ·rw[fzN0 39];exact PLe.nil_ts 2
 ·have e3:(rxf xs).map (fz n H 39)=(xs.map fun x=>LRw.c x.1.1).flatten:=by
   clear h1 h2 h3
   induction xs with
   |nil=>rfl
   |cons x xs ih=>
    obtain⟨k1,k2⟩:=zl8 hn (hR x (Qe ..));have:=ih fun y hy=>hR y (Qf _ hy);simp only[rxf,sZ] at this;simp only[rxf,sZ,Xa,Yl,Xq,Wj,this,k1,k2]
  have e4:=rL 2 (xs.map fun x=>LRw.c x.1.1) (fun e he=>by obtain⟨b,_,rfl⟩:=Xf.1 he;rfl);rw[Qr] at e4;rw[ydQ 39 _ _ _ _ Qf0 h3,e3,e4];unfold vD;rw[Zg];exact PLe.refl _
end Go.AL
namespace Go.AL
open Go.Proofs Go.Proofs.Tryz
@[go_sem] def UCel6f79.pl:Nat->DPlan
 |11=>⟨[yA,yB,yA,yA,yA,yB,yA,yA,yB,yC,yA,yA],xF,0⟩
 |_=>⟨[],[],0⟩
@[go_sem] def UCel7f168.pl:Nat->DPlan
 |8=>⟨[yB,yA,yB,yA,yA,yC],znU,0⟩
 |_=>⟨[],[],0⟩
@[go_sem] def UBas1f148.pl:Nat->DPlan
 |1=>⟨[yA,yB,yB,yA,yA,yB,yB,yA,yC,yA,yA,yB,yA,yB,yC,yA,yA,yA,yA],sI,0⟩
 |_=>⟨[],[],0⟩
structure Dt.sz(d:Dt):Prop where
 rl:d.pg.length<=1048576
 ll:d.pQ.length<=1048576
 r: ∀r∈d.pg,r.length<=4096/\ ∀x∈r,x.lt
 l: ∀r∈d.pQ,r.length<=4096/\ ∀x∈r,x.args.length<=1099511627776/\x.cs.length<=1099511627776
 s: ∀r∈d.pQ, ∀x∈r, ∀a∈x.args,a.s.size<=140737488355328
def nX(l:List Op1):Prop:=(l.length<=20\/60<l.length/\l.length<=100)/\ ∀x∈l,x.args.length<=10
abbrev dtN:Dt:=⟨[],[]⟩
structure OpsG(l:List Op1):Prop where
 s:l.length<=1048576
 o: ∀x∈l,x.ok
@[go_sem] def UBas2f27.pl:Nat->DPlan
 |6=>⟨[yA,yB,yA,yA,yB,yA,yB,yA,yA,yB,yA,yA],xF,0⟩
 |12=>⟨[yA,yA,yA,yA,yA,yB,yA,yB,yA,yB,yA,yB,yA,yC,yA,yA],xE,0⟩
 |_=>⟨[],[],0⟩
abbrev Pg.sm(p:Pg):Prop:= ∀x∈p.pQ,x.pw.length<=1048576/\x.pJ.length<=1048576
@[go_sem] def URsx1f353.pl:Nat->DPlan
 |4=>⟨[yA,yA,yA,yA,yA,yA,yA,yA,yB,yA,yA,yA,yA,yB,yC,yA,yA],wR,0⟩
 |6=>⟨[yA,yA,yA,yA,yA,yA,yA,yA,yA,yB,yA,yA,yA,yB,yA,yC,yA,yC],yM,0⟩
 |_=>⟨[],[],0⟩
@[go_sem] def URsx1f354.pl:Nat->DPlan
 |5=>⟨[yA,yA,yA,yA,yB,yA,yA,yA,yB,yC,yA],vJ,0⟩
 |11=>⟨[yA,yA,yA,yA,yA,yA,yA,yA,yA,yB,yA,yA,yA,yB,yA,yC,yA,yC],yM,0⟩
 |17=>⟨[yA,yA,yA,yA,yB,yA,yA,yA,yB,yC,yA,yA],xF,0⟩
 |23=>⟨[yA,yA,yA,yA,yA,yA,yA,yA,yA,yB,yA,yA,yA,yB,yA,yC,yA,yC],yM,0⟩
 |35=>⟨[yA,yA,yA,yA,yA,yA,yB,yA,yA,yA,yB,yC,yA,yA],wS,0⟩
 |_=>⟨[],[],0⟩
def SoR(l:List Rw):Prop:= ∀(i j:Nat)(hij:i<j)(hj:j<l.length),sD (l[i]'(Nat.lt_trans hij hj)).args l[j].args<0
theorem eO{a b:List Vl}(h:sD a b<0): ¬sD b a<0:=by rw[zqQ.s a b];omega
theorem zz4{a b:List Vl}(h:sD a b<0): ¬sD b a=0:=by rw[zqQ.s a b];omega
open URsx1f353 in
theorem zoU(l:List Rw)(hl:l.length<=70368744177664)(hok: ∀x∈l,x.ok)(hso:SoR l)(a b:Nat)(ha:a<=l.length)(hb:b<=l.length)(h:Heap)(r:Nat)(hr:h[r]? =some (.var 159 (xI l))):
  ECall prog G0 353 [.ms r 0 2 l.length,i64 a,i64 b,kP] h fun _ h'=>h'=h:=by
 refine pv func353 53 false Qf3 rfl rfl ?_;refine g2 ?_;have zj6:IntKind.i64.wrap ((a:Int)+1)=((a+1:Nat):Int):=Qgk;refine gf @zj6 ?_;refine zW (K4 (K4 (.v:: .d:: .k:: .k::D9 (D9 (D9 (D9 (D4 (.d::[])))))))) (fun (s:Nat)=>[i64 s]) (fun s=>h) (fun s=>a<s/\s<=l.length+1) (fun s=>l.length+1-s) (own:=false) (a+1) rfl rfl ⟨Qf0,Qf0⟩ ?_;rintro i ⟨hi0,hi⟩;refine gm ?_;by_cases hib:i<b
 ·have hb1:((i:Int)<(b:Int)):=Qf0;refine gf @hb1 ?_;refine zW (K9 (.v::K4 (K4 (D9 (D9 (D9 (D4 (D4 ([]))))))))) (fun (s:Nat)=>[i64 s]) (fun s=>h) (fun s=>s=i) (fun s=>s) (own:=false) i rfl rfl rfl ?_;rintro j hj t ht;subst hj;simp only[zY] at ht;subst ht;have hjb:((a:Int)<(j:Int)):=Qf0;have hj2:j<l.length:=Qf0;have hj3:j-1<l.length:=Qf0;have jY:IntKind.i64.wrap ((j:Int)-1)=((j-1:Nat):Int):=Qgu;have g1:=xG l j hj2;have g2:=xG l (j-1) hj3;have hby:=uS l[j] l[j-1] (hok _ (Qc hj2)) (hok _ (Qc hj3));have hneg:=eO (hso (j-1) j Qf0 hj2);generalize l[j]=x at*;generalize l[j-1]=y at*;generalize hc:sD x.args y.args=c at*;(repeat(first|refine gz ?_|(refine gn ?_;intro zs zh;(try simp only[go_sem,hjb,hr,jY,g1,g2,xK,zB,hj2,hj3,hneg] at zh);subst zh;(first|refine gv ?_|((first|refine zC (hby.call zK Qfb _) ?_|refine zP Qf2 Qf2 (hby.call zK Qfb _) ?_);intro p2 h2 hr2;obtain⟨hr2,rfl⟩:=hr2;first|obtain⟨_,rfl,hr2⟩:=hr2|obtain⟨_,rfl⟩:=hr2|subst hr2|skip)))|refine yD URsx1f353.pl ?_));have hwi:IntKind.i64.wrap ((j:Int)+1)=((j+1:Nat):Int):=Qgk;exact⟨j+1,⟨by(try dsimp only);omega,by(try dsimp only);omega⟩,by(try dsimp only);omega,by simp only[zY,xJ,Xs];rw[hwi],rfl,rfl⟩
 ·have hb1: ¬((i:Int)<(b:Int)):=Qf0;refine gf @hb1 ?_;rfl
def SymS(l:List Rw)(a m b:Nat):Prop:= ∀(h:Heap)(r:Nat)(hr:h[r]? =some (.var 159 (xI l))),
  ECall prog G0 354 [.ms r 0 2 l.length,i64 a,i64 m,i64 b,kP] h fun _ h'=>h'=h
open URsx1f354 in
theorem zrR(l:List Rw)(hl:l.length<=70368744177664)(hok: ∀x∈l,x.ok)(hso:SoR l)(a m b:Nat)(ham:a<m)(hmb:m<b)(hb:b<=l.length)(hm1:m-a=1):SymS l a m b:=by
 intro h r hr;refine pv func354 220 false Qf3 rfl rfl ?_;refine g2 ?_;have w1:IntKind.i64.wrap ((m:Int)-a)=((m-a:Nat):Int):=Qgu;have e1:(((m-a:Nat):Int)==1)=true:=by simp[hm1]
 refine gf (a2 @w1 @e1) ?_;refine zW (K9 (.k:: .v:: .v:: .d::K9 (K9 (D9 (D9 (D4 (.d::K9 (K9 (K9 (K9 (K9 (K9 (K9 (K9 (K9 (K9 (K9 (K9 (K9 (K9 (K9 (K9 (K9 (K9 (K4 ([])))))))))))))))))))))))))) (fun (s:Nat)=>[i64 m,i64 s]) (fun s=>h) (fun s=>m<=s/\s<=b) (fun s=>s) (own:=false) b rfl rfl ⟨Qf0,Qf0⟩ ?_;rintro j ⟨hij,hj⟩;refine gm ?_;by_cases hlt:m<j
 ·have hlt1:(m:Int)<(j:Int):=Qf0;have hm:IntKind.i64.wrap ((m:Int)+j)=((m+j:Nat):Int):=Qgu;have hu:IntKind.u64.wrap ((m+j:Nat):Int)=((m+j:Nat):Int):=Qh7;have hsh:=zeU (m+j);have hc:IntKind.i64.wrap ((((m+j) / 2:Nat):Int))=(((m+j) / 2:Nat):Int):=zeR Qf0;have k1:(m+j) / 2<l.length:=Qf0;have k2:a<l.length:=Qf0;have gx:=xG l ((m+j) / 2) k1;have gy:=xG l (a) k2;have hby:=uS l[(m+j) / 2] l[a] (hok _ (Qc k1)) (hok _ (Qc k2));have hneg:=eO (hso a ((m+j) / 2) Qf0 k1);generalize l[(m+j) / 2]=x at*;generalize l[a]=y at*;generalize hcc:sD x.args y.args=c at*;(repeat(first|refine gz ?_|(refine gn ?_;intro zs zh;(try simp only[go_sem,iS,rZ,hlt1,hm,hu,hsh,hc,hr,gx,gy,xK,zB,k1,k2,hneg] at zh);subst zh;(first|refine gv ?_|((first|refine zC (hby.call zK Qfb _) ?_|refine zP Qf2 Qf2 (hby.call zK Qfb _) ?_);intro p2 h2 hr2;obtain⟨hr2,rfl⟩:=hr2;first|obtain⟨_,rfl,hr2⟩:=hr2|obtain⟨_,rfl⟩:=hr2|subst hr2|skip)))|refine yD URsx1f354.pl ?_));exact⟨(m+j) / 2,⟨by(try dsimp only);omega,by(try dsimp only);omega⟩,by(try dsimp only);omega,rfl,rfl,rfl⟩
 ·have hlt1: ¬((m:Int)<(j:Int)):=Qf0;refine gf @hlt1 ?_;have wi1:IntKind.i64.wrap ((m:Int)-1)=((m-1:Nat):Int):=Qgu;refine zW (K9 (K4 (.v::K9 (K9 (K9 (K9 (K4 (.k::D9 (D9 (D4 (K9 (K9 (K9 (K9 (K9 (K9 (K9 (K9 (K9 (K9 (K9 (K9 (K9 (K9 (K9 (K4 (K4 ([])))))))))))))))))))))))))))) (fun (s:Nat)=>[i64 s]) (fun s=>h) (fun s=>s=a) (fun s=>s) (own:=false) a rfl rfl rfl ?_;rintro k rfl;refine gm ?_;have hg1: ¬((k:Int)<((m-1:Nat):Int)):=Qf0;refine gf (a2 @hg1 @wi1) ?_;rfl
open URsx1f354 in
theorem zrQ(l:List Rw)(hl:l.length<=70368744177664)(hok: ∀x∈l,x.ok)(hso:SoR l)(a m b:Nat)(ham:a<m)(hmb:m<b)(hb:b<=l.length)(hm1:m-a≠1)(hm2:b-m=1):SymS l a m b:=by
 intro h r hr;refine pv func354 220 false Qf3 rfl rfl ?_;refine g2 ?_;have w1:IntKind.i64.wrap ((m:Int)-a)=((m-a:Nat):Int):=Qgu;have w2:IntKind.i64.wrap ((b:Int)-m)=((b-m:Nat):Int):=Qgu;have e1:(((m-a:Nat):Int)==1)=false:=Qfh;have e2:(((b-m:Nat):Int)==1)=true:=by simp[hm2]
 refine gf (a4 @w1 @w2 @e1 @e2) ?_;refine zW (K9 (K4 (.k:: .v:: .v:: .d::K9 (K9 (K9 (K9 (K9 (K9 (K9 (.k:: .k:: .k::D9 (D9 (D4 (.d:: .d::K9 (K9 (K9 (K9 (K9 (K9 (K9 (K9 (K9 (K9 (K9 (K9 (K4 (.k::[])))))))))))))))))))))))))) (fun (s:Nat)=>[i64 s,i64 m]) (fun s=>h) (fun s=>a<=s/\s<=m) (fun s=>m-s) (own:=false) a rfl rfl ⟨Qf0,Qf0⟩ ?_;rintro i ⟨hi,hij⟩;refine gm ?_;by_cases hlt:i<m
 ·have hlt1:(i:Int)<(m:Int):=Qf0;have hm:IntKind.i64.wrap ((i:Int)+m)=((i+m:Nat):Int):=Qgu;have hu:IntKind.u64.wrap ((i+m:Nat):Int)=((i+m:Nat):Int):=Qh7;have hsh:=zeU (i+m);have hc:IntKind.i64.wrap ((((i+m) / 2:Nat):Int))=(((i+m) / 2:Nat):Int):=zeR Qf0;have hwc:IntKind.i64.wrap ((((i+m) / 2:Nat):Int)+1)=(((i+m) / 2+1:Nat):Int):=Qgk;have k1:m<l.length:=Qf0;have k2:(i+m) / 2<l.length:=Qf0;have gx:=xG l (m) k1;have gy:=xG l ((i+m) / 2) k2;have hby:=uS l[m] l[(i+m) / 2] (hok _ (Qc k1)) (hok _ (Qc k2));have hneg:=eO (hso ((i+m) / 2) m Qf0 k1);generalize l[m]=x at*;generalize l[(i+m) / 2]=y at*;generalize hcc:sD x.args y.args=c at*;(repeat(first|refine gz ?_|(refine gn ?_;intro zs zh;(try simp only[go_sem,iS,rZ,hlt1,hm,hu,hsh,hc,hwc,hr,gx,gy,xK,zB,k1,k2,hneg] at zh);subst zh;(first|refine gv ?_|((first|refine zC (hby.call zK Qfb _) ?_|refine zP Qf2 Qf2 (hby.call zK Qfb _) ?_);intro p2 h2 hr2;obtain⟨hr2,rfl⟩:=hr2;first|obtain⟨_,rfl,hr2⟩:=hr2|obtain⟨_,rfl⟩:=hr2|subst hr2|skip)))|refine yD URsx1f354.pl ?_));exact⟨(i+m) / 2+1,⟨by(try dsimp only);omega,by(try dsimp only);omega⟩,by(try dsimp only);omega,rfl,rfl,rfl⟩
 ·have hlt1: ¬((i:Int)<(m:Int)):=Qf0;refine gf @hlt1 ?_;refine zW (K9 (K4 (K4 (.v::K9 (K9 (K9 (K9 (K9 (K9 (K9 (K9 (K9 (K9 (D9 (D9 (.d:: .d:: .d::K9 (K9 (K9 (K9 (K9 (K9 (K9 (K9 (K9 (K9 (.k::[])))))))))))))))))))))))))) (fun (s:Nat)=>[i64 s]) (fun s=>h) (fun s=>s=m) (fun s=>s) (own:=false) m rfl rfl rfl ?_;rintro k rfl;refine gm ?_;have hg1: ¬((i:Int)<(k:Int)):=Qf0;refine gf @hg1 ?_;rfl
open URsx1f354 in
theorem zrP(d:Nat)(ih: ∀(l:List Rw)(_:l.length<=70368744177664)(_: ∀x∈l,x.ok)(_:SoR l)(a m b:Nat)(_:b-a<=d)(_:a<m)(_:m<b)(_:b<=l.length),SymS l a m b)(l:List Rw)(hl:l.length<=70368744177664)(hok: ∀x∈l,x.ok)(hso:SoR l)(a m b:Nat)(hd:b-a<=d+1)(ham:a<m)(hmb:m<b)(hb:b<=l.length)(hm1:m-a≠1)(hm2:b-m≠1):SymS l a m b:=by
 intro h r hr;have F2:=(a5 @iS @rZ @hr @xK @zB)
 refine pv func354 220 false Qf3 rfl rfl ?_;refine g2 ?_;have w1:IntKind.i64.wrap ((m:Int)-a)=((m-a:Nat):Int):=Qgu;have w2:IntKind.i64.wrap ((b:Int)-m)=((b-m:Nat):Int):=Qgu;have e1:(((m-a:Nat):Int)==1)=false:=Qfh;have e2:(((b-m:Nat):Int)==1)=false:=Qfh;have hm:IntKind.i64.wrap ((a:Int)+b)=((a+b:Nat):Int):=Qgu;have hu:IntKind.u64.wrap ((a+b:Nat):Int)=((a+b:Nat):Int):=Qh7;have hsh:=zeU (a+b);have hc:IntKind.i64.wrap ((((a+b) / 2:Nat):Int))=(((a+b) / 2:Nat):Int):=zeR Qf0;have w3:IntKind.i64.wrap ((((a+b) / 2:Nat):Int)+m)=(((a+b) / 2+m:Nat):Int):=Qgu;have w4:IntKind.i64.wrap ((((a+b) / 2+m:Nat):Int)-1)=(((a+b) / 2+m-1:Nat):Int):=Qgu;obtain⟨M,hM⟩: ∃M,(a+b) / 2=M:=⟨_,rfl⟩
 have hMa:a<=M/\M<=b:=Qf0;rw[hM] at hsh hc w3 w4;have F1:=(a8 @w1 @w2 @e1 @e2 @iS @rZ @w3 @w4)
 have search: ∀(s0 R:Nat),a<=s0->s0<=R->R<=m->R<=M->M+m<=s0+b-> ∀s:Nat,s0<=s->s<R-> ∃(q c:Nat),M+m-1-(s+R) / 2=q/\(s+R) / 2=c/\ ∃(k1:q<l.length)(k2:c<l.length),c<R/\s<=c/\ ¬sD l[q].args l[c].args<0:=fun s0 R h0 h1 h2 h3 h6 s h4 h5=>
  ⟨_,_,rfl,rfl,Qf0,Qf0,Qf0,Qf0,eO (hso _ _ Qf0 Qf0)⟩
 by_cases hgt:M<m
 ·have hgt1:((M:Nat):Int)<(m:Int):=Qf0;have w5:IntKind.i64.wrap (((M+m:Nat):Int)-b)=((M+m-b:Nat):Int):=Qgu;refine gf (a7 F1 @hm @hu @hsh @hc @w5 @hgt1) ?_;refine zW (K9 (K9 (.k:: .k:: .v:: .v:: .k:: .d::K9 (K9 (K9 (K9 (K9 (K9 (K9 (K9 (K9 (K9 (K9 (K9 (K9 (K4 (K4 (D9 (D9 (D4 (D4 (K9 (K9 (K9 (K9 (K9 ([]))))))))))))))))))))))))))) (fun (s:Nat)=>[i64 s,i64 M]) (fun s=>h) (fun s=>M+m-b<=s/\s<=M) (fun s=>M-s) (own:=false) (M+m-b) rfl rfl ⟨Qf0,Qf0⟩ ?_;rintro s ⟨hi,hij⟩;refine gm ?_;clear hm hu hsh hc;by_cases hlt:s<M
  ·have hlt1:(s:Int)<(M:Int):=Qf0;have hm:IntKind.i64.wrap ((s:Int)+M)=((s+M:Nat):Int):=Qgu;have hu:IntKind.u64.wrap ((s+M:Nat):Int)=((s+M:Nat):Int):=Qh7;have hsh:=zeU (s+M);have hc:IntKind.i64.wrap ((((s+M) / 2:Nat):Int))=(((s+M) / 2:Nat):Int):=zeR Qf0;have hwc:IntKind.i64.wrap ((((s+M) / 2:Nat):Int)+1)=(((s+M) / 2+1:Nat):Int):=Qgk;have hwp:IntKind.i64.wrap (((M+m-1:Nat):Int)-(((s+M) / 2:Nat):Int))=((M+m-1-(s+M) / 2:Nat):Int):=Qgu;obtain⟨q,c,hqd,hcd,k1,k2,k3,k4,hneg⟩:=search (M+m-b) M Qf0 Qf0 Qf0 Qf0 Qf0 s hi hlt;rw[hcd] at hsh hc hwc;rw[hqd,hcd] at hwp;have fin:M+m-b<=c+1/\c+1<=M/\M-(c+1)<M-s:=Qf0;exact Qa5
  ·have:s=M:=Qf0;subst this;have hlt1: ¬((s:Int)<(s:Int)):=Qf0;have we:IntKind.i64.wrap (((s+m:Nat):Int)-s)=((m:Nat):Int):=Qgu;have d1:((s:Int)<(m:Int)):=Qf0;have d2: ¬((m:Int)<(m:Int)):=Qf0;have d4:((m:Int)<(b:Int)):=Qf0;have F:=(a4 @d1 @d2 @d4 @hgt)
   by_cases d5:a<s
   ·have d3:((a:Int)<(s:Int)):=Qf0;exact Qba
   ·have d3: ¬((a:Int)<(s:Int)):=Qf0;exact Qba
 ·have hgt1: ¬((M:Nat):Int)<(m:Int):=Qf0;refine gf (a6 F1 @hm @hu @hsh @hc @hgt1) ?_;refine zW (K9 (K9 (.k:: .k:: .v:: .v:: .k:: .d::K9 (K9 (K9 (K9 (K9 (K9 (K9 (K9 (K9 (K9 (K9 (K9 (K9 (K4 (K4 (D9 (D9 (D4 (D4 (K9 (K9 (K9 (K9 (K9 ([]))))))))))))))))))))))))))) (fun (s:Nat)=>[i64 s,i64 m]) (fun s=>h) (fun s=>a<=s/\s<=m) (fun s=>m-s) (own:=false) a rfl rfl ⟨Qf0,Qf0⟩ ?_;rintro s ⟨hi,hij⟩;refine gm ?_;clear hm hu hsh hc;by_cases hlt:s<m
  ·have hlt1:(s:Int)<(m:Int):=Qf0;have hm:IntKind.i64.wrap ((s:Int)+m)=((s+m:Nat):Int):=Qgu;have hu:IntKind.u64.wrap ((s+m:Nat):Int)=((s+m:Nat):Int):=Qh7;have hsh:=zeU (s+m);have hc:IntKind.i64.wrap ((((s+m) / 2:Nat):Int))=(((s+m) / 2:Nat):Int):=zeR Qf0;have hwc:IntKind.i64.wrap ((((s+m) / 2:Nat):Int)+1)=(((s+m) / 2+1:Nat):Int):=Qgk;have hwp:IntKind.i64.wrap (((M+m-1:Nat):Int)-(((s+m) / 2:Nat):Int))=((M+m-1-(s+m) / 2:Nat):Int):=Qgu;obtain⟨q,c,hqd,hcd,k1,k2,k3,k4,hneg⟩:=search a m Qf0 Qf0 Qf0 Qf0 Qf0 s hi hlt;rw[hcd] at hsh hc hwc;rw[hqd,hcd] at hwp;have fin:a<=c+1/\c+1<=m/\m-(c+1)<m-s:=Qf0;exact Qa5
  ·have:s=m:=Qf0;subst this;have hlt1: ¬((s:Int)<(s:Int)):=Qf0;have we:IntKind.i64.wrap (((M+s:Nat):Int)-s)=((M:Nat):Int):=Qgu;have d1:((a:Int)<(s:Int)):=Qf0;have d2: ¬((M:Int)<(M:Int)):=Qf0;by_cases d5:s<M
   ·have d3:((s:Int)<(M:Int)):=Qf0;have F3:=(a4 @d1 @d2 @d3 @d5)
    refine gf (a4 F3 @hlt1 @we @ham) ?_;(refine Go.AL.g1f F3 ?_;refine zC (ih l hl hok hso a s M Qf0 Qf0 Qf0 Qf0 h r hr) (yf0 ?_);intro p2 h2 hr2);subst hr2;refine gf (a3 F3 @hlt1 @we) ?_;rfl
   ·have d3: ¬((s:Int)<(M:Int)):=Qf0;refine gf (a7 @hlt1 @we @d1 @d2 @d3 @d5 @ham) ?_;rfl
theorem zqN: ∀(d:Nat)(l:List Rw)(_:l.length<=70368744177664)(_: ∀x∈l,x.ok)(_:SoR l)(a m b:Nat)(_:b-a<=d)(_:a<m)(_:m<b)(_:b<=l.length),SymS l a m b
 |0,l,hl,hok,hso,a,m,b,hd,ham,hmb,hb=>by omega
 |d+1,l,hl,hok,hso,a,m,b,hd,ham,hmb,hb=>by
  by_cases hm1:m-a=1
  ·exact zrR l hl hok hso a m b ham hmb hb hm1
  by_cases hm2:b-m=1
  ·exact zrQ l hl hok hso a m b ham hmb hb hm1 hm2
  exact zrP d (zqN d) l hl hok hso a m b hd ham hmb hb hm1 hm2
end Go.AL
namespace Go.AL
instance:DecidableEq Sp:=fun x y=>decidable_of_iff (x.a=y.a/\x.b=y.b) Qgr
def zo3(n:Int):Nat:=if n<=0 then 0 else if 64<=n then 2 ^ 64-1 else 2 ^ n.toNat-1
def zo2(s:Sp):Nat:=zo3 s.b &&& (2 ^ 64-1-zo3 s.a)
def uQ(l:List Sp):Nat:=l.foldl (fun w s=>w ||| zo2 s) 0
def xT(s:Sp)(m:Nat):Bool:=decide (m<64/\s.a<=(m:Int)/\(m:Int)<s.b)
theorem zoL(n:Int):zo3 n<2 ^ 64:=by
 unfold zo3;split
 ·exact Wa 64
 ·split
  ·exact Nat.sub_lt (Wa 64) Nat.zero_lt_one
  ·have:2 ^ n.toNat<=2 ^ 64:=Yy Qf2 Qf0;have:=Wa n.toNat;omega
theorem zo0(n:Int)(m:Nat):(zo3 n).testBit m=decide (m<64/\(m:Int)<n):=by
 unfold zo3;split
 ·rw[Zx];symm;rw[Xo];omega
 ·split
  ·rw[Kj];congr 1;apply propext;omega
  ·rw[Kj];congr 1;apply propext;omega
theorem ziX{x:Nat}(hx:x<2 ^ 64)(m:Nat):(2 ^ 64-1-x).testBit m=(decide (m<64)&& !x.testBit m):=by
 have:=Un hx m;rw[<-this];congr 1;omega
theorem zqY(s:Sp)(m:Nat):(zo2 s).testBit m=xT s m:=by
 unfold zo2 xT;rw[Wu,zo0,ziX (zoL _),zo0];by_cases h1:m<64<;>by_cases h2:(m:Int)<s.b<;>by_cases h3:(m:Int)<s.a<;>simp[h1,h2,h3]<;>omega
theorem zoI(s:Sp):zo2 s<2 ^ 64:=by
 unfold zo2;exact Nat.and_lt_two_pow _ (by have:=Wa 64;omega)
theorem zfJ: ∀(l:List Sp)(w m:Nat),(l.foldl (fun w s=>w ||| zo2 s) w).testBit m=(w.testBit m||l.any fun s=>xT s m)
 | [],w,m=>by simp
 |s::l,w,m=>by rw[Yw,zfJ l,Kf,zqY,Jj,Bool.or_assoc]
theorem zoQ(l:List Sp)(m:Nat):(uQ l).testBit m=l.any fun s=>xT s m:=by
 unfold uQ;rw[zfJ];simp
theorem zrH: ∀(l:List Sp)(w:Nat),w<2 ^ 64->l.foldl (fun w s=>w ||| zo2 s) w<2 ^ 64
 | [],w,h=>h
 |s::l,w,h=>zrH l _ (Uf h (zoI s))
theorem wB(l:List Sp):uQ l<2 ^ 64:=zrH l 0 (Wa 64)
def zaP(w:Nat):Nat->Nat->List Sp
 |0,_=>[]
 | f+1,a=>if w / 2 ^ a=0 then [] else
  ⟨((a+Go.Lib.ctz 64 (w / 2 ^ a):Nat):Int),((a+Go.Lib.ctz 64 (w / 2 ^ a)+Go.Lib.ctz 64 (2 ^ 64-1-w / 2 ^ (a+Go.Lib.ctz 64 (w / 2 ^ a))):Nat):Int)⟩::
   if a+Go.Lib.ctz 64 (w / 2 ^ a)+Go.Lib.ctz 64 (2 ^ 64-1-w / 2 ^ (a+Go.Lib.ctz 64 (w / 2 ^ a)))=64 then [] else zaP w f (a+Go.Lib.ctz 64 (w / 2 ^ a)+Go.Lib.ctz 64 (2 ^ 64-1-w / 2 ^ (a+Go.Lib.ctz 64 (w / 2 ^ a))))
def yW(w:Nat):List Sp:=zaP w 65 0
def SpF:Int->List Sp->Prop
 |_,[]=>True
 |lo,s::l=>lo<=s.a/\s.a<s.b/\s.b<=64/\SpF (s.b+1) l
abbrev SpC(l:List Sp):Prop:=SpF 0 l
theorem SpF.weak{lo lo':Int}(h:lo'<=lo): ∀{l:List Sp},SpF lo l->SpF lo' l
 | [],_=>trivial
 |s::l,⟨a,b,c,d⟩=>⟨Qf0,b,c,d⟩
theorem zdC(w a j:Nat):(w / 2 ^ a).testBit j=w.testBit (a+j):=by
 rw[Nat.testBit_div_two_pow,Nat.add_comm]
theorem zlO(y:Nat):2 ^ 64-1-y<2 ^ 64:=Wl (Nat.sub_le _ _) (Nat.sub_lt (Wa 64) Nat.zero_lt_one)
theorem zq2(k m:Nat):(2 ^ k*(2*m+1)).testBit k=true/\ ∀j,j<k->(2 ^ k*(2*m+1)).testBit j=false:=by
 constructor
 ·rw[Nat.testBit_two_pow_mul];simp[Nat.testBit_zero]
 ·intro j hj;rw[Nat.testBit_two_pow_mul];simp;omega
theorem zjM{x:Nat}(h0:x≠0)(h:x<2 ^ 64):x.testBit (Go.Lib.ctz 64 x)=true/\ ∀j,j<Go.Lib.ctz 64 x->x.testBit j=false:=by
 obtain⟨m,hm, -⟩:=bH x h0 h;generalize Go.Lib.ctz 64 x=k at*;rw[hm];exact zq2 k m
theorem zo9{w a:Nat}(h:w / 2 ^ a=0){m:Nat}(hm:a<=m):w.testBit m=false:=by
 have:=zdC w a (m-a);rw[h,Zx,Uo hm] at this;exact this.symm
theorem zdM(w:Nat)(hw:w<2 ^ 64): ∀(f a:Nat),64-a<f->a<64->
  SpF a (zaP w f a)/\(w.testBit a=false->SpF (a+1) (zaP w f a))/\ ∀m,a<=m->((zaP w f a).any fun s=>xT s m)=w.testBit m
 |0,a,h,_=>by omega
 | f +1,a,h,ha=>by
  unfold zaP;by_cases hx:w / 2 ^ a=0
  ·rw[Qj hx];refine⟨trivial,fun _=>trivial,fun m hm=> ?_⟩;rw[zo9 hx hm];rfl
  ·rw[Qi hx];obtain⟨s1,s2,s3,s4⟩:=zc8 w a hw ha hx;have hx64:w / 2 ^ a<2 ^ 64:=Wl (Nat.div_le_self _ _) hw;obtain⟨c1,c2⟩:=zjM hx hx64;generalize Go.Lib.ctz 64 (w / 2 ^ a)=k at*;rw[zdC] at c1;have c2': ∀m,a<=m->m<a+k->w.testBit m=false:=fun m h1 h2=>by
    have:=c2 (m-a) Qf0;rw[zdC,Uo h1] at this;exact this
   have hz: ∀j,(2 ^ 64-1-w / 2 ^ (a+k)).testBit j=(decide (j<64)&& !w.testBit (a+k+j)):=fun j=>by rw[ziX s2,zdC]
   have d1: ∀m,a+k<=m->m<a+k+Go.Lib.ctz 64 (2 ^ 64-1-w / 2 ^ (a+k))->w.testBit m=true:=fun m h1 h2=>by
    by_cases h0:2 ^ 64-1-w / 2 ^ (a+k)=0
    ·have:=hz (m-(a+k));rw[h0,Zx,Uo h1] at this;have hm:m-(a+k)<64:=Qf0;simpa [hm] using this.symm
    ·obtain⟨-,e2⟩:=zjM h0 (zlO _);have:=e2 (m-(a+k)) Qf0;rw[hz,Uo h1] at this;have hm:m-(a+k)<64:=Qf0;simpa [hm] using this
   have d2:a+k+Go.Lib.ctz 64 (2 ^ 64-1-w / 2 ^ (a+k))<64->w.testBit (a+k+Go.Lib.ctz 64 (2 ^ 64-1-w / 2 ^ (a+k)))=false:=fun h1=>by
    by_cases h0:2 ^ 64-1-w / 2 ^ (a+k)=0
    ·exfalso;rw[h0] at h1;have e:Go.Lib.ctz 64 0=64:=rfl;omega
    ·obtain⟨e1, -⟩:=zjM h0 (zlO _);rw[hz] at e1;have:=(Qt _ _▸e1).2;simpa using this
   generalize Go.Lib.ctz 64 (2 ^ 64-1-w / 2 ^ (a+k))=j at*;have hlow: ∀m:Nat,m<a+k+j-> ∀{l:List Sp},SpF ((a+k+j:Nat):Int) l->(l.any fun s=>xT s m)=false:=fun m hm l hl=>by
    induction l with
    |nil=>rfl
    |cons s l ih=>
     obtain⟨q1,q2,q3,q4⟩:=hl;rw[Jj,ih (SpF.weak Qf0 q4)];unfold xT;simp;omega
   by_cases h64:a+k+j=64
   ·rw[Qj h64];refine⟨⟨by dsimp only;omega,by dsimp only;omega,by dsimp only;omega,trivial⟩,fun hb=>⟨?_,by dsimp only;omega,by dsimp only;omega,trivial⟩,fun m hm=> ?_⟩
    ·exact Qd2
    ·rw[Jj,List.any_nil,Uc];unfold xT;by_cases h1:m<a+k
     ·rw[c2' m hm h1,Xo];dsimp only;omega
     ·by_cases h2:m<a+k+j
      ·rw[d1 m Qf0 h2,Xm];dsimp only;omega
      ·rw[Jp (Yf hw (Yy Qf2 Qf0)),Xo];dsimp only;omega
   ·rw[Qi h64];obtain⟨r1,r2,r3⟩:=zdM w hw f (a+k+j) Qf0 Qf0;have r2:=r2 (d2 Qf0);refine⟨⟨by dsimp only;omega,by dsimp only;omega,by dsimp only;omega,?_⟩,fun hb=>⟨?_,by dsimp only;omega,by dsimp only;omega,?_⟩,fun m hm=> ?_⟩
    ·exact r2
    ·exact Qd2
    ·exact r2
    ·rw[Jj];by_cases h3:a+k+j<=m
     ·rw[r3 m h3];have:xT ⟨((a+k:Nat):Int),((a+k+j:Nat):Int)⟩ m=false:=by unfold xT;rw[Xo];dsimp only;omega
      rw[this,Bool.false_or]
     ·rw[hlow m Qf0 r1,Uc];unfold xT;by_cases h1:m<a+k
      ·rw[c2' m hm h1,Xo];dsimp only;omega
      ·rw[d1 m Qf0 Qf0,Xm];dsimp only;omega
theorem qS{w:Nat}(hw:w<2 ^ 64):SpC (yW w)/\ ∀m,((yW w).any fun s=>xT s m)=w.testBit m:=by
 obtain⟨h1, -,h3⟩:=zdM w hw 65 0 Qf0 Qf0;exact⟨h1,fun m=>h3 m (Yn m)⟩
theorem zfI{w:Nat}(hw:w<2 ^ 64):uQ (yW w)=w:=Ja fun m=>by
 rw[zoQ];exact(qS hw).2 m
theorem SpF.low{lo:Int}: ∀{l:List Sp},SpF lo l-> ∀m:Nat,(m:Int)<lo->(l.any fun s=>xT s m)=false
 | [],_,m,_=>rfl
 |s::l,⟨a,b,c,d⟩,m,h=>by
  rw[Jj,SpF.low d m Qf0];unfold xT;simp;omega
theorem SpF.uniq: ∀{l l':List Sp}{lo lo':Int},0<=lo->0<=lo'->SpF lo l->SpF lo' l'->(∀m:Nat,(l.any fun s=>xT s m)=l'.any fun s=>xT s m)->l=l'
 | [],[],_,_,_,_,_,_,_=>rfl
 | [],s::l',lo,lo',_,h0,_,⟨a,b,c,d⟩,k=>by
  exact Qbs
 |s::l,[],lo,lo',h0,_,⟨a,b,c,d⟩,_,k=>by
  exact Qbs
 | s::l,s'::l',lo,lo',h0,h0',⟨a,b,c,d⟩,⟨a',b',c',d'⟩,k=>by
  have hin: ∀m:Nat,(m:Int)<=s.b->((s::l).any fun s=>xT s m)=xT s m:=fun m hm=>by
   rw[Jj,d.low m Qf0,Uc]
  have hin': ∀m:Nat,(m:Int)<=s'.b->((s'::l').any fun s=>xT s m)=xT s' m:=fun m hm=>by
   rw[Jj,d'.low m Qf0,Uc]
  have ea:s.a=s'.a:=by
   rcases Int.lt_trichotomy s.a s'.a with h|h|h
   ·exfalso;have:=k s.a.toNat;rw[hin _ Qf0,hin' _ Qf0] at this;have e:xT s s.a.toNat=true:=Qgz;have e':xT s' s.a.toNat=false:=Qh0;rw[e,e'] at this;cases this
   ·exact h
   ·exfalso;have:=k s'.a.toNat;rw[hin _ Qf0,hin' _ Qf0] at this;have e:xT s' s'.a.toNat=true:=Qgz;have e':xT s s'.a.toNat=false:=Qh0;rw[e,e'] at this;cases this
  have eb:s.b=s'.b:=by
   rcases Int.lt_trichotomy s.b s'.b with h|h|h
   ·exfalso;have:=k s.b.toNat;rw[hin _ Qf0,hin' _ Qf0] at this;have e:xT s s.b.toNat=false:=Qh0;have e':xT s' s.b.toNat=true:=Qgz;rw[e,e'] at this;cases this
   ·exact h
   ·exfalso;have:=k s'.b.toNat;rw[hin _ Qf0,hin' _ Qf0] at this;have e:xT s s'.b.toNat=true:=Qgz;have e':xT s' s'.b.toNat=false:=Qh0;rw[e,e'] at this;cases this
  have es:s=s':=by cases s;cases s';simp_all
  subst es;rw[SpF.uniq (lo:=s.b+1) (lo':=s.b+1) Qf0 Qf0 d d' fun m=> ?_];have:=k m;rw[Jj,Jj] at this;by_cases hm:(m:Int)<=s.b
  ·rw[d.low m Qf0,d'.low m Qf0]
  ·have e:xT s m=false:=Qh0;rw[e,Bool.false_or,Bool.false_or] at this;exact this
theorem sT{l:List Sp}(h:SpC l):yW (uQ l)=l:=by
 obtain⟨h1,h2⟩:=qS (wB l);refine SpF.uniq (Ug 0) (Ug 0) h1 h fun m=> ?_;rw[h2,zoQ]
theorem zoO{l:List Sp}:SpC l↔l=yW (uQ l):=
 ⟨fun h=>(sT h).symm,fun h=>by rw[h];exact(qS (wB l)).1⟩
theorem zfN{w:Nat}(hw:w<2 ^ 64):yW w=[]↔w=0:=by
 constructor
 ·intro h;have:=zfI hw;rw[h] at this;exact this.symm
 ·rintro rfl;rfl
theorem zqZ{s:Sp}(h:0<=s.a/\s.a<s.b/\s.b<=64):SpC [s]:=⟨h.1,h.2.1,h.2.2,trivial⟩
end Go.AL
