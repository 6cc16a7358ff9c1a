/-
  Base data: a fact told, a tuple forgotten.
-/
import Derived.Test.YtfjkncfjclifoaaGreatDoorZ39
import Derived.Test.YtfjkncfjclifoaaGreatDoorZ36
set_option linter.unusedSimpArgs false
set_option linter.unusedVariables false
set_option maxRecDepth 100000
set_option maxHeartbeats 4000000
namespace Go.AL
open Go.Proofs Go.Proofs.Tryz
theorem gQ (l:List Op1) (hl:l.length≤140737488355328):EB 11 [lJ l] fun b=>b=true→nX l:=by
 refine ECall.pure (pv func11 31 false (by kernel_rfl) rfl rfl ?_)
 refine g2 ?_
 (repeat' (first|refine gp ?_|refine gs (fun he=> ?_) (fun he=> ?_)|fail))
 all_goals try exact ⟨⟨⟨_,rfl,by simp⟩,.sc⟩,rfl⟩
 all_goals
  refine zO l.length (.k:: .k:: .d:: .v::K9 (K4 (D9 (D4 (.d::[]))))) (own:=false) (fun i (_:Unit)=>[i64 i]) (fun _=>_) (fun i _=> ∀ (j:Nat) (h:j<l.length),j<i→l[j].args.length≤10) () rfl rfl (fun j _ hj=>absurd hj (Nat.not_lt_zero _)) (by omega) ?_ ?_
  ·rintro _ hI
   refine gm ?_
   refine gf @zM ?_
   exact ⟨⟨⟨_,rfl,fun _=>⟨by omega,fun x hx=>by obtain ⟨j,hj,rfl⟩:=List.getElem_of_mem hx;exact hI j hj hj⟩⟩,.sc⟩,rfl⟩
  ·rintro i _ hi hw hI
   refine gm ?_
   have hx:=zG (f:=Op1.c) [] hi
   (have F:=(a4 @hi @hw @hx @zB);(repeat' (first|refine dR F ?_|refine dQ F (fun he=> ?_) (fun he=> ?_)|fail));all_goals clear F)
   ·exact ⟨⟨⟨_,rfl,by simp⟩,.sc⟩,rfl⟩
   ·refine ⟨(),fun j h hj=> ?_,?_,?_,rfl⟩
    ·rcases Nat.lt_or_ge j i with hji|hji
     ·exact hI j h hji
     ·have:j=i:=by omega
      subst this;omega
    ·simp only [zY,xJ,List.tail_cons]
    ·simp only [zY,xJ,List.tail_cons]
theorem zf7 (p:Pg) (hp:p.ok) (r:Rp) (hcl:r.cs.length≤140737488355328) (hbl:r.bs.length≤140737488355328) (hr: ∀ c∈r.cs,c.ops.length≤140737488355328):EB 10 [.agg p.c,.agg r.c] fun b=>b=true→(∀ x∈p.lats,x.elems.length≤10∧x.covers.length≤80)∧r.cs.length≤16∧r.bs.length≤20∧ ∀ c∈r.cs,nX c.ops:=by
 refine ECall.cut (R:=fun v _=> ∃ b:Bool,v=bo b∧(b=true→(∀ x∈p.lats,x.elems.length≤10∧x.covers.length≤80)∧r.cs.length≤16∧r.bs.length≤20∧ ∀ c∈r.cs,nX c.ops)) (pv func10 36 false (by kernel_rfl) rfl rfl ?_) (by rintro p h ⟨b,rfl,h⟩;exact ⟨b,rfl,h⟩)
 refine g2 ?_
 refine ge ?_
 (refine g1 ?_;refine zC ((zjP p hp).call zK (by simp [zJ]) _) ?_;intro p2 h2 hr2;refine g2 ?_)
 obtain ⟨⟨b,rfl,hb⟩,rfl⟩:=hr2
 cases b with
 |false=>
  refine ge ?_
  exact ⟨_,rfl,by simp⟩
 | true=>
  have hb:=hb rfl
  (repeat' (first|refine gp ?_|refine gs (fun he=> ?_) (fun he=> ?_)|fail))
  all_goals try exact ⟨_,rfl,by simp⟩
  refine zO r.cs.length (K4 (.d:: .v::K9 (K4 (.k:: .k::D9 (D4 (.d:: .d::[])))))) (own:=false) (fun i (_:Unit)=>[i64 i]) (fun _=>_) (fun i _=> ∀ (j:Nat) (h:j<r.cs.length),j<i→nX r.cs[j].ops) () rfl rfl (fun j _ hj=>absurd hj (Nat.not_lt_zero _)) (by omega) ?_ ?_
  ·rintro _ hI
   refine gm ?_
   refine gf @zM ?_
   exact ⟨_,rfl,fun _=>⟨hb,by omega,by omega,fun c hc=>by obtain ⟨j,hj,rfl⟩:=List.getElem_of_mem hc;exact hI j hj hj⟩⟩
  ·rintro i _ hi hw hI
   refine gm ?_
   have hx:=zG (f:=Co.c) [] hi
   have hxo:=hr _ (List.getElem_mem hi)
   have next:nX r.cs[i].ops→ ∀ (j:Nat) (h:j<r.cs.length),j<i+1→nX r.cs[j].ops:=by
    intro q j h hj
    rcases Nat.lt_or_ge j i with hji|hji
    ·exact hI j h hji
    ·have:j=i:=by omega
     subst this;exact q
   generalize r.cs[i]=x at*
   refine gf (a4 @hi @hx @hw @zB) ?_
   (refine g1f (a4 @hi @hx @hw @zB) ?_;refine zC ((gQ x.ops hxo).call zK (by simp) _) ?_;intro p2 h2 hr2;refine g2 ?_)
   obtain ⟨⟨b,rfl,hs⟩,rfl⟩:=hr2
   cases b with
   |false=>
    refine gf @hw ?_
    exact ⟨_,rfl,by simp⟩
   |true=>
    refine gf @hw ?_
    exact ⟨(),next (hs rfl),rfl,rfl,rfl⟩
end Go.AL
namespace Go.AL
open Go.Proofs Go.Proofs.Tryz
@[go_sem] def UBas3f34.pl:Nat→DPlan
 |1=>⟨[⟨6,0,[1003]⟩,yA,⟨7,0,[1003]⟩,yB,yA,yA,yB,yA,yB,yC,yA,yA,yA],yN,0⟩
 |_=>⟨[],[],0⟩
abbrev zaH:NM:=[(.int .i64 1,.fn (.func 53) [] []),(.int .i64 2,.fn (.func 54) [] [])]
theorem tmT:kC prog 99=some (3,.int .i64,98):=by kernel_rfl
theorem ziT:(prog.info? 98).bind (·.zero)=some .nilFunc:=by kernel_rfl
theorem kbI (n:Int):pF (.int .i64) (.int .i64 n)=true:=rfl
theorem mst1 (v:PV):kO (.int .i64 1) v []=[(.int .i64 1,v)]:=rfl
theorem mst2 (v w:PV):kO (.int .i64 2) w [(.int .i64 1,v)]=[(.int .i64 1,v),(.int .i64 2,w)]:=rfl
theorem zlS:nI .nilFunc= .sc .nilFunc:=rfl
theorem za2 (f:FuncId):sE (α:=Prop) prog 98 (.fn (.func f) [] []) (.sc .nilFunc)=some (false,True):=by kernel_rfl
theorem zjW:sE (α:=Prop) prog 98 (.sc .nilFunc) (.sc .nilFunc)=some (true,True):=by kernel_rfl
theorem zg1:zaH.all (fun x=>pF (.int .i64) x.1)=true:=rfl
def iZ (n:Int):PV:=if n=1 then .fn (.func 53) [] [] else if n=2 then .fn (.func 54) [] [] else .sc .nilFunc
theorem lkT {h:Heap} {r:Nat} (n:Int) (hr:h[r]? =some (.map zaH)):xQ (α:=Prop) prog h 99 false (.mp r) (i64 n)=some (iZ n,True):=by
 unfold xQ
 rw [tmT]
 simp only [oS,hr,ziT,kbI,zg1,Bool.and_self,if_true,vL,Bool.false_eq_true,if_false,zlS]
 by_cases h1:n=1
 ·subst h1;rfl
 ·by_cases h2:n=2
  ·subst h2;rfl
  ·have:vV (.int .i64 n) zaH 0=none:=by simp [vV,sY,h1,h2]
   rw [this]
   simp [iZ,h1,h2]
theorem jY (h:Heap):ECall prog G0 37 [] h fun p h'=>p= .mp h.length∧h'=h++[.map zaH]:=by
 refine pv func37 3 false (by kernel_rfl) rfl rfl ?_
 refine g2 ?_
 (repeat (first|refine gz ?_|(refine gn ?_;intro zs zh;(try simp only [go_sem,rU,sB,qK,rN,tmT,kbI,mst1,mst2,Bool.and_self] at zh);subst zh;refine gv ?_)))
 exact ⟨rfl,rfl⟩
attribute [-go_sem] only
open UBas3f34 in
theorem aV (p:Pg) (hp:p.ok) (hle:p.sm) (o:Op1) (ho:o.ok):EI 34 [.agg p.c,.agg o.c] fun e=>e=0→VfK p o.pred o.args∧(o.kind=1∨o.kind=2):=by
 refine ECall.cut (R:=fun v _=> ∃ e:Int,v=i64 e∧(e=0→VfK p o.pred o.args∧(o.kind=1∨o.kind=2))) (pv func34 48 false (by kernel_rfl) rfl rfl ?_) (by rintro p h ⟨b,rfl,h⟩;exact ⟨b,rfl,h⟩)
 refine g2 ?_
 refine ge ?_
 (refine zF rfl rfl rfl ?_;intro sr hsr;simp only [go_sem] at hsr;subst hsr;refine xR rfl rfl (jY _) (by rintro _ _ ⟨_,rfl⟩ k hk _;have hk:k∈[1003]:=hk;simp only [List.mem_singleton] at hk;subst hk;rfl) ?_;intro p2 h2 hr2 ts2 hts;simp only [go_sem] at hts;subst hts)
 obtain ⟨rfl,rfl⟩:=hr2
 have hlk:=lkT (h:=[.var 27 p.c,.var 84 o.c,.map zaH]) (r:=2) o.kind rfl
 have key:iZ o.kind= .sc .nilFunc∨((o.kind=1∨o.kind=2)∧ ∃ f,iZ o.kind= .fn (.func f) [] []):=by
  unfold iZ
  by_cases h1:o.kind=1
  ·rw [if_pos h1];exact .inr ⟨.inl h1,_,rfl⟩
  ·rw [if_neg h1]
   by_cases h2:o.kind=2
   ·rw [if_pos h2];exact .inr ⟨.inr h2,_,rfl⟩
   ·rw [if_neg h2];exact .inl rfl
 rcases key with ha|⟨hk,f,ha⟩
 ·rw [ha] at hlk
  refine gf (a2 @hlk @zjW) ?_
  exact ⟨1,rfl,by simp⟩
 ·rw [ha] at hlk
  refine gf (a2 @hlk @za2) ?_
  (refine vY ?_;refine zN rfl rfl rfl ?_;intro sr hsr;simp only [sK,List.getD_cons_succ,List.getD_cons_zero,Option.map_some,Option.getD_some,Bool.not_false,Bool.not_true] at hsr;subst hsr;(first|refine pK ?_|refine pL ?_);intro sr hsr;simp only [go_sem,hlk,za2] at hsr;subst hsr;refine zP (by decide) (by decide) ((fQ p hp hle o.pred o.elem o.args ho.1).call zK (by simp [zJ]) _) ?_;intro p2 h2 hr2 ts2 hts;simp only [go_sem] at hts;subst hts)
  obtain ⟨⟨b,rfl,hb⟩,rfl⟩:=hr2
  cases b with
  |false=>
   refine gf (a2 @hlk @za2) ?_
   exact ⟨1,rfl,by simp⟩
  | true=>
   have hb:=hb rfl
   obtain ⟨hf,hpb,i,hpi,⟨hi,hal⟩,hsz⟩:=hb
   have hx:=zG (f:=Pd.c) [] hi
   have hK:VfK p o.pred o.args:=⟨hf,hpb,i,hpi,⟨hi,hal⟩,hsz⟩
   generalize p.preds[i]=x at*
   have hpos:(0≤o.pred)=True:=eq_true (by omega)
   have hlt:(o.pred<(p.preds.length:Int))=True:=eq_true (by omega)
   have htn:o.pred.toNat=i:=by omega
   refine gf (a4 @hpos @hlt @htn @hx) ?_
   obtain ⟨xname,xtypes,xlat,xof,xbase,xkey,xat⟩:=x
   cases xbase with
   |false=>
    refine gf (a4 @hpos @hlt @htn @hx) ?_
    exact ⟨73,rfl,by simp⟩
   |true=>
    (have F:=(a4 @hpos @hlt @htn @hx);(repeat' (first|refine dR F ?_|refine dQ F (fun he=> ?_) (fun he=> ?_)|fail));all_goals clear F)
    all_goals first|exact ⟨1,rfl,fun h=>absurd h (by decide)⟩|exact ⟨0,rfl,fun _=>⟨hK,hk⟩⟩
end Go.AL
namespace Go.AL
open Go.Proofs Go.Proofs.Tryz
@[go_sem] def UBas4f79.pp:Nat→DPlan
 |2=>⟨[yA,yA,yA,yB,yA,yA,yB,yA,yB,yA,yA,yA,yB,yA,yB,yA,yA,yA,yB,yA,yA,yB,yA,yA,yB,yA,yB,yA,uX,yA,yC],pQ,0⟩
 |_=>⟨[],[],0⟩
theorem kG (l:List (List Rw)) (hne:0<l.length) (hl:l.length≤1099511627776) (h:Heap):ECall prog G0 35 [.ts 1 (l.map fun r=>[uN r])] h fun p h'=>p= .ms h.length 0 1 l.length∧h'=h++[.var 70 (l.map uN)]:=by
 cases l with
 |nil=>cases hne
 | cons x l=>
  refine pv func35 8 true (by kernel_rfl) rfl rfl ?_
  refine g2 ?_
  have hl2:l.length+1≤1099511627776:=by simpa using hl
  have hl3:(l.length+1)*24≤140737488355328:=by omega
  have hl4:l.length≤140737488355327:=by omega
  have hfl: ∀ l:List (List Rw),(l.map fun r=>[uN r]).flatten=l.map uN:=fun l=>by
   induction l with
   |nil=>rfl
   |cons x l ih=>rw [List.map_cons,List.flatten_cons,ih];rfl
  refine gf (a5 @zjS @vX @hl3 @hl4 @hfl) ?_
  exact ⟨rfl,rfl⟩
theorem kH (l:List (List LRw)) (hne:0<l.length) (hl:l.length≤1099511627776) (h:Heap):ECall prog G0 36 [.ts 1 (l.map fun r=>[vD r])] h fun p h'=>p= .ms h.length 0 1 l.length∧h'=h++[.var 96 (l.map vD)]:=by
 cases l with
 |nil=>cases hne
 | cons x l=>
  refine pv func36 8 true (by kernel_rfl) rfl rfl ?_
  refine g2 ?_
  have hl2:l.length+1≤1099511627776:=by simpa using hl
  have hl3:(l.length+1)*24≤140737488355328:=by omega
  have hl4:l.length≤140737488355327:=by omega
  have hfl: ∀ l:List (List LRw),(l.map fun r=>[vD r]).flatten=l.map vD:=fun l=>by
   induction l with
   |nil=>rfl
   |cons x l ih=>rw [List.map_cons,List.flatten_cons,ih];rfl
  refine gf (a5 @zf9 @vX @hl3 @hl4 @hfl) ?_
  exact ⟨rfl,rfl⟩
structure DtS (p:Pg) (N:Nat) (d:Dt):Prop where
 rl:d.rels.length=p.preds.length
 ll:d.lats.length=p.preds.length
 r: ∀ (i:Nat) (h:i<p.preds.length) (h':i<d.rels.length),d.rels[i].length≤N∧ ∀ x∈d.rels[i],x.args.length=p.preds[i].types.length∧x.ls
 l: ∀ (i:Nat) (h':i<d.lats.length),d.lats[i].length≤N∧ ∀ x∈d.lats[i],x.ok
structure DataAt (d:Dt) (q rq lq:Nat) (h:Heap):Prop where
 t:h[q]? =some (.var 44 [.ms rq 0 1 d.rels.length,.ms lq 0 1 d.lats.length])
 r:h[rq]? =some (.var 70 (d.rels.map uN))
 l:h[lq]? =some (.var 96 (d.lats.map vD))
theorem DataAt.app {d:Dt} {q rq lq:Nat} {h:Heap} (hD:DataAt d q rq lq h) (B:Heap):DataAt d q rq lq (h++B):=⟨yJ _ _ _ _ hD.t,yJ _ _ _ _ hD.r,yJ _ _ _ _ hD.l⟩
structure Act (p:Pg) (N:Nat) (q rq lq:Nat) (h h':Heap):Prop where
 d: ∃ d':Dt,DtS p N d'∧DataAt d' q rq lq h'
 k: ∀ (r:Nat) (b:Blk),r≠rq→r≠lq→h[r]? =some b→h'[r]? =some b
theorem DataAt.ne {d:Dt} {q rq lq:Nat} {h:Heap} (hD:DataAt d q rq lq h):q≠rq∧q≠lq∧rq≠lq:=by
 refine ⟨?_,?_,?_⟩
 ·rintro rfl;have:=hD.t;rw [hD.r] at this;cases this
 ·rintro rfl;have:=hD.t;rw [hD.l] at this;cases this
 ·rintro rfl;have:=hD.r;rw [hD.l] at this;cases this
theorem Act.lats {p:Pg} {N N':Nat} {d:Dt} {q rq lq i:Nat} {h:Heap} (hd:DtS p N d) (hD:DataAt d q rq lq h) (hNN:N≤N') {z:List LRw} (hz:z.length≤N') (hz2: ∀ x∈z,x.ok) (B:Heap):Act p N' q rq lq h (h.set lq (.var 96 ((d.lats.set i z).map vD))++B):=by
 obtain ⟨n1,n2,n3⟩:=hD.ne
 have hl:=(gsi hD.l).1
 have keep: ∀ (r:Nat) (b:Blk),r≠lq→h[r]? =some b→(h.set lq (.var 96 ((d.lats.set i z).map vD))++B)[r]? =some b:=fun r b hr hb=>by
  rw [List.getElem?_append_left (by rw [List.length_set];exact (gsi hb).1),List.getElem?_set_ne (Ne.symm hr)];exact hb
 refine ⟨⟨⟨d.rels,d.lats.set i z⟩,⟨hd.rl,by simpa using hd.ll,fun j h h'=>⟨Nat.le_trans (hd.r j h h').1 hNN,(hd.r j h h').2⟩,fun j h'=> ?_⟩,⟨by simpa using keep q _ n2 hD.t,keep rq _ n3 hD.r,?_⟩⟩,fun r b _ hr hb=>keep r b hr hb⟩
 ·have h'':j<d.lats.length:=by simpa using h'
  simp only [List.getElem_set]
  split
  ·exact ⟨hz,hz2⟩
  ·exact ⟨Nat.le_trans (hd.l j h'').1 hNN,(hd.l j h'').2⟩
 ·rw [List.getElem?_append_left (by rw [List.length_set];exact hl),List.getElem?_set_self hl]
theorem Act.rels {p:Pg} {N N':Nat} {d:Dt} {q rq lq i:Nat} {h:Heap} (hd:DtS p N d) (hD:DataAt d q rq lq h) (hNN:N≤N') {z:List Rw} (hi:i<p.preds.length) (hz:z.length≤N') (hz2: ∀ x∈z,x.args.length=p.preds[i].types.length∧x.ls) (B:Heap):Act p N' q rq lq h (h.set rq (.var 70 ((d.rels.set i z).map uN))++B):=by
 obtain ⟨n1,n2,n3⟩:=hD.ne
 have hl:=(gsi hD.r).1
 have keep: ∀ (r:Nat) (b:Blk),r≠rq→h[r]? =some b→(h.set rq (.var 70 ((d.rels.set i z).map uN))++B)[r]? =some b:=fun r b hr hb=>by
  rw [List.getElem?_append_left (by rw [List.length_set];exact (gsi hb).1),List.getElem?_set_ne (Ne.symm hr)];exact hb
 refine ⟨⟨⟨d.rels.set i z,d.lats⟩,⟨by simpa using hd.rl,hd.ll,fun j h h'=> ?_,fun j h'=>⟨Nat.le_trans (hd.l j h').1 hNN,(hd.l j h').2⟩⟩,⟨by simpa using keep q _ n1 hD.t,?_,keep lq _ (Ne.symm n3) hD.l⟩⟩,fun r b hr _ hb=>keep r b hr hb⟩
 ·have h'':j<d.rels.length:=by simpa using h'
  simp only [List.getElem_set]
  split
  ·rename_i e;subst e;exact ⟨hz,hz2⟩
  ·exact ⟨Nat.le_trans (hd.r j h h'').1 hNN,(hd.r j h h'').2⟩
 ·rw [List.getElem?_append_left (by rw [List.length_set];exact hl),List.getElem?_set_self hl]
theorem Act.of_app {p:Pg} {N q rq lq:Nat} {h h' B:Heap} (a:Act p N q rq lq (h++B) h'):Act p N q rq lq h h':=⟨a.d,fun r b h1 h2 hb=>a.k r b h1 h2 (yJ _ _ _ _ hb)⟩
theorem zb8 (p:Pg) (hp:p.ok) (N:Nat) (hN:N≤68719476736) (d:Dt) (hd:DtS p N d) (q rq lq:Nat) (h:Heap) (hD:DataAt d q rq lq h) (o:Op1) (i:Nat) (hi:i<p.preds.length) (hoi:o.pred=i) (hof:0≤p.preds[i].of'∧p.preds[i].of'<p.lats.length) (hal:o.args.length≤1048576) (hs: ∀ a∈o.args,a.s.size≤16) (e:Int):
  ECall prog G0 79 [.agg p.c,.ptr q 0,.agg o.c,i64 e] h fun v h'=>v= .tup []∧Act p (N+1) q rq lq h h':=by
 refine pv func79 42 false (by kernel_rfl) rfl rfl ?_
 refine g2 ?_
 have hil:i<d.lats.length:=by rw [hd.ll];exact hi
 have htA: ∀ l:List Blk,(h++l)[q]? =some (.var 44 [.ms rq 0 1 d.rels.length,.ms lq 0 1 d.lats.length]):=fun l=>yJ _ _ _ _ hD.t
 have hlA: ∀ l:List Blk,(h++l)[lq]? =some (.var 96 (d.lats.map vD)):=fun l=>yJ _ _ _ _ hD.l
 have hll:lq<h.length:=(gsi hD.l).1
 have hsA: ∀ (l:List Blk) (b:Blk),(h++l).set lq b=h.set lq b++l:=fun l b=>List.set_append_left _ _ hll
 have hx:=zG (f:=Pd.c) [] hi
 obtain ⟨hz1,hz2⟩:=hd.l i hil
 have hol:p.preds[i].of'.toNat<p.lats.length:=by omega
 have hy:=zG (f:=La.c) [] hol
 have hlo:=hp.l _ (List.getElem_mem hol)
 have fin:=fun (z:List LRw) (h1:z.length≤N+1) (h2: ∀ x∈z,x.ok) (B:Heap)=>Act.lats (i:=i) hd hD (Nat.le_succ N) h1 h2 B
 generalize p.lats[p.preds[i].of'.toNat]=lt at*
 generalize p.preds[i]=x at*
 have hd0:=yU vD d.lats i .un hil
 have hsp: ∀ v,(d.lats.map vD).take i++vD v::(d.lats.map vD).drop (i+1)=(d.lats.set i v).map vD:=fun v=>wY vD d.lats i v hil
 generalize hz:d.lats[i]=z at*
 have hpi:(0≤o.pred)=True:=eq_true (by omega)
 have hpl:(o.pred<(p.preds.length:Int))=True:=eq_true (by omega)
 have hpt:o.pred.toNat=i:=by omega
 have hpd:(o.pred<(d.lats.length:Int))=True:=eq_true (by omega)
 have ho0:(0≤x.of')=True:=eq_true (by omega)
 have ho1:(x.of'<(p.lats.length:Int))=True:=eq_true (by omega)
 (repeat (first|refine gz ?_|(refine gn ?_;intro zs zh;(try simp only [go_sem,htA,hlA,hsA,rU,sB,qK,rN,hx,hy,hpi,hpl,hpt,hpd,hd0,hol,hil,ho0,ho1] at zh);subst zh;refine gv ?_)|refine yD UBas4f79.pp ?_))
 (refine zF rfl rfl rfl ?_;intro sr hsr;simp only [go_sem,htA,hlA,hsA,rU,sB,qK,rN,hx,hy,hpi,hpl,hpt,hpd,hd0,hol,hil,ho0,ho1] at hsr;subst hsr;refine vP rfl (zj6 lt hlo z (by omega) hz2 o.args hal hs o.span.a o.span.b e) (by simp [zJ]) ?_;intro p2 hr2 ts2 hts;simp only [go_sem] at hts;subst hts)
 obtain ⟨rs,rfl,q1,q2⟩:=hr2
 (repeat (first|refine gz ?_|(refine gn ?_;intro zs zh;(try simp only [go_sem,htA,hlA,hsA,rU,sB,qK,rN,hx,hy,hpi,hpl,hpt,hpd,hd0,hol,hil,ho0,ho1,hsp] at zh);subst zh;refine gv ?_)|refine yD UBas4f79.pp ?_))
 exact ⟨rfl,fin rs (by omega) (fun x hx=>(q2 x hx).ok) _⟩
end Go.AL
namespace Go.AL
open Go.Proofs Go.Proofs.Tryz
@[go_sem] def UBas5f53.pp:Nat→DPlan
 |1=>⟨[yA,yA,yB,yA,yA,yB,yA,yB,yA,yA,yA,yA],xF,0⟩
 |9=>⟨[yA,yB,yA,yB,yA,yA,yA,yB,yB,yC],xS,0⟩
 |12=>⟨[yA,yA,yA,yB,yA,yA,yA,yA,uX,yA,yC],vJ,0⟩
 |_=>⟨[],[],0⟩
@[go_sem] def UBas5f54.pp:Nat→DPlan
 |4=>⟨[yB,yA,yB,yA,yB,yA,yB,yA,yB,uX,yC],vJ,0⟩
 |5=>⟨[yA,yA,yA,yB,yA,yA,yA,yA,yB,yA,yA,yB,yA,yA,yB,yA,yB,yA,uX,yA,yC],pR,0⟩
 |_=>⟨[],[],0⟩
@[go_sem] def UBas5f53.pl:Nat→DPlan
 |1=>⟨[yA,yA,yB,yA,yA,yB,yA,yB,yA,yA,yA,yA],xF,0⟩
 |9=>⟨[yA,yB,yA,yB,yA,yA,yA,yB,yB,yC],xS,0⟩
 |12=>⟨[yA,yA,yA,⟨7,0,[1001]⟩,yA,yA,yA,yA,⟨6,0,[1001]⟩,yA,yC],vJ,0⟩
 |_=>⟨[],[],0⟩
@[go_sem] def UBas5f54.pl:Nat→DPlan
 |4=>⟨[⟨7,0,[1003]⟩,yA,⟨7,0,[1005]⟩,yA,yB,yA,yB,yA,yB,⟨6,0,[1003,1005]⟩,yC],vJ,0⟩
 |5=>⟨[yA,yA,yA,⟨7,0,[1001]⟩,yA,yA,yA,yA,yB,yA,yA,yB,yA,yA,yB,yA,yB,yA,⟨6,0,[1001]⟩,yA,yC],pR,0⟩
 |_=>⟨[],[],0⟩
structure OpK (p:Pg) (o:Op1) (i:Nat):Prop where
 hi:i<p.preds.length
 hoi:o.pred=i
 hof: -1≤p.preds[i].of'∧p.preds[i].of'<p.lats.length
 hal:o.args.length=p.preds[i].types.length
 htl:p.preds[i].types.length≤1048576
 hs: ∀ a∈o.args,a.s.size≤16
 k0:0≤p.preds[i].key
 k1:p.preds[i].key≤p.preds[i].types.length
theorem OpK.ls {p:Pg} {o:Op1} {i:Nat} (k:OpK p o i):(Rw.mk o.args [o.span]).ls:=⟨by dsimp only;rw [k.hal];exact k.htl,fun a ha=>by have:=k.hs a ha;omega,by simp⟩
theorem CombR.ls {a b o:List Rw} {n:Nat} (h:CombR a b o) (ha: ∀ y∈a,y.args.length=n∧y.ls) (hb: ∀ y∈b,y.args.length=n∧y.ls): ∀ x∈o,x.args.length=n∧x.ls:=fun x hx=>by
 obtain ⟨⟨y,hy,e⟩,hw⟩:=h.2 x hx
 have k:y.args.length=n∧y.ls:=by
  rcases List.mem_append.1 hy with h|h
  ·exact ha y h
  ·exact hb y h
 exact ⟨by rw [e];exact k.1,by rw [e];exact k.2.al,by rw [e];exact k.2.a,hw⟩
open UBas5f53 in
theorem ziO (p:Pg) (hp:p.ok) (N:Nat) (hN:N≤17179869184) (d:Dt) (hd:DtS p N d) (q rq lq:Nat) (h:Heap) (hD:DataAt d q rq lq h) (o:Op1) (i:Nat) (ho:OpK p o i):
  ECall prog G0 53 [.agg p.c,.ptr q 0,.agg o.c] h fun v h'=>v= .tup []∧Act p (2*N+1) q rq lq h h':=by
 refine pv func53 75 false (by kernel_rfl) rfl rfl ?_
 refine g2 ?_
 have hi:=ho.hi
 have hoi:=ho.hoi
 have hx:=zG (f:=Pd.c) [] hi
 have hpi:(0≤o.pred)=True:=eq_true (by omega)
 have hpl:(o.pred<(p.preds.length:Int))=True:=eq_true (by omega)
 have hpt:o.pred.toNat=i:=by omega
 refine gf (a9 @rU @sB @qK @rN @hx @hpi @hpl @hpt @hi) ?_
 (refine g1f (a9 @rU @sB @qK @rN @hx @hpi @hpl @hpt @hi) ?_;refine zC ((lR p.preds[i]).call zK (by simp [zJ]) _) ?_;intro p2 h2 hr2;refine g2 ?_)
 obtain ⟨⟨b,rfl,hb⟩,rfl⟩:=hr2
 cases b with
 | true=>
  have hof:0≤p.preds[i].of'∧p.preds[i].of'<p.lats.length:=by
   have h1:=ho.hof
   have:p.preds[i].of'≠ -1:=by simpa using hb.symm
   omega
  refine gf (a9 @rU @sB @qK @rN @hx @hpi @hpl @hpt @hi) ?_
  (refine g1f (a9 @rU @sB @qK @rN @hx @hpi @hpl @hpt @hi) ?_;refine zC (zb8 p hp N (by omega) d hd q rq lq _ (hD.app _) o i hi hoi hof (by rw [ho.hal];exact ho.htl) ho.hs o.elem) ?_;intro p2 h2 hr2;refine g2 ?_)
  obtain ⟨rfl,ha⟩:=hr2
  refine ge ?_
  obtain ⟨⟨d',e1,e2⟩,e3⟩:=ha.of_app
  exact ⟨rfl,⟨d',⟨e1.rl,e1.ll,fun j a b=>⟨by have:=(e1.r j a b).1;omega,(e1.r j a b).2⟩,fun j a=>⟨by have:=(e1.l j a).1;omega,(e1.l j a).2⟩⟩,e2⟩,e3⟩
 | false=>
  have hir:i<d.rels.length:=by rw [hd.rl];exact hi
  obtain ⟨hz1,hz2⟩:=hd.r i hi hir
  have htA: ∀ l:List Blk,(h++l)[q]? =some (.var 44 [.ms rq 0 1 d.rels.length,.ms lq 0 1 d.lats.length]):=fun l=>yJ _ _ _ _ hD.t
  have hrA: ∀ l:List Blk,(h++l)[rq]? =some (.var 70 (d.rels.map uN)):=fun l=>yJ _ _ _ _ hD.r
  have hrl:rq<h.length:=(gsi hD.r).1
  have hsA: ∀ (l:List Blk) (b:Blk),(h++l).set rq b=h.set rq b++l:=fun l b=>List.set_append_left _ _ hrl
  have hd0:=yU uN d.rels i .un hir
  have hsp: ∀ v,(d.rels.map uN).take i++uN v::(d.rels.map uN).drop (i+1)=(d.rels.set i v).map uN:=fun v=>wY uN d.rels i v hir
  have hpd:(o.pred<(d.rels.length:Int))=True:=eq_true (by omega)
  have fin:=fun (z:List Rw) (h1:z.length≤2*N+1) (h2: ∀ x∈z,x.args.length=p.preds[i].types.length∧x.ls) (B:Heap)=>Act.rels (i:=i) hd hD (by omega:N≤2*N+1) hi h1 h2 B
  have hls:=ho.ls
  have hal:=ho.hal
  have k0:=ho.k0
  have k1:=ho.k1
  generalize hz:d.rels[i]=z at*
  generalize p.preds[i]=x at*
  obtain ⟨k,hk⟩:=Int.eq_ofNat_of_zero_le k0
  refine gf (a9 @htA @hrA @rU @sB @qK @rN @hx @hpi (a6 @hpl @hpt @hpd @hi @hd0 @hir)) ?_
  have hcA: ∀ l:List Blk,(h++(.var 27 p.c:: .var 84 o.c:: .var 105 x.c::l))[h.length+2]? =some (.var 105 x.c):=fun l=>(sB h _ 2).trans rfl
  refine zO z.length (K9 (.k:: .v:: .k:: .d::K9 (K9 (K9 (K4 (.k:: .v::D9 (D9 (.d::K9 (.k::[]))))))))) (own:=false) (fun j (s:List Rw×Heap)=>[uN s.1,i64 j]) (fun s=>h++(.var 27 p.c:: .var 84 o.c:: .var 105 x.c::s.2)) (fun j s=>s.1.length≤N+j∧ ∀ y∈s.1,y.args.length=x.types.length∧y.ls) (z,[]) rfl rfl ⟨hz1,hz2⟩ (by omega) ?_ ?_
  ·rintro ⟨r,J⟩ ⟨hR1,hR2⟩ t ht
   dsimp only at hR1 hR2
   simp only [zY] at ht;subst ht
   (repeat (first|refine gz ?_|(refine gn ?_;intro zs zh;(try simp only [go_sem,zM,htA,hrA,hsA,hpi,hpl,hpt,hpd,hi,hir,hd0] at zh);subst zh;refine gv ?_)|refine yD UBas5f53.pp ?_))
   (refine zF rfl rfl rfl ?_;intro sr hsr;simp only [go_sem,htA,hrA,hsA,hpi,hpl,hpt,hpd,hi,hir,hd0] at hsr;subst hsr;refine vP rfl (((zdR r o.args [o.span] (by omega) (fun y hy=>(hR2 y hy).2) hls).args (.cons (PLe.refl _) (.cons (PLe.refl _) (.cons (PLe.tc_ts 2 _) .nil))))) (by simp [zJ,oM]) ?_;intro p2 hr2 ts2 hts;simp only [go_sem] at hts;subst hts)
   obtain ⟨z',rfl,c1,c2⟩:=hr2
   (repeat (first|refine gz ?_|(refine gn ?_;intro zs zh;(try simp only [go_sem,htA,hrA,hsA,hpi,hpl,hpt,hpd,hi,hir,hd0,hsp] at zh);subst zh;refine gv ?_)|refine yD UBas5f53.pp ?_))
   exact ⟨rfl,fin z' (by simp at c1;omega) (CombR.ls ⟨c1,c2⟩ hR2 (fun y hy=>by rw [List.mem_singleton] at hy;subst hy;exact ⟨hal,hls⟩)) _⟩
  ·rintro j ⟨r,J⟩ hj hw ⟨hR1,hR2⟩ t ht
   dsimp only at hR1 hR2
   simp only [zY] at ht;subst ht
   have hy:=zG (f:=Rw.c) [] hj
   have hyk:=hz2 _ (List.getElem_mem hj)
   generalize z[j]=y at*
   have hb: ∀ l:List Blk,(h++(.var 27 p.c:: .var 84 o.c:: .var 105 x.c::(J++l)))[h.length+(J.length+1+1+1)]? =l[0]? :=fun l=>by rw [sB];exact rU J l
   have hsb: ∀ (l:List Blk) (b:Blk),(h++(.var 27 p.c:: .var 84 o.c:: .var 105 x.c::(J++l))).set (h.length+(J.length+1+1+1)) b=h++(.var 27 p.c:: .var 84 o.c:: .var 105 x.c::(J++l.set 0 b)):=fun l b=>by
    rw [rN, ←qK J l b];rfl
   have e1:((k:Int)≤(y.args.length:Int))=True:=eq_true (by omega)
   have e2:((k:Int)≤(o.args.length:Int))=True:=eq_true (by omega)
   (repeat (first|refine gz ?_|(refine gn ?_;intro zs zh;(try simp only [go_sem,hj,hy,zB,hw,hcA,hb,hsb,hk,e1,e2,xO] at zh);subst zh;refine gv ?_)|refine yD UBas5f53.pl ?_))
   (refine zF rfl rfl rfl ?_;intro zs zh;simp only [go_sem,hj,hy,zB,hw,hcA,hb,hsb,hk,e1,e2,xO] at zh;subst zh;refine zP (by decide) (by decide) ((zh2 (y.args.take k) (o.args.take k) (by rw [List.length_take];have:=hls.al;have:=hyk.2.al;omega)).call zK (by simp) _) ?_;intro p2 h2 hr2 ts2 hts;simp only [go_sem] at hts;subst hts)
   obtain ⟨⟨b,rfl, -⟩,rfl⟩:=hr2
   cases b with
   |false=>
    (repeat (first|refine gz ?_|(refine gn ?_;intro zs zh;(try simp only [go_sem,hj,hy,zB,hw,hcA,hb,hsb,hk,e1,e2,xO] at zh);subst zh;refine gv ?_)|refine yD UBas5f53.pl ?_))
    exact ⟨(r,J++[.var 76 y.c]),⟨by dsimp only;omega,hR2⟩,rfl,rfl,rfl⟩
   |true=>
    (repeat (first|refine gz ?_|(refine gn ?_;intro zs zh;(try simp only [go_sem,hj,hy,zB,hw,hcA,hb,hsb,hk,e1,e2,xO] at zh);subst zh;refine gv ?_)|refine yD UBas5f53.pl ?_))
    (refine ns ?_;intro zs zh;simp only [go_sem,hj,hy,zB,hw,hcA,hb,hsb,hk,e1,e2,xO] at zh;subst zh;refine zC (((gT r y.args [o.span] (by omega) (fun z hz=>(hR2 z hz).2) ⟨hyk.2.al,hyk.2.a,by simp⟩).call zK (by simp) _).args (.cons (PLe.refl _) (.cons (PLe.refl _) (.cons (PLe.tc_ts 2 _) .nil)))) ?_;intro p2 h2 hr2 ts2 hts;simp only [go_sem] at hts;subst hts)
    obtain ⟨⟨r',rfl,c1,c2⟩,rfl⟩:=hr2
    (repeat (first|refine gz ?_|(refine gn ?_;intro zs zh;(try simp only [go_sem,hj,hy,zB,hw,hcA,hb,hsb,hk,e1,e2,xO] at zh);subst zh;refine gv ?_)|refine yD UBas5f53.pl ?_))
    exact ⟨(r',J++[.var 76 y.c]),⟨by simp at c1;dsimp only;omega,CombR.ls ⟨c1,c2⟩ hR2 (fun q hq=>by rw [List.mem_singleton] at hq;subst hq;exact ⟨hyk.1,hyk.2.al,hyk.2.a,by simp⟩)⟩,rfl,rfl,rfl⟩
attribute [-go_sem] only
open UBas5f54 in
theorem zdV (p:Pg) (hp:p.ok) (N:Nat) (hN:N≤17179869184) (d:Dt) (hd:DtS p N d) (q rq lq:Nat) (h:Heap) (hD:DataAt d q rq lq h) (o:Op1) (i:Nat) (ho:OpK p o i):
  ECall prog G0 54 [.agg p.c,.ptr q 0,.agg o.c] h fun v h'=>v= .tup []∧Act p (2*N+1) q rq lq h h':=by
 refine pv func54 49 false (by kernel_rfl) rfl rfl ?_
 refine g2 ?_
 have hi:=ho.hi
 have hoi:=ho.hoi
 have hx:=zG (f:=Pd.c) [] hi
 have hpi:(0≤o.pred)=True:=eq_true (by omega)
 have hpl:(o.pred<(p.preds.length:Int))=True:=eq_true (by omega)
 have hpt:o.pred.toNat=i:=by omega
 refine gf (a9 @rU @sB @qK @rN @hx @hpi @hpl @hpt @hi) ?_
 (refine g1f (a9 @rU @sB @qK @rN @hx @hpi @hpl @hpt @hi) ?_;refine zC ((lR p.preds[i]).call zK (by simp [zJ]) _) ?_;intro p2 h2 hr2;refine g2 ?_)
 obtain ⟨⟨b,rfl,hb⟩,rfl⟩:=hr2
 cases b with
 | true=>
  have hof:0≤p.preds[i].of'∧p.preds[i].of'<p.lats.length:=by
   have h1:=ho.hof
   have:p.preds[i].of'≠ -1:=by simpa using hb.symm
   omega
  have hol:p.preds[i].of'.toNat<p.lats.length:=by omega
  have hy:=zG (f:=La.c) [] hol
  have hlo:=hp.l _ (List.getElem_mem hol)
  have ho0:(0≤p.preds[i].of')=True:=eq_true (by omega)
  have ho1:(p.preds[i].of'<(p.lats.length:Int))=True:=eq_true (by omega)
  refine gf (a9 @rU @sB @qK @rN @hx @hpi @hpl @hpt (a5 @hi @hy @hol @ho0 @ho1)) ?_
  (refine zF rfl rfl rfl ?_;intro sr hsr;simp only [go_sem,rU,sB,qK,rN,hx,hpi,hpl,hpt,hi,hy,hol,ho0,ho1] at hsr;subst hsr;refine xR rfl rfl ((qJ _ hlo).call zK (by simp [zJ]) _) (by rintro _ _ ⟨_,rfl⟩ _ _ _;rfl) ?_;intro p2 h2 hr2 ts2 hts;simp only [go_sem] at hts;subst hts)
  obtain ⟨⟨e,rfl, -⟩,rfl⟩:=hr2
  refine gf (a9 @rU @sB @qK @rN @hx @hpi @hpl @hpt (a5 @hi @hy @hol @ho0 @ho1)) ?_
  (refine zF rfl rfl rfl ?_;intro zs zh;simp only [go_sem,rU,sB,qK,rN,hx,hpi,hpl,hpt,hi,hy,hol,ho0,ho1] at zh;subst zh;refine zP (by decide) (by decide) (zb8 p hp N (by omega) d hd q rq lq _ (hD.app _) o i hi hoi hof (by rw [ho.hal];exact ho.htl) ho.hs e) ?_;intro p2 h2 hr2 ts2 hts;simp only [go_sem] at hts;subst hts)
  obtain ⟨rfl,ha⟩:=hr2
  refine ge ?_
  obtain ⟨⟨d',e1,e2⟩,e3⟩:=ha.of_app
  exact ⟨rfl,⟨d',⟨e1.rl,e1.ll,fun j a b=>⟨by have:=(e1.r j a b).1;omega,(e1.r j a b).2⟩,fun j a=>⟨by have:=(e1.l j a).1;omega,(e1.l j a).2⟩⟩,e2⟩,e3⟩
 |false=>
  have hir:i<d.rels.length:=by rw [hd.rl];exact hi
  obtain ⟨hz1,hz2⟩:=hd.r i hi hir
  have htA: ∀ l:List Blk,(h++l)[q]? =some (.var 44 [.ms rq 0 1 d.rels.length,.ms lq 0 1 d.lats.length]):=fun l=>yJ _ _ _ _ hD.t
  have hrA: ∀ l:List Blk,(h++l)[rq]? =some (.var 70 (d.rels.map uN)):=fun l=>yJ _ _ _ _ hD.r
  have hrl:rq<h.length:=(gsi hD.r).1
  have hsA: ∀ (l:List Blk) (b:Blk),(h++l).set rq b=h.set rq b++l:=fun l b=>List.set_append_left _ _ hrl
  have hd0:=yU uN d.rels i .un hir
  have hsp: ∀ v,(d.rels.map uN).take i++uN v::(d.rels.map uN).drop (i+1)=(d.rels.set i v).map uN:=fun v=>wY uN d.rels i v hir
  have hpd:(o.pred<(d.rels.length:Int))=True:=eq_true (by omega)
  have fin:=fun (z:List Rw) (h1:z.length≤2*N+1) (h2: ∀ x∈z,x.args.length=p.preds[i].types.length∧x.ls) (B:Heap)=>Act.rels (i:=i) hd hD (by omega:N≤2*N+1) hi h1 h2 B
  have hls:=ho.ls
  have hal:=ho.hal
  generalize hz:d.rels[i]=z at*
  generalize p.preds[i]=x at*
  (repeat (first|refine gz ?_|(refine gn ?_;intro zs zh;(try simp only [go_sem,htA,hrA,hsA,rU,sB,qK,rN,hpi,hpl,hpt,hpd,hi,hir,hd0] at zh);subst zh;refine gv ?_)|refine yD UBas5f54.pp ?_))
  (refine zF rfl rfl rfl ?_;intro sr hsr;simp only [go_sem,htA,hrA,hsA,rU,sB,qK,rN,hpi,hpl,hpt,hpd,hi,hir,hd0] at hsr;subst hsr;refine vP rfl (((gT z o.args [o.span] (by omega) (fun y hy=>(hz2 y hy).2) hls).args (.cons (PLe.refl _) (.cons (PLe.refl _) (.cons (PLe.tc_ts 2 _) .nil))))) (by simp [zJ,oM]) ?_;intro p2 hr2 ts2 hts;simp only [go_sem] at hts;subst hts)
  obtain ⟨z',rfl,c1,c2⟩:=hr2
  (repeat (first|refine gz ?_|(refine gn ?_;intro zs zh;(try simp only [go_sem,htA,hrA,hsA,rU,sB,qK,rN,hpi,hpl,hpt,hpd,hi,hir,hd0,hsp] at zh);subst zh;refine gv ?_)|refine yD UBas5f54.pp ?_))
  exact ⟨rfl,fin z' (by simp at c1;omega) (CombR.ls ⟨c1,c2⟩ hz2 (fun y hy=>by rw [List.mem_singleton] at hy;subst hy;exact ⟨hal,hls⟩)) _⟩
end Go.AL
