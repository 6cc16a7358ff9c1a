/-
  Base data: operations, to the letter.
-/
import Derived.Test.YtfjkncfjclifoaaGreatDoorZ44
set_option linter.unusedSimpArgs false
set_option linter.unusedVariables false
set_option maxRecDepth 100000
set_option maxHeartbeats 4000000
namespace Go.AL
open Go.Proofs Go.Proofs.Tryz
noncomputable def pP (p:Pg) (r:Rp) (c:Int):Dt×Int:=match zh8 p r with
 |none=>(znO,1)
 |some l=>if c< -1∨(r.cs.length:Int)≤c then (znO,1) else (zcI p l c,0)
theorem yF (p:Pg) (hp:p.ok) (hle:p.sm) (ha:AppP p) (r:Rp) (hr:r.sz) (c:Int):
  EPure prog G0 14 [.agg p.c,.agg r.c,i64 c] fun v=>v= .tup [.agg (pP p r c).1.c,i64 (pP p r c).2]:=by
 refine ECall.cutW (R:=fun v h=>((pP p r c).1=znO∧v= .tup [.agg [.nil,.nil],i64 (pP p r c).2])∨v= .tup [.agg (pP p r c).1.c,i64 (pP p r c).2]) (pv func14 34 false (by kernel_rfl) rfl rfl ?_) ?_
 refine g2 ?_
 ·obtain ⟨a,hst⟩:=cL (zh8 p r)
  have hck:=fL p hp hle ha r hr
  rw [hst] at hck
  refine ge ?_
  (refine g1 ?_;refine zC (hck.call zK (by simp [zJ]) _) ?_;intro p2 h2 hr2;refine g2 ?_)
  obtain ⟨rfl,rfl⟩:=hr2
  cases hc:zh8 p r with
  |none=>
   have hE:pP p r c=(znO,1):=by unfold pP;rw [hc]
   rw [hE]
   refine ge ?_
   exact .inl ⟨rfl,rfl⟩
  | some l=>
   obtain ⟨hb,hsl,hll⟩:=zb7 hc
   have hpl:=zlK hp hle hb.2.2.2.1
   have ha':a=dts l:=by rw [hc] at hst;simp only [znW] at hst;injection hst with h;injection h with h _;exact h.symm
   subst ha'
   have hE:pP p r c=if c< -1∨(r.cs.length:Int)≤c then (znO,1) else (zcI p l c,0):=by unfold pP;rw [hc]
   by_cases h1:c< -1
   ·have e1:decide (c< -1)=true:=by simp [h1]
    rw [if_pos (.inl h1)] at hE
    rw [hE]
    refine gf @e1 ?_
    exact .inl ⟨rfl,rfl⟩
   have e1:decide (c< -1)=false:=by simp [h1]
   by_cases h2:(r.cs.length:Int)≤c
   ·have e2:decide ((r.cs.length:Int)≤c)=true:=by simp [h2]
    rw [if_pos (.inr h2)] at hE
    rw [hE]
    refine gf (a2 @e1 @e2) ?_
    exact .inl ⟨rfl,rfl⟩
   have e2:decide ((r.cs.length:Int)≤c)=false:=by simp [h2]
   rw [if_neg (by omega)] at hE
   rw [hE]
   refine gf (a2 @e1 @e2) ?_
   (refine g1f (a2 @e1 @e2) ?_;refine zC ((znT p hpl l c (by omega)).call zK (by simp [zJ]) _) ?_;intro p2 h2 hr2;refine g2 ?_)
   obtain ⟨rfl,rfl⟩:=hr2
   refine gf (a2 @e1 @e2) ?_
   exact .inr rfl
 ·have tbT: ∀ (x:Dt) (e:Int),Tree (.tup [.agg x.c,i64 e]):=fun x e=>yP 40 _ (show ([.agg x.c,i64 e].all (zU 39))=true by rw [List.all_cons,eH 33 x];rfl)
  rintro v h (⟨hE,rfl⟩|rfl)
  ·rw [hE]
   exact ⟨.tup [.agg znO.c,i64 (pP p r c).2],by rw [zhM];exact PLes.tup (.cons (PLes.agg (.cons (PLe.nil_ts 1) (.cons (PLe.nil_ts 1) .nil))) (.cons (PLe.refl _) .nil)),rfl,tbT _ _⟩
  ·exact ⟨_,by rw [vE 0 h 40 _ (by show ([.agg (pP p r c).1.c,i64 (pP p r c).2].all (zU 39))=true;rw [List.all_cons,eH 33 _];rfl)];exact PLe.refl _,rfl,tbT _ _⟩
end Go.AL
namespace Go.AL
open Go.Proofs Go.Proofs.Tryz
@[go_sem] def UFrkf20.pl:Nat→DPlan
 |9=>⟨[yA,yB,yA,yA,yA,yA,yA,yB,yA,yA,yA,yB,yA,yA,yC,yA,yC],wR,0⟩
 |_=>⟨[],[],0⟩
def ForkN (r:Rp) (fr name:BA) (x:Rp):Prop:=ForkK r fr name x∧nmF name=true
open UFrkf20 in
theorem pN (r:Rp) (hbl:r.bs.length≤1099511627776) (fr name:BA) (hn:name.size≤140737488355328):
  EPure prog G0 20 [.agg r.c,yQ fr,yQ name] fun v=> ∃ (x:Rp) (e:Int),v= .tup [.agg x.c,i64 e]∧(e=0→ForkN r fr name x):=by
 refine ECall.cutW (R:=fun v h=>(∃ e:Int,v= .tup [.agg [.nil,.nil],i64 e]∧e≠0)∨ ∃ (x:Rp) (q:Nat),v= .tup [.agg [.ts 3 (x.cs.map Co.c),.vec q 2 (x.bs.map Br.c)],i64 0]∧ForkN r fr name x) (pv func20 54 false (by kernel_rfl) rfl rfl ?_) ?_
 refine g2 ?_
 ·refine ge ?_
  (refine g1 ?_;refine zC ((mR r (by omega) fr).call zK (by simp [zJ]) _) ?_;intro p2 h2 hr2;refine g2 ?_)
  obtain ⟨rfl,rfl⟩:=hr2
  obtain ⟨i1,i2⟩:=zbT (kN fr) r.bs
  have hpos:= @eQ Br (kN fr) r.bs
  generalize hi:rV (kN fr) r.bs=ix at*
  refine ge ?_
  (refine g1 ?_;refine zC ((zqG name hn).call zK (by simp) _) ?_;intro p2 h2 hr2;refine g2 ?_)
  obtain ⟨rfl,rfl⟩:=hr2
  cases hb:nmF name with
  |false=>
   refine ge ?_
   exact .inl ⟨_,rfl,by decide⟩
  | true=>
   refine ge ?_
   by_cases h0:ix<0
   ·have e0:decide (ix<0)=true:=by simp [h0]
    refine gf @e0 ?_
    exact .inl ⟨_,rfl,by decide⟩
   ·have e0:decide (ix<0)=false:=by simp;omega
    obtain ⟨i,rfl⟩:=Int.eq_ofNat_of_zero_le (show 0≤ix by omega)
    obtain ⟨hil, -⟩:=hpos rfl
    refine gf @e0 ?_
    (refine g1f @e0 ?_;refine zC ((mR r (by omega) name).call zK (by simp [zJ]) _) ?_;intro p2 h2 hr2;refine g2 ?_)
    obtain ⟨rfl,rfl⟩:=hr2
    by_cases h1:0≤rV (kN name) r.bs
    ·have e1:decide (0≤rV (kN name) r.bs)=true:=by simp [h1]
     refine gf (a2 @e0 @e1) ?_
     exact .inl ⟨_,rfl,by decide⟩
    ·have e1:decide (0≤rV (kN name) r.bs)=false:=by simp;omega
     by_cases h2:12≤r.bs.length
     ·have e2:decide ((12:Int)≤(r.bs.length:Int))=true:=by simp;omega
      refine gf (a3 @e0 @e1 @e2) ?_
      exact .inl ⟨_,rfl,by decide⟩
     ·have e2:decide ((12:Int)≤(r.bs.length:Int))=false:=by simp;omega
      have hx:=zG (f:=Br.c) [] hil
      have ht:List.take r.bs.length (r.bs.map Br.c)=r.bs.map Br.c:=List.take_of_length_le (by simp)
      have hq:(r.bs.length+1)*24≤140737488355328:=by omega
      have hq2:r.bs.length≤140737488355327:=by omega
      refine gf (a9 @e0 @e1 @e2 @hil @hx @zB @ht @hq @hq2) ?_
      exact .inr ⟨⟨r.cs,r.bs++[⟨name,r.bs[i].last⟩]⟩,2,by rw [List.map_append];rfl,⟨i,hil,hi,by omega,by omega,rfl⟩,hb⟩
 ·rintro p h (⟨e,rfl,he⟩|⟨x,q,rfl,hx⟩)
  ·exact ⟨.tup [.agg (Rp.mk [] []).c,i64 e],by rw [zhM];exact PLes.tup (.cons zbJ (.cons (PLe.refl _) .nil)),⟨_,e,rfl,fun h=>absurd h he⟩,yP 40 _ rfl⟩
  ·exact ⟨.tup [.agg x.c,i64 0],by rw [fz_rp];exact PLe.refl _,⟨x,0,rfl,fun _=>hx⟩,yP 40 _ (by have:=zk7 32 x;simp only [zU,List.all_cons,List.all_nil,Bool.and_true] at this ⊢;exact this)⟩
structure FrkP (p:Pg) (r:Rp) (l:List Dt) (k:Nat) (name:BA) (x:Rp):Prop where
 sz:x.sz
 cs:x.cs=r.cs
 len:x.bs.length=r.bs.length+1
 nm:x.bs.map (·.name)=r.bs.map (·.name)++[name]
 bn: ∀ h:r.bs.length<x.bs.length,x.bs[r.bs.length]=⟨name,(r.bs.getD k ⟨name, -1⟩).last⟩
 bk: ∀ (j:Nat) (h:j<x.bs.length) (h':j<r.bs.length),x.bs[j]=r.bs[j]
 ixn:rV (kN name) x.bs=(r.bs.length:Nat)
 ixk: ∀ (h:k<r.bs.length),rV (kN r.bs[k].name) x.bs=k
 ch:zh8 p x=some l
theorem tD {p:Pg} {r:Rp} (hr:r.sz) {l:List Dt} (hc:zh8 p r=some l) {k:Nat} (hk:k<r.bs.length) {name:BA} (hname:name.size≤140737488355328) {x:Rp} (h:ForkN r r.bs[k].name name x):FrkP p r l k name x:=by
 obtain ⟨⟨i,hi,h1,h2,h3,rfl⟩,hnm⟩:=h
 obtain ⟨hb,hst,hll⟩:=zb7 hc
 obtain ⟨hix,hl1,hl2⟩:=zgK hb hk
 have:i=k:=by omega
 subst this
 have hgk:(r.bs.getD i ⟨name, -1⟩)=r.bs[i]:=by rw [List.getD_eq_getElem?_getD,List.getElem?_eq_getElem hk];rfl
 refine ⟨⟨hr.cl,hr.c,by simp;omega,fun b hb=> ?_⟩,rfl,by simp,by simp,fun h=> ?_,fun j h h'=>List.getElem_append_left h',?_,fun h=> ?_,tC hc hk h2 h3 hnm⟩
 ·rcases List.mem_append.1 hb with hb|hb
  ·exact hr.b b hb
  ·rw [List.mem_singleton] at hb;subst hb;exact hname
 ·rw [hgk];simp
 ·rw [lQ] at h2 ⊢
  rw [List.map_append,List.map_cons,List.map_nil,zbU _ (by simp) h2];simp
 ·rw [lQ] at hix ⊢
  rw [List.map_append,List.map_cons,List.map_nil,zbX _ (by omega)];exact hix
structure ComP (p:Pg) (x:Rp) (l:List Dt) (i:Nat) (d:Dt) (y:Rp):Prop where
 sz:y.sz
 len:y.bs.length=x.bs.length
 nm:y.bs.map (·.name)=x.bs.map (·.name)
 at': ∀ h:i<y.bs.length,y.bs[i].last=x.cs.length
 ne: ∀ (j:Nat) (h:j<y.bs.length) (h':j<x.bs.length),j≠i→y.bs[j].last=x.bs[j].last
 cl:y.cs.length=x.cs.length+1
 ch:zh8 p y=some (l++[d])
theorem yZ {p:Pg} {x:Rp} (hx:x.sz) {l:List Dt} (hc:zh8 p x=some l) {br:BA} {ops:List Op1} (ho:OpsG ops) {i:Nat} (hi:i<x.bs.length) (hix:rV (kN br) x.bs=i) (he:zh7 p x br ops=0) {y:Rp} {n:Int} (h:CommitK x br ops y n):ComP p x l i (zk4 p (zcI p l x.bs[i].last) ops).1 y∧n=x.cs.length:=by
 obtain ⟨j,hj,h1,rfl,rfl⟩:=h
 have:j=i:=by omega
 subst this
 obtain ⟨h200, -,hch⟩:=sU hc hi hix he
 refine ⟨⟨⟨by simp;omega,fun c hc=> ?_,by simp;exact hx.bl,fun b hb=> ?_⟩,by simp,zdH _ _ hi _,fun h=>by simp,fun m h h' hm=> ?_,by simp,hch⟩,rfl⟩
 ·rcases List.mem_append.1 hc with hc|hc
  ·exact hx.c c hc
  ·rw [List.mem_singleton] at hc;subst hc;exact ho
 ·rcases List.mem_or_eq_of_mem_set hb with hb|rfl
  ·exact hx.b b hb
  ·have e:=hx.b _ (List.getElem_mem hi)
   unfold Br.ok at e ⊢;exact e
 ·dsimp only
  rw [List.getElem_set,if_neg (fun e=>hm e.symm)]
theorem yL {p:Pg} {r:Rp} {l:List Dt} (hc:zh8 p r=some l) {c:Int} (h: -1≤c∧c<r.cs.length):pP p r c=(zcI p l c,0):=by
 unfold pP
 rw [hc];dsimp only
 rw [if_neg (by omega)]
theorem wP {p:Pg} (hp:p.ok) (hle:p.sm) (ha:AppP p) {r:Rp} (hr:r.sz) {l:List Dt} (hc:zh8 p r=some l) (c:Int):(zcI p l c).sz:=by
 obtain ⟨hb,hst, -⟩:=zb7 hc
 have hpl:=zlK hp hle hb.2.2.2.1
 exact za5 hpl (zhD hpl ha r.cs hr.c (by simp) hst) c
end Go.AL
namespace Go.AL
open Go.Proofs Go.Proofs.Tryz
@[go_sem] def UBsx5f53.pp:Nat→DPlan
 |1=>⟨[yA,yA,yB,yA,yA,yB,yA,yB,yA,yA,yA,yA],xF,0⟩
 |9=>⟨[yA,yB,yA,yB,yA,yA,yA,yB,yB,yC],xS,0⟩
 |12=>⟨[yA,yA,yA,yB,yA,yA,yA,yA,uX,yA,yC],vJ,0⟩
 |_=>⟨[],[],0⟩
@[go_sem] def UBsx5f54.pp:Nat→DPlan
 |4=>⟨[yB,yA,yB,yA,yB,yA,yB,yA,yB,uX,yC],vJ,0⟩
 |5=>⟨[yA,yA,yA,yB,yA,yA,yA,yA,yB,yA,yA,yB,yA,yA,yB,yA,yB,yA,uX,yA,yC],pR,0⟩
 |_=>⟨[],[],0⟩
@[go_sem] def UBsx5f79.pp:Nat→DPlan
 |2=>⟨[yA,yA,yA,yB,yA,yA,yB,yA,yB,yA,yA,yA,yB,yA,yB,yA,yA,yA,yB,yA,yA,yB,yA,yA,yB,yA,yB,yA,uX,yA,yC],pQ,0⟩
 |_=>⟨[],[],0⟩
@[go_sem] def UBsx5f53.pl:Nat→DPlan
 |1=>⟨[yA,yA,yB,yA,yA,yB,yA,yB,yA,yA,yA,yA],xF,0⟩
 |9=>⟨[yA,yB,yA,yB,yA,yA,yA,yB,yB,yC],xS,0⟩
 |12=>⟨[yA,yA,yA,⟨7,0,[1001]⟩,yA,yA,yA,yA,⟨6,0,[1001]⟩,yA,yC],vJ,0⟩
 |_=>⟨[],[],0⟩
@[go_sem] def UBsx5f54.pl:Nat→DPlan
 |4=>⟨[⟨7,0,[1003]⟩,yA,⟨7,0,[1005]⟩,yA,yB,yA,yB,yA,yB,⟨6,0,[1003,1005]⟩,yC],vJ,0⟩
 |5=>⟨[yA,yA,yA,⟨7,0,[1001]⟩,yA,yA,yA,yA,yB,yA,yA,yB,yA,yA,yB,yA,yB,yA,⟨6,0,[1001]⟩,yA,yC],pR,0⟩
 |_=>⟨[],[],0⟩
structure ActX (d':Dt) (q rq lq:Nat) (h h':Heap):Prop where
 d:DataAt d' q rq lq h'
 k: ∀ (r:Nat) (b:Blk),r≠rq→r≠lq→h[r]? =some b→h'[r]? =some b
theorem ActX.of_app {d':Dt} {q rq lq:Nat} {h h' B:Heap} (a:ActX d' q rq lq (h++B) h'):ActX d' q rq lq h h':=⟨a.d,fun r b h1 h2 hb=>a.k r b h1 h2 (yJ _ _ _ _ hb)⟩
theorem ActX.lats {d:Dt} {q rq lq i:Nat} {h:Heap} (hD:DataAt d q rq lq h) (z:List LRw) (B:Heap):ActX ⟨d.rels,d.lats.set i z⟩ q rq lq h (h.set lq (.var 96 ((d.lats.set i z).map vD))++B):=by
 obtain ⟨n1,n2,n3⟩:=hD.ne
 have hl:=(gsi hD.l).1
 have keep: ∀ (r:Nat) (b:Blk),r≠lq→h[r]? =some b→(h.set lq (.var 96 ((d.lats.set i z).map vD))++B)[r]? =some b:=fun r b hr hb=>by
  rw [List.getElem?_append_left (by rw [List.length_set];exact (gsi hb).1),List.getElem?_set_ne (Ne.symm hr)];exact hb
 refine ⟨⟨by simpa using keep q _ n2 hD.t,keep rq _ n3 hD.r,?_⟩,fun r b _ hr hb=>keep r b hr hb⟩
 rw [List.getElem?_append_left (by rw [List.length_set];exact hl),List.getElem?_set_self hl]
theorem ActX.rels {d:Dt} {q rq lq i:Nat} {h:Heap} (hD:DataAt d q rq lq h) (z:List Rw) (B:Heap):ActX ⟨d.rels.set i z,d.lats⟩ q rq lq h (h.set rq (.var 70 ((d.rels.set i z).map uN))++B):=by
 obtain ⟨n1,n2,n3⟩:=hD.ne
 have hl:=(gsi hD.r).1
 have keep: ∀ (r:Nat) (b:Blk),r≠rq→h[r]? =some b→(h.set rq (.var 70 ((d.rels.set i z).map uN))++B)[r]? =some b:=fun r b hr hb=>by
  rw [List.getElem?_append_left (by rw [List.length_set];exact (gsi hb).1),List.getElem?_set_ne (Ne.symm hr)];exact hb
 refine ⟨⟨by simpa using keep q _ n1 hD.t,?_,keep lq _ (Ne.symm n3) hD.l⟩,fun r b hr _ hb=>keep r b hr hb⟩
 rw [List.getElem?_append_left (by rw [List.length_set];exact hl),List.getElem?_set_self hl]
theorem zqL (p:Pg) (hp:p.ok) (N:Nat) (hN:N≤68719476736) (d:Dt) (hd:DtS p N d) (q rq lq:Nat) (h:Heap) (hD:DataAt d q rq lq h) (o:Op1) (i:Nat) (hi:i<p.preds.length) (hoi:o.pred=i) (hof:0≤p.preds[i].of'∧p.preds[i].of'<p.lats.length) (hol:p.preds[i].of'.toNat<p.lats.length) (hil:i<d.lats.length) (hck:uE p.lats[p.preds[i].of'.toNat]=0) (hal:o.args.length≤1048576) (hs: ∀ a∈o.args,a.s.size≤16) (e:Int):
  ECall prog G0 79 [.agg p.c,.ptr q 0,.agg o.c,i64 e] h fun v h'=>v= .tup []∧ActX ⟨d.rels,d.lats.set i (uY (oU p.lats[p.preds[i].of'.toNat]) (za9 p.lats[p.preds[i].of'.toNat] (xU p.lats[p.preds[i].of'.toNat] d.lats[i]) o.args o.span.a o.span.b e))⟩ q rq lq h h':=by
 refine pv func79 42 false (by kernel_rfl) rfl rfl ?_
 refine g2 ?_
 have htA: ∀ l:List Blk,(h++l)[q]? =some (.var 44 [.ms rq 0 1 d.rels.length,.ms lq 0 1 d.lats.length]):=fun l=>yJ _ _ _ _ hD.t
 have hlA: ∀ l:List Blk,(h++l)[lq]? =some (.var 96 (d.lats.map vD)):=fun l=>yJ _ _ _ _ hD.l
 have hll:lq<h.length:=(gsi hD.l).1
 have hsA: ∀ (l:List Blk) (b:Blk),(h++l).set lq b=h.set lq b++l:=fun l b=>List.set_append_left _ _ hll
 have hx:=zG (f:=Pd.c) [] hi
 obtain ⟨hz1,hz2⟩:=hd.l i hil
 have hy:=zG (f:=La.c) [] hol
 have hlo:=hp.l _ (List.getElem_mem hol)
 have fin:=fun (z:List LRw) (B:Heap)=>ActX.lats (i:=i) hD z B
 generalize p.lats[p.preds[i].of'.toNat]=lt at*
 generalize p.preds[i]=x at*
 have hd0:=yU vD d.lats i .un hil
 have hsp: ∀ v,(d.lats.map vD).take i++vD v::(d.lats.map vD).drop (i+1)=(d.lats.set i v).map vD:=fun v=>wY vD d.lats i v hil
 generalize hz:d.lats[i]=z at*
 have hpi:(0≤o.pred)=True:=eq_true (by omega)
 have hpl:(o.pred<(p.preds.length:Int))=True:=eq_true (by omega)
 have hpt:o.pred.toNat=i:=by omega
 have hpd:(o.pred<(d.lats.length:Int))=True:=eq_true (by omega)
 have ho0:(0≤x.of')=True:=eq_true (by omega)
 have ho1:(x.of'<(p.lats.length:Int))=True:=eq_true (by omega)
 (repeat (first|refine gz ?_|(refine gn ?_;intro zs zh;(try simp only [go_sem,htA,hlA,hsA,rU,sB,qK,rN,hx,hy,hpi,hpl,hpt,hpd,hd0,hol,hil,ho0,ho1] at zh);subst zh;refine gv ?_)|refine yD UBsx5f79.pp ?_))
 (refine zF rfl rfl rfl ?_;intro sr hsr;simp only [go_sem,htA,hlA,hsA,rU,sB,qK,rN,hx,hy,hpi,hpl,hpt,hpd,hd0,hol,hil,ho0,ho1] at hsr;subst hsr;refine vP rfl (zrW lt hlo hck z (by omega) hz2 o.args hal hs o.span.a o.span.b e) (by simp [zJ]) ?_;intro p2 hr2 ts2 hts;simp only [go_sem] at hts;subst hts)
 subst hr2
 (repeat (first|refine gz ?_|(refine gn ?_;intro zs zh;(try simp only [go_sem,htA,hlA,hsA,rU,sB,qK,rN,hx,hy,hpi,hpl,hpt,hpd,hd0,hol,hil,ho0,ho1,hsp] at zh);subst zh;refine gv ?_)|refine yD UBsx5f79.pp ?_))
 exact ⟨rfl,fin _ _⟩
theorem zpK (k:Nat) (args:List Vl) (s:Sp) (z:List Rw) {j:Nat} (hj:j<z.length) (r:List Rw):wM k args s (z.take (j+1)) r=if z[j].args.take k=args.take k then dP (wM k args s (z.take j) r) z[j].args s else wM k args s (z.take j) r:=by
 unfold wM
 rw [List.take_succ_eq_append_getElem hj,List.foldl_append,List.foldl_cons,List.foldl_nil]
theorem RelX.kill {ty:List Int} {z:List Rw} (h:RelX ty z) (k:Nat) (args:List Vl) {s:Sp} (hs:s.good) (w:List Rw) (hw: ∀ x∈w,x∈z):RelX ty (wM k args s w z):=by
 obtain ⟨c1, -,c3⟩:=pM (k:=k) (args:=args) hs w z h.1
 refine ⟨c1,fun x hx=> ?_⟩
 obtain ⟨y,hy,e⟩:=c3 x hx
 rw [e]
 rcases List.mem_append.1 hy with q|q
 ·exact h.2 y (hw y q)
 ·exact h.2 y q
open UBsx5f53 in
theorem zrO (p:Pg) (hp:p.ok) (N:Nat) (hN:N≤17179869184) (d:Dt) (hd:DtS p N d) (hX:DatX p d) (q rq lq:Nat) (h:Heap) (hD:DataAt d q rq lq h) (o:Op1) (i:Nat) (ho:OpX p o i) (hk:o.kind=1):
  ECall prog G0 53 [.agg p.c,.ptr q 0,.agg o.c] h fun v h'=>v= .tup []∧ActX (zl0 p d o) q rq lq h h':=by
 refine pv func53 75 false (by kernel_rfl) rfl rfl ?_
 refine g2 ?_
 have hi:=ho.hi
 have hoi:=ho.hoi
 have hir:i<d.rels.length:=by rw [hd.rl];exact hi
 have hil:i<d.lats.length:=by rw [hd.ll];exact hi
 obtain ⟨-,hX2,hX3⟩:=hX.at' i hi hir hil
 have hx:=zG (f:=Pd.c) [] hi
 have hpi:(0≤o.pred)=True:=eq_true (by omega)
 have hpl:(o.pred<(p.preds.length:Int))=True:=eq_true (by omega)
 have hpt:o.pred.toNat=i:=by omega
 refine gf (a9 @rU @sB @qK @rN @hx @hpi @hpl @hpt @hi) ?_
 (refine g1f (a9 @rU @sB @qK @rN @hx @hpi @hpl @hpt @hi) ?_;refine zC ((lR p.preds[i]).call zK (by simp [zJ]) _) ?_;intro p2 h2 hr2;refine g2 ?_)
 obtain ⟨⟨b,rfl,hb⟩,rfl⟩:=hr2
 cases b with
 | true=>
  have hne:p.preds[i].of'≠ -1:=by simpa using hb.symm
  have hof:0≤p.preds[i].of'∧p.preds[i].of'<p.lats.length:=by
   have h1:=ho.hof
   omega
  have hol:p.preds[i].of'.toNat<p.lats.length:=by omega
  have hck:=((hX2 ho.b hne).2 hol).1
  have hal:o.args.length≤1048576:=by rw [ho.ax.1];exact ho.htl
  rw [zo8 hoi hi hil hne hol]
  unfold opL
  refine gf (a9 @rU @sB @qK @rN @hx @hpi @hpl @hpt @hi) ?_
  (refine g1f (a9 @rU @sB @qK @rN @hx @hpi @hpl @hpt @hi) ?_;refine zC (zqL p hp N (by omega) d hd q rq lq _ (hD.app _) o i hi hoi hof hol hil hck hal ho.ax.sz o.elem) ?_;intro p2 h2 hr2;refine g2 ?_)
  obtain ⟨rfl,ha⟩:=hr2
  refine ge ?_
  exact ⟨rfl,by rw [if_pos hk];exact ha.of_app⟩
 | false=>
  have hne:p.preds[i].of'= -1:=by simpa using hb.symm
  obtain ⟨-,hRX, -⟩:=hX3 ho.b hne
  rw [zo7 hoi hi hir hne]
  obtain ⟨hz1,hz2⟩:=hd.r i hi hir
  have htA: ∀ l:List Blk,(h++l)[q]? =some (.var 44 [.ms rq 0 1 d.rels.length,.ms lq 0 1 d.lats.length]):=fun l=>yJ _ _ _ _ hD.t
  have hrA: ∀ l:List Blk,(h++l)[rq]? =some (.var 70 (d.rels.map uN)):=fun l=>yJ _ _ _ _ hD.r
  have hrl:rq<h.length:=(gsi hD.r).1
  have hsA: ∀ (l:List Blk) (b:Blk),(h++l).set rq b=h.set rq b++l:=fun l b=>List.set_append_left _ _ hrl
  have hd0:=yU uN d.rels i .un hir
  have hsp: ∀ v,(d.rels.map uN).take i++uN v::(d.rels.map uN).drop (i+1)=(d.rels.set i v).map uN:=fun v=>wY uN d.rels i v hir
  have hpd:(o.pred<(d.rels.length:Int))=True:=eq_true (by omega)
  have fin:=fun (z:List Rw) (B:Heap)=>ActX.rels (i:=i) hD z B
  have htl:=ho.htl
  have hsg:=ho.s
  have hls:=ho.ls
  have hal:=ho.ax.1
  have k0:=ho.k0
  have k1:=ho.k1
  unfold opR
  rw [if_pos hk]
  unfold bA
  generalize hz:d.rels[i]=z at*
  generalize p.preds[i]=x at*
  obtain ⟨k,hk'⟩:=Int.eq_ofNat_of_zero_le k0
  have hkn:x.key.toNat=k:=by omega
  rw [hkn]
  have rl:=fun (w:List Rw) (hw: ∀ x∈w,x∈z)=>hRX.kill k o.args hsg w hw
  have rn:=fun (w:List Rw)=>jK k o.args o.span w z
  have ak:=fun (j:Nat) (hj:j<z.length)=>zpK k o.args o.span z hj z
  refine gf (a9 @htA @hrA @rU @sB @qK @rN @hx @hpi (a6 @hpl @hpt @hpd @hi @hd0 @hir)) ?_
  have hcA: ∀ l:List Blk,(h++(.var 27 p.c:: .var 84 o.c:: .var 105 x.c::l))[h.length+2]? =some (.var 105 x.c):=fun l=>(sB h _ 2).trans rfl
  refine zO z.length (K9 (.k:: .v:: .k:: .d::K9 (K9 (K9 (K4 (.k:: .v::D9 (D9 (.d::K9 (.k::[]))))))))) (own:=false) (fun j (s:List Rw×Heap)=>[uN s.1,i64 j]) (fun s=>h++(.var 27 p.c:: .var 84 o.c:: .var 105 x.c::s.2)) (fun j s=>s.1=wM k o.args o.span (z.take j) z) (z,[]) rfl rfl rfl (by omega) ?_ ?_
  ·rintro ⟨r,J⟩ hR t ht
   dsimp only at hR
   rw [List.take_length] at hR
   subst hR
   have hR2:=(rl z fun _ h=>h)
   have hR1:=rn z
   simp only [zY] at ht;subst ht
   generalize wM k o.args o.span z z=r at*
   (repeat (first|refine gz ?_|(refine gn ?_;intro zs zh;(try simp only [go_sem,zM,htA,hrA,hsA,hpi,hpl,hpt,hpd,hi,hir,hd0] at zh);subst zh;refine gv ?_)|refine yD UBsx5f53.pp ?_))
   (refine zF rfl rfl rfl ?_;intro sr hsr;simp only [go_sem,htA,hrA,hsA,hpi,hpl,hpt,hpd,hi,hir,hd0] at hsr;subst hsr;refine vP rfl (((zp2 r o.args o.span (by omega) (fun y hy=>(hR2.ls htl y hy).2) hR2.1 hls hsg).args (.cons (PLe.refl _) (.cons (PLe.refl _) (.cons (PLe.tc_ts 2 _) .nil))))) (by simp [zJ,oM]) ?_;intro p2 hr2 ts2 hts;simp only [go_sem] at hts;subst hts)
   subst hr2
   (repeat (first|refine gz ?_|(refine gn ?_;intro zs zh;(try simp only [go_sem,htA,hrA,hsA,hpi,hpl,hpt,hpd,hi,hir,hd0,hsp] at zh);subst zh;refine gv ?_)|refine yD UBsx5f53.pp ?_))
   exact ⟨rfl,fin _ _⟩
  ·rintro j ⟨r,J⟩ hj hw hR t ht
   dsimp only at hR
   have hR2:=(rl (z.take j) fun _ h=>List.mem_of_mem_take h)
   have hR1:=rn (z.take j)
   have hsk:=ak j hj
   rw [List.length_take] at hR1
   rw [←hR] at hR1 hR2 hsk
   clear hR
   simp only [zY] at ht;subst ht
   have hy:=zG (f:=Rw.c) [] hj
   have hyk:=hz2 _ (List.getElem_mem hj)
   generalize z[j]=y at*
   have hb: ∀ l:List Blk,(h++(.var 27 p.c:: .var 84 o.c:: .var 105 x.c::(J++l)))[h.length+(J.length+1+1+1)]? =l[0]? :=fun l=>by rw [sB];exact rU J l
   have hsb: ∀ (l:List Blk) (b:Blk),(h++(.var 27 p.c:: .var 84 o.c:: .var 105 x.c::(J++l))).set (h.length+(J.length+1+1+1)) b=h++(.var 27 p.c:: .var 84 o.c:: .var 105 x.c::(J++l.set 0 b)):=fun l b=>by
    rw [rN, ←qK J l b];rfl
   have e1:((k:Int)≤(y.args.length:Int))=True:=eq_true (by omega)
   have e2:((k:Int)≤(o.args.length:Int))=True:=eq_true (by omega)
   (repeat (first|refine gz ?_|(refine gn ?_;intro zs zh;(try simp only [go_sem,hj,hy,zB,hw,hcA,hb,hsb,hk',e1,e2,xO] at zh);subst zh;refine gv ?_)|refine yD UBsx5f53.pl ?_))
   (refine zF rfl rfl rfl ?_;intro zs zh;simp only [go_sem,hj,hy,zB,hw,hcA,hb,hsb,hk',e1,e2,xO] at zh;subst zh;refine zP (by decide) (by decide) ((zjE (y.args.take k) (o.args.take k) (by rw [List.length_take];have:=hls.al;have:=hyk.2.al;omega)).call zK (by simp) _) ?_;intro p2 h2 hr2 ts2 hts;simp only [go_sem] at hts;subst hts)
   obtain ⟨rfl,rfl⟩:=hr2
   by_cases hyo:y.args.take k=o.args.take k
   case neg=>
    rw [if_neg hyo] at hsk
    rw [decide_eq_false hyo]
    (repeat (first|refine gz ?_|(refine gn ?_;intro zs zh;(try simp only [go_sem,hj,hy,zB,hw,hcA,hb,hsb,hk',e1,e2,xO] at zh);subst zh;refine gv ?_)|refine yD UBsx5f53.pl ?_))
    exact ⟨(r,J++[.var 76 y.c]),hsk.symm,rfl,rfl,rfl⟩
   case pos=>
    rw [if_pos hyo] at hsk
    rw [decide_eq_true hyo]
    (repeat (first|refine gz ?_|(refine gn ?_;intro zs zh;(try simp only [go_sem,hj,hy,zB,hw,hcA,hb,hsb,hk',e1,e2,xO] at zh);subst zh;refine gv ?_)|refine yD UBsx5f53.pl ?_))
    (refine ns ?_;intro zs zh;simp only [go_sem,hj,hy,zB,hw,hcA,hb,hsb,hk',e1,e2,xO] at zh;subst zh;refine zC (((znZ r y.args o.span (by omega) (fun z hz=>(hR2.ls htl z hz).2) hR2.1 ⟨hyk.2.al,hyk.2.a,by simp⟩ hsg).call zK (by simp) _).args (.cons (PLe.refl _) (.cons (PLe.refl _) (.cons (PLe.tc_ts 2 _) .nil)))) ?_;intro p2 h2 hr2 ts2 hts;simp only [go_sem] at hts;subst hts)
    obtain ⟨rfl,rfl⟩:=hr2
    (repeat (first|refine gz ?_|(refine gn ?_;intro zs zh;(try simp only [go_sem,hj,hy,zB,hw,hcA,hb,hsb,hk',e1,e2,xO] at zh);subst zh;refine gv ?_)|refine yD UBsx5f53.pl ?_))
    exact ⟨(dP r y.args o.span,J++[.var 76 y.c]),hsk.symm,rfl,rfl,rfl⟩
attribute [-go_sem] only
open UBsx5f54 in
theorem zp6 (p:Pg) (hp:p.ok) (N:Nat) (hN:N≤17179869184) (d:Dt) (hd:DtS p N d) (hX:DatX p d) (q rq lq:Nat) (h:Heap) (hD:DataAt d q rq lq h) (o:Op1) (i:Nat) (ho:OpX p o i) (hk:o.kind=2):
  ECall prog G0 54 [.agg p.c,.ptr q 0,.agg o.c] h fun v h'=>v= .tup []∧ActX (zl0 p d o) q rq lq h h':=by
 refine pv func54 49 false (by kernel_rfl) rfl rfl ?_
 refine g2 ?_
 have hi:=ho.hi
 have hoi:=ho.hoi
 have hir:i<d.rels.length:=by rw [hd.rl];exact hi
 have hil:i<d.lats.length:=by rw [hd.ll];exact hi
 obtain ⟨-,hX2,hX3⟩:=hX.at' i hi hir hil
 have hx:=zG (f:=Pd.c) [] hi
 have hpi:(0≤o.pred)=True:=eq_true (by omega)
 have hpl:(o.pred<(p.preds.length:Int))=True:=eq_true (by omega)
 have hpt:o.pred.toNat=i:=by omega
 refine gf (a9 @rU @sB @qK @rN @hx @hpi @hpl @hpt @hi) ?_
 (refine g1f (a9 @rU @sB @qK @rN @hx @hpi @hpl @hpt @hi) ?_;refine zC ((lR p.preds[i]).call zK (by simp [zJ]) _) ?_;intro p2 h2 hr2;refine g2 ?_)
 obtain ⟨⟨b,rfl,hb⟩,rfl⟩:=hr2
 cases b with
 | true=>
  have hne:p.preds[i].of'≠ -1:=by simpa using hb.symm
  have hof:0≤p.preds[i].of'∧p.preds[i].of'<p.lats.length:=by
   have h1:=ho.hof
   omega
  have hol:p.preds[i].of'.toNat<p.lats.length:=by omega
  have hck:=((hX2 ho.b hne).2 hol).1
  have hal:o.args.length≤1048576:=by rw [ho.ax.1];exact ho.htl
  rw [zo8 hoi hi hil hne hol]
  unfold opL
  have hy:=zG (f:=La.c) [] hol
  have hlo:=hp.l _ (List.getElem_mem hol)
  have ho0:(0≤p.preds[i].of')=True:=eq_true (by omega)
  have ho1:(p.preds[i].of'<(p.lats.length:Int))=True:=eq_true (by omega)
  refine gf (a9 @rU @sB @qK @rN @hx @hpi @hpl @hpt (a5 @hi @hy @hol @ho0 @ho1)) ?_
  (refine zF rfl rfl rfl ?_;intro sr hsr;simp only [go_sem,rU,sB,qK,rN,hx,hpi,hpl,hpt,hi,hy,hol,ho0,ho1] at hsr;subst hsr;refine xR rfl rfl ((zj7 _ hlo).call zK (by simp [zJ]) _) (by rintro _ _ ⟨_,rfl⟩ _ _ _;rfl) ?_;intro p2 h2 hr2 ts2 hts;simp only [go_sem] at hts;subst hts)
  obtain ⟨rfl,rfl⟩:=hr2
  refine gf (a9 @rU @sB @qK @rN @hx @hpi @hpl @hpt (a5 @hi @hy @hol @ho0 @ho1)) ?_
  (refine zF rfl rfl rfl ?_;intro zs zh;simp only [go_sem,rU,sB,qK,rN,hx,hpi,hpl,hpt,hi,hy,hol,ho0,ho1] at zh;subst zh;refine zP (by decide) (by decide) (zqL p hp N (by omega) d hd q rq lq _ (hD.app _) o i hi hoi hof hol hil hck hal ho.ax.sz (oU p.lats[p.preds[i].of'.toNat])) ?_;intro p2 h2 hr2 ts2 hts;simp only [go_sem] at hts;subst hts)
  obtain ⟨rfl,ha⟩:=hr2
  refine ge ?_
  exact ⟨rfl,by rw [if_neg (by omega)];exact ha.of_app⟩
 |false=>
  have hne:p.preds[i].of'= -1:=by simpa using hb.symm
  obtain ⟨-,hRX, -⟩:=hX3 ho.b hne
  rw [zo7 hoi hi hir hne]
  obtain ⟨hz1,hz2⟩:=hd.r i hi hir
  have htA: ∀ l:List Blk,(h++l)[q]? =some (.var 44 [.ms rq 0 1 d.rels.length,.ms lq 0 1 d.lats.length]):=fun l=>yJ _ _ _ _ hD.t
  have hrA: ∀ l:List Blk,(h++l)[rq]? =some (.var 70 (d.rels.map uN)):=fun l=>yJ _ _ _ _ hD.r
  have hrl:rq<h.length:=(gsi hD.r).1
  have hsA: ∀ (l:List Blk) (b:Blk),(h++l).set rq b=h.set rq b++l:=fun l b=>List.set_append_left _ _ hrl
  have hd0:=yU uN d.rels i .un hir
  have hsp: ∀ v,(d.rels.map uN).take i++uN v::(d.rels.map uN).drop (i+1)=(d.rels.set i v).map uN:=fun v=>wY uN d.rels i v hir
  have hpd:(o.pred<(d.rels.length:Int))=True:=eq_true (by omega)
  have fin:=fun (z:List Rw) (B:Heap)=>ActX.rels (i:=i) hD z B
  have htl:=ho.htl
  have hsg:=ho.s
  have hls:=ho.ls
  have hal:=ho.ax.1
  unfold opR
  rw [if_neg (by omega)]
  generalize hz:d.rels[i]=z at*
  generalize p.preds[i]=x at*
  (repeat (first|refine gz ?_|(refine gn ?_;intro zs zh;(try simp only [go_sem,htA,hrA,hsA,rU,sB,qK,rN,hpi,hpl,hpt,hpd,hi,hir,hd0] at zh);subst zh;refine gv ?_)|refine yD UBsx5f54.pp ?_))
  (refine zF rfl rfl rfl ?_;intro sr hsr;simp only [go_sem,htA,hrA,hsA,rU,sB,qK,rN,hpi,hpl,hpt,hpd,hi,hir,hd0] at hsr;subst hsr;refine vP rfl (((znZ z o.args o.span (by omega) (fun y hy=>(hz2 y hy).2) hRX.1 hls hsg).args (.cons (PLe.refl _) (.cons (PLe.refl _) (.cons (PLe.tc_ts 2 _) .nil))))) (by simp [zJ,oM]) ?_;intro p2 hr2 ts2 hts;simp only [go_sem] at hts;subst hts)
  subst hr2
  (repeat (first|refine gz ?_|(refine gn ?_;intro zs zh;(try simp only [go_sem,htA,hrA,hsA,rU,sB,qK,rN,hpi,hpl,hpt,hpd,hi,hir,hd0,hsp] at zh);subst zh;refine gv ?_)|refine yD UBsx5f54.pp ?_))
  exact ⟨rfl,fin _ _⟩
end Go.AL
