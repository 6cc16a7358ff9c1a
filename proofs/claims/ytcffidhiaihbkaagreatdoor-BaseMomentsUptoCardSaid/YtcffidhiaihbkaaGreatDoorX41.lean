/-
  Branches: the states as of all commits, walked.
-/
import Derived.Test.YtcffidhiaihbkaaGreatDoorX40
set_option linter.unusedSimpArgs false
set_option linter.unusedVariables false
set_option maxRecDepth 100000
set_option maxHeartbeats 4000000
namespace Go.AL
open Go.Proofs Go.Proofs.Tryz
theorem lL {p:Pg} {o:Op1}:zsZ p o=0↔(o.kind=1∨o.kind=2)∧VfX p o.pred o.elem o.args∧(p.preds.getD o.pred.toNat pdZ).base=true∧o.span.good:=by
 unfold zsZ
 by_cases h1: ¬(o.kind=1∨o.kind=2)∨ ¬VfX p o.pred o.elem o.args
 ·rw [if_pos h1]
  exact ⟨fun h=>absurd h (by decide),fun h=>h1.elim (fun q=>absurd h.1 q) fun q=>absurd h.2.1 q⟩
 ·rw [if_neg h1]
  have hk:o.kind=1∨o.kind=2:=Classical.byContradiction fun q=>h1 (.inl q)
  have hv:VfX p o.pred o.elem o.args:=Classical.byContradiction fun q=>h1 (.inr q)
  cases hb:(p.preds.getD o.pred.toNat pdZ).base with
  |false=>
   rw [if_pos rfl]
   exact ⟨fun h=>absurd h (by decide),fun h=>Bool.noConfusion h.2.2.1⟩
  |true=>
   rw [if_neg (fun w=>Bool.noConfusion w)]
   by_cases hs:0≤o.span.a∧o.span.a<o.span.b∧o.span.b≤64
   ·rw [if_pos hs];exact ⟨fun _=>⟨hk,hv,rfl,hs⟩,fun _=>rfl⟩
   ·rw [if_neg hs];exact ⟨fun h=>absurd h (by decide),fun h=>absurd h.2.2.2 hs⟩
theorem zsX {p:Pg} (hp:p.ok) (hle:p.sm) {o:Op1} (h:zsZ p o=0):ChK p o:=by
 obtain ⟨hk,⟨hv,i,hpi,hi,ha,h1,h2⟩,hb,hs⟩:=lL.1 h
 obtain ⟨hf,hpb, -⟩:=(ze0 p hp hle).2 hv
 refine ⟨⟨hf,hpb,i,hpi,hi,ha,fun k q=>(h2 k q).1⟩,hk,fun w=> ?_,hs⟩
 rw [List.getD_eq_getElem?_getD,List.getElem?_eq_getElem w] at hb
 exact hb
noncomputable def zoM (p:Pg) (o:Op1):Int:=zsZ p o
theorem zoK (p:Pg) (hp:p.ok) (hle:p.sm) (o:Op1) (ho:o.ok):EPure prog G0 12 [.agg p.c,.agg o.c] (fun v=>v=i64 (zoM p o))∧(zoM p o=0→ChK p o):=⟨zsN p hp hle o ho,zsX hp hle⟩
noncomputable def uD (p:Pg):List Op1→Int
 | []=>0
 |o::l=>if zoM p o=0 then uD p l else zoM p o
theorem bS {p:Pg}: ∀ {l:List Op1},(∀ (j:Nat) (h:j<l.length),zoM p l[j]=0)→uD p l=0
 | [],_=>rfl
 |o::l,h=>by
  unfold uD
  have h0:zoM p o=0:=h 0 (by simp)
  rw [if_pos h0]
  exact bS fun j hj=>h (j+1) (by simpa using hj)
theorem zgO {p:Pg}: ∀ {l:List Op1} {i:Nat} (hi:i<l.length),(∀ (j:Nat) (h:j<l.length),j<i→zoM p l[j]=0)→zoM p l[i]≠0→uD p l=zoM p l[i]
 |o::l,0,_,_,h=>by
  unfold uD
  have h0:zoM p o≠0:=h
  rw [if_neg h0];rfl
 |o::l,i+1,hi,h,k=>by
  unfold uD
  have h0:zoM p o=0:=h 0 (by simp) (by omega)
  rw [if_pos h0]
  exact zgO (by simpa using hi) (fun j hj hji=>h (j+1) (by simpa using hj) (by omega)) k
theorem zdV {p:Pg}: ∀ {l:List Op1},uD p l=0→ ∀ o∈l,zoM p o=0
 | [],_,o,ho=>by cases ho
 | x::l,h,o,ho=>by
  unfold uD at h
  by_cases q:zoM p x=0
  ·rw [if_pos q] at h
   rcases List.mem_cons.1 ho with rfl|ho
   ·exact q
   ·exact zdV h o ho
  ·rw [if_neg q] at h;exact absurd h q
def zj6 (d:Dt):Bool:=(d.rels.any fun z=>decide (2000<z.length))||d.lats.any fun z=>decide (2000<z.length)
noncomputable def zk4 (p:Pg) (d:Dt) (ops:List Op1):Dt×Int:=
 if ze8 (DatX p d)=false then (znO,1)
 else if 60<ops.length then (znO,2)
 else if uD p ops≠0 then (znO,uD p ops)
 else if zj6 (ops.foldl (zl0 p) d)=true then (znO,2)
 else (ops.foldl (zl0 p) d,0)
def nR (i:Nat):Nat:=4096+i
theorem zi6 (i:Nat):nR (i+1)=nR i+1:=rfl
theorem nR_le {i:Nat} (h:i≤60):nR i≤17179869184:=by unfold nR;omega
theorem zjA {d:Dt} (hd:d.sz):LenD (nR 0) d:=⟨fun z hz=>by have:=(hd.r z hz).1;have:nR 0=4096:=rfl;omega,fun z hz=>by have:=(hd.l z hz).1;have:nR 0=4096:=rfl;omega⟩
theorem zc4 {p:Pg} (hp:p.ok): ∀ (l:List Op1) {d:Dt} {i:Nat},(∀ o∈l, ∃ j,OpX p o j)→DatX p d→LenD (nR i) d→DatX p (l.foldl (zl0 p) d)∧LenD (nR (i+l.length)) (l.foldl (zl0 p) d)
 | [],_,_,_,hX,hL=>⟨hX,hL⟩
 |o::l,d,i,h,hX,hL=>by
  obtain ⟨j,hj⟩:=h o (List.mem_cons_self ..)
  have h1:=hL.op hX hj
  rw [←zi6] at h1
  have:=zc4 hp l (fun o ho=>h o (List.mem_cons_of_mem _ ho)) (hX.op hp hj) h1
  rw [List.foldl_cons,List.length_cons,show i+(l.length+1)=i+1+l.length by omega]
  exact this
theorem znP {p:Pg} (hp:p.ok) (hle:p.sm) (h:zpQ p=true):p.preds.length≤1048576∧ ∀ x∈p.preds,x.types.length≤1048576∧x.of'<p.lats.length∧ -1≤x.of':=by
 obtain ⟨hf,hpb, -⟩:=(ze0 p hp hle).2 h
 exact ⟨by have:=hf.pl;omega,fun x hx=>⟨by obtain ⟨f1,f2,f3⟩:=hf.p _ hx;omega,(hpb x hx).2,(hpb x hx).1⟩⟩
theorem zrX {d:Dt} (h:zj6 d=false):(∀ z∈d.rels,z.length≤2000)∧ ∀ z∈d.lats,z.length≤2000:=by
 unfold zj6 at h
 rw [Bool.or_eq_false_iff,List.any_eq_false,List.any_eq_false] at h
 exact ⟨fun z hz=>by have:=h.1 z hz;simpa using this,fun z hz=>by have:=h.2 z hz;simpa using this⟩
theorem zn8 (p:Pg) (hp:p.ok) (hle:p.sm) (d:Dt) (ops:List Op1) (ho: ∀ o∈ops,o.ok) (hd:d.sz) (h0:(zk4 p d ops).2=0):(zk4 p d ops).1=ops.foldl (zl0 p) d∧(zk4 p d ops).1.sz∧DatX p (zk4 p d ops).1:=by
 unfold zk4 at h0 ⊢
 by_cases h1:ze8 (DatX p d)=false
 ·rw [if_pos h1] at h0;cases h0
 rw [if_neg h1] at h0 ⊢
 have hX:DatX p d:=zoX.1 (by cases q:ze8 (DatX p d);exact absurd q h1;rfl)
 by_cases h2:60<ops.length
 ·rw [if_pos h2] at h0;cases h0
 rw [if_neg h2] at h0 ⊢
 by_cases h3:uD p ops≠0
 ·rw [if_pos h3] at h0;exact absurd h0 h3
 rw [if_neg h3] at h0 ⊢
 by_cases h4:zj6 (ops.foldl (zl0 p) d)=true
 ·rw [if_pos h4] at h0;cases h0
 rw [if_neg h4] at h0 ⊢
 have hz:uD p ops=0:=Classical.byContradiction h3
 obtain ⟨r1, -⟩:=zc4 hp ops (fun o k=>((zoK p hp hle o (ho o k)).2 (zdV hz o k)).op) hX (zjA hd)
 refine ⟨rfl,?_,r1⟩
 obtain ⟨b1,b2⟩:=zrX (by cases q:zj6 (ops.foldl (zl0 p) d);rfl;exact absurd q h4)
 have ht:=znP hp hle hX.tv
 dsimp only
 generalize ops.foldl (zl0 p) d=e at*
 have hS:DtS p 2000 e:=zrM r1 ⟨b1,b2⟩ ht.2
 refine ⟨by have:=r1.rl;omega,by have:=r1.ll;omega,fun z hz=> ?_,fun z hz=> ?_,fun z hz x hx a ha=> ?_⟩
 ·obtain ⟨j,hj,rfl⟩:=List.getElem_of_mem hz
  exact ⟨by have:=b1 _ hz;omega,fun x hx=>((hS.r j (by rw [←r1.rl];exact hj) hj).2 x hx).2.lt⟩
 ·obtain ⟨j,hj,rfl⟩:=List.getElem_of_mem hz
  exact ⟨by have:=b2 _ hz;omega,fun x hx=>by obtain ⟨a,b,_⟩:=(hS.l j hj).2 x hx;exact ⟨by omega,b⟩⟩
 ·obtain ⟨j,hj,rfl⟩:=List.getElem_of_mem hz
  have:=((hS.l j hj).2 x hx).2.2 a ha
  omega
end Go.AL
namespace Go.AL
theorem yL (p:Pg) (o:Op1) (l:List Op1):uD p (o::l)=if zoM p o=0 then uD p l else zoM p o:=rfl
def yZ (l:La) (a b e:Int) (ms:List Int):List Int:=if ze7 l e=true then tB (fun _=>e) ms a b else ms
theorem zbJ (l:La) (T:Tbl) (args:List Vl) (a b e:Int):za9 l T args a b e=oT (uZ (oU l) T args) (zk0 args) (yZ l a b e):=rfl
theorem znD {l:La} {ms:List Int} (h:zh2 l ms) (he:zh6 (oU l) ms 64=[]):ms=List.replicate 64 (oU l):=by
 rw [←zmI h,he];rfl
theorem zbK {p:Pg} (hp:p.ok): ∀ (l:List Op1) {d:Dt} {N:Nat},(∀ o∈l, ∃ j,OpX p o j)→DatX p d→LenD N d→LenD (N+l.length) (l.foldl (zl0 p) d)
 | [],_,_,_,_,hL=>hL
 |o::l,d,N,h,hX,hL=>by
  obtain ⟨j,hj⟩:=h o (List.mem_cons_self ..)
  have:=zbK hp l (fun o ho=>h o (List.mem_cons_of_mem _ ho)) (hX.op hp hj) (hL.op hX hj)
  rw [List.foldl_cons,List.length_cons,show N+(l.length+1)=N+1+l.length by omega]
  exact this
theorem zs4 {N:Nat} {d:Dt} (h:LenD N d) (hN:N≤2000):zj6 d=false:=by
 unfold zj6
 rw [Bool.or_eq_false_iff,List.any_eq_false,List.any_eq_false]
 exact ⟨fun z hz=>by have:=h.r z hz;simp;omega,fun z hz=>by have:=h.l z hz;simp;omega⟩
theorem lQ (p:Pg) (hp:p.ok) (hle:p.sm) (d:Dt) (ops:List Op1) (ho: ∀ o∈ops,o.ok) {N:Nat} (hL:LenD N d) (hN:N+ops.length≤2000) (hl:ops.length≤60):
  zk4 p d ops=if ze8 (DatX p d)=false then (znO,1) else if uD p ops≠0 then (znO,uD p ops) else (ops.foldl (zl0 p) d,0):=by
 unfold zk4
 by_cases h1:ze8 (DatX p d)=false
 ·rw [if_pos h1,if_pos h1]
 rw [if_neg h1,if_neg h1,if_neg (by omega)]
 by_cases h3:uD p ops≠0
 ·rw [if_pos h3,if_pos h3]
 rw [if_neg h3,if_neg h3]
 have hX:DatX p d:=zoX.1 (by cases q:ze8 (DatX p d);exact absurd q h1;rfl)
 have hz:uD p ops=0:=Classical.byContradiction h3
 have:=zbK hp ops (fun o k=>((zoK p hp hle o (ho o k)).2 (zdV hz o k)).op) hX hL
 rw [if_neg (by rw [zs4 this (by omega)];decide)]
end Go.AL
namespace Go.AL
open Go.Proofs Go.Proofs.Tryz
structure Dt.raw (d:Dt):Prop where
 rl:d.rels.length≤140737488355328
 ll:d.lats.length≤140737488355328
 r: ∀ r∈d.rels,r.length≤140737488355328∧ ∀ x∈r,x.args.length≤140737488355328∧(∀ a∈x.args,a.s.size≤140737488355328)∧x.w.length≤140737488355328
 l: ∀ r∈d.lats,r.length≤140737488355328∧ ∀ x∈r,x.args.length≤140737488355328∧(∀ a∈x.args,a.s.size≤140737488355328)∧x.cs.length≤140737488355328
def gG (x:Rw):Prop:=x.args.length≤6∧x.w.length≤20
def tC (x:LRw):Prop:=x.args.length≤8∧x.cs.length≤8
structure Dt.few (d:Dt):Prop where
 rl:d.rels.length≤40
 ll:d.lats.length≤40
 r: ∀ r∈d.rels,r.length≤40∧ ∀ x∈r,gG x
 l: ∀ r∈d.lats,r.length≤8∧ ∀ x∈r,tC x
theorem zg2 {α:Type} {l:List α} {P:α→Prop} {i:Nat} (hi:i<l.length) (h: ∀ (j:Nat) (h:j<l.length),j<i→P l[j]) (q:P l[i]): ∀ (j:Nat) (h:j<l.length),j<i+1→P l[j]:=fun j k hj=>by
 rcases Nat.lt_or_ge j i with hji|hji
 ·exact h j k hji
 ·have:j=i:=by omega
  subst this;exact q
theorem za5 {α:Type} {l:List α} {P:α→Prop} (h: ∀ (j:Nat) (h:j<l.length),j<l.length→P l[j]): ∀ x∈l,P x:=fun x hx=>by
 obtain ⟨j,hj,rfl⟩:=List.getElem_of_mem hx;exact h j hj hj
theorem zsL (l:List Rw) (hl:l.length≤140737488355328):EB 33 [uN l] fun b=>b=true→l.length≤40∧ ∀ x∈l,gG x:=by
 refine ECall.pure (pv func33 29 false (by kernel_rfl) rfl rfl ?_)
 refine g2 ?_
 (repeat' (first|refine gp ?_|refine gs (fun he=> ?_) (fun he=> ?_)|fail))
 all_goals try exact ⟨⟨⟨_,rfl,by simp⟩,.sc⟩,rfl⟩
 refine zO l.length (.k:: .k:: .d:: .v:: .k:: .k:: .k::D9 (D9 (D4 ([])))) (own:=false) (fun i (_:Unit)=>[i64 i]) (fun _=>_) (fun i _=> ∀ (j:Nat) (h:j<l.length),j<i→gG l[j]) () rfl rfl (fun j _ hj=>absurd hj (Nat.not_lt_zero _)) (by omega) ?_ ?_
 ·rintro _ hI
  refine gm ?_
  refine gf @zM ?_
  exact ⟨⟨⟨_,rfl,fun _=>⟨by omega,za5 hI⟩⟩,.sc⟩,rfl⟩
 ·rintro i _ hi hw hI
  refine gm ?_
  have hx:=zG (f:=Rw.c) [] hi
  have up:=zg2 (P:=gG) hi hI
  generalize l[i]=x at*
  (have F:=(a4 @hi @hw @hx @zB);(repeat' (first|refine dR F ?_|refine dQ F (fun he=> ?_) (fun he=> ?_)|fail));all_goals clear F)
  all_goals first|exact ⟨⟨⟨_,rfl,by simp⟩,.sc⟩,rfl⟩|exact ⟨(),up ⟨by omega,by omega⟩,rfl,rfl,rfl⟩
theorem zkX (l:List LRw) (hl:l.length≤140737488355328):EB 34 [vD l] fun b=>b=true→l.length≤8∧ ∀ x∈l,tC x:=by
 refine ECall.pure (pv func34 51 false (by kernel_rfl) rfl rfl ?_)
 refine g2 ?_
 (repeat' (first|refine gp ?_|refine gs (fun he=> ?_) (fun he=> ?_)|fail))
 all_goals try exact ⟨⟨⟨_,rfl,by simp⟩,.sc⟩,rfl⟩
 refine zO l.length (.k:: .k:: .d:: .v:: .d:: .k:: .k:: .k::D9 (D9 (D9 (D9 (D4 (.d:: .d:: .d::[])))))) (own:=false) (fun i (_:Unit)=>[i64 i]) (fun _=>_) (fun i _=> ∀ (j:Nat) (h:j<l.length),j<i→tC l[j]) () rfl rfl (fun j _ hj=>absurd hj (Nat.not_lt_zero _)) (by omega) ?_ ?_
 ·rintro _ hI
  refine gm ?_
  refine gf @zM ?_
  exact ⟨⟨⟨_,rfl,fun _=>⟨by omega,za5 hI⟩⟩,.sc⟩,rfl⟩
 ·rintro i _ hi hw hI
  refine gm ?_
  have hx:=zG (f:=LRw.c) [] hi
  have up:=zg2 (P:=tC) hi hI
  generalize l[i]=x at*
  (have F:=(a4 @hi @hw @hx @zB);(repeat' (first|refine dR F ?_|refine dQ F (fun he=> ?_) (fun he=> ?_)|fail));all_goals clear F)
  all_goals try exact ⟨⟨⟨_,rfl,by simp⟩,.sc⟩,rfl⟩
  refine zO x.args.length (.k:: .k:: .d:: .k:: .v::K9 (K9 (K4 (.k:: .k:: .k::D9 (D9 (.d:: .d:: .d::[])))))) (own:=false) (fun i (_:Unit)=>[i64 i]) (fun _=>_) (fun i _=>True) () rfl rfl trivial (by omega) ?_ ?_
  ·rintro _ _
   refine gm ?_
   refine gf (a5 @hi @hw @hx @zB @zM) ?_
   exact ⟨(),up ⟨by omega,by omega⟩,rfl,rfl,rfl⟩
  ·rintro k _ hk hw2 _
   refine gm ?_
   have hy:=zG (f:=Vl.c) [] hk
   generalize x.args[k]=y at*
   (have F:=(a7 @hi @hw @hx @zB @hk @hw2 @hy);(repeat' (first|refine dR F ?_|refine dQ F (fun he=> ?_) (fun he=> ?_)|fail));all_goals clear F)
   all_goals first|exact ⟨⟨⟨_,rfl,by simp⟩,.sc⟩,rfl⟩|exact ⟨(),trivial,rfl,rfl,rfl⟩
theorem zbT (p:Pg) (hp:p.ok) (d:Dt) (hd:d.raw):EB 10 [.agg p.c,.agg d.c] fun b=>b=true→((∀ x∈p.lats,x.elems.length≤10∧x.covers.length≤80)∧p.preds.length≤26)∧d.few:=by
 refine ECall.cut (R:=fun v _=> ∃ b:Bool,v=bo b∧(b=true→((∀ x∈p.lats,x.elems.length≤10∧x.covers.length≤80)∧p.preds.length≤26)∧d.few)) (pv func10 50 false (by kernel_rfl) rfl rfl ?_) (by rintro p h ⟨b,rfl,h⟩;exact ⟨b,rfl,h⟩)
 refine g2 ?_
 obtain ⟨hr1,hr2',hr3,hr4⟩:=hd
 refine ge ?_
 (refine g1 ?_;refine zC ((zjP p hp).call zK (by simp [zJ]) _) ?_;intro p2 h2 hr2;refine g2 ?_)
 obtain ⟨⟨b,rfl,hb⟩,rfl⟩:=hr2
 cases b with
 |false=>
  refine ge ?_
  exact ⟨_,rfl,by simp⟩
 | true=>
  have hb:=hb rfl
  (repeat' (first|refine gp ?_|refine gs (fun he=> ?_) (fun he=> ?_)|fail))
  all_goals try exact ⟨_,rfl,by simp⟩
  refine zO d.rels.length (K4 (.d:: .v::K9 (K4 (.k:: .k:: .k::D9 (D4 (.d::K9 (K4 (.k::[])))))))) (own:=false) (fun i (_:Unit)=>[i64 i]) (fun _=>_) (fun i _=> ∀ (j:Nat) (h:j<d.rels.length),j<i→d.rels[j].length≤40∧ ∀ x∈d.rels[j],gG x) () rfl rfl (fun j _ hj=>absurd hj (Nat.not_lt_zero _)) (by omega) ?_ ?_
  ·rintro _ hI1
   refine gm ?_
   refine gf @zM ?_
   refine zO d.lats.length (K4 (.d:: .k:: .v::K9 (K9 (K9 (.k:: .k::D9 (D4 (.d::[]))))))) (own:=false) (fun i (_:Unit)=>[i64 i]) (fun _=>_) (fun i _=> ∀ (j:Nat) (h:j<d.lats.length),j<i→d.lats[j].length≤8∧ ∀ x∈d.lats[j],tC x) () rfl rfl (fun j _ hj=>absurd hj (Nat.not_lt_zero _)) (by omega) ?_ ?_
   ·rintro _ hI2
    refine gm ?_
    refine gf @zM ?_
    exact ⟨_,rfl,fun _=>⟨hb,by omega,by omega,za5 (P:=fun r:List Rw=>r.length≤40∧ ∀ x∈r,gG x) hI1,za5 (P:=fun r:List LRw=>r.length≤8∧ ∀ x∈r,tC x) hI2⟩⟩
   ·rintro i _ hi hw hI
    refine gm ?_
    have hx:=zG (f:=fun r:List LRw=>[vD r]) [] hi
    have hxo:=(hr4 _ (List.getElem_mem hi)).1
    have up:=zg2 (P:=fun r:List LRw=>r.length≤8∧ ∀ x∈r,tC x) hi hI
    generalize d.lats[i]=x at*
    refine gf (a4 @hi @hx @hw @zB) ?_
    (refine g1f (a4 @hi @hx @hw @zB) ?_;refine zC ((zkX x hxo).call zK (by simp) _) ?_;intro p2 h2 hr2;refine g2 ?_)
    obtain ⟨⟨b,rfl,hs⟩,rfl⟩:=hr2
    cases b with
    |false=>
     refine gf @hw ?_
     exact ⟨_,rfl,by simp⟩
    |true=>
     refine gf @hw ?_
     exact ⟨(),up (hs rfl),rfl,rfl,rfl⟩
  ·rintro i _ hi hw hI
   refine gm ?_
   have hx:=zG (f:=fun r:List Rw=>[uN r]) [] hi
   have hxo:=(hr3 _ (List.getElem_mem hi)).1
   have up:=zg2 (P:=fun r:List Rw=>r.length≤40∧ ∀ x∈r,gG x) hi hI
   generalize d.rels[i]=x at*
   refine gf (a4 @hi @hx @hw @zB) ?_
   (refine g1f (a4 @hi @hx @hw @zB) ?_;refine zC ((zsL x hxo).call zK (by simp) _) ?_;intro p2 h2 hr2;refine g2 ?_)
   obtain ⟨⟨b,rfl,hs⟩,rfl⟩:=hr2
   cases b with
   |false=>
    refine gf @hw ?_
    exact ⟨_,rfl,by simp⟩
   |true=>
    refine gf @hw ?_
    exact ⟨(),up (hs rfl),rfl,rfl,rfl⟩
theorem Dt.raw.sz {d:Dt} (h:d.raw) (k:d.few):d.sz:=
 ⟨by have:=k.rl;omega,by have:=k.ll;omega,fun r hr=>⟨by have:=(k.r r hr).1;omega,fun x hx=>by
  obtain ⟨a1,a2⟩:=(k.r r hr).2 x hx
  exact ⟨by omega,((h.r r hr).2 x hx).2.1,by omega⟩⟩,fun r hr=>⟨by have:=(k.l r hr).1;omega,fun x hx=>by
  obtain ⟨a1,a2⟩:=(k.l r hr).2 x hx
  exact ⟨by omega,by omega⟩⟩,fun r hr x hx=>((h.l r hr).2 x hx).2.1⟩
theorem Dt.few.len {d:Dt} (k:d.few):LenD 40 d:=⟨fun z hz=>(k.r z hz).1,fun z hz=>by have:=(k.l z hz).1;omega⟩
end Go.AL
namespace Go.AL
open Go.Proofs Go.Proofs.Tryz
@[go_sem] def UBsx5f59.pp:Nat→DPlan
 |1=>⟨[yA,yA,yB,yA,yA,yB,yA,yB,yA,yA,yA,yA],xF,0⟩
 |9=>⟨[yA,yB,yA,yB,yA,yA,yA,yB,yB,yC],xS,0⟩
 |12=>⟨[yA,yA,yA,yB,yA,yA,yA,yA,uX,yA,yC],vJ,0⟩
 |_=>⟨[],[],0⟩
@[go_sem] def UBsx5f60.pp:Nat→DPlan
 |4=>⟨[yB,yA,yB,yA,yB,yA,yB,yA,yB,uX,yC],vJ,0⟩
 |5=>⟨[yA,yA,yA,yB,yA,yA,yA,yA,yB,yA,yA,yB,yA,yA,yB,yA,yB,yA,uX,yA,yC],pR,0⟩
 |_=>⟨[],[],0⟩
@[go_sem] def UBsx5f86.pp:Nat→DPlan
 |2=>⟨[yA,yA,yA,yB,yA,yA,yB,yA,yB,yA,yA,yA,yB,yA,yB,yA,yA,yA,yB,yA,yA,yB,yA,yA,yB,yA,yB,yA,uX,yA,yC],pQ,0⟩
 |_=>⟨[],[],0⟩
@[go_sem] def UBsx5f59.pl:Nat→DPlan
 |1=>⟨[yA,yA,yB,yA,yA,yB,yA,yB,yA,yA,yA,yA],xF,0⟩
 |9=>⟨[yA,yB,yA,yB,yA,yA,yA,yB,yB,yC],xS,0⟩
 |12=>⟨[yA,yA,yA,⟨7,0,[1001]⟩,yA,yA,yA,yA,⟨6,0,[1001]⟩,yA,yC],vJ,0⟩
 |_=>⟨[],[],0⟩
@[go_sem] def UBsx5f60.pl:Nat→DPlan
 |4=>⟨[⟨7,0,[1003]⟩,yA,⟨7,0,[1005]⟩,yA,yB,yA,yB,yA,yB,⟨6,0,[1003,1005]⟩,yC],vJ,0⟩
 |5=>⟨[yA,yA,yA,⟨7,0,[1001]⟩,yA,yA,yA,yA,yB,yA,yA,yB,yA,yA,yB,yA,yB,yA,⟨6,0,[1001]⟩,yA,yC],pR,0⟩
 |_=>⟨[],[],0⟩
structure ActX (d':Dt) (q rq lq:Nat) (h h':Heap):Prop where
 d:DataAt d' q rq lq h'
 k: ∀ (r:Nat) (b:Blk),r≠rq→r≠lq→h[r]? =some b→h'[r]? =some b
theorem ActX.of_app {d':Dt} {q rq lq:Nat} {h h' B:Heap} (a:ActX d' q rq lq (h++B) h'):ActX d' q rq lq h h':=⟨a.d,fun r b h1 h2 hb=>a.k r b h1 h2 (yJ _ _ _ _ hb)⟩
theorem ActX.lats {d:Dt} {q rq lq i:Nat} {h:Heap} (hD:DataAt d q rq lq h) (z:List LRw) (B:Heap):ActX ⟨d.rels,d.lats.set i z⟩ q rq lq h (h.set lq (.var 89 ((d.lats.set i z).map vD))++B):=by
 obtain ⟨n1,n2,n3⟩:=hD.ne
 have hl:=(gsi hD.l).1
 have keep: ∀ (r:Nat) (b:Blk),r≠lq→h[r]? =some b→(h.set lq (.var 89 ((d.lats.set i z).map vD))++B)[r]? =some b:=fun r b hr hb=>by
  rw [List.getElem?_append_left (by rw [List.length_set];exact (gsi hb).1),List.getElem?_set_ne (Ne.symm hr)];exact hb
 refine ⟨⟨by simpa using keep q _ n2 hD.t,keep rq _ n3 hD.r,?_⟩,fun r b _ hr hb=>keep r b hr hb⟩
 rw [List.getElem?_append_left (by rw [List.length_set];exact hl),List.getElem?_set_self hl]
theorem ActX.rels {d:Dt} {q rq lq i:Nat} {h:Heap} (hD:DataAt d q rq lq h) (z:List Rw) (B:Heap):ActX ⟨d.rels.set i z,d.lats⟩ q rq lq h (h.set rq (.var 63 ((d.rels.set i z).map uN))++B):=by
 obtain ⟨n1,n2,n3⟩:=hD.ne
 have hl:=(gsi hD.r).1
 have keep: ∀ (r:Nat) (b:Blk),r≠rq→h[r]? =some b→(h.set rq (.var 63 ((d.rels.set i z).map uN))++B)[r]? =some b:=fun r b hr hb=>by
  rw [List.getElem?_append_left (by rw [List.length_set];exact (gsi hb).1),List.getElem?_set_ne (Ne.symm hr)];exact hb
 refine ⟨⟨by simpa using keep q _ n1 hD.t,?_,keep lq _ (Ne.symm n3) hD.l⟩,fun r b hr _ hb=>keep r b hr hb⟩
 rw [List.getElem?_append_left (by rw [List.length_set];exact hl),List.getElem?_set_self hl]
theorem zqL (p:Pg) (hp:p.ok) (N:Nat) (hN:N≤68719476736) (d:Dt) (hd:DtS p N d) (q rq lq:Nat) (h:Heap) (hD:DataAt d q rq lq h) (o:Op1) (i:Nat) (hi:i<p.preds.length) (hoi:o.pred=i) (hof:0≤p.preds[i].of'∧p.preds[i].of'<p.lats.length) (hol:p.preds[i].of'.toNat<p.lats.length) (hil:i<d.lats.length) (hck:uE p.lats[p.preds[i].of'.toNat]=0) (hal:o.args.length≤1048576) (hs: ∀ a∈o.args,a.s.size≤1048576) (e:Int):
  ECall prog G0 86 [.agg p.c,.ptr q 0,.agg o.c,i64 e] h fun v h'=>v= .tup []∧ActX ⟨d.rels,d.lats.set i (uY (oU p.lats[p.preds[i].of'.toNat]) (za9 p.lats[p.preds[i].of'.toNat] (xU p.lats[p.preds[i].of'.toNat] d.lats[i]) o.args o.span.a o.span.b e))⟩ q rq lq h h':=by
 refine pv func86 42 false (by kernel_rfl) rfl rfl ?_
 refine g2 ?_
 have htA: ∀ l:List Blk,(h++l)[q]? =some (.var 31 [.ms rq 0 1 d.rels.length,.ms lq 0 1 d.lats.length]):=fun l=>yJ _ _ _ _ hD.t
 have hlA: ∀ l:List Blk,(h++l)[lq]? =some (.var 89 (d.lats.map vD)):=fun l=>yJ _ _ _ _ hD.l
 have hll:lq<h.length:=(gsi hD.l).1
 have hsA: ∀ (l:List Blk) (b:Blk),(h++l).set lq b=h.set lq b++l:=fun l b=>List.set_append_left _ _ hll
 have hx:=zG (f:=Pd.c) [] hi
 obtain ⟨hz1,hz2⟩:=hd.l i hil
 have hy:=zG (f:=La.c) [] hol
 have hlo:=hp.l _ (List.getElem_mem hol)
 have fin:=fun (z:List LRw) (B:Heap)=>ActX.lats (i:=i) hD z B
 generalize p.lats[p.preds[i].of'.toNat]=lt at*
 generalize p.preds[i]=x at*
 have hd0:=yU vD d.lats i .un hil
 have hsp: ∀ v,(d.lats.map vD).take i++vD v::(d.lats.map vD).drop (i+1)=(d.lats.set i v).map vD:=fun v=>wY vD d.lats i v hil
 generalize hz:d.lats[i]=z at*
 have hpi:(0≤o.pred)=True:=eq_true (by omega)
 have hpl:(o.pred<(p.preds.length:Int))=True:=eq_true (by omega)
 have hpt:o.pred.toNat=i:=by omega
 have hpd:(o.pred<(d.lats.length:Int))=True:=eq_true (by omega)
 have ho0:(0≤x.of')=True:=eq_true (by omega)
 have ho1:(x.of'<(p.lats.length:Int))=True:=eq_true (by omega)
 (repeat (first|refine gz ?_|(refine gn ?_;intro zs zh;(try simp only [go_sem,htA,hlA,hsA,rU,sB,qK,rN,hx,hy,hpi,hpl,hpt,hpd,hd0,hol,hil,ho0,ho1] at zh);subst zh;refine gv ?_)|refine yD UBsx5f86.pp ?_))
 (refine zF rfl rfl rfl ?_;intro sr hsr;simp only [go_sem,htA,hlA,hsA,rU,sB,qK,rN,hx,hy,hpi,hpl,hpt,hpd,hd0,hol,hil,ho0,ho1] at hsr;subst hsr;refine vP rfl (zrW lt hlo hck z (by omega) hz2 o.args hal hs o.span.a o.span.b e) (by simp [zJ]) ?_;intro p2 hr2 ts2 hts;simp only [go_sem] at hts;subst hts)
 subst hr2
 (repeat (first|refine gz ?_|(refine gn ?_;intro zs zh;(try simp only [go_sem,htA,hlA,hsA,rU,sB,qK,rN,hx,hy,hpi,hpl,hpt,hpd,hd0,hol,hil,ho0,ho1,hsp] at zh);subst zh;refine gv ?_)|refine yD UBsx5f86.pp ?_))
 exact ⟨rfl,fin _ _⟩
theorem zpK (k:Nat) (args:List Vl) (s:Sp) (z:List Rw) {j:Nat} (hj:j<z.length) (r:List Rw):wM k args s (z.take (j+1)) r=if z[j].args.take k=args.take k then dP (wM k args s (z.take j) r) z[j].args s else wM k args s (z.take j) r:=by
 unfold wM
 rw [List.take_succ_eq_append_getElem hj,List.foldl_append,List.foldl_cons,List.foldl_nil]
theorem RelX.kill {ty:List Int} {z:List Rw} (h:RelX ty z) (k:Nat) (args:List Vl) {s:Sp} (hs:s.good) (w:List Rw) (hw: ∀ x∈w,x∈z):RelX ty (wM k args s w z):=by
 obtain ⟨c1, -,c3⟩:=pM (k:=k) (args:=args) hs w z h.1
 refine ⟨c1,fun x hx=> ?_⟩
 obtain ⟨y,hy,e⟩:=c3 x hx
 rw [e]
 rcases List.mem_append.1 hy with q|q
 ·exact h.2 y (hw y q)
 ·exact h.2 y q
open UBsx5f59 in
theorem zrO (p:Pg) (hp:p.ok) (N:Nat) (hN:N≤17179869184) (d:Dt) (hd:DtS p N d) (hX:DatX p d) (q rq lq:Nat) (h:Heap) (hD:DataAt d q rq lq h) (o:Op1) (i:Nat) (ho:OpX p o i) (hk:o.kind=1):
  ECall prog G0 59 [.agg p.c,.ptr q 0,.agg o.c] h fun v h'=>v= .tup []∧ActX (zl0 p d o) q rq lq h h':=by
 refine pv func59 75 false (by kernel_rfl) rfl rfl ?_
 refine g2 ?_
 have hi:=ho.hi
 have hoi:=ho.hoi
 have hir:i<d.rels.length:=by rw [hd.rl];exact hi
 have hil:i<d.lats.length:=by rw [hd.ll];exact hi
 obtain ⟨-,hX2,hX3⟩:=hX.at' i hi hir hil
 have hx:=zG (f:=Pd.c) [] hi
 have hpi:(0≤o.pred)=True:=eq_true (by omega)
 have hpl:(o.pred<(p.preds.length:Int))=True:=eq_true (by omega)
 have hpt:o.pred.toNat=i:=by omega
 refine gf (a9 @rU @sB @qK @rN @hx @hpi @hpl @hpt @hi) ?_
 (refine g1f (a9 @rU @sB @qK @rN @hx @hpi @hpl @hpt @hi) ?_;refine zC ((lR p.preds[i]).call zK (by simp [zJ]) _) ?_;intro p2 h2 hr2;refine g2 ?_)
 obtain ⟨⟨b,rfl,hb⟩,rfl⟩:=hr2
 cases b with
 | true=>
  have hne:p.preds[i].of'≠ -1:=by simpa using hb.symm
  have hof:0≤p.preds[i].of'∧p.preds[i].of'<p.lats.length:=by
   have h1:=ho.hof
   omega
  have hol:p.preds[i].of'.toNat<p.lats.length:=by omega
  have hck:=((hX2 ho.b hne).2 hol).1
  have hal:o.args.length≤1048576:=by rw [ho.ax.1];exact ho.htl
  rw [zo8 hoi hi hil hne hol]
  unfold zcQ
  refine gf (a9 @rU @sB @qK @rN @hx @hpi @hpl @hpt @hi) ?_
  (refine g1f (a9 @rU @sB @qK @rN @hx @hpi @hpl @hpt @hi) ?_;refine zC (zqL p hp N (by omega) d hd q rq lq _ (hD.app _) o i hi hoi hof hol hil hck hal ho.ax.sz o.elem) ?_;intro p2 h2 hr2;refine g2 ?_)
  obtain ⟨rfl,ha⟩:=hr2
  refine ge ?_
  exact ⟨rfl,by rw [if_pos hk];exact ha.of_app⟩
 | false=>
  have hne:p.preds[i].of'= -1:=by simpa using hb.symm
  obtain ⟨-,hRX, -⟩:=hX3 ho.b hne
  rw [zo7 hoi hi hir hne]
  obtain ⟨hz1,hz2⟩:=hd.r i hi hir
  have htA: ∀ l:List Blk,(h++l)[q]? =some (.var 31 [.ms rq 0 1 d.rels.length,.ms lq 0 1 d.lats.length]):=fun l=>yJ _ _ _ _ hD.t
  have hrA: ∀ l:List Blk,(h++l)[rq]? =some (.var 63 (d.rels.map uN)):=fun l=>yJ _ _ _ _ hD.r
  have hrl:rq<h.length:=(gsi hD.r).1
  have hsA: ∀ (l:List Blk) (b:Blk),(h++l).set rq b=h.set rq b++l:=fun l b=>List.set_append_left _ _ hrl
  have hd0:=yU uN d.rels i .un hir
  have hsp: ∀ v,(d.rels.map uN).take i++uN v::(d.rels.map uN).drop (i+1)=(d.rels.set i v).map uN:=fun v=>wY uN d.rels i v hir
  have hpd:(o.pred<(d.rels.length:Int))=True:=eq_true (by omega)
  have fin:=fun (z:List Rw) (B:Heap)=>ActX.rels (i:=i) hD z B
  have htl:=ho.htl
  have hsg:=ho.s
  have hls:=ho.ls
  have hal:=ho.ax.1
  have k0:=ho.k0
  have k1:=ho.k1
  unfold zaL
  rw [if_pos hk]
  unfold bA
  generalize hz:d.rels[i]=z at*
  generalize p.preds[i]=x at*
  obtain ⟨k,hk'⟩:=Int.eq_ofNat_of_zero_le k0
  have hkn:x.key.toNat=k:=by omega
  rw [hkn]
  have rl:=fun (w:List Rw) (hw: ∀ x∈w,x∈z)=>hRX.kill k o.args hsg w hw
  have rn:=fun (w:List Rw)=>jK k o.args o.span w z
  have ak:=fun (j:Nat) (hj:j<z.length)=>zpK k o.args o.span z hj z
  refine gf (a9 @htA @hrA @rU @sB @qK @rN @hx @hpi (a6 @hpl @hpt @hpd @hi @hd0 @hir)) ?_
  have hcA: ∀ l:List Blk,(h++(.var 27 p.c:: .var 38 o.c:: .var 59 x.c::l))[h.length+2]? =some (.var 59 x.c):=fun l=>(sB h _ 2).trans rfl
  refine zO z.length (K9 (.k:: .v:: .k:: .d::K9 (K9 (K9 (K4 (.k:: .v::D9 (D9 (.d::K9 (.k::[]))))))))) (own:=false) (fun j (s:List Rw×Heap)=>[uN s.1,i64 j]) (fun s=>h++(.var 27 p.c:: .var 38 o.c:: .var 59 x.c::s.2)) (fun j s=>s.1=wM k o.args o.span (z.take j) z) (z,[]) rfl rfl rfl (by omega) ?_ ?_
  ·rintro ⟨r,J⟩ hR t ht
   dsimp only at hR
   rw [List.take_length] at hR
   subst hR
   have hR2:=(rl z fun _ h=>h)
   have hR1:=rn z
   simp only [zY] at ht;subst ht
   generalize wM k o.args o.span z z=r at*
   (repeat (first|refine gz ?_|(refine gn ?_;intro zs zh;(try simp only [go_sem,zM,htA,hrA,hsA,hpi,hpl,hpt,hpd,hi,hir,hd0] at zh);subst zh;refine gv ?_)|refine yD UBsx5f59.pp ?_))
   (refine zF rfl rfl rfl ?_;intro sr hsr;simp only [go_sem,htA,hrA,hsA,hpi,hpl,hpt,hpd,hi,hir,hd0] at hsr;subst hsr;refine vP rfl (((zp2 r o.args o.span (by omega) (fun y hy=>(hR2.ls htl y hy).2) hR2.1 hls hsg).args (.cons (PLe.refl _) (.cons (PLe.refl _) (.cons (PLe.tc_ts 2 _) .nil))))) (by simp [zJ,oM]) ?_;intro p2 hr2 ts2 hts;simp only [go_sem] at hts;subst hts)
   subst hr2
   (repeat (first|refine gz ?_|(refine gn ?_;intro zs zh;(try simp only [go_sem,htA,hrA,hsA,hpi,hpl,hpt,hpd,hi,hir,hd0,hsp] at zh);subst zh;refine gv ?_)|refine yD UBsx5f59.pp ?_))
   exact ⟨rfl,fin _ _⟩
  ·rintro j ⟨r,J⟩ hj hw hR t ht
   dsimp only at hR
   have hR2:=(rl (z.take j) fun _ h=>List.mem_of_mem_take h)
   have hR1:=rn (z.take j)
   have hsk:=ak j hj
   rw [←hR] at hR1 hR2 hsk
   clear hR
   simp only [zY] at ht;subst ht
   have hy:=zG (f:=Rw.c) [] hj
   have hyk:=hz2 _ (List.getElem_mem hj)
   generalize z[j]=y at*
   have hb: ∀ l:List Blk,(h++(.var 27 p.c:: .var 38 o.c:: .var 59 x.c::(J++l)))[h.length+(J.length+1+1+1)]? =l[0]? :=fun l=>by rw [sB];exact rU J l
   have hsb: ∀ (l:List Blk) (b:Blk),(h++(.var 27 p.c:: .var 38 o.c:: .var 59 x.c::(J++l))).set (h.length+(J.length+1+1+1)) b=h++(.var 27 p.c:: .var 38 o.c:: .var 59 x.c::(J++l.set 0 b)):=fun l b=>by
    rw [rN, ←qK J l b];rfl
   have e1:((k:Int)≤(y.args.length:Int))=True:=eq_true (by omega)
   have e2:((k:Int)≤(o.args.length:Int))=True:=eq_true (by omega)
   (repeat (first|refine gz ?_|(refine gn ?_;intro zs zh;(try simp only [go_sem,hj,hy,zB,hw,hcA,hb,hsb,hk',e1,e2,xO] at zh);subst zh;refine gv ?_)|refine yD UBsx5f59.pl ?_))
   (refine zF rfl rfl rfl ?_;intro zs zh;simp only [go_sem,hj,hy,zB,hw,hcA,hb,hsb,hk',e1,e2,xO] at zh;subst zh;refine zP (by decide) (by decide) ((zjE (y.args.take k) (o.args.take k) (by rw [List.length_take];have:=hls.al;have:=hyk.2.al;omega)).call zK (by simp) _) ?_;intro p2 h2 hr2 ts2 hts;simp only [go_sem] at hts;subst hts)
   obtain ⟨rfl,rfl⟩:=hr2
   by_cases hyo:y.args.take k=o.args.take k
   case neg=>
    rw [if_neg hyo] at hsk
    rw [decide_eq_false hyo]
    (repeat (first|refine gz ?_|(refine gn ?_;intro zs zh;(try simp only [go_sem,hj,hy,zB,hw,hcA,hb,hsb,hk',e1,e2,xO] at zh);subst zh;refine gv ?_)|refine yD UBsx5f59.pl ?_))
    exact ⟨(r,J++[.var 84 y.c]),hsk.symm,rfl,rfl,rfl⟩
   case pos=>
    rw [if_pos hyo] at hsk
    rw [decide_eq_true hyo]
    (repeat (first|refine gz ?_|(refine gn ?_;intro zs zh;(try simp only [go_sem,hj,hy,zB,hw,hcA,hb,hsb,hk',e1,e2,xO] at zh);subst zh;refine gv ?_)|refine yD UBsx5f59.pl ?_))
    (refine ns ?_;intro zs zh;simp only [go_sem,hj,hy,zB,hw,hcA,hb,hsb,hk',e1,e2,xO] at zh;subst zh;refine zC (((znZ r y.args o.span (by omega) (fun z hz=>(hR2.ls htl z hz).2) hR2.1 ⟨hyk.2.al,hyk.2.a,by simp⟩ hsg).call zK (by simp) _).args (.cons (PLe.refl _) (.cons (PLe.refl _) (.cons (PLe.tc_ts 2 _) .nil)))) ?_;intro p2 h2 hr2 ts2 hts;simp only [go_sem] at hts;subst hts)
    obtain ⟨rfl,rfl⟩:=hr2
    (repeat (first|refine gz ?_|(refine gn ?_;intro zs zh;(try simp only [go_sem,hj,hy,zB,hw,hcA,hb,hsb,hk',e1,e2,xO] at zh);subst zh;refine gv ?_)|refine yD UBsx5f59.pl ?_))
    exact ⟨(dP r y.args o.span,J++[.var 84 y.c]),hsk.symm,rfl,rfl,rfl⟩
attribute [-go_sem] only
open UBsx5f60 in
theorem zp6 (p:Pg) (hp:p.ok) (N:Nat) (hN:N≤17179869184) (d:Dt) (hd:DtS p N d) (hX:DatX p d) (q rq lq:Nat) (h:Heap) (hD:DataAt d q rq lq h) (o:Op1) (i:Nat) (ho:OpX p o i) (hk:o.kind=2):
  ECall prog G0 60 [.agg p.c,.ptr q 0,.agg o.c] h fun v h'=>v= .tup []∧ActX (zl0 p d o) q rq lq h h':=by
 refine pv func60 49 false (by kernel_rfl) rfl rfl ?_
 refine g2 ?_
 have hi:=ho.hi
 have hoi:=ho.hoi
 have hir:i<d.rels.length:=by rw [hd.rl];exact hi
 have hil:i<d.lats.length:=by rw [hd.ll];exact hi
 obtain ⟨-,hX2,hX3⟩:=hX.at' i hi hir hil
 have hx:=zG (f:=Pd.c) [] hi
 have hpi:(0≤o.pred)=True:=eq_true (by omega)
 have hpl:(o.pred<(p.preds.length:Int))=True:=eq_true (by omega)
 have hpt:o.pred.toNat=i:=by omega
 refine gf (a9 @rU @sB @qK @rN @hx @hpi @hpl @hpt @hi) ?_
 (refine g1f (a9 @rU @sB @qK @rN @hx @hpi @hpl @hpt @hi) ?_;refine zC ((lR p.preds[i]).call zK (by simp [zJ]) _) ?_;intro p2 h2 hr2;refine g2 ?_)
 obtain ⟨⟨b,rfl,hb⟩,rfl⟩:=hr2
 cases b with
 | true=>
  have hne:p.preds[i].of'≠ -1:=by simpa using hb.symm
  have hof:0≤p.preds[i].of'∧p.preds[i].of'<p.lats.length:=by
   have h1:=ho.hof
   omega
  have hol:p.preds[i].of'.toNat<p.lats.length:=by omega
  have hck:=((hX2 ho.b hne).2 hol).1
  have hal:o.args.length≤1048576:=by rw [ho.ax.1];exact ho.htl
  rw [zo8 hoi hi hil hne hol]
  unfold zcQ
  have hy:=zG (f:=La.c) [] hol
  have hlo:=hp.l _ (List.getElem_mem hol)
  have ho0:(0≤p.preds[i].of')=True:=eq_true (by omega)
  have ho1:(p.preds[i].of'<(p.lats.length:Int))=True:=eq_true (by omega)
  refine gf (a9 @rU @sB @qK @rN @hx @hpi @hpl @hpt (a5 @hi @hy @hol @ho0 @ho1)) ?_
  (refine zF rfl rfl rfl ?_;intro sr hsr;simp only [go_sem,rU,sB,qK,rN,hx,hpi,hpl,hpt,hi,hy,hol,ho0,ho1] at hsr;subst hsr;refine xR rfl rfl ((zj7 _ hlo).call zK (by simp [zJ]) _) (by rintro _ _ ⟨_,rfl⟩ _ _ _;rfl) ?_;intro p2 h2 hr2 ts2 hts;simp only [go_sem] at hts;subst hts)
  obtain ⟨rfl,rfl⟩:=hr2
  refine gf (a9 @rU @sB @qK @rN @hx @hpi @hpl @hpt (a5 @hi @hy @hol @ho0 @ho1)) ?_
  (refine zF rfl rfl rfl ?_;intro zs zh;simp only [go_sem,rU,sB,qK,rN,hx,hpi,hpl,hpt,hi,hy,hol,ho0,ho1] at zh;subst zh;refine zP (by decide) (by decide) (zqL p hp N (by omega) d hd q rq lq _ (hD.app _) o i hi hoi hof hol hil hck hal ho.ax.sz (oU p.lats[p.preds[i].of'.toNat])) ?_;intro p2 h2 hr2 ts2 hts;simp only [go_sem] at hts;subst hts)
  obtain ⟨rfl,ha⟩:=hr2
  refine ge ?_
  exact ⟨rfl,by rw [if_neg (by omega)];exact ha.of_app⟩
 |false=>
  have hne:p.preds[i].of'= -1:=by simpa using hb.symm
  obtain ⟨-,hRX, -⟩:=hX3 ho.b hne
  rw [zo7 hoi hi hir hne]
  obtain ⟨hz1,hz2⟩:=hd.r i hi hir
  have htA: ∀ l:List Blk,(h++l)[q]? =some (.var 31 [.ms rq 0 1 d.rels.length,.ms lq 0 1 d.lats.length]):=fun l=>yJ _ _ _ _ hD.t
  have hrA: ∀ l:List Blk,(h++l)[rq]? =some (.var 63 (d.rels.map uN)):=fun l=>yJ _ _ _ _ hD.r
  have hrl:rq<h.length:=(gsi hD.r).1
  have hsA: ∀ (l:List Blk) (b:Blk),(h++l).set rq b=h.set rq b++l:=fun l b=>List.set_append_left _ _ hrl
  have hd0:=yU uN d.rels i .un hir
  have hsp: ∀ v,(d.rels.map uN).take i++uN v::(d.rels.map uN).drop (i+1)=(d.rels.set i v).map uN:=fun v=>wY uN d.rels i v hir
  have hpd:(o.pred<(d.rels.length:Int))=True:=eq_true (by omega)
  have fin:=fun (z:List Rw) (B:Heap)=>ActX.rels (i:=i) hD z B
  have htl:=ho.htl
  have hsg:=ho.s
  have hls:=ho.ls
  have hal:=ho.ax.1
  unfold zaL
  rw [if_neg (by omega)]
  generalize hz:d.rels[i]=z at*
  generalize p.preds[i]=x at*
  (repeat (first|refine gz ?_|(refine gn ?_;intro zs zh;(try simp only [go_sem,htA,hrA,hsA,rU,sB,qK,rN,hpi,hpl,hpt,hpd,hi,hir,hd0] at zh);subst zh;refine gv ?_)|refine yD UBsx5f60.pp ?_))
  (refine zF rfl rfl rfl ?_;intro sr hsr;simp only [go_sem,htA,hrA,hsA,rU,sB,qK,rN,hpi,hpl,hpt,hpd,hi,hir,hd0] at hsr;subst hsr;refine vP rfl (((znZ z o.args o.span (by omega) (fun y hy=>(hz2 y hy).2) hRX.1 hls hsg).args (.cons (PLe.refl _) (.cons (PLe.refl _) (.cons (PLe.tc_ts 2 _) .nil))))) (by simp [zJ,oM]) ?_;intro p2 hr2 ts2 hts;simp only [go_sem] at hts;subst hts)
  subst hr2
  (repeat (first|refine gz ?_|(refine gn ?_;intro zs zh;(try simp only [go_sem,htA,hrA,hsA,rU,sB,qK,rN,hpi,hpl,hpt,hpd,hi,hir,hd0,hsp] at zh);subst zh;refine gv ?_)|refine yD UBsx5f60.pp ?_))
  exact ⟨rfl,fin _ _⟩
end Go.AL
namespace Go.AL
open Go.Proofs Go.Proofs.Tryz
theorem zlG {n:Nat} {h:Heap} (f:Nat) (cs:List PV):fz n h (f+1) (.tup cs)= .tup (cs.map (fz n h f)):=by simp only [fz]
theorem fzA {n:Nat} {h:Heap} (f:Nat) (cs:List PV):fz n h (f+1) (.agg cs)= .agg (cs.map (fz n h f)):=by simp only [fz]
theorem ziD {n:Nat} {h:Heap} (f:Nat) (v:Value):fz n h (f+1) (.sc v)= .sc v:=by simp only [fz]
theorem fzN {n:Nat} {h:Heap} (f:Nat):fz n h (f+1) .nil= .nil:=by simp only [fz]
theorem eJ (f:Nat) (l:List Vl):zU (f+2) (pH l)=true:=by simp [zU,List.all_map]
theorem zhM {h:Heap} {e:Int}:fz 0 h 40 (.tup [.agg [.nil,.nil],i64 e])= .tup [.agg [.nil,.nil],i64 e]:=by
 rw [zlG 39,List.map_cons,List.map_cons,List.map_nil,fzA 38,List.map_cons,List.map_cons,List.map_nil,fzN 37,ziD 38]
end Go.AL
namespace Go.AL
open Go.Proofs Go.Proofs.Tryz
end Go.AL
namespace Go.AL
open Go.Proofs Go.Proofs.Tryz
end Go.AL
namespace Go.AL
open Go.Proofs Go.Proofs.Tryz
end Go.AL
namespace Go.AL
open Go.Proofs Go.Proofs.Tryz
@[go_sem] def UBra2f21.pl:Nat→DPlan
 |1=>⟨[yA,⟨1,0,[0,1]⟩,yA,vC,yA,⟨1,0,[0,1]⟩,yA,⟨2,1,[]⟩,yA,yC],[0,1,2,4,5,6,3,7,8,9],2⟩
 |_=>⟨[],[],0⟩
theorem fzM {h:Heap} (f r off k len:Nat) {t:TypeId} {cs:List PV} (e:h[r]? =some (.var t cs)):fz 0 h (f+1) (.ms r off k len)= .ts k (wA (cs.map (fz 0 h f)) off k len):=by
 simp only [fz,Nat.not_lt_zero,if_false,e]
theorem eH (f:Nat) (d:Dt):zU (f+6) (.agg d.c)=true:=by
 have h1: ∀ r:List Rw,zU (f+4) (uN r)=true:=rE f
 have h2: ∀ r:List LRw,zU (f+4) (vD r)=true:=fun r=>by
  simp only [zU,List.all_map,List.all_eq_true,Function.comp_apply]
  intro x _ p hp
  simp only [LRw.c,List.mem_cons,List.not_mem_nil,or_false] at hp
  rcases hp with rfl|rfl
  ·exact eJ (f+1) x.args
  ·simp [zU,List.all_map]
 simp only [zU,Dt.c,List.all_cons,List.all_nil,Bool.and_true,List.all_map]
 simp only [zU] at h1 h2
 simp [h1,h2,Function.comp_def]
end Go.AL
namespace Go.AL
open Go.Proofs Go.Proofs.Tryz
structure Rp.sz (r:Rp):Prop where
 cl:r.cs.length≤1048576
 c: ∀ x∈r.cs,OpsG x.ops
 bl:r.bs.length≤1048576
 b: ∀ x∈r.bs,x.ok
end Go.AL
