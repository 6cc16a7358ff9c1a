/-
  The closed facts of the row of BaseRestores, one by one.
-/
import Derived.Test.YtcffidhiaihbkaaGreatDoorY47
import Derived.Test.YtcffidhiaihbkaaGreatDoorY46
import Derived.Test.YtcffidhiaihbkaaGreatDoorTie
import Derived.Test.YtcffidhiaihbkaaGreatDoorCards
import Derived.Handy
import Derived.Lay
import Derived.ChangeMaps5
import Derived.SevenTiedAt
set_option linter.unusedSimpArgs false
set_option linter.unusedVariables false
set_option maxRecDepth 100000
set_option maxHeartbeats 4000000
namespace Go.AL
def NoR (k:Nat) (z:List Rw) (args:List Vl) (s:Sp):Prop:= ∀ t:List Vl,t.take k=args.take k→ ∀ m,xT s m=true→(yH z t).testBit m=false
def NoE (l:La) (z:List LRw) (args:List Vl) (s:Sp):Prop:= ∀ m:Nat,xT s m=true→(eF l z args).getD m 0=oU l
theorem ztI {q:Pd} {z:List Rw} {o:Op1} (hc:CanL z) (hs:o.span.good) (hk:o.kind≠1) (hN:NoR q.key.toNat z o.args o.span):zaL q z o=z:=by
 obtain ⟨a1,a2⟩:=tD (q:=q) (o:=o) hc hs
 refine CanL.uniq a1 hc fun t=> ?_
 rw [a2 t]
 refine Nat.eq_of_testBit_eq fun m=> ?_
 rw [sU (zoW z t)]
 by_cases hh:xT o.span m=true
 ·rw [if_pos hh]
  by_cases e:o.args=t
  ·rw [if_pos e,decide_eq_false hk,hN t (by rw [e]) m hh]
  ·rw [if_neg e,if_neg (fun w=>hk w.1)]
 ·rw [if_neg hh]
theorem zsD {q:Pd} {z:List Rw} {o o':Op1} (hc:CanL z) (hs:o.span.good) (hk:o.kind=1) (hk':o'.kind≠1) (ha:o'.args=o.args) (hsp:o'.span=o.span) (hN:NoR q.key.toNat z o.args o.span):zaL q (zaL q z o) o'=z:=by
 have hs':o'.span.good:=by rw [hsp];exact hs
 obtain ⟨a1,a2⟩:=tD (q:=q) (o:=o) hc hs
 obtain ⟨b1,b2⟩:=tD (q:=q) (o:=o') a1 hs'
 refine CanL.uniq b1 hc fun t=> ?_
 have hx:=zoW z t
 rw [b2 t,a2 t]
 refine Nat.eq_of_testBit_eq fun m=> ?_
 rw [sU (zf7 hx),sU hx,hsp,ha]
 by_cases hh:xT o.span m=true
 ·rw [if_pos hh,if_pos hh]
  by_cases e:o.args=t
  ·rw [if_pos e,decide_eq_false hk',hN t (by rw [e]) m hh]
  ·rw [if_neg e,if_neg (fun w=>hk' w.1),if_neg e]
   by_cases hp:t.take q.key.toNat=o.args.take q.key.toNat
   ·rw [if_pos ⟨hk,hp⟩,hN t hp m hh]
   ·rw [if_neg (fun w=>hp w.2)]
 ·rw [if_neg hh,if_neg hh]
theorem zr3 {l:La} {ty:List Int} {z:List LRw} (h:CelX l ty z) (t:List Vl):zh2 l (eF l z t):=by
 rw [←zdO h t]
 have hG:=h.good
 by_cases q: ∃ y∈xU l z,y.1=t
 ·obtain ⟨y,hy,rfl⟩:=q
  rw [zsW hG.1.1 hy];exact hG.2 y hy
 ·rw [zdX fun x hx e=>q ⟨x,hx,e⟩]
  exact ⟨by simp,fun i hi=> .inl (ziB hi _)⟩
theorem zt4 {l:La} {ms:List Int} {s:Sp} (hl:ms.length=64) (hb:ze7 l (oU l)=true) (hN: ∀ m:Nat,xT s m=true→ms.getD m 0=oU l):yZ l s.a s.b (oU l) ms=ms:=by
 unfold yZ
 rw [if_pos hb]
 refine mH (yY ..) hl fun i hi=> ?_
 rw [tU hi]
 by_cases w:s.a≤(i:Int)∧(i:Int)<s.b
 ·rw [if_pos w,hN i (by unfold xT;rw [decide_eq_true_eq];exact ⟨hi,w⟩)]
 ·rw [if_neg w]
theorem zmD {l:La} {ty:List Int} {z:List LRw} (h:CelX l ty z) {args:List Vl} (ha:ArgX ty args) {s:Sp} (hb:ze7 l (oU l)=true) (hN:NoE l z args s):aV l z args s.a s.b (oU l)=z:=by
 obtain ⟨a1,a2⟩:=yK h ha s.a s.b (zpN l)
 refine CelX.uniq a1 h fun t=> ?_
 rw [a2 t]
 by_cases q:t=args
 ·rw [if_pos q,q,zt4 (zr3 h args).1 hb hN]
 ·rw [if_neg q]
theorem zr5 {l:La} {ty:List Int} {z:List LRw} (h:CelX l ty z) {args:List Vl} (ha:ArgX ty args) {s:Sp} {e:Int} (he:ze9 l e) (hb:ze7 l (oU l)=true) (hN:NoE l z args s):aV l (aV l z args s.a s.b e) args s.a s.b (oU l)=z:=by
 rw [zoN h ha he (zpN l) hb s.a s.b]
 exact zmD h ha hb hN
theorem zuK {l:La} (hl:l.ok) (hc:uE l=0):ze7 l (oU l)=true:=by
 unfold ze7
 rw [decide_eq_true_eq]
 exact (zqB l hl hc).1
end Go.AL
namespace Go.AL
open Go.Proofs Go.Proofs.Tryz
theorem zrS {l:La} {ty:List Int} {args:List Vl} (ha:ArgX ty args): ∀ {T:Tbl},(∀ x∈T,ArgX ty x.1)→zhD (oU l) T (zk0 args)=jU l T args
 | [],_=>rfl
 |x::T,h=>by
  have ih:=zrS (l:=l) ha fun y hy=>h y (List.mem_cons_of_mem x hy)
  unfold zhD jU
  by_cases q:x.1=args
  ·rw [if_pos (by rw [q]),if_pos q]
  ·rw [if_neg fun e=>q ((h x (List.mem_cons_self ..)).key ha e),if_neg q,ih]
theorem ztL {l:La} {ty:List Int} {z:List LRw} (h:CelX l ty z) {args:List Vl} (ha:ArgX ty args) {m:Nat} (hm:m<64):cL l z args m=(eF l z args).getD m 0:=by
 unfold cL
 rw [if_pos ⟨by omega,by omega⟩,Int.toNat_natCast,zrS ha,zdO h]
 intro x hx
 rw [kT h.keys] at hx
 obtain ⟨w,hw,rfl⟩:=List.mem_map.1 hx
 exact h.2.1 w hw
theorem ztZ {z:List Rw} {t:List Vl} {m:Nat} (h: ∀ x∈z,x.args=t→(uQ x.w).testBit m=false):(yH z t).testBit m=false:=by
 by_cases q:yH z t=0
 ·rw [q,Nat.zero_testBit]
 ·obtain ⟨x,hx,hxt,hw⟩:=zn6 q
  rw [←hw];exact h x hx hxt
theorem zuO {k:Nat} {z:List Rw} {args:List Vl} {s:Sp} (h: ∀ m:Nat,xT s m=true→zjH k (args.take k) m z=none):NoR k z args s:=fun t ht m hm=>by
 have hm64:m<64:=by unfold xT at hm;simp only [decide_eq_true_eq] at hm;omega
 refine ztZ fun x hx e=> ?_
 rw [←znC hm64]
 exact zr8 (h m hm) x hx (by rw [e,ht])
theorem zt0 {l:La} (hl:l.ok) (hc:uE l=0) {ms:List Int} (h:zh2 l ms) {m:Nat} (hm:m<64):0≤ms.getD m 0∧ms.getD m 0<l.elems.length:=by
 obtain ⟨hb, -⟩:=zqB l hl hc
 rcases h.2 m hm with e|⟨e, -⟩
 ·rw [e];exact hb
 ·unfold ze7 at e;simpa using e
theorem zuP {l:La} (hl:l.ok) {ty:List Int} {z:List LRw} (h:CelX l ty z) {args:List Vl} (ha:ArgX ty args) {s:Sp} (hn: ∀ m:Nat,xT s m=true→cL l z args m= -1∨cL l z args m=oU l):NoE l z args s:=fun m hm=>by
 have hm64:m<64:=by unfold xT at hm;simp only [decide_eq_true_eq] at hm;omega
 have:=hn m hm
 rw [ztL h ha hm64] at this
 have hg:=zt0 hl h.1 (zr3 h args) hm64
 exact this.elim (fun e=>absurd e (by omega)) id
theorem zuQ {p:Pg} (hp:p.ok) (hle:p.sm) {d:Dt} (hX:DatX p d) {o:Op1} {i:Nat} (ho:OpX p o i) (hn: ∀ m:Nat,xT o.span m=true→ztF p d o.pred (o.args.take (p.preds[i]'ho.hi).key.toNat) m=none):
  ((p.preds[i]'ho.hi).of'= -1→NoR (p.preds[i]'ho.hi).key.toNat (d.rels[i]'(by rw [hX.rl];exact ho.hi)) o.args o.span)∧
  ((p.preds[i]'ho.hi).of'≠ -1→ ∀ k:(p.preds[i]'ho.hi).of'.toNat<p.lats.length,NoE p.lats[(p.preds[i]'ho.hi).of'.toNat] (d.lats[i]'(by rw [hX.ll];exact ho.hi)) o.args o.span):=by
 have hi:=ho.hi
 have hir:i<d.rels.length:=by rw [hX.rl];exact hi
 have hil:i<d.lats.length:=by rw [hX.ll];exact hi
 have htn:o.pred.toNat=i:=by have:=ho.hoi;omega
 have hal:o.args.length=p.preds[i].types.length:=ho.ax.1
 have hk0:=ho.k0
 have hk1:=ho.k1
 have hkl:((o.args.take p.preds[i].key.toNat).length:Int)=p.preds[i].key:=by rw [List.length_take];omega
 have hE: ∀ m:Int,ztF p d o.pred (o.args.take p.preds[i].key.toNat) m=if p.preds[i].of'≠ -1 then
  if cL (p.lats.getD p.preds[i].of'.toNat zuV) d.lats[i] (o.args.take p.preds[i].key.toNat) m= -1∨cL (p.lats.getD p.preds[i].of'.toNat zuV) d.lats[i] (o.args.take p.preds[i].key.toNat) m=oU (p.lats.getD p.preds[i].of'.toNat zuV) then none
  else some ⟨i,o.args.take p.preds[i].key.toNat,cL (p.lats.getD p.preds[i].of'.toNat zuV) d.lats[i] (o.args.take p.preds[i].key.toNat) m⟩
 else (zjH p.preds[i].key.toNat (o.args.take p.preds[i].key.toNat) m d.rels[i]).map fun x=>⟨i,x.args, -1⟩:=fun m=>by
  rw [ho.hoi,ztN hX hi hir hil]
  unfold lkQ
  rw [if_neg (fun w=>w.elim (fun w=>by rw [ho.b] at w;cases w) fun w=>w hkl)]
 refine ⟨fun hof=>zuO fun m hm=> ?_,fun hof k=> ?_⟩
 ·have:=hn m hm
  rw [hE,if_neg (fun w=>w hof)] at this
  cases hr:zjH p.preds[i].key.toNat (o.args.take p.preds[i].key.toNat) m d.rels[i] with
  |none=>rfl
  |some x=>rw [hr] at this;cases this
 ·obtain ⟨-,h2, -⟩:=hX.at' i hi hir hil
  obtain ⟨-,hc⟩:=h2 ho.b hof
  have hkt:o.args.take p.preds[i].key.toNat=o.args:=List.take_of_length_le (by have:=zsQ p hp hle hX.tv _ (List.getElem_mem hi) hof;omega)
  refine zuP (hp.l _ (List.getElem_mem k)) (hc k) ho.ax fun m hm=> ?_
  have:=hn m hm
  rw [hE,if_pos hof,eD k,hkt] at this
  apply Classical.byContradiction
  intro q
  rw [if_neg q] at this;cases this
theorem ztJ {p:Pg} (hp:p.ok) (hle:p.sm) {d:Dt} (hX:DatX p d) {o:Op1} {i:Nat} (ho:OpX p o i) (hn: ∀ m:Nat,xT o.span m=true→ztF p d o.pred (o.args.take (p.preds[i]'ho.hi).key.toNat) m=none):
  zl0 p d {o with kind:=2}=d∧zl0 p (zl0 p d {o with kind:=1}) {o with kind:=2}=d:=by
 have hi:=ho.hi
 have hir:i<d.rels.length:=by rw [hX.rl];exact hi
 have hil:i<d.lats.length:=by rw [hX.ll];exact hi
 obtain ⟨n1,n2⟩:=zuQ hp hle hX ho hn
 obtain ⟨h1,h2,h3⟩:=hX.at' i hi hir hil
 have hoi:({o with kind:=2}:Op1).pred=i:=ho.hoi
 have hoi1:({o with kind:=1}:Op1).pred=i:=ho.hoi
 by_cases hof:p.preds[i].of'= -1
 ·obtain ⟨q1,q2,q3⟩:=h3 ho.b hof
  have hN:=n1 hof
  refine ⟨?_,?_⟩
  ·rw [zo7 hoi hi hir hof,ztI (o:={o with kind:=2}) q2.1 ho.s (show (2:Int)≠1 by decide) hN,List.set_getElem_self]
  ·rw [zo7 hoi1 hi hir hof,zo7 (d:=⟨d.rels.set i (zaL p.preds[i] d.rels[i] {o with kind:=1}),d.lats⟩) hoi hi (by simpa using hir) hof]
   dsimp only
   rw [List.getElem_set_self,List.set_set,zsD (o:={o with kind:=1}) (o':={o with kind:=2}) q2.1 ho.s rfl (show (2:Int)≠1 by decide) rfl rfl hN,List.set_getElem_self]
 ·have hol:p.preds[i].of'.toNat<p.lats.length:=by have:=ho.hof;omega
  obtain ⟨q1,q2⟩:=h2 ho.b hof
  have hc:=q2 hol
  have hN:=n2 hof hol
  have hbe:=zuK (hp.l _ (List.getElem_mem hol)) hc.1
  have hg:ze9 p.lats[p.preds[i].of'.toNat] o.elem:=zp4 (hp.l _ (List.getElem_mem hol)) hc.1 (ho.el hol (by have:=ho.hof;omega))
  have hf: ∀ z,zcQ p.lats[p.preds[i].of'.toNat] z {o with kind:=2}=aV p.lats[p.preds[i].of'.toNat] z o.args o.span.a o.span.b (oU p.lats[p.preds[i].of'.toNat]):=fun z=>rfl
  have ht: ∀ z,zcQ p.lats[p.preds[i].of'.toNat] z {o with kind:=1}=aV p.lats[p.preds[i].of'.toNat] z o.args o.span.a o.span.b o.elem:=fun z=>rfl
  refine ⟨?_,?_⟩
  ·rw [zo8 hoi hi hil hof hol,hf,zmD hc ho.ax hbe hN,List.set_getElem_self]
  ·rw [zo8 hoi1 hi hil hof hol,zo8 (d:=⟨d.rels,d.lats.set i (zcQ p.lats[p.preds[i].of'.toNat] d.lats[i] {o with kind:=1})⟩) hoi hi (by simpa using hil) hof hol]
   dsimp only
   rw [List.getElem_set_self,List.set_set,hf,ht,zr5 hc ho.ax hg hbe hN,List.set_getElem_self]
end Go.AL
namespace Go.AL
open Go.Proofs Go.Proofs.Tryz
@[go_sem] def ULaw4f8.pp:Nat→DPlan
 |19=>⟨[yA,yB,yA,yA,yB,yA,yA,yB,yA,yA,yB,yA,yA,yB,uX,uX,yA,yA,yB,yA,yA],pR,0⟩
 |_=>⟨[],[],0⟩
@[go_sem] def ULaw4f8.pl:Nat→DPlan
 |19=>⟨[yA,yB,yA,yA,yB,yA,yA,yB,yA,yA,yB,yA,yA,yB,⟨6,0,[1005]⟩,⟨6,0,[1005]⟩,yA,yA,⟨7,0,[1005]⟩,yA,yA],pR,0⟩
 |_=>⟨[],[],0⟩
@[go_sem] def ULaw4f26.pl:Nat→DPlan
 |1=>⟨[yA,yB,yA,yB,yA,yA,yA,yB,yA,yB,yC],vJ,0⟩
 |_=>⟨[],[],0⟩
theorem zuH (p:Pg) (hp:p.ok) (hle:p.sm) (d:Dt) (hL:LenD 40 d) (hX:DatX p d) (o:Op1) (ho:o.ok) (h0:zoM p o=0) {i:Nat} (hi:OpX p o i) (hn: ∀ m:Nat,xT o.span m=true→ztF p d o.pred (o.args.take (p.preds[i]'hi.hi).key.toNat) m=none):
  zk4 p d [{o with kind:=1},{o with kind:=2}]=(d,0)∧zk4 p d [{o with kind:=2}]=(d,0):=by
 have k1:zoM p {o with kind:=1}=0:=zsM h0 (.inl rfl)
 have k2:zoM p {o with kind:=2}=0:=zsM h0 (.inr rfl)
 obtain ⟨f1,f2⟩:=ztJ hp hle hX hi hn
 have hXf: ¬ze8 (DatX p d)=false:=by rw [pO hX];decide
 rw [kN p hp hle d _ (by simp;exact ⟨ho,ho⟩) hL (by simp) (pV k1 k2),kN p hp hle d [{o with kind:=2}] (by simp;exact ho) hL (by simp) (hZ k2),if_neg hXf,if_neg hXf]
 show (zl0 p (zl0 p d {o with kind:=1}) {o with kind:=2},(0:Int))=(d,0)∧(zl0 p d {o with kind:=2},(0:Int))=(d,0)
 rw [f1,f2]
 exact ⟨rfl,rfl⟩
open ULaw4f26 in
theorem zr7 (p:Pg) {i:Nat} (hi:i<p.preds.length) (h0:0≤p.preds[i].of') (hol:p.preds[i].of'.toNat<p.lats.length):EPure prog G0 26 [.agg p.c,i64 i] fun v=>v= .agg p.lats[p.preds[i].of'.toNat].c:=by
 refine ECall.cut (R:=fun v _=>v= .agg p.lats[p.preds[i].of'.toNat].c) (pv func26 15 false (by kernel_rfl) rfl rfl ?_) (by rintro q h rfl;exact vE _ _ _ _ (zlA 36 _))
 refine g2 ?_
 have hx:=zG (f:=Pd.c) [] hi
 have hy:=zG (f:=La.c) [] hol
 have hot:(0≤p.preds[i].of')=True:=eq_true h0
 have hlt:(p.preds[i].of'<(p.lats.length:Int))=True:=eq_true (by omega)
 refine gf (a7 @hi @hx @zB @hot @hlt @hol @hy) ?_
 rfl
open ULaw4f8 in
theorem zsC (p:Pg) (hp:p.ok) (d:Dt) (hd:d.raw) (o:Op1) (ho:o.raw):
  EPure prog G0 8 [.agg p.c,.agg d.c,.agg o.c] fun v=>v=bo true:=by
 have hoo:o.ok:=ho
 refine ECall.cut (R:=fun v _=>v=bo true) (pv func8 130 false (by kernel_rfl) rfl rfl ?_) (by rintro p h rfl;rfl)
 refine g2 ?_
 refine ge ?_
 (refine Go.AL.g1 ?_;refine zC (zl6 _) ?_;intro p2 h2 hr2;refine Go.AL.g2 ?_)
 obtain ⟨rfl,rfl⟩:=hr2
 refine ge ?_
 (refine Go.AL.g1 ?_;refine zC ((zbT p hp d hd).call zK (by simp [zJ]) _) ?_;intro p2 h2 hr2;refine Go.AL.g2 ?_)
 obtain ⟨⟨c,rfl,hc⟩,rfl⟩:=hr2
 cases c with
 |false=>
  refine ge ?_
  rfl
 | true=>
  obtain ⟨⟨hlat,hpl⟩,hfew⟩:=hc rfl
  have hle:p.sm:=fun x hx=>by have:=hlat x hx;omega
  have hsz:=hd.sz hfew
  have hL:=hfew.len
  refine ge ?_
  (refine Go.AL.g1 ?_;refine zC ((zoK p hp hle o hoo).1.call zK (by simp [zJ]) _) ?_;intro p2 h2 hr2;refine Go.AL.g2 ?_)
  obtain ⟨rfl,rfl⟩:=hr2
  by_cases h0:zoM p o=0
  case neg=>
   have e0:(zoM p o !=0)=true:=by simp [h0]
   refine gf @e0 ?_
   rfl
  have e0:(zoM p o !=0)=false:=by simp [h0]
  refine gf @e0 ?_
  (refine Go.AL.g1f @e0 ?_;refine zC ((zeD p hp hle d hsz).call zK (by simp [zJ]) _) ?_;intro p2 h2 hr2;refine Go.AL.g2 ?_)
  obtain ⟨rfl,rfl⟩:=hr2
  cases hv:ze8 (DatX p d) with
  |false=>
   refine ge ?_
   rfl
  | true=>
   have hX:=zoX.1 hv
   obtain ⟨i,hi⟩:=znV p hp hle hoo h0
   obtain ⟨g1,g2,g3⟩:=znB h0
   have hko:=znA p ⟨o.pred,o.args,o.elem⟩
   dsimp only at hko
   rw [zaM hi] at hko
   dsimp only at hko
   have hpi:=hi.hi
   have hax:=hi.ax
   have hal:=hax.1
   have htl:=hi.htl
   have hkl:(o.args.take p.preds[i].key.toNat).length≤1048576:=by rw [List.length_take];omega
   have hlk:=fun m=>ztB p hp hle d hsz o.pred (o.args.take p.preds[i].key.toNat) hkl (.inr fun a ha=>hax.sz a (List.mem_of_mem_take ha)) m
   have hrest:=zuH p hp hle d hL hX o hoo h0 hi
   have hvf:=(lL.1 h0).2.1
   obtain ⟨-,i',hpi',hi', -, -,hel⟩:=hvf
   have hii:i'=i:=by have:=hi.hoi;omega
   subst hii
   have hap:=fun (l:List Op1) (hl:l.length≤1048576) (hlo: ∀ x∈l,x.ok)=>zrH p hp hle d hsz l ⟨hl,hlo⟩
   have hSm:=pP d (znT hsz)
   obtain ⟨kind,pred,args,elem,⟨sa,sb⟩⟩:=o
   have hA1:=hap [⟨1,pred,args,elem,⟨sa,sb⟩⟩,⟨2,pred,args,elem,⟨sa,sb⟩⟩] (by simp) (by simp;exact ⟨hoo,hoo⟩)
   have hA2:=hap [⟨2,pred,args,elem,⟨sa,sb⟩⟩] (by simp) (by simp;exact hoo)
   have hor:=hi.hoi
   have hof:=hi.hof
   dsimp only at*
   subst hor
   clear hap
   refine ge ?_
   (refine Go.AL.g1 ?_;refine zC (hko.call zK (by simp [zJ]) _) ?_;intro p2 h2 hr2;refine Go.AL.g2 ?_)
   obtain ⟨rfl,rfl⟩:=hr2
   refine ge ?_
   obtain ⟨a,rfl⟩:=Int.eq_ofNat_of_zero_le g1
   obtain ⟨b,rfl⟩:=Int.eq_ofNat_of_zero_le (show 0≤sb by omega)
   refine zW (K4 (.k:: .k:: .d:: .k:: .k:: .k:: .v:: .d:: .d::K9 (K9 (K9 (K9 (D9 (D9 (.d:: .d::K9 (K9 (K9 (K9 (K9 (K9 (K4 (.k:: .k:: .k::[]))))))))))))))) (fun (s:Nat×Heap)=>[i64 s.1]) (fun s=> .var 27 p.c:: .var 31 d.c:: .var 38 [i64 kind,i64 i',pH args,i64 elem,i64 a,i64 b]::s.2) (fun s=>a≤s.1∧s.1≤b∧ ∀ m:Nat,a≤m→m<s.1→ztF p d i' (args.take p.preds[i'].key.toNat) m=none) (fun s=>64-s.1) (own:=false) (a,[]) rfl rfl ⟨Nat.le_refl _,by omega,fun m h1 h2=>absurd h2 (by omega)⟩ ?_
   rintro ⟨m,J⟩ ⟨i1,i2,i3⟩ t ht
   dsimp only at*
   simp only [zY] at ht;subst ht
   by_cases hm:m<b
   ·have hwr:IntKind.i64.wrap ((m:Int)+1)=((m+1:Nat):Int):=by rw [xM (by omega) (by omega)];omega
    have hlm:=hlk m
    have hnx:ztF p d i' (args.take p.preds[i'].key.toNat) m=none→ ∀ k:Nat,a≤k→k<m+1→ztF p d i' (args.take p.preds[i'].key.toNat) k=none:=fun q k h1 h2=>by
     rcases Nat.lt_or_ge k m with r|r
     ·exact i3 k h1 r
     ·have:k=m:=by omega
      subst this;exact q
    obtain ⟨r,hre⟩: ∃ r,ztF p d i' (args.take p.preds[i'].key.toNat) m=r:=⟨_,rfl⟩
    rw [hre] at hlm hnx
    clear hre
    refine gf (a3 @hm @zA @zD) ?_
    (refine Go.AL.g1f (a3 @hm @zA @zD) ?_;refine zC (hlm.call zK (by simp [zJ]) _) ?_;intro p2 h2 hr2;refine Go.AL.g2 ?_)
    obtain ⟨rfl,rfl⟩:=hr2
    cases r with
    |none=>
     unfold faV
     refine gf (a4 @hm @zA @zD @hwr) ?_
     exact ⟨(m+1,_),⟨by dsimp only;omega,by dsimp only;omega,hnx rfl⟩,by dsimp only;omega,rfl,rfl,rfl⟩
    |some f=>
     unfold faV
     refine gf (a3 @hm @zA @zD) ?_
     rfl
   ·have hn: ∀ m:Nat,xT (⟨(a:Int),(b:Int)⟩:Sp) m=true→ztF p d i' (args.take p.preds[i'].key.toNat) m=none:=fun k hk=>by
     unfold xT at hk
     simp only [decide_eq_true_eq] at hk
     exact i3 k (by omega) (by omega)
    obtain ⟨r1,r2⟩:=hrest hn
    rw [r1] at hA1
    rw [r2] at hA2
    dsimp only at hA1 hA2
    have z0:((0:Int)==0)=true:=rfl
    have hx:=zG (f:=Pd.c) [] hpi
    have hla:=zr7 p hpi
    have hlo:=fun k:p.preds[i'].of'.toNat<p.lats.length=>hp.l _ (List.getElem_mem k)
    clear hrest hlk i3 hn r1 r2 hX hv hko hax hal htl hkl
    refine gf (a5 @hm @rU @sB @qK @rN) ?_
    (refine Go.AL.g1f (a4 @rU @sB @qK @rN) ?_;refine zC ((hA1.args (.cons (PLe.refl _) (.cons (PLe.refl _) (.cons (PLe.tc_ts 6 _) .nil)))).call zK (by simp [zJ,oM]) _) ?_;intro p2 h2 hr2;refine Go.AL.g2 ?_)
    obtain ⟨rfl,rfl⟩:=hr2
    refine gf (a4 @rU @sB @qK @rN) ?_
    (refine Go.AL.g1f (a4 @rU @sB @qK @rN) ?_;refine zC ((hA2.args (.cons (PLe.refl _) (.cons (PLe.refl _) (.cons (PLe.tc_ts 6 _) .nil)))).call zK (by simp [zJ,oM]) _) ?_;intro p2 h2 hr2;refine Go.AL.g2 ?_)
    obtain ⟨rfl,rfl⟩:=hr2
    by_cases hof1:p.preds[i'].of'= -1
    ·have e5:(p.preds[i'].of' != -1)=false:=by simp [hof1]
     refine gf (a9 @rU @sB @qK @rN @hpi @hx @zB @e5 @z0) ?_
     (refine Go.AL.g1f (a5 @rU @sB @qK @rN @z0) ?_;refine zC (hSm.call zK (by simp [zJ]) _) ?_;intro p2 h2 hr2;refine Go.AL.g2 ?_)
     obtain ⟨rfl,rfl⟩:=hr2
     refine gf (a5 @rU @sB @qK @rN @z0) ?_
     (refine Go.AL.g1f (a5 @rU @sB @qK @rN @z0) ?_;refine zC (hSm.call zK (by simp [zJ]) _) ?_;intro p2 h2 hr2;refine Go.AL.g2 ?_)
     obtain ⟨rfl,rfl⟩:=hr2
     refine gf (a5 @rU @sB @qK @rN @z0) ?_
     rfl
    ·have e5:(p.preds[i'].of' != -1)=true:=by simp [hof1]
     have h0o:0≤p.preds[i'].of':=by omega
     have hol:p.preds[i'].of'.toNat<p.lats.length:=by omega
     obtain ⟨-,hne⟩:=hel hol h0o
     have hbT:=zj7 _ (hlo hol)
     have hla:=hla h0o hol
     have e6:(oU p.lats[p.preds[i'].of'.toNat]==elem)=false:=by rw [beq_eq_false_iff_ne];exact fun q=>hne q.symm
     generalize p.lats[p.preds[i'].of'.toNat]=lt at*
     generalize oU lt=bt at*
     (repeat (first|refine gz ?_|(refine gn ?_;intro zs zh;(try simp only [go_sem,rU,sB,qK,rN,hpi,hx,zB,e5,z0] at zh);subst zh;refine gv ?_)|refine yD ULaw4f8.pp ?_))
     (refine vY ?_;refine zN rfl rfl rfl ?_;intro sr hsr;simp only [sK,wP] at hsr;subst hsr;(first|refine pK ?_|refine pL ?_);intro sr hsr;simp only [go_sem,rU,sB,qK,rN,hpi,hx,zB,e5] at hsr;subst hsr;refine vP rfl (hla) (by simp [zJ]) ?_;intro p2 hr2 ts2 hts;simp only [go_sem] at hts;subst hts)
     subst hr2
     (repeat (first|refine gz ?_|(refine gn ?_;intro zs zh;(try simp only [go_sem,rU,sB,qK,rN,hpi,hx,zB,e5,z0] at zh);subst zh;refine gv ?_)|refine yD ULaw4f8.pp ?_))
     (refine vY ?_;refine zN rfl rfl rfl ?_;intro sr hsr;simp only [sK,wP] at hsr;subst hsr;(first|refine pK ?_|refine pL ?_);intro sr hsr;simp only [go_sem,rU,sB,qK,rN,hpi,hx,zB,e5] at hsr;subst hsr;refine vP rfl (hbT) (by simp [zJ]) ?_;intro p2 hr2 ts2 hts;simp only [go_sem] at hts;subst hts)
     subst hr2
     (repeat (first|refine gz ?_|(refine gn ?_;intro zs zh;(try simp only [go_sem,rU,sB,qK,rN,hpi,hx,zB,e5,e6,z0] at zh);subst zh;refine gv ?_)|refine yD ULaw4f8.pp ?_))
     (refine Go.AL.g1f (a5 @rU @sB @qK @rN @z0) ?_;refine zC (hSm.call zK (by simp [zJ]) _) ?_;intro p2 h2 hr2;refine Go.AL.g2 ?_)
     obtain ⟨rfl,rfl⟩:=hr2
     refine gf (a5 @rU @sB @qK @rN @z0) ?_
     (refine Go.AL.g1f (a5 @rU @sB @qK @rN @z0) ?_;refine zC (hSm.call zK (by simp [zJ]) _) ?_;intro p2 h2 hr2;refine Go.AL.g2 ?_)
     obtain ⟨rfl,rfl⟩:=hr2
     refine gf (a5 @rU @sB @qK @rN @z0) ?_
     rfl
end Go.AL
namespace Go.Proofs.YtcffidhiaihbkaaGreatDoor
open Go.ChangeShapes Go.WideShapes Go.ChangeAt Go.RowKit Go.AL Go.Proofs
theorem own:ownKnob Tryz.prog.godebug=none:=by kernel_rfl
theorem oO:laidOutB Tryz.prog=true:=by kernel_rfl
theorem ul5:Tryz.prog.underlying 5=some (.int .u8):=by kernel_rfl
theorem ul4:Tryz.prog.underlying 4=some .bool:=by kernel_rfl
theorem znX:Tryz.f8.params= #[27,31,38]:=by kernel_rfl
theorem zdL {W:World} (h:laidMetH Tryz.prog Rows.baseRestoresRow.laid W):GRel ⟨[],[],W,fun _=>False⟩ G0:=by
 rw [MakeChecks.laidMetH_plain _ _ _ (by kernel_rfl)] at h
 obtain ⟨ps,⟨g0,t0,cs0,f0,p0,q0,hg0,ht0,hv0,hd0,⟨g1,t1,cs1,f1,p1,q1,hg1,ht1,hv1,hd1,⟨g2,t2,cs2,f2,p2,q2,hg2,ht2,hv2,hd2,_,_⟩,_⟩,_⟩,_,_⟩:=h
 obtain rfl:=Option.some.inj ((show Tryz.prog.globalNamed "math/bits.deBruijn64tab" =some 2 by kernel_rfl).symm.trans hg0)
 obtain rfl:=Option.some.inj ((show Tryz.prog.globalNamed "porism/lattice.keys" =some 1 by kernel_rfl).symm.trans hg1)
 obtain rfl:=Option.some.inj ((show Tryz.prog.globalNamed "porism/value.words" =some 0 by kernel_rfl).symm.trans hg2)
 obtain rfl:=Option.some.inj ((show (Tryz.prog.globals[2]?).map (·.type)=some 297 by kernel_rfl).symm.trans ht0)
 obtain rfl:=Option.some.inj ((show (Tryz.prog.globals[1]?).map (·.type)=some 70 by kernel_rfl).symm.trans ht1)
 obtain rfl:=Option.some.inj ((show (Tryz.prog.globals[0]?).map (·.type)=some 221 by kernel_rfl).symm.trans ht2)
 have r0:=eP (X:=fun _=>False) (fun _ h=>h) (n:=2) (by kernel_rfl) hg0 hv0 hd0 (show _=db by kernel_rfl)
 have r1:=eP (X:=fun _=>False) (fun _ h=>h) (n:=2) (by kernel_rfl) hg1 hv1 hd1 (show _=[.ts 1 (ws.map ([·]))] by kernel_rfl)
 have r2:=eP (X:=fun _=>False) (fun _ h=>h) (n:=2) (by kernel_rfl) hg2 hv2 hd2 (show _=ws by kernel_rfl)
 intro g cs hG
 unfold G0 at hG
 split at hG
 ·rename_i e;rw [beq_iff_eq] at e;subst e;cases hG;exact r2
 ·split at hG
  ·rename_i e;rw [beq_iff_eq] at e;subst e;cases hG;exact r1
  ·split at hG
   ·rename_i e;rw [beq_iff_eq] at e;subst e;cases hG;exact r0
   ·cases hG
set_option maxRecDepth 100000 in
theorem zbC (os:Os) (started:os.Started) (H:Type) (enc:TypeId×Value→H):
  ReturnsInHanded {} Tryz.checked os 8 .any (fun w args=>(Rows.baseRestoresSpec.pre enc Tryz.prog Tryz.f8 [] false w args∧laidMetH Tryz.prog Rows.baseRestoresRow.laid w)∧sizedMet enc Tryz.prog Tryz.f8 (OpenSpec.ofChange Rows.baseRestoresSpec) false w args)
   (Rows.baseRestoresSpec.post enc Tryz.prog Tryz.f8 false true false false):=by
 refine returnsInHanded_of_change_and (C:=Tryz.checked) (X:=fun w _=>laidMetH Tryz.prog Rows.baseRestoresRow.laid w) (fun _ _ _ hh h=>h.of_heap hh) own started (by kernel_rfl) Tryz.func8
  (ChangeSpec.witness_shaped (enc:=enc) (C:=Tryz.checked) (os:=os) (X:=fun w _=>laidMetH Tryz.prog Rows.baseRestoresRow.laid w) false (World.laidAll Tryz.prog os Rows.baseRestoresRow.laid) #[.agg #[.slice none 0 0,.slice none 0 0,.slice none 0 0,.slice none 0 0],.agg #[.slice none 0 0,.slice none 0 0],.agg #[.int .i64 0,.int .i64 0,.slice none 0 0,.int .i64 0,.int .i64 0,.int .i64 0]] 8 (World.laidAll_os _ _ _)
   (World.shaped_of_ZipB (by kernel_rfl) (by kernel_rfl)) (by kernel_rfl) (by kernel_rfl) (by kernel_rfl)
   (by rw [MakeChecks.laidMetH_plain _ _ _ (by kernel_rfl)];exact laidMet_laidAll _ (by kernel_rfl) (by kernel_rfl))) ?_
 intro W base args ds gs before hval0 hW hc hsz hL _
 have hval: ∀ (j:Nat) t v,Tryz.f8.params[j]? =some t→args[j]? =some v→Value.okWide Tryz.prog W .any base t v:=hval0
 have hW':=hW
 obtain ⟨p,q,hA0,hV,rfl,_,_⟩:=hW
 have hA:DataW.TrodAll enc Tryz.prog W 0 (fun _=>true) true Tryz.f8.params.toList args.toList ds p:=hA0
 rw [znX] at hA hval
 obtain ⟨v0,vs0,d0,ds0,p0,q0,hargs,rfl,rfl,h0,t0⟩:=trodAll_cons hA
 obtain ⟨v1,vs1,d1,ds1,p1,q1,rfl,rfl,rfl,h1,t1⟩:=trodAll_cons t0
 obtain ⟨v2,vs2,d2,ds2,p2,q2,rfl,rfl,rfl,h2,t2⟩:=trodAll_cons t1
 obtain ⟨rfl,rfl,rfl⟩:=trodAll_nil t2
 obtain rfl:args= #[v0,v1,v2]:=by cases args;simp_all
 obtain ⟨rfl,rfl⟩:=trodVars_none hV
 rw [List.all_eq_true] at hsz
 have w0:Light Tryz.prog 27 d0:=fun k hk=>of_decide_eq_true (hsz k (List.mem_append_left _ hk))
 have w1:Light Tryz.prog 31 d1:=fun k hk=>of_decide_eq_true (hsz k (List.mem_append_right _ (List.mem_append_left _ hk)))
 have w2:Light Tryz.prog 38 d2:=fun k hk=>of_decide_eq_true (hsz k (List.mem_append_right _ (List.mem_append_right _ (List.mem_append_left _ hk))))
 obtain ⟨a0,b0,r0⟩:=dPg.arg (ts:=[22,23,24,25]) (by kernel_rfl) (by kernel_rfl) w0 (hval 0 _ v0 rfl rfl) h0
 obtain ⟨a1,b1,r1⟩:=dDt.arg (ts:=[28,29]) (by kernel_rfl) (by kernel_rfl) w1 (hval 1 _ v1 rfl rfl) h1
 obtain ⟨a2,b2,r2⟩:=dOp.arg (ts:=[3,34,36]) (by kernel_rfl) (by kernel_rfl) w2 (hval 2 _ v2 rfl rfl) h2
 have hS:SRel ⟨[],[],W,fun _=>False⟩:=⟨rfl,fun r b v h=>by simp at h,fun r r' v v' n h=>by simp at h,fun a h=>h.elim,fun a h=>h.elim⟩
 obtain ⟨pr,rfl, -,hcall⟩:=zsC a0 b0 a1 b1 a2 b2
 have law:=hcall.2 [] W (fun _=>False) #[v0,v1,v2] hS (zdL hL) rfl fun i p v hp hv=>by
  match i,hp,hv with
  |0,hp,hv=>simp at hp hv;subst hp;subst hv;exact r0
  |1,hp,hv=>simp at hp hv;subst hp;subst hv;exact r1
  |2,hp,hv=>simp at hp hv;subst hp;subst hv;exact r2
  |i+3,hp,hv=>simp at hp
 have hlt0: ∀ z∈p0,z.block<W.heap.size:=fun z hz=>by
  have:=hW'.lt z (by simp [hz])
  simpa using this
 have hlt1: ∀ z∈p1,z.block<W.heap.size:=fun z hz=>by
  have:=hW'.lt z (by simp [hz])
  simpa using this
 have hlt2: ∀ z∈p2,z.block<W.heap.size:=fun z hz=>by
  have:=hW'.lt z (by simp [hz])
  simpa using this
 refine (callsIn_wide.1 law).mono fun e W' ⟨φ',h',p,v,he,hext,_,hrel,hp,_⟩=> ?_
 subst he;subst hp
 have hb:=zdY hext
 obtain rfl:v= .bool true:=by cases hrel;rfl
 exact ⟨_,rfl,_,_,_,[],_,[],hW',trodAll_mk1 (shut_bool ul4 _),trodAll_cons_mk (Below.trod oO (by kernel_rfl) (of_decide_eq_true (by kernel_rfl)) h0 hb (hlt0)) (trodAll_cons_mk (Below.trod oO (by kernel_rfl) (of_decide_eq_true (by kernel_rfl)) h1 hb (hlt1)) (trodAll_mk1 (Below.trod oO (by kernel_rfl) (of_decide_eq_true (by kernel_rfl)) h2 hb (hlt2)))),rfl,hb.frame _,fun h=>by cases h⟩
end Go.Proofs.YtcffidhiaihbkaaGreatDoor
namespace Go.Proofs.YtcffidhiaihbkaaGreatDoor
open Go
theorem jf0:(Rows.baseRestoresRow.wf (OpenSpec.ofChange Rows.baseRestoresSpec))=true:=by kernel_rfl
theorem jf1:(laidOutB Tryz.prog)=true:=by kernel_rfl
theorem jf2:(mapsRowed Tryz.prog)=true:=by kernel_rfl
theorem jf3:(Tryz.f8.params.all (Tryz.prog.readableRec ·))=true:=by kernel_rfl
theorem jf4:(namedTie Tryz.prog Rows.baseRestoresRow.named Rows.baseRestoresSpec.vars)=true:=by kernel_rfl
theorem jf5:((Rows.baseRestoresRow.stops==[]))=true:=by kernel_rfl
theorem jf6:((Tryz.prog.stops==[]))=true:=by kernel_rfl
theorem jf7:((Rows.baseRestoresRow.knobs==[]))=true:=by kernel_rfl
theorem jf8:((Tryz.prog.stopKnobs==[]))=true:=by kernel_rfl
theorem jf9:((Rows.baseRestoresRow.inPlace==Tryz.prog.inPlace 8))=true:=by kernel_rfl
theorem zcJ:((Rows.baseRestoresRow.unfollowed==Tryz.prog.unfollowed 8))=true:=by kernel_rfl
theorem fZ:((Rows.baseRestoresRow.recurses==Tryz.prog.recurses 8))=true:=by kernel_rfl
theorem gE:((Rows.baseRestoresRow.named==Tryz.prog.varsNamed 8))=true:=by kernel_rfl
theorem gD:((Rows.baseRestoresRow.maps==(Tryz.f8.params.toList++Rows.baseRestoresSpec.plain.varTypes Tryz.prog).any (Tryz.prog.mapsRec ·)))=true:=by kernel_rfl
theorem jE:((Rows.baseRestoresRow.ifaces==(Tryz.f8.params.toList++Rows.baseRestoresSpec.plain.varTypes Tryz.prog).any (Tryz.prog.ifacesRec ·)))=true:=by kernel_rfl
theorem mF:((Rows.baseRestoresRow.mapsOut==Tryz.prog.mapsAmong Tryz.f8.resultTypes.toList))=true:=by kernel_rfl
theorem mE:((Rows.baseRestoresRow.loops==(Tryz.f8.params.toList++Rows.baseRestoresSpec.plain.varTypes Tryz.prog).any (Tryz.prog.loopsFrom ·)))=true:=by kernel_rfl
theorem mD:((Rows.baseRestoresRow.wideKeys==(Tryz.f8.params.toList++Rows.baseRestoresSpec.plain.varTypes Tryz.prog++Tryz.f8.resultTypes.toList).any (Tryz.prog.wideKeysFrom ·)))=true:=by kernel_rfl
theorem nZ:(Rows.baseRestoresSpec.vars.all (Tryz.prog.varReadable ·))=true:=by kernel_rfl
theorem nH:(Tryz.f8.resultTypes.all (fun t=>Tryz.prog.readableRec t&&decide (t<Tryz.prog.types.size)))=true:=by kernel_rfl
theorem nE:((Rows.baseRestoresRow.ifacesOut==Tryz.f8.resultTypes.toList.any (Tryz.prog.ifacesRec ·)))=true:=by kernel_rfl
theorem nD:((Rows.baseRestoresRow.loopsOut==Tryz.f8.resultTypes.toList.any (Tryz.prog.loopsFrom ·)))=true:=by kernel_rfl
theorem nC:((Rows.baseRestoresRow.plainKeys==Tryz.prog.plainKeys))=true:=by kernel_rfl
theorem nB:(Rows.baseRestoresRow.shortTexts.isNone)=true:=by kernel_rfl
theorem nA:(Tryz.prog.stopsHeard)=true:=by kernel_rfl
theorem oZ:(Tryz.prog.mayEnter)=true:=by kernel_rfl
theorem oY:((Rows.baseRestoresRow.lifted==Tryz.prog.liftsFinal))=true:=by kernel_rfl
theorem oX:((Tryz.prog.make==some Rows.baseRestoresRow.make))=true:=by kernel_rfl
theorem oW:((Rows.baseRestoresRow.kinds==(if Rows.baseRestoresRow.domain.isEmpty then [] else Tryz.f8.params.toList.map fun t=>match Tryz.prog.underlying t with|some (.int k)=>some k|_=>none)))=true:=by kernel_rfl
theorem oV:((Rows.baseRestoresRow.pinned==Rows.baseRestoresRow.pinnedBy))=true:=by kernel_rfl
theorem pT:((Rows.baseRestoresRow.veiled==(Tryz.f8.params.toList++Rows.baseRestoresSpec.plain.varTypes Tryz.prog++Tryz.f8.resultTypes.toList).any (Tryz.prog.veiledRec ·)))=true:=by kernel_rfl
theorem pS:(Rows.baseRestoresRow.veiledFits Tryz.prog Tryz.f8.params.toList (Tryz.f8.params.toList++Rows.baseRestoresSpec.plain.varTypes Tryz.prog++Tryz.f8.resultTypes.toList))=true:=by kernel_rfl
end Go.Proofs.YtcffidhiaihbkaaGreatDoor
