/-
  The closed facts of the row of BaseMoments, one by one.
-/
import Derived.Test.YtcffidhiaihbkaaGreatDoorX45
import Derived.Test.YtcffidhiaihbkaaGreatDoorTie
import Derived.Test.YtcffidhiaihbkaaGreatDoorCards
import Derived.Handy
import Derived.Lay
import Derived.ChangeMaps5
import Derived.SevenTiedAt
import Derived.Deep.DeepHandedRow
import Derived.Lib.LaidTab
set_option linter.unusedSimpArgs false
set_option linter.unusedVariables false
set_option maxRecDepth 100000
set_option maxHeartbeats 4000000
namespace Go.AL
open Go.Proofs Go.Proofs.Tryz
theorem zfO (o:Op1) (m:Int):EPure prog G0 16 [.agg o.c,i64 m] fun v=>v=bo (decide (o.span.a≤m)&&decide (m<o.span.b)):=by
 refine ECall.cut (R:=fun v _=>v=bo (decide (o.span.a≤m)&&decide (m<o.span.b))) (pv func16 17 false (by kernel_rfl) rfl rfl ?_) (by rintro p h rfl;rfl)
 refine g2 ?_
 obtain ⟨kind,pred,args,elem,⟨a,b⟩⟩:=o
 dsimp only
 by_cases h1:a≤m
 ·have e1:decide (a≤m)=true:=by simp [h1]
  rw [e1]
  refine gf @e1 ?_
  rfl
 ·have e1:decide (a≤m)=false:=by simp [h1]
  rw [e1]
  refine gf @e1 ?_
  rfl
def zo4:Option Fa→Fa
 |none=>⟨0,[],0⟩
 |some f=>f
theorem zoN (o:Option Fa):faV o= .tup [.agg (zo4 o).c,bo o.isSome]:=by cases o<;>rfl
theorem znQ (p:Pg) (hp:p.ok) (hle:p.sm) (d:Dt) (o:Op1) (ho:o.ok) (hL:LenD 40 d):((zk4 p d [o]).2=0↔DatX p d∧zoM p o=0)∧(DatX p d→zoM p o=0→(zk4 p d [o]).1=zl0 p d o):=by
 rw [lQ p hp hle d [o] (by simpa using ho) hL (by simp) (by simp)]
 by_cases hX:DatX p d
 ·rw [if_neg (by rw [pO hX];decide)]
  by_cases h0:zoM p o=0
  ·rw [if_neg (by rw [hZ h0];exact fun k=>k rfl)]
   exact ⟨⟨fun _=>⟨hX,h0⟩,fun _=>rfl⟩,fun _ _=>rfl⟩
  ·have hf:uD p [o]=zoM p o:=by rw [yL,if_neg h0]
   rw [if_pos (by rw [hf];exact h0)]
   exact ⟨⟨fun h=>absurd (hf.symm.trans h) h0,fun h=>absurd h.2 h0⟩,fun _ h=>absurd h h0⟩
 ·rw [if_pos (uA hX)]
  exact ⟨⟨fun h=>(by cases h),fun h=>absurd h.1 hX⟩,fun h=>absurd h hX⟩
theorem iY {p:Pg} (hp:p.ok) (hle:p.sm) {d:Dt} (hX:DatX p d) {pred:Int} {key:List Vl} (hk:key.length≤1048576) {m:Int}:(zo4 (ztF p d pred key m)).args.length≤1048576:=by
 cases h:ztF p d pred key m with
 |none=>exact Nat.zero_le _
 | some f=>
  show f.args.length≤1048576
  by_cases h1:pred<0∨(p.preds.length:Int)≤pred
  ·rw [zc3 h1] at h;cases h
  obtain ⟨i,rfl⟩:=Int.eq_ofNat_of_zero_le (show 0≤pred by omega)
  have hi:i<p.preds.length:=by omega
  have hir:i<d.rels.length:=by rw [hX.rl];exact hi
  have hil:i<d.lats.length:=by rw [hX.ll];exact hi
  rw [ztN hX hi hir hil] at h
  unfold lkQ at h
  split at h
  ·cases h
  ·split at h
   ·split at h
    ·cases h
    ·injection h with h;subst h;exact hk
   ·rename_i h2 h3
    have hb:p.preds[i].base=true:=by
     cases q:p.preds[i].base with
     |true=>rfl
     |false=>exact absurd (.inl q) h2
    have hof:p.preds[i].of'= -1:=Classical.byContradiction fun q=>h3 q
    obtain ⟨-,hR, -⟩:=(hX.at' i hi hir hil).2.2 hb hof
    cases hr:zjH p.preds[i].key.toNat key m d.rels[i] with
    |none=>rw [hr] at h;cases h
    |some x=>
     rw [hr] at h
     injection h with h;subst h
     obtain ⟨-,ht⟩:=znP hp hle hX.tv
     have:=(hR.2 x (zsS hr).1).1
     have:=(ht _ (List.getElem_mem hi)).1
     show x.args.length≤1048576
     omega
theorem zm7 (p:Pg) (hp:p.ok) (d:Dt) (hd:d.raw) (o:Op1) (ho:o.raw) (pred:Int) (key:List Vl) (hkL:key.length≤140737488355328) (hkv: ∀ v∈key,VIn v∧v.s.size≤1048576) (u:Nat) (hu:u<256):
  EPure prog G0 3 [.agg p.c,.agg d.c,.agg o.c,i64 pred,pH key,u8 u] fun v=>v=bo true:=by
 have hoo:o.ok:=ho
 refine ECall.cut (R:=fun v _=>v=bo true) (pv func3 196 false (by kernel_rfl) rfl rfl ?_) (by rintro p h rfl;rfl)
 refine g2 ?_
 refine ge ?_
 (refine Go.AL.g1 ?_;refine zC (zl6 _) ?_;intro p2 h2 hr2;refine Go.AL.g2 ?_)
 obtain ⟨rfl,rfl⟩:=hr2
 refine ge ?_
 (refine Go.AL.g1 ?_;refine zC ((zbT p hp d hd).call zK (by simp [zJ]) _) ?_;intro p2 h2 hr2;refine Go.AL.g2 ?_)
 obtain ⟨⟨c,rfl,hc⟩,rfl⟩:=hr2
 cases c with
 |false=>
  refine ge ?_
  rfl
 | true =>
  obtain ⟨⟨hlat,hpl⟩,hfew⟩:=hc rfl
  have hle:p.sm:=fun x hx=>by have:=hlat x hx;omega
  have hsz:=hd.sz hfew
  have hL:=hfew.len
  by_cases hk10:(10:Int)<(key.length:Int)
  ·have e1:decide ((10:Int)<(key.length:Int))=true:=by simp only [hk10,decide_true]
   refine gf @e1 ?_
   rfl
  have e1:decide ((10:Int)<(key.length:Int))=false:=by simp only [hk10,decide_false]
  have hkl:key.length≤10:=by omega
  have hA:=zrH p hp hle d hsz [o] ⟨by simp,by simpa using hoo⟩
  obtain ⟨hone,hone2⟩:=znQ p hp hle d o hoo hL
  refine gf @e1 ?_
  (refine Go.AL.g1 ?_;refine zC ((hA.args (.cons (PLe.refl _) (.cons (PLe.refl _) (.cons (PLe.tc_ts 6 _) .nil)))).call zK (by simp [zJ,oM]) _) ?_;intro p2 h2 hr2;refine Go.AL.g2 ?_)
  obtain ⟨rfl,rfl⟩:=hr2
  by_cases he:(zk4 p d [o]).2=0
  case neg=>
   have e2:((zk4 p d [o]).2 !=0)=true:=by simp [he]
   refine gf @e2 ?_
   (refine Go.AL.g1 ?_;refine zC ((zoK p hp hle o hoo).1.call zK (by simp [zJ]) _) ?_;intro p2 h2 hr2;refine Go.AL.g2 ?_)
   obtain ⟨rfl,rfl⟩:=hr2
   by_cases h0:zoM p o=0
   ·have e3:(zoM p o !=0)=false:=by simp [h0]
    refine gf @e3 ?_
    (refine Go.AL.g1 ?_;refine zC ((zeD p hp hle d hsz).call zK (by simp [zJ]) _) ?_;intro p2 h2 hr2;refine Go.AL.g2 ?_)
    obtain ⟨rfl,rfl⟩:=hr2
    rw [uA fun hX=>he (hone.2 ⟨hX,h0⟩)]
    refine gf @e3 ?_
    rfl
   ·have e3:(zoM p o !=0)=true:=by simp [h0]
    refine gf @e3 ?_
    rfl
  obtain ⟨hX,h0⟩:=hone.1 he
  obtain ⟨i,hi⟩:=znV p hp hle hoo h0
  have hx1:=hone2 hX h0
  have hxz:=zhA p hp hle d [o] (by simpa using hoo) hsz
  have hX':=hX.op hp hi
  rw [he]
  rw [hx1] at hxz ⊢
  obtain ⟨m,hme⟩: ∃ m,u%64=m:=⟨_,rfl⟩
  have hm:m<64:=by omega
  obtain ⟨-,i',hpi',hi', -,hel1,hel2⟩:=(lL.1 h0).2.1
  have hii:i'=i:=by have:=hi.hoi;omega
  subst hii
  have hMK:=znW hp hle hX hi (fun q=>hel1 (by omega)) (fun k q=>(hel2 k q).2) hm
  have hko:=znA p ⟨o.pred,o.args,o.elem⟩
  dsimp only at hko
  rw [zaM hi] at hko
  dsimp only at hko
  have hal:o.args.length≤1048576:=by rw [hi.ax.1];exact hi.htl
  obtain ⟨own,hown⟩: ∃ own,o.args.take p.preds[i'].key.toNat=own:=⟨_,rfl⟩
  have hol:own.length≤1048576:=by rw [←hown,List.length_take];omega
  have hos: ∀ a∈own,a.s.size≤1048576:=fun a ha=>hi.ax.sz a (List.mem_of_mem_take (by rw [←hown] at ha;exact ha))
  rw [hown] at hko hMK
  have hkz: ∀ a∈key,a.s.size≤1048576:=fun a ha=>(hkv a ha).2
  have k1:=ztB p hp hle d hsz i' own hol (.inr hos) m
  have k2:=ztB p hp hle (zl0 p d o) hxz i' own hol (.inr hos) m
  have k3:=ztB p hp hle d hsz pred key (by omega) (.inr hkz) m
  have k4:=ztB p hp hle (zl0 p d o) hxz pred key (by omega) (.inr hkz) m
  have n1:=iY hp hle hX (pred:=(i':Int)) (key:=own) hol (m:=(m:Int))
  have n2:=iY hp hle hX' (pred:=(i':Int)) (key:=own) hol (m:=(m:Int))
  have n3:=iY hp hle hX (pred:=pred) (key:=key) (by omega) (m:=(m:Int))
  have n4:=iY hp hle hX' (pred:=pred) (key:=key) (by omega) (m:=(m:Int))
  obtain ⟨mt,mf,mr⟩:=hMK
  have ms:=mr pred key (fun v hv=>(hkv v hv).1)
  clear mr
  rw [zoN] at k1 k2 k3 k4
  have hwi:=zfO o m
  have hhit:xT o.span m=(decide (o.span.a≤(m:Int))&&decide ((m:Int)<o.span.b)):=by rw [gQ hm];simp
  rw [←hhit] at hwi
  have hkk:=hi.k
  have hoi:=hi.hoi
  generalize ztF p d i' own m=L0 at*
  generalize ztF p (zl0 p d o) i' own m=L1 at*
  generalize ztF p d pred key m=L2 at*
  generalize ztF p (zl0 p d o) pred key m=L3 at*
  generalize zl0 p d o=x at*
  generalize xT o.span m=W at*
  clear hhit hi hX' hX hone hone2 hx1 h0 he hA hxz hel1 hel2 hown hL hfew
  obtain ⟨kind,opr,args,elem,⟨sa,sb⟩⟩:=o
  dsimp only at*
  subst hoi
  have hwu:IntKind.i64.wrap (u:Int)=u:=xM (by omega) (by omega)
  have h5:(prog.underlying 5).isSome=true:=by kernel_rfl
  have hmu:(u:Int).tmod 64=(m:Int):=by rw [←hme];exact (Int.ofNat_tmod u 64).symm
  have z0:((0:Int)!=0)=false:=rfl
  refine gf (a4 @z0 @hwu @h5 @hmu) ?_
  (refine Go.AL.g1 ?_;refine zC (hko.call zK (by simp [zJ]) _) ?_;intro p2 h2 hr2;refine Go.AL.g2 ?_)
  obtain ⟨rfl,rfl⟩:=hr2
  refine ge ?_
  (refine Go.AL.g1 ?_;refine zC (k1.call zK (by simp [zJ]) _) ?_;intro p2 h2 hr2;refine Go.AL.g2 ?_)
  obtain ⟨rfl,rfl⟩:=hr2
  refine ge ?_
  (refine Go.AL.g1 ?_;refine zC (k2.call zK (by simp [zJ]) _) ?_;intro p2 h2 hr2;refine Go.AL.g2 ?_)
  obtain ⟨rfl,rfl⟩:=hr2
  refine ge ?_
  (refine Go.AL.g1 ?_;refine zC (hwi.call zK (by simp [zJ]) _) ?_;intro p2 h2 hr2;refine Go.AL.g2 ?_)
  obtain ⟨rfl,rfl⟩:=hr2
  have hsf: ∀ a b:Fa,a.args.length≤1048576→a=b→EPure prog G0 17 [.agg a.c,.agg b.c] fun r=>r=bo true:=fun a b h e=>by
   have:=zbX a b (by omega)
   subst e
   rw [decide_eq_true ⟨rfl,rfl,rfl⟩] at this
   exact this
  have hbb: ∀ b:Bool,(b==b)=true:=fun b=>by cases b<;>rfl
  have hbn: ∀ b:Bool,(b !=b)=false:=fun b=>by cases b<;>rfl
  cases W with
  | false=>
   refine ge ?_
   (refine Go.AL.g1 ?_;refine zC (hwi.call zK (by simp [zJ]) _) ?_;intro p2 h2 hr2;refine Go.AL.g2 ?_)
   obtain ⟨rfl,rfl⟩:=hr2
   refine ge ?_
   (refine Go.AL.g1 ?_;refine zC (k3.call zK (by simp [zJ]) _) ?_;intro p2 h2 hr2;refine Go.AL.g2 ?_)
   obtain ⟨rfl,rfl⟩:=hr2
   refine ge ?_
   (refine Go.AL.g1 ?_;refine zC (k4.call zK (by simp [zJ]) _) ?_;intro p2 h2 hr2;refine Go.AL.g2 ?_)
   obtain ⟨rfl,rfl⟩:=hr2
   by_cases q1:pred=(i':Int)
   ·have f1:(pred==(i':Int))=true:=by simp [q1]
    refine gf @f1 ?_
    (refine Go.AL.g1f @f1 ?_;refine zC ((zlK key own (by omega)).call zK (by simp) _) ?_;intro p2 h2 hr2;refine Go.AL.g2 ?_)
    obtain ⟨rfl,rfl⟩:=hr2
    by_cases q2:key=own
    ·rw [decide_eq_true q2]
     refine gf @f1 ?_
     (refine Go.AL.g1f @f1 ?_;refine zC (hwi.call zK (by simp [zJ]) _) ?_;intro p2 h2 hr2;refine Go.AL.g2 ?_)
     obtain ⟨rfl,rfl⟩:=hr2
     have mr:=ms fun w=>Bool.noConfusion w.2.2
     subst mr
     refine gf @hbb ?_
     (refine Go.AL.g1f @hbb ?_;refine zC ((hsf _ _ n3 rfl).call zK (by simp [zJ]) _) ?_;intro p2 h2 hr2;refine Go.AL.g2 ?_)
     obtain ⟨rfl,rfl⟩:=hr2
     refine ge ?_
     rfl
    ·rw [decide_eq_false q2]
     have mr:=ms fun w=>q2 w.2.1
     subst mr
     refine gf @hbb ?_
     (refine Go.AL.g1f @hbb ?_;refine zC ((hsf _ _ n3 rfl).call zK (by simp [zJ]) _) ?_;intro p2 h2 hr2;refine Go.AL.g2 ?_)
     obtain ⟨rfl,rfl⟩:=hr2
     refine ge ?_
     rfl
   ·have f1:(pred==(i':Int))=false:=by simp [q1]
    have mr:=ms fun w=>q1 w.1
    refine gf @f1 ?_
    subst mr
    refine gf (a2 @hbb @f1) ?_
    (refine Go.AL.g1f @hbb ?_;refine zC ((hsf _ _ n3 rfl).call zK (by simp [zJ]) _) ?_;intro p2 h2 hr2;refine Go.AL.g2 ?_)
    obtain ⟨rfl,rfl⟩:=hr2
    refine ge ?_
    rfl
  | true=>
   rcases hkk with rfl|rfl
   ·have mt:=mt rfl rfl
    subst mt
    have g1:((1:Int)==1)=true:=rfl
    have g2:((1:Int)==2)=false:=rfl
    have hs:=hsf (⟨i',args,elem⟩:Fa) ⟨i',args,elem⟩ (by dsimp only;omega) rfl
    unfold zo4 at k2
    dsimp only [zo4,Option.isSome]
    refine gf (a2 @g1 @g2) ?_
    (refine Go.AL.g1f (a2 @g1 @g2) ?_;refine zC (hs.call zK (by simp [zJ]) _) ?_;intro p2 h2 hr2;refine Go.AL.g2 ?_)
    obtain ⟨rfl,rfl⟩:=hr2
    refine gf (a2 @g1 @g2) ?_
    (refine Go.AL.g1f (a2 @g1 @g2) ?_;refine zC (hwi.call zK (by simp [zJ]) _) ?_;intro p2 h2 hr2;refine Go.AL.g2 ?_)
    obtain ⟨rfl,rfl⟩:=hr2
    have g3:=g2
    refine gf (a2 @g1 @g2) ?_
    refine ge ?_
    (refine Go.AL.g1 ?_;refine zC (k3.call zK (by simp [zJ]) _) ?_;intro p2 h2 hr2;refine Go.AL.g2 ?_)
    obtain ⟨rfl,rfl⟩:=hr2
    refine ge ?_
    (refine Go.AL.g1 ?_;refine zC (k4.call zK (by simp [zJ]) _) ?_;intro p2 h2 hr2;refine Go.AL.g2 ?_)
    obtain ⟨rfl,rfl⟩:=hr2
    by_cases q1:pred=(i':Int)
    ·have f1:(pred==(i':Int))=true:=by simp [q1]
     refine gf @f1 ?_
     (refine Go.AL.g1f @f1 ?_;refine zC ((zlK key own (by omega)).call zK (by simp) _) ?_;intro p2 h2 hr2;refine Go.AL.g2 ?_)
     obtain ⟨rfl,rfl⟩:=hr2
     by_cases q2:key=own
     ·rw [decide_eq_true q2]
      refine gf @f1 ?_
      (refine Go.AL.g1f @f1 ?_;refine zC (hwi.call zK (by simp [zJ]) _) ?_;intro p2 h2 hr2;refine Go.AL.g2 ?_)
      obtain ⟨rfl,rfl⟩:=hr2
      refine gf @f1 ?_
      rfl
     ·rw [decide_eq_false q2]
      have mr:=ms fun w=>q2 w.2.1
      subst mr
      refine gf @hbb ?_
      (refine Go.AL.g1f @hbb ?_;refine zC ((hsf _ _ n3 rfl).call zK (by simp [zJ]) _) ?_;intro p2 h2 hr2;refine Go.AL.g2 ?_)
      obtain ⟨rfl,rfl⟩:=hr2
      refine ge ?_
      rfl
    ·have f1:(pred==(i':Int))=false:=by simp [q1]
     have mr:=ms fun w=>q1 w.1
     refine gf @f1 ?_
     subst mr
     refine gf (a2 @hbb @f1) ?_
     (refine Go.AL.g1f @hbb ?_;refine zC ((hsf _ _ n3 rfl).call zK (by simp [zJ]) _) ?_;intro p2 h2 hr2;refine Go.AL.g2 ?_)
     obtain ⟨rfl,rfl⟩:=hr2
     refine ge ?_
     rfl
   ·have mf:=mf rfl rfl
    have g1:((2:Int)==1)=false:=rfl
    have g2:((2:Int)==2)=true:=rfl
    refine gf (a2 @g1 @g2) ?_
    (refine Go.AL.g1f (a2 @g1 @g2) ?_;refine zC (hwi.call zK (by simp [zJ]) _) ?_;intro p2 h2 hr2;refine Go.AL.g2 ?_)
    obtain ⟨rfl,rfl⟩:=hr2
    cases L0 with
    | none=>
     have mf:L1=none:=mf
     subst mf
     dsimp only [zo4,Option.isSome]
     refine gf (a3 @g1 @g2 @hbn) ?_
     refine ge ?_
     (refine Go.AL.g1 ?_;refine zC (k3.call zK (by simp [zJ]) _) ?_;intro p2 h2 hr2;refine Go.AL.g2 ?_)
     obtain ⟨rfl,rfl⟩:=hr2
     refine ge ?_
     (refine Go.AL.g1 ?_;refine zC (k4.call zK (by simp [zJ]) _) ?_;intro p2 h2 hr2;refine Go.AL.g2 ?_)
     obtain ⟨rfl,rfl⟩:=hr2
     by_cases q1:pred=(i':Int)
     ·have f1:(pred==(i':Int))=true:=by simp [q1]
      refine gf @f1 ?_
      (refine Go.AL.g1f @f1 ?_;refine zC ((zlK key own (by omega)).call zK (by simp) _) ?_;intro p2 h2 hr2;refine Go.AL.g2 ?_)
      obtain ⟨rfl,rfl⟩:=hr2
      by_cases q2:key=own
      ·rw [decide_eq_true q2]
       refine gf @f1 ?_
       (refine Go.AL.g1f @f1 ?_;refine zC (hwi.call zK (by simp [zJ]) _) ?_;intro p2 h2 hr2;refine Go.AL.g2 ?_)
       obtain ⟨rfl,rfl⟩:=hr2
       refine gf @f1 ?_
       rfl
      ·rw [decide_eq_false q2]
       have mr:=ms fun w=>q2 w.2.1
       subst mr
       refine gf @hbb ?_
       (refine Go.AL.g1f @hbb ?_;refine zC ((hsf _ _ n3 rfl).call zK (by simp [zJ]) _) ?_;intro p2 h2 hr2;refine Go.AL.g2 ?_)
       obtain ⟨rfl,rfl⟩:=hr2
       refine ge ?_
       rfl
     ·have f1:(pred==(i':Int))=false:=by simp [q1]
      have mr:=ms fun w=>q1 w.1
      refine gf @f1 ?_
      subst mr
      refine gf (a2 @hbb @f1) ?_
      (refine Go.AL.g1f @hbb ?_;refine zC ((hsf _ _ n3 rfl).call zK (by simp [zJ]) _) ?_;intro p2 h2 hr2;refine Go.AL.g2 ?_)
      obtain ⟨rfl,rfl⟩:=hr2
      refine ge ?_
      rfl
    | some f=>
     have mf:L1=if f.args=args then none else some f:=mf
     have n1:f.args.length≤1048576:=n1
     dsimp only [zo4,Option.isSome]
     refine gf (a3 @g1 @g2 @hbn) ?_
     (refine Go.AL.g1f (a2 @g1 @g2) ?_;refine zC ((zlK f.args args (by omega)).call zK (by simp) _) ?_;intro p2 h2 hr2;refine Go.AL.g2 ?_)
     obtain ⟨rfl,rfl⟩:=hr2
     by_cases q:f.args=args
     ·rw [if_pos q] at mf
      rw [decide_eq_true q]
      subst mf
      dsimp only [zo4,Option.isSome]
      refine gf (a3 @g1 @g2 @hbn) ?_
      refine ge ?_
      (refine Go.AL.g1 ?_;refine zC (k3.call zK (by simp [zJ]) _) ?_;intro p2 h2 hr2;refine Go.AL.g2 ?_)
      obtain ⟨rfl,rfl⟩:=hr2
      refine ge ?_
      (refine Go.AL.g1 ?_;refine zC (k4.call zK (by simp [zJ]) _) ?_;intro p2 h2 hr2;refine Go.AL.g2 ?_)
      obtain ⟨rfl,rfl⟩:=hr2
      by_cases q1:pred=(i':Int)
      ·have f1:(pred==(i':Int))=true:=by simp [q1]
       refine gf @f1 ?_
       (refine Go.AL.g1f @f1 ?_;refine zC ((zlK key own (by omega)).call zK (by simp) _) ?_;intro p2 h2 hr2;refine Go.AL.g2 ?_)
       obtain ⟨rfl,rfl⟩:=hr2
       by_cases q2:key=own
       ·rw [decide_eq_true q2]
        refine gf @f1 ?_
        (refine Go.AL.g1f @f1 ?_;refine zC (hwi.call zK (by simp [zJ]) _) ?_;intro p2 h2 hr2;refine Go.AL.g2 ?_)
        obtain ⟨rfl,rfl⟩:=hr2
        refine gf @f1 ?_
        rfl
       ·rw [decide_eq_false q2]
        have mr:=ms fun w=>q2 w.2.1
        subst mr
        refine gf @hbb ?_
        (refine Go.AL.g1f @hbb ?_;refine zC ((hsf _ _ n3 rfl).call zK (by simp [zJ]) _) ?_;intro p2 h2 hr2;refine Go.AL.g2 ?_)
        obtain ⟨rfl,rfl⟩:=hr2
        refine ge ?_
        rfl
      ·have f1:(pred==(i':Int))=false:=by simp [q1]
       have mr:=ms fun w=>q1 w.1
       refine gf @f1 ?_
       subst mr
       refine gf (a2 @hbb @f1) ?_
       (refine Go.AL.g1f @hbb ?_;refine zC ((hsf _ _ n3 rfl).call zK (by simp [zJ]) _) ?_;intro p2 h2 hr2;refine Go.AL.g2 ?_)
       obtain ⟨rfl,rfl⟩:=hr2
       refine ge ?_
       rfl
     ·rw [if_neg q] at mf
      rw [decide_eq_false q]
      subst mf
      dsimp only [zo4,Option.isSome]
      refine gf (a3 @g1 @g2 @hbn) ?_
      (refine Go.AL.g1f (a3 @g1 @g2 @hbn) ?_;refine zC ((hsf f f n1 rfl).call zK (by simp [zJ]) _) ?_;intro p2 h2 hr2;refine Go.AL.g2 ?_)
      obtain ⟨rfl,rfl⟩:=hr2
      refine gf (a3 @g1 @g2 @hbn) ?_
      refine ge ?_
      (refine Go.AL.g1 ?_;refine zC (k3.call zK (by simp [zJ]) _) ?_;intro p2 h2 hr2;refine Go.AL.g2 ?_)
      obtain ⟨rfl,rfl⟩:=hr2
      refine ge ?_
      (refine Go.AL.g1 ?_;refine zC (k4.call zK (by simp [zJ]) _) ?_;intro p2 h2 hr2;refine Go.AL.g2 ?_)
      obtain ⟨rfl,rfl⟩:=hr2
      by_cases q1:pred=(i':Int)
      ·have f1:(pred==(i':Int))=true:=by simp [q1]
       refine gf @f1 ?_
       (refine Go.AL.g1f @f1 ?_;refine zC ((zlK key own (by omega)).call zK (by simp) _) ?_;intro p2 h2 hr2;refine Go.AL.g2 ?_)
       obtain ⟨rfl,rfl⟩:=hr2
       by_cases q2:key=own
       ·rw [decide_eq_true q2]
        refine gf @f1 ?_
        (refine Go.AL.g1f @f1 ?_;refine zC (hwi.call zK (by simp [zJ]) _) ?_;intro p2 h2 hr2;refine Go.AL.g2 ?_)
        obtain ⟨rfl,rfl⟩:=hr2
        refine gf @f1 ?_
        rfl
       ·rw [decide_eq_false q2]
        have mr:=ms fun w=>q2 w.2.1
        subst mr
        refine gf @hbb ?_
        (refine Go.AL.g1f @hbb ?_;refine zC ((hsf _ _ n3 rfl).call zK (by simp [zJ]) _) ?_;intro p2 h2 hr2;refine Go.AL.g2 ?_)
        obtain ⟨rfl,rfl⟩:=hr2
        refine ge ?_
        rfl
      ·have f1:(pred==(i':Int))=false:=by simp [q1]
       have mr:=ms fun w=>q1 w.1
       refine gf @f1 ?_
       subst mr
       refine gf (a2 @hbb @f1) ?_
       (refine Go.AL.g1f @hbb ?_;refine zC ((hsf _ _ n3 rfl).call zK (by simp [zJ]) _) ?_;intro p2 h2 hr2;refine Go.AL.g2 ?_)
       obtain ⟨rfl,rfl⟩:=hr2
       refine ge ?_
       rfl
end Go.AL
namespace Go.Proofs.YtcffidhiaihbkaaGreatDoor
open Go.AL Go.Proofs
section
variable {H:Type} {enc:TypeId×Value→H} {w:World} {base:Nat} {spare:Nat→Bool} {held:Bool}
theorem iD {d:DataW H} {l:List (DataW H)} (h:d∈l):Rows.uptoBulk d≤Rows.uptoBulkAll l:=by
 induction l with
 |nil=>cases h
 |cons x r ih=>
  simp only [Rows.uptoBulkAll]
  rcases List.mem_cons.1 h with rfl|h
  ·omega
  ·have:=ih h;omega
theorem zfP (P:Program) {s:BA}: ∀ (n:Nat) (t:TypeId) (d:DataW H),PV.sc (.string s)∈tP P n t d→s.size≤Rows.uptoBulk d:=by
 intro n
 induction n with
 | zero=>
  intro t d h
  unfold tP at h
  split at h
  case h_3 b=>
   obtain rfl:s=⟨b.toArray⟩:=by simpa using h
   have e:(⟨b.toArray⟩:ByteArray).size=b.length:=List.size_toArray ..
   rw [e];simp only [Rows.uptoBulk];omega
  all_goals first
   |(simp at h;done)
   |(split at h<;>simp at h;done)
   |contradiction
 | succ n ih=>
  intro t d h
  unfold tP at h
  split at h
  case h_3 b=>
   obtain rfl:s=⟨b.toArray⟩:=by simpa using h
   have e:(⟨b.toArray⟩:ByteArray).size=b.length:=List.size_toArray ..
   rw [e];simp only [Rows.uptoBulk];omega
  case h_6 m xs hm=>
   cases hm
   split at h
   ·obtain ⟨l,hl,hs⟩:=List.mem_flatten.1 h
    obtain ⟨i,hi,rfl⟩:=List.getElem_of_mem hl
    rw [List.getElem_zipWith] at hs
    have hi2:i<xs.length:=by rw [List.length_zipWith] at hi;omega
    have:=ih _ _ hs
    have:=iD (List.getElem_mem hi2)
    simp only [Rows.uptoBulk]
    omega
   ·obtain ⟨l,hl,hs⟩:=List.mem_flatten.1 h
    obtain ⟨x,hx,rfl⟩:=List.mem_map.1 hl
    have:=ih _ _ hs
    have:=iD hx
    simp only [Rows.uptoBulk]
    omega
   ·simp at h
  all_goals first
   |(simp at h;done)
   |(split at h<;>simp at h;done)
   |contradiction
theorem zdA {m:Nat} {x:List PV} (h:Shp Tryz.prog m 3 x): ∃ z,x=[i64 z]∧In64 z:=by
 unfold Shp at h
 rw [show Tryz.prog.underlying 3=some (.int .i64) by kernel_rfl] at h
 have h: ∃ z,x=[i64 z]∧IntKind.i64.min≤z∧z≤IntKind.i64.max:=by cases m<;>exact h
 obtain ⟨z,rfl,h1,h2⟩:=h
 rw [zhI] at h1;rw [zhJ] at h2
 exact ⟨z,rfl,by constructor<;>omega⟩
theorem zmE {m:Nat} {x:List PV} (h:Shp Tryz.prog m 9 x): ∃ z,x=[yQ z]∧z.size≤140737488355328:=by
 unfold Shp at h
 rw [show Tryz.prog.underlying 9=some .string by kernel_rfl] at h
 have h: ∃ s:BA,x=[yQ s]∧s.size≤maxLen∧s.size≤reachBytes:=by cases m<;>exact h
 obtain ⟨z,rfl,_,hz⟩:=h
 have:reachBytes=140737488351232:=by decide
 exact ⟨z,rfl,by omega⟩
theorem zmD {m:Nat} {x:List PV} (h:Shp Tryz.prog (m+1) 79 x): ∃ v:Vl,x=v.c∧VIn v:=by
 have hf:zcS Tryz.prog 79=some [3,3,9]:=by kernel_rfl
 unfold zcS at hf
 split at hf
 case h_2=>cases hf
 rename_i fs hu
 have hf:fs.toList.map (·.type)=[3,3,9]:=Option.some.inj hf
 unfold Shp at h
 rw [hu] at h
 have h: ∃ parts:List (List PV),parts.length=fs.size∧x=parts.flatten∧ ∀ (i:Nat) (f:Field) (p:List PV),fs[i]? =some f→parts[i]? =some p→Shp Tryz.prog m f.type p:=h
 obtain ⟨ps,hl,rfl,hp⟩:=h
 have hl3:ps.length=3:=by rw [hl];have:=congrArg List.length hf;simpa using this
 have hT: ∀ (i:Nat) (t:TypeId) (p:List PV),[3,3,9][i]? =some t→ps[i]? =some p→Shp Tryz.prog m t p:=fun i t p ht hp'=>by
  rw [←hf,List.getElem?_map] at ht
  cases q:fs.toList[i]? with
  |none=>rw [q] at ht;cases ht
  |some f=>
   rw [q] at ht;cases ht
   exact hp i f p (by rw [←Array.getElem?_toList];exact q) hp'
 match ps,hl3 with
 | [a,b,c],_=>
  obtain ⟨z0,rfl,k0⟩:=zdA (hT 0 3 a rfl rfl)
  obtain ⟨z1,rfl,k1⟩:=zdA (hT 1 3 b rfl rfl)
  obtain ⟨z2,rfl,k2⟩:=zmE (hT 2 9 c rfl rfl)
  exact ⟨⟨z0,z1,z2⟩,rfl,k0,k1,k2⟩
theorem zbC {m:Nat}: ∀ els:List (List PV),(∀ x∈els,Shp Tryz.prog (m+1) 79 x)→ ∃ l:List Vl,els=l.map Vl.c∧ ∀ v∈l,VIn v
 | [],_=>⟨[],rfl,by simp⟩
 |e::els,h=>by
  obtain ⟨v,rfl,hv⟩:=zmD (h e (List.mem_cons_self ..))
  obtain ⟨l,rfl,hl⟩:=zbC els fun x hx=>h x (List.mem_cons_of_mem _ hx)
  exact ⟨v::l,rfl,fun u hu=>by rcases List.mem_cons.1 hu with rfl|hu;exact hv;exact hl u hu⟩
theorem znB {v:Value} {d:DataW H} {ps:List MemPlace} (hc:v.cells= #[v]) (hw:Light Tryz.prog 32 d) (h:DataW.Trod enc Tryz.prog w base spare held 32 v d ps) {B:Nat} (hB:Rows.uptoBulk d≤B):
  ∃ l:List Vl,(l.length≤140737488355328∧ ∀ v∈l,VIn v∧v.s.size≤B)∧VRel ⟨[],[],w,fun _=>False⟩ (pH l) v:=by
 obtain ⟨fuel,hf⟩:=h
 have hok:zg3 Tryz.prog 2 32=true:=by kernel_rfl
 have ht:=lN (X:=fun _=>False) (fun _ h=>h) fuel 2 32 _ d ps hok hf
 have hsh:=cH fuel 2 32 _ d ps hok hw hf
 have hcs:v.cells.toList=[v]:=by rw [hc]
 rw [hcs] at ht
 have hS: ∀ els,tP Tryz.prog 2 32 d=[.ts 3 els]→ ∀ e∈els, ∀ s,PV.sc (.string s)∈e→s.size≤B:=by
  intro els he e hm s hs
  unfold tP at he
  split at he
  all_goals try (simp at he;done)
  ·rename_i n xs sp hn
   cases hn
   split at he
   ·simp only [List.cons.injEq,PV.ts.injEq,and_true] at he
    rw [←he.2] at hm
    obtain ⟨x,hx,rfl⟩:=List.mem_map.1 hm
    have h1:=zfP Tryz.prog 1 _ x hs
    have h2:=iD hx
    simp only [Rows.uptoBulk] at hB
    omega
   ·simp at he
 generalize tP Tryz.prog 2 32 d=q at*
 unfold Shp at hsh
 rw [show Tryz.prog.underlying 32=some (.slice 79) by kernel_rfl] at hsh
 have hsh:q=[.nil]∨ ∃ els,q=[.ts (Tryz.prog.cellsOf 79) els]∧els.length*Tryz.prog.bytesOf 79≤reachBytes∧ ∀ x∈els,Shp Tryz.prog 1 79 x:=hsh
 rcases hsh with rfl|⟨els,rfl,hl,hels⟩
 ·exact ⟨[],⟨Nat.zero_le _,by simp⟩,PLe.nil_ts _ _ _ (ht.rel 0 _ v rfl rfl)⟩
 ·obtain ⟨l,rfl,hv⟩:=zbC (m:=0) els hels
  have e3:Tryz.prog.cellsOf 79=3:=by kernel_rfl
  rw [e3] at ht hS
  have hR:reachBytes=140737488351232:=by decide
  have h1:1≤Tryz.prog.bytesOf 79:=of_decide_eq_true (by kernel_rfl)
  have:=Nat.le_mul_of_pos_right (l.map Vl.c).length h1
  rw [List.length_map] at this hl
  refine ⟨l,⟨by omega,fun u hu=>⟨hv u hu,?_⟩⟩,ht.rel 0 _ v rfl rfl⟩
  exact hS _ rfl _ (List.mem_map_of_mem hu) u.s (by simp [Vl.c,yQ])
end
end Go.Proofs.YtcffidhiaihbkaaGreatDoor
namespace Go.Proofs.YtcffidhiaihbkaaGreatDoor
open Go.ChangeShapes Go.WideShapes Go.ChangeAt Go.RowKit Go.AL Go.Proofs
theorem own:ownKnob Tryz.prog.godebug=none:=by kernel_rfl
theorem oO:laidOutB Tryz.prog=true:=by kernel_rfl
theorem ul5:Tryz.prog.underlying 5=some (.int .u8):=by kernel_rfl
theorem ul4:Tryz.prog.underlying 4=some .bool:=by kernel_rfl
theorem ul3:Tryz.prog.underlying 3=some (.int .i64):=by kernel_rfl
theorem znX:Tryz.f3.params= #[27,31,38,3,32,5]:=by kernel_rfl
theorem zdL {W:World} (h:laidMetH Tryz.prog Rows.baseMomentsUptoRow.laid W):GRel ⟨[],[],W,fun _=>False⟩ G0:=by
 rw [MakeChecks.laidMetH_plain _ _ _ (by kernel_rfl)] at h
 obtain ⟨ps,⟨g0,t0,cs0,f0,p0,q0,hg0,ht0,hv0,hd0,⟨g1,t1,cs1,f1,p1,q1,hg1,ht1,hv1,hd1,⟨g2,t2,cs2,f2,p2,q2,hg2,ht2,hv2,hd2,_,_⟩,_⟩,_⟩,_,_⟩:=h
 obtain rfl:=Option.some.inj ((show Tryz.prog.globalNamed "math/bits.deBruijn64tab" =some 2 by kernel_rfl).symm.trans hg0)
 obtain rfl:=Option.some.inj ((show Tryz.prog.globalNamed "porism/lattice.keys" =some 1 by kernel_rfl).symm.trans hg1)
 obtain rfl:=Option.some.inj ((show Tryz.prog.globalNamed "porism/value.words" =some 0 by kernel_rfl).symm.trans hg2)
 obtain rfl:=Option.some.inj ((show (Tryz.prog.globals[2]?).map (·.type)=some 297 by kernel_rfl).symm.trans ht0)
 obtain rfl:=Option.some.inj ((show (Tryz.prog.globals[1]?).map (·.type)=some 70 by kernel_rfl).symm.trans ht1)
 obtain rfl:=Option.some.inj ((show (Tryz.prog.globals[0]?).map (·.type)=some 221 by kernel_rfl).symm.trans ht2)
 have r0:=eP (X:=fun _=>False) (fun _ h=>h) (n:=2) (by kernel_rfl) hg0 hv0 hd0 (show _=db by kernel_rfl)
 have r1:=eP (X:=fun _=>False) (fun _ h=>h) (n:=2) (by kernel_rfl) hg1 hv1 hd1 (show _=[.ts 1 (ws.map ([·]))] by kernel_rfl)
 have r2:=eP (X:=fun _=>False) (fun _ h=>h) (n:=2) (by kernel_rfl) hg2 hv2 hd2 (show _=ws by kernel_rfl)
 intro g cs hG
 unfold G0 at hG
 split at hG
 ·rename_i e;rw [beq_iff_eq] at e;subst e;cases hG;exact r2
 ·split at hG
  ·rename_i e;rw [beq_iff_eq] at e;subst e;cases hG;exact r1
  ·split at hG
   ·rename_i e;rw [beq_iff_eq] at e;subst e;cases hG;exact r0
   ·cases hG
theorem zk7 {H:Type} {enc:TypeId×Value→H} {C:Checked} {os:Os} {f:FuncId} {fn:Func} {s:OpenSpec} {conds:List PathCond} {zcT:Bool} {laid:List (String×DataW Unit)} (w0:World) (args:Array Value) (hos:w0.os=os)
  (hsh:(w0.forCall (fun _ _=>0) ⟨#[],args,[]⟩).Shaped C.prog) (hok:Input.okWideB C.prog (w0.forCall (fun _ _=>0) ⟨#[],args,[]⟩) f ⟨#[],args,[]⟩=true)
  (hrow:s.preRow enc C.prog fn conds zcT laid (w0.forCall (fun _ _=>0) ⟨#[],args,[]⟩).memory args):
  ∃ (w:World) (tape:Tape) (i:Input),w.os=os∧(w.forCall tape i).Shaped C.prog∧i.vars=[]∧Input.okWide C.prog (w.forCall tape i) .any w.heap.size f i∧
   s.preRow enc C.prog fn conds zcT laid (w.forCall tape i).memory i.args∧({}:Assume).holds C.prog (lone (Frame.enter C.prog f i.args .normal) [] (w.forCall tape i)):=
 ⟨w0,fun _ _=>0,⟨#[],args,[]⟩,hos,hsh,(Input.okWide_of_okWideB (base:=0) hok).1,(Input.okWide_of_okWideB hok).2,hrow,by
  simp only [Assume.holds]
  exact ⟨by simp,by simp,fun _=>Modest.zero,by simp,by simp⟩⟩
theorem reads (os:Os) {H:Type} (enc:TypeId×Value→H): ∃ places,DataW.whole enc Tryz.prog ((World.laidAll Tryz.prog os Rows.baseMomentsUptoRow.laid).forCall (fun _ _=>0) ⟨#[], #[.agg #[.slice none 0 0,.slice none 0 0,.slice none 0 0,.slice none 0 0],.agg #[.slice none 0 0,.slice none 0 0],.agg #[.int .i64 0,.int .i64 0,.slice none 0 0,.int .i64 0,.int .i64 0,.int .i64 0],.int .i64 0,.slice none 0 0,.int .u8 0],[]⟩).memory Tryz.f3.params.toList Rows.baseMomentsSpec.vars false (#[.agg #[.slice none 0 0,.slice none 0 0,.slice none 0 0,.slice none 0 0],.agg #[.slice none 0 0,.slice none 0 0],.agg #[.int .i64 0,.int .i64 0,.slice none 0 0,.int .i64 0,.int .i64 0,.int .i64 0],.int .i64 0,.slice none 0 0,.int .u8 0]:Array Value).toList 8=some ([.agg [.nil,.nil,.nil,.nil],.agg [.nil,.nil],.agg [.lit (.int .i64 0),.agg [.lit (.int .i64 0),.nil,.lit (.int .i64 0)],.agg [.lit (.int .i64 0),.lit (.int .i64 0)]],.lit (.int .i64 0),.nil,.lit (.int .u8 0)],[],places):=
 ⟨[],by kernel_rfl⟩
set_option maxRecDepth 100000 in
theorem pP (os:Os) (started:os.Started) (H:Type) (enc:TypeId×Value→H) (F:Stop.Interp):
  ReturnsInHanded {} Tryz.checked os 3 .any ((Rows.OpenSpec.upto Rows.baseMomentsSpec).preRow enc Tryz.prog Tryz.f3 Rows.baseMomentsUptoRow.domain false Rows.baseMomentsUptoRow.laid) (((Rows.OpenSpec.upto Rows.baseMomentsSpec).at F).post enc Tryz.prog Tryz.f3 false true false false):=by
 obtain ⟨places,hx⟩:=reads os enc
 refine returnsInHanded_of_row (C:=Tryz.checked) (s:=Rows.OpenSpec.upto Rows.baseMomentsSpec) own started (by kernel_rfl) Tryz.func3
  (zk7 (enc:=enc) (World.laidAll Tryz.prog os Rows.baseMomentsUptoRow.laid) #[.agg #[.slice none 0 0,.slice none 0 0,.slice none 0 0,.slice none 0 0],.agg #[.slice none 0 0,.slice none 0 0],.agg #[.int .i64 0,.int .i64 0,.slice none 0 0,.int .i64 0,.int .i64 0,.int .i64 0],.int .i64 0,.slice none 0 0,.int .u8 0] (World.laidAll_os _ _ _) (World.shaped_of_ZipB (by kernel_rfl) (by kernel_rfl)) (by kernel_rfl)
   (OpenSpec.preRow_of_cond 8 hx (by kernel_rfl) (fun k hk=>by cases hk;kernel_rfl) (by kernel_rfl) (by rw [MakeChecks.laidMetH_plain _ _ _ (by kernel_rfl)];exact laidMet_laidAll _ (by kernel_rfl) (by kernel_rfl)))) ?_
 intro W base args ds gs before hval0 hW _ hcond hsz hL _ _
 have hbk:Rows.uptoBulkAll (ds++gs)≤1048576:=of_decide_eq_true (hcond _ rfl)
 have hval: ∀ (j:Nat) t v,Tryz.f3.params[j]? =some t→args[j]? =some v→Value.okWide Tryz.prog W .any base t v:=hval0
 have hW':=hW
 obtain ⟨p,q,hA0,hV,rfl,_,_⟩:=hW
 have hA:DataW.TrodAll enc Tryz.prog W 0 (fun _=>true) true Tryz.f3.params.toList args.toList ds p:=hA0
 rw [znX] at hA hval
 obtain ⟨v0,vs0,d0,ds0,p0,q0,hargs,rfl,rfl,h0,t0⟩:=trodAll_cons hA
 obtain ⟨v1,vs1,d1,ds1,p1,q1,rfl,rfl,rfl,h1,t1⟩:=trodAll_cons t0
 obtain ⟨v2,vs2,d2,ds2,p2,q2,rfl,rfl,rfl,h2,t2⟩:=trodAll_cons t1
 obtain ⟨v3,vs3,d3,ds3,p3,q3,rfl,rfl,rfl,h3,t3⟩:=trodAll_cons t2
 obtain ⟨v4,vs4,d4,ds4,p4,q4,rfl,rfl,rfl,h4,t4⟩:=trodAll_cons t3
 obtain ⟨v5,vs5,d5,ds5,p5,q5,rfl,rfl,rfl,h5,t5⟩:=trodAll_cons t4
 obtain ⟨rfl,rfl,rfl⟩:=trodAll_nil t5
 obtain rfl:args= #[v0,v1,v2,v3,v4,v5]:=by cases args;simp_all
 obtain ⟨rfl,rfl⟩:=trodVars_none hV
 rw [List.all_eq_true] at hsz
 have w0:Light Tryz.prog 27 d0:=fun k hk=>of_decide_eq_true (hsz k (List.mem_append_left _ hk))
 have w1:Light Tryz.prog 31 d1:=fun k hk=>of_decide_eq_true (hsz k (List.mem_append_right _ (List.mem_append_left _ hk)))
 have w2:Light Tryz.prog 38 d2:=fun k hk=>of_decide_eq_true (hsz k (List.mem_append_right _ (List.mem_append_right _ (List.mem_append_left _ hk))))
 have w3:Light Tryz.prog 3 d3:=fun k hk=>of_decide_eq_true (hsz k (List.mem_append_right _ (List.mem_append_right _ (List.mem_append_right _ (List.mem_append_left _ hk)))))
 have w4:Light Tryz.prog 32 d4:=fun k hk=>of_decide_eq_true (hsz k (List.mem_append_right _ (List.mem_append_right _ (List.mem_append_right _ (List.mem_append_right _ (List.mem_append_left _ hk))))))
 have w5:Light Tryz.prog 5 d5:=fun k hk=>of_decide_eq_true (hsz k (List.mem_append_right _ (List.mem_append_right _ (List.mem_append_right _ (List.mem_append_right _ (List.mem_append_right _ (List.mem_append_left _ hk)))))))
 obtain ⟨a0,b0,r0⟩:=dPg.arg (ts:=[22,23,24,25]) (by kernel_rfl) (by kernel_rfl) w0 (hval 0 _ v0 rfl rfl) h0
 obtain ⟨a1,b1,r1⟩:=dDt.arg (ts:=[28,29]) (by kernel_rfl) (by kernel_rfl) w1 (hval 1 _ v1 rfl rfl) h1
 obtain ⟨a2,b2,r2⟩:=dOp.arg (ts:=[3,34,36]) (by kernel_rfl) (by kernel_rfl) w2 (hval 2 _ v2 rfl rfl) h2
 obtain ⟨x3,e3,f3,g3,k3⟩:=open_int ul3 (hval 3 _ v3 rfl rfl) h3
 have z3: -9223372036854775808≤x3∧x3≤9223372036854775807:=by simpa [Lit.wf,IntKind.min,IntKind.max,IntKind.signed,IntKind.bits] using k3
 obtain ⟨l4,m4,n4,e4⟩:=okWide_slice (show Tryz.prog.underlying 32=some (.slice 79) by kernel_rfl) (hval 4 _ v4 rfl rfl)
 obtain ⟨a4,b4,r4⟩:=znB (B:=1048576) (by rw [e4];rfl) w4 h4 (by simp only [List.append_nil,Rows.uptoBulkAll] at hbk;omega)
 obtain ⟨x5,e5,f5,g5,k5⟩:=open_int ul5 (hval 5 _ v5 rfl rfl) h5
 have z5:0≤x5∧x5≤255:=by simpa [Lit.wf,IntKind.min,IntKind.max,IntKind.signed,IntKind.bits] using k5
 obtain ⟨x5,rfl⟩:=Int.eq_ofNat_of_zero_le z5.1
 have hS:SRel ⟨[],[],W,fun _=>False⟩:=⟨rfl,fun r b v h=>by simp at h,fun r r' v v' n h=>by simp at h,fun a h=>h.elim,fun a h=>h.elim⟩
 obtain ⟨pr,rfl, -,hcall⟩:=zm7 a0 b0 a1 b1 a2 b2 x3 a4 b4.1 b4.2 x5 (by omega)
 have law:=hcall.2 [] W (fun _=>False) #[v0,v1,v2,v3,v4,v5] hS (zdL hL) rfl fun i p v hp hv=>by
  match i,hp,hv with
  |0,hp,hv=>simp at hp hv;subst hp;subst hv;exact r0
  |1,hp,hv=>simp at hp hv;subst hp;subst hv;exact r1
  |2,hp,hv=>simp at hp hv;subst hp;subst hv;exact r2
  |3,hp,hv=>simp at hp hv;subst hp;subst hv;rw [e3];exact .sc ⟨by rw [zhI];omega,by rw [zhJ];omega⟩
  |4,hp,hv=>simp at hp hv;subst hp;subst hv;exact r4
  |5,hp,hv=>simp at hp hv;subst hp;subst hv;rw [e5];exact .sc ⟨by rw [zlC];omega,by rw [zlD];omega⟩
  |i+6,hp,hv=>simp at hp
 have hlt0: ∀ z∈p0,z.block<W.heap.size:=fun z hz=>by
  have:=hW'.lt z (by simp [hz])
  simpa using this
 have hlt1: ∀ z∈p1,z.block<W.heap.size:=fun z hz=>by
  have:=hW'.lt z (by simp [hz])
  simpa using this
 have hlt2: ∀ z∈p2,z.block<W.heap.size:=fun z hz=>by
  have:=hW'.lt z (by simp [hz])
  simpa using this
 have hlt3: ∀ z∈p3,z.block<W.heap.size:=fun z hz=>by
  have:=hW'.lt z (by simp [hz])
  simpa using this
 have hlt4: ∀ z∈p4,z.block<W.heap.size:=fun z hz=>by
  have:=hW'.lt z (by simp [hz])
  simpa using this
 have hlt5: ∀ z∈p5,z.block<W.heap.size:=fun z hz=>by
  have:=hW'.lt z (by simp [hz])
  simpa using this
 refine (callsIn_wide.1 law).mono fun e W' ⟨φ',h',p,v,he,hext,_,hrel,hp,_⟩=> ?_
 subst he;subst hp
 have hb:=zdY hext
 obtain rfl:v= .bool true:=by cases hrel;rfl
 exact ⟨_,rfl,_,_,_,[],_,[],hW',trodAll_mk1 (shut_bool ul4 _),trodAll_cons_mk (Below.trod oO (by kernel_rfl) (of_decide_eq_true (by kernel_rfl)) h0 hb (hlt0)) (trodAll_cons_mk (Below.trod oO (by kernel_rfl) (of_decide_eq_true (by kernel_rfl)) h1 hb (hlt1)) (trodAll_cons_mk (Below.trod oO (by kernel_rfl) (of_decide_eq_true (by kernel_rfl)) h2 hb (hlt2)) (trodAll_cons_mk (Below.trod oO (by kernel_rfl) (of_decide_eq_true (by kernel_rfl)) h3 hb (hlt3)) (trodAll_cons_mk (Below.trod oO (by kernel_rfl) (of_decide_eq_true (by kernel_rfl)) h4 hb (hlt4)) (trodAll_mk1 (Below.trod oO (by kernel_rfl) (of_decide_eq_true (by kernel_rfl)) h5 hb (hlt5))))))),rfl,hb.frame _,fun h=>by cases h⟩
end Go.Proofs.YtcffidhiaihbkaaGreatDoor
namespace Go.Proofs.YtcffidhiaihbkaaGreatDoor
open Go
theorem jf0:(Rows.baseMomentsUptoRow.wf (OpenSpec.ofChange (Rows.OpenSpec.upto Rows.baseMomentsSpec).bare))=true:=by kernel_rfl
theorem jf1:(laidOutB Tryz.prog)=true:=by kernel_rfl
theorem jf2:(mapsRowed Tryz.prog)=true:=by kernel_rfl
theorem jf3:(Tryz.f3.params.all (Tryz.prog.readableRec ·))=true:=by kernel_rfl
theorem jf4:(namedTie Tryz.prog Rows.baseMomentsUptoRow.named (Rows.OpenSpec.upto Rows.baseMomentsSpec).bare.vars)=true:=by kernel_rfl
theorem jf5:((Rows.baseMomentsUptoRow.stops==[]))=true:=by kernel_rfl
theorem jf6:((Tryz.prog.stops==[]))=true:=by kernel_rfl
theorem jf7:((Rows.baseMomentsUptoRow.knobs==[]))=true:=by kernel_rfl
theorem jf8:((Tryz.prog.stopKnobs==[]))=true:=by kernel_rfl
theorem jf9:((Rows.baseMomentsUptoRow.inPlace==Tryz.prog.inPlace 3))=true:=by kernel_rfl
theorem zcJ:((Rows.baseMomentsUptoRow.unfollowed==Tryz.prog.unfollowed 3))=true:=by kernel_rfl
theorem fZ:((Rows.baseMomentsUptoRow.recurses==Tryz.prog.recurses 3))=true:=by kernel_rfl
theorem gE:((Rows.baseMomentsUptoRow.named==Tryz.prog.varsNamed 3))=true:=by kernel_rfl
theorem gD:((Rows.baseMomentsUptoRow.maps==(Tryz.f3.params.toList++(Rows.OpenSpec.upto Rows.baseMomentsSpec).bare.plain.varTypes Tryz.prog).any (Tryz.prog.mapsRec ·)))=true:=by kernel_rfl
theorem jE:((Rows.baseMomentsUptoRow.ifaces==(Tryz.f3.params.toList++(Rows.OpenSpec.upto Rows.baseMomentsSpec).bare.plain.varTypes Tryz.prog).any (Tryz.prog.ifacesRec ·)))=true:=by kernel_rfl
theorem mF:((Rows.baseMomentsUptoRow.mapsOut==Tryz.prog.mapsAmong Tryz.f3.resultTypes.toList))=true:=by kernel_rfl
theorem mE:((Rows.baseMomentsUptoRow.loops==(Tryz.f3.params.toList++(Rows.OpenSpec.upto Rows.baseMomentsSpec).bare.plain.varTypes Tryz.prog).any (Tryz.prog.loopsFrom ·)))=true:=by kernel_rfl
theorem mD:((Rows.baseMomentsUptoRow.wideKeys==(Tryz.f3.params.toList++(Rows.OpenSpec.upto Rows.baseMomentsSpec).bare.plain.varTypes Tryz.prog++Tryz.f3.resultTypes.toList).any (Tryz.prog.wideKeysFrom ·)))=true:=by kernel_rfl
theorem nZ:((Rows.OpenSpec.upto Rows.baseMomentsSpec).bare.vars.all (Tryz.prog.varReadable ·))=true:=by kernel_rfl
theorem nH:(Tryz.f3.resultTypes.all (fun t=>Tryz.prog.readableRec t&&decide (t<Tryz.prog.types.size)))=true:=by kernel_rfl
theorem nE:((Rows.baseMomentsUptoRow.ifacesOut==Tryz.f3.resultTypes.toList.any (Tryz.prog.ifacesRec ·)))=true:=by kernel_rfl
theorem nD:((Rows.baseMomentsUptoRow.loopsOut==Tryz.f3.resultTypes.toList.any (Tryz.prog.loopsFrom ·)))=true:=by kernel_rfl
theorem nC:((Rows.baseMomentsUptoRow.plainKeys==Tryz.prog.plainKeys))=true:=by kernel_rfl
theorem nB:(Rows.baseMomentsUptoRow.shortTexts.isNone)=true:=by kernel_rfl
theorem nA:(Tryz.prog.stopsHeard)=true:=by kernel_rfl
theorem oZ:(Tryz.prog.mayEnter)=true:=by kernel_rfl
theorem oY:((Rows.baseMomentsUptoRow.lifted==Tryz.prog.liftsFinal))=true:=by kernel_rfl
theorem oX:((Tryz.prog.make==some Rows.baseMomentsUptoRow.make))=true:=by kernel_rfl
theorem oW:((Rows.baseMomentsUptoRow.kinds==(if Rows.baseMomentsUptoRow.domain.isEmpty then [] else Tryz.f3.params.toList.map fun t=>match Tryz.prog.underlying t with|some (.int k)=>some k|_=>none)))=true:=by kernel_rfl
theorem oV:((Rows.baseMomentsUptoRow.pinned==Rows.baseMomentsUptoRow.pinnedBy))=true:=by kernel_rfl
theorem pT:((Rows.baseMomentsUptoRow.veiled==(Tryz.f3.params.toList++(Rows.OpenSpec.upto Rows.baseMomentsSpec).bare.plain.varTypes Tryz.prog++Tryz.f3.resultTypes.toList).any (Tryz.prog.veiledRec ·)))=true:=by kernel_rfl
theorem pS:(Rows.baseMomentsUptoRow.veiledFits Tryz.prog Tryz.f3.params.toList (Tryz.f3.params.toList++(Rows.OpenSpec.upto Rows.baseMomentsSpec).bare.plain.varTypes Tryz.prog++Tryz.f3.resultTypes.toList))=true:=by kernel_rfl
end Go.Proofs.YtcffidhiaihbkaaGreatDoor
