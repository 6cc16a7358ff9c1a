/-
  Base data: the law BaseOrder walked.
-/
import Derived.Test.YtcffidhiaihbkaaGreatDoorY45
set_option linter.unusedSimpArgs false
set_option linter.unusedVariables false
set_option maxRecDepth 100000
set_option maxHeartbeats 4000000
namespace Go.AL
open Go.Proofs Go.Proofs.Tryz
def zs0 (p:Pg) (a b:Op1):Bool:=decide (a.pred≠b.pred∨a.span.b≤b.span.a∨b.span.b≤a.span.a∨(ziY p a.pred a.args).1≠(ziY p b.pred b.args).1)
theorem znF (p:Pg) (a b:Op1) (ha:a.args.length≤140737488355328):EPure prog G0 23 [.agg p.c,.agg a.c,.agg b.c] fun v=>v=bo (zs0 p a b):=by
 refine ECall.cut (R:=fun v _=>v=bo (zs0 p a b)) (pv func23 54 false (by kernel_rfl) rfl rfl ?_) (by rintro p h rfl;rfl)
 refine g2 ?_
 have hka:=znA p ⟨a.pred,a.args,a.elem⟩
 have hkb:=znA p ⟨b.pred,b.args,b.elem⟩
 have hkl:=zsT p a.pred a.args
 obtain ⟨ka,pa,aa,ea,⟨sa,ta⟩⟩:=a
 obtain ⟨kb,pb,ab,eb,⟨sb,tb⟩⟩:=b
 have hE:zs0 p ⟨ka,pa,aa,ea,⟨sa,ta⟩⟩ ⟨kb,pb,ab,eb,⟨sb,tb⟩⟩=decide (pa≠pb∨ta≤sb∨tb≤sa∨(ziY p pa aa).1≠(ziY p pb ab).1):=rfl
 dsimp only at*
 by_cases h1:pa=pb
 case neg=>
  have e1:(pa !=pb)=true:=by simp [h1]
  rw [hE,decide_eq_true (.inl h1)]
  refine gf @e1 ?_
  rfl
 have e1:(pa !=pb)=false:=by simp [h1]
 by_cases h2:ta≤sb
 ·have e2:decide (ta≤sb)=true:=by simp [h2]
  rw [hE,decide_eq_true (.inr (.inl h2))]
  refine gf (a2 @e1 @e2) ?_
  rfl
 have e2:decide (ta≤sb)=false:=by simp [h2]
 by_cases h3:tb≤sa
 ·have e3:decide (tb≤sa)=true:=by simp [h3]
  rw [hE,decide_eq_true (.inr (.inr (.inl h3)))]
  refine gf (a3 @e1 @e2 @e3) ?_
  rfl
 have e3:decide (tb≤sa)=false:=by simp [h3]
 have hE2:zs0 p ⟨ka,pa,aa,ea,⟨sa,ta⟩⟩ ⟨kb,pb,ab,eb,⟨sb,tb⟩⟩= !decide ((ziY p pa aa).1=(ziY p pb ab).1):=by
  rw [hE]
  by_cases q:(ziY p pa aa).1=(ziY p pb ab).1
  ·rw [decide_eq_true q,decide_eq_false (fun w=>w.elim (fun w=>w h1) fun w=>w.elim h2 fun w=>w.elim h3 fun w=>w q)];rfl
  ·rw [decide_eq_false q,decide_eq_true (.inr (.inr (.inr q)))];rfl
 rw [hE2]
 generalize ziY p pa aa=x at*
 generalize ziY p pb ab=y at*
 obtain ⟨x1,x2⟩:=x
 obtain ⟨y1,y2⟩:=y
 dsimp only at*
 refine gf (a3 @e1 @e2 @e3) ?_
 (refine g1 ?_;refine zC (hka.call zK (by simp [zJ]) _) ?_;intro p2 h2 hr2;refine g2 ?_)
 obtain ⟨rfl,rfl⟩:=hr2
 refine ge ?_
 (refine g1 ?_;refine zC (hkb.call zK (by simp [zJ]) _) ?_;intro p2 h2 hr2;refine g2 ?_)
 obtain ⟨rfl,rfl⟩:=hr2
 refine ge ?_
 (refine g1 ?_;refine zC ((zlK x1 y1 (by omega)).call zK (by simp) _) ?_;intro p2 h2 hr2;refine g2 ?_)
 obtain ⟨rfl,rfl⟩:=hr2
 refine ge ?_
 rfl
theorem zaM {p:Pg} {o:Op1} {i:Nat} (h:OpX p o i):ziY p o.pred o.args=(o.args.take (p.preds[i]'h.hi).key.toNat,true):=by
 have hi:=h.hi
 have e:zcI p o.pred=p.preds[i].key:=by
  have:o.pred.toNat=i:=by have:=h.hoi;omega
  unfold zcI;rw [this,eD hi]
 unfold ziY
 rw [e,if_pos ⟨by have:=h.hoi;omega,by have:=h.hoi;omega,h.k0,by rw [h.ax.1];exact h.k1⟩]
theorem znV (p:Pg) (hp:p.ok) (hle:p.sm) {o:Op1} (ho:o.ok) (h:zoM p o=0): ∃ i,OpX p o i:=((zoK p hp hle o ho).2 h).op
theorem zs5 {p:Pg} {a b:Op1} {i j:Nat} (ha:OpX p a i) (hb:OpX p b j) (h:zs0 p a b=true):ApO p a b:=by
 unfold zs0 at h
 rw [decide_eq_true_iff,zaM ha,zaM hb] at h
 by_cases hp:a.pred=b.pred
 case neg=>exact .inl hp
 have hij:i=j:=by have:=ha.hoi;have:=hb.hoi;omega
 subst hij
 have hi:=ha.hi
 have hg:p.preds.getD a.pred.toNat zuW=p.preds[i]:=by
  have:a.pred.toNat=i:=by have:=ha.hoi;omega
  rw [this,eD hi]
 unfold ApO Apt
 rw [hg]
 refine .inr ?_
 rcases h with h|h|h|h
 ·exact absurd hp h
 ·refine .inr fun m hm=> ?_
  unfold xT at hm ⊢
  simp only [decide_eq_true_eq,decide_eq_false_iff_not] at hm ⊢
  omega
 ·refine .inr fun m hm=> ?_
  unfold xT at hm ⊢
  simp only [decide_eq_true_eq,decide_eq_false_iff_not] at hm ⊢
  omega
 ·exact .inl h
theorem zsF (p:Pg) (hp:p.ok) (hle:p.sm) (d:Dt) (hL:LenD 40 d) (a b:Op1) (ha:a.ok) (hb:b.ok) (h0:zoM p a=0) (h1:zoM p b=0):
  (zk4 p d [a,b]).2=(zk4 p d [b,a]).2∧(zs0 p a b=true→zk4 p d [a,b]=zk4 p d [b,a]):=by
 rw [kN p hp hle d [a,b] (by simp;exact ⟨ha,hb⟩) hL (by simp) (pV h0 h1),kN p hp hle d [b,a] (by simp;exact ⟨hb,ha⟩) hL (by simp) (pV h1 h0)]
 by_cases hX:ze8 (DatX p d)=false
 ·rw [if_pos hX,if_pos hX];exact ⟨rfl,fun _=>rfl⟩
 rw [if_neg hX,if_neg hX]
 refine ⟨rfl,fun hA=> ?_⟩
 have hX':DatX p d:=zoX.1 (by cases q:ze8 (DatX p d);exact absurd q hX;rfl)
 obtain ⟨i,hi⟩:=znV p hp hle ha h0
 obtain ⟨j,hj⟩:=znV p hp hle hb h1
 show (zl0 p (zl0 p d a) b,(0:Int))=(zl0 p (zl0 p d b) a,0)
 rw [zsJ hp hX' hi hj (zs5 hi hj hA)]
theorem zsR (p:Pg) (hp:p.ok) (hle:p.sm) (d:Dt) (hL:LenD 40 d) (a b:Op1) (ha:a.ok) (hb:b.ok) (h0:zoM p a=0) (h1:zoM p b=0) (hk:b.kind=1) (hs:b.span=a.span) (hA:zs0 p a b=false):
  zk4 p d [a,b]=zk4 p d [b]:=by
 rw [kN p hp hle d [a,b] (by simp;exact ⟨ha,hb⟩) hL (by simp) (pV h0 h1),kN p hp hle d [b] (by simpa using hb) hL (by simp) (hZ h1)]
 by_cases hX:ze8 (DatX p d)=false
 ·rw [if_pos hX,if_pos hX]
 rw [if_neg hX,if_neg hX]
 have hX':DatX p d:=zoX.1 (by cases q:ze8 (DatX p d);exact absurd q hX;rfl)
 obtain ⟨i,hi⟩:=znV p hp hle ha h0
 obtain ⟨j,hj⟩:=znV p hp hle hb h1
 unfold zs0 at hA
 rw [decide_eq_false_iff_not,zaM hi,zaM hj] at hA
 have hpp:a.pred=b.pred:=Classical.byContradiction fun q=>hA (.inl q)
 have hij:i=j:=by have:=hi.hoi;have:=hj.hoi;omega
 subst hij
 have hkk:a.args.take (p.preds[i]'(hi.hi)).key.toNat=b.args.take (p.preds[i]'(hi.hi)).key.toNat:=Classical.byContradiction fun q=>hA (.inr (.inr (.inr q)))
 show (zl0 p (zl0 p d a) b,(0:Int))=(zl0 p d b,0)
 rw [zsI hp hX' hi hj hk hs hkk fun hof=>zsQ p hp hle hX'.tv _ (List.getElem_mem hi.hi) hof]
theorem zsE (p:Pg) (hp:p.ok) (d:Dt) (hd:d.raw) (a:Op1) (ha:a.raw) (b:Op1) (hb:b.raw):
  EPure prog G0 5 [.agg p.c,.agg d.c,.agg a.c,.agg b.c] fun v=>v=bo true:=by
 have hao:a.ok:=ha
 have hbo:b.ok:=hb
 refine ECall.cut (R:=fun v _=>v=bo true) (pv func5 105 false (by kernel_rfl) rfl rfl ?_) (by rintro p h rfl;rfl)
 refine g2 ?_
 refine ge ?_
 (refine g1 ?_;refine zC (zl6 _) ?_;intro p2 h2 hr2;refine g2 ?_)
 obtain ⟨rfl,rfl⟩:=hr2
 refine ge ?_
 (refine g1 ?_;refine zC ((zbT p hp d hd).call zK (by simp [zJ]) _) ?_;intro p2 h2 hr2;refine g2 ?_)
 obtain ⟨⟨c,rfl,hc⟩,rfl⟩:=hr2
 cases c with
 |false=>
  refine ge ?_
  rfl
 | true=>
  obtain ⟨⟨hlat,hpl⟩,hfew⟩:=hc rfl
  have hle:p.sm:=fun x hx=>by have:=hlat x hx;omega
  have hsz:=hd.sz hfew
  have hL:=hfew.len
  refine ge ?_
  (refine g1 ?_;refine zC ((zoK p hp hle a hao).1.call zK (by simp [zJ]) _) ?_;intro p2 h2 hr2;refine g2 ?_)
  obtain ⟨rfl,rfl⟩:=hr2
  by_cases h0:zoM p a=0
  case neg=>
   have e0:(zoM p a !=0)=true:=by simp [h0]
   refine gf @e0 ?_
   rfl
  have e0:(zoM p a !=0)=false:=by simp [h0]
  refine gf @e0 ?_
  (refine g1f @e0 ?_;refine zC ((zoK p hp hle b hbo).1.call zK (by simp [zJ]) _) ?_;intro p2 h2 hr2;refine g2 ?_)
  obtain ⟨rfl,rfl⟩:=hr2
  by_cases h1:zoM p b=0
  case neg=>
   have e1:(zoM p b !=0)=true:=by simp [h1]
   refine gf @e1 ?_
   rfl
  have e1:(zoM p b !=0)=false:=by simp [h1]
  have hap:=fun (l:List Op1) (hl:l.length≤1048576) (hlo: ∀ x∈l,x.ok)=>zrH p hp hle d hsz l ⟨hl,hlo⟩
  have hzz:=fun (l:List Op1) (hlo: ∀ x∈l,x.ok)=>zhA p hp hle d l hlo hsz
  obtain ⟨b2,hb2⟩: ∃ b2:Op1,b2=⟨1,b.pred,b.args,b.elem,a.span⟩:=⟨_,rfl⟩
  have h2:zoM p b2=0:=by
   rw [hb2]
   exact zbX (zsM h1 (.inl rfl)) (znB h0)
  have hb2o:b2.ok:=by rw [hb2];exact hbo
  have hab:=hap [a,b] (by simp) (by simp;exact ⟨hao,hbo⟩)
  have hba:=hap [b,a] (by simp) (by simp;exact ⟨hbo,hao⟩)
  have hab2:=hap [a,b2] (by simp) (by simp;exact ⟨hao,hb2o⟩)
  have hb22:=hap [b2] (by simp) (by simpa using hb2o)
  have zab:=hzz [a,b] (by simp;exact ⟨hao,hbo⟩)
  have zab2:=hzz [b2] (by simpa using hb2o)
  obtain ⟨or1,or2⟩:=zsF p hp hle d hL a b hao hbo h0 h1
  have ov:=zsR p hp hle d hL a b2 hao hb2o h0 h2 (by rw [hb2]) (by rw [hb2])
  have hx1:=znF p a b hao.1
  have hx2:=znF p a b2 hao.1
  rw [hb2] at hab2 hb22 hx2
  rw [←hb2] at hab2 hb22 hx2
  clear hap hzz
  generalize zk4 p d [a,b]=r1 at*
  generalize zk4 p d [b,a]=r2 at*
  generalize zk4 p d [a,b2]=r3 at*
  generalize zk4 p d [b2]=r4 at*
  generalize zs0 p a b=q1 at*
  generalize zs0 p a b2=q2 at*
  subst hb2
  obtain ⟨x1,f1⟩:=r1
  obtain ⟨x2,f2⟩:=r2
  obtain ⟨x3,f3⟩:=r3
  obtain ⟨x4,f4⟩:=r4
  dsimp only at or1
  subst or1
  have hS1:=pP x1 (znT zab)
  have hS4:=pP x4 (znT zab2)
  have hbb: ∀ f:Int,(f==f)=true:=fun f=>by simp
  have hbn: ∀ f:Int,(f !=f)=false:=fun f=>by simp
  dsimp only at*
  refine gf @e1 ?_
  (refine g1 ?_;refine zC ((hab.args (.cons (PLe.refl _) (.cons (PLe.refl _) (.cons (PLe.tc_ts 6 _) .nil)))).call zK (by simp [zJ,oM]) _) ?_;intro p2 h2 hr2;refine g2 ?_)
  obtain ⟨rfl,rfl⟩:=hr2
  refine ge ?_
  (refine g1 ?_;refine zC ((hba.args (.cons (PLe.refl _) (.cons (PLe.refl _) (.cons (PLe.tc_ts 6 _) .nil)))).call zK (by simp [zJ,oM]) _) ?_;intro p2 h2 hr2;refine g2 ?_)
  obtain ⟨rfl,rfl⟩:=hr2
  refine gf @hbn ?_
  (refine g1f @hbn ?_;refine zC (hx1.call zK (by simp [zJ]) _) ?_;intro p2 h2 hr2;refine g2 ?_)
  obtain ⟨rfl,rfl⟩:=hr2
  cases q1 with
  | true=>
   have hxx:=or2 rfl
   injection hxx with hxx _
   subst hxx
   refine gf @hbn ?_
   (refine g1f @hbn ?_;refine zC (hS1.call zK (by simp [zJ]) _) ?_;intro p2 h2 hr2;refine g2 ?_)
   obtain ⟨rfl,rfl⟩:=hr2
   refine gf @hbn ?_
   (refine g1 ?_;refine zC ((hab2.args (.cons (PLe.refl _) (.cons (PLe.refl _) (.cons (PLe.tc_ts 6 _) .nil)))).call zK (by simp [zJ,oM]) _) ?_;intro p2 h2 hr2;refine g2 ?_)
   obtain ⟨rfl,rfl⟩:=hr2
   refine ge ?_
   (refine g1 ?_;refine zC ((hb22.args (.cons (PLe.refl _) (.cons (PLe.refl _) (.cons (PLe.tc_ts 6 _) .nil)))).call zK (by simp [zJ,oM]) _) ?_;intro p2 h2 hr2;refine g2 ?_)
   obtain ⟨rfl,rfl⟩:=hr2
   refine ge ?_
   (refine g1 ?_;refine zC (hx2.call zK (by simp [zJ]) _) ?_;intro p2 h2 hr2;refine g2 ?_)
   obtain ⟨rfl,rfl⟩:=hr2
   cases q2 with
   |true=>
    refine ge ?_
    rfl
   |false=>
    have ov:=ov rfl
    injection ov with o1 o2
    subst o1;subst o2
    refine gf @hbb ?_
    (refine g1f @hbb ?_;refine zC (hS4.call zK (by simp [zJ]) _) ?_;intro p2 h2 hr2;refine g2 ?_)
    obtain ⟨rfl,rfl⟩:=hr2
    refine ge ?_
    rfl
  | false=>
   refine gf @hbn ?_
   (refine g1 ?_;refine zC ((hab2.args (.cons (PLe.refl _) (.cons (PLe.refl _) (.cons (PLe.tc_ts 6 _) .nil)))).call zK (by simp [zJ,oM]) _) ?_;intro p2 h2 hr2;refine g2 ?_)
   obtain ⟨rfl,rfl⟩:=hr2
   refine ge ?_
   (refine g1 ?_;refine zC ((hb22.args (.cons (PLe.refl _) (.cons (PLe.refl _) (.cons (PLe.tc_ts 6 _) .nil)))).call zK (by simp [zJ,oM]) _) ?_;intro p2 h2 hr2;refine g2 ?_)
   obtain ⟨rfl,rfl⟩:=hr2
   refine ge ?_
   (refine g1 ?_;refine zC (hx2.call zK (by simp [zJ]) _) ?_;intro p2 h2 hr2;refine g2 ?_)
   obtain ⟨rfl,rfl⟩:=hr2
   cases q2 with
   |true=>
    refine ge ?_
    rfl
   |false=>
    have ov:=ov rfl
    injection ov with o1 o2
    subst o1;subst o2
    refine gf @hbb ?_
    (refine g1f @hbb ?_;refine zC (hS4.call zK (by simp [zJ]) _) ?_;intro p2 h2 hr2;refine g2 ?_)
    obtain ⟨rfl,rfl⟩:=hr2
    refine ge ?_
    rfl
end Go.AL
