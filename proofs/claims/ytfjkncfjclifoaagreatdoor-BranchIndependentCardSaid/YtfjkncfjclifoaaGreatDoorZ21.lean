/-
  Relations: rows sorted in place: parts merged.
-/
import Derived.Test.YtfjkncfjclifoaaGreatDoorZ20
set_option linter.unusedSimpArgs false
set_option linter.unusedVariables false
set_option maxRecDepth 100000
set_option maxHeartbeats 4000000
namespace Go.AL
open Go.Proofs Go.Proofs.Tryz
@[go_sem] def URel4f227.pl:Nat→DPlan
 |5=>⟨[yA,yA,yA,yA,yB,yA,yA,yA,yB,yC,yA],vJ,0⟩
 |11=>⟨[yA,yA,yA,yA,yA,yA,yA,yA,yA,yB,yA,yA,yA,yB,yA,yC,yA,yC],yM,0⟩
 |17=>⟨[yA,yA,yA,yA,yB,yA,yA,yA,yB,yC,yA,yA],xF,0⟩
 |23=>⟨[yA,yA,yA,yA,yA,yA,yA,yA,yA,yB,yA,yA,yA,yB,yA,yC,yA,yC],yM,0⟩
 |35=>⟨[yA,yA,yA,yA,yA,yA,yB,yA,yA,yA,yB,yC,yA,yA],wS,0⟩
 |_=>⟨[],[],0⟩
theorem SymC.at {l1 l:List Rw} {a m b:Nat} (k:SymC l1 a m b) (hs:SubR l1 l) {h:Heap} {r:Nat} (hG: ∀ c,(h.set r c)[r]? =some c) (hSS: ∀ c d,(h.set r c).set r d=h.set r d):
  ECall prog G0 227 [.ms r 0 2 l.length,i64 a,i64 m,i64 b,kP] (h.set r (.var 76 (xI l1))) fun _ h'=> ∃ l',SubR l' l∧h'=h.set r (.var 76 (xI l')):=by
 have:=k (h.set r (.var 76 (xI l1))) r (hG _)
 rw [hs.1] at this
 exact this.mono (by rintro p h' ⟨l',hs',rfl⟩;exact ⟨l',hs'.trans hs,hSS _ _⟩)
open URel4f227 in
theorem ze7 (d:Nat) (ih: ∀ (l:List Rw) (_:l.length≤70368744177664) (_: ∀ x∈l,x.ok) (a m b:Nat) (_:b-a≤d) (_:a<m) (_:m<b) (_:b≤l.length),SymC l a m b) (l:List Rw) (hl:l.length≤70368744177664) (hok: ∀ x∈l,x.ok) (a m b:Nat) (hd:b-a≤d+1) (ham:a<m) (hmb:m<b) (hb:b≤l.length) (hm1:m-a≠1) (hm2:b-m≠1) (hcase:m≤(a+b) / 2):SymC l a m b:=by
 intro h r hr
 refine pv func227 220 false (by kernel_rfl) rfl rfl ?_
 refine g2 ?_
 have hrl:r<h.length:=(gsi hr).1
 have hG: ∀ c,(h.set r c)[r]? =some c:=fun c=>by rw [List.getElem?_set_self hrl]
 have hSS: ∀ c d,(h.set r c).set r d=h.set r d:=fun c d=>List.set_set ..
 have w1:IntKind.i64.wrap ((m:Int)-a)=((m-a:Nat):Int):=by rw [xM (by omega) (by omega)];omega
 have w2:IntKind.i64.wrap ((b:Int)-m)=((b-m:Nat):Int):=by rw [xM (by omega) (by omega)];omega
 have e1:(((m-a:Nat):Int)==1)=false:=by simp;omega
 have e2:(((b-m:Nat):Int)==1)=false:=by simp;omega
 have hm:IntKind.i64.wrap ((a:Int)+b)=((a+b:Nat):Int):=by rw [xM (by omega) (by omega)];omega
 have hu:IntKind.u64.wrap ((a+b:Nat):Int)=((a+b:Nat):Int):=by rw [IntKind.wrap_u64];omega
 have hsh:=zeU (a+b)
 have hc:IntKind.i64.wrap ((((a+b) / 2:Nat):Int))=(((a+b) / 2:Nat):Int):=zeR (by omega)
 have w3:IntKind.i64.wrap ((((a+b) / 2:Nat):Int)+m)=(((a+b) / 2+m:Nat):Int):=by rw [xM (by omega) (by omega)];omega
 have w4:IntKind.i64.wrap ((((a+b) / 2+m:Nat):Int)-1)=(((a+b) / 2+m-1:Nat):Int):=by rw [xM (by omega) (by omega)];omega
 have hgt: ¬((((a+b) / 2:Nat):Int)<(m:Int)):=by omega
 have w5:True:=trivial
 refine gf (a9 @w1 @w2 @e1 @e2 @iS @rZ @hm @hu (a6 @hsh @hc @w3 @w4 @w5 @hgt)) ?_
 refine zW (K9 (K9 (.k:: .k:: .v:: .v:: .k:: .d::K9 (K9 (K9 (K9 (K9 (K9 (K9 (K9 (K9 (K9 (K9 (K9 (K9 (K4 (K4 (D9 (D9 (D4 (D4 (K9 (K9 (K9 (K9 (K9 ([]))))))))))))))))))))))))))) (fun (s:Nat×Nat)=>[i64 s.1,i64 s.2]) (fun s=>h) (fun s=>a≤s.1∧s.1≤s.2∧s.2≤m) (fun s=>s.2-s.1) (own:=false) (a,m) rfl rfl ⟨by dsimp only;omega,by dsimp only;omega,by dsimp only;omega⟩ ?_
 rintro ⟨s,j⟩ ⟨hi,hij,hj⟩ t ht
 dsimp only at hi hij hj
 simp only [zY] at ht;subst ht
 clear hm hu hsh hc
 by_cases hlt:s<j
 ·have hlt1:(s:Int)<(j:Int):=by omega
  have hm:IntKind.i64.wrap ((s:Int)+j)=((s+j:Nat):Int):=by rw [xM (by omega) (by omega)];omega
  have hu:IntKind.u64.wrap ((s+j:Nat):Int)=((s+j:Nat):Int):=by rw [IntKind.wrap_u64];omega
  have hsh:=zeU (s+j)
  have hc:IntKind.i64.wrap ((((s+j) / 2:Nat):Int))=(((s+j) / 2:Nat):Int):=zeR (by omega)
  have hwc:IntKind.i64.wrap ((((s+j) / 2:Nat):Int)+1)=(((s+j) / 2+1:Nat):Int):=by rw [xM (by omega) (by omega)];rfl
  have hwp:IntKind.i64.wrap ((((a+b) / 2+m-1:Nat):Int)-(((s+j) / 2:Nat):Int))=(((a+b) / 2+m-1-(s+j) / 2:Nat):Int):=by rw [xM (by omega) (by omega)];omega
  have k1:(a+b) / 2+m-1-(s+j) / 2<l.length:=by omega
  have k2:(s+j) / 2<l.length:=by omega
  have gx:=xG l ((a+b) / 2+m-1-(s+j) / 2) k1
  have gy:=xG l ((s+j) / 2) k2
  have hby:=uS l[(a+b) / 2+m-1-(s+j) / 2] l[(s+j) / 2] (hok _ (List.getElem_mem k1)) (hok _ (List.getElem_mem k2))
  generalize l[(a+b) / 2+m-1-(s+j) / 2]=x at*
  generalize l[(s+j) / 2]=y at*
  generalize hcc:sD x.args y.args=c at*
  by_cases hneg:c<0
  ·(repeat (first|refine gz ?_|(refine gn ?_;intro zs zh;(try simp only [go_sem,iS,rZ,hlt1,hm,hu,hsh,hc,hwc,hwp,hr,gx,gy,xK,zB,k1,k2,hneg] at zh);subst zh;(first|refine gv ?_|((first|refine zC (hby.call zK (by simp [zJ]) _) ?_|refine zP (by decide) (by decide) (hby.call zK (by simp [zJ]) _) ?_);intro p2 h2 hr2;obtain ⟨hr2,rfl⟩:=hr2;first|obtain ⟨_,rfl,hr2⟩:=hr2|obtain ⟨_,rfl⟩:=hr2|subst hr2|skip)))|refine yD URel4f227.pl ?_))
   exact ⟨(s,(s+j) / 2),⟨by dsimp only;omega,by dsimp only;omega,by dsimp only;omega⟩,by dsimp only;omega,rfl,rfl,rfl⟩
  ·(repeat (first|refine gz ?_|(refine gn ?_;intro zs zh;(try simp only [go_sem,iS,rZ,hlt1,hm,hu,hsh,hc,hwc,hwp,hr,gx,gy,xK,zB,k1,k2,hneg] at zh);subst zh;(first|refine gv ?_|((first|refine zC (hby.call zK (by simp [zJ]) _) ?_|refine zP (by decide) (by decide) (hby.call zK (by simp [zJ]) _) ?_);intro p2 h2 hr2;obtain ⟨hr2,rfl⟩:=hr2;first|obtain ⟨_,rfl,hr2⟩:=hr2|obtain ⟨_,rfl⟩:=hr2|subst hr2|skip)))|refine yD URel4f227.pl ?_))
   exact ⟨((s+j) / 2+1,j),⟨by dsimp only;omega,by dsimp only;omega,by dsimp only;omega⟩,by dsimp only;omega,rfl,rfl,rfl⟩
 ·have hlt1: ¬((s:Int)<(j:Int)):=by omega
  have we:IntKind.i64.wrap ((((a+b) / 2+m:Nat):Int)-s)=(((a+b) / 2+m-s:Nat):Int):=by rw [xM (by omega) (by omega)];omega
  by_cases c1:s<m∧m<(a+b) / 2+m-s
  ·have d1:((s:Int)<(m:Int)):=by omega
   have d2:((m:Int)<(((a+b) / 2+m-s:Nat):Int)):=by omega
   have n1:=c1.1
   have n2:=c1.2
   refine gf (a6 @hlt1 @we @d1 @d2 @n1 @n2) ?_
   (refine g1f (a4 @d1 @d2 @n1 @n2) ?_;refine zC (gS l hl s m ((a+b) / 2+m-s) (by omega) (by omega) (by omega) h r hr) ?_;intro p2 h2 hr2;refine g2 ?_)
   obtain ⟨l7,hs7,rfl⟩:=hr2
   have hl7:=hs7.1
   by_cases c2:a<s∧s<(a+b) / 2
   ·have d1:((a:Int)<(s:Int)):=by omega
    have d2:((s:Int)<(((a+b) / 2:Nat):Int)):=by omega
    have n1:=c2.1
    have n2:=c2.2
    refine gf (a4 @d1 @d2 @n1 @n2) ?_
    (refine g1f (a4 @d1 @d2 @n1 @n2) ?_;refine zC (SymC.at (ih l7 (by omega) (fun x hx=>hok x (hs7.2 x hx)) a s ((a+b) / 2) (by omega) (by omega) (by omega) (by omega)) hs7 hG hSS) ?_;intro p2 h2 hr2;refine g2 ?_)
    obtain ⟨l8,hs8,rfl⟩:=hr2
    have hl8:=hs8.1
    by_cases c3:(a+b) / 2<(a+b) / 2+m-s∧(a+b) / 2+m-s<b
    ·have d1:=c3.1
     have d2:=c3.2
     refine gf (a2 @d1 @d2) ?_
     (refine g1f (a2 @d1 @d2) ?_;refine zC (SymC.at (ih l8 (by omega) (fun x hx=>hok x (hs8.2 x hx)) ((a+b) / 2) ((a+b) / 2+m-s) b (by omega) (by omega) (by omega) (by omega)) hs8 hG hSS) ?_;intro p2 h2 hr2;refine g2 ?_)
     obtain ⟨l9,hs9,rfl⟩:=hr2
     refine ge ?_
     exact ⟨l9,hs9,rfl⟩
    ·by_cases d0:(a+b) / 2<(a+b) / 2+m-s
     ·have d2: ¬((a+b) / 2+m-s<b):=fun hh=>c3 ⟨d0,hh⟩
      have d1:=d0
      refine gf (a2 @d1 @d2) ?_
      exact ⟨l8,hs8,rfl⟩
     ·have d1:=d0
      refine gf @d1 ?_
      exact ⟨l8,hs8,rfl⟩
   ·by_cases d0:a<s
    ·have d1:((a:Int)<(s:Int)):=by omega
     have d2: ¬((s:Int)<(((a+b) / 2:Nat):Int)):=by omega
     have n2: ¬(s<(a+b) / 2):=by omega
     refine gf (a4 @d1 @d2 @d0 @n2) ?_
     by_cases c3:(a+b) / 2<(a+b) / 2+m-s∧(a+b) / 2+m-s<b
     ·have d1:=c3.1
      have d2:=c3.2
      refine gf (a2 @d1 @d2) ?_
      (refine g1f (a2 @d1 @d2) ?_;refine zC (SymC.at (ih l7 (by omega) (fun x hx=>hok x (hs7.2 x hx)) ((a+b) / 2) ((a+b) / 2+m-s) b (by omega) (by omega) (by omega) (by omega)) hs7 hG hSS) ?_;intro p2 h2 hr2;refine g2 ?_)
      obtain ⟨l9,hs9,rfl⟩:=hr2
      refine ge ?_
      exact ⟨l9,hs9,rfl⟩
     ·by_cases d0:(a+b) / 2<(a+b) / 2+m-s
      ·have d2: ¬((a+b) / 2+m-s<b):=fun hh=>c3 ⟨d0,hh⟩
       have d1:=d0
       refine gf (a2 @d1 @d2) ?_
       exact ⟨l7,hs7,rfl⟩
      ·have d1:=d0
       refine gf @d1 ?_
       exact ⟨l7,hs7,rfl⟩
    ·have d1: ¬((a:Int)<(s:Int)):=by omega
     refine gf (a2 @d1 @d0) ?_
     by_cases c3:(a+b) / 2<(a+b) / 2+m-s∧(a+b) / 2+m-s<b
     ·have d1:=c3.1
      have d2:=c3.2
      refine gf (a2 @d1 @d2) ?_
      (refine g1f (a2 @d1 @d2) ?_;refine zC (SymC.at (ih l7 (by omega) (fun x hx=>hok x (hs7.2 x hx)) ((a+b) / 2) ((a+b) / 2+m-s) b (by omega) (by omega) (by omega) (by omega)) hs7 hG hSS) ?_;intro p2 h2 hr2;refine g2 ?_)
      obtain ⟨l9,hs9,rfl⟩:=hr2
      refine ge ?_
      exact ⟨l9,hs9,rfl⟩
     ·by_cases d0:(a+b) / 2<(a+b) / 2+m-s
      ·have d2: ¬((a+b) / 2+m-s<b):=fun hh=>c3 ⟨d0,hh⟩
       have d1:=d0
       refine gf (a2 @d1 @d2) ?_
       exact ⟨l7,hs7,rfl⟩
      ·have d1:=d0
       refine gf @d1 ?_
       exact ⟨l7,hs7,rfl⟩
  ·by_cases d0:s<m
   ·have d1:((s:Int)<(m:Int)):=by omega
    have d2: ¬((m:Int)<(((a+b) / 2+m-s:Nat):Int)):=by omega
    have n2: ¬(m<(a+b) / 2+m-s):=by omega
    refine gf (a6 @hlt1 @we @d1 @d2 @d0 @n2) ?_
    by_cases c2:a<s∧s<(a+b) / 2
    ·have d1:((a:Int)<(s:Int)):=by omega
     have d2:((s:Int)<(((a+b) / 2:Nat):Int)):=by omega
     have n1:=c2.1
     have n2:=c2.2
     refine gf (a4 @d1 @d2 @n1 @n2) ?_
     (refine g1f (a4 @d1 @d2 @n1 @n2) ?_;refine zC ((ih l hl hok a s ((a+b) / 2) (by omega) (by omega) (by omega) (by omega)) h r hr) ?_;intro p2 h2 hr2;refine g2 ?_)
     obtain ⟨l8,hs8,rfl⟩:=hr2
     have hl8:=hs8.1
     by_cases c3:(a+b) / 2<(a+b) / 2+m-s∧(a+b) / 2+m-s<b
     ·have d1:=c3.1
      have d2:=c3.2
      refine gf (a2 @d1 @d2) ?_
      (refine g1f (a2 @d1 @d2) ?_;refine zC (SymC.at (ih l8 (by omega) (fun x hx=>hok x (hs8.2 x hx)) ((a+b) / 2) ((a+b) / 2+m-s) b (by omega) (by omega) (by omega) (by omega)) hs8 hG hSS) ?_;intro p2 h2 hr2;refine g2 ?_)
      obtain ⟨l9,hs9,rfl⟩:=hr2
      refine ge ?_
      exact ⟨l9,hs9,rfl⟩
     ·by_cases d0:(a+b) / 2<(a+b) / 2+m-s
      ·have d2: ¬((a+b) / 2+m-s<b):=fun hh=>c3 ⟨d0,hh⟩
       have d1:=d0
       refine gf (a2 @d1 @d2) ?_
       exact ⟨l8,hs8,rfl⟩
      ·have d1:=d0
       refine gf @d1 ?_
       exact ⟨l8,hs8,rfl⟩
    ·by_cases d0:a<s
     ·have d1:((a:Int)<(s:Int)):=by omega
      have d2: ¬((s:Int)<(((a+b) / 2:Nat):Int)):=by omega
      have n2: ¬(s<(a+b) / 2):=by omega
      refine gf (a4 @d1 @d2 @d0 @n2) ?_
      by_cases c3:(a+b) / 2<(a+b) / 2+m-s∧(a+b) / 2+m-s<b
      ·have d1:=c3.1
       have d2:=c3.2
       refine gf (a2 @d1 @d2) ?_
       (refine g1f (a2 @d1 @d2) ?_;refine zC ((ih l hl hok ((a+b) / 2) ((a+b) / 2+m-s) b (by omega) (by omega) (by omega) (by omega)) h r hr) ?_;intro p2 h2 hr2;refine g2 ?_)
       obtain ⟨l9,hs9,rfl⟩:=hr2
       refine ge ?_
       exact ⟨l9,hs9,rfl⟩
      ·by_cases d0:(a+b) / 2<(a+b) / 2+m-s
       ·have d2: ¬((a+b) / 2+m-s<b):=fun hh=>c3 ⟨d0,hh⟩
        have d1:=d0
        refine gf (a2 @d1 @d2) ?_
        exact ⟨l,(SubR.refl l),(yT hr).symm⟩
       ·have d1:=d0
        refine gf @d1 ?_
        exact ⟨l,(SubR.refl l),(yT hr).symm⟩
     ·have d1: ¬((a:Int)<(s:Int)):=by omega
      refine gf (a2 @d1 @d0) ?_
      by_cases c3:(a+b) / 2<(a+b) / 2+m-s∧(a+b) / 2+m-s<b
      ·have d1:=c3.1
       have d2:=c3.2
       refine gf (a2 @d1 @d2) ?_
       (refine g1f (a2 @d1 @d2) ?_;refine zC ((ih l hl hok ((a+b) / 2) ((a+b) / 2+m-s) b (by omega) (by omega) (by omega) (by omega)) h r hr) ?_;intro p2 h2 hr2;refine g2 ?_)
       obtain ⟨l9,hs9,rfl⟩:=hr2
       refine ge ?_
       exact ⟨l9,hs9,rfl⟩
      ·by_cases d0:(a+b) / 2<(a+b) / 2+m-s
       ·have d2: ¬((a+b) / 2+m-s<b):=fun hh=>c3 ⟨d0,hh⟩
        have d1:=d0
        refine gf (a2 @d1 @d2) ?_
        exact ⟨l,(SubR.refl l),(yT hr).symm⟩
       ·have d1:=d0
        refine gf @d1 ?_
        exact ⟨l,(SubR.refl l),(yT hr).symm⟩
   ·have d1: ¬((s:Int)<(m:Int)):=by omega
    refine gf (a4 @hlt1 @we @d1 @d0) ?_
    by_cases c2:a<s∧s<(a+b) / 2
    ·have d1:((a:Int)<(s:Int)):=by omega
     have d2:((s:Int)<(((a+b) / 2:Nat):Int)):=by omega
     have n1:=c2.1
     have n2:=c2.2
     refine gf (a4 @d1 @d2 @n1 @n2) ?_
     (refine g1f (a4 @d1 @d2 @n1 @n2) ?_;refine zC ((ih l hl hok a s ((a+b) / 2) (by omega) (by omega) (by omega) (by omega)) h r hr) ?_;intro p2 h2 hr2;refine g2 ?_)
     obtain ⟨l8,hs8,rfl⟩:=hr2
     have hl8:=hs8.1
     by_cases c3:(a+b) / 2<(a+b) / 2+m-s∧(a+b) / 2+m-s<b
     ·have d1:=c3.1
      have d2:=c3.2
      refine gf (a2 @d1 @d2) ?_
      (refine g1f (a2 @d1 @d2) ?_;refine zC (SymC.at (ih l8 (by omega) (fun x hx=>hok x (hs8.2 x hx)) ((a+b) / 2) ((a+b) / 2+m-s) b (by omega) (by omega) (by omega) (by omega)) hs8 hG hSS) ?_;intro p2 h2 hr2;refine g2 ?_)
      obtain ⟨l9,hs9,rfl⟩:=hr2
      refine ge ?_
      exact ⟨l9,hs9,rfl⟩
     ·by_cases d0:(a+b) / 2<(a+b) / 2+m-s
      ·have d2: ¬((a+b) / 2+m-s<b):=fun hh=>c3 ⟨d0,hh⟩
       have d1:=d0
       refine gf (a2 @d1 @d2) ?_
       exact ⟨l8,hs8,rfl⟩
      ·have d1:=d0
       refine gf @d1 ?_
       exact ⟨l8,hs8,rfl⟩
    ·by_cases d0:a<s
     ·have d1:((a:Int)<(s:Int)):=by omega
      have d2: ¬((s:Int)<(((a+b) / 2:Nat):Int)):=by omega
      have n2: ¬(s<(a+b) / 2):=by omega
      refine gf (a4 @d1 @d2 @d0 @n2) ?_
      by_cases c3:(a+b) / 2<(a+b) / 2+m-s∧(a+b) / 2+m-s<b
      ·have d1:=c3.1
       have d2:=c3.2
       refine gf (a2 @d1 @d2) ?_
       (refine g1f (a2 @d1 @d2) ?_;refine zC ((ih l hl hok ((a+b) / 2) ((a+b) / 2+m-s) b (by omega) (by omega) (by omega) (by omega)) h r hr) ?_;intro p2 h2 hr2;refine g2 ?_)
       obtain ⟨l9,hs9,rfl⟩:=hr2
       refine ge ?_
       exact ⟨l9,hs9,rfl⟩
      ·by_cases d0:(a+b) / 2<(a+b) / 2+m-s
       ·have d2: ¬((a+b) / 2+m-s<b):=fun hh=>c3 ⟨d0,hh⟩
        have d1:=d0
        refine gf (a2 @d1 @d2) ?_
        exact ⟨l,(SubR.refl l),(yT hr).symm⟩
       ·have d1:=d0
        refine gf @d1 ?_
        exact ⟨l,(SubR.refl l),(yT hr).symm⟩
     ·have d1: ¬((a:Int)<(s:Int)):=by omega
      refine gf (a2 @d1 @d0) ?_
      by_cases c3:(a+b) / 2<(a+b) / 2+m-s∧(a+b) / 2+m-s<b
      ·have d1:=c3.1
       have d2:=c3.2
       refine gf (a2 @d1 @d2) ?_
       (refine g1f (a2 @d1 @d2) ?_;refine zC ((ih l hl hok ((a+b) / 2) ((a+b) / 2+m-s) b (by omega) (by omega) (by omega) (by omega)) h r hr) ?_;intro p2 h2 hr2;refine g2 ?_)
       obtain ⟨l9,hs9,rfl⟩:=hr2
       refine ge ?_
       exact ⟨l9,hs9,rfl⟩
      ·by_cases d0:(a+b) / 2<(a+b) / 2+m-s
       ·have d2: ¬((a+b) / 2+m-s<b):=fun hh=>c3 ⟨d0,hh⟩
        have d1:=d0
        refine gf (a2 @d1 @d2) ?_
        exact ⟨l,(SubR.refl l),(yT hr).symm⟩
       ·have d1:=d0
        refine gf @d1 ?_
        exact ⟨l,(SubR.refl l),(yT hr).symm⟩
end Go.AL
