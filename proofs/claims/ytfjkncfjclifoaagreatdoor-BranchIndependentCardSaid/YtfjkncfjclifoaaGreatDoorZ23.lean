/-
  Programs: whether literals, rules, functions and predicates are formed.
-/
import Derived.Test.YtfjkncfjclifoaaGreatDoorZ22
set_option linter.unusedSimpArgs false
set_option linter.unusedVariables false
set_option maxRecDepth 100000
set_option maxHeartbeats 4000000
namespace Go.AL
open Go.Proofs Go.Proofs.Tryz
theorem bA {l1 l:List Rw} (hl:l.length≤70368744177664) (hok: ∀ x∈l,x.ok) (hs:SubR l1 l) (a b:Nat) (ha:a≤l.length) (hb:b≤l.length) {h:Heap} {r:Nat} (hG: ∀ c,(h.set r c)[r]? =some c) (hSS: ∀ c d,(h.set r c).set r d=h.set r d):
  ECall prog G0 226 [.ms r 0 2 l.length,i64 a,i64 b,kP] (h.set r (.var 76 (xI l1))) fun _ h'=> ∃ l',SubR l' l∧h'=h.set r (.var 76 (xI l')):=by
 have:=zfY l1 (by rw [hs.1];exact hl) (fun x hx=>hok x (hs.2 x hx)) a b (by rw [hs.1];exact ha) (by rw [hs.1];exact hb) (h.set r (.var 76 (xI l1))) r (hG _)
 rw [hs.1] at this
 exact this.mono (by rintro p h' ⟨l',hs',rfl⟩;exact ⟨l',hs'.trans hs,hSS _ _⟩)
theorem zhC {l1 l:List Rw} (hl:l.length≤70368744177664) (hok: ∀ x∈l,x.ok) (hs:SubR l1 l) (a m b:Nat) (ham:a<m) (hmb:m<b) (hb:b≤l.length) {h:Heap} {r:Nat} (hG: ∀ c,(h.set r c)[r]? =some c) (hSS: ∀ c d,(h.set r c).set r d=h.set r d):
  ECall prog G0 227 [.ms r 0 2 l.length,i64 a,i64 m,i64 b,kP] (h.set r (.var 76 (xI l1))) fun _ h'=> ∃ l',SubR l' l∧h'=h.set r (.var 76 (xI l')):=
 (zlO b l1 (by rw [hs.1];exact hl) (fun x hx=>hok x (hs.2 x hx)) a m b (Nat.sub_le _ _) ham hmb (by rw [hs.1];exact hb)).at hs hG hSS
theorem zc4 (l:List Rw) (hl:l.length≤70368744177664) (hok: ∀ x∈l,x.ok) (h:Heap) (r:Nat) (hr:h[r]? =some (.var 76 (xI l))):
  ECall prog G0 225 [.ms r 0 2 l.length,i64 l.length,kP] h fun _ h'=> ∃ l',SubR l' l∧h'=h.set r (.var 76 (xI l')):=by
 refine pv func225 63 false (by kernel_rfl) rfl rfl ?_
 refine g2 ?_
 have hrl:r<h.length:=(gsi hr).1
 have hG: ∀ c,(h.set r c)[r]? =some c:=fun c=>by rw [List.getElem?_set_self hrl]
 have hSS: ∀ c d,(h.set r c).set r d=h.set r d:=fun c d=>List.set_set ..
 refine ge ?_
 refine zW (K4 (.k:: .k:: .k:: .v:: .v:: .k:: .k::D9 (.d:: .d:: .d::K9 (K9 (K9 (K9 (K4 ([])))))))) (fun (s:Nat×List Rw)=>[i64 s.1,i64 (s.1+20:Nat)]) (fun s=>h.set r (.var 76 (xI s.2))) (fun s=>s.1≤l.length∧SubR s.2 l) (fun s=>l.length-s.1) (own:=false) (0,l) rfl (by dsimp only;exact (yT hr).symm) ⟨Nat.zero_le _,SubR.refl l⟩ ?_
 rintro ⟨a,l1⟩ ⟨ha,hS⟩ t ht
 dsimp only at ha hS
 simp only [zY] at ht;subst ht
 by_cases hle:a+20≤l.length
 ·have hb1:(((a+20:Nat):Int)≤(l.length:Int)):=by omega
  have w1:IntKind.i64.wrap (((a+20:Nat):Int)+20)=((a+20+20:Nat):Int):=by rw [xM (by omega) (by omega)];rfl
  refine gf (a2 @hb1 @hle) ?_
  (refine g1 ?_;refine zC (bA hl hok hS a (a+20) (by omega) (by omega) hG hSS) ?_;intro p2 h2 hr2;refine g2 ?_)
  obtain ⟨l2,hs2,rfl⟩:=hr2
  refine gf @w1 ?_
  exact ⟨(a+20,l2),⟨by dsimp only;omega,hs2⟩,by dsimp only;omega,rfl,rfl,rfl⟩
 ·have hb1: ¬(((a+20:Nat):Int)≤(l.length:Int)):=by omega
  refine gf (a2 @hb1 @hle) ?_
  (refine g1 ?_;refine zC (bA hl hok hS a l.length (by omega) (by omega) hG hSS) ?_;intro p2 h2 hr2;refine g2 ?_)
  obtain ⟨l2,hs2,rfl⟩:=hr2
  refine ge ?_
  refine zW (K4 (.k:: .k:: .v:: .d:: .d:: .d::K9 (K9 (D9 (D9 (D9 (D4 (D4 ([]))))))))) (fun (s:Nat×List Rw)=>[i64 s.1]) (fun s=>h.set r (.var 76 (xI s.2))) (fun s=>1≤s.1∧s.1≤2*l.length+20∧SubR s.2 l) (fun s=>2*l.length+20-s.1) (own:=false) (20,l2) rfl rfl ⟨by dsimp only;omega,by dsimp only;omega,hs2⟩ ?_
  rintro ⟨bs,l3⟩ ⟨hbs,hbs2,hS3⟩ t ht
  dsimp only at hbs hbs2 hS3
  simp only [zY] at ht;subst ht
  by_cases hlt:bs<l.length
  ·have hb2:((bs:Int)<(l.length:Int)):=by omega
   have w2:IntKind.i64.wrap (2*(bs:Int))=((2*bs:Nat):Int):=by rw [xM (by omega) (by omega)];omega
   have w3:IntKind.i64.wrap ((bs:Int)*2)=((bs*2:Nat):Int):=by rw [xM (by omega) (by omega)];omega
   refine gf (a3 @hb2 @hlt @w2) ?_
   refine zW (K4 (.k:: .k:: .k:: .v:: .v::K9 (K9 (K4 (.k:: .k::D9 (D4 (.d:: .d:: .d::K9 (K4 (.k::[]))))))))) (fun (s:Nat×List Rw)=>[i64 s.1,i64 (s.1+2*bs:Nat)]) (fun s=>h.set r (.var 76 (xI s.2))) (fun s=>s.1≤l.length∧SubR s.2 l) (fun s=>l.length-s.1) (own:=false) (0,l3) (by simp only [zY,xJ,List.tail_cons]<;>simp) rfl ⟨Nat.zero_le _,hS3⟩ ?_
   rintro ⟨c,l4⟩ ⟨hc,hS4⟩ t ht
   dsimp only at hc hS4
   simp only [zY] at ht;subst ht
   have w4:IntKind.i64.wrap ((c:Int)+bs)=((c+bs:Nat):Int):=by rw [xM (by omega) (by omega)];omega
   by_cases hle3:c+2*bs≤l.length
   ·have hb3:(((c+2*bs:Nat):Int)≤(l.length:Int)):=by omega
    have w5:IntKind.i64.wrap (((c+2*bs:Nat):Int)+((2*bs:Nat):Int))=((c+2*bs+2*bs:Nat):Int):=by rw [xM (by omega) (by omega)];omega
    refine gf (a3 @hb3 @hle3 @w4) ?_
    (refine g1f @w4 ?_;refine zC (zhC hl hok hS4 c (c+bs) (c+2*bs) (by omega) (by omega) hle3 hG hSS) ?_;intro p2 h2 hr2;refine g2 ?_)
    obtain ⟨l5,hs5,rfl⟩:=hr2
    refine gf (a2 @w2 @w5) ?_
    exact ⟨(c+2*bs,l5),⟨by dsimp only;omega,hs5⟩,by dsimp only;omega,rfl,rfl,rfl⟩
   ·have hb3: ¬(((c+2*bs:Nat):Int)≤(l.length:Int)):=by omega
    by_cases hmn:c+bs<l.length
    ·have hb4:(((c+bs:Nat):Int)<(l.length:Int)):=by omega
     refine gf (a5 @hb3 @hle3 @w4 @hb4 @hmn) ?_
     (refine g1f @w4 ?_;refine zC (zhC hl hok hS4 c (c+bs) l.length (by omega) hmn (Nat.le_refl _) hG hSS) ?_;intro p2 h2 hr2;refine g2 ?_)
     obtain ⟨l5,hs5,rfl⟩:=hr2
     refine gf @w3 ?_
     exact ⟨(bs*2,l5),⟨by dsimp only;omega,by dsimp only;omega,hs5⟩,by dsimp only;omega,rfl,rfl,rfl⟩
    ·have hb4: ¬(((c+bs:Nat):Int)<(l.length:Int)):=by omega
     refine gf (a6 @hb3 @hle3 @w4 @hb4 @hmn @w3) ?_
     exact ⟨(bs*2,l4),⟨by dsimp only;omega,by dsimp only;omega,hS4⟩,by dsimp only;omega,rfl,rfl,rfl⟩
  ·have hb2: ¬((bs:Int)<(l.length:Int)):=by omega
   refine gf (a2 @hb2 @hlt) ?_
   exact ⟨l3,hS3,rfl⟩
theorem hP (l:List Rw) (hl:l.length≤70368744177664) (hok: ∀ x∈l,x.ok) (h:Heap) (r:Nat) (hr:h[r]? =some (.var 76 (xI l))):
  ECall prog G0 219 [.ms r 0 2 l.length,kP] h fun _ h'=> ∃ l',SubR l' l∧h'=h.set r (.var 76 (xI l')):=by
 refine pv func219 9 false (by kernel_rfl) rfl rfl ?_
 refine g2 ?_
 refine ge ?_
 (refine g1 ?_;refine zC (zc4 l hl hok h r hr) ?_;intro p2 h2 hr2;refine g2 ?_)
 obtain ⟨l2,hs2,rfl⟩:=hr2
 refine ge ?_
 exact ⟨l2,hs2,rfl⟩
end Go.AL
namespace Go.AL
open Go.Proofs Go.Proofs.Tryz
theorem vX (cs:List PV) (o k:Nat):wA cs o k 0=[]:=rfl
theorem zjR (els:List (List PV)):sE (α:=Prop) prog 108 (.ts 1 els) .nil=some (false,0<els.length):=by kernel_rfl
theorem ze2:wD prog 108=some (9,1,16):=by kernel_rfl
theorem zjU (els:List (List PV)):sE (α:=Prop) prog 109 (.ts 2 els) .nil=some (false,0<els.length):=by kernel_rfl
theorem ze5:wD prog 109=some (210,2,16):=by kernel_rfl
theorem zjT (els:List (List PV)):sE (α:=Prop) prog 57 (.ts 1 els) .nil=some (false,0<els.length):=by kernel_rfl
theorem ze4:wD prog 57=some (3,1,8):=by kernel_rfl
theorem zmC (els:List (List PV)):sE (α:=Prop) prog 120 (.ts 4 els) .nil=some (false,0<els.length):=by kernel_rfl
theorem ziR:wD prog 120=some (217,4,48):=by kernel_rfl
theorem zhQ (els:List (List PV)):sE (α:=Prop) prog 123 (.ts 9 els) .nil=some (false,0<els.length):=by kernel_rfl
theorem ziV:wD prog 123=some (127,9,112):=by kernel_rfl
theorem zmB (els:List (List PV)):sE (α:=Prop) prog 73 (.ts 3 els) .nil=some (false,0<els.length):=by kernel_rfl
theorem ziQ:wD prog 73=some (72,3,32):=by kernel_rfl
theorem zhP (els:List (List PV)):sE (α:=Prop) prog 70 (.ts 2 els) .nil=some (false,0<els.length):=by kernel_rfl
theorem ziS:wD prog 70=some (76,2,48):=by kernel_rfl
theorem zmD (els:List (List PV)):sE (α:=Prop) prog 32 (.ts 6 els) .nil=some (false,0<els.length):=by kernel_rfl
theorem ziU:wD prog 32=some (84,6,64):=by kernel_rfl
theorem zmE (els:List (List PV)):sE (α:=Prop) prog 29 (.ts 2 els) .nil=some (false,0<els.length):=by kernel_rfl
theorem zjS (els:List (List PV)):sE (α:=Prop) prog 41 (.ts 1 els) .nil=some (false,0<els.length):=by kernel_rfl
theorem ze3:wD prog 41=some (70,1,24):=by kernel_rfl
theorem zf9 (els:List (List PV)):sE (α:=Prop) prog 42 (.ts 1 els) .nil=some (false,0<els.length):=by kernel_rfl
theorem zcZ:wD prog 42=some (96,1,24):=by kernel_rfl
end Go.AL
namespace Go.AL.N
open Go.Proofs Go.Proofs.Tryz
theorem clone0_str:EPure prog G0 118 [.ts 1 []] fun p=>p= .ts 1 []:=by
 refine ⟨.ts 1 [],rfl,by simp [xX],ACall.weaken ?_⟩
 refine pv func118 8 false (by kernel_rfl) rfl rfl ?_
 refine g2 ?_
 refine ge ?_
 refine uL rfl (R:=fun p h'=>(p=bo true∨p=bo false)∧h'=[]) (fun rd _=>OpOk.nilCmp (k:=1) (els:=[]) rfl rfl rfl (by kernel_rfl) (fun b=>by cases b<;>simp)) ?_
 rintro p h' ⟨rfl|rfl,rfl⟩ ts2 hts
 ·simp only [zZ,List.set_cons_zero,List.set_cons_succ] at hts;subst hts
  refine ge ?_
  exact ⟨_,PLe.nil_ts 1,rfl,rfl⟩
 ·simp only [zZ,List.set_cons_zero,List.set_cons_succ] at hts;subst hts
  refine ge ?_
  refine uL rfl (R:=fun p h'=>p= .ts 1 []∧h'=[]) (fun rd _=>OpOk.appendEmpty (k:=1) rfl rfl rfl rfl rfl rfl ze2 ⟨rfl,rfl⟩) ?_
  rintro p h' ⟨rfl,rfl⟩ ts2 hts
  simp only [zZ,List.set_cons_zero,List.set_cons_succ] at hts;subst hts
  refine ge ?_
  exact ⟨_,PLe.refl _,rfl,rfl⟩
end Go.AL.N
namespace Go.AL
open Go.Proofs Go.Proofs.Tryz
theorem lU (l:List BA) (hl:l.length≤1099511627776) (htb:zU 40 (rR l)=true):EPure prog G0 118 [rR l] fun p=>p=rR l:=by
 rcases Nat.eq_zero_or_pos l.length with h0|h0
 ·have:=List.eq_nil_of_length_eq_zero h0
  subst this
  exact N.clone0_str
 ·refine ECall.cutW (R:=fun p _=> ∃ q,p= .vec q 1 (l.map fun s=>[yQ s])) (pv func118 8 false (by kernel_rfl) rfl rfl ?_) ?_
  refine g2 ?_
  ·refine gf (a2 @zjR @vX) ?_
   exact ⟨_,rfl⟩
  ·rintro p h ⟨q,rfl⟩
   rw [rF htb]
   exact ⟨_,PLe.refl _,rfl,yP _ _ htb⟩
end Go.AL
namespace Go.AL.N
open Go.Proofs Go.Proofs.Tryz
theorem clone0_cov:EPure prog G0 119 [.ts 2 []] fun p=>p= .ts 2 []:=by
 refine ⟨.ts 2 [],rfl,by simp [xX],ACall.weaken ?_⟩
 refine pv func119 8 false (by kernel_rfl) rfl rfl ?_
 refine g2 ?_
 refine ge ?_
 refine uL rfl (R:=fun p h'=>(p=bo true∨p=bo false)∧h'=[]) (fun rd _=>OpOk.nilCmp (k:=2) (els:=[]) rfl rfl rfl (by kernel_rfl) (fun b=>by cases b<;>simp)) ?_
 rintro p h' ⟨rfl|rfl,rfl⟩ ts2 hts
 ·simp only [zZ,List.set_cons_zero,List.set_cons_succ] at hts;subst hts
  refine ge ?_
  exact ⟨_,PLe.nil_ts 2,rfl,rfl⟩
 ·simp only [zZ,List.set_cons_zero,List.set_cons_succ] at hts;subst hts
  refine ge ?_
  refine uL rfl (R:=fun p h'=>p= .ts 2 []∧h'=[]) (fun rd _=>OpOk.appendEmpty (k:=2) rfl rfl rfl rfl rfl rfl ze5 ⟨rfl,rfl⟩) ?_
  rintro p h' ⟨rfl,rfl⟩ ts2 hts
  simp only [zZ,List.set_cons_zero,List.set_cons_succ] at hts;subst hts
  refine ge ?_
  exact ⟨_,PLe.refl _,rfl,rfl⟩
end Go.AL.N
namespace Go.AL
open Go.Proofs Go.Proofs.Tryz
theorem zd8 (l:List (Int×Int)) (hl:l.length≤1099511627776) (htb:zU 40 (.ts 2 (l.map fun c=>[i64 c.1,i64 c.2]))=true):EPure prog G0 119 [.ts 2 (l.map fun c=>[i64 c.1,i64 c.2])] fun p=>p= .ts 2 (l.map fun c=>[i64 c.1,i64 c.2]):=by
 rcases Nat.eq_zero_or_pos l.length with h0|h0
 ·have:=List.eq_nil_of_length_eq_zero h0
  subst this
  exact N.clone0_cov
 ·refine ECall.cutW (R:=fun p _=> ∃ q,p= .vec q 2 ((l.map fun c=>[i64 c.1,i64 c.2]))) (pv func119 8 false (by kernel_rfl) rfl rfl ?_) ?_
  refine g2 ?_
  ·refine gf (a2 @zjU @vX) ?_
   exact ⟨_,rfl⟩
  ·rintro p h ⟨q,rfl⟩
   rw [rF htb]
   exact ⟨_,PLe.refl _,rfl,yP _ _ htb⟩
end Go.AL
namespace Go.AL.N
open Go.Proofs Go.Proofs.Tryz
theorem clone0_int:EPure prog G0 122 [.ts 1 []] fun p=>p= .ts 1 []:=by
 refine ⟨.ts 1 [],rfl,by simp [xX],ACall.weaken ?_⟩
 refine pv func122 8 false (by kernel_rfl) rfl rfl ?_
 refine g2 ?_
 refine ge ?_
 refine uL rfl (R:=fun p h'=>(p=bo true∨p=bo false)∧h'=[]) (fun rd _=>OpOk.nilCmp (k:=1) (els:=[]) rfl rfl rfl (by kernel_rfl) (fun b=>by cases b<;>simp)) ?_
 rintro p h' ⟨rfl|rfl,rfl⟩ ts2 hts
 ·simp only [zZ,List.set_cons_zero,List.set_cons_succ] at hts;subst hts
  refine ge ?_
  exact ⟨_,PLe.nil_ts 1,rfl,rfl⟩
 ·simp only [zZ,List.set_cons_zero,List.set_cons_succ] at hts;subst hts
  refine ge ?_
  refine uL rfl (R:=fun p h'=>p= .ts 1 []∧h'=[]) (fun rd _=>OpOk.appendEmpty (k:=1) rfl rfl rfl rfl rfl rfl ze4 ⟨rfl,rfl⟩) ?_
  rintro p h' ⟨rfl,rfl⟩ ts2 hts
  simp only [zZ,List.set_cons_zero,List.set_cons_succ] at hts;subst hts
  refine ge ?_
  exact ⟨_,PLe.refl _,rfl,rfl⟩
end Go.AL.N
namespace Go.AL
open Go.Proofs Go.Proofs.Tryz
theorem zd7 (l:List Int) (hl:l.length≤1099511627776) (htb:zU 40 (vF l)=true):EPure prog G0 122 [vF l] fun p=>p=vF l:=by
 rcases Nat.eq_zero_or_pos l.length with h0|h0
 ·have:=List.eq_nil_of_length_eq_zero h0
  subst this
  exact N.clone0_int
 ·refine ECall.cutW (R:=fun p _=> ∃ q,p= .vec q 1 (l.map fun n=>[i64 n])) (pv func122 8 false (by kernel_rfl) rfl rfl ?_) ?_
  refine g2 ?_
  ·refine gf (a2 @zjT @vX) ?_
   exact ⟨_,rfl⟩
  ·rintro p h ⟨q,rfl⟩
   rw [rF htb]
   exact ⟨_,PLe.refl _,rfl,yP _ _ htb⟩
end Go.AL
namespace Go.AL.N
open Go.Proofs Go.Proofs.Tryz
theorem clone0_tm:EPure prog G0 123 [.ts 4 []] fun p=>p= .ts 4 []:=by
 refine ⟨.ts 4 [],rfl,by simp [xX],ACall.weaken ?_⟩
 refine pv func123 8 false (by kernel_rfl) rfl rfl ?_
 refine g2 ?_
 refine ge ?_
 refine uL rfl (R:=fun p h'=>(p=bo true∨p=bo false)∧h'=[]) (fun rd _=>OpOk.nilCmp (k:=4) (els:=[]) rfl rfl rfl (by kernel_rfl) (fun b=>by cases b<;>simp)) ?_
 rintro p h' ⟨rfl|rfl,rfl⟩ ts2 hts
 ·simp only [zZ,List.set_cons_zero,List.set_cons_succ] at hts;subst hts
  refine ge ?_
  exact ⟨_,PLe.nil_ts 4,rfl,rfl⟩
 ·simp only [zZ,List.set_cons_zero,List.set_cons_succ] at hts;subst hts
  refine ge ?_
  refine uL rfl (R:=fun p h'=>p= .ts 4 []∧h'=[]) (fun rd _=>OpOk.appendEmpty (k:=4) rfl rfl rfl rfl rfl rfl ziR ⟨rfl,rfl⟩) ?_
  rintro p h' ⟨rfl,rfl⟩ ts2 hts
  simp only [zZ,List.set_cons_zero,List.set_cons_succ] at hts;subst hts
  refine ge ?_
  exact ⟨_,PLe.refl _,rfl,rfl⟩
end Go.AL.N
namespace Go.AL
open Go.Proofs Go.Proofs.Tryz
theorem bI (l:List Tm) (hl:l.length≤1099511627776) (htb:zU 40 (mI l)=true):EPure prog G0 123 [mI l] fun p=>p=mI l:=by
 rcases Nat.eq_zero_or_pos l.length with h0|h0
 ·have:=List.eq_nil_of_length_eq_zero h0
  subst this
  exact N.clone0_tm
 ·refine ECall.cutW (R:=fun p _=> ∃ q,p= .vec q 4 (l.map Tm.c)) (pv func123 8 false (by kernel_rfl) rfl rfl ?_) ?_
  refine g2 ?_
  ·refine gf (a2 @zmC @vX) ?_
   exact ⟨_,rfl⟩
  ·rintro p h ⟨q,rfl⟩
   rw [rF htb]
   exact ⟨_,PLe.refl _,rfl,yP _ _ htb⟩
end Go.AL
namespace Go.AL.N
open Go.Proofs Go.Proofs.Tryz
theorem clone0_li:EPure prog G0 124 [.ts 9 []] fun p=>p= .ts 9 []:=by
 refine ⟨.ts 9 [],rfl,by simp [xX],ACall.weaken ?_⟩
 refine pv func124 8 false (by kernel_rfl) rfl rfl ?_
 refine g2 ?_
 refine ge ?_
 refine uL rfl (R:=fun p h'=>(p=bo true∨p=bo false)∧h'=[]) (fun rd _=>OpOk.nilCmp (k:=9) (els:=[]) rfl rfl rfl (by kernel_rfl) (fun b=>by cases b<;>simp)) ?_
 rintro p h' ⟨rfl|rfl,rfl⟩ ts2 hts
 ·simp only [zZ,List.set_cons_zero,List.set_cons_succ] at hts;subst hts
  refine ge ?_
  exact ⟨_,PLe.nil_ts 9,rfl,rfl⟩
 ·simp only [zZ,List.set_cons_zero,List.set_cons_succ] at hts;subst hts
  refine ge ?_
  refine uL rfl (R:=fun p h'=>p= .ts 9 []∧h'=[]) (fun rd _=>OpOk.appendEmpty (k:=9) rfl rfl rfl rfl rfl rfl ziV ⟨rfl,rfl⟩) ?_
  rintro p h' ⟨rfl,rfl⟩ ts2 hts
  simp only [zZ,List.set_cons_zero,List.set_cons_succ] at hts;subst hts
  refine ge ?_
  exact ⟨_,PLe.refl _,rfl,rfl⟩
end Go.AL.N
namespace Go.AL
open Go.Proofs Go.Proofs.Tryz
theorem zgE (l:List Li) (hl:l.length≤1099511627776) (htb:zU 40 (.ts 9 (l.map Li.c))=true):EPure prog G0 124 [.ts 9 (l.map Li.c)] fun p=>p= .ts 9 (l.map Li.c):=by
 rcases Nat.eq_zero_or_pos l.length with h0|h0
 ·have:=List.eq_nil_of_length_eq_zero h0
  subst this
  exact N.clone0_li
 ·refine ECall.cutW (R:=fun p _=> ∃ q,p= .vec q 9 ((l.map Li.c))) (pv func124 8 false (by kernel_rfl) rfl rfl ?_) ?_
  refine g2 ?_
  ·refine gf (a2 @zhQ @vX) ?_
   exact ⟨_,rfl⟩
  ·rintro p h ⟨q,rfl⟩
   rw [rF htb]
   exact ⟨_,PLe.refl _,rfl,yP _ _ htb⟩
end Go.AL
namespace Go.AL.N
open Go.Proofs Go.Proofs.Tryz
theorem clone0_vl:EPure prog G0 91 [.ts 3 []] fun p=>p= .ts 3 []:=by
 refine ⟨.ts 3 [],rfl,by simp [xX],ACall.weaken ?_⟩
 refine pv func91 8 false (by kernel_rfl) rfl rfl ?_
 refine g2 ?_
 refine ge ?_
 refine uL rfl (R:=fun p h'=>(p=bo true∨p=bo false)∧h'=[]) (fun rd _=>OpOk.nilCmp (k:=3) (els:=[]) rfl rfl rfl (by kernel_rfl) (fun b=>by cases b<;>simp)) ?_
 rintro p h' ⟨rfl|rfl,rfl⟩ ts2 hts
 ·simp only [zZ,List.set_cons_zero,List.set_cons_succ] at hts;subst hts
  refine ge ?_
  exact ⟨_,PLe.nil_ts 3,rfl,rfl⟩
 ·simp only [zZ,List.set_cons_zero,List.set_cons_succ] at hts;subst hts
  refine ge ?_
  refine uL rfl (R:=fun p h'=>p= .ts 3 []∧h'=[]) (fun rd _=>OpOk.appendEmpty (k:=3) rfl rfl rfl rfl rfl rfl ziQ ⟨rfl,rfl⟩) ?_
  rintro p h' ⟨rfl,rfl⟩ ts2 hts
  simp only [zZ,List.set_cons_zero,List.set_cons_succ] at hts;subst hts
  refine ge ?_
  exact ⟨_,PLe.refl _,rfl,rfl⟩
end Go.AL.N
namespace Go.AL
open Go.Proofs Go.Proofs.Tryz
theorem iK (l:List Vl) (hl:l.length≤1099511627776) (htb:zU 40 (pH l)=true):EPure prog G0 91 [pH l] fun p=>p=pH l:=by
 rcases Nat.eq_zero_or_pos l.length with h0|h0
 ·have:=List.eq_nil_of_length_eq_zero h0
  subst this
  exact N.clone0_vl
 ·refine ECall.cutW (R:=fun p _=> ∃ q,p= .vec q 3 (l.map Vl.c)) (pv func91 8 false (by kernel_rfl) rfl rfl ?_) ?_
  refine g2 ?_
  ·refine gf (a2 @zmB @vX) ?_
   exact ⟨_,rfl⟩
  ·rintro p h ⟨q,rfl⟩
   rw [rF htb]
   exact ⟨_,PLe.refl _,rfl,yP _ _ htb⟩
end Go.AL
namespace Go.AL.N
open Go.Proofs Go.Proofs.Tryz
theorem clone0_rw:EPure prog G0 218 [.ts 2 []] fun p=>p= .ts 2 []:=by
 refine ⟨.ts 2 [],rfl,by simp [xX],ACall.weaken ?_⟩
 refine pv func218 8 false (by kernel_rfl) rfl rfl ?_
 refine g2 ?_
 refine ge ?_
 refine uL rfl (R:=fun p h'=>(p=bo true∨p=bo false)∧h'=[]) (fun rd _=>OpOk.nilCmp (k:=2) (els:=[]) rfl rfl rfl (by kernel_rfl) (fun b=>by cases b<;>simp)) ?_
 rintro p h' ⟨rfl|rfl,rfl⟩ ts2 hts
 ·simp only [zZ,List.set_cons_zero,List.set_cons_succ] at hts;subst hts
  refine ge ?_
  exact ⟨_,PLe.nil_ts 2,rfl,rfl⟩
 ·simp only [zZ,List.set_cons_zero,List.set_cons_succ] at hts;subst hts
  refine ge ?_
  refine uL rfl (R:=fun p h'=>p= .ts 2 []∧h'=[]) (fun rd _=>OpOk.appendEmpty (k:=2) rfl rfl rfl rfl rfl rfl ziS ⟨rfl,rfl⟩) ?_
  rintro p h' ⟨rfl,rfl⟩ ts2 hts
  simp only [zZ,List.set_cons_zero,List.set_cons_succ] at hts;subst hts
  refine ge ?_
  exact ⟨_,PLe.refl _,rfl,rfl⟩
end Go.AL.N
namespace Go.AL
open Go.Proofs Go.Proofs.Tryz
theorem zgC (l:List Rw) (hl:l.length≤1099511627776) (htb:zU 40 (uN l)=true):EPure prog G0 218 [uN l] fun p=>p=uN l:=by
 rcases Nat.eq_zero_or_pos l.length with h0|h0
 ·have:=List.eq_nil_of_length_eq_zero h0
  subst this
  exact N.clone0_rw
 ·refine ECall.cutW (R:=fun p _=> ∃ q,p= .vec q 2 (l.map Rw.c)) (pv func218 8 false (by kernel_rfl) rfl rfl ?_) ?_
  refine g2 ?_
  ·refine gf (a2 @zhP @vX) ?_
   exact ⟨_,rfl⟩
  ·rintro p h ⟨q,rfl⟩
   rw [rF htb]
   exact ⟨_,PLe.refl _,rfl,yP _ _ htb⟩
end Go.AL
namespace Go.AL.N
open Go.Proofs Go.Proofs.Tryz
theorem clone0_op:EPure prog G0 32 [.ts 6 []] fun p=>p= .ts 6 []:=by
 refine ⟨.ts 6 [],rfl,by simp [xX],ACall.weaken ?_⟩
 refine pv func32 8 false (by kernel_rfl) rfl rfl ?_
 refine g2 ?_
 refine ge ?_
 refine uL rfl (R:=fun p h'=>(p=bo true∨p=bo false)∧h'=[]) (fun rd _=>OpOk.nilCmp (k:=6) (els:=[]) rfl rfl rfl (by kernel_rfl) (fun b=>by cases b<;>simp)) ?_
 rintro p h' ⟨rfl|rfl,rfl⟩ ts2 hts
 ·simp only [zZ,List.set_cons_zero,List.set_cons_succ] at hts;subst hts
  refine ge ?_
  exact ⟨_,PLe.nil_ts 6,rfl,rfl⟩
 ·simp only [zZ,List.set_cons_zero,List.set_cons_succ] at hts;subst hts
  refine ge ?_
  refine uL rfl (R:=fun p h'=>p= .ts 6 []∧h'=[]) (fun rd _=>OpOk.appendEmpty (k:=6) rfl rfl rfl rfl rfl rfl ziU ⟨rfl,rfl⟩) ?_
  rintro p h' ⟨rfl,rfl⟩ ts2 hts
  simp only [zZ,List.set_cons_zero,List.set_cons_succ] at hts;subst hts
  refine ge ?_
  exact ⟨_,PLe.refl _,rfl,rfl⟩
end Go.AL.N
namespace Go.AL
open Go.Proofs Go.Proofs.Tryz
theorem zgD (l:List Op1) (hl:l.length≤1099511627776) (htb:zU 40 (lJ l)=true):EPure prog G0 32 [lJ l] fun p=>p=lJ l:=by
 rcases Nat.eq_zero_or_pos l.length with h0|h0
 ·have:=List.eq_nil_of_length_eq_zero h0
  subst this
  exact N.clone0_op
 ·refine ECall.cutW (R:=fun p _=> ∃ q,p= .vec q 6 (l.map Op1.c)) (pv func32 8 false (by kernel_rfl) rfl rfl ?_) ?_
  refine g2 ?_
  ·refine gf (a2 @zmD @vX) ?_
   exact ⟨_,rfl⟩
  ·rintro p h ⟨q,rfl⟩
   rw [rF htb]
   exact ⟨_,PLe.refl _,rfl,yP _ _ htb⟩
end Go.AL
namespace Go.AL.N
open Go.Proofs Go.Proofs.Tryz
end Go.AL.N
namespace Go.AL
open Go.Proofs Go.Proofs.Tryz
end Go.AL
namespace Go.AL.N
open Go.Proofs Go.Proofs.Tryz
theorem clone0_rel:EPure prog G0 35 [.ts 1 []] fun p=>p= .ts 1 []:=by
 refine ⟨.ts 1 [],rfl,by simp [xX],ACall.weaken ?_⟩
 refine pv func35 8 false (by kernel_rfl) rfl rfl ?_
 refine g2 ?_
 refine ge ?_
 refine uL rfl (R:=fun p h'=>(p=bo true∨p=bo false)∧h'=[]) (fun rd _=>OpOk.nilCmp (k:=1) (els:=[]) rfl rfl rfl (by kernel_rfl) (fun b=>by cases b<;>simp)) ?_
 rintro p h' ⟨rfl|rfl,rfl⟩ ts2 hts
 ·simp only [zZ,List.set_cons_zero,List.set_cons_succ] at hts;subst hts
  refine ge ?_
  exact ⟨_,PLe.nil_ts 1,rfl,rfl⟩
 ·simp only [zZ,List.set_cons_zero,List.set_cons_succ] at hts;subst hts
  refine ge ?_
  refine uL rfl (R:=fun p h'=>p= .ts 1 []∧h'=[]) (fun rd _=>OpOk.appendEmpty (k:=1) rfl rfl rfl rfl rfl rfl ze3 ⟨rfl,rfl⟩) ?_
  rintro p h' ⟨rfl,rfl⟩ ts2 hts
  simp only [zZ,List.set_cons_zero,List.set_cons_succ] at hts;subst hts
  refine ge ?_
  exact ⟨_,PLe.refl _,rfl,rfl⟩
end Go.AL.N
namespace Go.AL
open Go.Proofs Go.Proofs.Tryz
end Go.AL
namespace Go.AL.N
open Go.Proofs Go.Proofs.Tryz
theorem clone0_lrel:EPure prog G0 36 [.ts 1 []] fun p=>p= .ts 1 []:=by
 refine ⟨.ts 1 [],rfl,by simp [xX],ACall.weaken ?_⟩
 refine pv func36 8 false (by kernel_rfl) rfl rfl ?_
 refine g2 ?_
 refine ge ?_
 refine uL rfl (R:=fun p h'=>(p=bo true∨p=bo false)∧h'=[]) (fun rd _=>OpOk.nilCmp (k:=1) (els:=[]) rfl rfl rfl (by kernel_rfl) (fun b=>by cases b<;>simp)) ?_
 rintro p h' ⟨rfl|rfl,rfl⟩ ts2 hts
 ·simp only [zZ,List.set_cons_zero,List.set_cons_succ] at hts;subst hts
  refine ge ?_
  exact ⟨_,PLe.nil_ts 1,rfl,rfl⟩
 ·simp only [zZ,List.set_cons_zero,List.set_cons_succ] at hts;subst hts
  refine ge ?_
  refine uL rfl (R:=fun p h'=>p= .ts 1 []∧h'=[]) (fun rd _=>OpOk.appendEmpty (k:=1) rfl rfl rfl rfl rfl rfl zcZ ⟨rfl,rfl⟩) ?_
  rintro p h' ⟨rfl,rfl⟩ ts2 hts
  simp only [zZ,List.set_cons_zero,List.set_cons_succ] at hts;subst hts
  refine ge ?_
  exact ⟨_,PLe.refl _,rfl,rfl⟩
end Go.AL.N
namespace Go.AL
open Go.Proofs Go.Proofs.Tryz
end Go.AL
namespace Go.AL
open Go.Proofs Go.Proofs.Tryz
@[go_sem] def URel7f193.pl:Nat→DPlan
 |8=>⟨[yA,yA,yA,yA,yA,yA,yA,yA,yB,yA,yA,yA,yB,yC,yA,yA],xE,0⟩
 |_=>⟨[],[],0⟩
def GrowN (off:Nat) (t:TypeId) (els:List (List PV)) (k:Nat) (J:Heap) (V:PV):Prop:=(els=[]∧V= .nil)∨ ∃ q,V= .vec (q+off) k els∧J[q]? =some (.vec t k els.length)
theorem dZ (l:List Rw) (hne:0<l.length) (hl:l.length≤1099511627776) (h:Heap):ECall prog G0 218 [uN l] h fun p h'=>p= .ms h.length 0 2 l.length∧h'=h++[.var 76 (xI l)]:=by
 cases l with
 |nil=>cases hne
 |cons x l=>
  refine sA (own:=true) func218 rfl (by kernel_rfl) (show _=[uN (x::l),.ud,.ud,.ud,.ud,.ud,.ud,.ud] from rfl) ?_
  have hl2:l.length+1≤1099511627776:=by simpa using hl
  have hl3:(l.length+1)*48≤140737488355328:=by omega
  have hl4:l.length≤140737488355327:=by omega
  refine gf (a4 @zhP @vX @hl3 @hl4) ?_
  exact ⟨rfl,rfl⟩
theorem fI (a:Int):rJ a a=0:=by simp [rJ]
theorem lP {α:Type} {f:α→α→Int} (hf: ∀ x,f x x=0): ∀ l:List α,vZ f l l=0
 | []=>rfl
 |x::l=>by simp [vZ,hf x,lP hf l]
theorem zd4 (v:Vl):iU v v=0:=by simp [iU,fI,znM,lP (f:=bT) fun x=>fI _]
theorem zd5 (l:List Vl):sD l l=0:=lP zd4 l
structure Rw.lt (r:Rw):Prop where
 al:r.args.length≤1048576
 a: ∀ v∈r.args,v.s.size≤140737488355328
 w:r.w.length≤1048576
theorem Rw.lt.ok {r:Rw} (h:r.lt):r.ok:=⟨by have:=h.al;omega,h.a⟩
structure Rw.ls (r:Rw):Prop where
 al:r.args.length≤1048576
 a: ∀ v∈r.args,v.s.size≤140737488355328
 w:r.w.length≤64
theorem Rw.ls.lt {r:Rw} (h:r.ls):r.lt:=⟨h.al,h.a,by have:=h.w;omega⟩
theorem Rw.ls.ok {r:Rw} (h:r.ls):r.ok:=h.lt.ok
theorem zaJ (f:Nat) (l:List Vl):zU (f+2) (pH l)=true:=by simp [zU,List.all_map]
theorem zlM (f:Nat) (l:List Sp):zU (f+2) (kJ l)=true:=by simp [zU,List.all_map]
theorem rE (f:Nat) (l:List Rw):zU (f+4) (uN l)=true:=by
 simp only [zU,List.all_map,List.all_eq_true,Function.comp_apply]
 intro x _ p hp
 simp only [Rw.c,List.mem_cons,List.not_mem_nil,or_false] at hp
 rcases hp with rfl|rfl
 ·exact zaJ (f+1) x.args
 ·exact zlM (f+1) x.w
theorem zi2 (l:List Rw) (i:Nat) (h:i<l.length):((xI l).drop (i*2+1)).getD 0 .un=kJ l[i].w:=by
 induction l generalizing i with
 |nil=>cases h
 | cons x l ih=>
  cases i with
  |zero=>rfl
  |succ i=>
   rw [tR,show (i+1)*2+1=i*2+1+1+1 by omega,List.drop_succ_cons,List.drop_succ_cons,ih i (by simpa using h)]
   rfl
theorem eL (l:List Rw) (i:Nat) (h:i<l.length):((xI l).drop (i*2)).getD 0 .un=pH l[i].args:=by
 induction l generalizing i with
 |nil=>cases h
 | cons x l ih=>
  cases i with
  |zero=>rfl
  |succ i=>
   rw [tR,show (i+1)*2=i*2+1+1 by omega,List.drop_succ_cons,List.drop_succ_cons,ih i (by simpa using h)]
   rfl
open URel7f193 in
theorem eB (l:List Rw) (hl:l.length≤68719476736) (hok: ∀ x∈l,x.ls) (hne:0<l.length):
  EPure prog G0 193 [uN l] fun p=> ∃ o:List Rw,p=uN o∧o.length≤l.length∧ ∀ x∈o,(∃ y∈l,x.args=y.args)∧x.w.length≤64:=by
 refine ECall.cutW (R:=fun p h=> ∃ (o:List Rw) (q:Nat),(p= .nil∧o=[]∨p= .vec q 2 (o.map Rw.c))∧o.length≤l.length∧ ∀ x∈o,(∃ y∈l,x.args=y.args)∧x.w.length≤64) (pv func193 60 false (by kernel_rfl) rfl rfl ?_) ?_
 refine g2 ?_
 ·refine ge ?_
  (refine Go.AL.g1 ?_;refine zC (dZ l hne (by omega) _) ?_;intro p2 h2 hr2;refine Go.AL.g2 ?_)
  obtain ⟨rfl,rfl⟩:=hr2
  refine ge ?_
  (refine Go.AL.g1 ?_;refine zC (hP l (by omega) (fun x hx=>(hok x hx).ok) _ 0 rfl) ?_;intro p2 h2 hr2;refine Go.AL.g2 ?_)
  obtain ⟨l1,hs,rfl⟩:=hr2
  have hl1:=hs.1
  have hok1: ∀ x∈l1,x.ls:=fun x hx=>hok x (hs.2 x hx)
  refine ge ?_
  refine zW (K4 (.v:: .v:: .d:: .d::K4 (D9 (D9 (D9 (D9 (D9 (.d:: .d:: .k::[])))))))) (fun (s:Nat×PV×List Rw×Heap)=>[s.2.1,i64 s.1]) (fun s=> .var 76 (xI l1)::s.2.2.2) (fun s=>s.1≤l.length∧s.2.2.1.length≤s.1∧(∀ x∈s.2.2.1,(∃ y∈l,x.args=y.args)∧x.w.length≤64)∧GrowN 1 76 (s.2.2.1.map Rw.c) 2 s.2.2.2 s.2.1) (fun s=>l.length-s.1) (own:=false) (0,.nil,[],[]) rfl rfl ⟨Nat.zero_le _,Nat.le_refl _,by simp,.inl ⟨rfl,rfl⟩⟩ ?_
  rintro ⟨i,V,o,J⟩ ⟨hi,ho,hoK,hG⟩ t ht
  dsimp only at hi ho hoK hG
  simp only [zY] at ht;subst ht
  by_cases hlt:i<l.length
  ·have hlt1:(i:Int)<(l.length:Int):=by omega
   refine gf (a2 @hlt @hlt1) ?_
   refine zW (K4 (.k:: .k:: .v:: .v::K9 (D9 (D9 (D4 (.d:: .d:: .d::K9 (K9 ([])))))))) (fun (s:Nat×PV×List Sp×Heap)=>[s.2.1,i64 s.1]) (fun s=> .var 76 (xI l1)::s.2.2.2) (fun s=>i≤s.1∧s.1≤l.length∧s.2.2.1.length≤(s.1-i)*64∧(∀ q,q<J.length→s.2.2.2[q]? =J[q]?)∧J.length≤s.2.2.2.length∧((s.2.2.1=[]∧s.2.1= .nil)∨ ∃ q,J.length≤q∧s.2.1= .vec (q+1) 2 (s.2.2.1.map Sp.c)∧s.2.2.2[q]? =some (.vec 82 2 s.2.2.1.length))) (fun s=>l.length-s.1) (own:=false) (i,.nil,[],J) rfl rfl ⟨Nat.le_refl _,hi,by simp,fun _ _=>rfl,Nat.le_refl _,.inl ⟨rfl,rfl⟩⟩ ?_
   rintro ⟨k,W,wh,J2⟩ ⟨hik,hkn,hwl,hJ,hJl,hW⟩ t ht
   dsimp only at hik hkn hwl hJ hJl hW
   simp only [zY] at ht;subst ht
   by_cases hk:k<l.length
   ·have hk1:(k:Int)<(l.length:Int):=by omega
    have ki:i<l1.length:=by omega
    have kk:k<l1.length:=by omega
    have g1:=xG l1 i ki
    have g2:=xG l1 k kk
    have g3:=zi2 l1 k kk
    have g4:=eL l1 i ki
    have hby:=uS l1[i] l1[k] (hok1 _ (List.getElem_mem ki)).ok (hok1 _ (List.getElem_mem kk)).ok
    have hself:k=i→sD l1[i].args l1[k].args=0:=by rintro rfl;exact zd5 _
    have hwk:=(hok1 _ (List.getElem_mem kk)).w
    generalize hc:sD l1[i].args l1[k].args=c at*
    by_cases h0:c=0
    ·subst h0
     have wk:IntKind.i64.wrap ((k:Int)+1)=((k+1:Nat):Int):=by rw [xM (by omega) (by omega)];rfl
     (repeat (first|refine gz ?_|(refine gn ?_;intro zs zh;(try simp only [go_sem,hk,hk1,hlt,hl1,g1,g2,g3,xK,zB] at zh);subst zh;(first|refine gv ?_|((first|refine zC (hby.call zK (by simp [zJ]) _) ?_|refine zP (by decide) (by decide) (hby.call zK (by simp [zJ]) _) ?_);intro p2 h2 hr2;obtain ⟨hr2,rfl⟩:=hr2;first|obtain ⟨_,rfl,hr2⟩:=hr2|obtain ⟨_,rfl⟩:=hr2|subst hr2|skip)))|refine yD URel7f193.pl ?_))
     generalize l1[k].w=ww at*
     rcases hW with ⟨rfl,rfl⟩|⟨q,hqJ,rfl,hq⟩
     ·refine gf @wk ?_
      refine ⟨(k+1,.vec (J2.length+1) 2 (ww.map Sp.c),ww,_),⟨by dsimp only;omega,by dsimp only;omega,by dsimp only;omega,?_,?_,.inr ⟨J2.length,hJl,rfl,?_⟩⟩,by dsimp only;omega,rfl,rfl,rfl⟩
      ·intro q hq
       dsimp only
       rw [List.getElem?_append_left (by omega)];exact hJ q hq
      ·dsimp only;simp;omega
      ·simp
     ·have hq1:q<J2.length:=(gsi hq).1
      refine gf (a2 @wk @hq) ?_
      refine ⟨(k+1,.vec (q+1) 2 (wh.map Sp.c++ww.map Sp.c),wh++ww,_),⟨by dsimp only;omega,by dsimp only;omega,by dsimp only;rw [List.length_append];omega,?_,?_,.inr ⟨q,hqJ,by dsimp only;rw [List.map_append],?_⟩⟩,by dsimp only;omega,rfl,rfl,rfl⟩
      ·intro q' hq'
       dsimp only
       rw [List.getElem?_set_ne (by omega)];exact hJ q' hq'
      ·dsimp only;simp;omega
      ·dsimp only
       rw [List.getElem?_set_self hq1];simp
    ·have hki:i<k:=by
      rcases Nat.lt_or_ge i k with h|h
      ·exact h
      ·exact absurd (hself (by omega)) h0
     have hcb:((c:Int)==0)=false:=by simp [h0]
     (repeat (first|refine gz ?_|(refine gn ?_;intro zs zh;(try simp only [go_sem,hk,hk1,hlt,hl1,g1,g2,g3,xK,zB,h0,hcb] at zh);subst zh;(first|refine gv ?_|((first|refine zC (hby.call zK (by simp [zJ]) _) ?_|refine zP (by decide) (by decide) (hby.call zK (by simp [zJ]) _) ?_);intro p2 h2 hr2;obtain ⟨hr2,rfl⟩:=hr2;first|obtain ⟨_,rfl,hr2⟩:=hr2|obtain ⟨_,rfl⟩:=hr2|subst hr2|skip)))|refine yD URel7f193.pl ?_))
     have hple:PLe W (kJ wh):=by
      rcases hW with ⟨rfl,rfl⟩|⟨q,_,rfl,_⟩
      ·exact PLe.nil_ts 2
      ·exact PLe.vec_ts _ _ _
     (refine Go.AL.g1 ?_;refine zC (((Of_ok wh (by omega)).call zK (by simp) _).args (.cons hple .nil)) ?_;intro p2 h2 hr2;refine Go.AL.g2 ?_)
     obtain ⟨⟨w2,rfl,hw2⟩,rfl⟩:=hr2
     by_cases hz:0<w2.length
     ·have hz1:(0:Int)<(w2.length:Int):=by omega
      have g4:=eL l1 i ki
      refine gf (a7 @hz @hz1 @hlt @hl1 @g4 @xK @zB) ?_
      (refine Go.AL.g1f @g4 ?_;refine zC ((iK l1[i].args (by have:=(hok1 _ (List.getElem_mem ki)).al;omega) (zaJ 38 _)).call zK (by simp) _) ?_;intro p2 h2 hr2;refine Go.AL.g2 ?_)
      obtain ⟨rfl,rfl⟩:=hr2
      rcases hG with ⟨he,rfl⟩|⟨q,rfl,hq⟩
      ·have hon:o=[]:=by simpa using he
       subst hon
       refine ge ?_
       exact ⟨(k,.vec (J2.length+1) 2 [[pH l1[i].args,kJ w2]],[⟨l1[i].args,w2⟩],_),⟨by dsimp only;omega,by dsimp only;simp;omega,(by
         intro x hx
         simp only [List.mem_cons,List.not_mem_nil,or_false] at hx
         subst hx
         exact ⟨⟨_,hs.2 _ (List.getElem_mem ki),rfl⟩,hw2⟩),.inr ⟨J2.length,rfl,by simp⟩⟩,by dsimp only;omega,rfl,rfl,rfl⟩
      ·have hqJ:q<J.length:=(gsi hq).1
       simp only [List.length_map] at hq
       have hq2:=(hJ q hqJ).trans hq
       refine gf @hq2 ?_
       refine ⟨(k,.vec (q+1) 2 (o.map Rw.c++[[pH l1[i].args,kJ w2]]),o++[⟨l1[i].args,w2⟩],_),⟨by dsimp only;omega,by dsimp only;simp;omega,?_,.inr ⟨q,by dsimp only;rw [List.map_append];rfl,?_⟩⟩,by dsimp only;omega,rfl,rfl,rfl⟩
       ·intro x hx
        simp only [List.mem_append,List.mem_cons,List.not_mem_nil,or_false] at hx
        rcases hx with hx|rfl
        ·exact hoK x hx
        ·exact ⟨⟨_,hs.2 _ (List.getElem_mem ki),rfl⟩,hw2⟩
       ·dsimp only
        rw [List.getElem?_set_self (by omega)];simp
     ·have hz1: ¬((0:Int)<(w2.length:Int)):=by omega
      refine gf (a2 @hz @hz1) ?_
      refine ⟨(k,V,o,J2),⟨by dsimp only;omega,by dsimp only;omega,hoK,?_⟩,by dsimp only;omega,rfl,rfl,rfl⟩
      rcases hG with h|⟨q,h1,hq⟩
      ·exact .inl h
      ·exact .inr ⟨q,h1,(hJ q (gsi hq).1).trans hq⟩
   ·have hk1: ¬((k:Int)<(l.length:Int)):=by omega
    have ki:i<l1.length:=by omega
    have hki:i<k:=by omega
    refine gf (a2 @hk @hk1) ?_
    have hple:PLe W (kJ wh):=by
     rcases hW with ⟨rfl,rfl⟩|⟨q,_,rfl,_⟩
     ·exact PLe.nil_ts 2
     ·exact PLe.vec_ts _ _ _
    (refine Go.AL.g1 ?_;refine zC (((Of_ok wh (by omega)).call zK (by simp) _).args (.cons hple .nil)) ?_;intro p2 h2 hr2;refine Go.AL.g2 ?_)
    obtain ⟨⟨w2,rfl,hw2⟩,rfl⟩:=hr2
    by_cases hz:0<w2.length
    ·have hz1:(0:Int)<(w2.length:Int):=by omega
     have g4:=eL l1 i ki
     refine gf (a7 @hz @hz1 @hlt @hl1 @g4 @xK @zB) ?_
     (refine Go.AL.g1f @g4 ?_;refine zC ((iK l1[i].args (by have:=(hok1 _ (List.getElem_mem ki)).al;omega) (zaJ 38 _)).call zK (by simp) _) ?_;intro p2 h2 hr2;refine Go.AL.g2 ?_)
     obtain ⟨rfl,rfl⟩:=hr2
     rcases hG with ⟨he,rfl⟩|⟨q,rfl,hq⟩
     ·have hon:o=[]:=by simpa using he
      subst hon
      refine ge ?_
      exact ⟨(k,.vec (J2.length+1) 2 [[pH l1[i].args,kJ w2]],[⟨l1[i].args,w2⟩],_),⟨by dsimp only;omega,by dsimp only;simp;omega,(by
        intro x hx
        simp only [List.mem_cons,List.not_mem_nil,or_false] at hx
        subst hx
        exact ⟨⟨_,hs.2 _ (List.getElem_mem ki),rfl⟩,hw2⟩),.inr ⟨J2.length,rfl,by simp⟩⟩,by dsimp only;omega,rfl,rfl,rfl⟩
     ·have hqJ:q<J.length:=(gsi hq).1
      simp only [List.length_map] at hq
      have hq2:=(hJ q hqJ).trans hq
      refine gf @hq2 ?_
      refine ⟨(k,.vec (q+1) 2 (o.map Rw.c++[[pH l1[i].args,kJ w2]]),o++[⟨l1[i].args,w2⟩],_),⟨by dsimp only;omega,by dsimp only;simp;omega,?_,.inr ⟨q,by dsimp only;rw [List.map_append];rfl,?_⟩⟩,by dsimp only;omega,rfl,rfl,rfl⟩
      ·intro x hx
       simp only [List.mem_append,List.mem_cons,List.not_mem_nil,or_false] at hx
       rcases hx with hx|rfl
       ·exact hoK x hx
       ·exact ⟨⟨_,hs.2 _ (List.getElem_mem ki),rfl⟩,hw2⟩
      ·dsimp only
       rw [List.getElem?_set_self (by omega)];simp
    ·have hz1: ¬((0:Int)<(w2.length:Int)):=by omega
     refine gf (a2 @hz @hz1) ?_
     refine ⟨(k,V,o,J2),⟨by dsimp only;omega,by dsimp only;omega,hoK,?_⟩,by dsimp only;omega,rfl,rfl,rfl⟩
     rcases hG with h|⟨q,h1,hq⟩
     ·exact .inl h
     ·exact .inr ⟨q,h1,(hJ q (gsi hq).1).trans hq⟩
  ·have hlt1: ¬((i:Int)<(l.length:Int)):=by omega
   refine gf (a2 @hlt @hlt1) ?_
   rcases hG with ⟨he,rfl⟩|⟨q,rfl,hq⟩
   ·exact ⟨[],0,.inl ⟨rfl,rfl⟩,by simp,by simp⟩
   ·exact ⟨o,q+1,.inr rfl,by omega,hoK⟩
 ·rintro p h ⟨o,q,⟨rfl,rfl⟩|rfl,hlen,hK⟩
  ·exact ⟨uN [],by rw [iQ];exact PLe.nil_ts 2,⟨[],rfl,by simp,by simp⟩,by simp [xX]⟩
  ·exact ⟨uN o,by rw [rF (rE 36 o)];exact PLe.refl _,⟨o,rfl,hlen,hK⟩,yP 40 _ (rE 36 o)⟩
end Go.AL
namespace Go.AL
open Go.Proofs Go.Proofs.Tryz
abbrev eS:BA:=⟨#[]⟩
theorem za8 (s:BA) (hs:s.size≤140737488355328) (a b:Int):EB 196 [yQ s,u8 a,u8 b]:=by
 refine ECall.pure (pv func196 56 false (by kernel_rfl) rfl rfl ?_)
 refine g2 ?_
 by_cases h0:s=⟨#[]⟩
 ·subst h0
  (repeat' (first|refine gp ?_|refine gs (fun he=> ?_) (fun he=> ?_)|fail))
  exact ⟨⟨⟨_,rfl,trivial⟩,.sc⟩,rfl⟩
 have hp:=mN h0
 (have F:=(a2 @h0 @mT);(repeat' (first|refine dR F ?_|refine dQ F (fun he=> ?_) (fun he=> ?_)|fail));all_goals clear F)
 all_goals first|(exact ⟨⟨⟨_,rfl,trivial⟩,.sc⟩,rfl⟩)|skip
 refine zO s.data.toList.length (K4 (.k:: .k:: .d:: .k:: .d::K9 (K9 (K4 (.v::D9 (D9 (D4 (.d:: .d::[])))))))) (own:=false) (fun i (_:Unit)=>[i64 i]) (fun _=>_) (fun _ _=>True) () rfl rfl trivial hs ?_ ?_
 ·rintro s hI
  refine gm ?_
  refine gf @zM ?_
  (exact ⟨⟨⟨_,rfl,trivial⟩,.sc⟩,rfl⟩)
 ·rintro i _ hi hw _
  refine gm ?_
  have hx:=zG (f:=ziC) [] hi
  (repeat' (first|refine gz ?_|(refine gn ?_;intro zs zh;(try simp only [go_sem,hi,hx,ziC,zB,hw] at zh);subst zh;(first|refine gv ?_|(refine yS (fun he=> ?_) (fun he=> ?_)<;>(try simp only [decide_eq_true_eq,decide_eq_false_iff_not,Bool.not_eq_true',Bool.not_eq_false',Bool.not_eq_true,beq_iff_eq,beq_eq_false_iff_ne,bne_iff_ne,bne_eq_false_iff_eq] at he))))|((with_reducible refine tO rfl ?_);intro sr hsr;simp only [sK,List.getD_cons_succ,List.getD_cons_zero,Option.map_some,Option.getD_some,Bool.not_false,Bool.not_true] at hsr;subst hsr;(fail_if_success (with_reducible (first|refine tL ?_|refine tN ?_)));refine tK (fun he=> ?_) (fun he=> ?_)<;>(intro ts2 hts;simp only [List.getD_cons_succ,List.getD_cons_zero,Option.getD_some,List.set_cons_zero,List.set_cons_succ] at hts;subst hts;(try simp only [decide_eq_true_eq,decide_eq_false_iff_not,Bool.not_eq_true',Bool.not_eq_false',Bool.not_eq_true,beq_iff_eq,beq_eq_false_iff_ne,bne_iff_ne,bne_eq_false_iff_eq] at he)))|fail))
  all_goals first|(exact ⟨⟨⟨_,rfl,trivial⟩,.sc⟩,rfl⟩)|(refine ⟨(),trivial,?_,?_,rfl⟩<;>simp only [zY,xJ,List.tail_cons])
theorem tW (s:BA) (hs:s.size≤140737488355328):EB 162 [yQ s]:=by
 refine ECall.pure (pv func162 5 false (by kernel_rfl) rfl rfl ?_)
 refine g2 ?_
 refine ge ?_
 (refine g1 ?_;refine zC ((za8 s hs _ _).call zK (by simp) _) ?_;intro p2 h2 hr2;refine g2 ?_)
 obtain ⟨⟨b,rfl,_⟩,rfl⟩:=hr2
 refine ge ?_
 (exact ⟨⟨⟨_,rfl,trivial⟩,.sc⟩,rfl⟩)
theorem vG (s:BA) (hs:s.size≤140737488355328):EB 153 [yQ s]:=by
 refine ECall.pure (pv func153 17 false (by kernel_rfl) rfl rfl ?_)
 refine g2 ?_
 (repeat' (first|refine gz ?_|(refine gn ?_;intro zs zh;(try simp only [go_sem] at zh);subst zh;(first|refine gv ?_|(refine zC ((za8 s hs _ _).call zK (by simp) _) ?_;intro p2 h2 hr2;obtain ⟨hr2,rfl⟩:=hr2;first|obtain ⟨_,rfl,hr2⟩:=hr2|obtain ⟨_,rfl⟩:=hr2|subst hr2|skip)|(refine yS (fun he=> ?_) (fun he=> ?_)<;>(try simp only [decide_eq_true_eq,decide_eq_false_iff_not,Bool.not_eq_true',Bool.not_eq_false',Bool.not_eq_true,beq_iff_eq,beq_eq_false_iff_ne,bne_iff_ne,bne_eq_false_iff_eq] at he))))|((with_reducible refine tO rfl ?_);intro sr hsr;simp only [sK,List.getD_cons_succ,List.getD_cons_zero,Option.map_some,Option.getD_some,Bool.not_false,Bool.not_true] at hsr;subst hsr;(fail_if_success (with_reducible (first|refine tL ?_|refine tN ?_)));refine tK (fun he=> ?_) (fun he=> ?_)<;>(intro ts2 hts;simp only [List.getD_cons_succ,List.getD_cons_zero,Option.getD_some,List.set_cons_zero,List.set_cons_succ] at hts;subst hts;(try simp only [decide_eq_true_eq,decide_eq_false_iff_not,Bool.not_eq_true',Bool.not_eq_false',Bool.not_eq_true,beq_iff_eq,beq_eq_false_iff_ne,bne_iff_ne,bne_eq_false_iff_eq] at he)))|fail))
 all_goals (exact ⟨⟨⟨_,rfl,trivial⟩,.sc⟩,rfl⟩)
theorem sL (s:BA) (r:Bool) (g:FuncId) (hF:EB g [yQ s]):EB 161 [yQ s,bo r,.fn (.func g) [] []] fun b=>b=true→r=false→s=eS:=by
 refine ECall.pure (pv func161 14 false (by kernel_rfl) rfl rfl ?_)
 refine g2 ?_
 cases r
 ·by_cases h0:s=eS
  ·subst h0
   refine ge ?_
   exact ⟨⟨⟨_,rfl,fun _ _=>rfl⟩,.sc⟩,rfl⟩
  ·have hb:=decide_eq_false h0
   refine gf (a2 @h0 @hb) ?_
   exact ⟨⟨⟨_,rfl,by simp⟩,.sc⟩,rfl⟩
 ·refine ge ?_
  (refine g1 ?_;refine zC (hF.call zK (by simp) _) ?_;intro p2 h2 hr2;refine g2 ?_)
  obtain ⟨⟨b,rfl,_⟩,rfl⟩:=hr2
  refine ge ?_
  exact ⟨⟨⟨_,rfl,by simp⟩,.sc⟩,rfl⟩
def Vl.ok (v:Vl):Prop:=v.s.size≤140737488355328
structure Tm.ok (t:Tm):Prop where
 v:t.var.size≤140737488355328
 k:t.k.s.size≤140737488355328
theorem eqV (a b c d:Int) (s t:BA):sE (α:=Prop) prog 72 (.agg [i64 a,i64 b,yQ s]) (.agg [i64 c,i64 d,yQ t])=some (a==c&&(b==d&&(decide (s=t)&&true)),True):=by
 kernel_rfl
theorem bB (t:Tm) (ht:t.ok):EB 164 [.agg t.c]:=by
 refine ECall.cut (R:=fun p _=> ∃ b:Bool,p=bo b) (pv func164 18 false (by kernel_rfl) rfl rfl ?_) (by rintro p h ⟨n,rfl⟩;exact ⟨n,rfl,trivial⟩)
 refine g2 ?_
 obtain ⟨v,⟨a,b,s⟩⟩:=t
 (repeat' (first|refine gz ?_|(refine gn ?_;intro zs zh;(try simp only [go_sem,eqV] at zh);subst zh;(first|refine gv ?_|((first|refine zC ((qE ⟨a,b,s⟩).call zK (by simp [zJ]) _) ?_|refine zC ((tW v ht.v).call zK (by simp) _) ?_);intro p2 h2 hr2;obtain ⟨hr2,rfl⟩:=hr2;first|obtain ⟨_,rfl,hr2⟩:=hr2|obtain ⟨_,rfl⟩:=hr2|subst hr2|skip)|(refine yS (fun he=> ?_) (fun he=> ?_)<;>(try simp only [decide_eq_true_eq,decide_eq_false_iff_not,Bool.not_eq_true',Bool.not_eq_false',Bool.not_eq_true,beq_iff_eq,beq_eq_false_iff_ne,bne_iff_ne,bne_eq_false_iff_eq] at he))))|((with_reducible refine tO rfl ?_);intro sr hsr;simp only [sK,List.getD_cons_succ,List.getD_cons_zero,Option.map_some,Option.getD_some,Bool.not_false,Bool.not_true] at hsr;subst hsr;(fail_if_success (with_reducible (first|refine tL ?_|refine tN ?_)));refine tK (fun he=> ?_) (fun he=> ?_)<;>(intro ts2 hts;simp only [List.getD_cons_succ,List.getD_cons_zero,Option.getD_some,List.set_cons_zero,List.set_cons_succ] at hts;subst hts;(try simp only [decide_eq_true_eq,decide_eq_false_iff_not,Bool.not_eq_true',Bool.not_eq_false',Bool.not_eq_true,beq_iff_eq,beq_eq_false_iff_ne,bne_iff_ne,bne_eq_false_iff_eq] at he)))|fail))
 all_goals first|exact ⟨_,rfl⟩|trace_state
end Go.AL
namespace Go.AL
open Go.Proofs Go.Proofs.Tryz
structure Li.ok (l:Li):Prop where
 n:l.name.size≤140737488355328
 b:l.bind.size≤140737488355328
 e:l.elem.size≤140737488355328
 al:l.args.length≤140737488355328
 a: ∀ t∈l.args,t.ok
structure Li.fm (l:Li):Prop where
 a:l.args.length≤4
 c:l.kind=5→l.args.length=2
 b:l.bind≠eS→l.kind=1
theorem gO (l:List Tm): ∀ x∈l, ∀ p∈([.agg x.c]:List PV),Tree p:=by simp [zJ]
theorem zjN (l:Li) (hl:l.ok):EB 166 [.agg l.c] fun b=>b=true→l.fm:=by
 refine ECall.cut (R:=fun p _=> ∃ b:Bool,p=bo b∧(b=true→l.fm)) (pv func166 78 false (by kernel_rfl) rfl rfl ?_) (by rintro p h ⟨n,rfl,h⟩;exact ⟨n,rfl,h⟩)
 refine g2 ?_
 obtain ⟨kind,name,pred,args,bind,elem,least,op,at'⟩:=l
 obtain ⟨h1,h2,h3,h4,h5⟩:=hl
 dsimp only at h1 h2 h3 h4 h5
 have hall:=zhX args (fun _=>True) 4 164 [] h4 (fun x hx=>(bB x (h5 x hx)).mono (by rintro p ⟨b,rfl,_⟩;exact ⟨b,rfl,fun _=>trivial⟩)) (gO args)
 (repeat' (first|refine gz ?_|(refine gn ?_;intro zs zh;(try simp only [go_sem] at zh);subst zh;(first|refine gv ?_|((first|refine zC (hall.call zK (by simp [yO,zJ]) _) ?_|refine zC ((sL name _ _ (vG name h1)).call zK (by simp [yO]) _) ?_|refine zC ((sL elem _ _ (vG elem h3)).call zK (by simp [yO]) _) ?_|refine zC ((sL bind _ _ (tW bind h2)).call zK (by simp [yO]) _) ?_);intro p2 h2 hr2;obtain ⟨hr2,rfl⟩:=hr2;first|obtain ⟨_,rfl,hr2⟩:=hr2|obtain ⟨_,rfl⟩:=hr2|subst hr2|skip)|(refine yS (fun he=> ?_) (fun he=> ?_)<;>(try simp only [decide_eq_true_eq,decide_eq_false_iff_not,Bool.not_eq_true',Bool.not_eq_false',Bool.not_eq_true,beq_iff_eq,beq_eq_false_iff_ne,bne_iff_ne,bne_eq_false_iff_eq] at he))))|((with_reducible refine tO rfl ?_);intro sr hsr;simp only [sK,List.getD_cons_succ,List.getD_cons_zero,Option.map_some,Option.getD_some,Bool.not_false,Bool.not_true] at hsr;subst hsr;(fail_if_success (with_reducible (first|refine tL ?_|refine tN ?_)));refine tK (fun he=> ?_) (fun he=> ?_)<;>(intro ts2 hts;simp only [List.getD_cons_succ,List.getD_cons_zero,Option.getD_some,List.set_cons_zero,List.set_cons_succ] at hts;subst hts;(try simp only [decide_eq_true_eq,decide_eq_false_iff_not,Bool.not_eq_true',Bool.not_eq_false',Bool.not_eq_true,beq_iff_eq,beq_eq_false_iff_ne,bne_iff_ne,bne_eq_false_iff_eq] at he)))|fail))
 all_goals try (exact ⟨false,rfl,by simp⟩)
 all_goals (refine ⟨_,rfl,fun _=>⟨?_,fun hk=> ?_,fun hb=> ?_⟩⟩<;>clear hall<;>dsimp only at* <;>grind)
end Go.AL
