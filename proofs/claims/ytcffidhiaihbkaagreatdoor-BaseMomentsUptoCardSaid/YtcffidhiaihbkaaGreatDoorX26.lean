/-
  Programs: names declared and found.
-/
import Derived.Test.YtcffidhiaihbkaaGreatDoorX25
import Derived.Test.YtcffidhiaihbkaaGreatDoorX22
set_option linter.unusedSimpArgs false
set_option linter.unusedVariables false
set_option maxRecDepth 100000
set_option maxHeartbeats 4000000
namespace Go.AL
open Go.Proofs Go.Proofs.Tryz
end Go.AL
namespace Go.AL
open Go.Proofs Go.Proofs.Tryz
theorem vX (cs:List PV) (o k:Nat):wA cs o k 0=[]:=rfl
theorem zjR (els:List (List PV)):sE (α:=Prop) prog 70 (.ts 1 els) .nil=some (false,0<els.length):=by kernel_rfl
theorem ze2:wD prog 70=some (9,1,16):=by kernel_rfl
theorem zjU (els:List (List PV)):sE (α:=Prop) prog 71 (.ts 2 els) .nil=some (false,0<els.length):=by kernel_rfl
theorem ze5:wD prog 71=some (200,2,16):=by kernel_rfl
theorem zjT (els:List (List PV)):sE (α:=Prop) prog 57 (.ts 1 els) .nil=some (false,0<els.length):=by kernel_rfl
theorem ze4:wD prog 57=some (3,1,8):=by kernel_rfl
theorem zmC (els:List (List PV)):sE (α:=Prop) prog 112 (.ts 4 els) .nil=some (false,0<els.length):=by kernel_rfl
theorem ziR:wD prog 112=some (207,4,48):=by kernel_rfl
theorem zhQ (els:List (List PV)):sE (α:=Prop) prog 115 (.ts 9 els) .nil=some (false,0<els.length):=by kernel_rfl
theorem ziV:wD prog 115=some (120,9,112):=by kernel_rfl
theorem zmB (els:List (List PV)):sE (α:=Prop) prog 32 (.ts 3 els) .nil=some (false,0<els.length):=by kernel_rfl
theorem ziQ:wD prog 32=some (79,3,32):=by kernel_rfl
theorem zhP (els:List (List PV)):sE (α:=Prop) prog 63 (.ts 2 els) .nil=some (false,0<els.length):=by kernel_rfl
theorem ziS:wD prog 63=some (84,2,48):=by kernel_rfl
theorem zjS (els:List (List PV)):sE (α:=Prop) prog 28 (.ts 1 els) .nil=some (false,0<els.length):=by kernel_rfl
theorem ze3:wD prog 28=some (63,1,24):=by kernel_rfl
theorem zf9 (els:List (List PV)):sE (α:=Prop) prog 29 (.ts 1 els) .nil=some (false,0<els.length):=by kernel_rfl
theorem zcZ:wD prog 29=some (89,1,24):=by kernel_rfl
end Go.AL
namespace Go.AL.N
open Go.Proofs Go.Proofs.Tryz
theorem clone0_str:EPure prog G0 114 [.ts 1 []] fun p=>p= .ts 1 []:=by
 refine ⟨.ts 1 [],rfl,by simp [xX],ACall.weaken ?_⟩
 refine pv func114 8 false (by kernel_rfl) rfl rfl ?_
 refine g2 ?_
 refine ge ?_
 refine uL rfl (R:=fun p h'=>(p=bo true∨p=bo false)∧h'=[]) (fun rd _=>OpOk.nilCmp (k:=1) (els:=[]) rfl rfl rfl (by kernel_rfl) (fun b=>by cases b<;>simp)) ?_
 rintro p h' ⟨rfl|rfl,rfl⟩ ts2 hts
 ·simp only [zZ,List.set_cons_zero,List.set_cons_succ] at hts;subst hts
  refine ge ?_
  exact ⟨_,PLe.nil_ts 1,rfl,rfl⟩
 ·simp only [zZ,List.set_cons_zero,List.set_cons_succ] at hts;subst hts
  refine ge ?_
  refine uL rfl (R:=fun p h'=>p= .ts 1 []∧h'=[]) (fun rd _=>OpOk.appendEmpty (k:=1) rfl rfl rfl rfl rfl rfl ze2 ⟨rfl,rfl⟩) ?_
  rintro p h' ⟨rfl,rfl⟩ ts2 hts
  simp only [zZ,List.set_cons_zero,List.set_cons_succ] at hts;subst hts
  refine ge ?_
  exact ⟨_,PLe.refl _,rfl,rfl⟩
end Go.AL.N
namespace Go.AL
open Go.Proofs Go.Proofs.Tryz
theorem lU (l:List BA) (hl:l.length≤1099511627776) (htb:zU 40 (rR l)=true):EPure prog G0 114 [rR l] fun p=>p=rR l:=by
 rcases Nat.eq_zero_or_pos l.length with h0|h0
 ·have:=List.eq_nil_of_length_eq_zero h0
  subst this
  exact N.clone0_str
 ·refine ECall.cutW (R:=fun p _=> ∃ q,p= .vec q 1 (l.map fun s=>[yQ s])) (pv func114 8 false (by kernel_rfl) rfl rfl ?_) ?_
  refine g2 ?_
  ·refine gf (a2 @zjR @vX) ?_
   exact ⟨_,rfl⟩
  ·rintro p h ⟨q,rfl⟩
   rw [rF htb]
   exact ⟨_,PLe.refl _,rfl,yP _ _ htb⟩
end Go.AL
namespace Go.AL.N
open Go.Proofs Go.Proofs.Tryz
theorem clone0_cov:EPure prog G0 115 [.ts 2 []] fun p=>p= .ts 2 []:=by
 refine ⟨.ts 2 [],rfl,by simp [xX],ACall.weaken ?_⟩
 refine pv func115 8 false (by kernel_rfl) rfl rfl ?_
 refine g2 ?_
 refine ge ?_
 refine uL rfl (R:=fun p h'=>(p=bo true∨p=bo false)∧h'=[]) (fun rd _=>OpOk.nilCmp (k:=2) (els:=[]) rfl rfl rfl (by kernel_rfl) (fun b=>by cases b<;>simp)) ?_
 rintro p h' ⟨rfl|rfl,rfl⟩ ts2 hts
 ·simp only [zZ,List.set_cons_zero,List.set_cons_succ] at hts;subst hts
  refine ge ?_
  exact ⟨_,PLe.nil_ts 2,rfl,rfl⟩
 ·simp only [zZ,List.set_cons_zero,List.set_cons_succ] at hts;subst hts
  refine ge ?_
  refine uL rfl (R:=fun p h'=>p= .ts 2 []∧h'=[]) (fun rd _=>OpOk.appendEmpty (k:=2) rfl rfl rfl rfl rfl rfl ze5 ⟨rfl,rfl⟩) ?_
  rintro p h' ⟨rfl,rfl⟩ ts2 hts
  simp only [zZ,List.set_cons_zero,List.set_cons_succ] at hts;subst hts
  refine ge ?_
  exact ⟨_,PLe.refl _,rfl,rfl⟩
end Go.AL.N
namespace Go.AL
open Go.Proofs Go.Proofs.Tryz
theorem zd8 (l:List (Int×Int)) (hl:l.length≤1099511627776) (htb:zU 40 (.ts 2 (l.map fun c=>[i64 c.1,i64 c.2]))=true):EPure prog G0 115 [.ts 2 (l.map fun c=>[i64 c.1,i64 c.2])] fun p=>p= .ts 2 (l.map fun c=>[i64 c.1,i64 c.2]):=by
 rcases Nat.eq_zero_or_pos l.length with h0|h0
 ·have:=List.eq_nil_of_length_eq_zero h0
  subst this
  exact N.clone0_cov
 ·refine ECall.cutW (R:=fun p _=> ∃ q,p= .vec q 2 ((l.map fun c=>[i64 c.1,i64 c.2]))) (pv func115 8 false (by kernel_rfl) rfl rfl ?_) ?_
  refine g2 ?_
  ·refine gf (a2 @zjU @vX) ?_
   exact ⟨_,rfl⟩
  ·rintro p h ⟨q,rfl⟩
   rw [rF htb]
   exact ⟨_,PLe.refl _,rfl,yP _ _ htb⟩
end Go.AL
namespace Go.AL.N
open Go.Proofs Go.Proofs.Tryz
theorem clone0_int:EPure prog G0 118 [.ts 1 []] fun p=>p= .ts 1 []:=by
 refine ⟨.ts 1 [],rfl,by simp [xX],ACall.weaken ?_⟩
 refine pv func118 8 false (by kernel_rfl) rfl rfl ?_
 refine g2 ?_
 refine ge ?_
 refine uL rfl (R:=fun p h'=>(p=bo true∨p=bo false)∧h'=[]) (fun rd _=>OpOk.nilCmp (k:=1) (els:=[]) rfl rfl rfl (by kernel_rfl) (fun b=>by cases b<;>simp)) ?_
 rintro p h' ⟨rfl|rfl,rfl⟩ ts2 hts
 ·simp only [zZ,List.set_cons_zero,List.set_cons_succ] at hts;subst hts
  refine ge ?_
  exact ⟨_,PLe.nil_ts 1,rfl,rfl⟩
 ·simp only [zZ,List.set_cons_zero,List.set_cons_succ] at hts;subst hts
  refine ge ?_
  refine uL rfl (R:=fun p h'=>p= .ts 1 []∧h'=[]) (fun rd _=>OpOk.appendEmpty (k:=1) rfl rfl rfl rfl rfl rfl ze4 ⟨rfl,rfl⟩) ?_
  rintro p h' ⟨rfl,rfl⟩ ts2 hts
  simp only [zZ,List.set_cons_zero,List.set_cons_succ] at hts;subst hts
  refine ge ?_
  exact ⟨_,PLe.refl _,rfl,rfl⟩
end Go.AL.N
namespace Go.AL
open Go.Proofs Go.Proofs.Tryz
theorem zd7 (l:List Int) (hl:l.length≤1099511627776) (htb:zU 40 (vF l)=true):EPure prog G0 118 [vF l] fun p=>p=vF l:=by
 rcases Nat.eq_zero_or_pos l.length with h0|h0
 ·have:=List.eq_nil_of_length_eq_zero h0
  subst this
  exact N.clone0_int
 ·refine ECall.cutW (R:=fun p _=> ∃ q,p= .vec q 1 (l.map fun n=>[i64 n])) (pv func118 8 false (by kernel_rfl) rfl rfl ?_) ?_
  refine g2 ?_
  ·refine gf (a2 @zjT @vX) ?_
   exact ⟨_,rfl⟩
  ·rintro p h ⟨q,rfl⟩
   rw [rF htb]
   exact ⟨_,PLe.refl _,rfl,yP _ _ htb⟩
end Go.AL
namespace Go.AL.N
open Go.Proofs Go.Proofs.Tryz
theorem clone0_tm:EPure prog G0 119 [.ts 4 []] fun p=>p= .ts 4 []:=by
 refine ⟨.ts 4 [],rfl,by simp [xX],ACall.weaken ?_⟩
 refine pv func119 8 false (by kernel_rfl) rfl rfl ?_
 refine g2 ?_
 refine ge ?_
 refine uL rfl (R:=fun p h'=>(p=bo true∨p=bo false)∧h'=[]) (fun rd _=>OpOk.nilCmp (k:=4) (els:=[]) rfl rfl rfl (by kernel_rfl) (fun b=>by cases b<;>simp)) ?_
 rintro p h' ⟨rfl|rfl,rfl⟩ ts2 hts
 ·simp only [zZ,List.set_cons_zero,List.set_cons_succ] at hts;subst hts
  refine ge ?_
  exact ⟨_,PLe.nil_ts 4,rfl,rfl⟩
 ·simp only [zZ,List.set_cons_zero,List.set_cons_succ] at hts;subst hts
  refine ge ?_
  refine uL rfl (R:=fun p h'=>p= .ts 4 []∧h'=[]) (fun rd _=>OpOk.appendEmpty (k:=4) rfl rfl rfl rfl rfl rfl ziR ⟨rfl,rfl⟩) ?_
  rintro p h' ⟨rfl,rfl⟩ ts2 hts
  simp only [zZ,List.set_cons_zero,List.set_cons_succ] at hts;subst hts
  refine ge ?_
  exact ⟨_,PLe.refl _,rfl,rfl⟩
end Go.AL.N
namespace Go.AL
open Go.Proofs Go.Proofs.Tryz
theorem bI (l:List Tm) (hl:l.length≤1099511627776) (htb:zU 40 (mI l)=true):EPure prog G0 119 [mI l] fun p=>p=mI l:=by
 rcases Nat.eq_zero_or_pos l.length with h0|h0
 ·have:=List.eq_nil_of_length_eq_zero h0
  subst this
  exact N.clone0_tm
 ·refine ECall.cutW (R:=fun p _=> ∃ q,p= .vec q 4 (l.map Tm.c)) (pv func119 8 false (by kernel_rfl) rfl rfl ?_) ?_
  refine g2 ?_
  ·refine gf (a2 @zmC @vX) ?_
   exact ⟨_,rfl⟩
  ·rintro p h ⟨q,rfl⟩
   rw [rF htb]
   exact ⟨_,PLe.refl _,rfl,yP _ _ htb⟩
end Go.AL
namespace Go.AL.N
open Go.Proofs Go.Proofs.Tryz
theorem clone0_li:EPure prog G0 120 [.ts 9 []] fun p=>p= .ts 9 []:=by
 refine ⟨.ts 9 [],rfl,by simp [xX],ACall.weaken ?_⟩
 refine pv func120 8 false (by kernel_rfl) rfl rfl ?_
 refine g2 ?_
 refine ge ?_
 refine uL rfl (R:=fun p h'=>(p=bo true∨p=bo false)∧h'=[]) (fun rd _=>OpOk.nilCmp (k:=9) (els:=[]) rfl rfl rfl (by kernel_rfl) (fun b=>by cases b<;>simp)) ?_
 rintro p h' ⟨rfl|rfl,rfl⟩ ts2 hts
 ·simp only [zZ,List.set_cons_zero,List.set_cons_succ] at hts;subst hts
  refine ge ?_
  exact ⟨_,PLe.nil_ts 9,rfl,rfl⟩
 ·simp only [zZ,List.set_cons_zero,List.set_cons_succ] at hts;subst hts
  refine ge ?_
  refine uL rfl (R:=fun p h'=>p= .ts 9 []∧h'=[]) (fun rd _=>OpOk.appendEmpty (k:=9) rfl rfl rfl rfl rfl rfl ziV ⟨rfl,rfl⟩) ?_
  rintro p h' ⟨rfl,rfl⟩ ts2 hts
  simp only [zZ,List.set_cons_zero,List.set_cons_succ] at hts;subst hts
  refine ge ?_
  exact ⟨_,PLe.refl _,rfl,rfl⟩
end Go.AL.N
namespace Go.AL
open Go.Proofs Go.Proofs.Tryz
theorem zgE (l:List Li) (hl:l.length≤1099511627776) (htb:zU 40 (.ts 9 (l.map Li.c))=true):EPure prog G0 120 [.ts 9 (l.map Li.c)] fun p=>p= .ts 9 (l.map Li.c):=by
 rcases Nat.eq_zero_or_pos l.length with h0|h0
 ·have:=List.eq_nil_of_length_eq_zero h0
  subst this
  exact N.clone0_li
 ·refine ECall.cutW (R:=fun p _=> ∃ q,p= .vec q 9 ((l.map Li.c))) (pv func120 8 false (by kernel_rfl) rfl rfl ?_) ?_
  refine g2 ?_
  ·refine gf (a2 @zhQ @vX) ?_
   exact ⟨_,rfl⟩
  ·rintro p h ⟨q,rfl⟩
   rw [rF htb]
   exact ⟨_,PLe.refl _,rfl,yP _ _ htb⟩
end Go.AL
namespace Go.AL.N
open Go.Proofs Go.Proofs.Tryz
theorem clone0_vl:EPure prog G0 44 [.ts 3 []] fun p=>p= .ts 3 []:=by
 refine ⟨.ts 3 [],rfl,by simp [xX],ACall.weaken ?_⟩
 refine pv func44 8 false (by kernel_rfl) rfl rfl ?_
 refine g2 ?_
 refine ge ?_
 refine uL rfl (R:=fun p h'=>(p=bo true∨p=bo false)∧h'=[]) (fun rd _=>OpOk.nilCmp (k:=3) (els:=[]) rfl rfl rfl (by kernel_rfl) (fun b=>by cases b<;>simp)) ?_
 rintro p h' ⟨rfl|rfl,rfl⟩ ts2 hts
 ·simp only [zZ,List.set_cons_zero,List.set_cons_succ] at hts;subst hts
  refine ge ?_
  exact ⟨_,PLe.nil_ts 3,rfl,rfl⟩
 ·simp only [zZ,List.set_cons_zero,List.set_cons_succ] at hts;subst hts
  refine ge ?_
  refine uL rfl (R:=fun p h'=>p= .ts 3 []∧h'=[]) (fun rd _=>OpOk.appendEmpty (k:=3) rfl rfl rfl rfl rfl rfl ziQ ⟨rfl,rfl⟩) ?_
  rintro p h' ⟨rfl,rfl⟩ ts2 hts
  simp only [zZ,List.set_cons_zero,List.set_cons_succ] at hts;subst hts
  refine ge ?_
  exact ⟨_,PLe.refl _,rfl,rfl⟩
end Go.AL.N
namespace Go.AL
open Go.Proofs Go.Proofs.Tryz
theorem iK (l:List Vl) (hl:l.length≤1099511627776) (htb:zU 40 (pH l)=true):EPure prog G0 44 [pH l] fun p=>p=pH l:=by
 rcases Nat.eq_zero_or_pos l.length with h0|h0
 ·have:=List.eq_nil_of_length_eq_zero h0
  subst this
  exact N.clone0_vl
 ·refine ECall.cutW (R:=fun p _=> ∃ q,p= .vec q 3 (l.map Vl.c)) (pv func44 8 false (by kernel_rfl) rfl rfl ?_) ?_
  refine g2 ?_
  ·refine gf (a2 @zmB @vX) ?_
   exact ⟨_,rfl⟩
  ·rintro p h ⟨q,rfl⟩
   rw [rF htb]
   exact ⟨_,PLe.refl _,rfl,yP _ _ htb⟩
end Go.AL
namespace Go.AL.N
open Go.Proofs Go.Proofs.Tryz
theorem clone0_rw:EPure prog G0 220 [.ts 2 []] fun p=>p= .ts 2 []:=by
 refine ⟨.ts 2 [],rfl,by simp [xX],ACall.weaken ?_⟩
 refine pv func220 8 false (by kernel_rfl) rfl rfl ?_
 refine g2 ?_
 refine ge ?_
 refine uL rfl (R:=fun p h'=>(p=bo true∨p=bo false)∧h'=[]) (fun rd _=>OpOk.nilCmp (k:=2) (els:=[]) rfl rfl rfl (by kernel_rfl) (fun b=>by cases b<;>simp)) ?_
 rintro p h' ⟨rfl|rfl,rfl⟩ ts2 hts
 ·simp only [zZ,List.set_cons_zero,List.set_cons_succ] at hts;subst hts
  refine ge ?_
  exact ⟨_,PLe.nil_ts 2,rfl,rfl⟩
 ·simp only [zZ,List.set_cons_zero,List.set_cons_succ] at hts;subst hts
  refine ge ?_
  refine uL rfl (R:=fun p h'=>p= .ts 2 []∧h'=[]) (fun rd _=>OpOk.appendEmpty (k:=2) rfl rfl rfl rfl rfl rfl ziS ⟨rfl,rfl⟩) ?_
  rintro p h' ⟨rfl,rfl⟩ ts2 hts
  simp only [zZ,List.set_cons_zero,List.set_cons_succ] at hts;subst hts
  refine ge ?_
  exact ⟨_,PLe.refl _,rfl,rfl⟩
end Go.AL.N
namespace Go.AL
open Go.Proofs Go.Proofs.Tryz
theorem zgC (l:List Rw) (hl:l.length≤1099511627776) (htb:zU 40 (uN l)=true):EPure prog G0 220 [uN l] fun p=>p=uN l:=by
 rcases Nat.eq_zero_or_pos l.length with h0|h0
 ·have:=List.eq_nil_of_length_eq_zero h0
  subst this
  exact N.clone0_rw
 ·refine ECall.cutW (R:=fun p _=> ∃ q,p= .vec q 2 (l.map Rw.c)) (pv func220 8 false (by kernel_rfl) rfl rfl ?_) ?_
  refine g2 ?_
  ·refine gf (a2 @zhP @vX) ?_
   exact ⟨_,rfl⟩
  ·rintro p h ⟨q,rfl⟩
   rw [rF htb]
   exact ⟨_,PLe.refl _,rfl,yP _ _ htb⟩
end Go.AL
namespace Go.AL.N
open Go.Proofs Go.Proofs.Tryz
end Go.AL.N
namespace Go.AL
open Go.Proofs Go.Proofs.Tryz
end Go.AL
namespace Go.AL.N
open Go.Proofs Go.Proofs.Tryz
end Go.AL.N
namespace Go.AL
open Go.Proofs Go.Proofs.Tryz
end Go.AL
namespace Go.AL.N
open Go.Proofs Go.Proofs.Tryz
theorem clone0_rel:EPure prog G0 35 [.ts 1 []] fun p=>p= .ts 1 []:=by
 refine ⟨.ts 1 [],rfl,by simp [xX],ACall.weaken ?_⟩
 refine pv func35 8 false (by kernel_rfl) rfl rfl ?_
 refine g2 ?_
 refine ge ?_
 refine uL rfl (R:=fun p h'=>(p=bo true∨p=bo false)∧h'=[]) (fun rd _=>OpOk.nilCmp (k:=1) (els:=[]) rfl rfl rfl (by kernel_rfl) (fun b=>by cases b<;>simp)) ?_
 rintro p h' ⟨rfl|rfl,rfl⟩ ts2 hts
 ·simp only [zZ,List.set_cons_zero,List.set_cons_succ] at hts;subst hts
  refine ge ?_
  exact ⟨_,PLe.nil_ts 1,rfl,rfl⟩
 ·simp only [zZ,List.set_cons_zero,List.set_cons_succ] at hts;subst hts
  refine ge ?_
  refine uL rfl (R:=fun p h'=>p= .ts 1 []∧h'=[]) (fun rd _=>OpOk.appendEmpty (k:=1) rfl rfl rfl rfl rfl rfl ze3 ⟨rfl,rfl⟩) ?_
  rintro p h' ⟨rfl,rfl⟩ ts2 hts
  simp only [zZ,List.set_cons_zero,List.set_cons_succ] at hts;subst hts
  refine ge ?_
  exact ⟨_,PLe.refl _,rfl,rfl⟩
end Go.AL.N
namespace Go.AL
open Go.Proofs Go.Proofs.Tryz
end Go.AL
namespace Go.AL.N
open Go.Proofs Go.Proofs.Tryz
theorem clone0_lrel:EPure prog G0 36 [.ts 1 []] fun p=>p= .ts 1 []:=by
 refine ⟨.ts 1 [],rfl,by simp [xX],ACall.weaken ?_⟩
 refine pv func36 8 false (by kernel_rfl) rfl rfl ?_
 refine g2 ?_
 refine ge ?_
 refine uL rfl (R:=fun p h'=>(p=bo true∨p=bo false)∧h'=[]) (fun rd _=>OpOk.nilCmp (k:=1) (els:=[]) rfl rfl rfl (by kernel_rfl) (fun b=>by cases b<;>simp)) ?_
 rintro p h' ⟨rfl|rfl,rfl⟩ ts2 hts
 ·simp only [zZ,List.set_cons_zero,List.set_cons_succ] at hts;subst hts
  refine ge ?_
  exact ⟨_,PLe.nil_ts 1,rfl,rfl⟩
 ·simp only [zZ,List.set_cons_zero,List.set_cons_succ] at hts;subst hts
  refine ge ?_
  refine uL rfl (R:=fun p h'=>p= .ts 1 []∧h'=[]) (fun rd _=>OpOk.appendEmpty (k:=1) rfl rfl rfl rfl rfl rfl zcZ ⟨rfl,rfl⟩) ?_
  rintro p h' ⟨rfl,rfl⟩ ts2 hts
  simp only [zZ,List.set_cons_zero,List.set_cons_succ] at hts;subst hts
  refine ge ?_
  exact ⟨_,PLe.refl _,rfl,rfl⟩
end Go.AL.N
namespace Go.AL
open Go.Proofs Go.Proofs.Tryz
end Go.AL
namespace Go.AL
open Go.Proofs Go.Proofs.Tryz
@[go_sem] def URel7f206.pl:Nat→DPlan
 |8=>⟨[yA,yA,yA,yA,yA,yA,yA,yA,yB,yA,yA,yA,yB,yC,yA,yA],xE,0⟩
 |_=>⟨[],[],0⟩
def GrowN (off:Nat) (t:TypeId) (els:List (List PV)) (k:Nat) (J:Heap) (V:PV):Prop:=(els=[]∧V= .nil)∨ ∃ q,V= .vec (q+off) k els∧J[q]? =some (.vec t k els.length)
theorem dZ (l:List Rw) (hne:0<l.length) (hl:l.length≤1099511627776) (h:Heap):ECall prog G0 220 [uN l] h fun p h'=>p= .ms h.length 0 2 l.length∧h'=h++[.var 84 (xI l)]:=by
 cases l with
 |nil=>cases hne
 |cons x l=>
  refine sA (own:=true) func220 rfl (by kernel_rfl) (show _=[uN (x::l),.ud,.ud,.ud,.ud,.ud,.ud,.ud] from rfl) ?_
  have hl2:l.length+1≤1099511627776:=by simpa using hl
  have hl3:(l.length+1)*48≤140737488355328:=by omega
  have hl4:l.length≤140737488355327:=by omega
  refine gf (a4 @zhP @vX @hl3 @hl4) ?_
  exact ⟨rfl,rfl⟩
theorem fI (a:Int):rJ a a=0:=by simp [rJ]
theorem lP {α:Type} {f:α→α→Int} (hf: ∀ x,f x x=0): ∀ l:List α,vZ f l l=0
 | []=>rfl
 |x::l=>by simp [vZ,hf x,lP hf l]
theorem zd4 (v:Vl):iU v v=0:=by simp [iU,fI,znM,lP (f:=bT) fun x=>fI _]
theorem zd5 (l:List Vl):sD l l=0:=lP zd4 l
structure Rw.lt (r:Rw):Prop where
 al:r.args.length≤1048576
 a: ∀ v∈r.args,v.s.size≤140737488355328
 w:r.w.length≤1048576
theorem Rw.lt.ok {r:Rw} (h:r.lt):r.ok:=⟨by have:=h.al;omega,h.a⟩
structure Rw.ls (r:Rw):Prop where
 al:r.args.length≤1048576
 a: ∀ v∈r.args,v.s.size≤140737488355328
 w:r.w.length≤64
theorem Rw.ls.lt {r:Rw} (h:r.ls):r.lt:=⟨h.al,h.a,by have:=h.w;omega⟩
theorem Rw.ls.ok {r:Rw} (h:r.ls):r.ok:=h.lt.ok
theorem zaJ (f:Nat) (l:List Vl):zU (f+2) (pH l)=true:=by simp [zU,List.all_map]
theorem zlM (f:Nat) (l:List Sp):zU (f+2) (kJ l)=true:=by simp [zU,List.all_map]
theorem rE (f:Nat) (l:List Rw):zU (f+4) (uN l)=true:=by
 simp only [zU,List.all_map,List.all_eq_true,Function.comp_apply]
 intro x _ p hp
 simp only [Rw.c,List.mem_cons,List.not_mem_nil,or_false] at hp
 rcases hp with rfl|rfl
 ·exact zaJ (f+1) x.args
 ·exact zlM (f+1) x.w
theorem zi2 (l:List Rw) (i:Nat) (h:i<l.length):((xI l).drop (i*2+1)).getD 0 .un=kJ l[i].w:=by
 induction l generalizing i with
 |nil=>cases h
 | cons x l ih=>
  cases i with
  |zero=>rfl
  |succ i=>
   rw [tR,show (i+1)*2+1=i*2+1+1+1 by omega,List.drop_succ_cons,List.drop_succ_cons,ih i (by simpa using h)]
   rfl
theorem eL (l:List Rw) (i:Nat) (h:i<l.length):((xI l).drop (i*2)).getD 0 .un=pH l[i].args:=by
 induction l generalizing i with
 |nil=>cases h
 | cons x l ih=>
  cases i with
  |zero=>rfl
  |succ i=>
   rw [tR,show (i+1)*2=i*2+1+1 by omega,List.drop_succ_cons,List.drop_succ_cons,ih i (by simpa using h)]
   rfl
end Go.AL
namespace Go.AL
open Go.Proofs Go.Proofs.Tryz
noncomputable def znY (f:FuncId) (args:List PV) (K:Bool→Prop):Bool:=
 open Classical in if h: ∃ b:Bool,EPure prog G0 f args (fun v=>v=bo b)∧K b then Classical.choose h else false
theorem za3 {f:FuncId} {args:List PV} {K:Bool→Prop} (h:EB f args K):EPure prog G0 f args (fun v=>v=bo (znY f args K))∧K (znY f args K):=by
 have h': ∃ b:Bool,EPure prog G0 f args (fun v=>v=bo b)∧K b:=by
  obtain ⟨v,⟨b,rfl,hb⟩,t,q⟩:=h
  exact ⟨b,⟨_,rfl,t,q⟩,hb⟩
 unfold znY
 rw [dif_pos h']
 exact Classical.choose_spec h'
end Go.AL
namespace Go.AL
open Go.Proofs Go.Proofs.Tryz
structure Dt.sz (d:Dt):Prop where
 rl:d.rels.length≤1048576
 ll:d.lats.length≤1048576
 r: ∀ r∈d.rels,r.length≤4096∧ ∀ x∈r,x.lt
 l: ∀ r∈d.lats,r.length≤4096∧ ∀ x∈r,x.args.length≤1099511627776∧x.cs.length≤1099511627776
 s: ∀ r∈d.lats, ∀ x∈r, ∀ a∈x.args,a.s.size≤140737488355328
def nX (l:List Op1):Prop:=(l.length≤20∨60<l.length∧l.length≤100)∧ ∀ x∈l,x.args.length≤10
abbrev znO:Dt:=⟨[],[]⟩
structure OpsG (l:List Op1):Prop where
 s:l.length≤1048576
 o: ∀ x∈l,x.ok
end Go.AL
namespace Go.AL
open Go.Proofs Go.Proofs.Tryz
end Go.AL
namespace Go.AL
open Go.Proofs Go.Proofs.Tryz
@[go_sem] def URel8f206.pl:Nat→DPlan
 |8=>⟨[yA,yA,yA,yA,yA,yA,yA,yA,yB,yA,yA,yA,yB,yC,yA,yA],xE,0⟩
 |_=>⟨[],[],0⟩
@[go_sem] def URel8f224.pl:Nat→DPlan
 |4=>⟨[yA,yA,yA,yA,yA,yA,yA,yA,yB,yA,yA,yA,yA,yB,yC,yA,yA],wR,0⟩
 |6=>⟨[yA,yA,yA,yA,yA,yA,yA,yA,yA,yB,yA,yA,yA,yB,yA,yC,yA,yC],yM,0⟩
 |_=>⟨[],[],0⟩
open URel8f224 in
theorem zdP (h:Heap):ECall prog G0 224 [.ts 2 [],i64 (0:Nat),i64 (0:Nat),kP] h fun _ h'=>h'=h:=by
 refine pv func224 53 false (by kernel_rfl) rfl rfl ?_
 refine g2 ?_
 have hw:IntKind.i64.wrap (((0:Nat):Int)+1)=1:=by rw [xM (by omega) (by omega)];rfl
 have hc: ¬((1:Int)<((0:Nat):Int)):=by omega
 refine gf @hw ?_
 refine zW (K4 (K4 (.v:: .d:: .k:: .k::D9 (D9 (D9 (D9 (D4 (.d::[])))))))) (fun (_:Unit)=>[i64 1]) (fun _=>h) (fun _=>True) (fun _=>0) (own:=false) () rfl rfl trivial ?_
 rintro _ _
 refine gm ?_
 refine gf @hc ?_
 rfl
theorem aD (h:Heap):ECall prog G0 223 [.ts 2 [],i64 (0:Nat),kP] h fun _ h'=>h'=h:=by
 refine pv func223 63 false (by kernel_rfl) rfl rfl ?_
 refine g2 ?_
 have hc: ¬((20:Int)≤((0:Nat):Int)):=by omega
 have hc2: ¬((20:Int)<((0:Nat):Int)):=by omega
 refine ge ?_
 refine zW (K4 (.k:: .k:: .k:: .v:: .v:: .k:: .k::D9 (.d:: .d:: .d::K9 (K9 (K9 (K9 (K4 ([])))))))) (fun (_:Unit)=>[i64 (0:Nat),i64 20]) (fun _=>h) (fun _=>True) (fun _=>0) (own:=false) () rfl rfl trivial ?_
 rintro _ _
 refine gm ?_
 refine gf @hc ?_
 (refine g1 ?_;refine zC (zdP _) ?_;intro p2 h2 hr2;refine g2 ?_)
 subst hr2
 refine ge ?_
 refine zW (K4 (.k:: .k:: .v:: .d:: .d:: .d::K9 (K9 (D9 (D9 (D9 (D4 (D4 ([]))))))))) (fun (_:Unit)=>[i64 20]) (fun _=>h2) (fun _=>True) (fun _=>0) (own:=false) () rfl rfl trivial ?_
 rintro _ _
 refine gm ?_
 refine gf @hc2 ?_
 rfl
theorem jC (h:Heap):ECall prog G0 221 [.ts 2 [],kP] h fun _ h'=>h'=h:=by
 refine pv func221 9 false (by kernel_rfl) rfl rfl ?_
 refine g2 ?_
 refine ge ?_
 (refine g1 ?_;refine zC (aD _) ?_;intro p2 h2 hr2;refine g2 ?_)
 subst hr2
 refine ge ?_
 rfl
open URel8f206 in
theorem gH:EPure prog G0 206 [uN []] fun p=>p=uN []:=by
 refine ECall.cutW (R:=fun p _=>p= .nil) (pv func206 60 false (by kernel_rfl) rfl rfl ?_) (by rintro p h rfl;exact ⟨uN [],by rw [iQ];exact PLe.nil_ts 2,rfl,by simp [xX]⟩)
 refine g2 ?_
 refine ge ?_
 (refine g1 ?_;refine zC ((zgC [] (by simp) rfl).call zK (by simp) _) ?_;intro p2 h2 hr2;refine g2 ?_)
 obtain ⟨rfl,rfl⟩:=hr2
 refine ge ?_
 (refine g1 ?_;refine zC (jC _) ?_;intro p2 h2 hr2;refine g2 ?_)
 subst hr2
 refine ge ?_
 refine zW (K4 (.v:: .v:: .d:: .d::K4 (D9 (D9 (D9 (D9 (D9 (.d:: .d:: .k::[])))))))) (fun (_:Unit)=>[.nil,i64 0]) (fun _=>([]:Heap)) (fun _=>True) (fun _=>0) (own:=false) () rfl rfl trivial ?_
 rintro _ _
 refine gm ?_
 have hc: ¬((0:Int)<((0:Nat):Int)):=by omega
 refine gf @hc ?_
 rfl
def CanR (l o:List Rw):Prop:=o.length≤l.length∧ ∀ x∈o,(∃ y∈l,x.args=y.args)∧x.w.length≤64
end Go.AL
namespace Go.AL
open Go.Proofs Go.Proofs.Tryz
@[go_sem] def URel9f219.pl:Nat→DPlan
 |3=>⟨[yB,yA,yB,yB,yA,yB,yC,yA],zqS,0⟩
 |9=>⟨[⟨1,0,[1004]⟩,yA,⟨1,0,[1004]⟩,⟨1,0,[1004]⟩,yA,⟨5,1004,[]⟩,yC],tV,0⟩
 |11=>⟨[⟨1,0,[1005]⟩,yA,⟨1,0,[1005]⟩,⟨1,0,[1005]⟩,yA,⟨5,1005,[]⟩,yC],tV,0⟩
 |_=>⟨[],[],0⟩
theorem wH (l:List Rw):List.take l.length (l.map Rw.c)=l.map Rw.c:=List.take_of_length_le (by simp)
theorem tG (J:Heap) (a b:Blk):(J++[a,b])[J.length]? =some a:=by simp
theorem wG (J:Heap) (a b:Blk):(J++[a,b])[J.length+1]? =some b:=by simp
theorem set2 (J:Heap) (a b c:Blk):(J++[a,b]).set J.length c=J++[c,b]:=by simp
theorem wF (J:Heap) (a b c:Blk):(J++[a,b]).set (J.length+1) c=J++[a,c]:=by simp
end Go.AL
namespace Go.AL
open Go.Proofs Go.Proofs.Tryz
theorem zfL (a b:List Rw) (h:Heap):ECall prog G0 205 [uN a,uN b] h fun p h'=>p= .fn (.func 219) [] [.ptr h.length 0,.ptr (h.length+1) 0]∧h'=h++[.var 63 [uN a],.var 63 [uN b]]:=by
 refine pv func205 6 false (by kernel_rfl) rfl rfl ?_
 refine g2 ?_
 refine ge ?_
 exact ⟨rfl,rfl⟩
end Go.AL
namespace Go.AL
open Go.Proofs Go.Proofs.Tryz
end Go.AL
namespace Go.AL
open Go.Proofs Go.Proofs.Tryz
@[go_sem] def URel12f41.pl:Nat→DPlan
 |4=>⟨[yA,yB,yA,yA,yA,yA,yA,yA,yB,yA,yA,yA,yA,yA,yB,yC,yA,yA,yA,yA,yA,yA,yA,yA,yA,yA,yB,yB,yC,yA,yA,yA],zrL,0⟩
 |9=>⟨[yA,yB,yA,yA,yA,yB,yA,yA,yB,yC,yA,yA],xF,0⟩
 |_=>⟨[],[],0⟩
end Go.AL
namespace Go.AL
open Go.Proofs Go.Proofs.Tryz
@[go_sem] def UMonof160.pl:Nat→DPlan
 |11=>⟨[yA,yA,yA,yB,yA,yB,yA,yA,yA,yB,yA,yA,yA],yN,0⟩
 |_=>⟨[],[],0⟩
def ntz:List UInt8:=[8,0,1,0,2,0,1,0,3,0,1,0,2,0,1,0,4,0,1,0,2,0,1,0,3,0,1,0,2,0,1,0,5,0,1,0,2,0,1,0,3,0,1,0,2,0,1,0,4,0,1,0,2,0,1,0,3,0,1,0,2,0,1,0,6,0,1,0,2,0,1,0,3,0,1,0,2,0,1,0,4,0,1,0,2,0,1,0,3,0,1,0,2,0,1,0,5,0,1,0,2,0,1,0,3,0,1,0,2,0,1,0,4,0,1,0,2,0,1,0,3,0,1,0,2,0,1,0,7,0,1,0,2,0,1,0,3,0,1,0,2,0,1,0,4,0,1,0,2,0,1,0,3,0,1,0,2,0,1,0,5,0,1,0,2,0,1,0,3,0,1,0,2,0,1,0,4,0,1,0,2,0,1,0,3,0,1,0,2,0,1,0,6,0,1,0,2,0,1,0,3,0,1,0,2,0,1,0,4,0,1,0,2,0,1,0,3,0,1,0,2,0,1,0,5,0,1,0,2,0,1,0,3,0,1,0,2,0,1,0,4,0,1,0,2,0,1,0,3,0,1,0,2,0,1,0]
theorem zlV (m:Nat) (h:m<256) (h0:m≠0):2 ^ (ntz.toArray.getD m 0).toNat≤m:=by
 have e:((List.range 256).all fun m=>m==0||decide (2 ^ (ntz.toArray.getD m 0).toNat≤m))=true:=by kernel_rfl
 rw [List.all_eq_true] at e
 have:=e m (List.mem_range.2 h)
 simpa [h0] using this
theorem zlL (m:Nat) (h:m<256):EPure prog G0 203 [u8 m] fun p=> ∃ k:Nat,p=i64 k∧(m≠0→2 ^ k≤m):=by
 refine ECall.pure (pv func203 6 false (by kernel_rfl) rfl rfl ?_)
 refine g2 ?_
 have h1:((m:Int)<256)=True:=by simp;omega
 have h2:(0≤(m:Int))=True:=by simp
 refine gf (a2 @h1 @h2) ?_
 refine wU ?_
 intro sr hsr
 have hs2:=hsr.symm.trans (show _=SR.val (.sc (.int .u8 (((ntz.toArray.getD m 0).toNat:Nat):Int))) [] (0≤(m:Int)∧(m:Int)<256) by kernel_rfl)
 clear hsr
 subst hs2
 refine zH (by omega) ?_
 intro ts2 hts
 simp only [zZ,List.set_cons_zero,List.set_cons_succ] at hts
 subst hts
 have hk:=zlV m h
 have hk8:(ntz.toArray.getD m 0).toNat<256:=UInt8.toNat_lt _
 generalize (ntz.toArray.getD m 0).toNat=k at*
 have h5:(prog.underlying 5).isSome=true:=by kernel_rfl
 have h6:IntKind.i64.wrap (k:Int)=k:=by rw [IntKind.wrap_i64];omega
 refine gf (a2 @h5 @h6) ?_
 exact ⟨⟨⟨k,rfl,hk⟩,.sc⟩,rfl⟩
open UMonof160 in
theorem zi9 (l:La) (hl:l.ok) (f:List Int) (ht:f.length≤1048576):EB 160 [.agg l.c,vF f]:=by
 refine ECall.cut (R:=fun p _=> ∃ b:Bool,p=bo b) (pv func160 61 false (by kernel_rfl) rfl rfl ?_) (by rintro p h ⟨b,rfl⟩;exact ⟨b,rfl,trivial⟩)
 refine g2 ?_
 refine ge ?_
 (refine g1 ?_;refine zC ((cX l hl).call zK (by simp [zJ]) _) ?_;intro p2 h2 hr2;refine g2 ?_)
 obtain ⟨⟨os,b,rfl,hos,hb⟩,rfl⟩:=hr2
 have ht8:=kK hos
 have hdr:(os.map u8).drop 8=[]:=List.drop_eq_nil_of_le (by simp [hos])
 cases b with
 |false=>
  (repeat (first|refine gz ?_|(refine gn ?_;intro zs zh;(try simp only [go_sem,List.length_map,hos,hdr,ht8] at zh);subst zh;refine gv ?_)|refine yD UMonof160.pl ?_))
  exact ⟨_,rfl⟩
 | true=>
  obtain ⟨hn1,hn8,hL⟩:=hb rfl
  by_cases hlen:f.length=l.elems.length
  ·have hne:((f.length:Int)!=(l.elems.length:Int))=false:=by simp [hlen]
   (repeat (first|refine gz ?_|(refine gn ?_;intro zs zh;(try simp only [go_sem,List.length_map,hos,hdr,ht8,hne] at zh);subst zh;refine gv ?_)|refine yD UMonof160.pl ?_))
   (refine g1 ?_;refine zC ((fB l hl f (by omega)).call zK (by simp [zJ]) _) ?_;intro p2 h2 hr2;refine g2 ?_)
   obtain ⟨⟨b2,rfl,hin⟩,rfl⟩:=hr2
   cases b2 with
   |false=>
    refine ge ?_
    exact ⟨_,rfl⟩
   | true=>
    have hin:=hin rfl
    have hat: ∀ k (hk:k<f.length), ∃ x:Nat,f[k]=x∧x<l.elems.length:=fun k hk=>by
     obtain ⟨h1,h2⟩:=hin _ (List.getElem_mem hk)
     exact ⟨f[k].toNat,by omega,by omega⟩
    refine ge ?_
    refine zO f.length (K4 (.d:: .k:: .k:: .d:: .d:: .d::K9 (K9 (K4 (.k:: .v::D9 (D9 (D9 ([])))))))) (own:=false) (fun i (_:Unit)=>[i64 i]) (fun _=>_) (fun _ _=>True) () rfl rfl trivial (by omega) ?_ ?_
    ·rintro _ _
     refine gm ?_
     refine gf @zM ?_
     exact ⟨_,rfl⟩
    ·rintro i _ hi hw _
     refine gm ?_
     have hi8:i<os.length:=by omega
     obtain ⟨m,hm⟩:=Int.eq_ofNat_of_zero_le (hL.get i hi8).1
     have hm2:m<2 ^ l.elems.length:=by have:=(hL.get i hi8).2;rw [hm] at this;exact_mod_cast this
     have hd:((os.map u8).drop i).getD 0 .un=u8 m:=by rw [yU u8 os i .un hi8,hm]
     refine gf (a7 @hi @hw @zB @hd @hi8 @ht8 @hos) ?_
     refine zW (K4 (.d:: .k:: .k:: .k:: .v:: .d::K9 (K9 (K9 (.k:: .k::D9 (D9 (.d:: .d:: .d:: .k::[]))))))) (fun (m:Nat)=>[u8 m]) (fun _=>_) (fun m=>m<2 ^ l.elems.length) (fun m=>m) (own:=false) m rfl rfl hm2 ?_
     rintro m hm2
     refine gm ?_
     have h8:2 ^ l.elems.length≤2 ^ 8:=Nat.pow_le_pow_right (by decide) hn8
     by_cases hm0:m=0
     ·subst hm0
      have h00:((((0:Nat):Int))!=0)=false:=rfl
      refine gf (a2 @hw @h00) ?_
      (refine ⟨(),trivial,?_,?_,rfl⟩<;>simp only [zY,xJ,List.tail_cons])
     ·have hm0':((m:Int)!=0)=true:=by simp [hm0]
      refine gf (a2 @hm0' @hw) ?_
      (refine g1 ?_;refine zC ((zlL m (by omega)).call zK (by simp) _) ?_;intro p2 h2 hr2;refine g2 ?_)
      obtain ⟨⟨k,rfl,hk⟩,rfl⟩:=hr2
      have hkn:k<l.elems.length:=(Nat.pow_lt_pow_iff_right (by decide)).1 (Nat.lt_of_le_of_lt (hk hm0) hm2)
      have hkf:k<f.length:=by omega
      obtain ⟨x,hx,hxn⟩:=hat i hi
      obtain ⟨y,hy,hyn⟩:=hat k hkf
      have hgx:(f.map fun n:Int=>[i64 n]).getD i []=[i64 x]:=by rw [zG [] hi,hx]
      have hgy:(f.map fun n:Int=>[i64 n]).getD k []=[i64 y]:=by rw [zG [] hkf,hy]
      have hx8:x<os.length:=by omega
      have hdx:=yU u8 os x .un hx8
      have hand:bits BinOp.and IntKind.u8 (m:Int) (IntKind.u8.wrap ((m:Int)-1))=((m &&& (m-1):Nat):Int):=by
       rw [show IntKind.u8.wrap ((m:Int)-1)=((m-1:Nat):Int) by rw [IntKind.wrap_u8];omega]
       exact (bits_nat .u8 8 (by decide) wraps_u8 m (m-1) (by omega) (by omega)).1
      have hless:m &&& (m-1)<m:=Nat.lt_of_le_of_lt Nat.and_le_right (by omega)
      (have F:=(a9 @hi @hkf @hw @zB @hgx @hgy @hdx @hx8 (a3 @ht8 @hos @hand));(repeat' (first|refine dR F ?_|refine dQ F (fun he=> ?_) (fun he=> ?_)|fail));all_goals clear F)
      ·exact ⟨_,rfl⟩
      ·exact ⟨m &&& (m-1),by omega,hless,rfl,rfl,rfl⟩
  ·have hne:((f.length:Int)!=(l.elems.length:Int))=true:=by simp;omega
   (repeat (first|refine gz ?_|(refine gn ?_;intro zs zh;(try simp only [go_sem,List.length_map,hos,hdr,ht8,hne] at zh);subst zh;refine gv ?_)|refine yD UMonof160.pl ?_))
   exact ⟨_,rfl⟩
end Go.AL
namespace Go.AL
open Go.Proofs Go.Proofs.Tryz
@[go_sem] def UTyp5f117.pl:Nat→DPlan
 |4=>⟨[yA,yB,yA,yB,yA,yA,yB,yC,yA,yA,yA,yB,yA,yB,yA,yA,yB,yC,yA,yA],iot20,0⟩
 |20=>⟨[yA,yA,yB,yA,yB,yA,yA,yB,yC,yA,yC,yA],xF,0⟩
 |_=>⟨[],[],0⟩
@[go_sem] def UTyp5f161.pl:Nat→DPlan
 |6=>⟨[yA,yB,yA,yA,yA,yA,yB,yA,yB,yA,yA,yB,yA,yA],wS,0⟩
 |_=>⟨[],[],0⟩
theorem dK {n:Nat} {h:Heap} (f:Nat) (cs:List PV):fz n h (f+1) (.tup cs)= .tup (cs.map (fz n h f)):=by simp only [fz]
theorem kX {n:Nat} {h:Heap} (f:Nat):fz n h (f+1) .nil= .nil:=by simp only [fz]
theorem zaW {n:Nat} {h:Heap} (f:Nat) (v:Value):fz n h (f+1) (.sc v)= .sc v:=by simp only [fz]
theorem zjJ {h:Heap} {q:Nat} {t:List Int} {e:Int}:fz 0 h 40 (.tup [.vec q 1 (t.map fun n=>[i64 n]),i64 e])= .tup [vF t,i64 e]:=by
 have h1:fz 0 h 39 (.vec q 1 (t.map fun n=>[i64 n]))=vF t:=by
  rw [pD (f:=38)];exact vE 0 h 39 _ (all_map fun _=>rfl)
 rw [dK 39,List.map_cons,List.map_cons,List.map_nil,h1,zaW 38]
theorem zjK {h:Heap} {e:Int}:fz 0 h 40 (.tup [.nil,i64 e])= .tup [.nil,i64 e]:=by
 rw [dK 39,List.map_cons,List.map_cons,List.map_nil,kX 38,zaW 38]
open UTyp5f161 in
theorem zcB (q:Pd) (l:List Tm) (hl:l.length≤140737488355328) (hq:q.types.length≤140737488355328):EI 161 [.agg q.c,mI l] fun e=>e=0→l.length=q.types.length:=by
 refine ECall.cut (R:=fun p _=> ∃ e:Int,p=i64 e∧(e=0→l.length=q.types.length)) (pv func161 35 false (by kernel_rfl) rfl rfl ?_) (by rintro p h ⟨e,rfl,he⟩;exact ⟨e,rfl,he⟩)
 refine g2 ?_
 obtain ⟨name,types,lat,of',base,key,at'⟩:=q
 dsimp only at hq ⊢
 by_cases h1:l.length=types.length
 ·have e1:((l.length:Int)!=(types.length:Int))=false:=by simp [h1]
  refine gf @e1 ?_
  refine zO l.length (K4 (.d:: .d:: .d::K4 (K4 (.v::D9 (D9 (.d::[])))))) (own:=false) (fun i (_:Heap)=>[i64 i]) (fun J=> .var 59 _::J) (fun _ _=>True) [] rfl rfl trivial hl ?_ ?_
  ·rintro J _
   refine gm ?_
   refine gf @zM ?_
   exact ⟨0,rfl,fun _=>h1⟩
  ·rintro i J hi hw _
   refine gm ?_
   have hx:=zG (f:=Tm.c) [] hi
   have hit:i<types.length:=by omega
   have htj:=zG (f:=fun n:Int=>[i64 n]) [] hit
   generalize l[i]=x at*
   obtain ⟨v,⟨a,b,sx⟩⟩:=x
   by_cases hv:v=eS
   ·subst hv
    generalize types[i]=ty at*
    by_cases hty:a=ty
    ·have e3:(a !=ty)=false:=by simp [hty]
     refine gf (a9 @hi @hx @hit @htj @zB @hw @zA @zD @e3) ?_
     exact ⟨_,trivial,rfl,rfl,rfl⟩
    ·have e3:(a !=ty)=true:=by simp [hty]
     refine gf (a9 @hi @hx @hit @htj @zB @hw @zA @zD @e3) ?_
     exact ⟨72,rfl,fun h=>by omega⟩
   ·refine gf (a9 @hi @hx @hit @htj @zB @hw @zA @zD @hv) ?_
    exact ⟨_,trivial,rfl,rfl,rfl⟩
 ·have e1:((l.length:Int)!=(types.length:Int))=true:=by simp;omega
  refine gf @e1 ?_
  exact ⟨71,rfl,by omega⟩
open UTyp5f117 in
theorem ze6 (l:La) (hl:l.ok) (hle:l.elems.length≤1048576) (f:Fu) (hf:f.ok) (hft:f.fr.length=f.to.length):EPure prog G0 117 [.agg l.c,.agg f.c] fun p=> ∃ (t:List Int) (e:Int),p= .tup [vF t,i64 e]∧t.length≤1048576:=by
 refine ECall.cutW (R:=fun p _=> ∃ (t:List Int) (e:Int) (q:Nat),t.length≤1048576∧(p= .tup [.nil,i64 e]∧t=[]∨p= .tup [.vec q 1 (t.map fun n=>[i64 n]),i64 e])) (pv func117 85 false (by kernel_rfl) rfl rfl ?_) ?_
 refine g2 ?_
 ·obtain ⟨lname,elems,covers,lat'⟩:=l
  obtain ⟨name,lat,of',fr,to,table,at'⟩:=f
  obtain ⟨hl1,hl2,hl3,hl4⟩:=hl
  obtain ⟨h1,h2,h3,h4,h5,h6,h7⟩:=hf
  dsimp only at*
  refine ge ?_
  refine zO fr.length (K4 (.d:: .d:: .d::K9 (.v::D9 (D9 (D4 (.d::K9 (K9 (K9 (K9 (K9 ([]))))))))))) (own:=false) (fun i (_:Unit)=>[i64 i]) (fun _=>_) (fun _ _=>True) () rfl rfl trivial h3 ?_ ?_
  ·rintro _ _
   refine gm ?_
   refine gf @zM ?_
   refine zO fr.length (K4 (.d:: .d:: .k:: .d:: .d::K9 (K9 (K9 (K4 (.k:: .k:: .k:: .v::D9 (.d:: .d::K9 (K9 (K9 (.k:: .k:: .k::[])))))))))) (own:=false) (fun i (_:Unit)=>[i64 i]) (fun _=>_) (fun _ _=>True) () rfl rfl trivial h3 ?_ ?_
   ·rintro _ _
    refine gm ?_
    refine gf @zM ?_
    refine zO elems.length (K4 (.d:: .d:: .k:: .k:: .k:: .v:: .k:: .d:: .d::K9 (K9 (K9 (K9 (K9 (.v::D9 (D9 (.d:: .d:: .d::K4 (.k::[])))))))))) (own:=false) (fun i (s:PV×List Int×Heap)=>[s.1,i64 i]) (fun s=> .var 73 _:: .var 109 _::s.2.2) (fun i s=>s.2.1.length≤i∧GrowN 2 3 (s.2.1.map fun n=>[i64 n]) 1 s.2.2 s.1) (.nil,[],[]) rfl rfl ⟨Nat.le_refl _,.inl ⟨rfl,rfl⟩⟩ (by omega) ?_ ?_
    ·rintro ⟨V,tb,J⟩ ⟨htl,hG⟩ t ht
     dsimp only at htl hG
     simp only [zY] at ht;subst ht
     refine gf @zM ?_
     have hple:PLe V (vF tb):=by
      rcases hG with ⟨he,rfl⟩|⟨q,rfl,_⟩
      ·have:tb=[]:=by simpa using he
       subst this;exact PLe.nil_ts 1
      ·exact PLe.vec_ts _ _ _
     have hmo:=zi9 ⟨lname,elems,covers,lat'⟩ ⟨hl1,hl2,hl3,hl4⟩ tb (by omega)
     (refine g1 ?_;refine zC ((hmo.call zK (by simp [zJ]) _).args (.cons (PLe.refl _) (.cons hple .nil))) ?_;intro p2 h2 hr2;refine g2 ?_)
     obtain ⟨⟨b,rfl,_⟩,rfl⟩:=hr2
     cases b
     ·refine ge ?_
      exact ⟨[],31,0,by simp,.inl ⟨rfl,rfl⟩⟩
     ·refine ge ?_
      rcases hG with ⟨he,rfl⟩|⟨q,rfl,_⟩
      ·exact ⟨[],0,0,by simp,.inl ⟨rfl,rfl⟩⟩
      ·exact ⟨tb,0,q+2,by omega,.inr rfl⟩
    ·rintro i ⟨V,tb,J⟩ hi hw ⟨htl,hG⟩ t ht
     dsimp only at htl hG
     simp only [zY] at ht;subst ht
     have hx:=zG (f:=fun s:BA=>[yQ s]) [] hi
     refine gf (a4 @hi @hx @zB @hw) ?_
     (refine g1 ?_;refine zC ((qH fr _ h3).call zK (by simp) _) ?_;intro p2 h2 hr2;refine g2 ?_)
     obtain ⟨⟨n,rfl,hn1,hn2⟩,rfl⟩:=hr2
     by_cases hn:n<0
     ·refine gf @hn ?_
      exact ⟨[],71,0,by simp,.inl ⟨rfl,rfl⟩⟩
     ·obtain ⟨m,rfl⟩:=Int.eq_ofNat_of_zero_le (by omega:0≤n)
      have hm:m<to.length:=by omega
      have hx2:=zG (f:=fun s:BA=>[yQ s]) [] hm
      have hn': ¬((m:Int)<0):=hn
      (repeat (first|refine gz ?_|(refine gn ?_;intro zs zh;(try simp only [go_sem,hn',hm,hx2,zB] at zh);subst zh;(first|refine gv ?_|((first|refine zC ((qH elems _ (by omega)).call zK (by simp) _) ?_|refine zP (by decide) (by decide) ((qH elems _ (by omega)).call zK (by simp) _) ?_);intro p2 h2 hr2;obtain ⟨hr2,rfl⟩:=hr2;first|obtain ⟨_,rfl,hr2⟩:=hr2|obtain ⟨_,rfl⟩:=hr2|subst hr2|skip)))|refine yD UTyp5f117.pl ?_))
      rename_i w
      rcases hG with ⟨he,rfl⟩|⟨q,rfl,hq⟩
      ·have htb:tb=[]:=by simpa using he
       subst htb
       refine gf @hw ?_
       exact ⟨(.vec (J.length+2) 1 [[i64 w]],[w],_),⟨by dsimp only;simp,.inr ⟨J.length,rfl,by simp⟩⟩,rfl,rfl,rfl⟩
      ·have hqJ:q<J.length:=(gsi hq).1
       simp only [List.length_map] at hq
       refine gf (a2 @hw @hq) ?_
       exact ⟨(.vec (q+2) 1 ((tb.map fun n=>[i64 n])++[[i64 w]]),tb++[w],_),⟨by dsimp only;simp;omega,.inr ⟨q,by dsimp only;rw [List.map_append];rfl,by dsimp only;rw [List.getElem?_set_self hqJ];simp⟩⟩,rfl,rfl,rfl⟩
   ·rintro i _ hi hw _
    refine gm ?_
    have hx:=zG (f:=fun s:BA=>[yQ s]) [] hi
    (repeat' (first|refine gz ?_|(refine gn ?_;intro zs zh;(try simp only [go_sem,hi,hx,zB,hw,xO] at zh);subst zh;(first|refine gv ?_|((first|refine zC ((wC (fr.take i) _ (by rw [List.length_take];omega)).call zK (by simp) _) ?_|refine zP (by decide) (by decide) ((wC (fr.take i) _ (by rw [List.length_take];omega)).call zK (by simp) _) ?_);intro p2 h2 hr2;obtain ⟨hr2,rfl⟩:=hr2;first|obtain ⟨_,rfl,hr2⟩:=hr2|obtain ⟨_,rfl⟩:=hr2|subst hr2|skip)|(refine yS (fun he=> ?_) (fun he=> ?_)<;>(try simp only [mM] at he))))|refine yD UTyp5f117.pl ?_|((with_reducible refine vY ?_);refine zN rfl rfl rfl ?_;intro sr hsr;simp only [sK,wP] at hsr;subst hsr;(fail_if_success (refine nx ?_));(refine iT (fun he=> ?_) (fun he=> ?_)<;>(intro ts2 hts;simp only [wP] at hts;subst hts;(try simp only [mM] at he))))|((with_reducible refine tO rfl ?_);intro sr hsr;simp only [sK,wP] at hsr;subst hsr;(fail_if_success (with_reducible (first|refine tL ?_|refine tN ?_)));refine tK (fun he=> ?_) (fun he=> ?_)<;>(intro ts2 hts;simp only [wP] at hts;subst hts;(try simp only [mM] at he)))|fail))
    ·exact ⟨[],5,0,by simp,.inl ⟨rfl,rfl⟩⟩
    ·(refine ⟨(),trivial,?_,?_,rfl⟩<;>simp only [zY,xJ,List.tail_cons])
  ·rintro i _ hi hw _
   refine gm ?_
   have hx:=zG (f:=fun s:BA=>[yQ s]) [] hi
   have hi2:i<to.length:=by omega
   have hx2:=zG (f:=fun s:BA=>[yQ s]) [] hi2
   (repeat' (first|refine gz ?_|(refine gn ?_;intro zs zh;(try simp only [go_sem,hi,hx,hi2,hx2,zB,hw] at zh);subst zh;(first|refine gv ?_|((first|refine zC ((wC elems _ (by omega)).call zK (by simp) _) ?_|refine zP (by decide) (by decide) ((wC elems _ (by omega)).call zK (by simp) _) ?_);intro p2 h2 hr2;obtain ⟨hr2,rfl⟩:=hr2;first|obtain ⟨_,rfl,hr2⟩:=hr2|obtain ⟨_,rfl⟩:=hr2|subst hr2|skip)|(refine yS (fun he=> ?_) (fun he=> ?_)<;>(try simp only [mM] at he))))|refine yD UTyp5f117.pl ?_|((with_reducible refine vY ?_);refine zN rfl rfl rfl ?_;intro sr hsr;simp only [sK,wP] at hsr;subst hsr;(fail_if_success (refine nx ?_));(refine iT (fun he=> ?_) (fun he=> ?_)<;>(intro ts2 hts;simp only [wP] at hts;subst hts;(try simp only [mM] at he))))|((with_reducible refine tO rfl ?_);intro sr hsr;simp only [sK,wP] at hsr;subst hsr;(fail_if_success (with_reducible (first|refine tL ?_|refine tN ?_)));refine tK (fun he=> ?_) (fun he=> ?_)<;>(intro ts2 hts;simp only [wP] at hts;subst hts;(try simp only [mM] at he)))|fail))
   all_goals first|exact ⟨[],70,0,by simp,.inl ⟨rfl,rfl⟩⟩|(refine ⟨(),trivial,?_,?_,rfl⟩<;>simp only [zY,xJ,List.tail_cons])|trace_state
 ·rintro p h ⟨t,e,q,hlen,⟨rfl,rfl⟩|rfl⟩
  ·exact ⟨.tup [vF [],i64 e],by rw [zjK];exact PLes.tup (.cons (PLe.nil_ts 1) (.cons (PLe.refl _) .nil)),⟨[],e,rfl,by simp⟩,by simp [cI]⟩
  ·exact ⟨.tup [vF t,i64 e],by rw [zjJ];exact PLe.refl _,⟨t,e,rfl,hlen⟩,by simp [cI]⟩
end Go.AL
namespace Go.AL
open Go.Proofs Go.Proofs.Tryz
abbrev NM:Type:=List (Value×PV)
def NMap (es:NM) (n:Nat):Prop:= ∀ x∈es,(∃ s,x.1= .string s)∧ ∃ i:Nat,x.2=i64 i∧i<n
theorem eG:kC prog 152=some (9,.string,3):=by kernel_rfl
theorem zh0:(prog.info? 3).bind (·.zero)=some (.int .i64 0):=by kernel_rfl
theorem NMap.all {es:NM} {n:Nat} (h:NMap es n):es.all (fun x=>pF .string x.1)=true:=by
 rw [List.all_eq_true]
 intro x hx
 obtain ⟨⟨s,e⟩,_⟩:=h x hx
 rw [e];rfl
theorem mQ {k:Value}: ∀ {es:NM} {j i:Nat} {p:PV},vV k es j=some (i,p)→ ∃ x∈es,x.2=p
 | [],_,_,_,h=>by cases h
 | x::es,j,i,p,h=>by
  unfold vV at h
  split at h
  ·cases h;exact ⟨x,List.mem_cons_self ..,rfl⟩
  ·obtain ⟨y,hy,e⟩:=mQ h
   exact ⟨y,List.mem_cons_of_mem _ hy,e⟩
theorem NMap.set {es:NM} {n i:Nat} {s:BA} (h:NMap es n) (hi:i<n):NMap (kO (.string s) (i64 i) es) n:=by
 unfold kO
 split
 ·intro x hx
  rcases List.mem_or_eq_of_mem_set hx with hx|rfl
  ·exact h x hx
  ·exact ⟨⟨s,rfl⟩,i,rfl,hi⟩
 ·intro x hx
  rcases List.mem_append.1 hx with hx|hx
  ·exact h x hx
  ·simp at hx;subst hx;exact ⟨⟨s,rfl⟩,i,rfl,hi⟩
theorem NMap.mono {es:NM} {n m:Nat} (h:NMap es n) (k:n≤m):NMap es m:=fun x hx=>by
 obtain ⟨a,i,e,hi⟩:=h x hx
 exact ⟨a,i,e,by omega⟩
theorem zm1 (s:BA):pF .string (.string s)=true:=rfl
theorem lC {h:Heap} {r:Nat} {es:NM} {s:BA} {j:Nat} {p:PV} (hr:h[r]? =some (.map es)) (ha:es.all (fun x=>pF .string x.1)=true) (hm:vV (.string s) es 0=some (j,p)):xQ (α:=Prop) prog h 152 true (.mp r) (yQ s)=some (.tup [p,bo true],True):=by
 unfold xQ
 rw [eG]
 simp only [oS,hr,zh0,zm1,ha,hm,Bool.and_self,if_true,vL]
theorem lD {h:Heap} {r:Nat} {es:NM} {s:BA} (hr:h[r]? =some (.map es)) (ha:es.all (fun x=>pF .string x.1)=true) (hm:vV (.string s) es 0=none):xQ (α:=Prop) prog h 152 true (.mp r) (yQ s)=some (.tup [i64 0,bo false],True):=by
 unfold xQ
 rw [eG]
 simp only [oS,hr,zh0,zm1,ha,hm,Bool.and_self,if_true,vL,nI,zeV,Bool.false_eq_true,if_false,zhI,zhJ,Int.reduceLE,and_self]
theorem aS (h:Heap) (r:Nat) (es:NM) (n:Nat) (s:BA) (i e:Int) (hr:h[r]? =some (.map es)) (hes:NMap es n):ECall prog G0 113 [.mp r,yQ s,i64 i,i64 e] h fun p h'=> ∃ e':Int,p=i64 e'∧(h'=h∨h'=h.set r (.map (kO (.string s) (i64 i) es)))∧(e'=0→e=0):=by
 refine pv func113 22 false (by kernel_rfl) rfl rfl ?_
 refine g2 ?_
 have ha:=hes.all
 cases hm:vV (.string s) es 0 with
 |none=>
  have hlk:=lD hr ha hm
  (repeat (first|refine gz ?_|(refine gn ?_;intro zs zh;(try simp only [go_sem,hlk,eG,hr,ha,zm1,Bool.and_self] at zh);subst zh;refine gv ?_)))
  exact ⟨e,rfl,.inr rfl,id⟩
 |some x=>
  obtain ⟨j,p⟩:=x
  have hlk:=lC hr ha hm
  refine gf @hlk ?_
  exact ⟨5,rfl,.inl rfl,fun h=>by omega⟩
theorem lE (h:Heap) (r:Nat) (es:NM) (n:Nat) (s:BA) (hr:h[r]? =some (.map es)) (hes:NMap es n):ECall prog G0 116 [.mp r,yQ s] h fun p h'=> ∃ i:Int,p=i64 i∧ -1≤i∧i<n∧h'=h:=by
 refine pv func116 15 false (by kernel_rfl) rfl rfl ?_
 refine g2 ?_
 have ha:=hes.all
 cases hm:vV (.string s) es 0 with
 |none=>
  have hlk:=lD hr ha hm
  refine gf @hlk ?_
  exact ⟨-1,rfl,by omega,by omega,rfl⟩
 |some x=>
  obtain ⟨j,p⟩:=x
  have hlk:=lC hr ha hm
  obtain ⟨y,hy,rfl⟩:=mQ hm
  obtain ⟨_,i,e,hi⟩:=hes y hy
  rw [e] at hlk
  refine gf @hlk ?_
  exact ⟨i,rfl,by omega,by omega,rfl⟩
end Go.AL
