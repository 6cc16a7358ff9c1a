/-
  Lattices: the order.
-/
import Derived.Test.YtfjkncfjclifoaaGreatDoorZ18
set_option linter.unusedSimpArgs false
set_option linter.unusedVariables false
set_option maxRecDepth 100000
set_option maxHeartbeats 4000000
namespace Go.AL
open Go.Proofs Go.Proofs.Tryz
@[go_sem] def ULat2f142.pl:Nat→DPlan
 |8=>⟨[⟨0,0,[]⟩,⟨0,0,[]⟩,⟨1,0,[]⟩,⟨0,0,[]⟩,⟨0,0,[]⟩,⟨1,0,[]⟩,⟨0,0,[]⟩,⟨0,0,[]⟩,⟨4,0,[]⟩],[0,1,2,3,4,5,6,7,8],0⟩
 |_=>⟨[],[],0⟩
@[go_sem] def nA:DPlan:=⟨[⟨0,0,[]⟩,⟨0,0,[]⟩,⟨1,0,[]⟩,⟨0,0,[]⟩,⟨0,0,[]⟩,⟨1,0,[]⟩,⟨0,0,[]⟩,⟨0,0,[]⟩,⟨4,0,[]⟩],[0,1,2,3,4,5,6,7,8],0⟩
def Low (n:Nat) (os:List Int):Prop:= ∀ x∈os,0≤x∧x<2 ^ n
theorem zhH {n:Nat} (hn:n≤8) {a b:Int} (ha:0≤a∧a<2 ^ n) (hb:0≤b∧b<2 ^ n):0≤bits BinOp.or IntKind.u8 a b∧bits BinOp.or IntKind.u8 a b<2 ^ n:=by
 obtain ⟨a',rfl⟩:=Int.eq_ofNat_of_zero_le ha.1
 obtain ⟨b',rfl⟩:=Int.eq_ofNat_of_zero_le hb.1
 have h8:2 ^ n≤2 ^ 8:=Nat.pow_le_pow_right (by decide) hn
 have ha':a'<2 ^ n:=by exact_mod_cast ha.2
 have hb':b'<2 ^ n:=by exact_mod_cast hb.2
 rw [(bits_nat .u8 8 (by decide) wraps_u8 a' b' (by omega) (by omega)).2]
 refine ⟨by omega,?_⟩
 exact_mod_cast Nat.or_lt_two_pow ha' hb'
theorem zbP {n b:Nat} (hn:n≤8) (hb:b<n):0≤IntKind.u8.wrap (1*2 ^ min b 8)∧IntKind.u8.wrap (1*2 ^ min b 8)<2 ^ n:=by
 have e:min b 8=b:=by omega
 have hlt:2 ^ b<2 ^ n:=Nat.pow_lt_pow_right (by decide) hb
 have h8:2 ^ n≤2 ^ 8:=Nat.pow_le_pow_right (by decide) hn
 have hp:0<2 ^ b:=Nat.two_pow_pos b
 rw [e,show (1:Int)*2 ^ b=((2 ^ b:Nat):Int) by simp,show (2:Int) ^ n=((2 ^ n:Nat):Int) by simp]
 generalize 2 ^ b=x at*
 generalize 2 ^ n=y at*
 rw [IntKind.wrap_u8]
 omega
theorem Low.set {n:Nat} {os:List Int} (h:Low n os) (j:Nat) {v:Int} (hv:0≤v∧v<2 ^ n):Low n (os.set j v):=fun x hx=>by
 rcases List.mem_or_eq_of_mem_set hx with hx|rfl
 ·exact h x hx
 ·exact hv
theorem Low.get {n:Nat} {os:List Int} (h:Low n os) (j:Nat) (hj:j<os.length):0≤os[j]∧os[j]<2 ^ n:=h _ (List.getElem_mem hj)
theorem zfQ (n:Nat):Low n [0,0,0,0,0,0,0,0]:=fun x hx=>by
 have:x=0:=by simpa using hx
 subst this
 exact ⟨by omega,by exact_mod_cast Nat.two_pow_pos n⟩
theorem oC (os:List Int) (hos:os.length=8) (set:Int) (n:Nat) (hn:n≤8):EI 143 [.agg (os.map u8),u8 set,i64 n] fun r=> -1≤r∧r<n:=by
 refine ECall.cut (R:=fun p _=> ∃ r:Int,p=i64 r∧ -1≤r∧r<n) (pv func143 27 false (by kernel_rfl) rfl rfl ?_) ?_
 refine g2 ?_
 ·refine ge ?_
  refine zO n (K4 (.k:: .k:: .d:: .d:: .k:: .v::D9 (D4 (D4 ([]))))) (own:=false) (fun i (_:Unit)=>[i64 i]) (fun _=>_) (fun _ _=>True) () rfl rfl trivial (by omega) ?_ ?_
  ·rintro s hI
   refine gm ?_
   refine gf @zM ?_
   exact ⟨_,rfl,by omega,by omega⟩
  ·rintro i _ hi hw _
   refine gm ?_
   have h8:i<os.length:=by omega
   have hd:=yU u8 os i .un h8
   (have F:=(a5 @hi @hd @h8 @zB @hw);(repeat' (first|refine dR F ?_|refine dQ F (fun he=> ?_) (fun he=> ?_)|fail));all_goals clear F)
   all_goals first|exact ⟨_,rfl,by omega,by omega⟩|(refine ⟨(),trivial,?_,?_,rfl⟩<;>simp only [zY,xJ,List.tail_cons])
 ·rintro p h ⟨r,rfl,h1,h2⟩;exact ⟨r,rfl,h1,h2⟩
open ULat2f142 in
theorem zd6 (os:List Int) (hos:os.length=8) (n:Nat) (hn:n≤8):EPure prog G0 142 [.agg (os.map u8),i64 n] fun p=> ∃ os':List Int,p= .agg (os'.map u8)∧os'.length=8∧(Low n os→Low n os'):=by
 refine ECall.cut (R:=fun p _=> ∃ os':List Int,p= .agg (os'.map u8)∧os'.length=8∧(Low n os→Low n os')) (pv func142 33 false (by kernel_rfl) rfl rfl ?_) ?_
 refine g2 ?_
 ·refine ge ?_
  refine zO n (K4 (.k:: .d:: .d:: .k:: .v::D9 (D9 (D4 (.d:: .k::[]))))) (own:=false) (fun i (_:List Int)=>[i64 i]) (fun s=>[.var 193 (s.map u8),_]) (fun _ s=>s.length=8∧(Low n os→Low n s)) os rfl rfl ⟨hos,id⟩ (by omega) ?_ ?_
  ·rintro s hI
   refine gm ?_
   have ht8:(s.map u8).take 8=s.map u8:=List.take_of_length_le (by simp [hI.1])
   (repeat (first|refine nx ?_|(intro zs zh;(try simp only [go_sem] at zh);subst zh)|((first|refine ns ?_|refine zF rfl rfl rfl ?_|(refine zN rfl rfl rfl ?_;intro zs zh;(try simp only [go_sem] at zh);subst zh;refine nx ?_));intro zs zh;(try simp only [go_sem,zM,List.length_map,hI.1,ht8] at zh);subst zh;first|refine nx ?_|refine zH (by omega) ?_|refine zL (by decide) ?_|refine zI (by decide) (by omega) ?_)|refine zQ nA _ 8 (by kernel_rfl) ?_))
   exact ⟨_,rfl,hI⟩
  ·rintro i s hi hw hI
   refine gm ?_
   refine gf (a3 @hi @zB @hw) ?_
   refine zO n (K4 (.k:: .k:: .d::K4 (.k:: .v::D9 (D9 (.k:: .k::[]))))) (own:=false) (fun i (_:List Int)=>[i64 i]) (fun s=>[.var 193 (s.map u8),_]) (fun _ s=>s.length=8∧(Low n os→Low n s)) s rfl rfl hI (by omega) ?_ ?_
   ·rintro s hI
    refine gm ?_
    refine gf (a2 @zM @hw) ?_
    exact ⟨s,hI,rfl,rfl,rfl⟩
   ·rintro j s hj hw2 hI
    refine gm ?_
    obtain ⟨hI1,hI2⟩:=hI
    have h8:i<s.length:=by omega
    have hj8:j<s.length:=by omega
    have hd:=yU u8 s i .un h8
    have hd2:=yU u8 s j .un hj8
    have hs: ∀ v,(s.map u8).take j++u8 v::(s.map u8).drop (j+1)=(s.set j v).map u8:=fun v=>wY u8 s j v hj8
    (repeat' (first|refine nx ?_|(intro zs zh;(try simp only [go_sem] at zh);subst zh)|((first|refine ns ?_|refine zF rfl rfl rfl ?_|(refine zN rfl rfl rfl ?_;intro zs zh;(try simp only [go_sem] at zh);subst zh;refine nx ?_));intro zs zh;(try simp only [go_sem,hj,zB,hw2,hd,hd2,hs,h8,hj8,Nat.succ_le_of_lt] at zh);subst zh;first|refine nx ?_|refine zH (by omega) ?_|refine zL (by decide) ?_|refine zI (by decide) (by omega) ?_|(refine yS (fun he=> ?_) (fun he=> ?_)<;>(try simp only [decide_eq_true_eq,decide_eq_false_iff_not,Bool.not_eq_true',Bool.not_eq_false',Bool.not_eq_true,beq_iff_eq,beq_eq_false_iff_ne,bne_iff_ne,bne_eq_false_iff_eq] at he)))|refine zQ nA _ 8 (by kernel_rfl) ?_|((with_reducible refine vY ?_);refine zN rfl rfl rfl ?_;intro sr hsr;simp only [sK,List.getD_cons_succ,List.getD_cons_zero,Option.map_some,Option.getD_some,Bool.not_false,Bool.not_true] at hsr;subst hsr;(fail_if_success (refine nx ?_));(refine iT (fun he=> ?_) (fun he=> ?_)<;>(intro ts2 hts;simp only [List.getD_cons_succ,List.getD_cons_zero,Option.getD_some,List.set_cons_zero,List.set_cons_succ] at hts;subst hts;(try simp only [decide_eq_true_eq,decide_eq_false_iff_not,Bool.not_eq_true',Bool.not_eq_false',Bool.not_eq_true,beq_iff_eq,beq_eq_false_iff_ne,bne_iff_ne,bne_eq_false_iff_eq] at he))))|((with_reducible refine tO rfl ?_);intro sr hsr;simp only [sK,List.getD_cons_succ,List.getD_cons_zero,Option.map_some,Option.getD_some,Bool.not_false,Bool.not_true] at hsr;subst hsr;(fail_if_success (with_reducible (first|refine tL ?_|refine tN ?_)));refine tK (fun he=> ?_) (fun he=> ?_)<;>(intro ts2 hts;simp only [List.getD_cons_succ,List.getD_cons_zero,Option.getD_some,List.set_cons_zero,List.set_cons_succ] at hts;subst hts;(try simp only [decide_eq_true_eq,decide_eq_false_iff_not,Bool.not_eq_true',Bool.not_eq_false',Bool.not_eq_true,beq_iff_eq,beq_eq_false_iff_ne,bne_iff_ne,bne_eq_false_iff_eq] at he)))))
    ·exact ⟨_,⟨by simpa using hI1,fun hL=>(hI2 hL).set _ (zhH hn ((hI2 hL).get j hj8) ((hI2 hL).get i h8))⟩,rfl,rfl,rfl⟩
    ·exact ⟨s,⟨hI1,hI2⟩,rfl,rfl,rfl⟩
 ·rintro p h ⟨r,rfl,h1⟩
  exact ⟨r,vE _ _ _ _ (all_map fun _=>rfl),h1⟩
end Go.AL
