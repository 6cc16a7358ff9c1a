/-
  Lattices: bounds, to the letter; the least element joined with another one.
-/
import Derived.Test.YtcffidhiaihbkaaGreatDoorX26
set_option linter.unusedSimpArgs false
set_option linter.unusedVariables false
set_option maxRecDepth 100000
set_option maxHeartbeats 4000000
namespace Go.AL
open Go.Proofs Go.Proofs.Tryz
abbrev SH (b0 b1:Blk) (pc:List PV) (ml mf mp:NM) (L F P R Rep:PV) (J:Heap):Heap:=
 b0::b1:: .var 27 pc:: .map ml:: .map mf:: .map mp:: .var 154 [L,F,P,R,.mp 3,.mp 4,.mp 5,Rep]::J
abbrev iV (l:List (Int×Int)):List (List PV):=l.map fun d=>[i64 d.1,i64 d.2]
def Keep (J J':Heap):Prop:= ∀ (r:Nat) (b:Blk),J[r]? =some b→(∀ k n,b≠Blk.vec 149 k n)→J'[r]? =some b
theorem GrowN.app {off:Nat} {t:TypeId} {els:List (List PV)} {k:Nat} {J:Heap} {V:PV} (h:GrowN off t els k J V) (J':Heap):GrowN off t els k (J++J') V:=by
 rcases h with h|⟨q,h1,hq⟩
 ·exact .inl h
 ·exact .inr ⟨q,h1,by rw [List.getElem?_append_left (gsi hq).1];exact hq⟩
theorem Keep.app (J J':Heap):Keep J (J++J'):=fun r b h _=>by rw [List.getElem?_append_left (gsi h).1];exact h
theorem Keep.refl (J:Heap):Keep J J:=fun _ _ h _=>h
theorem Keep.trans {J J' J'':Heap} (h:Keep J J') (k:Keep J' J''):Keep J J'':=fun r b hb hn=>k r b (h r b hb hn) hn
theorem Keep.grow {J J':Heap} (h:Keep J J') {t:TypeId} {els:List (List PV)} {k:Nat} {V:PV} (ht:t≠149) (hG:GrowN 7 t els k J V):GrowN 7 t els k J' V:=by
 rcases hG with hG|⟨q,h1,hq⟩
 ·exact .inl hG
 ·exact .inr ⟨q,h1,h q _ hq (fun k n e=>by cases e;exact ht rfl)⟩
theorem zdD (b0 b1:Blk) (pc:List PV) (ml mf mp:NM) (L F P R Rep:PV) (J:Heap) (rp:List (Int×Int)) (hrp:rp.length≤1048576) (hG:GrowN 7 149 (iV rp) 2 J Rep) (e at':Int):
  ECall prog G0 112 [.ptr 6 0,i64 e,i64 at'] (SH b0 b1 pc ml mf mp L F P R Rep J) fun _ h'=>(e=0∧h'=SH b0 b1 pc ml mf mp L F P R Rep J)∨(e≠0∧ ∃ Rep' J',h'=SH b0 b1 pc ml mf mp L F P R Rep' J'∧GrowN 7 149 (iV (rp++[(e,at')])) 2 J' Rep'∧Keep J J'):=by
 refine pv func112 20 false (by kernel_rfl) rfl rfl ?_
 refine g2 ?_
 by_cases he:e=0
 ·subst he
  have hb:((0:Int)!=0)=false:=rfl
  refine gf @hb ?_
  exact .inl ⟨rfl,rfl⟩
 ·have hb:(e !=0)=true:=by simp [he]
  rcases hG with ⟨h0,rfl⟩|⟨q,rfl,hq⟩
  ·have:rp=[]:=by simpa using h0
   subst this
   refine gf @hb ?_
   exact .inr ⟨he,_,_,rfl,.inr ⟨J.length,rfl,by simp⟩,Keep.app _ _⟩
  ·have hqJ:q<J.length:=(gsi hq).1
   simp only [List.length_map] at hq
   refine gf (a2 @hb @hq) ?_
   exact .inr ⟨he,_,_,rfl,.inr ⟨q,by rw [show iV (rp++[(e,at')])=iV rp++iV [(e,at')] from List.map_append];rfl,by rw [List.getElem?_set_self hqJ];simp⟩,fun r b h hn=>by
    have:q≠r:=fun e=>by subst e;rw [hq] at h;cases h;exact hn _ _ rfl
    rw [List.getElem?_set_ne this];exact h⟩
end Go.AL
namespace Go.AL
open Go.Proofs Go.Proofs.Tryz
def zoH (x:Int) (b:Nat):Bool:=bits BinOp.and IntKind.u8 (x / 2 ^ min b 8) 1==1
def zoA (x y:Int):Bool:=bits BinOp.andNot IntKind.u8 x y==0
def zrZ (c:Nat→Bool):Nat→Nat→Int
 |0,_=> -1
 |f+1,i=>if c i=true then i else zrZ c f (i+1)
theorem zeC {c:Nat→Bool}: ∀ {i:Nat} (f i0:Nat),(∀ j,i0≤j→j<i0+i→c j=false)→zrZ c (f+i) i0=zrZ c f (i0+i)
 |0,f,i0,_=>rfl
 |i+1,f,i0,h=>by
  have h0:=h i0 (Nat.le_refl _) (by omega)
  rw [show f+(i+1)=(f+i)+1 by omega,zrZ,h0,if_neg (by simp),zeC f (i0+1) fun j h1 h2=>h j (by omega) (by omega)]
  congr 1;omega
theorem zoJ {c:Nat→Bool}: ∀ {f i:Nat},(zrZ c f i= -1∧ ∀ j,i≤j→j<i+f→c j=false)∨ ∃ a:Nat,zrZ c f i=a∧i≤a∧a<i+f∧c a=true
 |0,i=> .inl ⟨rfl,fun j _ _=>by omega⟩
 | f+1,i=>by
  unfold zrZ
  by_cases hc:c i=true
  ·rw [if_pos hc];exact .inr ⟨i,rfl,Nat.le_refl _,by omega,hc⟩
  ·rw [if_neg hc]
   rcases zoJ (c:=c) (f:=f) (i:=i+1) with ⟨h,k⟩|⟨a,h,h1,h2,h3⟩
   ·refine .inl ⟨h,fun j h1 h2=> ?_⟩
    rcases Nat.eq_or_lt_of_le h1 with q|q
    ·subst q;simpa using hc
    ·exact k j q (by omega)
   ·exact .inr ⟨a,h,by omega,by omega,h3⟩
def zqU (os:List Int) (set:Int) (a:Nat):Bool:=zoH set a&&zoA set (os.getD a 0)
def zrI (os:List Int) (set:Int) (n:Nat):Int:=zrZ (zqU os set) n 0
theorem zoT (os:List Int) (hos:os.length=8) (set:Int) (n:Nat) (hn:n≤8):EPure prog G0 83 [.agg (os.map u8),u8 set,i64 n] fun r=>r=i64 (zrI os set n):=by
 refine ECall.cut (R:=fun p _=>p=i64 (zrI os set n)) (pv func83 27 false (by kernel_rfl) rfl rfl ?_) (by rintro p h rfl;rfl)
 refine g2 ?_
 unfold zrI
 refine ge ?_
 refine zO n (K4 (.k:: .k:: .d:: .d:: .k:: .v::D9 (D4 (D4 ([]))))) (own:=false) (fun i (_:Unit)=>[i64 i]) (fun _=>_) (fun i _=> ∀ j,0≤j→j<0+i→zqU os set j=false) () rfl rfl (fun j _ h=>by omega) (by omega) ?_ ?_
 ·rintro s hI
  refine gm ?_
  have:=zeC 0 0 hI
  rw [Nat.zero_add] at this
  rw [this]
  refine gf @zM ?_
  rfl
 ·rintro i _ hi hw hI
  refine gm ?_
  have h8:i<os.length:=by omega
  have hd:=yU u8 os i .un h8
  have hs:=zeC (n-i) 0 hI
  rw [show n-i+i=n by omega,Nat.zero_add,show n-i=(n-i-1)+1 by omega,zrZ] at hs
  have hg:os.getD i 0=os[i]:=by rw [List.getD_eq_getElem?_getD,List.getElem?_eq_getElem h8];rfl
  have hle:zqU os set i=(zoH set i&&zoA set os[i]):=by unfold zqU;rw [hg]
  have next:zqU os set i=false→ ∀ j,0≤j→j<0+(i+1)→zqU os set j=false:=fun q j h1 h2=>by
   rcases Nat.lt_or_ge j i with r|r
   ·exact hI j h1 (by omega)
   ·have:j=i:=by omega
    subst this;exact q
  unfold zoH zoA at hle
  generalize os[i]=x at*
  by_cases c1:bits BinOp.and IntKind.u8 (set / 2 ^ min i 8) 1=1
  ·have e1:(bits BinOp.and IntKind.u8 (set / 2 ^ min i 8) 1==1)=true:=by simp [c1]
   by_cases c2:bits BinOp.andNot IntKind.u8 set x=0
   ·have e2:(bits BinOp.andNot IntKind.u8 set x==0)=true:=by simp [c2]
    rw [e1,e2] at hle
    rw [hs,hle]
    refine gf (a7 @hi @hd @h8 @zB @hw @e1 @e2) ?_
    rfl
   ·have e2:(bits BinOp.andNot IntKind.u8 set x==0)=false:=by simp [c2]
    rw [e1,e2] at hle
    refine gf (a7 @hi @hd @h8 @zB @hw @e1 @e2) ?_
    exact ⟨(),next hle,rfl,rfl,rfl⟩
  ·have e1:(bits BinOp.and IntKind.u8 (set / 2 ^ min i 8) 1==1)=false:=by simp [c1]
   rw [e1] at hle
   refine gf (a6 @hi @hd @h8 @zB @hw @e1) ?_
   exact ⟨(),next (by rw [hle];rfl),rfl,rfl,rfl⟩
theorem eB {x b:Nat} (hx:x<256) (hb:b<8):zoH x b=x.testBit b:=by
 unfold zoH
 have e1:(x:Int) / 2 ^ min b 8=((x / 2 ^ b:Nat):Int):=by rw [Nat.min_eq_left (by omega)];norm_cast
 have hlt:x / 2 ^ b<256:=Nat.lt_of_le_of_lt (Nat.div_le_self _ _) hx
 rw [e1,show (1:Int)=((1:Nat):Int) from rfl,u8_and_nat _ _ hlt (by decide),Nat.testBit_eq_decide_div_mod_eq,Nat.and_one_is_mod]
 by_cases h:x / 2 ^ b%2=1
 ·rw [h];simp
 ·rw [decide_eq_false h,beq_eq_false_iff_ne];omega
theorem znR {x y:Nat} (hx:x<256) (hy:y<256) (h:zoA x y=true) {b:Nat} (hb:b<8) (hxb:x.testBit b=true):y.testBit b=true:=by
 unfold zoA at h
 rw [u8_andNot_nat _ _ hx hy,beq_iff_eq] at h
 have h0:x &&& (255-y)=0:=by exact_mod_cast h
 have:=congrArg (fun z=>z.testBit b) h0
 simp only [Nat.testBit_and,Nat.zero_testBit] at this
 rw [hxb,Bool.true_and] at this
 have e:255-y=2 ^ 8-(y+1):=by omega
 rw [e,Nat.testBit_two_pow_sub_succ (by omega)] at this
 simpa [hb] using this
theorem zpC {x:Nat} (hx:x<256):zoA x x=true:=by
 unfold zoA
 rw [u8_andNot_nat _ _ hx hx,beq_iff_eq]
 have:x &&& (255-x)=0:=Nat.eq_of_testBit_eq fun b=>by
  have e:255-x=2 ^ 8-(x+1):=by omega
  rw [Nat.testBit_and,e,Nat.testBit_two_pow_sub_succ (by omega)]
  simp
  exact fun h _=>h
 rw [this];rfl
end Go.AL
namespace Go.AL
open Go.Proofs Go.Proofs.Tryz
@[go_sem] def ULat6f125.pl:Nat→DPlan
 |17=>⟨[yA,yB,yA,yB,yA,yB,yA,yA,yA,yC],xS,0⟩
 |26=>⟨[yB,yA,yA,yA,yA,yC,yA],tV,0⟩
 |34=>⟨[yA,yA,yA,yA,yA,yA,yB,yA,yA,yA,yA,yA,yA,yA,yA,yB,yA,yA,yA,yA,yA,yA,yB,yA,yA,yB,yA,yA,yB,yA,yA,yC,yA,yA],zrK,0⟩
 |_=>⟨[],[],0⟩
@[go_sem] def ULat6f169.pl:Nat→DPlan
 |8=>⟨[yA,yA,yB,yA,yA,yB,yA,yA,yC],uW,0⟩
 |_=>⟨[],[],0⟩
def Ref (n:Nat) (os:List Int):Prop:= ∀ j,j<n→((os.getD j 0).toNat).testBit j=true
theorem Ref.zero {os:List Int}:Ref 0 os:=fun j h=>absurd h (Nat.not_lt_zero _)
def cD (n:Nat):Int:=IntKind.u8.wrap (IntKind.u8.wrap (1*2 ^ min n 8)-1)
def AntI (o:List Int) (a b:Nat):Prop:=a≠b→ ¬(zoH (o.getD a 0) b=true∧zoH (o.getD b 0) a=true)
def OrdOk (n:Nat) (o:List Int):Prop:=Low n o∧Ref n o∧0≤zrI o (cD n) n∧ ∀ a b,a<n→b<n→AntI o a b
def CkX (l:La) (p:PV):Prop:= ∃ (os:List Int) (e:Int),p= .tup [.agg (os.map u8),i64 e]∧os.length=8∧(e=0→1≤l.elems.length∧l.elems.length≤8∧OrdOk l.elems.length os)
theorem zoP {os:List Int} {j i:Nat} {v:Int} (hj:j<os.length):(os.set j v).getD i 0=if i=j then v else os.getD i 0:=by
 rw [List.getD_eq_getElem?_getD,List.getD_eq_getElem?_getD]
 by_cases h:i=j
 ·subst h;rw [if_pos rfl,List.getElem?_set_self hj];rfl
 ·rw [if_neg h,List.getElem?_set_ne (Ne.symm h)]
theorem Ref.set {n m:Nat} {os:List Int} (h:Ref n os) (hm:m≤8) {j:Nat} (hj:j<os.length) {v:Int} (hx:0≤os[j]∧os[j]<2 ^ m) (hv:0≤v∧v<2 ^ m):Ref n (os.set j (bits BinOp.or IntKind.u8 os[j] v)):=fun i hi=>by
 rw [zoP hj]
 by_cases e:i=j
 ·subst e
  rw [if_pos rfl]
  have:=h i hi
  have hg:os.getD i 0=os[i]:=by rw [List.getD_eq_getElem?_getD,List.getElem?_eq_getElem hj];rfl
  rw [hg] at this
  generalize os[i]=x at*
  obtain ⟨a,rfl⟩:=Int.eq_ofNat_of_zero_le hx.1
  obtain ⟨b,rfl⟩:=Int.eq_ofNat_of_zero_le hv.1
  have h8:2 ^ m≤2 ^ 8:=Nat.pow_le_pow_right (by decide) hm
  have ha:a<2 ^ m:=by exact_mod_cast hx.2
  have hb:b<2 ^ m:=by exact_mod_cast hv.2
  rw [u8_or_nat a b (by omega) (by omega),Int.toNat_natCast,Nat.testBit_or]
  rw [Int.toNat_natCast] at this
  rw [this];rfl
 ·rw [if_neg e];exact h i hi
theorem Ref.bit {i:Nat} {os:List Int} (h:Ref i os) (h8:i<8) (hi:i<os.length):Ref (i+1) (os.set i (IntKind.u8.wrap (1*2 ^ min i 8))):=fun j hj=>by
 rw [zoP hi]
 by_cases e:j=i
 ·subst e
  rw [if_pos rfl]
  have hlt:2 ^ j<2 ^ 8:=Nat.pow_lt_pow_right (by decide) h8
  have e1:IntKind.u8.wrap (1*2 ^ min j 8)=((2 ^ j:Nat):Int):=by
   rw [Nat.min_eq_left (by omega),show (1:Int)*2 ^ j=((2 ^ j:Nat):Int) by simp]
   generalize 2 ^ j=x at*
   rw [IntKind.wrap_u8];omega
  rw [e1,Int.toNat_natCast]
  exact Nat.testBit_two_pow_self
 ·rw [if_neg e];exact h j (by omega)
open ULat6f169 in
theorem zp8 (os:List Int) (hos:os.length=8) (n:Nat) (hn:n≤8):EPure prog G0 169 [.agg (os.map u8),i64 n] fun p=> ∃ os':List Int,p= .agg (os'.map u8)∧os'.length=8∧(Low n os∧Ref n os→Low n os'∧Ref n os'):=by
 refine ECall.cut (R:=fun p _=> ∃ os':List Int,p= .agg (os'.map u8)∧os'.length=8∧(Low n os∧Ref n os→Low n os'∧Ref n os')) (pv func169 33 false (by kernel_rfl) rfl rfl ?_) ?_
 refine g2 ?_
 ·refine ge ?_
  refine zO n (K4 (.k:: .d:: .d:: .k:: .v::D9 (D9 (D4 (.d:: .k::[]))))) (own:=false) (fun i (_:List Int)=>[i64 i]) (fun s=>[.var 163 (s.map u8),_]) (fun _ s=>s.length=8∧(Low n os∧Ref n os→Low n s∧Ref n s)) os rfl rfl ⟨hos,id⟩ (by omega) ?_ ?_
  ·rintro s hI
   refine gm ?_
   have ht8:(s.map u8).take 8=s.map u8:=List.take_of_length_le (by simp [hI.1])
   (repeat (first|refine gz ?_|(refine gn ?_;intro zs zh;(try simp only [go_sem,zM,List.length_map,hI.1,ht8] at zh);subst zh;refine gv ?_)|refine yD ULat6f169.pl ?_))
   exact ⟨_,rfl,hI⟩
  ·rintro i s hi hw hI
   refine gm ?_
   refine gf (a3 @hi @zB @hw) ?_
   refine zO n (K4 (.k:: .k:: .d::K4 (.k:: .v::D9 (D9 (.k:: .k::[]))))) (own:=false) (fun i (_:List Int)=>[i64 i]) (fun s=>[.var 163 (s.map u8),_]) (fun _ s=>s.length=8∧(Low n os∧Ref n os→Low n s∧Ref n s)) s rfl rfl hI (by omega) ?_ ?_
   ·rintro s hI
    refine gm ?_
    refine gf (a2 @zM @hw) ?_
    exact ⟨s,hI,rfl,rfl,rfl⟩
   ·rintro j s hj hw2 hI
    refine gm ?_
    obtain ⟨hI1,hI2⟩:=hI
    have h8:i<s.length:=by omega
    have hj8:j<s.length:=by omega
    have hd:=yU u8 s i .un h8
    have hd2:=yU u8 s j .un hj8
    have hs: ∀ v,(s.map u8).take j++u8 v::(s.map u8).drop (j+1)=(s.set j v).map u8:=fun v=>wY u8 s j v hj8
    (repeat' (first|refine gz ?_|(refine gn ?_;intro zs zh;(try simp only [go_sem,hj,zB,hw2,hd,hd2,hs,h8,hj8,Nat.succ_le_of_lt] at zh);subst zh;(first|refine gv ?_|(refine yS (fun he=> ?_) (fun he=> ?_)<;>(try simp only [mM] at he))))|refine yD ULat6f169.pl ?_|((with_reducible refine vY ?_);refine zN rfl rfl rfl ?_;intro sr hsr;simp only [sK,wP] at hsr;subst hsr;(fail_if_success (refine nx ?_));(refine iT (fun he=> ?_) (fun he=> ?_)<;>(intro ts2 hts;simp only [wP] at hts;subst hts;(try simp only [mM] at he))))|((with_reducible refine tO rfl ?_);intro sr hsr;simp only [sK,wP] at hsr;subst hsr;(fail_if_success (with_reducible (first|refine tL ?_|refine tN ?_)));refine tK (fun he=> ?_) (fun he=> ?_)<;>(intro ts2 hts;simp only [wP] at hts;subst hts;(try simp only [mM] at he)))|fail))
    ·exact ⟨_,⟨by simpa using hI1,fun hL=>⟨(hI2 hL).1.set _ (zhH hn ((hI2 hL).1.get j hj8) ((hI2 hL).1.get i h8)),(hI2 hL).2.set hn hj8 ((hI2 hL).1.get j hj8) ((hI2 hL).1.get i h8)⟩⟩,rfl,rfl,rfl⟩
    ·exact ⟨s,⟨hI1,hI2⟩,rfl,rfl,rfl⟩
 ·rintro p h ⟨r,rfl,h1⟩
  exact ⟨r,vE _ _ _ _ (all_map fun _=>rfl),h1⟩
open ULat6f125 in
theorem zrE (l:La) (hl:l.ok):EPure prog G0 125 [.agg l.c] (CkX l):=by
 obtain ⟨hln,hle,hls,hlc⟩:=hl
 refine ECall.cut (R:=fun p _=>CkX l p) (pv func125 159 false (by kernel_rfl) rfl rfl ?_) ?_
 refine g2 ?_
 ·(repeat' (first|refine gz ?_|(refine gn ?_;intro zs zh;(try simp only [go_sem] at zh);subst zh;(first|refine gv ?_|((first|refine zC ((qV _ hln).call zK (by simp) _) ?_|refine zP (by decide) (by decide) ((qV _ hln).call zK (by simp) _) ?_);intro p2 h2 hr2;obtain ⟨hr2,rfl⟩:=hr2;first|obtain ⟨_,rfl,hr2⟩:=hr2|obtain ⟨_,rfl⟩:=hr2|subst hr2|skip)|(refine yS (fun he=> ?_) (fun he=> ?_)<;>(try simp only [mM] at he))))|refine yD ULat6f125.pl ?_|((with_reducible refine vY ?_);refine zN rfl rfl rfl ?_;intro sr hsr;simp only [sK,wP] at hsr;subst hsr;(fail_if_success (refine nx ?_));(refine iT (fun he=> ?_) (fun he=> ?_)<;>(intro ts2 hts;simp only [wP] at hts;subst hts;(try simp only [mM] at he))))|((with_reducible refine tO rfl ?_);intro sr hsr;simp only [sK,wP] at hsr;subst hsr;(fail_if_success (with_reducible (first|refine tL ?_|refine tN ?_)));refine tK (fun he=> ?_) (fun he=> ?_)<;>(intro ts2 hts;simp only [wP] at hts;subst hts;(try simp only [mM] at he)))|fail))
  all_goals try exact ⟨[0,0,0,0,0,0,0,0],1,rfl,rfl,fun h=>by omega⟩
  refine zO l.elems.length (.k:: .k:: .k:: .d:: .k:: .k:: .d:: .d::K9 (K9 (K9 (K4 (.v::D9 (D4 (K9 (K9 (K9 (K9 (K9 (K9 (K9 (K9 (K9 (K9 (K9 (K4 (.k:: .k:: .k::[]))))))))))))))))))) (own:=false) (fun i (_:List Int)=>[i64 i]) (fun s=>[_,_,.var 163 (s.map u8)]) (fun i s=>s.length=8∧Low l.elems.length s∧Ref i s) [0,0,0,0,0,0,0,0] rfl rfl ⟨rfl,zfQ _,Ref.zero⟩ (by omega) ?_ ?_
  ·rintro s ⟨hs8,hsL,hsR⟩
   refine gm ?_
   refine gf @zM ?_
   refine zO l.covers.length (.k:: .k:: .k:: .d::K4 (.k:: .d::K9 (K9 (K9 (K9 (K9 (.k:: .v::D9 (D9 (D9 (.d:: .d::K9 (K9 (K9 (K9 (K9 (K9 (K9 (K9 (.k::[])))))))))))))))))) (own:=false) (fun i (_:List Int×Heap)=>[i64 i]) (fun s=>_::_:: .var 163 (s.1.map u8)::s.2) (fun _ s=>s.1.length=8∧Low l.elems.length s.1∧Ref l.elems.length s.1) (s,[]) rfl rfl ⟨hs8,hsL,hsR⟩ (by omega) ?_ ?_
   ·rintro ⟨s,J⟩ ⟨hs8,hsL,hsR⟩
    refine gm ?_
    dsimp only at hs8 hsL hsR
    refine gf @zM ?_
    refine zO l.elems.length (.k:: .k:: .k:: .d::K4 (.k:: .k:: .d:: .d::K9 (K9 (K9 (K9 (K9 (K9 (K9 (K9 (K4 (.k:: .v::D9 (.d:: .d:: .d::K9 (K9 (K9 (K9 (K9 (K9 (.k:: .k:: .k::[])))))))))))))))))) (own:=false) (fun i (_:Unit)=>[i64 i]) (fun _=>_) (fun _ _=>True) () rfl rfl trivial (by omega) ?_ ?_
    ·rintro _ _
     refine gm ?_
     have ht8:=kK hs8
     refine gf (a2 @zM @ht8) ?_
     (refine g1f @ht8 ?_;refine zC ((zp8 s hs8 l.elems.length (by omega)).call zK (by simp [qM]) _) ?_;intro p2 h2 hr2;refine g2 ?_)
     obtain ⟨⟨o,rfl,ho,hoL⟩,rfl⟩:=hr2
     obtain ⟨hoL,hoR⟩:=hoL ⟨hsL,hsR⟩
     have hdr:(s.map u8).drop 8=[]:=List.drop_eq_nil_of_le (by simp [hs8])
     have ht9:=kK ho
     have hle:=zoT o ho (cD l.elems.length) l.elems.length (by omega)
     unfold cD at hle
     by_cases hb0:zrI o (cD l.elems.length) l.elems.length<0
     ·have e0:decide (zrI o (cD l.elems.length) l.elems.length<0)=true:=by simp [hb0]
      unfold cD at e0
      (repeat (first|refine gz ?_|(refine gn ?_;intro zs zh;(try simp only [go_sem,hdr,List.length_map,ho,hs8,ht9] at zh);subst zh;refine gv ?_)|refine yD ULat6f125.pl ?_))
      (refine zF rfl rfl rfl ?_;intro zs zh;simp only [go_sem,hdr,ht9] at zh;subst zh;refine zP (by decide) (by decide) (hle.call zK (by simp [qM]) _) ?_;intro p2 h2 hr2 ts2 hts;simp only [go_sem] at hts;subst hts)
      obtain ⟨rfl,rfl⟩:=hr2
      (repeat (first|refine gz ?_|(refine gn ?_;intro zs zh;(try simp only [go_sem,hdr,List.length_map,ho,hs8,ht9,e0] at zh);subst zh;refine gv ?_)|refine yD ULat6f125.pl ?_))
      exact ⟨o,30,rfl,ho,fun h=>by omega⟩
     have e0:decide (zrI o (cD l.elems.length) l.elems.length<0)=false:=by simp;omega
     unfold cD at e0
     (repeat (first|refine gz ?_|(refine gn ?_;intro zs zh;(try simp only [go_sem,hdr,List.length_map,ho,hs8,ht9] at zh);subst zh;refine gv ?_)|refine yD ULat6f125.pl ?_))
     (refine zF rfl rfl rfl ?_;intro zs zh;simp only [go_sem,hdr,ht9] at zh;subst zh;refine zP (by decide) (by decide) (hle.call zK (by simp [qM]) _) ?_;intro p2 h2 hr2 ts2 hts;simp only [go_sem] at hts;subst hts)
     obtain ⟨rfl,rfl⟩:=hr2
     (repeat (first|refine gz ?_|(refine gn ?_;intro zs zh;(try simp only [go_sem,hdr,List.length_map,ho,hs8,ht9,e0] at zh);subst zh;refine gv ?_)|refine yD ULat6f125.pl ?_))
     refine zO l.elems.length (.k:: .k:: .k:: .d::K4 (K4 (.d:: .d::K9 (K9 (K9 (K9 (K9 (K9 (K9 (K9 (K9 (K9 (K9 (.k:: .v::D9 (D9 (D9 (D9 (D4 (.d:: .d:: .d:: .k::[]))))))))))))))))))) (own:=false) (fun i (_:Unit)=>[i64 i]) (fun _=>_) (fun i _=> ∀ a b,a<i→b<l.elems.length→AntI o a b) () rfl rfl (fun a b h=>absurd h (Nat.not_lt_zero _)) (by omega) ?_ ?_
     ·rintro _ hI
      refine gm ?_
      (repeat (first|refine gz ?_|(refine gn ?_;intro zs zh;(try simp only [go_sem,zM,ht9,List.length_map,ho,hdr] at zh);subst zh;refine gv ?_)|refine yD ULat6f125.pl ?_))
      exact ⟨o,0,rfl,ho,fun h=>⟨by omega,by omega,hoL,hoR,by omega,hI⟩⟩
     ·rintro i _ hi hw hI
      refine gm ?_
      have hi8:i<o.length:=by omega
      have hdi:=yU u8 o i .un hi8
      have hgi:o.getD i 0=o[i]:=by rw [List.getD_eq_getElem?_getD,List.getElem?_eq_getElem hi8];rfl
      refine gf (a2 @hi @hw) ?_
      refine zO l.elems.length (.k:: .k:: .k:: .d::K9 (.d::K9 (K9 (K9 (K9 (K9 (K9 (K9 (K9 (K9 (K9 (K9 (K4 (.k:: .v::D9 (D9 (D9 (D9 (.d:: .d:: .k:: .k::[])))))))))))))))))) (own:=false) (fun i (_:Unit)=>[i64 i]) (fun _=>_) (fun j _=> ∀ b,b<j→AntI o i b) () rfl rfl (fun b h=>absurd h (Nat.not_lt_zero _)) (by omega) ?_ ?_
      ·rintro _ hJ
       refine gm ?_
       refine gf (a2 @zM @hw) ?_
       refine ⟨(),fun a b ha hb=> ?_,rfl,rfl,rfl⟩
       rcases Nat.lt_or_ge a i with q|q
       ·exact hI a b q hb
       ·have:a=i:=by omega
        subst this;exact hJ b hb
      ·rintro j _ hj hw2 hJ
       refine gm ?_
       have hj8:j<o.length:=by omega
       have hdj:=yU u8 o j .un hj8
       have hgj:o.getD j 0=o[j]:=by rw [List.getD_eq_getElem?_getD,List.getElem?_eq_getElem hj8];rfl
       have next:AntI o i j→ ∀ b,b<j+1→AntI o i b:=fun q b hb=>by
        rcases Nat.lt_or_ge b j with r|r
        ·exact hJ b r
        ·have:b=j:=by omega
         subst this;exact q
       have hant:AntI o i j↔(i≠j→ ¬(bits BinOp.and IntKind.u8 (o[i] / 2 ^ min j 8) 1=1∧bits BinOp.and IntKind.u8 (o[j] / 2 ^ min i 8) 1=1)):=by
        unfold AntI zoH;rw [hgi,hgj];simp
       rw [hant] at next
       (repeat' (first|refine gz ?_|(refine gn ?_;intro zs zh;(try simp only [go_sem,hj,hw2,ht9,List.length_map,ho,hdr,hdi,hdj,zB] at zh);subst zh;(first|refine gv ?_|((first|refine zC ((oC o ho _ l.elems.length (by omega)).call zK (by simp [qM]) _) ?_|refine zP (by decide) (by decide) ((oC o ho _ l.elems.length (by omega)).call zK (by simp [qM]) _) ?_);intro p2 h2 hr2;obtain ⟨hr2,rfl⟩:=hr2;first|obtain ⟨_,rfl,hr2⟩:=hr2|obtain ⟨_,rfl⟩:=hr2|subst hr2|skip)|(refine yS (fun he=> ?_) (fun he=> ?_)<;>(try simp only [mM] at he))))|refine yD ULat6f125.pl ?_|((with_reducible refine vY ?_);refine zN rfl rfl rfl ?_;intro sr hsr;simp only [sK,wP] at hsr;subst hsr;(fail_if_success (refine nx ?_));(refine iT (fun he=> ?_) (fun he=> ?_)<;>(intro ts2 hts;simp only [wP] at hts;subst hts;(try simp only [mM] at he))))|((with_reducible refine tO rfl ?_);intro sr hsr;simp only [sK,wP] at hsr;subst hsr;(fail_if_success (with_reducible (first|refine tL ?_|refine tN ?_)));refine tK (fun he=> ?_) (fun he=> ?_)<;>(intro ts2 hts;simp only [wP] at hts;subst hts;(try simp only [mM] at he)))|fail))
       all_goals first|exact ⟨o,_,rfl,ho,fun h=>by omega⟩|exact ⟨(),next (fun h1 h2=>by first|omega|(obtain ⟨h3,h4⟩:=h2;first|contradiction|omega)),rfl,rfl,rfl⟩|trace_state
    ·rintro i _ hi hw _
     refine gm ?_
     have hx:=zG (f:=fun s:BA=>[yQ s]) [] hi
     have ht8:=kK hs8
     (repeat' (first|refine gz ?_|(refine gn ?_;intro zs zh;(try simp only [go_sem,hi,hx,zB,hw,ht8,hs8,List.length_map,xO] at zh);subst zh;(first|refine gv ?_|((first|refine zC ((wC (l.elems.take i) _ (by rw [List.length_take];omega)).call zK (by simp) _) ?_|refine zP (by decide) (by decide) ((wC (l.elems.take i) _ (by rw [List.length_take];omega)).call zK (by simp) _) ?_);intro p2 h2 hr2;obtain ⟨hr2,rfl⟩:=hr2;first|obtain ⟨_,rfl,hr2⟩:=hr2|obtain ⟨_,rfl⟩:=hr2|subst hr2|skip)|(refine yS (fun he=> ?_) (fun he=> ?_)<;>(try simp only [mM] at he))))|refine yD ULat6f125.pl ?_|((with_reducible refine vY ?_);refine zN rfl rfl rfl ?_;intro sr hsr;simp only [sK,wP] at hsr;subst hsr;(fail_if_success (refine nx ?_));(refine iT (fun he=> ?_) (fun he=> ?_)<;>(intro ts2 hts;simp only [wP] at hts;subst hts;(try simp only [mM] at he))))|((with_reducible refine tO rfl ?_);intro sr hsr;simp only [sK,wP] at hsr;subst hsr;(fail_if_success (with_reducible (first|refine tL ?_|refine tN ?_)));refine tK (fun he=> ?_) (fun he=> ?_)<;>(intro ts2 hts;simp only [wP] at hts;subst hts;(try simp only [mM] at he)))|fail))
     all_goals first|exact ⟨s,_,rfl,hs8,fun h=>by omega⟩|(refine ⟨(),trivial,?_,?_,rfl⟩<;>simp only [zY,xJ,List.tail_cons])|trace_state
   ·rintro i ⟨s,J⟩ hi hw ⟨hs8,hsL,hsR⟩
    refine gm ?_
    dsimp only at hs8 hsL hsR
    have ht8:=kK hs8
    by_cases hc:0≤l.covers[i].1∧0≤l.covers[i].2∧l.covers[i].1<l.elems.length∧l.covers[i].2<l.elems.length
    ·obtain ⟨c1,c2,c3,c4⟩:=hc
     obtain ⟨a,ha⟩:=Int.eq_ofNat_of_zero_le c1
     obtain ⟨b,hb⟩:=Int.eq_ofNat_of_zero_le c2
     have hx:(l.covers.map fun c=>[i64 c.1,i64 c.2]).getD i []=[i64 a,i64 b]:=by rw [zG [] hi,ha,hb]
     rw [ha] at c3;rw [hb] at c4
     have ha8:a<s.length:=by omega
     have hd:=yU u8 s a .un ha8
     have hsp:=zbD ha8
     (repeat' (first|refine gz ?_|(refine gn ?_;intro zs zh;(try simp only [go_sem,hi,hx,zB,hw,ht8,hs8,List.length_map,hd,hsp,zA,zD] at zh);subst zh;(first|refine gv ?_|(refine yS (fun he=> ?_) (fun he=> ?_)<;>(try simp only [mM] at he))))|refine yD ULat6f125.pl ?_|((with_reducible refine vY ?_);refine zN rfl rfl rfl ?_;intro sr hsr;simp only [sK,wP] at hsr;subst hsr;(fail_if_success (refine nx ?_));(refine iT (fun he=> ?_) (fun he=> ?_)<;>(intro ts2 hts;simp only [wP] at hts;subst hts;(try simp only [mM] at he))))|((with_reducible refine tO rfl ?_);intro sr hsr;simp only [sK,wP] at hsr;subst hsr;(fail_if_success (with_reducible (first|refine tL ?_|refine tN ?_)));refine tK (fun he=> ?_) (fun he=> ?_)<;>(intro ts2 hts;simp only [wP] at hts;subst hts;(try simp only [mM] at he)))|fail))
     all_goals first|exact ⟨s,1,rfl,hs8,fun h=>by omega⟩|exact ⟨(_,_),⟨by simpa using hs8,hsL.set _ (zhH (by omega) (hsL.get a ha8) (zbP (by omega) (by omega))),hsR.set (by omega) ha8 (hsL.get a ha8) (zbP (by omega) (by omega))⟩,rfl,rfl,rfl⟩|(exfalso;omega)|(exfalso;split at* <;>omega)
    ·have hx:(l.covers.map fun c=>[i64 c.1,i64 c.2]).getD i []=[i64 l.covers[i].1,i64 l.covers[i].2]:=by rw [zG [] hi]
     generalize l.covers[i].1=a at*
     generalize l.covers[i].2=b at*
     (repeat' (first|refine gz ?_|(refine gn ?_;intro zs zh;(try simp only [go_sem,hi,hx,zB,hw,ht8,hs8,List.length_map,zA,zD] at zh);subst zh;(first|refine gv ?_|(refine yS (fun he=> ?_) (fun he=> ?_)<;>(try simp only [mM] at he))))|refine yD ULat6f125.pl ?_|((with_reducible refine vY ?_);refine zN rfl rfl rfl ?_;intro sr hsr;simp only [sK,wP] at hsr;subst hsr;(fail_if_success (refine nx ?_));(refine iT (fun he=> ?_) (fun he=> ?_)<;>(intro ts2 hts;simp only [wP] at hts;subst hts;(try simp only [mM] at he))))|((with_reducible refine tO rfl ?_);intro sr hsr;simp only [sK,wP] at hsr;subst hsr;(fail_if_success (with_reducible (first|refine tL ?_|refine tN ?_)));refine tK (fun he=> ?_) (fun he=> ?_)<;>(intro ts2 hts;simp only [wP] at hts;subst hts;(try simp only [mM] at he)))|fail))
     all_goals first|exact ⟨s,1,rfl,hs8,fun h=>by omega⟩|exact ⟨(_,_),by simpa using hs8,rfl,rfl,rfl⟩|(exfalso;omega)|(exfalso;split at* <;>omega)
  ·rintro i s hi hw ⟨hs8,hsL,hsR⟩
   refine gm ?_
   have hx:=zG (f:=fun s:BA=>[yQ s]) [] hi
   have ht8:=kK hs8
   have hi8:i<s.length:=by omega
   have hsp:=zbD hi8
   (repeat' (first|refine gz ?_|(refine gn ?_;intro zs zh;(try simp only [go_sem,hi,hx,zB,hw,ht8,hs8,List.length_map,hsp] at zh);subst zh;(first|refine gv ?_|((first|refine zC ((qV _ (hls _ (List.getElem_mem hi))).call zK (by simp) _) ?_|refine zP (by decide) (by decide) ((qV _ (hls _ (List.getElem_mem hi))).call zK (by simp) _) ?_);intro p2 h2 hr2;obtain ⟨hr2,rfl⟩:=hr2;first|obtain ⟨_,rfl,hr2⟩:=hr2|obtain ⟨_,rfl⟩:=hr2|subst hr2|skip)|(refine yS (fun he=> ?_) (fun he=> ?_)<;>(try simp only [mM] at he))))|refine yD ULat6f125.pl ?_|((with_reducible refine vY ?_);refine zN rfl rfl rfl ?_;intro sr hsr;simp only [sK,wP] at hsr;subst hsr;(fail_if_success (refine nx ?_));(refine iT (fun he=> ?_) (fun he=> ?_)<;>(intro ts2 hts;simp only [wP] at hts;subst hts;(try simp only [mM] at he))))|((with_reducible refine tO rfl ?_);intro sr hsr;simp only [sK,wP] at hsr;subst hsr;(fail_if_success (with_reducible (first|refine tL ?_|refine tN ?_)));refine tK (fun he=> ?_) (fun he=> ?_)<;>(intro ts2 hts;simp only [wP] at hts;subst hts;(try simp only [mM] at he)))|fail))
   ·exact ⟨s,1,rfl,hs8,fun h=>by omega⟩
   ·exact ⟨_,⟨by simpa using hs8,hsL.set _ (zbP (by omega) (by omega)),hsR.bit (by omega) hi8⟩,rfl,rfl,rfl⟩
 ·rintro p h ⟨os,e,rfl,h1⟩
  exact ⟨os,e,vE _ _ _ _ (by simp [zU]),h1⟩
end Go.AL
namespace Go.AL
open Go.Proofs Go.Proofs.Tryz
noncomputable def zpR (P:Prop):Bool:= @decide P (Classical.propDecidable P)
noncomputable def jT (l:La):List Int×Int:=open Classical in if h: ∃ r:List Int×Int,EPure prog G0 125 [.agg l.c] (fun p=>p= .tup [.agg (r.1.map u8),i64 r.2])∧r.1.length=8∧(r.2=0→1≤l.elems.length∧l.elems.length≤8∧OrdOk l.elems.length r.1) then Classical.choose h else ([],0)
theorem zbQ (l:La) (hl:l.ok):EPure prog G0 125 [.agg l.c] (fun p=>p= .tup [.agg ((jT l).1.map u8),i64 (jT l).2])∧(jT l).1.length=8∧((jT l).2=0→1≤l.elems.length∧l.elems.length≤8∧OrdOk l.elems.length (jT l).1):=by
 have h: ∃ r:List Int×Int,EPure prog G0 125 [.agg l.c] (fun p=>p= .tup [.agg (r.1.map u8),i64 r.2])∧r.1.length=8∧(r.2=0→1≤l.elems.length∧l.elems.length≤8∧OrdOk l.elems.length r.1):=by
  obtain ⟨p,⟨os,e,rfl,h1,h2⟩,k1,k2⟩:=zrE l hl
  exact ⟨(os,e),⟨_,rfl,k1,k2⟩,h1,h2⟩
 unfold jT
 rw [dif_pos h]
 exact Classical.choose_spec h
noncomputable def uE (l:La):Int:=(jT l).2
theorem zjV (l:La) (hl:l.ok):EPure prog G0 90 [.agg l.c] (fun p=>p=i64 (uE l))∧(uE l=0→1≤l.elems.length∧l.elems.length≤8):=by
 obtain ⟨h1,h2,h3⟩:=zbQ l hl
 refine ⟨?_,fun h=>⟨(h3 h).1,(h3 h).2.1⟩⟩
 refine ECall.cut (R:=fun p _=>p=i64 (uE l)) (pv func90 11 false (by kernel_rfl) rfl rfl ?_) (by rintro p h rfl;rfl)
 refine g2 ?_
 unfold uE
 generalize jT l=o at*
 obtain ⟨os,e⟩:=o
 dsimp only at*
 refine ge ?_
 (refine g1 ?_;refine zC (h1.call zK (by simp [zJ]) _) ?_;intro p2 h2 hr2;refine g2 ?_)
 obtain ⟨rfl,rfl⟩:=hr2
 (repeat (first|refine gz ?_|(refine gn ?_;intro zs zh;(try simp only [go_sem,List.length_map,h2] at zh);subst zh;refine gv ?_)))
 rfl
theorem zq6 (l:La) (hl:l.ok):EPure prog G0 81 [.agg l.c] fun p=>p= .tup [.agg ((jT l).1.map u8),bo (uE l==0)]:=by
 obtain ⟨h1,h2,h3⟩:=zbQ l hl
 refine ECall.cut (R:=fun p _=>p= .tup [.agg ((jT l).1.map u8),bo (uE l==0)]) (pv func81 13 false (by kernel_rfl) rfl rfl ?_) (by rintro p h rfl;exact vE _ _ _ _ (by simp [zU]))
 refine g2 ?_
 unfold uE
 generalize jT l=o at*
 obtain ⟨os,e⟩:=o
 dsimp only at*
 have ht8:=kK h2
 have hdr:(os.map u8).drop 8=[]:=List.drop_eq_nil_of_le (by simp [h2])
 refine ge ?_
 (refine g1 ?_;refine zC (h1.call zK (by simp [zJ]) _) ?_;intro p2 h2 hr2;refine g2 ?_)
 obtain ⟨rfl,rfl⟩:=hr2
 (repeat (first|refine gz ?_|(refine gn ?_;intro zs zh;(try simp only [go_sem,ht8,hdr,List.length_map,h2] at zh);subst zh;refine gv ?_)))
 rfl
def zr0 (l:La) (xs:List Int):Prop:= ∀ x∈xs,0≤x∧x<(l.elems.length:Int)
theorem zp1 (l:La) (hl:l.ok) (xs:List Int) (hx:xs.length≤140737488355328):EPure prog G0 82 [.agg l.c,vF xs] fun v=>v=bo (zpR (zr0 l xs)):=by
 refine ECall.cut (R:=fun v _=>v=bo (zpR (zr0 l xs))) (pv func82 23 false (by kernel_rfl) rfl rfl ?_) (by rintro p h rfl;rfl)
 refine g2 ?_
 refine ge ?_
 refine zO xs.length (K4 (.d:: .k:: .d:: .k:: .k:: .v::D9 (D4 ([])))) (own:=false) (fun i (_:Unit)=>[i64 i]) (fun _=>_) (fun i _=> ∀ j (h:j<i) (h2:j<xs.length),0≤xs[j]∧xs[j]<l.elems.length) () rfl rfl (by intro j h;omega) hx ?_ ?_
 ·rintro _ hI
  refine gm ?_
  have hin:zr0 l xs:=fun x hx=>by
   obtain ⟨j,hj,rfl⟩:=List.getElem_of_mem hx
   exact hI j hj hj
  have e:zpR (zr0 l xs)=true:= @decide_eq_true _ (Classical.propDecidable _) hin
  rw [e]
  refine gf @zM ?_
  rfl
 ·rintro i _ hi hw hI
  refine gm ?_
  have hg:=zG (f:=fun n:Int=>[i64 n]) [] hi
  have no: ¬(0≤xs[i]∧xs[i]<l.elems.length)→zpR (zr0 l xs)=false:=fun h=> @decide_eq_false _ (Classical.propDecidable _) fun k=>h (k _ (List.getElem_mem hi))
  have next:(0≤xs[i]∧xs[i]<l.elems.length)→ ∀ j (h:j<i+1) (h2:j<xs.length),0≤xs[j]∧xs[j]<l.elems.length:=fun q j hj h2=>by
   rcases Nat.lt_or_ge j i with h|h
   ·exact hI j h h2
   ·have:j=i:=by omega
    subst this;exact q
  clear hI
  generalize xs[i]=x at*
  by_cases c1:x<0
  ·have e1:decide (x<0)=true:=by simp [c1]
   rw [no (by omega)]
   refine gf (a5 @hi @hw @hg @zB @e1) ?_
   rfl
  ·have e1:decide (x<0)=false:=by simp [c1]
   by_cases c2:(l.elems.length:Int)≤x
   ·have e2:decide ((l.elems.length:Int)≤x)=true:=by simp [c2]
    rw [no (by omega)]
    refine gf (a6 @hi @hw @hg @zB @e1 @e2) ?_
    rfl
   ·have e2:decide ((l.elems.length:Int)≤x)=false:=by simp [c2]
    refine gf (a6 @hi @hw @hg @zB @e1 @e2) ?_
    exact ⟨(),next (by omega),rfl,rfl,rfl⟩
def upF (o:List Int) (n:Nat) (xs:List Int):Int:=xs.foldl (fun u x=>bits BinOp.and IntKind.u8 u (o.getD x.toNat 0)) (cD n)
noncomputable def zo6 (l:La) (xs:List Int):Int:=open Classical in if uE l=0∧zr0 l xs then zrI (jT l).1 (upF (jT l).1 l.elems.length xs) l.elems.length else -1
theorem zrJ (l:La) (hl:l.ok) (xs:List Int) (hx:xs.length≤140737488355328):EPure prog G0 56 [.agg l.c,vF xs] fun v=>v=i64 (zo6 l xs):=by
 refine ECall.cut (R:=fun v _=>v=i64 (zo6 l xs)) (pv func56 46 false (by kernel_rfl) rfl rfl ?_) (by rintro p h rfl;rfl)
 refine g2 ?_
 have hof:=zq6 l hl
 have hck:=zjV l hl
 obtain ⟨-,hos, -⟩:=zbQ l hl
 obtain ⟨os,hoe⟩: ∃ os,(jT l).1=os:=⟨_,rfl⟩
 unfold zo6
 rw [hoe] at hos hof ⊢
 have ht8:=kK hos
 have hdr:(os.map u8).drop 8=[]:=List.drop_eq_nil_of_le (by simp [hos])
 refine ge ?_
 (refine g1 ?_;refine zC (hof.call zK (by simp [zJ]) _) ?_;intro p2 h2 hr2;refine g2 ?_)
 obtain ⟨rfl,rfl⟩:=hr2
 by_cases hc:uE l=0
 case neg=>
  rw [beq_eq_false_iff_ne.2 hc,if_neg (fun k=>hc k.1)]
  (repeat (first|refine gz ?_|(refine gn ?_;intro zs zh;(try simp only [go_sem,List.length_map,hos,hdr] at zh);subst zh;refine gv ?_)))
  rfl
 rw [beq_iff_eq.2 hc]
 obtain ⟨hn1,hn8⟩:=hck.2 hc
 (repeat (first|refine gz ?_|(refine gn ?_;intro zs zh;(try simp only [go_sem,List.length_map,hos,hdr] at zh);subst zh;refine gv ?_)))
 (refine g1 ?_;refine zC ((zp1 l hl xs hx).call zK (by simp [zJ]) _) ?_;intro p2 h2 hr2;refine g2 ?_)
 obtain ⟨rfl,rfl⟩:=hr2
 by_cases hin:zr0 l xs
 case neg=>
  have e:zpR (zr0 l xs)=false:= @decide_eq_false _ (Classical.propDecidable _) hin
  rw [e,if_neg (fun k=>hin k.2)]
  refine ge ?_
  rfl
 have e:zpR (zr0 l xs)=true:= @decide_eq_true _ (Classical.propDecidable _) hin
 rw [e,if_pos ⟨hc,hin⟩]
 refine ge ?_
 refine zO xs.length (K4 (.k:: .k:: .k:: .v:: .k:: .d::K9 (K9 (.k:: .k:: .v::D9 (K4 (.k:: .k::[])))))) (own:=false) (fun i (u:Int)=>[u8 u,i64 i]) (fun _=>_) (fun i u=>u=upF os l.elems.length (xs.take i)) _ rfl rfl rfl hx ?_ ?_
 ·rintro u rfl
  refine gm ?_
  rw [List.take_length]
  refine gf (a2 @zM @ht8) ?_
  (refine g1f @ht8 ?_;refine zC ((zoT os hos _ l.elems.length hn8).call zK (by simp [qM]) _) ?_;intro p2 h2 hr2;refine g2 ?_)
  obtain ⟨rfl,rfl⟩:=hr2
  refine ge ?_
  rfl
 ·rintro i u hi hw hI
  refine gm ?_
  obtain ⟨h1,h2⟩:=hin _ (List.getElem_mem hi)
  obtain ⟨m,hm⟩:=Int.eq_ofNat_of_zero_le h1
  have hg:(xs.map fun n:Int=>[i64 n]).getD i []=[i64 m]:=by rw [zG [] hi,hm]
  have hm8:m<os.length:=by omega
  have hd:=yU u8 os m .un hm8
  have hgm:os.getD m 0=os[m]:=by rw [List.getD_eq_getElem?_getD,List.getElem?_eq_getElem hm8];rfl
  have hst:upF os l.elems.length (xs.take (i+1))=bits BinOp.and IntKind.u8 u os[m]:=by
   unfold upF at hI ⊢
   rw [List.take_succ_eq_append_getElem hi,List.foldl_append, ←hI,List.foldl_cons,List.foldl_nil,hm,Int.toNat_natCast,hgm]
  refine gf (a5 @hi @hw @hg @zB @hd) ?_
  exact ⟨_,hst.symm,rfl,rfl,rfl⟩
noncomputable def oU (l:La):Int:=zo6 l []
noncomputable def zpP (l:La) (a b:Int):Int:=zo6 l [a,b]
theorem zj7 (l:La) (hl:l.ok):EPure prog G0 25 [.agg l.c] fun p=>p=i64 (oU l):=by
 refine ECall.cut (R:=fun v _=>v=i64 (oU l)) (pv func25 5 false (by kernel_rfl) rfl rfl ?_) (by rintro p h rfl;rfl)
 refine g2 ?_
 refine ge ?_
 (refine g1 ?_;refine zC (((zrJ l hl [] (by simp)).args (.cons (PLe.refl _) (.cons (PLe.nil_ts 1) .nil))).call zK (by simp [zJ,cJ]) _) ?_;intro p2 h2 hr2;refine g2 ?_)
 obtain ⟨rfl,rfl⟩:=hr2
 refine ge ?_
 rfl
theorem zrU (l:La) (hl:l.ok) (a b:Int):EPure prog G0 135 [.agg l.c,i64 a,i64 b] fun p=>p=i64 (zpP l a b):=by
 refine ECall.cut (R:=fun v _=>v=i64 (zpP l a b)) (pv func135 12 false (by kernel_rfl) rfl rfl ?_) (by rintro p h rfl;rfl)
 refine g2 ?_
 refine ge ?_
 (refine g1 ?_;refine zC (((zrJ l hl [a,b] (by simp)).args (.cons (PLe.refl _) (.cons (PLe.tc_ts 1 _) .nil))).call zK (by simp [zJ,oM]) _) ?_;intro p2 h2 hr2;refine g2 ?_)
 obtain ⟨rfl,rfl⟩:=hr2
 refine ge ?_
 rfl
theorem zp5 {n:Nat} (h1:1≤n) (h:n≤8):cD n=((2 ^ n-1:Nat):Int):=by
 unfold cD
 match n,h1,h with
 |1,_,_=>decide
 |2,_,_=>decide
 |3,_,_=>decide
 |4,_,_=>decide
 |5,_,_=>decide
 |6,_,_=>decide
 |7,_,_=>decide
 |8,_,_=>decide
theorem Low.nat {n:Nat} (hn:n≤8) {o:List Int} (h:Low n o) (hl:o.length=8) {i:Nat} (hi:i<8): ∃ x:Nat,o.getD i 0=x∧x<2 ^ n∧x<256:=by
 have hg:o.getD i 0=o[i]:=by rw [List.getD_eq_getElem?_getD,List.getElem?_eq_getElem (by omega)];rfl
 obtain ⟨h1,h2⟩:=h _ (List.getElem_mem (show i<o.length by omega))
 obtain ⟨x,hx⟩:=Int.eq_ofNat_of_zero_le h1
 have h8:2 ^ n≤2 ^ 8:=Nat.pow_le_pow_right (by decide) hn
 rw [hx] at h2
 have h3:x<2 ^ n:=by exact_mod_cast h2
 exact ⟨x,by rw [hg,hx],h3,by omega⟩
theorem zqB (l:La) (hl:l.ok) (hc:uE l=0):(0≤oU l∧oU l<(l.elems.length:Int))∧ ∀ e:Int,0≤e→e<(l.elems.length:Int)→zpP l (oU l) e=e:=by
 obtain ⟨-,hos,h3⟩:=zbQ l hl
 obtain ⟨hn1,hn8,hL,hR,h0,hA⟩:=h3 hc
 have hbe:oU l=zrI (jT l).1 (cD l.elems.length) l.elems.length:=by
  unfold oU zo6
  rw [if_pos ⟨hc,by intro x hx;cases hx⟩];rfl
 rw [←hbe] at h0
 have hb: ∃ bt:Nat,oU l=bt∧bt<l.elems.length∧zqU (jT l).1 (cD l.elems.length) bt=true:=by
  rcases zoJ (c:=zqU (jT l).1 (cD l.elems.length)) (f:=l.elems.length) (i:=0) with ⟨q,_⟩|⟨a,q,_,q2,q3⟩
  ·exfalso;rw [hbe] at h0;unfold zrI at h0;omega
  ·exact ⟨a,by rw [hbe];exact q,by omega,q3⟩
 obtain ⟨bt,hb1,hb2,hb3⟩:=hb
 refine ⟨by omega,fun e he1 he2=> ?_⟩
 obtain ⟨k,rfl⟩:=Int.eq_ofNat_of_zero_le he1
 have hk:k<l.elems.length:=by omega
 obtain ⟨o,ho⟩: ∃ o,(jT l).1=o:=⟨_,rfl⟩
 obtain ⟨n,hn⟩: ∃ n,l.elems.length=n:=⟨_,rfl⟩
 have hj:zpP l (oU l) (k:Int)=zrI o (upF o n [oU l,(k:Int)]) n:=by
  unfold zpP zo6
  rw [if_pos ⟨hc,fun x hx=>by
   simp only [List.mem_cons,List.not_mem_nil,or_false] at hx
   rcases hx with rfl|rfl<;>omega⟩,ho,hn]
 rw [ho,hn] at hb3
 rw [hn] at hb2 hk hn1 hn8
 rw [ho,hn] at hL hR hA
 rw [ho] at hos
 obtain ⟨x,hx,hx1,hx2⟩:=hL.nat hn8 hos (show bt<8 by omega)
 obtain ⟨y,hy,hy1,hy2⟩:=hL.nat hn8 hos (show k<8 by omega)
 have hful:=zp5 hn1 hn8
 have hfl:(2 ^ n-1:Nat)<256:=by
  have:2 ^ n≤2 ^ 8:=Nat.pow_le_pow_right (by decide) hn8
  have:=Nat.two_pow_pos n
  omega
 have hup:upF o n [oU l,(k:Int)]=(y:Int):=by
  unfold upF
  simp only [List.foldl_cons,List.foldl_nil]
  rw [hb1,Int.toNat_natCast,Int.toNat_natCast,hx,hy,hful,u8_and_nat _ _ hfl hx2,u8_and_nat _ _ (Nat.lt_of_le_of_lt Nat.and_le_left hfl) hy2]
  congr 1
  refine Nat.eq_of_testBit_eq fun b=> ?_
  rw [Nat.testBit_and,Nat.testBit_and,Nat.testBit_two_pow_sub_one]
  cases hyb:y.testBit b with
  |false=>simp
  | true=>
   have hbn:b<n:=by
    rcases Nat.lt_or_ge b n with q|q
    ·exact q
    ·rw [Nat.testBit_lt_two_pow (Nat.lt_of_lt_of_le hy1 (Nat.pow_le_pow_right (by decide) q))] at hyb;cases hyb
   have hsub:zoA (cD n) (o.getD bt 0)=true:=by
    unfold zqU at hb3
    exact (Bool.and_eq_true _ _▸hb3).2
   rw [hful,hx] at hsub
   have hxb:=znR hfl hx2 hsub (show b<8 by omega) (by rw [Nat.testBit_two_pow_sub_one];exact decide_eq_true hbn)
   rw [hxb];simp [hbn]
 rw [hj,hup]
 unfold zrI
 have hyk:y.testBit k=true:=by
  have:=hR k hk
  rw [hy,Int.toNat_natCast] at this;exact this
 have hck:zqU o (y:Int) k=true:=by
  unfold zqU
  rw [hy,eB hy2 (by omega),hyk,zpC hy2];rfl
 rcases zoJ (c:=zqU o (y:Int)) (f:=n) (i:=0) with ⟨_,q⟩|⟨a,q,_,q2,q3⟩
 ·exact absurd (q k (Nat.zero_le _) (by omega)) (by rw [hck];simp)
 ·rw [q]
  have han:a<n:=by omega
  obtain ⟨z,hz,hz1,hz2⟩:=hL.nat hn8 hos (show a<8 by omega)
  unfold zqU at q3
  rw [hz,eB hy2 (by omega)] at q3
  obtain ⟨q4,q5⟩:=(Bool.and_eq_true _ _▸q3:y.testBit a=true∧zoA (y:Int) (z:Int)=true)
  have hzk:=znR hy2 hz2 q5 (show k<8 by omega) hyk
  by_cases hak:a=k
  ·rw [hak]
  ·exfalso
   refine hA a k han hk hak ⟨?_,?_⟩
   ·rw [hz,eB hz2 (by omega)];exact hzk
   ·rw [hy,eB hy2 (by omega)];exact q4
end Go.AL
