/-
  Relations: a canonical list is its own canonical list.
-/
import Derived.Test.YtcffidhiaihbkaaGreatDoorX35
set_option linter.unusedSimpArgs false
set_option linter.unusedVariables false
set_option maxRecDepth 100000
set_option maxHeartbeats 4000000
namespace Go.AL
instance:DecidableEq Sp:=fun x y=>decidable_of_iff (x.a=y.a∧x.b=y.b) (by cases x;cases y;simp)
def zo3 (n:Int):Nat:=if n≤0 then 0 else if 64≤n then 2 ^ 64-1 else 2 ^ n.toNat-1
def zo2 (s:Sp):Nat:=zo3 s.b &&& (2 ^ 64-1-zo3 s.a)
def uQ (l:List Sp):Nat:=l.foldl (fun w s=>w ||| zo2 s) 0
def xT (s:Sp) (m:Nat):Bool:=decide (m<64∧s.a≤(m:Int)∧(m:Int)<s.b)
theorem zoL (n:Int):zo3 n<2 ^ 64:=by
 unfold zo3
 split
 ·exact Nat.two_pow_pos 64
 ·split
  ·exact Nat.sub_lt (Nat.two_pow_pos 64) Nat.zero_lt_one
  ·have:2 ^ n.toNat≤2 ^ 64:=Nat.pow_le_pow_right (by decide) (by omega)
   have:=Nat.two_pow_pos n.toNat
   omega
theorem zo0 (n:Int) (m:Nat):(zo3 n).testBit m=decide (m<64∧(m:Int)<n):=by
 unfold zo3
 split
 ·rw [Nat.zero_testBit];symm;rw [decide_eq_false_iff_not];omega
 ·split
  ·rw [Nat.testBit_two_pow_sub_one];congr 1;apply propext;omega
  ·rw [Nat.testBit_two_pow_sub_one];congr 1;apply propext;omega
theorem ziX {x:Nat} (hx:x<2 ^ 64) (m:Nat):(2 ^ 64-1-x).testBit m=(decide (m<64)&& !x.testBit m):=by
 have:=Nat.testBit_two_pow_sub_succ hx m
 rw [←this];congr 1;omega
theorem zqY (s:Sp) (m:Nat):(zo2 s).testBit m=xT s m:=by
 unfold zo2 xT
 rw [Nat.testBit_and,zo0,ziX (zoL _),zo0]
 by_cases h1:m<64<;>by_cases h2:(m:Int)<s.b<;>by_cases h3:(m:Int)<s.a<;>simp [h1,h2,h3]<;>omega
theorem zoI (s:Sp):zo2 s<2 ^ 64:=by
 unfold zo2
 exact Nat.and_lt_two_pow _ (by have:=Nat.two_pow_pos 64;omega)
theorem zfJ: ∀ (l:List Sp) (w m:Nat),(l.foldl (fun w s=>w ||| zo2 s) w).testBit m=(w.testBit m||l.any fun s=>xT s m)
 | [],w,m=>by simp
 |s::l,w,m=>by rw [List.foldl_cons,zfJ l,Nat.testBit_or,zqY,List.any_cons,Bool.or_assoc]
theorem zoQ (l:List Sp) (m:Nat):(uQ l).testBit m=l.any fun s=>xT s m:=by
 unfold uQ;rw [zfJ];simp
theorem gS: ∀ (l:List Sp) (w:Nat),w<2 ^ 64→l.foldl (fun w s=>w ||| zo2 s) w<2 ^ 64
 | [],w,h=>h
 |s::l,w,h=>gS l _ (Nat.or_lt_two_pow h (zoI s))
theorem wB (l:List Sp):uQ l<2 ^ 64:=gS l 0 (Nat.two_pow_pos 64)
def zaP (w:Nat):Nat→Nat→List Sp
 |0,_=>[]
 | f+1,a=>if w / 2 ^ a=0 then [] else
  ⟨((a+Go.Lib.ctz 64 (w / 2 ^ a):Nat):Int),((a+Go.Lib.ctz 64 (w / 2 ^ a)+Go.Lib.ctz 64 (2 ^ 64-1-w / 2 ^ (a+Go.Lib.ctz 64 (w / 2 ^ a))):Nat):Int)⟩::
   if a+Go.Lib.ctz 64 (w / 2 ^ a)+Go.Lib.ctz 64 (2 ^ 64-1-w / 2 ^ (a+Go.Lib.ctz 64 (w / 2 ^ a)))=64 then [] else zaP w f (a+Go.Lib.ctz 64 (w / 2 ^ a)+Go.Lib.ctz 64 (2 ^ 64-1-w / 2 ^ (a+Go.Lib.ctz 64 (w / 2 ^ a))))
def yW (w:Nat):List Sp:=zaP w 65 0
def SpF:Int→List Sp→Prop
 |_,[]=>True
 |lo,s::l=>lo≤s.a∧s.a<s.b∧s.b≤64∧SpF (s.b+1) l
abbrev SpC (l:List Sp):Prop:=SpF 0 l
theorem SpF.weak {lo lo':Int} (h:lo'≤lo): ∀ {l:List Sp},SpF lo l→SpF lo' l
 | [],_=>trivial
 |s::l,⟨a,b,c,d⟩=>⟨by omega,b,c,d⟩
theorem zdC (w a j:Nat):(w / 2 ^ a).testBit j=w.testBit (a+j):=by
 rw [Nat.testBit_div_two_pow,Nat.add_comm]
theorem zlO (y:Nat):2 ^ 64-1-y<2 ^ 64:=Nat.lt_of_le_of_lt (Nat.sub_le _ _) (Nat.sub_lt (Nat.two_pow_pos 64) Nat.zero_lt_one)
theorem zq2 (k m:Nat):(2 ^ k*(2*m+1)).testBit k=true∧ ∀ j,j<k→(2 ^ k*(2*m+1)).testBit j=false:=by
 constructor
 ·rw [Nat.testBit_two_pow_mul];simp [Nat.testBit_zero]
 ·intro j hj
  rw [Nat.testBit_two_pow_mul];simp;omega
theorem zjM {x:Nat} (h0:x≠0) (h:x<2 ^ 64):x.testBit (Go.Lib.ctz 64 x)=true∧ ∀ j,j<Go.Lib.ctz 64 x→x.testBit j=false:=by
 obtain ⟨m,hm, -⟩:=bH x h0 h
 generalize Go.Lib.ctz 64 x=k at*
 rw [hm];exact zq2 k m
theorem zo9 {w a:Nat} (h:w / 2 ^ a=0) {m:Nat} (hm:a≤m):w.testBit m=false:=by
 have:=zdC w a (m-a)
 rw [h,Nat.zero_testBit,Nat.add_sub_cancel' hm] at this
 exact this.symm
theorem zdM (w:Nat) (hw:w<2 ^ 64): ∀ (f a:Nat),64-a<f→a<64→
  SpF a (zaP w f a)∧(w.testBit a=false→SpF (a+1) (zaP w f a))∧ ∀ m,a≤m→((zaP w f a).any fun s=>xT s m)=w.testBit m
 |0,a,h,_=>by omega
 | f +1,a,h,ha=>by
  unfold zaP
  by_cases hx:w / 2 ^ a=0
  ·rw [if_pos hx]
   refine ⟨trivial,fun _=>trivial,fun m hm=> ?_⟩
   rw [zo9 hx hm];rfl
  ·rw [if_neg hx]
   obtain ⟨s1,s2,s3,s4⟩:=zc8 w a hw ha hx
   have hx64:w / 2 ^ a<2 ^ 64:=Nat.lt_of_le_of_lt (Nat.div_le_self _ _) hw
   obtain ⟨c1,c2⟩:=zjM hx hx64
   generalize Go.Lib.ctz 64 (w / 2 ^ a)=k at*
   rw [zdC] at c1
   have c2': ∀ m,a≤m→m<a+k→w.testBit m=false:=fun m h1 h2=>by
    have:=c2 (m-a) (by omega)
    rw [zdC,Nat.add_sub_cancel' h1] at this
    exact this
   have hz: ∀ j,(2 ^ 64-1-w / 2 ^ (a+k)).testBit j=(decide (j<64)&& !w.testBit (a+k+j)):=fun j=>by rw [ziX s2,zdC]
   have d1: ∀ m,a+k≤m→m<a+k+Go.Lib.ctz 64 (2 ^ 64-1-w / 2 ^ (a+k))→w.testBit m=true:=fun m h1 h2=>by
    by_cases h0:2 ^ 64-1-w / 2 ^ (a+k)=0
    ·have:=hz (m-(a+k))
     rw [h0,Nat.zero_testBit,Nat.add_sub_cancel' h1] at this
     have hm:m-(a+k)<64:=by omega
     simpa [hm] using this.symm
    ·obtain ⟨-,e2⟩:=zjM h0 (zlO _)
     have:=e2 (m-(a+k)) (by omega)
     rw [hz,Nat.add_sub_cancel' h1] at this
     have hm:m-(a+k)<64:=by omega
     simpa [hm] using this
   have d2:a+k+Go.Lib.ctz 64 (2 ^ 64-1-w / 2 ^ (a+k))<64→w.testBit (a+k+Go.Lib.ctz 64 (2 ^ 64-1-w / 2 ^ (a+k)))=false:=fun h1=>by
    by_cases h0:2 ^ 64-1-w / 2 ^ (a+k)=0
    ·exfalso
     rw [h0] at h1
     have e:Go.Lib.ctz 64 0=64:=rfl
     omega
    ·obtain ⟨e1, -⟩:=zjM h0 (zlO _)
     rw [hz] at e1
     have:=(Bool.and_eq_true _ _▸e1).2
     simpa using this
   generalize Go.Lib.ctz 64 (2 ^ 64-1-w / 2 ^ (a+k))=j at*
   have hlow: ∀ m:Nat,m<a+k+j→ ∀ {l:List Sp},SpF ((a+k+j:Nat):Int) l→(l.any fun s=>xT s m)=false:=fun m hm l hl=>by
    induction l with
    |nil=>rfl
    |cons s l ih=>
     obtain ⟨q1,q2,q3,q4⟩:=hl
     rw [List.any_cons,ih (SpF.weak (by omega) q4)]
     unfold xT;simp;omega
   by_cases h64:a+k+j=64
   ·rw [if_pos h64]
    refine ⟨⟨by dsimp only;omega,by dsimp only;omega,by dsimp only;omega,trivial⟩,fun hb=>⟨?_,by dsimp only;omega,by dsimp only;omega,trivial⟩,fun m hm=> ?_⟩
    ·rcases Nat.eq_zero_or_pos k with h0|h0
     ·subst h0;rw [Nat.add_zero] at c1;rw [c1] at hb;cases hb
     ·dsimp only;omega
    ·rw [List.any_cons,List.any_nil,Bool.or_false]
     unfold xT
     by_cases h1:m<a+k
     ·rw [c2' m hm h1,decide_eq_false_iff_not];dsimp only;omega
     ·by_cases h2:m<a+k+j
      ·rw [d1 m (by omega) h2,decide_eq_true_eq];dsimp only;omega
      ·rw [Nat.testBit_lt_two_pow (Nat.lt_of_lt_of_le hw (Nat.pow_le_pow_right (by decide) (by omega))),decide_eq_false_iff_not];dsimp only;omega
   ·rw [if_neg h64]
    obtain ⟨r1,r2,r3⟩:=zdM w hw f (a+k+j) (by omega) (by omega)
    have r2:=r2 (d2 (by omega))
    refine ⟨⟨by dsimp only;omega,by dsimp only;omega,by dsimp only;omega,?_⟩,fun hb=>⟨?_,by dsimp only;omega,by dsimp only;omega,?_⟩,fun m hm=> ?_⟩
    ·exact r2
    ·rcases Nat.eq_zero_or_pos k with h0|h0
     ·subst h0;rw [Nat.add_zero] at c1;rw [c1] at hb;cases hb
     ·dsimp only;omega
    ·exact r2
    ·rw [List.any_cons]
     by_cases h3:a+k+j≤m
     ·rw [r3 m h3]
      have:xT ⟨((a+k:Nat):Int),((a+k+j:Nat):Int)⟩ m=false:=by unfold xT;rw [decide_eq_false_iff_not];dsimp only;omega
      rw [this,Bool.false_or]
     ·rw [hlow m (by omega) r1,Bool.or_false]
      unfold xT
      by_cases h1:m<a+k
      ·rw [c2' m hm h1,decide_eq_false_iff_not];dsimp only;omega
      ·rw [d1 m (by omega) (by omega),decide_eq_true_eq];dsimp only;omega
theorem qS {w:Nat} (hw:w<2 ^ 64):SpC (yW w)∧ ∀ m,((yW w).any fun s=>xT s m)=w.testBit m:=by
 obtain ⟨h1, -,h3⟩:=zdM w hw 65 0 (by omega) (by omega)
 exact ⟨h1,fun m=>h3 m (Nat.zero_le m)⟩
theorem zfI {w:Nat} (hw:w<2 ^ 64):uQ (yW w)=w:=Nat.eq_of_testBit_eq fun m=>by
 rw [zoQ];exact (qS hw).2 m
theorem SpF.low {lo:Int}: ∀ {l:List Sp},SpF lo l→ ∀ m:Nat,(m:Int)<lo→(l.any fun s=>xT s m)=false
 | [],_,m,_=>rfl
 |s::l,⟨a,b,c,d⟩,m,h=>by
  rw [List.any_cons,SpF.low d m (by omega)]
  unfold xT;simp;omega
theorem SpF.uniq: ∀ {l l':List Sp} {lo lo':Int},0≤lo→0≤lo'→SpF lo l→SpF lo' l'→(∀ m:Nat,(l.any fun s=>xT s m)=l'.any fun s=>xT s m)→l=l'
 | [],[],_,_,_,_,_,_,_=>rfl
 | [],s::l',lo,lo',_,h0,_,⟨a,b,c,d⟩,k=>by
  exfalso
  have:=k s.a.toNat
  rw [List.any_nil,List.any_cons] at this
  have e:xT s s.a.toNat=true:=by unfold xT;rw [decide_eq_true_eq];omega
  rw [e,Bool.true_or] at this;cases this
 |s::l,[],lo,lo',h0,_,⟨a,b,c,d⟩,_,k=>by
  exfalso
  have:=k s.a.toNat
  rw [List.any_nil,List.any_cons] at this
  have e:xT s s.a.toNat=true:=by unfold xT;rw [decide_eq_true_eq];omega
  rw [e,Bool.true_or] at this;cases this
 | s::l,s'::l',lo,lo',h0,h0',⟨a,b,c,d⟩,⟨a',b',c',d'⟩,k=>by
  have hin: ∀ m:Nat,(m:Int)≤s.b→((s::l).any fun s=>xT s m)=xT s m:=fun m hm=>by
   rw [List.any_cons,d.low m (by omega),Bool.or_false]
  have hin': ∀ m:Nat,(m:Int)≤s'.b→((s'::l').any fun s=>xT s m)=xT s' m:=fun m hm=>by
   rw [List.any_cons,d'.low m (by omega),Bool.or_false]
  have ea:s.a=s'.a:=by
   rcases Int.lt_trichotomy s.a s'.a with h|h|h
   ·exfalso
    have:=k s.a.toNat
    rw [hin _ (by omega),hin' _ (by omega)] at this
    have e:xT s s.a.toNat=true:=by unfold xT;rw [decide_eq_true_eq];omega
    have e':xT s' s.a.toNat=false:=by unfold xT;rw [decide_eq_false_iff_not];omega
    rw [e,e'] at this;cases this
   ·exact h
   ·exfalso
    have:=k s'.a.toNat
    rw [hin _ (by omega),hin' _ (by omega)] at this
    have e:xT s' s'.a.toNat=true:=by unfold xT;rw [decide_eq_true_eq];omega
    have e':xT s s'.a.toNat=false:=by unfold xT;rw [decide_eq_false_iff_not];omega
    rw [e,e'] at this;cases this
  have eb:s.b=s'.b:=by
   rcases Int.lt_trichotomy s.b s'.b with h|h|h
   ·exfalso
    have:=k s.b.toNat
    rw [hin _ (by omega),hin' _ (by omega)] at this
    have e:xT s s.b.toNat=false:=by unfold xT;rw [decide_eq_false_iff_not];omega
    have e':xT s' s.b.toNat=true:=by unfold xT;rw [decide_eq_true_eq];omega
    rw [e,e'] at this;cases this
   ·exact h
   ·exfalso
    have:=k s'.b.toNat
    rw [hin _ (by omega),hin' _ (by omega)] at this
    have e:xT s s'.b.toNat=true:=by unfold xT;rw [decide_eq_true_eq];omega
    have e':xT s' s'.b.toNat=false:=by unfold xT;rw [decide_eq_false_iff_not];omega
    rw [e,e'] at this;cases this
  have es:s=s':=by cases s;cases s';simp_all
  subst es
  rw [SpF.uniq (lo:=s.b+1) (lo':=s.b+1) (by omega) (by omega) d d' fun m=> ?_]
  have:=k m
  rw [List.any_cons,List.any_cons] at this
  by_cases hm:(m:Int)≤s.b
  ·rw [d.low m (by omega),d'.low m (by omega)]
  ·have e:xT s m=false:=by unfold xT;rw [decide_eq_false_iff_not];omega
   rw [e,Bool.false_or,Bool.false_or] at this
   exact this
theorem sT {l:List Sp} (h:SpC l):yW (uQ l)=l:=by
 obtain ⟨h1,h2⟩:=qS (wB l)
 refine SpF.uniq (Int.le_refl 0) (Int.le_refl 0) h1 h fun m=> ?_
 rw [h2,zoQ]
theorem zoO {l:List Sp}:SpC l↔l=yW (uQ l):=
 ⟨fun h=>(sT h).symm,fun h=>by rw [h];exact (qS (wB l)).1⟩
theorem zfN {w:Nat} (hw:w<2 ^ 64):yW w=[]↔w=0:=by
 constructor
 ·intro h
  have:=zfI hw
  rw [h] at this;exact this.symm
 ·rintro rfl;rfl
theorem zqZ {s:Sp} (h:0≤s.a∧s.a<s.b∧s.b≤64):SpC [s]:=⟨h.1,h.2.1,h.2.2,trivial⟩
end Go.AL
namespace Go.AL
open Go.Proofs Go.Proofs.Tryz
@[go_sem] def UWrd2f73.pp:Nat→DPlan
 |5=>⟨[yA,yA,yB,uX,yA,yB,yC,yA,yA,yA],xS,0⟩
 |_=>⟨[],[],0⟩
@[go_sem] def UWrd2f73.pl:Nat→DPlan
 |5=>⟨[yA,yA,yB,⟨6,0,[1005]⟩,yA,⟨7,0,[1005]⟩,yC,yA,yA,yA],xS,0⟩
 |_=>⟨[],[],0⟩
@[go_sem] def UWrd2f97.pl:Nat→DPlan
 |6=>⟨[yA,yA,yA,yB,yA,yA,yA,yB,yA],uW,0⟩
 |_=>⟨[],[],0⟩
theorem zo1 (n:Int):EPure prog G0 103 [i64 n] fun p=>p=u64 (zo3 n:Nat):=by
 refine ECall.pure (pv func103 12 false (by kernel_rfl) rfl rfl ?_)
 refine g2 ?_
 by_cases h1:n≤0
 ·have e1:decide (n≤0)=true:=by simp [h1]
  have hb:zo3 n=0:=by unfold zo3;rw [if_pos h1]
  rw [hb]
  refine gf @e1 ?_
  exact ⟨⟨rfl,.sc⟩,rfl⟩
 have e1:decide (n≤0)=false:=by simp;omega
 by_cases h2:64≤n
 ·have e2:decide (64≤n)=true:=by simp [h2]
  have hb:zo3 n=2 ^ 64-1:=by unfold zo3;rw [if_neg h1,if_pos h2]
  rw [hb]
  refine gf (a2 @e1 @e2) ?_
  exact ⟨⟨rfl,.sc⟩,rfl⟩
 have e2:decide (64≤n)=false:=by simp;omega
 have hb:zo3 n=2 ^ n.toNat-1:=by unfold zo3;rw [if_neg h1,if_neg h2]
 rw [hb]
 obtain ⟨k,rfl⟩:=Int.eq_ofNat_of_zero_le (show 0≤n by omega)
 rw [Int.toNat_natCast]
 refine gf (a2 @e1 @e2) ?_
 have e3:IntKind.u64.wrap (IntKind.u64.wrap (1*2 ^ min k 64)-1)=((2 ^ k-1:Nat):Int):=by
  have hk:min k 64=k:=by omega
  have h3:2 ^ k≤2 ^ 63:=Nat.pow_le_pow_right (by decide) (by omega)
  have h4:(2:Nat) ^ 63=9223372036854775808:=by decide
  have h5:=Nat.two_pow_pos k
  have h6:(1:Int)*2 ^ k=((2 ^ k:Nat):Int):=by rw [Int.one_mul];norm_cast
  rw [hk,h6]
  generalize 2 ^ k=q at*
  rw [IntKind.wrap_u64,IntKind.wrap_u64];omega
 rw [e3]
 exact ⟨⟨rfl,.sc⟩,rfl⟩
theorem zrN:(2:Nat) ^ 64=18446744073709551616:=by decide
open UWrd2f73 in
theorem zo5 (l:List Sp) (hl:l.length≤140737488355328):EPure prog G0 73 [kJ l] fun p=>p=u64 (uQ l:Nat):=by
 refine ECall.cut (R:=fun p _=>p=u64 (uQ l:Nat)) (pv func73 23 false (by kernel_rfl) rfl rfl ?_) (by rintro p h rfl;rfl)
 refine g2 ?_
 refine ge ?_
 refine zO l.length (.k:: .k:: .k:: .v:: .k:: .d:: .k:: .k:: .v::D9 (D4 (.k::[]))) (own:=false) (fun i (s:Nat×Heap)=>[u64 s.1,i64 i]) (fun s=>s.2) (fun i s=>s.1=uQ (l.take i)) (0,_) rfl rfl rfl hl ?_ ?_
 ·rintro ⟨w,J⟩ hI t ht
  dsimp only at hI
  subst hI
  simp only [zY] at ht;subst ht
  rw [List.take_length]
  refine gf @zM ?_
  rfl
 ·rintro i ⟨w,J⟩ hi hw hI t ht
  dsimp only at hI
  simp only [zY] at ht;subst ht
  have hg:=zG (f:=Sp.c) [] hi
  have hst:uQ (l.take (i+1))=uQ (l.take i) ||| zo2 l[i]:=by
   unfold uQ
   rw [List.take_succ_eq_append_getElem hi,List.foldl_append];rfl
  have hwl:w<18446744073709551616:=by rw [hI, ←zrN];exact wB _
  rw [←hI] at hst
  generalize l[i]=x at*
  have b1:zo3 x.b<18446744073709551616:=by rw [←zrN];exact zoL _
  have b2:zo3 x.a<18446744073709551616:=by rw [←zrN];exact zoL _
  have e1:=u64_andNot_nat _ _ b1 b2
  have e2:zo3 x.b &&& (18446744073709551615-zo3 x.a)=zo2 x:=rfl
  rw [e2] at e1
  have e3:=u64_or_nat w (zo2 x) hwl (by rw [←zrN];exact zoI _)
  rw [←hst] at e3
  have B1:=zo1 x.b
  have B2:=zo1 x.a
  generalize zo3 x.b=y1 at*
  generalize zo3 x.a=y2 at*
  (repeat (first|refine gz ?_|(refine gn ?_;intro zs zh;(try simp only [go_sem,hi,hw,hg,zB,zA,zD] at zh);subst zh;refine gv ?_)|refine yD UWrd2f73.pp ?_))
  (refine zF rfl rfl rfl ?_;intro sr hsr;simp only [go_sem,zA] at hsr;subst hsr;refine vP rfl (B1) (by simp) ?_;intro p2 hr2 ts2 hts;simp only [go_sem] at hts;subst hts)
  subst hr2
  (repeat (first|refine gz ?_|(refine gn ?_;intro zs zh;(try simp only [go_sem,hi,hw,hg,zB,zA,zD] at zh);subst zh;refine gv ?_)|refine yD UWrd2f73.pp ?_))
  (refine zF rfl rfl rfl ?_;intro zs zh;simp only [go_sem,zA] at zh;subst zh;refine zP (by decide) (by decide) (B2.call zK (by simp) _) ?_;intro p2 h2 hr2 ts2 hts;simp only [go_sem] at hts;subst hts)
  obtain ⟨rfl,rfl⟩:=hr2
  (repeat (first|refine gz ?_|(refine gn ?_;intro zs zh;(try simp only [go_sem,hi,hw,hg,zB,zA,zD,e1,e3] at zh);subst zh;refine gv ?_)|refine yD UWrd2f73.pp ?_))
  exact ⟨(_,_),rfl,(by simp only [zY,xJ,List.tail_cons];rfl),rfl,rfl⟩
theorem zqM (a b:Nat) (ha:a<2 ^ 64) (hb:b<2 ^ 64):EPure prog G0 99 [.ts 1 ([a,b].map fun n:Nat=>[u64 n])] fun p=>p=u64 (a &&& b:Nat):=by
 have h1:=u64_and_nat 18446744073709551615 a (by decide) (by rw [←zrN];exact ha)
 have e1:18446744073709551615 &&& a=a:=by
  have:=Nat.and_two_pow_sub_one_of_lt_two_pow ha
  rw [Nat.and_comm];exact this
 rw [e1,show ((18446744073709551615:Nat):Int)=18446744073709551615 from rfl] at h1
 have h2:=u64_and_nat a b (by rw [←zrN];exact ha) (by rw [←zrN];exact hb)
 refine ECall.pure (pv func99 17 false (by kernel_rfl) rfl rfl ?_)
 refine g2 ?_
 refine ge ?_
 refine zO 2 (.k:: .k:: .k:: .v:: .k:: .d:: .k:: .k:: .v::D4 (.d:: .d:: .d:: .k::[])) (own:=false) (fun i (s:Int)=>[u64 s,i64 i]) (fun s=>_) (fun i s=>s=if i=0 then 18446744073709551615 else if i=1 then (a:Int) else ((a &&& b:Nat):Int)) 18446744073709551615 rfl rfl rfl (by decide) ?_ ?_
 ·rintro w rfl
  refine gm ?_
  refine gf @zM ?_
  exact ⟨⟨rfl,.sc⟩,rfl⟩
 ·rintro i w hi hw rfl
  refine gm ?_
  have hi2:i=0∨i=1:=by omega
  rcases hi2 with rfl|rfl
  ·refine gf (a3 @hw @zB @h1) ?_
   exact ⟨(a:Int),by simp,rfl,rfl,rfl⟩
  ·refine gf (a3 @hw @zB @h2) ?_
   exact ⟨((a &&& b:Nat):Int),by simp,rfl,rfl,rfl⟩
theorem zqX (w:Nat) (hw:w<2 ^ 64) (r:Nat) (J:List Sp→Heap→Prop) (h0:Heap) (hJ:J [] h0)
  (hy: ∀ pre s h,pre.length<64→J pre h→EYl prog G0 r [.agg s.c] h fun p h'=>p=bo true∧J (pre++[s]) h'):ECall prog G0 140 [u64 w,.yl r] h0 fun _ h'=>J (yW w) h':=by
 refine pv func140 34 false (by kernel_rfl) rfl rfl ?_
 refine g2 ?_
 refine ge ?_
 refine zW (K4 (.v::D9 (D9 (D9 (.d:: .d::[]))))) (fun (s:Nat×List Sp×Heap)=>[i64 s.1]) (fun s=>s.2.2) (fun s=>s.1<64∧s.2.1.length≤s.1∧J s.2.1 s.2.2∧ ∃ f,64-s.1<f∧s.2.1++zaP w f s.1=yW w) (fun s=>64-s.1) (own:=false) (0,[],h0) rfl rfl ⟨Nat.zero_lt_succ _,Nat.le_refl _,hJ,65,by show 64-0<65;decide,rfl⟩ ?_
 rintro ⟨a,n,h⟩ ⟨ha,hn,hJn,f,hf,hfe⟩ t ht
 dsimp only at ha hn hJn hf hfe
 obtain ⟨f,rfl⟩: ∃ g,f=g+1:=⟨f-1,by omega⟩
 simp only [zaP] at hfe
 simp only [zY] at ht;subst ht
 have sh: ∀ a:Nat,a<64→(w:Int) / 2 ^ min a 64=((w / 2 ^ a:Nat):Int):=fun a ha=>by
  rw [Nat.min_eq_left (by omega)];norm_cast
 have hsh:=sh a ha
 by_cases hx:w / 2 ^ a=0
 ·have hb:(((w / 2 ^ a:Nat):Int)!=0)=false:=by simp [hx]
  refine gf (a3 @hsh @hb @zB) ?_
  rw [if_pos hx,List.append_nil] at hfe
  rw [←hfe];exact hJn
 ·have hb:(((w / 2 ^ a:Nat):Int)!=0)=true:=ne0_t hx
  obtain ⟨s1,s2,s3,s4⟩:=zc8 w a hw ha hx
  rw [if_neg hx] at hfe
  have hx64:w / 2 ^ a<2 ^ 64:=Nat.lt_of_le_of_lt (Nat.div_le_self _ _) hw
  have htz:=zk6 (w / 2 ^ a) (by simpa using hx64)
  generalize Go.Lib.ctz 64 (w / 2 ^ a)=k at*
  have hsh2:=sh (a+k) s1
  have hw1:IntKind.i64.wrap ((a:Int)+k)=((a+k:Nat):Int):=by rw [xM (by omega) (by omega)];omega
  refine gf (a3 @hsh @hb @zB) ?_
  (refine g1f @hsh ?_;refine zC (htz.call zK (by simp) _) ?_;intro p2 h2 hr2;refine g2 ?_)
  obtain ⟨rfl,rfl⟩:=hr2
  have hxo:bits .xor .u64 18446744073709551615 ((w / 2 ^ (a+k):Nat):Int)=((2 ^ 64-1-w / 2 ^ (a+k):Nat):Int):=by
   have:=u64_xor_nat 18446744073709551615 (w / 2 ^ (a+k)) (by decide) (by simpa using s2)
   rw [←zeY _ s2]
   simpa using this
  have htz2:=zk6 (2 ^ 64-1-w / 2 ^ (a+k)) (sub64 _)
  generalize w / 2 ^ (a+k)=y at*
  generalize hz:2 ^ 64-1-y=z at*
  generalize Go.Lib.ctz 64 z=j at*
  have hw2:IntKind.i64.wrap (((a+k:Nat):Int)+j)=((a+k+j:Nat):Int):=by rw [xM (by omega) (by omega)];omega
  refine gf (a5 @hw1 @hsh2 @qT @hxo @zB) ?_
  (refine g1f (a2 @qT @hxo) ?_;refine zC (htz2.call zK (by simp) _) ?_;intro p2 h2 hr2;refine g2 ?_)
  obtain ⟨rfl,rfl⟩:=hr2
  refine gf (a2 @hw2 @zB) ?_
  (refine wU ?_;intro sr hsr;simp only [go_sem] at hsr;subst hsr;refine rC rfl (by simp only [dC,go_sem]<;>rfl) (hy n ⟨((a+k:Nat):Int),((a+k+j:Nat):Int)⟩ _ (by omega) hJn) ?_;intro p2 h2 hr2 ts2 hts;simp only [go_sem] at hts;subst hts)
  obtain ⟨rfl,hJ2⟩:=hr2
  by_cases h64:a+k+j=64
  ·have hb2:(((a+k+j:Nat):Int)==64)=true:=by simp [h64]
   refine gf @hb2 ?_
   rw [if_pos h64] at hfe
   rw [←hfe];exact hJ2
  ·have hb2:(((a+k+j:Nat):Int)==64)=false:=by simp;omega
   refine gf @hb2 ?_
   rw [if_neg h64] at hfe
   exact ⟨(a+k+j,n++[⟨((a+k:Nat):Int),((a+k+j:Nat):Int)⟩],_),⟨by simp;omega,by simp;omega,hJ2,f,by dsimp only;omega,by rw [List.append_assoc];exact hfe⟩,by simp;omega,rfl,rfl,rfl⟩
theorem zlQ (w:Nat) (hw:w<2 ^ 64):EPure prog G0 100 [u64 w] fun p=>p=kJ (yW w):=by
 refine ECall.cutW (R:=fun p h=> ∃ (q:Nat),(p= .nil∧yW w=[]∨p= .vec q 2 ((yW w).map Sp.c))) (pv func100 13 false (by kernel_rfl) rfl rfl ?_) ?_
 refine g2 ?_
 ·refine ge ?_
  refine tT (f:=140) (fst:=[u64 w]) (cap:=[]) (fun _ h=>h) rfl ?_
  simp only [List.toList_toArray,List.cons_append,List.nil_append,List.append_nil,List.length_cons,List.length_nil,Nat.zero_add,List.singleton_append]
  generalize hL:Blk.loop _ _ _ _ _ _=L
  refine (zqX w hw 1 (fun l h=> ∃ (V:PV) (R:Heap),h= .var 82 [V]::L::R∧Grow 36 (l.map Sp.c) 2 R V) _ ⟨.nil,[],rfl,.inl ⟨rfl,rfl⟩⟩ ?_).mono ?_
  ·rintro l ⟨a,b⟩ _ hn ⟨V,R,rfl,hG⟩
   subst hL
   refine ⟨_,_,_,_,_,_,rfl,rfl,?_⟩
   refine uV (own:=false) _ _ _ _ ?_
   simp only [rput,List.set_cons_zero,List.set_cons_succ]
   refine gf (a2 @zA @zD) ?_
   refine ⟨rfl,_,_,_,_,_,rfl,?_⟩
   refine uV (own:=false) _ _ _ _ ?_
   simp only [List.set_cons_zero,List.set_cons_succ]
   rcases hG with ⟨he,rfl⟩|⟨q,rfl,hq⟩
   ·have hl0:l=[]:=by simpa using he
    subst hl0
    refine gf (a2 @zA @zD) ?_
    refine ⟨_,_,_,_,_,_,rfl,rfl,_,_,rfl,.inr ⟨_,rfl,?_⟩⟩
    simp
   ·simp only [List.length_map] at hq
    have hqR:q<R.length:=(gsi hq).1
    have hq2: ∀ x,(R++[x])[q]? =some (.vec 36 2 l.length):=fun x=>by rw [List.getElem?_append_left hqR];exact hq
    refine gf (a3 @zA @zD @hq2) ?_
    refine ⟨_,_,_,_,_,_,rfl,rfl,_,_,rfl,.inr ⟨q,by rw [List.map_append];rfl,?_⟩⟩
    rw [List.getElem?_set_self (by simp;omega)];simp
  ·rintro p h ⟨V,R,rfl,hG⟩
   subst hL
   refine ⟨_,_,_,_,_,_,rfl,by simp,?_⟩
   simp only [List.set_cons_zero,List.set_cons_succ]
   refine ge ?_
   rcases hG with ⟨he,rfl⟩|⟨q,rfl,hq⟩
   ·exact ⟨0,.inl ⟨rfl,by simpa using he⟩⟩
   ·exact ⟨q+2,.inr rfl⟩
 ·rintro p h ⟨q,⟨rfl,he⟩|rfl⟩
  ·exact ⟨kJ [],by rw [iQ];exact PLe.nil_ts 2,by rw [he],by simp [xX]⟩
  ·exact ⟨kJ (yW w),by rw [rF (all_map fun _=>rfl)];exact PLe.refl _,rfl,by simp⟩
theorem zkI (l:List Sp):zU 40 (kJ l)=true:=all_map fun _=>rfl
theorem Of_x (l:List Sp) (hl:l.length≤140737488355328):EPure prog G0 98 [kJ l] fun p=>p=kJ (yW (uQ l)):=by
 refine ECall.cut (R:=fun p _=>p=kJ (yW (uQ l))) (pv func98 6 false (by kernel_rfl) rfl rfl ?_) (by rintro p h rfl;exact vE _ _ _ _ (zkI _))
 refine g2 ?_
 refine ge ?_
 (refine g1 ?_;refine zC ((zo5 l hl).call zK (by simp) _) ?_;intro p2 h2 hr2;refine g2 ?_)
 obtain ⟨rfl,rfl⟩:=hr2
 refine ge ?_
 (refine g1 ?_;refine zC ((zlQ _ (wB l)).call zK (by simp) _) ?_;intro p2 h2 hr2;refine g2 ?_)
 obtain ⟨rfl,rfl⟩:=hr2
 refine ge ?_
 rfl
open UWrd2f97 in
theorem zp7 (a b:List Sp) (ha:a.length≤140737488355328):EPure prog G0 97 [kJ a,kJ b] fun r=>r=bo (decide (a=b)):=by
 refine ECall.pure (pv func97 26 false (by kernel_rfl) rfl rfl ?_)
 refine g2 ?_
 by_cases hl:a.length=b.length
 ·have hne:((a.length:Int)!=(b.length:Int))=false:=by simp [hl]
  refine gf @hne ?_
  refine zO a.length (K4 (.d:: .d::K4 (.k:: .k:: .k:: .v::D9 (.d:: .d:: .d::[])))) (own:=false) (fun i (_:Unit)=>[i64 i]) (fun _=>_) (fun i _=> ∀ (j:Nat) (h:j<a.length) (h':j<b.length),j<i→a[j]=b[j]) () rfl rfl (fun _ _ _ h=>absurd h (Nat.not_lt_zero _)) ha ?_ ?_
  ·rintro _ hI
   refine gm ?_
   have e:a=b:=List.ext_getElem hl fun j h h'=>hI j h h' h
   subst e
   have e:decide (a=a)=true:=by simp
   rw [e]
   refine gf @zM ?_
   exact ⟨⟨rfl,.sc⟩,rfl⟩
  ·rintro i _ hi hw hI
   refine gm ?_
   have hlb:i<b.length:=by omega
   have hg:=zG (f:=Sp.c) [] hi
   have hgb:=zG (f:=Sp.c) [] hlb
   by_cases he:a[i]=b[i]
   ·have hI': ∀ (j:Nat) (h:j<a.length) (h':j<b.length),j<i+1→a[j]=b[j]:=fun j h h' hj=>by
     rcases Nat.lt_or_ge j i with hji|hji
     ·exact hI j h h' hji
     ·have:j=i:=by omega
      subst this;exact he
    rw [←he] at hgb
    have f1: ∀ x:Int,(x==x)=true:=fun x=>by simp
    generalize a[i]=x at*
    refine gf (a8 @hi @hlb @hw @hg @hgb @zB @eqSp @f1) ?_
    exact ⟨(),hI',rfl,rfl,rfl⟩
   ·have e:decide (a=b)=false:=by
     rw [decide_eq_false_iff_not];intro h;subst h;exact he rfl
    rw [e]
    have f2:(a[i].a==b[i].a&&a[i].b==b[i].b)=false:=by
     rcases Bool.eq_false_or_eq_true (a[i].a==b[i].a&&a[i].b==b[i].b) with h|h
     ·exfalso
      simp only [Bool.and_true,Bool.and_eq_true,beq_iff_eq] at h
      apply he
      generalize a[i]=x at*
      generalize b[i]=y at*
      cases x;cases y;simp_all
     ·exact h
    generalize a[i]=x at*
    generalize b[i]=y at*
    refine gf (a8 @hi @hlb @hw @hg @hgb @zB @eqSp @f2) ?_
    exact ⟨⟨rfl,.sc⟩,rfl⟩
 ·have hne:((a.length:Int)!=(b.length:Int))=true:=by simp;omega
  have e:decide (a=b)=false:=by
   rw [decide_eq_false_iff_not];intro h;subst h;exact hl rfl
  rw [e]
  refine gf @hne ?_
  exact ⟨⟨rfl,.sc⟩,rfl⟩
theorem zn4 (l:List Sp) (hl:l.length≤140737488355328):EPure prog G0 67 [kJ l] fun p=>p=bo (decide (l=yW (uQ l))):=by
 refine ECall.pure (pv func67 7 false (by kernel_rfl) rfl rfl ?_)
 refine g2 ?_
 refine ge ?_
 (refine g1 ?_;refine zC ((Of_x l hl).call zK (by simp) _) ?_;intro p2 h2 hr2;refine g2 ?_)
 obtain ⟨rfl,rfl⟩:=hr2
 refine ge ?_
 (refine g1 ?_;refine zC ((zp7 l _ hl).call zK (by simp) _) ?_;intro p2 h2 hr2;refine g2 ?_)
 obtain ⟨rfl,rfl⟩:=hr2
 refine ge ?_
 exact ⟨⟨rfl,.sc⟩,rfl⟩
abbrev MomX (g:FuncId) (op:Nat→Nat→Nat):Prop:= ∀ a b:List Sp,a.length≤140737488355328→b.length≤140737488355328→EPure prog G0 g [kJ a,kJ b] fun p=>p=kJ (yW (op (uQ a) (uQ b)))
def mY (a b:Nat):Nat:=a &&& (2 ^ 64-1-b)
theorem zoR (a b:Nat):mY a b<2 ^ 64:=Nat.and_lt_two_pow _ (zlO _)
theorem zqW:MomX 172 (· ||| ·):=by
 intro a b ha hb
 refine ECall.cut (R:=fun p _=>p=kJ (yW (uQ a ||| uQ b))) (pv func172 11 false (by kernel_rfl) rfl rfl ?_) (by rintro p h rfl;exact vE _ _ _ _ (zkI _))
 refine g2 ?_
 have e1:=u64_or_nat (uQ a) (uQ b) (by rw [←zrN];exact wB a) (by rw [←zrN];exact wB b)
 have hlt:uQ a ||| uQ b<2 ^ 64:=Nat.or_lt_two_pow (wB a) (wB b)
 refine ge ?_
 (refine g1 ?_;refine zC ((zo5 a ha).call zK (by simp) _) ?_;intro p2 h2 hr2;refine g2 ?_)
 obtain ⟨rfl,rfl⟩:=hr2
 refine ge ?_
 (refine g1 ?_;refine zC ((zo5 b hb).call zK (by simp) _) ?_;intro p2 h2 hr2;refine g2 ?_)
 obtain ⟨rfl,rfl⟩:=hr2
 refine gf @e1 ?_
 (refine g1 ?_;refine zC ((zlQ _ hlt).call zK (by simp) _) ?_;intro p2 h2 hr2;refine g2 ?_)
 obtain ⟨rfl,rfl⟩:=hr2
 refine ge ?_
 rfl
theorem zrT:MomX 70 (· &&& ·):=by
 intro a b ha hb
 refine ECall.cut (R:=fun p _=>p=kJ (yW (uQ a &&& uQ b))) (pv func70 12 false (by kernel_rfl) rfl rfl ?_) (by rintro p h rfl;exact vE _ _ _ _ (zkI _))
 refine g2 ?_
 have hlt:uQ a &&& uQ b<2 ^ 64:=Nat.and_lt_two_pow _ (wB b)
 have ha':=wB a
 have hb':=wB b
 refine ge ?_
 (refine g1 ?_;refine zC ((zo5 a ha).call zK (by simp) _) ?_;intro p2 h2 hr2;refine g2 ?_)
 obtain ⟨rfl,rfl⟩:=hr2
 refine ge ?_
 (refine g1 ?_;refine zC ((zo5 b hb).call zK (by simp) _) ?_;intro p2 h2 hr2;refine g2 ?_)
 obtain ⟨rfl,rfl⟩:=hr2
 refine ge ?_
 (refine g1 ?_;refine zC (((zqM _ _ ha' hb').args (.cons (PLe.tc_ts 1 _) .nil)).call zK (by simp [oM]) _) ?_;intro p2 h2 hr2;refine g2 ?_)
 obtain ⟨rfl,rfl⟩:=hr2
 refine ge ?_
 (refine g1 ?_;refine zC ((zlQ _ hlt).call zK (by simp) _) ?_;intro p2 h2 hr2;refine g2 ?_)
 obtain ⟨rfl,rfl⟩:=hr2
 refine ge ?_
 rfl
theorem zq5:MomX 171 mY:=by
 intro a b ha hb
 refine ECall.cut (R:=fun p _=>p=kJ (yW (mY (uQ a) (uQ b)))) (pv func171 13 false (by kernel_rfl) rfl rfl ?_) (by rintro p h rfl;exact vE _ _ _ _ (zkI _))
 refine g2 ?_
 have hlt:=zoR (uQ a) (uQ b)
 have ha':=wB a
 have hb':=wB b
 have hxo:bits .xor .u64 18446744073709551615 ((uQ b:Nat):Int)=((2 ^ 64-1-uQ b:Nat):Int):=by
  have:=u64_xor_nat 18446744073709551615 (uQ b) (by decide) (by rw [←zrN];exact hb')
  rw [←zeY _ hb']
  simpa using this
 refine ge ?_
 (refine g1 ?_;refine zC ((zo5 a ha).call zK (by simp) _) ?_;intro p2 h2 hr2;refine g2 ?_)
 obtain ⟨rfl,rfl⟩:=hr2
 refine ge ?_
 (refine g1 ?_;refine zC ((zo5 b hb).call zK (by simp) _) ?_;intro p2 h2 hr2;refine g2 ?_)
 obtain ⟨rfl,rfl⟩:=hr2
 (repeat (first|refine gz ?_|(refine gn ?_;intro zs zh;(try simp only [go_sem,qT,Bool.false_eq_true,hxo] at zh);subst zh;refine gv ?_)))
 (refine g1f @qT ?_;refine zC (((zqM _ _ ha' (zlO (uQ b))).args (.cons (PLe.tc_ts 1 _) .nil)).call zK (by simp [oM]) _) ?_;intro p2 h2 hr2;refine g2 ?_)
 obtain ⟨rfl,rfl⟩:=hr2
 refine ge ?_
 (refine g1 ?_;refine zC ((zlQ _ hlt).call zK (by simp) _) ?_;intro p2 h2 hr2;refine g2 ?_)
 obtain ⟨rfl,rfl⟩:=hr2
 refine ge ?_
 rfl
end Go.AL
namespace Go.AL
open Go.Proofs Go.Proofs.Tryz
@[go_sem] def URsx2f206.pl:Nat→DPlan
 |8=>⟨[yA,yA,yA,yA,yA,yA,yA,yA,yB,yA,yA,yA,yB,yC,yA,yA],xE,0⟩
 |_=>⟨[],[],0⟩
theorem zpU (l:List Rw) (hl:l.length≤70368744177664) (hok: ∀ x∈l,x.ok) (hso:SoR l) (h:Heap) (r:Nat) (hr:h[r]? =some (.var 84 (xI l))):
  ECall prog G0 223 [.ms r 0 2 l.length,i64 l.length,kP] h fun _ h'=>h'=h:=by
 refine pv func223 63 false (by kernel_rfl) rfl rfl ?_
 refine g2 ?_
 refine ge ?_
 refine zW (K4 (.k:: .k:: .k:: .v:: .v:: .k:: .k::D9 (.d:: .d:: .d::K9 (K9 (K9 (K9 (K4 ([])))))))) (fun (s:Nat)=>[i64 s,i64 (s+20:Nat)]) (fun s=>h) (fun s=>s≤l.length) (fun s=>l.length-s) (own:=false) 0 rfl rfl (Nat.zero_le _) ?_
 rintro a ha
 refine gm ?_
 by_cases hle:a+20≤l.length
 ·have hb1:(((a+20:Nat):Int)≤(l.length:Int)):=by omega
  have w1:IntKind.i64.wrap (((a+20:Nat):Int)+20)=((a+20+20:Nat):Int):=by rw [xM (by omega) (by omega)];rfl
  refine gf (a2 @hb1 @hle) ?_
  (refine Go.AL.g1 ?_;refine zC (zoU l hl hok hso a (a+20) (by omega) (by omega) h r hr) ?_;intro p2 h2 hr2;refine Go.AL.g2 ?_)
  rw [hr2];clear hr2
  refine gf @w1 ?_
  exact ⟨a+20,by omega,by omega,rfl,rfl,rfl⟩
 ·have hb1: ¬(((a+20:Nat):Int)≤(l.length:Int)):=by omega
  refine gf (a2 @hb1 @hle) ?_
  (refine Go.AL.g1 ?_;refine zC (zoU l hl hok hso a l.length (by omega) (by omega) h r hr) ?_;intro p2 h2 hr2;refine Go.AL.g2 ?_)
  rw [hr2];clear hr2
  refine ge ?_
  refine zW (K4 (.k:: .k:: .v:: .d:: .d:: .d::K9 (K9 (D9 (D9 (D9 (D4 (D4 ([]))))))))) (fun (s:Nat)=>[i64 s]) (fun s=>h) (fun s=>1≤s∧s≤2*l.length+20) (fun s=>2*l.length+20-s) (own:=false) 20 rfl rfl ⟨by omega,by omega⟩ ?_
  rintro bs ⟨hbs,hbs2⟩
  refine gm ?_
  by_cases hlt:bs<l.length
  ·have hb2:((bs:Int)<(l.length:Int)):=by omega
   have w2:IntKind.i64.wrap (2*(bs:Int))=((2*bs:Nat):Int):=by rw [xM (by omega) (by omega)];omega
   have w3:IntKind.i64.wrap ((bs:Int)*2)=((bs*2:Nat):Int):=by rw [xM (by omega) (by omega)];omega
   refine gf (a3 @hb2 @hlt @w2) ?_
   refine zW (K4 (.k:: .k:: .k:: .v:: .v::K9 (K9 (K4 (.k:: .k::D9 (D4 (.d:: .d:: .d::K9 (K4 (.k::[]))))))))) (fun (s:Nat)=>[i64 s,i64 (s+2*bs:Nat)]) (fun s=>h) (fun s=>s≤l.length) (fun s=>l.length-s) (own:=false) 0 (by simp only [zY,xJ,List.tail_cons]<;>simp) rfl (Nat.zero_le _) ?_
   rintro c hc
   refine gm ?_
   have w4:IntKind.i64.wrap ((c:Int)+bs)=((c+bs:Nat):Int):=by rw [xM (by omega) (by omega)];omega
   by_cases hle3:c+2*bs≤l.length
   ·have hb3:(((c+2*bs:Nat):Int)≤(l.length:Int)):=by omega
    have w5:IntKind.i64.wrap (((c+2*bs:Nat):Int)+((2*bs:Nat):Int))=((c+2*bs+2*bs:Nat):Int):=by rw [xM (by omega) (by omega)];omega
    refine gf (a3 @hb3 @hle3 @w4) ?_
    (refine Go.AL.g1f @w4 ?_;refine zC (zqN _ l hl hok hso c (c+bs) (c+2*bs) (Nat.le_refl _) (by omega) (by omega) hle3 h r hr) ?_;intro p2 h2 hr2;refine Go.AL.g2 ?_)
    rw [hr2];clear hr2
    refine gf (a2 @w2 @w5) ?_
    exact ⟨c+2*bs,by omega,by omega,rfl,rfl,rfl⟩
   ·have hb3: ¬(((c+2*bs:Nat):Int)≤(l.length:Int)):=by omega
    by_cases hmn:c+bs<l.length
    ·have hb4:(((c+bs:Nat):Int)<(l.length:Int)):=by omega
     refine gf (a5 @hb3 @hle3 @w4 @hb4 @hmn) ?_
     (refine Go.AL.g1f @w4 ?_;refine zC (zqN _ l hl hok hso c (c+bs) l.length (Nat.le_refl _) (by omega) hmn (Nat.le_refl _) h r hr) ?_;intro p2 h2 hr2;refine Go.AL.g2 ?_)
     rw [hr2];clear hr2
     refine gf @w3 ?_
     exact ⟨bs*2,⟨by omega,by omega⟩,by omega,rfl,rfl,rfl⟩
    ·have hb4: ¬(((c+bs:Nat):Int)<(l.length:Int)):=by omega
     refine gf (a6 @hb3 @hle3 @w4 @hb4 @hmn @w3) ?_
     exact ⟨bs*2,⟨by omega,by omega⟩,by omega,rfl,rfl,rfl⟩
  ·have hb2: ¬((bs:Int)<(l.length:Int)):=by omega
   refine gf (a2 @hb2 @hlt) ?_
   rfl
theorem zhY (l:List Rw) (hl:l.length≤70368744177664) (hok: ∀ x∈l,x.ok) (hso:SoR l) (h:Heap) (r:Nat) (hr:h[r]? =some (.var 84 (xI l))):
  ECall prog G0 221 [.ms r 0 2 l.length,kP] h fun _ h'=>h'=h:=by
 refine pv func221 9 false (by kernel_rfl) rfl rfl ?_
 refine g2 ?_
 refine ge ?_
 (refine Go.AL.g1 ?_;refine zC (zpU l hl hok hso h r hr) ?_;intro p2 h2 hr2;refine Go.AL.g2 ?_)
 rw [hr2];clear hr2
 refine ge ?_
 rfl
def Rw.can (x:Rw):Prop:=SpC x.w∧x.w≠[]
def CanL (l:List Rw):Prop:=SoR l∧ ∀ x∈l,x.can
open URsx2f206 in
theorem zmS (l:List Rw) (hl:l.length≤68719476736) (hok: ∀ x∈l,x.ls) (hcan:CanL l) (hne:0<l.length):
  EPure prog G0 206 [uN l] fun p=>p=uN l:=by
 obtain ⟨hso,hca⟩:=hcan
 refine ECall.cutW (R:=fun p h=> ∃ q:Nat,p= .vec q 2 (l.map Rw.c)) (pv func206 60 false (by kernel_rfl) rfl rfl ?_) ?_
 refine g2 ?_
 ·refine ge ?_
  (refine Go.AL.g1 ?_;refine zC (dZ l hne (by omega) _) ?_;intro p2 h2 hr2;refine Go.AL.g2 ?_)
  obtain ⟨rfl,rfl⟩:=hr2
  refine ge ?_
  (refine Go.AL.g1 ?_;refine zC (zhY l (by omega) (fun x hx=>(hok x hx).ok) hso _ 0 rfl) ?_;intro p2 h2 hr2;refine Go.AL.g2 ?_)
  subst hr2
  refine ge ?_
  refine zW (K4 (.v:: .v:: .d:: .d::K4 (D9 (D9 (D9 (D9 (D9 (.d:: .d:: .k::[])))))))) (fun (s:Nat×PV×Heap)=>[s.2.1,i64 s.1]) (fun s=> .var 84 (xI l)::s.2.2) (fun s=>s.1≤l.length∧GrowN 1 84 ((l.take s.1).map Rw.c) 2 s.2.2 s.2.1) (fun s=>l.length-s.1) (own:=false) (0,.nil,[]) rfl rfl ⟨Nat.zero_le _,.inl ⟨rfl,rfl⟩⟩ ?_
  rintro ⟨i,V,J⟩ ⟨hi,hG⟩ t ht
  dsimp only at hi hG
  simp only [zY] at ht;subst ht
  by_cases hlt:i<l.length
  ·have hlt1:(i:Int)<(l.length:Int):=by omega
   have hls:=hok _ (List.getElem_mem hlt)
   obtain ⟨hsp,hwn⟩:=hca _ (List.getElem_mem hlt)
   have g1:=xG l i hlt
   have g3:=zi2 l i hlt
   have g4:=eL l i hlt
   have hby:=uS l[i] l[i] hls.ok hls.ok
   rw [zd5] at hby
   have hnext: ∀ hk:i+1<l.length,sD l[i].args l[i+1].args<0:=fun hk=>hso i (i+1) (by omega) hk
   have hby2: ∀ hk:i+1<l.length,EPure prog G0 68 [.agg l[i].c,.agg l[i+1].c] fun p=>p=i64 (sD l[i].args l[i+1].args):=fun hk=>uS l[i] l[i+1] hls.ok (hok _ (List.getElem_mem hk)).ok
   have hst:(l.take (i+1)).map Rw.c=(l.take i).map Rw.c++[l[i].c]:=by rw [List.take_succ_eq_append_getElem hlt,List.map_append];rfl
   have hgl:((l.take i).map Rw.c).length=i:=by simp;omega
   generalize l[i]=x at*
   obtain ⟨xa,xw⟩:=x
   dsimp only at*
   have hw64:xw.length≤64:=hls.w
   have hwp:0<xw.length:=List.length_pos_iff.2 hwn
   have hwp1:(0:Int)<(xw.length:Int):=by omega
   have hOf:=Of_x xw (by have:=hls.w;dsimp only at this;omega)
   rw [sT hsp] at hOf
   have mM:=iK xa (by have:=hls.al;dsimp only at this;omega) (zaJ 38 _)
   refine gf (a2 @hlt @hlt1) ?_
   refine zW (K4 (.k:: .k:: .v:: .v::K9 (D9 (D9 (D4 (.d:: .d:: .d::K9 (K9 ([])))))))) (fun (s:Nat×PV×Heap)=>[s.2.1,i64 s.1]) (fun s=> .var 84 (xI l)::s.2.2) (fun s=>s=(i,.nil,J)∨s=(i+1,.vec (J.length+1) 2 (xw.map Sp.c),J++[.vec 36 2 xw.length])) (fun s=>l.length-s.1) (own:=false) (i,.nil,J) rfl rfl (.inl rfl) ?_
   rintro _ (rfl|rfl) t ht
   ·dsimp only at*
    simp only [zY] at ht;subst ht
    have wk:IntKind.i64.wrap ((i:Int)+1)=((i+1:Nat):Int):=by rw [xM (by omega) (by omega)];rfl
    (repeat (first|refine gz ?_|(refine gn ?_;intro zs zh;(try simp only [go_sem,hlt,hlt1,g1,g3,xK,zB,wk] at zh);subst zh;(first|refine gv ?_|((first|refine zC (hby.call zK (by simp [zJ]) _) ?_|refine zP (by decide) (by decide) (hby.call zK (by simp [zJ]) _) ?_);intro p2 h2 hr2;obtain ⟨hr2,rfl⟩:=hr2;first|obtain ⟨_,rfl,hr2⟩:=hr2|obtain ⟨_,rfl⟩:=hr2|subst hr2|skip)))|refine yD URsx2f206.pl ?_))
    exact ⟨(i+1,.vec (J.length+1) 2 (xw.map Sp.c),J++[.vec 36 2 xw.length]),.inr rfl,by dsimp only;omega,rfl,rfl,rfl⟩
   ·dsimp only at*
    simp only [zY] at ht;subst ht
    have hple:PLe (.vec (J.length+1) 2 (xw.map Sp.c)) (kJ xw):=PLe.vec_ts _ _ _
    have fin: ∀ (V':PV) (J':Heap),GrowN 1 84 ((l.take (i+1)).map Rw.c) 2 J' V'→i+1≤l.length∧GrowN 1 84 ((l.take (i+1)).map Rw.c) 2 J' V':=fun V' J' h=>⟨by omega,h⟩
    by_cases hk:i+1<l.length
    ·have hk1:(((i+1:Nat):Int)<(l.length:Int)):=by omega
     have g2:=xG l (i+1) hk
     have hc:=hnext hk
     have hby3:=hby2 hk
     generalize l[i+1]=y at*
     have hcb:(sD xa y.args==0)=false:=by rw [beq_eq_false_iff_ne];omega
     generalize sD xa y.args=c at*
     (repeat (first|refine gz ?_|(refine gn ?_;intro zs zh;(try simp only [go_sem,hk,hk1,hlt,hlt1,g1,g2,xK,zB,hcb] at zh);subst zh;(first|refine gv ?_|((first|refine zC (hby3.call zK (by simp [zJ]) _) ?_|refine zP (by decide) (by decide) (hby3.call zK (by simp [zJ]) _) ?_);intro p2 h2 hr2;obtain ⟨hr2,rfl⟩:=hr2;first|obtain ⟨_,rfl,hr2⟩:=hr2|obtain ⟨_,rfl⟩:=hr2|subst hr2|skip)))|refine yD URsx2f206.pl ?_))
     (refine Go.AL.g1 ?_;refine zC ((hOf.call zK (by simp) _).args (.cons hple .nil)) ?_;intro p2 h2 hr2;refine Go.AL.g2 ?_)
     obtain ⟨rfl,rfl⟩:=hr2
     refine gf (a7 @hwp @hwp1 @hlt @hlt1 @g4 @xK @zB) ?_
     (refine Go.AL.g1f @g4 ?_;refine zC (mM.call zK (by simp) _) ?_;intro p2 h2 hr2;refine Go.AL.g2 ?_)
     obtain ⟨rfl,rfl⟩:=hr2
     rcases hG with ⟨he,rfl⟩|⟨q,rfl,hq⟩
     ·refine ge ?_
      exact ⟨(i+1,_,_),fin _ _ (.inr ⟨_,by rw [hst,he];rfl,by rw [hst,he];simp⟩),by dsimp only;omega,rfl,rfl,rfl⟩
     ·have hq1:q<J.length:=(gsi hq).1
      have hq2: ∀ b,(J++[b])[q]? =some (.vec 84 2 i):=fun b=>by rw [List.getElem?_append_left hq1,hq,hgl]
      refine gf (a2 @hq2 @hgl) ?_
      exact ⟨(i+1,_,_),fin _ _ (.inr ⟨q,by rw [hst],by rw [hst];rw [List.getElem?_set_self (by simp;omega)];simp;omega⟩),by dsimp only;omega,rfl,rfl,rfl⟩
    ·have hk1: ¬(((i+1:Nat):Int)<(l.length:Int)):=by omega
     refine gf (a2 @hk @hk1) ?_
     (refine Go.AL.g1 ?_;refine zC ((hOf.call zK (by simp) _).args (.cons hple .nil)) ?_;intro p2 h2 hr2;refine Go.AL.g2 ?_)
     obtain ⟨rfl,rfl⟩:=hr2
     refine gf (a7 @hwp @hwp1 @hlt @hlt1 @g4 @xK @zB) ?_
     (refine Go.AL.g1f @g4 ?_;refine zC (mM.call zK (by simp) _) ?_;intro p2 h2 hr2;refine Go.AL.g2 ?_)
     obtain ⟨rfl,rfl⟩:=hr2
     rcases hG with ⟨he,rfl⟩|⟨q,rfl,hq⟩
     ·refine ge ?_
      exact ⟨(i+1,_,_),fin _ _ (.inr ⟨_,by rw [hst,he];rfl,by rw [hst,he];simp⟩),by dsimp only;omega,rfl,rfl,rfl⟩
     ·have hq1:q<J.length:=(gsi hq).1
      have hq2: ∀ b,(J++[b])[q]? =some (.vec 84 2 i):=fun b=>by rw [List.getElem?_append_left hq1,hq,hgl]
      refine gf (a2 @hq2 @hgl) ?_
      exact ⟨(i+1,_,_),fin _ _ (.inr ⟨q,by rw [hst],by rw [hst];rw [List.getElem?_set_self (by simp;omega)];simp;omega⟩),by dsimp only;omega,rfl,rfl,rfl⟩
  ·have hlt1: ¬((i:Int)<(l.length:Int)):=by omega
   have:i=l.length:=by omega
   subst this
   rw [List.take_length] at hG
   refine gf (a2 @hlt @hlt1) ?_
   rcases hG with ⟨he,rfl⟩|⟨q,rfl,hq⟩
   ·exfalso;simp at he;subst he;simp at hne
   ·exact ⟨_,rfl⟩
 ·rintro p h ⟨q,rfl⟩
  exact ⟨uN l,by rw [rF (rE 36 l)];exact PLe.refl _,rfl,yP 40 _ (rE 36 l)⟩
end Go.AL
