/-
  Relations: two canonical lists merged, to the letter.
-/
import Derived.Test.YtlcjmejclpilhaaGreatDoorX31
set_option linter.unusedSimpArgs false
set_option linter.unusedVariables false
set_option maxRecDepth 100000
set_option maxHeartbeats 4000000
namespace Go.AL
instance:DecidableEq Sp:=fun x y=>decidable_of_iff (x.a=y.a/\x.b=y.b) Qgu
def zo3(n:Int):Nat:=if n<=0 then 0 else if 64<=n then 2 ^ 64-1 else 2 ^ n.toNat-1
def zo2(s:Sp):Nat:=zo3 s.b &&& (2 ^ 64-1-zo3 s.a)
def uQ(l:List Sp):Nat:=l.foldl (fun w s=>w ||| zo2 s) 0
def xT(s:Sp)(m:Nat):Bool:=decide (m<64/\s.a<=(m:Int)/\(m:Int)<s.b)
theorem zoL(n:Int):zo3 n<2 ^ 64:=by
 unfold zo3;split
 ·exact Wb 64
 ·split
  ·exact Nat.sub_lt (Wb 64) Nat.zero_lt_one
  ·have:2 ^ n.toNat<=2 ^ 64:=Yy Qf5 Qf3;have:=Wb n.toNat;omega
theorem zo0(n:Int)(m:Nat):(zo3 n).testBit m=decide (m<64/\(m:Int)<n):=by
 unfold zo3;split
 ·rw[Zy];symm;rw[Xo];omega
 ·split
  ·rw[Kj];congr 1;apply propext;omega
  ·rw[Kj];congr 1;apply propext;omega
theorem ziX{x:Nat}(hx:x<2 ^ 64)(m:Nat):(2 ^ 64-1-x).testBit m=(decide (m<64)&& !x.testBit m):=by
 have:=Un hx m;rw[<-this];congr 1;omega
theorem zqY(s:Sp)(m:Nat):(zo2 s).testBit m=xT s m:=by
 unfold zo2 xT;rw[Wu,zo0,ziX (zoL _),zo0];by_cases h1:m<64<;>by_cases h2:(m:Int)<s.b<;>by_cases h3:(m:Int)<s.a<;>simp[h1,h2,h3]<;>omega
theorem zoI(s:Sp):zo2 s<2 ^ 64:=by
 unfold zo2;exact Nat.and_lt_two_pow _ (by have:=Wb 64;omega)
theorem zfJ: ∀(l:List Sp)(w m:Nat),(l.foldl (fun w s=>w ||| zo2 s) w).testBit m=(w.testBit m||l.any fun s=>xT s m)
 | [],w,m=>by simp
 |s::l,w,m=>by rw[Yw,zfJ l,Kf,zqY,Jj,Bool.or_assoc]
theorem zoQ(l:List Sp)(m:Nat):(uQ l).testBit m=l.any fun s=>xT s m:=by
 unfold uQ;rw[zfJ];simp
theorem zrH: ∀(l:List Sp)(w:Nat),w<2 ^ 64->l.foldl (fun w s=>w ||| zo2 s) w<2 ^ 64
 | [],w,h=>h
 |s::l,w,h=>zrH l _ (Uf h (zoI s))
theorem wB(l:List Sp):uQ l<2 ^ 64:=zrH l 0 (Wb 64)
def zaP(w:Nat):Nat->Nat->List Sp
 |0,_=>[]
 | f+1,a=>if w / 2 ^ a=0 then [] else
  ⟨((a+Go.Lib.ctz 64 (w / 2 ^ a):Nat):Int),((a+Go.Lib.ctz 64 (w / 2 ^ a)+Go.Lib.ctz 64 (2 ^ 64-1-w / 2 ^ (a+Go.Lib.ctz 64 (w / 2 ^ a))):Nat):Int)⟩::
   if a+Go.Lib.ctz 64 (w / 2 ^ a)+Go.Lib.ctz 64 (2 ^ 64-1-w / 2 ^ (a+Go.Lib.ctz 64 (w / 2 ^ a)))=64 then [] else zaP w f (a+Go.Lib.ctz 64 (w / 2 ^ a)+Go.Lib.ctz 64 (2 ^ 64-1-w / 2 ^ (a+Go.Lib.ctz 64 (w / 2 ^ a))))
def yW(w:Nat):List Sp:=zaP w 65 0
def SpF:Int->List Sp->Prop
 |_,[]=>True
 |lo,s::l=>lo<=s.a/\s.a<s.b/\s.b<=64/\SpF (s.b+1) l
abbrev SpC(l:List Sp):Prop:=SpF 0 l
theorem SpF.weak{lo lo':Int}(h:lo'<=lo): ∀{l:List Sp},SpF lo l->SpF lo' l
 | [],_=>trivial
 |s::l,⟨a,b,c,d⟩=>⟨Qf3,b,c,d⟩
theorem zdC(w a j:Nat):(w / 2 ^ a).testBit j=w.testBit (a+j):=by
 rw[Nat.testBit_div_two_pow,Nat.add_comm]
theorem zlO(y:Nat):2 ^ 64-1-y<2 ^ 64:=Wl (Nat.sub_le _ _) (Nat.sub_lt (Wb 64) Nat.zero_lt_one)
theorem zq2(k m:Nat):(2 ^ k*(2*m+1)).testBit k=true/\ ∀j,j<k->(2 ^ k*(2*m+1)).testBit j=false:=by
 constructor
 ·rw[Nat.testBit_two_pow_mul];simp[Nat.testBit_zero]
 ·intro j hj;rw[Nat.testBit_two_pow_mul];simp;omega
theorem zjM{x:Nat}(h0:x≠0)(h:x<2 ^ 64):x.testBit (Go.Lib.ctz 64 x)=true/\ ∀j,j<Go.Lib.ctz 64 x->x.testBit j=false:=by
 obtain⟨m,hm, -⟩:=bH x h0 h;generalize Go.Lib.ctz 64 x=k at*;rw[hm];exact zq2 k m
theorem zo9{w a:Nat}(h:w / 2 ^ a=0){m:Nat}(hm:a<=m):w.testBit m=false:=by
 have:=zdC w a (m-a);rw[h,Zy,Uo hm] at this;exact this.symm
theorem zdM(w:Nat)(hw:w<2 ^ 64): ∀(f a:Nat),64-a<f->a<64->
  SpF a (zaP w f a)/\(w.testBit a=false->SpF (a+1) (zaP w f a))/\ ∀m,a<=m->((zaP w f a).any fun s=>xT s m)=w.testBit m
 |0,a,h,_=>by omega
 | f +1,a,h,ha=>by
  unfold zaP;by_cases hx:w / 2 ^ a=0
  ·rw[Qj hx];refine⟨trivial,fun _=>trivial,fun m hm=> ?_⟩;rw[zo9 hx hm];rfl
  ·rw[Qi hx];obtain⟨s1,s2,s3,s4⟩:=zc8 w a hw ha hx;have hx64:w / 2 ^ a<2 ^ 64:=Wl (Nat.div_le_self _ _) hw;obtain⟨c1,c2⟩:=zjM hx hx64;generalize Go.Lib.ctz 64 (w / 2 ^ a)=k at*;rw[zdC] at c1;have c2': ∀m,a<=m->m<a+k->w.testBit m=false:=fun m h1 h2=>by
    have:=c2 (m-a) Qf3;rw[zdC,Uo h1] at this;exact this
   have hz: ∀j,(2 ^ 64-1-w / 2 ^ (a+k)).testBit j=(decide (j<64)&& !w.testBit (a+k+j)):=fun j=>by rw[ziX s2,zdC]
   have d1: ∀m,a+k<=m->m<a+k+Go.Lib.ctz 64 (2 ^ 64-1-w / 2 ^ (a+k))->w.testBit m=true:=fun m h1 h2=>by
    by_cases h0:2 ^ 64-1-w / 2 ^ (a+k)=0
    ·have:=hz (m-(a+k));rw[h0,Zy,Uo h1] at this;have hm:m-(a+k)<64:=Qf3;simpa [hm] using this.symm
    ·obtain⟨-,e2⟩:=zjM h0 (zlO _);have:=e2 (m-(a+k)) Qf3;rw[hz,Uo h1] at this;have hm:m-(a+k)<64:=Qf3;simpa [hm] using this
   have d2:a+k+Go.Lib.ctz 64 (2 ^ 64-1-w / 2 ^ (a+k))<64->w.testBit (a+k+Go.Lib.ctz 64 (2 ^ 64-1-w / 2 ^ (a+k)))=false:=fun h1=>by
    by_cases h0:2 ^ 64-1-w / 2 ^ (a+k)=0
    ·exfalso;rw[h0] at h1;have e:Go.Lib.ctz 64 0=64:=rfl;omega
    ·obtain⟨e1, -⟩:=zjM h0 (zlO _);rw[hz] at e1;have:=(Qt _ _▸e1).2;simpa using this
   generalize Go.Lib.ctz 64 (2 ^ 64-1-w / 2 ^ (a+k))=j at*;have hlow: ∀m:Nat,m<a+k+j-> ∀{l:List Sp},SpF ((a+k+j:Nat):Int) l->(l.any fun s=>xT s m)=false:=fun m hm l hl=>by
    induction l with
    |nil=>rfl
    |cons s l ih=>
     obtain⟨q1,q2,q3,q4⟩:=hl;rw[Jj,ih (SpF.weak Qf3 q4)];unfold xT;simp;omega
   by_cases h64:a+k+j=64
   ·rw[Qj h64];refine⟨⟨by dsimp only;omega,by dsimp only;omega,by dsimp only;omega,trivial⟩,fun hb=>⟨?_,by dsimp only;omega,by dsimp only;omega,trivial⟩,fun m hm=> ?_⟩
    ·exact Qd2
    ·rw[Jj,List.any_nil,Uc];unfold xT;by_cases h1:m<a+k
     ·rw[c2' m hm h1,Xo];dsimp only;omega
     ·by_cases h2:m<a+k+j
      ·rw[d1 m Qf3 h2,Xm];dsimp only;omega
      ·rw[Jo (Yf hw (Yy Qf5 Qf3)),Xo];dsimp only;omega
   ·rw[Qi h64];obtain⟨r1,r2,r3⟩:=zdM w hw f (a+k+j) Qf3 Qf3;have r2:=r2 (d2 Qf3);refine⟨⟨by dsimp only;omega,by dsimp only;omega,by dsimp only;omega,?_⟩,fun hb=>⟨?_,by dsimp only;omega,by dsimp only;omega,?_⟩,fun m hm=> ?_⟩
    ·exact r2
    ·exact Qd2
    ·exact r2
    ·rw[Jj];by_cases h3:a+k+j<=m
     ·rw[r3 m h3];have:xT ⟨((a+k:Nat):Int),((a+k+j:Nat):Int)⟩ m=false:=by unfold xT;rw[Xo];dsimp only;omega
      rw[this,Bool.false_or]
     ·rw[hlow m Qf3 r1,Uc];unfold xT;by_cases h1:m<a+k
      ·rw[c2' m hm h1,Xo];dsimp only;omega
      ·rw[d1 m Qf3 Qf3,Xm];dsimp only;omega
theorem qS{w:Nat}(hw:w<2 ^ 64):SpC (yW w)/\ ∀m,((yW w).any fun s=>xT s m)=w.testBit m:=by
 obtain⟨h1, -,h3⟩:=zdM w hw 65 0 Qf3 Qf3;exact⟨h1,fun m=>h3 m (Yn m)⟩
theorem zfI{w:Nat}(hw:w<2 ^ 64):uQ (yW w)=w:=Ja fun m=>by
 rw[zoQ];exact(qS hw).2 m
theorem SpF.low{lo:Int}: ∀{l:List Sp},SpF lo l-> ∀m:Nat,(m:Int)<lo->(l.any fun s=>xT s m)=false
 | [],_,m,_=>rfl
 |s::l,⟨a,b,c,d⟩,m,h=>by
  rw[Jj,SpF.low d m Qf3];unfold xT;simp;omega
theorem SpF.uniq: ∀{l l':List Sp}{lo lo':Int},0<=lo->0<=lo'->SpF lo l->SpF lo' l'->(∀m:Nat,(l.any fun s=>xT s m)=l'.any fun s=>xT s m)->l=l'
 | [],[],_,_,_,_,_,_,_=>rfl
 | [],s::l',lo,lo',_,h0,_,⟨a,b,c,d⟩,k=>by
  exact Qbt
 |s::l,[],lo,lo',h0,_,⟨a,b,c,d⟩,_,k=>by
  exact Qbt
 | s::l,s'::l',lo,lo',h0,h0',⟨a,b,c,d⟩,⟨a',b',c',d'⟩,k=>by
  have hin: ∀m:Nat,(m:Int)<=s.b->((s::l).any fun s=>xT s m)=xT s m:=fun m hm=>by
   rw[Jj,d.low m Qf3,Uc]
  have hin': ∀m:Nat,(m:Int)<=s'.b->((s'::l').any fun s=>xT s m)=xT s' m:=fun m hm=>by
   rw[Jj,d'.low m Qf3,Uc]
  have ea:s.a=s'.a:=by
   rcases Int.lt_trichotomy s.a s'.a with h|h|h
   ·exfalso;have:=k s.a.toNat;rw[hin _ Qf3,hin' _ Qf3] at this;have e:xT s s.a.toNat=true:=Qh2;have e':xT s' s.a.toNat=false:=Qh3;rw[e,e'] at this;cases this
   ·exact h
   ·exfalso;have:=k s'.a.toNat;rw[hin _ Qf3,hin' _ Qf3] at this;have e:xT s' s'.a.toNat=true:=Qh2;have e':xT s s'.a.toNat=false:=Qh3;rw[e,e'] at this;cases this
  have eb:s.b=s'.b:=by
   rcases Int.lt_trichotomy s.b s'.b with h|h|h
   ·exfalso;have:=k s.b.toNat;rw[hin _ Qf3,hin' _ Qf3] at this;have e:xT s s.b.toNat=false:=Qh3;have e':xT s' s.b.toNat=true:=Qh2;rw[e,e'] at this;cases this
   ·exact h
   ·exfalso;have:=k s'.b.toNat;rw[hin _ Qf3,hin' _ Qf3] at this;have e:xT s s'.b.toNat=true:=Qh2;have e':xT s' s'.b.toNat=false:=Qh3;rw[e,e'] at this;cases this
  have es:s=s':=by cases s;cases s';simp_all
  subst es;rw[SpF.uniq (lo:=s.b+1) (lo':=s.b+1) Qf3 Qf3 d d' fun m=> ?_];have:=k m;rw[Jj,Jj] at this;by_cases hm:(m:Int)<=s.b
  ·rw[d.low m Qf3,d'.low m Qf3]
  ·have e:xT s m=false:=Qh3;rw[e,Bool.false_or,Bool.false_or] at this;exact this
theorem sT{l:List Sp}(h:SpC l):yW (uQ l)=l:=by
 obtain⟨h1,h2⟩:=qS (wB l);refine SpF.uniq (Ug 0) (Ug 0) h1 h fun m=> ?_;rw[h2,zoQ]
theorem zoO{l:List Sp}:SpC l↔l=yW (uQ l):=
 ⟨fun h=>(sT h).symm,fun h=>by rw[h];exact(qS (wB l)).1⟩
theorem zfN{w:Nat}(hw:w<2 ^ 64):yW w=[]↔w=0:=by
 constructor
 ·intro h;have:=zfI hw;rw[h] at this;exact this.symm
 ·rintro rfl;rfl
theorem zqZ{s:Sp}(h:0<=s.a/\s.a<s.b/\s.b<=64):SpC [s]:=⟨h.1,h.2.1,h.2.2,trivial⟩
end Go.AL
namespace Go.AL
open Go.Proofs Go.Proofs.Tryz
@[go_sem] def UWrd2f155.pp:Nat->DPlan
 |5=>⟨[yA,yA,yB,uX,yA,yB,yC,yA,yA,yA],xS,0⟩
 |_=>⟨[],[],0⟩
@[go_sem] def UWrd2f106.pl:Nat->DPlan
 |6=>⟨[yA,yA,yA,yB,yA,yA,yA,yB,yA],uW,0⟩
 |_=>⟨[],[],0⟩
@[go_sem] def UWrd2f155.pl:Nat->DPlan
 |5=>⟨[yA,yA,yB,⟨6,0,[1005]⟩,yA,⟨7,0,[1005]⟩,yC,yA,yA,yA],xS,0⟩
 |_=>⟨[],[],0⟩
theorem zo1(n:Int):EPure prog G0 206 [i64 n] fun p=>p=u64 (zo3 n:Nat):=by
 refine ECall.pure (pv func206 12 false Qf6 rfl rfl ?_);refine g2 ?_;by_cases h1:n<=0
 ·have e1:decide (n<=0)=true:=Qfd;have hb:zo3 n=0:=by unfold zo3;rw[Qj h1]
  rw[hb];refine gf @e1 ?_;exact Qab
 have e1:decide (n<=0)=false:=Qfk;by_cases h2:64<=n
 ·have e2:decide (64<=n)=true:=Qfi;have hb:zo3 n=2 ^ 64-1:=by unfold zo3;rw[Qi h1,Qj h2]
  rw[hb];refine gf (a2 @e1 @e2) ?_;exact Qab
 have e2:decide (64<=n)=false:=Qfk;have hb:zo3 n=2 ^ n.toNat-1:=by unfold zo3;rw[Qi h1,Qi h2]
 rw[hb];obtain⟨k,rfl⟩:=Qm (show 0<=n by omega);rw[Xw];refine gf (a2 @e1 @e2) ?_;have e3:IntKind.u64.wrap (IntKind.u64.wrap (1*2 ^ min k 64)-1)=((2 ^ k-1:Nat):Int):=by
  have hk:min k 64=k:=Qf3;have h3:2 ^ k<=2 ^ 63:=Yy Qf5 Qf3;have h4:(2:Nat) ^ 63=9223372036854775808:=Qf5;have h5:=Wb k;have h6:(1:Int)*2 ^ k=((2 ^ k:Nat):Int):=by rw[Int.one_mul];norm_cast
  rw[hk,h6];generalize 2 ^ k=q at*;rw[IntKind.wrap_u64,IntKind.wrap_u64];omega
 rw[e3];exact Qab
theorem zrN:(2:Nat) ^ 64=18446744073709551616:=Qf5
open UWrd2f155 in
theorem zo5(l:List Sp)(hl:l.length<=140737488355328):EPure prog G0 155 [kJ l] fun p=>p=u64 (uQ l:Nat):=by
 refine ECall.cut (R:=fun p _=>p=u64 (uQ l:Nat)) (pv func155 23 false Qf6 rfl rfl ?_) Qgl;refine g2 ?_;refine ge ?_;refine zO l.length (.k:: .k:: .k:: .v:: .k:: .d:: .k:: .k:: .v::D9 (D4 (.k::[]))) (own:=false) (fun i (s:Nat×Heap)=>[u64 s.1,i64 i]) (fun s=>s.2) (fun i s=>s.1=uQ (l.take i)) (0,_) rfl rfl rfl hl ?_ ?_
 ·rintro⟨w,J⟩ hI t ht;dsimp only at hI;subst hI;simp only[zY] at ht;subst ht;rw[Yt];exact Qda
 ·rintro i ⟨w,J⟩ hi hw hI t ht;dsimp only at hI;simp only[zY] at ht;subst ht;have hg:=zG (f:=Sp.c) [] hi;have F:=(a6 @hi @hw @hg @zB @zA @zX)
  have hst:uQ (l.take (i+1))=uQ (l.take i) ||| zo2 l[i]:=by
   unfold uQ;rw[Xh hi,Jm];rfl
  have hwl:w<18446744073709551616:=by rw[hI,<-zrN];exact wB _
  rw[<-hI] at hst;generalize l[i]=x at*;have b1:zo3 x.b<18446744073709551616:=by rw[<-zrN];exact zoL _
  have b2:zo3 x.a<18446744073709551616:=by rw[<-zrN];exact zoL _
  have e1:=u64_andNot_nat _ _ b1 b2;have e2:zo3 x.b &&& (18446744073709551615-zo3 x.a)=zo2 x:=rfl;rw[e2] at e1;have e3:=u64_or_nat w (zo2 x) hwl (by rw[<-zrN];exact zoI _);rw[<-hst] at e3;have B1:=zo1 x.b;have B2:=zo1 x.a;generalize zo3 x.b=y1 at*;generalize zo3 x.a=y2 at*;refine Wdj ?_;(refine zF rfl rfl rfl ?_;intro sr hsr;simp only[go_sem,zA] at hsr;subst hsr;refine vP rfl (B1) Qf4 ?_;intro p2 hr2 ts2 hts;simp only[go_sem] at hts;subst hts);subst hr2;refine Wdj ?_;(refine zF rfl rfl rfl ?_;intro zs zh;simp only[go_sem,zA] at zh;subst zh;refine zP Qf5 Qf5 (B2.call zK Qf4 _) ?_;intro p2 h2 hr2;refine Go.AL.g2 ?_);obtain⟨rfl,rfl⟩:=hr2;(repeat(first|refine gz ?_|(refine gn ?_;intro zs zh;(try simp only[go_sem,F,e1,e3] at zh);subst zh;refine gv ?_)|refine yD UWrd2f155.pp ?_));exact⟨(_,_),rfl,Qh4,rfl,rfl⟩
theorem zqM(a b:Nat)(ha:a<2 ^ 64)(hb:b<2 ^ 64):EPure prog G0 174 [.ts 1 ([a,b].map fun n:Nat=>[u64 n])] fun p=>p=u64 (a &&& b:Nat):=by
 have h1:=u64_and_nat 18446744073709551615 a Qf5 (by rw[<-zrN];exact ha);have e1:18446744073709551615 &&& a=a:=by
  have:=Nat.and_two_pow_sub_one_of_lt_two_pow ha;rw[Nat.and_comm];exact this
 rw[e1,show((18446744073709551615:Nat):Int)=18446744073709551615 from rfl] at h1;have h2:=u64_and_nat a b (by rw[<-zrN];exact ha) (by rw[<-zrN];exact hb);refine ECall.pure (pv func174 17 false Qf6 rfl rfl ?_);refine g2 ?_;refine ge ?_;refine zO 2 (.k:: .k:: .k:: .v:: .k:: .d:: .k:: .k:: .v::D4 (.d:: .d:: .d:: .k::[])) (own:=false) (fun i (s:Int)=>[u64 s,i64 i]) (fun s=>_) (fun i s=>s=if i=0 then 18446744073709551615 else if i=1 then(a:Int) else((a &&& b:Nat):Int)) 18446744073709551615 rfl rfl rfl Qf5 ?_ ?_
 ·rintro w rfl;refine gm ?_;refine gf @zM ?_;exact Qab
 ·rintro i w hi hw rfl;refine gm ?_;have hi2:i=0\/i=1:=Qf3;rcases hi2 with rfl|rfl
  ·refine gf (a3 @hw @zB @h1) ?_;exact⟨(a:Int),Qf4,rfl,rfl,rfl⟩
  ·refine gf (a3 @hw @zB @h2) ?_;exact⟨((a &&& b:Nat):Int),Qf4,rfl,rfl,rfl⟩
theorem zqX(w:Nat)(hw:w<2 ^ 64)(r:Nat)(J:List Sp->Heap->Prop)(h0:Heap)(hJ:J [] h0)
  (hy: ∀pre s h,pre.length<64->J pre h->EYl prog G0 r [.agg s.c] h fun p h'=>p=bo true/\J (pre++[s]) h'):ECall prog G0 230 [u64 w,.yl r] h0 fun _ h'=>J (yW w) h':=by
 refine pv func230 34 false Qf6 rfl rfl ?_;refine g2 ?_;refine ge ?_;refine zW (K4 (.v::D9 (D9 (D9 (.d:: .d::[]))))) (fun (s:Nat×List Sp×Heap)=>[i64 s.1]) (fun s=>s.2.2) (fun s=>s.1<64/\s.2.1.length<=s.1/\J s.2.1 s.2.2/\ ∃f,64-s.1<f/\s.2.1++zaP w f s.1=yW w) (fun s=>64-s.1) (own:=false) (0,[],h0) rfl rfl ⟨Nat.zero_lt_succ _,Xe _,hJ,65,by show 64-0<65;decide,rfl⟩ ?_;rintro⟨a,n,h⟩ ⟨ha,hn,hJn,f,hf,hfe⟩ t ht;dsimp only at ha hn hJn hf hfe;obtain⟨f,rfl⟩: ∃g,f=g+1:=⟨f-1,Qf3⟩
 simp only[zaP] at hfe;simp only[zY] at ht;subst ht;have sh: ∀a:Nat,a<64->(w:Int) / 2 ^ min a 64=((w / 2 ^ a:Nat):Int):=fun a ha=>by
  rw[Jw Qf3];norm_cast
 have hsh:=sh a ha;by_cases hx:w / 2 ^ a=0
 ·have hb:(((w / 2 ^ a:Nat):Int)!=0)=false:=Qfa;refine gf (a3 @hsh @hb @zB) ?_;rw[Qj hx,Xz] at hfe;rw[<-hfe];exact hJn
 ·have hb:(((w / 2 ^ a:Nat):Int)!=0)=true:=ne0_t hx;obtain⟨s1,s2,s3,s4⟩:=zc8 w a hw ha hx;rw[Qi hx] at hfe;have hx64:w / 2 ^ a<2 ^ 64:=Wl (Nat.div_le_self _ _) hw;have htz:=zk6 (w / 2 ^ a) (by simpa using hx64);generalize Go.Lib.ctz 64 (w / 2 ^ a)=k at*;have hsh2:=sh (a+k) s1;have jY:IntKind.i64.wrap ((a:Int)+k)=((a+k:Nat):Int):=Qgx;refine gf (a3 @hsh @hb @zB) ?_;(refine g1f @hsh ?_;refine zC (htz.call zK Qf4 _) ?_;intro p2 h2 hr2;refine g2 ?_);obtain⟨rfl,rfl⟩:=hr2;have hxo:bits .xor .u64 18446744073709551615 ((w / 2 ^ (a+k):Nat):Int)=((2 ^ 64-1-w / 2 ^ (a+k):Nat):Int):=by
   have:=u64_xor_nat 18446744073709551615 (w / 2 ^ (a+k)) Qf5 (by simpa using s2);rw[<-zeY _ s2];simpa using this
  have htz2:=zk6 (2 ^ 64-1-w / 2 ^ (a+k)) (sub64 _);generalize w / 2 ^ (a+k)=y at*;generalize hz:2 ^ 64-1-y=z at*;generalize Go.Lib.ctz 64 z=j at*;have zg1:IntKind.i64.wrap (((a+k:Nat):Int)+j)=((a+k+j:Nat):Int):=Qgx;refine gf (a5 @jY @hsh2 @qT @hxo @zB) ?_;(refine g1f (a2 @qT @hxo) ?_;refine zC (htz2.call zK Qf4 _) ?_;intro p2 h2 hr2;refine g2 ?_);obtain⟨rfl,rfl⟩:=hr2;refine gf (a2 @zg1 @zB) ?_;(refine wU ?_;intro sr hsr;simp only[go_sem] at hsr;subst hsr;refine rC rfl (by simp only[dC,go_sem]<;>rfl) (hy n ⟨((a+k:Nat):Int),((a+k+j:Nat):Int)⟩ _ Qf3 hJn) ?_;intro p2 h2 hr2;refine Go.AL.g2 ?_);obtain⟨rfl,hJ2⟩:=hr2;by_cases h64:a+k+j=64
  ·have hb2:(((a+k+j:Nat):Int)==64)=true:=by simp[h64]
   refine gf @hb2 ?_;rw[Qj h64] at hfe;rw[<-hfe];exact hJ2
  ·have hb2:(((a+k+j:Nat):Int)==64)=false:=Qfk;refine gf @hb2 ?_;rw[Qi h64] at hfe;exact⟨(a+k+j,n++[⟨((a+k:Nat):Int),((a+k+j:Nat):Int)⟩],_),⟨by simp;omega,by simp;omega,hJ2,f,by dsimp only;omega,by rw[Qv];exact hfe⟩,by simp;omega,rfl,rfl,rfl⟩
theorem zlQ(w:Nat)(hw:w<2 ^ 64):EPure prog G0 165 [u64 w] fun p=>p=kJ (yW w):=by
 have F:=(a2 @zA @zX)
 refine ECall.cutW (R:=fun p h=> ∃(q:Nat),(p= .nil/\yW w=[]\/p= .vec q 2 ((yW w).map Sp.c))) (pv func165 13 false Qf6 rfl rfl ?_) ?_;refine g2 ?_
 ·refine ge ?_;refine tT (f:=230) (fst:=[u64 w]) (cap:=[]) (fun _ h=>h) rfl ?_;simp only[Jc,Xx,Yj,Xz,Qn,Xv,Yd,Ui];generalize hL:Blk.loop _ _ _ _ _ _=L;refine(zqX w hw 1 (fun l h=> ∃(V:PV)(R:Heap),h= .var 96 [V]::L::R/\Grow 54 (l.map Sp.c) 2 R V) _ ⟨.nil,[],rfl,.inl ⟨rfl,rfl⟩⟩ ?_).mono ?_
  ·rintro l ⟨a,b⟩ _ hn ⟨V,R,rfl,hG⟩;subst hL;refine⟨_,_,_,_,_,_,rfl,rfl,?_⟩;refine Qct ?_;simp only[rput,Xn,Xl];refine gf F ?_;refine⟨rfl,_,_,_,_,_,rfl,?_⟩;refine Qct ?_;simp only[Xn,Xl];rcases hG with ⟨he,rfl⟩|⟨q,rfl,hq⟩
   ·have hl0:l=[]:=Qg4;subst hl0;exact Qdp
   ·simp only[Qs] at hq;have hqR:q<R.length:=(gsi hq).1;have hq2: ∀x,(R++[x])[q]? =some (.vec 54 2 l.length):=fun x=>by rw[Qg hqR];exact hq
    exact Qc8
  ·rintro p h ⟨V,R,rfl,hG⟩;subst hL;refine⟨_,_,_,_,_,_,rfl,Qf4,?_⟩;simp only[Xn,Xl];refine ge ?_;rcases hG with ⟨he,rfl⟩|⟨q,rfl,hq⟩
   ·exact⟨0,.inl ⟨rfl,by simpa using he⟩⟩
   ·exact⟨q+2,.inr rfl⟩
 ·rintro p h ⟨q,⟨rfl,he⟩|rfl⟩
  ·exact⟨kJ [],by rw[iQ];exact PLe.nil_ts 2,by rw[he],by simp[xX]⟩
  ·exact⟨kJ (yW w),by rw[rF (all_map fun _=>rfl)];exact PLe.refl _,rfl,Qf4⟩
theorem zkI(l:List Sp):zU 40 (kJ l)=true:=all_map fun _=>rfl
theorem Of_x(l:List Sp)(hl:l.length<=140737488355328):EPure prog G0 107 [kJ l] fun p=>p=kJ (yW (uQ l)):=by
 refine ECall.cut (R:=fun p _=>p=kJ (yW (uQ l))) (pv func107 6 false Qf6 rfl rfl ?_) Qhl;refine g2 ?_;refine ge ?_;(refine g1 ?_;refine zC ((zo5 l hl).call zK Qf4 _) ?_;intro p2 h2 hr2;refine g2 ?_);obtain⟨rfl,rfl⟩:=hr2;refine ge ?_;(refine g1 ?_;refine zC ((zlQ _ (wB l)).call zK Qf4 _) ?_;intro p2 h2 hr2;refine g2 ?_);exact Qan
open UWrd2f106 in
theorem zp7(a b:List Sp)(ha:a.length<=140737488355328):EPure prog G0 106 [kJ a,kJ b] fun r=>r=bo (decide (a=b)):=by
 refine ECall.pure (pv func106 26 false Qf6 rfl rfl ?_);refine g2 ?_;by_cases hl:a.length=b.length
 ·have hne:((a.length:Int)!=(b.length:Int))=false:=Qf8;refine gf @hne ?_;refine zO a.length (K4 (.d:: .d::K4 (.k:: .k:: .k:: .v::D9 (.d:: .d:: .d::[])))) (own:=false) (fun i (_:Unit)=>[i64 i]) (fun _=>_) (fun i _=> ∀(j:Nat)(h:j<a.length)(h':j<b.length),j<i->a[j]=b[j]) () rfl rfl (fun _ _ _ h=>absurd h (Xt _)) ha ?_ ?_
  ·exact Qeq
  ·rintro i _ hi hw hI;refine gm ?_;have hlb:i<b.length:=Qf3;have hg:=zG (f:=Sp.c) [] hi;have hgb:=zG (f:=Sp.c) [] hlb;by_cases he:a[i]=b[i]
   ·have hI': ∀(j:Nat)(h:j<a.length)(h':j<b.length),j<i+1->a[j]=b[j]:=fun j h h' hj=>by
     exact Qet
    rw[<-he] at hgb;have f1: ∀x:Int,(x==x)=true:=fun x=>by simp
    generalize a[i]=x at*;refine gf (a8 @hi @hlb @hw @hg @hgb @zB @eqSp @f1) ?_;exact⟨(),hI',rfl,rfl,rfl⟩
   ·have e:decide (a=b)=false:=by
     rw[Xo];intro h;subst h;exact he rfl
    rw[e];have f2:(a[i].a==b[i].a&&a[i].b==b[i].b)=false:=by
     rcases Zp (a[i].a==b[i].a&&a[i].b==b[i].b) with h|h
     ·exfalso;simp only[Zx,Qt,Zm] at h;exact Qew
     ·exact h
    generalize a[i]=x at*;generalize b[i]=y at*;refine gf (a8 @hi @hlb @hw @hg @hgb @zB @eqSp @f2) ?_;exact Qab
 ·exact Qeo
theorem zn4(l:List Sp)(hl:l.length<=140737488355328):EPure prog G0 45 [kJ l] fun p=>p=bo (decide (l=yW (uQ l))):=by
 refine ECall.pure (pv func45 7 false Qf6 rfl rfl ?_);refine g2 ?_;refine ge ?_;(refine g1 ?_;refine zC ((Of_x l hl).call zK Qf4 _) ?_;intro p2 h2 hr2;refine g2 ?_);obtain⟨rfl,rfl⟩:=hr2;refine ge ?_;(refine g1 ?_;refine zC ((zp7 l _ hl).call zK Qf4 _) ?_;intro p2 h2 hr2;refine g2 ?_);exact Qes
abbrev MomX(g:FuncId)(op:Nat->Nat->Nat):Prop:= ∀a b:List Sp,a.length<=140737488355328->b.length<=140737488355328->EPure prog G0 g [kJ a,kJ b] fun p=>p=kJ (yW (op (uQ a) (uQ b)))
def mY(a b:Nat):Nat:=a &&& (2 ^ 64-1-b)
theorem zoR(a b:Nat):mY a b<2 ^ 64:=Nat.and_lt_two_pow _ (zlO _)
theorem zqW:MomX 115 (· ||| ·):=by
 intro a b ha hb;refine ECall.cut (R:=fun p _=>p=kJ (yW (uQ a ||| uQ b))) (pv func115 11 false Qf6 rfl rfl ?_) Qhl;refine g2 ?_;have e1:=u64_or_nat (uQ a) (uQ b) (by rw[<-zrN];exact wB a) (by rw[<-zrN];exact wB b);have hlt:uQ a ||| uQ b<2 ^ 64:=Uf (wB a) (wB b)
 refine ge ?_;(refine g1 ?_;refine zC ((zo5 a ha).call zK Qf4 _) ?_;intro p2 h2 hr2;refine g2 ?_);obtain⟨rfl,rfl⟩:=hr2;refine ge ?_;(refine g1 ?_;refine zC ((zo5 b hb).call zK Qf4 _) ?_;intro p2 h2 hr2;refine g2 ?_);obtain⟨rfl,rfl⟩:=hr2;refine gf @e1 ?_;exact Qez
theorem zrT:MomX 149 (· &&& ·):=by
 intro a b ha hb;refine ECall.cut (R:=fun p _=>p=kJ (yW (uQ a &&& uQ b))) (pv func149 12 false Qf6 rfl rfl ?_) Qhl;refine g2 ?_;have hlt:uQ a &&& uQ b<2 ^ 64:=Nat.and_lt_two_pow _ (wB b);have ha':=wB a;have hb':=wB b;refine ge ?_;(refine g1 ?_;refine zC ((zo5 a ha).call zK Qf4 _) ?_;intro p2 h2 hr2;refine g2 ?_);obtain⟨rfl,rfl⟩:=hr2;refine ge ?_;(refine g1 ?_;refine zC ((zo5 b hb).call zK Qf4 _) ?_;intro p2 h2 hr2;refine g2 ?_);obtain⟨rfl,rfl⟩:=hr2;refine ge ?_;(refine g1 ?_;refine zC (((zqM _ _ ha' hb').args (.cons (PLe.tc_ts 1 _) .nil)).call zK (by simp[oM]) _) ?_;intro p2 h2 hr2;refine g2 ?_);obtain⟨rfl,rfl⟩:=hr2;refine ge ?_;exact Qez
@[go_sem] def URsx2f173.pl:Nat->DPlan
 |8=>⟨[yA,yA,yA,yA,yA,yA,yA,yA,yB,yA,yA,yA,yB,yC,yA,yA],xE,0⟩
 |_=>⟨[],[],0⟩
theorem zpU(l:List Rw)(hl:l.length<=70368744177664)(hok: ∀x∈l,x.ok)(hso:SoR l)(h:Heap)(r:Nat)(hr:h[r]? =some (.var 159 (xI l))):
  ECall prog G0 310 [.ms r 0 2 l.length,i64 l.length,kP] h fun _ h'=>h'=h:=by
 refine pv func310 63 false Qf6 rfl rfl ?_;refine g2 ?_;refine ge ?_;refine zW (K4 (.k:: .k:: .k:: .v:: .v:: .k:: .k::D9 (.d:: .d:: .d::K9 (K9 (K9 (K9 (K4 ([])))))))) (fun (s:Nat)=>[i64 s,i64 (s+20:Nat)]) (fun s=>h) (fun s=>s<=l.length) (fun s=>l.length-s) (own:=false) 0 rfl rfl (Yn _) ?_;rintro a ha;refine gm ?_;by_cases hle:a+20<=l.length
 ·have hb1:(((a+20:Nat):Int)<=(l.length:Int)):=Qf3;have w1:IntKind.i64.wrap (((a+20:Nat):Int)+20)=((a+20+20:Nat):Int):=Qgn;refine gf (a2 @hb1 @hle) ?_;(refine Go.AL.g1 ?_;refine zC (zoU l hl hok hso a (a+20) Qf3 Qf3 h r hr) ?_;intro p2 h2 hr2;refine Go.AL.g2 ?_);rw[hr2];clear hr2;refine gf @w1 ?_;exact⟨a+20,Qf3,Qf3,rfl,rfl,rfl⟩
 ·have hb1: ¬(((a+20:Nat):Int)<=(l.length:Int)):=Qf3;refine gf (a2 @hb1 @hle) ?_;(refine Go.AL.g1 ?_;refine zC (zoU l hl hok hso a l.length Qf3 Qf3 h r hr) ?_;intro p2 h2 hr2;refine Go.AL.g2 ?_);rw[hr2];clear hr2;refine ge ?_;refine zW (K4 (.k:: .k:: .v:: .d:: .d:: .d::K9 (K9 (D9 (D9 (D9 (D4 (D4 ([]))))))))) (fun (s:Nat)=>[i64 s]) (fun s=>h) (fun s=>1<=s/\s<=2*l.length+20) (fun s=>2*l.length+20-s) (own:=false) 20 rfl rfl ⟨Qf3,Qf3⟩ ?_;rintro bs ⟨hbs,hbs2⟩;refine gm ?_;by_cases hlt:bs<l.length
  ·have hb2:((bs:Int)<(l.length:Int)):=Qf3;have w2:IntKind.i64.wrap (2*(bs:Int))=((2*bs:Nat):Int):=Qgx;have w3:IntKind.i64.wrap ((bs:Int)*2)=((bs*2:Nat):Int):=Qgx;refine gf (a3 @hb2 @hlt @w2) ?_;refine zW (K4 (.k:: .k:: .k:: .v:: .v::K9 (K9 (K4 (.k:: .k::D9 (D4 (.d:: .d:: .d::K9 (K4 (.k::[]))))))))) (fun (s:Nat)=>[i64 s,i64 (s+2*bs:Nat)]) (fun s=>h) (fun s=>s<=l.length) (fun s=>l.length-s) (own:=false) 0 (by simp only[zY,xJ,Xs]<;>simp) rfl (Yn _) ?_;rintro c hc;refine gm ?_;have w4:IntKind.i64.wrap ((c:Int)+bs)=((c+bs:Nat):Int):=Qgx;by_cases hle3:c+2*bs<=l.length
   ·have hb3:(((c+2*bs:Nat):Int)<=(l.length:Int)):=Qf3;have w5:IntKind.i64.wrap (((c+2*bs:Nat):Int)+((2*bs:Nat):Int))=((c+2*bs+2*bs:Nat):Int):=Qgx;refine gf (a3 @hb3 @hle3 @w4) ?_;(refine Go.AL.g1f @w4 ?_;refine zC (zqN _ l hl hok hso c (c+bs) (c+2*bs) (Xe _) Qf3 Qf3 hle3 h r hr) ?_;intro p2 h2 hr2;refine Go.AL.g2 ?_);rw[hr2];clear hr2;refine gf (a2 @w2 @w5) ?_;exact⟨c+2*bs,Qf3,Qf3,rfl,rfl,rfl⟩
   ·have hb3: ¬(((c+2*bs:Nat):Int)<=(l.length:Int)):=Qf3;by_cases hmn:c+bs<l.length
    ·have hb4:(((c+bs:Nat):Int)<(l.length:Int)):=Qf3;refine gf (a5 @hb3 @hle3 @w4 @hb4 @hmn) ?_;(refine Go.AL.g1f @w4 ?_;refine zC (zqN _ l hl hok hso c (c+bs) l.length (Xe _) Qf3 hmn (Xe _) h r hr) ?_;intro p2 h2 hr2;refine Go.AL.g2 ?_);rw[hr2];clear hr2;refine gf @w3 ?_;exact⟨bs*2,⟨Qf3,Qf3⟩,Qf3,rfl,rfl,rfl⟩
    ·have hb4: ¬(((c+bs:Nat):Int)<(l.length:Int)):=Qf3;refine gf (a6 @hb3 @hle3 @w4 @hb4 @hmn @w3) ?_;exact⟨bs*2,⟨Qf3,Qf3⟩,Qf3,rfl,rfl,rfl⟩
  ·have hb2: ¬((bs:Int)<(l.length:Int)):=Qf3;refine gf (a2 @hb2 @hlt) ?_;rfl
theorem zhY(l:List Rw)(hl:l.length<=70368744177664)(hok: ∀x∈l,x.ok)(hso:SoR l)(h:Heap)(r:Nat)(hr:h[r]? =some (.var 159 (xI l))):
  ECall prog G0 247 [.ms r 0 2 l.length,kP] h fun _ h'=>h'=h:=by
 refine pv func247 9 false Qf6 rfl rfl ?_;refine g2 ?_;refine ge ?_;(refine Go.AL.g1 ?_;refine zC (zpU l hl hok hso h r hr) ?_;intro p2 h2 hr2;refine Go.AL.g2 ?_);rw[hr2];clear hr2;refine ge ?_;rfl
def Rw.can(x:Rw):Prop:=SpC x.w/\x.w≠[]
def CanL(l:List Rw):Prop:=SoR l/\ ∀x∈l,x.can
open URsx2f173 in
theorem zmS(l:List Rw)(hl:l.length<=68719476736)(hok: ∀x∈l,x.ls)(hcan:CanL l)(hne:0<l.length):
  EPure prog G0 173 [uN l] fun p=>p=uN l:=by
 obtain⟨hso,hca⟩:=hcan;refine ECall.cutW (R:=fun p h=> ∃q:Nat,p= .vec q 2 (l.map Rw.c)) (pv func173 60 false Qf6 rfl rfl ?_) ?_;refine g2 ?_
 ·refine ge ?_;(refine Go.AL.g1 ?_;refine zC (dZ l hne Qf3 _) ?_;intro p2 h2 hr2;refine Go.AL.g2 ?_);obtain⟨rfl,rfl⟩:=hr2;refine ge ?_;(refine Go.AL.g1 ?_;refine zC (zhY l Qf3 (fun x hx=>(hok x hx).ok) hso _ 0 rfl) ?_;intro p2 h2 hr2;refine Go.AL.g2 ?_);subst hr2;refine ge ?_;refine zW (K4 (.v:: .v:: .d:: .d::K4 (D9 (D9 (D9 (D9 (D9 (.d:: .d:: .k::[])))))))) (fun (s:Nat×PV×Heap)=>[s.2.1,i64 s.1]) (fun s=> .var 159 (xI l)::s.2.2) (fun s=>s.1<=l.length/\GrowN 1 159 ((l.take s.1).map Rw.c) 2 s.2.2 s.2.1) (fun s=>l.length-s.1) (own:=false) (0,.nil,[]) rfl rfl ⟨Yn _,.inl ⟨rfl,rfl⟩⟩ ?_;rintro⟨i,V,J⟩ ⟨hi,hG⟩ t ht;dsimp only at hi hG;simp only[zY] at ht;subst ht;by_cases hlt:i<l.length
  ·have hlt1:(i:Int)<(l.length:Int):=Qf3;have F:=(a4 @hlt @hlt1 @xK @zB)
   have hls:=hok _ (Qc hlt);obtain⟨hsp,hwn⟩:=hca _ (Qc hlt);have g1:=xG l i hlt;have g3:=zi2 l i hlt;have g4:=zzW l i hlt;have hby:=uS l[i] l[i] hls.ok hls.ok;rw[zd5] at hby;have hnext: ∀hk:i+1<l.length,sD l[i].args l[i+1].args<0:=fun hk=>hso i (i+1) Qf3 hk;have hby2: ∀hk:i+1<l.length,EPure prog G0 147 [.agg l[i].c,.agg l[i+1].c] fun p=>p=i64 (sD l[i].args l[i+1].args):=fun hk=>uS l[i] l[i+1] hls.ok (hok _ (Qc hk)).ok;have hst:(l.take (i+1)).map Rw.c=(l.take i).map Rw.c++[l[i].c]:=by rw[Xh hlt,Xq];rfl
   have hgl:((l.take i).map Rw.c).length=i:=Qfk;generalize l[i]=x at*;obtain⟨xa,xw⟩:=x;dsimp only at*;have hw64:xw.length<=64:=hls.w;have hwp:0<xw.length:=Up.2 hwn;have hwp1:(0:Int)<(xw.length:Int):=Qf3;have hOf:=Of_x xw (by have:=hls.w;dsimp only at this;omega);rw[sT hsp] at hOf;have mM:=iK xa (by have:=hls.al;dsimp only at this;omega) (zaJ 38 _);refine gf (a2 @hlt @hlt1) ?_;refine zW (K4 (.k:: .k:: .v:: .v::K9 (D9 (D9 (D4 (.d:: .d:: .d::K9 (K9 ([])))))))) (fun (s:Nat×PV×Heap)=>[s.2.1,i64 s.1]) (fun s=> .var 159 (xI l)::s.2.2) (fun s=>s=(i,.nil,J)\/s=(i+1,.vec (J.length+1) 2 (xw.map Sp.c),J++[.vec 54 2 xw.length])) (fun s=>l.length-s.1) (own:=false) (i,.nil,J) rfl rfl (.inl rfl) ?_;rintro _ (rfl|rfl) t ht
   ·dsimp only at*;simp only[zY] at ht;subst ht;have wk:IntKind.i64.wrap ((i:Int)+1)=((i+1:Nat):Int):=Qgn;(repeat(first|refine gz ?_|(refine gn ?_;intro zs zh;(try simp only[go_sem,F,g1,g3,wk] at zh);subst zh;(first|refine gv ?_|((first|refine zC (hby.call zK Qfe _) ?_|refine zP Qf5 Qf5 (hby.call zK Qfe _) ?_);intro p2 h2 hr2;obtain⟨hr2,rfl⟩:=hr2;first|obtain⟨_,rfl,hr2⟩:=hr2|obtain⟨_,rfl⟩:=hr2|subst hr2|skip)))|refine yD URsx2f173.pl ?_));exact⟨(i+1,.vec (J.length+1) 2 (xw.map Sp.c),J++[.vec 54 2 xw.length]),.inr rfl,by dsimp only;omega,rfl,rfl,rfl⟩
   ·dsimp only at*;simp only[zY] at ht;subst ht;have hple:PLe (.vec (J.length+1) 2 (xw.map Sp.c)) (kJ xw):=PLe.vec_ts _ _ _;have fin: ∀(V':PV)(J':Heap),GrowN 1 159 ((l.take (i+1)).map Rw.c) 2 J' V'->i+1<=l.length/\GrowN 1 159 ((l.take (i+1)).map Rw.c) 2 J' V':=fun V' J' h=>⟨Qf3,h⟩
    by_cases hk:i+1<l.length
    ·have hk1:(((i+1:Nat):Int)<(l.length:Int)):=Qf3;have g2:=xG l (i+1) hk;have hc:=hnext hk;have hby3:=hby2 hk;generalize l[i+1]=y at*;have hcb:(sD xa y.args==0)=false:=Qfu;generalize sD xa y.args=c at*;(repeat(first|refine gz ?_|(refine gn ?_;intro zs zh;(try simp only[go_sem,F,hk,hk1,g1,g2,hcb] at zh);subst zh;(first|refine gv ?_|((first|refine zC (hby3.call zK Qfe _) ?_|refine zP Qf5 Qf5 (hby3.call zK Qfe _) ?_);intro p2 h2 hr2;obtain⟨hr2,rfl⟩:=hr2;first|obtain⟨_,rfl,hr2⟩:=hr2|obtain⟨_,rfl⟩:=hr2|subst hr2|skip)))|refine yD URsx2f173.pl ?_));exact Qa4
    ·have hk1: ¬(((i+1:Nat):Int)<(l.length:Int)):=Qf3;refine gf (a2 @hk @hk1) ?_;exact Qa4
  ·have hlt1: ¬((i:Int)<(l.length:Int)):=Qf3;have:i=l.length:=Qf3;subst this;rw[Yt] at hG;refine gf (a2 @hlt @hlt1) ?_;rcases hG with ⟨he,rfl⟩|⟨q,rfl,hq⟩
   ·exfalso;simp at he;subst he;simp at hne
   ·exact⟨_,rfl⟩
 ·rintro p h ⟨q,rfl⟩;exact⟨uN l,by rw[rF (rE 36 l)];exact PLe.refl _,rfl,yP 40 _ (rE 36 l)⟩
@[go_sem] def URsx3f245.pl:Nat->DPlan
 |3=>⟨[yB,yA,yB,yB,yA,yB,yC,yA],zqS,0⟩
 |9=>⟨[⟨1,0,[1004]⟩,yA,⟨1,0,[1004]⟩,⟨1,0,[1004]⟩,yA,⟨5,1004,[]⟩,yC],tV,0⟩
 |11=>⟨[⟨1,0,[1005]⟩,yA,⟨1,0,[1005]⟩,⟨1,0,[1005]⟩,yA,⟨5,1005,[]⟩,yC],tV,0⟩
 |_=>⟨[],[],0⟩
def yT:Nat->List Rw->List Rw->List (Rw×Rw)
 |0,_,_=>[]
 |_+1,[],[]=>[]
 |n+1,[],y::b=>(⟨y.args,[]⟩,y)::yT n [] b
 |n+1,x::a,[]=>(x,⟨[],[]⟩)::yT n a []
 |n+1,x::a,y::b=>if sD x.args y.args<0 then(x,⟨[],[]⟩)::yT n a (y::b) else if sD x.args y.args=0 then(x,y)::yT n a b else(⟨y.args,[]⟩,y)::yT n (x::a) b
theorem zoE{ι:Type}{I:ι->PV->Heap->Prop}(hA: ∀m V J b,I m V J->I m V (J++[b])){m:ι}{V:PV}{J:Heap}(h:I m V J)(b c:Blk):I m V (J++[b,c]):=by
 have:=hA m V _ c (hA m V J b h)
 rwa [Qv] at this
theorem vK: ∀(n:Nat)(a b:List Rw),(yT n a b).length<=n
 |0,_,_=>Xe _
 |n+1,[],[]=>Yn _
 |n+1,[],y::b=>by simp only[yT,Qn];have:=vK n [] b;omega
 |n+1,x::a,[]=>by simp only[yT,Qn];have:=vK n a [];omega
 |n+1,x::a,y::b=>by
  have h1:=vK n a (y::b);have h2:=vK n a b;have h3:=vK n (x::a) b;simp only[yT];split
  ·simp only[Qn];omega
  ·split<;>simp only[Qn]<;>omega
theorem zpG(n:Nat):yT n [] []=[]:=by cases n<;>rfl
open URsx3f245 in
theorem zpX(P:List (Rw×Rw))(B0 L:Blk)(I:List (Rw×Rw)->PV->Heap->Prop)(hA: ∀m V J b,I m V J->I m V (J++[b]))
  (hy: ∀a b pre post V J (x y:Rw),I pre V J->pre++(x,y)::post=P->x.w.length<=64->y.w.length<=64->EYl prog G0 4 [.agg x.c,.agg y.c] (B0:: .var 95 [V]:: .var 95 [uN a]:: .var 95 [uN b]::L::J) fun p h'=>p=bo true/\ ∃V' J',h'=(B0:: .var 95 [V']:: .var 95 [uN a]:: .var 95 [uN b]::L::J')/\I (pre++[(x,y)]) V' J')
  (a b:List Rw) (ha: ∀x∈a,x.w.length<=64) (hb: ∀x∈b,x.w.length<=64) (hoa: ∀x∈a,x.ok) (hob: ∀x∈b,x.ok) (hP:yT (a.length+b.length) a b=P) (hl:a.length+b.length<=140737488355328) (V:PV) (J:Heap) (hI:I [] V J):
  ECall prog G0 245 [.yl 4,.ptr 2 0,.ptr 3 0] (B0:: .var 95 [V]:: .var 95 [uN a]:: .var 95 [uN b]::L::J) fun _ h'=> ∃a' b' V' J',h'=(B0:: .var 95 [V']:: .var 95 [uN a']:: .var 95 [uN b']::L::J')/\I P V' J':=by
 refine pv func245 52 false Qf6 rfl rfl ?_;refine g2 ?_;refine ge ?_;refine zW (K4 (D9 (D9 (D9 (D9 (D9 (.d:: .d:: .d::[]))))))) (fun (s:List Rw×List Rw×List (Rw×Rw)×PV×Heap)=>[]) (fun s=>(B0:: .var 95 [s.2.2.2.1]:: .var 95 [uN s.1]:: .var 95 [uN s.2.1]::L::s.2.2.2.2)) (fun s=>(∃n,s.1.length+s.2.1.length<=n/\n<=a.length+b.length/\s.2.2.1++yT n s.1 s.2.1=P)/\(∀x∈s.1,x.w.length<=64)/\(∀x∈s.2.1,x.w.length<=64)/\(∀x∈s.1,x.ok)/\(∀x∈s.2.1,x.ok)/\I s.2.2.1 s.2.2.2.1 s.2.2.2.2) (fun s=>s.1.length+s.2.1.length) (own:=false) (a,b,[],V,J) rfl rfl ⟨⟨_,Xe _,Xe _,hP⟩,ha,hb,hoa,hob,hI⟩ ?_;rintro⟨a1,b1,m,V1,J1⟩ ⟨⟨n,hm,hnN,hmP⟩,ha1,hb1,hoa1,hob1,hI1⟩ t ht;dsimp only at hm hmP ha1 hb1 hoa1 hob1 hI1;simp only[zY] at ht;subst ht;have hw:IntKind.i64.wrap ((a1.length:Int)+b1.length)=((a1.length+b1.length:Nat):Int):=Qgx;cases a1 with
 | nil=>
  cases b1 with
  |nil=>
   have zj6:IntKind.i64.wrap (((0:Nat):Int)+((0:Nat):Int))=((0:Nat):Int):=Qgx;have hc: ¬((0:Int)<((0:Nat):Int)):=Qf3;refine gf (Go.AL.a2 @zj6 @hc) ?_;rw[zpG,Xz] at hmP;exact⟨[],[],V1,J1,rfl,hmP▸hI1⟩
  |cons y b2=>
   simp only[Qn,Xv] at hm;obtain⟨n,rfl⟩: ∃k,n=k+1:=⟨n-1,Qf3⟩
   simp only[yT] at hmP;have zj6:IntKind.i64.wrap (((0:Nat):Int)+((b2.length+1:Nat):Int))=((b2.length+1:Nat):Int):=Qgx;have hc:(0:Int)<((b2.length+1:Nat):Int):=Qf3;have he:(((0:Nat):Int)==0)=true:=rfl;have hkb:=(hb1 y (Qe ..))
   have htb1:=fun x hx=>hb1 x (Qf y hx);have htb2:=fun x hx=>hob1 x (Qf y hx);refine zjA (a9 @zj6 @hc @he @wH @zA @zX @tG @wG (Go.AL.a2 @set2 @wF)) ?_;(refine wU ?_;intro sr hsr;simp only[go_sem,wH,zA,zX,tG,wG,set2,wF,Xa,Qn] at hsr;subst hsr;refine rC rfl Qhu (EYl.args (hy [] b2 m _ V1 _ ⟨y.args,[]⟩ y (zoE hA hI1 _ _) hmP Qf4 hkb) (.cons (PLes.agg (.cons (PLe.refl _) (.cons (PLe.nil_ts 2) .nil))) (.cons (PLe.refl _) .nil))) ?_;intro p2 h2 hr2;refine Go.AL.g2 ?_);obtain⟨rfl,V2,J2,rfl,hI2⟩:=hr2;refine ge ?_;exact⟨([],b2,m++[(⟨y.args,[]⟩,y)],V2,J2),⟨⟨n,by dsimp only;(try simp only[Xv,Qn] at hm ⊢);omega,Qf3,by rw[Qv];exact hmP⟩,Qf4,htb1,Qf4,htb2,hI2⟩,by dsimp only;simp only[Xv,Qn]<;>omega,rfl,rfl,rfl⟩
 | cons x a2=>
  cases b1 with
  |nil=>
   simp only[Qn,Xv] at hm;obtain⟨n,rfl⟩: ∃k,n=k+1:=⟨n-1,Qf3⟩
   simp only[yT] at hmP;have zj6:IntKind.i64.wrap (((a2.length+1:Nat):Int)+((0:Nat):Int))=((a2.length+1:Nat):Int):=Qgx;have hc:(0:Int)<((a2.length+1:Nat):Int):=Qf3;have he:(((0:Nat):Int)==0)=true:=rfl;have he2:(((a2.length+1:Nat):Int)==0)=false:=Qfk;have hka:=(ha1 x (Qe ..))
   have hta1:=fun z hz=>ha1 z (Qf x hz);have hta2:=fun z hz=>hoa1 z (Qf x hz);refine zjA (a9 @zj6 @hc @he @he2 @wH @zA @zX @tG (a3 @wG @set2 @wF)) ?_;(refine wU ?_;intro sr hsr;simp only[go_sem,wH,zA,zX,tG,wG,set2,wF,Xa,Qn] at hsr;subst hsr;refine rC rfl Qhu (EYl.args (hy a2 [] m _ V1 _ x ⟨[],[]⟩ (zoE hA hI1 _ _) hmP hka Qf4) (.cons (PLe.refl _) (.cons (PLes.agg (.cons (PLe.nil_ts 3) (.cons (PLe.nil_ts 2) .nil))) .nil))) ?_;intro p2 h2 hr2;refine Go.AL.g2 ?_);obtain⟨rfl,V2,J2,rfl,hI2⟩:=hr2;refine ge ?_;exact⟨(a2,[],m++[(x,⟨[],[]⟩)],V2,J2),⟨⟨n,by dsimp only;(try simp only[Xv,Qn] at hm ⊢);omega,Qf3,by rw[Qv];exact hmP⟩,hta1,Qf4,hta2,Qf4,hI2⟩,by dsimp only;simp only[Xv,Qn]<;>omega,rfl,rfl,rfl⟩
  | cons y b2=>
   simp only[Qn,Xv] at hm;obtain⟨n,rfl⟩: ∃k,n=k+1:=⟨n-1,Qf3⟩
   simp only[yT] at hmP;have zj6:IntKind.i64.wrap (((a2.length+1:Nat):Int)+((b2.length+1:Nat):Int))=((a2.length+1+(b2.length+1):Nat):Int):=Qgx;have hc:(0:Int)<((a2.length+1+(b2.length+1):Nat):Int):=Qf3;have he:(((b2.length+1:Nat):Int)==0)=false:=Qfk;have he2:(((a2.length+1:Nat):Int)==0)=false:=Qfk;have F:=(a9 @zj6 @hc @he @he2 @zA @zX @tG @wG (Go.AL.a2 @set2 @wF))
   have hka:=(ha1 x (Qe ..))
   have hta1:=fun z hz=>ha1 z (Qf x hz);have hta2:=fun z hz=>hoa1 z (Qf x hz);have hkb:=(hb1 y (Qe ..))
   have htb1:=fun x hx=>hb1 x (Qf y hx);have htb2:=fun x hx=>hob1 x (Qf y hx);have hby:=uS x y (hoa1 x (Qe ..)) (hob1 y (Qe ..));generalize hcc:sD x.args y.args=c at*;rcases Int.lt_trichotomy c 0 with h0|h0|h0
   ·rw[Qj h0] at hmP;have n1:c<=0:=Qf3;have n2: ¬(0<=c):=Qf3;have n3: ¬(0<c):=Qf3;(repeat(first|refine gz ?_|(refine gn ?_;intro zs zh;(try simp only[go_sem,F,n1,n2,n3,wH,Xa,Qn] at zh);subst zh;(first|refine gv ?_|((first|refine zC (hby.call zK Qfe _) ?_|refine zP Qf5 Qf5 (hby.call zK Qfe _) ?_);intro p2 h2 hr2;obtain⟨hr2,rfl⟩:=hr2;first|obtain⟨_,rfl,hr2⟩:=hr2|obtain⟨_,rfl⟩:=hr2|subst hr2|skip)))|refine yD URsx3f245.pl ?_));(refine wU ?_;intro sr hsr;simp only[go_sem,wH,zA,zX,tG,wG,set2,wF,Xa,Qn] at hsr;subst hsr;refine rC rfl Qhu (EYl.args (hy a2 (y::b2) m _ V1 _ x ⟨[],[]⟩ (zoE hA hI1 _ _) hmP hka Qf4) (.cons (PLe.refl _) (.cons (PLes.agg (.cons (PLe.nil_ts 3) (.cons (PLe.nil_ts 2) .nil))) .nil))) ?_;intro p2 h2 hr2;refine Go.AL.g2 ?_);obtain⟨rfl,V2,J2,rfl,hI2⟩:=hr2;refine ge ?_;exact⟨(a2,(y::b2),m++[(x,⟨[],[]⟩)],V2,J2),⟨⟨n,by dsimp only;(try simp only[Xv,Qn] at hm ⊢);omega,Qf3,by rw[Qv];exact hmP⟩,hta1,hb1,hta2,hob1,hI2⟩,by dsimp only;simp only[Xv,Qn]<;>omega,rfl,rfl,rfl⟩
   ·subst h0;rw[Qi Qf3,Qj rfl] at hmP;have n1:(0:Int)<=0:=Qf3;have n3: ¬((0:Int)<0):=Qf3;(repeat(first|refine gz ?_|(refine gn ?_;intro zs zh;(try simp only[go_sem,F,n1,n3,wH,Xa,Qn] at zh);subst zh;(first|refine gv ?_|((first|refine zC (hby.call zK Qfe _) ?_|refine zP Qf5 Qf5 (hby.call zK Qfe _) ?_);intro p2 h2 hr2;obtain⟨hr2,rfl⟩:=hr2;first|obtain⟨_,rfl,hr2⟩:=hr2|obtain⟨_,rfl⟩:=hr2|subst hr2|skip)))|refine yD URsx3f245.pl ?_));(refine wU ?_;intro sr hsr;simp only[go_sem,wH,zA,zX,tG,wG,set2,wF,Xa,Qn] at hsr;subst hsr;refine rC rfl Qhu (EYl.args (hy a2 b2 m _ V1 _ x y (zoE hA hI1 _ _) hmP hka hkb) (.cons (PLe.refl _) (.cons (PLe.refl _) .nil))) ?_;intro p2 h2 hr2;refine Go.AL.g2 ?_);obtain⟨rfl,V2,J2,rfl,hI2⟩:=hr2;refine ge ?_;exact⟨(a2,b2,m++[(x,y)],V2,J2),⟨⟨n,by dsimp only;(try simp only[Xv,Qn] at hm ⊢);omega,Qf3,by rw[Qv];exact hmP⟩,hta1,htb1,hta2,htb2,hI2⟩,by dsimp only;simp only[Xv,Qn]<;>omega,rfl,rfl,rfl⟩
   ·rw[Qi Qf3,Qi Qf3] at hmP;have n1: ¬(c<=0):=Qf3;have n2:0<=c:=Qf3;(repeat(first|refine gz ?_|(refine gn ?_;intro zs zh;(try simp only[go_sem,F,n1,n2,h0,wH,Xa,Qn] at zh);subst zh;(first|refine gv ?_|((first|refine zC (hby.call zK Qfe _) ?_|refine zP Qf5 Qf5 (hby.call zK Qfe _) ?_);intro p2 h2 hr2;obtain⟨hr2,rfl⟩:=hr2;first|obtain⟨_,rfl,hr2⟩:=hr2|obtain⟨_,rfl⟩:=hr2|subst hr2|skip)))|refine yD URsx3f245.pl ?_));(refine wU ?_;intro sr hsr;simp only[go_sem,wH,zA,zX,tG,wG,set2,wF,Xa,Qn] at hsr;subst hsr;refine rC rfl Qhu (EYl.args (hy (x::a2) b2 m _ V1 _ ⟨y.args,[]⟩ y (zoE hA hI1 _ _) hmP Qf4 hkb) (.cons (PLes.agg (.cons (PLe.refl _) (.cons (PLe.nil_ts 2) .nil))) (.cons (PLe.refl _) .nil))) ?_;intro p2 h2 hr2;refine Go.AL.g2 ?_);obtain⟨rfl,V2,J2,rfl,hI2⟩:=hr2;refine ge ?_;exact⟨((x::a2),b2,m++[(⟨y.args,[]⟩,y)],V2,J2),⟨⟨n,by dsimp only;(try simp only[Xv,Qn] at hm ⊢);omega,Qf3,by rw[Qv];exact hmP⟩,ha1,htb1,hoa1,htb2,hI2⟩,by dsimp only;simp only[Xv,Qn]<;>omega,rfl,rfl,rfl⟩
def yX(op:Nat->Nat->Nat)(P:List (Rw×Rw)):List Rw:=P.filterMap fun q=>if yW (op (uQ q.1.w) (uQ q.2.w))=[] then none else some ⟨q.1.args,yW (op (uQ q.1.w) (uQ q.2.w))⟩
theorem zoZ(l:List Rw)(hl:l.length<=68719476736)(hok: ∀x∈l,x.ls)(hcan:CanL l):EPure prog G0 173 [uN l] fun p=>p=uN l:=by
 cases l with
 |nil=>exact gH
 |cons x l=>exact zmS _ hl hok hcan Qf4
theorem zhC(op:Nat->Nat->Nat)(g:FuncId)(hg:MomX g op)(a b:List Rw)(hal:a.length<=68719476736)(hbl:b.length<=68719476736)(ha: ∀x∈a,x.ls)(hb: ∀x∈b,x.ls)(hca:CanL a)(hcb:CanL b):
  EPure prog G0 117 [uN a,uN b,.fn (.func g) [] []] fun p=>p=uN (yX op (yT (a.length+b.length) a b)):=by
 obtain⟨P,hP⟩: ∃P,yT (a.length+b.length) a b=P:=⟨_,rfl⟩
 rw[hP];refine ECall.cutW (R:=fun p h=> ∃(q:Nat),(p= .nil/\yX op P=[]\/p= .vec q 2 ((yX op P).map Rw.c))) (pv func117 35 false Qf6 rfl rfl ?_) ?_;refine g2 ?_
 ·refine ge ?_;(refine g1 ?_;refine zC ((zoZ a hal ha hca).call zK Qf4 _) ?_;intro p2 h2 hr2;refine g2 ?_);obtain⟨rfl,rfl⟩:=hr2;refine ge ?_;(refine g1 ?_;refine zC ((zoZ b hbl hb hcb).call zK Qf4 _) ?_;intro p2 h2 hr2;refine g2 ?_);obtain⟨rfl,rfl⟩:=hr2;refine ge ?_;(refine g1 ?_;refine zC (zfL a b _) ?_;intro p2 h2 hr2;refine g2 ?_);obtain⟨rfl,rfl⟩:=hr2;refine ge ?_;refine tT (f:=245) (fst:=[]) (cap:=[.ptr 2 0,.ptr 3 0]) (fun _ h=>h) rfl ?_;simp only[Jc,Xx,Yj,Xz,Qn,Xv,Yd,Nat.reduceAdd,Ui];generalize hL:Blk.loop _ _ _ _ _ _=L;refine(zpX P _ L (fun m V J=>GrowN 5 159 ((yX op m).map Rw.c) 2 J V) ?_ ?_ a b (fun x hx=>(ha x hx).w) (fun x hx=>(hb x hx).w) (fun x hx=>(ha x hx).ok) (fun x hx=>(hb x hx).ok) hP Qf3 .nil [] (.inl ⟨rfl,rfl⟩)).mono ?_
  ·rintro m V J b0 (h|⟨q,h1,hq⟩)
   ·exact .inl h
   ·exact Qdk
  ·rintro a2 b2 m post V J x y hG hpre hxw hyw;subst hL;have hst:yX op (m++[(x,y)])=yX op m++if yW (op (uQ x.w) (uQ y.w))=[] then [] else [⟨x.args,yW (op (uQ x.w) (uQ y.w))⟩]:=by
    unfold yX;rw[Uj];congr 1;simp only[Kc,List.filterMap_nil];split<;>rename_i h<;>split at h<;>simp_all
   have hol:(yX op m).length<=137438953472:=by
    have h1:(yX op m).length<=m.length:=Kz ..;have h2:=vK (a.length+b.length) a b;rw[hP,<-hpre,Ql] at h2;omega
   generalize yX op (m++[(x,y)])=o2 at*;generalize yX op m=o at*;refine⟨_,_,_,_,_,_,rfl,rfl,?_⟩;refine Qct ?_;simp only[rput,Xn,Xl];refine gf (a6 @zA @zX @tG @wG @set2 @wF) ?_;refine⟨rfl,_,_,_,_,_,rfl,?_⟩;refine Qct ?_;simp only[Xn,Xl];refine gf (a6 @zA @zX @tG @wG @set2 @wF) ?_;(refine g1f (a6 @zA @zX @tG @wG @set2 @wF) ?_;refine zC ((hg x.w y.w Qf3 Qf3).call zK Qf4 _) ?_;intro p2 h2 hr2;refine g2 ?_);obtain⟨rfl,rfl⟩:=hr2;generalize yW (op (uQ x.w) (uQ y.w))=w2 at*;by_cases hz:0<w2.length
   ·have hz1:(0:Int)<(w2.length:Int):=Qf3;have F:=(a8 @hz @hz1 @zA @zX @tG @wG @set2 @wF)
    rw[Qi (Up.1 hz)] at hst;subst hst;rcases hG with ⟨he,rfl⟩|⟨q,rfl,hq⟩
    ·have hon:o=[]:=Qg4;subst hon;exact Qdp
    ·simp only[Qs] at hq;have hqR:q<J.length:=(gsi hq).1;have hq2: ∀z z',(J++[z,z'])[q]? =some (.vec 159 2 o.length):=fun z z'=>by rw[Qg hqR];exact hq
     refine gf (Go.AL.a2 F @hq2) ?_;refine⟨_,_,_,_,_,_,rfl,rfl,_,_,rfl,.inr ⟨q,by rw[Xq];rfl,?_⟩⟩;rw[Qh Qfk];simp
   ·have hz1: ¬((0:Int)<(w2.length:Int)):=Qf3;rw[Qj (Xi Qf3),Xz] at hst;subst hst;refine gf (a8 @hz @hz1 @zA @zX @tG @wG @set2 @wF) ?_;refine⟨_,_,_,_,_,_,rfl,rfl,_,_,rfl,?_⟩;rcases hG with h|⟨q,h1,hq⟩
    ·exact .inl h
    ·exact Qdk
  ·rintro p h ⟨a2,b2,V,J,rfl,hG⟩;subst hL;refine⟨_,_,_,_,_,_,rfl,Qf4,?_⟩;simp only[Xn,Xl];refine ge ?_;rcases hG with ⟨he,rfl⟩|⟨q,rfl,hq⟩
   ·exact⟨0,.inl ⟨rfl,by simpa using he⟩⟩
   ·exact⟨q+5,.inr rfl⟩
 ·rintro p h ⟨q,⟨rfl,he⟩|rfl⟩
  ·exact⟨uN [],by rw[iQ];exact PLe.nil_ts 2,by rw[he],by simp[xX]⟩
  ·exact⟨uN (yX op P),by rw[rF (rE 36 _)];exact PLe.refl _,rfl,yP 40 _ (rE 36 _)⟩
end Go.AL
