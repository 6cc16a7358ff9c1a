/-
  Part of the walk.
-/
import Derived.Test.YtlcjmejclpilhaaGreatDoorV23
set_option linter.unusedSimpArgs false
set_option linter.unusedVariables false
set_option maxRecDepth 100000
set_option maxHeartbeats 4000000
namespace Go.AL
open Go.Proofs Go.Proofs.Tryz
@[go_sem] def UWrd2f155.pp:Nat->DPlan
 |5=>⟨[yA,yA,yB,uX,yA,yB,yC,yA,yA,yA],xS,0⟩
 |_=>⟨[],[],0⟩
@[go_sem] def UWrd2f106.pl:Nat->DPlan
 |6=>⟨[yA,yA,yA,yB,yA,yA,yA,yB,yA],uW,0⟩
 |_=>⟨[],[],0⟩
@[go_sem] def UWrd2f155.pl:Nat->DPlan
 |5=>⟨[yA,yA,yB,⟨6,0,[1005]⟩,yA,⟨7,0,[1005]⟩,yC,yA,yA,yA],xS,0⟩
 |_=>⟨[],[],0⟩
theorem zo1(n:Int):EPure prog G0 206 [i64 n] fun p=>p=u64 (zo3 n:Nat):=by
 refine ECall.pure (pv func206 12 false Qf3 rfl rfl ?_);refine g2 ?_;by_cases h1:n<=0
 ·have e1:decide (n<=0)=true:=Qfa;have hb:zo3 n=0:=by unfold zo3;rw[Qj h1]
  rw[hb];refine gf @e1 ?_;exact Qaa
 have e1:decide (n<=0)=false:=Qfh;by_cases h2:64<=n
 ·have e2:decide (64<=n)=true:=Qff;have hb:zo3 n=2 ^ 64-1:=by unfold zo3;rw[Qi h1,Qj h2]
  rw[hb];refine gf (a2 @e1 @e2) ?_;exact Qaa
 have e2:decide (64<=n)=false:=Qfh;have hb:zo3 n=2 ^ n.toNat-1:=by unfold zo3;rw[Qi h1,Qi h2]
 rw[hb];obtain⟨k,rfl⟩:=Qm (show 0<=n by omega);rw[Xw];refine gf (a2 @e1 @e2) ?_;have e3:IntKind.u64.wrap (IntKind.u64.wrap (1*2 ^ min k 64)-1)=((2 ^ k-1:Nat):Int):=by
  have hk:min k 64=k:=Qf0;have h3:2 ^ k<=2 ^ 63:=Yy Qf2 Qf0;have h4:(2:Nat) ^ 63=9223372036854775808:=Qf2;have h5:=Wa k;have h6:(1:Int)*2 ^ k=((2 ^ k:Nat):Int):=by rw[Int.one_mul];norm_cast
  rw[hk,h6];generalize 2 ^ k=q at*;rw[IntKind.wrap_u64,IntKind.wrap_u64];omega
 rw[e3];exact Qaa
theorem zrN:(2:Nat) ^ 64=18446744073709551616:=Qf2
open UWrd2f155 in
theorem zo5(l:List Sp)(hl:l.length<=140737488355328):EPure prog G0 155 [kJ l] fun p=>p=u64 (uQ l:Nat):=by
 refine ECall.cut (R:=fun p _=>p=u64 (uQ l:Nat)) (pv func155 23 false Qf3 rfl rfl ?_) Qgi;refine g2 ?_;refine ge ?_;refine zO l.length (.k:: .k:: .k:: .v:: .k:: .d:: .k:: .k:: .v::D9 (D4 (.k::[]))) (own:=false) (fun i (s:Nat×Heap)=>[u64 s.1,i64 i]) (fun s=>s.2) (fun i s=>s.1=uQ (l.take i)) (0,_) rfl rfl rfl hl ?_ ?_
 ·rintro⟨w,J⟩ hI t ht;dsimp only at hI;subst hI;simp only[zY] at ht;subst ht;rw[Yt];exact Qd9
 ·rintro i ⟨w,J⟩ hi hw hI t ht;dsimp only at hI;simp only[zY] at ht;subst ht;have hg:=zG (f:=Sp.c) [] hi;have F:=(a6 @hi @hw @hg @zB @zA @zX)
  have hst:uQ (l.take (i+1))=uQ (l.take i) ||| zo2 l[i]:=by
   unfold uQ;rw[Xh hi,Jn];rfl
  have hwl:w<18446744073709551616:=by rw[hI,<-zrN];exact wB _
  rw[<-hI] at hst;generalize l[i]=x at*;have b1:zo3 x.b<18446744073709551616:=by rw[<-zrN];exact zoL _
  have b2:zo3 x.a<18446744073709551616:=by rw[<-zrN];exact zoL _
  have e1:=u64_andNot_nat _ _ b1 b2;have e2:zo3 x.b &&& (18446744073709551615-zo3 x.a)=zo2 x:=rfl;rw[e2] at e1;have e3:=u64_or_nat w (zo2 x) hwl (by rw[<-zrN];exact zoI _);rw[<-hst] at e3;have B1:=zo1 x.b;have B2:=zo1 x.a;generalize zo3 x.b=y1 at*;generalize zo3 x.a=y2 at*;refine Qdi ?_;(refine yf1 @zA ?_;refine vP rfl (B1) Qf1 ?_;intro p2 hr2 ts2 hts;simp only[go_sem] at hts;subst hts);subst hr2;refine Qdi ?_;(refine yf1 @zA ?_;refine zP Qf2 Qf2 (B2.call zK Qf1 _) (yf0 ?_);rintro p2 h2 ⟨rfl,rfl⟩);(repeat(first|refine gz ?_|(refine gn ?_;intro zs zh;(try simp only[go_sem,F,e1,e3] at zh);subst zh;refine gv ?_)|refine yD UWrd2f155.pp ?_));exact⟨(_,_),rfl,Qh1,rfl,rfl⟩
theorem zqM(a b:Nat)(ha:a<2 ^ 64)(hb:b<2 ^ 64):EPure prog G0 174 [.ts 1 ([a,b].map fun n:Nat=>[u64 n])] fun p=>p=u64 (a &&& b:Nat):=by
 have h1:=u64_and_nat 18446744073709551615 a Qf2 (by rw[<-zrN];exact ha);have e1:18446744073709551615 &&& a=a:=by
  have:=Nat.and_two_pow_sub_one_of_lt_two_pow ha;rw[Nat.and_comm];exact this
 rw[e1,show((18446744073709551615:Nat):Int)=18446744073709551615 from rfl] at h1;have h2:=u64_and_nat a b (by rw[<-zrN];exact ha) (by rw[<-zrN];exact hb);refine ECall.pure (pv func174 17 false Qf3 rfl rfl ?_);refine g2 ?_;refine ge ?_;refine zO 2 (.k:: .k:: .k:: .v:: .k:: .d:: .k:: .k:: .v::D4 (.d:: .d:: .d:: .k::[])) (own:=false) (fun i (s:Int)=>[u64 s,i64 i]) (fun s=>_) (fun i s=>s=if i=0 then 18446744073709551615 else if i=1 then(a:Int) else((a &&& b:Nat):Int)) 18446744073709551615 rfl rfl rfl Qf2 ?_ ?_
 ·rintro w rfl;refine gm ?_;refine gf @zM ?_;exact Qaa
 ·rintro i w hi hw rfl;refine gm ?_;have hi2:i=0\/i=1:=Qf0;rcases hi2 with rfl|rfl
  ·refine gf (a3 @hw @zB @h1) ?_;exact⟨(a:Int),Qf1,rfl,rfl,rfl⟩
  ·refine gf (a3 @hw @zB @h2) ?_;exact⟨((a &&& b:Nat):Int),Qf1,rfl,rfl,rfl⟩
theorem zqX(w:Nat)(hw:w<2 ^ 64)(r:Nat)(J:List Sp->Heap->Prop)(h0:Heap)(hJ:J [] h0)
  (hy: ∀pre s h,pre.length<64->J pre h->EYl prog G0 r [.agg s.c] h fun p h'=>p=bo true/\J (pre++[s]) h'):ECall prog G0 230 [u64 w,.yl r] h0 fun _ h'=>J (yW w) h':=by
 refine pv func230 34 false Qf3 rfl rfl ?_;refine g2 ?_;refine ge ?_;refine zW (K4 (.v::D9 (D9 (D9 (.d:: .d::[]))))) (fun (s:Nat×List Sp×Heap)=>[i64 s.1]) (fun s=>s.2.2) (fun s=>s.1<64/\s.2.1.length<=s.1/\J s.2.1 s.2.2/\ ∃f,64-s.1<f/\s.2.1++zaP w f s.1=yW w) (fun s=>64-s.1) (own:=false) (0,[],h0) rfl rfl ⟨Nat.zero_lt_succ _,Xe _,hJ,65,by show 64-0<65;decide,rfl⟩ ?_;rintro⟨a,n,h⟩ ⟨ha,hn,hJn,f,hf,hfe⟩ t ht;dsimp only at ha hn hJn hf hfe;obtain⟨f,rfl⟩: ∃g,f=g+1:=⟨f-1,Qf0⟩
 simp only[zaP] at hfe;simp only[zY] at ht;subst ht;have sh: ∀a:Nat,a<64->(w:Int) / 2 ^ min a 64=((w / 2 ^ a:Nat):Int):=fun a ha=>by
  rw[Jx Qf0];norm_cast
 have hsh:=sh a ha;by_cases hx:w / 2 ^ a=0
 ·have hb:(((w / 2 ^ a:Nat):Int)!=0)=false:=Qf7;refine gf (a3 @hsh @hb @zB) ?_;rw[Qj hx,Xz] at hfe;rw[<-hfe];exact hJn
 ·have hb:(((w / 2 ^ a:Nat):Int)!=0)=true:=ne0_t hx;obtain⟨s1,s2,s3,s4⟩:=zc8 w a hw ha hx;rw[Qi hx] at hfe;have hx64:w / 2 ^ a<2 ^ 64:=Wl (Nat.div_le_self _ _) hw;have htz:=zk6 (w / 2 ^ a) (by simpa using hx64);generalize Go.Lib.ctz 64 (w / 2 ^ a)=k at*;have hsh2:=sh (a+k) s1;have jY:IntKind.i64.wrap ((a:Int)+k)=((a+k:Nat):Int):=Qgu;refine gf (a3 @hsh @hb @zB) ?_;(refine g1f @hsh ?_;refine zC (htz.call zK Qf1 _) (yf0 ?_);rintro p2 h2 ⟨rfl,rfl⟩);have hxo:bits .xor .u64 18446744073709551615 ((w / 2 ^ (a+k):Nat):Int)=((2 ^ 64-1-w / 2 ^ (a+k):Nat):Int):=by
   have:=u64_xor_nat 18446744073709551615 (w / 2 ^ (a+k)) Qf2 (by simpa using s2);rw[<-zeY _ s2];simpa using this
  have htz2:=zk6 (2 ^ 64-1-w / 2 ^ (a+k)) (sub64 _);generalize w / 2 ^ (a+k)=y at*;generalize hz:2 ^ 64-1-y=z at*;generalize Go.Lib.ctz 64 z=j at*;have zg1:IntKind.i64.wrap (((a+k:Nat):Int)+j)=((a+k+j:Nat):Int):=Qgu;refine gf (a5 @jY @hsh2 @qT @hxo @zB) ?_;(refine g1f (a2 @qT @hxo) ?_;refine zC (htz2.call zK Qf1 _) (yf0 ?_);rintro p2 h2 ⟨rfl,rfl⟩);refine gf (a2 @zg1 @zB) ?_;(refine wU ?_;intro sr hsr;simp only[go_sem] at hsr;subst hsr;refine rC rfl (by simp only[dC,go_sem]<;>rfl) (hy n ⟨((a+k:Nat):Int),((a+k+j:Nat):Int)⟩ _ Qf0 hJn) (yf0 ?_);rintro p2 h2 ⟨rfl,hJ2⟩);by_cases h64:a+k+j=64
  ·have hb2:(((a+k+j:Nat):Int)==64)=true:=by simp[h64]
   refine gf @hb2 ?_;rw[Qj h64] at hfe;rw[<-hfe];exact hJ2
  ·have hb2:(((a+k+j:Nat):Int)==64)=false:=Qfh;refine gf @hb2 ?_;rw[Qi h64] at hfe;exact⟨(a+k+j,n++[⟨((a+k:Nat):Int),((a+k+j:Nat):Int)⟩],_),⟨by simp;omega,by simp;omega,hJ2,f,by dsimp only;omega,by rw[Qv];exact hfe⟩,by simp;omega,rfl,rfl,rfl⟩
theorem zlQ(w:Nat)(hw:w<2 ^ 64):EPure prog G0 165 [u64 w] fun p=>p=kJ (yW w):=by
 have F:=(a2 @zA @zX)
 refine ECall.cutW (R:=fun p h=> ∃(q:Nat),(p= .nil/\yW w=[]\/p= .vec q 2 ((yW w).map Sp.c))) (pv func165 13 false Qf3 rfl rfl ?_) ?_;refine g2 ?_
 ·refine ge ?_;refine tT (f:=230) (fst:=[u64 w]) (cap:=[]) (fun _ h=>h) rfl ?_;simp only[Jc,Xx,Yj,Xz,Qn,Xv,Yd,Ui];generalize hL:Blk.loop _ _ _ _ _ _=L;refine(zqX w hw 1 (fun l h=> ∃(V:PV)(R:Heap),h= .var 96 [V]::L::R/\Grow 54 (l.map Sp.c) 2 R V) _ ⟨.nil,[],rfl,.inl ⟨rfl,rfl⟩⟩ ?_).mono ?_
  ·rintro l ⟨a,b⟩ _ hn ⟨V,R,rfl,hG⟩;subst hL;refine⟨_,_,_,_,_,_,rfl,rfl,?_⟩;refine Qcs ?_;simp only[rput,Xn,Xl];refine gf F ?_;refine⟨rfl,_,_,_,_,_,rfl,?_⟩;refine Qcs ?_;simp only[Xn,Xl];rcases hG with ⟨he,rfl⟩|⟨q,rfl,hq⟩
   ·have hl0:l=[]:=Qg1;subst hl0;exact Qdn
   ·simp only[Qr] at hq;have hqR:q<R.length:=(gsi hq).1;have hq2: ∀x,(R++[x])[q]? =some (.vec 54 2 l.length):=fun x=>by rw[Qg hqR];exact hq
    exact Qc7
  ·rintro p h ⟨V,R,rfl,hG⟩;subst hL;refine⟨_,_,_,_,_,_,rfl,Qf1,?_⟩;simp only[Xn,Xl];refine ge ?_;rcases hG with ⟨he,rfl⟩|⟨q,rfl,hq⟩
   ·exact⟨0,.inl ⟨rfl,by simpa using he⟩⟩
   ·exact⟨q+2,.inr rfl⟩
 ·rintro p h ⟨q,⟨rfl,he⟩|rfl⟩
  ·exact⟨kJ [],by rw[iQ];exact PLe.nil_ts 2,by rw[he],by simp[xX]⟩
  ·exact⟨kJ (yW w),by rw[rF (all_map fun _=>rfl)];exact PLe.refl _,rfl,Qf1⟩
theorem zkI(l:List Sp):zU 40 (kJ l)=true:=all_map fun _=>rfl
theorem Of_x(l:List Sp)(hl:l.length<=140737488355328):EPure prog G0 107 [kJ l] fun p=>p=kJ (yW (uQ l)):=by
 refine ECall.cut (R:=fun p _=>p=kJ (yW (uQ l))) (pv func107 6 false Qf3 rfl rfl ?_) Qhi;refine g2 ?_;refine ge ?_;(refine g1 ?_;refine zC ((zo5 l hl).call zK Qf1 _) (yf0 ?_);rintro p2 h2 ⟨rfl,rfl⟩);refine ge ?_;(refine g1 ?_;refine zC ((zlQ _ (wB l)).call zK Qf1 _) (yf0 ?_);rintro p2 h2 ⟨rfl,rfl⟩);refine ge ?_;rfl
open UWrd2f106 in
theorem zp7(a b:List Sp)(ha:a.length<=140737488355328):EPure prog G0 106 [kJ a,kJ b] fun r=>r=bo (decide (a=b)):=by
 refine ECall.pure (pv func106 26 false Qf3 rfl rfl ?_);refine g2 ?_;by_cases hl:a.length=b.length
 ·have hne:((a.length:Int)!=(b.length:Int))=false:=Qf5;refine gf @hne ?_;refine zO a.length (K4 (.d:: .d::K4 (.k:: .k:: .k:: .v::D9 (.d:: .d:: .d::[])))) (own:=false) (fun i (_:Unit)=>[i64 i]) (fun _=>_) (fun i _=> ∀(j:Nat)(h:j<a.length)(h':j<b.length),j<i->a[j]=b[j]) () rfl rfl (fun _ _ _ h=>absurd h (Xt _)) ha ?_ ?_
  ·exact Qeo
  ·rintro i _ hi hw hI;refine gm ?_;have hlb:i<b.length:=Qf0;have hg:=zG (f:=Sp.c) [] hi;have hgb:=zG (f:=Sp.c) [] hlb;by_cases he:a[i]=b[i]
   ·have hI': ∀(j:Nat)(h:j<a.length)(h':j<b.length),j<i+1->a[j]=b[j]:=fun j h h' hj=>by
     exact Qeq
    rw[<-he] at hgb;have f1: ∀x:Int,(x==x)=true:=fun x=>by simp
    generalize a[i]=x at*;refine gf (a8 @hi @hlb @hw @hg @hgb @zB @eqSp @f1) ?_;exact⟨(),hI',rfl,rfl,rfl⟩
   ·have e:decide (a=b)=false:=by
     rw[Xo];intro h;subst h;exact he rfl
    rw[e];have f2:(a[i].a==b[i].a&&a[i].b==b[i].b)=false:=by
     rcases Zp (a[i].a==b[i].a&&a[i].b==b[i].b) with h|h
     ·exfalso;simp only[Zw,Qt,Zm] at h;exact Qet
     ·exact h
    generalize a[i]=x at*;generalize b[i]=y at*;refine gf (a8 @hi @hlb @hw @hg @hgb @zB @eqSp @f2) ?_;exact Qaa
 ·exact Qem
theorem zn4(l:List Sp)(hl:l.length<=140737488355328):EPure prog G0 45 [kJ l] fun p=>p=bo (decide (l=yW (uQ l))):=by
 refine ECall.pure (pv func45 7 false Qf3 rfl rfl ?_);refine g2 ?_;refine ge ?_;(refine g1 ?_;refine zC ((Of_x l hl).call zK Qf1 _) (yf0 ?_);rintro p2 h2 ⟨rfl,rfl⟩);refine ge ?_;(refine g1 ?_;refine zC ((zp7 l _ hl).call zK Qf1 _) (yf0 ?_);rintro p2 h2 ⟨rfl,rfl⟩);refine ge ?_;exact Qaa
abbrev MomX(g:FuncId)(op:Nat->Nat->Nat):Prop:= ∀a b:List Sp,a.length<=140737488355328->b.length<=140737488355328->EPure prog G0 g [kJ a,kJ b] fun p=>p=kJ (yW (op (uQ a) (uQ b)))
def mY(a b:Nat):Nat:=a &&& (2 ^ 64-1-b)
theorem zoR(a b:Nat):mY a b<2 ^ 64:=Nat.and_lt_two_pow _ (zlO _)
theorem zqW:MomX 115 (· ||| ·):=by
 intro a b ha hb;refine ECall.cut (R:=fun p _=>p=kJ (yW (uQ a ||| uQ b))) (pv func115 11 false Qf3 rfl rfl ?_) Qhi;refine g2 ?_;have e1:=u64_or_nat (uQ a) (uQ b) (by rw[<-zrN];exact wB a) (by rw[<-zrN];exact wB b);have hlt:uQ a ||| uQ b<2 ^ 64:=Uf (wB a) (wB b)
 refine ge ?_;(refine g1 ?_;refine zC ((zo5 a ha).call zK Qf1 _) (yf0 ?_);rintro p2 h2 ⟨rfl,rfl⟩);refine ge ?_;(refine g1 ?_;refine zC ((zo5 b hb).call zK Qf1 _) (yf0 ?_);rintro p2 h2 ⟨rfl,rfl⟩);refine gf @e1 ?_;exact Qcw
theorem zrT:MomX 149 (· &&& ·):=by
 intro a b ha hb;refine ECall.cut (R:=fun p _=>p=kJ (yW (uQ a &&& uQ b))) (pv func149 12 false Qf3 rfl rfl ?_) Qhi;refine g2 ?_;have hlt:uQ a &&& uQ b<2 ^ 64:=Nat.and_lt_two_pow _ (wB b);have ha':=wB a;have hb':=wB b;refine ge ?_;(refine g1 ?_;refine zC ((zo5 a ha).call zK Qf1 _) (yf0 ?_);rintro p2 h2 ⟨rfl,rfl⟩);refine ge ?_;(refine g1 ?_;refine zC ((zo5 b hb).call zK Qf1 _) (yf0 ?_);rintro p2 h2 ⟨rfl,rfl⟩);refine ge ?_;(refine g1 ?_;refine zC (((zqM _ _ ha' hb').args (.cons (PLe.tc_ts 1 _) .nil)).call zK (by simp[oM]) _) (yf0 ?_);rintro p2 h2 ⟨rfl,rfl⟩);refine ge ?_;exact Qcw
@[go_sem] def URsx2f173.pl:Nat->DPlan
 |8=>⟨[yA,yA,yA,yA,yA,yA,yA,yA,yB,yA,yA,yA,yB,yC,yA,yA],xE,0⟩
 |_=>⟨[],[],0⟩
theorem zpU(l:List Rw)(hl:l.length<=70368744177664)(hok: ∀x∈l,x.ok)(hso:SoR l)(h:Heap)(r:Nat)(hr:h[r]? =some (.var 159 (xI l))):
  ECall prog G0 310 [.ms r 0 2 l.length,i64 l.length,kP] h fun _ h'=>h'=h:=by
 refine pv func310 63 false Qf3 rfl rfl ?_;refine g2 ?_;refine ge ?_;refine zW (K4 (.k:: .k:: .k:: .v:: .v:: .k:: .k::D9 (.d:: .d:: .d::K9 (K9 (K9 (K9 (K4 ([])))))))) (fun (s:Nat)=>[i64 s,i64 (s+20:Nat)]) (fun s=>h) (fun s=>s<=l.length) (fun s=>l.length-s) (own:=false) 0 rfl rfl (Yn _) ?_;rintro a ha;refine gm ?_;by_cases hle:a+20<=l.length
 ·have hb1:(((a+20:Nat):Int)<=(l.length:Int)):=Qf0;have w1:IntKind.i64.wrap (((a+20:Nat):Int)+20)=((a+20+20:Nat):Int):=Qgk;refine gf (a2 @hb1 @hle) ?_;(refine Go.AL.g1 ?_;refine zC (zoU l hl hok hso a (a+20) Qf0 Qf0 h r hr) (yf0 ?_);intro p2 h2 hr2);rw[hr2];clear hr2;refine gf @w1 ?_;exact⟨a+20,Qf0,Qf0,rfl,rfl,rfl⟩
 ·have hb1: ¬(((a+20:Nat):Int)<=(l.length:Int)):=Qf0;refine gf (a2 @hb1 @hle) ?_;(refine Go.AL.g1 ?_;refine zC (zoU l hl hok hso a l.length Qf0 Qf0 h r hr) (yf0 ?_);intro p2 h2 hr2);rw[hr2];clear hr2;refine ge ?_;refine zW (K4 (.k:: .k:: .v:: .d:: .d:: .d::K9 (K9 (D9 (D9 (D9 (D4 (D4 ([]))))))))) (fun (s:Nat)=>[i64 s]) (fun s=>h) (fun s=>1<=s/\s<=2*l.length+20) (fun s=>2*l.length+20-s) (own:=false) 20 rfl rfl ⟨Qf0,Qf0⟩ ?_;rintro bs ⟨hbs,hbs2⟩;refine gm ?_;by_cases hlt:bs<l.length
  ·have hb2:((bs:Int)<(l.length:Int)):=Qf0;have w2:IntKind.i64.wrap (2*(bs:Int))=((2*bs:Nat):Int):=Qgu;have w3:IntKind.i64.wrap ((bs:Int)*2)=((bs*2:Nat):Int):=Qgu;refine gf (a3 @hb2 @hlt @w2) ?_;refine zW (K4 (.k:: .k:: .k:: .v:: .v::K9 (K9 (K4 (.k:: .k::D9 (D4 (.d:: .d:: .d::K9 (K4 (.k::[]))))))))) (fun (s:Nat)=>[i64 s,i64 (s+2*bs:Nat)]) (fun s=>h) (fun s=>s<=l.length) (fun s=>l.length-s) (own:=false) 0 (by simp only[zY,xJ,Xs]<;>simp) rfl (Yn _) ?_;rintro c hc;refine gm ?_;have w4:IntKind.i64.wrap ((c:Int)+bs)=((c+bs:Nat):Int):=Qgu;by_cases hle3:c+2*bs<=l.length
   ·have hb3:(((c+2*bs:Nat):Int)<=(l.length:Int)):=Qf0;have w5:IntKind.i64.wrap (((c+2*bs:Nat):Int)+((2*bs:Nat):Int))=((c+2*bs+2*bs:Nat):Int):=Qgu;refine gf (a3 @hb3 @hle3 @w4) ?_;(refine Go.AL.g1f @w4 ?_;refine zC (zqN _ l hl hok hso c (c+bs) (c+2*bs) (Xe _) Qf0 Qf0 hle3 h r hr) (yf0 ?_);intro p2 h2 hr2);rw[hr2];clear hr2;refine gf (a2 @w2 @w5) ?_;exact⟨c+2*bs,Qf0,Qf0,rfl,rfl,rfl⟩
   ·have hb3: ¬(((c+2*bs:Nat):Int)<=(l.length:Int)):=Qf0;by_cases hmn:c+bs<l.length
    ·have hb4:(((c+bs:Nat):Int)<(l.length:Int)):=Qf0;refine gf (a5 @hb3 @hle3 @w4 @hb4 @hmn) ?_;(refine Go.AL.g1f @w4 ?_;refine zC (zqN _ l hl hok hso c (c+bs) l.length (Xe _) Qf0 hmn (Xe _) h r hr) (yf0 ?_);intro p2 h2 hr2);rw[hr2];clear hr2;refine gf @w3 ?_;exact⟨bs*2,⟨Qf0,Qf0⟩,Qf0,rfl,rfl,rfl⟩
    ·have hb4: ¬(((c+bs:Nat):Int)<(l.length:Int)):=Qf0;refine gf (a6 @hb3 @hle3 @w4 @hb4 @hmn @w3) ?_;exact⟨bs*2,⟨Qf0,Qf0⟩,Qf0,rfl,rfl,rfl⟩
  ·have hb2: ¬((bs:Int)<(l.length:Int)):=Qf0;refine gf (a2 @hb2 @hlt) ?_;rfl
theorem zhY(l:List Rw)(hl:l.length<=70368744177664)(hok: ∀x∈l,x.ok)(hso:SoR l)(h:Heap)(r:Nat)(hr:h[r]? =some (.var 159 (xI l))):
  ECall prog G0 247 [.ms r 0 2 l.length,kP] h fun _ h'=>h'=h:=by
 refine pv func247 9 false Qf3 rfl rfl ?_;refine g2 ?_;refine ge ?_;(refine Go.AL.g1 ?_;refine zC (zpU l hl hok hso h r hr) (yf0 ?_);intro p2 h2 hr2);rw[hr2];clear hr2;refine ge ?_;rfl
def Rw.can(x:Rw):Prop:=SpC x.w/\x.w≠[]
def CanL(l:List Rw):Prop:=SoR l/\ ∀x∈l,x.can
open URsx2f173 in
theorem zmS(l:List Rw)(hl:l.length<=68719476736)(hok: ∀x∈l,x.ls)(hcan:CanL l)(hne:0<l.length):
  EPure prog G0 173 [uN l] fun p=>p=uN l:=by
 obtain⟨hso,hca⟩:=hcan;refine ECall.cutW (R:=fun p h=> ∃q:Nat,p= .vec q 2 (l.map Rw.c)) (pv func173 60 false Qf3 rfl rfl ?_) ?_;refine g2 ?_
 ·refine ge ?_;(refine Go.AL.g1 ?_;refine zC (dZ l hne Qf0 _) ?_;intro p2 h2 hr2;refine Go.AL.g2 ?_);obtain ⟨rfl,rfl⟩:=hr2;refine ge ?_;(refine Go.AL.g1 ?_;refine zC (zhY l Qf0 (fun x hx=>(hok x hx).ok) hso _ 0 rfl) ?_;intro p2 h2 hr2;refine Go.AL.g2 ?_);subst hr2;refine ge ?_;refine zW (K4 (.v:: .v:: .d:: .d::K4 (D9 (D9 (D9 (D9 (D9 (.d:: .d:: .k::[])))))))) (fun (s:Nat×PV×Heap)=>[s.2.1,i64 s.1]) (fun s=> .var 159 (xI l)::s.2.2) (fun s=>s.1<=l.length/\GrowN 1 159 ((l.take s.1).map Rw.c) 2 s.2.2 s.2.1) (fun s=>l.length-s.1) (own:=false) (0,.nil,[]) rfl rfl ⟨Yn _,.inl ⟨rfl,rfl⟩⟩ ?_;rintro⟨i,V,J⟩ ⟨hi,hG⟩ t ht;dsimp only at hi hG;simp only[zY] at ht;subst ht;by_cases hlt:i<l.length
  ·have hlt1:(i:Int)<(l.length:Int):=Qf0;have F:=(a4 @hlt @hlt1 @xK @zB)
   have hls:=hok _ (Qc hlt);obtain⟨hsp,hwn⟩:=hca _ (Qc hlt);have g1:=xG l i hlt;have g3:=zi2 l i hlt;have g4:=zzW l i hlt;have hby:=uS l[i] l[i] hls.ok hls.ok;rw[zd5] at hby;have hnext: ∀hk:i+1<l.length,sD l[i].args l[i+1].args<0:=fun hk=>hso i (i+1) Qf0 hk;have hby2: ∀hk:i+1<l.length,EPure prog G0 147 [.agg l[i].c,.agg l[i+1].c] fun p=>p=i64 (sD l[i].args l[i+1].args):=fun hk=>uS l[i] l[i+1] hls.ok (hok _ (Qc hk)).ok;have hst:(l.take (i+1)).map Rw.c=(l.take i).map Rw.c++[l[i].c]:=by rw[Xh hlt,Xq];rfl
   have hgl:((l.take i).map Rw.c).length=i:=Qfh;generalize l[i]=x at*;obtain⟨xa,xw⟩:=x;dsimp only at*;have hw64:xw.length<=64:=hls.w;have hwp:0<xw.length:=Up.2 hwn;have hwp1:(0:Int)<(xw.length:Int):=Qf0;have hOf:=Of_x xw (by have:=hls.w;dsimp only at this;omega);rw[sT hsp] at hOf;have mM:=iK xa (by have:=hls.al;dsimp only at this;omega) (zaJ 38 _);refine gf (a2 @hlt @hlt1) ?_;refine zW (K4 (.k:: .k:: .v:: .v::K9 (D9 (D9 (D4 (.d:: .d:: .d::K9 (K9 ([])))))))) (fun (s:Nat×PV×Heap)=>[s.2.1,i64 s.1]) (fun s=> .var 159 (xI l)::s.2.2) (fun s=>s=(i,.nil,J)\/s=(i+1,.vec (J.length+1) 2 (xw.map Sp.c),J++[.vec 54 2 xw.length])) (fun s=>l.length-s.1) (own:=false) (i,.nil,J) rfl rfl (.inl rfl) ?_;rintro _ (rfl|rfl) t ht
   ·dsimp only at*;simp only[zY] at ht;subst ht;have wk:IntKind.i64.wrap ((i:Int)+1)=((i+1:Nat):Int):=Qgk;(repeat(first|refine gz ?_|(refine gn ?_;intro zs zh;(try simp only[go_sem,F,g1,g3,wk] at zh);subst zh;(first|refine gv ?_|((first|refine zC (hby.call zK Qfb _) ?_|refine zP Qf2 Qf2 (hby.call zK Qfb _) ?_);intro p2 h2 hr2;obtain⟨hr2,rfl⟩:=hr2;first|obtain⟨_,rfl,hr2⟩:=hr2|obtain⟨_,rfl⟩:=hr2|subst hr2|skip)))|refine yD URsx2f173.pl ?_));exact⟨(i+1,.vec (J.length+1) 2 (xw.map Sp.c),J++[.vec 54 2 xw.length]),.inr rfl,by dsimp only;omega,rfl,rfl,rfl⟩
   ·dsimp only at*;simp only[zY] at ht;subst ht;have hple:PLe (.vec (J.length+1) 2 (xw.map Sp.c)) (kJ xw):=PLe.vec_ts _ _ _;have fin: ∀(V':PV)(J':Heap),GrowN 1 159 ((l.take (i+1)).map Rw.c) 2 J' V'->i+1<=l.length/\GrowN 1 159 ((l.take (i+1)).map Rw.c) 2 J' V':=fun V' J' h=>⟨Qf0,h⟩
    by_cases hk:i+1<l.length
    ·have hk1:(((i+1:Nat):Int)<(l.length:Int)):=Qf0;have g2:=xG l (i+1) hk;have hc:=hnext hk;have hby3:=hby2 hk;generalize l[i+1]=y at*;have hcb:(sD xa y.args==0)=false:=Qfr;generalize sD xa y.args=c at*;(repeat(first|refine gz ?_|(refine gn ?_;intro zs zh;(try simp only[go_sem,F,hk,hk1,g1,g2,hcb] at zh);subst zh;(first|refine gv ?_|((first|refine zC (hby3.call zK Qfb _) ?_|refine zP Qf2 Qf2 (hby3.call zK Qfb _) ?_);intro p2 h2 hr2;obtain⟨hr2,rfl⟩:=hr2;first|obtain⟨_,rfl,hr2⟩:=hr2|obtain⟨_,rfl⟩:=hr2|subst hr2|skip)))|refine yD URsx2f173.pl ?_));(refine Go.AL.g1 ?_;refine zC ((hOf.call zK Qf1 _).args (.cons hple .nil)) ?_;intro p2 h2 hr2;refine Go.AL.g2 ?_);obtain ⟨rfl,rfl⟩:=hr2;refine gf (a4 F @hwp @hwp1 @g4) ?_;(refine Go.AL.g1f @g4 ?_;refine zC (mM.call zK Qf1 _) ?_;intro p2 h2 hr2;refine Go.AL.g2 ?_);obtain ⟨rfl,rfl⟩:=hr2;rcases hG with ⟨he,rfl⟩|⟨q,rfl,hq⟩
     ·refine ge ?_;exact⟨(i+1,_,_),fin _ _ (.inr ⟨_,by rw[hst,he];rfl,by rw[hst,he];simp⟩),by dsimp only;omega,rfl,rfl,rfl⟩
     ·have hq1:q<J.length:=(gsi hq).1;have hq2: ∀b,(J++[b])[q]? =some (.vec 159 2 i):=fun b=>by rw[Qg hq1,hq,hgl]
      refine gf (a2 @hq2 @hgl) ?_;exact⟨(i+1,_,_),fin _ _ (.inr ⟨q,by rw[hst],by rw[hst];rw[Qh Qfh];simp;omega⟩),by dsimp only;omega,rfl,rfl,rfl⟩
    ·have hk1: ¬(((i+1:Nat):Int)<(l.length:Int)):=Qf0;refine gf (a2 @hk @hk1) ?_;(refine Go.AL.g1 ?_;refine zC ((hOf.call zK Qf1 _).args (.cons hple .nil)) ?_;intro p2 h2 hr2;refine Go.AL.g2 ?_);obtain ⟨rfl,rfl⟩:=hr2;refine gf (a4 F @hwp @hwp1 @g4) ?_;(refine Go.AL.g1f @g4 ?_;refine zC (mM.call zK Qf1 _) ?_;intro p2 h2 hr2;refine Go.AL.g2 ?_);obtain ⟨rfl,rfl⟩:=hr2;rcases hG with ⟨he,rfl⟩|⟨q,rfl,hq⟩
     ·refine ge ?_;exact⟨(i+1,_,_),fin _ _ (.inr ⟨_,by rw[hst,he];rfl,by rw[hst,he];simp⟩),by dsimp only;omega,rfl,rfl,rfl⟩
     ·have hq1:q<J.length:=(gsi hq).1;have hq2: ∀b,(J++[b])[q]? =some (.vec 159 2 i):=fun b=>by rw[Qg hq1,hq,hgl]
      refine gf (a2 @hq2 @hgl) ?_;exact⟨(i+1,_,_),fin _ _ (.inr ⟨q,by rw[hst],by rw[hst];rw[Qh Qfh];simp;omega⟩),by dsimp only;omega,rfl,rfl,rfl⟩
  ·have hlt1: ¬((i:Int)<(l.length:Int)):=Qf0;have:i=l.length:=Qf0;subst this;rw[Yt] at hG;refine gf (a2 @hlt @hlt1) ?_;rcases hG with ⟨he,rfl⟩|⟨q,rfl,hq⟩
   ·exfalso;simp at he;subst he;simp at hne
   ·exact⟨_,rfl⟩
 ·rintro p h ⟨q,rfl⟩;exact⟨uN l,by rw[rF (rE 36 l)];exact PLe.refl _,rfl,yP 40 _ (rE 36 l)⟩
@[go_sem] def URsx3f245.pl:Nat->DPlan
 |3=>⟨[yB,yA,yB,yB,yA,yB,yC,yA],zqS,0⟩
 |9=>⟨[⟨1,0,[1004]⟩,yA,⟨1,0,[1004]⟩,⟨1,0,[1004]⟩,yA,⟨5,1004,[]⟩,yC],tV,0⟩
 |11=>⟨[⟨1,0,[1005]⟩,yA,⟨1,0,[1005]⟩,⟨1,0,[1005]⟩,yA,⟨5,1005,[]⟩,yC],tV,0⟩
 |_=>⟨[],[],0⟩
def yT:Nat->List Rw->List Rw->List (Rw×Rw)
 |0,_,_=>[]
 |_+1,[],[]=>[]
 |n+1,[],y::b=>(⟨y.args,[]⟩,y)::yT n [] b
 |n+1,x::a,[]=>(x,⟨[],[]⟩)::yT n a []
 |n+1,x::a,y::b=>if sD x.args y.args<0 then(x,⟨[],[]⟩)::yT n a (y::b) else if sD x.args y.args=0 then(x,y)::yT n a b else(⟨y.args,[]⟩,y)::yT n (x::a) b
theorem zoE{ι:Type}{I:ι->PV->Heap->Prop}(hA: ∀m V J b,I m V J->I m V (J++[b])){m:ι}{V:PV}{J:Heap}(h:I m V J)(b c:Blk):I m V (J++[b,c]):=by
 have:=hA m V _ c (hA m V J b h)
 rwa [Qv] at this
theorem vK: ∀(n:Nat)(a b:List Rw),(yT n a b).length<=n
 |0,_,_=>Xe _
 |n+1,[],[]=>Yn _
 |n+1,[],y::b=>by simp only[yT,Qn];have:=vK n [] b;omega
 |n+1,x::a,[]=>by simp only[yT,Qn];have:=vK n a [];omega
 |n+1,x::a,y::b=>by
  have h1:=vK n a (y::b);have h2:=vK n a b;have h3:=vK n (x::a) b;simp only[yT];split
  ·simp only[Qn];omega
  ·split<;>simp only[Qn]<;>omega
theorem zpG(n:Nat):yT n [] []=[]:=by cases n<;>rfl
open URsx3f245 in
theorem zpX(P:List (Rw×Rw))(B0 L:Blk)(I:List (Rw×Rw)->PV->Heap->Prop)(hA: ∀m V J b,I m V J->I m V (J++[b]))
  (hy: ∀a b pre post V J (x y:Rw),I pre V J->pre++(x,y)::post=P->x.w.length<=64->y.w.length<=64->EYl prog G0 4 [.agg x.c,.agg y.c] (B0:: .var 95 [V]:: .var 95 [uN a]:: .var 95 [uN b]::L::J) fun p h'=>p=bo true/\ ∃V' J',h'=(B0:: .var 95 [V']:: .var 95 [uN a]:: .var 95 [uN b]::L::J')/\I (pre++[(x,y)]) V' J')
  (a b:List Rw) (ha: ∀x∈a,x.w.length<=64) (hb: ∀x∈b,x.w.length<=64) (hoa: ∀x∈a,x.ok) (hob: ∀x∈b,x.ok) (hP:yT (a.length+b.length) a b=P) (hl:a.length+b.length<=140737488355328) (V:PV) (J:Heap) (hI:I [] V J):
  ECall prog G0 245 [.yl 4,.ptr 2 0,.ptr 3 0] (B0:: .var 95 [V]:: .var 95 [uN a]:: .var 95 [uN b]::L::J) fun _ h'=> ∃a' b' V' J',h'=(B0:: .var 95 [V']:: .var 95 [uN a']:: .var 95 [uN b']::L::J')/\I P V' J':=by
 refine pv func245 52 false Qf3 rfl rfl ?_;refine g2 ?_;refine ge ?_;refine zW (K4 (D9 (D9 (D9 (D9 (D9 (.d:: .d:: .d::[]))))))) (fun (s:List Rw×List Rw×List (Rw×Rw)×PV×Heap)=>[]) (fun s=>(B0:: .var 95 [s.2.2.2.1]:: .var 95 [uN s.1]:: .var 95 [uN s.2.1]::L::s.2.2.2.2)) (fun s=>(∃n,s.1.length+s.2.1.length<=n/\n<=a.length+b.length/\s.2.2.1++yT n s.1 s.2.1=P)/\(∀x∈s.1,x.w.length<=64)/\(∀x∈s.2.1,x.w.length<=64)/\(∀x∈s.1,x.ok)/\(∀x∈s.2.1,x.ok)/\I s.2.2.1 s.2.2.2.1 s.2.2.2.2) (fun s=>s.1.length+s.2.1.length) (own:=false) (a,b,[],V,J) rfl rfl ⟨⟨_,Xe _,Xe _,hP⟩,ha,hb,hoa,hob,hI⟩ ?_;rintro⟨a1,b1,m,V1,J1⟩ ⟨⟨n,hm,hnN,hmP⟩,ha1,hb1,hoa1,hob1,hI1⟩ t ht;dsimp only at hm hmP ha1 hb1 hoa1 hob1 hI1;simp only[zY] at ht;subst ht;have hw:IntKind.i64.wrap ((a1.length:Int)+b1.length)=((a1.length+b1.length:Nat):Int):=Qgu;cases a1 with
 | nil=>
  cases b1 with
  |nil=>
   have zj6:IntKind.i64.wrap (((0:Nat):Int)+((0:Nat):Int))=((0:Nat):Int):=Qgu;have hc: ¬((0:Int)<((0:Nat):Int)):=Qf0;refine gf (Go.AL.a2 @zj6 @hc) ?_;rw[zpG,Xz] at hmP;exact⟨[],[],V1,J1,rfl,hmP▸hI1⟩
  |cons y b2=>
   simp only[Qn,Xv] at hm;obtain⟨n,rfl⟩: ∃k,n=k+1:=⟨n-1,Qf0⟩
   simp only[yT] at hmP;have zj6:IntKind.i64.wrap (((0:Nat):Int)+((b2.length+1:Nat):Int))=((b2.length+1:Nat):Int):=Qgu;have hc:(0:Int)<((b2.length+1:Nat):Int):=Qf0;have he:(((0:Nat):Int)==0)=true:=rfl;have hkb:=(hb1 y (Qe ..))
   have htb1:=fun x hx=>hb1 x (Qf y hx);have htb2:=fun x hx=>hob1 x (Qf y hx);refine zjA (a9 @zj6 @hc @he @wH @zA @zX @tG @wG (Go.AL.a2 @set2 @wF)) ?_;(refine wU ?_;intro sr hsr;simp only[go_sem,wH,zA,zX,tG,wG,set2,wF,Xa,Qn] at hsr;subst hsr;refine rC rfl Qhr (EYl.args (hy [] b2 m _ V1 _ ⟨y.args,[]⟩ y (zoE hA hI1 _ _) hmP Qf1 hkb) (.cons (PLes.agg (.cons (PLe.refl _) (.cons (PLe.nil_ts 2) .nil))) (.cons (PLe.refl _) .nil))) (yf0 ?_);rintro p2 h2 ⟨rfl,V2,J2,rfl,hI2⟩);refine ge ?_;exact⟨([],b2,m++[(⟨y.args,[]⟩,y)],V2,J2),⟨⟨n,by dsimp only;(try simp only[Xv,Qn] at hm ⊢);omega,Qf0,by rw[Qv];exact hmP⟩,Qf1,htb1,Qf1,htb2,hI2⟩,by dsimp only;simp only[Xv,Qn]<;>omega,rfl,rfl,rfl⟩
 | cons x a2=>
  cases b1 with
  |nil=>
   simp only[Qn,Xv] at hm;obtain⟨n,rfl⟩: ∃k,n=k+1:=⟨n-1,Qf0⟩
   simp only[yT] at hmP;have zj6:IntKind.i64.wrap (((a2.length+1:Nat):Int)+((0:Nat):Int))=((a2.length+1:Nat):Int):=Qgu;have hc:(0:Int)<((a2.length+1:Nat):Int):=Qf0;have he:(((0:Nat):Int)==0)=true:=rfl;have he2:(((a2.length+1:Nat):Int)==0)=false:=Qfh;have hka:=(ha1 x (Qe ..))
   have hta1:=fun z hz=>ha1 z (Qf x hz);have hta2:=fun z hz=>hoa1 z (Qf x hz);refine zjA (a9 @zj6 @hc @he @he2 @wH @zA @zX @tG (a3 @wG @set2 @wF)) ?_;(refine wU ?_;intro sr hsr;simp only[go_sem,wH,zA,zX,tG,wG,set2,wF,Xa,Qn] at hsr;subst hsr;refine rC rfl Qhr (EYl.args (hy a2 [] m _ V1 _ x ⟨[],[]⟩ (zoE hA hI1 _ _) hmP hka Qf1) (.cons (PLe.refl _) (.cons (PLes.agg (.cons (PLe.nil_ts 3) (.cons (PLe.nil_ts 2) .nil))) .nil))) (yf0 ?_);rintro p2 h2 ⟨rfl,V2,J2,rfl,hI2⟩);refine ge ?_;exact⟨(a2,[],m++[(x,⟨[],[]⟩)],V2,J2),⟨⟨n,by dsimp only;(try simp only[Xv,Qn] at hm ⊢);omega,Qf0,by rw[Qv];exact hmP⟩,hta1,Qf1,hta2,Qf1,hI2⟩,by dsimp only;simp only[Xv,Qn]<;>omega,rfl,rfl,rfl⟩
  | cons y b2=>
   simp only[Qn,Xv] at hm;obtain⟨n,rfl⟩: ∃k,n=k+1:=⟨n-1,Qf0⟩
   simp only[yT] at hmP;have zj6:IntKind.i64.wrap (((a2.length+1:Nat):Int)+((b2.length+1:Nat):Int))=((a2.length+1+(b2.length+1):Nat):Int):=Qgu;have hc:(0:Int)<((a2.length+1+(b2.length+1):Nat):Int):=Qf0;have he:(((b2.length+1:Nat):Int)==0)=false:=Qfh;have he2:(((a2.length+1:Nat):Int)==0)=false:=Qfh;have F:=(a9 @zj6 @hc @he @he2 @zA @zX @tG @wG (Go.AL.a2 @set2 @wF))
   have hka:=(ha1 x (Qe ..))
   have hta1:=fun z hz=>ha1 z (Qf x hz);have hta2:=fun z hz=>hoa1 z (Qf x hz);have hkb:=(hb1 y (Qe ..))
   have htb1:=fun x hx=>hb1 x (Qf y hx);have htb2:=fun x hx=>hob1 x (Qf y hx);have hby:=uS x y (hoa1 x (Qe ..)) (hob1 y (Qe ..));generalize hcc:sD x.args y.args=c at*;rcases Int.lt_trichotomy c 0 with h0|h0|h0
   ·rw[Qj h0] at hmP;have n1:c<=0:=Qf0;have n2: ¬(0<=c):=Qf0;have n3: ¬(0<c):=Qf0;(repeat(first|refine gz ?_|(refine gn ?_;intro zs zh;(try simp only[go_sem,F,n1,n2,n3,wH,Xa,Qn] at zh);subst zh;(first|refine gv ?_|((first|refine zC (hby.call zK Qfb _) ?_|refine zP Qf2 Qf2 (hby.call zK Qfb _) ?_);intro p2 h2 hr2;obtain⟨hr2,rfl⟩:=hr2;first|obtain⟨_,rfl,hr2⟩:=hr2|obtain⟨_,rfl⟩:=hr2|subst hr2|skip)))|refine yD URsx3f245.pl ?_));(refine wU ?_;intro sr hsr;simp only[go_sem,wH,zA,zX,tG,wG,set2,wF,Xa,Qn] at hsr;subst hsr;refine rC rfl Qhr (EYl.args (hy a2 (y::b2) m _ V1 _ x ⟨[],[]⟩ (zoE hA hI1 _ _) hmP hka Qf1) (.cons (PLe.refl _) (.cons (PLes.agg (.cons (PLe.nil_ts 3) (.cons (PLe.nil_ts 2) .nil))) .nil))) (yf0 ?_);rintro p2 h2 ⟨rfl,V2,J2,rfl,hI2⟩);refine ge ?_;exact⟨(a2,(y::b2),m++[(x,⟨[],[]⟩)],V2,J2),⟨⟨n,by dsimp only;(try simp only[Xv,Qn] at hm ⊢);omega,Qf0,by rw[Qv];exact hmP⟩,hta1,hb1,hta2,hob1,hI2⟩,by dsimp only;simp only[Xv,Qn]<;>omega,rfl,rfl,rfl⟩
   ·subst h0;rw[Qi Qf0,Qj rfl] at hmP;have n1:(0:Int)<=0:=Qf0;have n3: ¬((0:Int)<0):=Qf0;(repeat(first|refine gz ?_|(refine gn ?_;intro zs zh;(try simp only[go_sem,F,n1,n3,wH,Xa,Qn] at zh);subst zh;(first|refine gv ?_|((first|refine zC (hby.call zK Qfb _) ?_|refine zP Qf2 Qf2 (hby.call zK Qfb _) ?_);intro p2 h2 hr2;obtain⟨hr2,rfl⟩:=hr2;first|obtain⟨_,rfl,hr2⟩:=hr2|obtain⟨_,rfl⟩:=hr2|subst hr2|skip)))|refine yD URsx3f245.pl ?_));(refine wU ?_;intro sr hsr;simp only[go_sem,wH,zA,zX,tG,wG,set2,wF,Xa,Qn] at hsr;subst hsr;refine rC rfl Qhr (EYl.args (hy a2 b2 m _ V1 _ x y (zoE hA hI1 _ _) hmP hka hkb) (.cons (PLe.refl _) (.cons (PLe.refl _) .nil))) (yf0 ?_);rintro p2 h2 ⟨rfl,V2,J2,rfl,hI2⟩);refine ge ?_;exact⟨(a2,b2,m++[(x,y)],V2,J2),⟨⟨n,by dsimp only;(try simp only[Xv,Qn] at hm ⊢);omega,Qf0,by rw[Qv];exact hmP⟩,hta1,htb1,hta2,htb2,hI2⟩,by dsimp only;simp only[Xv,Qn]<;>omega,rfl,rfl,rfl⟩
   ·rw[Qi Qf0,Qi Qf0] at hmP;have n1: ¬(c<=0):=Qf0;have n2:0<=c:=Qf0;(repeat(first|refine gz ?_|(refine gn ?_;intro zs zh;(try simp only[go_sem,F,n1,n2,h0,wH,Xa,Qn] at zh);subst zh;(first|refine gv ?_|((first|refine zC (hby.call zK Qfb _) ?_|refine zP Qf2 Qf2 (hby.call zK Qfb _) ?_);intro p2 h2 hr2;obtain⟨hr2,rfl⟩:=hr2;first|obtain⟨_,rfl,hr2⟩:=hr2|obtain⟨_,rfl⟩:=hr2|subst hr2|skip)))|refine yD URsx3f245.pl ?_));(refine wU ?_;intro sr hsr;simp only[go_sem,wH,zA,zX,tG,wG,set2,wF,Xa,Qn] at hsr;subst hsr;refine rC rfl Qhr (EYl.args (hy (x::a2) b2 m _ V1 _ ⟨y.args,[]⟩ y (zoE hA hI1 _ _) hmP Qf1 hkb) (.cons (PLes.agg (.cons (PLe.refl _) (.cons (PLe.nil_ts 2) .nil))) (.cons (PLe.refl _) .nil))) (yf0 ?_);rintro p2 h2 ⟨rfl,V2,J2,rfl,hI2⟩);refine ge ?_;exact⟨((x::a2),b2,m++[(⟨y.args,[]⟩,y)],V2,J2),⟨⟨n,by dsimp only;(try simp only[Xv,Qn] at hm ⊢);omega,Qf0,by rw[Qv];exact hmP⟩,ha1,htb1,hoa1,htb2,hI2⟩,by dsimp only;simp only[Xv,Qn]<;>omega,rfl,rfl,rfl⟩
def yX(op:Nat->Nat->Nat)(P:List (Rw×Rw)):List Rw:=P.filterMap fun q=>if yW (op (uQ q.1.w) (uQ q.2.w))=[] then none else some ⟨q.1.args,yW (op (uQ q.1.w) (uQ q.2.w))⟩
theorem zoZ(l:List Rw)(hl:l.length<=68719476736)(hok: ∀x∈l,x.ls)(hcan:CanL l):EPure prog G0 173 [uN l] fun p=>p=uN l:=by
 cases l with
 |nil=>exact gH
 |cons x l=>exact zmS _ hl hok hcan Qf1
theorem zhC(op:Nat->Nat->Nat)(g:FuncId)(hg:MomX g op)(a b:List Rw)(hal:a.length<=68719476736)(hbl:b.length<=68719476736)(ha: ∀x∈a,x.ls)(hb: ∀x∈b,x.ls)(hca:CanL a)(hcb:CanL b):
  EPure prog G0 117 [uN a,uN b,.fn (.func g) [] []] fun p=>p=uN (yX op (yT (a.length+b.length) a b)):=by
 obtain⟨P,hP⟩: ∃P,yT (a.length+b.length) a b=P:=⟨_,rfl⟩
 rw[hP];refine ECall.cutW (R:=fun p h=> ∃(q:Nat),(p= .nil/\yX op P=[]\/p= .vec q 2 ((yX op P).map Rw.c))) (pv func117 35 false Qf3 rfl rfl ?_) ?_;refine g2 ?_
 ·refine ge ?_;(refine g1 ?_;refine zC ((zoZ a hal ha hca).call zK Qf1 _) (yf0 ?_);rintro p2 h2 ⟨rfl,rfl⟩);refine ge ?_;(refine g1 ?_;refine zC ((zoZ b hbl hb hcb).call zK Qf1 _) (yf0 ?_);rintro p2 h2 ⟨rfl,rfl⟩);refine ge ?_;(refine g1 ?_;refine zC (zfL a b _) (yf0 ?_);rintro p2 h2 ⟨rfl,rfl⟩);refine ge ?_;refine tT (f:=245) (fst:=[]) (cap:=[.ptr 2 0,.ptr 3 0]) (fun _ h=>h) rfl ?_;simp only[Jc,Xx,Yj,Xz,Qn,Xv,Yd,Nat.reduceAdd,Ui];generalize hL:Blk.loop _ _ _ _ _ _=L;refine(zpX P _ L (fun m V J=>GrowN 5 159 ((yX op m).map Rw.c) 2 J V) ?_ ?_ a b (fun x hx=>(ha x hx).w) (fun x hx=>(hb x hx).w) (fun x hx=>(ha x hx).ok) (fun x hx=>(hb x hx).ok) hP Qf0 .nil [] (.inl ⟨rfl,rfl⟩)).mono ?_
  ·rintro m V J b0 (h|⟨q,h1,hq⟩)
   ·exact .inl h
   ·exact Qdj
  ·rintro a2 b2 m post V J x y hG hpre hxw hyw;subst hL;have hst:yX op (m++[(x,y)])=yX op m++if yW (op (uQ x.w) (uQ y.w))=[] then [] else [⟨x.args,yW (op (uQ x.w) (uQ y.w))⟩]:=by
    unfold yX;rw[Uj];congr 1;simp only[Kd,List.filterMap_nil];split<;>rename_i h<;>split at h<;>simp_all
   have hol:(yX op m).length<=137438953472:=by
    have h1:(yX op m).length<=m.length:=Kz ..;have h2:=vK (a.length+b.length) a b;rw[hP,<-hpre,Ql] at h2;omega
   generalize yX op (m++[(x,y)])=o2 at*;generalize yX op m=o at*;refine⟨_,_,_,_,_,_,rfl,rfl,?_⟩;refine Qcs ?_;simp only[rput,Xn,Xl];refine gf (a6 @zA @zX @tG @wG @set2 @wF) ?_;refine⟨rfl,_,_,_,_,_,rfl,?_⟩;refine Qcs ?_;simp only[Xn,Xl];refine gf (a6 @zA @zX @tG @wG @set2 @wF) ?_;(refine g1f (a6 @zA @zX @tG @wG @set2 @wF) ?_;refine zC ((hg x.w y.w Qf0 Qf0).call zK Qf1 _) (yf0 ?_);rintro p2 h2 ⟨rfl,rfl⟩);generalize yW (op (uQ x.w) (uQ y.w))=w2 at*;by_cases hz:0<w2.length
   ·have hz1:(0:Int)<(w2.length:Int):=Qf0;have F:=(a8 @hz @hz1 @zA @zX @tG @wG @set2 @wF)
    rw[Qi (Up.1 hz)] at hst;subst hst;rcases hG with ⟨he,rfl⟩|⟨q,rfl,hq⟩
    ·have hon:o=[]:=Qg1;subst hon;exact Qdn
    ·simp only[Qr] at hq;have hqR:q<J.length:=(gsi hq).1;have hq2: ∀z z',(J++[z,z'])[q]? =some (.vec 159 2 o.length):=fun z z'=>by rw[Qg hqR];exact hq
     refine gf (Go.AL.a2 F @hq2) ?_;refine⟨_,_,_,_,_,_,rfl,rfl,_,_,rfl,.inr ⟨q,by rw[Xq];rfl,?_⟩⟩;rw[Qh Qfh];simp
   ·have hz1: ¬((0:Int)<(w2.length:Int)):=Qf0;rw[Qj (Xi Qf0),Xz] at hst;subst hst;refine gf (a8 @hz @hz1 @zA @zX @tG @wG @set2 @wF) ?_;refine⟨_,_,_,_,_,_,rfl,rfl,_,_,rfl,?_⟩;rcases hG with h|⟨q,h1,hq⟩
    ·exact .inl h
    ·exact Qdj
  ·rintro p h ⟨a2,b2,V,J,rfl,hG⟩;subst hL;refine⟨_,_,_,_,_,_,rfl,Qf1,?_⟩;simp only[Xn,Xl];refine ge ?_;rcases hG with ⟨he,rfl⟩|⟨q,rfl,hq⟩
   ·exact⟨0,.inl ⟨rfl,by simpa using he⟩⟩
   ·exact⟨q+5,.inr rfl⟩
 ·rintro p h ⟨q,⟨rfl,he⟩|rfl⟩
  ·exact⟨uN [],by rw[iQ];exact PLe.nil_ts 2,by rw[he],by simp[xX]⟩
  ·exact⟨uN (yX op P),by rw[rF (rE 36 _)];exact PLe.refl _,rfl,yP 40 _ (rE 36 _)⟩
end Go.AL
namespace Go.AL
instance:DecidableEq Vl:=fun x y=>decidable_of_iff (x.t=y.t/\x.n=y.n/\x.s=y.s) Qgr
abbrev zaF(a b:List Vl):Prop:=sD a b<0
theorem zaF.tr{a b c:List Vl}(h:zaF a b)(k:zaF b c):zaF a c:=by
 have h1:=zqQ.r a b;have h2:=zqQ.r b c;have:=zqQ.t a b c (by unfold zaF at h;omega) (by unfold zaF at k;omega);unfold zaF;omega
theorem zaF.ne{a b:List Vl}(h:zaF a b):a≠b:=by
 rintro rfl;unfold zaF at h;rw[zd5] at h;omega
theorem zaF.tri(a b:List Vl):zaF a b\/a=b\/zaF b a:=by
 have h1:=zqQ.r a b;have h2:=(zqQ.e a b).1;have h3:=zqQ.s a b;unfold zaF;rcases h1 with h|h|h
 ·left;omega
 ·right;left;exact h2 h
 ·right;right;omega
theorem zaF.asym{a b:List Vl}(h:zaF a b): ¬zaF b a:=eO h
abbrev PwR(l:List Rw):Prop:=l.Pairwise fun x y=>zaF x.args y.args
theorem iW(l:List Rw):SoR l↔PwR l:=by
 unfold SoR PwR zaF;rw[Zd];exact⟨fun h i j hi hj hij=>h i j hij hj,fun h i j hij hj=>h i j (Nat.lt_trans hij hj) hj hij⟩
def yH:List Rw->List Vl->Nat
 | [],_=>0
 |x::l,t=>if x.args=t then uQ x.w else yH l t
theorem bL{t:List Vl}: ∀{l:List Rw},(∀x∈l,x.args≠t)->yH l t=0
 | [],_=>rfl
 |x::l,h=>by
  unfold yH;rw[Qi (h x (Qe ..)),bL fun y hy=>h y (Qf x hy)]
theorem uC{t:List Vl}{l:List Rw}(h: ∀x∈l,zaF t x.args):yH l t=0:=bL fun x hx e=>(h x hx).ne e.symm
theorem zoW: ∀(l:List Rw)(t:List Vl),yH l t<2 ^ 64
 | [],_=>Wa 64
 |x::l,t=>by
  unfold yH;split
  ·exact wB _
  ·exact zoW l t
theorem zdB{x:Rw}(h:x.can):uQ x.w≠0:=fun e=>by
 apply h.2;rw[<-sT h.1,e];rfl
theorem zn6{l:List Rw}{t:List Vl}(h:yH l t≠0): ∃x∈l,x.args=t/\uQ x.w=yH l t:=by
 induction l with
 |nil=>exact absurd rfl h
 | cons x l ih=>
  unfold yH at h ⊢
  split at h
  ·rename_i e;exact⟨x,Qe ..,e,by rw[Qj e]⟩
  ·rename_i e;obtain⟨y,hy,h1,h2⟩:=ih h;exact⟨y,Qf x hy,h1,by rw[Qi e];exact h2⟩
theorem zoV{l:List Rw}(hs:PwR l){x:Rw}(hx:x∈l):yH l x.args=uQ x.w:=by
 induction l with
 |nil=>cases hx
 |cons y l ih=>
  rw[PwR,Yb] at hs;unfold yH;rcases Qw.1 hx with rfl|hx
  ·rw[Qj rfl]
  ·rw[Qi (hs.1 x hx).ne];exact ih hs.2 hx
theorem zuZ: ∀{l l':List Rw},PwR l->PwR l'->(∀x∈l,x.can)->(∀x∈l',x.can)->(∀t,yH l t=yH l' t)->l=l'
 | [],[],_,_,_,_,_=>rfl
 | [],y::l',_,_,_,hc',h=>by
  exfalso;have:=h y.args;unfold yH at this;rw[Qj rfl] at this;exact zdB (hc' y (Qe ..)) this.symm
 |x::l,[],_,_,hc,_,h=>by
  exfalso;have:=h x.args;unfold yH at this;rw[Qj rfl] at this;exact zdB (hc x (Qe ..)) this
 | x::l,y::l',hs,hs',hc,hc',h=>by
  rw[PwR,Yb] at hs hs';have hx:=h x.args;have hy:=h y.args;rcases zaF.tri x.args y.args with q|q|q
  ·exfalso;rw[yH,Qj rfl,uC (l:=y::l') (fun z hz=>by
    rcases Qw.1 hz with rfl|hz
    ·exact q
    ·exact q.tr (hs'.1 z hz))] at hx
   exact zdB (hc x (Qe ..)) hx
  ·have hw:x.w=y.w:=by
    rw[yH,Qj rfl,yH,Qj q.symm] at hx;rw[<-sT (hc x (Qe ..)).1,<-sT (hc' y (Qe ..)).1,hx]
   have e:x=y:=Qh2;subst e;rw[zuZ hs.2 hs'.2 (fun z hz=>hc z (Qf x hz)) (fun z hz=>hc' z (Qf x hz)) fun t=> ?_];by_cases ht:x.args=t
   ·subst ht;rw[uC hs.1,uC hs'.1]
   ·have:=h t;rw[yH,yH,Qi ht,Qi ht] at this;exact this
  ·exfalso;rw[uC (l:=x::l) (fun z hz=>by
    rcases Qw.1 hz with rfl|hz
    ·exact q
    ·exact q.tr (hs.1 z hz)),yH,Qj rfl] at hy
   exact zdB (hc' y (Qe ..)) hy.symm
def zbN:List (Rw×Rw)->List Vl->Nat×Nat
 | [],_=>(0,0)
 |q::P,t=>if q.1.args=t then(uQ q.1.w,uQ q.2.w) else zbN P t
abbrev PwP(P:List (Rw×Rw)):Prop:=P.Pairwise fun x y=>zaF x.1.args y.1.args
theorem zb8:uQ []=0:=rfl
theorem uB: ∀(n:Nat)(a b:List Rw),a.length+b.length<=n->PwR a->PwR b->
  PwP (yT n a b)/\(∀q∈yT n a b,(∃x∈a,x.args=q.1.args)\/ ∃y∈b,y.args=q.1.args)/\ ∀t,zbN (yT n a b) t=(yH a t,yH b t)
 |0,a,b,h,_,_=>by
  have ha:a=[]:=Xi Qf0;have hb:b=[]:=Xi Qf0;subst ha;subst hb;exact Qei
 |n+1,[],[],h,_,_=>by
  exact Qei
 | n+1,[],y::b,h,ha,hb=>by
  rw[PwR,Yb] at hb;simp only[Qn,Xv] at h;obtain⟨h1,h2,h3⟩:=uB n [] b Qfh ha hb.2;simp only[yT];refine⟨Yb.2 ⟨fun q hq=> ?_,h1⟩,fun q hq=> ?_,fun t=> ?_⟩
  ·rcases h2 q hq with ⟨x,hx,_⟩|⟨z,hz,e⟩
   ·cases hx
   ·rw[<-e];exact hb.1 z hz
  ·rcases Qw.1 hq with rfl|hq
   ·exact .inr ⟨y,Qe ..,rfl⟩
   ·rcases h2 q hq with ⟨x,hx,_⟩|⟨z,hz,e⟩
    ·cases hx
    ·exact .inr ⟨z,Qf y hz,e⟩
  ·simp only[zbN,yH];by_cases e:y.args=t
   ·rw[Qj e,Qj e,zb8]
   ·rw[Qi e,Qi e,h3 t];rfl
 | n+1,x::a,[],h,ha,hb=>by
  rw[PwR,Yb] at ha;simp only[Qn,Xv] at h;obtain⟨h1,h2,h3⟩:=uB n a [] Qfh ha.2 hb;simp only[yT];refine⟨Yb.2 ⟨fun q hq=> ?_,h1⟩,fun q hq=> ?_,fun t=> ?_⟩
  ·rcases h2 q hq with ⟨z,hz,e⟩|⟨x,hx,_⟩
   ·rw[<-e];exact ha.1 z hz
   ·cases hx
  ·rcases Qw.1 hq with rfl|hq
   ·exact .inl ⟨x,Qe ..,rfl⟩
   ·rcases h2 q hq with ⟨z,hz,e⟩|⟨x,hx,_⟩
    ·exact .inl ⟨z,Qf x hz,e⟩
    ·cases hx
  ·simp only[zbN,yH];by_cases e:x.args=t
   ·rw[Qj e,Qj e,zb8]
   ·rw[Qi e,Qi e,h3 t];rfl
 | n +1,x::a,y::b,h,ha,hb=>by
  have ha0:=ha;have hb0:=hb;rw[PwR,Yb] at ha hb;simp only[Qn] at h;simp only[yT];rcases zaF.tri x.args y.args with q|q|q
  ·rw[Qj q];obtain⟨h1,h2,h3⟩:=uB n a (y::b) Qfh ha.2 hb0;have hab: ∀z∈y::b,zaF x.args z.args:=fun z hz=>by
    rcases Qw.1 hz with rfl|hz
    ·exact q
    ·exact q.tr (hb.1 z hz)
   refine⟨Yb.2 ⟨fun w hw=> ?_,h1⟩,fun w hw=> ?_,fun t=> ?_⟩
   ·rcases h2 w hw with ⟨z,hz,e⟩|⟨z,hz,e⟩
    ·rw[<-e];exact ha.1 z hz
    ·rw[<-e];exact hab z hz
   ·rcases Qw.1 hw with rfl|hw
    ·exact .inl ⟨x,Qe ..,rfl⟩
    ·rcases h2 w hw with ⟨z,hz,e⟩|h
     ·exact .inl ⟨z,Qf x hz,e⟩
     ·exact .inr h
   ·simp only[zbN];by_cases e:x.args=t
    ·subst e;rw[Qj rfl,uC hab,yH,Qj rfl,zb8]
    ·rw[Qi e,h3 t];conv=>rhs;rw[yH,Qi e]
  ·rw[Qi (by rw[(zqQ.e _ _).2 q];omega),Qj ((zqQ.e _ _).2 q)];obtain⟨h1,h2,h3⟩:=uB n a b Qf0 ha.2 hb.2;refine⟨Yb.2 ⟨fun w hw=> ?_,h1⟩,fun w hw=> ?_,fun t=> ?_⟩
   ·rcases h2 w hw with ⟨z,hz,e⟩|⟨z,hz,e⟩
    ·rw[<-e];exact ha.1 z hz
    ·rw[<-e];dsimp only;rw[q];exact hb.1 z hz
   ·rcases Qw.1 hw with rfl|hw
    ·exact .inl ⟨x,Qe ..,rfl⟩
    ·rcases h2 w hw with ⟨z,hz,e⟩|⟨z,hz,e⟩
     ·exact .inl ⟨z,Qf x hz,e⟩
     ·exact .inr ⟨z,Qf y hz,e⟩
   ·simp only[zbN,yH];by_cases e:x.args=t
    ·rw[Qj e,Qj e,Qj (q▸e)]
    ·rw[Qi e,Qi e,Qi (q▸e),h3 t]
  ·rw[Qi q.asym,Qi (fun e=>q.ne ((zqQ.e _ _).1 e).symm)];obtain⟨h1,h2,h3⟩:=uB n (x::a) b Qfh ha0 hb.2;have hab: ∀z∈x::a,zaF y.args z.args:=fun z hz=>by
    rcases Qw.1 hz with rfl|hz
    ·exact q
    ·exact q.tr (ha.1 z hz)
   refine⟨Yb.2 ⟨fun w hw=> ?_,h1⟩,fun w hw=> ?_,fun t=> ?_⟩
   ·rcases h2 w hw with ⟨z,hz,e⟩|⟨z,hz,e⟩
    ·rw[<-e];exact hab z hz
    ·rw[<-e];exact hb.1 z hz
   ·rcases Qw.1 hw with rfl|hw
    ·exact .inr ⟨y,Qe ..,rfl⟩
    ·rcases h2 w hw with h|⟨z,hz,e⟩
     ·exact .inl h
     ·exact .inr ⟨z,Qf y hz,e⟩
   ·simp only[zbN];by_cases e:y.args=t
    ·subst e;rw[Qj rfl,uC hab,zb8];conv=>rhs;rw[yH,Qj rfl]
    ·rw[Qi e,h3 t];conv=>rhs;rw[yH.eq_def (y::b)];dsimp only;rw[Qi e]
theorem zfW{t:List Vl}: ∀{P:List (Rw×Rw)},(∀q∈P,zaF t q.1.args)->zbN P t=(0,0)
 | [],_=>rfl
 |q::P,h=>by
  unfold zbN;rw[Qi (fun e=>(h q (Qe ..)).ne e.symm),zfW fun y hy=>h y (Qf q hy)]
theorem zd0(op:Nat->Nat->Nat)(h0:op 0 0=0)(hop: ∀a b,a<2 ^ 64->b<2 ^ 64->op a b<2 ^ 64): ∀{P:List (Rw×Rw)},PwP P->
  PwR (yX op P)/\(∀x∈yX op P,x.can/\ ∃q∈P,x.args=q.1.args)/\ ∀t,yH (yX op P) t=op (zbN P t).1 (zbN P t).2
 | [],_=>by
  refine⟨List.Pairwise.nil,?_,fun t=>h0.symm⟩;intro x hx;simp[yX] at hx
 | q ::P,hp=>by
  rw[PwP,Yb] at hp;obtain⟨h1,h2,h3⟩:=zd0 op h0 hop hp.2;have hlt:=hop _ _ (wB q.1.w) (wB q.2.w);by_cases hn:yW (op (uQ q.1.w) (uQ q.2.w))=[]
  ·have e:yX op (q::P)=yX op P:=by unfold yX;rw[Kd,Qj hn]
   rw[e];refine⟨h1,fun x hx=> ?_,fun t=> ?_⟩
   ·obtain⟨a,z,hz,b⟩:=h2 x hx;exact⟨a,z,Qf q hz,b⟩
   ·rw[h3 t];conv=>rhs;rw[zbN]
    by_cases et:q.1.args=t
    ·subst et;rw[Qj rfl,zfW hp.1,h0];exact((zfN hlt).1 hn).symm
    ·rw[Qi et]
  ·have e:yX op (q::P)=⟨q.1.args,yW (op (uQ q.1.w) (uQ q.2.w))⟩::yX op P:=by unfold yX;rw[Kd,Qi hn]
   rw[e];refine⟨Yb.2 ⟨fun x hx=> ?_,h1⟩,fun x hx=> ?_,fun t=> ?_⟩
   ·obtain⟨_,z,hz,b⟩:=h2 x hx;rw[b];exact hp.1 z hz
   ·rcases Qw.1 hx with rfl|hx
    ·exact⟨⟨(qS hlt).1,hn⟩,q,Qe ..,rfl⟩
    ·obtain⟨a,z,hz,b⟩:=h2 x hx;exact⟨a,z,Qf q hz,b⟩
   ·simp only[yH,zbN];by_cases et:q.1.args=t
    ·rw[Qj et,Qj et,zfI hlt]
    ·rw[Qi et,Qi et,h3 t]
theorem zhW{op:Nat->Nat->Nat}(h0:op 0 0=0)(hop: ∀a b,a<2 ^ 64->b<2 ^ 64->op a b<2 ^ 64){a b:List Rw}(ha:CanL a)(hb:CanL b):
  CanL (yX op (yT (a.length+b.length) a b))/\(∀t,yH (yX op (yT (a.length+b.length) a b)) t=op (yH a t) (yH b t))/\ ∀x∈yX op (yT (a.length+b.length) a b), ∃y∈a++b,x.args=y.args:=by
 obtain⟨h1,h2,h3⟩:=uB _ a b (Xe _) ((iW a).1 ha.1) ((iW b).1 hb.1);obtain⟨k1,k2,k3⟩:=zd0 op h0 hop h1;refine⟨⟨(iW _).2 k1,fun x hx=>(k2 x hx).1⟩,fun t=>by rw[k3 t,h3 t],fun x hx=> ?_⟩;obtain⟨_,q,hq,e⟩:=k2 x hx;rcases h2 q hq with ⟨y,hy,e2⟩|⟨y,hy,e2⟩
 ·exact⟨y,Zb _ hy,by rw[e,e2]⟩
 ·exact⟨y,Yh _ hy,by rw[e,e2]⟩
theorem CanL.uniq{l l':List Rw}(h:CanL l)(h':CanL l')(k: ∀t,yH l t=yH l' t):l=l':=zuZ ((iW l).1 h.1) ((iW l').1 h'.1) h.2 h'.2 k
end Go.AL
namespace Go.AL
open Go.Proofs Go.Proofs.Tryz
noncomputable def ze8(P:Prop):Bool:= @decide P (Classical.propDecidable P)
theorem pO{P:Prop}(h:P):ze8 P=true:= @decide_eq_true P (Classical.propDecidable P) h
theorem uA{P:Prop}(h: ¬P):ze8 P=false:= @decide_eq_false P (Classical.propDecidable P) h
theorem zoX{P:Prop}:ze8 P=true↔P:= @decide_eq_true_iff P (Classical.propDecidable P)
def zoB(a:List Rw)(args:List Vl)(s:Sp):List Rw:=yX (· ||| ·) (yT (a.length+1) a [⟨args,[s]⟩])
def dP(a:List Rw)(args:List Vl)(s:Sp):List Rw:=yX mY (yT (a.length+1) a [⟨args,[s]⟩])
abbrev Sp.good(s:Sp):Prop:=0<=s.a/\s.a<s.b/\s.b<=64
theorem fF(args:List Vl){s:Sp}(h:s.good):CanL [⟨args,[s]⟩]:=by
 refine⟨(iW _).2 (Yb.2 ⟨Qf1,List.Pairwise.nil⟩),fun x hx=> ?_⟩;rw[Qp] at hx;subst hx;exact⟨zqZ h,Qf1⟩
theorem zp2(a:List Rw)(args:List Vl)(s:Sp)(hal:a.length<=68719476736)(ha: ∀x∈a,x.ls)(hc:CanL a)(hx:(Rw.mk args [s]).ls)(hs:s.good):EPure prog G0 169 [uN a,pH args,kJ [s]] fun p=>p=uN (zoB a args s):=by
 have hu:EPure prog G0 243 [uN a,uN [⟨args,[s]⟩]] fun p=>p=uN (zoB a args s):=by
  refine ECall.cut (R:=fun p _=>p=uN (zoB a args s)) (pv func243 8 false Qf3 rfl rfl ?_) (by rintro p h rfl;exact vE _ _ _ _ (rE 36 _));refine g2 ?_;refine ge ?_;(refine g1 ?_;refine zC ((zhC (· ||| ·) 115 zqW a [⟨args,[s]⟩] hal Qf1 ha Qfz hc (fF args hs)).call zK Qfc _) (yf0 ?_);rintro p2 h2 ⟨rfl,rfl⟩);refine ge ?_;rfl
 refine ECall.cut (R:=fun p _=>p=uN (zoB a args s)) (pv func169 13 false Qf3 rfl rfl ?_) (by rintro p h rfl;exact vE _ _ _ _ (rE 36 _));refine g2 ?_;refine ge ?_;(refine g1 ?_;refine zC ((hu.call zK Qf1 _).args (.cons (PLe.refl _) (.cons (PLe.tc_ts 2 _) .nil))) (yf0 ?_);rintro p2 h2 ⟨rfl,rfl⟩);refine ge ?_;rfl
theorem zn5(args:List Vl)(s:Sp)(t:List Vl):yH [⟨args,[s]⟩] t=if args=t then zo2 s else 0:=by
 simp only[yH];split
 ·unfold uQ;simp
 ·rfl
theorem zpH(a:Nat)(h:a<2 ^ 64):mY a 0=a:=by
 unfold mY;rw[Nat.sub_zero];exact Nat.and_two_pow_sub_one_of_lt_two_pow h
theorem zpL{a:List Rw}{args:List Vl}{s:Sp}(hc:CanL a)(hs:s.good):CanL (zoB a args s)/\(∀t,yH (zoB a args s) t=yH a t ||| if args=t then zo2 s else 0)/\ ∀x∈zoB a args s,x.args=args\/ ∃y∈a,x.args=y.args:=by
 obtain⟨h1,h2,h3⟩:=zhW (op:=(· ||| ·)) rfl (fun a b ha hb=>Uf ha hb) hc (fF args hs);exact Qbk
theorem bK{a:List Rw}{args:List Vl}{s:Sp}(hc:CanL a)(hs:s.good):CanL (dP a args s)/\(∀t,yH (dP a args s) t=mY (yH a t) (if args=t then zo2 s else 0))/\ ∀x∈dP a args s,x.args=args\/ ∃y∈a,x.args=y.args:=by
 obtain⟨h1,h2,h3⟩:=zhW (op:=mY) Qf2 (fun a b _ _=>zoR a b) hc (fF args hs);exact Qbk
@[go_sem] def URsx6f80.pl:Nat->DPlan
 |4=>⟨[yA,yB,yA,yA,yA,yA,yA,yA,yB,yA,yA,yA,yA,yA,yB,yC,yA,yA,yA,yA,yA,yA,yA,yA,yA,yA,yB,yB,yC,yA,yA,yA],zrL,0⟩
 |9=>⟨[yA,yB,yA,yA,yA,yB,yA,yA,yB,yC,yA,yA],xF,0⟩
 |_=>⟨[],[],0⟩
def RelX(types:List Int)(l:List Rw):Prop:=CanL l/\ ∀x∈l,ArgX types x.args
abbrev zrY:Rw:=⟨[],[]⟩
def StepX(types:List Int)(x y:Rw)(i:Nat):Prop:=(ArgX types x.args/\x.can)/\(0<i->zaF y.args x.args)
theorem zpF{l:List Rw}(h: ∀(i:Nat)(hi:i+1<l.length),zaF (l[i]'Qf0).args l[i+1].args):SoR l:=by
 have key: ∀(d i:Nat)(hj:i+d+1<l.length),zaF (l[i]'Qf0).args l[i+d+1].args:=fun d=>by
  induction d with
  |zero=>exact fun i hj=>h i hj
  |succ d ih=>exact fun i hj=>(ih i Qf0).tr (h (i+d+1) hj)
 intro i j hij hj;have:=key (j-i-1) i Qf0;have e:i+(j-i-1)+1=j:=Qf0;simpa only[e] using this
theorem zcX{l:List Rw}{i:Nat}(h:i<l.length):l.getD i zrY=l[i]:=by
 rw[Qb,Qa h];rfl
theorem zn1(types:List Int)(l:List Rw):RelX types l↔ ∀(j:Nat)(h:j<l.length),StepX types l[j] (l.getD (j-1) zrY) j:=by
 constructor
 ·intro h j hj;refine⟨⟨h.2 _ (Qc hj),h.1.2 _ (Qc hj)⟩,fun h0=> ?_⟩;rw[zcX Qf0];exact h.1.1 (j-1) j Qf0 hj
 ·intro h;refine⟨⟨zpF fun i hi=> ?_,fun x hx=> ?_⟩,fun x hx=> ?_⟩
  ·have:=(h (i+1) hi).2 Qf0;rw[show i+1-1=i from rfl,zcX Qf0] at this;exact this
  ·obtain⟨j,hj,rfl⟩:=Qy hx;exact(h j hj).1.2
  ·obtain⟨j,hj,rfl⟩:=Qy hx;exact(h j hj).1.1
open URsx6f80 in
theorem zoF(types:List Int)(l:List Rw)(ht:types.length<=140737488355328)(hl:l.length<=140737488355328)(hok: ∀x∈l,x.lt):EPure prog G0 80 [vF types,uN l] fun p=>p=bo (ze8 (RelX types l)):=by
 have F:=(a3 @zB @zA @zX)
 refine ECall.cut (R:=fun p _=>p=bo (ze8 (RelX types l))) (pv func80 70 false Qf3 rfl rfl ?_) Qgi;refine g2 ?_;refine ge ?_;refine zO l.length (K4 (D4 (.d:: .k:: .k:: .v::D9 (D9 (D9 (D9 (D9 (D9 (D4 ([])))))))))) (own:=false) (fun i (_:Heap)=>[i64 i]) (fun J=>J) (fun i _=> ∀(j:Nat)(h:j<l.length),j<i->StepX types l[j] (l.getD (j-1) zrY) j) [] rfl rfl (fun j _ hj=>absurd hj (Xt _)) hl ?_ ?_
 ·rintro J hI;refine gm ?_;rw[pO ((zn1 types l).2 fun j hj=>hI j hj hj)];exact Qd9
 ·rintro i J hi hw hI;refine gm ?_;have hx:=zG (f:=Rw.c) [] hi;have hxl:=hok _ (Qc hi);have no: ¬StepX types l[i] (l.getD (i-1) zrY) i->ze8 (RelX types l)=false:=fun h=>uA fun k=>h ((zn1 types l).1 k i hi);have next:StepX types l[i] (l.getD (i-1) zrY) i-> ∀(j:Nat)(h:j<l.length),j<i+1->StepX types l[j] (l.getD (j-1) zrY) j:=fun h j hj hji=>by
   exact Qdm
  have hp1:(l.map Rw.c).getD (i-1) []=Rw.c (l.getD (i-1) zrY):=by
   rw[zG (f:=Rw.c) [] (show i-1<l.length by omega),zcX Qf0]
  have hpo:(l.getD (i-1) zrY).ok:=by
   rw[zcX Qf0];exact(hok _ (Qc Qf0)).ok
  clear hI;generalize l[i]=x at*;generalize l.getD (i-1) zrY=y at*;by_cases h1:x.args.length=types.length
  case neg=>
   have e1:((x.args.length:Int)!=(types.length:Int))=true:=Qfh;rw[no fun k=>h1 k.1.1.1];refine gf (a4 F @hi @hx @e1) ?_;rfl
  have e1:((x.args.length:Int)!=(types.length:Int))=false:=Qfa;by_cases h2:x.w.length=0
  ·have e2:((x.w.length:Int)==0)=true:=Qff;rw[no fun k=>k.1.2.2 (Xi h2)];clear hw next
   refine gf (a5 F @hi @hx @e1 @e2) ?_;rfl
  have e2:((x.w.length:Int)==0)=false:=Qfr;have F1:=(a6 F @hi @hx @hw @e1 @e2)
  by_cases hsp:x.w=yW (uQ x.w)
  case neg=>
   have hiv:=zn4 x.w (by have:=hxl.w;omega);rw[Zy hsp] at hiv;rw[no fun k=>hsp (zoO.1 k.1.2.1)];(repeat(first|refine gz ?_|(refine gn ?_;intro zs zh;(try simp only[go_sem,F1] at zh);subst zh;(first|refine gv ?_|((first|refine zC (hiv.call zK Qf1 _) ?_|refine zP Qf2 Qf2 (hiv.call zK Qf1 _) ?_);intro p2 h2 hr2;obtain⟨hr2,rfl⟩:=hr2;first|obtain⟨_,rfl,hr2⟩:=hr2|obtain⟨_,rfl⟩:=hr2|subst hr2|skip)))|refine yD URsx6f80.pl ?_));rfl
  have hiv:=zn4 x.w (by have:=hxl.w;omega);rw[Yz hsp] at hiv;have hcan:x.can:=⟨zoO.2 hsp,fun e=>h2 (by rw[e];rfl)⟩
  by_cases h0:0<i
  ·have h01:(0:Int)<(i:Int):=Qf0;have wi:IntKind.i64.wrap ((i:Int)-1)=((i-1:Nat):Int):=Qgu;have hi1:i-1<l.length:=Qf0;have hby:=uS y x hpo hxl.ok;by_cases hc0:0<=sD y.args x.args
   ·rw[no fun k=>by have:=k.2 h0;unfold zaF at this;omega];generalize hcc:sD y.args x.args=c at*;refine Qad ?_;rfl
   ·have hlt:zaF y.args x.args:=by unfold zaF;omega
    generalize hcc:sD y.args x.args=c at*;refine Qad ?_;refine zO x.args.length (K4 (.d:: .k:: .k:: .d:: .d::K9 (K9 (K9 (K9 (K4 (.k:: .k:: .v::D9 (D4 (D4 (.k::[])))))))))) (own:=false) (fun j (_:Heap)=>[i64 j]) (fun J=>J) (fun i _=> ∀(j:Nat)(h:j<x.args.length)(h':j<types.length),j<i->x.args[j].t=types[j]/\zoC x.args[j]=true) _ rfl rfl (fun _ _ _ h=>absurd h (Xt _)) (by have:=hxl.al;omega) ?_ ?_
    ·rintro J2 hA;refine gm ?_;refine gf (a2 @zM @hw) ?_;exact⟨J2,next ⟨⟨jR h1 hA,hcan⟩,fun _=>hlt⟩,rfl,rfl,rfl⟩
    ·rintro j J2 hj hwj hA;refine gm ?_;have hv:=zG (f:=Vl.c) [] hj;have hjt:j<types.length:=Qf0;have htj:=zG (f:=fun n:Int=>[i64 n]) [] hjt;have F3:=(a6 F @hj @hv @htj @hjt @hwj)
     have no2: ¬(x.args[j].t=types[j]/\zoC x.args[j]=true)->ze8 (RelX types l)=false:=fun h=>no fun k=>h (k.1.1.2 j hj hjt);have next2:(x.args[j].t=types[j]/\zoC x.args[j]=true)-> ∀(k:Nat)(h:k<x.args.length)(h':k<types.length),k<j+1->x.args[k].t=types[k]/\zoC x.args[k]=true:=fun h k hk hk' hkj=>by
      exact Qcu
     clear hA next
     generalize x.args[j]=v at*;generalize types[j]=ty at*;have hvv:=zr2 v;by_cases hty:v.t=ty
     ·have e3:(v.t !=ty)=false:=Qfj;cases hb:zoC v with
      |false=>
       rw[no2 fun k=>by rw[hb] at k;exact Bool.noConfusion k.2];rw[hb] at hvv;refine Qar ?_;rfl
      |true=>
       rw[hb] at hvv;refine Qar ?_;exact⟨_,next2 ⟨hty,hb⟩,rfl,rfl,rfl⟩
     ·have e3:(v.t !=ty)=true:=Qfj;rw[no2 fun k=>hty k.1];refine gf (a2 F3 @e3) ?_;rfl
  ·have h01: ¬((0:Int)<(i:Int)):=Qf0;have hlt:0<i->zaF y.args x.args:=fun h=>absurd h h0;(repeat(first|refine gz ?_|(refine gn ?_;intro zs zh;(try simp only[go_sem,F1,h0,h01] at zh);subst zh;(first|refine gv ?_|((first|refine zC (hiv.call zK Qf1 _) ?_|refine zP Qf2 Qf2 (hiv.call zK Qf1 _) ?_);intro p2 h2 hr2;obtain⟨hr2,rfl⟩:=hr2;first|obtain⟨_,rfl,hr2⟩:=hr2|obtain⟨_,rfl⟩:=hr2|subst hr2|skip)))|refine yD URsx6f80.pl ?_));refine zO x.args.length (K4 (.d:: .k:: .k:: .d:: .d::K9 (K9 (K9 (K9 (K4 (.k:: .k:: .v::D9 (D4 (D4 (.k::[])))))))))) (own:=false) (fun j (_:Heap)=>[i64 j]) (fun J=>J) (fun i _=> ∀(j:Nat)(h:j<x.args.length)(h':j<types.length),j<i->x.args[j].t=types[j]/\zoC x.args[j]=true) _ rfl rfl (fun _ _ _ h=>absurd h (Xt _)) (by have:=hxl.al;omega) ?_ ?_
   ·rintro J2 hA;refine gm ?_;refine gf (a2 @zM @hw) ?_;exact⟨J2,next ⟨⟨jR h1 hA,hcan⟩,hlt⟩,rfl,rfl,rfl⟩
   ·rintro j J2 hj hwj hA;refine gm ?_;have hv:=zG (f:=Vl.c) [] hj;have hjt:j<types.length:=Qf0;have htj:=zG (f:=fun n:Int=>[i64 n]) [] hjt;have F2:=(a6 F @hj @hv @htj @hjt @hwj)
    have no2: ¬(x.args[j].t=types[j]/\zoC x.args[j]=true)->ze8 (RelX types l)=false:=fun h=>no fun k=>h (k.1.1.2 j hj hjt);have next2:(x.args[j].t=types[j]/\zoC x.args[j]=true)-> ∀(k:Nat)(h:k<x.args.length)(h':k<types.length),k<j+1->x.args[k].t=types[k]/\zoC x.args[k]=true:=fun h k hk hk' hkj=>by
     exact Qcu
    clear hA next
    generalize x.args[j]=v at*;generalize types[j]=ty at*;have hvv:=zr2 v;by_cases hty:v.t=ty
    ·have e3:(v.t !=ty)=false:=Qfj;cases hb:zoC v with
     |false=>
      rw[no2 fun k=>by rw[hb] at k;exact Bool.noConfusion k.2];rw[hb] at hvv;refine Qaq ?_;rfl
     |true=>
      rw[hb] at hvv;refine Qaq ?_;exact⟨_,next2 ⟨hty,hb⟩,rfl,rfl,rfl⟩
    ·have e3:(v.t !=ty)=true:=Qfj;rw[no2 fun k=>hty k.1];refine gf (a2 F2 @e3) ?_;rfl
def rV{α:Type}(F:α->Bool):List α->Int
 | []=> -1
 |x::l=>if F x=true then 0 else if rV F l<0 then -1 else rV F l+1
theorem zhK{α:Type}{F:α->Bool}: ∀{l:List α},(∀(j:Nat)(h:j<l.length),F l[j]=false)->rV F l= -1
 | [],_=>rfl
 |x::l,k=>by
  have h0:=k 0 Qf1;have:=zhK (F:=F) (l:=l) fun j h=>k (j+1) Qfn;simp only[Ue] at h0;simp only[rV,h0,this];simp
theorem zbW{α:Type}{F:α->Bool}: ∀{l:List α}{i:Nat}(hi:i<l.length),(∀(j:Nat)(h:j<l.length),j<i->F l[j]=false)->F l[i]=true->rV F l=i
 | [],i,hi,_,_=>by simp at hi
 |x::l,0,_,_,h=>by simp only[Ue] at h;simp[rV,h]
 |x::l,i+1,hi,k,h=>by
  have h0:=k 0 Qf1 Qf0;have:=zbW (F:=F) (l:=l) (i:=i) Qg3 (fun j h hj=>k (j+1) Qfn Qf0) h;simp only[Ue] at h0;simp only[rV,h0,this];rw[Qi Qf1,Qi Qf0];omega
theorem zbV{α:Type}{F:α->Bool}: ∀{l:List α},rV F l<0-> ∀x∈l,F x=false
 | [],_,x,hx=>by simp at hx
 | y::l,h,x,hx=>by
  simp only[rV] at h;split at h
  ·omega
  ·rename_i hy;split at h
   ·rename_i hl;rcases Qw.1 hx with rfl|hx
    ·simpa using hy
    ·exact zbV hl x hx
   ·omega
theorem eQ{α:Type}{F:α->Bool}: ∀{l:List α}{i:Nat},rV F l=i-> ∃h:i<l.length,F l[i]=true
 | [],i,h=>by simp[rV] at h
 | y::l,i,h=>by
  simp only[rV] at h;split at h
  ·rename_i hy;have:i=0:=Qf0;subst this;exact⟨Qf1,by simpa using hy⟩
  ·split at h
   ·omega
   ·obtain⟨i,rfl⟩: ∃j,i=j+1:=⟨i-1,Qf0⟩
    obtain⟨hi,hF⟩:=eQ (F:=F) (l:=l) (i:=i) Qf0;exact⟨by simpa using hi,by simpa using hF⟩
instance:DecidableEq Ce:=fun x y=>decidable_of_iff (x.a=y.a/\x.b=y.b/\x.e=y.e) Qgr
@[go_sem] def UBsx1f88.pl:Nat->DPlan
 |6=>⟨[yA,yA,yA,yB,yA,yA,yA,yB,yA],uW,0⟩
 |_=>⟨[],[],0⟩
@[go_sem] def UBsx1f148.pl:Nat->DPlan
 |1=>⟨[yA,yB,yB,yA,yA,yB,yB,yA,yC,yA,yA,yB,yA,yB,yC,yA,yA,yA,yA],sI,0⟩
 |_=>⟨[],[],0⟩
@[go_sem] def UBsx1f199.pl:Nat->DPlan
 |6=>⟨[yA,yA,yA,yB,yA,yA,yA,yB,yA],uW,0⟩
 |_=>⟨[],[],0⟩
open UBsx1f88 in
theorem zjE(a b:List Vl)(ha:a.length<=140737488355328):EPure prog G0 88 [pH a,pH b] fun r=>r=bo (decide (a=b)):=by
 refine ECall.pure (pv func88 26 false Qf3 rfl rfl ?_);refine g2 ?_;by_cases hl:a.length=b.length
 ·have hne:((a.length:Int)!=(b.length:Int))=false:=Qf5;refine gf @hne ?_;refine zO a.length (K4 (.d:: .d::K4 (.k:: .k:: .k:: .v::D9 (.d:: .d:: .d::[])))) (own:=false) (fun i (_:Unit)=>[i64 i]) (fun _=>_) (fun i _=> ∀(j:Nat)(h:j<a.length)(h':j<b.length),j<i->a[j]=b[j]) () rfl rfl (fun _ _ _ h=>absurd h (Xt _)) ha ?_ ?_
  ·exact Qen
  ·exact Qa3
 ·exact Qem
open UBsx1f199 in
theorem zrD(a b:List Ce)(ha:a.length<=140737488355328):EPure prog G0 199 [ces a,ces b] fun r=>r=bo (decide (a=b)):=by
 refine ECall.pure (pv func199 26 false Qf3 rfl rfl ?_);refine g2 ?_;by_cases hl:a.length=b.length
 ·have hne:((a.length:Int)!=(b.length:Int))=false:=Qf5;refine gf @hne ?_;refine zO a.length (K4 (.d:: .d::K4 (.k:: .k:: .k:: .v::D9 (.d:: .d:: .d::[])))) (own:=false) (fun i (_:Unit)=>[i64 i]) (fun _=>_) (fun i _=> ∀(j:Nat)(h:j<a.length)(h':j<b.length),j<i->a[j]=b[j]) () rfl rfl (fun _ _ _ h=>absurd h (Xt _)) ha ?_ ?_
  ·exact Qeo
  ·rintro i _ hi hw hI;refine gm ?_;have hlb:i<b.length:=Qf0;have hg:=zG (f:=Ce.c) [] hi;have hgb:=zG (f:=Ce.c) [] hlb;by_cases he:a[i]=b[i]
   ·have hI': ∀(j:Nat)(h:j<a.length)(h':j<b.length),j<i+1->a[j]=b[j]:=fun j h h' hj=>by
     exact Qeq
    rw[<-he] at hgb;have f1: ∀x:Int,(x==x)=true:=fun x=>by simp
    generalize a[i]=x at*;refine gf (a8 @hi @hlb @hw @hg @hgb @zB @zs8 @f1) ?_;exact⟨(),hI',rfl,rfl,rfl⟩
   ·have e:decide (a=b)=false:=by
     rw[Xo];intro h;subst h;exact he rfl
    rw[e];have f2:(a[i].a==b[i].a&&(a[i].b==b[i].b&&a[i].e==b[i].e))=false:=by
     rcases Zp (a[i].a==b[i].a&&(a[i].b==b[i].b&&a[i].e==b[i].e)) with h|h
     ·exfalso;simp only[Zw,Qt,Zm,Xm] at h;exact Qet
     ·exact h
    generalize a[i]=x at*;generalize b[i]=y at*;refine gf (a8 @hi @hlb @hw @hg @hgb @zB @zs8 @f2) ?_;exact Qaa
 ·exact Qem
theorem zq9(l:List Rw)(F:Rw->Bool)(g:FuncId)(cap:List PV)(h0:Heap)(hl:l.length<=140737488355328)(hF: ∀x∈l, ∀J,ECall prog G0 g ((.agg x.c)::cap) (h0++J) fun p h'=> ∃(J':Heap),p=bo (F x)/\h'=h0++J')(J:Heap):
  ECall prog G0 200 [uN l,.fn (.func g) [] cap] (h0++J) fun p h'=> ∃(J':Heap),p=i64 (rV F l)/\h'=h0++J':=by
 refine pv func200 19 false Qf3 rfl rfl ?_;refine g2 ?_;refine ge ?_;refine zO l.length (K4 (.d:: .d:: .k:: .k:: .v::D9 (.d::[]))) (own:=false) (fun i (_:Heap)=>[i64 i]) (fun J=>h0++J) (fun i _=> ∀(j:Nat)(h:j<l.length),j<i->F l[j]=false) J rfl rfl (fun j _ hj=>absurd hj (Xt _)) hl ?_ ?_
 ·rintro J hI;refine gm ?_;refine gf @zM ?_;exact⟨_,by rw[zhK fun j h=>hI j h h],rfl⟩
 ·rintro i J hi hw hI;refine gm ?_;have hx:=zG (f:=Rw.c) [] hi;refine gf (a4 @hi @hx @zB @hw) ?_;(refine g1f @hx ?_;refine zC (hF _ (Qc hi) J) (yf0 ?_);rintro p2 h2 ⟨J',rfl,rfl⟩);cases hb:F l[i]
  ·refine gf @hw ?_;refine⟨J',fun j h hj=> ?_,rfl,rfl,rfl⟩;rcases Xy j i with hji|hji
   ·exact hI j h hji
   ·have:j=i:=Qf0;subst this;exact hb
  ·refine ge ?_;exact⟨_,by rw[zbW hi hI hb],rfl⟩
theorem zrA{α:Type}(F:α->Bool)(l:List α):l.any F=decide (0<=rV F l):=by
 rcases Int.lt_or_le (rV F l) 0 with h|h
 ·rw[Zy Qf0,List.any_eq_false];intro x hx;rw[zbV h x hx];simp
 ·rw[Yz h,List.any_eq_true];obtain⟨i,hi⟩:=Qm h;obtain⟨hl,hF⟩:=eQ hi;exact⟨_,Qc hl,hF⟩
theorem zrV(l:List Rw)(F:Rw->Bool)(g:FuncId)(cap:List PV)(h0:Heap)(hl:l.length<=140737488355328)(hF: ∀x∈l, ∀J,ECall prog G0 g ((.agg x.c)::cap) (h0++J) fun p h'=> ∃(J':Heap),p=bo (F x)/\h'=h0++J')(J:Heap):
  ECall prog G0 150 [uN l,.fn (.func g) [] cap] (h0++J) fun p h'=> ∃(J':Heap),p=bo (l.any F)/\h'=h0++J':=by
 rw[zrA F l];refine pv func150 9 false Qf3 rfl rfl ?_;refine g2 ?_;refine ge ?_;(refine g1 ?_;refine zC (zq9 l F g cap h0 hl hF J) (yf0 ?_);rintro p2 h2 ⟨J',rfl,rfl⟩);refine ge ?_;exact⟨_,rfl,rfl⟩
def tA(k:Nat)(x y:Rw):Bool:=decide (y.args.take k=x.args.take k)&&decide (0<(yW (uQ y.w &&& uQ x.w)).length)
open UBsx1f148 in
theorem zp0(x y:Rw)(k q c:Nat)(hx:k<=x.args.length)(hy:k<=y.args.length)(hxl:x.lt)(hyl:y.lt)(h0:Heap)(hq:h0[q]? =some (.var 159 y.c))(hc:h0[c]? =some (.var 3 [i64 k]))(J:Heap):
  ECall prog G0 148 [.agg x.c,.ptr q 0,.ptr c 0] (h0++J) fun p h'=> ∃(J':Heap),p=bo (tA k x y)/\h'=h0++J':=by
 refine pv func148 23 false Qf3 rfl rfl ?_;refine g2 ?_;have hq': ∀l:List Blk,(h0++l)[q]? =some (.var 159 y.c):=fun l=>yJ _ _ _ _ hq;have hc': ∀l:List Blk,(h0++l)[c]? =some (.var 3 [i64 k]):=fun l=>yJ _ _ _ _ hc;have hb: ∀l:List Blk,(h0++(J++l))[h0.length+J.length]? =l[0]? :=fun l=>by rw[<-Qv,<-Ql];exact rU _ _
 have e1:((k:Int)<=(x.args.length:Int))=True:=Qf7;have e2:((k:Int)<=(y.args.length:Int))=True:=by simp[hy]
 have F:=(a7 @hq' @hc' @hb @hx @hy @e1 @e2)
 refine gf (a2 F @xO) ?_;have hal:=hxl.al;have hwx:=hxl.w;have hwy:=hyl.w;unfold tA;(refine yf1 (a2 F @xO) ?_;refine zP Qf2 Qf2 ((zjE (y.args.take k) (x.args.take k) Qfq).call zK Qf1 _) (yf0 ?_);rintro p2 h2 ⟨rfl,rfl⟩);cases decide (y.args.take k=x.args.take k) with
 |false=>
  refine gf (a2 F @xO) ?_;exact⟨_,rfl,rfl⟩
 | true=>
  refine gf (a2 F @xO) ?_;(refine vY ?_;refine zN rfl rfl rfl ?_;intro sr hsr;simp only[sK,wP] at hsr;subst hsr;(first|refine pK ?_|refine pL ?_);intro sr hsr;simp only[go_sem,F,xO] at hsr;subst hsr;refine zP Qf2 Qf2 ((zrT y.w x.w Qf0 Qf0).call zK Qf1 _) (yf0 ?_);rintro p2 h2 ⟨rfl,rfl⟩);generalize yW (uQ y.w &&& uQ x.w)=w at*;have e3:decide ((0:Int)<(w.length:Int))=decide (0<w.length):=by
   by_cases h:0<w.length
   ·rw[Yz h,Yz Qf0]
   ·rw[Zy h,Zy Qf0]
  refine gf (a3 F @xO @e3) ?_;exact⟨_,rfl,rfl⟩
def zr1(k:Nat)(l:List Rw):Prop:= ∀(i:Nat)(h:i<l.length),((l.take i).any fun y=>tA k y l[i])=false
theorem zq8(rel:List Rw)(hl:rel.length<=1099511627776)(k:Nat)(hr: ∀x∈rel,k<=x.args.length/\x.lt):EPure prog G0 81 [uN rel,i64 k] fun v=>v=bo (ze8 (zr1 k rel)):=by
 refine ECall.cut (R:=fun v _=>v=bo (ze8 (zr1 k rel))) (pv func81 22 false Qf3 rfl rfl ?_) Qgi;refine g2 ?_;refine ge ?_;refine zO rel.length (K4 (D4 (.k:: .k:: .v::D9 (.d:: .d::[])))) (own:=false) (fun i (_:Heap)=>[i64 i]) (fun J=> .var 3 [i64 k]::J) (fun i _=> ∀(j:Nat)(h:j<rel.length),j<i->((rel.take j).any fun y=>tA k y rel[j])=false) [] rfl rfl (fun _ _ h=>absurd h (Xt _)) Qf0 ?_ ?_
 ·rintro J hI;refine gm ?_;rw[pO (P:=zr1 k rel) (fun j hj=>hI j hj hj)];exact Qd9
 ·rintro i J hi hw hI;refine gm ?_;have hx:=zG (f:=Rw.c) [] hi;have hxo:=hr _ (Qc hi);have no:((rel.take i).any fun y=>tA k y rel[i])=true->ze8 (zr1 k rel)=false:=fun h=>uA fun q=>by have:=q i hi;rw[h] at this;cases this
  have next:((rel.take i).any fun y=>tA k y rel[i])=false-> ∀(j:Nat)(h:j<rel.length),j<i+1->((rel.take j).any fun y=>tA k y rel[j])=false:=fun h j hj hji=>by
   exact Qdm
  clear hI;generalize rel[i]=x at*;have hile:(i:Int)<=(rel.length:Int):=Qf0;have hile2:i<=rel.length:=Qf0;have F:=(a8 @hi @hx @zB @hw @zA @zX @hile @hile2)
  refine gf (a2 F @xO) ?_;have hq:(Blk.var 3 [i64 k]::(J++[Blk.var 159 x.c]))[J.length+1]? =some (.var 159 x.c):=Qf1;have hcf:=zrV (rel.take i) (fun y=>tA k y x) 148 [.ptr (J.length+1) 0,.ptr 0 0] (.var 3 [i64 k]::(J++[.var 159 x.c])) Qfq (fun y hy J2=>zp0 y x k (J.length+1) 0 (hr y (Zk hy)).1 hxo.1 (hr y (Zk hy)).2 hxo.2 _ hq rfl J2) [];rw[Xz] at hcf;(refine ns ?_;intro zs zh;simp only[go_sem,F,xO] at zh;subst zh;refine zC (hcf) (yf0 ?_);rintro p2 h2 ⟨J',rfl,rfl⟩);cases hb:(rel.take i).any fun y=>tA k y x
  ·refine gf @hw ?_;exact⟨_,next hb,rfl,rfl,rfl⟩
  ·rw[no hb];refine gf @hw ?_;rfl
def zqT(a:Int):Nat:=a.toNat
def tB(g:Int->Int)(ms:List Int)(a b:Int):List Int:=(List.range 64).map fun i:Nat=>if a<=(i:Int)/\(i:Int)<b then g (ms.getD i 0) else ms.getD i 0
theorem yY(g:Int->Int)(ms:List Int)(a b:Int):(tB g ms a b).length=64:=by simp[tB]
theorem tU{g:Int->Int}{ms:List Int}{a b:Int}{i:Nat}(h:i<64):(tB g ms a b).getD i 0=if a<=(i:Int)/\(i:Int)<b then g (ms.getD i 0) else ms.getD i 0:=by
 unfold tB;rw[Qb,Qu,Kc h];rfl
theorem mH{x y:List Int}(hx:x.length=64)(hy:y.length=64)(h: ∀i,i<64->x.getD i 0=y.getD i 0):x=y:=by
 refine Zc Qf0 fun i h1 h2=> ?_;have:=h i Qf0;rw[Qb,Qb,Qa h1,Qa h2] at this;exact this
theorem zpD{g:Int->Int}{ms:List Int}{a b:Int}(hms:ms.length=64)(h: ∀i:Nat,i<64-> ¬(a<=(i:Int)/\(i:Int)<b)):tB g ms a b=ms:=
 mH (yY ..) hms fun i hi=>by rw[tU hi,Qi (h i hi)]
theorem zqE{ms:List Int}{k i:Nat}{v:Int}(hk:k<ms.length):(ms.set k v).getD i 0=if i=k then v else ms.getD i 0:=by
 rw[Qb,Qb];by_cases h:i=k
 ·subst h;rw[Qj rfl,Qh hk];rfl
 ·rw[Qi h,Qd (Ne.symm h)]
theorem zfE{g:Int->Int}{ms:List Int}{a:Int}{k:Nat}(hk:zqT a<=k)(h64:k<64):(tB g ms a k).set k (g ((tB g ms a k).getD k 0))=tB g ms a ((k+1:Nat):Int):=by
 unfold zqT at hk;refine mH (by rw[Xb];exact yY ..) (yY ..) fun i hi=> ?_;rw[zqE (by rw[yY];exact h64),tU h64,tU hi,tU hi];by_cases h:i=k
 ·subst h;rw[Qj rfl,Qi (show ¬(a<=(i:Int)/\(i:Int)<(i:Int)) by omega),Qj Qf0]
 ·rw[Qi h];by_cases h2:a<=(i:Int)/\(i:Int)<(k:Int)
  ·rw[Qj h2,Qj Qf0]
  ·rw[Qi h2,Qi Qf0]
theorem znS{g:Int->Int}{ms:List Int}{a b:Int}{k:Nat}(h1:k=zqT a\/k<=64/\(k:Int)<=b)(h2:b<=k\/64<=k):tB g ms a k=tB g ms a b:=by
 unfold zqT at h1;refine mH (yY ..) (yY ..) fun i hi=> ?_;rw[tU hi,tU hi];by_cases h:a<=(i:Int)/\(i:Int)<(k:Int)
 ·rw[Qj h,Qj Qf0]
 ·rw[Qi h,Qi Qf0]
theorem zdN{g:Int->Int}{ms:List Int}{a:Int}(hms:ms.length=64):tB g ms a (zqT a:Nat)=ms:=zpD hms fun i hi=>by unfold zqT;omega
theorem zqH(a b:Int)(c1 c2 r:Nat)(J:Nat->Heap->Prop)(h0:Heap)(hJ:J (zqT a) h0)(h1:h0[c1]? =some (.var 3 [i64 a]))(h2: ∀k h,J k h->h[c2]? =some (.var 3 [i64 b]))
  (hy: ∀(k:Nat) h,zqT a<=k->k<64->(k:Int)<b->J k h->EYl prog G0 r [i64 k] h fun p h'=>p=bo true/\J (k+1) h'):ECall prog G0 309 [.yl r,.ptr c1 0,.ptr c2 0] h0 fun _ h'=> ∃k,J k h'/\(k=zqT a\/k<=64/\(k:Int)<=b)/\(b<=k\/64<=k):=by
 refine pv func309 17 false Qf3 rfl rfl ?_;refine g2 ?_;obtain⟨k0,hk0,hkl⟩: ∃k0:Nat,(if a<0 then(0:Int) else a)=k0/\k0=zqT a:=by
  unfold zqT;by_cases h:a<0
  ·exact⟨0,by rw[Qj h];rfl,Qf0⟩
  ·exact⟨a.toNat,by rw[Qi h];omega,rfl⟩
 rw[<-hkl] at hJ hy ⊢
 refine gf (a2 @h1 @hk0) ?_;refine zW (K4 (.v:: .k:: .k::D9 (.d::[]))) (fun (s:Nat×Heap)=>[i64 s.1]) (fun s=>s.2) (fun s=>J s.1 s.2/\k0<=s.1/\(s.1=k0\/s.1<=64/\(s.1:Int)<=b)) (fun s=>64-s.1) (own:=false) (k0,h0) rfl rfl ⟨hJ,Xe _,.inl rfl⟩ ?_;rintro⟨k,h⟩ ⟨hJh,hkk,hkor⟩ t ht;dsimp only at*;simp only[zY] at ht;subst ht;have hb:=h2 k h hJh;by_cases hk:(k:Int)<(if (64:Int)<b then 64 else b)
 ·have hk':decide ((k:Int)<(if (64:Int)<b then 64 else b))=true:=Qft;have hk64:k<64:=by split at hk<;>omega
  have hwr:IntKind.i64.wrap ((k:Int)+1)=((k+1:Nat):Int):=Qgu;refine gf (a2 @hb @hk') ?_;(refine wU ?_;intro sr hsr;simp only[go_sem] at hsr;subst hsr;refine rC rfl (by simp only[dC,go_sem]<;>rfl) (hy k h hkk hk64 (by split at hk<;>omega) hJh) (yf0 ?_);rintro p2 h2 ⟨rfl,hJ2⟩);refine gf @hwr ?_;exact⟨(k+1,_),⟨hJ2,by dsimp only;omega,.inr ⟨by dsimp only;omega,by dsimp only;split at hk<;>omega⟩⟩,by dsimp only;omega,rfl,rfl,rfl⟩
 ·have hk':decide ((k:Int)<(if (64:Int)<b then 64 else b))=false:=Qft;refine gf (a2 @hb @hk') ?_;exact⟨k,hJh,hkor,by split at hk<;>omega⟩
theorem zgW(l:La)(tb m1 m2:Nat)(es:List En)(h:Heap)(hT:TB l tb m1 m2 es h)(n:Int):
  ECall prog G0 241 [.ptr tb 0,i64 n] h fun p h'=>h'=h/\p=bo (ze7 l n):=by
 refine pv func241 17 false Qf3 rfl rfl ?_;refine g2 ?_;have ht:=hT.t;unfold ze7;by_cases h0:0<=n
 ·have e0:decide (0<=n)=true:=Qf9;have e1:decide (0<=n/\n<(l.pw.length:Int))=decide (n<(l.pw.length:Int)):=Qf9;rw[e1];refine gf (a2 @ht @e0) ?_;exact⟨rfl,rfl⟩
 ·have e0:decide (0<=n)=false:=Qf9;have e1:decide (0<=n/\n<(l.pw.length:Int))=false:=Qf9;rw[e1];refine gf (a2 @ht @e0) ?_;exact⟨rfl,rfl⟩
noncomputable def dU(l:La)(ms:List Int)(a b e:Int):List Int:=if ze7 l e=true then tB (fun x=>zpP l x e) ms a b else ms
end Go.AL
