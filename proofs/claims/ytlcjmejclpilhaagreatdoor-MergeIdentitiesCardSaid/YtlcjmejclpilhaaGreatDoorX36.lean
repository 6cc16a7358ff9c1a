/-
  Cells: valid tuples of one key are equal.
-/
import Derived.Test.YtlcjmejclpilhaaGreatDoorX35
set_option linter.unusedSimpArgs false
set_option linter.unusedVariables false
set_option maxRecDepth 100000
set_option maxHeartbeats 4000000
namespace Go.AL
open Go.Proofs Go.Proofs.Tryz
@[go_sem] def UFacf90.pl:Nat->DPlan
 |6=>⟨[yA,yA,yA,yB,yA,yA,yA,yB,yA],uW,0⟩
 |_=>⟨[],[],0⟩
structure Fa where
 pred:Int
 args:List Vl
 elem:Int
@[reducible] def Fa.c(f:Fa):List PV:=[i64 f.pred,pH f.args,i64 f.elem]
open UFacf90 in
theorem yeW(a b:List Vl)(ha:a.length<=140737488355328):EPure prog G0 90 [pH a,pH b] fun r=>r=bo (decide (a=b)):=by
 refine ECall.pure (pv func90 26 false Qf6 rfl rfl ?_);refine g2 ?_;by_cases hl:a.length=b.length
 ·have hne:((a.length:Int)!=(b.length:Int))=false:=Qf8;refine gf @hne ?_;refine zO a.length (K4 (.d:: .v::K4 (.k::D9 (D4 (.d:: .d::[]))))) (own:=false) (fun i (_:Unit)=>[i64 i]) (fun _=>_) (fun i _=> ∀(j:Nat)(h:j<a.length)(h':j<b.length),j<i->a[j]=b[j]) () rfl rfl (fun _ _ _ h=>absurd h (Xt _)) ha ?_ ?_
  ·exact Qep
  ·exact Qa3
 ·exact Qeo
theorem yeF(a b:Fa)(ha:a.args.length<=140737488355328):EPure prog G0 32 [.agg a.c,.agg b.c] fun r=>r=bo (decide (a.pred=b.pred/\a.args=b.args/\a.elem=b.elem)):=by
 refine ECall.cut (R:=fun r _=>r=bo (decide (a.pred=b.pred/\a.args=b.args/\a.elem=b.elem))) (pv func32 24 false Qf6 rfl rfl ?_) Qgl;refine g2 ?_;by_cases h1:a.pred=b.pred
 ·have e1:(a.pred==b.pred)=true:=Qfd;refine gf @e1 ?_;(refine g1f @e1 ?_;refine zC ((yeW a.args b.args ha).call zK Qf4 _) ?_;intro p2 h2 hr2;refine g2 ?_);obtain⟨rfl,rfl⟩:=hr2;by_cases h2:a.args=b.args
  ·have e2:decide (a.args=b.args)=true:=Qfi;rw[e2];have e3:decide (a.pred=b.pred/\a.args=b.args/\a.elem=b.elem)=(a.elem==b.elem):=by
    rw[Jn];simp[h1,h2]
   rw[e3];refine gf @e1 ?_;rfl
  ·have e2:decide (a.args=b.args)=false:=Qfi;have e3:decide (a.pred=b.pred/\a.args=b.args/\a.elem=b.elem)=false:=Qfi;rw[e2,e3];refine gf @e1 ?_;rfl
 ·have e1:(a.pred==b.pred)=false:=Qfd;have e3:decide (a.pred=b.pred/\a.args=b.args/\a.elem=b.elem)=false:=Qfd;rw[e3];refine gf @e1 ?_;rfl
def fL(l:List Sp)(m:Int):Bool:=decide (0<=m)&&(decide (m<64)&&(uQ l).testBit m.toNat)
abbrev Ln:=List Vl×List (Option Fa)
structure Tld where
 k:List Vl
 g:Fa
 a:Int
 b:Int
def Tld.hit(x:Tld)(k:List Vl)(m:Nat):Prop:=x.k=k/\x.a<=(m:Int)/\(m:Int)<x.b
def zaM(g:Fa)(M:List (Option Fa))(a b:Int):List (Option Fa):=(List.range 64).map fun i:Nat=>if a<=(i:Int)/\(i:Int)<b then some g else M.getD i none
abbrev zyH:List (Option Fa):=List.replicate 64 none
theorem bS(g:Fa)(M:List (Option Fa))(a b:Int):(zaM g M a b).length=64:=by simp[zaM]
theorem ztH{g:Fa}{M:List (Option Fa)}{a b:Int}{i:Nat}(h:i<64):(zaM g M a b).getD i none=if a<=(i:Int)/\(i:Int)<b then some g else M.getD i none:=by
 unfold zaM;rw[Qb,Qu,Kb h];rfl
theorem zuY{x y:List (Option Fa)}(hx:x.length=64)(hy:y.length=64)(h: ∀i,i<64->x.getD i none=y.getD i none):x=y:=by
 refine Zc Qf3 fun i h1 h2=> ?_;have:=h i Qf3
 rwa [Qb,Qa h1,Qb,Qa h2] at this
theorem zuR{g:Fa}{M:List (Option Fa)}{a b:Int}(hM:M.length=64)(h:b<=a):zaM g M a b=M:=
 zuY (bS ..) hM fun i hi=>by rw[ztH hi,Qi Qf3]
theorem zuQ{g:Fa}{M:List (Option Fa)}{a:Int}{m:Nat}(h:a<=(m:Int))(hm:m<64):(zaM g M a (m:Int)).set m (some g)=zaM g M a ((m:Int)+1):=
 zuY (by rw[Xb,bS]) (bS ..) fun i hi=>by
  rw[Qb,Qq,ztH hi];by_cases e:m=i
  ·subst e;rw[Qj rfl,Qj (by rw[bS];exact hi),Qj ⟨h,Qf3⟩];rfl
  ·rw[Qi e,<-Qb,ztH hi];by_cases q:a<=(i:Int)/\(i:Int)<(m:Int)
   ·rw[Qj q,Qj ⟨q.1,Qf3⟩]
   ·rw[Qi q,Qi fun w=>q ⟨w.1,Qf3⟩]
noncomputable def iD:List Ln->List Vl->List (Option Fa)
 | [],_=>zyH
 |x::T,k=>if ze8 (x.1=k)=true then x.2 else iD T k
noncomputable def zk7(T:List Ln)(k:List Vl):List Ln:=if ze8 (k∈T.map (·.1))=true then T else T++[(k,zyH)]
noncomputable def zk4(T:List Ln)(k:List Vl)(f:List (Option Fa)->List (Option Fa)):List Ln:=T.map fun x=>if ze8 (x.1=k)=true then(x.1,f x.2) else x
noncomputable def zxH(T:List Ln)(c:Tld):List Ln:=zk4 (zk7 T c.k) c.k fun M=>zaM c.g M c.a c.b
theorem zuU(T:List Ln)(k:List Vl)(f:List (Option Fa)->List (Option Fa)):(zk4 T k f).map (·.1)=T.map (·.1):=by
 unfold zk4;rw[Zg];refine Yq fun x _=> ?_;simp only[Function.comp_apply];split<;>rfl
theorem zsO(T:List Ln)(k:List Vl):(zk7 T k).map (·.1)=if ze8 (k∈T.map (·.1))=true then T.map (·.1) else T.map (·.1)++[k]:=by
 unfold zk7;split
 ·rfl
 ·rw[Xq];rfl
theorem zzX(T:List Ln)(c:Tld)(k:List Vl):k∈(zxH T c).map (·.1)↔k∈T.map (·.1)\/k=c.k:=by
 unfold zxH;rw[zuU,zsO];split
 ·rename_i q;exact⟨.inl,fun h=>h.elim id fun e=>e▸zoX.1 q⟩
 ·rw[Qo,Qp]
def LnW(T:List Ln):Prop:=(T.map (·.1)).Nodup/\ ∀x∈T,x.2.length=64
theorem LnW.new{T:List Ln}(h:LnW T)(k:List Vl):LnW (zk7 T k):=by
 unfold LnW;rw[zsO];unfold zk7;split
 ·exact h
 ·rename_i q;refine⟨Za.2 ⟨h.1,Qf4,fun a ha b hb=> ?_⟩,fun x hx=> ?_⟩
  ·rw[Qp] at hb;subst hb;exact fun e=>q (zoX.2 (e▸ha))
  ·exact Qe7
theorem LnW.upd{T:List Ln}(h:LnW T)(k:List Vl){f:List (Option Fa)->List (Option Fa)}(hf: ∀M:List (Option Fa),M.length=64->(f M).length=64):LnW (zk4 T k f):=by
 refine⟨by rw[zuU];exact h.1,fun x hx=> ?_⟩;exact Qed
theorem LnW.s{T:List Ln}(h:LnW T)(c:Tld):LnW (zxH T c):=(h.new c.k).upd c.k fun M _=>bS ..
theorem zsB{T:List Ln}(h:LnW T)(k:List Vl):(iD T k).length=64:=by
 induction T with
 |nil=>simp[iD]
 |cons x T ih=>
  unfold iD;split
  ·exact h.2 x (Qe ..)
  ·exact ih ⟨(Zs.1 h.1).2,fun y hy=>h.2 y (Qf _ hy)⟩
theorem zxO{k:List Vl}: ∀{T:List Ln},k∉T.map (·.1)->iD T k=zyH
 | [],_=>rfl
 |x::T,h=>by
  rw[Xa,Qw,not_or] at h;unfold iD;rw[uA fun e=>h.1 e.symm,Qi Qf5];exact zxO h.2
theorem zxN: ∀{T:List Ln},(T.map (·.1)).Nodup-> ∀{x:Ln},x∈T->iD T x.1=x.2
 | y::T,hn,x,hx=>by
  rw[Xa,Zs] at hn;unfold iD;rcases Qw.1 hx with rfl|hx
  ·rw[pO rfl,Qj rfl]
  ·rw[uA fun e=>hn.1 (by rw[e];exact Zi hx),Qi Qf5];exact zxN hn.2 hx
theorem zv7(f:List (Option Fa)->List (Option Fa))(k k':List Vl): ∀{T:List Ln},k∈T.map (·.1)\/k'≠k->iD (zk4 T k f) k'=if ze8 (k'=k)=true then f (iD T k') else iD T k'
 | [],h=>by
  rcases h with h|h
  ·cases h
  ·rw[uA h,Qi Qf5];rfl
 | x::T,h=>by
  have e:zk4 (x::T) k f=(if ze8 (x.1=k)=true then(x.1,f x.2) else x)::zk4 T k f:=rfl;rw[e];unfold iD;have e1:(if ze8 (x.1=k)=true then(x.1,f x.2) else x).1=x.1:=by split<;>rfl
  rw[e1];by_cases q:x.1=k'
  ·rw[pO q,Qj rfl,Qj rfl];by_cases q2:k'=k
   ·rw[pO q2,Qj rfl,pO (q.trans q2),Qj rfl]
   ·simp only[uA q2,uA (P:=x.1=k) fun w=>q2 (q.symm.trans w),Zo,Wr]
  ·simp only[uA q,Zo,Wr];refine zv7 f k k' ?_;rcases h with h|h
   ·rw[Xa,Qw] at h;rcases h with h|h
    ·exact .inr fun w=>q (h.symm.trans w.symm)
    ·exact .inl h
   ·exact .inr h
theorem zyR(T:List Ln)(k k':List Vl):iD (zk7 T k) k'=iD T k':=by
 unfold zk7;split
 ·rfl
 ·rename_i q;replace q:k∉T.map (·.1):=fun w=>q (zoX.2 w)
  induction T with
  |nil=>unfold iD;show(if ze8 (k=k')=true then zyH else iD [] k')=zyH;split<;>rfl
  |cons x T ih=>
   rw[Xx];unfold iD;rw[ih fun w=>q (by rw[Xa];exact Qf _ w)]
theorem ya3(T:List Ln)(c:Tld)(k:List Vl){m:Nat}(hm:m<64):(iD (zxH T c) k).getD m none=if ze8 (c.hit k m)=true then some c.g else(iD T k).getD m none:=by
 unfold zxH;rw[zv7 _ _ _ (.inl ?_),zyR]
 ·by_cases q:k=c.k
  ·subst q;rw[pO rfl,Qj rfl,ztH hm];by_cases q2:c.a<=(m:Int)/\(m:Int)<c.b
   ·rw[Qj q2,pO ⟨rfl,q2⟩,Qj rfl]
   ·rw[Qi q2,uA fun w=>q2 w.2,Qi Qf5]
  ·rw[uA q,Qi Qf5,uA fun w=>q w.1.symm,Qi Qf5]
 ·rw[zsO];split
  ·rename_i q;exact zoX.1 q
  ·simp
theorem yaQ: ∀(L:List Tld){T:List Ln},LnW T->LnW (L.foldl zxH T)
 | [],_,h=>h
 |c::L,_,h=>yaQ L (h.s c)
theorem zvH(k:List Vl): ∀(L:List Tld)(T:List Ln),k∈(L.foldl zxH T).map (·.1)↔k∈T.map (·.1)\/ ∃c∈L,k=c.k
 | [],T=>by simp
 | c::L,T=>by
  rw[Yw,zvH k L,zzX];constructor
  ·rintro ((h|h)|⟨d,hd,h⟩)
   ·exact .inl h
   ·exact .inr ⟨c,Qe ..,h⟩
   ·exact .inr ⟨d,Qf _ hd,h⟩
  ·rintro (h|⟨d,hd,h⟩)
   ·exact .inl (.inl h)
   ·rcases Qw.1 hd with rfl|hd
    ·exact .inl (.inr h)
    ·exact .inr ⟨d,hd,h⟩
theorem zy9{k:List Vl}{m:Nat}(hm:m<64){o:Option Fa}: ∀(L:List Tld)(T:List Ln),(∀c∈L,c.hit k m->some c.g=o)->((iD T k).getD m none=o\/(iD T k).getD m none=none/\ ∃c∈L,c.hit k m)->(iD (L.foldl zxH T) k).getD m none=o
 | [],T,_,h=>by
  rcases h with h|⟨-,c,hc, -⟩
  ·exact h
  ·cases hc
 | c::L,T,h1,h2=>by
  rw[Yw];refine zy9 hm L _ (fun d hd=>h1 d (Qf _ hd)) ?_;rw[ya3 T c k hm];by_cases q:c.hit k m
  ·rw[pO q,Qj rfl];exact .inl (h1 c (Qe ..) q)
  ·rw[uA q,Qi Qf5];rcases h2 with h2|⟨h2,d,hd,h3⟩
   ·exact .inl h2
   ·rcases Qw.1 hd with rfl|hd
    ·exact absurd h3 q
    ·exact .inr ⟨h2,d,hd,h3⟩
def yaW:Option Fa->List PV
 |none=>[yQ ⟨#[]⟩,i64 0,bo false]
 |some g=>[yQ (cS g.args),i64 g.elem,bo true]
def ybC(i:Int):Option Fa->List PV
 |none=>[i64 i,.nil,i64 (-1)]
 |some g=>[i64 g.pred,pH g.args,i64 g.elem]
theorem zzU(o:Option Fa):(yaW o).length=3:=by cases o<;>rfl
theorem zz0(i:Int)(o:Option Fa):(ybC i o).length=3:=by cases o<;>rfl
def zwP(key:List Vl)(S F:List (List PV)):List PV:=pH key::(S.flatten++F.flatten)
def zuI(i:Int)(key:List Vl)(S F:List (Option Fa)):List PV:=zwP key (S.map yaW) (F.map (ybC i))
structure L3(S:List (List PV)):Prop where
 n:S.length=64
 k: ∀e∈S,e.length=3
theorem zsE: ∀{S:List (List PV)},(∀e∈S,e.length=3)->S.flatten.length=S.length*3
 | [],_=>rfl
 |e::S,h=>by
  have:=zsE fun x hx=>h x (Qf _ hx);have:=h e (Qe ..);rw[Yl,Ql,Qn];omega
theorem zxA: ∀{S:List (List PV)}(_: ∀e∈S,e.length=3){m:Nat}(h:m<S.length)(T:List PV),((S.flatten++T).drop (m*3)).take 3=S[m]
 |e::S,k,0,h,T=>by
  have:=k e (Qe ..);simp only[Yl,Ki,List.drop_zero,Qv,Ue];exact List.take_left' this
 |e::S,k,m+1,h,T=>by
  have e1:=k e (Qe ..);have:=zxA (fun x hx=>k x (Qf _ hx)) (m:=m) Qfq T;rw[Yl,Qv,show(m+1)*3=e.length+m*3 by omega,<-Wy,Kh,this];rfl
theorem yeL: ∀{S:List (List PV)}(_: ∀e∈S,e.length=3){m:Nat}(_:m<S.length)(x:List PV)(_:x.length=3)(T:List PV),(S.flatten++T).take (m*3)++(x++(S.flatten++T).drop (m*3+3))=(S.set m x).flatten++T
 |e::S,k,0,h,x,hx,T=>by
  have:=k e (Qe ..);simp only[Yl,Ki,Uh,Yj,Yd,Qv,Xn];rw[List.drop_left' this]
 |e::S,k,m+1,h,x,hx,T=>by
  have e1:=k e (Qe ..);have:=yeL (fun y hy=>k y (Qf _ hy)) (m:=m) Qfq x hx T;rw[Yl,Qv,show(m+1)*3+3=e.length+(m*3+3) by omega,show(m+1)*3=e.length+m*3 by omega,<-Wy,Kh,Xl,Yl,Qv,<-this,List.take_append];simp[Yo]
theorem znQ{key:List Vl}{S F:List (List PV)}(hS:L3 S)(hF:L3 F):(zwP key S F).length=385:=by
 unfold zwP;rw[Qn,Ql,zsE hS.k,zsE hF.k,hS.n,hF.n]
theorem ya4{key:List Vl}{S F:List (List PV)}(hS:L3 S){m:Nat}(hm:m<S.length):((zwP key S F).drop (1+m*3)).take 3=S[m]:=by
 unfold zwP;rw[Nat.add_comm,Wh];exact zxA hS.k hm _
theorem ya5{key:List Vl}{S F:List (List PV)}(hS:L3 S)(hF:L3 F){m:Nat}(hm:m<F.length):((zwP key S F).drop (193+m*3)).take 3=F[m]:=by
 unfold zwP;have h1:S.flatten.length=192:=by rw[zsE hS.k,hS.n]
 rw[show 193+m*3=(S.flatten.length+m*3)+1 by omega,Wh,<-Wy,Kh];have:=zxA hF.k hm []
 rwa [Xz] at this
theorem zxM{key:List Vl}{S F:List (List PV)}(hS:L3 S){m:Nat}(hm:m<S.length)(x:List PV)(hx:x.length=3):(zwP key S F).take (1+m*3)++(x++(zwP key S F).drop (1+m*3+3))=zwP key (S.set m x) F:=by
 unfold zwP;rw[show 1+m*3+3=(m*3+3)+1 by omega,Nat.add_comm 1,List.take_succ_cons,Wh,Xx,yeL hS.k hm x hx]
theorem yeJ{key:List Vl}{S F:List (List PV)}(hS:L3 S)(hF:L3 F){m:Nat}(hm:m<F.length)(x:List PV)(hx:x.length=3):(zwP key S F).take (193+m*3)++(x++(zwP key S F).drop (193+m*3+3))=zwP key S (F.set m x):=by
 unfold zwP;have h1:S.flatten.length=192:=by rw[zsE hS.k,hS.n]
 have:=yeL hF.k hm x hx [];rw[Xz,Xz] at this;rw[show 193+m*3+3=S.flatten.length+(m*3+3)+1 by omega,show 193+m*3=(S.flatten.length+m*3)+1 by omega,List.take_succ_cons,Wh,Xx,<-Wy,Kh,<-this,List.take_append];simp[Yo]
theorem zvA{M:List (Option Fa)}(h:M.length=64):L3 (M.map yaW):=⟨by simpa using h,fun e he=>by obtain⟨o, -,rfl⟩:=Xf.1 he;exact zzU o⟩
theorem zwM{i:Int}{M:List (Option Fa)}(h:M.length=64):L3 (M.map (ybC i)):=⟨by simpa using h,fun e he=>by obtain⟨o, -,rfl⟩:=Xf.1 he;exact zz0 i o⟩
theorem L3.set{S:List (List PV)}(h:L3 S)(m:Nat){x:List PV}(hx:x.length=3):L3 (S.set m x):=⟨by rw[Xb];exact h.n,fun e he=>(Ze he).elim (h.k e) fun w=>w▸hx⟩
def st0:List (List PV):=List.replicate 64 [yQ ⟨#[]⟩,i64 0,bo false]
def fo0:List (List PV):=List.replicate 64 [i64 0,.nil,i64 0]
theorem buLn(key:List Vl):kB prog 205 [(0,pH key)]=some (.agg (zwP key st0 fo0)):=Qf6
attribute [-go_sem] kB
theorem buFa(a b:Int):kB prog 52 [(0,i64 a),(2,i64 b)]=some (.agg [i64 a,.nil,i64 b]):=Qf6
theorem yaP{α:Type}(f:Option Fa->α):zyH.map f=List.replicate 64 (f none):=List.map_replicate ..
theorem zxK{α:Type}(a b:α): ∀(j n:Nat),j<n->(List.replicate j a++List.replicate (n-j) b).set j a=List.replicate (j+1) a++List.replicate (n-(j+1)) b
 |0,n+1,_=>by simp[Ww]
 |j+1,n+1,h=>by
  have:=zxK a b j n Qf3;rw[Ww,Xx,Xl,Nat.add_sub_add_right,this,Ww (n:=j+1),Xx,Nat.add_sub_add_right]
theorem zy7(i:Int)(key:List Vl)(h:Heap):ECall prog G0 110 [i64 i,pH key] h fun p h'=>p= .ptr h.length 0/\h'=h++[.var 205 (zuI i key zyH zyH)]:=by
 refine pv func110 22 false Qf6 rfl rfl ?_;refine g2 ?_;have hS:L3 st0:=⟨by simp[st0],fun e he=>by rw[(List.mem_replicate.1 he).2];rfl⟩
 refine gf @buLn ?_;refine zO 64 (K4 (.k:: .k:: .d:: .k:: .k:: .k:: .v::D9 (.d:: .k::[]))) (own:=false) (fun j (s:List (List PV))=>[i64 j]) (fun s=>h++[.var 205 (zwP key st0 s)]) (fun j s=>s=List.replicate j [i64 i,.nil,i64 (-1)]++List.replicate (64-j) [i64 0,.nil,i64 0]) fo0 rfl rfl rfl Qf3 ?_ ?_
 ·rintro s rfl;refine gm ?_;have h64:(((64:Nat):Int)<64)=False:=Qf4;have hfin:h++[Blk.var 205 (zwP key st0 (List.replicate 64 [i64 i,.nil,i64 (-1)]++List.replicate (64-64) [i64 0,.nil,i64 0]))]=h++[.var 205 (zuI i key zyH zyH)]:=by
   unfold zuI;rw[yaP,yaP];rfl
  rw[hfin];refine gf @h64 ?_;exact⟨rfl,rfl⟩
 ·rintro j s hj hw rfl;refine gm ?_;have hj6:((j:Int)<64)=True:=Yk Qf3;have hF:L3 (List.replicate j [i64 i,.nil,i64 (-1)]++List.replicate (64-j) [i64 0,.nil,i64 0]):=⟨by simp;omega,fun e he=>by rcases Qo.1 he with he|he<;>rw[(List.mem_replicate.1 he).2]<;>rfl⟩
  have hl:=znQ (key:=key) hS hF;have hsp:=yeJ (key:=key) hS hF (m:=j) (by rw[hF.n];exact hj) [i64 i,.nil,i64 (-1)] rfl;rw[zxK _ _ j 64 hj] at hsp;obtain⟨F2,hF2⟩: ∃F2,F2=List.replicate (j+1) [i64 i,.nil,i64 (-1)]++List.replicate (64-(j+1)) [i64 0,.nil,i64 0]:=⟨_,rfl⟩
  rw[<-hF2] at hsp;generalize List.replicate j [i64 i,.nil,i64 (-1)]++List.replicate (64-j) [i64 0,.nil,i64 0]=F at*;have h3:(193+j*3+3<=(zwP key st0 F).length)=True:=Yk Qf3;refine gf (a8 @hj6 @hw @buFa @rU @qK @zB @hl @hsp) ?_;refine⟨F2,hF2,rfl,rfl,?_⟩;rw[<-hsp];rfl
@[go_sem] def UMw2f108.pl:Nat->DPlan
 |3=>⟨[⟨7,0,[1006]⟩,yA,yB,yA,⟨6,0,[1006]⟩,yC],znU,0⟩
 |7=>⟨[yB,yA,yB,yA,yA,uX,yA,yA,yA,yA,yA,yA,yC],yN,0⟩
 |8=>⟨[yB,yA,yB,yA,yB,yA,yA,yA,yA,yA,yA,yC],xF,0⟩
 |_=>⟨[],[],0⟩
@[go_sem] def zdV:DPlan:=⟨[yB,yA,yB,yA,yA,uX,yA,yA,yA,yA,yA,yA,yC],yN,0⟩
@[go_sem] def zdA:DPlan:=⟨[yB,yA,yB,yA,yB,yA,yA,yA,yA,yA,yA,yC],xF,0⟩
theorem tmN:kC prog 112=some (9,.string,117):=Qf6
theorem ziN:(prog.info? 117).bind (·.zero)=some (.pointer none):=Qf6
theorem zxS(r o:Nat):za2 (α:=Prop) prog 117 (.ptr r o) (.sc (.pointer none))=some (false,True):=Qf6
theorem zvN:za2 (α:=Prop) prog 117 (.sc (.pointer none)) (.sc (.pointer none))=some (true,True):=Qf6
theorem buSt(a:BA)(b:Int):kB prog 201 [(0,yQ a),(1,i64 b),(2,bo true)]=some (.agg [yQ a,i64 b,bo true]):=Qf6
theorem buF3(a:Int)(t:List Vl)(b:Int):kB prog 52 [(0,i64 a),(1,pH t),(2,i64 b)]=some (.agg [i64 a,pH t,i64 b]):=Qf6
abbrev LnE:=Ln×Nat
abbrev zt7(es:List LnE):NM:=es.map fun e=>(Value.string (cS e.1.1),PV.ptr e.2 0)
structure Lns(i:Int)(m:Nat)(es:List LnE)(h:Heap):Prop where
 a:h[m]? =some (.map (zt7 es))
 l: ∀e∈es,e.1.2.length=64/\h[e.2]? =some (.var 205 (zuI i e.1.1 e.1.2 e.1.2))
 k: ∀e∈es,e.1.1.length<=1048576/\ ∀v∈e.1.1,zoC v=true
 d:(es.map (·.1.1)).Nodup
 r:(es.map (·.2)).Nodup
theorem Lns.keep{i:Int}{m:Nat}{es:List LnE}{h h':Heap}(hL:Lns i m es h)(k1:h'[m]? =some (.map (zt7 es)))(k2: ∀e∈es, ∀b,h[e.2]? =some b->h'[e.2]? =some b):Lns i m es h':=
 ⟨k1,fun e he=>⟨(hL.l e he).1,k2 e he _ (hL.l e he).2⟩,hL.k,hL.d,hL.r⟩
theorem Lns.app{i:Int}{m:Nat}{es:List LnE}{h:Heap}(hL:Lns i m es h)(B:Heap):Lns i m es (h++B):=hL.keep (yJ _ _ _ _ hL.a) fun _ _ _ hb=>yJ _ _ _ _ hb
def KpB(lo:Nat)(h h':Heap):Prop:= ∀(r:Nat)(b:Blk),h[r]? =some b->(r<lo\/(∀cs,b≠ .var 205 cs)/\ ∀es,b≠ .map es)->h'[r]? =some b
theorem KpB.refl(lo:Nat)(h:Heap):KpB lo h h:=fun _ _ h _=>h
theorem KpB.trans{lo:Nat}{h h1 h2:Heap}(a:KpB lo h h1)(b:KpB lo h1 h2):KpB lo h h2:=fun r c hc n1=>b r c (a r c hc n1) n1
theorem KpB.app(lo:Nat)(h B:Heap):KpB lo h (h++B):=fun r b hr _=>yJ h B r b hr
theorem zvG(es:List LnE):(zt7 es).all (fun x=>pF .string x.1)=true:=by
 exact Qdr
theorem zsC{h:Heap}{r:Nat}{es:List LnE}{s:BA}{j:Nat}{p:PV}(hr:h[r]? =some (.map (zt7 es)))(hm:vV (.string s) (zt7 es) 0=some (j,p)):xQ (α:=Prop) prog h 112 false (.mp r) (yQ s)=some (p,True):=by
 unfold xQ;rw[tmN];simp only[oS,hr,ziN,zm1,zvG,hm,Kd,Wk,vL,Zo,Wr]
theorem zv8{h:Heap}{r:Nat}{es:List LnE}{s:BA}(hr:h[r]? =some (.map (zt7 es)))(hm:vV (.string s) (zt7 es) 0=none):xQ (α:=Prop) prog h 112 false (.mp r) (yQ s)=some (.sc (.pointer none),True):=by
 unfold xQ;rw[tmN];simp only[oS,hr,ziN,zm1,zvG,hm,Kd,Wk,vL,Zo,Wr,zaS]
theorem zvF{es:List LnE}(hk: ∀e∈es, ∀v∈e.1.1,zoC v=true){key:List Vl}(hv: ∀v∈key,zoC v=true): ∀j,(vV (.string (cS key)) (zt7 es) j=none/\key∉es.map (·.1.1))\/ ∃(i:Nat)(e:LnE),vV (.string (cS key)) (zt7 es) j=some (j+i,PV.ptr e.2 0)/\es[i]? =some e/\e.1.1=key:=by
 induction es with
 |nil=>exact fun j=> .inl ⟨rfl,Qf4⟩
 | cons e es ih=>
  intro j;have hK: ∀v∈key,VvK v:=fun v h=>(zqC v).2 (hv v h);have hE: ∀v∈e.1.1,VvK v:=fun v h=>(zqC v).2 (hk e (Qe ..) v h);simp only[zt7,Xa,vV];by_cases q:cS key=cS e.1.1
  ·have hq:=zwF hK hE q;rw[Qj (by simp[sY,q])];exact .inr ⟨0,e,rfl,rfl,hq.symm⟩
  ·have hq:key≠e.1.1:=fun w=>q (by rw[w]);rw[Qi (by simp[sY,q])];rcases ih (fun x hx=>hk x (Qf _ hx)) (j+1) with ⟨h1,h2⟩|⟨i,x,h1,h2,h3⟩
   ·exact .inl ⟨h1,by rw[Qw,not_or];exact⟨hq,h2⟩⟩
   ·exact .inr ⟨i+1,x,by rw[h1];congr 2;omega,h2,h3⟩
theorem Lns.upd{i:Int}{m:Nat}{es:List LnE}{h:Heap}(hL:Lns i m es h){j:Nat}{e:LnE}(he:es[j]? =some e){M:List (Option Fa)}(hM:M.length=64):Lns i m (es.set j ((e.1.1,M),e.2)) (h.set e.2 (.var 205 (zuI i e.1.1 M M))):=by
 have hj:=(gsi he).1;have hje:es[j]=e:=(gsi he).2;have hem:=Qk he;have hr:=(hL.l e hem).2;have hrl:=(gsi hr).1;have hrm:e.2≠m:=fun w=>by rw[w,hL.a] at hr;cases hr
 have hmap:zt7 (es.set j ((e.1.1,M),e.2))=zt7 es:=by
  refine Zc Qf4 fun q h1 h2=> ?_;simp only[zt7,Xu,Ul];split
  ·rename_i w;subst w;rw[hje]
  ·rfl
 have hmp: ∀{β:Type}(f:List Vl->Nat->β),(es.set j ((e.1.1,M),e.2)).map (fun x=>f x.1.1 x.2)=es.map fun x=>f x.1.1 x.2:=fun f=>by
  refine Zc Qf4 fun q h1 h2=> ?_;simp only[Xu,Ul];split
  ·rename_i w;subst w;rw[hje]
  ·rfl
 refine⟨?_,fun x hx=> ?_,fun x hx=> ?_,?_,?_⟩
 ·rw[Qd hrm,hmap];exact hL.a
 ·obtain⟨q,hq,rfl⟩:=Qy hx;rw[Xb] at hq;rw[Ul];split
  ·exact⟨hM,Qh hrl⟩
  ·rename_i w;obtain⟨a,b⟩:=hL.l es[q] (Qc hq);refine⟨a,?_⟩;rw[Qd]
   ·exact b
   ·intro w2;have hd:=Zd.1 hL.r;rcases Jx j q with g|g|g
    ·exact hd j q Qfy Qg1 g (by simp only[Xu];rw[hje];exact w2)
    ·exact w g
    ·exact hd q j Qg1 Qfy g (by simp only[Xu];rw[hje];exact w2.symm)
 ·obtain⟨q,hq,rfl⟩:=Qy hx;rw[Xb] at hq;rw[Ul];split
  ·exact hL.k e hem
  ·exact hL.k _ (Qc hq)
 ·rw[hmp fun a _=>a];exact hL.d
 ·rw[hmp fun _ b=>b];exact hL.r
theorem Lns.new{i:Int}{m:Nat}{es:List LnE}{h:Heap}(hL:Lns i m es h){key:List Vl}(hl:key.length<=1048576)(hv: ∀v∈key,zoC v=true)(hn:key∉es.map (·.1.1)):Lns i m (es++[((key,zyH),h.length)]) ((h++[Blk.var 205 (zuI i key zyH zyH)]).set m (Blk.map (zt7 es++[(Value.string (cS key),PV.ptr h.length 0)]))):=by
 have hml:=(gsi hL.a).1;have hlt: ∀e∈es,e.2<h.length:=fun e he=>(gsi (hL.l e he).2).1;refine⟨?_,fun e he=> ?_,fun e he=> ?_,?_,?_⟩
 ·rw[Qh Qfk,zt7,zt7,Xq];rfl
 ·have hem:e.2≠m:=fun w=>by
   rcases Qo.1 he with he|he
   ·have:=(hL.l e he).2;rw[w,hL.a] at this;cases this
   ·rw[Qp] at he;subst he;dsimp only at w;omega
  rw[Qd (Ne.symm hem)];rcases Qo.1 he with he|he
  ·exact⟨(hL.l e he).1,yJ _ _ _ _ (hL.l e he).2⟩
  ·rw[Qp] at he;subst he;exact⟨Qf4,zA _ _⟩
 ·rcases Qo.1 he with he|he
  ·exact hL.k e he
  ·rw[Qp] at he;subst he;exact⟨hl,hv⟩
 ·rw[Xq,Za];exact⟨hL.d,Qf4,fun a ha b hb=>by simp at hb;subst hb;exact fun w=>hn (w▸ha)⟩
 ·rw[Xq,Za];refine⟨hL.r,Qf4,fun a ha b hb=> ?_⟩;simp at hb;subst hb;obtain⟨e,he,rfl⟩:=Xf.1 ha;have:=hlt e he;omega
theorem zv6{T:List Ln}(hd:(T.map (·.1)).Nodup){j:Nat}{x:Ln}(hj:T[j]? =some x)(f:List (Option Fa)->List (Option Fa)):zk4 T x.1 f=T.set j (x.1,f x.2):=by
 have hjl:=(gsi hj).1;have hje:T[j]=x:=(gsi hj).2;refine Zc (by simp[zk4]) fun q h1 h2=> ?_;have hq:q<T.length:=by simpa [zk4] using h1
 simp only[zk4,Xu,Ul];by_cases w:j=q
 ·subst w;rw[Qj rfl,hje,pO rfl,Qj rfl]
 ·rw[Qi w,uA fun w2=> ?_,Qi Qf5];have hp:=Zd.1 hd;rcases Jx j q with g|g|g
  ·exact hp j q Qgc Qg1 g (by simp only[Xu];rw[hje];exact w2.symm)
  ·exact w g
  ·exact hp q j Qg1 Qgc g (by simp only[Xu];rw[hje];exact w2)
theorem getM{i:Int}{m:Nat}{es:List LnE}{h:Heap}(hL:Lns i m es h){j:Nat}{key:List Vl}{M:List (Option Fa)}{r:Nat}(hj:es[j]? =some ((key,M),r)):vV (.string (cS key)) (zt7 es) 0=some (j,.ptr r 0):=by
 have hjl:=(gsi hj).1;rcases zvF (fun e he=>(hL.k e he).2) (hL.k _ (Qk hj)).2 0 with ⟨-,h2⟩|⟨q,e,h1,h2,h3⟩
 ·exact absurd (Xf.2 ⟨_,Qk hj,rfl⟩) h2
 ·have hq:q=j:=by
   have hp:=Zd.1 hL.d;have hql:=(gsi h2).1;have e1:=(gsi h2).2;have e2:=(gsi hj).2;rcases Jx q j with g|g|g
   ·exact absurd (by rw[Xu,Xu,e1,e2];exact h3) (hp q j (by simpa using hql) Qgc g)
   ·exact g
   ·exact absurd (by rw[Xu,Xu,e1,e2];exact h3.symm) (hp j q Qgc (by simpa using hql) g)
  subst hq;rw[hj] at h2;cases h2;rw[h1,Yd]
theorem setE(l:List LnE)(j:Nat)(x:LnE):(l.set j x).map (·.1)=(l.map (·.1)).set j x.1:=Ky ..
attribute [-go_sem] only
attribute [-go_sem] kB
attribute [-go_sem] splice
open UMw2f108 in
theorem set_x(p:Pg)(hp:p.ok)(i:Nat)(hi:i<p.pk.length)(m rp rq ro:Nat)(lo:Nat)(es:List LnE)(h:Heap)(hL:Lns i m es h)(hlo:lo<=m/\ ∀e∈es,lo<=e.2)(hlh:lo<=h.length)(hrp:h[rp]? =some (.var 27 p.c))(hrq:h[rq]? =some (.var 3 [i64 i]))(hro:h[ro]? =some (.var 112 [.mp m]))
  (args:List Vl) (ha:args.length<=1048576) (hv: ∀v∈args,zoC v=true) (hk0:0<=p.pk[i].key) (hk1:p.pk[i].key<=args.length) (e a b:Int) (ha0:0<=a) (hab:a<b) (hb:b<=64):
  ECall prog G0 108 [pH args,i64 e,i64 a,i64 b,.ptr rp 0,.ptr rq 0,.ptr ro 0] h fun v h'=>v= .tup []/\ ∃es',es'.map (·.1)=zxH (es.map (·.1)) ⟨args.take p.pk[i].key.toNat,⟨i,args,e⟩,a,b⟩/\Lns i m es' h'/\(∀x∈es',lo<=x.2)/\KpB lo h h'/\es'.length<=es.length+1:=by
 refine pv func108 63 false Qf6 rfl rfl ?_;refine g2 ?_;have hx:=zG (f:=Pd.c) [] hi;generalize p.pk[i]=x at*;obtain⟨k,hk⟩:=Qm hk0;have hkn:x.key.toNat=k:=Qf3;rw[hkn];have hkl:k<=args.length:=Qf3;have hkl':((k:Int)<=(args.length:Int))=True:=Yk Qf3;obtain⟨key,hkey⟩: ∃key,key=args.take k:=⟨_,rfl⟩
 rw[<-hkey];have hkeyl:key.length<=1048576:=by rw[hkey,Xk];omega
 have hkeyv: ∀v∈key,zoC v=true:=fun v h=>hv v (by rw[hkey] at h;exact Zk h);have hmt:(args.map Vl.c).take k=key.map Vl.c:=by rw[hkey,xO]
 have Z:=(a8 @hrp @hrq @hx @hi @hk @hkl' @hmt @zB)
 have henc:=ztZ key hkeyl hkeyv;have henc2:=ztZ args ha hv;refine gf Z ?_;(refine g1f Z ?_;refine zC (henc.call zK Qf4 _) ?_;intro p2 h2 hr2;refine g2 ?_);obtain⟨rfl,e2⟩:=hr2;replace e2:=e2.symm;subst e2;have hrol:(ro<h.length)=True:=Yk (gsi hro).1;have hrm: ∀e∈es,e.2≠m:=fun e he w=>by have:=(hL.l e he).2;rw[w,hL.a] at this;cases this
 rcases zvF (fun e he=>(hL.k e he).2) hkeyv 0 with ⟨hm,hkn2⟩|⟨j,e0,hm,hj,he0⟩
 ·have hlk:=zv8 hL.a hm;(repeat(first|refine gz ?_|(refine gn ?_;intro zs zh;(try simp only[go_sem,hro,hlk,zvN] at zh);subst zh;refine gv ?_)|refine zQ zdV _ 7 Qf6 ?_|refine zQ zdA _ 8 Qf6 ?_));refine zQ ⟨[⟨7,0,[1006]⟩,⟨0,0,[]⟩,⟨1,0,[]⟩,⟨0,0,[]⟩,⟨6,0,[1006]⟩,⟨4,0,[]⟩],[0,1,2,3,4,5],0⟩ _ 3 Qf6 ?_;(repeat(first|refine gz ?_|(refine gn ?_;intro zs zh;(try simp only[go_sem,hrq,hro,oA,hrol] at zh);subst zh;refine gv ?_)|refine zQ zdV _ 7 Qf6 ?_|refine zQ zdA _ 8 Qf6 ?_));obtain⟨N,hN⟩: ∃N,N=zyH:=⟨_,rfl⟩
  have hne:=zy7 i key h;have hnew:=hL.new hkeyl hkeyv hkn2;rw[<-hN] at hne hnew;obtain⟨B,hB⟩: ∃B,B=Blk.var 205 (zuI i key N N):=⟨_,rfl⟩
  rw[<-hB] at hne hnew;have hmA:(h++[B])[m]? =some (.map (zt7 es)):=yJ _ _ _ _ hL.a;have hroA:(h++[B])[ro]? =some (.var 112 [.mp m]):=yJ _ _ _ _ hro;have hap:=zvG es;(refine zF rfl rfl rfl ?_;intro sr hsr;simp only[go_sem,hrq,hro,oA,hrol] at hsr;subst hsr;refine xR rfl rfl (hne) (by
   rintro _ _ ⟨_,rfl⟩ k hk _;have hk:k∈[1006]:=hk;rw[Qp] at hk;subst hk;simp only[nu,hrol,Wk,Kw,Kv,show ¬(1006:Nat)<1000 by decide,Wr,show(1006:Nat)-1000=6 by decide];exact hroA.trans hro.symm) ?_;intro p2 h2 hr2;refine Go.AL.g2 ?_)
  obtain⟨rfl,rfl⟩:=hr2;(repeat(first|refine gz ?_|(refine gn ?_;intro zs zh;(try simp only[go_sem,hrq,hro,oA,tmN,hmA,hm,hap,zm1,kO] at zh);subst zh;refine gv ?_)|refine zQ zdV _ 7 Qf6 ?_|refine zQ zdA _ 8 Qf6 ?_));obtain⟨es1,hes1⟩: ∃es1:List LnE,es1=es++[((key,N),h.length)]:=⟨_,rfl⟩
  have hj1:es1[es.length]? =some ((key,N),h.length):=by rw[hes1];exact Wc
  have hT1:es1.map (·.1)=zk7 (es.map (·.1)) key:=by
   unfold zk7;rw[uA (by rw[Zg];exact hkn2),Qi Qf5,hes1,Xq,<-hN];rfl
  have hlo1:lo<=m/\ ∀x∈es1,lo<=x.2:=⟨hlo.1,fun x hx=>by
   rw[hes1] at hx;rcases Qo.1 hx with hx|hx
   ·exact hlo.2 x hx
   ·rw[Qp] at hx;subst hx;exact hlh⟩
  have hn1:es1.length<=es.length+1:=by rw[hes1];simp
  have hL1:Lns i m es1 ((h++[B]).set m (.map (zt7 es++[(Value.string (cS key),PV.ptr h.length 0)]))):=by rw[hes1];exact hnew
  have hmro:m≠ro:=fun w=>by have:=hL.a;rw[w,hro] at this;cases this
  have hmrq:m≠rq:=fun w=>by have:=hL.a;rw[w,hrq] at this;cases this
  have hK1:KpB lo h ((h++[B]).set m (.map (zt7 es++[(Value.string (cS key),PV.ptr h.length 0)]))):=fun q c hq hc=>by
   have:m≠q:=fun w=>by
    subst w;rw[hL.a] at hq;cases hq;rcases hc with hc|hc
    ·have:=hlo.1;omega
    ·exact hc.2 _ rfl
   rw[Qd this];exact yJ _ _ _ _ hq
  obtain⟨M,hMN⟩: ∃M,M=N:=⟨_,rfl⟩
  obtain⟨r,hrh⟩: ∃r,r=h.length:=⟨_,rfl⟩
  obtain⟨j1,hj1e⟩: ∃j1,j1=es.length:=⟨_,rfl⟩
  rw[<-hMN,<-hrh,<-hj1e] at hj1;have hro1:((h++[B]).set m (.map (zt7 es++[(Value.string (cS key),PV.ptr h.length 0)])))[ro]? =some (.var 112 [.mp m]):=by rw[Qd hmro];exact hroA
  have hrq1:((h++[B]).set m (.map (zt7 es++[(Value.string (cS key),PV.ptr h.length 0)])))[rq]? =some (.var 3 [i64 i]):=by rw[Qd hmrq];exact yJ _ _ _ _ hrq
  generalize hHd:(h++[B]).set m (.map (zt7 es++[(Value.string (cS key),PV.ptr h.length 0)]))=H at hL1 hK1 hro1 hrq1 ⊢
  have hLl:=hL1.l _ (Qk hj1);have hM:M.length=64:=hLl.1;have hHr:=hLl.2;dsimp only at hHr;have hrl:=(gsi hHr).1;have hnm:r≠m:=fun w=>by rw[w,hL1.a] at hHr;cases hHr
  have hno:r≠ro:=fun w=>by rw[w,hro1] at hHr;cases hHr
  have hnq:r≠rq:=fun w=>by rw[w,hrq1] at hHr;cases hHr
  have hget:vV (.string (cS key)) (zt7 es1) 0=some (j1,.ptr r 0):=getM hL1 hj1;have hlkS: ∀B:Blk,xQ (α:=Prop) prog (H.set r B) 112 false (.mp m) (yQ (cS key))=some (.ptr r 0,True):=fun B=>zsC (by rw[Qd hnm];exact hL1.a) hget;have hroS: ∀B:Blk,(H.set r B)[ro]? =some (.var 112 [.mp m]):=fun B=>by rw[Qd hno];exact hro1
  have hrqS: ∀B:Blk,(H.set r B)[rq]? =some (.var 3 [i64 i]):=fun B=>by rw[Qd hnq];exact hrq1
  have hrS: ∀B:Blk,(H.set r B)[r]? =some B:=fun B=>Qh hrl;have Z1:=(a3 @hroS @hrqS @hrS)
  have hSS: ∀B C:Blk,(H.set r B).set r C=H.set r C:=fun B C=>Zu ..;have hfin: ∀M':List (Option Fa),M'=zaM ⟨i,args,e⟩ M a b-> ∃es',es'.map (·.1)=zxH (es.map (·.1)) ⟨key,⟨i,args,e⟩,a,b⟩/\Lns i m es' (H.set r (.var 205 (zuI i key M' M')))/\(∀x∈es',lo<=x.2)/\KpB lo h (H.set r (.var 205 (zuI i key M' M')))/\es'.length<=es.length+1:=fun M' hM'=>by
   subst hM';refine⟨es1.set j1 ((key,zaM ⟨i,args,e⟩ M a b),r),?_,hL1.upd hj1 (bS ..),fun x hx=> ?_,?_,?_⟩
   ·rw[setE];unfold zxH;dsimp only;rw[<-hT1];have:=zv6 (T:=es1.map (·.1)) (by rw[Zg];exact hL1.d) (j:=j1) (x:=(key,M)) (by rw[Qu,hj1];rfl) fun M=>zaM ⟨i,args,e⟩ M a b;exact this.symm
   ·rcases Ze hx with hx|hx
    ·exact hlo1.2 x hx
    ·rw[hx];exact hlo1.2 ((key,M),r) (Qk hj1)
   ·exact Qb6
   ·rw[Xb];exact hn1
  have hstart:H=H.set r (.var 205 (zuI i key (zaM ⟨i,args,e⟩ M a a) (zaM ⟨i,args,e⟩ M a a))):=by
   exact Qc6
  obtain⟨a',ha'⟩:=Qm ha0;obtain⟨b',hb'⟩:=Qm (show 0<=b by omega);subst ha';subst hb';refine zW (K9 (K4 (.v::K9 (K9 (.k:: .k:: .k::D9 (D9 (D9 (.d::[])))))))) (own:=false) (fun s:Nat=>[i64 s]) (fun s=>H.set r (.var 205 (zuI i key (zaM ⟨i,args,e⟩ M a' s) (zaM ⟨i,args,e⟩ M a' s)))) (fun s=>a'<=s/\s<=b') (fun s=>b'-s) a' rfl hstart ⟨Xe _,Qf3⟩ ?_;rintro mm ⟨hm1,hm2⟩;refine gm ?_;by_cases hlt:mm<b'
  case neg=>
   obtain rfl:mm=b':=Qf3;have hfin2:=hfin _ rfl;generalize zaM ⟨i,args,e⟩ M a' mm=M1 at*;refine gf (a2 Z1 @zM) ?_;exact⟨rfl,hfin2⟩
  case pos=>
   have hlt':((mm:Int)<(b':Int))=True:=Yk Qf3;have hmm:mm<64:=Qf3;have hm64:((mm:Int)<64)=True:=Yk Qf3;have jY:IntKind.i64.wrap ((mm:Int)+1)=((mm+1:Nat):Int):=Qhb;have hst:=zuQ (g:=⟨i,args,e⟩) (M:=M) (a:=(a':Int)) (m:=mm) Qf3 hmm;have hM1:=bS ⟨i,args,e⟩ M (a':Int) (mm:Int);rw[show((mm:Int)+1)=((mm+1:Nat):Int) by omega] at hst;generalize hM2:zaM ⟨i,args,e⟩ M a' mm=M1 at*;have hS1:=zvA hM1;have hF1:=zwM (i:=(i:Int)) hM1;obtain⟨L1,hL1'⟩: ∃L1,L1=zuI i key M1 M1:=⟨_,rfl⟩
   obtain⟨L2,hL2'⟩: ∃L2,L2=zwP key ((M1.map yaW).set mm (yaW (some ⟨i,args,e⟩))) (M1.map (ybC i)):=⟨_,rfl⟩
   have hl1:L1.length=385:=by rw[hL1'];exact znQ hS1 hF1
   have hl2:L2.length=385:=by rw[hL2'];exact znQ (hS1.set mm rfl) hF1
   have hp1:splice L1 (1+mm*3) [yQ (cS args),i64 e,bo true]=L2:=by
    rw[hL1',hL2'];have:=zxM (key:=key) (F:=M1.map (ybC i)) hS1 (m:=mm) (by rw[hS1.n];exact hmm) [yQ (cS args),i64 e,bo true] rfl;rw[<-Qv] at this;exact this
   have hp2:splice L2 (193+mm*3) [i64 i,pH args,i64 e]=zuI i key (zaM ⟨i,args,e⟩ M a' ((mm+1:Nat):Int)) (zaM ⟨i,args,e⟩ M a' ((mm+1:Nat):Int)):=by
    rw[hL2',<-hst];have:=yeJ (key:=key) (hS1.set mm (x:=yaW (some ⟨i,args,e⟩)) rfl) hF1 (m:=mm) (by rw[hF1.n];exact hmm) [i64 i,pH args,i64 e] rfl;rw[<-Qv] at this;unfold zuI;rw[Ky,Ky];exact this
   have zoK:(1+mm*3+3<=385)=True:=Yk Qf3;have zxI:(193+mm*3+3<=385)=True:=Yk Qf3;rw[<-hL1'];refine gf (a4 Z1 @hlt' @hlkS @hSS) ?_;(refine zF rfl rfl rfl ?_;intro sr hsr;simp only[go_sem] at hsr;subst hsr;refine vP rfl (henc2) Qf4 ?_;intro p2 hr2 ts2 hts;simp only[go_sem] at hts;subst hts);subst hr2;refine gf (a9 Z1 @hlkS @hSS @buSt @buF3 @hl1 @hl2 @zoK (a6 @zxI @hp1 @hp2 @hm64 @jY @zB)) ?_;exact⟨mm+1,⟨Qf3,Qf3⟩,Qf3,rfl,rfl,rfl⟩
 ·have hlk:=zsC hL.a hm;obtain⟨⟨key2,M⟩,r⟩:=e0;dsimp only at he0 hlk;subst he0;(repeat(first|refine gz ?_|(refine gn ?_;intro zs zh;(try simp only[go_sem,hro,hlk,zxS] at zh);subst zh;refine gv ?_)|refine zQ zdV _ 7 Qf6 ?_|refine zQ zdA _ 8 Qf6 ?_));obtain⟨es1,hes1⟩: ∃es1:List LnE,es1=es:=⟨_,rfl⟩
  obtain⟨j1,hj1e⟩: ∃j1,j1=j:=⟨_,rfl⟩
  have hj1:es1[j1]? =some ((key2,M),r):=by rw[hes1,hj1e];exact hj
  have hT1:es1.map (·.1)=zk7 (es.map (·.1)) key2:=by
   unfold zk7;rw[pO (Xf.2 ⟨(key2,M),Xf.2 ⟨_,Qk hj,rfl⟩,rfl⟩),Qj rfl,hes1]
  have hlo1:lo<=m/\ ∀x∈es1,lo<=x.2:=by rw[hes1];exact hlo
  have hn1:es1.length<=es.length+1:=by rw[hes1];omega
  have hL1:Lns i m es1 h:=by rw[hes1];exact hL
  have hK1:KpB lo h h:=KpB.refl _ _;have hro1:=hro;have hrq1:=hrq;have hLl:=hL1.l _ (Qk hj1);have hM:M.length=64:=hLl.1;have hHr:=hLl.2;dsimp only at hHr;have hrl:=(gsi hHr).1;have hnm:r≠m:=fun w=>by rw[w,hL1.a] at hHr;cases hHr
  have hno:r≠ro:=fun w=>by rw[w,hro1] at hHr;cases hHr
  have hnq:r≠rq:=fun w=>by rw[w,hrq1] at hHr;cases hHr
  have hget:vV (.string (cS key2)) (zt7 es1) 0=some (j1,.ptr r 0):=getM hL1 hj1;have hlkS: ∀B:Blk,xQ (α:=Prop) prog (h.set r B) 112 false (.mp m) (yQ (cS key2))=some (.ptr r 0,True):=fun B=>zsC (by rw[Qd hnm];exact hL1.a) hget;have hroS: ∀B:Blk,(h.set r B)[ro]? =some (.var 112 [.mp m]):=fun B=>by rw[Qd hno];exact hro1
  have hrqS: ∀B:Blk,(h.set r B)[rq]? =some (.var 3 [i64 i]):=fun B=>by rw[Qd hnq];exact hrq1
  have hrS: ∀B:Blk,(h.set r B)[r]? =some B:=fun B=>Qh hrl;have Z2:=(a3 @hroS @hrqS @hrS)
  have hSS: ∀B C:Blk,(h.set r B).set r C=h.set r C:=fun B C=>Zu ..;have hfin: ∀M':List (Option Fa),M'=zaM ⟨i,args,e⟩ M a b-> ∃es',es'.map (·.1)=zxH (es.map (·.1)) ⟨key2,⟨i,args,e⟩,a,b⟩/\Lns i m es' (h.set r (.var 205 (zuI i key2 M' M')))/\(∀x∈es',lo<=x.2)/\KpB lo h (h.set r (.var 205 (zuI i key2 M' M')))/\es'.length<=es.length+1:=fun M' hM'=>by
   subst hM';refine⟨es1.set j1 ((key2,zaM ⟨i,args,e⟩ M a b),r),?_,hL1.upd hj1 (bS ..),fun x hx=> ?_,?_,?_⟩
   ·rw[setE];unfold zxH;dsimp only;rw[<-hT1];have:=zv6 (T:=es1.map (·.1)) (by rw[Zg];exact hL1.d) (j:=j1) (x:=(key2,M)) (by rw[Qu,hj1];rfl) fun M=>zaM ⟨i,args,e⟩ M a b;exact this.symm
   ·rcases Ze hx with hx|hx
    ·exact hlo1.2 x hx
    ·rw[hx];exact hlo1.2 ((key2,M),r) (Qk hj1)
   ·exact Qb6
   ·rw[Xb];exact hn1
  have hstart:h=h.set r (.var 205 (zuI i key2 (zaM ⟨i,args,e⟩ M a a) (zaM ⟨i,args,e⟩ M a a))):=by
   exact Qc6
  obtain⟨a',ha'⟩:=Qm ha0;obtain⟨b',hb'⟩:=Qm (show 0<=b by omega);subst ha';subst hb';refine zW (K9 (K4 (.v::K9 (K9 (.k:: .k:: .k::D9 (D9 (D9 (.d::[])))))))) (own:=false) (fun s:Nat=>[i64 s]) (fun s=>h.set r (.var 205 (zuI i key2 (zaM ⟨i,args,e⟩ M a' s) (zaM ⟨i,args,e⟩ M a' s)))) (fun s=>a'<=s/\s<=b') (fun s=>b'-s) a' rfl hstart ⟨Xe _,Qf3⟩ ?_;rintro mm ⟨hm1,hm2⟩;refine gm ?_;by_cases hlt:mm<b'
  case neg=>
   obtain rfl:mm=b':=Qf3;have hfin2:=hfin _ rfl;generalize zaM ⟨i,args,e⟩ M a' mm=M1 at*;refine gf (a2 Z2 @zM) ?_;exact⟨rfl,hfin2⟩
  case pos=>
   have hlt':((mm:Int)<(b':Int))=True:=Yk Qf3;have hmm:mm<64:=Qf3;have hm64:((mm:Int)<64)=True:=Yk Qf3;have jY:IntKind.i64.wrap ((mm:Int)+1)=((mm+1:Nat):Int):=Qhb;have hst:=zuQ (g:=⟨i,args,e⟩) (M:=M) (a:=(a':Int)) (m:=mm) Qf3 hmm;have hM1:=bS ⟨i,args,e⟩ M (a':Int) (mm:Int);rw[show((mm:Int)+1)=((mm+1:Nat):Int) by omega] at hst;generalize hM2:zaM ⟨i,args,e⟩ M a' mm=M1 at*;have hS1:=zvA hM1;have hF1:=zwM (i:=(i:Int)) hM1;obtain⟨L1,hL1'⟩: ∃L1,L1=zuI i key2 M1 M1:=⟨_,rfl⟩
   obtain⟨L2,hL2'⟩: ∃L2,L2=zwP key2 ((M1.map yaW).set mm (yaW (some ⟨i,args,e⟩))) (M1.map (ybC i)):=⟨_,rfl⟩
   have hl1:L1.length=385:=by rw[hL1'];exact znQ hS1 hF1
   have hl2:L2.length=385:=by rw[hL2'];exact znQ (hS1.set mm rfl) hF1
   have hp1:splice L1 (1+mm*3) [yQ (cS args),i64 e,bo true]=L2:=by
    rw[hL1',hL2'];have:=zxM (key:=key2) (F:=M1.map (ybC i)) hS1 (m:=mm) (by rw[hS1.n];exact hmm) [yQ (cS args),i64 e,bo true] rfl;rw[<-Qv] at this;exact this
   have hp2:splice L2 (193+mm*3) [i64 i,pH args,i64 e]=zuI i key2 (zaM ⟨i,args,e⟩ M a' ((mm+1:Nat):Int)) (zaM ⟨i,args,e⟩ M a' ((mm+1:Nat):Int)):=by
    rw[hL2',<-hst];have:=yeJ (key:=key2) (hS1.set mm (x:=yaW (some ⟨i,args,e⟩)) rfl) hF1 (m:=mm) (by rw[hF1.n];exact hmm) [i64 i,pH args,i64 e] rfl;rw[<-Qv] at this;unfold zuI;rw[Ky,Ky];exact this
   have zoK:(1+mm*3+3<=385)=True:=Yk Qf3;have zxI:(193+mm*3+3<=385)=True:=Yk Qf3;rw[<-hL1'];refine gf (a4 Z2 @hlt' @hlkS @hSS) ?_;(refine zF rfl rfl rfl ?_;intro sr hsr;simp only[go_sem] at hsr;subst hsr;refine vP rfl (henc2) Qf4 ?_;intro p2 hr2 ts2 hts;simp only[go_sem] at hts;subst hts);subst hr2;refine gf (a9 Z2 @hlkS @hSS @buSt @buF3 @hl1 @hl2 @zoK (a6 @zxI @hp1 @hp2 @hm64 @jY @zB)) ?_;exact⟨mm+1,⟨Qf3,Qf3⟩,Qf3,rfl,rfl,rfl⟩
noncomputable def zhD(bt:Int):Tbl->BA->List Int
 | [],_=>List.replicate 64 bt
 |x::T,k=>open Classical in if zk0 x.1=k then x.2 else zhD bt T k
theorem zm8{bt:Int}{k:BA}: ∀{T:Tbl},k∉vR T->zhD bt T k=List.replicate 64 bt
 | [],_=>rfl
 |x::T,h=>by
  unfold vR at h;rw[Xa,Qw,not_or] at h;unfold zhD;rw[Qi fun e=>h.1 e.symm];exact zm8 h.2
noncomputable def cL(l:La)(z:List LRw)(args:List Vl)(m:Int):Int:=if 0<=m/\m<64 then(zhD (oU l) (xU l z) (zk0 args)).getD m.toNat 0 else -1
@[go_sem] def ULook2f31.pl:Nat->DPlan
 |8=>⟨[yB,yA,yB,yA,yA,yB,yA,yA,yC,yA],xS,0⟩
 |_=>⟨[],[],0⟩
def zjH(k:Nat)(key:List Vl)(m:Int):List Rw->Option Rw
 | []=>none
 |x::l=>if decide (x.args.take k=key)&&fL x.w m then some x else zjH k key m l
noncomputable def ydT(p:Pg)(q:Pd)(y:List Rw)(z:List LRw)(pred:Int)(key:List Vl)(m:Int):Option Fa:=
 if q.base=false\/(key.length:Int)≠q.key then none
 else if q.of'≠ -1 then
  if cL (p.pQ.getD q.of'.toNat zuV) z key m= -1\/cL (p.pQ.getD q.of'.toNat zuV) z key m=oU (p.pQ.getD q.of'.toNat zuV) then none
  else some ⟨pred,key,cL (p.pQ.getD q.of'.toNat zuV) z key m⟩
 else(zjH q.key.toNat key m y).map fun x=>⟨pred,x.args, -1⟩
noncomputable def ztF(p:Pg)(d:Dt)(pred:Int)(key:List Vl)(m:Int):Option Fa:=
 if ze8 (DatX p d)=false\/pred<0\/(p.pk.length:Int)<=pred then none
 else ydT p (p.pk.getD pred.toNat zuW) (d.pg.getD pred.toNat []) (d.pQ.getD pred.toNat []) pred key m
theorem ztN{p:Pg}{d:Dt}(hX:DatX p d){i:Nat}(hi:i<p.pk.length)(hir:i<d.pg.length)(hil:i<d.pQ.length)(key:List Vl)(m:Int):ztF p d i key m=ydT p p.pk[i] d.pg[i] d.pQ[i] i key m:=by
 unfold ztF;rw[Qi (fun w=>w.elim (fun w=>by rw[pO hX] at w;cases w) fun w=>by omega),Xw,eD hi,eD hir,eD hil]
theorem zqG{k:Nat}{key:List Vl}{m:Int}: ∀{l:List Rw},(∀(j:Nat)(h:j<l.length),(decide (l[j].args.take k=key)&&fL l[j].w m)=false)->zjH k key m l=none
 | [],_=>rfl
 |x::l,h=>by
  have h0:=h 0 Qf4;unfold zjH;rw[Qi (by rw[show(x::l)[0]=x from rfl] at h0;rw[h0];decide)];exact zqG fun j hj=>h (j+1) Qfy
theorem znC{l:List Sp}{m:Nat}(hm:m<64):fL l (m:Int)=(uQ l).testBit m:=by
 unfold fL;rw[Yz (Int.natCast_nonneg m),Yz (show(m:Int)<64 by omega),Xw];rfl
theorem zr8{k:Nat}{key:List Vl}{m:Int}: ∀{l:List Rw},zjH k key m l=none-> ∀x∈l,x.args.take k=key->fL x.w m=false
 | y::l,h,x,hx,hk=>by
  unfold zjH at h;by_cases q:(decide (y.args.take k=key)&&fL y.w m)=true
  ·rw[Qj q] at h;cases h
  ·rw[Qi q] at h;rcases Qw.1 hx with rfl|hx
   ·rw[Yz hk,Jk] at q;exact Bool.eq_false_iff.2 q
   ·exact zr8 h x hx hk
@[go_sem] def UR01f116.pl:Nat->DPlan
 |4=>⟨[yA,yA,yA,yB,yA,yA,yA,yB,yC,yA],xS,0⟩
 |_=>⟨[],[],0⟩
@[go_sem] def UR01f244.pl:Nat->DPlan
 |4=>⟨[yA,yA,yA,yA,yA,yA,yA],tV,0⟩
 |5=>⟨[yA,yA,yA,yA,yA,yA,yA,yA,yC,yA],xS,0⟩
 |_=>⟨[],[],0⟩
@[go_sem] def UR05f190.pp:Nat->DPlan
 |5=>⟨[yA,yA,yA,yA,yA,yB,yA,yA,yA,yA,yA,yB,uX,yC,yA],yG,0⟩
 |_=>⟨[],[],0⟩
@[go_sem] def UR05f190.pl:Nat->DPlan
 |5=>⟨[yA,yA,yA,yA,yA,⟨7,0,[1000]⟩,yA,yA,yA,yA,yA,yB,⟨6,0,[1000]⟩,yC,yA],yG,0⟩
 |_=>⟨[],[],0⟩
structure RQ(r:List Rw):Prop where
 l:r.length<=4096
 w: ∀x∈r,uQ x.w≠0/\x.w.length<=64
 a: ∀x∈r,x.args.length<=1048576/\ ∀v∈x.args,v.s.size<=140737488355328
noncomputable def zuM(r:List Rw)(t:List Vl)(m:Nat):Bool:=r.any fun x=>ze8 (x.args=t)&&(uQ x.w).testBit m
def OfK(r:List Rw)(y:Rw):Prop:=(∃x∈r,y.args=x.args)/\y.w.length<=65/\ ∀m,(uQ y.w).testBit m=zuM r y.args m
def AtK(r:List Rw)(m:Int)(a:List Vl):Prop:=(∃x∈r,a=x.args)/\0<=m/\m<64/\zuM r a m.toNat=true
theorem zsS{k:Nat}{key:List Vl}{m:Int}{z:Rw}: ∀{l:List Rw},zjH k key m l=some z->z∈l/\z.args.take k=key/\fL z.w m=true
 | y::l,h=>by
  unfold zjH at h;by_cases q:(decide (y.args.take k=key)&&fL y.w m)=true
  ·rw[Qj q] at h;injection h with h;subst h;simp only[Qt,Xm] at q;exact⟨Qe ..,q⟩
  ·rw[Qi q] at h;obtain⟨a,b⟩:=zsS h;exact⟨Qf _ a,b⟩
theorem zuG{k:Nat}{key:List Vl}{m:Int}{x:Rw}{l:List Rw}(hx:x∈l)(hk:x.args.take k=key)(hh:fL x.w m=true): ∃z,zjH k key m l=some z:=by
 cases h:zjH k key m l with
 |some z=>exact⟨z,rfl⟩
 |none=>have:=zr8 h x hx hk;rw[hh] at this;cases this
theorem zt5{k:Nat}{r:List Rw}(hc:CanL r)(hk:zr1 k r){x z:Rw}(hx:x∈r)(hz:z∈r)(ht:z.args.take k=x.args.take k){m:Nat}(hxm:(uQ x.w).testBit m=true)(hzm:(uQ z.w).testBit m=true):z.args=x.args:=by
 apply Yv;intro q;have hp:=(iW r).1 hc.1;have:=(zjB hc).1 hk _ _ q ht;rw[zoV hp hz,zoV hp hx] at this;have h2:=zn9 this m;rw[hzm,hxm] at h2;cases h2
def zs1(n:Int):List UInt8:=(List.range 8).map (vT n)
def ziU(x:Vl):List UInt8:=zs1 x.t++(zs1 x.n++(zs1 x.s.size++x.s.data.toList))
theorem zq3(b:BA)(c:UInt8):(b.push c).data.toList=b.data.toList++[c]:=by
 show(b.data.push c).toList=_;simp
theorem zbB(n:Int)(bs:BA): ∀k,(b8 n bs k).data.toList=bs.data.toList++(List.range k).map (vT n)
 |0=>by simp[b8]
 |k+1=>by rw[znE,zq3,zbB n bs k,List.range_succ,Xq,Qv];rfl
theorem zrF(bs:BA)(x:Vl):(znJ bs x).data.toList=bs.data.toList++ziU x:=by
 have h0:ztA x bs 0=bs:=rfl;have happ: ∀a b:BA,(a++b).data.toList=a.data.toList++b.data.toList:=fun a b=>by simp
 rw[zm9,happ,fK,zbB,fK,zbB,fK,zbB,h0];unfold ziU zs1;simp only[Qv];rfl
theorem fQ: ∀(l:List Vl)(bs:BA),(l.foldl znJ bs).data.toList=bs.data.toList++l.flatMap ziU
 | [],bs=>by simp
 |x::l,bs=>by rw[Yw,fQ l,zrF,Yp,Qv]
theorem pG(n:Int):(zs1 n).length=8:=by simp[zs1]
theorem zgD{n m:Int}(hn:0<=n/\n<=9999)(hm:0<=m/\m<=9999)(h:zs1 n=zs1 m):n=m:=by
 have h0:vT n 0=vT m 0:=by have:=Ym (fun l=>l.getD 0 0) h;simpa [zs1,List.range_succ] using this
 have h1:vT n 1=vT m 1:=by have:=Ym (fun l=>l.getD 1 0) h;simpa [zs1,List.range_succ] using this
 have a0:=ziJ n 0;have b0:=ziJ m 0;have a1:=ziJ n 1;have b1:=ziJ m 1;rw[h0] at a0;rw[h1] at a1;rw[<-b0] at a0;rw[<-b1] at a1;simp only[IntKind.wrap_u8] at a0 a1;simp at a0 a1;omega
theorem zhN: ∀{a b:List Vl},(∀v∈a,VvK v)->(∀v∈b,VvK v)->a.flatMap ziU=b.flatMap ziU->a=b
 | [],[],_,_,_=>rfl
 | [],y::b,_,_,h=>by
  have:=Ym List.length h;simp[ziU,pG] at this;omega
 |x::a,[],_,_,h=>by
  have:=Ym List.length h;simp[ziU,pG] at this
 | x::a,y::b,ha,hb,h=>by
  rw[Yp,Yp] at h;unfold ziU at h;simp only[Qv] at h;obtain⟨h1,h⟩:=Jy h Qfn;obtain⟨h2,h⟩:=Jy h Qfn;obtain⟨h3,h⟩:=Jy h Qfn;obtain⟨x1,x2,x3,x4, -⟩:=ha x (Qe ..);obtain⟨y1,y2,y3,y4, -⟩:=hb y (Qe ..);have e1:=zgD Qf3 Qf3 h1;have e2:=zgD ⟨x3,x4⟩ ⟨y3,y4⟩ h2;have e3:=zgD Qf3 Qf3 h3;have hsz:x.s.data.toList.length=y.s.data.toList.length:=by
   exact Qde
  obtain⟨h4,h5⟩:=Jy h hsz;have e4:x.s=y.s:=ByteArray.ext (Array.toList_inj.1 h4);have hxy:x=y:=Qh5;have hr:=zhN (fun v hv=>ha v (Qf _ hv)) (fun v hv=>hb v (Qf _ hv)) (by unfold ziU;simpa only[Qv] using h5);rw[hxy,hr]
theorem zsK{a b:List Vl}(ha: ∀v∈a,VvK v)(hb: ∀v∈b,VvK v)(h:zk0 a=zk0 b):a=b:=by
 have h1:=fQ a ⟨#[]⟩;have h2:=fQ b ⟨#[]⟩;have h3:(a.foldl znJ ⟨#[]⟩).data.toList=(b.foldl znJ ⟨#[]⟩).data.toList:=by
  show(zk0 a).data.toList=(zk0 b).data.toList;rw[h]
 rw[h1,h2] at h3;exact zhN ha hb (by simpa using h3)
theorem ArgX.vv{ty:List Int}{a:List Vl}(h:ArgX ty a): ∀v∈a,VvK v:=fun v hv=>by
 obtain⟨j,hj,rfl⟩:=Qy hv;exact(zqC _).2 (h.2 j hj (by rw[<-h.1];exact hj)).2
theorem ArgX.key{ty ty':List Int}{a b:List Vl}(ha:ArgX ty a)(hb:ArgX ty' b)(h:zk0 a=zk0 b):a=b:=zsK ha.vv hb.vv h
end Go.AL
