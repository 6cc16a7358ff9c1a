/-
  Part of the walk.
-/
import Derived.Test.YtlcjmejclpilhaaGreatDoorV07
import Derived.Lib.TrailingZeros
import Derived.Laws.Bits64b
import Derived.Laws.BitsAllLaws
set_option linter.unusedSimpArgs false
set_option linter.unusedVariables false
set_option maxRecDepth 100000
set_option maxHeartbeats 4000000
namespace Go.AL
abbrev BA:=ByteArray
abbrev yQ(s:BA):PV:= .sc (.string s)
abbrev rR(l:List BA):PV:= .ts 1 (l.map fun s=>[yQ s])
abbrev vF(l:List Int):PV:= .ts 1 (l.map fun n=>[i64 n])
structure Vl where
 t:Int
 n:Int
 s:BA
@[reducible] def Vl.c(v:Vl):List PV:=[i64 v.t,i64 v.n,yQ v.s]
abbrev pH(l:List Vl):PV:= .ts 3 (l.map Vl.c)
structure Sp where
 a:Int
 b:Int
@[reducible] def Sp.c(v:Sp):List PV:=[i64 v.a,i64 v.b]
abbrev kJ(l:List Sp):PV:= .ts 2 (l.map Sp.c)
structure Rw where
 args:List Vl
 w:List Sp
@[reducible] def Rw.c(v:Rw):List PV:=[pH v.args,kJ v.w]
abbrev uN(l:List Rw):PV:= .ts 2 (l.map Rw.c)
structure Ce where
 a:Int
 b:Int
 e:Int
@[reducible] def Ce.c(v:Ce):List PV:=[i64 v.a,i64 v.b,i64 v.e]
abbrev ces(l:List Ce):PV:= .ts 3 (l.map Ce.c)
structure LRw where
 args:List Vl
 cs:List Ce
@[reducible] def LRw.c(v:LRw):List PV:=[pH v.args,ces v.cs]
abbrev vD(l:List LRw):PV:= .ts 2 (l.map LRw.c)
structure Dt where
 pg:List (List Rw)
 pQ:List (List LRw)
@[reducible] def Dt.c(v:Dt):List PV:=[.ts 1 (v.pg.map fun r=>[uN r]),.ts 1 (v.pQ.map fun r=>[vD r])]
structure La where
 name:BA
 pw:List BA
 pJ:List (Int×Int)
 at':Int
@[reducible] def La.c(v:La):List PV:=[yQ v.name,rR v.pw,.ts 2 (v.pJ.map fun c=>[i64 c.1,i64 c.2]),i64 v.at']
structure Fu where
 name:BA
 lat:BA
 of':Int
 fr:List BA
 to:List BA
 table:List Int
 at':Int
@[reducible] def Fu.c(v:Fu):List PV:=[yQ v.name,yQ v.lat,i64 v.of',rR v.fr,rR v.to,vF v.table,i64 v.at']
structure Pd where
 name:BA
 types:List Int
 lat:BA
 of':Int
 base:Bool
 key:Int
 at':Int
@[reducible] def Pd.c(v:Pd):List PV:=[yQ v.name,vF v.types,yQ v.lat,i64 v.of',bo v.base,i64 v.key,i64 v.at']
structure Tm where
 var:BA
 k:Vl
@[reducible] def Tm.c(v:Tm):List PV:=[yQ v.var,i64 v.k.t,i64 v.k.n,yQ v.k.s]
abbrev zrX(l:List Tm):PV:= .ts 4 (l.map Tm.c)
structure Li where
 kind:Int
 name:BA
 pred:Int
 args:List Tm
 bind:BA
 elem:BA
 least:Int
 op:Int
 at':Int
@[reducible] def Li.c(v:Li):List PV:=[i64 v.kind,yQ v.name,i64 v.pred,zrX v.args,yQ v.bind,yQ v.elem,i64 v.least,i64 v.op,i64 v.at']
structure El where
 kind:Int
 name:BA
 var:BA
 ix:Int
@[reducible] def El.c(v:El):List PV:=[i64 v.kind,yQ v.name,yQ v.var,i64 v.ix]
structure Ru where
 name:BA
 pred:Int
 args:List Tm
 elem:El
 body:List Li
 at':Int
@[reducible] def Ru.c(v:Ru):List PV:=[yQ v.name,i64 v.pred,zrX v.args,i64 v.elem.kind,yQ v.elem.name,yQ v.elem.var,i64 v.elem.ix,.ts 9 (v.body.map Li.c),i64 v.at']
structure Pg where
 pQ:List La
 pZ:List Fu
 pk:List Pd
 pX:List Ru
@[reducible] def Pg.c(v:Pg):List PV:=[.ts 4 (v.pQ.map La.c),.ts 7 (v.pZ.map Fu.c),.ts 7 (v.pk.map Pd.c),.ts 9 (v.pX.map Ru.c)]
structure Op1 where
 kind:Int
 pred:Int
 args:List Vl
 elem:Int
 span:Sp
@[reducible] def Op1.c(v:Op1):List PV:=[i64 v.kind,i64 v.pred,pH v.args,i64 v.elem,i64 v.span.a,i64 v.span.b]
abbrev lJ(l:List Op1):PV:= .ts 6 (l.map Op1.c)
structure Co where
 ops:List Op1
 merged:Int
 parent:Int
@[reducible] def Co.c(v:Co):List PV:=[lJ v.ops,i64 v.merged,i64 v.parent]
structure Br where
 name:BA
 last:Int
@[reducible] def Br.c(v:Br):List PV:=[yQ v.name,i64 v.last]
structure Rp where
 cs:List Co
 bs:List Br
@[reducible] def Rp.c(v:Rp):List PV:=[.ts 3 (v.cs.map Co.c),.ts 2 (v.bs.map Br.c)]
@[simp] theorem tr_i64{n:Int}:Tree (i64 n)↔True:=oN
@[simp] theorem tr_bo{n:Bool}:Tree (bo n)↔True:=oN
@[simp] theorem tr_str{n:BA}:Tree (yQ n)↔True:=oN
@[simp] theorem tr_map{α:Type}{k:Nat}{l:List α}{f:α->List PV}:Tree (.ts k (l.map f))↔ ∀x∈l, ∀p∈f x,Tree p:=by
 rw[xX];simp only[List.forall_mem_map]
end Go.AL
namespace Go.AL
end Go.AL
namespace Go.AL
open Go.Proofs Go.Proofs.Tryz
abbrev EB(f:FuncId)(args:List PV)(K:Bool->Prop:=fun _=>True):Prop:=EPure prog G0 f args fun p=> ∃b,p=bo b/\K b
abbrev EI(f:FuncId)(args:List PV)(K:Int->Prop:=fun _=>True):Prop:=EPure prog G0 f args fun p=> ∃n,p=i64 n/\K n
theorem mN{s:BA}(h: ¬s=⟨#[]⟩):0<s.size:=by
 rcases Yr s.size with h0|h0
 ·exact absurd (ByteArray.ext (Yu h0)) h
 ·exact h0
def ziC(c:UInt8):List PV:=[.sc (.int .u8 c.toNat)]
theorem mT(s:BA):xH s=s.data.toList.map ziC:=rfl
end Go.AL
namespace Go.AL
def zm0:List BA:=["lattice".toUTF8, "function".toUTF8, "on".toUTF8, "base".toUTF8, "view".toUTF8, "key".toUTF8, "deny".toUTF8, "not".toUTF8, "int".toUTF8, "sym".toUTF8]
theorem g0_0:G0 0=some (zm0.map yQ):=rfl
theorem g0_1:G0 1=some [rR zm0]:=rfl
theorem eI:zm0.length<=140737488355328:=Qf2
end Go.AL
namespace Go.AL
abbrev u8(n:Int):PV:= .sc (.int .u8 n)
abbrev u64(n:Int):PV:= .sc (.int .u64 n)
theorem yU{α:Type}(f:α->PV)(l:List α)(n:Nat)(d:PV)(h:n<l.length):((l.map f).drop n).getD 0 d=f l[n]:=fD d h
theorem zA(h:Heap)(b:Blk):(h++[b])[h.length]? =some b:=Qf1
theorem zX(h:Heap)(b c:Blk):(h++[b]).set h.length c=h++[c]:=Qf1
end Go.AL
namespace Go.AL
structure La.ok(l:La):Prop where
 n:l.name.size<=140737488355328
 e:l.pw.length<=140737488355328
 s: ∀s∈l.pw,s.size<=140737488355328
 c:l.pJ.length<=140737488355328
theorem kK{s:List Int}(h:s.length=8):(s.map u8).take 8=s.map u8:=Yo (by simp[h])
theorem zbD{s:List Int}{j:Nat}(h:j<s.length)(v:Int):(s.map u8).take j++u8 v::(s.map u8).drop (j+1)=(s.set j v).map u8:=wY u8 s j v h
end Go.AL
namespace Go.AL
theorem xO{α β:Type}(f:α->β)(l:List α)(n:Nat):(l.map f).take n=(l.take n).map f:=List.map_take.symm
@[simp] theorem tr_u8{n:Int}:Tree (u8 n)↔True:=oN
@[simp] theorem tr_u64{n:Int}:Tree (u64 n)↔True:=oN
theorem qM{s:List Int}:Tree (.agg (s.map u8)):=zJ.2 fun p hp=>by
 obtain⟨x,_,rfl⟩:=Xf.1 hp;exact .sc
theorem oM{k:Nat}{els:List (List PV)}:Tree (.tc k els)↔ ∀e∈els, ∀p∈e,Tree p:=⟨fun h=>by cases h with|tc h=>exact h,.tc⟩
theorem zdI:maxLen=9223372036854775807:=rfl
theorem cY:IntKind.u64.min=0:=Qf2
theorem cZ:IntKind.u64.max=18446744073709551615:=Qf2
theorem zfU:IntKind.i32.min= -2147483648:=Qf2
theorem zfV:IntKind.i32.max=2147483647:=Qf2
attribute [go_sem] cY cZ zfU zfV Ju Nat.one_mul List.length_drop Nat.sub_pos_iff_lt Qv vU qC sK wO yI zcI vA zcL oL wV nI zeV zZ List.set vL wE true_and and_true and_self Wk Wr ite_true ite_false zhI zhJ zlC zlD Int.reduceLE Int.reduceLT Int.reduceNeg Kw Kv Ws Wf List.getElem?_nil Jq Wh Option.map_none Option.bind_none Option.isSome_some Option.isSome_none Option.isNone_some Option.isNone_none Wv pI zcM zaG zk5 yV Qr Qn Xv Jt Ql Nat.reduceAdd Nat.reduceSub Nat.reduceMul Nat.reduceLT Nat.reduceLeDiff Nat.reduceEqDiff Yd Wn Ki Nat.lt_add_one Nat.zero_lt_succ zeX Bool.true_eq_false Zo Bool.not_true Bool.not_false Zw Jk Bool.and_false Bool.false_and false_implies implies_true true_implies forall_const ne_eq not_true_eq_false not_false_eq_true decide_true decide_false reduceCtorEq eq_self dG cond_true cond_false wI xD splice List.take_succ_cons Uh List.take_nil Wg List.drop_zero List.drop_nil Yj Xx Xz Xa Wj Wm Jb kB lM rH rO oR aA zk2 zcU zaR jA Yl List.flatten_nil Xw Int.ofNat_lt Int.ofNat_le Xm and_false false_and or_true true_or Kb false_or yd2 List.contains_cons List.contains_nil Nat.reduceBEq Nat.reduceBNe Bool.or_true Bool.true_or Uc Bool.false_or nV qD nW Jc tint8 exists_eq_left exists_eq_left' exists_eq_right Int.reduceToNat lG zj5 zfM zlU zi5 zdG beq_self_eq_true rY Ww Ku vI pA DPlan.at rI only kI nu Ks Yw List.filter_nil vH Xn Xl Jd zdI zx4 zw1
end Go.AL
namespace Go.AL
open Go.Proofs Go.Proofs.Tryz
def rJ(a b:Int):Int:=if a<b then -1 else if b<a then 1 else 0
def vZ{α:Type}(f:α->α->Int):List α->List α->Int
 | [],[]=>0
 | [],_::_=> -1
 |_::_,[]=>1
 |x::xs,y::ys=>if f x y=0 then vZ f xs ys else f x y
def bT(x y:UInt8):Int:=rJ x.toNat y.toNat
def znM(s t:BA):Int:=vZ bT s.data.toList t.data.toList
def iU(a b:Vl):Int:=if rJ a.t b.t=0 then(if rJ a.n b.n=0 then znM a.s b.s else rJ a.n b.n) else rJ a.t b.t
def sD(a b:List Vl):Int:=vZ iU a b
theorem cW{α:Type}(f:α->α->Int)(b:List α)(n:Nat)(h:n<=b.length):vZ f [] (b.drop n)=rJ n b.length:=by
 unfold rJ;rcases Xy n b.length with h1|h1
 ·rw[Zt h1,Qj Qf0];rfl
 ·rw[Zu h1,Qi Qf0,Qi Qf0];rfl
theorem zfZ(a:Int):EPure prog G0 207 [i64 a] fun p=>p=bo false:=by
 refine ECall.pure (pv func207 6 false Qf3 rfl rfl ?_);refine g2 ?_;refine ge ?_;exact⟨⟨Qf1,.sc⟩,rfl⟩
theorem qX(a b:Int):EPure prog G0 156 [i64 a,i64 b] fun p=>p=i64 (rJ a b):=by
 refine ECall.pure (pv func156 20 false Qf3 rfl rfl ?_);refine g2 ?_;(repeat' (first|refine gz ?_|(refine gn ?_;intro zs zh;(try simp only[go_sem] at zh);subst zh;(first|refine gv ?_|(refine zC ((zfZ _).call zK Qf1 _) ?_;intro p2 h2 hr2;obtain⟨hr2,rfl⟩:=hr2;first|obtain⟨_,rfl,hr2⟩:=hr2|obtain⟨_,rfl⟩:=hr2|subst hr2|skip)|(refine yS (fun he=> ?_) (fun he=> ?_)<;>(try simp only[mM] at he))))|((with_reducible refine tO rfl ?_);intro sr hsr;simp only[sK,wP] at hsr;subst hsr;(fail_if_success(with_reducible(first|refine tL ?_|refine tN ?_)));refine tK (fun he=> ?_) (fun he=> ?_)<;>(intro ts2 hts;simp only[wP] at hts;subst hts;(try simp only[mM] at he)))|fail))
 ·exact⟨⟨by rw[rJ,Qj he],.sc⟩,rfl⟩
 ·exact⟨⟨by rw[rJ,Qi Qf0,Qj he],.sc⟩,rfl⟩
 ·exact⟨⟨by rw[rJ,Qi Qf0,Qi he],.sc⟩,rfl⟩
theorem zdQ(a:Int):EPure prog G0 208 [u8 a] fun p=>p=bo false:=by
 refine ECall.pure (pv func208 6 false Qf3 rfl rfl ?_);refine g2 ?_;refine ge ?_;exact⟨⟨Qf1,.sc⟩,rfl⟩
theorem dY(a b:Int):EPure prog G0 159 [u8 a,u8 b] fun p=>p=i64 (rJ a b):=by
 refine ECall.pure (pv func159 20 false Qf3 rfl rfl ?_);refine g2 ?_;(repeat' (first|refine gz ?_|(refine gn ?_;intro zs zh;(try simp only[go_sem] at zh);subst zh;(first|refine gv ?_|(refine zC ((zdQ _).call zK Qf1 _) ?_;intro p2 h2 hr2;obtain⟨hr2,rfl⟩:=hr2;first|obtain⟨_,rfl,hr2⟩:=hr2|obtain⟨_,rfl⟩:=hr2|subst hr2|skip)|(refine yS (fun he=> ?_) (fun he=> ?_)<;>(try simp only[mM] at he))))|((with_reducible refine tO rfl ?_);intro sr hsr;simp only[sK,wP] at hsr;subst hsr;(fail_if_success(with_reducible(first|refine tL ?_|refine tN ?_)));refine tK (fun he=> ?_) (fun he=> ?_)<;>(intro ts2 hts;simp only[wP] at hts;subst hts;(try simp only[mM] at he)))|fail))
 ·exact⟨⟨by rw[rJ,Qj he],.sc⟩,rfl⟩
 ·exact⟨⟨by rw[rJ,Qi Qf0,Qj he],.sc⟩,rfl⟩
 ·exact⟨⟨by rw[rJ,Qi Qf0,Qi he],.sc⟩,rfl⟩
theorem zj4(a b:Int):EPure prog G0 158 [u8 a,u8 b] fun p=>p=i64 (rJ a b):=by
 refine ECall.pure (pv func158 8 false Qf3 rfl rfl ?_);refine g2 ?_;refine ge ?_;(refine g1 ?_;refine zC ((dY a b).call zK Qf1 _) (yf0 ?_);rintro p2 h2 ⟨rfl,rfl⟩);refine ge ?_;exact Qaa
theorem gY{α:Type}(f:α->α->Int)(a b:List α)(i:Nat)(ha:i<a.length)(hb:i<b.length)(h:f a[i] b[i]=0):vZ f (a.drop i) (b.drop i)=vZ f (a.drop (i+1)) (b.drop (i+1)):=by
 rw[Zt ha,Zt hb];simp[vZ,h]
theorem cV{α:Type}(f:α->α->Int)(a b:List α)(i:Nat)(ha:i<a.length)(hb:i<b.length)(h:f a[i] b[i]≠0):vZ f (a.drop i) (b.drop i)=f a[i] b[i]:=by
 rw[Zt ha,Zt hb];simp[vZ,h]
theorem gZ{α:Type}(f:α->α->Int)(a b:List α)(i:Nat)(ha:i<a.length)(hb:b.length<=i):vZ f (a.drop i) (b.drop i)=1:=by
 rw[Zt ha,Zu hb];rfl
theorem zdJ(a b:List UInt8)(ha:a.length<=140737488355328)(hb:b.length<=140737488355328):EPure prog G0 157 [.ts 1 (a.map ziC),.ts 1 (b.map ziC),.fn (.func 158) [] []] fun p=>p=i64 (vZ bT a b):=by
 refine ECall.pure (pv func157 37 false Qf3 rfl rfl ?_);refine g2 ?_;refine ge ?_;refine zO a.length (K4 (.k:: .k::D4 (.k:: .k:: .v::D9 (D9 (.d::K4 (.k::[])))))) (own:=false) (fun i (_:Unit)=>[i64 i]) (fun _=>_) (fun i _=>i<=b.length/\vZ bT a b=vZ bT (a.drop i) (b.drop i)) () rfl rfl ⟨Yn _,rfl⟩ ha ?_ ?_
 ·rintro _ ⟨hib,hI⟩;refine gm ?_;refine gf @zM ?_;(refine g1 ?_;refine zC ((qX a.length b.length).call zK Qf1 _) (yf0 ?_);rintro p2 h2 ⟨rfl,rfl⟩);refine ge ?_;refine⟨⟨?_,.sc⟩,rfl⟩;rw[hI,Um,cW _ _ _ hib]
 ·rintro i _ hi hw ⟨hib,hI⟩;refine gm ?_;have hg:=zG (f:=ziC) [] hi;rcases Xy i b.length with hlb|hge
  ·have hne:((i:Int)==(b.length:Int))=false:=Qfh;have hgb:=zG (f:=ziC) [] hlb;(repeat(first|refine gz ?_|(refine gn ?_;intro zs zh;(try simp only[go_sem,hi,hw,hg,zB,hne,hgb,ziC,hlb] at zh);subst zh;refine gv ?_)));(refine ns ?_;intro zs zh;simp only[go_sem,ziC] at zh;subst zh;refine zC ((zj4 _ _).call zK Qf1 _) (yf0 ?_);rintro p2 h2 ⟨rfl,rfl⟩);have hc:rJ a[i].toNat b[i].toNat=bT a[i] b[i]:=rfl;by_cases h0:bT a[i] b[i]=0
   ·refine zjA (a3 @hc @h0 @hw) ?_;exact⟨(),⟨hlb,by rw[hI,gY _ _ _ _ hi hlb h0]⟩,rfl,rfl,rfl⟩
   ·have hb0:(bT a[i] b[i]!=0)=true:=Qf9;refine gf (a2 @hc @hb0) ?_;exact⟨⟨by rw[hI,cV _ _ _ _ hi hlb h0],.sc⟩,rfl⟩
  ·have he:i=b.length:=Qf0;have hne:((i:Int)==(b.length:Int))=true:=Qfh;(repeat(first|refine gz ?_|(refine gn ?_;intro zs zh;(try simp only[go_sem,hi,hw,hg,zB,hne,ziC] at zh);subst zh;refine gv ?_)));exact⟨⟨by rw[hI,gZ _ _ _ _ hi hge],.sc⟩,rfl⟩
@[go_sem] def UVal2f95.pl:Nat->DPlan
 |6=>⟨[yA,yB,yA,yA,yA,yB,yC,yA],zqS,0⟩
 |_=>⟨[],[],0⟩
theorem zj3(a b:Vl)(ha:a.s.size<=140737488355328)(hb:b.s.size<=140737488355328):EPure prog G0 96 [.agg a.c,.agg b.c] fun p=>p=i64 (iU a b):=by
 refine ECall.cut (R:=fun p _=>p=i64 (iU a b)) (pv func96 30 false Qf3 rfl rfl ?_) Qgi;refine g2 ?_;refine ge ?_;(refine g1 ?_;refine zC ((qX _ _).call zK Qf1 _) (yf0 ?_);rintro p2 h2 ⟨rfl,rfl⟩);by_cases h0:rJ a.t b.t=0
 ·refine zjA @h0 ?_;(refine g1 ?_;refine zC ((qX _ _).call zK Qf1 _) (yf0 ?_);rintro p2 h2 ⟨rfl,rfl⟩);by_cases h1:rJ a.n b.n=0
  ·refine zjA (a2 @h1 @mT) ?_;(refine g1f @mT ?_;refine zC ((zdJ _ _ ha hb).call zK (by simp[yO,ziC]) _) (yf0 ?_);rintro p2 h2 ⟨rfl,rfl⟩);refine ge ?_;rw[iU,Qj h0,Qj h1];rfl
  ·have hb:(rJ a.n b.n !=0)=true:=Qfa;refine gf @hb ?_;rw[iU,Qj h0,Qi h1]
 ·have hb:(rJ a.t b.t !=0)=true:=Qf9;refine gf @hb ?_;rw[iU,Qi h0]
open UVal2f95 in
theorem zdK(a b:List Vl)(ha:a.length<=140737488355328)(hb:b.length<=140737488355328)(ha2: ∀v∈a,v.s.size<=140737488355328)(hb2: ∀v∈b,v.s.size<=140737488355328):
  EPure prog G0 95 [pH a,pH b,.fn (.func 96) [] []] fun p=>p=i64 (sD a b):=by
 refine ECall.cut (R:=fun p _=>p=i64 (sD a b)) (pv func95 37 false Qf3 rfl rfl ?_) Qgi;refine g2 ?_;refine ge ?_;refine zO a.length (K4 (.k:: .k::D4 (.k:: .k:: .v::D9 (D9 (.d::K4 (.k::[])))))) (own:=false) (fun i (_:Heap)=>[i64 i]) (fun J=>J) (fun i _=>i<=b.length/\sD a b=vZ iU (a.drop i) (b.drop i)) _ rfl rfl ⟨Yn _,rfl⟩ ha ?_ ?_
 ·rintro J ⟨hib,hI⟩;refine gm ?_;refine gf @zM ?_;(refine g1 ?_;refine zC ((qX a.length b.length).call zK Qf1 _) (yf0 ?_);rintro p2 h2 ⟨rfl,rfl⟩);refine ge ?_;rw[hI,Um,cW _ _ _ hib]
 ·rintro i J hi hw ⟨hib,hI⟩;refine gm ?_;have hg:=zG (f:=Vl.c) [] hi;have F:=(a6 @hi @hw @hg @zB @zA @zX)
  rcases Xy i b.length with hlb|hge
  ·have hne:((i:Int)==(b.length:Int))=false:=Qfh;have hgb:=zG (f:=Vl.c) [] hlb;refine gf (a4 F @hne @hgb @hlb) ?_;(refine yf1 @hgb ?_;refine zP Qf2 Qf2 ((zj3 a[i] b[i] (ha2 _ (Qc hi)) (hb2 _ (Qc hlb))).call zK Qfb _) (yf0 ?_);rintro p2 h2 ⟨rfl,rfl⟩);by_cases h0:iU a[i] b[i]=0
   ·refine zjA (a2 @h0 @hw) ?_;exact⟨_,⟨hlb,by rw[hI,gY _ _ _ _ hi hlb h0]⟩,rfl,rfl,rfl⟩
   ·have hb0:(iU a[i] b[i]!=0)=true:=Qf9;refine gf @hb0 ?_;rw[hI,cV _ _ _ _ hi hlb h0]
  ·have he:i=b.length:=Qf0;have hne:((i:Int)==(b.length:Int))=true:=Qfh;refine gf (a2 F @hne) ?_;rw[hI,gZ _ _ _ _ hi hge]
theorem zb6(a b:List Vl)(ha:a.length<=140737488355328)(hb:b.length<=140737488355328)(ha2: ∀v∈a,v.s.size<=140737488355328)(hb2: ∀v∈b,v.s.size<=140737488355328):
  EPure prog G0 39 [pH a,pH b] fun p=>p=i64 (sD a b):=by
 refine ECall.pure (pv func39 8 false Qf3 rfl rfl ?_);refine g2 ?_;refine ge ?_;(refine g1 ?_;refine zC ((zdK a b ha hb ha2 hb2).call zK Qfc _) (yf0 ?_);rintro p2 h2 ⟨rfl,rfl⟩);refine ge ?_;exact⟨⟨rfl,.sc⟩,rfl⟩
@[go_sem] def UInt1f106.pl:Nat->DPlan
 |6=>⟨[yA,yA,yA,yB,yA,yA,yA,yB,yA],uW,0⟩
 |_=>⟨[],[],0⟩
theorem eqSp(a b c d:Int):za2 (α:=Prop) prog 54 (.agg [i64 a,i64 b]) (.agg [i64 c,i64 d])=some (a==c&&(b==d&&true),True):=by
 kernel_rfl
theorem ziK(n:Nat)(hn:n<18446744073709551616)(h0: ¬n=0): ∃k j:Nat,k=Go.Lib.ctz 64 n/\k<64/\j<64/\IntKind.u64.wrap (bits BinOp.and IntKind.u64 (↑n) (IntKind.u64.wrap (0- ↑n))*285870213051353865) / 2 ^ min 58 64=(j:Int)/\Go.Lib.deBruijn64tab.getD j 0=k:=by
 have e0:(2:Nat) ^ 64=18446744073709551616:=Qf2;obtain⟨hlow,hk⟩:=Go.Lib.lowest_bit 64 n h0 (by rw[e0];exact hn);obtain⟨hj,hdb⟩:=Go.Lib.deBruijn64_at _ hk;generalize hkk:Go.Lib.ctz 64 n=k at*;rw[e0] at hlow;have e1:IntKind.u64.wrap (0- ↑n)=((18446744073709551616-n:Nat):Int):=Qh7;have e2:(2:Int) ^ min 58 64=288230376151711744:=by rw[show min 58 64=58 from rfl];simp
 generalize hx:2 ^ k=x at*;refine⟨k,x*285870213051353865%18446744073709551616 / 288230376151711744,rfl,hk,hj,?_,hdb⟩;rw[e1,bits_and_u64_nat n _ hn Qf0,hlow,IntKind.wrap_u64,e2,Int.natCast_ediv,Int.natCast_emod,Int.natCast_mul];simp only[Int.cast_ofNat_Int]
theorem isS5:(prog.underlying 5).isSome=true:=Qf3
theorem db_is:db=Go.Lib.deBruijn64tab.map fun x:Nat=>u8 x:=rfl
theorem zmJ:db.length=64:=rfl
theorem db_at(j k:Nat)(hj:j<64)(h:Go.Lib.deBruijn64tab.getD j 0=k):(db.drop j).getD 0 .un=u8 k:=by
 have hl:j<Go.Lib.deBruijn64tab.length:=hj;rw[db_is,yU _ _ _ _ hl,<-h,Qb,Qa hl];rfl
theorem zk6(n:Nat)(hn:n<18446744073709551616):EPure prog G0 303 [u64 n] fun p=>p=i64 (Go.Lib.ctz 64 n):=by
 refine ECall.pure (pv func303 14 false Qf3 rfl rfl ?_);refine g2 ?_;by_cases h0:n=0
 ·subst h0;(repeat(first|refine gz ?_|(refine gn ?_;intro zs zh;(try simp only[go_sem,Int.cast_ofNat_Int,beq_self_eq_true,Int.natCast_zero] at zh);subst zh;refine gv ?_)));exact Qaa
 ·have hb:((n:Int)==0)=false:=Qf9;obtain⟨k,j,hkk,hk,hj,hE,hjk⟩:=ziK n hn h0;have hD:=db_at j k hj hjk;rw[<-hkk];have hG:G0 2=some db:=rfl;have hj2:((j:Nat):Int)<64:=Qf0;have hw:IntKind.i64.wrap (k:Int)=k:=xM Qf0 Qf0;refine gf (a9 @hb @hE @hG @hD @zmJ @zB @hj2 @hw @isS5) ?_;exact Qaa
@[go_sem] def UInt2f155.pp:Nat->DPlan
 |5=>⟨[yA,yA,yB,uX,yA,yB,yC,yA,yA,yA],xS,0⟩
 |_=>⟨[],[],0⟩
@[go_sem] def UInt2f155.pl:Nat->DPlan
 |5=>⟨[yA,yA,yB,⟨6,0,[1005]⟩,yA,⟨7,0,[1005]⟩,yC,yA,yA,yA],xS,0⟩
 |_=>⟨[],[],0⟩
theorem bH(x:Nat)(h0:x≠0)(h:x<2 ^ 64): ∃m,x=2 ^ Go.Lib.ctz 64 x*(2*m+1)/\Go.Lib.ctz 64 x<64:=by
 unfold Go.Lib.ctz;rw[Qi h0];exact Go.Lib.ctzFrom_spec 64 x Qf0 h
theorem zeY(y:Nat)(hy:y<2 ^ 64):(2 ^ 64-1) ^^^ y=2 ^ 64-1-y:=by
 have h1:(BitVec.allOnes 64 ^^^ BitVec.ofNat 64 y).toNat=(2 ^ 64-1) ^^^ y:=by
  rw[BitVec.toNat_xor,BitVec.toNat_allOnes,BitVec.toNat_ofNat,Nat.mod_eq_of_lt hy]
 have h2:(~~~ (BitVec.ofNat 64 y)).toNat=2 ^ 64-1-y:=by
  rw[BitVec.toNat_not,BitVec.toNat_ofNat,Nat.mod_eq_of_lt hy]
 rw[<-h1,<-h2,BitVec.not_def]
theorem zc8(w a:Nat)(hw:w<2 ^ 64)(ha:a<64)(hx:w / 2 ^ a≠0):
  a+Go.Lib.ctz 64 (w / 2 ^ a)<64/\w / 2 ^ (a+Go.Lib.ctz 64 (w / 2 ^ a))<2 ^ 64/\1<=Go.Lib.ctz 64 (2 ^ 64-1-w / 2 ^ (a+Go.Lib.ctz 64 (w / 2 ^ a)))/\
   a+Go.Lib.ctz 64 (w / 2 ^ a)+Go.Lib.ctz 64 (2 ^ 64-1-w / 2 ^ (a+Go.Lib.ctz 64 (w / 2 ^ a)))<=64:=by
 have hx64:w / 2 ^ a<2 ^ (64-a):=by
  rw[Nat.div_lt_iff_lt_mul (Wa a),<-Nat.pow_add,Nat.sub_add_cancel Qf0];exact hw
 obtain⟨m,hm,hk⟩:=bH (w / 2 ^ a) hx (Yf hx64 (Yy Qf2 Qf0));generalize Go.Lib.ctz 64 (w / 2 ^ a)=k at*;have hak:a+k<64:=by
  have h1:2 ^ k<=w / 2 ^ a:=by rw[hm];exact Nat.le_mul_of_pos_right _ Qf0
  have h2:2 ^ k<2 ^ (64-a):=Wl h1 hx64;have:=(Nat.pow_lt_pow_iff_right (by decide:1<2)).1 h2;omega
 have hy:w / 2 ^ (a+k)=2*m+1:=by
  rw[Nat.pow_add,<-Nat.div_div_eq_div_mul,hm,Nat.mul_div_cancel_left _ (Wa k)]
 have hyl:w / 2 ^ (a+k)<2 ^ (64-(a+k)):=by
  rw[Nat.div_lt_iff_lt_mul (Wa _),<-Nat.pow_add,Nat.sub_add_cancel Qf0];exact hw
 have hy64:w / 2 ^ (a+k)<2 ^ 64:=Wl (Nat.div_le_self _ _) hw;refine⟨hak,hy64,?_⟩;generalize w / 2 ^ (a+k)=y at*;by_cases hz:2 ^ 64-1-y=0
 ·have hd:64-(a+k)=64:=by
   rcases Xy (64-(a+k)) 64 with h|h
   ·have h1:2 ^ (64-(a+k))<=2 ^ 63:=Yy Qf2 Qf0;have e1:(2:Nat) ^ 63=9223372036854775808:=Qf2;exact Qcv
   ·omega
  rw[hz];have:Go.Lib.ctz 64 0=64:=rfl;rw[this];omega
 ·have hz64:2 ^ 64-1-y<2 ^ 64:=by
   exact Qcv
  obtain⟨m',hm',hj⟩:=bH _ hz hz64;generalize hjj:Go.Lib.ctz 64 (2 ^ 64-1-y)=j at*;have e2:(2:Nat) ^ 64=18446744073709551616:=Qf2;have hj1:1<=j:=by
   rcases Yr j with h|h
   ·subst h;rw[Nat.pow_zero,Nat.one_mul] at hm';omega
   ·exact h
  refine⟨hj1,?_⟩;rcases Xy 64 (a+k+j) with h|h
  ·exfalso;obtain⟨d,hd⟩: ∃d,d=64-(a+k):=⟨_,rfl⟩
   have hjd:d+1<=j:=Qf0;have e3:2 ^ j=2 ^ (d+1)*2 ^ (j-(d+1)):=by rw[<-Nat.pow_add];congr 1;omega
   have e4:2 ^ 64=2 ^ (d+1)*2 ^ (63-d):=by rw[<-Nat.pow_add];congr 1;omega
   rw[e3,Nat.mul_assoc] at hm';rw[<-hd] at hyl;have hp:2 ^ (d+1)=2*2 ^ d:=by rw[Nat.pow_succ];omega
   generalize 2 ^ (j-(d+1))*(2*m'+1)=q at*;have hle:2 ^ (d+1)*q<2 ^ (d+1)*2 ^ (63-d):=by rw[<-e4];omega
   have hq:q<2 ^ (63-d):=Nat.lt_of_mul_lt_mul_left hle;have h5:2 ^ (d+1)*(q+1)<=2 ^ (d+1)*2 ^ (63-d):=Nat.mul_le_mul_left _ hq;rw[<-e4,Nat.mul_add,Ju] at h5;have:=Wa d;omega
  ·exact h
theorem ne0_t{x:Nat}(h:x≠0):((x:Int)!=0)=true:=by simp;omega
theorem sub64(y:Nat):2 ^ 64-1-y<18446744073709551616:=by
 exact Qcv
theorem qT:IntKind.u64.signed=false:=rfl
theorem zd9(cs:List PV)(k:Nat):wA cs 0 k 1=[cs.take k]:=by simp[wA]
theorem zgG(a b:PV):wA [a,b] 0 1 2=[[a],[b]]:=rfl
theorem zgF(a b c:PV):wA [a,b,c] 0 1 3=[[a],[b],[c]]:=rfl
attribute [go_sem] zd9 zgG zgF
theorem ECall.cutW{P:Program}{G:Glob}{f:FuncId}{args:List PV}{R:PV->Heap->Prop}{K:PV->Prop}(k:ECall P G f args [] R)(hk: ∀p h,R p h-> ∃q,PLe (fz 0 h 40 p) q/\K q/\Tree q):EPure P G f args K:=
 EPure.weaken (ECall.cut (K:=fun p=> ∃q,PLe p q/\K q/\Tree q) k hk) fun _ h=>h
theorem pD{h:Heap}{f q k:Nat}{els:List (List PV)}:fz 0 h (f+1) (.vec q k els)=fz 0 h (f+1) (.ts k els):=by
 simp only[fz,Xt,Wr]
theorem rF{h:Heap}{q k:Nat}{els:List (List PV)}(he:zU 40 (.ts k els)=true):fz 0 h 40 (.vec q k els)= .ts k els:=by
 rw[pD (f:=39)];exact vE 0 h 40 _ he
theorem iQ{n:Nat}{h:Heap}:fz n h 40 .nil= .nil:=by simp only[fz]
def Grow(t:TypeId)(els:List (List PV))(k:Nat)(R:Heap)(V:PV):Prop:=(els=[]/\V= .nil)\/ ∃q,V= .vec (q+2) k els/\R[q]? =some (.vec t k els.length)
abbrev IxfS{α:Type}(c:α->List PV)(v:α->PV)(k:Nat)(id:FuncId):Prop:= ∀(l:List α)(C:α->Prop)(g:FuncId)(cap:List PV)(h0:Heap)(hl:l.length<=140737488355328)(hF: ∀x∈l, ∀J,ECall prog G0 g ((v x)::cap) (h0++J) fun p h'=> ∃(b:Bool)(J':Heap),p=bo b/\(b=false->C x)/\h'=h0++J')(J:Heap),
  ECall prog G0 id [.ts k (l.map c),.fn (.func g) [] cap] (h0++J) fun p h'=> ∃(n:Int)(J':Heap),p=i64 n/\ -1<=n/\n<l.length/\(n<0-> ∀x∈l,C x)/\h'=h0++J'
theorem ydX{α:Type}{c:α->List PV}{v:α->PV}{k:Nat}{id:FuncId}{fn:Func}(hf:prog.funcs[id]? =some fn) (h:prog.funcs[id]? =some fn->(∀(l:List α)(i:Nat)(hi:i<l.length),(l.map c).getD i []=c l[i])->IxfS c v k id:=by
 intro hf hX l C g cap h0 hl hF J;refine pv hf 19 false Qf3 rfl rfl ?_;refine g2 ?_;refine ge ?_;refine zO l.length (K4 (.d:: .d:: .k:: .k:: .v::D9 (.d::[]))) (own:=false) (fun i (_:Heap)=>[i64 i]) (fun J=>h0++J) (fun i _=> ∀(j:Nat)(h:j<l.length),j<i->C l[j]) J rfl rfl (fun j _ hj=>absurd hj (Xt _)) hl ?_ ?_
 ·rintro J hI;refine gm ?_;refine gf @zM ?_;exact⟨_,_,rfl,Qf0,Qf0,fun _ x hx=>(by obtain⟨j,hj,rfl⟩:=Qy hx;exact hI j hj hj),rfl⟩
 ·rintro i J hi hw hI;refine gm ?_;have hx:=hX l i hi;refine gf (a4 @hi @hx @zB @hw) ?_;(refine g1f @hx ?_;refine zC (hF _ (Qc hi) J) (yf0 ?_);rintro p2 h2 ⟨b,J',rfl,hC,rfl⟩);cases b
  ·refine gf @hw ?_;refine⟨J',fun j h hj=> ?_,rfl,rfl,rfl⟩;rcases Xy j i with hji|hji
   ·exact hI j h hji
   ·have:j=i:=Qf0;subst this;exact hC rfl
  ·refine ge ?_;exact⟨_,_,rfl,Qf0,Qf0,fun hn=>by omega,rfl⟩):IxfS c v k id:=h hf fun l i hi=>zG [] hi
abbrev CfS{α:Type}(c:α->List PV)(v:α->PV)(k:Nat)(id:FuncId):Prop:= ∀(l:List α)(C:α->Prop)(g:FuncId)(cap:List PV)(h0:Heap)(hl:l.length<=140737488355328)(hF: ∀x∈l, ∀J,ECall prog G0 g ((v x)::cap) (h0++J) fun p h'=> ∃(b:Bool)(J':Heap),p=bo b/\(b=false->C x)/\h'=h0++J')(J:Heap),
  ECall prog G0 id [.ts k (l.map c),.fn (.func g) [] cap] (h0++J) fun p h'=> ∃(b:Bool)(J':Heap),p=bo b/\(b=false-> ∀x∈l,C x)/\h'=h0++J'
theorem yd3{α:Type}{c:α->List PV}{v:α->PV}{k:Nat}{id ix:FuncId}{fn:Func}(hf:prog.funcs[id]? =some fn)(hi:IxfS c v k ix) (h:prog.funcs[id]? =some fn->IxfS c v k ix->CfS c v k id:=by
 intro hf hi l C g cap h0 hl hF J;refine pv hf 9 false Qf3 rfl rfl ?_;refine g2 ?_;refine ge ?_;(refine g1 ?_;refine zC (hi l C g cap h0 hl hF J) (yf0 ?_);rintro p2 h2 ⟨n,J',rfl,_,_,hn,rfl⟩);refine ge ?_;exact⟨_,_,rfl,fun h=>hn Qfn,rfl⟩):CfS c v k id:=h hf hi
theorem zjF:IxfS (fun s:BA=>[yQ s]) (fun s:BA=>yQ s) 1 371:=ydX func371
theorem zmL:CfS (fun s:BA=>[yQ s]) (fun s:BA=>yQ s) 1 340:=yd3 func340 zjF
theorem zjG:IxfS (fun n:Int=>[i64 n]) (fun n:Int=>i64 n) 1 372:=ydX func372
theorem zmM:CfS (fun n:Int=>[i64 n]) (fun n:Int=>i64 n) 1 343:=yd3 func343 zjG
theorem zl4:IxfS La.c (fun x:La=> .agg x.c) 4 337:=ydX func337
theorem cf_la:CfS La.c (fun x:La=> .agg x.c) 4 277:=yd3 func277 zl4
theorem zl5:IxfS Fu.c (fun x:Fu=> .agg x.c) 7 338:=ydX func338
theorem cf_fu:CfS Fu.c (fun x:Fu=> .agg x.c) 7 279:=yd3 func279 zl5
theorem zl2:IxfS Pd.c (fun x:Pd=> .agg x.c) 7 342:=ydX func342
theorem cf_pd:CfS Pd.c (fun x:Pd=> .agg x.c) 7 283:=yd3 func283 zl2
theorem zl1:IxfS Ru.c (fun x:Ru=> .agg x.c) 9 345:=ydX func345
theorem cf_ru:CfS Ru.c (fun x:Ru=> .agg x.c) 9 287:=yd3 func287 zl1
theorem zlZ:IxfS Tm.c (fun x:Tm=> .agg x.c) 4 373:=ydX func373
theorem cf_tm:CfS Tm.c (fun x:Tm=> .agg x.c) 4 346:=yd3 func346 zlZ
theorem zl3:IxfS Li.c (fun x:Li=> .agg x.c) 9 374:=ydX func374
theorem cf_li:CfS Li.c (fun x:Li=> .agg x.c) 9 348:=yd3 func348 zl3
abbrev Al1S{α:Type}(v:α->PV)(id:FuncId):Prop:= ∀(x:α)(C:Prop)(g:FuncId)(cap:List PV)(t:TypeId)(J:Heap)(hF:EB g ((v x)::cap) fun b=>b=true->C)(ht: ∀p∈(v x)::cap,Tree p),
  ECall prog G0 id [v x,.ptr 0 0] ([.var t [.fn (.func g) [] cap]]++J) fun p h'=> ∃(b:Bool)(J':Heap),p=bo b/\(b=false->C)/\h'=[.var t [.fn (.func g) [] cap]]++J'
theorem ydZ{α:Type}{v:α->PV}{id:FuncId}{fn:Func}(hf:prog.funcs[id]? =some fn) (h:prog.funcs[id]? =some fn->Al1S v id:=by
 intro hf x C g cap t J hF ht;refine pv hf 8 false Qf3 rfl rfl ?_;refine g2 ?_;refine gf @zA ?_;(refine g1f @zA ?_;refine zC (hF.call zK ht _) (yf0 ?_);rintro p2 h2 ⟨⟨b,rfl,hC⟩,rfl⟩);refine ge ?_;exact⟨_,_,rfl,fun h=>hC Qfn,rfl⟩):Al1S v id:=h hf
abbrev AllS{α:Type}(c:α->List PV)(v:α->PV)(k:Nat)(id:FuncId):Prop:= ∀(l:List α)(C:α->Prop)(most:Int)(g:FuncId)(cap:List PV)(hl:l.length<=140737488355328)(hF: ∀x∈l,EB g ((v x)::cap) fun b=>b=true->C x)(ht: ∀x∈l, ∀p∈(v x)::cap,Tree p),
  EB id [.ts k (l.map c),i64 most,.fn (.func g) [] cap] fun b=>b=true->(l.length:Int)<=most/\ ∀x∈l,C x
theorem ydY{α:Type}{c:α->List PV}{v:α->PV}{k:Nat}{id ic ia:FuncId}{fn:Func}(hf:prog.funcs[id]? =some fn)(hc:CfS c v k ic)(h1:Al1S v ia) (h:prog.funcs[id]? =some fn->CfS c v k ic->Al1S v ia->AllS c v k id:=by
 intro hf hc h1 l C most g cap hl hF ht;refine ECall.cut (R:=fun p _=> ∃b:Bool,p=bo b/\(b=true->(l.length:Int)<=most/\ ∀x∈l,C x)) (pv hf 17 false Qf3 rfl rfl ?_) (by rintro p h ⟨b,rfl,hb⟩;exact⟨b,rfl,hb⟩);refine g2 ?_;by_cases hm:(l.length:Int)<=most
 ·have hb:=Yz hm;refine gf @hb ?_;(refine g1f @hb ?_;refine zC (hc l C _ [.ptr 0 0] [.var _ [.fn (.func g) [] cap]] hl (fun x hx J=>h1 x (C x) g cap _ J (hF x hx) (ht x hx)) []) (yf0 ?_);rintro p2 h2 ⟨b,J',rfl,hC,rfl⟩);refine gf @hb ?_;exact⟨_,rfl,fun h=>⟨hm,hC Qfn⟩⟩
 ·have hb:=Zy hm;refine gf @hb ?_;exact⟨_,rfl,Qf1⟩):AllS c v k id:=h hf hc h1
theorem zgX:Al1S (fun s:BA=>yQ s) 341:=ydZ func341
theorem zcD:AllS (fun s:BA=>[yQ s]) (fun s:BA=>yQ s) 1 282:=ydY func282 zmL zgX
theorem zgY:Al1S (fun n:Int=>i64 n) 344:=ydZ func344
theorem zkK:AllS (fun n:Int=>[i64 n]) (fun n:Int=>i64 n) 1 286:=ydY func286 zmM zgY
theorem zkP:Al1S (fun x:La=> .agg x.c) 278:=ydZ func278
theorem zmX:AllS La.c (fun x:La=> .agg x.c) 4 211:=ydY func211 cf_la zkP
theorem zkQ:Al1S (fun x:Fu=> .agg x.c) 280:=ydZ func280
theorem zmY:AllS Fu.c (fun x:Fu=> .agg x.c) 7 212:=ydY func212 cf_fu zkQ
theorem zkN:Al1S (fun x:Pd=> .agg x.c) 284:=ydZ func284
theorem zmV:AllS Pd.c (fun x:Pd=> .agg x.c) 7 214:=ydY func214 cf_pd zkN
theorem zkM:Al1S (fun x:Ru=> .agg x.c) 288:=ydZ func288
theorem zmU:AllS Ru.c (fun x:Ru=> .agg x.c) 9 216:=ydY func216 cf_ru zkM
theorem zkL:Al1S (fun x:Tm=> .agg x.c) 347:=ydZ func347
theorem zhX:AllS Tm.c (fun x:Tm=> .agg x.c) 4 291:=ydY func291 cf_tm zkL
theorem zkO:Al1S (fun x:Li=> .agg x.c) 349:=ydZ func349
theorem zmW:AllS Li.c (fun x:Li=> .agg x.c) 9 293:=ydY func293 cf_li zkO
theorem qH(l:List BA)(s:BA)(hl:l.length<=140737488355328):EI 295 [rR l,yQ s] fun n=> -1<=n/\n<l.length:=by
 refine ECall.pure (zbX (own:=false) func295 rfl Qf3 (show _=[rR l,yQ s,.ud,.ud,.ud,.ud,.ud,.ud,.ud,.ud,.ud,.ud,.ud,.ud,.ud,.ud,.ud,.ud,.ud] from rfl) ?_);refine ge ?_;refine zO l.length (K4 (.d:: .d:: .k:: .k:: .v::D9 (.d::[]))) (own:=false) (fun i (_:Unit)=>[i64 i]) (fun _=>[]) (fun _ _=>True) () rfl rfl trivial hl ?_ ?_
 ·rintro s hI;refine gm ?_;refine gf @zM ?_;exact⟨⟨⟨_,rfl,Qf0,Qf0⟩,.sc⟩,rfl⟩
 ·rintro i _ hi hw _;refine gm ?_;have hx:=zG (f:=fun s:BA=>[yQ s]) [] hi;(have F:=(a4 @hi @hx @zB @hw);(repeat' (first|refine dR F ?_|refine dQ F (fun he=> ?_) (fun he=> ?_)|fail));all_goals clear F)
  ·exact⟨⟨⟨_,rfl,Qf0,Qf0⟩,.sc⟩,rfl⟩
  ·exact Qb9
theorem wC(l:List BA)(s:BA)(hl:l.length<=140737488355328):EB 270 [rR l,yQ s]:=by
 refine ECall.pure (zbX (own:=false) func270 rfl Qf3 (show _=[rR l,yQ s,.ud,.ud,.ud,.ud,.ud,.ud,.ud] from rfl) ?_);(repeat' (first|refine gz ?_|(refine gn ?_;intro zs zh;(try simp only[go_sem] at zh);subst zh;(first|refine gv ?_|(refine zC ((qH _ _ hl).call zK Qf1 _) ?_;intro p2 h2 hr2;obtain⟨hr2,rfl⟩:=hr2;first|obtain⟨_,rfl,hr2⟩:=hr2|obtain⟨_,rfl⟩:=hr2|subst hr2|skip)|(refine yS (fun he=> ?_) (fun he=> ?_)<;>(try simp only[mM] at he))))|((with_reducible refine tO rfl ?_);intro sr hsr;simp only[sK,wP] at hsr;subst hsr;(fail_if_success(with_reducible(first|refine tL ?_|refine tN ?_)));refine tK (fun he=> ?_) (fun he=> ?_)<;>(intro ts2 hts;simp only[wP] at hts;subst hts;(try simp only[mM] at he)))|fail));exact Qez
theorem qV(s:BA)(hs:s.size<=140737488355328):EB 275 [yQ s]:=by
 refine ECall.pure (zbX (own:=false) func275 rfl Qf3 (show _=(yQ s:: .ud:: .ud:: .ud:: .ud:: .ud:: .ud:: .ud:: .ud:: .ud:: .ud:: .ud:: .ud:: .ud:: .ud:: .ud:: .ud:: .ud:: .ud:: .ud:: .ud:: .ud:: .ud:: .ud:: .ud:: .ud:: .ud:: .ud:: .ud:: .ud:: .ud:: .ud:: .ud:: .ud:: .ud:: .ud:: .ud:: .ud:: .ud:: .ud:: .ud:: .ud:: .ud:: .ud:: .ud:: .ud:: .ud:: .ud:: .ud:: .ud:: .ud:: .ud:: .ud:: .ud:: .ud:: .ud::[]) from rfl) ?_);by_cases h0:s=⟨#[]⟩
 ·exact Qb3
 have hp:=mN h0;(repeat' (first|refine gz ?_|(refine gn ?_;intro zs zh;(try simp only[go_sem,h0,g0_1,mT] at zh);subst zh;(first|refine gv ?_|(refine zC ((wC zm0 _ eI).call zK Qf1 _) ?_;intro p2 h2 hr2;obtain⟨hr2,rfl⟩:=hr2;first|obtain⟨_,rfl,hr2⟩:=hr2|obtain⟨_,rfl⟩:=hr2|subst hr2|skip)|(refine yS (fun he=> ?_) (fun he=> ?_)<;>(try simp only[mM] at he))))|((with_reducible refine tO rfl ?_);intro sr hsr;simp only[sK,wP] at hsr;subst hsr;(fail_if_success(with_reducible(first|refine tL ?_|refine tN ?_)));refine tK (fun he=> ?_) (fun he=> ?_)<;>(intro ts2 hts;simp only[wP] at hts;subst hts;(try simp only[mM] at he)))|fail));all_goals first|(exact⟨⟨⟨_,rfl,trivial⟩,.sc⟩,rfl⟩)|skip
 refine zO s.data.toList.length (.k:: .k:: .d:: .k:: .d::K9 (K9 (K4 (.k:: .k:: .k:: .v::D9 (D9 (D4 (.d:: .d:: .d::[]))))))) (own:=false) (fun i (_:Unit)=>[i64 i]) (fun _=>_) (fun _ _=>True) () rfl rfl trivial hs ?_ ?_
 ·exact Qew
 ·exact Qa7
@[go_sem] def ULat2f276.pl:Nat->DPlan
 |8=>⟨[yA,yA,yB,yA,yA,yB,yA,yA,yC],uW,0⟩
 |_=>⟨[],[],0⟩
def Low(n:Nat)(os:List Int):Prop:= ∀x∈os,0<=x/\x<2 ^ n
theorem zhH{n:Nat}(hn:n<=8){a b:Int}(ha:0<=a/\a<2 ^ n)(hb:0<=b/\b<2 ^ n):0<=bits BinOp.or IntKind.u8 a b/\bits BinOp.or IntKind.u8 a b<2 ^ n:=by
 obtain⟨a',rfl⟩:=Qm ha.1;obtain⟨b',rfl⟩:=Qm hb.1;have h8:2 ^ n<=2 ^ 8:=Yy Qf2 hn;have ha':a'<2 ^ n:=by exact_mod_cast ha.2
 have hb':b'<2 ^ n:=by exact_mod_cast hb.2
 rw[(bits_nat .u8 8 Qf2 wraps_u8 a' b' Qf0 Qf0).2];refine⟨Qf0,?_⟩
 exact_mod_cast Uf ha' hb'
theorem zbP{n b:Nat}(hn:n<=8)(hb:b<n):0<=IntKind.u8.wrap (1*2 ^ min b 8)/\IntKind.u8.wrap (1*2 ^ min b 8)<2 ^ n:=by
 have e:min b 8=b:=Qf0;have hlt:2 ^ b<2 ^ n:=Nat.pow_lt_pow_right Qf2 hb;have h8:2 ^ n<=2 ^ 8:=Yy Qf2 hn;have hp:0<2 ^ b:=Wa b;rw[e,show(1:Int)*2 ^ b=((2 ^ b:Nat):Int) by simp,show(2:Int) ^ n=((2 ^ n:Nat):Int) by simp];generalize 2 ^ b=x at*;generalize 2 ^ n=y at*;rw[IntKind.wrap_u8];omega
theorem Low.set{n:Nat}{os:List Int}(h:Low n os)(j:Nat){v:Int}(hv:0<=v/\v<2 ^ n):Low n (os.set j v):=fun x hx=>by
 rcases Ze hx with hx|rfl
 ·exact h x hx
 ·exact hv
theorem Low.get{n:Nat}{os:List Int}(h:Low n os)(j:Nat)(hj:j<os.length):0<=os[j]/\os[j]<2 ^ n:=h _ (Qc hj)
theorem zfQ(n:Nat):Low n [0,0,0,0,0,0,0,0]:=fun x hx=>by
 have:x=0:=Qfz;subst this;exact⟨Qf0,by exact_mod_cast Wa n⟩
theorem oC(os:List Int)(hos:os.length=8)(set:Int)(n:Nat)(hn:n<=8):EI 205 [.agg (os.map u8),u8 set,i64 n] fun r=> -1<=r/\r<n:=by
 refine ECall.cut (R:=fun p _=> ∃r:Int,p=i64 r/\ -1<=r/\r<n) (pv func205 27 false Qf3 rfl rfl ?_) ?_;refine g2 ?_
 ·refine ge ?_;refine zO n (K4 (.k:: .k:: .d:: .d:: .k:: .v::D9 (D4 (D4 ([]))))) (own:=false) (fun i (_:Unit)=>[i64 i]) (fun _=>_) (fun _ _=>True) () rfl rfl trivial Qf0 ?_ ?_
  ·rintro s hI;refine gm ?_;refine gf @zM ?_;exact⟨_,rfl,Qf0,Qf0⟩
  ·rintro i _ hi hw _;refine gm ?_;have h8:i<os.length:=Qf0;have hd:=yU u8 os i .un h8;(have F:=(a5 @hi @hd @h8 @zB @hw);(repeat' (first|refine dR F ?_|refine dQ F (fun he=> ?_) (fun he=> ?_)|fail));all_goals clear F);all_goals first|exact⟨_,rfl,Qf0,Qf0⟩|(refine⟨(),trivial,?_,?_,rfl⟩<;>simp only[zY,xJ,Xs])
 ·rintro p h ⟨r,rfl,h1,h2⟩;exact⟨r,rfl,h1,h2⟩
open ULat2f276 in
theorem zd6(os:List Int)(hos:os.length=8)(n:Nat)(hn:n<=8):EPure prog G0 276 [.agg (os.map u8),i64 n] fun p=> ∃os':List Int,p= .agg (os'.map u8)/\os'.length=8/\(Low n os->Low n os'):=by
 refine ECall.cut (R:=fun p _=> ∃os':List Int,p= .agg (os'.map u8)/\os'.length=8/\(Low n os->Low n os')) (pv func276 33 false Qf3 rfl rfl ?_) ?_;refine g2 ?_
 ·refine ge ?_;refine zO n (K4 (.k:: .d:: .d:: .k:: .v::D9 (D9 (D4 (.d:: .k::[]))))) (own:=false) (fun i (_:List Int)=>[i64 i]) (fun s=>[.var 289 (s.map u8),_]) (fun _ s=>s.length=8/\(Low n os->Low n s)) os rfl rfl ⟨hos,id⟩ Qf0 ?_ ?_
  ·exact Qbv
  ·rintro i s hi hw hI;refine gm ?_;refine gf (a3 @hi @zB @hw) ?_;refine zO n (K4 (.k:: .k:: .d::K4 (.k:: .v::D9 (D9 (.k:: .k::[]))))) (own:=false) (fun i (_:List Int)=>[i64 i]) (fun s=>[.var 289 (s.map u8),_]) (fun _ s=>s.length=8/\(Low n os->Low n s)) s rfl rfl hI Qf0 ?_ ?_
   ·exact Qdf
   ·rintro j s hj zg1 hI;refine gm ?_;obtain⟨hI1,hI2⟩:=hI;have h8:i<s.length:=Qf0;have hj8:j<s.length:=Qf0;have hd:=yU u8 s i .un h8;have hd2:=yU u8 s j .un hj8;have hs: ∀v,(s.map u8).take j++u8 v::(s.map u8).drop (j+1)=(s.set j v).map u8:=fun v=>wY u8 s j v hj8;(repeat' (first|refine gz ?_|(refine gn ?_;intro zs zh;(try simp only[go_sem,hj,zB,zg1,hd,hd2,hs,h8,hj8,Nat.succ_le_of_lt] at zh);subst zh;(first|refine gv ?_|(refine yS (fun he=> ?_) (fun he=> ?_)<;>(try simp only[mM] at he))))|refine yD ULat2f276.pl ?_|((with_reducible refine vY ?_);refine zN rfl rfl rfl ?_;intro sr hsr;simp only[sK,wP] at hsr;subst hsr;(fail_if_success(refine nx ?_));(refine iT (fun he=> ?_) (fun he=> ?_)<;>(intro ts2 hts;simp only[wP] at hts;subst hts;(try simp only[mM] at he))))|((with_reducible refine tO rfl ?_);intro sr hsr;simp only[sK,wP] at hsr;subst hsr;(fail_if_success(with_reducible(first|refine tL ?_|refine tN ?_)));refine tK (fun he=> ?_) (fun he=> ?_)<;>(intro ts2 hts;simp only[wP] at hts;subst hts;(try simp only[mM] at he)))|fail))
    ·exact⟨_,⟨by simpa using hI1,fun hL=>(hI2 hL).set _ (zhH hn ((hI2 hL).get j hj8) ((hI2 hL).get i h8))⟩,rfl,rfl,rfl⟩
    ·exact⟨s,⟨hI1,hI2⟩,rfl,rfl,rfl⟩
 ·exact Qed
@[go_sem] def ULat3f209.pl:Nat->DPlan
 |17=>⟨[yA,yB,yA,yB,yA,yB,yA,yA,yA,yC],xS,0⟩
 |26=>⟨[yB,yA,yA,yA,yA,yC,yA],tV,0⟩
 |34=>⟨[yA,yA,yA,yA,yA,yA,yB,yA,yA,yA,yA,yA,yA,yA,yA,yB,yA,yA,yA,yA,yA,yA,yB,yA,yA,yB,yA,yA,yB,yA,yA,yC,yA,yA],zrK,0⟩
 |_=>⟨[],[],0⟩
def CkR(l:La)(p:PV):Prop:= ∃(os:List Int)(e:Int),p= .tup [.agg (os.map u8),i64 e]/\os.length=8/\(e=0->1<=l.pw.length/\l.pw.length<=8/\Low l.pw.length os)
open ULat3f209 in
theorem bJ(l:La)(hl:l.ok):EPure prog G0 209 [.agg l.c] (CkR l):=by
 obtain⟨hln,hle,hls,hlc⟩:=hl;refine ECall.cut (R:=fun p _=>CkR l p) (pv func209 159 false Qf3 rfl rfl ?_) ?_;refine g2 ?_
 ·(repeat' (first|refine gz ?_|(refine gn ?_;intro zs zh;(try simp only[go_sem] at zh);subst zh;(first|refine gv ?_|((first|refine zC ((qV _ hln).call zK Qf1 _) ?_|refine zP Qf2 Qf2 ((qV _ hln).call zK Qf1 _) ?_);intro p2 h2 hr2;obtain⟨hr2,rfl⟩:=hr2;first|obtain⟨_,rfl,hr2⟩:=hr2|obtain⟨_,rfl⟩:=hr2|subst hr2|skip)|(refine yS (fun he=> ?_) (fun he=> ?_)<;>(try simp only[mM] at he))))|refine yD ULat3f209.pl ?_|((with_reducible refine vY ?_);refine zN rfl rfl rfl ?_;intro sr hsr;simp only[sK,wP] at hsr;subst hsr;(fail_if_success(refine nx ?_));(refine iT (fun he=> ?_) (fun he=> ?_)<;>(intro ts2 hts;simp only[wP] at hts;subst hts;(try simp only[mM] at he))))|((with_reducible refine tO rfl ?_);intro sr hsr;simp only[sK,wP] at hsr;subst hsr;(fail_if_success(with_reducible(first|refine tL ?_|refine tN ?_)));refine tK (fun he=> ?_) (fun he=> ?_)<;>(intro ts2 hts;simp only[wP] at hts;subst hts;(try simp only[mM] at he)))|fail));all_goals try exact⟨[0,0,0,0,0,0,0,0],1,rfl,rfl,fun h=>by omega⟩
  refine zO l.pw.length (.k:: .k:: .k:: .d:: .k:: .k:: .d:: .d::K9 (K9 (K9 (K4 (.v::D9 (D4 (K9 (K9 (K9 (K9 (K9 (K9 (K9 (K9 (K9 (K9 (K9 (K4 (.k:: .k:: .k::[]))))))))))))))))))) (own:=false) (fun i (_:List Int)=>[i64 i]) (fun s=>[_,_,.var 289 (s.map u8)]) (fun _ s=>s.length=8/\Low l.pw.length s) [0,0,0,0,0,0,0,0] rfl rfl ⟨rfl,zfQ _⟩ Qf0 ?_ ?_
  ·rintro s ⟨hs8,hsL⟩;refine gm ?_;refine gf @zM ?_;refine zO l.pJ.length (.k:: .k:: .k:: .d::K4 (.k:: .d::K9 (K9 (K9 (K9 (K9 (.k:: .v::D9 (D9 (D9 (.d:: .d::K9 (K9 (K9 (K9 (K9 (K9 (K9 (K9 (.k::[])))))))))))))))))) (own:=false) (fun i (_:List Int×Heap)=>[i64 i]) (fun s=>_::_:: .var 289 (s.1.map u8)::s.2) (fun _ s=>s.1.length=8/\Low l.pw.length s.1) (s,[]) rfl rfl ⟨hs8,hsL⟩ Qf0 ?_ ?_
   ·rintro⟨s,J⟩ ⟨hs8,hsL⟩;refine gm ?_;dsimp only at hs8 hsL;refine gf @zM ?_;refine zO l.pw.length (.k:: .k:: .k:: .d::K4 (.k:: .k:: .d:: .d::K9 (K9 (K9 (K9 (K9 (K9 (K9 (K9 (K4 (.k:: .v::D9 (.d:: .d:: .d::K9 (K9 (K9 (K9 (K9 (K9 (.k:: .k:: .k::[])))))))))))))))))) (own:=false) (fun i (_:Unit)=>[i64 i]) (fun _=>_) (fun _ _=>True) () rfl rfl trivial Qf0 ?_ ?_
    ·rintro _ _;refine gm ?_;have ht8:=kK hs8;refine gf (a2 @zM @ht8) ?_;(refine g1f @ht8 ?_;refine zC ((zd6 s hs8 l.pw.length Qf0).call zK Qfd _) (yf0 ?_);rintro p2 h2 ⟨⟨o,rfl,ho,hoL⟩,rfl⟩);have hoL:=hoL hsL;have hdr:(s.map u8).drop 8=[]:=Zu (by simp[hs8]);have ht9:=kK ho;(repeat' (first|refine gz ?_|(refine gn ?_;intro zs zh;(try simp only[go_sem,hdr,Qr,ho,hs8,ht9] at zh);subst zh;(first|refine gv ?_|((first|refine zC ((oC o ho _ l.pw.length Qf0).call zK Qfd _) ?_|refine zP Qf2 Qf2 ((oC o ho _ l.pw.length Qf0).call zK Qfd _) ?_);intro p2 h2 hr2;obtain⟨hr2,rfl⟩:=hr2;first|obtain⟨_,rfl,hr2⟩:=hr2|obtain⟨_,rfl⟩:=hr2|subst hr2|skip)|(refine yS (fun he=> ?_) (fun he=> ?_)<;>(try simp only[mM] at he))))|refine yD ULat3f209.pl ?_|((with_reducible refine vY ?_);refine zN rfl rfl rfl ?_;intro sr hsr;simp only[sK,wP] at hsr;subst hsr;(fail_if_success(refine nx ?_));(refine iT (fun he=> ?_) (fun he=> ?_)<;>(intro ts2 hts;simp only[wP] at hts;subst hts;(try simp only[mM] at he))))|((with_reducible refine tO rfl ?_);intro sr hsr;simp only[sK,wP] at hsr;subst hsr;(fail_if_success(with_reducible(first|refine tL ?_|refine tN ?_)));refine tK (fun he=> ?_) (fun he=> ?_)<;>(intro ts2 hts;simp only[wP] at hts;subst hts;(try simp only[mM] at he)))|fail));all_goals (try exact⟨o,_,rfl,ho,fun h=>by omega⟩)
     refine zO l.pw.length (.k:: .k:: .k:: .d::K4 (K4 (.d:: .d::K9 (K9 (K9 (K9 (K9 (K9 (K9 (K9 (K9 (K9 (K9 (.k:: .v::D9 (D9 (D9 (D9 (D4 (.d:: .d:: .d:: .k::[]))))))))))))))))))) (own:=false) (fun i (_:Unit)=>[i64 i]) (fun _=>_) (fun _ _=>True) () rfl rfl trivial Qf0 ?_ ?_
     ·rintro _ _;refine gm ?_;refine zjA (a4 @zM @ht9 @ho @hdr) ?_;exact⟨o,0,rfl,ho,fun h=>⟨Qf0,Qf0,hoL⟩⟩
     ·rintro i _ hi hw _;refine gm ?_;have hi8:i<o.length:=Qf0;have hdi:=yU u8 o i .un hi8;refine gf (a2 @hi @hw) ?_;refine zO l.pw.length (.k:: .k:: .k:: .d::K9 (.d::K9 (K9 (K9 (K9 (K9 (K9 (K9 (K9 (K9 (K9 (K9 (K4 (.k:: .v::D9 (D9 (D9 (D9 (.d:: .d:: .k:: .k::[])))))))))))))))))) (own:=false) (fun i (_:Unit)=>[i64 i]) (fun _=>_) (fun _ _=>True) () rfl rfl trivial Qf0 ?_ ?_
      ·rintro _ _;refine gm ?_;refine gf (a2 @zM @hw) ?_;exact Qbu
      ·rintro j _ hj zg1 _;refine gm ?_;have hj8:j<o.length:=Qf0;have hdj:=yU u8 o j .un hj8;(repeat' (first|refine gz ?_|(refine gn ?_;intro zs zh;(try simp only[go_sem,hj,zg1,ht9,Qr,ho,hdr,hdi,hdj,zB] at zh);subst zh;(first|refine gv ?_|((first|refine zC ((oC o ho _ l.pw.length Qf0).call zK Qfd _) ?_|refine zP Qf2 Qf2 ((oC o ho _ l.pw.length Qf0).call zK Qfd _) ?_);intro p2 h2 hr2;obtain⟨hr2,rfl⟩:=hr2;first|obtain⟨_,rfl,hr2⟩:=hr2|obtain⟨_,rfl⟩:=hr2|subst hr2|skip)|(refine yS (fun he=> ?_) (fun he=> ?_)<;>(try simp only[mM] at he))))|refine yD ULat3f209.pl ?_|((with_reducible refine vY ?_);refine zN rfl rfl rfl ?_;intro sr hsr;simp only[sK,wP] at hsr;subst hsr;(fail_if_success(refine nx ?_));(refine iT (fun he=> ?_) (fun he=> ?_)<;>(intro ts2 hts;simp only[wP] at hts;subst hts;(try simp only[mM] at he))))|((with_reducible refine tO rfl ?_);intro sr hsr;simp only[sK,wP] at hsr;subst hsr;(fail_if_success(with_reducible(first|refine tL ?_|refine tN ?_)));refine tK (fun he=> ?_) (fun he=> ?_)<;>(intro ts2 hts;simp only[wP] at hts;subst hts;(try simp only[mM] at he)))|fail));all_goals first|exact⟨o,_,rfl,ho,fun h=>by omega⟩|(refine⟨(),trivial,?_,?_,rfl⟩<;>simp only[zY,xJ,Xs])|trace_state
    ·rintro i _ hi hw _;refine gm ?_;have hx:=zG (f:=fun s:BA=>[yQ s]) [] hi;have ht8:=kK hs8;(repeat' (first|refine gz ?_|(refine gn ?_;intro zs zh;(try simp only[go_sem,hi,hx,zB,hw,ht8,hs8,Qr,xO] at zh);subst zh;(first|refine gv ?_|((first|refine zC ((wC (l.pw.take i) _ Qfq).call zK Qf1 _) ?_|refine zP Qf2 Qf2 ((wC (l.pw.take i) _ Qfq).call zK Qf1 _) ?_);intro p2 h2 hr2;obtain⟨hr2,rfl⟩:=hr2;first|obtain⟨_,rfl,hr2⟩:=hr2|obtain⟨_,rfl⟩:=hr2|subst hr2|skip)|(refine yS (fun he=> ?_) (fun he=> ?_)<;>(try simp only[mM] at he))))|refine yD ULat3f209.pl ?_|((with_reducible refine vY ?_);refine zN rfl rfl rfl ?_;intro sr hsr;simp only[sK,wP] at hsr;subst hsr;(fail_if_success(refine nx ?_));(refine iT (fun he=> ?_) (fun he=> ?_)<;>(intro ts2 hts;simp only[wP] at hts;subst hts;(try simp only[mM] at he))))|((with_reducible refine tO rfl ?_);intro sr hsr;simp only[sK,wP] at hsr;subst hsr;(fail_if_success(with_reducible(first|refine tL ?_|refine tN ?_)));refine tK (fun he=> ?_) (fun he=> ?_)<;>(intro ts2 hts;simp only[wP] at hts;subst hts;(try simp only[mM] at he)))|fail));all_goals first|exact⟨s,_,rfl,hs8,fun h=>by omega⟩|(refine⟨(),trivial,?_,?_,rfl⟩<;>simp only[zY,xJ,Xs])|trace_state
   ·rintro i ⟨s,J⟩ hi hw ⟨hs8,hsL⟩;refine gm ?_;dsimp only at hs8 hsL;have ht8:=kK hs8;by_cases hc:0<=l.pJ[i].1/\0<=l.pJ[i].2/\l.pJ[i].1<l.pw.length/\l.pJ[i].2<l.pw.length
    ·obtain⟨c1,c2,c3,c4⟩:=hc;obtain⟨a,ha⟩:=Qm c1;obtain⟨b,hb⟩:=Qm c2;have hx:(l.pJ.map fun c=>[i64 c.1,i64 c.2]).getD i []=[i64 a,i64 b]:=by rw[zG [] hi,ha,hb]
     rw[ha] at c3;rw[hb] at c4;have ha8:a<s.length:=Qf0;have hd:=yU u8 s a .un ha8;have hsp:=zbD ha8;(repeat' (first|refine gz ?_|(refine gn ?_;intro zs zh;(try simp only[go_sem,hi,hx,zB,hw,ht8,hs8,Qr,hd,hsp,zA,zX] at zh);subst zh;(first|refine gv ?_|(refine yS (fun he=> ?_) (fun he=> ?_)<;>(try simp only[mM] at he))))|refine yD ULat3f209.pl ?_|((with_reducible refine vY ?_);refine zN rfl rfl rfl ?_;intro sr hsr;simp only[sK,wP] at hsr;subst hsr;(fail_if_success(refine nx ?_));(refine iT (fun he=> ?_) (fun he=> ?_)<;>(intro ts2 hts;simp only[wP] at hts;subst hts;(try simp only[mM] at he))))|((with_reducible refine tO rfl ?_);intro sr hsr;simp only[sK,wP] at hsr;subst hsr;(fail_if_success(with_reducible(first|refine tL ?_|refine tN ?_)));refine tK (fun he=> ?_) (fun he=> ?_)<;>(intro ts2 hts;simp only[wP] at hts;subst hts;(try simp only[mM] at he)))|fail));all_goals first|exact⟨s,1,rfl,hs8,fun h=>by omega⟩|exact⟨(_,_),⟨by simpa using hs8,hsL.set _ (zhH Qf0 (hsL.get a ha8) (zbP Qf0 Qf0))⟩,rfl,rfl,rfl⟩|(exfalso;omega)|(exfalso;split at* <;>omega)
    ·have hx:(l.pJ.map fun c=>[i64 c.1,i64 c.2]).getD i []=[i64 l.pJ[i].1,i64 l.pJ[i].2]:=by rw[zG [] hi]
     generalize l.pJ[i].1=a at*;generalize l.pJ[i].2=b at*;(repeat' (first|refine gz ?_|(refine gn ?_;intro zs zh;(try simp only[go_sem,hi,hx,zB,hw,ht8,hs8,Qr,zA,zX] at zh);subst zh;(first|refine gv ?_|(refine yS (fun he=> ?_) (fun he=> ?_)<;>(try simp only[mM] at he))))|refine yD ULat3f209.pl ?_|((with_reducible refine vY ?_);refine zN rfl rfl rfl ?_;intro sr hsr;simp only[sK,wP] at hsr;subst hsr;(fail_if_success(refine nx ?_));(refine iT (fun he=> ?_) (fun he=> ?_)<;>(intro ts2 hts;simp only[wP] at hts;subst hts;(try simp only[mM] at he))))|((with_reducible refine tO rfl ?_);intro sr hsr;simp only[sK,wP] at hsr;subst hsr;(fail_if_success(with_reducible(first|refine tL ?_|refine tN ?_)));refine tK (fun he=> ?_) (fun he=> ?_)<;>(intro ts2 hts;simp only[wP] at hts;subst hts;(try simp only[mM] at he)))|fail));all_goals first|exact⟨s,1,rfl,hs8,fun h=>by omega⟩|exact⟨(_,_),by simpa using hs8,rfl,rfl,rfl⟩|(exfalso;omega)|(exfalso;split at* <;>omega)
  ·rintro i s hi hw ⟨hs8,hsL⟩;refine gm ?_;have hx:=zG (f:=fun s:BA=>[yQ s]) [] hi;have ht8:=kK hs8;have hi8:i<s.length:=Qf0;have hsp:=zbD hi8;(repeat' (first|refine gz ?_|(refine gn ?_;intro zs zh;(try simp only[go_sem,hi,hx,zB,hw,ht8,hs8,Qr,hsp] at zh);subst zh;(first|refine gv ?_|((first|refine zC ((qV _ (hls _ (Qc hi))).call zK Qf1 _) ?_|refine zP Qf2 Qf2 ((qV _ (hls _ (Qc hi))).call zK Qf1 _) ?_);intro p2 h2 hr2;obtain⟨hr2,rfl⟩:=hr2;first|obtain⟨_,rfl,hr2⟩:=hr2|obtain⟨_,rfl⟩:=hr2|subst hr2|skip)|(refine yS (fun he=> ?_) (fun he=> ?_)<;>(try simp only[mM] at he))))|refine yD ULat3f209.pl ?_|((with_reducible refine vY ?_);refine zN rfl rfl rfl ?_;intro sr hsr;simp only[sK,wP] at hsr;subst hsr;(fail_if_success(refine nx ?_));(refine iT (fun he=> ?_) (fun he=> ?_)<;>(intro ts2 hts;simp only[wP] at hts;subst hts;(try simp only[mM] at he))))|((with_reducible refine tO rfl ?_);intro sr hsr;simp only[sK,wP] at hsr;subst hsr;(fail_if_success(with_reducible(first|refine tL ?_|refine tN ?_)));refine tK (fun he=> ?_) (fun he=> ?_)<;>(intro ts2 hts;simp only[wP] at hts;subst hts;(try simp only[mM] at he)))|fail))
   ·exact⟨s,1,rfl,hs8,fun h=>by omega⟩
   ·exact⟨_,⟨by simpa using hs8,hsL.set _ (zbP Qf0 Qf0)⟩,rfl,rfl,rfl⟩
 ·exact Qc2
theorem cX(l:La)(hl:l.ok):EPure prog G0 203 [.agg l.c] fun p=> ∃(os:List Int)(b:Bool),p= .tup [.agg (os.map u8),bo b]/\os.length=8/\(b=true->1<=l.pw.length/\l.pw.length<=8/\Low l.pw.length os):=by
 refine ECall.cut (R:=fun p _=> ∃(os:List Int)(b:Bool),p= .tup [.agg (os.map u8),bo b]/\os.length=8/\(b=true->1<=l.pw.length/\l.pw.length<=8/\Low l.pw.length os)) (pv func203 13 false Qf3 rfl rfl ?_) ?_;refine g2 ?_
 ·refine ge ?_;(refine g1 ?_;refine zC ((bJ l hl).call zK Qfb _) (yf0 ?_);rintro p2 h2 ⟨⟨os,e,rfl,hos,he⟩,rfl⟩);have ht8:=kK hos;have hdr:(os.map u8).drop 8=[]:=Zu (by simp[hos]);refine zjA (a3 @ht8 @hdr @hos) ?_;exact⟨os,_,rfl,hos,fun h=>he Qfn⟩
 ·exact Qc2
theorem fB(l:La)(hl:l.ok)(xs:List Int)(hx:xs.length<=140737488355328):EB 204 [.agg l.c,vF xs] fun b=>b=true-> ∀x∈xs,0<=x/\x<l.pw.length:=by
 refine ECall.cut (R:=fun p _=> ∃b:Bool,p=bo b/\(b=true-> ∀x∈xs,0<=x/\x<l.pw.length)) (pv func204 23 false Qf3 rfl rfl ?_) ?_;refine g2 ?_
 ·refine ge ?_;refine zO xs.length (K4 (.d:: .k:: .d:: .k:: .k:: .v::D9 (D4 ([])))) (own:=false) (fun i (_:Unit)=>[i64 i]) (fun _=>_) (fun i _=> ∀j (h:j<i) (h2:j<xs.length),0<=xs[j]/\xs[j]<l.pw.length) () rfl rfl (by intro j h;omega) hx ?_ ?_
  ·rintro _ hI;refine gm ?_;refine gf @zM ?_;refine⟨true,rfl,fun _ x hx=> ?_⟩;obtain⟨j,hj,rfl⟩:=Qy hx;exact hI j hj hj
  ·rintro i _ hi hw hI;refine gm ?_;have hg:=zG (f:=fun n:Int=>[i64 n]) [] hi;(have F:=(a4 @hi @hw @hg @zB);(repeat' (first|refine dR F ?_|refine dQ F (fun he=> ?_) (fun he=> ?_)|fail));all_goals clear F)
   ·exact⟨false,rfl,Qf1⟩
   ·exact⟨false,rfl,Qf1⟩
   ·refine⟨(),fun j hj h2=> ?_,rfl,rfl,rfl⟩;rcases Xy j i with h|h
    ·exact hI j h h2
    ·have:j=i:=Qf0;subst this;omega
 ·exact Qdu
theorem zhG(l:La)(hl:l.ok)(xs:List Int)(hx:xs.length<=140737488355328):EI 154 [.agg l.c,vF xs] fun r=> -1<=r/\(r= -1\/r<l.pw.length):=by
 refine ECall.cut (R:=fun p _=> ∃r:Int,p=i64 r/\ -1<=r/\(r= -1\/r<l.pw.length)) (pv func154 46 false Qf3 rfl rfl ?_) ?_;refine g2 ?_
 ·refine ge ?_;(refine g1 ?_;refine zC ((cX l hl).call zK Qfb _) (yf0 ?_);rintro p2 h2 ⟨⟨os,b,rfl,hos,hb⟩,rfl⟩);have ht8:=kK hos;have hdr:(os.map u8).drop 8=[]:=Zu (by simp[hos]);cases b with
  |false=>
   refine zjA (a2 @hos @hdr) ?_;exact⟨-1,rfl,Qf0⟩
  | true=>
   obtain⟨hn1,hn8, -⟩:=hb rfl;refine zjA (a2 @hos @hdr) ?_;(refine g1 ?_;refine zC ((fB l hl xs hx).call zK Qfb _) (yf0 ?_);rintro p2 h2 ⟨⟨b2,rfl,hin⟩,rfl⟩);cases b2 with
   |false=>
    refine ge ?_;exact⟨-1,rfl,Qf0⟩
   | true=>
    have hin:=hin rfl;refine ge ?_;refine zO xs.length (K4 (.k:: .k:: .k:: .v:: .k:: .d::K9 (K9 (.k:: .k:: .v::D9 (K4 (.k:: .k::[])))))) (own:=false) (fun i (u:Int)=>[u8 u,i64 i]) (fun _=>_) (fun i _=>True) _ rfl rfl trivial hx ?_ ?_
    ·rintro u hI;refine gm ?_;refine gf (a2 @zM @ht8) ?_;(refine g1f @ht8 ?_;refine zC ((oC os hos _ l.pw.length hn8).call zK Qfd _) (yf0 ?_);rintro p2 h2 ⟨⟨r,rfl,hr⟩,rfl⟩);refine ge ?_;exact⟨r,rfl,hr.1,.inr hr.2⟩
    ·rintro i u hi hw hI;refine gm ?_;obtain⟨h1,h2⟩:=hin _ (Qc hi);obtain⟨m,hm⟩:=Qm h1;have hg:(xs.map fun n:Int=>[i64 n]).getD i []=[i64 m]:=by rw[zG [] hi,hm]
     have hm8:m<os.length:=Qf0;have hd:=yU u8 os m .un hm8;refine gf (a5 @hi @hw @hg @zB @hd) ?_;exact⟨_,trivial,Qh1,rfl,rfl⟩
 ·exact Qdu
theorem qJ(l:La)(hl:l.ok):EI 86 [.agg l.c] fun r=> -1<=r/\(r= -1\/r<l.pw.length):=by
 refine ECall.cut (R:=fun p _=> ∃r:Int,p=i64 r/\ -1<=r/\(r= -1\/r<l.pw.length)) (pv func86 5 false Qf3 rfl rfl ?_) ?_;refine g2 ?_
 ·refine ge ?_;(refine g1 ?_;refine zC (((zhG l hl [] Qf1).args (.cons (PLe.refl _) (.cons (PLe.nil_ts 1) .nil))).call zK (by simp[zJ,cJ]) _) (yf0 ?_);rintro p2 h2 ⟨⟨r,rfl,hr⟩,rfl⟩);refine ge ?_;exact⟨r,rfl,hr⟩
 ·exact Qdu
theorem aR(s:ByteArray)(i:Nat):1<=(Utf8.decode s i).2:=by
 unfold Utf8.decode;dsimp only;repeat' split
 all_goals simp
abbrev i32(n:Int):PV:= .sc (.int .i32 n)
@[simp] theorem tr_i32{n:Int}:Tree (i32 n)↔True:=oN
theorem zuJ:zm0.length=10:=rfl
theorem zg6:(zm0.map yQ).map (fun x=>[x])=zm0.map fun s=>[yQ s]:=by rw[Zg];rfl
theorem jL(n:Int):EB 271 [i32 n]:=by
 refine ECall.pure (pv func271 30 false Qf3 rfl rfl ?_);refine g2 ?_;(repeat' (first|refine gp ?_|refine gs (fun he=> ?_) (fun he=> ?_)|fail));all_goals exact⟨⟨⟨_,rfl,trivial⟩,.sc⟩,rfl⟩
theorem gC(s:BA)(g:FuncId)(t:Bool)(hF: ∀n:Int,EB g [i32 n]):EI 367 [yQ s,.fn (.func g) [] [],bo t]:=by
 refine ECall.cut (R:=fun p _=> ∃n:Int,p=i64 n) (pv func367 21 false Qf3 rfl rfl ?_) Qhk;refine g2 ?_;have htm:kC prog 9=none:=Qf3;refine gf @htm ?_;refine zW (K4 (.k:: .k:: .d:: .d:: .d:: .k:: .k::D9 (.d::[]))) (fun (s:Nat)=>[]) (fun n=>[.siter s n]) (fun _=>True) (fun n=>s.size-n) (own:=false) 0 rfl rfl trivial ?_;rintro n _;refine gm ?_;by_cases hn:n<s.size
 ·have hd:=aR s n;generalize hq:Utf8.decode s n=q at*;obtain⟨c,k⟩:=q;refine gf (a2 @hn @hq) ?_;(refine g1 ?_;refine zC ((hF c).call zK Qf1 _) (yf0 ?_);rintro p2 h2 ⟨⟨b,rfl,_⟩,rfl⟩);(repeat' (first|refine gp ?_|refine gs (fun he=> ?_) (fun he=> ?_)|fail))
  ·exact⟨_,rfl⟩
  ·exact⟨n+k,trivial,by dsimp only at hd;omega,rfl,rfl,rfl⟩
 ·refine gf @hn ?_;exact⟨_,rfl⟩
theorem jD(s:BA)(g:FuncId)(hF: ∀n:Int,EB g [i32 n]):EI 328 [yQ s,.fn (.func g) [] []]:=by
 refine ECall.pure (pv func328 8 false Qf3 rfl rfl ?_);refine g2 ?_;refine ge ?_;(refine g1 ?_;refine zC ((gC s g true hF).call zK Qfc _) (yf0 ?_);rintro p2 h2 ⟨⟨b,rfl,_⟩,rfl⟩);refine ge ?_;exact Qez
theorem rX(s:BA)(g:FuncId)(hF: ∀n:Int,EB g [i32 n]):EB 272 [yQ s,.fn (.func g) [] []]:=by
 refine ECall.pure (pv func272 9 false Qf3 rfl rfl ?_);refine g2 ?_;refine ge ?_;(refine g1 ?_;refine zC ((jD s g hF).call zK Qfc _) (yf0 ?_);rintro p2 h2 ⟨⟨b,rfl,_⟩,rfl⟩);refine ge ?_;exact Qez
theorem zc1(s:BA):EB 194 [yQ s]:=by
 refine ECall.pure (pv func194 30 false Qf3 rfl rfl ?_);refine g2 ?_;by_cases h0:s=⟨#[]⟩
 ·exact Qb3
 have hp:=mN h0;(repeat' (first|refine gz ?_|(refine gn ?_;intro zs zh;(try simp only[go_sem,h0,g0_0,zuJ,zg6] at zh);subst zh;(first|refine gv ?_|((first|refine zC ((wC zm0 _ eI).call zK Qf1 _) ?_|refine zC ((rX s _ jL).call zK Qfc _) ?_);intro p2 h2 hr2;obtain⟨hr2,rfl⟩:=hr2;first|obtain⟨_,rfl,hr2⟩:=hr2|obtain⟨_,rfl⟩:=hr2|subst hr2|skip)|(refine yS (fun he=> ?_) (fun he=> ?_)<;>(try simp only[mM] at he))))|((with_reducible refine tO rfl ?_);intro sr hsr;simp only[sK,wP] at hsr;subst hsr;(fail_if_success(with_reducible(first|refine tL ?_|refine tN ?_)));refine tK (fun he=> ?_) (fun he=> ?_)<;>(intro ts2 hts;simp only[wP] at hts;subst hts;(try simp only[mM] at he)))|fail));all_goals first|(exact⟨⟨⟨_,rfl,trivial⟩,.sc⟩,rfl⟩)|trace_state
theorem qE(v:Vl):EB 142 [.agg v.c]:=by
 refine ECall.cut (R:=fun p _=> ∃b:Bool,p=bo b) (pv func142 30 false Qf3 rfl rfl ?_) Qhk;refine g2 ?_;(repeat' (first|refine gz ?_|(refine gn ?_;intro zs zh;(try simp only[go_sem] at zh);subst zh;(first|refine gv ?_|(refine zC ((zc1 v.s).call zK Qf1 _) ?_;intro p2 h2 hr2;obtain⟨hr2,rfl⟩:=hr2;first|obtain⟨_,rfl,hr2⟩:=hr2|obtain⟨_,rfl⟩:=hr2|subst hr2|skip)|(refine yS (fun he=> ?_) (fun he=> ?_)<;>(try simp only[mM] at he))))|((with_reducible refine tO rfl ?_);intro sr hsr;simp only[sK,wP] at hsr;subst hsr;(fail_if_success(with_reducible(first|refine tL ?_|refine tN ?_)));refine tK (fun he=> ?_) (fun he=> ?_)<;>(intro ts2 hts;simp only[wP] at hts;subst hts;(try simp only[mM] at he)))|fail));all_goals exact⟨_,rfl⟩
abbrev eS:BA:=⟨#[]⟩
theorem za8(s:BA)(hs:s.size<=140737488355328)(a b:Int):EB 339 [yQ s,u8 a,u8 b]:=by
 refine ECall.pure (pv func339 56 false Qf3 rfl rfl ?_);refine g2 ?_;by_cases h0:s=⟨#[]⟩
 ·exact Qb3
 have hp:=mN h0;(have F:=(a2 @h0 @mT);(repeat' (first|refine dR F ?_|refine dQ F (fun he=> ?_) (fun he=> ?_)|fail));all_goals clear F);all_goals first|(exact⟨⟨⟨_,rfl,trivial⟩,.sc⟩,rfl⟩)|skip
 refine zO s.data.toList.length (K4 (.k:: .k:: .d:: .k:: .d::K9 (K9 (K4 (.v::D9 (D9 (D4 (.d:: .d::[])))))))) (own:=false) (fun i (_:Unit)=>[i64 i]) (fun _=>_) (fun _ _=>True) () rfl rfl trivial hs ?_ ?_
 ·exact Qew
 ·exact Qa7
theorem tW(s:BA)(hs:s.size<=140737488355328):EB 290 [yQ s]:=by
 refine ECall.pure (pv func290 5 false Qf3 rfl rfl ?_);refine g2 ?_;refine ge ?_;(refine g1 ?_;refine zC ((za8 s hs _ _).call zK Qf1 _) (yf0 ?_);rintro p2 h2 ⟨⟨b,rfl,_⟩,rfl⟩);refine ge ?_;(exact⟨⟨⟨_,rfl,trivial⟩,.sc⟩,rfl⟩)
theorem vG(s:BA)(hs:s.size<=140737488355328):EB 281 [yQ s]:=by
 refine ECall.pure (pv func281 17 false Qf3 rfl rfl ?_);refine g2 ?_;(repeat' (first|refine gz ?_|(refine gn ?_;intro zs zh;(try simp only[go_sem] at zh);subst zh;(first|refine gv ?_|(refine zC ((za8 s hs _ _).call zK Qf1 _) ?_;intro p2 h2 hr2;obtain⟨hr2,rfl⟩:=hr2;first|obtain⟨_,rfl,hr2⟩:=hr2|obtain⟨_,rfl⟩:=hr2|subst hr2|skip)|(refine yS (fun he=> ?_) (fun he=> ?_)<;>(try simp only[mM] at he))))|((with_reducible refine tO rfl ?_);intro sr hsr;simp only[sK,wP] at hsr;subst hsr;(fail_if_success(with_reducible(first|refine tL ?_|refine tN ?_)));refine tK (fun he=> ?_) (fun he=> ?_)<;>(intro ts2 hts;simp only[wP] at hts;subst hts;(try simp only[mM] at he)))|fail));all_goals (exact⟨⟨⟨_,rfl,trivial⟩,.sc⟩,rfl⟩)
theorem sL(s:BA)(r:Bool)(g:FuncId)(hF:EB g [yQ s]):EB 289 [yQ s,bo r,.fn (.func g) [] []] fun b=>b=true->r=false->s=eS:=by
 refine ECall.pure (pv func289 14 false Qf3 rfl rfl ?_);refine g2 ?_;cases r
 ·by_cases h0:s=eS
  ·subst h0;refine ge ?_;exact⟨⟨⟨_,rfl,fun _ _=>rfl⟩,.sc⟩,rfl⟩
  ·have hb:=Zy h0;refine gf (a2 @h0 @hb) ?_;exact Qbx
 ·refine ge ?_;(refine g1 ?_;refine zC (hF.call zK Qf1 _) (yf0 ?_);rintro p2 h2 ⟨⟨b,rfl,_⟩,rfl⟩);refine ge ?_;exact Qbx
def Vl.ok(v:Vl):Prop:=v.s.size<=140737488355328
structure Tm.ok(t:Tm):Prop where
 v:t.var.size<=140737488355328
 k:t.k.s.size<=140737488355328
theorem eqV(a b c d:Int)(s t:BA):za2 (α:=Prop) prog 168 (.agg [i64 a,i64 b,yQ s]) (.agg [i64 c,i64 d,yQ t])=some (a==c&&(b==d&&(decide (s=t)&&true)),True):=by
 kernel_rfl
theorem bB(t:Tm)(ht:t.ok):EB 292 [.agg t.c]:=by
 refine ECall.cut (R:=fun p _=> ∃b:Bool,p=bo b) (pv func292 18 false Qf3 rfl rfl ?_) Qhk;refine g2 ?_;obtain⟨v,⟨a,b,s⟩⟩:=t;(repeat' (first|refine gz ?_|(refine gn ?_;intro zs zh;(try simp only[go_sem,eqV] at zh);subst zh;(first|refine gv ?_|((first|refine zC ((qE ⟨a,b,s⟩).call zK Qfb _) ?_|refine zC ((tW v ht.v).call zK Qf1 _) ?_);intro p2 h2 hr2;obtain⟨hr2,rfl⟩:=hr2;first|obtain⟨_,rfl,hr2⟩:=hr2|obtain⟨_,rfl⟩:=hr2|subst hr2|skip)|(refine yS (fun he=> ?_) (fun he=> ?_)<;>(try simp only[mM] at he))))|((with_reducible refine tO rfl ?_);intro sr hsr;simp only[sK,wP] at hsr;subst hsr;(fail_if_success(with_reducible(first|refine tL ?_|refine tN ?_)));refine tK (fun he=> ?_) (fun he=> ?_)<;>(intro ts2 hts;simp only[wP] at hts;subst hts;(try simp only[mM] at he)))|fail));all_goals first|exact⟨_,rfl⟩|trace_state
structure Li.ok(l:Li):Prop where
 n:l.name.size<=140737488355328
 b:l.bind.size<=140737488355328
 e:l.elem.size<=140737488355328
 al:l.args.length<=140737488355328
 a: ∀t∈l.args,t.ok
structure Li.fm(l:Li):Prop where
 a:l.args.length<=4
 c:l.kind=5->l.args.length=2
 b:l.bind≠eS->l.kind=1
theorem zuN(l:List Tm): ∀x∈l, ∀p∈([.agg x.c]:List PV),Tree p:=by simp[zJ]
theorem zjN(l:Li)(hl:l.ok):EB 294 [.agg l.c] fun b=>b=true->l.fm:=by
 refine ECall.cut (R:=fun p _=> ∃b:Bool,p=bo b/\(b=true->l.fm)) (pv func294 78 false Qf3 rfl rfl ?_) Qhb;refine g2 ?_;obtain⟨kind,name,pred,args,bind,elem,least,op,at'⟩:=l;obtain⟨h1,h2,h3,h4,h5⟩:=hl;dsimp only at h1 h2 h3 h4 h5;have hall:=zhX args (fun _=>True) 4 292 [] h4 (fun x hx=>(bB x (h5 x hx)).mono Qho) (zuN args);(repeat' (first|refine gz ?_|(refine gn ?_;intro zs zh;(try simp only[go_sem] at zh);subst zh;(first|refine gv ?_|((first|refine zC (hall.call zK Qfm _) ?_|refine zC ((sL name _ _ (vG name h1)).call zK Qfc _) ?_|refine zC ((sL elem _ _ (vG elem h3)).call zK Qfc _) ?_|refine zC ((sL bind _ _ (tW bind h2)).call zK Qfc _) ?_);intro p2 h2 hr2;obtain⟨hr2,rfl⟩:=hr2;first|obtain⟨_,rfl,hr2⟩:=hr2|obtain⟨_,rfl⟩:=hr2|subst hr2|skip)|(refine yS (fun he=> ?_) (fun he=> ?_)<;>(try simp only[mM] at he))))|((with_reducible refine tO rfl ?_);intro sr hsr;simp only[sK,wP] at hsr;subst hsr;(fail_if_success(with_reducible(first|refine tL ?_|refine tN ?_)));refine tK (fun he=> ?_) (fun he=> ?_)<;>(intro ts2 hts;simp only[wP] at hts;subst hts;(try simp only[mM] at he)))|fail));all_goals try(exact⟨false,rfl,Qf1⟩)
 all_goals (refine⟨_,rfl,fun _=>⟨?_,fun hk=> ?_,fun hb=> ?_⟩⟩<;>clear hall<;>dsimp only at* <;>grind)
end Go.AL
