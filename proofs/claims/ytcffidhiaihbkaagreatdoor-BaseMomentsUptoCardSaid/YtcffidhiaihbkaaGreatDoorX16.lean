/-
  The library's functions over slices, at the program's types: where a property holds.
-/
import Derived.Test.YtcffidhiaihbkaaGreatDoorX15
import Derived.Lib.TrailingZeros
import Derived.Laws.Bits64b
import Derived.Laws.BitsAllLaws
set_option linter.unusedSimpArgs false
set_option linter.unusedVariables false
set_option maxRecDepth 100000
set_option maxHeartbeats 4000000
namespace Go.AL
abbrev BA:=ByteArray
abbrev yQ (s:BA):PV:= .sc (.string s)
abbrev rR (l:List BA):PV:= .ts 1 (l.map fun s=>[yQ s])
abbrev vF (l:List Int):PV:= .ts 1 (l.map fun n=>[i64 n])
structure Vl where
 t:Int
 n:Int
 s:BA
@[reducible] def Vl.c (v:Vl):List PV:=[i64 v.t,i64 v.n,yQ v.s]
abbrev pH (l:List Vl):PV:= .ts 3 (l.map Vl.c)
structure Sp where
 a:Int
 b:Int
@[reducible] def Sp.c (v:Sp):List PV:=[i64 v.a,i64 v.b]
abbrev kJ (l:List Sp):PV:= .ts 2 (l.map Sp.c)
structure Rw where
 args:List Vl
 w:List Sp
@[reducible] def Rw.c (v:Rw):List PV:=[pH v.args,kJ v.w]
abbrev uN (l:List Rw):PV:= .ts 2 (l.map Rw.c)
structure Ce where
 a:Int
 b:Int
 e:Int
@[reducible] def Ce.c (v:Ce):List PV:=[i64 v.a,i64 v.b,i64 v.e]
abbrev ces (l:List Ce):PV:= .ts 3 (l.map Ce.c)
structure LRw where
 args:List Vl
 cs:List Ce
@[reducible] def LRw.c (v:LRw):List PV:=[pH v.args,ces v.cs]
abbrev vD (l:List LRw):PV:= .ts 2 (l.map LRw.c)
structure Dt where
 rels:List (List Rw)
 lats:List (List LRw)
@[reducible] def Dt.c (v:Dt):List PV:=[.ts 1 (v.rels.map fun r=>[uN r]),.ts 1 (v.lats.map fun r=>[vD r])]
structure La where
 name:BA
 elems:List BA
 covers:List (Int×Int)
 at':Int
@[reducible] def La.c (v:La):List PV:=[yQ v.name,rR v.elems,.ts 2 (v.covers.map fun c=>[i64 c.1,i64 c.2]),i64 v.at']
structure Fu where
 name:BA
 lat:BA
 of':Int
 fr:List BA
 to:List BA
 table:List Int
 at':Int
@[reducible] def Fu.c (v:Fu):List PV:=[yQ v.name,yQ v.lat,i64 v.of',rR v.fr,rR v.to,vF v.table,i64 v.at']
structure Pd where
 name:BA
 types:List Int
 lat:BA
 of':Int
 base:Bool
 key:Int
 at':Int
@[reducible] def Pd.c (v:Pd):List PV:=[yQ v.name,vF v.types,yQ v.lat,i64 v.of',bo v.base,i64 v.key,i64 v.at']
structure Tm where
 var:BA
 k:Vl
@[reducible] def Tm.c (v:Tm):List PV:=[yQ v.var,i64 v.k.t,i64 v.k.n,yQ v.k.s]
abbrev mI (l:List Tm):PV:= .ts 4 (l.map Tm.c)
structure Li where
 kind:Int
 name:BA
 pred:Int
 args:List Tm
 bind:BA
 elem:BA
 least:Int
 op:Int
 at':Int
@[reducible] def Li.c (v:Li):List PV:=[i64 v.kind,yQ v.name,i64 v.pred,mI v.args,yQ v.bind,yQ v.elem,i64 v.least,i64 v.op,i64 v.at']
structure El where
 kind:Int
 name:BA
 var:BA
 ix:Int
@[reducible] def El.c (v:El):List PV:=[i64 v.kind,yQ v.name,yQ v.var,i64 v.ix]
structure Ru where
 name:BA
 pred:Int
 args:List Tm
 elem:El
 body:List Li
 at':Int
@[reducible] def Ru.c (v:Ru):List PV:=[yQ v.name,i64 v.pred,mI v.args,i64 v.elem.kind,yQ v.elem.name,yQ v.elem.var,i64 v.elem.ix,.ts 9 (v.body.map Li.c),i64 v.at']
structure Pg where
 lats:List La
 funs:List Fu
 preds:List Pd
 rules:List Ru
@[reducible] def Pg.c (v:Pg):List PV:=[.ts 4 (v.lats.map La.c),.ts 7 (v.funs.map Fu.c),.ts 7 (v.preds.map Pd.c),.ts 9 (v.rules.map Ru.c)]
structure Op1 where
 kind:Int
 pred:Int
 args:List Vl
 elem:Int
 span:Sp
@[reducible] def Op1.c (v:Op1):List PV:=[i64 v.kind,i64 v.pred,pH v.args,i64 v.elem,i64 v.span.a,i64 v.span.b]
abbrev lJ (l:List Op1):PV:= .ts 6 (l.map Op1.c)
structure Co where
 ops:List Op1
 merged:Int
 parent:Int
@[reducible] def Co.c (v:Co):List PV:=[lJ v.ops,i64 v.merged,i64 v.parent]
structure Br where
 name:BA
 last:Int
@[reducible] def Br.c (v:Br):List PV:=[yQ v.name,i64 v.last]
structure Rp where
 cs:List Co
 bs:List Br
@[reducible] def Rp.c (v:Rp):List PV:=[.ts 3 (v.cs.map Co.c),.ts 2 (v.bs.map Br.c)]
@[simp] theorem tr_i64 {n:Int}:Tree (i64 n)↔True:=oN
@[simp] theorem tr_bo {n:Bool}:Tree (bo n)↔True:=oN
@[simp] theorem tr_str {n:BA}:Tree (yQ n)↔True:=oN
@[simp] theorem tr_map {α:Type} {k:Nat} {l:List α} {f:α→List PV}:Tree (.ts k (l.map f))↔ ∀ x∈l, ∀ p∈f x,Tree p:=by
 rw [xX]
 simp only [List.forall_mem_map]
end Go.AL
namespace Go.AL
end Go.AL
namespace Go.AL
open Go.Proofs Go.Proofs.Tryz
abbrev EB (f:FuncId) (args:List PV) (K:Bool→Prop:=fun _=>True):Prop:=EPure prog G0 f args fun p=> ∃ b,p=bo b∧K b
abbrev EI (f:FuncId) (args:List PV) (K:Int→Prop:=fun _=>True):Prop:=EPure prog G0 f args fun p=> ∃ n,p=i64 n∧K n
theorem mN {s:BA} (h: ¬s=⟨#[]⟩):0<s.size:=by
 rcases Nat.eq_zero_or_pos s.size with h0|h0
 ·exact absurd (ByteArray.ext (Array.eq_empty_of_size_eq_zero h0)) h
 ·exact h0
def ziC (c:UInt8):List PV:=[.sc (.int .u8 c.toNat)]
theorem mT (s:BA):xH s=s.data.toList.map ziC:=rfl
end Go.AL
namespace Go.AL
def zm0:List BA:=["lattice".toUTF8, "function".toUTF8, "on".toUTF8, "base".toUTF8, "view".toUTF8, "key".toUTF8, "deny".toUTF8, "not".toUTF8, "int".toUTF8, "sym".toUTF8]
theorem g0_0:G0 0=some (zm0.map yQ):=rfl
theorem g0_1:G0 1=some [rR zm0]:=rfl
theorem eI:zm0.length≤140737488355328:=by decide
end Go.AL
namespace Go.AL
abbrev u8 (n:Int):PV:= .sc (.int .u8 n)
abbrev u64 (n:Int):PV:= .sc (.int .u64 n)
theorem yU {α:Type} (f:α→PV) (l:List α) (n:Nat) (d:PV) (h:n<l.length):((l.map f).drop n).getD 0 d=f l[n]:=fD d h
theorem zA (h:Heap) (b:Blk):(h++[b])[h.length]? =some b:=by simp
theorem zD (h:Heap) (b c:Blk):(h++[b]).set h.length c=h++[c]:=by simp
end Go.AL
namespace Go.AL
structure La.ok (l:La):Prop where
 n:l.name.size≤140737488355328
 e:l.elems.length≤140737488355328
 s: ∀ s∈l.elems,s.size≤140737488355328
 c:l.covers.length≤140737488355328
theorem kK {s:List Int} (h:s.length=8):(s.map u8).take 8=s.map u8:=List.take_of_length_le (by simp [h])
theorem zbD {s:List Int} {j:Nat} (h:j<s.length) (v:Int):(s.map u8).take j++u8 v::(s.map u8).drop (j+1)=(s.set j v).map u8:=wY u8 s j v h
end Go.AL
namespace Go.AL
theorem xO {α β:Type} (f:α→β) (l:List α) (n:Nat):(l.map f).take n=(l.take n).map f:=List.map_take.symm
@[simp] theorem tr_u8 {n:Int}:Tree (u8 n)↔True:=oN
@[simp] theorem tr_u64 {n:Int}:Tree (u64 n)↔True:=oN
theorem qM {s:List Int}:Tree (.agg (s.map u8)):=zJ.2 fun p hp=>by
 obtain ⟨x,_,rfl⟩:=List.mem_map.1 hp
 exact .sc
theorem oM {k:Nat} {els:List (List PV)}:Tree (.tc k els)↔ ∀ e∈els, ∀ p∈e,Tree p:=⟨fun h=>by cases h with|tc h=>exact h,.tc⟩
end Go.AL
namespace Go.AL
theorem zdI:maxLen=9223372036854775807:=rfl
theorem cY:IntKind.u64.min=0:=by decide
theorem cZ:IntKind.u64.max=18446744073709551615:=by decide
theorem zfU:IntKind.i32.min= -2147483648:=by decide
theorem zfV:IntKind.i32.max=2147483647:=by decide
attribute [go_sem] cY cZ zfU zfV Nat.mul_one Nat.one_mul List.length_drop Nat.sub_pos_iff_lt List.append_assoc vU qC sK wO yI rA vA zcL oL wV nI zeV zZ List.set vL wE true_and and_true and_self if_true if_false ite_true ite_false zhI zhJ zlC zlD Int.reduceLE Int.reduceLT Int.reduceNeg List.getD_cons_succ List.getD_cons_zero List.getElem?_cons_zero List.getElem?_cons_succ List.getElem?_nil Option.bind_some Option.map_some Option.map_none Option.bind_none Option.isSome_some Option.isSome_none Option.isNone_some Option.isNone_none Option.getD_some pI zcM zaG zk5 yV List.length_map List.length_cons List.length_nil List.length_replicate List.length_append Nat.reduceAdd Nat.reduceSub Nat.reduceMul Nat.reduceLT Nat.reduceLeDiff Nat.reduceEqDiff Nat.zero_add Nat.add_zero Nat.zero_mul Nat.lt_add_one Nat.zero_lt_succ zeX Bool.true_eq_false Bool.false_eq_true Bool.not_true Bool.not_false Bool.and_true Bool.true_and Bool.and_false Bool.false_and false_implies implies_true true_implies forall_const ne_eq not_true_eq_false not_false_eq_true decide_true decide_false reduceCtorEq eq_self dG cond_true cond_false wI xD splice List.take_succ_cons List.take_zero List.take_nil List.drop_succ_cons List.drop_zero List.drop_nil List.nil_append List.cons_append List.append_nil List.map_cons List.map_nil List.all_cons List.all_nil kB lM rH rO oR aA zk2 zcU zaR jA List.flatten_cons List.flatten_nil Int.toNat_natCast Int.ofNat_lt Int.ofNat_le decide_eq_true_eq and_false false_and or_true true_or or_false false_or pJ List.contains_cons List.contains_nil Nat.reduceBEq Nat.reduceBNe Bool.or_true Bool.true_or Bool.or_false Bool.false_or nV qD nW List.toList_toArray tint8 exists_eq_left exists_eq_left' exists_eq_right Int.reduceToNat lG zj5 zfM zlU zi5 zdG beq_self_eq_true rY List.replicate_succ List.replicate_zero vI pA DPlan.at rI only kI nu List.foldl_nil List.foldl_cons List.filter_nil vH List.set_cons_zero List.set_cons_succ List.size_toArray zdI
end Go.AL
namespace Go.AL
open Go.Proofs Go.Proofs.Tryz
def rJ (a b:Int):Int:=if a<b then -1 else if b<a then 1 else 0
def vZ {α:Type} (f:α→α→Int):List α→List α→Int
 | [],[]=>0
 | [],_::_=> -1
 |_::_,[]=>1
 |x::xs,y::ys=>if f x y=0 then vZ f xs ys else f x y
def bT (x y:UInt8):Int:=rJ x.toNat y.toNat
def znM (s t:BA):Int:=vZ bT s.data.toList t.data.toList
def iU (a b:Vl):Int:=if rJ a.t b.t=0 then (if rJ a.n b.n=0 then znM a.s b.s else rJ a.n b.n) else rJ a.t b.t
def sD (a b:List Vl):Int:=vZ iU a b
theorem cW {α:Type} (f:α→α→Int) (b:List α) (n:Nat) (h:n≤b.length):vZ f [] (b.drop n)=rJ n b.length:=by
 unfold rJ
 rcases Nat.lt_or_ge n b.length with h1|h1
 ·rw [List.drop_eq_getElem_cons h1,if_pos (by omega)];rfl
 ·rw [List.drop_eq_nil_of_le h1,if_neg (by omega),if_neg (by omega)];rfl
theorem zfZ (a:Int):EPure prog G0 213 [i64 a] fun p=>p=bo false:=by
 refine ECall.pure (pv func213 6 false (by kernel_rfl) rfl rfl ?_)
 refine g2 ?_
 refine ge ?_
 exact ⟨⟨by simp,.sc⟩,rfl⟩
theorem qX (a b:Int):EPure prog G0 185 [i64 a,i64 b] fun p=>p=i64 (rJ a b):=by
 refine ECall.pure (pv func185 20 false (by kernel_rfl) rfl rfl ?_)
 refine g2 ?_
 (repeat' (first|refine gz ?_|(refine gn ?_;intro zs zh;(try simp only [go_sem] at zh);subst zh;(first|refine gv ?_|(refine zC ((zfZ _).call zK (by simp) _) ?_;intro p2 h2 hr2;obtain ⟨hr2,rfl⟩:=hr2;first|obtain ⟨_,rfl,hr2⟩:=hr2|obtain ⟨_,rfl⟩:=hr2|subst hr2|skip)|(refine yS (fun he=> ?_) (fun he=> ?_)<;>(try simp only [mM] at he))))|((with_reducible refine tO rfl ?_);intro sr hsr;simp only [sK,wP] at hsr;subst hsr;(fail_if_success (with_reducible (first|refine tL ?_|refine tN ?_)));refine tK (fun he=> ?_) (fun he=> ?_)<;>(intro ts2 hts;simp only [wP] at hts;subst hts;(try simp only [mM] at he)))|fail))
 ·exact ⟨⟨by rw [rJ,if_pos he],.sc⟩,rfl⟩
 ·exact ⟨⟨by rw [rJ,if_neg (by omega),if_pos he],.sc⟩,rfl⟩
 ·exact ⟨⟨by rw [rJ,if_neg (by omega),if_neg he],.sc⟩,rfl⟩
theorem zdQ (a:Int):EPure prog G0 214 [u8 a] fun p=>p=bo false:=by
 refine ECall.pure (pv func214 6 false (by kernel_rfl) rfl rfl ?_)
 refine g2 ?_
 refine ge ?_
 exact ⟨⟨by simp,.sc⟩,rfl⟩
theorem dY (a b:Int):EPure prog G0 188 [u8 a,u8 b] fun p=>p=i64 (rJ a b):=by
 refine ECall.pure (pv func188 20 false (by kernel_rfl) rfl rfl ?_)
 refine g2 ?_
 (repeat' (first|refine gz ?_|(refine gn ?_;intro zs zh;(try simp only [go_sem] at zh);subst zh;(first|refine gv ?_|(refine zC ((zdQ _).call zK (by simp) _) ?_;intro p2 h2 hr2;obtain ⟨hr2,rfl⟩:=hr2;first|obtain ⟨_,rfl,hr2⟩:=hr2|obtain ⟨_,rfl⟩:=hr2|subst hr2|skip)|(refine yS (fun he=> ?_) (fun he=> ?_)<;>(try simp only [mM] at he))))|((with_reducible refine tO rfl ?_);intro sr hsr;simp only [sK,wP] at hsr;subst hsr;(fail_if_success (with_reducible (first|refine tL ?_|refine tN ?_)));refine tK (fun he=> ?_) (fun he=> ?_)<;>(intro ts2 hts;simp only [wP] at hts;subst hts;(try simp only [mM] at he)))|fail))
 ·exact ⟨⟨by rw [rJ,if_pos he],.sc⟩,rfl⟩
 ·exact ⟨⟨by rw [rJ,if_neg (by omega),if_pos he],.sc⟩,rfl⟩
 ·exact ⟨⟨by rw [rJ,if_neg (by omega),if_neg he],.sc⟩,rfl⟩
theorem zj4 (a b:Int):EPure prog G0 187 [u8 a,u8 b] fun p=>p=i64 (rJ a b):=by
 refine ECall.pure (pv func187 8 false (by kernel_rfl) rfl rfl ?_)
 refine g2 ?_
 refine ge ?_
 (refine g1 ?_;refine zC ((dY a b).call zK (by simp) _) ?_;intro p2 h2 hr2;refine g2 ?_)
 obtain ⟨rfl,rfl⟩:=hr2
 refine ge ?_
 exact ⟨⟨rfl,.sc⟩,rfl⟩
theorem gY {α:Type} (f:α→α→Int) (a b:List α) (i:Nat) (ha:i<a.length) (hb:i<b.length) (h:f a[i] b[i]=0):vZ f (a.drop i) (b.drop i)=vZ f (a.drop (i+1)) (b.drop (i+1)):=by
 rw [List.drop_eq_getElem_cons ha,List.drop_eq_getElem_cons hb]
 simp [vZ,h]
theorem cV {α:Type} (f:α→α→Int) (a b:List α) (i:Nat) (ha:i<a.length) (hb:i<b.length) (h:f a[i] b[i]≠0):vZ f (a.drop i) (b.drop i)=f a[i] b[i]:=by
 rw [List.drop_eq_getElem_cons ha,List.drop_eq_getElem_cons hb]
 simp [vZ,h]
theorem gZ {α:Type} (f:α→α→Int) (a b:List α) (i:Nat) (ha:i<a.length) (hb:b.length≤i):vZ f (a.drop i) (b.drop i)=1:=by
 rw [List.drop_eq_getElem_cons ha,List.drop_eq_nil_of_le hb];rfl
theorem zdJ (a b:List UInt8) (ha:a.length≤140737488355328) (hb:b.length≤140737488355328):EPure prog G0 186 [.ts 1 (a.map ziC),.ts 1 (b.map ziC),.fn (.func 187) [] []] fun p=>p=i64 (vZ bT a b):=by
 refine ECall.pure (pv func186 37 false (by kernel_rfl) rfl rfl ?_)
 refine g2 ?_
 refine ge ?_
 refine zO a.length (K4 (.k:: .k::D4 (.k:: .k:: .v::D9 (D9 (.d::K4 (.k::[])))))) (own:=false) (fun i (_:Unit)=>[i64 i]) (fun _=>_) (fun i _=>i≤b.length∧vZ bT a b=vZ bT (a.drop i) (b.drop i)) () rfl rfl ⟨Nat.zero_le _,rfl⟩ ha ?_ ?_
 ·rintro _ ⟨hib,hI⟩
  refine gm ?_
  refine gf @zM ?_
  (refine g1 ?_;refine zC ((qX a.length b.length).call zK (by simp) _) ?_;intro p2 h2 hr2;refine g2 ?_)
  obtain ⟨rfl,rfl⟩:=hr2
  refine ge ?_
  refine ⟨⟨?_,.sc⟩,rfl⟩
  rw [hI,List.drop_length,cW _ _ _ hib]
 ·rintro i _ hi hw ⟨hib,hI⟩
  refine gm ?_
  have hg:=zG (f:=ziC) [] hi
  rcases Nat.lt_or_ge i b.length with hlb|hge
  ·have hne:((i:Int)==(b.length:Int))=false:=by simp;omega
   have hgb:=zG (f:=ziC) [] hlb
   (repeat (first|refine gz ?_|(refine gn ?_;intro zs zh;(try simp only [go_sem,hi,hw,hg,zB,hne,hgb,ziC,hlb] at zh);subst zh;refine gv ?_)))
   (refine ns ?_;intro zs zh;simp only [go_sem,ziC] at zh;subst zh;refine zC ((zj4 _ _).call zK (by simp) _) ?_;intro p2 h2 hr2 ts2 hts;simp only [go_sem] at hts;subst hts)
   obtain ⟨rfl,rfl⟩:=hr2
   have hc:rJ a[i].toNat b[i].toNat=bT a[i] b[i]:=rfl
   by_cases h0:bT a[i] b[i]=0
   ·(repeat (first|refine gz ?_|(refine gn ?_;intro zs zh;(try simp only [go_sem,hc,h0,hw,bne_self_eq_false] at zh);subst zh;refine gv ?_)))
    exact ⟨(),⟨hlb,by rw [hI,gY _ _ _ _ hi hlb h0]⟩,rfl,rfl,rfl⟩
   ·have hb0:(bT a[i] b[i]!=0)=true:=by simp [h0]
    refine gf (a2 @hc @hb0) ?_
    exact ⟨⟨by rw [hI,cV _ _ _ _ hi hlb h0],.sc⟩,rfl⟩
  ·have he:i=b.length:=by omega
   have hne:((i:Int)==(b.length:Int))=true:=by simp;omega
   (repeat (first|refine gz ?_|(refine gn ?_;intro zs zh;(try simp only [go_sem,hi,hw,hg,zB,hne,ziC] at zh);subst zh;refine gv ?_)))
   exact ⟨⟨by rw [hI,gZ _ _ _ _ hi hge],.sc⟩,rfl⟩
end Go.AL
namespace Go.AL
open Go.Proofs Go.Proofs.Tryz
@[go_sem] def UVal2f138.pl:Nat→DPlan
 |6=>⟨[yA,yB,yA,yA,yA,yB,yC,yA],zqS,0⟩
 |_=>⟨[],[],0⟩
theorem zj3 (a b:Vl) (ha:a.s.size≤140737488355328) (hb:b.s.size≤140737488355328):EPure prog G0 139 [.agg a.c,.agg b.c] fun p=>p=i64 (iU a b):=by
 refine ECall.cut (R:=fun p _=>p=i64 (iU a b)) (pv func139 30 false (by kernel_rfl) rfl rfl ?_) (by rintro p h rfl;rfl)
 refine g2 ?_
 refine ge ?_
 (refine g1 ?_;refine zC ((qX _ _).call zK (by simp) _) ?_;intro p2 h2 hr2;refine g2 ?_)
 obtain ⟨rfl,rfl⟩:=hr2
 by_cases h0:rJ a.t b.t=0
 ·(repeat (first|refine gz ?_|(refine gn ?_;intro zs zh;(try simp only [go_sem,h0,bne_self_eq_false] at zh);subst zh;refine gv ?_)))
  (refine g1 ?_;refine zC ((qX _ _).call zK (by simp) _) ?_;intro p2 h2 hr2;refine g2 ?_)
  obtain ⟨rfl,rfl⟩:=hr2
  by_cases h1:rJ a.n b.n=0
  ·(repeat (first|refine gz ?_|(refine gn ?_;intro zs zh;(try simp only [go_sem,h1,bne_self_eq_false,mT] at zh);subst zh;refine gv ?_)))
   (refine g1f @mT ?_;refine zC ((zdJ _ _ ha hb).call zK (by simp [yO,ziC]) _) ?_;intro p2 h2 hr2;refine g2 ?_)
   obtain ⟨rfl,rfl⟩:=hr2
   refine ge ?_
   rw [iU,if_pos h0,if_pos h1];rfl
  ·have hb:(rJ a.n b.n !=0)=true:=by simp [h1]
   refine gf @hb ?_
   rw [iU,if_pos h0,if_neg h1]
 ·have hb:(rJ a.t b.t !=0)=true:=by simp [h0]
  refine gf @hb ?_
  rw [iU,if_neg h0]
open UVal2f138 in
theorem zdK (a b:List Vl) (ha:a.length≤140737488355328) (hb:b.length≤140737488355328) (ha2: ∀ v∈a,v.s.size≤140737488355328) (hb2: ∀ v∈b,v.s.size≤140737488355328):
  EPure prog G0 138 [pH a,pH b,.fn (.func 139) [] []] fun p=>p=i64 (sD a b):=by
 refine ECall.cut (R:=fun p _=>p=i64 (sD a b)) (pv func138 37 false (by kernel_rfl) rfl rfl ?_) (by rintro p h rfl;rfl)
 refine g2 ?_
 refine ge ?_
 refine zO a.length (K4 (.k:: .k::D4 (.k:: .k:: .v::D9 (D9 (.d::K4 (.k::[])))))) (own:=false) (fun i (_:Heap)=>[i64 i]) (fun J=>J) (fun i _=>i≤b.length∧sD a b=vZ iU (a.drop i) (b.drop i)) _ rfl rfl ⟨Nat.zero_le _,rfl⟩ ha ?_ ?_
 ·rintro J ⟨hib,hI⟩
  refine gm ?_
  refine gf @zM ?_
  (refine g1 ?_;refine zC ((qX a.length b.length).call zK (by simp) _) ?_;intro p2 h2 hr2;refine g2 ?_)
  obtain ⟨rfl,rfl⟩:=hr2
  refine ge ?_
  rw [hI,List.drop_length,cW _ _ _ hib]
 ·rintro i J hi hw ⟨hib,hI⟩
  refine gm ?_
  have hg:=zG (f:=Vl.c) [] hi
  rcases Nat.lt_or_ge i b.length with hlb|hge
  ·have hne:((i:Int)==(b.length:Int))=false:=by simp;omega
   have hgb:=zG (f:=Vl.c) [] hlb
   refine gf (a9 @hi @hw @hg @zB @hne @hgb @hlb @zA @zD) ?_
   (refine zF rfl rfl rfl ?_;intro zs zh;simp only [go_sem,hgb] at zh;subst zh;refine zP (by decide) (by decide) ((zj3 a[i] b[i] (ha2 _ (List.getElem_mem hi)) (hb2 _ (List.getElem_mem hlb))).call zK (by simp [zJ]) _) ?_;intro p2 h2 hr2 ts2 hts;simp only [go_sem] at hts;subst hts)
   obtain ⟨rfl,rfl⟩:=hr2
   by_cases h0:iU a[i] b[i]=0
   ·(repeat (first|refine gz ?_|(refine gn ?_;intro zs zh;(try simp only [go_sem,h0,hw,bne_self_eq_false] at zh);subst zh;refine gv ?_)|refine yD UVal2f138.pl ?_))
    exact ⟨_,⟨hlb,by rw [hI,gY _ _ _ _ hi hlb h0]⟩,rfl,rfl,rfl⟩
   ·have hb0:(iU a[i] b[i]!=0)=true:=by simp [h0]
    refine gf @hb0 ?_
    rw [hI,cV _ _ _ _ hi hlb h0]
  ·have he:i=b.length:=by omega
   have hne:((i:Int)==(b.length:Int))=true:=by simp;omega
   refine gf (a7 @hi @hw @hg @zB @hne @zA @zD) ?_
   rw [hI,gZ _ _ _ _ hi hge]
theorem zb6 (a b:List Vl) (ha:a.length≤140737488355328) (hb:b.length≤140737488355328) (ha2: ∀ v∈a,v.s.size≤140737488355328) (hb2: ∀ v∈b,v.s.size≤140737488355328):
  EPure prog G0 95 [pH a,pH b] fun p=>p=i64 (sD a b):=by
 refine ECall.pure (pv func95 8 false (by kernel_rfl) rfl rfl ?_)
 refine g2 ?_
 refine ge ?_
 (refine g1 ?_;refine zC ((zdK a b ha hb ha2 hb2).call zK (by simp [yO]) _) ?_;intro p2 h2 hr2;refine g2 ?_)
 obtain ⟨rfl,rfl⟩:=hr2
 refine ge ?_
 exact ⟨⟨rfl,.sc⟩,rfl⟩
end Go.AL
namespace Go.AL
open Go.Proofs Go.Proofs.Tryz
@[go_sem] def UInt1f97.pl:Nat→DPlan
 |6=>⟨[yA,yA,yA,yB,yA,yA,yA,yB,yA],uW,0⟩
 |_=>⟨[],[],0⟩
theorem eqSp (a b c d:Int):sE (α:=Prop) prog 36 (.agg [i64 a,i64 b]) (.agg [i64 c,i64 d])=some (a==c&&(b==d&&true),True):=by
 kernel_rfl
theorem ziK (n:Nat) (hn:n<18446744073709551616) (h0: ¬n=0): ∃ k j:Nat,k=Go.Lib.ctz 64 n∧k<64∧j<64∧IntKind.u64.wrap (bits BinOp.and IntKind.u64 (↑n) (IntKind.u64.wrap (0- ↑n))*285870213051353865) / 2 ^ min 58 64=(j:Int)∧Go.Lib.deBruijn64tab.getD j 0=k:=by
 have e0:(2:Nat) ^ 64=18446744073709551616:=by decide
 obtain ⟨hlow,hk⟩:=Go.Lib.lowest_bit 64 n h0 (by rw [e0];exact hn)
 obtain ⟨hj,hdb⟩:=Go.Lib.deBruijn64_at _ hk
 generalize hkk:Go.Lib.ctz 64 n=k at*
 rw [e0] at hlow
 have e1:IntKind.u64.wrap (0- ↑n)=((18446744073709551616-n:Nat):Int):=by rw [IntKind.wrap_u64];omega
 have e2:(2:Int) ^ min 58 64=288230376151711744:=by rw [show min 58 64=58 from rfl];simp
 generalize hx:2 ^ k=x at*
 refine ⟨k,x*285870213051353865%18446744073709551616 / 288230376151711744,rfl,hk,hj,?_,hdb⟩
 rw [e1,bits_and_u64_nat n _ hn (by omega),hlow,IntKind.wrap_u64,e2,Int.natCast_ediv,Int.natCast_emod,Int.natCast_mul]
 simp only [Int.cast_ofNat_Int]
theorem isS5:(prog.underlying 5).isSome=true:=by kernel_rfl
theorem db_is:db=Go.Lib.deBruijn64tab.map fun x:Nat=>u8 x:=rfl
theorem zmJ:db.length=64:=rfl
theorem db_at (j k:Nat) (hj:j<64) (h:Go.Lib.deBruijn64tab.getD j 0=k):(db.drop j).getD 0 .un=u8 k:=by
 have hl:j<Go.Lib.deBruijn64tab.length:=hj
 rw [db_is,yU _ _ _ _ hl, ←h,List.getD_eq_getElem?_getD,List.getElem?_eq_getElem hl];rfl
theorem zk6 (n:Nat) (hn:n<18446744073709551616):EPure prog G0 189 [u64 n] fun p=>p=i64 (Go.Lib.ctz 64 n):=by
 refine ECall.pure (pv func189 14 false (by kernel_rfl) rfl rfl ?_)
 refine g2 ?_
 by_cases h0:n=0
 ·subst h0
  (repeat (first|refine gz ?_|(refine gn ?_;intro zs zh;(try simp only [go_sem,Int.cast_ofNat_Int,beq_self_eq_true,Int.natCast_zero] at zh);subst zh;refine gv ?_)))
  exact ⟨⟨rfl,.sc⟩,rfl⟩
 ·have hb:((n:Int)==0)=false:=by simp [h0]
  obtain ⟨k,j,hkk,hk,hj,hE,hjk⟩:=ziK n hn h0
  have hD:=db_at j k hj hjk
  rw [←hkk]
  have hG:G0 2=some db:=rfl
  have hj2:((j:Nat):Int)<64:=by omega
  have hw:IntKind.i64.wrap (k:Int)=k:=xM (by omega) (by omega)
  refine gf (a9 @hb @hE @hG @hD @zmJ @zB @hj2 @hw @isS5) ?_
  exact ⟨⟨rfl,.sc⟩,rfl⟩
end Go.AL
namespace Go.AL
open Go.Proofs Go.Proofs.Tryz
@[go_sem] def UInt2f73.pp:Nat→DPlan
 |5=>⟨[yA,yA,yB,uX,yA,yB,yC,yA,yA,yA],xS,0⟩
 |_=>⟨[],[],0⟩
@[go_sem] def UInt2f73.pl:Nat→DPlan
 |5=>⟨[yA,yA,yB,⟨6,0,[1005]⟩,yA,⟨7,0,[1005]⟩,yC,yA,yA,yA],xS,0⟩
 |_=>⟨[],[],0⟩
end Go.AL
namespace Go.AL
open Go.Proofs Go.Proofs.Tryz
theorem bH (x:Nat) (h0:x≠0) (h:x<2 ^ 64): ∃ m,x=2 ^ Go.Lib.ctz 64 x*(2*m+1)∧Go.Lib.ctz 64 x<64:=by
 unfold Go.Lib.ctz
 rw [if_neg h0]
 exact Go.Lib.ctzFrom_spec 64 x (by omega) h
theorem zeY (y:Nat) (hy:y<2 ^ 64):(2 ^ 64-1) ^^^ y=2 ^ 64-1-y:=by
 have h1:(BitVec.allOnes 64 ^^^ BitVec.ofNat 64 y).toNat=(2 ^ 64-1) ^^^ y:=by
  rw [BitVec.toNat_xor,BitVec.toNat_allOnes,BitVec.toNat_ofNat,Nat.mod_eq_of_lt hy]
 have h2:(~~~ (BitVec.ofNat 64 y)).toNat=2 ^ 64-1-y:=by
  rw [BitVec.toNat_not,BitVec.toNat_ofNat,Nat.mod_eq_of_lt hy]
 rw [←h1, ←h2,BitVec.not_def]
theorem zc8 (w a:Nat) (hw:w<2 ^ 64) (ha:a<64) (hx:w / 2 ^ a≠0):
  a+Go.Lib.ctz 64 (w / 2 ^ a)<64∧w / 2 ^ (a+Go.Lib.ctz 64 (w / 2 ^ a))<2 ^ 64∧1≤Go.Lib.ctz 64 (2 ^ 64-1-w / 2 ^ (a+Go.Lib.ctz 64 (w / 2 ^ a)))∧
   a+Go.Lib.ctz 64 (w / 2 ^ a)+Go.Lib.ctz 64 (2 ^ 64-1-w / 2 ^ (a+Go.Lib.ctz 64 (w / 2 ^ a)))≤64:=by
 have hx64:w / 2 ^ a<2 ^ (64-a):=by
  rw [Nat.div_lt_iff_lt_mul (Nat.two_pow_pos a), ←Nat.pow_add,Nat.sub_add_cancel (by omega)];exact hw
 obtain ⟨m,hm,hk⟩:=bH (w / 2 ^ a) hx (Nat.lt_of_lt_of_le hx64 (Nat.pow_le_pow_right (by decide) (by omega)))
 generalize Go.Lib.ctz 64 (w / 2 ^ a)=k at*
 have hak:a+k<64:=by
  have h1:2 ^ k≤w / 2 ^ a:=by rw [hm];exact Nat.le_mul_of_pos_right _ (by omega)
  have h2:2 ^ k<2 ^ (64-a):=Nat.lt_of_le_of_lt h1 hx64
  have:=(Nat.pow_lt_pow_iff_right (by decide:1<2)).1 h2
  omega
 have hy:w / 2 ^ (a+k)=2*m+1:=by
  rw [Nat.pow_add, ←Nat.div_div_eq_div_mul,hm,Nat.mul_div_cancel_left _ (Nat.two_pow_pos k)]
 have hyl:w / 2 ^ (a+k)<2 ^ (64-(a+k)):=by
  rw [Nat.div_lt_iff_lt_mul (Nat.two_pow_pos _), ←Nat.pow_add,Nat.sub_add_cancel (by omega)];exact hw
 have hy64:w / 2 ^ (a+k)<2 ^ 64:=Nat.lt_of_le_of_lt (Nat.div_le_self _ _) hw
 refine ⟨hak,hy64,?_⟩
 generalize w / 2 ^ (a+k)=y at*
 by_cases hz:2 ^ 64-1-y=0
 ·have hd:64-(a+k)=64:=by
   rcases Nat.lt_or_ge (64-(a+k)) 64 with h|h
   ·have h1:2 ^ (64-(a+k))≤2 ^ 63:=Nat.pow_le_pow_right (by decide) (by omega)
    have e1:(2:Nat) ^ 63=9223372036854775808:=by decide
    have e2:(2:Nat) ^ 64=18446744073709551616:=by decide
    omega
   ·omega
  rw [hz]
  have:Go.Lib.ctz 64 0=64:=rfl
  rw [this]
  omega
 ·have hz64:2 ^ 64-1-y<2 ^ 64:=by
   have e2:(2:Nat) ^ 64=18446744073709551616:=by decide
   omega
  obtain ⟨m',hm',hj⟩:=bH _ hz hz64
  generalize hjj:Go.Lib.ctz 64 (2 ^ 64-1-y)=j at*
  have e2:(2:Nat) ^ 64=18446744073709551616:=by decide
  have hj1:1≤j:=by
   rcases Nat.eq_zero_or_pos j with h|h
   ·subst h
    rw [Nat.pow_zero,Nat.one_mul] at hm'
    omega
   ·exact h
  refine ⟨hj1,?_⟩
  rcases Nat.lt_or_ge 64 (a+k+j) with h|h
  ·exfalso
   obtain ⟨d,hd⟩: ∃ d,d=64-(a+k):=⟨_,rfl⟩
   have hjd:d+1≤j:=by omega
   have e3:2 ^ j=2 ^ (d+1)*2 ^ (j-(d+1)):=by rw [←Nat.pow_add];congr 1;omega
   have e4:2 ^ 64=2 ^ (d+1)*2 ^ (63-d):=by rw [←Nat.pow_add];congr 1;omega
   rw [e3,Nat.mul_assoc] at hm'
   rw [←hd] at hyl
   have hp:2 ^ (d+1)=2*2 ^ d:=by rw [Nat.pow_succ];omega
   generalize 2 ^ (j-(d+1))*(2*m'+1)=q at*
   have hle:2 ^ (d+1)*q<2 ^ (d+1)*2 ^ (63-d):=by rw [←e4];omega
   have hq:q<2 ^ (63-d):=Nat.lt_of_mul_lt_mul_left hle
   have h5:2 ^ (d+1)*(q+1)≤2 ^ (d+1)*2 ^ (63-d):=Nat.mul_le_mul_left _ hq
   rw [←e4,Nat.mul_add,Nat.mul_one] at h5
   have:=Nat.two_pow_pos d
   omega
  ·exact h
end Go.AL
namespace Go.AL
open Go.Proofs Go.Proofs.Tryz
theorem ne0_t {x:Nat} (h:x≠0):((x:Int)!=0)=true:=by simp;omega
theorem sub64 (y:Nat):2 ^ 64-1-y<18446744073709551616:=by
 have e2:(2:Nat) ^ 64=18446744073709551616:=by decide
 omega
theorem qT:IntKind.u64.signed=false:=rfl
end Go.AL
namespace Go.AL
open Go.Proofs Go.Proofs.Tryz
theorem zd9 (cs:List PV) (k:Nat):wA cs 0 k 1=[cs.take k]:=by simp [wA]
theorem zgG (a b:PV):wA [a,b] 0 1 2=[[a],[b]]:=rfl
theorem zgF (a b c:PV):wA [a,b,c] 0 1 3=[[a],[b],[c]]:=rfl
attribute [go_sem] zd9 zgG zgF
theorem ECall.cutW {P:Program} {G:Glob} {f:FuncId} {args:List PV} {R:PV→Heap→Prop} {K:PV→Prop} (k:ECall P G f args [] R) (hk: ∀ p h,R p h→ ∃ q,PLe (fz 0 h 40 p) q∧K q∧Tree q):EPure P G f args K:=
 EPure.weaken (ECall.cut (K:=fun p=> ∃ q,PLe p q∧K q∧Tree q) k hk) fun _ h=>h
theorem pD {h:Heap} {f q k:Nat} {els:List (List PV)}:fz 0 h (f+1) (.vec q k els)=fz 0 h (f+1) (.ts k els):=by
 simp only [fz,Nat.not_lt_zero,if_false]
theorem rF {h:Heap} {q k:Nat} {els:List (List PV)} (he:zU 40 (.ts k els)=true):fz 0 h 40 (.vec q k els)= .ts k els:=by
 rw [pD (f:=39)];exact vE 0 h 40 _ he
theorem iQ {n:Nat} {h:Heap}:fz n h 40 .nil= .nil:=by simp only [fz]
def Grow (t:TypeId) (els:List (List PV)) (k:Nat) (R:Heap) (V:PV):Prop:=(els=[]∧V= .nil)∨ ∃ q,V= .vec (q+2) k els∧R[q]? =some (.vec t k els.length)
end Go.AL
namespace Go.AL
open Go.Proofs Go.Proofs.Tryz
end Go.AL
namespace Go.AL
open Go.Proofs Go.Proofs.Tryz
theorem zjF (l:List BA) (C:BA→Prop) (g:FuncId) (cap:List PV) (h0:Heap) (hl:l.length≤140737488355328) (hF: ∀ x∈l, ∀ J,ECall prog G0 g ((yQ x)::cap) (h0++J) fun p h'=> ∃ (b:Bool) (J':Heap),p=bo b∧(b=false→C x)∧h'=h0++J') (J:Heap):
  ECall prog G0 215 [rR l,.fn (.func g) [] cap] (h0++J) fun p h'=> ∃ (n:Int) (J':Heap),p=i64 n∧ -1≤n∧n<l.length∧(n<0→ ∀ x∈l,C x)∧h'=h0++J':=by
 refine pv func215 19 false (by kernel_rfl) rfl rfl ?_
 refine g2 ?_
 refine ge ?_
 refine zO l.length (K4 (.d:: .d:: .k:: .k:: .v::D9 (.d::[]))) (own:=false) (fun i (_:Heap)=>[i64 i]) (fun J=>h0++J) (fun i _=> ∀ (j:Nat) (h:j<l.length),j<i→C l[j]) J rfl rfl (fun j _ hj=>absurd hj (Nat.not_lt_zero _)) hl ?_ ?_
 ·rintro J hI
  refine gm ?_
  refine gf @zM ?_
  exact ⟨_,_,rfl,by omega,by omega,fun _ x hx=>(by obtain ⟨j,hj,rfl⟩:=List.getElem_of_mem hx;exact hI j hj hj),rfl⟩
 ·rintro i J hi hw hI
  refine gm ?_
  have hx:=zG (f:=(fun s:BA=>[yQ s])) [] hi
  refine gf (a4 @hi @hx @zB @hw) ?_
  (refine g1f @hx ?_;refine zC (hF _ (List.getElem_mem hi) J) ?_;intro p2 h2 hr2;refine g2 ?_)
  obtain ⟨b,J',rfl,hC,rfl⟩:=hr2
  cases b
  ·refine gf @hw ?_
   refine ⟨J',fun j h hj=> ?_,rfl,rfl,rfl⟩
   rcases Nat.lt_or_ge j i with hji|hji
   ·exact hI j h hji
   ·have:j=i:=by omega
    subst this;exact hC rfl
  ·refine ge ?_
   exact ⟨_,_,rfl,by omega,by omega,fun hn=>by omega,rfl⟩
theorem zmL (l:List BA) (C:BA→Prop) (g:FuncId) (cap:List PV) (h0:Heap) (hl:l.length≤140737488355328) (hF: ∀ x∈l, ∀ J,ECall prog G0 g ((yQ x)::cap) (h0++J) fun p h'=> ∃ (b:Bool) (J':Heap),p=bo b∧(b=false→C x)∧h'=h0++J') (J:Heap):
  ECall prog G0 193 [rR l,.fn (.func g) [] cap] (h0++J) fun p h'=> ∃ (b:Bool) (J':Heap),p=bo b∧(b=false→ ∀ x∈l,C x)∧h'=h0++J':=by
 refine pv func193 9 false (by kernel_rfl) rfl rfl ?_
 refine g2 ?_
 refine ge ?_
 (refine g1 ?_;refine zC (zjF l C g cap h0 hl hF J) ?_;intro p2 h2 hr2;refine g2 ?_)
 obtain ⟨n,J',rfl,_,_,hn,rfl⟩:=hr2
 refine ge ?_
 exact ⟨_,_,rfl,fun h=>hn (by simpa using h),rfl⟩
theorem zjG (l:List Int) (C:Int→Prop) (g:FuncId) (cap:List PV) (h0:Heap) (hl:l.length≤140737488355328) (hF: ∀ x∈l, ∀ J,ECall prog G0 g ((i64 x)::cap) (h0++J) fun p h'=> ∃ (b:Bool) (J':Heap),p=bo b∧(b=false→C x)∧h'=h0++J') (J:Heap):
  ECall prog G0 216 [vF l,.fn (.func g) [] cap] (h0++J) fun p h'=> ∃ (n:Int) (J':Heap),p=i64 n∧ -1≤n∧n<l.length∧(n<0→ ∀ x∈l,C x)∧h'=h0++J':=by
 refine pv func216 19 false (by kernel_rfl) rfl rfl ?_
 refine g2 ?_
 refine ge ?_
 refine zO l.length (K4 (.d:: .d:: .k:: .k:: .v::D9 (.d::[]))) (own:=false) (fun i (_:Heap)=>[i64 i]) (fun J=>h0++J) (fun i _=> ∀ (j:Nat) (h:j<l.length),j<i→C l[j]) J rfl rfl (fun j _ hj=>absurd hj (Nat.not_lt_zero _)) hl ?_ ?_
 ·rintro J hI
  refine gm ?_
  refine gf @zM ?_
  exact ⟨_,_,rfl,by omega,by omega,fun _ x hx=>(by obtain ⟨j,hj,rfl⟩:=List.getElem_of_mem hx;exact hI j hj hj),rfl⟩
 ·rintro i J hi hw hI
  refine gm ?_
  have hx:=zG (f:=(fun n:Int=>[i64 n])) [] hi
  refine gf (a4 @hi @hx @zB @hw) ?_
  (refine g1f @hx ?_;refine zC (hF _ (List.getElem_mem hi) J) ?_;intro p2 h2 hr2;refine g2 ?_)
  obtain ⟨b,J',rfl,hC,rfl⟩:=hr2
  cases b
  ·refine gf @hw ?_
   refine ⟨J',fun j h hj=> ?_,rfl,rfl,rfl⟩
   rcases Nat.lt_or_ge j i with hji|hji
   ·exact hI j h hji
   ·have:j=i:=by omega
    subst this;exact hC rfl
  ·refine ge ?_
   exact ⟨_,_,rfl,by omega,by omega,fun hn=>by omega,rfl⟩
theorem zmM (l:List Int) (C:Int→Prop) (g:FuncId) (cap:List PV) (h0:Heap) (hl:l.length≤140737488355328) (hF: ∀ x∈l, ∀ J,ECall prog G0 g ((i64 x)::cap) (h0++J) fun p h'=> ∃ (b:Bool) (J':Heap),p=bo b∧(b=false→C x)∧h'=h0++J') (J:Heap):
  ECall prog G0 196 [vF l,.fn (.func g) [] cap] (h0++J) fun p h'=> ∃ (b:Bool) (J':Heap),p=bo b∧(b=false→ ∀ x∈l,C x)∧h'=h0++J':=by
 refine pv func196 9 false (by kernel_rfl) rfl rfl ?_
 refine g2 ?_
 refine ge ?_
 (refine g1 ?_;refine zC (zjG l C g cap h0 hl hF J) ?_;intro p2 h2 hr2;refine g2 ?_)
 obtain ⟨n,J',rfl,_,_,hn,rfl⟩:=hr2
 refine ge ?_
 exact ⟨_,_,rfl,fun h=>hn (by simpa using h),rfl⟩
theorem zl4 (l:List La) (C:La→Prop) (g:FuncId) (cap:List PV) (h0:Heap) (hl:l.length≤140737488355328) (hF: ∀ x∈l, ∀ J,ECall prog G0 g ((.agg x.c)::cap) (h0++J) fun p h'=> ∃ (b:Bool) (J':Heap),p=bo b∧(b=false→C x)∧h'=h0++J') (J:Heap):
  ECall prog G0 190 [.ts 4 (l.map La.c),.fn (.func g) [] cap] (h0++J) fun p h'=> ∃ (n:Int) (J':Heap),p=i64 n∧ -1≤n∧n<l.length∧(n<0→ ∀ x∈l,C x)∧h'=h0++J':=by
 refine pv func190 19 false (by kernel_rfl) rfl rfl ?_
 refine g2 ?_
 refine ge ?_
 refine zO l.length (K4 (.d:: .d:: .k:: .k:: .v::D9 (.d::[]))) (own:=false) (fun i (_:Heap)=>[i64 i]) (fun J=>h0++J) (fun i _=> ∀ (j:Nat) (h:j<l.length),j<i→C l[j]) J rfl rfl (fun j _ hj=>absurd hj (Nat.not_lt_zero _)) hl ?_ ?_
 ·rintro J hI
  refine gm ?_
  refine gf @zM ?_
  exact ⟨_,_,rfl,by omega,by omega,fun _ x hx=>(by obtain ⟨j,hj,rfl⟩:=List.getElem_of_mem hx;exact hI j hj hj),rfl⟩
 ·rintro i J hi hw hI
  refine gm ?_
  have hx:=zG (f:=La.c) [] hi
  refine gf (a4 @hi @hx @zB @hw) ?_
  (refine g1f @hx ?_;refine zC (hF _ (List.getElem_mem hi) J) ?_;intro p2 h2 hr2;refine g2 ?_)
  obtain ⟨b,J',rfl,hC,rfl⟩:=hr2
  cases b
  ·refine gf @hw ?_
   refine ⟨J',fun j h hj=> ?_,rfl,rfl,rfl⟩
   rcases Nat.lt_or_ge j i with hji|hji
   ·exact hI j h hji
   ·have:j=i:=by omega
    subst this;exact hC rfl
  ·refine ge ?_
   exact ⟨_,_,rfl,by omega,by omega,fun hn=>by omega,rfl⟩
theorem cf_la (l:List La) (C:La→Prop) (g:FuncId) (cap:List PV) (h0:Heap) (hl:l.length≤140737488355328) (hF: ∀ x∈l, ∀ J,ECall prog G0 g ((.agg x.c)::cap) (h0++J) fun p h'=> ∃ (b:Bool) (J':Heap),p=bo b∧(b=false→C x)∧h'=h0++J') (J:Heap):
  ECall prog G0 141 [.ts 4 (l.map La.c),.fn (.func g) [] cap] (h0++J) fun p h'=> ∃ (b:Bool) (J':Heap),p=bo b∧(b=false→ ∀ x∈l,C x)∧h'=h0++J':=by
 refine pv func141 9 false (by kernel_rfl) rfl rfl ?_
 refine g2 ?_
 refine ge ?_
 (refine g1 ?_;refine zC (zl4 l C g cap h0 hl hF J) ?_;intro p2 h2 hr2;refine g2 ?_)
 obtain ⟨n,J',rfl,_,_,hn,rfl⟩:=hr2
 refine ge ?_
 exact ⟨_,_,rfl,fun h=>hn (by simpa using h),rfl⟩
theorem zl5 (l:List Fu) (C:Fu→Prop) (g:FuncId) (cap:List PV) (h0:Heap) (hl:l.length≤140737488355328) (hF: ∀ x∈l, ∀ J,ECall prog G0 g ((.agg x.c)::cap) (h0++J) fun p h'=> ∃ (b:Bool) (J':Heap),p=bo b∧(b=false→C x)∧h'=h0++J') (J:Heap):
  ECall prog G0 191 [.ts 7 (l.map Fu.c),.fn (.func g) [] cap] (h0++J) fun p h'=> ∃ (n:Int) (J':Heap),p=i64 n∧ -1≤n∧n<l.length∧(n<0→ ∀ x∈l,C x)∧h'=h0++J':=by
 refine pv func191 19 false (by kernel_rfl) rfl rfl ?_
 refine g2 ?_
 refine ge ?_
 refine zO l.length (K4 (.d:: .d:: .k:: .k:: .v::D9 (.d::[]))) (own:=false) (fun i (_:Heap)=>[i64 i]) (fun J=>h0++J) (fun i _=> ∀ (j:Nat) (h:j<l.length),j<i→C l[j]) J rfl rfl (fun j _ hj=>absurd hj (Nat.not_lt_zero _)) hl ?_ ?_
 ·rintro J hI
  refine gm ?_
  refine gf @zM ?_
  exact ⟨_,_,rfl,by omega,by omega,fun _ x hx=>(by obtain ⟨j,hj,rfl⟩:=List.getElem_of_mem hx;exact hI j hj hj),rfl⟩
 ·rintro i J hi hw hI
  refine gm ?_
  have hx:=zG (f:=Fu.c) [] hi
  refine gf (a4 @hi @hx @zB @hw) ?_
  (refine g1f @hx ?_;refine zC (hF _ (List.getElem_mem hi) J) ?_;intro p2 h2 hr2;refine g2 ?_)
  obtain ⟨b,J',rfl,hC,rfl⟩:=hr2
  cases b
  ·refine gf @hw ?_
   refine ⟨J',fun j h hj=> ?_,rfl,rfl,rfl⟩
   rcases Nat.lt_or_ge j i with hji|hji
   ·exact hI j h hji
   ·have:j=i:=by omega
    subst this;exact hC rfl
  ·refine ge ?_
   exact ⟨_,_,rfl,by omega,by omega,fun hn=>by omega,rfl⟩
theorem cf_fu (l:List Fu) (C:Fu→Prop) (g:FuncId) (cap:List PV) (h0:Heap) (hl:l.length≤140737488355328) (hF: ∀ x∈l, ∀ J,ECall prog G0 g ((.agg x.c)::cap) (h0++J) fun p h'=> ∃ (b:Bool) (J':Heap),p=bo b∧(b=false→C x)∧h'=h0++J') (J:Heap):
  ECall prog G0 143 [.ts 7 (l.map Fu.c),.fn (.func g) [] cap] (h0++J) fun p h'=> ∃ (b:Bool) (J':Heap),p=bo b∧(b=false→ ∀ x∈l,C x)∧h'=h0++J':=by
 refine pv func143 9 false (by kernel_rfl) rfl rfl ?_
 refine g2 ?_
 refine ge ?_
 (refine g1 ?_;refine zC (zl5 l C g cap h0 hl hF J) ?_;intro p2 h2 hr2;refine g2 ?_)
 obtain ⟨n,J',rfl,_,_,hn,rfl⟩:=hr2
 refine ge ?_
 exact ⟨_,_,rfl,fun h=>hn (by simpa using h),rfl⟩
theorem zl2 (l:List Pd) (C:Pd→Prop) (g:FuncId) (cap:List PV) (h0:Heap) (hl:l.length≤140737488355328) (hF: ∀ x∈l, ∀ J,ECall prog G0 g ((.agg x.c)::cap) (h0++J) fun p h'=> ∃ (b:Bool) (J':Heap),p=bo b∧(b=false→C x)∧h'=h0++J') (J:Heap):
  ECall prog G0 195 [.ts 7 (l.map Pd.c),.fn (.func g) [] cap] (h0++J) fun p h'=> ∃ (n:Int) (J':Heap),p=i64 n∧ -1≤n∧n<l.length∧(n<0→ ∀ x∈l,C x)∧h'=h0++J':=by
 refine pv func195 19 false (by kernel_rfl) rfl rfl ?_
 refine g2 ?_
 refine ge ?_
 refine zO l.length (K4 (.d:: .d:: .k:: .k:: .v::D9 (.d::[]))) (own:=false) (fun i (_:Heap)=>[i64 i]) (fun J=>h0++J) (fun i _=> ∀ (j:Nat) (h:j<l.length),j<i→C l[j]) J rfl rfl (fun j _ hj=>absurd hj (Nat.not_lt_zero _)) hl ?_ ?_
 ·rintro J hI
  refine gm ?_
  refine gf @zM ?_
  exact ⟨_,_,rfl,by omega,by omega,fun _ x hx=>(by obtain ⟨j,hj,rfl⟩:=List.getElem_of_mem hx;exact hI j hj hj),rfl⟩
 ·rintro i J hi hw hI
  refine gm ?_
  have hx:=zG (f:=Pd.c) [] hi
  refine gf (a4 @hi @hx @zB @hw) ?_
  (refine g1f @hx ?_;refine zC (hF _ (List.getElem_mem hi) J) ?_;intro p2 h2 hr2;refine g2 ?_)
  obtain ⟨b,J',rfl,hC,rfl⟩:=hr2
  cases b
  ·refine gf @hw ?_
   refine ⟨J',fun j h hj=> ?_,rfl,rfl,rfl⟩
   rcases Nat.lt_or_ge j i with hji|hji
   ·exact hI j h hji
   ·have:j=i:=by omega
    subst this;exact hC rfl
  ·refine ge ?_
   exact ⟨_,_,rfl,by omega,by omega,fun hn=>by omega,rfl⟩
theorem cf_pd (l:List Pd) (C:Pd→Prop) (g:FuncId) (cap:List PV) (h0:Heap) (hl:l.length≤140737488355328) (hF: ∀ x∈l, ∀ J,ECall prog G0 g ((.agg x.c)::cap) (h0++J) fun p h'=> ∃ (b:Bool) (J':Heap),p=bo b∧(b=false→C x)∧h'=h0++J') (J:Heap):
  ECall prog G0 147 [.ts 7 (l.map Pd.c),.fn (.func g) [] cap] (h0++J) fun p h'=> ∃ (b:Bool) (J':Heap),p=bo b∧(b=false→ ∀ x∈l,C x)∧h'=h0++J':=by
 refine pv func147 9 false (by kernel_rfl) rfl rfl ?_
 refine g2 ?_
 refine ge ?_
 (refine g1 ?_;refine zC (zl2 l C g cap h0 hl hF J) ?_;intro p2 h2 hr2;refine g2 ?_)
 obtain ⟨n,J',rfl,_,_,hn,rfl⟩:=hr2
 refine ge ?_
 exact ⟨_,_,rfl,fun h=>hn (by simpa using h),rfl⟩
theorem zl1 (l:List Ru) (C:Ru→Prop) (g:FuncId) (cap:List PV) (h0:Heap) (hl:l.length≤140737488355328) (hF: ∀ x∈l, ∀ J,ECall prog G0 g ((.agg x.c)::cap) (h0++J) fun p h'=> ∃ (b:Bool) (J':Heap),p=bo b∧(b=false→C x)∧h'=h0++J') (J:Heap):
  ECall prog G0 198 [.ts 9 (l.map Ru.c),.fn (.func g) [] cap] (h0++J) fun p h'=> ∃ (n:Int) (J':Heap),p=i64 n∧ -1≤n∧n<l.length∧(n<0→ ∀ x∈l,C x)∧h'=h0++J':=by
 refine pv func198 19 false (by kernel_rfl) rfl rfl ?_
 refine g2 ?_
 refine ge ?_
 refine zO l.length (K4 (.d:: .d:: .k:: .k:: .v::D9 (.d::[]))) (own:=false) (fun i (_:Heap)=>[i64 i]) (fun J=>h0++J) (fun i _=> ∀ (j:Nat) (h:j<l.length),j<i→C l[j]) J rfl rfl (fun j _ hj=>absurd hj (Nat.not_lt_zero _)) hl ?_ ?_
 ·rintro J hI
  refine gm ?_
  refine gf @zM ?_
  exact ⟨_,_,rfl,by omega,by omega,fun _ x hx=>(by obtain ⟨j,hj,rfl⟩:=List.getElem_of_mem hx;exact hI j hj hj),rfl⟩
 ·rintro i J hi hw hI
  refine gm ?_
  have hx:=zG (f:=Ru.c) [] hi
  refine gf (a4 @hi @hx @zB @hw) ?_
  (refine g1f @hx ?_;refine zC (hF _ (List.getElem_mem hi) J) ?_;intro p2 h2 hr2;refine g2 ?_)
  obtain ⟨b,J',rfl,hC,rfl⟩:=hr2
  cases b
  ·refine gf @hw ?_
   refine ⟨J',fun j h hj=> ?_,rfl,rfl,rfl⟩
   rcases Nat.lt_or_ge j i with hji|hji
   ·exact hI j h hji
   ·have:j=i:=by omega
    subst this;exact hC rfl
  ·refine ge ?_
   exact ⟨_,_,rfl,by omega,by omega,fun hn=>by omega,rfl⟩
theorem cf_ru (l:List Ru) (C:Ru→Prop) (g:FuncId) (cap:List PV) (h0:Heap) (hl:l.length≤140737488355328) (hF: ∀ x∈l, ∀ J,ECall prog G0 g ((.agg x.c)::cap) (h0++J) fun p h'=> ∃ (b:Bool) (J':Heap),p=bo b∧(b=false→C x)∧h'=h0++J') (J:Heap):
  ECall prog G0 151 [.ts 9 (l.map Ru.c),.fn (.func g) [] cap] (h0++J) fun p h'=> ∃ (b:Bool) (J':Heap),p=bo b∧(b=false→ ∀ x∈l,C x)∧h'=h0++J':=by
 refine pv func151 9 false (by kernel_rfl) rfl rfl ?_
 refine g2 ?_
 refine ge ?_
 (refine g1 ?_;refine zC (zl1 l C g cap h0 hl hF J) ?_;intro p2 h2 hr2;refine g2 ?_)
 obtain ⟨n,J',rfl,_,_,hn,rfl⟩:=hr2
 refine ge ?_
 exact ⟨_,_,rfl,fun h=>hn (by simpa using h),rfl⟩
theorem zlZ (l:List Tm) (C:Tm→Prop) (g:FuncId) (cap:List PV) (h0:Heap) (hl:l.length≤140737488355328) (hF: ∀ x∈l, ∀ J,ECall prog G0 g ((.agg x.c)::cap) (h0++J) fun p h'=> ∃ (b:Bool) (J':Heap),p=bo b∧(b=false→C x)∧h'=h0++J') (J:Heap):
  ECall prog G0 217 [mI l,.fn (.func g) [] cap] (h0++J) fun p h'=> ∃ (n:Int) (J':Heap),p=i64 n∧ -1≤n∧n<l.length∧(n<0→ ∀ x∈l,C x)∧h'=h0++J':=by
 refine pv func217 19 false (by kernel_rfl) rfl rfl ?_
 refine g2 ?_
 refine ge ?_
 refine zO l.length (K4 (.d:: .d:: .k:: .k:: .v::D9 (.d::[]))) (own:=false) (fun i (_:Heap)=>[i64 i]) (fun J=>h0++J) (fun i _=> ∀ (j:Nat) (h:j<l.length),j<i→C l[j]) J rfl rfl (fun j _ hj=>absurd hj (Nat.not_lt_zero _)) hl ?_ ?_
 ·rintro J hI
  refine gm ?_
  refine gf @zM ?_
  exact ⟨_,_,rfl,by omega,by omega,fun _ x hx=>(by obtain ⟨j,hj,rfl⟩:=List.getElem_of_mem hx;exact hI j hj hj),rfl⟩
 ·rintro i J hi hw hI
  refine gm ?_
  have hx:=zG (f:=Tm.c) [] hi
  refine gf (a4 @hi @hx @zB @hw) ?_
  (refine g1f @hx ?_;refine zC (hF _ (List.getElem_mem hi) J) ?_;intro p2 h2 hr2;refine g2 ?_)
  obtain ⟨b,J',rfl,hC,rfl⟩:=hr2
  cases b
  ·refine gf @hw ?_
   refine ⟨J',fun j h hj=> ?_,rfl,rfl,rfl⟩
   rcases Nat.lt_or_ge j i with hji|hji
   ·exact hI j h hji
   ·have:j=i:=by omega
    subst this;exact hC rfl
  ·refine ge ?_
   exact ⟨_,_,rfl,by omega,by omega,fun hn=>by omega,rfl⟩
theorem cf_tm (l:List Tm) (C:Tm→Prop) (g:FuncId) (cap:List PV) (h0:Heap) (hl:l.length≤140737488355328) (hF: ∀ x∈l, ∀ J,ECall prog G0 g ((.agg x.c)::cap) (h0++J) fun p h'=> ∃ (b:Bool) (J':Heap),p=bo b∧(b=false→C x)∧h'=h0++J') (J:Heap):
  ECall prog G0 199 [mI l,.fn (.func g) [] cap] (h0++J) fun p h'=> ∃ (b:Bool) (J':Heap),p=bo b∧(b=false→ ∀ x∈l,C x)∧h'=h0++J':=by
 refine pv func199 9 false (by kernel_rfl) rfl rfl ?_
 refine g2 ?_
 refine ge ?_
 (refine g1 ?_;refine zC (zlZ l C g cap h0 hl hF J) ?_;intro p2 h2 hr2;refine g2 ?_)
 obtain ⟨n,J',rfl,_,_,hn,rfl⟩:=hr2
 refine ge ?_
 exact ⟨_,_,rfl,fun h=>hn (by simpa using h),rfl⟩
theorem zl3 (l:List Li) (C:Li→Prop) (g:FuncId) (cap:List PV) (h0:Heap) (hl:l.length≤140737488355328) (hF: ∀ x∈l, ∀ J,ECall prog G0 g ((.agg x.c)::cap) (h0++J) fun p h'=> ∃ (b:Bool) (J':Heap),p=bo b∧(b=false→C x)∧h'=h0++J') (J:Heap):
  ECall prog G0 218 [.ts 9 (l.map Li.c),.fn (.func g) [] cap] (h0++J) fun p h'=> ∃ (n:Int) (J':Heap),p=i64 n∧ -1≤n∧n<l.length∧(n<0→ ∀ x∈l,C x)∧h'=h0++J':=by
 refine pv func218 19 false (by kernel_rfl) rfl rfl ?_
 refine g2 ?_
 refine ge ?_
 refine zO l.length (K4 (.d:: .d:: .k:: .k:: .v::D9 (.d::[]))) (own:=false) (fun i (_:Heap)=>[i64 i]) (fun J=>h0++J) (fun i _=> ∀ (j:Nat) (h:j<l.length),j<i→C l[j]) J rfl rfl (fun j _ hj=>absurd hj (Nat.not_lt_zero _)) hl ?_ ?_
 ·rintro J hI
  refine gm ?_
  refine gf @zM ?_
  exact ⟨_,_,rfl,by omega,by omega,fun _ x hx=>(by obtain ⟨j,hj,rfl⟩:=List.getElem_of_mem hx;exact hI j hj hj),rfl⟩
 ·rintro i J hi hw hI
  refine gm ?_
  have hx:=zG (f:=Li.c) [] hi
  refine gf (a4 @hi @hx @zB @hw) ?_
  (refine g1f @hx ?_;refine zC (hF _ (List.getElem_mem hi) J) ?_;intro p2 h2 hr2;refine g2 ?_)
  obtain ⟨b,J',rfl,hC,rfl⟩:=hr2
  cases b
  ·refine gf @hw ?_
   refine ⟨J',fun j h hj=> ?_,rfl,rfl,rfl⟩
   rcases Nat.lt_or_ge j i with hji|hji
   ·exact hI j h hji
   ·have:j=i:=by omega
    subst this;exact hC rfl
  ·refine ge ?_
   exact ⟨_,_,rfl,by omega,by omega,fun hn=>by omega,rfl⟩
theorem cf_li (l:List Li) (C:Li→Prop) (g:FuncId) (cap:List PV) (h0:Heap) (hl:l.length≤140737488355328) (hF: ∀ x∈l, ∀ J,ECall prog G0 g ((.agg x.c)::cap) (h0++J) fun p h'=> ∃ (b:Bool) (J':Heap),p=bo b∧(b=false→C x)∧h'=h0++J') (J:Heap):
  ECall prog G0 201 [.ts 9 (l.map Li.c),.fn (.func g) [] cap] (h0++J) fun p h'=> ∃ (b:Bool) (J':Heap),p=bo b∧(b=false→ ∀ x∈l,C x)∧h'=h0++J':=by
 refine pv func201 9 false (by kernel_rfl) rfl rfl ?_
 refine g2 ?_
 refine ge ?_
 (refine g1 ?_;refine zC (zl3 l C g cap h0 hl hF J) ?_;intro p2 h2 hr2;refine g2 ?_)
 obtain ⟨n,J',rfl,_,_,hn,rfl⟩:=hr2
 refine ge ?_
 exact ⟨_,_,rfl,fun h=>hn (by simpa using h),rfl⟩
end Go.AL
