/-
  Programs: whether literals, rules, functions and predicates are formed.
-/
import Derived.Test.YtlcjmejclpilhaaGreatDoorX19
set_option linter.unusedSimpArgs false
set_option linter.unusedVariables false
set_option maxRecDepth 100000
set_option maxHeartbeats 4000000
namespace Go.AL
open Go.Proofs Go.Proofs.Tryz
theorem cX(l:La)(hl:l.ok):EPure prog G0 203 [.agg l.c] fun p=> ∃(os:List Int)(b:Bool),p= .tup [.agg (os.map u8),bo b]/\os.length=8/\(b=true->1<=l.pw.length/\l.pw.length<=8/\Low l.pw.length os):=by
 refine ECall.cut (R:=fun p _=> ∃(os:List Int)(b:Bool),p= .tup [.agg (os.map u8),bo b]/\os.length=8/\(b=true->1<=l.pw.length/\l.pw.length<=8/\Low l.pw.length os)) (pv func203 13 false Qf6 rfl rfl ?_) ?_;refine g2 ?_
 ·refine ge ?_;(refine g1 ?_;refine zC ((bJ l hl).call zK Qfe _) ?_;intro p2 h2 hr2;refine g2 ?_);obtain⟨⟨os,e,rfl,hos,he⟩,rfl⟩:=hr2;have ht8:=kK hos;have hdr:(os.map u8).drop 8=[]:=Zv (by simp[hos]);refine zjA (a3 @ht8 @hdr @hos) ?_;exact⟨os,_,rfl,hos,fun h=>he Qfq⟩
 ·exact Qc3
theorem fB(l:La)(hl:l.ok)(xs:List Int)(hx:xs.length<=140737488355328):EB 204 [.agg l.c,vF xs] fun b=>b=true-> ∀x∈xs,0<=x/\x<l.pw.length:=by
 refine ECall.cut (R:=fun p _=> ∃b:Bool,p=bo b/\(b=true-> ∀x∈xs,0<=x/\x<l.pw.length)) (pv func204 23 false Qf6 rfl rfl ?_) ?_;refine g2 ?_
 ·refine ge ?_;refine zO xs.length (K4 (.d:: .k:: .d:: .k:: .k:: .v::D9 (D4 ([])))) (own:=false) (fun i (_:Unit)=>[i64 i]) (fun _=>_) (fun i _=> ∀j (h:j<i) (h2:j<xs.length),0<=xs[j]/\xs[j]<l.pw.length) () rfl rfl (by intro j h;omega) hx ?_ ?_
  ·rintro _ hI;refine gm ?_;refine gf @zM ?_;refine⟨true,rfl,fun _ x hx=> ?_⟩;obtain⟨j,hj,rfl⟩:=Qy hx;exact hI j hj hj
  ·rintro i _ hi hw hI;refine gm ?_;have hg:=zG (f:=fun n:Int=>[i64 n]) [] hi;(have F:=(a4 @hi @hw @hg @zB);(repeat' (first|refine dR F ?_|refine dQ F (fun he=> ?_) (fun he=> ?_)|fail));all_goals clear F)
   ·exact⟨false,rfl,Qf4⟩
   ·exact⟨false,rfl,Qf4⟩
   ·refine⟨(),fun j hj h2=> ?_,rfl,rfl,rfl⟩;rcases Xy j i with h|h
    ·exact hI j h h2
    ·have:j=i:=Qf3;subst this;omega
 ·exact Qdw
theorem zhG(l:La)(hl:l.ok)(xs:List Int)(hx:xs.length<=140737488355328):EI 154 [.agg l.c,vF xs] fun r=> -1<=r/\(r= -1\/r<l.pw.length):=by
 refine ECall.cut (R:=fun p _=> ∃r:Int,p=i64 r/\ -1<=r/\(r= -1\/r<l.pw.length)) (pv func154 46 false Qf6 rfl rfl ?_) ?_;refine g2 ?_
 ·refine ge ?_;(refine g1 ?_;refine zC ((cX l hl).call zK Qfe _) ?_;intro p2 h2 hr2;refine g2 ?_);obtain⟨⟨os,b,rfl,hos,hb⟩,rfl⟩:=hr2;have ht8:=kK hos;have hdr:(os.map u8).drop 8=[]:=Zv (by simp[hos]);cases b with
  |false=>
   refine zjA (a2 @hos @hdr) ?_;exact⟨-1,rfl,Qf3⟩
  | true=>
   obtain⟨hn1,hn8, -⟩:=hb rfl;refine zjA (a2 @hos @hdr) ?_;(refine g1 ?_;refine zC ((fB l hl xs hx).call zK Qfe _) ?_;intro p2 h2 hr2;refine g2 ?_);obtain⟨⟨b2,rfl,hin⟩,rfl⟩:=hr2;cases b2 with
   |false=>
    refine ge ?_;exact⟨-1,rfl,Qf3⟩
   | true=>
    have hin:=hin rfl;refine ge ?_;refine zO xs.length (K4 (.k:: .k:: .k:: .v:: .k:: .d::K9 (K9 (.k:: .k:: .v::D9 (K4 (.k:: .k::[])))))) (own:=false) (fun i (u:Int)=>[u8 u,i64 i]) (fun _=>_) (fun i _=>True) _ rfl rfl trivial hx ?_ ?_
    ·rintro u hI;refine gm ?_;refine gf (a2 @zM @ht8) ?_;(refine g1f @ht8 ?_;refine zC ((oC os hos _ l.pw.length hn8).call zK Qfg _) ?_;intro p2 h2 hr2;refine g2 ?_);obtain⟨⟨r,rfl,hr⟩,rfl⟩:=hr2;refine ge ?_;exact⟨r,rfl,hr.1,.inr hr.2⟩
    ·rintro i u hi hw hI;refine gm ?_;obtain⟨h1,h2⟩:=hin _ (Qc hi);obtain⟨m,hm⟩:=Qm h1;have hg:(xs.map fun n:Int=>[i64 n]).getD i []=[i64 m]:=by rw[zG [] hi,hm]
     have hm8:m<os.length:=Qf3;have hd:=yU u8 os m .un hm8;refine gf (a5 @hi @hw @hg @zB @hd) ?_;exact⟨_,trivial,Qh4,rfl,rfl⟩
 ·exact Qdw
theorem qJ(l:La)(hl:l.ok):EI 86 [.agg l.c] fun r=> -1<=r/\(r= -1\/r<l.pw.length):=by
 refine ECall.cut (R:=fun p _=> ∃r:Int,p=i64 r/\ -1<=r/\(r= -1\/r<l.pw.length)) (pv func86 5 false Qf6 rfl rfl ?_) ?_;refine g2 ?_
 ·refine ge ?_;(refine g1 ?_;refine zC (((zhG l hl [] Qf4).args (.cons (PLe.refl _) (.cons (PLe.nil_ts 1) .nil))).call zK (by simp[zJ,cJ]) _) ?_;intro p2 h2 hr2;refine g2 ?_);obtain⟨⟨r,rfl,hr⟩,rfl⟩:=hr2;refine ge ?_;exact⟨r,rfl,hr⟩
 ·exact Qdw
theorem aR(s:ByteArray)(i:Nat):1<=(Utf8.decode s i).2:=by
 unfold Utf8.decode;dsimp only;repeat' split
 all_goals simp
abbrev i32(n:Int):PV:= .sc (.int .i32 n)
@[simp] theorem tr_i32{n:Int}:Tree (i32 n)↔True:=oN
theorem zuJ:zm0.length=10:=rfl
theorem zg6:(zm0.map yQ).map (fun x=>[x])=zm0.map fun s=>[yQ s]:=by rw[Zg];rfl
theorem jL(n:Int):EB 271 [i32 n]:=by
 refine ECall.pure (pv func271 30 false Qf6 rfl rfl ?_);refine g2 ?_;(repeat' (first|refine gp ?_|refine gs (fun he=> ?_) (fun he=> ?_)|fail));all_goals exact⟨⟨⟨_,rfl,trivial⟩,.sc⟩,rfl⟩
theorem gC(s:BA)(g:FuncId)(t:Bool)(hF: ∀n:Int,EB g [i32 n]):EI 367 [yQ s,.fn (.func g) [] [],bo t]:=by
 refine ECall.cut (R:=fun p _=> ∃n:Int,p=i64 n) (pv func367 21 false Qf6 rfl rfl ?_) Qhn;refine g2 ?_;have htm:kC prog 9=none:=Qf6;refine gf @htm ?_;refine zW (K4 (.k:: .k:: .d:: .d:: .d:: .k:: .k::D9 (.d::[]))) (fun (s:Nat)=>[]) (fun n=>[.siter s n]) (fun _=>True) (fun n=>s.size-n) (own:=false) 0 rfl rfl trivial ?_;rintro n _;refine gm ?_;by_cases hn:n<s.size
 ·have hd:=aR s n;generalize hq:Utf8.decode s n=q at*;obtain⟨c,k⟩:=q;refine gf (a2 @hn @hq) ?_;(refine g1 ?_;refine zC ((hF c).call zK Qf4 _) ?_;intro p2 h2 hr2;refine g2 ?_);obtain⟨⟨b,rfl,_⟩,rfl⟩:=hr2;(repeat' (first|refine gp ?_|refine gs (fun he=> ?_) (fun he=> ?_)|fail))
  ·exact⟨_,rfl⟩
  ·exact⟨n+k,trivial,by dsimp only at hd;omega,rfl,rfl,rfl⟩
 ·refine gf @hn ?_;exact⟨_,rfl⟩
theorem jD(s:BA)(g:FuncId)(hF: ∀n:Int,EB g [i32 n]):EI 328 [yQ s,.fn (.func g) [] []]:=by
 refine ECall.pure (pv func328 8 false Qf6 rfl rfl ?_);refine g2 ?_;refine ge ?_;(refine g1 ?_;refine zC ((gC s g true hF).call zK Qff _) ?_;intro p2 h2 hr2;refine g2 ?_);exact Qdn
theorem rX(s:BA)(g:FuncId)(hF: ∀n:Int,EB g [i32 n]):EB 272 [yQ s,.fn (.func g) [] []]:=by
 refine ECall.pure (pv func272 9 false Qf6 rfl rfl ?_);refine g2 ?_;refine ge ?_;(refine g1 ?_;refine zC ((jD s g hF).call zK Qff _) ?_;intro p2 h2 hr2;refine g2 ?_);exact Qdn
theorem zc1(s:BA):EB 194 [yQ s]:=by
 refine ECall.pure (pv func194 30 false Qf6 rfl rfl ?_);refine g2 ?_;by_cases h0:s=⟨#[]⟩
 ·exact Qb5
 have hp:=mN h0;(repeat' (first|refine gz ?_|(refine gn ?_;intro zs zh;(try simp only[go_sem,h0,g0_0,zuJ,zg6] at zh);subst zh;(first|refine gv ?_|((first|refine zC ((wC zm0 _ eI).call zK Qf4 _) ?_|refine zC ((rX s _ jL).call zK Qff _) ?_);intro p2 h2 hr2;obtain⟨hr2,rfl⟩:=hr2;first|obtain⟨_,rfl,hr2⟩:=hr2|obtain⟨_,rfl⟩:=hr2|subst hr2|skip)|(refine yS (fun he=> ?_) (fun he=> ?_)<;>(try simp only[mM] at he))))|((with_reducible refine tO rfl ?_);intro sr hsr;simp only[sK,wP] at hsr;subst hsr;(fail_if_success(with_reducible(first|refine tL ?_|refine tN ?_)));refine tK (fun he=> ?_) (fun he=> ?_)<;>(intro ts2 hts;simp only[wP] at hts;subst hts;(try simp only[mM] at he)))|fail));all_goals first|(exact⟨⟨⟨_,rfl,trivial⟩,.sc⟩,rfl⟩)|trace_state
theorem qE(v:Vl):EB 142 [.agg v.c]:=by
 refine ECall.cut (R:=fun p _=> ∃b:Bool,p=bo b) (pv func142 30 false Qf6 rfl rfl ?_) Qhn;refine g2 ?_;(repeat' (first|refine gz ?_|(refine gn ?_;intro zs zh;(try simp only[go_sem] at zh);subst zh;(first|refine gv ?_|(refine zC ((zc1 v.s).call zK Qf4 _) ?_;intro p2 h2 hr2;obtain⟨hr2,rfl⟩:=hr2;first|obtain⟨_,rfl,hr2⟩:=hr2|obtain⟨_,rfl⟩:=hr2|subst hr2|skip)|(refine yS (fun he=> ?_) (fun he=> ?_)<;>(try simp only[mM] at he))))|((with_reducible refine tO rfl ?_);intro sr hsr;simp only[sK,wP] at hsr;subst hsr;(fail_if_success(with_reducible(first|refine tL ?_|refine tN ?_)));refine tK (fun he=> ?_) (fun he=> ?_)<;>(intro ts2 hts;simp only[wP] at hts;subst hts;(try simp only[mM] at he)))|fail));all_goals exact⟨_,rfl⟩
abbrev eS:BA:=⟨#[]⟩
theorem za8(s:BA)(hs:s.size<=140737488355328)(a b:Int):EB 339 [yQ s,u8 a,u8 b]:=by
 refine ECall.pure (pv func339 56 false Qf6 rfl rfl ?_);refine g2 ?_;by_cases h0:s=⟨#[]⟩
 ·exact Qb5
 have hp:=mN h0;(have F:=(a2 @h0 @mT);(repeat' (first|refine dR F ?_|refine dQ F (fun he=> ?_) (fun he=> ?_)|fail));all_goals clear F);all_goals first|(exact⟨⟨⟨_,rfl,trivial⟩,.sc⟩,rfl⟩)|skip
 refine zO s.data.toList.length (K4 (.k:: .k:: .d:: .k:: .d::K9 (K9 (K4 (.v::D9 (D9 (D4 (.d:: .d::[])))))))) (own:=false) (fun i (_:Unit)=>[i64 i]) (fun _=>_) (fun _ _=>True) () rfl rfl trivial hs ?_ ?_
 ·exact Qf0
 ·exact Qa8
theorem tW(s:BA)(hs:s.size<=140737488355328):EB 290 [yQ s]:=by
 refine ECall.pure (pv func290 5 false Qf6 rfl rfl ?_);refine g2 ?_;refine ge ?_;(refine g1 ?_;refine zC ((za8 s hs _ _).call zK Qf4 _) ?_;intro p2 h2 hr2;refine g2 ?_);obtain⟨⟨b,rfl,_⟩,rfl⟩:=hr2;refine ge ?_;(exact⟨⟨⟨_,rfl,trivial⟩,.sc⟩,rfl⟩)
theorem vG(s:BA)(hs:s.size<=140737488355328):EB 281 [yQ s]:=by
 refine ECall.pure (pv func281 17 false Qf6 rfl rfl ?_);refine g2 ?_;(repeat' (first|refine gz ?_|(refine gn ?_;intro zs zh;(try simp only[go_sem] at zh);subst zh;(first|refine gv ?_|(refine zC ((za8 s hs _ _).call zK Qf4 _) ?_;intro p2 h2 hr2;obtain⟨hr2,rfl⟩:=hr2;first|obtain⟨_,rfl,hr2⟩:=hr2|obtain⟨_,rfl⟩:=hr2|subst hr2|skip)|(refine yS (fun he=> ?_) (fun he=> ?_)<;>(try simp only[mM] at he))))|((with_reducible refine tO rfl ?_);intro sr hsr;simp only[sK,wP] at hsr;subst hsr;(fail_if_success(with_reducible(first|refine tL ?_|refine tN ?_)));refine tK (fun he=> ?_) (fun he=> ?_)<;>(intro ts2 hts;simp only[wP] at hts;subst hts;(try simp only[mM] at he)))|fail));all_goals (exact⟨⟨⟨_,rfl,trivial⟩,.sc⟩,rfl⟩)
theorem sL(s:BA)(r:Bool)(g:FuncId)(hF:EB g [yQ s]):EB 289 [yQ s,bo r,.fn (.func g) [] []] fun b=>b=true->r=false->s=eS:=by
 refine ECall.pure (pv func289 14 false Qf6 rfl rfl ?_);refine g2 ?_;cases r
 ·by_cases h0:s=eS
  ·subst h0;refine ge ?_;exact⟨⟨⟨_,rfl,fun _ _=>rfl⟩,.sc⟩,rfl⟩
  ·have hb:=Zz h0;refine gf (a2 @h0 @hb) ?_;exact Qby
 ·refine ge ?_;(refine g1 ?_;refine zC (hF.call zK Qf4 _) ?_;intro p2 h2 hr2;refine g2 ?_);obtain⟨⟨b,rfl,_⟩,rfl⟩:=hr2;refine ge ?_;exact Qby
def Vl.ok(v:Vl):Prop:=v.s.size<=140737488355328
structure Tm.ok(t:Tm):Prop where
 v:t.var.size<=140737488355328
 k:t.k.s.size<=140737488355328
theorem eqV(a b c d:Int)(s t:BA):za2 (α:=Prop) prog 168 (.agg [i64 a,i64 b,yQ s]) (.agg [i64 c,i64 d,yQ t])=some (a==c&&(b==d&&(decide (s=t)&&true)),True):=by
 kernel_rfl
theorem bB(t:Tm)(ht:t.ok):EB 292 [.agg t.c]:=by
 refine ECall.cut (R:=fun p _=> ∃b:Bool,p=bo b) (pv func292 18 false Qf6 rfl rfl ?_) Qhn;refine g2 ?_;obtain⟨v,⟨a,b,s⟩⟩:=t;(repeat' (first|refine gz ?_|(refine gn ?_;intro zs zh;(try simp only[go_sem,eqV] at zh);subst zh;(first|refine gv ?_|((first|refine zC ((qE ⟨a,b,s⟩).call zK Qfe _) ?_|refine zC ((tW v ht.v).call zK Qf4 _) ?_);intro p2 h2 hr2;obtain⟨hr2,rfl⟩:=hr2;first|obtain⟨_,rfl,hr2⟩:=hr2|obtain⟨_,rfl⟩:=hr2|subst hr2|skip)|(refine yS (fun he=> ?_) (fun he=> ?_)<;>(try simp only[mM] at he))))|((with_reducible refine tO rfl ?_);intro sr hsr;simp only[sK,wP] at hsr;subst hsr;(fail_if_success(with_reducible(first|refine tL ?_|refine tN ?_)));refine tK (fun he=> ?_) (fun he=> ?_)<;>(intro ts2 hts;simp only[wP] at hts;subst hts;(try simp only[mM] at he)))|fail));all_goals first|exact⟨_,rfl⟩|trace_state
structure Li.ok(l:Li):Prop where
 n:l.name.size<=140737488355328
 b:l.bind.size<=140737488355328
 e:l.elem.size<=140737488355328
 al:l.args.length<=140737488355328
 a: ∀t∈l.args,t.ok
structure Li.fm(l:Li):Prop where
 a:l.args.length<=4
 c:l.kind=5->l.args.length=2
 b:l.bind≠eS->l.kind=1
theorem zuN(l:List Tm): ∀x∈l, ∀p∈([.agg x.c]:List PV),Tree p:=by simp[zJ]
theorem zjN(l:Li)(hl:l.ok):EB 294 [.agg l.c] fun b=>b=true->l.fm:=by
 refine ECall.cut (R:=fun p _=> ∃b:Bool,p=bo b/\(b=true->l.fm)) (pv func294 78 false Qf6 rfl rfl ?_) Qhe;refine g2 ?_;obtain⟨kind,name,pred,args,bind,elem,least,op,at'⟩:=l;obtain⟨h1,h2,h3,h4,h5⟩:=hl;dsimp only at h1 h2 h3 h4 h5;have hall:=zhX args (fun _=>True) 4 292 [] h4 (fun x hx=>(bB x (h5 x hx)).mono Qhr) (zuN args);(repeat' (first|refine gz ?_|(refine gn ?_;intro zs zh;(try simp only[go_sem] at zh);subst zh;(first|refine gv ?_|((first|refine zC (hall.call zK Qfp _) ?_|refine zC ((sL name _ _ (vG name h1)).call zK Qff _) ?_|refine zC ((sL elem _ _ (vG elem h3)).call zK Qff _) ?_|refine zC ((sL bind _ _ (tW bind h2)).call zK Qff _) ?_);intro p2 h2 hr2;obtain⟨hr2,rfl⟩:=hr2;first|obtain⟨_,rfl,hr2⟩:=hr2|obtain⟨_,rfl⟩:=hr2|subst hr2|skip)|(refine yS (fun he=> ?_) (fun he=> ?_)<;>(try simp only[mM] at he))))|((with_reducible refine tO rfl ?_);intro sr hsr;simp only[sK,wP] at hsr;subst hsr;(fail_if_success(with_reducible(first|refine tL ?_|refine tN ?_)));refine tK (fun he=> ?_) (fun he=> ?_)<;>(intro ts2 hts;simp only[wP] at hts;subst hts;(try simp only[mM] at he)))|fail));all_goals try(exact⟨false,rfl,Qf4⟩)
 all_goals (refine⟨_,rfl,fun _=>⟨?_,fun hk=> ?_,fun hb=> ?_⟩⟩<;>clear hall<;>dsimp only at* <;>grind)
end Go.AL
