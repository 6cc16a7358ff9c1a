/-
  Programs: whether literals, rules, functions and predicates are formed.
-/
import Derived.Test.YtcffidhiaihbkaaGreatDoorX18
set_option linter.unusedSimpArgs false
set_option linter.unusedVariables false
set_option maxRecDepth 100000
set_option maxHeartbeats 4000000
namespace Go.AL
open Go.Proofs Go.Proofs.Tryz
theorem cX (l:La) (hl:l.ok):EPure prog G0 81 [.agg l.c] fun p=> ∃ (os:List Int) (b:Bool),p= .tup [.agg (os.map u8),bo b]∧os.length=8∧(b=true→1≤l.elems.length∧l.elems.length≤8∧Low l.elems.length os):=by
 refine ECall.cut (R:=fun p _=> ∃ (os:List Int) (b:Bool),p= .tup [.agg (os.map u8),bo b]∧os.length=8∧(b=true→1≤l.elems.length∧l.elems.length≤8∧Low l.elems.length os)) (pv func81 13 false (by kernel_rfl) rfl rfl ?_) ?_
 refine g2 ?_
 ·refine ge ?_
  (refine g1 ?_;refine zC ((bJ l hl).call zK (by simp [zJ]) _) ?_;intro p2 h2 hr2;refine g2 ?_)
  obtain ⟨⟨os,e,rfl,hos,he⟩,rfl⟩:=hr2
  have ht8:=kK hos
  have hdr:(os.map u8).drop 8=[]:=List.drop_eq_nil_of_le (by simp [hos])
  (repeat (first|refine gz ?_|(refine gn ?_;intro zs zh;(try simp only [go_sem,ht8,hdr,List.length_map,hos] at zh);subst zh;refine gv ?_)))
  exact ⟨os,_,rfl,hos,fun h=>he (by simpa using h)⟩
 ·rintro p h ⟨os,e,rfl,h1⟩
  exact ⟨os,e,vE _ _ _ _ (by simp [zU]),h1⟩
theorem fB (l:La) (hl:l.ok) (xs:List Int) (hx:xs.length≤140737488355328):EB 82 [.agg l.c,vF xs] fun b=>b=true→ ∀ x∈xs,0≤x∧x<l.elems.length:=by
 refine ECall.cut (R:=fun p _=> ∃ b:Bool,p=bo b∧(b=true→ ∀ x∈xs,0≤x∧x<l.elems.length)) (pv func82 23 false (by kernel_rfl) rfl rfl ?_) ?_
 refine g2 ?_
 ·refine ge ?_
  refine zO xs.length (K4 (.d:: .k:: .d:: .k:: .k:: .v::D9 (D4 ([])))) (own:=false) (fun i (_:Unit)=>[i64 i]) (fun _=>_) (fun i _=> ∀ j (h:j<i) (h2:j<xs.length),0≤xs[j]∧xs[j]<l.elems.length) () rfl rfl (by intro j h;omega) hx ?_ ?_
  ·rintro _ hI
   refine gm ?_
   refine gf @zM ?_
   refine ⟨true,rfl,fun _ x hx=> ?_⟩
   obtain ⟨j,hj,rfl⟩:=List.getElem_of_mem hx
   exact hI j hj hj
  ·rintro i _ hi hw hI
   refine gm ?_
   have hg:=zG (f:=fun n:Int=>[i64 n]) [] hi
   (have F:=(a4 @hi @hw @hg @zB);(repeat' (first|refine dR F ?_|refine dQ F (fun he=> ?_) (fun he=> ?_)|fail));all_goals clear F)
   ·exact ⟨false,rfl,by simp⟩
   ·exact ⟨false,rfl,by simp⟩
   ·refine ⟨(),fun j hj h2=> ?_,rfl,rfl,rfl⟩
    rcases Nat.lt_or_ge j i with h|h
    ·exact hI j h h2
    ·have:j=i:=by omega
     subst this;omega
 ·rintro p h ⟨e,rfl,h1⟩
  exact ⟨e,rfl,h1⟩
theorem zhG (l:La) (hl:l.ok) (xs:List Int) (hx:xs.length≤140737488355328):EI 56 [.agg l.c,vF xs] fun r=> -1≤r∧(r= -1∨r<l.elems.length):=by
 refine ECall.cut (R:=fun p _=> ∃ r:Int,p=i64 r∧ -1≤r∧(r= -1∨r<l.elems.length)) (pv func56 46 false (by kernel_rfl) rfl rfl ?_) ?_
 refine g2 ?_
 ·refine ge ?_
  (refine g1 ?_;refine zC ((cX l hl).call zK (by simp [zJ]) _) ?_;intro p2 h2 hr2;refine g2 ?_)
  obtain ⟨⟨os,b,rfl,hos,hb⟩,rfl⟩:=hr2
  have ht8:=kK hos
  have hdr:(os.map u8).drop 8=[]:=List.drop_eq_nil_of_le (by simp [hos])
  cases b with
  |false=>
   (repeat (first|refine gz ?_|(refine gn ?_;intro zs zh;(try simp only [go_sem,List.length_map,hos,hdr] at zh);subst zh;refine gv ?_)))
   exact ⟨-1,rfl,by omega⟩
  | true=>
   obtain ⟨hn1,hn8, -⟩:=hb rfl
   (repeat (first|refine gz ?_|(refine gn ?_;intro zs zh;(try simp only [go_sem,List.length_map,hos,hdr] at zh);subst zh;refine gv ?_)))
   (refine g1 ?_;refine zC ((fB l hl xs hx).call zK (by simp [zJ]) _) ?_;intro p2 h2 hr2;refine g2 ?_)
   obtain ⟨⟨b2,rfl,hin⟩,rfl⟩:=hr2
   cases b2 with
   |false=>
    refine ge ?_
    exact ⟨-1,rfl,by omega⟩
   | true=>
    have hin:=hin rfl
    refine ge ?_
    refine zO xs.length (K4 (.k:: .k:: .k:: .v:: .k:: .d::K9 (K9 (.k:: .k:: .v::D9 (K4 (.k:: .k::[])))))) (own:=false) (fun i (u:Int)=>[u8 u,i64 i]) (fun _=>_) (fun i _=>True) _ rfl rfl trivial hx ?_ ?_
    ·rintro u hI
     refine gm ?_
     refine gf (a2 @zM @ht8) ?_
     (refine g1f @ht8 ?_;refine zC ((oC os hos _ l.elems.length hn8).call zK (by simp [qM]) _) ?_;intro p2 h2 hr2;refine g2 ?_)
     obtain ⟨⟨r,rfl,hr⟩,rfl⟩:=hr2
     refine ge ?_
     exact ⟨r,rfl,hr.1,.inr hr.2⟩
    ·rintro i u hi hw hI
     refine gm ?_
     obtain ⟨h1,h2⟩:=hin _ (List.getElem_mem hi)
     obtain ⟨m,hm⟩:=Int.eq_ofNat_of_zero_le h1
     have hg:(xs.map fun n:Int=>[i64 n]).getD i []=[i64 m]:=by rw [zG [] hi,hm]
     have hm8:m<os.length:=by omega
     have hd:=yU u8 os m .un hm8
     refine gf (a5 @hi @hw @hg @zB @hd) ?_
     exact ⟨_,trivial,(by simp only [zY,xJ,List.tail_cons];rfl),rfl,rfl⟩
 ·rintro p h ⟨e,rfl,h1⟩
  exact ⟨e,rfl,h1⟩
theorem qJ (l:La) (hl:l.ok):EI 25 [.agg l.c] fun r=> -1≤r∧(r= -1∨r<l.elems.length):=by
 refine ECall.cut (R:=fun p _=> ∃ r:Int,p=i64 r∧ -1≤r∧(r= -1∨r<l.elems.length)) (pv func25 5 false (by kernel_rfl) rfl rfl ?_) ?_
 refine g2 ?_
 ·refine ge ?_
  (refine g1 ?_;refine zC (((zhG l hl [] (by simp)).args (.cons (PLe.refl _) (.cons (PLe.nil_ts 1) .nil))).call zK (by simp [zJ,cJ]) _) ?_;intro p2 h2 hr2;refine g2 ?_)
  obtain ⟨⟨r,rfl,hr⟩,rfl⟩:=hr2
  refine ge ?_
  exact ⟨r,rfl,hr⟩
 ·rintro p h ⟨e,rfl,h1⟩
  exact ⟨e,rfl,h1⟩
end Go.AL
namespace Go.AL
open Go.Proofs Go.Proofs.Tryz
theorem aR (s:ByteArray) (i:Nat):1≤(Utf8.decode s i).2:=by
 unfold Utf8.decode
 dsimp only
 repeat' split
 all_goals simp
abbrev i32 (n:Int):PV:= .sc (.int .i32 n)
@[simp] theorem tr_i32 {n:Int}:Tree (i32 n)↔True:=oN
theorem gK:zm0.length=10:=rfl
theorem zg6:(zm0.map yQ).map (fun x=>[x])=zm0.map fun s=>[yQ s]:=by rw [List.map_map];rfl
theorem jL (n:Int):EB 131 [i32 n]:=by
 refine ECall.pure (pv func131 30 false (by kernel_rfl) rfl rfl ?_)
 refine g2 ?_
 (repeat' (first|refine gp ?_|refine gs (fun he=> ?_) (fun he=> ?_)|fail))
 all_goals exact ⟨⟨⟨_,rfl,trivial⟩,.sc⟩,rfl⟩
theorem gC (s:BA) (g:FuncId) (t:Bool) (hF: ∀ n:Int,EB g [i32 n]):EI 207 [yQ s,.fn (.func g) [] [],bo t]:=by
 refine ECall.cut (R:=fun p _=> ∃ n:Int,p=i64 n) (pv func207 21 false (by kernel_rfl) rfl rfl ?_) (by rintro p h ⟨n,rfl⟩;exact ⟨n,rfl,trivial⟩)
 refine g2 ?_
 have htm:kC prog 9=none:=by kernel_rfl
 refine gf @htm ?_
 refine zW (K4 (.k:: .k:: .d:: .d:: .d:: .k:: .k::D9 (.d::[]))) (fun (s:Nat)=>[]) (fun n=>[.siter s n]) (fun _=>True) (fun n=>s.size-n) (own:=false) 0 rfl rfl trivial ?_
 rintro n _
 refine gm ?_
 by_cases hn:n<s.size
 ·have hd:=aR s n
  generalize hq:Utf8.decode s n=q at*
  obtain ⟨c,k⟩:=q
  refine gf (a2 @hn @hq) ?_
  (refine g1 ?_;refine zC ((hF c).call zK (by simp) _) ?_;intro p2 h2 hr2;refine g2 ?_)
  obtain ⟨⟨b,rfl,_⟩,rfl⟩:=hr2
  (repeat' (first|refine gp ?_|refine gs (fun he=> ?_) (fun he=> ?_)|fail))
  ·exact ⟨_,rfl⟩
  ·exact ⟨n+k,trivial,by dsimp only at hd;omega,rfl,rfl,rfl⟩
 ·refine gf @hn ?_
  exact ⟨_,rfl⟩
theorem jD (s:BA) (g:FuncId) (hF: ∀ n:Int,EB g [i32 n]):EI 173 [yQ s,.fn (.func g) [] []]:=by
 refine ECall.pure (pv func173 8 false (by kernel_rfl) rfl rfl ?_)
 refine g2 ?_
 refine ge ?_
 (refine g1 ?_;refine zC ((gC s g true hF).call zK (by simp [yO]) _) ?_;intro p2 h2 hr2;refine g2 ?_)
 obtain ⟨⟨b,rfl,_⟩,rfl⟩:=hr2
 refine ge ?_
 exact ⟨⟨⟨_,rfl,trivial⟩,.sc⟩,rfl⟩
theorem rX (s:BA) (g:FuncId) (hF: ∀ n:Int,EB g [i32 n]):EB 132 [yQ s,.fn (.func g) [] []]:=by
 refine ECall.pure (pv func132 9 false (by kernel_rfl) rfl rfl ?_)
 refine g2 ?_
 refine ge ?_
 (refine g1 ?_;refine zC ((jD s g hF).call zK (by simp [yO]) _) ?_;intro p2 h2 hr2;refine g2 ?_)
 obtain ⟨⟨b,rfl,_⟩,rfl⟩:=hr2
 refine ge ?_
 exact ⟨⟨⟨_,rfl,trivial⟩,.sc⟩,rfl⟩
theorem zc1 (s:BA):EB 89 [yQ s]:=by
 refine ECall.pure (pv func89 30 false (by kernel_rfl) rfl rfl ?_)
 refine g2 ?_
 by_cases h0:s=⟨#[]⟩
 ·subst h0
  (repeat' (first|refine gp ?_|refine gs (fun he=> ?_) (fun he=> ?_)|fail))
  exact ⟨⟨⟨_,rfl,trivial⟩,.sc⟩,rfl⟩
 have hp:=mN h0
 (repeat' (first|refine gz ?_|(refine gn ?_;intro zs zh;(try simp only [go_sem,h0,g0_0,gK,zg6] at zh);subst zh;(first|refine gv ?_|((first|refine zC ((wC zm0 _ eI).call zK (by simp) _) ?_|refine zC ((rX s _ jL).call zK (by simp [yO]) _) ?_);intro p2 h2 hr2;obtain ⟨hr2,rfl⟩:=hr2;first|obtain ⟨_,rfl,hr2⟩:=hr2|obtain ⟨_,rfl⟩:=hr2|subst hr2|skip)|(refine yS (fun he=> ?_) (fun he=> ?_)<;>(try simp only [mM] at he))))|((with_reducible refine tO rfl ?_);intro sr hsr;simp only [sK,wP] at hsr;subst hsr;(fail_if_success (with_reducible (first|refine tL ?_|refine tN ?_)));refine tK (fun he=> ?_) (fun he=> ?_)<;>(intro ts2 hts;simp only [wP] at hts;subst hts;(try simp only [mM] at he)))|fail))
 all_goals first|(exact ⟨⟨⟨_,rfl,trivial⟩,.sc⟩,rfl⟩)|trace_state
theorem qE (v:Vl):EB 61 [.agg v.c]:=by
 refine ECall.cut (R:=fun p _=> ∃ b:Bool,p=bo b) (pv func61 30 false (by kernel_rfl) rfl rfl ?_) (by rintro p h ⟨n,rfl⟩;exact ⟨n,rfl,trivial⟩)
 refine g2 ?_
 (repeat' (first|refine gz ?_|(refine gn ?_;intro zs zh;(try simp only [go_sem] at zh);subst zh;(first|refine gv ?_|(refine zC ((zc1 v.s).call zK (by simp) _) ?_;intro p2 h2 hr2;obtain ⟨hr2,rfl⟩:=hr2;first|obtain ⟨_,rfl,hr2⟩:=hr2|obtain ⟨_,rfl⟩:=hr2|subst hr2|skip)|(refine yS (fun he=> ?_) (fun he=> ?_)<;>(try simp only [mM] at he))))|((with_reducible refine tO rfl ?_);intro sr hsr;simp only [sK,wP] at hsr;subst hsr;(fail_if_success (with_reducible (first|refine tL ?_|refine tN ?_)));refine tK (fun he=> ?_) (fun he=> ?_)<;>(intro ts2 hts;simp only [wP] at hts;subst hts;(try simp only [mM] at he)))|fail))
 all_goals exact ⟨_,rfl⟩
end Go.AL
namespace Go.AL
open Go.Proofs Go.Proofs.Tryz
abbrev eS:BA:=⟨#[]⟩
theorem za8 (s:BA) (hs:s.size≤140737488355328) (a b:Int):EB 192 [yQ s,u8 a,u8 b]:=by
 refine ECall.pure (pv func192 56 false (by kernel_rfl) rfl rfl ?_)
 refine g2 ?_
 by_cases h0:s=⟨#[]⟩
 ·subst h0
  (repeat' (first|refine gp ?_|refine gs (fun he=> ?_) (fun he=> ?_)|fail))
  exact ⟨⟨⟨_,rfl,trivial⟩,.sc⟩,rfl⟩
 have hp:=mN h0
 (have F:=(a2 @h0 @mT);(repeat' (first|refine dR F ?_|refine dQ F (fun he=> ?_) (fun he=> ?_)|fail));all_goals clear F)
 all_goals first|(exact ⟨⟨⟨_,rfl,trivial⟩,.sc⟩,rfl⟩)|skip
 refine zO s.data.toList.length (K4 (.k:: .k:: .d:: .k:: .d::K9 (K9 (K4 (.v::D9 (D9 (D4 (.d:: .d::[])))))))) (own:=false) (fun i (_:Unit)=>[i64 i]) (fun _=>_) (fun _ _=>True) () rfl rfl trivial hs ?_ ?_
 ·rintro s hI
  refine gm ?_
  refine gf @zM ?_
  (exact ⟨⟨⟨_,rfl,trivial⟩,.sc⟩,rfl⟩)
 ·rintro i _ hi hw _
  refine gm ?_
  have hx:=zG (f:=ziC) [] hi
  (repeat' (first|refine gz ?_|(refine gn ?_;intro zs zh;(try simp only [go_sem,hi,hx,ziC,zB,hw] at zh);subst zh;(first|refine gv ?_|(refine yS (fun he=> ?_) (fun he=> ?_)<;>(try simp only [mM] at he))))|((with_reducible refine tO rfl ?_);intro sr hsr;simp only [sK,wP] at hsr;subst hsr;(fail_if_success (with_reducible (first|refine tL ?_|refine tN ?_)));refine tK (fun he=> ?_) (fun he=> ?_)<;>(intro ts2 hts;simp only [wP] at hts;subst hts;(try simp only [mM] at he)))|fail))
  all_goals first|(exact ⟨⟨⟨_,rfl,trivial⟩,.sc⟩,rfl⟩)|(refine ⟨(),trivial,?_,?_,rfl⟩<;>simp only [zY,xJ,List.tail_cons])
theorem tW (s:BA) (hs:s.size≤140737488355328):EB 154 [yQ s]:=by
 refine ECall.pure (pv func154 5 false (by kernel_rfl) rfl rfl ?_)
 refine g2 ?_
 refine ge ?_
 (refine g1 ?_;refine zC ((za8 s hs _ _).call zK (by simp) _) ?_;intro p2 h2 hr2;refine g2 ?_)
 obtain ⟨⟨b,rfl,_⟩,rfl⟩:=hr2
 refine ge ?_
 (exact ⟨⟨⟨_,rfl,trivial⟩,.sc⟩,rfl⟩)
theorem vG (s:BA) (hs:s.size≤140737488355328):EB 145 [yQ s]:=by
 refine ECall.pure (pv func145 17 false (by kernel_rfl) rfl rfl ?_)
 refine g2 ?_
 (repeat' (first|refine gz ?_|(refine gn ?_;intro zs zh;(try simp only [go_sem] at zh);subst zh;(first|refine gv ?_|(refine zC ((za8 s hs _ _).call zK (by simp) _) ?_;intro p2 h2 hr2;obtain ⟨hr2,rfl⟩:=hr2;first|obtain ⟨_,rfl,hr2⟩:=hr2|obtain ⟨_,rfl⟩:=hr2|subst hr2|skip)|(refine yS (fun he=> ?_) (fun he=> ?_)<;>(try simp only [mM] at he))))|((with_reducible refine tO rfl ?_);intro sr hsr;simp only [sK,wP] at hsr;subst hsr;(fail_if_success (with_reducible (first|refine tL ?_|refine tN ?_)));refine tK (fun he=> ?_) (fun he=> ?_)<;>(intro ts2 hts;simp only [wP] at hts;subst hts;(try simp only [mM] at he)))|fail))
 all_goals (exact ⟨⟨⟨_,rfl,trivial⟩,.sc⟩,rfl⟩)
theorem sL (s:BA) (r:Bool) (g:FuncId) (hF:EB g [yQ s]):EB 153 [yQ s,bo r,.fn (.func g) [] []] fun b=>b=true→r=false→s=eS:=by
 refine ECall.pure (pv func153 14 false (by kernel_rfl) rfl rfl ?_)
 refine g2 ?_
 cases r
 ·by_cases h0:s=eS
  ·subst h0
   refine ge ?_
   exact ⟨⟨⟨_,rfl,fun _ _=>rfl⟩,.sc⟩,rfl⟩
  ·have hb:=decide_eq_false h0
   refine gf (a2 @h0 @hb) ?_
   exact ⟨⟨⟨_,rfl,by simp⟩,.sc⟩,rfl⟩
 ·refine ge ?_
  (refine g1 ?_;refine zC (hF.call zK (by simp) _) ?_;intro p2 h2 hr2;refine g2 ?_)
  obtain ⟨⟨b,rfl,_⟩,rfl⟩:=hr2
  refine ge ?_
  exact ⟨⟨⟨_,rfl,by simp⟩,.sc⟩,rfl⟩
def Vl.ok (v:Vl):Prop:=v.s.size≤140737488355328
structure Tm.ok (t:Tm):Prop where
 v:t.var.size≤140737488355328
 k:t.k.s.size≤140737488355328
theorem eqV (a b c d:Int) (s t:BA):sE (α:=Prop) prog 79 (.agg [i64 a,i64 b,yQ s]) (.agg [i64 c,i64 d,yQ t])=some (a==c&&(b==d&&(decide (s=t)&&true)),True):=by
 kernel_rfl
theorem bB (t:Tm) (ht:t.ok):EB 156 [.agg t.c]:=by
 refine ECall.cut (R:=fun p _=> ∃ b:Bool,p=bo b) (pv func156 18 false (by kernel_rfl) rfl rfl ?_) (by rintro p h ⟨n,rfl⟩;exact ⟨n,rfl,trivial⟩)
 refine g2 ?_
 obtain ⟨v,⟨a,b,s⟩⟩:=t
 (repeat' (first|refine gz ?_|(refine gn ?_;intro zs zh;(try simp only [go_sem,eqV] at zh);subst zh;(first|refine gv ?_|((first|refine zC ((qE ⟨a,b,s⟩).call zK (by simp [zJ]) _) ?_|refine zC ((tW v ht.v).call zK (by simp) _) ?_);intro p2 h2 hr2;obtain ⟨hr2,rfl⟩:=hr2;first|obtain ⟨_,rfl,hr2⟩:=hr2|obtain ⟨_,rfl⟩:=hr2|subst hr2|skip)|(refine yS (fun he=> ?_) (fun he=> ?_)<;>(try simp only [mM] at he))))|((with_reducible refine tO rfl ?_);intro sr hsr;simp only [sK,wP] at hsr;subst hsr;(fail_if_success (with_reducible (first|refine tL ?_|refine tN ?_)));refine tK (fun he=> ?_) (fun he=> ?_)<;>(intro ts2 hts;simp only [wP] at hts;subst hts;(try simp only [mM] at he)))|fail))
 all_goals first|exact ⟨_,rfl⟩|trace_state
end Go.AL
namespace Go.AL
open Go.Proofs Go.Proofs.Tryz
structure Li.ok (l:Li):Prop where
 n:l.name.size≤140737488355328
 b:l.bind.size≤140737488355328
 e:l.elem.size≤140737488355328
 al:l.args.length≤140737488355328
 a: ∀ t∈l.args,t.ok
structure Li.fm (l:Li):Prop where
 a:l.args.length≤4
 c:l.kind=5→l.args.length=2
 b:l.bind≠eS→l.kind=1
theorem gO (l:List Tm): ∀ x∈l, ∀ p∈([.agg x.c]:List PV),Tree p:=by simp [zJ]
theorem zjN (l:Li) (hl:l.ok):EB 158 [.agg l.c] fun b=>b=true→l.fm:=by
 refine ECall.cut (R:=fun p _=> ∃ b:Bool,p=bo b∧(b=true→l.fm)) (pv func158 78 false (by kernel_rfl) rfl rfl ?_) (by rintro p h ⟨n,rfl,h⟩;exact ⟨n,rfl,h⟩)
 refine g2 ?_
 obtain ⟨kind,name,pred,args,bind,elem,least,op,at'⟩:=l
 obtain ⟨h1,h2,h3,h4,h5⟩:=hl
 dsimp only at h1 h2 h3 h4 h5
 have hall:=zhX args (fun _=>True) 4 156 [] h4 (fun x hx=>(bB x (h5 x hx)).mono (by rintro p ⟨b,rfl,_⟩;exact ⟨b,rfl,fun _=>trivial⟩)) (gO args)
 (repeat' (first|refine gz ?_|(refine gn ?_;intro zs zh;(try simp only [go_sem] at zh);subst zh;(first|refine gv ?_|((first|refine zC (hall.call zK (by simp [yO,zJ]) _) ?_|refine zC ((sL name _ _ (vG name h1)).call zK (by simp [yO]) _) ?_|refine zC ((sL elem _ _ (vG elem h3)).call zK (by simp [yO]) _) ?_|refine zC ((sL bind _ _ (tW bind h2)).call zK (by simp [yO]) _) ?_);intro p2 h2 hr2;obtain ⟨hr2,rfl⟩:=hr2;first|obtain ⟨_,rfl,hr2⟩:=hr2|obtain ⟨_,rfl⟩:=hr2|subst hr2|skip)|(refine yS (fun he=> ?_) (fun he=> ?_)<;>(try simp only [mM] at he))))|((with_reducible refine tO rfl ?_);intro sr hsr;simp only [sK,wP] at hsr;subst hsr;(fail_if_success (with_reducible (first|refine tL ?_|refine tN ?_)));refine tK (fun he=> ?_) (fun he=> ?_)<;>(intro ts2 hts;simp only [wP] at hts;subst hts;(try simp only [mM] at he)))|fail))
 all_goals try (exact ⟨false,rfl,by simp⟩)
 all_goals (refine ⟨_,rfl,fun _=>⟨?_,fun hk=> ?_,fun hb=> ?_⟩⟩<;>clear hall<;>dsimp only at* <;>grind)
end Go.AL
