/-
  Relations: rows sorted in place: parts merged, short ones.
-/
import Derived.Test.YtfjkncfjclifoaaGreatDoorZ19
set_option linter.unusedSimpArgs false
set_option linter.unusedVariables false
set_option maxRecDepth 100000
set_option maxHeartbeats 4000000
namespace Go.AL
open Go.Proofs Go.Proofs.Tryz
theorem cX (l:La) (hl:l.ok):EPure prog G0 144 [.agg l.c] fun p=> ∃ (os:List Int) (b:Bool),p= .tup [.agg (os.map u8),bo b]∧os.length=8∧(b=true→1≤l.elems.length∧l.elems.length≤8∧Low l.elems.length os):=by
 refine ECall.cut (R:=fun p _=> ∃ (os:List Int) (b:Bool),p= .tup [.agg (os.map u8),bo b]∧os.length=8∧(b=true→1≤l.elems.length∧l.elems.length≤8∧Low l.elems.length os)) (pv func144 13 false (by kernel_rfl) rfl rfl ?_) ?_
 refine g2 ?_
 ·refine ge ?_
  (refine g1 ?_;refine zC ((bJ l hl).call zK (by simp [zJ]) _) ?_;intro p2 h2 hr2;refine g2 ?_)
  obtain ⟨⟨os,e,rfl,hos,he⟩,rfl⟩:=hr2
  have ht8:=kK hos
  have hdr:(os.map u8).drop 8=[]:=List.drop_eq_nil_of_le (by simp [hos])
  (repeat (first|refine gz ?_|(refine gn ?_;intro zs zh;(try simp only [go_sem,ht8,hdr,List.length_map,hos] at zh);subst zh;refine gv ?_)))
  exact ⟨os,_,rfl,hos,fun h=>he (by simpa using h)⟩
 ·rintro p h ⟨os,e,rfl,h1⟩
  exact ⟨os,e,vE _ _ _ _ (by simp [zU]),h1⟩
theorem pV (l:La) (hl:l.ok):EI 76 [.agg l.c] fun e=>e=0→1≤l.elems.length∧l.elems.length≤8:=by
 refine ECall.cut (R:=fun p _=> ∃ (e:Int),p=i64 e∧(e=0→1≤l.elems.length∧l.elems.length≤8)) (pv func76 11 false (by kernel_rfl) rfl rfl ?_) ?_
 refine g2 ?_
 ·refine ge ?_
  (refine g1 ?_;refine zC ((bJ l hl).call zK (by simp [zJ]) _) ?_;intro p2 h2 hr2;refine g2 ?_)
  obtain ⟨⟨os,e,rfl,hos,he⟩,rfl⟩:=hr2
  (repeat (first|refine gz ?_|(refine gn ?_;intro zs zh;(try simp only [go_sem,List.length_map,hos] at zh);subst zh;refine gv ?_)))
  exact ⟨e,rfl,fun h=>⟨(he h).1,(he h).2.1⟩⟩
 ·rintro p h ⟨e,rfl,h1⟩
  exact ⟨e,rfl,h1⟩
theorem fB (l:La) (hl:l.ok) (xs:List Int) (hx:xs.length≤140737488355328):EB 145 [.agg l.c,vF xs] fun b=>b=true→ ∀ x∈xs,0≤x∧x<l.elems.length:=by
 refine ECall.cut (R:=fun p _=> ∃ b:Bool,p=bo b∧(b=true→ ∀ x∈xs,0≤x∧x<l.elems.length)) (pv func145 23 false (by kernel_rfl) rfl rfl ?_) ?_
 refine g2 ?_
 ·refine ge ?_
  refine zO xs.length (K4 (.d:: .k:: .d:: .k:: .k:: .v::D9 (D4 ([])))) (own:=false) (fun i (_:Unit)=>[i64 i]) (fun _=>_) (fun i _=> ∀ j (h:j<i) (h2:j<xs.length),0≤xs[j]∧xs[j]<l.elems.length) () rfl rfl (by intro j h;omega) hx ?_ ?_
  ·rintro _ hI
   refine gm ?_
   refine gf @zM ?_
   refine ⟨true,rfl,fun _ x hx=> ?_⟩
   obtain ⟨j,hj,rfl⟩:=List.getElem_of_mem hx
   exact hI j hj hj
  ·rintro i _ hi hw hI
   refine gm ?_
   have hg:=zG (f:=fun n:Int=>[i64 n]) [] hi
   (have F:=(a4 @hi @hw @hg @zB);(repeat' (first|refine dR F ?_|refine dQ F (fun he=> ?_) (fun he=> ?_)|fail));all_goals clear F)
   ·exact ⟨false,rfl,by simp⟩
   ·exact ⟨false,rfl,by simp⟩
   ·refine ⟨(),fun j hj h2=> ?_,rfl,rfl,rfl⟩
    rcases Nat.lt_or_ge j i with h|h
    ·exact hI j h h2
    ·have:j=i:=by omega
     subst this;omega
 ·rintro p h ⟨e,rfl,h1⟩
  exact ⟨e,rfl,h1⟩
theorem zhG (l:La) (hl:l.ok) (xs:List Int) (hx:xs.length≤140737488355328):EI 103 [.agg l.c,vF xs] fun r=> -1≤r∧(r= -1∨r<l.elems.length):=by
 refine ECall.cut (R:=fun p _=> ∃ r:Int,p=i64 r∧ -1≤r∧(r= -1∨r<l.elems.length)) (pv func103 46 false (by kernel_rfl) rfl rfl ?_) ?_
 refine g2 ?_
 ·refine ge ?_
  (refine g1 ?_;refine zC ((cX l hl).call zK (by simp [zJ]) _) ?_;intro p2 h2 hr2;refine g2 ?_)
  obtain ⟨⟨os,b,rfl,hos,hb⟩,rfl⟩:=hr2
  have ht8:=kK hos
  have hdr:(os.map u8).drop 8=[]:=List.drop_eq_nil_of_le (by simp [hos])
  cases b with
  |false=>
   (repeat (first|refine gz ?_|(refine gn ?_;intro zs zh;(try simp only [go_sem,List.length_map,hos,hdr] at zh);subst zh;refine gv ?_)))
   exact ⟨-1,rfl,by omega⟩
  | true=>
   obtain ⟨hn1,hn8, -⟩:=hb rfl
   (repeat (first|refine gz ?_|(refine gn ?_;intro zs zh;(try simp only [go_sem,List.length_map,hos,hdr] at zh);subst zh;refine gv ?_)))
   (refine g1 ?_;refine zC ((fB l hl xs hx).call zK (by simp [zJ]) _) ?_;intro p2 h2 hr2;refine g2 ?_)
   obtain ⟨⟨b2,rfl,hin⟩,rfl⟩:=hr2
   cases b2 with
   |false=>
    refine ge ?_
    exact ⟨-1,rfl,by omega⟩
   | true=>
    have hin:=hin rfl
    refine ge ?_
    refine zO xs.length (K4 (.k:: .k:: .k:: .v:: .k:: .d::K9 (K9 (.k:: .k:: .v::D9 (K4 (.k:: .k::[])))))) (own:=false) (fun i (u:Int)=>[u8 u,i64 i]) (fun _=>_) (fun i _=>True) _ rfl rfl trivial hx ?_ ?_
    ·rintro u hI
     refine gm ?_
     refine gf (a2 @zM @ht8) ?_
     (refine g1f @ht8 ?_;refine zC ((oC os hos _ l.elems.length hn8).call zK (by simp [qM]) _) ?_;intro p2 h2 hr2;refine g2 ?_)
     obtain ⟨⟨r,rfl,hr⟩,rfl⟩:=hr2
     refine ge ?_
     exact ⟨r,rfl,hr.1,.inr hr.2⟩
    ·rintro i u hi hw hI
     refine gm ?_
     obtain ⟨h1,h2⟩:=hin _ (List.getElem_mem hi)
     obtain ⟨m,hm⟩:=Int.eq_ofNat_of_zero_le h1
     have hg:(xs.map fun n:Int=>[i64 n]).getD i []=[i64 m]:=by rw [zG [] hi,hm]
     have hm8:m<os.length:=by omega
     have hd:=yU u8 os m .un hm8
     refine gf (a5 @hi @hw @hg @zB @hd) ?_
     exact ⟨_,trivial,(by simp only [zY,xJ,List.tail_cons];rfl),rfl,rfl⟩
 ·rintro p h ⟨e,rfl,h1⟩
  exact ⟨e,rfl,h1⟩
theorem qJ (l:La) (hl:l.ok):EI 78 [.agg l.c] fun r=> -1≤r∧(r= -1∨r<l.elems.length):=by
 refine ECall.cut (R:=fun p _=> ∃ r:Int,p=i64 r∧ -1≤r∧(r= -1∨r<l.elems.length)) (pv func78 5 false (by kernel_rfl) rfl rfl ?_) ?_
 refine g2 ?_
 ·refine ge ?_
  (refine g1 ?_;refine zC (((zhG l hl [] (by simp)).args (.cons (PLe.refl _) (.cons (PLe.nil_ts 1) .nil))).call zK (by simp [zJ,cJ]) _) ?_;intro p2 h2 hr2;refine g2 ?_)
  obtain ⟨⟨r,rfl,hr⟩,rfl⟩:=hr2
  refine ge ?_
  exact ⟨r,rfl,hr⟩
 ·rintro p h ⟨e,rfl,h1⟩
  exact ⟨e,rfl,h1⟩
theorem zjE (l:La) (hl:l.ok) (a b:Int):EI 134 [.agg l.c,i64 a,i64 b] fun r=> -1≤r∧(r= -1∨r<l.elems.length):=by
 refine ECall.cut (R:=fun p _=> ∃ r:Int,p=i64 r∧ -1≤r∧(r= -1∨r<l.elems.length)) (pv func134 12 false (by kernel_rfl) rfl rfl ?_) ?_
 refine g2 ?_
 ·refine ge ?_
  (refine g1 ?_;refine zC (((zhG l hl [a,b] (by simp)).args (.cons (PLe.refl _) (.cons (PLe.tc_ts 1 _) .nil))).call zK (by simp [zJ,oM]) _) ?_;intro p2 h2 hr2;refine g2 ?_)
  obtain ⟨⟨r,rfl,hr⟩,rfl⟩:=hr2
  refine ge ?_
  exact ⟨r,rfl,hr⟩
 ·rintro p h ⟨e,rfl,h1⟩
  exact ⟨e,rfl,h1⟩
end Go.AL
namespace Go.AL
open Go.Proofs Go.Proofs.Tryz
theorem aR (s:ByteArray) (i:Nat):1≤(Utf8.decode s i).2:=by
 unfold Utf8.decode
 dsimp only
 repeat' split
 all_goals simp
abbrev i32 (n:Int):PV:= .sc (.int .i32 n)
@[simp] theorem tr_i32 {n:Int}:Tree (i32 n)↔True:=oN
theorem gK:zm0.length=10:=rfl
theorem zg6:(zm0.map yQ).map (fun x=>[x])=zm0.map fun s=>[yQ s]:=by rw [List.map_map];rfl
theorem jL (n:Int):EB 129 [i32 n]:=by
 refine ECall.pure (pv func129 30 false (by kernel_rfl) rfl rfl ?_)
 refine g2 ?_
 (repeat' (first|refine gp ?_|refine gs (fun he=> ?_) (fun he=> ?_)|fail))
 all_goals exact ⟨⟨⟨_,rfl,trivial⟩,.sc⟩,rfl⟩
theorem gC (s:BA) (g:FuncId) (t:Bool) (hF: ∀ n:Int,EB g [i32 n]):EI 209 [yQ s,.fn (.func g) [] [],bo t]:=by
 refine ECall.cut (R:=fun p _=> ∃ n:Int,p=i64 n) (pv func209 21 false (by kernel_rfl) rfl rfl ?_) (by rintro p h ⟨n,rfl⟩;exact ⟨n,rfl,trivial⟩)
 refine g2 ?_
 have htm:kC prog 9=none:=by kernel_rfl
 refine gf @htm ?_
 refine zW (K4 (.k:: .k:: .d:: .d:: .d:: .k:: .k::D9 (.d::[]))) (fun (s:Nat)=>[]) (fun n=>[.siter s n]) (fun _=>True) (fun n=>s.size-n) (own:=false) 0 rfl rfl trivial ?_
 rintro n _
 refine gm ?_
 by_cases hn:n<s.size
 ·have hd:=aR s n
  generalize hq:Utf8.decode s n=q at*
  obtain ⟨c,k⟩:=q
  refine gf (a2 @hn @hq) ?_
  (refine g1 ?_;refine zC ((hF c).call zK (by simp) _) ?_;intro p2 h2 hr2;refine g2 ?_)
  obtain ⟨⟨b,rfl,_⟩,rfl⟩:=hr2
  (repeat' (first|refine gp ?_|refine gs (fun he=> ?_) (fun he=> ?_)|fail))
  ·exact ⟨_,rfl⟩
  ·exact ⟨n+k,trivial,by dsimp only at hd;omega,rfl,rfl,rfl⟩
 ·refine gf @hn ?_
  exact ⟨_,rfl⟩
theorem jD (s:BA) (g:FuncId) (hF: ∀ n:Int,EB g [i32 n]):EI 175 [yQ s,.fn (.func g) [] []]:=by
 refine ECall.pure (pv func175 8 false (by kernel_rfl) rfl rfl ?_)
 refine g2 ?_
 refine ge ?_
 (refine g1 ?_;refine zC ((gC s g true hF).call zK (by simp [yO]) _) ?_;intro p2 h2 hr2;refine g2 ?_)
 obtain ⟨⟨b,rfl,_⟩,rfl⟩:=hr2
 refine ge ?_
 exact ⟨⟨⟨_,rfl,trivial⟩,.sc⟩,rfl⟩
theorem rX (s:BA) (g:FuncId) (hF: ∀ n:Int,EB g [i32 n]):EB 130 [yQ s,.fn (.func g) [] []]:=by
 refine ECall.pure (pv func130 9 false (by kernel_rfl) rfl rfl ?_)
 refine g2 ?_
 refine ge ?_
 (refine g1 ?_;refine zC ((jD s g hF).call zK (by simp [yO]) _) ?_;intro p2 h2 hr2;refine g2 ?_)
 obtain ⟨⟨b,rfl,_⟩,rfl⟩:=hr2
 refine ge ?_
 exact ⟨⟨⟨_,rfl,trivial⟩,.sc⟩,rfl⟩
theorem zc1 (s:BA):EB 87 [yQ s]:=by
 refine ECall.pure (pv func87 30 false (by kernel_rfl) rfl rfl ?_)
 refine g2 ?_
 by_cases h0:s=⟨#[]⟩
 ·subst h0
  (repeat' (first|refine gp ?_|refine gs (fun he=> ?_) (fun he=> ?_)|fail))
  exact ⟨⟨⟨_,rfl,trivial⟩,.sc⟩,rfl⟩
 have hp:=mN h0
 (repeat' (first|refine gz ?_|(refine gn ?_;intro zs zh;(try simp only [go_sem,h0,g0_0,gK,zg6] at zh);subst zh;(first|refine gv ?_|((first|refine zC ((wC zm0 _ eI).call zK (by simp) _) ?_|refine zC ((rX s _ jL).call zK (by simp [yO]) _) ?_);intro p2 h2 hr2;obtain ⟨hr2,rfl⟩:=hr2;first|obtain ⟨_,rfl,hr2⟩:=hr2|obtain ⟨_,rfl⟩:=hr2|subst hr2|skip)|(refine yS (fun he=> ?_) (fun he=> ?_)<;>(try simp only [decide_eq_true_eq,decide_eq_false_iff_not,Bool.not_eq_true',Bool.not_eq_false',Bool.not_eq_true,beq_iff_eq,beq_eq_false_iff_ne,bne_iff_ne,bne_eq_false_iff_eq] at he))))|((with_reducible refine tO rfl ?_);intro sr hsr;simp only [sK,List.getD_cons_succ,List.getD_cons_zero,Option.map_some,Option.getD_some,Bool.not_false,Bool.not_true] at hsr;subst hsr;(fail_if_success (with_reducible (first|refine tL ?_|refine tN ?_)));refine tK (fun he=> ?_) (fun he=> ?_)<;>(intro ts2 hts;simp only [List.getD_cons_succ,List.getD_cons_zero,Option.getD_some,List.set_cons_zero,List.set_cons_succ] at hts;subst hts;(try simp only [decide_eq_true_eq,decide_eq_false_iff_not,Bool.not_eq_true',Bool.not_eq_false',Bool.not_eq_true,beq_iff_eq,beq_eq_false_iff_ne,bne_iff_ne,bne_eq_false_iff_eq] at he)))|fail))
 all_goals first|(exact ⟨⟨⟨_,rfl,trivial⟩,.sc⟩,rfl⟩)|trace_state
theorem qE (v:Vl):EB 65 [.agg v.c]:=by
 refine ECall.cut (R:=fun p _=> ∃ b:Bool,p=bo b) (pv func65 30 false (by kernel_rfl) rfl rfl ?_) (by rintro p h ⟨n,rfl⟩;exact ⟨n,rfl,trivial⟩)
 refine g2 ?_
 (repeat' (first|refine gz ?_|(refine gn ?_;intro zs zh;(try simp only [go_sem] at zh);subst zh;(first|refine gv ?_|(refine zC ((zc1 v.s).call zK (by simp) _) ?_;intro p2 h2 hr2;obtain ⟨hr2,rfl⟩:=hr2;first|obtain ⟨_,rfl,hr2⟩:=hr2|obtain ⟨_,rfl⟩:=hr2|subst hr2|skip)|(refine yS (fun he=> ?_) (fun he=> ?_)<;>(try simp only [decide_eq_true_eq,decide_eq_false_iff_not,Bool.not_eq_true',Bool.not_eq_false',Bool.not_eq_true,beq_iff_eq,beq_eq_false_iff_ne,bne_iff_ne,bne_eq_false_iff_eq] at he))))|((with_reducible refine tO rfl ?_);intro sr hsr;simp only [sK,List.getD_cons_succ,List.getD_cons_zero,Option.map_some,Option.getD_some,Bool.not_false,Bool.not_true] at hsr;subst hsr;(fail_if_success (with_reducible (first|refine tL ?_|refine tN ?_)));refine tK (fun he=> ?_) (fun he=> ?_)<;>(intro ts2 hts;simp only [List.getD_cons_succ,List.getD_cons_zero,Option.getD_some,List.set_cons_zero,List.set_cons_succ] at hts;subst hts;(try simp only [decide_eq_true_eq,decide_eq_false_iff_not,Bool.not_eq_true',Bool.not_eq_false',Bool.not_eq_true,beq_iff_eq,beq_eq_false_iff_ne,bne_iff_ne,bne_eq_false_iff_eq] at he)))|fail))
 all_goals exact ⟨_,rfl⟩
end Go.AL
namespace Go.AL
open Go.Proofs Go.Proofs.Tryz
@[go_sem] def URel1f226.pl:Nat→DPlan
 |4=>⟨[yA,yA,yA,yA,yA,yA,yA,yA,yB,yA,yA,yA,yA,yB,yC,yA,yA],wR,0⟩
 |6=>⟨[yA,yA,yA,yA,yA,yA,yA,yA,yA,yB,yA,yA,yA,yB,yA,yC,yA,yC],yM,0⟩
 |_=>⟨[],[],0⟩
theorem yT {α:Type} {l:List α} {n:Nat} {a:α} (h:l[n]? =some a):l.set n a=l:=by
 obtain ⟨h1,h2⟩:=gsi h
 subst h2;exact List.set_getElem_self h1
def xI (l:List Rw):List PV:=(l.map Rw.c).flatten
theorem tR (x:Rw) (l:List Rw):xI (x::l)=pH x.args::kJ x.w::xI l:=rfl
theorem xK (l:List Rw):(xI l).length=l.length*2:=by
 induction l with
 |nil=>rfl
 |cons x l ih=>rw [tR];simp only [List.length_cons,ih];omega
theorem xG (l:List Rw) (i:Nat) (h:i<l.length):List.take 2 (List.drop (i*2) (xI l))=[pH l[i].args,kJ l[i].w]:=by
 induction l generalizing i with
 |nil=>cases h
 | cons x l ih=>
  cases i with
  |zero=>rfl
  |succ i=>
   rw [tR,show (i+1)*2=i*2+1+1 by omega,List.drop_succ_cons,List.drop_succ_cons,ih i (by simpa using h)]
   rfl
theorem uQ (l:List Rw) (i:Nat) (h:i<l.length) (x:Rw):List.take (i*2) (xI l)++pH x.args::kJ x.w::List.drop (i*2+2) (xI l)=xI (l.set i x):=by
 induction l generalizing i with
 |nil=>cases h
 | cons y l ih=>
  cases i with
  |zero=>rfl
  |succ i=>
   rw [tR,show (i+1)*2=i*2+1+1 by omega,List.take_succ_cons,List.take_succ_cons,show i*2+1+1+2=i*2+2+1+1 by omega,List.drop_succ_cons,List.drop_succ_cons,List.set_cons_succ,tR, ←ih i (by simpa using h)]
   rfl
structure Rw.ok (r:Rw):Prop where
 al:r.args.length≤140737488355328
 a: ∀ v∈r.args,v.s.size≤140737488355328
theorem uS (a b:Rw) (ha:a.ok) (hb:b.ok):EPure prog G0 71 [.agg a.c,.agg b.c] fun p=>p=i64 (sD a.args b.args):=by
 refine ECall.cut (R:=fun p _=>p=i64 (sD a.args b.args)) (pv func71 10 false (by kernel_rfl) rfl rfl ?_) (by rintro p h rfl;rfl)
 refine g2 ?_
 refine ge ?_
 (refine Go.AL.g1 ?_;refine zC ((zb6 a.args b.args ha.al hb.al ha.a hb.a).call zK (by simp) _) ?_;intro p2 h2 hr2;refine Go.AL.g2 ?_)
 obtain ⟨rfl,rfl⟩:=hr2
 refine ge ?_
 rfl
def SubR (l' l:List Rw):Prop:=l'.length=l.length∧ ∀ x∈l',x∈l
theorem SubR.refl (l:List Rw):SubR l l:=⟨rfl,fun _ h=>h⟩
theorem SubR.swap {l' l:List Rw} (h:SubR l' l) {i j:Nat} (hi:i<l'.length) (hj:j<l'.length):SubR ((l'.set i l'[j]).set j l'[i]) l:=
 ⟨by simp [h.1],fun x hx=>by
  rcases List.mem_or_eq_of_mem_set hx with hx|rfl
  ·rcases List.mem_or_eq_of_mem_set hx with hx|rfl
   ·exact h.2 x hx
   ·exact h.2 _ (List.getElem_mem hj)
  ·exact h.2 _ (List.getElem_mem hi)⟩
abbrev kP:PV:= .fn (.func 71) [] []
open URel1f226 in
theorem zfY (l:List Rw) (hl:l.length≤70368744177664) (hok: ∀ x∈l,x.ok) (a b:Nat) (ha:a≤l.length) (hb:b≤l.length) (h:Heap) (r:Nat) (hr:h[r]? =some (.var 76 (xI l))):
  ECall prog G0 226 [.ms r 0 2 l.length,i64 a,i64 b,kP] h fun _ h'=> ∃ l',SubR l' l∧h'=h.set r (.var 76 (xI l')):=by
 refine pv func226 53 false (by kernel_rfl) rfl rfl ?_
 refine g2 ?_
 have hrl:r<h.length:=(gsi hr).1
 have hG: ∀ c,(h.set r c)[r]? =some c:=fun c=>by rw [List.getElem?_set_self hrl]
 have hSS: ∀ c d,(h.set r c).set r d=h.set r d:=fun c d=>List.set_set ..
 have hw0:IntKind.i64.wrap ((a:Int)+1)=((a+1:Nat):Int):=by rw [xM (by omega) (by omega)];rfl
 refine gf @hw0 ?_
 refine zW (K4 (K4 (.v:: .d:: .k:: .k::D9 (D9 (D9 (D9 (D4 (.d::[])))))))) (fun (s:Nat×List Rw)=>[i64 s.1]) (fun s=>h.set r (.var 76 (xI s.2))) (fun s=>a<s.1∧s.1≤l.length+1∧SubR s.2 l) (fun s=>l.length+1-s.1) (own:=false) (a+1,l) rfl (by dsimp only;exact (yT hr).symm) ⟨by simp,by simp;omega,SubR.refl l⟩ ?_
 rintro ⟨i,l1⟩ ⟨hi0,hi,hS⟩ t ht
 dsimp only at hi0 hi hS
 simp only [zY] at ht;subst ht
 by_cases hib:i<b
 ·have hb1:((i:Int)<(b:Int)):=by omega
  refine gf @hb1 ?_
  refine zW (K9 (.v::K4 (K4 (D9 (D9 (D9 (D4 (D4 ([]))))))))) (fun (s:Nat×List Rw)=>[i64 s.1]) (fun s=>h.set r (.var 76 (xI s.2))) (fun s=>a≤s.1∧s.1≤i∧SubR s.2 l) (fun s=>s.1) (own:=false) (i,l1) rfl rfl ⟨by simp;omega,by simp,hS⟩ ?_
  rintro ⟨j,l2⟩ ⟨hj0,hj,hS2⟩ t ht
  dsimp only at hj0 hj hS2
  simp only [zY] at ht;subst ht
  by_cases hja:a<j
  ·have hjb:((a:Int)<(j:Int)):=by omega
   have hl2:=hS2.1
   have hj2:j<l2.length:=by omega
   have hj3:j-1<l2.length:=by omega
   have hjl:j<l.length:=by omega
   have hj1l:j-1<l.length:=by omega
   have hw1:IntKind.i64.wrap ((j:Int)-1)=((j-1:Nat):Int):=by rw [xM (by omega) (by omega)];omega
   have g1:=xG l2 j hj2
   have g2:=xG l2 (j-1) hj3
   have ho1:=hok _ (hS2.2 _ (List.getElem_mem hj2))
   have ho2:=hok _ (hS2.2 _ (List.getElem_mem hj3))
   have hby:=uS l2[j] l2[j-1] ho1 ho2
   have f1:=uQ l2 j hj2
   have f2:=fun x=>uQ (l2.set j x) (j-1) (by simpa using hj3)
   have hsw:=hS2.swap hj2 hj3
   generalize l2[j]=x at*
   generalize l2[j-1]=y at*
   generalize hc:sD x.args y.args=c at*
   by_cases hneg:c<0
   ·(repeat (first|refine gz ?_|(refine gn ?_;intro zs zh;(try simp only [go_sem,hjb,hG,hSS,hw1,g1,g2,xK,zB,hjl,hj1l,hl2,hneg,f1,f2,List.length_set] at zh);subst zh;(first|refine gv ?_|((first|refine zC (hby.call zK (by simp [zJ]) _) ?_|refine zP (by decide) (by decide) (hby.call zK (by simp [zJ]) _) ?_);intro p2 h2 hr2;obtain ⟨hr2,rfl⟩:=hr2;first|obtain ⟨_,rfl,hr2⟩:=hr2|obtain ⟨_,rfl⟩:=hr2|subst hr2|skip)))|refine yD URel1f226.pl ?_))
    exact ⟨(j-1,_),⟨by dsimp only;omega,by dsimp only;omega,hsw⟩,by dsimp only;omega,rfl,rfl,rfl⟩
   ·(repeat (first|refine gz ?_|(refine gn ?_;intro zs zh;(try simp only [go_sem,hjb,hG,hSS,hw1,g1,g2,xK,zB,hjl,hj1l,hl2,hneg] at zh);subst zh;(first|refine gv ?_|((first|refine zC (hby.call zK (by simp [zJ]) _) ?_|refine zP (by decide) (by decide) (hby.call zK (by simp [zJ]) _) ?_);intro p2 h2 hr2;obtain ⟨hr2,rfl⟩:=hr2;first|obtain ⟨_,rfl,hr2⟩:=hr2|obtain ⟨_,rfl⟩:=hr2|subst hr2|skip)))|refine yD URel1f226.pl ?_))
    have hwi:IntKind.i64.wrap ((i:Int)+1)=((i+1:Nat):Int):=by rw [xM (by omega) (by omega)];rfl
    exact ⟨(i+1,l2),⟨by dsimp only;omega,by dsimp only;omega,hS2⟩,by dsimp only;omega,by simp only [zY,xJ,List.tail_cons];rw [hwi],rfl,rfl⟩
  ·have hjb: ¬((a:Int)<(j:Int)):=by omega
   have hwi:IntKind.i64.wrap ((i:Int)+1)=((i+1:Nat):Int):=by rw [xM (by omega) (by omega)];rfl
   refine gf (a2 @hjb @hwi) ?_
   exact ⟨(i+1,l2),⟨by dsimp only;omega,by dsimp only;omega,hS2⟩,by dsimp only;omega,rfl,rfl,rfl⟩
 ·have hb1: ¬((i:Int)<(b:Int)):=by omega
  refine gf @hb1 ?_
  exact ⟨l1,hS,rfl⟩
end Go.AL
namespace Go.AL
open Go.Proofs Go.Proofs.Tryz
@[go_sem] def URel2f229.pl:Nat→DPlan
 |3=>⟨[yA,yA,yA,yA,yA,yA,yA,yA,yA,yA,yA,yA,yA,yB,yA,yA,yA,yA,yA,yB,yA,yC,yA,yC],iot24,0⟩
 |_=>⟨[],[],0⟩
theorem zeR {n:Nat} (h:n≤140737488355328):IntKind.i64.wrap (n:Int)=n:=xM (by omega) (by omega)
open URel2f229 in
theorem ze9 (l:List Rw) (hl:l.length≤70368744177664) (a b n:Nat) (ha:a+n≤l.length) (hb:b+n≤l.length) (h:Heap) (r:Nat) (hr:h[r]? =some (.var 76 (xI l))):
  ECall prog G0 229 [.ms r 0 2 l.length,i64 a,i64 b,i64 n,kP] h fun _ h'=> ∃ l',SubR l' l∧h'=h.set r (.var 76 (xI l')):=by
 refine pv func229 38 false (by kernel_rfl) rfl rfl ?_
 refine g2 ?_
 have hrl:r<h.length:=(gsi hr).1
 have hG: ∀ c,(h.set r c)[r]? =some c:=fun c=>by rw [List.getElem?_set_self hrl]
 have hSS: ∀ c d,(h.set r c).set r d=h.set r d:=fun c d=>List.set_set ..
 refine ge ?_
 refine zW (K9 (.k:: .v::D9 (D9 (D9 ([]))))) (fun (s:Nat×List Rw)=>[i64 s.1]) (fun s=>h.set r (.var 76 (xI s.2))) (fun s=>s.1≤n∧SubR s.2 l) (fun s=>n-s.1) (own:=false) (0,l) rfl (by dsimp only;exact (yT hr).symm) ⟨Nat.zero_le _,SubR.refl l⟩ ?_
 rintro ⟨i,l1⟩ ⟨hi,hS⟩ t ht
 dsimp only at hi hS
 simp only [zY] at ht;subst ht
 by_cases hin:i<n
 ·have hb1:((i:Int)<(n:Int)):=by omega
  have hl1:=hS.1
  have k1:a+i<l1.length:=by omega
  have k2:b+i<l1.length:=by omega
  have k1l:a+i<l.length:=by omega
  have k2l:b+i<l.length:=by omega
  have w1:IntKind.i64.wrap ((a:Int)+i)=((a+i:Nat):Int):=by rw [xM (by omega) (by omega)];omega
  have w2:IntKind.i64.wrap ((b:Int)+i)=((b+i:Nat):Int):=by rw [xM (by omega) (by omega)];omega
  have wi:IntKind.i64.wrap ((i:Int)+1)=((i+1:Nat):Int):=by rw [xM (by omega) (by omega)];rfl
  have g1:=xG l1 (a+i) k1
  have g2:=xG l1 (b+i) k2
  have f1:=uQ l1 (a+i) k1
  have f2:=fun x=>uQ (l1.set (a+i) x) (b+i) (by simpa using k2)
  have hsw:=hS.swap k1 k2
  generalize l1[a+i]=x at*
  generalize l1[b+i]=y at*
  (repeat (first|refine gz ?_|(refine gn ?_;intro zs zh;(try simp only [go_sem,hb1,hG,hSS,w1,w2,wi,g1,g2,xK,zB,k1l,k2l,hl1,f1,f2,List.length_set] at zh);subst zh;refine gv ?_)|refine yD URel2f229.pl ?_))
  exact ⟨(i+1,_),⟨by dsimp only;omega,hsw⟩,by dsimp only;omega,rfl,rfl,rfl⟩
 ·have hb1: ¬((i:Int)<(n:Int)):=by omega
  refine gf @hb1 ?_
  exact ⟨l1,hS,rfl⟩
theorem SubR.trans {a b c:List Rw} (h:SubR a b) (k:SubR b c):SubR a c:=⟨h.1.trans k.1,fun x hx=>k.2 x (h.2 x hx)⟩
theorem gS (l:List Rw) (hl:l.length≤70368744177664) (a m b:Nat) (ham:a<m) (hmb:m<b) (hb:b≤l.length) (h:Heap) (r:Nat) (hr:h[r]? =some (.var 76 (xI l))):
  ECall prog G0 228 [.ms r 0 2 l.length,i64 a,i64 m,i64 b,kP] h fun _ h'=> ∃ l',SubR l' l∧h'=h.set r (.var 76 (xI l')):=by
 refine pv func228 58 false (by kernel_rfl) rfl rfl ?_
 refine g2 ?_
 have hrl:r<h.length:=(gsi hr).1
 have hG: ∀ c,(h.set r c)[r]? =some c:=fun c=>by rw [List.getElem?_set_self hrl]
 have hSS: ∀ c d,(h.set r c).set r d=h.set r d:=fun c d=>List.set_set ..
 have w1:IntKind.i64.wrap ((m:Int)-a)=((m-a:Nat):Int):=by rw [xM (by omega) (by omega)];omega
 have w2:IntKind.i64.wrap ((b:Int)-m)=((b-m:Nat):Int):=by rw [xM (by omega) (by omega)];omega
 refine gf (a2 @w1 @w2) ?_
 refine zW (K9 (.k:: .v:: .v::K4 (.k:: .k::D9 (D9 (D9 (D4 (.d::K4 (K4 ([]))))))))) (fun (s:Nat×Nat×List Rw)=>[i64 s.1,i64 s.2.1]) (fun s=>h.set r (.var 76 (xI s.2.2))) (fun s=>1≤s.1∧s.1≤m-a∧1≤s.2.1∧s.2.1≤b-m∧SubR s.2.2 l) (fun s=>s.1+s.2.1) (own:=false) (m-a,b-m,l) rfl (by dsimp only;exact (yT hr).symm) ⟨by dsimp only;omega,Nat.le_refl _,by dsimp only;omega,Nat.le_refl _,SubR.refl l⟩ ?_
 rintro ⟨i,j,l1⟩ ⟨hi1,hi,hj1,hj,hS⟩ t ht
 dsimp only at hi1 hi hj1 hj hS
 simp only [zY] at ht;subst ht
 have hl1:=hS.1
 have v1:IntKind.i64.wrap ((m:Int)-i)=((m-i:Nat):Int):=by rw [xM (by omega) (by omega)];omega
 have v2:IntKind.i64.wrap ((m:Int)+j)=((m+j:Nat):Int):=by rw [xM (by omega) (by omega)];omega
 have hS': ∀ n x y:Nat,x+n≤l.length→y+n≤l.length→ECall prog G0 229 [.ms r 0 2 l.length,i64 x,i64 y,i64 n,kP] (h.set r (.var 76 (xI l1))) fun _ h'=> ∃ l',SubR l' l∧h'=h.set r (.var 76 (xI l')):=fun n x y hx hy=>by
  have:=ze9 l1 (by omega) x y n (by omega) (by omega) (h.set r (.var 76 (xI l1))) r (hG _)
  rw [hl1] at this
  exact this.mono (by rintro p h' ⟨l',hs,rfl⟩;exact ⟨l',hs.trans hS,hSS _ _⟩)
 rcases Nat.lt_trichotomy i j with hij|hij|hij
 ·have hne:((i:Int)!=(j:Int))=true:=by simp;omega
  have hgt: ¬((j:Int)<(i:Int)):=by omega
  have v3:IntKind.i64.wrap (((m+j:Nat):Int)-i)=((m+j-i:Nat):Int):=by rw [xM (by omega) (by omega)];omega
  have v4:IntKind.i64.wrap ((j:Int)-i)=((j-i:Nat):Int):=by rw [xM (by omega) (by omega)];omega
  refine gf (a5 @hne @hgt @v1 @v2 @v3) ?_
  (refine Go.AL.g1f @v3 ?_;refine zC (hS' i (m-i) (m+j-i) (by omega) (by omega)) ?_;intro p2 h2 hr2;refine Go.AL.g2 ?_)
  obtain ⟨l2,hs2,rfl⟩:=hr2
  refine gf @v4 ?_
  exact ⟨(i,j-i,l2),⟨by dsimp only;omega,by dsimp only;omega,by dsimp only;omega,by dsimp only;omega,hs2⟩,by dsimp only;omega,rfl,rfl,rfl⟩
 ·subst hij
  have hne:((i:Int)!=(i:Int))=false:=by simp
  refine gf (a2 @hne @v1) ?_
  (refine Go.AL.g1f @v1 ?_;refine zC (hS' i (m-i) m (by omega) (by omega)) ?_;intro p2 h2 hr2;refine Go.AL.g2 ?_)
  obtain ⟨l2,hs2,rfl⟩:=hr2
  refine ge ?_
  exact ⟨l2,hs2,rfl⟩
 ·have hne:((i:Int)!=(j:Int))=true:=by simp;omega
  have hgt:((j:Int)<(i:Int)):=by omega
  have v4:IntKind.i64.wrap ((i:Int)-j)=((i-j:Nat):Int):=by rw [xM (by omega) (by omega)];omega
  refine gf (a4 @hne @hgt @v1 @v2) ?_
  (refine Go.AL.g1f @v1 ?_;refine zC (hS' j (m-i) m (by omega) (by omega)) ?_;intro p2 h2 hr2;refine Go.AL.g2 ?_)
  obtain ⟨l2,hs2,rfl⟩:=hr2
  refine gf @v4 ?_
  exact ⟨(i-j,j,l2),⟨by dsimp only;omega,by dsimp only;omega,by dsimp only;omega,by dsimp only;omega,hs2⟩,by dsimp only;omega,rfl,rfl,rfl⟩
end Go.AL
namespace Go.AL
open Go.Proofs Go.Proofs.Tryz
@[go_sem] def URel3f227.pl:Nat→DPlan
 |5=>⟨[yA,yA,yA,yA,yB,yA,yA,yA,yB,yC,yA],vJ,0⟩
 |11=>⟨[yA,yA,yA,yA,yA,yA,yA,yA,yA,yB,yA,yA,yA,yB,yA,yC,yA,yC],yM,0⟩
 |17=>⟨[yA,yA,yA,yA,yB,yA,yA,yA,yB,yC,yA,yA],xF,0⟩
 |23=>⟨[yA,yA,yA,yA,yA,yA,yA,yA,yA,yB,yA,yA,yA,yB,yA,yC,yA,yC],yM,0⟩
 |35=>⟨[yA,yA,yA,yA,yA,yA,yB,yA,yA,yA,yB,yC,yA,yA],wS,0⟩
 |_=>⟨[],[],0⟩
theorem iS:(prog.underlying 3).isSome=true:=by kernel_rfl
theorem rZ:(prog.underlying 238).isSome=true:=by kernel_rfl
theorem zeU (n:Nat):((n:Nat):Int) / 2 ^ min 1 64=((n / 2:Nat):Int):=by
 rw [show min 1 64=1 from rfl,Int.pow_succ,Int.pow_zero,Int.one_mul];norm_cast
def SymC (l:List Rw) (a m b:Nat):Prop:= ∀ (h:Heap) (r:Nat) (hr:h[r]? =some (.var 76 (xI l))),
  ECall prog G0 227 [.ms r 0 2 l.length,i64 a,i64 m,i64 b,kP] h fun _ h'=> ∃ l',SubR l' l∧h'=h.set r (.var 76 (xI l'))
open URel3f227 in
theorem ziX (l:List Rw) (hl:l.length≤70368744177664) (hok: ∀ x∈l,x.ok) (a m b:Nat) (ham:a<m) (hmb:m<b) (hb:b≤l.length) (hm1:m-a=1):SymC l a m b:=by
 intro h r hr
 refine pv func227 220 false (by kernel_rfl) rfl rfl ?_
 refine g2 ?_
 have hrl:r<h.length:=(gsi hr).1
 have hG: ∀ c,(h.set r c)[r]? =some c:=fun c=>by rw [List.getElem?_set_self hrl]
 have hSS: ∀ c d,(h.set r c).set r d=h.set r d:=fun c d=>List.set_set ..
 have w1:IntKind.i64.wrap ((m:Int)-a)=((m-a:Nat):Int):=by rw [xM (by omega) (by omega)];omega
 have w2:IntKind.i64.wrap ((b:Int)-m)=((b-m:Nat):Int):=by rw [xM (by omega) (by omega)];omega
 have e1:(((m-a:Nat):Int)==1)=true:=by simp [hm1]
 refine gf (a2 @w1 @e1) ?_
 refine zW (K9 (.k:: .v:: .v:: .d::K9 (K9 (D9 (D9 (D4 (.d::K9 (K9 (K9 (K9 (K9 (K9 (K9 (K9 (K9 (K9 (K9 (K9 (K9 (K9 (K9 (K9 (K9 (K9 (K4 ([])))))))))))))))))))))))))) (fun (s:Nat×Nat)=>[i64 s.1,i64 s.2]) (fun s=>h) (fun s=>m≤s.1∧s.1≤s.2∧s.2≤b) (fun s=>s.2-s.1) (own:=false) (m,b) rfl rfl ⟨by dsimp only;omega,by dsimp only;omega,by dsimp only;omega⟩ ?_
 rintro ⟨i,j⟩ ⟨hi,hij,hj⟩ t ht
 dsimp only at hi hij hj
 simp only [zY] at ht;subst ht
 by_cases hlt:i<j
 ·have hlt1:(i:Int)<(j:Int):=by omega
  have hm:IntKind.i64.wrap ((i:Int)+j)=((i+j:Nat):Int):=by rw [xM (by omega) (by omega)];omega
  have hu:IntKind.u64.wrap ((i+j:Nat):Int)=((i+j:Nat):Int):=by rw [IntKind.wrap_u64];omega
  have hsh:=zeU (i+j)
  have hc:IntKind.i64.wrap ((((i+j) / 2:Nat):Int))=(((i+j) / 2:Nat):Int):=zeR (by omega)
  have hwc:IntKind.i64.wrap ((((i+j) / 2:Nat):Int)+1)=(((i+j) / 2+1:Nat):Int):=by rw [xM (by omega) (by omega)];rfl
  have k1:(i+j) / 2<l.length:=by omega
  have k2:a<l.length:=by omega
  have gx:=xG l ((i+j) / 2) k1
  have gy:=xG l (a) k2
  have hby:=uS l[(i+j) / 2] l[a] (hok _ (List.getElem_mem k1)) (hok _ (List.getElem_mem k2))
  generalize l[(i+j) / 2]=x at*
  generalize l[a]=y at*
  generalize hcc:sD x.args y.args=c at*
  by_cases hneg:c<0
  ·(repeat (first|refine gz ?_|(refine gn ?_;intro zs zh;(try simp only [go_sem,iS,rZ,hlt1,hm,hu,hsh,hc,hwc,hr,gx,gy,xK,zB,k1,k2,hneg] at zh);subst zh;(first|refine gv ?_|((first|refine zC (hby.call zK (by simp [zJ]) _) ?_|refine zP (by decide) (by decide) (hby.call zK (by simp [zJ]) _) ?_);intro p2 h2 hr2;obtain ⟨hr2,rfl⟩:=hr2;first|obtain ⟨_,rfl,hr2⟩:=hr2|obtain ⟨_,rfl⟩:=hr2|subst hr2|skip)))|refine yD URel3f227.pl ?_))
   exact ⟨((i+j) / 2+1,j),⟨by dsimp only;omega,by dsimp only;omega,by dsimp only;omega⟩,by dsimp only;omega,rfl,rfl,rfl⟩
  ·(repeat (first|refine gz ?_|(refine gn ?_;intro zs zh;(try simp only [go_sem,iS,rZ,hlt1,hm,hu,hsh,hc,hwc,hr,gx,gy,xK,zB,k1,k2,hneg] at zh);subst zh;(first|refine gv ?_|((first|refine zC (hby.call zK (by simp [zJ]) _) ?_|refine zP (by decide) (by decide) (hby.call zK (by simp [zJ]) _) ?_);intro p2 h2 hr2;obtain ⟨hr2,rfl⟩:=hr2;first|obtain ⟨_,rfl,hr2⟩:=hr2|obtain ⟨_,rfl⟩:=hr2|subst hr2|skip)))|refine yD URel3f227.pl ?_))
   exact ⟨(i,(i+j) / 2),⟨by dsimp only;omega,by dsimp only;omega,by dsimp only;omega⟩,by dsimp only;omega,rfl,rfl,rfl⟩
 ·have hlt1: ¬((i:Int)<(j:Int)):=by omega
  refine gf @hlt1 ?_
  have wi1:IntKind.i64.wrap ((i:Int)-1)=((i-1:Nat):Int):=by rw [xM (by omega) (by omega)];omega
  refine zW (K9 (K4 (.v::K9 (K9 (K9 (K9 (K4 (.k::D9 (D9 (D4 (K9 (K9 (K9 (K9 (K9 (K9 (K9 (K9 (K9 (K9 (K9 (K9 (K9 (K9 (K9 (K4 (K4 ([])))))))))))))))))))))))))))) (fun (s:Nat×List Rw)=>[i64 s.1]) (fun s=>h.set r (.var 76 (xI s.2))) (fun s=>(a≤s.1∧s.1≤i)∧SubR s.2 l) (fun s=>i-s.1) (own:=false) (a,l) rfl (by dsimp only;exact (yT hr).symm) ⟨by dsimp only;omega,SubR.refl l⟩ ?_
  rintro ⟨k,l1⟩ ⟨hk,hS⟩ t ht
  dsimp only at hk hS
  simp only [zY] at ht;subst ht
  have hl1:=hS.1
  by_cases hg:k<i-1
  ·have hg1:((k:Int)<((i-1:Nat):Int)):=by omega
   have k1:k<l1.length:=by omega
   have k2:k+1<l1.length:=by omega
   have k1l:k<l.length:=by omega
   have k2l:k+1<l.length:=by omega
   have wk:IntKind.i64.wrap ((k:Int)+1)=((k+1:Nat):Int):=by rw [xM (by omega) (by omega)];rfl
   have g1:=xG l1 k k1
   have g2:=xG l1 (k+1) k2
   have f1:=uQ l1 k k1
   have f2:=fun x=>uQ (l1.set k x) (k+1) (by simpa using k2)
   have hsw:=hS.swap k1 k2
   generalize l1[k]=x at*
   generalize l1[k+1]=y at*
   (repeat (first|refine gz ?_|(refine gn ?_;intro zs zh;(try simp only [go_sem,hg1,hG,hSS,wk,wi1,g1,g2,xK,zB,k1l,k2l,hl1,f1,f2,List.length_set] at zh);subst zh;refine gv ?_)|refine yD URel3f227.pl ?_))
   exact ⟨(k+1,_),⟨by dsimp only;omega,hsw⟩,by dsimp only;omega,rfl,rfl,rfl⟩
  ·have hg1: ¬((k:Int)<((i-1:Nat):Int)):=by omega
   refine gf (a2 @hg1 @wi1) ?_
   exact ⟨l1,hS,rfl⟩
open URel3f227 in
theorem ziW (l:List Rw) (hl:l.length≤70368744177664) (hok: ∀ x∈l,x.ok) (a m b:Nat) (ham:a<m) (hmb:m<b) (hb:b≤l.length) (hm1:m-a≠1) (hm2:b-m=1):SymC l a m b:=by
 intro h r hr
 refine pv func227 220 false (by kernel_rfl) rfl rfl ?_
 refine g2 ?_
 have hrl:r<h.length:=(gsi hr).1
 have hG: ∀ c,(h.set r c)[r]? =some c:=fun c=>by rw [List.getElem?_set_self hrl]
 have hSS: ∀ c d,(h.set r c).set r d=h.set r d:=fun c d=>List.set_set ..
 have w1:IntKind.i64.wrap ((m:Int)-a)=((m-a:Nat):Int):=by rw [xM (by omega) (by omega)];omega
 have w2:IntKind.i64.wrap ((b:Int)-m)=((b-m:Nat):Int):=by rw [xM (by omega) (by omega)];omega
 have e1:(((m-a:Nat):Int)==1)=false:=by simp;omega
 have e2:(((b-m:Nat):Int)==1)=true:=by simp [hm2]
 refine gf (a4 @w1 @w2 @e1 @e2) ?_
 refine zW (K9 (K4 (.k:: .v:: .v:: .d::K9 (K9 (K9 (K9 (K9 (K9 (K9 (.k:: .k:: .k::D9 (D9 (D4 (.d:: .d::K9 (K9 (K9 (K9 (K9 (K9 (K9 (K9 (K9 (K9 (K9 (K9 (K4 (.k::[])))))))))))))))))))))))))) (fun (s:Nat×Nat)=>[i64 s.1,i64 s.2]) (fun s=>h) (fun s=>a≤s.1∧s.1≤s.2∧s.2≤m) (fun s=>s.2-s.1) (own:=false) (a,m) rfl rfl ⟨by dsimp only;omega,by dsimp only;omega,by dsimp only;omega⟩ ?_
 rintro ⟨i,j⟩ ⟨hi,hij,hj⟩ t ht
 dsimp only at hi hij hj
 simp only [zY] at ht;subst ht
 by_cases hlt:i<j
 ·have hlt1:(i:Int)<(j:Int):=by omega
  have hm:IntKind.i64.wrap ((i:Int)+j)=((i+j:Nat):Int):=by rw [xM (by omega) (by omega)];omega
  have hu:IntKind.u64.wrap ((i+j:Nat):Int)=((i+j:Nat):Int):=by rw [IntKind.wrap_u64];omega
  have hsh:=zeU (i+j)
  have hc:IntKind.i64.wrap ((((i+j) / 2:Nat):Int))=(((i+j) / 2:Nat):Int):=zeR (by omega)
  have hwc:IntKind.i64.wrap ((((i+j) / 2:Nat):Int)+1)=(((i+j) / 2+1:Nat):Int):=by rw [xM (by omega) (by omega)];rfl
  have k1:m<l.length:=by omega
  have k2:(i+j) / 2<l.length:=by omega
  have gx:=xG l (m) k1
  have gy:=xG l ((i+j) / 2) k2
  have hby:=uS l[m] l[(i+j) / 2] (hok _ (List.getElem_mem k1)) (hok _ (List.getElem_mem k2))
  generalize l[m]=x at*
  generalize l[(i+j) / 2]=y at*
  generalize hcc:sD x.args y.args=c at*
  by_cases hneg:c<0
  ·(repeat (first|refine gz ?_|(refine gn ?_;intro zs zh;(try simp only [go_sem,iS,rZ,hlt1,hm,hu,hsh,hc,hwc,hr,gx,gy,xK,zB,k1,k2,hneg] at zh);subst zh;(first|refine gv ?_|((first|refine zC (hby.call zK (by simp [zJ]) _) ?_|refine zP (by decide) (by decide) (hby.call zK (by simp [zJ]) _) ?_);intro p2 h2 hr2;obtain ⟨hr2,rfl⟩:=hr2;first|obtain ⟨_,rfl,hr2⟩:=hr2|obtain ⟨_,rfl⟩:=hr2|subst hr2|skip)))|refine yD URel3f227.pl ?_))
   exact ⟨(i,(i+j) / 2),⟨by dsimp only;omega,by dsimp only;omega,by dsimp only;omega⟩,by dsimp only;omega,rfl,rfl,rfl⟩
  ·(repeat (first|refine gz ?_|(refine gn ?_;intro zs zh;(try simp only [go_sem,iS,rZ,hlt1,hm,hu,hsh,hc,hwc,hr,gx,gy,xK,zB,k1,k2,hneg] at zh);subst zh;(first|refine gv ?_|((first|refine zC (hby.call zK (by simp [zJ]) _) ?_|refine zP (by decide) (by decide) (hby.call zK (by simp [zJ]) _) ?_);intro p2 h2 hr2;obtain ⟨hr2,rfl⟩:=hr2;first|obtain ⟨_,rfl,hr2⟩:=hr2|obtain ⟨_,rfl⟩:=hr2|subst hr2|skip)))|refine yD URel3f227.pl ?_))
   exact ⟨((i+j) / 2+1,j),⟨by dsimp only;omega,by dsimp only;omega,by dsimp only;omega⟩,by dsimp only;omega,rfl,rfl,rfl⟩
 ·have hlt1: ¬((i:Int)<(j:Int)):=by omega
  refine gf @hlt1 ?_
  have wi1:True:=trivial
  refine zW (K9 (K4 (K4 (.v::K9 (K9 (K9 (K9 (K9 (K9 (K9 (K9 (K9 (K9 (D9 (D9 (.d:: .d:: .d::K9 (K9 (K9 (K9 (K9 (K9 (K9 (K9 (K9 (K9 (.k::[])))))))))))))))))))))))))) (fun (s:Nat×List Rw)=>[i64 s.1]) (fun s=>h.set r (.var 76 (xI s.2))) (fun s=>(s.1≤m)∧SubR s.2 l) (fun s=>s.1) (own:=false) (m,l) rfl (by dsimp only;exact (yT hr).symm) ⟨by dsimp only;omega,SubR.refl l⟩ ?_
  rintro ⟨k,l1⟩ ⟨hk,hS⟩ t ht
  dsimp only at hk hS
  simp only [zY] at ht;subst ht
  have hl1:=hS.1
  by_cases hg:i<k
  ·have hg1:((i:Int)<(k:Int)):=by omega
   have k1:k<l1.length:=by omega
   have k2:k-1<l1.length:=by omega
   have k1l:k<l.length:=by omega
   have k2l:k-1<l.length:=by omega
   have wk:IntKind.i64.wrap ((k:Int)-1)=((k-1:Nat):Int):=by rw [xM (by omega) (by omega)];omega
   have g1:=xG l1 k k1
   have g2:=xG l1 (k-1) k2
   have f1:=uQ l1 k k1
   have f2:=fun x=>uQ (l1.set k x) (k-1) (by simpa using k2)
   have hsw:=hS.swap k1 k2
   generalize l1[k]=x at*
   generalize l1[k-1]=y at*
   (repeat (first|refine gz ?_|(refine gn ?_;intro zs zh;(try simp only [go_sem,hg1,hG,hSS,wk,wi1,g1,g2,xK,zB,k1l,k2l,hl1,f1,f2,List.length_set] at zh);subst zh;refine gv ?_)|refine yD URel3f227.pl ?_))
   exact ⟨(k-1,_),⟨by dsimp only;omega,hsw⟩,by dsimp only;omega,rfl,rfl,rfl⟩
  ·have hg1: ¬((i:Int)<(k:Int)):=by omega
   refine gf (a2 @hg1 @wi1) ?_
   exact ⟨l1,hS,rfl⟩
end Go.AL
