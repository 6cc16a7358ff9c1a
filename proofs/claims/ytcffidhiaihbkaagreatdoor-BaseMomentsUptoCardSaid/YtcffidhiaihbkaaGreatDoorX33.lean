/-
  Cells: a tuple's key.
-/
import Derived.Test.YtcffidhiaihbkaaGreatDoorX32
import Derived.Deep.AppendSrc
import Derived.Lib.AppendStr
import Derived.Laws.BytesString
set_option linter.unusedSimpArgs false
set_option linter.unusedVariables false
set_option maxRecDepth 100000
set_option maxHeartbeats 4000000
namespace Go.AL
open Go.Proofs Go.Proofs.Tryz
@[go_sem] def UEqf45.pl:Nat→DPlan
 |6=>⟨[yA,yA,yA,yB,yA,yA,yA,yB,yA],uW,0⟩
 |_=>⟨[],[],0⟩
@[go_sem] def UEqf48.pl:Nat→DPlan
 |6=>⟨[yA,yA,yA,yB,yA,yA,yA,yB,yA],uW,0⟩
 |_=>⟨[],[],0⟩
@[go_sem] def UEqf96.pl:Nat→DPlan
 |6=>⟨[yA,yA,yA,yB,yA,yA,yA,yB,yA],uW,0⟩
 |_=>⟨[],[],0⟩
theorem qK {α:Type} (X l:List α) (b:α):(X++l).set X.length b=X++l.set 0 b:=by rw [List.set_append_right _ _ (Nat.le_refl _)];simp
theorem rN {α:Type} (X l:List α) (k:Nat) (b:α):(X++l).set (X.length+k) b=X++l.set k b:=by rw [List.set_append_right _ _ (by omega)];simp
theorem rU {α:Type} (X l:List α):(X++l)[X.length]? =l[0]? :=by rw [List.getElem?_append_right (Nat.le_refl _)];simp
theorem sB {α:Type} (X l:List α) (k:Nat):(X++l)[X.length+k]? =l[k]? :=by rw [List.getElem?_append_right (by omega)];simp
theorem zs8 (a b c d e f:Int):sE (α:=Prop) prog 161 (.agg [i64 a,i64 b,i64 e]) (.agg [i64 c,i64 d,i64 f])=some (a==c&&(b==d&&(e==f&&true)),True):=by
 kernel_rfl
open UEqf48 in
theorem zmH (a b:List Int) (ha:a.length≤140737488355328):EB 48 [vF a,vF b] fun r=>r=true→a.length=b.length:=by
 refine ECall.pure (pv func48 26 false (by kernel_rfl) rfl rfl ?_)
 refine g2 ?_
 by_cases hl:a.length=b.length
 ·have hne:((a.length:Int)!=(b.length:Int))=false:=by simp [hl]
  refine gf @hne ?_
  refine zO a.length (K4 (.d:: .d::K4 (.k:: .k:: .k:: .v::D9 (.d:: .d:: .d::[])))) (own:=false) (fun i (_:Unit)=>[i64 i]) (fun _=>_) (fun _ _=>True) () rfl rfl trivial ha ?_ ?_
  ·rintro _ _
   refine gm ?_
   refine gf @zM ?_
   exact ⟨⟨⟨_,rfl,fun _=>hl⟩,.sc⟩,rfl⟩
  ·rintro i _ hi hw _
   refine gm ?_
   have hlb:i<b.length:=by omega
   have hg:=zG (f:=(fun n:Int=>[i64 n])) [] hi
   have hgb:=zG (f:=(fun n:Int=>[i64 n])) [] hlb
   (have F:=(a6 @hi @hlb @hw @hg @hgb @zB);(repeat' (first|refine dR F ?_|refine dQ F (fun he=> ?_) (fun he=> ?_)|fail));all_goals clear F)
   ·exact ⟨⟨⟨_,rfl,by simp⟩,.sc⟩,rfl⟩
   ·(refine ⟨(),trivial,?_,?_,rfl⟩<;>simp only [zY,xJ,List.tail_cons])
 ·have hne:((a.length:Int)!=(b.length:Int))=true:=by simp;omega
  refine gf @hne ?_
  exact ⟨⟨⟨_,rfl,by simp⟩,.sc⟩,rfl⟩
theorem zmF (a b:List Ru) (ha:a.length≤140737488355328) (g:FuncId) (hF: ∀ x∈a, ∀ y∈b,EB g [.agg x.c,.agg y.c]):EB 49 [.ts 9 (a.map Ru.c),.ts 9 (b.map Ru.c),.fn (.func g) [] []] fun r=>r=true→a.length=b.length:=by
 refine ECall.cut (R:=fun p _=> ∃ r:Bool,p=bo r∧(r=true→a.length=b.length)) (pv func49 32 false (by kernel_rfl) rfl rfl ?_) (by rintro p h ⟨n,rfl,h⟩;exact ⟨n,rfl,h⟩)
 refine g2 ?_
 by_cases hl:a.length=b.length
 ·have hne:((a.length:Int)!=(b.length:Int))=false:=by simp [hl]
  refine gf @hne ?_
  refine zO a.length (K4 (.k:: .k::D4 (K4 (.k:: .k:: .k:: .v::D9 (D4 (.d::[])))))) (own:=false) (fun i (_:Heap)=>[i64 i]) (fun J=>J) (fun _ _=>True) [] rfl rfl trivial ha ?_ ?_
  ·rintro _ _
   refine gm ?_
   refine gf @zM ?_
   exact ⟨_,rfl,fun _=>hl⟩
  ·rintro i J hi hw _
   refine gm ?_
   have hlb:i<b.length:=by omega
   have hg:=zG (f:=Ru.c) [] hi
   have hgb:=zG (f:=Ru.c) [] hlb
   refine gf (a9 @hi @hlb @hw @hg @hgb @zB @qK @rN (a2 @rU @sB)) ?_
   (refine g1f (a9 @hi @hlb @hw @hg @hgb @zB @qK @rN (a2 @rU @sB)) ?_;refine zC ((hF _ (List.getElem_mem hi) _ (List.getElem_mem hlb)).call zK (by simp [zJ]) _) ?_;intro p2 h2 hr2;refine g2 ?_)
   obtain ⟨⟨r,rfl, -⟩,rfl⟩:=hr2
   cases r
   ·refine gf (a9 @hi @hlb @hw @hg @hgb @zB @qK @rN (a2 @rU @sB)) ?_
    exact ⟨_,rfl,by simp⟩
   ·refine gf (a9 @hi @hlb @hw @hg @hgb @zB @qK @rN (a2 @rU @sB)) ?_
    exact ⟨_,trivial,rfl,rfl,rfl⟩
 ·have hne:((a.length:Int)!=(b.length:Int))=true:=by simp;omega
  refine gf @hne ?_
  exact ⟨_,rfl,by simp⟩
theorem zmG (a b:List Li) (ha:a.length≤140737488355328) (g:FuncId) (hF: ∀ x∈a, ∀ y∈b,EB g [.agg x.c,.agg y.c]):EB 51 [.ts 9 (a.map Li.c),.ts 9 (b.map Li.c),.fn (.func g) [] []] fun r=>r=true→a.length=b.length:=by
 refine ECall.cut (R:=fun p _=> ∃ r:Bool,p=bo r∧(r=true→a.length=b.length)) (pv func51 32 false (by kernel_rfl) rfl rfl ?_) (by rintro p h ⟨n,rfl,h⟩;exact ⟨n,rfl,h⟩)
 refine g2 ?_
 by_cases hl:a.length=b.length
 ·have hne:((a.length:Int)!=(b.length:Int))=false:=by simp [hl]
  refine gf @hne ?_
  refine zO a.length (K4 (.k:: .k::D4 (K4 (.k:: .k:: .k:: .v::D9 (D4 (.d::[])))))) (own:=false) (fun i (_:Heap)=>[i64 i]) (fun J=>J) (fun _ _=>True) [] rfl rfl trivial ha ?_ ?_
  ·rintro _ _
   refine gm ?_
   refine gf @zM ?_
   exact ⟨_,rfl,fun _=>hl⟩
  ·rintro i J hi hw _
   refine gm ?_
   have hlb:i<b.length:=by omega
   have hg:=zG (f:=Li.c) [] hi
   have hgb:=zG (f:=Li.c) [] hlb
   refine gf (a9 @hi @hlb @hw @hg @hgb @zB @qK @rN (a2 @rU @sB)) ?_
   (refine g1f (a9 @hi @hlb @hw @hg @hgb @zB @qK @rN (a2 @rU @sB)) ?_;refine zC ((hF _ (List.getElem_mem hi) _ (List.getElem_mem hlb)).call zK (by simp [zJ]) _) ?_;intro p2 h2 hr2;refine g2 ?_)
   obtain ⟨⟨r,rfl, -⟩,rfl⟩:=hr2
   cases r
   ·refine gf (a9 @hi @hlb @hw @hg @hgb @zB @qK @rN (a2 @rU @sB)) ?_
    exact ⟨_,rfl,by simp⟩
   ·refine gf (a9 @hi @hlb @hw @hg @hgb @zB @qK @rN (a2 @rU @sB)) ?_
    exact ⟨_,trivial,rfl,rfl,rfl⟩
 ·have hne:((a.length:Int)!=(b.length:Int))=true:=by simp;omega
  refine gf @hne ?_
  exact ⟨_,rfl,by simp⟩
end Go.AL
namespace Go.AL
open Go.Proofs Go.Proofs.Tryz
@[go_sem] def UTyp17f20.pl:Nat→DPlan
 |7=>⟨[yA,yB,yA,yB,yA,yA,yA,yB,yA,yA,yA,yB,yA,yB,yA,yA,yA,yB,yC,yA,yA],pR,0⟩
 |13=>⟨[yA,yB,yA,yB,yA,yA,yA,yB,yA],uW,0⟩
 |_=>⟨[],[],0⟩
theorem eqEl (a d a' d':Int) (s t s' t':BA):sE (α:=Prop) prog 114 (.agg [i64 a,yQ s,yQ t,i64 d]) (.agg [i64 a',yQ s',yQ t',i64 d'])=some (a==a'&&(decide (s=s')&&(decide (t=t')&&(d==d'&&true))),True):=by
 kernel_rfl
theorem aB (x y:Li):EB 52 [.agg x.c,.agg y.c]:=by
 refine ECall.cut (R:=fun v _=> ∃ b:Bool,v=bo b) (pv func52 17 false (by kernel_rfl) rfl rfl ?_) (by rintro p h ⟨b,rfl⟩;exact ⟨b,rfl,trivial⟩)
 refine g2 ?_
 (repeat' (first|refine gp ?_|refine gs (fun he=> ?_) (fun he=> ?_)|fail))
 all_goals exact ⟨_,rfl⟩
theorem zcW (x y:Ru) (hx:x.body.length≤140737488355328):EB 50 [.agg x.c,.agg y.c]:=by
 refine ECall.cut (R:=fun v _=> ∃ b:Bool,v=bo b) (pv func50 24 false (by kernel_rfl) rfl rfl ?_) (by rintro p h ⟨b,rfl⟩;exact ⟨b,rfl,trivial⟩)
 refine g2 ?_
 have hq:=(zmG x.body y.body hx 52 (fun x _ y _=>aB x y)).call zK (by simp [zJ,yO])
 (repeat' (first|refine gz ?_|(refine gn ?_;intro zs zh;(try simp only [go_sem,eqEl] at zh);subst zh;(first|refine gv ?_|(refine zC (hq _) ?_;intro p2 h2 hr2;obtain ⟨hr2,rfl⟩:=hr2;first|obtain ⟨_,rfl,hr2⟩:=hr2|obtain ⟨_,rfl⟩:=hr2|subst hr2|skip)|(refine yS (fun he=> ?_) (fun he=> ?_)<;>(try simp only [mM] at he))))|((with_reducible refine tO rfl ?_);intro sr hsr;simp only [sK,wP] at hsr;subst hsr;(fail_if_success (with_reducible (first|refine tL ?_|refine tN ?_)));refine tK (fun he=> ?_) (fun he=> ?_)<;>(intro ts2 hts;simp only [wP] at hts;subst hts;(try simp only [mM] at he)))|fail))
 all_goals first|exact ⟨_,rfl⟩|skip
def TvK (p:Pg):Prop:=p.fm∧(∀ x∈p.preds, -1≤x.of'∧x.of'<p.lats.length)∧(∀ x∈p.lats,uE x=0)∧ ∀ x∈p.preds,x.lat=eS→x.of'= -1
open UTyp17f20 in
theorem mL (p:Pg) (hp:p.ok) (hle: ∀ x∈p.lats,x.elems.length≤1048576∧x.covers.length≤1048576):EB 20 [.agg p.c] fun b=>b=true→TvK p:=by
 refine ECall.cut (R:=fun v _=> ∃ b:Bool,v=bo b∧(b=true→TvK p)) (pv func20 70 false (by kernel_rfl) rfl rfl ?_) (by rintro p h ⟨b,rfl,h⟩;exact ⟨b,rfl,h⟩)
 refine g2 ?_
 refine ge ?_
 (refine g1 ?_;refine zC ((aI p hp hle).call zK (by simp [zJ]) _) ?_;intro p2 h2 hr2;refine g2 ?_)
 obtain ⟨⟨q,d,rfl,hd⟩,rfl⟩:=hr2
 by_cases hd0:d.length=0
 ·have e0:decide ((0:Int)<(d.length:Int))=false:=by rw [decide_eq_false_iff_not];omega
  obtain ⟨hf,hfl,hpl,hpb,hck,hpz⟩:=hd (List.eq_nil_of_length_eq_zero hd0)
  have hf1:=hf.fl
  have hf2:=hf.pl
  have hf3:=hf.rl
  refine gf @e0 ?_
  refine zO p.funs.length (.k:: .k:: .d:: .k:: .k:: .d:: .d::K9 (K4 (.v::D9 (D9 (D4 (D4 (K9 (K9 (K4 (.k::[])))))))))) (own:=false) (fun i (_:Heap)=>[i64 i]) (fun J=> .var 27 p.c:: .var 27 q.c::J) (fun _ _=>True) [] rfl rfl trivial (by omega) ?_ ?_
  ·rintro J _
   refine gm ?_
   refine gf @zM ?_
   refine zO p.preds.length (.k:: .k:: .d::K4 (.d:: .d::K9 (K9 (K9 (K9 (K4 (.k:: .v::D9 (D4 (.d::K4 (.k::[])))))))))) (own:=false) (fun i (_:Heap)=>[i64 i]) (fun J=> .var 27 p.c:: .var 27 q.c::J) (fun i _=> ∀ (j:Nat) (h:j<p.preds.length),j<i→(-1≤p.preds[j].of'∧p.preds[j].of'<p.lats.length)∧(p.preds[j].lat=eS→p.preds[j].of'= -1)) J rfl rfl (fun j _ hj=>absurd hj (Nat.not_lt_zero _)) (by omega) ?_ ?_
   ·rintro J hI
    refine gm ?_
    refine gf @zM ?_
    (refine g1 ?_;refine zC ((zmF p.rules q.rules (by omega) 50 (fun x hx y _=>zcW x y (hp.r x hx).bl)).call zK (by simp [zJ,yO]) _) ?_;intro p2 h2 hr2;refine g2 ?_)
    obtain ⟨⟨b,rfl, -⟩,rfl⟩:=hr2
    refine ge ?_
    exact ⟨b,rfl,fun _=>⟨hf,fun x hx=>by obtain ⟨j,hj,rfl⟩:=List.getElem_of_mem hx;exact (hI j hj hj).1,hck,fun x hx=>by obtain ⟨j,hj,rfl⟩:=List.getElem_of_mem hx;exact (hI j hj hj).2⟩⟩
   ·rintro i J hi hw hI
    refine gm ?_
    have hiq:i<q.preds.length:=by omega
    have hx:=zG (f:=Pd.c) [] hi
    have hy:=zG (f:=Pd.c) [] hiq
    by_cases he:p.preds[i].of'=q.preds[i].of'
    ·have e1:(p.preds[i].of' !=q.preds[i].of')=false:=by simp [he]
     refine gf (a9 @hi @hiq @hx @hy @hw @zB @zA @zD @e1) ?_
     refine ⟨_,fun j h hj=> ?_,rfl,rfl,rfl⟩
     rcases Nat.lt_or_ge j i with hji|hji
     ·exact hI j h hji
     ·have:j=i:=by omega
      subst this
      rw [he]
      exact ⟨hpb _ (List.getElem_mem hiq),fun e=>hpz j hiq hi e⟩
    ·have e1:(p.preds[i].of' !=q.preds[i].of')=true:=by simp [he]
     refine gf (a9 @hi @hiq @hx @hy @hw @zB @zA @zD @e1) ?_
     exact ⟨_,rfl,by simp⟩
  ·rintro i J hi hw _
   refine gm ?_
   have hiq:i<q.funs.length:=by omega
   have hx:=zG (f:=Fu.c) [] hi
   have hy:=zG (f:=Fu.c) [] hiq
   have hxo:=hp.f _ (List.getElem_mem hi)
   by_cases he:p.funs[i].of'=q.funs[i].of'
   ·have e1:(p.funs[i].of' !=q.funs[i].of')=false:=by simp [he]
    refine gf (a9 @hi @hiq @hx @hy @hw @zB @zA @zD @e1) ?_
    (refine vY ?_;refine zN rfl rfl rfl ?_;intro sr hsr;simp only [sK,wP] at hsr;subst hsr;(first|refine pK ?_|refine pL ?_);intro sr hsr;simp only [go_sem,hi,hiq,hx,hy,hw,zB,zA,zD,e1] at hsr;subst hsr;refine zP (by decide) (by decide) ((zmH p.funs[i].table q.funs[i].table hxo.tb).call zK (by simp [zJ]) _) ?_;intro p2 h2 hr2 ts2 hts;simp only [go_sem] at hts;subst hts)
    obtain ⟨⟨b,rfl, -⟩,rfl⟩:=hr2
    cases b
    ·refine gf (a9 @hi @hiq @hx @hy @hw @zB @zA @zD @e1) ?_
     exact ⟨_,rfl,by simp⟩
    ·refine gf (a9 @hi @hiq @hx @hy @hw @zB @zA @zD @e1) ?_
     exact ⟨_,trivial,rfl,rfl,rfl⟩
   ·have e1:(p.funs[i].of' !=q.funs[i].of')=true:=by simp [he]
    refine gf (a9 @hi @hiq @hx @hy @hw @zB @zA @zD @e1) ?_
    exact ⟨_,rfl,by simp⟩
 ·have e0:decide ((0:Int)<(d.length:Int))=true:=by rw [decide_eq_true_eq];omega
  refine gf @e0 ?_
  exact ⟨_,rfl,by simp⟩
noncomputable def zpQ (p:Pg):Bool:=znY 20 [.agg p.c] fun b=>b=true→TvK p
theorem zfC (p:Pg) (hp:p.ok) (hle: ∀ x∈p.lats,x.elems.length≤1048576∧x.covers.length≤1048576):EPure prog G0 20 [.agg p.c] (fun v=>v=bo (zpQ p))∧(zpQ p=true→TvK p):=za3 (mL p hp hle)
theorem ze0 (p:Pg) (hp:p.ok) (hle: ∀ x∈p.lats,x.elems.length≤1048576∧x.covers.length≤1048576):EPure prog G0 20 [.agg p.c] (fun v=>v=bo (zpQ p))∧(zpQ p=true→p.fm∧(∀ x∈p.preds, -1≤x.of'∧x.of'<p.lats.length)∧ ∀ x∈p.lats,uE x=0):=⟨(zfC p hp hle).1,fun h=>by
 obtain ⟨a,b,c, -⟩:=(zfC p hp hle).2 h
 exact ⟨a,b,c⟩⟩
theorem zsQ (p:Pg) (hp:p.ok) (hle: ∀ x∈p.lats,x.elems.length≤1048576∧x.covers.length≤1048576) (h:zpQ p=true): ∀ x∈p.preds,x.of'≠ -1→x.key=x.types.length:=fun x hx hof=>by
 obtain ⟨a, -, -,d⟩:=(zfC p hp hle).2 h
 obtain ⟨-, -, -,e⟩:=a.p x hx
 exact e.elim id fun q=>absurd (d x hx q) hof
end Go.AL
namespace Go.AL
open Go.Proofs Go.Proofs.Tryz
theorem aC (s:BA):EB 89 [yQ s] fun b=>b=true→s.size≤16:=by
 refine ECall.pure (pv func89 30 false (by kernel_rfl) rfl rfl ?_)
 refine g2 ?_
 by_cases h0:s=⟨#[]⟩
 ·subst h0
  (repeat' (first|refine gp ?_|refine gs (fun he=> ?_) (fun he=> ?_)|fail))
  exact ⟨⟨⟨_,rfl,by simp⟩,.sc⟩,rfl⟩
 have hp:=mN h0
 (repeat' (first|refine gz ?_|(refine gn ?_;intro zs zh;(try simp only [go_sem,h0,g0_0,gK,zg6] at zh);subst zh;(first|refine gv ?_|((first|refine zC ((wC zm0 _ eI).call zK (by simp) _) ?_|refine zC ((rX s _ jL).call zK (by simp [yO]) _) ?_);intro p2 h2 hr2;obtain ⟨hr2,rfl⟩:=hr2;first|obtain ⟨_,rfl,hr2⟩:=hr2|obtain ⟨_,rfl⟩:=hr2|subst hr2|skip)|(refine yS (fun he=> ?_) (fun he=> ?_)<;>(try simp only [mM] at he))))|((with_reducible refine tO rfl ?_);intro sr hsr;simp only [sK,wP] at hsr;subst hsr;(fail_if_success (with_reducible (first|refine tL ?_|refine tN ?_)));refine tK (fun he=> ?_) (fun he=> ?_)<;>(intro ts2 hts;simp only [wP] at hts;subst hts;(try simp only [mM] at he)))|fail))
 all_goals first|exact ⟨⟨⟨_,rfl,fun _=>by omega⟩,.sc⟩,rfl⟩|exact ⟨⟨⟨_,rfl,fun h=>absurd h (by decide)⟩,.sc⟩,rfl⟩
def VvK (v:Vl):Prop:=v.s.size≤16∧(v.t=1∨v.t=2)∧0≤v.n∧v.n≤9999
theorem jH (v:Vl):EB 61 [.agg v.c] fun b=>b=true→VvK v:=by
 refine ECall.cut (R:=fun p _=> ∃ b:Bool,p=bo b∧(b=true→VvK v)) (pv func61 30 false (by kernel_rfl) rfl rfl ?_) (by rintro p h ⟨n,rfl,h⟩;exact ⟨n,rfl,h⟩)
 refine g2 ?_
 obtain ⟨t,n,s⟩:=v
 unfold VvK
 dsimp only
 have no:false=true→s.size≤16∧(t=1∨t=2)∧0≤n∧n≤9999:=nofun
 by_cases h1:t=1
 ·have e1:(t==1)=true:=by simp [h1]
  by_cases h2:0≤n
  ·have e2:decide (0≤n)=true:=by simp [h2]
   by_cases h3:n≤9999
   ·have e3:decide (n≤9999)=true:=by simp [h3]
    by_cases h4:s=⟨#[]⟩
    ·have e4:decide (s=⟨#[]⟩)=true:=by simp [h4]
     refine gf (a4 @e1 @e2 @e3 @e4) ?_
     exact ⟨_,rfl,fun _=>⟨by rw [h4];decide,.inl h1,h2,h3⟩⟩
    ·have e4:decide (s=⟨#[]⟩)=false:=by simp [h4]
     refine gf (a4 @e1 @e2 @e3 @e4) ?_
     exact ⟨_,rfl,no⟩
   ·have e3:decide (n≤9999)=false:=by simp;omega
    refine gf (a3 @e1 @e2 @e3) ?_
    exact ⟨_,rfl,no⟩
  ·have e2:decide (0≤n)=false:=by simp;omega
   refine gf (a2 @e1 @e2) ?_
   exact ⟨_,rfl,no⟩
 have e1:(t==1)=false:=by simp [h1]
 by_cases h2:t=2
 ·have e2:(t==2)=true:=by simp [h2]
  by_cases h3:n=0
  ·have e3:(n==0)=true:=by simp [h3]
   refine gf (a3 @e1 @e2 @e3) ?_
   (refine g1f (a3 @e1 @e2 @e3) ?_;refine zC ((aC s).call zK (by simp) _) ?_;intro p2 h2 hr2;refine g2 ?_)
   obtain ⟨⟨b,rfl,hb⟩,rfl⟩:=hr2
   refine gf (a3 @e1 @e2 @e3) ?_
   exact ⟨_,rfl,fun h=>⟨hb h,.inr h2,by omega,by omega⟩⟩
  ·have e3:(n==0)=false:=by simp [h3]
   refine gf (a3 @e1 @e2 @e3) ?_
   exact ⟨_,rfl,no⟩
 ·have e2:(t==2)=false:=by simp [h2]
  refine gf (a2 @e1 @e2) ?_
  exact ⟨_,rfl,no⟩
end Go.AL
namespace Go.AL
open Go.Proofs Go.Proofs.Tryz
noncomputable def zoC (v:Vl):Bool:=znY 61 [.agg v.c] (fun b=>b=true→VvK v)
theorem zqC (v:Vl):EPure prog G0 61 [.agg v.c] (fun p=>p=bo (zoC v))∧(zoC v=true→VvK v):=za3 (jH v)
theorem gT (v:Vl):EPure prog G0 61 [.agg v.c] fun p=>p=bo (zoC v):=(zqC v).1
def ArgX (types:List Int) (a:List Vl):Prop:=a.length=types.length∧ ∀ (j:Nat) (h:j<a.length) (h':j<types.length),a[j].t=types[j]∧zoC a[j]=true
theorem jR {types:List Int} {a:List Vl} (h1:a.length=types.length) (h: ∀ (j:Nat) (h:j<a.length) (h':j<types.length),j<a.length→a[j].t=types[j]∧zoC a[j]=true):ArgX types a:=⟨h1,fun j q q'=>h j q q' q⟩
theorem ArgX.sz {ty:List Int} {a:List Vl} (h:ArgX ty a): ∀ v∈a,v.s.size≤1048576:=fun v hv=>by
 obtain ⟨j,hj,rfl⟩:=List.getElem_of_mem hv
 have:=((zqC _).2 (h.2 j hj (by rw [←h.1];exact hj)).2).1
 omega
def ze7 (l:La) (e:Int):Bool:=decide (0≤e∧e<(l.elems.length:Int))
end Go.AL
namespace Go.AL
open Go.Proofs Go.Proofs.Tryz
@[go_sem] def UTyp18f38.pp:Nat→DPlan
 |9=>⟨[yB,yC,yA,yA,yA,yB,yA,yB,yA,yA,yB,yA,yA],yN,0⟩
 |15=>⟨[yA,yB,yA,yA,yA,yB,yA,yB,yA,yA,yA,yA,yA,yB,yB,uX,yA,yA,yA],sI,0⟩
 |_=>⟨[],[],0⟩
@[go_sem] def UTyp18f38.pl:Nat→DPlan
 |9=>⟨[yB,yC,yA,yA,yA,yB,yA,yB,yA,yA,yB,yA,yA],yN,0⟩
 |15=>⟨[yA,yB,yA,yA,yA,yB,yA,yB,yA,yA,yA,yA,yA,⟨7,0,[1003]⟩,yB,⟨6,0,[1003]⟩,yA,yA,yA],sI,0⟩
 |_=>⟨[],[],0⟩
def VfK (p:Pg) (pr el:Int) (args:List Vl):Prop:=p.fm∧(∀ x∈p.preds, -1≤x.of'∧x.of'<p.lats.length)∧ ∃ i:Nat,pr=i∧ ∃ h:i<p.preds.length,ArgX p.preds[i].types args∧ ∀ k:p.preds[i].of'.toNat<p.lats.length,0≤p.preds[i].of'→ze7 p.lats[p.preds[i].of'.toNat] el=true
end Go.AL
namespace Go.AL
open Go.RowKit Go.Lib
theorem xC (s:ByteArray):(xH s).length=s.size:=by
 unfold xH;rw [List.length_map,Array.length_toList];rfl
theorem cB {s:ByteArray} {i:Nat} {e:List PV} (h:(xH s)[i]? =some e): ∃ c,e=[.sc (.int .u8 (UInt8.toNat c))]:=by
 unfold xH at h
 rw [List.getElem?_map] at h
 cases hc:s.data.toList[i]? with
 |none=>rw [hc] at h;cases h
 |some c=>rw [hc] at h;cases h;exact ⟨c,rfl⟩
theorem cA {S:St} {s:ByteArray} {i j:Nat} {e:List PV} {p:PV} {u:Value} (h:(xH s)[i]? =some e) (hp:e[j]? =some p) (hu:(strCells s)[i+j]? =some u):VRel S p u:=by
 unfold xH at h
 rw [List.getElem?_map] at h
 cases hc:s.data.toList[i]? with
 |none=>rw [hc] at h;cases h
 | some c=>
  rw [hc] at h
  cases h
  match j with
  |j+1=>simp at hp
  |0=>
   simp at hp
   subst hp
   unfold strCells at hu
   rw [Nat.add_zero,List.getElem?_map,hc] at hu
   cases hu
   exact .sc (by have:=UInt8.toNat_lt c;simp [tJ,IntKind.min,IntKind.max,IntKind.signed,IntKind.bits];omega)
set_option maxHeartbeats 1000000 in
theorem jF {P:Program} {S:St} (hS:SRel S) {t tx ty e:TypeId} {r k b:Nat} {els xs:List (List PV)} {bs:ByteArray} {u:Value} (ht:wD P t=some (e,k,b)) (hk1:k=1) (hu:VRel S (.vec r k els) u) (hb:S.h[r]? =some (.vec e k els.length))
  (hx:P.underlying tx=some .string) (hxs:xs=xH bs) (hbytes:(els.length+xs.length)*b≤140737488355328) (hlen:els.length+xs.length≤140737488355328):
  ∃ z w' φ',(Builtin.append_ #[t,tx] ty #[u,.string bs]).run P S.w= .ok z w'∧Ext S {S with φ:=φ',h:=S.h.set r (.vec e k (els.length+xs.length)),w:=w'}∧
   SRel {S with φ:=φ',h:=S.h.set r (.vec e k (els.length+xs.length)),w:=w'}∧VRel {S with φ:=φ',h:=S.h.set r (.vec e k (els.length+xs.length)),w:=w'} (.vec r k (els++xs)) z:=by
 obtain ⟨htu,i,zv,hi,hz,hsz,hby,hzs,hk0⟩:=uH ht
 have hr:r<S.h.length:=(gsi hb).1
 have hmx:(140737488355328:Nat)≤maxLen:=by simp [maxLen]
 cases hu with
 | vec hts hb' hle ho=>
  rename_i n0 e0
  rw [hb] at hb'
  cases hb'
  have hφ:=ho rfl
  obtain ⟨news,hnw⟩: ∃ news,news=strCells bs:=⟨_,rfl⟩
  have hxl:xs.length=bs.size:=by rw [hxs,xC]
  have hs_len:news.length=xs.length*k:=by rw [hnw,strCells_length,hxl,hk1,Nat.mul_one]
  have hs_elen: ∀ (i:Nat) (e:List PV),xs[i]? =some e→e.length=k:=fun i e he=>by
   rw [hxs] at he;obtain ⟨_,rfl⟩:=cB he;rw [hk1];rfl
  have hs_one: ∀ u∈news,u.oneCell'=true:=by rw [hnw];exact strCells_oneCell bs
  have hs_rel: ∀ (i:Nat) (e:List PV) (j:Nat) (p:PV) (u:Value),xs[i]? =some e→e[j]? =some p→news[i*k+j]? =some u→VRel S p u:=by
   intro i e j p u hi hp hu
   rw [hxs] at hi
   rw [hnw] at hu
   subst hk1
   exact cA hi hp (by simpa using hu)
  rcases Nat.eq_zero_or_pos xs.length with hx0|hx0
  ·have hxs0:xs=[]:=List.eq_nil_of_length_eq_zero hx0
   have hb0:bs.size=0:=by omega
   rw [hxs0]
   refine ⟨u,S.w,S.φ,?_,?_⟩
   ·obtain ⟨a1,c1,ad1,val1,rfl,g1,g2,_⟩:=uU hts
    have hbe:bs=⟨#[]⟩:=ByteArray.ext (Array.eq_empty_of_size_eq_zero hb0)
    subst hbe
    have hz0:(⟨#[]⟩:ByteArray).size=0:=rfl
    simp [Builtin.append_,run_underlying htu,run_underlying hx,sizeOf,typeInfo,hi,Builtin.lenOf,hz0,Builtin.firstCells,g1]
    cases a1<;>simp [Builtin.firstCells,loadCells,loadCellsFrom,storeCells,hz0]
   ·have e0:S.h.set r (.vec e k (els.length+([]:List (List PV)).length))=S.h:=by
     apply List.ext_getElem?
     intro j
     rw [List.getElem?_set]
     split
     ·rename_i hj;subst hj;rw [hb];simp [hr]
     ·rfl
    rw [e0,List.append_nil]
    exact ⟨Ext.refl _,hS,.vec hts hb (Nat.le_refl _) (fun _=>hφ)⟩
  ·obtain ⟨a1,c1,ad1,val1,hu1,g1,g2,g3,g4,g5,g6⟩:=uU hts
   obtain ⟨olds,holds⟩: ∃ olds:List Value,olds=(List.range (els.length*k)).map val1:=⟨_,rfl⟩
   have hol:olds.length=els.length*k:=by rw [holds];simp
   have hog: ∀ j v,olds[j]? =some v→j<els.length*k∧v=val1 j:=fun j v hj=>by
    rw [holds,List.getElem?_map] at hj
    cases hk:(List.range (els.length*k))[j]? with
    |none=>rw [hk] at hj;cases hj
    |some j'=>
     rw [hk] at hj
     cases hj
     obtain ⟨hlt,rfl⟩:=gsi hk
     simp at hlt ⊢
     exact hlt
   have hor: ∀ (i:Nat) (e:List PV) (j:Nat) (p:PV) (u:Value),els[i]? =some e→e[j]? =some p→olds[i*k+j]? =some u→VRel S p u:=fun i e j p u hi hp hu=>by
    obtain ⟨_,rfl⟩:=hog _ _ hu
    exact g6 i e j p hi hp
   have hal:(olds++news).length=(els.length+xs.length)*k:=by rw [List.length_append,hol,hs_len,Nat.add_mul]
   have hlenA:(els++xs).length=els.length+xs.length:=List.length_append
   have hone: ∀ u∈olds++news,u.oneCell'=true:=fun u hu=>by
    rcases List.mem_append.1 hu with h|h
    ·obtain ⟨j,hj,rfl⟩:=List.getElem_of_mem h
     obtain ⟨hlt,he⟩:=hog j _ (List.getElem?_eq_getElem hj)
     rw [he]
     exact (g5 j hlt).2.1
    ·exact hs_one u h
   have fin: ∀ (φ':List Value) (w':World) (b2 c2:Nat) (arr:Array Value),Ext S {S with φ:=φ',h:=S.h.set r (.vec e k (els.length+xs.length)),w:=w'}→
     SRel {S with φ:=φ',h:=S.h.set r (.vec e k (els.length+xs.length)),w:=w'}→φ'=S.φ.set r (.slice (some ⟨b2,0,none⟩) (els.length+xs.length) c2)→w'.heap[b2]? =some (.cells arr e (0,0))→
     arr.toList.take ((els.length+xs.length)*k)=olds++news→els.length+xs.length≤c2→c2≤maxLen→
     VRel {S with φ:=φ',h:=S.h.set r (.vec e k (els.length+xs.length)),w:=w'} (.vec r k (els++xs)) (.slice (some ⟨b2,0,none⟩) (els.length+xs.length) c2):=by
    intro φ' w' b2 c2 arr x hS' hφ' hw' harr hc2 hm2
    have hown:φ'[r]? =some (.slice (some ⟨b2,0,none⟩) (els.length+xs.length) c2):=by rw [hφ',List.getElem?_set,if_pos rfl,if_pos (by rw [hS.len];exact hr)]
    obtain ⟨q1,q2⟩:=sH rfl hol g3 hor hs_elen hs_rel x
    refine .vec (n:=els.length+xs.length) (e:=e) (oF hlenA q1 hc2 hm2 (fun j u hj=> ?_) hal q2) (by simp [hr]) (by omega) (fun _=>hown)
    have hjl:=(gsi hj).1
    refine ⟨?_,hone u (List.mem_of_getElem? hj),rfl,(Array.getElem?_eq_some_iff.1 hw').1,fun hx=> ?_,fun r' y hy hby=> ?_⟩
    ·rw [cell_of_row _ _ _ _ _ _ hw']
     rw [←harr,List.getElem?_take] at hj
     split at hj
     ·simpa using hj
     ·cases hj
    ·exact hS'.xown _ hx r _ hown rfl
    ·simp only [sC] at hby
     have:r'=r:=hS'.inj r' r y _ b2 hy hown hby rfl
     subst this
     exact ⟨e,k,els.length+xs.length,by simp [hr],by rw [←hal];exact hjl⟩
   have zc: ∀ (N cp:Nat),N≤cp→ ∀ (pre:List Value),pre.length=N*k→(pre.toArray++Builtin.zeroCells zv.cells (cp-N)).size=cp*k:=fun N cp hN pre hp=>by
    rw [Array.size_append,List.size_toArray,size_zeroCells,hzs,hp, ←Nat.add_mul]
    congr 1
    omega
   have moved: ∀ (w':World) (old:Nat),old<els.length+xs.length→w'=S.w.drew.alloc (.cells ((olds++news).toArray++Builtin.zeroCells zv.cells (grownCap S.w (els.length+xs.length) old e-(els.length+xs.length))) e)→
     (Builtin.append_ #[t,tx] ty #[u,.string bs]).run P S.w= .ok (.slice (some ⟨S.w.heap.size,0,none⟩) (els.length+xs.length) (grownCap S.w (els.length+xs.length) old e)) w'→
     ∃ z w' φ',(Builtin.append_ #[t,tx] ty #[u,.string bs]).run P S.w= .ok z w'∧Ext S {S with φ:=φ',h:=S.h.set r (.vec e k (els.length+xs.length)),w:=w'}∧
      SRel {S with φ:=φ',h:=S.h.set r (.vec e k (els.length+xs.length)),w:=w'}∧VRel {S with φ:=φ',h:=S.h.set r (.vec e k (els.length+xs.length)),w:=w'} (.vec r k (els++xs)) z:=by
    intro w' old hold hw' hrun
    have hge:=grownCap_ge S.w (els.length+xs.length) old e
    have hcm:=grownCap_le_maxLen S.w (els.length+xs.length) old e (by omega)
    have hnewb:w'.heap[S.w.heap.size]? =some (.cells ((olds++news).toArray++Builtin.zeroCells zv.cells (grownCap S.w (els.length+xs.length) old e-(els.length+xs.length))) e (0,0)):=by
     rw [hw'];exact heap_alloc_new S.w.drew _
    have hsame: ∀ b,b<S.w.heap.size→w'.heap[b]? =S.w.heap[b]? :=fun b hb=>by rw [hw'];exact Below.heap_alloc S.w.drew _ _ hb
    obtain ⟨x,hS'⟩:=kQ (v:= .slice (some ⟨S.w.heap.size,0,none⟩) (els.length+xs.length) (grownCap S.w (els.length+xs.length) old e)) (n':=els.length+xs.length) (w':=w') hS hb (by omega) (by rw [hw'];rfl) (by rw [hw'];exact iN) (by rw [hw'];rfl) (by rw [hw'];simp)
     (fun b hb=> .inr (hsame b hb)) (fun b hb _=>hsame b hb) (fun b hb=> .inr (by simp [sC] at hb;omega)) (fun b m ⟨ar,t1,f1,h1,h2⟩=>⟨ar,t1,f1,(hsame b (Array.getElem?_eq_some_iff.1 h1).1).trans h1,h2⟩) (.inr ⟨_,_,_,rfl,hnewb,hge,hcm,zc _ _ hge _ hal⟩)
    refine ⟨_,w',_,hrun,x,hS',fin _ w' _ _ _ x hS' rfl hnewb ?_ hge hcm⟩
    simp only [Array.toList_append]
    rw [←hal]
    exact List.take_left
   rcases hS.blks r _ _ hb hφ with ⟨he,hn0⟩|⟨g,cp,cur,he,hg,hnc,hcm,hcs⟩
   ·have ho0:olds=[]:=List.eq_nil_of_length_eq_zero (by rw [hol,hn0,Nat.zero_mul])
    have hxn:0+xs.length=els.length+xs.length:=by omega
    have hs1:i.size=1:=by rw [hsz,hk1]
    have hr1:=run_append_grow_src (P:=P) S.w t tx ty e i zv htu hi hz none 0 0 [] (run_firstCells_none S.w.drew i.size 0 0 0) (.string bs) bs.size (strCells bs) ⟨.inr hx,fun _=>rfl,run_firstCells_string S.w i.size bs,run_firstCells_string S.w.drew i.size bs,by rw [strCells_length,hs1,Nat.mul_one],strCells_oneCell bs⟩ (by omega) (by omega) (by rw [nextslicecap_zero (by omega),hby, ←hxl];have:=oH hbytes;rw [hn0,Nat.zero_add] at this;simpa using this)
    rw [List.nil_append,Nat.zero_add, ←hxl, ←hnw] at hr1
    refine moved _ 0 (by omega) rfl ?_
    rw [ho0,hn0,he,Nat.zero_add,List.nil_append]
    exact hr1
   ·have he1:els.length=els.length:=rfl
    have hu1':=hu1
    rw [he] at hu1
    cases hu1
    by_cases hroom:els.length+xs.length≤c1
    ·have hcur:cur.toList.take (els.length*k)=olds:=by
      apply List.ext_getElem?
      intro j
      rw [List.getElem?_take]
      split
      ·rename_i hj
       have h1:=(g5 j hj).1
       rcases Nat.eq_zero_or_pos els.length with h0|h0
       ·rw [h0] at hj;omega
       ·have ha:=g4 (by omega)
        cases ha
        rw [Addr.add_lit,Nat.zero_add,cell_of_row _ _ _ _ _ _ hg] at h1
        rw [Array.getElem?_toList,h1,holds,List.getElem?_map,List.getElem?_range (by omega)]
        rfl
      ·rename_i hj
       rw [List.getElem?_eq_none (by rw [hol];omega)]
     have hfit:els.length*k+news.length≤cur.size:=by rw [hs_len,hcs, ←Nat.add_mul];exact Nat.mul_le_mul_right _ hroom
     have hr1:=run_append_room_string (P:=P) S.w t tx ty e i htu hx hi (by rw [hsz,hk1]) g els.length c1 cur hg bs (by rw [←hxl];exact hroom) (by rw [←hxl,hcs,hk1,Nat.mul_one];exact hroom)
     have et:cur.toList.take els.length=olds:=by rw [←hcur,hk1,Nat.mul_one]
     have ed:cur.toList.drop (els.length+xs.length)=cur.toList.drop (els.length*k+news.length):=by rw [hs_len,hk1,Nat.mul_one,Nat.mul_one]
     rw [←hxl, ←hnw,et,ed] at hr1
     have hnewb:(S.w.setRow g (olds++news++cur.toList.drop (els.length*k+news.length)).toArray).heap[g]? =some (.cells (olds++news++cur.toList.drop (els.length*k+news.length)).toArray e (0,0)):=setRow_heap S.w g cur _ e _ hg
     have hother: ∀ b,b≠g→(S.w.setRow g (olds++news++cur.toList.drop (els.length*k+news.length)).toArray).heap[b]? =S.w.heap[b]? :=fun b hb=>setRow_other S.w g b _ hb
     obtain ⟨x,hS'⟩:=kQ (v:= .slice (some ⟨g,0,none⟩) (els.length+xs.length) c1) (n':=els.length+xs.length) (w':=S.w.setRow g (olds++news++cur.toList.drop (els.length*k+news.length)).toArray) hS hb (by omega) rfl iN rfl (by simp)
      (fun b hb=>by
       by_cases hbg:b=g
       ·subst hbg
        refine .inl fun y hy hby=>⟨rfl,fun j u hj hju=> ?_⟩
        rw [cell_of_row _ _ _ _ _ _ hg] at hju
        rw [cell_of_row _ _ _ _ _ _ hnewb]
        have h2:olds[j]? =some u:=by rw [←hcur,List.getElem?_take,if_pos hj];simpa using hju
        have h3:=(gsi h2).1
        simp only [List.getElem?_toArray,List.append_assoc]
        rw [List.getElem?_append,if_pos h3]
        exact h2
       ·exact .inr (hother b hbg))
      (fun b hb hne=>hother b fun hbg=>hne _ hφ (by rw [he,hbg];rfl)) (fun b hb=> .inl ⟨_,hφ,by rw [he];exact hb⟩)
      (fun b m ⟨ar,t1,f1,h1,h2⟩=>by
       by_cases hbg:b=g
       ·subst hbg
        rw [hg] at h1
        cases h1
        exact ⟨_,_,_,hnewb,by simp;omega⟩
       ·exact ⟨ar,t1,f1,(hother b hbg).trans h1,h2⟩)
      (.inr ⟨g,c1,_,rfl,hnewb,hroom,hcm,by simp;omega⟩)
     refine ⟨_,_,_,by rw [he];exact hr1,x,hS',fin _ _ _ _ _ x hS' rfl hnewb ?_ hroom hcm⟩
     rw [←hal]
     exact List.take_left
    ·have hold: ∀ j v,olds[j]? =some v→S.w.cell? ((⟨g,0,none⟩:Addr).add j)=some v:=fun j v hj=>by
      obtain ⟨hlt,rfl⟩:=hog j v hj
      rcases Nat.eq_zero_or_pos els.length with h0|h0
      ·rw [h0] at hlt;omega
      ·have ha:=g4 (by omega)
       cases ha
       exact (g5 j hlt).1
     have hr1:=run_append_grow_string (P:=P) S.w t tx ty e i zv htu hx hi hz ⟨g,0,none⟩ els.length c1 olds (by rw [hol,hsz]) hold bs (by omega) (by omega) (by rw [hby, ←hxl];exact growslice_fits (by omega) hbytes)
     rw [←hxl, ←hnw] at hr1
     refine moved _ c1 (by omega) rfl ?_
     rw [he]
     rw [←List.append_toArray]
     exact hr1
theorem OpOk.appendStr {P:Program} {G:Glob} {rd:Option Nat} {o:Oper} {h:Heap} {F:Operand→PV} {R:PV→Heap→Prop} {c:Call} {t tx e:TypeId} {r b:Nat} {els:List (List PV)} {bs:ByteArray} {s x:Operand} (ho:o.op= .call c) (hc:c.callee= .builtin .append) (ha:c.args= #[s,x]) (hat:c.argTypes= #[t,tx])
  (hs:F s= .vec r 1 els) (hx:F x= .sc (.string bs)) (ht:wD P t=some (e,1,b)) (hu:P.underlying tx=some .string) (hb:h[r]? =some (.vec e 1 els.length)) (hbytes:(els.length+bs.size)*b≤140737488355328) (hlen:els.length+bs.size≤140737488355328)
  (k:R (.vec r 1 (els++xH bs)) (h.set r (.vec e 1 (els.length+bs.size)))):OpOk P G rd o h F R:=by
 refine .of_run (by intro c;rw [ho];simp) fun φ w X ρ hS hG hv=> ?_
 have h1:=hv s (by rw [ho];simp [Op.operands,Call.operands,hc,ha])
 have h2:=hv x (by rw [ho];simp [Op.operands,Call.operands,hc,ha])
 rw [hs] at h1
 rw [hx] at h2
 have hux:ρ x= .string bs:=by generalize ρ x=u at h2;cases h2;rfl
 obtain ⟨z,w',φ',hrun,x1,hS',hv'⟩:=jF (P:=P) (ty:=o.type) (tx:=tx) hS ht rfl h1 hb hu rfl (by rw [xC];exact hbytes) (by rw [xC];exact hlen)
 rw [xC] at x1 hS' hv'
 refine ⟨φ',_,w',_,z,?_,x1,hS',hv',k⟩
 unfold execOp
 rw [ho]
 simp only [] at hrun
 simp [resolve,invoke,builtin,hc,ha,hat,hux,hrun]
theorem cO: ∀ (l:List UInt8) (r:ByteArray),(l.map fun b=>((b.toNat:Nat):Int)).foldl (fun r n=>r.push (UInt8.ofNat n.toNat)) r=⟨r.data++l.toArray⟩
 | [],r=>by simp
 |b::l,r=>by
  rw [List.map_cons,List.foldl_cons,cO l]
  have e:UInt8.ofNat (Int.toNat ((b.toNat:Nat):Int))=b:=by simp
  rw [e]
  have e2:(r.push b).data=r.data.push b:=rfl
  rw [e2]
  congr 1
  apply Array.ext'
  simp
theorem OpOk.bytesStr {P:Program} {G:Glob} {rd:Option Nat} {o:Oper} {h:Heap} {F:Operand→PV} {R:PV→Heap→Prop} {src dst e:TypeId} {x:Operand} {bs:ByteArray} (ho:o.op= .convert src dst x) (hx:zaG (F x)=some (1,xH bs)∨(F x= .nil∧bs= .empty))
  (hs:P.underlying src=some (.slice e)) (he:P.underlying e=some (.int .u8)) (hd:P.underlying dst=some .string) (k:R (.sc (.string bs)) h):OpOk P G rd o h F R:=by
 refine .of_run (by intro c;rw [ho];simp) fun φ w X ρ hS hG hv=> ?_
 have h1:=hv x (by rw [ho];simp [Op.operands])
 have key:(convert src dst (ρ x)).run P w= .ok (.string bs) w∧bs.size≤maxLen:=by
  rcases hx with hx|⟨hx,hb⟩
  ·have h2:=iL hx h1
   obtain ⟨a,c,ad,val,e1,g1,g2,g3,g4,g5,g6⟩:=uU h2
   rw [xC] at e1 g1 g4
   rw [e1,run_convert_bytes_string w src dst e a _ c hs he hd]
   refine ⟨?_,by omega⟩
   have hload: ∀ a',(bs.size≠0→a'=ad)→(loadCells a' bs.size).run P w= .ok ((bs.data.toList.map fun b=>((b.toNat:Nat):Int)).map (Value.int .u8)).toArray w:=by
    intro a' ha'
    have hl:((bs.data.toList.map fun b=>((b.toNat:Nat):Int)).map (Value.int .u8)).length=bs.size*1:=by
     rw [List.length_map,List.length_map,Array.length_toList,Nat.mul_one];rfl
    have:=run_firstCells_some (P:=P) w 1 bs.size a' bs.size c _ hl (fun j u hu=>by
     have hj:j<bs.size:=by have:=(gsi hu).1;omega
     rw [ha' (by omega)]
     have hM:=g5 j (by rw [xC];omega)
     rw [List.map_map,List.getElem?_map] at hu
     cases hc:bs.data.toList[j]? with
     |none=>rw [hc] at hu;cases hu
     |some b=>
      rw [hc] at hu
      cases hu
      have hq:(xH bs)[j]? =some [.sc (.int .u8 b.toNat)]:=by unfold xH;rw [List.getElem?_map,hc];rfl
      have hr:=g6 j _ 0 _ hq rfl
      rw [Nat.mul_one,Nat.add_zero] at hr
      have hM1:=hM.1
      generalize val j=u at hr hM1
      cases hr
      exact hM1)
    simpa [Builtin.firstCells] using this
   have hfold:(bs.data.toList.map fun b=>((b.toNat:Nat):Int)).foldl (fun r n=>r.push (UInt8.ofNat n.toNat)) ByteArray.empty=bs:=by
    rw [cO]
    apply ByteArray.ext
    apply Array.ext'
    show (#[]++bs.data.toList.toArray:Array UInt8).toList=bs.data.toList
    simp
   cases a with
   |none=>
    have h0:bs.size=0:=Classical.byContradiction fun hn=>by have:=g4 hn;cases this
    have:bs= .empty:=ByteArray.ext (Array.eq_empty_of_size_eq_zero h0)
    rw [this]
    simp [Conv.bytesToString]
   |some a'=>
    have:=run_bytesToString (P:=P) w a' bs.size c _ (hload a' fun hn=>by have:=g4 hn;cases this;rfl)
    rw [hfold] at this
    exact this
  ·subst hb
   rw [hx] at h1
   have:ρ x= .slice none 0 0:=by generalize ρ x=u at h1;cases h1;rfl
   rw [this,run_convert_bytes_string w src dst e none 0 0 hs he hd]
   exact ⟨by simp [Conv.bytesToString],by decide⟩
 refine ⟨φ,h,w,.sc (.string bs),.string bs,?_,Ext.refl _,hS,.sc key.2,k⟩
 unfold execOp
 rw [ho]
 simp [key.1]
end Go.AL
namespace Go.AL
open Go.Proofs Go.Proofs.Tryz
theorem mG (bs:BA) (c:UInt8):xH (bs.push c)=xH bs++[[.sc (.int .u8 c.toNat)]]:=by
 unfold xH
 have:(bs.push c).data.toList=bs.data.toList++[c]:=by
  show (bs.data.push c).toList=_
  simp
 rw [this,List.map_append];rfl
theorem kA (a b:BA):xH (a++b)=xH a++xH b:=by
 unfold xH
 have:(a++b).data.toList=a.data.toList++b.data.toList:=by simp
 rw [this,List.map_append]
def vT (n:Int) (k:Nat):UInt8:=UInt8.ofNat (IntKind.u8.wrap (n / 2 ^ min (8*k) 64)).toNat
theorem ziJ (n:Int) (k:Nat):IntKind.u8.wrap (n / 2 ^ min (8*k) 64)=(((vT n k).toNat:Nat):Int):=by
 unfold vT
 rw [IntKind.wrap_u8]
 simp
 omega
def b8 (n:Int) (bs:BA):Nat→BA
 |0=>bs
 |k+1=>(b8 n bs k).push (vT n k)
def zsP (x:Vl):Nat→Int
 |0=>x.t
 |1=>x.n
 |_=>(x.s.size:Int)
def ztA (x:Vl) (bs:BA):Nat→BA
 |0=>bs
 |j+1=>b8 (zsP x j) (ztA x bs j) 8
def znJ (bs:BA) (x:Vl):BA:=ztA x bs 3++x.s
def zk0 (args:List Vl):BA:=args.foldl znJ ⟨#[]⟩
theorem zm9 (bs:BA) (x:Vl):znJ bs x=ztA x bs 3++x.s:=rfl
theorem fK (x:Vl) (bs:BA) (j:Nat):ztA x bs (j+1)=b8 (zsP x j) (ztA x bs j) 8:=rfl
theorem znE (n:Int) (bs:BA) (k:Nat):b8 n bs (k+1)=(b8 n bs k).push (vT n k):=rfl
theorem zsU (x:Vl) {j:Nat} (h:j<3):([[i64 x.t],[i64 x.n],[i64 x.s.size]]:List (List PV)).getD j []=[i64 (zsP x j)]:=by
 match j,h with
 |0,_=>rfl
 |1,_=>rfl
 |2,_=>rfl
theorem zrG {args:List Vl} {i:Nat} (h:i<args.length):zk0 (args.take (i+1))=znJ (zk0 (args.take i)) args[i]:=by
 unfold zk0
 rw [List.take_succ_eq_append_getElem h,List.foldl_append,List.foldl_cons,List.foldl_nil]
abbrev KB (J:Heap) (V:PV) (bs:BA):Prop:=GrowN 0 5 (xH bs) 1 J V
theorem KB.mono {J J':Heap} {V:PV} {bs:BA} (h:KB J V bs) (k: ∀ (q n:Nat),J[q]? =some (.vec 5 1 n)→J'[q]? =some (.vec 5 1 n)):KB J' V bs:=by
 rcases h with h|⟨q,h1,hq⟩
 ·exact .inl h
 ·exact .inr ⟨q,h1,k _ _ hq⟩
theorem zlY (args:List Vl) (hl:args.length≤1048576) (hs: ∀ a∈args,a.s.size≤1048576):EPure prog G0 102 [pH args] fun p=>p=yQ (zk0 args):=by
 refine ECall.cut (R:=fun p _=>p=yQ (zk0 args)) (pv func102 48 false (by kernel_rfl) rfl rfl ?_) (by rintro p h rfl;rfl)
 refine g2 ?_
 refine ge ?_
 refine zO args.length (.k:: .k:: .k:: .v:: .k:: .d:: .k:: .d:: .d:: .k:: .k:: .v::D9 (D9 (D9 (D4 (.d:: .d:: .d:: .k:: .k::[]))))) (own:=false) (fun i (s:PV×BA×Heap)=>[s.1,i64 i]) (fun s=>s.2.2) (fun i s=>KB s.2.2 s.1 s.2.1∧s.2.1.size≤1048600*i∧s.2.1=zk0 (args.take i)) (.nil,⟨#[]⟩,[]) rfl rfl ⟨.inl ⟨rfl,rfl⟩,Nat.zero_le _,rfl⟩ (by omega) ?_ ?_
 ·rintro ⟨V,bs,J⟩ ⟨hI,hn,hE⟩ t ht
  dsimp only at*
  rw [List.take_length] at hE
  rw [←hE]
  clear hE
  simp only [zY] at ht;subst ht
  refine gf @zM ?_
  rcases hI with ⟨h0,rfl⟩|⟨q,rfl,hq⟩
  ·have hb:bs= .empty:=by
    have:=congrArg List.length h0
    rw [xC] at this
    exact ByteArray.ext (Array.eq_empty_of_size_eq_zero this)
   (refine wU ?_;intro sr hsr;simp only [go_sem] at hsr;subst hsr;refine iR rfl (fun rd=>OpOk.bytesStr (x:= .tmp 46) rfl (.inr ⟨rfl,hb⟩) (by kernel_rfl:prog.underlying 234=some (.slice 5)) (by kernel_rfl) (by kernel_rfl) ⟨rfl,rfl⟩) ?_;intro ts2 hts;simp only [go_sem] at hts;subst hts)
   refine ge ?_
   rfl
  ·(refine wU ?_;intro sr hsr;simp only [go_sem] at hsr;subst hsr;refine iR rfl (fun rd=>OpOk.bytesStr (x:= .tmp 46) (bs:=bs) rfl (.inl rfl) (by kernel_rfl:prog.underlying 234=some (.slice 5)) (by kernel_rfl) (by kernel_rfl) ⟨rfl,rfl⟩) ?_;intro ts2 hts;simp only [go_sem] at hts;subst hts)
   refine ge ?_
   rfl
 ·rintro i ⟨V,bs,J⟩ hi hw ⟨hI,hn,hE⟩ t ht
  dsimp only at*
  have hk1:=zrG hi
  rw [←hE] at hk1
  clear hE
  simp only [zY] at ht;subst ht
  have hx:=zG (f:=Vl.c) [] hi
  have hsx:=hs _ (List.getElem_mem hi)
  generalize args[i]=x at*
  refine gf (a6 @hi @hx @zB @hw @zA @zD) ?_
  have hKB0:KB (J++[.var 79 x.c]) V bs:=hI.mono fun q n hq=>by rw [List.getElem?_append_left (gsi hq).1];exact hq
  have hp0:(J++[.var 79 x.c])[J.length]? =some (.var 79 x.c):=zA _ _
  generalize J.length=p at*
  generalize J++[.var 79 x.c]=J1 at*
  refine zO 3 (.k:: .k:: .k:: .v:: .k:: .k:: .k:: .d:: .d::K9 (K4 (.k:: .k:: .v::D9 (D4 (.d:: .d:: .d::K4 (.k:: .k:: .k::[])))))) (own:=false) (fun i (s:PV×BA×Heap)=>[s.1,i64 i]) (fun s=>s.2.2) (fun j s=>KB s.2.2 s.1 s.2.1∧s.2.1.size≤1048600*i+j*8∧s.2.2[p]? =some (.var 79 x.c)∧(0<j→0<s.2.1.size)∧s.2.1=ztA x bs j) (V,bs,J1) rfl rfl ⟨hKB0,by omega,hp0,by simp,rfl⟩ (by omega) ?_ ?_
  ·rintro ⟨V2,bs2,J2⟩ ⟨hI2,hn2,hp2,hpos,hE2⟩ t ht
   dsimp only at*
   simp only [zY] at ht;subst ht
   have h3:(((3:Nat):Int)<3)=False:=by simp
   rcases hI2 with ⟨h0,rfl⟩|⟨q,rfl,hq⟩
   ·have:=congrArg List.length h0
    rw [xC,List.length_nil] at this
    omega
   ·refine gf (a3 @hw @h3 @hp2) ?_
    have hbl:(xH bs2).length=bs2.size:=xC _
    have hqJ:q<J2.length:=(gsi hq).1
    (refine wU ?_;intro sr hsr;simp only [go_sem,hw,h3,hp2] at hsr;subst hsr;refine iR rfl (fun rd=>OpOk.appendStr (s:= .tmp 41) (x:= .tmp 43) rfl rfl rfl rfl rfl rfl (by kernel_rfl:wD prog 234=some (5,1,1)) (by kernel_rfl) hq (by rw [hbl];omega) (by rw [hbl];omega) ⟨rfl,rfl⟩) ?_;intro ts2 hts;simp only [go_sem] at hts;subst hts)
    refine gf (a3 @hw @h3 @hp2) ?_
    exact ⟨(_,bs2++x.s,_),⟨.inr ⟨q,by rw [kA],by rw [List.getElem?_set_self hqJ,kA,List.length_append,xC x.s]⟩,by dsimp only;rw [ByteArray.size_append];omega,by dsimp only;rw [hk1,zm9,hE2]⟩,(by simp only [zY,xJ,List.tail_cons];rfl),rfl,rfl⟩
  ·rintro j ⟨V2,bs2,J2⟩ hj hw2 ⟨hI2,hn2,hp2,hpos,hE2⟩ t ht
   dsimp only at*
   simp only [zY] at ht;subst ht
   have h3:((j:Int)<3)=True:=by simp;omega
   have h3n:=zsU x hj
   have hE3:ztA x bs (j+1)=b8 (zsP x j) bs2 8:=by rw [hE2,fK]
   clear hE2
   generalize zsP x j=n at*
   refine gf (a5 @h3 @hj @h3n @zB @hw2) ?_
   refine zO 8 (.k:: .k:: .k:: .v::K4 (.d::K9 (K9 (.k:: .v::D9 (.d:: .d::K4 (K4 ([]))))))) (own:=false) (fun i (s:PV×BA×Heap)=>[s.1,i64 i]) (fun s=>s.2.2) (fun k s=>KB s.2.2 s.1 s.2.1∧s.2.1.size≤1048600*i+j*8+k∧s.2.2[p]? =some (.var 79 x.c)∧(0<k→0<s.2.1.size)∧s.2.1=b8 n bs2 k) (V2,bs2,J2) rfl rfl ⟨hI2,by dsimp only;omega,hp2,by simp,rfl⟩ (by omega) ?_ ?_
   ·rintro ⟨V3,bs3,J3⟩ ⟨hI3,hn3,hp3,hpos3,hE4⟩ t ht
    dsimp only at*
    simp only [zY] at ht;subst ht
    have h8:(((8:Nat):Int)<8)=False:=by simp
    refine gf (a4 @h8 @h3 @hj @hw2) ?_
    exact ⟨(V3,bs3,J3),⟨hI3,by dsimp only;omega,hp3,fun _=>hpos3 (by omega),by dsimp only;rw [hE3,hE4]⟩,rfl,rfl,rfl⟩
   ·rintro k ⟨V3,bs3,J3⟩ hk hw3 ⟨hI3,hn3,hp3,hpos3,hE4⟩ t ht
    dsimp only at*
    simp only [zY] at ht;subst ht
    have h8:((k:Int)<8)=True:=by simp;omega
    have h8k:IntKind.i64.wrap (8*(k:Int))=((8*k:Nat):Int):=by rw [IntKind.wrap_i64];omega
    have hc:=ziJ n k
    have hE5:b8 n bs2 (k+1)=bs3.push (vT n k):=by rw [hE4,znE]
    clear hE4
    generalize vT n k=c at*
    rcases hI3 with ⟨h0,rfl⟩|⟨q,rfl,hq⟩
    ·have hb:bs3=⟨#[]⟩:=by
      have:=congrArg List.length h0
      rw [xC] at this
      exact ByteArray.ext (Array.eq_empty_of_size_eq_zero this)
     subst hb
     refine gf (a6 @h8 @hk @hw3 @h8k @hc @iS) ?_
     have hb1:((⟨#[]⟩:BA).push c).size=1:=rfl
     exact ⟨(_,(⟨#[]⟩:BA).push c,_),⟨.inr ⟨J3.length,by rw [mG],by simp [xC,hb1]⟩,by dsimp only;omega,by dsimp only;rw [List.getElem?_append_left (gsi hp3).1];exact hp3,fun _=>by dsimp only;omega,hE5.symm⟩,(by simp only [zY,xJ,List.tail_cons];rfl),rfl,rfl⟩
    ·have hqJ:q<J3.length:=(gsi hq).1
     have hbl:(xH bs3).length=bs3.size:=xC _
     refine gf (a8 @h8 @hk @hw3 @h8k @hc @hq @hbl @iS) ?_
     have hb1:(bs3.push c).size=bs3.size+1:=ByteArray.size_push
     have hqp:q≠p:=fun e=>by subst e;rw [hq] at hp3;cases hp3
     exact ⟨(_,bs3.push c,_),⟨.inr ⟨q,by rw [mG],by rw [List.getElem?_set_self hqJ,xC,hb1]⟩,by dsimp only;omega,by dsimp only;rw [List.getElem?_set_ne hqp];exact hp3,fun _=>by dsimp only;omega,hE5.symm⟩,(by simp only [zY,xJ,List.tail_cons];rfl),rfl,rfl⟩
end Go.AL
