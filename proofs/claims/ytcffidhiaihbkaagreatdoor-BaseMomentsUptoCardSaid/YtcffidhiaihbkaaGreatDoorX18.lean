/-
  Lattices: the check of a declaration.
-/
import Derived.Test.YtcffidhiaihbkaaGreatDoorX17
set_option linter.unusedSimpArgs false
set_option linter.unusedVariables false
set_option maxRecDepth 100000
set_option maxHeartbeats 4000000
namespace Go.AL
open Go.Proofs Go.Proofs.Tryz
@[go_sem] def ULat3f125.pl:Nat→DPlan
 |17=>⟨[yA,yB,yA,yB,yA,yB,yA,yA,yA,yC],xS,0⟩
 |26=>⟨[yB,yA,yA,yA,yA,yC,yA],tV,0⟩
 |34=>⟨[yA,yA,yA,yA,yA,yA,yB,yA,yA,yA,yA,yA,yA,yA,yA,yB,yA,yA,yA,yA,yA,yA,yB,yA,yA,yB,yA,yA,yB,yA,yA,yC,yA,yA],zrK,0⟩
 |_=>⟨[],[],0⟩
def CkR (l:La) (p:PV):Prop:= ∃ (os:List Int) (e:Int),p= .tup [.agg (os.map u8),i64 e]∧os.length=8∧(e=0→1≤l.elems.length∧l.elems.length≤8∧Low l.elems.length os)
open ULat3f125 in
theorem bJ (l:La) (hl:l.ok):EPure prog G0 125 [.agg l.c] (CkR l):=by
 obtain ⟨hln,hle,hls,hlc⟩:=hl
 refine ECall.cut (R:=fun p _=>CkR l p) (pv func125 159 false (by kernel_rfl) rfl rfl ?_) ?_
 refine g2 ?_
 ·(repeat' (first|refine gz ?_|(refine gn ?_;intro zs zh;(try simp only [go_sem] at zh);subst zh;(first|refine gv ?_|((first|refine zC ((qV _ hln).call zK (by simp) _) ?_|refine zP (by decide) (by decide) ((qV _ hln).call zK (by simp) _) ?_);intro p2 h2 hr2;obtain ⟨hr2,rfl⟩:=hr2;first|obtain ⟨_,rfl,hr2⟩:=hr2|obtain ⟨_,rfl⟩:=hr2|subst hr2|skip)|(refine yS (fun he=> ?_) (fun he=> ?_)<;>(try simp only [mM] at he))))|refine yD ULat3f125.pl ?_|((with_reducible refine vY ?_);refine zN rfl rfl rfl ?_;intro sr hsr;simp only [sK,wP] at hsr;subst hsr;(fail_if_success (refine nx ?_));(refine iT (fun he=> ?_) (fun he=> ?_)<;>(intro ts2 hts;simp only [wP] at hts;subst hts;(try simp only [mM] at he))))|((with_reducible refine tO rfl ?_);intro sr hsr;simp only [sK,wP] at hsr;subst hsr;(fail_if_success (with_reducible (first|refine tL ?_|refine tN ?_)));refine tK (fun he=> ?_) (fun he=> ?_)<;>(intro ts2 hts;simp only [wP] at hts;subst hts;(try simp only [mM] at he)))|fail))
  all_goals try exact ⟨[0,0,0,0,0,0,0,0],1,rfl,rfl,fun h=>by omega⟩
  refine zO l.elems.length (.k:: .k:: .k:: .d:: .k:: .k:: .d:: .d::K9 (K9 (K9 (K4 (.v::D9 (D4 (K9 (K9 (K9 (K9 (K9 (K9 (K9 (K9 (K9 (K9 (K9 (K4 (.k:: .k:: .k::[]))))))))))))))))))) (own:=false) (fun i (_:List Int)=>[i64 i]) (fun s=>[_,_,.var 163 (s.map u8)]) (fun _ s=>s.length=8∧Low l.elems.length s) [0,0,0,0,0,0,0,0] rfl rfl ⟨rfl,zfQ _⟩ (by omega) ?_ ?_
  ·rintro s ⟨hs8,hsL⟩
   refine gm ?_
   refine gf @zM ?_
   refine zO l.covers.length (.k:: .k:: .k:: .d::K4 (.k:: .d::K9 (K9 (K9 (K9 (K9 (.k:: .v::D9 (D9 (D9 (.d:: .d::K9 (K9 (K9 (K9 (K9 (K9 (K9 (K9 (.k::[])))))))))))))))))) (own:=false) (fun i (_:List Int×Heap)=>[i64 i]) (fun s=>_::_:: .var 163 (s.1.map u8)::s.2) (fun _ s=>s.1.length=8∧Low l.elems.length s.1) (s,[]) rfl rfl ⟨hs8,hsL⟩ (by omega) ?_ ?_
   ·rintro ⟨s,J⟩ ⟨hs8,hsL⟩
    refine gm ?_
    dsimp only at hs8 hsL
    refine gf @zM ?_
    refine zO l.elems.length (.k:: .k:: .k:: .d::K4 (.k:: .k:: .d:: .d::K9 (K9 (K9 (K9 (K9 (K9 (K9 (K9 (K4 (.k:: .v::D9 (.d:: .d:: .d::K9 (K9 (K9 (K9 (K9 (K9 (.k:: .k:: .k::[])))))))))))))))))) (own:=false) (fun i (_:Unit)=>[i64 i]) (fun _=>_) (fun _ _=>True) () rfl rfl trivial (by omega) ?_ ?_
    ·rintro _ _
     refine gm ?_
     have ht8:=kK hs8
     refine gf (a2 @zM @ht8) ?_
     (refine g1f @ht8 ?_;refine zC ((zd6 s hs8 l.elems.length (by omega)).call zK (by simp [qM]) _) ?_;intro p2 h2 hr2;refine g2 ?_)
     obtain ⟨⟨o,rfl,ho,hoL⟩,rfl⟩:=hr2
     have hoL:=hoL hsL
     have hdr:(s.map u8).drop 8=[]:=List.drop_eq_nil_of_le (by simp [hs8])
     have ht9:=kK ho
     (repeat' (first|refine gz ?_|(refine gn ?_;intro zs zh;(try simp only [go_sem,hdr,List.length_map,ho,hs8,ht9] at zh);subst zh;(first|refine gv ?_|((first|refine zC ((oC o ho _ l.elems.length (by omega)).call zK (by simp [qM]) _) ?_|refine zP (by decide) (by decide) ((oC o ho _ l.elems.length (by omega)).call zK (by simp [qM]) _) ?_);intro p2 h2 hr2;obtain ⟨hr2,rfl⟩:=hr2;first|obtain ⟨_,rfl,hr2⟩:=hr2|obtain ⟨_,rfl⟩:=hr2|subst hr2|skip)|(refine yS (fun he=> ?_) (fun he=> ?_)<;>(try simp only [mM] at he))))|refine yD ULat3f125.pl ?_|((with_reducible refine vY ?_);refine zN rfl rfl rfl ?_;intro sr hsr;simp only [sK,wP] at hsr;subst hsr;(fail_if_success (refine nx ?_));(refine iT (fun he=> ?_) (fun he=> ?_)<;>(intro ts2 hts;simp only [wP] at hts;subst hts;(try simp only [mM] at he))))|((with_reducible refine tO rfl ?_);intro sr hsr;simp only [sK,wP] at hsr;subst hsr;(fail_if_success (with_reducible (first|refine tL ?_|refine tN ?_)));refine tK (fun he=> ?_) (fun he=> ?_)<;>(intro ts2 hts;simp only [wP] at hts;subst hts;(try simp only [mM] at he)))|fail))
     all_goals (try exact ⟨o,_,rfl,ho,fun h=>by omega⟩)
     refine zO l.elems.length (.k:: .k:: .k:: .d::K4 (K4 (.d:: .d::K9 (K9 (K9 (K9 (K9 (K9 (K9 (K9 (K9 (K9 (K9 (.k:: .v::D9 (D9 (D9 (D9 (D4 (.d:: .d:: .d:: .k::[]))))))))))))))))))) (own:=false) (fun i (_:Unit)=>[i64 i]) (fun _=>_) (fun _ _=>True) () rfl rfl trivial (by omega) ?_ ?_
     ·rintro _ _
      refine gm ?_
      (repeat (first|refine gz ?_|(refine gn ?_;intro zs zh;(try simp only [go_sem,zM,ht9,List.length_map,ho,hdr] at zh);subst zh;refine gv ?_)|refine yD ULat3f125.pl ?_))
      exact ⟨o,0,rfl,ho,fun h=>⟨by omega,by omega,hoL⟩⟩
     ·rintro i _ hi hw _
      refine gm ?_
      have hi8:i<o.length:=by omega
      have hdi:=yU u8 o i .un hi8
      refine gf (a2 @hi @hw) ?_
      refine zO l.elems.length (.k:: .k:: .k:: .d::K9 (.d::K9 (K9 (K9 (K9 (K9 (K9 (K9 (K9 (K9 (K9 (K9 (K4 (.k:: .v::D9 (D9 (D9 (D9 (.d:: .d:: .k:: .k::[])))))))))))))))))) (own:=false) (fun i (_:Unit)=>[i64 i]) (fun _=>_) (fun _ _=>True) () rfl rfl trivial (by omega) ?_ ?_
      ·rintro _ _
       refine gm ?_
       refine gf (a2 @zM @hw) ?_
       (refine ⟨(),trivial,?_,?_,rfl⟩<;>simp only [zY,xJ,List.tail_cons])
      ·rintro j _ hj hw2 _
       refine gm ?_
       have hj8:j<o.length:=by omega
       have hdj:=yU u8 o j .un hj8
       (repeat' (first|refine gz ?_|(refine gn ?_;intro zs zh;(try simp only [go_sem,hj,hw2,ht9,List.length_map,ho,hdr,hdi,hdj,zB] at zh);subst zh;(first|refine gv ?_|((first|refine zC ((oC o ho _ l.elems.length (by omega)).call zK (by simp [qM]) _) ?_|refine zP (by decide) (by decide) ((oC o ho _ l.elems.length (by omega)).call zK (by simp [qM]) _) ?_);intro p2 h2 hr2;obtain ⟨hr2,rfl⟩:=hr2;first|obtain ⟨_,rfl,hr2⟩:=hr2|obtain ⟨_,rfl⟩:=hr2|subst hr2|skip)|(refine yS (fun he=> ?_) (fun he=> ?_)<;>(try simp only [mM] at he))))|refine yD ULat3f125.pl ?_|((with_reducible refine vY ?_);refine zN rfl rfl rfl ?_;intro sr hsr;simp only [sK,wP] at hsr;subst hsr;(fail_if_success (refine nx ?_));(refine iT (fun he=> ?_) (fun he=> ?_)<;>(intro ts2 hts;simp only [wP] at hts;subst hts;(try simp only [mM] at he))))|((with_reducible refine tO rfl ?_);intro sr hsr;simp only [sK,wP] at hsr;subst hsr;(fail_if_success (with_reducible (first|refine tL ?_|refine tN ?_)));refine tK (fun he=> ?_) (fun he=> ?_)<;>(intro ts2 hts;simp only [wP] at hts;subst hts;(try simp only [mM] at he)))|fail))
       all_goals first|exact ⟨o,_,rfl,ho,fun h=>by omega⟩|(refine ⟨(),trivial,?_,?_,rfl⟩<;>simp only [zY,xJ,List.tail_cons])|trace_state
    ·rintro i _ hi hw _
     refine gm ?_
     have hx:=zG (f:=fun s:BA=>[yQ s]) [] hi
     have ht8:=kK hs8
     (repeat' (first|refine gz ?_|(refine gn ?_;intro zs zh;(try simp only [go_sem,hi,hx,zB,hw,ht8,hs8,List.length_map,xO] at zh);subst zh;(first|refine gv ?_|((first|refine zC ((wC (l.elems.take i) _ (by rw [List.length_take];omega)).call zK (by simp) _) ?_|refine zP (by decide) (by decide) ((wC (l.elems.take i) _ (by rw [List.length_take];omega)).call zK (by simp) _) ?_);intro p2 h2 hr2;obtain ⟨hr2,rfl⟩:=hr2;first|obtain ⟨_,rfl,hr2⟩:=hr2|obtain ⟨_,rfl⟩:=hr2|subst hr2|skip)|(refine yS (fun he=> ?_) (fun he=> ?_)<;>(try simp only [mM] at he))))|refine yD ULat3f125.pl ?_|((with_reducible refine vY ?_);refine zN rfl rfl rfl ?_;intro sr hsr;simp only [sK,wP] at hsr;subst hsr;(fail_if_success (refine nx ?_));(refine iT (fun he=> ?_) (fun he=> ?_)<;>(intro ts2 hts;simp only [wP] at hts;subst hts;(try simp only [mM] at he))))|((with_reducible refine tO rfl ?_);intro sr hsr;simp only [sK,wP] at hsr;subst hsr;(fail_if_success (with_reducible (first|refine tL ?_|refine tN ?_)));refine tK (fun he=> ?_) (fun he=> ?_)<;>(intro ts2 hts;simp only [wP] at hts;subst hts;(try simp only [mM] at he)))|fail))
     all_goals first|exact ⟨s,_,rfl,hs8,fun h=>by omega⟩|(refine ⟨(),trivial,?_,?_,rfl⟩<;>simp only [zY,xJ,List.tail_cons])|trace_state
   ·rintro i ⟨s,J⟩ hi hw ⟨hs8,hsL⟩
    refine gm ?_
    dsimp only at hs8 hsL
    have ht8:=kK hs8
    by_cases hc:0≤l.covers[i].1∧0≤l.covers[i].2∧l.covers[i].1<l.elems.length∧l.covers[i].2<l.elems.length
    ·obtain ⟨c1,c2,c3,c4⟩:=hc
     obtain ⟨a,ha⟩:=Int.eq_ofNat_of_zero_le c1
     obtain ⟨b,hb⟩:=Int.eq_ofNat_of_zero_le c2
     have hx:(l.covers.map fun c=>[i64 c.1,i64 c.2]).getD i []=[i64 a,i64 b]:=by rw [zG [] hi,ha,hb]
     rw [ha] at c3;rw [hb] at c4
     have ha8:a<s.length:=by omega
     have hd:=yU u8 s a .un ha8
     have hsp:=zbD ha8
     (repeat' (first|refine gz ?_|(refine gn ?_;intro zs zh;(try simp only [go_sem,hi,hx,zB,hw,ht8,hs8,List.length_map,hd,hsp,zA,zD] at zh);subst zh;(first|refine gv ?_|(refine yS (fun he=> ?_) (fun he=> ?_)<;>(try simp only [mM] at he))))|refine yD ULat3f125.pl ?_|((with_reducible refine vY ?_);refine zN rfl rfl rfl ?_;intro sr hsr;simp only [sK,wP] at hsr;subst hsr;(fail_if_success (refine nx ?_));(refine iT (fun he=> ?_) (fun he=> ?_)<;>(intro ts2 hts;simp only [wP] at hts;subst hts;(try simp only [mM] at he))))|((with_reducible refine tO rfl ?_);intro sr hsr;simp only [sK,wP] at hsr;subst hsr;(fail_if_success (with_reducible (first|refine tL ?_|refine tN ?_)));refine tK (fun he=> ?_) (fun he=> ?_)<;>(intro ts2 hts;simp only [wP] at hts;subst hts;(try simp only [mM] at he)))|fail))
     all_goals first|exact ⟨s,1,rfl,hs8,fun h=>by omega⟩|exact ⟨(_,_),⟨by simpa using hs8,hsL.set _ (zhH (by omega) (hsL.get a ha8) (zbP (by omega) (by omega)))⟩,rfl,rfl,rfl⟩|(exfalso;omega)|(exfalso;split at* <;>omega)
    ·have hx:(l.covers.map fun c=>[i64 c.1,i64 c.2]).getD i []=[i64 l.covers[i].1,i64 l.covers[i].2]:=by rw [zG [] hi]
     generalize l.covers[i].1=a at*
     generalize l.covers[i].2=b at*
     (repeat' (first|refine gz ?_|(refine gn ?_;intro zs zh;(try simp only [go_sem,hi,hx,zB,hw,ht8,hs8,List.length_map,zA,zD] at zh);subst zh;(first|refine gv ?_|(refine yS (fun he=> ?_) (fun he=> ?_)<;>(try simp only [mM] at he))))|refine yD ULat3f125.pl ?_|((with_reducible refine vY ?_);refine zN rfl rfl rfl ?_;intro sr hsr;simp only [sK,wP] at hsr;subst hsr;(fail_if_success (refine nx ?_));(refine iT (fun he=> ?_) (fun he=> ?_)<;>(intro ts2 hts;simp only [wP] at hts;subst hts;(try simp only [mM] at he))))|((with_reducible refine tO rfl ?_);intro sr hsr;simp only [sK,wP] at hsr;subst hsr;(fail_if_success (with_reducible (first|refine tL ?_|refine tN ?_)));refine tK (fun he=> ?_) (fun he=> ?_)<;>(intro ts2 hts;simp only [wP] at hts;subst hts;(try simp only [mM] at he)))|fail))
     all_goals first|exact ⟨s,1,rfl,hs8,fun h=>by omega⟩|exact ⟨(_,_),by simpa using hs8,rfl,rfl,rfl⟩|(exfalso;omega)|(exfalso;split at* <;>omega)
  ·rintro i s hi hw ⟨hs8,hsL⟩
   refine gm ?_
   have hx:=zG (f:=fun s:BA=>[yQ s]) [] hi
   have ht8:=kK hs8
   have hi8:i<s.length:=by omega
   have hsp:=zbD hi8
   (repeat' (first|refine gz ?_|(refine gn ?_;intro zs zh;(try simp only [go_sem,hi,hx,zB,hw,ht8,hs8,List.length_map,hsp] at zh);subst zh;(first|refine gv ?_|((first|refine zC ((qV _ (hls _ (List.getElem_mem hi))).call zK (by simp) _) ?_|refine zP (by decide) (by decide) ((qV _ (hls _ (List.getElem_mem hi))).call zK (by simp) _) ?_);intro p2 h2 hr2;obtain ⟨hr2,rfl⟩:=hr2;first|obtain ⟨_,rfl,hr2⟩:=hr2|obtain ⟨_,rfl⟩:=hr2|subst hr2|skip)|(refine yS (fun he=> ?_) (fun he=> ?_)<;>(try simp only [mM] at he))))|refine yD ULat3f125.pl ?_|((with_reducible refine vY ?_);refine zN rfl rfl rfl ?_;intro sr hsr;simp only [sK,wP] at hsr;subst hsr;(fail_if_success (refine nx ?_));(refine iT (fun he=> ?_) (fun he=> ?_)<;>(intro ts2 hts;simp only [wP] at hts;subst hts;(try simp only [mM] at he))))|((with_reducible refine tO rfl ?_);intro sr hsr;simp only [sK,wP] at hsr;subst hsr;(fail_if_success (with_reducible (first|refine tL ?_|refine tN ?_)));refine tK (fun he=> ?_) (fun he=> ?_)<;>(intro ts2 hts;simp only [wP] at hts;subst hts;(try simp only [mM] at he)))|fail))
   ·exact ⟨s,1,rfl,hs8,fun h=>by omega⟩
   ·exact ⟨_,⟨by simpa using hs8,hsL.set _ (zbP (by omega) (by omega))⟩,rfl,rfl,rfl⟩
 ·rintro p h ⟨os,e,rfl,h1⟩
  exact ⟨os,e,vE _ _ _ _ (by simp [zU]),h1⟩
end Go.AL
