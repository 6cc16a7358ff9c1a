/-
  What the laws ask of a program's size.
-/
import Derived.Test.YtcffidhiaihbkaaGreatDoorX21
set_option linter.unusedSimpArgs false
set_option linter.unusedVariables false
set_option maxRecDepth 100000
set_option maxHeartbeats 4000000
namespace Go.AL
open Go.Proofs Go.Proofs.Tryz
theorem zjP (p:Pg) (hp:p.ok):EB 32 [.agg p.c] fun b=>b=true→(∀ x∈p.lats,x.elems.length≤10∧x.covers.length≤80)∧p.preds.length≤26:=by
 refine ECall.cut (R:=fun v _=> ∃ b:Bool,v=bo b∧(b=true→(∀ x∈p.lats,x.elems.length≤10∧x.covers.length≤80)∧p.preds.length≤26)) (pv func32 170 false (by kernel_rfl) rfl rfl ?_) (by rintro p h ⟨b,rfl,h⟩;exact ⟨b,rfl,h⟩)
 refine g2 ?_
 obtain ⟨lats,funs,preds,rules⟩:=p
 obtain ⟨h1,h2,h3,h4,h5,h6,h7,h8⟩:=hp
 dsimp only at*
 (repeat' (first|refine gp ?_|refine gs (fun he=> ?_) (fun he=> ?_)|fail))
 all_goals try exact ⟨_,rfl,by simp⟩
 refine zO lats.length (.k:: .k:: .k:: .v:: .v::K9 (K9 (K4 (K4 (D9 (D9 (D9 (.d::K9 (K9 (K9 (K9 (K9 (K9 (K9 (K9 (K9 (K9 (K9 (K9 (.k:: .k:: .k::[])))))))))))))))))))) (own:=false) (fun i (b:Bool)=>[bo b,i64 i]) (fun _=>_) (fun i b=>b=true→ ∀ (j:Nat) (h:j<lats.length),j<i→lats[j].elems.length≤10∧lats[j].covers.length≤80) true rfl rfl (fun _ j _ hj=>absurd hj (Nat.not_lt_zero _)) (by omega) ?_ ?_
 ·rintro b hI
  refine gm ?_
  refine gf @zM ?_
  refine zO funs.length (.k:: .k:: .k:: .v:: .k:: .v::K9 (K9 (K9 (K9 (K9 (K4 (K4 (D9 (D9 (D9 (D9 (.d:: .d::K9 (K9 (K9 (K9 (K9 (K9 (K9 (K9 (.k::[])))))))))))))))))))) (own:=false) (fun i (b:Bool)=>[bo b,i64 i]) (fun _=>_) (fun i b2=>b2=true→b=true) b rfl rfl id (by omega) ?_ ?_
  ·rintro b2 hI2
   refine gm ?_
   refine gf @zM ?_
   refine zO preds.length (.k:: .k:: .k:: .v:: .k:: .k:: .v::K9 (K9 (K9 (K9 (K9 (K9 (K9 (K9 (K9 (K9 (D9 (D9 (K9 (K9 (K9 (K9 (K9 (K9 (.k::[]))))))))))))))))))) (own:=false) (fun i (b:Bool)=>[bo b,i64 i]) (fun _=>_) (fun i b2=>b2=true→b=true) b2 rfl rfl hI2 (by omega) ?_ ?_
   ·rintro b3 hI3
    refine gm ?_
    refine gf @zM ?_
    refine zO rules.length (.k:: .k:: .k:: .v:: .k:: .k:: .k:: .v:: .d::K9 (K9 (K9 (K9 (K9 (K9 (K9 (K9 (K9 (K9 (K9 (K4 (.k:: .k:: .k::D9 (D9 (D9 (D9 (D9 (D9 (.k::[]))))))))))))))))))) (own:=false) (fun i (b:Bool)=>[bo b,i64 i]) (fun _=>_) (fun i b2=>b2=true→b=true) b3 rfl rfl hI3 (by omega) ?_ ?_
    ·rintro b4 hI4
     refine gm ?_
     refine gf @zM ?_
     exact ⟨b4,rfl,fun h=>⟨fun x hx=>by obtain ⟨j,hj,rfl⟩:=List.getElem_of_mem hx;exact hI (hI4 h) j hj hj,by omega⟩⟩
    ·rintro i b4 hi hw hI4
     refine gm ?_
     have hx:=zG (f:=Ru.c) [] hi
     have hbl:=(h8 _ (List.getElem_mem hi)).bl
     generalize rules[i]=x at*
     cases b4
     ·(have F:=(a4 @hi @hw @hx @zB);(repeat' (first|refine dR F ?_|refine dQ F (fun he=> ?_) (fun he=> ?_)|fail));all_goals clear F)
      refine zO x.body.length (.k:: .k:: .k:: .v::K4 (.v::K9 (K9 (K9 (K9 (K9 (K9 (K9 (K9 (K9 (K9 (K9 (K9 (K9 (K9 (K4 (K4 (D9 (D9 (D4 (D4 (.k::[])))))))))))))))))))))) (own:=false) (fun i (b:Bool)=>[bo b,i64 i]) (fun _=>_) (fun i b2=>b2=true→b=true) false rfl rfl (by simp) (by omega) ?_ ?_
      ·rintro b6 hI6
       refine gm ?_
       refine gf (a5 @hi @hw @hx @zB @zM) ?_
       exact ⟨b6,hI6,rfl,rfl,rfl⟩
      ·rintro k b6 hk hw2 hI6
       refine gm ?_
       have hy:=zG (f:=Li.c) [] hk
       generalize x.body[k]=y at*
       cases b6
       ·(have F:=(a7 @hi @hw @hx @zB @hk @hw2 @hy);(repeat' (first|refine dR F ?_|refine dQ F (fun he=> ?_) (fun he=> ?_)|fail));all_goals clear F)
        exact ⟨_,by simp,rfl,rfl,rfl⟩
       ·(have F:=(a7 @hi @hw @hx @zB @hk @hw2 @hy);(repeat' (first|refine dR F ?_|refine dQ F (fun he=> ?_) (fun he=> ?_)|fail));all_goals clear F)
        exact ⟨_,fun _=>hI6 rfl,rfl,rfl,rfl⟩
     ·(have F:=(a4 @hi @hw @hx @zB);(repeat' (first|refine dR F ?_|refine dQ F (fun he=> ?_) (fun he=> ?_)|fail));all_goals clear F)
      all_goals
       refine zO x.body.length (.k:: .k:: .k:: .v::K4 (.v::K9 (K9 (K9 (K9 (K9 (K9 (K9 (K9 (K9 (K9 (K9 (K9 (K9 (K9 (K4 (K4 (D9 (D9 (D4 (D4 (.k::[])))))))))))))))))))))) (own:=false) (fun i (b:Bool)=>[bo b,i64 i]) (fun _=>_) (fun i b2=>b2=true→b=true) _ rfl rfl (fun _=>hI4 rfl) (by omega) ?_ ?_
       ·rintro b6 hI6
        refine gm ?_
        refine gf (a5 @hi @hw @hx @zB @zM) ?_
        exact ⟨b6,hI6,rfl,rfl,rfl⟩
       ·rintro k b6 hk hw2 hI6
        refine gm ?_
        have hy:=zG (f:=Li.c) [] hk
        generalize x.body[k]=y at*
        cases b6
        ·(have F:=(a7 @hi @hw @hx @zB @hk @hw2 @hy);(repeat' (first|refine dR F ?_|refine dQ F (fun he=> ?_) (fun he=> ?_)|fail));all_goals clear F)
         exact ⟨_,by simp,rfl,rfl,rfl⟩
        ·(have F:=(a7 @hi @hw @hx @zB @hk @hw2 @hy);(repeat' (first|refine dR F ?_|refine dQ F (fun he=> ?_) (fun he=> ?_)|fail));all_goals clear F)
         exact ⟨_,fun _=>hI6 rfl,rfl,rfl,rfl⟩
   ·rintro i b3 hi hw hI3
    refine gm ?_
    have hx:=zG (f:=Pd.c) [] hi
    generalize preds[i]=x at*
    cases b3
    ·(have F:=(a4 @hi @hw @hx @zB);(repeat' (first|refine dR F ?_|refine dQ F (fun he=> ?_) (fun he=> ?_)|fail));all_goals clear F)
     exact ⟨_,by simp,rfl,rfl,rfl⟩
    ·(have F:=(a4 @hi @hw @hx @zB);(repeat' (first|refine dR F ?_|refine dQ F (fun he=> ?_) (fun he=> ?_)|fail));all_goals clear F)
     exact ⟨_,fun _=>hI3 rfl,rfl,rfl,rfl⟩
  ·rintro i b3 hi hw hI3
   refine gm ?_
   have hx:=zG (f:=Fu.c) [] hi
   generalize funs[i]=x at*
   cases b3
   ·(have F:=(a4 @hi @hw @hx @zB);(repeat' (first|refine dR F ?_|refine dQ F (fun he=> ?_) (fun he=> ?_)|fail));all_goals clear F)
    exact ⟨_,by simp,rfl,rfl,rfl⟩
   ·(have F:=(a4 @hi @hw @hx @zB);(repeat' (first|refine dR F ?_|refine dQ F (fun he=> ?_) (fun he=> ?_)|fail));all_goals clear F)
    all_goals exact ⟨_,fun _=>hI3 rfl,rfl,rfl,rfl⟩
 ·rintro i b hi hw hI
  refine gm ?_
  have hx:=zG (f:=La.c) [] hi
  obtain ⟨x,hxe⟩: ∃ x,lats[i]=x:=⟨_,rfl⟩
  rw [hxe] at hx
  cases b
  ·(have F:=(a4 @hi @hw @hx @zB);(repeat' (first|refine dR F ?_|refine dQ F (fun he=> ?_) (fun he=> ?_)|fail));all_goals clear F)
   exact ⟨_,by simp,rfl,rfl,rfl⟩
  ·have hI:=hI rfl
   (have F:=(a4 @hi @hw @hx @zB);(repeat' (first|refine dR F ?_|refine dQ F (fun he=> ?_) (fun he=> ?_)|fail));all_goals clear F)
   all_goals first|exact ⟨false,by simp,rfl,rfl,rfl⟩|skip
   ·refine ⟨_,fun hb j h hj=> ?_,rfl,rfl,rfl⟩
    rcases Nat.lt_or_ge j i with hji|hji
    ·exact hI j h hji
    ·have:j=i:=by omega
     subst this
     rw [hxe]
     simp at*
     omega
end Go.AL
