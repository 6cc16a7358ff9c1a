/-
  Programs: the scope's memory; reports.
-/
import Derived.Test.YtfjkncfjclifoaaGreatDoorZ26
set_option linter.unusedSimpArgs false
set_option linter.unusedVariables false
set_option maxRecDepth 100000
set_option maxHeartbeats 4000000
namespace Go.AL
open Go.Proofs Go.Proofs.Tryz
@[go_sem] def UMonof168.pl:Nat→DPlan
 |11=>⟨[yA,yA,yA,yB,yA,yB,yA,yA,yA,yB,yA,yA,yA],yN,0⟩
 |_=>⟨[],[],0⟩
def ntz:List UInt8:=[8,0,1,0,2,0,1,0,3,0,1,0,2,0,1,0,4,0,1,0,2,0,1,0,3,0,1,0,2,0,1,0,5,0,1,0,2,0,1,0,3,0,1,0,2,0,1,0,4,0,1,0,2,0,1,0,3,0,1,0,2,0,1,0,6,0,1,0,2,0,1,0,3,0,1,0,2,0,1,0,4,0,1,0,2,0,1,0,3,0,1,0,2,0,1,0,5,0,1,0,2,0,1,0,3,0,1,0,2,0,1,0,4,0,1,0,2,0,1,0,3,0,1,0,2,0,1,0,7,0,1,0,2,0,1,0,3,0,1,0,2,0,1,0,4,0,1,0,2,0,1,0,3,0,1,0,2,0,1,0,5,0,1,0,2,0,1,0,3,0,1,0,2,0,1,0,4,0,1,0,2,0,1,0,3,0,1,0,2,0,1,0,6,0,1,0,2,0,1,0,3,0,1,0,2,0,1,0,4,0,1,0,2,0,1,0,3,0,1,0,2,0,1,0,5,0,1,0,2,0,1,0,3,0,1,0,2,0,1,0,4,0,1,0,2,0,1,0,3,0,1,0,2,0,1,0]
theorem zlV (m:Nat) (h:m<256) (h0:m≠0):2 ^ (ntz.toArray.getD m 0).toNat≤m:=by
 have e:((List.range 256).all fun m=>m==0||decide (2 ^ (ntz.toArray.getD m 0).toNat≤m))=true:=by kernel_rfl
 rw [List.all_eq_true] at e
 have:=e m (List.mem_range.2 h)
 simpa [h0] using this
theorem zlL (m:Nat) (h:m<256):EPure prog G0 207 [u8 m] fun p=> ∃ k:Nat,p=i64 k∧(m≠0→2 ^ k≤m):=by
 refine ECall.pure (pv func207 6 false (by kernel_rfl) rfl rfl ?_)
 refine g2 ?_
 have h1:((m:Int)<256)=True:=by simp;omega
 have h2:(0≤(m:Int))=True:=by simp
 refine gf (a2 @h1 @h2) ?_
 refine wU ?_
 intro sr hsr
 have hs2:=hsr.symm.trans (show _=SR.val (.sc (.int .u8 (((ntz.toArray.getD m 0).toNat:Nat):Int))) [] (0≤(m:Int)∧(m:Int)<256) by kernel_rfl)
 clear hsr
 subst hs2
 refine zH (by omega) ?_
 intro ts2 hts
 simp only [zZ,List.set_cons_zero,List.set_cons_succ] at hts
 subst hts
 have hk:=zlV m h
 have hk8:(ntz.toArray.getD m 0).toNat<256:=UInt8.toNat_lt _
 generalize (ntz.toArray.getD m 0).toNat=k at*
 have h5:(prog.underlying 5).isSome=true:=by kernel_rfl
 have h6:IntKind.i64.wrap (k:Int)=k:=by rw [IntKind.wrap_i64];omega
 refine gf (a2 @h5 @h6) ?_
 exact ⟨⟨⟨k,rfl,hk⟩,.sc⟩,rfl⟩
open UMonof168 in
theorem zi9 (l:La) (hl:l.ok) (f:List Int) (ht:f.length≤1048576):EB 168 [.agg l.c,vF f]:=by
 refine ECall.cut (R:=fun p _=> ∃ b:Bool,p=bo b) (pv func168 61 false (by kernel_rfl) rfl rfl ?_) (by rintro p h ⟨b,rfl⟩;exact ⟨b,rfl,trivial⟩)
 refine g2 ?_
 refine ge ?_
 (refine g1 ?_;refine zC ((cX l hl).call zK (by simp [zJ]) _) ?_;intro p2 h2 hr2;refine g2 ?_)
 obtain ⟨⟨os,b,rfl,hos,hb⟩,rfl⟩:=hr2
 have ht8:=kK hos
 have hdr:(os.map u8).drop 8=[]:=List.drop_eq_nil_of_le (by simp [hos])
 cases b with
 |false=>
  (repeat (first|refine gz ?_|(refine gn ?_;intro zs zh;(try simp only [go_sem,List.length_map,hos,hdr,ht8] at zh);subst zh;refine gv ?_)|refine yD UMonof168.pl ?_))
  exact ⟨_,rfl⟩
 | true=>
  obtain ⟨hn1,hn8,hL⟩:=hb rfl
  by_cases hlen:f.length=l.elems.length
  ·have hne:((f.length:Int)!=(l.elems.length:Int))=false:=by simp [hlen]
   (repeat (first|refine gz ?_|(refine gn ?_;intro zs zh;(try simp only [go_sem,List.length_map,hos,hdr,ht8,hne] at zh);subst zh;refine gv ?_)|refine yD UMonof168.pl ?_))
   (refine g1 ?_;refine zC ((fB l hl f (by omega)).call zK (by simp [zJ]) _) ?_;intro p2 h2 hr2;refine g2 ?_)
   obtain ⟨⟨b2,rfl,hin⟩,rfl⟩:=hr2
   cases b2 with
   |false=>
    refine ge ?_
    exact ⟨_,rfl⟩
   | true=>
    have hin:=hin rfl
    have hat: ∀ k (hk:k<f.length), ∃ x:Nat,f[k]=x∧x<l.elems.length:=fun k hk=>by
     obtain ⟨h1,h2⟩:=hin _ (List.getElem_mem hk)
     exact ⟨f[k].toNat,by omega,by omega⟩
    refine ge ?_
    refine zO f.length (K4 (.d:: .k:: .k:: .d:: .d:: .d::K9 (K9 (K4 (.k:: .v::D9 (D9 (D9 ([])))))))) (own:=false) (fun i (_:Unit)=>[i64 i]) (fun _=>_) (fun _ _=>True) () rfl rfl trivial (by omega) ?_ ?_
    ·rintro _ _
     refine gm ?_
     refine gf @zM ?_
     exact ⟨_,rfl⟩
    ·rintro i _ hi hw _
     refine gm ?_
     have hi8:i<os.length:=by omega
     obtain ⟨m,hm⟩:=Int.eq_ofNat_of_zero_le (hL.get i hi8).1
     have hm2:m<2 ^ l.elems.length:=by have:=(hL.get i hi8).2;rw [hm] at this;exact_mod_cast this
     have hd:((os.map u8).drop i).getD 0 .un=u8 m:=by rw [yU u8 os i .un hi8,hm]
     refine gf (a7 @hi @hw @zB @hd @hi8 @ht8 @hos) ?_
     refine zW (K4 (.d:: .k:: .k:: .k:: .v:: .d::K9 (K9 (K9 (.k:: .k::D9 (D9 (.d:: .d:: .d:: .k::[]))))))) (fun (m:Nat)=>[u8 m]) (fun _=>_) (fun m=>m<2 ^ l.elems.length) (fun m=>m) (own:=false) m rfl rfl hm2 ?_
     rintro m hm2
     refine gm ?_
     have h8:2 ^ l.elems.length≤2 ^ 8:=Nat.pow_le_pow_right (by decide) hn8
     by_cases hm0:m=0
     ·subst hm0
      have h00:((((0:Nat):Int))!=0)=false:=rfl
      refine gf (a2 @hw @h00) ?_
      (refine ⟨(),trivial,?_,?_,rfl⟩<;>simp only [zY,xJ,List.tail_cons])
     ·have hm0':((m:Int)!=0)=true:=by simp [hm0]
      refine gf (a2 @hm0' @hw) ?_
      (refine g1 ?_;refine zC ((zlL m (by omega)).call zK (by simp) _) ?_;intro p2 h2 hr2;refine g2 ?_)
      obtain ⟨⟨k,rfl,hk⟩,rfl⟩:=hr2
      have hkn:k<l.elems.length:=(Nat.pow_lt_pow_iff_right (by decide)).1 (Nat.lt_of_le_of_lt (hk hm0) hm2)
      have hkf:k<f.length:=by omega
      obtain ⟨x,hx,hxn⟩:=hat i hi
      obtain ⟨y,hy,hyn⟩:=hat k hkf
      have hgx:(f.map fun n:Int=>[i64 n]).getD i []=[i64 x]:=by rw [zG [] hi,hx]
      have hgy:(f.map fun n:Int=>[i64 n]).getD k []=[i64 y]:=by rw [zG [] hkf,hy]
      have hx8:x<os.length:=by omega
      have hdx:=yU u8 os x .un hx8
      have hand:bits BinOp.and IntKind.u8 (m:Int) (IntKind.u8.wrap ((m:Int)-1))=((m &&& (m-1):Nat):Int):=by
       rw [show IntKind.u8.wrap ((m:Int)-1)=((m-1:Nat):Int) by rw [IntKind.wrap_u8];omega]
       exact (bits_nat .u8 8 (by decide) wraps_u8 m (m-1) (by omega) (by omega)).1
      have hless:m &&& (m-1)<m:=Nat.lt_of_le_of_lt Nat.and_le_right (by omega)
      (have F:=(a9 @hi @hkf @hw @zB @hgx @hgy @hdx @hx8 (a3 @ht8 @hos @hand));(repeat' (first|refine dR F ?_|refine dQ F (fun he=> ?_) (fun he=> ?_)|fail));all_goals clear F)
      ·exact ⟨_,rfl⟩
      ·exact ⟨m &&& (m-1),by omega,hless,rfl,rfl,rfl⟩
  ·have hne:((f.length:Int)!=(l.elems.length:Int))=true:=by simp;omega
   (repeat (first|refine gz ?_|(refine gn ?_;intro zs zh;(try simp only [go_sem,List.length_map,hos,hdr,ht8,hne] at zh);subst zh;refine gv ?_)|refine yD UMonof168.pl ?_))
   exact ⟨_,rfl⟩
end Go.AL
namespace Go.AL
open Go.Proofs Go.Proofs.Tryz
@[go_sem] def UTyp5f121.pl:Nat→DPlan
 |4=>⟨[yA,yB,yA,yB,yA,yA,yB,yC,yA,yA,yA,yB,yA,yB,yA,yA,yB,yC,yA,yA],iot20,0⟩
 |20=>⟨[yA,yA,yB,yA,yB,yA,yA,yB,yC,yA,yC,yA],xF,0⟩
 |_=>⟨[],[],0⟩
@[go_sem] def UTyp5f169.pl:Nat→DPlan
 |6=>⟨[yA,yB,yA,yA,yA,yA,yB,yA,yB,yA,yA,yB,yA,yA],wS,0⟩
 |_=>⟨[],[],0⟩
theorem dK {n:Nat} {h:Heap} (f:Nat) (cs:List PV):fz n h (f+1) (.tup cs)= .tup (cs.map (fz n h f)):=by simp only [fz]
theorem kX {n:Nat} {h:Heap} (f:Nat):fz n h (f+1) .nil= .nil:=by simp only [fz]
theorem zaW {n:Nat} {h:Heap} (f:Nat) (v:Value):fz n h (f+1) (.sc v)= .sc v:=by simp only [fz]
theorem zjJ {h:Heap} {q:Nat} {t:List Int} {e:Int}:fz 0 h 40 (.tup [.vec q 1 (t.map fun n=>[i64 n]),i64 e])= .tup [vF t,i64 e]:=by
 have h1:fz 0 h 39 (.vec q 1 (t.map fun n=>[i64 n]))=vF t:=by
  rw [pD (f:=38)];exact vE 0 h 39 _ (all_map fun _=>rfl)
 rw [dK 39,List.map_cons,List.map_cons,List.map_nil,h1,zaW 38]
theorem zjK {h:Heap} {e:Int}:fz 0 h 40 (.tup [.nil,i64 e])= .tup [.nil,i64 e]:=by
 rw [dK 39,List.map_cons,List.map_cons,List.map_nil,kX 38,zaW 38]
open UTyp5f169 in
theorem zcB (q:Pd) (l:List Tm) (hl:l.length≤140737488355328) (hq:q.types.length≤140737488355328):EI 169 [.agg q.c,mI l] fun e=>e=0→l.length=q.types.length:=by
 refine ECall.cut (R:=fun p _=> ∃ e:Int,p=i64 e∧(e=0→l.length=q.types.length)) (pv func169 35 false (by kernel_rfl) rfl rfl ?_) (by rintro p h ⟨e,rfl,he⟩;exact ⟨e,rfl,he⟩)
 refine g2 ?_
 obtain ⟨name,types,lat,of',base,key,at'⟩:=q
 dsimp only at hq ⊢
 by_cases h1:l.length=types.length
 ·have e1:((l.length:Int)!=(types.length:Int))=false:=by simp [h1]
  refine gf @e1 ?_
  refine zO l.length (K4 (.d:: .d:: .d::K4 (K4 (.v::D9 (D9 (.d::[])))))) (own:=false) (fun i (_:Heap)=>[i64 i]) (fun J=> .var 105 _::J) (fun _ _=>True) [] rfl rfl trivial hl ?_ ?_
  ·rintro J _
   refine gm ?_
   refine gf @zM ?_
   exact ⟨0,rfl,fun _=>h1⟩
  ·rintro i J hi hw _
   refine gm ?_
   have hx:=zG (f:=Tm.c) [] hi
   have hit:i<types.length:=by omega
   have htj:=zG (f:=fun n:Int=>[i64 n]) [] hit
   generalize l[i]=x at*
   obtain ⟨v,⟨a,b,sx⟩⟩:=x
   by_cases hv:v=eS
   ·subst hv
    generalize types[i]=ty at*
    by_cases hty:a=ty
    ·have e3:(a !=ty)=false:=by simp [hty]
     refine gf (a9 @hi @hx @hit @htj @zB @hw @zA @zD @e3) ?_
     exact ⟨_,trivial,rfl,rfl,rfl⟩
    ·have e3:(a !=ty)=true:=by simp [hty]
     refine gf (a9 @hi @hx @hit @htj @zB @hw @zA @zD @e3) ?_
     exact ⟨72,rfl,fun h=>by omega⟩
   ·refine gf (a9 @hi @hx @hit @htj @zB @hw @zA @zD @hv) ?_
    exact ⟨_,trivial,rfl,rfl,rfl⟩
 ·have e1:((l.length:Int)!=(types.length:Int))=true:=by simp;omega
  refine gf @e1 ?_
  exact ⟨71,rfl,by omega⟩
open UTyp5f121 in
theorem ze6 (l:La) (hl:l.ok) (hle:l.elems.length≤1048576) (f:Fu) (hf:f.ok) (hft:f.fr.length=f.to.length):EPure prog G0 121 [.agg l.c,.agg f.c] fun p=> ∃ (t:List Int) (e:Int),p= .tup [vF t,i64 e]∧t.length≤1048576:=by
 refine ECall.cutW (R:=fun p _=> ∃ (t:List Int) (e:Int) (q:Nat),t.length≤1048576∧(p= .tup [.nil,i64 e]∧t=[]∨p= .tup [.vec q 1 (t.map fun n=>[i64 n]),i64 e])) (pv func121 85 false (by kernel_rfl) rfl rfl ?_) ?_
 refine g2 ?_
 ·obtain ⟨lname,elems,covers,lat'⟩:=l
  obtain ⟨name,lat,of',fr,to,table,at'⟩:=f
  obtain ⟨hl1,hl2,hl3,hl4⟩:=hl
  obtain ⟨h1,h2,h3,h4,h5,h6,h7⟩:=hf
  dsimp only at*
  refine ge ?_
  refine zO fr.length (K4 (.d:: .d:: .d::K9 (.v::D9 (D9 (D4 (.d::K9 (K9 (K9 (K9 (K9 ([]))))))))))) (own:=false) (fun i (_:Unit)=>[i64 i]) (fun _=>_) (fun _ _=>True) () rfl rfl trivial h3 ?_ ?_
  ·rintro _ _
   refine gm ?_
   refine gf @zM ?_
   refine zO fr.length (K4 (.d:: .d:: .k:: .d:: .d::K9 (K9 (K9 (K4 (.k:: .k:: .k:: .v::D9 (.d:: .d::K9 (K9 (K9 (.k:: .k:: .k::[])))))))))) (own:=false) (fun i (_:Unit)=>[i64 i]) (fun _=>_) (fun _ _=>True) () rfl rfl trivial h3 ?_ ?_
   ·rintro _ _
    refine gm ?_
    refine gf @zM ?_
    refine zO elems.length (K4 (.d:: .d:: .k:: .k:: .k:: .v:: .k:: .d:: .d::K9 (K9 (K9 (K9 (K9 (.v::D9 (D9 (.d:: .d:: .d::K4 (.k::[])))))))))) (own:=false) (fun i (s:PV×List Int×Heap)=>[s.1,i64 i]) (fun s=> .var 111 _:: .var 119 _::s.2.2) (fun i s=>s.2.1.length≤i∧GrowN 2 3 (s.2.1.map fun n=>[i64 n]) 1 s.2.2 s.1) (.nil,[],[]) rfl rfl ⟨Nat.le_refl _,.inl ⟨rfl,rfl⟩⟩ (by omega) ?_ ?_
    ·rintro ⟨V,tb,J⟩ ⟨htl,hG⟩ t ht
     dsimp only at htl hG
     simp only [zY] at ht;subst ht
     refine gf @zM ?_
     have hple:PLe V (vF tb):=by
      rcases hG with ⟨he,rfl⟩|⟨q,rfl,_⟩
      ·have:tb=[]:=by simpa using he
       subst this;exact PLe.nil_ts 1
      ·exact PLe.vec_ts _ _ _
     have hmo:=zi9 ⟨lname,elems,covers,lat'⟩ ⟨hl1,hl2,hl3,hl4⟩ tb (by omega)
     (refine g1 ?_;refine zC ((hmo.call zK (by simp [zJ]) _).args (.cons (PLe.refl _) (.cons hple .nil))) ?_;intro p2 h2 hr2;refine g2 ?_)
     obtain ⟨⟨b,rfl,_⟩,rfl⟩:=hr2
     cases b
     ·refine ge ?_
      exact ⟨[],31,0,by simp,.inl ⟨rfl,rfl⟩⟩
     ·refine ge ?_
      rcases hG with ⟨he,rfl⟩|⟨q,rfl,_⟩
      ·exact ⟨[],0,0,by simp,.inl ⟨rfl,rfl⟩⟩
      ·exact ⟨tb,0,q+2,by omega,.inr rfl⟩
    ·rintro i ⟨V,tb,J⟩ hi hw ⟨htl,hG⟩ t ht
     dsimp only at htl hG
     simp only [zY] at ht;subst ht
     have hx:=zG (f:=fun s:BA=>[yQ s]) [] hi
     refine gf (a4 @hi @hx @zB @hw) ?_
     (refine g1 ?_;refine zC ((qH fr _ h3).call zK (by simp) _) ?_;intro p2 h2 hr2;refine g2 ?_)
     obtain ⟨⟨n,rfl,hn1,hn2⟩,rfl⟩:=hr2
     by_cases hn:n<0
     ·refine gf @hn ?_
      exact ⟨[],71,0,by simp,.inl ⟨rfl,rfl⟩⟩
     ·obtain ⟨m,rfl⟩:=Int.eq_ofNat_of_zero_le (by omega:0≤n)
      have hm:m<to.length:=by omega
      have hx2:=zG (f:=fun s:BA=>[yQ s]) [] hm
      have hn': ¬((m:Int)<0):=hn
      (repeat (first|refine gz ?_|(refine gn ?_;intro zs zh;(try simp only [go_sem,hn',hm,hx2,zB] at zh);subst zh;(first|refine gv ?_|((first|refine zC ((qH elems _ (by omega)).call zK (by simp) _) ?_|refine zP (by decide) (by decide) ((qH elems _ (by omega)).call zK (by simp) _) ?_);intro p2 h2 hr2;obtain ⟨hr2,rfl⟩:=hr2;first|obtain ⟨_,rfl,hr2⟩:=hr2|obtain ⟨_,rfl⟩:=hr2|subst hr2|skip)))|refine yD UTyp5f121.pl ?_))
      rename_i w
      rcases hG with ⟨he,rfl⟩|⟨q,rfl,hq⟩
      ·have htb:tb=[]:=by simpa using he
       subst htb
       refine gf @hw ?_
       exact ⟨(.vec (J.length+2) 1 [[i64 w]],[w],_),⟨by dsimp only;simp,.inr ⟨J.length,rfl,by simp⟩⟩,rfl,rfl,rfl⟩
      ·have hqJ:q<J.length:=(gsi hq).1
       simp only [List.length_map] at hq
       refine gf (a2 @hw @hq) ?_
       exact ⟨(.vec (q+2) 1 ((tb.map fun n=>[i64 n])++[[i64 w]]),tb++[w],_),⟨by dsimp only;simp;omega,.inr ⟨q,by dsimp only;rw [List.map_append];rfl,by dsimp only;rw [List.getElem?_set_self hqJ];simp⟩⟩,rfl,rfl,rfl⟩
   ·rintro i _ hi hw _
    refine gm ?_
    have hx:=zG (f:=fun s:BA=>[yQ s]) [] hi
    (repeat' (first|refine gz ?_|(refine gn ?_;intro zs zh;(try simp only [go_sem,hi,hx,zB,hw,xO] at zh);subst zh;(first|refine gv ?_|((first|refine zC ((wC (fr.take i) _ (by rw [List.length_take];omega)).call zK (by simp) _) ?_|refine zP (by decide) (by decide) ((wC (fr.take i) _ (by rw [List.length_take];omega)).call zK (by simp) _) ?_);intro p2 h2 hr2;obtain ⟨hr2,rfl⟩:=hr2;first|obtain ⟨_,rfl,hr2⟩:=hr2|obtain ⟨_,rfl⟩:=hr2|subst hr2|skip)|(refine yS (fun he=> ?_) (fun he=> ?_)<;>(try simp only [decide_eq_true_eq,decide_eq_false_iff_not,Bool.not_eq_true',Bool.not_eq_false',Bool.not_eq_true,beq_iff_eq,beq_eq_false_iff_ne,bne_iff_ne,bne_eq_false_iff_eq] at he))))|refine yD UTyp5f121.pl ?_|((with_reducible refine vY ?_);refine zN rfl rfl rfl ?_;intro sr hsr;simp only [sK,List.getD_cons_succ,List.getD_cons_zero,Option.map_some,Option.getD_some,Bool.not_false,Bool.not_true] at hsr;subst hsr;(fail_if_success (refine nx ?_));(refine iT (fun he=> ?_) (fun he=> ?_)<;>(intro ts2 hts;simp only [List.getD_cons_succ,List.getD_cons_zero,Option.getD_some,List.set_cons_zero,List.set_cons_succ] at hts;subst hts;(try simp only [decide_eq_true_eq,decide_eq_false_iff_not,Bool.not_eq_true',Bool.not_eq_false',Bool.not_eq_true,beq_iff_eq,beq_eq_false_iff_ne,bne_iff_ne,bne_eq_false_iff_eq] at he))))|((with_reducible refine tO rfl ?_);intro sr hsr;simp only [sK,List.getD_cons_succ,List.getD_cons_zero,Option.map_some,Option.getD_some,Bool.not_false,Bool.not_true] at hsr;subst hsr;(fail_if_success (with_reducible (first|refine tL ?_|refine tN ?_)));refine tK (fun he=> ?_) (fun he=> ?_)<;>(intro ts2 hts;simp only [List.getD_cons_succ,List.getD_cons_zero,Option.getD_some,List.set_cons_zero,List.set_cons_succ] at hts;subst hts;(try simp only [decide_eq_true_eq,decide_eq_false_iff_not,Bool.not_eq_true',Bool.not_eq_false',Bool.not_eq_true,beq_iff_eq,beq_eq_false_iff_ne,bne_iff_ne,bne_eq_false_iff_eq] at he)))|fail))
    ·exact ⟨[],5,0,by simp,.inl ⟨rfl,rfl⟩⟩
    ·(refine ⟨(),trivial,?_,?_,rfl⟩<;>simp only [zY,xJ,List.tail_cons])
  ·rintro i _ hi hw _
   refine gm ?_
   have hx:=zG (f:=fun s:BA=>[yQ s]) [] hi
   have hi2:i<to.length:=by omega
   have hx2:=zG (f:=fun s:BA=>[yQ s]) [] hi2
   (repeat' (first|refine gz ?_|(refine gn ?_;intro zs zh;(try simp only [go_sem,hi,hx,hi2,hx2,zB,hw] at zh);subst zh;(first|refine gv ?_|((first|refine zC ((wC elems _ (by omega)).call zK (by simp) _) ?_|refine zP (by decide) (by decide) ((wC elems _ (by omega)).call zK (by simp) _) ?_);intro p2 h2 hr2;obtain ⟨hr2,rfl⟩:=hr2;first|obtain ⟨_,rfl,hr2⟩:=hr2|obtain ⟨_,rfl⟩:=hr2|subst hr2|skip)|(refine yS (fun he=> ?_) (fun he=> ?_)<;>(try simp only [decide_eq_true_eq,decide_eq_false_iff_not,Bool.not_eq_true',Bool.not_eq_false',Bool.not_eq_true,beq_iff_eq,beq_eq_false_iff_ne,bne_iff_ne,bne_eq_false_iff_eq] at he))))|refine yD UTyp5f121.pl ?_|((with_reducible refine vY ?_);refine zN rfl rfl rfl ?_;intro sr hsr;simp only [sK,List.getD_cons_succ,List.getD_cons_zero,Option.map_some,Option.getD_some,Bool.not_false,Bool.not_true] at hsr;subst hsr;(fail_if_success (refine nx ?_));(refine iT (fun he=> ?_) (fun he=> ?_)<;>(intro ts2 hts;simp only [List.getD_cons_succ,List.getD_cons_zero,Option.getD_some,List.set_cons_zero,List.set_cons_succ] at hts;subst hts;(try simp only [decide_eq_true_eq,decide_eq_false_iff_not,Bool.not_eq_true',Bool.not_eq_false',Bool.not_eq_true,beq_iff_eq,beq_eq_false_iff_ne,bne_iff_ne,bne_eq_false_iff_eq] at he))))|((with_reducible refine tO rfl ?_);intro sr hsr;simp only [sK,List.getD_cons_succ,List.getD_cons_zero,Option.map_some,Option.getD_some,Bool.not_false,Bool.not_true] at hsr;subst hsr;(fail_if_success (with_reducible (first|refine tL ?_|refine tN ?_)));refine tK (fun he=> ?_) (fun he=> ?_)<;>(intro ts2 hts;simp only [List.getD_cons_succ,List.getD_cons_zero,Option.getD_some,List.set_cons_zero,List.set_cons_succ] at hts;subst hts;(try simp only [decide_eq_true_eq,decide_eq_false_iff_not,Bool.not_eq_true',Bool.not_eq_false',Bool.not_eq_true,beq_iff_eq,beq_eq_false_iff_ne,bne_iff_ne,bne_eq_false_iff_eq] at he)))|fail))
   all_goals first|exact ⟨[],70,0,by simp,.inl ⟨rfl,rfl⟩⟩|(refine ⟨(),trivial,?_,?_,rfl⟩<;>simp only [zY,xJ,List.tail_cons])|trace_state
 ·rintro p h ⟨t,e,q,hlen,⟨rfl,rfl⟩|rfl⟩
  ·exact ⟨.tup [vF [],i64 e],by rw [zjK];exact PLes.tup (.cons (PLe.nil_ts 1) (.cons (PLe.refl _) .nil)),⟨[],e,rfl,by simp⟩,by simp [cI]⟩
  ·exact ⟨.tup [vF t,i64 e],by rw [zjJ];exact PLe.refl _,⟨t,e,rfl,hlen⟩,by simp [cI]⟩
end Go.AL
namespace Go.AL
open Go.Proofs Go.Proofs.Tryz
abbrev NM:Type:=List (Value×PV)
def NMap (es:NM) (n:Nat):Prop:= ∀ x∈es,(∃ s,x.1= .string s)∧ ∃ i:Nat,x.2=i64 i∧i<n
theorem eG:kC prog 169=some (9,.string,3):=by kernel_rfl
theorem zh0:(prog.info? 3).bind (·.zero)=some (.int .i64 0):=by kernel_rfl
theorem NMap.all {es:NM} {n:Nat} (h:NMap es n):es.all (fun x=>pF .string x.1)=true:=by
 rw [List.all_eq_true]
 intro x hx
 obtain ⟨⟨s,e⟩,_⟩:=h x hx
 rw [e];rfl
theorem mQ {k:Value}: ∀ {es:NM} {j i:Nat} {p:PV},vV k es j=some (i,p)→ ∃ x∈es,x.2=p
 | [],_,_,_,h=>by cases h
 | x::es,j,i,p,h=>by
  unfold vV at h
  split at h
  ·cases h;exact ⟨x,List.mem_cons_self ..,rfl⟩
  ·obtain ⟨y,hy,e⟩:=mQ h
   exact ⟨y,List.mem_cons_of_mem _ hy,e⟩
theorem NMap.set {es:NM} {n i:Nat} {s:BA} (h:NMap es n) (hi:i<n):NMap (kO (.string s) (i64 i) es) n:=by
 unfold kO
 split
 ·intro x hx
  rcases List.mem_or_eq_of_mem_set hx with hx|rfl
  ·exact h x hx
  ·exact ⟨⟨s,rfl⟩,i,rfl,hi⟩
 ·intro x hx
  rcases List.mem_append.1 hx with hx|hx
  ·exact h x hx
  ·simp at hx;subst hx;exact ⟨⟨s,rfl⟩,i,rfl,hi⟩
theorem NMap.mono {es:NM} {n m:Nat} (h:NMap es n) (k:n≤m):NMap es m:=fun x hx=>by
 obtain ⟨a,i,e,hi⟩:=h x hx
 exact ⟨a,i,e,by omega⟩
theorem zm1 (s:BA):pF .string (.string s)=true:=rfl
theorem lC {h:Heap} {r:Nat} {es:NM} {s:BA} {j:Nat} {p:PV} (hr:h[r]? =some (.map es)) (ha:es.all (fun x=>pF .string x.1)=true) (hm:vV (.string s) es 0=some (j,p)):xQ (α:=Prop) prog h 169 true (.mp r) (yQ s)=some (.tup [p,bo true],True):=by
 unfold xQ
 rw [eG]
 simp only [oS,hr,zh0,zm1,ha,hm,Bool.and_self,if_true,vL]
theorem lD {h:Heap} {r:Nat} {es:NM} {s:BA} (hr:h[r]? =some (.map es)) (ha:es.all (fun x=>pF .string x.1)=true) (hm:vV (.string s) es 0=none):xQ (α:=Prop) prog h 169 true (.mp r) (yQ s)=some (.tup [i64 0,bo false],True):=by
 unfold xQ
 rw [eG]
 simp only [oS,hr,zh0,zm1,ha,hm,Bool.and_self,if_true,vL,nI,zeV,Bool.false_eq_true,if_false,zhI,zhJ,Int.reduceLE,and_self]
theorem aS (h:Heap) (r:Nat) (es:NM) (n:Nat) (s:BA) (i e:Int) (hr:h[r]? =some (.map es)) (hes:NMap es n):ECall prog G0 117 [.mp r,yQ s,i64 i,i64 e] h fun p h'=> ∃ e':Int,p=i64 e'∧(h'=h∨h'=h.set r (.map (kO (.string s) (i64 i) es))):=by
 refine pv func117 22 false (by kernel_rfl) rfl rfl ?_
 refine g2 ?_
 have ha:=hes.all
 cases hm:vV (.string s) es 0 with
 |none=>
  have hlk:=lD hr ha hm
  (repeat (first|refine gz ?_|(refine gn ?_;intro zs zh;(try simp only [go_sem,hlk,eG,hr,ha,zm1,Bool.and_self] at zh);subst zh;refine gv ?_)))
  exact ⟨e,rfl,.inr rfl⟩
 |some x=>
  obtain ⟨j,p⟩:=x
  have hlk:=lC hr ha hm
  refine gf @hlk ?_
  exact ⟨5,rfl,.inl rfl⟩
theorem lE (h:Heap) (r:Nat) (es:NM) (n:Nat) (s:BA) (hr:h[r]? =some (.map es)) (hes:NMap es n):ECall prog G0 120 [.mp r,yQ s] h fun p h'=> ∃ i:Int,p=i64 i∧ -1≤i∧i<n∧h'=h:=by
 refine pv func120 15 false (by kernel_rfl) rfl rfl ?_
 refine g2 ?_
 have ha:=hes.all
 cases hm:vV (.string s) es 0 with
 |none=>
  have hlk:=lD hr ha hm
  refine gf @hlk ?_
  exact ⟨-1,rfl,by omega,by omega,rfl⟩
 |some x=>
  obtain ⟨j,p⟩:=x
  have hlk:=lC hr ha hm
  obtain ⟨y,hy,rfl⟩:=mQ hm
  obtain ⟨_,i,e,hi⟩:=hes y hy
  rw [e] at hlk
  refine gf @hlk ?_
  exact ⟨i,rfl,by omega,by omega,rfl⟩
end Go.AL
namespace Go.AL
open Go.Proofs Go.Proofs.Tryz
abbrev SH (b0 b1:Blk) (pc:List PV) (ml mf mp:NM) (L F P R Rep:PV) (J:Heap):Heap:=
 b0::b1:: .var 27 pc:: .map ml:: .map mf:: .map mp:: .var 171 [L,F,P,R,.mp 3,.mp 4,.mp 5,Rep]::J
abbrev iV (l:List (Int×Int)):List (List PV):=l.map fun d=>[i64 d.1,i64 d.2]
def Keep (J J':Heap):Prop:= ∀ (r:Nat) (b:Blk),J[r]? =some b→(∀ k n,b≠Blk.vec 166 k n)→J'[r]? =some b
theorem GrowN.app {off:Nat} {t:TypeId} {els:List (List PV)} {k:Nat} {J:Heap} {V:PV} (h:GrowN off t els k J V) (J':Heap):GrowN off t els k (J++J') V:=by
 rcases h with h|⟨q,h1,hq⟩
 ·exact .inl h
 ·exact .inr ⟨q,h1,by rw [List.getElem?_append_left (gsi hq).1];exact hq⟩
theorem GrowN.set {off:Nat} {t:TypeId} {els:List (List PV)} {k:Nat} {J:Heap} {V:PV} (h:GrowN off t els k J V) {q:Nat} {t0 k0 n0:Nat} (hq:J[q]? =some (.vec t0 k0 n0)) (ht:t≠t0) (c:Blk):GrowN off t els k (J.set q c) V:=by
 rcases h with h|⟨q',h1,hq'⟩
 ·exact .inl h
 ·refine .inr ⟨q',h1,?_⟩
  have:q≠q':=fun e=>by subst e;rw [hq] at hq';cases hq';exact ht rfl
  rw [List.getElem?_set_ne this];exact hq'
theorem Keep.app (J J':Heap):Keep J (J++J'):=fun r b h _=>by rw [List.getElem?_append_left (gsi h).1];exact h
theorem Keep.refl (J:Heap):Keep J J:=fun _ _ h _=>h
theorem Keep.trans {J J' J'':Heap} (h:Keep J J') (k:Keep J' J''):Keep J J'':=fun r b hb hn=>k r b (h r b hb hn) hn
theorem Keep.grow {J J':Heap} (h:Keep J J') {t:TypeId} {els:List (List PV)} {k:Nat} {V:PV} (ht:t≠166) (hG:GrowN 7 t els k J V):GrowN 7 t els k J' V:=by
 rcases hG with hG|⟨q,h1,hq⟩
 ·exact .inl hG
 ·exact .inr ⟨q,h1,h q _ hq (fun k n e=>by cases e;exact ht rfl)⟩
theorem zdD (b0 b1:Blk) (pc:List PV) (ml mf mp:NM) (L F P R Rep:PV) (J:Heap) (rp:List (Int×Int)) (hrp:rp.length≤1048576) (hG:GrowN 7 166 (iV rp) 2 J Rep) (e at':Int):
  ECall prog G0 116 [.ptr 6 0,i64 e,i64 at'] (SH b0 b1 pc ml mf mp L F P R Rep J) fun _ h'=>(e=0∧h'=SH b0 b1 pc ml mf mp L F P R Rep J)∨(e≠0∧ ∃ Rep' J',h'=SH b0 b1 pc ml mf mp L F P R Rep' J'∧GrowN 7 166 (iV (rp++[(e,at')])) 2 J' Rep'∧Keep J J'):=by
 refine pv func116 20 false (by kernel_rfl) rfl rfl ?_
 refine g2 ?_
 by_cases he:e=0
 ·subst he
  have hb:((0:Int)!=0)=false:=rfl
  refine gf @hb ?_
  exact .inl ⟨rfl,rfl⟩
 ·have hb:(e !=0)=true:=by simp [he]
  rcases hG with ⟨h0,rfl⟩|⟨q,rfl,hq⟩
  ·have:rp=[]:=by simpa using h0
   subst this
   refine gf @hb ?_
   exact .inr ⟨he,_,_,rfl,.inr ⟨J.length,rfl,by simp⟩,Keep.app _ _⟩
  ·have hqJ:q<J.length:=(gsi hq).1
   simp only [List.length_map] at hq
   refine gf (a2 @hb @hq) ?_
   exact .inr ⟨he,_,_,rfl,.inr ⟨q,by rw [show iV (rp++[(e,at')])=iV rp++iV [(e,at')] from List.map_append];rfl,by rw [List.getElem?_set_self hqJ];simp⟩,fun r b h hn=>by
    have:q≠r:=fun e=>by subst e;rw [hq] at h;cases h;exact hn _ _ rfl
    rw [List.getElem?_set_ne this];exact h⟩
end Go.AL
