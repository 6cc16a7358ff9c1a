/-
  Lattices: bounds, to the letter; the least element joined with another one.
-/
import Derived.Test.YtcffidhiaihbkaaGreatDoorZ28
set_option linter.unusedSimpArgs false
set_option linter.unusedVariables false
set_option maxRecDepth 100000
set_option maxHeartbeats 4000000
namespace Go.AL
open Go.Proofs Go.Proofs.Tryz
noncomputable def zpR (P:Prop):Bool:= @decide P (Classical.propDecidable P)
noncomputable def jT (l:La):List Int×Int:=open Classical in if h: ∃ r:List Int×Int,EPure prog G0 125 [.agg l.c] (fun p=>p= .tup [.agg (r.1.map u8),i64 r.2])∧r.1.length=8∧(r.2=0→1≤l.elems.length∧l.elems.length≤8∧OrdOk l.elems.length r.1) then Classical.choose h else ([],0)
theorem zbQ (l:La) (hl:l.ok):EPure prog G0 125 [.agg l.c] (fun p=>p= .tup [.agg ((jT l).1.map u8),i64 (jT l).2])∧(jT l).1.length=8∧((jT l).2=0→1≤l.elems.length∧l.elems.length≤8∧OrdOk l.elems.length (jT l).1):=by
 have h: ∃ r:List Int×Int,EPure prog G0 125 [.agg l.c] (fun p=>p= .tup [.agg (r.1.map u8),i64 r.2])∧r.1.length=8∧(r.2=0→1≤l.elems.length∧l.elems.length≤8∧OrdOk l.elems.length r.1):=by
  obtain ⟨p,⟨os,e,rfl,h1,h2⟩,k1,k2⟩:=zrE l hl
  exact ⟨(os,e),⟨_,rfl,k1,k2⟩,h1,h2⟩
 unfold jT
 rw [dif_pos h]
 exact Classical.choose_spec h
noncomputable def uE (l:La):Int:=(jT l).2
theorem zjV (l:La) (hl:l.ok):EPure prog G0 90 [.agg l.c] (fun p=>p=i64 (uE l))∧(uE l=0→1≤l.elems.length∧l.elems.length≤8):=by
 obtain ⟨h1,h2,h3⟩:=zbQ l hl
 refine ⟨?_,fun h=>⟨(h3 h).1,(h3 h).2.1⟩⟩
 refine ECall.cut (R:=fun p _=>p=i64 (uE l)) (pv func90 11 false (by kernel_rfl) rfl rfl ?_) (by rintro p h rfl;rfl)
 refine g2 ?_
 unfold uE
 generalize jT l=o at*
 obtain ⟨os,e⟩:=o
 dsimp only at*
 refine ge ?_
 (refine g1 ?_;refine zC (h1.call zK (by simp [zJ]) _) ?_;intro p2 h2 hr2;refine g2 ?_)
 obtain ⟨rfl,rfl⟩:=hr2
 (repeat (first|refine gz ?_|(refine gn ?_;intro zs zh;(try simp only [go_sem,List.length_map,h2] at zh);subst zh;refine gv ?_)))
 rfl
theorem zq6 (l:La) (hl:l.ok):EPure prog G0 81 [.agg l.c] fun p=>p= .tup [.agg ((jT l).1.map u8),bo (uE l==0)]:=by
 obtain ⟨h1,h2,h3⟩:=zbQ l hl
 refine ECall.cut (R:=fun p _=>p= .tup [.agg ((jT l).1.map u8),bo (uE l==0)]) (pv func81 13 false (by kernel_rfl) rfl rfl ?_) (by rintro p h rfl;exact vE _ _ _ _ (by simp [zU]))
 refine g2 ?_
 unfold uE
 generalize jT l=o at*
 obtain ⟨os,e⟩:=o
 dsimp only at*
 have ht8:=kK h2
 have hdr:(os.map u8).drop 8=[]:=List.drop_eq_nil_of_le (by simp [h2])
 refine ge ?_
 (refine g1 ?_;refine zC (h1.call zK (by simp [zJ]) _) ?_;intro p2 h2 hr2;refine g2 ?_)
 obtain ⟨rfl,rfl⟩:=hr2
 (repeat (first|refine gz ?_|(refine gn ?_;intro zs zh;(try simp only [go_sem,ht8,hdr,List.length_map,h2] at zh);subst zh;refine gv ?_)))
 rfl
def zr0 (l:La) (xs:List Int):Prop:= ∀ x∈xs,0≤x∧x<(l.elems.length:Int)
theorem zp1 (l:La) (hl:l.ok) (xs:List Int) (hx:xs.length≤140737488355328):EPure prog G0 82 [.agg l.c,vF xs] fun v=>v=bo (zpR (zr0 l xs)):=by
 refine ECall.cut (R:=fun v _=>v=bo (zpR (zr0 l xs))) (pv func82 23 false (by kernel_rfl) rfl rfl ?_) (by rintro p h rfl;rfl)
 refine g2 ?_
 refine ge ?_
 refine zO xs.length (K4 (.d:: .k:: .d:: .k:: .k:: .v::D9 (D4 ([])))) (own:=false) (fun i (_:Unit)=>[i64 i]) (fun _=>_) (fun i _=> ∀ j (h:j<i) (h2:j<xs.length),0≤xs[j]∧xs[j]<l.elems.length) () rfl rfl (by intro j h;omega) hx ?_ ?_
 ·rintro _ hI
  refine gm ?_
  have hin:zr0 l xs:=fun x hx=>by
   obtain ⟨j,hj,rfl⟩:=List.getElem_of_mem hx
   exact hI j hj hj
  have e:zpR (zr0 l xs)=true:= @decide_eq_true _ (Classical.propDecidable _) hin
  rw [e]
  refine gf @zM ?_
  rfl
 ·rintro i _ hi hw hI
  refine gm ?_
  have hg:=zG (f:=fun n:Int=>[i64 n]) [] hi
  have no: ¬(0≤xs[i]∧xs[i]<l.elems.length)→zpR (zr0 l xs)=false:=fun h=> @decide_eq_false _ (Classical.propDecidable _) fun k=>h (k _ (List.getElem_mem hi))
  have next:(0≤xs[i]∧xs[i]<l.elems.length)→ ∀ j (h:j<i+1) (h2:j<xs.length),0≤xs[j]∧xs[j]<l.elems.length:=fun q j hj h2=>by
   rcases Nat.lt_or_ge j i with h|h
   ·exact hI j h h2
   ·have:j=i:=by omega
    subst this;exact q
  clear hI
  generalize xs[i]=x at*
  by_cases c1:x<0
  ·have e1:decide (x<0)=true:=by simp [c1]
   rw [no (by omega)]
   refine gf (a5 @hi @hw @hg @zB @e1) ?_
   rfl
  ·have e1:decide (x<0)=false:=by simp [c1]
   by_cases c2:(l.elems.length:Int)≤x
   ·have e2:decide ((l.elems.length:Int)≤x)=true:=by simp [c2]
    rw [no (by omega)]
    refine gf (a6 @hi @hw @hg @zB @e1 @e2) ?_
    rfl
   ·have e2:decide ((l.elems.length:Int)≤x)=false:=by simp [c2]
    refine gf (a6 @hi @hw @hg @zB @e1 @e2) ?_
    exact ⟨(),next (by omega),rfl,rfl,rfl⟩
def upF (o:List Int) (n:Nat) (xs:List Int):Int:=xs.foldl (fun u x=>bits BinOp.and IntKind.u8 u (o.getD x.toNat 0)) (cD n)
noncomputable def zo6 (l:La) (xs:List Int):Int:=open Classical in if uE l=0∧zr0 l xs then zrI (jT l).1 (upF (jT l).1 l.elems.length xs) l.elems.length else -1
theorem zrJ (l:La) (hl:l.ok) (xs:List Int) (hx:xs.length≤140737488355328):EPure prog G0 56 [.agg l.c,vF xs] fun v=>v=i64 (zo6 l xs):=by
 refine ECall.cut (R:=fun v _=>v=i64 (zo6 l xs)) (pv func56 46 false (by kernel_rfl) rfl rfl ?_) (by rintro p h rfl;rfl)
 refine g2 ?_
 have hof:=zq6 l hl
 have hck:=zjV l hl
 obtain ⟨-,hos, -⟩:=zbQ l hl
 obtain ⟨os,hoe⟩: ∃ os,(jT l).1=os:=⟨_,rfl⟩
 unfold zo6
 rw [hoe] at hos hof ⊢
 have ht8:=kK hos
 have hdr:(os.map u8).drop 8=[]:=List.drop_eq_nil_of_le (by simp [hos])
 refine ge ?_
 (refine g1 ?_;refine zC (hof.call zK (by simp [zJ]) _) ?_;intro p2 h2 hr2;refine g2 ?_)
 obtain ⟨rfl,rfl⟩:=hr2
 by_cases hc:uE l=0
 case neg=>
  rw [beq_eq_false_iff_ne.2 hc,if_neg (fun k=>hc k.1)]
  (repeat (first|refine gz ?_|(refine gn ?_;intro zs zh;(try simp only [go_sem,List.length_map,hos,hdr] at zh);subst zh;refine gv ?_)))
  rfl
 rw [beq_iff_eq.2 hc]
 obtain ⟨hn1,hn8⟩:=hck.2 hc
 (repeat (first|refine gz ?_|(refine gn ?_;intro zs zh;(try simp only [go_sem,List.length_map,hos,hdr] at zh);subst zh;refine gv ?_)))
 (refine g1 ?_;refine zC ((zp1 l hl xs hx).call zK (by simp [zJ]) _) ?_;intro p2 h2 hr2;refine g2 ?_)
 obtain ⟨rfl,rfl⟩:=hr2
 by_cases hin:zr0 l xs
 case neg=>
  have e:zpR (zr0 l xs)=false:= @decide_eq_false _ (Classical.propDecidable _) hin
  rw [e,if_neg (fun k=>hin k.2)]
  refine ge ?_
  rfl
 have e:zpR (zr0 l xs)=true:= @decide_eq_true _ (Classical.propDecidable _) hin
 rw [e,if_pos ⟨hc,hin⟩]
 refine ge ?_
 refine zO xs.length (K4 (.k:: .k:: .k:: .v:: .k:: .d::K9 (K9 (.k:: .k:: .v::D9 (K4 (.k:: .k::[])))))) (own:=false) (fun i (u:Int)=>[u8 u,i64 i]) (fun _=>_) (fun i u=>u=upF os l.elems.length (xs.take i)) _ rfl rfl rfl hx ?_ ?_
 ·rintro u rfl
  refine gm ?_
  rw [List.take_length]
  refine gf (a2 @zM @ht8) ?_
  (refine g1f @ht8 ?_;refine zC ((zoT os hos _ l.elems.length hn8).call zK (by simp [qM]) _) ?_;intro p2 h2 hr2;refine g2 ?_)
  obtain ⟨rfl,rfl⟩:=hr2
  refine ge ?_
  rfl
 ·rintro i u hi hw hI
  refine gm ?_
  obtain ⟨h1,h2⟩:=hin _ (List.getElem_mem hi)
  obtain ⟨m,hm⟩:=Int.eq_ofNat_of_zero_le h1
  have hg:(xs.map fun n:Int=>[i64 n]).getD i []=[i64 m]:=by rw [zG [] hi,hm]
  have hm8:m<os.length:=by omega
  have hd:=yU u8 os m .un hm8
  have hgm:os.getD m 0=os[m]:=by rw [List.getD_eq_getElem?_getD,List.getElem?_eq_getElem hm8];rfl
  have hst:upF os l.elems.length (xs.take (i+1))=bits BinOp.and IntKind.u8 u os[m]:=by
   unfold upF at hI ⊢
   rw [List.take_succ_eq_append_getElem hi,List.foldl_append, ←hI,List.foldl_cons,List.foldl_nil,hm,Int.toNat_natCast,hgm]
  refine gf (a5 @hi @hw @hg @zB @hd) ?_
  exact ⟨_,hst.symm,rfl,rfl,rfl⟩
noncomputable def oU (l:La):Int:=zo6 l []
noncomputable def zpP (l:La) (a b:Int):Int:=zo6 l [a,b]
theorem zj7 (l:La) (hl:l.ok):EPure prog G0 25 [.agg l.c] fun p=>p=i64 (oU l):=by
 refine ECall.cut (R:=fun v _=>v=i64 (oU l)) (pv func25 5 false (by kernel_rfl) rfl rfl ?_) (by rintro p h rfl;rfl)
 refine g2 ?_
 refine ge ?_
 (refine g1 ?_;refine zC (((zrJ l hl [] (by simp)).args (.cons (PLe.refl _) (.cons (PLe.nil_ts 1) .nil))).call zK (by simp [zJ,cJ]) _) ?_;intro p2 h2 hr2;refine g2 ?_)
 obtain ⟨rfl,rfl⟩:=hr2
 refine ge ?_
 rfl
theorem zrU (l:La) (hl:l.ok) (a b:Int):EPure prog G0 135 [.agg l.c,i64 a,i64 b] fun p=>p=i64 (zpP l a b):=by
 refine ECall.cut (R:=fun v _=>v=i64 (zpP l a b)) (pv func135 12 false (by kernel_rfl) rfl rfl ?_) (by rintro p h rfl;rfl)
 refine g2 ?_
 refine ge ?_
 (refine g1 ?_;refine zC (((zrJ l hl [a,b] (by simp)).args (.cons (PLe.refl _) (.cons (PLe.tc_ts 1 _) .nil))).call zK (by simp [zJ,oM]) _) ?_;intro p2 h2 hr2;refine g2 ?_)
 obtain ⟨rfl,rfl⟩:=hr2
 refine ge ?_
 rfl
theorem zp5 {n:Nat} (h1:1≤n) (h:n≤8):cD n=((2 ^ n-1:Nat):Int):=by
 unfold cD
 match n,h1,h with
 |1,_,_=>decide
 |2,_,_=>decide
 |3,_,_=>decide
 |4,_,_=>decide
 |5,_,_=>decide
 |6,_,_=>decide
 |7,_,_=>decide
 |8,_,_=>decide
theorem Low.nat {n:Nat} (hn:n≤8) {o:List Int} (h:Low n o) (hl:o.length=8) {i:Nat} (hi:i<8): ∃ x:Nat,o.getD i 0=x∧x<2 ^ n∧x<256:=by
 have hg:o.getD i 0=o[i]:=by rw [List.getD_eq_getElem?_getD,List.getElem?_eq_getElem (by omega)];rfl
 obtain ⟨h1,h2⟩:=h _ (List.getElem_mem (show i<o.length by omega))
 obtain ⟨x,hx⟩:=Int.eq_ofNat_of_zero_le h1
 have h8:2 ^ n≤2 ^ 8:=Nat.pow_le_pow_right (by decide) hn
 rw [hx] at h2
 have h3:x<2 ^ n:=by exact_mod_cast h2
 exact ⟨x,by rw [hg,hx],h3,by omega⟩
theorem zqB (l:La) (hl:l.ok) (hc:uE l=0):(0≤oU l∧oU l<(l.elems.length:Int))∧ ∀ e:Int,0≤e→e<(l.elems.length:Int)→zpP l (oU l) e=e:=by
 obtain ⟨-,hos,h3⟩:=zbQ l hl
 obtain ⟨hn1,hn8,hL,hR,h0,hA⟩:=h3 hc
 have hbe:oU l=zrI (jT l).1 (cD l.elems.length) l.elems.length:=by
  unfold oU zo6
  rw [if_pos ⟨hc,by intro x hx;cases hx⟩];rfl
 rw [←hbe] at h0
 have hb: ∃ bt:Nat,oU l=bt∧bt<l.elems.length∧zqU (jT l).1 (cD l.elems.length) bt=true:=by
  rcases zoJ (c:=zqU (jT l).1 (cD l.elems.length)) (f:=l.elems.length) (i:=0) with ⟨q,_⟩|⟨a,q,_,q2,q3⟩
  ·exfalso;rw [hbe] at h0;unfold zrI at h0;omega
  ·exact ⟨a,by rw [hbe];exact q,by omega,q3⟩
 obtain ⟨bt,hb1,hb2,hb3⟩:=hb
 refine ⟨by omega,fun e he1 he2=> ?_⟩
 obtain ⟨k,rfl⟩:=Int.eq_ofNat_of_zero_le he1
 have hk:k<l.elems.length:=by omega
 obtain ⟨o,ho⟩: ∃ o,(jT l).1=o:=⟨_,rfl⟩
 obtain ⟨n,hn⟩: ∃ n,l.elems.length=n:=⟨_,rfl⟩
 have hj:zpP l (oU l) (k:Int)=zrI o (upF o n [oU l,(k:Int)]) n:=by
  unfold zpP zo6
  rw [if_pos ⟨hc,fun x hx=>by
   simp only [List.mem_cons,List.not_mem_nil,or_false] at hx
   rcases hx with rfl|rfl<;>omega⟩,ho,hn]
 rw [ho,hn] at hb3
 rw [hn] at hb2 hk hn1 hn8
 rw [ho,hn] at hL hR hA
 rw [ho] at hos
 obtain ⟨x,hx,hx1,hx2⟩:=hL.nat hn8 hos (show bt<8 by omega)
 obtain ⟨y,hy,hy1,hy2⟩:=hL.nat hn8 hos (show k<8 by omega)
 have hful:=zp5 hn1 hn8
 have hfl:(2 ^ n-1:Nat)<256:=by
  have:2 ^ n≤2 ^ 8:=Nat.pow_le_pow_right (by decide) hn8
  have:=Nat.two_pow_pos n
  omega
 have hup:upF o n [oU l,(k:Int)]=(y:Int):=by
  unfold upF
  simp only [List.foldl_cons,List.foldl_nil]
  rw [hb1,Int.toNat_natCast,Int.toNat_natCast,hx,hy,hful,u8_and_nat _ _ hfl hx2,u8_and_nat _ _ (Nat.lt_of_le_of_lt Nat.and_le_left hfl) hy2]
  congr 1
  refine Nat.eq_of_testBit_eq fun b=> ?_
  rw [Nat.testBit_and,Nat.testBit_and,Nat.testBit_two_pow_sub_one]
  cases hyb:y.testBit b with
  |false=>simp
  | true=>
   have hbn:b<n:=by
    rcases Nat.lt_or_ge b n with q|q
    ·exact q
    ·rw [Nat.testBit_lt_two_pow (Nat.lt_of_lt_of_le hy1 (Nat.pow_le_pow_right (by decide) q))] at hyb;cases hyb
   have hsub:zoA (cD n) (o.getD bt 0)=true:=by
    unfold zqU at hb3
    exact (Bool.and_eq_true _ _▸hb3).2
   rw [hful,hx] at hsub
   have hxb:=znR hfl hx2 hsub (show b<8 by omega) (by rw [Nat.testBit_two_pow_sub_one];exact decide_eq_true hbn)
   rw [hxb];simp [hbn]
 rw [hj,hup]
 unfold zrI
 have hyk:y.testBit k=true:=by
  have:=hR k hk
  rw [hy,Int.toNat_natCast] at this;exact this
 have hck:zqU o (y:Int) k=true:=by
  unfold zqU
  rw [hy,eB hy2 (by omega),hyk,zpC hy2];rfl
 rcases zoJ (c:=zqU o (y:Int)) (f:=n) (i:=0) with ⟨_,q⟩|⟨a,q,_,q2,q3⟩
 ·exact absurd (q k (Nat.zero_le _) (by omega)) (by rw [hck];simp)
 ·rw [q]
  have han:a<n:=by omega
  obtain ⟨z,hz,hz1,hz2⟩:=hL.nat hn8 hos (show a<8 by omega)
  unfold zqU at q3
  rw [hz,eB hy2 (by omega)] at q3
  obtain ⟨q4,q5⟩:=(Bool.and_eq_true _ _▸q3:y.testBit a=true∧zoA (y:Int) (z:Int)=true)
  have hzk:=znR hy2 hz2 q5 (show k<8 by omega) hyk
  by_cases hak:a=k
  ·rw [hak]
  ·exfalso
   refine hA a k han hk hak ⟨?_,?_⟩
   ·rw [hz,eB hz2 (by omega)];exact hzk
   ·rw [hy,eB hy2 (by omega)];exact q4
end Go.AL
