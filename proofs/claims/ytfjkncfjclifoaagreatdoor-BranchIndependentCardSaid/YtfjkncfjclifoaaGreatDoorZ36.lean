/-
  Branches: repositories checked.
-/
import Derived.Test.YtfjkncfjclifoaaGreatDoorZ35
set_option linter.unusedSimpArgs false
set_option linter.unusedVariables false
set_option maxRecDepth 100000
set_option maxHeartbeats 4000000
namespace Go.AL
open Go.Proofs Go.Sort
theorem ACall.cut2 {P:Program} {G:Glob} {f:FuncId} {args:List PV} {h:Heap} {R:PV→Heap→Prop} (n F F':Nat) (hn:h.length≤n) (k:ACall P G f args h fun p h'=>R (fz n h' F' p) (zk3 n h' F)):ACall P G f args h R:=by
 refine ⟨k.1,fun φ w X vs a b c d=>(k.2 φ w X vs a b c d).mono ?_⟩
 rintro e w' ⟨φ',h',p,v,he,x,hs,hv,hr⟩
 have x':=zb4 hs x n F hn
 exact ⟨φ'.take n,zk3 n h' F,fz n h' F' p,v,he,x',zhT hs n F,bY hs n F F' hv,hr⟩
theorem fzM0 {n:Nat} {h:Heap} (f r off k len:Nat) {T:TypeId} {cs:List PV} (hr: ¬r<n) (hh:h[r]? =some (.var T cs)):fz n h (f+1) (.ms r off k len)= .ts k (wA (cs.map (fz n h f)) off k len):=by
 simp only [fz,if_neg hr,hh]
theorem fzS0 {n:Nat} {h:Heap} (f:Nat) (v:Value):fz n h (f+1) (.sc v)= .sc v:=by simp only [fz]
theorem fzN0 {n:Nat} {h:Heap} (f:Nat):fz n h (f+1) .nil= .nil:=by simp only [fz]
theorem fzB0 (n:Nat) (h h':Heap) (b:Blk):zm2 n h 0 b=zm2 n h' 0 b:=by
 cases b<;>simp only [zm2]<;>first|rfl|(congr 1)
theorem zl8 {n:Nat} {H:Heap} {x:RX} {lo:Nat} (hn:n≤lo) (hR:RowOK lo H x):fz n H 39 (rxc x.1)=pH x.1.1.args∧fz n H 39 x.2=ces x.1.1.cs:=by
 obtain ⟨a1,a2,a3⟩:=hR
 have q1:zU 39 (pH x.1.1.args)=true:=all_map fun _=>rfl
 have e1:(x.1.1.cs.map Ce.c).flatten.map (fz n H 38)=(x.1.1.cs.map Ce.c).flatten:=uR fun p hp=>by
  obtain ⟨e,he,hp⟩:=List.mem_flatten.1 hp
  obtain ⟨c,_,rfl⟩:=List.mem_map.1 he
  simp only [Ce.c,List.mem_cons,List.not_mem_nil,or_false] at hp
  rcases hp with rfl|rfl|rfl<;>exact fzS0 37 _
 have e2:=rL 3 (x.1.1.cs.map Ce.c) (fun e he=>by obtain ⟨b,_,rfl⟩:=List.mem_map.1 he;rfl)
 rw [List.length_map] at e2
 refine ⟨vE n H 39 _ q1,?_⟩
 rw [a1,fzM0 38 _ _ _ _ (by omega) a3,e1,e2]
theorem zl9 {n lo:Nat} {H:Heap} {xs:List RX} {V:PV} (hn:n≤lo) (hO:OutAt lo H xs V) (hR: ∀ x∈xs,RowOK lo H x):PLe (fz n H 40 V) (vD (xs.map (·.1.1))):=by
 rcases hO with ⟨rfl,rfl⟩|⟨r,h1,h2,rfl,h3⟩
 ·rw [fzN0 39];exact PLe.nil_ts 2
 ·have e3:(rxf xs).map (fz n H 39)=(xs.map fun x=>LRw.c x.1.1).flatten:=by
   clear h1 h2 h3
   induction xs with
   |nil=>rfl
   |cons x xs ih=>
    obtain ⟨k1,k2⟩:=zl8 hn (hR x (List.mem_cons_self ..))
    have:=ih fun y hy=>hR y (List.mem_cons_of_mem _ hy)
    simp only [rxf,sZ] at this
    simp only [rxf,sZ,List.map_cons,List.flatten_cons,List.map_append,List.map_nil,this,k1,k2]
  have e4:=rL 2 (xs.map fun x=>LRw.c x.1.1) (fun e he=>by obtain ⟨b,_,rfl⟩:=List.mem_map.1 he;rfl)
  rw [List.length_map] at e4
  rw [fzM0 39 _ _ _ _ (by omega) h3,e3,e4]
  unfold vD
  rw [List.map_map];exact PLe.refl _
theorem zaP (l:La) (hl:l.ok) (tb m1 m2:Nat) (es:List En) (h:Heap) (hT:TB l tb m1 m2 es h) (hz:es.length≤2199023255552):
  ECall Tryz.prog G0 68 [.ptr tb 0] h fun p _=> ∃ rs:List LRw,p=vD rs∧rs.length≤es.length∧ ∀ x∈rs,x.ok2:=by
 obtain ⟨M,hM⟩: ∃ M:En→List Int, ∀ e∈es,(M e).length=64∧h[e.r]? =some (.var 231 ((M e).map i64)):=by
  have hE: ∀ e, ∃ ms:List Int,e∈es→ms.length=64∧h[e.r]? =some (.var 231 (ms.map i64)):=fun e=>by
   by_cases he:e∈es
   ·obtain ⟨ms,a,b⟩:=hT.l e he
    exact ⟨ms,fun _=>⟨a,b⟩⟩
   ·exact ⟨[],fun q=>absurd q he⟩
  exact ⟨fun e=>Classical.choose (hE e),fun e he=>Classical.choose_spec (hE e) he⟩
 have hn:=N.rel_n l hl tb m1 m2 es h hT hz M hM
 obtain ⟨rs0,h0⟩: ∃ rs0,rs0=(List.range es.length).filterMap (N.rowOf (oU l) M es):=⟨_,rfl⟩
 rw [←h0] at hn
 have hmem: ∀ a∈rs0, ∃ i e,es[i]? =some e∧a.args=e.a∧N.rowOf (oU l) M es i=some a:=fun a ha=>by
  rw [h0,List.mem_filterMap] at ha
  obtain ⟨i, -,hi⟩:=ha
  have hi':=hi
  unfold N.rowOf at hi
  cases he:es[i]? with
  |none=>rw [he] at hi;cases hi
  |some e=>
   rw [he] at hi
   simp only [Option.bind_some] at hi
   split at hi
   ·cases hi
   ·cases hi;exact ⟨i,e,he,rfl,hi'⟩
 have hone: ∀ a∈rs0, ∀ b∈rs0,a.args=b.args→a=b:=fun a ha b hb hab=>by
  obtain ⟨i,e,he,ea,ra⟩:=hmem a ha
  obtain ⟨j,f,hf,fb,rb⟩:=hmem b hb
  have hk:e.k=f.k:=by rw [(hT.k e (List.mem_of_getElem? he)).2.2,(hT.k f (List.mem_of_getElem? hf)).2.2, ←ea, ←fb,hab]
  have hij:i=j:=by
   have hd:=List.pairwise_iff_getElem.1 hT.d
   have hi:=(gsi he)
   have hj:=(gsi hf)
   obtain ⟨hi1,hi2⟩:=hi
   obtain ⟨hj1,hj2⟩:=hj
   rcases Nat.lt_trichotomy i j with q|q|q
   ·exact absurd (by rw [List.getElem_map,List.getElem_map,hi2,hj2];exact hk) (hd i j (by simpa using hi1) (by simpa using hj1) q)
   ·exact q
   ·exact absurd (by rw [List.getElem_map,List.getElem_map,hi2,hj2];exact hk.symm) (hd j i (by simpa using hj1) (by simpa using hi1) q)
  subst hij
  rw [ra] at rb;exact Option.some.inj rb
 obtain ⟨T,hT1,hT2⟩: ∃ T:List LRw,T.Perm rs0∧T.Pairwise N.rxL':=N.sorted_ex rs0
 have htb:zU 40 (vD T)=true:=all_map fun x=>by
  have q1:zU 39 (pH x.args)=true:=all_map fun _=>rfl
  have q2:zU 39 (ces x.cs)=true:=all_map fun _=>rfl
  simp only [LRw.c,List.all_cons,List.all_nil,q1,q2,Bool.and_true]
 refine ⟨vD T,h.map (zm2 h.length [] 0),⟨T,rfl,?_,fun x hx=> ?_⟩,?_⟩
 ·rw [hT1.length_eq,h0]
  have:=List.length_filterMap_le (N.rowOf (oU l) M es) (List.range es.length)
  simpa using this
 ·obtain ⟨i,e,he,ea,ra⟩:=hmem x (hT1.mem_iff.1 hx)
  obtain ⟨k1,k2, -⟩:=hT.k e (List.mem_of_getElem? he)
  refine ⟨by rw [ea];exact k1,?_,by rw [ea];exact k2⟩
  unfold N.rowOf at ra
  rw [he] at ra
  simp only [Option.bind_some] at ra
  split at ra
  ·cases ra
  ·cases ra;exact zb5 _ _ 64
 ·refine ACall.weaken (ACall.cut2 h.length 0 40 (Nat.le_refl _) (hn.mono ?_))
  rintro p h' ⟨hh,xs,hO,hR,hp,hs⟩
  have hxT:xs.map (·.1.1)=T:=aG cmT (fun r:LRw=>r.args) hp hT1 hone hs hT2
  refine ⟨vD T,?_,rfl,?_⟩
  ·rw [←hxT];exact zl9 (Nat.le_succ _) hO hR
  ·unfold zk3
   rw [hh]
   refine List.map_congr_left fun b _=> ?_
   exact fzB0 _ _ _ b
end Go.AL
namespace Go.AL
open Go.Proofs Go.Proofs.Tryz
@[go_sem] def UCel6f42.pl:Nat→DPlan
 |11=>⟨[yA,yB,yA,yA,yA,yB,yA,yA,yB,yC,yA,yA],xF,0⟩
 |_=>⟨[],[],0⟩
theorem LRw.ok2.ok {x:LRw} (h:x.ok2):x.ok:=⟨h.1,by have:=h.2.1;omega,h.2.2⟩
theorem fF (l:La) (hl:l.ok):EB 64 [.agg l.c] fun b=>b=true→1≤l.elems.length∧l.elems.length≤8:=by
 refine ECall.cut (R:=fun v _=> ∃ b:Bool,v=bo b∧(b=true→1≤l.elems.length∧l.elems.length≤8)) (pv func64 6 false (by kernel_rfl) rfl rfl ?_) (by rintro p h ⟨b,rfl,h⟩;exact ⟨b,rfl,h⟩)
 refine g2 ?_
 refine ge ?_
 (refine g1 ?_;refine zC ((pV l hl).call zK (by simp [zJ]) _) ?_;intro p2 h2 hr2;refine g2 ?_)
 obtain ⟨⟨e,rfl,he⟩,rfl⟩:=hr2
 refine ge ?_
 exact ⟨_,rfl,fun h=>he (by simpa using h)⟩
theorem zeA (x y:LRw) (hx:x.args.length≤140737488355328) (hx2:x.cs.length≤140737488355328):EB 69 [.agg x.c,.agg y.c]:=by
 refine ECall.cut (R:=fun v _=> ∃ b:Bool,v=bo b) (pv func69 17 false (by kernel_rfl) rfl rfl ?_) (by rintro p h ⟨b,rfl⟩;exact ⟨b,rfl,trivial⟩)
 refine g2 ?_
 refine ge ?_
 (refine g1 ?_;refine zC ((zh2 x.args y.args hx).call zK (by simp [zJ]) _) ?_;intro p2 h2 hr2;refine g2 ?_)
 obtain ⟨⟨b,rfl, -⟩,rfl⟩:=hr2
 cases b
 ·refine ge ?_
  exact ⟨_,rfl⟩
 ·refine ge ?_
  (refine g1 ?_;refine zC ((eq_ce x.cs y.cs hx2).call zK (by simp [zJ]) _) ?_;intro p2 h2 hr2;refine g2 ?_)
  obtain ⟨⟨b,rfl, -⟩,rfl⟩:=hr2
  refine ge ?_
  exact ⟨_,rfl⟩
open UCel6f42 in
theorem zeC (l:La) (hl:l.ok) (ty:List Int) (hty:ty.length≤1048576) (rs:List LRw) (hrs:rs.length≤1099511627776) (hr: ∀ x∈rs,x.args.length≤1099511627776∧x.cs.length≤1099511627776):
  EB 42 [.agg l.c,vF ty,vD rs] fun b=>b=true→ ∀ x∈rs,x.ok:=by
 refine ECall.cut (R:=fun v _=> ∃ b:Bool,v=bo b∧(b=true→ ∀ x∈rs,x.ok)) (pv func42 55 false (by kernel_rfl) rfl rfl ?_) (by rintro p h ⟨b,rfl,h⟩;exact ⟨b,rfl,h⟩)
 refine g2 ?_
 refine ge ?_
 (refine g1 ?_;refine zC ((fF l hl).call zK (by simp [zJ]) _) ?_;intro p2 h2 hr2;refine g2 ?_)
 obtain ⟨⟨b,rfl, -⟩,rfl⟩:=hr2
 cases b with
 |false=>
  refine ge ?_
  exact ⟨_,rfl,by simp⟩
 | true =>
  refine ge ?_
  refine zO rs.length (K4 (.k:: .k:: .d:: .k:: .d:: .d:: .d::K4 (.k:: .v::D9 (D9 (D9 (D4 (K4 (.k:: .k:: .k::[])))))))) (own:=false) (fun i (_:Heap)=>[i64 i]) (fun J=> .var 111 l.c::J) (fun i _=> ∀ (j:Nat) (h:j<rs.length),j<i→rs[j].ok) [] rfl rfl (fun j _ hj=>absurd hj (Nat.not_lt_zero _)) (by omega) ?_ ?_
  ·rintro J hI
   refine gm ?_
   have hall: ∀ x∈rs,x.ok:=fun x hx=>by obtain ⟨j,hj,rfl⟩:=List.getElem_of_mem hx;exact hI j hj hj
   refine gf @zM ?_
   (refine g1 ?_;refine zC (zbI l hl rs hrs hall _) ?_;intro p2 h2 hr2;refine g2 ?_)
   obtain ⟨tb,m1,m2,es,rfl,hT,hK,hn⟩:=hr2
   refine ge ?_
   (refine g1 ?_;refine zC (zaP l hl tb m1 m2 es _ hT (by omega)) ?_;intro p2 h2 hr2;refine g2 ?_)
   obtain ⟨rs2,rfl,hn2,hr2⟩:=hr2
   refine ge ?_
   (refine g1 ?_;refine zC ((zjV rs rs2 (by omega) 69 (fun x hx y _=>zeA x y (by have:=(hr x hx).1;omega) (by have:=(hr x hx).2;omega))).call zK (by simp [zJ,yO]) _) ?_;intro p2 h2 hr2;refine g2 ?_)
   obtain ⟨⟨b,rfl, -⟩,rfl⟩:=hr2
   refine ge ?_
   exact ⟨_,rfl,fun _=>hall⟩
  ·rintro i J hi hw hI
   refine gm ?_
   have hx:=zG (f:=LRw.c) [] hi
   obtain ⟨x,hxe⟩: ∃ x,rs[i]=x:=⟨_,rfl⟩
   obtain ⟨hx1,hx2⟩:=hxe▸hr _ (List.getElem_mem hi)
   rw [hxe] at hx
   by_cases hl0:x.args.length=ty.length
   ·have e0:((x.args.length:Int)!=(ty.length:Int))=false:=by simp [hl0]
    refine gf (a7 @hi @hx @zB @hw @zA @zD @e0) ?_
    refine zO x.args.length (K4 (.k:: .k:: .d:: .k:: .k:: .d:: .d::K9 (K9 (.v::D9 (D4 (D4 (K4 (K4 ([]))))))))) (own:=false) (fun i (_:Heap)=>[i64 i]) (fun J=> .var 111 l.c::J) (fun i _=> ∀ (j:Nat) (h:j<x.args.length),j<i→x.args[j].s.size≤16) _ rfl rfl (fun j _ hj=>absurd hj (Nat.not_lt_zero _)) (by omega) ?_ ?_
    ·rintro J hI2
     refine gm ?_
     refine gf (a2 @hw @zM) ?_
     refine ⟨J,fun j hj hji=> ?_,rfl,rfl,rfl⟩
     rcases Nat.lt_or_ge j i with h|h
     ·exact hI j hj h
     ·have:j=i:=by omega
      subst this
      rw [hxe]
      exact ⟨by omega,hx2,fun a ha=>by obtain ⟨k,hk,rfl⟩:=List.getElem_of_mem ha;exact hI2 k hk hk⟩
    ·rintro k J hk hw2 hI2
     refine gm ?_
     have hkt:k<ty.length:=by omega
     have hy:=zG (f:=Vl.c) [] hk
     have hz:=zG (f:=fun n:Int=>[i64 n]) [] hkt
     obtain ⟨y,hye⟩: ∃ y,x.args[k]=y:=⟨_,rfl⟩
     rw [hye] at hy
     by_cases ht0:y.t=ty[k]
     ·have e1:(y.t !=ty[k])=false:=by simp [ht0]
      refine gf (a9 @hk @hkt @hy @hz @zB @hw2 @zA @zD @e1) ?_
      (refine vY ?_;refine zN rfl rfl rfl ?_;intro sr hsr;simp only [sK,List.getD_cons_succ,List.getD_cons_zero,Option.map_some,Option.getD_some,Bool.not_false,Bool.not_true] at hsr;subst hsr;(first|refine pK ?_|refine pL ?_);intro sr hsr;simp only [go_sem,hk,hkt,hy,hz,zB,hw2,zA,zD,e1] at hsr;subst hsr;refine zP (by decide) (by decide) ((jH y).call zK (by simp [zJ]) _) ?_;intro p2 h2 hr2 ts2 hts;simp only [go_sem] at hts;subst hts)
      obtain ⟨⟨b,rfl,hb⟩,rfl⟩:=hr2
      cases b
      ·refine gf (a9 @hk @hkt @hy @hz @zB @hw2 @zA @zD @e1) ?_
       exact ⟨_,rfl,by simp⟩
      ·refine gf (a9 @hk @hkt @hy @hz @zB @hw2 @zA @zD @e1) ?_
       refine ⟨_,fun j hj hjk=> ?_,rfl,rfl,rfl⟩
       rcases Nat.lt_or_ge j k with h|h
       ·exact hI2 j hj h
       ·have:j=k:=by omega
        subst this
        rw [hye];exact hb rfl
     ·have e1:(y.t !=ty[k])=true:=by simp [ht0]
      refine gf (a9 @hk @hkt @hy @hz @zB @hw2 @zA @zD @e1) ?_
      exact ⟨_,rfl,by simp⟩
   ·have e0:((x.args.length:Int)!=(ty.length:Int))=true:=by simp;omega
    refine gf (a7 @hi @hx @zB @hw @zA @zD @e0) ?_
    exact ⟨_,rfl,by simp⟩
end Go.AL
namespace Go.AL
open Go.Proofs Go.Proofs.Tryz
@[go_sem] def UCel7f104.pl:Nat→DPlan
 |8=>⟨[yB,yA,yB,yA,yA,yC],znU,0⟩
 |_=>⟨[],[],0⟩
open UCel7f104 in
theorem zj6 (l:La) (hl:l.ok) (rs:List LRw) (hrs:rs.length≤1099511627776) (hr: ∀ x∈rs,x.ok) (args:List Vl) (ha:args.length≤1048576) (hs: ∀ a∈args,a.s.size≤16) (a b e:Int):
  EPure prog G0 104 [.agg l.c,vD rs,pH args,.agg [i64 a,i64 b],i64 e] fun p=> ∃ rs':List LRw,p=vD rs'∧rs'.length≤rs.length+1∧ ∀ x∈rs',x.ok2:=by
 refine ECall.cutW (R:=fun p _=> ∃ rs':List LRw,(p=vD rs'∨p= .nil∧rs'=[])∧rs'.length≤rs.length+1∧ ∀ x∈rs',x.ok2) (pv func104 40 false (by kernel_rfl) rfl rfl ?_) ?_
 refine g2 ?_
 ·refine ge ?_
  (refine g1 ?_;refine zC ((fF l hl).call zK (by simp [zJ]) _) ?_;intro p2 h2 hr2;refine g2 ?_)
  obtain ⟨⟨bv,rfl, -⟩,rfl⟩:=hr2
  cases bv with
  |false=>
   refine ge ?_
   exact ⟨[],.inr ⟨rfl,rfl⟩,by simp,by simp⟩
  | true=>
   refine ge ?_
   (refine g1 ?_;refine zC (zbI l hl rs hrs hr _) ?_;intro p2 h2 hr2;refine g2 ?_)
   obtain ⟨tb,m1,m2,es,rfl,hT,hK,hn⟩:=hr2
   have b1:=hK 1 _ rfl (by simp) (by simp)
   have b2:=hK 2 _ rfl (by simp) (by simp)
   refine gf (a2 @b1 @b2) ?_
   (refine g1f (a2 @b1 @b2) ?_;refine zC (zbQ l hl tb m1 m2 es _ hT (by omega) args ha hs) ?_;intro p2 h2 hr2;refine g2 ?_)
   obtain ⟨r,es',rfl,hT',hL,hK',hn'⟩:=hr2
   have c1:=hK' _ _ b1 (by simp) (by simp)
   have c2:=hK' _ _ b2 (by simp) (by simp)
   clear b1 b2 hK hK' hT
   have C1: ∀ l:List Blk,(h2++l)[1]? =some (.var 82 [i64 a,i64 b]):=fun l=>yJ _ _ _ _ c1
   have C2: ∀ l:List Blk,(h2++l)[2]? =some (.var 3 [i64 e]):=fun l=>yJ _ _ _ _ c2
   have hrm: ∀ (rs':List LRw),rs'.length≤es'.length→(∀ x∈rs',x.ok2)→ ∃ rs2:List LRw,(vD rs'=vD rs2∨vD rs'= .nil∧rs2=[])∧rs2.length≤rs.length+1∧ ∀ x∈rs2,x.ok2:=fun rs' q1 q2=>⟨rs',.inl rfl,by omega,q2⟩
   refine gf (a6 @rU @sB @qK @rN @C1 @C2) ?_
   (refine g1f (a6 @rU @sB @qK @rN @C1 @C2) ?_;refine zC (jT l tb m1 m2 es' _ (hT'.keep (yJ _ _)) e) ?_;intro p2 h2 hr2;refine g2 ?_)
   obtain ⟨rfl,el,rfl,hel⟩:=hr2
   cases el with
   |false=>
    refine gf (a6 @rU @sB @qK @rN @C1 @C2) ?_
    (refine g1 ?_;refine zC (zaP l hl tb m1 m2 es' _ (hT'.keep (yJ _ _)) (by omega)) ?_;intro p2 h2 hr2;refine g2 ?_)
    obtain ⟨rs',rfl,q1,q2⟩:=hr2
    refine ge ?_
    exact hrm rs' q1 q2
   | true=>
    obtain ⟨ms0,hms0,hr0⟩:=hL
    have hrl:r<h2.length:=(gsi hr0).1
    have hself:h2=h2.set r (.var 231 (ms0.map i64)):=by
     obtain ⟨q1,q2⟩:=gsi hr0
     rw [←q2,List.set_getElem_self]
    refine gf (a6 @rU @sB @qK @rN @C1 @C2) ?_
    (refine g1f (a6 @rU @sB @qK @rN @C1 @C2) ?_;refine zC (jQ a b _) ?_;intro p2 h2 hr2;refine g2 ?_)
    obtain ⟨rfl,rfl⟩:=hr2
    refine gf (a6 @rU @sB @qK @rN @C1 @C2) ?_
    refine tT (f:=176) (fst:=[]) (cap:=_) (fun _ h=>h) rfl ?_
    simp only [List.toList_toArray,List.cons_append,List.nil_append,List.append_nil,List.append_assoc,List.length_append,List.length_cons,List.length_nil,Nat.zero_add,Nat.reduceAdd,Nat.add_assoc,List.singleton_append]
    generalize hLp:Blk.loop _ _ _ _ _ _=L
    refine (zbN a b (h2.length+1) (h2.length+2) (h2.length+3) (fun h1=> ∃ ms:List Int,ms.length=64∧h1=h2.set r (.var 231 (ms.map i64))++[.var 177 [.ptr r 0],.var 3 [i64 a],.var 3 [i64 b],L]) _ ⟨ms0,hms0,by rw [←hself]⟩ ((sB h2 _ 1).trans rfl) ?_ ?_).mono ?_
    ·rintro _ ⟨ms,_,rfl⟩
     have:=sB (h2.set r (.var 231 (ms.map i64))) [.var 177 [.ptr r 0],.var 3 [i64 a],.var 3 [i64 b],L] 2
     rw [List.length_set] at this
     exact this
    ·rintro k _ hk64 ⟨ms,hms,rfl⟩
     subst hLp
     have hr2':r≠2:=fun q=>by subst q;rw [hr0] at c2;cases c2
     have F0: ∀ (X:Blk) (l:List Blk),(h2.set r X++l)[h2.length]? =l[0]? :=fun X l=>by have:=rU (h2.set r X) l;rwa [List.length_set] at this
     have Fk: ∀ (X:Blk) (l:List Blk) (k:Nat),(h2.set r X++l)[h2.length+k]? =l[k]? :=fun X l k=>by have:=sB (h2.set r X) l k;rwa [List.length_set] at this
     have Sk: ∀ (X:Blk) (l:List Blk) (k:Nat) (b:Blk),(h2.set r X++l).set (h2.length+k) b=h2.set r X++l.set k b:=fun X l k b=>by have:=rN (h2.set r X) l k b;rwa [List.length_set] at this
     have Ft: ∀ (X:Blk) (l:List Blk),(h2.set r X++l)[2]? =some (.var 3 [i64 e]):=fun X l=>yJ _ _ _ _ (by rw [List.getElem?_set_ne hr2'];exact c2)
     have Fr: ∀ (X:Blk) (l:List Blk),(h2.set r X++l)[r]? =some X:=fun X l=>yJ _ _ _ _ (List.getElem?_set_self hrl)
     have Sr: ∀ (X Y:Blk) (l:List Blk),(h2.set r X++l).set r Y=h2.set r Y++l:=fun X Y l=>by rw [List.set_append_left _ _ (by rw [List.length_set];exact hrl),List.set_set]
     have hk:k<ms.length:=by omega
     have hd:=yU i64 ms k .un hk
     have hsp: ∀ v,(ms.map i64).take k++i64 v::(ms.map i64).drop (k+1)=(ms.set k v).map i64:=fun v=>wY i64 ms k v hk
     have hk6:((k:Int)<64)=True:=by simp;omega
     refine ⟨_,_,_,_,_,_,(Fk _ _ 3).trans rfl,rfl,?_⟩
     refine uV (own:=false) _ _ _ _ ?_
     simp only [rput,List.set_cons_zero,List.set_cons_succ]
     (repeat (first|refine gz ?_|(refine gn ?_;intro zs zh;(try simp only [go_sem,F0,Fk,Ft,Fr,Sk,Sr] at zh);subst zh;refine gv ?_)|refine yD UCel7f104.pl ?_))
     refine ⟨rfl,_,_,_,_,_,(Fk _ _ 3).trans rfl,?_⟩
     refine uV (own:=false) _ _ _ _ ?_
     simp only [Sk,List.set_cons_zero,List.set_cons_succ]
     (repeat (first|refine gz ?_|(refine gn ?_;intro zs zh;(try simp only [go_sem,F0,Fk,Ft,Fr,Sk,Sr,hd,hsp,hk6,hms,zB] at zh);subst zh;refine gv ?_)|refine yD UCel7f104.pl ?_))
     refine ⟨_,_,_,_,_,_,(Fk _ _ 3).trans rfl,rfl,ms.set k e,by simpa using hms,?_⟩
     rw [Sk]
     rfl
    ·rintro p h' ⟨ms,hms,rfl⟩
     subst hLp
     have Fk: ∀ (X:Blk) (l:List Blk) (k:Nat),(h2.set r X++l)[h2.length+k]? =l[k]? :=fun X l k=>by have:=sB (h2.set r X) l k;rwa [List.length_set] at this
     have Sk: ∀ (X:Blk) (l:List Blk) (k:Nat) (b:Blk),(h2.set r X++l).set (h2.length+k) b=h2.set r X++l.set k b:=fun X l k b=>by have:=rN (h2.set r X) l k b;rwa [List.length_set] at this
     refine ⟨_,_,_,_,_,_,(Fk _ _ 3).trans rfl,by simp,?_⟩
     simp only [Sk,List.set_cons_zero,List.set_cons_succ]
     refine ge ?_
     (refine g1 ?_;refine zC (zaP l hl tb m1 m2 es' _ (hT'.line ⟨ms0,hms0,hr0⟩ hms _) (by omega)) ?_;intro p2 h2 hr2;refine g2 ?_)
     obtain ⟨rs',rfl,q1,q2⟩:=hr2
     refine ge ?_
     exact hrm rs' q1 q2
 ·rintro p h ⟨rs',rfl|⟨rfl,rfl⟩,h1,h2⟩
  ·have htb:zU 40 (vD rs')=true:=all_map fun x=>by
    have q1:zU 39 (pH x.args)=true:=all_map fun _=>rfl
    have q2:zU 39 (ces x.cs)=true:=all_map fun _=>rfl
    simp only [LRw.c,List.all_cons,List.all_nil,q1,q2,Bool.and_true]
   rw [vE 0 h 40 _ htb]
   exact ⟨_,PLe.refl _,⟨rs',rfl,h1,h2⟩,yP _ _ htb⟩
  ·exact ⟨vD [],by rw [iQ];exact PLe.nil_ts 2,⟨[],rfl,by simp,by simp⟩,by simp [xX]⟩
end Go.AL
namespace Go.AL
open Go.Proofs Go.Proofs.Tryz
@[go_sem] def UBas1f72.pl:Nat→DPlan
 |1=>⟨[yA,yB,yB,yA,yA,yB,yB,yA,yC,yA,yA,yB,yA,yB,yC,yA,yA,yA,yA],sI,0⟩
 |_=>⟨[],[],0⟩
open UBas1f72 in
theorem zdM (x y:Rw) (k q c:Nat) (hx:k≤x.args.length) (hy:k≤y.args.length) (hxl:x.lt) (hyl:y.lt) (h0:Heap) (hq:h0[q]? =some (.var 76 y.c)) (hc:h0[c]? =some (.var 3 [i64 k])) (J:Heap):
  ECall prog G0 72 [.agg x.c,.ptr q 0,.ptr c 0] (h0++J) fun p h'=> ∃ (b:Bool) (J':Heap),p=bo b∧(b=false→True)∧h'=h0++J':=by
 refine pv func72 23 false (by kernel_rfl) rfl rfl ?_
 refine g2 ?_
 have hq': ∀ l:List Blk,(h0++l)[q]? =some (.var 76 y.c):=fun l=>yJ _ _ _ _ hq
 have hc': ∀ l:List Blk,(h0++l)[c]? =some (.var 3 [i64 k]):=fun l=>yJ _ _ _ _ hc
 have hb: ∀ l:List Blk,(h0++(J++l))[h0.length+J.length]? =l[0]? :=fun l=>by rw [←List.append_assoc, ←List.length_append];exact rU _ _
 have e1:((k:Int)≤(x.args.length:Int))=True:=by simp [hx]
 have e2:((k:Int)≤(y.args.length:Int))=True:=by simp [hy]
 (repeat (first|refine gz ?_|(refine gn ?_;intro zs zh;(try simp only [go_sem,hq',hc',hb,xO,hx,hy,e1,e2] at zh);subst zh;refine gv ?_)|refine yD UBas1f72.pl ?_))
 have hal:=hxl.al
 have hwx:=hxl.w
 have hwy:=hyl.w
 (refine zF rfl rfl rfl ?_;intro zs zh;simp only [go_sem,hq',hc',hb,xO,hx,hy,e1,e2] at zh;subst zh;refine zP (by decide) (by decide) ((zh2 (y.args.take k) (x.args.take k) (by rw [List.length_take];omega)).call zK (by simp) _) ?_;intro p2 h2 hr2 ts2 hts;simp only [go_sem] at hts;subst hts)
 obtain ⟨⟨b,rfl, -⟩,rfl⟩:=hr2
 cases b with
 |false=>
  (repeat (first|refine gz ?_|(refine gn ?_;intro zs zh;(try simp only [go_sem,hq',hc',hb,xO,hx,hy,e1,e2] at zh);subst zh;refine gv ?_)|refine yD UBas1f72.pl ?_))
  exact ⟨_,_,rfl,fun _=>trivial,rfl⟩
 |true=>
  (repeat (first|refine gz ?_|(refine gn ?_;intro zs zh;(try simp only [go_sem,hq',hc',hb,xO,hx,hy,e1,e2] at zh);subst zh;refine gv ?_)|refine yD UBas1f72.pl ?_))
  (refine vY ?_;refine zN rfl rfl rfl ?_;intro sr hsr;simp only [sK,List.getD_cons_succ,List.getD_cons_zero,Option.map_some,Option.getD_some,Bool.not_false,Bool.not_true] at hsr;subst hsr;(first|refine pK ?_|refine pL ?_);intro sr hsr;simp only [go_sem,hq',hc',hb,xO,hx,hy,e1,e2] at hsr;subst hsr;refine zP (by decide) (by decide) ((zjA y.w x.w (by omega) (by omega)).call zK (by simp) _) ?_;intro p2 h2 hr2 ts2 hts;simp only [go_sem] at hts;subst hts)
  obtain ⟨⟨w,rfl, -⟩,rfl⟩:=hr2
  (repeat (first|refine gz ?_|(refine gn ?_;intro zs zh;(try simp only [go_sem,hq',hc',hb,xO,hx,hy,e1,e2] at zh);subst zh;refine gv ?_)|refine yD UBas1f72.pl ?_))
  exact ⟨_,_,rfl,fun _=>trivial,rfl⟩
theorem zfW (rel:List Rw) (hl:rel.length≤1099511627776) (k:Nat) (hr: ∀ x∈rel,k≤x.args.length∧x.lt):EB 44 [uN rel,i64 k]:=by
 refine ECall.cut (R:=fun v _=> ∃ b:Bool,v=bo b) (pv func44 22 false (by kernel_rfl) rfl rfl ?_) (by rintro p h ⟨b,rfl⟩;exact ⟨b,rfl,trivial⟩)
 refine g2 ?_
 refine ge ?_
 refine zO rel.length (K4 (D4 (.k:: .k:: .v::D9 (.d:: .d::[])))) (own:=false) (fun i (_:Heap)=>[i64 i]) (fun J=> .var 3 [i64 k]::J) (fun _ _=>True) [] rfl rfl trivial (by omega) ?_ ?_
 ·rintro J _
  refine gm ?_
  refine gf @zM ?_
  exact ⟨_,rfl⟩
 ·rintro i J hi hw _
  refine gm ?_
  have hx:=zG (f:=Rw.c) [] hi
  have hxo:=hr _ (List.getElem_mem hi)
  generalize rel[i]=x at*
  have hile:(i:Int)≤(rel.length:Int):=by omega
  have hile2:i≤rel.length:=by omega
  (repeat (first|refine gz ?_|(refine gn ?_;intro zs zh;(try simp only [go_sem,hi,hx,zB,hw,zA,zD,xO,hile,hile2] at zh);subst zh;refine gv ?_)))
  have hq:(Blk.var 3 [i64 k]::(J++[Blk.var 76 x.c]))[J.length+1]? =some (.var 76 x.c):=by simp
  have hcf:=cf_rw (rel.take i) (fun _=>True) 72 [.ptr (J.length+1) 0,.ptr 0 0] (.var 3 [i64 k]::(J++[.var 76 x.c])) (by rw [List.length_take];omega) (fun y hy J2=>zdM y x k (J.length+1) 0 (hr y (List.mem_of_mem_take hy)).1 hxo.1 (hr y (List.mem_of_mem_take hy)).2 hxo.2 _ hq rfl J2) []
  rw [List.append_nil] at hcf
  (refine ns ?_;intro zs zh;simp only [go_sem,hi,hx,zB,hw,zA,zD,xO,hile,hile2] at zh;subst zh;refine zC (hcf) ?_;intro p2 h2 hr2 ts2 hts;simp only [go_sem] at hts;subst hts)
  obtain ⟨b,J',rfl, -,rfl⟩:=hr2
  cases b
  ·refine gf @hw ?_
   exact ⟨_,trivial,rfl,rfl,rfl⟩
  ·refine gf @hw ?_
   exact ⟨_,rfl⟩
end Go.AL
namespace Go.AL
open Go.Proofs Go.Proofs.Tryz
@[go_sem] def UBas2f18.pl:Nat→DPlan
 |6=>⟨[yA,yB,yA,yA,yB,yA,yB,yA,yA,yB,yA,yA],xF,0⟩
 |12=>⟨[yA,yA,yA,yA,yA,yB,yA,yB,yA,yB,yA,yB,yA,yC,yA,yA],xE,0⟩
 |_=>⟨[],[],0⟩
structure DtV (p:Pg) (d:Dt):Prop where
 fm:p.fm
 pb: ∀ x∈p.preds, -1≤x.of'∧x.of'<p.lats.length
 rl:d.rels.length=p.preds.length
 ll:d.lats.length=p.preds.length
 r: ∀ (i:Nat) (h:i<p.preds.length) (h':i<d.rels.length), ∀ x∈d.rels[i],RvK p.preds[i].types x
 l: ∀ (i:Nat) (h':i<d.lats.length), ∀ x∈d.lats[i],x.ok
abbrev Pg.sm (p:Pg):Prop:= ∀ x∈p.lats,x.elems.length≤1048576∧x.covers.length≤1048576
open UBas2f18 in
theorem zeD (p:Pg) (hp:p.ok) (hle:p.sm) (d:Dt) (hd:d.sz):EB 18 [.agg p.c,.agg d.c] fun b=>b=true→DtV p d:=by
 refine ECall.cut (R:=fun v _=> ∃ b:Bool,v=bo b∧(b=true→DtV p d)) (pv func18 95 false (by kernel_rfl) rfl rfl ?_) (by rintro p h ⟨b,rfl,h⟩;exact ⟨b,rfl,h⟩)
 refine g2 ?_
 refine ge ?_
 (refine g1 ?_;refine zC ((mL p hp hle).call zK (by simp [zJ]) _) ?_;intro p2 h2 hr2;refine g2 ?_)
 obtain ⟨⟨b,rfl,hb⟩,rfl⟩:=hr2
 cases b with
 |false=>
  refine ge ?_
  exact ⟨_,rfl,by simp⟩
 | true =>
  obtain ⟨hf,hpb⟩:=hb rfl
  have hpl:=hf.pl
  by_cases h1:d.rels.length=p.preds.length
  case neg=>
   have e1:((d.rels.length:Int)!=(p.preds.length:Int))=true:=by simp;omega
   refine gf @e1 ?_
   exact ⟨_,rfl,by simp⟩
  have e1:((d.rels.length:Int)!=(p.preds.length:Int))=false:=by simp [h1]
  by_cases h2:d.lats.length=p.preds.length
  case neg=>
   have e2:((d.lats.length:Int)!=(p.preds.length:Int))=true:=by simp;omega
   refine gf (a2 @e1 @e2) ?_
   exact ⟨_,rfl,by simp⟩
  have e2:((d.lats.length:Int)!=(p.preds.length:Int))=false:=by simp [h2]
  refine gf (a2 @e1 @e2) ?_
  refine zO p.preds.length (K4 (D4 (.d:: .d::K9 (K9 (K4 (.k:: .k:: .v::D9 (D9 (D9 (D9 (D9 (D9 (D4 (.d:: .d::[]))))))))))))) (own:=false) (fun i (_:Heap)=>[i64 i]) (fun J=> .var 27 p.c:: .var 44 d.c::J) (fun i _=> ∀ (j:Nat) (h:j<p.preds.length) (hr:j<d.rels.length) (hl:j<d.lats.length),j<i→(∀ x∈d.rels[j],RvK p.preds[j].types x)∧ ∀ x∈d.lats[j],x.ok) [] rfl rfl (fun j _ _ _ hj=>absurd hj (Nat.not_lt_zero _)) (by omega) ?_ ?_
  ·rintro J hI
   refine gm ?_
   refine gf @zM ?_
   exact ⟨_,rfl,fun _=>⟨hf,hpb,h1,h2,fun i h h'=>(hI i h h' (by omega) h).1,fun i h'=>(hI i (by omega) (by omega) h' (by omega)).2⟩⟩
  ·rintro i J hi hw hI
   refine gm ?_
   have hir:i<d.rels.length:=by omega
   have hil:i<d.lats.length:=by omega
   have hx:=zG (f:=Pd.c) [] hi
   have hy:=zG (f:=fun r=>[uN r]) [] hir
   have hz:=zG (f:=fun r=>[vD r]) [] hil
   obtain ⟨x,hxe⟩: ∃ x,p.preds[i]=x:=⟨_,rfl⟩
   obtain ⟨y,hye⟩: ∃ y,d.rels[i]=y:=⟨_,rfl⟩
   obtain ⟨z,hze⟩: ∃ z,d.lats[i]=z:=⟨_,rfl⟩
   have hxf:=hf.p _ (List.getElem_mem hi)
   have hxb:=hpb _ (List.getElem_mem hi)
   have hys:=hd.r _ (List.getElem_mem hir)
   have hzs:=hd.l _ (List.getElem_mem hil)
   rw [hxe] at hx hxf hxb
   rw [hye] at hy hys
   rw [hze] at hz hzs
   obtain ⟨hy1,hy2⟩:=hys
   obtain ⟨hz1,hz2⟩:=hzs
   obtain ⟨hf1,hf2,hf3⟩:=hxf
   have next:(∀ q∈y,RvK x.types q)→(∀ q∈z,q.ok)→ ∀ (j:Nat) (h:j<p.preds.length) (hr:j<d.rels.length) (hl:j<d.lats.length),j<i+1→(∀ x∈d.rels[j],RvK p.preds[j].types x)∧ ∀ x∈d.lats[j],x.ok:=by
    intro q1 q2 j h hr hl hj
    rcases Nat.lt_or_ge j i with hji|hji
    ·exact hI j h hr hl hji
    ·have:j=i:=by omega
     subst this
     rw [hxe,hye,hze];exact ⟨q1,q2⟩
   obtain ⟨xname,xtypes,xlat,xof,xbase,xkey,xat⟩:=x
   dsimp only at*
   cases xbase with
   | false=>
    have hw0:IntKind.i64.wrap ((y.length:Int)+(z.length:Int))=((y.length+z.length:Nat):Int):=by rw [xM (by omega) (by omega)];omega
    by_cases h0:y.length+z.length=0
    ·have e3:((((y.length+z.length:Nat)):Int)==0)=true:=by rw [h0];rfl
     refine gf (a9 @hi @hir @hil @hx @hy @hz @zB @hw (a4 @zA @zD @hw0 @e3)) ?_
     have q1:y=[]:=List.eq_nil_of_length_eq_zero (by omega)
     have q2:z=[]:=List.eq_nil_of_length_eq_zero (by omega)
     exact ⟨_,next (by rw [q1];simp) (by rw [q2];simp),rfl,rfl,rfl⟩
    ·have e3:((((y.length+z.length:Nat)):Int)==0)=false:=by rw [beq_eq_false_iff_ne];omega
     refine gf (a9 @hi @hir @hil @hx @hy @hz @zB @hw (a4 @zA @zD @hw0 @e3)) ?_
     exact ⟨_,rfl,by simp⟩
   | true=>
    refine gf (a9 @hi @hir @hil @hx @hy @hz @zB @hw (a2 @zA @zD)) ?_
    (refine g1f @zA ?_;refine zC ((lR ⟨xname,xtypes,xlat,xof,true,xkey,xat⟩).call zK (by simp [zJ]) _) ?_;intro p2 h2 hr2;refine g2 ?_)
    obtain ⟨⟨b,rfl,hb⟩,rfl⟩:=hr2
    dsimp only at hb
    cases b with
    | true=>
     have ho:xof≠ -1:=by simpa using hb.symm
     have hol:xof.toNat<p.lats.length:=by omega
     have hq:=zG (f:=La.c) [] hol
     have hlo:=hp.l _ (List.getElem_mem hol)
     generalize p.lats[xof.toNat]=lt at*
     by_cases hy0:y.length=0
     ·have e3:((y.length:Int)==0)=true:=by rw [hy0];rfl
      have q1:y=[]:=List.eq_nil_of_length_eq_zero hy0
      refine gf (a9 @hi @hir @hil @hx @hy @hz @zB @hw (a5 @zA @zD @e3 @hq @hol)) ?_
      (refine vY ?_;refine zN rfl rfl rfl ?_;intro sr hsr;simp only [sK,List.getD_cons_succ,List.getD_cons_zero,Option.map_some,Option.getD_some,Bool.not_false,Bool.not_true] at hsr;subst hsr;(first|refine pK ?_|refine pL ?_);intro sr hsr;simp only [go_sem,hi,hir,hil,hx,hy,hz,zB,hw,zA,zD,e3,hq,hol] at hsr;subst hsr;refine zP (by decide) (by decide) ((zeC lt hlo xtypes (by omega) z (by omega) hz2).call zK (by simp [zJ]) _) ?_;intro p2 h2 hr2 ts2 hts;simp only [go_sem] at hts;subst hts)
      obtain ⟨⟨b,rfl,hbv⟩,rfl⟩:=hr2
      cases b
      ·refine gf @hw ?_
       exact ⟨_,rfl,by simp⟩
      ·refine gf @hw ?_
       exact ⟨_,next (by rw [q1];simp) (hbv rfl),rfl,rfl,rfl⟩
     ·have e3:((y.length:Int)==0)=false:=by rw [beq_eq_false_iff_ne];omega
      refine gf (a9 @hi @hir @hil @hx @hy @hz @zB @hw (a5 @zA @zD @e3 @hq @hol)) ?_
      exact ⟨_,rfl,by simp⟩
    | false=>
     by_cases hz0:z.length=0
     ·have e3:((z.length:Int)==0)=true:=by rw [hz0];rfl
      have q2:z=[]:=List.eq_nil_of_length_eq_zero hz0
      refine gf (a3 @hw @zA @e3) ?_
      (refine g1f (a3 @hw @zA @e3) ?_;refine zC ((dU xtypes y (by omega) (by omega) hy2).call zK (by simp [zJ]) _) ?_;intro p2 h2 hr2;refine g2 ?_)
      obtain ⟨⟨b,rfl,hbv⟩,rfl⟩:=hr2
      cases b with
      |false=>
       refine gf (a2 @hw @zA) ?_
       exact ⟨_,rfl,by simp⟩
      | true=>
       have hbv:=hbv rfl
       obtain ⟨k,rfl⟩:=Int.eq_ofNat_of_zero_le hf1
       refine gf (a2 @hw @zA) ?_
       (refine g1f (a2 @hw @zA) ?_;refine zC ((zfW y (by omega) k (fun q hq=>⟨by have:=(hbv q hq).1;omega,hy2 q hq⟩)).call zK (by simp [zJ]) _) ?_;intro p2 h2 hr2;refine g2 ?_)
       obtain ⟨⟨b,rfl, -⟩,rfl⟩:=hr2
       cases b
       ·refine gf @hw ?_
        exact ⟨_,rfl,by simp⟩
       ·refine gf @hw ?_
        exact ⟨_,next (fun q hq=>hbv q hq) (by rw [q2];simp),rfl,rfl,rfl⟩
     ·have e3:((z.length:Int)==0)=false:=by rw [beq_eq_false_iff_ne];omega
      refine gf (a3 @hw @zA @e3) ?_
      exact ⟨_,rfl,by simp⟩
end Go.AL
namespace Go.AL
open Go.Proofs Go.Proofs.Tryz
noncomputable def vlF (p:Pg):Bool:=znY 40 [.agg p.c] fun b=>b=true→p.preds.length≤1048576
noncomputable def nmF (s:BA):Bool:=znY 45 [yQ s] fun _=>True
abbrev zcQ:BA:=⟨#[109,97,105,110]⟩
noncomputable def zkX (r:Rp) (i:Nat) (b:Br):Bool:=nmF b.name&&(rV (kN b.name) r.bs==i)&& !decide (b.last< -1)&& !decide ((r.cs.length:Int)≤b.last)
noncomputable def iY (p:Pg) (r:Rp):Prop:=r.cs.length≤200∧r.bs.length≤12∧(∃ h:0<r.bs.length,r.bs[0].name=zcQ)∧vlF p=true∧ ∀ (i:Nat) (h:i<r.bs.length),zkX r i r.bs[i]=true
noncomputable def zh8 (p:Pg) (r:Rp):Option (List Dt):=open Classical in if iY p r then eF p r.cs else none
theorem fL (p:Pg) (hp:p.ok) (hle:p.sm) (ha:AppP p) (r:Rp) (hr:r.sz):EPure prog G0 29 [.agg p.c,.agg r.c] fun v=>v=znW (zh8 p r):=by
 refine ECall.cutW (R:=fun v h=>(¬iY p r∧v= .tup [.nil,bo false])∨(iY p r∧v=znW (eF p r.cs))) (pv func29 76 false (by kernel_rfl) rfl rfl ?_) ?_
 refine g2 ?_
 ·have hcl:=hr.cl
  have hbl:=hr.bl
  by_cases h1:200<r.cs.length
  ·have e1:decide ((200:Int)<(r.cs.length:Int))=true:=by simp;omega
   refine gf @e1 ?_
   exact .inl ⟨fun k=>by have:=k.1;omega,rfl⟩
  have e1:decide ((200:Int)<(r.cs.length:Int))=false:=by simp;omega
  by_cases h2:r.bs.length=0
  ·have e2:((r.bs.length:Int)==0)=true:=by rw [h2];rfl
   refine gf (a2 @e1 @e2) ?_
   exact .inl ⟨fun k=>by obtain ⟨_,_,⟨h,_⟩,_⟩:=k;omega,rfl⟩
  have e2:((r.bs.length:Int)==0)=false:=by rw [beq_eq_false_iff_ne];omega
  by_cases h3:12<r.bs.length
  ·have e3:decide ((12:Int)<(r.bs.length:Int))=true:=by simp;omega
   refine gf (a3 @e1 @e2 @e3) ?_
   exact .inl ⟨fun k=>by have:=k.2.1;omega,rfl⟩
  have e3:decide ((12:Int)<(r.bs.length:Int))=false:=by simp;omega
  have h0:0<r.bs.length:=by omega
  have h0':((0:Int)<(r.bs.length:Int))=True:=eq_true (by omega)
  have hx0:=zG (f:=Br.c) [] h0
  by_cases h4:r.bs[0].name=zcQ
  case neg=>
   have e4:decide (r.bs[0].name=zcQ)=false:=by simp [h4]
   refine gf (a7 @e1 @e2 @e3 @h0 @h0' @hx0 @e4) ?_
   exact .inl ⟨fun k=>by obtain ⟨_,_,⟨h,q⟩,_⟩:=k;exact h4 q,rfl⟩
  have e4:decide (r.bs[0].name=zcQ)=true:=by simp [h4]
  obtain ⟨hv1,hv2⟩:=za3 (K:=fun b=>b=true→p.preds.length≤1048576) ((mL p hp hle).mono (by rintro v ⟨b,rfl,h⟩;exact ⟨b,rfl,fun hb=>by have:=(h hb).1.pl;omega⟩))
  refine gf (a7 @e1 @e2 @e3 @h0 @h0' @hx0 @e4) ?_
  (refine g1f (a7 @e1 @e2 @e3 @h0 @h0' @hx0 @e4) ?_;refine zC (hv1.call zK (by simp [zJ]) _) ?_;intro p2 h2 hr2;refine g2 ?_)
  obtain ⟨rfl,rfl⟩:=hr2
  have hvd:vlF p=znY 40 [.agg p.c] (fun b=>b=true→p.preds.length≤1048576):=rfl
  rw [←hvd] at hv2
  rw [←hvd]
  cases hvp:vlF p with
  |false=>
   refine gf @e1 ?_
   exact .inl ⟨fun k=>Bool.noConfusion (hvp.symm.trans k.2.2.2.1),rfl⟩
  | true=>
   have hpl:=hv2 hvp
   refine gf @e1 ?_
   refine zO r.bs.length (K4 (D4 (K9 (K9 (K9 (K4 (.k:: .v::D9 (D9 (D9 (.d:: .d:: .d::K4 (.k::[]))))))))))) (own:=false) (fun i (_:Heap)=>[i64 i]) (fun J=> .var 27 p.c:: .var 31 r.c::J) (fun i _=> ∀ (j:Nat) (h:j<r.bs.length),j<i→zkX r j r.bs[j]=true) [] rfl rfl (fun j _ hj=>absurd hj (Nat.not_lt_zero _)) (by omega) ?_ ?_
   ·rintro J hI
    refine gm ?_
    have hbr:iY p r:=⟨by omega,by omega,⟨h0,h4⟩,hvp,fun i h=>hI i h h⟩
    obtain ⟨a,b,hst⟩: ∃ a b,znW (eF p r.cs)= .tup [a,bo b]:=by
     cases eF p r.cs with
     |none=>exact ⟨_,_,rfl⟩
     |some l=>exact ⟨_,_,rfl⟩
    refine gf @zM ?_
    (refine g1 ?_;refine zC ((zc3 p hpl ha r hr).call zK (by simp [zJ]) _) ?_;intro p2 h2 hr2;refine g2 ?_)
    obtain ⟨rfl,rfl⟩:=hr2
    rw [hst]
    refine ge ?_
    exact .inr ⟨hbr,rfl⟩
   ·rintro i J hi hw hI
    refine gm ?_
    have hx:=zG (f:=Br.c) [] hi
    have hxo:=hr.b _ (List.getElem_mem hi)
    have next:zkX r i r.bs[i]=true→ ∀ (j:Nat) (h:j<r.bs.length),j<i+1→zkX r j r.bs[j]=true:=fun q j h hj=>by
     rcases Nat.lt_or_ge j i with hji|hji
     ·exact hI j h hji
     ·have:j=i:=by omega
      subst this;exact q
    have bad:zkX r i r.bs[i]=false→ ¬iY p r:=fun q k=>by have:=k.2.2.2.2 i hi;rw [q] at this;cases this
    generalize r.bs[i]=x at*
    have hnm:=(za3 (cS x.name hxo)).1
    refine gf (a6 @hi @hx @hw @zB @zA @zD) ?_
    (refine g1f (a6 @hi @hx @hw @zB @zA @zD) ?_;refine zC (hnm.call zK (by simp) _) ?_;intro p2 h2 hr2;refine g2 ?_)
    obtain ⟨rfl,rfl⟩:=hr2
    have hnd:nmF x.name=znY 45 [yQ x.name] (fun _=>True):=rfl
    rw [←hnd]
    cases h5:nmF x.name with
    |false=>
     refine gf (a6 @hi @hx @hw @zB @zA @zD) ?_
     exact .inl ⟨bad (by simp [zkX,h5]),rfl⟩
    | true=>
     refine gf (a6 @hi @hx @hw @zB @zA @zD) ?_
     (refine g1f (a6 @hi @hx @hw @zB @zA @zD) ?_;refine zC ((mR r (by omega) x.name).call zK (by simp [zJ]) _) ?_;intro p2 h2 hr2;refine g2 ?_)
     obtain ⟨rfl,rfl⟩:=hr2
     generalize hix:rV (kN x.name) r.bs=ix at*
     by_cases h6:ix=i
     case neg=>
      have e6:(ix !=(i:Int))=true:=by simp [h6]
      refine gf (a7 @hi @hx @hw @zB @zA @zD @e6) ?_
      exact .inl ⟨bad (by simp [zkX,h5,hix,h6]),rfl⟩
     have e6:(ix !=(i:Int))=false:=by simp [h6]
     by_cases h7:x.last< -1
     ·have e7:decide (x.last< -1)=true:=by simp [h7]
      refine gf (a8 @hi @hx @hw @zB @zA @zD @e6 @e7) ?_
      exact .inl ⟨bad (by simp [zkX,h7]),rfl⟩
     have e7:decide (x.last< -1)=false:=by simp;omega
     by_cases h8:(r.cs.length:Int)≤x.last
     ·have e8:decide ((r.cs.length:Int)≤x.last)=true:=by simp [h8]
      refine gf (a9 @hi @hx @hw @zB @zA @zD @e6 @e7 @e8) ?_
      exact .inl ⟨bad (by simp [zkX,h8]),rfl⟩
     ·have e8:decide ((r.cs.length:Int)≤x.last)=false:=by simp;omega
      refine gf (a9 @hi @hx @hw @zB @zA @zD @e6 @e7 @e8) ?_
      exact ⟨J++[.var 40 x.c],next (by simp [zkX,h5,hix,h6,e7,e8]),rfl,rfl,rfl⟩
 ·rintro v h (⟨hb,rfl⟩|⟨hb,rfl⟩)
  ·have e:zh8 p r=none:=by unfold zh8;rw [if_neg hb]
   rw [e]
   exact ⟨_,by rw [zlG 39,List.map_cons,List.map_cons,List.map_nil,fzN 38,ziD 38];exact PLes.tup (.cons (PLe.nil_ts 2) (.cons (PLe.refl _) .nil)),rfl,yP 40 _ rfl⟩
  ·have e:zh8 p r=eF p r.cs:=by unfold zh8;rw [if_pos hb]
   rw [e]
   have htb:zU 40 (znW (eF p r.cs))=true:=by
    cases eF p r.cs with
    |none=>rfl
    |some l=>exact (show ([dts l,bo true].all (zU 39))=true by rw [List.all_cons,zaL 33 l];rfl)
   exact ⟨_,by rw [vE 0 h 40 _ htb];exact PLe.refl _,rfl,yP 40 _ htb⟩
end Go.AL
