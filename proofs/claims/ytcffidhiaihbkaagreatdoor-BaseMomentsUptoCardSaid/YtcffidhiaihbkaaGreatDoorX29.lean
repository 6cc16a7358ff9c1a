/-
  Programs: classes of variables.
-/
import Derived.Test.YtcffidhiaihbkaaGreatDoorX28
set_option linter.unusedSimpArgs false
set_option linter.unusedVariables false
set_option maxRecDepth 100000
set_option maxHeartbeats 4000000
namespace Go.AL
open Go.Proofs Go.Proofs.Tryz
@[go_sem] def UTyp9f121.pl:Nat→DPlan
 |4=>⟨[yA,yA,yA,yA,yB,yA,yA,yA,yB,yC,yA,yA,yC],yN,0⟩
 |7=>⟨[yA,yA,yA,yA,yE,yA,yA,yA,yE,yA,yE,vC,yC],yN,1⟩
 |10=>⟨[yB,yA,yA,yA,yB,yC,yA],tV,0⟩
 |13=>⟨[yA,yA,yA,yA,yB,yA,yA,yB,yA,yA],xS,0⟩
 |17=>⟨[yA,yA,yA,yB,yA,yA,yA,yA,yB,yC,yA,yA,yA,yC],wS,0⟩
 |21=>⟨[yA,yA,yA,yA,yB,yA,yA,yA,yA,yB,yC,yA,yA,yA,yC],yG,0⟩
 |24=>⟨[yA,yA,yA,yA,yB,yA,yA,yA,yA,yB,yA,yA,yB,yA,yB,yA],xE,0⟩
 |_=>⟨[],[],0⟩
theorem GrowN.vec {off:Nat} {t:TypeId} {els:List (List PV)} {k:Nat} {J:Heap} {V:PV} (h:GrowN off t els k J V) (h0:0<els.length): ∃ q,V= .vec (q+off) k els∧J[q]? =some (.vec t k els.length):=by
 rcases h with ⟨h,_⟩|h
 ·subst h;simp at h0
 ·exact h
theorem zb2 (b0 b1:Blk) (pc:List PV) (ml mf mp:NM) (L F P R Rep:PV) (J:Heap) (lats:List La) (hl: ∀ x∈lats,x.ok) (hll:lats.length≤140737488355328) (hG:GrowN 7 73 (lats.map La.c) 4 J L) (i:Nat) (hi:i<lats.length) (s:BA):
  ECall prog G0 162 [.ptr 6 0,i64 i,yQ s] (SH b0 b1 pc ml mf mp L F P R Rep J) fun p h'=>(∃ n:Int,p=i64 n∧ -1≤n∧n<lats[i].elems.length)∧h'=SH b0 b1 pc ml mf mp L F P R Rep J:=by
 refine pv func162 18 false (by kernel_rfl) rfl rfl ?_
 refine g2 ?_
 obtain ⟨q,rfl,hq⟩:=hG.vec (by simp;omega)
 have hx:=zG (f:=La.c) [] hi
 have hxo:=hl _ (List.getElem_mem hi)
 refine gf (a3 @hi @hx @zB) ?_
 (refine g1f (a3 @hi @hx @zB) ?_;refine zC ((qH lats[i].elems s hxo.e).call zK (by simp) _) ?_;intro p2 h2 hr2;refine g2 ?_)
 obtain ⟨⟨n,rfl,h1,h2⟩,rfl⟩:=hr2
 refine ge ?_
 exact ⟨⟨n,rfl,h1,h2⟩,rfl⟩
def But (q:Nat) (J J':Heap):Prop:= ∀ (r:Nat) (b:Blk),r≠q→J[r]? =some b→J'[r]? =some b
theorem But.grow {q:Nat} {J J':Heap} (h:But q J J') {t:TypeId} {els:List (List PV)} {k:Nat} {V:PV} {b:Blk} (hq:J[q]? =some b) (hb: ∀ k n,b≠ .vec t k n) (hG:GrowN 7 t els k J V):GrowN 7 t els k J' V:=by
 rcases hG with hG|⟨q',h1,hq'⟩
 ·exact .inl hG
 ·exact .inr ⟨q',h1,h q' _ (fun e=>by subst e;rw [hq] at hq';cases hq';exact hb _ _ rfl) hq'⟩
structure Sc (lats:List La) (fs:List (Fu×PV)) (ps:List Pd) (ml mf mp:NM) (L F P:PV) (J:Heap):Prop where
 lo: ∀ x∈lats,x.ok
 ll:lats.length≤4
 l:GrowN 7 73 (lats.map La.c) 4 J L
 f:GrowN 7 109 (fs.map Fu.c2) 7 J F
 fl:fs.length≤8
 p:GrowN 7 59 (ps.map Pd.c) 7 J P
 pl:ps.length≤24
 pb: ∀ x∈ps, -1≤x.of'∧x.of'<lats.length∧x.types.length≤4
 ml:NMap ml lats.length
 mf:NMap mf fs.length
 mp:NMap mp ps.length
abbrev RuC (x:Ru) (B:PV):List PV:=[yQ x.name,i64 x.pred,mI x.args,i64 x.elem.kind,yQ x.elem.name,yQ x.elem.var,i64 x.elem.ix,B,i64 x.at']
open UTyp9f121 in
theorem zjI (b0 b1:Blk) (pc:List PV) (ml mf mp:NM) (L F P R Rep:PV) (J:Heap) (lats:List La) (fs:List (Fu×PV)) (ps:List Pd) (hS:Sc lats fs ps ml mf mp L F P J) (q:Nat) (x:Ru) (B:PV) (hq:J[q]? =some (.var 117 (RuC x B))) (hx:x.args.length≤4):
  ECall prog G0 121 [.ptr 6 0,.ptr (q+7) 0] (SH b0 b1 pc ml mf mp L F P R Rep J) fun p h'=> ∃ (e pd ix:Int) (J':Heap),p=i64 e∧h'=SH b0 b1 pc ml mf mp L F P R Rep J'∧But q J J'∧J'[q]? =some (.var 117 (RuC {x with pred:=pd,elem:={x.elem with ix:=ix}} B))∧
   (e=0→(pd= -1∧x.name=eS)∨ ∃ i:Nat,pd=i∧ ∃ h:i<ps.length,x.args.length=ps[i].types.length):=by
 refine pv func121 132 false (by kernel_rfl) rfl rfl ?_
 refine g2 ?_
 have hqlt:q<J.length:=(gsi hq).1
 obtain ⟨name,pred,args,⟨ek,en,ev,ei⟩,body,at'⟩:=x
 dsimp only at*
 have hqs: ∀ b,(J.set q b)[q]? =some b:=fun b=>List.getElem?_set_self hqlt
 by_cases hn:name=eS
 ·subst hn
  (repeat (first|refine gz ?_|(refine gn ?_;intro zs zh;(try simp only [go_sem,hq,hqs,List.set_set] at zh);subst zh;refine gv ?_)|refine yD UTyp9f121.pl ?_))
  exact ⟨0, -1, -1,_,rfl,rfl,fun r b hr hb=>by rw [List.getElem?_set_ne (Ne.symm hr)];exact hb,hqs _,fun _=> .inl ⟨rfl,rfl⟩⟩
 ·(repeat (first|refine gz ?_|(refine gn ?_;intro zs zh;(try simp only [go_sem,hq,hqs,hn,List.set_set] at zh);subst zh;refine gv ?_)|refine yD UTyp9f121.pl ?_))
  (refine zF rfl rfl rfl ?_;intro zs zh;simp only [go_sem,hq,hqs,hn,List.set_set] at zh;subst zh;refine zP (by decide) (by decide) (lE _ 5 mp ps.length name rfl hS.mp) ?_;intro p2 h2 hr2 ts2 hts;simp only [go_sem] at hts;subst hts)
  obtain ⟨pd,rfl,hp1,hp2,rfl⟩:=hr2
  have hqs2: ∀ b,((J.set q b)++[.non])[q]? =some b:=fun b=>by rw [List.getElem?_append_left (by simpa using hqlt)];exact hqs b
  by_cases hp0:pd<0
  ·have e1:decide (pd<0)=true:=by simp [hp0]
   (repeat (first|refine gz ?_|(refine gn ?_;intro zs zh;(try simp only [go_sem,hq,hqs,hn,List.set_set,e1] at zh);subst zh;refine gv ?_)|refine yD UTyp9f121.pl ?_))
   exact ⟨70,pd, -1,_,rfl,rfl,fun r b hr hb=>by rw [List.getElem?_set_ne (Ne.symm hr)];exact hb,hqs _,fun h=>by omega⟩
  ·have e1:decide (pd<0)=false:=by simp;omega
   obtain ⟨i,rfl⟩:=Int.eq_ofNat_of_zero_le (show 0≤pd by omega)
   have hi:i<ps.length:=by omega
   obtain ⟨qp,rfl,hqp⟩:=hS.p.vec (by simp;omega)
   have hy:=zG (f:=Pd.c) [] hi
   obtain ⟨y,hye⟩: ∃ y,ps[i]=y:=⟨_,rfl⟩
   have hyb:=hS.pb _ (List.getElem_mem hi)
   rw [hye] at hy hyb
   obtain ⟨yn,yt,yl,yo,yb,yk,ya⟩:=y
   dsimp only at hyb
   (repeat (first|refine gz ?_|(refine gn ?_;intro zs zh;(try simp only [go_sem,hq,hqs,hqs2,hn,List.set_set,e1,hi,hy,zB,zA,zD] at zh);subst zh;refine gv ?_)|refine yD UTyp9f121.pl ?_))
   have h2q:(J.set q (.var 117 [yQ name,i64 i,mI args,i64 ek,yQ en,yQ ev,i64 (-1),B,i64 at'])++[.var 59 [yQ yn,vF yt,yQ yl,i64 yo,bo yb,i64 yk,i64 ya]])[q]? =some (.var 117 [yQ name,i64 i,mI args,i64 ek,yQ en,yQ ev,i64 (-1),B,i64 at']):=by rw [List.getElem?_append_left (by simpa using hqlt)];exact hqs _
   have h2y:=zA (J.set q (.var 117 [yQ name,i64 i,mI args,i64 ek,yQ en,yQ ev,i64 (-1),B,i64 at'])) (.var 59 [yQ yn,vF yt,yQ yl,i64 yo,bo yb,i64 yk,i64 ya])
   have h2k:But q J (J.set q (.var 117 [yQ name,i64 i,mI args,i64 ek,yQ en,yQ ev,i64 (-1),B,i64 at'])++[.var 59 [yQ yn,vF yt,yQ yl,i64 yo,bo yb,i64 yk,i64 ya]]):=fun r b hr hb=>by
    rw [List.getElem?_append_left (by simpa using (gsi hb).1),List.getElem?_set_ne (Ne.symm hr)];exact hb
   have hqy:q≠(J.set q (.var 117 [yQ name,i64 i,mI args,i64 ek,yQ en,yQ ev,i64 (-1),B,i64 at'])).length:=by rw [List.length_set];omega
   generalize J.set q (.var 117 [yQ name,i64 i,mI args,i64 ek,yQ en,yQ ev,i64 (-1),B,i64 at'])++[.var 59 [yQ yn,vF yt,yQ yl,i64 yo,bo yb,i64 yk,i64 ya]]=J2 at*
   generalize (J.set q (.var 117 [yQ name,i64 i,mI args,i64 ek,yQ en,yQ ev,i64 (-1),B,i64 at'])).length=qy at*
   have hL2:=h2k.grow hq (by simp) hS.l
   have hF2:=h2k.grow hq (by simp) hS.f
   have h2lt:q<J2.length:=(gsi h2q).1
   have h2s: ∀ b,(J2.set q b)[q]? =some b:=fun b=>List.getElem?_set_self h2lt
   have h2t: ∀ b,(J2.set q b)[qy]? =some (.var 59 [yQ yn,vF yt,yQ yl,i64 yo,bo yb,i64 yk,i64 ya]):=fun b=>by rw [List.getElem?_set_ne hqy];exact h2y
   have h2b: ∀ b,But q J (J2.set q b):=fun b r c hr hc=>by rw [List.getElem?_set_ne (Ne.symm hr)];exact h2k r c hr hc
   clear hqs hqs2 hq
   have fin: ∀ (e:Int),e≠0→ ∃ (e' pd ix:Int) (J':Heap),i64 e=i64 e'∧SH b0 b1 pc ml mf mp L F (.vec (qp+7) 7 (ps.map Pd.c)) R Rep J2=SH b0 b1 pc ml mf mp L F (.vec (qp+7) 7 (ps.map Pd.c)) R Rep J'∧But q J J'∧J'[q]? =some (.var 117 [yQ name,i64 pd,mI args,i64 ek,yQ en,yQ ev,i64 ix,B,i64 at'])∧
     (e'=0→(pd= -1∧name=eS)∨ ∃ i:Nat,pd=i∧ ∃ h:i<ps.length,args.length=ps[i].types.length):=fun e he=>⟨e,i, -1,J2,rfl,rfl,h2k,h2q,fun h=>absurd h he⟩
   cases yb with
   |true=>
    refine gf (a2 @h2q @h2y) ?_
    exact fin 73 (by decide)
   | false=>
    refine gf (a2 @h2q @h2y) ?_
    (refine zF rfl rfl rfl ?_;intro zs zh;simp only [go_sem,h2q,h2y] at zh;subst zh;refine zP (by decide) (by decide) ((zcB ⟨yn,yt,yl,yo,false,yk,ya⟩ args (by omega) (by dsimp only;omega)).call zK (by simp [zJ]) _) ?_;intro p2 h2 hr2 ts2 hts;simp only [go_sem] at hts;subst hts)
    obtain ⟨⟨e,rfl,he⟩,rfl⟩:=hr2
    by_cases he0:e=0
    ·subst he0
     have he:=he rfl
     dsimp only at he
     have e2:((0:Int)!=0)=false:=rfl
     have okk:(i:Int)= -1∧name=eS∨ ∃ j:Nat,(i:Int)=j∧ ∃ h:j<ps.length,args.length=ps[j].types.length:= .inr ⟨i,rfl,hi,by rw [hye];exact he⟩
     have fin2: ∀ (e ix:Int),e≠0∨((i:Int)= -1∧name=eS∨ ∃ j:Nat,(i:Int)=j∧ ∃ h:j<ps.length,args.length=ps[j].types.length)→ ∃ (e' pd ix':Int) (J':Heap),i64 e=i64 e'∧SH b0 b1 pc ml mf mp L F (.vec (qp+7) 7 (ps.map Pd.c)) R Rep (J2.set q (.var 117 [yQ name,i64 i,mI args,i64 ek,yQ en,yQ ev,i64 ix,B,i64 at']))=SH b0 b1 pc ml mf mp L F (.vec (qp+7) 7 (ps.map Pd.c)) R Rep J'∧But q J J'∧J'[q]? =some (.var 117 [yQ name,i64 pd,mI args,i64 ek,yQ en,yQ ev,i64 ix',B,i64 at'])∧
       (e'=0→(pd= -1∧name=eS)∨ ∃ i:Nat,pd=i∧ ∃ h:i<ps.length,args.length=ps[i].types.length):=fun e ix h=>⟨e,i,ix,_,rfl,rfl,h2b _,h2s _,fun h0=>h.resolve_left (fun k=>k h0)⟩
     by_cases hk0:((ek==0)!=decide (yo<0))=true
     ·refine gf (a4 @h2q @h2y @e2 @hk0) ?_
      exact fin 72 (by decide)
     ·simp only [Bool.not_eq_true] at hk0
      by_cases hk1:ek=1
      ·subst hk1
       have hyo:0≤yo:=by simp at hk0;omega
       obtain ⟨yo,rfl⟩:=Int.eq_ofNat_of_zero_le hyo
       refine gf (a4 @h2q @h2y @e2 @hk0) ?_
       (refine zF rfl rfl rfl ?_;intro zs zh;simp only [go_sem,h2q,h2y,e2,hk0] at zh;subst zh;refine zP (by decide) (by decide) (zb2 b0 b1 pc ml mf mp L F (.vec (qp+7) 7 (ps.map Pd.c)) R Rep J2 lats hS.lo (by have:=hS.ll;omega) hL2 yo (by omega) en) ?_;intro p2 h2 hr2 ts2 hts;simp only [go_sem] at hts;subst hts)
       obtain ⟨⟨ix,rfl,hx1,hx2⟩,rfl⟩:=hr2
       by_cases hix:ix<0
       ·have e3:decide (ix<0)=true:=by simp [hix]
        refine gf (a4 @h2q @h2y @h2s @e3) ?_
        exact fin2 70 ix (.inl (by decide))
       ·have e3:decide (ix<0)=false:=by simp;omega
        refine gf (a4 @h2q @h2y @h2s @e3) ?_
        exact fin2 0 ix (.inr okk)
      ·have e4:(ek==1)=false:=by simp [hk1]
       by_cases hk3:ek=3
       ·subst hk3
        refine gf (a5 @h2q @h2y @e2 @hk0 @e4) ?_
        (refine zF rfl rfl rfl ?_;intro zs zh;simp only [go_sem,h2q,h2y,e2,hk0] at zh;subst zh;refine zP (by decide) (by decide) (lE _ 4 mf fs.length en rfl hS.mf) ?_;intro p2 h2 hr2 ts2 hts;simp only [go_sem] at hts;subst hts)
        obtain ⟨ix,rfl,hx1,hx2,rfl⟩:=hr2
        by_cases hix:ix<0
        ·have e3:decide (ix<0)=true:=by simp [hix]
         refine gf (a4 @h2q @h2y @h2s @e3) ?_
         exact fin2 70 ix (.inl (by decide))
        ·have e3:decide (ix<0)=false:=by simp;omega
         obtain ⟨ix,rfl⟩:=Int.eq_ofNat_of_zero_le (show 0≤ix by omega)
         have hfx:ix<fs.length:=by omega
         obtain ⟨qf,rfl,hqf⟩:=hF2.vec (by simp;omega)
         have hfy:=zG (f:=Fu.c2) [] hfx
         by_cases hof:fs[ix].1.of'=yo
         ·have e5:(fs[ix].1.of' !=yo)=false:=by simp [hof]
          refine gf (a9 @h2q @h2y @h2s @h2t @e3 @hfx @hfy @zB @e5) ?_
          exact fin2 0 ix (.inr okk)
         ·have e5:(fs[ix].1.of' !=yo)=true:=by simp [hof]
          refine gf (a9 @h2q @h2y @h2s @h2t @e3 @hfx @hfy @zB @e5) ?_
          exact fin2 72 ix (.inl (by decide))
       ·have e5:(ek==3)=false:=by simp [hk3]
        refine gf (a6 @h2q @h2y @e2 @hk0 @e4 @e5) ?_
        exact ⟨0,i, -1,J2,rfl,rfl,h2k,h2q,fun _=>okk⟩
    ·have e2:(e !=0)=true:=by simp [he0]
     refine gf (a3 @h2q @h2y @e2) ?_
     exact fin e he0
end Go.AL
namespace Go.AL
open Go.Proofs Go.Proofs.Tryz
@[go_sem] def UTyp10f122.pl:Nat→DPlan
 |3=>⟨[yA,yA,yA,⟨1,0,[0,1,0]⟩,yA,⟨1,0,[0,1,0]⟩,yA,yA,yA,⟨1,0,[0,1,0]⟩,yA,⟨1,0,[0,1,0]⟩,vC,⟨2,1,[]⟩,⟨5,0,[]⟩,yC],xE,2⟩
 |7=>⟨[yA,yA,yA,yA,yB,yA,yA,yA,yB,yC,yA,yA,yC],yN,0⟩
 |10=>⟨[yA,yA,yA,yA,yE,yA,yA,yA,yE,yA,yE,vC,yC],yN,1⟩
 |11=>⟨[yB,yA,yA,yA,yB,yC,yA],tV,0⟩
 |17=>⟨[yA,yA,yA,yB,yA,yA,yA,yB,yC,yA,yA,yC],xF,0⟩
 |20=>⟨[yA,yA,yA,⟨7,0,[1001]⟩,yA,yA,yA,yA,yB,yA,yB,yA,yB,⟨6,0,[1001]⟩,yA],yG,0⟩
 |_=>⟨[],[],0⟩
attribute [-go_sem] only
theorem iJ {α:Type} {pre:List α} {n:Nat} (hn:pre.length=n) (ys:List α) (k:Nat):(pre++ys).drop (n+k)=ys.drop k:=by subst hn;rw [List.drop_append];simp
theorem iA {α:Type} {pre:List α} {n:Nat} (hn:pre.length=n) (ys:List α) (k:Nat):(pre++ys).take (n+k)=pre++ys.take k:=by subst hn;rw [List.take_append,List.take_of_length_le (by omega)];simp
theorem lT {α:Type} {pre:List α} {n:Nat} (hn:pre.length=n) (ys:List α):(pre++ys).drop n=ys:=by subst hn;simp
theorem tI {α:Type} (X l:List α) (b:α):(X++l).set X.length b=X++l.set 0 b:=by rw [List.set_append_right _ _ (Nat.le_refl _)];simp
theorem tH {α:Type} (X l:List α) (k:Nat) (b:α):(X++l).set (X.length+k) b=X++l.set k b:=by rw [List.set_append_right _ _ (by omega)];simp
theorem xY {α:Type} (X l:List α):(X++l)[X.length]? =l[0]? :=by rw [List.getElem?_append_right (Nat.le_refl _)];simp
theorem xN {α:Type} (X l:List α) (k:Nat):(X++l)[X.length+k]? =l[k]? :=by rw [List.getElem?_append_right (by omega)];simp
def LitK (ps:List Pd) (x:Li) (pd:Int):Prop:=(x.kind=5∧pd= -1)∨(x.kind≠5∧ ∃ i:Nat,pd=i∧ ∃ h:i<ps.length,x.args.length=ps[i].types.length)
open UTyp10f122 in
theorem aM (b0 b1:Blk) (pc:List PV) (ml mf mp:NM) (L F P R Rep:PV) (J:Heap) (lats:List La) (fs:List (Fu×PV)) (ps:List Pd) (hS:Sc lats fs ps ml mf mp L F P J) (q n:Nat) (T:TypeId) (pre suf:List PV) (hn:pre.length=n) (x:Li) (hx:x.fm)
  (hq:J[q]? =some (.var T (pre++(x.c++suf)))):
  ECall prog G0 122 [.ptr 6 0,.ptr (q+7) n] (SH b0 b1 pc ml mf mp L F P R Rep J) fun p h'=> ∃ (e pd ls:Int) (J':Heap),p=i64 e∧h'=SH b0 b1 pc ml mf mp L F P R Rep J'∧But q J J'∧J'[q]? =some (.var T (pre++(Li.c {x with pred:=pd,least:=ls}++suf)))∧(e=0→LitK ps x pd):=by
 refine pv func122 139 false (by kernel_rfl) rfl rfl ?_
 refine g2 ?_
 have hqlt:q<J.length:=(gsi hq).1
 obtain ⟨hxa,hxc,hxb⟩:=hx
 obtain ⟨kind,name,pred,args,bind,elem,least,op,at'⟩:=x
 dsimp only at*
 simp only [List.cons_append,List.nil_append] at hq
 have hqs: ∀ b,(J.set q b)[q]? =some b:=fun b=>List.getElem?_set_self hqlt
 have d1:=fun ys k=>iJ hn ys k
 have d2:=fun ys k=>iA hn ys k
 have d3:=fun ys=>lT hn ys
 have d4: ∀ ys j k,(pre++ys).drop (n+j+k)=ys.drop (j+k):=fun ys j k=>by rw [Nat.add_assoc];exact d1 ys _
 have kb: ∀ b,But q J (J.set q b):=fun b r c hr hc=>by rw [List.getElem?_set_ne (Ne.symm hr)];exact hc
 by_cases hk:kind=5
 ·subst hk
  have hl2:=hxc rfl
  obtain ⟨a,b,rfl⟩: ∃ a b,args=[a,b]:=by
   match args,hl2 with
   | [a,b],_=>exact ⟨a,b,rfl⟩
  have hqs2: ∀ b c,((J.set q b)++[c])[q]? =some b:=fun b c=>by rw [List.getElem?_append_left (by simpa using hqlt)];exact hqs b
  have hqs3: ∀ b c d,((J.set q b)++[c,d])[q]? =some b:=fun b c d=>by rw [List.getElem?_append_left (by simpa using hqlt)];exact hqs b
  obtain ⟨va,⟨ta,na,sa⟩⟩:=a
  obtain ⟨vb,⟨tb,nb,sb⟩⟩:=b
  have kb2: ∀ b l,But q J (J.set q b++l):=fun b l r c hr hc=>by rw [List.getElem?_append_left (by simpa using (gsi hc).1)];exact kb b r c hr hc
  by_cases ha:va=eS
  ·subst ha
   by_cases hb:vb=eS
   ·subst hb
    by_cases ht:ta=tb
    ·have e1:(ta !=tb)=false:=by simp [ht]
     (repeat (first|refine gz ?_|(refine gn ?_;intro zs zh;(try simp only [go_sem,hq,hqs,hn,d1,d2,d3,d4,List.set_set,tI,tH,xY,xN,hqs2,hqs3,e1] at zh);subst zh;refine gv ?_)|refine yD UTyp10f122.pl ?_))
     exact ⟨0, -1, -1,_,rfl,rfl,kb2 _ _,hqs3 _ _ _,fun _=> .inl ⟨rfl,rfl⟩⟩
    ·have e1:(ta !=tb)=true:=by simp [ht]
     (repeat (first|refine gz ?_|(refine gn ?_;intro zs zh;(try simp only [go_sem,hq,hqs,hn,d1,d2,d3,d4,List.set_set,tI,tH,xY,xN,hqs2,hqs3,e1] at zh);subst zh;refine gv ?_)|refine yD UTyp10f122.pl ?_))
     exact ⟨72, -1, -1,_,rfl,rfl,kb2 _ _,hqs3 _ _ _,fun _=> .inl ⟨rfl,rfl⟩⟩
   ·(repeat (first|refine gz ?_|(refine gn ?_;intro zs zh;(try simp only [go_sem,hq,hqs,hn,d1,d2,d3,d4,List.set_set,tI,tH,xY,xN,hqs2,hqs3,hb] at zh);subst zh;refine gv ?_)|refine yD UTyp10f122.pl ?_))
    exact ⟨0, -1, -1,_,rfl,rfl,kb2 _ _,hqs3 _ _ _,fun _=> .inl ⟨rfl,rfl⟩⟩
  ·(repeat (first|refine gz ?_|(refine gn ?_;intro zs zh;(try simp only [go_sem,hq,hqs,hn,d1,d2,d3,d4,List.set_set,tI,tH,xY,xN,hqs2,hqs3,ha] at zh);subst zh;refine gv ?_)|refine yD UTyp10f122.pl ?_))
   exact ⟨0, -1, -1,_,rfl,rfl,kb2 _ _,hqs3 _ _ _,fun _=> .inl ⟨rfl,rfl⟩⟩
 ·have e0:(kind==5)=false:=by simp [hk]
  (repeat (first|refine gz ?_|(refine gn ?_;intro zs zh;(try simp only [go_sem,hq,hqs,hn,d1,d2,d3,d4,List.set_set,tI,tH,xY,xN,e0] at zh);subst zh;refine gv ?_)|refine yD UTyp10f122.pl ?_))
  (refine zF rfl rfl rfl ?_;intro zs zh;simp only [go_sem,hq,hqs,hn,d1,d2,d3,d4,List.set_set,tI,tH,xY,xN,e0] at zh;subst zh;refine zP (by decide) (by decide) (lE _ 5 mp ps.length name rfl hS.mp) ?_;intro p2 h2 hr2 ts2 hts;simp only [go_sem] at hts;subst hts)
  obtain ⟨pd,rfl,hp1,hp2,rfl⟩:=hr2
  by_cases hp0:pd<0
  ·have e1:decide (pd<0)=true:=by simp [hp0]
   (repeat (first|refine gz ?_|(refine gn ?_;intro zs zh;(try simp only [go_sem,hq,hqs,hn,d1,d2,d3,d4,List.set_set,tI,tH,xY,xN,e1] at zh);subst zh;refine gv ?_)|refine yD UTyp10f122.pl ?_))
   exact ⟨70,pd, -1,_,rfl,rfl,kb _,hqs _,fun h=>by omega⟩
  ·have e1:decide (pd<0)=false:=by simp;omega
   obtain ⟨i,rfl⟩:=Int.eq_ofNat_of_zero_le (show 0≤pd by omega)
   have hi:i<ps.length:=by omega
   obtain ⟨qp,rfl,hqp⟩:=hS.p.vec (by simp;omega)
   have hy:=zG (f:=Pd.c) [] hi
   obtain ⟨y,hye⟩: ∃ y,ps[i]=y:=⟨_,rfl⟩
   have hyb:=hS.pb _ (List.getElem_mem hi)
   rw [hye] at hy hyb
   obtain ⟨yn,yt,yl,yo,yb,yk,ya⟩:=y
   dsimp only at hyb
   have hqs2: ∀ b,((J.set q b)++[.non])[q]? =some b:=fun b=>by rw [List.getElem?_append_left (by simpa using hqlt)];exact hqs b
   (repeat (first|refine gz ?_|(refine gn ?_;intro zs zh;(try simp only [go_sem,hq,hqs,hn,d1,d2,d3,d4,List.set_set,tI,tH,xY,xN,hqs2,e1,hi,hy,zB] at zh);subst zh;refine gv ?_)|refine yD UTyp10f122.pl ?_))
   have h2q:(J.set q (.var T (pre++(i64 kind::yQ name::i64 i::mI args::yQ bind::yQ elem::i64 (-1)::i64 op::i64 at'::suf)))++[(.var 59 [yQ yn,vF yt,yQ yl,i64 yo,bo yb,i64 yk,i64 ya])])[q]? =some (.var T (pre++(i64 kind::yQ name::i64 i::mI args::yQ bind::yQ elem::i64 (-1)::i64 op::i64 at'::suf))):=by rw [List.getElem?_append_left (by simpa using hqlt)];exact hqs _
   have h2y:=zA (J.set q (.var T (pre++(i64 kind::yQ name::i64 i::mI args::yQ bind::yQ elem::i64 (-1)::i64 op::i64 at'::suf)))) (.var 59 [yQ yn,vF yt,yQ yl,i64 yo,bo yb,i64 yk,i64 ya])
   have h2k:But q J (J.set q (.var T (pre++(i64 kind::yQ name::i64 i::mI args::yQ bind::yQ elem::i64 (-1)::i64 op::i64 at'::suf)))++[(.var 59 [yQ yn,vF yt,yQ yl,i64 yo,bo yb,i64 yk,i64 ya])]):=fun r b hr hb=>by
    rw [List.getElem?_append_left (by simpa using (gsi hb).1),List.getElem?_set_ne (Ne.symm hr)];exact hb
   have hqy:q≠(J.set q (.var T (pre++(i64 kind::yQ name::i64 i::mI args::yQ bind::yQ elem::i64 (-1)::i64 op::i64 at'::suf)))).length:=by rw [List.length_set];omega
   generalize J.set q (.var T (pre++(i64 kind::yQ name::i64 i::mI args::yQ bind::yQ elem::i64 (-1)::i64 op::i64 at'::suf)))++[(.var 59 [yQ yn,vF yt,yQ yl,i64 yo,bo yb,i64 yk,i64 ya])]=J2 at*
   generalize (J.set q (.var T (pre++(i64 kind::yQ name::i64 i::mI args::yQ bind::yQ elem::i64 (-1)::i64 op::i64 at'::suf)))).length=qy at*
   have hL2:=h2k.grow hq (by simp) hS.l
   have h2lt:q<J2.length:=(gsi h2q).1
   have h2s: ∀ b,(J2.set q b)[q]? =some b:=fun b=>List.getElem?_set_self h2lt
   have h2t: ∀ b,(J2.set q b)[qy]? =some (.var 59 [yQ yn,vF yt,yQ yl,i64 yo,bo yb,i64 yk,i64 ya]):=fun b=>by rw [List.getElem?_set_ne hqy];exact h2y
   have h2b: ∀ b,But q J (J2.set q b):=fun b r c hr hc=>by rw [List.getElem?_set_ne (Ne.symm hr)];exact h2k r c hr hc
   clear hqs hqs2 kb
   have fin: ∀ (e:Int),e≠0→ ∃ (e' pd l2:Int) (J':Heap),i64 e=i64 e'∧SH b0 b1 pc ml mf mp L F (.vec (qp+7) 7 (ps.map Pd.c)) R Rep J2=SH b0 b1 pc ml mf mp L F (.vec (qp+7) 7 (ps.map Pd.c)) R Rep J'∧But q J J'∧J'[q]? =some (.var T (pre++(i64 kind::yQ name::i64 pd::mI args::yQ bind::yQ elem::i64 l2::i64 op::i64 at'::suf)))∧(e'=0→LitK ps ⟨kind,name,pred,args,bind,elem,least,op,at'⟩ pd):=fun e he=>⟨e,i, -1,J2,rfl,rfl,h2k,h2q,fun h=>absurd h he⟩
   refine gf (a9 @h2q @h2y @h2s @h2t @d1 @d2 @d3 @d4 @hn) ?_
   (refine zF rfl rfl rfl ?_;intro zs zh;simp only [go_sem,h2q,h2y,h2s,h2t,d1,d2,d3,d4,hn] at zh;subst zh;refine zP (by decide) (by decide) ((zcB ⟨yn,yt,yl,yo,yb,yk,ya⟩ args (by omega) (by dsimp only;omega)).call zK (by simp [zJ]) _) ?_;intro p2 h2 hr2 ts2 hts;simp only [go_sem] at hts;subst hts)
   obtain ⟨⟨e,rfl,he⟩,rfl⟩:=hr2
   by_cases he0:e=0
   ·subst he0
    have he:=he rfl
    dsimp only at he
    have e2:((0:Int)!=0)=false:=rfl
    have okk:LitK ps ⟨kind,name,pred,args,bind,elem,least,op,at'⟩ i:= .inr ⟨hk,i,rfl,hi,by rw [hye];exact he⟩
    have fin2: ∀ (e ls:Int),e≠0∨LitK ps ⟨kind,name,pred,args,bind,elem,least,op,at'⟩ i→ ∃ (e' pd l2:Int) (J':Heap),i64 e=i64 e'∧SH b0 b1 pc ml mf mp L F (.vec (qp+7) 7 (ps.map Pd.c)) R Rep (J2.set q (.var T (pre++(i64 kind::yQ name::i64 i::mI args::yQ bind::yQ elem::i64 ls::i64 op::i64 at'::suf))))=SH b0 b1 pc ml mf mp L F (.vec (qp+7) 7 (ps.map Pd.c)) R Rep J'∧But q J J'∧J'[q]? =some (.var T (pre++(i64 kind::yQ name::i64 pd::mI args::yQ bind::yQ elem::i64 l2::i64 op::i64 at'::suf)))∧(e'=0→LitK ps ⟨kind,name,pred,args,bind,elem,least,op,at'⟩ pd):=fun e ls h=>⟨e,i,ls,_,rfl,rfl,h2b _,h2s _,fun h0=>h.resolve_left (fun k=>k h0)⟩
    by_cases hyo:yo<0
    ·have e3:decide (yo<0)=true:=by simp [hyo]
     by_cases hbe:bind=eS
     ·by_cases hee:elem=eS
      ·subst hbe
       subst hee
       refine gf (a9 @h2q @h2y @h2s @h2t @d1 @d2 @d3 @d4 (a3 @hn @e2 @e3)) ?_
       exact ⟨0,i, -1,J2,rfl,rfl,h2k,h2q,fun _=>okk⟩
      ·subst hbe
       refine gf (a9 @h2q @h2y @h2s @h2t @d1 @d2 @d3 @d4 (a4 @hn @e2 @e3 @hee)) ?_
       exact fin 72 (by decide)
     ·refine gf (a9 @h2q @h2y @h2s @h2t @d1 @d2 @d3 @d4 (a4 @hn @e2 @e3 @hbe)) ?_
      exact fin 72 (by decide)
    ·have e3:decide (yo<0)=false:=by simp;omega
     obtain ⟨yo,rfl⟩:=Int.eq_ofNat_of_zero_le (show 0≤yo by omega)
     by_cases hee:elem=eS
     ·subst hee
      refine gf (a9 @h2q @h2y @h2s @h2t @d1 @d2 @d3 @d4 (a3 @hn @e2 @e3)) ?_
      exact ⟨0,i, -1,J2,rfl,rfl,h2k,h2q,fun _=>okk⟩
     ·refine gf (a9 @h2q @h2y @h2s @h2t @d1 @d2 @d3 @d4 (a4 @hn @e2 @e3 @hee)) ?_
      (refine zF rfl rfl rfl ?_;intro zs zh;simp only [go_sem,h2q,h2y,h2s,h2t,d1,d2,d3,d4,hn] at zh;subst zh;refine zP (by decide) (by decide) (zb2 b0 b1 pc ml mf mp L F (.vec (qp+7) 7 (ps.map Pd.c)) R Rep J2 lats hS.lo (by have:=hS.ll;omega) hL2 yo (by omega) elem) ?_;intro p2 h2 hr2 ts2 hts;simp only [go_sem] at hts;subst hts)
      obtain ⟨⟨ix,rfl,hx1,hx2⟩,rfl⟩:=hr2
      by_cases hix:ix<0
      ·have e4:decide (ix<0)=true:=by simp [hix]
       refine gf (a9 @h2q @h2y @h2s @h2t @d1 @d2 @d3 @d4 (a2 @hn @e4)) ?_
       exact fin2 70 ix (.inl (by decide))
      ·have e4:decide (ix<0)=false:=by simp;omega
       have hyl:yo<lats.length:=by omega
       obtain ⟨ql,rfl,hql⟩:=hL2.vec (by simp;omega)
       have hly:=zG (f:=La.c) [] hyl
       have hq7:(q+7<J2.length+1+1+1+1+1+1+1)=True:=by simp;omega
       (repeat (first|refine gz ?_|(refine gn ?_;intro zs zh;(try simp only [go_sem,h2q,h2y,h2s,h2t,d1,d2,d3,d4,hn,hq7,List.length_set,e4,hyl,hly,zB] at zh);subst zh;refine gv ?_)|refine yD UTyp10f122.pl ?_))
       (refine zF rfl rfl rfl ?_;intro sr hsr;simp only [go_sem,h2q,h2y,h2s,h2t,d1,d2,d3,d4,hn,hq7,List.length_set,e4,hyl,hly,zB] at hsr;subst hsr;refine xR rfl rfl ((qJ lats[yo] (hS.lo _ (List.getElem_mem hyl))).call zK (by simp [zJ]) _) (by rintro _ _ ⟨_,rfl⟩ _ _ _;rfl) ?_;intro p2 h2 hr2 ts2 hts;simp only [go_sem] at hts;subst hts)
       obtain ⟨⟨bt,rfl,hbt⟩,rfl⟩:=hr2
       by_cases hbb:ix=bt
       ·have e5:(ix==bt)=true:=by simp [hbb]
        (repeat (first|refine gz ?_|(refine gn ?_;intro zs zh;(try simp only [go_sem,h2q,h2y,h2s,h2t,d1,d2,d3,d4,hn,hq7,List.length_set,e4,hyl,hly,zB,e5] at zh);subst zh;refine gv ?_)|refine yD UTyp10f122.pl ?_))
        exact fin2 72 ix (.inl (by decide))
       ·have e5:(ix==bt)=false:=by simp [hbb]
        (repeat (first|refine gz ?_|(refine gn ?_;intro zs zh;(try simp only [go_sem,h2q,h2y,h2s,h2t,d1,d2,d3,d4,hn,hq7,List.length_set,e4,hyl,hly,zB,e5] at zh);subst zh;refine gv ?_)|refine yD UTyp10f122.pl ?_))
        exact fin2 0 ix (.inr okk)
   ·have e2:(e !=0)=true:=by simp [he0]
    refine gf (a9 @h2q @h2y @h2s @h2t @d1 @d2 @d3 @d4 (a2 @hn @e2)) ?_
    exact fin e he0
end Go.AL
namespace Go.AL
open Go.Proofs Go.Proofs.Tryz
@[go_sem] def UTyp11f164.pl:Nat→DPlan
 |4=>⟨[yA,yA,yA,yB,yA,yA,yA,yA,yA,yC,yA,yC,yA,yA,yA,yC],xE,0⟩
 |_=>⟨[],[],0⟩
attribute [-go_sem] only splice
def CC (qm:Nat) (cls:List Nat) (tys:List Int):List PV:= .mp qm::(cls.map (fun n:Nat=>i64 n)++tys.map fun n=>i64 n)
section
variable {qm:Nat} {cls:List Nat} {tys:List Int}
theorem rG (h1:cls.length=36) (h2:tys.length=36):(CC qm cls tys).length=73:=by simp [CC,h1,h2]
theorem kE:(CC qm cls tys).getD 0 .un= .mp qm:=rfl
theorem cc_1 (h1:cls.length=36) {i:Nat} (hi:i<36):((CC qm cls tys).drop (1+i)).getD 0 .un=i64 (cls.getD i 0:Nat):=by
 rw [List.getD_eq_getElem?_getD,List.getElem?_drop,Nat.add_zero,Nat.add_comm]
 simp only [CC,List.getElem?_cons_succ]
 rw [List.getElem?_append_left (by simp [h1,hi]),List.getElem?_map,List.getD_eq_getElem?_getD,List.getElem?_eq_getElem (by omega)]
 rfl
theorem zk1 (h1:cls.length=36) (h2:tys.length=36) {i:Nat} (hi:i<36):((CC qm cls tys).drop (37+i)).getD 0 .un=i64 (tys.getD i 0):=by
 rw [List.getD_eq_getElem?_getD,List.getElem?_drop,Nat.add_zero,show 37+i=(36+i)+1 by omega]
 simp only [CC,List.getElem?_cons_succ]
 rw [List.getElem?_append_right (by simp [h1]),List.length_map,h1,Nat.add_sub_cancel_left,List.getElem?_map,List.getD_eq_getElem?_getD,List.getElem?_eq_getElem (by omega)]
 rfl
theorem zbE {cs:List PV} {o:Nat} {v:PV} (h:o<cs.length):splice cs o [v]=cs.set o v:=by
 unfold splice
 rw [List.set_eq_take_append_cons_drop,if_pos h]
 simp
theorem cs_1 (h1:cls.length=36) (h2:tys.length=36) {i v:Nat} (hi:i<36):splice (CC qm cls tys) (1+i) [i64 v]=CC qm (cls.set i v) tys:=by
 rw [zbE (by rw [rG h1 h2];omega),Nat.add_comm]
 simp only [CC,List.set_cons_succ]
 rw [List.set_append_left _ _ (by simp [h1,hi]),List.map_set]
theorem cs_2 (h1:cls.length=36) (h2:tys.length=36) {i:Nat} {v:Int} (hi:i<36):splice (CC qm cls tys) (37+i) [i64 v]=CC qm cls (tys.set i v):=by
 rw [zbE (by rw [rG h1 h2];omega),show 37+i=(36+i)+1 by omega]
 simp only [CC,List.set_cons_succ]
 rw [List.set_append_right _ _ (by simp [h1]),List.length_map,h1,Nat.add_sub_cancel_left,List.map_set]
end
def Has (es:NM) (s:BA):Prop:=(vV (.string s) es 0).isSome=true
structure CI (es:NM) (cls:List Nat) (tys:List Int):Prop where
 n:NMap es es.length
 le:es.length≤36
 l1:cls.length=36
 l2:tys.length=36
 f: ∃ rt d:Nat→Nat, ∀ x,x<es.length→cls.getD x 0<es.length∧rt x<es.length∧cls.getD (rt x) 0=rt x∧d (rt x)=0∧(cls.getD x 0=x→rt x=x)∧(cls.getD x 0≠x→rt x=rt (cls.getD x 0)∧d (cls.getD x 0)<d x)
structure Upd (qm qc:Nat) (es:NM) (cls:List Nat) (tys:List Int) (h h':Heap):Prop where
 m:h'[qm]? =some (.map es)
 c:h'[qc]? =some (.var 254 (CC qm cls tys))
 k: ∀ (r:Nat) (b:Blk),r≠qm→r≠qc→h[r]? =some b→h'[r]? =some b
theorem Upd.trans {qm qc:Nat} {es es':NM} {cls cls':List Nat} {tys tys':List Int} {h h' h'':Heap} (a:Upd qm qc es cls tys h h') (b:Upd qm qc es' cls' tys' h' h''):Upd qm qc es' cls' tys' h h'':=⟨b.m,b.c,fun r c h1 h2 h3=>b.k r c h1 h2 (a.k r c h1 h2 h3)⟩
theorem Upd.app {qm qc:Nat} {es:NM} {cls:List Nat} {tys:List Int} {h h':Heap} (a:Upd qm qc es cls tys h h') (l:Heap):Upd qm qc es cls tys h (h'++l):=
 ⟨by rw [List.getElem?_append_left (gsi a.m).1];exact a.m,by rw [List.getElem?_append_left (gsi a.c).1];exact a.c,fun r c h1 h2 h3=>by
  have:=a.k r c h1 h2 h3
  rw [List.getElem?_append_left (gsi this).1];exact this⟩
theorem Upd.refl {qm qc:Nat} {es:NM} {cls:List Nat} {tys:List Int} {h:Heap} (m:h[qm]? =some (.map es)) (c:h[qc]? =some (.var 254 (CC qm cls tys))):Upd qm qc es cls tys h h:=⟨m,c,fun _ _ _ _ h=>h⟩
theorem lZ {k:Value} {x:Value×PV}: ∀ {es:NM} {j:Nat},(vV k es j).isSome=true→(vV k (es++[x]) j).isSome=true
 | [],_,h=>by cases h
 | y::es,j,h=>by
  simp only [List.cons_append,vV] at h ⊢
  by_cases hv:sY k y.1=true
  ·rw [if_pos hv];rfl
  ·rw [if_neg hv] at h ⊢
   exact lZ h
theorem gW {s:BA} {p:PV}: ∀ {es:NM} {j:Nat},(vV (.string s) (es++[(.string s,p)]) j).isSome=true
 | [],j=>by simp [vV,sY]
 |y::es,j=>by
  simp only [List.cons_append,vV]
  split
  ·rfl
  ·exact gW
theorem CI.push {es:NM} {cls:List Nat} {tys:List Int} (h:CI es cls tys) (hl:es.length<36) (s:BA):CI (es++[(.string s,i64 (es.length:Nat))]) (cls.set es.length es.length) tys:=by
 obtain ⟨h1,h2,h3,h4,rt,d,h5⟩:=h
 refine ⟨?_,by simp;omega,by simp [h3],h4,fun x=>if x=es.length then x else rt x,fun x=>if x=es.length then 0 else d x,fun x hx=> ?_⟩
 ·intro x hx
  rw [List.length_append,List.length_singleton]
  rcases List.mem_append.1 hx with hx|hx
  ·obtain ⟨a,i,e,hi⟩:=h1 x hx
   exact ⟨a,i,e,by omega⟩
  ·simp at hx;subst hx;exact ⟨⟨s,rfl⟩,_,rfl,by omega⟩
 ·rw [List.length_append,List.length_singleton] at hx ⊢
  have gs: ∀ y,(cls.set es.length es.length).getD y 0=if y=es.length then es.length else cls.getD y 0:=fun y=>by
   rw [List.getD_eq_getElem?_getD,List.getElem?_set,List.getD_eq_getElem?_getD]
   by_cases e:es.length=y
   ·subst e;simp [h3,hl]
   ·simp [e,Ne.symm e]
  simp only [gs]
  by_cases e:x=es.length
  ·subst e;simp
  ·obtain ⟨aa1,aa2,aa3,aa4,aa5,aa6⟩:=h5 x (by omega)
   have e2:rt x≠es.length:=by omega
   have e3:cls.getD x 0≠es.length:=by omega
   simp only [e,e2,e3,if_false]
   exact ⟨by omega,by omega,aa3,aa4,aa5,aa6⟩
open UTyp11f164 in
theorem dM (h:Heap) (qm qc:Nat) (es:NM) (cls:List Nat) (tys:List Int) (hm:h[qm]? =some (.map es)) (hc:h[qc]? =some (.var 254 (CC qm cls tys))) (hI:CI es cls tys) (s:BA) (hn:Has es s∨es.length<36):
  ECall prog G0 164 [.ptr qc 0,yQ s] h fun p h'=> ∃ (i:Nat) (es':NM) (cls':List Nat),p=i64 i∧i<es'.length∧cls'.getD i 0=i∧Upd qm qc es' cls' tys h h'∧h'.length=h.length∧CI es' cls' tys∧es'.length≤es.length+1∧(Has es s→es'=es∧cls'=cls)∧(∀ s',Has es s'→Has es' s')∧Has es' s:=by
 refine pv func164 52 false (by kernel_rfl) rfl rfl ?_
 refine g2 ?_
 have ha:=hI.n.all
 have hqm:qm<h.length:=(gsi hm).1
 have hqc:qc<h.length:=(gsi hc).1
 have hne:qm≠qc:=fun e=>by subst e;rw [hm] at hc;cases hc
 have mM:=rG (qm:=qm) hI.l1 hI.l2
 cases hg:vV (.string s) es 0 with
 | some x=>
  obtain ⟨j,p⟩:=x
  have hlk:=lC hm ha hg
  obtain ⟨y,hy,rfl⟩:=mQ hg
  obtain ⟨_,i,e,hi⟩:=hI.n y hy
  rw [e] at hlk
  have hHas:Has es s:=by unfold Has;rw [hg];rfl
  obtain ⟨rt,d,hf⟩:=hI.f
  refine gf (a4 @hc @hlk @kE @mM) ?_
  refine zW (K4 (.k:: .v::K9 (K9 (K9 (K4 (D9 (D4 (.d:: .k::[])))))))) (fun (x:Nat)=>[i64 x]) (fun _=>h) (fun x=>x<es.length) (fun x=>d x) (own:=false) i rfl rfl hi ?_
  intro x hx
  refine gm ?_
  obtain ⟨aa1,aa2,aa3,aa4,aa5,aa6⟩:=hf x hx
  have hx36:x<36:=by have:=hI.le;omega
  have c1:=cc_1 (qm:=qm) (tys:=tys) hI.l1 hx36
  by_cases hr:cls.getD x 0=x
  ·have e1:(((cls.getD x 0:Nat):Int)!=(x:Int))=false:=by rw [hr];exact bne_self_eq_false _
   refine gf (a6 @hc @c1 @mM @hx36 @zB @e1) ?_
   exact ⟨x,es,cls,rfl,hx,hr,Upd.refl hm hc,rfl,hI,by omega,fun _=>⟨rfl,rfl⟩,fun _ h=>h,hHas⟩
  ·have e1:(((cls.getD x 0:Nat):Int)!=(x:Int))=true:=by rw [bne_iff_ne];omega
   refine gf (a6 @hc @c1 @mM @hx36 @zB @e1) ?_
   exact ⟨_,aa1,(aa6 hr).2,rfl,rfl,rfl⟩
 | none=>
  have hlk:=lD hm ha hg
  have hl:es.length<36:=hn.resolve_left (fun k=>by unfold Has at k;rw [hg] at k;cases k)
  refine gf (a4 @hc @hlk @kE @mM) ?_
  (refine wU ?_;intro sr hsr;simp only [go_sem,hc,hlk,kE,mM] at hsr;subst hsr;refine iR rfl (fun rd=>OpOk.lenMap rfl rfl rfl rfl rfl hm eG (by omega) ⟨rfl,rfl⟩) ?_;intro ts2 hts;simp only [go_sem] at hts;subst hts)
  have hms: ∀ b,(h.set qm b)[qm]? =some b:=fun b=>List.getElem?_set_self hqm
  have hmc: ∀ b,(h.set qm b)[qc]? =some (.var 254 (CC qm cls tys)):=fun b=>by rw [List.getElem?_set_ne hne];exact hc
  have hle:decide (es.length≤140737488355328)=true:=by simp;omega
  have hgl: ∀ p:Value×PV,(es++[p])[es.length]? =some p:=fun p=>by simp
  have hsl: ∀ p q:Value×PV,(es++[p]).set es.length q=es++[q]:=fun p q=>by simp
  have c2:=cs_1 (qm:=qm) (v:=es.length) hI.l1 hI.l2 hl
  (repeat (first|refine gz ?_|(refine gn ?_;intro zs zh;(try simp only [go_sem,hc,hm,hlk,kE,mM,eG,zh0,zm1,ha,hg,hle,hms,hmc,hgl,hsl,c2,zB,hl,List.set_set,Bool.and_self] at zh);subst zh;refine gv ?_)|refine yD UTyp11f164.pl ?_))
  have hI2:=hI.push hl s
  have hgn:(cls.set es.length es.length).getD es.length 0=es.length:=by simp [hI.l1,hl]
  have c3:=cc_1 (qm:=qm) (tys:=tys) hI2.l1 hl
  rw [hgn] at c3
  have e1:((es.length:Int)!=(es.length:Int))=false:=bne_self_eq_false _
  have hcl2:=rG (qm:=qm) hI2.l1 hI2.l2
  have hqs: ∀ b c,((h.set qm b).set qc c)[qc]? =some c:=fun b c=>List.getElem?_set_self (by simpa using hqc)
  have hU:Upd qm qc (es++[(.string s,i64 (es.length:Nat))]) (cls.set es.length es.length) tys h ((h.set qm (.map (es++[(.string s,i64 (es.length:Nat))]))).set qc (.var 254 (CC qm (cls.set es.length es.length) tys))):=
   ⟨by rw [List.getElem?_set_ne (Ne.symm hne)];exact hms _,hqs _ _,fun r b h1 h2 h3=>by rw [List.getElem?_set_ne (Ne.symm h2),List.getElem?_set_ne (Ne.symm h1)];exact h3⟩
  refine zW (K4 (.k:: .v::K9 (K9 (K9 (K4 (D9 (D4 (.d:: .k::[])))))))) (fun (_:Unit)=>[i64 (es.length:Nat)]) (fun _=>_) (fun x=>True) (fun x=>0) (own:=false) () rfl rfl trivial ?_
  intro _ _
  refine gm ?_
  refine gf (a6 @hqs @c3 @hcl2 @hl @zB @e1) ?_
  refine ⟨es.length,_,_,rfl,by simp,hgn,hU,by simp,hI2,by simp,fun hh=> ?_,fun s' hs'=>lZ hs',gW⟩
  unfold Has at hh;rw [hg] at hh;cases hh
end Go.AL
