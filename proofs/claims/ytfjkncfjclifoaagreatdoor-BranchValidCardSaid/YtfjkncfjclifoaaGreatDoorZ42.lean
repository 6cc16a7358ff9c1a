/-
  The walk as a program, with a table of calls whose outcome is known.
-/
import Derived.Test.YtfjkncfjclifoaaGreatDoorZ41
set_option linter.unusedSimpArgs false
set_option linter.unusedVariables false
set_option maxRecDepth 100000
set_option maxHeartbeats 4000000
namespace Go.AL
open Go.Proofs Go.Proofs.Tryz
abbrev dts (l:List Dt):PV:= .ts 2 (l.map Dt.c)
def zm3 (p:Pg):Dt:=⟨List.replicate p.preds.length [],List.replicate p.preds.length []⟩
def zcI (p:Pg) (l:List Dt) (c:Int):Dt:=if 0≤c then l.getD c.toNat (zm3 p) else zm3 p
noncomputable def zg2 (p:Pg) (o:Option (List Dt)) (c:Co):Option (List Dt):=o.bind fun out=>
 if c.parent< -1∨c.merged< -1∨(out.length:Int)≤c.parent∨(out.length:Int)≤c.merged then none
 else if (zk4 p (zcI p out c.parent) c.ops).2=0 then some (out++[(zk4 p (zcI p out c.parent) c.ops).1]) else none
noncomputable def eF (p:Pg) (cs:List Co):Option (List Dt):=cs.foldl (zg2 p) (some [])
theorem ziY (p:Pg) (cs:List Co) (c:Co):eF p (cs++[c])=zg2 p (eF p cs) c:=by simp [eF,List.foldl_append]
theorem mM (p:Pg): ∀ cs:List Co,cs.foldl (zg2 p) none=none
 | []=>rfl
 |c::cs=>by rw [List.foldl_cons];exact mM p cs
theorem zfC {p:Pg} {cs:List Co} {i:Nat} (h:eF p (cs.take i)=none):eF p cs=none:=by
 have e:eF p cs=(cs.drop i).foldl (zg2 p) (eF p (cs.take i)):=by
  unfold eF;rw [←List.foldl_append,List.take_append_drop]
 rw [e,h,mM]
theorem zfD {p:Pg} {cs:List Co} {i:Nat} (hi:i<cs.length):eF p (cs.take (i+1))=zg2 p (eF p (cs.take i)) cs[i]:=by
 rw [List.take_succ_eq_append_getElem hi,ziY]
theorem zfB {p:Pg} {m l:List Dt} {c:Co} (h:zg2 p (some m) c=some l):l.length=m.length+1:=by
 simp only [zg2,Option.bind_some] at h
 split at h
 ·cases h
 ·split at h
  ·cases h;simp
  ·cases h
theorem zbC {p:Pg}: ∀ (cs:List Co) {m l:List Dt},cs.foldl (zg2 p) (some m)=some l→l.length=m.length+cs.length
 | [],m,l,h=>by cases h;rfl
 | c::cs,m,l,h=>by
  rw [List.foldl_cons] at h
  cases hs:zg2 p (some m) c with
  |none=>rw [hs,mM] at h;cases h
  |some m'=>
   rw [hs] at h
   have:=zbC cs h
   have:=zfB hs
   simp only [List.length_cons];omega
theorem zbB {p:Pg} {cs:List Co} {l:List Dt} (h:eF p cs=some l):l.length=cs.length:=by
 have:=zbC cs h
 simpa using this
end Go.AL
namespace Go.AL
open Go.Proofs Go.Proofs.Tryz
abbrev Cm:=Int×Int
end Go.AL
namespace Go.AL
open Go.Proofs Go.Proofs.Tryz
theorem iD (n:Nat) (p:PV):(List.replicate n [p]).flatten=List.replicate n p:=by
 induction n with
 |zero=>rfl
 |succ n ih=>simp [List.replicate_succ,ih]
end Go.AL
namespace Go.AL
open Go.Proofs Go.Proofs.Tryz
@[go_sem] def UBra2f19.pl:Nat→DPlan
 |1=>⟨[yA,⟨1,0,[0,1]⟩,yA,vC,yA,⟨1,0,[0,1]⟩,yA,⟨2,1,[]⟩,yA,yC],[0,1,2,4,5,6,3,7,8,9],2⟩
 |_=>⟨[],[],0⟩
theorem fzM {h:Heap} (f r off k len:Nat) {t:TypeId} {cs:List PV} (e:h[r]? =some (.var t cs)):fz 0 h (f+1) (.ms r off k len)= .ts k (wA (cs.map (fz 0 h f)) off k len):=by
 simp only [fz,Nat.not_lt_zero,if_false,e]
theorem zhN {h:Heap} {r n f:Nat} {t:TypeId} (e:h[r]? =some (.var t (List.replicate n .nil))):fz 0 h (f+2) (.ms r 0 1 n)= .ts 1 (List.replicate n [.nil]):=by
 rw [fzM (f+1) r 0 1 n e,List.map_replicate,fzN f]
 have:=lG (List.replicate n PV.nil)
 rw [List.length_replicate,List.map_replicate] at this
 rw [this]
theorem zbK {α:Type} {n k:Nat}:PLe (.ts 1 (List.replicate n [.nil])) (.ts 1 ((List.replicate n ([]:List α)).map fun _=>[.ts k []])):=by
 have:=PLes.ts_map (k:=1) (l:=List.replicate n ([]:List α)) (f:=fun _=>[PV.nil]) (g:=fun _=>[.ts k []]) fun _ _=> .cons (PLe.nil_ts k) .nil
 rwa [List.map_replicate] at this
theorem zbH {α:Type} {n:Nat} {f:List α→List PV} {c:List PV} (h:f []=c):(List.replicate n ([]:List α)).map f=(List.replicate n ([]:List α)).map fun _=>c:=by
 rw [List.map_replicate,List.map_replicate,h]
theorem eH (f:Nat) (d:Dt):zU (f+6) (.agg d.c)=true:=by
 have h1: ∀ r:List Rw,zU (f+4) (uN r)=true:=rE f
 have h2: ∀ r:List LRw,zU (f+4) (vD r)=true:=fun r=>by
  simp only [zU,List.all_map,List.all_eq_true,Function.comp_apply]
  intro x _ p hp
  simp only [LRw.c,List.mem_cons,List.not_mem_nil,or_false] at hp
  rcases hp with rfl|rfl
  ·exact eJ (f+1) x.args
  ·simp [zU,List.all_map]
 simp only [zU,Dt.c,List.all_cons,List.all_nil,Bool.and_true,List.all_map]
 simp only [zU] at h1 h2
 simp [h1,h2,Function.comp_def]
open UBra2f19 in
theorem fM (p:Pg) (hp:p.preds.length≤1048576):EPure prog G0 19 [.agg p.c] fun v=>v= .agg (zm3 p).c:=by
 refine ECall.cutW (R:=fun v h=> ∃ q1 q2,v= .agg [.ms q1 0 1 p.preds.length,.ms q2 0 1 p.preds.length]∧h[q1]? =some (.var 70 (List.replicate p.preds.length .nil))∧h[q2]? =some (.var 96 (List.replicate p.preds.length .nil))) (pv func19 12 false (by kernel_rfl) rfl rfl ?_) ?_
 refine g2 ?_
 ·refine ge ?_
  exact ⟨2,3,rfl,by rw [iD];rfl,by rw [iD];rfl⟩
 ·rintro v h ⟨q1,q2,rfl,h1,h2⟩
  have e:(zm3 p).c=[.ts 1 ((List.replicate p.preds.length ([]:List Rw)).map fun _=>[.ts 2 []]),.ts 1 ((List.replicate p.preds.length ([]:List LRw)).map fun _=>[.ts 2 []])]:=by
   unfold zm3 Dt.c
   rw [zbH (f:=fun r=>[uN r]) rfl,zbH (f:=fun r=>[vD r]) rfl];rfl
  refine ⟨_,?_,rfl,yP 40 _ (eH 34 _)⟩
  rw [fzA 39,List.map_cons,List.map_cons,List.map_nil,zhN (f:=37) h1,zhN (f:=37) h2,e]
  exact PLes.agg (.cons zbK (.cons zbK .nil))
theorem znT (p:Pg) (hp:p.preds.length≤1048576) (l:List Dt) (c:Int) (hc:c<l.length):EPure prog G0 31 [.agg p.c,dts l,i64 c] fun v=>v= .agg (zcI p l c).c:=by
 refine ECall.cutW (R:=fun v h=>v= .agg (zcI p l c).c) (pv func31 15 false (by kernel_rfl) rfl rfl ?_) ?_
 refine g2 ?_
 ·by_cases h:0≤c
  ·have e0:decide (c<0)=false:=by simp;omega
   obtain ⟨i,rfl⟩:=Int.eq_ofNat_of_zero_le h
   have hi:i<l.length:=by omega
   have hx:=zG (f:=Dt.c) [] hi
   refine gf (a4 @e0 @hi @hx @zB) ?_
   unfold zcI
   rw [if_pos h,Int.toNat_natCast,List.getD_eq_getElem?_getD,List.getElem?_eq_getElem hi];rfl
  ·have e0:decide (c<0)=true:=by simp;omega
   refine gf @e0 ?_
   (refine g1f @e0 ?_;refine zC ((fM p hp).call zK (by simp [zJ]) _) ?_;intro p2 h2 hr2;refine g2 ?_)
   obtain ⟨rfl,rfl⟩:=hr2
   refine ge ?_
   unfold zcI
   rw [if_neg h]
 ·rintro v h rfl
  exact ⟨_,by rw [vE 0 h 40 _ (eH 34 _)];exact PLe.refl _,rfl,yP 40 _ (eH 34 _)⟩
end Go.AL
namespace Go.AL
open Go.Proofs Go.Proofs.Tryz
structure Rp.sz (r:Rp):Prop where
 cl:r.cs.length≤1048576
 c: ∀ x∈r.cs,OpsG x.ops
 bl:r.bs.length≤1048576
 b: ∀ x∈r.bs,x.ok
abbrev AppP (p:Pg):Prop:= ∀ (d:Dt) (ops:List Op1),d.sz→OpsG ops→ApplyOk p d ops
theorem zhS (p:Pg) (hp:p.preds.length≤1048576):(zm3 p).sz:=by
 refine ⟨by simpa [zm3] using hp,by simpa [zm3] using hp,fun r hr=> ?_,fun r hr=> ?_,fun r hr=> ?_⟩
 ·obtain ⟨-,rfl⟩:=List.mem_replicate.1 hr
  exact ⟨by simp,by simp⟩
 ·obtain ⟨-,rfl⟩:=List.mem_replicate.1 hr
  exact ⟨by simp,by simp⟩
 ·obtain ⟨-,rfl⟩:=List.mem_replicate.1 hr
  simp
theorem za5 {p:Pg} (hp:p.preds.length≤1048576) {l:List Dt} (h: ∀ d∈l,d.sz) (c:Int):(zcI p l c).sz:=by
 unfold zcI
 split
 ·rw [List.getD_eq_getElem?_getD]
  cases hc:l[c.toNat]? with
  |none=>exact zhS p hp
  |some d=>exact h d (List.mem_of_getElem? hc)
 ·exact zhS p hp
theorem zaL (f:Nat) (l:List Dt):zU (f+6) (dts l)=true:=by
 simp only [zU,List.all_map,List.all_eq_true,Function.comp_apply]
 intro x _ p hp
 have:=eH f x
 simp only [zU,List.all_eq_true] at this
 exact this p hp
abbrev znW:Option (List Dt)→PV
 |none=> .tup [.ts 2 [],bo false]
 |some l=> .tup [dts l,bo true]
theorem zc3 (p:Pg) (hp:p.preds.length≤1048576) (ha:AppP p) (r:Rp) (hr:r.sz):EPure prog G0 49 [.agg p.c,.agg r.c] fun v=>v=znW (eF p r.cs):=by
 refine ECall.cutW (R:=fun v h=>(eF p r.cs=none∧v= .tup [.nil,bo false])∨ ∃ l,eF p r.cs=some l∧((v= .tup [.nil,bo true]∧l=[])∨ ∃ q,v= .tup [.vec q 2 (l.map Dt.c),bo true])) (pv func49 60 false (by kernel_rfl) rfl rfl ?_) ?_
 refine g2 ?_
 ·have hcl:=hr.cl
  refine ge ?_
  refine zO r.cs.length (K4 (.d:: .d:: .v::D4 (.k:: .k:: .k:: .v::D9 (D9 (D9 (D9 (D4 (D4 (.k::[]))))))))) (own:=false) (fun i (s:List Dt×PV×Heap)=>[s.2.1,i64 i]) (fun s=> .var 27 p.c:: .var 31 r.c::s.2.2) (fun i s=>eF p (r.cs.take i)=some s.1∧(∀ d∈s.1,d.sz)∧GrowN 2 44 (s.1.map Dt.c) 2 s.2.2 s.2.1) ([],.nil,[]) rfl rfl ⟨rfl,by simp,.inl ⟨rfl,rfl⟩⟩ (by omega) ?_ ?_
  ·rintro ⟨l,V,J⟩ ⟨hl,hsz,hG⟩ t ht
   dsimp only at hl hsz hG
   simp only [zY] at ht;subst ht
   rw [List.take_length] at hl
   refine gf @zM ?_
   rcases hG with ⟨he,rfl⟩|⟨q,rfl,hq⟩
   ·exact .inr ⟨l,hl,.inl ⟨rfl,by simpa using he⟩⟩
   ·exact .inr ⟨l,hl,.inr ⟨_,rfl⟩⟩
  ·rintro i ⟨l,V,J⟩ hi hw ⟨hl,hsz,hG⟩ t ht
   dsimp only at hl hsz hG
   simp only [zY] at ht;subst ht
   have hlen:=zbB hl
   rw [List.length_take,Nat.min_eq_left (by omega)] at hlen
   have hx:=zG (f:=Co.c) [] hi
   have hxo:=hr.c _ (List.getElem_mem hi)
   have hst:=zfD (p:=p) hi
   rw [hl] at hst
   have hno:zg2 p (some l) r.cs[i]=none→eF p r.cs=none:=fun h=>zfC (i:=i+1) (by rw [hst,h])
   generalize r.cs[i]=x at*
   obtain ⟨mn,hmn⟩: ∃ m,(if x.merged<x.parent then x.merged else x.parent)=m:=⟨_,rfl⟩
   obtain ⟨mx,hmx⟩: ∃ m,(if x.merged>x.parent then x.merged else x.parent)=m:=⟨_,rfl⟩
   have hmn':mn< -1↔x.parent< -1∨x.merged< -1:=by rw [←hmn];split<;>omega
   have hmx':(i:Int)≤mx↔(i:Int)≤x.parent∨(i:Int)≤x.merged:=by rw [←hmx];split<;>omega
   have hbad:(x.parent< -1∨x.merged< -1∨(l.length:Int)≤x.parent∨(l.length:Int)≤x.merged)→eF p r.cs=none:=fun h=>hno (by simp only [zg2,Option.bind_some];rw [if_pos h])
   by_cases h1:mn< -1
   ·have e1:decide (mn< -1)=true:=by simp [h1]
    refine gf (a9 @hi @hx @zB @hw @zA @zD @hmn @hmx @e1) ?_
    exact .inl ⟨hbad (by omega),rfl⟩
   ·have e1:decide (mn< -1)=false:=by simp;omega
    by_cases h2:(i:Int)≤mx
    ·have e2:decide ((i:Int)≤mx)=true:=by simp [h2]
     refine gf (a9 @hi @hx @zB @hw @zA @zD @hmn @hmx (a2 @e1 @e2)) ?_
     exact .inl ⟨hbad (by omega),rfl⟩
    ·have e2:decide ((i:Int)≤mx)=false:=by simp;omega
     refine gf (a9 @hi @hx @zB @hw @zA @zD @hmn @hmx (a2 @e1 @e2)) ?_
     (refine g1 ?_;refine zC ((fM p hp).call zK (by simp [zJ]) _) ?_;intro p2 h2 hr2;refine g2 ?_)
     obtain ⟨rfl,rfl⟩:=hr2
     have hd0:(zcI p l x.parent).sz:=za5 hp hsz _
     have hap:=ha (zcI p l x.parent) x.ops hd0 hxo
     have hgood: ¬(x.parent< -1∨x.merged< -1∨(l.length:Int)≤x.parent∨(l.length:Int)≤x.merged):=by omega
     simp only [zg2,Option.bind_some,if_neg hgood] at hst hno
     have key:(x.parent<0∧zcI p l x.parent=zm3 p)∨ ∃ (k:Nat) (h:k<l.length),x.parent=k∧zcI p l x.parent=l[k]:=by
      by_cases h0:0≤x.parent
      ·obtain ⟨k,hk⟩:=Int.eq_ofNat_of_zero_le h0
       refine .inr ⟨k,by omega,hk,?_⟩
       unfold zcI
       rw [if_pos h0,hk,Int.toNat_natCast,List.getD_eq_getElem?_getD,List.getElem?_eq_getElem (by omega)];rfl
      ·exact .inl ⟨by omega,by unfold zcI;rw [if_neg h0]⟩
     generalize hA:zcI p l x.parent=d0 at*
     obtain ⟨hap1,hap2⟩:=hap
     generalize hde:zk4 p d0 x.ops=de at*
     obtain ⟨d',e⟩:=de
     dsimp only at hap1 hap2 hst hno
     have hV: ∀ (V':PV) (J':Heap),GrowN 2 44 ((l++[d']).map Dt.c) 2 J' V'→e=0→eF p (List.take (i+1) r.cs)=some (l++[d'])∧(∀ d∈l++[d'],d.sz)∧GrowN 2 44 ((l++[d']).map Dt.c) 2 J' V':=fun V' J' hG he=>⟨by rw [hst,if_pos he],fun d hd=>by
      rcases List.mem_append.1 hd with hd|hd
      ·exact hsz d hd
      ·rw [List.mem_singleton] at hd;subst hd;exact hap2 he,hG⟩
     have e40:((0:Int)!=0)=false:=rfl
     rcases hG with ⟨he,rfl⟩|⟨q,rfl,hq⟩
     ·have hl0:l=[]:=by simpa using he
      subst hl0
      rcases key with ⟨k1,rfl⟩|⟨k,hk,_⟩
      ·have e3:decide (0≤x.parent)=false:=by simp;omega
       refine gf (a9 @hi @hx @zB @hw @zA @zD @tG @wG (a3 @set2 @wF @e3)) ?_
       (refine g1f (a9 @hi @hx @zB @hw @zA @zD @tG @wG (a2 @set2 @wF)) ?_;refine zC (hap1.call zK (by simp [zJ]) _) ?_;intro p2 h2 hr2;refine g2 ?_)
       obtain ⟨rfl,rfl⟩:=hr2
       by_cases he0:e=0
       ·subst he0
        refine gf (a9 @hi @hx @zB @hw @zA @zD @tG @wG (a3 @set2 @wF @e40)) ?_
        exact ⟨([]++[d'],.vec (J.length+4) 2 [d'.c],J++[.var 60 x.c,.var 44 d'.c,.vec 44 2 1]),hV _ _ (.inr ⟨J.length+2,rfl,by simp⟩) rfl,rfl,rfl,rfl⟩
       ·have e4:(e !=0)=true:=by simp [he0]
        refine gf (a9 @hi @hx @zB @hw @zA @zD @tG @wG (a3 @set2 @wF @e4)) ?_
        exact .inl ⟨hno (if_neg he0),rfl⟩
      ·simp at hk
     ·simp only [List.length_map] at hq
      have hqR:q<J.length:=(gsi hq).1
      have hq2: ∀ z z',(J++[z,z'])[q]? =some (.vec 44 2 l.length):=fun z z'=>by rw [List.getElem?_append_left hqR];exact hq
      rcases key with ⟨k1,rfl⟩|⟨k,hk,hxk,rfl⟩
      ·have e3:decide (0≤x.parent)=false:=by simp;omega
       refine gf (a9 @hi @hx @zB @hw @zA @zD @tG @wG (a3 @set2 @wF @e3)) ?_
       (refine g1f (a9 @hi @hx @zB @hw @zA @zD @tG @wG (a2 @set2 @wF)) ?_;refine zC (hap1.call zK (by simp [zJ]) _) ?_;intro p2 h2 hr2;refine g2 ?_)
       obtain ⟨rfl,rfl⟩:=hr2
       by_cases he0:e=0
       ·subst he0
        refine gf (a9 @hi @hx @zB @hw @zA @zD @tG @wG (a4 @set2 @wF @e40 @hq2)) ?_
        refine ⟨(l++[d'],.vec (q+2) 2 ((l++[d']).map Dt.c),(J++[Blk.var 60 x.c,Blk.var 44 d'.c]).set q (Blk.vec 44 2 (l.length+1))),hV _ _ (.inr ⟨q,rfl,?_⟩) rfl,?_,?_,rfl⟩
        ·rw [List.getElem?_set_self (by simp;omega)];simp
        ·simp only [zY,xJ,List.tail_cons]
         rw [List.map_append];rfl
        ·simp only [zY,xJ,List.tail_cons]
       ·have e4:(e !=0)=true:=by simp [he0]
        refine gf (a9 @hi @hx @zB @hw @zA @zD @tG @wG (a3 @set2 @wF @e4)) ?_
        exact .inl ⟨hno (if_neg he0),rfl⟩
      ·have e3:decide (0≤x.parent)=true:=by simp;omega
       have hy:=zG (f:=Dt.c) [] hk
       refine gf (a9 @hi @hx @zB @hw @zA @zD @tG @wG (a6 @set2 @wF @e3 @hxk @hy @hk)) ?_
       (refine g1f (a9 @hi @hx @zB @hw @zA @zD @tG @wG (a2 @set2 @wF)) ?_;refine zC (hap1.call zK (by simp [zJ]) _) ?_;intro p2 h2 hr2;refine g2 ?_)
       obtain ⟨rfl,rfl⟩:=hr2
       by_cases he0:e=0
       ·subst he0
        refine gf (a9 @hi @hx @zB @hw @zA @zD @tG @wG (a4 @set2 @wF @e40 @hq2)) ?_
        refine ⟨(l++[d'],.vec (q+2) 2 ((l++[d']).map Dt.c),(J++[Blk.var 60 [lJ x.ops,i64 x.merged,i64 k],Blk.var 44 d'.c]).set q (Blk.vec 44 2 (l.length+1))),hV _ _ (.inr ⟨q,rfl,?_⟩) rfl,?_,?_,rfl⟩
        ·rw [List.getElem?_set_self (by simp;omega)];simp
        ·simp only [zY,xJ,List.tail_cons]
         rw [List.map_append];rfl
        ·simp only [zY,xJ,List.tail_cons]
       ·have e4:(e !=0)=true:=by simp [he0]
        refine gf (a9 @hi @hx @zB @hw @zA @zD @tG @wG (a3 @set2 @wF @e4)) ?_
        exact .inl ⟨hno (if_neg he0),rfl⟩
 ·rintro v h (⟨h1,rfl⟩|⟨l,h1,⟨rfl,rfl⟩|⟨q,rfl⟩⟩)
  ·rw [h1]
   exact ⟨_,by rw [zlG 39,List.map_cons,List.map_cons,List.map_nil,fzN 38,ziD 38];exact PLes.tup (.cons (PLe.nil_ts 2) (.cons (PLe.refl _) .nil)),rfl,yP 40 _ rfl⟩
  ·rw [h1]
   exact ⟨_,by rw [zlG 39,List.map_cons,List.map_cons,List.map_nil,fzN 38,ziD 38];exact PLes.tup (.cons (PLe.nil_ts 2) (.cons (PLe.refl _) .nil)),rfl,yP 40 _ rfl⟩
  ·rw [h1]
   refine ⟨_,?_,rfl,yP 40 _ (show ([dts l,bo true].all (zU 39))=true by rw [List.all_cons,zaL 33 l];rfl)⟩
   rw [zlG 39,List.map_cons,List.map_cons,List.map_nil,pD (f:=38),vE 0 h 39 _ (zaL 33 l),ziD 38]
   exact PLe.refl _
end Go.AL
namespace Go.AL
open Go.RowKit
abbrev Tab:=List (FuncId×List PV×PV)
def zlB (T:Tab) (inner:FuncId→List PV→Heap→Option (PV×Heap)) (g:FuncId) (args:List PV) (h:Heap):Option (PV×Heap):=
 match T.find? (fun e=>Nat.beq e.1 g&&uK (nU 40) e.2.1 args) with
 |some e=>some (e.2.2,h)
 |none=>inner g args h
def xZ (P:Program) (G:Glob) (keep own:FuncId→Bool) (L:Nat) (T:Tab):Nat→Caller
 |0=>⟨fun _ _ _=>none,fun _ _ _=>none⟩
 |n+1=>⟨zlB T (xfn P G keep own (xZ P G keep own L T n) L),xyl P G (xZ P G keep own L T n) L⟩
def TabOk (P:Program) (G:Glob) (T:Tab):Prop:= ∀ e∈T, ∀ h,ACall P G e.1 e.2.1 h fun q h2=>q=e.2.2∧h2=h
section
variable {P:Program} {G:Glob}
theorem zc0:TabOk P G []:=fun e he=>by cases he
theorem zcV (hm:P.follows .mixedOrders=true) (hG:GTree G) {T:Tab} (hT:TabOk P G T) (keep ow:FuncId→Bool) (L:Nat): ∀ n,CallOk P G (xZ P G keep ow L T n):=by
 intro n
 induction n with
 |zero=>exact ⟨fun g args h p h' e=>(by cases e),fun r args h p h' e=>(by cases e)⟩
 | succ n ih=>
  refine ⟨fun g args h p h' e=> ?_,fun r args h p h' e=>zlH hm hG ih e⟩
  simp only [xZ,zlB] at e
  split at e
  ·rename_i x hx
   cases e
   have h1:=List.mem_of_find?_eq_some hx
   have h2:=List.find?_some hx
   rw [Bool.and_eq_true] at h2
   have e1:x.1=g:=Nat.eq_of_beq_eq_true h2.1
   have e2:=oB (eM 40) h2.2
   rw [←e1, ←e2]
   exact hT x h1 h
  ·exact zlI hm hG ih e
theorem yR (hm:P.follows .mixedOrders=true) (hG:GTree G) {T:Tab} (hT:TabOk P G T) {keep ow:FuncId→Bool} {L n:Nat} {g:FuncId} {args:List PV} {p:PV}
  (e:(xZ P G keep ow L T n).fn g args []=some (p,[])) (ha:args.all (zU 40)=true) (hp:zU 40 p=true):TabOk P G ((g,args,p)::T):=by
 intro x hx h
 rcases List.mem_cons.1 hx with rfl|hx
 ·rw [List.all_eq_true] at ha
  exact Pure.frame ((zcV hm hG hT keep ow L n).fn _ _ _ _ _ e) (fun q hq=>yP _ _ (ha q hq)) (yP _ _ hp) hG h
 ·exact hT x hx h
end
end Go.AL
