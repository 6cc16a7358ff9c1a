/-
  Comparisons of the references: what is held against itself is the same.
-/
import Derived.Test.YtfjkncfjclifoaaGreatDoorZ37
set_option linter.unusedSimpArgs false
set_option linter.unusedVariables false
set_option maxRecDepth 100000
set_option maxHeartbeats 4000000
namespace Go.AL
open Go.Proofs Go.Proofs.Tryz
def zm6 (c:Co):Cm:=(c.merged,c.parent)
def pG (l:List Br) (j:Nat):Int:=(l.getD j ⟨⟨#[]⟩, -1⟩).last
theorem vT {l:List Br} {j:Nat} (h:j<l.length):pG l j=l[j].last:=by
 unfold pG;rw [List.getD_eq_getElem?_getD,List.getElem?_eq_getElem h];rfl
theorem jR {l:List Br} {j:Nat} (h:j<l.length) (i:Nat) (b:Br):pG (l.set i b) j=if i=j then b.last else pG l j:=by
 rw [vT (by simpa using h),vT h,List.getElem_set]
 split<;>rfl
theorem lQ (s:BA): ∀ l:List Br,rV (kN s) l=rV (fun t:BA=>decide (t=s)) (l.map (·.name))
 | []=>rfl
 |x::l=>by simp only [List.map_cons,rV,lQ s l]
structure MInv (r:Rp) (k:Nat) (name:BA) (i:Nat) (x:Rp):Prop where
 sz:x.sz
 cl:x.cs.length≤16+i
 nm:x.bs.map (·.name)=r.bs.map (·.name)++[name]
 me:Meets (x.cs.map zm6) (pG x.bs k) (pG x.bs r.bs.length) (pG r.bs k)
theorem MInv.len {r:Rp} {k:Nat} {name:BA} {i:Nat} {x:Rp} (h:MInv r k name i x):x.bs.length=r.bs.length+1:=by
 have:=congrArg List.length h.nm
 simpa using this
theorem MInv.up {r:Rp} {k:Nat} {name:BA} {i:Nat} {x:Rp} (h:MInv r k name i x):MInv r k name (i+1) x:=⟨h.sz,by have:=h.cl;omega,h.nm,h.me⟩
theorem zdH (l:List Br) (i:Nat) (h:i<l.length) (n:Int):(l.set i ⟨l[i].name,n⟩).map (·.name)=l.map (·.name):=by
 refine List.ext_getElem (by simp) fun j h1 h2=> ?_
 simp only [List.getElem_map,List.getElem_set]
 split
 ·rename_i e;subst e;rfl
 ·rfl
theorem MInv.com {r:Rp} {k:Nat} (hk:k<r.bs.length) {name:BA} {i:Nat} {x y:Rp} {n:Int} {to:BA} {ops:List Op1} (h:MInv r k name i x) (ho:OpsG ops) (hi:i<1000)
  (hto:rV (kN to) x.bs=k∨rV (kN to) x.bs=(r.bs.length:Nat)) (hc:CommitK x to ops y n):MInv r k name (i+1) y:=by
 obtain ⟨j,hj,hix,rfl,rfl⟩:=hc
 have hlen:=h.len
 have hcl:=h.cl
 have hjk:j=k∨j=r.bs.length:=by omega
 have hkx:k<x.bs.length:=by omega
 have hnx:r.bs.length<x.bs.length:=by omega
 have hm:=h.me
 have hl:(x.cs.map zm6).length=x.cs.length:=by simp
 refine ⟨⟨by simp;omega,fun c hc=> ?_,by simp;have:=h.sz.bl;omega,fun b hb=> ?_⟩,by simp;omega,?_,?_⟩
 ·rcases List.mem_append.1 hc with hc|hc
  ·exact h.sz.c c hc
  ·rw [List.mem_singleton] at hc;subst hc;exact ho
 ·rcases List.mem_or_eq_of_mem_set hb with hb|rfl
  ·exact h.sz.b b hb
  ·have e:=h.sz.b _ (List.getElem_mem hj)
   unfold Br.ok at e ⊢;exact e
 ·dsimp only
  rw [zdH _ _ hj];exact h.nm
 ·dsimp only
  rw [jR hkx,jR hnx,List.map_append,List.map_cons,List.map_nil]
  rw [←vT hj]
  rcases hjk with rfl|rfl
  ·rw [if_pos rfl,if_neg (by omega)]
   have:=hm.left
   rw [hl] at this
   exact this
  ·rw [if_neg (by omega),if_pos rfl]
   have:=hm.right
   rw [hl] at this
   exact this
theorem MInv.ixn {r:Rp} {k:Nat} {name:BA} {i:Nat} {x:Rp} (h:MInv r k name i x) (hn:rV (kN name) r.bs<0):rV (kN name) x.bs=(r.bs.length:Nat):=by
 rw [lQ] at hn ⊢
 rw [h.nm,zbU _ (by simp) hn];simp
theorem MInv.ixk {r:Rp} {k:Nat} (hk:k<r.bs.length) {name:BA} {i:Nat} {x:Rp} (h:MInv r k name i x) (hn:rV (kN r.bs[k].name) r.bs=k):rV (kN r.bs[k].name) x.bs=k:=by
 rw [lQ] at hn ⊢
 rw [h.nm,zbX _ (by omega)];exact hn
theorem MInv.start {r x:Rp} (hr:r.sz) (hc:r.cs.length≤16) {k:Nat} (hk:k<r.bs.length) {name:BA} (hname:name.size≤140737488355328) (hn:rV (kN r.bs[k].name) r.bs=k) (hl: -1≤r.bs[k].last∧r.bs[k].last<r.cs.length) (h:ForkK r r.bs[k].name name x):MInv r k name 0 x∧rV (kN name) r.bs<0:=by
 obtain ⟨i,hi,h1,h2,h3,rfl⟩:=h
 have:i=k:=by omega
 subst this
 refine ⟨⟨⟨hr.cl,hr.c,by simp;omega,fun b hb=> ?_⟩,by dsimp only;omega,by simp,?_⟩,h2⟩
 ·rcases List.mem_append.1 hb with hb|hb
  ·exact hr.b b hb
  ·rw [List.mem_singleton] at hb;subst hb;exact hname
 ·dsimp only
  have e1:pG (r.bs++[⟨name,r.bs[i].last⟩]) i=r.bs[i].last:=by
   rw [vT (by simp;omega),List.getElem_append_left hi]
  have e2:pG (r.bs++[⟨name,r.bs[i].last⟩]) r.bs.length=r.bs[i].last:=by
   rw [vT (by simp)];simp
  rw [e1,e2,vT hi]
  exact Meets.refl (by simpa using hl)
theorem zfJ (x:Rp):PLe (.agg x.c) (zaF (x.cs.map zm6)):=by
 refine PLes.agg (.cons ?_ (.cons (PLe.un _) .nil))
 refine PLe.ts (by simp) fun i a b ha hb=> ?_
 rw [List.map_map,List.getElem?_map] at hb
 rw [List.getElem?_map] at ha
 cases hx:x.cs[i]? with
 |none=>rw [hx] at ha;cases ha
 |some c=>
  rw [hx] at ha hb
  cases ha;cases hb
  refine ⟨rfl,fun j p q hp hq=> ?_⟩
  match j,hp,hq with
  |0,hp,hq=>simp [bS] at hp hq;subst hq;exact PLe.un _
  |1,hp,hq=>simp [bS,zm6] at hp hq;subst hp;subst hq;exact PLe.refl _
  |2,hp,hq=>simp [bS,zm6] at hp hq;subst hp;subst hq;exact PLe.refl _
  |j+3,hp,hq=>simp [Co.c] at hp
theorem zgK {p:Pg} {r:Rp} (h:iY p r) {k:Nat} (hk:k<r.bs.length):rV (kN r.bs[k].name) r.bs=k∧ -1≤r.bs[k].last∧r.bs[k].last<r.cs.length:=by
 have:=h.2.2.2.2 k hk
 simp only [zkX,Bool.and_eq_true,Bool.not_eq_true',decide_eq_false_iff_not,beq_iff_eq] at this
 omega
end Go.AL
namespace Go.AL
open Go.Proofs Go.Proofs.Tryz
theorem wL {p:Pg} {l m:List Dt} {c:Int} (h:c<l.length):zcI p (l++m) c=zcI p l c:=by
 unfold zcI
 split
 ·rw [List.getD_eq_getElem?_getD,List.getD_eq_getElem?_getD,List.getElem?_append_left (by omega)]
 ·rfl
theorem yW {p:Pg} {l:List Dt} {d:Dt}:zcI p (l++[d]) (l.length:Nat)=d:=by
 unfold zcI
 rw [if_pos (by omega),Int.toNat_natCast,List.getD_eq_getElem?_getD]
 simp
theorem znQ {r:Rp} {i:Nat} (hi:i<r.bs.length) (cs:List Co) (hcs:(r.cs.length:Int)≤cs.length) (n:Int) (hn: -1≤n∧n<cs.length) (hb: ∀ (j:Nat) (h:j<r.bs.length),zkX r j r.bs[j]=true):
  ∀ (j:Nat) (h:j<(r.bs.set i ⟨r.bs[i].name,n⟩).length),zkX ⟨cs,r.bs.set i ⟨r.bs[i].name,n⟩⟩ j (r.bs.set i ⟨r.bs[i].name,n⟩)[j]=true:=by
 intro j h
 have hj:j<r.bs.length:=by simpa using h
 have hix: ∀ s:BA,rV (kN s) (r.bs.set i ⟨r.bs[i].name,n⟩)=rV (kN s) r.bs:=fun s=>by rw [lQ,lQ,zdH _ _ hi]
 have hbj:=hb j hj
 unfold zkX at hbj ⊢
 simp only [Bool.and_eq_true,Bool.not_eq_true',decide_eq_false_iff_not,beq_iff_eq] at hbj ⊢
 obtain ⟨⟨⟨h1,h2⟩,h3⟩,h4⟩:=hbj
 rw [List.getElem_set]
 split
 ·rename_i e;subst e
  dsimp only
  rw [hix]
  exact ⟨⟨⟨h1,h2⟩,by omega⟩,by omega⟩
 ·rw [hix]
  exact ⟨⟨⟨h1,h2⟩,h3⟩,by omega⟩
theorem sU {p:Pg} {r:Rp} {l:List Dt} (hc:zh8 p r=some l) {br:BA} {ops:List Op1} {i:Nat} (hi:i<r.bs.length) (hix:rV (kN br) r.bs=i) (he:zh7 p r br ops=0):
  r.cs.length<200∧(zk4 p (zcI p l r.bs[i].last) ops).2=0∧zh8 p ⟨r.cs++[⟨ops, -1,r.bs[i].last⟩],r.bs.set i ⟨r.bs[i].name,r.cs.length⟩⟩=some (l++[(zk4 p (zcI p l r.bs[i].last) ops).1]):=by
 obtain ⟨hb,hst,hll⟩:=zb7 hc
 obtain ⟨-,hl1,hl2⟩:=zgK hb hi
 have hE:zh7 p r br ops=if rV (kN br) r.bs<0 then 330 else if r.cs.length=200 then 2 else (zk4 p (zcI p l (r.bs.getD (rV (kN br) r.bs).toNat ⟨br, -1⟩).last) ops).2:=by unfold zh7;rw [hc]
 have hg:(r.bs.getD (i:Int).toNat ⟨br, -1⟩)=r.bs[i]:=by rw [Int.toNat_natCast,List.getD_eq_getElem?_getD,List.getElem?_eq_getElem hi];rfl
 rw [hix,if_neg (by omega),hg,he] at hE
 have h200:=hb.1
 by_cases h:r.cs.length=200
 ·rw [if_pos h] at hE;cases hE
 rw [if_neg h] at hE
 refine ⟨by omega,hE.symm,?_⟩
 have hbr:iY p ⟨r.cs++[⟨ops, -1,r.bs[i].last⟩],r.bs.set i ⟨r.bs[i].name,r.cs.length⟩⟩:=by
  obtain ⟨b1,b2,⟨b3,b4⟩,b5,b6⟩:=hb
  refine ⟨by simp;omega,by simpa using b2,⟨by simpa using b3,?_⟩,b5,?_⟩
  ·dsimp only
   rw [List.getElem_set]
   split
   ·rename_i e;subst e;exact b4
   ·exact b4
  ·exact znQ hi _ (by simp;omega) _ (by simp;omega) b6
 unfold zh8
 rw [if_pos hbr,ziY,hst]
 simp only [zg2,Option.bind_some]
 rw [if_neg (by omega),if_pos hE.symm]
theorem vK {p:Pg} {r:Rp} {l:List Dt} (hc:zh8 p r=some l) {br:BA} {ops:List Op1} {i:Nat} (hi:i<r.bs.length) (hix:rV (kN br) r.bs=i) (h200:r.cs.length<200):zh7 p r br ops=(zk4 p (zcI p l r.bs[i].last) ops).2:=by
 have hE:zh7 p r br ops=if rV (kN br) r.bs<0 then 330 else if r.cs.length=200 then 2 else (zk4 p (zcI p l (r.bs.getD (rV (kN br) r.bs).toNat ⟨br, -1⟩).last) ops).2:=by unfold zh7;rw [hc]
 have hg:(r.bs.getD (i:Int).toNat ⟨br, -1⟩)=r.bs[i]:=by rw [Int.toNat_natCast,List.getD_eq_getElem?_getD,List.getElem?_eq_getElem hi];rfl
 rw [hE,hix,if_neg (by omega),hg,if_neg (by omega)]
theorem tC {p:Pg} {r:Rp} {l:List Dt} (hc:zh8 p r=some l) {name:BA} {k:Nat} (hk:k<r.bs.length) (hn:rV (kN name) r.bs<0) (hl:r.bs.length<12) (hnm:nmF name=true):
  zh8 p ⟨r.cs,r.bs++[⟨name,r.bs[k].last⟩]⟩=some l:=by
 obtain ⟨hb,hst,hll⟩:=zb7 hc
 obtain ⟨-,hl1,hl2⟩:=zgK hb hk
 have hbr:iY p ⟨r.cs,r.bs++[⟨name,r.bs[k].last⟩]⟩:=by
  obtain ⟨b1,b2,⟨b3,b4⟩,b5,b6⟩:=hb
  refine ⟨b1,by simp;omega,⟨by simp,?_⟩,b5,?_⟩
  ·dsimp only
   rw [List.getElem_append_left b3];exact b4
  ·intro j h
   have hlen:(r.bs.map (·.name)).length=r.bs.length:=by simp
   rw [lQ] at hn
   by_cases hj:j<r.bs.length
   ·have hbj:=b6 j hj
    unfold zkX at hbj ⊢
    simp only [Bool.and_eq_true,Bool.not_eq_true',decide_eq_false_iff_not,beq_iff_eq] at hbj ⊢
    obtain ⟨⟨⟨h1,h2⟩,h3⟩,h4⟩:=hbj
    rw [List.getElem_append_left hj]
    refine ⟨⟨⟨h1,?_⟩,h3⟩,h4⟩
    rw [lQ] at h2 ⊢
    rw [List.map_append,List.map_cons,List.map_nil,zbX _ (by omega)];exact h2
   ·have:j=r.bs.length:=by simp at h;omega
    subst this
    unfold zkX
    simp only [Bool.and_eq_true,Bool.not_eq_true',decide_eq_false_iff_not,beq_iff_eq]
    rw [List.getElem_append_right (Nat.le_refl _)]
    simp only [Nat.sub_self,List.getElem_cons_zero]
    refine ⟨⟨⟨hnm,?_⟩,by omega⟩,by omega⟩
    rw [lQ,List.map_append,List.map_cons,List.map_nil,zbU _ (by simp) hn,hlen]
 unfold zh8
 rw [if_pos hbr];exact hst
end Go.AL
namespace Go.AL
open Go.Proofs Go.Proofs.Tryz
noncomputable def pP (p:Pg) (r:Rp) (c:Int):Dt×Int:=match zh8 p r with
 |none=>(znO,1)
 |some l=>if c< -1∨(r.cs.length:Int)≤c then (znO,1) else (zcI p l c,0)
theorem yF (p:Pg) (hp:p.ok) (hle:p.sm) (ha:AppP p) (r:Rp) (hr:r.sz) (c:Int):
  EPure prog G0 14 [.agg p.c,.agg r.c,i64 c] fun v=>v= .tup [.agg (pP p r c).1.c,i64 (pP p r c).2]:=by
 refine ECall.cutW (R:=fun v h=>((pP p r c).1=znO∧v= .tup [.agg [.nil,.nil],i64 (pP p r c).2])∨v= .tup [.agg (pP p r c).1.c,i64 (pP p r c).2]) (pv func14 34 false (by kernel_rfl) rfl rfl ?_) ?_
 refine g2 ?_
 ·obtain ⟨a,hst⟩:=cL (zh8 p r)
  have hck:=fL p hp hle ha r hr
  rw [hst] at hck
  refine ge ?_
  (refine g1 ?_;refine zC (hck.call zK (by simp [zJ]) _) ?_;intro p2 h2 hr2;refine g2 ?_)
  obtain ⟨rfl,rfl⟩:=hr2
  cases hc:zh8 p r with
  |none=>
   have hE:pP p r c=(znO,1):=by unfold pP;rw [hc]
   rw [hE]
   refine ge ?_
   exact .inl ⟨rfl,rfl⟩
  | some l=>
   obtain ⟨hb,hsl,hll⟩:=zb7 hc
   have hpl:=zlK hp hle hb.2.2.2.1
   have ha':a=dts l:=by rw [hc] at hst;simp only [znW] at hst;injection hst with h;injection h with h _;exact h.symm
   subst ha'
   have hE:pP p r c=if c< -1∨(r.cs.length:Int)≤c then (znO,1) else (zcI p l c,0):=by unfold pP;rw [hc]
   by_cases h1:c< -1
   ·have e1:decide (c< -1)=true:=by simp [h1]
    rw [if_pos (.inl h1)] at hE
    rw [hE]
    refine gf @e1 ?_
    exact .inl ⟨rfl,rfl⟩
   have e1:decide (c< -1)=false:=by simp [h1]
   by_cases h2:(r.cs.length:Int)≤c
   ·have e2:decide ((r.cs.length:Int)≤c)=true:=by simp [h2]
    rw [if_pos (.inr h2)] at hE
    rw [hE]
    refine gf (a2 @e1 @e2) ?_
    exact .inl ⟨rfl,rfl⟩
   have e2:decide ((r.cs.length:Int)≤c)=false:=by simp [h2]
   rw [if_neg (by omega)] at hE
   rw [hE]
   refine gf (a2 @e1 @e2) ?_
   (refine g1f (a2 @e1 @e2) ?_;refine zC ((znT p hpl l c (by omega)).call zK (by simp [zJ]) _) ?_;intro p2 h2 hr2;refine g2 ?_)
   obtain ⟨rfl,rfl⟩:=hr2
   refine gf (a2 @e1 @e2) ?_
   exact .inr rfl
 ·have tbT: ∀ (x:Dt) (e:Int),Tree (.tup [.agg x.c,i64 e]):=fun x e=>yP 40 _ (show ([.agg x.c,i64 e].all (zU 39))=true by rw [List.all_cons,eH 33 x];rfl)
  rintro v h (⟨hE,rfl⟩|rfl)
  ·rw [hE]
   exact ⟨.tup [.agg znO.c,i64 (pP p r c).2],by rw [zhM];exact PLes.tup (.cons (PLes.agg (.cons (PLe.nil_ts 1) (.cons (PLe.nil_ts 1) .nil))) (.cons (PLe.refl _) .nil)),rfl,tbT _ _⟩
  ·exact ⟨_,by rw [vE 0 h 40 _ (by show ([.agg (pP p r c).1.c,i64 (pP p r c).2].all (zU 39))=true;rw [List.all_cons,eH 33 _];rfl)];exact PLe.refl _,rfl,tbT _ _⟩
end Go.AL
namespace Go.AL
open Go.Proofs Go.Proofs.Tryz
@[go_sem] def UFrkf20.pl:Nat→DPlan
 |9=>⟨[yA,yB,yA,yA,yA,yA,yA,yB,yA,yA,yA,yB,yA,yA,yC,yA,yC],wR,0⟩
 |_=>⟨[],[],0⟩
def ForkN (r:Rp) (fr name:BA) (x:Rp):Prop:=ForkK r fr name x∧nmF name=true
open UFrkf20 in
theorem pN (r:Rp) (hbl:r.bs.length≤1099511627776) (fr name:BA) (hn:name.size≤140737488355328):
  EPure prog G0 20 [.agg r.c,yQ fr,yQ name] fun v=> ∃ (x:Rp) (e:Int),v= .tup [.agg x.c,i64 e]∧(e=0→ForkN r fr name x):=by
 refine ECall.cutW (R:=fun v h=>(∃ e:Int,v= .tup [.agg [.nil,.nil],i64 e]∧e≠0)∨ ∃ (x:Rp) (q:Nat),v= .tup [.agg [.ts 3 (x.cs.map Co.c),.vec q 2 (x.bs.map Br.c)],i64 0]∧ForkN r fr name x) (pv func20 54 false (by kernel_rfl) rfl rfl ?_) ?_
 refine g2 ?_
 ·refine ge ?_
  (refine g1 ?_;refine zC ((mR r (by omega) fr).call zK (by simp [zJ]) _) ?_;intro p2 h2 hr2;refine g2 ?_)
  obtain ⟨rfl,rfl⟩:=hr2
  obtain ⟨i1,i2⟩:=zbT (kN fr) r.bs
  have hpos:= @eQ Br (kN fr) r.bs
  generalize hi:rV (kN fr) r.bs=ix at*
  refine ge ?_
  (refine g1 ?_;refine zC ((za3 (cS name hn)).1.call zK (by simp) _) ?_;intro p2 h2 hr2;refine g2 ?_)
  obtain ⟨rfl,rfl⟩:=hr2
  have hnd:nmF name=znY 45 [yQ name] (fun _=>True):=rfl
  rw [←hnd]
  cases hb:nmF name with
  |false=>
   refine ge ?_
   exact .inl ⟨_,rfl,by decide⟩
  | true=>
   refine ge ?_
   by_cases h0:ix<0
   ·have e0:decide (ix<0)=true:=by simp [h0]
    refine gf @e0 ?_
    exact .inl ⟨_,rfl,by decide⟩
   ·have e0:decide (ix<0)=false:=by simp;omega
    obtain ⟨i,rfl⟩:=Int.eq_ofNat_of_zero_le (show 0≤ix by omega)
    obtain ⟨hil, -⟩:=hpos rfl
    refine gf @e0 ?_
    (refine g1f @e0 ?_;refine zC ((mR r (by omega) name).call zK (by simp [zJ]) _) ?_;intro p2 h2 hr2;refine g2 ?_)
    obtain ⟨rfl,rfl⟩:=hr2
    by_cases h1:0≤rV (kN name) r.bs
    ·have e1:decide (0≤rV (kN name) r.bs)=true:=by simp [h1]
     refine gf (a2 @e0 @e1) ?_
     exact .inl ⟨_,rfl,by decide⟩
    ·have e1:decide (0≤rV (kN name) r.bs)=false:=by simp;omega
     by_cases h2:12≤r.bs.length
     ·have e2:decide ((12:Int)≤(r.bs.length:Int))=true:=by simp;omega
      refine gf (a3 @e0 @e1 @e2) ?_
      exact .inl ⟨_,rfl,by decide⟩
     ·have e2:decide ((12:Int)≤(r.bs.length:Int))=false:=by simp;omega
      have hx:=zG (f:=Br.c) [] hil
      have ht:List.take r.bs.length (r.bs.map Br.c)=r.bs.map Br.c:=List.take_of_length_le (by simp)
      have hq:(r.bs.length+1)*24≤140737488355328:=by omega
      have hq2:r.bs.length≤140737488355327:=by omega
      refine gf (a9 @e0 @e1 @e2 @hil @hx @zB @ht @hq @hq2) ?_
      exact .inr ⟨⟨r.cs,r.bs++[⟨name,r.bs[i].last⟩]⟩,2,by rw [List.map_append];rfl,⟨i,hil,hi,by omega,by omega,rfl⟩,hb⟩
 ·rintro p h (⟨e,rfl,he⟩|⟨x,q,rfl,hx⟩)
  ·exact ⟨.tup [.agg (Rp.mk [] []).c,i64 e],by rw [zhM];exact PLes.tup (.cons zbJ (.cons (PLe.refl _) .nil)),⟨_,e,rfl,fun h=>absurd h he⟩,yP 40 _ rfl⟩
  ·exact ⟨.tup [.agg x.c,i64 0],by rw [fz_rp];exact PLe.refl _,⟨x,0,rfl,fun _=>hx⟩,yP 40 _ (by have:=zk7 32 x;simp only [zU,List.all_cons,List.all_nil,Bool.and_true] at this ⊢;exact this)⟩
structure FrkP (p:Pg) (r:Rp) (l:List Dt) (k:Nat) (name:BA) (x:Rp):Prop where
 sz:x.sz
 cs:x.cs=r.cs
 len:x.bs.length=r.bs.length+1
 nm:x.bs.map (·.name)=r.bs.map (·.name)++[name]
 bn: ∀ h:r.bs.length<x.bs.length,x.bs[r.bs.length]=⟨name,(r.bs.getD k ⟨name, -1⟩).last⟩
 bk: ∀ (j:Nat) (h:j<x.bs.length) (h':j<r.bs.length),x.bs[j]=r.bs[j]
 ixn:rV (kN name) x.bs=(r.bs.length:Nat)
 ixk: ∀ (h:k<r.bs.length),rV (kN r.bs[k].name) x.bs=k
 ch:zh8 p x=some l
theorem tD {p:Pg} {r:Rp} (hr:r.sz) {l:List Dt} (hc:zh8 p r=some l) {k:Nat} (hk:k<r.bs.length) {name:BA} (hname:name.size≤140737488355328) {x:Rp} (h:ForkN r r.bs[k].name name x):FrkP p r l k name x:=by
 obtain ⟨⟨i,hi,h1,h2,h3,rfl⟩,hnm⟩:=h
 obtain ⟨hb,hst,hll⟩:=zb7 hc
 obtain ⟨hix,hl1,hl2⟩:=zgK hb hk
 have:i=k:=by omega
 subst this
 have hgk:(r.bs.getD i ⟨name, -1⟩)=r.bs[i]:=by rw [List.getD_eq_getElem?_getD,List.getElem?_eq_getElem hk];rfl
 refine ⟨⟨hr.cl,hr.c,by simp;omega,fun b hb=> ?_⟩,rfl,by simp,by simp,fun h=> ?_,fun j h h'=>List.getElem_append_left h',?_,fun h=> ?_,tC hc hk h2 h3 hnm⟩
 ·rcases List.mem_append.1 hb with hb|hb
  ·exact hr.b b hb
  ·rw [List.mem_singleton] at hb;subst hb;exact hname
 ·rw [hgk];simp
 ·rw [lQ] at h2 ⊢
  rw [List.map_append,List.map_cons,List.map_nil,zbU _ (by simp) h2];simp
 ·rw [lQ] at hix ⊢
  rw [List.map_append,List.map_cons,List.map_nil,zbX _ (by omega)];exact hix
structure ComP (p:Pg) (x:Rp) (l:List Dt) (i:Nat) (d:Dt) (y:Rp):Prop where
 sz:y.sz
 len:y.bs.length=x.bs.length
 nm:y.bs.map (·.name)=x.bs.map (·.name)
 at': ∀ h:i<y.bs.length,y.bs[i].last=x.cs.length
 ne: ∀ (j:Nat) (h:j<y.bs.length) (h':j<x.bs.length),j≠i→y.bs[j].last=x.bs[j].last
 cl:y.cs.length=x.cs.length+1
 ch:zh8 p y=some (l++[d])
theorem yZ {p:Pg} {x:Rp} (hx:x.sz) {l:List Dt} (hc:zh8 p x=some l) {br:BA} {ops:List Op1} (ho:OpsG ops) {i:Nat} (hi:i<x.bs.length) (hix:rV (kN br) x.bs=i) (he:zh7 p x br ops=0) {y:Rp} {n:Int} (h:CommitK x br ops y n):ComP p x l i (zk4 p (zcI p l x.bs[i].last) ops).1 y∧n=x.cs.length:=by
 obtain ⟨j,hj,h1,rfl,rfl⟩:=h
 have:j=i:=by omega
 subst this
 obtain ⟨h200, -,hch⟩:=sU hc hi hix he
 refine ⟨⟨⟨by simp;omega,fun c hc=> ?_,by simp;exact hx.bl,fun b hb=> ?_⟩,by simp,zdH _ _ hi _,fun h=>by simp,fun m h h' hm=> ?_,by simp,hch⟩,rfl⟩
 ·rcases List.mem_append.1 hc with hc|hc
  ·exact hx.c c hc
  ·rw [List.mem_singleton] at hc;subst hc;exact ho
 ·rcases List.mem_or_eq_of_mem_set hb with hb|rfl
  ·exact hx.b b hb
  ·have e:=hx.b _ (List.getElem_mem hi)
   unfold Br.ok at e ⊢;exact e
 ·dsimp only
  rw [List.getElem_set,if_neg (fun e=>hm e.symm)]
theorem yL {p:Pg} {r:Rp} {l:List Dt} (hc:zh8 p r=some l) {c:Int} (h: -1≤c∧c<r.cs.length):pP p r c=(zcI p l c,0):=by
 unfold pP
 rw [hc];dsimp only
 rw [if_neg (by omega)]
theorem wP {p:Pg} (hp:p.ok) (hle:p.sm) (ha:AppP p) {r:Rp} (hr:r.sz) {l:List Dt} (hc:zh8 p r=some l) (c:Int):(zcI p l c).sz:=by
 obtain ⟨hb,hst, -⟩:=zb7 hc
 have hpl:=zlK hp hle hb.2.2.2.1
 exact za5 hpl (zhD hpl ha r.cs hr.c (by simp) hst) c
end Go.AL
namespace Go.AL
open Go.Proofs Go.Proofs.Tryz
@[go_sem] def USamef16.pl:Nat→DPlan
 |6=>⟨[yA,yB,yA,yA,yB,yA,yB,yA,yA,yB,yC,yA],xF,0⟩
 |11=>⟨[yA,yB,yA,yA,yB,yA,yB,yA,yA,yB,yC,yA],xF,0⟩
 |_=>⟨[],[],0⟩
@[go_sem] def USamef38.pl:Nat→DPlan
 |6=>⟨[yA,yA,yA,yA,yB,yA,yA,yA,yA,yB,yC,yA,yA,yA,yA,yA,yA,yB,yA,yA,yA,yA,yB,yC,yA,yA],iot26,0⟩
 |_=>⟨[],[],0⟩
@[go_sem] def USamef39.pl:Nat→DPlan
 |6=>⟨[yA,yA,yA,yA,yB,yA,yA,yA,yA,yB,yC,yA,yA,yA,yA,yA,yA,yB,yA,yA,yA,yA,yA,yB,yA,yA,yA],iot27,0⟩
 |11=>⟨[yA,yA,yA,yA,yB,yA,yA,yB,yA,yA,yA,yA,yB,yA,yA,yB,yA],wR,0⟩
 |_=>⟨[],[],0⟩
@[go_sem] def USamef55.pl:Nat→DPlan
 |4=>⟨[yA,yA,yA,yB,yA,yA,yA,yB,yC,yA],xS,0⟩
 |_=>⟨[],[],0⟩
@[go_sem] def USamef56.pl:Nat→DPlan
 |6=>⟨[yA,yA,yA,yB,yA,yA,yA,yB,yA],uW,0⟩
 |_=>⟨[],[],0⟩
@[go_sem] def USamef107.pl:Nat→DPlan
 |4=>⟨[yA,yA,yA,yA,yA,yA,yA],tV,0⟩
 |5=>⟨[yA,yA,yA,yA,yA,yA,yA,yA,yC,yA],xS,0⟩
 |_=>⟨[],[],0⟩
theorem vR (a:Int):EPure prog G0 83 [i64 a,i64 a] fun p=>p=i64 0:=by
 refine ECall.pure (pv func83 11 false (by kernel_rfl) rfl rfl ?_)
 refine g2 ?_
 have h1:decide (a<a)=false:=by simp
 refine gf @h1 ?_
 exact ⟨⟨rfl,.sc⟩,rfl⟩
open USamef107 in
theorem uZ (s:BA) (hs:s.size≤140737488355328):EPure prog G0 107 [yQ s,yQ s] fun p=>p=i64 0:=by
 refine ECall.pure (pv func107 39 false (by kernel_rfl) rfl rfl ?_)
 refine g2 ?_
 refine ge ?_
 refine zO s.size (K4 (.d:: .v::D9 (D9 (D9 (.d::K4 (.k::[])))))) (own:=false) (fun i (_:Unit)=>[i64 i]) (fun _=>_) (fun _ _=>True) () rfl rfl trivial hs ?_ ?_
 ·rintro _ _
  refine gm ?_
  refine gf @zM ?_
  (refine g1 ?_;refine zC ((vR s.size).call zK (by simp) _) ?_;intro p2 h2 hr2;refine g2 ?_)
  obtain ⟨rfl,rfl⟩:=hr2
  refine ge ?_
  exact ⟨⟨rfl,.sc⟩,rfl⟩
 ·rintro i _ hi hw _
  refine gm ?_
  have hi2:decide ((i:Int)<(s.size:Int))=true:=by simp;omega
  have hi3:((i:Int)<(s.size:Int))=True:=eq_true (by omega)
  (repeat (first|refine gz ?_|(refine gn ?_;intro zs zh;(try simp only [go_sem,hi,hw,hi2,hi3,zB,bne_self_eq_false] at zh);subst zh;refine gv ?_)|refine yD USamef107.pl ?_))
  exact ⟨(),trivial,rfl,rfl,rfl⟩
theorem rP (v:Vl) (hs:v.s.size≤140737488355328):EPure prog G0 82 [.agg v.c,.agg v.c] fun p=>p=i64 0:=by
 refine ECall.cut (R:=fun p _=>p=i64 0) (pv func82 30 false (by kernel_rfl) rfl rfl ?_) (by rintro p h rfl;rfl)
 refine g2 ?_
 (repeat (first|refine gz ?_|(refine gn ?_;intro zs zh;(try simp only [go_sem,bne_self_eq_false] at zh);subst zh;refine gv ?_)))
 (refine g1 ?_;refine zC ((uZ v.s hs).call zK (by simp) _) ?_;intro p2 h2 hr2;refine g2 ?_)
 obtain ⟨rfl,rfl⟩:=hr2
 refine ge ?_
 rfl
open USamef55 in
theorem uA (l:List Vl) (hl:l.length≤140737488355328) (hs: ∀ v∈l,v.s.size≤140737488355328):EPure prog G0 55 [pH l,pH l] fun p=>p=i64 0:=by
 refine ECall.pure (pv func55 36 false (by kernel_rfl) rfl rfl ?_)
 refine g2 ?_
 refine ge ?_
 refine zO l.length (K4 (.d:: .v::D9 (D9 (D4 (.d:: .d:: .d::K4 (.k::[])))))) (own:=false) (fun i (_:Unit)=>[i64 i]) (fun _=>_) (fun _ _=>True) () rfl rfl trivial hl ?_ ?_
 ·rintro _ _
  refine gm ?_
  refine gf @zM ?_
  (refine g1 ?_;refine zC ((vR l.length).call zK (by simp) _) ?_;intro p2 h2 hr2;refine g2 ?_)
  obtain ⟨rfl,rfl⟩:=hr2
  refine ge ?_
  exact ⟨⟨rfl,.sc⟩,rfl⟩
 ·rintro i _ hi hw _
  refine gm ?_
  have hx:=zG (f:=Vl.c) [] hi
  have hsx:=hs _ (List.getElem_mem hi)
  generalize l[i]=x at*
  refine gf (a4 @hi @hx @hw @zB) ?_
  (refine zF rfl rfl rfl ?_;intro zs zh;simp only [go_sem,hi,hx,hw,zB] at zh;subst zh;refine zP (by decide) (by decide) ((rP x hsx).call zK (by simp [zJ]) _) ?_;intro p2 h2 hr2 ts2 hts;simp only [go_sem] at hts;subst hts)
  obtain ⟨rfl,rfl⟩:=hr2
  have h0:((0:Int)!=0)=false:=rfl
  refine gf (a5 @hi @hx @hw @zB @h0) ?_
  exact ⟨(),trivial,rfl,rfl,rfl⟩
theorem sJ (l:List Vl) (hl:l.length≤140737488355328) (hs: ∀ v∈l,v.s.size≤140737488355328):EPure prog G0 57 [pH l,pH l] fun p=>p=bo true:=by
 refine ECall.pure (pv func57 9 false (by kernel_rfl) rfl rfl ?_)
 refine g2 ?_
 refine ge ?_
 (refine g1 ?_;refine zC ((uA l hl hs).call zK (by simp) _) ?_;intro p2 h2 hr2;refine g2 ?_)
 obtain ⟨rfl,rfl⟩:=hr2
 have h0:((0:Int)==0)=true:=rfl
 refine gf @h0 ?_
 exact ⟨⟨rfl,.sc⟩,rfl⟩
theorem eqSp2 (a b c d:Int):sE (α:=Prop) prog 82 (.agg [i64 a,i64 b]) (.agg [i64 c,i64 d])=some (a==c&&(b==d&&true),True):=by kernel_rfl
open USamef56 in
theorem sT (l:List Sp) (hl:l.length≤140737488355328):EPure prog G0 56 [kJ l,kJ l] fun p=>p=bo true:=by
 refine ECall.pure (pv func56 26 false (by kernel_rfl) rfl rfl ?_)
 refine g2 ?_
 have h0:((l.length:Int)!=(l.length:Int))=false:=by simp
 refine gf @h0 ?_
 refine zO l.length (K4 (.d:: .v::K4 (.k::D9 (D4 (.d:: .d::[]))))) (own:=false) (fun i (_:Unit)=>[i64 i]) (fun _=>_) (fun _ _=>True) () rfl rfl trivial hl ?_ ?_
 ·rintro _ _
  refine gm ?_
  refine gf @zM ?_
  exact ⟨⟨rfl,.sc⟩,rfl⟩
 ·rintro i _ hi hw _
  refine gm ?_
  have hx:=zG (f:=Sp.c) [] hi
  generalize l[i]=x at*
  refine gf (a5 @hi @hx @hw @zB @eqSp2) ?_
  exact ⟨(),trivial,rfl,rfl,rfl⟩
def Rw.cm (x:Rw):Prop:=x.args.length≤140737488355328∧(∀ v∈x.args,v.s.size≤140737488355328)∧x.w.length≤140737488355328
def LRw.cm (x:LRw):Prop:=x.args.length≤140737488355328∧(∀ v∈x.args,v.s.size≤140737488355328)∧x.cs.length≤140737488355328
open USamef38 in
theorem tB (l:List Rw) (hl:l.length≤140737488355328) (hs: ∀ x∈l,x.cm):EPure prog G0 38 [uN l,uN l] fun p=>p=bo true:=by
 refine ECall.pure (pv func38 43 false (by kernel_rfl) rfl rfl ?_)
 refine g2 ?_
 have h0:((l.length:Int)!=(l.length:Int))=false:=by simp
 refine gf @h0 ?_
 refine zO l.length (K4 (.d:: .v::K4 (.k::D9 (D9 (D9 (D4 (.d::[]))))))) (own:=false) (fun i (_:Unit)=>[i64 i]) (fun _=>_) (fun _ _=>True) () rfl rfl trivial hl ?_ ?_
 ·rintro _ _
  refine gm ?_
  refine gf @zM ?_
  exact ⟨⟨rfl,.sc⟩,rfl⟩
 ·rintro i _ hi hw _
  refine gm ?_
  have hx:=zG (f:=Rw.c) [] hi
  obtain ⟨h1,h2,h3⟩:=hs _ (List.getElem_mem hi)
  generalize l[i]=x at*
  have h4:((0:Int)!=0)=false:=rfl
  refine gf (a4 @hi @hx @hw @zB) ?_
  (refine zF rfl rfl rfl ?_;intro zs zh;simp only [go_sem,hi,hx,hw,zB] at zh;subst zh;refine zP (by decide) (by decide) ((uA x.args h1 h2).call zK (by simp) _) ?_;intro p2 h2 hr2 ts2 hts;simp only [go_sem] at hts;subst hts)
  obtain ⟨rfl,rfl⟩:=hr2
  refine gf (a5 @hi @hx @hw @zB @h4) ?_
  (refine vY ?_;refine zN rfl rfl rfl ?_;intro sr hsr;simp only [sK,List.getD_cons_succ,List.getD_cons_zero,Option.map_some,Option.getD_some,Bool.not_false,Bool.not_true] at hsr;subst hsr;(first|refine pK ?_|refine pL ?_);intro sr hsr;simp only [go_sem,hi,hx,hw,zB,h4] at hsr;subst hsr;refine zP (by decide) (by decide) ((sT x.w h3).call zK (by simp) _) ?_;intro p2 h2 hr2 ts2 hts;simp only [go_sem] at hts;subst hts)
  obtain ⟨rfl,rfl⟩:=hr2
  refine gf (a5 @hi @hx @hw @zB @h4) ?_
  exact ⟨(),trivial,rfl,rfl,rfl⟩
open USamef39 in
theorem tA (l:List LRw) (hl:l.length≤140737488355328) (hs: ∀ x∈l,x.cm):EPure prog G0 39 [vD l,vD l] fun p=>p=bo true:=by
 refine ECall.pure (pv func39 72 false (by kernel_rfl) rfl rfl ?_)
 refine g2 ?_
 have h0:((l.length:Int)!=(l.length:Int))=false:=by simp
 refine gf @h0 ?_
 refine zO l.length (K4 (.d:: .v:: .d::K4 (.k::D9 (D9 (D9 (D9 (D9 (D9 (D4 (.d:: .d::[])))))))))) (own:=false) (fun i (_:Unit)=>[i64 i]) (fun _=>_) (fun _ _=>True) () rfl rfl trivial hl ?_ ?_
 ·rintro _ _
  refine gm ?_
  refine gf @zM ?_
  exact ⟨⟨rfl,.sc⟩,rfl⟩
 ·rintro i _ hi hw _
  refine gm ?_
  have hx:=zG (f:=LRw.c) [] hi
  obtain ⟨h1,h2,h3⟩:=hs _ (List.getElem_mem hi)
  generalize l[i]=x at*
  have h4:((x.cs.length:Int)!=(x.cs.length:Int))=false:=by simp
  refine gf (a4 @hi @hx @hw @zB) ?_
  (refine zF rfl rfl rfl ?_;intro zs zh;simp only [go_sem,hi,hx,hw,zB] at zh;subst zh;refine zP (by decide) (by decide) ((sJ x.args h1 h2).call zK (by simp) _) ?_;intro p2 h2 hr2 ts2 hts;simp only [go_sem] at hts;subst hts)
  obtain ⟨rfl,rfl⟩:=hr2
  refine gf (a5 @hi @hx @hw @zB @h4) ?_
  refine zO x.cs.length (K4 (.d:: .k:: .v::K9 (K9 (K9 (K9 (.k:: .k::D9 (D9 (D9 ([]))))))))) (own:=false) (fun i (_:Unit)=>[i64 i]) (fun _=>_) (fun _ _=>True) () rfl rfl trivial h3 ?_ ?_
  ·rintro _ _
   refine gm ?_
   refine gf (a5 @hi @hx @hw @zB @zM) ?_
   exact ⟨(),trivial,rfl,rfl,rfl⟩
  ·rintro k _ hk hw2 _
   refine gm ?_
   have hy:=zG (f:=Ce.c) [] hk
   generalize x.cs[k]=y at*
   refine gf (a8 @hi @hx @hw @zB @hk @hy @hw2 @eqCe) ?_
   exact ⟨(),trivial,rfl,rfl,rfl⟩
def Dt.cm (d:Dt):Prop:=d.rels.length≤140737488355328∧d.lats.length≤140737488355328∧(∀ r∈d.rels,r.length≤140737488355328∧ ∀ x∈r,x.cm)∧ ∀ r∈d.lats,r.length≤140737488355328∧ ∀ x∈r,x.cm
theorem uC {d:Dt} (h:d.sz):d.cm:=
 ⟨by have:=h.rl;omega,by have:=h.ll;omega,fun r hr=>⟨by have:=(h.r r hr).1;omega,fun x hx=>by
  have k:=(h.r r hr).2 x hx
  exact ⟨by have:=k.al;omega,k.a,by have:=k.w;omega⟩⟩,fun r hr=>⟨by have:=(h.l r hr).1;omega,fun x hx=>by
  have k:=(h.l r hr).2 x hx
  exact ⟨by omega,h.s r hr x hx,by omega⟩⟩⟩
open USamef16 in
theorem yH (d:Dt) (hd:d.cm):EPure prog G0 16 [.agg d.c,.agg d.c] fun p=>p=bo true:=by
 obtain ⟨d1,d2,d3,d4⟩:=hd
 refine ECall.cut (R:=fun p _=>p=bo true) (pv func16 61 false (by kernel_rfl) rfl rfl ?_) (by rintro p h rfl;rfl)
 refine g2 ?_
 have h0:((d.rels.length:Int)!=(d.rels.length:Int))=false:=by simp
 have h1:((d.lats.length:Int)!=(d.lats.length:Int))=false:=by simp
 refine gf (a2 @h0 @h1) ?_
 refine zO d.rels.length (K4 (.d:: .v::K9 (K4 (K4 (D9 (D9 (.d::K9 (K9 (.k::[]))))))))) (own:=false) (fun i (_:Unit)=>[i64 i]) (fun _=>_) (fun _ _=>True) () rfl rfl trivial d1 ?_ ?_
 ·rintro _ _
  refine gm ?_
  refine gf @zM ?_
  refine zO d.lats.length (K4 (.d:: .k:: .v::K9 (K9 (K9 (K4 (K4 (D9 (D9 (.d::[]))))))))) (own:=false) (fun i (_:Unit)=>[i64 i]) (fun _=>_) (fun _ _=>True) () rfl rfl trivial d2 ?_ ?_
  ·rintro _ _
   refine gm ?_
   refine gf @zM ?_
   rfl
  ·rintro i _ hi hw _
   refine gm ?_
   have hx:=zG (f:=fun r:List LRw=>[vD r]) [] hi
   obtain ⟨k1,k2⟩:=d4 _ (List.getElem_mem hi)
   generalize d.lats[i]=x at*
   refine gf (a4 @hi @hx @hw @zB) ?_
   (refine zF rfl rfl rfl ?_;intro zs zh;simp only [go_sem,hi,hx,hw,zB] at zh;subst zh;refine zP (by decide) (by decide) ((tA x k1 k2).call zK (by simp) _) ?_;intro p2 h2 hr2 ts2 hts;simp only [go_sem] at hts;subst hts)
   obtain ⟨rfl,rfl⟩:=hr2
   refine gf (a4 @hi @hx @hw @zB) ?_
   exact ⟨(),trivial,rfl,rfl,rfl⟩
 ·rintro i _ hi hw _
  refine gm ?_
  have hx:=zG (f:=fun r:List Rw=>[uN r]) [] hi
  obtain ⟨k1,k2⟩:=d3 _ (List.getElem_mem hi)
  generalize d.rels[i]=x at*
  refine gf (a4 @hi @hx @hw @zB) ?_
  (refine zF rfl rfl rfl ?_;intro zs zh;simp only [go_sem,hi,hx,hw,zB] at zh;subst zh;refine zP (by decide) (by decide) ((tB x k1 k2).call zK (by simp) _) ?_;intro p2 h2 hr2 ts2 hts;simp only [go_sem] at hts;subst hts)
  obtain ⟨rfl,rfl⟩:=hr2
  refine gf (a4 @hi @hx @hw @zB) ?_
  exact ⟨(),trivial,rfl,rfl,rfl⟩
end Go.AL
