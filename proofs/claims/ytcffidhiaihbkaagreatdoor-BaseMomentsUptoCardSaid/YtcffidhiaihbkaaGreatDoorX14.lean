/-
  A call in a drawn region beside a place that is not laid yet.
-/
import Derived.Test.YtcffidhiaihbkaaGreatDoorX13
import Derived.KernelRfl
set_option linter.unusedSimpArgs false
set_option linter.unusedVariables false
set_option maxRecDepth 100000
set_option maxHeartbeats 4000000
namespace Go.AL
open Go.RowKit
section
variable {P:Program} {G:Glob} {rd:Option Nat} {n0:Nat} {t0:List PV}
theorem iI (hG:GTree G) {ops:Array Oper} {ann:Nat→DAnn} {QQ:Exit→Act→World→Prop} {fuel:Nat} {listed:Array Bool} {i:Nat} {s m:List PV×Heap} (hst:DStep P G rd n0 t0 ann ops.toList i s m)
  {B:Nat} {φ:List Value} {w:World} {X:Addr→Prop} {a:Act} (hA:ARel B ⟨φ,s.2,w,X⟩ G s.1 a)
  (next: ∀ (φ':List Value) (w':World) (a':Act),Ext ⟨φ,s.2,w,X⟩ ⟨φ',m.2,w',X⟩→ARel B ⟨φ',m.2,w',X⟩ G m.1 a'→wpAnyIn (FW rd) 0 P .any ops QQ fuel (listed.setIfInBounds i true) a' w'):
  wpOpIn (FW rd) 0 P ops QQ i (wpAnyIn (FW rd) 0 P .any ops QQ fuel (listed.setIfInBounds i true)) a w:=by
 obtain ⟨o,p,h1,ho',wP,rfl⟩:=hst
 have ho:ops[i]? =some o:=by simpa using ho'
 have put: ∀ (φ':List Value) (h':Heap) (w':World) (dst:Option Tmp) (q:PV) (v:Value),Ext ⟨φ,s.2,w,X⟩ ⟨φ',h',w',X⟩→SRel ⟨φ',h',w',X⟩→VRel ⟨φ',h',w',X⟩ q v→
   ARel B ⟨φ',h',w',X⟩ G (zZ s.1 dst q) (a.put dst v):=fun φ' h' w' dst q v x hs hv=>
  ⟨hs,hA.gl.ext x,(hA.tr.ext x).put dst hv,by have:=hA.mark.ext x;cases dst<;>exact this,Nat.le_trans hA.base x.size⟩
 have step: ∀ (hk:DOpr P G rd n0 t0 (ann i) o s.1 s.2 p h1),o.wpIn (FW rd) 0 P a w (wpAnyIn (FW rd) 0 P .any ops QQ fuel (listed.setIfInBounds i true)) QQ:=fun hk=>
  hk.ok hG φ w X a _ _ hA.st hA.gl (fun x _=>lI hA.gl hA.tr x) fun φ' h' w' q v x hs hv ⟨e1,e2⟩=>by subst e1;subst e2;exact next φ' w' _ x (put φ' _ w' _ _ v x hs hv)
 have skip:p= .ud→h1=s.2→wpAnyIn (FW rd) 0 P .any ops QQ fuel (listed.setIfInBounds i true) (a.put o.dst undef) w:=fun e1 e2=>by
  subst e1;subst e2
  exact next φ w _ (Ext.refl _) (put φ _ w _ .ud undef (Ext.refl _) hA.st .ud)
 simp only [wpOpIn,ho]
 unfold DGd at wP
 cases hg:o.guard with
 |none=>
  rw [hg] at wP
  rw [if_pos (by simp [Region.wanted,hg])]
  exact step wP
 | some jw=>
  obtain ⟨j,want⟩:=jw
  rw [hg] at wP
  simp only [] at wP
  split at wP
  ·rename_i b hb
   have hy:=nK hA.tr hb
   rcases wP with ⟨hbw,wP⟩|⟨hbw,e1,e2⟩
   ·rw [if_pos (by simp [Region.wanted,hg,hy,hbw])]
    exact step wP
   ·rw [if_neg (by simp [Region.wanted,hg,hy,hbw])]
    exact ⟨fun _ _=>trivial,skip e1 e2⟩
  ·rename_i hb
   have hy:=nJ hA.tr hb
   rw [if_neg (by simp [Region.wanted,hg,hy])]
   exact ⟨fun _ _=>trivial,skip wP.1 wP.2⟩
  ·exact wP.elim
theorem tX {ann:Nat→DAnn} {ops:List Oper}: ∀ {α β:List Nat} {s m s':List PV×Heap},DRun P G rd n0 t0 ann ops α s m→DRun P G rd n0 t0 ann ops β m s'→DRun P G rd n0 t0 ann ops (α++β) s s'
 | [],_,_,_,_,h,k=>by cases h;exact k
 |_::α,_,_,_,_,⟨m,h1,h2⟩,k=>⟨m,h1,tX h2 k⟩
theorem dX (hG:GTree G) {ops:Array Oper} {ann:Nat→DAnn} {QQ:Exit→Act→World→Prop} {sF sM:List PV×Heap} {Q0:List PV→Heap→Prop} (hQ0:Q0 sF.1 sF.2) {i j:Nat} {β:List Nat} (hβ:DRun P G rd n0 t0 ann ops.toList β sM sF) (hij:i≠j)
  (eij: ∀ o,ops.toList[i]? =some o→ ∀ e∈o.after,Region.binds .any e=true→e.on≠j) (hanc: ∀ b∈β,Anc ops.toList i b∨Anc ops.toList j b):
  ∀ (fuel:Nat) (α:List Nat) (listed:Array Bool) (s s1:List PV×Heap),DRun P G rd n0 t0 ann ops.toList α s s1→DRun P G rd n0 t0 ann ops.toList [i,j] s1 sM→DRun P G rd n0 t0 ann ops.toList [j,i] s1 sM→
  Plan ops.toList ann (α++i::β)→Plan ops.toList ann (α++j::β)→(α++i::j::β).length≤fuel→listed.size=ops.size→(∀ k,k<ops.size→(k∈α++i::j::β↔listed.getD k true=false))→
  (∀ (k:Nat) (o:Oper),ops[k]? =some o→listed.getD k false=true→ ∀ e∈o.after,Region.binds .any e=true→listed.getD e.on false=true)→
  ∀ (B:Nat) (φ:List Value) (w:World) (X:Addr→Prop) (a:Act),ARel B ⟨φ,s.2,w,X⟩ G s.1 a→
   (∀ (φ':List Value) (w':World) (a':Act) (ts':List PV) (h':Heap),Ext ⟨φ,s.2,w,X⟩ ⟨φ',h',w',X⟩→ARel B ⟨φ',h',w',X⟩ G ts' a'→Q0 ts' h'→QQ .normal a' w')→
   wpAnyIn (FW rd) 0 P .any ops QQ fuel listed a w:=by
 intro fuel
 induction fuel with
 |zero=>intro α listed s s1 _ _ _ _ _ hlen;simp at hlen
 | succ fuel ih=>
  intro α listed s s1 hα r1 r2 p1 p2 hlen hsz hmem hdc B φ w X a hA hQ
  have hi':i<ops.size:=by simpa using p1.lt i (by simp)
  have hj':j<ops.size:=by simpa using p2.lt j (by simp)
  have unl: ∀ k,k<ops.size→k∈α++i::j::β→listed.getD k false=false:=fun k hk h=>by
   have:=(hmem k hk).1 h
   rw [Array.getD_eq_getD_getElem?] at this ⊢
   have hlt:k<listed.size:=by omega
   simp [hlt] at this ⊢
   exact this
  have lst: ∀ k,k<ops.size→k∉α++i::j::β→listed.getD k false=true:=fun k hk h=>by
   have h1:listed.getD k true≠false:=fun e=>h ((hmem k hk).2 e)
   rw [Array.getD_eq_getD_getElem?] at h1 ⊢
   have hlt:k<listed.size:=by omega
   simp [hlt] at h1 ⊢
   exact h1
  have iα:i∉α:=fun h=>by
   have:=p1.nodup
   rw [List.nodup_append] at this
   exact this.2.2 i h i (by simp) rfl
  have iβ:i∉β:=fun h=>by
   have:=p1.nodup
   rw [List.nodup_append,List.nodup_cons] at this
   exact this.2.1.1 h
  have jα:j∉α:=fun h=>by
   have:=p2.nodup
   rw [List.nodup_append] at this
   exact this.2.2 j h j (by simp) rfl
  have jβ:j∉β:=fun h=>by
   have:=p2.nodup
   rw [List.nodup_append,List.nodup_cons] at this
   exact this.2.1.1 h
  have rdy: ∀ x,x<ops.size→x∈α++i::j::β→(∀ o,ops[x]? =some o→ ∀ e∈o.after,Region.binds .any e=true→e.on<ops.size∧e.on∉α++i::j::β)→x∈Region.ready .any ops listed:=fun x hx hm he=>by
   rw [mem_ready]
   refine ⟨(hmem x hx).1 hm,ops[x],by simp [hx],fun e he' hb=> ?_⟩
   obtain ⟨h1,h2⟩:=he ops[x] (by simp [hx]) e he' hb
   exact lst _ h1 h2
  have setm: ∀ (k:Nat) (ρ:List Nat),k<ops.size→(∀ x,x∈ρ↔x∈α++i::j::β∧x≠k)→ ∀ x,x<ops.size→(x∈ρ↔(listed.setIfInBounds k true).getD x true=false):=by
   intro k ρ hk hρ x hx
   by_cases hik:k=x
   ·subst hik
    have hlt':k<listed.size:=by omega
    simp [hlt',hρ]
   ·rw [getD_set_ne true hik, ←hmem x hx,hρ]
    simp [Ne.symm hik]
  have setd: ∀ (k:Nat),k∈Region.ready .any ops listed→ ∀ (x:Nat) (o':Oper),ops[x]? =some o'→(listed.setIfInBounds k true).getD x false=true→ ∀ e∈o'.after,Region.binds .any e=true→(listed.setIfInBounds k true).getD e.on false=true:=by
   intro k hk x o' ho' hx e he hb
   obtain ⟨h0,o,ho,hedge⟩:=mem_ready.1 hk
   by_cases hik:k=x
   ·subst hik
    rw [ho] at ho';cases ho'
    exact getD_set_true (hedge e he hb)
   ·rw [getD_set_ne false hik] at hx
    exact getD_set_true (hdc x o' ho' hx e he hb)
  refine ⟨fun hr=> ?_,fun b hb=> ?_⟩
  ·exfalso
   cases α with
   | nil=>
    have:i∈Region.ready .any ops listed:=rdy i hi' (by simp) fun o ho e he hb=>by
     have hs:=p1.self i (by simp) o (by simpa using ho) e he hb
     refine ⟨by simpa using hs.1,fun hm=> ?_⟩
     simp only [List.nil_append,List.mem_cons] at hm
     rcases hm with h|h|h
     ·exact hs.2 h
     ·exact eij o (by simpa using ho) e he hb h
     ·exact ((List.pairwise_cons.1 p1.pair).1 _ h).2 o (by simpa using ho) e he hb rfl
    rw [hr] at this;cases this
   | cons x α=>
    have hx:x<ops.size:=by simpa using p1.lt x (by simp)
    have:x∈Region.ready .any ops listed:=rdy x hx (by simp) fun o ho e he hb=>by
     have hs:=p1.self x (by simp) o (by simpa using ho) e he hb
     refine ⟨by simpa using hs.1,fun hm=> ?_⟩
     simp only [List.cons_append,List.mem_cons,List.mem_append] at hm
     have q1:=(List.pairwise_cons.1 p1.pair).1
     have q2:=(List.pairwise_cons.1 p2.pair).1
     rcases hm with h|h|h|h|h
     ·exact hs.2 h
     ·exact (q1 _ (by simp [h])).2 o (by simpa using ho) e he hb rfl
     ·exact (q1 i (by simp)).2 o (by simpa using ho) e he hb h
     ·exact (q2 j (by simp)).2 o (by simpa using ho) e he hb h
     ·exact (q1 _ (by simp [h])).2 o (by simpa using ho) e he hb rfl
    rw [hr] at this;cases this
  ·obtain ⟨h0,o,ho,hedge⟩:=mem_ready.1 hb
   have hlt:b<ops.size:=(Array.getElem?_eq_some_iff.1 ho).1
   have hbρ:b∈α++i::j::β:=(hmem b hlt).2 h0
   have noanc: ∀ x,x∈α++i::j::β→x<ops.size→ ¬Anc ops.toList x b:=fun x hx hxl hanc'=>by
    have h1:=jX hdc hanc' fun o' ho' e he hb'=>by rw [ho] at ho';cases ho';exact hedge e he hb'
    rw [unl x hxl hx] at h1
    cases h1
   have comm: ∀ (ρ:List Nat),(∀ x∈ρ,x∈α++i::j::β∧x<ops.size)→(∀ x∈ρ,(Anc ops.toList x b∨ ∀ a c,ops.toList[x]? =some a→ops.toList[b]? =some c→lK ops.toList (ann x) (ann b) a c=true))→ ∀ x∈ρ, ∀ ox,ops.toList[x]? =some ox→lK ops.toList (ann x) (ann b) ox o=true:=fun ρ h1 h2 x hx ox hox=>by
    rcases h2 x hx with h|h
    ·exact absurd h (noanc x (h1 x hx).1 (h1 x hx).2)
    ·exact h ox o hox (by simpa using ho)
   have αlt: ∀ x∈α,x<ops.size:=fun x hx=>by simpa using p1.lt x (by simp [hx])
   by_cases hbi:b=i
   ·subst hbi
    have hc:=comm α (fun x hx=>⟨by simp [hx],αlt x hx⟩) fun x hx=>((List.pairwise_append.1 p1.pair).2.2 x hx b (by simp)).1
    obtain ⟨m,hst,hrun⟩:=qW (b:=o) (by simpa using ho) (β:=[j]) hc (tX hα r1)
    refine iI hG hst hA fun φ' w' a' x hA'=> ?_
    have hrun2:DRun P G rd n0 t0 ann ops.toList (α++j::β) m sF:=by
     have:=tX hrun hβ
     simpa using this
    refine nQ hG hQ0 fuel (α++j::β) _ m hrun2 p2 (by simp at hlen ⊢;omega) (by simpa using hsz) (setm b _ hlt fun x=> ?_) (setd b hb) B φ' w' X a' hA' fun φ'' w'' a'' ts'' h'' x' hA'' hq=>hQ φ'' w'' a'' ts'' h'' (x.trans x') hA'' hq
    simp only [List.mem_append,List.mem_cons]
    constructor
    ·rintro (h|h|h)
     ·exact ⟨.inl h,fun e=>iα (e▸h)⟩
     ·exact ⟨.inr (.inr (.inl h)),fun e=>hij (e▸h)⟩
     ·exact ⟨.inr (.inr (.inr h)),fun e=>iβ (e▸h)⟩
    ·rintro ⟨h|h|h|h,hne⟩
     ·exact .inl h
     ·exact absurd h hne
     ·exact .inr (.inl h)
     ·exact .inr (.inr h)
   ·by_cases hbj:b=j
    ·subst hbj
     have hc:=comm α (fun x hx=>⟨by simp [hx],αlt x hx⟩) fun x hx=>((List.pairwise_append.1 p2.pair).2.2 x hx b (by simp)).1
     obtain ⟨m,hst,hrun⟩:=qW (b:=o) (by simpa using ho) (β:=[i]) hc (tX hα r2)
     refine iI hG hst hA fun φ' w' a' x hA'=> ?_
     have hrun2:DRun P G rd n0 t0 ann ops.toList (α++i::β) m sF:=by
      have:=tX hrun hβ
      simpa using this
     refine nQ hG hQ0 fuel (α++i::β) _ m hrun2 p1 (by simp at hlen ⊢;omega) (by simpa using hsz) (setm b _ hlt fun x=> ?_) (setd b hb) B φ' w' X a' hA' fun φ'' w'' a'' ts'' h'' x' hA'' hq=>hQ φ'' w'' a'' ts'' h'' (x.trans x') hA'' hq
     simp only [List.mem_append,List.mem_cons]
     constructor
     ·rintro (h|h|h)
      ·exact ⟨.inl h,fun e=>jα (e▸h)⟩
      ·exact ⟨.inr (.inl h),fun e=>hbi (e▸h)⟩
      ·exact ⟨.inr (.inr (.inr h)),fun e=>jβ (e▸h)⟩
     ·rintro ⟨h|h|h|h,hne⟩
      ·exact .inl h
      ·exact .inr (.inl h)
      ·exact absurd h hne
      ·exact .inr (.inr h)
    ·have hbα:b∈α:=by
      simp only [List.mem_append,List.mem_cons] at hbρ
      rcases hbρ with h|h|h|h
      ·exact h
      ·exact absurd h hbi
      ·exact absurd h hbj
      ·rcases hanc b h with h|h
       ·exact absurd h (noanc i (by simp) hi')
       ·exact absurd h (noanc j (by simp) hj')
     obtain ⟨α1,α2,rfl⟩:=List.append_of_mem hbα
     have hc:=comm α1 (fun x hx=>⟨by simp [hx],αlt x (by simp [hx])⟩) fun x hx=>by
      have:=p1.pair
      rw [List.append_assoc] at this
      exact ((List.pairwise_append.1 this).2.2 x hx b (by simp)).1
     obtain ⟨m,hst,hrun⟩:=qW (b:=o) (by simpa using ho) hc hα
     have nd:b∉α1∧b∉α2:=by
      have:=p1.nodup
      rw [List.append_assoc,List.nodup_append,List.cons_append,List.nodup_cons] at this
      exact ⟨fun h=>this.2.2 b h b (by simp) rfl,fun h=>this.2.1.1 (by simp [h])⟩
     refine iI hG hst hA fun φ' w' a' x hA'=> ?_
     refine ih (α1++α2) _ m s1 hrun r1 r2 ?_ ?_ (by simp at hlen ⊢;omega) (by simpa using hsz) (setm b _ hlt fun x=> ?_) (setd b hb) B φ' w' X a' hA' fun φ'' w'' a'' ts'' h'' x' hA'' hq=>hQ φ'' w'' a'' ts'' h'' (x.trans x') hA'' hq
     ·have:=p1
      rw [List.append_assoc,List.cons_append] at this
      simpa using this.cut
     ·have:=p2
      rw [List.append_assoc,List.cons_append] at this
      simpa using this.cut
     ·simp only [List.mem_append,List.mem_cons]
      constructor
      ·rintro ((h|h)|h|h|h)
       ·exact ⟨.inl (.inl h),fun e=>nd.1 (e▸h)⟩
       ·exact ⟨.inl (.inr (.inr h)),fun e=>nd.2 (e▸h)⟩
       ·exact ⟨.inr (.inl h),fun e=>hbi (e▸h)⟩
       ·exact ⟨.inr (.inr (.inl h)),fun e=>hbj (e▸h)⟩
       ·exact ⟨.inr (.inr (.inr h)),fun e=>by
         subst e
         rcases hanc _ h with k|k
         ·exact noanc i (by simp) hi' k
         ·exact noanc j (by simp) hj' k⟩
      ·rintro ⟨(h|h|h)|h|h|h,hne⟩
       ·exact .inl (.inl h)
       ·exact absurd h hne
       ·exact .inl (.inr h)
       ·exact .inr (.inl h)
       ·exact .inr (.inr (.inl h))
       ·exact .inr (.inr (.inr h))
end
def dF (ops:List Oper) (ann:Nat→DAnn) (α:List Nat) (i j:Nat) (β:List Nat):Bool:=
 decide ((α++i::j::β).length≤ops.length)&&(List.range ops.length).all ((α++i::j::β).contains ·)&&(α++i::j::β).all (nY ops)&&pB ops ann (qB ops (α++i::j::β) (List.replicate ops.length 0)) (α++i::β)&&
  pB ops ann (qB ops (α++i::j::β) (List.replicate ops.length 0)) (α++j::β)&&(i !=j)&&(match ops[i]? with|some o=>dH o j|none=>false)&&
  β.all fun b=>((qB ops (α++i::j::β) (List.replicate ops.length 0)).getD b 0).testBit i||((qB ops (α++i::j::β) (List.replicate ops.length 0)).getD b 0).testBit j
theorem zbL {ops:List Oper} {ann:Nat→DAnn} {m ρ:List Nat} (hm: ∀ i a,(m.getD i 0).testBit a=true→Anc ops a i) (h3: ∀ i∈ρ,nY ops i=true) (h4:pB ops ann m ρ=true):Plan ops ann ρ:=by
 obtain ⟨k1,k2⟩:=jO hm h4
 refine ⟨k1,fun i hi=> ?_,k2,fun i hi o ho e he hb=> ?_⟩
 ·have:=h3 i hi
  unfold nY at this
  rw [Bool.and_eq_true] at this
  exact of_decide_eq_true this.1
 ·have:=h3 i hi
  unfold nY at this
  rw [Bool.and_eq_true,ho] at this
  have h5:=this.2
  simp only [List.all_eq_true] at h5
  have h6:=h5 e (by simpa using he)
  rw [hb] at h6
  simpa using h6
theorem zdE {ops:List Oper} {ann:Nat→DAnn} {α:List Nat} {i j:Nat} {β:List Nat} (h:dF ops ann α i j β=true):Plan ops ann (α++i::β)∧Plan ops ann (α++j::β)∧(α++i::j::β).length≤ops.length∧(∀ k,k<ops.length→k∈α++i::j::β)∧i≠j∧
  (∀ o,ops[i]? =some o→ ∀ e∈o.after,Region.binds .any e=true→e.on≠j)∧ ∀ b∈β,Anc ops i b∨Anc ops j b:=by
 unfold dF at h
 simp only [Bool.and_eq_true] at h
 obtain ⟨⟨⟨⟨⟨⟨⟨h1,h2⟩,h3⟩,h4⟩,h5⟩,h6⟩,h7⟩,h8⟩:=h
 have hm:=fN (ops:=ops) (α++i::j::β) (List.replicate ops.length 0) (by
  intro i a ha
  rw [List.getD_eq_getElem?_getD,List.getElem?_replicate] at ha
  split at ha<;>simp at ha)
 rw [List.all_eq_true] at h2 h3 h8
 refine ⟨zbL hm (fun k hk=>h3 k ?_) h4,zbL hm (fun k hk=>h3 k ?_) h5,of_decide_eq_true h1,fun k hk=> ?_,by simpa using h6,fun o ho=> ?_,fun b hb=> ?_⟩
 ·simp only [List.mem_append,List.mem_cons] at hk ⊢
  rcases hk with h|h|h
  ·exact .inl h
  ·exact .inr (.inl h)
  ·exact .inr (.inr (.inr h))
 ·simp only [List.mem_append,List.mem_cons] at hk ⊢
  rcases hk with h|h|h
  ·exact .inl h
  ·exact .inr (.inr (.inl h))
  ·exact .inr (.inr (.inr h))
 ·have:=h2 k (by simpa using hk)
  simpa using this
 ·rw [ho] at h7
  exact gU h7
 ·have:=h8 b hb
  rw [Bool.or_eq_true] at this
  rcases this with h|h
  ·exact .inl (hm b i h)
  ·exact .inr (hm b j h)
section
variable {P:Program} {G:Glob} {rd:Option Nat} {D:Option Nat→Prop} {own:Bool}
theorem zeE (hm:P.follows .mixedOrders=true) (hG:GTree G) {id:Nat} {l:List Oper} {ann:Nat→DAnn} {α:List Nat} {i j:Nat} {β:List Nat} (hpl:dF l ann α i j β=true) (m:Nat) {Q:Exit→List PV→Heap→Prop} {ts:List PV} {h:Heap}
  (k: ∃ s1 sM sF,DRun P G rd h.length ts ann l α (ts,rY h m) s1∧DRun P G rd h.length ts ann l [i,j] s1 sM∧DRun P G rd h.length ts ann l [j,i] s1 sM∧DRun P G rd h.length ts ann l β sM sF∧Q .normal sF.1 sF.2):AWp P G rd (.region id l.toArray true) Q ts h:=by
 intro B φ w X a hA
 obtain ⟨s1,sM,sF,r1,r2,r3,r4,hq⟩:=k
 obtain ⟨q1,q2,q3,q4,q5,q6,q7⟩:=zdE hpl
 refine wpIn_region_any hm ?_
 obtain ⟨x1,hS1⟩:=fE (w.drawn+1) (Nat.le_succ _) hA.st
 obtain ⟨x2,hS2⟩:=zbG hS1 m
 have x:=x1.trans x2
 refine dX hG (Q0:=Q .normal) hq (ann:=ann) (i:=i) (j:=j) (β:=β) (by simpa using r4) q5 (by simpa using q6) (by simpa using q7) _ α _ (ts,rY h m) s1 (by simpa using r1) (by simpa using r2) (by simpa using r3) (by simpa using q1) (by simpa using q2) (by simpa using q3) (by simp) (fun k hk=> ?_) (fun k o ho hl=> ?_) B _ _ X a
  ⟨hS2,hA.gl.ext x,hA.tr.ext x,hA.mark.ext x,Nat.le_trans hA.base x.size⟩ fun φ' w' a' ts' h' x' hA' hq'=>⟨φ',ts',h',x.trans x',hA',hq'⟩
 ·simp at hk
  have:=q4 k hk
  simp only [List.mem_append,List.mem_cons] at this
  simp [hk,this]
 ·exfalso
  rw [Array.getD_eq_getD_getElem?,Array.getElem?_replicate] at hl
  split at hl<;>cases hl
theorem nP (hm:P.follows .mixedOrders=true) (hG:GTree G) (pl:DPlan) (α:List Nat) (i j:Nat) (β:List Nat) {id:Nat} {ops:Array Oper} {K:Exit→List PV→Heap→Prop} {ts:List PV} {h:Heap} (hg:dF ops.toList pl.at α i j β=true)
  (k: ∀ n0,h.length=n0→ ∀ l,ops.toList=l→ ∀ ds,l.map (·.dst)=ds→ ∀ h2,rY h pl.places=h2→AD P G own n0 ts pl.at ds l α (fun t1 g1=> ∃ tM gM,AD P G own n0 ts pl.at ds l [i,j] (fun t g=>t=tM∧g=gM) t1 g1∧AD P G own n0 ts pl.at ds l [j,i] (fun t g=>t=tM∧g=gM) t1 g1∧AD P G own n0 ts pl.at ds l β (K .normal) tM gM) ts h2):EWp P G D (.region id ops true) K ts h:=by
 obtain ⟨t1,h1,⟨tM,gM,a1,a2,a3⟩,a4⟩:=AD.det _ _ _ _ (k _ rfl _ rfl _ rfl _ rfl)
 obtain ⟨tF,hF,b1,b2⟩:=AD.det _ _ _ _ a3
 refine ⟨.normal,tF,hF,b1,fun rd _=> ?_⟩
 obtain ⟨⟨_,_⟩,d1,rfl,rfl⟩:=AD.ok (rd:=rd) _ _ _ _ (a4 (fun t h=>t=t1∧h=h1) ⟨rfl,rfl⟩)
 obtain ⟨⟨_,_⟩,d2,rfl,rfl⟩:=AD.ok (rd:=rd) _ _ _ _ a1
 obtain ⟨⟨_,_⟩,d3,e1,e2⟩:=AD.ok (rd:=rd) _ _ _ _ a2
 cases e1;cases e2
 obtain ⟨⟨t5,h5⟩,d4,e1,e2⟩:=AD.ok (rd:=rd) _ _ _ _ (b2 (fun t h=>t=tF∧h=hF) ⟨rfl,rfl⟩)
 simp only [] at e1 e2
 rw [e1,e2] at d4
 have:=zeE (P:=P) (rd:=rd) hm hG (id:=id) hg pl.places (Q:=fun e t h=>e= .normal∧t=tF∧h=hF) (ts:=ts) (h:=h) ⟨_,_,_,d1,d2,d3,d4,rfl,rfl,rfl⟩
 simpa using this
end
end Go.AL
namespace Go.AL
class Nx (p:Prop) (q:outParam Prop):Prop where
 m:q→p
theorem nx {p q:Prop} [i:Nx p q] (k:q):p:=i.m k
class Ns (p:Prop) (q:outParam Prop):Prop where
 m:q→p
theorem ns {p q:Prop} [i:Ns p q] (k:q):p:=i.m k
class Nl (a b:Nat):Prop where
 m:a<b
instance {b:Nat}:Nl 0 (b+1):=⟨Nat.zero_lt_succ b⟩
instance {a b:Nat} [i:Nl a b]:Nl (a+1) (b+1):=⟨Nat.succ_lt_succ i.m⟩
class Rs (fn:Func) (xs:outParam (List ResultVar)):Prop where
 m:fn.results.toList=xs
def AFin (r:Option (PV×Prop)) (R:PV→Heap→Prop) (h:Heap):Prop:= ∃ p c,r=some (p,c)∧c∧R p h
def Sk (p:Prop):Prop:=p
instance {p:Prop}:Nx (Sk p) p:=⟨fun k=>k⟩
section
variable {P:Program} {G:Glob} {D:Option Nat→Prop} {own:Bool} {ts:List PV} {h:Heap} {M:List PV→Heap→Prop} {K:Exit→List PV→Heap→Prop} {a b:Code}
instance:Nx (AThen M K .normal ts h) (M ts h):=⟨th_n⟩
instance {id:Nat}:Nx (AThen M K (.exit id) ts h) (K (.exit id) ts h):=⟨th_x⟩
instance:Nx (AThen M K .ret ts h) (K .ret ts h):=⟨th_r⟩
instance {id:Nat}:Nx (ABlock id K .normal ts h) (K .normal ts h):=⟨bl_n⟩
instance {id:Nat}:Nx (ABlock id K .ret ts h) (K .ret ts h):=⟨bl_r⟩
instance {x y:Nat} [i:Nl x y]:Nx (ABlock x K (.exit y) ts h) (K (.exit y) ts h):=⟨zb9 (Nat.ne_of_gt i.m)⟩
instance {x y:Nat} [i:Nl y x]:Nx (ABlock x K (.exit y) ts h) (K (.exit y) ts h):=⟨zb9 (Nat.ne_of_lt i.m)⟩
instance {x:Nat}:Nx (ABlock x K (.exit x) ts h) (K .normal ts h):=⟨zmN⟩
instance:Nx (uJ P G D own (.seq a b) K ts h) (uJ P G D own a (AThen (uJ P G D own b K) K) ts h):=⟨zaY⟩
instance {id:Nat}:Nx (uJ P G D own (.block id a) K ts h) (uJ P G D own a (ABlock id K) ts h):=⟨iH⟩
instance:Nx (uJ P G D own .skip K ts h) (K .normal ts h):=⟨eV⟩
instance {id:Nat}:Nx (uJ P G D own (.exit id) K ts h) (K (.exit id) ts h):=⟨eX⟩
instance:Nx (uJ P G D own .ret K ts h) (K .ret ts h):=⟨zaZ⟩
instance {l:Nat}:Nx (uJ P G D own (.label l) K ts h) (K .normal ts h):=⟨iG⟩
instance:Nx (uJ P G D own (.loop a) K ts h) (EWp P G D (.loop a) K ts h):=⟨eW⟩
instance {id:Nat} {ops:Array Oper}:Nx (uJ P G D own (.region id ops true) K ts h) (EWp P G D (.region id ops true) K ts h):=⟨qP⟩
instance {id:Nat} {ops:Array Oper}:Nx (uJ P G D own (.region id ops false) K ts h) (∀ l,ops.toList=l→ ∀ ds,l.map (·.dst)=ds→ER P G D own ds l (K .normal) ts h):=⟨lS⟩
instance {f:Operand} {ps:Array Tmp}:Nx (uJ P G D own (.rangeFunc f ps a b) K ts h) (EWp P G D (.rangeFunc f ps a b) K ts h):=⟨mC⟩
instance {x:Operand}:Ns (uJ P G D own (.cond x a b) K ts h) (∀ r,wV G ts x=r→ACond r (uJ P G D own a K ts h) (uJ P G D own b K ts h)):=⟨eY⟩
instance {A B:Prop}:Nx (ACond (.sc (.bool true)) A B) A:=⟨zcG⟩
instance {A B:Prop}:Nx (ACond (.sc (.bool false)) A B) B:=⟨zcH⟩
section
variable {fn:Func} {R:PV→Heap→Prop} {xs:List ResultVar}
instance [i:Rs fn xs]:Ns (AEnd P fn R .normal ts h) (∀ r,nV (α:=Prop) P ts h xs=r→AFin r R h):=⟨end_n i.m⟩
instance [i:Rs fn xs]:Ns (AEnd P fn R .ret ts h) (∀ r,nV (α:=Prop) P ts h xs=r→AFin r R h):=⟨end_r i.m⟩
instance {p:PV}:Nx (AFin (some (p,True)) R h) (R p h):=⟨fun k=>⟨p,True,rfl,trivial,k⟩⟩
end
section
variable {ds:List (Option Tmp)} {o:Oper} {rest:List Oper} {Q:List PV→Heap→Prop} {h':Heap} {p:PV}
instance:Ns (ER P G D own ds (o::rest) Q ts h) (∀ r,vU P G own ds o ts h=r→EGo P G D own ds rest Q o ts h r):=⟨wU⟩
instance:Nx (ER P G D own ds [] Q ts h) (Q ts h):=⟨za1⟩
instance:Nx (EGo P G D own ds rest Q o ts h (.val p h' True)) (∀ ts',zZ ts o.dst p=ts'→ER P G D own ds rest Q ts' h'):=⟨za0⟩
end
section
variable {n0:Nat} {t0:List PV} {ann:Nat→DAnn} {ds:List (Option Tmp)} {ops:List Oper} {i:Nat} {r:List Nat} {Q:List PV→Heap→Prop} {o:Oper} {d:DAnn} {j:Nat} {want:Bool}
instance:Nx (AD P G own n0 t0 ann ds ops [] Q ts h) (Q ts h):=⟨zmZ⟩
instance:Nx (DX P G own n0 t0 ann ds ops i r Q ts h o d j true (some (.sc (.bool true)))) (∀ s,vI P own n0 t0 d o.op (wV G ts) h=s→ADGo P G own n0 t0 ann ds ops r Q d o ts h s):=⟨pK⟩
instance:Nx (DX P G own n0 t0 ann ds ops i r Q ts h o d j false (some (.sc (.bool false)))) (∀ s,vI P own n0 t0 d o.op (wV G ts) h=s→ADGo P G own n0 t0 ann ds ops r Q d o ts h s):=⟨pL⟩
instance:Nx (DX P G own n0 t0 ann ds ops i r Q ts h o d j false (some (.sc (.bool true)))) (∀ s,SR.no=s→Sk (∀ t',zZ ts o.dst .ud=t'→AD P G own n0 t0 ann ds ops r Q t' h)):=⟨fun k=>dx_st (k _ rfl)⟩
instance:Nx (DX P G own n0 t0 ann ds ops i r Q ts h o d j true (some (.sc (.bool false)))) (∀ s,SR.no=s→Sk (∀ t',zZ ts o.dst .ud=t'→AD P G own n0 t0 ann ds ops r Q t' h)):=⟨fun k=>dx_sf (k _ rfl)⟩
instance:Nx (DX P G own n0 t0 ann ds ops i r Q ts h o d j want (some .ud)) (∀ s,SR.no=s→Sk (∀ t',zZ ts o.dst .ud=t'→AD P G own n0 t0 ann ds ops r Q t' h)):=⟨fun k=>dx_ud (k _ rfl)⟩
end
end
theorem pv {P:Program} {G:Glob} {f:FuncId} {fn:Func} (hf:P.funcs[f]? =some fn) (n:Nat) (own:Bool) {c:Code} {args:List PV} {h:Heap} {R:PV→Heap→Prop} (hen:uG P f=true) (hb:fn.body=some c) (hn:fn.ntmps=n)
  (k: ∀ ts,args++List.replicate (n-args.length) .ud=ts→uJ P G (fun rd=>rd=none) own c (AEnd P fn R) ts h):ECall P G f args h R:=by
 subst hn
 exact sA hf hb hen rfl (k _ rfl)
end Go.AL
namespace Go.AL.N
section
variable {P:Program} {G:Glob} {D:Option Nat→Prop} {own:Bool} {ts:List PV} {h:Heap} {K:Exit→List PV→Heap→Prop} {a b:Code}
instance:Nx (uJ P G D own (.seq a b) K ts h) (uJ P G D own a (AThen (uJ P G D own b K) K) ts h):=⟨zaY⟩
instance {id:Nat}:Nx (uJ P G D own (.block id a) K ts h) (uJ P G D own a (ABlock id K) ts h):=⟨iH⟩
instance:Nx (uJ P G D own .skip K ts h) (K .normal ts h):=⟨eV⟩
instance {id:Nat}:Nx (uJ P G D own (.exit id) K ts h) (K (.exit id) ts h):=⟨eX⟩
instance:Nx (uJ P G D own .ret K ts h) (K .ret ts h):=⟨zaZ⟩
instance {l:Nat}:Nx (uJ P G D own (.label l) K ts h) (K .normal ts h):=⟨iG⟩
instance:Nx (uJ P G D own (.loop a) K ts h) (EWp P G D (.loop a) K ts h):=⟨eW⟩
instance {id:Nat} {ops:Array Oper}:Nx (uJ P G D own (.region id ops true) K ts h) (EWp P G D (.region id ops true) K ts h):=⟨qP⟩
instance {id:Nat} {ops:Array Oper}:Nx (uJ P G D own (.region id ops false) K ts h) (∀ l,ops.toList=l→ ∀ ds,l.map (·.dst)=ds→ER P G D own ds l (K .normal) ts h):=⟨lS⟩
instance {x:Operand}:Ns (uJ P G D own (.cond x a b) K ts h) (∀ r,wV G ts x=r→ACond r (uJ P G D own a K ts h) (uJ P G D own b K ts h)):=⟨eY⟩
section
variable {ds:List (Option Tmp)} {o:Oper} {rest:List Oper} {Q:List PV→Heap→Prop} {h':Heap} {p:PV}
instance:Ns (ER P G D own ds (o::rest) Q ts h) (∀ r,vU P G own ds o ts h=r→EGo P G D own ds rest Q o ts h r):=⟨wU⟩
instance:Nx (ER P G D own ds [] Q ts h) (Q ts h):=⟨za1⟩
instance:Nx (EGo P G D own ds rest Q o ts h (.val p h' True)) (∀ ts',zZ ts o.dst p=ts'→ER P G D own ds rest Q ts' h'):=⟨za0⟩
end
end
theorem pv {P:Program} {G:Glob} {f:FuncId} {fn:Func} (hf:P.funcs[f]? =some fn) (n:Nat) (own:Bool) {c:Code} {args:List PV} {h:Heap} {R:PV→Heap→Prop} (hen:uG P f=true) (hb:fn.body=some c) (hn:fn.ntmps=n)
  (k: ∀ ts,args++List.replicate (n-args.length) .ud=ts→uJ P G (fun rd=>rd=none) own c (AEnd P fn R) ts h):ACall P G f args h R:=by
 subst hn
 exact sA hf hb hen rfl (k _ rfl)
end Go.AL.N
namespace Go.AL
section
variable {P:Program} {G:Glob} {rd:Option Nat} {own:Bool} {ts:List PV} {h:Heap} {K:Exit→List PV→Heap→Prop} {a b:Code}
instance:Nx (awp P G rd own (.seq a b) K ts h) (awp P G rd own a (AThen (awp P G rd own b K) K) ts h):=⟨zmO⟩
instance {id:Nat}:Nx (awp P G rd own (.block id a) K ts h) (awp P G rd own a (ABlock id K) ts h):=⟨zgR⟩
instance:Nx (awp P G rd own .skip K ts h) (K .normal ts h):=⟨zkA⟩
instance {id:Nat}:Nx (awp P G rd own (.exit id) K ts h) (K (.exit id) ts h):=⟨zkC⟩
instance:Nx (awp P G rd own .ret K ts h) (K .ret ts h):=⟨zmP⟩
instance {l:Nat}:Nx (awp P G rd own (.label l) K ts h) (K .normal ts h):=⟨zgP⟩
instance:Nx (awp P G rd own (.loop a) K ts h) (AWp P G rd (.loop a) K ts h):=⟨zkB⟩
instance {id:Nat} {ops:Array Oper}:Nx (awp P G rd own (.region id ops true) K ts h) (AWp P G rd (.region id ops true) K ts h):=⟨zgQ⟩
instance {id:Nat} {ops:Array Oper}:Nx (awp P G rd own (.region id ops false) K ts h) (∀ l,ops.toList=l→ ∀ ds,l.map (·.dst)=ds→AR P G own ds l (K .normal) ts h):=⟨zeF⟩
instance {x:Operand}:Ns (awp P G rd own (.cond x a b) K ts h) (∀ r,wV G ts x=r→ACond r (awp P G rd own a K ts h) (awp P G rd own b K ts h)):=⟨zkD⟩
section
variable {ds:List (Option Tmp)} {o:Oper} {d:Option Tmp} {rest:List Oper} {Q:List PV→Heap→Prop} {h':Heap} {p:PV}
instance:Ns (AR P G own ds (o::rest) Q ts h) (∀ r,vU P G own ds o ts h=r→AGo P G own ds rest Q o.dst ts h r):=⟨zkH⟩
instance:Nx (AR P G own ds [] Q ts h) (Q ts h):=⟨zmR⟩
instance:Nx (AGo P G own ds rest Q d ts h (.val p h' True)) (∀ ts',zZ ts d p=ts'→AR P G own ds rest Q ts' h'):=⟨zmQ⟩
end
end
end Go.AL
namespace Go.AL
theorem a2 {p1 p2:Prop} (h1:p1) (h2:p2):p1∧p2:=⟨h1,h2⟩
theorem a3 {p1 p2 p3:Prop} (h1:p1) (h2:p2) (h3:p3):p1∧p2∧p3:=⟨h1,h2,h3⟩
theorem a4 {p1 p2 p3 p4:Prop} (h1:p1) (h2:p2) (h3:p3) (h4:p4):p1∧p2∧p3∧p4:=⟨h1,h2,h3,h4⟩
theorem a5 {p1 p2 p3 p4 p5:Prop} (h1:p1) (h2:p2) (h3:p3) (h4:p4) (h5:p5):p1∧p2∧p3∧p4∧p5:=⟨h1,h2,h3,h4,h5⟩
theorem a6 {p1 p2 p3 p4 p5 p6:Prop} (h1:p1) (h2:p2) (h3:p3) (h4:p4) (h5:p5) (h6:p6):p1∧p2∧p3∧p4∧p5∧p6:=⟨h1,h2,h3,h4,h5,h6⟩
theorem a7 {p1 p2 p3 p4 p5 p6 p7:Prop} (h1:p1) (h2:p2) (h3:p3) (h4:p4) (h5:p5) (h6:p6) (h7:p7):p1∧p2∧p3∧p4∧p5∧p6∧p7:=⟨h1,h2,h3,h4,h5,h6,h7⟩
theorem a8 {p1 p2 p3 p4 p5 p6 p7 p8:Prop} (h1:p1) (h2:p2) (h3:p3) (h4:p4) (h5:p5) (h6:p6) (h7:p7) (h8:p8):p1∧p2∧p3∧p4∧p5∧p6∧p7∧p8:=⟨h1,h2,h3,h4,h5,h6,h7,h8⟩
theorem a9 {p1 p2 p3 p4 p5 p6 p7 p8 p9:Prop} (h1:p1) (h2:p2) (h3:p3) (h4:p4) (h5:p5) (h6:p6) (h7:p7) (h8:p8) (h9:p9):p1∧p2∧p3∧p4∧p5∧p6∧p7∧p8∧p9:=⟨h1,h2,h3,h4,h5,h6,h7,h8,h9⟩
theorem ge {p q:Prop} (k:q) (h:q→p:=by
  intro gk
  (repeat (first|refine nx ?_|(intro zs zh;(try simp only [go_sem] at zh);subst zh)|((first|refine ns ?_|refine zF rfl rfl rfl ?_|(refine zN rfl rfl rfl ?_;intro zs zh;(try simp only [go_sem] at zh);subst zh;refine nx ?_));intro zs zh;(try simp only [go_sem] at zh);subst zh;first|refine nx ?_|refine zH (by clear gk;omega) ?_|refine zL (by decide) ?_|refine zI (by decide) (by clear gk;omega) ?_)|refine dw pl _ _ (by kernel_rfl) ?_))
  exact gk):p:=h k
theorem gf {F0 p q:Prop} (F:F0) (k:q) (h:F0→q→p:=by
  intro F gk
  (repeat (first|refine nx ?_|(intro zs zh;(try simp only [go_sem] at zh);subst zh)|((first|refine ns ?_|refine zF rfl rfl rfl ?_|(refine zN rfl rfl rfl ?_;intro zs zh;(try simp only [go_sem] at zh);subst zh;refine nx ?_));intro zs zh;(try simp only [go_sem,F] at zh);subst zh;first|refine nx ?_|refine zH (by clear gk;omega) ?_|refine zL (by decide) ?_|refine zI (by decide) (by clear gk;omega) ?_)|refine dw pl _ _ (by kernel_rfl) ?_))
  exact gk):p:=h F k
theorem g1 {p q:Prop} (k:q) (h:q→p:=by
  intro gk
  refine ns ?_;intro zs zh;simp only [go_sem] at zh;subst zh
  exact gk):p:=h k
theorem g1f {F0 p q:Prop} (F:F0) (k:q) (h:F0→q→p:=by
  intro F gk
  refine ns ?_;intro zs zh;simp only [go_sem,F] at zh;subst zh
  exact gk):p:=h F k
theorem g2 {p q:Prop} (k:q) (h:q→p:=by
  intro gk ts2 hts
  simp only [go_sem] at hts;subst hts
  exact gk):p:=h k
theorem gm {p q:Prop} (k:q) (h:q→p:=by
  intro gk t ht
  simp only [zY] at ht;subst ht
  exact gk):p:=h k
theorem gp {p q:Prop} (k:q) (h:q→p:=by
  intro gk
  (first|refine nx ?_|(intro zs zh;(try simp only [go_sem] at zh);subst zh)|((first|refine ns ?_|refine zF rfl rfl rfl ?_|(refine zN rfl rfl rfl ?_;intro zs zh;(try simp only [go_sem] at zh);subst zh;refine nx ?_));intro zs zh;(try simp only [go_sem] at zh);subst zh;first|refine nx ?_|refine zH (by clear gk;omega) ?_|refine zL (by decide) ?_|refine zI (by decide) (by clear gk;omega) ?_)|refine dw pl _ _ (by kernel_rfl) ?_)
  (repeat (first|refine nx ?_|(intro zs zh;(try simp only [go_sem] at zh);subst zh)|((first|refine ns ?_|refine zF rfl rfl rfl ?_|(refine zN rfl rfl rfl ?_;intro zs zh;(try simp only [go_sem] at zh);subst zh;refine nx ?_));intro zs zh;(try simp only [go_sem] at zh);subst zh;first|refine nx ?_|refine zH (by clear gk;omega) ?_|refine zL (by decide) ?_|refine zI (by decide) (by clear gk;omega) ?_)|refine dw pl _ _ (by kernel_rfl) ?_))
  exact gk):p:=h k
theorem dR {F0 p q:Prop} (F:F0) (k:q) (h:F0→q→p:=by
  intro F gk
  (first|refine nx ?_|(intro zs zh;(try simp only [go_sem] at zh);subst zh)|((first|refine ns ?_|refine zF rfl rfl rfl ?_|(refine zN rfl rfl rfl ?_;intro zs zh;(try simp only [go_sem] at zh);subst zh;refine nx ?_));intro zs zh;(try simp only [go_sem,F] at zh);subst zh;first|refine nx ?_|refine zH (by clear gk;omega) ?_|refine zL (by decide) ?_|refine zI (by decide) (by clear gk;omega) ?_)|refine dw pl _ _ (by kernel_rfl) ?_)
  (repeat (first|refine nx ?_|(intro zs zh;(try simp only [go_sem] at zh);subst zh)|((first|refine ns ?_|refine zF rfl rfl rfl ?_|(refine zN rfl rfl rfl ?_;intro zs zh;(try simp only [go_sem] at zh);subst zh;refine nx ?_));intro zs zh;(try simp only [go_sem,F] at zh);subst zh;first|refine nx ?_|refine zH (by clear gk;omega) ?_|refine zL (by decide) ?_|refine zI (by decide) (by clear gk;omega) ?_)|refine dw pl _ _ (by kernel_rfl) ?_))
  exact gk):p:=h F k
theorem gs {p q1 q2 c1 c2:Prop} (k1:c1→q1) (k2:c2→q2) (h:(c1→q1)→(c2→q2)→p:=by
  intro gk1 gk2
  first
  | (refine ns ?_;intro zs zh;(try simp only [go_sem] at zh);subst zh;refine yS (fun he=> ?_) (fun he=> ?_)
     · (try simp only [decide_eq_true_eq,decide_eq_false_iff_not,Bool.not_eq_true',Bool.not_eq_false',Bool.not_eq_true,beq_iff_eq,beq_eq_false_iff_ne,bne_iff_ne,bne_eq_false_iff_eq] at he)
       exact gk1 he
     · (try simp only [decide_eq_true_eq,decide_eq_false_iff_not,Bool.not_eq_true',Bool.not_eq_false',Bool.not_eq_true,beq_iff_eq,beq_eq_false_iff_ne,bne_iff_ne,bne_eq_false_iff_eq] at he)
       exact gk2 he)
  | ((first|((with_reducible refine vY ?_);refine zN rfl rfl rfl ?_;intro sr hsr;simp only [sK,List.getD_cons_succ,List.getD_cons_zero,Option.map_some,Option.getD_some,Bool.not_false,Bool.not_true] at hsr;subst hsr;(fail_if_success (refine nx ?_));refine iT (fun he=> ?_) (fun he=> ?_))|((with_reducible refine tO rfl ?_);intro sr hsr;simp only [sK,List.getD_cons_succ,List.getD_cons_zero,Option.map_some,Option.getD_some,Bool.not_false,Bool.not_true] at hsr;subst hsr;(fail_if_success (with_reducible (first|refine tL ?_|refine tN ?_)));refine tK (fun he=> ?_) (fun he=> ?_)))
     · intro ts2 hts;simp only [List.getD_cons_succ,List.getD_cons_zero,Option.getD_some,List.set_cons_zero,List.set_cons_succ] at hts;subst hts
       (try simp only [decide_eq_true_eq,decide_eq_false_iff_not,Bool.not_eq_true',Bool.not_eq_false',Bool.not_eq_true,beq_iff_eq,beq_eq_false_iff_ne,bne_iff_ne,bne_eq_false_iff_eq] at he)
       exact gk1 he
     · intro ts2 hts;simp only [List.getD_cons_succ,List.getD_cons_zero,Option.getD_some,List.set_cons_zero,List.set_cons_succ] at hts;subst hts
       (try simp only [decide_eq_true_eq,decide_eq_false_iff_not,Bool.not_eq_true',Bool.not_eq_false',Bool.not_eq_true,beq_iff_eq,beq_eq_false_iff_ne,bne_iff_ne,bne_eq_false_iff_eq] at he)
       exact gk2 he)):p:=h k1 k2
theorem dQ {F0 p q1 q2 c1 c2:Prop} (F:F0) (k1:c1→q1) (k2:c2→q2) (h:F0→(c1→q1)→(c2→q2)→p:=by
  intro F gk1 gk2
  first
  | (refine ns ?_;intro zs zh;(try simp only [go_sem,F] at zh);subst zh;refine yS (fun he=> ?_) (fun he=> ?_)
     · (try simp only [decide_eq_true_eq,decide_eq_false_iff_not,Bool.not_eq_true',Bool.not_eq_false',Bool.not_eq_true,beq_iff_eq,beq_eq_false_iff_ne,bne_iff_ne,bne_eq_false_iff_eq] at he)
       exact gk1 he
     · (try simp only [decide_eq_true_eq,decide_eq_false_iff_not,Bool.not_eq_true',Bool.not_eq_false',Bool.not_eq_true,beq_iff_eq,beq_eq_false_iff_ne,bne_iff_ne,bne_eq_false_iff_eq] at he)
       exact gk2 he)
  | ((first|((with_reducible refine vY ?_);refine zN rfl rfl rfl ?_;intro sr hsr;simp only [sK,List.getD_cons_succ,List.getD_cons_zero,Option.map_some,Option.getD_some,Bool.not_false,Bool.not_true] at hsr;subst hsr;(fail_if_success (refine nx ?_));refine iT (fun he=> ?_) (fun he=> ?_))|((with_reducible refine tO rfl ?_);intro sr hsr;simp only [sK,List.getD_cons_succ,List.getD_cons_zero,Option.map_some,Option.getD_some,Bool.not_false,Bool.not_true] at hsr;subst hsr;(fail_if_success (with_reducible (first|refine tL ?_|refine tN ?_)));refine tK (fun he=> ?_) (fun he=> ?_)))
     · intro ts2 hts;simp only [List.getD_cons_succ,List.getD_cons_zero,Option.getD_some,List.set_cons_zero,List.set_cons_succ] at hts;subst hts
       (try simp only [decide_eq_true_eq,decide_eq_false_iff_not,Bool.not_eq_true',Bool.not_eq_false',Bool.not_eq_true,beq_iff_eq,beq_eq_false_iff_ne,bne_iff_ne,bne_eq_false_iff_eq] at he)
       exact gk1 he
     · intro ts2 hts;simp only [List.getD_cons_succ,List.getD_cons_zero,Option.getD_some,List.set_cons_zero,List.set_cons_succ] at hts;subst hts
       (try simp only [decide_eq_true_eq,decide_eq_false_iff_not,Bool.not_eq_true',Bool.not_eq_false',Bool.not_eq_true,beq_iff_eq,beq_eq_false_iff_ne,bne_iff_ne,bne_eq_false_iff_eq] at he)
       exact gk2 he)):p:=h F k1 k2
abbrev K4 (l:List Mk):List Mk:= .k:: .k:: .k:: .k::l
abbrev K9 (l:List Mk):List Mk:= .k:: .k:: .k:: .k:: .k:: .k:: .k:: .k:: .k::l
abbrev D4 (l:List Mk):List Mk:= .d:: .d:: .d:: .d::l
abbrev D9 (l:List Mk):List Mk:= .d:: .d:: .d:: .d:: .d:: .d:: .d:: .d:: .d::l
end Go.AL
namespace Go.AL
theorem gz {p q:Prop} (k:q) (h:q→p:=by
 intro gk
 (first|refine nx ?_|(intro zs zh;(try simp only [go_sem] at zh);subst zh))
 exact gk):p:=h k
theorem gn {p q:Prop} (k:q) (h:q→p:=by
 intro gk
 (first|refine ns ?_|refine zF rfl rfl rfl ?_|(refine zN rfl rfl rfl ?_;intro zs zh;(try simp only [go_sem] at zh);subst zh;refine nx ?_))
 exact gk):p:=h k
theorem gv {p q:Prop} (k:q) (h:q→p:=by
 intro gk
 (first|refine nx ?_|refine zH (by clear gk;omega) ?_|refine zL (by decide) ?_|refine zI (by decide) (by clear gk;omega) ?_)
 exact gk):p:=h k
@[go_sem] abbrev yA:DAnn:=⟨0,0,[]⟩
@[go_sem] abbrev yB:DAnn:=⟨1,0,[]⟩
@[go_sem] abbrev vC:DAnn:=⟨2,0,[]⟩
@[go_sem] abbrev uX:DAnn:=⟨3,0,[]⟩
@[go_sem] abbrev yC:DAnn:=⟨4,0,[]⟩
@[go_sem] abbrev yE:DAnn:=⟨1,0,[0]⟩
@[go_sem] abbrev rK:DAnn:=⟨6,0,[0]⟩
abbrev znU:List Nat:=[0,1,2,3,4,5]
abbrev tV:List Nat:=[0,1,2,3,4,5,6]
abbrev zqS:List Nat:=[0,1,2,3,4,5,6,7]
abbrev uW:List Nat:=[0,1,2,3,4,5,6,7,8]
abbrev xS:List Nat:=[0,1,2,3,4,5,6,7,8,9]
abbrev vJ:List Nat:=[0,1,2,3,4,5,6,7,8,9,10]
abbrev xF:List Nat:=[0,1,2,3,4,5,6,7,8,9,10,11]
abbrev yN:List Nat:=[0,1,2,3,4,5,6,7,8,9,10,11,12]
abbrev wS:List Nat:=[0,1,2,3,4,5,6,7,8,9,10,11,12,13]
abbrev yG:List Nat:=[0,1,2,3,4,5,6,7,8,9,10,11,12,13,14]
abbrev xE:List Nat:=[0,1,2,3,4,5,6,7,8,9,10,11,12,13,14,15]
abbrev wR:List Nat:=[0,1,2,3,4,5,6,7,8,9,10,11,12,13,14,15,16]
abbrev yM:List Nat:=[0,1,2,3,4,5,6,7,8,9,10,11,12,13,14,15,16,17]
abbrev sI:List Nat:=[0,1,2,3,4,5,6,7,8,9,10,11,12,13,14,15,16,17,18]
abbrev iot20:List Nat:=[0,1,2,3,4,5,6,7,8,9,10,11,12,13,14,15,16,17,18,19]
abbrev pR:List Nat:=[0,1,2,3,4,5,6,7,8,9,10,11,12,13,14,15,16,17,18,19,20]
abbrev iot24:List Nat:=[0,1,2,3,4,5,6,7,8,9,10,11,12,13,14,15,16,17,18,19,20,21,22,23]
abbrev iot26:List Nat:=[0,1,2,3,4,5,6,7,8,9,10,11,12,13,14,15,16,17,18,19,20,21,22,23,24,25]
abbrev iot27:List Nat:=[0,1,2,3,4,5,6,7,8,9,10,11,12,13,14,15,16,17,18,19,20,21,22,23,24,25,26]
abbrev pQ:List Nat:=[0,1,2,3,4,5,6,7,8,9,10,11,12,13,14,15,16,17,18,19,20,21,22,23,24,25,26,27,28,29,30]
abbrev zrL:List Nat:=[0,1,2,3,4,5,6,7,8,9,10,11,12,13,14,15,16,17,18,19,20,21,22,23,24,25,26,27,28,29,30,31]
abbrev zrK:List Nat:=[0,1,2,3,4,5,6,7,8,9,10,11,12,13,14,15,16,17,18,19,20,21,22,23,24,25,26,27,28,29,30,31,32,33]
abbrev iot35:List Nat:=[0,1,2,3,4,5,6,7,8,9,10,11,12,13,14,15,16,17,18,19,20,21,22,23,24,25,26,27,28,29,30,31,32,33,34]
end Go.AL
namespace Go.AL
section
variable {P:Program} {G:Glob} {D:Option Nat→Prop} {own:Bool}
variable {n0:Nat} {t0:List PV} {ann:Nat→DAnn} {ds:List (Option Tmp)} {ops:List Oper} {i:Nat} {r:List Nat} {Q:List PV→Heap→Prop} {ts:List PV} {h:Heap} {o:Oper} {d:DAnn}
theorem zf1 {s:Nat} {h:Heap} (hs:h[s]? =some .non):rI [s] h=h:=by
 obtain ⟨hl,e⟩:=gsi hs
 simp only [rI,List.foldl_cons,List.foldl_nil]
 rw [←e,List.set_getElem_self]
theorem jI {s:Nat} {h h':Heap} (hs:h[s]? =some .non) (hs':h'[s]? =some .non):xV [s] h h'=h':=by
 apply List.ext_getElem?
 intro r
 by_cases hr:r=s
 ·subst hr
  unfold xV
  rw [List.getElem?_mapIdx,hs']
  simp [List.getD_eq_getElem?_getD,hs]
 ·exact xA (by simpa using hr)
theorem qZ {g:FuncId} {args:List PV} {R:PV→Heap→Prop} (s:Nat) (h6:d.cl=6) (hh:kI n0 t0 d.fb=[s]) (hs:h[s]? =some .non) (hc:ECall P G g args h R) (ho: ∀ x∈o.op.operands,Tree (wV G ts x)) (hb: ∀ b∈h,AvB [s] b)
  (hk: ∀ p h',R p h'→h'[s]? =some .non∧ ∀ k∈d.fb,1000≤k→h'[nu n0 t0 k]? =h[nu n0 t0 k]?)
  (k: ∀ p h',R p h'→ ∀ ts',zZ ts o.dst p=ts'→AD P G own n0 t0 ann ds ops r Q ts' h'):ADGo P G own n0 t0 ann ds ops r Q d o ts h (.call g args):=by
 obtain ⟨p,h',a,b⟩:=hc
 obtain ⟨k1,k2⟩:=hk p h' a
 unfold ADGo ADo
 simp only [h6,if_true,hh,zf1 hs]
 refine ⟨p,h',b,?_,?_,fun x hx=>Av.of_tree (ho x hx),fun r b _ hb'=>hb b (List.mem_of_getElem? hb'),?_,?_⟩
 ·intro r hr;rw [List.mem_singleton] at hr;subst hr;exact (gsi hs).1
 ·intro r hr;rw [List.mem_singleton] at hr;subst hr;exact k1
 ·rw [jI hs k1];exact k2
 ·rw [jI hs k1];exact k p h' a _ rfl
end
end Go.AL
