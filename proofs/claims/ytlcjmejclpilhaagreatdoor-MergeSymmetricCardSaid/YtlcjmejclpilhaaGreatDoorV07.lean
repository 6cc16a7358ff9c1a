/-
  Part of the walk.
-/
import Derived.Test.YtlcjmejclpilhaaGreatDoorV06
import Derived.Test.YtlcjmejclpilhaaGreatDoorChecked
set_option linter.unusedSimpArgs false
set_option linter.unusedVariables false
set_option maxRecDepth 100000
set_option maxHeartbeats 4000000
namespace Go.AL
open Go.RowKit
section
variable{P:Program}{G:Glob}{rd:Option Nat}{n0:Nat}{t0:List PV}
theorem iI(hG:GTree G){ops:Array Oper}{ann:Nat->DAnn}{QQ:Exit->Act->World->Prop}{fuel:Nat}{listed:Array Bool}{i:Nat}{s m:List PV×Heap}(hst:DStep P G rd n0 t0 ann ops.toList i s m)
  {B:Nat} {φ:List Value} {w:World} {X:Addr->Prop} {a:Act} (hA:ARel B ⟨φ,s.2,w,X⟩ G s.1 a)
  (next: ∀(φ':List Value)(w':World)(a':Act),Ext ⟨φ,s.2,w,X⟩ ⟨φ',m.2,w',X⟩->ARel B ⟨φ',m.2,w',X⟩ G m.1 a'->wpAnyIn (FW rd) 0 P .any ops QQ fuel (listed.setIfInBounds i true) a' w'):
  wpOpIn (FW rd) 0 P ops QQ i (wpAnyIn (FW rd) 0 P .any ops QQ fuel (listed.setIfInBounds i true)) a w:=by
 obtain⟨o,p,h1,ho',wP,rfl⟩:=hst;have ho:ops[i]? =some o:=by simpa using ho'
 have put: ∀(φ':List Value)(h':Heap)(w':World)(dst:Option Tmp)(q:PV)(v:Value),Ext ⟨φ,s.2,w,X⟩ ⟨φ',h',w',X⟩->SRel ⟨φ',h',w',X⟩->VRel ⟨φ',h',w',X⟩ q v->
   ARel B ⟨φ',h',w',X⟩ G (zZ s.1 dst q) (a.put dst v):=fun φ' h' w' dst q v x hs hv=>
  ⟨hs,hA.gl.ext x,(hA.tr.ext x).put dst hv,by have:=hA.mark.ext x;cases dst<;>exact this,Ya hA.base x.size⟩
 have step: ∀(hk:DOpr P G rd n0 t0 (ann i) o s.1 s.2 p h1),o.wpIn (FW rd) 0 P a w (wpAnyIn (FW rd) 0 P .any ops QQ fuel (listed.setIfInBounds i true)) QQ:=fun hk=>
  hk.ok hG φ w X a _ _ hA.st hA.gl (fun x _=>lI hA.gl hA.tr x) fun φ' h' w' q v x hs hv ⟨e1,e2⟩=>by subst e1;subst e2;exact next φ' w' _ x (put φ' _ w' _ _ v x hs hv)
 have skip:p= .ud->h1=s.2->wpAnyIn (FW rd) 0 P .any ops QQ fuel (listed.setIfInBounds i true) (a.put o.dst undef) w:=fun e1 e2=>by
  exact Qdh
 simp only[wpOpIn,ho];unfold DGd at wP;cases hg:o.guard with
 |none=>
  rw[hg] at wP;rw[Qj (by simp[Region.wanted,hg])];exact step wP
 | some jw=>
  obtain⟨j,want⟩:=jw;rw[hg] at wP;simp only[] at wP;split at wP
  ·exact Qb0
  ·rename_i hb;exact Qcn
  ·exact wP.elim
theorem tX{ann:Nat->DAnn}{ops:List Oper}: ∀{α β:List Nat}{s m s':List PV×Heap},DRun P G rd n0 t0 ann ops α s m->DRun P G rd n0 t0 ann ops β m s'->DRun P G rd n0 t0 ann ops (α++β) s s'
 | [],_,_,_,_,h,k=>by cases h;exact k
 |_::α,_,_,_,_,⟨m,h1,h2⟩,k=>⟨m,h1,tX h2 k⟩
theorem dX(hG:GTree G){ops:Array Oper}{ann:Nat->DAnn}{QQ:Exit->Act->World->Prop}{sF sM:List PV×Heap}{Q0:List PV->Heap->Prop}(hQ0:Q0 sF.1 sF.2){i j:Nat}{β:List Nat}(hβ:DRun P G rd n0 t0 ann ops.toList β sM sF)(hij:i≠j)
  (eij: ∀o,ops.toList[i]? =some o-> ∀e∈o.after,Region.binds .any e=true->e.on≠j) (hanc: ∀b∈β,Anc ops.toList i b\/Anc ops.toList j b):
  ∀(fuel:Nat)(α:List Nat)(listed:Array Bool)(s s1:List PV×Heap),DRun P G rd n0 t0 ann ops.toList α s s1->DRun P G rd n0 t0 ann ops.toList [i,j] s1 sM->DRun P G rd n0 t0 ann ops.toList [j,i] s1 sM->
  Plan ops.toList ann (α++i::β)->Plan ops.toList ann (α++j::β)->(α++i::j::β).length<=fuel->listed.size=ops.size->(∀k,k<ops.size->(k∈α++i::j::β↔listed.getD k true=false))->
  (∀(k:Nat)(o:Oper),ops[k]? =some o->listed.getD k false=true-> ∀e∈o.after,Region.binds .any e=true->listed.getD e.on false=true)->
  ∀(B:Nat)(φ:List Value)(w:World)(X:Addr->Prop)(a:Act),ARel B ⟨φ,s.2,w,X⟩ G s.1 a->
   (∀(φ':List Value)(w':World)(a':Act)(ts':List PV)(h':Heap),Ext ⟨φ,s.2,w,X⟩ ⟨φ',h',w',X⟩->ARel B ⟨φ',h',w',X⟩ G ts' a'->Q0 ts' h'->QQ .normal a' w')->
   wpAnyIn (FW rd) 0 P .any ops QQ fuel listed a w:=by
 intro fuel
 induction fuel with
 |zero=>intro α listed s s1 _ _ _ _ _ hlen;simp at hlen
 | succ fuel ih=>
  intro α listed s s1 hα r1 r2 p1 p2 hlen hsz hmem hdc B φ w X a hA hQ;have hi':i<ops.size:=by simpa using p1.lt i Qf1
  have hj':j<ops.size:=by simpa using p2.lt j Qf1
  have unl: ∀k,k<ops.size->k∈α++i::j::β->listed.getD k false=false:=fun k hk h=>by
   have:=(hmem k hk).1 h;rw[Yx] at this ⊢
   have hlt:k<listed.size:=Qf0;simp[hlt] at this ⊢
   exact this
  have lst: ∀k,k<ops.size->k∉α++i::j::β->listed.getD k false=true:=fun k hk h=>by
   have h1:listed.getD k true≠false:=fun e=>h ((hmem k hk).2 e);rw[Yx] at h1 ⊢
   have hlt:k<listed.size:=Qf0;simp[hlt] at h1 ⊢
   exact h1
  have iα:i∉α:=fun h=>by
   have:=p1.nodup;rw[Za] at this;exact this.2.2 i h i Qf1 rfl
  have iβ:i∉β:=fun h=>by
   have:=p1.nodup;rw[Za,Zs] at this;exact this.2.1.1 h
  have jα:j∉α:=fun h=>by
   have:=p2.nodup;rw[Za] at this;exact this.2.2 j h j Qf1 rfl
  have jβ:j∉β:=fun h=>by
   have:=p2.nodup;rw[Za,Zs] at this;exact this.2.1.1 h
  have rdy: ∀x,x<ops.size->x∈α++i::j::β->(∀o,ops[x]? =some o-> ∀e∈o.after,Region.binds .any e=true->e.on<ops.size/\e.on∉α++i::j::β)->x∈Region.ready .any ops listed:=fun x hx hm he=>by
   rw[mem_ready];refine⟨(hmem x hx).1 hm,ops[x],by simp[hx],fun e he' hb=> ?_⟩;obtain⟨h1,h2⟩:=he ops[x] Qf7 e he' hb;exact lst _ h1 h2
  have setm: ∀(k:Nat)(ρ:List Nat),k<ops.size->(∀x,x∈ρ↔x∈α++i::j::β/\x≠k)-> ∀x,x<ops.size->(x∈ρ↔(listed.setIfInBounds k true).getD x true=false):=by
   intro k ρ hk hρ x hx;by_cases hik:k=x
   ·subst hik;have hlt':k<listed.size:=Qf0;simp[hlt',hρ]
   ·rw[getD_set_ne true hik,<-hmem x hx,hρ];simp[Ne.symm hik]
  have setd: ∀(k:Nat),k∈Region.ready .any ops listed-> ∀(x:Nat)(o':Oper),ops[x]? =some o'->(listed.setIfInBounds k true).getD x false=true-> ∀e∈o'.after,Region.binds .any e=true->(listed.setIfInBounds k true).getD e.on false=true:=by
   intro k hk x o' ho' hx e he hb;obtain⟨h0,o,ho,hedge⟩:=mem_ready.1 hk;by_cases hik:k=x
   ·exact Qdz
   ·rw[getD_set_ne false hik] at hx;exact getD_set_true (hdc x o' ho' hx e he hb)
  refine⟨fun hr=> ?_,fun b hb=> ?_⟩
  ·exfalso;cases α with
   | nil=>
    have:i∈Region.ready .any ops listed:=rdy i hi' Qf1 fun o ho e he hb=>by
     have hs:=p1.self i Qf1 o Qg0 e he hb;refine⟨by simpa using hs.1,fun hm=> ?_⟩;simp only[Yj,Qw] at hm;rcases hm with h|h|h
     ·exact hs.2 h
     ·exact eij o Qg0 e he hb h
     ·exact((Yb.1 p1.pair).1 _ h).2 o Qg0 e he hb rfl
    rw[hr] at this;cases this
   | cons x α=>
    have hx:x<ops.size:=by simpa using p1.lt x Qf1
    have:x∈Region.ready .any ops listed:=rdy x hx Qf1 fun o ho e he hb=>by
     have hs:=p1.self x Qf1 o Qg0 e he hb;refine⟨by simpa using hs.1,fun hm=> ?_⟩;simp only[Xx,Qw,Qo] at hm;have q1:=(Yb.1 p1.pair).1;have q2:=(Yb.1 p2.pair).1;rcases hm with h|h|h|h|h
     ·exact hs.2 h
     ·exact(q1 _ (by simp[h])).2 o Qg0 e he hb rfl
     ·exact(q1 i Qf1).2 o Qg0 e he hb h
     ·exact(q2 j Qf1).2 o Qg0 e he hb h
     ·exact(q1 _ (by simp[h])).2 o Qg0 e he hb rfl
    rw[hr] at this;cases this
  ·obtain⟨h0,o,ho,hedge⟩:=mem_ready.1 hb;have hlt:b<ops.size:=(Qz.1 ho).1;have hbρ:b∈α++i::j::β:=(hmem b hlt).2 h0;have noanc: ∀x,x∈α++i::j::β->x<ops.size-> ¬Anc ops.toList x b:=fun x hx hxl hanc'=>by
    have h1:=jX hdc hanc' fun o' ho' e he hb'=>by rw[ho] at ho';cases ho';exact hedge e he hb'
    rw[unl x hxl hx] at h1;cases h1
   have comm: ∀(ρ:List Nat),(∀x∈ρ,x∈α++i::j::β/\x<ops.size)->(∀x∈ρ,(Anc ops.toList x b\/ ∀a c,ops.toList[x]? =some a->ops.toList[b]? =some c->lK ops.toList (ann x) (ann b) a c=true))-> ∀x∈ρ, ∀ox,ops.toList[x]? =some ox->lK ops.toList (ann x) (ann b) ox o=true:=fun ρ h1 h2 x hx ox hox=>by
    rcases h2 x hx with h|h
    ·exact absurd h (noanc x (h1 x hx).1 (h1 x hx).2)
    ·exact h ox o hox Qg0
   have αlt: ∀x∈α,x<ops.size:=fun x hx=>by simpa using p1.lt x Qf7
   by_cases hbi:b=i
   ·subst hbi;have hc:=comm α (fun x hx=>⟨by simp[hx],αlt x hx⟩) fun x hx=>((Kq.1 p1.pair).2.2 x hx b Qf1).1;obtain⟨m,hst,hrun⟩:=qW (b:=o) Qg0 (β:=[j]) hc (tX hα r1);refine iI hG hst hA fun φ' w' a' x hA'=> ?_;have hrun2:DRun P G rd n0 t0 ann ops.toList (α++j::β) m sF:=by
     have:=tX hrun hβ;simpa using this
    refine nQ hG hQ0 fuel (α++j::β) _ m hrun2 p2 Qgp Qg7 (setm b _ hlt fun x=> ?_) (setd b hb) B φ' w' X a' hA' fun φ'' w'' a'' ts'' h'' x' hA'' hq=>hQ φ'' w'' a'' ts'' h'' (x.trans x') hA'' hq;simp only[Qo,Qw];constructor
    ·rintro (h|h|h)
     ·exact⟨.inl h,fun e=>iα (e▸h)⟩
     ·exact⟨.inr (.inr (.inl h)),fun e=>hij (e▸h)⟩
     ·exact⟨.inr (.inr (.inr h)),fun e=>iβ (e▸h)⟩
    ·rintro⟨h|h|h|h,hne⟩
     ·exact .inl h
     ·exact absurd h hne
     ·exact .inr (.inl h)
     ·exact .inr (.inr h)
   ·by_cases hbj:b=j
    ·subst hbj;have hc:=comm α (fun x hx=>⟨by simp[hx],αlt x hx⟩) fun x hx=>((Kq.1 p2.pair).2.2 x hx b Qf1).1;obtain⟨m,hst,hrun⟩:=qW (b:=o) Qg0 (β:=[i]) hc (tX hα r2);refine iI hG hst hA fun φ' w' a' x hA'=> ?_;have hrun2:DRun P G rd n0 t0 ann ops.toList (α++i::β) m sF:=by
      have:=tX hrun hβ;simpa using this
     refine nQ hG hQ0 fuel (α++i::β) _ m hrun2 p1 Qgp Qg7 (setm b _ hlt fun x=> ?_) (setd b hb) B φ' w' X a' hA' fun φ'' w'' a'' ts'' h'' x' hA'' hq=>hQ φ'' w'' a'' ts'' h'' (x.trans x') hA'' hq;simp only[Qo,Qw];constructor
     ·rintro (h|h|h)
      ·exact⟨.inl h,fun e=>jα (e▸h)⟩
      ·exact⟨.inr (.inl h),fun e=>hbi (e▸h)⟩
      ·exact⟨.inr (.inr (.inr h)),fun e=>jβ (e▸h)⟩
     ·rintro⟨h|h|h|h,hne⟩
      ·exact .inl h
      ·exact .inr (.inl h)
      ·exact absurd h hne
      ·exact .inr (.inr h)
    ·have hbα:b∈α:=by
      simp only[Qo,Qw] at hbρ;rcases hbρ with h|h|h|h
      ·exact h
      ·exact absurd h hbi
      ·exact absurd h hbj
      ·rcases hanc b h with h|h
       ·exact absurd h (noanc i Qf1 hi')
       ·exact absurd h (noanc j Qf1 hj')
     obtain⟨α1,α2,rfl⟩:=List.append_of_mem hbα;have hc:=comm α1 (fun x hx=>⟨by simp[hx],αlt x Qf7⟩) fun x hx=>by
      have:=p1.pair;rw[Qv] at this;exact((Kq.1 this).2.2 x hx b Qf1).1
     obtain⟨m,hst,hrun⟩:=qW (b:=o) Qg0 hc hα;have nd:b∉α1/\b∉α2:=by
      have:=p1.nodup;rw[Qv,Za,Xx,Zs] at this;exact⟨fun h=>this.2.2 b h b Qf1 rfl,fun h=>this.2.1.1 (by simp[h])⟩
     refine iI hG hst hA fun φ' w' a' x hA'=> ?_;refine ih (α1++α2) _ m s1 hrun r1 r2 ?_ ?_ Qgp Qg7 (setm b _ hlt fun x=> ?_) (setd b hb) B φ' w' X a' hA' fun φ'' w'' a'' ts'' h'' x' hA'' hq=>hQ φ'' w'' a'' ts'' h'' (x.trans x') hA'' hq
     ·have:=p1;rw[Qv,Xx] at this;simpa using this.cut
     ·have:=p2;rw[Qv,Xx] at this;simpa using this.cut
     ·simp only[Qo,Qw];constructor
      ·rintro ((h|h)|h|h|h)
       ·exact⟨.inl (.inl h),fun e=>nd.1 (e▸h)⟩
       ·exact⟨.inl (.inr (.inr h)),fun e=>nd.2 (e▸h)⟩
       ·exact⟨.inr (.inl h),fun e=>hbi (e▸h)⟩
       ·exact⟨.inr (.inr (.inl h)),fun e=>hbj (e▸h)⟩
       ·exact⟨.inr (.inr (.inr h)),fun e=>by
         subst e;rcases hanc _ h with k|k
         ·exact noanc i Qf1 hi' k
         ·exact noanc j Qf1 hj' k⟩
      ·rintro⟨(h|h|h)|h|h|h,hne⟩
       ·exact .inl (.inl h)
       ·exact absurd h hne
       ·exact .inl (.inr h)
       ·exact .inr (.inl h)
       ·exact .inr (.inr (.inl h))
       ·exact .inr (.inr (.inr h))
end
def dF(ops:List Oper)(ann:Nat->DAnn)(α:List Nat)(i j:Nat)(β:List Nat):Bool:=
 decide ((α++i::j::β).length<=ops.length)&&(List.range ops.length).all ((α++i::j::β).contains ·)&&(α++i::j::β).all (nY ops)&&pB ops ann (qB ops (α++i::j::β) (List.replicate ops.length 0)) (α++i::β)&&
  pB ops ann (qB ops (α++i::j::β) (List.replicate ops.length 0)) (α++j::β)&&(i !=j)&&(match ops[i]? with|some o=>dH o j|none=>false)&&
  β.all fun b=>((qB ops (α++i::j::β) (List.replicate ops.length 0)).getD b 0).testBit i||((qB ops (α++i::j::β) (List.replicate ops.length 0)).getD b 0).testBit j
theorem zbL{ops:List Oper}{ann:Nat->DAnn}{m ρ:List Nat}(hm: ∀i a,(m.getD i 0).testBit a=true->Anc ops a i)(h3: ∀i∈ρ,nY ops i=true)(h4:pB ops ann m ρ=true):Plan ops ann ρ:=by
 obtain⟨k1,k2⟩:=jO hm h4;refine⟨k1,fun i hi=> ?_,k2,fun i hi o ho e he hb=> ?_⟩
 ·have:=h3 i hi;unfold nY at this;rw[Qt] at this;exact Xj this.1
 ·have:=h3 i hi;unfold nY at this;rw[Qt,ho] at this;have h5:=this.2;simp only[Xg] at h5;have h6:=h5 e Qg1;rw[hb] at h6;simpa using h6
theorem zdE{ops:List Oper}{ann:Nat->DAnn}{α:List Nat}{i j:Nat}{β:List Nat}(h:dF ops ann α i j β=true):Plan ops ann (α++i::β)/\Plan ops ann (α++j::β)/\(α++i::j::β).length<=ops.length/\(∀k,k<ops.length->k∈α++i::j::β)/\i≠j/\
  (∀o,ops[i]? =some o-> ∀e∈o.after,Region.binds .any e=true->e.on≠j)/\ ∀b∈β,Anc ops i b\/Anc ops j b:=by
 unfold dF at h;simp only[Qt] at h;obtain⟨⟨⟨⟨⟨⟨⟨h1,h2⟩,h3⟩,h4⟩,h5⟩,h6⟩,h7⟩,h8⟩:=h;have hm:=fN (ops:=ops) (α++i::j::β) (List.replicate ops.length 0) (by
  intro i a ha;rw[Qb,Zf] at ha;split at ha<;>simp at ha)
 rw[Xg] at h2 h3 h8;refine⟨zbL hm (fun k hk=>h3 k ?_) h4,zbL hm (fun k hk=>h3 k ?_) h5,Xj h1,fun k hk=> ?_,by simpa using h6,fun o ho=> ?_,fun b hb=> ?_⟩
 ·simp only[Qo,Qw] at hk ⊢
  rcases hk with h|h|h
  ·exact .inl h
  ·exact .inr (.inl h)
  ·exact .inr (.inr (.inr h))
 ·simp only[Qo,Qw] at hk ⊢
  rcases hk with h|h|h
  ·exact .inl h
  ·exact .inr (.inr (.inl h))
  ·exact .inr (.inr (.inr h))
 ·have:=h2 k Qft;simpa using this
 ·rw[ho] at h7;exact gU h7
 ·have:=h8 b hb;rw[Ka] at this;rcases this with h|h
  ·exact .inl (hm b i h)
  ·exact .inr (hm b j h)
section
variable{P:Program}{G:Glob}{rd:Option Nat}{D:Option Nat->Prop}{own:Bool}
theorem zeE(hm:P.follows .mixedOrders=true)(hG:GTree G){id:Nat}{l:List Oper}{ann:Nat->DAnn}{α:List Nat}{i j:Nat}{β:List Nat}(hpl:dF l ann α i j β=true)(m:Nat){Q:Exit->List PV->Heap->Prop}{ts:List PV}{h:Heap}
  (k: ∃s1 sM sF,DRun P G rd h.length ts ann l α (ts,rY h m) s1/\DRun P G rd h.length ts ann l [i,j] s1 sM/\DRun P G rd h.length ts ann l [j,i] s1 sM/\DRun P G rd h.length ts ann l β sM sF/\Q .normal sF.1 sF.2):AWp P G rd (.region id l.toArray true) Q ts h:=by
 intro B φ w X a hA;obtain⟨s1,sM,sF,r1,r2,r3,r4,hq⟩:=k;obtain⟨q1,q2,q3,q4,q5,q6,q7⟩:=zdE hpl;refine wpIn_region_any hm ?_;obtain⟨x1,hS1⟩:=zu2 (w.drawn+1) (Nat.le_succ _) hA.st;obtain⟨x2,hS2⟩:=zbG hS1 m;have x:=x1.trans x2;refine dX hG (Q0:=Q .normal) hq (ann:=ann) (i:=i) (j:=j) (β:=β) (by simpa using r4) q5 (by simpa using q6) (by simpa using q7) _ α _ (ts,rY h m) s1 (by simpa using r1) (by simpa using r2) (by simpa using r3) (by simpa using q1) (by simpa using q2) (by simpa using q3) Qf1 (fun k hk=> ?_) (fun k o ho hl=> ?_) B _ _ X a
  ⟨hS2,hA.gl.ext x,hA.tr.ext x,hA.mark.ext x,Ya hA.base x.size⟩ fun φ' w' a' ts' h' x' hA' hq'=>⟨φ',ts',h',x.trans x',hA',hq'⟩
 ·simp at hk;have:=q4 k hk;simp only[Qo,Qw] at this;simp[hk,this]
 ·exact Qeh
theorem nP(hm:P.follows .mixedOrders=true)(hG:GTree G)(pl:DPlan)(α:List Nat)(i j:Nat)(β:List Nat){id:Nat}{ops:Array Oper}{K:Exit->List PV->Heap->Prop}{ts:List PV}{h:Heap}(hg:dF ops.toList pl.at α i j β=true)
  (k: ∀n0,h.length=n0-> ∀l,ops.toList=l-> ∀ds,l.map (·.dst)=ds-> ∀h2,rY h pl.places=h2->AD P G own n0 ts pl.at ds l α (fun t1 g1=> ∃tM gM,AD P G own n0 ts pl.at ds l [i,j] (fun t g=>t=tM/\g=gM) t1 g1/\AD P G own n0 ts pl.at ds l [j,i] (fun t g=>t=tM/\g=gM) t1 g1/\AD P G own n0 ts pl.at ds l β (K .normal) tM gM) ts h2):EWp P G D (.region id ops true) K ts h:=by
 obtain⟨t1,h1,⟨tM,gM,a1,a2,a3⟩,a4⟩:=AD.det _ _ _ _ (k _ rfl _ rfl _ rfl _ rfl);obtain⟨tF,hF,b1,b2⟩:=AD.det _ _ _ _ a3;refine⟨.normal,tF,hF,b1,fun rd _=> ?_⟩;obtain⟨⟨_,_⟩,d1,rfl,rfl⟩:=AD.ok (rd:=rd) _ _ _ _ (a4 (fun t h=>t=t1/\h=h1) ⟨rfl,rfl⟩);obtain⟨⟨_,_⟩,d2,rfl,rfl⟩:=AD.ok (rd:=rd) _ _ _ _ a1;obtain⟨⟨_,_⟩,d3,e1,e2⟩:=AD.ok (rd:=rd) _ _ _ _ a2;cases e1;cases e2;obtain⟨⟨t5,h5⟩,d4,e1,e2⟩:=AD.ok (rd:=rd) _ _ _ _ (b2 (fun t h=>t=tF/\h=hF) ⟨rfl,rfl⟩);simp only[] at e1 e2;rw[e1,e2] at d4;have:=zeE (P:=P) (rd:=rd) hm hG (id:=id) hg pl.places (Q:=fun e t h=>e= .normal/\t=tF/\h=hF) (ts:=ts) (h:=h) ⟨_,_,_,d1,d2,d3,d4,rfl,rfl,rfl⟩;simpa using this
end
end Go.AL
namespace Go.AL
class Nx(p:Prop)(q:outParam Prop):Prop where
 m:q->p
theorem nx{p q:Prop}[i:Nx p q](k:q):p:=i.m k
class Ns(p:Prop)(q:outParam Prop):Prop where
 m:q->p
theorem ns{p q:Prop}[i:Ns p q](k:q):p:=i.m k
class Nl(a b:Nat):Prop where
 m:a<b
instance{b:Nat}:Nl 0 (b+1):=⟨Nat.zero_lt_succ b⟩
instance{a b:Nat}[i:Nl a b]:Nl (a+1) (b+1):=⟨Nat.succ_lt_succ i.m⟩
class Rs(fn:Func)(xs:outParam (List ResultVar)):Prop where
 m:fn.results.toList=xs
def AFin(r:Option (PV×Prop))(R:PV->Heap->Prop)(h:Heap):Prop:= ∃p c,r=some (p,c)/\c/\R p h
def Sk(p:Prop):Prop:=p
instance{p:Prop}:Nx (Sk p) p:=⟨fun k=>k⟩
section
variable{P:Program}{G:Glob}{D:Option Nat->Prop}{own:Bool}{ts:List PV}{h:Heap}{M:List PV->Heap->Prop}{K:Exit->List PV->Heap->Prop}{a b:Code}
instance:Nx (AThen M K .normal ts h) (M ts h):=⟨th_n⟩
instance{id:Nat}:Nx (AThen M K (.exit id) ts h) (K (.exit id) ts h):=⟨th_x⟩
instance:Nx (AThen M K .ret ts h) (K .ret ts h):=⟨th_r⟩
instance{id:Nat}:Nx (ABlock id K .normal ts h) (K .normal ts h):=⟨bl_n⟩
instance{id:Nat}:Nx (ABlock id K .ret ts h) (K .ret ts h):=⟨bl_r⟩
instance{x y:Nat}[i:Nl x y]:Nx (ABlock x K (.exit y) ts h) (K (.exit y) ts h):=⟨zb9 (Nat.ne_of_gt i.m)⟩
instance{x y:Nat}[i:Nl y x]:Nx (ABlock x K (.exit y) ts h) (K (.exit y) ts h):=⟨zb9 (Nat.ne_of_lt i.m)⟩
instance{x:Nat}:Nx (ABlock x K (.exit x) ts h) (K .normal ts h):=⟨zmN⟩
instance:Nx (uJ P G D own (.seq a b) K ts h) (uJ P G D own a (AThen (uJ P G D own b K) K) ts h):=⟨zaY⟩
instance{id:Nat}:Nx (uJ P G D own (.block id a) K ts h) (uJ P G D own a (ABlock id K) ts h):=⟨iH⟩
instance:Nx (uJ P G D own .skip K ts h) (K .normal ts h):=⟨eV⟩
instance{id:Nat}:Nx (uJ P G D own (.exit id) K ts h) (K (.exit id) ts h):=⟨eX⟩
instance:Nx (uJ P G D own .ret K ts h) (K .ret ts h):=⟨zaZ⟩
instance{l:Nat}:Nx (uJ P G D own (.label l) K ts h) (K .normal ts h):=⟨iG⟩
instance:Nx (uJ P G D own (.loop a) K ts h) (EWp P G D (.loop a) K ts h):=⟨eW⟩
instance{id:Nat}{ops:Array Oper}:Nx (uJ P G D own (.region id ops true) K ts h) (EWp P G D (.region id ops true) K ts h):=⟨qP⟩
instance{id:Nat}{ops:Array Oper}:Nx (uJ P G D own (.region id ops false) K ts h) (∀l,ops.toList=l-> ∀ds,l.map (·.dst)=ds->ER P G D own ds l (K .normal) ts h):=⟨lS⟩
instance{f:Operand}{ps:Array Tmp}:Nx (uJ P G D own (.rangeFunc f ps a b) K ts h) (EWp P G D (.rangeFunc f ps a b) K ts h):=⟨mC⟩
instance{x:Operand}:Ns (uJ P G D own (.cond x a b) K ts h) (∀r,wV G ts x=r->ACond r (uJ P G D own a K ts h) (uJ P G D own b K ts h)):=⟨eY⟩
instance{A B:Prop}:Nx (ACond (.sc (.bool true)) A B) A:=⟨zcG⟩
instance{A B:Prop}:Nx (ACond (.sc (.bool false)) A B) B:=⟨zcH⟩
section
variable{fn:Func}{R:PV->Heap->Prop}{xs:List ResultVar}
instance [i:Rs fn xs]:Ns (AEnd P fn R .normal ts h) (∀r,nV (α:=Prop) P ts h xs=r->AFin r R h):=⟨end_n i.m⟩
instance [i:Rs fn xs]:Ns (AEnd P fn R .ret ts h) (∀r,nV (α:=Prop) P ts h xs=r->AFin r R h):=⟨end_r i.m⟩
instance{p:PV}:Nx (AFin (some (p,True)) R h) (R p h):=⟨fun k=>⟨p,True,rfl,trivial,k⟩⟩
end
section
variable{ds:List (Option Tmp)}{o:Oper}{rest:List Oper}{Q:List PV->Heap->Prop}{h':Heap}{p:PV}
instance:Ns (ER P G D own ds (o::rest) Q ts h) (∀r,vU P G own ds o ts h=r->EGo P G D own ds rest Q o ts h r):=⟨wU⟩
instance:Nx (ER P G D own ds [] Q ts h) (Q ts h):=⟨za1⟩
instance:Nx (EGo P G D own ds rest Q o ts h (.val p h' True)) (∀ts',zZ ts o.dst p=ts'->ER P G D own ds rest Q ts' h'):=⟨za0⟩
end
section
variable{n0:Nat}{t0:List PV}{ann:Nat->DAnn}{ds:List (Option Tmp)}{ops:List Oper}{i:Nat}{r:List Nat}{Q:List PV->Heap->Prop}{o:Oper}{d:DAnn}{j:Nat}{want:Bool}
instance:Nx (AD P G own n0 t0 ann ds ops [] Q ts h) (Q ts h):=⟨zmZ⟩
instance:Nx (DX P G own n0 t0 ann ds ops i r Q ts h o d j true (some (.sc (.bool true)))) (∀s,vI P own n0 t0 d o.op (wV G ts) h=s->ADGo P G own n0 t0 ann ds ops r Q d o ts h s):=⟨pK⟩
instance:Nx (DX P G own n0 t0 ann ds ops i r Q ts h o d j false (some (.sc (.bool false)))) (∀s,vI P own n0 t0 d o.op (wV G ts) h=s->ADGo P G own n0 t0 ann ds ops r Q d o ts h s):=⟨pL⟩
instance:Nx (DX P G own n0 t0 ann ds ops i r Q ts h o d j false (some (.sc (.bool true)))) (∀s,SR.no=s->Sk (∀t',zZ ts o.dst .ud=t'->AD P G own n0 t0 ann ds ops r Q t' h)):=⟨fun k=>dx_st (k _ rfl)⟩
instance:Nx (DX P G own n0 t0 ann ds ops i r Q ts h o d j true (some (.sc (.bool false)))) (∀s,SR.no=s->Sk (∀t',zZ ts o.dst .ud=t'->AD P G own n0 t0 ann ds ops r Q t' h)):=⟨fun k=>dx_sf (k _ rfl)⟩
instance:Nx (DX P G own n0 t0 ann ds ops i r Q ts h o d j want (some .ud)) (∀s,SR.no=s->Sk (∀t',zZ ts o.dst .ud=t'->AD P G own n0 t0 ann ds ops r Q t' h)):=⟨fun k=>dx_ud (k _ rfl)⟩
end
end
theorem pv{P:Program}{G:Glob}{f:FuncId}{fn:Func}(hf:P.funcs[f]? =some fn)(n:Nat)(own:Bool){c:Code}{args:List PV}{h:Heap}{R:PV->Heap->Prop}(hen:uG P f=true)(hb:fn.body=some c)(hn:fn.ntmps=n)
  (k: ∀ts,args++List.replicate (n-args.length) .ud=ts->uJ P G (fun rd=>rd=none) own c (AEnd P fn R) ts h):ECall P G f args h R:=by
 subst hn;exact zbX hf hb hen rfl (k _ rfl)
end Go.AL
namespace Go.AL.N
section
variable{P:Program}{G:Glob}{D:Option Nat->Prop}{own:Bool}{ts:List PV}{h:Heap}{K:Exit->List PV->Heap->Prop}{a b:Code}
instance:Nx (uJ P G D own (.seq a b) K ts h) (uJ P G D own a (AThen (uJ P G D own b K) K) ts h):=⟨zaY⟩
instance{id:Nat}:Nx (uJ P G D own (.block id a) K ts h) (uJ P G D own a (ABlock id K) ts h):=⟨iH⟩
instance:Nx (uJ P G D own .skip K ts h) (K .normal ts h):=⟨eV⟩
instance{id:Nat}:Nx (uJ P G D own (.exit id) K ts h) (K (.exit id) ts h):=⟨eX⟩
instance:Nx (uJ P G D own .ret K ts h) (K .ret ts h):=⟨zaZ⟩
instance{l:Nat}:Nx (uJ P G D own (.label l) K ts h) (K .normal ts h):=⟨iG⟩
instance:Nx (uJ P G D own (.loop a) K ts h) (EWp P G D (.loop a) K ts h):=⟨eW⟩
instance{id:Nat}{ops:Array Oper}:Nx (uJ P G D own (.region id ops true) K ts h) (EWp P G D (.region id ops true) K ts h):=⟨qP⟩
instance{id:Nat}{ops:Array Oper}:Nx (uJ P G D own (.region id ops false) K ts h) (∀l,ops.toList=l-> ∀ds,l.map (·.dst)=ds->ER P G D own ds l (K .normal) ts h):=⟨lS⟩
instance{x:Operand}:Ns (uJ P G D own (.cond x a b) K ts h) (∀r,wV G ts x=r->ACond r (uJ P G D own a K ts h) (uJ P G D own b K ts h)):=⟨eY⟩
section
variable{ds:List (Option Tmp)}{o:Oper}{rest:List Oper}{Q:List PV->Heap->Prop}{h':Heap}{p:PV}
instance:Ns (ER P G D own ds (o::rest) Q ts h) (∀r,vU P G own ds o ts h=r->EGo P G D own ds rest Q o ts h r):=⟨wU⟩
instance:Nx (ER P G D own ds [] Q ts h) (Q ts h):=⟨za1⟩
instance:Nx (EGo P G D own ds rest Q o ts h (.val p h' True)) (∀ts',zZ ts o.dst p=ts'->ER P G D own ds rest Q ts' h'):=⟨za0⟩
end
end
theorem pv{P:Program}{G:Glob}{f:FuncId}{fn:Func}(hf:P.funcs[f]? =some fn)(n:Nat)(own:Bool){c:Code}{args:List PV}{h:Heap}{R:PV->Heap->Prop}(hen:uG P f=true)(hb:fn.body=some c)(hn:fn.ntmps=n)
  (k: ∀ts,args++List.replicate (n-args.length) .ud=ts->uJ P G (fun rd=>rd=none) own c (AEnd P fn R) ts h):ACall P G f args h R:=by
 subst hn;exact zbX hf hb hen rfl (k _ rfl)
end Go.AL.N
namespace Go.AL
section
variable{P:Program}{G:Glob}{rd:Option Nat}{own:Bool}{ts:List PV}{h:Heap}{K:Exit->List PV->Heap->Prop}{a b:Code}
instance:Nx (awp P G rd own (.seq a b) K ts h) (awp P G rd own a (AThen (awp P G rd own b K) K) ts h):=⟨zmO⟩
instance{id:Nat}:Nx (awp P G rd own (.block id a) K ts h) (awp P G rd own a (ABlock id K) ts h):=⟨zgR⟩
instance:Nx (awp P G rd own .skip K ts h) (K .normal ts h):=⟨zkA⟩
instance{id:Nat}:Nx (awp P G rd own (.exit id) K ts h) (K (.exit id) ts h):=⟨zkC⟩
instance:Nx (awp P G rd own .ret K ts h) (K .ret ts h):=⟨zmP⟩
instance{l:Nat}:Nx (awp P G rd own (.label l) K ts h) (K .normal ts h):=⟨zgP⟩
instance:Nx (awp P G rd own (.loop a) K ts h) (AWp P G rd (.loop a) K ts h):=⟨zkB⟩
instance{id:Nat}{ops:Array Oper}:Nx (awp P G rd own (.region id ops true) K ts h) (AWp P G rd (.region id ops true) K ts h):=⟨zgQ⟩
instance{id:Nat}{ops:Array Oper}:Nx (awp P G rd own (.region id ops false) K ts h) (∀l,ops.toList=l-> ∀ds,l.map (·.dst)=ds->AR P G own ds l (K .normal) ts h):=⟨zeF⟩
instance{x:Operand}:Ns (awp P G rd own (.cond x a b) K ts h) (∀r,wV G ts x=r->ACond r (awp P G rd own a K ts h) (awp P G rd own b K ts h)):=⟨zkD⟩
section
variable{ds:List (Option Tmp)}{o:Oper}{d:Option Tmp}{rest:List Oper}{Q:List PV->Heap->Prop}{h':Heap}{p:PV}
instance:Ns (AR P G own ds (o::rest) Q ts h) (∀r,vU P G own ds o ts h=r->AGo P G own ds rest Q o.dst ts h r):=⟨zkH⟩
instance:Nx (AR P G own ds [] Q ts h) (Q ts h):=⟨zmR⟩
instance:Nx (AGo P G own ds rest Q d ts h (.val p h' True)) (∀ts',zZ ts d p=ts'->AR P G own ds rest Q ts' h'):=⟨zmQ⟩
end
end
end Go.AL
namespace Go.AL
theorem a2 {p1 p2:Prop} (h1:p1) (h2:p2):p1∧p2:=⟨h1,h2⟩
theorem a3 {p1 p2 p3:Prop} (h1:p1) (h2:p2) (h3:p3):p1∧p2∧p3:=⟨h1,h2,h3⟩
theorem a4 {p1 p2 p3 p4:Prop} (h1:p1) (h2:p2) (h3:p3) (h4:p4):p1∧p2∧p3∧p4:=⟨h1,h2,h3,h4⟩
theorem a5 {p1 p2 p3 p4 p5:Prop} (h1:p1) (h2:p2) (h3:p3) (h4:p4) (h5:p5):p1∧p2∧p3∧p4∧p5:=⟨h1,h2,h3,h4,h5⟩
theorem a6 {p1 p2 p3 p4 p5 p6:Prop} (h1:p1) (h2:p2) (h3:p3) (h4:p4) (h5:p5) (h6:p6):p1∧p2∧p3∧p4∧p5∧p6:=⟨h1,h2,h3,h4,h5,h6⟩
theorem a7 {p1 p2 p3 p4 p5 p6 p7:Prop} (h1:p1) (h2:p2) (h3:p3) (h4:p4) (h5:p5) (h6:p6) (h7:p7):p1∧p2∧p3∧p4∧p5∧p6∧p7:=⟨h1,h2,h3,h4,h5,h6,h7⟩
theorem a8 {p1 p2 p3 p4 p5 p6 p7 p8:Prop} (h1:p1) (h2:p2) (h3:p3) (h4:p4) (h5:p5) (h6:p6) (h7:p7) (h8:p8):p1∧p2∧p3∧p4∧p5∧p6∧p7∧p8:=⟨h1,h2,h3,h4,h5,h6,h7,h8⟩
theorem a9 {p1 p2 p3 p4 p5 p6 p7 p8 p9:Prop} (h1:p1) (h2:p2) (h3:p3) (h4:p4) (h5:p5) (h6:p6) (h7:p7) (h8:p8) (h9:p9):p1∧p2∧p3∧p4∧p5∧p6∧p7∧p8∧p9:=⟨h1,h2,h3,h4,h5,h6,h7,h8,h9⟩
theorem ge {p q:Prop} (k:q) (h:q→p:=by
  intro gk
  (repeat (first|refine nx ?_|(intro zs zh;(try simp only [go_sem] at zh);subst zh)|((first|refine ns ?_|refine zF rfl rfl rfl ?_|(refine zN rfl rfl rfl ?_;intro zs zh;(try simp only [go_sem] at zh);subst zh;refine nx ?_));intro zs zh;(try simp only [go_sem] at zh);subst zh;first|refine nx ?_|refine zH (by clear gk;omega) ?_|refine zL (by decide) ?_|refine zI (by decide) (by clear gk;omega) ?_)|refine dw pl _ _ (by kernel_rfl) ?_))
  exact gk):p:=h k
theorem gf {F0 p q:Prop} (F:F0) (k:q) (h:F0→q→p:=by
  intro F gk
  (repeat (first|refine nx ?_|(intro zs zh;(try simp only [go_sem] at zh);subst zh)|((first|refine ns ?_|refine zF rfl rfl rfl ?_|(refine zN rfl rfl rfl ?_;intro zs zh;(try simp only [go_sem] at zh);subst zh;refine nx ?_));intro zs zh;(try simp only [go_sem,F] at zh);subst zh;first|refine nx ?_|refine zH (by clear gk;omega) ?_|refine zL (by decide) ?_|refine zI (by decide) (by clear gk;omega) ?_)|refine dw pl _ _ (by kernel_rfl) ?_))
  exact gk):p:=h F k
theorem g1 {p q:Prop} (k:q) (h:q→p:=by
  intro gk
  refine ns ?_;intro zs zh;simp only [go_sem] at zh;subst zh
  exact gk):p:=h k
theorem g1f {F0 p q:Prop} (F:F0) (k:q) (h:F0→q→p:=by
  intro F gk
  refine ns ?_;intro zs zh;simp only [go_sem,F] at zh;subst zh
  exact gk):p:=h F k
theorem g2 {p q:Prop} (k:q) (h:q→p:=by
  intro gk ts2 hts
  simp only [go_sem] at hts;subst hts
  exact gk):p:=h k
theorem gm {p q:Prop} (k:q) (h:q→p:=by
  intro gk t ht
  simp only [zY] at ht;subst ht
  exact gk):p:=h k
theorem gp {p q:Prop} (k:q) (h:q→p:=by
  intro gk
  (first|refine nx ?_|(intro zs zh;(try simp only [go_sem] at zh);subst zh)|((first|refine ns ?_|refine zF rfl rfl rfl ?_|(refine zN rfl rfl rfl ?_;intro zs zh;(try simp only [go_sem] at zh);subst zh;refine nx ?_));intro zs zh;(try simp only [go_sem] at zh);subst zh;first|refine nx ?_|refine zH (by clear gk;omega) ?_|refine zL (by decide) ?_|refine zI (by decide) (by clear gk;omega) ?_)|refine dw pl _ _ (by kernel_rfl) ?_)
  (repeat (first|refine nx ?_|(intro zs zh;(try simp only [go_sem] at zh);subst zh)|((first|refine ns ?_|refine zF rfl rfl rfl ?_|(refine zN rfl rfl rfl ?_;intro zs zh;(try simp only [go_sem] at zh);subst zh;refine nx ?_));intro zs zh;(try simp only [go_sem] at zh);subst zh;first|refine nx ?_|refine zH (by clear gk;omega) ?_|refine zL (by decide) ?_|refine zI (by decide) (by clear gk;omega) ?_)|refine dw pl _ _ (by kernel_rfl) ?_))
  exact gk):p:=h k
theorem dR {F0 p q:Prop} (F:F0) (k:q) (h:F0→q→p:=by
  intro F gk
  (first|refine nx ?_|(intro zs zh;(try simp only [go_sem] at zh);subst zh)|((first|refine ns ?_|refine zF rfl rfl rfl ?_|(refine zN rfl rfl rfl ?_;intro zs zh;(try simp only [go_sem] at zh);subst zh;refine nx ?_));intro zs zh;(try simp only [go_sem,F] at zh);subst zh;first|refine nx ?_|refine zH (by clear gk;omega) ?_|refine zL (by decide) ?_|refine zI (by decide) (by clear gk;omega) ?_)|refine dw pl _ _ (by kernel_rfl) ?_)
  (repeat (first|refine nx ?_|(intro zs zh;(try simp only [go_sem] at zh);subst zh)|((first|refine ns ?_|refine zF rfl rfl rfl ?_|(refine zN rfl rfl rfl ?_;intro zs zh;(try simp only [go_sem] at zh);subst zh;refine nx ?_));intro zs zh;(try simp only [go_sem,F] at zh);subst zh;first|refine nx ?_|refine zH (by clear gk;omega) ?_|refine zL (by decide) ?_|refine zI (by decide) (by clear gk;omega) ?_)|refine dw pl _ _ (by kernel_rfl) ?_))
  exact gk):p:=h F k
theorem gs {p q1 q2 c1 c2:Prop} (k1:c1→q1) (k2:c2→q2) (h:(c1→q1)→(c2→q2)→p:=by
  intro gk1 gk2
  first
  | (refine ns ?_;intro zs zh;(try simp only [go_sem] at zh);subst zh;refine yS (fun he=> ?_) (fun he=> ?_)
     · (try simp only [decide_eq_true_eq,decide_eq_false_iff_not,Bool.not_eq_true',Bool.not_eq_false',Bool.not_eq_true,beq_iff_eq,beq_eq_false_iff_ne,bne_iff_ne,bne_eq_false_iff_eq] at he)
       exact gk1 he
     · (try simp only [decide_eq_true_eq,decide_eq_false_iff_not,Bool.not_eq_true',Bool.not_eq_false',Bool.not_eq_true,beq_iff_eq,beq_eq_false_iff_ne,bne_iff_ne,bne_eq_false_iff_eq] at he)
       exact gk2 he)
  | ((first|((with_reducible refine vY ?_);refine zN rfl rfl rfl ?_;intro sr hsr;simp only [sK,List.getD_cons_succ,List.getD_cons_zero,Option.map_some,Option.getD_some,Bool.not_false,Bool.not_true] at hsr;subst hsr;(fail_if_success (refine nx ?_));refine iT (fun he=> ?_) (fun he=> ?_))|((with_reducible refine tO rfl ?_);intro sr hsr;simp only [sK,List.getD_cons_succ,List.getD_cons_zero,Option.map_some,Option.getD_some,Bool.not_false,Bool.not_true] at hsr;subst hsr;(fail_if_success (with_reducible (first|refine tL ?_|refine tN ?_)));refine tK (fun he=> ?_) (fun he=> ?_)))
     · intro ts2 hts;simp only [List.getD_cons_succ,List.getD_cons_zero,Option.getD_some,List.set_cons_zero,List.set_cons_succ] at hts;subst hts
       (try simp only [decide_eq_true_eq,decide_eq_false_iff_not,Bool.not_eq_true',Bool.not_eq_false',Bool.not_eq_true,beq_iff_eq,beq_eq_false_iff_ne,bne_iff_ne,bne_eq_false_iff_eq] at he)
       exact gk1 he
     · intro ts2 hts;simp only [List.getD_cons_succ,List.getD_cons_zero,Option.getD_some,List.set_cons_zero,List.set_cons_succ] at hts;subst hts
       (try simp only [decide_eq_true_eq,decide_eq_false_iff_not,Bool.not_eq_true',Bool.not_eq_false',Bool.not_eq_true,beq_iff_eq,beq_eq_false_iff_ne,bne_iff_ne,bne_eq_false_iff_eq] at he)
       exact gk2 he)):p:=h k1 k2
theorem dQ {F0 p q1 q2 c1 c2:Prop} (F:F0) (k1:c1→q1) (k2:c2→q2) (h:F0→(c1→q1)→(c2→q2)→p:=by
  intro F gk1 gk2
  first
  | (refine ns ?_;intro zs zh;(try simp only [go_sem,F] at zh);subst zh;refine yS (fun he=> ?_) (fun he=> ?_)
     · (try simp only [decide_eq_true_eq,decide_eq_false_iff_not,Bool.not_eq_true',Bool.not_eq_false',Bool.not_eq_true,beq_iff_eq,beq_eq_false_iff_ne,bne_iff_ne,bne_eq_false_iff_eq] at he)
       exact gk1 he
     · (try simp only [decide_eq_true_eq,decide_eq_false_iff_not,Bool.not_eq_true',Bool.not_eq_false',Bool.not_eq_true,beq_iff_eq,beq_eq_false_iff_ne,bne_iff_ne,bne_eq_false_iff_eq] at he)
       exact gk2 he)
  | ((first|((with_reducible refine vY ?_);refine zN rfl rfl rfl ?_;intro sr hsr;simp only [sK,List.getD_cons_succ,List.getD_cons_zero,Option.map_some,Option.getD_some,Bool.not_false,Bool.not_true] at hsr;subst hsr;(fail_if_success (refine nx ?_));refine iT (fun he=> ?_) (fun he=> ?_))|((with_reducible refine tO rfl ?_);intro sr hsr;simp only [sK,List.getD_cons_succ,List.getD_cons_zero,Option.map_some,Option.getD_some,Bool.not_false,Bool.not_true] at hsr;subst hsr;(fail_if_success (with_reducible (first|refine tL ?_|refine tN ?_)));refine tK (fun he=> ?_) (fun he=> ?_)))
     · intro ts2 hts;simp only [List.getD_cons_succ,List.getD_cons_zero,Option.getD_some,List.set_cons_zero,List.set_cons_succ] at hts;subst hts
       (try simp only [decide_eq_true_eq,decide_eq_false_iff_not,Bool.not_eq_true',Bool.not_eq_false',Bool.not_eq_true,beq_iff_eq,beq_eq_false_iff_ne,bne_iff_ne,bne_eq_false_iff_eq] at he)
       exact gk1 he
     · intro ts2 hts;simp only [List.getD_cons_succ,List.getD_cons_zero,Option.getD_some,List.set_cons_zero,List.set_cons_succ] at hts;subst hts
       (try simp only [decide_eq_true_eq,decide_eq_false_iff_not,Bool.not_eq_true',Bool.not_eq_false',Bool.not_eq_true,beq_iff_eq,beq_eq_false_iff_ne,bne_iff_ne,bne_eq_false_iff_eq] at he)
       exact gk2 he)):p:=h F k1 k2
abbrev K4 (l:List Mk):List Mk:= .k:: .k:: .k:: .k::l
abbrev K9 (l:List Mk):List Mk:= .k:: .k:: .k:: .k:: .k:: .k:: .k:: .k:: .k::l
abbrev D4 (l:List Mk):List Mk:= .d:: .d:: .d:: .d::l
abbrev D9 (l:List Mk):List Mk:= .d:: .d:: .d:: .d:: .d:: .d:: .d:: .d:: .d::l
theorem gz {p q:Prop} (k:q) (h:q→p:=by
 intro gk
 (first|refine nx ?_|(intro zs zh;(try simp only [go_sem] at zh);subst zh))
 exact gk):p:=h k
theorem gn {p q:Prop} (k:q) (h:q→p:=by
 intro gk
 (first|refine ns ?_|refine zF rfl rfl rfl ?_|(refine zN rfl rfl rfl ?_;intro zs zh;(try simp only [go_sem] at zh);subst zh;refine nx ?_))
 exact gk):p:=h k
theorem gv {p q:Prop} (k:q) (h:q→p:=by
 intro gk
 (first|refine nx ?_|refine zH (by clear gk;omega) ?_|refine zL (by decide) ?_|refine zI (by decide) (by clear gk;omega) ?_)
 exact gk):p:=h k
theorem zjA {F0 p q:Prop} (F:F0) (k:q) (h:F0→q→p:=by
 intro F gk
 (repeat (first|refine nx ?_|(intro zs zh;(try simp only [go_sem] at zh);subst zh)|((first|refine ns ?_|refine zF rfl rfl rfl ?_|(refine zN rfl rfl rfl ?_;intro zs zh;(try simp only [go_sem] at zh);subst zh;refine nx ?_));intro zs zh;(try simp only [go_sem,F,List.length_map,List.length_set,List.set_set,bne_self_eq_false,List.map_cons,List.length_cons,Bool.and_self,decide_true] at zh);subst zh;first|refine nx ?_|refine zH (by clear gk;omega) ?_|refine zL (by decide) ?_|refine zI (by decide) (by clear gk;omega) ?_)|refine dw pl _ _ (by kernel_rfl) ?_))
 exact gk):p:=h F k
theorem ygE {F0 p q:Prop} (F:F0) (k:q) (h:F0→q→p:=by
 intro F gk
 (repeat (first|refine nx ?_|(intro zs zh;(try simp only [go_sem] at zh);subst zh)|((first|refine ns ?_|refine zF rfl rfl rfl ?_|(refine zN rfl rfl rfl ?_;intro zs zh;(try simp only [go_sem] at zh);subst zh;refine nx ?_));intro zs zh;(try simp only [go_sem,F,List.set_set] at zh);subst zh;first|refine nx ?_|refine zH (by clear gk;omega) ?_|refine zL (by decide) ?_|refine zI (by decide) (by clear gk;omega) ?_)|refine dw pl _ _ (by kernel_rfl) ?_))
 exact gk):p:=h F k
theorem yf0 {R Q:PV→Heap→Prop} {p:Prop} (k: ∀ a b,R a b→Q a b) (h:(∀ a b,R a b→Q a b)→p:=by
 intro gk p2 h2 hr2
 refine g2 ?_
 exact gk p2 h2 hr2):p:=h k
theorem yf1 {F0 p q:Prop} (F:F0) (k:q) (h:F0→q→p:=by
 intro F gk
 refine zF rfl rfl rfl ?_
 intro zs zh
 simp only [go_sem,F] at zh
 subst zh
 exact gk):p:=h F k
theorem gd0 {p q:Prop} (k:q) (h:q→p:=by
 intro gk
 refine zF rfl rfl rfl ?_
 intro zs zh
 simp only [go_sem] at zh
 subst zh
 exact gk):p:=h k
@[go_sem] abbrev yA:DAnn:=⟨0,0,[]⟩
@[go_sem] abbrev yB:DAnn:=⟨1,0,[]⟩
@[go_sem] abbrev vC:DAnn:=⟨2,0,[]⟩
@[go_sem] abbrev uX:DAnn:=⟨3,0,[]⟩
@[go_sem] abbrev yC:DAnn:=⟨4,0,[]⟩
@[go_sem] abbrev yE:DAnn:=⟨1,0,[0]⟩
@[go_sem] abbrev rK:DAnn:=⟨6,0,[0]⟩
abbrev znU:List Nat:=[0,1,2,3,4,5]
abbrev tV:List Nat:=[0,1,2,3,4,5,6]
abbrev zqS:List Nat:=[0,1,2,3,4,5,6,7]
abbrev uW:List Nat:=[0,1,2,3,4,5,6,7,8]
abbrev xS:List Nat:=[0,1,2,3,4,5,6,7,8,9]
abbrev vJ:List Nat:=[0,1,2,3,4,5,6,7,8,9,10]
abbrev xF:List Nat:=[0,1,2,3,4,5,6,7,8,9,10,11]
abbrev yN:List Nat:=[0,1,2,3,4,5,6,7,8,9,10,11,12]
abbrev wS:List Nat:=[0,1,2,3,4,5,6,7,8,9,10,11,12,13]
abbrev yG:List Nat:=[0,1,2,3,4,5,6,7,8,9,10,11,12,13,14]
abbrev xE:List Nat:=[0,1,2,3,4,5,6,7,8,9,10,11,12,13,14,15]
abbrev wR:List Nat:=[0,1,2,3,4,5,6,7,8,9,10,11,12,13,14,15,16]
abbrev yM:List Nat:=[0,1,2,3,4,5,6,7,8,9,10,11,12,13,14,15,16,17]
abbrev sI:List Nat:=[0,1,2,3,4,5,6,7,8,9,10,11,12,13,14,15,16,17,18]
abbrev yfQ:List Nat:=[0,1,2,3,4,5,6,7,8,9,10,11,12,13,14,15,16,17,18,19]
abbrev pR:List Nat:=[0,1,2,3,4,5,6,7,8,9,10,11,12,13,14,15,16,17,18,19,20]
abbrev iot24:List Nat:=[0,1,2,3,4,5,6,7,8,9,10,11,12,13,14,15,16,17,18,19,20,21,22,23]
abbrev iot26:List Nat:=[0,1,2,3,4,5,6,7,8,9,10,11,12,13,14,15,16,17,18,19,20,21,22,23,24,25]
abbrev yaS:List Nat:=[0,1,2,3,4,5,6,7,8,9,10,11,12,13,14,15,16,17,18,19,20,21,22,23,24,25,26]
abbrev yd1:List Nat:=[0,1,2,3,4,5,6,7,8,9,10,11,12,13,14,15,16,17,18,19,20,21,22,23,24,25,26,27,28,29,30]
abbrev zrL:List Nat:=[0,1,2,3,4,5,6,7,8,9,10,11,12,13,14,15,16,17,18,19,20,21,22,23,24,25,26,27,28,29,30,31]
abbrev zrK:List Nat:=[0,1,2,3,4,5,6,7,8,9,10,11,12,13,14,15,16,17,18,19,20,21,22,23,24,25,26,27,28,29,30,31,32,33]
abbrev iot35:List Nat:=[0,1,2,3,4,5,6,7,8,9,10,11,12,13,14,15,16,17,18,19,20,21,22,23,24,25,26,27,28,29,30,31,32,33,34]
section
variable{P:Program}{G:Glob}{D:Option Nat->Prop}{own:Bool}
variable{n0:Nat}{t0:List PV}{ann:Nat->DAnn}{ds:List (Option Tmp)}{ops:List Oper}{i:Nat}{r:List Nat}{Q:List PV->Heap->Prop}{ts:List PV}{h:Heap}{o:Oper}{d:DAnn}
end
end Go.AL
namespace Go.AL
open Go.Proofs Go.Proofs.Tryz
abbrev TF(t:TypeId)(a:Option Nat)(b:Option Bool)(c:Option TypeId)(d:Option (Nat×TypeId))(e:Option IntKind)(f g h:Bool):Prop:=xL prog t=a/\dD prog t=b/\wX prog t=c/\bR prog t=d/\zeT prog t=e/\bW prog t=f/\gJ prog t=g/\bV prog t=h
instance:Rs f3 [.tmp 8]:=⟨Qf3⟩
instance:Rs f4 [.tmp 6]:=⟨Qf3⟩
instance:Rs f10 [.tmp 8]:=⟨Qf3⟩
instance:Rs f11 [.cell 8 31,.tmp 9]:=⟨Qf3⟩
instance:Rs f12 [.tmp 4]:=⟨Qf3⟩
instance:Rs f13 [.tmp 2]:=⟨Qf3⟩
instance:Rs f14 [.tmp 4]:=⟨Qf3⟩
instance:Rs f15 [.tmp 8]:=⟨Qf3⟩
instance:Rs f19 [.tmp 2]:=⟨Qf3⟩
instance:Rs f22 [.tmp 4]:=⟨Qf3⟩
instance:Rs f27 [.tmp 4]:=⟨Qf3⟩
instance:Rs f31 [.cell 10 52,.tmp 11]:=⟨Qf3⟩
instance:Rs f32 [.tmp 4]:=⟨Qf3⟩
instance:Rs f39 [.tmp 4]:=⟨Qf3⟩
instance:Rs f42 [.cell 6 61,.tmp 7]:=⟨Qf3⟩
instance:Rs f44 [.tmp 2]:=⟨Qf3⟩
instance:Rs f45 [.tmp 2]:=⟨Qf3⟩
instance:Rs f46 [.tmp 2]:=⟨Qf3⟩
instance:Rs f47 [.tmp 2]:=⟨Qf3⟩
instance:Rs f48 [.cell 2 31]:=⟨Qf3⟩
instance:Rs f49 [.tmp 6]:=⟨Qf3⟩
instance:Rs f50 [.tmp 2]:=⟨Qf3⟩
instance:Rs f51 [.tmp 10]:=⟨Qf3⟩
instance:Rs f52 [.tmp 6]:=⟨Qf3⟩
instance:Rs f53 [.tmp 4]:=⟨Qf3⟩
instance:Rs f54 [.tmp 4]:=⟨Qf3⟩
instance:Rs f55 [.tmp 4]:=⟨Qf3⟩
instance:Rs f56 [.tmp 4]:=⟨Qf3⟩
instance:Rs f58 [.tmp 4]:=⟨Qf3⟩
instance:Rs f60 [.tmp 4]:=⟨Qf3⟩
instance:Rs f61 [.tmp 2]:=⟨Qf3⟩
instance:Rs f62 [.tmp 2]:=⟨Qf3⟩
instance:Rs f63 [.tmp 0]:=⟨Qf3⟩
instance:Rs f70 [.tmp 4]:=⟨Qf3⟩
instance:Rs f75 [.tmp 2]:=⟨Qf3⟩
instance:Rs f76 [.cell 6 31]:=⟨Qf3⟩
instance:Rs f77 [.tmp 4]:=⟨Qf3⟩
instance:Rs f78 [.tmp 2]:=⟨Qf3⟩
instance:Rs f79 [.tmp 6]:=⟨Qf3⟩
instance:Rs f80 [.tmp 4]:=⟨Qf3⟩
instance:Rs f81 [.tmp 4]:=⟨Qf3⟩
instance:Rs f85 [.tmp 8]:=⟨Qf3⟩
instance:Rs f86 [.tmp 2]:=⟨Qf3⟩
instance:Rs f87 [.tmp 2]:=⟨Qf3⟩
instance:Rs f88 [.tmp 4]:=⟨Qf3⟩
instance:Rs f89 [.tmp 4]:=⟨Qf3⟩
instance:Rs f90 [.tmp 4]:=⟨Qf3⟩
instance:Rs f95 [.tmp 6]:=⟨Qf3⟩
instance:Rs f96 [.tmp 4]:=⟨Qf3⟩
instance:Rs f97 [.tmp 4]:=⟨Qf3⟩
instance:Rs f98 [.tmp 2]:=⟨Qf3⟩
instance:Rs f99 [.tmp 2]:=⟨Qf3⟩
instance:Rs f100 [.cell 2 27,.tmp 3]:=⟨Qf3⟩
instance:Rs f101 [.tmp 4]:=⟨Qf3⟩
instance:Rs f102 [.tmp 6]:=⟨Qf3⟩
instance:Rs f103 [.tmp 4]:=⟨Qf3⟩
instance:Rs f104 [.tmp 6]:=⟨Qf3⟩
instance:Rs f105 [.tmp 4]:=⟨Qf3⟩
instance:Rs f106 [.tmp 4]:=⟨Qf3⟩
instance:Rs f107 [.tmp 2]:=⟨Qf3⟩
instance:Rs f108 []:=⟨Qf3⟩
instance:Rs f109 [.tmp 2]:=⟨Qf3⟩
instance:Rs f110 [.tmp 4]:=⟨Qf3⟩
instance:Rs f111 []:=⟨Qf3⟩
instance:Rs f112 [.tmp 4]:=⟨Qf3⟩
instance:Rs f113 [.tmp 4]:=⟨Qf3⟩
instance:Rs f114 []:=⟨Qf3⟩
instance:Rs f115 [.tmp 4]:=⟨Qf3⟩
instance:Rs f116 [.tmp 4]:=⟨Qf3⟩
instance:Rs f117 [.tmp 6]:=⟨Qf3⟩
instance:Rs f118 [.tmp 4]:=⟨Qf3⟩
instance:Rs f125 [.tmp 4]:=⟨Qf3⟩
instance:Rs f126 []:=⟨Qf3⟩
instance:Rs f127 []:=⟨Qf3⟩
instance:Rs f138 [.tmp 4,.tmp 5]:=⟨Qf3⟩
instance:Rs f140 []:=⟨Qf3⟩
instance:Rs f141 [.tmp 2]:=⟨Qf3⟩
instance:Rs f142 [.tmp 2]:=⟨Qf3⟩
instance:Rs f143 [.tmp 6]:=⟨Qf3⟩
instance:Rs f144 [.tmp 4]:=⟨Qf3⟩
instance:Rs f145 [.tmp 2]:=⟨Qf3⟩
instance:Rs f146 [.tmp 4]:=⟨Qf3⟩
instance:Rs f147 [.tmp 4]:=⟨Qf3⟩
instance:Rs f148 [.tmp 4]:=⟨Qf3⟩
instance:Rs f149 [.tmp 4]:=⟨Qf3⟩
instance:Rs f150 [.tmp 4]:=⟨Qf3⟩
instance:Rs f152 [.tmp 4]:=⟨Qf3⟩
instance:Rs f153 [.tmp 4]:=⟨Qf3⟩
instance:Rs f154 [.tmp 4]:=⟨Qf3⟩
instance:Rs f155 [.tmp 2]:=⟨Qf3⟩
instance:Rs f156 [.tmp 4]:=⟨Qf3⟩
instance:Rs f157 [.tmp 6]:=⟨Qf3⟩
instance:Rs f158 [.tmp 4]:=⟨Qf3⟩
instance:Rs f159 [.tmp 4]:=⟨Qf3⟩
instance:Rs f160 [.tmp 3]:=⟨Qf3⟩
instance:Rs f161 [.tmp 2]:=⟨Qf3⟩
instance:Rs f162 [.tmp 2]:=⟨Qf3⟩
instance:Rs f163 [.tmp 2]:=⟨Qf3⟩
instance:Rs f164 [.cell 4 191]:=⟨Qf3⟩
instance:Rs f165 [.tmp 2]:=⟨Qf3⟩
instance:Rs f166 []:=⟨Qf3⟩
instance:Rs f167 [.tmp 2]:=⟨Qf3⟩
instance:Rs f168 [.tmp 10]:=⟨Qf3⟩
instance:Rs f169 [.tmp 6]:=⟨Qf3⟩
instance:Rs f170 [.tmp 4]:=⟨Qf3⟩
instance:Rs f171 [.tmp 4]:=⟨Qf3⟩
instance:Rs f172 [.tmp 4]:=⟨Qf3⟩
instance:Rs f173 [.tmp 2]:=⟨Qf3⟩
instance:Rs f174 [.tmp 2]:=⟨Qf3⟩
instance:Rs f176 []:=⟨Qf3⟩
instance:Rs f177 [.tmp 6]:=⟨Qf3⟩
instance:Rs f189 [.tmp 6]:=⟨Qf3⟩
instance:Rs f190 [.tmp 2]:=⟨Qf3⟩
instance:Rs f192 [.tmp 4]:=⟨Qf3⟩
instance:Rs f194 [.tmp 2]:=⟨Qf3⟩
instance:Rs f195 []:=⟨Qf3⟩
instance:Rs f196 [.tmp 4]:=⟨Qf3⟩
instance:Rs f197 []:=⟨Qf3⟩
instance:Rs f198 [.tmp 4]:=⟨Qf3⟩
instance:Rs f199 [.tmp 4]:=⟨Qf3⟩
instance:Rs f200 [.tmp 4]:=⟨Qf3⟩
instance:Rs f201 [.tmp 2]:=⟨Qf3⟩
instance:Rs f202 [.tmp 2]:=⟨Qf3⟩
instance:Rs f203 [.cell 2 289,.tmp 3]:=⟨Qf3⟩
instance:Rs f204 [.tmp 4]:=⟨Qf3⟩
instance:Rs f205 [.tmp 6]:=⟨Qf3⟩
instance:Rs f206 [.tmp 2]:=⟨Qf3⟩
instance:Rs f207 [.tmp 2]:=⟨Qf3⟩
instance:Rs f208 [.tmp 2]:=⟨Qf3⟩
instance:Rs f209 [.cell 2 289,.tmp 3]:=⟨Qf3⟩
instance:Rs f210 [.tmp 2]:=⟨Qf3⟩
instance:Rs f211 [.tmp 6]:=⟨Qf3⟩
instance:Rs f212 [.tmp 6]:=⟨Qf3⟩
instance:Rs f213 [.tmp 2]:=⟨Qf3⟩
instance:Rs f214 [.tmp 6]:=⟨Qf3⟩
instance:Rs f215 [.tmp 2]:=⟨Qf3⟩
instance:Rs f216 [.tmp 6]:=⟨Qf3⟩
instance:Rs f217 [.tmp 2]:=⟨Qf3⟩
instance:Rs f218 []:=⟨Qf3⟩
instance:Rs f219 [.tmp 8]:=⟨Qf3⟩
instance:Rs f220 [.tmp 2]:=⟨Qf3⟩
instance:Rs f221 [.tmp 2]:=⟨Qf3⟩
instance:Rs f222 [.tmp 4]:=⟨Qf3⟩
instance:Rs f223 [.tmp 4,.tmp 5]:=⟨Qf3⟩
instance:Rs f224 [.tmp 2]:=⟨Qf3⟩
instance:Rs f225 [.tmp 2]:=⟨Qf3⟩
instance:Rs f226 [.tmp 2]:=⟨Qf3⟩
instance:Rs f227 [.tmp 4]:=⟨Qf3⟩
instance:Rs f228 [.tmp 4]:=⟨Qf3⟩
instance:Rs f229 [.tmp 4,.tmp 5]:=⟨Qf3⟩
instance:Rs f230 []:=⟨Qf3⟩
instance:Rs f231 []:=⟨Qf3⟩
instance:Rs f232 []:=⟨Qf3⟩
instance:Rs f233 []:=⟨Qf3⟩
instance:Rs f234 [.tmp 8,.tmp 9]:=⟨Qf3⟩
instance:Rs f235 []:=⟨Qf3⟩
instance:Rs f236 [.tmp 8]:=⟨Qf3⟩
instance:Rs f237 [.tmp 10]:=⟨Qf3⟩
instance:Rs f238 [.tmp 10,.tmp 11]:=⟨Qf3⟩
instance:Rs f239 [.tmp 2]:=⟨Qf3⟩
instance:Rs f240 [.tmp 2]:=⟨Qf3⟩
instance:Rs f241 [.tmp 4]:=⟨Qf3⟩
instance:Rs f242 [.tmp 4]:=⟨Qf3⟩
instance:Rs f243 [.tmp 4]:=⟨Qf3⟩
instance:Rs f244 [.tmp 4]:=⟨Qf3⟩
instance:Rs f245 []:=⟨Qf3⟩
instance:Rs f246 [.tmp 2]:=⟨Qf3⟩
instance:Rs f247 []:=⟨Qf3⟩
instance:Rs f268 [.tmp 2]:=⟨Qf3⟩
instance:Rs f269 [.tmp 2]:=⟨Qf3⟩
instance:Rs f270 [.tmp 4]:=⟨Qf3⟩
instance:Rs f271 [.tmp 2]:=⟨Qf3⟩
instance:Rs f272 [.tmp 4]:=⟨Qf3⟩
instance:Rs f273 [.tmp 6]:=⟨Qf3⟩
instance:Rs f274 []:=⟨Qf3⟩
instance:Rs f275 [.tmp 2]:=⟨Qf3⟩
instance:Rs f276 [.cell 4 289]:=⟨Qf3⟩
instance:Rs f277 [.tmp 4]:=⟨Qf3⟩
instance:Rs f278 [.tmp 3]:=⟨Qf3⟩
instance:Rs f279 [.tmp 4]:=⟨Qf3⟩
instance:Rs f280 [.tmp 3]:=⟨Qf3⟩
instance:Rs f281 [.tmp 2]:=⟨Qf3⟩
instance:Rs f282 [.tmp 6]:=⟨Qf3⟩
instance:Rs f283 [.tmp 4]:=⟨Qf3⟩
instance:Rs f284 [.tmp 3]:=⟨Qf3⟩
instance:Rs f285 [.tmp 2]:=⟨Qf3⟩
instance:Rs f286 [.tmp 6]:=⟨Qf3⟩
instance:Rs f287 [.tmp 4]:=⟨Qf3⟩
instance:Rs f288 [.tmp 3]:=⟨Qf3⟩
instance:Rs f289 [.tmp 6]:=⟨Qf3⟩
instance:Rs f290 [.tmp 2]:=⟨Qf3⟩
instance:Rs f291 [.tmp 6]:=⟨Qf3⟩
instance:Rs f292 [.tmp 2]:=⟨Qf3⟩
instance:Rs f293 [.tmp 6]:=⟨Qf3⟩
instance:Rs f294 [.tmp 2]:=⟨Qf3⟩
instance:Rs f295 [.tmp 4]:=⟨Qf3⟩
instance:Rs f296 [.tmp 4]:=⟨Qf3⟩
instance:Rs f297 [.tmp 4]:=⟨Qf3⟩
instance:Rs f298 [.tmp 6]:=⟨Qf3⟩
instance:Rs f299 []:=⟨Qf3⟩
instance:Rs f300 [.tmp 4]:=⟨Qf3⟩
instance:Rs f301 [.tmp 8]:=⟨Qf3⟩
instance:Rs f302 [.tmp 6]:=⟨Qf3⟩
instance:Rs f303 [.tmp 2]:=⟨Qf3⟩
instance:Rs f304 []:=⟨Qf3⟩
instance:Rs f305 [.tmp 2]:=⟨Qf3⟩
instance:Rs f306 [.tmp 2]:=⟨Qf3⟩
instance:Rs f307 [.tmp 8]:=⟨Qf3⟩
instance:Rs f308 [.tmp 12]:=⟨Qf3⟩
instance:Rs f309 []:=⟨Qf3⟩
instance:Rs f310 []:=⟨Qf3⟩
instance:Rs f328 [.tmp 4]:=⟨Qf3⟩
instance:Rs f329 []:=⟨Qf3⟩
instance:Rs f330 []:=⟨Qf3⟩
instance:Rs f331 []:=⟨Qf3⟩
instance:Rs f332 [.tmp 8,.tmp 9]:=⟨Qf3⟩
instance:Rs f333 []:=⟨Qf3⟩
instance:Rs f334 [.tmp 8]:=⟨Qf3⟩
instance:Rs f335 [.tmp 10]:=⟨Qf3⟩
instance:Rs f336 [.tmp 10,.tmp 11]:=⟨Qf3⟩
instance:Rs f337 [.tmp 4]:=⟨Qf3⟩
instance:Rs f338 [.tmp 4]:=⟨Qf3⟩
instance:Rs f339 [.tmp 6]:=⟨Qf3⟩
instance:Rs f340 [.tmp 4]:=⟨Qf3⟩
instance:Rs f341 [.tmp 3]:=⟨Qf3⟩
instance:Rs f342 [.tmp 4]:=⟨Qf3⟩
instance:Rs f343 [.tmp 4]:=⟨Qf3⟩
instance:Rs f344 [.tmp 3]:=⟨Qf3⟩
instance:Rs f345 [.tmp 4]:=⟨Qf3⟩
instance:Rs f346 [.tmp 4]:=⟨Qf3⟩
instance:Rs f347 [.tmp 3]:=⟨Qf3⟩
instance:Rs f348 [.tmp 4]:=⟨Qf3⟩
instance:Rs f349 [.tmp 3]:=⟨Qf3⟩
instance:Rs f350 [.tmp 2]:=⟨Qf3⟩
instance:Rs f351 [.tmp 6]:=⟨Qf3⟩
instance:Rs f352 [.tmp 10,.tmp 11]:=⟨Qf3⟩
instance:Rs f353 []:=⟨Qf3⟩
instance:Rs f354 []:=⟨Qf3⟩
instance:Rs f367 [.tmp 6]:=⟨Qf3⟩
instance:Rs f368 []:=⟨Qf3⟩
instance:Rs f369 [.tmp 8]:=⟨Qf3⟩
instance:Rs f370 [.tmp 12]:=⟨Qf3⟩
instance:Rs f371 [.tmp 4]:=⟨Qf3⟩
instance:Rs f372 [.tmp 4]:=⟨Qf3⟩
instance:Rs f373 [.tmp 4]:=⟨Qf3⟩
instance:Rs f374 [.tmp 4]:=⟨Qf3⟩
instance:Rs f375 []:=⟨Qf3⟩
instance:Rs f381 [.tmp 10,.tmp 11]:=⟨Qf3⟩
instance:Rs f382 []:=⟨Qf3⟩
theorem tf4:TF 4 (some 1) (some false) none none none true false false/\(zS prog 4=some (.bool false)):=by and_intros<;>kernel_rfl
theorem tf9:TF 9 (some 1) (some false) none none none false true false/\(zS prog 9=some (.string ⟨#[]⟩)):=by and_intros<;>kernel_rfl
@[go_sem] abbrev yd4:Value:=.int .i64 0
@[go_sem] abbrev yd8:Value:=.slice none 0 0
@[go_sem] abbrev yeD:Value:=.string ⟨#[]⟩
@[go_sem] abbrev yfC:Value:=.bool false
@[go_sem] abbrev ye7:Value:=.int .u8 0
@[go_sem] abbrev zvV:Value:=.int .u64 0
@[go_sem] abbrev yfO:Value:=.map none
@[go_sem] abbrev ye9(l:List Value):List Value:=yeD::yd4::yfC::yeD::yd4::yfC::yeD::yd4::yfC::yeD::yd4::yfC::yeD::yd4::yfC::yeD::yd4::yfC::yeD::yd4::yfC::yeD::yd4::yfC::l
@[go_sem] abbrev ye8(l:List Value):List Value:=yd4::yd8::yd4::yd4::yd8::yd4::yd4::yd8::yd4::yd4::yd8::yd4::yd4::yd8::yd4::yd4::yd8::yd4::yd4::yd8::yd4::yd4::yd8::yd4::l
@[go_sem] abbrev yeG(l:List Value):List Value:=yd4::yd4::yd4::yd4::yd4::yd4::yd4::yd4::l
@[go_sem] abbrev yfY(l:List Value):List Value:=ye7::ye7::ye7::ye7::ye7::ye7::ye7::ye7::l
abbrev SLf(t e k b:Nat):Prop:=TF t (some 1) (some false) (some e) none none false false false/\zS prog t=some yd8/\wD prog t=some (e,k,b)
abbrev FUf(t:Nat):Prop:=TF t (some 1) (some false) none none none false false true/\zS prog t=some .nilFunc
abbrev NPf(t:Nat)(z:Value):Prop:=TF t (some 1) (some false) none none none false false false/\zS prog t=some z
abbrev ITf(t:Nat)(k:IntKind):Prop:=TF t (some 1) (some false) none none (some k) false false false/\zS prog t=some (.int k 0)
abbrev ARf(t n k e:Nat)(z:Array Value):Prop:=TF t (some n) (some true) none (some (k,e)) none false false false/\zS prog t=some (.agg z)
abbrev ST2(t n:Nat)(z:Array Value)(a0 s0 b0 a1 s1 b1:Nat):Prop:=TF t (some n) (some true) none none none false false false/\zS prog t=some (.agg z)/\zR prog t 0=some (a0,b0)/\zR prog t 1=some (a1,b1)/\xW prog t=some (rH [(a0,s0),(a1,s1)])
abbrev ST3(t n:Nat)(z:Array Value)(a0 s0 b0 a1 s1 b1 a2 s2 b2:Nat):Prop:=TF t (some n) (some true) none none none false false false/\zS prog t=some (.agg z)/\zR prog t 0=some (a0,b0)/\zR prog t 1=some (a1,b1)/\zR prog t 2=some (a2,b2)/\xW prog t=some (rH [(a0,s0),(a1,s1),(a2,s2)])
abbrev ST4(t n:Nat)(z:Array Value)(a0 s0 b0 a1 s1 b1 a2 s2 b2 a3 s3 b3:Nat):Prop:=TF t (some n) (some true) none none none false false false/\zS prog t=some (.agg z)/\zR prog t 0=some (a0,b0)/\zR prog t 1=some (a1,b1)/\zR prog t 2=some (a2,b2)/\zR prog t 3=some (a3,b3)/\xW prog t=some (rH [(a0,s0),(a1,s1),(a2,s2),(a3,s3)])
abbrev ST5(t n:Nat)(z:Array Value)(a0 s0 b0 a1 s1 b1 a2 s2 b2 a3 s3 b3 a4 s4 b4:Nat):Prop:=TF t (some n) (some true) none none none false false false/\zS prog t=some (.agg z)/\zR prog t 0=some (a0,b0)/\zR prog t 1=some (a1,b1)/\zR prog t 2=some (a2,b2)/\zR prog t 3=some (a3,b3)/\zR prog t 4=some (a4,b4)/\xW prog t=some (rH [(a0,s0),(a1,s1),(a2,s2),(a3,s3),(a4,s4)])
abbrev ST6(t n:Nat)(z:Array Value)(a0 s0 b0 a1 s1 b1 a2 s2 b2 a3 s3 b3 a4 s4 b4 a5 s5 b5:Nat):Prop:=TF t (some n) (some true) none none none false false false/\zS prog t=some (.agg z)/\zR prog t 0=some (a0,b0)/\zR prog t 1=some (a1,b1)/\zR prog t 2=some (a2,b2)/\zR prog t 3=some (a3,b3)/\zR prog t 4=some (a4,b4)/\zR prog t 5=some (a5,b5)/\xW prog t=some (rH [(a0,s0),(a1,s1),(a2,s2),(a3,s3),(a4,s4),(a5,s5)])
abbrev ST7(t n:Nat)(z:Array Value)(a0 s0 b0 a1 s1 b1 a2 s2 b2 a3 s3 b3 a4 s4 b4 a5 s5 b5 a6 s6 b6:Nat):Prop:=TF t (some n) (some true) none none none false false false/\zS prog t=some (.agg z)/\zR prog t 0=some (a0,b0)/\zR prog t 1=some (a1,b1)/\zR prog t 2=some (a2,b2)/\zR prog t 3=some (a3,b3)/\zR prog t 4=some (a4,b4)/\zR prog t 5=some (a5,b5)/\zR prog t 6=some (a6,b6)/\xW prog t=some (rH [(a0,s0),(a1,s1),(a2,s2),(a3,s3),(a4,s4),(a5,s5),(a6,s6)])
abbrev ST9(t n:Nat)(z:Array Value)(a0 s0 b0 a1 s1 b1 a2 s2 b2 a3 s3 b3 a4 s4 b4 a5 s5 b5 a6 s6 b6 a7 s7 b7 a8 s8 b8:Nat):Prop:=TF t (some n) (some true) none none none false false false/\zS prog t=some (.agg z)/\zR prog t 0=some (a0,b0)/\zR prog t 1=some (a1,b1)/\zR prog t 2=some (a2,b2)/\zR prog t 3=some (a3,b3)/\zR prog t 4=some (a4,b4)/\zR prog t 5=some (a5,b5)/\zR prog t 6=some (a6,b6)/\zR prog t 7=some (a7,b7)/\zR prog t 8=some (a8,b8)/\xW prog t=some (rH [(a0,s0),(a1,s1),(a2,s2),(a3,s3),(a4,s4),(a5,s5),(a6,s6),(a7,s7),(a8,s8)])
theorem yd5{p q:Prop}(k:q)(h:q->p:=by intro gk;and_intros<;>first|exact xP gk Qf3 Qf3|kernel_rfl):p:=h k
theorem tgSL:SLf 22 131 4 72/\SLf 23 183 7 120/\SLf 24 73 7 88/\SLf 25 191 9 128/\SLf 28 95 1 24/\SLf 29 124 1 24/\SLf 34 98 12 176/\SLf 41 56 6 64/\SLf 50 168 3 32/\SLf 58 107 3 40/\SLf 59 64 2 24/\SLf 71 3 1 8/\SLf 74 50 1 24/\SLf 76 31 2 48/\SLf 87 41 1 24/\SLf 94 159 2 48/\SLf 95 159 2 48/\SLf 96 54 2 16/\SLf 123 162 2 48/\SLf 124 162 2 48/\SLf 128 9 1 16/\SLf 129 308 2 16/\SLf 151 4 1 1/\SLf 160 208 3 24/\SLf 179 253 2 16/\SLf 186 315 4 48/\SLf 189 194 9 112/\SLf 198 5 1 1/\SLf 209 112 1 8/\SLf 339 246 1 8/\SLf 348 151 1 24:=by and_intros<;>kernel_rfl
theorem tgFU:FUf 99/\FUf 119/\FUf 136/\FUf 144/\FUf 153/\FUf 175/\FUf 178/\FUf 195/\FUf 196/\FUf 217/\FUf 224/\FUf 231/\FUf 232/\FUf 238/\FUf 239/\FUf 240/\FUf 250/\FUf 282/\FUf 300/\FUf 303/\FUf 355/\FUf 368/\FUf 370:=by and_intros<;>kernel_rfl
theorem tgNP:NPf 112 yfO/\NPf 116 (.pointer none)/\NPf 117 (.pointer none)/\NPf 137 yfO/\NPf 212 yfO/\NPf 235 (.pointer none)/\NPf 242 (.pointer none)/\NPf 254 (.pointer none)/\NPf 256 yfO/\NPf 275 yfO/\NPf 276 yfO/\NPf 318 (.pointer none)/\NPf 319 (.pointer none)/\NPf 375 (.pointer none)/\NPf 387 (.pointer none)/\NPf 433 (.pointer none):=by and_intros<;>kernel_rfl
theorem tgIT:ITf 3 .i64/\ITf 5 .u8/\ITf 21 .i32/\ITf 45 .i64/\ITf 245 .u64/\ITf 246 .u64/\ITf 261 .u64/\ITf 325 .i64/\ITf 332 .u32/\ITf 383 .u64:=by and_intros<;>kernel_rfl
theorem tgAR:ARf 202 192 64 201 (List.toArray (ye9 (ye9 (ye9 (ye9 (ye9 (ye9 (ye9 (ye9 [])))))))))/\ARf 203 192 64 52 (List.toArray (ye8 (ye8 (ye8 (ye8 (ye8 (ye8 (ye8 (ye8 [])))))))))/\ARf 220 64 64 3 (List.toArray (yeG (yeG (yeG (yeG (yeG (yeG (yeG (yeG [])))))))))/\ARf 287 64 64 3 (List.toArray (yeG (yeG (yeG (yeG (yeG (yeG (yeG (yeG [])))))))))/\ARf 289 8 8 5 #[ye7,ye7,ye7,ye7,ye7,ye7,ye7,ye7]/\ARf 308 2 2 3 #[yd4,yd4]/\ARf 354 10 10 9 #[yeD,yeD,yeD,yeD,yeD,yeD,yeD,yeD,yeD,yeD]/\ARf 376 36 36 3 (List.toArray (yeG (yeG (yeG (yeG (yd4::(yd4::(yd4::(yd4::[])))))))))/\ARf 416 64 64 5 (List.toArray (yfY (yfY (yfY (yfY (yfY (yfY (yfY (yfY []))))))))):=by and_intros<;>kernel_rfl
theorem tgST0:ST4 27 4 #[yd8,yd8,yd8,yd8] 0 1 22 1 1 23 2 1 24 3 1 25/\ST2 31 2 #[yd8,yd8] 0 1 28 1 1 29/\ST3 52 3 #[yd4,yd8,yd4] 0 1 3 1 1 50 2 1 3/\ST2 54 2 #[yd4,yd4] 0 1 3 1 1 3/\ST3 56 6 #[yd4,yd4,yd8,yd4,yd4,yd4] 0 1 3 1 3 52 4 2 54/\ST2 61 2 #[yd8,yd8] 0 1 58 1 1 59/\ST2 64 2 #[yeD,yd4] 0 1 9 1 1 3/\ST7 73 7 #[yeD,yd8,yeD,yd4,yfC,yd4,yd4] 0 1 9 1 1 71 2 1 9 3 1 3 4 1 4 5 1 3 6 1 3/\ST2 78 4 #[yd4,yd8,yd4,yfC] 0 3 52 3 1 4/\ST6 98 12 (List.toArray (yd4::(yd8::(yd8::(yd4::(yd8::(yd4::(yd4::(yd8::(yd4::(yd4::(yd8::(yd4::[]))))))))))))) 0 1 3 1 1 50 2 1 96 3 3 52 6 3 52 9 3 52/\ST3 107 3 #[yd8,yd4,yd4] 0 1 41 1 1 3 2 1 3/\ST4 131 4 #[yeD,yd8,yd8,yd4] 0 1 9 1 1 128 2 1 129 3 1 3:=⟨yd5 underlying27,yd5 underlying31,yd5 underlying52,yd5 underlying54,yd5 underlying56,yd5 underlying61,yd5 underlying64,yd5 underlying73,yd5 underlying78,yd5 underlying98,yd5 underlying107,yd5 underlying131⟩
theorem tgST1:ST2 159 2 #[yd8,yd8] 0 1 50 1 1 96/\ST2 162 2 #[yd8,yd8] 0 1 50 1 1 160/\ST3 168 3 #[yd4,yd4,yeD] 0 1 3 1 1 3 2 1 9/\ST7 183 7 #[yeD,yeD,yd4,yd8,yd8,yd8,yd4] 0 1 9 1 1 9 2 1 3 3 1 128 4 1 128 5 1 71 6 1 3/\ST4 188 4 #[yd4,yeD,yeD,yd4] 0 1 3 1 1 9 2 1 9 3 1 3/\ST6 191 9 #[yeD,yd4,yd8,yd4,yeD,yeD,yd4,yd8,yd4] 0 1 9 1 1 3 2 1 186 3 4 188 7 1 189 8 1 3/\ST9 194 9 #[yd4,yeD,yd4,yd8,yeD,yeD,yd4,yd4,yd4] 0 1 3 1 1 9 2 1 3 3 1 186 4 1 9 5 1 9 6 1 3 7 1 3 8 1 3/\ST3 201 3 #[yeD,yd4,yfC] 0 1 9 1 1 3 2 1 4/\ST3 205 385 (List.toArray (yd8::(ye9 (ye9 (ye9 (ye9 (ye9 (ye9 (ye9 (ye9 (ye8 (ye8 (ye8 (ye8 (ye8 (ye8 (ye8 (ye8 [])))))))))))))))))) 0 1 50 1 192 202 193 192 203/\ST3 208 3 #[yd4,yd4,yd4] 0 1 3 1 1 3 2 1 3/\ST3 214 9 #[yeD,yd4,yfC,yeD,yd4,yfC,yeD,yd4,yfC] 0 3 201 3 3 201 6 3 201/\ST2 253 2 #[yd4,yd4] 0 1 45 1 1 3:=⟨yd5 underlying159,yd5 underlying162,yd5 underlying168,yd5 underlying183,yd5 underlying188,yd5 underlying191,yd5 underlying194,yd5 underlying201,yd5 underlying205,yd5 underlying208,yd5 underlying214,yd5 underlying253⟩
theorem tgST2:ST5 258 8 #[yd8,yd8,yd8,yd8,yfO,yfO,yfO,yd8] 0 4 27 4 1 256 5 1 256 6 1 256 7 1 179/\ST3 278 6 #[yeD,yd8,yd8,yd4,yfO,yfO] 0 4 131 4 1 275 5 1 276/\ST2 315 4 #[yeD,yd4,yd4,yeD] 0 1 9 1 3 168/\ST3 378 73 (List.toArray (yfO::(yeG (yeG (yeG (yeG (yeG (yeG (yeG (yeG (yeG []))))))))))) 0 1 256 1 36 376 37 36 376/\ST3 435 3 #[yd8,yd8,yfC] 0 1 128 1 1 71 2 1 4:=⟨yd5 underlying258,yd5 underlying278,yd5 underlying315,yd5 underlying378,yd5 underlying435⟩
attribute [go_sem] tf4 tf9 tgSL tgFU tgNP tgIT tgAR tgST0 tgST1 tgST2
abbrev i64(n:Int):PV:= .sc (.int .i64 n)
abbrev bo(b:Bool):PV:= .sc (.bool b)
theorem zhI:IntKind.i64.min= -9223372036854775808:=Qf2
theorem zhJ:IntKind.i64.max=9223372036854775807:=Qf2
theorem zlC:IntKind.u8.min=0:=Qf2
theorem zlD:IntKind.u8.max=255:=Qf2
theorem zeX:(0:Nat)<1:=Nat.zero_lt_one
theorem xM{n:Int}(h1: -9223372036854775808<=n)(h2:n<=9223372036854775807):IntKind.i64.wrap n=n:=IntWalk.i64_in n ⟨h1,h2⟩
theorem tint8:True:=trivial
theorem zG{α β:Type}{f:α->β}{l:List α}{n:Nat}(d:β)(h:n<l.length):(l.map f).getD n d=f l[n]:=by
 rw[Qb,Qu,Qa h];rfl
theorem fD{α β:Type}{f:α->β}{l:List α}{n:Nat}(d:β)(h:n<l.length):((l.map f).drop n).getD 0 d=f l[n]:=by
 rw[Qb,Yg,Wn,Qu,Qa h];rfl
theorem wY{α β:Type}(f:α->β)(l:List α)(n:Nat)(x:α)(h:n<l.length):(l.map f).take n++f x::(l.map f).drop (n+1)=(l.set n x).map f:=by
 rw[Ub,Qj h];simp
theorem lG(cs:List PV):wA cs 0 1 cs.length=cs.map ([·]):=by
 apply Zh;intro i;unfold wA;rw[Qu,Qu];by_cases h:i<cs.length
 ·simp[h,Qa h,List.take_one,List.head?_drop]
 ·simp[h]
theorem zj5(p:PV):wA [p] 0 1 1=[[p]]:=rfl
theorem zfM(a:Option Addr)(b c:Nat):(Value.slice a b c).oneCell'=true:=rfl
theorem zlU(k:IntKind)(n:Int):(Value.int k n).oneCell'=true:=rfl
theorem zi5(b:Bool):(Value.bool b).oneCell'=true:=rfl
theorem zdG(b:ByteArray):(Value.string b).oneCell'=true:=rfl
theorem mM:(∀(p:Prop) [Decidable p],(decide p=true)=p)/\(∀(p:Prop) [Decidable p],decide p=false↔ ¬p)/\(∀b:Bool,((!b)=true)=(b=false))/\(∀b:Bool,((!b)=false)=(b=true))/\(∀b:Bool,(¬b=true)=(b=false))/\(∀a b:Int,(a==b)=true↔a=b)/\(∀a b:Int,(a==b)=false↔a≠b)/\(∀a b:Int,(a !=b)=true↔a≠b)/\(∀a b:Int,(a !=b)=false↔a=b):=
 ⟨fun _ _=>Xm,fun _ _=>Xo,Bool.not_eq_true',Bool.not_eq_false',Bool.not_eq_true,fun _ _=>Zm,fun _ _=>We,fun _ _=>bne_iff_ne,fun _ _=>bne_eq_false_iff_eq⟩
theorem wP:(∀(a d:Option Nat)(l:List (Option Nat))(n:Nat),(a::l).getD (n+1) d=l.getD n d)/\(∀(a d:Option Nat)(l:List (Option Nat)),(a::l).getD 0 d=a)/\(∀(a d:PV)(l:List PV)(n:Nat),(a::l).getD (n+1) d=l.getD n d)/\(∀(a d:PV)(l:List PV),(a::l).getD 0 d=a)/\(∀(f:Nat->PV)(a:Nat),(some a).map f=some (f a))/\(∀a d:PV,(some a).getD d=a)/\(∀a d:Nat,(some a).getD d=a)/\((!false)=true)/\((!true)=false)/\(∀(a b:PV)(l:List PV),(a::l).set 0 b=b::l)/\(∀(a b:PV)(l:List PV)(n:Nat),(a::l).set (n+1) b=a::l.set n b):=
 ⟨fun _ _ _ _=>Kw,fun _ _ _=>Kv,fun _ _ _ _=>Kw,fun _ _ _=>Kv,fun _ _=>rfl,fun _ _=>rfl,fun _ _=>rfl,rfl,rfl,fun _ _ _=>rfl,fun _ _ _ _=>rfl⟩
theorem wN:prog.follows .mixedOrders=true:=Qf3
def ws:List PV:=[.sc (.string "lattice".toUTF8),.sc (.string "function".toUTF8),.sc (.string "on".toUTF8),.sc (.string "base".toUTF8),.sc (.string "view".toUTF8),.sc (.string "key".toUTF8),.sc (.string "deny".toUTF8),.sc (.string "not".toUTF8),.sc (.string "int".toUTF8),.sc (.string "sym".toUTF8)]
def db:List PV:=[.sc (.int .u8 0),.sc (.int .u8 1),.sc (.int .u8 56),.sc (.int .u8 2),.sc (.int .u8 57),.sc (.int .u8 49),.sc (.int .u8 28),.sc (.int .u8 3),.sc (.int .u8 61),.sc (.int .u8 58),.sc (.int .u8 42),.sc (.int .u8 50),.sc (.int .u8 38),.sc (.int .u8 29),.sc (.int .u8 17),.sc (.int .u8 4),.sc (.int .u8 62),.sc (.int .u8 47),.sc (.int .u8 59),.sc (.int .u8 36),.sc (.int .u8 45),.sc (.int .u8 43),.sc (.int .u8 51),.sc (.int .u8 22),.sc (.int .u8 53),.sc (.int .u8 39),.sc (.int .u8 33),.sc (.int .u8 30),.sc (.int .u8 24),.sc (.int .u8 18),.sc (.int .u8 12),.sc (.int .u8 5),.sc (.int .u8 63),.sc (.int .u8 55),.sc (.int .u8 48),.sc (.int .u8 27),.sc (.int .u8 60),.sc (.int .u8 41),.sc (.int .u8 37),.sc (.int .u8 16),.sc (.int .u8 46),.sc (.int .u8 35),.sc (.int .u8 44),.sc (.int .u8 21),.sc (.int .u8 52),.sc (.int .u8 32),.sc (.int .u8 23),.sc (.int .u8 11),.sc (.int .u8 54),.sc (.int .u8 26),.sc (.int .u8 40),.sc (.int .u8 15),.sc (.int .u8 34),.sc (.int .u8 20),.sc (.int .u8 31),.sc (.int .u8 10),.sc (.int .u8 25),.sc (.int .u8 14),.sc (.int .u8 19),.sc (.int .u8 9),.sc (.int .u8 13),.sc (.int .u8 8),.sc (.int .u8 7),.sc (.int .u8 6)]
def G0:Glob:=fun g=>if g==0 then some ws else if g==1 then some [.ts 1 (ws.map ([·]))] else if g==2 then some db else if g==3 then some [.ts 1 (ws.map ([·]))] else none
theorem zK:GTree G0:=by
 intro g cs h p hp;have key:cs.all (zU 40)=true:=by
  unfold G0 at h;split at h
  ·cases h;kernel_rfl
  ·split at h
   ·cases h;kernel_rfl
   ·split at h
    ·cases h;kernel_rfl
    ·split at h
     ·cases h;kernel_rfl
     ·cases h
 rw[Xg] at key;exact yP 40 p (key p hp)
theorem zQ(pl:DPlan)(D:Option Nat->Prop)(id:Nat){ops:Array Oper}{K:Exit->List PV->Heap->Prop}{ts:List PV}{h:Heap}(hg:pl.good ops.toList=true)
  (k: ∀n0,h.length=n0-> ∀l,ops.toList=l-> ∀ds,l.map (·.dst)=ds-> ∀h2,rY h pl.places=h2->AD prog G0 false n0 ts pl.at ds l pl.ord (K .normal) ts h2):EWp prog G0 D (.region id ops true) K ts h:=jS wN zK pl hg k
theorem dw(pl:Nat->DPlan)(D:Option Nat->Prop)(id:Nat){ops:Array Oper}{K:Exit->List PV->Heap->Prop}{ts:List PV}{h:Heap}(hg:(pl id).good ops.toList=true)
  (k: ∀n0,h.length=n0-> ∀l,ops.toList=l-> ∀ds,l.map (·.dst)=ds-> ∀h2,rY h (pl id).places=h2->AD prog G0 false n0 ts (pl id).at ds l (pl id).ord (K .normal) ts h2):EWp prog G0 D (.region id ops true) K ts h:=jS wN zK (pl id) hg k
theorem yD(pl:Nat->DPlan){D:Option Nat->Prop}{id:Nat}{ops:Array Oper}{K:Exit->List PV->Heap->Prop}{ts:List PV}{h:Heap}
  (k: ∀n0,h.length=n0-> ∀l,ops.toList=l-> ∀ds,l.map (·.dst)=ds-> ∀h2,rY h (pl id).places=h2->AD prog G0 false n0 ts (pl id).at ds l (pl id).ord (K .normal) ts h2) (hg:(pl id).good ops.toList=true:=by kernel_rfl):EWp prog G0 D (.region id ops true) K ts h:=jS wN zK (pl id) hg k
end Go.AL
namespace Go.AL
open Go.Proofs Go.Proofs.Tryz
variable{P:Program}{G:Glob}{rd:Option Nat}
end Go.AL
namespace Go.AL
open Go.RowKit
abbrev Tab:=List (FuncId×List PV×PV)
def zlB(T:Tab)(inner:FuncId->List PV->Heap->Option (PV×Heap))(g:FuncId)(args:List PV)(h:Heap):Option (PV×Heap):=
 match T.find? (fun e=>Nat.beq e.1 g&&uK (nU 40) e.2.1 args) with
 |some e=>some (e.2.2,h)
 |none=>inner g args h
def xZ(P:Program)(G:Glob)(keep own:FuncId->Bool)(L:Nat)(T:Tab):Nat->Caller
 |0=>⟨fun _ _ _=>none,fun _ _ _=>none⟩
 |n+1=>⟨zlB T (xfn P G keep own (xZ P G keep own L T n) L),xyl P G (xZ P G keep own L T n) L⟩
def TabOk(P:Program)(G:Glob)(T:Tab):Prop:= ∀e∈T, ∀h,ACall P G e.1 e.2.1 h fun q h2=>q=e.2.2/\h2=h
section
variable{P:Program}{G:Glob}
theorem zc0:TabOk P G []:=fun e he=>by cases he
theorem zcV(hm:P.follows .mixedOrders=true)(hG:GTree G){T:Tab}(hT:TabOk P G T)(keep ow:FuncId->Bool)(L:Nat): ∀n,CallOk P G (xZ P G keep ow L T n):=by
 intro n
 induction n with
 |zero=>exact⟨fun g args h p h' e=>(by cases e),fun r args h p h' e=>(by cases e)⟩
 | succ n ih=>
  refine⟨fun g args h p h' e=> ?_,fun r args h p h' e=>zlH hm hG ih e⟩;simp only[xZ,zlB] at e;split at e
  ·rename_i x hx;cases e;have h1:=List.mem_of_find?_eq_some hx;have h2:=List.find?_some hx;rw[Qt] at h2;have e1:x.1=g:=Jr h2.1;have e2:=oB (eM 40) h2.2;rw[<-e1,<-e2];exact hT x h1 h
  ·exact zlI hm hG ih e
theorem yR(hm:P.follows .mixedOrders=true)(hG:GTree G){T:Tab}(hT:TabOk P G T){keep ow:FuncId->Bool}{L n:Nat}{g:FuncId}{args:List PV}{p:PV}
  (e:(xZ P G keep ow L T n).fn g args []=some (p,[])) (ha:args.all (zU 40)=true) (hp:zU 40 p=true):TabOk P G ((g,args,p)::T):=by
 intro x hx h;rcases Qw.1 hx with rfl|hx
 ·rw[Xg] at ha;exact Pure.frame ((zcV hm hG hT keep ow L n).fn _ _ _ _ _ e) (fun q hq=>yP _ _ (ha q hq)) (yP _ _ hp) hG h
 ·exact hT x hx h
end
end Go.AL
namespace Go.AL
open Go.RowKit
theorem zpK{P:Program}{G:Glob}{T:Tab}{g:FuncId}{args:List PV}{p:PV}(hG:GTree G)(hT:TabOk P G T)(k:EPure P G g args fun v=>v=p)(ha:args.all (zU 40)=true):TabOk P G ((g,args,p)::T):=by
 obtain⟨_,rfl,t,q⟩:=k;intro x hx h;rcases Qw.1 hx with rfl|hx
 ·rw[Xg] at ha;exact Pure.frame q (fun q hq=>yP _ _ (ha q hq)) t hG h
 ·exact hT x hx h
theorem TabOk.pure{P:Program}{G:Glob}{T:Tab}(hT:TabOk P G T){g:FuncId}{args:List PV}{p:PV}(hm:(g,args,p)∈T)(hp:zU 40 p=true):EPure P G g args fun v=>v=p:=
 ⟨p,rfl,yP 40 p hp,hT _ hm []⟩
end Go.AL
namespace Go.AL
open Go.RowKit
def zw2:Nat->PV->PV->Bool
 |0,_,_=>false
 |f+1,p,q=>nU 40 p q||match p,q with
  | .nil,.ts _ []=>true
  | .tc k e,.ts k' e'=>Nat.beq k k'&&(Nat.beq e.length e'.length&&(e.zip e').all fun x=>Nat.beq x.1.length x.2.length&&(x.1.zip x.2).all fun y=>zw2 f y.1 y.2)
  | .ts k e,.ts k' e'=>Nat.beq k k'&&(Nat.beq e.length e'.length&&(e.zip e').all fun x=>Nat.beq x.1.length x.2.length&&(x.1.zip x.2).all fun y=>zw2 f y.1 y.2)
  | .agg c,.agg d=>Nat.beq c.length d.length&&(c.zip d).all fun y=>zw2 f y.1 y.2
  |_,_=>false
theorem zsA: ∀{c d:List PV},c.length=d.length->(∀y∈c.zip d,PLe y.1 y.2)->PLes c d
 | [],[],_,_=> .nil
 |a::c,b::d,h,k=> .cons (k (a,b) Qf1) (zsA Qfn fun y hy=>k y (by rw[List.zip_cons_cons];exact Qf _ hy))
 | [],_::_,h,_=>by simp at h
 |_::_,[],h,_=>by simp at h
theorem zxL: ∀(f:Nat)(p q:PV),zw2 f p q=true->PLe p q
 |0,_,_,h=>by cases h
 | f+1,p,q,h=>by
  have ih:=zxL f;unfold zw2 at h;rw[Ka] at h;rcases h with h|h
  ·rw[eM 40 p q h];exact PLe.refl _
  have rows: ∀{k k':Nat}{e e':List (List PV)},(Nat.beq k k'&&(Nat.beq e.length e'.length&&(e.zip e').all fun x=>Nat.beq x.1.length x.2.length&&(x.1.zip x.2).all fun y=>zw2 f y.1 y.2))=true->k=k'/\PLe (.ts k e) (.ts k e'):=fun {k k' e e'} h=>by
   rw[Qt,Qt,Xg] at h;obtain⟨h1,h2,h3⟩:=h;have hl:=Jr h2;refine⟨Jr h1,PLe.ts hl fun i a b ha hb=> ?_⟩;have hm:(a,b)∈e.zip e':=List.mem_iff_getElem?.2 ⟨i,by rw[List.getElem?_zip_eq_some];exact⟨ha,hb⟩⟩;have:=h3 _ hm;rw[Qt,Xg] at this;have:=zsA (Jr this.1) fun y hy=>ih _ _ (this.2 y hy);exact⟨this.len,this.get⟩
  split at h
  ·exact PLe.nil_ts _
  ·obtain⟨rfl,h'⟩:=rows h;exact(PLe.tc_ts _ _).trans h'
  ·obtain⟨rfl,h'⟩:=rows h;exact h'
  ·rw[Qt,Xg] at h;exact PLes.agg (zsA (Jr h.1) fun y hy=>ih _ _ (h.2 y hy))
  ·cases h
theorem EPure.argsB{P:Program}{G:Glob}{g:FuncId}{args args':List PV}{K:PV->Prop}(k:EPure P G g args K)(h:(Nat.beq args'.length args.length&&(args'.zip args).all fun y=>zw2 12 y.1 y.2)=true):EPure P G g args' K:=by
 rw[Qt,Xg] at h;exact EPure.args k (zsA (Jr h.1) fun y hy=>zxL 12 _ _ (h.2 y hy))
end Go.AL
