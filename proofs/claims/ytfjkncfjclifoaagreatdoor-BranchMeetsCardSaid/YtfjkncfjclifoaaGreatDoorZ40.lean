/-
  Branches: what a fork and commits on both branches keep.
-/
import Derived.Test.YtfjkncfjclifoaaGreatDoorZ39
set_option linter.unusedSimpArgs false
set_option linter.unusedVariables false
set_option maxRecDepth 100000
set_option maxHeartbeats 4000000
namespace Go.AL
open Go.Proofs Go.Proofs.Tryz
def Op1.raw (x:Op1):Prop:=x.args.length≤140737488355328∧ ∀ a∈x.args,a.ok
def iP (l:List Op1):Prop:=l.length≤140737488355328∧ ∀ x∈l,x.raw
structure Rp.raw (r:Rp):Prop where
 cl:r.cs.length≤140737488355328
 c: ∀ x∈r.cs,iP x.ops
 bl:r.bs.length≤140737488355328
 b: ∀ x∈r.bs,x.ok
theorem dFa:Dec 3 80 (fun f:Int×List Vl×Int=>[i64 f.1,pH f.2.1,i64 f.2.2]) fun f=>f.2.1.length≤140737488355328∧ ∀ a∈f.2.1,a.ok:=(Dec.struct (ts:=[3,73,3]) (by kernel_rfl) (.cons (zeQ 2) (.cons dVls (.cons (zeQ 2) .nil)))).map
 (fun a=>⟨a.1,a.2.1,a.2.2.1⟩) (fun _=>rfl) fun _ h=>h.2.1
theorem dOp:Dec 4 84 Op1.c Op1.raw:=(Dec.struct (ts:=[3,80,82]) (by kernel_rfl) (.cons (zeQ 3) (.cons dFa (.cons (dSp.up (by decide)) .nil)))).map
 (fun a=>⟨a.1,a.2.1.1,a.2.1.2.1,a.2.1.2.2,a.2.2.1⟩) (fun _=>rfl) fun _ h=>h.2.1
theorem dOps:Dec 5 32 (fun l:List Op1=>[lJ l]) iP:=dOp.slice (by kernel_rfl)
theorem dCo:Dec 6 60 Co.c fun c=>iP c.ops:=(Dec.struct (ts:=[32,3,3]) (by kernel_rfl) (.cons dOps (.cons (zeQ 5) (.cons (zeQ 5) .nil)))).map
 (fun a=>⟨a.1,a.2.1,a.2.2.1⟩) (fun _=>rfl) fun _ h=>h.1
theorem dCos:Dec 7 28 (fun l:List Co=>[.ts 3 (l.map Co.c)]) fun l=>l.length≤140737488355328∧ ∀ s∈l,iP s.ops:=dCo.slice (by kernel_rfl)
theorem dBr:Dec 1 40 Br.c Br.ok:=(Dec.struct (ts:=[9,3]) (by kernel_rfl) (.cons dS (.cons dI .nil))).map (fun a=>⟨a.1,a.2.1⟩) (fun _=>rfl) fun _ h=>h.1
theorem dBrs:Dec 2 29 (fun l:List Br=>[.ts 2 (l.map Br.c)]) fun l=>l.length≤140737488355328∧ ∀ s∈l,s.ok:=dBr.slice (by kernel_rfl)
theorem dRp:Dec 8 31 Rp.c Rp.raw:=(Dec.struct (ts:=[28,29]) (by kernel_rfl) (.cons dCos (.cons (dBrs.up (by decide)) .nil))).map
 (fun a=>⟨a.1,a.2.1⟩) (fun _=>rfl) fun _ h=>⟨h.1.1,h.1.2,h.2.1.1,h.2.1.2⟩
section
variable {H:Type} {enc:TypeId×Value→H} {w:World} {base:Nat} {spare:Nat→Bool} {held:Bool}
theorem Dec.arg {α:Type} {n b0:Nat} {t:TypeId} {c:α→List PV} {K:α→Prop} (D:Dec n t c K) {ts:List TypeId} (hs:zcS prog t=some ts) (hok:zg3 prog n t=true) {v:Value} {d:DataW H} {ps:List MemPlace}
  (hw:Light prog t d) (hv:Value.okWide prog w .any b0 t v) (h:DataW.Trod enc prog w base spare held t v d ps): ∃ a,K a∧VRel ⟨[],[],w,fun _=>False⟩ (.agg (c a)) v:=by
 unfold zcS at hs
 split at hs
 case h_2=>cases hs
 rename_i fs hu
 obtain ⟨vs,rfl,ht,hsh⟩:=zkF (X:=fun _=>False) (fun _ h=>h) hu hok hw hv h
 obtain ⟨a,hK,hle⟩:=D 0 _ (by rw [Nat.zero_add];exact hsh)
 exact ⟨a,hK,ht.agg hle.len.symm fun i p q hp hq=>hle.get i p q hp hq⟩
theorem Dec.arg1 {α:Type} {n:Nat} {t:TypeId} {c:α→PV} {K:α→Prop} (D:Dec n t (fun a=>[c a]) K) (hok:zg3 prog n t=true) {v:Value} {d:DataW H} {ps:List MemPlace} (hc:v.cells= #[v])
  (hw:Light prog t d) (h:DataW.Trod enc prog w base spare held t v d ps): ∃ a,K a∧VRel ⟨[],[],w,fun _=>False⟩ (c a) v:=by
 obtain ⟨fuel,hf⟩:=h
 have ht:=lN (X:=fun _=>False) (fun _ h=>h) fuel n t _ d ps hok hf
 have hsh:=cH fuel n t _ d ps hok hw hf
 obtain ⟨a,hK,hle⟩:=D 0 _ (by rw [Nat.zero_add];exact hsh)
 have hl:=hle.len
 refine ⟨a,hK,?_⟩
 have hcs:v.cells.toList=[v]:=by rw [hc]
 rw [hcs] at ht
 match hq:tP prog n t d,hl with
 | [p],_=>
  rw [hq] at ht hle
  exact hle.get 0 p (c a) rfl rfl _ _ (ht.rel 0 p v rfl rfl)
end
end Go.AL
namespace Go.AL
open Go.Proofs Go.Proofs.Tryz
def zm6 (c:Co):Cm:=(c.merged,c.parent)
def pG (l:List Br) (j:Nat):Int:=(l.getD j ⟨⟨#[]⟩, -1⟩).last
theorem vT {l:List Br} {j:Nat} (h:j<l.length):pG l j=l[j].last:=by
 unfold pG;rw [List.getD_eq_getElem?_getD,List.getElem?_eq_getElem h];rfl
theorem jR {l:List Br} {j:Nat} (h:j<l.length) (i:Nat) (b:Br):pG (l.set i b) j=if i=j then b.last else pG l j:=by
 rw [vT (by simpa using h),vT h,List.getElem_set]
 split<;>rfl
theorem lQ (s:BA): ∀ l:List Br,rV (kN s) l=rV (fun t:BA=>decide (t=s)) (l.map (·.name))
 | []=>rfl
 |x::l=>by simp only [List.map_cons,rV,lQ s l]
structure MInv (r:Rp) (k:Nat) (name:BA) (i:Nat) (x:Rp):Prop where
 sz:x.sz
 cl:x.cs.length≤16+i
 nm:x.bs.map (·.name)=r.bs.map (·.name)++[name]
 me:Meets (x.cs.map zm6) (pG x.bs k) (pG x.bs r.bs.length) (pG r.bs k)
theorem MInv.len {r:Rp} {k:Nat} {name:BA} {i:Nat} {x:Rp} (h:MInv r k name i x):x.bs.length=r.bs.length+1:=by
 have:=congrArg List.length h.nm
 simpa using this
theorem MInv.up {r:Rp} {k:Nat} {name:BA} {i:Nat} {x:Rp} (h:MInv r k name i x):MInv r k name (i+1) x:=⟨h.sz,by have:=h.cl;omega,h.nm,h.me⟩
theorem zdH (l:List Br) (i:Nat) (h:i<l.length) (n:Int):(l.set i ⟨l[i].name,n⟩).map (·.name)=l.map (·.name):=by
 refine List.ext_getElem (by simp) fun j h1 h2=> ?_
 simp only [List.getElem_map,List.getElem_set]
 split
 ·rename_i e;subst e;rfl
 ·rfl
theorem MInv.com {r:Rp} {k:Nat} (hk:k<r.bs.length) {name:BA} {i:Nat} {x y:Rp} {n:Int} {to:BA} {ops:List Op1} (h:MInv r k name i x) (ho:OpsG ops) (hi:i<1000)
  (hto:rV (kN to) x.bs=k∨rV (kN to) x.bs=(r.bs.length:Nat)) (hc:CommitK x to ops y n):MInv r k name (i+1) y:=by
 obtain ⟨j,hj,hix,rfl,rfl⟩:=hc
 have hlen:=h.len
 have hcl:=h.cl
 have hjk:j=k∨j=r.bs.length:=by omega
 have hkx:k<x.bs.length:=by omega
 have hnx:r.bs.length<x.bs.length:=by omega
 have hm:=h.me
 have hl:(x.cs.map zm6).length=x.cs.length:=by simp
 refine ⟨⟨by simp;omega,fun c hc=> ?_,by simp;have:=h.sz.bl;omega,fun b hb=> ?_⟩,by simp;omega,?_,?_⟩
 ·rcases List.mem_append.1 hc with hc|hc
  ·exact h.sz.c c hc
  ·rw [List.mem_singleton] at hc;subst hc;exact ho
 ·rcases List.mem_or_eq_of_mem_set hb with hb|rfl
  ·exact h.sz.b b hb
  ·have e:=h.sz.b _ (List.getElem_mem hj)
   unfold Br.ok at e ⊢;exact e
 ·dsimp only
  rw [zdH _ _ hj];exact h.nm
 ·dsimp only
  rw [jR hkx,jR hnx,List.map_append,List.map_cons,List.map_nil]
  rw [←vT hj]
  rcases hjk with rfl|rfl
  ·rw [if_pos rfl,if_neg (by omega)]
   have:=hm.left
   rw [hl] at this
   exact this
  ·rw [if_neg (by omega),if_pos rfl]
   have:=hm.right
   rw [hl] at this
   exact this
theorem MInv.ixn {r:Rp} {k:Nat} {name:BA} {i:Nat} {x:Rp} (h:MInv r k name i x) (hn:rV (kN name) r.bs<0):rV (kN name) x.bs=(r.bs.length:Nat):=by
 rw [lQ] at hn ⊢
 rw [h.nm,zbU _ (by simp) hn];simp
theorem MInv.ixk {r:Rp} {k:Nat} (hk:k<r.bs.length) {name:BA} {i:Nat} {x:Rp} (h:MInv r k name i x) (hn:rV (kN r.bs[k].name) r.bs=k):rV (kN r.bs[k].name) x.bs=k:=by
 rw [lQ] at hn ⊢
 rw [h.nm,zbX _ (by omega)];exact hn
theorem MInv.start {r x:Rp} (hr:r.sz) (hc:r.cs.length≤16) {k:Nat} (hk:k<r.bs.length) {name:BA} (hname:name.size≤140737488355328) (hn:rV (kN r.bs[k].name) r.bs=k) (hl: -1≤r.bs[k].last∧r.bs[k].last<r.cs.length) (h:ForkK r r.bs[k].name name x):MInv r k name 0 x∧rV (kN name) r.bs<0:=by
 obtain ⟨i,hi,h1,h2,h3,rfl⟩:=h
 have:i=k:=by omega
 subst this
 refine ⟨⟨⟨hr.cl,hr.c,by simp;omega,fun b hb=> ?_⟩,by dsimp only;omega,by simp,?_⟩,h2⟩
 ·rcases List.mem_append.1 hb with hb|hb
  ·exact hr.b b hb
  ·rw [List.mem_singleton] at hb;subst hb;exact hname
 ·dsimp only
  have e1:pG (r.bs++[⟨name,r.bs[i].last⟩]) i=r.bs[i].last:=by
   rw [vT (by simp;omega),List.getElem_append_left hi]
  have e2:pG (r.bs++[⟨name,r.bs[i].last⟩]) r.bs.length=r.bs[i].last:=by
   rw [vT (by simp)];simp
  rw [e1,e2,vT hi]
  exact Meets.refl (by simpa using hl)
theorem zfJ (x:Rp):PLe (.agg x.c) (zaF (x.cs.map zm6)):=by
 refine PLes.agg (.cons ?_ (.cons (PLe.un _) .nil))
 refine PLe.ts (by simp) fun i a b ha hb=> ?_
 rw [List.map_map,List.getElem?_map] at hb
 rw [List.getElem?_map] at ha
 cases hx:x.cs[i]? with
 |none=>rw [hx] at ha;cases ha
 |some c=>
  rw [hx] at ha hb
  cases ha;cases hb
  refine ⟨rfl,fun j p q hp hq=> ?_⟩
  match j,hp,hq with
  |0,hp,hq=>simp [bS] at hp hq;subst hq;exact PLe.un _
  |1,hp,hq=>simp [bS,zm6] at hp hq;subst hp;subst hq;exact PLe.refl _
  |2,hp,hq=>simp [bS,zm6] at hp hq;subst hp;subst hq;exact PLe.refl _
  |j+3,hp,hq=>simp [Co.c] at hp
theorem zgK {p:Pg} {r:Rp} (h:iY p r) {k:Nat} (hk:k<r.bs.length):rV (kN r.bs[k].name) r.bs=k∧ -1≤r.bs[k].last∧r.bs[k].last<r.cs.length:=by
 have:=h.2.2.2.2 k hk
 simp only [zkX,Bool.and_eq_true,Bool.not_eq_true',decide_eq_false_iff_not,beq_iff_eq] at this
 omega
end Go.AL
