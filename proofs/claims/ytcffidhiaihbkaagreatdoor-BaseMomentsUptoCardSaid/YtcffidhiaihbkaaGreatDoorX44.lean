/-
  Cells: the element of a tuple at a moment, to the letter.
-/
import Derived.Test.YtcffidhiaihbkaaGreatDoorX43
set_option linter.unusedSimpArgs false
set_option linter.unusedVariables false
set_option maxRecDepth 100000
set_option maxHeartbeats 4000000
namespace Go.AL
open Go.Proofs Go.Proofs.Tryz
theorem PLes.app {a b c d:List PV} (h:PLes a b) (k:PLes c d):PLes (a++c) (b++d):=by
 induction h with
 |nil=>exact k
 |cons h _ ih=>exact .cons h ih
def Dec {α:Type} (n:Nat) (t:TypeId) (c:α→List PV) (K:α→Prop):Prop:= ∀ (m:Nat) (x:List PV),Shp prog (m+n) t x→ ∃ a,K a∧PLes x (c a)
def DecS {α:Type} (n:Nat) (ts:List TypeId) (c:α→List PV) (K:α→Prop):Prop:= ∀ (m:Nat) (ps:List (List PV)),ps.length=ts.length→(∀ (i:Nat) (t:TypeId) (p:List PV),ts[i]? =some t→ps[i]? =some p→Shp prog (m+n) t p)→ ∃ a,K a∧PLes ps.flatten (c a)
def zcS (P:Program) (t:TypeId):Option (List TypeId):=match P.underlying t with
 |some (.struct fs)=>some (fs.toList.map (·.type))
 |_=>none
def slOf (P:Program) (t:TypeId):Option (TypeId×Nat×Bool):=match P.underlying t with
 |some (.slice e)=>some (e,P.cellsOf e,decide (1≤P.bytesOf e))
 |_=>none
theorem Dec.up {α:Type} {n k:Nat} {t:TypeId} {c:α→List PV} {K:α→Prop} (D:Dec n t c K) (h:n≤k):Dec k t c K:=fun m x hx=>D (m+(k-n)) x (by rw [show m+(k-n)+n=m+k by omega];exact hx)
theorem Dec.map {α β:Type} {n:Nat} {t:TypeId} {c:α→List PV} {K:α→Prop} {d:β→List PV} {L:β→Prop} (D:Dec n t c K) (f:α→β) (hc: ∀ a,c a=d (f a)) (hK: ∀ a,K a→L (f a)):Dec n t d L:=fun m x hx=>by
 obtain ⟨a,h,k⟩:=D m x hx
 exact ⟨f a,hK a h,by rw [←hc];exact k⟩
theorem zj1 {t:TypeId} {k:IntKind} (h:prog.underlying t=some (.int k)):Dec 0 t (fun z:Int=>[.sc (.int k z)]) fun z=>k.min≤z∧z≤k.max:=fun m x hx=>by
 unfold Shp at hx
 rw [h] at hx
 have hx: ∃ z,x=[.sc (.int k z)]∧k.min≤z∧z≤k.max:=by cases m<;>exact hx
 obtain ⟨z,rfl,hz⟩:=hx
 exact ⟨z,hz,PLes.refl _⟩
theorem zgB {t:TypeId} (h:prog.underlying t=some .bool):Dec 0 t (fun z:Bool=>[bo z]) fun _=>True:=fun m x hx=>by
 unfold Shp at hx
 rw [h] at hx
 have hx: ∃ b,x=[.sc (.bool b)]:=by cases m<;>exact hx
 obtain ⟨z,rfl⟩:=hx
 exact ⟨z,trivial,PLes.refl _⟩
theorem aT {t:TypeId} (h:prog.underlying t=some .string):Dec 0 t (fun z:BA=>[yQ z]) fun z=>z.size≤140737488355328:=fun m x hx=>by
 unfold Shp at hx
 rw [h] at hx
 have hx: ∃ s:BA,x=[.sc (.string s)]∧s.size≤maxLen∧s.size≤reachBytes:=by cases m<;>exact hx
 obtain ⟨z,rfl,_,hz⟩:=hx
 have:reachBytes=140737488351232:=by decide
 exact ⟨z,by omega,PLes.refl _⟩
theorem zj2 {α:Type} {n k:Nat} {e:TypeId} {c:α→List PV} {K:α→Prop} (D:Dec n e c K) (m:Nat): ∀ els:List (List PV),(∀ x∈els,Shp prog (m+n) e x)→ ∃ l:List α,l.length=els.length∧(∀ a∈l,K a)∧PLe (.ts k els) (.ts k (l.map c)):=fun els h=>by
 have key: ∃ l:List α,l.length=els.length∧(∀ a∈l,K a)∧ ∀ (i:Nat) (x y:List PV),els[i]? =some x→(l.map c)[i]? =some y→PLes x y:=by
  induction els with
  |nil=>exact ⟨[],rfl,by simp,fun i x y hx=>by simp at hx⟩
  | cons x els ih=>
   obtain ⟨a,ha,k⟩:=D m x (h x (List.mem_cons_self ..))
   obtain ⟨l,h1,h2,h3⟩:=ih fun y hy=>h y (List.mem_cons_of_mem _ hy)
   refine ⟨a::l,by simp [h1],fun b hb=> ?_,fun i y z hy hz=> ?_⟩
   ·rcases List.mem_cons.1 hb with rfl|hb
    ·exact ha
    ·exact h2 b hb
   ·cases i with
    |zero=>simp at hy hz;subst hy;subst hz;exact k
    |succ i=>exact h3 i y z (by simpa using hy) (by simpa using hz)
 obtain ⟨l,h1,h2,h3⟩:=key
 exact ⟨l,h1,h2,PLe.ts (by simp [h1]) fun i x y hx hy=>⟨(h3 i x y hx hy).len,(h3 i x y hx hy).get⟩⟩
theorem Dec.slice {α:Type} {n k:Nat} {t e:TypeId} {c:α→List PV} {K:α→Prop} (D:Dec n e c K) (h:slOf prog t=some (e,k,true)):Dec (n+1) t (fun l:List α=>[.ts k (l.map c)]) fun l=>l.length≤140737488355328∧ ∀ a∈l,K a:=fun m x hx=>by
 unfold slOf at h
 split at h
 case h_2=>cases h
 rename_i e' hu
 simp only [Option.some.injEq,Prod.mk.injEq,decide_eq_true_eq] at h
 obtain ⟨h1,h2,hb⟩:=h
 subst h1;subst h2
 rw [show m+(n+1)=(m+n)+1 by omega] at hx
 unfold Shp at hx
 rw [hu] at hx
 have hx:x=[.nil]∨ ∃ els,x=[.ts (prog.cellsOf e') els]∧els.length*prog.bytesOf e'≤reachBytes∧ ∀ x∈els,Shp prog (m+n) e' x:=hx
 rcases hx with rfl|⟨els,rfl,hl,hels⟩
 ·exact ⟨[],⟨Nat.zero_le _,by simp⟩,.cons (PLe.nil_ts _) .nil⟩
 ·obtain ⟨l,h1,h2,h3⟩:=zj2 (k:=prog.cellsOf e') D m els hels
  have:reachBytes=140737488351232:=by decide
  have:=Nat.le_mul_of_pos_right els.length hb
  exact ⟨l,⟨by omega,h2⟩,.cons h3 .nil⟩
theorem DecS.nil {n:Nat}:DecS n [] (fun _:Unit=>[]) fun _=>True:=fun m ps h _=>⟨(),trivial,by rw [List.eq_nil_of_length_eq_zero h];exact .nil⟩
theorem DecS.cons {α β:Type} {n:Nat} {t:TypeId} {ts:List TypeId} {c:α→List PV} {K:α→Prop} {d:β→List PV} {L:β→Prop} (D:Dec n t c K) (E:DecS n ts d L):DecS n (t::ts) (fun a:α×β=>c a.1++d a.2) fun a=>K a.1∧L a.2:=fun m ps h k=>by
 match ps,h with
 |p::ps,h=>
  obtain ⟨a,h1,h2⟩:=D m p (k 0 t p rfl rfl)
  obtain ⟨b,h3,h4⟩:=E m ps (by simpa using h) fun i t p ht hp=>k (i+1) t p (by simpa using ht) (by simpa using hp)
  exact ⟨(a,b),⟨h1,h3⟩,h2.app h4⟩
theorem Dec.struct {α:Type} {n:Nat} {t:TypeId} {ts:List TypeId} {c:α→List PV} {K:α→Prop} (h:zcS prog t=some ts) (E:DecS n ts c K):Dec (n+1) t c K:=fun m x hx=>by
 unfold zcS at h
 split at h
 case h_2=>cases h
 rename_i fs hu
 cases h
 rw [show m+(n+1)=(m+n)+1 by omega] at hx
 unfold Shp at hx
 rw [hu] at hx
 have hx: ∃ parts:List (List PV),parts.length=fs.size∧x=parts.flatten∧ ∀ (i:Nat) (f:Field) (p:List PV),fs[i]? =some f→parts[i]? =some p→Shp prog (m+n) f.type p:=hx
 obtain ⟨ps,hl,rfl,hp⟩:=hx
 refine E m ps (by simpa using hl) fun i t p ht hp'=> ?_
 rw [List.getElem?_map] at ht
 cases hf:fs.toList[i]? with
 |none=>rw [hf] at ht;cases ht
 |some f=>
  rw [hf] at ht;cases ht
  exact hp i f p (by rw [←Array.getElem?_toList];exact hf) hp'
theorem dI:Dec 0 3 (fun z:Int=>[i64 z]) fun _=>True:=(zj1 (by kernel_rfl)).map id (fun _=>rfl) fun _ _=>trivial
theorem dB:Dec 0 4 (fun z:Bool=>[bo z]) fun _=>True:=zgB (by kernel_rfl)
theorem dS:Dec 0 9 (fun z:BA=>[yQ z]) fun z=>z.size≤140737488355328:=aT (by kernel_rfl)
theorem dSs:Dec 1 70 (fun l:List BA=>[rR l]) fun l=>l.length≤140737488355328∧ ∀ s∈l,s.size≤140737488355328:=dS.slice (by kernel_rfl)
theorem dIs:Dec 1 57 (fun l:List Int=>[vF l]) fun l=>l.length≤140737488355328∧ ∀ s∈l,True:=dI.slice (by kernel_rfl)
end Go.AL
namespace Go.AL
open Go.Proofs Go.Proofs.Tryz
theorem dVl:Dec 1 79 Vl.c Vl.ok:=(Dec.struct (ts:=[3,3,9]) (by kernel_rfl) (.cons dI (.cons dI (.cons dS .nil)))).map (fun a=>⟨a.1,a.2.1,a.2.2.1⟩) (fun _=>rfl) fun _ h=>h.2.2.1
theorem zs9:Dec 2 32 (fun l:List Vl=>[pH l]) fun l=>l.length≤140737488355328∧ ∀ s∈l,s.ok:=dVl.slice (by kernel_rfl)
theorem dSp:Dec 1 36 Sp.c fun _=>True:=(Dec.struct (ts:=[3,3]) (by kernel_rfl) (.cons dI (.cons dI .nil))).map (fun a=>⟨a.1,a.2.1⟩) (fun _=>rfl) fun _ _=>trivial
theorem dTm:Dec 2 207 Tm.c Tm.ok:=(Dec.struct (ts:=[9,79]) (by kernel_rfl) (.cons (dS.up (by decide)) (.cons dVl .nil))).map (fun a=>⟨a.1,a.2.1⟩) (fun _=>rfl) fun _ h=>⟨h.1,h.2.1⟩
theorem dTms:Dec 3 112 (fun l:List Tm=>[mI l]) fun l=>l.length≤140737488355328∧ ∀ s∈l,s.ok:=dTm.slice (by kernel_rfl)
theorem zeQ (n:Nat):Dec n 3 (fun z:Int=>[i64 z]) fun _=>True:=dI.up (Nat.zero_le n)
theorem zm4 (n:Nat):Dec n 9 (fun z:BA=>[yQ z]) fun z=>z.size≤140737488355328:=dS.up (Nat.zero_le n)
theorem dLi:Dec 4 120 Li.c Li.ok:=(Dec.struct (ts:=[3,9,3,112,9,9,3,3,3]) (by kernel_rfl) (.cons (zeQ 3) (.cons (zm4 3) (.cons (zeQ 3) (.cons dTms (.cons (zm4 3) (.cons (zm4 3) (.cons (zeQ 3) (.cons (zeQ 3) (.cons (zeQ 3) .nil)))))))))).map
 (fun a=>⟨a.1,a.2.1,a.2.2.1,a.2.2.2.1,a.2.2.2.2.1,a.2.2.2.2.2.1,a.2.2.2.2.2.2.1,a.2.2.2.2.2.2.2.1,a.2.2.2.2.2.2.2.2.1⟩) (fun _=>rfl) fun _ h=>⟨h.2.1,h.2.2.2.2.1,h.2.2.2.2.2.1,h.2.2.2.1.1,h.2.2.2.1.2⟩
theorem dLis:Dec 5 115 (fun l:List Li=>[.ts 9 (l.map Li.c)]) fun l=>l.length≤140737488355328∧ ∀ s∈l,s.ok:=dLi.slice (by kernel_rfl)
theorem dEl:Dec 1 114 El.c fun e=>e.name.size≤140737488355328∧e.var.size≤140737488355328:=(Dec.struct (ts:=[3,9,9,3]) (by kernel_rfl) (.cons dI (.cons dS (.cons dS (.cons dI .nil))))).map (fun a=>⟨a.1,a.2.1,a.2.2.1,a.2.2.2.1⟩) (fun _=>rfl) fun _ h=>⟨h.2.1,h.2.2.1⟩
theorem dRu:Dec 6 117 Ru.c Ru.ok:=(Dec.struct (ts:=[9,3,112,114,115,3]) (by kernel_rfl) (.cons (zm4 5) (.cons (zeQ 5) (.cons (dTms.up (by decide)) (.cons (dEl.up (by decide)) (.cons dLis (.cons (zeQ 5) .nil))))))).map
 (fun a=>⟨a.1,a.2.1,a.2.2.1,a.2.2.2.1,a.2.2.2.2.1,a.2.2.2.2.2.1⟩) (fun _=>rfl) fun _ h=>⟨h.1,h.2.2.2.1.1,h.2.2.2.1.2,h.2.2.1.1,h.2.2.1.2,h.2.2.2.2.1.1,h.2.2.2.2.1.2⟩
theorem dRus:Dec 7 25 (fun l:List Ru=>[.ts 9 (l.map Ru.c)]) fun l=>l.length≤140737488355328∧ ∀ s∈l,s.ok:=dRu.slice (by kernel_rfl)
theorem ziI:prog.underlying 200=some (.array 2 3):=by kernel_rfl
theorem dPr:Dec 1 200 (fun c:Int×Int=>[i64 c.1,i64 c.2]) fun _=>True:=fun m x hx=>by
 unfold Shp at hx
 rw [ziI] at hx
 have hx: ∃ parts:List (List PV),parts.length=2∧x=parts.flatten∧ ∀ p∈parts,Shp prog m 3 p:=hx
 obtain ⟨ps,hl,rfl,hp⟩:=hx
 match ps,hl,hp with
 | [a,b],_,hp=>
  obtain ⟨u,_,h1⟩:=dI m a (hp a (by simp))
  obtain ⟨v,_,h2⟩:=dI m b (hp b (by simp))
  exact ⟨(u,v),trivial,h1.app (h2.app .nil)⟩
theorem dPrs:Dec 2 71 (fun l:List (Int×Int)=>[.ts 2 (l.map fun c=>[i64 c.1,i64 c.2])]) fun l=>l.length≤140737488355328∧ ∀ s∈l,True:=dPr.slice (by kernel_rfl)
theorem dLa:Dec 3 73 La.c La.ok:=(Dec.struct (ts:=[9,70,71,3]) (by kernel_rfl) (.cons (zm4 2) (.cons (dSs.up (by decide)) (.cons dPrs (.cons (zeQ 2) .nil))))).map (fun a=>⟨a.1,a.2.1,a.2.2.1,a.2.2.2.1⟩) (fun _=>rfl) fun _ h=>⟨h.1,h.2.1.1,h.2.1.2,h.2.2.1.1⟩
theorem dLas:Dec 4 22 (fun l:List La=>[.ts 4 (l.map La.c)]) fun l=>l.length≤140737488355328∧ ∀ s∈l,s.ok:=dLa.slice (by kernel_rfl)
theorem dFu:Dec 2 109 Fu.c Fu.ok:=(Dec.struct (ts:=[9,9,3,70,70,57,3]) (by kernel_rfl) (.cons (zm4 1) (.cons (zm4 1) (.cons (zeQ 1) (.cons dSs (.cons dSs (.cons dIs (.cons (zeQ 1) .nil)))))))).map
 (fun a=>⟨a.1,a.2.1,a.2.2.1,a.2.2.2.1,a.2.2.2.2.1,a.2.2.2.2.2.1,a.2.2.2.2.2.2.1⟩) (fun _=>rfl) fun _ h=>⟨h.1,h.2.1,h.2.2.2.1.1,h.2.2.2.1.2,h.2.2.2.2.1.1,h.2.2.2.2.1.2,h.2.2.2.2.2.1.1⟩
theorem dFus:Dec 3 23 (fun l:List Fu=>[.ts 7 (l.map Fu.c)]) fun l=>l.length≤140737488355328∧ ∀ s∈l,s.ok:=dFu.slice (by kernel_rfl)
theorem dPd:Dec 2 59 Pd.c Pd.ok:=(Dec.struct (ts:=[9,57,9,3,4,3,3]) (by kernel_rfl) (.cons (zm4 1) (.cons dIs (.cons (zm4 1) (.cons (zeQ 1) (.cons (dB.up (by decide)) (.cons (zeQ 1) (.cons (zeQ 1) .nil)))))))).map
 (fun a=>⟨a.1,a.2.1,a.2.2.1,a.2.2.2.1,a.2.2.2.2.1,a.2.2.2.2.2.1,a.2.2.2.2.2.2.1⟩) (fun _=>rfl) fun _ h=>⟨h.1,h.2.2.1,h.2.1.1⟩
theorem dPds:Dec 3 24 (fun l:List Pd=>[.ts 7 (l.map Pd.c)]) fun l=>l.length≤140737488355328∧ ∀ s∈l,s.ok:=dPd.slice (by kernel_rfl)
theorem dPg:Dec 8 27 Pg.c Pg.ok:=(Dec.struct (ts:=[22,23,24,25]) (by kernel_rfl) (.cons (dLas.up (by decide)) (.cons (dFus.up (by decide)) (.cons (dPds.up (by decide)) (.cons dRus .nil))))).map
 (fun a=>⟨a.1,a.2.1,a.2.2.1,a.2.2.2.1⟩) (fun _=>rfl) fun _ h=>⟨h.1.1,h.1.2,h.2.1.1,h.2.1.2,h.2.2.1.1,h.2.2.1.2,h.2.2.2.1.1,h.2.2.2.1.2⟩
end Go.AL
namespace Go.AL
open Go.Proofs Go.Proofs.Tryz
def Op1.raw (x:Op1):Prop:=x.args.length≤140737488355328∧ ∀ a∈x.args,a.ok
def iP (l:List Op1):Prop:=l.length≤140737488355328∧ ∀ x∈l,x.raw
structure Rp.raw (r:Rp):Prop where
 cl:r.cs.length≤140737488355328
 c: ∀ x∈r.cs,iP x.ops
 bl:r.bs.length≤140737488355328
 b: ∀ x∈r.bs,x.ok
theorem dFa:Dec 3 34 (fun f:Int×List Vl×Int=>[i64 f.1,pH f.2.1,i64 f.2.2]) fun f=>f.2.1.length≤140737488355328∧ ∀ a∈f.2.1,a.ok:=(Dec.struct (ts:=[3,32,3]) (by kernel_rfl) (.cons (zeQ 2) (.cons zs9 (.cons (zeQ 2) .nil)))).map
 (fun a=>⟨a.1,a.2.1,a.2.2.1⟩) (fun _=>rfl) fun _ h=>h.2.1
theorem dOp:Dec 4 38 Op1.c Op1.raw:=(Dec.struct (ts:=[3,34,36]) (by kernel_rfl) (.cons (zeQ 3) (.cons dFa (.cons (dSp.up (by decide)) .nil)))).map
 (fun a=>⟨a.1,a.2.1.1,a.2.1.2.1,a.2.1.2.2,a.2.2.1⟩) (fun _=>rfl) fun _ h=>h.2.1
section
variable {H:Type} {enc:TypeId×Value→H} {w:World} {base:Nat} {spare:Nat→Bool} {held:Bool}
theorem Dec.arg {α:Type} {n b0:Nat} {t:TypeId} {c:α→List PV} {K:α→Prop} (D:Dec n t c K) {ts:List TypeId} (hs:zcS prog t=some ts) (hok:zg3 prog n t=true) {v:Value} {d:DataW H} {ps:List MemPlace}
  (hw:Light prog t d) (hv:Value.okWide prog w .any b0 t v) (h:DataW.Trod enc prog w base spare held t v d ps): ∃ a,K a∧VRel ⟨[],[],w,fun _=>False⟩ (.agg (c a)) v:=by
 unfold zcS at hs
 split at hs
 case h_2=>cases hs
 rename_i fs hu
 obtain ⟨vs,rfl,ht,hsh⟩:=zkF (X:=fun _=>False) (fun _ h=>h) hu hok hw hv h
 obtain ⟨a,hK,hle⟩:=D 0 _ (by rw [Nat.zero_add];exact hsh)
 exact ⟨a,hK,ht.agg hle.len.symm fun i p q hp hq=>hle.get i p q hp hq⟩
end
end Go.AL
namespace Go.AL
open Go.Proofs Go.Proofs.Tryz
theorem dSps:Dec 2 82 (fun l:List Sp=>[kJ l]) fun l=>l.length≤140737488355328∧ ∀ s∈l,True:=dSp.slice (by kernel_rfl)
theorem dCe:Dec 1 161 Ce.c fun _=>True:=(Dec.struct (ts:=[3,3,3]) (by kernel_rfl) (.cons dI (.cons dI (.cons dI .nil)))).map (fun a=>⟨a.1,a.2.1,a.2.2.1⟩) (fun _=>rfl) fun _ _=>trivial
theorem dCes:Dec 2 128 (fun l:List Ce=>[ces l]) fun l=>l.length≤140737488355328∧ ∀ s∈l,True:=dCe.slice (by kernel_rfl)
def Rw.raw (x:Rw):Prop:=x.args.length≤140737488355328∧(∀ a∈x.args,a.s.size≤140737488355328)∧x.w.length≤140737488355328
def LRw.raw (x:LRw):Prop:=x.args.length≤140737488355328∧(∀ a∈x.args,a.s.size≤140737488355328)∧x.cs.length≤140737488355328
theorem dRw:Dec 3 84 Rw.c Rw.raw:=(Dec.struct (ts:=[32,82]) (by kernel_rfl) (.cons zs9 (.cons dSps .nil))).map (fun a=>⟨a.1,a.2.1⟩) (fun _=>rfl) fun _ h=>⟨h.1.1,h.1.2,h.2.1.1⟩
theorem dLRw:Dec 3 130 LRw.c LRw.raw:=(Dec.struct (ts:=[32,128]) (by kernel_rfl) (.cons zs9 (.cons dCes .nil))).map (fun a=>⟨a.1,a.2.1⟩) (fun _=>rfl) fun _ h=>⟨h.1.1,h.1.2,h.2.1.1⟩
theorem dRel:Dec 4 63 (fun l:List Rw=>[uN l]) fun l=>l.length≤140737488355328∧ ∀ s∈l,s.raw:=dRw.slice (by kernel_rfl)
theorem dLRel:Dec 4 89 (fun l:List LRw=>[vD l]) fun l=>l.length≤140737488355328∧ ∀ s∈l,s.raw:=dLRw.slice (by kernel_rfl)
theorem dRels:Dec 5 28 (fun l:List (List Rw)=>[.ts 1 (l.map fun r=>[uN r])]) fun l=>l.length≤140737488355328∧ ∀ s∈l,s.length≤140737488355328∧ ∀ x∈s,x.raw:=dRel.slice (by kernel_rfl)
theorem zs3:Dec 5 29 (fun l:List (List LRw)=>[.ts 1 (l.map fun r=>[vD r])]) fun l=>l.length≤140737488355328∧ ∀ s∈l,s.length≤140737488355328∧ ∀ x∈s,x.raw:=dLRel.slice (by kernel_rfl)
theorem dDt:Dec 6 31 Dt.c Dt.raw:=(Dec.struct (ts:=[28,29]) (by kernel_rfl) (.cons dRels (.cons zs3 .nil))).map (fun a=>⟨a.1,a.2.1⟩) (fun _=>rfl) fun _ h=>⟨h.1.1,h.2.1.1,h.1.2,h.2.1.2⟩
end Go.AL
namespace Go.AL
open Go.Proofs Go.Proofs.Tryz
theorem zl6 (h:Heap):ECall prog G0 9 [] h fun q h2=>q=bo true∧h2=h:=⟨_,_,⟨rfl,rfl⟩,aO h⟩
theorem zsY {p:Pg} {d:Dt} {ops:List Op1} (h:(zk4 p d ops).2≠0):(zk4 p d ops).1=znO:=by
 unfold zk4 at h ⊢
 split
 ·rfl
 ·split
  ·rfl
  ·split
   ·rfl
   ·split
    ·rfl
    ·rename_i h1 h2 h3 h4
     rw [if_neg h1,if_neg h2,if_neg h3,if_neg h4] at h
     exact absurd rfl h
theorem zs2:znO.sz:=⟨Nat.zero_le _,Nat.zero_le _,by simp,by simp,by simp⟩
theorem zhA (p:Pg) (hp:p.ok) (hle:p.sm) (d:Dt) (ops:List Op1) (ho: ∀ o∈ops,o.ok) (hd:d.sz):(zk4 p d ops).1.sz:=by
 by_cases h:(zk4 p d ops).2=0
 ·exact (zn8 p hp hle d ops ho hd h).2.1
 ·rw [zsY h];exact zs2
end Go.AL
namespace Go.AL
open Go.Proofs Go.Proofs.Tryz
@[go_sem] def USamef24.pl:Nat→DPlan
 |6=>⟨[yA,yB,yA,yA,yB,yA,yB,yA,yA,yB,yC,yA],xF,0⟩
 |11=>⟨[yA,yB,yA,yA,yB,yA,yB,yA,yA,yB,yC,yA],xF,0⟩
 |_=>⟨[],[],0⟩
@[go_sem] def USamef31.pl:Nat→DPlan
 |6=>⟨[yA,yA,yA,yA,yB,yA,yA,yA,yA,yB,yC,yA,yA,yA,yA,yA,yA,yB,yA,yA,yA,yA,yB,yC,yA,yA],iot26,0⟩
 |_=>⟨[],[],0⟩
@[go_sem] def USamef55.pl:Nat→DPlan
 |6=>⟨[yA,yA,yA,yA,yB,yA,yA,yA,yA,yB,yC,yA,yA,yA,yA,yA,yA,yB,yA,yA,yA,yA,yA,yB,yA,yA,yA],iot27,0⟩
 |11=>⟨[yA,yA,yA,yA,yB,yA,yA,yB,yA,yA,yA,yA,yB,yA,yA,yB,yA],wR,0⟩
 |_=>⟨[],[],0⟩
@[go_sem] def USamef57.pl:Nat→DPlan
 |4=>⟨[yA,yA,yA,yB,yA,yA,yA,yB,yC,yA],xS,0⟩
 |_=>⟨[],[],0⟩
@[go_sem] def USamef58.pl:Nat→DPlan
 |6=>⟨[yA,yA,yA,yB,yA,yA,yA,yB,yA],uW,0⟩
 |_=>⟨[],[],0⟩
@[go_sem] def USamef126.pl:Nat→DPlan
 |4=>⟨[yA,yA,yA,yA,yA,yA,yA],tV,0⟩
 |5=>⟨[yA,yA,yA,yA,yA,yA,yA,yA,yC,yA],xS,0⟩
 |_=>⟨[],[],0⟩
end Go.AL
namespace Go.AL
open Go.Proofs Go.Proofs.Tryz
@[go_sem] def ULaw1f6.pp:Nat→DPlan
 |8=>⟨[yA,yA,yA,yA,yB,yA,yA,yA,yB,yA,yC,yA],xF,0⟩
 |14=>⟨[yE,yE,yA,yA,yE,uX,yA,yA,yA,vC,yC,yA],xF,1⟩
 |15=>⟨[yE,yE,yA,yA,yE,uX,yA,yA,yA,vC,yC,yA],xF,1⟩
 |_=>⟨[],[],0⟩
@[go_sem] def ULaw1f6.pl:Nat→DPlan
 |8=>⟨[yA,yA,yA,yA,yB,yA,yA,yA,yB,yA,yC,yA],xF,0⟩
 |14=>⟨[yE,yE,yA,yA,yE,rK,yA,yA,yA,vC,yC,yA],xF,1⟩
 |15=>⟨[yE,yE,yA,yA,yE,rK,yA,yA,yA,vC,yC,yA],xF,1⟩
 |_=>⟨[],[],0⟩
end Go.AL
namespace Go.AL
open Go.Proofs Go.Proofs.Tryz
def zs1 (n:Int):List UInt8:=(List.range 8).map (vT n)
def ziU (x:Vl):List UInt8:=zs1 x.t++(zs1 x.n++(zs1 x.s.size++x.s.data.toList))
theorem zq3 (b:BA) (c:UInt8):(b.push c).data.toList=b.data.toList++[c]:=by
 show (b.data.push c).toList=_
 simp
theorem zbB (n:Int) (bs:BA): ∀ k,(b8 n bs k).data.toList=bs.data.toList++(List.range k).map (vT n)
 |0=>by simp [b8]
 |k+1=>by rw [znE,zq3,zbB n bs k,List.range_succ,List.map_append,List.append_assoc];rfl
theorem zrF (bs:BA) (x:Vl):(znJ bs x).data.toList=bs.data.toList++ziU x:=by
 have h0:ztA x bs 0=bs:=rfl
 have happ: ∀ a b:BA,(a++b).data.toList=a.data.toList++b.data.toList:=fun a b=>by simp
 rw [zm9,happ,fK,zbB,fK,zbB,fK,zbB,h0]
 unfold ziU zs1
 simp only [List.append_assoc]
 rfl
theorem fQ: ∀ (l:List Vl) (bs:BA),(l.foldl znJ bs).data.toList=bs.data.toList++l.flatMap ziU
 | [],bs=>by simp
 |x::l,bs=>by rw [List.foldl_cons,fQ l,zrF,List.flatMap_cons,List.append_assoc]
theorem pG (n:Int):(zs1 n).length=8:=by simp [zs1]
theorem zgD {n m:Int} (hn:0≤n∧n≤9999) (hm:0≤m∧m≤9999) (h:zs1 n=zs1 m):n=m:=by
 have h0:vT n 0=vT m 0:=by have:=congrArg (fun l=>l.getD 0 0) h;simpa [zs1,List.range_succ] using this
 have h1:vT n 1=vT m 1:=by have:=congrArg (fun l=>l.getD 1 0) h;simpa [zs1,List.range_succ] using this
 have a0:=ziJ n 0
 have b0:=ziJ m 0
 have a1:=ziJ n 1
 have b1:=ziJ m 1
 rw [h0] at a0
 rw [h1] at a1
 rw [←b0] at a0
 rw [←b1] at a1
 simp only [IntKind.wrap_u8] at a0 a1
 simp at a0 a1
 omega
theorem zhN: ∀ {a b:List Vl},(∀ v∈a,VvK v)→(∀ v∈b,VvK v)→a.flatMap ziU=b.flatMap ziU→a=b
 | [],[],_,_,_=>rfl
 | [],y::b,_,_,h=>by
  have:=congrArg List.length h
  simp [ziU,pG] at this
  omega
 |x::a,[],_,_,h=>by
  have:=congrArg List.length h
  simp [ziU,pG] at this
 | x::a,y::b,ha,hb,h=>by
  rw [List.flatMap_cons,List.flatMap_cons] at h
  unfold ziU at h
  simp only [List.append_assoc] at h
  obtain ⟨h1,h⟩:=List.append_inj h (by rw [pG,pG])
  obtain ⟨h2,h⟩:=List.append_inj h (by rw [pG,pG])
  obtain ⟨h3,h⟩:=List.append_inj h (by rw [pG,pG])
  obtain ⟨x1,x2,x3,x4⟩:=ha x (List.mem_cons_self ..)
  obtain ⟨y1,y2,y3,y4⟩:=hb y (List.mem_cons_self ..)
  have e1:=zgD (by omega) (by omega) h1
  have e2:=zgD ⟨x3,x4⟩ ⟨y3,y4⟩ h2
  have e3:=zgD (by omega) (by omega) h3
  have hsz:x.s.data.toList.length=y.s.data.toList.length:=by
   have q1:x.s.data.toList.length=x.s.size:=Array.length_toList
   have q2:y.s.data.toList.length=y.s.size:=Array.length_toList
   omega
  obtain ⟨h4,h5⟩:=List.append_inj h hsz
  have e4:x.s=y.s:=ByteArray.ext (Array.toList_inj.1 h4)
  have hxy:x=y:=by cases x;cases y;simp_all
  have hr:=zhN (fun v hv=>ha v (List.mem_cons_of_mem _ hv)) (fun v hv=>hb v (List.mem_cons_of_mem _ hv)) (by unfold ziU;simpa only [List.append_assoc] using h5)
  rw [hxy,hr]
theorem zsK {a b:List Vl} (ha: ∀ v∈a,VvK v) (hb: ∀ v∈b,VvK v) (h:zk0 a=zk0 b):a=b:=by
 have h1:=fQ a ⟨#[]⟩
 have h2:=fQ b ⟨#[]⟩
 have h3:(a.foldl znJ ⟨#[]⟩).data.toList=(b.foldl znJ ⟨#[]⟩).data.toList:=by
  show (zk0 a).data.toList=(zk0 b).data.toList
  rw [h]
 rw [h1,h2] at h3
 exact zhN ha hb (by simpa using h3)
theorem ArgX.vv {ty:List Int} {a:List Vl} (h:ArgX ty a): ∀ v∈a,VvK v:=fun v hv=>by
 obtain ⟨j,hj,rfl⟩:=List.getElem_of_mem hv
 exact (zqC _).2 (h.2 j hj (by rw [←h.1];exact hj)).2
theorem ArgX.key {ty ty':List Int} {a b:List Vl} (ha:ArgX ty a) (hb:ArgX ty' b) (h:zk0 a=zk0 b):a=b:=zsK ha.vv hb.vv h
end Go.AL
namespace Go.AL
noncomputable def jU (l:La):Tbl→List Vl→List Int
 | [],_=>List.replicate 64 (oU l)
 |x::T,t=>if x.1=t then x.2 else jU l T t
noncomputable def eF (l:La):List LRw→List Vl→List Int
 | [],_=>List.replicate 64 (oU l)
 |x::z,t=>if x.args=t then wL l x.cs else eF l z t
theorem zdX {l:La} {t:List Vl}: ∀ {T:Tbl},(∀ x∈T,x.1≠t)→jU l T t=List.replicate 64 (oU l)
 | [],_=>rfl
 |x::T,h=>by
  unfold jU
  rw [if_neg (h x (List.mem_cons_self ..))]
  exact zdX fun y hy=>h y (List.mem_cons_of_mem _ hy)
theorem mR {l:La} {t:List Vl}: ∀ {z:List LRw},(∀ x∈z,x.args≠t)→eF l z t=List.replicate 64 (oU l)
 | [],_=>rfl
 |x::z,h=>by
  unfold eF
  rw [if_neg (h x (List.mem_cons_self ..))]
  exact mR fun y hy=>h y (List.mem_cons_of_mem _ hy)
theorem zsW {l:La} {T:Tbl} (hn:(vR T).Nodup) {x:List Vl×List Int} (hx:x∈T):jU l T x.1=x.2:=by
 induction T with
 |nil=>cases hx
 | cons y T ih=>
  unfold jU
  unfold vR at hn ih
  rw [List.map_cons,List.nodup_cons] at hn
  rcases List.mem_cons.1 hx with rfl|hx
  ·rw [if_pos rfl]
  ·rw [if_neg,ih hn.2 hx]
   intro e
   exact hn.1 (by rw [e];exact List.mem_map_of_mem (f:=fun x:List Vl×List Int=>zk0 x.1) hx)
theorem zfD {l:La} {z:List LRw} (hn:(z.map fun x=>zk0 x.args).Nodup) {x:LRw} (hx:x∈z):eF l z x.args=wL l x.cs:=by
 induction z with
 |nil=>cases hx
 | cons y z ih=>
  unfold eF
  rw [List.map_cons,List.nodup_cons] at hn
  rcases List.mem_cons.1 hx with rfl|hx
  ·rw [if_pos rfl]
  ·rw [if_neg,ih hn.2 hx]
   intro e
   exact hn.1 (by rw [e];exact List.mem_map_of_mem (f:=fun x:LRw=>zk0 x.args) hx)
theorem zh7 {l:La} {T:Tbl} (h:TabG l T) (t:List Vl):eF l (uY (oU l) T) t=jU l T t:=by
 have hk:=kR (bt:=oU l) h.1
 by_cases q: ∃ y∈T,y.1=t
 ·obtain ⟨y,hy,rfl⟩:=q
  rw [zsW h.1.1 hy]
  by_cases hc:zh6 (oU l) y.2 64=[]
  ·rw [znD (h.2 y hy) hc]
   refine mR fun x hx e=> ?_
   obtain ⟨w,hw,e1,e2,e3⟩:=fA.1 hx
   have:w=y:=sJ (f:=fun x:List Vl×List Int=>zk0 x.1) h.1.1 hw hy (by rw [←e1,e])
   subst this
   rw [e2] at e3;exact e3 hc
  ·have hx:(⟨y.1,zh6 (oU l) y.2 64⟩:LRw)∈uY (oU l) T:=fA.2 ⟨y,hy,rfl,rfl,hc⟩
   have:=zfD (l:=l) hk hx
   dsimp only at this
   rw [this,zmI (h.2 y hy)]
 ·rw [zdX fun x hx e=>q ⟨x,hx,e⟩]
  refine mR fun x hx e=> ?_
  obtain ⟨w,hw,e1, -, -⟩:=fA.1 hx
  exact q ⟨w,hw,by rw [←e1,e]⟩
theorem CelX.keys {l:La} {ty:List Int} {z:List LRw} (h:CelX l ty z):(z.map fun x=>zk0 x.args).Nodup:=by
 have:=kR (bt:=oU l) (ziO l z)
 rwa [←h.2.2] at this
theorem zdO {l:La} {ty:List Int} {z:List LRw} (h:CelX l ty z) (t:List Vl):jU l (xU l z) t=eF l z t:=by
 have:=zh7 h.good t
 rw [←h.2.2] at this
 exact this.symm
theorem zfB {l:La} {T:Tbl} {args t:List Vl}:jU l (uZ (oU l) T args) t=jU l T t:=by
 unfold uZ
 split
 ·rfl
 ·have: ∀ T:Tbl,jU l (T++[(args,List.replicate 64 (oU l))]) t=jU l T t:=fun T=>by
   induction T with
   |nil=>
    rw [List.nil_append]
    unfold jU
    dsimp only
    split
    ·rfl
    ·rfl
   |cons x T ih=>
    rw [List.cons_append]
    unfold jU
    rw [ih]
  exact this T
theorem zhS {l:La} {args:List Vl} {f:List Int→List Int} {t:List Vl}: ∀ {T:Tbl},(∀ x∈T,zk0 x.1=zk0 args→x.1=args)→
  jU l (oT T (zk0 args) f) t=if t=args∧(∃ x∈T,x.1=args) then f (jU l T args) else jU l T t
 | [],_=>by
  rw [if_neg (fun q=>by obtain ⟨_,x,hx,_⟩:=q;cases hx)];rfl
 | y ::T,h=>by
  have ih:=zhS (l:=l) (f:=f) (t:=t) (T:=T) fun x hx=>h x (List.mem_cons_of_mem _ hx)
  have hc:oT (y::T) (zk0 args) f=(if zk0 y.1=zk0 args then (y.1,f y.2) else y)::oT T (zk0 args) f:=rfl
  by_cases hy:y.1=args
  ·have hq:(if zk0 y.1=zk0 args then (y.1,f y.2) else y)=(y.1,f y.2):=if_pos (by rw [hy])
   rw [hc,hq]
   unfold jU
   rw [if_pos hy]
   dsimp only
   by_cases ht:t=args
   ·rw [if_pos (hy.trans ht.symm),if_pos ⟨ht,y,List.mem_cons_self ..,hy⟩]
   ·have hyt: ¬y.1=t:=fun e=>ht (e.symm.trans hy)
    rw [if_neg hyt,if_neg (fun q=>ht q.1),if_neg hyt,ih,if_neg (fun q=>ht q.1)]
  ·have hq:(if zk0 y.1=zk0 args then (y.1,f y.2) else y)=y:=if_neg fun e=>hy (h y (List.mem_cons_self ..) e)
   rw [hc,hq]
   unfold jU
   rw [if_neg hy]
   by_cases hyt:y.1=t
   ·rw [if_pos hyt,if_pos hyt,if_neg (fun q=>hy (by rw [hyt,q.1]))]
   ·rw [if_neg hyt,if_neg hyt,ih]
    refine zoD ⟨fun q=> ?_,fun q=> ?_⟩
    ·obtain ⟨a,x,hx,e⟩:=q;exact ⟨a,x,List.mem_cons_of_mem _ hx,e⟩
    ·obtain ⟨a,x,hx,e⟩:=q
     rcases List.mem_cons.1 hx with rfl|hx
     ·exact absurd e hy
     ·exact ⟨a,x,hx,e⟩
noncomputable def aV (l:La) (z:List LRw) (args:List Vl) (a b e:Int):List LRw:=uY (oU l) (za9 l (xU l z) args a b e)
theorem yK {l:La} {ty:List Int} {z:List LRw} (h:CelX l ty z) {args:List Vl} (ha:ArgX ty args) (a b:Int) {e:Int} (he:ze9 l e):
  CelX l ty (aV l z args a b e)∧ ∀ t,eF l (aV l z args a b e) t=if t=args then yZ l a b e (eF l z args) else eF l z t:=by
 refine ⟨h.set ha a b he,fun t=> ?_⟩
 have hG:=h.good.set args a b he
 unfold aV
 rw [zh7 hG,zbJ]
 have hr: ∀ x∈xU l z,ArgX ty x.1:=fun x hx=>by
  rw [kT h.keys] at hx
  obtain ⟨w,hw,rfl⟩:=List.mem_map.1 hx
  exact h.2.1 w hw
 have hl: ∀ x∈uZ (oU l) (xU l z) args,ArgX ty x.1:=fun x hx=>by
  unfold uZ at hx
  split at hx
  ·exact hr x hx
  ·rcases List.mem_append.1 hx with hx|hx
   ·exact hr x hx
   ·rw [List.mem_singleton] at hx;subst hx;exact ha
 have hex: ∃ x∈uZ (oU l) (xU l z) args,x.1=args:=by
  unfold uZ
  split
  ·rename_i q
   unfold vR at q
   obtain ⟨x,hx,e⟩:=List.mem_map.1 q
   exact ⟨x,hx,(hr x hx).key ha e⟩
  ·exact ⟨_,List.mem_append_right _ (List.mem_singleton_self _),rfl⟩
 rw [zhS fun x hx e=>(hl x hx).key ha e,zfB,zfB,zdO h,zdO h]
 exact zoD ⟨fun q=>q.1,fun q=>⟨q,hex⟩⟩
end Go.AL
namespace Go.AL
def SpU (s s1 s2:Sp):Prop:= ∀ m:Nat,xT s m=(xT s1 m||xT s2 m)
theorem SpU.symm {s s1 s2:Sp} (h:SpU s s1 s2):SpU s s2 s1:=fun m=>by rw [h m,Bool.or_comm]
theorem zb7 {s:Sp} {m:Nat} (h:(zo2 s).testBit m=true):m<64:=by
 rw [zqY] at h
 unfold xT at h
 exact (of_decide_eq_true h).1
end Go.AL
namespace Go.AL
open Go.Proofs Go.Proofs.Tryz
@[go_sem] def ULaw2f7.pl:Nat→DPlan
 |6=>⟨[yA,yA,yB,yA,yA,yA,yA,yA,yB,yA,yA,yB,yA,yA,yA,yA,yA,yA,yC],sI,0⟩
 |_=>⟨[],[],0⟩
theorem hZ {p:Pg} {o:Op1} (h:zoM p o=0):uD p [o]=0:=by rw [yL,if_pos h];rfl
end Go.AL
namespace Go.AL
open Classical in
noncomputable def zgK (k:Nat) (o:Op1) (t:List Vl) (x:Nat):Nat:=
 if o.kind=1 then (if t.take k=o.args.take k then mY x (zo2 o.span) else x) ||| (if o.args=t then zo2 o.span else 0) else mY x (if o.args=t then zo2 o.span else 0)
theorem tD {q:Pd} {z:List Rw} {o:Op1} (hc:CanL z) (hs:o.span.good):CanL (zaL q z o)∧ ∀ t,yH (zaL q z o) t=zgK q.key.toNat o t (yH z t):=by
 unfold zaL zgK
 by_cases hk:o.kind=1
 ·rw [if_pos hk]
  obtain ⟨a,b, -⟩:=zdF (k:=q.key.toNat) (args:=o.args) hc hs
  exact ⟨a,fun t=>by rw [b t,if_pos hk]⟩
 ·rw [if_neg hk]
  obtain ⟨a,b, -⟩:=bK (args:=o.args) hc hs
  exact ⟨a,fun t=>by rw [b t,if_neg hk]⟩
theorem sU {k:Nat} {o:Op1} {t:List Vl} {x m:Nat} (hx:x<2 ^ 64):(zgK k o t x).testBit m=
  if xT o.span m=true then (if o.args=t then decide (o.kind=1) else if o.kind=1∧t.take k=o.args.take k then false else x.testBit m) else x.testBit m:=by
 have hl:=zoI o.span
 have hb:=zqY o.span m
 have hm:(zo2 o.span).testBit m=true→m<64:=zb7
 have hxm:x.testBit m=true→m<64:=fun h=>by
  apply Classical.byContradiction
  intro q
  rw [Nat.testBit_lt_two_pow (Nat.lt_of_lt_of_le hx (Nat.pow_le_pow_right (by omega) (by omega)))] at h
  cases h
 unfold zgK
 rw [←hb]
 cases h1:(zo2 o.span).testBit m with
 | false=>
  have hmin:(mY x (zo2 o.span)).testBit m=x.testBit m:=by
   rw [zn3 hl,h1]
   cases h2:x.testBit m with
   |false=>rfl
   |true=>simp [hxm h2]
  rw [if_neg Bool.false_ne_true]
  by_cases hk:o.kind=1
  ·have e1:(if o.args=t then zo2 o.span else 0).testBit m=false:=by
    split
    ·exact h1
    ·exact Nat.zero_testBit m
   rw [if_pos hk,Nat.testBit_or,e1,Bool.or_false]
   split
   ·exact hmin
   ·rfl
  ·rw [if_neg hk]
   by_cases he:o.args=t
   ·rw [if_pos he];exact hmin
   ·rw [if_neg he,zpH _ hx]
 | true=>
  have hmin:(mY x (zo2 o.span)).testBit m=false:=by rw [zn3 hl,h1];simp
  rw [if_pos rfl]
  by_cases hk:o.kind=1
  ·rw [if_pos hk,Nat.testBit_or]
   by_cases he:o.args=t
   ·rw [if_pos he,if_pos he,h1,Bool.or_true,decide_eq_true hk]
   ·rw [if_neg he,if_neg he,Nat.zero_testBit,Bool.or_false]
    by_cases hp:t.take k=o.args.take k
    ·rw [if_pos hp,if_pos ⟨hk,hp⟩,hmin]
    ·rw [if_neg hp,if_neg (fun q=>hp q.2)]
  ·rw [if_neg hk]
   by_cases he:o.args=t
   ·rw [if_pos he,if_pos he,hmin,decide_eq_false hk]
   ·rw [if_neg he,if_neg he,zpH _ hx,if_neg (fun q=>hk q.1)]
def Apt (k:Nat) (o o':Op1):Prop:=o.args.take k≠o'.args.take k∨ ∀ m,xT o.span m=true→xT o'.span m=false
end Go.AL
namespace Go.AL
end Go.AL
namespace Go.AL
open Go.Proofs Go.Proofs.Tryz
@[go_sem] def UFacf18.pl:Nat→DPlan
 |6=>⟨[yA,yA,yA,yB,yA,yA,yA,yB,yA],uW,0⟩
 |_=>⟨[],[],0⟩
structure Fa where
 pred:Int
 args:List Vl
 elem:Int
@[reducible] def Fa.c (f:Fa):List PV:=[i64 f.pred,pH f.args,i64 f.elem]
open UFacf18 in
theorem zlK (a b:List Vl) (ha:a.length≤140737488355328):EPure prog G0 18 [pH a,pH b] fun r=>r=bo (decide (a=b)):=by
 refine ECall.pure (pv func18 26 false (by kernel_rfl) rfl rfl ?_)
 refine g2 ?_
 by_cases hl:a.length=b.length
 ·have hne:((a.length:Int)!=(b.length:Int))=false:=by simp [hl]
  refine gf @hne ?_
  refine zO a.length (K4 (.d:: .v::K4 (.k::D9 (D4 (.d:: .d::[]))))) (own:=false) (fun i (_:Unit)=>[i64 i]) (fun _=>_) (fun i _=> ∀ (j:Nat) (h:j<a.length) (h':j<b.length),j<i→a[j]=b[j]) () rfl rfl (fun _ _ _ h=>absurd h (Nat.not_lt_zero _)) ha ?_ ?_
  ·rintro _ hI
   refine gm ?_
   have e:a=b:=List.ext_getElem hl fun j h h'=>hI j h h' h
   subst e
   have e:decide (a=a)=true:=by simp
   rw [e]
   refine gf @zM ?_
   exact ⟨⟨rfl,.sc⟩,rfl⟩
  ·rintro i _ hi hw hI
   refine gm ?_
   have hlb:i<b.length:=by omega
   have hg:=zG (f:=Vl.c) [] hi
   have hgb:=zG (f:=Vl.c) [] hlb
   by_cases he:a[i]=b[i]
   ·have hI': ∀ (j:Nat) (h:j<a.length) (h':j<b.length),j<i+1→a[j]=b[j]:=fun j h h' hj=>by
     rcases Nat.lt_or_ge j i with hji|hji
     ·exact hI j h h' hji
     ·have:j=i:=by omega
      subst this;exact he
    rw [←he] at hgb
    have f1: ∀ x:Int,(x==x)=true:=fun x=>by simp
    have f1s: ∀ s:BA,decide (s=s)=true:=fun s=>by simp
    generalize a[i]=x at*
    refine gf (a9 @hi @hlb @hw @hg @hgb @zB @eqV @f1 @f1s) ?_
    exact ⟨(),hI',rfl,rfl,rfl⟩
   ·have e:decide (a=b)=false:=by
     rw [decide_eq_false_iff_not];intro h;subst h;exact he rfl
    rw [e]
    have f2:(a[i].t==b[i].t&&(a[i].n==b[i].n&&decide (a[i].s=b[i].s)))=false:=by
     rcases Bool.eq_false_or_eq_true (a[i].t==b[i].t&&(a[i].n==b[i].n&&decide (a[i].s=b[i].s))) with h|h
     ·exfalso
      simp only [Bool.and_true,Bool.and_eq_true,beq_iff_eq,decide_eq_true_eq] at h
      apply he
      generalize a[i]=x at*
      generalize b[i]=y at*
      cases x;cases y;simp_all
     ·exact h
    generalize a[i]=x at*
    generalize b[i]=y at*
    refine gf (a8 @hi @hlb @hw @hg @hgb @zB @eqV @f2) ?_
    exact ⟨⟨rfl,.sc⟩,rfl⟩
 ·have hne:((a.length:Int)!=(b.length:Int))=true:=by simp;omega
  have e:decide (a=b)=false:=by
   rw [decide_eq_false_iff_not];intro h;subst h;exact hl rfl
  rw [e]
  refine gf @hne ?_
  exact ⟨⟨rfl,.sc⟩,rfl⟩
theorem zbX (a b:Fa) (ha:a.args.length≤140737488355328):EPure prog G0 17 [.agg a.c,.agg b.c] fun r=>r=bo (decide (a.pred=b.pred∧a.args=b.args∧a.elem=b.elem)):=by
 refine ECall.cut (R:=fun r _=>r=bo (decide (a.pred=b.pred∧a.args=b.args∧a.elem=b.elem))) (pv func17 24 false (by kernel_rfl) rfl rfl ?_) (by rintro p h rfl;rfl)
 refine g2 ?_
 by_cases h1:a.pred=b.pred
 ·have e1:(a.pred==b.pred)=true:=by simp [h1]
  refine gf @e1 ?_
  (refine g1f @e1 ?_;refine zC ((zlK a.args b.args ha).call zK (by simp) _) ?_;intro p2 h2 hr2;refine g2 ?_)
  obtain ⟨rfl,rfl⟩:=hr2
  by_cases h2:a.args=b.args
  ·have e2:decide (a.args=b.args)=true:=by simp [h2]
   rw [e2]
   have e3:decide (a.pred=b.pred∧a.args=b.args∧a.elem=b.elem)=(a.elem==b.elem):=by
    rw [Bool.eq_iff_iff];simp [h1,h2]
   rw [e3]
   refine gf @e1 ?_
   rfl
  ·have e2:decide (a.args=b.args)=false:=by simp [h2]
   have e3:decide (a.pred=b.pred∧a.args=b.args∧a.elem=b.elem)=false:=by simp [h2]
   rw [e2,e3]
   refine gf @e1 ?_
   rfl
 ·have e1:(a.pred==b.pred)=false:=by simp [h1]
  have e3:decide (a.pred=b.pred∧a.args=b.args∧a.elem=b.elem)=false:=by simp [h1]
  rw [e3]
  refine gf @e1 ?_
  rfl
def fL (l:List Sp) (m:Int):Bool:=decide (0≤m)&&(decide (m<64)&&(uQ l).testBit m.toNat)
theorem has_x (l:List Sp) (hl:l.length≤140737488355328) (m:Int):EPure prog G0 46 [kJ l,i64 m] fun p=>p=bo (fL l m):=by
 refine ECall.cut (R:=fun r _=>r=bo (fL l m)) (pv func46 19 false (by kernel_rfl) rfl rfl ?_) (by rintro p h rfl;rfl)
 refine g2 ?_
 by_cases h1:0≤m
 case neg=>
  have e1:decide (0≤m)=false:=by simp;omega
  have e2:fL l m=false:=by unfold fL;rw [e1];rfl
  rw [e2]
  refine gf @e1 ?_
  rfl
 have e1:decide (0≤m)=true:=by simp [h1]
 by_cases h2:m<64
 case neg=>
  have e3:decide (m<64)=false:=by simp;omega
  have e2:fL l m=false:=by unfold fL;rw [e1,e3];rfl
  rw [e2]
  refine gf (a2 @e1 @e3) ?_
  rfl
 have e3:decide (m<64)=true:=by simp [h2]
 obtain ⟨k,rfl⟩:=Int.eq_ofNat_of_zero_le h1
 have hk:k<64:=by omega
 have e2:fL l (k:Int)=(uQ l).testBit k:=by unfold fL;rw [e1,e3];rfl
 have hlt:=wB l
 rw [e2]
 have sh: ∀ w:Nat,(w:Int) / 2 ^ min k 64=((w / 2 ^ k:Nat):Int):=fun w=>by
  rw [Nat.min_eq_left (by omega)];norm_cast
 refine gf (a2 @e1 @e3) ?_
 (refine g1f (a2 @e1 @e3) ?_;refine zC ((zo5 l hl).call zK (by simp) _) ?_;intro p2 h2 hr2;refine g2 ?_)
 obtain ⟨rfl,rfl⟩:=hr2
 generalize uQ l=w at*
 have hsh:=sh w
 refine gf (a2 @hsh @zB) ?_
 have hb:bits .and .u64 ((w / 2 ^ k:Nat):Int) 1=((w / 2 ^ k &&& 1:Nat):Int):=u64_and_nat (w / 2 ^ k) 1 (by have:=Nat.div_le_self w (2 ^ k);omega) (by decide)
 rw [hb]
 have hbit:w.testBit k=((w / 2 ^ k &&& 1)==1):=by
  rw [Nat.testBit_eq_decide_div_mod_eq,Nat.and_one_is_mod]
  rfl
 rw [hbit]
 have:(((w / 2 ^ k &&& 1:Nat):Int)==1)=((w / 2 ^ k &&& 1)==1):=by
  rw [Bool.eq_iff_iff,beq_iff_eq,beq_iff_eq];omega
 rw [this]
end Go.AL
namespace Go.AL
open Go.Proofs Go.Proofs.Tryz
@[go_sem] def UKeyOff14.pl:Nat→DPlan
 |1=>⟨[yA,yB,yA,yA,yA,yB,yA,yB,yA,yA,yA,yA,yA,yB,yA,yB,yA,yA,yB,yA,yA,yA,yA,yB,yA,yB,yA,yA,yB,yA,yB,yA,yA,yA],zrK,0⟩
 |3=>⟨[yA,yB,yA,yB,yA,yB,yA,yA,yB,yA,yA,yA],xF,0⟩
 |_=>⟨[],[],0⟩
abbrev zcI (p:Pg) (n:Int):Int:=(p.preds.getD n.toNat zuW).key
def ziY (p:Pg) (n:Int) (args:List Vl):List Vl×Bool:=if 0≤n∧n<p.preds.length∧0≤zcI p n∧zcI p n≤args.length then (args.take (zcI p n).toNat,true) else ([],false)
theorem tbKo (l:List Vl) (b:Bool):zU 40 (.tup [pH l,bo b])=true:=by
 have h1:zU 39 (pH l)=true:=all_map fun _=>rfl
 show ([pH l,bo b].all (zU 39))=true
 rw [List.all_cons,h1];rfl
open UKeyOff14 in
theorem znA (p:Pg) (f:Fa):EPure prog G0 14 [.agg p.c,.agg f.c] fun v=>v= .tup [pH (ziY p f.pred f.args).1,bo (ziY p f.pred f.args).2]:=by
 refine ECall.cutW (R:=fun v _=>(v= .tup [.nil,bo false]∧ziY p f.pred f.args=([],false))∨v= .tup [pH (ziY p f.pred f.args).1,bo (ziY p f.pred f.args).2]) (pv func14 50 false (by kernel_rfl) rfl rfl ?_) ?_
 refine g2 ?_
 ·obtain ⟨n,args,elem⟩:=f
  dsimp only
  have no: ¬(0≤n∧n<p.preds.length∧0≤zcI p n∧zcI p n≤args.length)→ziY p n args=([],false):=fun h=>by unfold ziY;rw [if_neg h]
  have yes:(0≤n∧n<p.preds.length∧0≤zcI p n∧zcI p n≤args.length)→ziY p n args=(args.take (zcI p n).toNat,true):=fun h=>by unfold ziY;rw [if_pos h]
  by_cases h1:n<0
  ·have e1:decide (n<0)=true:=by simp [h1]
   rw [no fun k=>by omega]
   refine gf @e1 ?_
   exact .inl ⟨rfl,rfl⟩
  have e1:decide (n<0)=false:=by simp [h1]
  obtain ⟨i,rfl⟩:=Int.eq_ofNat_of_zero_le (Int.not_lt.1 h1)
  by_cases h2:i<p.preds.length
  case neg=>
   have e2:decide ((p.preds.length:Int)≤(i:Int))=true:=by simp;omega
   have e2':(p.preds.length≤i)=True:=eq_true (by omega)
   rw [no fun k=>by omega]
   refine gf (a4 @e1 @e2 @e2' @zB) ?_
   exact .inl ⟨rfl,rfl⟩
  have e2:(p.preds.length≤i)=False:=eq_false (by omega)
  have hx:=zG (f:=Pd.c) [] h2
  have hk:zcI p i=p.preds[i].key:=by unfold zcI;rw [Int.toNat_natCast,eD h2]
  rw [hk] at no yes
  generalize p.preds[i]=x at*
  obtain ⟨xn,xt,xl,xo,xb,xk,xa⟩:=x
  dsimp only at*
  by_cases h3:0≤xk
  case neg=>
   have e3:decide (xk<0)=true:=by simp;omega
   rw [no fun k=>h3 k.2.2.1]
   refine gf (a6 @e1 @e2 @h2 @hx @zB @e3) ?_
   exact .inl ⟨rfl,rfl⟩
  have e3:decide (xk<0)=false:=by simp;omega
  by_cases h4:xk≤args.length
  case neg=>
   have e4:decide ((args.length:Int)<xk)=true:=by simp;omega
   rw [no fun k=>h4 k.2.2.2]
   refine gf (a7 @e1 @e2 @h2 @hx @zB @e3 @e4) ?_
   exact .inl ⟨rfl,rfl⟩
  have e4:decide ((args.length:Int)<xk)=false:=by simp;omega
  rw [yes ⟨by omega,by omega,h3,h4⟩]
  obtain ⟨k,hke⟩:=Int.eq_ofNat_of_zero_le h3
  subst hke
  have h4':k≤args.length:=by omega
  have h4'':(args.length<k)=False:=eq_false (by omega)
  clear e4
  rw [Int.toNat_natCast]
  have ht:pH (args.take k)= .ts 3 ((args.map Vl.c).take k):=by unfold pH;rw [List.map_take]
  rw [ht]
  refine gf (a9 @e1 @e2 @h2 @hx @zB @e3 @h4' @h4'' @zB) ?_
  exact .inr rfl
 ·rintro v h (⟨rfl,hE⟩|rfl)
  ·rw [hE]
   exact ⟨.tup [.ts 3 [],bo false],by rw [vE 0 h 40 _ rfl];exact PLes.tup (.cons (PLe.nil_ts 3) (.cons (PLe.refl _) .nil)),rfl,yP 40 _ rfl⟩
  ·exact ⟨_,by rw [vE 0 h 40 _ (tbKo _ _)];exact PLe.refl _,rfl,yP 40 _ (tbKo _ _)⟩
end Go.AL
namespace Go.AL
open Go.Proofs Go.Proofs.Tryz
theorem zaM {p:Pg} {o:Op1} {i:Nat} (h:OpX p o i):ziY p o.pred o.args=(o.args.take (p.preds[i]'h.hi).key.toNat,true):=by
 have hi:=h.hi
 have e:zcI p o.pred=p.preds[i].key:=by
  have:o.pred.toNat=i:=by have:=h.hoi;omega
  unfold zcI;rw [this,eD hi]
 unfold ziY
 rw [e,if_pos ⟨by have:=h.hoi;omega,by have:=h.hoi;omega,h.k0,by rw [h.ax.1];exact h.k1⟩]
theorem znV (p:Pg) (hp:p.ok) (hle:p.sm) {o:Op1} (ho:o.ok) (h:zoM p o=0): ∃ i,OpX p o i:=((zoK p hp hle o ho).2 h).op
end Go.AL
namespace Go.AL
open Go.Proofs Go.Proofs.Tryz
noncomputable def zhD (bt:Int):Tbl→BA→List Int
 | [],_=>List.replicate 64 bt
 |x::T,k=>open Classical in if zk0 x.1=k then x.2 else zhD bt T k
theorem zm8 {bt:Int} {k:BA}: ∀ {T:Tbl},k∉vR T→zhD bt T k=List.replicate 64 bt
 | [],_=>rfl
 |x::T,h=>by
  unfold vR at h
  rw [List.map_cons,List.mem_cons,not_or] at h
  unfold zhD
  rw [if_neg fun e=>h.1 e.symm]
  exact zm8 h.2
theorem ztC {bt:Int}: ∀ {T:Tbl},(vR T).Nodup→ ∀ {x:List Vl×List Int},x∈T→zhD bt T (zk0 x.1)=x.2
 | y::T,hn,x,hx=>by
  unfold vR at hn
  rw [List.map_cons,List.nodup_cons] at hn
  unfold zhD
  rcases List.mem_cons.1 hx with rfl|hx
  ·rw [if_pos rfl]
  ·rw [if_neg fun e=>hn.1 (by rw [e];exact List.mem_map_of_mem (f:=fun x:List Vl×List Int=>zk0 x.1) hx)]
   exact ztC hn.2 hx
theorem ztK {bt:Int} {T:Tbl} (h:TabW T) {args:List Vl} {x:List Vl×List Int} (hx:x∈uZ bt T args) (hk:zk0 x.1=zk0 args):x.2=zhD bt T (zk0 args):=by
 unfold uZ at hx
 split at hx
 ·rw [←hk,ztC h.1 hx]
 ·rename_i hn
  rw [zm8 hn]
  rcases List.mem_append.1 hx with hx|hx
  ·exact absurd (by rw [←hk];exact List.mem_map_of_mem (f:=fun x:List Vl×List Int=>zk0 x.1) hx) hn
  ·rw [List.mem_singleton] at hx;subst hx;rfl
noncomputable def cL (l:La) (z:List LRw) (args:List Vl) (m:Int):Int:=if 0≤m∧m<64 then (zhD (oU l) (xU l z) (zk0 args)).getD m.toNat 0 else -1
theorem zuT (l:La) (hl:l.ok) (hc:uE l=0) (rs:List LRw) (hrs:rs.length≤1099511627776) (hr: ∀ x∈rs,x.ok) (args:List Vl) (ha:args.length≤1048576) (hs: ∀ a∈args,a.s.size≤1048576) (m:Int):
  EPure prog G0 43 [.agg l.c,vD rs,pH args,i64 m] fun p=>p=i64 (cL l rs args m):=by
 refine ECall.cut (R:=fun p _=>p=i64 (cL l rs args m)) (pv func43 30 false (by kernel_rfl) rfl rfl ?_) (by rintro p h rfl;rfl)
 refine g2 ?_
 by_cases h1:0≤m
 case neg=>
  have e1:decide (m<0)=true:=by simp;omega
  have e2:cL l rs args m= -1:=by unfold cL;rw [if_neg (by omega)]
  rw [e2]
  refine gf @e1 ?_
  rfl
 have e1:decide (m<0)=false:=by simp;omega
 by_cases h2:m<64
 case neg=>
  have e3:decide (64≤m)=true:=by simp;omega
  have e2:cL l rs args m= -1:=by unfold cL;rw [if_neg (by omega)]
  rw [e2]
  refine gf (a2 @e1 @e3) ?_
  rfl
 have e3:decide (64≤m)=false:=by simp;omega
 obtain ⟨k,rfl⟩:=Int.eq_ofNat_of_zero_le h1
 have hk:k<64:=by omega
 have e2:cL l rs args (k:Int)=(zhD (oU l) (xU l rs) (zk0 args)).getD k 0:=by unfold cL;rw [if_pos ⟨h1,h2⟩,Int.toNat_natCast]
 rw [e2]
 refine gf (a2 @e1 @e3) ?_
 (refine g1f (a2 @e1 @e3) ?_;refine zC ((zn7 l hl).call zK (by simp [zJ]) _) ?_;intro p2 h2 hr2;refine g2 ?_)
 obtain ⟨rfl,rfl⟩:=hr2
 rw [beq_iff_eq.2 hc]
 refine ge ?_
 (refine g1 ?_;refine zC (zqF l hl rs hrs hr _) ?_;intro p2 h2 hr2;refine g2 ?_)
 obtain ⟨tb,m1,m2,es,M,rfl,hX,hK,hn,hTab⟩:=hr2
 refine ge ?_
 (refine g1 ?_;refine zC (zqJ l hl tb m1 m2 es M _ hX (by omega) args ha hs) ?_;intro p2 h2 hr2;refine g2 ?_)
 obtain ⟨r,es',M2,rfl,hX',hL,hK',hn',hTab'⟩:=hr2
 obtain ⟨e0,he0,hr00,hk0⟩:=hL
 obtain ⟨hms0,hr0⟩:=hX'.m e0 he0
 have hok:=(hX'.tb.k e0 he0).2.2
 rw [hr00] at hms0 hr0
 have hline:M2 r=zhD (oU l) (xU l rs) (zk0 args):=by
  rw [hTab] at hTab'
  have hm:(e0.a,M2 e0.r)∈uZ (oU l) (xU l rs) args:=by
   rw [←hTab'];exact List.mem_map_of_mem (f:=fun e:En=>(e.a,M2 e.r)) he0
  rw [←hr00]
  exact ztK (ziO l rs) hm (by dsimp only;rw [←hok,hk0])
 rw [←hline]
 generalize M2 r=ms at*
 have hkm:k<ms.length:=by omega
 have hk6:((k:Int)<64)=True:=by simp;omega
 have hd:=yU i64 ms k .un hkm
 have hg:ms.getD k 0=ms[k]:=by rw [List.getD_eq_getElem?_getD,List.getElem?_eq_getElem hkm];rfl
 rw [hg]
 refine gf (a5 @hr0 @hd @hk6 @hms0 @zB) ?_
 rfl
end Go.AL
