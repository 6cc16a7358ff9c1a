/-
  Base data: the law BaseRepeats walked.
-/
import Derived.Test.YtcffidhiaihbkaaGreatDoorZ45
set_option linter.unusedSimpArgs false
set_option linter.unusedVariables false
set_option maxRecDepth 100000
set_option maxHeartbeats 4000000
namespace Go.AL
open Go.Proofs Go.Proofs.Tryz
theorem PLes.app {a b c d:List PV} (h:PLes a b) (k:PLes c d):PLes (a++c) (b++d):=by
 induction h with
 |nil=>exact k
 |cons h _ ih=>exact .cons h ih
def Dec {α:Type} (n:Nat) (t:TypeId) (c:α→List PV) (K:α→Prop):Prop:= ∀ (m:Nat) (x:List PV),Shp prog (m+n) t x→ ∃ a,K a∧PLes x (c a)
def DecS {α:Type} (n:Nat) (ts:List TypeId) (c:α→List PV) (K:α→Prop):Prop:= ∀ (m:Nat) (ps:List (List PV)),ps.length=ts.length→(∀ (i:Nat) (t:TypeId) (p:List PV),ts[i]? =some t→ps[i]? =some p→Shp prog (m+n) t p)→ ∃ a,K a∧PLes ps.flatten (c a)
def zcS (P:Program) (t:TypeId):Option (List TypeId):=match P.underlying t with
 |some (.struct fs)=>some (fs.toList.map (·.type))
 |_=>none
def slOf (P:Program) (t:TypeId):Option (TypeId×Nat×Bool):=match P.underlying t with
 |some (.slice e)=>some (e,P.cellsOf e,decide (1≤P.bytesOf e))
 |_=>none
theorem Dec.up {α:Type} {n k:Nat} {t:TypeId} {c:α→List PV} {K:α→Prop} (D:Dec n t c K) (h:n≤k):Dec k t c K:=fun m x hx=>D (m+(k-n)) x (by rw [show m+(k-n)+n=m+k by omega];exact hx)
theorem Dec.map {α β:Type} {n:Nat} {t:TypeId} {c:α→List PV} {K:α→Prop} {d:β→List PV} {L:β→Prop} (D:Dec n t c K) (f:α→β) (hc: ∀ a,c a=d (f a)) (hK: ∀ a,K a→L (f a)):Dec n t d L:=fun m x hx=>by
 obtain ⟨a,h,k⟩:=D m x hx
 exact ⟨f a,hK a h,by rw [←hc];exact k⟩
theorem zj1 {t:TypeId} {k:IntKind} (h:prog.underlying t=some (.int k)):Dec 0 t (fun z:Int=>[.sc (.int k z)]) fun z=>k.min≤z∧z≤k.max:=fun m x hx=>by
 unfold Shp at hx
 rw [h] at hx
 have hx: ∃ z,x=[.sc (.int k z)]∧k.min≤z∧z≤k.max:=by cases m<;>exact hx
 obtain ⟨z,rfl,hz⟩:=hx
 exact ⟨z,hz,PLes.refl _⟩
theorem zgB {t:TypeId} (h:prog.underlying t=some .bool):Dec 0 t (fun z:Bool=>[bo z]) fun _=>True:=fun m x hx=>by
 unfold Shp at hx
 rw [h] at hx
 have hx: ∃ b,x=[.sc (.bool b)]:=by cases m<;>exact hx
 obtain ⟨z,rfl⟩:=hx
 exact ⟨z,trivial,PLes.refl _⟩
theorem aT {t:TypeId} (h:prog.underlying t=some .string):Dec 0 t (fun z:BA=>[yQ z]) fun z=>z.size≤140737488355328:=fun m x hx=>by
 unfold Shp at hx
 rw [h] at hx
 have hx: ∃ s:BA,x=[.sc (.string s)]∧s.size≤maxLen∧s.size≤reachBytes:=by cases m<;>exact hx
 obtain ⟨z,rfl,_,hz⟩:=hx
 have:reachBytes=140737488351232:=by decide
 exact ⟨z,by omega,PLes.refl _⟩
theorem zj2 {α:Type} {n k:Nat} {e:TypeId} {c:α→List PV} {K:α→Prop} (D:Dec n e c K) (m:Nat): ∀ els:List (List PV),(∀ x∈els,Shp prog (m+n) e x)→ ∃ l:List α,l.length=els.length∧(∀ a∈l,K a)∧PLe (.ts k els) (.ts k (l.map c)):=fun els h=>by
 have key: ∃ l:List α,l.length=els.length∧(∀ a∈l,K a)∧ ∀ (i:Nat) (x y:List PV),els[i]? =some x→(l.map c)[i]? =some y→PLes x y:=by
  induction els with
  |nil=>exact ⟨[],rfl,by simp,fun i x y hx=>by simp at hx⟩
  | cons x els ih=>
   obtain ⟨a,ha,k⟩:=D m x (h x (List.mem_cons_self ..))
   obtain ⟨l,h1,h2,h3⟩:=ih fun y hy=>h y (List.mem_cons_of_mem _ hy)
   refine ⟨a::l,by simp [h1],fun b hb=> ?_,fun i y z hy hz=> ?_⟩
   ·rcases List.mem_cons.1 hb with rfl|hb
    ·exact ha
    ·exact h2 b hb
   ·cases i with
    |zero=>simp at hy hz;subst hy;subst hz;exact k
    |succ i=>exact h3 i y z (by simpa using hy) (by simpa using hz)
 obtain ⟨l,h1,h2,h3⟩:=key
 exact ⟨l,h1,h2,PLe.ts (by simp [h1]) fun i x y hx hy=>⟨(h3 i x y hx hy).len,(h3 i x y hx hy).get⟩⟩
theorem Dec.slice {α:Type} {n k:Nat} {t e:TypeId} {c:α→List PV} {K:α→Prop} (D:Dec n e c K) (h:slOf prog t=some (e,k,true)):Dec (n+1) t (fun l:List α=>[.ts k (l.map c)]) fun l=>l.length≤140737488355328∧ ∀ a∈l,K a:=fun m x hx=>by
 unfold slOf at h
 split at h
 case h_2=>cases h
 rename_i e' hu
 simp only [Option.some.injEq,Prod.mk.injEq,decide_eq_true_eq] at h
 obtain ⟨h1,h2,hb⟩:=h
 subst h1;subst h2
 rw [show m+(n+1)=(m+n)+1 by omega] at hx
 unfold Shp at hx
 rw [hu] at hx
 have hx:x=[.nil]∨ ∃ els,x=[.ts (prog.cellsOf e') els]∧els.length*prog.bytesOf e'≤reachBytes∧ ∀ x∈els,Shp prog (m+n) e' x:=hx
 rcases hx with rfl|⟨els,rfl,hl,hels⟩
 ·exact ⟨[],⟨Nat.zero_le _,by simp⟩,.cons (PLe.nil_ts _) .nil⟩
 ·obtain ⟨l,h1,h2,h3⟩:=zj2 (k:=prog.cellsOf e') D m els hels
  have:reachBytes=140737488351232:=by decide
  have:=Nat.le_mul_of_pos_right els.length hb
  exact ⟨l,⟨by omega,h2⟩,.cons h3 .nil⟩
theorem DecS.nil {n:Nat}:DecS n [] (fun _:Unit=>[]) fun _=>True:=fun m ps h _=>⟨(),trivial,by rw [List.eq_nil_of_length_eq_zero h];exact .nil⟩
theorem DecS.cons {α β:Type} {n:Nat} {t:TypeId} {ts:List TypeId} {c:α→List PV} {K:α→Prop} {d:β→List PV} {L:β→Prop} (D:Dec n t c K) (E:DecS n ts d L):DecS n (t::ts) (fun a:α×β=>c a.1++d a.2) fun a=>K a.1∧L a.2:=fun m ps h k=>by
 match ps,h with
 |p::ps,h=>
  obtain ⟨a,h1,h2⟩:=D m p (k 0 t p rfl rfl)
  obtain ⟨b,h3,h4⟩:=E m ps (by simpa using h) fun i t p ht hp=>k (i+1) t p (by simpa using ht) (by simpa using hp)
  exact ⟨(a,b),⟨h1,h3⟩,h2.app h4⟩
theorem Dec.struct {α:Type} {n:Nat} {t:TypeId} {ts:List TypeId} {c:α→List PV} {K:α→Prop} (h:zcS prog t=some ts) (E:DecS n ts c K):Dec (n+1) t c K:=fun m x hx=>by
 unfold zcS at h
 split at h
 case h_2=>cases h
 rename_i fs hu
 cases h
 rw [show m+(n+1)=(m+n)+1 by omega] at hx
 unfold Shp at hx
 rw [hu] at hx
 have hx: ∃ parts:List (List PV),parts.length=fs.size∧x=parts.flatten∧ ∀ (i:Nat) (f:Field) (p:List PV),fs[i]? =some f→parts[i]? =some p→Shp prog (m+n) f.type p:=hx
 obtain ⟨ps,hl,rfl,hp⟩:=hx
 refine E m ps (by simpa using hl) fun i t p ht hp'=> ?_
 rw [List.getElem?_map] at ht
 cases hf:fs.toList[i]? with
 |none=>rw [hf] at ht;cases ht
 |some f=>
  rw [hf] at ht;cases ht
  exact hp i f p (by rw [←Array.getElem?_toList];exact hf) hp'
theorem dI:Dec 0 3 (fun z:Int=>[i64 z]) fun _=>True:=(zj1 (by kernel_rfl)).map id (fun _=>rfl) fun _ _=>trivial
theorem dB:Dec 0 4 (fun z:Bool=>[bo z]) fun _=>True:=zgB (by kernel_rfl)
theorem dS:Dec 0 9 (fun z:BA=>[yQ z]) fun z=>z.size≤140737488355328:=aT (by kernel_rfl)
theorem dSs:Dec 1 70 (fun l:List BA=>[rR l]) fun l=>l.length≤140737488355328∧ ∀ s∈l,s.size≤140737488355328:=dS.slice (by kernel_rfl)
theorem dIs:Dec 1 57 (fun l:List Int=>[vF l]) fun l=>l.length≤140737488355328∧ ∀ s∈l,True:=dI.slice (by kernel_rfl)
end Go.AL
namespace Go.AL
open Go.Proofs Go.Proofs.Tryz
theorem dVl:Dec 1 79 Vl.c Vl.ok:=(Dec.struct (ts:=[3,3,9]) (by kernel_rfl) (.cons dI (.cons dI (.cons dS .nil)))).map (fun a=>⟨a.1,a.2.1,a.2.2.1⟩) (fun _=>rfl) fun _ h=>h.2.2.1
theorem zs9:Dec 2 32 (fun l:List Vl=>[pH l]) fun l=>l.length≤140737488355328∧ ∀ s∈l,s.ok:=dVl.slice (by kernel_rfl)
theorem dSp:Dec 1 36 Sp.c fun _=>True:=(Dec.struct (ts:=[3,3]) (by kernel_rfl) (.cons dI (.cons dI .nil))).map (fun a=>⟨a.1,a.2.1⟩) (fun _=>rfl) fun _ _=>trivial
theorem dTm:Dec 2 207 Tm.c Tm.ok:=(Dec.struct (ts:=[9,79]) (by kernel_rfl) (.cons (dS.up (by decide)) (.cons dVl .nil))).map (fun a=>⟨a.1,a.2.1⟩) (fun _=>rfl) fun _ h=>⟨h.1,h.2.1⟩
theorem dTms:Dec 3 112 (fun l:List Tm=>[mI l]) fun l=>l.length≤140737488355328∧ ∀ s∈l,s.ok:=dTm.slice (by kernel_rfl)
theorem zeQ (n:Nat):Dec n 3 (fun z:Int=>[i64 z]) fun _=>True:=dI.up (Nat.zero_le n)
theorem zm4 (n:Nat):Dec n 9 (fun z:BA=>[yQ z]) fun z=>z.size≤140737488355328:=dS.up (Nat.zero_le n)
theorem dLi:Dec 4 120 Li.c Li.ok:=(Dec.struct (ts:=[3,9,3,112,9,9,3,3,3]) (by kernel_rfl) (.cons (zeQ 3) (.cons (zm4 3) (.cons (zeQ 3) (.cons dTms (.cons (zm4 3) (.cons (zm4 3) (.cons (zeQ 3) (.cons (zeQ 3) (.cons (zeQ 3) .nil)))))))))).map
 (fun a=>⟨a.1,a.2.1,a.2.2.1,a.2.2.2.1,a.2.2.2.2.1,a.2.2.2.2.2.1,a.2.2.2.2.2.2.1,a.2.2.2.2.2.2.2.1,a.2.2.2.2.2.2.2.2.1⟩) (fun _=>rfl) fun _ h=>⟨h.2.1,h.2.2.2.2.1,h.2.2.2.2.2.1,h.2.2.2.1.1,h.2.2.2.1.2⟩
theorem dLis:Dec 5 115 (fun l:List Li=>[.ts 9 (l.map Li.c)]) fun l=>l.length≤140737488355328∧ ∀ s∈l,s.ok:=dLi.slice (by kernel_rfl)
theorem dEl:Dec 1 114 El.c fun e=>e.name.size≤140737488355328∧e.var.size≤140737488355328:=(Dec.struct (ts:=[3,9,9,3]) (by kernel_rfl) (.cons dI (.cons dS (.cons dS (.cons dI .nil))))).map (fun a=>⟨a.1,a.2.1,a.2.2.1,a.2.2.2.1⟩) (fun _=>rfl) fun _ h=>⟨h.2.1,h.2.2.1⟩
theorem dRu:Dec 6 117 Ru.c Ru.ok:=(Dec.struct (ts:=[9,3,112,114,115,3]) (by kernel_rfl) (.cons (zm4 5) (.cons (zeQ 5) (.cons (dTms.up (by decide)) (.cons (dEl.up (by decide)) (.cons dLis (.cons (zeQ 5) .nil))))))).map
 (fun a=>⟨a.1,a.2.1,a.2.2.1,a.2.2.2.1,a.2.2.2.2.1,a.2.2.2.2.2.1⟩) (fun _=>rfl) fun _ h=>⟨h.1,h.2.2.2.1.1,h.2.2.2.1.2,h.2.2.1.1,h.2.2.1.2,h.2.2.2.2.1.1,h.2.2.2.2.1.2⟩
theorem dRus:Dec 7 25 (fun l:List Ru=>[.ts 9 (l.map Ru.c)]) fun l=>l.length≤140737488355328∧ ∀ s∈l,s.ok:=dRu.slice (by kernel_rfl)
theorem ziI:prog.underlying 200=some (.array 2 3):=by kernel_rfl
theorem dPr:Dec 1 200 (fun c:Int×Int=>[i64 c.1,i64 c.2]) fun _=>True:=fun m x hx=>by
 unfold Shp at hx
 rw [ziI] at hx
 have hx: ∃ parts:List (List PV),parts.length=2∧x=parts.flatten∧ ∀ p∈parts,Shp prog m 3 p:=hx
 obtain ⟨ps,hl,rfl,hp⟩:=hx
 match ps,hl,hp with
 | [a,b],_,hp=>
  obtain ⟨u,_,h1⟩:=dI m a (hp a (by simp))
  obtain ⟨v,_,h2⟩:=dI m b (hp b (by simp))
  exact ⟨(u,v),trivial,h1.app (h2.app .nil)⟩
theorem dPrs:Dec 2 71 (fun l:List (Int×Int)=>[.ts 2 (l.map fun c=>[i64 c.1,i64 c.2])]) fun l=>l.length≤140737488355328∧ ∀ s∈l,True:=dPr.slice (by kernel_rfl)
theorem dLa:Dec 3 73 La.c La.ok:=(Dec.struct (ts:=[9,70,71,3]) (by kernel_rfl) (.cons (zm4 2) (.cons (dSs.up (by decide)) (.cons dPrs (.cons (zeQ 2) .nil))))).map (fun a=>⟨a.1,a.2.1,a.2.2.1,a.2.2.2.1⟩) (fun _=>rfl) fun _ h=>⟨h.1,h.2.1.1,h.2.1.2,h.2.2.1.1⟩
theorem dLas:Dec 4 22 (fun l:List La=>[.ts 4 (l.map La.c)]) fun l=>l.length≤140737488355328∧ ∀ s∈l,s.ok:=dLa.slice (by kernel_rfl)
theorem dFu:Dec 2 109 Fu.c Fu.ok:=(Dec.struct (ts:=[9,9,3,70,70,57,3]) (by kernel_rfl) (.cons (zm4 1) (.cons (zm4 1) (.cons (zeQ 1) (.cons dSs (.cons dSs (.cons dIs (.cons (zeQ 1) .nil)))))))).map
 (fun a=>⟨a.1,a.2.1,a.2.2.1,a.2.2.2.1,a.2.2.2.2.1,a.2.2.2.2.2.1,a.2.2.2.2.2.2.1⟩) (fun _=>rfl) fun _ h=>⟨h.1,h.2.1,h.2.2.2.1.1,h.2.2.2.1.2,h.2.2.2.2.1.1,h.2.2.2.2.1.2,h.2.2.2.2.2.1.1⟩
theorem dFus:Dec 3 23 (fun l:List Fu=>[.ts 7 (l.map Fu.c)]) fun l=>l.length≤140737488355328∧ ∀ s∈l,s.ok:=dFu.slice (by kernel_rfl)
theorem dPd:Dec 2 59 Pd.c Pd.ok:=(Dec.struct (ts:=[9,57,9,3,4,3,3]) (by kernel_rfl) (.cons (zm4 1) (.cons dIs (.cons (zm4 1) (.cons (zeQ 1) (.cons (dB.up (by decide)) (.cons (zeQ 1) (.cons (zeQ 1) .nil)))))))).map
 (fun a=>⟨a.1,a.2.1,a.2.2.1,a.2.2.2.1,a.2.2.2.2.1,a.2.2.2.2.2.1,a.2.2.2.2.2.2.1⟩) (fun _=>rfl) fun _ h=>⟨h.1,h.2.2.1,h.2.1.1⟩
theorem dPds:Dec 3 24 (fun l:List Pd=>[.ts 7 (l.map Pd.c)]) fun l=>l.length≤140737488355328∧ ∀ s∈l,s.ok:=dPd.slice (by kernel_rfl)
theorem dPg:Dec 8 27 Pg.c Pg.ok:=(Dec.struct (ts:=[22,23,24,25]) (by kernel_rfl) (.cons (dLas.up (by decide)) (.cons (dFus.up (by decide)) (.cons (dPds.up (by decide)) (.cons dRus .nil))))).map
 (fun a=>⟨a.1,a.2.1,a.2.2.1,a.2.2.2.1⟩) (fun _=>rfl) fun _ h=>⟨h.1.1,h.1.2,h.2.1.1,h.2.1.2,h.2.2.1.1,h.2.2.1.2,h.2.2.2.1.1,h.2.2.2.1.2⟩
end Go.AL
namespace Go.AL
open Go.Proofs Go.Proofs.Tryz
def Op1.raw (x:Op1):Prop:=x.args.length≤140737488355328∧ ∀ a∈x.args,a.ok
def iP (l:List Op1):Prop:=l.length≤140737488355328∧ ∀ x∈l,x.raw
structure Rp.raw (r:Rp):Prop where
 cl:r.cs.length≤140737488355328
 c: ∀ x∈r.cs,iP x.ops
 bl:r.bs.length≤140737488355328
 b: ∀ x∈r.bs,x.ok
theorem dFa:Dec 3 34 (fun f:Int×List Vl×Int=>[i64 f.1,pH f.2.1,i64 f.2.2]) fun f=>f.2.1.length≤140737488355328∧ ∀ a∈f.2.1,a.ok:=(Dec.struct (ts:=[3,32,3]) (by kernel_rfl) (.cons (zeQ 2) (.cons zs9 (.cons (zeQ 2) .nil)))).map
 (fun a=>⟨a.1,a.2.1,a.2.2.1⟩) (fun _=>rfl) fun _ h=>h.2.1
theorem dOp:Dec 4 38 Op1.c Op1.raw:=(Dec.struct (ts:=[3,34,36]) (by kernel_rfl) (.cons (zeQ 3) (.cons dFa (.cons (dSp.up (by decide)) .nil)))).map
 (fun a=>⟨a.1,a.2.1.1,a.2.1.2.1,a.2.1.2.2,a.2.2.1⟩) (fun _=>rfl) fun _ h=>h.2.1
theorem zfP:Dec 5 44 (fun l:List Op1=>[lJ l]) iP:=dOp.slice (by kernel_rfl)
section
variable {H:Type} {enc:TypeId×Value→H} {w:World} {base:Nat} {spare:Nat→Bool} {held:Bool}
theorem Dec.arg {α:Type} {n b0:Nat} {t:TypeId} {c:α→List PV} {K:α→Prop} (D:Dec n t c K) {ts:List TypeId} (hs:zcS prog t=some ts) (hok:zg3 prog n t=true) {v:Value} {d:DataW H} {ps:List MemPlace}
  (hw:Light prog t d) (hv:Value.okWide prog w .any b0 t v) (h:DataW.Trod enc prog w base spare held t v d ps): ∃ a,K a∧VRel ⟨[],[],w,fun _=>False⟩ (.agg (c a)) v:=by
 unfold zcS at hs
 split at hs
 case h_2=>cases hs
 rename_i fs hu
 obtain ⟨vs,rfl,ht,hsh⟩:=zkF (X:=fun _=>False) (fun _ h=>h) hu hok hw hv h
 obtain ⟨a,hK,hle⟩:=D 0 _ (by rw [Nat.zero_add];exact hsh)
 exact ⟨a,hK,ht.agg hle.len.symm fun i p q hp hq=>hle.get i p q hp hq⟩
theorem Dec.arg1 {α:Type} {n:Nat} {t:TypeId} {c:α→PV} {K:α→Prop} (D:Dec n t (fun a=>[c a]) K) (hok:zg3 prog n t=true) {v:Value} {d:DataW H} {ps:List MemPlace} (hc:v.cells= #[v])
  (hw:Light prog t d) (h:DataW.Trod enc prog w base spare held t v d ps): ∃ a,K a∧VRel ⟨[],[],w,fun _=>False⟩ (c a) v:=by
 obtain ⟨fuel,hf⟩:=h
 have ht:=lN (X:=fun _=>False) (fun _ h=>h) fuel n t _ d ps hok hf
 have hsh:=cH fuel n t _ d ps hok hw hf
 obtain ⟨a,hK,hle⟩:=D 0 _ (by rw [Nat.zero_add];exact hsh)
 have hl:=hle.len
 refine ⟨a,hK,?_⟩
 have hcs:v.cells.toList=[v]:=by rw [hc]
 rw [hcs] at ht
 match hq:tP prog n t d,hl with
 | [p],_=>
  rw [hq] at ht hle
  exact hle.get 0 p (c a) rfl rfl _ _ (ht.rel 0 p v rfl rfl)
end
end Go.AL
namespace Go.AL
open Go.Proofs Go.Proofs.Tryz
theorem dSps:Dec 2 82 (fun l:List Sp=>[kJ l]) fun l=>l.length≤140737488355328∧ ∀ s∈l,True:=dSp.slice (by kernel_rfl)
theorem dCe:Dec 1 161 Ce.c fun _=>True:=(Dec.struct (ts:=[3,3,3]) (by kernel_rfl) (.cons dI (.cons dI (.cons dI .nil)))).map (fun a=>⟨a.1,a.2.1,a.2.2.1⟩) (fun _=>rfl) fun _ _=>trivial
theorem dCes:Dec 2 128 (fun l:List Ce=>[ces l]) fun l=>l.length≤140737488355328∧ ∀ s∈l,True:=dCe.slice (by kernel_rfl)
def Rw.raw (x:Rw):Prop:=x.args.length≤140737488355328∧(∀ a∈x.args,a.s.size≤140737488355328)∧x.w.length≤140737488355328
def LRw.raw (x:LRw):Prop:=x.args.length≤140737488355328∧(∀ a∈x.args,a.s.size≤140737488355328)∧x.cs.length≤140737488355328
theorem dRw:Dec 3 84 Rw.c Rw.raw:=(Dec.struct (ts:=[32,82]) (by kernel_rfl) (.cons zs9 (.cons dSps .nil))).map (fun a=>⟨a.1,a.2.1⟩) (fun _=>rfl) fun _ h=>⟨h.1.1,h.1.2,h.2.1.1⟩
theorem dLRw:Dec 3 130 LRw.c LRw.raw:=(Dec.struct (ts:=[32,128]) (by kernel_rfl) (.cons zs9 (.cons dCes .nil))).map (fun a=>⟨a.1,a.2.1⟩) (fun _=>rfl) fun _ h=>⟨h.1.1,h.1.2,h.2.1.1⟩
theorem dRel:Dec 4 63 (fun l:List Rw=>[uN l]) fun l=>l.length≤140737488355328∧ ∀ s∈l,s.raw:=dRw.slice (by kernel_rfl)
theorem dLRel:Dec 4 89 (fun l:List LRw=>[vD l]) fun l=>l.length≤140737488355328∧ ∀ s∈l,s.raw:=dLRw.slice (by kernel_rfl)
theorem dRels:Dec 5 28 (fun l:List (List Rw)=>[.ts 1 (l.map fun r=>[uN r])]) fun l=>l.length≤140737488355328∧ ∀ s∈l,s.length≤140737488355328∧ ∀ x∈s,x.raw:=dRel.slice (by kernel_rfl)
theorem zs3:Dec 5 29 (fun l:List (List LRw)=>[.ts 1 (l.map fun r=>[vD r])]) fun l=>l.length≤140737488355328∧ ∀ s∈l,s.length≤140737488355328∧ ∀ x∈s,x.raw:=dLRel.slice (by kernel_rfl)
theorem dDt:Dec 6 31 Dt.c Dt.raw:=(Dec.struct (ts:=[28,29]) (by kernel_rfl) (.cons dRels (.cons zs3 .nil))).map (fun a=>⟨a.1,a.2.1⟩) (fun _=>rfl) fun _ h=>⟨h.1.1,h.2.1.1,h.1.2,h.2.1.2⟩
end Go.AL
namespace Go.AL
open Go.Proofs Go.Proofs.Tryz
@[go_sem] def ULaw1f6.pp:Nat→DPlan
 |8=>⟨[yA,yA,yA,yA,yB,yA,yA,yA,yB,yA,yC,yA],xF,0⟩
 |14=>⟨[yE,yE,yA,yA,yE,uX,yA,yA,yA,vC,yC,yA],xF,1⟩
 |15=>⟨[yE,yE,yA,yA,yE,uX,yA,yA,yA,vC,yC,yA],xF,1⟩
 |_=>⟨[],[],0⟩
@[go_sem] def ULaw1f6.pl:Nat→DPlan
 |8=>⟨[yA,yA,yA,yA,yB,yA,yA,yA,yB,yA,yC,yA],xF,0⟩
 |14=>⟨[yE,yE,yA,yA,yE,rK,yA,yA,yA,vC,yC,yA],xF,1⟩
 |15=>⟨[yE,yE,yA,yA,yE,rK,yA,yA,yA,vC,yC,yA],xF,1⟩
 |_=>⟨[],[],0⟩
theorem zl6 (h:Heap):ECall prog G0 9 [] h fun q h2=>q=bo true∧h2=h:=⟨_,_,⟨rfl,rfl⟩,aO h⟩
theorem zsY {p:Pg} {d:Dt} {ops:List Op1} (h:(zk4 p d ops).2≠0):(zk4 p d ops).1=znO:=by
 unfold zk4 at h ⊢
 split
 ·rfl
 ·split
  ·rfl
  ·split
   ·rfl
   ·split
    ·rfl
    ·rename_i h1 h2 h3 h4
     rw [if_neg h1,if_neg h2,if_neg h3,if_neg h4] at h
     exact absurd rfl h
theorem zs2:znO.sz:=⟨Nat.zero_le _,Nat.zero_le _,by simp,by simp,by simp⟩
theorem zhA (p:Pg) (hp:p.ok) (hle:p.sm) (d:Dt) (ops:List Op1) (ho: ∀ o∈ops,o.ok) (hd:d.sz):(zk4 p d ops).1.sz:=by
 by_cases h:(zk4 p d ops).2=0
 ·exact (zn8 p hp hle d ops ho hd h).2.1
 ·rw [zsY h];exact zs2
theorem zjH (l:List Op1) (o:Op1):wP (l++[o])=wP l++[o,o]:=by
 unfold wP;rw [List.flatMap_append];rfl
def znQ (l:List Op1):PV:=if l=[] then .tc 6 [] else .vec 2 6 (l.map Op1.c)
def zjD (l:List Op1):Heap:=if l=[] then [] else [.vec 38 6 l.length]
theorem zrS (l:List Op1) (o:Op1):znQ (l++[o,o])= .vec 2 6 (l.map Op1.c++[o.c,o.c]):=by
 unfold znQ;rw [if_neg (by simp),List.map_append];rfl
theorem zm8 (l:List Op1) (o:Op1):zjD (l++[o,o])=[.vec 38 6 (l.length+2)]:=by
 unfold zjD;rw [if_neg (by simp),List.length_append];rfl
theorem zsV (l:List Op1):PLe (znQ l) (lJ l):=by
 unfold znQ
 split
 ·rename_i h;subst h;exact PLe.tc_ts 6 _
 ·exact PLe.vec_ts _ _ _
theorem zsO (p:Pg) (d:Dt) (l:List Op1): ∀ q∈[PV.agg p.c,.agg d.c,lJ l],Tree q:=by simp [zJ]
theorem znC (a b c d e f a' b' c' d' e' f':PV):wA [a,b,c,d,e,f,a',b',c',d',e',f'] 0 6 2=[[a,b,c,d,e,f],[a',b',c',d',e',f']]:=rfl
open ULaw1f6 in
theorem zmD (p:Pg) (hp:p.ok) (d:Dt) (hd:d.raw) (ops:List Op1) (ho:iP ops) (u:Nat) (hu:u<256):
  EPure prog G0 6 [.agg p.c,.agg d.c,lJ ops,u8 u] fun v=>v=bo true:=by
 refine ECall.cut (R:=fun v _=>v=bo true) (pv func6 120 false (by kernel_rfl) rfl rfl ?_) (by rintro p h rfl;rfl)
 refine g2 ?_
 refine ge ?_
 (refine Go.AL.g1 ?_;refine zC (zl6 _) ?_;intro p2 h2 hr2;refine Go.AL.g2 ?_)
 obtain ⟨rfl,rfl⟩:=hr2
 refine ge ?_
 (refine Go.AL.g1 ?_;refine zC ((zbT p hp d hd).call zK (by simp [zJ]) _) ?_;intro p2 h2 hr2;refine Go.AL.g2 ?_)
 obtain ⟨⟨b,rfl,hb⟩,rfl⟩:=hr2
 cases b with
 |false=>
  refine ge ?_
  rfl
 | true=>
  obtain ⟨⟨hlat,hpl⟩,hfew⟩:=hb rfl
  refine ge ?_
  (refine Go.AL.g1 ?_;refine zC ((gQ ops ho.1).call zK (by simp) _) ?_;intro p2 h2 hr2;refine Go.AL.g2 ?_)
  obtain ⟨⟨b,rfl,hs⟩,rfl⟩:=hr2
  cases b with
  |false=>
   refine ge ?_
   rfl
  | true=>
   have hs:=hs rfl
   have hle:p.sm:=fun x hx=>by have:=hlat x hx;omega
   have hsz:=hd.sz hfew
   have hL:=hfew.len
   have hoo: ∀ o∈ops,o.ok:=(OpsG.of hs fun x hx=>(ho.2 x hx).2).o
   by_cases h1:(20:Int)<(ops.length:Int)
   ·have e1:decide ((20:Int)<(ops.length:Int))=true:=by simp only [h1,decide_true]
    refine gf @e1 ?_
    rfl
   have e1:decide ((20:Int)<(ops.length:Int))=false:=by simp only [h1,decide_false]
   have h20:ops.length≤20:=by omega
   refine gf @e1 ?_
   refine zO ops.length (K9 (.k:: .v:: .v::K9 (K9 (K4 (K4 (D9 (D4 (D4 (K9 (K9 (K9 (K9 (K9 (K9 (K9 (.k:: .k::[])))))))))))))))) (own:=false) (fun i (l:List Op1)=>[znQ l,i64 i]) (fun l=>[.var 27 p.c,.var 31 d.c]++zjD l) (fun i l=>l=wP (ops.take i)) [] rfl rfl rfl (by omega) ?_ ?_
   ·rintro l hI
    refine gm ?_
    rw [List.take_length] at hI
    subst hI
    have htl:=mM ops
    have hto: ∀ o∈wP ops,o.ok:=fun o h=>by
     unfold wP at h
     obtain ⟨x,hx,q⟩:=List.mem_flatMap.1 h
     simp at q;subst q;exact hoo _ hx
    have hA1:=zrH p hp hle d hsz ops ⟨by omega,hoo⟩
    have hA2:=zrH p hp hle d hsz (wP ops) ⟨by omega,hto⟩
    rw [zr3 p hp hle d ops hoo hL (by omega) h20] at hA2
    have hcm:=znT (zhA p hp hle d ops hoo hsz)
    have hpos:0<ops.length+1:=Nat.succ_pos _
    have hne:(((ops.length:Int)+1)==0)=false:=by rw [beq_eq_false_iff_ne];omega
    have hn0: ¬((ops.length:Int)+1=0):=by omega
    have hwl:IntKind.i64.wrap ((ops.length:Int)+1)=(ops.length:Int)+1:=xM (by omega) (by omega)
    have hwu:IntKind.i64.wrap (u:Int)=u:=xM (by omega) (by omega)
    have h5:(prog.underlying 5).isSome=true:=by kernel_rfl
    have hmu:(u:Int).tmod ((ops.length:Int)+1)=((u%(ops.length+1):Nat):Int):=(Int.ofNat_tmod u (ops.length+1)).symm
    have hk:=Nat.mod_lt u hpos
    obtain ⟨k,hke⟩: ∃ k,u%(ops.length+1)=k:=⟨_,rfl⟩
    rw [hke] at hmu hk
    have hkl:k≤ops.length:=by omega
    have hot: ∀ o∈ops.take k,o.ok:=fun o h=>hoo o (List.mem_of_mem_take h)
    have hod: ∀ o∈ops.drop k,o.ok:=fun o h=>hoo o (List.mem_of_mem_drop h)
    have hA3:=zrH p hp hle d hsz (ops.take k) ⟨by rw [List.length_take];omega,hot⟩
    have hz3:=zhA p hp hle d (ops.take k) hot hsz
    have hA4:=zrH p hp hle (zk4 p d (ops.take k)).1 hz3 (ops.drop k) ⟨by rw [List.length_drop];omega,hod⟩
    have hpt:(zk4 p d ops).2=0→(zk4 p d (ops.take k)).2=0∧zk4 p (zk4 p d (ops.take k)).1 (ops.drop k)=((zk4 p d ops).1,0):=by
     have:=zr4 p hp hle d (ops.take k) (ops.drop k) (by rw [List.take_append_drop];exact hoo) hL (by rw [List.take_append_drop];omega) (by rw [List.take_append_drop];omega)
     rw [List.take_append_drop] at this
     exact this
    generalize zk4 p (zk4 p d (ops.take k)).1 (ops.drop k)=r4 at*
    generalize zk4 p d (ops.take k)=r3 at*
    generalize zk4 p d ops=r1 at*
    obtain ⟨x1,f1⟩:=r1
    obtain ⟨x3,f3⟩:=r3
    obtain ⟨x4,f4⟩:=r4
    dsimp only at*
    have hSm:=pP x1 hcm
    have hbb:(f1 !=f1)=false:=by simp
    refine gf (a5 @zM @rU @sB @qK @rN) ?_
    (refine Go.AL.g1f (a4 @rU @sB @qK @rN) ?_;refine zC (hA1.call zK (by simp [zJ]) _) ?_;intro p2 h2 hr2;refine Go.AL.g2 ?_)
    obtain ⟨rfl,rfl⟩:=hr2
    refine gf (a4 @rU @sB @qK @rN) ?_
    (refine Go.AL.g1f (a4 @rU @sB @qK @rN) ?_;refine zC ((hA2.call zK (by simp [zJ]) _).args (.cons (PLe.refl _) (.cons (PLe.refl _) (.cons (zsV _) .nil)))) ?_;intro p2 h2 hr2;refine Go.AL.g2 ?_)
    obtain ⟨rfl,rfl⟩:=hr2
    refine gf (a5 @hbb @rU @sB @qK @rN) ?_
    (refine Go.AL.g1f (a5 @hbb @rU @sB @qK @rN) ?_;refine zC (hSm.call zK (by simp [zJ]) _) ?_;intro p2 h2 hr2;refine Go.AL.g2 ?_)
    obtain ⟨rfl,rfl⟩:=hr2
    have hkT:(k≤ops.length)=True:=eq_true hkl
    have hkT2:((k:Int)≤(ops.length:Int))=True:=eq_true (by omega)
    have htk:(ops.map Op1.c).take k=(ops.take k).map Op1.c:=(List.map_take).symm
    have hfk:(ops.map Op1.c).take ops.length=ops.map Op1.c:=List.take_of_length_le (by simp)
    have hdk:(ops.map Op1.c).drop k=(ops.drop k).map Op1.c:=(List.map_drop).symm
    (repeat (first|refine gz ?_|(refine gn ?_;intro zs zh;(try simp only [go_sem,hne,hn0,hwl,hwu,h5,hmu,rU,sB,qK,rN,hkT,hkT2,htk,hfk,hdk,zB] at zh);subst zh;refine gv ?_)|refine yD ULaw1f6.pp ?_))
    (refine zF rfl rfl rfl ?_;intro sr hsr;simp only [go_sem,rU,sB,qK,rN,hkT,hkT2,htk,hfk,hdk,zB] at hsr;subst hsr;refine vP rfl (hA3) (zsO p d (ops.take k)) ?_;intro p2 hr2 ts2 hts;simp only [go_sem] at hts;subst hts)
    subst hr2
    (repeat (first|refine gz ?_|(refine gn ?_;intro zs zh;(try simp only [go_sem,rU,sB,qK,rN,hkT,hkT2,htk,hfk,hdk,zB] at zh);subst zh;refine gv ?_)|refine yD ULaw1f6.pp ?_))
    (refine zF rfl rfl rfl ?_;intro sr hsr;simp only [go_sem,rU,sB,qK,rN,hkT,hkT2,htk,hfk,hdk,zB] at hsr;subst hsr;refine vP rfl (hA4) (zsO p x3 (ops.drop k)) ?_;intro p2 hr2 ts2 hts;simp only [go_sem] at hts;subst hts)
    subst hr2
    by_cases hf:f1=0
    ·obtain ⟨e3,e4⟩:=hpt hf
     injection e4 with e4 e5
     subst hf;subst e3;subst e4;subst e5
     have z0:((0:Int)==0)=true:=rfl
     have z1:((0:Int)!=0)=false:=rfl
     (repeat (first|refine gz ?_|(refine gn ?_;intro zs zh;(try simp only [go_sem,rU,sB,qK,rN,z0,z1] at zh);subst zh;refine gv ?_)|refine yD ULaw1f6.pp ?_))
     (refine Go.AL.g1f (a6 @rU @sB @qK @rN @z0 @z1) ?_;refine zC (hSm.call zK (by simp [zJ]) _) ?_;intro p2 h2 hr2;refine Go.AL.g2 ?_)
     obtain ⟨rfl,rfl⟩:=hr2
     (repeat (first|refine gz ?_|(refine gn ?_;intro zs zh;(try simp only [go_sem,rU,sB,qK,rN,z0,z1] at zh);subst zh;refine gv ?_)|refine yD ULaw1f6.pp ?_))
     rfl
    ·have z1:(f1 !=0)=true:=by simp [hf]
     (repeat (first|refine gz ?_|(refine gn ?_;intro zs zh;(try simp only [go_sem,rU,sB,qK,rN,z1] at zh);subst zh;refine gv ?_)|refine yD ULaw1f6.pp ?_))
     rfl
   ·rintro i l hi hw hI
    refine gm ?_
    have hx:=zG (f:=Op1.c) [] hi
    have hti:wP (ops.take (i+1))=l++[ops[i],ops[i]]:=by rw [List.take_succ_eq_append_getElem hi,zjH,hI]
    have hll:l.length≤40:=by rw [hI,mM,List.length_take];omega
    generalize ops[i]=o at*
    by_cases hl0:l=[]
    ·subst hl0
     have g1:znQ []= .tc 6 []:=rfl
     have g2:zjD []=[]:=rfl
     rw [g1,g2]
     refine gf (a5 @hi @hx @hw @zB @znC) ?_
     exact ⟨_,hti.symm,rfl,rfl,rfl⟩
    ·have g1:znQ l= .vec 2 6 (l.map Op1.c):=if_neg hl0
     have g2:zjD l=[.vec 38 6 l.length]:=if_neg hl0
     rw [g1,g2]
     refine gf (a5 @hi @hx @hw @zB @znC) ?_
     refine ⟨_,hti.symm,?_,rfl,?_⟩
     ·simp only [zY,xJ,List.tail_cons]
      rw [zrS]
     ·rw [zm8]
      simp
end Go.AL
