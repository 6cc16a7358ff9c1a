/-
  A region whose order is drawn, walked in one order.
-/
import Derived.Test.YthackdgnkilhnaaGreatDoorAl15
set_option linter.unusedSimpArgs false
set_option linter.unusedVariables false
namespace Go.AL
open Go.RowKit

/-- 'a' lies before 'i' by the edges that bind. -/
inductive Anc (ops : List Oper) : Nat → Nat → Prop
  | edge {a i : Nat} {o : Oper} {e : Edge} (ho : ops[i]? = some o) (he : e ∈ o.after) (hb : Region.binds .any e = true) (ha : e.on = a) : Anc ops a i
  | far {a i : Nat} {o : Oper} {e : Edge} (ho : ops[i]? = some o) (he : e ∈ o.after) (hb : Region.binds .any e = true) (ha : Anc ops a e.on) : Anc ops a i

/-- Every pair that is not bound may change places; every operation comes after those that bind it. -/
structure Plan (ops : List Oper) (ann : Nat → DAnn) (ρ : List Nat) : Prop where
  nodup : ρ.Nodup
  lt : ∀ i ∈ ρ, i < ops.length
  pair : ρ.Pairwise fun i j => (Anc ops i j ∨ ∀ a b, ops[i]? = some a → ops[j]? = some b → commB ops (ann i) (ann j) a b = true) ∧
    ∀ o, ops[i]? = some o → ∀ e ∈ o.after, Region.binds .any e = true → e.on ≠ j
  self : ∀ i ∈ ρ, ∀ o, ops[i]? = some o → ∀ e ∈ o.after, Region.binds .any e = true → e.on < ops.length ∧ e.on ≠ i

theorem Plan.cut {ops : List Oper} {ann : Nat → DAnn} {α β : List Nat} {i : Nat} (h : Plan ops ann (α ++ i :: β)) : Plan ops ann (α ++ β) := by
  have hsub : (α ++ β).Sublist (α ++ i :: β) := List.Sublist.append_left (List.sublist_cons_self i β) α
  exact ⟨h.nodup.sublist hsub, fun j hj => h.lt j (hsub.subset hj), h.pair.sublist hsub, fun j hj => h.self j (hsub.subset hj)⟩

/-- What is listed is closed: an operation that is not listed binds none that is ready. -/
theorem anc_listed {ops : Array Oper} {listed : Array Bool} (hdc : ∀ (i : Nat) (o : Oper), ops[i]? = some o → listed.getD i false = true → ∀ e ∈ o.after, Region.binds .any e = true → listed.getD e.on false = true) {a i : Nat}
    (h : Anc ops.toList a i) : (∀ o, ops[i]? = some o → ∀ e ∈ o.after, Region.binds .any e = true → listed.getD e.on false = true) → listed.getD a false = true := by
  induction h with
  | edge ho he hb ha => intro hr; rw [← ha]; exact hr _ (by simpa using ho) _ he hb
  | far ho he hb _ ih =>
    intro hr
    have hl := hr _ (by simpa using ho) _ he hb
    exact ih fun o' ho' e' he' hb' => hdc _ o' ho' hl e' he' hb'

section
variable {P : Program} {G : Glob} {rd : Option Nat} {n0 : Nat} {t0 : List PV}

theorem drun_front {ann : Nat → DAnn} {ops : List Oper} {i : Nat} {b : Oper} (hb : ops[i]? = some b) : ∀ {α β : List Nat} {s s' : List PV × Heap}, (∀ a ∈ α, ∀ o, ops[a]? = some o → commB ops (ann a) (ann i) o b = true) →
    DRun P G rd n0 t0 ann ops (α ++ i :: β) s s' → ∃ m, DStep P G rd n0 t0 ann ops i s m ∧ DRun P G rd n0 t0 ann ops (α ++ β) m s' := by
  intro α
  induction α with
  | nil => intro β s s' _ h; exact h
  | cons a α ih =>
    intro β s s' hc h
    obtain ⟨m, h1, h2⟩ := h
    obtain ⟨m', h3, h4⟩ := ih (fun a ha => hc a (List.mem_cons_of_mem _ ha)) h2
    have h1' := h1
    obtain ⟨o, _, _, ho, _⟩ := h1'
    obtain ⟨m'', h5, h6⟩ := DStep.swap ho hb (hc a (List.mem_cons_self ..) o ho) h1 h3
    exact ⟨m'', h5, m', h6, h4⟩

/-- Trees alone lie in the package's variables. -/
def GTree (G : Glob) : Prop := ∀ g cs, G g = some cs → ∀ p ∈ cs, Tree p

theorem aeff_free {P : Program} {f : Operand → PV} {op : Op} {p : PV} {h0 : Heap} {c : Prop} (hop : (∃ t ps, op = .build t ps) ∨ ∃ t n ps, op = .buildSlice t n ps) (h : Heap) (he : aeff P [] f op = some (p, h0, c)) : aeff P h f op = some (p, h, c) := by
  rcases hop with ⟨t, ps, rfl⟩ | ⟨t, n, ps, rfl⟩
  · simp only [aeff] at he ⊢
    split at he
    · cases he; rfl
    · cases he
  · simp only [aeff] at he ⊢
    repeat' split at he
    all_goals first
      | (cases he; done)
      | (cases he; simp_all)

theorem afree_ok {o : Oper} {ts : List PV} {h : Heap} {p : PV} {c : Prop} (he : afree P (aev G ts) o.op = some (p, c)) (hc : c) : OpOk P G rd o h (aev G ts) fun q h' => q = p ∧ h' = h := by
  have viaEff : ((∃ t ps, o.op = .build t ps) ∨ ∃ t n ps, o.op = .buildSlice t n ps) → (aeff P [] (aev G ts) o.op).map (fun r => (r.1, r.2.2)) = some (p, c) → OpOk P G rd o h (aev G ts) fun q h' => q = p ∧ h' = h := by
    intro hop he
    cases hr : aeff (α := Prop) P [] (aev G ts) o.op with
    | none => rw [hr] at he; cases he
    | some r =>
      obtain ⟨q, h0, d⟩ := r
      rw [hr] at he
      cases he
      exact .of_eff (aeff_free hop h hr) hc ⟨rfl, rfl⟩
  cases hop : o.op with
  | build t ps => rw [hop] at he; exact viaEff (.inl ⟨t, ps, hop⟩) (by rw [hop]; exact he)
  | buildSlice t n ps => rw [hop] at he; exact viaEff (.inr ⟨t, n, ps, hop⟩) (by rw [hop]; exact he)
  | _ => exact .of_pure (apure_mono (h := []) (by simp) (by rw [hop] at he ⊢; exact he)) hc ⟨rfl, rfl⟩

theorem DOpr.ok (hG : GTree G) {d : DAnn} {o : Oper} {ts : List PV} {h : Heap} {p : PV} {h1 : Heap} (k : DOpr P G rd n0 t0 d o ts h p h1) : OpOk P G rd o h (aev G ts) fun q h' => q = p ∧ h' = h1 := by
  unfold DOpr at k
  split at k
  · obtain ⟨rfl, c, he, hc⟩ := k
    exact afree_ok he hc
  · obtain ⟨rfl, c, he, hc⟩ := k
    refine .of_pure (apure_mono (h := hide (d.fb.map (nu n0 t0)) h1) (fun r b hbn hr => ?_) he) hc ⟨rfl, rfl⟩
    rw [hide_get] at hr
    split at hr
    · cases hr; exact absurd rfl hbn
    · exact hr
  · obtain ⟨hn, b, c, he, hc, rfl⟩ := k
    refine .of_run (fun c hop => by rw [hop] at he; cases he) fun φ w X ρ hS _ hx => ?_
    obtain ⟨φ', w', v, hrun, x, hs, hv⟩ := dalloc_ok (P := P) (S := ⟨φ, h, w, X⟩) (o := o) (ρ := ρ) hS hx hn he hc
    exact ⟨φ', _, w', p, v, hrun, x, hs, hv, rfl, rfl⟩
  · obtain ⟨rfl, c, x, g, fst, cap, ho, hc, hx, hp, ht, hr⟩ := k
    exact .call ho hc hx (hp.frame ht hr hG h1)
  · obtain ⟨t, a, x, off, c, ho, _, he, hc⟩ := k
    exact .of_eff (ho ▸ he) hc ⟨rfl, rfl⟩
  · obtain ⟨⟨h0, k1, k2, k3, k4, k5, rfl⟩, _⟩ := k
    exact .frame hG k1 k2 k3 k4 k5
  · obtain ⟨rfl, c, he, hc⟩ := k
    refine .of_pure (apure_mono (h := only (d.fb.map (nu n0 t0)) h1) (fun r b hbn hr => ?_) he) hc ⟨rfl, rfl⟩
    rw [only_get] at hr
    cases hb : h1[r]? with
    | none => rw [hb] at hr; cases hr
    | some b' =>
      rw [hb] at hr
      simp only [Option.map_some, Option.some.injEq] at hr
      split at hr
      · rw [hr]
      · exact absurd hr.symm hbn
  · exact k

/-- The walk through the operations in whatever order the draw lays. -/
theorem drun_sound (hG : GTree G) {ops : Array Oper} {ann : Nat → DAnn} {QQ : Exit → Act → World → Prop} {sF : List PV × Heap} {Q0 : List PV → Heap → Prop} (hQ0 : Q0 sF.1 sF.2) : ∀ (fuel : Nat) (ρ : List Nat) (listed : Array Bool) (s : List PV × Heap), DRun P G rd n0 t0 ann ops.toList ρ s sF →
    Plan ops.toList ann ρ → ρ.length ≤ fuel → listed.size = ops.size → (∀ i, i < ops.size → (i ∈ ρ ↔ listed.getD i true = false)) →
    (∀ (i : Nat) (o : Oper), ops[i]? = some o → listed.getD i false = true → ∀ e ∈ o.after, Region.binds .any e = true → listed.getD e.on false = true) →
    ∀ (B : Nat) (φ : List Value) (w : World) (X : Addr → Prop) (a : Act), ARel B ⟨φ, s.2, w, X⟩ G s.1 a →
      (∀ (φ' : List Value) (w' : World) (a' : Act) (ts' : List PV) (h' : Heap), Ext ⟨φ, s.2, w, X⟩ ⟨φ', h', w', X⟩ → ARel B ⟨φ', h', w', X⟩ G ts' a' → Q0 ts' h' → QQ .normal a' w') →
      wpAnyIn (FW rd) 0 P .any ops QQ fuel listed a w := by
  intro fuel
  induction fuel with
  | zero =>
    intro ρ listed s hrun hpl hlen hsz hmem hdc B φ w X a hA hQ
    have hρ : ρ = [] := List.eq_nil_of_length_eq_zero (by omega)
    subst hρ
    cases hrun
    refine ⟨?_, hQ φ w a _ _ (Ext.refl _) hA hQ0⟩
    refine List.eq_nil_iff_forall_not_mem.2 fun i hi => ?_
    obtain ⟨h0, o, ho, _⟩ := mem_ready.1 hi
    have := (hmem i (Array.getElem?_eq_some_iff.1 ho).1).2 h0
    cases this
  | succ fuel ih =>
    intro ρ listed s hrun hpl hlen hsz hmem hdc B φ w X a hA hQ
    have unl : ∀ i, i < ops.size → i ∈ ρ → listed.getD i false = false := fun i hi h => by
      have := (hmem i hi).1 h
      rw [Array.getD_eq_getD_getElem?] at this ⊢
      have hlt : i < listed.size := by omega
      simp [hlt] at this ⊢
      exact this
    have lst : ∀ i, i < ops.size → i ∉ ρ → listed.getD i false = true := fun i hi h => by
      have h1 : listed.getD i true ≠ false := fun e => h ((hmem i hi).2 e)
      rw [Array.getD_eq_getD_getElem?] at h1 ⊢
      have hlt : i < listed.size := by omega
      simp [hlt] at h1 ⊢
      exact h1
    refine ⟨fun hr => ?_, fun i hi => ?_⟩
    · cases ρ with
      | nil => cases hrun; exact hQ φ w a _ _ (Ext.refl _) hA hQ0
      | cons i ρ =>
        exfalso
        have hlt : i < ops.size := by simpa using hpl.lt i (by simp)
        have : i ∈ Region.ready .any ops listed := by
          rw [mem_ready]
          refine ⟨(hmem i hlt).1 (by simp), ops[i], by simp [hlt], fun e he hb => ?_⟩
          have hs := hpl.self i (by simp) ops[i] (by simp [hlt]) e he hb
          refine lst _ (by simpa using hs.1) fun hm => ?_
          rcases List.mem_cons.1 hm with h | h
          · exact hs.2 h
          · exact ((List.pairwise_cons.1 hpl.pair).1 _ h).2 ops[i] (by simp [hlt]) e he hb rfl
        rw [hr] at this
        cases this
    · obtain ⟨h0, o, ho, hedge⟩ := mem_ready.1 hi
      have hlt : i < ops.size := (Array.getElem?_eq_some_iff.1 ho).1
      have hiρ : i ∈ ρ := (hmem i hlt).2 h0
      obtain ⟨α, β, rfl⟩ := List.append_of_mem hiρ
      have hnd := hpl.nodup
      rw [List.nodup_append] at hnd
      obtain ⟨hnα, hnβ, hdis⟩ := hnd
      rw [List.nodup_cons] at hnβ
      have hiα : i ∉ α := fun h => hdis i h i (by simp) rfl
      obtain ⟨m, hst, hrun'⟩ := drun_front (b := o) (by simpa using ho) (fun x hx ox hox => by
        have hp := (List.pairwise_append.1 hpl.pair).2.2 x hx i (by simp)
        rcases hp.1 with hanc | hc
        · have hxlt : x < ops.size := by simpa using hpl.lt x (by simp [hx])
          have h1 := anc_listed hdc hanc fun o' ho' e he hb => by rw [ho] at ho'; cases ho'; exact hedge e he hb
          rw [unl x hxlt (by simp [hx])] at h1
          cases h1
        · exact hc ox o hox (by simpa using ho)) hrun
      have hpl' := hpl.cut
      have hmem' : ∀ k, k < ops.size → (k ∈ α ++ β ↔ (listed.setIfInBounds i true).getD k true = false) := by
        intro k hk
        by_cases hik : i = k
        · subst hik
          have hlt' : i < listed.size := by omega
          simp [hlt', hiα, hnβ.1]
        · rw [getD_set_ne true hik, ← hmem k hk]
          simp [Ne.symm hik]
      have hdc' : ∀ (k : Nat) (o' : Oper), ops[k]? = some o' → (listed.setIfInBounds i true).getD k false = true → ∀ e ∈ o'.after, Region.binds .any e = true → (listed.setIfInBounds i true).getD e.on false = true := by
        intro k o' ho' hk e he hb
        by_cases hik : i = k
        · subst hik
          rw [ho] at ho'; cases ho'
          exact getD_set_true (hedge e he hb)
        · rw [getD_set_ne false hik] at hk
          exact getD_set_true (hdc k o' ho' hk e he hb)
      have next : ∀ (φ' : List Value) (w' : World) (a' : Act), Ext ⟨φ, s.2, w, X⟩ ⟨φ', m.2, w', X⟩ → ARel B ⟨φ', m.2, w', X⟩ G m.1 a' → wpAnyIn (FW rd) 0 P .any ops QQ fuel (listed.setIfInBounds i true) a' w' := fun φ' w' a' x hA' =>
        ih (α ++ β) _ m hrun' hpl' (by simp at hlen ⊢; omega) (by simpa using hsz) hmem' hdc' B φ' w' X a' hA' fun φ'' w'' a'' ts'' h'' x' hA'' hq => hQ φ'' w'' a'' ts'' h'' (x.trans x') hA'' hq
      obtain ⟨o', p, h1, ho', hgd, rfl⟩ := hst
      rw [Array.getElem?_toList, ho] at ho'
      cases ho'
      have put : ∀ (φ' : List Value) (h' : Heap) (w' : World) (dst : Option Tmp) (q : PV) (v : Value), Ext ⟨φ, s.2, w, X⟩ ⟨φ', h', w', X⟩ → SRel ⟨φ', h', w', X⟩ → VRel ⟨φ', h', w', X⟩ q v →
          ARel B ⟨φ', h', w', X⟩ G (aput s.1 dst q) (a.put dst v) := fun φ' h' w' dst q v x hs hv =>
        ⟨hs, hA.gl.ext x, (hA.tr.ext x).put dst hv, by have := hA.mark.ext x; cases dst <;> exact this, Nat.le_trans hA.base x.size⟩
      have step : ∀ (hk : DOpr P G rd n0 t0 (ann i) o s.1 s.2 p h1), o.wpIn (FW rd) 0 P a w (wpAnyIn (FW rd) 0 P .any ops QQ fuel (listed.setIfInBounds i true)) QQ := fun hk =>
        hk.ok hG φ w X a _ _ hA.st hA.gl (fun x _ => aev_rel hA.gl hA.tr x) fun φ' h' w' q v x hs hv ⟨e1, e2⟩ => by subst e1; subst e2; exact next φ' w' _ x (put φ' _ w' _ _ v x hs hv)
      have skip : p = .ud → h1 = s.2 → wpAnyIn (FW rd) 0 P .any ops QQ fuel (listed.setIfInBounds i true) (a.put o.dst undef) w := fun e1 e2 => by
        subst e1; subst e2
        exact next φ w _ (Ext.refl _) (put φ _ w _ .ud undef (Ext.refl _) hA.st .ud)
      simp only [wpOpIn, ho]
      unfold DGd at hgd
      cases hg : o.guard with
      | none =>
        rw [hg] at hgd
        rw [if_pos (by simp [Region.wanted, hg])]
        exact step hgd
      | some jw =>
        obtain ⟨j, want⟩ := jw
        rw [hg] at hgd
        simp only [] at hgd
        split at hgd
        · rename_i b hb
          have hy := yielded_sc hA.tr hb
          rcases hgd with ⟨hbw, hgd⟩ | ⟨hbw, e1, e2⟩
          · rw [if_pos (by simp [Region.wanted, hg, hy, hbw])]
            exact step hgd
          · rw [if_neg (by simp [Region.wanted, hg, hy, hbw])]
            exact ⟨fun _ _ => trivial, skip e1 e2⟩
        · rename_i hb
          have hy := yielded_ud hA.tr hb
          rw [if_neg (by simp [Region.wanted, hg, hy])]
          exact ⟨fun _ _ => trivial, skip hgd.1 hgd.2⟩
        · exact hgd.elim

theorem drawn_rel {φ : List Value} {h : Heap} {w : World} {X : Addr → Prop} (n : Nat) (hS : SRel ⟨φ, h, w, X⟩) : Ext ⟨φ, h, w, X⟩ ⟨φ, h, { w with drawn := n }, X⟩ ∧ SRel ⟨φ, h, { w with drawn := n }, X⟩ := by
  have x : Ext ⟨φ, h, w, X⟩ ⟨φ, h, { w with drawn := n }, X⟩ := ⟨rfl, rfl, rfl, rfl, Nat.le_refl _, fun b hb hn => ⟨hn, rfl⟩, fun a v hm => hm, fun r b hb => ⟨b, hb, Blk.le_refl b rfl⟩, fun _ _ h => h⟩
  exact ⟨x, ⟨hS.len, fun r b v hb hv => (hS.blks r b v hb hv).ext x fun _ _ => rfl, hS.inj, hS.xlt, hS.xown⟩⟩

/-- **A region whose order is drawn**: walked in the order 'ρ', with 'm' places kept free for what it lays. -/
theorem awp_draw (hm : P.follows .mixedOrders = true) (hG : GTree G) {id : Nat} {l : List Oper} {ann : Nat → DAnn} {ρ : List Nat} (hpl : Plan l ann ρ) (hln : ρ.length ≤ l.length) (hall : ∀ i, i < l.length → i ∈ ρ) (m : Nat) {Q : Exit → List PV → Heap → Prop} {ts : List PV} {h : Heap}
    (k : ∃ sF, DRun P G rd n0 t0 ann l ρ (ts, room h m) sF ∧ Q .normal sF.1 sF.2) : AWp P G rd (.region id l.toArray true) Q ts h := by
  intro B φ w X a hA
  obtain ⟨sF, hrun, hq⟩ := k
  refine wpIn_region_any hm ?_
  obtain ⟨x1, hS1⟩ := drawn_rel (w.drawn + 1) hA.st
  obtain ⟨x2, hS2⟩ := room_ok hS1 m
  have x := x1.trans x2
  have hlen : ρ.length ≤ l.toArray.size := by simpa using hln
  refine drun_sound hG (Q0 := Q .normal) hq _ ρ _ (ts, room h m) (by simpa using hrun) (by simpa using hpl) hlen (by simp) (fun i hi => ?_) (fun i o ho hl => ?_) B _ _ X a
    ⟨hS2, hA.gl.ext x, hA.tr.ext x, hA.mark.ext x, Nat.le_trans hA.base x.size⟩ fun φ' w' a' ts' h' x' hA' hq' => ⟨φ', ts', h', x.trans x', hA', hq'⟩
  · simp at hi
    simp [hi, hall i hi]
  · exfalso
    rw [Array.getD_eq_getD_getElem?, Array.getElem?_replicate] at hl
    split at hl <;> cases hl
end
end Go.AL
