/-
  A test that comes out true proves the condition.
-/
import Derived.Test.YthackdgnkilhnaaGreatDoorAl10
set_option linter.unusedSimpArgs false
set_option linter.unusedVariables false
namespace Go.AL

def CkRel {γ : Type} : Option (γ × Bool) → Option (γ × Prop) → Prop
  | some (x, b), some (y, c) => x = y ∧ (b = true → c)
  | none, none => True
  | _, _ => False

theorem ckrel_none {γ : Type} : CkRel (γ := γ) none none := trivial
theorem ckrel_some {γ : Type} (x : γ) (c : Prop) [Decidable c] : CkRel (some (x, (CK.cnd c : Bool))) (some (x, (CK.cnd c : Prop))) := ⟨rfl, fun h => of_decide_eq_true h⟩

theorem abin_ck (P : Program) (t : TypeId) (op : BinOp) (p q : PV) : CkRel (abin P t op p q) (abin P t op p q) := by
  unfold abin
  repeat' split
  all_goals first | exact ckrel_none | exact ckrel_some _ _

theorem ald_ck (P : Program) (t : TypeId) (cs : List PV) : CkRel (ald P t cs) (ald P t cs) := by
  unfold ald
  repeat' split
  all_goals first | exact ckrel_none | exact ckrel_some _ _

theorem alen_ck (P : Program) (t : TypeId) (p : PV) : CkRel (alen P t p) (alen P t p) := by
  unfold alen
  repeat' split
  all_goals first | exact ckrel_none | exact ckrel_some _ _

theorem abound_ck (q : Option PV) (d z : Nat) : CkRel (abound q d z) (abound q d z) := by
  unfold abound
  repeat' split
  all_goals first | exact ckrel_none | exact ckrel_some _ _

theorem ckrel_both {γ : Type} (x : γ) {c : Prop} [Decidable c] {b : Bool} {d : Prop} (h : b = true → d) : CkRel (some (x, CK.both (CK.cnd c : Bool) b)) (some (x, CK.both (CK.cnd c : Prop) d)) :=
  ⟨rfl, fun e => by
    have e' : (decide c && b) = true := e
    rw [Bool.and_eq_true] at e'
    exact ⟨of_decide_eq_true e'.1, h e'.2⟩⟩

theorem both_ck {b b' : Bool} {d d' : Prop} (h : b = true → d) (h' : b' = true → d') : (CK.both b b' : Bool) = true → CK.both d d' := fun e => by
  have e' : (b && b') = true := e
  rw [Bool.and_eq_true] at e'
  exact ⟨h e'.1, h' e'.2⟩

theorem ckrel_bind {γ δ : Type} {x : Option (γ × Bool)} {y : Option (γ × Prop)} (h : CkRel x y) {f : γ → Bool → Option (δ × Bool)} {g : γ → Prop → Option (δ × Prop)}
    (hf : ∀ a b c, (b = true → c) → CkRel (f a b) (g a c)) : CkRel (match x with | some (a, b) => f a b | none => none) (match y with | some (a, c) => g a c | none => none) := by
  cases x with
  | none => cases y with
    | none => exact trivial
    | some y => exact h.elim
  | some x => cases y with
    | none => exact h.elim
    | some y => obtain ⟨a, b⟩ := x; obtain ⟨a', c⟩ := y; obtain ⟨rfl, hb⟩ := h; exact hf _ _ _ hb

theorem apure0_ck (P : Program) (h : Heap) (f : Operand → PV) (op : Op) : CkRel (apure0 P h f op) (apure0 P h f op) := by
  cases op with
  | binOp o t x y u => exact abin_ck _ _ _ _ _
  | slice t x lo hi mx =>
    simp only [apure0]
    split
    · split
      · rename_i e _ y k els hy
        split
        · split
          · have h1 := abound_ck (hi.map f) els.length els.length
            rcases hb : abound (α := Bool) (hi.map f) els.length els.length with _ | ⟨b, c⟩ <;> rcases hp : abound (α := Prop) (hi.map f) els.length els.length with _ | ⟨b', c0⟩ <;> rw [hb, hp] at h1
            · exact ckrel_none
            · exact h1.elim
            · exact h1.elim
            · obtain ⟨rfl, h1⟩ := h1
              have h2 := abound_ck (lo.map f) b 0
              rcases hb2 : abound (α := Bool) (lo.map f) b 0 with _ | ⟨a, c'⟩ <;> rcases hp2 : abound (α := Prop) (lo.map f) b 0 with _ | ⟨a', c0'⟩ <;> rw [hb2, hp2] at h2
              · simp only [hb2, hp2]; exact ckrel_none
              · exact h2.elim
              · exact h2.elim
              · obtain ⟨rfl, h2⟩ := h2
                simp only [hb2, hp2]
                exact ckrel_both _ (both_ck h1 h2)
          · rename_i m
            have h0 := abound_ck (some (f m)) els.length 0
            rcases hb0 : abound (α := Bool) (some (f m)) els.length 0 with _ | ⟨d, c00⟩ <;> rcases hp0 : abound (α := Prop) (some (f m)) els.length 0 with _ | ⟨d', c01⟩ <;> rw [hb0, hp0] at h0
            · exact ckrel_none
            · exact h0.elim
            · exact h0.elim
            obtain ⟨rfl, h0⟩ := h0
            have h1 := abound_ck (hi.map f) d d
            rcases hb : abound (α := Bool) (hi.map f) d d with _ | ⟨b, c⟩ <;> rcases hp : abound (α := Prop) (hi.map f) d d with _ | ⟨b', c0⟩ <;> rw [hb, hp] at h1
            · simp only [hb, hp]; exact ckrel_none
            · exact h1.elim
            · exact h1.elim
            · obtain ⟨rfl, h1⟩ := h1
              simp only [hb, hp]
              have h2 := abound_ck (lo.map f) b 0
              rcases hb2 : abound (α := Bool) (lo.map f) b 0 with _ | ⟨a, c'⟩ <;> rcases hp2 : abound (α := Prop) (lo.map f) b 0 with _ | ⟨a', c0'⟩ <;> rw [hb2, hp2] at h2
              · simp only [hb2, hp2]; exact ckrel_none
              · exact h2.elim
              · exact h2.elim
              · obtain ⟨rfl, h2⟩ := h2
                simp only [hb2, hp2]
                exact ckrel_both _ (both_ck h0 (both_ck h1 h2))
        · exact ckrel_none
      · exact ckrel_none
    · split
      · repeat' split
        all_goals first | exact ckrel_none | exact ckrel_some _ _
      · repeat' split
        all_goals first | exact ckrel_none | exact ckrel_some _ _
      · rename_i s _
        split
        · have h1 := abound_ck (hi.map f) s.size s.size
          rcases hb : abound (α := Bool) (hi.map f) s.size s.size with _ | ⟨b, c⟩ <;> rcases hp : abound (α := Prop) (hi.map f) s.size s.size with _ | ⟨b', c0⟩ <;> rw [hb, hp] at h1
          · exact ckrel_none
          · exact h1.elim
          · exact h1.elim
          · obtain ⟨rfl, h1⟩ := h1
            have h2 := abound_ck (lo.map f) b 0
            rcases hb2 : abound (α := Bool) (lo.map f) b 0 with _ | ⟨a, c'⟩ <;> rcases hp2 : abound (α := Prop) (lo.map f) b 0 with _ | ⟨a', c0'⟩ <;> rw [hb2, hp2] at h2
            · simp only [hb2, hp2]; exact ckrel_none
            · exact h2.elim
            · exact h2.elim
            · obtain ⟨rfl, h2⟩ := h2
              simp only [hb2, hp2]
              exact ckrel_both _ (both_ck h1 h2)
        · exact ckrel_none
      · exact ckrel_none
  | _ =>
    simp only [apure0]
    repeat' split
    all_goals first
      | exact ckrel_none
      | exact ckrel_some _ _
      | exact alen_ck _ _ _
      | exact ald_ck _ _ _

theorem aappend_ck (P : Program) (h : Heap) (t : TypeId) (s x : PV) : CkRel (γ := PV × Heap) ((aappend P h t s x).map fun r => ((r.1, r.2.1), r.2.2)) ((aappend P h t s x).map fun r => ((r.1, r.2.1), r.2.2)) := by
  unfold aappend
  repeat' split
  all_goals first | exact ckrel_none | exact ckrel_some (γ := PV × Heap) (_, _) _

theorem aeff_ck (P : Program) (h : Heap) (f : Operand → PV) (op : Op) : CkRel (γ := PV × Heap) ((aeff P h f op).map fun r => ((r.1, r.2.1), r.2.2)) ((aeff P h f op).map fun r => ((r.1, r.2.1), r.2.2)) := by
  cases op <;> simp only [aeff] <;> (repeat' split)
  all_goals first | exact ckrel_none | exact ckrel_some (γ := PV × Heap) (_, _) _ | exact aappend_ck _ _ _ _ _

/-- A test that comes out true. -/
theorem aeqv_ck (P : Program) (t : TypeId) (p q : PV) : CkRel (aeqv P t p q) (aeqv P t p q) := by
  unfold aeqv
  repeat' split
  all_goals first
    | exact ckrel_none
    | exact ckrel_some _ _
    | (cases aeqp P 20 t _ _ <;> first | exact ckrel_none | exact ckrel_some _ _)

theorem alookup_ck (P : Program) (h : Heap) (t : TypeId) (ok : Bool) (m k : PV) : CkRel (alookup P h t ok m k) (alookup P h t ok m k) := by
  unfold alookup
  repeat' split
  all_goals first | exact ckrel_none | exact ckrel_some _ _

theorem ckrel_ind {γ : Type} {x : Option (γ × Bool)} {y : Option (γ × Prop)} (h : CkRel x y) : (x = none ∧ y = none) ∨ ∃ a b c, x = some (a, b) ∧ y = some (a, c) ∧ (b = true → c) := by
  cases x with
  | none => cases y with
    | none => exact .inl ⟨rfl, rfl⟩
    | some y => exact h.elim
  | some x => cases y with
    | none => exact h.elim
    | some y => obtain ⟨a, b⟩ := x; obtain ⟨a', c⟩ := y; obtain ⟨rfl, hb⟩ := h; exact .inr ⟨a, b, c, rfl, rfl, hb⟩

theorem bpure_ck (P : Program) (h : Heap) (f : Operand → PV) (op : Op) : CkRel (bpure P h f op) (bpure P h f op) := by
  cases op with
  | binOp o t x y u =>
    cases o <;> simp only [bpure] <;> try exact ckrel_none
    · split
      · exact ckrel_some _ _
      · exact ckrel_none
    all_goals
      rcases ckrel_ind (aeqv_ck P t (f x) (f y)) with ⟨e1, e2⟩ | ⟨a, b, c, e1, e2, h1⟩ <;> simp only [e1, e2]
      · exact ckrel_none
      · exact ⟨rfl, h1⟩
  | lookup t m k ok => exact alookup_ck _ _ _ _ _ _
  | slice t x lo hi mx =>
    simp only [bpure]
    split
    · split
      · cases mx with
        | none =>
          simp only []
          rcases ckrel_ind (abound_ck (hi.map f) 0 0) with ⟨e1, e2⟩ | ⟨b, c, c', e1, e2, h1⟩ <;> simp only [e1, e2]
          · exact ckrel_none
          rcases ckrel_ind (abound_ck (lo.map f) b 0) with ⟨e3, e4⟩ | ⟨a, d, d', e3, e4, h2⟩ <;> simp only [e3, e4]
          · exact ckrel_none
          exact ckrel_both _ (both_ck h1 h2)
        | some m =>
          simp only []
          rcases ckrel_ind (abound_ck (some (f m)) 0 0) with ⟨e1, e2⟩ | ⟨b, c, c', e1, e2, h1⟩ <;> simp only [e1, e2]
          · exact ckrel_none
          rcases ckrel_ind (abound_ck (hi.map f) b b) with ⟨e3, e4⟩ | ⟨a, d, d', e3, e4, h2⟩ <;> simp only [e3, e4]
          · exact ckrel_none
          rcases ckrel_ind (abound_ck (lo.map f) a 0) with ⟨e5, e6⟩ | ⟨g, d, d', e5, e6, h3⟩ <;> simp only [e5, e6]
          · exact ckrel_none
          exact ckrel_both _ (both_ck h1 (both_ck h2 h3))
      · exact ckrel_none
    · exact ckrel_none
  | _ => exact ckrel_none

theorem apure_ck (P : Program) (h : Heap) (f : Operand → PV) (op : Op) : CkRel (apure P h f op) (apure P h f op) := by
  have k := apure0_ck P h f op
  unfold apure
  cases hb : apure0 (α := Bool) P h f op with
  | none =>
    cases hp : apure0 (α := Prop) P h f op with
    | none => exact bpure_ck P h f op
    | some r => rw [hb, hp] at k; exact k.elim
  | some r =>
    cases hp : apure0 (α := Prop) P h f op with
    | none => rw [hb, hp] at k; exact k.elim
    | some r' => rw [hb, hp] at k; exact k

theorem apure_test {P : Program} {h : Heap} {f : Operand → PV} {op : Op} {p : PV} (e : apure P h f op = some (p, true)) : ∃ c : Prop, apure P h f op = some (p, c) ∧ c := by
  have k := apure_ck P h f op
  rw [e] at k
  cases hc : apure (α := Prop) P h f op with
  | none => rw [hc] at k; exact k.elim
  | some r => rw [hc] at k; obtain ⟨q, c⟩ := r; obtain ⟨rfl, k⟩ := k; exact ⟨c, rfl, k rfl⟩

theorem aeff_test {P : Program} {h h' : Heap} {f : Operand → PV} {op : Op} {p : PV} (e : aeff P h f op = some (p, h', true)) : ∃ c : Prop, aeff P h f op = some (p, h', c) ∧ c := by
  have k := aeff_ck P h f op
  rw [e] at k
  cases hc : aeff (α := Prop) P h f op with
  | none => rw [hc] at k; exact k.elim
  | some r => rw [hc] at k; obtain ⟨q, hh, c⟩ := r; obtain ⟨hq, k⟩ := k; cases hq; exact ⟨c, rfl, k rfl⟩

end Go.AL
