/-
  Branches: what the walks compute answers as the law says.
-/
import Derived.Test.YthackdgnkilhnaaGreatDoorUBr6
set_option linter.unusedSimpArgs false
set_option linter.unusedVariables false
namespace Go.AL
/-- A commit's parents that lie before it. -/
def Up (cs : List Cm) (n m : Nat) : Prop := n < cs.length ∧ m < n ∧ ((cs.getD n (0, 0)).2 = m ∨ (cs.getD n (0, 0)).1 = m)
inductive Reach (cs : List Cm) : Nat → Nat → Prop
  | refl (n : Nat) : Reach cs n n
  | step {n m k : Nat} : Up cs n m → Reach cs m k → Reach cs n k
theorem Reach.le {cs : List Cm} {n k : Nat} (h : Reach cs n k) : k ≤ n := by
  induction h with
  | refl => exact Nat.le_refl _
  | step u _ ih => exact Nat.le_of_lt (Nat.lt_of_le_of_lt ih u.2.1)
theorem Reach.lt {cs : List Cm} {n k : Nat} (h : Reach cs n k) (hn : n < cs.length) : k < cs.length := Nat.lt_of_le_of_lt h.le hn
theorem Reach.trans {cs : List Cm} {n k j : Nat} (h : Reach cs n k) (h' : Reach cs k j) : Reach cs n j := by
  induction h with
  | refl => exact h'
  | step u _ ih => exact .step u (ih h')
abbrev on (o : List Bool) (i : Nat) : Prop := o[i]? = some true
/-- Closed below a bound. -/
def Shut (cs : List Cm) (o : List Bool) (L : Nat) : Prop := ∀ i j, i < L → on o i → Up cs i j → on o j
theorem mkF_spec (cs : List Cm) : ∀ (k : Nat) (n : Int) (lim : Nat) (o : List Bool), lim ≤ k → lim ≤ cs.length → o.length = cs.length → Shut cs o lim →
    (∀ i, on o i → on (mkF cs k n lim o) i) ∧ (∀ i, on (mkF cs k n lim o) i → on o i ∨ (0 ≤ n ∧ n < lim ∧ Reach cs n.toNat i)) ∧ Shut cs (mkF cs k n lim o) lim ∧ (0 ≤ n → n < lim → on (mkF cs k n lim o) n.toNat) := by
  intro k
  induction k with
  | zero =>
    intro n lim o hk _ _ _
    have : lim = 0 := by omega
    subst this
    refine ⟨fun i h => h, fun i h => .inl h, fun i j h => absurd h (Nat.not_lt_zero _), fun a b => ?_⟩
    omega
  | succ k ih =>
    intro n lim o hk hl ho hs
    simp only [mkF]
    split
    · rename_i hc
      refine ⟨fun i h => h, fun i h => .inl h, hs, fun a b => ?_⟩
      rcases hc with h | h | h
      · omega
      · omega
      · rw [List.getD_eq_getElem?_getD] at h
        unfold on
        cases hx : o[n.toNat]? with
        | none => rw [hx] at h; cases h
        | some b => rw [hx] at h; simp at h; rw [h]
    · rename_i hc
      have h0 : 0 ≤ n := by
        rcases Int.lt_or_le n 0 with h | h
        · exact absurd (.inl h) hc
        · exact h
      obtain ⟨m, rfl⟩ := Int.eq_ofNat_of_zero_le h0
      have hm : m < lim := by
        rcases Nat.lt_or_ge m lim with h | h
        · exact h
        · exact absurd (.inr (.inl (by omega))) hc
      rw [Int.toNat_natCast] at hc ⊢
      have hmo : m < o.length := by omega
      have s1 : Shut cs (o.set m true) m := by
        intro i j hi hon hu
        unfold on at hon ⊢
        rw [List.getElem?_set_ne (by omega)] at hon
        rw [List.getElem?_set_ne (by have := hu.2.1; omega)]
        exact hs i j (by omega) hon hu
      obtain ⟨a1, a2, a3, a4⟩ := ih (cs.getD m (0, 0)).2 m (o.set m true) (by omega) (by omega) (by simpa using ho) s1
      obtain ⟨b1, b2, b3, b4⟩ := ih (cs.getD m (0, 0)).1 m _ (by omega) (by omega) (by rw [mkF_len]; simpa using ho) a3
      generalize mkF cs k (cs.getD m (0, 0)).2 m (o.set m true) = o1 at *
      generalize mkF cs k (cs.getD m (0, 0)).1 m o1 = o2 at *
      have hmm : on (o.set m true) m := by unfold on; rw [List.getElem?_set_self hmo]
      have up : ∀ i, on o i → on (o.set m true) i := by
        intro i h
        by_cases e : i = m
        · subst e; exact hmm
        · unfold on; rw [List.getElem?_set_ne (Ne.symm e)]; exact h
      have down : ∀ i, on o2 i → on o i ∨ Reach cs m i := by
        intro i h
        have step : ∀ c : Int, (c = (cs.getD m (0, 0)).2 ∨ c = (cs.getD m (0, 0)).1) → (0 ≤ c ∧ c < m ∧ Reach cs c.toNat i) → Reach cs m i := by
          intro c hcc ⟨c1, c2, c3⟩
          refine .step ⟨by omega, by omega, ?_⟩ c3
          rcases hcc with e | e
          · left; omega
          · right; omega
        rcases b2 i h with h | h
        · rcases a2 i h with h | h
          · by_cases e : i = m
            · right; subst e; exact .refl _
            · left; unfold on at h ⊢; rw [List.getElem?_set_ne (Ne.symm e)] at h; exact h
          · exact .inr (step _ (.inl rfl) h)
        · exact .inr (step _ (.inr rfl) h)
      refine ⟨fun i h => b1 i (a1 i (up i h)), fun i h => ?_, fun i j hi hon hu => ?_, fun _ _ => b1 _ (a1 _ hmm)⟩
      · rcases down i h with h | h
        · exact .inl h
        · exact .inr ⟨h0, by omega, h⟩
      · rcases Nat.lt_trichotomy i m with h | h | h
        · exact b3 i j h hon hu
        · subst h
          rcases hu.2.2 with e | e
          · exact b1 j (by have := a4 (by omega) (by have := hu.2.1; omega); rwa [e] at this)
          · have := b4 (by omega) (by have := hu.2.1; omega); rwa [e] at this
        · rcases down i hon with h' | h'
          · exact b1 j (a1 j (up j (hs i j hi h' hu)))
          · have := h'.le; omega
theorem on_anc (cs : List Cm) (a : Nat) (ha : a < cs.length) (i : Nat) : on (ancF cs a) i ↔ Reach cs a i := by
  have no : ∀ i, ¬ on (List.replicate cs.length false) i := by
    intro i h
    unfold on at h
    rw [List.getElem?_replicate] at h
    split at h <;> simp at h
  obtain ⟨h1, h2, h3, h4⟩ := mkF_spec cs cs.length a cs.length (List.replicate cs.length false) (Nat.le_refl _) (Nat.le_refl _) (List.length_replicate ..) (fun i j _ h => absurd h (no i))
  constructor
  · intro h
    rcases h2 i h with h | h
    · exact absurd h (no i)
    · simpa using h.2.2
  · have base := h4 (by omega) (by omega)
    rw [Int.toNat_natCast] at base
    have key : ∀ n i, Reach cs n i → on (ancF cs a) n → n < cs.length → on (ancF cs a) i := by
      intro n i hr
      induction hr with
      | refl => intro h _; exact h
      | step u _ ih => intro h hn; exact ih (h3 _ _ hn h u) (Nat.lt_trans u.2.1 hn)
    intro h
    exact key a i h base ha
theorem mem_idx (l : List Bool) : ∀ (j : Nat) (x : Int), x ∈ idxF l j ↔ ∃ i, on l i ∧ x = ((j + i : Nat) : Int) := by
  induction l with
  | nil => intro j x; simp [idxF, on]
  | cons b l ih =>
    intro j x
    simp only [idxF, List.mem_append, ih]
    constructor
    · rintro (h | ⟨i, h1, h2⟩)
      · split at h
        · rename_i hb; simp at h; exact ⟨0, by simp [on, hb], by simpa using h⟩
        · simp at h
      · exact ⟨i + 1, by simpa [on] using h1, by rw [h2]; congr 1; omega⟩
    · rintro ⟨i, h1, h2⟩
      cases i with
      | zero => left; simp [on] at h1; rw [if_pos h1]; simpa using h2
      | succ i => right; exact ⟨i, by simpa [on] using h1, by rw [h2]; congr 1; omega⟩
theorem mem_anc (cs : List Cm) (a : Nat) (ha : a < cs.length) (i : Nat) : (i : Int) ∈ idxF (ancF cs a) 0 ↔ Reach cs a i := by
  rw [mem_idx, ← on_anc cs a ha]
  constructor
  · rintro ⟨j, h1, h2⟩
    have : i = j := by omega
    rw [this]; exact h1
  · intro h; exact ⟨i, h, by simp⟩
theorem reach_iff (cs : List Cm) (a : Nat) (i : Nat) : Reach cs a i ↔ i = a ∨ ∃ m, Up cs a m ∧ Reach cs m i := by
  constructor
  · intro h
    cases h with
    | refl => exact .inl rfl
    | step u r => exact .inr ⟨_, u, r⟩
  · rintro (rfl | ⟨m, u, r⟩)
    · exact .refl _
    · exact .step u r
theorem comF_spec (x y : List Bool) : ∀ n, (-1 ≤ comF x y n) ∧ (∀ i : Nat, i < n → on x i → on y i → (i : Int) ≤ comF x y n) ∧ (0 ≤ comF x y n → ∃ i : Nat, comF x y n = i ∧ i < n ∧ on x i ∧ on y i) := by
  intro n
  induction n with
  | zero => exact ⟨by simp [comF], fun i h => absurd h (Nat.not_lt_zero _), fun h => by simp [comF] at h⟩
  | succ n ih =>
    obtain ⟨h1, h2, h3⟩ := ih
    simp only [comF]
    split
    · rename_i hc
      rw [Bool.and_eq_true] at hc
      refine ⟨by omega, fun i hi _ _ => by omega, fun _ => ⟨n, rfl, by omega, ?_, ?_⟩⟩
      · have := hc.1
        rw [List.getD_eq_getElem?_getD] at this
        unfold on
        cases hx : x[n]? with
        | none => rw [hx] at this; cases this
        | some b => rw [hx] at this; simp at this; rw [this]
      · have := hc.2
        rw [List.getD_eq_getElem?_getD] at this
        unfold on
        cases hx : y[n]? with
        | none => rw [hx] at this; cases this
        | some b => rw [hx] at this; simp at this; rw [this]
    · rename_i hc
      refine ⟨h1, fun i hi a b => ?_, fun h => ?_⟩
      · rcases Nat.lt_or_ge i n with h | h
        · exact h2 i h a b
        · have : i = n := by omega
          subst this
          exfalso; apply hc
          unfold on at a b
          rw [List.getD_eq_getElem?_getD, List.getD_eq_getElem?_getD, a, b]; rfl
      · obtain ⟨i, e, hi, a, b⟩ := h3 h
        exact ⟨i, e, by omega, a, b⟩
theorem comF_comm (x y : List Bool) : ∀ n, comF x y n = comF y x n := by
  intro n
  induction n with
  | zero => rfl
  | succ n ih => simp only [comF, ih, Bool.and_comm]
theorem path_mem (cs : List Cm) : ∀ (k c : Nat) (x : Int), c < cs.length → x ∈ tlF cs k c → ∃ i : Nat, x = i ∧ Reach cs c i := by
  intro k
  induction k with
  | zero => intro c x _ h; simp [tlF] at h
  | succ k ih =>
    intro c x hc h
    simp only [tlF] at h
    split at h
    · rename_i hg
      obtain ⟨m, hm⟩ := Int.eq_ofNat_of_zero_le hg.1
      rw [hm, Int.toNat_natCast] at h
      have hu : Up cs c m := ⟨hc, by omega, .inl hm⟩
      rcases List.mem_cons.1 h with h | h
      · exact ⟨m, h, .step hu (.refl _)⟩
      · obtain ⟨i, e, r⟩ := ih m x (by omega) h
        exact ⟨i, e, .step hu r⟩
    · simp at h
/-- A parent's share. -/
def upF (cs : List Cm) (a : Nat) (p : Int) (i : Nat) : Bool := if 0 ≤ p ∧ p < a then decide ((i : Int) ∈ idxF (ancF cs p) 0) else false
theorem law1 (cs : List Cm) (a : Nat) (ha : a < cs.length) (i : Nat) : decide ((i : Int) ∈ idxF (ancF cs a) 0) = (decide (i = a) || upF cs a (cs.getD a (0, 0)).2 i || upF cs a (cs.getD a (0, 0)).1 i) := by
  have hp : ∀ p : Int, upF cs a p i = true ↔ ∃ m : Nat, p = m ∧ m < a ∧ Reach cs m i := by
    intro p
    unfold upF
    split
    · rename_i hg
      obtain ⟨m, rfl⟩ := Int.eq_ofNat_of_zero_le hg.1
      rw [decide_eq_true_iff, mem_anc cs m (by omega)]
      constructor
      · intro h; exact ⟨m, rfl, by omega, h⟩
      · rintro ⟨m', e, _, h⟩
        have : m = m' := by omega
        subst this; exact h
    · rename_i hg
      constructor
      · intro h; cases h
      · rintro ⟨m, e, h1, _⟩
        exfalso; apply hg; omega
  rw [Bool.eq_iff_iff, decide_eq_true_iff, mem_anc cs a ha, reach_iff, Bool.or_eq_true, Bool.or_eq_true, hp, hp, decide_eq_true_iff]
  constructor
  · rintro (h | ⟨m, u, r⟩)
    · exact .inl (.inl h)
    · rcases u.2.2 with e | e
      · exact .inl (.inr ⟨m, e, u.2.1, r⟩)
      · exact .inr ⟨m, e, u.2.1, r⟩
  · rintro ((h | ⟨m, e, h1, r⟩) | ⟨m, e, h1, r⟩)
    · exact .inl h
    · exact .inr ⟨m, ⟨ha, h1, .inl e⟩, r⟩
    · exact .inr ⟨m, ⟨ha, h1, .inr e⟩, r⟩
theorem law2 (cs : List Cm) (a : Nat) (ha : a < cs.length) (i : Nat) (h : (i : Int) ∈ (chF cs a).reverse) : (i : Int) ∈ idxF (ancF cs a) 0 := by
  rw [mem_anc cs a ha]
  rw [List.mem_reverse, chF, List.mem_cons] at h
  rcases h with h | h
  · have : i = a := by omega
    subst this; exact .refl _
  · obtain ⟨j, e, r⟩ := path_mem cs _ a _ ha h
    have : i = j := by omega
    subst this; exact r
theorem law3 (cs : List Cm) (a b : Nat) (ha : a < cs.length) (hb : b < cs.length) (i : Nat) (hi : i < cs.length) (h1 : (i : Int) ∈ idxF (ancF cs a) 0) (h2 : (i : Int) ∈ idxF (ancF cs b) 0) : (i : Int) ≤ comF (ancF cs a) (ancF cs b) cs.length := by
  rw [mem_anc cs a ha, ← on_anc cs a ha] at h1
  rw [mem_anc cs b hb, ← on_anc cs b hb] at h2
  exact (comF_spec _ _ _).2.1 i hi h1 h2
theorem law4 (cs : List Cm) (a b : Nat) (ha : a < cs.length) (hb : b < cs.length) : -1 ≤ comF (ancF cs a) (ancF cs b) cs.length ∧ (0 ≤ comF (ancF cs a) (ancF cs b) cs.length → comF (ancF cs a) (ancF cs b) cs.length ∈ idxF (ancF cs a) 0 ∧ comF (ancF cs a) (ancF cs b) cs.length ∈ idxF (ancF cs b) 0) ∧ comF (ancF cs b) (ancF cs a) cs.length = comF (ancF cs a) (ancF cs b) cs.length := by
  obtain ⟨h1, h2, h3⟩ := comF_spec (ancF cs a) (ancF cs b) cs.length
  refine ⟨h1, fun h => ?_, comF_comm _ _ _⟩
  obtain ⟨i, e, hi, x, y⟩ := h3 h
  rw [e, mem_anc cs a ha, mem_anc cs b hb, ← on_anc cs a ha, ← on_anc cs b hb]
  exact ⟨x, y⟩
theorem law5 (cs : List Cm) (a b : Nat) (ha : a < cs.length) (hb : b < cs.length) : decide ((a : Int) ∈ idxF (ancF cs b) 0) = (comF (ancF cs a) (ancF cs b) cs.length == a) := by
  obtain ⟨h1, h2, h3⟩ := comF_spec (ancF cs a) (ancF cs b) cs.length
  rw [Bool.eq_iff_iff, decide_eq_true_iff, mem_anc cs b hb, beq_iff_eq]
  constructor
  · intro h
    have x := h2 a ha ((on_anc cs a ha a).2 (.refl _)) ((on_anc cs b hb a).2 h)
    obtain ⟨i, e, hi, y, z⟩ := h3 (by omega)
    have := ((on_anc cs a ha i).1 y).le
    omega
  · intro h
    obtain ⟨i, e, hi, y, z⟩ := h3 (by omega)
    have : i = a := by omega
    subst this
    exact (on_anc cs b hb i).1 z
theorem law5' (cs : List Cm) (a b : Nat) (ha : a < cs.length) (hb : b < cs.length) : decide ((b : Int) ∈ idxF (ancF cs a) 0) = (comF (ancF cs a) (ancF cs b) cs.length == b) := by
  rw [comF_comm]; exact law5 cs b a hb ha
theorem law6 (cs : List Cm) (a : Nat) : ∃ l : List Int, (chF cs a).reverse = l ++ [(a : Int)] := ⟨_, by rw [chF, List.reverse_cons]⟩
end Go.AL
