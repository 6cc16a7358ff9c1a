/-
  Each operation of 'apure0' is what the model does.
-/
import Derived.Test.YthackdgnkilhnaaGreatDoorAl2
set_option linter.unusedSimpArgs false
set_option linter.unusedVariables false
namespace Go.AL
open Go.RowKit

theorem wrap_in (k : IntKind) (n : Int) : k.min ≤ k.wrap n ∧ k.wrap n ≤ k.max := by
  cases k <;> simp only [IntKind.wrap, IntKind.min, IntKind.max, IntKind.signed, IntKind.bits] <;> constructor <;> simp <;> (try split) <;> omega

theorem ok_wrap (k : IntKind) (n : Int) : okSc (.int k (k.wrap n)) := wrap_in k n

theorem ok_bits (op : BinOp) (k : IntKind) (a b : Int) : okSc (.int k (bits op k a b)) := by
  unfold bits; exact wrap_in k _

theorem kmin_le (k : IntKind) : k.min ≤ 0 := by cases k <;> decide
theorem kmax_ge (k : IntKind) : 0 ≤ k.max := by cases k <;> decide

theorem ok_tmod {k : IntKind} {a b : Int} (h : okSc (.int k a)) : okSc (.int k (a.tmod b)) := by
  simp only [okSc] at h ⊢
  have h1 := kmin_le k
  have h2 := kmax_ge k
  rcases Int.le_total 0 a with ha | ha
  · have p := Int.tmod_nonneg b ha
    have q : a.tmod b ≤ a := by
      obtain ⟨n, rfl⟩ := Int.eq_ofNat_of_zero_le ha
      rcases Int.le_total 0 b with hb | hb
      · obtain ⟨m, rfl⟩ := Int.eq_ofNat_of_zero_le hb
        exact Int.ofNat_le.2 (Nat.mod_le n m)
      · obtain ⟨m, hm⟩ := Int.eq_ofNat_of_zero_le (Int.neg_nonneg_of_nonpos hb)
        rw [show b = -(m : Int) by omega, Int.tmod_neg]
        exact Int.ofNat_le.2 (Nat.mod_le n m)
    omega
  · obtain ⟨n, hn⟩ := Int.eq_ofNat_of_zero_le (Int.neg_nonneg_of_nonpos ha)
    have e : a = -(n : Int) := by omega
    subst e
    rw [Int.neg_tmod]
    have : 0 ≤ (n : Int).tmod b := Int.tmod_nonneg b (by omega)
    have q : (n : Int).tmod b ≤ n := by
      rcases Int.le_total 0 b with hb | hb
      · obtain ⟨m, rfl⟩ := Int.eq_ofNat_of_zero_le hb
        exact Int.ofNat_le.2 (Nat.mod_le n m)
      · obtain ⟨m, hm⟩ := Int.eq_ofNat_of_zero_le (Int.neg_nonneg_of_nonpos hb)
        rw [show b = -(m : Int) by omega, Int.tmod_neg]
        exact Int.ofNat_le.2 (Nat.mod_le n m)
    omega

theorem ok_shr {k : IntKind} {a : Int} {m : Nat} (h : okSc (.int k a)) : okSc (.int k (a / 2 ^ m)) := by
  simp only [okSc] at h ⊢
  have h1 := kmin_le k
  have h2 := kmax_ge k
  have hp : (0 : Int) < 2 ^ m := Int.pow_pos (by omega)
  rcases Int.le_total 0 a with ha | ha
  · have p : 0 ≤ a / 2 ^ m := Int.ediv_nonneg ha (Int.le_of_lt hp)
    have q : a / 2 ^ m ≤ a := Int.ediv_le_self _ ha
    omega
  · have q : a / 2 ^ m ≤ 0 := Int.ediv_nonpos_of_nonpos_of_neg ha hp
    have p : a ≤ a / 2 ^ m := by
      have h3 : a * 2 ^ m ≤ a := by
        have := Int.mul_nonneg (show 0 ≤ -a by omega) (show 0 ≤ (2 : Int) ^ m - 1 by omega)
        rw [Int.mul_sub, Int.neg_mul, Int.mul_one] at this
        omega
      exact (Int.le_ediv_iff_mul_le hp).2 h3
    omega

theorem shift_shl_any (k yk : IntKind) (x y : Int) (h : 0 ≤ y) : Op.shift .shl k x yk y = pure (.int k (k.wrap (x * 2 ^ min y.toNat k.bits))) := by
  simp only [Op.shift]; rw [if_neg (by omega)]
theorem shift_shr_any (k yk : IntKind) (x y : Int) (h : 0 ≤ y) : Op.shift .shr k x yk y = pure (.int k (x / 2 ^ min y.toNat k.bits)) := by
  simp only [Op.shift]; rw [if_neg (by omega), Int.fdiv_eq_ediv_of_nonneg _ (Int.pow_nonneg (by omega))]

theorem toList_beq (a b : ByteArray) : (a.toList == b.toList) = decide (a = b) := by
  rw [Bool.eq_iff_iff, beq_iff_eq, decide_eq_true_iff, ByteArray.toList_eq, ByteArray.toList_eq]
  constructor
  · intro h
    cases a; cases b
    simpa using h
  · rintro rfl; rfl

theorem run_equalIn_bool {P : Program} {t : TypeId} (h : P.underlying t = some .bool) (d : Nat) (a b : Bool) (w : World) : (Op.equalIn (d + 1) t (.bool a) (.bool b)).run P w = .ok (a == b) w := by
  simp only [Op.equalIn, Sem.run_bind, run_underlying h, Result.andThen_ok, Sem.run_pure]

theorem run_eql_bool {P : Program} {t : TypeId} (h : P.underlying t = some .bool) (a b : Bool) (w : World) : (binOp .eql t (.bool a) (.bool b)).run P w = .ok (.bool (a == b)) w := by
  simp only [binOp, Op.equal, Op.maxDepth, Sem.run_bind, run_equalIn_bool h 9999, Result.andThen_ok, Sem.run_pure]

theorem run_neq_bool {P : Program} {t : TypeId} (h : P.underlying t = some .bool) (a b : Bool) (w : World) : (binOp .neq t (.bool a) (.bool b)).run P w = .ok (.bool (a != b)) w := by
  simp only [binOp, Op.equal, Op.maxDepth, Sem.run_bind, run_equalIn_bool h 9999, Result.andThen_ok, Sem.run_pure, bne]

theorem abin_ok {P : Program} {S : St} {op : BinOp} {t : TypeId} {x y : Operand} {p q r : PV} {c : Prop} {u v : Value}
    (h : abin P t op p q = some (r, c)) (hc : c) (hu : VRel S p u) (hv : VRel S q v) :
    ∃ z, ((do eqGuard op t x y u v; binOp op t u v : Sem Value)).run P S.w = .ok z S.w ∧ VRel S r z := by
  unfold abin at h
  simp only [ckmk, ckand] at h
  split at h
  · rename_i k a k' b
    cases hu with | sc ha =>
    cases hv with | sc hb =>
    split at h
    · cases h
      refine ⟨_, ?_, .sc (ok_wrap _ _)⟩
      simp [eqGuard_shl, binOp_shl, shift_shl_any _ _ _ _ hc]
    · cases h
      refine ⟨_, ?_, .sc (ok_shr ha)⟩
      simp [eqGuard_shr, binOp_shr, shift_shr_any _ _ _ _ hc]
    all_goals
      split at h
      case isFalse => cases h
      rename_i hk
      subst hk
      cases h
    · exact ⟨_, by simp [eqGuard_add, binOp_add, Op.intArith], .sc (ok_wrap _ _)⟩
    · exact ⟨_, by simp [eqGuard_sub, binOp_sub, Op.intArith], .sc (ok_wrap _ _)⟩
    · exact ⟨_, by simp [eqGuard_mul, binOp_mul, Op.intArith], .sc (ok_wrap _ _)⟩
    · exact ⟨_, by simp [eqGuard_quo, binOp_quo, Op.intDiv, hc], .sc (ok_wrap _ _)⟩
    · exact ⟨_, by simp [eqGuard_rem, binOp_rem, Op.intDiv, hc], .sc (ok_tmod ha)⟩
    · exact ⟨_, by simp [eqGuard_and, binOp_and, intBits_and], .sc (ok_bits _ _ _ _)⟩
    · exact ⟨_, by simp [eqGuard_or, binOp_or, intBits_or], .sc (ok_bits _ _ _ _)⟩
    · exact ⟨_, by simp [eqGuard_xor, binOp_xor, intBits_xor], .sc (ok_bits _ _ _ _)⟩
    · exact ⟨_, by simp [eqGuard_andNot, binOp_andNot, intBits_andNot], .sc (ok_bits _ _ _ _)⟩
    · exact ⟨_, by simp [eqGuard_at_int, binOp_eql], .sc trivial⟩
    · exact ⟨_, by simp [eqGuard_at_int, binOp_neq], .sc trivial⟩
    · exact ⟨_, by simp [eqGuard_lss, binOp_lss], .sc trivial⟩
    · exact ⟨_, by simp [eqGuard_leq, binOp_leq], .sc trivial⟩
    · exact ⟨_, by simp [eqGuard_gtr, binOp_gtr], .sc trivial⟩
    · exact ⟨_, by simp [eqGuard_geq, binOp_geq], .sc trivial⟩
  · rename_i a b
    cases hu; cases hv
    have bl : tbool P t = true → P.underlying t = some .bool := fun hb => by
      unfold tbool at hb
      split at hb
      · assumption
      · cases hb
    split at h
    · split at h
      · rename_i hb
        cases h
        exact ⟨_, by simp [eqGuard_at_bool, run_eql_bool (bl hb)], .sc trivial⟩
      · cases h
    · split at h
      · rename_i hb
        cases h
        exact ⟨.bool (a != b), by simp [eqGuard_at_bool, run_neq_bool (bl hb)], .sc trivial⟩
      · cases h
    · cases h
  · rename_i a b
    cases hu; cases hv
    split at h
    · cases h
      exact ⟨.bool (decide (a = b)), by rw [← toList_beq]; simp [eqGuard_at_string, binOp, Op.stringOp], .sc trivial⟩
    · cases h
      exact ⟨.bool (!decide (a = b)), by rw [← toList_beq]; simp [eqGuard_at_string, binOp, Op.stringOp], .sc trivial⟩
    · cases h
  · cases h

section
variable {P : Program} {S : St}

theorem run_isAgg {t : TypeId} {b : Bool} (h : tagg P t = some b) (w : World) : (isAgg t).run P w = .ok b w := by
  unfold tagg at h
  cases hd : P.underlying t with
  | none => rw [hd] at h; cases h
  | some d =>
    rw [hd] at h
    simp only [isAgg, Sem.run_bind, run_underlying hd, Result.andThen_ok]
    cases d <;> simp at h <;> subst h <;> rfl

theorem run_sizeOf' {t : TypeId} {s : Nat} (hs : tsize P t = some s) (w : World) : (sizeOf t).run P w = .ok s w := by
  unfold tsize at hs
  cases hi : P.info? t with
  | none => rw [hi] at hs; cases hs
  | some i =>
    rw [hi] at hs
    simp only [Option.map_some, Option.some.injEq] at hs
    subst hs
    simp [sizeOf, typeInfo, hi]

theorem run_loadFrom {a : Addr} (val : Nat → Value) : ∀ (n i : Nat) (acc : Array Value) (w : World), (∀ j, i ≤ j → j < i + n → w.cell? (a.add j) = some (val j)) →
    (loadCellsFrom a i n acc).run P w = .ok (acc ++ ((List.range' i n).map val).toArray) w := by
  intro n
  induction n with
  | zero => intro i acc w _; simp [loadCellsFrom]
  | succ n ih =>
    intro i acc w h
    simp only [loadCellsFrom, Sem.run_bind, run_load, h i (Nat.le_refl _) (by omega), Result.andThen_ok]
    rw [ih (i + 1) _ w (fun j hj hj' => h j (by omega) (by omega))]
    simp [List.range'_succ]

theorem run_loadVar_of {t : TypeId} {a : Addr} {cs : List PV} {p : PV} {c : Prop} (val : Nat → Value)
    (hv : ∀ j, j < cs.length → S.w.cell? (a.add j) = some (val j) ∧ (val j).oneCell' = true) (h : ∀ (j : Nat) (p : PV), cs[j]? = some p → VRel S p (val j))
    (he : ald P t cs = some (p, c)) (hc : c) : ∃ v, (loadVar t a).run P S.w = .ok v S.w ∧ VRel S p v := by
  unfold ald at he
  simp only [ckmk, ckand] at he
  split at he
  · rename_i s hs hg
    cases he
    refine ⟨.agg ((List.range' 0 s).map val).toArray, ?_, ?_⟩
    · simp only [loadVar, Sem.run_bind, run_isAgg hg, Result.andThen_ok, if_true, run_sizeOf' hs, loadCells]
      rw [run_loadFrom val s 0 #[] S.w (fun j _ hj => (hv j (by omega)).1)]
      simp
    · refine .agg (by simp; omega) (fun i v hi => ?_) (fun i p v hp hi => ?_)
      · simp at hi
        obtain ⟨k, hk, rfl⟩ := hi
        obtain ⟨hj, rfl⟩ := List.getElem?_eq_some_iff.1 hk
        simp at hj ⊢
        exact (hv i (by omega)).2
      · simp at hi
        obtain ⟨k, hk, rfl⟩ := hi
        obtain ⟨hj, rfl⟩ := List.getElem?_eq_some_iff.1 hk
        simp at hj ⊢
        rw [List.getElem?_take, if_pos hj] at hp
        exact h i p hp
  · rename_i s hs hg
    cases he
    refine ⟨val 0, ?_, ?_⟩
    · have := (hv 0 hc).1
      rw [Addr.add_zero'] at this
      simp [loadVar, run_isAgg hg, run_load, this]
    · have : cs[0]? = some cs[0] := List.getElem?_eq_getElem hc
      have e : cs.getD 0 .un = cs[0] := by rw [List.getD_eq_getElem?_getD, this]; rfl
      rw [e]
      exact h 0 _ this
  · cases he
end
end Go.AL
