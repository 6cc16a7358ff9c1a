/-
  An operation that turns no memory: all of them together ('apure').
-/
import Derived.Test.YthackdgnkilhnaaGreatDoorAl3e
set_option linter.unusedSimpArgs false
set_option linter.unusedVariables false
namespace Go.AL
open Go.RowKit

def bpure {α : Type} [CK α] (P : Program) (h : Heap) (f : Operand → PV) : Op → Option (PV × α)
  | .binOp .eql t x y _ => match aeqv P t (f x) (f y) with
    | some (b, c) => some (.sc (.bool b), c)
    | none => none
  | .binOp .neq t x y _ => match aeqv P t (f x) (f y) with
    | some (b, c) => some (.sc (.bool !b), c)
    | none => none
  | .binOp .add _ x y _ => match f x, f y with
    | .sc (.string a), .sc (.string b) => some (.sc (.string (a ++ b)), CK.cnd (a.size + b.size ≤ maxLen))
    | _, _ => none
  | .lookup t m k ok => alookup P h t ok (f m) (f k)
  | .slice t x lo hi mx => match telem P t, f x with
    | some e, .nil => if (tsize P e).isSome then
        match mx with
        | none => match abound (hi.map f) 0 0 with
          | some (b, c) => match abound (lo.map f) b 0 with
            | some (_, c') => some (.nil, CK.both (CK.cnd (b = 0)) (CK.both c c'))
            | none => none
          | none => none
        | some m => match abound (some (f m)) 0 0 with
          | some (d, c0) => match abound (hi.map f) d d with
            | some (b, c) => match abound (lo.map f) b 0 with
              | some (_, c') => some (.nil, CK.both (CK.cnd (hi.isSome ∧ d = 0)) (CK.both c0 (CK.both c c')))
              | none => none
            | none => none
          | none => none
      else none
    | _, _ => none
  | _ => none

/-- An operation that turns no memory: what it yields, and on what condition. -/
def apure {α : Type} [CK α] (P : Program) (h : Heap) (f : Operand → PV) (op : Op) : Option (PV × α) :=
  match apure0 P h f op with
  | some r => some r
  | none => bpure P h f op

section
variable {P : Program} {S : St}

theorem bpure_ok {ρ : Operand → Value} {f : Operand → PV} {o : Oper} {p : PV} {c : Prop} (hS : SRel S) (hx : ∀ x ∈ o.op.operands, VRel S (f x) (ρ x))
    (he : bpure P S.h f o.op = some (p, c)) (hc : c) : ∃ v, (execOp ρ o).run P S.w = .ok (.value v) S.w ∧ VRel S p v := by
  have fin : ∀ {s : Sem Value}, (∃ z, s.run P S.w = .ok z S.w ∧ VRel S p z) → ∃ v, Sem.run P (do pure (.value (← s)) : Sem Next) S.w = .ok (.value v) S.w ∧ VRel S p v := fun ⟨z, hz, hr⟩ => ⟨z, by simp only [Sem.run_bind, hz, Result.andThen_ok, Sem.run_pure], hr⟩
  unfold execOp
  unfold bpure at he
  split at he
  · rename_i t x y _ hop
    rw [hop] at hx
    rw [hop]
    split at he
    · rename_i b c' hb
      cases he
      exact fin ⟨_, (aeqv_ok (x := x) (y := y) hb hc (hx x (by simp [Op.operands])) (hx y (by simp [Op.operands]))).1, .sc trivial⟩
    · cases he
  · rename_i t x y _ hop
    rw [hop] at hx
    rw [hop]
    split at he
    · rename_i b c' hb
      cases he
      exact fin ⟨_, (aeqv_ok (x := x) (y := y) hb hc (hx x (by simp [Op.operands])) (hx y (by simp [Op.operands]))).2, .sc trivial⟩
    · cases he
  · rename_i t x y _ hop
    rw [hop] at hx
    rw [hop]
    have h1 := hx x (by simp [Op.operands])
    have h2 := hx y (by simp [Op.operands])
    split at he
    · rename_i a b ha hb
      cases he
      rw [ha] at h1
      rw [hb] at h2
      simp only [ckmk] at hc
      refine fin ⟨.string (a ++ b), ?_, .sc ?_⟩
      · generalize ρ x = u at h1
        generalize ρ y = v at h2
        cases h1; cases h2
        have : ¬ ((a.size + b.size : Nat) : Int) > IntKind.i64.max := by
          have : (maxLen : Int) ≤ IntKind.i64.max := by decide
          omega
        simp only [eqGuard, binOp, Op.stringOp, if_neg this]
        rfl
      · show (a ++ b).size ≤ maxLen
        rw [ByteArray.size_append]; exact hc
    · cases he
  · rename_i t m k ok hop
    rw [hop] at hx
    rw [hop]
    exact fin (alookup_ok hS he (hx m (by simp [Op.operands])) (hx k (by simp [Op.operands])))
  · rename_i t x lo hi mx hop
    rw [hop] at hx
    rw [hop]
    split at he
    case h_2 => cases he
    rename_i e hte hfx
    split at he
    case isFalse => cases he
    rename_i hsz
    obtain ⟨k, hk⟩ := Option.isSome_iff_exists.1 hsz
    have hxx := hx x (by simp [Op.operands])
    rw [hfx] at hxx
    have hu : P.underlying t = some (.slice e) := telem_inv hte
    have hxe : ρ x = .slice none 0 0 := by generalize ρ x = u at hxx; cases hxx; rfl
    have ol : ORel S (lo.map f) (lo.map ρ) := opt_rel fun o ho => hx o (by subst ho; simp [Op.operands])
    have oh : ORel S (hi.map f) (hi.map ρ) := opt_rel fun o ho => hx o (by subst ho; simp [Op.operands])
    cases mx with
    | none =>
      simp only [] at he
      split at he
      · rename_i b c1 hb
        split at he
        · rename_i a c2 ha
          cases he
          simp only [ckmk, ckand] at hc
          obtain ⟨rfl, hc1, hc2⟩ := hc
          obtain ⟨e1, e2, e3⟩ := run_bounds2 (P := P) (S := S) (isS := true) (Nat.le_refl 0) hb ha hc1 hc2 oh ol
          have : a = 0 := by omega
          subst this
          exact fin ⟨.slice none 0 0, by simp [Instr.sliceAt, Instr.slice, run_underlying hu, hxe, e1, run_sizeOf' hk], .nil⟩
        · cases he
      · cases he
    | some m =>
      simp only [] at he
      have om := hx m (by simp [Op.operands])
      split at he
      · rename_i d c0 hd
        split at he
        · rename_i b c1 hb
          split at he
          · rename_i a c2 ha
            cases he
            simp only [ckmk, ckand] at hc
            obtain ⟨⟨hhi, rfl⟩, hc0, hc1, hc2⟩ := hc
            obtain ⟨e1, e2, e3, e4⟩ := run_bounds3 (P := P) (S := S) (Nat.le_refl 0) hd hb ha hc0 hc1 hc2 om oh ol (by simpa using hhi)
            have : a = 0 := by omega
            subst this
            have : b = 0 := by omega
            subst this
            exact fin ⟨.slice none 0 0, by simp [Instr.sliceAt, Instr.slice, run_underlying hu, hxe, e1, run_sizeOf' hk], .nil⟩
          · cases he
        · cases he
      · cases he
  · cases he

theorem apure_ok {ρ : Operand → Value} {f : Operand → PV} {o : Oper} {p : PV} {c : Prop} (hS : SRel S) (hx : ∀ x ∈ o.op.operands, VRel S (f x) (ρ x))
    (he : apure P S.h f o.op = some (p, c)) (hc : c) : ∃ v, (execOp ρ o).run P S.w = .ok (.value v) S.w ∧ VRel S p v := by
  unfold apure at he
  split at he
  · rename_i r hr
    cases he
    exact apure0_ok hS hx hr hc
  · exact bpure_ok hS hx he hc
end
end Go.AL
