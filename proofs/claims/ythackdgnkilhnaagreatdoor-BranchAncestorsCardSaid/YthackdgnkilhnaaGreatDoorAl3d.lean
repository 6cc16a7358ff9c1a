/-
  'apure0_ok'.
-/
import Derived.Test.YthackdgnkilhnaaGreatDoorAl3c
set_option linter.unusedSimpArgs false
set_option linter.unusedVariables false
namespace Go.AL
open Go.RowKit
section
variable {P : Program} {S : St}

theorem map_rel {f : Operand → PV} {ρ : Operand → Value} (l : Array Operand) (h : ∀ x ∈ l, VRel S (f x) (ρ x)) :
    (l.map ρ).size = (l.toList.map f).length ∧ ∀ (i : Nat) (p : PV) (v : Value), (l.toList.map f)[i]? = some p → (l.map ρ)[i]? = some v → VRel S p v := by
  refine ⟨by simp, fun i p v hp hv => ?_⟩
  rw [List.getElem?_map] at hp
  rw [Array.getElem?_map] at hv
  cases hk : l[i]? with
  | none => rw [hk] at hv; cases hv
  | some x =>
    have hk' : l.toList[i]? = some x := by simpa using hk
    rw [hk] at hv
    rw [hk'] at hp
    cases hv; cases hp
    obtain ⟨hi, rfl⟩ := Array.getElem?_eq_some_iff.1 hk
    exact h _ (Array.getElem_mem hi)

theorem arr_eq {α : Type} {a : Array α} {l : List α} (h : a.toList = l) : a = l.toArray := by cases a; simpa using h

theorem apure0_ok {ρ : Operand → Value} {f : Operand → PV} {o : Oper} {p : PV} {c : Prop} (hS : SRel S) (hx : ∀ x ∈ o.op.operands, VRel S (f x) (ρ x))
    (he : apure0 P S.h f o.op = some (p, c)) (hc : c) : ∃ v, (execOp ρ o).run P S.w = .ok (.value v) S.w ∧ VRel S p v := by
  have fin : ∀ {s : Sem Value}, (∃ z, s.run P S.w = .ok z S.w ∧ VRel S p z) → ∃ v, Sem.run P (do pure (.value (← s)) : Sem Next) S.w = .ok (.value v) S.w ∧ VRel S p v := fun ⟨z, hz, hr⟩ => ⟨z, by simp only [Sem.run_bind, hz, Result.andThen_ok, Sem.run_pure], hr⟩
  unfold execOp
  cases hop : o.op with
  | move x =>
    rw [hop] at he hx
    cases he
    exact ⟨_, rfl, hx x (by simp [Op.operands])⟩
  | assign x =>
    rw [hop] at he hx
    cases he
    exact ⟨_, rfl, hx x (by simp [Op.operands])⟩
  | pick t a b =>
    rw [hop] at he hx
    simp only [apure0, ckmk, ckand] at he
    split at he
    · rename_i bb hb
      cases he
      have h1 := hx t (by simp [Op.operands])
      rw [hb] at h1
      refine ⟨if bb then ρ a else ρ b, ?_, pickPV_rel (hx a (by simp [Op.operands])) (hx b (by simp [Op.operands]))⟩
      have h2 : ρ t = .bool bb := by generalize ρ t = u at h1; cases h1; rfl
      cases bb <;> simp [asBool, h2]
    · cases he
  | nilCheck x =>
    rw [hop] at he hx
    simp only [apure0, ckmk, ckand] at he
    have h1 := hx x (by simp [Op.operands])
    split at he
    all_goals first
      | cases he; done
      | (rename_i hfx
         cases he
         rw [hfx] at h1
         simp only []
         generalize ρ x = u at h1 ⊢
         cases h1 <;> first
           | exact ⟨_, rfl, by assumption⟩
           | exact ⟨_, rfl, .optr (by assumption)⟩
           | (refine ⟨_, rfl, ?_⟩; first | exact .ptr (by assumption) (by assumption) | exact .tp _ (by assumption) (by assumption) | exact .fn (by assumption) (by assumption) (by assumption) (by assumption) | exact .yl (by assumption) (by assumption) | exact .ifc (by assumption)))
  | binOp op t x y yt =>
    rw [hop] at he hx
    simp only [apure0, ckmk, ckand] at he
    exact fin (abin_ok he hc (hx x (by simp [Op.operands])) (hx y (by simp [Op.operands])))
  | unOp op t x =>
    rw [hop] at he hx
    simp only [apure0, ckmk, ckand] at he
    refine fin ?_
    have h1 := hx x (by simp [Op.operands])
    split at he
    · rename_i b hfx
      cases he
      rw [hfx] at h1
      generalize ρ x = u at h1 ⊢
      cases h1
      exact ⟨_, rfl, .sc trivial⟩
    · rename_i k n hfx
      cases he
      rw [hfx] at h1
      generalize ρ x = u at h1 ⊢
      cases h1
      exact ⟨_, rfl, .sc (ok_wrap _ _)⟩
    · rename_i k n hfx
      cases he
      rw [hfx] at h1
      generalize ρ x = u at h1 ⊢
      cases h1
      exact ⟨_, rfl, .sc (ok_bits _ _ _ _)⟩
    · cases he
  | convert s d x =>
    rw [hop] at he hx
    simp only [apure0, ckmk, ckand] at he
    refine fin ?_
    have h1 := hx x (by simp [Op.operands])
    split at he
    · rename_i k ik n hti hfx
      split at he
      case isFalse => cases he
      rename_i hu
      cases he
      rw [hfx] at h1
      generalize ρ x = u at h1 ⊢
      cases h1
      obtain ⟨ds, hds⟩ := Option.isSome_iff_exists.1 hu
      refine ⟨.int k (k.wrap n), ?_, .sc (ok_wrap _ _)⟩
      simp [convert, run_underlying hds, run_underlying (tint_inv hti), Conv.intToInt]
    · rename_i b hfx
      split at he
      case isFalse => cases he
      rename_i hu
      cases he
      rw [hfx] at h1
      generalize ρ x = u at h1 ⊢
      cases h1 with | sc hb =>
      obtain ⟨ds, hds⟩ := Option.isSome_iff_exists.1 hu.2
      refine ⟨.string b, ?_, .sc hb⟩
      simp [convert, run_underlying hds, run_underlying (tstr_inv hu.1)]
    · cases he
  | makeInterface t x =>
    rw [hop] at he hx
    simp only [apure0, ckmk, ckand] at he
    split at he
    case isFalse => cases he
    rename_i ht
    cases he
    refine fin ⟨.iface t (ρ x), ?_, .ifc (hx x (by simp [Op.operands]))⟩
    unfold tiface at ht
    split at ht
    · cases ht
    · rename_i d hne hd
      simp only [Instr.makeInterface, Sem.run_bind, run_underlying hd, Result.andThen_ok]
      rfl
    · cases ht
  | makeFunc fn a b =>
    rw [hop] at he hx
    cases he
    obtain ⟨h1, h2⟩ := map_rel (S := S) (f := f) (ρ := ρ) a (fun x hxm => hx x (by simp [Op.operands, hxm]))
    obtain ⟨h3, h4⟩ := map_rel (S := S) (f := f) (ρ := ρ) b (fun x hxm => hx x (by simp [Op.operands, hxm]))
    exact fin ⟨_, rfl, .fn h1 h3 h2 h4⟩
  | field t x i =>
    rw [hop] at he hx
    simp only [apure0, ckmk, ckand] at he
    exact fin (field_ok he hc (hx x (by simp [Op.operands])))
  | fieldAddr t x i =>
    rw [hop] at he hx
    simp only [apure0, ckmk, ckand] at he
    exact fin (fieldAddr_ok he (hx x (by simp [Op.operands])))
  | indexAddr t x i =>
    rw [hop] at he hx
    simp only [apure0, ckmk, ckand] at he
    exact fin (indexAddr_ok he hc (hx x (by simp [Op.operands])) (hx i (by simp [Op.operands])))
  | index t x i =>
    rw [hop] at he hx
    simp only [apure0, ckmk, ckand] at he
    exact fin (index_ok he hc (hx x (by simp [Op.operands])) (hx i (by simp [Op.operands])))
  | load t x =>
    rw [hop] at he hx
    simp only [apure0, ckmk, ckand] at he
    exact fin (load_ok hS he hc (hx x (by simp [Op.operands])))
  | extract x i =>
    rw [hop] at he hx
    simp only [apure0, ckmk, ckand] at he
    refine fin ?_
    have h1 := hx x (by simp [Op.operands])
    split at he
    · rename_i vs hfx
      cases he
      rw [hfx] at h1
      generalize ρ x = u at h1 ⊢
      cases h1 with
      | tup hl h =>
        rename_i us
        have hv : us[i]? = some us[i] := Array.getElem?_eq_getElem (by omega)
        have hp : vs[i]? = some vs[i] := List.getElem?_eq_getElem hc
        refine ⟨us[i], by simp [Instr.extract, hv], ?_⟩
        rw [List.getD_eq_getElem?_getD, hp]
        exact h i _ _ hp hv
    · cases he
  | slice t x lo hi mx =>
    rw [hop] at he hx
    exact fin (slice_ok hS he hc (hx x (by simp [Op.operands])) (fun o ho => hx o (by subst ho; simp [Op.operands])) (fun o ho => hx o (by subst ho; simp [Op.operands])) (fun o ho => hx o (by subst ho; simp [Op.operands])))
  | call cl =>
    rw [hop] at he hx
    simp only [apure0, ckmk, ckand] at he
    split at he
    · rename_i x t hcl hca hct
      obtain ⟨z, hz, hr⟩ := len_ok (P := P) (S := S) (ty := o.type) he (hx x (by simp [Op.operands, Call.operands, hcl]; rw [← Array.mem_toList_iff, hca]; simp))
      refine ⟨z, ?_, hr⟩
      have e1 : cl.args = #[x] := arr_eq hca
      have e2 : cl.argTypes = #[t] := arr_eq hct
      simp [resolve, invoke, builtin, hcl, e1, e2, hz]
    · rename_i _ x y hcl hca
      have e1 : cl.args = #[x, y] := arr_eq hca
      have h1 := hx x (by simp [Op.operands, Call.operands, hcl, e1])
      have h2 := hx y (by simp [Op.operands, Call.operands, hcl, e1])
      split at he
      case h_2 => cases he
      rename_i k a k' b hfx hfy
      split at he
      case isFalse => cases he
      rename_i hk
      subst hk
      cases he
      rw [hfx] at h1
      rw [hfy] at h2
      have g1 : ρ x = .int k a ∧ okSc (.int k a) := by generalize ρ x = u at h1; cases h1; exact ⟨rfl, by assumption⟩
      have g2 : ρ y = .int k b ∧ okSc (.int k b) := by generalize ρ y = u at h2; cases h2; exact ⟨rfl, by assumption⟩
      refine ⟨_, ?_, .sc (by split; exact g2.2; exact g1.2)⟩
      simp [resolve, invoke, builtin, hcl, e1, g1.1, g2.1, Builtin.max_, Builtin.max2]
    · rename_i _ x y hcl hca
      have e1 : cl.args = #[x, y] := arr_eq hca
      have h1 := hx x (by simp [Op.operands, Call.operands, hcl, e1])
      have h2 := hx y (by simp [Op.operands, Call.operands, hcl, e1])
      split at he
      case h_2 => cases he
      rename_i k a k' b hfx hfy
      split at he
      case isFalse => cases he
      rename_i hk
      subst hk
      cases he
      rw [hfx] at h1
      rw [hfy] at h2
      have g1 : ρ x = .int k a ∧ okSc (.int k a) := by generalize ρ x = u at h1; cases h1; exact ⟨rfl, by assumption⟩
      have g2 : ρ y = .int k b ∧ okSc (.int k b) := by generalize ρ y = u at h2; cases h2; exact ⟨rfl, by assumption⟩
      refine ⟨_, ?_, .sc (by split; exact g2.2; exact g1.2)⟩
      simp [resolve, invoke, builtin, hcl, e1, g1.1, g2.1, Builtin.min_, Builtin.min2]
    · cases he
  | _ => rw [hop] at he; cases he
end
end Go.AL
