/-
  'aown': an append whose new row the call may write; an append of nothing.
-/
import Derived.Test.YthackdgnkilhnaaGreatDoorAl7b
import Derived.Test.YthackdgnkilhnaaGreatDoorAl11
set_option linter.unusedSimpArgs false
set_option linter.unusedVariables false
namespace Go.AL
open Go.RowKit

def emptyTs : PV → Option PV
  | .nil => some .nil
  | .tc k els => some (.tc k els)
  | _ => none

def ownDst (k : Nat) : PV → Option (List (List PV))
  | .nil => some []
  | .tc k' els => if k' = k then some els else none
  | _ => none

def aown (P : Program) (h : Heap) (f : Operand → PV) : Op → Option (PV × Heap)
  | .call c => match c.callee, c.args.toList, c.argTypes.toList with
    | .builtin .append, [s, x], [t, t'] => if t = t' then match tapp P t with
      | some (e, k, b) => match asSrc h k (f x) with
        | some [] => match emptyTs (f s) with
          | some p => some (p, h)
          | none => none
        | some (y :: ys) => match ownDst k (f s), tzero P e with
          | some els, some z => if shaped (ofC z) ∧ (els.length + (ys.length + 1)) * b ≤ 140737488355328 ∧ els.length + (ys.length + 1) ≤ 140737488355328 then
              some (.ms h.length 0 k (els.length + (ys.length + 1)), h ++ [.var e (els ++ y :: ys).flatten]) else none
          | _, _ => none
        | none => none
      | none => none
      else none
    | _, _, _ => none
  | _ => none

theorem nil_tc (k : Nat) {S : St} {v : Value} (h : VRel S .nil v) : VRel S (.tc k []) v := by
  have := PLe.nil_ts k S v h
  cases h
  exact .tc this

theorem append_nothing {P : Program} {S : St} (hS : SRel S) {t ty e : TypeId} {k b : Nat} {p q : PV} {u v : Value} (ht : tapp P t = some (e, k, b)) (hp : p = .nil ∨ ∃ els k', p = .tc k' els) (hu : VRel S p u)
    (hq : asSrc S.h k q = some []) (hv : VRel S q v) : (Builtin.append_ #[t, t] ty #[u, v]).run P S.w = .ok u S.w := by
  obtain ⟨htu, i, zv, hi, hz, hsz, hby, hzs, hk0⟩ := tapp_inv ht
  obtain ⟨a, c, news, rfl, hsrc⟩ := src_ok hS hq hv hk0
  obtain ⟨a1, n1, c1, rfl, g1⟩ : ∃ a1 n1 c1, u = .slice a1 n1 c1 ∧ n1 ≤ c1 := by
    rcases hp with rfl | ⟨els, k', rfl⟩
    · cases hu; exact ⟨none, 0, 0, rfl, Nat.le_refl _⟩
    · cases hu with
      | tc ht =>
        obtain ⟨a1, c1, ad1, val1, he, g1, _⟩ := ts_inv ht
        cases he
        exact ⟨_, _, _, rfl, Nat.le_refl _⟩
  simp [Builtin.append_, run_underlying htu, sizeOf, typeInfo, hi, Builtin.lenOf, Builtin.firstCells, g1]
  cases a <;> cases a1 <;> simp [Builtin.firstCells, loadCells, loadCellsFrom, storeCells]

section
variable {P : Program} {G : Glob} {rd : Option Nat}

theorem OpOk.of_own {o : Oper} {h h' : Heap} {f : Operand → PV} {p : PV} {R : PV → Heap → Prop} (he : aown P h f o.op = some (p, h')) (hr : R p h') : OpOk P G rd o h f R := by
  refine .of_run (fun c hop => by rw [hop] at he; cases he) fun φ w X ρ hS _ hx => ?_
  cases hop : o.op with
  | call cl =>
    rw [hop] at he hx
    simp only [aown] at he
    split at he
    case h_2 => cases he
    rename_i s y t t' hcl hca hct
    split at he
    case isFalse => cases he
    rename_i htt
    subst htt
    have e1 := arr_eq hca
    have e2 := arr_eq hct
    have hs := hx s (by simp [Op.operands, Call.operands, hcl, e1])
    have hy := hx y (by simp [Op.operands, Call.operands, hcl, e1])
    have run : ∀ {z : Value} {w' : World}, (Builtin.append_ #[t, t] o.type #[ρ s, ρ y]).run P w = .ok z w' → (execOp ρ o).run P w = .ok (.value z) w' := by
      intro z w' hr
      simp [execOp, hop, resolve, invoke, builtin, hcl, e1, e2, hr]
    split at he
    case h_2 => cases he
    rename_i e k b ht
    split at he
    · rename_i hxs
      split at he
      · rename_i p' hp'
        cases he
        have hcase : f s = .nil ∨ ∃ els k', f s = .tc k' els := by
          unfold emptyTs at hp'
          split at hp'
          · exact .inl (by assumption)
          · exact .inr ⟨_, _, by assumption⟩
          · cases hp'
        have hps : p = f s := by
          unfold emptyTs at hp'
          split at hp' <;> cases hp' <;> simp_all
        subst hps
        exact ⟨φ, _, w, _, ρ s, run (append_nothing (P := P) (S := ⟨φ, h, w, X⟩) hS ht hcase hs hxs hy), Ext.refl _, hS, hs, hr⟩
      · cases he
    · rename_i y0 ys hxs
      split at he
      · rename_i els z hd hz
        split at he
        · rename_i hcond
          obtain ⟨hsh, hb1, hb2⟩ := hcond
          cases he
          have hu : VRel ⟨φ, h, w, X⟩ (.tc k els) (ρ s) := by
            unfold ownDst at hd
            split at hd
            · rename_i hfs; cases hd; rw [hfs] at hs; exact nil_tc k hs
            · rename_i k' els' hfs
              split at hd
              · rename_i hk; subst hk; cases hd; rw [hfs] at hs; exact hs
              · cases hd
            · cases hd
          obtain ⟨v, w', φ', hrun, x, hS', hv⟩ := append_own (P := P) (S := ⟨φ, h, w, X⟩) (ty := o.type) hS ht hu hxs hy (by simpa using hb1) (by simpa using hb2) (by simp) hz hsh
          exact ⟨φ', _, w', _, v, run hrun, x, hS', hv, hr⟩
        · cases he
      · cases he
    · cases he
  | _ => rw [hop] at he; cases he
end
end Go.AL
