/-
  'apure0_ok': whatever 'apure0' says of an operation holds of the model's.
-/
import Derived.Test.YthackdgnkilhnaaGreatDoorAl3
set_option linter.unusedSimpArgs false
set_option linter.unusedVariables false
namespace Go.AL
open Go.RowKit
section
variable {P : Program} {S : St}

theorem VRel.agg_inv {cs : List PV} {v : Value} (h : VRel S (.agg cs) v) : ∃ vs : Array Value, v = .agg vs ∧ vs.size = cs.length ∧ (∀ (i : Nat) (u : Value), vs[i]? = some u → u.oneCell' = true) ∧
    ∀ (i : Nat) (p : PV) (u : Value), cs[i]? = some p → vs[i]? = some u → VRel S p u := by
  cases h with | agg hl h1 h => exact ⟨_, rfl, hl, h1, h⟩

theorem tfield_inv {t : TypeId} {i off : Nat} {ft : TypeId} (h : tfield P t i = some (off, ft)) : ∃ (fs : Array Field) (f : Field), P.underlying t = some (.struct fs) ∧ fs[i]? = some f ∧ f.offset = off ∧ f.type = ft := by
  unfold tfield at h
  split at h
  · rename_i fs hu
    cases hf : fs[i]? with
    | none => rw [hf] at h; cases h
    | some f => rw [hf] at h; simp at h; exact ⟨fs, f, hu, hf, h.1, h.2⟩
  · cases h

theorem telem_inv {t e : TypeId} (h : telem P t = some e) : P.underlying t = some (.slice e) := by
  unfold telem at h
  split at h
  · cases h; assumption
  · cases h

theorem tarr_inv {t e : TypeId} {n : Nat} (h : tarr P t = some (n, e)) : P.underlying t = some (.array n e) := by
  unfold tarr at h
  split at h
  · cases h; assumption
  · cases h

theorem tstr_inv {t : TypeId} (h : tstr P t = true) : P.underlying t = some .string := by
  unfold tstr at h
  split at h
  · assumption
  · cases h

theorem tint_inv {t : TypeId} {k : IntKind} (h : tint P t = some k) : P.underlying t = some (.int k) := by
  unfold tint at h
  split at h
  · cases h; assumption
  · cases h

/-- A part of an aggregate. -/
theorem part_ok {t : TypeId} {cs : List PV} {vs : Array Value} {off : Nat} {p : PV} {c : Prop} (hl : vs.size = cs.length) (h1 : ∀ (i : Nat) (u : Value), vs[i]? = some u → u.oneCell' = true)
    (h : ∀ (i : Nat) (p : PV) (u : Value), cs[i]? = some p → vs[i]? = some u → VRel S p u)
    (he : (match tsize P t, tagg P t with
      | some s, some true => some (PV.agg ((cs.drop off).take s), off + s ≤ cs.length)
      | some _, some false => some (cs.getD off .un, off < cs.length)
      | _, _ => none) = some (p, c)) (hc : c) : ∃ v, (part t vs off).run P S.w = .ok v S.w ∧ VRel S p v := by
  split at he
  · rename_i s hs hg
    cases he
    refine ⟨.agg (vs.extract off (off + s)), by simp [part, run_isAgg hg, run_sizeOf' hs], .agg (by simp; omega) (fun i u hu => ?_) (fun i p u hp hu => ?_)⟩
    · rw [Array.getElem?_extract] at hu
      split at hu
      · exact h1 _ u hu
      · cases hu
    · rw [Array.getElem?_extract] at hu
      split at hu
      · rw [List.getElem?_take] at hp
        split at hp
        · rw [List.getElem?_drop] at hp; exact h _ p u hp hu
        · cases hp
      · cases hu
  · rename_i s hs hg
    cases he
    have hv : vs[off]? = some vs[off] := Array.getElem?_eq_getElem (by omega)
    have hp : cs[off]? = some cs[off] := List.getElem?_eq_getElem hc
    refine ⟨vs[off], by simp [part, run_isAgg hg, hv], ?_⟩
    rw [List.getD_eq_getElem?_getD, hp]
    exact h _ _ _ hp hv
  · cases he

theorem field_ok {t : TypeId} {i : Nat} {p q : PV} {c : Prop} {u : Value} (he : (match tfield P t i, q with
      | some (off, ft), .agg cs => (match tsize P ft, tagg P ft with
        | some s, some true => some (PV.agg ((cs.drop off).take s), off + s ≤ cs.length)
        | some _, some false => some (cs.getD off .un, off < cs.length)
        | _, _ => none)
      | _, _ => none) = some (p, c)) (hc : c) (hu : VRel S q u) : ∃ v, (Instr.field t u i).run P S.w = .ok v S.w ∧ VRel S p v := by
  split at he
  · rename_i off ft cs ht
    obtain ⟨fs, f, hus, hf, rfl, rfl⟩ := tfield_inv ht
    obtain ⟨vs, rfl, hl, h1, h⟩ := hu.agg_inv
    obtain ⟨v, hv, hr⟩ := part_ok (P := P) hl h1 h he hc
    exact ⟨v, by simp [Instr.field, run_underlying hus, hf, asAgg, hv], hr⟩
  · cases he

theorem add_add (a : Addr) (i j : Nat) : (a.add i).add j = a.add (i + j) := by
  unfold Addr.add
  by_cases hi : i = 0 <;> by_cases hj : j = 0 <;> simp [hi, hj, Nat.add_assoc]

theorem tp_drop {cs : List PV} {a : Addr} (h : VRel S (.tp cs) (.pointer (some a))) (n : Nat) : VRel S (.tp (cs.drop n)) (.pointer (some (a.add n))) := by
  cases h with
  | tp val hv h =>
    refine .tp (fun j => val (n + j)) (fun j hj => ?_) (fun j p hp => ?_)
    · rw [add_add]; exact hv _ (by simp at hj; omega)
    · rw [List.getElem?_drop] at hp; exact h _ p hp

theorem fieldAddr_ok {t : TypeId} {i : Nat} {p q : PV} {c : Prop} {u : Value} (he : (match tfield P t i, q with
    | some (off, ft), .ptr r o => (match tsize P ft with
      | some (_ + 1) => some (PV.ptr r (o + off), True)
      | _ => none)
    | some (off, ft), .tp cs => (match tsize P ft with
      | some (_ + 1) => some (PV.tp (cs.drop off), True)
      | _ => none)
    | _, _ => none) = some (p, c)) (hu : VRel S q u) : ∃ v, (Instr.fieldAt t u i).run P S.w = .ok v S.w ∧ VRel S p v := by
  split at he
  · rename_i off ft r o ht
    obtain ⟨fs, f, hus, hf, rfl, rfl⟩ := tfield_inv ht
    split at he
    · rename_i s hs
      cases he
      cases hu with
      | ptr hp hb =>
        refine ⟨_, ?_, .ptr hp hb⟩
        simp [Instr.fieldAt, run_underlying hus, hf, Instr.sureAddr, fieldPlace, run_sizeOf' hs, Addr.add_lit]
      | optr hb =>
        rename_i a
        refine ⟨.pointer (some (a.add f.offset)), ?_, .optr hb⟩
        simp [Instr.fieldAt, run_underlying hus, hf, Instr.sureAddr, fieldPlace, run_sizeOf' hs]
    · cases he
  · rename_i off ft cs ht
    obtain ⟨fs, f, hus, hf, rfl, rfl⟩ := tfield_inv ht
    split at he
    · rename_i s hs
      cases he
      have hu' := hu
      cases hu with
      | tp val hv h =>
        refine ⟨_, ?_, tp_drop hu' f.offset⟩
        simp [Instr.fieldAt, run_underlying hus, hf, Instr.sureAddr, fieldPlace, run_sizeOf' hs]
    · cases he
  · cases he

theorem ts_inv {k : Nat} {els : List (List PV)} {v : Value} (h : VRel S (.ts k els) v) : ∃ (a : Option Addr) (c : Nat) (ad : Addr) (val : Nat → Value), v = .slice a els.length c ∧ els.length ≤ c ∧ c ≤ maxLen ∧
    (∀ (i : Nat) (e : List PV), els[i]? = some e → e.length = k) ∧ (els.length ≠ 0 → a = some ad) ∧ (∀ j, j < els.length * k → S.M (ad.add j) (val j)) ∧
    ∀ (i : Nat) (e : List PV) (j : Nat) (p : PV), els[i]? = some e → e[j]? = some p → VRel S p (val (i * k + j)) := by
  cases h with
  | ts hl hc hm hk ad ha val hv h => subst hl; exact ⟨_, _, ad, val, rfl, hc, hm, hk, ha, hv, h⟩

/-- An element of a slice, by its address. -/
theorem ts_elem {k : Nat} {els : List (List PV)} {e : List PV} {i : Nat} {ad : Addr} {val : Nat → Value} (hk : ∀ (i : Nat) (e : List PV), els[i]? = some e → e.length = k)
    (hv : ∀ j, j < els.length * k → S.M (ad.add j) (val j)) (h : ∀ (i : Nat) (e : List PV) (j : Nat) (p : PV), els[i]? = some e → e[j]? = some p → VRel S p (val (i * k + j)))
    (hi : els[i]? = some e) : VRel S (.tp e) (.pointer (some (ad.add (i * k)))) := by
  have hil : i < els.length := (List.getElem?_eq_some_iff.1 hi).1
  refine .tp (fun j => val (i * k + j)) (fun j hj => ?_) (fun j p hp => h i e j p hi hp)
  rw [add_add]
  rw [hk i e hi] at hj
  refine hv _ ?_
  have : (i + 1) * k ≤ els.length * k := Nat.mul_le_mul_right k hil
  rw [Nat.add_mul, Nat.one_mul] at this
  omega

theorem indexAddr_ok {t : TypeId} {p q r : PV} {c : Prop} {u v : Value} (he : (match r with
    | .sc (.int _ n) => (match telem P t with
      | some e => (match asTs q, q with
        | some (k, els), _ => if tsize P e = some k then some (PV.tp (els.getD n.toNat []), 0 ≤ n ∧ n < els.length) else none
        | none, .ms r off k len => if tsize P e = some k then some (.ptr r (off + n.toNat * k), 0 ≤ n ∧ n < len) else none
        | _, _ => none)
      | none => (match tarr P t, q with
        | some (len, e), .ptr r o => (match tsize P e with
          | some k => some (PV.ptr r (o + n.toNat * k), 0 ≤ n ∧ n < len)
          | none => none)
        | some (len, e), .tp cs => (match tsize P e with
          | some k => some (PV.tp (cs.drop (n.toNat * k)), 0 ≤ n ∧ n < len)
          | none => none)
        | _, _ => none))
    | _ => none) = some (p, c)) (hc : c) (hu : VRel S q u) (hv : VRel S r v) : ∃ z, (Instr.indexAt t u v).run P S.w = .ok z S.w ∧ VRel S p z := by
  split at he
  case h_2 => cases he
  rename_i ik n
  cases hv with | sc hn =>
  split at he
  · rename_i e hte
    have hus := telem_inv hte
    split at he
    · rename_i k els hq
      split at he
      case isFalse => cases he
      rename_i hs
      cases he
      obtain ⟨a, cc, ad, val, rfl, h1, h2, h3, h4, h5, h6⟩ := ts_inv (asTs_rel hq hu)
      obtain ⟨m, rfl⟩ := Int.eq_ofNat_of_zero_le hc.1
      have hm : m < els.length := by omega
      have ha := h4 (by omega)
      subst ha
      have hg : els[m]? = some els[m] := List.getElem?_eq_getElem hm
      refine ⟨.pointer (some (ad.add (m * k))), ?_, ?_⟩
      · simp [Instr.indexAt, asIntOf, run_underlying hus, hm, run_sizeOf' hs]
      · rw [List.getD_eq_getElem?_getD, Int.toNat_natCast, hg]
        exact ts_elem h3 h5 h6 hg
    · rename_i rr off k len hq
      split at he
      case isFalse => cases he
      rename_i hs
      cases he
      cases hu with
      | ms hp hb hl hcc hm _ =>
        obtain ⟨m, rfl⟩ := Int.eq_ofNat_of_zero_le hc.1
        have hml : m < len := by omega
        refine ⟨_, ?_, .ptr hp hb⟩
        simp [Instr.indexAt, asIntOf, run_underlying hus, hml, run_sizeOf' hs, Addr.add_lit]
      | oms hb hcc hm =>
        obtain ⟨m, rfl⟩ := Int.eq_ofNat_of_zero_le hc.1
        have hml : m < len := by omega
        rename_i a
        refine ⟨.pointer (some (a.add (m * k))), ?_, .optr hb⟩
        simp [Instr.indexAt, asIntOf, run_underlying hus, hml, run_sizeOf' hs]
    · cases he
  · split at he
    · rename_i len e rr o hta
      have hus := tarr_inv hta
      split at he
      · rename_i k hs
        cases he
        cases hu with
        | ptr hp hb =>
          obtain ⟨m, rfl⟩ := Int.eq_ofNat_of_zero_le hc.1
          have hml : m < len := by omega
          refine ⟨_, ?_, .ptr hp hb⟩
          simp [Instr.indexAt, asIntOf, run_underlying hus, hml, run_sizeOf' hs, Addr.add_lit, Instr.sureAddr]
        | optr hb =>
          obtain ⟨m, rfl⟩ := Int.eq_ofNat_of_zero_le hc.1
          have hml : m < len := by omega
          rename_i a
          refine ⟨.pointer (some (a.add (m * k))), ?_, .optr hb⟩
          simp [Instr.indexAt, asIntOf, run_underlying hus, hml, run_sizeOf' hs, Instr.sureAddr]
      · cases he
    · rename_i len e cs hta
      have hus := tarr_inv hta
      split at he
      · rename_i k hs
        cases he
        have hu' := hu
        cases hu with
        | tp val hv h =>
          obtain ⟨m, rfl⟩ := Int.eq_ofNat_of_zero_le hc.1
          have hml : m < len := by omega
          refine ⟨_, ?_, tp_drop hu' (m * k)⟩
          simp [Instr.indexAt, asIntOf, run_underlying hus, hml, run_sizeOf' hs, Instr.sureAddr]
      · cases he
    · cases he

theorem load_ok (hS : SRel S) {t : TypeId} {p q : PV} {c : Prop} {u : Value} (he : (match q with
    | .tp cs => ald P t cs
    | .ptr r o => (match S.h[r]? with
      | some (.var _ cs) => ald P t (cs.drop o)
      | _ => none)
    | _ => none) = some (p, c)) (hc : c) (hu : VRel S q u) : ∃ z, (Instr.loadAt t u).run P S.w = .ok z S.w ∧ VRel S p z := by
  split at he
  · rename_i cs
    cases hu with
    | tp val hv h =>
      obtain ⟨z, hz, hr⟩ := run_loadVar_of (S := S) (P := P) val (fun j hj => ⟨(hv j hj).1, (hv j hj).2.1⟩) h he hc
      exact ⟨z, by simp [Instr.loadAt, Instr.sureAddr, hz], hr⟩
  · rename_i r o
    split at he
    · rename_i tt cs hb
      cases hu with
      | ptr hp hb' =>
        rename_i b _ _
        obtain ⟨b', arr, hbe, hh, hl, h1, hcs⟩ := hS.blks r _ _ hb hp
        cases hbe
        have hcell : ∀ j, j < (cs.drop o).length → S.w.cell? ((⟨b, o, none⟩ : Addr).add j) = some (arr.getD (o + j) undef) := fun j hj => by
          simp at hj
          rw [Addr.add_lit, cell_of_row _ _ _ _ _ _ hh]
          have : o + j < arr.size := by omega
          simp [Array.getD, this]
        have harr : ∀ j, j < (cs.drop o).length → arr[o + j]? = some (arr.getD (o + j) undef) := fun j hj => by
          simp at hj
          have : o + j < arr.size := by omega
          simp [Array.getD, this]
        obtain ⟨z, hz, hr⟩ := run_loadVar_of (S := S) (P := P) (a := ⟨b, o, none⟩) (cs := cs.drop o) (fun j => arr.getD (o + j) undef) (fun j hj => ⟨hcell j hj, h1 _ _ (harr j hj)⟩)
          (fun j p hp => hcs (o + j) p _ (by rw [List.getElem?_drop] at hp; exact hp) (harr j (List.getElem?_eq_some_iff.1 hp).1)) he hc
        exact ⟨z, by simp [Instr.loadAt, Instr.sureAddr, hz], hr⟩
      | optr hb' => rw [hb] at hb'; cases hb'
    · cases he
  · cases he
end
end Go.AL
