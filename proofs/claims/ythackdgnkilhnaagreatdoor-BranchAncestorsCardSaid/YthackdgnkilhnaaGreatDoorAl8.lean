/-
  Struct, array and slice literals; 'aeff': operations that lay blocks or write them.
-/
import Derived.Test.YthackdgnkilhnaaGreatDoorAl7
import Derived.Test.YthackdgnkilhnaaGreatDoorAl3d
set_option linter.unusedSimpArgs false
set_option linter.unusedVariables false
namespace Go.AL
open Go.RowKit

theorem foldl_set (off : Nat) : ∀ (l : List Value) (i : Nat) (cells : Array Value), off + i + l.length ≤ cells.size →
    ((l.zipIdx i).foldl (fun cs (x : Value × Nat) => cs.setIfInBounds (off + x.2) x.1) cells).toList = cells.toList.take (off + i) ++ l ++ cells.toList.drop (off + i + l.length) := by
  intro l
  induction l with
  | nil => intro i cells _; simp
  | cons v l ih =>
    intro i cells h
    simp only [List.length_cons] at h
    simp only [List.zipIdx_cons, List.foldl_cons]
    rw [ih (i + 1) _ (by simp; omega), Array.toList_setIfInBounds]
    have := splice_step cells.toList (off + i) l v (by simp; omega)
    rw [show off + (i + 1) = off + i + 1 by omega, this]
    simp

/-- The cells of a literal, part by part. -/
def afill (place : Nat → Option (Nat × Nat)) (cells : List PV) : List (Nat × PV) → Option (List PV)
  | [] => some cells
  | (i, p) :: rest =>
    match place i with
    | none => none
    | some (off, size) => if shaped p = true ∧ (pcells p).length = size ∧ off + size ≤ cells.length then afill place (splice cells off (pcells p)) rest else none

structure CRel (S : St) (cs : List PV) (vs : Array Value) : Prop where
  len : vs.size = cs.length
  one : ∀ (i : Nat) (u : Value), vs[i]? = some u → u.oneCell' = true
  rel : ∀ (i : Nat) (p : PV) (u : Value), cs[i]? = some p → vs[i]? = some u → VRel S p u

theorem CRel.splice {S : St} {cs ps : List PV} {vs us ws : Array Value} {off : Nat} (h : CRel S cs vs) (k : CRel S ps us) (hl : off + ps.length ≤ cs.length)
    (hw : ws.toList = vs.toList.take off ++ us.toList ++ vs.toList.drop (off + us.size)) : CRel S (AL.splice cs off ps) ws := by
  have h1 := h.len
  have k1 := k.len
  have hws : ∀ i : Nat, ws[i]? = (vs.toList.take off ++ us.toList ++ vs.toList.drop (off + us.size))[i]? := fun i => by rw [← hw, Array.getElem?_toList]
  have m1 : min off vs.size = off := by omega
  have m2 : min off cs.length = off := by omega
  refine ⟨?_, fun i u hu => ?_, fun i p u hp hu => ?_⟩
  · have : ws.size = ws.toList.length := by simp
    rw [this, hw]
    simp [AL.splice]
    omega
  · rw [hws] at hu
    simp only [List.getElem?_append, List.length_take, Array.length_toList, List.length_append, List.getElem?_take, List.getElem?_drop, Array.getElem?_toList] at hu
    split at hu
    · split at hu
      · split at hu
        · exact h.one _ u hu
        · cases hu
      · exact k.one _ u hu
    · exact h.one _ u hu
  · rw [hws] at hu
    simp only [List.getElem?_append, List.length_take, Array.length_toList, List.length_append, List.getElem?_take, List.getElem?_drop, Array.getElem?_toList, m1] at hu
    simp only [AL.splice, List.getElem?_append, List.length_take, List.length_append, List.getElem?_take, List.getElem?_drop, m2] at hp
    by_cases c1 : i < off
    · rw [if_pos (by omega), if_pos c1, if_pos c1] at hp hu
      exact h.rel i p u hp hu
    · by_cases c2 : i < off + ps.length
      · rw [if_pos (by omega), if_neg c1] at hp hu
        exact k.rel _ p u hp hu
      · rw [if_neg (by omega)] at hp hu
        refine h.rel _ p u hp ?_
        rw [← hu]
        congr 1
        omega

theorem crel_shaped {S : St} {p : PV} {v : Value} (h : shaped p = true) (hv : VRel S p v) : CRel S (pcells p) v.cells :=
  let ⟨a, b, c⟩ := shaped_rel h hv
  ⟨a, b, c⟩

theorem fill_ok {S : St} {place : Nat → Option (Nat × Nat)} {f : Operand → PV} {ρ : Operand → Value} : ∀ (l : List (Nat × Operand)) (cs cs' : List PV) (vs : Array Value), (∀ x ∈ l, VRel S (f x.2) (ρ x.2)) → CRel S cs vs →
    afill place cs (l.map fun x => (x.1, f x.2)) = some cs' → ∃ vs', Instr.fill place vs (l.map fun x => (x.1, ρ x.2)) = some vs' ∧ CRel S cs' vs' := by
  intro l
  induction l with
  | nil => intro cs cs' vs _ h he; cases he; exact ⟨vs, rfl, h⟩
  | cons x l ih =>
    intro cs cs' vs hx h he
    simp only [List.map_cons, afill] at he
    simp only [List.map_cons, Instr.fill]
    split at he
    · cases he
    · rename_i off size hpl
      split at he
      case isFalse => cases he
      rename_i hc
      obtain ⟨hs, hl, hle⟩ := hc
      have k := crel_shaped hs (hx x (List.mem_cons_self ..))
      have e1 : (ρ x.2).cells.size = size := by rw [k.len, hl]
      have e2 : vs.size = cs.length := h.len
      rw [hpl]
      simp only []
      rw [if_neg (by rw [e1]; simp; omega)]
      have hfold := foldl_set off (ρ x.2).cells.toList 0 vs (by simp; omega)
      refine ih _ cs' _ (fun y hy => hx y (List.mem_cons_of_mem _ hy)) (h.splice k (by omega) ?_) he
      rw [← Array.foldl_toList, Array.toList_zipIdx]
      simpa using hfold

def tzero (P : Program) (t : TypeId) : Option Value := (P.info? t).bind (·.zero)

/-- The places of a struct's or an array's parts. -/
def tplace (P : Program) (t : TypeId) : Option (Nat → Option (Nat × Nat)) :=
  match P.underlying t with
  | some (.struct fs) => if fs.all fun f => (tsize P f.type).isSome then some fun i => (fs[i]?).bind fun f => (tsize P f.type).map fun s => (f.offset, s) else none
  | some (.array _ e) => (tsize P e).map fun s i => some (i * s, s)
  | _ => none

def abuild (P : Program) (t : TypeId) (ps : List (Nat × PV)) : Option PV :=
  match tzero P t, tplace P t with
  | some z, some pl => if shaped (ofC z) then (afill pl (pcells (ofC z)) ps).map .agg else none
  | _, _ => none

theorem run_zero {P : Program} {t : TypeId} {z : Value} (h : tzero P t = some z) (w : World) : (zeroValue t).run P w = .ok z w := by
  unfold tzero at h
  cases hi : P.info? t with
  | none => rw [hi] at h; cases h
  | some i =>
    rw [hi] at h
    simp only [Option.bind_some] at h
    simp [zeroValue, typeInfo, hi, h]

theorem run_places {P : Program} (w : World) : ∀ (l : List Field), (l.all fun f => (tsize P f.type).isSome) = true →
    (l.mapM (fun f => do pure (f.offset, ← sizeOf f.type) : Field → Sem (Nat × Nat))).run P w = .ok (l.map fun f => (f.offset, (tsize P f.type).getD 0)) w := by
  intro l
  induction l with
  | nil => intro _; rfl
  | cons f l ih =>
    intro h
    simp only [List.all_cons, Bool.and_eq_true] at h
    obtain ⟨s, hs⟩ := Option.isSome_iff_exists.1 h.1
    simp only [List.mapM_cons, Sem.run_bind, run_sizeOf' hs, Result.andThen_ok, Sem.run_pure, ih h.2, List.map_cons, hs, Option.getD_some]

theorem build_ok {P : Program} {S : St} {t : TypeId} {parts : Array (Nat × Operand)} {f : Operand → PV} {ρ : Operand → Value} {p : PV} (hx : ∀ x ∈ parts, VRel S (f x.2) (ρ x.2))
    (he : abuild P t (parts.toList.map fun x => (x.1, f x.2)) = some p) : ∃ v, (Instr.build t (parts.map fun (i, x) => (i, ρ x))).run P S.w = .ok v S.w ∧ VRel S p v := by
  unfold abuild at he
  split at he
  case h_2 => cases he
  rename_i z pl hz hpl
  split at he
  case isFalse => cases he
  rename_i hsh
  cases hf : afill pl (pcells (ofC z)) (parts.toList.map fun x => (x.1, f x.2)) with
  | none => rw [hf] at he; cases he
  | some cs' =>
    rw [hf] at he
    cases he
    obtain ⟨vs', hv, hc⟩ := fill_ok (S := S) (ρ := ρ) parts.toList _ cs' z.cells (fun x hxm => hx x (by simpa using hxm)) (crel_shaped hsh (ofC_rel S z)) hf
    refine ⟨.agg vs', ?_, .agg hc.len hc.one hc.rel⟩
    have emap : (parts.map fun (i, x) => (i, ρ x)).toList = parts.toList.map fun x => (x.1, ρ x.2) := by simp
    simp only [Instr.build, Sem.run_bind, run_zero hz, Result.andThen_ok]
    unfold tplace at hpl
    split at hpl
    · rename_i fs hus
      split at hpl
      case isFalse => cases hpl
      rename_i hall
      cases hpl
      rw [run_underlying hus]
      simp only [Result.andThen_ok, Sem.run_bind]
      have hm : (fs.mapM (fun f => do pure (f.offset, ← sizeOf f.type) : Field → Sem (Nat × Nat))).run P S.w = .ok ((fs.toList.map fun f => (f.offset, (tsize P f.type).getD 0)).toArray) S.w := by
        rw [Array.mapM_eq_mapM_toList]
        simp only [Sem.run_map, run_places S.w fs.toList (by simpa using hall), Result.andThen_ok]
      rw [hm]
      simp only [Result.andThen_ok, emap]
      have epl : (fun (i : Nat) => ((fs.toList.map fun f => (f.offset, (tsize P f.type).getD 0)).toArray)[i]?) = fun (i : Nat) => (fs[i]?).bind fun (f : Field) => (tsize P f.type).map fun s => (f.offset, s) := by
        funext i
        simp only [List.getElem?_toArray, List.getElem?_map, Array.getElem?_toList]
        cases hf : fs[i]? with
        | none => rfl
        | some f =>
          have : (tsize P f.type).isSome = true := by
            rw [Array.all_eq_true] at hall
            obtain ⟨hi, rfl⟩ := Array.getElem?_eq_some_iff.1 hf
            exact hall i hi
          obtain ⟨s, hs⟩ := Option.isSome_iff_exists.1 this
          simp [hs]
      rw [epl, hv]
      rfl
    · rename_i n e hus
      cases hs : tsize P e with
      | none => rw [hs] at hpl; cases hpl
      | some s =>
        rw [hs] at hpl
        cases hpl
        rw [run_underlying hus]
        simp only [Result.andThen_ok, Sem.run_bind, run_sizeOf' hs, emap, hv]
        rfl
    · cases hpl
end Go.AL
