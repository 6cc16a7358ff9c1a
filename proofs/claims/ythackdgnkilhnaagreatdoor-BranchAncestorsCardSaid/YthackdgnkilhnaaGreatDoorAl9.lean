/-
  'aeff': operations that lay blocks or write them.
-/
import Derived.Test.YthackdgnkilhnaaGreatDoorAl8
import Derived.Laws.MakeOwn
set_option linter.unusedSimpArgs false
set_option linter.unusedVariables false
namespace Go.AL
open Go.RowKit

def aappend {α : Type} [CK α] (P : Program) (h : Heap) (t : TypeId) (s x : PV) : Option (PV × Heap × α) :=
  match tapp P t with
  | none => none
  | some (e, k, b) => match asSrc h k x with
    | none => none
    | some xs => match s with
      | .nil => some (.vec h.length k xs, h ++ [.vec e k xs.length], CK.cnd (xs.length * b ≤ 140737488355328 ∧ xs.length ≤ 140737488355328))
      | .vec r k' els => match h[r]? with
        | some (.vec e' k2 n) => if e' = e ∧ k2 = k ∧ k' = k then
            some (.vec r k (els ++ xs), h.set r (.vec e k (els.length + xs.length)), CK.cnd (n = els.length ∧ (els.length + xs.length) * b ≤ 140737488355328 ∧ els.length + xs.length ≤ 140737488355328)) else none
        | _ => none
      | .tc k' els => if k' = k then
          some (.vec h.length k (els ++ xs), h ++ [.vec e k (els.length + xs.length)], CK.cnd (0 < xs.length ∧ (els.length + xs.length) * b ≤ 140737488355328 ∧ els.length + xs.length ≤ 140737488355328)) else none
      | _ => none

def aeff {α : Type} [CK α] (P : Program) (h : Heap) (f : Operand → PV) : Op → Option (PV × Heap × α)
  | .build t parts => match abuild P t (parts.toList.map fun x => (x.1, f x.2)) with
    | some p => some (p, h, CK.cnd True)
    | none => none
  | .buildSlice t n parts => match tapp P t with
    | some (e, k, _) => match tzero P e with
      | some z => if n * k ≤ 16777216 ∧ shaped (ofC z) then
          match afill (fun i => some (i * k, k)) (List.replicate n (pcells (ofC z))).flatten (parts.toList.map fun x => (x.1, f x.2)) with
          | some cs => some (.tc k (chunks cs 0 k n), h, CK.cnd True)
          | none => none
        else none
      | none => none
    | none => none
  | .alloc t => match tzero P t with
    | some z => if shaped (ofC z) then some (.ptr h.length 0, h ++ [.var t (pcells (ofC z))], CK.cnd True) else none
    | none => none
  | .box t x => if shaped (f x) then some (.ptr h.length 0, h ++ [.var t (pcells (f x))], CK.cnd True) else none
  | .store t a x => match f a with
    | .ptr r o => match h[r]? with
      | some (.var T cs) => match tsize P t with
        | some s => if shaped (f x) then some (.ud, h.set r (.var T (splice cs o (pcells (f x)))), CK.cnd ((pcells (f x)).length = s ∧ o + s ≤ cs.length)) else none
        | none => none
      | _ => none
    | _ => none
  | .makeSlice t l c => match tapp P t with
    | some (e, k, b) => match tzero P e, f l, f c with
      | some z, .sc (.int .i64 n), .sc (.int .i64 m) => if shaped (ofC z) then
          some (.ms h.length 0 k n.toNat, h ++ [.var e (List.replicate n.toNat (pcells (ofC z))).flatten], CK.cnd (n = m ∧ 0 ≤ n ∧ n * b ≤ 140737488355328 ∧ n ≤ 140737488355328)) else none
      | _, _, _ => none
    | none => none
  | .makeMap _ none => some (.mp h.length, h ++ [.map []], CK.cnd True)
  | .call c => match c.callee, c.args.toList, c.argTypes.toList with
    | .builtin .append, [s, x], [t, t'] => if t = t' then aappend P h t (f s) (f x) else none
    | _, _, _ => none
  | _ => none

theorem zero_cells {S : St} {z : Value} (hs : shaped (ofC z) = true) (n : Nat) : CRel S (List.replicate n (pcells (ofC z))).flatten ((Array.range (n * z.cells.size)).map (z.cells[· % z.cells.size]!)) := by
  have hz := crel_shaped (S := S) hs (ofC_rel S z)
  have hl : ((List.replicate n (pcells (ofC z))).flatten).length = n * z.cells.size := by simp [hz.len]
  have hg : ∀ (i : Nat) (u : Value), ((Array.range (n * z.cells.size)).map (z.cells[· % z.cells.size]!))[i]? = some u → z.cells[i % z.cells.size]? = some u ∧ i < n * z.cells.size := by
    intro i u hu
    rw [Array.getElem?_map] at hu
    cases hr : (Array.range (n * z.cells.size))[i]? with
    | none => rw [hr] at hu; cases hu
    | some j =>
      rw [hr] at hu
      cases hu
      obtain ⟨hi, rfl⟩ := Array.getElem?_eq_some_iff.1 hr
      simp at hi ⊢
      have hpos : 0 < z.cells.size := Nat.pos_of_ne_zero fun h => by rw [h, Nat.mul_zero] at hi; omega
      have hj := Nat.mod_lt i hpos
      exact ⟨by rw [Array.getElem?_eq_getElem hj, getElem!_pos z.cells (i % z.cells.size) hj], hi⟩
  have hq : ∀ (m i : Nat) (p : PV), ((List.replicate m (pcells (ofC z))).flatten)[i]? = some p → (pcells (ofC z))[i % z.cells.size]? = some p := by
    intro m
    induction m with
    | zero => intro i p h; simp at h
    | succ m ih =>
      intro i p h
      rw [List.replicate_succ, List.flatten_cons, List.getElem?_append] at h
      split at h
      · rename_i hlt
        rw [hz.len, Nat.mod_eq_of_lt hlt]
        exact h
      · rename_i hge
        have := ih _ p h
        rw [← hz.len] at hge this
        rw [Nat.mod_eq_sub_mod (by omega)]
        exact this
  refine ⟨by simp [hz.len], fun i u hu => hz.one _ u (hg i u hu).1, fun i p u hp hu => hz.rel _ p u (hq n i p hp) (hg i u hu).1⟩

theorem ms_made {P : Program} {S : St} (hS : SRel S) {t e : TypeId} {k b : Nat} {z : Value} {n : Int} (ht : tapp P t = some (e, k, b)) (hz : tzero P e = some z) (hs : shaped (ofC z) = true) (h0 : 0 ≤ n) (hb : n * b ≤ 140737488355328) (hn : n ≤ 140737488355328) :
    ∃ v w' φ', (Instr.makeSlice t (.int .i64 n) (.int .i64 n)).run P S.w = .ok v w' ∧ Ext S { S with φ := φ', h := S.h ++ [.var e (List.replicate n.toNat (pcells (ofC z))).flatten], w := w' } ∧
      SRel { S with φ := φ', h := S.h ++ [.var e (List.replicate n.toNat (pcells (ofC z))).flatten], w := w' } ∧ VRel { S with φ := φ', h := S.h ++ [.var e (List.replicate n.toNat (pcells (ofC z))).flatten], w := w' } (.ms S.h.length 0 k n.toNat) v := by
  obtain ⟨htu, i, zv, hi, hzv, hsz, hby, hzs, hk0⟩ := tapp_inv ht
  have : z = zv := by unfold tzero at hz; rw [hi] at hz; simp [hzv] at hz; exact hz.symm
  subst this
  obtain ⟨m, rfl⟩ := Int.eq_ofNat_of_zero_le h0
  have hc := zero_cells (S := S) hs m
  have hrun := run_make (P := P) S.w t e i z htu hi hzv .i64 .i64 m m h0 (Int.le_refl _) (by rw [hby, Int.mul_comm]; omega) (by omega)
  obtain ⟨x, hS', hv⟩ := new_var hS e _ _ hc.len hc.one hc.rel
  have hmx : (140737488355328 : Nat) ≤ maxLen := by simp [maxLen]
  rw [Int.toNat_natCast] at hrun ⊢
  have e0 : m * k = m * z.cells.size := by rw [hzs]
  have e1 : madeCells z.cells (m * k) = (Array.range (m * z.cells.size)).map (z.cells[· % z.cells.size]!) := by rw [e0]; rfl
  rw [hsz, e1] at hrun
  refine ⟨_, _, _, hrun, x, hS', ?_⟩
  cases hv with
  | optr hb' => simp [St.push] at hb'
  | ptr hp hb' =>
    have hlen : ((List.replicate m (pcells (ofC z))).flatten).length = m * k := by rw [← hc.len]; simp [hzs]
    refine .ms (t := e) (cs := (List.replicate m (pcells (ofC z))).flatten) hp ?_ (by rw [hlen]; omega) (Nat.le_refl _) (by omega) ⟨_, _, _, heap_alloc_new _ _, by simp [hzs]⟩
    simp [St.push]

theorem afill_len {pl : Nat → Option (Nat × Nat)} : ∀ (ps : List (Nat × PV)) (cs cs' : List PV), afill pl cs ps = some cs' → cs'.length = cs.length := by
  intro ps
  induction ps with
  | nil => intro cs cs' h; cases h; rfl
  | cons x ps ih =>
    intro cs cs' h
    simp only [afill] at h
    split at h
    · cases h
    · split at h
      case isFalse => cases h
      rename_i hc
      rw [ih _ _ h]
      simp [splice]
      omega

theorem aeff_ok {P : Program} {S : St} {ρ : Operand → Value} {f : Operand → PV} {o : Oper} {p : PV} {h' : Heap} {c : Prop} (hS : SRel S) (hx : ∀ x ∈ o.op.operands, VRel S (f x) (ρ x))
    (he : aeff P S.h f o.op = some (p, h', c)) (hc : c) : ∃ φ' w', Ext S { S with φ := φ', h := h', w := w' } ∧ SRel { S with φ := φ', h := h', w := w' } ∧
      ((∃ v, (execOp ρ o).run P S.w = .ok (.value v) w' ∧ VRel { S with φ := φ', h := h', w := w' } p v) ∨ ((execOp ρ o).run P S.w = .ok .skip w' ∧ p = .ud)) := by
  have fin : ∀ {s : Sem Value} {φ' : List Value} {h' : Heap} {w' : World} {v : Value} {p : PV}, s.run P S.w = .ok v w' → Ext S { S with φ := φ', h := h', w := w' } → SRel { S with φ := φ', h := h', w := w' } → VRel { S with φ := φ', h := h', w := w' } p v →
      ∃ φ' w', Ext S { S with φ := φ', h := h', w := w' } ∧ SRel { S with φ := φ', h := h', w := w' } ∧
      ((∃ v, Sem.run P (do pure (.value (← s)) : Sem Next) S.w = .ok (.value v) w' ∧ VRel { S with φ := φ', h := h', w := w' } p v) ∨ (Sem.run P (do pure (.value (← s)) : Sem Next) S.w = .ok .skip w' ∧ p = .ud)) := by
    intro s φ' h' w' v p hr x hs hv
    exact ⟨φ', w', x, hs, .inl ⟨v, by simp only [Sem.run_bind, hr, Result.andThen_ok, Sem.run_pure], hv⟩⟩
  unfold execOp
  cases hop : o.op with
  | build t parts =>
    rw [hop] at he hx
    simp only [aeff, ckmk, ckand] at he
    split at he
    case h_2 => cases he
    rename_i q hq
    cases he
    obtain ⟨v, hr, hv⟩ := build_ok (P := P) (S := S) (ρ := ρ) (fun x hxm => hx x.2 (by simp only [Op.operands]; simp; exact ⟨x.1, hxm⟩)) hq
    exact fin hr (Ext.refl _) hS hv
  | buildSlice t n parts =>
    rw [hop] at he hx
    simp only [aeff, ckmk, ckand] at he
    split at he
    case h_2 => cases he
    rename_i e k b ht
    split at he
    case h_2 => cases he
    rename_i z hz
    split at he
    case isFalse => cases he
    rename_i hcond
    split at he
    case h_2 => cases he
    rename_i cs hfill
    cases he
    obtain ⟨hn, hsh⟩ := hcond
    obtain ⟨htu, i, zv, hi, hzv, hsz, hby, hzs, hk0⟩ := tapp_inv ht
    have : z = zv := by unfold tzero at hz; rw [hi] at hz; simp [hzv] at hz; exact hz.symm
    subst this
    obtain ⟨vs, hv, hcr⟩ := fill_ok (S := S) (ρ := ρ) parts.toList _ cs _ (fun x hxm => hx x.2 (by simp only [Op.operands]; simp; exact ⟨x.1, by simpa using hxm⟩)) (zero_cells (S := S) hsh n) hfill
    have hvl : vs.size = n * k := by
      rw [hcr.len, afill_len _ _ _ hfill, ← (zero_cells (S := S) hsh n).len]
      simp [hzs]
    have x := ext_alloc hS (.cells vs e)
    have hmx : (16777216 : Nat) ≤ maxLen := by simp [maxLen]
    have hnk : n ≤ n * k := Nat.le_mul_of_pos_right n hk0
    have hcsl : cs.length = n * k := by rw [← hcr.len, hvl]
    refine fin (v := .slice (some ⟨S.w.heap.size, 0, none⟩) n n) (w' := S.w.alloc (.cells vs e)) (φ' := S.φ) ?_ x (srel_alloc hS _) (.tc (ts_of_row (all := vs.toList) (by simp [chunks]) (fun i e hi => ?_) (Nat.le_refl _) (by omega) (fun j u hj => ?_) (by simp [hvl]) (fun i e j p u hi hp hu => ?_)))
    · have emap : (parts.map fun (i, x) => (i, ρ x)).toList = parts.toList.map fun x => (x.1, ρ x.2) := by simp
      simp only [Instr.buildSlice, Sem.run_bind, run_underlying htu, Result.andThen_ok, run_sizeOf' (show tsize P e = some k by simp [tsize, hi, hsz])]
      rw [if_neg (by omega)]
      have e0 : n * k = n * z.cells.size := by rw [hzs]
      split
      · rename_i h0
        have hn0 : Array.range (n * z.cells.size) = #[] := by rw [← e0, h0]; rfl
        rw [hn0] at hv
        simp only [Sem.run_bind, Sem.run_pure, Result.andThen_ok, emap, e0, hn0, Array.map_empty] at hv ⊢
        rw [← hzs]
        rw [← hzs] at hv
        rw [hv]
        simp [newRow]
      · simp only [Sem.run_bind, run_zero hz, Sem.run_pure, Result.andThen_ok, emap]
        rw [e0, hv]
        simp [newRow]
    · obtain ⟨hlt, rfl⟩ := chunks_get hi
      have := idx_lt (k := k) hlt (show k - 1 < k by omega)
      simp; omega
    · have hj' : vs[j]? = some u := by simpa using hj
      have hlt := (Array.getElem?_eq_some_iff.1 hj').1
      have hg : (S.w.alloc (.cells vs e)).heap[S.w.heap.size]? = some (.cells vs e (0, 0)) := heap_alloc_new S.w _
      refine ⟨by rw [cell_of_row _ _ _ _ _ _ hg]; exact hj', hcr.one j u hj', rfl, by simp, fun hx => ?_, fun r y hy hby => ?_⟩
      · have := hS.xlt _ hx
        simp at this
      · have := hS.own_lt ⟨r, y, hy, hby⟩
        simp at this
    · obtain ⟨hlt, rfl⟩ := chunks_get hi
      rw [List.getElem?_take] at hp
      split at hp
      · rw [List.getElem?_drop] at hp
        exact (hcr.rel _ p u (by rw [← hp, Nat.zero_add]) (by simpa using hu)).ext x
      · cases hp
  | alloc t =>
    rw [hop] at he hx
    simp only [aeff, ckmk, ckand] at he
    split at he
    case h_2 => cases he
    rename_i z hz
    split at he
    case isFalse => cases he
    rename_i hsh
    cases he
    have hcr := crel_shaped (S := S) hsh (ofC_rel S z)
    obtain ⟨x, hS', hv⟩ := new_var hS t _ _ hcr.len hcr.one hcr.rel
    refine fin (w' := S.w.alloc (.cells z.cells t)) (φ' := S.φ ++ [.pointer (some ⟨S.w.heap.size, 0, none⟩)]) ?_ x hS' hv
    simp [Instr.alloc, run_zero hz, newVar, newRow]
  | box t y =>
    rw [hop] at he hx
    simp only [aeff, ckmk, ckand] at he
    split at he
    case isFalse => cases he
    rename_i hsh
    cases he
    have hcr := crel_shaped (S := S) hsh (hx y (by simp [Op.operands]))
    obtain ⟨x, hS', hv⟩ := new_var hS t _ _ hcr.len hcr.one hcr.rel
    refine fin (w' := S.w.alloc (.cells (ρ y).cells t)) (φ' := S.φ ++ [.pointer (some ⟨S.w.heap.size, 0, none⟩)]) ?_ x hS' hv
    simp [Instr.box, newVar, newRow]
  | store t a y =>
    rw [hop] at he hx
    simp only [aeff, ckmk, ckand] at he
    split at he
    case h_2 => cases he
    rename_i r off hfa
    split at he
    case h_2 => cases he
    rename_i T cs hb
    split at he
    case h_2 => cases he
    rename_i s hs
    split at he
    case isFalse => cases he
    rename_i hsh
    cases he
    have h1 := hx a (by simp [Op.operands])
    rw [hfa] at h1
    obtain ⟨w', hr, x, hS'⟩ := store_ok (P := P) hS hb h1 hsh (hx y (by simp [Op.operands])) hs hc.1 hc.2
    refine ⟨S.φ, w', x, hS', .inr ⟨?_, rfl⟩⟩
    simp only [Sem.run_bind, hr, Result.andThen_ok, Sem.run_pure]
  | makeSlice t l m =>
    rw [hop] at he hx
    simp only [aeff, ckmk, ckand] at he
    split at he
    case h_2 => cases he
    rename_i e k b ht
    split at he
    case h_2 => cases he
    rename_i z n m' hz hfl hfm
    split at he
    case isFalse => cases he
    rename_i hsh
    cases he
    obtain ⟨rfl, h0, hb, hn⟩ := hc
    have h1 := hx l (by simp [Op.operands])
    have h2 := hx m (by simp [Op.operands])
    rw [hfl] at h1
    rw [hfm] at h2
    have g1 : ρ l = .int .i64 n := by generalize ρ l = u at h1; cases h1; rfl
    have g2 : ρ m = .int .i64 n := by generalize ρ m = u at h2; cases h2; rfl
    obtain ⟨v, w', φ', hr, x, hS', hv⟩ := ms_made (P := P) hS ht hz hsh h0 hb hn
    refine fin (v := v) ?_ x hS' hv
    rw [g1, g2]
    exact hr
  | makeMap t r =>
    rw [hop] at he hx
    cases r with
    | some r => simp [aeff] at he
    | none =>
      simp only [aeff, ckmk, ckand] at he
      cases he
      have x : Ext S (({ S with w := S.w.alloc (.map #[] 0) } : St).push (.map (some S.w.heap.size)) (.map [])) := ext_push (ext_alloc hS _) hS rfl rfl _ _ (by intro n hn; simp [blk] at hn; omega)
      have hS' : SRel (({ S with w := S.w.alloc (.map #[] 0) } : St).push (.map (some S.w.heap.size)) (.map [])) :=
        srel_push hS x rfl rfl rfl (fun n hn => Below.heap_alloc _ _ _ hn) ⟨S.w.heap.size, 0, #[], rfl, heap_alloc_new S.w _, rfl, by simp, by simp⟩ (by intro n hn; simp [blk] at hn; omega)
      exact fin (v := .map (some S.w.heap.size)) (w' := S.w.alloc (.map #[] 0)) (φ' := S.φ ++ [.map (some S.w.heap.size)]) rfl x hS' (.mp (es := []) (by simp [St.push, ← hS.len]) (by simp [St.push]))
  | call cl =>
    rw [hop] at he hx
    simp only [aeff, ckmk, ckand] at he
    split at he
    case h_2 => cases he
    rename_i s y t t' hcl hca hct
    split at he
    case isFalse => cases he
    rename_i htt
    subst htt
    have e1 := arr_eq hca
    have e2 := arr_eq hct
    have hs := hx s (by simp [Op.operands, Call.operands, hcl, e1])
    have hy := hx y (by simp [Op.operands, Call.operands, hcl, e1])
    have done : ∀ {h' : Heap} {p : PV}, (∃ z w' φ', (Builtin.append_ #[t, t] o.type #[ρ s, ρ y]).run P S.w = .ok z w' ∧ Ext S { S with φ := φ', h := h', w := w' } ∧ SRel { S with φ := φ', h := h', w := w' } ∧ VRel { S with φ := φ', h := h', w := w' } p z) →
        ∃ φ' w', Ext S { S with φ := φ', h := h', w := w' } ∧ SRel { S with φ := φ', h := h', w := w' } ∧
        ((∃ v, Sem.run P (do let d ← resolve ρ cl o.type; invoke d.target d.args : Sem Next) S.w = .ok (.value v) w' ∧ VRel { S with φ := φ', h := h', w := w' } p v) ∨ (Sem.run P (do let d ← resolve ρ cl o.type; invoke d.target d.args : Sem Next) S.w = .ok .skip w' ∧ p = .ud)) := by
      rintro h' p ⟨z, w', φ', hr, x, hS', hv⟩
      refine ⟨φ', w', x, hS', .inl ⟨z, ?_, hv⟩⟩
      simp [resolve, invoke, builtin, hcl, e1, e2, hr]
    unfold aappend at he
    simp only [ckmk, ckand] at he
    split at he
    · cases he
    · rename_i e k b ht
      split at he
      · cases he
      · rename_i xs hxs
        split at he
        · rename_i hfs
          cases he
          rw [hfs] at hs
          exact done (append_nil hS ht hs hxs hy hc.1 hc.2)
        · rename_i r k' els hfs
          split at he
          case h_2 => cases he
          rename_i e' k2 n hb
          split at he
          case isFalse => cases he
          rename_i hcond
          obtain ⟨rfl, rfl, rfl⟩ := hcond
          cases he
          obtain ⟨rfl, h1, h2⟩ := hc
          rw [hfs] at hs
          exact done (append_vec hS ht hs hb hxs hy h1 h2)
        · rename_i k' els hfs
          split at he
          case isFalse => cases he
          rename_i hk
          subst hk
          cases he
          obtain ⟨h0, h1, h2⟩ := hc
          rw [hfs] at hs
          exact done (append_tc hS ht hs hxs hy h1 h2 h0)
        · cases he
  | _ => rw [hop] at he; cases he
end Go.AL
