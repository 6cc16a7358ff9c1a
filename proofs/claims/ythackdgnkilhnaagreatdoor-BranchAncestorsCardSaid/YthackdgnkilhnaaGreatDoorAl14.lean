/-
  New blocks in places that were kept free for them.
-/
import Derived.Test.YthackdgnkilhnaaGreatDoorAl13
set_option linter.unusedSimpArgs false
set_option linter.unusedVariables false
namespace Go.AL
open Go.RowKit

/-- A block just laid is taken into a free place. -/
def St.fill (S : St) (r : Nat) (v : Value) (b : Blk) : St := { S with φ := S.φ.set r v, h := S.h.set r b }

theorem ext_fill {S S1 : St} (x : Ext S S1) (hS : SRel S) (hl1 : S1.φ = S.φ) (hh1 : S1.h = S.h) {r : Nat} (hr : S.h[r]? = some .non) (v : Value) (b : Blk) (hb : ∀ n, blk v = some n → S.w.heap.size ≤ n) : Ext S (S1.fill r v b) := by
  refine ⟨x.x, x.os, x.tape, x.output, x.size, fun n hn ho => ⟨?_, (x.unt n hn ho).2⟩, fun a u hm => ?_, fun r' c hc => ?_, x.rows⟩
  · rintro ⟨r', u, hp, hu⟩
    simp only [St.fill, hl1, List.getElem?_set] at hp
    split at hp
    · split at hp
      · cases hp
        have := hb n hu
        omega
      · cases hp
    · exact ho ⟨r', u, hp, hu⟩
  · obtain ⟨h1, h2, h3, h4, h5, h6⟩ := x.mem a u hm
    have hlt := hm.2.2.2.1
    refine ⟨h1, h2, h3, h4, h5, fun r' y hp hy => ?_⟩
    simp only [St.fill, List.getElem?_set] at hp ⊢
    split at hp
    · split at hp
      · cases hp
        have := hb _ hy
        omega
      · cases hp
    · rename_i hne
      obtain ⟨e, k, n, hh, ho⟩ := h6 r' y hp hy
      exact ⟨e, k, n, by rw [if_neg hne]; exact hh, ho⟩
  · by_cases hne : r = r'
    · subst hne
      rw [hr] at hc
      cases hc
      have hlt : r < S.h.length := (List.getElem?_eq_some_iff.1 hr).1
      exact ⟨b, by simp [St.fill, hh1, hlt], trivial⟩
    · refine ⟨c, ?_, Blk.le_refl c ?_⟩
      · simp only [St.fill, hh1, List.getElem?_set, if_neg hne]; exact hc
      · simp only [St.fill, hl1, List.getElem?_set, if_neg hne]

theorem srel_fill {S S1 : St} {v : Value} {b : Blk} {r : Nat} (hS : SRel S) (hr : S.h[r]? = some .non) (x : Ext S (S1.fill r v b)) (hφ : S1.φ = S.φ) (hh : S1.h = S.h) (hx : S1.x = S.x)
    (hw : ∀ n, n < S.w.heap.size → S1.w.heap[n]? = S.w.heap[n]?) (hnew : BRel (S1.fill r v b) b v) (hno : ∀ n, blk v = some n → S.w.heap.size ≤ n) : SRel (S1.fill r v b) := by
  have hlt : r < S.h.length := (List.getElem?_eq_some_iff.1 hr).1
  have get : ∀ {α : Type} {l : List α} {y z : α} {r' : Nat}, (l.set r y)[r']? = some z → (r = r' ∧ z = y) ∨ (r ≠ r' ∧ l[r']? = some z) := by
    intro α l y z r' h
    rw [List.getElem?_set] at h
    split at h
    · rename_i e
      split at h
      · cases h; exact .inl ⟨e, rfl⟩
      · cases h
    · rename_i e; exact .inr ⟨e, h⟩
  refine ⟨by simp [St.fill, hφ, hh, hS.len], fun r' c u hb hvv => ?_, fun r1 r2 u u' n hp hp' hn hn' => ?_, fun a ha => ?_, fun a ha r' u hp => ?_⟩
  · simp only [St.fill, hφ, hh] at hb hvv
    rcases get hb with ⟨e, rfl⟩ | ⟨e, hb⟩ <;> rcases get hvv with ⟨e', rfl⟩ | ⟨e', hvv⟩
    · exact hnew
    · exact absurd e e'
    · exact absurd e' e
    · exact (hS.blks r' c u hb hvv).ext x fun n hn => hw n (hS.own_lt ⟨r', u, hvv, hn⟩)
  · simp only [St.fill, hφ] at hp hp'
    rcases get hp with ⟨e, e1⟩ | ⟨e, g1⟩ <;> rcases get hp' with ⟨e', e2⟩ | ⟨e', g2⟩
    · omega
    · have h1 := hno n (e1 ▸ hn); have h2 := hS.own_lt ⟨r2, u', g2, hn'⟩; omega
    · have h1 := hno n (e2 ▸ hn'); have h2 := hS.own_lt ⟨r1, u, g1, hn⟩; omega
    · exact hS.inj r1 r2 u u' n g1 g2 hn hn'
  · have := hS.xlt a (by simpa [St.fill, hx] using ha)
    exact Nat.lt_of_lt_of_le this x.size
  · have hxa : S.x a := by simpa [St.fill, hx] using ha
    simp only [St.fill, hφ] at hp
    rcases get hp with ⟨_, rfl⟩ | ⟨_, hp⟩
    · intro hb
      have h1 := hno _ hb
      have h2 := hS.xlt a hxa
      omega
    · exact hS.xown a hxa r' u hp

theorem fill_var {S : St} (hS : SRel S) {r : Nat} (hr : S.h[r]? = some .non) (t : TypeId) (cs : List PV) (vs : Array Value) (hc : CRel S cs vs) :
    let S' := ({ S with w := S.w.alloc (.cells vs t) } : St).fill r (.pointer (some ⟨S.w.heap.size, 0, none⟩)) (.var t cs)
    Ext S S' ∧ SRel S' ∧ S'.φ[r]? = some (.pointer (some ⟨S.w.heap.size, 0, none⟩)) ∧ S'.h[r]? = some (.var t cs) := by
  intro S'
  have hlt : r < S.h.length := (List.getElem?_eq_some_iff.1 hr).1
  have x : Ext S S' := ext_fill (ext_alloc hS _) hS rfl rfl hr _ _ (by intro n hn; simp [blk] at hn; omega)
  refine ⟨x, srel_fill hS hr x rfl rfl rfl (fun n hn => Below.heap_alloc _ _ _ hn) ⟨S.w.heap.size, vs, rfl, heap_alloc_new _ _, Nat.le_of_eq hc.len.symm, hc.one, fun i p u hp hu => (hc.rel i p u hp hu).ext x⟩ (by intro n hn; simp [blk] at hn; omega), ?_, ?_⟩
  · simp [S', St.fill, hS.len, hlt]
  · simp [S', St.fill, hlt]

/-- An operation that lays a block, into a free place: what it yields, and the block. -/
def dalloc {α : Type} [CK α] (P : Program) (r : Nat) (f : Operand → PV) : Op → Option (PV × Blk × α)
  | .alloc t => match tzero P t with
    | some z => if shaped (ofC z) then some (.ptr r 0, .var t (pcells (ofC z)), CK.cnd True) else none
    | none => none
  | .box t x => if shaped (f x) then some (.ptr r 0, .var t (pcells (f x)), CK.cnd True) else none
  | .makeSlice t l c => match tapp P t with
    | some (e, k, b) => match tzero P e, f l, f c with
      | some z, .sc (.int .i64 n), .sc (.int .i64 m) => if shaped (ofC z) then
          some (.ms r 0 k n.toNat, .var e (List.replicate n.toNat (pcells (ofC z))).flatten, CK.cnd (n = m ∧ 0 ≤ n ∧ n * b ≤ 140737488355328 ∧ n ≤ 140737488355328)) else none
      | _, _, _ => none
    | none => none
  | _ => none

theorem dalloc_ok {P : Program} {S : St} {ρ : Operand → Value} {f : Operand → PV} {o : Oper} {r : Nat} {p : PV} {b : Blk} {c : Prop} (hS : SRel S) (hx : ∀ x ∈ o.op.operands, VRel S (f x) (ρ x)) (hr : S.h[r]? = some .non)
    (he : dalloc P r f o.op = some (p, b, c)) (hc : c) : ∃ φ' w' v, (execOp ρ o).run P S.w = .ok (.value v) w' ∧ Ext S { S with φ := φ', h := S.h.set r b, w := w' } ∧ SRel { S with φ := φ', h := S.h.set r b, w := w' } ∧
      VRel { S with φ := φ', h := S.h.set r b, w := w' } p v := by
  have fin : ∀ {s : Sem Value} {φ' : List Value} {w' : World} {v : Value}, s.run P S.w = .ok v w' → Ext S { S with φ := φ', h := S.h.set r b, w := w' } → SRel { S with φ := φ', h := S.h.set r b, w := w' } → VRel { S with φ := φ', h := S.h.set r b, w := w' } p v →
      ∃ φ' w' v, Sem.run P (do pure (.value (← s)) : Sem Next) S.w = .ok (.value v) w' ∧ Ext S { S with φ := φ', h := S.h.set r b, w := w' } ∧ SRel { S with φ := φ', h := S.h.set r b, w := w' } ∧
      VRel { S with φ := φ', h := S.h.set r b, w := w' } p v := by
    intro s φ' w' v hr x hs hv
    exact ⟨φ', w', v, by simp only [Sem.run_bind, hr, Result.andThen_ok, Sem.run_pure], x, hs, hv⟩
  unfold execOp
  cases hop : o.op with
  | alloc t =>
    rw [hop] at he hx
    simp only [dalloc, ckmk, ckand] at he
    split at he
    case h_2 => cases he
    rename_i z hz
    split at he
    case isFalse => cases he
    rename_i hsh
    cases he
    obtain ⟨x, hS', hp, hb⟩ := fill_var hS hr t _ _ (crel_shaped (S := S) hsh (ofC_rel S z))
    exact fin (w' := S.w.alloc (.cells z.cells t)) (by simp [Instr.alloc, run_zero hz, newVar, newRow]) x hS' (.ptr hp hb)
  | box t y =>
    rw [hop] at he hx
    simp only [dalloc, ckmk, ckand] at he
    split at he
    case isFalse => cases he
    rename_i hsh
    cases he
    obtain ⟨x, hS', hp, hb⟩ := fill_var hS hr t _ _ (crel_shaped (S := S) hsh (hx y (by simp [Op.operands])))
    exact fin (w' := S.w.alloc (.cells (ρ y).cells t)) (by simp [Instr.box, newVar, newRow]) x hS' (.ptr hp hb)
  | makeSlice t l m =>
    rw [hop] at he hx
    simp only [dalloc, ckmk, ckand] at he
    split at he
    case h_2 => cases he
    rename_i e k by' ht
    split at he
    case h_2 => cases he
    rename_i z n m' hz hfl hfm
    split at he
    case isFalse => cases he
    rename_i hsh
    cases he
    obtain ⟨rfl, h0, hb, hn⟩ := hc
    have h1 := hx l (by simp [Op.operands])
    have h2 := hx m (by simp [Op.operands])
    rw [hfl] at h1
    rw [hfm] at h2
    have g1 : ρ l = .int .i64 n := by generalize ρ l = u at h1; cases h1; rfl
    have g2 : ρ m = .int .i64 n := by generalize ρ m = u at h2; cases h2; rfl
    obtain ⟨htu, i, zv, hi, hzv, hsz, hby, hzs, hk0⟩ := tapp_inv ht
    have : z = zv := by unfold tzero at hz; rw [hi] at hz; simp [hzv] at hz; exact hz.symm
    subst this
    obtain ⟨m, rfl⟩ := Int.eq_ofNat_of_zero_le h0
    have hc := zero_cells (S := S) hsh m
    have hrun := run_make (P := P) S.w t e i z htu hi hzv .i64 .i64 m m h0 (Int.le_refl _) (by rw [hby, Int.mul_comm]; omega) (by omega)
    rw [Int.toNat_natCast] at hrun ⊢
    obtain ⟨x, hS', hp, hb'⟩ := fill_var hS hr e _ _ hc
    have hmx : (140737488355328 : Nat) ≤ maxLen := by simp [maxLen]
    have e0 : m * k = m * z.cells.size := by rw [hzs]
    have e1 : madeCells z.cells (m * k) = (Array.range (m * z.cells.size)).map (z.cells[· % z.cells.size]!) := by rw [e0]; rfl
    rw [hsz, e1] at hrun
    refine fin (by rw [g1, g2]; exact hrun) x hS' ?_
    have hlen : ((List.replicate m (pcells (ofC z))).flatten).length = m * k := by rw [← hc.len]; simp [hzs]
    have hrow : ∀ cs0, St.Row (({ S with w := S.w.alloc (.cells ((Array.range (m * z.cells.size)).map (z.cells[· % z.cells.size]!)) e) } : St).fill r (.pointer (some ⟨S.w.heap.size, 0, none⟩)) cs0) S.w.heap.size (0 + m * k) := fun cs0 => ⟨_, _, _, heap_alloc_new _ _, by simp [hzs]⟩
    exact .ms hp hb' (by rw [hlen, Int.toNat_natCast]; omega) (Nat.le_refl _) (by omega) (hrow _)
  | _ => rw [hop] at he; cases he

theorem dalloc_ck {P : Program} {r : Nat} {f : Operand → PV} {op : Op} {p : PV} {b : Blk} (e : dalloc P r f op = some (p, b, true)) : ∃ c : Prop, dalloc P r f op = some (p, b, c) ∧ c := by
  have k : CkRel (γ := PV × Blk) ((dalloc P r f op).map fun r => ((r.1, r.2.1), r.2.2)) ((dalloc P r f op).map fun r => ((r.1, r.2.1), r.2.2)) := by
    cases op <;> simp only [dalloc] <;> (repeat' split)
    all_goals first | exact ckrel_none | exact ckrel_some (γ := PV × Blk) (_, _) _
  rw [e] at k
  cases hc : dalloc (α := Prop) P r f op with
  | none => rw [hc] at k; exact k.elim
  | some r => rw [hc] at k; obtain ⟨q, hh, c⟩ := r; obtain ⟨hq, k⟩ := k; cases hq; exact ⟨c, rfl, k rfl⟩

/-- The list with free places at its end. -/
def room (h : Heap) (m : Nat) : Heap := h ++ List.replicate m .non

theorem room_ok {S : St} (hS : SRel S) (m : Nat) : Ext S ⟨S.φ ++ List.replicate m undef, room S.h m, S.w, S.x⟩ ∧ SRel ⟨S.φ ++ List.replicate m undef, room S.h m, S.w, S.x⟩ := by
  have old : ∀ {r : Nat} {v : Value} {n : Nat}, (S.φ ++ List.replicate m undef)[r]? = some v → blk v = some n → S.φ[r]? = some v := by
    intro r v n h hb
    rw [List.getElem?_append] at h
    split at h
    · exact h
    · rw [List.getElem?_replicate] at h
      split at h
      · cases h; simp [blk, undef] at hb
      · cases h
  have x : Ext S ⟨S.φ ++ List.replicate m undef, room S.h m, S.w, S.x⟩ := by
    refine ⟨rfl, rfl, rfl, rfl, Nat.le_refl _, fun b hb ho => ⟨?_, rfl⟩, fun a v hm => ?_, fun r b hb => ?_, fun _ _ h => h⟩
    · rintro ⟨r, v, hv, hbv⟩
      exact ho ⟨r, v, old hv hbv, hbv⟩
    · obtain ⟨h1, h2, h3, h4, h5, h6⟩ := hm
      refine ⟨h1, h2, h3, h4, h5, fun r v hv hb => ?_⟩
      obtain ⟨e, k, n, hh, ho⟩ := h6 r v (old hv hb) hb
      have hlt : r < S.h.length := (List.getElem?_eq_some_iff.1 hh).1
      exact ⟨e, k, n, by simp only [room]; rw [List.getElem?_append, if_pos hlt]; exact hh, ho⟩
    · have hlt : r < S.h.length := (List.getElem?_eq_some_iff.1 hb).1
      have hlt' : r < S.φ.length := by rw [hS.len]; exact hlt
      exact ⟨b, by simp only [room]; rw [List.getElem?_append, if_pos hlt]; exact hb, Blk.le_refl b (by simp only []; rw [List.getElem?_append, if_pos hlt'])⟩
  refine ⟨x, ⟨by simp [room, hS.len], fun r b v hb hv => ?_, fun r r' v v' n hv hv' hb hb' => hS.inj r r' v v' n (old hv hb) (old hv' hb') hb hb', hS.xlt, fun a ha r v hv hb => hS.xown a ha r v (old hv hb) hb⟩⟩
  by_cases hlt : r < S.h.length
  · have hlt' : r < S.φ.length := by rw [hS.len]; exact hlt
    simp only [room, List.getElem?_append, if_pos hlt] at hb
    simp only [List.getElem?_append, if_pos hlt'] at hv
    exact (hS.blks r b v hb hv).ext x fun n _ => rfl
  · have hlt' : ¬ r < S.φ.length := by rw [hS.len]; exact hlt
    simp only [room, List.getElem?_append, if_neg hlt, List.getElem?_replicate] at hb
    simp only [List.getElem?_append, if_neg hlt', List.getElem?_replicate] at hv
    split at hb
    · cases hb
      split at hv
      · cases hv; rfl
      · cases hv
    · cases hb
end Go.AL
