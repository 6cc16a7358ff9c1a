/-
  New blocks, stores, appends: the steps that turn what a call owns.
-/
import Derived.Test.YthackdgnkilhnaaGreatDoorAl3f
import Derived.Maps.AppendAt
set_option linter.unusedSimpArgs false
set_option linter.unusedVariables false
namespace Go.AL
open Go.RowKit

def pcells : PV → List PV
  | .agg cs => cs
  | p => [p]

/-- A value of one cell or an aggregate: not one of which nothing is known. -/
def shaped : PV → Bool
  | .un | .ud | .tup _ => false
  | _ => true

theorem shaped_rel {S : St} {p : PV} {v : Value} (h : shaped p = true) (hv : VRel S p v) :
    v.cells.size = (pcells p).length ∧ (∀ (i : Nat) (u : Value), v.cells[i]? = some u → u.oneCell' = true) ∧
      ∀ (i : Nat) (q : PV) (u : Value), (pcells p)[i]? = some q → v.cells[i]? = some u → VRel S q u := by
  have one : ∀ {p : PV} {v : Value}, pcells p = [p] → v.cells = #[v] → v.oneCell' = true → VRel S p v →
      v.cells.size = (pcells p).length ∧ (∀ (i : Nat) (u : Value), v.cells[i]? = some u → u.oneCell' = true) ∧
      ∀ (i : Nat) (q : PV) (u : Value), (pcells p)[i]? = some q → v.cells[i]? = some u → VRel S q u := by
    intro p v h1 h2 h3 h4
    rw [h1, h2]
    refine ⟨rfl, fun i u hu => ?_, fun i q u hq hu => ?_⟩
    · cases i with
      | zero => simp at hu; subst hu; exact h3
      | succ i => simp at hu
    · cases i with
      | zero => simp at hu hq; subst hu; subst hq; exact h4
      | succ i => simp at hu
  have hv' := hv
  cases hv with
  | un => simp [shaped] at h
  | ud => simp [shaped] at h
  | tup => simp [shaped] at h
  | agg hl h1 hc => exact ⟨hl, h1, hc⟩
  | sc hs => cases v <;> first | exact one rfl rfl rfl hv' | (simp [okSc] at hs)
  | nil => exact one rfl rfl rfl hv'
  | ts => exact one rfl rfl rfl hv'
  | tc => exact one rfl rfl rfl hv'
  | vec ht => cases ht; exact one rfl rfl rfl hv'
  | ms => exact one rfl rfl rfl hv'
  | oms => exact one rfl rfl rfl hv'
  | ptr => exact one rfl rfl rfl hv'
  | optr => exact one rfl rfl rfl hv'
  | tp => exact one rfl rfl rfl hv'
  | fn => exact one rfl rfl rfl hv'
  | ifc => exact one rfl rfl rfl hv'
  | mp => exact one rfl rfl rfl hv'
  | yl => exact one rfl rfl rfl hv'

theorem SRel.own_lt {S : St} (h : SRel S) {b : Nat} (ho : S.Own b) : b < S.w.heap.size := by
  obtain ⟨r, v, hp, hb⟩ := ho
  have hr : r < S.h.length := by rw [← h.len]; exact (List.getElem?_eq_some_iff.1 hp).1
  have hk := h.blks r S.h[r] v (List.getElem?_eq_getElem hr) hp
  have lt : ∀ {n : Nat} {o : Obj}, S.w.heap[n]? = some o → n < S.w.heap.size := fun h => (Array.getElem?_eq_some_iff.1 h).1
  cases hc : S.h[r] with
  | var t cs => rw [hc] at hk; obtain ⟨b', arr, rfl, hh, _⟩ := hk; simp [blk] at hb; subst hb; exact lt hh
  | vec e k n =>
    rw [hc] at hk
    rcases hk with ⟨rfl, _⟩ | ⟨b', c, arr, rfl, hh, _⟩
    · simp [blk] at hb
    · simp [blk] at hb; subst hb; exact lt hh
  | map es => rw [hc] at hk; obtain ⟨b', cl, en, rfl, hh, _⟩ := hk; simp [blk] at hb; subst hb; exact lt hh
  | loop ts ps as bd st pd => rw [hc] at hk; obtain ⟨b', L, rfl, hh, _⟩ := hk; simp [blk] at hb; subst hb; exact lt hh
  | non => rw [hc] at hk; rw [show blk v = none from hk] at hb; cases hb
  | old => rw [hc] at hk; rw [show blk v = none from hk] at hb; cases hb

/-- A new block that nobody writes: its cells stand still. -/
theorem ext_alloc {S : St} (hS : SRel S) (o : Obj) : Ext S { S with w := S.w.alloc o } := by
  refine ⟨rfl, rfl, rfl, rfl, by simp, fun b hb hn => ⟨hn, Below.heap_alloc _ _ _ hb⟩, fun a v hm => ?_, fun r b hb => ⟨b, hb, Blk.le_refl b rfl⟩, fun b m ⟨arr, t, f, hr, hm⟩ => ⟨arr, t, f, (Below.heap_alloc _ _ _ (Array.getElem?_eq_some_iff.1 hr).1).trans hr, hm⟩⟩
  obtain ⟨h1, h2, h3, h4, h5, h6⟩ := hm
  exact ⟨(World.cell?_alloc_lt _ _ _ h4).trans h1, h2, h3, by simp; omega, h5, h6⟩

theorem BRel.ext {S S' : St} {b : Blk} {v : Value} (h : BRel S b v) (x : Ext S S') (hh : ∀ n, blk v = some n → S'.w.heap[n]? = S.w.heap[n]?) : BRel S' b v := by
  cases b with
  | var t cs =>
    obtain ⟨b', arr, rfl, h1, h2, h3, h4⟩ := h
    exact ⟨b', arr, rfl, (hh b' rfl).trans h1, h2, h3, fun i p u hp hu => (h4 i p u hp hu).ext x⟩
  | vec e k n =>
    rcases h with h | ⟨b', c, arr, rfl, h1, h2⟩
    · exact .inl h
    · exact .inr ⟨b', c, arr, rfl, (hh b' rfl).trans h1, h2⟩
  | map es =>
    obtain ⟨b', cl, en, rfl, h1, h2, h3, h4⟩ := h
    exact ⟨b', cl, en, rfl, (hh b' rfl).trans h1, h2, h3, fun i e q he hq => ⟨(h4 i e q he hq).1, (h4 i e q he hq).2.ext x⟩⟩
  | loop ts ps as bd st pd => obtain ⟨b', L, rfl, h1, h2, h3, h4, h5, h6, h7, h8⟩ := h; exact ⟨b', L, rfl, (hh b' rfl).trans h1, h2, h3, h4, h5, h6, h7, fun i p hp => (h8 i p hp).ext x⟩
  | non => exact h
  | old => exact h

theorem srel_alloc {S : St} (hS : SRel S) (o : Obj) : SRel { S with w := S.w.alloc o } :=
  ⟨hS.len, fun r b v hb hv => (hS.blks r b v hb hv).ext (ext_alloc hS o) fun n hn => Below.heap_alloc _ _ _ (hS.own_lt ⟨r, v, hv, hn⟩), hS.inj,
    fun a ha => by have := hS.xlt a ha; simp; omega, hS.xown⟩

/-- A block just laid is taken into the list. -/
def St.push (S : St) (v : Value) (b : Blk) : St := { S with φ := S.φ ++ [v], h := S.h ++ [b] }

/-- The list grows by a block that lies at or beyond 'n', the heap's size as it was. -/
theorem ext_push {S S1 : St} (x : Ext S S1) (hS : SRel S) (hl1 : S1.φ = S.φ) (hh1 : S1.h = S.h) (v : Value) (b : Blk) (hb : ∀ n, blk v = some n → S.w.heap.size ≤ n) : Ext S (S1.push v b) := by
  refine ⟨x.x, x.os, x.tape, x.output, x.size, fun n hn ho => ⟨?_, (x.unt n hn ho).2⟩, fun a u hm => ?_, fun r c hc => ?_, x.rows⟩
  · rintro ⟨r, u, hp, hu⟩
    simp only [St.push, hl1, List.getElem?_append] at hp
    split at hp
    · exact ho ⟨r, u, hp, hu⟩
    · rename_i hr
      have : u = v := by
        cases hk : r - S.φ.length with
        | zero => rw [hk] at hp; simpa using hp.symm
        | succ k => rw [hk] at hp; simp at hp
      subst this
      have := hb n hu
      omega
  · obtain ⟨h1, h2, h3, h4, h5, h6⟩ := x.mem a u hm
    have hlt := hm.2.2.2.1
    refine ⟨h1, h2, h3, h4, h5, fun r y hp hy => ?_⟩
    simp only [St.push, List.getElem?_append] at hp ⊢
    split at hp
    · obtain ⟨e, k, n, hh, ho⟩ := h6 r y hp hy
      have hr : r < S1.h.length := (List.getElem?_eq_some_iff.1 hh).1
      exact ⟨e, k, n, by rw [if_pos hr]; exact hh, ho⟩
    · have : y = v := by
        cases hk : r - S1.φ.length with
        | zero => rw [hk] at hp; simpa using hp.symm
        | succ k => rw [hk] at hp; simp at hp
      subst this
      have := hb _ hy
      omega
  · have hr : r < S.h.length := (List.getElem?_eq_some_iff.1 hc).1
    refine ⟨c, ?_, Blk.le_refl c ?_⟩
    · simp only [St.push, hh1, List.getElem?_append, if_pos hr]; exact hc
    · have hr' : r < S.φ.length := by rw [hS.len]; exact hr
      simp only [St.push, hl1, List.getElem?_append, if_pos hr']

theorem srel_push {S S1 : St} {v : Value} {b : Blk} (hS : SRel S) (x : Ext S (S1.push v b)) (hφ : S1.φ = S.φ) (hh : S1.h = S.h) (hx : S1.x = S.x) (hw : ∀ n, n < S.w.heap.size → S1.w.heap[n]? = S.w.heap[n]?)
    (hnew : BRel (S1.push v b) b v) (hno : ∀ n, blk v = some n → S.w.heap.size ≤ n) : SRel (S1.push v b) := by
  have last : ∀ {α : Type} {l : List α} {y z : α} {r : Nat}, ¬ r < l.length → (l ++ [y])[r]? = some z → r = l.length ∧ z = y := by
    intro α l y z r hr h
    rw [List.getElem?_append, if_neg hr] at h
    cases hk : r - l.length with
    | zero => rw [hk] at h; simp at h; exact ⟨by omega, h.symm⟩
    | succ k => rw [hk] at h; simp at h
  refine ⟨by simp [St.push, hφ, hh, hS.len], fun r c u hb hvv => ?_, fun r r' u u' n hp hp' hn hn' => ?_, fun a ha => ?_, fun a ha r u hp => ?_⟩
  · simp only [St.push, hφ, hh] at hb hvv
    by_cases hr : r < S.h.length
    · rw [List.getElem?_append, if_pos hr] at hb
      rw [List.getElem?_append, if_pos (by rw [hS.len]; exact hr)] at hvv
      exact (hS.blks r c u hb hvv).ext x fun n hn => hw n (hS.own_lt ⟨r, u, hvv, hn⟩)
    · obtain ⟨_, rfl⟩ := last hr hb
      obtain ⟨_, rfl⟩ := last (by rw [hS.len]; exact hr) hvv
      exact hnew
  · simp only [St.push, hφ] at hp hp'
    have key : ∀ (r : Nat) (u : Value), (S.φ ++ [v])[r]? = some u → blk u = some n → (r < S.φ.length ∧ S.φ[r]? = some u ∧ n < S.w.heap.size) ∨ (r = S.φ.length ∧ S.w.heap.size ≤ n) := by
      intro r u hp hn
      by_cases hr : r < S.φ.length
      · rw [List.getElem?_append, if_pos hr] at hp
        exact .inl ⟨hr, hp, hS.own_lt ⟨r, u, hp, hn⟩⟩
      · obtain ⟨h1, rfl⟩ := last hr hp
        exact .inr ⟨h1, hno n hn⟩
    rcases key r u hp hn with ⟨a, b, c⟩ | ⟨a, b⟩ <;> rcases key r' u' hp' hn' with ⟨a', b', c'⟩ | ⟨a', b'⟩
    · exact hS.inj r r' u u' n b b' hn hn'
    · omega
    · omega
    · omega
  · have := hS.xlt a (by simpa [St.push, hx] using ha)
    exact Nat.lt_of_lt_of_le this x.size
  · have hxa : S.x a := by simpa [St.push, hx] using ha
    simp only [St.push, hφ] at hp
    by_cases hr : r < S.φ.length
    · rw [List.getElem?_append, if_pos hr] at hp
      exact hS.xown a hxa r u hp
    · obtain ⟨_, rfl⟩ := last hr hp
      intro hb
      have h1 := hno _ hb
      have h2 := hS.xlt a hxa
      omega

/-- 'var': a variable, an array, a box: a new block of known cells. -/
theorem new_var {S : St} (hS : SRel S) (t : TypeId) (cs : List PV) (vs : Array Value) (hl : vs.size = cs.length) (h1 : ∀ (i : Nat) (u : Value), vs[i]? = some u → u.oneCell' = true)
    (hv : ∀ (i : Nat) (p : PV) (u : Value), cs[i]? = some p → vs[i]? = some u → VRel S p u) :
    let S' := ({ S with w := S.w.alloc (.cells vs t) } : St).push (.pointer (some ⟨S.w.heap.size, 0, none⟩)) (.var t cs)
    Ext S S' ∧ SRel S' ∧ VRel S' (.ptr S.h.length 0) (.pointer (some ⟨S.w.heap.size, 0, none⟩)) := by
  intro S'
  have x : Ext S S' := ext_push (ext_alloc hS _) hS rfl rfl _ _ (by intro n hn; simp [blk] at hn; omega)
  refine ⟨x, srel_push hS x rfl rfl rfl (fun n hn => Below.heap_alloc _ _ _ hn) ⟨S.w.heap.size, vs, rfl, heap_alloc_new _ _, Nat.le_of_eq hl.symm, h1, fun i p u hp hu => (hv i p u hp hu).ext x⟩ (by intro n hn; simp [blk] at hn; omega), ?_⟩
  · refine .ptr (t := t) (cs := cs) ?_ ?_
    · simp [S', St.push, hS.len]
    · simp [S', St.push]

/-! ### A store -/

theorem Own_set {S : St} {r : Nat} {c : Blk} (w : World) {b : Nat} : St.Own { S with h := S.h.set r c, w := w } b ↔ S.Own b := Iff.rfl

/-- A variable's cells are written. -/
theorem ext_var {S : St} (hS : SRel S) {r b : Nat} {t : TypeId} {cs cs' : List PV} {arr' : Array Value} (hp : S.φ[r]? = some (.pointer (some ⟨b, 0, none⟩))) (hb : S.h[r]? = some (.var t cs))
    (hl : cs'.length = cs.length) {w' : World} (ho : w'.os = S.w.os) (ht : w'.tape = S.w.tape) (hu : w'.output = S.w.output) (hs : w'.heap.size = S.w.heap.size) (hw : ∀ k, k ≠ b → w'.heap[k]? = S.w.heap[k]?) (hz : ∀ b m, S.Row b m → St.Row { S with w := w' } b m) :
    Ext S { S with h := S.h.set r (.var t cs'), w := w' } := by
  have hr : r < S.h.length := (List.getElem?_eq_some_iff.1 hb).1
  have hown : ∀ n, ¬ S.Own n → n ≠ b := fun n hn e => hn ⟨r, _, hp, by subst e; rfl⟩
  refine ⟨rfl, ho, ht, hu, by simp only []; omega, fun n hn hno => ⟨hno, hw n (hown n hno)⟩, fun a v hm => ?_, fun r' c hc => ?_, hz⟩
  · obtain ⟨h1, h2, h3, h4, h5, h6⟩ := hm
    have hab : a.block ≠ b := fun e => by
      obtain ⟨e', k, n, hh, _⟩ := h6 r _ hp (by simp [blk, e])
      rw [hb] at hh
      cases hh
    refine ⟨(World.cell?_of_block (hw _ hab)).trans h1, h2, h3, by simp only []; omega, h5, fun r' v' hp' hv' => ?_⟩
    obtain ⟨e, k, n, hh, hlt⟩ := h6 r' v' hp' hv'
    refine ⟨e, k, n, ?_, hlt⟩
    have : r ≠ r' := fun e => by subst e; rw [hb] at hh; cases hh
    simp only [List.getElem?_set, if_neg this]
    exact hh
  · by_cases e : r = r'
    · subst e
      rw [hb] at hc
      cases hc
      refine ⟨.var t cs', by simp [hr], ?_⟩
      simp [Blk.le, hl]
    · exact ⟨c, by simp only [List.getElem?_set, if_neg e]; exact hc, Blk.le_refl c rfl⟩

theorem srel_var {S : St} (hS : SRel S) {r b : Nat} {t : TypeId} {cs cs' : List PV} {arr' : Array Value} (hp : S.φ[r]? = some (.pointer (some ⟨b, 0, none⟩))) (hb : S.h[r]? = some (.var t cs))
    (hl : cs'.length = cs.length) {w' : World} (ho : w'.os = S.w.os) (ht : w'.tape = S.w.tape) (hu : w'.output = S.w.output) (hs : w'.heap.size = S.w.heap.size) (hw : ∀ k, k ≠ b → w'.heap[k]? = S.w.heap[k]?) (hz : ∀ b m, S.Row b m → St.Row { S with w := w' } b m)
    (hnew : w'.heap[b]? = some (.cells arr' t (0, 0))) (hsz : cs'.length ≤ arr'.size) (h1 : ∀ (i : Nat) (u : Value), arr'[i]? = some u → u.oneCell' = true)
    (hv : ∀ (i : Nat) (p : PV) (u : Value), cs'[i]? = some p → arr'[i]? = some u → VRel S p u) :
    SRel { S with h := S.h.set r (.var t cs'), w := w' } := by
  have x := ext_var (arr' := arr') hS hp hb hl ho ht hu hs hw hz
  have hr : r < S.h.length := (List.getElem?_eq_some_iff.1 hb).1
  refine ⟨by simp [hS.len], fun r' c v hc hvv => ?_, hS.inj, fun a ha => by have := hS.xlt a ha; simp only []; omega, hS.xown⟩
  by_cases e : r = r'
  · subst e
    simp only [List.getElem?_set, if_pos hr, ↓reduceIte] at hc
    cases hc
    rw [hp] at hvv
    cases hvv
    exact ⟨b, arr', rfl, hnew, hsz, h1, fun i p u hpp hu => (hv i p u hpp hu).ext x⟩
  · simp only [List.getElem?_set, if_neg e] at hc
    refine (hS.blks r' c v hc hvv).ext x fun n hn => hw n fun en => ?_
    subst en
    exact e (hS.inj r r' _ v n hp hvv rfl hn)

def splice (cs : List PV) (o : Nat) (ps : List PV) : List PV := cs.take o ++ ps ++ cs.drop (o + ps.length)

theorem splice_step {α : Type} (l : List α) (n : Nat) (vs : List α) (v : α) (h : n < l.length) :
    (l.set n v).take (n + 1) ++ vs ++ (l.set n v).drop (n + 1 + vs.length) = l.take n ++ v :: vs ++ l.drop (n + (vs.length + 1)) := by
  have e1 : (l.set n v).take (n + 1) = l.take n ++ [v] := by
    rw [List.take_succ_eq_append_getElem (by simpa using h), List.take_set_of_le (Nat.le_refl n)]
    simp
  have e2 : (l.set n v).drop (n + 1 + vs.length) = l.drop (n + (vs.length + 1)) := by
    rw [List.drop_set_of_lt (by omega)]
    congr 1
    omega
  rw [e1, e2]
  simp

/-- Cells written one after the other into a block. -/
theorem run_storeCells_blk (P : Program) (g : Nat) (e : TypeId) : ∀ (vs : List Value) (o i : Nat) (cur : Array Value) (w : World), w.heap[g]? = some (.cells cur e (0, 0)) → o + i + vs.length ≤ cur.size → (∀ u ∈ vs, u.oneCell' = true) →
    ∃ w', (storeCells ⟨g, o, none⟩ vs i).run P w = .ok () w' ∧ w'.os = w.os ∧ w'.tape = w.tape ∧ w'.output = w.output ∧ w'.heap.size = w.heap.size ∧ (∀ k, k ≠ g → w'.heap[k]? = w.heap[k]?) ∧
      w'.heap[g]? = some (.cells (cur.toList.take (o + i) ++ vs ++ cur.toList.drop (o + i + vs.length)).toArray e (0, 0)) := by
  intro vs
  induction vs with
  | nil => intro o i cur w h _ _; exact ⟨w, rfl, rfl, rfl, rfl, rfl, fun _ _ => rfl, by simp [h]⟩
  | cons v vs ih =>
    intro o i cur w h hl h1
    simp only [List.length_cons] at hl
    have hc : w.cell? ⟨g, o + i, none⟩ = some cur[o + i] := by rw [cell_of_row _ _ _ _ _ _ h]; simp
    have hf : w.frozen? ⟨g, o + i, none⟩ = false := frozen_of_row _ _ _ _ _ h
    have hw1 := heap_setCell_same w g (o + i) cur e v h
    obtain ⟨w', hr, e1, e2, e3, e4, e5, e6⟩ := ih o (i + 1) (cur.setIfInBounds (o + i) v) (w.setCell ⟨g, o + i, none⟩ v) hw1 (by simp; omega) (fun u hu => h1 u (List.mem_cons_of_mem _ hu))
    refine ⟨w', ?_, e1, e2, e3, e4.trans (by simp), fun k hk => (e5 k hk).trans (heap_setCell_other _ _ _ _ hk), ?_⟩
    · simp only [storeCells, Addr.add_lit, Sem.run_bind, run_store P w _ v _ (h1 v (List.mem_cons_self ..)), hc, hf, Result.andThen_ok, Bool.false_eq_true, if_false]
      exact hr
    · rw [e6]
      show some (Obj.cells (((cur.setIfInBounds (o + i) v).toList.take (o + i + 1)) ++ vs ++ (cur.setIfInBounds (o + i) v).toList.drop (o + i + 1 + vs.length)).toArray e (0, 0)) = _
      rw [Array.toList_setIfInBounds, splice_step cur.toList (o + i) vs v (by simp; omega)]
      simp [Nat.add_assoc]

theorem store_ok {P : Program} {S : St} (hS : SRel S) {ty : TypeId} {r o sz : Nat} {t : TypeId} {cs : List PV} {p : PV} {u v : Value} (hb : S.h[r]? = some (.var t cs)) (hu : VRel S (.ptr r o) u) (hsh : shaped p = true) (hv : VRel S p v)
    (hs : tsize P ty = some sz) (hp : (pcells p).length = sz) (hl : o + sz ≤ cs.length) :
    ∃ w', (Instr.storeAt ty u v).run P S.w = .ok () w' ∧ Ext S { S with h := S.h.set r (.var t (splice cs o (pcells p))), w := w' } ∧ SRel { S with h := S.h.set r (.var t (splice cs o (pcells p))), w := w' } := by
  obtain ⟨h1, h2, h3⟩ := shaped_rel hsh hv
  cases hu with
  | optr hb' => rw [hb] at hb'; cases hb'
  | ptr hp' hb' =>
    rename_i b t' cs'
    rw [hb] at hb'
    cases hb'
    obtain ⟨b0, arr, he, hh, hsz, ho1, hcs⟩ := hS.blks r _ _ hb hp'
    cases he
    obtain ⟨w', hr, e1, e2, e3, e4, e5, e6⟩ := run_storeCells_blk P b t v.cells.toList o 0 arr S.w hh (by simp; omega) (fun x hx => by
      obtain ⟨i, hi, rfl⟩ := List.getElem_of_mem hx
      exact h2 i _ (by simp at hi ⊢))
    have hsl : (splice cs o (pcells p)).length = cs.length := by simp [splice]; omega
    have hz : ∀ b m, S.Row b m → St.Row { S with w := w' } b m := by
      rintro b1 m ⟨ar, t1, f1, hr1, hm1⟩
      by_cases hb1 : b1 = b
      · subst hb1
        rw [hh] at hr1
        cases hr1
        exact ⟨_, _, _, e6, by simp; omega⟩
      · exact ⟨ar, t1, f1, (e5 b1 hb1).trans hr1, hm1⟩
    refine ⟨w', ?_, ext_var (arr' := arr) hS hp' hb hsl e1 e2 e3 e4 e5 hz, srel_var hS hp' hb hsl e1 e2 e3 e4 e5 hz e6 (by rw [hsl]; simp; omega) (fun i x hx => ?_) (fun i q x hq hx => ?_)⟩
    · simp only [Instr.storeAt, Instr.sureAddr, storeVar, Sem.run_bind, Sem.run_pure, Result.andThen_ok, run_sizeOf' hs]
      rw [if_neg (by omega)]
      exact hr
    all_goals
      simp only [Nat.add_zero, List.getElem?_toArray, List.getElem?_append, List.length_take, Array.length_toList, List.length_append, List.getElem?_take, List.getElem?_drop, Array.getElem?_toList] at hx
    · split at hx
      · split at hx
        · split at hx
          · exact ho1 _ x hx
          · cases hx
        · exact h2 _ x hx
      · exact ho1 _ x hx
    · simp only [splice, List.getElem?_append, List.length_take, List.length_append, List.getElem?_take, List.getElem?_drop] at hq
      have m1 : min o arr.size = o := by omega
      have m2 : min o cs.length = o := by omega
      rw [m1] at hx
      rw [m2] at hq
      by_cases c1 : i < o
      · rw [if_pos (by omega), if_pos c1, if_pos c1] at hx
        rw [if_pos (by omega), if_pos c1, if_pos c1] at hq
        exact hcs i q x hq hx
      · by_cases c2 : i < o + sz
        · rw [if_pos (by omega), if_neg c1] at hx
          rw [if_pos (by omega), if_neg c1] at hq
          exact h3 _ q x hq hx
        · rw [if_neg (by omega)] at hx hq
          refine hcs _ q x hq ?_
          rw [← hx]
          congr 1
          omega
end Go.AL
