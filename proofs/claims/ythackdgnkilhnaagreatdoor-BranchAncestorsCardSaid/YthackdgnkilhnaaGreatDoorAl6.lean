/-
  append: onto nil, onto a slice of the call's own.
-/
import Derived.Test.YthackdgnkilhnaaGreatDoorAl5
set_option linter.unusedSimpArgs false
set_option linter.unusedVariables false
namespace Go.AL
open Go.RowKit

/-- What 'append' asks of the slice's type: the element's type, its cells, its bytes. -/
def tapp (P : Program) (t : TypeId) : Option (TypeId × Nat × Nat) :=
  match P.underlying t with
  | some (.slice e) => match P.info? e with
    | some i => match i.zero with
      | some z => if z.cells.size = i.size ∧ 0 < i.size then some (e, i.size, i.bytes) else none
      | none => none
    | none => none
  | _ => none

theorem tapp_inv {P : Program} {t e : TypeId} {k b : Nat} (h : tapp P t = some (e, k, b)) : P.underlying t = some (.slice e) ∧ ∃ i z, P.info? e = some i ∧ i.zero = some z ∧ i.size = k ∧ i.bytes = b ∧ z.cells.size = k ∧ 0 < k := by
  unfold tapp at h
  split at h
  · rename_i e' hu
    split at h
    · rename_i i hi
      split at h
      · rename_i z hz
        split at h
        · rename_i hc
          cases h
          exact ⟨hu, i, z, hi, hz, rfl, rfl, hc.1, hc.2⟩
        · cases h
      · cases h
    · cases h
  · cases h

def chunks (cs : List PV) (off k len : Nat) : List (List PV) := (List.range len).map fun i => (cs.drop (off + i * k)).take k

/-- What is appended, element by element. -/
def asSrc (h : Heap) (k : Nat) : PV → Option (List (List PV))
  | .nil => some []
  | .ts k' e => if k' = k then some e else none
  | .tc k' e => if k' = k then some e else none
  | .vec _ k' e => if k' = k then some e else none
  | .ms r off k' len => if k' = k then (match h[r]? with | some (.var _ cs) => some (chunks cs off k len) | _ => none) else none
  | _ => none

theorem chunks_get {cs : List PV} {off k len i : Nat} {e : List PV} (h : (chunks cs off k len)[i]? = some e) : i < len ∧ e = (cs.drop (off + i * k)).take k := by
  unfold chunks at h
  rw [List.getElem?_map] at h
  cases hk : (List.range len)[i]? with
  | none => rw [hk] at h; cases h
  | some j =>
    rw [hk] at h
    cases h
    obtain ⟨hlt, rfl⟩ := List.getElem?_eq_some_iff.1 hk
    simp at hlt ⊢
    exact hlt

/-- The cells of what is appended. -/
structure SrcOk (S : St) (k : Nat) (xs : List (List PV)) (a : Option Addr) (news : List Value) : Prop where
  len : news.length = xs.length * k
  elen : ∀ (i : Nat) (e : List PV), xs[i]? = some e → e.length = k
  addr : 0 < xs.length → ∃ ad, a = some ad ∧ ∀ j u, news[j]? = some u → S.w.cell? (ad.add j) = some u
  one : ∀ u ∈ news, u.oneCell' = true
  rel : ∀ (i : Nat) (e : List PV) (j : Nat) (p : PV) (u : Value), xs[i]? = some e → e[j]? = some p → news[i * k + j]? = some u → VRel S p u

theorem src_ts {S : St} {k : Nat} {xs : List (List PV)} {v : Value} (h : VRel S (.ts k xs) v) : ∃ a c news, v = .slice a xs.length c ∧ SrcOk S k xs a news := by
  obtain ⟨a, c, ad, val, rfl, h1, h2, h3, h4, h5, h6⟩ := ts_inv h
  refine ⟨a, c, (List.range (xs.length * k)).map val, rfl, by simp, h3, fun hn => ⟨ad, h4 (by omega), fun j u hu => ?_⟩, fun u hu => ?_, fun i e j p u hi hp hu => ?_⟩
  · rw [List.getElem?_map] at hu
    cases hk : (List.range (xs.length * k))[j]? with
    | none => rw [hk] at hu; cases hu
    | some j' =>
      rw [hk] at hu
      cases hu
      obtain ⟨hlt, rfl⟩ := List.getElem?_eq_some_iff.1 hk
      simp at hlt ⊢
      exact (h5 j hlt).1
  · simp at hu
    obtain ⟨j, hj, rfl⟩ := hu
    exact (h5 j hj).2.1
  · rw [List.getElem?_map] at hu
    cases hk : (List.range (xs.length * k))[i * k + j]? with
    | none => rw [hk] at hu; cases hu
    | some j' =>
      rw [hk] at hu
      cases hu
      obtain ⟨hlt, rfl⟩ := List.getElem?_eq_some_iff.1 hk
      simp
      exact h6 i e j p hi hp

theorem src_ok {S : St} (hS : SRel S) {k : Nat} {p : PV} {xs : List (List PV)} {v : Value} (he : asSrc S.h k p = some xs) (hv : VRel S p v) (hk : 0 < k) : ∃ a c news, v = .slice a xs.length c ∧ SrcOk S k xs a news := by
  cases p <;> simp only [asSrc, reduceCtorEq] at he <;> (try cases he)
  · cases hv
    exact ⟨none, 0, [], rfl, by simp, by simp, fun h => absurd h (by simp), by simp, by simp⟩
  · split at he
    · cases he; rename_i e; subst e; exact src_ts hv
    · cases he
  · split at he
    · cases he; rename_i e; subst e; cases hv with | tc ht => exact src_ts ht
    · cases he
  · split at he
    · cases he; rename_i e; subst e; cases hv with | vec ht => exact src_ts ht
    · cases he
  · split at he
    case isFalse => cases he
    rename_i e
    subst e
    split at he
    case h_2 => cases he
    rename_i r off k len _ t cs hb
    cases he
    cases hv with
    | oms hb' _ _ => rw [hb] at hb'; cases hb'
    | ms hp hb' hl hcc hm hzz =>
      rename_i c b t' cs'
      rw [hb] at hb'
      cases hb'
      obtain ⟨b0, arr, hbe, hh, hsz, ho1, hcs⟩ := hS.blks r _ _ hb hp
      cases hbe
      have hln : (chunks cs off k len).length = len := by simp [chunks]
      refine ⟨some ⟨b, off, none⟩, c, (arr.toList.drop off).take (len * k), by rw [hln], by simp [chunks]; omega, fun i e hi => ?_, fun _ => ⟨_, rfl, fun j u hu => ?_⟩, fun u hu => ?_, fun i e j p u hi hp' hu => ?_⟩
      · obtain ⟨hlt, rfl⟩ := chunks_get hi
        simp
        have : i * k + k ≤ len * k := by have := Nat.mul_le_mul_right k (show i + 1 ≤ len by omega); rwa [Nat.add_mul, Nat.one_mul] at this
        omega
      · rw [Addr.add_lit, cell_of_row _ _ _ _ _ _ hh]
        rw [List.getElem?_take] at hu
        split at hu
        · rw [List.getElem?_drop] at hu; simpa using hu
        · cases hu
      · have := List.mem_of_mem_drop (List.mem_of_mem_take hu)
        obtain ⟨i, hi, rfl⟩ := List.getElem_of_mem this
        exact ho1 i _ (by simp at hi ⊢)
      · obtain ⟨hlt, rfl⟩ := chunks_get hi
        rw [List.getElem?_take] at hp' hu
        split at hp'
        · split at hu
          · rw [List.getElem?_drop] at hp' hu
            exact hcs _ p u hp' (by rw [Nat.add_assoc]; simpa using hu)
          · cases hu
        · cases hp'

/-- An element's cells among all cells. -/
theorem idx_lt {i k j n : Nat} (hi : i < n) (hj : j < k) : i * k + j < n * k := by
  have := Nat.mul_le_mul_right k (show i + 1 ≤ n by omega)
  rw [Nat.add_mul, Nat.one_mul] at this
  omega

/-- A row of cells that stand still reads as a slice. -/
theorem ts_of_row {S : St} {k n b c : Nat} {els : List (List PV)} {all : List Value} (hl : els.length = n) (hk : ∀ (i : Nat) (e : List PV), els[i]? = some e → e.length = k) (hc : n ≤ c) (hm : c ≤ maxLen)
    (hM : ∀ j u, all[j]? = some u → S.M ⟨b, j, none⟩ u) (hal : all.length = n * k) (hr : ∀ (i : Nat) (e : List PV) (j : Nat) (p : PV) (u : Value), els[i]? = some e → e[j]? = some p → all[i * k + j]? = some u → VRel S p u) :
    VRel S (.ts k els) (.slice (some ⟨b, 0, none⟩) n c) := by
  refine .ts hl hc hm hk ⟨b, 0, none⟩ (fun _ => rfl) (fun j => all.getD j undef) (fun j hj => ?_) (fun i e j p hi hp => ?_)
  · rw [Addr.add_lit, Nat.zero_add]
    exact hM j _ (by rw [List.getD_eq_getElem?_getD, List.getElem?_eq_getElem (by omega)]; rfl)
  · have hi' := (List.getElem?_eq_some_iff.1 hi).1
    have hj' := (List.getElem?_eq_some_iff.1 hp).1
    rw [hk i e hi] at hj'
    have := idx_lt (k := k) (show i < n by omega) hj'
    exact hr i e j p _ hi hp (by rw [List.getD_eq_getElem?_getD, List.getElem?_eq_getElem (by omega)]; rfl)

/-- The list grows by a slice of the call's own that has just been laid. -/
theorem vec_new {S : St} (hS : SRel S) {e : TypeId} {k n c : Nat} (arr : Array Value) (hsz : arr.size = c * k) (hn : n ≤ c) (hm : c ≤ maxLen) :
    let S' := ({ S with w := S.w.drew.alloc (.cells arr e) } : St).push (.slice (some ⟨S.w.heap.size, 0, none⟩) n c) (.vec e k n)
    Ext S S' ∧ SRel S' := by
  intro S'
  have x0 : Ext S { S with w := S.w.drew.alloc (.cells arr e) } := by
    have := ext_alloc hS (.cells arr e)
    exact ⟨this.x, this.os, this.tape, this.output, this.size, this.unt, this.mem, this.blks, this.rows⟩
  have x : Ext S S' := ext_push x0 hS rfl rfl _ _ (by intro n hn; simp [blk] at hn; omega)
  exact ⟨x, srel_push hS x rfl rfl rfl (fun k hk => Below.heap_alloc S.w.drew _ _ hk) (.inr ⟨S.w.heap.size, c, arr, rfl, heap_alloc_new S.w.drew _, hn, hm, hsz⟩) (by intro n hn; simp [blk] at hn; omega)⟩

/-- A slice of the call's own moves to a new block, or is written behind its end. -/
theorem vec_set {S : St} (hS : SRel S) {r n n' : Nat} {e : TypeId} {k : Nat} {v : Value} (hb : S.h[r]? = some (.vec e k n)) {w' : World} (hn : n < n') (ho : w'.os = S.w.os) (ht : w'.tape = S.w.tape) (hu : w'.output = S.w.output) (hs : S.w.heap.size ≤ w'.heap.size)
    (hw : ∀ b, b < S.w.heap.size → (∀ y, S.φ[r]? = some y → blk y = some b → blk v = some b ∧ ∀ j u, j < n * k → S.w.cell? ⟨b, j, none⟩ = some u → w'.cell? ⟨b, j, none⟩ = some u) ∨ w'.heap[b]? = S.w.heap[b]?)
    (hw2 : ∀ b, b < S.w.heap.size → (∀ y, S.φ[r]? = some y → blk y ≠ some b) → w'.heap[b]? = S.w.heap[b]?)
    (hv : ∀ b, blk v = some b → (∃ y, S.φ[r]? = some y ∧ blk y = some b) ∨ S.w.heap.size ≤ b)
    (hz : ∀ b m, S.Row b m → St.Row { S with w := w' } b m) (hnew : (v = .slice none 0 0 ∧ n' = 0) ∨ ∃ (b c : Nat) (arr : Array Value), v = .slice (some ⟨b, 0, none⟩) n' c ∧ w'.heap[b]? = some (.cells arr e (0, 0)) ∧ n' ≤ c ∧ c ≤ maxLen ∧ arr.size = c * k) :
    Ext S { S with φ := S.φ.set r v, h := S.h.set r (.vec e k n'), w := w' } ∧ SRel { S with φ := S.φ.set r v, h := S.h.set r (.vec e k n'), w := w' } := by
  have hr : r < S.h.length := (List.getElem?_eq_some_iff.1 hb).1
  have hr' : r < S.φ.length := by rw [hS.len]; exact hr
  have hφ : S.φ[r]? = some S.φ[r] := List.getElem?_eq_getElem hr'
  have x : Ext S { S with φ := S.φ.set r v, h := S.h.set r (.vec e k n'), w := w' } := by
    refine ⟨rfl, ho, ht, hu, hs, fun b hbl hno => ⟨?_, hw2 b hbl fun y hy hby => hno ⟨r, y, hy, hby⟩⟩, fun a u hm => ?_, fun r' c hc => ?_, hz⟩
    · rintro ⟨r', y, hy, hby⟩
      simp only [List.getElem?_set] at hy
      by_cases er : r = r'
      · subst er
        rw [if_pos rfl, if_pos hr'] at hy
        cases hy
        rcases hv b hby with ⟨z, hz, hbz⟩ | h
        · exact hno ⟨r, z, hz, hbz⟩
        · omega
      · rw [if_neg er] at hy
        exact hno ⟨r', y, hy, hby⟩
    · obtain ⟨h1, h2, h3, h4, h5, h6⟩ := hm
      obtain ⟨ab, ao, asp⟩ := a
      simp only at h3 h4 h6
      subst h3
      refine ⟨?_, h2, rfl, Nat.lt_of_lt_of_le h4 hs, h5, fun r' y hy hby => ?_⟩
      · by_cases hown : blk S.φ[r] = some ab
        · obtain ⟨e', k', m', hh, hlt⟩ := h6 r _ hφ hown
          rw [hb] at hh
          cases hh
          rcases hw ab h4 with h | h
          · exact (h _ hφ hown).2 ao u hlt h1
          · exact (World.cell?_of_block (a := ⟨ab, ao, none⟩) h).trans h1
        · exact (World.cell?_of_block (a := ⟨ab, ao, none⟩) (hw2 ab h4 fun y hy hby => by rw [hφ] at hy; cases hy; exact hown hby)).trans h1
      · simp only [List.getElem?_set] at hy ⊢
        by_cases er : r = r'
        · subst er
          rw [if_pos rfl, if_pos hr'] at hy
          rw [if_pos rfl, if_pos hr]
          cases hy
          refine ⟨e, k, n', rfl, ?_⟩
          rcases hv ab hby with ⟨z, hz, hbz⟩ | h
          · obtain ⟨e', k', m', hh, hlt⟩ := h6 r z hz hbz
            rw [hb] at hh
            cases hh
            exact Nat.lt_of_lt_of_le hlt (Nat.mul_le_mul_right k (Nat.le_of_lt hn))
          · omega
        · rw [if_neg er] at hy ⊢
          exact h6 r' y hy hby
    · by_cases er : r = r'
      · subst er
        rw [hb] at hc
        cases hc
        exact ⟨.vec e k n', by simp [hr], by simp only [Blk.le]; exact ⟨trivial, trivial, Nat.le_of_lt hn, fun h => absurd h (by omega)⟩⟩
      · exact ⟨c, by simp only [List.getElem?_set, if_neg er]; exact hc, Blk.le_refl c (by simp only [List.getElem?_set, if_neg er])⟩
  refine ⟨x, by simp [hS.len], fun r' c y hc hy => ?_, fun r1 r2 y1 y2 b h1 h2 hb1 hb2 => ?_, fun a ha => Nat.lt_of_lt_of_le (hS.xlt a ha) hs, fun a ha r1 y1 h1 hb1 => ?_⟩
  · simp only [List.getElem?_set] at hc hy
    by_cases er : r = r'
    · subst er
      rw [if_pos rfl, if_pos hr] at hc
      rw [if_pos rfl, if_pos hr'] at hy
      cases hc; cases hy
      exact hnew
    · rw [if_neg er] at hc hy
      refine (hS.blks r' c y hc hy).ext x fun b hby => hw2 b (hS.own_lt ⟨r', y, hy, hby⟩) fun z hz hbz => ?_
      exact er (hS.inj r r' z y b hz hy hbz hby)
  · have key : ∀ r1 y1, (S.φ.set r v)[r1]? = some y1 → blk y1 = some b → (r1 ≠ r ∧ S.φ[r1]? = some y1) ∨ (r1 = r ∧ ((∃ y, S.φ[r]? = some y ∧ blk y = some b) ∨ S.w.heap.size ≤ b)) := by
      intro r1 y1 h hbb
      simp only [List.getElem?_set] at h
      by_cases er : r = r1
      · subst er
        rw [if_pos rfl, if_pos hr'] at h
        cases h
        exact .inr ⟨rfl, hv b hbb⟩
      · rw [if_neg er] at h
        exact .inl ⟨fun e => er e.symm, h⟩
    rcases key r1 y1 h1 hb1 with ⟨n1, g1⟩ | ⟨rfl, g1⟩ <;> rcases key r2 y2 h2 hb2 with ⟨n2, g2⟩ | ⟨e2, g2⟩
    · exact hS.inj _ _ _ _ _ g1 g2 hb1 hb2
    · subst e2
      rcases g2 with ⟨z, hz, hbz⟩ | h
      · exact hS.inj _ _ _ _ _ g1 hz hb1 hbz
      · have := hS.own_lt ⟨r1, y1, g1, hb1⟩; omega
    · rcases g1 with ⟨z, hz, hbz⟩ | h
      · exact hS.inj _ _ _ _ _ hz g2 hbz hb2
      · have := hS.own_lt ⟨r2, y2, g2, hb2⟩; omega
    · exact e2.symm
  · simp only [List.getElem?_set] at h1
    by_cases er : r = r1
    · subst er
      rw [if_pos rfl, if_pos hr'] at h1
      cases h1
      rcases hv _ hb1 with ⟨z, hz, hbz⟩ | h
      · exact hS.xown a ha r z hz hbz
      · have := hS.xlt a ha; omega
    · rw [if_neg er] at h1
      exact hS.xown a ha r1 y1 h1 hb1

theorem elems_append {k n : Nat} {els xs : List (List PV)} {olds news : List Value} {S S' : St} (hl : els.length = n) (ho : olds.length = n * k) (hk : ∀ (i : Nat) (e : List PV), els[i]? = some e → e.length = k)
    (hr : ∀ (i : Nat) (e : List PV) (j : Nat) (p : PV) (u : Value), els[i]? = some e → e[j]? = some p → olds[i * k + j]? = some u → VRel S p u)
    (hk' : ∀ (i : Nat) (e : List PV), xs[i]? = some e → e.length = k) (hr' : ∀ (i : Nat) (e : List PV) (j : Nat) (p : PV) (u : Value), xs[i]? = some e → e[j]? = some p → news[i * k + j]? = some u → VRel S p u) (x : Ext S S') :
    (∀ (i : Nat) (e : List PV), (els ++ xs)[i]? = some e → e.length = k) ∧
    ∀ (i : Nat) (e : List PV) (j : Nat) (p : PV) (u : Value), (els ++ xs)[i]? = some e → e[j]? = some p → (olds ++ news)[i * k + j]? = some u → VRel S' p u := by
  constructor
  · intro i e hi
    rw [List.getElem?_append] at hi
    split at hi
    · exact hk i e hi
    · exact hk' _ e hi
  · intro i e j p u hi hp hu
    rw [List.getElem?_append] at hi hu
    split at hi
    · rename_i hlt
      have hj := (List.getElem?_eq_some_iff.1 hp).1
      rw [hk i e hi] at hj
      have := idx_lt (k := k) (show i < n by omega) hj
      rw [if_pos (by omega)] at hu
      exact (hr i e j p u hi hp hu).ext x
    · rename_i hge
      have : n * k ≤ i * k := Nat.mul_le_mul_right k (by omega)
      rw [if_neg (by omega)] at hu
      refine (hr' _ e j p u hi hp ?_).ext x
      rw [← hu, ho]
      congr 1
      rw [Nat.sub_mul, hl]
      omega

theorem bytes_fit {n m b : Nat} (h : (n + m) * b ≤ 140737488355328) : (n + m) * b ≤ 281474976710656 := by omega

set_option maxHeartbeats 1000000 in
/-- 'append(s, ..)', s a slice of the call's own. -/
theorem append_vec {P : Program} {S : St} (hS : SRel S) {t ty e : TypeId} {r k b : Nat} {els xs : List (List PV)} {q : PV} {u v : Value} (ht : tapp P t = some (e, k, b)) (hu : VRel S (.vec r k els) u) (hb : S.h[r]? = some (.vec e k els.length))
    (hq : asSrc S.h k q = some xs) (hv : VRel S q v) (hbytes : (els.length + xs.length) * b ≤ 140737488355328) (hlen : els.length + xs.length ≤ 140737488355328) :
    ∃ z w' φ', (Builtin.append_ #[t, t] ty #[u, v]).run P S.w = .ok z w' ∧ Ext S { S with φ := φ', h := S.h.set r (.vec e k (els.length + xs.length)), w := w' } ∧
      SRel { S with φ := φ', h := S.h.set r (.vec e k (els.length + xs.length)), w := w' } ∧ VRel { S with φ := φ', h := S.h.set r (.vec e k (els.length + xs.length)), w := w' } (.vec r k (els ++ xs)) z := by
  obtain ⟨htu, i, zv, hi, hz, hsz, hby, hzs, hk0⟩ := tapp_inv ht
  have hr : r < S.h.length := (List.getElem?_eq_some_iff.1 hb).1
  have hmx : (140737488355328 : Nat) ≤ maxLen := by simp [maxLen]
  cases hu with
  | vec hts hb' hle ho =>
    rename_i n0 e0
    rw [hb] at hb'
    cases hb'
    have hφ := ho rfl
    obtain ⟨a, c, news, rfl, hsrc⟩ := src_ok hS hq hv hk0
    rcases Nat.eq_zero_or_pos xs.length with hx0 | hx0
    · have hxs : xs = [] := List.eq_nil_of_length_eq_zero hx0
      subst hxs
      refine ⟨u, S.w, S.φ, ?_, ?_⟩
      · obtain ⟨a1, c1, ad1, val1, rfl, g1, g2, _⟩ := ts_inv hts
        simp [Builtin.append_, run_underlying htu, sizeOf, typeInfo, hi, Builtin.lenOf, Builtin.firstCells, g1]
        cases a <;> cases a1 <;> simp [Builtin.firstCells, loadCells, loadCellsFrom, storeCells]
      · have e0 : S.h.set r (.vec e k (els.length + ([] : List (List PV)).length)) = S.h := by
          apply List.ext_getElem?
          intro j
          rw [List.getElem?_set]
          split
          · rename_i hj; subst hj; rw [hb]; simp [hr]
          · rfl
        rw [e0, List.append_nil]
        exact ⟨Ext.refl _, hS, .vec hts hb (Nat.le_refl _) (fun _ => hφ)⟩
    · obtain ⟨ad, rfl, hnews⟩ := hsrc.addr hx0
      obtain ⟨a1, c1, ad1, val1, hu1, g1, g2, g3, g4, g5, g6⟩ := ts_inv hts
      obtain ⟨olds, holds⟩ : ∃ olds : List Value, olds = (List.range (els.length * k)).map val1 := ⟨_, rfl⟩
      have hol : olds.length = els.length * k := by rw [holds]; simp
      have hog : ∀ j v, olds[j]? = some v → j < els.length * k ∧ v = val1 j := fun j v hj => by
        rw [holds, List.getElem?_map] at hj
        cases hk : (List.range (els.length * k))[j]? with
        | none => rw [hk] at hj; cases hj
        | some j' =>
          rw [hk] at hj
          cases hj
          obtain ⟨hlt, rfl⟩ := List.getElem?_eq_some_iff.1 hk
          simp at hlt ⊢
          exact hlt
      have hor : ∀ (i : Nat) (e : List PV) (j : Nat) (p : PV) (u : Value), els[i]? = some e → e[j]? = some p → olds[i * k + j]? = some u → VRel S p u := fun i e j p u hi hp hu => by
        obtain ⟨_, rfl⟩ := hog _ _ hu
        exact g6 i e j p hi hp
      have hal : (olds ++ news).length = (els.length + xs.length) * k := by rw [List.length_append, hol, hsrc.len, Nat.add_mul]
      have hlenA : (els ++ xs).length = els.length + xs.length := List.length_append
      have hone : ∀ u ∈ olds ++ news, u.oneCell' = true := fun u hu => by
        rcases List.mem_append.1 hu with h | h
        · obtain ⟨j, hj, rfl⟩ := List.getElem_of_mem h
          obtain ⟨hlt, he⟩ := hog j _ (List.getElem?_eq_getElem hj)
          rw [he]
          exact (g5 j hlt).2.1
        · exact hsrc.one u h
      -- what is said once the new row lies in block b2
      have fin : ∀ (φ' : List Value) (w' : World) (b2 c2 : Nat) (arr : Array Value), Ext S { S with φ := φ', h := S.h.set r (.vec e k (els.length + xs.length)), w := w' } →
          SRel { S with φ := φ', h := S.h.set r (.vec e k (els.length + xs.length)), w := w' } → φ' = S.φ.set r (.slice (some ⟨b2, 0, none⟩) (els.length + xs.length) c2) → w'.heap[b2]? = some (.cells arr e (0, 0)) →
          arr.toList.take ((els.length + xs.length) * k) = olds ++ news → els.length + xs.length ≤ c2 → c2 ≤ maxLen →
          VRel { S with φ := φ', h := S.h.set r (.vec e k (els.length + xs.length)), w := w' } (.vec r k (els ++ xs)) (.slice (some ⟨b2, 0, none⟩) (els.length + xs.length) c2) := by
        intro φ' w' b2 c2 arr x hS' hφ' hw' harr hc2 hm2
        have hown : φ'[r]? = some (.slice (some ⟨b2, 0, none⟩) (els.length + xs.length) c2) := by rw [hφ', List.getElem?_set, if_pos rfl, if_pos (by rw [hS.len]; exact hr)]
        obtain ⟨q1, q2⟩ := elems_append rfl hol g3 hor hsrc.elen hsrc.rel x
        refine .vec (n := els.length + xs.length) (e := e) (ts_of_row hlenA q1 hc2 hm2 (fun j u hj => ?_) hal q2) (by simp [hr]) (by omega) (fun _ => hown)
        have hjl := (List.getElem?_eq_some_iff.1 hj).1
        refine ⟨?_, hone u (List.mem_of_getElem? hj), rfl, (Array.getElem?_eq_some_iff.1 hw').1, fun hx => ?_, fun r' y hy hby => ?_⟩
        · rw [cell_of_row _ _ _ _ _ _ hw']
          rw [← harr, List.getElem?_take] at hj
          split at hj
          · simpa using hj
          · cases hj
        · exact hS'.xown _ hx r _ hown rfl
        · simp only [blk] at hby
          have : r' = r := hS'.inj r' r y _ b2 hy hown hby rfl
          subst this
          exact ⟨e, k, els.length + xs.length, by simp [hr], by rw [← hal]; exact hjl⟩
      have zc : ∀ (N cp : Nat), N ≤ cp → ∀ (pre : List Value), pre.length = N * k → (pre.toArray ++ Builtin.zeroCells zv.cells (cp - N)).size = cp * k := fun N cp hN pre hp => by
        rw [Array.size_append, List.size_toArray, size_zeroCells, hzs, hp, ← Nat.add_mul]
        congr 1
        omega
      -- a new row
      have moved : ∀ (w' : World) (old : Nat), old < els.length + xs.length → w' = S.w.drew.alloc (.cells ((olds ++ news).toArray ++ Builtin.zeroCells zv.cells (grownCap S.w (els.length + xs.length) old e - (els.length + xs.length))) e) →
          (Builtin.append_ #[t, t] ty #[u, .slice (some ad) xs.length c]).run P S.w = .ok (.slice (some ⟨S.w.heap.size, 0, none⟩) (els.length + xs.length) (grownCap S.w (els.length + xs.length) old e)) w' →
          ∃ z w' φ', (Builtin.append_ #[t, t] ty #[u, .slice (some ad) xs.length c]).run P S.w = .ok z w' ∧ Ext S { S with φ := φ', h := S.h.set r (.vec e k (els.length + xs.length)), w := w' } ∧
            SRel { S with φ := φ', h := S.h.set r (.vec e k (els.length + xs.length)), w := w' } ∧ VRel { S with φ := φ', h := S.h.set r (.vec e k (els.length + xs.length)), w := w' } (.vec r k (els ++ xs)) z := by
        intro w' old hold hw' hrun
        have hge := grownCap_ge S.w (els.length + xs.length) old e
        have hcm := grownCap_le_maxLen S.w (els.length + xs.length) old e (by omega)
        have hnewb : w'.heap[S.w.heap.size]? = some (.cells ((olds ++ news).toArray ++ Builtin.zeroCells zv.cells (grownCap S.w (els.length + xs.length) old e - (els.length + xs.length))) e (0, 0)) := by
          rw [hw']; exact heap_alloc_new S.w.drew _
        have hsame : ∀ b, b < S.w.heap.size → w'.heap[b]? = S.w.heap[b]? := fun b hb => by rw [hw']; exact Below.heap_alloc S.w.drew _ _ hb
        obtain ⟨x, hS'⟩ := vec_set (v := .slice (some ⟨S.w.heap.size, 0, none⟩) (els.length + xs.length) (grownCap S.w (els.length + xs.length) old e)) (n' := els.length + xs.length) (w' := w') hS hb (by omega) (by rw [hw']; rfl) (by rw [hw']; rfl) (by rw [hw']; rfl) (by rw [hw']; simp)
          (fun b hb => .inr (hsame b hb)) (fun b hb _ => hsame b hb) (fun b hb => .inr (by simp [blk] at hb; omega)) (fun b m ⟨ar, t1, f1, h1, h2⟩ => ⟨ar, t1, f1, (hsame b (Array.getElem?_eq_some_iff.1 h1).1).trans h1, h2⟩) (.inr ⟨_, _, _, rfl, hnewb, hge, hcm, zc _ _ hge _ hal⟩)
        refine ⟨_, w', _, hrun, x, hS', fin _ w' _ _ _ x hS' rfl hnewb ?_ hge hcm⟩
        simp only [Array.toList_append]
        rw [← hal]
        exact List.take_left
      rcases hS.blks r _ _ hb hφ with ⟨he, hn0⟩ | ⟨g, cp, cur, he, hg, hnc, hcm, hcs⟩
      · have ho0 : olds = [] := List.eq_nil_of_length_eq_zero (by rw [hol, hn0, Nat.zero_mul])
        have hxn : 0 + xs.length = els.length + xs.length := by omega
        have hr1 := run_append_nil (P := P) S.w t ty e i zv htu hi hz ad xs.length c news (by rw [hsrc.len, hsz]) hnews hx0 (by omega) (by rw [hby]; have := bytes_fit hbytes; rw [hn0, Nat.zero_add] at this; exact this)
        refine moved _ 0 (by omega) rfl ?_
        rw [ho0, hn0, he, Nat.zero_add, List.nil_append]
        exact hr1
      · have he1 : els.length = els.length := rfl
        have hu1' := hu1
        rw [he] at hu1
        cases hu1
        by_cases hroom : els.length + xs.length ≤ c1
        · have hcur : cur.toList.take (els.length * k) = olds := by
            apply List.ext_getElem?
            intro j
            rw [List.getElem?_take]
            split
            · rename_i hj
              have h1 := (g5 j hj).1
              rcases Nat.eq_zero_or_pos els.length with h0 | h0
              · rw [h0] at hj; omega
              · have ha := g4 (by omega)
                cases ha
                rw [Addr.add_lit, Nat.zero_add, cell_of_row _ _ _ _ _ _ hg] at h1
                rw [Array.getElem?_toList, h1, holds, List.getElem?_map, List.getElem?_range (by omega)]
                rfl
            · rename_i hj
              rw [List.getElem?_eq_none (by rw [hol]; omega)]
          have hfit : els.length * k + news.length ≤ cur.size := by rw [hsrc.len, hcs, ← Nat.add_mul]; exact Nat.mul_le_mul_right _ hroom
          have hr1 := run_append_room (P := P) S.w t ty e i htu hi g els.length c1 cur hg ad xs.length c news (by rw [hsrc.len, hsz]) hnews hsrc.one hroom (by rw [hsz]; exact hfit)
          rw [hsz, hcur] at hr1
          have hnewb : (S.w.setRow g (olds ++ news ++ cur.toList.drop (els.length * k + news.length)).toArray).heap[g]? = some (.cells (olds ++ news ++ cur.toList.drop (els.length * k + news.length)).toArray e (0, 0)) := setRow_heap S.w g cur _ e _ hg
          have hother : ∀ b, b ≠ g → (S.w.setRow g (olds ++ news ++ cur.toList.drop (els.length * k + news.length)).toArray).heap[b]? = S.w.heap[b]? := fun b hb => setRow_other S.w g b _ hb
          obtain ⟨x, hS'⟩ := vec_set (v := .slice (some ⟨g, 0, none⟩) (els.length + xs.length) c1) (n' := els.length + xs.length) (w' := S.w.setRow g (olds ++ news ++ cur.toList.drop (els.length * k + news.length)).toArray) hS hb (by omega) rfl rfl rfl (by simp)
            (fun b hb => by
              by_cases hbg : b = g
              · subst hbg
                refine .inl fun y hy hby => ⟨rfl, fun j u hj hju => ?_⟩
                rw [cell_of_row _ _ _ _ _ _ hg] at hju
                rw [cell_of_row _ _ _ _ _ _ hnewb]
                have h2 : olds[j]? = some u := by rw [← hcur, List.getElem?_take, if_pos hj]; simpa using hju
                have h3 := (List.getElem?_eq_some_iff.1 h2).1
                simp only [List.getElem?_toArray, List.append_assoc]
                rw [List.getElem?_append, if_pos h3]
                exact h2
              · exact .inr (hother b hbg))
            (fun b hb hne => hother b fun hbg => hne _ hφ (by rw [he, hbg]; rfl)) (fun b hb => .inl ⟨_, hφ, by rw [he]; exact hb⟩)
            (fun b m ⟨ar, t1, f1, h1, h2⟩ => by
              by_cases hbg : b = g
              · subst hbg
                rw [hg] at h1
                cases h1
                exact ⟨_, _, _, hnewb, by simp; omega⟩
              · exact ⟨ar, t1, f1, (hother b hbg).trans h1, h2⟩)
            (.inr ⟨g, c1, _, rfl, hnewb, hroom, hcm, by simp; omega⟩)
          refine ⟨_, _, _, by rw [he]; exact hr1, x, hS', fin _ _ _ _ _ x hS' rfl hnewb ?_ hroom hcm⟩
          rw [← hal]
          exact List.take_left
        · have hold : ∀ j v, olds[j]? = some v → S.w.cell? ((⟨g, 0, none⟩ : Addr).add j) = some v := fun j v hj => by
            obtain ⟨hlt, rfl⟩ := hog j v hj
            rcases Nat.eq_zero_or_pos els.length with h0 | h0
            · rw [h0] at hlt; omega
            · have ha := g4 (by omega)
              cases ha
              exact (g5 j hlt).1
          have hr1 := run_append_grow (P := P) S.w t ty e i zv htu hi hz ⟨g, 0, none⟩ els.length c1 olds (by rw [hol, hsz]) hold ad xs.length c news (by rw [hsrc.len, hsz]) hnews (by omega) (by omega) (by rw [hby]; exact growslice_fits (by omega) hbytes)
          refine moved _ c1 (by omega) rfl ?_
          rw [he]
          rw [← List.append_toArray]
          exact hr1
end Go.AL
