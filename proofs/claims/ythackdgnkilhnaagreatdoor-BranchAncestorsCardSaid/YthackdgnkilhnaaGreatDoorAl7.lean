/-
  append onto nil and onto a slice without room; new blocks by operation; 'aeff': operations that lay blocks or write them.
-/
import Derived.Test.YthackdgnkilhnaaGreatDoorAl6
set_option linter.unusedSimpArgs false
set_option linter.unusedVariables false
namespace Go.AL
open Go.RowKit

/-- A nil slice is a slice of the call's own of no element. -/
theorem ghost_vec {S : St} (hS : SRel S) (e : TypeId) (k : Nat) : Ext S (S.push (.slice none 0 0) (.vec e k 0)) ∧ SRel (S.push (.slice none 0 0) (.vec e k 0)) ∧ VRel (S.push (.slice none 0 0) (.vec e k 0)) (.vec S.h.length k []) (.slice none 0 0) := by
  have x : Ext S (S.push (.slice none 0 0) (.vec e k 0)) := ext_push (Ext.refl S) hS rfl rfl _ _ (by intro n hn; simp [blk] at hn)
  refine ⟨x, srel_push hS x rfl rfl rfl (fun _ _ => rfl) (.inl ⟨rfl, rfl⟩) (by intro n hn; simp [blk] at hn), .vec (n := 0) (e := e) ?_ (by simp [St.push]) (by simp) (fun _ => by simp [St.push, hS.len])⟩
  exact .ts rfl (Nat.le_refl _) (Nat.zero_le _) (by simp) ⟨0, 0, none⟩ (fun h => absurd rfl h) (fun _ => undef) (by simp) (by simp)

theorem append_nil {P : Program} {S : St} (hS : SRel S) {t ty e : TypeId} {k b : Nat} {xs : List (List PV)} {q : PV} {u v : Value} (ht : tapp P t = some (e, k, b)) (hu : VRel S .nil u)
    (hq : asSrc S.h k q = some xs) (hv : VRel S q v) (hbytes : xs.length * b ≤ 140737488355328) (hlen : xs.length ≤ 140737488355328) :
    ∃ z w' φ', (Builtin.append_ #[t, t] ty #[u, v]).run P S.w = .ok z w' ∧ Ext S { S with φ := φ', h := S.h ++ [.vec e k xs.length], w := w' } ∧
      SRel { S with φ := φ', h := S.h ++ [.vec e k xs.length], w := w' } ∧ VRel { S with φ := φ', h := S.h ++ [.vec e k xs.length], w := w' } (.vec S.h.length k xs) z := by
  cases hu
  obtain ⟨x1, h1, v1⟩ := ghost_vec hS e k
  have hq' : asSrc (S.push (.slice none 0 0) (.vec e k 0)).h k q = some xs := by
    cases q <;> simp only [asSrc] at hq ⊢ <;> try exact hq
    rename_i r off k' len
    split at hq
    · rename_i hk
      rw [if_pos hk]
      split at hq
      · rename_i tt cs hb
        have hr := (List.getElem?_eq_some_iff.1 hb).1
        simp only [St.push, List.getElem?_append, if_pos hr, hb]
        exact hq
      · cases hq
    · cases hq
  obtain ⟨z, w', φ', hr, x2, h2, v2⟩ := append_vec (P := P) (ty := ty) h1 ht v1 (by simp [St.push]) hq' (hv.ext x1) (by simpa using hbytes) (by simpa using hlen)
  have eh : (S.push (.slice none 0 0) (.vec e k 0)).h.set S.h.length (.vec e k (([] : List (List PV)).length + xs.length)) = S.h ++ [.vec e k xs.length] := by
    simp [St.push]
  rw [eh] at x2 h2 v2
  exact ⟨z, w', φ', hr, x1.trans x2, h2, v2⟩

theorem append_tc {P : Program} {S : St} (hS : SRel S) {t ty e : TypeId} {k b : Nat} {els xs : List (List PV)} {q : PV} {u v : Value} (ht : tapp P t = some (e, k, b)) (hu : VRel S (.tc k els) u)
    (hq : asSrc S.h k q = some xs) (hv : VRel S q v) (hbytes : (els.length + xs.length) * b ≤ 140737488355328) (hlen : els.length + xs.length ≤ 140737488355328) (hx0 : 0 < xs.length) :
    ∃ z w' φ', (Builtin.append_ #[t, t] ty #[u, v]).run P S.w = .ok z w' ∧ Ext S { S with φ := φ', h := S.h ++ [.vec e k (els.length + xs.length)], w := w' } ∧
      SRel { S with φ := φ', h := S.h ++ [.vec e k (els.length + xs.length)], w := w' } ∧ VRel { S with φ := φ', h := S.h ++ [.vec e k (els.length + xs.length)], w := w' } (.vec S.h.length k (els ++ xs)) z := by
  obtain ⟨htu, i, zv, hi, hz, hsz, hby, hzs, hk0⟩ := tapp_inv ht
  have hmx : (140737488355328 : Nat) ≤ maxLen := by simp [maxLen]
  cases hu with
  | tc hts =>
    rename_i n a1
    obtain ⟨a, c, news, rfl, hsrc⟩ := src_ok hS hq hv hk0
    obtain ⟨ad, rfl, hnews⟩ := hsrc.addr hx0
    obtain ⟨a2, c1, ad1, val1, hu1, g1, g2, g3, g4, g5, g6⟩ := ts_inv hts
    cases hu1
    obtain ⟨olds, holds⟩ : ∃ olds : List Value, olds = (List.range (els.length * k)).map val1 := ⟨_, rfl⟩
    have hol : olds.length = els.length * k := by rw [holds]; simp
    have hog : ∀ j v, olds[j]? = some v → j < els.length * k ∧ v = val1 j := fun j v hj => by
      rw [holds, List.getElem?_map] at hj
      cases hk : (List.range (els.length * k))[j]? with
      | none => rw [hk] at hj; cases hj
      | some j' =>
        rw [hk] at hj
        cases hj
        obtain ⟨hlt, rfl⟩ := List.getElem?_eq_some_iff.1 hk
        simp at hlt ⊢
        exact hlt
    have hor : ∀ (i : Nat) (e : List PV) (j : Nat) (p : PV) (u : Value), els[i]? = some e → e[j]? = some p → olds[i * k + j]? = some u → VRel S p u := fun i e j p u hi hp hu => by
      obtain ⟨_, rfl⟩ := hog _ _ hu
      exact g6 i e j p hi hp
    have hal : (olds ++ news).length = (els.length + xs.length) * k := by rw [List.length_append, hol, hsrc.len, Nat.add_mul]
    have hone : ∀ u ∈ olds ++ news, u.oneCell' = true := fun u hu => by
      rcases List.mem_append.1 hu with h | h
      · obtain ⟨j, hj, rfl⟩ := List.getElem_of_mem h
        obtain ⟨hlt, he⟩ := hog j _ (List.getElem?_eq_getElem hj)
        rw [he]
        exact (g5 j hlt).2.1
      · exact hsrc.one u h
    have key : ∀ old, old < els.length + xs.length → (Builtin.append_ #[t, t] ty #[.slice a1 els.length els.length, .slice (some ad) xs.length c]).run P S.w =
        .ok (.slice (some ⟨S.w.heap.size, 0, none⟩) (els.length + xs.length) (grownCap S.w (els.length + xs.length) old e)) (S.w.drew.alloc (.cells ((olds ++ news).toArray ++ Builtin.zeroCells zv.cells (grownCap S.w (els.length + xs.length) old e - (els.length + xs.length))) e)) →
        ∃ z w' φ', (Builtin.append_ #[t, t] ty #[.slice a1 els.length els.length, .slice (some ad) xs.length c]).run P S.w = .ok z w' ∧ Ext S { S with φ := φ', h := S.h ++ [.vec e k (els.length + xs.length)], w := w' } ∧
          SRel { S with φ := φ', h := S.h ++ [.vec e k (els.length + xs.length)], w := w' } ∧ VRel { S with φ := φ', h := S.h ++ [.vec e k (els.length + xs.length)], w := w' } (.vec S.h.length k (els ++ xs)) z := by
      intro old hold hrun
      have hge := grownCap_ge S.w (els.length + xs.length) old e
      have hcm := grownCap_le_maxLen S.w (els.length + xs.length) old e (by omega)
      have hsz' : ((olds ++ news).toArray ++ Builtin.zeroCells zv.cells (grownCap S.w (els.length + xs.length) old e - (els.length + xs.length))).size = grownCap S.w (els.length + xs.length) old e * k := by
        rw [Array.size_append, List.size_toArray, size_zeroCells, hzs, hal, ← Nat.add_mul]
        congr 1
        omega
      obtain ⟨x, hS'⟩ := vec_new (e := e) hS _ hsz' hge hcm
      refine ⟨_, _, _, hrun, x, hS', ?_⟩
      obtain ⟨q1, q2⟩ := elems_append rfl hol g3 hor hsrc.elen hsrc.rel x
      have hown : (S.φ ++ [Value.slice (some ⟨S.w.heap.size, 0, none⟩) (els.length + xs.length) (grownCap S.w (els.length + xs.length) old e)])[S.h.length]? = some (Value.slice (some ⟨S.w.heap.size, 0, none⟩) (els.length + xs.length) (grownCap S.w (els.length + xs.length) old e)) := by rw [← hS.len]; simp
      refine .vec (n := els.length + xs.length) (e := e) (ts_of_row (List.length_append) q1 hge hcm (fun j u hj => ?_) hal q2) (by simp) (by simp) (fun _ => hown)
      have hjl := (List.getElem?_eq_some_iff.1 hj).1
      have hnewb : (S.w.drew.alloc (.cells ((olds ++ news).toArray ++ Builtin.zeroCells zv.cells (grownCap S.w (els.length + xs.length) old e - (els.length + xs.length))) e)).heap[S.w.heap.size]? = some (.cells ((olds ++ news).toArray ++ Builtin.zeroCells zv.cells (grownCap S.w (els.length + xs.length) old e - (els.length + xs.length))) e (0, 0)) := heap_alloc_new S.w.drew _
      refine ⟨?_, hone u (List.mem_of_getElem? hj), rfl, (Array.getElem?_eq_some_iff.1 hnewb).1, fun hx => hS'.xown _ hx S.h.length _ hown rfl, fun r' y hy hby => ?_⟩
      · show World.cell? (S.w.drew.alloc _) _ = _
        rw [cell_of_row _ _ _ _ _ _ hnewb]
        rw [Array.getElem?_append, if_pos (by simpa using hjl)]
        simpa using hj
      · simp only [blk] at hby
        have : r' = S.h.length := hS'.inj r' _ y _ S.w.heap.size hy hown hby rfl
        subst this
        exact ⟨e, k, els.length + xs.length, by simp [St.push], by rw [← hal]; exact hjl⟩
    cases a1 with
    | none =>
      have h0 : els.length = 0 := Nat.eq_zero_of_not_pos fun h => by have := g4 (by omega); cases this
      have ho0 : olds = [] := List.eq_nil_of_length_eq_zero (by rw [hol, h0, Nat.zero_mul])
      have hr1 := run_append_nil (P := P) S.w t ty e i zv htu hi hz ad xs.length c news (by rw [hsrc.len, hsz]) hnews hx0 (by omega) (by rw [hby]; have := bytes_fit hbytes; rw [h0, Nat.zero_add] at this; exact this)
      refine key 0 (by omega) ?_
      rw [ho0, h0, Nat.zero_add, List.nil_append]
      exact hr1
    | some b1 =>
      have hold : ∀ j v, olds[j]? = some v → S.w.cell? (b1.add j) = some v := fun j v hj => by
        obtain ⟨hlt, rfl⟩ := hog j v hj
        rcases Nat.eq_zero_or_pos els.length with h0 | h0
        · rw [h0] at hlt; omega
        · have ha := g4 (by omega)
          cases ha
          exact (g5 j hlt).1
      have hr1 := run_append_grow (P := P) S.w t ty e i zv htu hi hz b1 els.length els.length olds (by rw [hol, hsz]) hold ad xs.length c news (by rw [hsrc.len, hsz]) hnews (by omega) (by omega) (by rw [hby]; exact growslice_fits (by omega) hbytes)
      refine key els.length (by omega) ?_
      rw [← List.append_toArray]
      exact hr1
end Go.AL
