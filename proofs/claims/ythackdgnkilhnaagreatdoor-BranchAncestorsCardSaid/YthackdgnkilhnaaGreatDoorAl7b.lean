/-
  An append that lays a new row which the call may write afterwards.
-/
import Derived.Test.YthackdgnkilhnaaGreatDoorAl9
set_option linter.unusedSimpArgs false
set_option linter.unusedVariables false
namespace Go.AL
open Go.RowKit

theorem append_tc_run {P : Program} {S : St} (hS : SRel S) {t ty e : TypeId} {k b : Nat} {els xs : List (List PV)} {q : PV} {u v : Value} (ht : tapp P t = some (e, k, b)) (hu : VRel S (.tc k els) u)
    (hq : asSrc S.h k q = some xs) (hv : VRel S q v) (hbytes : (els.length + xs.length) * b ≤ 140737488355328) (hlen : els.length + xs.length ≤ 140737488355328) (hx0 : 0 < xs.length) :
    ∃ (all : List Value) (old : Nat), old < els.length + xs.length ∧ all.length = (els.length + xs.length) * k ∧ (∀ u ∈ all, u.oneCell' = true) ∧ (∀ (i : Nat) (e : List PV), (els ++ xs)[i]? = some e → e.length = k) ∧
      (∀ (i : Nat) (e : List PV) (j : Nat) (p : PV) (u : Value), (els ++ xs)[i]? = some e → e[j]? = some p → all[i * k + j]? = some u → VRel S p u) ∧
      ∃ zv, tzero P e = some zv ∧ zv.cells.size = k ∧ (Builtin.append_ #[t, t] ty #[u, v]).run P S.w =
        .ok (.slice (some ⟨S.w.heap.size, 0, none⟩) (els.length + xs.length) (grownCap S.w (els.length + xs.length) old e)) (S.w.drew.alloc (.cells (all.toArray ++ Builtin.zeroCells zv.cells (grownCap S.w (els.length + xs.length) old e - (els.length + xs.length))) e)) := by
  obtain ⟨htu, i, zv, hi, hz, hsz, hby, hzs, hk0⟩ := tapp_inv ht
  have hmx : (140737488355328 : Nat) ≤ maxLen := by simp [maxLen]
  cases hu with
  | tc hts =>
    rename_i n a1
    obtain ⟨a, c, news, rfl, hsrc⟩ := src_ok hS hq hv hk0
    obtain ⟨ad, rfl, hnews⟩ := hsrc.addr hx0
    obtain ⟨a2, c1, ad1, val1, hu1, g1, g2, g3, g4, g5, g6⟩ := ts_inv hts
    cases hu1
    obtain ⟨olds, holds⟩ : ∃ olds : List Value, olds = (List.range (els.length * k)).map val1 := ⟨_, rfl⟩
    have hol : olds.length = els.length * k := by rw [holds]; simp
    have hog : ∀ j v, olds[j]? = some v → j < els.length * k ∧ v = val1 j := fun j v hj => by
      rw [holds, List.getElem?_map] at hj
      cases hk : (List.range (els.length * k))[j]? with
      | none => rw [hk] at hj; cases hj
      | some j' =>
        rw [hk] at hj
        cases hj
        obtain ⟨hlt, rfl⟩ := List.getElem?_eq_some_iff.1 hk
        simp at hlt ⊢
        exact hlt
    have hor : ∀ (i : Nat) (e : List PV) (j : Nat) (p : PV) (u : Value), els[i]? = some e → e[j]? = some p → olds[i * k + j]? = some u → VRel S p u := fun i e j p u hi hp hu => by
      obtain ⟨_, rfl⟩ := hog _ _ hu
      exact g6 i e j p hi hp
    have hal : (olds ++ news).length = (els.length + xs.length) * k := by rw [List.length_append, hol, hsrc.len, Nat.add_mul]
    have hone : ∀ u ∈ olds ++ news, u.oneCell' = true := fun u hu => by
      rcases List.mem_append.1 hu with h | h
      · obtain ⟨j, hj, rfl⟩ := List.getElem_of_mem h
        obtain ⟨hlt, he⟩ := hog j _ (List.getElem?_eq_getElem hj)
        rw [he]
        exact (g5 j hlt).2.1
      · exact hsrc.one u h
    have htz : tzero P e = some zv := by unfold tzero; rw [hi]; simp [hz]
    obtain ⟨q1, q2⟩ := elems_append rfl hol g3 hor hsrc.elen hsrc.rel (Ext.refl S)
    cases a1 with
    | none =>
      have h0 : els.length = 0 := Nat.eq_zero_of_not_pos fun h => by have := g4 (by omega); cases this
      have ho0 : olds = [] := List.eq_nil_of_length_eq_zero (by rw [hol, h0, Nat.zero_mul])
      have hr1 := run_append_nil (P := P) S.w t ty e i zv htu hi hz ad xs.length c news (by rw [hsrc.len, hsz]) hnews hx0 (by omega) (by rw [hby]; have := bytes_fit hbytes; rw [h0, Nat.zero_add] at this; exact this)
      refine ⟨olds ++ news, 0, by omega, hal, hone, q1, q2, zv, htz, hzs, ?_⟩
      rw [ho0, h0, Nat.zero_add, List.nil_append]
      exact hr1
    | some b1 =>
      have hold : ∀ j v, olds[j]? = some v → S.w.cell? (b1.add j) = some v := fun j v hj => by
        obtain ⟨hlt, rfl⟩ := hog j v hj
        rcases Nat.eq_zero_or_pos els.length with h0 | h0
        · rw [h0] at hlt; omega
        · have ha := g4 (by omega)
          cases ha
          exact (g5 j hlt).1
      have hr1 := run_append_grow (P := P) S.w t ty e i zv htu hi hz b1 els.length els.length olds (by rw [hol, hsz]) hold ad xs.length c news (by rw [hsrc.len, hsz]) hnews (by omega) (by omega) (by rw [hby]; exact growslice_fits (by omega) hbytes)
      refine ⟨olds ++ news, els.length, by omega, hal, hone, q1, q2, zv, htz, hzs, ?_⟩
      rw [← List.append_toArray]
      exact hr1

theorem zeroCells_eq (z : Value) (n : Nat) : Builtin.zeroCells z.cells n = (Array.range (n * z.cells.size)).map (z.cells[· % z.cells.size]!) := rfl

theorem flat_get {els : List (List PV)} {k : Nat} (hk : ∀ (i : Nat) (e : List PV), els[i]? = some e → e.length = k) : ∀ (n : Nat) (p : PV), els.flatten[n]? = some p → 0 < k ∧ ∃ e, els[n / k]? = some e ∧ e[n % k]? = some p := by
  induction els with
  | nil => intro n p h; simp at h
  | cons x xs ih =>
    intro n p h
    have hx := hk 0 x rfl
    rw [List.flatten_cons, List.getElem?_append] at h
    split at h
    · rename_i hlt
      have hk0 : 0 < k := by omega
      refine ⟨hk0, x, ?_, ?_⟩
      · rw [Nat.div_eq_of_lt (by omega)]; rfl
      · rw [Nat.mod_eq_of_lt (by omega)]; exact h
    · rename_i hge
      obtain ⟨hk0, e, he, hp⟩ := ih (fun i e h => hk (i + 1) e (by simpa using h)) _ p h
      have h1 : n = (n - x.length) + k := by omega
      refine ⟨hk0, e, ?_, ?_⟩
      · rw [h1, Nat.add_div_right _ hk0]
        simpa using he
      · rw [h1, Nat.add_mod_right]
        exact hp

theorem flat_len {els : List (List PV)} {k : Nat} (hk : ∀ (i : Nat) (e : List PV), els[i]? = some e → e.length = k) : els.flatten.length = els.length * k := by
  induction els with
  | nil => simp
  | cons x xs ih =>
    rw [List.flatten_cons, List.length_append, ih (fun i e h => hk (i + 1) e (by simpa using h)), hk 0 x rfl, List.length_cons, Nat.add_mul]
    omega

set_option maxHeartbeats 1000000 in
/-- 'append(s, ..)' that lays a new row: the row is the call's own to write. -/
theorem append_own {P : Program} {S : St} (hS : SRel S) {t ty e : TypeId} {k b : Nat} {els xs : List (List PV)} {q : PV} {u v : Value} (ht : tapp P t = some (e, k, b)) (hu : VRel S (.tc k els) u)
    (hq : asSrc S.h k q = some xs) (hv : VRel S q v) (hbytes : (els.length + xs.length) * b ≤ 140737488355328) (hlen : els.length + xs.length ≤ 140737488355328) (hx0 : 0 < xs.length) {z0 : Value} (hz0 : tzero P e = some z0) (hsh : shaped (ofC z0) = true) :
    ∃ z w' φ', (Builtin.append_ #[t, t] ty #[u, v]).run P S.w = .ok z w' ∧ Ext S { S with φ := φ', h := S.h ++ [.var e (els ++ xs).flatten], w := w' } ∧
      SRel { S with φ := φ', h := S.h ++ [.var e (els ++ xs).flatten], w := w' } ∧ VRel { S with φ := φ', h := S.h ++ [.var e (els ++ xs).flatten], w := w' } (.ms S.h.length 0 k (els.length + xs.length)) z := by
  obtain ⟨all, old, hold, hal, hone, q1, q2, zv, htz, hzs, hrun⟩ := append_tc_run (ty := ty) hS ht hu hq hv hbytes hlen hx0
  rw [hz0] at htz
  cases htz
  have hmx : (140737488355328 : Nat) ≤ maxLen := by simp [maxLen]
  have hge := grownCap_ge S.w (els.length + xs.length) old e
  have hcm := grownCap_le_maxLen S.w (els.length + xs.length) old e (by omega)
  have hfl : (els ++ xs).flatten.length = (els.length + xs.length) * k := by rw [flat_len q1, List.length_append]
  obtain ⟨m, hm⟩ : ∃ m, m = grownCap S.w (els.length + xs.length) old e - (els.length + xs.length) := ⟨_, rfl⟩
  rw [← hm] at hrun
  have hzc := zero_cells (S := S) hsh m
  rw [← zeroCells_eq] at hzc
  have hnewb : (S.w.drew.alloc (.cells (all.toArray ++ Builtin.zeroCells z0.cells m) e)).heap[S.w.heap.size]? = some (.cells (all.toArray ++ Builtin.zeroCells z0.cells m) e (0, 0)) := heap_alloc_new S.w.drew _
  have x0 : Ext S { S with w := S.w.drew.alloc (.cells (all.toArray ++ Builtin.zeroCells z0.cells m) e) } := by
    refine ⟨rfl, rfl, rfl, rfl, by simp, fun b hb hn => ⟨hn, Below.heap_alloc S.w.drew _ _ hb⟩, fun a v hm => ?_, fun r b hb => ⟨b, hb, Blk.le_refl b rfl⟩, fun b m ⟨ar, t1, f1, h1, h2⟩ => ⟨ar, t1, f1, (Below.heap_alloc S.w.drew _ _ (Array.getElem?_eq_some_iff.1 h1).1).trans h1, h2⟩⟩
    obtain ⟨h1, h2, h3, h4, h5, h6⟩ := hm
    exact ⟨(World.cell?_alloc_lt S.w.drew _ _ h4).trans h1, h2, h3, by simp; omega, h5, h6⟩
  have x : Ext S (({ S with w := S.w.drew.alloc (.cells (all.toArray ++ Builtin.zeroCells z0.cells m) e) } : St).push (.pointer (some ⟨S.w.heap.size, 0, none⟩)) (.var e (els ++ xs).flatten)) := ext_push x0 hS rfl rfl _ _ (by intro n hn; simp [blk] at hn; omega)
  have hS' := srel_push hS x rfl rfl rfl (fun n hn => Below.heap_alloc _ _ _ (by exact hn)) ⟨S.w.heap.size, _, rfl, hnewb, by rw [hfl, Array.size_append]; simp [hal], fun i y hy => (by
      rw [Array.getElem?_append] at hy
      split at hy
      · exact hone y (List.mem_of_getElem? (by simpa using hy))
      · exact hzc.one _ y hy), fun i p y hp hy => (by
      have hlt := (List.getElem?_eq_some_iff.1 hp).1
      rw [Array.getElem?_append, if_pos (by simp; omega)] at hy
      obtain ⟨hk0, e', he', hp'⟩ := flat_get q1 i p hp
      refine (q2 (i / k) e' (i % k) p y he' hp' ?_).ext x
      rw [Nat.div_add_mod' i k]
      simpa using hy)⟩ (by intro n hn; simp [blk] at hn; omega)
  exact ⟨_, _, _, hrun, x, hS', .ms (b := S.w.heap.size) (t := e) (cs := (els ++ xs).flatten) (by simp [St.push, ← hS.len]) (by simp [St.push]) (by rw [hfl]; omega) hge hcm ⟨_, _, _, hnewb, by
    have e1 : (Builtin.zeroCells z0.cells m).size = m * k := by rw [zeroCells_eq]; simp [hzs]
    have e2 : els.length + xs.length + m = grownCap S.w (els.length + xs.length) old e := by omega
    rw [Array.size_append, e1, List.size_toArray, hal, ← Nat.add_mul, e2]; omega⟩⟩
end Go.AL
