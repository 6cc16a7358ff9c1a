/-
  A call's own blocks are given up: what it hands back stands still from then on. And a contract out of a body.
-/
import Derived.Test.YthackdgnkilhnaaGreatDoorAl11
set_option linter.unusedSimpArgs false
set_option linter.unusedVariables false
namespace Go.AL
open Go.RowKit

/-- What is known of a value once the blocks from n on are nobody's. -/
def fz (n : Nat) (h : Heap) : Nat → PV → PV
  | 0, _ => .un
  | f + 1, p => match p with
    | .un => .un
    | .ud => .ud
    | .sc v => .sc v
    | .nil => .nil
    | .agg cs => .agg (cs.map (fz n h f))
    | .tup vs => .tup (vs.map (fz n h f))
    | .ts k els => .ts k (els.map fun e => e.map (fz n h f))
    | .tc k els => .tc k (els.map fun e => e.map (fz n h f))
    | .vec r k els => if r < n then .vec r k (els.map fun e => e.map (fz n h f)) else .ts k (els.map fun e => e.map (fz n h f))
    | .ms r off k len => if r < n then .ms r off k len else match h[r]? with
      | some (.var _ cs) => .ts k (chunks (cs.map (fz n h f)) off k len)
      | _ => .un
    | .ptr r off => if r < n then .ptr r off else match h[r]? with
      | some (.var _ cs) => .tp ((cs.drop off).map (fz n h f))
      | _ => .un
    | .tp cs => .tp (cs.map (fz n h f))
    | .fn g a b => .fn g (a.map (fz n h f)) (b.map (fz n h f))
    | .ifc t p => .ifc t (fz n h f p)
    | .mp r => if r < n then .mp r else .un
    | .yl r => if r < n then .yl r else .un

def fzB (n : Nat) (h : Heap) (f : Nat) : Blk → Blk
  | .var t cs => .var t (cs.map (fz n h f))
  | .vec e k m => .vec e k m
  | .map es => .map (es.map fun x => (x.1, fz n h f x.2))
  | .loop ts ps as bd st pd => .loop (ts.map (fz n h f)) ps as bd st pd
  | .non => .non
  | .old => .old

def fzH (n : Nat) (h : Heap) (f : Nat) : Heap := (h.take n).map (fzB n h f)

theorem Blk.le_fz {n : Nat} {h : Heap} {f : Nat} {p : Prop} (hp : p) (b : Blk) : Blk.le p b (fzB n h f b) := by cases b <;> simp [fzB, Blk.le, hp]

/-- The state with the blocks from n on given up. -/
def St.cut (S : St) (n f : Nat) : St := ⟨S.φ.take n, fzH n S.h f, S.w, S.x⟩

theorem cut_h {S : St} {n f r : Nat} {b : Blk} (h : (S.cut n f).h[r]? = some b) : r < n ∧ ∃ b', S.h[r]? = some b' ∧ b = fzB n S.h f b' := by
  simp only [St.cut, fzH, List.getElem?_map, List.getElem?_take] at h
  split at h
  · rename_i hr
    cases hb : S.h[r]? with
    | none => rw [hb] at h; cases h
    | some b' => rw [hb] at h; cases h; exact ⟨hr, b', rfl, rfl⟩
  · cases h

theorem cut_h_of {S : St} {n f r : Nat} {b : Blk} (hr : r < n) (h : S.h[r]? = some b) : (S.cut n f).h[r]? = some (fzB n S.h f b) := by
  simp [St.cut, fzH, List.getElem?_take, hr, h]

theorem cut_φ {S : St} {n f r : Nat} {v : Value} (h : (S.cut n f).φ[r]? = some v) : r < n ∧ S.φ[r]? = some v := by
  simp only [St.cut, List.getElem?_take] at h
  split at h
  · exact ⟨by assumption, h⟩
  · cases h

theorem cut_φ_of {S : St} {n f r : Nat} {v : Value} (hr : r < n) (h : S.φ[r]? = some v) : (S.cut n f).φ[r]? = some v := by
  simp [St.cut, List.getElem?_take, hr, h]

theorem cut_M {S : St} {n f : Nat} {a : Addr} {v : Value} (h : S.M a v) : (S.cut n f).M a v := by
  obtain ⟨h1, h2, h3, h4, h5, h6⟩ := h
  refine ⟨h1, h2, h3, h4, h5, fun r u hu hb => ?_⟩
  obtain ⟨hr, hu'⟩ := cut_φ hu
  obtain ⟨e, k, m, hh, ho⟩ := h6 r u hu' hb
  exact ⟨e, k, m, by rw [cut_h_of hr hh]; rfl, ho⟩

/-- A cell of a block that is given up stands still from then on. -/
theorem cut_M_new {S : St} (hS : SRel S) {n f r b : Nat} {t : TypeId} {cs : List PV} (hr : n ≤ r) (hp : S.φ[r]? = some (.pointer (some ⟨b, 0, none⟩))) (hb : S.h[r]? = some (.var t cs)) (f' : Nat) :
    ∃ val : Nat → Value, (∀ j, j < cs.length → (S.cut n f).M ⟨b, j, none⟩ (val j)) ∧ ∀ (j : Nat) (p : PV), cs[j]? = some p → VRel S p (val j) := by
  obtain ⟨b', arr, he, hh, hsz, h1, hrel⟩ := hS.blks r _ _ hb hp
  cases he
  have hlt : b < S.w.heap.size := (Array.getElem?_eq_some_iff.1 hh).1
  refine ⟨fun j => arr.getD j undef, fun j hj => ⟨?_, ?_, rfl, hlt, fun hx => hS.xown _ hx r _ hp rfl, fun r' u hu hbu => ?_⟩, fun j p hjp => ?_⟩
  · simp only [St.cut, World.cell?]
    rw [hh]
    have hj' : j < arr.size := by omega
    simp [Array.getD, hj']
  · have hj' : j < arr.size := by omega
    refine h1 j _ ?_
    simp [Array.getD, hj']
  · obtain ⟨hr', hu'⟩ := cut_φ hu
    have := hS.inj r r' _ _ _ hp hu' rfl hbu
    omega
  · have hj' : j < arr.size := Nat.lt_of_lt_of_le (List.getElem?_eq_some_iff.1 hjp).1 hsz
    refine hrel j p _ hjp ?_
    simp [Array.getD, hj']

theorem addr_add_none (b off j : Nat) : (⟨b, off, none⟩ : Addr).add j = ⟨b, off + j, none⟩ := by
  unfold Addr.add
  split
  · rename_i h; subst h; rfl
  · rfl

theorem map_get {α β : Type} {g : α → β} {l : List α} {i : Nat} {y : β} (h : (l.map g)[i]? = some y) : ∃ x, l[i]? = some x ∧ y = g x := by
  rw [List.getElem?_map] at h
  cases hx : l[i]? with
  | none => rw [hx] at h; cases h
  | some x => rw [hx] at h; cases h; exact ⟨x, rfl, rfl⟩

theorem ts_map {S S' : St} {g : PV → PV} (hm : ∀ a u, S.M a u → S'.M a u) (hg : ∀ p u, VRel S p u → VRel S' (g p) u) {k : Nat} {els : List (List PV)} {v : Value} (h : VRel S (.ts k els) v) :
    VRel S' (.ts k (els.map fun e => e.map g)) v := by
  cases h with
  | ts hl hc hmx hk ad ha val hv h =>
    refine .ts (by simp [hl]) hc hmx (fun i e he => ?_) ad ha val (fun j hj => hm _ _ (hv j hj)) (fun i e j p hi hp => ?_)
    · obtain ⟨e', he', rfl⟩ := map_get he
      simp [hk i e' he']
    · obtain ⟨e', he', rfl⟩ := map_get hi
      obtain ⟨p', hp', rfl⟩ := map_get hp
      exact hg _ _ (h i e' j p' he' hp')

theorem fz_ok {S : St} (hS : SRel S) (n F : Nat) : ∀ (f : Nat) {p : PV} {v : Value}, VRel S p v → VRel (S.cut n F) (fz n S.h f p) v := by
  intro f
  induction f with
  | zero => intro p v _; exact .un
  | succ f ih =>
    intro p v h
    cases h with
    | un => exact .un
    | ud => exact .ud
    | sc h => exact .sc h
    | nil => exact .nil
    | agg hl h1 h =>
      refine .agg (by simp [hl]) h1 fun i p v hp hv => ?_
      obtain ⟨q, hq, rfl⟩ := map_get hp
      exact ih (h i q v hq hv)
    | tup hl h =>
      refine .tup (by simp [hl]) fun i p v hp hv => ?_
      obtain ⟨q, hq, rfl⟩ := map_get hp
      exact ih (h i q v hq hv)
    | ts hl hc hm hk ad ha val hv h => exact ts_map (fun _ _ h => cut_M h) (fun _ _ h => ih h) (.ts hl hc hm hk ad ha val hv h)
    | tc ht => exact .tc (ts_map (fun _ _ h => cut_M h) (fun _ _ h => ih h) ht)
    | vec ht hb hle ho =>
      rename_i r k m e els
      simp only [fz]
      have ht' := ts_map (S' := S.cut n F) (fun _ _ h => cut_M h) (fun _ _ h => ih h) ht
      split
      · rename_i hr
        exact .vec ht' (by rw [cut_h_of hr hb]; rfl) (by simpa using hle) (fun e => cut_φ_of hr (ho (by simpa using e)))
      · exact ht'
    | oms hb hc hm =>
      simp only [fz]
      split
      · rename_i hr
        exact .oms (by rw [cut_h_of hr hb]; rfl) hc hm
      · rw [hb]
        exact .un
    | optr hb =>
      simp only [fz]
      split
      · rename_i hr
        exact .optr (by rw [cut_h_of hr hb]; rfl)
      · rw [hb]
        exact .un
    | ms hp hb hl hc hm hz =>
      rename_i r off k len c b t cs
      simp only [fz]
      split
      · rename_i hr
        exact .ms (cut_φ_of hr hp) (by rw [cut_h_of hr hb]; rfl) (by simpa using hl) hc hm hz
      · rename_i hr
        rw [hb]
        obtain ⟨val, hv, hrel⟩ := cut_M_new hS (n := n) (f := F) (by omega) hp hb 0
        refine .ts (by simp [chunks]) hc hm (fun i e he => ?_) ⟨b, off, none⟩ (fun _ => rfl) (fun j => val (off + j)) (fun j hj => ?_) (fun i e j p hi hp' => ?_)
        · obtain ⟨hi, rfl⟩ := chunks_get he
          simp only [List.length_take, List.length_drop, List.length_map]
          have := Nat.mul_le_mul_right k (show i + 1 ≤ len from hi)
          rw [Nat.add_mul] at this
          omega
        · have := hv (off + j) (by omega)
          rwa [← addr_add_none] at this
        · obtain ⟨hi', rfl⟩ := chunks_get hi
          rw [List.getElem?_take] at hp'
          split at hp'
          · rw [List.getElem?_drop] at hp'
            obtain ⟨q, hq, rfl⟩ := map_get hp'
            have := ih (hrel _ q hq)
            rwa [Nat.add_assoc] at this
          · cases hp'
    | ptr hp hb =>
      rename_i r off b t cs
      simp only [fz]
      split
      · rename_i hr
        exact .ptr (cut_φ_of hr hp) (by rw [cut_h_of hr hb]; rfl)
      · rename_i hr
        rw [hb]
        obtain ⟨val, hv, hrel⟩ := cut_M_new hS (n := n) (f := F) (by omega) hp hb 0
        refine .tp (fun j => val (off + j)) (fun j hj => ?_) (fun j p hp' => ?_)
        · simp at hj
          have := hv (off + j) (by omega)
          rwa [← addr_add_none] at this
        · obtain ⟨q, hq, rfl⟩ := map_get hp'
          rw [List.getElem?_drop] at hq
          exact ih (hrel _ q hq)
    | tp val hv h =>
      refine .tp val (fun j hj => cut_M (hv j (by simpa using hj))) fun j p hp => ?_
      obtain ⟨q, hq, rfl⟩ := map_get hp
      exact ih (h j q hq)
    | fn hl hl' h h' =>
      refine .fn (by simp [hl]) (by simp [hl']) (fun i p v hp hv => ?_) (fun i p v hp hv => ?_)
      · obtain ⟨q, hq, rfl⟩ := map_get hp
        exact ih (h i q v hq hv)
      · obtain ⟨q, hq, rfl⟩ := map_get hp
        exact ih (h' i q v hq hv)
    | ifc h => exact .ifc (ih h)
    | mp hp hb =>
      simp only [fz]
      split
      · rename_i hr
        exact .mp (cut_φ_of hr hp) (by rw [cut_h_of hr hb]; rfl)
      · exact .un
    | yl hp hb =>
      simp only [fz]
      split
      · rename_i hr
        exact .yl (cut_φ_of hr hp) (by rw [cut_h_of hr hb]; rfl)
      · exact .un

theorem cut_ok {S : St} (hS : SRel S) (n F : Nat) : SRel (S.cut n F) := by
  refine ⟨?_, fun r b v hb hv => ?_, fun r r' v v' m hv hv' => hS.inj r r' v v' m (cut_φ hv).2 (cut_φ hv').2, hS.xlt, fun a ha r v hv => hS.xown a ha r v (cut_φ hv).2⟩
  · simp only [St.cut, fzH, List.length_map, List.length_take, hS.len]
  · obtain ⟨hr, b', hb', rfl⟩ := cut_h hb
    have h0 := hS.blks r b' v hb' (cut_φ hv).2
    cases b' with
    | var t cs =>
      obtain ⟨b, arr, he, hh, hsz, h1, hrel⟩ := h0
      refine ⟨b, arr, he, hh, by simp [hsz], h1, fun i p u hp hu => ?_⟩
      obtain ⟨q, hq, rfl⟩ := map_get hp
      exact fz_ok hS n F F (hrel i q u hq hu)
    | vec e k m => exact h0
    | map es =>
      obtain ⟨b, clock, entries, he, hh, hsz, h1, hrel⟩ := h0
      refine ⟨b, clock, entries, he, hh, by simp [hsz], h1, fun i e q hi hq => ?_⟩
      obtain ⟨q', hq', rfl⟩ := map_get hq
      obtain ⟨hk, hv⟩ := hrel i e q' hi hq'
      exact ⟨hk, fz_ok hS n F F hv⟩
    | loop ts ps as bd st pd =>
      obtain ⟨b, L, he, hh, k1, k2, k3, k4, k5, k6, k7⟩ := h0
      refine ⟨b, L, he, hh, k1, k2, k3, k4, k5, by simp [k6], fun i p hp => ?_⟩
      obtain ⟨q, hq, rfl⟩ := map_get hp
      exact fz_ok hS n F F (k7 i q hq)
    | non => exact h0
    | old => exact h0

theorem cut_ext {S₀ S : St} (hS : SRel S) (x : Ext S₀ S) (n F : Nat) (hn : S₀.h.length ≤ n) : Ext S₀ (S.cut n F) := by
  refine ⟨x.x, x.os, x.tape, x.output, x.size, fun b hb ho => ?_, fun a v h => cut_M (x.mem a v h), fun r b hb => ?_, x.rows⟩
  · obtain ⟨h1, h2⟩ := x.unt b hb ho
    refine ⟨?_, h2⟩
    rintro ⟨r, v, hv, hbv⟩
    exact h1 ⟨r, v, (cut_φ hv).2, hbv⟩
  · have hr : r < n := Nat.lt_of_lt_of_le (List.getElem?_eq_some_iff.1 hb).1 hn
    obtain ⟨b', hb', hl⟩ := x.blks r b hb
    refine ⟨_, cut_h_of hr hb', ?_⟩
    have e : (S.cut n F).φ[r]? = S.φ[r]? := by simp [St.cut, List.getElem?_take, hr]
    rw [e]
    refine Blk.le_trans hl (Blk.le_fz (p := True) trivial b') fun h _ => h

/-- What a call leaves behind is given up. -/
theorem ACall.cut {P : Program} {G : Glob} {f : FuncId} {args : List PV} {h : Heap} {R : PV → Heap → Prop} (n F : Nat) (hn : h.length ≤ n)
    (k : ACall P G f args h fun p h' => R (fz n h' F p) (fzH n h' F)) : ACall P G f args h R := by
  refine ⟨k.1, fun φ w X vs a b c d => (k.2 φ w X vs a b c d).mono ?_⟩
  rintro e w' ⟨φ', h', p, v, he, x, hs, hv, hr⟩
  have x' := cut_ext hs x n F hn
  exact ⟨φ'.take n, fzH n h' F, fz n h' F p, v, he, x', cut_ok hs n F, fz_ok hs n F F hv, hr⟩

end Go.AL
