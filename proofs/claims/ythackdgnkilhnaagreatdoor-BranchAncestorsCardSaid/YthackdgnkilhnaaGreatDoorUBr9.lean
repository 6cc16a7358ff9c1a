/-
  Branches: a repository as the row's data tells it.
-/
import Derived.Test.YthackdgnkilhnaaGreatDoorUBr2
import Derived.Test.YthackdgnkilhnaaGreatDoorAl23
set_option linter.unusedSimpArgs false
set_option linter.unusedVariables false
namespace Go.AL
open Go.Proofs
set_option maxRecDepth 100000
theorem ul_repo : Tryz.prog.underlying 79 = some (.struct #[{ name := "Commits", type := 76, offset := 0, embedded := false, tag := "", pkgPath := "", byteOffset := 0 }, { name := "Branches", type := 77, offset := 1, embedded := false, tag := "", pkgPath := "", byteOffset := 24 }]) := by kernel_rfl
theorem ul_commits : Tryz.prog.underlying 76 = some (.slice 94) := by kernel_rfl
theorem ul_branches : Tryz.prog.underlying 77 = some (.slice 84) := by kernel_rfl
theorem ul_commit : Tryz.prog.underlying 94 = some (.struct #[{ name := "Ops", type := 44, offset := 0, embedded := false, tag := "", pkgPath := "", byteOffset := 0 }, { name := "Merged", type := 3, offset := 1, embedded := false, tag := "", pkgPath := "", byteOffset := 24 }, { name := "Parent", type := 3, offset := 2, embedded := false, tag := "", pkgPath := "", byteOffset := 32 }]) := by kernel_rfl
theorem ul_ops : Tryz.prog.underlying 44 = some (.slice 38) := by kernel_rfl
theorem ul_int : Tryz.prog.underlying 3 = some (.int .i64) := by kernel_rfl
theorem ple_ts {k : Nat} {els fs : List (List PV)} (hl : els.length = fs.length) (h : ∀ (i : Nat) (x y : List PV), els[i]? = some x → fs[i]? = some y → x.length = y.length ∧ ∀ (j : Nat) (p q : PV), x[j]? = some p → y[j]? = some q → PLe p q) : PLe (.ts k els) (.ts k fs) := fun S v hv => by
  cases hv with
  | ts hl' hc hm hk ad ha val hv hr =>
    have get : ∀ (i : Nat) (y : List PV), fs[i]? = some y → ∃ x, els[i]? = some x := fun i y hy =>
      ⟨_, List.getElem?_eq_getElem (by rw [hl]; exact (List.getElem?_eq_some_iff.1 hy).1)⟩
    refine .ts (hl.symm.trans hl') hc hm (fun i y hy => ?_) ad ha val hv fun i y j q hy hq => ?_
    · obtain ⟨x, hx⟩ := get i y hy
      rw [← (h i x y hx hy).1]; exact hk i x hx
    · obtain ⟨x, hx⟩ := get i y hy
      obtain ⟨e1, e2⟩ := h i x y hx hy
      have hj : j < x.length := by rw [e1]; exact (List.getElem?_eq_some_iff.1 hq).1
      exact e2 j _ q (List.getElem?_eq_getElem hj) hq S _ (hr i x j _ hx (List.getElem?_eq_getElem hj))
theorem list2 {α : Type} {l : List α} (h : l.length = 2) : ∃ a b, l = [a, b] := by
  match l, h with
  | [a, b], _ => exact ⟨a, b, rfl⟩
theorem list3 {α : Type} {l : List α} (h : l.length = 3) : ∃ a b c, l = [a, b, c] := by
  match l, h with
  | [a, b, c], _ => exact ⟨a, b, c, rfl⟩
theorem commit_shp {x : List PV} (h : Shp Tryz.prog 1 94 x) : ∃ (c : Cm) (p : PV), x = [p, i64 c.1, i64 c.2] := by
  unfold Shp at h
  rw [ul_commit] at h
  try dsimp only at h
  obtain ⟨parts, hl, rfl, hp⟩ := h
  obtain ⟨a, b, c, rfl⟩ := list3 hl
  have h0 : Shp Tryz.prog 0 44 a := hp 0 _ a rfl rfl
  have h1 : Shp Tryz.prog 0 3 b := hp 1 _ b rfl rfl
  have h2 : Shp Tryz.prog 0 3 c := hp 2 _ c rfl rfl
  unfold Shp at h0 h1 h2
  rw [ul_ops] at h0
  rw [ul_int] at h1 h2
  try dsimp only at h0 h1 h2
  obtain ⟨p, rfl⟩ := h0
  obtain ⟨z1, rfl, _⟩ := h1
  obtain ⟨z2, rfl, _⟩ := h2
  exact ⟨(z1, z2), p, rfl⟩
theorem commits_of : ∀ (els : List (List PV)), (∀ x ∈ els, Shp Tryz.prog 1 94 x) → ∃ cs : List Cm, els.length = (cs.map encC).length ∧ ∀ (i : Nat) (x y : List PV), els[i]? = some x → (cs.map encC)[i]? = some y → x.length = y.length ∧ ∀ (j : Nat) (p q : PV), x[j]? = some p → y[j]? = some q → PLe p q := by
  intro els
  induction els with
  | nil => intro _; exact ⟨[], rfl, fun i x y h => by simp at h⟩
  | cons e els ih =>
    intro h
    obtain ⟨c, p, rfl⟩ := commit_shp (h _ (List.mem_cons_self ..))
    obtain ⟨cs, h1, h2⟩ := ih fun x hx => h x (List.mem_cons_of_mem _ hx)
    refine ⟨c :: cs, by simp at h1 ⊢; exact h1, fun i x y hx hy => ?_⟩
    cases i with
    | zero =>
      simp only [List.map_cons, List.getElem?_cons_zero, Option.some.injEq] at hx hy
      subst hx; subst hy
      refine ⟨rfl, fun j p' q hp hq => ?_⟩
      match j, hp, hq with
      | 0, hp, hq => simp [encC] at hp hq; subst hq; exact PLe.un _
      | 1, hp, hq => simp [encC] at hp hq; subst hp; subst hq; exact PLe.refl _
      | 2, hp, hq => simp [encC] at hp hq; subst hp; subst hq; exact PLe.refl _
      | j + 3, hp, hq => simp at hp
    | succ i => exact h2 i x y (by simpa using hx) (by simpa using hy)
theorem repo_of {H : Type} {enc : TypeId × Value → H} {w : World} {base b0 : Nat} {spare : Nat → Bool} {held : Bool} {v : Value} {d : DataW H} {ps : List MemPlace}
    (hlight : Light Tryz.prog 79 d) (hv : Value.okWide Tryz.prog w .any b0 79 v) (h : DataW.Trod enc Tryz.prog w base spare held 79 v d ps) :
    ∃ cs : List Cm, cs.length ≤ 140737488355328 ∧ VRel ⟨[], [], w, fun _ => False⟩ (.agg [.ts 3 (cs.map encC), .un]) v := by
  obtain ⟨vs, rfl, ht, hs⟩ := arg_agg (X := fun _ => False) (fun _ h => h) (n := 3) ul_repo (by kernel_rfl) hlight hv h
  generalize absD Tryz.prog 3 79 d = qs at ht hs
  unfold Shp at hs
  rw [ul_repo] at hs
  try dsimp only at hs
  obtain ⟨parts, hl, rfl, hp⟩ := hs
  obtain ⟨p0, p1, rfl⟩ := list2 hl
  have h0 : Shp Tryz.prog 2 76 p0 := hp 0 _ p0 rfl rfl
  have h1 : Shp Tryz.prog 2 77 p1 := hp 1 _ p1 rfl rfl
  unfold Shp at h0 h1
  rw [ul_commits] at h0
  rw [ul_branches] at h1
  try dsimp only at h0 h1
  obtain ⟨q1, rfl⟩ : ∃ q, p1 = [q] := by
    rcases h1 with rfl | ⟨els, rfl, _, _⟩
    · exact ⟨_, rfl⟩
    · exact ⟨_, rfl⟩
  have fin : ∀ (q0 : PV) (cs : List Cm), p0 = [q0] → PLe q0 (.ts 3 (cs.map encC)) → VRel ⟨[], [], w, fun _ => False⟩ (.agg [.ts 3 (cs.map encC), .un]) (.agg vs) := by
    rintro q0 cs rfl hq
    refine ht.agg rfl fun i p q hp hq' => ?_
    match i, hp, hq' with
    | 0, hp, hq' => simp at hp hq'; subst hp; subst hq'; exact hq
    | 1, hp, hq' => simp at hp hq'; subst hq'; exact PLe.un _
    | i + 2, hp, hq' => simp at hp
  rcases h0 with rfl | ⟨els, rfl, hbig, hels⟩
  · exact ⟨[], Nat.zero_le _, fin .nil [] rfl (PLe.nil_ts 3)⟩
  · have c3 : Tryz.prog.cellsOf 94 = 3 := by kernel_rfl
    obtain ⟨cs, hlen, hcs⟩ := commits_of els hels
    rw [c3] at ht
    refine ⟨cs, ?_, fin _ cs (by rw [c3]) (ple_ts hlen hcs)⟩
    rw [List.length_map] at hlen
    have b40 : Tryz.prog.bytesOf 94 = 40 := by kernel_rfl
    rw [b40] at hbig
    have hre : reachBytes = 140737488351232 := by decide
    rw [hre] at hbig
    omega
end Go.AL
