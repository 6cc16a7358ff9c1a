/-
  The row of BranchAncestors and its card.
-/
import Derived.Test.YthackdgnkilhnaaGreatDoorUBr8b
import Derived.Test.YthackdgnkilhnaaGreatDoorUBr9
import Derived.Test.YthackdgnkilhnaaGreatDoorTie
import Derived.Test.YthackdgnkilhnaaGreatDoorCards
import Derived.ProofKit
import Derived.WalkKit
import Derived.Handy
import Derived.Lay
import Derived.SevenTiedAt
set_option linter.unusedSimpArgs false
set_option linter.unusedVariables false
namespace Go.Proofs.YthackdgnkilhnaaGreatDoor
open Go.ChangeShapes Go.WideShapes Go.ChangeAt Go.RowKit Go.AL Go.Proofs
theorem own : ownKnob Tryz.prog.godebug = none := by kernel_rfl
theorem laidOut : laidOutB Tryz.prog = true := by kernel_rfl
theorem ul5 : Tryz.prog.underlying 5 = some (.int .u8) := by kernel_rfl
theorem ul4 : Tryz.prog.underlying 4 = some .bool := by kernel_rfl
theorem ps11 : Tryz.f11.params = #[79, 5, 5] := by kernel_rfl
theorem laid_grel {W : World} (h : laidMetH Tryz.prog Rows.branchAncestorsRow.laid W) : GRel ⟨[], [], W, fun _ => False⟩ G0 := by
  rw [MakeChecks.laidMetH_plain _ _ _ (by kernel_rfl)] at h
  obtain ⟨ps, ⟨g0, t0, cs0, f0, p0, q0, hg0, ht0, hv0, hd0, ⟨g1, t1, cs1, f1, p1, q1, hg1, ht1, hv1, hd1, ⟨g2, t2, cs2, f2, p2, q2, hg2, ht2, hv2, hd2, _, _⟩, _⟩, _⟩, _, _⟩ := h
  obtain rfl := Option.some.inj ((show Tryz.prog.globalNamed "math/bits.deBruijn64tab" = some 2 by kernel_rfl).symm.trans hg0)
  obtain rfl := Option.some.inj ((show Tryz.prog.globalNamed "porism/lattice.keys" = some 1 by kernel_rfl).symm.trans hg1)
  obtain rfl := Option.some.inj ((show Tryz.prog.globalNamed "porism/value.words" = some 0 by kernel_rfl).symm.trans hg2)
  obtain rfl := Option.some.inj ((show (Tryz.prog.globals[2]?).map (·.type) = some 334 by kernel_rfl).symm.trans ht0)
  obtain rfl := Option.some.inj ((show (Tryz.prog.globals[1]?).map (·.type) = some 70 by kernel_rfl).symm.trans ht1)
  obtain rfl := Option.some.inj ((show (Tryz.prog.globals[0]?).map (·.type) = some 258 by kernel_rfl).symm.trans ht2)
  have r0 := laid_tp (X := fun _ => False) (fun _ h => h) (n := 2) (by kernel_rfl) hg0 hv0 hd0 (show _ = db by kernel_rfl)
  have r1 := laid_tp (X := fun _ => False) (fun _ h => h) (n := 2) (by kernel_rfl) hg1 hv1 hd1 (show _ = [.ts 1 (ws.map ([·]))] by kernel_rfl)
  have r2 := laid_tp (X := fun _ => False) (fun _ h => h) (n := 2) (by kernel_rfl) hg2 hv2 hd2 (show _ = ws by kernel_rfl)
  intro g cs hG
  unfold G0 at hG
  split at hG
  · rename_i e; rw [beq_iff_eq] at e; subst e; cases hG; exact r2
  · split at hG
    · rename_i e; rw [beq_iff_eq] at e; subst e; cases hG; exact r1
    · split at hG
      · rename_i e; rw [beq_iff_eq] at e; subst e; cases hG; exact r0
      · cases hG
set_option maxRecDepth 100000 in
theorem branchAncestors_lifted (os : Os) (started : os.Started) (H : Type) (enc : TypeId × Value → H) :
    ReturnsInHanded {} Tryz.checked os 11 .any (fun w args => (Rows.branchAncestorsSpec.pre enc Tryz.prog Tryz.f11 [] false w args ∧ laidMetH Tryz.prog Rows.branchAncestorsRow.laid w) ∧ sizedMet enc Tryz.prog Tryz.f11 (OpenSpec.ofChange Rows.branchAncestorsSpec) false w args)
      (Rows.branchAncestorsSpec.post enc Tryz.prog Tryz.f11 false true false false) := by
  refine returnsInHanded_of_change_and (C := Tryz.checked) (X := fun w _ => laidMetH Tryz.prog Rows.branchAncestorsRow.laid w) (fun _ _ _ hh h => h.of_heap hh) own started (by kernel_rfl) Tryz.func11
    (ChangeSpec.witness_shaped (enc := enc) (C := Tryz.checked) (os := os) (X := fun w _ => laidMetH Tryz.prog Rows.branchAncestorsRow.laid w) false (World.laidAll Tryz.prog os Rows.branchAncestorsRow.laid) #[.agg #[.slice none 0 0, .slice none 0 0], .int .u8 0, .int .u8 0] 8 (World.laidAll_os _ _ _)
      (World.shaped_of_ZipB (by kernel_rfl) (by kernel_rfl)) (by kernel_rfl) (by kernel_rfl) (by kernel_rfl)
      (by rw [MakeChecks.laidMetH_plain _ _ _ (by kernel_rfl)]; exact laidMet_laidAll _ (by kernel_rfl) (by kernel_rfl))) ?_
  intro W base args ds gs before hval0 hW hc hsz hL _
  have hval : ∀ (j : Nat) t v, Tryz.f11.params[j]? = some t → args[j]? = some v → Value.okWide Tryz.prog W .any base t v := hval0
  have hW' := hW
  obtain ⟨p, q, hA0, hV, rfl, _, _⟩ := hW
  have hA : DataW.TrodAll enc Tryz.prog W 0 (fun _ => true) true Tryz.f11.params.toList args.toList ds p := hA0
  rw [ps11] at hA hval
  obtain ⟨v0, v1, v2, d0, d1, d2, p0, p1, p2, rfl, rfl, rfl, h0, h1, h2⟩ := trodAll_three hA
  obtain ⟨rfl, rfl⟩ := trodVars_none hV
  obtain ⟨x, rfl, rfl, rfl, wx⟩ := open_int ul5 (hval 1 _ v1 rfl rfl) h1
  obtain ⟨y, rfl, rfl, rfl, wy⟩ := open_int ul5 (hval 2 _ v2 rfl rfl) h2
  have hlight : Light Tryz.prog 79 d0 := by
    rw [List.all_eq_true] at hsz
    intro k hk
    have h1 := hsz k (List.mem_append_left _ hk)
    exact of_decide_eq_true h1
  obtain ⟨cs, hcs2, hr⟩ := repo_of hlight (hval 0 _ v0 rfl rfl) h0
  have hx : 0 ≤ x ∧ x ≤ 255 := by simpa [Lit.wf, IntKind.min, IntKind.max, IntKind.signed, IntKind.bits] using wx
  have hy : 0 ≤ y ∧ y ≤ 255 := by simpa [Lit.wf, IntKind.min, IntKind.max, IntKind.signed, IntKind.bits] using wy
  obtain ⟨x, rfl⟩ := Int.eq_ofNat_of_zero_le hx.1
  obtain ⟨y, rfl⟩ := Int.eq_ofNat_of_zero_le hy.1
  have hS : SRel ⟨[], [], W, fun _ => False⟩ := ⟨rfl, fun r b v h => by simp at h, fun r r' v v' n h => by simp at h, fun a h => h.elim, fun a h => h.elim⟩
  have law := (law_ok cs x y (by omega) (by omega) hcs2).2 [] W (fun _ => False) #[v0, .int .u8 x, .int .u8 y] hS (laid_grel hL) rfl fun i p v hp hv => by
    match i, hp, hv with
    | 0, hp, hv => simp at hp hv; subst hp; subst hv; exact hr
    | 1, hp, hv => simp at hp hv; subst hp; subst hv; exact .sc ⟨by rw [kmin8]; omega, by rw [kmax8]; omega⟩
    | 2, hp, hv => simp at hp hv; subst hp; subst hv; exact .sc ⟨by rw [kmin8]; omega, by rw [kmax8]; omega⟩
    | i + 3, hp, hv => simp at hp
  have hlt : ∀ z ∈ p0, z.block < W.heap.size := fun z hz => by
    have := hW'.lt z (by simp [hz])
    simpa using this
  refine (callsIn_wide.1 law).mono fun e W' ⟨φ', h', p, v, he, hext, _, hrel, hp, _⟩ => ?_
  subst he; subst hp
  have hb := ext_below hext
  obtain rfl : v = .bool true := by cases hrel; rfl
  exact ⟨_, rfl, _, _, _, [], _, [], hW', trodAll_mk1 (shut_bool ul4 _), trodAll_mk3 (Below.trod laidOut (by kernel_rfl) (of_decide_eq_true (by kernel_rfl)) h0 hb hlt) (shut_int ul5 wx) (shut_int ul5 wy), rfl, hb.frame _, fun h => by cases h⟩
end Go.Proofs.YthackdgnkilhnaaGreatDoor
