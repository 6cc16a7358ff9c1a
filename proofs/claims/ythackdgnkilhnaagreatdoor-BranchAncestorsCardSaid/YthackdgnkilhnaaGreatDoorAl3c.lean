/-
  The rest of 'apure0', and the whole.
-/
import Derived.Test.YthackdgnkilhnaaGreatDoorAl3b
set_option linter.unusedSimpArgs false
set_option linter.unusedVariables false
namespace Go.AL
open Go.RowKit
section
variable {P : Program} {S : St}

theorem index_ok {t : TypeId} {p q r : PV} {c : Prop} {u v : Value} (he : (match r with
    | .sc (.int _ n) => (match tarr P t, q with
      | some (len, e), .agg cs => (match tsize P e, tagg P e with
        | some s, some true => some (PV.agg ((cs.drop (n.toNat * s)).take s), 0 ≤ n ∧ n < len ∧ n.toNat * s + s ≤ cs.length)
        | some s, some false => some (cs.getD (n.toNat * s) .un, 0 ≤ n ∧ n < len ∧ n.toNat * s < cs.length)
        | _, _ => none)
      | _, .sc (.string b) => if tstr P t then some (PV.sc (.int .u8 (b.data.getD n.toNat 0).toNat), 0 ≤ n ∧ n < b.size) else none
      | _, _ => none)
    | _ => none) = some (p, c)) (hc : c) (hu : VRel S q u) (hv : VRel S r v) : ∃ z, (Instr.index t u v).run P S.w = .ok z S.w ∧ VRel S p z := by
  split at he
  case h_2 => cases he
  rename_i ik n
  cases hv with | sc hn =>
  split at he
  · rename_i len e cs hta
    have hus := tarr_inv hta
    obtain ⟨vs, rfl, hl, h1, h⟩ := hu.agg_inv
    split at he
    · rename_i s hs hg
      cases he
      obtain ⟨h0, h2, h3⟩ := hc
      obtain ⟨m, rfl⟩ := Int.eq_ofNat_of_zero_le h0
      rw [Int.toNat_natCast] at h3
      obtain ⟨z, hz, hr⟩ := part_ok (P := P) (S := S) (t := e) (off := m * s) (p := .agg ((cs.drop (m * s)).take s)) (c := m * s + s ≤ cs.length) hl h1 h (by rw [hs, hg]) h3
      refine ⟨z, ?_, by rw [Int.toNat_natCast]; exact hr⟩
      have hm : m < len := by omega
      simp [Instr.index, asIntOf, run_underlying hus, hm, run_sizeOf' hs, hz]
    · rename_i s hs hg
      cases he
      obtain ⟨h0, h2, h3⟩ := hc
      obtain ⟨m, rfl⟩ := Int.eq_ofNat_of_zero_le h0
      rw [Int.toNat_natCast] at h3
      obtain ⟨z, hz, hr⟩ := part_ok (P := P) (S := S) (t := e) (off := m * s) (p := cs.getD (m * s) .un) (c := m * s < cs.length) hl h1 h (by rw [hs, hg]) h3
      refine ⟨z, ?_, by rw [Int.toNat_natCast]; exact hr⟩
      have hm : m < len := by omega
      simp [Instr.index, asIntOf, run_underlying hus, hm, run_sizeOf' hs, hz]
    · cases he
  · split at he
    case isFalse => cases he
    rename_i b hs
    cases he
    cases hu with | sc hb =>
    obtain ⟨h0, h2⟩ := hc
    obtain ⟨m, rfl⟩ := Int.eq_ofNat_of_zero_le h0
    have hm : m < b.size := by omega
    have hg : b[m]? = some (b.data.getD m 0) := by
      have : m < b.data.size := hm
      rw [getElem?_pos b m hm, Array.getD, dif_pos this]
      rfl
    refine ⟨_, by simp [Instr.index, asIntOf, run_underlying (tstr_inv hs), hg], .sc ?_⟩
    have := (b.data.getD m 0).toNat_lt
    simp only [okSc, Int.toNat_natCast]
    generalize (b.data.getD m 0).toNat = y at this ⊢
    exact ⟨by simp [IntKind.min, IntKind.signed], by simp [IntKind.max, IntKind.signed, IntKind.bits]; omega⟩
  · cases he

theorem len_ok {t ty : TypeId} {p q : PV} {c : Prop} {u : Value} (he : alen P t q = some (p, c)) (hu : VRel S q u) :
    ∃ z, (Builtin.len_ #[t] ty #[u]).run P S.w = .ok z S.w ∧ VRel S p z := by
  have sl : ∀ {a : Option Addr} {n cc : Nat} {e : TypeId}, telem P t = some e → n ≤ maxLen → u = .slice a n cc → ∃ z, (Builtin.len_ #[t] ty #[u]).run P S.w = .ok z S.w ∧ VRel S (.sc (.int .i64 n)) z := by
    intro a n cc e ht hn hu
    subst hu
    refine ⟨.int .i64 n, by simp [Builtin.len_, run_underlying (telem_inv ht), goInt], .sc ?_⟩
    simp only [maxLen] at hn
    exact ⟨by simp [IntKind.min, IntKind.signed, IntKind.bits] <;> omega, by simp [IntKind.max, IntKind.signed, IntKind.bits] <;> omega⟩
  cases q <;> simp only [alen, ckmk, ckand, reduceCtorEq] at he <;> (try cases he)
  case sc v =>
    cases v <;> simp only [reduceCtorEq] at he
    rename_i s
    split at he
    case isFalse => cases he
    rename_i ht
    cases he
    cases hu with | sc hs =>
    refine ⟨.int .i64 s.size, by simp [Builtin.len_, run_underlying (tstr_inv ht), goInt], .sc ?_⟩
    simp only [okSc, maxLen] at hs ⊢
    exact ⟨by simp [IntKind.min, IntKind.signed, IntKind.bits] <;> omega, by simp [IntKind.max, IntKind.signed, IntKind.bits] <;> omega⟩
  all_goals
    split at he
    case isFalse => cases he
    rename_i ht
    obtain ⟨e, ht⟩ := Option.isSome_iff_exists.1 ht
    cases he
  · cases hu; exact sl ht (Nat.zero_le _) rfl
  · obtain ⟨a, cc, ad, val, rfl, h1, h2, _⟩ := ts_inv hu; exact sl ht (Nat.le_trans h1 h2) rfl
  · cases hu with | tc hu => obtain ⟨a, cc, ad, val, hv, h1, h2, _⟩ := ts_inv hu; exact sl ht (Nat.le_trans h1 h2) hv
  · cases hu with | vec hu => obtain ⟨a, cc, ad, val, rfl, h1, h2, _⟩ := ts_inv hu; exact sl ht (Nat.le_trans h1 h2) rfl
  · cases hu with
    | ms hp hb hl hcc hm _ => exact sl ht (Nat.le_trans hcc hm) rfl
    | oms hb hcc hm => exact sl ht (Nat.le_trans hcc hm) rfl


def ORel (S : St) : Option PV → Option Value → Prop
  | none, none => True
  | some p, some v => VRel S p v
  | _, _ => False

theorem bound_ok {q : Option PV} {d z n : Nat} {c : Prop} {x : Option Value} (he : abound q d z = some (n, c)) (hc : c) (hx : ORel S q x) :
    (q = none ∧ x = none ∧ n = z) ∨ ∃ (k : IntKind), x = some (.int k n) ∧ n ≤ d := by
  unfold abound at he
  simp only [ckmk, ckand] at he
  split at he
  · cases he
    cases x with
    | none => exact .inl ⟨rfl, rfl, rfl⟩
    | some v => exact hx.elim
  · rename_i k m
    cases he
    cases x with
    | none => exact hx.elim
    | some v =>
      simp only [ORel] at hx
      cases hx with | sc h =>
      obtain ⟨j, rfl⟩ := Int.eq_ofNat_of_zero_le hc.1
      exact .inr ⟨k, by simp, by omega⟩
  · cases he

theorem run_bound {k : IntKind} {n d : Nat} (h : n ≤ d) (code : BoundsCode) (w : World) : (Instr.sliceBound (.int k n) d code).run P w = .ok n w := by
  have : (n : Int) ≤ d := by omega
  simp [Instr.sliceBound, asIntOf, this]

theorem opt_rel {f : Operand → PV} {ρ : Operand → Value} {x : Option Operand} (h : ∀ o, x = some o → VRel S (f o) (ρ o)) : ORel S (x.map f) (x.map ρ) := by
  cases x with
  | none => trivial
  | some o => exact h o rfl

/-- The bounds of a cut without a third index. -/
theorem run_bounds2 {isS : Bool} {len cap : Nat} {qh ql : Option PV} {lo hi : Option Value} {a b : Nat} {c c' : Prop} (hlc : len ≤ cap) (heh : abound qh len len = some (b, c)) (hel : abound ql b 0 = some (a, c'))
    (hc : c) (hc' : c') (hh : ORel S qh hi) (hl : ORel S ql lo) :
    (Instr.sliceBounds isS len cap lo hi none).run P S.w = .ok (a, b, cap) S.w ∧ a ≤ b ∧ b ≤ len := by
  rcases bound_ok heh hc hh with ⟨_, rfl, rfl⟩ | ⟨k, rfl, hb⟩ <;> rcases bound_ok hel hc' hl with ⟨_, rfl, rfl⟩ | ⟨k', rfl, ha⟩
  · exact ⟨by simp [Instr.sliceBounds], Nat.zero_le _, Nat.le_refl _⟩
  · exact ⟨by simp [Instr.sliceBounds, run_bound ha], ha, Nat.le_refl _⟩
  · exact ⟨by simp [Instr.sliceBounds, run_bound (Nat.le_trans hb hlc)], Nat.zero_le _, hb⟩
  · exact ⟨by simp [Instr.sliceBounds, run_bound (Nat.le_trans hb hlc), run_bound ha], ha, hb⟩

/-- Three bounds. -/
theorem run_bounds3 {len cap : Nat} {qh ql : Option PV} {qm : PV} {lo hi : Option Value} {mx : Value} {a b d : Nat} {c0 c c' : Prop} (hlc : len ≤ cap) (hem : abound (some qm) len 0 = some (d, c0)) (heh : abound qh d d = some (b, c)) (hel : abound ql b 0 = some (a, c'))
    (hc0 : c0) (hc : c) (hc' : c') (hm : VRel S qm mx) (hh : ORel S qh hi) (hl : ORel S ql lo) (hn : hi.isSome = true) :
    (Instr.sliceBounds true len cap lo hi (some mx)).run P S.w = .ok (a, b, d) S.w ∧ a ≤ b ∧ b ≤ d ∧ d ≤ len := by
  rcases bound_ok (x := some mx) hem hc0 hm with ⟨h, _⟩ | ⟨k0, h0, hd⟩
  · cases h
  · cases h0
    rcases bound_ok heh hc hh with ⟨_, rfl, rfl⟩ | ⟨k, rfl, hb⟩
    · cases hn
    · rcases bound_ok hel hc' hl with ⟨_, rfl, rfl⟩ | ⟨k', rfl, ha⟩
      · exact ⟨by simp [Instr.sliceBounds, run_bound (Nat.le_trans hd hlc), run_bound hb], Nat.zero_le _, hb, hd⟩
      · exact ⟨by simp [Instr.sliceBounds, run_bound (Nat.le_trans hd hlc), run_bound hb, run_bound ha], ha, hb, hd⟩

/-- A part of a slice. -/
theorem ts_cut {k : Nat} {els : List (List PV)} {a : Option Addr} {c l h m : Nat} (hv : VRel S (.ts k els) (.slice a els.length c)) (hl : l ≤ h) (hh : h ≤ els.length) (hm : h ≤ m) (hmc : m ≤ c) :
    VRel S (.ts k ((els.take h).drop l)) (.slice (if m = l then a else a.map (·.add (l * k))) (h - l) (m - l)) := by
  obtain ⟨a', c', ad, val, he, h1, h2, h3, h4, h5, h6⟩ := ts_inv hv
  cases he
  have hget : ∀ i e, ((els.take h).drop l)[i]? = some e → els[l + i]? = some e := fun i e hi => by
    rw [List.getElem?_drop, List.getElem?_take] at hi
    split at hi
    · exact hi
    · cases hi
  have hlen : ((els.take h).drop l).length = h - l := by simp; omega
  refine .ts hlen (by omega) (by omega) (fun i e hi => h3 _ e (hget i e hi)) (ad.add (l * k)) (fun hn => ?_) (fun j => val (l * k + j)) (fun j hj => ?_) (fun i e j p hi hp => ?_)
  · rw [if_neg (by omega), h4 (by omega)]; rfl
  · rw [add_add]
    refine h5 _ ?_
    have : h * k ≤ els.length * k := Nat.mul_le_mul_right k hh
    rw [Nat.sub_mul] at hj
    omega
  · have := h6 (l + i) e j p (hget i e hi) hp
    rwa [Nat.add_mul, Nat.add_assoc] at this

theorem okSc_extract {s : ByteArray} (a b : Nat) (h : okSc (.string s)) : okSc (.string (s.extract a b)) := by
  simp only [okSc] at h ⊢
  rw [ByteArray.size_extract]
  omega

theorem slice_ok (hS : SRel S) {t : TypeId} {f : Operand → PV} {ρ : Operand → Value} {x : Operand} {lo hi mx : Option Operand} {p : PV} {c : Prop} (he : apure0 P S.h f (.slice t x lo hi mx) = some (p, c)) (hc : c)
    (hx : VRel S (f x) (ρ x)) (hlo : ∀ o, lo = some o → VRel S (f o) (ρ o)) (hhi : ∀ o, hi = some o → VRel S (f o) (ρ o)) (hmx : ∀ o, mx = some o → VRel S (f o) (ρ o)) :
    ∃ z, (Instr.sliceAt t (ρ x) (lo.map ρ) (hi.map ρ) (mx.map ρ)).run P S.w = .ok z S.w ∧ VRel S p z := by
  simp only [apure0, ckmk, ckand] at he
  split at he
  · rename_i e hte
    have hus := telem_inv hte
    split at he
    case h_2 => cases he
    rename_i k els hq
    split at he
    case isFalse => cases he
    rename_i hs
    have hx' := asTs_rel hq hx
    obtain ⟨a0, c0, ad, val, hv0, h1, h2, _⟩ := ts_inv hx'
    rw [hv0] at hx' ⊢
    split at he
    · split at he
      case h_2 => cases he
      rename_i b cb hb
      split at he
      case h_2 => cases he
      rename_i a ca ha
      cases he
      obtain ⟨⟨hc1, hc2⟩, hc3, hc4⟩ := hc
      obtain ⟨hr, hab, hbl⟩ := run_bounds2 (S := S) (P := P) (isS := true) h1 hb ha hc3 hc4 (opt_rel hhi) (opt_rel hlo)
      refine ⟨_, ?_, ts_cut hx' hab hbl (Nat.le_trans hbl h1) (Nat.le_refl _)⟩
      simp [Instr.sliceAt, Instr.slice, run_underlying hus, hr, run_sizeOf' hs]
    · rename_i m
      split at he
      case h_2 => cases he
      rename_i d cd hd
      split at he
      case h_2 => cases he
      rename_i b cb hb
      split at he
      case h_2 => cases he
      rename_i a ca ha
      cases he
      obtain ⟨⟨hc1, hc2, hc3, hc4⟩, hc5, hc6, hc7⟩ := hc
      obtain ⟨hr, hab, hbd, hdl⟩ := run_bounds3 (S := S) (P := P) h1 hd hb ha hc5 hc6 hc7 (hmx m rfl) (opt_rel hhi) (opt_rel hlo) (by simpa using hc4)
      subst hc1
      refine ⟨_, ?_, .tc (ts_cut (m := b) hx' hab hdl (Nat.le_refl _) (Nat.le_trans hdl h1))⟩
      simp [Instr.sliceAt, Instr.slice, run_underlying hus, hr, run_sizeOf' hs]
  · split at he
    · rename_i n e r o hta hfx
      have hus := tarr_inv hta
      split at he
      case h_2 => cases he
      rename_i k tt cs hs hb
      split at he
      case isFalse => cases he
      rename_i hno
      cases he
      simp only [Bool.and_eq_true, Option.isNone_iff_eq_none] at hno
      obtain ⟨⟨rfl, rfl⟩, rfl⟩ := hno
      rw [hfx] at hx
      generalize ρ x = u at hx ⊢
      cases hx with
      | ptr hp hb' =>
        rename_i b _ _
        rw [hb] at hb'
        cases hb'
        obtain ⟨b0, arr0, he0, hh0, hsz0, _⟩ := hS.blks _ _ _ hb hp
        cases he0
        refine ⟨.slice (some ⟨b, o, none⟩) n n, ?_, .ms hp hb hc.1 (Nat.le_refl _) hc.2 ⟨arr0, _, _, hh0, Nat.le_trans hc.1 hsz0⟩⟩
        cases n with
        | zero => simp [Instr.sliceAt, run_underlying hus, Instr.sureAddr, Instr.sliceBounds, run_sizeOf' hs]
        | succ n => simp [Instr.sliceAt, run_underlying hus, Instr.sureAddr, Instr.sliceBounds, run_sizeOf' hs, Addr.add_zero']
      | optr hb' => rw [hb] at hb'; cases hb'
    · rename_i n e cs hta hfx
      have hus := tarr_inv hta
      split at he
      case isFalse => cases he
      rename_i hno
      cases he
      obtain ⟨hs, h1, h2, h3⟩ := hno
      simp only [Option.isNone_iff_eq_none] at h1 h2 h3
      subst h1; subst h2; subst h3
      rw [hfx] at hx
      generalize ρ x = u at hx ⊢
      cases hx with
      | tp val hv h =>
        rename_i a
        obtain ⟨hc1, hc2⟩ := hc
        subst hc1
        refine ⟨.slice (some a) cs.length cs.length, ?_, .ts (by simp) (Nat.le_refl _) hc2 (fun i e hi => ?_) a (fun _ => rfl) val (fun j hj => hv j (by omega)) (fun i e j p hi hp => ?_)⟩
        · cases hn : cs.length with
          | zero => simp [Instr.sliceAt, run_underlying hus, Instr.sureAddr, Instr.sliceBounds, run_sizeOf' hs, hn]
          | succ n => simp [Instr.sliceAt, run_underlying hus, Instr.sureAddr, Instr.sliceBounds, run_sizeOf' hs, Addr.add_zero', hn]
        · rw [List.getElem?_map] at hi
          cases hk : cs[i]? with
          | none => rw [hk] at hi; cases hi
          | some q => rw [hk] at hi; cases hi; rfl
        · rw [List.getElem?_map] at hi
          cases hk : cs[i]? with
          | none => rw [hk] at hi; cases hi
          | some q =>
            rw [hk] at hi
            cases hi
            cases j with
            | zero => simp at hp; subst hp; simpa using h i _ hk
            | succ j => simp at hp
    · rename_i s hfx
      split at he
      case isFalse => cases he
      rename_i hno
      obtain ⟨hst, h3⟩ := hno
      simp only [Option.isNone_iff_eq_none] at h3
      subst h3
      split at he
      case h_2 => cases he
      rename_i b cb hb
      split at he
      case h_2 => cases he
      rename_i a ca ha
      cases he
      rw [hfx] at hx
      generalize ρ x = u at hx ⊢
      cases hx with | sc hsc =>
      obtain ⟨⟨hc1, hc2⟩, hc3, hc4⟩ := hc
      obtain ⟨hr, hab, hbl⟩ := run_bounds2 (S := S) (P := P) (isS := false) (Nat.le_refl _) hb ha hc3 hc4 (opt_rel hhi) (opt_rel hlo)
      refine ⟨_, ?_, .sc (okSc_extract a b hsc)⟩
      simp [Instr.sliceAt, Instr.slice, run_underlying (tstr_inv hst), hr]
    · cases he
end
end Go.AL
