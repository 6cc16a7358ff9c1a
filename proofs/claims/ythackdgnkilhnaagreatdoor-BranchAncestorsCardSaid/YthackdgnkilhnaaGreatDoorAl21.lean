/-
  What is needed to walk a body for every input: cells that are no longer looked at, loops over a state, regions whose order is drawn.
-/
import Derived.Test.YthackdgnkilhnaaGreatDoorAl19
set_option linter.unusedSimpArgs false
set_option linter.unusedVariables false
namespace Go.AL
open Go.RowKit

/-- The cells that are still looked at. -/
def keepT : List Nat → Nat → List PV → List PV
  | _, _, [] => []
  | ks, i, p :: ts => (if ks.contains i then p else .un) :: keepT ks (i + 1) ts

theorem keepT_len (ks : List Nat) : ∀ (ts : List PV) (i : Nat), (keepT ks i ts).length = ts.length := by
  intro ts
  induction ts with
  | nil => intro i; rfl
  | cons p ts ih => intro i; simp [keepT, ih]

theorem keepT_get (ks : List Nat) : ∀ (ts : List PV) (i j : Nat) (q : PV), (keepT ks i ts)[j]? = some q → ∃ p, ts[j]? = some p ∧ (q = p ∨ q = .un) := by
  intro ts
  induction ts with
  | nil => intro i j q h; simp [keepT] at h
  | cons p ts ih =>
    intro i j q h
    cases j with
    | zero =>
      simp only [keepT, List.getElem?_cons_zero, Option.some.injEq] at h
      refine ⟨p, rfl, ?_⟩
      subst h
      split
      · exact .inl rfl
      · exact .inr rfl
    | succ j => simpa using ih (i + 1) j q (by simpa [keepT] using h)

section
variable {P : Program} {G : Glob} {rd : Option Nat}

theorem awp_keep (ks : List Nat) {c : Code} {Q : Exit → List PV → Heap → Prop} {ts : List PV} {h : Heap} (k : AWp P G rd c Q (keepT ks 0 ts) h) : AWp P G rd c Q ts h := by
  intro B φ w X a hA
  refine k B φ w X a ⟨hA.st, hA.gl, ⟨by rw [hA.tr.size, keepT_len], fun i q hq => ?_⟩, hA.mark, hA.base⟩
  obtain ⟨p, hp, hq'⟩ := keepT_get ks ts 0 i q hq
  rcases hq' with rfl | rfl
  · exact hA.tr.rel i _ hp
  · exact .un

/-- A loop whose rounds are told by a state. -/
theorem awp_loop_st {σ : Type} (ks : List Nat) (f : σ → List PV) (g : σ → Heap) (I : σ → Prop) (m : σ → Nat) {c : Code} {Q : Exit → List PV → Heap → Prop} {ts : List PV} {h : Heap} (s0 : σ) (h1 : keepT ks 0 ts = f s0) (h2 : h = g s0) (h3 : I s0)
    {own : Bool} (k : ∀ s, I s → awp P G rd own c (AThen (fun ts' h' => ∃ s', I s' ∧ m s' < m s ∧ keepT ks 0 ts' = f s' ∧ h' = g s') Q) (f s) (g s)) : AWp P G rd (.loop c) Q ts h := by
  refine awp_loop (fun n ts h => ∃ s, I s ∧ m s = n ∧ keepT ks 0 ts = f s ∧ h = g s) (m s0) ⟨s0, h3, rfl, h1, h2⟩ ?_
  rintro n ts h ⟨s, hI, rfl, e1, rfl⟩
  refine awp_keep ks ?_
  rw [e1]
  refine (awp_ok _ _ _ _ (k s hI)).mono fun e t1 h1 q => ?_
  cases e with
  | normal => obtain ⟨s', a, b, c, d⟩ := q; exact ⟨m s', b, s', a, rfl, c, d⟩
  | _ => exact q

/-- A contract out of a body, the cells laid out. -/
theorem acall_of {f : FuncId} {fn : Func} {c : Code} {args ts : List PV} {h : Heap} {R : PV → Heap → Prop} (hf : P.funcs[f]? = some fn) (hb : fn.body = some c)
    (hen : enterB P f = true) (ht : args ++ List.replicate (fn.ntmps - args.length) .ud = ts) {own : Bool} (k : awp P G none own c (AEnd P fn R) ts h) : ACall P G f args h R :=
  acall_of_body hf hb hen (by rw [ht]; exact awp_ok _ _ _ _ k)
end
end Go.AL
namespace Go.AL
/-- The places of a struct's parts, as a table. -/
def plOf (l : List (Nat × Nat)) (i : Nat) : Option (Nat × Nat) := l[i]?

def plFs (P : Program) : List Field → Option (List (Nat × Nat))
  | [] => some []
  | f :: fs => match tsize P f.type, plFs P fs with
    | some s, some l => some ((f.offset, s) :: l)
    | _, _ => none

theorem plFs_get {P : Program} : ∀ {fs : List Field} {l : List (Nat × Nat)}, plFs P fs = some l → ∀ i : Nat, ((fs[i]?).bind fun f : Field => (tsize P f.type).map fun s => (f.offset, s)) = l[i]? := by
  intro fs
  induction fs with
  | nil => intro l h i; cases h; simp
  | cons f fs ih =>
    intro l h i
    simp only [plFs] at h
    split at h
    · rename_i s l' hs hl
      cases h
      cases i with
      | zero => simp [hs]
      | succ i => simpa using ih hl i
    · cases h

theorem plOf_ok {P : Program} {t : TypeId} {fs : Array Field} {l : List (Nat × Nat)} (h : P.underlying t = some (.struct fs)) (hf : (fs.all fun f => (tsize P f.type).isSome) = true) (hl : plFs P fs.toList = some l) : tplace P t = some (plOf l) := by
  unfold tplace
  rw [h]
  simp only [hf, if_true, Option.some.injEq]
  funext i
  rw [← Array.getElem?_toList]
  exact plFs_get hl i
end Go.AL
