/-
  The walk's rules for the parts of a body, each to be offered by name.
-/
import Derived.Test.YthackdgnkilhnaaGreatDoorAl21
set_option linter.unusedSimpArgs false
set_option linter.unusedVariables false
namespace Go.AL
open Go.RowKit

/-- Which way a test goes. -/
def ACond (r : PV) (A B : Prop) : Prop :=
  match r with
  | .sc (.bool t) => if t = true then A else B
  | _ => False

theorem acond_t {A B : Prop} (k : A) : ACond (.sc (.bool true)) A B := by simp only [ACond, if_true]; exact k
theorem acond_f {A B : Prop} (k : B) : ACond (.sc (.bool false)) A B := by simp only [ACond, Bool.false_eq_true, if_false]; exact k
theorem acond_u {t : Bool} {A B : Prop} (k : t = true → A) (k' : t = false → B) : ACond (.sc (.bool t)) A B := by
  cases t
  · exact acond_f (k' rfl)
  · exact acond_t (k rfl)

section
variable {P : Program} {G : Glob} {rd : Option Nat} {own : Bool} {Q N : Exit → List PV → Heap → Prop} {M : List PV → Heap → Prop} {ts : List PV} {h : Heap}

theorem aw_seq {a b : Code} (k : awp P G rd own a (AThen (awp P G rd own b Q) Q) ts h) : awp P G rd own (.seq a b) Q ts h := k
theorem aw_skip (k : Q .normal ts h) : awp P G rd own .skip Q ts h := k
theorem aw_exit {id : Nat} (k : Q (.exit id) ts h) : awp P G rd own (.exit id) Q ts h := k
theorem aw_ret (k : Q .ret ts h) : awp P G rd own .ret Q ts h := k
theorem aw_label {l : Nat} (k : Q .normal ts h) : awp P G rd own (.label l) Q ts h := k
theorem aw_block {id : Nat} {c : Code} (k : awp P G rd own c (ABlock id Q) ts h) : awp P G rd own (.block id c) Q ts h := k
theorem aw_region {id : Nat} {ops : Array Oper} (k : ∀ l, ops.toList = l → ∀ ds, l.map (·.dst) = ds → AR P G own ds l (Q .normal) ts h) : awp P G rd own (.region id ops false) Q ts h := by
  simp only [awp]; exact k _ rfl _ rfl
theorem aw_drawn {id : Nat} {ops : Array Oper} (k : AWp P G rd (.region id ops true) Q ts h) : awp P G rd own (.region id ops true) Q ts h := k
theorem aw_loop {c : Code} (k : AWp P G rd (.loop c) Q ts h) : awp P G rd own (.loop c) Q ts h := k
theorem aw_rangeFunc {f : Operand} {ps : Array Tmp} {as bd : Code} (k : AWp P G rd (.rangeFunc f ps as bd) Q ts h) : awp P G rd own (.rangeFunc f ps as bd) Q ts h := k
theorem aw_cond {x : Operand} {a b : Code} (k : ∀ r, aev G ts x = r → ACond r (awp P G rd own a Q ts h) (awp P G rd own b Q ts h)) : awp P G rd own (.cond x a b) Q ts h := k _ rfl
theorem th_n (k : M ts h) : AThen M Q .normal ts h := k
theorem th_x {id : Nat} (k : Q (.exit id) ts h) : AThen M Q (.exit id) ts h := k
theorem th_r (k : Q .ret ts h) : AThen M Q .ret ts h := k
theorem bl_n {id : Nat} (k : Q .normal ts h) : ABlock id Q .normal ts h := k
theorem bl_r {id : Nat} (k : Q .ret ts h) : ABlock id Q .ret ts h := k
theorem bl_hit {id : Nat} (k : Q .normal ts h) : ABlock id Q (.exit id) ts h := by simp only [ABlock, if_true]; exact k
theorem bl_miss {id id' : Nat} (hn : ¬ id' = id) (k : Q (.exit id') ts h) : ABlock id Q (.exit id') ts h := by simp only [ABlock, if_neg hn]; exact k
theorem end_n {fn : Func} {R : PV → Heap → Prop} {xs : List ResultVar} (hr : fn.results.toList = xs) (k : ∀ r, ares (α := Prop) P ts h xs = r → ∃ p c, r = some (p, c) ∧ c ∧ R p h) : AEnd P fn R .normal ts h := by
  obtain ⟨p, c, e, hc, hR⟩ := k _ rfl
  simp only [AEnd, hr, e]
  exact ⟨hc, hR⟩
theorem end_r {fn : Func} {R : PV → Heap → Prop} {xs : List ResultVar} (hr : fn.results.toList = xs) (k : ∀ r, ares (α := Prop) P ts h xs = r → ∃ p c, r = some (p, c) ∧ c ∧ R p h) : AEnd P fn R .ret ts h := by
  obtain ⟨p, c, e, hc, hR⟩ := k _ rfl
  simp only [AEnd, hr, e]
  exact ⟨hc, hR⟩
theorem end_ok {R : PV → Heap → Prop} {p : PV} {h : Heap} (k : R p h) : ∃ p' c, some (p, True) = some (p', c) ∧ c ∧ R p' h := ⟨p, True, rfl, trivial, k⟩
theorem end_okc {R : PV → Heap → Prop} {p : PV} {c : Prop} {h : Heap} (hc : c) (k : R p h) : ∃ p' c', some (p, c) = some (p', c') ∧ c' ∧ R p' h := ⟨p, c, rfl, hc, k⟩
end
end Go.AL
namespace Go.AL
theorem ACall.weaken {P : Program} {G : Glob} {f : FuncId} {args : List PV} {h : Heap} {R : PV → Heap → Prop} (k : ACall P G f args h fun p h' => ∃ q, PLe p q ∧ R q h') : ACall P G f args h R :=
  ⟨k.1, fun φ w X vs a b c d => (k.2 φ w X vs a b c d).mono fun e w' ⟨φ', h', p, v, x1, x2, x3, x4, q, x5, x6⟩ => ⟨φ', h', q, v, x1, x2, x3, x5 _ _ x4, x6⟩⟩
end Go.AL
