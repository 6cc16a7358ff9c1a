/-
  The walk as a program, with a table of calls whose outcome is known.
-/
import Derived.Test.YthackdgnkilhnaaGreatDoorAl18
set_option linter.unusedSimpArgs false
set_option linter.unusedVariables false
namespace Go.AL
open Go.RowKit

abbrev Tab := List (FuncId × List PV × PV)

def tabFn (T : Tab) (inner : FuncId → List PV → Heap → Option (PV × Heap)) (g : FuncId) (args : List PV) (h : Heap) : Option (PV × Heap) :=
  match T.find? (fun e => Nat.beq e.1 g && lstEq (pvEq 40) e.2.1 args) with
  | some e => some (e.2.2, h)
  | none => inner g args h

def xcallT (P : Program) (G : Glob) (keep own : FuncId → Bool) (L : Nat) (T : Tab) : Nat → Caller
  | 0 => ⟨fun _ _ _ => none, fun _ _ _ => none⟩
  | n + 1 => ⟨tabFn T (xfn P G keep own (xcallT P G keep own L T n) L), xyl P G (xcallT P G keep own L T n) L⟩

def TabOk (P : Program) (G : Glob) (T : Tab) : Prop := ∀ e ∈ T, ∀ h, ACall P G e.1 e.2.1 h fun q h2 => q = e.2.2 ∧ h2 = h

section
variable {P : Program} {G : Glob}

theorem tabOk_nil : TabOk P G [] := fun e he => by cases he

theorem xcallT_ok (hm : P.follows .mixedOrders = true) (hG : GTree G) {T : Tab} (hT : TabOk P G T) (keep ow : FuncId → Bool) (L : Nat) : ∀ n, CallOk P G (xcallT P G keep ow L T n) := by
  intro n
  induction n with
  | zero => exact ⟨fun g args h p h' e => (by cases e), fun r args h p h' e => (by cases e)⟩
  | succ n ih =>
    refine ⟨fun g args h p h' e => ?_, fun r args h p h' e => xyl_ok hm hG ih e⟩
    simp only [xcallT, tabFn] at e
    split at e
    · rename_i x hx
      cases e
      have h1 := List.mem_of_find?_eq_some hx
      have h2 := List.find?_some hx
      rw [Bool.and_eq_true] at h2
      have e1 : x.1 = g := Nat.eq_of_beq_eq_true h2.1
      have e2 := lstEq_ok (pvEq_ok 40) h2.2
      rw [← e1, ← e2]
      exact hT x h1 h
    · exact xfn_ok hm hG ih e

theorem tabOk_cons (hm : P.follows .mixedOrders = true) (hG : GTree G) {T : Tab} (hT : TabOk P G T) {keep ow : FuncId → Bool} {L n : Nat} {g : FuncId} {args : List PV} {p : PV}
    (e : (xcallT P G keep ow L T n).fn g args [] = some (p, [])) (ha : args.all (treeB 40) = true) (hp : treeB 40 p = true) : TabOk P G ((g, args, p) :: T) := by
  intro x hx h
  rcases List.mem_cons.1 hx with rfl | hx
  · rw [List.all_eq_true] at ha
    exact Pure.frame ((xcallT_ok hm hG hT keep ow L n).fn _ _ _ _ _ e) (fun q hq => treeB_ok _ _ (ha q hq)) (treeB_ok _ _ hp) hG h
  · exact hT x hx h
end
end Go.AL
