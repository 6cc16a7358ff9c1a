/-
  Small things that all walks share.
-/
import Derived.Test.YthackdgnkilhnaaGreatDoorUFacts
import Derived.IntWalk
set_option linter.unusedSimpArgs false
set_option linter.unusedVariables false
namespace Go.AL
open Go.Proofs
abbrev i64 (n : Int) : PV := .sc (.int .i64 n)
abbrev bo (b : Bool) : PV := .sc (.bool b)
theorem kmin64 : IntKind.i64.min = -9223372036854775808 := by decide
theorem kmax64 : IntKind.i64.max = 9223372036854775807 := by decide
theorem kmin8 : IntKind.u8.min = 0 := by decide
theorem kmax8 : IntKind.u8.max = 255 := by decide
theorem zero_lt1 : (0 : Nat) < 1 := Nat.zero_lt_one
theorem wr64 {n : Int} (h1 : -9223372036854775808 ≤ n) (h2 : n ≤ 9223372036854775807) : IntKind.i64.wrap n = n := IntWalk.i64_in n ⟨h1, h2⟩
theorem tint8 : True := trivial
theorem getD_map_lt {α β : Type} {f : α → β} {l : List α} {n : Nat} (d : β) (h : n < l.length) : (l.map f).getD n d = f l[n] := by
  rw [List.getD_eq_getElem?_getD, List.getElem?_map, List.getElem?_eq_getElem h]; rfl
theorem drop_getD {α β : Type} {f : α → β} {l : List α} {n : Nat} (d : β) (h : n < l.length) : ((l.map f).drop n).getD 0 d = f l[n] := by
  rw [List.getD_eq_getElem?_getD, List.getElem?_drop, Nat.add_zero, List.getElem?_map, List.getElem?_eq_getElem h]; rfl
theorem splice_map {α β : Type} (f : α → β) (l : List α) (n : Nat) (x : α) (h : n < l.length) : (l.map f).take n ++ f x :: (l.map f).drop (n + 1) = (l.set n x).map f := by
  rw [List.set_eq_take_append_cons_drop, if_pos h]
  simp
theorem chunks1 (cs : List PV) : chunks cs 0 1 cs.length = cs.map ([·]) := by
  apply List.ext_getElem?
  intro i
  unfold chunks
  rw [List.getElem?_map, List.getElem?_map]
  by_cases h : i < cs.length
  · simp [h, List.getElem?_eq_getElem h, List.take_one, List.head?_drop]
  · simp [h]
theorem chunk11 (p : PV) : chunks [p] 0 1 1 = [[p]] := rfl
theorem oc_slice (a : Option Addr) (b c : Nat) : (Value.slice a b c).oneCell' = true := rfl
theorem oc_int (k : IntKind) (n : Int) : (Value.int k n).oneCell' = true := rfl
theorem oc_bool (b : Bool) : (Value.bool b).oneCell' = true := rfl
theorem oc_string (b : ByteArray) : (Value.string b).oneCell' = true := rfl
theorem mixed : Tryz.prog.follows .mixedOrders = true := by kernel_rfl
def ws : List PV := [.sc (.string "lattice".toUTF8), .sc (.string "function".toUTF8), .sc (.string "on".toUTF8), .sc (.string "base".toUTF8), .sc (.string "view".toUTF8), .sc (.string "key".toUTF8), .sc (.string "deny".toUTF8), .sc (.string "not".toUTF8), .sc (.string "int".toUTF8), .sc (.string "sym".toUTF8)]
def db : List PV := [.sc (.int .u8 0), .sc (.int .u8 1), .sc (.int .u8 56), .sc (.int .u8 2), .sc (.int .u8 57), .sc (.int .u8 49), .sc (.int .u8 28), .sc (.int .u8 3), .sc (.int .u8 61), .sc (.int .u8 58), .sc (.int .u8 42), .sc (.int .u8 50), .sc (.int .u8 38), .sc (.int .u8 29), .sc (.int .u8 17), .sc (.int .u8 4), .sc (.int .u8 62), .sc (.int .u8 47), .sc (.int .u8 59), .sc (.int .u8 36), .sc (.int .u8 45), .sc (.int .u8 43), .sc (.int .u8 51), .sc (.int .u8 22), .sc (.int .u8 53), .sc (.int .u8 39), .sc (.int .u8 33), .sc (.int .u8 30), .sc (.int .u8 24), .sc (.int .u8 18), .sc (.int .u8 12), .sc (.int .u8 5), .sc (.int .u8 63), .sc (.int .u8 55), .sc (.int .u8 48), .sc (.int .u8 27), .sc (.int .u8 60), .sc (.int .u8 41), .sc (.int .u8 37), .sc (.int .u8 16), .sc (.int .u8 46), .sc (.int .u8 35), .sc (.int .u8 44), .sc (.int .u8 21), .sc (.int .u8 52), .sc (.int .u8 32), .sc (.int .u8 23), .sc (.int .u8 11), .sc (.int .u8 54), .sc (.int .u8 26), .sc (.int .u8 40), .sc (.int .u8 15), .sc (.int .u8 34), .sc (.int .u8 20), .sc (.int .u8 31), .sc (.int .u8 10), .sc (.int .u8 25), .sc (.int .u8 14), .sc (.int .u8 19), .sc (.int .u8 9), .sc (.int .u8 13), .sc (.int .u8 8), .sc (.int .u8 7), .sc (.int .u8 6)]
def G0 : Glob := fun g => if g == 0 then some ws else if g == 1 then some [.ts 1 (ws.map ([·]))] else if g == 2 then some db else none
theorem gtree : GTree G0 := by
  intro g cs h p hp
  have key : cs.all (treeB 40) = true := by
    unfold G0 at h
    split at h
    · cases h; kernel_rfl
    · split at h
      · cases h; kernel_rfl
      · split at h
        · cases h; kernel_rfl
        · cases h
  rw [List.all_eq_true] at key
  exact treeB_ok 40 p (key p hp)
end Go.AL
namespace Go.AL
open Go.Proofs
variable {P : Program} {G : Glob} {rd : Option Nat}
theorem awp_cut (ks : List Nat) {own : Bool} (st : List PV) (h1 : Heap) {c d : Code} {Q : Exit → List PV → Heap → Prop} {ts : List PV} {h : Heap}
    (k : awp P G rd own c (AThen (fun t' h' => keepT ks 0 t' = st ∧ h' = h1) Q) ts h) (k2 : AWp P G rd d Q st h1) : AWp P G rd (.seq c d) Q ts h := by
  refine awp_seq ((awp_ok _ _ _ _ k).mono fun e t1 h2 q => ?_)
  cases e with
  | normal =>
    obtain ⟨e1, rfl⟩ := q
    refine awp_keep ks ?_
    rw [e1]; exact k2
  | _ => exact q
/-- A loop whose rounds are told by a state, the body not yet begun. -/
theorem awp_loop_stA {σ : Type} (ks : List Nat) (f : σ → List PV) (g : σ → Heap) (I : σ → Prop) (m : σ → Nat) {c : Code} {Q : Exit → List PV → Heap → Prop} {ts : List PV} {h : Heap} (s0 : σ) (h1 : keepT ks 0 ts = f s0) (h2 : h = g s0) (h3 : I s0)
    (k : ∀ s, I s → AWp P G rd c (AThen (fun ts' h' => ∃ s', I s' ∧ m s' < m s ∧ keepT ks 0 ts' = f s' ∧ h' = g s') Q) (f s) (g s)) : AWp P G rd (.loop c) Q ts h := by
  refine awp_loop (fun n ts h => ∃ s, I s ∧ m s = n ∧ keepT ks 0 ts = f s ∧ h = g s) (m s0) ⟨s0, h3, rfl, h1, h2⟩ ?_
  rintro n ts h ⟨s, hI, rfl, e1, rfl⟩
  refine awp_keep ks ?_
  rw [e1]
  refine (k s hI).mono fun e t1 h1 q => ?_
  cases e with
  | normal => obtain ⟨s', a, b, c, d⟩ := q; exact ⟨m s', b, s', a, rfl, c, d⟩
  | _ => exact q
end Go.AL
