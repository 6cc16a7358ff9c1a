/-
  Calls: a function's contract, how it is met at a call, how it is made of its body.
-/
import Derived.Test.YthackdgnkilhnaaGreatDoorAl4
set_option linter.unusedSimpArgs false
set_option linter.unusedVariables false
namespace Go.AL
open Go.RowKit

/-- A value in which no block of the call's own is named. -/
inductive Tree : PV → Prop
  | un : Tree .un
  | ud : Tree .ud
  | sc {v : Value} : Tree (.sc v)
  | nil : Tree .nil
  | agg {cs : List PV} (h : ∀ p ∈ cs, Tree p) : Tree (.agg cs)
  | tup {cs : List PV} (h : ∀ p ∈ cs, Tree p) : Tree (.tup cs)
  | ts {k : Nat} {els : List (List PV)} (h : ∀ e ∈ els, ∀ p ∈ e, Tree p) : Tree (.ts k els)
  | tc {k : Nat} {els : List (List PV)} (h : ∀ e ∈ els, ∀ p ∈ e, Tree p) : Tree (.tc k els)
  | tp {cs : List PV} (h : ∀ p ∈ cs, Tree p) : Tree (.tp cs)
  | fn {f : Fn} {a b : List PV} (h : ∀ p ∈ a, Tree p) (h' : ∀ p ∈ b, Tree p) : Tree (.fn f a b)
  | ifc {t : TypeId} {p : PV} (h : Tree p) : Tree (.ifc t p)

/-- What a tree says leans on the cells that stand still alone. -/
theorem VRel.tree {S S' : St} {p : PV} {v : Value} (h : VRel S p v) (ht : Tree p) (hm : ∀ a u, S.M a u → S'.M a u) : VRel S' p v := by
  induction h with
  | un => exact .un
  | ud => exact .ud
  | sc h => exact .sc h
  | nil => exact .nil
  | agg hl h1 _ ih => cases ht with | agg ht => exact .agg hl h1 fun i p v hp hv => ih i p v hp hv (ht p (List.mem_of_getElem? hp))
  | tup hl _ ih => cases ht with | tup ht => exact .tup hl fun i p v hp hv => ih i p v hp hv (ht p (List.mem_of_getElem? hp))
  | ts hl hc hm' hk ad ha val hv _ ih =>
    cases ht with | ts ht => exact .ts hl hc hm' hk ad ha val (fun j hj => hm _ _ (hv j hj)) fun i e j p hi hp => ih i e j p hi hp (ht e (List.mem_of_getElem? hi) p (List.mem_of_getElem? hp))
  | tc _ ih => cases ht with | tc ht => exact .tc (ih (.ts ht))
  | vec _ _ _ _ _ => cases ht
  | ms => cases ht
  | oms => cases ht
  | ptr => cases ht
  | optr => cases ht
  | tp val hv _ ih => cases ht with | tp ht => exact .tp val (fun j hj => hm _ _ (hv j hj)) fun j p hp => ih j p hp (ht p (List.mem_of_getElem? hp))
  | fn hl hl' _ _ ih ih' => cases ht with | fn h h' => exact .fn hl hl' (fun i p v hp hv => ih i p v hp hv (h p (List.mem_of_getElem? hp))) fun i p v hp hv => ih' i p v hp hv (h' p (List.mem_of_getElem? hp))
  | ifc _ ih => cases ht with | ifc ht => exact .ifc (ih ht)
  | mp => cases ht
  | yl => cases ht

/-- 'q' says no more than 'p'. -/
def PLe (p q : PV) : Prop := ∀ (S : St) (v : Value), VRel S p v → VRel S q v

theorem PLe.refl (p : PV) : PLe p p := fun _ _ h => h
theorem PLe.trans {p q r : PV} (h : PLe p q) (k : PLe q r) : PLe p r := fun S v x => k S v (h S v x)
theorem PLe.un (p : PV) : PLe p .un := fun _ _ _ => .un
theorem PLe.nil_ts (k : Nat) : PLe .nil (.ts k []) := fun S v h => by
  cases h
  exact .ts rfl (Nat.le_refl _) (Nat.zero_le _) (by simp) ⟨0, 0, none⟩ (fun h => absurd rfl h) (fun _ => undef) (by simp) (by simp)
theorem PLe.vec_ts (r k : Nat) (e : List (List PV)) : PLe (.vec r k e) (.ts k e) := fun S v h => by cases h with | vec h => exact h
theorem PLe.tc_ts (k : Nat) (e : List (List PV)) : PLe (.tc k e) (.ts k e) := fun S v h => by cases h with | tc h => exact h
theorem PLe.agg {cs ds : List PV} (hl : cs.length = ds.length) (h : ∀ (i : Nat) (p q : PV), cs[i]? = some p → ds[i]? = some q → PLe p q) : PLe (.agg cs) (.agg ds) := fun S v hv => by
  cases hv with
  | agg hl' h1 hr =>
    refine .agg (hl'.trans hl) h1 fun i q u hq hu => ?_
    have hi : i < cs.length := by rw [hl]; exact (List.getElem?_eq_some_iff.1 hq).1
    exact h i _ q (List.getElem?_eq_getElem hi) hq S u (hr i _ u (List.getElem?_eq_getElem hi) hu)

def enterB (P : Program) (f : FuncId) : Bool := match P.funcs[f]? with | some fn => !(fn.name == "runtime.NumGoroutine") && fn.body.isSome | none => false

/-- Called with values of which this is known, in memory of which this is known, the function returns, and R holds of what it hands back and of what it leaves behind. -/
def ACall (P : Program) (G : Glob) (f : FuncId) (args : List PV) (h : Heap) (R : PV → Heap → Prop) : Prop :=
  enterB P f = true ∧ ∀ (φ : List Value) (w : World) (X : Addr → Prop) (vs : Array Value), SRel ⟨φ, h, w, X⟩ → GRel ⟨φ, h, w, X⟩ G → vs.size = args.length →
    (∀ (i : Nat) (p : PV) (v : Value), args[i]? = some p → vs[i]? = some v → VRel ⟨φ, h, w, X⟩ p v) →
    CallsIn Fence.wide 0 P f vs w fun e w' => ∃ (φ' : List Value) (h' : Heap) (p : PV) (v : Value), e = .returned v ∧ Ext ⟨φ, h, w, X⟩ ⟨φ', h', w', X⟩ ∧ SRel ⟨φ', h', w', X⟩ ∧ VRel ⟨φ', h', w', X⟩ p v ∧ R p h'

theorem ACall.mono {P : Program} {G : Glob} {f : FuncId} {args : List PV} {h : Heap} {R R' : PV → Heap → Prop} (k : ACall P G f args h R) (hr : ∀ p h', R p h' → R' p h') : ACall P G f args h R' :=
  ⟨k.1, fun φ w X vs a b c d => (k.2 φ w X vs a b c d).mono fun e w' ⟨φ', h', p, v, x1, x2, x3, x4, x5⟩ => ⟨φ', h', p, v, x1, x2, x3, x4, hr p h' x5⟩⟩

/-- The contract of a function that only computes. -/
def Pure (P : Program) (G : Glob) (f : FuncId) (args : List PV) (res : PV) : Prop := ACall P G f args [] fun p h' => p = res ∧ h' = []

/-- Weaker arguments. -/
theorem ACall.args {P : Program} {G : Glob} {f : FuncId} {args args' : List PV} {h : Heap} {R : PV → Heap → Prop} (k : ACall P G f args h R) (hl : args'.length = args.length)
    (hle : ∀ (i : Nat) (p q : PV), args'[i]? = some p → args[i]? = some q → PLe p q) : ACall P G f args' h R :=
  ⟨k.1, fun φ w X vs a b c d => k.2 φ w X vs a b (c.trans hl) fun i q v hq hv => by
    have hi : i < args'.length := by rw [hl]; exact (List.getElem?_eq_some_iff.1 hq).1
    exact hle i _ q (List.getElem?_eq_getElem hi) hq _ v (d i _ v (List.getElem?_eq_getElem hi) hv)⟩

/-- A function that only computes, called in the midst of a call: what the caller owns it does not see. -/
theorem Pure.frame {P : Program} {G : Glob} {f : FuncId} {args : List PV} {res : PV} (k : Pure P G f args res) (ht : ∀ p ∈ args, Tree p) (hr : Tree res) (hG : ∀ g cs, G g = some cs → ∀ p ∈ cs, Tree p) (h : Heap) :
    ACall P G f args h fun p h' => p = res ∧ h' = h := by
  refine ⟨k.1, fun φ w X vs hS hGr hl hv => ?_⟩
  let S : St := ⟨φ, h, w, X⟩
  let X0 : Addr → Prop := fun a => a.block < w.heap.size ∧ ¬ S.Stable a
  have hm : ∀ a u, S.M a u → (⟨[], [], w, X0⟩ : St).M a u := fun a u ⟨h1, h2, h3⟩ => ⟨h1, h2, h3.1, h3.2.1, fun hx => hx.2 h3, fun r v hp => by simp at hp⟩
  have hS0 : SRel ⟨[], [], w, X0⟩ := ⟨rfl, fun r b v hb => by simp at hb, fun r r' v v' n hp => by simp at hp, fun a ha => ha.1, fun a ha r v hp => by simp at hp⟩
  have hG0 : GRel ⟨[], [], w, X0⟩ G := fun g cs hg => (hGr g cs hg).tree (.tp (hG g cs hg)) hm
  refine (k.2 [] w X0 vs hS0 hG0 hl fun i p v hp hvv => (hv i p v hp hvv).tree (ht p (List.mem_of_getElem? hp)) hm).mono ?_
  rintro e w' ⟨φ', h', p, v, rfl, x, hS', hvr, rfl, rfl⟩
  have hφ' : φ' = [] := List.eq_nil_of_length_eq_zero (by have := hS'.len; simpa using this)
  subst hφ'
  have hsame : ∀ b, b < w.heap.size → w'.heap[b]? = w.heap[b]? := fun b hb => (x.unt b hb (by rintro ⟨r, y, hy, _⟩; simp at hy)).2
  have x' : Ext S ⟨φ, h, w', X⟩ := by
    refine ⟨rfl, x.os, x.tape, x.output, x.size, fun b hb hn => ⟨hn, hsame b hb⟩, fun a u hmu => ?_, fun r b hb => ⟨b, hb, Blk.le_refl b rfl⟩, fun b m ⟨ar, t1, f1, h1, h2⟩ => ⟨ar, t1, f1, (hsame b (Array.getElem?_eq_some_iff.1 h1).1).trans h1, h2⟩⟩
    obtain ⟨h1, h2, h3, h4, h5, h6⟩ := hmu
    exact ⟨(World.cell?_of_block (hsame _ h4)).trans h1, h2, h3, Nat.lt_of_lt_of_le h4 x.size, h5, h6⟩
  refine ⟨φ, h, p, v, rfl, x', ⟨hS.len, fun r b y hb hy => (hS.blks r b y hb hy).ext x' fun n hn => hsame n (hS.own_lt ⟨r, y, hy, hn⟩), hS.inj, fun a ha => Nat.lt_of_lt_of_le (hS.xlt a ha) x.size, hS.xown⟩, ?_, rfl, rfl⟩
  refine hvr.tree hr fun a u hmu => ?_
  obtain ⟨h1, h2, h3, h4, h5, h6⟩ := hmu
  refine ⟨h1, h2, ?_⟩
  by_cases hlt : a.block < w.heap.size
  · have hst : S.Stable a := Classical.byContradiction fun hn => h5 ⟨hlt, hn⟩
    exact ⟨h3, h4, hst.2.2.1, hst.2.2.2⟩
  · exact ⟨h3, h4, fun hx => hlt (hS.xlt a hx), fun r y hy hb => absurd (hS.own_lt ⟨r, y, hy, hb⟩) hlt⟩

/-! ### A call -/

theorem run_call {P : Program} {f : FuncId} (h : enterB P f = true) (args : Array Value) (w : World) : (callFunc f args).run P w = .ok (.enter f args) w := by
  unfold enterB at h
  split at h
  · rename_i fn hf
    simp only [Bool.and_eq_true, Bool.not_eq_true'] at h
    obtain ⟨b, hb⟩ := Option.isSome_iff_exists.1 h.2
    have hn : ¬ fn.name = "runtime.NumGoroutine" := by simpa using h.1
    simp [callFunc, hf, hn, hb]
  · cases h

section
variable {P : Program} {G : Glob} {rd : Option Nat}

/-- An operation that calls a function: by name, or a function value. -/
theorem OpOk.call {o : Oper} {c : Call} {x : Operand} {f : FuncId} {fst cap : List PV} {h : Heap} {F : Operand → PV} {R : PV → Heap → Prop} (ho : o.op = .call c) (hc : c.callee = .value x)
    (hx : F x = .fn (.func f) fst cap) (k : ACall P G f (fst ++ c.args.toList.map F ++ cap) h R) : OpOk P G rd o h F R := by
  intro φ w X a K Q hS hG hop hK
  refine ⟨fun f _ => trivial, ?_⟩
  rw [Oper.semAt_eq _ _ _ (fun c' hd => by rw [ho] at hd; cases hd)]
  have hxv := hop x (by rw [ho]; simp [Op.operands, Call.operands, hc])
  rw [hx] at hxv
  obtain ⟨us, vs, he, hl, hl', h1, h2⟩ : ∃ (us vs : Array Value), a.eval x = .func (.func f) us vs ∧ us.size = fst.length ∧ vs.size = cap.length ∧
      (∀ (i : Nat) (p : PV) (v : Value), fst[i]? = some p → us[i]? = some v → VRel ⟨φ, h, w, X⟩ p v) ∧ (∀ (i : Nat) (p : PV) (v : Value), cap[i]? = some p → vs[i]? = some v → VRel ⟨φ, h, w, X⟩ p v) := by
    generalize a.eval x = u at hxv
    cases hxv with
    | fn hl hl' h h' => exact ⟨_, _, rfl, hl, hl', h, h'⟩
  obtain ⟨m1, m2⟩ := map_rel (S := ⟨φ, h, w, X⟩) (f := F) (ρ := a.eval) c.args (fun y hy => hop y (by rw [ho]; simp [Op.operands, Call.operands, hy]))
  have hrun : (execOp a.eval o).run P w = .ok (.enter f (us ++ c.args.map a.eval ++ vs)) w := by
    simp [execOp, ho, resolve, hc, he, Deferred.ofValue, invoke, run_call k.1]
  rw [hrun]
  refine ⟨fun h => by simp [FW, Fence.wide] at h, ?_⟩
  have hsz : (us ++ c.args.map a.eval ++ vs).size = (fst ++ c.args.toList.map F ++ cap).length := by
    simp only [Array.size_append, List.length_append, hl, hl', m1]
  have hcall := k.2 φ w X (us ++ c.args.map a.eval ++ vs) hS hG hsz fun i p v hp hv => by
    simp only [List.getElem?_append, List.length_append] at hp
    simp only [Array.getElem?_append, Array.size_append, hl, m1] at hv
    split at hp
    · rename_i hlt
      rw [if_pos hlt] at hv
      split at hp
      · rename_i hlt2
        rw [if_pos hlt2] at hv
        exact h1 i p v hp hv
      · rename_i hlt2
        rw [if_neg hlt2] at hv
        exact m2 _ p v hp hv
    · rename_i hlt
      rw [if_neg hlt] at hv
      exact h2 _ p v hp hv
  exact (show CallsIn (FW rd) (0 - 1) P f _ w _ from hcall).mono fun e w' ⟨φ', h', p, v, he, x, hs, hv, hr⟩ => by
    subst he
    exact hK φ' h' w' p v x hs hv hr
end
end Go.AL
