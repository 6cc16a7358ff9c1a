/-
  A plan for a region whose order is drawn, reckoned and tested.
-/
import Derived.Test.YthackdgnkilhnaaGreatDoorAl16
set_option linter.unusedSimpArgs false
set_option linter.unusedVariables false
namespace Go.AL
open Go.RowKit

/-- What lies before an operation, as the bits of a number. -/
def ancBits (m : List Nat) (o : Oper) : Nat :=
  o.after.toList.foldl (fun acc e => if Region.binds .any e then acc ||| (1 <<< e.on) ||| m.getD e.on 0 else acc) 0

def ancAll (ops : List Oper) : List Nat → List Nat → List Nat
  | [], m => m
  | i :: r, m => match ops[i]? with
    | some o => ancAll ops r (m.set i (ancBits m o))
    | none => ancAll ops r m

theorem ancBits_ok {ops : List Oper} {m : List Nat} (hm : ∀ i a, (m.getD i 0).testBit a = true → Anc ops a i) {i : Nat} {o : Oper} (ho : ops[i]? = some o) : ∀ a, (ancBits m o).testBit a = true → Anc ops a i := by
  have key : ∀ (l : List Edge) (acc : Nat), (∀ e ∈ l, e ∈ o.after) → (∀ a, acc.testBit a = true → Anc ops a i) →
      ∀ a, (l.foldl (fun acc e => if Region.binds .any e then acc ||| (1 <<< e.on) ||| m.getD e.on 0 else acc) acc).testBit a = true → Anc ops a i := by
    intro l
    induction l with
    | nil => intro acc _ h a ha; exact h a ha
    | cons e l ih =>
      intro acc hl h a ha
      refine ih _ (fun x hx => hl x (List.mem_cons_of_mem _ hx)) (fun b hb => ?_) a ha
      simp only [] at hb
      split at hb
      · rename_i hbind
        have he := hl e (by simp)
        rw [Nat.testBit_or, Nat.testBit_or, Bool.or_eq_true, Bool.or_eq_true] at hb
        rcases hb with (hb | hb) | hb
        · exact h b hb
        · rw [Nat.one_shiftLeft, Nat.testBit_two_pow] at hb
          exact .edge ho he hbind (of_decide_eq_true hb)
        · exact .far ho he hbind (hm _ b hb)
      · exact h b hb
  intro a ha
  exact key _ 0 (fun e he => by simpa using he) (fun b hb => by simp at hb) a ha

theorem ancAll_ok {ops : List Oper} : ∀ (r : List Nat) (m : List Nat), (∀ i a, (m.getD i 0).testBit a = true → Anc ops a i) → ∀ i a, ((ancAll ops r m).getD i 0).testBit a = true → Anc ops a i := by
  intro r
  induction r with
  | nil => intro m h; exact h
  | cons i r ih =>
    intro m h
    simp only [ancAll]
    split
    · rename_i o ho
      refine ih _ fun j a ha => ?_
      rw [List.getD_eq_getElem?_getD, List.getElem?_set] at ha
      split at ha
      · rename_i e
        subst e
        split at ha
        · exact ancBits_ok h ho a ha
        · simp at ha
      · exact h j a (by rw [List.getD_eq_getElem?_getD]; exact ha)
    · exact ih m h

def noEdge (a : Oper) (j : Nat) : Bool := a.after.toList.all fun e => !Region.binds .any e || e.on != j

def pairOk (ops : List Oper) (ann : Nat → DAnn) (m : List Nat) (i j : Nat) : Bool :=
  i != j && match ops[i]?, ops[j]? with
    | some a, some b => ((m.getD j 0).testBit i || commB ops (ann i) (ann j) a b) && noEdge a j
    | _, _ => false

def pairsOk (ops : List Oper) (ann : Nat → DAnn) (m : List Nat) : List Nat → Bool
  | [] => true
  | i :: r => r.all (pairOk ops ann m i) && pairsOk ops ann m r

def selfOk (ops : List Oper) (i : Nat) : Bool :=
  decide (i < ops.length) && match ops[i]? with
    | some o => o.after.toList.all fun e => !Region.binds .any e || (decide (e.on < ops.length) && e.on != i)
    | none => false

def planB (ops : List Oper) (ann : Nat → DAnn) (ρ : List Nat) : Bool :=
  decide (ρ.length ≤ ops.length) && (List.range ops.length).all (ρ.contains ·) && ρ.all (selfOk ops) && pairsOk ops ann (ancAll ops ρ (List.replicate ops.length 0)) ρ

theorem noEdge_ok {a : Oper} {j : Nat} (h : noEdge a j = true) : ∀ e ∈ a.after, Region.binds .any e = true → e.on ≠ j := by
  intro e he hb
  unfold noEdge at h
  rw [List.all_eq_true] at h
  have := h e (by simpa using he)
  rw [hb] at this
  simpa using this

theorem pairsOk_ok {ops : List Oper} {ann : Nat → DAnn} {m : List Nat} (hm : ∀ i a, (m.getD i 0).testBit a = true → Anc ops a i) : ∀ {ρ : List Nat}, pairsOk ops ann m ρ = true → ρ.Nodup ∧
    ρ.Pairwise fun i j => (Anc ops i j ∨ ∀ a b, ops[i]? = some a → ops[j]? = some b → commB ops (ann i) (ann j) a b = true) ∧ ∀ o, ops[i]? = some o → ∀ e ∈ o.after, Region.binds .any e = true → e.on ≠ j := by
  intro ρ
  induction ρ with
  | nil => intro _; exact ⟨.nil, .nil⟩
  | cons i r ih =>
    intro h
    simp only [pairsOk, Bool.and_eq_true, List.all_eq_true] at h
    obtain ⟨h1, h2⟩ := h
    obtain ⟨k1, k2⟩ := ih h2
    have key : ∀ j ∈ r, i ≠ j ∧ ((Anc ops i j ∨ ∀ a b, ops[i]? = some a → ops[j]? = some b → commB ops (ann i) (ann j) a b = true) ∧ ∀ o, ops[i]? = some o → ∀ e ∈ o.after, Region.binds .any e = true → e.on ≠ j) := by
      intro j hj
      have hp := h1 j hj
      unfold pairOk at hp
      rw [Bool.and_eq_true] at hp
      obtain ⟨hne, hp⟩ := hp
      refine ⟨by simpa using hne, ?_⟩
      split at hp
      · rename_i a b ha hb
        rw [Bool.and_eq_true, Bool.or_eq_true] at hp
        refine ⟨?_, fun o ho => ?_⟩
        · rcases hp.1 with h | h
          · exact .inl (hm _ _ h)
          · refine .inr fun a' b' ha' hb' => ?_
            rw [ha] at ha'; rw [hb] at hb'
            cases ha'; cases hb'
            exact h
        · rw [ha] at ho; cases ho
          exact noEdge_ok hp.2
      · cases hp
    exact ⟨List.nodup_cons.2 ⟨fun hi => (key i hi).1 rfl, k1⟩, .cons (fun j hj => (key j hj).2) k2⟩

theorem planB_ok {ops : List Oper} {ann : Nat → DAnn} {ρ : List Nat} (h : planB ops ann ρ = true) : Plan ops ann ρ ∧ ρ.length ≤ ops.length ∧ ∀ i, i < ops.length → i ∈ ρ := by
  unfold planB at h
  simp only [Bool.and_eq_true] at h
  obtain ⟨⟨⟨h1, h2⟩, h3⟩, h4⟩ := h
  obtain ⟨k1, k2⟩ := pairsOk_ok (ancAll_ok ρ _ (by
    intro i a ha
    rw [List.getD_eq_getElem?_getD, List.getElem?_replicate] at ha
    split at ha <;> simp at ha)) h4
  rw [List.all_eq_true] at h2 h3
  refine ⟨⟨k1, fun i hi => ?_, k2, fun i hi o ho e he hb => ?_⟩, of_decide_eq_true h1, fun i hi => ?_⟩
  · have := h3 i hi
    unfold selfOk at this
    rw [Bool.and_eq_true] at this
    exact of_decide_eq_true this.1
  · have := h3 i hi
    unfold selfOk at this
    rw [Bool.and_eq_true, ho] at this
    have h5 := this.2
    simp only [List.all_eq_true] at h5
    have h6 := h5 e (by simpa using he)
    rw [hb] at h6
    simp only [Bool.not_true, Bool.false_or, Bool.and_eq_true, decide_eq_true_eq, bne_iff_ne, ne_eq] at h6
    exact h6
  · have := h2 i (List.mem_range.2 hi)
    simpa using this

/-! ### The plan, reckoned -/

def clsOf : Op → Nat
  | .load .. | .slice .. | .lookup .. => 1
  | .alloc _ | .box .. | .makeSlice .. => 2
  | .store .. => 5
  | .call c => match c.callee with
    | .builtin .len | .builtin .max | .builtin .min => 0
    | _ => 4
  | .move _ | .assign _ | .pick .. | .nilCheck _ | .binOp .. | .unOp .. | .convert .. | .makeInterface .. | .makeFunc .. | .field .. | .fieldAddr .. | .index .. | .indexAddr .. | .extract .. | .build .. | .buildSlice .. => 0
  | _ => 4

/-- The block that a store writes, by its name. -/
def storeName (ops : List Oper) (slots : List Nat) : Op → Option Nat
  | .store _ (.tmp t) _ => match (List.range ops.length).find? (fun i => match ops[i]? with | some o => o.dst == some t | none => false) with
    | some i => match ops[i]? with
      | some o => if clsOf o.op == 2 then some (slots.getD i 0) else none
      | none => none
    | none => some (1000 + t)
  | _ => none

/-- One order: what lays a block comes as late as it may. -/
def orderOf (ops : List Oper) : Nat → Nat → List Nat → List Nat
  | 0, _, acc => acc.reverse
  | f + 1, bits, acc =>
    let ready := (List.range ops.length).filter fun i => !bits.testBit i && match ops[i]? with
      | some o => o.after.toList.all fun e => !Region.binds .any e || bits.testBit e.on
      | none => false
    let pick := match ready.find? (fun i => match ops[i]? with | some o => clsOf o.op != 2 | none => false) with
      | some i => some i
      | none => ready.head?
    match pick with
    | some i => orderOf ops f (bits ||| (1 <<< i)) (i :: acc)
    | none => acc.reverse

/-- The cell by which an operation comes to the block it reads. -/
def rdName (ops : List Oper) : Nat → Operand → Option Nat
  | 0, _ => none
  | f + 1, .tmp t => match ops.find? (fun o => o.dst == some t) with
    | none => some (1000 + t)
    | some o => match o.op with
      | .fieldAddr _ y _ | .nilCheck y | .move y | .indexAddr _ y _ => rdName ops f y
      | _ => none
  | _, _ => none

def annsOfK (kp : Bool) (ops : List Oper) (ρ m : List Nat) : List DAnn :=
  -- a part of a slice that was read is cut without a look at any block
  let read (x : Operand) : Bool := match x with
    | .tmp t => match ops.find? (fun o => o.dst == some t) with
      | some o => (match o.op with | .load .. | .extract .. | .field .. | .slice .. => true | .call _ => true | _ => false)
      | none => false
    | _ => false
  let cls0 := ops.map fun o => match o.op with | .slice _ x _ _ _ => if read x then 0 else 1 | op => clsOf op
  let slots : List Nat := (cls0.foldl (fun (acc : List Nat × Nat) c => if c == 2 then (acc.2 :: acc.1, acc.2 + 1) else (0 :: acc.1, acc.2)) ([], 0)).1.reverse
  let idx := List.range ops.length
  let free (i j : Nat) : Bool := i != j && !(m.getD i 0).testBit j && !(m.getD j 0).testBit i
  let als := idx.filter fun i => cls0.getD i 0 == 2
  -- a store that none of the reads is bound to
  let sts := idx.filter fun i => cls0.getD i 0 == 5 && idx.any (fun j => cls0.getD j 0 == 1 && free i j)
  let name (i : Nat) : Nat := match ops[i]? with | some o => (storeName ops slots o.op).getD 999 | none => 999
  let rname (i : Nat) : Option Nat := match ops[i]? with
    | some o => (match o.op with | .load _ x => rdName ops 10 x | .slice _ x _ _ _ => rdName ops 10 x | _ => none)
    | none => none
  let calls := idx.filter fun i => cls0.getD i 0 == 4 && (match ops[i]? with | some o => (match o.op with | .call _ => true | _ => false) | none => false) && ρ.any (fun j => free i j && cls0.getD j 0 != 0)
  -- a call that leaves the blocks that are read beside it as they are
  let keeps := if !kp then [] else calls.filter fun i => ρ.all fun j => !free i j || cls0.getD j 0 == 0 || (cls0.getD j 0 == 1 && (rname j).isSome && sts.all fun a => !free j a) || cls0.getD j 0 == 2
  idx.map fun i =>
    let c := cls0.getD i 0
    let c' := if keeps.contains i then 6 else if calls.contains i then 3 else if c == 5 && !sts.contains i then 4 else if c == 1 && keeps.any (free i ·) then 7 else c
    ⟨c', if c' == 5 then name i else slots.getD i 0,
      if c' == 1 then (als.filter fun a => !(m.getD i 0).testBit a).map (slots.getD · 0) ++ (sts.filter fun a => !(m.getD i 0).testBit a).map name
      else if c' == 7 then (rname i).toList
      else if c' == 6 then (idx.filter fun j => free i j && cls0.getD j 0 == 1).filterMap rname ++ (als.filter (free i ·)).map (slots.getD · 0) else []⟩

def annsOf (ops : List Oper) (ρ m : List Nat) : List DAnn := annsOfK true ops ρ m

structure DPlan where
  ann : List DAnn
  ord : List Nat
  places : Nat

def planOf (ops : List Oper) : DPlan :=
  let ρ := orderOf ops ops.length 0 []
  let m := ancAll ops ρ (List.replicate ops.length 0)
  let ann := annsOf ops ρ m
  ⟨ann, ρ, (ann.filter fun d => d.cl == 2).length⟩

/-- The plan in which calls are of functions that only compute. -/
def planP (ops : List Oper) : DPlan :=
  let ρ := orderOf ops ops.length 0 []
  let m := ancAll ops ρ (List.replicate ops.length 0)
  let ann := annsOfK false ops ρ m
  ⟨ann, ρ, (ann.filter fun d => d.cl == 2).length⟩

def DPlan.at (p : DPlan) (i : Nat) : DAnn := p.ann.getD i default

def DPlan.good (p : DPlan) (ops : List Oper) : Bool := planB ops p.at p.ord
end Go.AL
