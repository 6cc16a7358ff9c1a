/-
  The walk over plain values: a region, the parts of a body, a loop.
-/
import Derived.Test.YthackdgnkilhnaaGreatDoorAl9
set_option linter.unusedSimpArgs false
set_option linter.unusedVariables false
namespace Go.AL
open Go.RowKit

def FW (rd : Option Nat) : Fence := { Fence.wide with round := rd }

theorem FW_none : FW none = Fence.wide := rfl
theorem FW_inRound (rd : Option Nat) (l : Nat) : (FW rd).inRound l = FW (some l) := rfl
theorem FW_fn (rd : Option Nat) (f : FuncId) : (FW rd).fn f := trivial
theorem FW_depth (rd : Option Nat) : (FW rd).depth.isSome = true → 1 ≤ (0 : Nat) := fun h => by simp [FW, Fence.wide] at h

section
variable (P : Program) (G : Glob) (rd : Option Nat)

/-- From whatever memory in which this is known, the operation goes through and hands R on. -/
def OpOk (o : Oper) (h : Heap) (f : Operand → PV) (R : PV → Heap → Prop) : Prop :=
  ∀ (φ : List Value) (w : World) (X : Addr → Prop) (a : Act) (K : Act → World → Prop) (Q : Exit → Act → World → Prop), SRel ⟨φ, h, w, X⟩ → GRel ⟨φ, h, w, X⟩ G →
    (∀ x ∈ o.op.operands, VRel ⟨φ, h, w, X⟩ (f x) (a.eval x)) →
    (∀ (φ' : List Value) (h' : Heap) (w' : World) (p : PV) (v : Value), Ext ⟨φ, h, w, X⟩ ⟨φ', h', w', X⟩ → SRel ⟨φ', h', w', X⟩ → VRel ⟨φ', h', w', X⟩ p v → R p h' → K (a.put o.dst v) w') →
    o.wpIn (FW rd) 0 P a w K Q

variable {P G rd}

theorem OpOk.mono {o : Oper} {h : Heap} {f : Operand → PV} {R R' : PV → Heap → Prop} (k : OpOk P G rd o h f R) (hr : ∀ p h', R p h' → R' p h') : OpOk P G rd o h f R' :=
  fun φ w X a K Q hS hG hx hK => k φ w X a K Q hS hG hx fun φ' h' w' p v e s r t => hK φ' h' w' p v e s r (hr _ _ t)

theorem OpOk.of_run {o : Oper} {h : Heap} {f : Operand → PV} {R : PV → Heap → Prop} (hd : ∀ c, o.op ≠ .defer c)
    (k : ∀ (φ : List Value) (w : World) (X : Addr → Prop) (ρ : Operand → Value), SRel ⟨φ, h, w, X⟩ → GRel ⟨φ, h, w, X⟩ G → (∀ x ∈ o.op.operands, VRel ⟨φ, h, w, X⟩ (f x) (ρ x)) →
      ∃ (φ' : List Value) (h' : Heap) (w' : World) (p : PV) (v : Value), (execOp ρ o).run P w = .ok (.value v) w' ∧ Ext ⟨φ, h, w, X⟩ ⟨φ', h', w', X⟩ ∧ SRel ⟨φ', h', w', X⟩ ∧ VRel ⟨φ', h', w', X⟩ p v ∧ R p h') :
    OpOk P G rd o h f R := by
  intro φ w X a K Q hS hG hx hK
  obtain ⟨φ', h', w', p, v, hrun, he, hs, hv, hr⟩ := k φ w X a.eval hS hG hx
  refine ⟨fun f _ => trivial, ?_⟩
  rw [Oper.semAt_eq _ _ _ hd, hrun]
  exact hK φ' h' w' p v he hs hv hr

theorem OpOk.of_skip {o : Oper} {h : Heap} {f : Operand → PV} {R : PV → Heap → Prop} (hd : ∀ c, o.op ≠ .defer c)
    (k : ∀ (φ : List Value) (w : World) (X : Addr → Prop) (ρ : Operand → Value), SRel ⟨φ, h, w, X⟩ → GRel ⟨φ, h, w, X⟩ G → (∀ x ∈ o.op.operands, VRel ⟨φ, h, w, X⟩ (f x) (ρ x)) →
      ∃ (φ' : List Value) (h' : Heap) (w' : World), (execOp ρ o).run P w = .ok .skip w' ∧ Ext ⟨φ, h, w, X⟩ ⟨φ', h', w', X⟩ ∧ SRel ⟨φ', h', w', X⟩ ∧ R .ud h') :
    OpOk P G rd o h f R := by
  intro φ w X a K Q hS hG hx hK
  obtain ⟨φ', h', w', hrun, he, hs, hr⟩ := k φ w X a.eval hS hG hx
  refine ⟨fun f _ => trivial, ?_⟩
  rw [Oper.semAt_eq _ _ _ hd, hrun]
  exact hK φ' h' w' .ud undef he hs .ud hr

theorem OpOk.of_eff {o : Oper} {h h' : Heap} {f : Operand → PV} {p : PV} {c : Prop} {R : PV → Heap → Prop} (he : aeff P h f o.op = some (p, h', c)) (hc : c) (hr : R p h') :
    OpOk P G rd o h f R := by
  intro φ w X a K Q hS hG hx hK
  have hd : ∀ c, o.op ≠ .defer c := fun c hop => by rw [hop] at he; simp [aeff] at he
  obtain ⟨φ', w', x, hS', hrun⟩ := aeff_ok (P := P) (S := ⟨φ, h, w, X⟩) (o := o) (ρ := a.eval) hS hx he hc
  refine ⟨fun f _ => trivial, ?_⟩
  rw [Oper.semAt_eq _ _ _ hd]
  rcases hrun with ⟨v, hrun, hv⟩ | ⟨hrun, rfl⟩
  · rw [hrun]; exact hK φ' h' w' p v x hS' hv hr
  · rw [hrun]; exact hK φ' h' w' .ud undef x hS' .ud hr

theorem OpOk.of_pure {o : Oper} {h : Heap} {f : Operand → PV} {p : PV} {c : Prop} {R : PV → Heap → Prop} (he : apure P h f o.op = some (p, c)) (hc : c) (hr : R p h) :
    OpOk P G rd o h f R := by
  refine .of_run (fun c hop => by rw [hop] at he; simp [apure, apure0, bpure] at he) fun φ w X ρ hS _ hx => ?_
  obtain ⟨v, hrun, hv⟩ := apure_ok (P := P) (S := ⟨φ, h, w, X⟩) (o := o) (ρ := ρ) hS hx he hc
  exact ⟨φ, h, w, p, v, hrun, Ext.refl _, hS, hv, hr⟩

variable (P G rd)

/-- One operation of a region. -/
def AStep (o : Oper) (ts : List PV) (h : Heap) (K : PV → Heap → Prop) : Prop :=
  match apure (α := Prop) P h (aev G ts) o.op with
  | some (p, c) => c ∧ K p h
  | none => match aeff (α := Prop) P h (aev G ts) o.op with
    | some (p, h', c) => c ∧ K p h'
    | none => OpOk P G rd o h (aev G ts) K

/-- The guard of an operation, on what is known. -/
def agd (ops : List Oper) (ts : List PV) (j : Nat) : Option PV := ((ops[j]?).bind (·.dst)).map (ts.getD · .un)

def AReg (ops : List Oper) : List Oper → (List PV → Heap → Prop) → List PV → Heap → Prop
  | [], Q, ts, h => Q ts h
  | o :: rest, Q, ts, h =>
    match o.guard with
    | none => AStep P G rd o ts h fun p h' => AReg ops rest Q (aput ts o.dst p) h'
    | some (j, want) =>
      match agd ops ts j with
      | some (.sc (.bool b)) => (b = want → AStep P G rd o ts h fun p h' => AReg ops rest Q (aput ts o.dst p) h') ∧ (b ≠ want → AReg ops rest Q (aput ts o.dst .ud) h)
      | some .ud => AReg ops rest Q (aput ts o.dst .ud) h
      | _ => False

/-- The same, each operation by what it hands on. -/
def SReg (ops : List Oper) : List Oper → (List PV → Heap → Prop) → List PV → Heap → Prop
  | [], Q, ts, h => Q ts h
  | o :: rest, Q, ts, h =>
    match o.guard with
    | none => OpOk P G rd o h (aev G ts) fun p h' => SReg ops rest Q (aput ts o.dst p) h'
    | some (j, want) =>
      match agd ops ts j with
      | some (.sc (.bool b)) => (b = want → OpOk P G rd o h (aev G ts) fun p h' => SReg ops rest Q (aput ts o.dst p) h') ∧ (b ≠ want → SReg ops rest Q (aput ts o.dst .ud) h)
      | some .ud => SReg ops rest Q (aput ts o.dst .ud) h
      | _ => False

variable {P G rd}

theorem AStep.ok {o : Oper} {ts : List PV} {h : Heap} {K : PV → Heap → Prop} (k : AStep P G rd o ts h K) : OpOk P G rd o h (aev G ts) K := by
  unfold AStep at k
  split at k
  · rename_i p c he
    exact .of_pure he k.1 k.2
  · split at k
    · rename_i p h' c he
      exact .of_eff he k.1 k.2
    · exact k

end

/-- The deferred calls of an activation: marks of loops over functions alone. -/
def MRel (B : Nat) (S : St) (ds : List Deferred) : Prop := ∃ rs : List Nat, ds = rs.map (fun r => ⟨.collected r, #[]⟩) ∧ rs.Nodup ∧ ∀ r ∈ rs, B ≤ r ∧ r < S.w.heap.size ∧ S.w.heap[r]? = some (.deferred (some [])) ∧ ¬ S.Own r

theorem MRel.ext {B : Nat} {S S' : St} {ds : List Deferred} (h : MRel B S ds) (x : Ext S S') : MRel B S' ds := by
  obtain ⟨rs, he, hn, h⟩ := h
  refine ⟨rs, he, hn, fun r hr => ?_⟩
  obtain ⟨hB, hlt, hb, hn⟩ := h r hr
  obtain ⟨h1, h2⟩ := x.unt r hlt hn
  exact ⟨hB, Nat.lt_of_lt_of_le hlt x.size, h2.trans hb, h1⟩

structure ARel (B : Nat) (S : St) (G : Glob) (ts : List PV) (a : Act) : Prop where
  st : SRel S
  gl : GRel S G
  tr : TRel S ts a.tmps
  mark : MRel B S a.defers
  base : B ≤ S.w.heap.size

def AWp (P : Program) (G : Glob) (rd : Option Nat) (c : Code) (Q : Exit → List PV → Heap → Prop) (ts : List PV) (h : Heap) : Prop :=
  ∀ (B : Nat) (φ : List Value) (w : World) (X : Addr → Prop) (a : Act), ARel B ⟨φ, h, w, X⟩ G ts a →
    c.wpIn (FW rd) 0 P (fun e a' w' => ∃ (φ' : List Value) (ts' : List PV) (h' : Heap), Ext ⟨φ, h, w, X⟩ ⟨φ', h', w', X⟩ ∧ ARel B ⟨φ', h', w', X⟩ G ts' a' ∧ Q e ts' h') a w

section
variable {P : Program} {G : Glob} {rd : Option Nat}

theorem yielded_sc {S : St} {ops : Array Oper} {ts : List PV} {tmps : Array Value} {j : Nat} {b : Bool} (hT : TRel S ts tmps) (h : agd ops.toList ts j = some (.sc (.bool b))) : yielded ops tmps j = some b := by
  unfold agd at h
  unfold yielded
  rw [Array.getElem?_toList] at h
  cases hd : (ops[j]?).bind (·.dst) with
  | none => rw [hd] at h; simp at h
  | some d =>
    rw [hd] at h
    simp only [Option.map_some, Option.some.injEq] at h
    rw [List.getD_eq_getElem?_getD] at h
    cases ht : ts[d]? with
    | none => rw [ht] at h; simp at h
    | some p =>
      rw [ht] at h
      simp only [Option.getD_some] at h
      subst h
      have := hT.rel d _ ht
      rw [Array.getD_eq_getD_getElem?] at this
      simp only [Option.bind_some]
      cases hv : tmps[d]? with
      | none => rw [hv] at this; cases this
      | some v => rw [hv] at this; simp only [Option.getD_some] at this; cases this; rfl

theorem yielded_ud {S : St} {ops : Array Oper} {ts : List PV} {tmps : Array Value} {j : Nat} (hT : TRel S ts tmps) (h : agd ops.toList ts j = some .ud) : yielded ops tmps j = none := by
  unfold agd at h
  unfold yielded
  rw [Array.getElem?_toList] at h
  cases hd : (ops[j]?).bind (·.dst) with
  | none => rfl
  | some d =>
    rw [hd] at h
    simp only [Option.map_some, Option.some.injEq] at h
    rw [List.getD_eq_getElem?_getD] at h
    cases ht : ts[d]? with
    | none => rw [ht] at h; simp at h
    | some p =>
      rw [ht] at h
      simp only [Option.getD_some] at h
      subst h
      have := hT.rel d _ ht
      rw [Array.getD_eq_getD_getElem?] at this
      simp only [Option.bind_some]
      cases hv : tmps[d]? with
      | none => rfl
      | some v =>
        rw [hv] at this
        simp only [Option.getD_some] at this
        generalize v = u at this
        cases this
        rfl

theorem sreg_sound {ops : Array Oper} {Q : List PV → Heap → Prop} : ∀ (n : Nat) (ts : List PV) (h : Heap), SReg P G rd ops.toList (ops.toList.drop n) Q ts h →
    ∀ (B : Nat) (φ : List Value) (w : World) (X : Addr → Prop) (a : Act), ARel B ⟨φ, h, w, X⟩ G ts a → ∀ (QQ : Exit → Act → World → Prop),
      (∀ (φ' : List Value) (w' : World) (a' : Act) (ts' : List PV) (h' : Heap), Ext ⟨φ, h, w, X⟩ ⟨φ', h', w', X⟩ → ARel B ⟨φ', h', w', X⟩ G ts' a' → Q ts' h' → QQ .normal a' w') →
      wpOpsIn (FW rd) 0 P ops QQ (List.range' n (ops.size - n)) a w := by
  intro n
  generalize hm : ops.size - n = m
  induction m generalizing n with
  | zero =>
    intro ts h hr B φ w X a hA QQ hQ
    have : ops.toList.drop n = [] := List.drop_eq_nil_of_le (by simp; omega)
    rw [this] at hr
    exact hQ φ w a ts h (Ext.refl _) hA hr
  | succ m ih =>
    intro ts h hr B φ w X a hA QQ hQ
    have hlt : n < ops.size := by omega
    have hd : ops.toList.drop n = ops[n] :: ops.toList.drop (n + 1) := by
      rw [List.drop_eq_getElem_cons (by simpa using hlt)]; simp
    have hg : ops[n]? = some ops[n] := by simp [hlt]
    rw [hd] at hr
    simp only [List.range'_succ, wpOpsIn, hg]
    have next : ∀ (φ' : List Value) (h' : Heap) (w' : World) (a' : Act) (ts' : List PV), Ext ⟨φ, h, w, X⟩ ⟨φ', h', w', X⟩ → ARel B ⟨φ', h', w', X⟩ G ts' a' → SReg P G rd ops.toList (ops.toList.drop (n + 1)) Q ts' h' →
        wpOpsIn (FW rd) 0 P ops QQ (List.range' (n + 1) m) a' w' := fun φ' h' w' a' ts' x hA' hr' =>
      ih (n + 1) (by omega) ts' h' hr' B φ' w' X a' hA' QQ fun φ'' w'' a'' ts'' h'' x' hA'' hq => hQ φ'' w'' a'' ts'' h'' (x.trans x') hA'' hq
    have put : ∀ (φ' : List Value) (h' : Heap) (w' : World) (dst : Option Tmp) (p : PV) (v : Value), Ext ⟨φ, h, w, X⟩ ⟨φ', h', w', X⟩ → SRel ⟨φ', h', w', X⟩ → VRel ⟨φ', h', w', X⟩ p v →
        ARel B ⟨φ', h', w', X⟩ G (aput ts dst p) (a.put dst v) := fun φ' h' w' dst p v x hs hv =>
      ⟨hs, hA.gl.ext x, (hA.tr.ext x).put dst hv, by have := hA.mark.ext x; cases dst <;> exact this, Nat.le_trans hA.base x.size⟩
    have step : ∀ (hk : OpOk P G rd ops[n] h (aev G ts) fun p h' => SReg P G rd ops.toList (ops.toList.drop (n + 1)) Q (aput ts ops[n].dst p) h'),
        ops[n].wpIn (FW rd) 0 P a w (wpOpsIn (FW rd) 0 P ops QQ (List.range' (n + 1) m)) QQ := fun hk =>
      hk φ w X a _ _ hA.st hA.gl (fun x _ => aev_rel hA.gl hA.tr x) fun φ' h' w' p v x hs hv hr' => next φ' h' w' _ _ x (put φ' h' w' _ p v x hs hv) hr'
    have skip : ∀ (hk : SReg P G rd ops.toList (ops.toList.drop (n + 1)) Q (aput ts ops[n].dst .ud) h), wpOpsIn (FW rd) 0 P ops QQ (List.range' (n + 1) m) (a.put ops[n].dst undef) w := fun hk =>
      next φ h w _ _ (Ext.refl _) (put φ h w _ .ud undef (Ext.refl _) hA.st .ud) hk
    simp only [SReg] at hr
    cases hgd : ops[n].guard with
    | none =>
      rw [hgd] at hr
      rw [if_pos (by simp [Region.wanted, hgd])]
      exact step hr
    | some jw =>
      obtain ⟨j, want⟩ := jw
      rw [hgd] at hr
      simp only [] at hr
      split at hr
      · rename_i b hb
        have hy := yielded_sc hA.tr hb
        by_cases hbw : b = want
        · rw [if_pos (by simp [Region.wanted, hgd, hy, hbw])]
          exact step (hr.1 hbw)
        · rw [if_neg (by simp [Region.wanted, hgd, hy, hbw])]
          exact ⟨fun _ _ => trivial, skip (hr.2 hbw)⟩
      · rename_i hb
        have hy := yielded_ud hA.tr hb
        rw [if_neg (by simp [Region.wanted, hgd, hy])]
        exact ⟨fun _ _ => trivial, skip hr⟩
      · exact hr.elim

theorem AReg.sreg {ops : List Oper} : ∀ {rest : List Oper} {Q : List PV → Heap → Prop} {ts : List PV} {h : Heap}, AReg P G rd ops rest Q ts h → SReg P G rd ops rest Q ts h := by
  intro rest
  induction rest with
  | nil => intro Q ts h k; exact k
  | cons o rest ih =>
    intro Q ts h k
    simp only [AReg] at k
    simp only [SReg]
    cases hg : o.guard with
    | none =>
      rw [hg] at k
      exact OpOk.mono k.ok fun p h' r => ih r
    | some jw =>
      obtain ⟨j, want⟩ := jw
      rw [hg] at k
      simp only [] at k ⊢
      split at k
      · rename_i b hb
        exact ⟨fun e => OpOk.mono (k.1 e).ok fun p h' r => ih r, fun e => ih (k.2 e)⟩
      · exact ih k
      · exact k.elim

theorem awp_sregion {id : Nat} {l : List Oper} {Q : Exit → List PV → Heap → Prop} {ts : List PV} {h : Heap} (k : SReg P G rd l l (Q .normal) ts h) : AWp P G rd (.region id l.toArray false) Q ts h := by
  intro B φ w X a hA
  refine wpIn_region ?_
  rw [List.range_eq_range']
  exact sreg_sound 0 ts h (by simpa using k) B φ w X a hA _ fun φ' w' a' ts' h' x hA' hq => ⟨φ', ts', h', x, hA', hq⟩

theorem awp_region {id : Nat} {l : List Oper} {Q : Exit → List PV → Heap → Prop} {ts : List PV} {h : Heap} (k : AReg P G rd l l (Q .normal) ts h) : AWp P G rd (.region id l.toArray false) Q ts h :=
  awp_sregion k.sreg

theorem AWp.mono {c : Code} {Q Q' : Exit → List PV → Heap → Prop} {ts : List PV} {h : Heap} (k : AWp P G rd c Q ts h) (hq : ∀ e ts h, Q e ts h → Q' e ts h) : AWp P G rd c Q' ts h :=
  fun B φ w X a hA => wpIn_mono (k B φ w X a hA) fun e a' w' ⟨φ', ts', h', x, hA', q⟩ => ⟨φ', ts', h', x, hA', hq _ _ _ q⟩

def AThen (N : List PV → Heap → Prop) (Q : Exit → List PV → Heap → Prop) : Exit → List PV → Heap → Prop
  | .normal, ts, h => N ts h
  | e, ts, h => Q e ts h

theorem awp_seq {c d : Code} {Q : Exit → List PV → Heap → Prop} {ts : List PV} {h : Heap} (k : AWp P G rd c (AThen (AWp P G rd d Q) Q) ts h) : AWp P G rd (.seq c d) Q ts h := by
  intro B φ w X a hA
  refine wpIn_seq (wpIn_mono (k B φ w X a hA) ?_)
  rintro e a' w' ⟨φ', ts', h', x, hA', q⟩
  cases e with
  | normal =>
    refine wpIn_mono (q B φ' w' X a' hA') ?_
    rintro e a'' w'' ⟨φ'', ts'', h'', x', hA'', q'⟩
    exact ⟨φ'', ts'', h'', x.trans x', hA'', q'⟩
  | _ => exact ⟨φ', ts', h', x, hA', q⟩

theorem awp_skip {Q : Exit → List PV → Heap → Prop} {ts : List PV} {h : Heap} (k : Q .normal ts h) : AWp P G rd .skip Q ts h :=
  fun B φ w X a hA => wpIn_skip ⟨φ, ts, h, Ext.refl _, hA, k⟩
theorem awp_label {l : Nat} {Q : Exit → List PV → Heap → Prop} {ts : List PV} {h : Heap} (k : Q .normal ts h) : AWp P G rd (.label l) Q ts h :=
  fun B φ w X a hA => wpIn_label ⟨φ, ts, h, Ext.refl _, hA, k⟩
theorem awp_exit {id : Nat} {Q : Exit → List PV → Heap → Prop} {ts : List PV} {h : Heap} (k : Q (.exit id) ts h) : AWp P G rd (.exit id) Q ts h :=
  fun B φ w X a hA => wpIn_exit ⟨φ, ts, h, Ext.refl _, hA, k⟩
theorem awp_ret {Q : Exit → List PV → Heap → Prop} {ts : List PV} {h : Heap} (k : Q .ret ts h) : AWp P G rd .ret Q ts h :=
  fun B φ w X a hA => wpIn_ret ⟨φ, ts, h, Ext.refl _, hA, k⟩

theorem awp_cond {x : Operand} {c d : Code} {Q : Exit → List PV → Heap → Prop} {ts : List PV} {h : Heap} {b : Bool} (hx : aev G ts x = .sc (.bool b))
    (k : b = true → AWp P G rd c Q ts h) (k' : b = false → AWp P G rd d Q ts h) : AWp P G rd (.cond x c d) Q ts h := by
  intro B φ w X a hA
  have hv := aev_rel hA.gl hA.tr x
  rw [hx] at hv
  have he : a.eval x = .bool b := by generalize a.eval x = v at hv; cases hv; rfl
  exact wpIn_cond_split he (fun hb => k hb B φ w X a hA) (fun hb => k' hb B φ w X a hA)

def ABlock (id : Nat) (Q : Exit → List PV → Heap → Prop) : Exit → List PV → Heap → Prop
  | .exit id', ts, h => if id' = id then Q .normal ts h else Q (.exit id') ts h
  | e, ts, h => Q e ts h

theorem awp_block {id : Nat} {c : Code} {Q : Exit → List PV → Heap → Prop} {ts : List PV} {h : Heap} (k : AWp P G rd c (ABlock id Q) ts h) : AWp P G rd (.block id c) Q ts h := by
  intro B φ w X a hA
  refine wpIn_block (wpIn_mono (k B φ w X a hA) ?_)
  rintro e a' w' ⟨φ', ts', h', x, hA', q⟩
  cases e with
  | exit id' =>
    simp only [ABlock] at q
    simp only [Exit.inBlock]
    split
    · rename_i e; rw [if_pos e] at q; exact ⟨φ', ts', h', x, hA', q⟩
    · rename_i e; rw [if_neg e] at q; exact ⟨φ', ts', h', x, hA', q⟩
  | _ => exact ⟨φ', ts', h', x, hA', q⟩

theorem wpIn_loop_ghost {F : Fence} {n : Nat} {c : Code} {Q : Exit → Act → World → Prop} {a : Act} {w : World} (J : Nat → Act → World → Prop) (j : Nat) (h0 : J j a w)
    (round : ∀ j a w, J j a w → c.wpIn F n P (Exit.then (fun a' w' => ∃ m, m < j ∧ J m a' w') Q) a w) : (Code.loop c).wpIn F n P Q a w := by
  intro b k cs hro hb hr
  have key : ∀ j a w, J j a w →
      ∃ e a' w', Q e a' w' ∧ ArrivesIn (Machine.fenced P F) P (lone (b.atR a (.code c :: .inLoop c :: k)) cs w) b k cs e a' w' := by
    intro j
    induction j using Nat.strongRecOn with
    | _ j ih =>
      intro a w hI
      obtain ⟨e, a₁, w₁, hq, harr⟩ := round j a w hI b (.inLoop c :: k) cs hro hb hr
      cases e with
      | normal =>
        obtain ⟨m, hlt, hI₁⟩ := hq
        obtain ⟨e₂, a₂, w₂, hq₂, harr₂⟩ := ih m hlt a₁ w₁ hI₁
        exact ⟨e₂, a₂, w₂, hq₂, .of_steps (StepsIn.trans harr (.one (fenced_calm hb hr rfl) stepR_inLoop)) harr₂⟩
      | exit id => exact ⟨_, a₁, w₁, hq, .pass (x := .inLoop c) rfl (fun _ _ => .inl (by simp)) harr⟩
      | goto l => exact ⟨_, a₁, w₁, hq, .pass (x := .inLoop c) rfl (fun _ _ => .inl (by simp)) harr⟩
      | ret => exact ⟨_, a₁, w₁, hq, .pass (x := .inLoop c) rfl (fun _ _ => .inl (by simp)) harr⟩
      | panic ch => exact ⟨_, a₁, w₁, hq, .pass (x := .inLoop c) rfl (fun _ _ => .inl (by simp)) harr⟩
      | outgrown => exact ⟨_, a₁, w₁, hq, .pass (x := .inLoop c) rfl (fun _ _ => .inl (by simp)) harr⟩
  obtain ⟨e, a', w', hq, harr⟩ := key _ a w h0
  exact ⟨e, a', w', hq, .of_steps (.one (fenced_calm hb hr rfl) stepR_loop) harr⟩

/-- A loop: what holds at each round's head, and a number that each round lowers. -/
theorem awp_loop {c : Code} {Q : Exit → List PV → Heap → Prop} {ts : List PV} {h : Heap} (I : Nat → List PV → Heap → Prop) (n : Nat) (h0 : I n ts h)
    (k : ∀ n ts h, I n ts h → AWp P G rd c (AThen (fun ts' h' => ∃ m, m < n ∧ I m ts' h') Q) ts h) : AWp P G rd (.loop c) Q ts h := by
  intro B φ w X a hA
  refine wpIn_loop_ghost (fun n a' w' => ∃ (φ' : List Value) (ts' : List PV) (h' : Heap), Ext ⟨φ, h, w, X⟩ ⟨φ', h', w', X⟩ ∧ ARel B ⟨φ', h', w', X⟩ G ts' a' ∧ I n ts' h') n ⟨φ, ts, h, Ext.refl _, hA, h0⟩ ?_
  rintro n a' w' ⟨φ', ts', h', x, hA', hi⟩
  refine wpIn_mono (k n ts' h' hi B φ' w' X a' hA') ?_
  rintro e a'' w'' ⟨φ'', ts'', h'', x', hA'', q⟩
  cases e with
  | normal => obtain ⟨m, hm, hi'⟩ := q; exact ⟨m, hm, φ'', ts'', h'', x.trans x', hA'', hi'⟩
  | _ => exact ⟨φ'', ts'', h'', x.trans x', hA'', q⟩
end
end Go.AL
