/-
  The walk's condition, step by step: what is to be shown that a body goes through.
-/
import Derived.Test.YthackdgnkilhnaaGreatDoorAl18
set_option linter.unusedSimpArgs false
set_option linter.unusedVariables false
namespace Go.AL
open Go.RowKit

/-- What a step comes to. -/
inductive SR where
  | val (p : PV) (h : Heap) (c : Prop)
  | call (g : FuncId) (args : List PV)
  | no

section
variable (P : Program) (G : Glob) (rd : Option Nat) (own : Bool)

/-- A call by name or by a function value: the function, and what is handed in. -/
def callOf (op : Op) (f : Operand → PV) : Option (FuncId × List PV) :=
  match op with
  | .call c => match c.callee with
    | .value x => match f x with
      | .fn (.func g) fst cap => some (g, fst ++ c.args.toList.map f ++ cap)
      | _ => none
    | _ => none
  | _ => none

def astep (op : Op) (f : Operand → PV) (h : Heap) : SR :=
  match (if own then aownA P h f op else none) with
  | some (p, h') => .val p h' True
  | none => match apure (α := Prop) P h f op with
    | some (p, c) => .val p h c
    | none => match aeff (α := Prop) P h f op with
      | some (p, h', c) => .val p h' c
      | none => match beff P h f op with
        | some (p, h') => .val p h' True
        | none => match callOf op f with
          | some (g, args) => .call g args
          | none => .no

def dgd (ds : List (Option Tmp)) (ts : List PV) (j : Nat) : Option PV := (ds.getD j none).map (ts.getD · .un)

def astepG (ds : List (Option Tmp)) (o : Oper) (ts : List PV) (h : Heap) : SR :=
  match o.guard with
  | none => astep P own o.op (aev G ts) h
  | some (j, want) => match dgd ds ts j with
    | some (.sc (.bool b)) => if b = want then astep P own o.op (aev G ts) h else .val .ud h True
    | some .ud => .val .ud h True
    | _ => .no

mutual
def AR (ds : List (Option Tmp)) : List Oper → (List PV → Heap → Prop) → List PV → Heap → Prop
  | [], Q, ts, h => Q ts h
  | o :: rest, Q, ts, h => AGo ds rest Q o.dst ts h (astepG P G own ds o ts h)
def AGo (ds : List (Option Tmp)) : List Oper → (List PV → Heap → Prop) → Option Tmp → List PV → Heap → SR → Prop
  | rest, Q, dst, ts, _, .val p h' c => c ∧ AR ds rest Q (aput ts dst p) h'
  | rest, Q, dst, ts, h, .call g args => ACall P G g args h fun p h' => AR ds rest Q (aput ts dst p) h'
  | _, _, _, _, _, .no => False
end

def awp : Code → (Exit → List PV → Heap → Prop) → List PV → Heap → Prop
  | .skip, Q, ts, h => Q .normal ts h
  | .label _, Q, ts, h => Q .normal ts h
  | .exit id, Q, ts, h => Q (.exit id) ts h
  | .ret, Q, ts, h => Q .ret ts h
  | .region _ ops false, Q, ts, h => AR P G own (ops.toList.map (·.dst)) ops.toList (Q .normal) ts h
  | .seq a b, Q, ts, h => awp a (AThen (awp b Q) Q) ts h
  | .cond x a b, Q, ts, h => match aev G ts x with
    | .sc (.bool t) => if t = true then awp a Q ts h else awp b Q ts h
    | _ => False
  | .block id c, Q, ts, h => awp c (ABlock id Q) ts h
  | c, Q, ts, h => AWp P G rd c Q ts h

variable {P G rd own}

theorem callOf_ok {o : Oper} {ts : List PV} {h : Heap} {K : PV → Heap → Prop} {g : FuncId} {args : List PV} (he : callOf o.op (aev G ts) = some (g, args)) (k : ACall P G g args h K) : OpOk P G rd o h (aev G ts) K := by
  unfold callOf at he
  split at he
  case h_2 => cases he
  rename_i c ho
  split at he
  case h_2 => cases he
  rename_i x hc
  split at he
  case h_2 => cases he
  rename_i g' fst cap hx
  cases he
  exact .call ho hc hx k

/-- What a step's outcome hands on. -/
def SR.Ok (P : Program) (G : Glob) (h : Heap) (K : PV → Heap → Prop) : SR → Prop
  | .val p h' c => c ∧ K p h'
  | .call g args => ACall P G g args h K
  | .no => False

theorem astep_ok {o : Oper} {ts : List PV} {h : Heap} {K : PV → Heap → Prop} (k : (astep P own o.op (aev G ts) h).Ok P G h K) : OpOk P G rd o h (aev G ts) K := by
  unfold astep at k
  split at k
  · rename_i p h' he
    split at he
    · exact .of_ownA he k.2
    · cases he
  · split at k
    · rename_i p c he
      exact .of_pure he k.1 k.2
    · split at k
      · rename_i p h' c he
        exact .of_eff he k.1 k.2
      · split at k
        · rename_i p h' he
          exact .of_beff he k.2
        · split at k
          · rename_i g args he
            exact callOf_ok he k
          · exact k.elim

theorem AGo_ok {ds : List (Option Tmp)} {rest : List Oper} {Q : List PV → Heap → Prop} {dst : Option Tmp} {ts : List PV} {h : Heap} {r : SR} (k : AGo P G own ds rest Q dst ts h r) : r.Ok P G h fun p h' => AR P G own ds rest Q (aput ts dst p) h' := by
  cases r <;> simp only [AGo] at k <;> exact k

theorem agd_dgd (ops : List Oper) (ts : List PV) (j : Nat) : agd ops ts j = dgd (ops.map (·.dst)) ts j := by
  unfold agd dgd
  rw [List.getD_eq_getElem?_getD, List.getElem?_map]
  cases ops[j]? <;> rfl

theorem AR.sreg {ops : List Oper} : ∀ {rest : List Oper} {Q : List PV → Heap → Prop} {ts : List PV} {h : Heap}, AR P G own (ops.map (·.dst)) rest Q ts h → SReg P G rd ops rest Q ts h := by
  intro rest
  induction rest with
  | nil => intro Q ts h k; simp only [AR] at k; exact k
  | cons o rest ih =>
    intro Q ts h k
    simp only [AR] at k
    simp only [SReg]
    have k' := AGo_ok k
    unfold astepG at k'
    cases hg : o.guard with
    | none =>
      rw [hg] at k'
      exact OpOk.mono (astep_ok k') fun p h' r => ih r
    | some jw =>
      obtain ⟨j, want⟩ := jw
      rw [hg] at k'
      simp only [agd_dgd]
      simp only [] at k'
      split at k'
      · rename_i b hb
        rw [hb]
        split at k'
        · rename_i e
          exact ⟨fun _ => OpOk.mono (astep_ok k') fun p h' r => ih r, fun ne => absurd e ne⟩
        · rename_i e
          exact ⟨fun e' => absurd e' e, fun _ => ih k'.2⟩
      · rename_i hb
        rw [hb]
        exact ih k'.2
      · exact k'.elim

theorem awp_ok : ∀ (c : Code) (Q : Exit → List PV → Heap → Prop) (ts : List PV) (h : Heap), awp P G rd own c Q ts h → AWp P G rd c Q ts h := by
  intro c
  induction c with
  | skip => intro Q ts h k; exact awp_skip k
  | label l => intro Q ts h k; exact awp_label k
  | exit id => intro Q ts h k; exact awp_exit k
  | ret => intro Q ts h k; exact awp_ret k
  | region id ops d =>
    intro Q ts h k
    cases d with
    | false => have := awp_sregion (id := id) (AR.sreg (rd := rd) k); simpa using this
    | true => exact k
  | seq a b iha ihb =>
    intro Q ts h k
    refine awp_seq ((iha _ ts h k).mono fun e t1 h1 q => ?_)
    cases e with
    | normal => exact ihb Q t1 h1 q
    | _ => exact q
  | cond x a b iha ihb =>
    intro Q ts h k
    simp only [awp] at k
    split at k
    · rename_i t hx
      exact awp_cond hx (fun e => iha Q ts h (by rw [if_pos e] at k; exact k)) fun e => ihb Q ts h (by rw [if_neg (by simp [e])] at k; exact k)
    · exact k.elim
  | block id c ih => intro Q ts h k; exact awp_block (ih _ ts h k)
  | _ => intro Q ts h k; exact k

/-! ### Steps -/

theorem ar_step {ds : List (Option Tmp)} {o : Oper} {rest : List Oper} {Q : List PV → Heap → Prop} {ts : List PV} {h : Heap} (k : ∀ r, astepG P G own ds o ts h = r → AGo P G own ds rest Q o.dst ts h r) : AR P G own ds (o :: rest) Q ts h := by
  simp only [AR]; exact k _ rfl
theorem ar_nil {ds : List (Option Tmp)} {Q : List PV → Heap → Prop} {ts : List PV} {h : Heap} (k : Q ts h) : AR P G own ds [] Q ts h := by
  simp only [AR]; exact k
theorem ar_val {ds : List (Option Tmp)} {rest : List Oper} {Q : List PV → Heap → Prop} {dst : Option Tmp} {ts : List PV} {h h' : Heap} {p : PV} (k : ∀ ts', aput ts dst p = ts' → AR P G own ds rest Q ts' h') : AGo P G own ds rest Q dst ts h (.val p h' True) := by
  simp only [AGo]; exact ⟨trivial, k _ rfl⟩
theorem ar_valc {ds : List (Option Tmp)} {rest : List Oper} {Q : List PV → Heap → Prop} {dst : Option Tmp} {ts : List PV} {h h' : Heap} {p : PV} {c : Prop} (hc : c) (k : ∀ ts', aput ts dst p = ts' → AR P G own ds rest Q ts' h') : AGo P G own ds rest Q dst ts h (.val p h' c) := by
  simp only [AGo]; exact ⟨hc, k _ rfl⟩
/-- A call, by its contract. -/
theorem ar_call {ds : List (Option Tmp)} {rest : List Oper} {Q : List PV → Heap → Prop} {dst : Option Tmp} {ts : List PV} {h : Heap} {g : FuncId} {args : List PV} {R : PV → Heap → Prop} (hc : ACall P G g args h R) (k : ∀ p h', R p h' → ∀ ts', aput ts dst p = ts' → AR P G own ds rest Q ts' h') :
    AGo P G own ds rest Q dst ts h (.call g args) := by
  simp only [AGo]; exact hc.mono fun p h' hr => k p h' hr _ rfl

/-! ### A region whose order is drawn -/
variable (P G rd own)

def astepD (n0 : Nat) (t0 : List PV) (d : DAnn) (op : Op) (f : Operand → PV) (h : Heap) : SR :=
  match d.cl with
  | 0 => match afree (α := Prop) P f op with
    | some (p, c) => .val p h c
    | none => .no
  | 1 => match apure (α := Prop) P (hide (d.fb.map (nu n0 t0)) h) f op with
    | some (p, c) => .val p h c
    | none => .no
  | 2 => match h[nu n0 t0 d.slot]? with
    | some .non => match dalloc (α := Prop) P (nu n0 t0 d.slot) f op with
      | some (p, b, c) => .val p (h.set (nu n0 t0 d.slot) b) c
      | none => .no
    | _ => .no
  | 3 => match callOf op f with
    | some (g, args) => .call g args
    | none => .no
  | 5 => match op with
    | .store t a x => match f a with
      | .ptr r _ => match aeff (α := Prop) P h f (.store t a x) with
        | some (p, h', c) => .val p h' (r = nu n0 t0 d.slot ∧ c)
        | none => .no
      | _ => .no
    | _ => .no
  | 6 => astep P own op f (hide (hid n0 t0 d.fb) h)
  | 7 => match apure (α := Prop) P (only (d.fb.map (nu n0 t0)) h) f op with
    | some (p, c) => .val p h c
    | none => .no
  | _ => astep P own op f h

/-- What is to be shown of a step's outcome, by its class. -/
def ADo (n0 : Nat) (t0 : List PV) (d : DAnn) (op : Op) (f : Operand → PV) (h : Heap) (K : PV → Heap → Prop) : SR → Prop
  | .val p h' c => c ∧ if d.cl = 6 then (∀ r ∈ hid n0 t0 d.fb, r < h.length) ∧ (∀ r ∈ hid n0 t0 d.fb, h'[r]? = some .non) ∧ (∀ x ∈ op.operands, Av (hid n0 t0 d.fb) (f x)) ∧ (∀ r b, r ∉ hid n0 t0 d.fb → h[r]? = some b → AvB (hid n0 t0 d.fb) b) ∧
      (∀ k ∈ d.fb, 1000 ≤ k → (unveil (hid n0 t0 d.fb) h h')[nu n0 t0 k]? = h[nu n0 t0 k]?) ∧ K p (unveil (hid n0 t0 d.fb) h h') else K p h'
  | .call g args => if d.cl = 6 then ∃ p h', ACall P G g args (hide (hid n0 t0 d.fb) h) (fun q h1 => q = p ∧ h1 = h') ∧ (∀ r ∈ hid n0 t0 d.fb, r < h.length) ∧ (∀ r ∈ hid n0 t0 d.fb, h'[r]? = some .non) ∧ (∀ x ∈ op.operands, Av (hid n0 t0 d.fb) (f x)) ∧
      (∀ r b, r ∉ hid n0 t0 d.fb → h[r]? = some b → AvB (hid n0 t0 d.fb) b) ∧ (∀ k ∈ d.fb, 1000 ≤ k → (unveil (hid n0 t0 d.fb) h h')[nu n0 t0 k]? = h[nu n0 t0 k]?) ∧ K p (unveil (hid n0 t0 d.fb) h h')
    else if d.cl = 3 then ∃ p, Pure P G g args p ∧ (∀ q ∈ args, Tree q) ∧ Tree p ∧ K p h
    else ∃ p h', ACall P G g args h (fun q h1 => q = p ∧ h1 = h') ∧ K p h'
  | .no => False

mutual
def AD (n0 : Nat) (t0 : List PV) (ann : Nat → DAnn) (ds : List (Option Tmp)) (ops : List Oper) : List Nat → (List PV → Heap → Prop) → List PV → Heap → Prop
  | [], Q, ts, h => Q ts h
  | i :: r, Q, ts, h => match ops[i]? with
    | some o => match o.guard with
      | none => ADGo n0 t0 ann ds ops r Q (ann i) o ts h (astepD P own n0 t0 (ann i) o.op (aev G ts) h)
      | some (j, want) => match dgd ds ts j with
        | some (.sc (.bool b)) => if b = want then ADGo n0 t0 ann ds ops r Q (ann i) o ts h (astepD P own n0 t0 (ann i) o.op (aev G ts) h) else AD n0 t0 ann ds ops r Q (aput ts o.dst .ud) h
        | some .ud => AD n0 t0 ann ds ops r Q (aput ts o.dst .ud) h
        | _ => False
    | none => False
def ADGo (n0 : Nat) (t0 : List PV) (ann : Nat → DAnn) (ds : List (Option Tmp)) (ops : List Oper) : List Nat → (List PV → Heap → Prop) → DAnn → Oper → List PV → Heap → SR → Prop
  | r, Q, d, o, ts, h, s => ADo P G n0 t0 d o.op (aev G ts) h (fun p h' => AD n0 t0 ann ds ops r Q (aput ts o.dst p) h') s
end

variable {P G rd own}

theorem ADo.ok {n0 : Nat} {t0 : List PV} {d : DAnn} {o : Oper} {ts : List PV} {h : Heap} {K : PV → Heap → Prop} (k : ADo P G n0 t0 d o.op (aev G ts) h K (astepD P own n0 t0 d o.op (aev G ts) h)) : ∃ p h1, DOpr P G rd n0 t0 d o ts h p h1 ∧ K p h1 := by
  unfold DOpr
  by_cases h6 : d.cl = 6
  · have e : astepD P own n0 t0 d o.op (aev G ts) h = astep P own o.op (aev G ts) (hide (hid n0 t0 d.fb) h) := by unfold astepD; rw [h6]; rfl
    rw [e] at k
    rw [h6]
    cases hr : astep P own o.op (aev G ts) (hide (hid n0 t0 d.fb) h) with
    | val p h' c =>
      rw [hr] at k
      simp only [ADo, h6, if_true] at k
      obtain ⟨kc, k2, k3, k4, k5, k6, k7⟩ := k
      exact ⟨p, _, ⟨⟨h', astep_ok (by rw [hr]; exact ⟨kc, rfl, rfl⟩), k2, k3, k4, k5, rfl⟩, k6⟩, k7⟩
    | call g args =>
      rw [hr] at k
      simp only [ADo, h6, if_true] at k
      obtain ⟨p, h', k1, k2, k3, k4, k5, k6, k7⟩ := k
      exact ⟨p, _, ⟨⟨h', astep_ok (by rw [hr]; exact k1), k2, k3, k4, k5, rfl⟩, k6⟩, k7⟩
    | no => rw [hr] at k; exact k.elim
  by_cases h3 : d.cl = 3
  · have e : astepD P own n0 t0 d o.op (aev G ts) h = match callOf o.op (aev G ts) with | some (g, args) => .call g args | none => .no := by unfold astepD; rw [h3]; rfl
    rw [e] at k
    rw [h3]
    cases hr : callOf o.op (aev G ts) with
    | none => rw [hr] at k; exact k.elim
    | some ga =>
      obtain ⟨g, args⟩ := ga
      rw [hr] at k
      simp only [ADo, h3, if_true, if_neg h6, show ¬ (3 : Nat) = 6 by decide, if_false] at k
      obtain ⟨p, k1, k2, k3, k4⟩ := k
      refine ⟨p, h, ⟨rfl, ?_⟩, k4⟩
      unfold callOf at hr
      split at hr
      case h_2 => cases hr
      rename_i c ho
      split at hr
      case h_2 => cases hr
      rename_i x hc
      split at hr
      case h_2 => cases hr
      rename_i g' fst cap hx
      cases hr
      exact ⟨c, x, g, fst, cap, ho, hc, hx, k1, k2, k3⟩
  have val : ∀ {p h' c}, ADo P G n0 t0 d o.op (aev G ts) h K (.val p h' c) → c ∧ K p h' := fun k => by
    simp only [ADo, if_neg h6] at k; exact k
  unfold astepD at k
  generalize hd : d.cl = cl at k ⊢
  split at k
  · split at k
    · rename_i p c he; exact ⟨p, h, ⟨rfl, c, he, (val k).1⟩, (val k).2⟩
    · exact k.elim
  · split at k
    · rename_i p c he; exact ⟨p, h, ⟨rfl, c, he, (val k).1⟩, (val k).2⟩
    · exact k.elim
  · split at k
    · rename_i hn
      split at k
      · rename_i p b c he; exact ⟨p, _, ⟨hn, b, c, he, (val k).1, rfl⟩, (val k).2⟩
      · exact k.elim
    · exact k.elim
  · exact absurd hd h3
  · split at k
    case h_2 => exact k.elim
    rename_i t a x ho
    split at k
    case h_2 => exact k.elim
    rename_i r off ha
    split at k
    · rename_i p h' c he
      obtain ⟨⟨rfl, kc⟩, kk⟩ := val k
      exact ⟨p, h', ⟨t, a, x, off, c, ho, ha, he, kc⟩, kk⟩
    · exact k.elim
  · exact absurd hd h6
  · split at k
    · rename_i p c he; exact ⟨p, h, ⟨rfl, c, he, (val k).1⟩, (val k).2⟩
    · exact k.elim
  · rename_i n0' n1 n2 n3 n5 n6 n7
    have fin : ∃ p h1, OpOk P G rd o h (aev G ts) (fun q h' => q = p ∧ h' = h1) ∧ K p h1 := by
      cases hr : astep P own o.op (aev G ts) h with
      | val p h' c =>
        rw [hr] at k
        exact ⟨p, h', astep_ok (by rw [hr]; exact ⟨(val k).1, rfl, rfl⟩), (val k).2⟩
      | call g args =>
        rw [hr] at k
        simp only [ADo, if_neg h6, if_neg h3] at k
        obtain ⟨p, h', k1, k2⟩ := k
        exact ⟨p, h', astep_ok (by rw [hr]; exact k1), k2⟩
      | no => rw [hr] at k; exact k.elim
    obtain ⟨p, h1, k1, k2⟩ := fin
    refine ⟨p, h1, ?_, k2⟩
    split
    all_goals first
      | exact absurd rfl (by assumption)
      | exact k1

theorem AD.ok {n0 : Nat} {t0 : List PV} {ann : Nat → DAnn} {ops : List Oper} : ∀ (ρ : List Nat) (Q : List PV → Heap → Prop) (ts : List PV) (h : Heap), AD P G own n0 t0 ann (ops.map (·.dst)) ops ρ Q ts h → ∃ sF, DRun P G rd n0 t0 ann ops ρ (ts, h) sF ∧ Q sF.1 sF.2 := by
  intro ρ
  induction ρ with
  | nil => intro Q ts h k; exact ⟨(ts, h), rfl, by simpa only [AD] using k⟩
  | cons i r ih =>
    intro Q ts h k
    simp only [AD, ADGo] at k
    split at k
    case h_2 => exact k.elim
    rename_i o ho
    have go : ∀ p h1, DGd P G rd n0 t0 (ann i) ops o ts h p h1 → AD P G own n0 t0 ann (ops.map (·.dst)) ops r Q (aput ts o.dst p) h1 → ∃ sF, DRun P G rd n0 t0 ann ops (i :: r) (ts, h) sF ∧ Q sF.1 sF.2 := fun p h1 hd hk => by
      obtain ⟨sF, a, b⟩ := ih Q _ _ hk
      exact ⟨sF, ⟨_, ⟨o, p, h1, ho, hd, rfl⟩, a⟩, b⟩
    split at k
    · rename_i hg
      obtain ⟨p, h1, a, b⟩ := ADo.ok (rd := rd) k
      exact go p h1 (by unfold DGd; rw [hg]; exact a) b
    · rename_i j want hg
      rw [← agd_dgd] at k
      split at k
      · rename_i b hb
        by_cases hbw : b = want
        · rw [if_pos hbw] at k
          obtain ⟨p, h1, a, b'⟩ := ADo.ok (rd := rd) k
          exact go p h1 (by unfold DGd; rw [hg]; dsimp only; rw [hb]; exact .inl ⟨hbw, a⟩) b'
        · exact go .ud h (by unfold DGd; rw [hg]; dsimp only; rw [hb]; exact .inr ⟨hbw, rfl, rfl⟩) (by rw [if_neg hbw] at k; exact k)
      · rename_i hb
        exact go .ud h (by unfold DGd; rw [hg]; dsimp only; rw [hb]; exact ⟨rfl, rfl⟩) k
      · exact k.elim

/-- **A region whose order is drawn, by a plan.** -/
theorem awp_drawn (hm : P.follows .mixedOrders = true) (hG : GTree G) (pl : DPlan) {id : Nat} {ops : Array Oper} {Q : Exit → List PV → Heap → Prop} {ts : List PV} {h : Heap} (hg : pl.good ops.toList = true)
    (k : AD P G own h.length ts pl.at (ops.toList.map (·.dst)) ops.toList pl.ord (Q .normal) ts (room h pl.places)) : AWp P G rd (.region id ops true) Q ts h := by
  obtain ⟨hp, hl, hall⟩ := planB_ok hg
  obtain ⟨sF, a, b⟩ := AD.ok _ _ _ _ k
  have := awp_draw hm hG (id := id) hp hl hall _ (Q := Q) ⟨sF, a, b⟩
  simpa using this

section
variable {n0 : Nat} {t0 : List PV} {ann : Nat → DAnn} {ds : List (Option Tmp)} {ops : List Oper} {i : Nat} {r : List Nat} {Q : List PV → Heap → Prop} {ts : List PV} {h : Heap} {o : Oper} {d : DAnn}
theorem ad_step (ho : ops[i]? = some o) (hg : o.guard = none) (hd : ann i = d) (k : ∀ s, astepD P own n0 t0 d o.op (aev G ts) h = s → ADGo P G own n0 t0 ann ds ops r Q d o ts h s) : AD P G own n0 t0 ann ds ops (i :: r) Q ts h := by
  subst hd
  unfold AD; rw [ho]; simp only [hg]; exact k _ rfl
theorem ad_guard (ho : ops[i]? = some o) {j : Nat} {want b : Bool} (hg : o.guard = some (j, want)) (hb : dgd ds ts j = some (.sc (.bool b))) (hd : ann i = d) (k : if b = want then (∀ s, astepD P own n0 t0 d o.op (aev G ts) h = s → ADGo P G own n0 t0 ann ds ops r Q d o ts h s) else AD P G own n0 t0 ann ds ops r Q (aput ts o.dst .ud) h) :
    AD P G own n0 t0 ann ds ops (i :: r) Q ts h := by
  subst hd
  unfold AD; rw [ho]; simp only [hg, hb]
  split
  · rename_i e; rw [if_pos e] at k; exact k _ rfl
  · rename_i e; rw [if_neg e] at k; exact k
theorem ad_guardu (ho : ops[i]? = some o) {j : Nat} {want : Bool} (hg : o.guard = some (j, want)) (hb : dgd ds ts j = some .ud) (k : AD P G own n0 t0 ann ds ops r Q (aput ts o.dst .ud) h) : AD P G own n0 t0 ann ds ops (i :: r) Q ts h := by
  unfold AD; rw [ho]; simp only [hg, hb]; exact k
theorem ad_nil (k : Q ts h) : AD P G own n0 t0 ann ds ops [] Q ts h := by simp only [AD]; exact k
theorem ad_val {h' : Heap} {p : PV} (h6 : d.cl ≠ 6) (k : ∀ ts', aput ts o.dst p = ts' → AD P G own n0 t0 ann ds ops r Q ts' h') : ADGo P G own n0 t0 ann ds ops r Q d o ts h (.val p h' True) := by
  simp only [ADGo, ADo, if_neg h6]; exact ⟨trivial, k _ rfl⟩
theorem ad_valc {h' : Heap} {p : PV} {c : Prop} (h6 : d.cl ≠ 6) (hc : c) (k : ∀ ts', aput ts o.dst p = ts' → AD P G own n0 t0 ann ds ops r Q ts' h') : ADGo P G own n0 t0 ann ds ops r Q d o ts h (.val p h' c) := by
  simp only [ADGo, ADo, if_neg h6]; exact ⟨hc, k _ rfl⟩
theorem ad_call {g : FuncId} {args : List PV} {p : PV} {h' : Heap} (h6 : d.cl ≠ 6) (h3 : d.cl ≠ 3) (hc : ACall P G g args h fun q h1 => q = p ∧ h1 = h') (k : ∀ ts', aput ts o.dst p = ts' → AD P G own n0 t0 ann ds ops r Q ts' h') : ADGo P G own n0 t0 ann ds ops r Q d o ts h (.call g args) := by
  simp only [ADGo, ADo, if_neg h6, if_neg h3]; exact ⟨p, h', hc, k _ rfl⟩
theorem ad_callp {g : FuncId} {args : List PV} {p : PV} (h3 : d.cl = 3) (hc : Pure P G g args p) (ha : ∀ q ∈ args, Tree q) (hp : Tree p) (k : ∀ ts', aput ts o.dst p = ts' → AD P G own n0 t0 ann ds ops r Q ts' h) : ADGo P G own n0 t0 ann ds ops r Q d o ts h (.call g args) := by
  simp only [ADGo, ADo, h3, show ¬ (3 : Nat) = 6 by decide, if_false, if_true]; exact ⟨p, hc, ha, hp, k _ rfl⟩
end
end
end Go.AL
