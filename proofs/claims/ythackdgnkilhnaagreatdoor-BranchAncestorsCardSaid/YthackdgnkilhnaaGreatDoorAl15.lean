/-
  A region whose order is drawn: what each operation leans on, and which pairs may change places.
-/
import Derived.Test.YthackdgnkilhnaaGreatDoorAlF
import Derived.OrdersIn
set_option linter.unusedSimpArgs false
set_option linter.unusedVariables false
namespace Go.AL
open Go.RowKit

theorem amap_congr {f f' : Operand → PV} {l : Array Operand} (h : ∀ x ∈ l, f x = f' x) : l.toList.map f = l.toList.map f' :=
  List.map_congr_left fun x hx => h x (by simpa using hx)

theorem omap_congr {f f' : Operand → PV} {l : Option Operand} (h : ∀ x, l = some x → f x = f' x) : l.map f = l.map f' := by
  cases l with
  | none => rfl
  | some x => simp [h x rfl]

theorem apure0_congr {P : Program} {h : Heap} {f f' : Operand → PV} {op : Op} (hx : ∀ x ∈ op.operands, f x = f' x) : apure0 (α := Prop) P h f op = apure0 P h f' op := by
  cases op with
  | move x => simp only [apure0, hx x (by simp [Op.operands])]
  | assign x => simp only [apure0, hx x (by simp [Op.operands])]
  | pick c a b => simp only [apure0, hx c (by simp [Op.operands]), hx a (by simp [Op.operands]), hx b (by simp [Op.operands])]
  | nilCheck x => simp only [apure0, hx x (by simp [Op.operands])]
  | binOp o t x y u => simp only [apure0, hx x (by simp [Op.operands]), hx y (by simp [Op.operands])]
  | unOp o t x => simp only [apure0, hx x (by simp [Op.operands])]
  | convert s d x => simp only [apure0, hx x (by simp [Op.operands])]
  | makeInterface t x => simp only [apure0, hx x (by simp [Op.operands])]
  | makeFunc fn a b => simp only [apure0, amap_congr (l := a) fun x h => hx x (by simp [Op.operands, h]), amap_congr (l := b) fun x h => hx x (by simp [Op.operands, h])]
  | field t x i => simp only [apure0, hx x (by simp [Op.operands])]
  | fieldAddr t x i => simp only [apure0, hx x (by simp [Op.operands])]
  | indexAddr t x i => simp only [apure0, hx x (by simp [Op.operands]), hx i (by simp [Op.operands])]
  | index t x i => simp only [apure0, hx x (by simp [Op.operands]), hx i (by simp [Op.operands])]
  | load t x => simp only [apure0, hx x (by simp [Op.operands])]
  | extract x i => simp only [apure0, hx x (by simp [Op.operands])]
  | slice t x lo hi mx =>
    have h1 := hx x (by simp [Op.operands])
    have h2 := omap_congr (l := lo) (f := f) (f' := f') fun y e => hx y (by simp [Op.operands, e])
    have h3 := omap_congr (l := hi) (f := f) (f' := f') fun y e => hx y (by simp [Op.operands, e])
    cases mx with
    | none => simp only [apure0, h1, h2, h3]
    | some m => simp only [apure0, h1, h2, h3, hx m (by simp [Op.operands])]
  | call c =>
    have ha : ∀ x ∈ c.args.toList, f x = f' x := fun x h => hx x (by simp [Op.operands, Call.operands]; exact .inr (by simpa using h))
    simp only [apure0]
    generalize c.args.toList = l at ha ⊢
    generalize c.argTypes.toList = t
    split
    · simp only [ha _ (List.mem_cons_self ..)]
    · rename_i x y _; simp only [ha x (by simp), ha y (by simp)]
    · rename_i x y _; simp only [ha x (by simp), ha y (by simp)]
    · rfl
  | _ => rfl

theorem bpure_congr {P : Program} {h : Heap} {f f' : Operand → PV} {op : Op} (hx : ∀ x ∈ op.operands, f x = f' x) : bpure (α := Prop) P h f op = bpure P h f' op := by
  cases op with
  | binOp o t x y u => cases o <;> first | rfl | simp only [bpure, hx x (by simp [Op.operands]), hx y (by simp [Op.operands])]
  | lookup t m k ok => simp only [bpure, hx m (by simp [Op.operands]), hx k (by simp [Op.operands])]
  | slice t x lo hi mx =>
    have h1 := hx x (by simp [Op.operands])
    have h2 := omap_congr (l := lo) (f := f) (f' := f') fun y e => hx y (by simp [Op.operands, e])
    have h3 := omap_congr (l := hi) (f := f) (f' := f') fun y e => hx y (by simp [Op.operands, e])
    cases mx with
    | none => simp only [bpure, h1, h2, h3]
    | some m => simp only [bpure, h1, h2, h3, hx m (by simp [Op.operands])]
  | _ => rfl

theorem apure_congr {P : Program} {h : Heap} {f f' : Operand → PV} {op : Op} (hx : ∀ x ∈ op.operands, f x = f' x) : apure (α := Prop) P h f op = apure P h f' op := by
  unfold apure
  rw [apure0_congr hx, bpure_congr hx]

theorem dalloc_congr {P : Program} {r : Nat} {f f' : Operand → PV} {op : Op} (hx : ∀ x ∈ op.operands, f x = f' x) : dalloc (α := Prop) P r f op = dalloc P r f' op := by
  cases op with
  | box t x => simp only [dalloc, hx x (by simp [Op.operands])]
  | makeSlice t l c => simp only [dalloc, hx l (by simp [Op.operands]), hx c (by simp [Op.operands])]
  | _ => rfl

/-- What an operation yields that looks at no block at all. -/
def afree {α : Type} [CK α] (P : Program) (f : Operand → PV) : Op → Option (PV × α)
  | .build t parts => (aeff P [] f (.build t parts)).map fun r => (r.1, r.2.2)
  | .buildSlice t n parts => (aeff P [] f (.buildSlice t n parts)).map fun r => (r.1, r.2.2)
  | op => apure P [] f op

theorem pmap_congr {f f' : Operand → PV} {l : List (Nat × Operand)} (h : ∀ x ∈ l, f x.2 = f' x.2) : (l.map fun x => (x.1, f x.2)) = l.map fun x => (x.1, f' x.2) :=
  List.map_congr_left fun x hx => by rw [h x hx]

theorem afree_congr {P : Program} {f f' : Operand → PV} {op : Op} (hx : ∀ x ∈ op.operands, f x = f' x) : afree (α := Prop) P f op = afree P f' op := by
  cases op with
  | build t parts =>
    simp only [afree, aeff]
    rw [pmap_congr fun x h => hx x.2 (by simp [Op.operands]; exact ⟨x.1, by simpa using h⟩)]
  | buildSlice t n parts =>
    simp only [afree, aeff]
    rw [pmap_congr fun x h => hx x.2 (by simp [Op.operands]; exact ⟨x.1, by simpa using h⟩)]
  | _ => simp only [afree]; exact apure_congr (P := P) (h := []) hx

/-- More places known: no less is found. -/
theorem apure0_mono {P : Program} {h h' : Heap} (hh : ∀ (r : Nat) (t : TypeId) (cs : List PV), h[r]? = some (.var t cs) → h'[r]? = some (.var t cs)) {f : Operand → PV} {op : Op} {p : PV} {c : Prop}
    (he : apure0 P h f op = some (p, c)) : apure0 P h' f op = some (p, c) := by
  cases op with
  | load t x =>
    simp only [apure0] at he ⊢
    split at he
    · exact he
    · split at he
      · rename_i r o _ _ t' cs hr
        rw [hh _ _ _ hr]
        exact he
      · cases he
    · cases he
  | slice t x lo hi mx =>
    simp only [apure0] at he ⊢
    split at he
    · exact he
    · split at he
      · rename_i n e r o _ _
        split at he
        · rename_i k _ t' cs hk hr
          rw [hk, hh _ _ _ hr]
          exact he
        · cases he
      · exact he
      · exact he
      · cases he
  | _ => exact he

theorem mapEs_mono {h h' : Heap} (hh : ∀ (r : Nat) (b : Blk), b ≠ .non → h[r]? = some b → h'[r]? = some b) {p : PV} {es : List (Value × PV)} (he : mapEs h p = some es) : mapEs h' p = some es := by
  unfold mapEs at he ⊢
  split at he
  · split at he
    · rename_i hb
      rw [hh _ _ (by simp) hb]
      exact he
    · cases he
  · exact he
  · cases he

theorem alookup_mono {P : Program} {h h' : Heap} (hh : ∀ (r : Nat) (b : Blk), b ≠ .non → h[r]? = some b → h'[r]? = some b) {t : TypeId} {ok : Bool} {m k p : PV} {c : Prop} (he : alookup P h t ok m k = some (p, c)) : alookup P h' t ok m k = some (p, c) := by
  unfold alookup at he ⊢
  split at he
  · split at he
    · split at he
      · rename_i hes hz
        rw [mapEs_mono hh hes, hz]
        exact he
      · cases he
    · cases he
  · cases he

theorem apure_mono {P : Program} {h h' : Heap} (hh : ∀ (r : Nat) (b : Blk), b ≠ .non → h[r]? = some b → h'[r]? = some b) {f : Operand → PV} {op : Op} {p : PV} {c : Prop}
    (he : apure P h f op = some (p, c)) : apure P h' f op = some (p, c) := by
  unfold apure at he ⊢
  split at he
  · rename_i r hr
    cases he
    rw [apure0_mono (fun r t cs hb => hh r _ (by simp) hb) hr]
  · rename_i hr
    have key : (∀ t x, op ≠ .load t x) → (∀ t x lo hi mx, op = .slice t x lo hi mx → f x = .nil) → apure0 (α := Prop) P h' f op = none := by
      intro k1 k2
      rw [← hr]
      cases op with
      | load t x => exact absurd rfl (k1 t x)
      | slice t x lo hi mx =>
        simp only [apure0, k2 t x lo hi mx rfl, asTs]
        cases telem P t <;> cases tarr P t <;> rfl
      | _ => rfl
    cases op with
    | lookup t m k ok => rw [key (by simp) (by simp)]; exact alookup_mono hh he
    | slice t x lo hi mx =>
      rw [key (by simp) (fun t' x' lo' hi' mx' e => by
        cases e
        simp only [bpure] at he
        split at he
        · assumption
        · cases he)]
      exact he
    | binOp o t x y u => rw [key (by simp) (by simp)]; cases o <;> exact he
    | _ => cases he

/-! ### One operation of such a region -/

/-- How an operation leans on the list of blocks: 0: not; 1: it reads, and not the places 'fb'; 2: it lays a block into the place 'slot'; 3: a call of a function that only computes; 5: a store into the block 'slot'; 6: it leaves the blocks 'fb' as they are; 7: it reads the blocks 'fb' alone; else: it may do what it likes. -/
structure DAnn where
  cl : Nat
  slot : Nat
  fb : List Nat
  deriving Inhabited

/-- A place's number: below 1000: a place kept free; else: the block that a cell pointed to at the start. -/
def nu (n0 : Nat) (t0 : List PV) (k : Nat) : Nat := if k < 1000 then n0 + k else match t0.getD (k - 1000) .un with
  | .ptr r _ => if r < n0 then r else n0 + k
  | _ => n0 + k

theorem nu_ne {n0 : Nat} {t0 : List PV} {a b : Nat} (ha : a < 1000) (hb : 1000 ≤ b) : nu n0 t0 a ≠ nu n0 t0 b := by
  unfold nu
  rw [if_pos ha, if_neg (by omega)]
  split
  · split <;> omega
  · omega

/-- The list with these blocks alone. -/
def only (vs : List Nat) (h : Heap) : Heap := h.mapIdx fun i b => if vs.contains i then b else .non

theorem only_get {vs : List Nat} {h : Heap} {r : Nat} : (only vs h)[r]? = (h[r]?).map fun b => if vs.contains r then b else .non := by
  unfold only
  rw [List.getElem?_mapIdx]

theorem only_congr {vs : List Nat} {h h' : Heap} (hl : h'.length = h.length) (hv : ∀ r ∈ vs, h'[r]? = h[r]?) : only vs h' = only vs h := by
  apply List.ext_getElem?
  intro r
  rw [only_get, only_get]
  by_cases hr : r ∈ vs
  · rw [hv r hr]
  · have hc : vs.contains r = false := by simpa using hr
    simp only [hc]
    by_cases hlt : r < h.length
    · rw [List.getElem?_eq_getElem hlt, List.getElem?_eq_getElem (by omega)]
      rfl
    · rw [List.getElem?_eq_none (by omega), List.getElem?_eq_none (by omega)]

theorem only_var {vs : List Nat} {h h' : Heap} (hv : ∀ r ∈ vs, h'[r]? = h[r]?) (r : Nat) (b : Blk) (hbn : b ≠ .non) (hr : (only vs h)[r]? = some b) : (only vs h')[r]? = some b := by
  rw [only_get] at hr ⊢
  by_cases hm : r ∈ vs
  · rw [hv r hm]; exact hr
  · exfalso
    have hc : vs.contains r = false := by simpa using hm
    rw [hc] at hr
    cases hb : h[r]? with
    | none => rw [hb] at hr; cases hr
    | some b' => rw [hb] at hr; simp at hr; exact hbn hr.symm

section
variable (P : Program) (G : Glob) (rd : Option Nat) (n0 : Nat) (t0 : List PV)

def DPure (o : Oper) (f : Operand → PV) (p : PV) : Prop := ∃ (c : Call) (x : Operand) (g : FuncId) (fst cap : List PV), o.op = .call c ∧ c.callee = .value x ∧ f x = .fn (.func g) fst cap ∧
  Pure P G g (fst ++ c.args.toList.map f ++ cap) p ∧ (∀ q ∈ fst ++ c.args.toList.map f ++ cap, Tree q) ∧ Tree p

/-- The places that the operation does not see. -/
def hid (n0 : Nat) (t0 : List PV) (fb : List Nat) : List Nat := (fb.filter fun k => decide (k < 1000)).map (nu n0 t0)

theorem hid_mem {fb : List Nat} {k : Nat} (hk : k ∈ fb) (h : k < 1000) : nu n0 t0 k ∈ hid n0 t0 fb := List.mem_map.2 ⟨k, List.mem_filter.2 ⟨hk, by simpa using h⟩, rfl⟩

theorem hid_not {fb : List Nat} {k : Nat} (h : 1000 ≤ k) : nu n0 t0 k ∉ hid n0 t0 fb := by
  intro hm
  obtain ⟨j, hj, e⟩ := List.mem_map.1 hm
  exact nu_ne (of_decide_eq_true (List.mem_filter.1 hj).2) h e

theorem unveil_set {fb : List Nat} {h h0 : Heap} {s : Nat} (b : Blk) (hs : s ∈ fb) (hl : s < h.length) : unveil fb (h.set s b) h0 = (unveil fb h h0).set s b := by
  apply List.ext_getElem?
  intro r
  rw [List.getElem?_set]
  unfold unveil
  rw [List.getElem?_mapIdx, List.getElem?_mapIdx, List.length_mapIdx]
  by_cases hr : s = r
  · subst hr
    by_cases hl0 : s < h0.length
    · simp [hs, hl, hl0, List.getD_eq_getElem?_getD]
    · simp [hl0]
  · rw [if_neg hr]
    cases h0[r]? with
    | none => rfl
    | some c => simp [List.getD_eq_getElem?_getD, List.getElem?_set, hr]

def DHid (o : Oper) (ts : List PV) (fb : List Nat) (h : Heap) (p : PV) (h1 h0 : Heap) : Prop :=
  OpOk P G rd o (hide fb h) (aev G ts) (fun q h' => q = p ∧ h' = h0) ∧ (∀ r ∈ fb, r < h.length) ∧ (∀ r ∈ fb, h0[r]? = some .non) ∧ (∀ x ∈ o.op.operands, Av fb (aev G ts x)) ∧
    (∀ r b, r ∉ fb → h[r]? = some b → AvB fb b) ∧ h1 = unveil fb h h0

def DOpr (d : DAnn) (o : Oper) (ts : List PV) (h : Heap) (p : PV) (h1 : Heap) : Prop :=
  match d.cl with
  | 0 => h1 = h ∧ ∃ c : Prop, afree P (aev G ts) o.op = some (p, c) ∧ c
  | 1 => h1 = h ∧ ∃ c : Prop, apure P (hide (d.fb.map (nu n0 t0)) h) (aev G ts) o.op = some (p, c) ∧ c
  | 2 => h[nu n0 t0 d.slot]? = some .non ∧ ∃ (b : Blk) (c : Prop), dalloc P (nu n0 t0 d.slot) (aev G ts) o.op = some (p, b, c) ∧ c ∧ h1 = h.set (nu n0 t0 d.slot) b
  | 3 => h1 = h ∧ DPure P G o (aev G ts) p
  | 5 => ∃ (t : TypeId) (a x : Operand) (off : Nat) (c : Prop), o.op = .store t a x ∧ aev G ts a = .ptr (nu n0 t0 d.slot) off ∧ aeff P h (aev G ts) (.store t a x) = some (p, h1, c) ∧ c
  | 6 => (∃ h0, DHid P G rd o ts (hid n0 t0 d.fb) h p h1 h0) ∧ ∀ k ∈ d.fb, 1000 ≤ k → h1[nu n0 t0 k]? = h[nu n0 t0 k]?
  | 7 => h1 = h ∧ ∃ c : Prop, apure P (only (d.fb.map (nu n0 t0)) h) (aev G ts) o.op = some (p, c) ∧ c
  | _ => OpOk P G rd o h (aev G ts) fun q h' => q = p ∧ h' = h1

def DGd (d : DAnn) (ops : List Oper) (o : Oper) (ts : List PV) (h : Heap) (p : PV) (h1 : Heap) : Prop :=
  match o.guard with
  | none => DOpr P G rd n0 t0 d o ts h p h1
  | some (j, want) => match agd ops ts j with
    | some (.sc (.bool b)) => (b = want ∧ DOpr P G rd n0 t0 d o ts h p h1) ∨ (b ≠ want ∧ p = .ud ∧ h1 = h)
    | some .ud => p = .ud ∧ h1 = h
    | _ => False

def DStep (ann : Nat → DAnn) (ops : List Oper) (i : Nat) (s s' : List PV × Heap) : Prop :=
  ∃ (o : Oper) (p : PV) (h1 : Heap), ops[i]? = some o ∧ DGd P G rd n0 t0 (ann i) ops o s.1 s.2 p h1 ∧ s' = (aput s.1 o.dst p, h1)

def DRun (ann : Nat → DAnn) (ops : List Oper) : List Nat → List PV × Heap → List PV × Heap → Prop
  | [], s, s' => s' = s
  | i :: r, s, s' => ∃ m, DStep P G rd n0 t0 ann ops i s m ∧ DRun ann ops r m s'

/-- The cells that an operation looks at. -/
def rdT (ops : List Oper) (o : Oper) : List Tmp :=
  o.op.operands.toList.filterMap (fun | .tmp t => some t | _ => none) ++ match o.guard with
    | some (j, _) => ((ops[j]?).bind (·.dst)).toList
    | none => []

/-- These two may change places: 'a' comes first in the order that is walked. -/
def commB (ops : List Oper) (da db : DAnn) (a b : Oper) : Bool :=
  (match a.dst with | some d => !(rdT ops b).contains d && b.dst != some d | none => true) &&
  (match b.dst with | some d => !(rdT ops a).contains d | none => true) &&
  (da.cl == 0 || da.cl == 3 || db.cl == 0 || db.cl == 3 || (da.cl == 1 && db.cl == 1) || (da.cl == 1 && db.cl == 2 && da.fb.contains db.slot) ||
    (da.cl == 2 && db.cl == 1 && db.fb.contains da.slot) || (da.cl == 2 && db.cl == 2 && decide (da.slot < 1000) && decide (db.slot < 1000) && da.slot != db.slot) ||
    (da.cl == 1 && db.cl == 5 && da.fb.contains db.slot) || (da.cl == 5 && db.cl == 1 && db.fb.contains da.slot) ||
    ((da.cl == 1 || da.cl == 7) && (db.cl == 1 || db.cl == 7)) || (da.cl == 7 && db.cl == 2 && decide (db.slot < 1000) && da.fb.all (fun k => decide (1000 ≤ k))) ||
    (da.cl == 2 && db.cl == 7 && decide (da.slot < 1000) && db.fb.all (fun k => decide (1000 ≤ k))) || (da.cl == 7 && db.cl == 6 && da.fb.all (fun k => db.fb.contains k && decide (1000 ≤ k))) ||
    (da.cl == 6 && db.cl == 7 && db.fb.all (fun k => da.fb.contains k && decide (1000 ≤ k))) || (da.cl == 2 && db.cl == 6 && decide (da.slot < 1000) && db.fb.contains da.slot) ||
    (da.cl == 6 && db.cl == 2 && decide (db.slot < 1000) && da.fb.contains db.slot))

variable {P G rd n0 t0}

/-- What an operation finds in the cells it looks at does not turn. -/
structure Agree (ops : List Oper) (o : Oper) (ts ts' : List PV) : Prop where
  ev : ∀ x ∈ o.op.operands, aev G ts x = aev G ts' x
  gd : ∀ j w, o.guard = some (j, w) → agd ops ts j = agd ops ts' j

theorem agree_put {ops : List Oper} {o : Oper} {ts : List PV} {dst : Option Tmp} {p : PV} (h : ∀ d, dst = some d → d ∉ rdT ops o) : Agree (G := G) ops o ts (aput ts dst p) := by
  cases dst with
  | none => exact ⟨fun x _ => rfl, fun j w _ => rfl⟩
  | some d =>
    have hd := h d rfl
    unfold rdT at hd
    rw [List.mem_append, not_or] at hd
    have key : ∀ t, t ≠ d → ts.getD t .un = (ts.set d p).getD t .un := fun t ht => by
      rw [List.getD_eq_getElem?_getD, List.getD_eq_getElem?_getD, List.getElem?_set, if_neg (Ne.symm ht)]
    refine ⟨fun x hx => ?_, fun j w hg => ?_⟩
    · cases x with
      | tmp t =>
        refine key t fun e => hd.1 ?_
        subst e
        exact List.mem_filterMap.2 ⟨.tmp t, by simpa using hx, rfl⟩
      | _ => rfl
    · rw [hg] at hd
      simp only [agd, aput]
      cases hj : (ops[j]?).bind (·.dst) with
      | none => rfl
      | some t =>
        simp only [Option.map_some, Option.some.injEq]
        refine key t fun e => hd.2 ?_
        show d ∈ ((ops[j]?).bind (·.dst)).toList
        rw [hj, e]
        simp

theorem OpOk.congr {o : Oper} {h : Heap} {f f' : Operand → PV} {R : PV → Heap → Prop} (hf : ∀ x ∈ o.op.operands, f x = f' x) (k : OpOk P G rd o h f R) : OpOk P G rd o h f' R :=
  fun φ w X a K Q hS hG hx hK => k φ w X a K Q hS hG (fun x hm => by rw [hf x hm]; exact hx x hm) hK

theorem DPure.congr {o : Oper} {f f' : Operand → PV} {p : PV} (hf : ∀ x ∈ o.op.operands, f x = f' x) (k : DPure P G o f p) : DPure P G o f' p := by
  obtain ⟨c, x, g, fst, cap, ho, hc, hfx, hp, ht, hr⟩ := k
  have e : c.args.toList.map f = c.args.toList.map f' := amap_congr fun y hy => hf y (by simp [ho, Op.operands, Call.operands, hy])
  rw [e] at hp ht
  exact ⟨c, x, g, fst, cap, ho, hc, by rw [← hf x (by simp [ho, Op.operands, Call.operands, hc])]; exact hfx, hp, ht, hr⟩

theorem DOpr.congr {d : DAnn} {o : Oper} {ts ts' : List PV} {h : Heap} {p : PV} {h1 : Heap} (hf : ∀ x ∈ o.op.operands, aev G ts x = aev G ts' x) (k : DOpr P G rd n0 t0 d o ts h p h1) : DOpr P G rd n0 t0 d o ts' h p h1 := by
  unfold DOpr at *
  split at k
  · rw [afree_congr hf] at k; exact k
  · rw [apure_congr hf] at k; exact k
  · rw [dalloc_congr hf] at k; exact k
  · exact ⟨k.1, k.2.congr hf⟩
  · obtain ⟨t, a, x, off, c, ho, ha, he, hc⟩ := k
    have e1 := hf a (by simp [ho, Op.operands])
    have e2 := hf x (by simp [ho, Op.operands])
    refine ⟨t, a, x, off, c, ho, e1 ▸ ha, ?_, hc⟩
    rw [← he]
    simp only [aeff, e1, e2]
  · obtain ⟨⟨h0, k1, k2, k3, k4, k5⟩, k6⟩ := k
    exact ⟨⟨h0, k1.congr hf, k2, k3, fun x hx => by rw [← hf x hx]; exact k4 x hx, k5⟩, k6⟩
  · rw [apure_congr hf] at k; exact k
  · exact k.congr hf

theorem DGd.congr {d : DAnn} {ops : List Oper} {o : Oper} {ts ts' : List PV} {h : Heap} {p : PV} {h1 : Heap} (ha : Agree (G := G) ops o ts ts') (k : DGd P G rd n0 t0 d ops o ts h p h1) : DGd P G rd n0 t0 d ops o ts' h p h1 := by
  unfold DGd at *
  cases hg : o.guard with
  | none => rw [hg] at k; exact k.congr ha.ev
  | some jw =>
    obtain ⟨j, w⟩ := jw
    rw [hg] at k
    simp only [] at k ⊢
    rw [← ha.gd j w hg]
    split at k
    · rcases k with ⟨h1, k⟩ | k
      · exact .inl ⟨h1, k.congr ha.ev⟩
      · exact .inr k
    · exact k
    · exact k.elim

/-- What leans on no place at all. -/
theorem DGd.free {d : DAnn} (hd : d.cl = 0 ∨ d.cl = 3) {ops : List Oper} {o : Oper} {ts : List PV} {h h1 : Heap} {p : PV} (k : DGd P G rd n0 t0 d ops o ts h p h1) : h1 = h ∧ ∀ h', DGd P G rd n0 t0 d ops o ts h' p h' := by
  have key : ∀ {h h1 : Heap}, DOpr P G rd n0 t0 d o ts h p h1 → h1 = h ∧ ∀ h', DOpr P G rd n0 t0 d o ts h' p h' := by
    intro h h1 k
    unfold DOpr at *
    rcases hd with hd | hd <;> rw [hd] at k ⊢ <;> exact ⟨k.1, fun h' => ⟨rfl, k.2⟩⟩
  unfold DGd at *
  split at k
  · exact key k
  · split at k
    · rcases k with ⟨e, k⟩ | ⟨e, k1, k2⟩
      · exact ⟨(key k).1, fun h' => .inl ⟨e, (key k).2 h'⟩⟩
      · exact ⟨k2, fun h' => .inr ⟨e, k1, rfl⟩⟩
    · exact ⟨k.2, fun h' => ⟨k.1, rfl⟩⟩
    · exact k.elim

theorem DGd.cases {d : DAnn} {ops : List Oper} {o : Oper} {ts : List PV} {h h1 : Heap} {p : PV} (k : DGd P G rd n0 t0 d ops o ts h p h1) :
    (h1 = h ∧ ∀ h', DGd P G rd n0 t0 d ops o ts h' p h') ∨ (DOpr P G rd n0 t0 d o ts h p h1 ∧ ∀ h' h1', DOpr P G rd n0 t0 d o ts h' p h1' → DGd P G rd n0 t0 d ops o ts h' p h1') := by
  unfold DGd at *
  split at k
  · exact .inr ⟨k, fun _ _ h => h⟩
  · split at k
    · rcases k with ⟨e, k⟩ | ⟨e, k1, k2⟩
      · exact .inr ⟨k, fun _ _ h => .inl ⟨e, h⟩⟩
      · exact .inl ⟨k2, fun h' => .inr ⟨e, k1, rfl⟩⟩
    · exact .inl ⟨k.2, fun h' => ⟨k.1, rfl⟩⟩
    · exact k.elim

theorem astore_set {h h1 : Heap} {f : Operand → PV} {t : TypeId} {a x : Operand} {r off : Nat} {p : PV} {c : Prop} (ha : f a = .ptr r off) (he : aeff P h f (.store t a x) = some (p, h1, c)) : ∃ B, h1 = h.set r B := by
  simp only [aeff, ha] at he
  repeat' split at he
  all_goals first
    | (cases he; done)
    | (cases he; exact ⟨_, rfl⟩)

/-- Two operations that may change places do, in whatever list of blocks. -/
theorem DGd.swap {da db : DAnn} {ops : List Oper} {a b : Oper} {ts : List PV} {h h1 h2 : Heap} {p q : PV}
    (hc : (da.cl == 0 || da.cl == 3 || db.cl == 0 || db.cl == 3 || (da.cl == 1 && db.cl == 1) || (da.cl == 1 && db.cl == 2 && da.fb.contains db.slot) ||
    (da.cl == 2 && db.cl == 1 && db.fb.contains da.slot) || (da.cl == 2 && db.cl == 2 && decide (da.slot < 1000) && decide (db.slot < 1000) && da.slot != db.slot) ||
    (da.cl == 1 && db.cl == 5 && da.fb.contains db.slot) || (da.cl == 5 && db.cl == 1 && db.fb.contains da.slot) ||
    ((da.cl == 1 || da.cl == 7) && (db.cl == 1 || db.cl == 7)) || (da.cl == 7 && db.cl == 2 && decide (db.slot < 1000) && da.fb.all (fun k => decide (1000 ≤ k))) ||
    (da.cl == 2 && db.cl == 7 && decide (da.slot < 1000) && db.fb.all (fun k => decide (1000 ≤ k))) || (da.cl == 7 && db.cl == 6 && da.fb.all (fun k => db.fb.contains k && decide (1000 ≤ k))) ||
    (da.cl == 6 && db.cl == 7 && db.fb.all (fun k => da.fb.contains k && decide (1000 ≤ k))) || (da.cl == 2 && db.cl == 6 && decide (da.slot < 1000) && db.fb.contains da.slot) ||
    (da.cl == 6 && db.cl == 2 && decide (db.slot < 1000) && da.fb.contains db.slot)) = true)
    (ka : DGd P G rd n0 t0 da ops a ts h p h1) (kb : DGd P G rd n0 t0 db ops b ts h1 q h2) : ∃ h1', DGd P G rd n0 t0 db ops b ts h q h1' ∧ DGd P G rd n0 t0 da ops a ts h1' p h2 := by
  have freeA : (h1 = h ∧ ∀ h', DGd P G rd n0 t0 da ops a ts h' p h') → ∃ h1', DGd P G rd n0 t0 db ops b ts h q h1' ∧ DGd P G rd n0 t0 da ops a ts h1' p h2 := fun ⟨e, k⟩ => ⟨h2, e ▸ kb, k h2⟩
  have freeB : (h2 = h1 ∧ ∀ h', DGd P G rd n0 t0 db ops b ts h' q h') → ∃ h1', DGd P G rd n0 t0 db ops b ts h q h1' ∧ DGd P G rd n0 t0 da ops a ts h1' p h2 := fun ⟨e, k⟩ => ⟨h, k h, e ▸ ka⟩
  rcases ka.cases with fa | ⟨ka', ra⟩
  · exact freeA fa
  rcases kb.cases with fb | ⟨kb', rb⟩
  · exact freeB fb
  simp only [Bool.or_eq_true, beq_iff_eq, Bool.and_eq_true, List.contains_iff_mem, bne_iff_ne, ne_eq, List.all_eq_true] at hc
  simp only [decide_eq_true_eq] at hc
  rcases hc with (((((((((((((((hc | hc) | hc) | hc) | hc) | hc) | hc) | hc) | hc) | hc) | hc) | hc) | hc) | hc) | hc) | hc) | hc
  · exact freeA (ka.free (.inl hc))
  · exact freeA (ka.free (.inr hc))
  · exact freeB (kb.free (.inl hc))
  · exact freeB (kb.free (.inr hc))
  · unfold DOpr at ka' kb'
    rw [hc.1] at ka'; rw [hc.2] at kb'
    obtain ⟨rfl, ka'⟩ := ka'
    obtain ⟨rfl, kb'⟩ := kb'
    exact ⟨h2, kb, ka⟩
  · unfold DOpr at ka' kb'
    rw [hc.1.1] at ka'; rw [hc.1.2] at kb'
    obtain ⟨rfl, ka'⟩ := ka'
    refine ⟨h2, kb, ra _ _ ?_⟩
    unfold DOpr
    rw [hc.1.1]
    obtain ⟨_, b', c', _, _, rfl⟩ := kb'
    refine ⟨rfl, ?_⟩
    rw [hide_set _ (List.mem_map.2 ⟨_, hc.2, rfl⟩)]
    exact ka'
  · unfold DOpr at ka' kb'
    rw [hc.1.1] at ka'; rw [hc.1.2] at kb'
    obtain ⟨hn, b', c', e1, e2, rfl⟩ := ka'
    obtain ⟨rfl, kb'⟩ := kb'
    rw [hide_set _ (List.mem_map.2 ⟨_, hc.2, rfl⟩)] at kb'
    refine ⟨h, rb _ _ ?_, ka⟩
    unfold DOpr
    rw [hc.1.2]
    exact ⟨rfl, kb'⟩
  · obtain ⟨⟨⟨⟨g1, g2⟩, g3⟩, g4⟩, g5⟩ := hc
    unfold DOpr at ka' kb'
    rw [g1] at ka'; rw [g2] at kb'
    obtain ⟨hn, b1, c1, e1, e2, rfl⟩ := ka'
    obtain ⟨hn', b2, c2, e3, e4, rfl⟩ := kb'
    have hne : nu n0 t0 da.slot ≠ nu n0 t0 db.slot := fun e => g5 (by unfold nu at e; rw [if_pos g3, if_pos g4] at e; omega)
    rw [List.getElem?_set, if_neg hne] at hn'
    refine ⟨h.set (nu n0 t0 db.slot) b2, rb _ _ ?_, ra _ _ ?_⟩
    · unfold DOpr
      rw [g2]
      exact ⟨hn', b2, c2, e3, e4, rfl⟩
    · unfold DOpr
      rw [g1]
      refine ⟨by rw [List.getElem?_set, if_neg (Ne.symm hne)]; exact hn, b1, c1, e1, e2, ?_⟩
      rw [List.set_comm _ _ hne]
  · obtain ⟨⟨g1, g2⟩, g3⟩ := hc
    unfold DOpr at ka' kb'
    rw [g1] at ka'; rw [g2] at kb'
    obtain ⟨rfl, ka'⟩ := ka'
    refine ⟨h2, kb, ra _ _ ?_⟩
    unfold DOpr
    rw [g1]
    obtain ⟨t, a, x, off, c, ho, ha, he, hc⟩ := kb'
    obtain ⟨B, rfl⟩ := astore_set ha he
    refine ⟨rfl, ?_⟩
    rw [hide_set _ (List.mem_map.2 ⟨_, g3, rfl⟩)]
    exact ka'
  · obtain ⟨⟨g1, g2⟩, g3⟩ := hc
    unfold DOpr at ka' kb'
    rw [g1] at ka'; rw [g2] at kb'
    obtain ⟨t, a, x, off, c, ho, ha, he, hc⟩ := ka'
    obtain ⟨B, rfl⟩ := astore_set ha he
    obtain ⟨rfl, kb'⟩ := kb'
    rw [hide_set _ (List.mem_map.2 ⟨_, g3, rfl⟩)] at kb'
    refine ⟨h, rb _ _ ?_, ka⟩
    unfold DOpr
    rw [g2]
    exact ⟨rfl, kb'⟩
  · have ea : h1 = h := by
      unfold DOpr at ka'
      rcases hc.1 with e | e <;> rw [e] at ka' <;> exact ka'.1
    have eb : h2 = h1 := by
      unfold DOpr at kb'
      rcases hc.2 with e | e <;> rw [e] at kb' <;> exact kb'.1
    subst eb
    subst ea
    exact ⟨_, kb, ka⟩
  · obtain ⟨⟨⟨g1, g2⟩, g3⟩, g4⟩ := hc
    unfold DOpr at ka' kb'
    rw [g1] at ka'; rw [g2] at kb'
    obtain ⟨rfl, ka'⟩ := ka'
    refine ⟨h2, kb, ra _ _ ?_⟩
    unfold DOpr
    rw [g1]
    obtain ⟨_, b', c', _, _, rfl⟩ := kb'
    refine ⟨rfl, ?_⟩
    rw [only_congr (h := h1) (by simp) fun r hr => ?_]
    · exact ka'
    · obtain ⟨k, hk, rfl⟩ := List.mem_map.1 hr
      rw [List.getElem?_set, if_neg (nu_ne g3 (g4 k hk))]
  · obtain ⟨⟨⟨g1, g2⟩, g3⟩, g4⟩ := hc
    unfold DOpr at ka' kb'
    rw [g1] at ka'; rw [g2] at kb'
    obtain ⟨hn, b', c', e1, e2, rfl⟩ := ka'
    obtain ⟨rfl, kb'⟩ := kb'
    refine ⟨h, rb _ _ ?_, ka⟩
    unfold DOpr
    rw [g2]
    refine ⟨rfl, ?_⟩
    rw [only_congr (h := h) (by simp) fun r hr => ?_] at kb'
    · exact kb'
    · obtain ⟨k, hk, rfl⟩ := List.mem_map.1 hr
      rw [List.getElem?_set, if_neg (nu_ne g3 (g4 k hk))]
  · obtain ⟨⟨g1, g2⟩, g3⟩ := hc
    unfold DOpr at ka' kb'
    rw [g1] at ka'; rw [g2] at kb'
    obtain ⟨rfl, c, he, hc⟩ := ka'
    obtain ⟨k1, k3⟩ := kb'
    refine ⟨h2, kb, ra _ _ ?_⟩
    unfold DOpr
    rw [g1]
    refine ⟨rfl, c, apure_mono (only_var fun r hr => ?_) he, hc⟩
    obtain ⟨k, hk, rfl⟩ := List.mem_map.1 hr
    exact k3 k (g3 k hk).1 (g3 k hk).2
  · obtain ⟨⟨g1, g2⟩, g3⟩ := hc
    unfold DOpr at ka' kb'
    rw [g1] at ka'; rw [g2] at kb'
    obtain ⟨k1, k3⟩ := ka'
    obtain ⟨rfl, c, he, hc⟩ := kb'
    refine ⟨h, rb _ _ ?_, ka⟩
    unfold DOpr
    rw [g2]
    refine ⟨rfl, c, apure_mono (only_var fun r hr => ?_) he, hc⟩
    obtain ⟨k, hk, rfl⟩ := List.mem_map.1 hr
    exact (k3 k (g3 k hk).1 (g3 k hk).2).symm
  · obtain ⟨⟨⟨g1, g2⟩, g3⟩, g4⟩ := hc
    unfold DOpr at ka' kb'
    rw [g1] at ka'; rw [g2] at kb'
    obtain ⟨hn, b1, c1, e1, e2, rfl⟩ := ka'
    obtain ⟨⟨h0, k1, k2, k3, k4, k5, rfl⟩, k7⟩ := kb'
    have hs := hid_mem (n0 := n0) (t0 := t0) g4 g3
    have hl : nu n0 t0 da.slot < h.length := (List.getElem?_eq_some_iff.1 hn).1
    have hl0 : nu n0 t0 da.slot < h0.length := (List.getElem?_eq_some_iff.1 (k3 _ hs)).1
    rw [hide_set _ hs] at k1
    refine ⟨unveil (hid n0 t0 db.fb) h h0, rb _ _ ?_, ra _ _ ?_⟩
    · unfold DOpr
      rw [g2]
      refine ⟨⟨h0, k1, fun r hr => by have := k2 r hr; simpa using this, k3, k4, fun r b hr hb => k5 r b hr (by rw [List.getElem?_set, if_neg (by rintro rfl; exact hr hs)]; exact hb), rfl⟩, fun k hk hge => ?_⟩
      have := k7 k hk hge
      rw [unveil_out (hid_not n0 t0 hge), List.getElem?_set, if_neg (nu_ne g3 hge)] at this
      rw [unveil_out (hid_not n0 t0 hge)]
      exact this
    · unfold DOpr
      rw [g1]
      exact ⟨by rw [unveil_in hs hl0 hl]; exact hn, b1, c1, e1, e2, unveil_set _ hs hl⟩
  · obtain ⟨⟨⟨g1, g2⟩, g3⟩, g4⟩ := hc
    unfold DOpr at ka' kb'
    rw [g1] at ka'; rw [g2] at kb'
    obtain ⟨⟨h0, k1, k2, k3, k4, k5, rfl⟩, k7⟩ := ka'
    obtain ⟨hn, b1, c1, e1, e2, rfl⟩ := kb'
    have hs := hid_mem (n0 := n0) (t0 := t0) g4 g3
    have hl := k2 _ hs
    have hl0 : nu n0 t0 db.slot < h0.length := (List.getElem?_eq_some_iff.1 (k3 _ hs)).1
    rw [unveil_in hs hl0 hl] at hn
    refine ⟨h.set (nu n0 t0 db.slot) b1, rb _ _ ?_, ra _ _ ?_⟩
    · unfold DOpr
      rw [g2]
      exact ⟨hn, b1, c1, e1, e2, rfl⟩
    · unfold DOpr
      rw [g1]
      refine ⟨⟨h0, by rw [hide_set _ hs]; exact k1, fun r hr => by have := k2 r hr; simpa using this, k3, k4, fun r b hr hb => k5 r b hr (by rw [List.getElem?_set, if_neg (by rintro rfl; exact hr hs)] at hb; exact hb), (unveil_set _ hs hl).symm⟩, fun k hk hge => ?_⟩
      have := k7 k hk hge
      rw [unveil_out (hid_not n0 t0 hge)] at this
      rw [← unveil_set _ hs hl, unveil_out (hid_not n0 t0 hge), List.getElem?_set, if_neg (nu_ne g3 hge)]
      exact this

theorem DStep.swap {ann : Nat → DAnn} {ops : List Oper} {i j : Nat} {a b : Oper} (ha : ops[i]? = some a) (hb : ops[j]? = some b) (hc : commB ops (ann i) (ann j) a b = true) {s m s' : List PV × Heap}
    (k : DStep P G rd n0 t0 ann ops i s m) (k' : DStep P G rd n0 t0 ann ops j m s') : ∃ m', DStep P G rd n0 t0 ann ops j s m' ∧ DStep P G rd n0 t0 ann ops i m' s' := by
  obtain ⟨o, p, h1, ho, ka, rfl⟩ := k
  rw [ha] at ho; cases ho
  obtain ⟨o, q, h2, ho, kb, rfl⟩ := k'
  rw [hb] at ho; cases ho
  unfold commB at hc
  rw [Bool.and_eq_true, Bool.and_eq_true] at hc
  obtain ⟨⟨c1, c2⟩, c3⟩ := hc
  have d1 : ∀ d, a.dst = some d → d ∉ rdT ops b ∧ b.dst ≠ some d := by
    intro d hd
    rw [hd] at c1
    simpa using c1
  have d2 : ∀ d, b.dst = some d → d ∉ rdT ops a := by
    intro d hd
    rw [hd] at c2
    simpa using c2
  have ag := agree_put (G := G) (ops := ops) (o := b) (ts := s.1) (p := p) (dst := a.dst) fun d hd => (d1 d hd).1
  have kb' : DGd P G rd n0 t0 (ann j) ops b s.1 h1 q h2 := kb.congr ⟨fun x hx => (ag.ev x hx).symm, fun j w hg => (ag.gd j w hg).symm⟩
  obtain ⟨h1', k1, k2⟩ := DGd.swap c3 ka kb'
  refine ⟨(aput s.1 b.dst q, h1'), ⟨b, q, h1', hb, k1, rfl⟩, a, p, h2, ha, k2.congr (agree_put d2), ?_⟩
  simp only [Prod.mk.injEq, and_true]
  cases hda : a.dst with
  | none => rfl
  | some d =>
    cases hdb : b.dst with
    | none => rfl
    | some e =>
      simp only [aput]
      refine List.set_comm _ _ fun he => (d1 d hda).2 ?_
      rw [hdb, he]
end
end Go.AL
