/-
  One operation that turns no memory, on what is known of its operands ('apure0'), and that the model's operation yields a value of which this is known.
-/
import Derived.Test.YthackdgnkilhnaaGreatDoorAl1
set_option linter.unusedSimpArgs false
set_option linter.unusedVariables false
namespace Go.AL
open Go.RowKit

abbrev Glob := Nat → Option (List PV)

def GRel (S : St) (G : Glob) : Prop := ∀ g cs, G g = some cs → VRel S (.tp cs) (.pointer (some ⟨g, 0, none⟩))

/-- A constant of the text. -/
def ofC0 : Value → PV
  | .slice none 0 0 => .nil
  | .int k n => if k.min ≤ n ∧ n ≤ k.max then .sc (.int k n) else .un
  | .string s => if s.size ≤ maxLen then .sc (.string s) else .un
  | .bool b => .sc (.bool b)
  | .nilIface => .sc .nilIface
  | .nilFunc => .sc .nilFunc
  | .pointer none => .sc (.pointer none)
  | .map none => .sc (.map none)
  | _ => .un

def ofC : Value → PV
  | .agg cs => if cs.toList.all Value.oneCell' then .agg (cs.toList.map ofC0) else .un
  | .tuple vs => if vs.size = 0 then .ud else .un
  | v => ofC0 v

theorem ofC0_rel (S : St) (v : Value) : VRel S (ofC0 v) v := by
  unfold ofC0
  split
  · exact .nil
  · split
    · exact .sc (by assumption)
    · exact .un
  · split
    · exact .sc (by assumption)
    · exact .un
  all_goals first | exact .sc trivial | exact .un

theorem ofC_rel (S : St) (v : Value) : VRel S (ofC v) v := by
  cases v with
  | agg cs =>
    simp only [ofC]
    split
    · rename_i h
      rw [List.all_eq_true] at h
      refine .agg (by simp) (fun i v hv => h v ?_) (fun i p v hp hv => ?_)
      · rw [Array.getElem?_eq_some_iff] at hv
        obtain ⟨hi, rfl⟩ := hv
        simp
      · rw [List.getElem?_map] at hp
        have : cs.toList[i]? = some v := by simpa using hv
        rw [this] at hp
        cases hp
        exact ofC0_rel S v
    · exact .un
  | tuple vs =>
    simp only [ofC]
    split
    · rename_i h
      have : vs = #[] := Array.eq_empty_of_size_eq_zero h
      subst this
      exact .ud
    · exact .un
  | _ => rw [ofC] <;> first | exact ofC0_rel S _ | (intro _ h; cases h)

def aev (G : Glob) (ts : List PV) : Operand → PV
  | .tmp t => ts.getD t .un
  | .const v => ofC v
  | .global g => match G g with | some cs => .tp cs | none => .un
  | .func f => .fn (.func f) [] []

structure TRel (S : St) (ts : List PV) (tmps : Array Value) : Prop where
  size : tmps.size = ts.length
  rel : ∀ i p, ts[i]? = some p → VRel S p (tmps.getD i undef)

theorem aev_rel {S : St} {G : Glob} {ts : List PV} {a : Act} (hG : GRel S G) (hT : TRel S ts a.tmps) (x : Operand) : VRel S (aev G ts x) (a.eval x) := by
  cases x with
  | tmp t =>
    simp only [aev, Act.eval]
    cases h : ts[t]? with
    | none => rw [List.getD_eq_getElem?_getD, h]; exact .un
    | some p => rw [List.getD_eq_getElem?_getD, h]; exact hT.rel t p h
  | const v => exact ofC_rel S v
  | global g =>
    simp only [aev, Act.eval]
    split
    · rename_i cs h; exact hG g cs h
    · exact .un
  | func f => exact .fn rfl rfl (by intro i p v h; simp at h) (by intro i p v h; simp at h)

theorem TRel.ext {S S' : St} {ts : List PV} {tmps : Array Value} (h : TRel S ts tmps) (x : Ext S S') : TRel S' ts tmps := ⟨h.size, fun i p hp => (h.rel i p hp).ext x⟩
theorem GRel.ext {S S' : St} {G : Glob} (h : GRel S G) (x : Ext S S') : GRel S' G := fun g cs hg => (h g cs hg).ext x

def aput (ts : List PV) (dst : Option Tmp) (p : PV) : List PV :=
  match dst with
  | some d => ts.set d p
  | none => ts

theorem TRel.put {S : St} {ts : List PV} {a : Act} (h : TRel S ts a.tmps) (dst : Option Tmp) {p : PV} {v : Value} (hv : VRel S p v) : TRel S (aput ts dst p) (a.put dst v).tmps := by
  cases dst with
  | none => exact h
  | some d =>
    simp only [aput, Act.put]
    refine ⟨by simp [h.size], fun i q hq => ?_⟩
    rw [List.getElem?_set] at hq
    have hs := h.size
    split at hq
    · subst d
      split at hq
      · cases hq
        rename_i hlt
        have hlt' : i < a.tmps.size := by omega
        simp [Array.getD, hlt', hv]
      · cases hq
    · rename_i hne
      have := h.rel i q hq
      rw [Array.getD_eq_getD_getElem?] at this ⊢
      rwa [Array.getElem?_setIfInBounds_ne hne]

/-! ### The types' facts -/
def tagg (P : Program) (t : TypeId) : Option Bool := match P.underlying t with | some (.struct _) | some (.array ..) => some true | some _ => some false | none => none
def tsize (P : Program) (t : TypeId) : Option Nat := (P.info? t).map (·.size)
def tfield (P : Program) (t : TypeId) (f : Nat) : Option (Nat × TypeId) := match P.underlying t with | some (.struct fs) => (fs[f]?).map fun f => (f.offset, f.type) | _ => none
def telem (P : Program) (t : TypeId) : Option TypeId := match P.underlying t with | some (.slice e) => some e | _ => none
def tarr (P : Program) (t : TypeId) : Option (Nat × TypeId) := match P.underlying t with | some (.array n e) => some (n, e) | _ => none
def tint (P : Program) (t : TypeId) : Option IntKind := match P.underlying t with | some (.int k) => some k | _ => none
def tbool (P : Program) (t : TypeId) : Bool := match P.underlying t with | some .bool => true | _ => false
def tstr (P : Program) (t : TypeId) : Bool := match P.underlying t with | some .string => true | _ => false
def tiface (P : Program) (t : TypeId) : Option Bool := match P.underlying t with | some (.interface _) => some true | some _ => some false | none => none

def pickPV (b : Bool) : PV → PV → PV
  | .sc (.bool x), .sc (.bool y) => .sc (.bool (bif b then x else y))
  | p, q => if b then p else q

theorem pickPV_rel {S : St} {b : Bool} {p q : PV} {u v : Value} (hp : VRel S p u) (hq : VRel S q v) : VRel S (pickPV b p q) (if b then u else v) := by
  unfold pickPV
  split
  · cases hp; cases hq; cases b <;> exact .sc trivial
  · cases b
    · exact hq
    · exact hp

/-- What a condition is told by: a proposition, or a test. -/
class CK (α : Type) where
  cnd : (c : Prop) → [Decidable c] → α
  both : α → α → α
instance : CK Prop := ⟨fun c => c, And⟩
instance : CK Bool := ⟨fun c => decide c, Bool.and⟩
theorem ckmk (c : Prop) [Decidable c] : (CK.cnd c : Prop) = c := rfl
theorem ckand (c d : Prop) : (CK.both c d : Prop) = (c ∧ d) := rfl

/-- Integer operations that cannot fail. -/
def abin {α : Type} [CK α] (P : Program) (t : TypeId) (op : BinOp) : PV → PV → Option (PV × α)
  | .sc (.int k a), .sc (.int k' b) =>
    match op with
    | .shl => some (.sc (.int k (k.wrap (a * 2 ^ min b.toNat k.bits))), CK.cnd (0 ≤ b))
    | .shr => some (.sc (.int k (a / 2 ^ min b.toNat k.bits)), CK.cnd (0 ≤ b))
    | .add => if k = k' then some (.sc (.int k (k.wrap (a + b))), CK.cnd True) else none
    | .sub => if k = k' then some (.sc (.int k (k.wrap (a - b))), CK.cnd True) else none
    | .mul => if k = k' then some (.sc (.int k (k.wrap (a * b))), CK.cnd True) else none
    | .quo => if k = k' then some (.sc (.int k (k.wrap (a.tdiv b))), CK.cnd (b ≠ 0)) else none
    | .rem => if k = k' then some (.sc (.int k (a.tmod b)), CK.cnd (b ≠ 0)) else none
    | .and => if k = k' then some (.sc (.int k (bits .and k a b)), CK.cnd True) else none
    | .or => if k = k' then some (.sc (.int k (bits .or k a b)), CK.cnd True) else none
    | .xor => if k = k' then some (.sc (.int k (bits .xor k a b)), CK.cnd True) else none
    | .andNot => if k = k' then some (.sc (.int k (bits .andNot k a b)), CK.cnd True) else none
    | .eql => if k = k' then some (.sc (.bool (a == b)), CK.cnd True) else none
    | .neq => if k = k' then some (.sc (.bool (a != b)), CK.cnd True) else none
    | .lss => if k = k' then some (.sc (.bool (decide (a < b))), CK.cnd True) else none
    | .leq => if k = k' then some (.sc (.bool (decide (a ≤ b))), CK.cnd True) else none
    | .gtr => if k = k' then some (.sc (.bool (decide (b < a))), CK.cnd True) else none
    | .geq => if k = k' then some (.sc (.bool (decide (b ≤ a))), CK.cnd True) else none
  | .sc (.bool a), .sc (.bool b) =>
    match op with
    | .eql => if tbool P t then some (.sc (.bool (a == b)), CK.cnd True) else none
    | .neq => if tbool P t then some (.sc (.bool (a != b)), CK.cnd True) else none
    | _ => none
  | .sc (.string a), .sc (.string b) =>
    match op with
    | .eql => some (.sc (.bool (decide (a = b))), CK.cnd True)
    | .neq => some (.sc (.bool (!decide (a = b))), CK.cnd True)
    | _ => none
  | _, _ => none

def asTs : PV → Option (Nat × List (List PV))
  | .ts k e => some (k, e)
  | .tc k e => some (k, e)
  | .vec _ k e => some (k, e)
  | _ => none

theorem asTs_rel {S : St} {p : PV} {k : Nat} {els : List (List PV)} {v : Value} (h : asTs p = some (k, els)) (hv : VRel S p v) : VRel S (.ts k els) v := by
  cases p <;> simp only [asTs, Option.some.injEq, Prod.mk.injEq, reduceCtorEq] at h
  · obtain ⟨rfl, rfl⟩ := h; exact hv
  · obtain ⟨rfl, rfl⟩ := h; cases hv with | tc ht => exact ht
  · obtain ⟨rfl, rfl⟩ := h; cases hv with | vec ht => exact ht

/-- What a load finds. -/
def ald {α : Type} [CK α] (P : Program) (t : TypeId) (cs : List PV) : Option (PV × α) :=
  match tsize P t, tagg P t with
  | some s, some true => some (.agg (cs.take s), CK.cnd (s ≤ cs.length))
  | some _, some false => some (cs.getD 0 .un, CK.cnd (0 < cs.length))
  | _, _ => none

def alen {α : Type} [CK α] (P : Program) (t : TypeId) : PV → Option (PV × α)
  | .nil => if (telem P t).isSome then some (.sc (.int .i64 0), CK.cnd True) else none
  | .ts _ e => if (telem P t).isSome then some (.sc (.int .i64 e.length), CK.cnd True) else none
  | .tc _ e => if (telem P t).isSome then some (.sc (.int .i64 e.length), CK.cnd True) else none
  | .vec _ _ e => if (telem P t).isSome then some (.sc (.int .i64 e.length), CK.cnd True) else none
  | .ms _ _ _ n => if (telem P t).isSome then some (.sc (.int .i64 n), CK.cnd True) else none
  | .sc (.string s) => if tstr P t then some (.sc (.int .i64 s.size), CK.cnd True) else none
  | _ => none

def abound {α : Type} [CK α] : Option PV → Nat → Nat → Option (Nat × α)
  | none, _, z => some (z, CK.cnd True)
  | some (.sc (.int _ n)), d, _ => some (n.toNat, CK.cnd (0 ≤ n ∧ n ≤ d))
  | _, _, _ => none

/-- An operation that turns no memory: what it yields, and on what condition. -/
def apure0 {α : Type} [CK α] (P : Program) (h : Heap) (f : Operand → PV) : Op → Option (PV × α)
  | .move x => some (f x, CK.cnd True)
  | .assign x => some (f x, CK.cnd True)
  | .pick c a b => match f c with
    | .sc (.bool t) => some (pickPV t (f a) (f b), CK.cnd True)
    | _ => none
  | .nilCheck x => match f x with
    | .ptr r o => some (.ptr r o, CK.cnd True)
    | .tp cs => some (.tp cs, CK.cnd True)
    | .fn (.func g) a b => some (.fn (.func g) a b, CK.cnd True)
    | .fn (.via t s g p) a b => some (.fn (.via t s g p) a b, CK.cnd True)
    | .yl r => some (.yl r, CK.cnd True)
    | .ifc t p => some (.ifc t p, CK.cnd True)
    | _ => none
  | .binOp op t x y _ => abin P t op (f x) (f y)
  | .unOp op _ x => match op, f x with
    | .not, .sc (.bool b) => some (.sc (.bool !b), CK.cnd True)
    | .neg, .sc (.int k n) => some (.sc (.int k (k.wrap (0 - n))), CK.cnd True)
    | .xor, .sc (.int k n) => some (.sc (.int k (bits .xor k (if k.signed then -1 else k.max) n)), CK.cnd True)
    | _, _ => none
  | .convert s d x => match tint P d, f x with
    | some k, .sc (.int _ n) => if (P.underlying s).isSome then some (.sc (.int k (k.wrap n)), CK.cnd True) else none
    | _, .sc (.string b) => if tstr P d ∧ (P.underlying s).isSome then some (.sc (.string b), CK.cnd True) else none
    | _, _ => none
  | .makeInterface t x => if tiface P t = some false then some (.ifc t (f x), CK.cnd True) else none
  | .makeFunc fn a b => some (.fn fn (a.toList.map f) (b.toList.map f), CK.cnd True)
  | .field t x i => match tfield P t i, f x with
    | some (off, ft), .agg cs => match tsize P ft, tagg P ft with
      | some s, some true => some (.agg ((cs.drop off).take s), CK.cnd (off + s ≤ cs.length))
      | some _, some false => some (cs.getD off .un, CK.cnd (off < cs.length))
      | _, _ => none
    | _, _ => none
  | .fieldAddr t x i => match tfield P t i, f x with
    | some (off, ft), .ptr r o => match tsize P ft with
      | some (_ + 1) => some (.ptr r (o + off), CK.cnd True)
      | _ => none
    | some (off, ft), .tp cs => match tsize P ft with
      | some (_ + 1) => some (.tp (cs.drop off), CK.cnd True)
      | _ => none
    | _, _ => none
  | .indexAddr t x i => match f i with
    | .sc (.int _ n) => match telem P t with
      | some e => match asTs (f x), f x with
        | some (k, els), _ => if tsize P e = some k then some (.tp (els.getD n.toNat []), CK.cnd (0 ≤ n ∧ n < els.length)) else none
        | none, .ms r off k len => if tsize P e = some k then some (.ptr r (off + n.toNat * k), CK.cnd (0 ≤ n ∧ n < len)) else none
        | _, _ => none
      | none => match tarr P t, f x with
        | some (len, e), .ptr r o => match tsize P e with
          | some k => some (.ptr r (o + n.toNat * k), CK.cnd (0 ≤ n ∧ n < len))
          | none => none
        | some (len, e), .tp cs => match tsize P e with
          | some k => some (.tp (cs.drop (n.toNat * k)), CK.cnd (0 ≤ n ∧ n < len))
          | none => none
        | _, _ => none
    | _ => none
  | .index t x i => match f i with
    | .sc (.int _ n) => match tarr P t, f x with
      | some (len, e), .agg cs => match tsize P e, tagg P e with
        | some s, some true => some (.agg ((cs.drop (n.toNat * s)).take s), CK.cnd (0 ≤ n ∧ n < len ∧ n.toNat * s + s ≤ cs.length))
        | some s, some false => some (cs.getD (n.toNat * s) .un, CK.cnd (0 ≤ n ∧ n < len ∧ n.toNat * s < cs.length))
        | _, _ => none
      | _, .sc (.string b) => if tstr P t then some (.sc (.int .u8 (b.data.getD n.toNat 0).toNat), CK.cnd (0 ≤ n ∧ n < b.size)) else none
      | _, _ => none
    | _ => none
  | .load t x => match f x with
    | .tp cs => ald P t cs
    | .ptr r o => match h[r]? with
      | some (.var _ cs) => ald P t (cs.drop o)
      | _ => none
    | _ => none
  | .extract x i => match f x with
    | .tup vs => some (vs.getD i .un, CK.cnd (i < vs.length))
    | _ => none
  | .slice t x lo hi mx => match telem P t with
    | some e => match asTs (f x) with
      | some (k, els) => if tsize P e = some k then
          match mx with
          | none => match abound (hi.map f) els.length els.length with
            | some (b, c) => match abound (lo.map f) b 0 with
              | some (a, c') => some (.ts k ((els.take b).drop a), CK.both (CK.cnd (b ≤ els.length ∧ a ≤ b)) (CK.both c c'))
              | none => none
            | none => none
          | some m => match abound (some (f m)) els.length 0 with
            | some (d, c0) => match abound (hi.map f) d d with
              | some (b, c) => match abound (lo.map f) b 0 with
                | some (a, c') => some (.tc k ((els.take b).drop a), CK.both (CK.cnd (b = d ∧ d ≤ els.length ∧ a ≤ b ∧ hi.isSome)) (CK.both c0 (CK.both c c')))
                | none => none
              | none => none
            | none => none
        else none
      | none => none
    | none => match tarr P t, f x with
      | some (n, e), .ptr r o => match tsize P e, h[r]? with
        | some k, some (.var _ cs) => if lo.isNone && hi.isNone && mx.isNone then some (.ms r o k n, CK.cnd (o + n * k ≤ cs.length ∧ n ≤ maxLen)) else none
        | _, _ => none
      | some (n, e), .tp cs => if tsize P e = some 1 ∧ lo.isNone ∧ hi.isNone ∧ mx.isNone then some (.ts 1 (cs.map ([·])), CK.cnd (cs.length = n ∧ n ≤ maxLen)) else none
      | _, .sc (.string s) => if tstr P t ∧ mx.isNone then
          match abound (hi.map f) s.size s.size with
          | some (b, c) => match abound (lo.map f) b 0 with
            | some (a, c') => some (.sc (.string (s.extract a b)), CK.both (CK.cnd (b ≤ s.size ∧ a ≤ b)) (CK.both c c'))
            | none => none
          | none => none
        else none
      | _, _ => none
  | .call c => match c.callee, c.args.toList, c.argTypes.toList with
    | .builtin .len, [x], [t] => alen P t (f x)
    | .builtin .max, [x, y], _ => match f x, f y with
      | .sc (.int k a), .sc (.int k' b) => if k = k' then some (.sc (.int k (if b > a then b else a)), CK.cnd True) else none
      | _, _ => none
    | .builtin .min, [x, y], _ => match f x, f y with
      | .sc (.int k a), .sc (.int k' b) => if k = k' then some (.sc (.int k (if b < a then b else a)), CK.cnd True) else none
      | _, _ => none
    | _, _, _ => none
  | _ => none
end Go.AL
