/-
  More operations that turn no memory: comparisons, maps looked up, a part of a nil slice.
-/
import Derived.Test.YthackdgnkilhnaaGreatDoorAl3d
import Derived.MapKept
import Derived.Laws.StructEq
set_option linter.unusedSimpArgs false
set_option linter.unusedVariables false
namespace Go.AL
open Go.RowKit

def valEq : Value → Value → Bool
  | .int k n, .int k' n' => decide (k = k') && decide (n = n')
  | .bool a, .bool b => decide (a = b)
  | .string s, .string s' => decide (s = s')
  | .nilIface, .nilIface => true
  | .nilFunc, .nilFunc => true
  | .pointer none, .pointer none => true
  | .map none, .map none => true
  | _, _ => false

theorem valEq_ok {a b : Value} (h : valEq a b = true) : a = b := by
  unfold valEq at h
  split at h <;> simp_all

/-! ### Maps -/
def keyB : TypeDesc → Value → Bool
  | .bool, .bool _ => true
  | .int k, .int k' _ => decide (k' = k)
  | .string, .string _ => true
  | _, _ => false

theorem keyB_ok {d : TypeDesc} {v : Value} (h : keyB d v = true) : MapKept.IsKey d v := by
  unfold keyB at h
  split at h
  · trivial
  · rename_i k k' n
    exact (of_decide_eq_true h : k' = k)
  · trivial
  · cases h

def mget (k : Value) : List (Value × PV) → Nat → Option (Nat × PV)
  | [], _ => none
  | x :: xs, i => if valEq k x.1 then some (i, x.2) else mget k xs (i + 1)

theorem sameNow_valEq {d : TypeDesc} {a b : Value} (ha : MapKept.IsKey d a) (hb : MapKept.IsKey d b) : Instr.sameNow d a b = some (valEq a b) := by
  cases d <;> cases a <;> cases b <;> simp_all [MapKept.IsKey, Instr.sameNow, valEq]
  · rw [Bool.eq_iff_iff]; simp
  · rw [Bool.eq_iff_iff, beq_iff_eq, decide_eq_true_iff]
  · rw [Bool.eq_iff_iff, MapKept.bytes_beq, decide_eq_true_iff]

theorem findNow_mget {d : TypeDesc} {k : Value} (hk : MapKept.IsKey d k) : ∀ (es : List (Value × PV)) (l : List MapEntry) (i : Nat), l.length = es.length → (∀ (j : Nat) (e : MapEntry) (q : Value × PV), l[j]? = some e → es[j]? = some q → e.key = q.1) →
    (∀ q ∈ es, keyB d q.1 = true) →
    (mget k es i = none ∧ Instr.findNow d k l i = some none ∧ ∀ q ∈ es, valEq k q.1 = false) ∨ ∃ (j : Nat) (q : Value × PV) (e : MapEntry), mget k es i = some (i + j, q.2) ∧ es[j]? = some q ∧ l[j]? = some e ∧ Instr.findNow d k l i = some (some (i + j, e.val)) ∧ e.key = k := by
  intro es
  induction es with
  | nil =>
    intro l i hl _ _
    have : l = [] := List.eq_nil_of_length_eq_zero (by simpa using hl)
    subst this
    exact .inl ⟨rfl, rfl, by simp⟩
  | cons q es ih =>
    intro l i hl hk' hd
    cases l with
    | nil => simp at hl
    | cons e l =>
      have h0 := hk' 0 e q rfl rfl
      have hs := sameNow_valEq hk (keyB_ok (hd q (List.mem_cons_self ..)))
      rw [← h0] at hs
      simp only [mget, Instr.findNow, hs]
      cases hv : valEq k e.key with
      | true =>
        refine .inr ⟨0, q, e, ?_, rfl, rfl, rfl, (valEq_ok hv).symm⟩
        rw [← h0, hv]; rfl
      | false =>
        rw [← h0, hv]
        simp only [Bool.false_eq_true, if_false]
        rcases ih l (i + 1) (by simpa using hl) (fun j e q h1 h2 => hk' (j + 1) e q (by simpa using h1) (by simpa using h2)) (fun q hq => hd q (List.mem_cons_of_mem _ hq)) with ⟨a, b, c⟩ | ⟨j, q', e', a, b, c, d', f⟩
        · refine .inl ⟨a, b, fun q' hq' => ?_⟩
          rcases List.mem_cons.1 hq' with rfl | hq'
          · rw [← h0]; exact hv
          · exact c q' hq'
        · exact .inr ⟨j + 1, q', e', by rw [a]; congr 2; omega, by simpa using b, by simpa using c, by rw [d']; congr 3; omega, f⟩

/-- A map's types: the keys' type and its form, the elements' type. -/
def tmap (P : Program) (t : TypeId) : Option (TypeId × TypeDesc × TypeId) := match P.underlying t with
  | some (.map k e) => (P.underlying k).map fun d => (k, d, e)
  | _ => none

theorem tmap_inv {P : Program} {t k e : TypeId} {d : TypeDesc} (h : tmap P t = some (k, d, e)) : P.underlying t = some (.map k e) ∧ P.underlying k = some d := by
  unfold tmap at h
  split at h
  · rename_i k' e' hu
    cases hd : P.underlying k' with
    | none => rw [hd] at h; cases h
    | some d' => rw [hd] at h; cases h; exact ⟨hu, hd⟩
  · cases h

def mapEs (h : Heap) : PV → Option (List (Value × PV))
  | .mp r => match h[r]? with
    | some (.map es) => some es
    | _ => none
  | .sc (.map none) => some []
  | _ => none

def alookup {α : Type} [CK α] (P : Program) (h : Heap) (t : TypeId) (ok : Bool) (m : PV) : PV → Option (PV × α)
  | .sc kv => match tmap P t with
    | some (_, d, e) => match mapEs h m, (P.info? e).bind (·.zero) with
      | some es, some z => if keyB d kv && es.all (fun x => keyB d x.1) then
          match mget kv es 0 with
          | some (_, p) => some (if ok then .tup [p, .sc (.bool true)] else p, CK.cnd True)
          | none => some (if ok then .tup [ofC z, .sc (.bool false)] else ofC z, CK.cnd True)
        else none
      | _, _ => none
    | none => none
  | _ => none

section
variable {P : Program} {S : St}

theorem run_zero0 {t : TypeId} {z : Value} (h : (P.info? t).bind (·.zero) = some z) (w : World) : (zeroValue t).run P w = .ok z w := by
  cases hi : P.info? t with
  | none => rw [hi] at h; cases h
  | some i =>
    rw [hi] at h
    simp only [Option.bind_some] at h
    simp [zeroValue, typeInfo, hi, h]

theorem alookup_ok (hS : SRel S) {t : TypeId} {ok : Bool} {m k p : PV} {c : Prop} {u v : Value} (he : alookup P S.h t ok m k = some (p, c)) (hu : VRel S m u) (hv : VRel S k v) :
    ∃ z, (Instr.lookup t u v ok).run P S.w = .ok z S.w ∧ VRel S p z := by
  unfold alookup at he
  split at he
  case h_2 => cases he
  rename_i kv
  have hkv : v = kv := by cases hv; rfl
  subst hkv
  split at he
  case h_2 => cases he
  rename_i kt d e ht
  obtain ⟨h1, h2⟩ := tmap_inv ht
  split at he
  case h_2 => cases he
  rename_i es z hes hz
  split at he
  case isFalse => cases he
  rename_i hkb
  rw [Bool.and_eq_true, List.all_eq_true] at hkb
  have fin : ∀ (l : List MapEntry) (x : Value), (x = .map none ∧ l = [] ∨ ∃ b cl ar, x = .map (some b) ∧ S.w.heap[b]? = some (.map ar cl) ∧ ar.toList = l) → u = x → l.length = es.length →
      (∀ (j : Nat) (e : MapEntry) (q : Value × PV), l[j]? = some e → es[j]? = some q → e.key = q.1 ∧ VRel S q.2 e.val) → ∃ z, (Instr.lookup t u v ok).run P S.w = .ok z S.w ∧ VRel S p z := by
    rintro l x hx rfl hl hrel
    have run : ∀ r, Instr.findNow d v l 0 = some r → (Instr.lookup t u v ok).run P S.w = (match r with
        | some (_, y) => .ok (if ok then .tuple #[y, .bool true] else y) S.w
        | none => .ok (if ok then .tuple #[z, .bool false] else z) S.w) := by
      intro r hr
      rcases hx with ⟨rfl, rfl⟩ | ⟨b, cl, ar, rfl, hb, rfl⟩
      · simp only [Instr.lookup, Sem.run_bind, run_underlying h1, Result.andThen_ok, Sem.run_pure, MapKept.run_checkKey h2 (keyB_ok hkb.1) _ 9999, MapKept.run_findKey h2 hr]
        cases r with
        | none => simp [run_zero0 hz, Result.andThen]
        | some y => simp [Result.andThen]
      · simp only [Instr.lookup, Sem.run_bind, run_underlying h1, Result.andThen_ok, Sem.run_pure, MapKept.run_getObj_map hb, MapKept.run_checkKey h2 (keyB_ok hkb.1) _ 9999, MapKept.run_findKey h2 hr]
        cases r with
        | none => simp [run_zero0 hz, Result.andThen]
        | some y => simp [Result.andThen]
    rcases findNow_mget (keyB_ok hkb.1) es l 0 hl (fun j e q a b => (hrel j e q a b).1) (fun q hq => hkb.2 q hq) with ⟨a, b, _⟩ | ⟨j, q, e', a, b, c', d', _⟩
    · rw [a] at he
      refine ⟨_, run _ b, ?_⟩
      simp only [Option.some.injEq, Prod.mk.injEq] at he
      obtain ⟨rfl, _⟩ := he
      cases ok
      · exact ofC_rel S z
      · refine .tup rfl fun i p y hp hy => ?_
        match i with
        | 0 => simp at hp hy; subst hp; subst hy; exact ofC_rel S z
        | 1 => simp at hp hy; subst hp; subst hy; exact .sc trivial
        | i + 2 => simp at hp
    · rw [a] at he
      refine ⟨_, run _ d', ?_⟩
      simp only [Option.some.injEq, Prod.mk.injEq] at he
      obtain ⟨rfl, _⟩ := he
      have hq := (hrel j e' q c' b).2
      cases ok
      · exact hq
      · refine .tup rfl fun i p y hp hy => ?_
        match i with
        | 0 => simp at hp hy; subst hp; subst hy; exact hq
        | 1 => simp at hp hy; subst hp; subst hy; exact .sc trivial
        | i + 2 => simp at hp
  unfold mapEs at hes
  split at hes
  · rename_i r
    split at hes
    · rename_i es' hb
      cases hes
      cases hu with
      | mp hp hb' =>
        obtain ⟨b', cl, ar, he', hh, hsz, _, hrel⟩ := hS.blks r _ _ hb hp
        cases he'
        exact fin ar.toList _ (.inr ⟨_, cl, ar, rfl, hh, rfl⟩) rfl (by simpa using hsz) (fun j e q hj hq => hrel j e q (by simpa using hj) hq)
    · cases hes
  · cases hes
    cases hu
    exact fin [] _ (.inl ⟨rfl, rfl⟩) rfl rfl (by simp)
  · cases hes

/-! ### Comparisons -/

/-- A part of an aggregate. -/
def apart (P : Program) (t : TypeId) (cs : List PV) (off : Nat) : Option PV :=
  match tsize P t, tagg P t with
  | some s, some true => if off + s ≤ cs.length then some (.agg ((cs.drop off).take s)) else none
  | some _, some false => if off < cs.length then some (cs.getD off .un) else none
  | _, _ => none

def aeqF (P : Program) (r : TypeId → PV → PV → Option Bool) : List Field → List PV → List PV → Option Bool
  | [], _, _ => some true
  | f :: fs, xs, ys => if f.name = "_" then none else match apart P f.type xs f.offset, apart P f.type ys f.offset with
    | some p, some q => match r f.type p q, aeqF P r fs xs ys with
      | some b, some b' => some (b && b')
      | _, _ => none
    | _, _ => none

def aeqp (P : Program) : Nat → TypeId → PV → PV → Option Bool
  | 0, _, _, _ => none
  | n + 1, t, p, q => match P.underlying t, p, q with
    | some .bool, .sc (.bool a), .sc (.bool b) => some (a == b)
    | some (.int _), .sc (.int k a), .sc (.int k' b) => if k = k' then some (a == b) else none
    | some .string, .sc (.string a), .sc (.string b) => some (decide (a = b))
    | some (.struct fs), .agg xs, .agg ys => if P.stoodInHeld t then none else aeqF P (aeqp P n) fs.toList xs ys
    | _, _, _ => none

theorem apart_ok {t : TypeId} {cs : List PV} {vs : Array Value} {off : Nat} {p : PV} (hl : vs.size = cs.length) (h1 : ∀ (i : Nat) (u : Value), vs[i]? = some u → u.oneCell' = true)
    (h : ∀ (i : Nat) (p : PV) (u : Value), cs[i]? = some p → vs[i]? = some u → VRel S p u) (he : apart P t cs off = some p) : ∃ v, (part t vs off).run P S.w = .ok v S.w ∧ VRel S p v := by
  unfold apart at he
  split at he
  · rename_i s hs hg
    split at he
    · rename_i hle
      cases he
      exact part_ok (c := off + s ≤ cs.length) hl h1 h (by rw [hs, hg]) hle
    · cases he
  · rename_i s hs hg
    split at he
    · rename_i hle
      cases he
      exact part_ok (c := off < cs.length) hl h1 h (by rw [hs, hg]) hle
    · cases he
  · cases he

theorem aeqp_ok : ∀ (n : Nat) (t : TypeId) (p q : PV) (b : Bool) (x y : Value) (m : Nat), aeqp P n t p q = some b → n ≤ m → VRel S p x → VRel S q y → (Op.equalIn m t x y).run P S.w = .ok b S.w := by
  intro n
  induction n with
  | zero => intro t p q b x y m h; cases h
  | succ n ih =>
    intro t p q b x y m h hm hx hy
    obtain ⟨m, rfl⟩ : ∃ m', m = m' + 1 := ⟨m - 1, by omega⟩
    simp only [aeqp] at h
    split at h
    · rename_i a c hu
      cases h; cases hx; cases hy
      exact run_equalIn_bool' S.w m t a c hu
    · rename_i kk k a k' c hu
      split at h
      · rename_i hk
        subst hk
        cases h; cases hx; cases hy
        exact run_equalIn_int S.w m t k kk a c hu
      · cases h
    · rename_i a c hu
      cases h; cases hx; cases hy
      rw [run_equalIn_string S.w m t a c hu, toList_beq]
    · rename_i fs xs ys hu
      split at h
      · cases h
      · rename_i hst
        have hf : P.fieldsOf t = fs := by simp [Program.fieldsOf, hu]
        cases hx with | agg hxl hx1 hxr =>
        cases hy with | agg hyl hy1 hyr =>
        rename_i us vs
        rw [run_equalIn_struct S.w m t us vs (by rw [hf]; exact hu) (by simpa using hst), hf]
        generalize fs.toList = fl at h
        clear hu hf
        induction fl generalizing b with
        | nil => cases h; rfl
        | cons f fl ihf =>
          simp only [aeqF] at h
          split at h
          · cases h
          · rename_i hn
            split at h
            · rename_i p' q' hp' hq'
              split at h
              · rename_i b1 b2 hb1 hb2
                cases h
                obtain ⟨x', hx', rx⟩ := apart_ok hxl hx1 hxr hp'
                obtain ⟨y', hy', ry⟩ := apart_ok hyl hy1 hyr hq'
                have := ih f.type p' q' b1 x' y' m hb1 (by omega) rx ry
                simp only [Op.eqFields, hn, ne_eq, not_false_eq_true, if_true, Sem.run_bind, hx', hy', this, Result.andThen_ok]
                cases b1 with
                | true => simpa using ihf b2 hb2
                | false => simp
              · cases h
            · cases h
    · cases h

def tptr (P : Program) (t : TypeId) : Bool := match P.underlying t with | some (.pointer _) => true | _ => false
def tfunc (P : Program) (t : TypeId) : Bool := match P.underlying t with | some (.func ..) => true | _ => false
def tmapB (P : Program) (t : TypeId) : Bool := match P.underlying t with | some (.map ..) => true | _ => false
def tifc (P : Program) (t : TypeId) : Bool := match P.underlying t with | some (.interface _) => true | _ => false

/-- Equal or not, and on what condition that is known. -/
def aeqv {α : Type} [CK α] (P : Program) (t : TypeId) (p q : PV) : Option (Bool × α) :=
  match p, q with
  | .nil, .nil => if (telem P t).isSome then some (true, CK.cnd True) else none
  | .ts _ els, .nil => if (telem P t).isSome then some (false, CK.cnd (0 < els.length)) else none
  | .tc _ els, .nil => if (telem P t).isSome then some (false, CK.cnd (0 < els.length)) else none
  | .vec _ _ els, .nil => if (telem P t).isSome then some (false, CK.cnd (0 < els.length)) else none
  | .ms .., .nil => if (telem P t).isSome then some (false, CK.cnd True) else none
  | .ptr .., .sc (.pointer none) => if tptr P t then some (false, CK.cnd True) else none
  | .tp .., .sc (.pointer none) => if tptr P t then some (false, CK.cnd True) else none
  | .sc (.pointer none), .sc (.pointer none) => if tptr P t then some (true, CK.cnd True) else none
  | .fn .., .sc .nilFunc => if tfunc P t then some (false, CK.cnd True) else none
  | .sc .nilFunc, .sc .nilFunc => if tfunc P t then some (true, CK.cnd True) else none
  | .mp .., .sc (.map none) => if tmapB P t then some (false, CK.cnd True) else none
  | .sc (.map none), .sc (.map none) => if tmapB P t then some (true, CK.cnd True) else none
  | .ifc .., .sc .nilIface => if tifc P t then some (false, CK.cnd True) else none
  | .agg xs, .agg ys => if P.eqGuardType P.depth t then none else (aeqp P 20 t (.agg xs) (.agg ys)).map fun b => (b, CK.cnd True)
  | _, _ => none

theorem run_equal_of {t : TypeId} {x y : Value} {b : Bool} (h : (Op.equalIn 10000 t x y).run P S.w = .ok b S.w) (h1 : ∀ k a, x ≠ .int k a) (h2 : ∀ k a, x ≠ .float k a) (h3 : ∀ k a a', x ≠ .complex k a a') (h4 : ∀ a, x ≠ .string a) :
    (binOp .eql t x y).run P S.w = .ok (.bool b) S.w ∧ (binOp .neq t x y).run P S.w = .ok (.bool !b) S.w := by
  have e1 : (Op.equal t x y).run P S.w = .ok b S.w := h
  cases x <;> first
    | exact absurd rfl (h1 _ _)
    | exact absurd rfl (h2 _ _)
    | exact absurd rfl (h3 _ _ _)
    | exact absurd rfl (h4 _)
    | exact ⟨by simp only [binOp, Sem.run_bind, e1, Result.andThen_ok, Sem.run_pure], by simp only [binOp, Sem.run_bind, e1, Result.andThen_ok, Sem.run_pure]⟩

theorem run_guard_of {op : BinOp} {t : TypeId} {x y : Operand} {u v : Value} (h1 : ∀ vs, u ≠ .agg vs) (h2 : v ≠ .nilIface ∨ u ≠ .nilIface) : (eqGuard op t x y u v).run P S.w = .ok () S.w := by
  cases op <;> first
    | rfl
    | (cases u <;> first
        | exact absurd rfl (h1 _)
        | rfl
        | (cases v <;> first
            | rfl
            | (rcases h2 with h2 | h2 <;> exact absurd rfl h2)))

theorem aeqv_ok {t : TypeId} {p q : PV} {b : Bool} {c : Prop} {x y : Operand} {u v : Value} (he : aeqv P t p q = some (b, c)) (hc : c) (hu : VRel S p u) (hv : VRel S q v) :
    ((do eqGuard .eql t x y u v; binOp .eql t u v : Sem Value)).run P S.w = .ok (.bool b) S.w ∧ ((do eqGuard .neq t x y u v; binOp .neq t u v : Sem Value)).run P S.w = .ok (.bool !b) S.w := by
  have tsl : (telem P t).isSome = true → ∃ e, P.underlying t = some (.slice e) := fun h => by
    obtain ⟨e, he⟩ := Option.isSome_iff_exists.1 h
    exact ⟨e, telem_inv he⟩
  have fin : (∀ d, (Op.equalIn (d + 1) t u v).run P S.w = .ok b S.w) → (∀ k a, u ≠ .int k a) → (∀ k a, u ≠ .float k a) → (∀ k a a', u ≠ .complex k a a') → (∀ a, u ≠ .string a) → (∀ vs, u ≠ .agg vs) → (v ≠ .nilIface ∨ u ≠ .nilIface) →
      ((do eqGuard .eql t x y u v; binOp .eql t u v : Sem Value)).run P S.w = .ok (.bool b) S.w ∧ ((do eqGuard .neq t x y u v; binOp .neq t u v : Sem Value)).run P S.w = .ok (.bool !b) S.w := by
    intro h a1 a2 a3 a4 a5 a6
    obtain ⟨e1, e2⟩ := run_equal_of (P := P) (S := S) (t := t) (h 9999) a1 a2 a3 a4
    simp only [Sem.run_bind, run_guard_of a5 a6, Result.andThen_ok, e1, e2, and_self]
  -- both sides are slices
  have sl : ∀ (a a' : Option Addr) (n m n' m' : Nat), (telem P t).isSome = true → u = .slice a n m → v = .slice a' n' m' → a' = none → b = a.isNone →
      ((do eqGuard .eql t x y u v; binOp .eql t u v : Sem Value)).run P S.w = .ok (.bool b) S.w ∧ ((do eqGuard .neq t x y u v; binOp .neq t u v : Sem Value)).run P S.w = .ok (.bool !b) S.w := by
    rintro a a' n m n' m' ht rfl rfl rfl rfl
    obtain ⟨e, hte⟩ := tsl ht
    refine fin (fun d => ?_) (by simp) (by simp) (by simp) (by simp) (by simp) (.inl (by simp))
    cases a <;> simp only [Op.equalIn, Sem.run_bind, run_underlying hte, Result.andThen_ok, Sem.run_pure, Option.isNone]
  have tsu : ∀ {k : Nat} {els : List (List PV)} {z : Value}, VRel S (.ts k els) z → 0 < els.length → ∃ a n m, z = .slice (some a) n m := by
    intro k els z h hl
    cases h with
    | ts hl' hc hm hk ad ha val hv h => exact ⟨ad, _, _, by rw [ha (by omega)]⟩
  unfold aeqv at he
  split at he
  · split at he
    · rename_i ht; cases he; cases hu; cases hv; exact sl _ _ _ _ _ _ ht rfl rfl rfl rfl
    · cases he
  · split at he
    · rename_i ht; cases he; cases hv; obtain ⟨a, n, m, rfl⟩ := tsu hu hc; exact sl _ _ _ _ _ _ ht rfl rfl rfl rfl
    · cases he
  · split at he
    · rename_i ht; cases he; cases hv; cases hu with | tc hu => obtain ⟨a, n, m, h⟩ := tsu hu hc; exact sl _ _ _ _ _ _ ht h rfl rfl rfl
    · cases he
  · split at he
    · rename_i ht; cases he; cases hv; cases hu with | vec hu => obtain ⟨a, n, m, h⟩ := tsu hu hc; exact sl _ _ _ _ _ _ ht h rfl rfl rfl
    · cases he
  · split at he
    · rename_i ht; cases he; cases hv; cases hu <;> exact sl _ _ _ _ _ _ ht rfl rfl rfl rfl
    · cases he
  · split at he
    · rename_i ht
      cases he; cases hv
      unfold tptr at ht
      split at ht
      · rename_i e hu'; cases hu <;> exact fin (fun d => by simp only [Op.equalIn, Sem.run_bind, run_underlying hu', Result.andThen_ok, Sem.run_pure, Option.isNone]) (by simp) (by simp) (by simp) (by simp) (by simp) (.inr (by simp))
      · cases ht
    · cases he
  · split at he
    · rename_i ht
      cases he; cases hv
      unfold tptr at ht
      split at ht
      · rename_i e hu'; cases hu with | tp => exact fin (fun d => by simp only [Op.equalIn, Sem.run_bind, run_underlying hu', Result.andThen_ok, Sem.run_pure, Option.isNone]) (by simp) (by simp) (by simp) (by simp) (by simp) (.inr (by simp))
      · cases ht
    · cases he
  · split at he
    · rename_i ht
      cases he; cases hv; cases hu
      unfold tptr at ht
      split at ht
      · rename_i e hu'; exact fin (fun d => by simp only [Op.equalIn, Sem.run_bind, run_underlying hu', Result.andThen_ok, Sem.run_pure, Option.isNone]) (by simp) (by simp) (by simp) (by simp) (by simp) (.inr (by simp))
      · cases ht
    · cases he
  · split at he
    · rename_i ht
      cases he; cases hv
      unfold tfunc at ht
      split at ht
      · rename_i hu'; cases hu with | fn => exact fin (fun d => by simp only [Op.equalIn, Sem.run_bind, run_underlying hu', Result.andThen_ok, Sem.run_pure, Option.isNone]) (by simp) (by simp) (by simp) (by simp) (by simp) (.inr (by simp))
      · cases ht
    · cases he
  · split at he
    · rename_i ht
      cases he; cases hv; cases hu
      unfold tfunc at ht
      split at ht
      · rename_i hu'; exact fin (fun d => by simp only [Op.equalIn, Sem.run_bind, run_underlying hu', Result.andThen_ok, Sem.run_pure, Option.isNone]) (by simp) (by simp) (by simp) (by simp) (by simp) (.inr (by simp))
      · cases ht
    · cases he
  · split at he
    · rename_i ht
      cases he; cases hv
      unfold tmapB at ht
      split at ht
      · rename_i hu'; cases hu with | mp => exact fin (fun d => by simp only [Op.equalIn, Sem.run_bind, run_underlying hu', Result.andThen_ok, Sem.run_pure, Option.isNone]) (by simp) (by simp) (by simp) (by simp) (by simp) (.inr (by simp))
      · cases ht
    · cases he
  · split at he
    · rename_i ht
      cases he; cases hv; cases hu
      unfold tmapB at ht
      split at ht
      · rename_i hu'; exact fin (fun d => by simp only [Op.equalIn, Sem.run_bind, run_underlying hu', Result.andThen_ok, Sem.run_pure, Option.isNone]) (by simp) (by simp) (by simp) (by simp) (by simp) (.inr (by simp))
      · cases ht
    · cases he
  · split at he
    · rename_i ht
      cases he; cases hv
      unfold tifc at ht
      split at ht
      · rename_i hu'; cases hu with | ifc => exact fin (fun d => by simp only [Op.equalIn, Sem.run_bind, run_underlying hu', Result.andThen_ok, Sem.run_pure, Option.isNone]) (by simp) (by simp) (by simp) (by simp) (by simp) (.inr (by simp))
      · cases ht
    · cases he
  · rename_i xs ys
    split at he
    · cases he
    · rename_i hg
      cases hq : aeqp P 20 t (.agg xs) (.agg ys) with
      | none => rw [hq] at he; cases he
      | some b' =>
        rw [hq] at he
        cases he
        have h1 := aeqp_ok 20 t _ _ _ u v 10000 hq (by omega) hu hv
        cases hu with | agg =>
        cases hv with | agg =>
        have hg' : P.eqGuardType P.depth t = false := by simpa using hg
        simp only [Sem.run_bind, run_eqGuard_agg S.w _ t _ _ _ _ hg', Result.andThen_ok, run_eql_struct, run_neq_struct, h1, and_self]
  · cases he
end
end Go.AL
