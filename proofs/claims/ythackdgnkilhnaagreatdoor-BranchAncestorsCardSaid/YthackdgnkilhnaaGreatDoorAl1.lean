/-
  Plain values for memory: a value of the run is told by a tree ('PV'), the blocks that a call owns by a short list ('Blk'); what lies elsewhere stands still.
-/
import Derived.WalkKit
import Derived.RangeFuncNested
import Derived.RangeFuncLeaves
set_option linter.unusedSimpArgs false
set_option linter.unusedVariables false
namespace Go.AL
open Go.RowKit

/-- What is known of a value. -/
inductive PV where
  | un
  | ud
  | sc (v : Value)
  | nil
  | agg (cs : List PV)
  | tup (vs : List PV)
  | ts (k : Nat) (els : List (List PV))
  | tc (k : Nat) (els : List (List PV))
  | vec (r k : Nat) (els : List (List PV))
  | ms (r off k len : Nat)
  | ptr (r off : Nat)
  | tp (cs : List PV)
  | fn (f : Fn) (fst cap : List PV)
  | ifc (t : TypeId) (v : PV)
  | mp (r : Nat)
  | yl (r : Nat)
  deriving Inhabited

/-- A block that the call may write. -/
inductive Blk where
  | var (t : TypeId) (cs : List PV)
  | vec (e : TypeId) (k n : Nat)
  | map (es : List (Value × PV))
  | loop (ts : List PV) (ps : List Tmp) (assign body : Code) (st : LoopState) (pend : Option Code)
  | non
  | old
  deriving Inhabited

abbrev Heap := List Blk

/-- 'x': cells that are another's: they may turn later, and this call does not turn them. -/
structure St where
  φ : List Value
  h : Heap
  w : World
  x : Addr → Prop

def blk : Value → Option Nat
  | .pointer (some a) => some a.block
  | .slice (some a) _ _ => some a.block
  | .map r => r
  | _ => none

/-- A scalar that fits its kind. -/
def okSc : Value → Prop
  | .int k n => k.min ≤ n ∧ n ≤ k.max
  | .string s => s.size ≤ maxLen
  | .bool _ => True
  | .nilIface => True
  | .nilFunc => True
  | .pointer none => True
  | .map none => True
  | _ => False

/-- No later step of this call turns this cell. -/
def St.Stable (S : St) (a : Addr) : Prop :=
  a.spot = none ∧ a.block < S.w.heap.size ∧ ¬ S.x a ∧ ∀ (r : Nat) (v : Value), S.φ[r]? = some v → blk v = some a.block → ∃ e k n, S.h[r]? = some (.vec e k n) ∧ a.off < n * k

/-- A row that lies in memory has at least so many cells. -/
def St.Row (S : St) (b m : Nat) : Prop := ∃ (arr : Array Value) (t : TypeId) (f : Nat × Nat), S.w.heap[b]? = some (.cells arr t f) ∧ m ≤ arr.size

def St.M (S : St) (a : Addr) (v : Value) : Prop := S.w.cell? a = some v ∧ v.oneCell' = true ∧ S.Stable a

inductive VRel (S : St) : PV → Value → Prop
  | un {v : Value} : VRel S .un v
  | ud : VRel S .ud undef
  | sc {v : Value} (h : okSc v) : VRel S (.sc v) v
  | nil : VRel S .nil (.slice none 0 0)
  | agg {cs : List PV} {vs : Array Value} (hl : vs.size = cs.length) (h1 : ∀ (i : Nat) (v : Value), vs[i]? = some v → v.oneCell' = true)
      (h : ∀ (i : Nat) (p : PV) (v : Value), cs[i]? = some p → vs[i]? = some v → VRel S p v) : VRel S (.agg cs) (.agg vs)
  | tup {cs : List PV} {vs : Array Value} (hl : vs.size = cs.length)
      (h : ∀ (i : Nat) (p : PV) (v : Value), cs[i]? = some p → vs[i]? = some v → VRel S p v) : VRel S (.tup cs) (.tuple vs)
  | ts {k n c : Nat} {els : List (List PV)} {a : Option Addr} (hl : els.length = n) (hc : n ≤ c) (hm : c ≤ maxLen)
      (hk : ∀ (i : Nat) (e : List PV), els[i]? = some e → e.length = k) (ad : Addr) (ha : n ≠ 0 → a = some ad) (val : Nat → Value)
      (hv : ∀ j, j < n * k → S.M (ad.add j) (val j))
      (h : ∀ (i : Nat) (e : List PV) (j : Nat) (p : PV), els[i]? = some e → e[j]? = some p → VRel S p (val (i * k + j))) : VRel S (.ts k els) (.slice a n c)
  | tc {k n : Nat} {els : List (List PV)} {a : Option Addr} (ht : VRel S (.ts k els) (.slice a n n)) : VRel S (.tc k els) (.slice a n n)
  | vec {r k n : Nat} {e : TypeId} {els : List (List PV)} {v : Value} (ht : VRel S (.ts k els) v) (hb : S.h[r]? = some (.vec e k n))
      (hle : els.length ≤ n) (ho : els.length = n → S.φ[r]? = some v) : VRel S (.vec r k els) v
  | ms {r off k len c b : Nat} {t : TypeId} {cs : List PV} (hp : S.φ[r]? = some (.pointer (some ⟨b, 0, none⟩))) (hb : S.h[r]? = some (.var t cs))
      (hl : off + len * k ≤ cs.length) (hc : len ≤ c) (hm : c ≤ maxLen) (hz : S.Row b (off + c * k)) : VRel S (.ms r off k len) (.slice (some ⟨b, off, none⟩) len c)
  | oms {r off k len c : Nat} {a : Addr} (hb : S.h[r]? = some .old) (hc : len ≤ c) (hm : c ≤ maxLen) : VRel S (.ms r off k len) (.slice (some a) len c)
  | ptr {r off b : Nat} {t : TypeId} {cs : List PV} (hp : S.φ[r]? = some (.pointer (some ⟨b, 0, none⟩))) (hb : S.h[r]? = some (.var t cs)) :
      VRel S (.ptr r off) (.pointer (some ⟨b, off, none⟩))
  | optr {r off : Nat} {a : Addr} (hb : S.h[r]? = some .old) : VRel S (.ptr r off) (.pointer (some a))
  | tp {cs : List PV} {a : Addr} (val : Nat → Value) (hv : ∀ j, j < cs.length → S.M (a.add j) (val j))
      (h : ∀ (j : Nat) (p : PV), cs[j]? = some p → VRel S p (val j)) : VRel S (.tp cs) (.pointer (some a))
  | fn {f : Fn} {ps qs : List PV} {us vs : Array Value} (hl : us.size = ps.length) (hl' : vs.size = qs.length)
      (h : ∀ (i : Nat) (p : PV) (v : Value), ps[i]? = some p → us[i]? = some v → VRel S p v)
      (h' : ∀ (i : Nat) (p : PV) (v : Value), qs[i]? = some p → vs[i]? = some v → VRel S p v) : VRel S (.fn f ps qs) (.func f us vs)
  | ifc {t : TypeId} {p : PV} {v : Value} (h : VRel S p v) : VRel S (.ifc t p) (.iface t v)
  | mp {r b : Nat} {es : List (Value × PV)} (hp : S.φ[r]? = some (.map (some b))) (hb : S.h[r]? = some (.map es)) : VRel S (.mp r) (.map (some b))
  | yl {r b : Nat} (hp : S.φ[r]? = some (.pointer (some ⟨b, 0, none⟩))) {ts : List PV} {ps : List Tmp} {assign body : Code} {st : LoopState} {pend : Option Code} (hb : S.h[r]? = some (.loop ts ps assign body st pend)) : VRel S (.yl r) (.func (.yield b) #[] #[])

/-- A block of the list lies in memory as it is told. -/
def BRel (S : St) : Blk → Value → Prop
  | .var t cs, v => ∃ (b : Nat) (arr : Array Value), v = .pointer (some ⟨b, 0, none⟩) ∧ S.w.heap[b]? = some (.cells arr t (0, 0)) ∧ cs.length ≤ arr.size ∧
      (∀ (i : Nat) (u : Value), arr[i]? = some u → u.oneCell' = true) ∧ ∀ (i : Nat) (p : PV) (u : Value), cs[i]? = some p → arr[i]? = some u → VRel S p u
  | .vec e k n, v => (v = .slice none 0 0 ∧ n = 0) ∨ ∃ (b c : Nat) (arr : Array Value), v = .slice (some ⟨b, 0, none⟩) n c ∧ S.w.heap[b]? = some (.cells arr e (0, 0)) ∧
      n ≤ c ∧ c ≤ maxLen ∧ arr.size = c * k
  | .map es, v => ∃ (b clock : Nat) (entries : Array MapEntry), v = .map (some b) ∧ S.w.heap[b]? = some (.map entries clock) ∧ entries.size = es.length ∧
      (∀ (i : Nat) (e : MapEntry), entries[i]? = some e → e.born < clock) ∧
      ∀ (i : Nat) (e : MapEntry) (q : Value × PV), entries[i]? = some e → es[i]? = some q → e.key = q.1 ∧ VRel S q.2 e.val
  | .loop ts ps assign body st pend, v => ∃ (b : Nat) (L : Loop), v = .pointer (some ⟨b, 0, none⟩) ∧ S.w.heap[b]? = some (.loop L) ∧ L.params.toList = ps ∧ L.assign = assign ∧ L.body = body ∧ L.state = st ∧ L.pending = pend ∧
      L.tmps.size = ts.length ∧ ∀ (i : Nat) (p : PV), ts[i]? = some p → VRel S p (L.tmps.getD i undef)
  | .non, v => blk v = none
  | .old, v => blk v = none

structure SRel (S : St) : Prop where
  len : S.φ.length = S.h.length
  blks : ∀ (r : Nat) (b : Blk) (v : Value), S.h[r]? = some b → S.φ[r]? = some v → BRel S b v
  inj : ∀ (r r' : Nat) (v v' : Value) (n : Nat), S.φ[r]? = some v → S.φ[r']? = some v' → blk v = some n → blk v' = some n → r = r'
  xlt : ∀ a, S.x a → a.block < S.w.heap.size
  xown : ∀ a, S.x a → ∀ (r : Nat) (v : Value), S.φ[r]? = some v → blk v ≠ some a.block

/-- How a block may turn. -/
def Blk.le (same : Prop) : Blk → Blk → Prop
  | .var t cs, .var t' cs' => t = t' ∧ cs.length = cs'.length ∧ same
  | .vec e k n, .vec e' k' n' => e = e' ∧ k = k' ∧ n ≤ n' ∧ (n = n' → same)
  | .map _, .map _ => same
  | .loop .., .loop .. => same
  | .non, _ => True
  | .var _ _, .old => True
  | .old, .old => True
  | _, _ => False

def St.Own (S : St) (b : Nat) : Prop := ∃ (r : Nat) (v : Value), S.φ[r]? = some v ∧ blk v = some b

structure Ext (S S' : St) : Prop where
  x : S'.x = S.x
  os : S'.w.os = S.w.os
  tape : S'.w.tape = S.w.tape
  output : S'.w.output = S.w.output
  size : S.w.heap.size ≤ S'.w.heap.size
  unt : ∀ b, b < S.w.heap.size → ¬ S.Own b → ¬ S'.Own b ∧ S'.w.heap[b]? = S.w.heap[b]?
  mem : ∀ a v, S.M a v → S'.M a v
  blks : ∀ (r : Nat) (b : Blk), S.h[r]? = some b → ∃ b', S'.h[r]? = some b' ∧ Blk.le (S'.φ[r]? = S.φ[r]?) b b'
  rows : ∀ b m, S.Row b m → S'.Row b m

theorem Blk.le_refl (b : Blk) {p : Prop} (hp : p) : Blk.le p b b := by cases b <;> simp [Blk.le, hp]

theorem Blk.le_trans {a b c : Blk} {p q r : Prop} (h : Blk.le p a b) (k : Blk.le q b c) (hr : p → q → r) : Blk.le r a c := by
  cases a with
  | non => trivial
  | var t cs =>
    cases b <;> first | exact h.elim | skip
    · cases c <;> first | exact k.elim | trivial | skip
      exact ⟨h.1.trans k.1, h.2.1.trans k.2.1, hr h.2.2 k.2.2⟩
    · cases c <;> first | exact k.elim | trivial
  | vec e k n =>
    cases b <;> first | exact h.elim | skip
    cases c <;> first | exact k.elim | skip
    obtain ⟨h1, h2, h3, h4⟩ := h
    obtain ⟨k1, k2, k3, k4⟩ := k
    exact ⟨h1.trans k1, h2.trans k2, Nat.le_trans h3 k3, fun e => hr (h4 (by omega)) (k4 (by omega))⟩
  | map es =>
    cases b <;> first | exact h.elim | skip
    cases c <;> first | exact k.elim | skip
    exact hr h k
  | loop =>
    cases b <;> first | exact h.elim | skip
    cases c <;> first | exact k.elim | skip
    exact hr h k
  | old =>
    cases b <;> first | exact h.elim | skip
    cases c <;> first | exact k.elim | trivial

theorem Ext.refl (S : St) : Ext S S := ⟨rfl, rfl, rfl, rfl, Nat.le_refl _, fun _ _ h => ⟨h, rfl⟩, fun _ _ h => h, fun _ b h => ⟨b, h, Blk.le_refl b rfl⟩, fun _ _ h => h⟩

theorem Ext.trans {A B C : St} (h : Ext A B) (k : Ext B C) : Ext A C :=
  ⟨k.x.trans h.x, k.os.trans h.os, k.tape.trans h.tape, k.output.trans h.output, Nat.le_trans h.size k.size,
   fun b hb hn => let ⟨h1, h2⟩ := h.unt b hb hn; let ⟨k1, k2⟩ := k.unt b (Nat.lt_of_lt_of_le hb h.size) h1; ⟨k1, k2.trans h2⟩,
   fun a v hm => k.mem a v (h.mem a v hm),
   fun r b hb => by
    obtain ⟨b', hb', hl⟩ := h.blks r b hb
    obtain ⟨b'', hb'', hl'⟩ := k.blks r b' hb'
    exact ⟨b'', hb'', Blk.le_trans hl hl' (fun p q => q.trans p)⟩,
   fun b m hr => k.rows b m (h.rows b m hr)⟩

theorem VRel.ext {S S' : St} {p : PV} {v : Value} (h : VRel S p v) (x : Ext S S') : VRel S' p v := by
  induction h with
  | un => exact .un
  | ud => exact .ud
  | sc h => exact .sc h
  | nil => exact .nil
  | agg hl h1 _ ih => exact .agg hl h1 ih
  | tup hl _ ih => exact .tup hl ih
  | ts hl hc hm hk ad ha val hv _ ih => exact .ts hl hc hm hk ad ha val (fun j hj => x.mem _ _ (hv j hj)) ih
  | tc _ ih => exact .tc ih
  | vec ht hb hle ho ih =>
    obtain ⟨b', hb', hl⟩ := x.blks _ _ hb
    cases b' <;> simp only [Blk.le] at hl
    obtain ⟨rfl, rfl, hn, hs⟩ := hl
    exact .vec ih hb' (by omega) (fun e => by have hq := ho (by omega); rw [hs (by omega)]; exact hq)
  | ms hp hb hl hc hm hz =>
    obtain ⟨b', hb', hl'⟩ := x.blks _ _ hb
    cases b' with
    | var t' cs' =>
      obtain ⟨rfl, hlen, hs⟩ := hl'
      exact .ms (hs.trans hp) hb' (by omega) hc hm (x.rows _ _ hz)
    | old => exact .oms hb' hc hm
    | _ => exact hl'.elim
  | oms hb hc hm =>
    obtain ⟨b', hb', hl'⟩ := x.blks _ _ hb
    cases b' <;> first | exact .oms hb' hc hm | exact hl'.elim
  | ptr hp hb =>
    obtain ⟨b', hb', hl'⟩ := x.blks _ _ hb
    cases b' with
    | var t' cs' => exact .ptr (hl'.2.2.trans hp) hb'
    | old => exact .optr hb'
    | _ => exact hl'.elim
  | optr hb =>
    obtain ⟨b', hb', hl'⟩ := x.blks _ _ hb
    cases b' <;> first | exact .optr hb' | exact hl'.elim
  | tp val hv _ ih => exact .tp val (fun j hj => x.mem _ _ (hv j hj)) ih
  | fn hl hl' _ _ ih ih' => exact .fn hl hl' ih ih'
  | ifc _ ih => exact .ifc ih
  | mp hp hb =>
    obtain ⟨b', hb', hl'⟩ := x.blks _ _ hb
    cases b' <;> simp only [Blk.le] at hl'
    exact .mp (hl'.trans hp) hb'
  | yl hp hb =>
    obtain ⟨b', hb', hl'⟩ := x.blks _ _ hb
    cases b' <;> simp only [Blk.le] at hl'
    exact .yl (hl'.trans hp) hb'

end Go.AL
