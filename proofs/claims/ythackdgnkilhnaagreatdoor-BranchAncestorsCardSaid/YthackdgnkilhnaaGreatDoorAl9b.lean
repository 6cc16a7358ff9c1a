/-
  More operations that turn memory: a map's entries, the bytes of a string.
-/
import Derived.Test.YthackdgnkilhnaaGreatDoorAl11
import Derived.Laws.IdiomStrings
set_option linter.unusedSimpArgs false
set_option linter.unusedVariables false
namespace Go.AL
open Go.RowKit

def mset (k : Value) (v : PV) (es : List (Value × PV)) : List (Value × PV) :=
  match mget k es 0 with
  | some (i, _) => es.set i (k, v)
  | none => es ++ [(k, v)]

def bytesPV (s : ByteArray) : List (List PV) := s.data.toList.map fun c => [.sc (.int .u8 c.toNat)]

def beff (P : Program) (h : Heap) (f : Operand → PV) : Op → Option (PV × Heap)
  | .mapUpdate t m k x | .insert t m k x => match f m, f k, tmap P t with
    | .mp r, .sc kv, some (_, d, _) => match h[r]? with
      | some (.map es) => if keyB d kv && es.all (fun x => keyB d x.1) then some (.ud, h.set r (.map (mset kv (f x) es))) else none
      | _ => none
    | _, _, _ => none
  | .convert s d x => match f x, telem P d with
    | .sc (.string b), some e => if tint P e = some .u8 ∧ tstr P s = true then some (.ts 1 (bytesPV b), h) else none
    | _, _ => none
  | _ => none

section
variable {P : Program} {S : St}

/-- A map's entries are written. -/
theorem ext_map (hS : SRel S) {r b : Nat} {es es' : List (Value × PV)} (hp : S.φ[r]? = some (.map (some b))) (hb : S.h[r]? = some (.map es))
    {w' : World} (ho : w'.os = S.w.os) (ht : w'.tape = S.w.tape) (hu : w'.output = S.w.output) (hs : w'.heap.size = S.w.heap.size) (hw : ∀ k, k ≠ b → w'.heap[k]? = S.w.heap[k]?) (hz : ∀ b m, S.Row b m → St.Row { S with w := w' } b m) :
    Ext S { S with h := S.h.set r (.map es'), w := w' } := by
  have hr : r < S.h.length := (List.getElem?_eq_some_iff.1 hb).1
  have hown : ∀ n, ¬ S.Own n → n ≠ b := fun n hn e => hn ⟨r, _, hp, by subst e; rfl⟩
  refine ⟨rfl, ho, ht, hu, by simp only []; omega, fun n hn hno => ⟨hno, hw n (hown n hno)⟩, fun a v hm => ?_, fun r' c hc => ?_, hz⟩
  · obtain ⟨h1, h2, h3, h4, h5, h6⟩ := hm
    have hab : a.block ≠ b := fun e => by
      obtain ⟨e', k, n, hh, _⟩ := h6 r _ hp (by simp [blk, e])
      rw [hb] at hh
      cases hh
    refine ⟨(World.cell?_of_block (hw _ hab)).trans h1, h2, h3, by simp only []; omega, h5, fun r' v' hp' hv' => ?_⟩
    obtain ⟨e, k, n, hh, hlt⟩ := h6 r' v' hp' hv'
    refine ⟨e, k, n, ?_, hlt⟩
    have : r ≠ r' := fun e => by subst e; rw [hb] at hh; cases hh
    simp only [List.getElem?_set, if_neg this]
    exact hh
  · by_cases e : r = r'
    · subst e
      rw [hb] at hc
      cases hc
      exact ⟨.map es', by simp [hr], by simp [Blk.le]⟩
    · exact ⟨c, by simp only [List.getElem?_set, if_neg e]; exact hc, Blk.le_refl c rfl⟩

theorem srel_map (hS : SRel S) {r b clock : Nat} {es es' : List (Value × PV)} {ar : Array MapEntry} (hp : S.φ[r]? = some (.map (some b))) (hb : S.h[r]? = some (.map es))
    {w' : World} (ho : w'.os = S.w.os) (ht : w'.tape = S.w.tape) (hu : w'.output = S.w.output) (hs : w'.heap.size = S.w.heap.size) (hw : ∀ k, k ≠ b → w'.heap[k]? = S.w.heap[k]?) (hz : ∀ b m, S.Row b m → St.Row { S with w := w' } b m)
    (hnew : w'.heap[b]? = some (.map ar clock)) (hsz : ar.size = es'.length) (h1 : ∀ (i : Nat) (e : MapEntry), ar[i]? = some e → e.born < clock)
    (hv : ∀ (i : Nat) (e : MapEntry) (q : Value × PV), ar[i]? = some e → es'[i]? = some q → e.key = q.1 ∧ VRel S q.2 e.val) :
    SRel { S with h := S.h.set r (.map es'), w := w' } := by
  have x := ext_map (es' := es') hS hp hb ho ht hu hs hw hz
  have hr : r < S.h.length := (List.getElem?_eq_some_iff.1 hb).1
  refine ⟨by simp [hS.len], fun r' c v hc hvv => ?_, hS.inj, fun a ha => by have := hS.xlt a ha; simp only []; omega, hS.xown⟩
  by_cases e : r = r'
  · subst e
    simp only [List.getElem?_set, if_pos hr, ↓reduceIte] at hc
    cases hc
    rw [hp] at hvv
    cases hvv
    exact ⟨b, clock, ar, rfl, hnew, hsz, h1, fun i e q he hq => ⟨(hv i e q he hq).1, (hv i e q he hq).2.ext x⟩⟩
  · simp only [List.getElem?_set, if_neg e] at hc
    refine (hS.blks r' c v hc hvv).ext x fun n hn => hw n fun en => ?_
    subst en
    exact e (hS.inj r r' _ v n hp hvv rfl hn)

theorem mset_ok (hS : SRel S) {t : TypeId} {r : Nat} {kt : TypeId} {d : TypeDesc} {e : TypeId} {es : List (Value × PV)} {kv : Value} {p : PV} {u x : Value} (ht : tmap P t = some (kt, d, e)) (hb : S.h[r]? = some (.map es))
    (hk : keyB d kv = true) (hks : ∀ q ∈ es, keyB d q.1 = true) (hu : VRel S (.mp r) u) (hx : VRel S p x) :
    ∃ w', (Instr.mapUpdate t u kv x).run P S.w = .ok () w' ∧ Ext S { S with h := S.h.set r (.map (mset kv p es)), w := w' } ∧ SRel { S with h := S.h.set r (.map (mset kv p es)), w := w' } := by
  obtain ⟨t1, t2⟩ := tmap_inv ht
  cases hu with | mp hp hb' =>
  rename_i b es0
  obtain ⟨b', clock, ar, he', hh, hsz, hborn, hrel⟩ := hS.blks r _ _ hb hp
  cases he'
  have hlt : b < S.w.heap.size := (Array.getElem?_eq_some_iff.1 hh).1
  have hl : ar.toList.length = es.length := by simpa using hsz
  have hz : ∀ (w' : World), (∀ k, k ≠ b → w'.heap[k]? = S.w.heap[k]?) → ∀ b m, S.Row b m → St.Row { S with w := w' } b m := by
    rintro w' hw b1 m ⟨ar1, t1, f1, hr1, hm1⟩
    refine ⟨ar1, t1, f1, (hw b1 fun e => ?_).trans hr1, hm1⟩
    subst e
    rw [hh] at hr1
    cases hr1
  rcases findNow_mget (keyB_ok hk) es ar.toList 0 hl (fun j e q h1 h2 => (hrel j e q (by simpa using h1) h2).1) hks with ⟨m1, m2, _⟩ | ⟨j, q, e', m1, m2, m3, m4, m5⟩
  · have em : mset kv p es = es ++ [(kv, p)] := by simp [mset, m1]
    rw [em]
    let w' : World := { S.w with heap := S.w.heap.setIfInBounds b (.map (ar.push { key := kv, val := x, born := clock }) (clock + 1)) }
    have hw : ∀ k, k ≠ b → w'.heap[k]? = S.w.heap[k]? := fun k hk => (MapKept.heap_set hh).2 k hk
    refine ⟨w', ?_, ext_map hS hp hb rfl rfl rfl (by simp [w']) hw (hz _ hw), srel_map hS hp hb rfl rfl rfl (by simp [w']) hw (hz _ hw) (MapKept.heap_set hh).1 (by simp [hsz]) (fun i e he => ?_) (fun i e q he hq => ?_)⟩
    · simp [Instr.mapUpdate, run_underlying t1, MapKept.run_getObj_map hh, MapKept.run_checkKey t2 (keyB_ok hk) _ 9999, MapKept.run_findKey t2 m2, MapKept.run_setObj_map _ hh, Result.andThen, w']
    · rw [Array.getElem?_push] at he
      split at he
      · cases he; exact Nat.lt_succ_self _
      · exact Nat.lt_succ_of_lt (hborn i e he)
    · rw [Array.getElem?_push] at he
      split at he
      · rename_i hi
        cases he
        rw [List.getElem?_append, if_neg (by omega), hi, hsz, Nat.sub_self] at hq
        cases hq
        exact ⟨rfl, hx⟩
      · rename_i hi
        have hi' : i < ar.size := (Array.getElem?_eq_some_iff.1 he).1
        rw [List.getElem?_append, if_pos (by omega)] at hq
        exact hrel i e q he hq
  · have hj : ar[j]? = some e' := by simpa using m3
    have em : mset kv p es = es.set j (kv, p) := by simp [mset, m1]
    rw [em]
    let w' : World := { S.w with heap := S.w.heap.setIfInBounds b (.map (ar.modify j fun e => { e with key := kv, val := x }) clock) }
    have hw : ∀ k, k ≠ b → w'.heap[k]? = S.w.heap[k]? := fun k hk => (MapKept.heap_set hh).2 k hk
    have m4' : Instr.findNow d kv ar.toList 0 = some (some (j, e'.val)) := by rw [m4]; simp
    refine ⟨w', ?_, ext_map hS hp hb rfl rfl rfl (by simp [w']) hw (hz _ hw), srel_map hS hp hb rfl rfl rfl (by simp [w']) hw (hz _ hw) (MapKept.heap_set hh).1 (by simp [hsz]) (fun i e he => ?_) (fun i e q he hq => ?_)⟩
    · simp [Instr.mapUpdate, run_underlying t1, MapKept.run_getObj_map hh, MapKept.run_checkKey t2 (keyB_ok hk) _ 9999, MapKept.run_findKey t2 m4', hj, m5, MapKept.run_keyThatStays (keyB_ok hk), MapKept.run_setObj_map _ hh, Result.andThen, w']
    · rw [Array.getElem?_modify] at he
      split at he
      · rename_i hij
        subst hij
        rw [hj] at he
        cases he
        exact hborn _ e' hj
      · exact hborn i e he
    · rw [Array.getElem?_modify] at he
      rw [List.getElem?_set] at hq
      split at he
      · rename_i hij
        subst hij
        rw [hj] at he
        cases he
        rw [if_pos rfl] at hq
        split at hq
        · cases hq; exact ⟨rfl, hx⟩
        · cases hq
      · rename_i hij
        rw [if_neg hij] at hq
        exact hrel i e q he hq

theorem drew_ok (hS : SRel S) : Ext S { S with w := S.w.drew } ∧ SRel { S with w := S.w.drew } :=
  ⟨⟨rfl, rfl, rfl, rfl, Nat.le_refl _, fun _ _ h => ⟨h, rfl⟩, fun _ _ h => h, fun _ b h => ⟨b, h, Blk.le_refl b rfl⟩, fun _ _ h => h⟩,
   ⟨hS.len, fun r b v hb hv => (hS.blks r b v hb hv).ext ⟨rfl, rfl, rfl, rfl, Nat.le_refl _, fun _ _ h => ⟨h, rfl⟩, fun _ _ h => h, fun _ b h => ⟨b, h, Blk.le_refl b rfl⟩, fun _ _ h => h⟩ fun _ _ => rfl, hS.inj, hS.xlt, hS.xown⟩⟩

theorem map_get' {α β : Type} {g : α → β} {l : List α} {i : Nat} {y : β} (h : (l.map g)[i]? = some y) : ∃ x, l[i]? = some x ∧ g x = y := by
  rw [List.getElem?_map] at h
  cases hx : l[i]? with
  | none => rw [hx] at h; cases h
  | some x => rw [hx] at h; cases h; exact ⟨x, rfl, rfl⟩

theorem bytes_ok (hS : SRel S) {s d e : TypeId} {b : ByteArray} (hd : telem P d = some e) (he : tint P e = some .u8) (hs : tstr P s = true) (hb : okSc (.string b)) :
    ∃ v w', (convert s d (.string b)).run P S.w = .ok v w' ∧ Ext S { S with w := w' } ∧ SRel { S with w := w' } ∧ VRel { S with w := w' } (.ts 1 (bytesPV b)) v := by
  have hrun := run_bytes_of_string (P := P) S.w s d e b (tstr_inv hs) (telem_inv hd) (tint_inv he)
  obtain ⟨x1, s1⟩ := drew_ok hS
  let o : Obj := .cells (bytesRow b (grownCap S.w b.size 0 e)) e ((bytesRow b (grownCap S.w b.size 0 e)).size, (bytesRow b (grownCap S.w b.size 0 e)).size + 1)
  have x2 := ext_alloc s1 o
  have s2 := srel_alloc s1 o
  have hlen : b.data.toList.length = b.size := by simp
  have hnew : (S.w.drew.alloc o).heap[S.w.heap.size]? = some o := heap_alloc_new _ _
  refine ⟨_, _, hrun, x1.trans x2, s2, ?_⟩
  refine .ts (by simp [bytesPV]) (grownCap_ge _ _ _ _) (grownCap_le_maxLen _ _ _ _ hb) (fun i e he => ?_) ⟨S.w.heap.size, 0, none⟩ (fun _ => rfl) (fun j => .int .u8 (b.data.toList.getD j 0).toNat) (fun j hj => ?_) (fun i e j p hi hp => ?_)
  · obtain ⟨c, hc, rfl⟩ := map_get' he
    rfl
  · rw [Nat.mul_one] at hj
    have hadd : (⟨S.w.heap.size, 0, none⟩ : Addr).add j = ⟨S.w.heap.size, j, none⟩ := by
      unfold Addr.add; split
      · rename_i h; subst h; rfl
      · simp
    rw [hadd]
    refine ⟨?_, rfl, rfl, ?_, fun hx => ?_, fun r v hv hbv => ?_⟩
    · have hj' : j < b.data.size := hj
      simp only [World.cell?]
      rw [show (S.w.drew.alloc o).heap[S.w.heap.size]? = some o from hnew]
      simp [o, bytesRow, Array.getElem?_append, hj, hj', List.getD_eq_getElem?_getD]
    · show S.w.heap.size < (S.w.drew.alloc o).heap.size
      simp
    · have := hS.xlt _ hx
      exact absurd this (Nat.lt_irrefl _)
    · exact absurd (hS.own_lt ⟨r, v, hv, hbv⟩) (Nat.lt_irrefl _)
  · obtain ⟨c, hc, rfl⟩ := map_get' hi
    cases j with
    | zero =>
      simp only [List.getElem?_cons_zero, Option.some.injEq] at hp
      subst hp
      simp only [Nat.mul_one, Nat.add_zero, List.getD_eq_getElem?_getD, hc, Option.getD_some]
      refine .sc ?_
      have := c.toNat_lt
      have e1 : IntKind.min .u8 = 0 := by decide
      have e2 : IntKind.max .u8 = 255 := by decide
      show IntKind.min .u8 ≤ _ ∧ _ ≤ IntKind.max .u8
      rw [e1, e2]
      omega
    | succ j => simp at hp

theorem beff_ok {ρ : Operand → Value} {f : Operand → PV} {o : Oper} {p : PV} {h' : Heap} (hS : SRel S) (hx : ∀ x ∈ o.op.operands, VRel S (f x) (ρ x)) (he : beff P S.h f o.op = some (p, h')) :
    ∃ w', Ext S { S with h := h', w := w' } ∧ SRel { S with h := h', w := w' } ∧ ((∃ v, (execOp ρ o).run P S.w = .ok (.value v) w' ∧ VRel { S with h := h', w := w' } p v) ∨ ((execOp ρ o).run P S.w = .ok .skip w' ∧ p = .ud)) := by
  have upd : ∀ (t : TypeId) (m k x : Operand), m ∈ o.op.operands → k ∈ o.op.operands → x ∈ o.op.operands → (match f m, f k, tmap P t with
      | .mp r, .sc kv, some (_, d, _) => match S.h[r]? with
        | some (.map es) => if keyB d kv && es.all (fun x => keyB d x.1) then some (PV.ud, S.h.set r (.map (mset kv (f x) es))) else none
        | _ => none
      | _, _, _ => none) = some (p, h') → ∃ w', (Instr.mapUpdate t (ρ m) (ρ k) (ρ x)).run P S.w = .ok () w' ∧ Ext S { S with h := h', w := w' } ∧ SRel { S with h := h', w := w' } ∧ p = .ud := by
    intro t m k x hm hk hxx e
    split at e
    case h_2 => cases e
    rename_i r kv kt d et hfm hfk ht
    split at e
    case h_2 => cases e
    rename_i es hb
    split at e
    case isFalse => cases e
    rename_i hkb
    rw [Bool.and_eq_true, List.all_eq_true] at hkb
    cases e
    have h1 := hx m hm
    have h2 := hx k hk
    rw [hfm] at h1
    rw [hfk] at h2
    have e2 : ρ k = kv := by generalize ρ k = u at h2; cases h2; rfl
    obtain ⟨w', g1, g2, g3⟩ := mset_ok (P := P) hS ht hb hkb.1 hkb.2 h1 (hx x hxx)
    exact ⟨w', by rw [e2]; exact g1, g2, g3, rfl⟩
  unfold execOp
  unfold beff at he
  split at he
  · rename_i t m k x hop
    obtain ⟨w', g1, g2, g3, rfl⟩ := upd t m k x (by rw [hop]; simp [Op.operands]) (by rw [hop]; simp [Op.operands]) (by rw [hop]; simp [Op.operands]) he
    rw [hop]
    exact ⟨w', g2, g3, .inr ⟨by simp only [Sem.run_bind, g1, Result.andThen_ok, Sem.run_pure], rfl⟩⟩
  · rename_i t m k x hop
    obtain ⟨w', g1, g2, g3, rfl⟩ := upd t m k x (by rw [hop]; simp [Op.operands]) (by rw [hop]; simp [Op.operands]) (by rw [hop]; simp [Op.operands]) he
    rw [hop]
    exact ⟨w', g2, g3, .inr ⟨by simp only [Sem.run_bind, g1, Result.andThen_ok, Sem.run_pure], rfl⟩⟩
  · rename_i s d x hop
    split at he
    case h_2 => cases he
    rename_i b e hfx hte
    split at he
    case isFalse => cases he
    rename_i hcond
    cases he
    have h1 := hx x (by rw [hop]; simp [Op.operands])
    rw [hfx] at h1
    have e1 : ρ x = .string b ∧ okSc (.string b) := by generalize ρ x = u at h1; cases h1; exact ⟨rfl, by assumption⟩
    obtain ⟨v, w', g1, g2, g3, g4⟩ := bytes_ok (P := P) hS hte hcond.1 hcond.2 e1.2
    rw [hop]
    exact ⟨w', g2, g3, .inl ⟨v, by simp only [Sem.run_bind, e1.1, g1, Result.andThen_ok, Sem.run_pure], g4⟩⟩
  · cases he

theorem OpOk.of_beff {G : Glob} {rd : Option Nat} {o : Oper} {h h' : Heap} {f : Operand → PV} {p : PV} {R : PV → Heap → Prop} (he : beff P h f o.op = some (p, h')) (hr : R p h') :
    OpOk P G rd o h f R := by
  intro φ w X a K Q hS hG hx hK
  have hd : ∀ c, o.op ≠ .defer c := fun c hop => by rw [hop] at he; simp [beff] at he
  obtain ⟨w', x, hS', hrun⟩ := beff_ok (P := P) (S := ⟨φ, h, w, X⟩) (o := o) (ρ := a.eval) hS hx he
  refine ⟨fun f _ => trivial, ?_⟩
  rw [Oper.semAt_eq _ _ _ hd]
  rcases hrun with ⟨v, hrun, hv⟩ | ⟨hrun, rfl⟩
  · rw [hrun]; exact hK φ h' w' p v x hS' hv hr
  · rw [hrun]; exact hK φ h' w' .ud undef x hS' .ud hr
end
end Go.AL
