/-
  A function's contract out of its body.
-/
import Derived.Test.YthackdgnkilhnaaGreatDoorAl12
set_option linter.unusedSimpArgs false
set_option linter.unusedVariables false
namespace Go.AL
open Go.RowKit

/-- One result. -/
def ares1 {α : Type} [CK α] (P : Program) (ts : List PV) (h : Heap) : ResultVar → Option (PV × α)
  | .tmp t => some (ts.getD t .un, CK.cnd True)
  | .cell a t => match ts.getD a .un with
    | .ptr r o => match h[r]? with
      | some (.var _ cs) => ald P t (cs.drop o)
      | _ => none
    | _ => none

def aresL {α : Type} [CK α] (P : Program) (ts : List PV) (h : Heap) : List ResultVar → Option (List PV × α)
  | [] => some ([], CK.cnd True)
  | x :: xs => match ares1 P ts h x with
    | some (p, c) => match aresL P ts h xs with
      | some (ps, d) => some (p :: ps, CK.both c d)
      | none => none
    | none => none

/-- What a function hands back. -/
def ares {α : Type} [CK α] (P : Program) (ts : List PV) (h : Heap) (xs : List ResultVar) : Option (PV × α) :=
  match aresL P ts h xs with
  | some ([p], c) => some (p, c)
  | some (ps, c) => some (.tup ps, c)
  | none => none

theorem ares1_ok {P : Program} {S : St} {ts : List PV} {tmps : Array Value} (hS : SRel S) (hT : TRel S ts tmps) {x : ResultVar} {p : PV} {c : Prop} (he : ares1 P ts S.h x = some (p, c)) (hc : c) :
    ∃ v, Sem.run P (match x with | .tmp t => pure (tmps.getD t undef) | .cell a t => do loadVar t (← asAddr (tmps.getD a undef)) : Sem Value) S.w = .ok v S.w ∧ VRel S p v := by
  cases x with
  | tmp t =>
    simp only [ares1] at he
    cases he
    refine ⟨_, rfl, ?_⟩
    cases h : ts[t]? with
    | none => rw [List.getD_eq_getElem?_getD, h]; exact .un
    | some p => rw [List.getD_eq_getElem?_getD, h]; exact hT.rel t p h
  | cell a t =>
    simp only [ares1] at he
    split at he
    · rename_i r o hr
      split at he
      · rename_i T cs hh
        rw [List.getD_eq_getElem?_getD] at hr
        cases h : ts[a]? with
        | none => rw [h] at hr; cases hr
        | some q =>
          rw [h] at hr
          simp only [Option.getD_some] at hr
          subst hr
          have h1 := hT.rel a _ h
          simp only []
          generalize tmps.getD a undef = u at h1 ⊢
          cases h1 with
          | optr hb => rw [hh] at hb; cases hb
          | ptr hp hb =>
            rw [hh] at hb
            cases hb
            obtain ⟨b', arr, e, hhp, hsz, h1, hrel⟩ := hS.blks r _ _ hh hp
            cases e
            obtain ⟨v, hv, hr⟩ := run_loadVar_of (S := S) (t := t) (P := P) (a := ⟨_, o, none⟩) (cs := cs.drop o) (fun j => arr.getD (o + j) undef)
              (fun j hj => by
                have hj' : o + j < arr.size := by simp at hj; omega
                rw [addr_add_none]
                simp only [World.cell?]
                rw [hhp]
                refine ⟨by simp [Array.getD, hj'], h1 (o + j) _ ?_⟩
                simp [Array.getD, hj'])
              (fun j q hq => by
                rw [List.getElem?_drop] at hq
                have hj' : o + j < arr.size := Nat.lt_of_lt_of_le (List.getElem?_eq_some_iff.1 hq).1 hsz
                exact hrel (o + j) q _ hq (by simp [Array.getD, hj'])) he hc
            exact ⟨v, by simp [asAddr, hv], hr⟩
      · cases he
    · cases he

theorem aresL_ok {P : Program} {S : St} {ts : List PV} {tmps : Array Value} (hS : SRel S) (hT : TRel S ts tmps) : ∀ {xs : List ResultVar} {ps : List PV} {c : Prop}, aresL P ts S.h xs = some (ps, c) → c →
    ∃ vs : List Value, Sem.run P (xs.mapM fun | .tmp t => pure (tmps.getD t undef) | .cell a t => do loadVar t (← asAddr (tmps.getD a undef))) S.w = .ok vs S.w ∧ vs.length = ps.length ∧
      ∀ (i : Nat) (p : PV) (v : Value), ps[i]? = some p → vs[i]? = some v → VRel S p v := by
  intro xs
  induction xs with
  | nil =>
    intro ps c he _
    simp only [aresL] at he
    cases he
    exact ⟨[], rfl, rfl, fun i p v h => by simp at h⟩
  | cons x xs ih =>
    intro ps c he hc
    simp only [aresL] at he
    split at he
    · rename_i p c1 h1
      split at he
      · rename_i qs d h2
        cases he
        rw [ckand] at hc
        obtain ⟨v, hv, hr⟩ := ares1_ok hS hT h1 hc.1
        obtain ⟨vs, hvs, hl, hrs⟩ := ih h2 hc.2
        refine ⟨v :: vs, ?_, by simp [hl], fun i q u hq hu => ?_⟩
        · rw [List.mapM_cons]
          simp only [Sem.run_bind, hvs, Result.andThen_ok, Sem.run_pure]
          cases x <;> simp_all [Sem.run_bind]
        · cases i with
          | zero => simp at hq hu; subst hq; subst hu; exact hr
          | succ i => exact hrs i q u (by simpa using hq) (by simpa using hu)
      · cases he
    · cases he

theorem ares_ok {P : Program} {S : St} {ts : List PV} {tmps : Array Value} {fn : Func} (hS : SRel S) (hT : TRel S ts tmps) {p : PV} {c : Prop} (he : ares P ts S.h fn.results.toList = some (p, c)) (hc : c) :
    ∃ v, (results fn tmps).run P S.w = .ok v S.w ∧ VRel S p v := by
  unfold ares at he
  have key : ∀ {ps : List PV} {d : Prop}, aresL P ts S.h fn.results.toList = some (ps, d) → d → ∃ vs : Array Value, (results fn tmps).run P S.w = .ok (if h : vs.size = 1 then vs[0] else .tuple vs) S.w ∧ vs.size = ps.length ∧
      ∀ (i : Nat) (p : PV) (v : Value), ps[i]? = some p → vs[i]? = some v → VRel S p v := by
    intro ps d h hd
    obtain ⟨vs, hvs, hl, hr⟩ := aresL_ok hS hT h hd
    refine ⟨vs.toArray, ?_, by simp [hl], fun i p v hp hv => hr i p v hp (by simpa using hv)⟩
    unfold results
    rw [Array.mapM_eq_mapM_toList]
    simp only [Sem.run_bind, Sem.run_map]
    erw [hvs]
    rfl
  split at he
  · rename_i q d h
    cases he
    obtain ⟨vs, hrun, hsz, hr⟩ := key h hc
    simp at hsz
    rw [dif_pos hsz] at hrun
    exact ⟨_, hrun, hr 0 _ _ rfl (by simp [hsz])⟩
  · rename_i qs d hne h
    cases he
    obtain ⟨vs, hrun, hsz, hr⟩ := key h hc
    have hne1 : ¬ vs.size = 1 := fun e => by
      rw [hsz] at e
      match qs, e, hne with
      | [q], _, hne => exact hne q rfl
    rw [dif_neg hne1] at hrun
    exact ⟨_, hrun, .tup hsz hr⟩
  · cases he

/-- What a body is to reach. -/
def AEnd (P : Program) (fn : Func) (R : PV → Heap → Prop) : Exit → List PV → Heap → Prop
  | .normal, ts, h | .ret, ts, h => match ares (α := Prop) P ts h fn.results.toList with
    | some (p, c) => c ∧ R p h
    | none => False
  | _, _, _ => False

theorem World.cell_deferred {w : World} {r : Nat} {ds : Option (List Deferred)} (h : w.heap[r]? = some (.deferred ds)) {a : Addr} (ha : a.block = r) : w.cell? a = none := by
  unfold World.cell?
  rw [ha, h]

/-- A mark's block is shut: nothing that is known leans on it. -/
theorem shut_mark {S : St} (hS : SRel S) {r : Nat} {ds : List Deferred} (hlt : r < S.w.heap.size) (hb : S.w.heap[r]? = some (.deferred (some ds))) (hn : ¬ S.Own r) (w' : World)
    (hw : w' = S.w.putObj r (.deferred none)) : SRel ⟨S.φ, S.h, w', S.x⟩ ∧ ∀ p v, VRel S p v → VRel ⟨S.φ, S.h, w', S.x⟩ p v := by
  have hsz : w'.heap.size = S.w.heap.size := by rw [hw]; simp
  have hoth : ∀ k, k ≠ r → w'.heap[k]? = S.w.heap[k]? := fun k hk => by rw [hw]; exact World.putObj_heap_other hk
  have hM : ∀ a v, S.M a v → St.M ⟨S.φ, S.h, w', S.x⟩ a v := by
    rintro a v ⟨h1, h2, h3, h4, h5, h6⟩
    have hne : a.block ≠ r := fun e => by rw [World.cell_deferred hb e] at h1; cases h1
    exact ⟨(World.cell?_of_block (hoth _ hne)).trans h1, h2, h3, by simp only []; omega, h5, h6⟩
  have hR : ∀ b m, S.Row b m → St.Row ⟨S.φ, S.h, w', S.x⟩ b m := by
    rintro b m ⟨ar, t1, f1, h1, h2⟩
    refine ⟨ar, t1, f1, (hoth b fun e => ?_).trans h1, h2⟩
    subst e
    rw [hb] at h1
    cases h1
  have hV : ∀ p v, VRel S p v → VRel ⟨S.φ, S.h, w', S.x⟩ p v := by
    intro p v h
    induction h with
    | un => exact .un
    | ud => exact .ud
    | sc h => exact .sc h
    | nil => exact .nil
    | agg hl h1 _ ih => exact .agg hl h1 ih
    | tup hl _ ih => exact .tup hl ih
    | ts hl hc hm hk ad ha val hv _ ih => exact .ts hl hc hm hk ad ha val (fun j hj => hM _ _ (hv j hj)) ih
    | tc _ ih => exact .tc ih
    | vec ht hb hle ho ih => exact .vec ih hb hle ho
    | ms hp hb hl hc hm hz => exact .ms hp hb hl hc hm (hR _ _ hz)
    | oms hb hc hm => exact .oms hb hc hm
    | optr hb => exact .optr hb
    | ptr hp hb => exact .ptr hp hb
    | tp val hv _ ih => exact .tp val (fun j hj => hM _ _ (hv j hj)) ih
    | fn hl hl' _ _ ih ih' => exact .fn hl hl' ih ih'
    | ifc _ ih => exact .ifc ih
    | mp hp hb => exact .mp hp hb
    | yl hp hb => exact .yl hp hb
  refine ⟨⟨hS.len, fun k b v hk hv => ?_, hS.inj, fun a ha => by simp only []; rw [hsz]; exact hS.xlt a ha, hS.xown⟩, hV⟩
  have h0 := hS.blks k b v hk hv
  have hnb : ∀ n, blk v = some n → n ≠ r := fun n hbn e => hn ⟨k, v, hv, by rw [hbn, e]⟩
  cases b with
  | var t cs =>
    obtain ⟨b, arr, rfl, hh, hsz', h1, hrel⟩ := h0
    exact ⟨b, arr, rfl, (hoth b (hnb b rfl)).trans hh, hsz', h1, fun i p u hp hu => hV _ _ (hrel i p u hp hu)⟩
  | vec e k m =>
    rcases h0 with h0 | ⟨b, c, arr, rfl, hh, h0⟩
    · exact .inl h0
    · exact .inr ⟨b, c, arr, rfl, (hoth b (hnb b rfl)).trans hh, h0⟩
  | map es =>
    obtain ⟨b, clock, entries, rfl, hh, hsz', h1, hrel⟩ := h0
    exact ⟨b, clock, entries, rfl, (hoth b (hnb b rfl)).trans hh, hsz', h1, fun i e q hi hq => ⟨(hrel i e q hi hq).1, hV _ _ (hrel i e q hi hq).2⟩⟩
  | loop ts ps as bd st pd =>
    obtain ⟨b, L, rfl, hh, k1, k2, k3, k4, k5, k6, k7⟩ := h0
    exact ⟨b, L, rfl, (hoth b (hnb b rfl)).trans hh, k1, k2, k3, k4, k5, k6, fun i p hp => hV _ _ (k7 i p hp)⟩
  | non => exact h0
  | old => exact h0

/-- A frame leaves: its marks are shut, its results read. -/
theorem leaves_marks {P : Program} {fn : Func} {R : Ending → World → Prop} {ts : List PV} {tmps : Array Value} {p : PV} {c : Prop} (hc : c) : ∀ (rs : List Nat) (S : St), SRel S → TRel S ts tmps → ares P ts S.h fn.results.toList = some (p, c) →
    rs.Nodup → (∀ r ∈ rs, r < S.w.heap.size ∧ S.w.heap[r]? = some (.deferred (some [])) ∧ ¬ S.Own r) →
    (∀ w' v, SRel ⟨S.φ, S.h, w', S.x⟩ → VRel ⟨S.φ, S.h, w', S.x⟩ p v → w'.heap.size = S.w.heap.size → w'.os = S.w.os → w'.tape = S.w.tape → w'.output = S.w.output → (∀ k, k ∉ rs → w'.heap[k]? = S.w.heap[k]?) →
      R (.returned v) w') → LeavesInM Fence.wide 0 P fn tmps R (rs.map fun r => ⟨.collected r, #[]⟩) .returning S.w := by
  intro rs
  induction rs with
  | nil =>
    intro S hS hT he _ _ hR
    obtain ⟨v, hv, hr⟩ := ares_ok hS hT he hc
    exact ⟨v, hv, hR S.w v hS hr rfl rfl rfl rfl fun _ _ => rfl⟩
  | cons r rs ih =>
    intro S hS hT he hnd hrs hR
    obtain ⟨hlt, hb, hn⟩ := hrs r (by simp)
    obtain ⟨hS', hV⟩ := shut_mark hS hlt hb hn _ rfl
    rw [List.nodup_cons] at hnd
    refine ⟨by simp, .inl ⟨r, _, rfl, run_takeDeferred hb, ?_⟩⟩
    refine ih ⟨S.φ, S.h, S.w.putObj r (.deferred none), S.x⟩ hS' ⟨hT.size, fun i q hq => hV _ _ (hT.rel i q hq)⟩ he hnd.2 (fun k hk => ?_) (fun w' v h1 h2 h3 h4 h5 h6 h7 => ?_)
    · obtain ⟨k1, k2, k3⟩ := hrs k (by simp [hk])
      have hne : k ≠ r := fun e => hnd.1 (e ▸ hk)
      exact ⟨by simpa using k1, (World.putObj_heap_other hne).trans k2, k3⟩
    · refine hR w' v h1 h2 (by simpa using h3) h4 h5 h6 fun k hk => ?_
      simp only [List.mem_cons, not_or] at hk
      exact (h7 k hk.2).trans (World.putObj_heap_other hk.1)

/-- **A contract out of a body.** -/
theorem acall_of_body {P : Program} {G : Glob} {f : FuncId} {fn : Func} {c : Code} {args : List PV} {h : Heap} {R : PV → Heap → Prop} (hf : P.funcs[f]? = some fn) (hb : fn.body = some c)
    (hen : enterB P f = true) (k : AWp P G none c (AEnd P fn R) (args ++ List.replicate (fn.ntmps - args.length) .ud) h) : ACall P G f args h R := by
  refine ⟨hen, fun φ w X vs hS hG hl hv => ?_⟩
  refine callsIn_of_wp_marks hf hb trivial ?_
  have hA : ARel w.heap.size ⟨φ, h, w, X⟩ G (args ++ List.replicate (fn.ntmps - args.length) .ud) { tmps := vs ++ Array.replicate (fn.ntmps - vs.size) undef, defers := [] } := by
    refine ⟨hS, hG, ⟨by simp [hl], fun i p hp => ?_⟩, ⟨[], rfl, by simp, by simp⟩, Nat.le_refl _⟩
    rw [List.getElem?_append] at hp
    split at hp
    · rename_i hlt
      have hlt' : i < vs.size := by omega
      have h1 : (vs ++ Array.replicate (fn.ntmps - vs.size) undef).getD i undef = vs[i] := by
        rw [Array.getD_eq_getD_getElem?, Array.getElem?_append_left hlt']
        simp [hlt']
      rw [h1]
      exact hv i p _ hp (by simp [hlt'])
    · have hge : vs.size ≤ i := by omega
      rw [List.getElem?_replicate] at hp
      split at hp
      · cases hp
        have h1 : (vs ++ Array.replicate (fn.ntmps - vs.size) undef).getD i undef = undef := by
          rw [Array.getD_eq_getD_getElem?, Array.getElem?_append_right hge, Array.getElem?_replicate]
          split <;> rfl
        rw [h1]
        exact .ud
      · cases hp
  refine wpIn_mono (k w.heap.size φ w X _ hA) ?_
  rintro e a' w' ⟨φ', ts', h', x, hA', q⟩
  have fin : (match ares (α := Prop) P ts' h' fn.results.toList with | some (p, c) => c ∧ R p h' | none => False) →
      LeavesInM Fence.wide 0 P fn a'.tmps (fun e w' => ∃ (φ' : List Value) (h' : Heap) (p : PV) (v : Value), e = .returned v ∧ Ext ⟨φ, h, w, X⟩ ⟨φ', h', w', X⟩ ∧ SRel ⟨φ', h', w', X⟩ ∧ VRel ⟨φ', h', w', X⟩ p v ∧ R p h') a'.defers .returning w' := by
    intro q
    split at q
    · rename_i p c he
      obtain ⟨rs, hds, hnd, hrs⟩ := hA'.mark
      rw [hds]
      refine leaves_marks q.1 rs ⟨φ', h', w', X⟩ hA'.st hA'.tr he hnd (fun r hr => (hrs r hr).2) fun w'' v h1 h2 h3 h4 h5 h6 h7 => ?_
      refine ⟨φ', h', p, v, rfl, ⟨rfl, h4.trans x.os, h5.trans x.tape, h6.trans x.output, by have := x.size; simp only [] at *; omega, fun b hb ho => ?_, fun a u hm => ?_, x.blks, fun b m hr => by
        obtain ⟨ar, t1, f1, g1, g2⟩ := x.rows b m hr
        refine ⟨ar, t1, f1, (h7 b fun hbr => ?_).trans g1, g2⟩
        have := (hrs b hbr).2.2.1
        simp only [] at this g1
        rw [this] at g1
        cases g1⟩, h1, h2, q.2⟩
      · obtain ⟨k1, k2⟩ := x.unt b hb ho
        refine ⟨k1, (h7 b fun hbr => ?_).trans k2⟩
        have := (hrs b hbr).1
        simp only [] at hb
        omega
      · obtain ⟨m1, m2, m3, m4, m5, m6⟩ := x.mem a u hm
        have hblk : a.block ∉ rs := fun hr => by
          have := hrs _ hr
          rw [World.cell_deferred this.2.2.1 rfl] at m1
          cases m1
        exact ⟨(World.cell?_of_block (h7 _ hblk)).trans m1, m2, m3, by simp only [] at *; omega, m5, m6⟩
    · exact q.elim
  cases e with
  | normal => exact fin q
  | ret => exact fin q
  | _ => exact q.elim

end Go.AL
