/-
  A range over a function: its record, its rounds, the statement.
-/
import Derived.Test.YthackdgnkilhnaaGreatDoorAl17
import Derived.RangeFuncRecord
set_option linter.unusedSimpArgs false
set_option linter.unusedVariables false
namespace Go.AL
open Go.RowKit

theorem World.cell_loop {w : World} {r : Nat} {L : Loop} (h : w.heap[r]? = some (.loop L)) {a : Addr} (ha : a.block = r) : w.cell? a = none := by
  unfold World.cell?
  rw [ha, h]

theorem Ext.heap_lt {S S' : St} (x : Ext S S') (h : ∀ b, b < S.w.heap.size → S.Own b → S'.w.heap[b]? = S.w.heap[b]?) (n : Nat) (hn : n < S.w.heap.size) : S'.w.heap[n]? = S.w.heap[n]? := by
  by_cases ho : S.Own n
  · exact h n hn ho
  · exact (x.unt n hn ho).2

/-- The record's state turns. -/
theorem loop_set {S : St} (hS : SRel S) {r b : Nat} {ts : List PV} {ps : List Tmp} {as bd : Code} {st st' : LoopState} {pd pd' : Option Code} {L : Loop} (hp : S.φ[r]? = some (.pointer (some ⟨b, 0, none⟩)))
    (hb : S.h[r]? = some (.loop ts ps as bd st pd)) (hL : S.w.heap[b]? = some (.loop L)) {w' : World} (hw : w' = S.w.putObj b (.loop { L with state := st', pending := pd' })) :
    Ext S { S with h := S.h.set r (.loop ts ps as bd st' pd'), w := w' } ∧ SRel { S with h := S.h.set r (.loop ts ps as bd st' pd'), w := w' } := by
  have hr : r < S.h.length := (List.getElem?_eq_some_iff.1 hb).1
  have hlt : b < S.w.heap.size := (Array.getElem?_eq_some_iff.1 hL).1
  have hsz : w'.heap.size = S.w.heap.size := by rw [hw]; simp
  have hoth : ∀ k, k ≠ b → w'.heap[k]? = S.w.heap[k]? := fun k hk => by rw [hw]; exact World.putObj_heap_other hk
  have hnew : w'.heap[b]? = some (.loop { L with state := st', pending := pd' }) := by rw [hw]; exact World.putObj_heap_same hlt
  have x : Ext S { S with h := S.h.set r (.loop ts ps as bd st' pd'), w := w' } := by
    refine ⟨rfl, by rw [hw]; rfl, by rw [hw]; rfl, by rw [hw]; rfl, by simp only []; omega, fun k hk hn => ⟨hn, hoth k fun e => hn ⟨r, _, hp, by rw [e]; rfl⟩⟩, fun a v hm => ?_, fun k c hc => ?_, fun k m ⟨ar, t1, f1, h1, h2⟩ => ⟨ar, t1, f1, (hoth k fun e => by subst e; rw [hL] at h1; cases h1).trans h1, h2⟩⟩
    · obtain ⟨h1, h2, h3, h4, h5, h6⟩ := hm
      have hne : a.block ≠ b := fun e => by rw [World.cell_loop hL e] at h1; cases h1
      refine ⟨(World.cell?_of_block (hoth _ hne)).trans h1, h2, h3, by simp only []; omega, h5, fun k y hy hby => ?_⟩
      obtain ⟨e, kk, n, hh, ho⟩ := h6 k y hy hby
      have hkr : r ≠ k := fun e => by subst e; rw [hb] at hh; cases hh
      exact ⟨e, kk, n, by simp only []; rw [List.getElem?_set, if_neg hkr]; exact hh, ho⟩
    · by_cases hkr : r = k
      · subst hkr
        rw [hb] at hc; cases hc
        exact ⟨.loop ts ps as bd st' pd', by simp [hr], rfl⟩
      · exact ⟨c, by simp only []; rw [List.getElem?_set, if_neg hkr]; exact hc, Blk.le_refl c rfl⟩
  refine ⟨x, ⟨by simp [hS.len], fun k c y hk hy => ?_, hS.inj, fun a ha => by simp only []; rw [hsz]; exact hS.xlt a ha, hS.xown⟩⟩
  simp only [List.getElem?_set] at hk
  by_cases hkr : r = k
  · subst hkr
    rw [if_pos rfl, if_pos hr] at hk
    cases hk
    have h0 := hS.blks r _ _ hb hp
    obtain ⟨b', L0, e, hh, k1, k2, k3, k4, k5, k6, k7⟩ := h0
    cases e
    rw [hL] at hh; cases hh
    simp only [] at hy
    rw [hp] at hy; cases hy
    exact ⟨b, _, rfl, hnew, k1, k2, k3, rfl, rfl, k6, fun i p hi => (k7 i p hi).ext x⟩
  · rw [if_neg hkr] at hk
    refine (hS.blks k c y hk hy).ext x fun n hn => hoth n fun e => ?_
    subst e
    exact hkr (hS.inj r k _ y n hp hy rfl hn)

/-- The parameters of a round. -/
def rput (ts : List PV) : List Tmp → List PV → List PV
  | t :: ps, a :: as => rput (ts.set t a) ps as
  | _, _ => ts

theorem rput_rel {S : St} : ∀ {ps : List Tmp} {as : List PV} {vs : List Value} {ts : List PV} {tmps : Array Value}, TRel S ts tmps → vs.length = as.length → (∀ (i : Nat) (p : PV) (v : Value), as[i]? = some p → vs[i]? = some v → VRel S p v) →
    TRel S (rput ts ps as) ((ps.zip vs).foldl (fun tmps x => tmps.setIfInBounds x.1 x.2) tmps) := by
  intro ps
  induction ps with
  | nil => intro as vs ts tmps h _ _; simpa [rput] using h
  | cons t ps ih =>
    intro as vs ts tmps h hl hv
    cases as with
    | nil =>
      have : vs = [] := List.eq_nil_of_length_eq_zero hl
      subst this
      simpa [rput] using h
    | cons a as =>
      cases vs with
      | nil => simp at hl
      | cons v vs =>
        simp only [rput, List.zip_cons_cons, List.foldl_cons]
        refine ih ?_ (by simpa using hl) fun i p u hp hu => hv (i + 1) p u (by simpa using hp) (by simpa using hu)
        have := TRel.put (a := { tmps := tmps, defers := [] }) h (some t) (hv 0 a v rfl rfl)
        exact this

section
variable {P : Program} {G : Glob} {rd : Option Nat}

/-- How a round ends: whether it goes on, and the jump. -/
def ARound (r : Nat) (R : PV → Heap → Prop) : Exit → List PV → Heap → Prop
  | e, _, h => ∃ ts ps as bd st pd, h[r]? = some (.loop ts ps as bd st pd) ∧ match e with
    | .normal => R (.sc (.bool true)) (h.set r (.loop ts ps as bd .ready none))
    | .ret => R (.sc (.bool false)) (h.set r (.loop ts ps as bd .done (some .ret)))
    | .exit id => R (.sc (.bool false)) (h.set r (.loop ts ps as bd .done (some (.exit id))))
    | _ => False

/-- A call of yield: a round. -/
theorem OpOk.yield {o : Oper} {c : Call} {x : Operand} {r : Nat} {h : Heap} {F : Operand → PV} {R : PV → Heap → Prop} {ts : List PV} {ps : List Tmp} {as bd : Code} {st : LoopState} {pd : Option Code} (ho : o.op = .call c) (hc : c.callee = .value x)
    (hx : F x = .yl r) (hb : h[r]? = some (.loop ts ps as bd st pd)) (hl : c.args.size = ps.length)
    (k : ∀ l, AWp P G (some l) as (fun e ts1 h1 => e = .normal ∧ ∃ ts' ps' as' bd' pd1, h1[r]? = some (.loop ts' ps' as' bd' .ready pd1) ∧ AWp P G (some l) bd (ARound r R) ts1 (h1.set r (.loop ts' ps' as' bd' .busy pd1))) (rput ts ps (c.args.toList.map F)) h) :
    OpOk P G rd o h F R := by
  intro φ w X a K Q hS hG hop hK
  refine ⟨fun f _ => trivial, ?_⟩
  rw [Oper.semAt_eq _ _ _ (fun c' hd => by rw [ho] at hd; cases hd)]
  have hxv := hop x (by rw [ho]; simp [Op.operands, Call.operands, hc])
  rw [hx] at hxv
  obtain ⟨b, he, hp⟩ : ∃ b, a.eval x = .func (.yield b) #[] #[] ∧ φ[r]? = some (.pointer (some ⟨b, 0, none⟩)) := by
    generalize a.eval x = u at hxv
    cases hxv with
    | yl hp _ => exact ⟨_, rfl, hp⟩
  obtain ⟨m1, m2⟩ := map_rel (S := ⟨φ, h, w, X⟩) (f := F) (ρ := a.eval) c.args (fun y hy => hop y (by rw [ho]; simp [Op.operands, Call.operands, hy]))
  obtain ⟨b', L, e, hL, k1, k2, k3, k4, k5, k6, k7⟩ := hS.blks r _ _ hb hp
  cases e
  have hsz : (c.args.map a.eval).size = L.params.size := by rw [Array.size_map, hl, ← k1]; simp
  have hrun : (execOp a.eval o).run P w = .ok (.round b L.fn ((L.params.zip (c.args.map a.eval)).foldl (fun tmps (t, a) => tmps.setIfInBounds t a) L.tmps) L.assign L.body) w := by
    have hy := run_yield (P := P) (w := w) (l := b) (r := L) (args := c.args.map a.eval) hL hsz
    simp [execOp, ho, resolve, hc, he, Deferred.ofValue, invoke, hy]
  rw [hrun]
  refine ⟨fun h => by simp [FW, Fence.wide] at h, ?_⟩
  refine RoundIn.mono (roundIn_of_wpIn (R := fun e w' => ∃ (φ' : List Value) (h' : Heap) (p : PV) (v : Value), e = .returned v ∧ Ext ⟨φ, h, w, X⟩ ⟨φ', h', w', X⟩ ∧ SRel ⟨φ', h', w', X⟩ ∧ VRel ⟨φ', h', w', X⟩ p v ∧ R p h') trivial ?_) ?_
  · rw [FW_inRound, k2, k3]
    have hTR : TRel ⟨φ, h, w, X⟩ (rput ts ps (c.args.toList.map F)) ((L.params.zip (c.args.map a.eval)).foldl (fun tmps (t, a) => tmps.setIfInBounds t a) L.tmps) := by
      have h1 : TRel ⟨φ, h, w, X⟩ ts L.tmps := ⟨k6, k7⟩
      have := rput_rel (ps := ps) (as := c.args.toList.map F) (vs := (c.args.map a.eval).toList) h1 (by simp) (fun i p v hp hv => m2 i p v hp (by simpa using hv))
      rw [← k1] at this ⊢
      rw [← Array.foldl_toList, Array.toList_zip]
      exact this
    have hA : ARel w.heap.size ⟨φ, h, w, X⟩ G (rput ts ps (c.args.toList.map F)) { tmps := (L.params.zip (c.args.map a.eval)).foldl (fun tmps (t, a) => tmps.setIfInBounds t a) L.tmps, defers := [] } :=
      ⟨hS, hG, hTR, ⟨[], rfl, by simp, by simp⟩, Nat.le_refl _⟩
    refine wpIn_mono (k b w.heap.size φ w X _ hA) ?_
    rintro e a1 w1 ⟨φ1, ts1, h1, x1, hA1, rfl, ts', ps', as', bd', pd1, hb1, hbody⟩
    have keepφ : ∀ {φ1 : List Value} {h1 : Heap} {w1 : World}, Ext ⟨φ, h, w, X⟩ ⟨φ1, h1, w1, X⟩ → φ1[r]? = some (.pointer (some ⟨b, 0, none⟩)) := by
      intro φ1 h1 w1 x1
      obtain ⟨c', hc', hle⟩ := x1.blks r _ hb
      cases c' <;> simp only [Blk.le] at hle
      exact hle.trans hp
    have hp1 := keepφ x1
    obtain ⟨b1, L1, e1, hL1, q1, q2, q3, q4, q5, q6, q7⟩ := hA1.st.blks r _ _ hb1 hp1
    cases e1
    have hbr := run_beginRound (P := P) hL1 q4
    refine ⟨_, hbr, ?_⟩
    obtain ⟨x2, hS2⟩ := loop_set hA1.st (st' := .busy) (pd' := pd1) hp1 hb1 hL1 (w' := w1.putObj b (.loop { L1 with state := .busy })) (by rw [← q5])
    have hA2 : ARel w.heap.size ⟨φ1, h1.set r (.loop ts' ps' as' bd' .busy pd1), w1.putObj b (.loop { L1 with state := .busy }), X⟩ G ts1 a1 := ⟨hS2, hA1.gl.ext x2, hA1.tr.ext x2, hA1.mark.ext x2, Nat.le_trans hA1.base x2.size⟩
    refine wpIn_mono (hbody w.heap.size φ1 _ X a1 hA2) ?_
    rintro e a3 w3 ⟨φ3, ts3, h3, x3, hA3, ts4, ps4, as4, bd4, st3, pd3, hb3, hR⟩
    have x13 := (x1.trans x2).trans x3
    have hp3 := keepφ x13
    obtain ⟨b3, L3, e3, hL3, _⟩ := hA3.st.blks r _ _ hb3 hp3
    cases e3
    have fin : ∀ (jump : Option Code), R (.sc (.bool jump.isNone)) (h3.set r (.loop ts4 ps4 as4 bd4 (if jump.isNone then .ready else .done) jump)) → ∃ v w', (Instr.endRound b jump).run P w3 = .ok v w' ∧
        ∃ (φ' : List Value) (h' : Heap) (p : PV) (u : Value), Ending.returned v = .returned u ∧ Ext ⟨φ, h, w, X⟩ ⟨φ', h', w', X⟩ ∧ SRel ⟨φ', h', w', X⟩ ∧ VRel ⟨φ', h', w', X⟩ p u ∧ R p h' := by
      intro jump hRj
      obtain ⟨x4, hS4⟩ := loop_set hA3.st (st' := if jump.isNone then .ready else .done) (pd' := jump) hp3 hb3 hL3 rfl
      exact ⟨_, _, run_endRound jump hL3, φ3, _, _, _, rfl, x13.trans x4, hS4, .sc trivial, hRj⟩
    cases e with
    | normal => exact fin none hR
    | ret => exact fin (some .ret) hR
    | exit id => exact fin (some (.exit id)) hR
    | _ => exact hR.elim
  · rintro e w' ⟨φ', h', p, v, rfl, x1, hs, hv, hr⟩
    exact hK φ' h' w' p v x1 hs hv hr
/-- What is asked behind the statement. -/
def ARange (n : Nat) (ts : List PV) (Q : Exit → List PV → Heap → Prop) (h : Heap) : Prop :=
  ∃ ts' ps as bd st pd, h[n]? = some (.loop ts' ps as bd st pd) ∧ st ≠ .busy ∧ match pd with
    | none => Q .normal ts (h.set n (.loop ts' ps as bd .exhausted none))
    | some .ret => Q .ret ts (h.set n (.loop ts' ps as bd .exhausted (some .ret)))
    | some (.exit id) => Q (.exit id) ts (h.set n (.loop ts' ps as bd .exhausted (some (.exit id))))
    | _ => False

/-- **The statement.** -/
theorem awp_rangeFunc {g : Operand} {ps : Array Tmp} {as bd : Code} {Q : Exit → List PV → Heap → Prop} {ts : List PV} {h : Heap} {f : FuncId} {fst cap : List PV} (hg : aev G ts g = .fn (.func f) fst cap)
    (k : ACall P G f (fst ++ [.yl h.length] ++ cap) (h ++ [.loop ts ps.toList as bd .ready none]) fun _ h1 => ARange h.length ts Q h1) : AWp P G none (.rangeFunc g ps as bd) Q ts h := by
  intro B φ w X a hA
  refine wpIn_rangeFunc fun fn _ => ?_
  have hv := aev_rel hA.gl hA.tr g
  rw [hg] at hv
  obtain ⟨us, vs, he, hl, hl', h1, h2⟩ : ∃ (us vs : Array Value), a.eval g = .func (.func f) us vs ∧ us.size = fst.length ∧ vs.size = cap.length ∧
      (∀ (i : Nat) (p : PV) (v : Value), fst[i]? = some p → us[i]? = some v → VRel ⟨φ, h, w, X⟩ p v) ∧ (∀ (i : Nat) (p : PV) (v : Value), cap[i]? = some p → vs[i]? = some v → VRel ⟨φ, h, w, X⟩ p v) := by
    generalize a.eval g = u at hv
    cases hv with
    | fn hl hl' h h' => exact ⟨_, _, rfl, hl, hl', h, h'⟩
  let rec0 : Loop := { state := .ready, pending := none, fn, tmps := a.tmps, params := ps, assign := as, body := bd, defers := w.heap.size }
  let w1 : World := (w.alloc (.deferred (some []))).alloc (.loop rec0)
  have hsz1 : w1.heap.size = w.heap.size + 2 := by simp [w1]
  have hmark : w1.heap[w.heap.size]? = some (.deferred (some [])) := by
    have e1 : (w.alloc (.deferred (some []))).heap[w.heap.size]? = some (.deferred (some [])) := World.alloc_heap_new _ _
    exact (Below.heap_alloc _ _ _ (by simp)).trans e1
  have hrec : w1.heap[w.heap.size + 1]? = some (.loop rec0) := by
    have := World.alloc_heap_new (w.alloc (.deferred (some []))) (.loop rec0)
    simpa [w1] using this
  -- the record is taken into the list
  have x0 : Ext ⟨φ, h, w, X⟩ ⟨φ, h, w1, X⟩ := (ext_alloc hA.st (.deferred (some []))).trans (ext_alloc (srel_alloc hA.st _) (.loop rec0))
  let S1 : St := (⟨φ, h, w1, X⟩ : St).push (.pointer (some ⟨w.heap.size + 1, 0, none⟩)) (.loop ts ps.toList as bd .ready none)
  have x1 : Ext ⟨φ, h, w, X⟩ S1 := ext_push x0 hA.st rfl rfl _ _ (by intro n hn; simp [blk] at hn; simp only []; omega)
  have hS1 : SRel S1 := srel_push hA.st x1 rfl rfl rfl (fun n hn => (Below.heap_alloc _ _ _ (by simp only [World.size_alloc] at hn ⊢; omega)).trans (Below.heap_alloc _ _ _ hn)) ⟨w.heap.size + 1, rec0, rfl, hrec, rfl, rfl, rfl, rfl, rfl, (hA.tr.ext x1).size, (hA.tr.ext x1).rel⟩
    (by intro n hn; simp [blk] at hn; simp only []; omega)
  have hlen : φ.length = h.length := hA.st.len
  have hyl : VRel S1 (.yl h.length) (.func (.yield (w.heap.size + 1)) #[] #[]) := .yl (b := w.heap.size + 1) (ts := ts) (ps := ps.toList) (assign := as) (body := bd) (st := .ready) (pend := none) (by simp [S1, St.push, ← hlen]) (by simp [S1, St.push])
  have hargs : ∀ (i : Nat) (p : PV) (v : Value), (fst ++ [.yl h.length] ++ cap)[i]? = some p → (us ++ #[.func (.yield (w.heap.size + 1)) #[] #[]] ++ vs)[i]? = some v → VRel S1 p v := by
    intro i p v hp hv
    simp only [List.getElem?_append, List.length_append, List.length_singleton] at hp
    simp only [Array.getElem?_append, Array.size_append, hl, List.size_toArray, List.length_singleton] at hv
    split at hp
    · rename_i hlt
      rw [if_pos hlt] at hv
      split at hp
      · rename_i hlt2
        rw [if_pos hlt2] at hv
        exact (h1 i p v hp hv).ext x1
      · rename_i hlt2
        rw [if_neg hlt2] at hv
        have hi0 : i - fst.length = 0 := by omega
        rw [hi0] at hp hv
        simp at hp hv
        subst hp; subst hv
        exact hyl
    · rename_i hlt
      rw [if_neg hlt] at hv
      exact (h2 _ p v hp hv).ext x1
  have hcall := k.2 _ _ _ (us ++ #[.func (.yield (w.heap.size + 1)) #[] #[]] ++ vs) hS1 (hA.gl.ext x1) (by simp [hl, hl']; omega) hargs
  have hres : (resolve a.eval (rangeCall g (w.heap.size + 1)) 0).run P w1 = .ok ⟨.fn (.func f) vs, us ++ #[.func (.yield (w.heap.size + 1)) #[] #[]]⟩ w1 := by
    have e2 : a.eval (.const (.func (.yield (w.heap.size + 1)) #[] #[])) = .func (.yield (w.heap.size + 1)) #[] #[] := rfl
    simp [resolve, rangeCall, he, Deferred.ofValue, e2]
  refine ⟨w.heap.size + 1, _, w1, _, w1, f, us ++ #[.func (.yield (w.heap.size + 1)) #[] #[]] ++ vs, w1, run_enterLoop_outer fn a.tmps ps as bd, hres, fun _ _ => trivial, ?_, fun h => by simp [FW, Fence.wide] at h, ?_⟩
  · simp [invoke, run_call k.1]
  refine (show CallsIn (FW none) (0 - 1) P f _ w1 _ from hcall).mono ?_
  rintro e w3 ⟨φ3, h3, p, v, rfl, x3, hS3, _, ts', ps', as', bd', st, pd, hb3, hst, hq⟩
  have x13 : Ext ⟨φ, h, w, X⟩ ⟨φ3, h3, w3, X⟩ := x1.trans x3
  have hp3 : φ3[h.length]? = some (.pointer (some ⟨w.heap.size + 1, 0, none⟩)) := by
    obtain ⟨c', hc', hle⟩ := x3.blks h.length (.loop ts ps.toList as bd .ready none) (by simp [S1, St.push])
    cases c' <;> simp only [Blk.le] at hle
    exact hle.trans (by simp [S1, St.push, ← hlen])
  obtain ⟨b3, L3, e3, hL3, q1, q2, q3, q4, q5, q6, q7⟩ := hS3.blks _ _ _ hb3 hp3
  cases e3
  obtain ⟨x4, hS4⟩ := loop_set hS3 (st' := .exhausted) (pd' := pd) hp3 hb3 hL3 (w' := w3.putObj (w.heap.size + 1) (.loop { L3 with state := .exhausted })) (by rw [← q5])
  refine ⟨pd, w3.putObj (w.heap.size + 1) (.loop { L3 with state := .exhausted }), ?_, ?_⟩
  · have := run_endLoop (P := P) hL3 (by rw [q4]; exact hst)
    rw [this, q5]
  have xf : Ext ⟨φ, h, w, X⟩ ⟨φ3, h3.set h.length (.loop ts' ps' as' bd' .exhausted pd), w3.putObj (w.heap.size + 1) (.loop { L3 with state := .exhausted }), X⟩ := x13.trans x4
  have hmk : MRel B ⟨φ3, h3.set h.length (.loop ts' ps' as' bd' .exhausted pd), w3.putObj (w.heap.size + 1) (.loop { L3 with state := .exhausted }), X⟩ ([{ target := .collected w.heap.size, args := #[] }] ++ a.defers) := by
    obtain ⟨rs, hds, hnd, hrs⟩ := hA.mark
    obtain ⟨rs', hds', hnd', hrs'⟩ := hA.mark.ext xf
    have hrr : rs' = rs := by
      rw [hds] at hds'
      have := congrArg (List.map fun d : Deferred => match d.target with | .collected r => r | _ => 0) hds'
      simpa [Function.comp_def] using this.symm
    subst hrr
    refine ⟨w.heap.size :: rs', by rw [hds]; rfl, List.nodup_cons.2 ⟨fun hm => ?_, hnd⟩, fun r hr => ?_⟩
    · have := (hrs _ hm).2.1
      simp at this
    · rcases List.mem_cons.1 hr with rfl | hr
      · have hnown : ¬ S1.Own w.heap.size := by
          rintro ⟨k', y, hy, hby⟩
          simp only [S1, St.push] at hy
          rw [List.getElem?_append] at hy
          split at hy
          · have := hA.st.own_lt ⟨k', y, hy, hby⟩
            simp at this
          · cases hk : k' - φ.length with
            | zero => rw [hk] at hy; simp at hy; subst hy; simp [blk] at hby
            | succ m => rw [hk] at hy; simp at hy
        obtain ⟨u1, u2⟩ := (x3.trans x4).unt w.heap.size (by show w.heap.size < w1.heap.size; omega) hnown
        have := xf.size
        simp only [] at this
        refine ⟨hA.base, ?_, u2.trans hmark, u1⟩
        have h5 := (x3.trans x4).size
        have h6 : S1.w.heap.size = w.heap.size + 2 := hsz1
        simp only [] at h5 ⊢
        omega
      · exact hrs' r hr
  have hA4 : ARel B ⟨φ3, h3.set h.length (.loop ts' ps' as' bd' .exhausted pd), w3.putObj (w.heap.size + 1) (.loop { L3 with state := .exhausted }), X⟩ G ts { a with defers := [{ target := .collected w.heap.size, args := #[] }] ++ a.defers } :=
    ⟨hS4, hA.gl.ext xf, hA.tr.ext xf, hmk, Nat.le_trans hA.base xf.size⟩
  cases pd with
  | none => exact ⟨φ3, ts, _, xf, hA4, hq⟩
  | some c =>
    cases c with
    | ret => exact wpIn_ret ⟨φ3, ts, _, xf, hA4, hq⟩
    | exit id => exact wpIn_exit ⟨φ3, ts, _, xf, hA4, hq⟩
    | _ => exact hq.elim
end
end Go.AL
