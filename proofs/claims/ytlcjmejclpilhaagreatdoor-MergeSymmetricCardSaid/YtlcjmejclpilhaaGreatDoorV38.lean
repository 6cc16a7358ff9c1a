/-
  Part of the walk.
-/
import Derived.Test.YtlcjmejclpilhaaGreatDoorV37
import Derived.Test.YtlcjmejclpilhaaGreatDoorTie
import Derived.Test.YtlcjmejclpilhaaGreatDoorCards
import Derived.Handy
import Derived.Lay
import Derived.ChangeMaps5
import Derived.SevenTiedAt
set_option linter.unusedSimpArgs false
set_option linter.unusedVariables false
set_option maxRecDepth 100000
set_option maxHeartbeats 4000000
namespace Go.Proofs.YtlcjmejclpilhaaGreatDoor
open Go.ChangeShapes Go.WideShapes Go.ChangeAt Go.RowKit Go.AL Go.Proofs
theorem own:ownKnob Tryz.prog.godebug=none:=by kernel_rfl
theorem oO:laidOutB Tryz.prog=true:=by kernel_rfl
theorem ul4:Tryz.prog.underlying 4=some .bool:=by kernel_rfl
theorem znX:Tryz.f3.params= #[27,31,31,31]:=by kernel_rfl
theorem zdL{W:World}(h:laidMetH Tryz.prog Rows.mergeSymmetricRow.laid W):GRel ⟨[],[],W,fun _=>False⟩ G0:=by
 rw[MakeChecks.laidMetH_plain _ _ _ (by kernel_rfl)] at h;obtain⟨ps,⟨g0,t0,cs0,f0,p0,q0,hg0,ht0,hv0,hd0,⟨g1,t1,cs1,f1,p1,q1,hg1,ht1,hv1,hd1,⟨g2,t2,cs2,f2,p2,q2,hg2,ht2,hv2,hd2,⟨g3,t3,cs3,f3,p3,q3,hg3,ht3,hv3,hd3,_,_⟩,_⟩,_⟩,_⟩,_,_⟩:=h;obtain rfl:=Option.some.inj ((show Tryz.prog.globalNamed "math/bits.deBruijn64tab" =some 2 by kernel_rfl).symm.trans hg0);obtain rfl:=Option.some.inj ((show Tryz.prog.globalNamed "porism/lattice.keys" =some 1 by kernel_rfl).symm.trans hg1);obtain rfl:=Option.some.inj ((show Tryz.prog.globalNamed "porism/porismref03.Keys" =some 3 by kernel_rfl).symm.trans hg2);obtain rfl:=Option.some.inj ((show Tryz.prog.globalNamed "porism/value.words" =some 0 by kernel_rfl).symm.trans hg3);obtain rfl:=Option.some.inj ((show(Tryz.prog.globals[2]?).map (·.type)=some 416 by kernel_rfl).symm.trans ht0);obtain rfl:=Option.some.inj ((show(Tryz.prog.globals[1]?).map (·.type)=some 128 by kernel_rfl).symm.trans ht1);obtain rfl:=Option.some.inj ((show(Tryz.prog.globals[3]?).map (·.type)=some 128 by kernel_rfl).symm.trans ht2);obtain rfl:=Option.some.inj ((show(Tryz.prog.globals[0]?).map (·.type)=some 354 by kernel_rfl).symm.trans ht3);have r0:=eP (X:=fun _=>False) (fun _ h=>h) (n:=2) (by kernel_rfl) hg0 hv0 hd0 (show _=db by kernel_rfl);have r1:=eP (X:=fun _=>False) (fun _ h=>h) (n:=2) (by kernel_rfl) hg1 hv1 hd1 (show _=[.ts 1 (ws.map ([·]))] by kernel_rfl);have r2:=eP (X:=fun _=>False) (fun _ h=>h) (n:=2) (by kernel_rfl) hg2 hv2 hd2 (show _=[.ts 1 (ws.map ([·]))] by kernel_rfl);have r3:=eP (X:=fun _=>False) (fun _ h=>h) (n:=2) (by kernel_rfl) hg3 hv3 hd3 (show _=ws by kernel_rfl);intro g cs hG;unfold G0 at hG;split at hG
 ·rename_i e;rw[Zm] at e;subst e;cases hG;exact r3
 ·skip;split at hG
  ·rename_i e;rw[Zm] at e;subst e;cases hG;exact r1
  ·skip;split at hG
   ·rename_i e;rw[Zm] at e;subst e;cases hG;exact r0
   ·skip;split at hG
    ·rename_i e;rw[Zm] at e;subst e;cases hG;exact r2
    ·cases hG
set_option maxRecDepth 100000 in
theorem yd6(os:Os)(started:os.Started)(H:Type)(enc:TypeId×Value->H):
  ReturnsInHanded {} Tryz.checked os 3 .any (fun w args=>(Rows.mergeSymmetricSpec.pre enc Tryz.prog Tryz.f3 [] false w args/\laidMetH Tryz.prog Rows.mergeSymmetricRow.laid w)/\sizedMet enc Tryz.prog Tryz.f3 (OpenSpec.ofChange Rows.mergeSymmetricSpec) false w args)
   (Rows.mergeSymmetricSpec.post enc Tryz.prog Tryz.f3 false true false false):=by
 refine returnsInHanded_of_change_and (C:=Tryz.checked) (X:=fun w _=>laidMetH Tryz.prog Rows.mergeSymmetricRow.laid w) (fun _ _ _ hh h=>h.of_heap hh) own started (by kernel_rfl) Tryz.func3
  (ChangeSpec.witness_shaped (enc:=enc) (C:=Tryz.checked) (os:=os) (X:=fun w _=>laidMetH Tryz.prog Rows.mergeSymmetricRow.laid w) false (World.laidAll Tryz.prog os Rows.mergeSymmetricRow.laid) #[.agg #[.slice none 0 0,.slice none 0 0,.slice none 0 0,.slice none 0 0],.agg #[.slice none 0 0,.slice none 0 0],.agg #[.slice none 0 0,.slice none 0 0],.agg #[.slice none 0 0,.slice none 0 0]] 8 (World.laidAll_os _ _ _)
   (World.shaped_of_ZipB (by kernel_rfl) (by kernel_rfl)) (by kernel_rfl) (by kernel_rfl) (by kernel_rfl)
   (by rw[MakeChecks.laidMetH_plain _ _ _ (by kernel_rfl)];exact laidMet_laidAll _ (by kernel_rfl) (by kernel_rfl))) ?_
 intro W base args ds gs before hval0 hW hc hsz hL _;have hval: ∀(j:Nat) t v,Tryz.f3.params[j]? =some t->args[j]? =some v->Value.okWide Tryz.prog W .any base t v:=hval0;have hW':=hW;obtain⟨p,q,hA0,hV,rfl,_,_⟩:=hW;have hA:DataW.TrodAll enc Tryz.prog W 0 (fun _=>true) true Tryz.f3.params.toList args.toList ds p:=hA0;rw[znX] at hA hval;obtain⟨v0,vs0,d0,ds0,p0,q0,hargs,rfl,rfl,h0,t0⟩:=trodAll_cons hA;obtain⟨v1,vs1,d1,ds1,p1,q1,rfl,rfl,rfl,h1,t1⟩:=trodAll_cons t0;obtain⟨v2,vs2,d2,ds2,p2,q2,rfl,rfl,rfl,h2,t2⟩:=trodAll_cons t1;obtain⟨v3,vs3,d3,ds3,p3,q3,rfl,rfl,rfl,h3,t3⟩:=trodAll_cons t2;obtain⟨rfl,rfl,rfl⟩:=trodAll_nil t3;obtain rfl:args= #[v0,v1,v2,v3]:=by cases args;simp_all
 obtain⟨rfl,rfl⟩:=trodVars_none hV;rw[Xg] at hsz;have w0:Light Tryz.prog 27 d0:=fun k hk=>Xj (hsz k (Zb _ hk));have w1:Light Tryz.prog 31 d1:=fun k hk=>Xj (hsz k (Yh _ (Zb _ hk)));have w2:Light Tryz.prog 31 d2:=fun k hk=>Xj (hsz k (Yh _ (Yh _ (Zb _ hk))));have w3:Light Tryz.prog 31 d3:=fun k hk=>Xj (hsz k (Yh _ (Yh _ (Yh _ (Zb _ hk)))));obtain⟨a0,b0,r0⟩:=dPg.arg (ts:=[22,23,24,25]) (by kernel_rfl) (by kernel_rfl) w0 (hval 0 _ v0 rfl rfl) h0;obtain⟨a1,b1,r1⟩:=dDt.arg (ts:=[28,29]) (by kernel_rfl) (by kernel_rfl) w1 (hval 1 _ v1 rfl rfl) h1;obtain⟨a2,b2,r2⟩:=dDt.arg (ts:=[28,29]) (by kernel_rfl) (by kernel_rfl) w2 (hval 2 _ v2 rfl rfl) h2;obtain⟨a3,b3,r3⟩:=dDt.arg (ts:=[28,29]) (by kernel_rfl) (by kernel_rfl) w3 (hval 3 _ v3 rfl rfl) h3;have hS:SRel ⟨[],[],W,fun _=>False⟩:=⟨rfl,fun r b v h=>by simp at h,fun r r' v v' n h=>by simp at h,fun a h=>h.elim,fun a h=>h.elim⟩
 obtain⟨pr,rfl, -,hcall⟩:=yfJ a0 b0 a1 b1 a2 b2 a3 b3;have law:=hcall.2 [] W (fun _=>False) #[v0,v1,v2,v3] hS (zdL hL) rfl fun i p v hp hv=>by
  match i,hp,hv with
  |0,hp,hv=>simp at hp hv;subst hp;subst hv;exact r0
  |1,hp,hv=>simp at hp hv;subst hp;subst hv;exact r1
  |2,hp,hv=>simp at hp hv;subst hp;subst hv;exact r2
  |3,hp,hv=>simp at hp hv;subst hp;subst hv;exact r3
  |i+4,hp,hv=>simp at hp
 have hlt0: ∀z∈p0,z.block<W.heap.size:=fun z hz=>by
  have:=hW'.lt z (by simp[hz]);simpa using this
 have hlt1: ∀z∈p1,z.block<W.heap.size:=fun z hz=>by
  have:=hW'.lt z (by simp[hz]);simpa using this
 have hlt2: ∀z∈p2,z.block<W.heap.size:=fun z hz=>by
  have:=hW'.lt z (by simp[hz]);simpa using this
 have hlt3: ∀z∈p3,z.block<W.heap.size:=fun z hz=>by
  have:=hW'.lt z (by simp[hz]);simpa using this
 refine(callsIn_wide.1 law).mono fun e W' ⟨φ',h',p,v,he,hext,_,hrel,hp,_⟩=> ?_;subst he;subst hp;have hb:=zdY hext;obtain rfl:v= .bool true:=by cases hrel;rfl
 exact⟨_,rfl,_,_,_,[],_,[],hW',trodAll_mk1 (shut_bool ul4 _),trodAll_cons_mk (Below.trod oO (by kernel_rfl) (Xj (by kernel_rfl)) h0 hb (hlt0)) (trodAll_cons_mk (Below.trod oO (by kernel_rfl) (Xj (by kernel_rfl)) h1 hb (hlt1)) (trodAll_cons_mk (Below.trod oO (by kernel_rfl) (Xj (by kernel_rfl)) h2 hb (hlt2)) (trodAll_mk1 (Below.trod oO (by kernel_rfl) (Xj (by kernel_rfl)) h3 hb (hlt3))))),rfl,hb.frame _,fun h=>by cases h⟩
end Go.Proofs.YtlcjmejclpilhaaGreatDoor
