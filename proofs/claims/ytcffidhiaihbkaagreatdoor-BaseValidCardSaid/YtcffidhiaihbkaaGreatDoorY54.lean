/-
  The closed facts of the row of BaseValid, one by one.
-/
import Derived.Test.YtcffidhiaihbkaaGreatDoorY53
import Derived.Test.YtcffidhiaihbkaaGreatDoorTie
import Derived.Test.YtcffidhiaihbkaaGreatDoorCards
import Derived.Handy
import Derived.Lay
import Derived.ChangeMaps5
import Derived.SevenTiedAt
set_option linter.unusedSimpArgs false
set_option linter.unusedVariables false
set_option maxRecDepth 100000
set_option maxHeartbeats 4000000
namespace Go.AL
open Go.Proofs Go.Proofs.Tryz
@[go_sem] def ULaw5f4.pp:Nat→DPlan
 |4=>⟨[yB,uX,yB,yB,uX,yC,yA],tV,0⟩
 |20=>⟨[yB,yA,yA,yA,yA,yB,yA,yC,yA,yA,yA,yA,yA],yN,0⟩
 |24=>⟨[yA,yA,yA,yA,yB,yA,yA,yA,yB,yC,yA,yA,yA,yA,yB,yA,yA],wR,0⟩
 |_=>⟨[],[],0⟩
@[go_sem] def ULaw5f4.pl:Nat→DPlan
 |4=>⟨[yB,⟨6,0,[1004,1004]⟩,⟨7,0,[1004]⟩,⟨7,0,[1004]⟩,⟨6,0,[1004]⟩,yC,yA],tV,0⟩
 |20=>⟨[yB,yA,yA,yA,yA,yB,yA,yC,yA,yA,yA,yA,yA],yN,0⟩
 |24=>⟨[yA,yA,yA,yA,yB,yA,yA,yA,yB,yC,yA,yA,yA,yA,yB,yA,yA],wR,0⟩
 |_=>⟨[],[],0⟩
theorem ztT {p:Pg} (hp:p.ok) (hle:p.sm):DatX p (zuE p)↔zpQ p=true:=by
 refine ⟨fun h=>h.tv,fun h=> ?_⟩
 obtain ⟨-, -,hck⟩:=(ze0 p hp hle).2 h
 refine ⟨h,by simp [zuE],by simp [zuE],fun j hj hr hl=> ?_⟩
 have e1:(zuE p).rels[j]=[]:=List.getElem_replicate ..
 have e2:(zuE p).lats[j]=[]:=List.getElem_replicate ..
 rw [e1,e2]
 exact ⟨fun _=>⟨rfl,rfl⟩,fun _ _=>⟨rfl,fun k=>CelX.nil _ (hck _ (List.getElem_mem k))⟩,fun _ _=>⟨rfl,⟨⟨fun i j _ hj=>absurd hj (Nat.not_lt_zero _),by simp⟩,by simp⟩,fun i hi=>absurd hi (Nat.not_lt_zero _)⟩⟩
open ULaw5f4 in
theorem zt1 (p:Pg) (hp:p.ok) (d:Dt) (hd:d.raw) (ops:List Op1) (ho:iP ops) (u:Nat) (hu:u<256):
  EPure prog G0 4 [.agg p.c,.agg d.c,lJ ops,u8 u] fun v=>v=bo true:=by
 refine ECall.cut (R:=fun v _=>v=bo true) (pv func4 130 false (by kernel_rfl) rfl rfl ?_) (by rintro p h rfl;rfl)
 refine g2 ?_
 refine ge ?_
 (refine g1 ?_;refine zC (zl6 _) ?_;intro p2 h2 hr2;refine g2 ?_)
 obtain ⟨rfl,rfl⟩:=hr2
 refine ge ?_
 (refine g1 ?_;refine zC ((zbT p hp d hd).call zK (by simp [zJ]) _) ?_;intro p2 h2 hr2;refine g2 ?_)
 obtain ⟨⟨b,rfl,hb⟩,rfl⟩:=hr2
 cases b with
 |false=>
  refine ge ?_
  rfl
 | true=>
  obtain ⟨⟨hlat,hpl⟩,hfew⟩:=hb rfl
  refine ge ?_
  (refine g1 ?_;refine zC ((gQ ops ho.1).call zK (by simp) _) ?_;intro p2 h2 hr2;refine g2 ?_)
  obtain ⟨⟨b,rfl,hs⟩,rfl⟩:=hr2
  cases b with
  |false=>
   refine ge ?_
   rfl
  | true=>
   have hs:=hs rfl
   have hle:p.sm:=fun x hx=>by have:=hlat x hx;omega
   have hsz:=hd.sz hfew
   have hog:OpsG ops:=OpsG.of hs fun x hx=>(ho.2 x hx).2
   have hpl2:p.preds.length≤1048576:=by omega
   have hev:=zeD p hp hle (zuE p) (zuS p hpl2)
   have htv:=ze0 p hp hle
   have hdx:ze8 (DatX p (zuE p))=zpQ p:=by
    cases h:zpQ p with
    |true=>exact pO ((ztT hp hle).2 h)
    |false=>exact uA fun k=>by have:=(ztT hp hle).1 k;rw [h] at this;cases this
   rw [hdx] at hev
   (repeat (first|refine gz ?_|(refine gn ?_;intro zs zh;(try simp only [go_sem] at zh);subst zh;refine gv ?_)|refine yD ULaw5f4.pp ?_))
   (refine zF rfl rfl rfl ?_;intro sr hsr;simp only [go_sem] at hsr;subst hsr;refine vP rfl (htv.1) (by simp [zJ]) ?_;intro p2 hr2 ts2 hts;simp only [go_sem] at hts;subst hts)
   subst hr2
   (repeat (first|refine gz ?_|(refine gn ?_;intro zs zh;(try simp only [go_sem] at zh);subst zh;refine gv ?_)|refine yD ULaw5f4.pp ?_))
   (refine zF rfl rfl rfl ?_;intro sr hsr;simp only [go_sem] at hsr;subst hsr;refine vP rfl (zt2 p hpl2) (by simp [zJ]) ?_;intro p2 hr2 ts2 hts;simp only [go_sem] at hts;subst hts)
   subst hr2
   (repeat (first|refine gz ?_|(refine gn ?_;intro zs zh;(try simp only [go_sem] at zh);subst zh;refine gv ?_)|refine yD ULaw5f4.pp ?_))
   (refine zF rfl rfl rfl ?_;intro zs zh;simp only [go_sem] at zh;subst zh;refine zP (by decide) (by decide) (hev.call zK (by simp [zJ]) _) ?_;intro p2 h2 hr2 ts2 hts;simp only [go_sem] at hts;subst hts)
   obtain ⟨rfl,rfl⟩:=hr2
   have e3:(zpQ p !=zpQ p)=false:=by simp
   have hA:=zrH p hp hle d hsz ops hog
   (repeat (first|refine gz ?_|(refine gn ?_;intro zs zh;(try simp only [go_sem,e3] at zh);subst zh;refine gv ?_)|refine yD ULaw5f4.pp ?_))
   (refine g1f @e3 ?_;refine zC (hA.call zK (by simp [zJ]) _) ?_;intro p2 h2 hr2;refine g2 ?_)
   obtain ⟨rfl,rfl⟩:=hr2
   by_cases he:(zk4 p d ops).2=0
   case neg=>
    have e4:((zk4 p d ops).2 !=0)=true:=by simp [he]
    refine gf @e4 ?_
    rfl
   have e4:((0:Int)!=0)=false:=rfl
   obtain ⟨-,hxz,hX⟩:=zn8 p hp hle d ops hog.o hsz he
   rw [he]
   generalize (zk4 p d ops).1=x at*
   clear he hA
   have hV:=zeD p hp hle x hxz
   rw [pO hX] at hV
   have hrl:=hX.rl
   have hll:=hX.ll
   have e5:((x.rels.length:Int)!=(p.preds.length:Int))=false:=by simp [hrl]
   have hwu:IntKind.i64.wrap (u:Int)=u:=xM (by omega) (by omega)
   have h5:(prog.underlying 5).isSome=true:=by kernel_rfl
   have hmu:(u:Int).tmod 64=((u%64:Nat):Int):=(Int.ofNat_tmod u 64).symm
   obtain ⟨m,hme⟩: ∃ m,u%64=m:=⟨_,rfl⟩
   rw [hme] at hmu
   refine gf (a5 @e4 @hwu @h5 @hmu @e5) ?_
   refine zO p.preds.length (K4 (K4 (.d::K4 (.v::D4 (.d:: .d::K9 (K9 (K9 (K9 (.k:: .k::D9 (D9 (D9 (D9 (D9 (D9 (D9 (.d:: .d:: .d::K4 (.k:: .k::[]))))))))))))))))) (own:=false) (fun i (_:Heap)=>[i64 i]) (fun J=> .var 27 p.c:: .var 31 d.c:: .var 31 x.c::J) (fun i _=>True) [] rfl rfl trivial (by omega) ?_ ?_
   ·rintro J _
    refine gm ?_
    refine gf @zM ?_
    (refine g1 ?_;refine zC (hV.call zK (by simp [zJ]) _) ?_;intro p2 h2 hr2;refine g2 ?_)
    obtain ⟨rfl,rfl⟩:=hr2
    refine ge ?_
    rfl
   ·rintro i J hi hw _
    refine gm ?_
    have hir:i<x.rels.length:=by omega
    have hil:i<x.lats.length:=by omega
    have hx:=zG (f:=Pd.c) [] hi
    have hy:=zG (f:=fun r=>[uN r]) [] hir
    by_cases hof:p.preds[i].of'= -1
    case neg=>
     have e6:(p.preds[i].of' != -1)=true:=by simp [hof]
     refine gf (a5 @hi @hx @zB @e6 @hw) ?_
     exact ⟨_,trivial,rfl,rfl,rfl⟩
    have e6:(p.preds[i].of' != -1)=false:=by simp [hof]
    obtain ⟨v1,v2⟩:=ztG hp hle hX hi hir hil hof
    have hat:=(v1 m (hxz.r _ (List.getElem_mem hir)).1).call zK (by simp)
    have hlk:=fun (key:List Vl) (h:key.length≤1048576)=>ztB p hp hle x hxz i key h (.inl (by rw [Int.toNat_natCast,eD hi];exact hof)) m
    have v2:=v2 m
    generalize p.preds[i].key.toNat=kk at*
    refine gf (a6 @hi @hir @hx @hy @zB @e6) ?_
    (refine g1f (a6 @hi @hir @hx @hy @zB @e6) ?_;refine zC (hat _) ?_;intro p2 h2 hr2;refine g2 ?_)
    obtain ⟨⟨L,rfl,hL,hLA⟩,hh⟩:=hr2
    have hh:=hh.symm
    subst hh
    refine ge ?_
    refine zO L.length (K4 (K4 (.d::K4 (.k:: .k:: .v::D4 (K9 (K9 (K9 (K9 (K9 (K9 (K4 (.k::D9 (D9 (D9 (D9 (D9 (K4 (.k:: .k::[])))))))))))))))))) (own:=false) (fun j (_:Heap)=>[i64 j]) (fun J=> .var 27 p.c:: .var 31 d.c:: .var 31 x.c::J) (fun i _=>True) J rfl rfl trivial (by omega) ?_ ?_
    ·rintro J _
     refine gm ?_
     refine gf (a2 @zM @hw) ?_
     exact ⟨_,trivial,rfl,rfl,rfl⟩
    ·rintro j J hj hw2 _
     refine gm ?_
     have hz:=zG (f:=fun a:List Vl=>[pH a]) [] hj
     obtain ⟨l1,l2,l3⟩:=v2 _ (hLA _ (List.getElem_mem hj))
     generalize L[j]=a at*
     have hko:=znA p ⟨i,a,0⟩
     dsimp only at hko
     rw [l2] at hko
     dsimp only at hko
     have hlk:=hlk (a.take kk) (by rw [List.length_take];omega)
     rw [l3] at hlk
     have hsa:=zlK a a (by omega)
     have hda:decide (a=a)=true:=by simp
     rw [hda] at hsa
     have hm1:((-1:Int)!= -1)=false:=rfl
     unfold faV at hlk
     (repeat (first|refine gz ?_|(refine gn ?_;intro zs zh;(try simp only [go_sem,hi,hj,hz,zB] at zh);subst zh;refine gv ?_)|refine yD ULaw5f4.pp ?_))
     (refine zF rfl rfl rfl ?_;intro zs zh;simp only [go_sem,hi,hj,hz,zB] at zh;subst zh;refine zP (by decide) (by decide) (hko.call zK (by simp [zJ]) _) ?_;intro p2 h2 hr2 ts2 hts;simp only [go_sem] at hts;subst hts)
     obtain ⟨rfl,rfl⟩:=hr2
     (repeat (first|refine gz ?_|(refine gn ?_;intro zs zh;(try simp only [go_sem] at zh);subst zh;refine gv ?_)|refine yD ULaw5f4.pp ?_))
     (refine g1 ?_;refine zC (hlk.call zK (by simp [zJ]) _) ?_;intro p2 h2 hr2;refine g2 ?_)
     obtain ⟨rfl,rfl⟩:=hr2
     (repeat (first|refine gz ?_|(refine gn ?_;intro zs zh;(try simp only [go_sem,hj,hz,zB,zA,zD] at zh);subst zh;refine gv ?_)|refine yD ULaw5f4.pp ?_))
     (refine vY ?_;refine zN rfl rfl rfl ?_;intro sr hsr;simp only [sK,wP] at hsr;subst hsr;(first|refine pK ?_|refine pL ?_);intro sr hsr;simp only [go_sem,hj,hz,zB,zA,zD] at hsr;subst hsr;refine zP (by decide) (by decide) (hsa.call zK (by simp) _) ?_;intro p2 h2 hr2 ts2 hts;simp only [go_sem] at hts;subst hts)
     obtain ⟨rfl,rfl⟩:=hr2
     (repeat (first|refine gz ?_|(refine gn ?_;intro zs zh;(try simp only [go_sem,hj,hz,zB,zA,zD,hm1,hw2] at zh);subst zh;refine gv ?_)|refine yD ULaw5f4.pp ?_))
     exact ⟨_,trivial,rfl,rfl,rfl⟩
end Go.AL
namespace Go.Proofs.YtcffidhiaihbkaaGreatDoor
open Go.ChangeShapes Go.WideShapes Go.ChangeAt Go.RowKit Go.AL Go.Proofs
theorem own:ownKnob Tryz.prog.godebug=none:=by kernel_rfl
theorem oO:laidOutB Tryz.prog=true:=by kernel_rfl
theorem ul5:Tryz.prog.underlying 5=some (.int .u8):=by kernel_rfl
theorem ul4:Tryz.prog.underlying 4=some .bool:=by kernel_rfl
theorem znX:Tryz.f4.params= #[27,31,44,5]:=by kernel_rfl
theorem zdL {W:World} (h:laidMetH Tryz.prog Rows.baseValidRow.laid W):GRel ⟨[],[],W,fun _=>False⟩ G0:=by
 rw [MakeChecks.laidMetH_plain _ _ _ (by kernel_rfl)] at h
 obtain ⟨ps,⟨g0,t0,cs0,f0,p0,q0,hg0,ht0,hv0,hd0,⟨g1,t1,cs1,f1,p1,q1,hg1,ht1,hv1,hd1,⟨g2,t2,cs2,f2,p2,q2,hg2,ht2,hv2,hd2,_,_⟩,_⟩,_⟩,_,_⟩:=h
 obtain rfl:=Option.some.inj ((show Tryz.prog.globalNamed "math/bits.deBruijn64tab" =some 2 by kernel_rfl).symm.trans hg0)
 obtain rfl:=Option.some.inj ((show Tryz.prog.globalNamed "porism/lattice.keys" =some 1 by kernel_rfl).symm.trans hg1)
 obtain rfl:=Option.some.inj ((show Tryz.prog.globalNamed "porism/value.words" =some 0 by kernel_rfl).symm.trans hg2)
 obtain rfl:=Option.some.inj ((show (Tryz.prog.globals[2]?).map (·.type)=some 297 by kernel_rfl).symm.trans ht0)
 obtain rfl:=Option.some.inj ((show (Tryz.prog.globals[1]?).map (·.type)=some 70 by kernel_rfl).symm.trans ht1)
 obtain rfl:=Option.some.inj ((show (Tryz.prog.globals[0]?).map (·.type)=some 221 by kernel_rfl).symm.trans ht2)
 have r0:=eP (X:=fun _=>False) (fun _ h=>h) (n:=2) (by kernel_rfl) hg0 hv0 hd0 (show _=db by kernel_rfl)
 have r1:=eP (X:=fun _=>False) (fun _ h=>h) (n:=2) (by kernel_rfl) hg1 hv1 hd1 (show _=[.ts 1 (ws.map ([·]))] by kernel_rfl)
 have r2:=eP (X:=fun _=>False) (fun _ h=>h) (n:=2) (by kernel_rfl) hg2 hv2 hd2 (show _=ws by kernel_rfl)
 intro g cs hG
 unfold G0 at hG
 split at hG
 ·rename_i e;rw [beq_iff_eq] at e;subst e;cases hG;exact r2
 ·split at hG
  ·rename_i e;rw [beq_iff_eq] at e;subst e;cases hG;exact r1
  ·split at hG
   ·rename_i e;rw [beq_iff_eq] at e;subst e;cases hG;exact r0
   ·cases hG
set_option maxRecDepth 100000 in
theorem zk7 (os:Os) (started:os.Started) (H:Type) (enc:TypeId×Value→H):
  ReturnsInHanded {} Tryz.checked os 4 .any (fun w args=>(Rows.baseValidSpec.pre enc Tryz.prog Tryz.f4 [] false w args∧laidMetH Tryz.prog Rows.baseValidRow.laid w)∧sizedMet enc Tryz.prog Tryz.f4 (OpenSpec.ofChange Rows.baseValidSpec) false w args)
   (Rows.baseValidSpec.post enc Tryz.prog Tryz.f4 false true false false):=by
 refine returnsInHanded_of_change_and (C:=Tryz.checked) (X:=fun w _=>laidMetH Tryz.prog Rows.baseValidRow.laid w) (fun _ _ _ hh h=>h.of_heap hh) own started (by kernel_rfl) Tryz.func4
  (ChangeSpec.witness_shaped (enc:=enc) (C:=Tryz.checked) (os:=os) (X:=fun w _=>laidMetH Tryz.prog Rows.baseValidRow.laid w) false (World.laidAll Tryz.prog os Rows.baseValidRow.laid) #[.agg #[.slice none 0 0,.slice none 0 0,.slice none 0 0,.slice none 0 0],.agg #[.slice none 0 0,.slice none 0 0],.slice none 0 0,.int .u8 0] 8 (World.laidAll_os _ _ _)
   (World.shaped_of_ZipB (by kernel_rfl) (by kernel_rfl)) (by kernel_rfl) (by kernel_rfl) (by kernel_rfl)
   (by rw [MakeChecks.laidMetH_plain _ _ _ (by kernel_rfl)];exact laidMet_laidAll _ (by kernel_rfl) (by kernel_rfl))) ?_
 intro W base args ds gs before hval0 hW hc hsz hL _
 have hval: ∀ (j:Nat) t v,Tryz.f4.params[j]? =some t→args[j]? =some v→Value.okWide Tryz.prog W .any base t v:=hval0
 have hW':=hW
 obtain ⟨p,q,hA0,hV,rfl,_,_⟩:=hW
 have hA:DataW.TrodAll enc Tryz.prog W 0 (fun _=>true) true Tryz.f4.params.toList args.toList ds p:=hA0
 rw [znX] at hA hval
 obtain ⟨v0,vs0,d0,ds0,p0,q0,hargs,rfl,rfl,h0,t0⟩:=trodAll_cons hA
 obtain ⟨v1,vs1,d1,ds1,p1,q1,rfl,rfl,rfl,h1,t1⟩:=trodAll_cons t0
 obtain ⟨v2,vs2,d2,ds2,p2,q2,rfl,rfl,rfl,h2,t2⟩:=trodAll_cons t1
 obtain ⟨v3,vs3,d3,ds3,p3,q3,rfl,rfl,rfl,h3,t3⟩:=trodAll_cons t2
 obtain ⟨rfl,rfl,rfl⟩:=trodAll_nil t3
 obtain rfl:args= #[v0,v1,v2,v3]:=by cases args;simp_all
 obtain ⟨rfl,rfl⟩:=trodVars_none hV
 rw [List.all_eq_true] at hsz
 have w0:Light Tryz.prog 27 d0:=fun k hk=>of_decide_eq_true (hsz k (List.mem_append_left _ hk))
 have w1:Light Tryz.prog 31 d1:=fun k hk=>of_decide_eq_true (hsz k (List.mem_append_right _ (List.mem_append_left _ hk)))
 have w2:Light Tryz.prog 44 d2:=fun k hk=>of_decide_eq_true (hsz k (List.mem_append_right _ (List.mem_append_right _ (List.mem_append_left _ hk))))
 have w3:Light Tryz.prog 5 d3:=fun k hk=>of_decide_eq_true (hsz k (List.mem_append_right _ (List.mem_append_right _ (List.mem_append_right _ (List.mem_append_left _ hk)))))
 obtain ⟨a0,b0,r0⟩:=dPg.arg (ts:=[22,23,24,25]) (by kernel_rfl) (by kernel_rfl) w0 (hval 0 _ v0 rfl rfl) h0
 obtain ⟨a1,b1,r1⟩:=dDt.arg (ts:=[28,29]) (by kernel_rfl) (by kernel_rfl) w1 (hval 1 _ v1 rfl rfl) h1
 obtain ⟨l2,m2,n2,e2⟩:=okWide_slice (show Tryz.prog.underlying 44=some (.slice 38) by kernel_rfl) (hval 2 _ v2 rfl rfl)
 obtain ⟨a2,b2,r2⟩:=zfP.arg1 (by kernel_rfl) (by rw [e2];rfl) w2 h2
 obtain ⟨x3,e3,f3,g3,k3⟩:=open_int ul5 (hval 3 _ v3 rfl rfl) h3
 have z3:0≤x3∧x3≤255:=by simpa [Lit.wf,IntKind.min,IntKind.max,IntKind.signed,IntKind.bits] using k3
 obtain ⟨x3,rfl⟩:=Int.eq_ofNat_of_zero_le z3.1
 have hS:SRel ⟨[],[],W,fun _=>False⟩:=⟨rfl,fun r b v h=>by simp at h,fun r r' v v' n h=>by simp at h,fun a h=>h.elim,fun a h=>h.elim⟩
 obtain ⟨pr,rfl, -,hcall⟩:=zt1 a0 b0 a1 b1 a2 b2 x3 (by omega)
 have law:=hcall.2 [] W (fun _=>False) #[v0,v1,v2,v3] hS (zdL hL) rfl fun i p v hp hv=>by
  match i,hp,hv with
  |0,hp,hv=>simp at hp hv;subst hp;subst hv;exact r0
  |1,hp,hv=>simp at hp hv;subst hp;subst hv;exact r1
  |2,hp,hv=>simp at hp hv;subst hp;subst hv;exact r2
  |3,hp,hv=>simp at hp hv;subst hp;subst hv;rw [e3];exact .sc ⟨by rw [zlC];omega,by rw [zlD];omega⟩
  |i+4,hp,hv=>simp at hp
 have hlt0: ∀ z∈p0,z.block<W.heap.size:=fun z hz=>by
  have:=hW'.lt z (by simp [hz])
  simpa using this
 have hlt1: ∀ z∈p1,z.block<W.heap.size:=fun z hz=>by
  have:=hW'.lt z (by simp [hz])
  simpa using this
 have hlt2: ∀ z∈p2,z.block<W.heap.size:=fun z hz=>by
  have:=hW'.lt z (by simp [hz])
  simpa using this
 have hlt3: ∀ z∈p3,z.block<W.heap.size:=fun z hz=>by
  have:=hW'.lt z (by simp [hz])
  simpa using this
 refine (callsIn_wide.1 law).mono fun e W' ⟨φ',h',p,v,he,hext,_,hrel,hp,_⟩=> ?_
 subst he;subst hp
 have hb:=zdY hext
 obtain rfl:v= .bool true:=by cases hrel;rfl
 exact ⟨_,rfl,_,_,_,[],_,[],hW',trodAll_mk1 (shut_bool ul4 _),trodAll_cons_mk (Below.trod oO (by kernel_rfl) (of_decide_eq_true (by kernel_rfl)) h0 hb (hlt0)) (trodAll_cons_mk (Below.trod oO (by kernel_rfl) (of_decide_eq_true (by kernel_rfl)) h1 hb (hlt1)) (trodAll_cons_mk (Below.trod oO (by kernel_rfl) (of_decide_eq_true (by kernel_rfl)) h2 hb (hlt2)) (trodAll_mk1 (Below.trod oO (by kernel_rfl) (of_decide_eq_true (by kernel_rfl)) h3 hb (hlt3))))),rfl,hb.frame _,fun h=>by cases h⟩
end Go.Proofs.YtcffidhiaihbkaaGreatDoor
namespace Go.Proofs.YtcffidhiaihbkaaGreatDoor
open Go
theorem jf0:(Rows.baseValidRow.wf (OpenSpec.ofChange Rows.baseValidSpec))=true:=by kernel_rfl
theorem jf1:(laidOutB Tryz.prog)=true:=by kernel_rfl
theorem jf2:(mapsRowed Tryz.prog)=true:=by kernel_rfl
theorem jf3:(Tryz.f4.params.all (Tryz.prog.readableRec ·))=true:=by kernel_rfl
theorem jf4:(namedTie Tryz.prog Rows.baseValidRow.named Rows.baseValidSpec.vars)=true:=by kernel_rfl
theorem jf5:((Rows.baseValidRow.stops==[]))=true:=by kernel_rfl
theorem jf6:((Tryz.prog.stops==[]))=true:=by kernel_rfl
theorem jf7:((Rows.baseValidRow.knobs==[]))=true:=by kernel_rfl
theorem jf8:((Tryz.prog.stopKnobs==[]))=true:=by kernel_rfl
theorem jf9:((Rows.baseValidRow.inPlace==Tryz.prog.inPlace 4))=true:=by kernel_rfl
theorem zcJ:((Rows.baseValidRow.unfollowed==Tryz.prog.unfollowed 4))=true:=by kernel_rfl
theorem fZ:((Rows.baseValidRow.recurses==Tryz.prog.recurses 4))=true:=by kernel_rfl
theorem gE:((Rows.baseValidRow.named==Tryz.prog.varsNamed 4))=true:=by kernel_rfl
theorem gD:((Rows.baseValidRow.maps==(Tryz.f4.params.toList++Rows.baseValidSpec.plain.varTypes Tryz.prog).any (Tryz.prog.mapsRec ·)))=true:=by kernel_rfl
theorem jE:((Rows.baseValidRow.ifaces==(Tryz.f4.params.toList++Rows.baseValidSpec.plain.varTypes Tryz.prog).any (Tryz.prog.ifacesRec ·)))=true:=by kernel_rfl
theorem mF:((Rows.baseValidRow.mapsOut==Tryz.prog.mapsAmong Tryz.f4.resultTypes.toList))=true:=by kernel_rfl
theorem mE:((Rows.baseValidRow.loops==(Tryz.f4.params.toList++Rows.baseValidSpec.plain.varTypes Tryz.prog).any (Tryz.prog.loopsFrom ·)))=true:=by kernel_rfl
theorem mD:((Rows.baseValidRow.wideKeys==(Tryz.f4.params.toList++Rows.baseValidSpec.plain.varTypes Tryz.prog++Tryz.f4.resultTypes.toList).any (Tryz.prog.wideKeysFrom ·)))=true:=by kernel_rfl
theorem nZ:(Rows.baseValidSpec.vars.all (Tryz.prog.varReadable ·))=true:=by kernel_rfl
theorem nH:(Tryz.f4.resultTypes.all (fun t=>Tryz.prog.readableRec t&&decide (t<Tryz.prog.types.size)))=true:=by kernel_rfl
theorem nE:((Rows.baseValidRow.ifacesOut==Tryz.f4.resultTypes.toList.any (Tryz.prog.ifacesRec ·)))=true:=by kernel_rfl
theorem nD:((Rows.baseValidRow.loopsOut==Tryz.f4.resultTypes.toList.any (Tryz.prog.loopsFrom ·)))=true:=by kernel_rfl
theorem nC:((Rows.baseValidRow.plainKeys==Tryz.prog.plainKeys))=true:=by kernel_rfl
theorem nB:(Rows.baseValidRow.shortTexts.isNone)=true:=by kernel_rfl
theorem nA:(Tryz.prog.stopsHeard)=true:=by kernel_rfl
theorem oZ:(Tryz.prog.mayEnter)=true:=by kernel_rfl
theorem oY:((Rows.baseValidRow.lifted==Tryz.prog.liftsFinal))=true:=by kernel_rfl
theorem oX:((Tryz.prog.make==some Rows.baseValidRow.make))=true:=by kernel_rfl
theorem oW:((Rows.baseValidRow.kinds==(if Rows.baseValidRow.domain.isEmpty then [] else Tryz.f4.params.toList.map fun t=>match Tryz.prog.underlying t with|some (.int k)=>some k|_=>none)))=true:=by kernel_rfl
theorem oV:((Rows.baseValidRow.pinned==Rows.baseValidRow.pinnedBy))=true:=by kernel_rfl
theorem pT:((Rows.baseValidRow.veiled==(Tryz.f4.params.toList++Rows.baseValidSpec.plain.varTypes Tryz.prog++Tryz.f4.resultTypes.toList).any (Tryz.prog.veiledRec ·)))=true:=by kernel_rfl
theorem pS:(Rows.baseValidRow.veiledFits Tryz.prog Tryz.f4.params.toList (Tryz.f4.params.toList++Rows.baseValidSpec.plain.varTypes Tryz.prog++Tryz.f4.resultTypes.toList))=true:=by kernel_rfl
end Go.Proofs.YtcffidhiaihbkaaGreatDoor
