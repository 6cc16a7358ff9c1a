/-
  The row of BranchIsolated, walked over whatever input it takes.
-/
import Derived.Test.YtfjkncfjclifoaaGreatDoorZ43
import Derived.Test.YtfjkncfjclifoaaGreatDoorTie
import Derived.Test.YtfjkncfjclifoaaGreatDoorCards
import Derived.Handy
import Derived.Lay
import Derived.ChangeMaps5
import Derived.SevenTiedAt
set_option linter.unusedSimpArgs false
set_option linter.unusedVariables false
set_option maxRecDepth 100000
set_option maxHeartbeats 4000000
namespace Go.AL
open Go.Proofs Go.Proofs.Tryz
@[go_sem] def UIso2f3.pp:Nat→DPlan
 |5=>⟨[yE,yE,yA,yE,yA,yA,yA,yE,yA,uX,yA,yA,yA,yA,vC,yC,yA,yA],yM,1⟩
 |6=>⟨[yE,yE,yA,yE,yA,yA,yA,yE,uX,yA,yA,yA,vC,yC,yA],yG,1⟩
 |15=>⟨[yA,yB,yA,yA,yA,yB,yA,yB,yA,yA,yA,yB,yA,yA,yA,yA,yA,yA,yA,yB,yA,yA,yA,yB,yA,yB,yA,yA,yA,yB,yA,yA,yA,yA,yA,yA,yA,yA,yA,yB,yA,yA,yA,yB,yA,yA,yA,yA],[0,1,2,3,4,5,6,7,8,9,10,11,12,13,14,15,16,17,18,19,20,21,22,23,24,25,26,27,28,29,30,31,32,33,34,35,36,37,38,39,40,41,42,43,44,45,46,47],0⟩
 |_=>⟨[],[],0⟩
@[go_sem] def UIso2f3.pl:Nat→DPlan
 |5=>⟨[yE,yE,yA,yE,yA,yA,yA,yE,yA,rK,yA,yA,yA,yA,vC,yC,yA,yA],yM,1⟩
 |6=>⟨[yE,yE,yA,yE,yA,yA,yA,yE,rK,yA,yA,yA,vC,yC,yA],yG,1⟩
 |15=>⟨[yA,yB,yA,yA,yA,yB,yA,yB,yA,yA,yA,yB,yA,yA,yA,yA,yA,yA,yA,yB,yA,yA,yA,yB,yA,yB,yA,yA,yA,yB,yA,yA,yA,yA,yA,yA,yA,yA,yA,yB,yA,yA,yA,yB,yA,yA,yA,yA],[0,1,2,3,4,5,6,7,8,9,10,11,12,13,14,15,16,17,18,19,20,21,22,23,24,25,26,27,28,29,30,31,32,33,34,35,36,37,38,39,40,41,42,43,44,45,46,47],0⟩
 |_=>⟨[],[],0⟩
open UIso2f3 in
theorem zjM (p:Pg) (hp:p.ok) (r:Rp) (hr:r.raw) (u:Nat) (hu:u<256) (ops:List Op1) (ho:iP ops) (u2:Nat) (hu2:u2<256):
  EPure prog G0 3 [.agg p.c,.agg r.c,u8 u,lJ ops,u8 u2] fun v=>v=bo true:=by
 refine ECall.cut (R:=fun v _=>v=bo true) (pv func3 231 false (by kernel_rfl) rfl rfl ?_) (by rintro p h rfl;rfl)
 refine g2 ?_
 refine ge ?_
 (refine g1 ?_;refine zC (zl6 _) ?_;intro p2 h2 hr2;refine g2 ?_)
 obtain ⟨rfl,rfl⟩:=hr2
 refine ge ?_
 (refine g1 ?_;refine zC ((zf7 p hp r hr.cl hr.bl (fun c hc=>(hr.c c hc).1)).call zK (by simp [zJ]) _) ?_;intro p2 h2 hr2;refine g2 ?_)
 obtain ⟨⟨b,rfl,hb⟩,rfl⟩:=hr2
 cases b with
 |false=>
  refine ge ?_
  rfl
 | true=>
  obtain ⟨hlat,hc16,hb20,hsh⟩:=hb rfl
  refine ge ?_
  (refine g1 ?_;refine zC ((gQ ops ho.1).call zK (by simp) _) ?_;intro p2 h2 hr2;refine g2 ?_)
  obtain ⟨⟨b,rfl,hs⟩,rfl⟩:=hr2
  cases b with
  |false=>
   refine ge ?_
   rfl
  | true=>
   have hs:=hs rfl
   have hle:p.sm:=fun x hx=>by have:=hlat x hx;omega
   have hsz:r.sz:=⟨by omega,fun c hc=>OpsG.of (hsh c hc) fun x hx=>((hr.c c hc).2 x hx).2,by omega,hr.b⟩
   have hog:OpsG ops:=OpsG.of hs fun x hx=>(ho.2 x hx).2
   have ha:=znV p hp hle
   refine ge ?_
   (refine g1 ?_;refine zC ((zdA p hp hle ha r hsz).call zK (by simp [zJ]) _) ?_;intro p2 h2 hr2;refine g2 ?_)
   obtain ⟨rfl,rfl⟩:=hr2
   cases hch:zh8 p r with
   |none=>
    refine ge ?_
    rfl
   | some st=>
    obtain ⟨hbr, -,hll⟩:=zb7 hch
    obtain ⟨hpos, -⟩:=hbr.2.2.1
    have hne:((r.bs.length:Int)==0)=false:=by rw [beq_eq_false_iff_ne];omega
    have hn0: ¬((r.bs.length:Int)=0):=by omega
    have hwu:IntKind.i64.wrap (u:Int)=u:=xM (by omega) (by omega)
    have hwu2:IntKind.i64.wrap (u2:Int)=u2:=xM (by omega) (by omega)
    have h5:(prog.underlying 5).isSome=true:=by kernel_rfl
    have hmu:(u:Int).tmod r.bs.length=((u%r.bs.length:Nat):Int):=(Int.ofNat_tmod u r.bs.length).symm
    have hk:=Nat.mod_lt u hpos
    obtain ⟨k,hke⟩: ∃ k,u%r.bs.length=k:=⟨_,rfl⟩
    rw [hke] at hmu hk
    have hx:=zG (f:=Br.c) [] hk
    obtain ⟨hix,hl1,hl2⟩:=zgK hbr hk
    have e3:((0:Int)!=0)=false:=rfl
    have e4:((0:Int)==0)=true:=rfl
    have hbl: ∀ a:Int,(a !=a)=false:=fun a=>by simp
    have hbs: ∀ s:BA,decide (s=s)=true:=fun s=>by simp
    have hcm: ∀ c,(zcI p st c).cm:=fun c=>uC (wP hp hle ha hsz hch c)
    have S0:=yF p hp hle ha r hsz r.bs[k].last
    rw [yL hch ⟨hl1,hl2⟩] at S0
    dsimp only at S0
    have hC:=fH p hp hle ha r hsz r.bs[k].name ops hog
    have hcE:=vK (ops:=ops) hch hk hix (by omega)
    have hA:=(ha (zcI p st r.bs[k].last) ops (wP hp hle ha hsz hch _) hog).1
    (repeat (first|refine gz ?_|(refine gn ?_;intro zs zh;(try simp only [go_sem,Option.isSome_some,hne,hn0,hwu,h5,hmu,hk,hx,zB] at zh);subst zh;refine gv ?_)|refine yD UIso2f3.pp ?_))
    (refine zF rfl rfl rfl ?_;intro sr hsr;simp only [go_sem,hmu,hk,hx,zB] at hsr;subst hsr;refine vP rfl (hC) (by simp [zJ]) ?_;intro p2 hr2 ts2 hts;simp only [go_sem] at hts;subst hts)
    obtain ⟨x,n,rfl,hK⟩:=hr2
    (repeat (first|refine gz ?_|(refine gn ?_;intro zs zh;(try simp only [go_sem,hmu,hk,hx,zB] at zh);subst zh;refine gv ?_)|refine yD UIso2f3.pp ?_))
    (refine zF rfl rfl rfl ?_;intro sr hsr;simp only [go_sem,hmu,hk,hx,zB] at hsr;subst hsr;refine vP rfl (S0) (by simp [zJ]) ?_;intro p2 hr2 ts2 hts;simp only [go_sem] at hts;subst hts)
    subst hr2
    (repeat (first|refine gz ?_|(refine gn ?_;intro zs zh;(try simp only [go_sem,hmu,hk,hx,zB] at zh);subst zh;refine gv ?_)|refine yD UIso2f3.pp ?_))
    (refine g1f @e3 ?_;refine zC (hA.call zK (by simp [zJ]) _) ?_;intro p2 h2 hr2;refine g2 ?_)
    obtain ⟨rfl,rfl⟩:=hr2
    by_cases he:zh7 p r r.bs[k].name ops=0
    case neg=>
     rw [hcE] at he ⊢
     generalize (zk4 p (zcI p st r.bs[k].last) ops).2=e at*
     have e5:(e !=0)=true:=by simp [he]
     have e6:(e==e)=true:=by simp
     refine gf (a4 @e5 @e4 @e6 @e3) ?_
     rfl
    obtain ⟨X,rfl⟩:=yZ hsz hch hog hk hix he (hK he)
    have he':=hcE.symm.trans he
    rw [he,he']
    have hxl:=X.len
    have hxc:=X.cl
    have hwx:IntKind.i64.wrap ((r.cs.length:Int)+1)=(x.cs.length:Nat):=by rw [xM (by omega) (by omega)];omega
    refine gf (a5 @e3 @e4 @hbl @hwx @hxl) ?_
    refine zO r.bs.length (K9 (.k:: .d::K9 (.v::K9 (K9 (K9 (K9 (K9 (K9 (K9 (K9 (K9 (K9 (K9 (.k:: .k::D9 (D9 (D9 (D9 (D9 (D9 (.d::K9 (K9 (K9 (K9 (K9 (K9 ([])))))))))))))))))))))))))) (own:=false) (fun i (_:Unit)=>[i64 i]) (fun _=>_) (fun _ _=>True) () rfl rfl trivial (by omega) ?_ ?_
    ·rintro _ _
     refine gm ?_
     obtain ⟨c,hc⟩: ∃ c:Int,IntKind.i64.wrap (((u2%x.cs.length:Nat):Int)-1)=c:=⟨_,rfl⟩
     have hc2: -1≤c∧c<r.cs.length:=by
      have:=Nat.mod_lt u2 (show 0<x.cs.length by omega)
      rw [xM (by omega) (by omega)] at hc
      omega
     have hne2:((x.cs.length:Int)==0)=false:=by rw [beq_eq_false_iff_ne];omega
     have hn02: ¬((x.cs.length:Int)=0):=by omega
     have hmu2:(u2:Int).tmod x.cs.length=((u2%x.cs.length:Nat):Int):=(Int.ofNat_tmod u2 x.cs.length).symm
     have hXc:=X.ch
     have hs1:=hcm c
     have hs2:=uC (wP hp hle ha X.sz hXc (st.length:Nat))
     rw [yW] at hs2
     have hs1:=yH _ hs1
     have hs2:=yH _ hs2
     have S1:=yF p hp hle ha r hsz c
     rw [yL hch hc2] at S1
     have S2:=yF p hp hle ha x X.sz c
     rw [yL hXc (by omega),wL (by omega)] at S2
     have S3:=yF p hp hle ha x X.sz (r.cs.length:Nat)
     rw [yL hXc (by omega), ←hll,yW,hll] at S3
     dsimp only at S1 S2 S3
     generalize (zk4 p (zcI p st r.bs[k].last) ops).1=d1 at*
     generalize zcI p st c=d2 at*
     (repeat (first|refine gz ?_|(refine gn ?_;intro zs zh;(try simp only [go_sem,zM,Option.isSome_some,hwx,hne2,hn02,hwu2,h5,hmu2,hc,zB] at zh);subst zh;refine gv ?_)|refine yD UIso2f3.pp ?_))
     (refine g1f @e3 ?_;refine zC (S1.call zK (by simp [zJ]) _) ?_;intro p2 h2 hr2;refine g2 ?_)
     obtain ⟨rfl,rfl⟩:=hr2
     refine gf @e3 ?_
     (refine g1f @e3 ?_;refine zC (S2.call zK (by simp [zJ]) _) ?_;intro p2 h2 hr2;refine g2 ?_)
     obtain ⟨rfl,rfl⟩:=hr2
     refine gf @e3 ?_
     (refine g1f @e3 ?_;refine zC (S3.call zK (by simp [zJ]) _) ?_;intro p2 h2 hr2;refine g2 ?_)
     obtain ⟨rfl,rfl⟩:=hr2
     refine gf (a2 @e3 @e4) ?_
     (refine g1f @e4 ?_;refine zC (hs1.call zK (by simp [zJ]) _) ?_;intro p2 h2 hr2;refine g2 ?_)
     obtain ⟨rfl,rfl⟩:=hr2
     refine ge ?_
     (refine g1f @e4 ?_;refine zC (hs2.call zK (by simp [zJ]) _) ?_;intro p2 h2 hr2;refine g2 ?_)
     obtain ⟨rfl,rfl⟩:=hr2
     refine ge ?_
     rfl
    ·rintro i _ hi hw _
     refine gm ?_
     have hix2:i<x.bs.length:=by omega
     have hiT:(i<r.bs.length)=True:=eq_true hi
     have hiT2:((i:Int)<(r.bs.length:Int))=True:=eq_true (by omega)
     have hnm:x.bs[i].name=r.bs[i].name:=by
      have:=X.nm
      have e1:(x.bs.map (·.name))[i]? =(r.bs.map (·.name))[i]? :=by rw [this]
      rw [List.getElem?_map,List.getElem?_map,List.getElem?_eq_getElem hix2,List.getElem?_eq_getElem hi] at e1
      simpa using e1
     have hri:(r.bs.map Br.c).getD i []=[yQ r.bs[i].name,i64 r.bs[i].last]:=zG (f:=Br.c) [] hi
     have hxi:(x.bs.map Br.c).getD i []=[yQ x.bs[i].name,i64 x.bs[i].last]:=zG (f:=Br.c) [] hix2
     rw [hnm] at hxi
     by_cases hik:i=k
     ·subst hik
      rw [X.at' hix2] at hxi
      have f2:((i:Int)==(i:Int))=true:=by simp
      (repeat (first|refine gz ?_|(refine gn ?_;intro zs zh;(try simp only [go_sem,hi,hiT,hiT2,hw,hxl,hri,hxi,hbl,hbs,f2,zB] at zh);subst zh;refine gv ?_)|refine yD UIso2f3.pp ?_))
      exact ⟨(),trivial,rfl,rfl,rfl⟩
     ·rw [X.ne i hix2 hi hik] at hxi
      have f1:((i:Int)!=(k:Int))=true:=by simp;omega
      have f2:((i:Int)==(k:Int))=false:=by rw [beq_eq_false_iff_ne];omega
      (repeat (first|refine gz ?_|(refine gn ?_;intro zs zh;(try simp only [go_sem,hi,hiT,hiT2,hw,hxl,hri,hxi,hbl,hbs,f1,f2,zB] at zh);subst zh;refine gv ?_)|refine yD UIso2f3.pp ?_))
      exact ⟨(),trivial,rfl,rfl,rfl⟩
end Go.AL
namespace Go.Proofs.YtfjkncfjclifoaaGreatDoor
open Go.ChangeShapes Go.WideShapes Go.ChangeAt Go.RowKit Go.AL Go.Proofs
theorem own:ownKnob Tryz.prog.godebug=none:=by kernel_rfl
theorem oO:laidOutB Tryz.prog=true:=by kernel_rfl
theorem ul5:Tryz.prog.underlying 5=some (.int .u8):=by kernel_rfl
theorem ul4:Tryz.prog.underlying 4=some .bool:=by kernel_rfl
theorem ul9:Tryz.prog.underlying 9=some .string:=by kernel_rfl
theorem znX:Tryz.f3.params= #[27,31,5,32,5]:=by kernel_rfl
theorem zdL {W:World} (h:laidMetH Tryz.prog Rows.branchIsolatedRow.laid W):GRel ⟨[],[],W,fun _=>False⟩ G0:=by
 rw [MakeChecks.laidMetH_plain _ _ _ (by kernel_rfl)] at h
 obtain ⟨ps,⟨g0,t0,cs0,f0,p0,q0,hg0,ht0,hv0,hd0,⟨g1,t1,cs1,f1,p1,q1,hg1,ht1,hv1,hd1,⟨g2,t2,cs2,f2,p2,q2,hg2,ht2,hv2,hd2,_,_⟩,_⟩,_⟩,_,_⟩:=h
 obtain rfl:=Option.some.inj ((show Tryz.prog.globalNamed "math/bits.deBruijn64tab" =some 2 by kernel_rfl).symm.trans hg0)
 obtain rfl:=Option.some.inj ((show Tryz.prog.globalNamed "porism/lattice.keys" =some 1 by kernel_rfl).symm.trans hg1)
 obtain rfl:=Option.some.inj ((show Tryz.prog.globalNamed "porism/value.words" =some 0 by kernel_rfl).symm.trans hg2)
 obtain rfl:=Option.some.inj ((show (Tryz.prog.globals[2]?).map (·.type)=some 310 by kernel_rfl).symm.trans ht0)
 obtain rfl:=Option.some.inj ((show (Tryz.prog.globals[1]?).map (·.type)=some 108 by kernel_rfl).symm.trans ht1)
 obtain rfl:=Option.some.inj ((show (Tryz.prog.globals[0]?).map (·.type)=some 226 by kernel_rfl).symm.trans ht2)
 have r0:=eP (X:=fun _=>False) (fun _ h=>h) (n:=2) (by kernel_rfl) hg0 hv0 hd0 (show _=db by kernel_rfl)
 have r1:=eP (X:=fun _=>False) (fun _ h=>h) (n:=2) (by kernel_rfl) hg1 hv1 hd1 (show _=[.ts 1 (ws.map ([·]))] by kernel_rfl)
 have r2:=eP (X:=fun _=>False) (fun _ h=>h) (n:=2) (by kernel_rfl) hg2 hv2 hd2 (show _=ws by kernel_rfl)
 intro g cs hG
 unfold G0 at hG
 split at hG
 ·rename_i e;rw [beq_iff_eq] at e;subst e;cases hG;exact r2
 ·split at hG
  ·rename_i e;rw [beq_iff_eq] at e;subst e;cases hG;exact r1
  ·split at hG
   ·rename_i e;rw [beq_iff_eq] at e;subst e;cases hG;exact r0
   ·cases hG
set_option maxRecDepth 100000 in
theorem xT (os:Os) (started:os.Started) (H:Type) (enc:TypeId×Value→H):
  ReturnsInHanded {} Tryz.checked os 3 .any (fun w args=>(Rows.branchIsolatedSpec.pre enc Tryz.prog Tryz.f3 [] false w args∧laidMetH Tryz.prog Rows.branchIsolatedRow.laid w)∧sizedMet enc Tryz.prog Tryz.f3 (OpenSpec.ofChange Rows.branchIsolatedSpec) false w args)
   (Rows.branchIsolatedSpec.post enc Tryz.prog Tryz.f3 false true false false):=by
 refine returnsInHanded_of_change_and (C:=Tryz.checked) (X:=fun w _=>laidMetH Tryz.prog Rows.branchIsolatedRow.laid w) (fun _ _ _ hh h=>h.of_heap hh) own started (by kernel_rfl) Tryz.func3
  (ChangeSpec.witness_shaped (enc:=enc) (C:=Tryz.checked) (os:=os) (X:=fun w _=>laidMetH Tryz.prog Rows.branchIsolatedRow.laid w) false (World.laidAll Tryz.prog os Rows.branchIsolatedRow.laid) #[.agg #[.slice none 0 0,.slice none 0 0,.slice none 0 0,.slice none 0 0],.agg #[.slice none 0 0,.slice none 0 0],.int .u8 0,.slice none 0 0,.int .u8 0] 8 (World.laidAll_os _ _ _)
   (World.shaped_of_ZipB (by kernel_rfl) (by kernel_rfl)) (by kernel_rfl) (by kernel_rfl) (by kernel_rfl)
   (by rw [MakeChecks.laidMetH_plain _ _ _ (by kernel_rfl)];exact laidMet_laidAll _ (by kernel_rfl) (by kernel_rfl))) ?_
 intro W base args ds gs before hval0 hW hc hsz hL _
 have hval: ∀ (j:Nat) t v,Tryz.f3.params[j]? =some t→args[j]? =some v→Value.okWide Tryz.prog W .any base t v:=hval0
 have hW':=hW
 obtain ⟨p,q,hA0,hV,rfl,_,_⟩:=hW
 have hA:DataW.TrodAll enc Tryz.prog W 0 (fun _=>true) true Tryz.f3.params.toList args.toList ds p:=hA0
 rw [znX] at hA hval
 obtain ⟨v0,vs0,d0,ds0,p0,q0,hargs,rfl,rfl,h0,t0⟩:=trodAll_cons hA
 obtain ⟨v1,vs1,d1,ds1,p1,q1,rfl,rfl,rfl,h1,t1⟩:=trodAll_cons t0
 obtain ⟨v2,vs2,d2,ds2,p2,q2,rfl,rfl,rfl,h2,t2⟩:=trodAll_cons t1
 obtain ⟨v3,vs3,d3,ds3,p3,q3,rfl,rfl,rfl,h3,t3⟩:=trodAll_cons t2
 obtain ⟨v4,vs4,d4,ds4,p4,q4,rfl,rfl,rfl,h4,t4⟩:=trodAll_cons t3
 obtain ⟨rfl,rfl,rfl⟩:=trodAll_nil t4
 obtain rfl:args= #[v0,v1,v2,v3,v4]:=by cases args;simp_all
 obtain ⟨rfl,rfl⟩:=trodVars_none hV
 rw [List.all_eq_true] at hsz
 have w0:Light Tryz.prog 27 d0:=fun k hk=>of_decide_eq_true (hsz k (List.mem_append_left _ hk))
 have w1:Light Tryz.prog 31 d1:=fun k hk=>of_decide_eq_true (hsz k (List.mem_append_right _ (List.mem_append_left _ hk)))
 have w2:Light Tryz.prog 5 d2:=fun k hk=>of_decide_eq_true (hsz k (List.mem_append_right _ (List.mem_append_right _ (List.mem_append_left _ hk))))
 have w3:Light Tryz.prog 32 d3:=fun k hk=>of_decide_eq_true (hsz k (List.mem_append_right _ (List.mem_append_right _ (List.mem_append_right _ (List.mem_append_left _ hk)))))
 have w4:Light Tryz.prog 5 d4:=fun k hk=>of_decide_eq_true (hsz k (List.mem_append_right _ (List.mem_append_right _ (List.mem_append_right _ (List.mem_append_right _ (List.mem_append_left _ hk))))))
 obtain ⟨a0,b0,r0⟩:=dPg.arg (ts:=[22,23,24,25]) (by kernel_rfl) (by kernel_rfl) w0 (hval 0 _ v0 rfl rfl) h0
 obtain ⟨a1,b1,r1⟩:=dRp.arg (ts:=[28,29]) (by kernel_rfl) (by kernel_rfl) w1 (hval 1 _ v1 rfl rfl) h1
 obtain ⟨x2,e2,f2,g2,k2⟩:=open_int ul5 (hval 2 _ v2 rfl rfl) h2
 have z2:0≤x2∧x2≤255:=by simpa [Lit.wf,IntKind.min,IntKind.max,IntKind.signed,IntKind.bits] using k2
 obtain ⟨x2,rfl⟩:=Int.eq_ofNat_of_zero_le z2.1
 obtain ⟨l3,m3,n3,e3⟩:=okWide_slice (show Tryz.prog.underlying 32=some (.slice 84) by kernel_rfl) (hval 3 _ v3 rfl rfl)
 obtain ⟨a3,b3,r3⟩:=zfP.arg1 (by kernel_rfl) (by rw [e3];rfl) w3 h3
 obtain ⟨x4,e4,f4,g4,k4⟩:=open_int ul5 (hval 4 _ v4 rfl rfl) h4
 have z4:0≤x4∧x4≤255:=by simpa [Lit.wf,IntKind.min,IntKind.max,IntKind.signed,IntKind.bits] using k4
 obtain ⟨x4,rfl⟩:=Int.eq_ofNat_of_zero_le z4.1
 have hS:SRel ⟨[],[],W,fun _=>False⟩:=⟨rfl,fun r b v h=>by simp at h,fun r r' v v' n h=>by simp at h,fun a h=>h.elim,fun a h=>h.elim⟩
 obtain ⟨pr,rfl, -,hcall⟩:=zjM a0 b0 a1 b1 x2 (by omega) a3 b3 x4 (by omega)
 have law:=hcall.2 [] W (fun _=>False) #[v0,v1,v2,v3,v4] hS (zdL hL) rfl fun i p v hp hv=>by
  match i,hp,hv with
  |0,hp,hv=>simp at hp hv;subst hp;subst hv;exact r0
  |1,hp,hv=>simp at hp hv;subst hp;subst hv;exact r1
  |2,hp,hv=>simp at hp hv;subst hp;subst hv;rw [e2];exact .sc ⟨by rw [zlC];omega,by rw [zlD];omega⟩
  |3,hp,hv=>simp at hp hv;subst hp;subst hv;exact r3
  |4,hp,hv=>simp at hp hv;subst hp;subst hv;rw [e4];exact .sc ⟨by rw [zlC];omega,by rw [zlD];omega⟩
  |i+5,hp,hv=>simp at hp
 have hlt0: ∀ z∈p0,z.block<W.heap.size:=fun z hz=>by
  have:=hW'.lt z (by simp [hz])
  simpa using this
 have hlt1: ∀ z∈p1,z.block<W.heap.size:=fun z hz=>by
  have:=hW'.lt z (by simp [hz])
  simpa using this
 have hlt2: ∀ z∈p2,z.block<W.heap.size:=fun z hz=>by
  have:=hW'.lt z (by simp [hz])
  simpa using this
 have hlt3: ∀ z∈p3,z.block<W.heap.size:=fun z hz=>by
  have:=hW'.lt z (by simp [hz])
  simpa using this
 have hlt4: ∀ z∈p4,z.block<W.heap.size:=fun z hz=>by
  have:=hW'.lt z (by simp [hz])
  simpa using this
 refine (callsIn_wide.1 law).mono fun e W' ⟨φ',h',p,v,he,hext,_,hrel,hp,_⟩=> ?_
 subst he;subst hp
 have hb:=zdY hext
 obtain rfl:v= .bool true:=by cases hrel;rfl
 exact ⟨_,rfl,_,_,_,[],_,[],hW',trodAll_mk1 (shut_bool ul4 _),trodAll_cons_mk (Below.trod oO (by kernel_rfl) (of_decide_eq_true (by kernel_rfl)) h0 hb (hlt0)) (trodAll_cons_mk (Below.trod oO (by kernel_rfl) (of_decide_eq_true (by kernel_rfl)) h1 hb (hlt1)) (trodAll_cons_mk (Below.trod oO (by kernel_rfl) (of_decide_eq_true (by kernel_rfl)) h2 hb (hlt2)) (trodAll_cons_mk (Below.trod oO (by kernel_rfl) (of_decide_eq_true (by kernel_rfl)) h3 hb (hlt3)) (trodAll_mk1 (Below.trod oO (by kernel_rfl) (of_decide_eq_true (by kernel_rfl)) h4 hb (hlt4)))))),rfl,hb.frame _,fun h=>by cases h⟩
end Go.Proofs.YtfjkncfjclifoaaGreatDoor
