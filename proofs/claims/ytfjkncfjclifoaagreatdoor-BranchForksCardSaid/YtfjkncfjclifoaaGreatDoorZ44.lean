/-
  The row of BranchForks, walked over whatever input it takes.
-/
import Derived.Test.YtfjkncfjclifoaaGreatDoorZ43
import Derived.Test.YtfjkncfjclifoaaGreatDoorTie
import Derived.Test.YtfjkncfjclifoaaGreatDoorCards
import Derived.Handy
import Derived.Lay
import Derived.ChangeMaps5
import Derived.SevenTiedAt
set_option linter.unusedSimpArgs false
set_option linter.unusedVariables false
set_option maxRecDepth 100000
set_option maxHeartbeats 4000000
namespace Go.AL
open Go.Proofs Go.Proofs.Tryz
@[go_sem] def UFrk2f6.pp:Nat→DPlan
 |5=>⟨[yE,yA,yE,yA,yA,yA,yE,yA,uX,yA,yA,yA,vC,yC,yA],yG,1⟩
 |8=>⟨[yA,yB,yA,yA,yB,yA,yA,yA,yA,yA,yB,yA,yB,yA,yA,yA,yB,yA,yA,yA,yA,yA,yB,yA,yB,yA,yA,yA,yB,yA,yB,yA,yA,yA,yB,yA,yA],znR,0⟩
 |10=>⟨[yE,yE,yA,yE,yA,yA,yA,yE,uX,yA,yA,yA,vC,yC,yA],yG,1⟩
 |14=>⟨[yE,yE,yA,yE,yA,yA,yA,yE,uX,yA,yA,yA,vC,yC,yA],yG,1⟩
 |15=>⟨[yE,yE,yA,yE,yA,yA,yA,yE,yA,uX,yA,yA,yA,yA,vC,yC,yA,yA],yM,1⟩
 |18=>⟨[yE,yE,yA,yE,yA,yE,yA,yA,yA,yE,uX,yA,yA,yA,vC,yC,yA],wR,1⟩
 |19=>⟨[yE,yE,yA,yE,yA,yE,yA,yA,yA,yE,uX,yA,yA,yA,vC,yC,yA],wR,1⟩
 |20=>⟨[yE,yE,yA,yE,yA,yA,yA,yE,uX,yA,yA,yA,vC,yC,yA],yG,1⟩
 |_=>⟨[],[],0⟩
@[go_sem] def UFrk2f6.pl:Nat→DPlan
 |5=>⟨[yE,yA,yE,yA,yA,yA,yE,yA,rK,yA,yA,yA,vC,yC,yA],yG,1⟩
 |8=>⟨[yA,yB,yA,yA,yB,yA,yA,yA,yA,yA,yB,yA,yB,yA,yA,yA,yB,yA,yA,yA,yA,yA,yB,yA,yB,yA,yA,yA,yB,yA,yB,yA,yA,yA,yB,yA,yA],znR,0⟩
 |10=>⟨[yE,yE,yA,yE,yA,yA,yA,yE,rK,yA,yA,yA,vC,yC,yA],yG,1⟩
 |14=>⟨[yE,yE,yA,yE,yA,yA,yA,yE,rK,yA,yA,yA,vC,yC,yA],yG,1⟩
 |15=>⟨[yE,yE,yA,yE,yA,yA,yA,yE,yA,rK,yA,yA,yA,yA,vC,yC,yA,yA],yM,1⟩
 |18=>⟨[yE,yE,yA,yE,yA,yE,yA,yA,yA,yE,rK,yA,yA,yA,vC,yC,yA],wR,1⟩
 |19=>⟨[yE,yE,yA,yE,yA,yE,yA,yA,yA,yE,rK,yA,yA,yA,vC,yC,yA],wR,1⟩
 |20=>⟨[yE,yE,yA,yE,yA,yA,yA,yE,rK,yA,yA,yA,vC,yC,yA],yG,1⟩
 |_=>⟨[],[],0⟩
open UFrk2f6 in
theorem pM (p:Pg) (hp:p.ok) (r:Rp) (hr:r.raw) (u:Nat) (hu:u<256) (name:BA) (hname:name.size≤140737488355328) (ops:List Op1) (ho:iP ops):
  EPure prog G0 6 [.agg p.c,.agg r.c,u8 u,yQ name,lJ ops] fun v=>v=bo true:=by
 refine ECall.cut (R:=fun v _=>v=bo true) (pv func6 243 false (by kernel_rfl) rfl rfl ?_) (by rintro p h rfl;rfl)
 refine g2 ?_
 refine ge ?_
 (refine g1 ?_;refine zC (zl6 _) ?_;intro p2 h2 hr2;refine g2 ?_)
 obtain ⟨rfl,rfl⟩:=hr2
 refine ge ?_
 (refine g1 ?_;refine zC ((zf7 p hp r hr.cl hr.bl (fun c hc=>(hr.c c hc).1)).call zK (by simp [zJ]) _) ?_;intro p2 h2 hr2;refine g2 ?_)
 obtain ⟨⟨b,rfl,hb⟩,rfl⟩:=hr2
 cases b with
 |false=>
  refine ge ?_
  rfl
 | true=>
  obtain ⟨hlat,hc16,hb20,hsh⟩:=hb rfl
  refine ge ?_
  (refine g1 ?_;refine zC ((gQ ops ho.1).call zK (by simp) _) ?_;intro p2 h2 hr2;refine g2 ?_)
  obtain ⟨⟨b,rfl,hs⟩,rfl⟩:=hr2
  cases b with
  |false=>
   refine ge ?_
   rfl
  | true=>
   have hs:=hs rfl
   have hle:p.sm:=fun x hx=>by have:=hlat x hx;omega
   have hsz:r.sz:=⟨by omega,fun c hc=>OpsG.of (hsh c hc) fun x hx=>((hr.c c hc).2 x hx).2,by omega,hr.b⟩
   have hog:OpsG ops:=OpsG.of hs fun x hx=>(ho.2 x hx).2
   have ha:=znV p hp hle
   by_cases h1:(100:Int)<(name.size:Int)
   ·have e1:decide ((100:Int)<(name.size:Int))=true:=by simp only [h1,decide_true]
    refine gf @e1 ?_
    rfl
   have e1:decide ((100:Int)<(name.size:Int))=false:=by simp only [h1,decide_false]
   refine gf @e1 ?_
   (refine g1f @e1 ?_;refine zC ((zdA p hp hle ha r hsz).call zK (by simp [zJ]) _) ?_;intro p2 h2 hr2;refine g2 ?_)
   obtain ⟨rfl,rfl⟩:=hr2
   cases hch:zh8 p r with
   |none=>
    refine ge ?_
    rfl
   | some st=>
    obtain ⟨hbr, -,hll⟩:=zb7 hch
    obtain ⟨hpos, -⟩:=hbr.2.2.1
    have hne:((r.bs.length:Int)==0)=false:=by rw [beq_eq_false_iff_ne];omega
    have hn0: ¬((r.bs.length:Int)=0):=by omega
    have hwu:IntKind.i64.wrap (u:Int)=u:=xM (by omega) (by omega)
    have h5:(prog.underlying 5).isSome=true:=by kernel_rfl
    have hmu:(u:Int).tmod r.bs.length=((u%r.bs.length:Nat):Int):=(Int.ofNat_tmod u r.bs.length).symm
    have hk:=Nat.mod_lt u hpos
    obtain ⟨k,hke⟩: ∃ k,u%r.bs.length=k:=⟨_,rfl⟩
    rw [hke] at hmu hk
    have hx:=zG (f:=Br.c) [] hk
    obtain ⟨hix,hl1,hl2⟩:=zgK hbr hk
    (repeat (first|refine gz ?_|(refine gn ?_;intro zs zh;(try simp only [go_sem,Option.isSome_some,hne,hn0,hwu,h5,hmu,hk,hx,zB] at zh);subst zh;refine gv ?_)|refine yD UFrk2f6.pp ?_))
    (refine zF rfl rfl rfl ?_;intro sr hsr;simp only [go_sem,hmu,hk,hx,zB] at hsr;subst hsr;refine vP rfl (pN r (by omega) r.bs[k].name name hname) (by simp [zJ]) ?_;intro p2 hr2 ts2 hts;simp only [go_sem] at hts;subst hts)
    obtain ⟨x,e,rfl,hF⟩:=hr2
    (repeat (first|refine gz ?_|(refine gn ?_;intro zs zh;(try simp only [go_sem,hmu,hk,hx,zB] at zh);subst zh;refine gv ?_)|refine yD UFrk2f6.pp ?_))
    by_cases he:e=0
    case neg=>
     have e3:(e !=0)=true:=by simp [he]
     refine gf @e3 ?_
     rfl
    subst he
    have e3:((0:Int)!=0)=false:=rfl
    have e4:((0:Int)==0)=true:=rfl
    have X:=tD hsz hch hk hname (hF rfl)
    have hxl:=X.len
    have hnx:r.bs.length<x.bs.length:=by omega
    have hkx:k<x.bs.length:=by omega
    have hgk:(r.bs.getD k ⟨name, -1⟩)=r.bs[k]:=by rw [List.getD_eq_getElem?_getD,List.getElem?_eq_getElem hk];rfl
    have hxn:=zG (f:=Br.c) [] hnx
    rw [X.bn hnx,hgk] at hxn
    have hwx:IntKind.i64.wrap ((r.bs.length:Int)+1)=(x.bs.length:Nat):=by rw [xM (by omega) (by omega)];omega
    have hbx:((x.bs.length:Int)!=(x.bs.length:Int))=false:=by simp
    have hbl: ∀ a:Int,(a !=a)=false:=fun a=>by simp
    have hbs: ∀ s:BA,decide (s=s)=true:=fun s=>by simp
    have hlt:(r.bs.length<x.bs.length)=True:=eq_true hnx
    have hlt2:((r.bs.length:Int)<(x.bs.length:Int))=True:=eq_true (by omega)
    have hxc:x.cs.length=r.cs.length:=by rw [X.cs]
    have hcm: ∀ c,(zcI p st c).cm:=fun c=>uC (wP hp hle ha hsz hch c)
    have S0:=yF p hp hle ha r hsz r.bs[k].last
    rw [yL hch ⟨hl1,hl2⟩] at S0
    dsimp only at S0
    have hcE:=vK (ops:=ops) X.ch hnx X.ixn
    have hcE2:=vK (ops:=ops) X.ch hkx (X.ixk hk)
    have hbk:=X.bk k hkx hk
    rw [X.bn hnx,hgk] at hcE
    rw [hbk] at hcE2
    dsimp only at hcE hcE2
    (repeat (first|refine gz ?_|(refine gn ?_;intro zs zh;(try simp only [go_sem,hmu,hk,hx,zB,e3,hxn,hlt,hlt2,hnx,hwx,hbx,hbl,hbs] at zh);subst zh;refine gv ?_)|refine yD UFrk2f6.pp ?_))
    (refine zF rfl rfl rfl ?_;intro sr hsr;simp only [go_sem,hmu,hk,hx,zB] at hsr;subst hsr;refine vP rfl (S0) (by simp [zJ]) ?_;intro p2 hr2 ts2 hts;simp only [go_sem] at hts;subst hts)
    subst hr2
    (repeat (first|refine gz ?_|(refine gn ?_;intro zs zh;(try simp only [go_sem,e3,e4] at zh);subst zh;refine gv ?_)|refine yD UFrk2f6.pp ?_))
    (refine g1f @e3 ?_;refine zC ((fH p hp hle ha x X.sz name ops hog).call zK (by simp [zJ]) _) ?_;intro p2 h2 hr2;refine g2 ?_)
    obtain ⟨⟨y,n1,rfl,hK⟩,rfl⟩:=hr2
    by_cases he1:zh7 p x name ops=0
    case neg=>
     generalize zh7 p x name ops=e at*
     have e5:(e !=0)=true:=by simp [he1]
     refine gf (a2 @e5 @e4) ?_
     rfl
    have he2:zh7 p x r.bs[k].name ops=0:=by rw [hcE2 (by omega), ←hcE (by omega)];exact he1
    obtain ⟨Y, -⟩:=yZ X.sz X.ch hog hnx X.ixn he1 (hK he1)
    have hyl:=Y.len
    have hny:r.bs.length<y.bs.length:=by omega
    have hky:k<y.bs.length:=by omega
    have hyk:(y.bs.map Br.c).getD k []=[yQ y.bs[k].name,i64 y.bs[k].last]:=zG (f:=Br.c) [] hky
    have hyn:(y.bs.map Br.c).getD r.bs.length []=[yQ y.bs[r.bs.length].name,i64 y.bs[r.bs.length].last]:=zG (f:=Br.c) [] hny
    have hyk2:=Y.ne k hky hkx (by omega)
    rw [hbk] at hyk2
    have hyn2:=Y.at' hny
    have hyc:=Y.cl
    have hd1:(zk4 p (zcI p st x.bs[r.bs.length].last) ops).1=(zk4 p (zcI p st r.bs[k].last) ops).1:=by rw [X.bn hnx,hgk]
    have hYc:=Y.ch
    rw [hd1] at hYc
    have hcm1: ∀ c,(zcI p (st++[(zk4 p (zcI p st r.bs[k].last) ops).1]) c).cm:=fun c=>uC (wP hp hle ha Y.sz hYc c)
    have S1:=yF p hp hle ha y Y.sz y.bs[k].last
    rw [yL hYc (by omega),hyk2,wL (by omega)] at S1
    dsimp only at S1
    have S3:=yF p hp hle ha y Y.sz y.bs[r.bs.length].last
    rw [yL hYc (by omega),hyn2,hxc, ←hll,yW] at S3
    dsimp only at S3
    have hltyk:((k:Int)<(y.bs.length:Int))=True:=eq_true (by omega)
    have hltyn:((r.bs.length:Int)<(y.bs.length:Int))=True:=eq_true (by omega)
    have hnyT:(r.bs.length<y.bs.length)=True:=eq_true hny
    rw [he1]
    rw [hyk2] at hyk
    rw [hyn2] at hyn
    (repeat (first|refine gz ?_|(refine gn ?_;intro zs zh;(try simp only [go_sem,e3,e4,hmu,hk,hky,hltyk,hyk,zB] at zh);subst zh;refine gv ?_)|refine yD UFrk2f6.pp ?_))
    (refine zF rfl rfl rfl ?_;intro sr hsr;simp only [go_sem,hmu,hk,hky,hltyk,hyk,zB] at hsr;subst hsr;refine vP rfl (S1) (by simp [zJ]) ?_;intro p2 hr2 ts2 hts;simp only [go_sem] at hts;subst hts)
    subst hr2
    (repeat (first|refine gz ?_|(refine gn ?_;intro zs zh;(try simp only [go_sem,e3,e4,hmu,hk,hx,zB] at zh);subst zh;refine gv ?_)|refine yD UFrk2f6.pp ?_))
    have hCz:=fH p hp hle ha x X.sz r.bs[k].name ops hog
    rw [he2] at hCz
    (refine zF rfl rfl rfl ?_;intro sr hsr;simp only [go_sem,hmu,hk,hx,zB] at hsr;subst hsr;refine vP rfl (hCz) (by simp [zJ]) ?_;intro p2 hr2 ts2 hts;simp only [go_sem] at hts;subst hts)
    obtain ⟨z,n2,rfl,hK2⟩:=hr2
    obtain ⟨Z, -⟩:=yZ X.sz X.ch hog hkx (X.ixk hk) he2 (hK2 rfl)
    have hzl:=Z.len
    have hnz:r.bs.length<z.bs.length:=by omega
    have hkz:k<z.bs.length:=by omega
    have hzk:(z.bs.map Br.c).getD k []=[yQ z.bs[k].name,i64 z.bs[k].last]:=zG (f:=Br.c) [] hkz
    have hzn:(z.bs.map Br.c).getD r.bs.length []=[yQ z.bs[r.bs.length].name,i64 z.bs[r.bs.length].last]:=zG (f:=Br.c) [] hnz
    have hzn2:=Z.ne r.bs.length hnz hnx (by omega)
    rw [X.bn hnx,hgk] at hzn2
    dsimp only at hzn2
    have hzk2:=Z.at' hkz
    have hzc:=Z.cl
    have hZc:=Z.ch
    rw [hbk] at hZc
    have S2:=yF p hp hle ha z Z.sz z.bs[r.bs.length].last
    rw [yL hZc (by omega),hzn2,wL (by omega)] at S2
    dsimp only at S2
    have S4:=yF p hp hle ha z Z.sz z.bs[k].last
    rw [yL hZc (by omega),hzk2,hxc, ←hll,yW] at S4
    dsimp only at S4
    have hltzk:((k:Int)<(z.bs.length:Int))=True:=eq_true (by omega)
    have hltzn:((r.bs.length:Int)<(z.bs.length:Int))=True:=eq_true (by omega)
    have hnzT:(r.bs.length<z.bs.length)=True:=eq_true hnz
    rw [hzk2,hxc, ←hll] at hzk
    rw [hzn2] at hzn
    rw [hxc, ←hll] at hyn
    have hsame0:=yH _ (hcm r.bs[k].last)
    have hsame1:=hcm1 (st.length:Nat)
    rw [yW] at hsame1
    have hsame1:=yH _ hsame1
    generalize zcI p st r.bs[k].last=d0 at*
    generalize (zk4 p d0 ops).1=d1 at*
    (repeat (first|refine gz ?_|(refine gn ?_;intro zs zh;(try simp only [go_sem,e3,e4,hmu,hk,hx,hnz,hnzT,hltzn,hzn,zB] at zh);subst zh;refine gv ?_)|refine yD UFrk2f6.pp ?_))
    (refine zF rfl rfl rfl ?_;intro sr hsr;simp only [go_sem,hnz,hnzT,hltzn,hzn,zB] at hsr;subst hsr;refine vP rfl (S2) (by simp [zJ]) ?_;intro p2 hr2 ts2 hts;simp only [go_sem] at hts;subst hts)
    subst hr2
    (repeat (first|refine gz ?_|(refine gn ?_;intro zs zh;(try simp only [go_sem,e3,e4,hny,hnyT,hltyn,hyn,zB] at zh);subst zh;refine gv ?_)|refine yD UFrk2f6.pp ?_))
    (refine zF rfl rfl rfl ?_;intro sr hsr;simp only [go_sem,hny,hnyT,hltyn,hyn,zB] at hsr;subst hsr;refine vP rfl (S3) (by simp [zJ]) ?_;intro p2 hr2 ts2 hts;simp only [go_sem] at hts;subst hts)
    subst hr2
    (repeat (first|refine gz ?_|(refine gn ?_;intro zs zh;(try simp only [go_sem,e3,e4,hmu,hk,hkz,hltzk,hzk,zB] at zh);subst zh;refine gv ?_)|refine yD UFrk2f6.pp ?_))
    (refine zF rfl rfl rfl ?_;intro sr hsr;simp only [go_sem,hmu,hk,hkz,hltzk,hzk,zB] at hsr;subst hsr;refine vP rfl (S4) (by simp [zJ]) ?_;intro p2 hr2 ts2 hts;simp only [go_sem] at hts;subst hts)
    subst hr2
    (repeat (first|refine gz ?_|(refine gn ?_;intro zs zh;(try simp only [go_sem,e3,e4] at zh);subst zh;refine gv ?_)|refine yD UFrk2f6.pp ?_))
    (refine g1f @e4 ?_;refine zC (hsame0.call zK (by simp [zJ]) _) ?_;intro p2 h2 hr2;refine g2 ?_)
    obtain ⟨rfl,rfl⟩:=hr2
    refine ge ?_
    (refine g1f @e4 ?_;refine zC (hsame0.call zK (by simp [zJ]) _) ?_;intro p2 h2 hr2;refine g2 ?_)
    obtain ⟨rfl,rfl⟩:=hr2
    refine ge ?_
    (refine g1f @e4 ?_;refine zC (hsame1.call zK (by simp [zJ]) _) ?_;intro p2 h2 hr2;refine g2 ?_)
    obtain ⟨rfl,rfl⟩:=hr2
    refine ge ?_
    rfl
end Go.AL
namespace Go.Proofs.YtfjkncfjclifoaaGreatDoor
open Go.ChangeShapes Go.WideShapes Go.ChangeAt Go.RowKit Go.AL Go.Proofs
theorem own:ownKnob Tryz.prog.godebug=none:=by kernel_rfl
theorem oO:laidOutB Tryz.prog=true:=by kernel_rfl
theorem ul5:Tryz.prog.underlying 5=some (.int .u8):=by kernel_rfl
theorem ul4:Tryz.prog.underlying 4=some .bool:=by kernel_rfl
theorem ul9:Tryz.prog.underlying 9=some .string:=by kernel_rfl
theorem znX:Tryz.f6.params= #[27,31,5,9,32]:=by kernel_rfl
theorem zdL {W:World} (h:laidMetH Tryz.prog Rows.branchForksRow.laid W):GRel ⟨[],[],W,fun _=>False⟩ G0:=by
 rw [MakeChecks.laidMetH_plain _ _ _ (by kernel_rfl)] at h
 obtain ⟨ps,⟨g0,t0,cs0,f0,p0,q0,hg0,ht0,hv0,hd0,⟨g1,t1,cs1,f1,p1,q1,hg1,ht1,hv1,hd1,⟨g2,t2,cs2,f2,p2,q2,hg2,ht2,hv2,hd2,_,_⟩,_⟩,_⟩,_,_⟩:=h
 obtain rfl:=Option.some.inj ((show Tryz.prog.globalNamed "math/bits.deBruijn64tab" =some 2 by kernel_rfl).symm.trans hg0)
 obtain rfl:=Option.some.inj ((show Tryz.prog.globalNamed "porism/lattice.keys" =some 1 by kernel_rfl).symm.trans hg1)
 obtain rfl:=Option.some.inj ((show Tryz.prog.globalNamed "porism/value.words" =some 0 by kernel_rfl).symm.trans hg2)
 obtain rfl:=Option.some.inj ((show (Tryz.prog.globals[2]?).map (·.type)=some 310 by kernel_rfl).symm.trans ht0)
 obtain rfl:=Option.some.inj ((show (Tryz.prog.globals[1]?).map (·.type)=some 108 by kernel_rfl).symm.trans ht1)
 obtain rfl:=Option.some.inj ((show (Tryz.prog.globals[0]?).map (·.type)=some 226 by kernel_rfl).symm.trans ht2)
 have r0:=eP (X:=fun _=>False) (fun _ h=>h) (n:=2) (by kernel_rfl) hg0 hv0 hd0 (show _=db by kernel_rfl)
 have r1:=eP (X:=fun _=>False) (fun _ h=>h) (n:=2) (by kernel_rfl) hg1 hv1 hd1 (show _=[.ts 1 (ws.map ([·]))] by kernel_rfl)
 have r2:=eP (X:=fun _=>False) (fun _ h=>h) (n:=2) (by kernel_rfl) hg2 hv2 hd2 (show _=ws by kernel_rfl)
 intro g cs hG
 unfold G0 at hG
 split at hG
 ·rename_i e;rw [beq_iff_eq] at e;subst e;cases hG;exact r2
 ·split at hG
  ·rename_i e;rw [beq_iff_eq] at e;subst e;cases hG;exact r1
  ·split at hG
   ·rename_i e;rw [beq_iff_eq] at e;subst e;cases hG;exact r0
   ·cases hG
set_option maxRecDepth 100000 in
theorem wM (os:Os) (started:os.Started) (H:Type) (enc:TypeId×Value→H):
  ReturnsInHanded {} Tryz.checked os 6 .any (fun w args=>(Rows.branchForksSpec.pre enc Tryz.prog Tryz.f6 [] false w args∧laidMetH Tryz.prog Rows.branchForksRow.laid w)∧sizedMet enc Tryz.prog Tryz.f6 (OpenSpec.ofChange Rows.branchForksSpec) false w args)
   (Rows.branchForksSpec.post enc Tryz.prog Tryz.f6 false true false false):=by
 refine returnsInHanded_of_change_and (C:=Tryz.checked) (X:=fun w _=>laidMetH Tryz.prog Rows.branchForksRow.laid w) (fun _ _ _ hh h=>h.of_heap hh) own started (by kernel_rfl) Tryz.func6
  (ChangeSpec.witness_shaped (enc:=enc) (C:=Tryz.checked) (os:=os) (X:=fun w _=>laidMetH Tryz.prog Rows.branchForksRow.laid w) false (World.laidAll Tryz.prog os Rows.branchForksRow.laid) #[.agg #[.slice none 0 0,.slice none 0 0,.slice none 0 0,.slice none 0 0],.agg #[.slice none 0 0,.slice none 0 0],.int .u8 0,.string ⟨#[]⟩,.slice none 0 0] 8 (World.laidAll_os _ _ _)
   (World.shaped_of_ZipB (by kernel_rfl) (by kernel_rfl)) (by kernel_rfl) (by kernel_rfl) (by kernel_rfl)
   (by rw [MakeChecks.laidMetH_plain _ _ _ (by kernel_rfl)];exact laidMet_laidAll _ (by kernel_rfl) (by kernel_rfl))) ?_
 intro W base args ds gs before hval0 hW hc hsz hL _
 have hval: ∀ (j:Nat) t v,Tryz.f6.params[j]? =some t→args[j]? =some v→Value.okWide Tryz.prog W .any base t v:=hval0
 have hW':=hW
 obtain ⟨p,q,hA0,hV,rfl,_,_⟩:=hW
 have hA:DataW.TrodAll enc Tryz.prog W 0 (fun _=>true) true Tryz.f6.params.toList args.toList ds p:=hA0
 rw [znX] at hA hval
 obtain ⟨v0,vs0,d0,ds0,p0,q0,hargs,rfl,rfl,h0,t0⟩:=trodAll_cons hA
 obtain ⟨v1,vs1,d1,ds1,p1,q1,rfl,rfl,rfl,h1,t1⟩:=trodAll_cons t0
 obtain ⟨v2,vs2,d2,ds2,p2,q2,rfl,rfl,rfl,h2,t2⟩:=trodAll_cons t1
 obtain ⟨v3,vs3,d3,ds3,p3,q3,rfl,rfl,rfl,h3,t3⟩:=trodAll_cons t2
 obtain ⟨v4,vs4,d4,ds4,p4,q4,rfl,rfl,rfl,h4,t4⟩:=trodAll_cons t3
 obtain ⟨rfl,rfl,rfl⟩:=trodAll_nil t4
 obtain rfl:args= #[v0,v1,v2,v3,v4]:=by cases args;simp_all
 obtain ⟨rfl,rfl⟩:=trodVars_none hV
 rw [List.all_eq_true] at hsz
 have w0:Light Tryz.prog 27 d0:=fun k hk=>of_decide_eq_true (hsz k (List.mem_append_left _ hk))
 have w1:Light Tryz.prog 31 d1:=fun k hk=>of_decide_eq_true (hsz k (List.mem_append_right _ (List.mem_append_left _ hk)))
 have w2:Light Tryz.prog 5 d2:=fun k hk=>of_decide_eq_true (hsz k (List.mem_append_right _ (List.mem_append_right _ (List.mem_append_left _ hk))))
 have w3:Light Tryz.prog 9 d3:=fun k hk=>of_decide_eq_true (hsz k (List.mem_append_right _ (List.mem_append_right _ (List.mem_append_right _ (List.mem_append_left _ hk)))))
 have w4:Light Tryz.prog 32 d4:=fun k hk=>of_decide_eq_true (hsz k (List.mem_append_right _ (List.mem_append_right _ (List.mem_append_right _ (List.mem_append_right _ (List.mem_append_left _ hk))))))
 obtain ⟨a0,b0,r0⟩:=dPg.arg (ts:=[22,23,24,25]) (by kernel_rfl) (by kernel_rfl) w0 (hval 0 _ v0 rfl rfl) h0
 obtain ⟨a1,b1,r1⟩:=dRp.arg (ts:=[28,29]) (by kernel_rfl) (by kernel_rfl) w1 (hval 1 _ v1 rfl rfl) h1
 obtain ⟨x2,e2,f2,g2,k2⟩:=open_int ul5 (hval 2 _ v2 rfl rfl) h2
 have z2:0≤x2∧x2≤255:=by simpa [Lit.wf,IntKind.min,IntKind.max,IntKind.signed,IntKind.bits] using k2
 obtain ⟨x2,rfl⟩:=Int.eq_ofNat_of_zero_le z2.1
 obtain ⟨s3,e3,_,_,_⟩:=Go.ChangeMaps.open_string ul9 (hval 3 _ v3 rfl rfl) h3
 obtain ⟨a3,b3,r3⟩:=dS.arg1 (by kernel_rfl) (by rw [e3];rfl) w3 h3
 obtain ⟨l4,m4,n4,e4⟩:=okWide_slice (show Tryz.prog.underlying 32=some (.slice 84) by kernel_rfl) (hval 4 _ v4 rfl rfl)
 obtain ⟨a4,b4,r4⟩:=zfP.arg1 (by kernel_rfl) (by rw [e4];rfl) w4 h4
 have hS:SRel ⟨[],[],W,fun _=>False⟩:=⟨rfl,fun r b v h=>by simp at h,fun r r' v v' n h=>by simp at h,fun a h=>h.elim,fun a h=>h.elim⟩
 obtain ⟨pr,rfl, -,hcall⟩:=pM a0 b0 a1 b1 x2 (by omega) a3 b3 a4 b4
 have law:=hcall.2 [] W (fun _=>False) #[v0,v1,v2,v3,v4] hS (zdL hL) rfl fun i p v hp hv=>by
  match i,hp,hv with
  |0,hp,hv=>simp at hp hv;subst hp;subst hv;exact r0
  |1,hp,hv=>simp at hp hv;subst hp;subst hv;exact r1
  |2,hp,hv=>simp at hp hv;subst hp;subst hv;rw [e2];exact .sc ⟨by rw [zlC];omega,by rw [zlD];omega⟩
  |3,hp,hv=>simp at hp hv;subst hp;subst hv;exact r3
  |4,hp,hv=>simp at hp hv;subst hp;subst hv;exact r4
  |i+5,hp,hv=>simp at hp
 have hlt0: ∀ z∈p0,z.block<W.heap.size:=fun z hz=>by
  have:=hW'.lt z (by simp [hz])
  simpa using this
 have hlt1: ∀ z∈p1,z.block<W.heap.size:=fun z hz=>by
  have:=hW'.lt z (by simp [hz])
  simpa using this
 have hlt2: ∀ z∈p2,z.block<W.heap.size:=fun z hz=>by
  have:=hW'.lt z (by simp [hz])
  simpa using this
 have hlt3: ∀ z∈p3,z.block<W.heap.size:=fun z hz=>by
  have:=hW'.lt z (by simp [hz])
  simpa using this
 have hlt4: ∀ z∈p4,z.block<W.heap.size:=fun z hz=>by
  have:=hW'.lt z (by simp [hz])
  simpa using this
 refine (callsIn_wide.1 law).mono fun e W' ⟨φ',h',p,v,he,hext,_,hrel,hp,_⟩=> ?_
 subst he;subst hp
 have hb:=zdY hext
 obtain rfl:v= .bool true:=by cases hrel;rfl
 exact ⟨_,rfl,_,_,_,[],_,[],hW',trodAll_mk1 (shut_bool ul4 _),trodAll_cons_mk (Below.trod oO (by kernel_rfl) (of_decide_eq_true (by kernel_rfl)) h0 hb (hlt0)) (trodAll_cons_mk (Below.trod oO (by kernel_rfl) (of_decide_eq_true (by kernel_rfl)) h1 hb (hlt1)) (trodAll_cons_mk (Below.trod oO (by kernel_rfl) (of_decide_eq_true (by kernel_rfl)) h2 hb (hlt2)) (trodAll_cons_mk (Below.trod oO (by kernel_rfl) (of_decide_eq_true (by kernel_rfl)) h3 hb (hlt3)) (trodAll_mk1 (Below.trod oO (by kernel_rfl) (of_decide_eq_true (by kernel_rfl)) h4 hb (hlt4)))))),rfl,hb.frame _,fun h=>by cases h⟩
end Go.Proofs.YtfjkncfjclifoaaGreatDoor
