/-
  The closed facts of the row of BranchValid, one by one.
-/
import Derived.Test.YtfjkncfjclifoaaGreatDoorZ47
import Derived.Test.YtfjkncfjclifoaaGreatDoorZ46
import Derived.Test.YtfjkncfjclifoaaGreatDoorTie
import Derived.Test.YtfjkncfjclifoaaGreatDoorCards
import Derived.Handy
import Derived.Lay
import Derived.ChangeMaps5
import Derived.SevenTiedAt
set_option linter.unusedSimpArgs false
set_option linter.unusedVariables false
set_option maxRecDepth 100000
set_option maxHeartbeats 4000000
namespace Go.AL
open Go.Proofs Go.Proofs.Tryz
theorem gQ (l:List Op1) (hl:l.length≤140737488355328):EB 11 [lJ l] fun b=>b=true→nX l:=by
 refine ECall.pure (pv func11 31 false (by kernel_rfl) rfl rfl ?_)
 refine g2 ?_
 (repeat' (first|refine gp ?_|refine gs (fun he=> ?_) (fun he=> ?_)|fail))
 all_goals try exact ⟨⟨⟨_,rfl,by simp⟩,.sc⟩,rfl⟩
 all_goals
  refine zO l.length (.k:: .k:: .d:: .v::K9 (K4 (D9 (D4 (.d::[]))))) (own:=false) (fun i (_:Unit)=>[i64 i]) (fun _=>_) (fun i _=> ∀ (j:Nat) (h:j<l.length),j<i→l[j].args.length≤10) () rfl rfl (fun j _ hj=>absurd hj (Nat.not_lt_zero _)) (by omega) ?_ ?_
  ·rintro _ hI
   refine gm ?_
   refine gf @zM ?_
   exact ⟨⟨⟨_,rfl,fun _=>⟨by omega,fun x hx=>by obtain ⟨j,hj,rfl⟩:=List.getElem_of_mem hx;exact hI j hj hj⟩⟩,.sc⟩,rfl⟩
  ·rintro i _ hi hw hI
   refine gm ?_
   have hx:=zG (f:=Op1.c) [] hi
   (have F:=(a4 @hi @hw @hx @zB);(repeat' (first|refine dR F ?_|refine dQ F (fun he=> ?_) (fun he=> ?_)|fail));all_goals clear F)
   ·exact ⟨⟨⟨_,rfl,by simp⟩,.sc⟩,rfl⟩
   ·refine ⟨(),fun j h hj=> ?_,?_,?_,rfl⟩
    ·rcases Nat.lt_or_ge j i with hji|hji
     ·exact hI j h hji
     ·have:j=i:=by omega
      subst this;omega
    ·simp only [zY,xJ,List.tail_cons]
    ·simp only [zY,xJ,List.tail_cons]
theorem zf7 (p:Pg) (hp:p.ok) (r:Rp) (hcl:r.cs.length≤140737488355328) (hbl:r.bs.length≤140737488355328) (hr: ∀ c∈r.cs,c.ops.length≤140737488355328):EB 10 [.agg p.c,.agg r.c] fun b=>b=true→(∀ x∈p.lats,x.elems.length≤10∧x.covers.length≤80)∧p.preds.length≤26∧r.cs.length≤16∧r.bs.length≤20∧ ∀ c∈r.cs,nX c.ops:=by
 refine ECall.cut (R:=fun v _=> ∃ b:Bool,v=bo b∧(b=true→(∀ x∈p.lats,x.elems.length≤10∧x.covers.length≤80)∧p.preds.length≤26∧r.cs.length≤16∧r.bs.length≤20∧ ∀ c∈r.cs,nX c.ops)) (pv func10 36 false (by kernel_rfl) rfl rfl ?_) (by rintro p h ⟨b,rfl,h⟩;exact ⟨b,rfl,h⟩)
 refine g2 ?_
 refine ge ?_
 (refine g1 ?_;refine zC ((zjP p hp).call zK (by simp [zJ]) _) ?_;intro p2 h2 hr2;refine g2 ?_)
 obtain ⟨⟨b,rfl,hb⟩,rfl⟩:=hr2
 cases b with
 |false=>
  refine ge ?_
  exact ⟨_,rfl,by simp⟩
 | true=>
  have hb:=hb rfl
  (repeat' (first|refine gp ?_|refine gs (fun he=> ?_) (fun he=> ?_)|fail))
  all_goals try exact ⟨_,rfl,by simp⟩
  refine zO r.cs.length (K4 (.d:: .v::K9 (K4 (.k:: .k::D9 (D4 (.d:: .d::[])))))) (own:=false) (fun i (_:Unit)=>[i64 i]) (fun _=>_) (fun i _=> ∀ (j:Nat) (h:j<r.cs.length),j<i→nX r.cs[j].ops) () rfl rfl (fun j _ hj=>absurd hj (Nat.not_lt_zero _)) (by omega) ?_ ?_
  ·rintro _ hI
   refine gm ?_
   refine gf @zM ?_
   exact ⟨_,rfl,fun _=>⟨hb.1,hb.2,by omega,by omega,fun c hc=>by obtain ⟨j,hj,rfl⟩:=List.getElem_of_mem hc;exact hI j hj hj⟩⟩
  ·rintro i _ hi hw hI
   refine gm ?_
   have hx:=zG (f:=Co.c) [] hi
   have hxo:=hr _ (List.getElem_mem hi)
   have next:nX r.cs[i].ops→ ∀ (j:Nat) (h:j<r.cs.length),j<i+1→nX r.cs[j].ops:=by
    intro q j h hj
    rcases Nat.lt_or_ge j i with hji|hji
    ·exact hI j h hji
    ·have:j=i:=by omega
     subst this;exact q
   generalize r.cs[i]=x at*
   refine gf (a4 @hi @hx @hw @zB) ?_
   (refine g1f (a4 @hi @hx @hw @zB) ?_;refine zC ((gQ x.ops hxo).call zK (by simp) _) ?_;intro p2 h2 hr2;refine g2 ?_)
   obtain ⟨⟨b,rfl,hs⟩,rfl⟩:=hr2
   cases b with
   |false=>
    refine gf @hw ?_
    exact ⟨_,rfl,by simp⟩
   |true=>
    refine gf @hw ?_
    exact ⟨(),next (hs rfl),rfl,rfl,rfl⟩
end Go.AL
namespace Go.AL
open Go.Proofs Go.Proofs.Tryz
theorem zl6 (h:Heap):ECall prog G0 9 [] h fun q h2=>q=bo true∧h2=h:=⟨_,_,⟨rfl,rfl⟩,aO h⟩
end Go.AL
namespace Go.AL
open Go.Proofs Go.Proofs.Tryz
@[go_sem] def UVld2f4.pp:Nat→DPlan
 |4=>⟨[yB,uX,uX,yB,yB,uX,yC,yA],zqS,0⟩
 |10=>⟨[yE,yE,yA,yA,yA,yE,yA,yA,yA,yA,uX,yA,yA,yA,vC,yC,yA],wR,1⟩
 |_=>⟨[],[],0⟩
@[go_sem] def UVld2f4.pl:Nat→DPlan
 |4=>⟨[⟨7,0,[1006]⟩,⟨6,0,[1006,1006,1006]⟩,⟨6,0,[1006,1006]⟩,⟨7,0,[1006]⟩,⟨7,0,[1006]⟩,⟨6,0,[1006]⟩,yC,yA],zqS,0⟩
 |10=>⟨[yE,yE,yA,yA,yA,yE,yA,yA,yA,yA,rK,yA,yA,yA,vC,yC,yA],wR,1⟩
 |_=>⟨[],[],0⟩
open UVld2f4 in
theorem zpA (p:Pg) (hp:p.ok) (r:Rp) (hr:r.raw) (fr:BA) (hfr:fr.size≤140737488355328) (name:BA) (hname:name.size≤140737488355328) (ops:List Op1) (ho:iP ops) (u:Nat) (hu:u<256):
  EPure prog G0 4 [.agg p.c,.agg r.c,yQ fr,yQ name,lJ ops,u8 u] fun v=>v=bo true:=by
 refine ECall.cut (R:=fun v _=>v=bo true) (pv func4 113 false (by kernel_rfl) rfl rfl ?_) (by rintro p h rfl;rfl)
 refine g2 ?_
 refine ge ?_
 (refine g1 ?_;refine zC (zl6 _) ?_;intro p2 h2 hr2;refine g2 ?_)
 obtain ⟨rfl,rfl⟩:=hr2
 refine ge ?_
 (refine g1 ?_;refine zC ((zf7 p hp r hr.cl hr.bl (fun c hc=>(hr.c c hc).1)).call zK (by simp [zJ]) _) ?_;intro p2 h2 hr2;refine g2 ?_)
 obtain ⟨⟨b,rfl,hb⟩,rfl⟩:=hr2
 cases b with
 |false=>
  refine ge ?_
  rfl
 | true=>
  obtain ⟨hlat,hpl,hc16,hb20,hsh⟩:=hb rfl
  refine ge ?_
  (refine g1 ?_;refine zC ((gQ ops ho.1).call zK (by simp) _) ?_;intro p2 h2 hr2;refine g2 ?_)
  obtain ⟨⟨b,rfl,hs⟩,rfl⟩:=hr2
  cases b with
  |false=>
   refine ge ?_
   rfl
  | true=>
   have hs:=hs rfl
   have hle:p.sm:=fun x hx=>by have:=hlat x hx;omega
   have hsz:r.sz:=⟨by omega,fun c hc=>OpsG.of (hsh c hc) fun x hx=>((hr.c c hc).2 x hx).2,by omega,hr.b⟩
   have hog:OpsG ops:=OpsG.of hs fun x hx=>(ho.2 x hx).2
   have ha:=znV p hp hle
   by_cases h1:(100:Int)<(name.size:Int)
   ·have e1:decide ((100:Int)<(name.size:Int))=true:=by simp only [h1,decide_true]
    refine gf @e1 ?_
    rfl
   have e1:decide ((100:Int)<(name.size:Int))=false:=by simp only [h1,decide_false]
   by_cases h2:(100:Int)<(fr.size:Int)
   ·have e2:decide ((100:Int)<(fr.size:Int))=true:=by simp only [h2,decide_true]
    refine gf (a2 @e1 @e2) ?_
    rfl
   have e2:decide ((100:Int)<(fr.size:Int))=false:=by simp only [h2,decide_false]
   have hpl2:p.preds.length≤1048576:=by omega
   have hnv:=zdA p hp hle ha zqR zq3
   rw [zq4] at hnv
   have hev:=zeD p hp hle (zm3 p) (zhS p hpl2)
   have hdx:ze8 (DatX p (zm3 p))=zpQ p:=by
    cases h:zpQ p with
    |true=>exact pO ((zqP hp hle).2 h)
    |false=>exact uA fun k=>by have:=(zqP hp hle).1 k;rw [h] at this;cases this
   rw [hdx] at hev
   (repeat (first|refine gz ?_|(refine gn ?_;intro zs zh;(try simp only [go_sem,e1,e2] at zh);subst zh;refine gv ?_)|refine yD UVld2f4.pp ?_))
   (refine zF rfl rfl rfl ?_;intro sr hsr;simp only [go_sem,e1,e2] at hsr;subst hsr;refine vP rfl (zrS) (by simp) ?_;intro p2 hr2 ts2 hts;simp only [go_sem] at hts;subst hts)
   subst hr2
   (repeat (first|refine gz ?_|(refine gn ?_;intro zs zh;(try simp only [go_sem,e1,e2] at zh);subst zh;refine gv ?_)|refine yD UVld2f4.pp ?_))
   (refine zF rfl rfl rfl ?_;intro sr hsr;simp only [go_sem,e1,e2] at hsr;subst hsr;refine vP rfl (hnv) (by simp [zJ];exact ⟨yP 40 _ rfl,yP 40 _ rfl⟩) ?_;intro p2 hr2 ts2 hts;simp only [go_sem] at hts;subst hts)
   subst hr2
   (repeat (first|refine gz ?_|(refine gn ?_;intro zs zh;(try simp only [go_sem,e1,e2] at zh);subst zh;refine gv ?_)|refine yD UVld2f4.pp ?_))
   (refine zF rfl rfl rfl ?_;intro sr hsr;simp only [go_sem,e1,e2] at hsr;subst hsr;refine vP rfl (fM p hpl2) (by simp [zJ]) ?_;intro p2 hr2 ts2 hts;simp only [go_sem] at hts;subst hts)
   subst hr2
   (repeat (first|refine gz ?_|(refine gn ?_;intro zs zh;(try simp only [go_sem,e1,e2] at zh);subst zh;refine gv ?_)|refine yD UVld2f4.pp ?_))
   (refine zF rfl rfl rfl ?_;intro zs zh;simp only [go_sem,e1,e2] at zh;subst zh;refine zP (by decide) (by decide) (hev.call zK (by simp [zJ]) _) ?_;intro p2 h2 hr2 ts2 hts;simp only [go_sem] at hts;subst hts)
   obtain ⟨rfl,rfl⟩:=hr2
   have e3:(zpQ p !=zpQ p)=false:=by simp
   (repeat (first|refine gz ?_|(refine gn ?_;intro zs zh;(try simp only [go_sem,e3] at zh);subst zh;refine gv ?_)|refine yD UVld2f4.pp ?_))
   (refine g1f @e3 ?_;refine zC ((zdA p hp hle ha r hsz).call zK (by simp [zJ]) _) ?_;intro p2 h2 hr2;refine g2 ?_)
   obtain ⟨rfl,rfl⟩:=hr2
   cases hch:zh8 p r with
   |none=>
    refine ge ?_
    rfl
   | some st=>
    obtain ⟨hbr, -,hll⟩:=zb7 hch
    refine ge ?_
    (refine g1f @e1 ?_;refine zC ((pN r (by omega) fr name hname).call zK (by simp [zJ]) _) ?_;intro p2 h2 hr2;refine g2 ?_)
    obtain ⟨⟨x,e,rfl,hF⟩,rfl⟩:=hr2
    refine ge ?_
    (refine g1f @e1 ?_;refine zC ((fH p hp hle ha r hsz fr ops hog).call zK (by simp [zJ]) _) ?_;intro p2 h2 hr2;refine g2 ?_)
    obtain ⟨⟨y,n,rfl,hC⟩,rfl⟩:=hr2
    have hn0: ¬((r.cs.length:Int)+1=0):=by omega
    have hne:(((r.cs.length:Int)+1)==0)=false:=by rw [beq_eq_false_iff_ne];omega
    have hwl:IntKind.i64.wrap ((r.cs.length:Int)+1)=(r.cs.length:Int)+1:=xM (by omega) (by omega)
    have hwu:IntKind.i64.wrap (u:Int)=u:=xM (by omega) (by omega)
    have h5:(prog.underlying 5).isSome=true:=by kernel_rfl
    have hmu:(u:Int).tmod ((r.cs.length:Int)+1)=((u%(r.cs.length+1):Nat):Int):=(Int.ofNat_tmod u (r.cs.length+1)).symm
    have hk:=Nat.mod_lt u (Nat.succ_pos r.cs.length)
    obtain ⟨k,hke⟩: ∃ k,u%(r.cs.length+1)=k:=⟨_,rfl⟩
    rw [hke] at hmu
    rw [show r.cs.length.succ=r.cs.length+1 from rfl,hke] at hk
    have hwk:IntKind.i64.wrap ((k:Int)-1)=(k:Int)-1:=xM (by omega) (by omega)
    have S0:=yF p hp hle ha r hsz ((k:Int)-1)
    rw [yL hch (by omega)] at S0
    dsimp only at S0
    have hD:=zeD p hp hle (zcI p st ((k:Int)-1)) (wP hp hle ha hsz hch _)
    rw [pO (zrF hp hle hsz hch _)] at hD
    (repeat (first|refine gz ?_|(refine gn ?_;intro zs zh;(try simp only [go_sem,Option.isSome_some,hn0,hne,hwl,hwu,h5,hmu,hwk] at zh);subst zh;refine gv ?_)|refine yD UVld2f4.pp ?_))
    (refine zF rfl rfl rfl ?_;intro sr hsr;simp only [go_sem,hwl,hwu,h5,hmu,hwk] at hsr;subst hsr;refine vP rfl (S0) (by simp [zJ]) ?_;intro p2 hr2 ts2 hts;simp only [go_sem] at hts;subst hts)
    subst hr2
    (repeat (first|refine gz ?_|(refine gn ?_;intro zs zh;(try simp only [go_sem,hwl] at zh);subst zh;refine gv ?_)|refine yD UVld2f4.pp ?_))
    have hX:e=0→x.sz∧(zh8 p x).isSome=true:=fun h=>by
     obtain ⟨⟨i,hi,q1,q2⟩,q3⟩:=hF h
     have hnm:r.bs[i].name=fr:=by have:=(eQ q1).2;simpa [kN] using this
     have X:=tD hsz hch hi hname (by rw [hnm];exact hF h)
     exact ⟨X.sz,by rw [X.ch];rfl⟩
    have hY:zh7 p r fr ops=0→y.sz∧(zh8 p y).isSome=true:=fun h=>by
     obtain ⟨i,hi,q1,q2⟩:=hC h
     obtain ⟨Y, -⟩:=yZ hsz hch hog hi q1 h (hC h)
     exact ⟨Y.sz,by rw [Y.ch];rfl⟩
    clear hC hF
    generalize zh7 p r fr ops=f at*
    have e0:((0:Int)==0)=true:=rfl
    by_cases he:e=0
    ·have e5:(e !=0)=false:=by simp [he]
     obtain ⟨xs,xc⟩:=hX he
     have hxv:=zdA p hp hle ha x xs
     rw [xc] at hxv
     by_cases hf:f=0
     ·have e6:(f !=0)=false:=by simp [hf]
      obtain ⟨ys,yc⟩:=hY hf
      have hyv:=zdA p hp hle ha y ys
      rw [yc] at hyv
      refine gf (a3 @e5 @e6 @e0) ?_
      (refine g1f (a3 @e5 @e6 @e0) ?_;refine zC (hxv.call zK (by simp [zJ]) _) ?_;intro p2 h2 hr2;refine g2 ?_)
      obtain ⟨rfl,rfl⟩:=hr2
      refine gf (a3 @e5 @e6 @e0) ?_
      (refine g1f (a3 @e5 @e6 @e0) ?_;refine zC (hyv.call zK (by simp [zJ]) _) ?_;intro p2 h2 hr2;refine g2 ?_)
      obtain ⟨rfl,rfl⟩:=hr2
      refine gf (a3 @e5 @e6 @e0) ?_
      (refine g1f (a3 @e5 @e6 @e0) ?_;refine zC (hD.call zK (by simp [zJ]) _) ?_;intro p2 h2 hr2;refine g2 ?_)
      obtain ⟨rfl,rfl⟩:=hr2
      refine ge ?_
      rfl
     ·have e6:(f !=0)=true:=by simp [hf]
      refine gf (a3 @e5 @e6 @e0) ?_
      (refine g1f (a3 @e5 @e6 @e0) ?_;refine zC (hxv.call zK (by simp [zJ]) _) ?_;intro p2 h2 hr2;refine g2 ?_)
      obtain ⟨rfl,rfl⟩:=hr2
      refine gf (a3 @e5 @e6 @e0) ?_
      (refine g1f (a3 @e5 @e6 @e0) ?_;refine zC (hD.call zK (by simp [zJ]) _) ?_;intro p2 h2 hr2;refine g2 ?_)
      obtain ⟨rfl,rfl⟩:=hr2
      refine ge ?_
      rfl
    ·have e5:(e !=0)=true:=by simp [he]
     by_cases hf:f=0
     ·have e6:(f !=0)=false:=by simp [hf]
      obtain ⟨ys,yc⟩:=hY hf
      have hyv:=zdA p hp hle ha y ys
      rw [yc] at hyv
      refine gf (a3 @e5 @e6 @e0) ?_
      (refine g1f (a3 @e5 @e6 @e0) ?_;refine zC (hyv.call zK (by simp [zJ]) _) ?_;intro p2 h2 hr2;refine g2 ?_)
      obtain ⟨rfl,rfl⟩:=hr2
      refine gf (a3 @e5 @e6 @e0) ?_
      (refine g1f (a3 @e5 @e6 @e0) ?_;refine zC (hD.call zK (by simp [zJ]) _) ?_;intro p2 h2 hr2;refine g2 ?_)
      obtain ⟨rfl,rfl⟩:=hr2
      refine ge ?_
      rfl
     ·have e6:(f !=0)=true:=by simp [hf]
      refine gf (a3 @e5 @e6 @e0) ?_
      (refine g1f (a3 @e5 @e6 @e0) ?_;refine zC (hD.call zK (by simp [zJ]) _) ?_;intro p2 h2 hr2;refine g2 ?_)
      obtain ⟨rfl,rfl⟩:=hr2
      refine ge ?_
      rfl
end Go.AL
namespace Go.Proofs.YtfjkncfjclifoaaGreatDoor
open Go.ChangeShapes Go.WideShapes Go.ChangeAt Go.RowKit Go.AL Go.Proofs
theorem own:ownKnob Tryz.prog.godebug=none:=by kernel_rfl
theorem oO:laidOutB Tryz.prog=true:=by kernel_rfl
theorem ul5:Tryz.prog.underlying 5=some (.int .u8):=by kernel_rfl
theorem ul4:Tryz.prog.underlying 4=some .bool:=by kernel_rfl
theorem ul9:Tryz.prog.underlying 9=some .string:=by kernel_rfl
theorem znX:Tryz.f4.params= #[27,31,9,9,32,5]:=by kernel_rfl
theorem zdL {W:World} (h:laidMetH Tryz.prog Rows.branchValidRow.laid W):GRel ⟨[],[],W,fun _=>False⟩ G0:=by
 rw [MakeChecks.laidMetH_plain _ _ _ (by kernel_rfl)] at h
 obtain ⟨ps,⟨g0,t0,cs0,f0,p0,q0,hg0,ht0,hv0,hd0,⟨g1,t1,cs1,f1,p1,q1,hg1,ht1,hv1,hd1,⟨g2,t2,cs2,f2,p2,q2,hg2,ht2,hv2,hd2,_,_⟩,_⟩,_⟩,_,_⟩:=h
 obtain rfl:=Option.some.inj ((show Tryz.prog.globalNamed "math/bits.deBruijn64tab" =some 2 by kernel_rfl).symm.trans hg0)
 obtain rfl:=Option.some.inj ((show Tryz.prog.globalNamed "porism/lattice.keys" =some 1 by kernel_rfl).symm.trans hg1)
 obtain rfl:=Option.some.inj ((show Tryz.prog.globalNamed "porism/value.words" =some 0 by kernel_rfl).symm.trans hg2)
 obtain rfl:=Option.some.inj ((show (Tryz.prog.globals[2]?).map (·.type)=some 310 by kernel_rfl).symm.trans ht0)
 obtain rfl:=Option.some.inj ((show (Tryz.prog.globals[1]?).map (·.type)=some 108 by kernel_rfl).symm.trans ht1)
 obtain rfl:=Option.some.inj ((show (Tryz.prog.globals[0]?).map (·.type)=some 226 by kernel_rfl).symm.trans ht2)
 have r0:=eP (X:=fun _=>False) (fun _ h=>h) (n:=2) (by kernel_rfl) hg0 hv0 hd0 (show _=db by kernel_rfl)
 have r1:=eP (X:=fun _=>False) (fun _ h=>h) (n:=2) (by kernel_rfl) hg1 hv1 hd1 (show _=[.ts 1 (ws.map ([·]))] by kernel_rfl)
 have r2:=eP (X:=fun _=>False) (fun _ h=>h) (n:=2) (by kernel_rfl) hg2 hv2 hd2 (show _=ws by kernel_rfl)
 intro g cs hG
 unfold G0 at hG
 split at hG
 ·rename_i e;rw [beq_iff_eq] at e;subst e;cases hG;exact r2
 ·split at hG
  ·rename_i e;rw [beq_iff_eq] at e;subst e;cases hG;exact r1
  ·split at hG
   ·rename_i e;rw [beq_iff_eq] at e;subst e;cases hG;exact r0
   ·cases hG
set_option maxRecDepth 100000 in
theorem jU (os:Os) (started:os.Started) (H:Type) (enc:TypeId×Value→H):
  ReturnsInHanded {} Tryz.checked os 4 .any (fun w args=>(Rows.branchValidSpec.pre enc Tryz.prog Tryz.f4 [] false w args∧laidMetH Tryz.prog Rows.branchValidRow.laid w)∧sizedMet enc Tryz.prog Tryz.f4 (OpenSpec.ofChange Rows.branchValidSpec) false w args)
   (Rows.branchValidSpec.post enc Tryz.prog Tryz.f4 false true false false):=by
 refine returnsInHanded_of_change_and (C:=Tryz.checked) (X:=fun w _=>laidMetH Tryz.prog Rows.branchValidRow.laid w) (fun _ _ _ hh h=>h.of_heap hh) own started (by kernel_rfl) Tryz.func4
  (ChangeSpec.witness_shaped (enc:=enc) (C:=Tryz.checked) (os:=os) (X:=fun w _=>laidMetH Tryz.prog Rows.branchValidRow.laid w) false (World.laidAll Tryz.prog os Rows.branchValidRow.laid) #[.agg #[.slice none 0 0,.slice none 0 0,.slice none 0 0,.slice none 0 0],.agg #[.slice none 0 0,.slice none 0 0],.string ⟨#[]⟩,.string ⟨#[]⟩,.slice none 0 0,.int .u8 0] 8 (World.laidAll_os _ _ _)
   (World.shaped_of_ZipB (by kernel_rfl) (by kernel_rfl)) (by kernel_rfl) (by kernel_rfl) (by kernel_rfl)
   (by rw [MakeChecks.laidMetH_plain _ _ _ (by kernel_rfl)];exact laidMet_laidAll _ (by kernel_rfl) (by kernel_rfl))) ?_
 intro W base args ds gs before hval0 hW hc hsz hL _
 have hval: ∀ (j:Nat) t v,Tryz.f4.params[j]? =some t→args[j]? =some v→Value.okWide Tryz.prog W .any base t v:=hval0
 have hW':=hW
 obtain ⟨p,q,hA0,hV,rfl,_,_⟩:=hW
 have hA:DataW.TrodAll enc Tryz.prog W 0 (fun _=>true) true Tryz.f4.params.toList args.toList ds p:=hA0
 rw [znX] at hA hval
 obtain ⟨v0,vs0,d0,ds0,p0,q0,hargs,rfl,rfl,h0,t0⟩:=trodAll_cons hA
 obtain ⟨v1,vs1,d1,ds1,p1,q1,rfl,rfl,rfl,h1,t1⟩:=trodAll_cons t0
 obtain ⟨v2,vs2,d2,ds2,p2,q2,rfl,rfl,rfl,h2,t2⟩:=trodAll_cons t1
 obtain ⟨v3,vs3,d3,ds3,p3,q3,rfl,rfl,rfl,h3,t3⟩:=trodAll_cons t2
 obtain ⟨v4,vs4,d4,ds4,p4,q4,rfl,rfl,rfl,h4,t4⟩:=trodAll_cons t3
 obtain ⟨v5,vs5,d5,ds5,p5,q5,rfl,rfl,rfl,h5,t5⟩:=trodAll_cons t4
 obtain ⟨rfl,rfl,rfl⟩:=trodAll_nil t5
 obtain rfl:args= #[v0,v1,v2,v3,v4,v5]:=by cases args;simp_all
 obtain ⟨rfl,rfl⟩:=trodVars_none hV
 rw [List.all_eq_true] at hsz
 have w0:Light Tryz.prog 27 d0:=fun k hk=>of_decide_eq_true (hsz k (List.mem_append_left _ hk))
 have w1:Light Tryz.prog 31 d1:=fun k hk=>of_decide_eq_true (hsz k (List.mem_append_right _ (List.mem_append_left _ hk)))
 have w2:Light Tryz.prog 9 d2:=fun k hk=>of_decide_eq_true (hsz k (List.mem_append_right _ (List.mem_append_right _ (List.mem_append_left _ hk))))
 have w3:Light Tryz.prog 9 d3:=fun k hk=>of_decide_eq_true (hsz k (List.mem_append_right _ (List.mem_append_right _ (List.mem_append_right _ (List.mem_append_left _ hk)))))
 have w4:Light Tryz.prog 32 d4:=fun k hk=>of_decide_eq_true (hsz k (List.mem_append_right _ (List.mem_append_right _ (List.mem_append_right _ (List.mem_append_right _ (List.mem_append_left _ hk))))))
 have w5:Light Tryz.prog 5 d5:=fun k hk=>of_decide_eq_true (hsz k (List.mem_append_right _ (List.mem_append_right _ (List.mem_append_right _ (List.mem_append_right _ (List.mem_append_right _ (List.mem_append_left _ hk)))))))
 obtain ⟨a0,b0,r0⟩:=dPg.arg (ts:=[22,23,24,25]) (by kernel_rfl) (by kernel_rfl) w0 (hval 0 _ v0 rfl rfl) h0
 obtain ⟨a1,b1,r1⟩:=dRp.arg (ts:=[28,29]) (by kernel_rfl) (by kernel_rfl) w1 (hval 1 _ v1 rfl rfl) h1
 obtain ⟨s2,e2,_,_,_⟩:=Go.ChangeMaps.open_string ul9 (hval 2 _ v2 rfl rfl) h2
 obtain ⟨a2,b2,r2⟩:=dS.arg1 (by kernel_rfl) (by rw [e2];rfl) w2 h2
 obtain ⟨s3,e3,_,_,_⟩:=Go.ChangeMaps.open_string ul9 (hval 3 _ v3 rfl rfl) h3
 obtain ⟨a3,b3,r3⟩:=dS.arg1 (by kernel_rfl) (by rw [e3];rfl) w3 h3
 obtain ⟨l4,m4,n4,e4⟩:=okWide_slice (show Tryz.prog.underlying 32=some (.slice 84) by kernel_rfl) (hval 4 _ v4 rfl rfl)
 obtain ⟨a4,b4,r4⟩:=zfP.arg1 (by kernel_rfl) (by rw [e4];rfl) w4 h4
 obtain ⟨x5,e5,f5,g5,k5⟩:=open_int ul5 (hval 5 _ v5 rfl rfl) h5
 have z5:0≤x5∧x5≤255:=by simpa [Lit.wf,IntKind.min,IntKind.max,IntKind.signed,IntKind.bits] using k5
 obtain ⟨x5,rfl⟩:=Int.eq_ofNat_of_zero_le z5.1
 have hS:SRel ⟨[],[],W,fun _=>False⟩:=⟨rfl,fun r b v h=>by simp at h,fun r r' v v' n h=>by simp at h,fun a h=>h.elim,fun a h=>h.elim⟩
 obtain ⟨pr,rfl, -,hcall⟩:=zpA a0 b0 a1 b1 a2 b2 a3 b3 a4 b4 x5 (by omega)
 have law:=hcall.2 [] W (fun _=>False) #[v0,v1,v2,v3,v4,v5] hS (zdL hL) rfl fun i p v hp hv=>by
  match i,hp,hv with
  |0,hp,hv=>simp at hp hv;subst hp;subst hv;exact r0
  |1,hp,hv=>simp at hp hv;subst hp;subst hv;exact r1
  |2,hp,hv=>simp at hp hv;subst hp;subst hv;exact r2
  |3,hp,hv=>simp at hp hv;subst hp;subst hv;exact r3
  |4,hp,hv=>simp at hp hv;subst hp;subst hv;exact r4
  |5,hp,hv=>simp at hp hv;subst hp;subst hv;rw [e5];exact .sc ⟨by rw [zlC];omega,by rw [zlD];omega⟩
  |i+6,hp,hv=>simp at hp
 have hlt0: ∀ z∈p0,z.block<W.heap.size:=fun z hz=>by
  have:=hW'.lt z (by simp [hz])
  simpa using this
 have hlt1: ∀ z∈p1,z.block<W.heap.size:=fun z hz=>by
  have:=hW'.lt z (by simp [hz])
  simpa using this
 have hlt2: ∀ z∈p2,z.block<W.heap.size:=fun z hz=>by
  have:=hW'.lt z (by simp [hz])
  simpa using this
 have hlt3: ∀ z∈p3,z.block<W.heap.size:=fun z hz=>by
  have:=hW'.lt z (by simp [hz])
  simpa using this
 have hlt4: ∀ z∈p4,z.block<W.heap.size:=fun z hz=>by
  have:=hW'.lt z (by simp [hz])
  simpa using this
 have hlt5: ∀ z∈p5,z.block<W.heap.size:=fun z hz=>by
  have:=hW'.lt z (by simp [hz])
  simpa using this
 refine (callsIn_wide.1 law).mono fun e W' ⟨φ',h',p,v,he,hext,_,hrel,hp,_⟩=> ?_
 subst he;subst hp
 have hb:=zdY hext
 obtain rfl:v= .bool true:=by cases hrel;rfl
 exact ⟨_,rfl,_,_,_,[],_,[],hW',trodAll_mk1 (shut_bool ul4 _),trodAll_cons_mk (Below.trod oO (by kernel_rfl) (of_decide_eq_true (by kernel_rfl)) h0 hb (hlt0)) (trodAll_cons_mk (Below.trod oO (by kernel_rfl) (of_decide_eq_true (by kernel_rfl)) h1 hb (hlt1)) (trodAll_cons_mk (Below.trod oO (by kernel_rfl) (of_decide_eq_true (by kernel_rfl)) h2 hb (hlt2)) (trodAll_cons_mk (Below.trod oO (by kernel_rfl) (of_decide_eq_true (by kernel_rfl)) h3 hb (hlt3)) (trodAll_cons_mk (Below.trod oO (by kernel_rfl) (of_decide_eq_true (by kernel_rfl)) h4 hb (hlt4)) (trodAll_mk1 (Below.trod oO (by kernel_rfl) (of_decide_eq_true (by kernel_rfl)) h5 hb (hlt5))))))),rfl,hb.frame _,fun h=>by cases h⟩
end Go.Proofs.YtfjkncfjclifoaaGreatDoor
namespace Go.Proofs.YtfjkncfjclifoaaGreatDoor
open Go
theorem jf0:(Rows.branchValidRow.wf (OpenSpec.ofChange Rows.branchValidSpec))=true:=by kernel_rfl
theorem jf1:(laidOutB Tryz.prog)=true:=by kernel_rfl
theorem jf2:(mapsRowed Tryz.prog)=true:=by kernel_rfl
theorem jf3:(Tryz.f4.params.all (Tryz.prog.readableRec ·))=true:=by kernel_rfl
theorem jf4:(namedTie Tryz.prog Rows.branchValidRow.named Rows.branchValidSpec.vars)=true:=by kernel_rfl
theorem jf5:((Rows.branchValidRow.stops==[]))=true:=by kernel_rfl
theorem jf6:((Tryz.prog.stops==[]))=true:=by kernel_rfl
theorem jf7:((Rows.branchValidRow.knobs==[]))=true:=by kernel_rfl
theorem jf8:((Tryz.prog.stopKnobs==[]))=true:=by kernel_rfl
theorem jf9:((Rows.branchValidRow.inPlace==Tryz.prog.inPlace 4))=true:=by kernel_rfl
theorem zcJ:((Rows.branchValidRow.unfollowed==Tryz.prog.unfollowed 4))=true:=by kernel_rfl
theorem fZ:((Rows.branchValidRow.recurses==Tryz.prog.recurses 4))=true:=by kernel_rfl
theorem gE:((Rows.branchValidRow.named==Tryz.prog.varsNamed 4))=true:=by kernel_rfl
theorem gD:((Rows.branchValidRow.maps==(Tryz.f4.params.toList++Rows.branchValidSpec.plain.varTypes Tryz.prog).any (Tryz.prog.mapsRec ·)))=true:=by kernel_rfl
theorem jE:((Rows.branchValidRow.ifaces==(Tryz.f4.params.toList++Rows.branchValidSpec.plain.varTypes Tryz.prog).any (Tryz.prog.ifacesRec ·)))=true:=by kernel_rfl
theorem mF:((Rows.branchValidRow.mapsOut==Tryz.prog.mapsAmong Tryz.f4.resultTypes.toList))=true:=by kernel_rfl
theorem mE:((Rows.branchValidRow.loops==(Tryz.f4.params.toList++Rows.branchValidSpec.plain.varTypes Tryz.prog).any (Tryz.prog.loopsFrom ·)))=true:=by kernel_rfl
theorem mD:((Rows.branchValidRow.wideKeys==(Tryz.f4.params.toList++Rows.branchValidSpec.plain.varTypes Tryz.prog++Tryz.f4.resultTypes.toList).any (Tryz.prog.wideKeysFrom ·)))=true:=by kernel_rfl
theorem nZ:(Rows.branchValidSpec.vars.all (Tryz.prog.varReadable ·))=true:=by kernel_rfl
theorem nH:(Tryz.f4.resultTypes.all (fun t=>Tryz.prog.readableRec t&&decide (t<Tryz.prog.types.size)))=true:=by kernel_rfl
theorem nE:((Rows.branchValidRow.ifacesOut==Tryz.f4.resultTypes.toList.any (Tryz.prog.ifacesRec ·)))=true:=by kernel_rfl
theorem nD:((Rows.branchValidRow.loopsOut==Tryz.f4.resultTypes.toList.any (Tryz.prog.loopsFrom ·)))=true:=by kernel_rfl
theorem nC:((Rows.branchValidRow.plainKeys==Tryz.prog.plainKeys))=true:=by kernel_rfl
theorem nB:(Rows.branchValidRow.shortTexts.isNone)=true:=by kernel_rfl
theorem nA:(Tryz.prog.stopsHeard)=true:=by kernel_rfl
theorem oZ:(Tryz.prog.mayEnter)=true:=by kernel_rfl
theorem oY:((Rows.branchValidRow.lifted==Tryz.prog.liftsFinal))=true:=by kernel_rfl
theorem oX:((Tryz.prog.make==some Rows.branchValidRow.make))=true:=by kernel_rfl
theorem oW:((Rows.branchValidRow.kinds==(if Rows.branchValidRow.domain.isEmpty then [] else Tryz.f4.params.toList.map fun t=>match Tryz.prog.underlying t with|some (.int k)=>some k|_=>none)))=true:=by kernel_rfl
theorem oV:((Rows.branchValidRow.pinned==Rows.branchValidRow.pinnedBy))=true:=by kernel_rfl
theorem pT:((Rows.branchValidRow.veiled==(Tryz.f4.params.toList++Rows.branchValidSpec.plain.varTypes Tryz.prog++Tryz.f4.resultTypes.toList).any (Tryz.prog.veiledRec ·)))=true:=by kernel_rfl
theorem pS:(Rows.branchValidRow.veiledFits Tryz.prog Tryz.f4.params.toList (Tryz.f4.params.toList++Rows.branchValidSpec.plain.varTypes Tryz.prog++Tryz.f4.resultTypes.toList))=true:=by kernel_rfl
end Go.Proofs.YtfjkncfjclifoaaGreatDoor
