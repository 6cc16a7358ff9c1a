/-
  The row of BranchMeets, walked over whatever input it takes.
-/
import Derived.Test.YtfjkncfjclifoaaGreatDoorZ40
import Derived.Test.YtfjkncfjclifoaaGreatDoorZ44
import Derived.Test.YtfjkncfjclifoaaGreatDoorTie
import Derived.Test.YtfjkncfjclifoaaGreatDoorCards
import Derived.Handy
import Derived.Lay
import Derived.ChangeMaps5
import Derived.SevenTiedAt
set_option linter.unusedSimpArgs false
set_option linter.unusedVariables false
set_option maxRecDepth 100000
set_option maxHeartbeats 4000000
namespace Go.AL
open Go.Proofs Go.Proofs.Tryz
@[go_sem] def UMee2f8.pl:Nat→DPlan
 |5=>⟨[⟨1,0,[0]⟩,⟨0,0,[]⟩,⟨1,0,[0]⟩,⟨0,0,[]⟩,⟨0,0,[]⟩,⟨0,0,[]⟩,⟨1,0,[0]⟩,⟨0,0,[]⟩,⟨6,0,[0]⟩,⟨0,0,[]⟩,⟨0,0,[]⟩,⟨0,0,[]⟩,⟨2,0,[]⟩,⟨4,0,[]⟩,⟨0,0,[]⟩],[0,1,2,3,4,5,6,7,8,9,10,11,12,13,14],1⟩
 |18=>⟨[⟨0,0,[]⟩,⟨0,0,[]⟩,⟨0,0,[]⟩,⟨0,0,[]⟩,⟨1,0,[]⟩,⟨0,0,[]⟩,⟨0,0,[]⟩,⟨0,0,[]⟩,⟨0,0,[]⟩,⟨1,0,[]⟩,⟨0,0,[]⟩,⟨1,0,[]⟩,⟨0,0,[]⟩,⟨0,0,[]⟩,⟨0,0,[]⟩,⟨1,0,[]⟩,⟨0,0,[]⟩,⟨1,0,[]⟩,⟨0,0,[]⟩,⟨0,0,[]⟩,⟨0,0,[]⟩,⟨1,0,[]⟩,⟨3,0,[]⟩,⟨0,0,[]⟩,⟨1,0,[]⟩,⟨0,0,[]⟩,⟨0,0,[]⟩,⟨0,0,[]⟩,⟨1,0,[]⟩,⟨0,0,[]⟩,⟨0,0,[]⟩,⟨0,0,[]⟩],[0,1,2,3,4,5,6,7,8,9,10,11,12,13,14,15,16,17,18,19,20,21,22,23,24,25,26,27,28,29,30,31],0⟩
 |_=>⟨[],[],0⟩
@[go_sem] def rK:DPlan:=⟨[⟨1,0,[0]⟩,⟨0,0,[]⟩,⟨1,0,[0]⟩,⟨0,0,[]⟩,⟨0,0,[]⟩,⟨0,0,[]⟩,⟨1,0,[0]⟩,⟨0,0,[]⟩,⟨3,0,[]⟩,⟨0,0,[]⟩,⟨0,0,[]⟩,⟨0,0,[]⟩,⟨2,0,[]⟩,⟨4,0,[]⟩,⟨0,0,[]⟩],[0,1,2,3,4,5,6,7,8,9,10,11,12,13,14],1⟩
@[go_sem] def sI:DPlan:=⟨[⟨0,0,[]⟩,⟨0,0,[]⟩,⟨0,0,[]⟩,⟨0,0,[]⟩,⟨1,0,[]⟩,⟨0,0,[]⟩,⟨0,0,[]⟩,⟨0,0,[]⟩,⟨0,0,[]⟩,⟨1,0,[]⟩,⟨0,0,[]⟩,⟨1,0,[]⟩,⟨0,0,[]⟩,⟨0,0,[]⟩,⟨0,0,[]⟩,⟨1,0,[]⟩,⟨0,0,[]⟩,⟨1,0,[]⟩,⟨0,0,[]⟩,⟨0,0,[]⟩,⟨0,0,[]⟩,⟨1,0,[]⟩,⟨3,0,[]⟩,⟨0,0,[]⟩,⟨1,0,[]⟩,⟨0,0,[]⟩,⟨0,0,[]⟩,⟨0,0,[]⟩,⟨1,0,[]⟩,⟨0,0,[]⟩,⟨0,0,[]⟩,⟨0,0,[]⟩],[0,1,2,3,4,5,6,7,8,9,10,11,12,13,14,15,16,17,18,19,20,21,22,23,24,25,26,27,28,29,30,31],0⟩
theorem zl6 (h:Heap):ECall prog G0 9 [] h fun q h2=>q=bo true∧h2=h:=⟨_,_,⟨rfl,rfl⟩,aO h⟩
theorem com_e (x:Rp) (a b:Int) (hcs:x.cs.length≤140737488355328):EPure prog G0 21 [.agg x.c,i64 a,i64 b] fun v=>v=i64 (oT (rB (x.cs.map zm6) a) (rB (x.cs.map zm6) b) (x.cs.map zm6).length):=
 EPure.args ⟨_,rfl,.sc,Common_ok (x.cs.map zm6) a b (by simpa using hcs)⟩ (.cons (zfJ x) (.cons (PLe.refl _) (.cons (PLe.refl _) .nil)))
abbrev bools (l:List Bool):PV:= .ts 1 (l.map fun b=>[bo b])
open UMee2f8 in
theorem zfP (p:Pg) (hp:p.ok) (r:Rp) (hr:r.raw) (u:Nat) (hu:u<256) (name:BA) (hname:name.size≤140737488355328) (ops:List Op1) (ho:iP ops) (on:List Bool) (hon:on.length≤140737488355328):
  EPure prog G0 8 [.agg p.c,.agg r.c,u8 u,yQ name,lJ ops,bools on] fun v=>v=bo true:=by
 refine ECall.cut (R:=fun v _=>v=bo true) (pv func8 135 false (by kernel_rfl) rfl rfl ?_) (by rintro p h rfl;rfl)
 refine g2 ?_
 refine ge ?_
 (refine g1 ?_;refine zC (zl6 _) ?_;intro p2 h2 hr2;refine g2 ?_)
 obtain ⟨rfl,rfl⟩:=hr2
 refine ge ?_
 (refine g1 ?_;refine zC ((zf7 p hp r hr.cl hr.bl (fun c hc=>(hr.c c hc).1)).call zK (by simp [zJ]) _) ?_;intro p2 h2 hr2;refine g2 ?_)
 obtain ⟨⟨b,rfl,hb⟩,rfl⟩:=hr2
 cases b with
 |false=>
  refine ge ?_
  rfl
 | true=>
  obtain ⟨hlat,hc16,hb20,hsh⟩:=hb rfl
  refine ge ?_
  (refine g1 ?_;refine zC ((gQ ops ho.1).call zK (by simp) _) ?_;intro p2 h2 hr2;refine g2 ?_)
  obtain ⟨⟨b,rfl,hs⟩,rfl⟩:=hr2
  cases b with
  |false=>
   refine ge ?_
   rfl
  | true=>
   have hs:=hs rfl
   have hle:p.sm:=fun x hx=>by have:=hlat x hx;omega
   have hsz:r.sz:=⟨by omega,fun c hc=>OpsG.of (hsh c hc) fun x hx=>((hr.c c hc).2 x hx).2,by omega,hr.b⟩
   have hog:OpsG ops:=OpsG.of hs fun x hx=>(ho.2 x hx).2
   have ha:=appP p hp hle
   by_cases h1:(100:Int)<(name.size:Int)
   ·have e1:decide ((100:Int)<(name.size:Int))=true:=by simp only [h1,decide_true]
    refine gf @e1 ?_
    rfl
   have e1:decide ((100:Int)<(name.size:Int))=false:=by simp only [h1,decide_false]
   by_cases h2:(6:Int)<(on.length:Int)
   ·have e2:decide ((6:Int)<(on.length:Int))=true:=by simp only [h2,decide_true]
    refine gf (a2 @e1 @e2) ?_
    rfl
   have e2:decide ((6:Int)<(on.length:Int))=false:=by simp only [h2,decide_false]
   refine gf (a2 @e1 @e2) ?_
   (refine g1f (a2 @e1 @e2) ?_;refine zC ((zdA p hp hle ha r hsz).call zK (by simp [zJ]) _) ?_;intro p2 h2 hr2;refine g2 ?_)
   obtain ⟨rfl,rfl⟩:=hr2
   cases hch:zh8 p r with
   |none=>
    refine ge ?_
    rfl
   | some st=>
    obtain ⟨hbr, -, -⟩:=zb7 hch
    obtain ⟨hpos, -⟩:=hbr.2.2.1
    have hne:((r.bs.length:Int)==0)=false:=by rw [beq_eq_false_iff_ne];omega
    have hn0: ¬((r.bs.length:Int)=0):=by omega
    have hwu:IntKind.i64.wrap (u:Int)=u:=xM (by omega) (by omega)
    have h5:(prog.underlying 5).isSome=true:=by kernel_rfl
    have hmu:(u:Int).tmod r.bs.length=((u%r.bs.length:Nat):Int):=(Int.ofNat_tmod u r.bs.length).symm
    have hk:=Nat.mod_lt u hpos
    obtain ⟨k,hke⟩: ∃ k,u%r.bs.length=k:=⟨_,rfl⟩
    rw [hke] at hmu hk
    have hx:=zG (f:=Br.c) [] hk
    obtain ⟨hix,hl1,hl2⟩:=zgK hbr hk
    (repeat (first|refine nx ?_|(intro zs zh;(try simp only [go_sem] at zh);subst zh)|((first|refine ns ?_|refine zF rfl rfl rfl ?_|(refine zN rfl rfl rfl ?_;intro zs zh;(try simp only [go_sem] at zh);subst zh;refine nx ?_));intro zs zh;(try simp only [go_sem,Option.isSome_some,hne,hn0,hwu,h5,hmu,hk,hx,zB] at zh);subst zh;first|refine nx ?_|refine zH (by omega) ?_|refine zL (by decide) ?_|refine zI (by decide) (by omega) ?_)|refine zQ rK _ 5 (by kernel_rfl) ?_|refine zQ sI _ 18 (by kernel_rfl) ?_))
    (refine zF rfl rfl rfl ?_;intro sr hsr;simp only [go_sem,hmu,hk,hx,zB] at hsr;subst hsr;refine vP rfl (zjM r (by omega) r.bs[k].name name hname) (by simp [zJ]) ?_;intro p2 hr2 ts2 hts;simp only [go_sem] at hts;subst hts)
    obtain ⟨x,e,rfl,hF⟩:=hr2
    (repeat (first|refine nx ?_|(intro zs zh;(try simp only [go_sem] at zh);subst zh)|((first|refine ns ?_|refine zF rfl rfl rfl ?_|(refine zN rfl rfl rfl ?_;intro zs zh;(try simp only [go_sem] at zh);subst zh;refine nx ?_));intro zs zh;(try simp only [go_sem,hmu,hk,hx,zB] at zh);subst zh;first|refine nx ?_|refine zH (by omega) ?_|refine zL (by decide) ?_|refine zI (by decide) (by omega) ?_)|refine zQ rK _ 5 (by kernel_rfl) ?_|refine zQ sI _ 18 (by kernel_rfl) ?_))
    by_cases he:e=0
    case neg=>
     have e3:(e !=0)=true:=by simp [he]
     refine gf @e3 ?_
     rfl
    subst he
    have e3:((0:Int)!=0)=false:=rfl
    obtain ⟨hM0,hnn⟩:=MInv.start hsz hc16 hk hname hix ⟨hl1,hl2⟩ (hF rfl)
    refine gf @e3 ?_
    refine zO on.length (K9 (K4 (K4 (.v::D4 (K9 (K9 (K9 (K9 (K9 (K4 (D9 (D9 (D9 (.d:: .d::K9 (K9 (K9 (K4 (K4 ([]))))))))))))))))))) (own:=false) (fun i (_:Rp×Heap)=>[i64 i]) (fun s=> .var 27 p.c:: .var 31 r.c:: .var 31 s.1.c::s.2) (fun i s=>MInv r k name i s.1) (x,[]) rfl rfl hM0 (by omega) ?_ ?_
    ·rintro ⟨x,J⟩ hI t ht
     dsimp only at*
     simp only [zY] at ht;subst ht
     have hlen:=hI.len
     have hkx:k<x.bs.length:=by omega
     have hnx:r.bs.length<x.bs.length:=by omega
     have hw1:IntKind.i64.wrap ((x.bs.length:Int)-1)=(r.bs.length:Nat):=by rw [xM (by omega) (by omega)];omega
     have hxk:=zG (f:=Br.c) [] hkx
     have hxn:=zG (f:=Br.c) [] hnx
     have hcom:=com_e x x.bs[k].last x.bs[r.bs.length].last (by have:=hI.cl;omega)
     have hme:=hI.me
     rw [vT hkx,vT hnx,vT hk] at hme
     rw [hme.com] at hcom
     have hlt:(r.bs.length<x.bs.length)=True:=eq_true hnx
     have hlt2:((r.bs.length:Int)<(x.bs.length:Int))=True:=eq_true (by omega)
     have hlt3:((k:Int)<(x.bs.length:Int))=True:=eq_true (by omega)
     (repeat (first|refine nx ?_|(intro zs zh;(try simp only [go_sem] at zh);subst zh)|((first|refine ns ?_|refine zF rfl rfl rfl ?_|(refine zN rfl rfl rfl ?_;intro zs zh;(try simp only [go_sem] at zh);subst zh;refine nx ?_));intro zs zh;(try simp only [go_sem,zM,hw1,hk,hkx,hx,hxk,hxn,hlt,hlt2,hlt3,zB,beq_self_eq_true] at zh);subst zh;first|refine nx ?_|refine zH (by omega) ?_|refine zL (by decide) ?_|refine zI (by decide) (by omega) ?_)|refine zQ rK _ 5 (by kernel_rfl) ?_|refine zQ sI _ 18 (by kernel_rfl) ?_))
     (refine vY ?_;refine zN rfl rfl rfl ?_;intro sr hsr;simp only [sK,List.getD_cons_succ,List.getD_cons_zero,Option.map_some,Option.getD_some,Bool.not_false,Bool.not_true] at hsr;subst hsr;(first|refine pK ?_|refine pL ?_);intro sr hsr;simp only [go_sem,hw1,hk,hkx,hx,hxk,hxn,hlt,hlt2,hlt3,zB] at hsr;subst hsr;refine vP rfl (hcom) (by simp [zJ]) ?_;intro p2 hr2 ts2 hts;simp only [go_sem] at hts;subst hts)
     subst hr2
     (repeat (first|refine nx ?_|(intro zs zh;(try simp only [go_sem] at zh);subst zh)|((first|refine ns ?_|refine zF rfl rfl rfl ?_|(refine zN rfl rfl rfl ?_;intro zs zh;(try simp only [go_sem] at zh);subst zh;refine nx ?_));intro zs zh;(try simp only [go_sem,hw1,hk,hkx,hx,hxk,hxn,hlt,hlt2,hlt3,zB,beq_self_eq_true] at zh);subst zh;first|refine nx ?_|refine zH (by omega) ?_|refine zL (by decide) ?_|refine zI (by decide) (by omega) ?_)|refine zQ rK _ 5 (by kernel_rfl) ?_|refine zQ sI _ 18 (by kernel_rfl) ?_))
     rfl
    ·rintro i ⟨x,J⟩ hi hw hI t ht
     dsimp only at*
     simp only [zY] at ht;subst ht
     have hy:=zG (f:=fun b:Bool=>[bo b]) [] hi
     generalize on[i]=o at*
     have step: ∀ to:BA,(rV (kN to) x.bs=k∨rV (kN to) x.bs=(r.bs.length:Nat))→ ∀ (y:Rp) (n e:Int),(e=0→CommitK x to ops y n)→MInv r k name (i+1) (if e=0 then y else x):=fun to hto y n e hK=>by
      by_cases he:e=0
      ·rw [if_pos he];exact hI.com hk hog (by omega) hto (hK he)
      ·rw [if_neg he];exact hI.up
     cases o with
     | false=>
      refine gf (a6 @hi @hw @hy @zB @zA @zD) ?_
      (refine g1f (a6 @hi @hw @hy @zB @zA @zD) ?_;refine zC ((fH p hp hle ha x hI.sz name ops hog).call zK (by simp [zJ]) _) ?_;intro p2 h2 hr2;refine g2 ?_)
      obtain ⟨⟨y,n,rfl,hK⟩,rfl⟩:=hr2
      have hst:=step name (.inr (hI.ixn hnn)) y n _ hK
      generalize zh7 p x name ops=e at*
      by_cases he:e=0
      ·have e4:(e==0)=true:=by simp [he]
       rw [if_pos he] at hst
       refine gf (a7 @hi @hw @hy @zB @e4 @zA @zD) ?_
       exact ⟨(y,_),hst,rfl,rfl,rfl⟩
      ·have e4:(e==0)=false:=by simp [he]
       rw [if_neg he] at hst
       refine gf (a7 @hi @hw @hy @zB @e4 @zA @zD) ?_
       exact ⟨(x,_),hst,rfl,rfl,rfl⟩
     | true=>
      refine gf (a8 @hi @hw @hy @hk @hx @zB @zA @zD) ?_
      (refine g1f (a8 @hi @hw @hy @hk @hx @zB @zA @zD) ?_;refine zC ((fH p hp hle ha x hI.sz r.bs[k].name ops hog).call zK (by simp [zJ]) _) ?_;intro p2 h2 hr2;refine g2 ?_)
      obtain ⟨⟨y,n,rfl,hK⟩,rfl⟩:=hr2
      have hst:=step r.bs[k].name (.inl (hI.ixk hk hix)) y n _ hK
      generalize zh7 p x r.bs[k].name ops=e at*
      by_cases he:e=0
      ·have e4:(e==0)=true:=by simp [he]
       rw [if_pos he] at hst
       refine gf (a7 @hi @hw @hy @zB @e4 @zA @zD) ?_
       exact ⟨(y,_),hst,rfl,rfl,rfl⟩
      ·have e4:(e==0)=false:=by simp [he]
       rw [if_neg he] at hst
       refine gf (a7 @hi @hw @hy @zB @e4 @zA @zD) ?_
       exact ⟨(x,_),hst,rfl,rfl,rfl⟩
end Go.AL
namespace Go.Proofs.YtfjkncfjclifoaaGreatDoor
open Go.ChangeShapes Go.WideShapes Go.ChangeAt Go.RowKit Go.AL Go.Proofs
theorem own:ownKnob Tryz.prog.godebug=none:=by kernel_rfl
theorem oO:laidOutB Tryz.prog=true:=by kernel_rfl
theorem ul5:Tryz.prog.underlying 5=some (.int .u8):=by kernel_rfl
theorem ul4:Tryz.prog.underlying 4=some .bool:=by kernel_rfl
theorem ul9:Tryz.prog.underlying 9=some .string:=by kernel_rfl
theorem ps_:Tryz.f8.params= #[27,31,5,9,32,65]:=by kernel_rfl
theorem zdL {W:World} (h:laidMetH Tryz.prog Rows.branchMeetsRow.laid W):GRel ⟨[],[],W,fun _=>False⟩ G0:=by
 rw [MakeChecks.laidMetH_plain _ _ _ (by kernel_rfl)] at h
 obtain ⟨ps,⟨g0,t0,cs0,f0,p0,q0,hg0,ht0,hv0,hd0,⟨g1,t1,cs1,f1,p1,q1,hg1,ht1,hv1,hd1,⟨g2,t2,cs2,f2,p2,q2,hg2,ht2,hv2,hd2,_,_⟩,_⟩,_⟩,_,_⟩:=h
 obtain rfl:=Option.some.inj ((show Tryz.prog.globalNamed "math/bits.deBruijn64tab" =some 2 by kernel_rfl).symm.trans hg0)
 obtain rfl:=Option.some.inj ((show Tryz.prog.globalNamed "porism/lattice.keys" =some 1 by kernel_rfl).symm.trans hg1)
 obtain rfl:=Option.some.inj ((show Tryz.prog.globalNamed "porism/value.words" =some 0 by kernel_rfl).symm.trans hg2)
 obtain rfl:=Option.some.inj ((show (Tryz.prog.globals[2]?).map (·.type)=some 310 by kernel_rfl).symm.trans ht0)
 obtain rfl:=Option.some.inj ((show (Tryz.prog.globals[1]?).map (·.type)=some 108 by kernel_rfl).symm.trans ht1)
 obtain rfl:=Option.some.inj ((show (Tryz.prog.globals[0]?).map (·.type)=some 226 by kernel_rfl).symm.trans ht2)
 have r0:=eP (X:=fun _=>False) (fun _ h=>h) (n:=2) (by kernel_rfl) hg0 hv0 hd0 (show _=db by kernel_rfl)
 have r1:=eP (X:=fun _=>False) (fun _ h=>h) (n:=2) (by kernel_rfl) hg1 hv1 hd1 (show _=[.ts 1 (ws.map ([·]))] by kernel_rfl)
 have r2:=eP (X:=fun _=>False) (fun _ h=>h) (n:=2) (by kernel_rfl) hg2 hv2 hd2 (show _=ws by kernel_rfl)
 intro g cs hG
 unfold G0 at hG
 split at hG
 ·rename_i e;rw [beq_iff_eq] at e;subst e;cases hG;exact r2
 ·split at hG
  ·rename_i e;rw [beq_iff_eq] at e;subst e;cases hG;exact r1
  ·split at hG
   ·rename_i e;rw [beq_iff_eq] at e;subst e;cases hG;exact r0
   ·cases hG
set_option maxRecDepth 100000 in
theorem nH (os:Os) (started:os.Started) (H:Type) (enc:TypeId×Value→H):
  ReturnsInHanded {} Tryz.checked os 8 .any (fun w args=>(Rows.branchMeetsSpec.pre enc Tryz.prog Tryz.f8 [] false w args∧laidMetH Tryz.prog Rows.branchMeetsRow.laid w)∧sizedMet enc Tryz.prog Tryz.f8 (OpenSpec.ofChange Rows.branchMeetsSpec) false w args)
   (Rows.branchMeetsSpec.post enc Tryz.prog Tryz.f8 false true false false):=by
 refine returnsInHanded_of_change_and (C:=Tryz.checked) (X:=fun w _=>laidMetH Tryz.prog Rows.branchMeetsRow.laid w) (fun _ _ _ hh h=>h.of_heap hh) own started (by kernel_rfl) Tryz.func8
  (ChangeSpec.witness_shaped (enc:=enc) (C:=Tryz.checked) (os:=os) (X:=fun w _=>laidMetH Tryz.prog Rows.branchMeetsRow.laid w) false (World.laidAll Tryz.prog os Rows.branchMeetsRow.laid) #[.agg #[.slice none 0 0,.slice none 0 0,.slice none 0 0,.slice none 0 0],.agg #[.slice none 0 0,.slice none 0 0],.int .u8 0,.string ⟨#[]⟩,.slice none 0 0,.slice none 0 0] 8 (World.laidAll_os _ _ _)
   (World.shaped_of_ZipB (by kernel_rfl) (by kernel_rfl)) (by kernel_rfl) (by kernel_rfl) (by kernel_rfl)
   (by rw [MakeChecks.laidMetH_plain _ _ _ (by kernel_rfl)];exact laidMet_laidAll _ (by kernel_rfl) (by kernel_rfl))) ?_
 intro W base args ds gs before hval0 hW hc hsz hL _
 have hval: ∀ (j:Nat) t v,Tryz.f8.params[j]? =some t→args[j]? =some v→Value.okWide Tryz.prog W .any base t v:=hval0
 have hW':=hW
 obtain ⟨p,q,hA0,hV,rfl,_,_⟩:=hW
 have hA:DataW.TrodAll enc Tryz.prog W 0 (fun _=>true) true Tryz.f8.params.toList args.toList ds p:=hA0
 rw [ps_] at hA hval
 obtain ⟨v0,vs0,d0,ds0,p0,q0,hargs,rfl,rfl,h0,t0⟩:=trodAll_cons hA
 obtain ⟨v1,vs1,d1,ds1,p1,q1,rfl,rfl,rfl,h1,t1⟩:=trodAll_cons t0
 obtain ⟨v2,vs2,d2,ds2,p2,q2,rfl,rfl,rfl,h2,t2⟩:=trodAll_cons t1
 obtain ⟨v3,vs3,d3,ds3,p3,q3,rfl,rfl,rfl,h3,t3⟩:=trodAll_cons t2
 obtain ⟨v4,vs4,d4,ds4,p4,q4,rfl,rfl,rfl,h4,t4⟩:=trodAll_cons t3
 obtain ⟨v5,vs5,d5,ds5,p5,q5,rfl,rfl,rfl,h5,t5⟩:=trodAll_cons t4
 obtain ⟨rfl,rfl,rfl⟩:=trodAll_nil t5
 obtain rfl:args= #[v0,v1,v2,v3,v4,v5]:=by cases args;simp_all
 obtain ⟨rfl,rfl⟩:=trodVars_none hV
 rw [List.all_eq_true] at hsz
 have w0:Light Tryz.prog 27 d0:=fun k hk=>of_decide_eq_true (hsz k (List.mem_append_left _ hk))
 have w1:Light Tryz.prog 31 d1:=fun k hk=>of_decide_eq_true (hsz k (List.mem_append_right _ (List.mem_append_left _ hk)))
 have w2:Light Tryz.prog 5 d2:=fun k hk=>of_decide_eq_true (hsz k (List.mem_append_right _ (List.mem_append_right _ (List.mem_append_left _ hk))))
 have w3:Light Tryz.prog 9 d3:=fun k hk=>of_decide_eq_true (hsz k (List.mem_append_right _ (List.mem_append_right _ (List.mem_append_right _ (List.mem_append_left _ hk)))))
 have w4:Light Tryz.prog 32 d4:=fun k hk=>of_decide_eq_true (hsz k (List.mem_append_right _ (List.mem_append_right _ (List.mem_append_right _ (List.mem_append_right _ (List.mem_append_left _ hk))))))
 have w5:Light Tryz.prog 65 d5:=fun k hk=>of_decide_eq_true (hsz k (List.mem_append_right _ (List.mem_append_right _ (List.mem_append_right _ (List.mem_append_right _ (List.mem_append_right _ (List.mem_append_left _ hk)))))))
 obtain ⟨a0,b0,r0⟩:=dPg.arg (ts:=[22,23,24,25]) (by kernel_rfl) (by kernel_rfl) w0 (hval 0 _ v0 rfl rfl) h0
 obtain ⟨a1,b1,r1⟩:=dRp.arg (ts:=[28,29]) (by kernel_rfl) (by kernel_rfl) w1 (hval 1 _ v1 rfl rfl) h1
 obtain ⟨x2,e2,f2,g2,k2⟩:=open_int ul5 (hval 2 _ v2 rfl rfl) h2
 have z2:0≤x2∧x2≤255:=by simpa [Lit.wf,IntKind.min,IntKind.max,IntKind.signed,IntKind.bits] using k2
 obtain ⟨x2,rfl⟩:=Int.eq_ofNat_of_zero_le z2.1
 obtain ⟨s3,e3,_,_,_⟩:=Go.ChangeMaps.open_string ul9 (hval 3 _ v3 rfl rfl) h3
 obtain ⟨a3,b3,r3⟩:=dS.arg1 (by kernel_rfl) (by rw [e3];rfl) w3 h3
 obtain ⟨l4,m4,n4,e4⟩:=okWide_slice (show Tryz.prog.underlying 32=some (.slice 84) by kernel_rfl) (hval 4 _ v4 rfl rfl)
 obtain ⟨a4,b4,r4⟩:=dOps.arg1 (by kernel_rfl) (by rw [e4];rfl) w4 h4
 obtain ⟨l5,m5,n5,e5⟩:=okWide_slice (show Tryz.prog.underlying 65=some (.slice 4) by kernel_rfl) (hval 5 _ v5 rfl rfl)
 obtain ⟨a5,b5,r5⟩:=dBs.arg1 (by kernel_rfl) (by rw [e5];rfl) w5 h5
 have hS:SRel ⟨[],[],W,fun _=>False⟩:=⟨rfl,fun r b v h=>by simp at h,fun r r' v v' n h=>by simp at h,fun a h=>h.elim,fun a h=>h.elim⟩
 obtain ⟨pr,rfl, -,hcall⟩:=zfP a0 b0 a1 b1 x2 (by omega) a3 b3 a4 b4 a5 b5.1
 have law:=hcall.2 [] W (fun _=>False) #[v0,v1,v2,v3,v4,v5] hS (zdL hL) rfl fun i p v hp hv=>by
  match i,hp,hv with
  |0,hp,hv=>simp at hp hv;subst hp;subst hv;exact r0
  |1,hp,hv=>simp at hp hv;subst hp;subst hv;exact r1
  |2,hp,hv=>simp at hp hv;subst hp;subst hv;rw [e2];exact .sc ⟨by rw [zlC];omega,by rw [zlD];omega⟩
  |3,hp,hv=>simp at hp hv;subst hp;subst hv;exact r3
  |4,hp,hv=>simp at hp hv;subst hp;subst hv;exact r4
  |5,hp,hv=>simp at hp hv;subst hp;subst hv;exact r5
  |i+6,hp,hv=>simp at hp
 have hlt0: ∀ z∈p0,z.block<W.heap.size:=fun z hz=>by
  have:=hW'.lt z (by simp [hz])
  simpa using this
 have hlt1: ∀ z∈p1,z.block<W.heap.size:=fun z hz=>by
  have:=hW'.lt z (by simp [hz])
  simpa using this
 have hlt2: ∀ z∈p2,z.block<W.heap.size:=fun z hz=>by
  have:=hW'.lt z (by simp [hz])
  simpa using this
 have hlt3: ∀ z∈p3,z.block<W.heap.size:=fun z hz=>by
  have:=hW'.lt z (by simp [hz])
  simpa using this
 have hlt4: ∀ z∈p4,z.block<W.heap.size:=fun z hz=>by
  have:=hW'.lt z (by simp [hz])
  simpa using this
 have hlt5: ∀ z∈p5,z.block<W.heap.size:=fun z hz=>by
  have:=hW'.lt z (by simp [hz])
  simpa using this
 refine (callsIn_wide.1 law).mono fun e W' ⟨φ',h',p,v,he,hext,_,hrel,hp,_⟩=> ?_
 subst he;subst hp
 have hb:=zdY hext
 obtain rfl:v= .bool true:=by cases hrel;rfl
 exact ⟨_,rfl,_,_,_,[],_,[],hW',trodAll_mk1 (shut_bool ul4 _),trodAll_cons_mk (Below.trod oO (by kernel_rfl) (of_decide_eq_true (by kernel_rfl)) h0 hb (hlt0)) (trodAll_cons_mk (Below.trod oO (by kernel_rfl) (of_decide_eq_true (by kernel_rfl)) h1 hb (hlt1)) (trodAll_cons_mk (Below.trod oO (by kernel_rfl) (of_decide_eq_true (by kernel_rfl)) h2 hb (hlt2)) (trodAll_cons_mk (Below.trod oO (by kernel_rfl) (of_decide_eq_true (by kernel_rfl)) h3 hb (hlt3)) (trodAll_cons_mk (Below.trod oO (by kernel_rfl) (of_decide_eq_true (by kernel_rfl)) h4 hb (hlt4)) (trodAll_mk1 (Below.trod oO (by kernel_rfl) (of_decide_eq_true (by kernel_rfl)) h5 hb (hlt5))))))),rfl,hb.frame _,fun h=>by cases h⟩
end Go.Proofs.YtfjkncfjclifoaaGreatDoor
