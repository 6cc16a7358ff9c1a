/-
  The row of BranchIndependent, walked over whatever input it takes.
-/
import Derived.Test.YtfjkncfjclifoaaGreatDoorZ43
import Derived.Test.YtfjkncfjclifoaaGreatDoorTie
import Derived.Test.YtfjkncfjclifoaaGreatDoorCards
import Derived.Handy
import Derived.Lay
import Derived.ChangeMaps5
import Derived.SevenTiedAt
set_option linter.unusedSimpArgs false
set_option linter.unusedVariables false
set_option maxRecDepth 100000
set_option maxHeartbeats 4000000
namespace Go.AL
open Go.Proofs Go.Proofs.Tryz
theorem Meets.of {cs:List Cm} {a b:Int} (ha: -1≤a∧a<cs.length) (hb: -1≤b∧b<cs.length):Meets cs a b (oT (rB cs a) (rB cs b) cs.length):=by
 obtain ⟨h1,h2,h3⟩:=zd3 (rB cs a) (rB cs b) cs.length
 generalize oT (rB cs a) (rB cs b) cs.length=L at*
 have key:0≤L→RIn cs a L.toNat∧RIn cs b L.toNat:=fun h0=>by
  obtain ⟨i,rfl,hi,x,y⟩:=h3 h0
  rw [Int.toNat_natCast]
  exact ⟨(kR cs a ha.2 i).1 x,(kR cs b hb.2 i).1 y⟩
 refine ⟨ha,hb,h1,?_,?_,fun k x y=> ?_,key⟩
 ·rcases Int.lt_or_le L 0 with h|h
  ·omega
  ·have:=(key h).1.le;omega
 ·rcases Int.lt_or_le L 0 with h|h
  ·omega
  ·have:=(key h).2.le;omega
 ·have hk:=x.le
  exact h2 k (by omega) ((kR cs a ha.2 k).2 x) ((kR cs b hb.2 k).2 y)
theorem pO {cs:List Cm} {a b:Int} (ha: -1≤a∧a<cs.length) (hb: -1≤b∧b<cs.length):
  ∃ L,oT (rB (cs++[(-1,a)]++[(-1,b)]) (cs.length:Nat)) (rB (cs++[(-1,a)]++[(-1,b)]) ((cs.length+1:Nat):Int)) (cs++[(-1,a)]++[(-1,b)]).length=L∧
   oT (rB (cs++[(-1,b)]++[(-1,a)]) ((cs.length+1:Nat):Int)) (rB (cs++[(-1,b)]++[(-1,a)]) (cs.length:Nat)) (cs++[(-1,b)]++[(-1,a)]).length=L:=by
 have M:=Meets.of ha hb
 refine ⟨oT (rB cs a) (rB cs b) cs.length,?_,?_⟩
 ·have:=M.left.right.com
  simpa using this
 ·have:=M.right.left.com
  simpa using this
structure TwoP (p:Pg) (r:Rp) (st:List Dt) (k j:Nat) (hk:k<r.bs.length) (hj:j<r.bs.length) (ops ops2:List Op1) (z:Rp):Prop where
 sz:z.sz
 len:z.bs.length=r.bs.length
 atk: ∀ h:k<z.bs.length,z.bs[k].last=(r.cs.length:Nat)
 atj: ∀ h:j<z.bs.length,z.bs[j].last=((r.cs.length+1:Nat):Int)
 cs:z.cs=r.cs++[⟨ops, -1,r.bs[k].last⟩]++[⟨ops2, -1,r.bs[j].last⟩]
 ch:zh8 p z=some (st++[(zk4 p (zcI p st r.bs[k].last) ops).1]++[(zk4 p (zcI p st r.bs[j].last) ops2).1])
theorem tE {p:Pg} {r:Rp} (hsz:r.sz) {st:List Dt} (hch:zh8 p r=some st) (h16:r.cs.length≤16) {k j:Nat} (hk:k<r.bs.length) (hj:j<r.bs.length) (hkj:k≠j) {ops ops2:List Op1} (ho:OpsG ops) (ho2:OpsG ops2)
  (he1:zh7 p r r.bs[k].name ops=0) (he2:zh7 p r r.bs[j].name ops2=0) {x:Rp} {n:Int} (hK:CommitK r r.bs[k].name ops x n):
  x.sz∧zh7 p x r.bs[j].name ops2=0∧ ∀ (z:Rp) (m:Int),CommitK x r.bs[j].name ops2 z m→TwoP p r st k j hk hj ops ops2 z:=by
 obtain ⟨hbr, -,hll⟩:=zb7 hch
 obtain ⟨hixk,hk1,hk2⟩:=zgK hbr hk
 obtain ⟨hixj,hj1,hj2⟩:=zgK hbr hj
 obtain ⟨X, -⟩:=yZ hsz hch ho hk hixk he1 hK
 have hxl:=X.len
 have hxc:=X.cl
 have hjx:j<x.bs.length:=by omega
 have hkx:k<x.bs.length:=by omega
 have hixx:rV (kN r.bs[j].name) x.bs=j:=by
  rw [lQ] at hixj ⊢
  rw [X.nm];exact hixj
 have hxj:=X.ne j hjx hj (fun e=>hkj e.symm)
 have e1:=vK (ops:=ops2) hch hj hixj (by omega)
 have e2:=vK (ops:=ops2) X.ch hjx hixx (by omega)
 rw [hxj,wL (by omega)] at e2
 have e3:zh7 p x r.bs[j].name ops2=0:=by rw [e2, ←e1];exact he2
 refine ⟨X.sz,e3,fun z m hZ=> ?_⟩
 obtain ⟨Z, -⟩:=yZ X.sz X.ch ho2 hjx hixx e3 hZ
 have hzl:=Z.len
 have hZc:=Z.ch
 rw [hxj,wL (by omega)] at hZc
 refine ⟨Z.sz,by omega,fun h=> ?_,fun h=> ?_,?_,hZc⟩
 ·rw [Z.ne k h hkx hkj,X.at' hkx]
 ·rw [Z.at' h];omega
 ·obtain ⟨i1,hi1,h1,rfl, -⟩:=hK
  have:i1=k:=by omega
  subst this
  obtain ⟨i2,hi2,h2,rfl, -⟩:=hZ
  have:i2=j:=by omega
  subst this
  dsimp only at hxj ⊢
  rw [hxj]
theorem uD {p:Pg} {l:List Dt} {d e:Dt}:zcI p (l++[d]++[e]) (l.length:Nat)=d:=by
 rw [wL (by simp;omega)];exact yW
theorem uE {p:Pg} {l:List Dt} {d e:Dt}:zcI p (l++[d]++[e]) ((l.length+1:Nat):Int)=e:=by
 have:=yW (p:=p) (l:=l++[d]) (d:=e)
 simpa using this
end Go.AL
namespace Go.AL
open Go.Proofs Go.Proofs.Tryz
@[go_sem] def UInd2f7.pp:Nat→DPlan
 |6=>⟨[yE,yE,yA,yE,yA,yA,yA,yE,yA,uX,yA,yA,yA,yA,vC,yC,yA,yA],yM,1⟩
 |7=>⟨[yE,yE,yA,yE,yA,yA,yA,yE,yA,uX,yA,yA,yA,yA,vC,yC,yA,yA],yM,1⟩
 |10=>⟨[yB,yB,yA,yB,yA,yA,yA,yB,yA,yC,yA,yA,yA,yA,yC,yA],xE,0⟩
 |11=>⟨[yB,yB,yA,yB,yA,yA,yA,yB,yA,yC,yA,yA,yA,yA,yC,yA],xE,0⟩
 |14=>⟨[yE,yE,yA,yE,yA,yA,yA,yE,uX,yA,yA,yA,vC,yC,yA],yG,1⟩
 |15=>⟨[yE,yE,yA,yE,yA,yA,yA,yE,uX,yA,yA,yA,vC,yC,yA],yG,1⟩
 |16=>⟨[yE,yE,yA,yE,yA,yA,yA,yE,uX,yA,yA,yA,vC,yC,yA],yG,1⟩
 |17=>⟨[yE,yE,yA,yE,yA,yA,yA,yE,uX,yA,yA,yA,vC,yC,yA],yG,1⟩
 |18=>⟨[yB,yA,yB,yA,yA,yA,yB,yA,yB,yA,yA,yA,yB,yC,yA],yG,0⟩
 |19=>⟨[yB,yA,yB,yA,yA,yA,yB,yA,yB,yA,yA,yA,yB,yC,yA],yG,0⟩
 |_=>⟨[],[],0⟩
@[go_sem] def UInd2f7.pl:Nat→DPlan
 |6=>⟨[yE,yE,yA,yE,yA,yA,yA,yE,yA,rK,yA,yA,yA,yA,vC,yC,yA,yA],yM,1⟩
 |7=>⟨[yE,yE,yA,yE,yA,yA,yA,yE,yA,rK,yA,yA,yA,yA,vC,yC,yA,yA],yM,1⟩
 |10=>⟨[yB,yB,yA,yB,yA,yA,yA,yB,yA,yC,yA,yA,yA,yA,yC,yA],xE,0⟩
 |11=>⟨[yB,yB,yA,yB,yA,yA,yA,yB,yA,yC,yA,yA,yA,yA,yC,yA],xE,0⟩
 |14=>⟨[yE,yE,yA,yE,yA,yA,yA,yE,rK,yA,yA,yA,vC,yC,yA],yG,1⟩
 |15=>⟨[yE,yE,yA,yE,yA,yA,yA,yE,rK,yA,yA,yA,vC,yC,yA],yG,1⟩
 |16=>⟨[yE,yE,yA,yE,yA,yA,yA,yE,rK,yA,yA,yA,vC,yC,yA],yG,1⟩
 |17=>⟨[yE,yE,yA,yE,yA,yA,yA,yE,rK,yA,yA,yA,vC,yC,yA],yG,1⟩
 |18=>⟨[yB,yA,yB,yA,yA,yA,yB,yA,yB,yA,yA,yA,yB,yC,yA],yG,0⟩
 |19=>⟨[yB,yA,yB,yA,yA,yA,yB,yA,yB,yA,yA,yA,yB,yC,yA],yG,0⟩
 |_=>⟨[],[],0⟩
open UInd2f7 in
theorem qS (p:Pg) (hp:p.ok) (r:Rp) (hr:r.raw) (u:Nat) (hu:u<256) (u2:Nat) (hu2:u2<256) (ops:List Op1) (ho:iP ops) (ops2:List Op1) (ho2:iP ops2):
  EPure prog G0 7 [.agg p.c,.agg r.c,u8 u,u8 u2,lJ ops,lJ ops2] fun v=>v=bo true:=by
 refine ECall.cut (R:=fun v _=>v=bo true) (pv func7 255 false (by kernel_rfl) rfl rfl ?_) (by rintro p h rfl;rfl)
 refine g2 ?_
 refine ge ?_
 (refine g1 ?_;refine zC (zl6 _) ?_;intro p2 h2 hr2;refine g2 ?_)
 obtain ⟨rfl,rfl⟩:=hr2
 refine ge ?_
 (refine g1 ?_;refine zC ((zf7 p hp r hr.cl hr.bl (fun c hc=>(hr.c c hc).1)).call zK (by simp [zJ]) _) ?_;intro p2 h2 hr2;refine g2 ?_)
 obtain ⟨⟨b,rfl,hb⟩,rfl⟩:=hr2
 cases b with
 |false=>
  refine ge ?_
  rfl
 | true=>
  obtain ⟨hlat,hc16,hb20,hsh⟩:=hb rfl
  refine ge ?_
  (refine g1 ?_;refine zC ((gQ ops ho.1).call zK (by simp) _) ?_;intro p2 h2 hr2;refine g2 ?_)
  obtain ⟨⟨b,rfl,hs⟩,rfl⟩:=hr2
  cases b with
  |false=>
   refine ge ?_
   rfl
  |true=>
  refine ge ?_
  (refine g1 ?_;refine zC ((gQ ops2 ho2.1).call zK (by simp) _) ?_;intro p2 h2 hr2;refine g2 ?_)
  obtain ⟨⟨b,rfl,hs2⟩,rfl⟩:=hr2
  cases b with
  |false=>
   refine ge ?_
   rfl
  | true=>
   have hs:=hs rfl
   have hs2:=hs2 rfl
   have hle:p.sm:=fun x hx=>by have:=hlat x hx;omega
   have hsz:r.sz:=⟨by omega,fun c hc=>OpsG.of (hsh c hc) fun x hx=>((hr.c c hc).2 x hx).2,by omega,hr.b⟩
   have hog:OpsG ops:=OpsG.of hs fun x hx=>(ho.2 x hx).2
   have hog2:OpsG ops2:=OpsG.of hs2 fun x hx=>(ho2.2 x hx).2
   have ha:=znV p hp hle
   refine ge ?_
   (refine g1 ?_;refine zC ((zdA p hp hle ha r hsz).call zK (by simp [zJ]) _) ?_;intro p2 h2 hr2;refine g2 ?_)
   obtain ⟨rfl,rfl⟩:=hr2
   cases hch:zh8 p r with
   |none=>
    refine ge ?_
    rfl
   | some st=>
    obtain ⟨hbr, -,hll⟩:=zb7 hch
    obtain ⟨hpos, -⟩:=hbr.2.2.1
    have hne:((r.bs.length:Int)==0)=false:=by rw [beq_eq_false_iff_ne];omega
    have hn0: ¬((r.bs.length:Int)=0):=by omega
    have hwu:IntKind.i64.wrap (u:Int)=u:=xM (by omega) (by omega)
    have hwu2:IntKind.i64.wrap (u2:Int)=u2:=xM (by omega) (by omega)
    have h5:(prog.underlying 5).isSome=true:=by kernel_rfl
    have hmu:(u:Int).tmod r.bs.length=((u%r.bs.length:Nat):Int):=(Int.ofNat_tmod u r.bs.length).symm
    have hmu2:(u2:Int).tmod r.bs.length=((u2%r.bs.length:Nat):Int):=(Int.ofNat_tmod u2 r.bs.length).symm
    have hk:=Nat.mod_lt u hpos
    have hj:=Nat.mod_lt u2 hpos
    obtain ⟨k,hke⟩: ∃ k,u%r.bs.length=k:=⟨_,rfl⟩
    obtain ⟨j,hje⟩: ∃ j,u2%r.bs.length=j:=⟨_,rfl⟩
    rw [hke] at hmu hk
    rw [hje] at hmu2 hj
    have hx:=zG (f:=Br.c) [] hk
    have hxj:=zG (f:=Br.c) [] hj
    have e3:((0:Int)!=0)=false:=rfl
    have e4:((0:Int)==0)=true:=rfl
    have hC1:=fH p hp hle ha r hsz r.bs[k].name ops hog
    have hC2:=fH p hp hle ha r hsz r.bs[j].name ops2 hog2
    (repeat (first|refine gz ?_|(refine gn ?_;intro zs zh;(try simp only [go_sem,Option.isSome_some,hne,hn0,hwu,hwu2,h5,hmu,hmu2,hk,hx,hj,hxj,zB] at zh);subst zh;refine gv ?_)|refine yD UInd2f7.pp ?_))
    (refine zF rfl rfl rfl ?_;intro sr hsr;simp only [go_sem,hmu,hk,hx,zB] at hsr;subst hsr;refine vP rfl (hC1) (by simp [zJ]) ?_;intro p2 hr2 ts2 hts;simp only [go_sem] at hts;subst hts)
    obtain ⟨x,n1,rfl,hK1⟩:=hr2
    (repeat (first|refine gz ?_|(refine gn ?_;intro zs zh;(try simp only [go_sem,hmu2,hj,hxj,zB] at zh);subst zh;refine gv ?_)|refine yD UInd2f7.pp ?_))
    (refine zF rfl rfl rfl ?_;intro sr hsr;simp only [go_sem,hmu2,hj,hxj,zB] at hsr;subst hsr;refine vP rfl (hC2) (by simp [zJ]) ?_;intro p2 hr2 ts2 hts;simp only [go_sem] at hts;subst hts)
    obtain ⟨y,n2,rfl,hK2⟩:=hr2
    (repeat (first|refine gz ?_|(refine gn ?_;intro zs zh;(try simp only [go_sem,hmu2,hj,hxj,zB] at zh);subst zh;refine gv ?_)|refine yD UInd2f7.pp ?_))
    by_cases hkj:k=j
    case pos=>
     subst hkj
     have f1:((k:Int)==(k:Int))=true:=by simp
     refine gf @f1 ?_
     rfl
    have f1:((k:Int)==(j:Int))=false:=by rw [beq_eq_false_iff_ne];omega
    by_cases he1:zh7 p r r.bs[k].name ops=0
    case neg=>
     generalize zh7 p r r.bs[k].name ops=e at*
     have e5:(e !=0)=true:=by simp [he1]
     refine gf (a2 @f1 @e5) ?_
     rfl
    by_cases he2:zh7 p r r.bs[j].name ops2=0
    case neg=>
     rw [he1]
     generalize zh7 p r r.bs[j].name ops2=e at*
     have e5:(e !=0)=true:=by simp [he2]
     refine gf (a3 @f1 @e3 @e5) ?_
     rfl
    obtain ⟨hxs,hxe,hz⟩:=tE hsz hch hc16 hk hj hkj hog hog2 he1 he2 (hK1 he1)
    obtain ⟨hys,hye,hw⟩:=tE hsz hch hc16 hj hk (fun e=>hkj e.symm) hog2 hog he2 he1 (hK2 he2)
    have hC3:=fH p hp hle ha x hxs r.bs[j].name ops2 hog2
    have hC4:=fH p hp hle ha y hys r.bs[k].name ops hog
    rw [hxe] at hC3
    rw [hye] at hC4
    rw [he1,he2]
    have hw2:IntKind.i64.wrap ((r.cs.length:Int)+2)=((r.cs.length+2:Nat):Int):=by rw [xM (by omega) (by omega)];omega
    have f2:decide ((200:Int)<((r.cs.length+2:Nat):Int))=false:=by simp;omega
    (repeat (first|refine gz ?_|(refine gn ?_;intro zs zh;(try simp only [go_sem,f1,e3,hw2,f2,hmu2,hj,hxj,zB] at zh);subst zh;refine gv ?_)|refine yD UInd2f7.pp ?_))
    (refine zF rfl rfl rfl ?_;intro zs zh;simp only [go_sem,hmu2,hj,hxj,zB] at zh;subst zh;refine zP (by decide) (by decide) (hC3.call zK (by simp [zJ]) _) ?_;intro p2 h2 hr2 ts2 hts;simp only [go_sem] at hts;subst hts)
    obtain ⟨⟨z,n3,rfl,hK3⟩,rfl⟩:=hr2
    have Z:=hz z n3 (hK3 rfl)
    (repeat (first|refine gz ?_|(refine gn ?_;intro zs zh;(try simp only [go_sem,hmu,hk,hx,zB] at zh);subst zh;refine gv ?_)|refine yD UInd2f7.pp ?_))
    (refine zF rfl rfl rfl ?_;intro zs zh;simp only [go_sem,hmu,hk,hx,zB] at zh;subst zh;refine zP (by decide) (by decide) (hC4.call zK (by simp [zJ]) _) ?_;intro p2 h2 hr2 ts2 hts;simp only [go_sem] at hts;subst hts)
    obtain ⟨⟨w,n4,rfl,hK4⟩,rfl⟩:=hr2
    have W:=hw w n4 (hK4 rfl)
    have hzl:=Z.len
    have hwl:=W.len
    have hkz:k<z.bs.length:=by omega
    have hjz:j<z.bs.length:=by omega
    have hkw:k<w.bs.length:=by omega
    have hjw:j<w.bs.length:=by omega
    have hzk:(z.bs.map Br.c).getD k []=[yQ z.bs[k].name,i64 z.bs[k].last]:=zG (f:=Br.c) [] hkz
    have hzj:(z.bs.map Br.c).getD j []=[yQ z.bs[j].name,i64 z.bs[j].last]:=zG (f:=Br.c) [] hjz
    have hwk:(w.bs.map Br.c).getD k []=[yQ w.bs[k].name,i64 w.bs[k].last]:=zG (f:=Br.c) [] hkw
    have hwj:(w.bs.map Br.c).getD j []=[yQ w.bs[j].name,i64 w.bs[j].last]:=zG (f:=Br.c) [] hjw
    rw [Z.atk hkz] at hzk
    rw [Z.atj hjz] at hzj
    rw [W.atk hjw] at hwj
    rw [W.atj hkw] at hwk
    have hZch:=Z.ch
    have hWch:=W.ch
    have hzcs:=Z.cs
    have hwcs:=W.cs
    have hzcl:z.cs.length=r.cs.length+2:=by rw [hzcs];simp
    have hwcl:w.cs.length=r.cs.length+2:=by rw [hwcs];simp
    obtain ⟨-,hk1,hk2⟩:=zgK hbr hk
    obtain ⟨-,hj1,hj2⟩:=zgK hbr hj
    have hrl:(r.cs.map zm6).length=r.cs.length:=by simp
    obtain ⟨L,hL1,hL2⟩:=pO (cs:=r.cs.map zm6) (a:=r.bs[k].last) (b:=r.bs[j].last) (by omega) (by omega)
    have M1:=znS z (r.cs.length:Nat) ((r.cs.length+1:Nat):Int) (by omega)
    have M2:=znS w ((r.cs.length+1:Nat):Int) (r.cs.length:Nat) (by omega)
    have hzm:z.cs.map zm6=r.cs.map zm6++[(-1,r.bs[k].last)]++[(-1,r.bs[j].last)]:=by rw [hzcs];simp [zm6]
    have hwm:w.cs.map zm6=r.cs.map zm6++[(-1,r.bs[j].last)]++[(-1,r.bs[k].last)]:=by rw [hwcs];simp [zm6]
    rw [hrl] at hL1 hL2
    rw [hzm,hL1] at M1
    rw [hwm,hL2] at M2
    have S1:=yF p hp hle ha z Z.sz (r.cs.length:Nat)
    rw [yL hZch (by omega), ←hll,uD,hll] at S1
    have S2:=yF p hp hle ha w W.sz ((r.cs.length+1:Nat):Int)
    rw [yL hWch (by omega), ←hll,uE,hll] at S2
    have S3:=yF p hp hle ha z Z.sz ((r.cs.length+1:Nat):Int)
    rw [yL hZch (by omega), ←hll,uE,hll] at S3
    have S4:=yF p hp hle ha w W.sz (r.cs.length:Nat)
    rw [yL hWch (by omega), ←hll,uD,hll] at S4
    dsimp only at S1 S2 S3 S4
    have C1:=uC (wP hp hle ha Z.sz hZch (st.length:Nat))
    have C2:=uC (wP hp hle ha Z.sz hZch ((st.length+1:Nat):Int))
    rw [uD] at C1
    rw [uE] at C2
    have C1:=yH _ C1
    have C2:=yH _ C2
    generalize (zk4 p (zcI p st r.bs[k].last) ops).1=d1 at*
    generalize (zk4 p (zcI p st r.bs[j].last) ops2).1=d2 at*
    generalize ((r.cs.length+1:Nat):Int)=n5 at*
    generalize hn6:((r.cs.length:Nat):Int)=n6 at*
    have f3:((k:Int)<(z.bs.length:Int))=True:=eq_true (by omega)
    have f4:((j:Int)<(z.bs.length:Int))=True:=eq_true (by omega)
    have f5:((k:Int)<(w.bs.length:Int))=True:=eq_true (by omega)
    have f6:((j:Int)<(w.bs.length:Int))=True:=eq_true (by omega)
    have f7:(L==L)=true:=by simp
    (repeat (first|refine gz ?_|(refine gn ?_;intro zs zh;(try simp only [go_sem,e3,e4,hkz,f3,hzk,zB] at zh);subst zh;refine gv ?_)|refine yD UInd2f7.pp ?_))
    (refine zF rfl rfl rfl ?_;intro sr hsr;simp only [go_sem,hkz,f3,hzk,zB] at hsr;subst hsr;refine vP rfl (S1) (by simp [zJ]) ?_;intro p2 hr2 ts2 hts;simp only [go_sem] at hts;subst hts)
    subst hr2
    (repeat (first|refine gz ?_|(refine gn ?_;intro zs zh;(try simp only [go_sem,e3,e4,hkw,f5,hwk,zB] at zh);subst zh;refine gv ?_)|refine yD UInd2f7.pp ?_))
    (refine zF rfl rfl rfl ?_;intro sr hsr;simp only [go_sem,hkw,f5,hwk,zB] at hsr;subst hsr;refine vP rfl (S2) (by simp [zJ]) ?_;intro p2 hr2 ts2 hts;simp only [go_sem] at hts;subst hts)
    subst hr2
    (repeat (first|refine gz ?_|(refine gn ?_;intro zs zh;(try simp only [go_sem,e3,e4,hjz,f4,hzj,zB] at zh);subst zh;refine gv ?_)|refine yD UInd2f7.pp ?_))
    (refine zF rfl rfl rfl ?_;intro sr hsr;simp only [go_sem,hjz,f4,hzj,zB] at hsr;subst hsr;refine vP rfl (S3) (by simp [zJ]) ?_;intro p2 hr2 ts2 hts;simp only [go_sem] at hts;subst hts)
    subst hr2
    (repeat (first|refine gz ?_|(refine gn ?_;intro zs zh;(try simp only [go_sem,e3,e4,hjw,f6,hwj,zB] at zh);subst zh;refine gv ?_)|refine yD UInd2f7.pp ?_))
    (refine zF rfl rfl rfl ?_;intro sr hsr;simp only [go_sem,hjw,f6,hwj,zB] at hsr;subst hsr;refine vP rfl (S4) (by simp [zJ]) ?_;intro p2 hr2 ts2 hts;simp only [go_sem] at hts;subst hts)
    subst hr2
    (repeat (first|refine gz ?_|(refine gn ?_;intro zs zh;(try simp only [go_sem,e3,e4,hkz,hjz,f3,f4,hzk,hzj,zB] at zh);subst zh;refine gv ?_)|refine yD UInd2f7.pp ?_))
    (refine zF rfl rfl rfl ?_;intro zs zh;simp only [go_sem,hkz,hjz,f3,f4,hzk,hzj,zB] at zh;subst zh;refine zP (by decide) (by decide) (M1.call zK (by simp [zJ]) _) ?_;intro p2 h2 hr2 ts2 hts;simp only [go_sem] at hts;subst hts)
    obtain ⟨rfl,rfl⟩:=hr2
    (repeat (first|refine gz ?_|(refine gn ?_;intro zs zh;(try simp only [go_sem,e3,e4,hkw,hjw,f5,f6,hwk,hwj,zB] at zh);subst zh;refine gv ?_)|refine yD UInd2f7.pp ?_))
    (refine zF rfl rfl rfl ?_;intro zs zh;simp only [go_sem,hkw,hjw,f5,f6,hwk,hwj,zB] at zh;subst zh;refine zP (by decide) (by decide) (M2.call zK (by simp [zJ]) _) ?_;intro p2 h2 hr2 ts2 hts;simp only [go_sem] at hts;subst hts)
    obtain ⟨rfl,rfl⟩:=hr2
    (repeat (first|refine gz ?_|(refine gn ?_;intro zs zh;(try simp only [go_sem,e3,e4] at zh);subst zh;refine gv ?_)|refine yD UInd2f7.pp ?_))
    (refine g1f @e4 ?_;refine zC (C1.call zK (by simp [zJ]) _) ?_;intro p2 h2 hr2;refine g2 ?_)
    obtain ⟨rfl,rfl⟩:=hr2
    refine ge ?_
    (refine g1f @e4 ?_;refine zC (C2.call zK (by simp [zJ]) _) ?_;intro p2 h2 hr2;refine g2 ?_)
    obtain ⟨rfl,rfl⟩:=hr2
    refine gf @f7 ?_
    rfl
end Go.AL
namespace Go.Proofs.YtfjkncfjclifoaaGreatDoor
open Go.ChangeShapes Go.WideShapes Go.ChangeAt Go.RowKit Go.AL Go.Proofs
theorem own:ownKnob Tryz.prog.godebug=none:=by kernel_rfl
theorem oO:laidOutB Tryz.prog=true:=by kernel_rfl
theorem ul5:Tryz.prog.underlying 5=some (.int .u8):=by kernel_rfl
theorem ul4:Tryz.prog.underlying 4=some .bool:=by kernel_rfl
theorem ul9:Tryz.prog.underlying 9=some .string:=by kernel_rfl
theorem znX:Tryz.f7.params= #[27,31,5,5,32,32]:=by kernel_rfl
theorem zdL {W:World} (h:laidMetH Tryz.prog Rows.branchIndependentRow.laid W):GRel ⟨[],[],W,fun _=>False⟩ G0:=by
 rw [MakeChecks.laidMetH_plain _ _ _ (by kernel_rfl)] at h
 obtain ⟨ps,⟨g0,t0,cs0,f0,p0,q0,hg0,ht0,hv0,hd0,⟨g1,t1,cs1,f1,p1,q1,hg1,ht1,hv1,hd1,⟨g2,t2,cs2,f2,p2,q2,hg2,ht2,hv2,hd2,_,_⟩,_⟩,_⟩,_,_⟩:=h
 obtain rfl:=Option.some.inj ((show Tryz.prog.globalNamed "math/bits.deBruijn64tab" =some 2 by kernel_rfl).symm.trans hg0)
 obtain rfl:=Option.some.inj ((show Tryz.prog.globalNamed "porism/lattice.keys" =some 1 by kernel_rfl).symm.trans hg1)
 obtain rfl:=Option.some.inj ((show Tryz.prog.globalNamed "porism/value.words" =some 0 by kernel_rfl).symm.trans hg2)
 obtain rfl:=Option.some.inj ((show (Tryz.prog.globals[2]?).map (·.type)=some 310 by kernel_rfl).symm.trans ht0)
 obtain rfl:=Option.some.inj ((show (Tryz.prog.globals[1]?).map (·.type)=some 108 by kernel_rfl).symm.trans ht1)
 obtain rfl:=Option.some.inj ((show (Tryz.prog.globals[0]?).map (·.type)=some 226 by kernel_rfl).symm.trans ht2)
 have r0:=eP (X:=fun _=>False) (fun _ h=>h) (n:=2) (by kernel_rfl) hg0 hv0 hd0 (show _=db by kernel_rfl)
 have r1:=eP (X:=fun _=>False) (fun _ h=>h) (n:=2) (by kernel_rfl) hg1 hv1 hd1 (show _=[.ts 1 (ws.map ([·]))] by kernel_rfl)
 have r2:=eP (X:=fun _=>False) (fun _ h=>h) (n:=2) (by kernel_rfl) hg2 hv2 hd2 (show _=ws by kernel_rfl)
 intro g cs hG
 unfold G0 at hG
 split at hG
 ·rename_i e;rw [beq_iff_eq] at e;subst e;cases hG;exact r2
 ·split at hG
  ·rename_i e;rw [beq_iff_eq] at e;subst e;cases hG;exact r1
  ·split at hG
   ·rename_i e;rw [beq_iff_eq] at e;subst e;cases hG;exact r0
   ·cases hG
set_option maxRecDepth 100000 in
theorem yX (os:Os) (started:os.Started) (H:Type) (enc:TypeId×Value→H):
  ReturnsInHanded {} Tryz.checked os 7 .any (fun w args=>(Rows.branchIndependentSpec.pre enc Tryz.prog Tryz.f7 [] false w args∧laidMetH Tryz.prog Rows.branchIndependentRow.laid w)∧sizedMet enc Tryz.prog Tryz.f7 (OpenSpec.ofChange Rows.branchIndependentSpec) false w args)
   (Rows.branchIndependentSpec.post enc Tryz.prog Tryz.f7 false true false false):=by
 refine returnsInHanded_of_change_and (C:=Tryz.checked) (X:=fun w _=>laidMetH Tryz.prog Rows.branchIndependentRow.laid w) (fun _ _ _ hh h=>h.of_heap hh) own started (by kernel_rfl) Tryz.func7
  (ChangeSpec.witness_shaped (enc:=enc) (C:=Tryz.checked) (os:=os) (X:=fun w _=>laidMetH Tryz.prog Rows.branchIndependentRow.laid w) false (World.laidAll Tryz.prog os Rows.branchIndependentRow.laid) #[.agg #[.slice none 0 0,.slice none 0 0,.slice none 0 0,.slice none 0 0],.agg #[.slice none 0 0,.slice none 0 0],.int .u8 0,.int .u8 0,.slice none 0 0,.slice none 0 0] 8 (World.laidAll_os _ _ _)
   (World.shaped_of_ZipB (by kernel_rfl) (by kernel_rfl)) (by kernel_rfl) (by kernel_rfl) (by kernel_rfl)
   (by rw [MakeChecks.laidMetH_plain _ _ _ (by kernel_rfl)];exact laidMet_laidAll _ (by kernel_rfl) (by kernel_rfl))) ?_
 intro W base args ds gs before hval0 hW hc hsz hL _
 have hval: ∀ (j:Nat) t v,Tryz.f7.params[j]? =some t→args[j]? =some v→Value.okWide Tryz.prog W .any base t v:=hval0
 have hW':=hW
 obtain ⟨p,q,hA0,hV,rfl,_,_⟩:=hW
 have hA:DataW.TrodAll enc Tryz.prog W 0 (fun _=>true) true Tryz.f7.params.toList args.toList ds p:=hA0
 rw [znX] at hA hval
 obtain ⟨v0,vs0,d0,ds0,p0,q0,hargs,rfl,rfl,h0,t0⟩:=trodAll_cons hA
 obtain ⟨v1,vs1,d1,ds1,p1,q1,rfl,rfl,rfl,h1,t1⟩:=trodAll_cons t0
 obtain ⟨v2,vs2,d2,ds2,p2,q2,rfl,rfl,rfl,h2,t2⟩:=trodAll_cons t1
 obtain ⟨v3,vs3,d3,ds3,p3,q3,rfl,rfl,rfl,h3,t3⟩:=trodAll_cons t2
 obtain ⟨v4,vs4,d4,ds4,p4,q4,rfl,rfl,rfl,h4,t4⟩:=trodAll_cons t3
 obtain ⟨v5,vs5,d5,ds5,p5,q5,rfl,rfl,rfl,h5,t5⟩:=trodAll_cons t4
 obtain ⟨rfl,rfl,rfl⟩:=trodAll_nil t5
 obtain rfl:args= #[v0,v1,v2,v3,v4,v5]:=by cases args;simp_all
 obtain ⟨rfl,rfl⟩:=trodVars_none hV
 rw [List.all_eq_true] at hsz
 have w0:Light Tryz.prog 27 d0:=fun k hk=>of_decide_eq_true (hsz k (List.mem_append_left _ hk))
 have w1:Light Tryz.prog 31 d1:=fun k hk=>of_decide_eq_true (hsz k (List.mem_append_right _ (List.mem_append_left _ hk)))
 have w2:Light Tryz.prog 5 d2:=fun k hk=>of_decide_eq_true (hsz k (List.mem_append_right _ (List.mem_append_right _ (List.mem_append_left _ hk))))
 have w3:Light Tryz.prog 5 d3:=fun k hk=>of_decide_eq_true (hsz k (List.mem_append_right _ (List.mem_append_right _ (List.mem_append_right _ (List.mem_append_left _ hk)))))
 have w4:Light Tryz.prog 32 d4:=fun k hk=>of_decide_eq_true (hsz k (List.mem_append_right _ (List.mem_append_right _ (List.mem_append_right _ (List.mem_append_right _ (List.mem_append_left _ hk))))))
 have w5:Light Tryz.prog 32 d5:=fun k hk=>of_decide_eq_true (hsz k (List.mem_append_right _ (List.mem_append_right _ (List.mem_append_right _ (List.mem_append_right _ (List.mem_append_right _ (List.mem_append_left _ hk)))))))
 obtain ⟨a0,b0,r0⟩:=dPg.arg (ts:=[22,23,24,25]) (by kernel_rfl) (by kernel_rfl) w0 (hval 0 _ v0 rfl rfl) h0
 obtain ⟨a1,b1,r1⟩:=dRp.arg (ts:=[28,29]) (by kernel_rfl) (by kernel_rfl) w1 (hval 1 _ v1 rfl rfl) h1
 obtain ⟨x2,e2,f2,g2,k2⟩:=open_int ul5 (hval 2 _ v2 rfl rfl) h2
 have z2:0≤x2∧x2≤255:=by simpa [Lit.wf,IntKind.min,IntKind.max,IntKind.signed,IntKind.bits] using k2
 obtain ⟨x2,rfl⟩:=Int.eq_ofNat_of_zero_le z2.1
 obtain ⟨x3,e3,f3,g3,k3⟩:=open_int ul5 (hval 3 _ v3 rfl rfl) h3
 have z3:0≤x3∧x3≤255:=by simpa [Lit.wf,IntKind.min,IntKind.max,IntKind.signed,IntKind.bits] using k3
 obtain ⟨x3,rfl⟩:=Int.eq_ofNat_of_zero_le z3.1
 obtain ⟨l4,m4,n4,e4⟩:=okWide_slice (show Tryz.prog.underlying 32=some (.slice 84) by kernel_rfl) (hval 4 _ v4 rfl rfl)
 obtain ⟨a4,b4,r4⟩:=zfP.arg1 (by kernel_rfl) (by rw [e4];rfl) w4 h4
 obtain ⟨l5,m5,n5,e5⟩:=okWide_slice (show Tryz.prog.underlying 32=some (.slice 84) by kernel_rfl) (hval 5 _ v5 rfl rfl)
 obtain ⟨a5,b5,r5⟩:=zfP.arg1 (by kernel_rfl) (by rw [e5];rfl) w5 h5
 have hS:SRel ⟨[],[],W,fun _=>False⟩:=⟨rfl,fun r b v h=>by simp at h,fun r r' v v' n h=>by simp at h,fun a h=>h.elim,fun a h=>h.elim⟩
 obtain ⟨pr,rfl, -,hcall⟩:=qS a0 b0 a1 b1 x2 (by omega) x3 (by omega) a4 b4 a5 b5
 have law:=hcall.2 [] W (fun _=>False) #[v0,v1,v2,v3,v4,v5] hS (zdL hL) rfl fun i p v hp hv=>by
  match i,hp,hv with
  |0,hp,hv=>simp at hp hv;subst hp;subst hv;exact r0
  |1,hp,hv=>simp at hp hv;subst hp;subst hv;exact r1
  |2,hp,hv=>simp at hp hv;subst hp;subst hv;rw [e2];exact .sc ⟨by rw [zlC];omega,by rw [zlD];omega⟩
  |3,hp,hv=>simp at hp hv;subst hp;subst hv;rw [e3];exact .sc ⟨by rw [zlC];omega,by rw [zlD];omega⟩
  |4,hp,hv=>simp at hp hv;subst hp;subst hv;exact r4
  |5,hp,hv=>simp at hp hv;subst hp;subst hv;exact r5
  |i+6,hp,hv=>simp at hp
 have hlt0: ∀ z∈p0,z.block<W.heap.size:=fun z hz=>by
  have:=hW'.lt z (by simp [hz])
  simpa using this
 have hlt1: ∀ z∈p1,z.block<W.heap.size:=fun z hz=>by
  have:=hW'.lt z (by simp [hz])
  simpa using this
 have hlt2: ∀ z∈p2,z.block<W.heap.size:=fun z hz=>by
  have:=hW'.lt z (by simp [hz])
  simpa using this
 have hlt3: ∀ z∈p3,z.block<W.heap.size:=fun z hz=>by
  have:=hW'.lt z (by simp [hz])
  simpa using this
 have hlt4: ∀ z∈p4,z.block<W.heap.size:=fun z hz=>by
  have:=hW'.lt z (by simp [hz])
  simpa using this
 have hlt5: ∀ z∈p5,z.block<W.heap.size:=fun z hz=>by
  have:=hW'.lt z (by simp [hz])
  simpa using this
 refine (callsIn_wide.1 law).mono fun e W' ⟨φ',h',p,v,he,hext,_,hrel,hp,_⟩=> ?_
 subst he;subst hp
 have hb:=zdY hext
 obtain rfl:v= .bool true:=by cases hrel;rfl
 exact ⟨_,rfl,_,_,_,[],_,[],hW',trodAll_mk1 (shut_bool ul4 _),trodAll_cons_mk (Below.trod oO (by kernel_rfl) (of_decide_eq_true (by kernel_rfl)) h0 hb (hlt0)) (trodAll_cons_mk (Below.trod oO (by kernel_rfl) (of_decide_eq_true (by kernel_rfl)) h1 hb (hlt1)) (trodAll_cons_mk (Below.trod oO (by kernel_rfl) (of_decide_eq_true (by kernel_rfl)) h2 hb (hlt2)) (trodAll_cons_mk (Below.trod oO (by kernel_rfl) (of_decide_eq_true (by kernel_rfl)) h3 hb (hlt3)) (trodAll_cons_mk (Below.trod oO (by kernel_rfl) (of_decide_eq_true (by kernel_rfl)) h4 hb (hlt4)) (trodAll_mk1 (Below.trod oO (by kernel_rfl) (of_decide_eq_true (by kernel_rfl)) h5 hb (hlt5))))))),rfl,hb.frame _,fun h=>by cases h⟩
end Go.Proofs.YtfjkncfjclifoaaGreatDoor
