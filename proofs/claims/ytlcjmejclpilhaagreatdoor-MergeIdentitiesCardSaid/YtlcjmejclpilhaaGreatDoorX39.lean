/-
  The merge of a key's lines.
-/
import Derived.Test.YtlcjmejclpilhaaGreatDoorX38
import Derived.DeepKeys3
set_option linter.unusedSimpArgs false
set_option linter.unusedVariables false
set_option maxRecDepth 100000
set_option maxHeartbeats 4000000
namespace Go.AL
open Go.Proofs Go.Proofs.Tryz
@[go_sem] def UMw4f112.pl:Nat->DPlan
 |6=>⟨[yA,yA,yA,yA,yB,yA,yA,yA,yA,yB,yC],vJ,0⟩
 |11=>⟨[yA,yA,yA,yA,yB,yA,yA,yA,yA,yB,yC,yA],xF,0⟩
 |_=>⟨[],[],0⟩
abbrev cmpK:PV:= .fn (.func 113) [] []
def Key(k:List Vl):Prop:=k.length<=1048576/\ ∀v∈k,zoC v=true
theorem Key.sz{k:List Vl}(h:Key k): ∀a∈k,a.s.size<=140737488355328:=fun a ha=>by
 have:=((zqC a).2 (h.2 a ha)).1;omega
theorem Key.vk{k:List Vl}(h:Key k): ∀a∈k,VIn a:=fun a ha=>((zqC a).2 (h.2 a ha)).in'
theorem yaR(a b:List Vl)(ha:Key a)(hb:Key b):EPure prog G0 113 [pH a,pH b] fun p=>p=bo (decide (a=b)):=by
 refine ECall.cut (R:=fun p _=>p=bo (decide (a=b))) (pv func113 9 false Qf6 rfl rfl ?_) Qgl;refine g2 ?_;have h1:=ha.1;have h2:=hb.1;refine ge ?_;(refine Go.AL.g1 ?_;refine zC ((zb6 a b Qf3 Qf3 ha.sz hb.sz).call zK Qf4 _) ?_;intro p2 h2 hr2;refine Go.AL.g2 ?_);obtain⟨rfl,rfl⟩:=hr2;have e:(sD a b==0)=decide (a=b):=by
  rw[Jn,Zm,Wz];constructor
  ·intro h;rcases zaF.tri a b with q|q|q
   ·omega
   ·exact q
   ·exact absurd h (zz4 q)
  ·rintro rfl;exact zd5 a
 refine ge ?_;rw[e]
theorem kat{xs:List (List Vl)}{cs:List PV}{q:Nat}(h:cs[q]? =(xs[q]?).map fun k=>pH k)(hq:q<xs.length):(cs.drop q).getD 0 .un=pH xs[q]:=by
 rw[Qb,Yg,Wn,h,Qa hq];rfl
attribute [-go_sem] splice
open UMw4f112 in
theorem zyG(xs:List (List Vl))(hx: ∀x∈xs,Key x)(hn:xs.length<=1000000)(h0:0<xs.length)(H:Heap)(r:Nat)(hr:H[r]? =some (.var 50 (xs.map fun k=>pH k))):
  ECall prog G0 112 [.ms r 0 1 xs.length,cmpK] H fun p h'=> ∃cs:List PV,p= .ms r 0 1 (zq5 xs xs.length).length/\h'=H.set r (.var 50 cs)/\cs.take (zq5 xs xs.length).length=(zq5 xs xs.length).map (fun k=>pH k)/\cs.length=xs.length:=by
 refine pv func112 66 false Qf6 rfl rfl ?_;refine g2 ?_;have hrl:=(gsi hr).1;have hself:H.set r (.var 50 (xs.map fun k=>pH k))=H:=by
  refine Zh fun q=> ?_;rw[Qq];split
  ·rename_i w;subst w;first|exact hr.symm|(rw[Qj hrl];exact hr.symm)
  ·rfl
 have hfin0:zq5 xs xs.length=xs-> ∃cs:List PV,(PV.ms r 0 1 xs.length)= .ms r 0 1 (zq5 xs xs.length).length/\H=H.set r (.var 50 cs)/\cs.take (zq5 xs xs.length).length=(zq5 xs xs.length).map (fun k=>pH k)/\cs.length=xs.length:=fun e=>⟨xs.map fun k=>pH k,by rw[e],hself.symm,by rw[e,Yo Qf4],Qf4⟩
 by_cases h2:xs.length<2
 ·have hl2:((xs.length:Int)<2)=True:=Yk Qf3;refine gf @hl2 ?_;exact hfin0 (by rw[show xs.length=1 by omega,zxV h0,Yo Qf3])
 have hl2:((xs.length:Int)<2)=False:=eq_false Qf3;refine gf @hl2 ?_;refine zW (K4 (.d:: .v:: .d:: .d::K4 (D9 (D9 (D9 (D9 (D9 (D4 (D4 (.k::[])))))))))) (own:=false) (fun k:Nat=>[i64 k]) (fun _=>H) (fun k=>1<=k/\k<=xs.length/\zq5 xs k=xs.take k) (fun k=>xs.length-k) 1 rfl rfl ⟨Xe _,Qf3,zxV h0⟩ ?_;rintro k ⟨k1,k2,k3⟩;refine gm ?_;by_cases hk:k<xs.length
 case neg=>
  obtain rfl:k=xs.length:=Qf3;refine gf @zM ?_;exact hfin0 (by rw[k3,Yt])
 case pos=>
  have hk':((k:Int)<(xs.length:Int))=True:=Yk Qf3;have hkm:((k:Int)-1)=((k-1:Nat):Int):=Qf3;have jY:IntKind.i64.wrap ((k:Int)-1)=((k-1:Nat):Int):=Qhb;have zg1:IntKind.i64.wrap ((k:Int)+1)=((k+1:Nat):Int):=Qhb;have hk1':k-1<xs.length:=Qf3;have hk1'':(((k-1:Nat):Int)<(xs.length:Int))=True:=Yk Qf3;have g1:=yU (fun k:List Vl=>pH k) xs k .un hk;have g2:=yU (fun k:List Vl=>pH k) xs (k-1) .un hk1';have F1:=(a9 @hk' @jY @hr @g1 @g2 @hk1'' @zB @hk @hk1')
  have hke:=yaR xs[k] xs[k-1] (hx _ (Qc hk)) (hx _ (Qc hk1'));refine gf F1 ?_;(refine zF rfl rfl rfl ?_;intro zs zh;simp only[go_sem,F1] at zh;subst zh;refine zP Qf5 Qf5 (hke.call zK Qf4 _) ?_;intro p2 h2 hr2;refine Go.AL.g2 ?_);obtain⟨rfl,e2⟩:=hr2;replace e2:=e2.symm;subst e2;by_cases he:xs[k]=xs[k-1]
  case neg=>
   rw[Zz he];refine gf @zg1 ?_;refine⟨k+1,⟨Qf3,Qf3,?_⟩,Qf3,rfl,rfl,rfl⟩;rw[zxB hk (fun _=>he),k3,Xh hk]
  case pos=>
   rw[Yz he];refine gf @zg1 ?_;(refine wU ?_;intro sr hsr;simp only[go_sem] at hsr;subst hsr;refine iR rfl (fun rd=>OpOk.sliceLo (x:= .tmp 29) (lo:= .tmp 30) (a:=k) rfl rfl hr (by kernel_rfl:wX prog 74=some 50) Qf6 rfl hk ⟨rfl,rfl⟩) ?_;intro ts2 hts;simp only[go_sem] at hts;subst hts);have hnk:(((xs.length-k:Nat):Int))=((xs.length-k:Nat):Int):=rfl;refine gf @zg1 ?_;refine zW (K4 (.k:: .v:: .k:: .v::K9 (K9 (K4 (.k:: .k::D9 (D9 (D9 (K4 (.k:: .k:: .k::[]))))))))) (own:=false) (fun s:Nat×List PV=>[i64 (zq5 xs s.1).length,i64 ((s.1-k:Nat):Int)]) (fun s=>H.set r (.var 50 s.2)) (fun s=>k+1<=s.1/\s.1<=xs.length/\(zq5 xs s.1).length<=s.1-1/\k<=(zq5 xs s.1).length/\s.2.length=xs.length/\s.2.take (zq5 xs s.1).length=(zq5 xs s.1).map (fun k=>pH k)/\ ∀q,s.1-1<=q->s.2[q]? =(xs[q]?).map fun k=>pH k) (fun s=>xs.length-s.1) (k+1,xs.map fun k=>pH k) ?_ ?_ ?_ ?_
   ·have e1:=yeO (xs:=xs) (n:=k) Qf3 hk he;rw[e1,k3,Xk,Jw Qf3,show k+1-k=1 by omega];rfl
   ·exact hself.symm
   ·have e1:=yeO (xs:=xs) (n:=k) Qf3 hk he;refine⟨Xe _,by dsimp only;omega,?_,?_,Qf4,?_,fun q _=>by rw[Qu]⟩
    ·dsimp only;rw[e1,k3,Xk];omega
    ·dsimp only;rw[e1,k3,Xk];omega
    ·dsimp only;rw[e1,k3,Xk,Jw Qf3,List.map_take]
   rintro⟨j,cs⟩ ⟨i1,i2,i3,i4,i5,i6,i7⟩ t ht;dsimp only at i1 i2 i3 i4 i5 i6 i7;simp only[zY] at ht;subst ht;have hrS: ∀B:Blk,(H.set r B)[r]? =some B:=fun B=>Qh hrl;have hSS: ∀B C:Blk,(H.set r B).set r C=H.set r C:=fun B C=>Zu ..;by_cases hj:j<xs.length
   case neg=>
    obtain rfl:j=xs.length:=Qf3;refine gf @zM ?_;have h64: ∀n:Nat,(Value.int .i64 (n:Int))= .int .i64 n:=fun _=>rfl;(refine wU ?_;intro sr hsr;simp only[go_sem] at hsr;subst hsr;refine iR rfl (fun rd=>OpOk.sliceLo (x:= .tmp 59) (lo:= .tmp 60) (a:=(zq5 xs xs.length).length) rfl rfl (hrS _) (by kernel_rfl:wX prog 74=some 50) Qf6 rfl Qf3 ⟨rfl,rfl⟩) ?_;intro ts2 hts;simp only[go_sem] at hts;subst hts);refine ge ?_;(refine wU ?_;intro sr hsr;simp only[go_sem] at hsr;subst hsr;refine iR rfl (fun rd=>OpOk.clearMs (x:= .tmp 61) (off:=(zq5 xs xs.length).length) (len:=xs.length-(zq5 xs xs.length).length) (z:= .slice none 0 0) rfl rfl rfl rfl rfl (hrS _) Qf3 (by kernel_rfl:prog.underlying 74=some (.slice 50)) Qf6 rfl rfl ⟨rfl,rfl⟩) ?_;intro ts2 hts;simp only[go_sem] at hts;subst hts);refine gf @hSS ?_;(refine wU ?_;intro sr hsr;simp only[go_sem] at hsr;subst hsr;refine iR rfl (fun rd=>OpOk.sliceHi (x:= .tmp 62) (hi:= .tmp 63) (a:=(zq5 xs xs.length).length) rfl rfl (hrS _) (by kernel_rfl:wX prog 74=some 50) Qf6 rfl Qf3 Qf3 ⟨rfl,rfl⟩) ?_;intro ts2 hts;simp only[go_sem] at hts;subst hts);refine ge ?_;refine⟨_,rfl,rfl,?_,?_⟩
    ·unfold splice;rw[<-i6,Qv,Uk Qft,List.take_take,Nat.min_self]
    ·rw[ztP (by rw[Js];omega)];exact i5
   case pos=>
    have hjk:(((j-k:Nat):Int)<((xs.length-k:Nat):Int))=True:=Yk Qf3;have hjk2:(j-k<xs.length-k)=True:=Yk Qf3;have zy4:IntKind.i64.wrap (((j-k:Nat):Int)-1)=((j-k-1:Nat):Int):=Qhb;have hjk3:(((j-k-1:Nat):Int)<((xs.length-k:Nat):Int))=True:=Yk Qf3;have hw4:IntKind.i64.wrap (((j-k:Nat):Int)+1)=((j+1-k:Nat):Int):=Qhb;have hj1:j-1<xs.length:=Qf3;have g3:(cs.drop (k+(j-k))).getD 0 .un=pH xs[j]:=by rw[show k+(j-k)=j by omega];exact kat (i7 j Qf3) hj
    have g4:(cs.drop (k+(j-k-1))).getD 0 .un=pH xs[j-1]:=by rw[show k+(j-k-1)=j-1 by omega];exact kat (i7 (j-1) Qf3) hj1
    have hb3:(k+(j-k)<cs.length)=True:=Yk Qf3;have hb4:(k+(j-k-1)<cs.length)=True:=Yk Qf3;have F:=(a9 @hjk @hjk3 @zy4 @hrS @g3 @g4 @hb3 @hb4 @zB)
    have hke:=yaR xs[j] xs[j-1] (hx _ (Qc hj)) (hx _ (Qc hj1));refine gf F ?_;(refine zF rfl rfl rfl ?_;intro zs zh;simp only[go_sem,F] at zh;subst zh;refine zP Qf5 Qf5 (hke.call zK Qf4 _) ?_;intro p2 h2 hr2;refine Go.AL.g2 ?_);obtain⟨rfl,e2⟩:=hr2;replace e2:=e2.symm;subst e2;by_cases hje:xs[j]=xs[j-1]
    case pos=>
     rw[Yz hje];refine gf @hw4 ?_;have e1:=yeO (xs:=xs) (n:=j) Qf3 hj hje;refine⟨(j+1,cs),⟨by dsimp only;omega,by dsimp only;omega,?_,?_,i5,?_,fun q hq=>i7 q Qf3⟩,by dsimp only;omega,?_,rfl,rfl⟩
     ·dsimp only;rw[e1];omega
     ·dsimp only;rw[e1];exact i4
     ·dsimp only;rw[e1];exact i6
     ·simp only[zY,xJ,Xs];first|rw[e1]|(dsimp only;rw[e1])
    case neg=>
     rw[Zz hje];have e1:=zxB (xs:=xs) hj (fun _=>hje);have hln:(zq5 xs (j+1)).length=(zq5 xs j).length+1:=by rw[e1];simp
     generalize hd:zq5 xs j=D at*;have hDn:D.length<cs.length:=Qf3;have hDn2:D.length<xs.length:=Qf3;have hDn3:((D.length:Int)<(xs.length:Int))=True:=Yk Qf3;have hsp:=zbE (v:=pH xs[j]) hDn;have yeP:IntKind.i64.wrap ((D.length:Int)+1)=((D.length+1:Nat):Int):=Qhb;refine gf (a8 F @hw4 @yeP @hSS @hDn @hDn2 @hDn3 @hsp) ?_;refine⟨(j+1,cs.set D.length (pH xs[j])),⟨by dsimp only;omega,by dsimp only;omega,?_,?_,by simpa using i5,?_,fun q hq=> ?_⟩,by dsimp only;omega,?_,rfl,rfl⟩
     ·dsimp only;rw[hln];omega
     ·dsimp only;rw[hln];omega
     ·dsimp only;rw[hln,e1,Xq,<-i6,Xh (by simpa using hDn),List.take_set_of_le (Xe _),Km];rfl
     ·dsimp only at hq ⊢
      rw[Qd Qf3];exact i7 q Qf3
     ·simp only[zY,xJ,Xs];first|rw[hln]|(dsimp only;rw[hln])
end Go.AL
namespace Go.AL.N
open Go.Proofs Go.Proofs.Tryz Go.Sort
@[go_sem] def UMw5f112.pl:Nat->DPlan
 |6=>⟨[yA,yA,yA,yA,yB,yA,yA,yA,yA,yB,yC],vJ,0⟩
 |11=>⟨[yA,yA,yA,yA,yB,yA,yA,yA,yA,yB,yC,yA],xF,0⟩
 |_=>⟨[],[],0⟩
abbrev yaT:PV:= .fn (.func 39) [] []
theorem ya2(H:Heap):ACall prog G0 111 [.nil,yaT] H fun p h'=>p= .tup []/\h'=H:=by
 have L:=Tryz.sortKey;refine pv func111 14 false Qf6 rfl rfl ?_;refine g2 ?_;have zj6:IntKind.u64.wrap 0=0:=Qf5;have h5:(prog.underlying 3).isSome=true:=Qf6;refine gf (a2 @zj6 @h5) ?_;(refine Go.AL.g1f (a2 @zj6 @h5) ?_;refine zC ((show ACall prog G0 167 [.sc (.int .u64 0)] H _ from ACall.bitsLen (ρ:=Tryz.sortKey_ren) {L with} Qf6 0 Qf3 H)) ?_;intro p2 h2 hr2;refine Go.AL.g2 ?_);obtain⟨rfl,rfl⟩:=hr2;refine ge ?_;(refine Go.AL.g1 ?_;refine zC (ACall.pdqNone (ρ:=Tryz.sortKey_ren) {L with} Qf6 _ _ _) ?_;intro p2 h2 hr2;refine Go.AL.g2 ?_);obtain⟨rfl,rfl⟩:=hr2;refine ge ?_;exact⟨rfl,rfl⟩
theorem sortK(H:Heap)(xs:List (List Vl))(hA: ∀x∈xs,Key x)(hz:xs.length<=1000000)(r:Nat)(hH:H[r]? =some (.var 50 (xs.map fun k=>pH k))):
  ACall prog G0 111 [.ms r 0 1 xs.length,yaT] H fun p h'=>p= .tup []/\ ∃ys:List (List Vl),ys.Perm xs/\ys.Pairwise (fun x y=>ltOf sD y x=false)/\h'=H.set r (.var 50 (ys.map fun k=>pH k)):=by
 have L:=Tryz.sortKey;refine pv func111 14 false Qf6 rfl rfl ?_;refine g2 ?_;have h5:(prog.underlying 3).isSome=true:=Qf6;have hwn:IntKind.u64.wrap (xs.length:Int)=xs.length:=Qhs;have hbl:Lib.bitLen xs.length<4611686018427387904:=Wl (Lib.bitLen_le xs.length 62 Qf3 Qf3) Qf3;refine gf (a2 @hwn @h5) ?_;(refine Go.AL.g1f (a2 @hwn @h5) ?_;refine zC (ACall.bitsLen (ρ:=Tryz.sortKey_ren) {L with} Qf6 xs.length Qf3 H) ?_;intro p2 h2 hr2;refine Go.AL.g2 ?_);obtain⟨rfl,rfl⟩:=hr2;refine gf (a2 @hwn @h5) ?_;(refine Go.AL.g1f (a2 @hwn @h5) ?_;refine zC (ACall.pdqSort1 L Qf6 _ hbl zK (fun k:List Vl=>pH k) [] (PLe.nil_ts 3) (fun x=>by simp) sD zqQ.swo 39 Key ⟨Qf4,Qf4⟩ (fun x y hx hy=>(zb6 x y (by have:=hx.1;omega) (by have:=hy.1;omega) hx.sz hy.sz).pure1) xs hA hH Qf3) ?_;intro p2 h2 hr2;refine Go.AL.g2 ?_);obtain⟨rfl,ys,hp,hs,rfl⟩:=hr2;refine ge ?_;exact⟨rfl,ys,hp,hs,rfl⟩
open UMw5f112 in
theorem zy0(H:Heap):ACall prog G0 112 [.nil,cmpK] H fun p h'=>p= .nil/\h'=H:=by
 refine pv func112 66 false Qf6 rfl rfl ?_;refine g2 ?_;have h02:((0:Int)<2)=True:=Yk Qf5;refine gf @h02 ?_;exact⟨rfl,rfl⟩
structure KeysM(h:Heap)(m:Nat)(es:List LnE):Prop where
 a:h[m]? =some (.map (zt7 es))
 l: ∀e∈es,Key e.1.1/\ ∃rest,h[e.2]? =some (.var 205 (pH e.1.1::rest))
theorem KeysM.of{i:Int}{m:Nat}{es:List LnE}{h:Heap}(hL:Lns i m es h):KeysM h m es:=⟨hL.a,fun e he=>⟨hL.k e he,_,(hL.l e he).2⟩⟩
def OutK(lo:Nat)(G:Heap)(xs:List (List Vl))(V:PV):Prop:=(xs=[]/\V= .nil)\/ ∃r,lo<=r/\0<xs.length/\V= .ms r 0 1 xs.length/\G[r]? =some (.var 50 (xs.map fun k=>pH k))
abbrev yeH(es:List LnE)(i:Nat):List Vl:=(es.map (·.1.1)).getD i []
abbrev keysM(ms:List (Nat×List LnE)):List (List Vl):=ms.flatMap fun x=>x.2.map (·.1.1)
theorem zwY(ms:List (Nat×List LnE)){j:Nat}(h:j<ms.length):keysM (ms.take (j+1))=keysM (ms.take j)++ms[j].2.map (·.1.1):=by
 unfold keysM;rw[Xh h,Wx];simp
theorem zr7{h G:Heap}(ht:G.take h.length=h){r:Nat}{b:Blk}(hr:h[r]? =some b):G[r]? =some b:=by
 have hl:=(gsi hr).1;rw[<-ht,Xr,Qj hl] at hr;exact hr
theorem ziP{h G:Heap}(ht:G.take h.length=h){r:Nat}(hr:h.length<=r)(b:Blk):(G.set r b).take h.length=h:=by
 rw[List.take_set_of_le hr];exact ht
theorem ztV{h G:Heap}(ht:G.take h.length=h)(B:Heap):(G++B).take h.length=h:=by
 have:h.length<=G.length:=by have:=Ym List.length ht;rw[Xk] at this;omega
 rw[Uk this];exact ht
theorem OutK.app{lo:Nat}{G:Heap}{xs:List (List Vl)}{V:PV}(h:OutK lo G xs V)(B:Heap):OutK lo (G++B) xs V:=by
 rcases h with h|⟨r,a,b,c,d⟩
 ·exact .inl h
 ·exact .inr ⟨r,a,b,c,yJ _ _ _ _ d⟩
theorem OutK.set{lo:Nat}{G:Heap}{xs:List (List Vl)}{V:PV}(h:OutK lo G xs V){q:Nat}{m n sn}(hq:G[q]? =some (.iter m n sn))(b:Blk):OutK lo (G.set q b) xs V:=by
 rcases h with h|⟨r,a,b',c,d⟩
 ·exact .inl h
 ·exact .inr ⟨r,a,b',c,by rw[Qd (fun e=>by rw[e,d] at hq;cases hq)];exact d⟩
structure KS where
 seen:List Nat
 G:Heap
 V:PV
 xs:List (List Vl)
structure KI(h:Heap)(q0 m n:Nat)(es:List LnE)(prev:List (List Vl))(s:KS):Prop where
 tk:s.G.take h.length=h
 it:s.G[q0]? =some (.iter (some m) n s.seen)
 nd:s.seen.Nodup
 lt: ∀i∈s.seen,i<n
 out:OutK h.length s.G s.xs s.V
 sel:s.xs.Perm (prev++s.seen.map (yeH es))
theorem keys_n(ms:List (Nat×List LnE))(h:Heap)(hM: ∀x∈ms,KeysM h x.1 x.2)(hz:(keysM ms).length<=100000)(hz2:ms.length<=1000):
  ACall prog G0 50 [.tc 1 (ms.map fun x=>[PV.mp x.1])] h fun p h'=>h'.take h.length=h/\((keysM ms=[]/\p= .nil)\/ ∃(r:Nat)(cs:List PV),h.length<=r/\p= .ms r 0 1 (aO (keysM ms)).length/\h'[r]? =some (.var 50 cs)/\cs.take (aO (keysM ms)).length=(aO (keysM ms)).map fun k=>pH k):=by
 refine pv func50 32 true Qf6 rfl rfl ?_;refine g2 ?_;refine ge ?_;refine zW (.k:: .k:: .k:: .v:: .k:: .d:: .k:: .d:: .k:: .k:: .v::D9 (D4 (D4 (K4 ([]))))) (own:=true) (fun s:Nat×KS=>[s.2.V,i64 s.1]) (fun s=>s.2.G) (fun s=>s.1<=ms.length/\s.2.G.take h.length=h/\OutK h.length s.2.G s.2.xs s.2.V/\s.2.xs.Perm (keysM (ms.take s.1))) (fun s=>ms.length-s.1) (0,⟨[],h,.nil,[]⟩) rfl rfl ⟨Yn _,Yt,.inl ⟨rfl,rfl⟩,by simp[keysM]⟩ ?_;rintro⟨j,⟨seen,G,V,xs⟩⟩ ⟨hjl,htk,hout,hsel⟩ t ht;dsimp only at hjl htk hout hsel;simp only[zY] at ht;subst ht;have hmle: ∀q,(keysM (ms.take q)).length<=100000:=fun q=>by
  have:(keysM ms).length=(keysM (ms.take q)).length+(keysM (ms.drop q)).length:=by
   unfold keysM;rw[<-Ql,<-Wx,Kk]
  omega
 by_cases hj:j<ms.length
 case neg=>
  obtain rfl:j=ms.length:=Qf3;rw[Yt] at hsel;have hkx: ∀x∈xs,Key x:=fun x hx=>by
   obtain⟨q,hq,hx⟩:=Jg.1 (hsel.mem_iff.1 hx);obtain⟨e,he,rfl⟩:=Xf.1 hx;exact((hM q hq).l e he).1
  have hxl:xs.length<=100000:=by rw[hsel.length_eq];exact hz
  refine gf @zM ?_;rcases hout with ⟨rfl,rfl⟩|⟨r,b1,b2,rfl,b4⟩
  ·(refine Go.AL.g1 ?_;refine zC (ya2 G) ?_;intro p2 h2 hr2;refine Go.AL.g2 ?_);obtain⟨rfl,rfl⟩:=hr2;refine ge ?_;(refine Go.AL.g1 ?_;refine zC (zy0 _) ?_;intro p2 h2 hr2;refine Go.AL.g2 ?_);obtain⟨rfl,rfl⟩:=hr2;refine ge ?_;exact⟨htk,.inl ⟨hsel.symm.eq_nil,rfl⟩⟩
  ·(refine Go.AL.g1 ?_;refine zC (sortK G xs hkx Qf3 r b4) ?_;intro p2 h2 hr2;refine Go.AL.g2 ?_);obtain⟨rfl,ys,hp,hs,rfl⟩:=hr2;have hyx:=hp.length_eq;have hsrt:zq5 ys ys.length=aO (keysM ms):=by
    rw[zz3 (hs.imp fun {a b} w=>by simpa [ltOf] using w)];exact zwU fun k=>(hp.trans hsel).mem_iff
   have hcx:=zyG ys (fun x hx=>hkx x (hp.mem_iff.1 hx)) Qf3 Qf3 (G.set r (.var 50 (ys.map fun k=>pH k))) r (Qh (gsi b4).1);rw[hyx] at hcx;refine ge ?_;(refine Go.AL.g1 ?_;refine zC (hcx.acall) ?_;intro p2 h2 hr2;refine Go.AL.g2 ?_);obtain⟨cs,rfl,rfl,g1,g2⟩:=hr2;rw[<-hyx,hsrt] at g1 ⊢
   refine ge ?_;refine⟨ziP (ziP htk b1 _) b1 _,.inr ⟨r,cs,b1,rfl,Qh (by rw[Xb];exact(gsi b4).1),g1⟩⟩
 case pos=>
  have hjj:((j:Int)<(ms.length:Int))=True:=Yk Qf3;have hw:=xM (n:=(j:Int)+1) Qf3 Qf3;have hx:=zG (f:=fun x:Nat×List LnE=>[PV.mp x.1]) [] hj;have hmj:=hM _ (Qc hj);have hkt:=zwY ms hj;have hml:=hmle (j+1);generalize ms[j]=x at*;obtain⟨m,es⟩:=x;dsimp only at hx hmj hkt;rw[hkt,Ql,Qs] at hml;have hmG:=zr7 htk hmj.a;refine gf (a6 @hjj @hj @hx @zB @hmG @tmN) ?_;have hit0:(G++[Blk.iter (some m) es.length []])[G.length]? =some (.iter (some m) es.length []):=zA _ _;have hGl:h.length<=G.length:=by have:=Ym List.length htk;rw[Xk] at this;omega
  refine zW (.k:: .k:: .k:: .v:: .k:: .k:: .k:: .d::K4 (K4 (D9 (.d:: .d::K4 (.k::[]))))) (own:=true) (fun s:KS=>[s.V]) (fun s=>s.G) (KI h G.length m es.length es (keysM (ms.take j))) (fun s=>es.length-s.seen.length) ⟨[],G++[.iter (some m) es.length []],V,xs⟩ rfl rfl ⟨ztV htk _,hit0,Kg,Qf4,hout.app _,by simpa using hsel⟩ ?_;rintro⟨sn,G1,V1,xs1⟩ ⟨htk1,hit1,hnd,hlt,hout1,hsel1⟩ t ht;dsimp only at htk1 hit1 hnd hlt hout1 hsel1;simp only[zY] at ht;subst ht;refine ge ?_;have hmG1:=zr7 htk1 hmj.a;have hmlen:(zt7 es).length=es.length:=Qf4;refine uL rfl (R:=fun p h'=>(p= .tup [bo false]/\h'=G1/\ ∀i,i<es.length->i∈sn)\/ ∃i e,es[i]? =some e/\i∉sn/\p= .tup [bo true,yQ (cS e.1.1),.ptr e.2 0]/\h'=G1.set G.length (.iter (some m) es.length (sn++[i])))
   (fun rd _=>OpOk.next (r:=G.length) (m:=m) (es:=zt7 es) (seen:=sn) (fun q hq vs e=>by obtain⟨x, -,rfl⟩:=Xf.1 hq;cases e) rfl rfl (by rw[hmlen];exact hit1) hmG1 (fun hall=> .inl ⟨rfl,rfl,by simpa using hall⟩) (fun i q hq hi=>by
    rw[Qu] at hq;cases he:es[i]? with
    |none=>rw[he] at hq;cases hq
    |some e=>
     rw[he] at hq;cases hq;exact .inr ⟨i,e,he,hi,rfl,by rw[hmlen]⟩)) ?_
  rintro p h' (⟨rfl,rfl,hall⟩|⟨i,e,hei,hns,rfl,rfl⟩) ts2 hts
  ·simp only[zZ,Xn,Xl] at hts;subst hts;refine gf @hw ?_;refine⟨(j+1,⟨[],h',V1,xs1⟩),⟨by dsimp only;omega,htk1,hout1,?_⟩,by dsimp only;omega,rfl,rfl,rfl⟩;dsimp only;rw[hkt];refine hsel1.trans (List.Perm.append_left _ ?_);refine((aK hnd hlt hall).map (yeH es)).trans (List.Perm.of_eq ?_);refine Zc Qf4 fun q h1 h2=> ?_;rw[Xu,List.getElem_range];unfold yeH;rw[Qb,Qa h2];rfl
  ·simp only[zZ,Xn,Xl] at hts;subst hts;refine ge ?_;have xT: ∀b:Blk,(G1.set G.length b)[G.length]? =some b:=fun b=>Qh (gsi hit1).1;have hmS: ∀b:Blk,(G1.set G.length b)[m]? =some (.map (zt7 es)):=fun b=>zr7 (ziP htk1 hGl b) hmj.a;refine uL rfl (R:=fun p h'=>p= .tup [yQ (cS e.1.1),.ptr e.2 0]/\h'=G1.set G.length (.iter (some m) es.length (sn++[i]))) (fun rd _=>OpOk.entry (r:=G.length) (m:=m) (i:=i) (es:=zt7 es) (seen:=sn) (q:=(Value.string (cS e.1.1),PV.ptr e.2 0)) (fun vs e=>by cases e) rfl rfl (by rw[hmlen];exact xT _) (hmS _) (by rw[Qu,hei];rfl) ⟨rfl,rfl⟩) ?_;rintro p h' ⟨rfl,rfl⟩ ts2 hts;simp only[zZ,Xn,Xl] at hts;subst hts;obtain⟨hKe,rest,hre⟩:=hmj.l e (Qk hei);have hreS: ∀b:Blk,(G1.set G.length b)[e.2]? =some (.var 205 (pH e.1.1::rest)):=fun b=>zr7 (ziP htk1 hGl b) hre;refine gf @hreS ?_;have hil:i<es.length:=(gsi hei).1;have hnd2:(sn++[i]).Nodup:=Za.2 ⟨hnd,Qf4,fun a ha b hb=>by simp at hb;subst hb;exact fun q=>hns (q▸ha)⟩;have hlt2: ∀x∈sn++[i],x<es.length:=fun x hx=>by
    exact Qdz
   have hsl2:=qG es.length (sn++[i]) hnd2 hlt2;rw[Ql,Wp] at hsl2;have hms:es.length-(sn++[i]).length<es.length-sn.length:=Qfk;have hxl:xs1.length<=100000:=by
    have:=hsel1.length_eq;rw[Ql,Qs] at this;omega
   have hke:yeH es i=e.1.1:=by
    unfold yeH;rw[Qb,Qu,hei];rfl
   have hsel2:(xs1++[e.1.1]).Perm (keysM (ms.take j)++(sn++[i]).map (yeH es)):=by
    rw[Xq,<-Qv];refine hsel1.append (List.Perm.of_eq ?_);rw[List.map_singleton,hke]
   have htS:=fun b=>ziP htk1 hGl (b:=b);have hoS:=fun b=>hout1.set hit1 b;have hGSl: ∀b:Blk,(G1.set G.length b).length=G1.length:=fun b=>Xb ..;have hG1l:h.length<=G1.length:=by have:=Ym List.length htk1;rw[Xk] at this;omega
   have hitl:=(gsi hit1).1;rcases hout1 with ⟨rfl,rfl⟩|⟨r,b1,b2,rfl,b4⟩
   ·refine gf (Go.AL.a2 @hreS @hGSl) ?_;refine⟨⟨sn++[i],(G1.set G.length (.iter (some m) es.length (sn++[i])))++[.var 50 [pH e.1.1]],.ms G1.length 0 1 1,[e.1.1]⟩,⟨ztV (htS _) _,yJ _ _ _ _ (xT _),hnd2,hlt2,.inr ⟨G1.length,hG1l,Qf4,rfl,?_⟩,hsel2⟩,hms,rfl,rfl,rfl⟩;dsimp only;rw[show G1.length=(G1.set G.length (.iter (some m) es.length (sn++[i]))).length from(hGSl _).symm,zA];rfl
   ·have hrq:r≠G.length:=fun w=>by rw[w,hit1] at b4;cases b4
    have b4S: ∀b:Blk,(G1.set G.length b)[r]? =some (.var 50 (xs1.map fun k=>pH k)):=fun b=>by rw[Qd (Ne.symm hrq)];exact b4
    have a1:((xs1.length+1)*24<=140737488355328)=True:=Yk Qf3;have a2:(xs1.length<=140737488355327)=True:=Yk Qf3;refine gf (a5 @hreS @b4S @a1 @a2 @hGSl) ?_;refine⟨⟨sn++[i],(G1.set G.length (.iter (some m) es.length (sn++[i]))).set r .old++[.var 50 ((xs1.map fun k=>pH k)++[pH e.1.1])],.ms G1.length 0 1 (xs1.length+1),xs1++[e.1.1]⟩,⟨ztV (ziP (htS _) b1 _) _,?_,hnd2,hlt2,.inr ⟨G1.length,hG1l,Qf4,Qf4,?_⟩,hsel2⟩,hms,rfl,rfl,?_⟩
    ·dsimp only;refine yJ _ _ _ _ ?_;rw[Qd hrq];exact xT _
    ·dsimp only;rw[show G1.length=((G1.set G.length (.iter (some m) es.length (sn++[i]))).set r .old).length by rw[Xb,Xb],zA,Xq];rfl
    ·rfl
end Go.AL.N
namespace Go.AL
open Go.Proofs Go.Proofs.Tryz
theorem zsY(cs:List PV)(n:Nat)(h:n<=cs.length):wA cs 0 1 n=(cs.take n).map ([·]):=by
 apply Zh;intro i;unfold wA;rw[Qu,Qu,Xr];by_cases hi:i<n
 ·have:i<cs.length:=Qf3;simp[hi,Qa this,List.take_one,List.head?_drop]
 ·simp[hi]
theorem ya7(ms:List (Nat×List LnE))(h:Heap)(hM: ∀x∈ms,N.KeysM h x.1 x.2)(hz:(N.keysM ms).length<=100000)(hz2:ms.length<=1000):
  ECall prog G0 50 [.tc 1 (ms.map fun x=>[PV.mp x.1])] h fun p h'=>p= .ts 1 ((aO (N.keysM ms)).map fun k=>[pH k])/\h'=h:=by
 refine⟨.ts 1 ((aO (N.keysM ms)).map fun k=>[pH k]),h,⟨rfl,rfl⟩,?_⟩;refine ACall.weaken ((ACall.cut3 (R:=fun p=>(N.keysM ms=[]/\p= .nil)\/p= .ts 1 ((aO (N.keysM ms)).map fun k=>[pH k])) ((N.keys_n ms h hM hz hz2).mono ?_)).mono ?_)
 ·rintro p h' ⟨h1,⟨h2,rfl⟩|⟨r,cs,h2,rfl,h3,h4⟩⟩
  ·exact⟨h1,.inl ⟨h2,rfl⟩⟩
  ·refine⟨h1,.inr ?_⟩;rw[ydQ 39 r 0 1 _ Qf3 h3];have hn:(aO (N.keysM ms)).length<=cs.length:=by
    have:=Ym List.length h4;rw[Xk,Qs] at this;omega
   rw[zsY _ _ (by rw[Qs];exact hn),<-List.map_take,h4,Zg,Zg];congr 1;refine Yq fun k _=> ?_;have:fz h.length h' 39 (pH k)=pH k:=vE _ _ 39 _ (all_map fun _=>rfl);simp only[Function.comp_apply,this]
 ·rintro p h' ⟨⟨h1,rfl⟩|rfl,rfl⟩
  ·refine⟨_,?_,rfl,rfl⟩;rw[h1];exact PLe.nil_ts 1
  ·exact⟨_,PLe.refl _,rfl,rfl⟩
end Go.AL
namespace Go.AL
open Go.RowKit
def kcs(vs:Array Value):List PV:=vs.toList.map .sc
theorem zxY{S:St}{vs:Array Value}{u:Value}(h:VRel S (.agg (kcs vs)) u):u= .agg vs:=by
 cases h with
 |agg hl h1 h2=>
  rename_i us;congr 1;refine Array.ext (by simpa [kcs] using hl) fun i hi hj=> ?_;have:=h2 i (.sc vs[i]) us[i] (by simp[kcs,hj]) (Qx hi);generalize us[i]=a at this ⊢
  generalize vs[i]=b at this ⊢
  cases this;rfl
theorem zwC{P:Program}{kt:TypeId}(L:WideMaps.KeyLaw P kt){w:World}{x:Value}{lx:Lit}(hx:keyOf P kt x=some lx){es:List (Value×PV)}{l:List MapEntry}(hl:l.length=es.length)
  (hk: ∀(j:Nat)(e:MapEntry)(q:Value×PV),l[j]? =some e->es[j]? =some q->e.key=q.1) (hes: ∀q∈es, ∃l,keyOf P kt q.1=some l):
  ((Instr.findKey kt x l).run P w= .ok none w/\ ∀q∈es,q.1≠x)\/ ∃(j:Nat)(e:MapEntry)(q:Value×PV),(Instr.findKey kt x l).run P w= .ok (some (j,e.val)) w/\l[j]? =some e/\es[j]? =some q/\q.1=x:=by
 have hkey: ∀e∈l, ∃l,keyOf P kt e.key=some l:=fun e he=>by
  obtain⟨j,hj⟩:=Zq he;have hjl:j<es.length:=by rw[<-hl];exact(gsi hj).1
  rw[hk j e _ hj (Qa hjl)];exact hes _ (Qc hjl)
 rcases L.find w hx l hkey with ⟨h1,h2⟩|⟨j,e,h1,h2,h3⟩
 ·refine .inl ⟨h1,fun q hq e=> ?_⟩;obtain⟨j,hj⟩:=Zq hq;have hjl:j<l.length:=by rw[hl];exact(gsi hj).1
  exact h2 _ (Qc hjl) (by rw[hk j _ q (Qa hjl) hj];exact e)
 ·have hjl:j<es.length:=by rw[<-hl];exact(gsi h2).1
  exact .inr ⟨j,e,es[j],h1,h2,Qa hjl,by rw[<-hk j e _ h2 (Qa hjl)];exact h3⟩
section
variable{P:Program}{G:Glob}{rd:Option Nat}
theorem OpOk.lookS{o:Oper}{h:Heap}{F:Operand->PV}{R:PV->Heap->Prop}{t kt et:TypeId}{d:TypeDesc}{m k:Operand}{ok:Bool}{r:Nat}{es:List (Value×PV)}{vs:Array Value}{lx:Lit}{z:Value}
  (L:WideMaps.KeyLaw P kt) (ho:o.op= .lookup t m k ok) (ht:kC P t=some (kt,d,et)) (hm:F m= .mp r) (hb:h[r]? =some (.map es)) (hk:F k= .agg (kcs vs)) (hz:(P.info? et).bind (·.zero)=some z)
  (hx:keyOf P kt (.agg vs)=some lx) (hes: ∀q∈es, ∃l,keyOf P kt q.1=some l)
  (k0:(∀q∈es,q.1≠ .agg vs)->R (if ok then .tup [nI z,.sc (.bool false)] else nI z) h)
  (k1: ∀(j:Nat)(q:Value×PV),es[j]? =some q->q.1= .agg vs->R (if ok then .tup [q.2,.sc (.bool true)] else q.2) h):OpOk P G rd o h F R:=by
 refine .of_run Qgt fun φ w X ρ hS hG hv=> ?_;have h1:=hv m Qh7;have h2:=hv k Qh7;rw[hm] at h1;rw[hk] at h2;obtain⟨t1,t2⟩:=ydV ht;have hu: ∃b,ρ m= .map (some b)/\φ[r]? =some (.map (some b)):=by
  generalize ρ m=u at h1;exact Qec
 obtain⟨b,hu,hp⟩:=hu;have hkv:=zxY h2;obtain⟨b',clock,ar,e1,hh,hsz,_,hrel⟩:=hS.blks r _ _ hb hp;cases e1;have hl:ar.toList.length=es.length:=Qga;have fin: ∀(y:Option (Nat×Value)),(Instr.findKey kt (.agg vs) ar.toList).run P w= .ok y w->(Instr.lookup t (ρ m) (ρ k) ok).run P w=(match y with
   |some (_,y)=> .ok (if ok then .tuple #[y,.bool true] else y) w
   |none=> .ok (if ok then .tuple #[z,.bool false] else z) w):=fun y hy=>by
  rw[hu,hkv];simp only[Instr.lookup,Xp,Xc t1,Xd,Yc,MapKept.run_getObj_map hh,L.check w _ hx,hy];cases y with
  |none=>simp[lO hz,Result.andThen]
  |some y=>simp[Result.andThen]
 have ex: ∀v,(Instr.lookup t (ρ m) (ρ k) ok).run P w= .ok v w->(execOp ρ o).run P w= .ok (.value v) w:=fun v hv=>by
  unfold execOp;rw[ho];simp only[Xp,hv,Xd,Yc]
 rcases zwC L hx hl (fun j e q a b=>(hrel j e q (by simpa using a) b).1) hes with ⟨a,b⟩|⟨j,e,q,a,b,c,d'⟩
 ·refine⟨φ,h,w,_,if ok then .tuple #[z,.bool false] else z,?_,Ext.refl _,hS,?_,k0 b⟩
  ·exact ex _ (fin none a)
  ·cases ok
   ·exact sN _ z
   ·refine .tup rfl fun i p y hp hy=> ?_
    match i with
    |0=>simp at hp hy;subst hp;subst hy;exact sN _ z
    |1=>simp at hp hy;subst hp;subst hy;exact .sc trivial
    |i+2=>simp at hp
 ·have hq:=(hrel j e q (by simpa using b) c).2;refine⟨φ,h,w,_,if ok then .tuple #[e.val,.bool true] else e.val,?_,Ext.refl _,hS,?_,k1 j q c d'⟩
  ·exact ex _ (fin _ a)
  ·exact Qbd
theorem OpOk.newS{o:Oper}{h:Heap}{F:Operand->PV}{R:PV->Heap->Prop}{t kt et:TypeId}{d:TypeDesc}{m k x:Operand}{r:Nat}{es:List (Value×PV)}{vs:Array Value}{lx:Lit}
  (L:WideMaps.KeyLaw P kt) (ho:o.op= .mapUpdate t m k x) (ht:kC P t=some (kt,d,et)) (hm:F m= .mp r) (hb:h[r]? =some (.map es)) (hk:F k= .agg (kcs vs))
  (hx:keyOf P kt (.agg vs)=some lx) (hes: ∀q∈es, ∃l,keyOf P kt q.1=some l) (hne: ∀q∈es,q.1≠ .agg vs)
  (k0:R .ud (h.set r (.map (es++[(.agg vs,F x)])))):OpOk P G rd o h F R:=by
 refine .of_skip Qgt fun φ w X ρ hS hG hv=> ?_;have h1:=hv m Qh7;have h2:=hv k Qh7;have h3:=hv x Qh7;rw[hm] at h1;rw[hk] at h2;obtain⟨t1,t2⟩:=ydV ht;have hu: ∃b,ρ m= .map (some b)/\φ[r]? =some (.map (some b)):=by
  generalize ρ m=u at h1;exact Qec
 obtain⟨b,hu,hp⟩:=hu;have hkv:=zxY h2;obtain⟨b',clock,ar,e1,hh,hsz,hborn,hrel⟩:=hS.blks r _ _ hb hp;cases e1;have hl:ar.toList.length=es.length:=Qga;have hz: ∀(w':World),(∀k,k≠b->w'.heap[k]? =w.heap[k]?)-> ∀b1 m,St.Row ⟨φ,h,w,X⟩ b1 m->St.Row {(⟨φ,h,w,X⟩:St) with w:=w'} b1 m:=by
  rintro w' hw b1 m ⟨ar1,t1,f1,hr1,hm1⟩;exact Qcj
 rcases zwC L (w:=w) hx hl (fun j e q a b=>(hrel j e q (by simpa using a) b).1) hes with ⟨a,_⟩|⟨j,e,q,a,b,c,d'⟩
 ·let w':World:={w with heap:=w.heap.setIfInBounds b (.map (ar.push {key:= .agg vs,val:=ρ x,born:=clock}) (clock+1))}
  have hw: ∀k,k≠b->w'.heap[k]? =w.heap[k]? :=fun k hk=>(MapKept.heap_set hh).2 k hk;have hS2:=ydW (es':=es++[(.agg vs,F x)]) hS hp hb (w':=w') rfl ztC rfl Qfb hw (hz _ hw) (MapKept.heap_set hh).1 Qfl ⟨by simp[hborn.1],fun q hq=>(Qo.1 hq).elim (hborn.2.1 q) (fun h=>by simp at h;subst h;exact .inr ⟨_,rfl⟩),fun i e he=>by
    rw[Ke] at he;split at he
    ·rename_i hi;cases he;rw[hi];exact hborn.1
    ·exact hborn.2.2 i e he⟩ (fun i e q he hq=>by
    rw[Ke] at he;split at he
    ·rename_i hi;cases he;rw[Qr,Qi Qf3,hi,hsz,Nat.sub_self] at hq;cases hq;exact⟨rfl,h3⟩
    ·rename_i hi;have hi':i<ar.size:=(Qz.1 he).1;rw[Qr,Qj Qf3] at hq;exact hrel i e q he hq)
  refine⟨φ,_,w',?_,oP hS hp hb rfl ztC rfl Qfb hw (hz _ hw),hS2,k0⟩;unfold execOp;rw[ho];have hrun:(Instr.mapUpdate t (ρ m) (ρ k) (ρ x)).run P w= .ok () w':=by
   rw[hu,hkv];simp[Instr.mapUpdate,Xc t1,MapKept.run_getObj_map hh,L.check w _ hx,a,MapKept.run_setObj_map _ hh,Result.andThen,w']
  simp only[Xp,hrun,Xd,Yc]
 ·exact absurd d' (hne q (Qk c))
end
end Go.AL
namespace Go.AL
open Go.Proofs Go.Proofs.Tryz
def sA:Option Fa->BA
 |none=>⟨#[]⟩
 |some g=>cS g.args
def sE:Option Fa->Int
 |none=>0
 |some g=>g.elem
def fP(i:Int):Option Fa->Int
 |none=>i
 |some g=>g.pred
def fA:Option Fa->PV
 |none=> .nil
 |some g=>pH g.args
def fE:Option Fa->Int
 |none=> -1
 |some g=>g.elem
theorem yaZ(o:Option Fa):yaW o=[yQ (sA o),i64 (sE o),bo o.isSome]:=by cases o<;>rfl
theorem ya8(i:Int)(o:Option Fa):ybC i o=[i64 (fP i o),fA o,i64 (fE o)]:=by cases o<;>rfl
theorem ydR(a b:BA)(x y:Int)(c d:Bool):za2 (α:=Prop) prog 201 (.agg [yQ a,i64 x,bo c]) (.agg [yQ b,i64 y,bo d])=some (decide (a=b)&&(x==y&&((c==d)&&true)),True):=Qf6
def GdO(i:Int)(o:Option Fa):Prop:= ∀g,o=some g->g.pred=i/\Key g.args/\In64 g.elem
theorem zu8{i:Int}{a b:Option Fa}(ha:GdO i a)(hb:GdO i b):(decide (sA a=sA b)&&(sE a==sE b&&((a.isSome==b.isSome)&&true)))=ze8 (a=b):=by
 by_cases q:a=b
 ·subst q;rw[pO rfl];simp
 ·rw[uA q,Bool.eq_false_iff];intro w;rw[Qt,Qt,Qt,Wz,Zm,Zm] at w;obtain⟨w1,w2,w3, -⟩:=w;apply q;cases a with
  |none=>cases b with
   |none=>rfl
   |some b=>simp at w3
  | some a=>cases b with
   |none=>simp at w3
   |some b=>
    obtain⟨p1,k1, -⟩:=ha a rfl;obtain⟨p2,k2, -⟩:=hb b rfl;have e:a.args=b.args:=zwF (fun v hv=>(zqC v).2 (k1.2 v hv)) (fun v hv=>(zqC v).2 (k2.2 v hv)) w1;obtain⟨pa,aa,ea⟩:=a;obtain⟨pb,ab,eb⟩:=b;dsimp only at p1 p2 e;have w2:ea=eb:=w2;subst p1;subst e;subst w2;rw[p2];rfl
theorem ydU:WideMaps.KeyLaw prog 214:=deep_law (m:=3) Qf3 Qf6 Qf6 Qf6
def kG(a b c:Option Fa):Array Value:= #[.string (sA a),.int .i64 (sE a),.bool a.isSome,.string (sA b),.int .i64 (sE b),.bool b.isSome,.string (sA c),.int .i64 (sE c),.bool c.isSome]
theorem yaU:prog.cellsOf 201=3:=Qf6
theorem ce_tr:prog.cellsOf 214=9:=Qf6
theorem ce_s:prog.cellsOf 9=1:=Qf6
theorem ce_i:prog.cellsOf 3=1:=Qf6
theorem ce_b:prog.cellsOf 4=1:=Qf6
theorem kl_st(D:Nat)(s:BA)(e:Int)(b:Bool)(hs:s.size<=maxLen)(he:(Lit.int .i64 e).wf=true):prog.keyLits (D+2) 201 [.string s,.int .i64 e,.bool b]=some [.string s.data.toList,.int .i64 e,.bool b]:=by
 simp[Program.keyLits,Tryz.underlying201,Tryz.underlying9,Tryz.underlying3,Tryz.underlying4,yaU,ce_s,ce_i,ce_b,hs,he]
theorem zyT(s1 s2 s3:BA)(e1 e2 e3:Int)(b1 b2 b3:Bool)(h1:s1.size<=maxLen)(h2:s2.size<=maxLen)(h3:s3.size<=maxLen)(k1:(Lit.int .i64 e1).wf=true)(k2:(Lit.int .i64 e2).wf=true)(k3:(Lit.int .i64 e3).wf=true): ∃l,keyOf prog 214 (.agg #[.string s1,.int .i64 e1,.bool b1,.string s2,.int .i64 e2,.bool b2,.string s3,.int .i64 e3,.bool b3])=some l:=by
 have h2t:decide (2<=prog.types.size)=true:=Qf6;have h2t:=Xj h2t;obtain⟨D,hD⟩: ∃D,prog.types.size+1=D+3:=⟨prog.types.size-2,Qf3⟩
 have hf:(Value.agg #[.string s1,.int .i64 e1,.bool b1,.string s2,.int .i64 e2,.bool b2,.string s3,.int .i64 e3,.bool b3]).formed prog 214=true:=Qf6;have hk:prog.keyType 214=true:=Qf6;unfold keyOf;rw[Tryz.underlying214];simp only[hf,hk,Kd,Wk,hD,Value.cells];unfold Program.keyLits;simp[Tryz.underlying214,ce_tr,yaU,kl_st,h1,h2,h3,k1,k2,k3]
@[go_sem] def UBsx5f126.pp:Nat->DPlan
 |1=>⟨[yA,yA,yB,yA,yA,yB,yA,yB,yA,yA,yA,yA],xF,0⟩
 |9=>⟨[yA,yB,yA,yB,yA,yA,yA,yB,yB,yC],xS,0⟩
 |12=>⟨[yA,yA,yA,yB,yA,yA,yA,yA,uX,yA,yC],vJ,0⟩
 |_=>⟨[],[],0⟩
@[go_sem] def UBsx5f127.pp:Nat->DPlan
 |4=>⟨[yB,yA,yB,yA,yB,yA,yB,yA,yB,uX,yC],vJ,0⟩
 |5=>⟨[yA,yA,yA,yB,yA,yA,yA,yA,yB,yA,yA,yB,yA,yA,yB,yA,yB,yA,uX,yA,yC],pR,0⟩
 |_=>⟨[],[],0⟩
@[go_sem] def UBsx5f176.pp:Nat->DPlan
 |2=>⟨[yA,yA,yA,yB,yA,yA,yB,yA,yB,yA,yA,yA,yB,yA,yB,yA,yA,yA,yB,yA,yA,yB,yA,yA,yB,yA,yB,yA,uX,yA,yC],yd1,0⟩
 |_=>⟨[],[],0⟩
@[go_sem] def UBsx5f126.pl:Nat->DPlan
 |1=>⟨[yA,yA,yB,yA,yA,yB,yA,yB,yA,yA,yA,yA],xF,0⟩
 |9=>⟨[yA,yB,yA,yB,yA,yA,yA,yB,yB,yC],xS,0⟩
 |12=>⟨[yA,yA,yA,⟨7,0,[1001]⟩,yA,yA,yA,yA,⟨6,0,[1001]⟩,yA,yC],vJ,0⟩
 |_=>⟨[],[],0⟩
@[go_sem] def UBsx5f127.pl:Nat->DPlan
 |4=>⟨[⟨7,0,[1003]⟩,yA,⟨7,0,[1005]⟩,yA,yB,yA,yB,yA,yB,⟨6,0,[1003,1005]⟩,yC],vJ,0⟩
 |5=>⟨[yA,yA,yA,⟨7,0,[1001]⟩,yA,yA,yA,yA,yB,yA,yA,yB,yA,yA,yB,yA,yB,yA,⟨6,0,[1001]⟩,yA,yC],pR,0⟩
 |_=>⟨[],[],0⟩
structure ActX(d':Dt)(q rq lq:Nat)(h h':Heap):Prop where
 d:DataAt d' q rq lq h'
 k: ∀(r:Nat)(b:Blk),r≠rq->r≠lq->h[r]? =some b->h'[r]? =some b
theorem ActX.pQ{d:Dt}{q rq lq i:Nat}{h:Heap}(hD:DataAt d q rq lq h)(z:List LRw)(B:Heap):ActX ⟨d.pg,d.pQ.set i z⟩ q rq lq h (h.set lq (.var 124 ((d.pQ.set i z).map vD))++B):=by
 obtain⟨n1,n2,n3⟩:=hD.ne;have hl:=(gsi hD.l).1;have keep: ∀(r:Nat)(b:Blk),r≠lq->h[r]? =some b->(h.set lq (.var 124 ((d.pQ.set i z).map vD))++B)[r]? =some b:=fun r b hr hb=>by
  rw[Qg (by rw[Xb];exact(gsi hb).1),Qd (Ne.symm hr)];exact hb
 refine⟨⟨by simpa using keep q _ n2 hD.t,keep rq _ n3 hD.r,?_⟩,fun r b _ hr hb=>keep r b hr hb⟩;rw[Qg (by rw[Xb];exact hl),Qh hl]
theorem ActX.pg{d:Dt}{q rq lq i:Nat}{h:Heap}(hD:DataAt d q rq lq h)(z:List Rw)(B:Heap):ActX ⟨d.pg.set i z,d.pQ⟩ q rq lq h (h.set rq (.var 95 ((d.pg.set i z).map uN))++B):=by
 obtain⟨n1,n2,n3⟩:=hD.ne;have hl:=(gsi hD.r).1;have keep: ∀(r:Nat)(b:Blk),r≠rq->h[r]? =some b->(h.set rq (.var 95 ((d.pg.set i z).map uN))++B)[r]? =some b:=fun r b hr hb=>by
  rw[Qg (by rw[Xb];exact(gsi hb).1),Qd (Ne.symm hr)];exact hb
 refine⟨⟨by simpa using keep q _ n1 hD.t,?_,keep lq _ (Ne.symm n3) hD.l⟩,fun r b hr _ hb=>keep r b hr hb⟩;rw[Qg (by rw[Xb];exact hl),Qh hl]
attribute [-go_sem] only
@[go_sem] def UMw7f114.pp:Nat->DPlan
 |3=>⟨[yA,yA,yA,yB,yA,yB,yA,yB,yA,yA,yB,yA,yA,yA,yB,yA,yB,yA,yB,yA,yB,yB,yA,yB,uX,yA,yC],yaS,0⟩
 |4=>⟨[yA,yA,yA,yB,yA,yB,yA,yA,yA,yB,yA,yB,yA,yB,yA,yB,yB,yA,uX,yA,yC],pR,0⟩
 |_=>⟨[],[],0⟩
attribute [-go_sem] only
theorem zzG(i:Int)(m:Nat)(es:List LnE)(h:Heap)(hL:Lns i m es h)(key:List Vl)(hk:Key key):
  ECall prog G0 52 [.mp m,i64 i,pH key] h fun p h'=> ∃(r:Nat)(B:Heap),p= .ptr r 0/\h'=h++B/\h'[r]? =some (.var 205 (zuI i key (iD (es.map (·.1)) key) (iD (es.map (·.1)) key))):=by
 refine pv func52 19 false Qf6 rfl rfl ?_;refine g2 ?_;refine ge ?_;(refine g1 ?_;refine zC ((ztZ key hk.1 hk.2).call zK Qf4 _) ?_;intro p2 h2 hr2;refine g2 ?_);obtain⟨rfl,e2⟩:=hr2;replace e2:=e2.symm;subst e2;rcases zvF (fun e he=>(hL.k e he).2) hk.2 0 with ⟨hm,hkn2⟩|⟨j,e0,hm,hj,he0⟩
 ·have hlk:=zv8 hL.a hm;have hat:iD (es.map (·.1)) key=zyH:=zxO (by rw[Zg];exact hkn2);rw[hat];obtain⟨N,hN⟩: ∃N,N=zyH:=⟨_,rfl⟩
  have hne:=zy7 i key h;rw[<-hN] at hne ⊢
  have hneq:za2 (α:=Prop) prog 117 (.sc (.pointer none)) (.sc (.pointer none))=some (true,True):=zvN;refine gf (a2 @hlk @zvN) ?_;(refine g1f @hlk ?_;refine zC (hne) ?_;intro p2 h2 hr2;refine g2 ?_);obtain⟨rfl,rfl⟩:=hr2;refine ge ?_;exact⟨_,_,rfl,rfl,zA _ _⟩
 ·have hlk:=zsC hL.a hm;obtain⟨⟨key2,M⟩,r⟩:=e0;dsimp only at he0 hlk;subst he0;have hmem:(key2,M)∈es.map (·.1):=Xf.2 ⟨_,Qk hj,rfl⟩;have hat:iD (es.map (·.1)) key2=M:=zxN (x:=(key2,M)) (by rw[Zg];exact hL.d) hmem;rw[hat];refine gf (a2 @hlk @zxS) ?_;exact⟨r,[],rfl,(Xz _).symm,(hL.l _ (Qk hj)).2⟩
theorem zx3(p:Pg)(hp:p.ok)(hle:p.sm)(N:Nat)(hN:N<=17179869184)(d:Dt)(hX:DatX p d)(hLn:LenD N d)(q rq lq:Nat)(h:Heap)(hD:DataAt d q rq lq h)(i:Nat)(key:List Vl)(g:Fa)(hF:FcX p i key g)(m:Nat)(hm:m<64)(hno:ztF p d i key m=none):
  ECall prog G0 114 [.agg p.c,.ptr q 0,.agg g.c,.agg [i64 m,i64 ((m:Int)+1)]] h fun v h'=>v= .tup []/\ActX (zl0 p d (zz7 g m)) q rq lq h h':=by
 refine pv func114 64 false Qf6 rfl rfl ?_;refine g2 ?_;have hd:DtS p N d:=zrM hX hLn (fun x hx=>by
  have:=(znP hp hle hX.tv).2 x hx;omega)
 have hi:=hF.hi;have ho:=hF.op hp hle hX hm;have hgp:=hF.pr;have hir:i<d.pg.length:=by rw[hd.rl];exact hi
 have hil:i<d.pQ.length:=by rw[hd.ll];exact hi
 obtain⟨-,hX2,hX3⟩:=hX.at' i hi hir hil;have hx:=zG (f:=Pd.c) [] hi;have hpi:(0<=g.pred)=True:=Yk Qf3;have hpl:(g.pred<(p.pk.length:Int))=True:=Yk Qf3;have hpt:g.pred.toNat=i:=Qf3;have hadd:=zz6 hp hle hX hF hm hno;unfold ydS at hadd;rw[hpt,eD hi,eD hir,eD hil] at hadd;rw[<-hadd];have htA: ∀l:List Blk,(h++l)[q]? =some (.var 31 [.ms rq 0 1 d.pg.length,.ms lq 0 1 d.pQ.length]):=fun l=>yJ _ _ _ _ hD.t;have hrA: ∀l:List Blk,(h++l)[rq]? =some (.var 95 (d.pg.map uN)):=fun l=>yJ _ _ _ _ hD.r;have hlA: ∀l:List Blk,(h++l)[lq]? =some (.var 124 (d.pQ.map vD)):=fun l=>yJ _ _ _ _ hD.l;have hrl:rq<h.length:=(gsi hD.r).1;have hll:lq<h.length:=(gsi hD.l).1;have hsA: ∀(l:List Blk)(b:Blk),(h++l).set rq b=h.set rq b++l:=fun l b=>Ko _ _ hrl;have hsL: ∀(l:List Blk)(b:Blk),(h++l).set lq b=h.set lq b++l:=fun l b=>Ko _ _ hll;have hd0:=yU uN d.pg i .un hir;have hd1:=yU vD d.pQ i .un hil;have hsp: ∀v,(d.pg.map uN).take i++uN v::(d.pg.map uN).drop (i+1)=(d.pg.set i v).map uN:=fun v=>wY uN d.pg i v hir;have hsq: ∀v,(d.pQ.map vD).take i++vD v::(d.pQ.map vD).drop (i+1)=(d.pQ.set i v).map vD:=fun v=>wY vD d.pQ i v hil;have hpd:(g.pred<(d.pg.length:Int))=True:=Yk Qf3;have hpe:(g.pred<(d.pQ.length:Int))=True:=Yk Qf3;by_cases hof:p.pk[i].of'= -1
 ·obtain⟨-,hRX, -⟩:=hX3 hF.b hof;obtain⟨hz1,hz2⟩:=hd.r i hi hir;have fin:=fun (z:List Rw) (B:Heap)=>ActX.pg (i:=i) hD z B;rw[Qj hof];have e0:decide ((0:Int)<=p.pk[i].of')=false:=by rw[hof];decide
  have hls: ∀x∈d.pg[i],x.ls:=fun x hx=>(hz2 x hx).2;have F1:=(a9 @htA @hrA @hsA @rU @sB @hx @hpi @hpl (a6 @hpt @hpd @hi @hir @hd0 @e0))
  have hal:=ho.ls;have hsg:=ho.s;generalize p.pk[i]=x at*;generalize d.pg[i]=z at*;(repeat(first|refine gz ?_|(refine gn ?_;intro zs zh;(try simp only[go_sem,F1] at zh);subst zh;refine gv ?_)|refine yD UMw7f114.pp ?_));(refine zF rfl rfl rfl ?_;intro sr hsr;simp only[go_sem,F1] at hsr;subst hsr;refine vP rfl (((zp2 z g.args ⟨m,(m:Int)+1⟩ Qf3 hls hRX.1 hal hsg).args (.cons (PLe.refl _) (.cons (PLe.refl _) (.cons (PLe.tc_ts 2 _) .nil))))) (by simp[zJ,oM]) ?_;intro p2 hr2 ts2 hts;simp only[go_sem] at hts;subst hts);subst hr2;(repeat(first|refine gz ?_|(refine gn ?_;intro zs zh;(try simp only[go_sem,F1,hsp] at zh);subst zh;refine gv ?_)|refine yD UMw7f114.pp ?_));exact⟨rfl,fin _ _⟩
 ·have hof2:0<=p.pk[i].of'/\p.pk[i].of'<p.pQ.length:=by
   have h1:=ho.hof;omega
  have hol:p.pk[i].of'.toNat<p.pQ.length:=Qf3;have hck:=((hX2 hF.b hof).2 hol).1;have hal:g.args.length<=1048576:=by rw[hF.ax.1];exact ho.htl
  have hlo:=hp.l _ (Qc hol);have hy:=zG (f:=La.c) [] hol;obtain⟨hz1,hz2⟩:=hd.l i hil;have hsz:=hF.ax.sz;have fin:=fun (z:List LRw) (B:Heap)=>ActX.pQ (i:=i) hD z B;rw[Qi hof,eD hol];have e0:decide ((0:Int)<=p.pk[i].of')=true:=Qfk;have ho0:(0<=p.pk[i].of')=True:=Yk Qf3;have ho1:(p.pk[i].of'<(p.pQ.length:Int))=True:=Yk Qf3;have F:=(a9 @htA @hlA @hsL @rU @sB @hx @hy @hpi (a9 @hpl @hpt @hpe @hi @hil @hd1 @e0 @hol (a2 @ho1 @ho0)))
  unfold aV;generalize p.pQ[p.pk[i].of'.toNat]=lt at*;generalize p.pk[i]=x at*;generalize d.pQ[i]=z at*;(repeat(first|refine gz ?_|(refine gn ?_;intro zs zh;(try simp only[go_sem,F] at zh);subst zh;refine gv ?_)|refine yD UMw7f114.pp ?_));(refine zF rfl rfl rfl ?_;intro sr hsr;simp only[go_sem,F] at hsr;subst hsr;refine vP rfl (zrW lt hlo hck z Qf3 hz2 g.args hal hsz m ((m:Int)+1) g.elem) Qfe ?_;intro p2 hr2 ts2 hts;simp only[go_sem] at hts;subst hts);subst hr2;(repeat(first|refine gz ?_|(refine gn ?_;intro zs zh;(try simp only[go_sem,F,hsq] at zh);subst zh;refine gv ?_)|refine yD UMw7f114.pp ?_));exact⟨rfl,fin _ _⟩
theorem ziD{b o t:Option Fa}{m:Nat}: ∀{l:List Cf},(∀x∈l, ¬(x.b=b/\x.o=o/\x.t=t))->zc4 b o t m l=l++[⟨b,o,t,yW (zo2 ⟨m,(m:Int)+1⟩)⟩]
 | [],_=>rfl
 |x::l,h=>by
  unfold zc4;rw[uA (h x (Qe ..)),Qi Qf5,ziD fun y hy=>h y (Qf _ hy)];rfl
abbrev Cf.tr(x:Cf):Option Fa×Option Fa×Option Fa:=(x.b,x.o,x.t)
theorem zmD{b o t:Option Fa}{m:Nat}: ∀{l:List Cf}{k:Nat}{x:Cf},(l.map Cf.tr).Nodup->l[k]? =some x->x.b=b/\x.o=o/\x.t=t->zc4 b o t m l=l.set k ⟨b,o,t,yW (uQ x.w ||| zo2 ⟨m,(m:Int)+1⟩)⟩
 |y::l,0,x,_,hk,h=>by
  simp at hk;subst hk;unfold zc4;rw[pO h,Qj rfl];rfl
 |y::l,k+1,x,hn,hk,h=>by
  rw[Xa,Zs] at hn;have hk':l[k]? =some x:=Qfw;unfold zc4;rw[uA fun w=>hn.1 ?_,Qi Qf5,zmD hn.2 hk' h];rfl;refine Xf.2 ⟨x,Qk hk',?_⟩;obtain⟨h1,h2,h3⟩:=h;obtain⟨w1,w2,w3⟩:=w;simp only[Cf.tr,h1,h2,h3,w1,w2,w3]
def ztE(i:Int)(key:List Vl)(x:Cf):List PV:=[i64 i,pH key,kJ x.w,i64 (fP i x.b),fA x.b,i64 (fE x.b),i64 (fP i x.o),fA x.o,i64 (fE x.o),i64 (fP i x.t),fA x.t,i64 (fE x.t)]
def ze3(l:List Cf):List (Value×PV):=l.zipIdx.map fun x=>(Value.agg (kG x.1.b x.1.o x.1.t),i64 x.2)
theorem zwK(l:List Cf)(x:Cf):ze3 (l++[x])=ze3 l++[(Value.agg (kG x.b x.o x.t),i64 l.length)]:=by
 unfold ze3;rw[List.zipIdx_append,Xq];simp
theorem znV{l:List Cf}{j:Nat}{q:Value×PV}(h:(ze3 l)[j]? =some q): ∃x,l[j]? =some x/\q=(Value.agg (kG x.b x.o x.t),i64 j):=by
 unfold ze3 at h;rw[Qu,Kr] at h;cases hj:l[j]? with
 |none=>rw[hj] at h;cases h
 |some x=>rw[hj] at h;simp at h;exact⟨x,rfl,h.symm⟩
theorem zwJ{l:List Cf}{k:Nat}{x y:Cf}(hk:l[k]? =some x)(h:y.b=x.b/\y.o=x.o/\y.t=x.t):ze3 (l.set k y)=ze3 l:=by
 refine Zh fun j=> ?_;unfold ze3;rw[Qu,Qu,Kr,Kr,Qq];split
 ·rename_i e;subst e;have hkl:=(gsi hk).1;rw[Qj hkl,hk];simp[h.1,h.2.1,h.2.2]
 ·rfl
theorem GdO.key{i:Int}{o:Option Fa}(h:GdO i o):(sA o).size<=maxLen/\(Lit.int .i64 (sE o)).wf=true:=by
 cases o with
 |none=>exact⟨Qf5,Qf5⟩
 | some g=>
  obtain⟨-,k,e⟩:=h g rfl;refine⟨?_,?_⟩
  ·have h1:=zxT (l:=g.args) fun v hv=>(zqC v).2 (k.2 v hv);have h2:(cS g.args).size=(g.args.flatMap zhA).length:=by simp[cS,ByteArray.size]
   have:=k.1;show(cS g.args).size<=_;rw[h2,zdI];omega
  ·show(Lit.int .i64 g.elem).wf=true;simp only[Lit.wf,Qt,Xm,zhI,zhJ];exact e
theorem zr3{i:Int}{a b c:Option Fa}(ha:GdO i a)(hb:GdO i b)(hc:GdO i c): ∃l,keyOf prog 214 (.agg (kG a b c))=some l:=
 zyT _ _ _ _ _ _ _ _ _ ha.key.1 hb.key.1 hc.key.1 ha.key.2 hb.key.2 hc.key.2
theorem zr4{i:Int}{a b c a' b' c':Option Fa}(ha:GdO i a)(hb:GdO i b)(hc:GdO i c)(ha':GdO i a')(hb':GdO i b')(hc':GdO i c')(h:Value.agg (kG a b c)= .agg (kG a' b' c')):a=a'/\b=b'/\c=c':=by
 simp only[Value.agg.injEq,kG] at h;have h:=Ym Array.toList h;simp only[List.cons.injEq,Value.string.injEq,Value.int.injEq,Value.bool.injEq,true_and,and_true] at h;obtain⟨h1,h2,h3,h4,h5,h6,h7,h8,h9⟩:=h;exact⟨zoX.1 (by rw[<-zu8 ha ha',h1,h2,h3];simp),zoX.1 (by rw[<-zu8 hb hb',h4,h5,h6];simp),zoX.1 (by rw[<-zu8 hc hc',h7,h8,h9];simp)⟩
theorem FcX.gd{p:Pg}(hp:p.ok)(hle:p.sm){X:Dt}(hX:DatX p X){i:Nat}{key:List Vl}{g:Fa}(h:FcX p i key g):Key g.args/\In64 g.elem:=by
 have ho:=h.op hp hle hX (m:=0) Qf3;refine⟨⟨by rw[h.ax.1];exact ho.htl,fun v hv=> ?_⟩,?_⟩
 ·obtain⟨j,hj,rfl⟩:=Qy hv;exact(h.ax.2 j hj (by rw[<-h.ax.1];exact hj)).2
 ·by_cases hof:(p.pk[i]'h.hi).of'= -1
  ·rw[h.e1 hof];exact⟨Qf5,Qf5⟩
  ·have h1:=ho.hof;have hol:(p.pk[i]'h.hi).of'.toNat<p.pQ.length:=Qf3;have:=(h.e2 hol Qf3).1;have hlo:=(hp.l _ (Qc hol)).e;unfold ze7 at this;rw[Xm] at this;exact⟨Qf3,Qf3⟩
end Go.AL
