/-
  Part of the walk.
-/
import Derived.Test.YtlcjmejclpilhaaGreatDoorV18
set_option linter.unusedSimpArgs false
set_option linter.unusedVariables false
set_option maxRecDepth 100000
set_option maxHeartbeats 4000000
namespace Go.AL
open Go.Proofs Go.Proofs.Tryz
theorem vX(cs:List PV)(o k:Nat):wA cs o k 0=[]:=rfl
theorem zjR(els:List (List PV)):za2 (α:=Prop) prog 128 (.ts 1 els) .nil=some (false,0<els.length):=Qf3
theorem ze2:wD prog 128=some (9,1,16):=Qf3
theorem zjU(els:List (List PV)):za2 (α:=Prop) prog 129 (.ts 2 els) .nil=some (false,0<els.length):=Qf3
theorem ze5:wD prog 129=some (308,2,16):=Qf3
theorem zjT(els:List (List PV)):za2 (α:=Prop) prog 71 (.ts 1 els) .nil=some (false,0<els.length):=Qf3
theorem ze4:wD prog 71=some (3,1,8):=Qf3
theorem zmC(els:List (List PV)):za2 (α:=Prop) prog 186 (.ts 4 els) .nil=some (false,0<els.length):=Qf3
theorem ziR:wD prog 186=some (315,4,48):=Qf3
theorem zhQ(els:List (List PV)):za2 (α:=Prop) prog 189 (.ts 9 els) .nil=some (false,0<els.length):=Qf3
theorem ziV:wD prog 189=some (194,9,112):=Qf3
theorem zmB(els:List (List PV)):za2 (α:=Prop) prog 50 (.ts 3 els) .nil=some (false,0<els.length):=Qf3
theorem ziQ:wD prog 50=some (168,3,32):=Qf3
theorem zhP(els:List (List PV)):za2 (α:=Prop) prog 95 (.ts 2 els) .nil=some (false,0<els.length):=Qf3
theorem ziS:wD prog 95=some (159,2,48):=Qf3
end Go.AL
namespace Go.AL.N
open Go.Proofs Go.Proofs.Tryz
abbrev Cl0(k:Nat)(id:FuncId):Prop:=EPure prog G0 id [.ts k []] fun p=>p= .ts k []
theorem yd0{k:Nat}{id T:FuncId}{fn:Func}{x:TypeId×Nat×Nat}(hf:prog.funcs[id]? =some fn)(hT:wD prog T=some x) (h:prog.funcs[id]? =some fn->wD prog T=some x->Cl0 k id:=by
 intro hf hT;refine⟨_,rfl,by simp[xX],ACall.weaken ?_⟩;refine pv hf 8 false Qf3 rfl rfl ?_;refine g2 ?_;refine ge ?_;refine uL rfl (R:=fun p h'=>(p=bo true\/p=bo false)/\h'=[]) (fun rd _=>OpOk.nilCmp (els:=[]) rfl rfl rfl Qf3 (fun b=>by cases b<;>simp)) ?_;rintro p h' ⟨rfl|rfl,rfl⟩ ts2 hts
 ·simp only[zZ,Xn,Xl] at hts;subst hts;refine ge ?_;exact⟨_,PLe.nil_ts _,rfl,rfl⟩
 ·simp only[zZ,Xn,Xl] at hts;subst hts;refine ge ?_;refine uL rfl (R:=fun p h'=>p= .ts _ []/\h'=[]) (fun rd _=>OpOk.appendEmpty rfl rfl rfl rfl rfl rfl hT ⟨rfl,rfl⟩) ?_;rintro p h' ⟨rfl,rfl⟩ ts2 hts;simp only[zZ,Xn,Xl] at hts;subst hts;refine ge ?_;exact⟨_,PLe.refl _,rfl,rfl⟩):Cl0 k id:=h hf hT
theorem clone0_str:Cl0 1 220:=yd0 func220 ze2
theorem clone0_cov:Cl0 2 221:=yd0 func221 ze5
theorem clone0_int:Cl0 1 224:=yd0 func224 ze4
theorem clone0_tm:Cl0 4 225:=yd0 func225 ziR
theorem clone0_li:Cl0 9 226:=yd0 func226 ziV
theorem clone0_vl:Cl0 3 87:=yd0 func87 ziQ
theorem clone0_rw:Cl0 2 246:=yd0 func246 ziS
end Go.AL.N
namespace Go.AL
open Go.Proofs Go.Proofs.Tryz
abbrev ClX{α:Type}(c:α->List PV)(k:Nat)(id:FuncId):Prop:= ∀(l:List α)(hl:l.length<=1099511627776)(X:PV)(hX: .ts k (l.map c)=X)(htb:zU 40 X=true),EPure prog G0 id [.ts k (l.map c)] fun p=>p=X
abbrev ClS{α:Type}(c:α->List PV)(k:Nat)(id:FuncId):Prop:= ∀(l:List α)(hl:l.length<=1099511627776)(htb:zU 40 (.ts k (l.map c))=true),EPure prog G0 id [.ts k (l.map c)] fun p=>p= .ts k (l.map c)
theorem clA{α:Type}{c:α->List PV}{k:Nat}{id T:FuncId}{fn:Func}(hf:prog.funcs[id]? =some fn)(h0:N.Cl0 k id)(hq: ∀els:List (List PV),za2 (α:=Prop) prog T (.ts k els) .nil=some (false,0<els.length)) (h:prog.funcs[id]? =some fn->N.Cl0 k id->(∀els:List (List PV),za2 (α:=Prop) prog T (.ts k els) .nil=some (false,0<els.length))->ClX c k id:=by
 intro hf h0 hq l hl X hX htb;rcases Yr l.length with hz|hz
 ·have:=Xi hz;subst this;subst hX;exact h0
 ·refine ECall.cutW (R:=fun p _=> ∃q k els,p= .vec q k els/\PV.ts k els=X) (pv hf 8 false Qf3 rfl rfl ?_) ?_
  ·refine g2 ?_;refine gf (a3 @hz @hq @vX) ?_;exact⟨_,_,_,rfl,hX⟩
  ·rintro p h ⟨q,k,els,rfl,rfl⟩;rw[rF htb];exact⟨_,PLe.refl _,rfl,yP _ _ htb⟩):ClS c k id:=fun l hl htb=>h hf h0 hq l hl _ rfl htb
theorem lU:ClS (fun s:BA=>[yQ s]) 1 220:=clA func220 N.clone0_str zjR
theorem zd8:ClS (fun c:Int×Int=>[i64 c.1,i64 c.2]) 2 221:=clA func221 N.clone0_cov zjU
theorem zd7:ClS (fun n:Int=>[i64 n]) 1 224:=clA func224 N.clone0_int zjT
theorem bI:ClS Tm.c 4 225:=clA func225 N.clone0_tm zmC
theorem zgE:ClS Li.c 9 226:=clA func226 N.clone0_li zhQ
theorem iK:ClS Vl.c 3 87:=clA func87 N.clone0_vl zmB
theorem zgC:ClS Rw.c 2 246:=clA func246 N.clone0_rw zhP
@[go_sem] def URel7f173.pl:Nat->DPlan
 |8=>⟨[yA,yA,yA,yA,yA,yA,yA,yA,yB,yA,yA,yA,yB,yC,yA,yA],xE,0⟩
 |_=>⟨[],[],0⟩
def GrowN(off:Nat)(t:TypeId)(els:List (List PV))(k:Nat)(J:Heap)(V:PV):Prop:=(els=[]/\V= .nil)\/ ∃q,V= .vec (q+off) k els/\J[q]? =some (.vec t k els.length)
theorem dZ(l:List Rw)(hne:0<l.length)(hl:l.length<=1099511627776)(h:Heap):ECall prog G0 246 [uN l] h fun p h'=>p= .ms h.length 0 2 l.length/\h'=h++[.var 159 (xI l)]:=by
 cases l with
 |nil=>cases hne
 |cons x l=>
  refine zbX (own:=true) func246 rfl Qf3 (show _=[uN (x::l),.ud,.ud,.ud,.ud,.ud,.ud,.ud] from rfl) ?_;have hl2:l.length+1<=1099511627776:=Qfu;have hl3:(l.length+1)*48<=140737488355328:=Qf0;have hl4:l.length<=140737488355327:=Qf0;refine gf (a4 @zhP @vX @hl3 @hl4) ?_;exact⟨rfl,rfl⟩
theorem fI(a:Int):rJ a a=0:=by simp[rJ]
theorem lP{α:Type}{f:α->α->Int}(hf: ∀x,f x x=0): ∀l:List α,vZ f l l=0
 | []=>rfl
 |x::l=>by simp[vZ,hf x,lP hf l]
theorem zd4(v:Vl):iU v v=0:=by simp[iU,fI,znM,lP (f:=bT) fun x=>fI _]
theorem zd5(l:List Vl):sD l l=0:=lP zd4 l
structure Rw.lt(r:Rw):Prop where
 al:r.args.length<=1048576
 a: ∀v∈r.args,v.s.size<=140737488355328
 w:r.w.length<=1048576
theorem Rw.lt.ok{r:Rw}(h:r.lt):r.ok:=⟨by have:=h.al;omega,h.a⟩
structure Rw.ls(r:Rw):Prop where
 al:r.args.length<=1048576
 a: ∀v∈r.args,v.s.size<=140737488355328
 w:r.w.length<=64
theorem Rw.ls.lt{r:Rw}(h:r.ls):r.lt:=⟨h.al,h.a,by have:=h.w;omega⟩
theorem Rw.ls.ok{r:Rw}(h:r.ls):r.ok:=h.lt.ok
theorem zaJ(f:Nat)(l:List Vl):zU (f+2) (pH l)=true:=by simp[zU,Jf]
theorem zlM(f:Nat)(l:List Sp):zU (f+2) (kJ l)=true:=by simp[zU,Jf]
theorem rE(f:Nat)(l:List Rw):zU (f+4) (uN l)=true:=by
 refine Qe6 ?_;intro x _ p hp;simp only[Rw.c,Qw,Zn,Kb] at hp;rcases hp with rfl|rfl
 ·exact zaJ (f+1) x.args
 ·exact zlM (f+1) x.w
theorem zi2(l:List Rw)(i:Nat)(h:i<l.length):((xI l).drop (i*2+1)).getD 0 .un=kJ l[i].w:=by
 induction l generalizing i with
 |nil=>cases h
 | cons x l ih=>
  cases i with
  |zero=>rfl
  |succ i=>
   rw[tR,show(i+1)*2+1=i*2+1+1+1 by omega,Wg,Wg,ih i Qfn];rfl
theorem zzW(l:List Rw)(i:Nat)(h:i<l.length):((xI l).drop (i*2)).getD 0 .un=pH l[i].args:=by
 exact Qbm
@[go_sem] def URel8f173.pl:Nat->DPlan
 |8=>⟨[yA,yA,yA,yA,yA,yA,yA,yA,yB,yA,yA,yA,yB,yC,yA,yA],xE,0⟩
 |_=>⟨[],[],0⟩
@[go_sem] def URel8f353.pl:Nat->DPlan
 |4=>⟨[yA,yA,yA,yA,yA,yA,yA,yA,yB,yA,yA,yA,yA,yB,yC,yA,yA],wR,0⟩
 |6=>⟨[yA,yA,yA,yA,yA,yA,yA,yA,yA,yB,yA,yA,yA,yB,yA,yC,yA,yC],yM,0⟩
 |_=>⟨[],[],0⟩
open URel8f353 in
theorem zdP(h:Heap):ECall prog G0 353 [.ts 2 [],i64 (0:Nat),i64 (0:Nat),kP] h fun _ h'=>h'=h:=by
 refine pv func353 53 false Qf3 rfl rfl ?_;refine g2 ?_;have hw:IntKind.i64.wrap (((0:Nat):Int)+1)=1:=Qgk;have hc: ¬((1:Int)<((0:Nat):Int)):=Qf0;refine gf @hw ?_;refine zW (K4 (K4 (.v:: .d:: .k:: .k::D9 (D9 (D9 (D9 (D4 (.d::[])))))))) (fun (_:Unit)=>[i64 1]) (fun _=>h) (fun _=>True) (fun _=>0) (own:=false) () rfl rfl trivial ?_;rintro _ _;refine gm ?_;refine gf @hc ?_;rfl
theorem aD(h:Heap):ECall prog G0 310 [.ts 2 [],i64 (0:Nat),kP] h fun _ h'=>h'=h:=by
 refine pv func310 63 false Qf3 rfl rfl ?_;refine g2 ?_;have hc: ¬((20:Int)<=((0:Nat):Int)):=Qf0;have zxI: ¬((20:Int)<((0:Nat):Int)):=Qf0;refine ge ?_;refine zW (K4 (.k:: .k:: .k:: .v:: .v:: .k:: .k::D9 (.d:: .d:: .d::K9 (K9 (K9 (K9 (K4 ([])))))))) (fun (_:Unit)=>[i64 (0:Nat),i64 20]) (fun _=>h) (fun _=>True) (fun _=>0) (own:=false) () rfl rfl trivial ?_;rintro _ _;refine gm ?_;refine gf @hc ?_;(refine g1 ?_;refine zC (zdP _) (yf0 ?_);intro p2 h2 hr2);subst hr2;refine ge ?_;refine zW (K4 (.k:: .k:: .v:: .d:: .d:: .d::K9 (K9 (D9 (D9 (D9 (D4 (D4 ([]))))))))) (fun (_:Unit)=>[i64 20]) (fun _=>h2) (fun _=>True) (fun _=>0) (own:=false) () rfl rfl trivial ?_;rintro _ _;refine gm ?_;refine gf @zxI ?_;rfl
theorem jC(h:Heap):ECall prog G0 247 [.ts 2 [],kP] h fun _ h'=>h'=h:=by
 refine pv func247 9 false Qf3 rfl rfl ?_;refine g2 ?_;refine ge ?_;(refine g1 ?_;refine zC (aD _) (yf0 ?_);intro p2 h2 hr2);subst hr2;refine ge ?_;rfl
open URel8f173 in
theorem gH:EPure prog G0 173 [uN []] fun p=>p=uN []:=by
 refine ECall.cutW (R:=fun p _=>p= .nil) (pv func173 60 false Qf3 rfl rfl ?_) (by rintro p h rfl;exact⟨uN [],by rw[iQ];exact PLe.nil_ts 2,rfl,by simp[xX]⟩);refine g2 ?_;refine ge ?_;(refine g1 ?_;refine zC ((zgC [] Qf1 rfl).call zK (by simp[xX]) _) (yf0 ?_);rintro p2 h2 ⟨rfl,rfl⟩);refine ge ?_;(refine g1 ?_;refine zC (jC _) (yf0 ?_);intro p2 h2 hr2);subst hr2;refine ge ?_;refine zW (K4 (.v:: .v:: .d:: .d::K4 (D9 (D9 (D9 (D9 (D9 (.d:: .d:: .k::[])))))))) (fun (_:Unit)=>[.nil,i64 0]) (fun _=>([]:Heap)) (fun _=>True) (fun _=>0) (own:=false) () rfl rfl trivial ?_;rintro _ _;refine gm ?_;have hc: ¬((0:Int)<((0:Nat):Int)):=Qf0;refine gf @hc ?_;rfl
def CanR(l o:List Rw):Prop:=o.length<=l.length/\ ∀x∈o,(∃y∈l,x.args=y.args)/\x.w.length<=64
@[go_sem] def URel9f245.pl:Nat->DPlan
 |3=>⟨[yB,yA,yB,yB,yA,yB,yC,yA],zqS,0⟩
 |9=>⟨[⟨1,0,[1004]⟩,yA,⟨1,0,[1004]⟩,⟨1,0,[1004]⟩,yA,⟨5,1004,[]⟩,yC],tV,0⟩
 |11=>⟨[⟨1,0,[1005]⟩,yA,⟨1,0,[1005]⟩,⟨1,0,[1005]⟩,yA,⟨5,1005,[]⟩,yC],tV,0⟩
 |_=>⟨[],[],0⟩
theorem wH(l:List Rw):List.take l.length (l.map Rw.c)=l.map Rw.c:=Yo Qf1
theorem tG(J:Heap)(a b:Blk):(J++[a,b])[J.length]? =some a:=Qf1
theorem wG(J:Heap)(a b:Blk):(J++[a,b])[J.length+1]? =some b:=Qf1
theorem set2(J:Heap)(a b c:Blk):(J++[a,b]).set J.length c=J++[c,b]:=Qf1
theorem wF(J:Heap)(a b c:Blk):(J++[a,b]).set (J.length+1) c=J++[a,c]:=Qf1
theorem zfL(a b:List Rw)(h:Heap):ECall prog G0 172 [uN a,uN b] h fun p h'=>p= .fn (.func 245) [] [.ptr h.length 0,.ptr (h.length+1) 0]/\h'=h++[.var 95 [uN a],.var 95 [uN b]]:=by
 refine pv func172 6 false Qf3 rfl rfl ?_;refine g2 ?_;refine ge ?_;exact⟨rfl,rfl⟩
@[go_sem] def URel12f80.pl:Nat->DPlan
 |4=>⟨[yA,yB,yA,yA,yA,yA,yA,yA,yB,yA,yA,yA,yA,yA,yB,yC,yA,yA,yA,yA,yA,yA,yA,yA,yA,yA,yB,yB,yC,yA,yA,yA],zrL,0⟩
 |9=>⟨[yA,yB,yA,yA,yA,yB,yA,yA,yB,yC,yA,yA],xF,0⟩
 |_=>⟨[],[],0⟩
@[go_sem] def UMonof296.pl:Nat->DPlan
 |11=>⟨[yA,yA,yA,yB,yA,yB,yA,yA,yA,yB,yA,yA,yA],yN,0⟩
 |_=>⟨[],[],0⟩
def ntz:List UInt8:=[8,0,1,0,2,0,1,0,3,0,1,0,2,0,1,0,4,0,1,0,2,0,1,0,3,0,1,0,2,0,1,0,5,0,1,0,2,0,1,0,3,0,1,0,2,0,1,0,4,0,1,0,2,0,1,0,3,0,1,0,2,0,1,0,6,0,1,0,2,0,1,0,3,0,1,0,2,0,1,0,4,0,1,0,2,0,1,0,3,0,1,0,2,0,1,0,5,0,1,0,2,0,1,0,3,0,1,0,2,0,1,0,4,0,1,0,2,0,1,0,3,0,1,0,2,0,1,0,7,0,1,0,2,0,1,0,3,0,1,0,2,0,1,0,4,0,1,0,2,0,1,0,3,0,1,0,2,0,1,0,5,0,1,0,2,0,1,0,3,0,1,0,2,0,1,0,4,0,1,0,2,0,1,0,3,0,1,0,2,0,1,0,6,0,1,0,2,0,1,0,3,0,1,0,2,0,1,0,4,0,1,0,2,0,1,0,3,0,1,0,2,0,1,0,5,0,1,0,2,0,1,0,3,0,1,0,2,0,1,0,4,0,1,0,2,0,1,0,3,0,1,0,2,0,1,0]
theorem zlV(m:Nat)(h:m<256)(h0:m≠0):2 ^ (ntz.toArray.getD m 0).toNat<=m:=by
 have e:((List.range 256).all fun m=>m==0||decide (2 ^ (ntz.toArray.getD m 0).toNat<=m))=true:=Qf3;rw[Xg] at e;have:=e m (Jm.2 h);simpa [h0] using this
theorem zlL(m:Nat)(h:m<256):EPure prog G0 350 [u8 m] fun p=> ∃k:Nat,p=i64 k/\(m≠0->2 ^ k<=m):=by
 refine ECall.pure (pv func350 6 false Qf3 rfl rfl ?_);refine g2 ?_;have h1:((m:Int)<256)=True:=Qfh;have h2:(0<=(m:Int))=True:=Qf1;refine gf (a2 @h1 @h2) ?_;refine wU ?_;intro sr hsr;have hs2:=hsr.symm.trans (show _=SR.val (.sc (.int .u8 (((ntz.toArray.getD m 0).toNat:Nat):Int))) [] (0<=(m:Int)/\(m:Int)<256) by kernel_rfl);clear hsr;subst hs2;refine zH Qf0 ?_;intro ts2 hts;simp only[zZ,Xn,Xl] at hts;subst hts;have hk:=zlV m h;have hk8:(ntz.toArray.getD m 0).toNat<256:=UInt8.toNat_lt _;generalize (ntz.toArray.getD m 0).toNat=k at*;have h5:(prog.underlying 5).isSome=true:=Qf3;have h6:IntKind.i64.wrap (k:Int)=k:=Qh8;refine gf (a2 @h5 @h6) ?_;exact⟨⟨⟨k,rfl,hk⟩,.sc⟩,rfl⟩
open UMonof296 in
theorem zi9(l:La)(hl:l.ok)(f:List Int)(ht:f.length<=1048576):EB 296 [.agg l.c,vF f]:=by
 refine ECall.cut (R:=fun p _=> ∃b:Bool,p=bo b) (pv func296 61 false Qf3 rfl rfl ?_) Qhl;refine g2 ?_;refine ge ?_;(refine g1 ?_;refine zC ((cX l hl).call zK Qfb _) (yf0 ?_);rintro p2 h2 ⟨⟨os,b,rfl,hos,hb⟩,rfl⟩);have ht8:=kK hos;have hdr:(os.map u8).drop 8=[]:=Zu (by simp[hos]);have Z:=(a3 @hos @hdr @ht8)
 cases b with
 |false=>
  refine zjA Z ?_;exact⟨_,rfl⟩
 | true=>
  obtain⟨hn1,hn8,hL⟩:=hb rfl;by_cases hlen:f.length=l.pw.length
  ·have hne:((f.length:Int)!=(l.pw.length:Int))=false:=by simp[hlen]
   refine zjA (a2 Z @hne) ?_;(refine g1 ?_;refine zC ((fB l hl f Qf0).call zK Qfb _) (yf0 ?_);rintro p2 h2 ⟨⟨b2,rfl,hin⟩,rfl⟩);cases b2 with
   |false=>
    refine ge ?_;exact⟨_,rfl⟩
   | true=>
    have hin:=hin rfl;have hat: ∀k (hk:k<f.length), ∃x:Nat,f[k]=x/\x<l.pw.length:=fun k hk=>by
     obtain⟨h1,h2⟩:=hin _ (Qc hk);exact⟨f[k].toNat,Qf0,Qf0⟩
    refine ge ?_;refine zO f.length (K4 (.d:: .k:: .k:: .d:: .d:: .d::K9 (K9 (K4 (.k:: .v::D9 (D9 (D9 ([])))))))) (own:=false) (fun i (_:Unit)=>[i64 i]) (fun _=>_) (fun _ _=>True) () rfl rfl trivial Qf0 ?_ ?_
    ·rintro _ _;refine gm ?_;refine gf @zM ?_;exact⟨_,rfl⟩
    ·rintro i _ hi hw _;refine gm ?_;have hi8:i<os.length:=Qf0;obtain⟨m,hm⟩:=Qm (hL.get i hi8).1;have hm2:m<2 ^ l.pw.length:=by have:=(hL.get i hi8).2;rw[hm] at this;exact_mod_cast this
     have hd:((os.map u8).drop i).getD 0 .un=u8 m:=by rw[yU u8 os i .un hi8,hm]
     refine gf (a7 @hi @hw @zB @hd @hi8 @ht8 @hos) ?_;refine zW (K4 (.d:: .k:: .k:: .k:: .v:: .d::K9 (K9 (K9 (.k:: .k::D9 (D9 (.d:: .d:: .d:: .k::[]))))))) (fun (m:Nat)=>[u8 m]) (fun _=>_) (fun m=>m<2 ^ l.pw.length) (fun m=>m) (own:=false) m rfl rfl hm2 ?_;rintro m hm2;refine gm ?_;have h8:2 ^ l.pw.length<=2 ^ 8:=Yy Qf2 hn8;by_cases hm0:m=0
     ·subst hm0;have h00:((((0:Nat):Int))!=0)=false:=rfl;refine gf (a2 @hw @h00) ?_;exact Qbu
     ·have hm0':((m:Int)!=0)=true:=by simp[hm0]
      refine gf (a2 @hm0' @hw) ?_;(refine g1 ?_;refine zC ((zlL m Qf0).call zK Qf1 _) (yf0 ?_);rintro p2 h2 ⟨⟨k,rfl,hk⟩,rfl⟩);have hkn:k<l.pw.length:=(Nat.pow_lt_pow_iff_right Qf2).1 (Wl (hk hm0) hm2);have hkf:k<f.length:=Qf0;obtain⟨x,hx,hxn⟩:=hat i hi;obtain⟨y,hy,hyn⟩:=hat k hkf;have hgx:(f.map fun n:Int=>[i64 n]).getD i []=[i64 x]:=by rw[zG [] hi,hx]
      have hgy:(f.map fun n:Int=>[i64 n]).getD k []=[i64 y]:=by rw[zG [] hkf,hy]
      have hx8:x<os.length:=Qf0;have hdx:=yU u8 os x .un hx8;have hand:bits BinOp.and IntKind.u8 (m:Int) (IntKind.u8.wrap ((m:Int)-1))=((m &&& (m-1):Nat):Int):=by
       rw[show IntKind.u8.wrap ((m:Int)-1)=((m-1:Nat):Int) by rw[IntKind.wrap_u8];omega];exact(bits_nat .u8 8 Qf2 wraps_u8 m (m-1) Qf0 Qf0).1
      have hless:m &&& (m-1)<m:=Wl Nat.and_le_right Qf0;(have F:=(a9 @hi @hkf @hw @zB @hgx @hgy @hdx @hx8 (a3 @ht8 @hos @hand));(repeat' (first|refine dR F ?_|refine dQ F (fun he=> ?_) (fun he=> ?_)|fail));all_goals clear F)
      ·exact⟨_,rfl⟩
      ·exact⟨m &&& (m-1),Qf0,hless,rfl,rfl,rfl⟩
  ·have hne:((f.length:Int)!=(l.pw.length:Int))=true:=Qfh;refine zjA (a2 Z @hne) ?_;exact⟨_,rfl⟩
@[go_sem] def UTyp5f223.pl:Nat->DPlan
 |4=>⟨[yA,yB,yA,yB,yA,yA,yB,yC,yA,yA,yA,yB,yA,yB,yA,yA,yB,yC,yA,yA],yfQ,0⟩
 |20=>⟨[yA,yA,yB,yA,yB,yA,yA,yB,yC,yA,yC,yA],xF,0⟩
 |_=>⟨[],[],0⟩
@[go_sem] def UTyp5f297.pl:Nat->DPlan
 |6=>⟨[yA,yB,yA,yA,yA,yA,yB,yA,yB,yA,yA,yB,yA,yA],wS,0⟩
 |_=>⟨[],[],0⟩
theorem dK{n:Nat}{h:Heap}(f:Nat)(cs:List PV):fz n h (f+1) (.tup cs)= .tup (cs.map (fz n h f)):=by simp only[fz]
theorem kX{n:Nat}{h:Heap}(f:Nat):fz n h (f+1) .nil= .nil:=by simp only[fz]
theorem zaW{n:Nat}{h:Heap}(f:Nat)(v:Value):fz n h (f+1) (.sc v)= .sc v:=by simp only[fz]
theorem zjJ{h:Heap}{q:Nat}{t:List Int}{e:Int}:fz 0 h 40 (.tup [.vec q 1 (t.map fun n=>[i64 n]),i64 e])= .tup [vF t,i64 e]:=by
 have h1:fz 0 h 39 (.vec q 1 (t.map fun n=>[i64 n]))=vF t:=by
  rw[pD (f:=38)];exact vE 0 h 39 _ (all_map fun _=>rfl)
 rw[dK 39,Xa,Xa,Wj,h1,zaW 38]
theorem zjK{h:Heap}{e:Int}:fz 0 h 40 (.tup [.nil,i64 e])= .tup [.nil,i64 e]:=by
 rw[dK 39,Xa,Xa,Wj,kX 38,zaW 38]
open UTyp5f297 in
theorem zcB(q:Pd)(l:List Tm)(hl:l.length<=140737488355328)(hq:q.types.length<=140737488355328):EI 297 [.agg q.c,zrX l] fun e=>e=0->l.length=q.types.length:=by
 refine ECall.cut (R:=fun p _=> ∃e:Int,p=i64 e/\(e=0->l.length=q.types.length)) (pv func297 35 false Qf3 rfl rfl ?_) (by rintro p h ⟨e,rfl,he⟩;exact⟨e,rfl,he⟩);refine g2 ?_;obtain⟨name,types,lat,of',base,key,at'⟩:=q;dsimp only at hq ⊢
 by_cases h1:l.length=types.length
 ·have e1:((l.length:Int)!=(types.length:Int))=false:=Qfa;refine gf @e1 ?_;refine zO l.length (K4 (.d:: .d:: .d::K4 (K4 (.v::D9 (D9 (.d::[])))))) (own:=false) (fun i (_:Heap)=>[i64 i]) (fun J=> .var 73 _::J) (fun _ _=>True) [] rfl rfl trivial hl ?_ ?_
  ·rintro J _;refine gm ?_;refine gf @zM ?_;exact⟨0,rfl,fun _=>h1⟩
  ·rintro i J hi hw _;refine gm ?_;have hx:=zG (f:=Tm.c) [] hi;have hit:i<types.length:=Qf0;have htj:=zG (f:=fun n:Int=>[i64 n]) [] hit;have F:=(a8 @hi @hx @hit @htj @zB @hw @zA @zX)
   generalize l[i]=x at*;obtain⟨v,⟨a,b,sx⟩⟩:=x;by_cases hv:v=eS
   ·subst hv;generalize types[i]=ty at*;by_cases hty:a=ty
    ·have e3:(a !=ty)=false:=Qfj;refine gf (a2 F @e3) ?_;exact Qd6
    ·have e3:(a !=ty)=true:=Qfj;refine gf (a2 F @e3) ?_;exact⟨72,rfl,fun h=>by omega⟩
   ·refine gf (a2 F @hv) ?_;exact Qd6
 ·have e1:((l.length:Int)!=(types.length:Int))=true:=Qfh;refine gf @e1 ?_;exact⟨71,rfl,Qf0⟩
open UTyp5f223 in
theorem ze6(l:La)(hl:l.ok)(hle:l.pw.length<=1048576)(f:Fu)(hf:f.ok)(hft:f.fr.length=f.to.length):EPure prog G0 223 [.agg l.c,.agg f.c] fun p=> ∃(t:List Int)(e:Int),p= .tup [vF t,i64 e]/\t.length<=1048576:=by
 refine ECall.cutW (R:=fun p _=> ∃(t:List Int)(e:Int)(q:Nat),t.length<=1048576/\(p= .tup [.nil,i64 e]/\t=[]\/p= .tup [.vec q 1 (t.map fun n=>[i64 n]),i64 e])) (pv func223 85 false Qf3 rfl rfl ?_) ?_;refine g2 ?_
 ·obtain⟨lname,pw,pJ,lat'⟩:=l;obtain⟨name,lat,of',fr,to,table,at'⟩:=f;obtain⟨hl1,hl2,hl3,hl4⟩:=hl;obtain⟨h1,h2,h3,h4,h5,h6,h7⟩:=hf;dsimp only at*;refine ge ?_;refine zO fr.length (K4 (.d:: .d:: .d::K9 (.v::D9 (D9 (D4 (.d::K9 (K9 (K9 (K9 (K9 ([]))))))))))) (own:=false) (fun i (_:Unit)=>[i64 i]) (fun _=>_) (fun _ _=>True) () rfl rfl trivial h3 ?_ ?_
  ·rintro _ _;refine gm ?_;refine gf @zM ?_;refine zO fr.length (K4 (.d:: .d:: .k:: .d:: .d::K9 (K9 (K9 (K4 (.k:: .k:: .k:: .v::D9 (.d:: .d::K9 (K9 (K9 (.k:: .k:: .k::[])))))))))) (own:=false) (fun i (_:Unit)=>[i64 i]) (fun _=>_) (fun _ _=>True) () rfl rfl trivial h3 ?_ ?_
   ·rintro _ _;refine gm ?_;refine gf @zM ?_;refine zO pw.length (K4 (.d:: .d:: .k:: .k:: .k:: .v:: .k:: .d:: .d::K9 (K9 (K9 (K9 (K9 (.v::D9 (D9 (.d:: .d:: .d::K4 (.k::[])))))))))) (own:=false) (fun i (s:PV×List Int×Heap)=>[s.1,i64 i]) (fun s=> .var 131 _:: .var 183 _::s.2.2) (fun i s=>s.2.1.length<=i/\GrowN 2 3 (s.2.1.map fun n=>[i64 n]) 1 s.2.2 s.1) (.nil,[],[]) rfl rfl ⟨Xe _,.inl ⟨rfl,rfl⟩⟩ Qf0 ?_ ?_
    ·rintro⟨V,tb,J⟩ ⟨htl,hG⟩ t ht;dsimp only at htl hG;simp only[zY] at ht;subst ht;refine gf @zM ?_;have hple:PLe V (vF tb):=by
      rcases hG with ⟨he,rfl⟩|⟨q,rfl,_⟩
      ·have:tb=[]:=Qg1;subst this;exact PLe.nil_ts 1
      ·exact PLe.vec_ts _ _ _
     have hmo:=zi9 ⟨lname,pw,pJ,lat'⟩ ⟨hl1,hl2,hl3,hl4⟩ tb Qf0;(refine g1 ?_;refine zC ((hmo.call zK Qfb _).args (.cons (PLe.refl _) (.cons hple .nil))) (yf0 ?_);rintro p2 h2 ⟨⟨b,rfl,_⟩,rfl⟩);cases b
     ·refine ge ?_;exact⟨[],31,0,Qf1,.inl ⟨rfl,rfl⟩⟩
     ·refine ge ?_;rcases hG with ⟨he,rfl⟩|⟨q,rfl,_⟩
      ·exact⟨[],0,0,Qf1,.inl ⟨rfl,rfl⟩⟩
      ·exact⟨tb,0,q+2,Qf0,.inr rfl⟩
    ·rintro i ⟨V,tb,J⟩ hi hw ⟨htl,hG⟩ t ht;dsimp only at htl hG;simp only[zY] at ht;subst ht;have hx:=zG (f:=fun s:BA=>[yQ s]) [] hi;refine gf (a4 @hi @hx @zB @hw) ?_;(refine g1 ?_;refine zC ((qH fr _ h3).call zK Qf1 _) (yf0 ?_);rintro p2 h2 ⟨⟨n,rfl,hn1,hn2⟩,rfl⟩);by_cases hn:n<0
     ·refine gf @hn ?_;exact⟨[],71,0,Qf1,.inl ⟨rfl,rfl⟩⟩
     ·obtain⟨m,rfl⟩:=Qm (by omega:0<=n);have hm:m<to.length:=Qf0;have hx2:=zG (f:=fun s:BA=>[yQ s]) [] hm;have hn': ¬((m:Int)<0):=hn;(repeat(first|refine gz ?_|(refine gn ?_;intro zs zh;(try simp only[go_sem,hn',hm,hx2,zB] at zh);subst zh;(first|refine gv ?_|((first|refine zC ((qH pw _ Qf0).call zK Qf1 _) ?_|refine zP Qf2 Qf2 ((qH pw _ Qf0).call zK Qf1 _) ?_);intro p2 h2 hr2;obtain⟨hr2,rfl⟩:=hr2;first|obtain⟨_,rfl,hr2⟩:=hr2|obtain⟨_,rfl⟩:=hr2|subst hr2|skip)))|refine yD UTyp5f223.pl ?_));rename_i w;rcases hG with ⟨he,rfl⟩|⟨q,rfl,hq⟩
      ·have htb:tb=[]:=Qg1;subst htb;refine gf @hw ?_;exact⟨(.vec (J.length+2) 1 [[i64 w]],[w],_),⟨by dsimp only;simp,.inr ⟨J.length,rfl,Qf1⟩⟩,rfl,rfl,rfl⟩
      ·have hqJ:q<J.length:=(gsi hq).1;simp only[Qr] at hq;refine gf (a2 @hw @hq) ?_;exact⟨(.vec (q+2) 1 ((tb.map fun n=>[i64 n])++[[i64 w]]),tb++[w],_),⟨by dsimp only;simp;omega,.inr ⟨q,by dsimp only;rw[Xq];rfl,by dsimp only;rw[Qh hqJ];simp⟩⟩,rfl,rfl,rfl⟩
   ·rintro i _ hi hw _;refine gm ?_;have hx:=zG (f:=fun s:BA=>[yQ s]) [] hi;(repeat' (first|refine gz ?_|(refine gn ?_;intro zs zh;(try simp only[go_sem,hi,hx,zB,hw,xO] at zh);subst zh;(first|refine gv ?_|((first|refine zC ((wC (fr.take i) _ Qfq).call zK Qf1 _) ?_|refine zP Qf2 Qf2 ((wC (fr.take i) _ Qfq).call zK Qf1 _) ?_);intro p2 h2 hr2;obtain⟨hr2,rfl⟩:=hr2;first|obtain⟨_,rfl,hr2⟩:=hr2|obtain⟨_,rfl⟩:=hr2|subst hr2|skip)|(refine yS (fun he=> ?_) (fun he=> ?_)<;>(try simp only[mM] at he))))|refine yD UTyp5f223.pl ?_|((with_reducible refine vY ?_);refine zN rfl rfl rfl ?_;intro sr hsr;simp only[sK,wP] at hsr;subst hsr;(fail_if_success(refine nx ?_));(refine iT (fun he=> ?_) (fun he=> ?_)<;>(intro ts2 hts;simp only[wP] at hts;subst hts;(try simp only[mM] at he))))|((with_reducible refine tO rfl ?_);intro sr hsr;simp only[sK,wP] at hsr;subst hsr;(fail_if_success(with_reducible(first|refine tL ?_|refine tN ?_)));refine tK (fun he=> ?_) (fun he=> ?_)<;>(intro ts2 hts;simp only[wP] at hts;subst hts;(try simp only[mM] at he)))|fail))
    ·exact⟨[],5,0,Qf1,.inl ⟨rfl,rfl⟩⟩
    ·exact Qbu
  ·rintro i _ hi hw _;refine gm ?_;have hx:=zG (f:=fun s:BA=>[yQ s]) [] hi;have hi2:i<to.length:=Qf0;have hx2:=zG (f:=fun s:BA=>[yQ s]) [] hi2;(repeat' (first|refine gz ?_|(refine gn ?_;intro zs zh;(try simp only[go_sem,hi,hx,hi2,hx2,zB,hw] at zh);subst zh;(first|refine gv ?_|((first|refine zC ((wC pw _ Qf0).call zK Qf1 _) ?_|refine zP Qf2 Qf2 ((wC pw _ Qf0).call zK Qf1 _) ?_);intro p2 h2 hr2;obtain⟨hr2,rfl⟩:=hr2;first|obtain⟨_,rfl,hr2⟩:=hr2|obtain⟨_,rfl⟩:=hr2|subst hr2|skip)|(refine yS (fun he=> ?_) (fun he=> ?_)<;>(try simp only[mM] at he))))|refine yD UTyp5f223.pl ?_|((with_reducible refine vY ?_);refine zN rfl rfl rfl ?_;intro sr hsr;simp only[sK,wP] at hsr;subst hsr;(fail_if_success(refine nx ?_));(refine iT (fun he=> ?_) (fun he=> ?_)<;>(intro ts2 hts;simp only[wP] at hts;subst hts;(try simp only[mM] at he))))|((with_reducible refine tO rfl ?_);intro sr hsr;simp only[sK,wP] at hsr;subst hsr;(fail_if_success(with_reducible(first|refine tL ?_|refine tN ?_)));refine tK (fun he=> ?_) (fun he=> ?_)<;>(intro ts2 hts;simp only[wP] at hts;subst hts;(try simp only[mM] at he)))|fail));all_goals first|exact⟨[],70,0,Qf1,.inl ⟨rfl,rfl⟩⟩|(refine⟨(),trivial,?_,?_,rfl⟩<;>simp only[zY,xJ,Xs])|trace_state
 ·rintro p h ⟨t,e,q,hlen,⟨rfl,rfl⟩|rfl⟩
  ·exact⟨.tup [vF [],i64 e],by rw[zjK];exact PLes.tup (.cons (PLe.nil_ts 1) (.cons (PLe.refl _) .nil)),⟨[],e,rfl,Qf1⟩,by simp[cI]⟩
  ·exact⟨.tup [vF t,i64 e],by rw[zjJ];exact PLe.refl _,⟨t,e,rfl,hlen⟩,by simp[cI]⟩
abbrev NM:Type:=List (Value×PV)
def NMap(es:NM)(n:Nat):Prop:= ∀x∈es,(∃s,x.1= .string s)/\ ∃i:Nat,x.2=i64 i/\i<n
theorem eG:kC prog 256=some (9,.string,3):=Qf3
theorem zh0:(prog.info? 3).bind (·.zero)=some (.int .i64 0):=Qf3
theorem NMap.all{es:NM}{n:Nat}(h:NMap es n):es.all (fun x=>pF .string x.1)=true:=by
 rw[Xg];intro x hx;obtain⟨⟨s,e⟩,_⟩:=h x hx;rw[e];rfl
theorem mQ{k:Value}: ∀{es:NM}{j i:Nat}{p:PV},vV k es j=some (i,p)-> ∃x∈es,x.2=p
 | [],_,_,_,h=>by cases h
 | x::es,j,i,p,h=>by
  unfold vV at h;split at h
  ·cases h;exact⟨x,Qe ..,rfl⟩
  ·obtain⟨y,hy,e⟩:=mQ h;exact⟨y,Qf _ hy,e⟩
theorem NMap.set{es:NM}{n i:Nat}{s:BA}(h:NMap es n)(hi:i<n):NMap (kO (.string s) (i64 i) es) n:=by
 unfold kO;split
 ·intro x hx;rcases Ze hx with hx|rfl
  ·exact h x hx
  ·exact⟨⟨s,rfl⟩,i,rfl,hi⟩
 ·intro x hx;rcases Qo.1 hx with hx|hx
  ·exact h x hx
  ·simp at hx;subst hx;exact⟨⟨s,rfl⟩,i,rfl,hi⟩
theorem NMap.mono{es:NM}{n m:Nat}(h:NMap es n)(k:n<=m):NMap es m:=fun x hx=>by
 obtain⟨a,i,e,hi⟩:=h x hx;exact⟨a,i,e,Qf0⟩
theorem zm1(s:BA):pF .string (.string s)=true:=rfl
theorem lC{h:Heap}{r:Nat}{es:NM}{s:BA}{j:Nat}{p:PV}(hr:h[r]? =some (.map es))(ha:es.all (fun x=>pF .string x.1)=true)(hm:vV (.string s) es 0=some (j,p)):xQ (α:=Prop) prog h 256 true (.mp r) (yQ s)=some (.tup [p,bo true],True):=by
 unfold xQ;rw[eG];simp only[oS,hr,zh0,zm1,ha,hm,Jl,Wk,vL]
theorem lD{h:Heap}{r:Nat}{es:NM}{s:BA}(hr:h[r]? =some (.map es))(ha:es.all (fun x=>pF .string x.1)=true)(hm:vV (.string s) es 0=none):xQ (α:=Prop) prog h 256 true (.mp r) (yQ s)=some (.tup [i64 0,bo false],True):=by
 unfold xQ;rw[eG];simp only[oS,hr,zh0,zm1,ha,hm,Jl,Wk,vL,nI,zeV,Zo,Wr,zhI,zhJ,Int.reduceLE,and_self]
theorem aS(h:Heap)(r:Nat)(es:NM)(n:Nat)(s:BA)(i e:Int)(hr:h[r]? =some (.map es))(hes:NMap es n):ECall prog G0 219 [.mp r,yQ s,i64 i,i64 e] h fun p h'=> ∃e':Int,p=i64 e'/\(h'=h\/h'=h.set r (.map (kO (.string s) (i64 i) es)))/\(e'=0->e=0):=by
 refine pv func219 22 false Qf3 rfl rfl ?_;refine g2 ?_;have ha:=hes.all;cases hm:vV (.string s) es 0 with
 |none=>
  have hlk:=lD hr ha hm;refine zjA (a5 @hlk @eG @hr @ha @zm1) ?_;exact⟨e,rfl,.inr rfl,id⟩
 |some x=>
  obtain⟨j,p⟩:=x;have hlk:=lC hr ha hm;refine gf @hlk ?_;exact⟨5,rfl,.inl rfl,fun h=>by omega⟩
theorem lE(h:Heap)(r:Nat)(es:NM)(n:Nat)(s:BA)(hr:h[r]? =some (.map es))(hes:NMap es n):ECall prog G0 222 [.mp r,yQ s] h fun p h'=> ∃i:Int,p=i64 i/\ -1<=i/\i<n/\h'=h:=by
 refine pv func222 15 false Qf3 rfl rfl ?_;refine g2 ?_;have ha:=hes.all;cases hm:vV (.string s) es 0 with
 |none=>
  have hlk:=lD hr ha hm;refine gf @hlk ?_;exact⟨-1,rfl,Qf0,Qf0,rfl⟩
 |some x=>
  obtain⟨j,p⟩:=x;have hlk:=lC hr ha hm;obtain⟨y,hy,rfl⟩:=mQ hm;obtain⟨_,i,e,hi⟩:=hes y hy;rw[e] at hlk;refine gf @hlk ?_;exact⟨i,rfl,Qf0,Qf0,rfl⟩
abbrev SH(b0 b1:Blk)(pc:List PV)(ml mf mp:NM)(L F P R Rep:PV)(J:Heap):Heap:=
 b0::b1:: .var 27 pc:: .map ml:: .map mf:: .map mp:: .var 258 [L,F,P,R,.mp 3,.mp 4,.mp 5,Rep]::J
abbrev iV(l:List (Int×Int)):List (List PV):=l.map fun d=>[i64 d.1,i64 d.2]
def Keep(J J':Heap):Prop:= ∀(r:Nat)(b:Blk),J[r]? =some b->(∀k n,b≠Blk.vec 253 k n)->J'[r]? =some b
theorem GrowN.app{off:Nat}{t:TypeId}{els:List (List PV)}{k:Nat}{J:Heap}{V:PV}(h:GrowN off t els k J V)(J':Heap):GrowN off t els k (J++J') V:=by
 rcases h with h|⟨q,h1,hq⟩
 ·exact .inl h
 ·exact Qdj
theorem Keep.app(J J':Heap):Keep J (J++J'):=fun r b h _=>by rw[Qg (gsi h).1];exact h
theorem Keep.refl(J:Heap):Keep J J:=fun _ _ h _=>h
theorem Keep.grow{J J':Heap}(h:Keep J J'){t:TypeId}{els:List (List PV)}{k:Nat}{V:PV}(ht:t≠253)(hG:GrowN 7 t els k J V):GrowN 7 t els k J' V:=by
 rcases hG with hG|⟨q,h1,hq⟩
 ·exact .inl hG
 ·exact .inr ⟨q,h1,h q _ hq (fun k n e=>by cases e;exact ht rfl)⟩
theorem zdD(b0 b1:Blk)(pc:List PV)(ml mf mp:NM)(L F P R Rep:PV)(J:Heap)(rp:List (Int×Int))(hrp:rp.length<=1048576)(hG:GrowN 7 253 (iV rp) 2 J Rep)(e at':Int):
  ECall prog G0 218 [.ptr 6 0,i64 e,i64 at'] (SH b0 b1 pc ml mf mp L F P R Rep J) fun _ h'=>(e=0/\h'=SH b0 b1 pc ml mf mp L F P R Rep J)\/(e≠0/\ ∃Rep' J',h'=SH b0 b1 pc ml mf mp L F P R Rep' J'/\GrowN 7 253 (iV (rp++[(e,at')])) 2 J' Rep'/\Keep J J'):=by
 refine pv func218 20 false Qf3 rfl rfl ?_;refine g2 ?_;by_cases he:e=0
 ·subst he;have hb:((0:Int)!=0)=false:=rfl;refine gf @hb ?_;exact .inl ⟨rfl,rfl⟩
 ·have hb:(e !=0)=true:=Qfe;rcases hG with ⟨h0,rfl⟩|⟨q,rfl,hq⟩
  ·have:rp=[]:=Qg5;subst this;refine gf @hb ?_;exact .inr ⟨he,_,_,rfl,.inr ⟨J.length,rfl,Qf1⟩,Keep.app _ _⟩
  ·have hqJ:q<J.length:=(gsi hq).1;simp only[Qr] at hq;refine gf (a2 @hb @hq) ?_;exact .inr ⟨he,_,_,rfl,.inr ⟨q,by rw[show iV (rp++[(e,at')])=iV rp++iV [(e,at')] from Xq];rfl,by rw[Qh hqJ];simp⟩,fun r b h hn=>by
    have:q≠r:=fun e=>by subst e;rw[hq] at h;cases h;exact hn _ _ rfl
    rw[Qd this];exact h⟩
def zoH(x:Int)(b:Nat):Bool:=bits BinOp.and IntKind.u8 (x / 2 ^ min b 8) 1==1
def zoA(x y:Int):Bool:=bits BinOp.andNot IntKind.u8 x y==0
def zrZ(c:Nat->Bool):Nat->Nat->Int
 |0,_=> -1
 |f+1,i=>if c i=true then i else zrZ c f (i+1)
theorem zeC{c:Nat->Bool}: ∀{i:Nat}(f i0:Nat),(∀j,i0<=j->j<i0+i->c j=false)->zrZ c (f+i) i0=zrZ c f (i0+i)
 |0,f,i0,_=>rfl
 |i+1,f,i0,h=>by
  have h0:=h i0 (Xe _) Qf0;rw[show f+(i+1)=(f+i)+1 by omega,zrZ,h0,Qi Qf1,zeC f (i0+1) fun j h1 h2=>h j Qf0 Qf0];congr 1;omega
theorem zoJ{c:Nat->Bool}: ∀{f i:Nat},(zrZ c f i= -1/\ ∀j,i<=j->j<i+f->c j=false)\/ ∃a:Nat,zrZ c f i=a/\i<=a/\a<i+f/\c a=true
 |0,i=> .inl ⟨rfl,fun j _ _=>by omega⟩
 | f+1,i=>by
  unfold zrZ;by_cases hc:c i=true
  ·rw[Qj hc];exact .inr ⟨i,rfl,Xe _,Qf0,hc⟩
  ·rw[Qi hc];rcases zoJ (c:=c) (f:=f) (i:=i+1) with ⟨h,k⟩|⟨a,h,h1,h2,h3⟩
   ·refine .inl ⟨h,fun j h1 h2=> ?_⟩;rcases Nat.eq_or_lt_of_le h1 with q|q
    ·subst q;simpa using hc
    ·exact k j q Qf0
   ·exact .inr ⟨a,h,Qf0,Qf0,h3⟩
def zqU(os:List Int)(set:Int)(a:Nat):Bool:=zoH set a&&zoA set (os.getD a 0)
def zrI(os:List Int)(set:Int)(n:Nat):Int:=zrZ (zqU os set) n 0
theorem zoT(os:List Int)(hos:os.length=8)(set:Int)(n:Nat)(hn:n<=8):EPure prog G0 205 [.agg (os.map u8),u8 set,i64 n] fun r=>r=i64 (zrI os set n):=by
 refine ECall.cut (R:=fun p _=>p=i64 (zrI os set n)) (pv func205 27 false Qf3 rfl rfl ?_) Qgi;refine g2 ?_;unfold zrI;refine ge ?_;refine zO n (K4 (.k:: .k:: .d:: .d:: .k:: .v::D9 (D4 (D4 ([]))))) (own:=false) (fun i (_:Unit)=>[i64 i]) (fun _=>_) (fun i _=> ∀j,0<=j->j<0+i->zqU os set j=false) () rfl rfl (fun j _ h=>by omega) Qf0 ?_ ?_
 ·rintro s hI;refine gm ?_;have:=zeC 0 0 hI;rw[Yd] at this;rw[this];exact Qd9
 ·rintro i _ hi hw hI;refine gm ?_;have h8:i<os.length:=Qf0;have hd:=yU u8 os i .un h8;have F:=(a5 @hi @hd @h8 @zB @hw)
  have hs:=zeC (n-i) 0 hI;rw[show n-i+i=n by omega,Yd,show n-i=(n-i-1)+1 by omega,zrZ] at hs;have hg:os.getD i 0=os[i]:=by rw[Qb,Qa h8];rfl
  have hle:zqU os set i=(zoH set i&&zoA set os[i]):=by unfold zqU;rw[hg]
  have next:zqU os set i=false-> ∀j,0<=j->j<0+(i+1)->zqU os set j=false:=fun q j h1 h2=>by
   rcases Xy j i with r|r
   ·exact hI j h1 Qf0
   ·exact Qbn
  unfold zoH zoA at hle;generalize os[i]=x at*;by_cases c1:bits BinOp.and IntKind.u8 (set / 2 ^ min i 8) 1=1
  ·have e1:(bits BinOp.and IntKind.u8 (set / 2 ^ min i 8) 1==1)=true:=by simp[c1]
   by_cases c2:bits BinOp.andNot IntKind.u8 set x=0
   ·have e2:(bits BinOp.andNot IntKind.u8 set x==0)=true:=by simp[c2]
    rw[e1,e2] at hle;rw[hs,hle];refine gf (a3 F @e1 @e2) ?_;rfl
   ·have e2:(bits BinOp.andNot IntKind.u8 set x==0)=false:=by simp[c2]
    rw[e1,e2] at hle;refine gf (a3 F @e1 @e2) ?_;exact⟨(),next hle,rfl,rfl,rfl⟩
  ·have e1:(bits BinOp.and IntKind.u8 (set / 2 ^ min i 8) 1==1)=false:=by simp[c1]
   rw[e1] at hle;refine gf (a2 F @e1) ?_;exact⟨(),next (by rw[hle];rfl),rfl,rfl,rfl⟩
theorem eB{x b:Nat}(hx:x<256)(hb:b<8):zoH x b=x.testBit b:=by
 unfold zoH;have e1:(x:Int) / 2 ^ min b 8=((x / 2 ^ b:Nat):Int):=by rw[Jx Qf0];norm_cast
 have hlt:x / 2 ^ b<256:=Wl (Nat.div_le_self _ _) hx;rw[e1,show(1:Int)=((1:Nat):Int) from rfl,u8_and_nat _ _ hlt Qf2,Nat.testBit_eq_decide_div_mod_eq,Nat.and_one_is_mod];by_cases h:x / 2 ^ b%2=1
 ·rw[h];simp
 ·rw[Zy h,We];omega
theorem znR{x y:Nat}(hx:x<256)(hy:y<256)(h:zoA x y=true){b:Nat}(hb:b<8)(hxb:x.testBit b=true):y.testBit b=true:=by
 unfold zoA at h;rw[u8_andNot_nat _ _ hx hy,Zm] at h;have h0:x &&& (255-y)=0:=by exact_mod_cast h
 have:=Ym (fun z=>z.testBit b) h0;simp only[Wu,Zx] at this;rw[hxb,Jk] at this;have e:255-y=2 ^ 8-(y+1):=Qf0;rw[e,Un Qf0] at this;simpa [hb] using this
theorem zpC{x:Nat}(hx:x<256):zoA x x=true:=by
 unfold zoA;rw[u8_andNot_nat _ _ hx hx,Zm];have:x &&& (255-x)=0:=Ja fun b=>by
  have e:255-x=2 ^ 8-(x+1):=Qf0;rw[Wu,e,Un Qf0];simp;exact fun h _=>h
 rw[this];rfl
@[go_sem] def ULat6f209.pl:Nat->DPlan
 |17=>⟨[yA,yB,yA,yB,yA,yB,yA,yA,yA,yC],xS,0⟩
 |26=>⟨[yB,yA,yA,yA,yA,yC,yA],tV,0⟩
 |34=>⟨[yA,yA,yA,yA,yA,yA,yB,yA,yA,yA,yA,yA,yA,yA,yA,yB,yA,yA,yA,yA,yA,yA,yB,yA,yA,yB,yA,yA,yB,yA,yA,yC,yA,yA],zrK,0⟩
 |_=>⟨[],[],0⟩
@[go_sem] def ULat6f276.pl:Nat->DPlan
 |8=>⟨[yA,yA,yB,yA,yA,yB,yA,yA,yC],uW,0⟩
 |_=>⟨[],[],0⟩
def Ref(n:Nat)(os:List Int):Prop:= ∀j,j<n->((os.getD j 0).toNat).testBit j=true
theorem Ref.zero{os:List Int}:Ref 0 os:=fun j h=>absurd h (Xt _)
def cD(n:Nat):Int:=IntKind.u8.wrap (IntKind.u8.wrap (1*2 ^ min n 8)-1)
def AntI(o:List Int)(a b:Nat):Prop:=a≠b-> ¬(zoH (o.getD a 0) b=true/\zoH (o.getD b 0) a=true)
def OrdOk(n:Nat)(o:List Int):Prop:=Low n o/\Ref n o/\0<=zrI o (cD n) n/\ ∀a b,a<n->b<n->AntI o a b
def CkX(l:La)(p:PV):Prop:= ∃(os:List Int)(e:Int),p= .tup [.agg (os.map u8),i64 e]/\os.length=8/\(e=0->1<=l.pw.length/\l.pw.length<=8/\OrdOk l.pw.length os)
theorem zoP{os:List Int}{j i:Nat}{v:Int}(hj:j<os.length):(os.set j v).getD i 0=if i=j then v else os.getD i 0:=by
 rw[Qb,Qb];by_cases h:i=j
 ·subst h;rw[Qj rfl,Qh hj];rfl
 ·rw[Qi h,Qd (Ne.symm h)]
theorem Ref.set{n m:Nat}{os:List Int}(h:Ref n os)(hm:m<=8){j:Nat}(hj:j<os.length){v:Int}(hx:0<=os[j]/\os[j]<2 ^ m)(hv:0<=v/\v<2 ^ m):Ref n (os.set j (bits BinOp.or IntKind.u8 os[j] v)):=fun i hi=>by
 rw[zoP hj];by_cases e:i=j
 ·subst e;rw[Qj rfl];have:=h i hi;have hg:os.getD i 0=os[i]:=by rw[Qb,Qa hj];rfl
  rw[hg] at this;generalize os[i]=x at*;obtain⟨a,rfl⟩:=Qm hx.1;obtain⟨b,rfl⟩:=Qm hv.1;have h8:2 ^ m<=2 ^ 8:=Yy Qf2 hm;have ha:a<2 ^ m:=by exact_mod_cast hx.2
  have hb:b<2 ^ m:=by exact_mod_cast hv.2
  rw[u8_or_nat a b Qf0 Qf0,Xw,Kf];rw[Xw] at this;rw[this];rfl
 ·rw[Qi e];exact h i hi
theorem Ref.bit{i:Nat}{os:List Int}(h:Ref i os)(h8:i<8)(hi:i<os.length):Ref (i+1) (os.set i (IntKind.u8.wrap (1*2 ^ min i 8))):=fun j hj=>by
 rw[zoP hi];by_cases e:j=i
 ·subst e;rw[Qj rfl];have hlt:2 ^ j<2 ^ 8:=Nat.pow_lt_pow_right Qf2 h8;have e1:IntKind.u8.wrap (1*2 ^ min j 8)=((2 ^ j:Nat):Int):=by
   rw[Jx Qf0,show(1:Int)*2 ^ j=((2 ^ j:Nat):Int) by simp];generalize 2 ^ j=x at*;rw[IntKind.wrap_u8];omega
  rw[e1,Xw];exact Nat.testBit_two_pow_self
 ·rw[Qi e];exact h j Qf0
open ULat6f276 in
theorem zp8(os:List Int)(hos:os.length=8)(n:Nat)(hn:n<=8):EPure prog G0 276 [.agg (os.map u8),i64 n] fun p=> ∃os':List Int,p= .agg (os'.map u8)/\os'.length=8/\(Low n os/\Ref n os->Low n os'/\Ref n os'):=by
 refine ECall.cut (R:=fun p _=> ∃os':List Int,p= .agg (os'.map u8)/\os'.length=8/\(Low n os/\Ref n os->Low n os'/\Ref n os')) (pv func276 33 false Qf3 rfl rfl ?_) ?_;refine g2 ?_
 ·refine ge ?_;refine zO n (K4 (.k:: .d:: .d:: .k:: .v::D9 (D9 (D4 (.d:: .k::[]))))) (own:=false) (fun i (_:List Int)=>[i64 i]) (fun s=>[.var 289 (s.map u8),_]) (fun _ s=>s.length=8/\(Low n os/\Ref n os->Low n s/\Ref n s)) os rfl rfl ⟨hos,id⟩ Qf0 ?_ ?_
  ·exact Qbv
  ·rintro i s hi hw hI;refine gm ?_;refine gf (a3 @hi @zB @hw) ?_;refine zO n (K4 (.k:: .k:: .d::K4 (.k:: .v::D9 (D9 (.k:: .k::[]))))) (own:=false) (fun i (_:List Int)=>[i64 i]) (fun s=>[.var 289 (s.map u8),_]) (fun _ s=>s.length=8/\(Low n os/\Ref n os->Low n s/\Ref n s)) s rfl rfl hI Qf0 ?_ ?_
   ·exact Qdf
   ·rintro j s hj zg1 hI;refine gm ?_;obtain⟨hI1,hI2⟩:=hI;have h8:i<s.length:=Qf0;have hj8:j<s.length:=Qf0;have hd:=yU u8 s i .un h8;have hd2:=yU u8 s j .un hj8;have hs: ∀v,(s.map u8).take j++u8 v::(s.map u8).drop (j+1)=(s.set j v).map u8:=fun v=>wY u8 s j v hj8;(repeat' (first|refine gz ?_|(refine gn ?_;intro zs zh;(try simp only[go_sem,hj,zB,zg1,hd,hd2,hs,h8,hj8,Nat.succ_le_of_lt] at zh);subst zh;(first|refine gv ?_|(refine yS (fun he=> ?_) (fun he=> ?_)<;>(try simp only[mM] at he))))|refine yD ULat6f276.pl ?_|((with_reducible refine vY ?_);refine zN rfl rfl rfl ?_;intro sr hsr;simp only[sK,wP] at hsr;subst hsr;(fail_if_success(refine nx ?_));(refine iT (fun he=> ?_) (fun he=> ?_)<;>(intro ts2 hts;simp only[wP] at hts;subst hts;(try simp only[mM] at he))))|((with_reducible refine tO rfl ?_);intro sr hsr;simp only[sK,wP] at hsr;subst hsr;(fail_if_success(with_reducible(first|refine tL ?_|refine tN ?_)));refine tK (fun he=> ?_) (fun he=> ?_)<;>(intro ts2 hts;simp only[wP] at hts;subst hts;(try simp only[mM] at he)))|fail))
    ·exact⟨_,⟨by simpa using hI1,fun hL=>⟨(hI2 hL).1.set _ (zhH hn ((hI2 hL).1.get j hj8) ((hI2 hL).1.get i h8)),(hI2 hL).2.set hn hj8 ((hI2 hL).1.get j hj8) ((hI2 hL).1.get i h8)⟩⟩,rfl,rfl,rfl⟩
    ·exact⟨s,⟨hI1,hI2⟩,rfl,rfl,rfl⟩
 ·exact Qed
open ULat6f209 in
theorem zrE(l:La)(hl:l.ok):EPure prog G0 209 [.agg l.c] (CkX l):=by
 obtain⟨hln,hle,hls,hlc⟩:=hl;refine ECall.cut (R:=fun p _=>CkX l p) (pv func209 159 false Qf3 rfl rfl ?_) ?_;refine g2 ?_
 ·(repeat' (first|refine gz ?_|(refine gn ?_;intro zs zh;(try simp only[go_sem] at zh);subst zh;(first|refine gv ?_|((first|refine zC ((qV _ hln).call zK Qf1 _) ?_|refine zP Qf2 Qf2 ((qV _ hln).call zK Qf1 _) ?_);intro p2 h2 hr2;obtain⟨hr2,rfl⟩:=hr2;first|obtain⟨_,rfl,hr2⟩:=hr2|obtain⟨_,rfl⟩:=hr2|subst hr2|skip)|(refine yS (fun he=> ?_) (fun he=> ?_)<;>(try simp only[mM] at he))))|refine yD ULat6f209.pl ?_|((with_reducible refine vY ?_);refine zN rfl rfl rfl ?_;intro sr hsr;simp only[sK,wP] at hsr;subst hsr;(fail_if_success(refine nx ?_));(refine iT (fun he=> ?_) (fun he=> ?_)<;>(intro ts2 hts;simp only[wP] at hts;subst hts;(try simp only[mM] at he))))|((with_reducible refine tO rfl ?_);intro sr hsr;simp only[sK,wP] at hsr;subst hsr;(fail_if_success(with_reducible(first|refine tL ?_|refine tN ?_)));refine tK (fun he=> ?_) (fun he=> ?_)<;>(intro ts2 hts;simp only[wP] at hts;subst hts;(try simp only[mM] at he)))|fail));all_goals try exact⟨[0,0,0,0,0,0,0,0],1,rfl,rfl,fun h=>by omega⟩
  refine zO l.pw.length (.k:: .k:: .k:: .d:: .k:: .k:: .d:: .d::K9 (K9 (K9 (K4 (.v::D9 (D4 (K9 (K9 (K9 (K9 (K9 (K9 (K9 (K9 (K9 (K9 (K9 (K4 (.k:: .k:: .k::[]))))))))))))))))))) (own:=false) (fun i (_:List Int)=>[i64 i]) (fun s=>[_,_,.var 289 (s.map u8)]) (fun i s=>s.length=8/\Low l.pw.length s/\Ref i s) [0,0,0,0,0,0,0,0] rfl rfl ⟨rfl,zfQ _,Ref.zero⟩ Qf0 ?_ ?_
  ·rintro s ⟨hs8,hsL,hsR⟩;refine gm ?_;refine gf @zM ?_;refine zO l.pJ.length (.k:: .k:: .k:: .d::K4 (.k:: .d::K9 (K9 (K9 (K9 (K9 (.k:: .v::D9 (D9 (D9 (.d:: .d::K9 (K9 (K9 (K9 (K9 (K9 (K9 (K9 (.k::[])))))))))))))))))) (own:=false) (fun i (_:List Int×Heap)=>[i64 i]) (fun s=>_::_:: .var 289 (s.1.map u8)::s.2) (fun _ s=>s.1.length=8/\Low l.pw.length s.1/\Ref l.pw.length s.1) (s,[]) rfl rfl ⟨hs8,hsL,hsR⟩ Qf0 ?_ ?_
   ·rintro⟨s,J⟩ ⟨hs8,hsL,hsR⟩;refine gm ?_;dsimp only at hs8 hsL hsR;refine gf @zM ?_;refine zO l.pw.length (.k:: .k:: .k:: .d::K4 (.k:: .k:: .d:: .d::K9 (K9 (K9 (K9 (K9 (K9 (K9 (K9 (K4 (.k:: .v::D9 (.d:: .d:: .d::K9 (K9 (K9 (K9 (K9 (K9 (.k:: .k:: .k::[])))))))))))))))))) (own:=false) (fun i (_:Unit)=>[i64 i]) (fun _=>_) (fun _ _=>True) () rfl rfl trivial Qf0 ?_ ?_
    ·rintro _ _;refine gm ?_;have ht8:=kK hs8;refine gf (a2 @zM @ht8) ?_;(refine g1f @ht8 ?_;refine zC ((zp8 s hs8 l.pw.length Qf0).call zK Qfd _) (yf0 ?_);rintro p2 h2 ⟨⟨o,rfl,ho,hoL⟩,rfl⟩);obtain⟨hoL,hoR⟩:=hoL ⟨hsL,hsR⟩;have hdr:(s.map u8).drop 8=[]:=Zu (by simp[hs8]);have ht9:=kK ho;have F:=(a3 @hdr @ho @ht9)
     have hle:=zoT o ho (cD l.pw.length) l.pw.length Qf0;unfold cD at hle;by_cases hb0:zrI o (cD l.pw.length) l.pw.length<0
     ·have e0:decide (zrI o (cD l.pw.length) l.pw.length<0)=true:=by simp[hb0]
      unfold cD at e0;refine zjA (a2 F @hs8) ?_;(refine yf1 (a2 @hdr @ht9) ?_;refine zP Qf2 Qf2 (hle.call zK Qfd _) (yf0 ?_);rintro p2 h2 ⟨rfl,rfl⟩);refine zjA (a3 F @hs8 @e0) ?_;exact⟨o,30,rfl,ho,fun h=>by omega⟩
     have e0:decide (zrI o (cD l.pw.length) l.pw.length<0)=false:=Qfh;unfold cD at e0;refine zjA (a2 F @hs8) ?_;(refine yf1 (a2 @hdr @ht9) ?_;refine zP Qf2 Qf2 (hle.call zK Qfd _) (yf0 ?_);rintro p2 h2 ⟨rfl,rfl⟩);refine zjA (a3 F @hs8 @e0) ?_;refine zO l.pw.length (.k:: .k:: .k:: .d::K4 (K4 (.d:: .d::K9 (K9 (K9 (K9 (K9 (K9 (K9 (K9 (K9 (K9 (K9 (.k:: .v::D9 (D9 (D9 (D9 (D4 (.d:: .d:: .d:: .k::[]))))))))))))))))))) (own:=false) (fun i (_:Unit)=>[i64 i]) (fun _=>_) (fun i _=> ∀a b,a<i->b<l.pw.length->AntI o a b) () rfl rfl (fun a b h=>absurd h (Xt _)) Qf0 ?_ ?_
     ·rintro _ hI;refine gm ?_;refine zjA (a2 F @zM) ?_;exact⟨o,0,rfl,ho,fun h=>⟨Qf0,Qf0,hoL,hoR,Qf0,hI⟩⟩
     ·rintro i _ hi hw hI;refine gm ?_;have hi8:i<o.length:=Qf0;have hdi:=yU u8 o i .un hi8;have hgi:o.getD i 0=o[i]:=by rw[Qb,Qa hi8];rfl
      refine gf (a2 @hi @hw) ?_;refine zO l.pw.length (.k:: .k:: .k:: .d::K9 (.d::K9 (K9 (K9 (K9 (K9 (K9 (K9 (K9 (K9 (K9 (K9 (K4 (.k:: .v::D9 (D9 (D9 (D9 (.d:: .d:: .k:: .k::[])))))))))))))))))) (own:=false) (fun i (_:Unit)=>[i64 i]) (fun _=>_) (fun j _=> ∀b,b<j->AntI o i b) () rfl rfl (fun b h=>absurd h (Xt _)) Qf0 ?_ ?_
      ·rintro _ hJ;refine gm ?_;refine gf (a2 @zM @hw) ?_;refine⟨(),fun a b ha hb=> ?_,rfl,rfl,rfl⟩;rcases Xy a i with q|q
       ·exact hI a b q hb
       ·have:a=i:=Qf0;subst this;exact hJ b hb
      ·rintro j _ hj zg1 hJ;refine gm ?_;have hj8:j<o.length:=Qf0;have hdj:=yU u8 o j .un hj8;have hgj:o.getD j 0=o[j]:=by rw[Qb,Qa hj8];rfl
       have next:AntI o i j-> ∀b,b<j+1->AntI o i b:=fun q b hb=>by
        rcases Xy b j with r|r
        ·exact hJ b r
        ·have:b=j:=Qf0;subst this;exact q
       have hant:AntI o i j↔(i≠j-> ¬(bits BinOp.and IntKind.u8 (o[i] / 2 ^ min j 8) 1=1/\bits BinOp.and IntKind.u8 (o[j] / 2 ^ min i 8) 1=1)):=by
        unfold AntI zoH;rw[hgi,hgj];simp
       rw[hant] at next
       (repeat' (first|refine gz ?_|(refine gn ?_;intro zs zh;(try simp only[go_sem,F,hj,zg1,Qr,hdi,hdj,zB] at zh);subst zh;(first|refine gv ?_|((first|refine zC ((oC o ho _ l.pw.length Qf0).call zK Qfd _) ?_|refine zP Qf2 Qf2 ((oC o ho _ l.pw.length Qf0).call zK Qfd _) ?_);intro p2 h2 hr2;obtain⟨hr2,rfl⟩:=hr2;first|obtain⟨_,rfl,hr2⟩:=hr2|obtain⟨_,rfl⟩:=hr2|subst hr2|skip)|(refine yS (fun he=> ?_) (fun he=> ?_)<;>(try simp only[mM] at he))))|refine yD ULat6f209.pl ?_|((with_reducible refine vY ?_);refine zN rfl rfl rfl ?_;intro sr hsr;simp only[sK,wP] at hsr;subst hsr;(fail_if_success(refine nx ?_));(refine iT (fun he=> ?_) (fun he=> ?_)<;>(intro ts2 hts;simp only[wP] at hts;subst hts;(try simp only[mM] at he))))|((with_reducible refine tO rfl ?_);intro sr hsr;simp only[sK,wP] at hsr;subst hsr;(fail_if_success(with_reducible(first|refine tL ?_|refine tN ?_)));refine tK (fun he=> ?_) (fun he=> ?_)<;>(intro ts2 hts;simp only[wP] at hts;subst hts;(try simp only[mM] at he)))|fail));all_goals first|exact⟨o,_,rfl,ho,fun h=>by omega⟩|exact⟨(),next (fun h1 h2=>by first|omega|(obtain⟨h3,h4⟩:=h2;first|contradiction|omega)),rfl,rfl,rfl⟩|trace_state
    ·rintro i _ hi hw _;refine gm ?_;have hx:=zG (f:=fun s:BA=>[yQ s]) [] hi;have ht8:=kK hs8;(repeat' (first|refine gz ?_|(refine gn ?_;intro zs zh;(try simp only[go_sem,hi,hx,zB,hw,ht8,hs8,Qr,xO] at zh);subst zh;(first|refine gv ?_|((first|refine zC ((wC (l.pw.take i) _ Qfq).call zK Qf1 _) ?_|refine zP Qf2 Qf2 ((wC (l.pw.take i) _ Qfq).call zK Qf1 _) ?_);intro p2 h2 hr2;obtain⟨hr2,rfl⟩:=hr2;first|obtain⟨_,rfl,hr2⟩:=hr2|obtain⟨_,rfl⟩:=hr2|subst hr2|skip)|(refine yS (fun he=> ?_) (fun he=> ?_)<;>(try simp only[mM] at he))))|refine yD ULat6f209.pl ?_|((with_reducible refine vY ?_);refine zN rfl rfl rfl ?_;intro sr hsr;simp only[sK,wP] at hsr;subst hsr;(fail_if_success(refine nx ?_));(refine iT (fun he=> ?_) (fun he=> ?_)<;>(intro ts2 hts;simp only[wP] at hts;subst hts;(try simp only[mM] at he))))|((with_reducible refine tO rfl ?_);intro sr hsr;simp only[sK,wP] at hsr;subst hsr;(fail_if_success(with_reducible(first|refine tL ?_|refine tN ?_)));refine tK (fun he=> ?_) (fun he=> ?_)<;>(intro ts2 hts;simp only[wP] at hts;subst hts;(try simp only[mM] at he)))|fail));all_goals first|exact⟨s,_,rfl,hs8,fun h=>by omega⟩|(refine⟨(),trivial,?_,?_,rfl⟩<;>simp only[zY,xJ,Xs])|trace_state
   ·rintro i ⟨s,J⟩ hi hw ⟨hs8,hsL,hsR⟩;refine gm ?_;dsimp only at hs8 hsL hsR;have ht8:=kK hs8;by_cases hc:0<=l.pJ[i].1/\0<=l.pJ[i].2/\l.pJ[i].1<l.pw.length/\l.pJ[i].2<l.pw.length
    ·obtain⟨c1,c2,c3,c4⟩:=hc;obtain⟨a,ha⟩:=Qm c1;obtain⟨b,hb⟩:=Qm c2;have hx:(l.pJ.map fun c=>[i64 c.1,i64 c.2]).getD i []=[i64 a,i64 b]:=by rw[zG [] hi,ha,hb]
     rw[ha] at c3;rw[hb] at c4;have ha8:a<s.length:=Qf0;have hd:=yU u8 s a .un ha8;have hsp:=zbD ha8;(repeat' (first|refine gz ?_|(refine gn ?_;intro zs zh;(try simp only[go_sem,hi,hx,zB,hw,ht8,hs8,Qr,hd,hsp,zA,zX] at zh);subst zh;(first|refine gv ?_|(refine yS (fun he=> ?_) (fun he=> ?_)<;>(try simp only[mM] at he))))|refine yD ULat6f209.pl ?_|((with_reducible refine vY ?_);refine zN rfl rfl rfl ?_;intro sr hsr;simp only[sK,wP] at hsr;subst hsr;(fail_if_success(refine nx ?_));(refine iT (fun he=> ?_) (fun he=> ?_)<;>(intro ts2 hts;simp only[wP] at hts;subst hts;(try simp only[mM] at he))))|((with_reducible refine tO rfl ?_);intro sr hsr;simp only[sK,wP] at hsr;subst hsr;(fail_if_success(with_reducible(first|refine tL ?_|refine tN ?_)));refine tK (fun he=> ?_) (fun he=> ?_)<;>(intro ts2 hts;simp only[wP] at hts;subst hts;(try simp only[mM] at he)))|fail));all_goals first|exact⟨s,1,rfl,hs8,fun h=>by omega⟩|exact⟨(_,_),⟨by simpa using hs8,hsL.set _ (zhH Qf0 (hsL.get a ha8) (zbP Qf0 Qf0)),hsR.set Qf0 ha8 (hsL.get a ha8) (zbP Qf0 Qf0)⟩,rfl,rfl,rfl⟩|(exfalso;omega)|(exfalso;split at* <;>omega)
    ·have hx:(l.pJ.map fun c=>[i64 c.1,i64 c.2]).getD i []=[i64 l.pJ[i].1,i64 l.pJ[i].2]:=by rw[zG [] hi]
     generalize l.pJ[i].1=a at*;generalize l.pJ[i].2=b at*;(repeat' (first|refine gz ?_|(refine gn ?_;intro zs zh;(try simp only[go_sem,hi,hx,zB,hw,ht8,hs8,Qr,zA,zX] at zh);subst zh;(first|refine gv ?_|(refine yS (fun he=> ?_) (fun he=> ?_)<;>(try simp only[mM] at he))))|refine yD ULat6f209.pl ?_|((with_reducible refine vY ?_);refine zN rfl rfl rfl ?_;intro sr hsr;simp only[sK,wP] at hsr;subst hsr;(fail_if_success(refine nx ?_));(refine iT (fun he=> ?_) (fun he=> ?_)<;>(intro ts2 hts;simp only[wP] at hts;subst hts;(try simp only[mM] at he))))|((with_reducible refine tO rfl ?_);intro sr hsr;simp only[sK,wP] at hsr;subst hsr;(fail_if_success(with_reducible(first|refine tL ?_|refine tN ?_)));refine tK (fun he=> ?_) (fun he=> ?_)<;>(intro ts2 hts;simp only[wP] at hts;subst hts;(try simp only[mM] at he)))|fail));all_goals first|exact⟨s,1,rfl,hs8,fun h=>by omega⟩|exact⟨(_,_),by simpa using hs8,rfl,rfl,rfl⟩|(exfalso;omega)|(exfalso;split at* <;>omega)
  ·rintro i s hi hw ⟨hs8,hsL,hsR⟩;refine gm ?_;have hx:=zG (f:=fun s:BA=>[yQ s]) [] hi;have ht8:=kK hs8;have hi8:i<s.length:=Qf0;have hsp:=zbD hi8;(repeat' (first|refine gz ?_|(refine gn ?_;intro zs zh;(try simp only[go_sem,hi,hx,zB,hw,ht8,hs8,Qr,hsp] at zh);subst zh;(first|refine gv ?_|((first|refine zC ((qV _ (hls _ (Qc hi))).call zK Qf1 _) ?_|refine zP Qf2 Qf2 ((qV _ (hls _ (Qc hi))).call zK Qf1 _) ?_);intro p2 h2 hr2;obtain⟨hr2,rfl⟩:=hr2;first|obtain⟨_,rfl,hr2⟩:=hr2|obtain⟨_,rfl⟩:=hr2|subst hr2|skip)|(refine yS (fun he=> ?_) (fun he=> ?_)<;>(try simp only[mM] at he))))|refine yD ULat6f209.pl ?_|((with_reducible refine vY ?_);refine zN rfl rfl rfl ?_;intro sr hsr;simp only[sK,wP] at hsr;subst hsr;(fail_if_success(refine nx ?_));(refine iT (fun he=> ?_) (fun he=> ?_)<;>(intro ts2 hts;simp only[wP] at hts;subst hts;(try simp only[mM] at he))))|((with_reducible refine tO rfl ?_);intro sr hsr;simp only[sK,wP] at hsr;subst hsr;(fail_if_success(with_reducible(first|refine tL ?_|refine tN ?_)));refine tK (fun he=> ?_) (fun he=> ?_)<;>(intro ts2 hts;simp only[wP] at hts;subst hts;(try simp only[mM] at he)))|fail))
   ·exact⟨s,1,rfl,hs8,fun h=>by omega⟩
   ·exact⟨_,⟨by simpa using hs8,hsL.set _ (zbP Qf0 Qf0),hsR.bit Qf0 hi8⟩,rfl,rfl,rfl⟩
 ·exact Qc2
noncomputable def zpR(P:Prop):Bool:= @decide P (Classical.propDecidable P)
noncomputable def jT(l:La):List Int×Int:=open Classical in if h: ∃r:List Int×Int,EPure prog G0 209 [.agg l.c] (fun p=>p= .tup [.agg (r.1.map u8),i64 r.2])/\r.1.length=8/\(r.2=0->1<=l.pw.length/\l.pw.length<=8/\OrdOk l.pw.length r.1) then Classical.choose h else([],0)
theorem zbQ(l:La)(hl:l.ok):EPure prog G0 209 [.agg l.c] (fun p=>p= .tup [.agg ((jT l).1.map u8),i64 (jT l).2])/\(jT l).1.length=8/\((jT l).2=0->1<=l.pw.length/\l.pw.length<=8/\OrdOk l.pw.length (jT l).1):=by
 have h: ∃r:List Int×Int,EPure prog G0 209 [.agg l.c] (fun p=>p= .tup [.agg (r.1.map u8),i64 r.2])/\r.1.length=8/\(r.2=0->1<=l.pw.length/\l.pw.length<=8/\OrdOk l.pw.length r.1):=by
  obtain⟨p,⟨os,e,rfl,h1,h2⟩,k1,k2⟩:=zrE l hl;exact⟨(os,e),⟨_,rfl,k1,k2⟩,h1,h2⟩
 unfold jT;rw[dif_pos h];exact Classical.choose_spec h
noncomputable def uE(l:La):Int:=(jT l).2
theorem zjV(l:La)(hl:l.ok):EPure prog G0 161 [.agg l.c] (fun p=>p=i64 (uE l))/\(uE l=0->1<=l.pw.length/\l.pw.length<=8):=by
 obtain⟨h1,h2,h3⟩:=zbQ l hl;refine⟨?_,fun h=>⟨(h3 h).1,(h3 h).2.1⟩⟩;refine ECall.cut (R:=fun p _=>p=i64 (uE l)) (pv func161 11 false Qf3 rfl rfl ?_) Qgi;refine g2 ?_;unfold uE;generalize jT l=o at*;obtain⟨os,e⟩:=o;dsimp only at*;refine ge ?_;(refine g1 ?_;refine zC (h1.call zK Qfb _) (yf0 ?_);rintro p2 h2 ⟨rfl,rfl⟩);refine zjA @h2 ?_;rfl
theorem zq6(l:La)(hl:l.ok):EPure prog G0 203 [.agg l.c] fun p=>p= .tup [.agg ((jT l).1.map u8),bo (uE l==0)]:=by
 obtain⟨h1,h2,h3⟩:=zbQ l hl;refine ECall.cut (R:=fun p _=>p= .tup [.agg ((jT l).1.map u8),bo (uE l==0)]) (pv func203 13 false Qf3 rfl rfl ?_) (by rintro p h rfl;exact vE _ _ _ _ (by simp[zU]));refine g2 ?_;unfold uE;generalize jT l=o at*;obtain⟨os,e⟩:=o;dsimp only at*;have ht8:=kK h2;have hdr:(os.map u8).drop 8=[]:=Zu Qff;refine ge ?_;(refine g1 ?_;refine zC (h1.call zK Qfb _) (yf0 ?_);rintro p2 h2 ⟨rfl,rfl⟩);refine zjA (a3 @ht8 @hdr @h2) ?_;rfl
def zr0(l:La)(xs:List Int):Prop:= ∀x∈xs,0<=x/\x<(l.pw.length:Int)
theorem zp1(l:La)(hl:l.ok)(xs:List Int)(hx:xs.length<=140737488355328):EPure prog G0 204 [.agg l.c,vF xs] fun v=>v=bo (zpR (zr0 l xs)):=by
 refine ECall.cut (R:=fun v _=>v=bo (zpR (zr0 l xs))) (pv func204 23 false Qf3 rfl rfl ?_) Qgi;refine g2 ?_;refine ge ?_;refine zO xs.length (K4 (.d:: .k:: .d:: .k:: .k:: .v::D9 (D4 ([])))) (own:=false) (fun i (_:Unit)=>[i64 i]) (fun _=>_) (fun i _=> ∀j (h:j<i) (h2:j<xs.length),0<=xs[j]/\xs[j]<l.pw.length) () rfl rfl (by intro j h;omega) hx ?_ ?_
 ·rintro _ hI;refine gm ?_;have hin:zr0 l xs:=fun x hx=>by
   obtain⟨j,hj,rfl⟩:=Qy hx;exact hI j hj hj
  have e:zpR (zr0 l xs)=true:= @decide_eq_true _ (Classical.propDecidable _) hin;rw[e];exact Qd9
 ·rintro i _ hi hw hI;refine gm ?_;have hg:=zG (f:=fun n:Int=>[i64 n]) [] hi;have F:=(a4 @hi @hw @hg @zB)
  have no: ¬(0<=xs[i]/\xs[i]<l.pw.length)->zpR (zr0 l xs)=false:=fun h=> @decide_eq_false _ (Classical.propDecidable _) fun k=>h (k _ (Qc hi));have next:(0<=xs[i]/\xs[i]<l.pw.length)-> ∀j (h:j<i+1) (h2:j<xs.length),0<=xs[j]/\xs[j]<l.pw.length:=fun q j hj h2=>by
   rcases Xy j i with h|h
   ·exact hI j h h2
   ·exact Qbn
  clear hI;generalize xs[i]=x at*;by_cases c1:x<0
  ·have e1:decide (x<0)=true:=by simp[c1]
   rw[no Qf0];refine gf (a2 F @e1) ?_;rfl
  ·have e1:decide (x<0)=false:=by simp[c1]
   by_cases c2:(l.pw.length:Int)<=x
   ·have e2:decide ((l.pw.length:Int)<=x)=true:=by simp[c2]
    rw[no Qf0];refine gf (a3 F @e1 @e2) ?_;rfl
   ·have e2:decide ((l.pw.length:Int)<=x)=false:=by simp[c2]
    refine gf (a3 F @e1 @e2) ?_;exact⟨(),next Qf0,rfl,rfl,rfl⟩
def upF(o:List Int)(n:Nat)(xs:List Int):Int:=xs.foldl (fun u x=>bits BinOp.and IntKind.u8 u (o.getD x.toNat 0)) (cD n)
noncomputable def zo6(l:La)(xs:List Int):Int:=open Classical in if uE l=0/\zr0 l xs then zrI (jT l).1 (upF (jT l).1 l.pw.length xs) l.pw.length else -1
theorem zrJ(l:La)(hl:l.ok)(xs:List Int)(hx:xs.length<=140737488355328):EPure prog G0 154 [.agg l.c,vF xs] fun v=>v=i64 (zo6 l xs):=by
 refine ECall.cut (R:=fun v _=>v=i64 (zo6 l xs)) (pv func154 46 false Qf3 rfl rfl ?_) Qgi;refine g2 ?_;have hof:=zq6 l hl;have hck:=zjV l hl;obtain⟨-,hos, -⟩:=zbQ l hl;obtain⟨os,hoe⟩: ∃os,(jT l).1=os:=⟨_,rfl⟩
 unfold zo6;rw[hoe] at hos hof ⊢
 have ht8:=kK hos;have hdr:(os.map u8).drop 8=[]:=Zu (by simp[hos]);refine ge ?_;(refine g1 ?_;refine zC (hof.call zK Qfb _) (yf0 ?_);rintro p2 h2 ⟨rfl,rfl⟩);by_cases hc:uE l=0
 case neg=>
  rw[We.2 hc,Qi (fun k=>hc k.1)];refine zjA (a2 @hos @hdr) ?_;rfl
 rw[Zm.2 hc];obtain⟨hn1,hn8⟩:=hck.2 hc;refine zjA (a2 @hos @hdr) ?_;(refine g1 ?_;refine zC ((zp1 l hl xs hx).call zK Qfb _) (yf0 ?_);rintro p2 h2 ⟨rfl,rfl⟩);by_cases hin:zr0 l xs
 case neg=>
  have e:zpR (zr0 l xs)=false:= @decide_eq_false _ (Classical.propDecidable _) hin;rw[e,Qi (fun k=>hin k.2)];refine ge ?_;rfl
 have e:zpR (zr0 l xs)=true:= @decide_eq_true _ (Classical.propDecidable _) hin;rw[e,Qj ⟨hc,hin⟩];refine ge ?_;refine zO xs.length (K4 (.k:: .k:: .k:: .v:: .k:: .d::K9 (K9 (.k:: .k:: .v::D9 (K4 (.k:: .k::[])))))) (own:=false) (fun i (u:Int)=>[u8 u,i64 i]) (fun _=>_) (fun i u=>u=upF os l.pw.length (xs.take i)) _ rfl rfl rfl hx ?_ ?_
 ·rintro u rfl;refine gm ?_;rw[Yt];refine gf (a2 @zM @ht8) ?_;(refine g1f @ht8 ?_;refine zC ((zoT os hos _ l.pw.length hn8).call zK Qfd _) (yf0 ?_);rintro p2 h2 ⟨rfl,rfl⟩);refine ge ?_;rfl
 ·rintro i u hi hw hI;refine gm ?_;obtain⟨h1,h2⟩:=hin _ (Qc hi);obtain⟨m,hm⟩:=Qm h1;have hg:(xs.map fun n:Int=>[i64 n]).getD i []=[i64 m]:=by rw[zG [] hi,hm]
  have hm8:m<os.length:=Qf0;have hd:=yU u8 os m .un hm8;have hgm:os.getD m 0=os[m]:=by rw[Qb,Qa hm8];rfl
  have hst:upF os l.pw.length (xs.take (i+1))=bits BinOp.and IntKind.u8 u os[m]:=by
   unfold upF at hI ⊢
   rw[Xh hi,Jn,<-hI,Yw,Ks,hm,Xw,hgm]
  refine gf (a5 @hi @hw @hg @zB @hd) ?_;exact⟨_,hst.symm,rfl,rfl,rfl⟩
noncomputable def oU(l:La):Int:=zo6 l []
noncomputable def zpP(l:La)(a b:Int):Int:=zo6 l [a,b]
theorem zj7(l:La)(hl:l.ok):EPure prog G0 86 [.agg l.c] fun p=>p=i64 (oU l):=by
 refine ECall.cut (R:=fun v _=>v=i64 (oU l)) (pv func86 5 false Qf3 rfl rfl ?_) Qgi;refine g2 ?_;refine ge ?_;(refine g1 ?_;refine zC (((zrJ l hl [] Qf1).args (.cons (PLe.refl _) (.cons (PLe.nil_ts 1) .nil))).call zK (by simp[zJ,cJ]) _) (yf0 ?_);rintro p2 h2 ⟨rfl,rfl⟩);refine ge ?_;rfl
theorem zrU(l:La)(hl:l.ok)(a b:Int):EPure prog G0 273 [.agg l.c,i64 a,i64 b] fun p=>p=i64 (zpP l a b):=by
 refine ECall.cut (R:=fun v _=>v=i64 (zpP l a b)) (pv func273 12 false Qf3 rfl rfl ?_) Qgi;refine g2 ?_;refine ge ?_;(refine g1 ?_;refine zC (((zrJ l hl [a,b] Qf1).args (.cons (PLe.refl _) (.cons (PLe.tc_ts 1 _) .nil))).call zK (by simp[zJ,oM]) _) (yf0 ?_);rintro p2 h2 ⟨rfl,rfl⟩);refine ge ?_;rfl
theorem zp5{n:Nat}(h1:1<=n)(h:n<=8):cD n=((2 ^ n-1:Nat):Int):=by
 unfold cD
 match n,h1,h with
 |1,_,_=>decide
 |2,_,_=>decide
 |3,_,_=>decide
 |4,_,_=>decide
 |5,_,_=>decide
 |6,_,_=>decide
 |7,_,_=>decide
 |8,_,_=>decide
theorem Low.nat{n:Nat}(hn:n<=8){o:List Int}(h:Low n o)(hl:o.length=8){i:Nat}(hi:i<8): ∃x:Nat,o.getD i 0=x/\x<2 ^ n/\x<256:=by
 have hg:o.getD i 0=o[i]:=by rw[Qb,Qa Qf0];rfl
 obtain⟨h1,h2⟩:=h _ (Qc (show i<o.length by omega));obtain⟨x,hx⟩:=Qm h1;have h8:2 ^ n<=2 ^ 8:=Yy Qf2 hn;rw[hx] at h2;have h3:x<2 ^ n:=by exact_mod_cast h2
 exact⟨x,by rw[hg,hx],h3,Qf0⟩
theorem zqB(l:La)(hl:l.ok)(hc:uE l=0):(0<=oU l/\oU l<(l.pw.length:Int))/\ ∀e:Int,0<=e->e<(l.pw.length:Int)->zpP l (oU l) e=e:=by
 obtain⟨-,hos,h3⟩:=zbQ l hl;obtain⟨hn1,hn8,hL,hR,h0,hA⟩:=h3 hc;have hbe:oU l=zrI (jT l).1 (cD l.pw.length) l.pw.length:=by
  unfold oU zo6;rw[Qj ⟨hc,by intro x hx;cases hx⟩];rfl
 rw[<-hbe] at h0;have hb: ∃bt:Nat,oU l=bt/\bt<l.pw.length/\zqU (jT l).1 (cD l.pw.length) bt=true:=by
  rcases zoJ (c:=zqU (jT l).1 (cD l.pw.length)) (f:=l.pw.length) (i:=0) with ⟨q,_⟩|⟨a,q,_,q2,q3⟩
  ·exfalso;rw[hbe] at h0;unfold zrI at h0;omega
  ·exact⟨a,by rw[hbe];exact q,Qf0,q3⟩
 obtain⟨bt,hb1,hb2,hb3⟩:=hb;refine⟨Qf0,fun e he1 he2=> ?_⟩;obtain⟨k,rfl⟩:=Qm he1;have hk:k<l.pw.length:=Qf0;obtain⟨o,ho⟩: ∃o,(jT l).1=o:=⟨_,rfl⟩
 obtain⟨n,hn⟩: ∃n,l.pw.length=n:=⟨_,rfl⟩
 have hj:zpP l (oU l) (k:Int)=zrI o (upF o n [oU l,(k:Int)]) n:=by
  unfold zpP zo6;rw[Qj ⟨hc,fun x hx=>by
   simp only[Qw,Zn,Kb] at hx;rcases hx with rfl|rfl<;>omega⟩,ho,hn]
 rw[ho,hn] at hb3;rw[hn] at hb2 hk hn1 hn8;rw[ho,hn] at hL hR hA;rw[ho] at hos;obtain⟨x,hx,hx1,hx2⟩:=hL.nat hn8 hos (show bt<8 by omega);obtain⟨y,hy,hy1,hy2⟩:=hL.nat hn8 hos (show k<8 by omega);have hful:=zp5 hn1 hn8;have hfl:(2 ^ n-1:Nat)<256:=by
  have:2 ^ n<=2 ^ 8:=Yy Qf2 hn8;have:=Wa n;omega
 have hup:upF o n [oU l,(k:Int)]=(y:Int):=by
  unfold upF;simp only[Yw,Ks];rw[hb1,Xw,Xw,hx,hy,hful,u8_and_nat _ _ hfl hx2,u8_and_nat _ _ (Wl Nat.and_le_left hfl) hy2];congr 1;refine Ja fun b=> ?_;rw[Wu,Wu,Kj];cases hyb:y.testBit b with
  |false=>simp
  | true=>
   have hbn:b<n:=by
    rcases Xy b n with q|q
    ·exact q
    ·rw[Jp (Yf hy1 (Yy Qf2 q))] at hyb;cases hyb
   have hsub:zoA (cD n) (o.getD bt 0)=true:=by
    unfold zqU at hb3;exact(Qt _ _▸hb3).2
   rw[hful,hx] at hsub;have hxb:=znR hfl hx2 hsub (show b<8 by omega) (by rw[Kj];exact Yz hbn);rw[hxb];simp[hbn]
 rw[hj,hup];unfold zrI;have hyk:y.testBit k=true:=by
  have:=hR k hk;rw[hy,Xw] at this;exact this
 have hck:zqU o (y:Int) k=true:=by
  unfold zqU;rw[hy,eB hy2 Qf0,hyk,zpC hy2];rfl
 rcases zoJ (c:=zqU o (y:Int)) (f:=n) (i:=0) with ⟨_,q⟩|⟨a,q,_,q2,q3⟩
 ·exact absurd (q k (Yn _) Qf0) (by rw[hck];simp)
 ·rw[q];have han:a<n:=Qf0;obtain⟨z,hz,hz1,hz2⟩:=hL.nat hn8 hos (show a<8 by omega);unfold zqU at q3;rw[hz,eB hy2 Qf0] at q3;obtain⟨q4,q5⟩:=(Qt _ _▸q3:y.testBit a=true/\zoA (y:Int) (z:Int)=true)
  have hzk:=znR hy2 hz2 q5 (show k<8 by omega) hyk;by_cases hak:a=k
  ·rw[hak]
  ·exfalso;refine hA a k han hk hak ⟨?_,?_⟩
   ·rw[hz,eB hz2 Qf0];exact hzk
   ·rw[hy,eB hy2 Qf0];exact q4
end Go.AL
