/-
  Programs: elements, heads of rules.
-/
import Derived.Test.YtlcjmejclpilhaaGreatDoorX25
set_option linter.unusedSimpArgs false
set_option linter.unusedVariables false
set_option maxRecDepth 100000
set_option maxHeartbeats 4000000
namespace Go.AL
open Go.Proofs Go.Proofs.Tryz
noncomputable def zpR(P:Prop):Bool:= @decide P (Classical.propDecidable P)
noncomputable def jT(l:La):List Int×Int:=open Classical in if h: ∃r:List Int×Int,EPure prog G0 209 [.agg l.c] (fun p=>p= .tup [.agg (r.1.map u8),i64 r.2])/\r.1.length=8/\(r.2=0->1<=l.pw.length/\l.pw.length<=8/\OrdOk l.pw.length r.1) then Classical.choose h else([],0)
theorem zbQ(l:La)(hl:l.ok):EPure prog G0 209 [.agg l.c] (fun p=>p= .tup [.agg ((jT l).1.map u8),i64 (jT l).2])/\(jT l).1.length=8/\((jT l).2=0->1<=l.pw.length/\l.pw.length<=8/\OrdOk l.pw.length (jT l).1):=by
 have h: ∃r:List Int×Int,EPure prog G0 209 [.agg l.c] (fun p=>p= .tup [.agg (r.1.map u8),i64 r.2])/\r.1.length=8/\(r.2=0->1<=l.pw.length/\l.pw.length<=8/\OrdOk l.pw.length r.1):=by
  obtain⟨p,⟨os,e,rfl,h1,h2⟩,k1,k2⟩:=zrE l hl;exact⟨(os,e),⟨_,rfl,k1,k2⟩,h1,h2⟩
 unfold jT;rw[dif_pos h];exact Classical.choose_spec h
noncomputable def uE(l:La):Int:=(jT l).2
theorem zjV(l:La)(hl:l.ok):EPure prog G0 161 [.agg l.c] (fun p=>p=i64 (uE l))/\(uE l=0->1<=l.pw.length/\l.pw.length<=8):=by
 obtain⟨h1,h2,h3⟩:=zbQ l hl;refine⟨?_,fun h=>⟨(h3 h).1,(h3 h).2.1⟩⟩;refine ECall.cut (R:=fun p _=>p=i64 (uE l)) (pv func161 11 false Qf6 rfl rfl ?_) Qgl;refine g2 ?_;unfold uE;generalize jT l=o at*;obtain⟨os,e⟩:=o;dsimp only at*;refine ge ?_;(refine g1 ?_;refine zC (h1.call zK Qfe _) ?_;intro p2 h2 hr2;refine g2 ?_);obtain⟨rfl,rfl⟩:=hr2;refine zjA @h2 ?_;rfl
theorem zq6(l:La)(hl:l.ok):EPure prog G0 203 [.agg l.c] fun p=>p= .tup [.agg ((jT l).1.map u8),bo (uE l==0)]:=by
 obtain⟨h1,h2,h3⟩:=zbQ l hl;refine ECall.cut (R:=fun p _=>p= .tup [.agg ((jT l).1.map u8),bo (uE l==0)]) (pv func203 13 false Qf6 rfl rfl ?_) (by rintro p h rfl;exact vE _ _ _ _ (by simp[zU]));refine g2 ?_;unfold uE;generalize jT l=o at*;obtain⟨os,e⟩:=o;dsimp only at*;have ht8:=kK h2;have hdr:(os.map u8).drop 8=[]:=Zv Qfi;refine ge ?_;(refine g1 ?_;refine zC (h1.call zK Qfe _) ?_;intro p2 h2 hr2;refine g2 ?_);obtain⟨rfl,rfl⟩:=hr2;refine zjA (a3 @ht8 @hdr @h2) ?_;rfl
def zr0(l:La)(xs:List Int):Prop:= ∀x∈xs,0<=x/\x<(l.pw.length:Int)
theorem zp1(l:La)(hl:l.ok)(xs:List Int)(hx:xs.length<=140737488355328):EPure prog G0 204 [.agg l.c,vF xs] fun v=>v=bo (zpR (zr0 l xs)):=by
 refine ECall.cut (R:=fun v _=>v=bo (zpR (zr0 l xs))) (pv func204 23 false Qf6 rfl rfl ?_) Qgl;refine g2 ?_;refine ge ?_;refine zO xs.length (K4 (.d:: .k:: .d:: .k:: .k:: .v::D9 (D4 ([])))) (own:=false) (fun i (_:Unit)=>[i64 i]) (fun _=>_) (fun i _=> ∀j (h:j<i) (h2:j<xs.length),0<=xs[j]/\xs[j]<l.pw.length) () rfl rfl (by intro j h;omega) hx ?_ ?_
 ·rintro _ hI;refine gm ?_;have hin:zr0 l xs:=fun x hx=>by
   obtain⟨j,hj,rfl⟩:=Qy hx;exact hI j hj hj
  have e:zpR (zr0 l xs)=true:= @decide_eq_true _ (Classical.propDecidable _) hin;rw[e];exact Qda
 ·rintro i _ hi hw hI;refine gm ?_;have hg:=zG (f:=fun n:Int=>[i64 n]) [] hi;have F:=(a4 @hi @hw @hg @zB)
  have no: ¬(0<=xs[i]/\xs[i]<l.pw.length)->zpR (zr0 l xs)=false:=fun h=> @decide_eq_false _ (Classical.propDecidable _) fun k=>h (k _ (Qc hi));have next:(0<=xs[i]/\xs[i]<l.pw.length)-> ∀j (h:j<i+1) (h2:j<xs.length),0<=xs[j]/\xs[j]<l.pw.length:=fun q j hj h2=>by
   rcases Xy j i with h|h
   ·exact hI j h h2
   ·exact Qbo
  clear hI;generalize xs[i]=x at*;by_cases c1:x<0
  ·have e1:decide (x<0)=true:=by simp[c1]
   rw[no Qf3];refine gf (a2 F @e1) ?_;rfl
  ·have e1:decide (x<0)=false:=by simp[c1]
   by_cases c2:(l.pw.length:Int)<=x
   ·have e2:decide ((l.pw.length:Int)<=x)=true:=by simp[c2]
    rw[no Qf3];refine gf (a3 F @e1 @e2) ?_;rfl
   ·have e2:decide ((l.pw.length:Int)<=x)=false:=by simp[c2]
    refine gf (a3 F @e1 @e2) ?_;exact⟨(),next Qf3,rfl,rfl,rfl⟩
def upF(o:List Int)(n:Nat)(xs:List Int):Int:=xs.foldl (fun u x=>bits BinOp.and IntKind.u8 u (o.getD x.toNat 0)) (cD n)
noncomputable def zo6(l:La)(xs:List Int):Int:=open Classical in if uE l=0/\zr0 l xs then zrI (jT l).1 (upF (jT l).1 l.pw.length xs) l.pw.length else -1
theorem zrJ(l:La)(hl:l.ok)(xs:List Int)(hx:xs.length<=140737488355328):EPure prog G0 154 [.agg l.c,vF xs] fun v=>v=i64 (zo6 l xs):=by
 refine ECall.cut (R:=fun v _=>v=i64 (zo6 l xs)) (pv func154 46 false Qf6 rfl rfl ?_) Qgl;refine g2 ?_;have hof:=zq6 l hl;have hck:=zjV l hl;obtain⟨-,hos, -⟩:=zbQ l hl;obtain⟨os,hoe⟩: ∃os,(jT l).1=os:=⟨_,rfl⟩
 unfold zo6;rw[hoe] at hos hof ⊢
 have ht8:=kK hos;have hdr:(os.map u8).drop 8=[]:=Zv (by simp[hos]);refine ge ?_;(refine g1 ?_;refine zC (hof.call zK Qfe _) ?_;intro p2 h2 hr2;refine g2 ?_);obtain⟨rfl,rfl⟩:=hr2;by_cases hc:uE l=0
 case neg=>
  rw[Wf.2 hc,Qi (fun k=>hc k.1)];refine zjA (a2 @hos @hdr) ?_;rfl
 rw[Zm.2 hc];obtain⟨hn1,hn8⟩:=hck.2 hc;refine zjA (a2 @hos @hdr) ?_;(refine g1 ?_;refine zC ((zp1 l hl xs hx).call zK Qfe _) ?_;intro p2 h2 hr2;refine g2 ?_);obtain⟨rfl,rfl⟩:=hr2;by_cases hin:zr0 l xs
 case neg=>
  have e:zpR (zr0 l xs)=false:= @decide_eq_false _ (Classical.propDecidable _) hin;rw[e,Qi (fun k=>hin k.2)];refine ge ?_;rfl
 have e:zpR (zr0 l xs)=true:= @decide_eq_true _ (Classical.propDecidable _) hin;rw[e,Qj ⟨hc,hin⟩];refine ge ?_;refine zO xs.length (K4 (.k:: .k:: .k:: .v:: .k:: .d::K9 (K9 (.k:: .k:: .v::D9 (K4 (.k:: .k::[])))))) (own:=false) (fun i (u:Int)=>[u8 u,i64 i]) (fun _=>_) (fun i u=>u=upF os l.pw.length (xs.take i)) _ rfl rfl rfl hx ?_ ?_
 ·rintro u rfl;refine gm ?_;rw[Yt];refine gf (a2 @zM @ht8) ?_;(refine g1f @ht8 ?_;refine zC ((zoT os hos _ l.pw.length hn8).call zK Qfg _) ?_;intro p2 h2 hr2;refine g2 ?_);exact Qan
 ·rintro i u hi hw hI;refine gm ?_;obtain⟨h1,h2⟩:=hin _ (Qc hi);obtain⟨m,hm⟩:=Qm h1;have hg:(xs.map fun n:Int=>[i64 n]).getD i []=[i64 m]:=by rw[zG [] hi,hm]
  have hm8:m<os.length:=Qf3;have hd:=yU u8 os m .un hm8;have hgm:os.getD m 0=os[m]:=by rw[Qb,Qa hm8];rfl
  have hst:upF os l.pw.length (xs.take (i+1))=bits BinOp.and IntKind.u8 u os[m]:=by
   unfold upF at hI ⊢
   rw[Xh hi,Jm,<-hI,Yw,Ks,hm,Xw,hgm]
  refine gf (a5 @hi @hw @hg @zB @hd) ?_;exact⟨_,hst.symm,rfl,rfl,rfl⟩
noncomputable def oU(l:La):Int:=zo6 l []
noncomputable def zpP(l:La)(a b:Int):Int:=zo6 l [a,b]
theorem zj7(l:La)(hl:l.ok):EPure prog G0 86 [.agg l.c] fun p=>p=i64 (oU l):=by
 refine ECall.cut (R:=fun v _=>v=i64 (oU l)) (pv func86 5 false Qf6 rfl rfl ?_) Qgl;refine g2 ?_;refine ge ?_;(refine g1 ?_;refine zC (((zrJ l hl [] Qf4).args (.cons (PLe.refl _) (.cons (PLe.nil_ts 1) .nil))).call zK (by simp[zJ,cJ]) _) ?_;intro p2 h2 hr2;refine g2 ?_);exact Qan
theorem zrU(l:La)(hl:l.ok)(a b:Int):EPure prog G0 273 [.agg l.c,i64 a,i64 b] fun p=>p=i64 (zpP l a b):=by
 refine ECall.cut (R:=fun v _=>v=i64 (zpP l a b)) (pv func273 12 false Qf6 rfl rfl ?_) Qgl;refine g2 ?_;refine ge ?_;(refine g1 ?_;refine zC (((zrJ l hl [a,b] Qf4).args (.cons (PLe.refl _) (.cons (PLe.tc_ts 1 _) .nil))).call zK (by simp[zJ,oM]) _) ?_;intro p2 h2 hr2;refine g2 ?_);exact Qan
theorem zp5{n:Nat}(h1:1<=n)(h:n<=8):cD n=((2 ^ n-1:Nat):Int):=by
 unfold cD
 match n,h1,h with
 |1,_,_=>decide
 |2,_,_=>decide
 |3,_,_=>decide
 |4,_,_=>decide
 |5,_,_=>decide
 |6,_,_=>decide
 |7,_,_=>decide
 |8,_,_=>decide
theorem Low.nat{n:Nat}(hn:n<=8){o:List Int}(h:Low n o)(hl:o.length=8){i:Nat}(hi:i<8): ∃x:Nat,o.getD i 0=x/\x<2 ^ n/\x<256:=by
 have hg:o.getD i 0=o[i]:=by rw[Qb,Qa Qf3];rfl
 obtain⟨h1,h2⟩:=h _ (Qc (show i<o.length by omega));obtain⟨x,hx⟩:=Qm h1;have h8:2 ^ n<=2 ^ 8:=Yy Qf5 hn;rw[hx] at h2;have h3:x<2 ^ n:=by exact_mod_cast h2
 exact⟨x,by rw[hg,hx],h3,Qf3⟩
theorem zqB(l:La)(hl:l.ok)(hc:uE l=0):(0<=oU l/\oU l<(l.pw.length:Int))/\ ∀e:Int,0<=e->e<(l.pw.length:Int)->zpP l (oU l) e=e:=by
 obtain⟨-,hos,h3⟩:=zbQ l hl;obtain⟨hn1,hn8,hL,hR,h0,hA⟩:=h3 hc;have hbe:oU l=zrI (jT l).1 (cD l.pw.length) l.pw.length:=by
  unfold oU zo6;rw[Qj ⟨hc,by intro x hx;cases hx⟩];rfl
 rw[<-hbe] at h0;have hb: ∃bt:Nat,oU l=bt/\bt<l.pw.length/\zqU (jT l).1 (cD l.pw.length) bt=true:=by
  rcases zoJ (c:=zqU (jT l).1 (cD l.pw.length)) (f:=l.pw.length) (i:=0) with ⟨q,_⟩|⟨a,q,_,q2,q3⟩
  ·exfalso;rw[hbe] at h0;unfold zrI at h0;omega
  ·exact⟨a,by rw[hbe];exact q,Qf3,q3⟩
 obtain⟨bt,hb1,hb2,hb3⟩:=hb;refine⟨Qf3,fun e he1 he2=> ?_⟩;obtain⟨k,rfl⟩:=Qm he1;have hk:k<l.pw.length:=Qf3;obtain⟨o,ho⟩: ∃o,(jT l).1=o:=⟨_,rfl⟩
 obtain⟨n,hn⟩: ∃n,l.pw.length=n:=⟨_,rfl⟩
 have hj:zpP l (oU l) (k:Int)=zrI o (upF o n [oU l,(k:Int)]) n:=by
  unfold zpP zo6;rw[Qj ⟨hc,fun x hx=>by
   simp only[Qw,Zn,Ka] at hx;rcases hx with rfl|rfl<;>omega⟩,ho,hn]
 rw[ho,hn] at hb3;rw[hn] at hb2 hk hn1 hn8;rw[ho,hn] at hL hR hA;rw[ho] at hos;obtain⟨x,hx,hx1,hx2⟩:=hL.nat hn8 hos (show bt<8 by omega);obtain⟨y,hy,hy1,hy2⟩:=hL.nat hn8 hos (show k<8 by omega);have hful:=zp5 hn1 hn8;have hfl:(2 ^ n-1:Nat)<256:=by
  have:2 ^ n<=2 ^ 8:=Yy Qf5 hn8;have:=Wb n;omega
 have hup:upF o n [oU l,(k:Int)]=(y:Int):=by
  unfold upF;simp only[Yw,Ks];rw[hb1,Xw,Xw,hx,hy,hful,u8_and_nat _ _ hfl hx2,u8_and_nat _ _ (Wl Nat.and_le_left hfl) hy2];congr 1;refine Ja fun b=> ?_;rw[Wu,Wu,Kj];cases hyb:y.testBit b with
  |false=>simp
  | true=>
   have hbn:b<n:=by
    rcases Xy b n with q|q
    ·exact q
    ·rw[Jo (Yf hy1 (Yy Qf5 q))] at hyb;cases hyb
   have hsub:zoA (cD n) (o.getD bt 0)=true:=by
    unfold zqU at hb3;exact(Qt _ _▸hb3).2
   rw[hful,hx] at hsub;have hxb:=znR hfl hx2 hsub (show b<8 by omega) (by rw[Kj];exact Yz hbn);rw[hxb];simp[hbn]
 rw[hj,hup];unfold zrI;have hyk:y.testBit k=true:=by
  have:=hR k hk;rw[hy,Xw] at this;exact this
 have hck:zqU o (y:Int) k=true:=by
  unfold zqU;rw[hy,eB hy2 Qf3,hyk,zpC hy2];rfl
 rcases zoJ (c:=zqU o (y:Int)) (f:=n) (i:=0) with ⟨_,q⟩|⟨a,q,_,q2,q3⟩
 ·exact absurd (q k (Yn _) Qf3) (by rw[hck];simp)
 ·rw[q];have han:a<n:=Qf3;obtain⟨z,hz,hz1,hz2⟩:=hL.nat hn8 hos (show a<8 by omega);unfold zqU at q3;rw[hz,eB hy2 Qf3] at q3;obtain⟨q4,q5⟩:=(Qt _ _▸q3:y.testBit a=true/\zoA (y:Int) (z:Int)=true)
  have hzk:=znR hy2 hz2 q5 (show k<8 by omega) hyk;by_cases hak:a=k
  ·rw[hak]
  ·exfalso;refine hA a k han hk hak ⟨?_,?_⟩
   ·rw[hz,eB hz2 Qf3];exact hzk
   ·rw[hy,eB hy2 Qf3];exact q4
@[go_sem] def UTyp8f163.pl:Nat->DPlan
 |6=>⟨[yA,yA,yA,yA,⟨7,0,[1003]⟩,yA,⟨7,0,[1006]⟩,yA,yB,⟨6,0,[1003,1006,1006]⟩,⟨6,0,[1006]⟩,yA,⟨7,0,[1006]⟩,yC],wS,0⟩
 |7=>⟨[yA,yB,⟨6,0,[1006]⟩,yA,⟨7,0,[1006]⟩,yC,yA,yC,yA,yC],xS,0⟩
 |8=>⟨[yA,yA,yA,yA,yA,yB,yB,yA,yC,yA,yA,yA,yC],yN,0⟩
 |13=>⟨[yA,yA,yA,yB,yA,yB,yC,yA,yC,yA,yC],vJ,0⟩
 |14=>⟨[yA,yB,⟨6,0,[1008]⟩,yA,⟨7,0,[1008]⟩,yC,yA,yC,yA,yC],xS,0⟩
 |17=>⟨[yA,yB,yA,yB,yA,yB,yB,yC,yA,yA,yA,yA,yC,yA],wS,0⟩
 |18=>⟨[yA,yA,yA,yA,yB,yA,yB,yA,yA,⟨6,0,[1008]⟩,yA,⟨7,0,[1008]⟩,yC],yN,0⟩
 |19=>⟨[yA,yA,yA,yA,yA,yB,yB,yA,yC,yA,yA,yA,yC],yN,0⟩
 |27=>⟨[yA,yA,yA,yB,yA,yB,yC,yA,yC],uW,0⟩
 |30=>⟨[yA,yA,yA,yA,yB,yA,yB,yA,yA,⟨6,0,[1011]⟩,yA,⟨7,0,[1011]⟩,yC],yN,0⟩
 |31=>⟨[yA,yA,yA,yA,yA,yB,yB,yA,yC,yA,yA,yA,yC],yN,0⟩
 |_=>⟨[],[],0⟩
theorem zlT{r:Option Nat}:(Value.map r).oneCell'=true:=rfl
attribute [go_sem] zlT oA Nat.lt_add_one
attribute [-go_sem] only
theorem uO(h:Heap)(r:Nat)(es:NM)(n:Nat)(s:BA)(i:Nat)(e:Int)(hr:h[r]? =some (.map es))(hes:NMap es n)(hi:i<n):ECall prog G0 219 [.mp r,yQ s,i64 i,i64 e] h fun p h'=> ∃(e':Int)(es':NM),p=i64 e'/\h'=h.set r (.map es')/\NMap es' n/\(e'=0->e=0):=by
 refine(aS h r es n s i e hr hes).mono ?_;rintro p h' ⟨e',rfl,rfl|rfl,hez⟩
 ·refine⟨e',es,rfl,?_,hes,hez⟩;obtain⟨hlt,he⟩:=gsi hr;rw[<-he,Jr]
 ·exact⟨e',_,rfl,rfl,hes.set hi,hez⟩
def bU(rp:List (Int×Int))(e at':Int):List (Int×Int):=if e=0 then rp else rp++[(e,at')]
theorem vB(rp:List (Int×Int))(e at':Int):(bU rp e at').length<=rp.length+1:=by unfold bU;split<;>simp
theorem zaO(rp:List (Int×Int))(e at':Int):rp.length<=(bU rp e at').length:=by unfold bU;split<;>simp
theorem wQ{rp:List (Int×Int)}{e at':Int}(h:bU rp e at'=[]):rp=[]/\e=0:=by
 unfold bU at h;split at h
 ·exact⟨h,by assumption⟩
 ·simp at h
abbrev RLi(pQ:List La)(i:Nat)(rp:List (Int×Int)):Prop:=rp.length<=i/\(rp=[]-> ∀(j:Nat)(h:j<pQ.length),j<i->uE pQ[j]=0)
abbrev RLn(pQ:List La)(n:Nat)(rp:List (Int×Int)):Prop:=rp.length<=n/\(rp=[]-> ∀x∈pQ,uE x=0)
theorem wZ(b0 b1:Blk)(pc:List PV)(ml mf mp:NM)(L F P R Rep:PV)(J:Heap)(rp:List (Int×Int))(hrp:rp.length<=1048576)(hG:GrowN 7 253 (iV rp) 2 J Rep)(e at':Int):
  ECall prog G0 218 [.ptr 6 0,i64 e,i64 at'] (SH b0 b1 pc ml mf mp L F P R Rep J) fun _ h'=> ∃Rep' J',h'=SH b0 b1 pc ml mf mp L F P R Rep' J'/\GrowN 7 253 (iV (bU rp e at')) 2 J' Rep'/\Keep J J':=by
 refine(zdD b0 b1 pc ml mf mp L F P R Rep J rp hrp hG e at').mono ?_;rintro _ h' (⟨rfl,rfl⟩|⟨he,Rep',J',rfl,h1,h2⟩)
 ·exact⟨Rep,J,rfl,hG,Keep.refl _⟩
 ·refine⟨Rep',J',rfl,?_,h2⟩;unfold bU;rw[Qi he];exact h1
theorem GrowN.set2{off:Nat}{t:TypeId}{els:List (List PV)}{k:Nat}{J:Heap}{V:PV}(h:GrowN off t els k J V){q:Nat}{b:Blk}(hq:J[q]? =some b)(hb: ∀k n,b≠ .vec t k n)(c:Blk):GrowN off t els k (J.set q c) V:=by
 rcases h with h|⟨q',h1,hq'⟩
 ·exact .inl h
 ·refine .inr ⟨q',h1,?_⟩;have:q≠q':=fun e=>by subst e;rw[hq] at hq';cases hq';exact hb _ _ rfl
  rw[Qd this];exact hq'
structure NSI(p:Pg)(i:Nat)(ml:NM)(J:Heap)(L Rep:PV)(rp:List (Int×Int)):Prop where
 m:NMap ml i
 l:GrowN 7 131 ((p.pQ.take i).map La.c) 4 J L
 r:GrowN 7 253 (iV rp) 2 J Rep
 rl:RLi p.pQ i rp
@[reducible] def Fu.c2(x:Fu×PV):List PV:=[yQ x.1.name,yQ x.1.lat,i64 x.1.of',rR x.1.fr,rR x.1.to,x.2,i64 x.1.at']
structure NSF(p:Pg)(i:Nat)(mf:NM)(J:Heap)(L F Rep:PV)(rp:List (Int×Int))(fs:List (Fu×PV)):Prop where
 m:NMap mf i
 l:GrowN 7 131 (p.pQ.map La.c) 4 J L
 f:GrowN 7 183 (fs.map Fu.c2) 7 J F
 r:GrowN 7 253 (iV rp) 2 J Rep
 rl:RLn p.pQ (p.pQ.length+i) rp
 fl:fs.length=i
 fb: ∀x∈fs,x.2= .nil\/x.2=vF x.1.table
def PzL(pk ps:List Pd):Prop:= ∀(j:Nat)(h:j<ps.length)(h':j<pk.length),pk[j].lat=eS->ps[j].of'= -1
theorem PzL.app{pk ps:List Pd}{i:Nat}{x y:Pd}(h:PzL pk ps)(hl:ps.length=i)(hi:i<pk.length)(hx:pk[i]=x)(hy:x.lat=eS->y.of'= -1):PzL pk (ps++[y]):=fun j h1 h2 e=>by
 rw[Ql] at h1;rcases Xy j ps.length with q|q
 ·rw[List.getElem_append_left q];exact h j q h2 e
 ·have:j=i:=by simp at h1;omega
  subst this;rw[List.getElem_append_right q];simp only[List.getElem_singleton];exact hy (by rw[<-hx];exact e)
structure NSP(p:Pg)(i:Nat)(mp:NM)(J:Heap)(L F P Rep:PV)(rp:List (Int×Int))(fs:List (Fu×PV))(ps:List Pd):Prop where
 m:NMap mp i
 l:GrowN 7 131 (p.pQ.map La.c) 4 J L
 f:GrowN 7 183 (fs.map Fu.c2) 7 J F
 pp:GrowN 7 73 (ps.map Pd.c) 7 J P
 r:GrowN 7 253 (iV rp) 2 J Rep
 rl:RLn p.pQ (p.pQ.length+p.pZ.length+i) rp
 pl:ps.length=i
 pb: ∀x∈ps, -1<=x.of'/\x.of'<p.pQ.length/\x.types.length<=4
 pz:PzL p.pk ps
def NSK(b0 b1:Blk)(p:Pg)(q:PV)(h':Heap):Prop:= ∃(ml mf mp:NM)(L F P Rep:PV)(J:Heap)(rp:List (Int×Int))(fs:List (Fu×PV))(ps:List Pd),q= .ptr 6 0/\h'=SH b0 b1 p.c ml mf mp L F P .nil Rep J/\
 NMap ml p.pQ.length/\NMap mf fs.length/\NMap mp ps.length/\GrowN 7 131 (p.pQ.map La.c) 4 J L/\GrowN 7 183 (fs.map Fu.c2) 7 J F/\(∀x∈fs,x.2= .nil\/x.2=vF x.1.table)/\
 GrowN 7 73 (ps.map Pd.c) 7 J P/\GrowN 7 253 (iV rp) 2 J Rep/\ps.length=p.pk.length/\(∀x∈ps, -1<=x.of'/\x.of'<p.pQ.length/\x.types.length<=4)/\fs.length=p.pZ.length/\rp.length<=36/\(rp=[]-> ∀x∈p.pQ,uE x=0)/\PzL p.pk ps
open UTyp8f163 in
theorem dV(b0 b1:Blk)(p:Pg)(hp:p.ok)(hf:p.fm)(hle: ∀x∈p.pQ,x.pw.length<=1048576/\x.pJ.length<=1048576):ECall prog G0 163 [.agg p.c] [b0,b1] fun q h'=>NSK b0 b1 p q h':=by
 have Z:=(a3 @zB @zA @zX)
 have Z1:=(a2 @zB @Nat.add_lt_add_iff_right)
 refine pv func163 183 false Qf6 rfl rfl ?_;refine g2 ?_;obtain⟨pQ,pZ,pk,pX⟩:=p;obtain⟨h1,h2,h3,h4,h5,h6,h7,h8⟩:=hp;obtain⟨f1,f2,f3,f4,f5,f6,f7⟩:=hf;dsimp only at*;refine ge ?_;refine zO pQ.length (K4 (.k:: .d:: .d::K9 (K4 (.k:: .k:: .k:: .v::D9 (D9 (D9 (D9 (.d:: .d:: .d::K9 (K9 (K9 (K9 (K9 (K9 (K9 (K9 (K9 (K9 (K9 (K9 (K9 (.k:: .k:: .k::[]))))))))))))))))))))) (own:=false) (fun i (s:NM×PV×PV×List (Int×Int)×Heap)=>[i64 i]) (fun s=>SH b0 b1 _ s.1 [] [] s.2.1 .nil .nil .nil s.2.2.1 s.2.2.2.2) (fun i s=>NSI ⟨pQ,pZ,pk,pX⟩ i s.1 s.2.2.2.2 s.2.1 s.2.2.1 s.2.2.2.1) ([],.nil,.nil,[],[]) rfl rfl ⟨by simp[NMap],.inl ⟨rfl,rfl⟩,.inl ⟨rfl,rfl⟩,Qf4,fun _ _ _ h=>absurd h (Xt _)⟩ Qf3 ?_ ?_
 ·rintro⟨ml,L,Rep,rp,J⟩ ⟨i1,i2,i3,i4⟩ t ht;dsimp only at*;simp only[zY] at ht;subst ht;refine gf @zM ?_;have htl:pQ.take pQ.length=pQ:=Qf4;rw[htl] at i2;refine zO pZ.length (K4 (.k:: .k:: .k:: .d:: .d:: .d::K9 (K9 (K9 (K9 (K9 (K9 (.k:: .k:: .v::D9 (D9 (D9 (D9 (D9 (D9 (D4 (D4 (K9 (K9 (K9 (K9 (K9 (K9 ([])))))))))))))))))))))) (own:=false) (fun i (s:NM×PV×PV×List (Int×Int)×Heap×List (Fu×PV))=>[i64 i]) (fun s=>SH b0 b1 _ ml s.1 [] L s.2.1 .nil .nil s.2.2.1 s.2.2.2.2.1) (fun i s=>NSF ⟨pQ,pZ,pk,pX⟩ i s.1 s.2.2.2.2.1 L s.2.1 s.2.2.1 s.2.2.2.1 s.2.2.2.2.2) ([],.nil,Rep,rp,J,[]) rfl rfl ⟨by simp[NMap],i2,.inl ⟨rfl,rfl⟩,i3,⟨by dsimp only;omega,fun q x hx=>by obtain⟨j,hj,rfl⟩:=Qy hx;exact i4.2 q j hj hj⟩,rfl,Qf4⟩ Qf3 ?_ ?_
  ·rintro⟨mf,F,Rep,rp,J,fs⟩ ⟨hmf0,i2,i3,i4,i5,hfl0,hfb0⟩ t ht;dsimp only at*;simp only[zY] at ht;subst ht;refine gf @zM ?_;refine zO pk.length (K9 (.k:: .d:: .d:: .d::K9 (K9 (K9 (K9 (K9 (K9 (K9 (K9 (K9 (K9 (K9 (K9 (K9 (.k:: .k:: .v::D9 (D9 (D9 (D9 (D9 (D4 (.k::[]))))))))))))))))))))) (own:=false) (fun i (s:NM×PV×PV×List (Int×Int)×Heap×List Pd)=>[i64 i]) (fun s=>SH b0 b1 _ ml mf s.1 L F s.2.1 .nil s.2.2.1 s.2.2.2.2.1) (fun i s=>NSP ⟨pQ,pZ,pk,pX⟩ i s.1 s.2.2.2.2.1 L F s.2.1 s.2.2.1 s.2.2.2.1 fs s.2.2.2.2.2) ([],.nil,Rep,rp,J,[]) rfl rfl ⟨by simp[NMap],i2,i3,.inl ⟨rfl,rfl⟩,i4,⟨by dsimp only;omega,i5.2⟩,rfl,Qf4,fun _ h=>absurd h (Xt _)⟩ Qf3 ?_ ?_
   ·rintro⟨mp,P,Rep,rp,J,ps⟩ ⟨k1,k2,k3,k4,k5,k6,k7,k8,k9⟩ t ht;dsimp only at*;simp only[zY] at ht;subst ht;refine gf @zM ?_;exact⟨ml,mf,mp,L,F,P,Rep,J,rp,fs,ps,rfl,rfl,i1,by rw[hfl0];exact hmf0,by rw[k7];exact k1,k2,k3,hfb0,k4,k5,k7,k8,hfl0,Qf3,k6.2,k9⟩
   ·rintro i ⟨mp,P,Rep,rp,J,ps⟩ hi hw ⟨j1,j2,j3,jp,j4,j5,j6,j7,j8⟩ t ht;have Z3:=(a3 Z @hi @hw)
    have Z7:=(a3 Z1 @hi @hw)
    dsimp only at*;simp only[zY] at ht;subst ht;have hx:=zG (f:=Pd.c) [] hi;obtain⟨x,hxe⟩: ∃x,pk[i]=x:=⟨_,rfl⟩
    have hxo:x.ok:=hxe▸h6 _ (Qc hi);have hxf:x.fm:=hxe▸f5 _ (Qc hi);have hxl:=hxf.2.2;rw[hxe] at hx;have h68:(6<J.length+1+1+1+1+1+1+1+1)=True:=Qf4;have Z8:=(a3 Z3 @hx @h68)
    refine gf Z8 ?_;(refine g1f Z8 ?_;refine zC ((zd7 x.types Qf3 (all_map fun _=>rfl)).call zK Qf4 _) ?_;intro p2 h2 hr2;refine g2 ?_);obtain⟨rfl,rfl⟩:=hr2;by_cases hs:x.lat=eS
    ·have hb:(!decide (x.lat=eS))=false:=by simp[hs]
     refine gf (a3 Z8 @hb @hs) ?_;(refine zF rfl rfl rfl ?_;intro sr hsr;simp only[go_sem,Z8] at hsr;subst hsr;refine xR rfl rfl (uO _ 5 mp (i+1) x.name i 0 rfl (j1.mono Qf3) Qf3) (by rintro _ _ ⟨_,_,_,rfl,_⟩ k hk _;have hk:k∈[1011]:=hk;simp only[Qp] at hk;subst hk;simp[nu]) ?_;intro p2 h2 hr2;refine Go.AL.g2 ?_);obtain⟨e',mp',rfl,rfl,hmp',hez⟩:=hr2;refine gf Z8 ?_;(refine zF rfl rfl rfl ?_;intro zs zh;simp only[go_sem,Z8] at zh;subst zh;refine zP Qf5 Qf5 (wZ b0 b1 _ ml mf mp' L F P .nil Rep (J++[.var 73 _]) rp Qf3 (j4.app _) e' x.at') ?_;intro p2 h2 hr2;refine Go.AL.g2 ?_);obtain⟨Rep',J',rfl,hr',hk'⟩:=hr2;have hq':=hk' J.length _ (Wc ..) Qf4;have hF':=hk'.grow Qf5 (j3.app _);have hL':=hk'.grow Qf5 (j2.app _);have hP':=hk'.grow Qf5 (jp.app _);have hqlt:J.length<J'.length:=(gsi hq').1;have h6J:(6<J'.length+1+1+1+1+1+1+1)=True:=Qf4;have hqJ:(J.length<J'.length)=True:=Qfo;have hpb: ∀y:Pd,y∈ps++[⟨x.name,x.types,eS, -1,x.base,x.key,x.at'⟩]-> -1<=y.of'/\(y.of':Int)<(pQ.length:Int)/\y.types.length<=4:=by
      intro y hy;rcases Qo.1 hy with hy|hy
      ·exact j7 y hy
      ·rw[Qp] at hy;subst hy;dsimp only;omega
     have hpz:PzL pk (ps++[⟨x.name,x.types,eS, -1,x.base,x.key,x.at'⟩]):=PzL.app j8 j6 hi hxe (fun _=>rfl);clear h68 hx hk';generalize J.length=q at*;rcases hP' with ⟨h0,rfl⟩|⟨ql,rfl,hql⟩
     ·have hps:ps=[]:=Qg8;subst hps;refine gf (a4 Z7 @hq' @h6J @hqJ) ?_;exact⟨(mp',_,Rep',bU rp e' x.at',_,[⟨x.name,x.types,eS, -1,x.base,x.key,x.at'⟩]),⟨hmp',hL'.app _,hF'.app _,.inr ⟨J'.length,Qf4,Qf4⟩,hr'.app _,⟨by have:=vB rp e' x.at';dsimp only;omega,fun q=>j5.2 (wQ q).1⟩,by simp at j6 ⊢;omega,hpb,hpz⟩,rfl,rfl,rfl⟩
     ·simp only[Qs] at hql;have hqll:ql<J'.length:=(gsi hql).1;have hfl:ps.length<=24:=Qf3;refine gf (a5 Z7 @hq' @h6J @hqJ @hql) ?_;exact⟨(mp',_,Rep',bU rp e' x.at',_,ps++[⟨x.name,x.types,eS, -1,x.base,x.key,x.at'⟩]),⟨hmp',hL'.set2 hql Qf4 _,hF'.set2 hql Qf4 _,.inr ⟨ql,by rw[Xq];rfl,by rw[Qh hqll];simp⟩,hr'.set2 hql Qf4 _,⟨by have:=vB rp e' x.at';dsimp only;omega,fun q=>j5.2 (wQ q).1⟩,by simp[j6],hpb,hpz⟩,rfl,rfl,rfl⟩
    ·have hb:(!decide (x.lat=eS))=true:=by simp[hs]
     refine gf (a5 Z3 @hx @h68 @hb @hs) ?_;(refine zF rfl rfl rfl ?_;intro zs zh;simp only[go_sem,Z3,hx,h68] at zh;subst zh;refine zP Qf5 Qf5 (lE _ 3 ml pQ.length x.lat rfl i1) ?_;intro p2 h2 hr2;refine Go.AL.g2 ?_);obtain⟨of',rfl,ho1,ho2,rfl⟩:=hr2;refine gf (a4 Z3 @hx @h68 @hs) ?_;by_cases hof0:of'<0
     ·have hof:decide (of'<0)=true:=by simp[hof0]
      refine zjA (a4 Z3 @hx @h68 @hof) ?_;(refine zF rfl rfl rfl ?_;intro sr hsr;simp only[go_sem,Z3,hx,h68] at hsr;subst hsr;refine xR rfl rfl (uO _ 5 mp (i+1) x.name i 70 rfl (j1.mono Qf3) Qf3) (by rintro _ _ ⟨_,_,_,rfl,_⟩ k hk _;have hk:k∈[1011]:=hk;simp only[Qp] at hk;subst hk;simp[nu]) ?_;intro p2 h2 hr2;refine Go.AL.g2 ?_);exact Qa0
     ·have hof:decide (of'<0)=false:=Qfk;(repeat(first|refine gz ?_|(refine gn ?_;intro zs zh;(try simp only[go_sem,Z3,hx,h68,hof,decide_false] at zh);subst zh;refine gv ?_)|refine yD UTyp8f163.pl ?_));(refine zF rfl rfl rfl ?_;intro sr hsr;simp only[go_sem,Z3,hx,h68] at hsr;subst hsr;refine xR rfl rfl (uO _ 5 mp (i+1) x.name i 0 rfl (j1.mono Qf3) Qf3) (by rintro _ _ ⟨_,_,_,rfl,_⟩ k hk _;have hk:k∈[1011]:=hk;simp only[Qp] at hk;subst hk;simp[nu]) ?_;intro p2 h2 hr2;refine Go.AL.g2 ?_);exact Qa0
  ·rintro i ⟨mf,F,Rep,rp,J,fs⟩ hi hw ⟨j1,j2,j3,j4,j5,j6,j7⟩ t ht;have Z10:=(a3 Z1 @hi @hw)
   dsimp only at*;simp only[zY] at ht;subst ht;have hx:=zG (f:=Fu.c) [] hi;obtain⟨x,hxe⟩: ∃x,pZ[i]=x:=⟨_,rfl⟩
   have hxo:x.ok:=hxe▸h4 _ (Qc hi);have hxf:x.fm:=hxe▸f3 _ (Qc hi);have hxl:=hxf.2;have hxl2:x.to.length<=8:=by have:=hxf.1;omega
   rw[hxe] at hx;have h68:(6<J.length+1+1+1+1+1+1+1+1)=True:=Qf4;have Z2:=(a5 Z @hi @hx @hw @h68)
   refine gf Z2 ?_;(refine zF rfl rfl rfl ?_;intro zs zh;simp only[go_sem,Z2] at zh;subst zh;refine zP Qf5 Qf5 (lE _ 3 ml pQ.length x.lat rfl i1) ?_;intro p2 h2 hr2;refine Go.AL.g2 ?_);obtain⟨of',rfl,ho1,ho2,rfl⟩:=hr2;refine gf Z2 ?_;(refine zF rfl rfl rfl ?_;intro sr hsr;simp only[go_sem,Z2] at hsr;subst hsr;refine xR rfl rfl ((lU x.fr Qf3 (all_map fun _=>rfl)).call zK Qf4 _) Qhc ?_;intro p2 h2 hr2;refine Go.AL.g2 ?_);obtain⟨rfl,rfl⟩:=hr2;refine gf Z2 ?_;(refine zF rfl rfl rfl ?_;intro zs zh;simp only[go_sem,Z2] at zh;subst zh;refine zP Qf5 Qf5 ((lU x.to Qf3 (all_map fun _=>rfl)).call zK Qf4 _) ?_;intro p2 h2 hr2;refine Go.AL.g2 ?_);obtain⟨rfl,rfl⟩:=hr2;refine gf Z2 ?_;by_cases hof0:0<=of'
   ·have hof:decide (0<=of')=true:=by simp[hof0]
    obtain⟨ofn,rfl⟩:=Qm hof0;have hofl:ofn<pQ.length:=Qf3;have hlx:=zG (f:=La.c) [] hofl;have Z9:=(a4 Z2 @hof @hofl @hlx)
    obtain⟨hle1,hle2⟩:=hle _ (Qc hofl);refine zjA Z9 ?_;(refine zF rfl rfl rfl ?_;intro zs zh;simp only[go_sem,Z9,decide_true] at zh;subst zh;refine zP Qf5 Qf5 (((ze6 pQ[ofn] (h2 _ (Qc hofl)) hle1 ⟨x.name,x.lat,ofn,x.fr,x.to,[],x.at'⟩ ⟨hxo.n,hxo.l,hxo.fl,hxo.f,hxo.tl,hxo.t,Qf4⟩ hxf.1).call zK Qfe _).args (.cons (PLe.refl _) (.cons (PLes.agg (.cons (PLe.refl _) (.cons (PLe.refl _) (.cons (PLe.refl _) (.cons (PLe.refl _) (.cons (PLe.refl _) (.cons (PLe.nil_ts 1) (.cons (PLe.refl _) .nil)))))))) .nil))) ?_;intro p2 h2 hr2;refine Go.AL.g2 ?_);obtain⟨⟨tb,e,rfl,htb⟩,rfl⟩:=hr2;refine zjA Z9 ?_;(refine zF rfl rfl rfl ?_;intro sr hsr;simp only[go_sem,Z2,hof] at hsr;subst hsr;refine xR rfl rfl (uO _ 4 mf (i+1) x.name i e rfl (j1.mono Qf3) Qf3) (by rintro _ _ ⟨_,_,_,rfl,_⟩ k hk _;have hk:k∈[1008]:=hk;simp only[Qp] at hk;subst hk;simp[nu]) ?_;intro p2 h2 hr2;refine Go.AL.g2 ?_);obtain⟨e',mf',rfl,rfl,hmf',hez⟩:=hr2;refine gf (a2 Z2 @hof) ?_;(refine zF rfl rfl rfl ?_;intro zs zh;simp only[go_sem,Z2,hof] at zh;subst zh;refine zP Qf5 Qf5 (wZ b0 b1 _ ml mf' [] L F .nil .nil Rep (J++[.var 183 _]) rp Qf3 (j4.app _) e' x.at') ?_;intro p2 h2 hr2;refine Go.AL.g2 ?_);obtain⟨Rep',J',rfl,hr',hk'⟩:=hr2;have hq':=hk' J.length _ (Wc ..) Qf4;have hF':=hk'.grow Qf5 (j3.app _);have hL':=hk'.grow Qf5 (j2.app _);have hqlt:J.length<J'.length:=(gsi hq').1;have h6J:(6<J'.length+1+1+1+1+1+1+1)=True:=Qf4;have hqJ:(J.length<J'.length)=True:=Qfo;have hfb: ∀y∈fs++[(⟨x.name,x.lat,ofn,x.fr,x.to,tb,x.at'⟩,vF tb)],y.2= .nil\/y.2=vF y.1.table:=by
     exact Qd1
    clear h68 hx hk';generalize J.length=q at*;rcases hF' with ⟨h0,rfl⟩|⟨ql,rfl,hql⟩
    ·have hfs:fs=[]:=Qg8;subst hfs;refine gf (a4 Z10 @hq' @h6J @hqJ) ?_;exact⟨(mf',_,Rep',bU rp e' x.at',_,[(⟨x.name,x.lat,ofn,x.fr,x.to,tb,x.at'⟩,vF tb)]),⟨hmf',hL'.app _,.inr ⟨J'.length,Qf4,Qf4⟩,hr'.app _,⟨by have:=vB rp e' x.at';dsimp only;omega,fun q=>j5.2 (wQ q).1⟩,by simp at j6 ⊢;omega,hfb⟩,rfl,rfl,rfl⟩
    ·simp only[Qs] at hql;have hqll:ql<J'.length:=(gsi hql).1;have hfl:fs.length<=8:=Qf3;refine gf (a5 Z10 @hq' @h6J @hqJ @hql) ?_;exact⟨(mf',_,Rep',bU rp e' x.at',_,fs++[(⟨x.name,x.lat,ofn,x.fr,x.to,tb,x.at'⟩,vF tb)]),⟨hmf',hL'.set2 hql Qf4 _,.inr ⟨ql,by rw[Xq];rfl,by rw[Qh hqll];simp⟩,hr'.set2 hql Qf4 _,⟨by have:=vB rp e' x.at';dsimp only;omega,fun q=>j5.2 (wQ q).1⟩,by simp[j6],hfb⟩,rfl,rfl,rfl⟩
   ·have hof:decide (0<=of')=false:=Qfk;have Z6:=(a6 Z @hi @hx @hw @h68 @hof)
    refine gf Z6 ?_;(refine zF rfl rfl rfl ?_;intro sr hsr;simp only[go_sem,Z6] at hsr;subst hsr;refine xR rfl rfl (uO _ 4 mf (i+1) x.name i 70 rfl (j1.mono Qf3) Qf3) (by rintro _ _ ⟨_,_,_,rfl,_⟩ k hk _;have hk:k∈[1008]:=hk;simp only[Qp] at hk;subst hk;simp[nu]) ?_;intro p2 h2 hr2;refine Go.AL.g2 ?_);obtain⟨e',mf',rfl,rfl,hmf',hez⟩:=hr2;refine gf Z6 ?_;(refine zF rfl rfl rfl ?_;intro zs zh;simp only[go_sem,Z6] at zh;subst zh;refine zP Qf5 Qf5 (wZ b0 b1 _ ml mf' [] L F .nil .nil Rep (J++[.var 183 _]) rp Qf3 (j4.app _) e' x.at') ?_;intro p2 h2 hr2;refine Go.AL.g2 ?_);obtain⟨Rep',J',rfl,hr',hk'⟩:=hr2;have hq':=hk' J.length _ (Wc ..) Qf4;have hF':=hk'.grow Qf5 (j3.app _);have hL':=hk'.grow Qf5 (j2.app _);have hqlt:J.length<J'.length:=(gsi hq').1;have h6J:(6<J'.length+1+1+1+1+1+1+1)=True:=Qf4;have hqJ:(J.length<J'.length)=True:=Qfo;have hfb: ∀y∈fs++[(⟨x.name,x.lat,of',x.fr,x.to,[],x.at'⟩,.nil)],y.2= .nil\/y.2=vF y.1.table:=by
     exact Qd1
    clear h68 hx hk';generalize J.length=q at*;rcases hF' with ⟨h0,rfl⟩|⟨ql,rfl,hql⟩
    ·have hfs:fs=[]:=Qg8;subst hfs;refine gf (a4 Z10 @hq' @h6J @hqJ) ?_;exact⟨(mf',_,Rep',bU rp e' x.at',_,[(⟨x.name,x.lat,of',x.fr,x.to,[],x.at'⟩,.nil)]),⟨hmf',hL'.app _,.inr ⟨J'.length,Qf4,Qf4⟩,hr'.app _,⟨by have:=vB rp e' x.at';dsimp only;omega,fun q=>j5.2 (wQ q).1⟩,by simp at j6 ⊢;omega,hfb⟩,rfl,rfl,rfl⟩
    ·simp only[Qs] at hql;have hqll:ql<J'.length:=(gsi hql).1;have hfl:fs.length<=8:=Qf3;refine gf (a5 Z10 @hq' @h6J @hqJ @hql) ?_;exact⟨(mf',_,Rep',bU rp e' x.at',_,fs++[(⟨x.name,x.lat,of',x.fr,x.to,[],x.at'⟩,.nil)]),⟨hmf',hL'.set2 hql Qf4 _,.inr ⟨ql,by rw[Xq];rfl,by rw[Qh hqll];simp⟩,hr'.set2 hql Qf4 _,⟨by have:=vB rp e' x.at';dsimp only;omega,fun q=>j5.2 (wQ q).1⟩,by simp[j6],hfb⟩,rfl,rfl,rfl⟩
 ·rintro i ⟨ml,L,Rep,rp,J⟩ hi hw ⟨i1,i2,i3,i4⟩ t ht;dsimp only at*;simp only[zY] at ht;subst ht;have hx:=zG (f:=La.c) [] hi;obtain⟨x,hxe⟩: ∃x,pQ[i]=x:=⟨_,rfl⟩
  obtain⟨hxe1,hxe2⟩:=hle _ (Qc hi);rw[hxe] at hxe1 hxe2;have hxo:x.ok:=hxe▸h2 _ (Qc hi);have htl:(pQ.take i).length=i:=Qfk;have htk:(pQ.take (i+1)).map La.c=(pQ.take i).map La.c++[x.c]:=by rw[Xh hi,hxe,Xq];rfl
  rw[hxe] at hx;have h68:(6<J.length+1+1+1+1+1+1+1+1)=True:=Qf4;have Z5:=(a5 Z @hi @hx @hw @h68)
  refine gf Z5 ?_;(refine zF rfl rfl rfl ?_;intro sr hsr;simp only[go_sem,Z5] at hsr;subst hsr;refine xR rfl rfl ((zjV x hxo).1.call zK Qfe _) Qhc ?_;intro p2 h2 hr2;refine Go.AL.g2 ?_);obtain⟨rfl,rfl⟩:=hr2;obtain⟨e,hce⟩: ∃e,uE x=e:=⟨_,rfl⟩
  rw[hce];(refine zF rfl rfl rfl ?_;intro sr hsr;simp only[go_sem,Z5] at hsr;subst hsr;refine xR rfl rfl (uO _ 3 ml (i+1) x.name i e rfl (i1.mono Qf3) Qf3) (by rintro _ _ ⟨_,_,_,rfl,_⟩ k hk _;have hk:k∈[1006]:=hk;simp only[Qp] at hk;subst hk;simp[nu]) ?_;intro p2 h2 hr2;refine Go.AL.g2 ?_);obtain⟨e',ml',rfl,rfl,hml',hez⟩:=hr2;have ck:bU rp e' x.at'=[]-> ∀(j:Nat)(h:j<pQ.length),j<i+1->uE pQ[j]=0:=fun q j h hj=>by
   rcases Xy j i with r|r
   ·exact i4.2 (wQ q).1 j h r
   ·have:j=i:=Qf3;subst this;rw[hxe,hce];exact hez (wQ q).2
  refine gf Z5 ?_;(refine zF rfl rfl rfl ?_;intro zs zh;simp only[go_sem,Z5] at zh;subst zh;refine zP Qf5 Qf5 (wZ b0 b1 _ ml' [] [] L .nil .nil .nil Rep (J++[.var 131 x.c]) rp Qf3 (i3.app _) e' x.at') ?_;intro p2 h2 hr2;refine Go.AL.g2 ?_);obtain⟨Rep',J',rfl,hr',hk'⟩:=hr2;have hq':J'[J.length]? =some (.var 131 x.c):=hk' _ _ Qf4 Qf4;have hL':=hk'.grow Qf5 (i2.app [.var 131 x.c]);have hqlt:J.length<J'.length:=(gsi hq').1;have h6J:(6<J'.length+1+1+1+1+1+1+1)=True:=Qf4;have hqJ:(J.length<J'.length)=True:=Qfo;have Z4:=(a6 Z1 @hi @hw @hq' @h6J @hqJ)
  clear h68 hx hk' i2 i3;generalize J.length=q at*;refine gf Z4 ?_;(refine zF rfl rfl rfl ?_;intro sr hsr;simp only[go_sem,Z4] at hsr;subst hsr;refine xR rfl rfl ((lU x.pw Qf3 (all_map fun _=>rfl)).call zK Qf4 _) Qhc ?_;intro p2 h2 hr2;refine Go.AL.g2 ?_);obtain⟨rfl,rfl⟩:=hr2;refine gf Z4 ?_;(refine zF rfl rfl rfl ?_;intro zs zh;simp only[go_sem,Z4] at zh;subst zh;refine zP Qf5 Qf5 ((zd8 x.pJ Qf3 (all_map fun _=>rfl)).call zK Qf4 _) ?_;intro p2 h2 hr2;refine Go.AL.g2 ?_);obtain⟨rfl,rfl⟩:=hr2;have hqs: ∀b,(J'.set q b)[q]? =some b:=fun b=>Qh hqlt;rcases hL' with ⟨h0,rfl⟩|⟨ql,rfl,hql⟩
  ·rw[h0] at htk;refine zjA (a2 Z4 @hqs) ?_;exact⟨(ml',_,Rep',bU rp e' x.at',_),⟨hml',.inr ⟨J'.length,by rw[htk];simp,by rw[htk];simp⟩,(hr'.set2 hq' Qf4 _).app _,⟨by have:=vB rp e' x.at';dsimp only;omega,ck⟩⟩,rfl,rfl,rfl⟩
  ·simp only[Qs,htl] at hql;have hne:q≠ql:=fun e=>by subst e;rw[hq'] at hql;cases hql
   have hql2: ∀b,(J'.set q b)[ql]? =some (.vec 131 4 i):=fun b=>by rw[Qd hne];exact hql
   have hqll:ql<J'.length:=(gsi hql).1;refine zjA (a4 Z4 @hqs @hql2 @htl) ?_;exact⟨(ml',_,Rep',bU rp e' x.at',_),⟨hml',.inr ⟨ql,by rw[htk],by rw[Qh (by simp;exact hqll),htk];simp;omega⟩,(hr'.set2 hq' Qf4 _).set2 (hql2 _) Qf4 _,⟨by have:=vB rp e' x.at';dsimp only;omega,ck⟩⟩,rfl,rfl,rfl⟩
@[go_sem] def UTyp9f227.pl:Nat->DPlan
 |4=>⟨[yA,yA,yA,yA,yB,yA,yA,yA,yB,yC,yA,yA,yC],yN,0⟩
 |7=>⟨[yA,yA,yA,yA,yE,yA,yA,yA,yE,yA,yE,vC,yC],yN,1⟩
 |10=>⟨[yB,yA,yA,yA,yB,yC,yA],tV,0⟩
 |13=>⟨[yA,yA,yA,yA,yB,yA,yA,yB,yA,yA],xS,0⟩
 |17=>⟨[yA,yA,yA,yB,yA,yA,yA,yA,yB,yC,yA,yA,yA,yC],wS,0⟩
 |21=>⟨[yA,yA,yA,yA,yB,yA,yA,yA,yA,yB,yC,yA,yA,yA,yC],yG,0⟩
 |24=>⟨[yA,yA,yA,yA,yB,yA,yA,yA,yA,yB,yA,yA,yB,yA,yB,yA],xE,0⟩
 |_=>⟨[],[],0⟩
theorem GrowN.vec{off:Nat}{t:TypeId}{els:List (List PV)}{k:Nat}{J:Heap}{V:PV}(h:GrowN off t els k J V)(h0:0<els.length): ∃q,V= .vec (q+off) k els/\J[q]? =some (.vec t k els.length):=by
 rcases h with ⟨h,_⟩|h
 ·subst h;simp at h0
 ·exact h
theorem zb2(b0 b1:Blk)(pc:List PV)(ml mf mp:NM)(L F P R Rep:PV)(J:Heap)(pQ:List La)(hl: ∀x∈pQ,x.ok)(hll:pQ.length<=140737488355328)(hG:GrowN 7 131 (pQ.map La.c) 4 J L)(i:Nat)(hi:i<pQ.length)(s:BA):
  ECall prog G0 298 [.ptr 6 0,i64 i,yQ s] (SH b0 b1 pc ml mf mp L F P R Rep J) fun p h'=>(∃n:Int,p=i64 n/\ -1<=n/\n<pQ[i].pw.length)/\h'=SH b0 b1 pc ml mf mp L F P R Rep J:=by
 refine pv func298 18 false Qf6 rfl rfl ?_;refine g2 ?_;obtain⟨q,rfl,hq⟩:=hG.vec Qfk;have hx:=zG (f:=La.c) [] hi;have hxo:=hl _ (Qc hi);refine gf (a3 @hi @hx @zB) ?_;(refine g1f (a3 @hi @hx @zB) ?_;refine zC ((qH pQ[i].pw s hxo.e).call zK Qf4 _) ?_;intro p2 h2 hr2;refine g2 ?_);obtain⟨⟨n,rfl,h1,h2⟩,rfl⟩:=hr2;refine ge ?_;exact⟨⟨n,rfl,h1,h2⟩,rfl⟩
def But(q:Nat)(J J':Heap):Prop:= ∀(r:Nat)(b:Blk),r≠q->J[r]? =some b->J'[r]? =some b
theorem But.grow{q:Nat}{J J':Heap}(h:But q J J'){t:TypeId}{els:List (List PV)}{k:Nat}{V:PV}{b:Blk}(hq:J[q]? =some b)(hb: ∀k n,b≠ .vec t k n)(hG:GrowN 7 t els k J V):GrowN 7 t els k J' V:=by
 rcases hG with hG|⟨q',h1,hq'⟩
 ·exact .inl hG
 ·exact .inr ⟨q',h1,h q' _ (fun e=>by subst e;rw[hq] at hq';cases hq';exact hb _ _ rfl) hq'⟩
structure Sc(pQ:List La)(fs:List (Fu×PV))(ps:List Pd)(ml mf mp:NM)(L F P:PV)(J:Heap):Prop where
 lo: ∀x∈pQ,x.ok
 ll:pQ.length<=4
 l:GrowN 7 131 (pQ.map La.c) 4 J L
 f:GrowN 7 183 (fs.map Fu.c2) 7 J F
 fl:fs.length<=8
 p:GrowN 7 73 (ps.map Pd.c) 7 J P
 pl:ps.length<=24
 pb: ∀x∈ps, -1<=x.of'/\x.of'<pQ.length/\x.types.length<=4
 ml:NMap ml pQ.length
 mf:NMap mf fs.length
 mp:NMap mp ps.length
abbrev RuC(x:Ru)(B:PV):List PV:=[yQ x.name,i64 x.pred,zrX x.args,i64 x.elem.kind,yQ x.elem.name,yQ x.elem.var,i64 x.elem.ix,B,i64 x.at']
open UTyp9f227 in
theorem zjI(b0 b1:Blk)(pc:List PV)(ml mf mp:NM)(L F P R Rep:PV)(J:Heap)(pQ:List La)(fs:List (Fu×PV))(ps:List Pd)(hS:Sc pQ fs ps ml mf mp L F P J)(q:Nat)(x:Ru)(B:PV)(hq:J[q]? =some (.var 191 (RuC x B)))(hx:x.args.length<=4):
  ECall prog G0 227 [.ptr 6 0,.ptr (q+7) 0] (SH b0 b1 pc ml mf mp L F P R Rep J) fun p h'=> ∃(e pd ix:Int)(J':Heap),p=i64 e/\h'=SH b0 b1 pc ml mf mp L F P R Rep J'/\But q J J'/\J'[q]? =some (.var 191 (RuC {x with pred:=pd,elem:={x.elem with ix:=ix}} B))/\
   (e=0->(pd= -1/\x.name=eS)\/ ∃i:Nat,pd=i/\ ∃h:i<ps.length,x.args.length=ps[i].types.length):=by
 refine pv func227 132 false Qf6 rfl rfl ?_;refine g2 ?_;have hqlt:q<J.length:=(gsi hq).1;obtain⟨name,pred,args,⟨ek,en,ev,ei⟩,body,at'⟩:=x;dsimp only at*;have hqs: ∀b,(J.set q b)[q]? =some b:=fun b=>Qh hqlt;by_cases hn:name=eS
 ·subst hn;(repeat(first|refine gz ?_|(refine gn ?_;intro zs zh;(try simp only[go_sem,hq,hqs,Zu] at zh);subst zh;refine gv ?_)|refine yD UTyp9f227.pl ?_));exact⟨0, -1, -1,_,rfl,rfl,fun r b hr hb=>by rw[Qd (Ne.symm hr)];exact hb,hqs _,fun _=> .inl ⟨rfl,rfl⟩⟩
 ·(repeat(first|refine gz ?_|(refine gn ?_;intro zs zh;(try simp only[go_sem,hq,hqs,hn,Zu] at zh);subst zh;refine gv ?_)|refine yD UTyp9f227.pl ?_));(refine zF rfl rfl rfl ?_;intro zs zh;simp only[go_sem,hq,hqs,hn,Zu] at zh;subst zh;refine zP Qf5 Qf5 (lE _ 5 mp ps.length name rfl hS.mp) ?_;intro p2 h2 hr2;refine Go.AL.g2 ?_);obtain⟨pd,rfl,hp1,hp2,rfl⟩:=hr2;have hqs2: ∀b,((J.set q b)++[.non])[q]? =some b:=fun b=>by rw[Qg Qgf];exact hqs b
  by_cases hp0:pd<0
  ·have e1:decide (pd<0)=true:=by simp[hp0]
   (repeat(first|refine gz ?_|(refine gn ?_;intro zs zh;(try simp only[go_sem,hq,hqs,hn,Zu,e1] at zh);subst zh;refine gv ?_)|refine yD UTyp9f227.pl ?_));exact⟨70,pd, -1,_,rfl,rfl,fun r b hr hb=>by rw[Qd (Ne.symm hr)];exact hb,hqs _,fun h=>by omega⟩
  ·have e1:decide (pd<0)=false:=Qfk;obtain⟨i,rfl⟩:=Qm (show 0<=pd by omega);have hi:i<ps.length:=Qf3;obtain⟨qp,rfl,hqp⟩:=hS.p.vec Qfk;have hy:=zG (f:=Pd.c) [] hi;obtain⟨y,hye⟩: ∃y,ps[i]=y:=⟨_,rfl⟩
   have hyb:=hS.pb _ (Qc hi);rw[hye] at hy hyb;obtain⟨yn,yt,yl,yo,yb,yk,ya⟩:=y;dsimp only at hyb;(repeat(first|refine gz ?_|(refine gn ?_;intro zs zh;(try simp only[go_sem,hq,hqs,hqs2,hn,Zu,e1,hi,hy,zB,zA,zX] at zh);subst zh;refine gv ?_)|refine yD UTyp9f227.pl ?_));have h2q:(J.set q (.var 191 [yQ name,i64 i,zrX args,i64 ek,yQ en,yQ ev,i64 (-1),B,i64 at'])++[.var 73 [yQ yn,vF yt,yQ yl,i64 yo,bo yb,i64 yk,i64 ya]])[q]? =some (.var 191 [yQ name,i64 i,zrX args,i64 ek,yQ en,yQ ev,i64 (-1),B,i64 at']):=by rw[Qg Qgf];exact hqs _
   have h2y:=zA (J.set q (.var 191 [yQ name,i64 i,zrX args,i64 ek,yQ en,yQ ev,i64 (-1),B,i64 at'])) (.var 73 [yQ yn,vF yt,yQ yl,i64 yo,bo yb,i64 yk,i64 ya]);have Z:=(a2 @h2q @h2y)
   have h2k:But q J (J.set q (.var 191 [yQ name,i64 i,zrX args,i64 ek,yQ en,yQ ev,i64 (-1),B,i64 at'])++[.var 73 [yQ yn,vF yt,yQ yl,i64 yo,bo yb,i64 yk,i64 ya]]):=fun r b hr hb=>by
    rw[Qg (by simpa using (gsi hb).1),Qd (Ne.symm hr)];exact hb
   have hqy:q≠(J.set q (.var 191 [yQ name,i64 i,zrX args,i64 ek,yQ en,yQ ev,i64 (-1),B,i64 at'])).length:=by rw[Xb];omega
   generalize J.set q (.var 191 [yQ name,i64 i,zrX args,i64 ek,yQ en,yQ ev,i64 (-1),B,i64 at'])++[.var 73 [yQ yn,vF yt,yQ yl,i64 yo,bo yb,i64 yk,i64 ya]]=J2 at*;generalize (J.set q (.var 191 [yQ name,i64 i,zrX args,i64 ek,yQ en,yQ ev,i64 (-1),B,i64 at'])).length=qy at*;have hL2:=h2k.grow hq Qf4 hS.l;have hF2:=h2k.grow hq Qf4 hS.f;have h2lt:q<J2.length:=(gsi h2q).1;have h2s: ∀b,(J2.set q b)[q]? =some b:=fun b=>Qh h2lt;have h2t: ∀b,(J2.set q b)[qy]? =some (.var 73 [yQ yn,vF yt,yQ yl,i64 yo,bo yb,i64 yk,i64 ya]):=fun b=>by rw[Qd hqy];exact h2y
   have h2b: ∀b,But q J (J2.set q b):=fun b r c hr hc=>by rw[Qd (Ne.symm hr)];exact h2k r c hr hc
   clear hqs hqs2 hq;have fin: ∀(e:Int),e≠0-> ∃(e' pd ix:Int)(J':Heap),i64 e=i64 e'/\SH b0 b1 pc ml mf mp L F (.vec (qp+7) 7 (ps.map Pd.c)) R Rep J2=SH b0 b1 pc ml mf mp L F (.vec (qp+7) 7 (ps.map Pd.c)) R Rep J'/\But q J J'/\J'[q]? =some (.var 191 [yQ name,i64 pd,zrX args,i64 ek,yQ en,yQ ev,i64 ix,B,i64 at'])/\
     (e'=0->(pd= -1/\name=eS)\/ ∃i:Nat,pd=i/\ ∃h:i<ps.length,args.length=ps[i].types.length):=fun e he=>⟨e,i, -1,J2,rfl,rfl,h2k,h2q,fun h=>absurd h he⟩
   cases yb with
   |true=>
    refine gf Z ?_;exact fin 73 Qf5
   | false=>
    refine gf Z ?_;(refine zF rfl rfl rfl ?_;intro zs zh;simp only[go_sem,Z] at zh;subst zh;refine zP Qf5 Qf5 ((zcB ⟨yn,yt,yl,yo,false,yk,ya⟩ args Qf3 (by dsimp only;omega)).call zK Qfe _) ?_;intro p2 h2 hr2;refine Go.AL.g2 ?_);obtain⟨⟨e,rfl,he⟩,rfl⟩:=hr2;by_cases he0:e=0
    ·subst he0;have he:=he rfl;dsimp only at he;have e2:((0:Int)!=0)=false:=rfl;have okk:(i:Int)= -1/\name=eS\/ ∃j:Nat,(i:Int)=j/\ ∃h:j<ps.length,args.length=ps[j].types.length:= .inr ⟨i,rfl,hi,by rw[hye];exact he⟩;have fin2: ∀(e ix:Int),e≠0\/((i:Int)= -1/\name=eS\/ ∃j:Nat,(i:Int)=j/\ ∃h:j<ps.length,args.length=ps[j].types.length)-> ∃(e' pd ix':Int)(J':Heap),i64 e=i64 e'/\SH b0 b1 pc ml mf mp L F (.vec (qp+7) 7 (ps.map Pd.c)) R Rep (J2.set q (.var 191 [yQ name,i64 i,zrX args,i64 ek,yQ en,yQ ev,i64 ix,B,i64 at']))=SH b0 b1 pc ml mf mp L F (.vec (qp+7) 7 (ps.map Pd.c)) R Rep J'/\But q J J'/\J'[q]? =some (.var 191 [yQ name,i64 pd,zrX args,i64 ek,yQ en,yQ ev,i64 ix',B,i64 at'])/\
       (e'=0->(pd= -1/\name=eS)\/ ∃i:Nat,pd=i/\ ∃h:i<ps.length,args.length=ps[i].types.length):=fun e ix h=>⟨e,i,ix,_,rfl,rfl,h2b _,h2s _,fun h0=>h.resolve_left (fun k=>k h0)⟩
     by_cases hk0:((ek==0)!=decide (yo<0))=true
     ·refine gf (a3 Z @e2 @hk0) ?_;exact fin 72 Qf5
     ·simp only[Bool.not_eq_true] at hk0;by_cases hk1:ek=1
      ·subst hk1;have hyo:0<=yo:=by simp at hk0;omega
       obtain⟨yo,rfl⟩:=Qm hyo;refine gf (a3 Z @e2 @hk0) ?_;(refine zF rfl rfl rfl ?_;intro zs zh;simp only[go_sem,Z,e2,hk0] at zh;subst zh;refine zP Qf5 Qf5 (zb2 b0 b1 pc ml mf mp L F (.vec (qp+7) 7 (ps.map Pd.c)) R Rep J2 pQ hS.lo (by have:=hS.ll;omega) hL2 yo Qf3 en) ?_;intro p2 h2 hr2;refine Go.AL.g2 ?_);obtain⟨⟨ix,rfl,hx1,hx2⟩,rfl⟩:=hr2;by_cases hix:ix<0
       ·exact Qc9
       ·have e3:decide (ix<0)=false:=Qfk;refine gf (a3 Z @h2s @e3) ?_;exact fin2 0 ix (.inr okk)
      ·have e4:(ek==1)=false:=by simp[hk1]
       by_cases hk3:ek=3
       ·subst hk3;refine gf (a4 Z @e2 @hk0 @e4) ?_;(refine zF rfl rfl rfl ?_;intro zs zh;simp only[go_sem,Z,e2,hk0] at zh;subst zh;refine zP Qf5 Qf5 (lE _ 4 mf fs.length en rfl hS.mf) ?_;intro p2 h2 hr2;refine Go.AL.g2 ?_);obtain⟨ix,rfl,hx1,hx2,rfl⟩:=hr2;by_cases hix:ix<0
        ·exact Qc9
        ·have e3:decide (ix<0)=false:=Qfk;obtain⟨ix,rfl⟩:=Qm (show 0<=ix by omega);have hfx:ix<fs.length:=Qf3;obtain⟨qf,rfl,hqf⟩:=hF2.vec Qfk;have hfy:=zG (f:=Fu.c2) [] hfx;have Z1:=(a7 Z @h2s @h2t @e3 @hfx @hfy @zB)
         by_cases hof:fs[ix].1.of'=yo
         ·have e5:(fs[ix].1.of' !=yo)=false:=by simp[hof]
          refine gf (a2 Z1 @e5) ?_;exact fin2 0 ix (.inr okk)
         ·have e5:(fs[ix].1.of' !=yo)=true:=by simp[hof]
          refine gf (a2 Z1 @e5) ?_;exact fin2 72 ix (.inl Qf5)
       ·have e5:(ek==3)=false:=by simp[hk3]
        refine gf (a5 Z @e2 @hk0 @e4 @e5) ?_;exact⟨0,i, -1,J2,rfl,rfl,h2k,h2q,fun _=>okk⟩
    ·exact Qds
end Go.AL
