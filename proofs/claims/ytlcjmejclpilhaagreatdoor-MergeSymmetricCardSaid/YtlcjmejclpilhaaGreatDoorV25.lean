/-
  Part of the walk.
-/
import Derived.Test.YtlcjmejclpilhaaGreatDoorV24
set_option linter.unusedSimpArgs false
set_option linter.unusedVariables false
set_option maxRecDepth 100000
set_option maxHeartbeats 4000000
namespace Go.AL
open Go.Proofs Go.Proofs.Tryz
@[go_sem] def UCsx2f195.pp:Nat->DPlan
 |4=>⟨[yB,yA,yB,yA,yA,yB,yB,yA,yA,yA,yB,yB,uX,yA,yA,yC],xE,0⟩
 |_=>⟨[],[],0⟩
@[go_sem] def UCsx2f153.pl:Nat->DPlan
 |13=>⟨[yA,yA,yA,yB,yA,yA,yA,yA,yB,yA,yA,yA,yC,yA,yC,yC,yA,yC],yM,0⟩
 |_=>⟨[],[],0⟩
@[go_sem] def UCsx2f195.pl:Nat->DPlan
 |4=>⟨[⟨7,0,[1006]⟩,yA,yB,yA,yA,yB,yB,yA,yA,yA,yB,yB,⟨6,0,[1006]⟩,yA,yA,yC],xE,0⟩
 |_=>⟨[],[],0⟩
open UCsx2f195 in
theorem zq1(l_:La)(hl:l_.ok)(tb m1 m2:Nat)(es:List En)(h:Heap)(hT:TB l_ tb m1 m2 es h)(r:Nat)(ms0:List Int)(hms0:ms0.length=64)(hr0:h[r]? =some (.var 287 (ms0.map i64)))(a b e:Int):
  ECall prog G0 195 [.ptr tb 0,.ptr r 0,i64 a,i64 b,i64 e] h fun _ h'=> ∃(B:Heap),h'=h.set r (.var 287 ((dU l_ ms0 a b e).map i64))++B:=by
 refine pv func195 34 false Qf3 rfl rfl ?_;refine g2 ?_;have hrl:r<h.length:=(gsi hr0).1;have hself:h=h.set r (.var 287 (ms0.map i64)):=by
  obtain⟨h1,h2⟩:=gsi hr0;rw[<-h2,Js]
 refine gf (a4 @rU @sB @qK @rN) ?_;(refine Go.AL.g1f (a4 @rU @sB @qK @rN) ?_;refine zC (zgW l_ tb m1 m2 es _ ⟨by rw[Qg (gsi hT.t).1];exact hT.t,by rw[Qg (gsi hT.a).1];exact hT.a,by rw[Qg (gsi hT.b).1];exact hT.b,hT.n,fun x hx=>by obtain⟨ms,q1,q2⟩:=hT.l x hx;exact⟨ms,q1,by rw[Qg (gsi q2).1];exact q2⟩,hT.k,hT.d⟩ e) (yf0 ?_);rintro p2 h2 ⟨rfl,rfl⟩);unfold dU;cases hel:ze7 l_ e with
 |false=>
  rw[Qi Qf2];refine gf (a4 @rU @sB @qK @rN) ?_;exact⟨_,by rw[<-hself]⟩
 | true=>
  rw[Qj rfl];have hl0: ∀k,(tB (fun x=>zpP l_ x e) ms0 a k).length=64:=fun k=>yY ..;have hst:tB (fun x=>zpP l_ x e) ms0 a (zqT a:Nat)=ms0:=zdN hms0;refine gf (a4 @rU @sB @qK @rN) ?_;(refine Go.AL.g1f (a4 @rU @sB @qK @rN) ?_;refine zC (jQ a b _) (yf0 ?_);rintro p2 h2 ⟨rfl,rfl⟩);refine gf (a4 @rU @sB @qK @rN) ?_;refine tT (f:=309) (fst:=[]) (cap:=_) (fun _ h=>h) rfl ?_;simp only[Jc,Xx,Yj,Xz,Qv,Ql,Qn,Xv,Yd,Nat.reduceAdd,Ji,Ui];generalize hL:Blk.loop _ _ _ _ _ _=L;refine(zqH a b (h.length+3) (h.length+4) (h.length+5) (fun k h1=>h1=h.set r (.var 287 ((tB (fun x=>zpP l_ x e) ms0 a (k:Nat)).map i64))++[.var 235 [.ptr tb 0],.var 242 [.ptr r 0],.var 3 [i64 e],.var 3 [i64 a],.var 3 [i64 b],L]) _ (by rw[hst,<-hself]) ((sB h _ 3).trans rfl) ?_ ?_).mono ?_
  ·rintro k _ rfl;have:=sB (h.set r (.var 287 ((tB (fun x=>zpP l_ x e) ms0 a (k:Nat)).map i64))) [.var 235 [.ptr tb 0],.var 242 [.ptr r 0],.var 3 [i64 e],.var 3 [i64 a],.var 3 [i64 b],L] 4;rw[Xb] at this;exact this
  ·rintro k _ hklo hk64 hkb rfl;subst hL;have hstep:=zfE (g:=fun x=>zpP l_ x e) (ms:=ms0) hklo hk64;have hms:=hl0 (k:Nat);generalize tB (fun x=>zpP l_ x e) ms0 a (k:Nat)=ms at*;have htl:=(gsi hT.t).1;have hrt:r≠tb:=fun e=>by subst e;have:=hT.t;rw[hr0] at this;cases this
   have F0: ∀(X:Blk)(l:List Blk),(h.set r X++l)[h.length]? =l[0]? :=fun X l=>by have:=rU (h.set r X) l;rwa [Xb] at this
   have Fk: ∀(X:Blk)(l:List Blk)(k:Nat),(h.set r X++l)[h.length+k]? =l[k]? :=fun X l k=>by have:=sB (h.set r X) l k;rwa [Xb] at this
   have Sk: ∀(X:Blk)(l:List Blk)(k:Nat)(b:Blk),(h.set r X++l).set (h.length+k) b=h.set r X++l.set k b:=fun X l k b=>by have:=rN (h.set r X) l k b;rwa [Xb] at this
   have Ft: ∀(X:Blk)(l:List Blk),(h.set r X++l)[tb]? =some (.var 278 [yQ l_.name,rR l_.pw,.ts 2 (l_.pJ.map fun c=>[i64 c.1,i64 c.2]),i64 l_.at',.mp m1,.mp m2]):=fun X l=>by rw[Qg (by rw[Xb];exact htl),Qd hrt];exact hT.t
   have Fr: ∀(X:Blk)(l:List Blk),(h.set r X++l)[r]? =some X:=fun X l=>by rw[Qg Qgg,Qh hrl]
   have Sr: ∀(X Y:Blk)(l:List Blk),(h.set r X++l).set r Y=h.set r Y++l:=fun X Y l=>by rw[Ko _ _ Qgg,Wi]
   have hk:k<ms.length:=Qf0;have hd:=yU i64 ms k .un hk;have hgk:ms.getD k 0=ms[k]:=by rw[Qb,Qa hk];rfl
   rw[hgk] at hstep;have hjn:=zrU l_ hl ms[k] e;have hsp: ∀v,(ms.map i64).take k++i64 v::(ms.map i64).drop (k+1)=(ms.set k v).map i64:=fun v=>wY i64 ms k v hk;have hk6:((k:Int)<64)=True:=Qfh;have Z:=(a9 @F0 @Fk @Ft @Fr @Sr @hd @hsp @hk6 (a2 @hms @zB))
   refine⟨_,_,_,_,_,_,(Fk _ _ 5).trans rfl,rfl,?_⟩;refine Qcs ?_;simp only[rput,Xn,Xl];(repeat(first|refine gz ?_|(refine gn ?_;intro zs zh;(try simp only[go_sem,F0,Fk,Ft,Fr,Sk,Sr] at zh);subst zh;refine gv ?_)|refine yD UCsx2f195.pl ?_));refine⟨rfl,_,_,_,_,_,(Fk _ _ 5).trans rfl,?_⟩;refine Qcs ?_;simp only[Sk,Xn,Xl];refine Qdc ?_;(refine zF rfl rfl rfl ?_;intro sr hsr;simp only[go_sem,Z,Sk] at hsr;subst hsr;refine vP rfl (hjn) Qfb ?_;intro p2 hr2 ts2 hts;simp only[go_sem] at hts;subst hts);subst hr2;refine Qdc ?_;refine⟨_,_,_,_,_,_,(Fk _ _ 5).trans rfl,rfl,?_⟩;rw[Sk,hstep];rfl
  ·rintro p h' ⟨k,rfl,hk1,hk2⟩;subst hL;rw[znS hk1 hk2];have Fk: ∀(X:Blk)(l:List Blk)(k:Nat),(h.set r X++l)[h.length+k]? =l[k]? :=fun X l k=>by have:=sB (h.set r X) l k;rwa [Xb] at this
   have Sk: ∀(X:Blk)(l:List Blk)(k:Nat)(b:Blk),(h.set r X++l).set (h.length+k) b=h.set r X++l.set k b:=fun X l k b=>by have:=rN (h.set r X) l k b;rwa [Xb] at this
   refine⟨_,_,_,_,_,_,(Fk _ _ 5).trans rfl,Qf1,?_⟩;simp only[Sk,Xn,Xl];refine ge ?_;exact⟨_,rfl⟩
structure TBX(l:La)(tb m1 m2:Nat)(es:List En)(M:Nat->List Int)(h:Heap):Prop where
 tb:TB l tb m1 m2 es h
 m: ∀e∈es,(M e.r).length=64/\h[e.r]? =some (.var 287 ((M e.r).map i64))
 nd:(es.map (·.r)).Nodup
abbrev Tbl:=List (List Vl×List Int)
def tE(es:List En)(M:Nat->List Int):Tbl:=es.map fun e=>(e.a,M e.r)
noncomputable def vR(T:Tbl):List BA:=T.map fun x=>zk0 x.1
open Classical in
noncomputable def uZ(bt:Int)(T:Tbl)(args:List Vl):Tbl:=if zk0 args∈vR T then T else T++[(args,List.replicate 64 bt)]
noncomputable def oT(T:Tbl)(k:BA)(f:List Int->List Int):Tbl:=T.map fun x=>if zk0 x.1=k then(x.1,f x.2) else x
theorem zq7{es:List En}(hk: ∀e∈es,e.ok)(M:Nat->List Int):vR (tE es M)=es.map (·.k):=by
 unfold vR tE;rw[Zg];exact Yq fun e he=>(hk e he).2.2.symm
theorem zoS{s:BA}: ∀{es:List En}{j i:Nat}{p:PV},vV (.string s) (ma es) j=some (i,p)-> ∃e∈es,e.k=s/\p=PV.ptr e.r 0
 | [],_,_,_,h=>by simp[vV] at h
 | e::es,j,i,p,h=>by
  simp only[Xa,vV] at h;split at h
  ·rename_i hv;refine⟨e,Qe ..,by simpa [sY,eq_comm] using hv,?_⟩;simp at h;exact h.2.symm
  ·obtain⟨f,hf,h1,h2⟩:=zoS h;exact⟨f,Qf e hf,h1,h2⟩
attribute [-go_sem] kB
open UCsx2f153 in
theorem zqJ(l:La)(hl:l.ok)(tb m1 m2:Nat)(es:List En)(M:Nat->List Int)(h:Heap)(hX:TBX l tb m1 m2 es M h)(hz:es.length<=70368744177664)(args:List Vl)(ha:args.length<=1048576)(hs: ∀a∈args,a.s.size<=1048576):
  ECall prog G0 153 [.ptr tb 0,pH args] h fun p h'=> ∃(r:Nat)(es':List En)(M':Nat->List Int),p= .ptr r 0/\TBX l tb m1 m2 es' M' h'/\(∃e∈es',e.r=r/\e.k=zk0 args)/\Kp h h'/\es'.length<=es.length+1/\tE es' M'=uZ (oU l) (tE es M) args:=by
 have hT:=hX.tb;have hkk:=zq7 hT.k M;refine pv func153 56 false Qf3 rfl rfl ?_;refine g2 ?_;have hk:=zlY args ha hs;obtain⟨s,hsk⟩: ∃s,s=zk0 args:=⟨_,rfl⟩
 rw[<-hsk] at hk;have ht:=hT.t;have hma:=hT.a;refine gf @ht ?_;(refine Go.AL.g1f @ht ?_;refine zC (hk.call zK Qf1 _) ?_;intro p2 h2 hr2;refine Go.AL.g2 ?_);obtain ⟨rfl,e2⟩:=hr2;replace e2:=e2.symm;subst e2;cases hm:vV (.string s) (ma es) 0 with
 |some x=>
  obtain⟨j,p⟩:=x;have hlk:=zfR hma hm;obtain⟨e,he,hkey,rfl⟩:=zoS hm;refine gf (Go.AL.a3 @ht @hlk @zjX) ?_;refine⟨e.r,es,M,rfl,hX,⟨e,he,rfl,by rw[hkey,hsk]⟩,Kp.refl h,Qf0,?_⟩;have hin:zk0 args∈vR (tE es M):=by rw[hkk,<-hsk,<-hkey];exact Zi (f:=fun e:En=>e.k) he
  unfold uZ;rw[Qj hin]
 | none=>
  have hlk:=zfS hma hm;have htl:tb<h.length:=(gsi ht).1;have htA: ∀b:Blk,(h++[b])[tb]? =some (.var 278 [yQ l.name,rR l.pw,.ts 2 (l.pJ.map fun c=>[i64 c.1,i64 c.2]),i64 l.at',.mp m1,.mp m2]):=fun b=>by rw[Qg htl];exact ht
  refine gf (a5 @ht @hlk @htA @zjY @buL) ?_;(refine Go.AL.g1f (Go.AL.a3 @ht @hlk @htA) ?_;refine zC ((zj7 l hl).call zK Qfb _) ?_;intro p2 h2 hr2;refine Go.AL.g2 ?_);obtain ⟨rfl,e2⟩:=hr2;obtain⟨n,hbn⟩: ∃n,oU l=n:=⟨_,rfl⟩
  rw[hbn];replace e2:=e2.symm;subst e2;have hlA:=(gV hm)
  have hm':vV (.string s) (mb es) 0=none:=cT (fun e=> .ptr e.r 0) (fun e=>pH e.a) hm;have h0l:(0<=(es.length:Int))=True:=Qf1;have hdl:decide (es.length<=140737488355328)=true:=by rw[Xm];omega
  have g1: ∀(f:En->Value×PV)(x:Value×PV),(es.map f++[x])[es.length]? =some x:=fun f x=>by
   have:=Wb (l:=es.map f) (a:=x);rwa [Qr] at this
  have g2: ∀(f:En->Value×PV)(x y:Value×PV),(es.map f++[x]).set es.length y=es.map f++[y]:=fun f x y=>by
   have:es.length=(es.map f).length:=Qf1;rw[this,Zr _ _ (Xe _)];simp
  have LF: ∀(ms:List Int)(H1:Heap),ms.length=64->h++[.var 287 (ms.map i64)]=H1->LineAt H1 h.length/\H1[tb]? =some (.var 278 [yQ l.name,rR l.pw,.ts 2 (l.pJ.map fun c=>[i64 c.1,i64 c.2]),i64 l.at',.mp m1,.mp m2])/\H1[m1]? =some (.map (ma es))/\H1[m2]? =some (.map (mb es))/\H1.length=h.length+1/\ ∀(r:Nat)(b:Blk),h[r]? =some b->H1[r]? =some b:=by
   intro ms H1 hms hH;have hold: ∀(r:Nat)(b:Blk),h[r]? =some b->H1[r]? =some b:=fun r b hr=>by rw[<-hH,Qg (gsi hr).1];exact hr
   exact⟨⟨ms,hms,by rw[<-hH];simp⟩,hold _ _ ht,hold _ _ hma,hold _ _ hT.b,by rw[<-hH];simp,hold⟩
  have fin: ∀H1:Heap,LineAt H1 h.length->H1[tb]? =some (.var 278 [yQ l.name,rR l.pw,.ts 2 (l.pJ.map fun c=>[i64 c.1,i64 c.2]),i64 l.at',.mp m1,.mp m2])->H1[m1]? =some (.map (ma es))->H1[m2]? =some (.map (mb es))->(∀(r:Nat)(b:Blk),h[r]? =some b->H1[r]? =some b)->
    TB l tb m1 m2 (es++[⟨s,h.length,args⟩]) ((H1.set m1 (.map (ma es++[(Value.string s,PV.ptr h.length 0)]))).set m2 (.map (mb es++[(Value.string s,pH args)])))/\LineAt ((H1.set m1 (.map (ma es++[(Value.string s,PV.ptr h.length 0)]))).set m2 (.map (mb es++[(Value.string s,pH args)]))) h.length/\Kp h ((H1.set m1 (.map (ma es++[(Value.string s,PV.ptr h.length 0)]))).set m2 (.map (mb es++[(Value.string s,pH args)])))/\ ∀(r:Nat)(t:Nat)(cs:List PV),H1[r]? =some (.var t cs)->((H1.set m1 (.map (ma es++[(Value.string s,PV.ptr h.length 0)]))).set m2 (.map (mb es++[(Value.string s,pH args)])))[r]? =some (.var t cs):=by
   intro H1 hLA ht1 hma1 hmb1 hold;generalize hX:Blk.map (ma es++[(Value.string s,PV.ptr h.length 0)])=X;generalize hY:Blk.map (mb es++[(Value.string s,pH args)])=Y;have keep: ∀(r:Nat)(t:Nat)(cs:List PV),H1[r]? =some (.var t cs)->((H1.set m1 X).set m2 Y)[r]? =some (.var t cs):=fun r t cs hr=>by
    have n1:m1≠r:=fun e=>by subst e;rw[hma1] at hr;cases hr
    have n2:m2≠r:=fun e=>by subst e;rw[hmb1] at hr;cases hr
    rw[Qd n2,Qd n1];exact hr
   have lk: ∀r,LineAt H1 r->LineAt ((H1.set m1 X).set m2 Y) r:=fun r ⟨ms,a,b⟩=>⟨ms,a,keep _ _ _ b⟩
   refine⟨⟨keep _ _ _ ht1,?_,?_,hT.n,fun e he=> ?_,fun e he=> ?_,?_⟩,lk _ hLA,fun r b hr n1 n2=> ?_,keep⟩
   ·rw[Qd (Ne.symm hT.n),Qh (gsi hma1).1,<-hX,ma,ma,Xq];rfl
   ·rw[Qh (by rw[Xb];exact(gsi hmb1).1),<-hY,mb,mb,Xq];rfl
   ·rcases Qo.1 he with he|he
    ·obtain⟨ms,a,b⟩:=hT.l e he;exact lk _ ⟨ms,a,hold _ _ b⟩
    ·rw[Qp] at he;subst he;exact lk _ hLA
   ·rcases Qo.1 he with he|he
    ·exact hT.k e he
    ·rw[Qp] at he;subst he;exact⟨ha,hs,hsk⟩
   ·rw[Xq,Za];refine⟨hT.d,Qf1,fun a ha b hb=> ?_⟩;simp at hb;subst hb;intro e;subst e;obtain⟨x,hx,rfl⟩:=Xf.1 ha;exact hlA _ (Zi (f:=fun e:En=>(Value.string e.k,PV.ptr e.r 0)) hx) rfl
   ·have n1':m1≠r:=fun e=>by subst e;rw[hma] at hr;cases hr;exact n2 _ rfl
    have n2':m2≠r:=fun e=>by subst e;rw[hT.b] at hr;cases hr;exact n2 _ rfl
    rw[Qd n2',Qd n1'];exact hold r b hr
  have wrap: ∀(ms:List Int)(H1 H2:Heap),ms=List.replicate 64 n->h++[.var 287 (ms.map i64)]=H1->TB l tb m1 m2 (es++[⟨s,h.length,args⟩]) H2->Kp h H2->(∀(r:Nat)(t:Nat)(cs:List PV),H1[r]? =some (.var t cs)->H2[r]? =some (.var t cs))->
    ∃(r:Nat)(es':List En)(M':Nat->List Int),PV.ptr h.length 0= .ptr r 0/\TBX l tb m1 m2 es' M' H2/\(∃e∈es',e.r=r/\e.k=zk0 args)/\Kp h H2/\es'.length<=es.length+1/\tE es' M'=uZ n (tE es M) args:=by
   intro ms H1 H2 hms hH hTB hKp hkeep;have hlt: ∀e∈es,e.r≠h.length:=fun e he q=>by
    have:=(gsi (hX.m e he).2).1;omega
   have hM1: ∀e∈es,(if e.r=h.length then List.replicate 64 n else M e.r)=M e.r:=fun e he=>Qi (hlt e he);refine⟨h.length,es++[⟨s,h.length,args⟩],fun q=>if q=h.length then List.replicate 64 n else M q,rfl,⟨hTB,fun e he=> ?_,?_⟩,⟨_,Yh _ (Qp.2 rfl),rfl,hsk⟩,hKp,Qf1,?_⟩
   ·rcases Qo.1 he with he|he
    ·rw[hM1 e he];refine⟨(hX.m e he).1,hkeep _ _ _ ?_⟩;rw[<-hH,Qg (gsi (hX.m e he).2).1];exact(hX.m e he).2
    ·rw[Qp] at he;subst he;rw[Qj rfl];refine⟨Qf1,hkeep _ _ _ ?_⟩;rw[<-hH,hms];simp
   ·rw[Xq,Za];refine⟨hX.nd,Qf1,fun a ha b hb=> ?_⟩;simp at hb;subst hb;obtain⟨e,he,rfl⟩:=Xf.1 ha;exact hlt e he
   ·unfold uZ;have hin: ¬zk0 args∈vR (tE es M):=by
     rw[hkk,<-hsk];intro q;obtain⟨e,he,hek⟩:=Xf.1 q;exact hlA _ (Zi (f:=fun e:En=>(Value.string e.k,PV.ptr e.r 0)) he) (by rw[hek])
    rw[Qi hin];unfold tE;rw[Xq];congr 1
    ·exact Yq fun e he=>by dsimp only;rw[hM1 e he]
    ·simp
  by_cases hn0:n=0
  ·have hb:(n !=0)=false:=by simp[hn0]
   generalize hH:h++[Blk.var 287 _]=H1 at*;have hH0:=hH;obtain⟨hLA,ht1,hma1,hmb1,hnew,hold⟩:=LF (List.replicate 64 0) H1 rfl hH;have f2: ∀b:Blk,(H1.set m1 b)[m1]? =some b:=fun b=>Qh (gsi hma1).1;have f3: ∀b:Blk,(H1.set m1 b)[m2]? =some (.map (mb es)):=fun b=>by rw[Qd hT.n];exact hmb1
   have f4: ∀b c:Blk,((H1.set m1 b).set m2 c)[m2]? =some c:=fun b c=>Qh (gsi (f3 b)).1;(repeat(first|refine gz ?_|(refine gn ?_;intro zs zh;(try simp only[go_sem,hb,ht1,hma1,tmL,ziL,tmA,ziA,dJ,zaT,zm1,hm,hm',hdl,f2,f3,f4,g1,g2,h0l,Wi,Qr,Jl,zaS] at zh);subst zh;refine gv ?_)|refine yD UCsx2f153.pl ?_));obtain⟨a1,a2,a3,a4⟩:=fin H1 hLA ht1 hma1 hmb1 hold;exact wrap (List.replicate 64 0) H1 _ (by rw[hn0]) hH0 a1 a3 a4
  ·have hb:(n !=0)=true:=by simp[hn0]
   refine gf (Go.AL.a2 @hb @htA) ?_;refine zO 64 (K9 (.d::K9 (K9 (.k:: .k:: .v::D4 (D4 (K9 (K4 (K4 ([]))))))))) (own:=false) (fun i (_:List Int)=>[i64 i]) (fun s=>h++[.var 287 (s.map i64)]) (fun i s=>s.length=64/\ ∀j,j<64->s.getD j 0=if j<i then n else 0) (List.replicate 64 0) rfl rfl ⟨rfl,fun j hj=>by rw[Qi (Xt j),Qb,Zf,Qj hj];rfl⟩ Qf0 ?_ ?_
   ·rintro ms ⟨hms,hmv⟩;refine gm ?_;have hmr:ms=List.replicate 64 n:=mH hms Qf1 fun j hj=>by rw[hmv j hj,Qj hj,Qb,Zf,Qj hj];rfl
    have h64:(((64:Nat):Int)<64)=False:=Qf1;refine gf @h64 ?_;obtain⟨H1,hH⟩: ∃H1,h++[Blk.var 287 (ms.map i64)]=H1:=⟨_,rfl⟩
    rw[hH];have hH0:=hH;obtain⟨hLA,ht1,hma1,hmb1,hnew,hold⟩:=LF ms H1 hms hH;have f2: ∀b:Blk,(H1.set m1 b)[m1]? =some b:=fun b=>Qh (gsi hma1).1;have f3: ∀b:Blk,(H1.set m1 b)[m2]? =some (.map (mb es)):=fun b=>by rw[Qd hT.n];exact hmb1
    have f4: ∀b c:Blk,((H1.set m1 b).set m2 c)[m2]? =some c:=fun b c=>Qh (gsi (f3 b)).1;(repeat(first|refine gz ?_|(refine gn ?_;intro zs zh;(try simp only[go_sem,h64,ht1,hma1,tmL,ziL,tmA,ziA,dJ,zaT,zm1,hm,hm',hdl,f2,f3,f4,g1,g2,h0l,Wi,Qr,Jl,zaS] at zh);subst zh;refine gv ?_)|refine yD UCsx2f153.pl ?_));obtain⟨a1,a2,a3,a4⟩:=fin H1 hLA ht1 hma1 hmb1 hold;exact wrap ms H1 _ hmr hH0 a1 a3 a4
   ·rintro i ms hi hw ⟨hms,hmv⟩;refine gm ?_;have h64:((i:Int)<64)=True:=Qfh;have hi64:i<ms.length:=Qf0;have hsp: ∀v,(ms.map i64).take i++i64 v::(ms.map i64).drop (i+1)=(ms.set i v).map i64:=fun v=>wY i64 ms i v hi64;refine gf (a8 @h64 @hi @hw @zB @zA @zX @hms @hsp) ?_;refine⟨ms.set i n,⟨by simpa using hms,fun j hj=> ?_⟩,rfl,rfl,rfl⟩;rw[zqE hi64];by_cases q:j=i
    ·rw[Qj q,Qj Qf0]
    ·rw[Qi q,hmv j hj];by_cases q2:j<i
     ·rw[Qj q2,Qj Qf0]
     ·rw[Qi q2,Qi Qf0]
attribute [go_sem] kB
theorem TBX.keep{l:La}{tb m1 m2:Nat}{es:List En}{M:Nat->List Int}{h:Heap}(hX:TBX l tb m1 m2 es M h)(B:Heap):TBX l tb m1 m2 es M (h++B):=
 ⟨hX.tb.keep (yJ _ _),fun e he=>⟨(hX.m e he).1,yJ _ _ _ _ (hX.m e he).2⟩,hX.nd⟩
theorem sJ{α β:Type}{f:α->β}: ∀{l:List α},(l.map f).Nodup-> ∀{x y:α},x∈l->y∈l->f x=f y->x=y
 | [],_,x,_,hx,_,_=>by cases hx
 | z::l,h,x,y,hx,hy,e=>by
  rw[Xa,Zs] at h;rcases Qw.1 hx with ex|hx1
  ·rcases Qw.1 hy with ey|hy1
   ·rw[ex,ey]
   ·exfalso;apply h.1;rw[<-ex,e];exact Zi hy1
  ·rcases Qw.1 hy with ey|hy1
   ·exfalso;apply h.1;rw[<-ey,<-e];exact Zi hx1
   ·exact sJ h.2 hx1 hy1 e
theorem TBX.upd{l:La}{tb m1 m2:Nat}{es:List En}{M:Nat->List Int}{h:Heap}(hX:TBX l tb m1 m2 es M h){r:Nat}{k:BA}(he: ∃e∈es,e.r=r/\e.k=k){ms:List Int}(hms:ms.length=64)(f:List Int->List Int)(hf:f (M r)=ms)(B:Heap):
  TBX l tb m1 m2 es (fun q=>if q=r then ms else M q) (h.set r (.var 287 (ms.map i64))++B)/\tE es (fun q=>if q=r then ms else M q)=oT (tE es M) k f:=by
 obtain⟨e0,he0,rfl,rfl⟩:=he;obtain⟨h1,h2⟩:=hX.m e0 he0;have hrl:=(gsi h2).1;refine⟨⟨hX.tb.line ⟨_,h1,h2⟩ hms B,fun e he=> ?_,hX.nd⟩,?_⟩
 ·by_cases q:e.r=e0.r
  ·rw[Qj q,q];exact⟨hms,yJ _ _ _ _ (Qh hrl)⟩
  ·rw[Qi q];exact⟨(hX.m e he).1,yJ _ _ _ _ (by rw[Qd (Ne.symm q)];exact(hX.m e he).2)⟩
 ·unfold tE oT;rw[Zg];refine Yq fun e he=> ?_;dsimp only[Function.comp_apply];rw[<-(hX.tb.k e he).2.2];by_cases q:e.k=e0.k
  ·have:=sJ hX.tb.d he he0 q;subst this;rw[Qj rfl,Qj rfl,hf]
  ·have q2:e.r≠e0.r:=fun w=>q (by rw[sJ hX.nd he he0 w]);rw[Qi q,Qi q2]
noncomputable def zoG(l:La)(T:Tbl)(x:LRw):Tbl:=x.cs.foldl (fun T c=>oT T (zk0 x.args) fun ms=>dU l ms c.a c.b c.e) (uZ (oU l) T x.args)
noncomputable def xU(l:La)(rs:List LRw):Tbl:=rs.foldl (zoG l) []
theorem zeA{l:La}{ms:List Int}{a b e:Int}(h:ms.length=64):(dU l ms a b e).length=64:=by
 unfold dU;split
 ·exact yY ..
 ·exact h
theorem zqF(l:La)(hl:l.ok)(rs:List LRw)(hrs:rs.length<=1099511627776)(hr: ∀x∈rs,x.ok)(h:Heap):
  ECall prog G0 144 [.agg l.c,.tc 1 [[vD rs]]] h fun p h'=> ∃(tb m1 m2:Nat)(es:List En)(M:Nat->List Int),p= .ptr tb 0/\TBX l tb m1 m2 es M h'/\Kp h h'/\es.length<=rs.length/\tE es M=xU l rs:=by
 refine pv func144 54 false Qf3 rfl rfl ?_;refine g2 ?_;refine gf (a4 @rU @sB @qK @rN) ?_;refine zO 1 (K4 (.k:: .k:: .k:: .d:: .k:: .d:: .d:: .k:: .d::K4 (.k:: .k:: .k:: .v::D9 (D9 (D9 (D4 (.d:: .k::[]))))))) (own:=false) (fun i (s:Heap×List En×(Nat->List Int))=>[i64 i]) (fun s=>s.1) (fun i s=>TBX l (h.length+3) (h.length+1) (h.length+2) s.2.1 s.2.2 s.1/\Kp h s.1/\s.2.1.length<=i*rs.length/\tE s.2.1 s.2.2=if i=0 then [] else xU l rs) (_,[],fun _=>[]) rfl rfl ⟨⟨⟨by rw[sB];rfl,by rw[sB];rfl,by rw[sB];rfl,Qf0,Qf1,Qf1,Qf1⟩,Qf1,Qf1⟩,Kp.app _ _,Qf1,rfl⟩ Qf0 ?_ ?_
 ·rintro⟨H,es,M⟩ ⟨hX,hK,hn,hTab⟩ t ht;dsimp only at*;rw[Qi Qf0] at hTab;simp only[zY] at ht;subst ht;have h1:(((1:Nat):Int)<1)=False:=Qf1;refine gf @h1 ?_;exact⟨_,_,_,es,M,rfl,hX,hK,Qf0,hTab⟩
 ·rintro i ⟨H,es,M⟩ hi hw ⟨hX,hK,hn,hTab⟩ t ht;dsimp only at*;simp only[zY] at ht;subst ht;have hi0:i=0:=Qf0;subst hi0;rw[Qj rfl] at hTab;refine gf @hw ?_;refine zO rs.length (K9 (.d:: .d:: .k:: .d::K9 (K4 (.v::D9 (D9 (D4 (.d:: .d:: .d:: .k:: .k::[]))))))) (own:=false) (fun i (s:Heap×List En×(Nat->List Int))=>[i64 i]) (fun s=>s.1) (fun j s=>TBX l (h.length+3) (h.length+1) (h.length+2) s.2.1 s.2.2 s.1/\Kp h s.1/\s.2.1.length<=j/\tE s.2.1 s.2.2=xU l (rs.take j)) (H,es,M) rfl rfl ⟨hX,hK,by simpa using hn,hTab⟩ Qf0 ?_ ?_
  ·rintro⟨H,es,M⟩ ⟨hX,hK,hn,hTab⟩ t ht;dsimp only at*;rw[Yt] at hTab;simp only[zY] at ht;subst ht;refine gf (a2 @hw @zM) ?_;exact⟨(H,es,M),⟨hX,hK,by dsimp only;omega,by dsimp only;rw[Qi Qf0];exact hTab⟩,rfl,rfl,rfl⟩
  ·rintro j ⟨H,es,M⟩ hj zg1 ⟨hX,hK,hn,hTab⟩ t ht;dsimp only at*;simp only[zY] at ht;subst ht;have hx:=zG (f:=LRw.c) [] hj;have F:=(a6 @hj @hx @zB @zg1 @zA @zX)
   have hxo:=hr _ (Qc hj);have hst:xU l (rs.take (j+1))=zoG l (xU l (rs.take j)) rs[j]:=by
    unfold xU;rw[Xh hj,Jn];rfl
   rw[<-hTab] at hst;generalize rs[j]=x at*;obtain⟨hx1,hx2,hx3⟩:=hxo;refine gf F ?_;(refine g1f F ?_;refine zC (zqJ l hl _ _ _ es M _ (hX.keep _) Qf0 x.args hx1 hx3) (yf0 ?_);rintro p2 h2 ⟨r,es',M2,rfl,hX2,hL2,hK2,hn2,hTab2⟩);have ybB:=hK2 H.length _ (zA H _) Qf1 Qf1;have hK3:=(hK.trans (Kp.app _ _)).trans hK2;refine gf (a5 @hj @hx @zB @zg1 @ybB) ?_;refine zO x.cs.length (K9 (.k:: .k:: .k:: .d::K9 (K9 (K4 (.k:: .k:: .v::D9 (D4 (.k:: .k:: .k::[]))))))) (own:=false) (fun i (s:Heap×(Nat->List Int))=>[i64 i]) (fun s=>s.1) (fun k s=>TBX l (h.length+3) (h.length+1) (h.length+2) es' s.2 s.1/\Kp h s.1/\tE es' s.2=(x.cs.take k).foldl (fun T c=>oT T (zk0 x.args) fun ms=>dU l ms c.a c.b c.e) (uZ (oU l) (tE es M) x.args)) (_,M2) rfl rfl ⟨hX2,hK3,hTab2⟩ Qf0 ?_ ?_
   ·rintro⟨H4,M4⟩ ⟨hX4,hK4,hTab4⟩ t ht;dsimp only at*;rw[Yt] at hTab4;simp only[zY] at ht;subst ht;refine gf (a2 @zg1 @zM) ?_;exact⟨(H4,es',M4),⟨hX4,hK4,by dsimp only;omega,hTab4.trans hst.symm⟩,rfl,rfl,rfl⟩
   ·rintro k ⟨H4,M4⟩ hk zy4 ⟨hX4,hK4,hTab4⟩ t ht;dsimp only at*;simp only[zY] at ht;subst ht;have hy:=zG (f:=Ce.c) [] hk;have F1:=(a6 @hk @hy @zB @zy4 @zA @zX)
    have hst2:(x.cs.take (k+1)).foldl (fun T c=>oT T (zk0 x.args) fun ms=>dU l ms c.a c.b c.e) (uZ (oU l) (tE es M) x.args)=oT (tE es' M4) (zk0 x.args) fun ms=>dU l ms x.cs[k].a x.cs[k].b x.cs[k].e:=by
     rw[Xh hk,Jn,<-hTab4];rfl
    generalize x.cs[k]=y at*;obtain⟨e0,he0,hr0,hk0⟩:=hL2;obtain⟨q1,q2⟩:=hX4.m e0 he0;rw[hr0] at q1 q2;refine gf F1 ?_;(refine g1f F1 ?_;refine zC (zq1 l hl _ _ _ es' _ (hX4.tb.keep (yJ _ _)) r (M4 r) q1 (yJ _ _ _ _ q2) y.a y.b y.e) (yf0 ?_);rintro p2 h2 ⟨B,rfl⟩);have hms:=zeA (l:=l) (a:=y.a) (b:=y.b) (e:=y.e) q1;obtain⟨u1,u2⟩:=(hX4.keep [Blk.var 208 y.c]).upd ⟨e0,he0,hr0,hk0⟩ hms (fun ms=>dU l ms y.a y.b y.e) rfl B;refine gf @zy4 ?_;exact⟨(_,_),⟨u1,(hK4.trans (Kp.app _ _)).trans (Kp.line ⟨_,q1,yJ _ _ _ _ q2⟩ hms B),u2.trans hst2.symm⟩,rfl,rfl,rfl⟩
def zbI(bt:Int)(x:List Vl×List Int):Option LRw:=if zh6 bt x.2 64=[] then none else some ⟨x.1,zh6 bt x.2 64⟩
def uY(bt:Int)(T:Tbl):List LRw:=(T.filterMap (zbI bt)).mergeSort fun x y=> !ltOf sD y.args x.args
theorem zn2{α β:Type}(g:α->Option β): ∀es:List α,((List.range es.length).filterMap fun i=>(es[i]?).bind g)=es.filterMap g
 | []=>rfl
 |e::es=>by
  rw[Qn,List.range_succ_eq_map,Kd,List.filterMap_map];have:=zn2 g es;simp only[Ws,Jq];have e2:((fun i=>((e::es)[i]?).bind g)∘Nat.succ)=fun i=>(es[i]?).bind g:=by funext i;simp
  rw[e2,this];cases h:g e with
  |none=>rw[List.filterMap_cons_none h]
  |some b=>rw[List.filterMap_cons_some h]
theorem zbK(bt:Int)(T:Tbl):(uY bt T).Perm (T.filterMap (zbI bt))/\(uY bt T).Pairwise N.rxL':=by
 unfold uY;refine⟨List.mergeSort_perm _ _,?_⟩;have hO:=zqQ.swo;have:=List.pairwise_mergeSort (le:=fun x y:LRw=> !ltOf sD y.args x.args) (fun a b c h1 h2=>by
  simp only[Bool.not_eq_true'] at h1 h2 ⊢
  exact hO.ntrans _ _ _ h2 h1) (fun a b=>by
  cases h:ltOf sD b.args a.args with
  |false=>simp
  | true=>
   have:ltOf sD a.args b.args=false:=by
    cases h':ltOf sD a.args b.args with
    |false=>rfl
    |true=>have:=hO.trans _ _ _ h h';rw[hO.irrefl] at this;cases this
   simp[this]) (T.filterMap (zbI bt))
 exact this.imp fun h=>by simpa using h
theorem zqO(l:La)(hl:l.ok)(tb m1 m2:Nat)(es:List En)(M:Nat->List Int)(h:Heap)(hX:TBX l tb m1 m2 es M h)(hz:es.length<=2199023255552):
  ECall prog G0 145 [.ptr tb 0] h fun p _=>p=vD (uY (oU l) (tE es M)):=by
 have hT:=hX.tb;have hn:=N.rel_n l hl tb m1 m2 es h hT hz (fun e=>M e.r) hX.m;obtain⟨rs0,h0⟩: ∃rs0,rs0=(List.range es.length).filterMap (N.rowOf (oU l) (fun e=>M e.r) es):=⟨_,rfl⟩
 rw[<-h0] at hn;have hmem: ∀a∈rs0, ∃i e,es[i]? =some e/\a.args=e.a/\N.rowOf (oU l) (fun e=>M e.r) es i=some a:=fun a ha=>by
  rw[h0,List.mem_filterMap] at ha;obtain⟨i, -,hi⟩:=ha;have hi':=hi;unfold N.rowOf at hi;cases he:es[i]? with
  |none=>rw[he] at hi;cases hi
  |some e=>
   rw[he] at hi;simp only[Jq] at hi;split at hi
   ·cases hi
   ·cases hi;exact⟨i,e,he,rfl,hi'⟩
 have hone: ∀a∈rs0, ∀b∈rs0,a.args=b.args->a=b:=fun a ha b hb hab=>by
  obtain⟨i,e,he,ea,ra⟩:=hmem a ha;obtain⟨j,f,hf,fb,rb⟩:=hmem b hb;have hk:e.k=f.k:=by rw[(hT.k e (Qk he)).2.2,(hT.k f (Qk hf)).2.2,<-ea,<-fb,hab]
  have hij:i=j:=by
   have hd:=Zd.1 hT.d;have hi:=(gsi he)
   have hj:=(gsi hf)
   obtain⟨hi1,hi2⟩:=hi;obtain⟨hj1,hj2⟩:=hj;rcases Jy i j with q|q|q
   ·exact absurd (by rw[Xu,Xu,hi2,hj2];exact hk) (hd i j (by simpa using hi1) (by simpa using hj1) q)
   ·exact q
   ·exact absurd (by rw[Xu,Xu,hi2,hj2];exact hk.symm) (hd j i (by simpa using hj1) (by simpa using hi1) q)
  subst hij;rw[ra] at rb;exact Option.some.inj rb
 have hfm:rs0=(tE es M).filterMap (zbI (oU l)):=by
  rw[h0,tE,List.filterMap_map];exact zn2 _ es
 obtain⟨hT1,hT2⟩:=zbK (oU l) (tE es M);rw[<-hfm] at hT1;generalize uY (oU l) (tE es M)=T at*;have htb:zU 40 (vD T)=true:=all_map fun x=>by
  exact Qc9
 refine⟨vD T,h.map (zm2 h.length [] 0),rfl,?_⟩
 ·refine ACall.weaken (ACall.cut2 h.length 0 40 (Xe _) (hn.mono ?_));rintro p h' ⟨hh,xs,hO,hR,hp,hs⟩;have hxT:xs.map (·.1.1)=T:=aG zqQ (fun r:LRw=>r.args) hp hT1 hone hs hT2;refine⟨vD T,?_,rfl,?_⟩
  ·rw[<-hxT];exact zl9 (Nat.le_succ _) hO hR
  ·unfold zk3;rw[hh];refine Yq fun b _=> ?_;exact fzB0 _ _ _ b
@[go_sem] def UCsx5f79.pl:Nat->DPlan
 |11=>⟨[yA,yB,yA,yA,yA,yB,yA,yA,yB,yC,yA,yA],xF,0⟩
 |_=>⟨[],[],0⟩
theorem zn7(l:La)(hl:l.ok):EPure prog G0 141 [.agg l.c] fun v=>v=bo (uE l==0):=by
 refine ECall.cut (R:=fun v _=>v=bo (uE l==0)) (pv func141 6 false Qf3 rfl rfl ?_) Qgi;refine g2 ?_;refine ge ?_;(refine g1 ?_;refine zC ((zjV l hl).1.call zK Qfb _) (yf0 ?_);rintro p2 h2 ⟨rfl,rfl⟩);refine ge ?_;rfl
theorem zp9(x y:LRw)(hx:x.args.length<=140737488355328)(hx2:x.cs.length<=140737488355328):EPure prog G0 146 [.agg x.c,.agg y.c] fun v=>v=bo (ze8 (x=y)):=by
 refine ECall.cut (R:=fun v _=>v=bo (ze8 (x=y))) (pv func146 17 false Qf3 rfl rfl ?_) Qgi;refine g2 ?_;refine ge ?_;(refine g1 ?_;refine zC ((zjE x.args y.args hx).call zK Qfb _) (yf0 ?_);rintro p2 h2 ⟨rfl,rfl⟩);by_cases h1:x.args=y.args
 ·rw[Yz h1];refine ge ?_;(refine g1 ?_;refine zC ((zrD x.cs y.cs hx2).call zK Qfb _) (yf0 ?_);rintro p2 h2 ⟨rfl,rfl⟩);refine ge ?_;by_cases h2:x.cs=y.cs
  ·rw[Yz h2,pO Qh2]
  ·rw[Zy h2,uA fun q=>h2 (by rw[q])]
 ·rw[Zy h1,uA fun q=>h1 (by rw[q])];refine ge ?_;rfl
theorem zpO(a b:List LRw)(ha:a.length<=140737488355328)(g:FuncId)(hF: ∀x∈a, ∀y∈b,EPure prog G0 g [.agg x.c,.agg y.c] fun p=>p=bo (ze8 (x=y))):EPure prog G0 143 [.ts 2 (a.map LRw.c),.ts 2 (b.map LRw.c),.fn (.func g) [] []] fun r=>r=bo (ze8 (a=b)):=by
 refine ECall.cut (R:=fun p _=>p=bo (ze8 (a=b))) (pv func143 32 false Qf3 rfl rfl ?_) Qgi;refine g2 ?_;by_cases hl:a.length=b.length
 ·have hne:((a.length:Int)!=(b.length:Int))=false:=Qf5;refine gf @hne ?_;refine zO a.length (K4 (.k:: .k::D4 (K4 (.k:: .k:: .k:: .v::D9 (D4 (.d::[])))))) (own:=false) (fun i (_:Heap)=>[i64 i]) (fun J=>J) (fun i _=> ∀(j:Nat)(h:j<a.length)(h':j<b.length),j<i->a[j]=b[j]) [] rfl rfl (fun _ _ _ h=>absurd h (Xt _)) ha ?_ ?_
  ·rintro _ hI;refine gm ?_;rw[pO (Zc hl fun j h h'=>hI j h h' h)];exact Qd9
  ·rintro i J hi hw hI;refine gm ?_;have hlb:i<b.length:=Qf0;have hg:=zG (f:=LRw.c) [] hi;have hgb:=zG (f:=LRw.c) [] hlb;have F:=(a9 @hi @hlb @hw @hg @hgb @zB @qK @rN (a2 @rU @sB))
   have hFx:=hF _ (Qc hi) _ (Qc hlb);have no: ¬a[i]=b[i]->ze8 (a=b)=false:=fun h=>uA fun q=>h (by subst q;rfl);have next:a[i]=b[i]-> ∀(j:Nat)(h:j<a.length)(h':j<b.length),j<i+1->a[j]=b[j]:=fun q j h h' hj=>by
    rcases Xy j i with r|r
    ·exact hI j h h' r
    ·exact Qbn
   clear hI;generalize a[i]=x at*;generalize b[i]=y at*;refine gf F ?_;(refine g1f F ?_;refine zC (hFx.call zK Qfb _) (yf0 ?_);rintro p2 h2 ⟨rfl,rfl⟩);by_cases hxy:x=y
   ·rw[pO hxy];refine gf F ?_;exact⟨_,next hxy,rfl,rfl,rfl⟩
   ·rw[uA hxy,no hxy];refine gf F ?_;rfl
 ·have hne:((a.length:Int)!=(b.length:Int))=true:=Qfh;rw[uA fun q=>hl (by rw[q])];refine gf @hne ?_;rfl
def CelX(l:La)(ty:List Int)(rs:List LRw):Prop:=uE l=0/\(∀x∈rs,ArgX ty x.args)/\rs=uY (oU l) (xU l rs)
open UCsx5f79 in
theorem zqA(l:La)(hl:l.ok)(ty:List Int)(hty:ty.length<=1048576)(rs:List LRw)(hrs:rs.length<=1099511627776)(hr: ∀x∈rs,x.args.length<=1099511627776/\x.cs.length<=1099511627776):
  EPure prog G0 79 [.agg l.c,vF ty,vD rs] fun v=>v=bo (ze8 (CelX l ty rs)):=by
 refine ECall.cut (R:=fun v _=>v=bo (ze8 (CelX l ty rs))) (pv func79 55 false Qf3 rfl rfl ?_) Qgi;refine g2 ?_;refine ge ?_;(refine g1 ?_;refine zC ((zn7 l hl).call zK Qfb _) (yf0 ?_);rintro p2 h2 ⟨rfl,rfl⟩);by_cases hc:uE l=0
 case neg=>
  rw[We.2 hc,uA fun k=>hc k.1];refine ge ?_;rfl
 rw[Zm.2 hc];refine ge ?_;refine zO rs.length (K4 (.k:: .k:: .d:: .k:: .d:: .d:: .d::K4 (.k:: .v::D9 (D9 (D9 (D4 (K4 (.k:: .k:: .k::[])))))))) (own:=false) (fun i (_:Heap)=>[i64 i]) (fun J=> .var 131 l.c::J) (fun i _=> ∀(j:Nat)(h:j<rs.length),j<i->ArgX ty rs[j].args) [] rfl rfl (fun j _ hj=>absurd hj (Xt _)) Qf0 ?_ ?_
 ·rintro J hI;refine gm ?_;have hall: ∀x∈rs,ArgX ty x.args:=fun x hx=>by obtain⟨j,hj,rfl⟩:=Qy hx;exact hI j hj hj
  have hok: ∀x∈rs,x.ok:=fun x hx=>⟨by rw[(hall x hx).1];omega,(hr x hx).2,(hall x hx).sz⟩
  refine gf @zM ?_;(refine g1 ?_;refine zC (zqF l hl rs hrs hok _) (yf0 ?_);rintro p2 h2 ⟨tb,m1,m2,es,M,rfl,hX,hK,hn,hTab⟩);refine ge ?_;(refine g1 ?_;refine zC (zqO l hl tb m1 m2 es M _ hX Qf0) (yf0 ?_);intro p2 h2 hr2);subst hr2;rw[hTab];refine ge ?_;(refine g1 ?_;refine zC ((zpO rs (uY (oU l) (xU l rs)) Qf0 146 (fun x hx y _=>zp9 x y (by have:=(hr x hx).1;omega) (by have:=(hr x hx).2;omega))).call zK (by simp[zJ,yO]) _) (yf0 ?_);rintro p2 h2 ⟨rfl,rfl⟩);refine ge ?_;by_cases hE:rs=uY (oU l) (xU l rs)
  ·rw[pO hE,pO ⟨hc,hall,hE⟩]
  ·rw[uA hE,uA fun k=>hE k.2.2]
 ·rintro i J hi hw hI;refine gm ?_;have hx:=zG (f:=LRw.c) [] hi;have F1:=(a6 @hi @hx @zB @hw @zA @zX)
  have no: ¬ArgX ty rs[i].args->ze8 (CelX l ty rs)=false:=fun h=>uA fun k=>h (k.2.1 _ (Qc hi));have next:ArgX ty rs[i].args-> ∀(j:Nat)(h:j<rs.length),j<i+1->ArgX ty rs[j].args:=fun q j h hj=>by
   rcases Xy j i with r|r
   ·exact hI j h r
   ·exact Qbn
  obtain⟨hx1,hx2⟩:=hr _ (Qc hi);clear hI;generalize rs[i]=x at*;by_cases hl0:x.args.length=ty.length
  ·have e0:((x.args.length:Int)!=(ty.length:Int))=false:=by simp[hl0]
   refine gf (a2 F1 @e0) ?_;refine zO x.args.length (K4 (.k:: .k:: .d:: .k:: .k:: .d:: .d::K9 (K9 (.v::D9 (D4 (D4 (K4 (K4 ([]))))))))) (own:=false) (fun i (_:Heap)=>[i64 i]) (fun J=> .var 131 l.c::J) (fun i _=> ∀(j:Nat)(h:j<x.args.length)(h':j<ty.length),j<i->x.args[j].t=ty[j]/\zoC x.args[j]=true) _ rfl rfl (fun j _ _ hj=>absurd hj (Xt _)) Qf0 ?_ ?_
   ·rintro J hI2;refine gm ?_;refine gf (a2 @hw @zM) ?_;exact⟨J,next (jR hl0 hI2),rfl,rfl,rfl⟩
   ·rintro k J hk zg1 hI2;refine gm ?_;have hkt:k<ty.length:=Qf0;have hy:=zG (f:=Vl.c) [] hk;have hz:=zG (f:=fun n:Int=>[i64 n]) [] hkt;have F:=(a8 @hk @hkt @hy @hz @zB @zg1 @zA @zX)
    have no2: ¬(x.args[k].t=ty[k]/\zoC x.args[k]=true)->ze8 (CelX l ty rs)=false:=fun h=>no fun q=>h (q.2 k hk hkt);have next2:(x.args[k].t=ty[k]/\zoC x.args[k]=true)-> ∀(j:Nat)(h:j<x.args.length)(h':j<ty.length),j<k+1->x.args[j].t=ty[j]/\zoC x.args[j]=true:=fun q j h h' hj=>by
     rcases Xy j k with r|r
     ·exact hI2 j h h' r
     ·have:j=k:=Qf0;subst this;exact q
    clear hI2 next
    generalize x.args[k]=y at*;generalize ty[k]=tk at*;have hvv:=zr2 y;by_cases ht0:y.t=tk
    ·have e1:(y.t !=tk)=false:=by simp[ht0]
     refine gf (a2 F @e1) ?_;(refine vY ?_;refine zN rfl rfl rfl ?_;intro sr hsr;simp only[sK,wP] at hsr;subst hsr;(first|refine pK ?_|refine pL ?_);intro sr hsr;simp only[go_sem,F,e1] at hsr;subst hsr;refine zP Qf2 Qf2 (hvv.call zK Qfb _) (yf0 ?_);rintro p2 h2 ⟨rfl,rfl⟩);cases hb:zoC y
     ·rw[no2 fun q=>by rw[hb] at q;exact Bool.noConfusion q.2];refine gf (a2 F @e1) ?_;rfl
     ·refine gf (a2 F @e1) ?_;exact⟨_,next2 ⟨ht0,hb⟩,rfl,rfl,rfl⟩
    ·have e1:(y.t !=tk)=true:=by simp[ht0]
     rw[no2 fun q=>ht0 q.1];refine gf (a2 F @e1) ?_;rfl
  ·have e0:((x.args.length:Int)!=(ty.length:Int))=true:=Qfh;rw[no fun q=>hl0 q.1];refine gf (a2 F1 @e0) ?_;rfl
@[go_sem] def UCsx6f168.pl:Nat->DPlan
 |8=>⟨[yB,yA,yB,yA,yA,yC],znU,0⟩
 |_=>⟨[],[],0⟩
noncomputable def za9(l:La)(T:Tbl)(args:List Vl)(a b e:Int):Tbl:=oT (uZ (oU l) T args) (zk0 args) fun ms=>if ze7 l e=true then tB (fun _=>e) ms a b else ms
theorem zqV{T:Tbl}{k:BA}:oT T k (fun ms=>ms)=T:=by
 unfold oT;conv=>rhs;rw[<-Kl T]
 exact Yq fun x _=>by split<;>rfl
theorem zqD(rs:List LRw):zU 40 (vD rs)=true:=all_map fun x=>by
 exact Qc9
open UCsx6f168 in
theorem zrW(l:La)(hl:l.ok)(hc:uE l=0)(rs:List LRw)(hrs:rs.length<=1099511627776)(hr: ∀x∈rs,x.ok)(args:List Vl)(ha:args.length<=1048576)(hs: ∀a∈args,a.s.size<=1048576)(a b e:Int):
  EPure prog G0 168 [.agg l.c,vD rs,pH args,.agg [i64 a,i64 b],i64 e] fun p=>p=vD (uY (oU l) (za9 l (xU l rs) args a b e)):=by
 refine ECall.cutW (R:=fun p _=>p=vD (uY (oU l) (za9 l (xU l rs) args a b e))) (pv func168 40 false Qf3 rfl rfl ?_) ?_;refine g2 ?_
 ·refine ge ?_;(refine g1 ?_;refine zC ((zn7 l hl).call zK Qfb _) (yf0 ?_);rintro p2 h2 ⟨rfl,rfl⟩);rw[Zm.2 hc];refine ge ?_;(refine g1 ?_;refine zC (zqF l hl rs hrs hr _) (yf0 ?_);rintro p2 h2 ⟨tb,m1,m2,es,M,rfl,hX,hK,hn,hTab⟩);have b1:=hK 1 _ rfl Qf1 Qf1;have b2:=hK 2 _ rfl Qf1 Qf1;refine gf (a2 @b1 @b2) ?_;(refine g1f (a2 @b1 @b2) ?_;refine zC (zqJ l hl tb m1 m2 es M _ hX Qf0 args ha hs) (yf0 ?_);rintro p2 h2 ⟨r,es',M2,rfl,hX',hL,hK',hn',hTab'⟩);rw[hTab] at hTab';unfold za9;rw[<-hTab'];have c1:=hK' _ _ b1 Qf1 Qf1;have c2:=hK' _ _ b2 Qf1 Qf1;clear b1 b2 hK hK' hX hTab hTab';have C1: ∀l:List Blk,(h2++l)[1]? =some (.var 54 [i64 a,i64 b]):=fun l=>yJ _ _ _ _ c1;have C2: ∀l:List Blk,(h2++l)[2]? =some (.var 3 [i64 e]):=fun l=>yJ _ _ _ _ c2;have Z:=(a6 @rU @sB @qK @rN @C1 @C2)
  refine gf Z ?_;(refine g1f Z ?_;refine zC (zgW l tb m1 m2 es' _ (hX'.tb.keep (yJ _ _)) e) (yf0 ?_);rintro p2 h2 ⟨rfl,rfl⟩);cases hel:ze7 l e with
  |false=>
   simp only[Zo,Wr];rw[zqV];refine gf Z ?_;(refine g1 ?_;refine zC (zqO l hl tb m1 m2 es' M2 _ (hX'.keep _) Qf0) (yf0 ?_);intro p2 h2 hr2);subst hr2;refine ge ?_;rfl
  | true=>
   simp only[Wk];obtain⟨e0,he0,hr00,hk0⟩:=hL;obtain⟨hms0,hr0⟩:=hX'.m e0 he0;rw[hr00] at hms0 hr0;obtain⟨ms0,hms0e⟩: ∃ms0,M2 r=ms0:=⟨_,rfl⟩
   rw[hms0e] at hms0 hr0;have hl0: ∀k,(tB (fun _=>e) ms0 a k).length=64:=fun k=>yY ..;have hst:tB (fun _=>e) ms0 a (zqT a:Nat)=ms0:=zdN hms0;have hrl:r<h2.length:=(gsi hr0).1;have hself:h2=h2.set r (.var 287 (ms0.map i64)):=by
    obtain⟨q1,q2⟩:=gsi hr0;rw[<-q2,Js]
   refine gf Z ?_;(refine g1f Z ?_;refine zC (jQ a b _) (yf0 ?_);rintro p2 h2 ⟨rfl,rfl⟩);refine gf Z ?_;refine tT (f:=309) (fst:=[]) (cap:=_) (fun _ h=>h) rfl ?_;simp only[Jc,Xx,Yj,Xz,Qv,Ql,Qn,Xv,Yd,Nat.reduceAdd,Ji,Ui];generalize hLp:Blk.loop _ _ _ _ _ _=L;refine(zqH a b (h2.length+1) (h2.length+2) (h2.length+3) (fun k h1=>h1=h2.set r (.var 287 ((tB (fun _=>e) ms0 a (k:Nat)).map i64))++[.var 242 [.ptr r 0],.var 3 [i64 a],.var 3 [i64 b],L]) _ (by rw[hst,<-hself]) ((sB h2 _ 1).trans rfl) ?_ ?_).mono ?_
   ·rintro k _ rfl;have:=sB (h2.set r (.var 287 ((tB (fun _=>e) ms0 a (k:Nat)).map i64))) [.var 242 [.ptr r 0],.var 3 [i64 a],.var 3 [i64 b],L] 2;rw[Xb] at this;exact this
   ·rintro k _ hklo hk64 hkb rfl;subst hLp;have hstep:=zfE (g:=fun _=>e) (ms:=ms0) hklo hk64;have hms:=hl0 (k:Nat);generalize tB (fun _=>e) ms0 a (k:Nat)=ms at*;have hr2':r≠2:=fun q=>by subst q;rw[hr0] at c2;cases c2
    have F0: ∀(X:Blk)(l:List Blk),(h2.set r X++l)[h2.length]? =l[0]? :=fun X l=>by have:=rU (h2.set r X) l;rwa [Xb] at this
    have Fk: ∀(X:Blk)(l:List Blk)(k:Nat),(h2.set r X++l)[h2.length+k]? =l[k]? :=fun X l k=>by have:=sB (h2.set r X) l k;rwa [Xb] at this
    have Sk: ∀(X:Blk)(l:List Blk)(k:Nat)(b:Blk),(h2.set r X++l).set (h2.length+k) b=h2.set r X++l.set k b:=fun X l k b=>by have:=rN (h2.set r X) l k b;rwa [Xb] at this
    have Ft: ∀(X:Blk)(l:List Blk),(h2.set r X++l)[2]? =some (.var 3 [i64 e]):=fun X l=>yJ _ _ _ _ (by rw[Qd hr2'];exact c2);have Fr: ∀(X:Blk)(l:List Blk),(h2.set r X++l)[r]? =some X:=fun X l=>yJ _ _ _ _ (Qh hrl);have Sr: ∀(X Y:Blk)(l:List Blk),(h2.set r X++l).set r Y=h2.set r Y++l:=fun X Y l=>by rw[Ko _ _ Qgg,Wi]
    have hk:k<ms.length:=Qf0;have hd:=yU i64 ms k .un hk;have hsp: ∀v,(ms.map i64).take k++i64 v::(ms.map i64).drop (k+1)=(ms.set k v).map i64:=fun v=>wY i64 ms k v hk;have hk6:((k:Int)<64)=True:=Qfh;refine⟨_,_,_,_,_,_,(Fk _ _ 3).trans rfl,rfl,?_⟩;refine Qcs ?_;simp only[rput,Xn,Xl];(repeat(first|refine gz ?_|(refine gn ?_;intro zs zh;(try simp only[go_sem,F0,Fk,Ft,Fr,Sk,Sr] at zh);subst zh;refine gv ?_)|refine yD UCsx6f168.pl ?_));refine⟨rfl,_,_,_,_,_,(Fk _ _ 3).trans rfl,?_⟩;refine Qcs ?_;simp only[Sk,Xn,Xl];(repeat(first|refine gz ?_|(refine gn ?_;intro zs zh;(try simp only[go_sem,F0,Fk,Ft,Fr,Sk,Sr,hd,hsp,hk6,hms,zB] at zh);subst zh;refine gv ?_)|refine yD UCsx6f168.pl ?_));refine⟨_,_,_,_,_,_,(Fk _ _ 3).trans rfl,rfl,?_⟩;rw[Sk,hstep];rfl
   ·rintro p h' ⟨k,rfl,hk1,hk2⟩;subst hLp;rw[znS hk1 hk2];have Fk: ∀(X:Blk)(l:List Blk)(k:Nat),(h2.set r X++l)[h2.length+k]? =l[k]? :=fun X l k=>by have:=sB (h2.set r X) l k;rwa [Xb] at this
    have Sk: ∀(X:Blk)(l:List Blk)(k:Nat)(b:Blk),(h2.set r X++l).set (h2.length+k) b=h2.set r X++l.set k b:=fun X l k b=>by have:=rN (h2.set r X) l k b;rwa [Xb] at this
    refine⟨_,_,_,_,_,_,(Fk _ _ 3).trans rfl,Qf1,?_⟩;simp only[Sk,Xn,Xl];refine ge ?_;obtain⟨u1,u2⟩:=hX'.upd ⟨e0,he0,hr00,hk0⟩ (yY (fun _=>e) ms0 a b) (fun ms=>tB (fun _=>e) ms a b) (by rw[hms0e]) _;(refine g1 ?_;refine zC (zqO l hl tb m1 m2 es' _ _ u1 Qf0) (yf0 ?_);intro p2 h2 hr2);subst hr2;refine ge ?_;rw[u2]
 ·rintro p h rfl;rw[vE 0 h 40 _ (zqD _)];exact⟨_,PLe.refl _,rfl,yP _ _ (zqD _)⟩
@[go_sem] def UBsx2f27.pl:Nat->DPlan
 |6=>⟨[yA,yB,yA,yA,yB,yA,yB,yA,yA,yB,yA,yA],xF,0⟩
 |12=>⟨[yA,yA,yA,yA,yA,yB,yA,yB,yA,yB,yA,yB,yA,yC,yA,yA],xE,0⟩
 |_=>⟨[],[],0⟩
def PdX(p:Pg)(q:Pd)(y:List Rw)(z:List LRw):Prop:=
 (q.base=false->y=[]/\z=[])/\
 (q.base=true->q.of'≠ -1->y=[]/\ ∀h:q.of'.toNat<p.pQ.length,CelX p.pQ[q.of'.toNat] q.types z)/\
 (q.base=true->q.of'= -1->z=[]/\RelX q.types y/\zr1 q.key.toNat y)
structure DatX(p:Pg)(d:Dt):Prop where
 tv:zpQ p=true
 rl:d.pg.length=p.pk.length
 ll:d.pQ.length=p.pk.length
 at': ∀(j:Nat)(h:j<p.pk.length)(hr:j<d.pg.length)(hl:j<d.pQ.length),PdX p p.pk[j] d.pg[j] d.pQ[j]
open UBsx2f27 in
theorem zeD(p:Pg)(hp:p.ok)(hle:p.sm)(d:Dt)(hd:d.sz):EPure prog G0 27 [.agg p.c,.agg d.c] fun v=>v=bo (ze8 (DatX p d)):=by
 refine ECall.cut (R:=fun v _=>v=bo (ze8 (DatX p d))) (pv func27 95 false Qf3 rfl rfl ?_) Qgi;refine g2 ?_;have htv:=ze0 p hp hle;refine ge ?_;(refine g1 ?_;refine zC (htv.1.call zK Qfb _) (yf0 ?_);rintro p2 h2 ⟨rfl,rfl⟩);cases hb:zpQ p with
 |false=>
  rw[uA fun k=>by have:=k.tv;rw[hb] at this;cases this];refine ge ?_;rfl
 | true=>
  obtain⟨hf,hpb, -⟩:=htv.2 hb;have hpl:=hf.pl;by_cases h1:d.pg.length=p.pk.length
  case neg=>
   have e1:((d.pg.length:Int)!=(p.pk.length:Int))=true:=Qfh;rw[uA fun k=>h1 k.rl];refine gf @e1 ?_;rfl
  have e1:((d.pg.length:Int)!=(p.pk.length:Int))=false:=Qfa;by_cases h2:d.pQ.length=p.pk.length
  case neg=>
   have e2:((d.pQ.length:Int)!=(p.pk.length:Int))=true:=Qfh;rw[uA fun k=>h2 k.ll];refine gf (a2 @e1 @e2) ?_;rfl
  have e2:((d.pQ.length:Int)!=(p.pk.length:Int))=false:=Qff;refine gf (a2 @e1 @e2) ?_;refine zO p.pk.length (K4 (D4 (.d:: .d::K9 (K9 (K4 (.k:: .k:: .v::D9 (D9 (D9 (D9 (D9 (D9 (D4 (.d:: .d::[]))))))))))))) (own:=false) (fun i (_:Heap)=>[i64 i]) (fun J=> .var 27 p.c:: .var 31 d.c::J) (fun i _=> ∀(j:Nat)(h:j<p.pk.length)(hr:j<d.pg.length)(hl:j<d.pQ.length),j<i->PdX p p.pk[j] d.pg[j] d.pQ[j]) [] rfl rfl (fun j _ _ _ hj=>absurd hj (Xt _)) Qf0 ?_ ?_
  ·rintro J hI;refine gm ?_;rw[pO ⟨hb,h1,h2,fun j h hr hl=>hI j h hr hl h⟩];exact Qd9
  ·rintro i J hi hw hI t ht;have F1:=(a2 @hw @zA)
   simp only[zY] at ht;subst ht;have hir:i<d.pg.length:=Qf0;have hil:i<d.pQ.length:=Qf0;have hx:=zG (f:=Pd.c) [] hi;have hy:=zG (f:=fun r=>[uN r]) [] hir;have hz:=zG (f:=fun r=>[vD r]) [] hil;have F:=(a9 @hi @hir @hil @hx @hy @hz @zB @hw (a2 @zA @zX))
   have no: ¬PdX p p.pk[i] d.pg[i] d.pQ[i]->ze8 (DatX p d)=false:=fun h=>uA fun k=>h (k.at' i hi hir hil);have next:PdX p p.pk[i] d.pg[i] d.pQ[i]-> ∀(j:Nat)(h:j<p.pk.length)(hr:j<d.pg.length)(hl:j<d.pQ.length),j<i+1->PdX p p.pk[j] d.pg[j] d.pQ[j]:=by
    intro q j h hr hl hj;rcases Xy j i with hji|hji
    ·exact hI j h hr hl hji
    ·exact Qbn
   clear hI;have hxf:=hf.p _ (Qc hi);have hxb:=hpb _ (Qc hi);have hys:=hd.r _ (Qc hir);have hzs:=hd.l _ (Qc hil);generalize p.pk[i]=x at*;generalize d.pg[i]=y at*;generalize d.pQ[i]=z at*;obtain⟨hy1,hy2⟩:=hys;obtain⟨hz1,hz2⟩:=hzs;obtain⟨hf1,hf2,hf3⟩:=hxf;obtain⟨xname,xtypes,xlat,xof,xbase,xkey,xat⟩:=x;dsimp only at*;cases xbase with
   | false=>
    have zj6:IntKind.i64.wrap ((y.length:Int)+(z.length:Int))=((y.length+z.length:Nat):Int):=Qgu;by_cases h0:y.length+z.length=0
    ·have e3:((((y.length+z.length:Nat)):Int)==0)=true:=by rw[h0];rfl
     refine gf (a3 F @zj6 @e3) ?_;have q1:y=[]:=Xi Qf0;have q2:z=[]:=Xi Qf0;exact⟨_,next ⟨fun _=>⟨q1,q2⟩,nofun,nofun⟩,rfl,rfl,rfl⟩
    ·have e3:((((y.length+z.length:Nat)):Int)==0)=false:=Qfr;rw[no fun k=>h0 (by rw[(k.1 rfl).1,(k.1 rfl).2];rfl)];refine gf (a3 F @zj6 @e3) ?_;rfl
   | true=>
    refine gf F ?_;(refine g1f @zA ?_;refine zC ((lR ⟨xname,xtypes,xlat,xof,true,xkey,xat⟩).call zK Qfb _) (yf0 ?_);rintro p2 h2 ⟨⟨b,rfl,hb⟩,rfl⟩);dsimp only at hb;cases b with
    | true=>
     have ho:xof≠ -1:=by simpa using hb.symm
     have hol:xof.toNat<p.pQ.length:=Qf0;have hq:=zG (f:=La.c) [] hol;have hlo:=hp.l _ (Qc hol);have pq:PdX p ⟨xname,xtypes,xlat,xof,true,xkey,xat⟩ y z↔y=[]/\CelX p.pQ[xof.toNat] xtypes z:=⟨fun k=>⟨(k.2.1 rfl ho).1,(k.2.1 rfl ho).2 hol⟩,fun k=>⟨nofun,fun _ _=>⟨k.1,fun _=>k.2⟩,fun _ h=>absurd h ho⟩⟩
     rw[pq] at no next
     clear pq;generalize p.pQ[xof.toNat]=lt at*;by_cases hy0:y.length=0
     ·have e3:((y.length:Int)==0)=true:=by rw[hy0];rfl
      have q1:y=[]:=Xi hy0;refine gf (a4 F @e3 @hq @hol) ?_;(refine vY ?_;refine zN rfl rfl rfl ?_;intro sr hsr;simp only[sK,wP] at hsr;subst hsr;(first|refine pK ?_|refine pL ?_);intro sr hsr;simp only[go_sem,F,e3,hq,hol] at hsr;subst hsr;refine zP Qf2 Qf2 ((zqA lt hlo xtypes Qf0 z Qf0 hz2).call zK Qfb _) (yf0 ?_);rintro p2 h2 ⟨rfl,rfl⟩);by_cases hbv:CelX lt xtypes z
      ·rw[pO hbv];refine gf @hw ?_;exact⟨_,next ⟨q1,hbv⟩,rfl,rfl,rfl⟩
      ·rw[uA hbv,no fun k=>hbv k.2];refine gf @hw ?_;rfl
     ·have e3:((y.length:Int)==0)=false:=Qfr;rw[no fun k=>hy0 (by rw[k.1];rfl)];refine gf (a4 F @e3 @hq @hol) ?_;rfl
    | false=>
     have ho:xof= -1:=by simpa using hb.symm
     have pq:PdX p ⟨xname,xtypes,xlat,xof,true,xkey,xat⟩ y z↔z=[]/\RelX xtypes y/\zr1 xkey.toNat y:=⟨fun k=>k.2.2 rfl ho,fun k=>⟨nofun,fun _ h=>absurd ho h,fun _ _=>k⟩⟩
     rw[pq] at no next
     clear pq;by_cases hz0:z.length=0
     ·have e3:((z.length:Int)==0)=true:=by rw[hz0];rfl
      have q2:z=[]:=Xi hz0;refine gf (a2 F1 @e3) ?_;(refine g1f (a2 F1 @e3) ?_;refine zC ((zoF xtypes y Qf0 Qf0 hy2).call zK Qfb _) (yf0 ?_);rintro p2 h2 ⟨rfl,rfl⟩);by_cases hbv:RelX xtypes y
      case neg=>
       rw[uA hbv,no fun k=>hbv k.2.1];refine gf F1 ?_;rfl
      rw[pO hbv];obtain⟨k,rfl⟩:=Qm hf1;rw[Xw] at no next
      refine gf F1 ?_;(refine g1f (a2 F1 @e3) ?_;refine zC ((zq8 y Qf0 k (fun q hq=>⟨by have:=(hbv.2 q hq).1;omega,hy2 q hq⟩)).call zK Qfb _) (yf0 ?_);rintro p2 h2 ⟨rfl,rfl⟩);by_cases hky:zr1 k y
      ·rw[pO hky];refine gf @hw ?_;exact⟨_,next ⟨q2,hbv,hky⟩,rfl,rfl,rfl⟩
      ·rw[uA hky,no fun k=>hky k.2.2];refine gf @hw ?_;rfl
     ·have e3:((z.length:Int)==0)=false:=Qfr;rw[no fun k=>hz0 (by rw[k.1];rfl)];refine gf (a2 F1 @e3) ?_;rfl
def bsz(l:List Nat):BA:=⟨(l.map UInt8.ofNat).toArray⟩
def aC:Vl:=⟨2,0,bsz [97,110,110]⟩
def zzI:Vl:=⟨2,0,bsz [98,111,98]⟩
def zqL(n:Int):Vl:=⟨1,n,⟨#[]⟩⟩
def yaL:Pd:=⟨bsz [119,97,103,101],[2,1],⟨#[]⟩, -1,true,1,0⟩
def zlK:Pg:=⟨[],[],[yaL],[]⟩
def zbC(l:List Rw):Dt:=⟨[l],[[]]⟩
def keepC:FuncId->Bool:=fun f=>[163].contains f
theorem zt9{g:FuncId}{args:List PV}{v:PV}(h:(xZ prog G0 keepC (fun _=>false) 100000 [] 60).fn g args []=some (v,[]))(ha:args.all (zU 40)=true)(hp:zU 40 v=true):EPure prog G0 g args fun w=>w=v:=
 TabOk.pure (yR wN zK zc0 h ha hp) (Qe ..) hp
theorem zw5:zoC aC=true:=zf1 (zt9 Qf3 Qf3 Qf3) fun _=>⟨Qf2,.inr rfl,Qf2,Qf2,.inr ⟨rfl,rfl,Qf2⟩,Qf2,Qf2⟩
theorem yaY:zoC zzI=true:=zf1 (zt9 Qf3 Qf3 Qf3) fun _=>⟨Qf2,.inr rfl,Qf2,Qf2,.inr ⟨rfl,rfl,Qf2⟩,Qf2,Qf2⟩
theorem vv_1:zoC (zqL 1)=true:=zf1 (zt9 Qf3 Qf3 Qf3) fun _=>⟨Qf2,.inl rfl,Qf2,Qf2,.inl ⟨rfl,rfl⟩,Qf2,Qf2⟩
theorem vv_3:zoC (zqL 3)=true:=zf1 (zt9 Qf3 Qf3 Qf3) fun _=>⟨Qf2,.inl rfl,Qf2,Qf2,.inl ⟨rfl,rfl⟩,Qf2,Qf2⟩
theorem vv_5:zoC (zqL 5)=true:=zf1 (zt9 Qf3 Qf3 Qf3) fun _=>⟨Qf2,.inl rfl,Qf2,Qf2,.inl ⟨rfl,rfl⟩,Qf2,Qf2⟩
theorem vv_7:zoC (zqL 7)=true:=zf1 (zt9 Qf3 Qf3 Qf3) fun _=>⟨Qf2,.inl rfl,Qf2,Qf2,.inl ⟨rfl,rfl⟩,Qf2,Qf2⟩
theorem zw7:zlK.ok:=⟨Qf2,by simp[zlK],Qf2,by simp[zlK],Qf2,fun x hx=>by
 have:x=yaL:=Qgs;subst this;exact⟨Qf2,Qf2,Qf2⟩,Qf2,by simp[zlK]⟩
theorem zw6:zlK.sm:=by intro x hx;simp[zlK] at hx
theorem tv34:zpQ zlK=true:=zf1 (zt9 Qf3 Qf3 Qf3) fun _=>
 ⟨⟨Qf2,Qf2,by simp[zlK],Qf2,fun x hx=>by
  have:x=yaL:=Qgs;subst this;exact⟨Qf2,Qf2,Qf2,.inr rfl⟩,Qf2,by simp[zlK]⟩,fun x hx=>by
  have:x=yaL:=Qgs;subst this;exact⟨Qf2,Qf2⟩,by simp[zlK],fun x hx _=>by
  have:x=yaL:=Qgs;subst this;rfl⟩
theorem dat34{l:List Rw}(h1:SoR l)(h2: ∀x∈l,x.can)(h3: ∀x∈l, ∃a b,x.args=[a,b]/\a.t=2/\b.t=1/\zoC a=true/\zoC b=true)(h4:zr1 1 l):DatX zlK (zbC l):=by
 refine⟨tv34,rfl,rfl,fun j hj hr hl=> ?_⟩;obtain rfl:j=0:=by
  have:zlK.pk.length=1:=rfl;omega
 refine⟨fun w=>(by cases w),fun _ w=>absurd rfl w,fun _ _=>⟨rfl,⟨⟨h1,h2⟩,fun x hx=> ?_⟩,h4⟩⟩;obtain⟨a,b,e,e1,e2,e3,e4⟩:=h3 x hx;refine⟨by rw[e];rfl,fun k hk hk'=> ?_⟩;have hk2:k<2:=by rw[e] at hk;exact hk
 rcases (show k=0\/k=1 by omega) with rfl|rfl
 ·simp only[e];exact⟨e1,e3⟩
 ·simp only[e];exact⟨e2,e4⟩
theorem zjP(p:Pg)(hp:p.ok):EB 46 [.agg p.c] fun b=>b=true->(∀x∈p.pQ,x.pw.length<=10/\x.pJ.length<=80)/\p.pk.length<=26:=by
 refine ECall.cut (R:=fun v _=> ∃b:Bool,v=bo b/\(b=true->(∀x∈p.pQ,x.pw.length<=10/\x.pJ.length<=80)/\p.pk.length<=26)) (pv func46 170 false Qf3 rfl rfl ?_) Qhc;refine g2 ?_;obtain⟨pQ,pZ,pk,pX⟩:=p;obtain⟨h1,h2,h3,h4,h5,h6,h7,h8⟩:=hp;dsimp only at*;(repeat' (first|refine gp ?_|refine gs (fun he=> ?_) (fun he=> ?_)|fail));all_goals try exact⟨_,rfl,Qf1⟩
 refine zO pQ.length (.k:: .k:: .k:: .v:: .v::K9 (K9 (K4 (K4 (D9 (D9 (D9 (.d::K9 (K9 (K9 (K9 (K9 (K9 (K9 (K9 (K9 (K9 (K9 (K9 (.k:: .k:: .k::[])))))))))))))))))))) (own:=false) (fun i (b:Bool)=>[bo b,i64 i]) (fun _=>_) (fun i b=>b=true-> ∀(j:Nat)(h:j<pQ.length),j<i->pQ[j].pw.length<=10/\pQ[j].pJ.length<=80) true rfl rfl (fun _ j _ hj=>absurd hj (Xt _)) Qf0 ?_ ?_
 ·rintro b hI;refine gm ?_;refine gf @zM ?_;refine zO pZ.length (.k:: .k:: .k:: .v:: .k:: .v::K9 (K9 (K9 (K9 (K9 (K4 (K4 (D9 (D9 (D9 (D9 (.d:: .d::K9 (K9 (K9 (K9 (K9 (K9 (K9 (K9 (.k::[])))))))))))))))))))) (own:=false) (fun i (b:Bool)=>[bo b,i64 i]) (fun _=>_) (fun i b2=>b2=true->b=true) b rfl rfl id Qf0 ?_ ?_
  ·rintro b2 hI2;refine gm ?_;refine gf @zM ?_;refine zO pk.length (.k:: .k:: .k:: .v:: .k:: .k:: .v::K9 (K9 (K9 (K9 (K9 (K9 (K9 (K9 (K9 (K9 (D9 (D9 (K9 (K9 (K9 (K9 (K9 (K9 (.k::[]))))))))))))))))))) (own:=false) (fun i (b:Bool)=>[bo b,i64 i]) (fun _=>_) (fun i b2=>b2=true->b=true) b2 rfl rfl hI2 Qf0 ?_ ?_
   ·rintro b3 hI3;refine gm ?_;refine gf @zM ?_;refine zO pX.length (.k:: .k:: .k:: .v:: .k:: .k:: .k:: .v:: .d::K9 (K9 (K9 (K9 (K9 (K9 (K9 (K9 (K9 (K9 (K9 (K4 (.k:: .k:: .k::D9 (D9 (D9 (D9 (D9 (D9 (.k::[]))))))))))))))))))) (own:=false) (fun i (b:Bool)=>[bo b,i64 i]) (fun _=>_) (fun i b2=>b2=true->b=true) b3 rfl rfl hI3 Qf0 ?_ ?_
    ·rintro b4 hI4;refine gm ?_;refine gf @zM ?_;exact⟨b4,rfl,fun h=>⟨fun x hx=>by obtain⟨j,hj,rfl⟩:=Qy hx;exact hI (hI4 h) j hj hj,Qf0⟩⟩
    ·rintro i b4 hi hw hI4;refine gm ?_;have hx:=zG (f:=Ru.c) [] hi;have Z:=(a5 @hi @hw @hx @zB @zM)
     have hbl:=(h8 _ (Qc hi)).bl;generalize pX[i]=x at*;cases b4
     ·(have F:=(a4 @hi @hw @hx @zB);(repeat' (first|refine dR F ?_|refine dQ F (fun he=> ?_) (fun he=> ?_)|fail));all_goals clear F);refine zO x.body.length (.k:: .k:: .k:: .v::K4 (.v::K9 (K9 (K9 (K9 (K9 (K9 (K9 (K9 (K9 (K9 (K9 (K9 (K9 (K9 (K4 (K4 (D9 (D9 (D4 (D4 (.k::[])))))))))))))))))))))) (own:=false) (fun i (b:Bool)=>[bo b,i64 i]) (fun _=>_) (fun i b2=>b2=true->b=true) false rfl rfl Qf1 Qf0 ?_ ?_
      ·exact Qer
      ·exact Qa9
     ·(have F:=(a4 @hi @hw @hx @zB);(repeat' (first|refine dR F ?_|refine dQ F (fun he=> ?_) (fun he=> ?_)|fail));all_goals clear F);all_goals
       refine zO x.body.length (.k:: .k:: .k:: .v::K4 (.v::K9 (K9 (K9 (K9 (K9 (K9 (K9 (K9 (K9 (K9 (K9 (K9 (K9 (K9 (K4 (K4 (D9 (D9 (D4 (D4 (.k::[])))))))))))))))))))))) (own:=false) (fun i (b:Bool)=>[bo b,i64 i]) (fun _=>_) (fun i b2=>b2=true->b=true) _ rfl rfl (fun _=>hI4 rfl) Qf0 ?_ ?_
       ·exact Qer
       ·exact Qa9
   ·rintro i b3 hi hw hI3;refine gm ?_;have hx:=zG (f:=Pd.c) [] hi;generalize pk[i]=x at*;cases b3
    ·exact Qat
    ·(have F:=(a4 @hi @hw @hx @zB);(repeat' (first|refine dR F ?_|refine dQ F (fun he=> ?_) (fun he=> ?_)|fail));all_goals clear F);exact⟨_,fun _=>hI3 rfl,rfl,rfl,rfl⟩
  ·rintro i b3 hi hw hI3;refine gm ?_;have hx:=zG (f:=Fu.c) [] hi;generalize pZ[i]=x at*;cases b3
   ·exact Qat
   ·(have F:=(a4 @hi @hw @hx @zB);(repeat' (first|refine dR F ?_|refine dQ F (fun he=> ?_) (fun he=> ?_)|fail));all_goals clear F);all_goals exact⟨_,fun _=>hI3 rfl,rfl,rfl,rfl⟩
 ·rintro i b hi hw hI;refine gm ?_;have hx:=zG (f:=La.c) [] hi;obtain⟨x,hxe⟩: ∃x,pQ[i]=x:=⟨_,rfl⟩
  rw[hxe] at hx;cases b
  ·exact Qat
  ·have hI:=hI rfl;(have F:=(a4 @hi @hw @hx @zB);(repeat' (first|refine dR F ?_|refine dQ F (fun he=> ?_) (fun he=> ?_)|fail));all_goals clear F);all_goals first|exact⟨false,Qf1,rfl,rfl,rfl⟩|skip
   ·refine⟨_,fun hb j h hj=> ?_,rfl,rfl,rfl⟩;rcases Xy j i with hji|hji
    ·exact hI j h hji
    ·have:j=i:=Qf0;subst this;rw[hxe];simp at*;omega
end Go.AL
namespace Go.AL
noncomputable def wL(l:La)(cs:List Ce):List Int:=cs.foldl (fun ms c=>dU l ms c.a c.b c.e) (List.replicate 64 (oU l))
theorem zf3(l:La): ∀(cs:List Ce){ms:List Int},ms.length=64->(cs.foldl (fun ms c=>dU l ms c.a c.b c.e) ms).length=64
 | [],_,h=>h
 |c::cs,_,h=>zf3 l cs (zeA h)
theorem zdR(l:La)(cs:List Ce):(wL l cs).length=64:=zf3 l cs Qf1
theorem ziW{l:La}{ms:List Int}{a b e:Int}{i:Nat}(h:i<64):(dU l ms a b e).getD i 0=if ze7 l e=true/\a<=(i:Int)/\(i:Int)<b then zpP l (ms.getD i 0) e else ms.getD i 0:=by
 unfold dU;by_cases he:ze7 l e=true
 ·rw[Qj he,tU h];by_cases hr:a<=(i:Int)/\(i:Int)<b
  ·rw[Qj hr,Qj ⟨he,hr⟩]
  ·rw[Qi hr,Qi (fun q=>hr q.2)]
 ·rw[Qi he,Qi (fun q=>he q.1)]
theorem zfY(l:La){i:Nat}(hi:i<64): ∀(cs:List Ce){ms:List Int},(∀c∈cs,c.b<=(i:Int))->(cs.foldl (fun ms c=>dU l ms c.a c.b c.e) ms).getD i 0=ms.getD i 0
 | [],_,_=>rfl
 |c::cs,ms,h=>by
  rw[Yw,zfY l hi cs fun d hd=>h d (Qf c hd),ziW hi,Qi (fun q=>by have:=h c (Qe ..);omega)]
theorem ziB{i:Nat}(hi:i<64)(b:Int):(List.replicate 64 b).getD i 0=b:=by
 rw[Qb,Zf,Qj hi];rfl
theorem zqI{α:Type}{l:List α}{x:α}(h:x∈l.dropLast):x∈l:=List.dropLast_subset l h
theorem zoY(bt:Int)(ms:List Int): ∀n,n<=64-> ∀c∈zh6 bt ms n,0<=c.a/\c.a<c.b/\c.b<=(n:Int)
 |0,_,c,hc=>by simp[zh6] at hc
 | n +1,hn,c,hc=>by
  have ih:=zoY bt ms n Qf0;simp only[zh6] at hc;unfold zm5 at hc;split at hc
  ·obtain⟨a,b,d⟩:=ih c hc;exact⟨a,b,Qf0⟩
  ·split at hc
   ·exact Qd8
   ·rename_i d hd;have hdm:d∈zh6 bt ms n:=List.mem_of_getLast? hd;obtain⟨a,b,e⟩:=ih d hdm;split at hc
    ·rename_i q;have hw:IntKind.i64.wrap (d.b+1)=d.b+1:=xM Qf0 Qf0;rcases Qo.1 hc with hc|hc
     ·obtain⟨a,b,e⟩:=ih c (zqI hc);exact⟨a,b,Qf0⟩
     ·rw[Qp] at hc;subst hc;dsimp only;rw[hw];omega
    ·rcases Qo.1 hc with hc|hc
     ·obtain⟨a,b,e⟩:=ih c hc;exact⟨a,b,Qf0⟩
     ·exact Qd8
theorem zoD{α:Type}{p q:Prop}[Decidable p][Decidable q]{a b:α}(h:p↔q):(if p then a else b)=if q then a else b:=by
 by_cases hp:p
 ·rw[Qj hp,Qj (h.1 hp)]
 ·rw[Qi hp,Qi (fun w=>hp (h.2 w))]
open Classical in
theorem iM(l:La)(ms:List Int): ∀n,n<=64-> ∀i,i<64->(wL l (zh6 (oU l) ms n)).getD i 0=if i<n/\ms.getD i 0≠oU l/\ze7 l (ms.getD i 0)=true then zpP l (oU l) (ms.getD i 0) else oU l
 |0,_,i,hi=>by
  rw[Qi Qf0];exact ziB hi _
 | n + 1,hn,i,hi=>by
  have ih:=iM l ms n Qf0;have low:=zoY (oU l) ms n Qf0;simp only[zh6];unfold zm5;by_cases hv:ms.getD n 0=oU l
  ·rw[Qj hv,ih i hi];by_cases q:i<n/\ms.getD i 0≠oU l/\ze7 l (ms.getD i 0)=true
   ·rw[Qj q,Qj ⟨Qf0,q.2⟩]
   ·rw[Qi q,Qi];rintro⟨q1,q2,q3⟩;by_cases q4:i<n
    ·exact q ⟨q4,q2,q3⟩
    ·have:i=n:=Qf0;subst this;exact q2 hv
  ·rw[Qi hv];have app: ∀cs:List Ce,(∀c∈cs,c.b<=(n:Int))->(∀j,j<64->(wL l cs).getD j 0=if j<n/\ms.getD j 0≠oU l/\ze7 l (ms.getD j 0)=true then zpP l (oU l) (ms.getD j 0) else oU l)->
     (wL l (cs++[⟨(n:Int),((n+1:Nat):Int),ms.getD n 0⟩])).getD i 0=if i<n+1/\ms.getD i 0≠oU l/\ze7 l (ms.getD i 0)=true then zpP l (oU l) (ms.getD i 0) else oU l:=by
    intro cs hb hj;unfold wL at hj ⊢
    rw[Jn,Yw,Ks,ziW hi];dsimp only;by_cases q:i=n
    ·subst q;rw[hj i hi,Qi (show ¬(i<i/\_) from fun w=>absurd w.1 (Nat.lt_irrefl i))];exact Qbr
    ·rw[Qi (fun w=>q Qf0),hj i hi];by_cases w:i<n/\ms.getD i 0≠oU l/\ze7 l (ms.getD i 0)=true
     ·rw[Qj w,Qj ⟨Qf0,w.2⟩]
     ·rw[Qi w,Qi (fun z=>w ⟨Qf0,z.2⟩)]
   cases hg:(zh6 (oU l) ms n).getLast? with
   |none=>
    have he:zh6 (oU l) ms n=[]:=List.getLast?_eq_none_iff.1 hg;have:=app [] Qf1 (by rw[he] at ih;exact ih);simpa using this
   | some d=>
    dsimp only;have hsp:zh6 (oU l) ms n=(zh6 (oU l) ms n).dropLast++[d]:=by
     obtain⟨ys,h⟩:=List.getLast?_eq_some_iff.1 hg;rw[h,List.dropLast_concat]
    by_cases q:d.b=(n:Int)/\d.e=ms.getD n 0
    ·rw[Qj q];have hd:d∈zh6 (oU l) ms n:=List.mem_of_getLast? hg;obtain⟨a1,a2,a3⟩:=low d hd;have hw:IntKind.i64.wrap (d.b+1)=((n+1:Nat):Int):=Qgu;rw[hw];have hi1:=ih i hi;rw[hsp] at hi1;have lowd: ∀c∈(zh6 (oU l) ms n).dropLast,c.b<=(n:Int):=fun c hc=>(low c (zqI hc)).2.2;generalize (zh6 (oU l) ms n).dropLast=cs at*;unfold wL at hi1 ⊢
     rw[Jn,Yw,Ks,ziW hi] at hi1 ⊢
     dsimp only;by_cases qi:i=n
     ·subst qi;rw[zfY l hi cs lowd,ziB hi,q.2];exact Qbr
     ·have e1:(ze7 l d.e=true/\d.a<=(i:Int)/\(i:Int)<((n+1:Nat):Int))↔(ze7 l d.e=true/\d.a<=(i:Int)/\(i:Int)<d.b):=by
       constructor
       ·rintro⟨x,y,z⟩;exact⟨x,y,Qf0⟩
       ·rintro⟨x,y,z⟩;exact⟨x,y,Qf0⟩
      have e2:(i<n+1/\ms.getD i 0≠oU l/\ze7 l (ms.getD i 0)=true)↔(i<n/\ms.getD i 0≠oU l/\ze7 l (ms.getD i 0)=true):=by
       constructor
       ·rintro⟨x,y⟩;exact⟨Qf0,y⟩
       ·rintro⟨x,y⟩;exact⟨Qf0,y⟩
      rw[zoD e1,zoD e2];exact hi1
    ·rw[Qi q];exact app _ (fun c hc=>(low c hc).2.2) ih
def ze9(l:La)(v:Int):Prop:=v=oU l\/ze7 l v=true/\zpP l (oU l) v=v
def zh2(l:La)(ms:List Int):Prop:=ms.length=64/\ ∀i,i<64->ze9 l (ms.getD i 0)
theorem zmI{l:La}{ms:List Int}(h:zh2 l ms):wL l (zh6 (oU l) ms 64)=ms:=by
 refine mH (zdR ..) h.1 fun i hi=> ?_;rw[iM l ms 64 (Xe _) i hi];rcases h.2 i hi with e|⟨e1,e2⟩
 ·rw[Qi (fun q=>q.2.1 e),e]
 ·by_cases q:ms.getD i 0=oU l
  ·rw[Qi (fun w=>w.2.1 q),q]
  ·rw[Qj ⟨hi,q,e1⟩,e2]
theorem zrB{l:La}{ms:List Int}(hl:ms.length=64)(h:wL l (zh6 (oU l) ms 64)=ms):zh2 l ms:=by
 refine⟨hl,fun i hi=> ?_⟩;have:=iM l ms 64 (Xe _) i hi;rw[h] at this;unfold ze9;by_cases q:i<64/\ms.getD i 0≠oU l/\ze7 l (ms.getD i 0)=true
 ·rw[Qj q] at this;exact .inr ⟨q.2.2,this.symm⟩
 ·rw[Qi q] at this;exact .inl this
def TabW(T:Tbl):Prop:=(vR T).Nodup/\ ∀x∈T,x.2.length=64
theorem zpZ(T:Tbl)(k:BA)(f:List Int->List Int):vR (oT T k f)=vR T:=by
 unfold vR oT;rw[Zg];exact Yq fun x _=>by dsimp only[Function.comp_apply];split<;>rfl
theorem TabW.line{T:Tbl}(h:TabW T)(bt:Int)(args:List Vl):TabW (uZ bt T args):=by
 unfold uZ;split
 ·exact h
 ·rename_i hn;refine⟨?_,fun x hx=> ?_⟩
  ·have h1:=h.1;unfold vR at hn h1 ⊢
   rw[Xq,Za];refine⟨h1,Qf1,fun a ha b hb=> ?_⟩;simp at hb;rintro rfl;exact hn (hb▸ha)
  ·exact Qe5
theorem TabW.upd{T:Tbl}(h:TabW T)(k:BA){f:List Int->List Int}(hf: ∀ms:List Int,ms.length=64->(f ms).length=64):TabW (oT T k f):=by
 refine⟨by rw[zpZ];exact h.1,fun x hx=> ?_⟩;unfold oT at hx;exact Qeb
theorem TabW.row{l:La}{T:Tbl}(h:TabW T)(x:LRw):TabW (zoG l T x):=by
 unfold zoG;have key: ∀(cs:List Ce)(T:Tbl),TabW T->TabW (cs.foldl (fun T c=>oT T (zk0 x.args) fun ms=>dU l ms c.a c.b c.e) T):=fun cs=>by
  induction cs with
  |nil=>exact fun T h=>h
  |cons c cs ih=>exact fun T h=>ih _ (h.upd _ fun ms hm=>zeA hm)
 exact key _ _ (h.line _ _)
theorem TabW.read{l:La}: ∀(rs:List LRw){T:Tbl},TabW T->TabW (rs.foldl (zoG l) T)
 | [],_,h=>h
 |x::rs,_,h=>TabW.read rs (h.row x)
theorem ziO(l:La)(rs:List LRw):TabW (xU l rs):=TabW.read rs ⟨Kg,Qf1⟩
theorem zpS{T:Tbl}{args:List Vl}{ms:List Int}{f:List Int->List Int}(h: ¬zk0 args∈vR T):oT (T++[(args,ms)]) (zk0 args) f=T++[(args,f ms)]:=by
 unfold oT;rw[Xq];congr 1
 ·conv=>rhs;rw[<-Kl T]
  refine Yq fun x hx=> ?_;rw[Qi];rfl;intro e;exact h (by unfold vR;rw[<-e];exact Zi (f:=fun x:List Vl×List Int=>zk0 x.1) hx)
 ·simp
theorem zpV{l:La}{T:Tbl}{x:LRw}(h: ¬zk0 x.args∈vR T):zoG l T x=T++[(x.args,wL l x.cs)]:=by
 unfold zoG uZ wL;rw[Qi h];generalize List.replicate 64 (oU l)=ms
 induction x.cs generalizing ms with
 |nil=>rfl
 |cons c cs ih=>rw[Yw,Yw,zpS h];exact ih _
theorem zfX{l:La}: ∀(rs:List LRw)(T:Tbl),(vR T++rs.map fun x=>zk0 x.args).Nodup->rs.foldl (zoG l) T=T++rs.map fun x=>(x.args,wL l x.cs)
 | [],T,_=>by simp
 | x::rs,T,h=>by
  have hn: ¬zk0 x.args∈vR T:=by
   rw[Za] at h;intro q;exact h.2.2 _ q _ (Qe ..) rfl
  rw[Yw,zpV hn,zfX rs]
  ·simp
  ·have e:vR (T++[(x.args,wL l x.cs)])=vR T++[zk0 x.args]:=by unfold vR;rw[Xq];rfl
   rw[e,Qv];exact h
theorem kT{l:La}{rs:List LRw}(h:(rs.map fun x=>zk0 x.args).Nodup):xU l rs=rs.map fun x=>(x.args,wL l x.cs):=by
 have:=zfX (l:=l) rs [] (by simpa [vR] using h);simpa [xU] using this
theorem zqK(bt:Int): ∀T:Tbl,((T.filterMap (zbI bt)).map fun x=>zk0 x.args).Sublist (vR T)
 | []=>List.Sublist.refl _
 | x::T=>by
  have ih:=zqK bt T;unfold vR at ih ⊢
  rw[Kd,Xa];unfold zbI;split
  ·rename_i h;exact ih.cons _
  ·rename_i b h;split at h
   ·cases h
   ·cases h;rw[Xa];exact ih.cons_cons _
theorem kR{bt:Int}{T:Tbl}(h:TabW T):((uY bt T).map fun x=>zk0 x.args).Nodup:=by
 have hp:=(zbK bt T).1.map fun x:LRw=>zk0 x.args;exact hp.nodup_iff.2 ((zqK bt T).nodup h.1)
theorem zbT{bt:Int}{T:Tbl}{x:LRw}:x∈uY bt T↔ ∃y∈T,x.args=y.1/\x.cs=zh6 bt y.2 64/\x.cs≠[]:=by
 rw[(zbK bt T).1.mem_iff,List.mem_filterMap];constructor
 ·rintro⟨y,hy,h⟩;unfold zbI at h;split at h
  ·cases h
  ·rename_i q;cases h;exact⟨y,hy,rfl,rfl,q⟩
 ·rintro⟨y,hy,h1,h2,h3⟩;refine⟨y,hy,?_⟩;unfold zbI;rw[<-h2,Qi h3,<-h1]
theorem zq0{bt:Int}{T:Tbl}{R:List LRw}(hp:R.Perm (T.filterMap (zbI bt)))(hs:R.Pairwise N.rxL')(hk:(R.map fun x=>zk0 x.args).Nodup):uY bt T=R:=by
 obtain⟨h1,h2⟩:=zbK bt T;have hone: ∀a∈R, ∀b∈R,a.args=b.args->a=b:=fun a ha b hb e=>sJ (f:=fun x:LRw=>zk0 x.args) hk ha hb (by rw[e]);have kI:(uY bt T).map id=R:=aG zqQ (fun r:LRw=>r.args) (by rw[Kl];exact h1.trans hp.symm) (List.Perm.refl R) hone (by rw[Kl];exact h2) hs
 rwa [Kl] at kI
def TabG(l:La)(T:Tbl):Prop:=TabW T/\ ∀x∈T,zh2 l x.2
theorem zpE{l:La}{T:Tbl}(h:TabG l T):uY (oU l) (xU l (uY (oU l) T))=uY (oU l) T:=by
 have hk:=kR (bt:=oU l) h.1;have hfm:(xU l (uY (oU l) T)).filterMap (zbI (oU l))=uY (oU l) T:=by
  rw[kT hk,List.filterMap_map];have: ∀R:List LRw,(∀x∈R,x∈uY (oU l) T)->R.filterMap (zbI (oU l)∘fun x=>(x.args,wL l x.cs))=R:=fun R=>by
   induction R with
   |nil=>exact fun _=>rfl
   | cons x R ih=>
    intro hR;obtain⟨y,hy,e1,e2,e3⟩:=zbT.1 (hR x (Qe ..));have hx:(zbI (oU l)∘fun x:LRw=>(x.args,wL l x.cs)) x=some x:=by
     dsimp only[Function.comp_apply];unfold zbI;have:zh6 (oU l) (wL l x.cs) 64=x.cs:=by
      rw[e2,zmI (h.2 y hy)]
     dsimp only;rw[this,Qi e3]
    rw[List.filterMap_cons_some hx,ih fun z hz=>hR z (Qf x hz)]
  exact this _ fun x hx=>hx
 exact zq0 (by rw[hfm]) (zbK _ _).2 hk
theorem CelX.good{l:La}{ty:List Int}{rs:List LRw}(h:CelX l ty rs):TabG l (xU l rs):=by
 have hw:=ziO l rs;refine⟨hw,?_⟩;have hk:=kR (bt:=oU l) hw;rw[<-h.2.2] at hk;have hr:=kT (l:=l) hk;intro x hx;rw[hr] at hx;obtain⟨y,hy,rfl⟩:=Xf.1 hx;dsimp only;have hy2:=hy;rw[h.2.2] at hy2;obtain⟨z,hz,e1,e2,e3⟩:=zbT.1 hy2;have hz1:=hz;rw[hr] at hz1;obtain⟨w,jY,rfl⟩:=Xf.1 hz1;dsimp only at e1 e2;have:y=w:=sJ (f:=fun x:LRw=>zk0 x.args) hk hy jY (by rw[e1]);subst this;refine zrB (zdR ..) ?_;rw[<-e2]
theorem zpM{l:La}{ms:List Int}{a b e:Int}(h:zh2 l ms)(he:ze9 l e):zh2 l (if ze7 l e=true then tB (fun _=>e) ms a b else ms):=by
 split
 ·refine⟨yY ..,fun i hi=> ?_⟩;rw[tU hi];split
  ·exact he
  ·exact h.2 i hi
 ·exact h
theorem TabG.set{l:La}{T:Tbl}(h:TabG l T)(args:List Vl)(a b:Int){e:Int}(he:ze9 l e):TabG l (za9 l T args a b e):=by
 unfold za9;refine⟨(h.1.line _ _).upd _ fun ms hm=> ?_,fun x hx=> ?_⟩
 ·split
  ·exact yY ..
  ·exact hm
 ·have hl: ∀y∈uZ (oU l) T args,zh2 l y.2:=fun y hy=>by
   unfold uZ at hy;split at hy
   ·exact h.2 y hy
   ·rcases Qo.1 hy with hy|hy
    ·exact h.2 y hy
    ·rw[Qp] at hy;subst hy;exact⟨Qf1,fun i hi=> .inl (ziB hi _)⟩
  unfold oT at hx;obtain⟨y,hy,rfl⟩:=Xf.1 hx;split
  ·exact zpM (hl y hy) he
  ·exact hl y hy
theorem zrC{l:La}{T:Tbl}{args:List Vl}{a b e:Int}: ∀x∈za9 l T args a b e,x.1=args\/ ∃y∈T,x.1=y.1:=fun x hx=>by
 unfold za9 oT at hx;obtain⟨y,hy,rfl⟩:=Xf.1 hx;have:y.1=args\/ ∃z∈T,y.1=z.1:=by
  unfold uZ at hy;split at hy
  ·exact .inr ⟨y,hy,rfl⟩
  ·rcases Qo.1 hy with hy|hy
   ·exact .inr ⟨y,hy,rfl⟩
   ·rw[Qp] at hy;subst hy;exact .inl rfl
 split<;>exact this
theorem CelX.set{l:La}{ty:List Int}{rs:List LRw}(h:CelX l ty rs){args:List Vl}(ha:ArgX ty args)(a b:Int){e:Int}(he:ze9 l e):CelX l ty (uY (oU l) (za9 l (xU l rs) args a b e)):=by
 have hG:=h.good.set args a b he;refine⟨h.1,fun x hx=> ?_,(zpE hG).symm⟩;obtain⟨y,hy,e1, -, -⟩:=zbT.1 hx;rw[e1];rcases zrC y hy with q|⟨z,hz,q⟩
 ·rw[q];exact ha
 ·rw[q];have hk:=kR (bt:=oU l) (ziO l rs);rw[<-h.2.2] at hk;rw[kT hk] at hz;obtain⟨w,hw,rfl⟩:=Xf.1 hz;exact h.2.1 w hw
theorem CelX.nil{l:La}(ty:List Int)(h:uE l=0):CelX l ty []:=⟨h,Qf1,by simp[xU,uY]⟩
theorem zp4{l:La}(hl:l.ok)(hc:uE l=0){e:Int}(he:ze7 l e=true):ze9 l e:=by
 unfold ze7 at he;rw[Xm] at he;exact .inr ⟨by unfold ze7;rw[Xm];exact he,(zqB l hl hc).2 e he.1 he.2⟩
theorem zpN(l:La):ze9 l (oU l):= .inl rfl
end Go.AL
namespace Go.AL
open Go.Proofs Go.Proofs.Tryz
@[go_sem] def UBas3f60.pl:Nat->DPlan
 |1=>⟨[⟨6,0,[1003]⟩,yA,⟨7,0,[1003]⟩,yB,yA,yA,yB,yA,yB,yC,yA,yA,yA],yN,0⟩
 |_=>⟨[],[],0⟩
structure ChK(p:Pg)(o:Op1):Prop where
 v:VfK p o.pred o.elem o.args
 k:o.kind=1\/o.kind=2
 b: ∀h:o.pred.toNat<p.pk.length,p.pk[o.pred.toNat].base=true
 s:0<=o.span.a/\o.span.a<o.span.b/\o.span.b<=64
attribute [-go_sem] only
attribute [go_sem] only
end Go.AL
namespace Go.AL
theorem zd3{k:Nat}{x y:Rw}:tA k x y=true↔y.args.take k=x.args.take k/\uQ y.w &&& uQ x.w≠0:=by
 unfold tA;have h:uQ y.w &&& uQ x.w<2 ^ 64:=Nat.and_lt_two_pow _ (wB _);rw[Qt,Xm,Xm,Up,ne_eq,zfN h]
def KyG(k:Nat)(l:List Rw):Prop:= ∀t t':List Vl,t≠t'->t.take k=t'.take k->yH l t &&& yH l t'=0
theorem zjB{k:Nat}{l:List Rw}(hc:CanL l):zr1 k l↔KyG k l:=by
 have hp:=(iW l).1 hc.1;constructor
 ·intro h t t' hne hk;apply Yv;intro hz;have h1:yH l t≠0:=fun e=>hz (by rw[e];exact Nat.zero_and _);have h2:yH l t'≠0:=fun e=>hz (by rw[e];exact Nat.and_zero _);obtain⟨x,hx,e1,e2⟩:=zn6 h1;obtain⟨y,hy,f1,f2⟩:=zn6 h2;obtain⟨i,hi,rfl⟩:=Qy hx;obtain⟨j,hj,rfl⟩:=Qy hy;have key: ∀(a b:Nat)(ha:a<l.length)(hb:b<l.length),a<b->l[b].args.take k=l[a].args.take k->uQ l[b].w &&& uQ l[a].w=0:=fun a b ha hb hab e=>by
   apply Yv;intro q;have:=h b hb;rw[List.any_eq_false] at this;exact this l[a] (List.mem_take_iff_getElem.2 ⟨a,Qf0,rfl⟩) (zd3.2 ⟨e,q⟩)
  rw[<-e2,<-f2] at hz;rcases Jy i j with q|q|q
  ·exact hz (by rw[Nat.and_comm];exact key i j hi hj q (by rw[e1,f1,hk]))
  ·subst q;exact hne (e1.symm.trans f1)
  ·exact hz (key j i hj hi q (by rw[e1,f1,hk]))
 ·intro h i hi;rw[List.any_eq_false];intro y hy mM;obtain⟨j,hj,rfl⟩:=List.mem_take_iff_getElem.1 hy;have hji:j<i:=Qf0;obtain⟨q1,q2⟩:=zd3.1 mM;have hlt:=hc.1 j i hji hi;apply q2;rw[<-zoV hp (Qc hi),<-zoV hp (Qc (by omega:j<l.length))];exact h _ _ (fun e=>zaF.ne hlt e.symm) q1
theorem zn3{a b:Nat}(hb:b<2 ^ 64)(m:Nat):(mY a b).testBit m=(a.testBit m&&(decide (m<64)&& !b.testBit m)):=by
 unfold mY;rw[Wu,ziX hb]
theorem zpI(a b:Nat):mY (mY a b) b=mY a b:=by
 unfold mY;rw[Nat.and_assoc,Nat.and_self]
theorem zn9{a b:Nat}(h:a &&& b=0)(m:Nat):(a.testBit m&&b.testBit m)=false:=by
 rw[<-Wu,h,Zx]
def wM(k:Nat)(args:List Vl)(s:Sp)(z r:List Rw):List Rw:=z.foldl (fun r x=>if x.args.take k=args.take k then dP r x.args s else r) r
open Classical in
theorem pM{k:Nat}{args:List Vl}{s:Sp}(hs:s.good): ∀(z r:List Rw),CanL r->CanL (wM k args s z r)/\
  (∀t,yH (wM k args s z r) t=if (∃x∈z,x.args=t)/\t.take k=args.take k then mY (yH r t) (zo2 s) else yH r t)/\ ∀x∈wM k args s z r, ∃y∈z++r,x.args=y.args
 | [],r,hc=>⟨hc,fun t=>by rw[Qi (fun q=>by obtain⟨⟨x,hx,_⟩,_⟩:=q;cases hx)];rfl,fun x hx=>⟨x,hx,rfl⟩⟩
 | x ::z,r,hc=>by
  by_cases hk:x.args.take k=args.take k
  ·obtain⟨r1,r2,r3⟩:=bK (args:=x.args) hc hs;obtain⟨i1,i2,i3⟩:=pM (k:=k) (args:=args) hs z _ r1;have e:wM k args s (x::z) r=wM k args s z (dP r x.args s):=by unfold wM;rw[Yw,Qj hk]
   rw[e];refine⟨i1,fun t=> ?_,fun w hw=> ?_⟩
   ·rw[i2 t,r2 t];by_cases ht:x.args=t
    ·subst ht;rw[Qj rfl,zpI,ite_self,Qj ⟨⟨x,Qe ..,rfl⟩,hk⟩]
    ·rw[Qi ht,zpH _ (zoW r t)];refine zoD ⟨fun q=> ?_,fun q=> ?_⟩
     ·obtain⟨⟨y,hy,f⟩,g⟩:=q;exact⟨⟨y,Qf _ hy,f⟩,g⟩
     ·obtain⟨⟨y,hy,f⟩,g⟩:=q;rcases Qw.1 hy with rfl|hy
      ·exact absurd f ht
      ·exact⟨⟨y,hy,f⟩,g⟩
   ·obtain⟨y,hy,f⟩:=i3 w hw;rcases Qo.1 hy with hy|hy
    ·exact⟨y,by simp[hy],f⟩
    ·rcases r3 y hy with g|⟨v,hv,g⟩
     ·exact⟨x,Qf1,by rw[f,g]⟩
     ·exact⟨v,by simp[hv],by rw[f,g]⟩
  ·obtain⟨i1,i2,i3⟩:=pM (k:=k) (args:=args) hs z r hc;have e:wM k args s (x::z) r=wM k args s z r:=by unfold wM;rw[Yw,Qi hk]
   rw[e];refine⟨i1,fun t=> ?_,fun w hw=> ?_⟩
   ·rw[i2 t];refine zoD ⟨fun q=> ?_,fun q=> ?_⟩
    ·obtain⟨⟨y,hy,f⟩,g⟩:=q;exact⟨⟨y,Qf _ hy,f⟩,g⟩
    ·obtain⟨⟨y,hy,f⟩,g⟩:=q;rcases Qw.1 hy with rfl|hy
     ·rw[<-f] at g;exact absurd g hk
     ·exact⟨⟨y,hy,f⟩,g⟩
   ·obtain⟨y,hy,f⟩:=i3 w hw;exact⟨y,by rcases Qo.1 hy with hy|hy<;>simp[hy],f⟩
theorem rP{α β:Type}(g:α->Option β): ∀l:List α,(l.filterMap g).length<=l.length:=fun l=>Kz g l
theorem zp3(a:List Rw)(args:List Vl)(s:Sp):(zoB a args s).length<=a.length+1:=Ya (rP _ _) (vK ..)
theorem zbU(op:Nat->Nat->Nat)(q:Rw×Rw)(P:List (Rw×Rw)):(yX op (q::P)).length<=(yX op P).length+1:=by
 unfold yX;rw[Kd];split<;>simp
theorem zh8{op:Nat->Nat->Nat}{q:Rw×Rw}(P:List (Rw×Rw))(h:yW (op (uQ q.1.w) (uQ q.2.w))=[]):yX op (q::P)=yX op P:=by
 unfold yX;rw[List.filterMap_cons_none];rw[Qj h]
theorem pN{op:Nat->Nat->Nat}(h0: ∀b,yW (op 0 b)=[]): ∀(n:Nat)(a b:List Rw),(yX op (yT n a b)).length<=a.length
 |0,a,b=>by simp[yT,yX]
 |n+1,[],[]=>by simp[yT,yX]
 |n+1,[],y::b=>by
  rw[yT,zh8 _ (h0 _)];exact pN h0 n [] b
 |n+1,x::a,[]=>by
  rw[yT];have h1:=zbU op (x,⟨[],[]⟩) (yT n a []);have h2:=pN h0 n a [];rw[Qn];omega
 | n+1,x::a,y::b=>by
  rw[yT,Qn];split
  ·have h1:=zbU op (x,⟨[],[]⟩) (yT n a (y::b));have h2:=pN h0 n a (y::b);omega
  ·split
   ·have h1:=zbU op (x,y) (yT n a b);have h2:=pN h0 n a b;omega
   ·rw[zh8 _ (h0 _)];exact pN h0 n (x::a) b
theorem zn0(a:List Rw)(args:List Vl)(s:Sp):(dP a args s).length<=a.length:=pN (fun b=>(zfN (zoR ..)).2 (Nat.zero_and _)) _ _ _
theorem jK(k:Nat)(args:List Vl)(s:Sp): ∀z r:List Rw,(wM k args s z r).length<=r.length
 | [],_=>Xe _
 | x::z,r=>by
  unfold wM;rw[Yw];split
  ·have h1:=jK k args s z (dP r x.args s);have h2:=zn0 r x.args s;unfold wM at h1;omega
  ·have h1:=jK k args s z r;unfold wM at h1;omega
def bA(k:Nat)(z:List Rw)(args:List Vl)(s:Sp):List Rw:=zoB (wM k args s z z) args s
theorem zpB(k:Nat)(z:List Rw)(args:List Vl)(s:Sp):(bA k z args s).length<=z.length+1:=by
 have h1:=zp3 (wM k args s z z) args s;have h2:=jK k args s z z;unfold bA;omega
open Classical in
theorem zdF{k:Nat}{z:List Rw}{args:List Vl}{s:Sp}(hc:CanL z)(hs:s.good):CanL (bA k z args s)/\
  (∀t,yH (bA k z args s) t=(if t.take k=args.take k then mY (yH z t) (zo2 s) else yH z t) ||| if args=t then zo2 s else 0)/\ ∀x∈bA k z args s,x.args=args\/ ∃y∈z,x.args=y.args:=by
 obtain⟨i1,i2,i3⟩:=pM (k:=k) (args:=args) hs z z hc;obtain⟨j1,j2,j3⟩:=zpL (args:=args) i1 hs;refine⟨j1,fun t=> ?_,fun x hx=> ?_⟩
 ·unfold bA;rw[j2 t,i2 t];congr 1;by_cases hm: ∃x∈z,x.args=t
  ·exact zoD ⟨fun q=>q.2,fun q=>⟨hm,q⟩⟩
  ·have h0:yH z t=0:=bL fun x hx e=>hm ⟨x,hx,e⟩;rw[Qi (fun q=>hm q.1),h0];have:mY 0 (zo2 s)=0:=Nat.zero_and _;rw[this];split<;>rfl
 ·rcases j3 x hx with e|⟨y,hy,e⟩
  ·exact .inl e
  ·obtain⟨w,hw,f⟩:=i3 y hy;exact .inr ⟨w,by rcases Qo.1 hw with h|h<;>exact h,by rw[e,f]⟩
theorem KyG.tell{k:Nat}{z:List Rw}{args:List Vl}{s:Sp}(h:KyG k z)(hc:CanL z)(hs:s.good):KyG k (bA k z args s):=by
 intro t t' hne hk;have ht:=(zdF (k:=k) (args:=args) hc hs).2.1;rw[ht t,ht t'];have hz:=zn9 (h t t' hne hk);have hsl:=zoI s;generalize yH z t=a at*;generalize yH z t'=b at*;by_cases q:t.take k=args.take k
 ·rw[Qj q,Qj (hk.symm.trans q)];refine Ja fun m=> ?_;have:=hz m;rw[Wu,Kf,Kf,zn3 hsl,zn3 hsl,Zx];by_cases e1:args=t
  ·rw[Qj e1,Qi (fun e2=>hne (e1.symm.trans e2)),Zx];exact Qe7
  ·rw[Qi e1,Zx];by_cases e2:args=t'
   ·rw[Qj e2];exact Qe7
   ·rw[Qi e2,Zx];cases hx:a.testBit m<;>cases hy:b.testBit m<;>simp_all
 ·rw[Qi q,Qi (fun w=>q (hk.trans w)),Qi (fun e=>q (by rw[e])),Qi (fun e=>q (by rw[hk,e])),Nat.or_zero,Nat.or_zero];refine Ja fun m=> ?_;rw[Wu,Zx];exact hz m
theorem KyG.rem{k:Nat}{z:List Rw}{args:List Vl}{s:Sp}(h:KyG k z)(hc:CanL z)(hs:s.good):KyG k (dP z args s):=by
 intro t t' hne hk;have ht:=(bK (args:=args) hc hs).2.1;rw[ht t,ht t'];have hz:=zn9 (h t t' hne hk);refine Ja fun m=> ?_;unfold mY;rw[Wu,Wu,Wu,Zx];have:=hz m;cases hx:(yH z t).testBit m<;>cases hy:(yH z t').testBit m<;>simp_all
theorem RelX.of{ty:List Int}{z r:List Rw}{args:List Vl}(h:RelX ty z)(ha:ArgX ty args)(hc:CanL r)(hr: ∀x∈r,x.args=args\/ ∃y∈z,x.args=y.args):RelX ty r:=by
 refine⟨hc,fun x hx=> ?_⟩;rcases hr x hx with e|⟨y,hy,e⟩
 ·rw[e];exact ha
 ·rw[e];exact h.2 y hy
theorem SpF.len: ∀{l:List Sp}{lo:Int},0<=lo->SpF lo l->l.length<=64/\(lo<=65->(l.length:Int)<=65-lo)
 | [],lo,h0,_=>⟨Qf1,fun h=>by simp;omega⟩
 |s::l,lo,h0,h=>by
  obtain⟨h1,h2,h3,h4⟩:=h;have ih:=(SpF.len Qf0 h4).2 Qf0;rw[Qn];exact⟨Qf0,fun _=>by omega⟩
theorem Rw.can.len{x:Rw}(h:x.can):x.w.length<=64:=(SpF.len (Ug 0) h.1).1
theorem RelX.ls{ty:List Int}{z:List Rw}(h:RelX ty z)(ht:ty.length<=1048576): ∀x∈z,x.args.length=ty.length/\x.ls:=fun x hx=>by
 have ha:=h.2 x hx;exact⟨ha.1,by rw[ha.1];exact ht,fun v hv=>by have:=ha.sz v hv;omega,(h.1.2 x hx).len⟩
theorem zpJ(bt:Int)(T:Tbl)(args:List Vl):(uZ bt T args).length<=T.length+1:=by
 unfold uZ;split
 ·omega
 ·simp
theorem zpT(T:Tbl)(k:BA)(f:List Int->List Int):(oT T k f).length=T.length:=by unfold oT;simp
theorem zpW(bt:Int)(T:Tbl):(uY bt T).length<=T.length:=by
 rw[(zbK bt T).1.length_eq];exact rP _ _
theorem CelX.set_len{l:La}{ty:List Int}{rs:List LRw}(h:CelX l ty rs)(args:List Vl)(a b e:Int):(uY (oU l) (za9 l (xU l rs) args a b e)).length<=rs.length+1:=by
 have h1:=zpW (oU l) (za9 l (xU l rs) args a b e);have hk:=kR (bt:=oU l) (ziO l rs);rw[<-h.2.2] at hk;have h2:(xU l rs).length=rs.length:=by rw[kT hk];simp
 unfold za9 at h1 ⊢
 rw[zpT] at h1;have h3:=zpJ (oU l) (xU l rs) args;omega
theorem CelX.oks{l:La}{ty:List Int}{rs:List LRw}(h:CelX l ty rs)(ht:ty.length<=1048576): ∀x∈rs,x.ok:=fun x hx=>by
 have ha:=h.2.1 x hx;refine⟨by rw[ha.1];exact ht,?_,ha.sz⟩;rw[h.2.2] at hx;obtain⟨y, -, -,e, -⟩:=zbT.1 hx;have:=zb5 (oU l) y.2 64;rw[e];omega
end Go.AL
namespace Go.AL
open Go.Proofs Go.Proofs.Tryz
@[go_sem] def UBas4f176.pp:Nat->DPlan
 |2=>⟨[yA,yA,yA,yB,yA,yA,yB,yA,yB,yA,yA,yA,yB,yA,yB,yA,yA,yA,yB,yA,yA,yB,yA,yA,yB,yA,yB,yA,uX,yA,yC],yd1,0⟩
 |_=>⟨[],[],0⟩
structure DtS(p:Pg)(N:Nat)(d:Dt):Prop where
 rl:d.pg.length=p.pk.length
 ll:d.pQ.length=p.pk.length
 r: ∀(i:Nat)(h:i<p.pk.length)(h':i<d.pg.length),d.pg[i].length<=N/\ ∀x∈d.pg[i],x.args.length=p.pk[i].types.length/\x.ls
 l: ∀(i:Nat)(h':i<d.pQ.length),d.pQ[i].length<=N/\ ∀x∈d.pQ[i],x.ok
structure DataAt(d:Dt)(q rq lq:Nat)(h:Heap):Prop where
 t:h[q]? =some (.var 31 [.ms rq 0 1 d.pg.length,.ms lq 0 1 d.pQ.length])
 r:h[rq]? =some (.var 95 (d.pg.map uN))
 l:h[lq]? =some (.var 124 (d.pQ.map vD))
theorem DataAt.app{d:Dt}{q rq lq:Nat}{h:Heap}(hD:DataAt d q rq lq h)(B:Heap):DataAt d q rq lq (h++B):=⟨yJ _ _ _ _ hD.t,yJ _ _ _ _ hD.r,yJ _ _ _ _ hD.l⟩
structure Act(p:Pg)(N:Nat)(q rq lq:Nat)(h h':Heap):Prop where
 d: ∃d':Dt,DtS p N d'/\DataAt d' q rq lq h'
 k: ∀(r:Nat)(b:Blk),r≠rq->r≠lq->h[r]? =some b->h'[r]? =some b
theorem DataAt.ne{d:Dt}{q rq lq:Nat}{h:Heap}(hD:DataAt d q rq lq h):q≠rq/\q≠lq/\rq≠lq:=by
 refine⟨?_,?_,?_⟩
 ·rintro rfl;have:=hD.t;rw[hD.r] at this;cases this
 ·rintro rfl;have:=hD.t;rw[hD.l] at this;cases this
 ·rintro rfl;have:=hD.r;rw[hD.l] at this;cases this
end Go.AL
