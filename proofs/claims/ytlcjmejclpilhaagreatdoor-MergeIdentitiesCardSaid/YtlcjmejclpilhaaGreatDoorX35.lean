/-
  The bytes of a tuple, to the letter.
-/
import Derived.Test.YtlcjmejclpilhaaGreatDoorX34
set_option linter.unusedSimpArgs false
set_option linter.unusedVariables false
set_option maxRecDepth 100000
set_option maxHeartbeats 4000000
namespace Go.AL
theorem zd3{k:Nat}{x y:Rw}:tA k x y=true↔y.args.take k=x.args.take k/\uQ y.w &&& uQ x.w≠0:=by
 unfold tA;have h:uQ y.w &&& uQ x.w<2 ^ 64:=Nat.and_lt_two_pow _ (wB _);rw[Qt,Xm,Xm,Up,ne_eq,zfN h]
def KyG(k:Nat)(l:List Rw):Prop:= ∀t t':List Vl,t≠t'->t.take k=t'.take k->yH l t &&& yH l t'=0
theorem zjB{k:Nat}{l:List Rw}(hc:CanL l):zr1 k l↔KyG k l:=by
 have hp:=(iW l).1 hc.1;constructor
 ·intro h t t' hne hk;apply Yv;intro hz;have h1:yH l t≠0:=fun e=>hz (by rw[e];exact Nat.zero_and _);have h2:yH l t'≠0:=fun e=>hz (by rw[e];exact Nat.and_zero _);obtain⟨x,hx,e1,e2⟩:=zn6 h1;obtain⟨y,hy,f1,f2⟩:=zn6 h2;obtain⟨i,hi,rfl⟩:=Qy hx;obtain⟨j,hj,rfl⟩:=Qy hy;have key: ∀(a b:Nat)(ha:a<l.length)(hb:b<l.length),a<b->l[b].args.take k=l[a].args.take k->uQ l[b].w &&& uQ l[a].w=0:=fun a b ha hb hab e=>by
   apply Yv;intro q;have:=h b hb;rw[List.any_eq_false] at this;exact this l[a] (List.mem_take_iff_getElem.2 ⟨a,Qf3,rfl⟩) (zd3.2 ⟨e,q⟩)
  rw[<-e2,<-f2] at hz;rcases Jx i j with q|q|q
  ·exact hz (by rw[Nat.and_comm];exact key i j hi hj q (by rw[e1,f1,hk]))
  ·subst q;exact hne (e1.symm.trans f1)
  ·exact hz (key j i hj hi q (by rw[e1,f1,hk]))
 ·intro h i hi;rw[List.any_eq_false];intro y hy mM;obtain⟨j,hj,rfl⟩:=List.mem_take_iff_getElem.1 hy;have hji:j<i:=Qf3;obtain⟨q1,q2⟩:=zd3.1 mM;have hlt:=hc.1 j i hji hi;apply q2;rw[<-zoV hp (Qc hi),<-zoV hp (Qc (by omega:j<l.length))];exact h _ _ (fun e=>zaF.ne hlt e.symm) q1
theorem zn3{a b:Nat}(hb:b<2 ^ 64)(m:Nat):(mY a b).testBit m=(a.testBit m&&(decide (m<64)&& !b.testBit m)):=by
 unfold mY;rw[Wu,ziX hb]
theorem zpI(a b:Nat):mY (mY a b) b=mY a b:=by
 unfold mY;rw[Nat.and_assoc,Nat.and_self]
theorem zn9{a b:Nat}(h:a &&& b=0)(m:Nat):(a.testBit m&&b.testBit m)=false:=by
 rw[<-Wu,h,Zy]
def wM(k:Nat)(args:List Vl)(s:Sp)(z r:List Rw):List Rw:=z.foldl (fun r x=>if x.args.take k=args.take k then dP r x.args s else r) r
open Classical in
theorem pM{k:Nat}{args:List Vl}{s:Sp}(hs:s.good): ∀(z r:List Rw),CanL r->CanL (wM k args s z r)/\
  (∀t,yH (wM k args s z r) t=if (∃x∈z,x.args=t)/\t.take k=args.take k then mY (yH r t) (zo2 s) else yH r t)/\ ∀x∈wM k args s z r, ∃y∈z++r,x.args=y.args
 | [],r,hc=>⟨hc,fun t=>by rw[Qi (fun q=>by obtain⟨⟨x,hx,_⟩,_⟩:=q;cases hx)];rfl,fun x hx=>⟨x,hx,rfl⟩⟩
 | x ::z,r,hc=>by
  by_cases hk:x.args.take k=args.take k
  ·obtain⟨r1,r2,r3⟩:=bK (args:=x.args) hc hs;obtain⟨i1,i2,i3⟩:=pM (k:=k) (args:=args) hs z _ r1;have e:wM k args s (x::z) r=wM k args s z (dP r x.args s):=by unfold wM;rw[Yw,Qj hk]
   rw[e];refine⟨i1,fun t=> ?_,fun w hw=> ?_⟩
   ·rw[i2 t,r2 t];by_cases ht:x.args=t
    ·subst ht;rw[Qj rfl,zpI,ite_self,Qj ⟨⟨x,Qe ..,rfl⟩,hk⟩]
    ·rw[Qi ht,zpH _ (zoW r t)];refine zoD ⟨fun q=> ?_,fun q=> ?_⟩
     ·obtain⟨⟨y,hy,f⟩,g⟩:=q;exact⟨⟨y,Qf _ hy,f⟩,g⟩
     ·obtain⟨⟨y,hy,f⟩,g⟩:=q;rcases Qw.1 hy with rfl|hy
      ·exact absurd f ht
      ·exact⟨⟨y,hy,f⟩,g⟩
   ·obtain⟨y,hy,f⟩:=i3 w hw;rcases Qo.1 hy with hy|hy
    ·exact⟨y,by simp[hy],f⟩
    ·rcases r3 y hy with g|⟨v,hv,g⟩
     ·exact⟨x,Qf4,by rw[f,g]⟩
     ·exact⟨v,by simp[hv],by rw[f,g]⟩
  ·obtain⟨i1,i2,i3⟩:=pM (k:=k) (args:=args) hs z r hc;have e:wM k args s (x::z) r=wM k args s z r:=by unfold wM;rw[Yw,Qi hk]
   rw[e];refine⟨i1,fun t=> ?_,fun w hw=> ?_⟩
   ·rw[i2 t];refine zoD ⟨fun q=> ?_,fun q=> ?_⟩
    ·obtain⟨⟨y,hy,f⟩,g⟩:=q;exact⟨⟨y,Qf _ hy,f⟩,g⟩
    ·obtain⟨⟨y,hy,f⟩,g⟩:=q;rcases Qw.1 hy with rfl|hy
     ·rw[<-f] at g;exact absurd g hk
     ·exact⟨⟨y,hy,f⟩,g⟩
   ·obtain⟨y,hy,f⟩:=i3 w hw;exact⟨y,by rcases Qo.1 hy with hy|hy<;>simp[hy],f⟩
theorem rP{α β:Type}(g:α->Option β): ∀l:List α,(l.filterMap g).length<=l.length:=fun l=>Kz g l
theorem zp3(a:List Rw)(args:List Vl)(s:Sp):(zoB a args s).length<=a.length+1:=Ya (rP _ _) (vK ..)
theorem zbU(op:Nat->Nat->Nat)(q:Rw×Rw)(P:List (Rw×Rw)):(yX op (q::P)).length<=(yX op P).length+1:=by
 unfold yX;rw[Kc];split<;>simp
theorem zh8{op:Nat->Nat->Nat}{q:Rw×Rw}(P:List (Rw×Rw))(h:yW (op (uQ q.1.w) (uQ q.2.w))=[]):yX op (q::P)=yX op P:=by
 unfold yX;rw[List.filterMap_cons_none];rw[Qj h]
theorem pN{op:Nat->Nat->Nat}(h0: ∀b,yW (op 0 b)=[]): ∀(n:Nat)(a b:List Rw),(yX op (yT n a b)).length<=a.length
 |0,a,b=>by simp[yT,yX]
 |n+1,[],[]=>by simp[yT,yX]
 |n+1,[],y::b=>by
  rw[yT,zh8 _ (h0 _)];exact pN h0 n [] b
 |n+1,x::a,[]=>by
  rw[yT];have h1:=zbU op (x,⟨[],[]⟩) (yT n a []);have h2:=pN h0 n a [];rw[Qn];omega
 | n+1,x::a,y::b=>by
  rw[yT,Qn];split
  ·have h1:=zbU op (x,⟨[],[]⟩) (yT n a (y::b));have h2:=pN h0 n a (y::b);omega
  ·split
   ·have h1:=zbU op (x,y) (yT n a b);have h2:=pN h0 n a b;omega
   ·rw[zh8 _ (h0 _)];exact pN h0 n (x::a) b
theorem zn0(a:List Rw)(args:List Vl)(s:Sp):(dP a args s).length<=a.length:=pN (fun b=>(zfN (zoR ..)).2 (Nat.zero_and _)) _ _ _
theorem jK(k:Nat)(args:List Vl)(s:Sp): ∀z r:List Rw,(wM k args s z r).length<=r.length
 | [],_=>Xe _
 | x::z,r=>by
  unfold wM;rw[Yw];split
  ·have h1:=jK k args s z (dP r x.args s);have h2:=zn0 r x.args s;unfold wM at h1;omega
  ·have h1:=jK k args s z r;unfold wM at h1;omega
def bA(k:Nat)(z:List Rw)(args:List Vl)(s:Sp):List Rw:=zoB (wM k args s z z) args s
theorem zpB(k:Nat)(z:List Rw)(args:List Vl)(s:Sp):(bA k z args s).length<=z.length+1:=by
 have h1:=zp3 (wM k args s z z) args s;have h2:=jK k args s z z;unfold bA;omega
open Classical in
theorem zdF{k:Nat}{z:List Rw}{args:List Vl}{s:Sp}(hc:CanL z)(hs:s.good):CanL (bA k z args s)/\
  (∀t,yH (bA k z args s) t=(if t.take k=args.take k then mY (yH z t) (zo2 s) else yH z t) ||| if args=t then zo2 s else 0)/\ ∀x∈bA k z args s,x.args=args\/ ∃y∈z,x.args=y.args:=by
 obtain⟨i1,i2,i3⟩:=pM (k:=k) (args:=args) hs z z hc;obtain⟨j1,j2,j3⟩:=zpL (args:=args) i1 hs;refine⟨j1,fun t=> ?_,fun x hx=> ?_⟩
 ·unfold bA;rw[j2 t,i2 t];congr 1;by_cases hm: ∃x∈z,x.args=t
  ·exact zoD ⟨fun q=>q.2,fun q=>⟨hm,q⟩⟩
  ·have h0:yH z t=0:=bL fun x hx e=>hm ⟨x,hx,e⟩;rw[Qi (fun q=>hm q.1),h0];have:mY 0 (zo2 s)=0:=Nat.zero_and _;rw[this];split<;>rfl
 ·rcases j3 x hx with e|⟨y,hy,e⟩
  ·exact .inl e
  ·obtain⟨w,hw,f⟩:=i3 y hy;exact .inr ⟨w,by rcases Qo.1 hw with h|h<;>exact h,by rw[e,f]⟩
theorem KyG.tell{k:Nat}{z:List Rw}{args:List Vl}{s:Sp}(h:KyG k z)(hc:CanL z)(hs:s.good):KyG k (bA k z args s):=by
 intro t t' hne hk;have ht:=(zdF (k:=k) (args:=args) hc hs).2.1;rw[ht t,ht t'];have hz:=zn9 (h t t' hne hk);have hsl:=zoI s;generalize yH z t=a at*;generalize yH z t'=b at*;by_cases q:t.take k=args.take k
 ·rw[Qj q,Qj (hk.symm.trans q)];refine Ja fun m=> ?_;have:=hz m;rw[Wu,Kf,Kf,zn3 hsl,zn3 hsl,Zy];by_cases e1:args=t
  ·rw[Qj e1,Qi (fun e2=>hne (e1.symm.trans e2)),Zy];exact Qe9
  ·rw[Qi e1,Zy];by_cases e2:args=t'
   ·rw[Qj e2];exact Qe9
   ·rw[Qi e2,Zy];cases hx:a.testBit m<;>cases hy:b.testBit m<;>simp_all
 ·rw[Qi q,Qi (fun w=>q (hk.trans w)),Qi (fun e=>q (by rw[e])),Qi (fun e=>q (by rw[hk,e])),Nat.or_zero,Nat.or_zero];refine Ja fun m=> ?_;rw[Wu,Zy];exact hz m
theorem KyG.rem{k:Nat}{z:List Rw}{args:List Vl}{s:Sp}(h:KyG k z)(hc:CanL z)(hs:s.good):KyG k (dP z args s):=by
 intro t t' hne hk;have ht:=(bK (args:=args) hc hs).2.1;rw[ht t,ht t'];have hz:=zn9 (h t t' hne hk);refine Ja fun m=> ?_;unfold mY;rw[Wu,Wu,Wu,Zy];have:=hz m;cases hx:(yH z t).testBit m<;>cases hy:(yH z t').testBit m<;>simp_all
theorem RelX.of{ty:List Int}{z r:List Rw}{args:List Vl}(h:RelX ty z)(ha:ArgX ty args)(hc:CanL r)(hr: ∀x∈r,x.args=args\/ ∃y∈z,x.args=y.args):RelX ty r:=by
 refine⟨hc,fun x hx=> ?_⟩;rcases hr x hx with e|⟨y,hy,e⟩
 ·rw[e];exact ha
 ·rw[e];exact h.2 y hy
theorem SpF.len: ∀{l:List Sp}{lo:Int},0<=lo->SpF lo l->l.length<=64/\(lo<=65->(l.length:Int)<=65-lo)
 | [],lo,h0,_=>⟨Qf4,fun h=>by simp;omega⟩
 |s::l,lo,h0,h=>by
  obtain⟨h1,h2,h3,h4⟩:=h;have ih:=(SpF.len Qf3 h4).2 Qf3;rw[Qn];exact⟨Qf3,fun _=>by omega⟩
theorem Rw.can.len{x:Rw}(h:x.can):x.w.length<=64:=(SpF.len (Ug 0) h.1).1
theorem RelX.ls{ty:List Int}{z:List Rw}(h:RelX ty z)(ht:ty.length<=1048576): ∀x∈z,x.args.length=ty.length/\x.ls:=fun x hx=>by
 have ha:=h.2 x hx;exact⟨ha.1,by rw[ha.1];exact ht,fun v hv=>by have:=ha.sz v hv;omega,(h.1.2 x hx).len⟩
theorem zpJ(bt:Int)(T:Tbl)(args:List Vl):(uZ bt T args).length<=T.length+1:=by
 unfold uZ;split
 ·omega
 ·simp
theorem zpT(T:Tbl)(k:BA)(f:List Int->List Int):(oT T k f).length=T.length:=by unfold oT;simp
theorem zpW(bt:Int)(T:Tbl):(uY bt T).length<=T.length:=by
 rw[(zbK bt T).1.length_eq];exact rP _ _
theorem CelX.set_len{l:La}{ty:List Int}{rs:List LRw}(h:CelX l ty rs)(args:List Vl)(a b e:Int):(uY (oU l) (za9 l (xU l rs) args a b e)).length<=rs.length+1:=by
 have h1:=zpW (oU l) (za9 l (xU l rs) args a b e);have hk:=kR (bt:=oU l) (ziO l rs);rw[<-h.2.2] at hk;have h2:(xU l rs).length=rs.length:=by rw[kT hk];simp
 unfold za9 at h1 ⊢
 rw[zpT] at h1;have h3:=zpJ (oU l) (xU l rs) args;omega
theorem CelX.oks{l:La}{ty:List Int}{rs:List LRw}(h:CelX l ty rs)(ht:ty.length<=1048576): ∀x∈rs,x.ok:=fun x hx=>by
 have ha:=h.2.1 x hx;refine⟨by rw[ha.1];exact ht,?_,ha.sz⟩;rw[h.2.2] at hx;obtain⟨y, -, -,e, -⟩:=zbT.1 hx;have:=zb5 (oU l) y.2 64;rw[e];omega
end Go.AL
namespace Go.AL
open Go.Proofs Go.Proofs.Tryz
@[go_sem] def UBas4f176.pp:Nat->DPlan
 |2=>⟨[yA,yA,yA,yB,yA,yA,yB,yA,yB,yA,yA,yA,yB,yA,yB,yA,yA,yA,yB,yA,yA,yB,yA,yA,yB,yA,yB,yA,uX,yA,yC],yd1,0⟩
 |_=>⟨[],[],0⟩
structure DtS(p:Pg)(N:Nat)(d:Dt):Prop where
 rl:d.pg.length=p.pk.length
 ll:d.pQ.length=p.pk.length
 r: ∀(i:Nat)(h:i<p.pk.length)(h':i<d.pg.length),d.pg[i].length<=N/\ ∀x∈d.pg[i],x.args.length=p.pk[i].types.length/\x.ls
 l: ∀(i:Nat)(h':i<d.pQ.length),d.pQ[i].length<=N/\ ∀x∈d.pQ[i],x.ok
structure DataAt(d:Dt)(q rq lq:Nat)(h:Heap):Prop where
 t:h[q]? =some (.var 31 [.ms rq 0 1 d.pg.length,.ms lq 0 1 d.pQ.length])
 r:h[rq]? =some (.var 95 (d.pg.map uN))
 l:h[lq]? =some (.var 124 (d.pQ.map vD))
theorem DataAt.app{d:Dt}{q rq lq:Nat}{h:Heap}(hD:DataAt d q rq lq h)(B:Heap):DataAt d q rq lq (h++B):=⟨yJ _ _ _ _ hD.t,yJ _ _ _ _ hD.r,yJ _ _ _ _ hD.l⟩
structure Act(p:Pg)(N:Nat)(q rq lq:Nat)(h h':Heap):Prop where
 d: ∃d':Dt,DtS p N d'/\DataAt d' q rq lq h'
 k: ∀(r:Nat)(b:Blk),r≠rq->r≠lq->h[r]? =some b->h'[r]? =some b
theorem DataAt.ne{d:Dt}{q rq lq:Nat}{h:Heap}(hD:DataAt d q rq lq h):q≠rq/\q≠lq/\rq≠lq:=by
 refine⟨?_,?_,?_⟩
 ·rintro rfl;have:=hD.t;rw[hD.r] at this;cases this
 ·rintro rfl;have:=hD.t;rw[hD.l] at this;cases this
 ·rintro rfl;have:=hD.r;rw[hD.l] at this;cases this
end Go.AL
namespace Go.AL
abbrev zuW:Pd:=⟨⟨#[]⟩,[],⟨#[]⟩, -1,false,0,0⟩
abbrev zuV:La:=⟨⟨#[]⟩,[],[],0⟩
noncomputable def zcQ(l:La)(z:List LRw)(o:Op1):List LRw:=uY (oU l) (za9 l (xU l z) o.args o.span.a o.span.b (if o.kind=1 then o.elem else oU l))
def zaL(q:Pd)(z:List Rw)(o:Op1):List Rw:=if o.kind=1 then bA q.key.toNat z o.args o.span else dP z o.args o.span
noncomputable def zl0(p:Pg)(d:Dt)(o:Op1):Dt:=
 if (p.pk.getD o.pred.toNat zuW).of'= -1 then⟨d.pg.set o.pred.toNat (zaL (p.pk.getD o.pred.toNat zuW) (d.pg.getD o.pred.toNat []) o),d.pQ⟩
 else⟨d.pg,d.pQ.set o.pred.toNat (zcQ (p.pQ.getD (p.pk.getD o.pred.toNat zuW).of'.toNat zuV) (d.pQ.getD o.pred.toNat []) o)⟩
theorem eD{α:Type}{l:List α}{i:Nat}(h:i<l.length)(x:α):l.getD i x=l[i]:=by
 rw[Qb,Qa h];rfl
theorem zo7{p:Pg}{d:Dt}{o:Op1}{i:Nat}(hoi:o.pred=i)(hi:i<p.pk.length)(hr:i<d.pg.length)(hof:p.pk[i].of'= -1):zl0 p d o=⟨d.pg.set i (zaL p.pk[i] d.pg[i] o),d.pQ⟩:=by
 unfold zl0;have:o.pred.toNat=i:=Qf3;rw[this,eD hi,eD hr,Qj hof]
theorem zo8{p:Pg}{d:Dt}{o:Op1}{i:Nat}(hoi:o.pred=i)(hi:i<p.pk.length)(hl:i<d.pQ.length)(hof:p.pk[i].of'≠ -1)(hol:p.pk[i].of'.toNat<p.pQ.length):zl0 p d o=⟨d.pg,d.pQ.set i (zcQ p.pQ[p.pk[i].of'.toNat] d.pQ[i] o)⟩:=by
 unfold zl0;have:o.pred.toNat=i:=Qf3;rw[this,eD hi,eD hl,Qi hof,eD hol]
structure OpX(p:Pg)(o:Op1)(i:Nat):Prop where
 hi:i<p.pk.length
 hoi:o.pred=i
 hof: -1<=p.pk[i].of'/\p.pk[i].of'<p.pQ.length
 htl:p.pk[i].types.length<=1048576
 k0:0<=p.pk[i].key
 k1:p.pk[i].key<=p.pk[i].types.length
 ax:ArgX p.pk[i].types o.args
 el: ∀k:p.pk[i].of'.toNat<p.pQ.length,0<=p.pk[i].of'->ze7 p.pQ[p.pk[i].of'.toNat] o.elem=true
 b:p.pk[i].base=true
 s:o.span.good
 k:o.kind=1\/o.kind=2
theorem OpX.ls{p:Pg}{o:Op1}{i:Nat}(k:OpX p o i):(Rw.mk o.args [o.span]).ls:=⟨by dsimp only;rw[k.ax.1];exact k.htl,fun a ha=>by have:=k.ax.sz a ha;omega,Qf4⟩
structure LenD(N:Nat)(d:Dt):Prop where
 r: ∀z∈d.pg,z.length<=N
 l: ∀z∈d.pQ,z.length<=N
theorem zrM{p:Pg}{N:Nat}{d:Dt}(h:DatX p d)(k:LenD N d)(hf: ∀x∈p.pk,x.types.length<=1048576/\x.of'<p.pQ.length/\ -1<=x.of'):DtS p N d:=by
 have at1:=h.at';refine⟨h.rl,h.ll,fun i hi hr=>⟨k.r _ (Qc hr),?_⟩,fun i hl=>⟨k.l _ (Qc hl),?_⟩⟩
 ·have hl:i<d.pQ.length:=by rw[h.ll];exact hi
  obtain⟨h1,h2,h3⟩:=at1 i hi hr hl;have hfi:=hf _ (Qc hi);generalize p.pk[i]=x at*;generalize d.pg[i]=y at*;generalize d.pQ[i]=z at*;cases hb:x.base with
  |false=>rw[(h1 hb).1];simp
  |true=>
   by_cases ho:x.of'= -1
   ·exact(h3 hb ho).2.1.ls hfi.1
   ·rw[(h2 hb ho).1];simp
 ·have hi:i<p.pk.length:=by rw[<-h.ll];exact hl
  have hr:i<d.pg.length:=by rw[h.rl];exact hi
  obtain⟨h1,h2,h3⟩:=at1 i hi hr hl;have hfi:=hf _ (Qc hi);generalize p.pk[i]=x at*;generalize d.pg[i]=y at*;generalize d.pQ[i]=z at*;cases hb:x.base with
  |false=>rw[(h1 hb).2];simp
  |true=>
   by_cases ho:x.of'= -1
   ·rw[(h3 hb ho).1];simp
   ·exact((h2 hb ho).2 Qf3).oks hfi.1
theorem LenD.op{p:Pg}{N:Nat}{d:Dt}{o:Op1}{i:Nat}(k:LenD N d)(h:DatX p d)(ho:OpX p o i):LenD (N+1) (zl0 p d o):=by
 have hi:=ho.hi;have hir:i<d.pg.length:=by rw[h.rl];exact ho.hi
 have hil:i<d.pQ.length:=by rw[h.ll];exact ho.hi
 have hN:N<=N+1:=Qf3;have k1:=k.r _ (Qc hir);have k2:=k.l _ (Qc hil);by_cases hof:p.pk[i].of'= -1
 ·rw[zo7 ho.hoi ho.hi hir hof];refine⟨fun z hz=> ?_,fun z hz=>Ya (k.l z hz) hN⟩;rcases Ze hz with hz|rfl
  ·exact Ya (k.r z hz) hN
  ·unfold zaL;split
   ·have:=zpB p.pk[i].key.toNat d.pg[i] o.args o.span;omega
   ·have:=zn0 d.pg[i] o.args o.span;omega
 ·have hol:p.pk[i].of'.toNat<p.pQ.length:=Qgm;rw[zo8 ho.hoi ho.hi hil hof hol];refine⟨fun z hz=>Ya (k.r z hz) hN,fun z hz=> ?_⟩;rcases Ze hz with hz|rfl
  ·exact Ya (k.l z hz) hN
  ·have hc:=((h.at' i ho.hi hir hil).2.1 ho.b hof).2 hol;have:=hc.set_len o.args o.span.a o.span.b (if o.kind=1 then o.elem else oU p.pQ[p.pk[i].of'.toNat]);unfold zcQ;omega
theorem DatX.op{p:Pg}(hp:p.ok){d:Dt}{o:Op1}{i:Nat}(h:DatX p d)(ho:OpX p o i):DatX p (zl0 p d o):=by
 have hi:=ho.hi;have hir:i<d.pg.length:=by rw[h.rl];exact ho.hi
 have hil:i<d.pQ.length:=by rw[h.ll];exact ho.hi
 obtain⟨h1,h2,h3⟩:=h.at' i ho.hi hir hil;by_cases hof:p.pk[i].of'= -1
 ·obtain⟨q1,q2,q3⟩:=h3 ho.b hof;rw[zo7 ho.hoi ho.hi hir hof];refine⟨h.tv,by simpa using h.rl,h.ll,fun j hj hr hl=> ?_⟩;have hjr:j<d.pg.length:=by simpa using hr
  by_cases hji:i=j
  ·subst hji;dsimp only;rw[Km];refine⟨fun e=>Bool.noConfusion (ho.b.symm.trans e),fun _ e=>absurd hof e,fun _ _=>⟨q1,?_⟩⟩;have hky:=(zjB q2.1).1 q3;unfold zaL;split
   ·obtain⟨c1,c2,c3⟩:=zdF (k:=p.pk[i].key.toNat) (args:=o.args) q2.1 ho.s;exact⟨q2.of ho.ax c1 c3,(zjB c1).2 (hky.tell q2.1 ho.s)⟩
   ·obtain⟨c1,c2,c3⟩:=bK (args:=o.args) q2.1 ho.s;exact⟨q2.of ho.ax c1 c3,(zjB c1).2 (hky.rem q2.1 ho.s)⟩
  ·dsimp only;rw[Uq hji];exact h.at' j hj hjr hl
 ·have hol:p.pk[i].of'.toNat<p.pQ.length:=Qgm;obtain⟨q1,q2⟩:=h2 ho.b hof;rw[zo8 ho.hoi ho.hi hil hof hol];refine⟨h.tv,h.rl,by simpa using h.ll,fun j hj hr hl=> ?_⟩;have hjl:j<d.pQ.length:=Qfx;by_cases hji:i=j
  ·subst hji;dsimp only;rw[Km];refine⟨fun e=>Bool.noConfusion (ho.b.symm.trans e),fun _ _=>⟨q1,fun k=> ?_⟩,fun _ e=>absurd e hof⟩;have hc:=q2 k;unfold zcQ;refine hc.set ho.ax _ _ ?_;split
   ·exact zp4 (hp.l _ (Qc k)) hc.1 (ho.el k Qgm)
   ·exact zpN _
  ·dsimp only;rw[Uq hji];exact h.at' j hj hr hjl
end Go.AL
namespace Go.AL
open Go.Proofs Go.Proofs.Tryz
@[go_sem] def UVfxf125.pp:Nat->DPlan
 |9=>⟨[yB,yC,yA,yA,yA,yB,yA,yB,yA,yA,yB,yA,yA],yN,0⟩
 |15=>⟨[yA,yB,yA,yA,yA,yB,yA,yB,yA,yA,yA,yA,yA,yB,yB,uX,yA,yA,yA],sI,0⟩
 |_=>⟨[],[],0⟩
@[go_sem] def UVfxf125.pl:Nat->DPlan
 |9=>⟨[yB,yC,yA,yA,yA,yB,yA,yB,yA,yA,yB,yA,yA],yN,0⟩
 |15=>⟨[yA,yB,yA,yA,yA,yB,yA,yB,yA,yA,yA,yA,yA,⟨7,0,[1003]⟩,yB,⟨6,0,[1003]⟩,yA,yA,yA],sI,0⟩
 |_=>⟨[],[],0⟩
@[go_sem] def UChxf60.pl:Nat->DPlan
 |1=>⟨[⟨6,0,[1003]⟩,yA,⟨7,0,[1003]⟩,yB,yA,yA,yB,yA,yB,yC,yA,yA,yA],yN,0⟩
 |_=>⟨[],[],0⟩
attribute [-go_sem] only
theorem znP{p:Pg}(hp:p.ok)(hle:p.sm)(h:zpQ p=true):p.pk.length<=1048576/\ ∀x∈p.pk,x.types.length<=1048576/\x.of'<p.pQ.length/\ -1<=x.of':=by
 obtain⟨hf,hpb, -⟩:=(ze0 p hp hle).2 h;exact⟨by have:=hf.pl;omega,fun x hx=>⟨by obtain⟨f1,f2,f3⟩:=hf.p _ hx;omega,(hpb x hx).2,(hpb x hx).1⟩⟩
end Go.AL
namespace Go.AL
def yZ(l:La)(a b e:Int)(ms:List Int):List Int:=if ze7 l e=true then tB (fun _=>e) ms a b else ms
theorem zbJ(l:La)(T:Tbl)(args:List Vl)(a b e:Int):za9 l T args a b e=oT (uZ (oU l) T args) (zk0 args) (yZ l a b e):=rfl
theorem znD{l:La}{ms:List Int}(h:zh2 l ms)(he:zh6 (oU l) ms 64=[]):ms=List.replicate 64 (oU l):=by
 rw[<-zmI h,he];rfl
end Go.AL
namespace Go.AL
open Go.Proofs Go.Proofs.Tryz
structure Dt.raw(d:Dt):Prop where
 rl:d.pg.length<=140737488355328
 ll:d.pQ.length<=140737488355328
 r: ∀r∈d.pg,r.length<=140737488355328/\ ∀x∈r,x.args.length<=140737488355328/\(∀a∈x.args,a.s.size<=140737488355328)/\x.w.length<=140737488355328
 l: ∀r∈d.pQ,r.length<=140737488355328/\ ∀x∈r,x.args.length<=140737488355328/\(∀a∈x.args,a.s.size<=140737488355328)/\x.cs.length<=140737488355328
def gG(x:Rw):Prop:=x.args.length<=6/\x.w.length<=20
def tC(x:LRw):Prop:=x.args.length<=8/\x.cs.length<=8
structure Dt.few(d:Dt):Prop where
 rl:d.pg.length<=40
 ll:d.pQ.length<=40
 r: ∀r∈d.pg,r.length<=40/\ ∀x∈r,gG x
 l: ∀r∈d.pQ,r.length<=8/\ ∀x∈r,tC x
theorem zg2{α:Type}{l:List α}{P:α->Prop}{i:Nat}(hi:i<l.length)(h: ∀(j:Nat)(h:j<l.length),j<i->P l[j])(q:P l[i]): ∀(j:Nat)(h:j<l.length),j<i+1->P l[j]:=fun j k hj=>by
 rcases Xy j i with hji|hji
 ·exact h j k hji
 ·exact Qbo
theorem za5{α:Type}{l:List α}{P:α->Prop}(h: ∀(j:Nat)(h:j<l.length),j<l.length->P l[j]): ∀x∈l,P x:=fun x hx=>by
 obtain⟨j,hj,rfl⟩:=Qy hx;exact h j hj hj
@[go_sem] def UForkf42.pl:Nat->DPlan
 |9=>⟨[yA,yB,yA,yA,yA,yA,yA,yB,yA,yA,yA,yB,yA,yA,yC,yA,yC],wR,0⟩
 |_=>⟨[],[],0⟩
theorem zlG{n:Nat}{h:Heap}(f:Nat)(cs:List PV):fz n h (f+1) (.tup cs)= .tup (cs.map (fz n h f)):=by simp only[fz]
theorem fzA{n:Nat}{h:Heap}(f:Nat)(cs:List PV):fz n h (f+1) (.agg cs)= .agg (cs.map (fz n h f)):=by simp only[fz]
theorem fzN{n:Nat}{h:Heap}(f:Nat):fz n h (f+1) .nil= .nil:=by simp only[fz]
theorem eJ(f:Nat)(l:List Vl):zU (f+2) (pH l)=true:=by simp[zU,Jf]
def zq4(p:Pg):Dt:=⟨List.replicate p.pk.length [],List.replicate p.pk.length []⟩
theorem zv2(n:Nat)(p:PV):(List.replicate n [p]).flatten=List.replicate n p:=by
 induction n with
 |zero=>rfl
 |succ n ih=>simp[Ww,ih]
@[go_sem] def UBra2f48.pl:Nat->DPlan
 |1=>⟨[yA,⟨1,0,[0,1]⟩,yA,vC,yA,⟨1,0,[0,1]⟩,yA,⟨2,1,[]⟩,yA,yC],[0,1,2,4,5,6,3,7,8,9],2⟩
 |_=>⟨[],[],0⟩
theorem fzM{h:Heap}(f r off k len:Nat){t:TypeId}{cs:List PV}(e:h[r]? =some (.var t cs)):fz 0 h (f+1) (.ms r off k len)= .ts k (wA (cs.map (fz 0 h f)) off k len):=by
 simp only[fz,Xt,Wr,e]
theorem eH(f:Nat)(d:Dt):zU (f+6) (.agg d.c)=true:=by
 have h1: ∀r:List Rw,zU (f+4) (uN r)=true:=rE f;have h2: ∀r:List LRw,zU (f+4) (vD r)=true:=fun r=>by
  exact Qbu
 simp only[zU,Dt.c,Wm,Jb,Zx,Jf];simp only[zU] at h1 h2;simp[h1,h2,Function.comp_def]
structure Rp.sz(r:Rp):Prop where
 cl:r.cs.length<=1048576
 c: ∀x∈r.cs,OpsG x.ops
 bl:r.bs.length<=1048576
 b: ∀x∈r.bs,x.ok
@[go_sem] def USamef54.pl:Nat->DPlan
 |6=>⟨[yA,yA,yA,yB,yA,yA,yA,yB,yA],uW,0⟩
 |_=>⟨[],[],0⟩
@[go_sem] def USamef55.pl:Nat->DPlan
 |6=>⟨[yA,yA,yA,yA,yB,yA,yA,yA,yA,yB,yC,yA,yA,yA,yA,yA,yA,yB,yA,yA,yA,yA,yB,yC,yA,yA],iot26,0⟩
 |_=>⟨[],[],0⟩
@[go_sem] def USamef56.pl:Nat->DPlan
 |6=>⟨[yA,yA,yA,yA,yB,yA,yA,yA,yA,yB,yC,yA,yA,yA,yA,yA,yA,yB,yA,yA,yA,yA,yA,yB,yA,yA,yA],yaS,0⟩
 |11=>⟨[yA,yA,yA,yA,yB,yA,yA,yB,yA,yA,yA,yA,yB,yA,yA,yB,yA],wR,0⟩
 |_=>⟨[],[],0⟩
@[go_sem] def USamef116.pl:Nat->DPlan
 |4=>⟨[yA,yA,yA,yB,yA,yA,yA,yB,yC,yA],xS,0⟩
 |_=>⟨[],[],0⟩
@[go_sem] def USamef244.pl:Nat->DPlan
 |4=>⟨[yA,yA,yA,yA,yA,yA,yA],tV,0⟩
 |5=>⟨[yA,yA,yA,yA,yA,yA,yA,yA,yC,yA],xS,0⟩
 |_=>⟨[],[],0⟩
theorem zuS(a:Int):EPure prog G0 171 [i64 a,i64 a] fun p=>p=i64 0:=by
 refine ECall.pure (pv func171 11 false Qf6 rfl rfl ?_);refine g2 ?_;have h1:decide (a<a)=false:=Qf4;refine gf @h1 ?_;exact Qab
open USamef244 in
theorem zwV(s:BA)(hs:s.size<=140737488355328):EPure prog G0 244 [yQ s,yQ s] fun p=>p=i64 0:=by
 refine ECall.pure (pv func244 39 false Qf6 rfl rfl ?_);refine g2 ?_;refine ge ?_;refine zO s.size (K4 (.d:: .v::D9 (D9 (D9 (.d::K4 (.k::[])))))) (own:=false) (fun i (_:Unit)=>[i64 i]) (fun _=>_) (fun _ _=>True) () rfl rfl trivial hs ?_ ?_
 ·rintro _ _;refine gm ?_;refine gf @zM ?_;(refine g1 ?_;refine zC ((zuS s.size).call zK Qf4 _) ?_;intro p2 h2 hr2;refine g2 ?_);exact Qes
 ·rintro i _ hi hw _;refine gm ?_;have hi2:decide ((i:Int)<(s.size:Int))=true:=Qfk;have hi3:((i:Int)<(s.size:Int))=True:=Yk Qf3;refine zjA (a5 @hi @hw @hi2 @hi3 @zB) ?_;exact Qbb
theorem zyP(v:Vl)(hs:v.s.size<=140737488355328):EPure prog G0 170 [.agg v.c,.agg v.c] fun p=>p=i64 0:=by
 refine ECall.cut (R:=fun p _=>p=i64 0) (pv func170 30 false Qf6 rfl rfl ?_) Qgl;refine g2 ?_;refine zjA trivial ?_;(refine g1 ?_;refine zC ((zwV v.s hs).call zK Qf4 _) ?_;intro p2 h2 hr2;refine g2 ?_);exact Qan
open USamef116 in
theorem zuT(l:List Vl)(hl:l.length<=140737488355328)(hs: ∀v∈l,v.s.size<=140737488355328):EPure prog G0 116 [pH l,pH l] fun p=>p=i64 0:=by
 refine ECall.pure (pv func116 36 false Qf6 rfl rfl ?_);refine g2 ?_;refine ge ?_;refine zO l.length (K4 (.d:: .v::D9 (D9 (D4 (.d:: .d:: .d::K4 (.k::[])))))) (own:=false) (fun i (_:Unit)=>[i64 i]) (fun _=>_) (fun _ _=>True) () rfl rfl trivial hl ?_ ?_
 ·rintro _ _;refine gm ?_;refine gf @zM ?_;(refine g1 ?_;refine zC ((zuS l.length).call zK Qf4 _) ?_;intro p2 h2 hr2;refine g2 ?_);exact Qes
 ·rintro i _ hi hw _;refine gm ?_;have hx:=zG (f:=Vl.c) [] hi;have F:=(a4 @hi @hx @hw @zB)
  have hsx:=hs _ (Qc hi);generalize l[i]=x at*;refine gf F ?_;(refine zF rfl rfl rfl ?_;intro zs zh;simp only[go_sem,F] at zh;subst zh;refine zP Qf5 Qf5 ((zyP x hsx).call zK Qfe _) ?_;intro p2 h2 hr2;refine Go.AL.g2 ?_);obtain⟨rfl,rfl⟩:=hr2;have h0:((0:Int)!=0)=false:=rfl;refine gf (a2 F @h0) ?_;exact Qbb
theorem zyB(l:List Vl)(hl:l.length<=140737488355328)(hs: ∀v∈l,v.s.size<=140737488355328):EPure prog G0 53 [pH l,pH l] fun p=>p=bo true:=by
 refine ECall.pure (pv func53 9 false Qf6 rfl rfl ?_);refine g2 ?_;refine ge ?_;(refine g1 ?_;refine zC ((zuT l hl hs).call zK Qf4 _) ?_;intro p2 h2 hr2;refine g2 ?_);obtain⟨rfl,rfl⟩:=hr2;have h0:((0:Int)==0)=true:=rfl;refine gf @h0 ?_;exact Qab
theorem eqSp2(a b c d:Int):za2 (α:=Prop) prog 54 (.agg [i64 a,i64 b]) (.agg [i64 c,i64 d])=some (a==c&&(b==d&&true),True):=Qf6
open USamef54 in
theorem zyC(l:List Sp)(hl:l.length<=140737488355328):EPure prog G0 54 [kJ l,kJ l] fun p=>p=bo true:=by
 refine ECall.pure (pv func54 26 false Qf6 rfl rfl ?_);refine g2 ?_;have h0:((l.length:Int)!=(l.length:Int))=false:=Qf4;refine gf @h0 ?_;refine zO l.length (K4 (.d:: .v::K4 (.k::D9 (D4 (.d:: .d::[]))))) (own:=false) (fun i (_:Unit)=>[i64 i]) (fun _=>_) (fun _ _=>True) () rfl rfl trivial hl ?_ ?_
 ·exact Qer
 ·rintro i _ hi hw _;refine gm ?_;have hx:=zG (f:=Sp.c) [] hi;generalize l[i]=x at*;refine gf (a5 @hi @hx @hw @zB @eqSp2) ?_;exact Qbb
def Rw.cm(x:Rw):Prop:=x.args.length<=140737488355328/\(∀v∈x.args,v.s.size<=140737488355328)/\x.w.length<=140737488355328
def LRw.cm(x:LRw):Prop:=x.args.length<=140737488355328/\(∀v∈x.args,v.s.size<=140737488355328)/\x.cs.length<=140737488355328
open USamef55 in
theorem zwX(l:List Rw)(hl:l.length<=140737488355328)(hs: ∀x∈l,x.cm):EPure prog G0 55 [uN l,uN l] fun p=>p=bo true:=by
 refine ECall.pure (pv func55 43 false Qf6 rfl rfl ?_);refine g2 ?_;have h0:((l.length:Int)!=(l.length:Int))=false:=Qf4;refine gf @h0 ?_;refine zO l.length (K4 (.d:: .v::K4 (.k::D9 (D9 (D9 (D4 (.d::[]))))))) (own:=false) (fun i (_:Unit)=>[i64 i]) (fun _=>_) (fun _ _=>True) () rfl rfl trivial hl ?_ ?_
 ·exact Qer
 ·rintro i _ hi hw _;refine gm ?_;have hx:=zG (f:=Rw.c) [] hi;have F:=(a4 @hi @hx @hw @zB)
  obtain⟨h1,h2,h3⟩:=hs _ (Qc hi);generalize l[i]=x at*;have h4:((0:Int)!=0)=false:=rfl;refine gf F ?_;(refine zF rfl rfl rfl ?_;intro zs zh;simp only[go_sem,F] at zh;subst zh;refine zP Qf5 Qf5 ((zuT x.args h1 h2).call zK Qf4 _) ?_;intro p2 h2 hr2;refine Go.AL.g2 ?_);obtain⟨rfl,rfl⟩:=hr2;refine gf (a2 F @h4) ?_;(refine vY ?_;refine zN rfl rfl rfl ?_;intro sr hsr;simp only[sK,wP] at hsr;subst hsr;(first|refine pK ?_|refine pL ?_);intro sr hsr;simp only[go_sem,F,h4] at hsr;subst hsr;refine zP Qf5 Qf5 ((zyC x.w h3).call zK Qf4 _) ?_;intro p2 h2 hr2;refine Go.AL.g2 ?_);obtain⟨rfl,rfl⟩:=hr2;refine gf (a2 F @h4) ?_;exact Qbb
open USamef56 in
theorem zwW(l:List LRw)(hl:l.length<=140737488355328)(hs: ∀x∈l,x.cm):EPure prog G0 56 [vD l,vD l] fun p=>p=bo true:=by
 refine ECall.pure (pv func56 72 false Qf6 rfl rfl ?_);refine g2 ?_;have h0:((l.length:Int)!=(l.length:Int))=false:=Qf4;refine gf @h0 ?_;refine zO l.length (K4 (.d:: .v:: .d::K4 (.k::D9 (D9 (D9 (D9 (D9 (D9 (D4 (.d:: .d::[])))))))))) (own:=false) (fun i (_:Unit)=>[i64 i]) (fun _=>_) (fun _ _=>True) () rfl rfl trivial hl ?_ ?_
 ·exact Qer
 ·rintro i _ hi hw _;refine gm ?_;have hx:=zG (f:=LRw.c) [] hi;have F:=(a4 @hi @hx @hw @zB)
  obtain⟨h1,h2,h3⟩:=hs _ (Qc hi);generalize l[i]=x at*;have h4:((x.cs.length:Int)!=(x.cs.length:Int))=false:=Qf4;refine gf F ?_;(refine zF rfl rfl rfl ?_;intro zs zh;simp only[go_sem,F] at zh;subst zh;refine zP Qf5 Qf5 ((zyB x.args h1 h2).call zK Qf4 _) ?_;intro p2 h2 hr2;refine Go.AL.g2 ?_);obtain⟨rfl,rfl⟩:=hr2;refine gf (a2 F @h4) ?_;refine zO x.cs.length (K4 (.d:: .k:: .v::K9 (K9 (K9 (K9 (.k:: .k::D9 (D9 (D9 ([]))))))))) (own:=false) (fun i (_:Unit)=>[i64 i]) (fun _=>_) (fun _ _=>True) () rfl rfl trivial h3 ?_ ?_
  ·rintro _ _;refine gm ?_;refine gf (a2 F @zM) ?_;exact Qbb
  ·rintro k _ hk zg1 _;refine gm ?_;have hy:=zG (f:=Ce.c) [] hk;generalize x.cs[k]=y at*;refine gf (a5 F @hk @hy @zg1 @zs8) ?_;exact Qbb
def Dt.cm(d:Dt):Prop:=d.pg.length<=140737488355328/\d.pQ.length<=140737488355328/\(∀r∈d.pg,r.length<=140737488355328/\ ∀x∈r,x.cm)/\ ∀r∈d.pQ,r.length<=140737488355328/\ ∀x∈r,x.cm
theorem ye2{d:Dt}(h:d.sz):d.cm:=
 ⟨by have:=h.rl;omega,by have:=h.ll;omega,fun r hr=>⟨by have:=(h.r r hr).1;omega,fun x hx=>by
  have k:=(h.r r hr).2 x hx;exact⟨by have:=k.al;omega,k.a,by have:=k.w;omega⟩⟩,fun r hr=>⟨by have:=(h.l r hr).1;omega,fun x hx=>by
  have k:=(h.l r hr).2 x hx;exact⟨Qf3,h.s r hr x hx,Qf3⟩⟩⟩
@[go_sem] def UMy1f14.pl:Nat->DPlan
 |6=>⟨[yA,yB,yA,yA,yB,yA,yB,yA,yA,yB,yC,yA],xF,0⟩
 |12=>⟨[yA,yB,yA,yA,yB,yA,yB,yA,yA,yB,yC,yA],xF,0⟩
 |_=>⟨[],[],0⟩
def zx1(x:Rw):Prop:=x.args.length<=8/\x.w.length<=8
structure Dt.few14(d:Dt):Prop where
 rl:d.pg.length<=26
 ll:d.pQ.length<=26
 r: ∀r∈d.pg,r.length<=12/\ ∀x∈r,zx1 x
 l: ∀r∈d.pQ,r.length<=12/\ ∀x∈r,tC x
open UMy1f14 in
theorem zyO(d:Dt)(hd:d.cm):EPure prog G0 14 [.agg d.c,.agg d.c] fun p=>p=bo true:=by
 obtain⟨d1,d2,d3,d4⟩:=hd;refine ECall.cut (R:=fun p _=>p=bo true) (pv func14 65 false Qf6 rfl rfl ?_) Qgl;refine g2 ?_;have h0:((d.pg.length:Int)!=(d.pg.length:Int))=false:=Qf4;have h1:((d.pQ.length:Int)!=(d.pQ.length:Int))=false:=Qf4;refine gf (a2 @h0 @h1) ?_;refine zO d.pg.length (K4 (.d:: .v:: .d::K9 (K9 (D9 (D9 (.d:: .d::K9 (K9 (.k:: .k::[])))))))) (own:=false) (fun i (_:Unit)=>[i64 i]) (fun _=>_) (fun _ _=>True) () rfl rfl trivial d1 ?_ ?_
 ·rintro _ _;refine gm ?_;refine gf @zM ?_;refine zO d.pQ.length (K4 (.d:: .k:: .k:: .v:: .d::K9 (K9 (K9 (K9 (D9 (D9 (.d:: .d::[])))))))) (own:=false) (fun i (_:Unit)=>[i64 i]) (fun _=>_) (fun _ _=>True) () rfl rfl trivial d2 ?_ ?_
  ·rintro _ _;refine gm ?_;exact Qda
  ·rintro i _ hi hw _;refine gm ?_;have hx:=zG (f:=fun r:List LRw=>[vD r]) [] hi;have F1:=(a4 @hi @hx @hw @zB)
   obtain⟨k1,k2⟩:=d4 _ (Qc hi);generalize d.pQ[i]=x at*;refine gf F1 ?_;(refine zF rfl rfl rfl ?_;intro zs zh;simp only[go_sem,F1] at zh;subst zh;refine zP Qf5 Qf5 ((zwW x k1 k2).call zK Qf4 _) ?_;intro p2 h2 hr2;refine Go.AL.g2 ?_);obtain⟨rfl,rfl⟩:=hr2;refine gf F1 ?_;exact Qbb
 ·rintro i _ hi hw _;refine gm ?_;have hx:=zG (f:=fun r:List Rw=>[uN r]) [] hi;have F:=(a4 @hi @hx @hw @zB)
  obtain⟨k1,k2⟩:=d3 _ (Qc hi);generalize d.pg[i]=x at*;refine gf F ?_;(refine zF rfl rfl rfl ?_;intro zs zh;simp only[go_sem,F] at zh;subst zh;refine zP Qf5 Qf5 ((zwX x k1 k2).call zK Qf4 _) ?_;intro p2 h2 hr2;refine Go.AL.g2 ?_);obtain⟨rfl,rfl⟩:=hr2;refine gf F ?_;exact Qbb
theorem zpY(d:Dt)(hd:d.raw):EB 47 [.agg d.c] fun b=>b=true->d.few14:=by
 refine ECall.cut (R:=fun v _=> ∃b:Bool,v=bo b/\(b=true->d.few14)) (pv func47 113 false Qf6 rfl rfl ?_) Qhf;refine g2 ?_;obtain⟨hr1,hr2',hr3,hr4⟩:=hd;(repeat' (first|refine gp ?_|refine gs (fun he=> ?_) (fun he=> ?_)|fail));all_goals try exact⟨_,rfl,Qf4⟩
 refine zO d.pg.length (.k:: .k:: .d:: .v:: .d::K9 (.k:: .k:: .k::D9 (D9 (D9 (D9 (D9 (.d:: .d:: .d::K9 (K9 (K9 (K9 (K9 (.k:: .k:: .k::[])))))))))))) (own:=false) (fun i (_:Unit)=>[i64 i]) (fun _=>_) (fun i _=> ∀(j:Nat)(h:j<d.pg.length),j<i->d.pg[j].length<=12/\ ∀x∈d.pg[j],zx1 x) () rfl rfl (fun j _ hj=>absurd hj (Xt _)) Qf3 ?_ ?_
 ·rintro _ hI1;refine gm ?_;refine gf @zM ?_;refine zO d.pQ.length (.k:: .k:: .d:: .k:: .k:: .v:: .d::K9 (K9 (K9 (K9 (K9 (K9 (K4 (D9 (D9 (D9 (D9 (D9 (.d:: .d:: .d::[]))))))))))))) (own:=false) (fun i (_:Unit)=>[i64 i]) (fun _=>_) (fun i _=> ∀(j:Nat)(h:j<d.pQ.length),j<i->d.pQ[j].length<=12/\ ∀x∈d.pQ[j],tC x) () rfl rfl (fun j _ hj=>absurd hj (Xt _)) Qf3 ?_ ?_
  ·rintro _ hI2;refine gm ?_;refine gf @zM ?_;exact⟨_,rfl,fun _=>⟨Qf3,Qf3,za5 (P:=fun r:List Rw=>r.length<=12/\ ∀x∈r,zx1 x) hI1,za5 (P:=fun r:List LRw=>r.length<=12/\ ∀x∈r,tC x) hI2⟩⟩
  ·rintro i _ hi hw hI;refine gm ?_;have hx:=zG (f:=fun r:List LRw=>[vD r]) [] hi;have hxo:=(hr4 _ (Qc hi)).1;have up:=zg2 (P:=fun r:List LRw=>r.length<=12/\ ∀x∈r,tC x) hi hI;generalize d.pQ[i]=x at*;(have F:=(a4 @hi @hx @hw @zB);(repeat' (first|refine dR F ?_|refine dQ F (fun he=> ?_) (fun he=> ?_)|fail));all_goals clear F);all_goals try exact⟨_,rfl,Qf4⟩
   refine zO x.length (.k:: .k:: .d:: .k:: .k:: .k:: .v::K9 (K9 (K9 (K9 (K9 (K9 (K9 (K9 (D9 (D9 (D9 (D4 (.d:: .d:: .d::[]))))))))))))) (own:=false) (fun i (_:Unit)=>[i64 i]) (fun _=>_) (fun i _=> ∀(j:Nat)(h:j<x.length),j<i->tC x[j]) () rfl rfl (fun j _ hj=>absurd hj (Xt _)) Qf3 ?_ ?_
   ·exact Qcc
   ·rintro k _ hk zg1 hI2;refine gm ?_;have hy:=zG (f:=LRw.c) [] hk;have up2:=zg2 (P:=tC) hk hI2;exact Qb1
 ·rintro i _ hi hw hI;refine gm ?_;have hx:=zG (f:=fun r:List Rw=>[uN r]) [] hi;have hxo:=(hr3 _ (Qc hi)).1;have up:=zg2 (P:=fun r:List Rw=>r.length<=12/\ ∀x∈r,zx1 x) hi hI;generalize d.pg[i]=x at*;(have F:=(a4 @hi @hx @hw @zB);(repeat' (first|refine dR F ?_|refine dQ F (fun he=> ?_) (fun he=> ?_)|fail));all_goals clear F);all_goals try exact⟨_,rfl,Qf4⟩
  refine zO x.length (.k:: .k:: .d:: .k:: .v::K9 (K9 (K4 (K4 (D9 (D9 (D9 (D4 (.d:: .d:: .d::K9 (K9 (K9 (K9 (K9 (.k:: .k:: .k::[])))))))))))))) (own:=false) (fun i (_:Unit)=>[i64 i]) (fun _=>_) (fun i _=> ∀(j:Nat)(h:j<x.length),j<i->zx1 x[j]) () rfl rfl (fun j _ hj=>absurd hj (Xt _)) Qf3 ?_ ?_
  ·exact Qcc
  ·rintro k _ hk zg1 hI2;refine gm ?_;have hy:=zG (f:=Rw.c) [] hk;have up2:=zg2 (P:=zx1) hk hI2;exact Qb1
theorem Dt.raw.sz14{d:Dt}(h:d.raw)(k:d.few14):d.sz:=
 ⟨by have:=k.rl;omega,by have:=k.ll;omega,fun r hr=>⟨by have:=(k.r r hr).1;omega,fun x hx=>by
  obtain⟨a1,a2⟩:=(k.r r hr).2 x hx;exact⟨Qf3,((h.r r hr).2 x hx).2.1,Qf3⟩⟩,fun r hr=>⟨by have:=(k.l r hr).1;omega,fun x hx=>by
  obtain⟨a1,a2⟩:=(k.l r hr).2 x hx;exact⟨Qf3,Qf3⟩⟩,fun r hr x hx=>((h.l r hr).2 x hx).2.1⟩
end Go.AL
namespace Go.AL
open Go.RowKit
def BPle(b c:Blk):Prop:=b=c\/ ∃t cs cs',b= .var t cs/\c= .var t cs'/\cs.length=cs'.length/\ ∀(i:Nat)(p q:PV),cs[i]? =some p->cs'[i]? =some q->PLe p q
def HPle(h h2:Heap):Prop:=h2.length=h.length/\ ∀(r:Nat)(b c:Blk),h[r]? =some b->h2[r]? =some c->BPle b c
theorem zwB{S:St}{h2:Heap}(hl:HPle S.h h2):Ext S {S with h:=h2}:=
 ⟨rfl,rfl,ztC,rfl,Xe _,fun b _ ho=>⟨ho,rfl⟩,fun a v h=>by
  obtain⟨g1,g2,g3,g4,g5,g6⟩:=h;refine⟨g1,g2,g3,g4,g5,fun r u hu hb=> ?_⟩;obtain⟨e,k,m,hh,ho⟩:=g6 r u hu hb;have hr:r<h2.length:=by rw[hl.1];exact(gsi hh).1
  rcases hl.2 r _ _ hh (Qa hr) with e'|⟨t,cs,cs',e', -⟩
  ·exact⟨e,k,m,(Qa hr).trans (Ym some e'.symm),ho⟩
  ·exact(nomatch e'),fun r b hb=>by
  have hr:r<h2.length:=by rw[hl.1];exact(gsi hb).1
  refine⟨h2[r],Qa hr,?_⟩;rcases hl.2 r b _ hb (Qa hr) with e|⟨t,cs,cs',rfl,e,h1, -⟩
  ·rw[<-e];exact Blk.le_refl b rfl
  ·rw[e];exact⟨rfl,h1,rfl⟩,fun b m h=>h⟩
theorem zzZ{S:St}{h2:Heap}(hS:SRel S)(hl:HPle S.h h2):SRel {S with h:=h2}:=by
 have x:=zwB hl;refine⟨hS.len.trans hl.1.symm,fun r c v hc hv=> ?_,hS.inj,hS.xlt,hS.xown⟩;have hc:h2[r]? =some c:=hc;have hr:r<S.h.length:=by rw[<-hl.1];exact(gsi hc).1
 have hb:=Qa hr;have B:=(hS.blks r _ v hb hv).ext x (fun _ _=>rfl);rcases hl.2 r _ c hb hc with e|⟨t,cs,cs',e,rfl,h1,h2'⟩
 ·rw[<-e];exact B
 ·rw[e] at B;obtain⟨b',arr,rfl,g1,g2,g3,g4⟩:=B;refine⟨b',arr,rfl,g1,Qf3,g3,fun i q u hq hu=> ?_⟩;have hi:i<cs.length:=by rw[h1];exact(gsi hq).1
  exact h2' i _ q (Qa hi) hq _ _ (g4 i _ u (Qa hi) hu)
theorem ACall.hple{P:Program}{G:Glob}{f:FuncId}{args:List PV}{h:Heap}{R R2:PV->Heap->Prop}(k:ACall P G f args h R)(hr: ∀p h',R p h'-> ∃h2,HPle h' h2/\R2 p h2):ACall P G f args h R2:=by
 refine⟨k.1,fun φ w X vs a b c d=>(k.2 φ w X vs a b c d).mono ?_⟩;rintro e w' ⟨φ',h',p,v,he,x,hs,hv,hR⟩;obtain⟨h2,hl,hR2⟩:=hr _ _ hR;have y:Ext ⟨φ',h',w',X⟩ ⟨φ',h2,w',X⟩:=zwB (S:=⟨φ',h',w',X⟩) hl;exact⟨φ',h2,p,v,he,x.trans y,zzZ (S:=⟨φ',h',w',X⟩) hs hl,hv.ext y,hR2⟩
theorem ECall.hple{P:Program}{G:Glob}{f:FuncId}{args:List PV}{h:Heap}{R R2:PV->Heap->Prop}(k:ECall P G f args h R)(hr: ∀p h',R p h'-> ∃h2,HPle h' h2/\R2 p h2):ECall P G f args h R2:=by
 obtain⟨p,h1,a,b⟩:=k;obtain⟨h2,hl,c⟩:=hr _ _ a;exact⟨p,h2,c,b.hple (by rintro _ _ ⟨rfl,rfl⟩;exact⟨h2,hl,rfl,rfl⟩)⟩
theorem zyF{h:Heap}{q1 q2:Nat}{t1 t2:TypeId}{c1 c1' c2 c2':List PV}(g1:h[q1]? =some (.var t1 c1))(g2:h[q2]? =some (.var t2 c2))(hne:q1≠q2)
  (l1:c1.length=c1'.length) (p1: ∀(i:Nat)(p q:PV),c1[i]? =some p->c1'[i]? =some q->PLe p q) (l2:c2.length=c2'.length) (p2: ∀(i:Nat)(p q:PV),c2[i]? =some p->c2'[i]? =some q->PLe p q):
  HPle h ((h.set q1 (.var t1 c1')).set q2 (.var t2 c2')):=by
 have b1:=(gsi g1).1;have b2:=(gsi g2).1;refine⟨Qf4,fun r b c hb hc=> ?_⟩;by_cases e2:q2=r
 ·subst e2;rw[Qh (by simpa using b2)] at hc;rw[g2] at hb;cases hb;cases hc;exact .inr ⟨t2,c2,c2',rfl,rfl,l2,p2⟩
 ·rw[Qd e2] at hc;by_cases e1:q1=r
  ·subst e1;rw[Qh b1] at hc;rw[g1] at hb;cases hb;cases hc;exact .inr ⟨t1,c1,c1',rfl,rfl,l1,p1⟩
  ·rw[Qd e1,hb] at hc;cases hc;exact .inl rfl
end Go.AL
namespace Go.AL
open Go.RowKit
section
variable{P:Program}{G:Glob}{rd:Option Nat}
theorem OpOk.appendMsNil{o:Oper}{h:Heap}{F:Operand->PV}{R:PV->Heap->Prop}{c:Call}{t e:TypeId}{r0 off len k b:Nat}{s x:Operand}(ho:o.op= .call c)(hc:c.callee= .builtin .append)(ha:c.args= #[s,x])(hat:c.argTypes= #[t,t])(hs:F s= .ms r0 off k len)(hx:F x= .nil)(ht:wD P t=some (e,k,b))
  (r:R (.ms r0 off k len) h):OpOk P G rd o h F R:=by
 refine .of_run Qgt fun φ w X ρ hS hG hv=> ?_;have h1:=hv s Qhq;have h2:=hv x Qhq;rw[hs] at h1;rw[hx] at h2;obtain⟨htu,i,zv,hi,hz,hsz,hby,hzs,hk0⟩:=uH ht;have hus: ∃a n c',ρ s= .slice a n c'/\n<=c':=by generalize ρ s=u at h1;cases h1 with|ms hp hb hl hc hm hz=>exact⟨_,_,_,rfl,hc⟩|oms hb hc hm=>exact⟨_,_,_,rfl,hc⟩
 have hux:ρ x= .slice none 0 0:=by generalize ρ x=u at h2;cases h2;rfl
 obtain⟨a,n,c',hus,hn⟩:=hus;refine⟨φ,h,w,.ms r0 off k len,ρ s,?_,Ext.refl _,hS,h1,r⟩;have hrun:(Builtin.append_ #[t,t] o.type #[ρ s,ρ x]).run P w= .ok (ρ s) w:=by
  rw[hus,hux];simp[Builtin.append_,Xc htu,sizeOf,typeInfo,hi,Builtin.lenOf,Builtin.firstCells,hn];cases a<;>simp[Builtin.firstCells,loadCells,loadCellsFrom,storeCells]
 unfold execOp;rw[ho];simp[resolve,invoke,builtin,hc,ha,hat,hrun]
end
end Go.AL
namespace Go.AL
open Go.RowKit
section
variable{P:Program}{G:Glob}{D:Option Nat->Prop}{own:Bool}
def ADe(P:Program)(G:Glob)(n0:Nat)(t0:List PV)(ann:Nat->DAnn)(ops:List Oper)(ρ:List Nat)(K:List PV->Heap->Prop)(ts:List PV)(h:Heap):Prop:=
 ∃t1 h1,K t1 h1/\ ∀rd,DRun P G rd n0 t0 ann ops ρ (ts,h) (t1,h1)
variable{n0:Nat}{t0:List PV}{ann:Nat->DAnn}{ops:List Oper}{K:List PV->Heap->Prop}{ts:List PV}{h:Heap}
theorem zwG{rd:Option Nat}: ∀(ρ1:List Nat){ρ2:List Nat}{s m s':List PV×Heap},DRun P G rd n0 t0 ann ops ρ1 s m->DRun P G rd n0 t0 ann ops ρ2 m s'->DRun P G rd n0 t0 ann ops (ρ1++ρ2) s s'
 | [],_,s,m,s',a,b=>by
  have a:m=s:=a;subst a;exact b
 |i::ρ1,_,s,m,s',a,b=>by
  obtain⟨x,h1,h2⟩:=a;exact⟨x,h1,zwG ρ1 h2 b⟩
theorem znZ(k:K ts h):ADe P G n0 t0 ann ops [] K ts h:=⟨ts,h,k,fun _=>rfl⟩
theorem zzE(ρ1:List Nat){ρ2:List Nat}(k:AD P G own n0 t0 ann (ops.map (·.dst)) ops ρ1 (fun t h=>ADe P G n0 t0 ann ops ρ2 K t h) ts h):ADe P G n0 t0 ann ops (ρ1++ρ2) K ts h:=by
 obtain⟨t1,h1,⟨t2,h2,a,b⟩,c⟩:=AD.det _ _ _ _ k;refine⟨t2,h2,a,fun rd=> ?_⟩;obtain⟨sF,d,e⟩:=AD.ok (rd:=rd) _ _ _ _ (c (fun t h=>t=t1/\h=h1) ⟨rfl,rfl⟩);obtain⟨e1,e2⟩:=e;refine zwG ρ1 d ?_;have:sF=(t1,h1):=Prod.ext e1 e2;rw[this];exact b rd
theorem ztB{i:Nat}{r:List Nat}{o:Oper}{p:PV}{h1:Heap}(ho:ops[i]? =some o)(hg:o.guard=none)(h4:(ann i).cl=4)(hc: ∀rd,OpOk P G rd o h (wV G ts) fun q g=>q=p/\g=h1)
  (k: ∀ts',zZ ts o.dst p=ts'->ADe P G n0 t0 ann ops r K ts' h1):ADe P G n0 t0 ann ops (i::r) K ts h:=by
 obtain⟨t2,h2,a,b⟩:=k _ rfl;refine⟨t2,h2,a,fun rd=>⟨_,⟨o,p,h1,ho,?_,rfl⟩,b rd⟩⟩;unfold DGd;rw[hg];show DOpr P G rd n0 t0 (ann i) o ts h p h1;unfold DOpr;rw[h4];exact hc rd
theorem zn8(ρ1:List Nat){ρ2:List Nat}(k: ∀ds,ops.map (·.dst)=ds->AD P G own n0 t0 ann ds ops ρ1 (fun t h=>ADe P G n0 t0 ann ops ρ2 K t h) ts h):ADe P G n0 t0 ann ops (ρ1++ρ2) K ts h:=zzE ρ1 (k _ rfl)
theorem zwZ(hm:P.follows .mixedOrders=true)(hG:GTree G)(pl:DPlan){id:Nat}{ops:Array Oper}{K:Exit->List PV->Heap->Prop}{ts:List PV}{h:Heap}(hg:pl.good ops.toList=true)
  (k:ADe P G h.length ts pl.at ops.toList pl.ord (K .normal) ts (rY h pl.places)):EWp P G D (.region id ops true) K ts h:=by
 obtain⟨t1,h1,a,b⟩:=k;refine⟨.normal,t1,h1,a,fun rd _=> ?_⟩;obtain⟨hp,hl,hall⟩:=cP hg;have:=bM (rd:=rd) hm hG (id:=id) hp hl hall _ (Q:=fun e' t' h'=>e'= .normal/\t'=t1/\h'=h1) ⟨(t1,h1),b rd,rfl,rfl,rfl⟩;simpa using this
theorem zp6(hm:P.follows .mixedOrders=true)(hG:GTree G)(pl:DPlan)(ρ1 ρ2:List Nat){id:Nat}{ops:Array Oper}{K:Exit->List PV->Heap->Prop}{ts:List PV}{h:Heap}(hg:pl.good ops.toList=true)(ho:pl.ord=ρ1++ρ2)
  (k: ∀n0,h.length=n0-> ∀l,ops.toList=l-> ∀ds,l.map (·.dst)=ds-> ∀h2,rY h pl.places=h2->AD P G own n0 ts pl.at ds l ρ1 (fun t h=>ADe P G n0 ts pl.at l ρ2 (K .normal) t h) ts h2):EWp P G D (.region id ops true) K ts h:=by
 refine zwZ hm hG pl hg ?_;rw[ho];exact zzE (own:=own) ρ1 (k _ rfl _ rfl _ rfl _ rfl)
end
section
variable{P:Program}{G:Glob}{own:Bool}
variable{n0:Nat}{t0:List PV}{ann:Nat->DAnn}{ds:List (Option Tmp)}{ops:List Oper}{i:Nat}{r:List Nat}{Q:List PV->Heap->Prop}{ts:List PV}{h:Heap}{o:Oper}{d:DAnn}
theorem zxZ{h':Heap}{p:PV}{c:Prop}(h6:d.cl=6)(hh:kI n0 t0 d.fb=[])(hc:c)(hk: ∀k∈d.fb,1000<=k->h'[nu n0 t0 k]? =h[nu n0 t0 k]?)
  (k: ∀ts',zZ ts o.dst p=ts'->AD P G own n0 t0 ann ds ops r Q ts' h'):ADGo P G own n0 t0 ann ds ops r Q d o ts h (.val p h' c):=by
 simp only[ADGo,ADo,h6,Wk,hh];refine⟨hc,Qf4,Qf4,fun x _=>dN _,fun r b _ _=>zkE b,?_,?_⟩
 ·rw[jJ];exact hk
 ·rw[jJ];exact k _ rfl
end
end Go.AL
namespace Go.AL
open Go.Proofs Go.Proofs.Tryz
@[go_sem] def UEnc2f109.pl:Nat->DPlan
 |9=>⟨[yA,yA,⟨6,0,[1005]⟩,yA,⟨7,0,[1005]⟩,yC,yA,yC,yA],uW,0⟩
 |_=>⟨[],[],0⟩
def cS(l:List Vl):BA:=⟨(l.flatMap zhA).toArray⟩
def zxG(l:List UInt8):List (List PV):=l.map fun c=>[.sc (.int .u8 c.toNat)]
theorem ztG(a b:List UInt8):zxG (a++b)=zxG a++zxG b:=Xq
theorem zz1(l:List Vl):xH (cS l)=zxG (l.flatMap zhA):=rfl
theorem zyY{l:List Vl}{i:Nat}(h:i<l.length):(l.take (i+1)).flatMap zhA=(l.take i).flatMap zhA++zhA l[i]:=by
 rw[Xh h,Wx];simp
theorem zwE{v:Vl}(h:VvK v):(zhA v).length<=18:=by
 have h1:v.s.data.toList.length=v.s.size:=Qf4;have:=h.1;unfold zhA;split<;>simp<;>omega
theorem zxT{l:List Vl}(h: ∀v∈l,VvK v):(l.flatMap zhA).length<=18*l.length:=by
 induction l with
 |nil=>simp
 |cons v l ih=>
  have a:=zwE (h v (Qe ..));have b:=ih fun x hx=>h x (Qf _ hx);rw[Yp,Ql,Qn];omega
theorem zwF{a b:List Vl}(ha: ∀v∈a,VvK v)(hb: ∀v∈b,VvK v)(h:cS a=cS b):a=b:=by
 refine zwD (fun v hv=>(ha v hv).2.2.2.2) (fun v hv=>(hb v hv).2.2.2.2) ?_;have:=Ym (fun x:BA=>x.data.toList) h;simpa [cS] using this
abbrev KL(J:Heap)(V:PV)(l:List UInt8):Prop:=GrowN 0 5 (zxG l) 1 J V
theorem zzP(l:List UInt8):(zxG l).length=l.length:=by simp[zxG]
attribute [-go_sem] only
theorem flt5:List.filter (fun k:Nat=>decide (k<1000)) [1005]=[]:=rfl
open UEnc2f109 in
theorem ztZ(args:List Vl)(hl:args.length<=1048576)(hv: ∀a∈args,zoC a=true):EPure prog G0 109 [pH args] fun p=>p= .ts 1 (xH (cS args)):=by
 rw[zz1];have hK: ∀a∈args,VvK a:=fun a ha=>(zqC a).2 (hv a ha);refine ECall.cutW (R:=fun p h=>KL h p (args.flatMap zhA)) (pv func109 38 false Qf6 rfl rfl ?_) ?_;refine g2 ?_
 ·refine ge ?_;refine zO args.length (.k:: .k:: .d:: .v:: .k:: .d:: .k:: .k:: .v::D9 (D9 (D9 (.d:: .k::[])))) (own:=false) (fun i (s:PV×Heap)=>[s.1,i64 i]) (fun s=>s.2) (fun i s=>KL s.2 s.1 ((args.take i).flatMap zhA)) (.nil,[]) rfl rfl (.inl ⟨rfl,rfl⟩) Qf3 ?_ ?_
  ·rintro⟨V,J⟩ hI t ht;dsimp only at*;rw[Yt] at hI;simp only[zY] at ht;subst ht;refine gf @zM ?_;exact hI
  ·rintro i ⟨V,J⟩ hi hw hI t ht;dsimp only at*;simp only[zY] at ht;subst ht;have hx:=zG (f:=Vl.c) [] hi;have F:=(a6 @hi @hx @zB @hw @zA @zX)
   have hvx:=hv _ (Qc hi);have hkx:=hK _ (Qc hi);have hst:=zyY hi;have hln:=zxT (l:=args.take i) fun v h=>hK v (Zk h);have hln2:((args.take i).flatMap zhA).length<=18*1048576:=by rw[Xk] at hln;omega
   generalize args[i]=x at*;generalize (args.take i).flatMap zhA=l at*;have hlx:=zwE hkx;refine gf F ?_;(refine g1f F ?_;refine zC ((zr2 x).call zK Qfe _) ?_;intro p2 h2 hr2;refine g2 ?_);obtain⟨rfl,rfl⟩:=hr2;rw[hvx];obtain⟨-,ht12,hn0,hn1, -⟩:=hkx;obtain⟨xt,xn,xs⟩:=x;dsimp only at ht12 hn0 hn1;have hV:V= .nil/\l=[]\/ ∃q,V= .vec q 1 (zxG l)/\J[q]? =some (.vec 5 1 (zxG l).length):=by
    rcases hI with ⟨h0,rfl⟩|h0
    ·exact .inl ⟨rfl,List.map_eq_nil_iff.1 h0⟩
    ·exact .inr h0
   have hll:=zzP l;rcases ht12 with rfl|rfl
   ·have hb1:IntKind.u8.wrap (xn / 2 ^ min 8 64)=((UInt8.ofNat (xn / 256).toNat).toNat:Int):=by
     rw[IntKind.wrap_u8];simp;omega
    have hb2:IntKind.u8.wrap xn=((UInt8.ofNat xn.toNat).toNat:Int):=by
     rw[IntKind.wrap_u8];simp;omega
    have hst2:zxG (((args.take (i+1))).flatMap zhA)=zxG l++[[.sc (.int .u8 1)],[.sc (.int .u8 (UInt8.ofNat (xn / 256).toNat).toNat)],[.sc (.int .u8 (UInt8.ofNat xn.toNat).toNat)]]:=by
     rw[hst,ztG];rfl
    rcases hV with ⟨rfl,rfl⟩|⟨q,rfl,hq⟩
    ·refine gf (a4 F @iS @hb1 @hb2) ?_;refine⟨(_,_),?_,rfl,rfl,rfl⟩;refine .inr ⟨J.length+1,?_,?_⟩
     ·dsimp only;rw[hst2];rfl
     ·dsimp only;rw[hst2];simp[zxG]
    ·have hqJ:q<J.length:=(gsi hq).1;have hqA: ∀B:List Blk,(J++B)[q]? =some (.vec 5 1 (zxG l).length):=fun B=>by rw[Qg hqJ];exact hq
     refine gf (a6 F @iS @hb1 @hb2 @hqA @hll) ?_;refine⟨(_,_),?_,rfl,rfl,rfl⟩;refine .inr ⟨q,?_,?_⟩
     ·dsimp only;rw[hst2];rfl
     ·dsimp only;rw[hst2,Qh Qfk];simp[hll]
   ·have hst2:zxG (((args.take (i+1))).flatMap zhA)=((zxG l++[[.sc (.int .u8 2)]])++xH xs)++[[.sc (.int .u8 0)]]:=by
     rw[hst,ztG,show zhA ⟨2,xn,xs⟩=[2]++(xs.data.toList++[0]) from rfl,ztG,ztG];simp only[Qv];rfl
    have hs16:xs.size<=16:=by
     have h1:xs.data.toList.length=xs.size:=Qf4;have:(zhA ⟨2,xn,xs⟩).length=1+(xs.data.toList.length+1):=by
      show(2::(xs.data.toList++[0])).length=_;simp;omega
     omega
    (repeat(first|refine gz ?_|(refine gn ?_;intro zs zh;(try simp only[go_sem,F] at zh);subst zh;refine gv ?_)));have hp0:(J++[Blk.var 168 [i64 2,i64 xn,yQ xs]])[J.length]? =some (.var 168 [i64 2,i64 xn,yQ xs]):=zA _ _;rcases hV with ⟨rfl,rfl⟩|⟨q,rfl,hq⟩
    ·refine Qbh ?_;(repeat(first|refine gz ?_|(refine gn ?_;intro zs zh;(try simp only[go_sem,zA] at zh);subst zh;refine gv ?_)));(refine zF rfl rfl rfl ?_;intro zs zh;(try simp only[go_sem,flt5] at zh);subst zh);refine zxZ rfl rfl trivial (fun k hk _=> ?_) ?_
     ·have hk:k∈[1005]:=hk;rw[Qp] at hk;subst hk;simp[nu]
     intro ts2 hts;simp only[go_sem] at hts;subst hts;(repeat(first|refine gz ?_|(refine gn ?_;intro zs zh;(try simp only[go_sem,zA,oA,rU] at zh);subst zh;refine gv ?_)));show ADe _ _ _ _ _ _ _ _ _ _;refine ztB (i:=5) rfl rfl rfl (fun rd=>OpOk.appendStr (s:= .tmp 30) (x:= .tmp 32) (els:=[[.sc (.int .u8 2)]]) (bs:=xs) rfl rfl rfl rfl rfl rfl (by kernel_rfl:wD prog 198=some (5,1,1)) Qf6 Qf4 Qfk Qfk ⟨rfl,rfl⟩) ?_;intro ts2 hts;simp only[go_sem] at hts;subst hts;refine zn8 (own:=false) [6,7,8] (ρ2:=[]) ?_;intro ds hds;simp only[Xa,Wj] at hds;subst hds;(repeat(first|refine gz ?_|(refine gn ?_;intro zs zh;(try simp only[go_sem,rU,sB,rN,xC] at zh);subst zh;refine gv ?_)));refine znZ ?_;(repeat(first|refine gz ?_|(refine gn ?_;intro zs zh;(try simp only[go_sem,hw] at zh);subst zh;refine gv ?_)));refine⟨(_,_),?_,rfl,rfl,rfl⟩;refine .inr ⟨J.length+1,?_,?_⟩
     ·dsimp only;rw[hst2];rfl
     ·dsimp only;rw[hst2];simp[zxG,xC]
    ·have hqJ:q<J.length:=(gsi hq).1;obtain⟨a,ha⟩: ∃a,a=Blk.var 168 [i64 2,i64 xn,yQ xs]:=⟨_,rfl⟩
     have hqA:(J++[a])[q]? =some (.vec 5 1 (zxG l).length):=by rw[Qg hqJ];exact hq
     have hqS: ∀b:Blk,((J++[a]).set q b)[q]? =some b:=fun b=>Qh Qfk;have hqP: ∀b:Blk,((J++[a]).set q b)[J.length]? =some a:=fun b=>by rw[Qd Qf3];exact zA _ _
     have hqT: ∀b c:Blk,((J++[a]).set q b).set q c=(J++[a]).set q c:=fun b c=>Zu ..;rw[ha] at hqA hqS hqP hqT;refine Qbh ?_;(repeat(first|refine gz ?_|(refine gn ?_;intro zs zh;(try simp only[go_sem,zA,hqA,hll] at zh);subst zh;refine gv ?_)));(refine zF rfl rfl rfl ?_;intro zs zh;(try simp only[go_sem,flt5,hqA,hll] at zh);subst zh);refine zxZ rfl rfl Qf3 (fun k hk _=> ?_) ?_
     ·have hk:k∈[1005]:=hk;rw[Qp] at hk;subst hk;have: ∀b:Blk,((J++[Blk.var 168 [i64 2,i64 xn,yQ xs]]).set q b)[J.length]? =(J++[Blk.var 168 [i64 2,i64 xn,yQ xs]])[J.length]? :=fun b=>by rw[hqP,hp0]
      simpa [nu] using this _
     intro ts2 hts;simp only[go_sem] at hts;subst hts;(repeat(first|refine gz ?_|(refine gn ?_;intro zs zh;(try simp only[go_sem,oA,hqP] at zh);subst zh;refine gv ?_)));show ADe _ _ _ _ _ _ _ _ _ _;refine ztB (i:=5) rfl rfl rfl (fun rd=>OpOk.appendStr (s:= .tmp 30) (x:= .tmp 32) (els:=zxG l++[[.sc (.int .u8 2)]]) (bs:=xs) rfl rfl rfl rfl rfl rfl (by kernel_rfl:wD prog 198=some (5,1,1)) Qf6 (by rw[hqS];simp[hll]) (by simp[hll];omega) (by simp[hll];omega) ⟨rfl,rfl⟩) ?_;intro ts2 hts;simp only[go_sem] at hts;subst hts;refine zn8 (own:=false) [6,7,8] (ρ2:=[]) ?_;intro ds hds;simp only[Xa,Wj] at hds;subst hds;have hb:(l.length+1+xs.size+1<=140737488355328)=True:=Yk Qf3;(repeat(first|refine gz ?_|(refine gn ?_;intro zs zh;(try simp only[go_sem,hqT,hqS,xC,hll,hb] at zh);subst zh;refine gv ?_)));refine znZ ?_;(repeat(first|refine gz ?_|(refine gn ?_;intro zs zh;(try simp only[go_sem,hw] at zh);subst zh;refine gv ?_)));refine⟨(_,_),?_,rfl,rfl,rfl⟩;refine .inr ⟨q,?_,?_⟩
     ·dsimp only;rw[hst2];simp
     ·dsimp only;rw[hst2];rw[Qh Qfk];simp[hll,xC];omega
 ·rintro p h hp;rcases hp with ⟨h0,rfl⟩|⟨q,rfl, -⟩
  ·refine⟨_,?_,rfl,?_⟩
   ·rw[h0];simp only[fz];exact PLe.nil_ts 1
   ·rw[h0];simp[xX]
  ·have htb:zU 40 (.ts 1 (zxG (args.flatMap zhA)))=true:=by simp[zU,zxG,Jf]
   rw[rF htb];exact⟨_,PLe.refl _,rfl,yP _ _ htb⟩
end Go.AL
