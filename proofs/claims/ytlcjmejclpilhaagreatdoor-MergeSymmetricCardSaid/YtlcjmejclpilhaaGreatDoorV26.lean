/-
  Part of the walk.
-/
import Derived.Test.YtlcjmejclpilhaaGreatDoorV25
set_option linter.unusedSimpArgs false
set_option linter.unusedVariables false
set_option maxRecDepth 100000
set_option maxHeartbeats 4000000
namespace Go.AL
abbrev zuW:Pd:=⟨⟨#[]⟩,[],⟨#[]⟩, -1,false,0,0⟩
abbrev zuV:La:=⟨⟨#[]⟩,[],[],0⟩
noncomputable def zcQ(l:La)(z:List LRw)(o:Op1):List LRw:=uY (oU l) (za9 l (xU l z) o.args o.span.a o.span.b (if o.kind=1 then o.elem else oU l))
def zaL(q:Pd)(z:List Rw)(o:Op1):List Rw:=if o.kind=1 then bA q.key.toNat z o.args o.span else dP z o.args o.span
noncomputable def zl0(p:Pg)(d:Dt)(o:Op1):Dt:=
 if (p.pk.getD o.pred.toNat zuW).of'= -1 then⟨d.pg.set o.pred.toNat (zaL (p.pk.getD o.pred.toNat zuW) (d.pg.getD o.pred.toNat []) o),d.pQ⟩
 else⟨d.pg,d.pQ.set o.pred.toNat (zcQ (p.pQ.getD (p.pk.getD o.pred.toNat zuW).of'.toNat zuV) (d.pQ.getD o.pred.toNat []) o)⟩
theorem eD{α:Type}{l:List α}{i:Nat}(h:i<l.length)(x:α):l.getD i x=l[i]:=by
 rw[Qb,Qa h];rfl
theorem zo7{p:Pg}{d:Dt}{o:Op1}{i:Nat}(hoi:o.pred=i)(hi:i<p.pk.length)(hr:i<d.pg.length)(hof:p.pk[i].of'= -1):zl0 p d o=⟨d.pg.set i (zaL p.pk[i] d.pg[i] o),d.pQ⟩:=by
 unfold zl0;have:o.pred.toNat=i:=Qf0;rw[this,eD hi,eD hr,Qj hof]
theorem zo8{p:Pg}{d:Dt}{o:Op1}{i:Nat}(hoi:o.pred=i)(hi:i<p.pk.length)(hl:i<d.pQ.length)(hof:p.pk[i].of'≠ -1)(hol:p.pk[i].of'.toNat<p.pQ.length):zl0 p d o=⟨d.pg,d.pQ.set i (zcQ p.pQ[p.pk[i].of'.toNat] d.pQ[i] o)⟩:=by
 unfold zl0;have:o.pred.toNat=i:=Qf0;rw[this,eD hi,eD hl,Qi hof,eD hol]
structure OpX(p:Pg)(o:Op1)(i:Nat):Prop where
 hi:i<p.pk.length
 hoi:o.pred=i
 hof: -1<=p.pk[i].of'/\p.pk[i].of'<p.pQ.length
 htl:p.pk[i].types.length<=1048576
 k0:0<=p.pk[i].key
 k1:p.pk[i].key<=p.pk[i].types.length
 ax:ArgX p.pk[i].types o.args
 el: ∀k:p.pk[i].of'.toNat<p.pQ.length,0<=p.pk[i].of'->ze7 p.pQ[p.pk[i].of'.toNat] o.elem=true
 b:p.pk[i].base=true
 s:o.span.good
 k:o.kind=1\/o.kind=2
theorem OpX.ls{p:Pg}{o:Op1}{i:Nat}(k:OpX p o i):(Rw.mk o.args [o.span]).ls:=⟨by dsimp only;rw[k.ax.1];exact k.htl,fun a ha=>by have:=k.ax.sz a ha;omega,Qf1⟩
structure LenD(N:Nat)(d:Dt):Prop where
 r: ∀z∈d.pg,z.length<=N
 l: ∀z∈d.pQ,z.length<=N
theorem zrM{p:Pg}{N:Nat}{d:Dt}(h:DatX p d)(k:LenD N d)(hf: ∀x∈p.pk,x.types.length<=1048576/\x.of'<p.pQ.length/\ -1<=x.of'):DtS p N d:=by
 have at1:=h.at';refine⟨h.rl,h.ll,fun i hi hr=>⟨k.r _ (Qc hr),?_⟩,fun i hl=>⟨k.l _ (Qc hl),?_⟩⟩
 ·have hl:i<d.pQ.length:=by rw[h.ll];exact hi
  obtain⟨h1,h2,h3⟩:=at1 i hi hr hl;have hfi:=hf _ (Qc hi);generalize p.pk[i]=x at*;generalize d.pg[i]=y at*;generalize d.pQ[i]=z at*;cases hb:x.base with
  |false=>rw[(h1 hb).1];simp
  |true=>
   by_cases ho:x.of'= -1
   ·exact(h3 hb ho).2.1.ls hfi.1
   ·rw[(h2 hb ho).1];simp
 ·have hi:i<p.pk.length:=by rw[<-h.ll];exact hl
  have hr:i<d.pg.length:=by rw[h.rl];exact hi
  obtain⟨h1,h2,h3⟩:=at1 i hi hr hl;have hfi:=hf _ (Qc hi);generalize p.pk[i]=x at*;generalize d.pg[i]=y at*;generalize d.pQ[i]=z at*;cases hb:x.base with
  |false=>rw[(h1 hb).2];simp
  |true=>
   by_cases ho:x.of'= -1
   ·rw[(h3 hb ho).1];simp
   ·exact((h2 hb ho).2 Qf0).oks hfi.1
theorem LenD.op{p:Pg}{N:Nat}{d:Dt}{o:Op1}{i:Nat}(k:LenD N d)(h:DatX p d)(ho:OpX p o i):LenD (N+1) (zl0 p d o):=by
 have hi:=ho.hi;have hir:i<d.pg.length:=by rw[h.rl];exact ho.hi
 have hil:i<d.pQ.length:=by rw[h.ll];exact ho.hi
 have hN:N<=N+1:=Qf0;have k1:=k.r _ (Qc hir);have k2:=k.l _ (Qc hil);by_cases hof:p.pk[i].of'= -1
 ·rw[zo7 ho.hoi ho.hi hir hof];refine⟨fun z hz=> ?_,fun z hz=>Ya (k.l z hz) hN⟩;rcases Ze hz with hz|rfl
  ·exact Ya (k.r z hz) hN
  ·unfold zaL;split
   ·have:=zpB p.pk[i].key.toNat d.pg[i] o.args o.span;omega
   ·have:=zn0 d.pg[i] o.args o.span;omega
 ·have hol:p.pk[i].of'.toNat<p.pQ.length:=Qgj;rw[zo8 ho.hoi ho.hi hil hof hol];refine⟨fun z hz=>Ya (k.r z hz) hN,fun z hz=> ?_⟩;rcases Ze hz with hz|rfl
  ·exact Ya (k.l z hz) hN
  ·have hc:=((h.at' i ho.hi hir hil).2.1 ho.b hof).2 hol;have:=hc.set_len o.args o.span.a o.span.b (if o.kind=1 then o.elem else oU p.pQ[p.pk[i].of'.toNat]);unfold zcQ;omega
theorem DatX.op{p:Pg}(hp:p.ok){d:Dt}{o:Op1}{i:Nat}(h:DatX p d)(ho:OpX p o i):DatX p (zl0 p d o):=by
 have hi:=ho.hi;have hir:i<d.pg.length:=by rw[h.rl];exact ho.hi
 have hil:i<d.pQ.length:=by rw[h.ll];exact ho.hi
 obtain⟨h1,h2,h3⟩:=h.at' i ho.hi hir hil;by_cases hof:p.pk[i].of'= -1
 ·obtain⟨q1,q2,q3⟩:=h3 ho.b hof;rw[zo7 ho.hoi ho.hi hir hof];refine⟨h.tv,by simpa using h.rl,h.ll,fun j hj hr hl=> ?_⟩;have hjr:j<d.pg.length:=by simpa using hr
  by_cases hji:i=j
  ·subst hji;dsimp only;rw[Km];refine⟨fun e=>Bool.noConfusion (ho.b.symm.trans e),fun _ e=>absurd hof e,fun _ _=>⟨q1,?_⟩⟩;have hky:=(zjB q2.1).1 q3;unfold zaL;split
   ·obtain⟨c1,c2,c3⟩:=zdF (k:=p.pk[i].key.toNat) (args:=o.args) q2.1 ho.s;exact⟨q2.of ho.ax c1 c3,(zjB c1).2 (hky.tell q2.1 ho.s)⟩
   ·obtain⟨c1,c2,c3⟩:=bK (args:=o.args) q2.1 ho.s;exact⟨q2.of ho.ax c1 c3,(zjB c1).2 (hky.rem q2.1 ho.s)⟩
  ·dsimp only;rw[Uq hji];exact h.at' j hj hjr hl
 ·have hol:p.pk[i].of'.toNat<p.pQ.length:=Qgj;obtain⟨q1,q2⟩:=h2 ho.b hof;rw[zo8 ho.hoi ho.hi hil hof hol];refine⟨h.tv,h.rl,by simpa using h.ll,fun j hj hr hl=> ?_⟩;have hjl:j<d.pQ.length:=Qfu;by_cases hji:i=j
  ·subst hji;dsimp only;rw[Km];refine⟨fun e=>Bool.noConfusion (ho.b.symm.trans e),fun _ _=>⟨q1,fun k=> ?_⟩,fun _ e=>absurd e hof⟩;have hc:=q2 k;unfold zcQ;refine hc.set ho.ax _ _ ?_;split
   ·exact zp4 (hp.l _ (Qc k)) hc.1 (ho.el k Qgj)
   ·exact zpN _
  ·dsimp only;rw[Uq hji];exact h.at' j hj hr hjl
end Go.AL
namespace Go.AL
open Go.Proofs Go.Proofs.Tryz
@[go_sem] def UVfxf125.pp:Nat->DPlan
 |9=>⟨[yB,yC,yA,yA,yA,yB,yA,yB,yA,yA,yB,yA,yA],yN,0⟩
 |15=>⟨[yA,yB,yA,yA,yA,yB,yA,yB,yA,yA,yA,yA,yA,yB,yB,uX,yA,yA,yA],sI,0⟩
 |_=>⟨[],[],0⟩
@[go_sem] def UVfxf125.pl:Nat->DPlan
 |9=>⟨[yB,yC,yA,yA,yA,yB,yA,yB,yA,yA,yB,yA,yA],yN,0⟩
 |15=>⟨[yA,yB,yA,yA,yA,yB,yA,yB,yA,yA,yA,yA,yA,⟨7,0,[1003]⟩,yB,⟨6,0,[1003]⟩,yA,yA,yA],sI,0⟩
 |_=>⟨[],[],0⟩
@[go_sem] def UChxf60.pl:Nat->DPlan
 |1=>⟨[⟨6,0,[1003]⟩,yA,⟨7,0,[1003]⟩,yB,yA,yA,yB,yA,yB,yC,yA,yA,yA],yN,0⟩
 |_=>⟨[],[],0⟩
attribute [-go_sem] only
attribute [go_sem] only
theorem znP{p:Pg}(hp:p.ok)(hle:p.sm)(h:zpQ p=true):p.pk.length<=1048576/\ ∀x∈p.pk,x.types.length<=1048576/\x.of'<p.pQ.length/\ -1<=x.of':=by
 obtain⟨hf,hpb, -⟩:=(ze0 p hp hle).2 h;exact⟨by have:=hf.pl;omega,fun x hx=>⟨by obtain⟨f1,f2,f3⟩:=hf.p _ hx;omega,(hpb x hx).2,(hpb x hx).1⟩⟩
end Go.AL
namespace Go.AL
def yZ(l:La)(a b e:Int)(ms:List Int):List Int:=if ze7 l e=true then tB (fun _=>e) ms a b else ms
theorem zbJ(l:La)(T:Tbl)(args:List Vl)(a b e:Int):za9 l T args a b e=oT (uZ (oU l) T args) (zk0 args) (yZ l a b e):=rfl
theorem znD{l:La}{ms:List Int}(h:zh2 l ms)(he:zh6 (oU l) ms 64=[]):ms=List.replicate 64 (oU l):=by
 rw[<-zmI h,he];rfl
end Go.AL
namespace Go.AL
open Go.Proofs Go.Proofs.Tryz
structure Dt.raw(d:Dt):Prop where
 rl:d.pg.length<=140737488355328
 ll:d.pQ.length<=140737488355328
 r: ∀r∈d.pg,r.length<=140737488355328/\ ∀x∈r,x.args.length<=140737488355328/\(∀a∈x.args,a.s.size<=140737488355328)/\x.w.length<=140737488355328
 l: ∀r∈d.pQ,r.length<=140737488355328/\ ∀x∈r,x.args.length<=140737488355328/\(∀a∈x.args,a.s.size<=140737488355328)/\x.cs.length<=140737488355328
def gG(x:Rw):Prop:=x.args.length<=6/\x.w.length<=20
def tC(x:LRw):Prop:=x.args.length<=8/\x.cs.length<=8
structure Dt.few(d:Dt):Prop where
 rl:d.pg.length<=40
 ll:d.pQ.length<=40
 r: ∀r∈d.pg,r.length<=40/\ ∀x∈r,gG x
 l: ∀r∈d.pQ,r.length<=8/\ ∀x∈r,tC x
theorem zg2{α:Type}{l:List α}{P:α->Prop}{i:Nat}(hi:i<l.length)(h: ∀(j:Nat)(h:j<l.length),j<i->P l[j])(q:P l[i]): ∀(j:Nat)(h:j<l.length),j<i+1->P l[j]:=fun j k hj=>by
 rcases Xy j i with hji|hji
 ·exact h j k hji
 ·exact Qbn
theorem za5{α:Type}{l:List α}{P:α->Prop}(h: ∀(j:Nat)(h:j<l.length),j<l.length->P l[j]): ∀x∈l,P x:=fun x hx=>by
 obtain⟨j,hj,rfl⟩:=Qy hx;exact h j hj hj
@[go_sem] def UForkf42.pl:Nat->DPlan
 |9=>⟨[yA,yB,yA,yA,yA,yA,yA,yB,yA,yA,yA,yB,yA,yA,yC,yA,yC],wR,0⟩
 |_=>⟨[],[],0⟩
theorem zlG{n:Nat}{h:Heap}(f:Nat)(cs:List PV):fz n h (f+1) (.tup cs)= .tup (cs.map (fz n h f)):=by simp only[fz]
theorem fzA{n:Nat}{h:Heap}(f:Nat)(cs:List PV):fz n h (f+1) (.agg cs)= .agg (cs.map (fz n h f)):=by simp only[fz]
theorem fzN{n:Nat}{h:Heap}(f:Nat):fz n h (f+1) .nil= .nil:=by simp only[fz]
theorem eJ(f:Nat)(l:List Vl):zU (f+2) (pH l)=true:=by simp[zU,Jf]
def zq4(p:Pg):Dt:=⟨List.replicate p.pk.length [],List.replicate p.pk.length []⟩
theorem zv2(n:Nat)(p:PV):(List.replicate n [p]).flatten=List.replicate n p:=by
 induction n with
 |zero=>rfl
 |succ n ih=>simp[Ww,ih]
@[go_sem] def UBra2f48.pl:Nat->DPlan
 |1=>⟨[yA,⟨1,0,[0,1]⟩,yA,vC,yA,⟨1,0,[0,1]⟩,yA,⟨2,1,[]⟩,yA,yC],[0,1,2,4,5,6,3,7,8,9],2⟩
 |_=>⟨[],[],0⟩
theorem fzM{h:Heap}(f r off k len:Nat){t:TypeId}{cs:List PV}(e:h[r]? =some (.var t cs)):fz 0 h (f+1) (.ms r off k len)= .ts k (wA (cs.map (fz 0 h f)) off k len):=by
 simp only[fz,Xt,Wr,e]
theorem eH(f:Nat)(d:Dt):zU (f+6) (.agg d.c)=true:=by
 have h1: ∀r:List Rw,zU (f+4) (uN r)=true:=rE f;have h2: ∀r:List LRw,zU (f+4) (vD r)=true:=fun r=>by
  exact Qbt
 simp only[zU,Dt.c,Wm,Jb,Zw,Jf];simp only[zU] at h1 h2;simp[h1,h2,Function.comp_def]
structure Rp.sz(r:Rp):Prop where
 cl:r.cs.length<=1048576
 c: ∀x∈r.cs,OpsG x.ops
 bl:r.bs.length<=1048576
 b: ∀x∈r.bs,x.ok
@[go_sem] def USamef54.pl:Nat->DPlan
 |6=>⟨[yA,yA,yA,yB,yA,yA,yA,yB,yA],uW,0⟩
 |_=>⟨[],[],0⟩
@[go_sem] def USamef55.pl:Nat->DPlan
 |6=>⟨[yA,yA,yA,yA,yB,yA,yA,yA,yA,yB,yC,yA,yA,yA,yA,yA,yA,yB,yA,yA,yA,yA,yB,yC,yA,yA],iot26,0⟩
 |_=>⟨[],[],0⟩
@[go_sem] def USamef56.pl:Nat->DPlan
 |6=>⟨[yA,yA,yA,yA,yB,yA,yA,yA,yA,yB,yC,yA,yA,yA,yA,yA,yA,yB,yA,yA,yA,yA,yA,yB,yA,yA,yA],yaS,0⟩
 |11=>⟨[yA,yA,yA,yA,yB,yA,yA,yB,yA,yA,yA,yA,yB,yA,yA,yB,yA],wR,0⟩
 |_=>⟨[],[],0⟩
@[go_sem] def USamef116.pl:Nat->DPlan
 |4=>⟨[yA,yA,yA,yB,yA,yA,yA,yB,yC,yA],xS,0⟩
 |_=>⟨[],[],0⟩
@[go_sem] def USamef244.pl:Nat->DPlan
 |4=>⟨[yA,yA,yA,yA,yA,yA,yA],tV,0⟩
 |5=>⟨[yA,yA,yA,yA,yA,yA,yA,yA,yC,yA],xS,0⟩
 |_=>⟨[],[],0⟩
theorem zuS(a:Int):EPure prog G0 171 [i64 a,i64 a] fun p=>p=i64 0:=by
 refine ECall.pure (pv func171 11 false Qf3 rfl rfl ?_);refine g2 ?_;have h1:decide (a<a)=false:=Qf1;refine gf @h1 ?_;exact Qaa
open USamef244 in
theorem zwV(s:BA)(hs:s.size<=140737488355328):EPure prog G0 244 [yQ s,yQ s] fun p=>p=i64 0:=by
 refine ECall.pure (pv func244 39 false Qf3 rfl rfl ?_);refine g2 ?_;refine ge ?_;refine zO s.size (K4 (.d:: .v::D9 (D9 (D9 (.d::K4 (.k::[])))))) (own:=false) (fun i (_:Unit)=>[i64 i]) (fun _=>_) (fun _ _=>True) () rfl rfl trivial hs ?_ ?_
 ·rintro _ _;refine gm ?_;refine gf @zM ?_;(refine g1 ?_;refine zC ((zuS s.size).call zK Qf1 _) (yf0 ?_);rintro p2 h2 ⟨rfl,rfl⟩);refine ge ?_;exact Qaa
 ·rintro i _ hi hw _;refine gm ?_;have hi2:decide ((i:Int)<(s.size:Int))=true:=Qfh;have hi3:((i:Int)<(s.size:Int))=True:=Yk Qf0;refine zjA (a5 @hi @hw @hi2 @hi3 @zB) ?_;exact Qb9
theorem zyP(v:Vl)(hs:v.s.size<=140737488355328):EPure prog G0 170 [.agg v.c,.agg v.c] fun p=>p=i64 0:=by
 refine ECall.cut (R:=fun p _=>p=i64 0) (pv func170 30 false Qf3 rfl rfl ?_) Qgi;refine g2 ?_;refine zjA trivial ?_;(refine g1 ?_;refine zC ((zwV v.s hs).call zK Qf1 _) (yf0 ?_);rintro p2 h2 ⟨rfl,rfl⟩);refine ge ?_;rfl
open USamef116 in
theorem zuT(l:List Vl)(hl:l.length<=140737488355328)(hs: ∀v∈l,v.s.size<=140737488355328):EPure prog G0 116 [pH l,pH l] fun p=>p=i64 0:=by
 refine ECall.pure (pv func116 36 false Qf3 rfl rfl ?_);refine g2 ?_;refine ge ?_;refine zO l.length (K4 (.d:: .v::D9 (D9 (D4 (.d:: .d:: .d::K4 (.k::[])))))) (own:=false) (fun i (_:Unit)=>[i64 i]) (fun _=>_) (fun _ _=>True) () rfl rfl trivial hl ?_ ?_
 ·rintro _ _;refine gm ?_;refine gf @zM ?_;(refine g1 ?_;refine zC ((zuS l.length).call zK Qf1 _) (yf0 ?_);rintro p2 h2 ⟨rfl,rfl⟩);refine ge ?_;exact Qaa
 ·rintro i _ hi hw _;refine gm ?_;have hx:=zG (f:=Vl.c) [] hi;have F:=(a4 @hi @hx @hw @zB)
  have hsx:=hs _ (Qc hi);generalize l[i]=x at*;refine gf F ?_;(refine yf1 F ?_;refine zP Qf2 Qf2 ((zyP x hsx).call zK Qfb _) (yf0 ?_);rintro p2 h2 ⟨rfl,rfl⟩);have h0:((0:Int)!=0)=false:=rfl;refine gf (a2 F @h0) ?_;exact Qb9
theorem zyB(l:List Vl)(hl:l.length<=140737488355328)(hs: ∀v∈l,v.s.size<=140737488355328):EPure prog G0 53 [pH l,pH l] fun p=>p=bo true:=by
 refine ECall.pure (pv func53 9 false Qf3 rfl rfl ?_);refine g2 ?_;refine ge ?_;(refine g1 ?_;refine zC ((zuT l hl hs).call zK Qf1 _) (yf0 ?_);rintro p2 h2 ⟨rfl,rfl⟩);have h0:((0:Int)==0)=true:=rfl;refine gf @h0 ?_;exact Qaa
theorem eqSp2(a b c d:Int):za2 (α:=Prop) prog 54 (.agg [i64 a,i64 b]) (.agg [i64 c,i64 d])=some (a==c&&(b==d&&true),True):=Qf3
open USamef54 in
theorem zyC(l:List Sp)(hl:l.length<=140737488355328):EPure prog G0 54 [kJ l,kJ l] fun p=>p=bo true:=by
 refine ECall.pure (pv func54 26 false Qf3 rfl rfl ?_);refine g2 ?_;have h0:((l.length:Int)!=(l.length:Int))=false:=Qf1;refine gf @h0 ?_;refine zO l.length (K4 (.d:: .v::K4 (.k::D9 (D4 (.d:: .d::[]))))) (own:=false) (fun i (_:Unit)=>[i64 i]) (fun _=>_) (fun _ _=>True) () rfl rfl trivial hl ?_ ?_
 ·exact Qep
 ·rintro i _ hi hw _;refine gm ?_;have hx:=zG (f:=Sp.c) [] hi;generalize l[i]=x at*;refine gf (a5 @hi @hx @hw @zB @eqSp2) ?_;exact Qb9
def Rw.cm(x:Rw):Prop:=x.args.length<=140737488355328/\(∀v∈x.args,v.s.size<=140737488355328)/\x.w.length<=140737488355328
def LRw.cm(x:LRw):Prop:=x.args.length<=140737488355328/\(∀v∈x.args,v.s.size<=140737488355328)/\x.cs.length<=140737488355328
open USamef55 in
theorem zwX(l:List Rw)(hl:l.length<=140737488355328)(hs: ∀x∈l,x.cm):EPure prog G0 55 [uN l,uN l] fun p=>p=bo true:=by
 refine ECall.pure (pv func55 43 false Qf3 rfl rfl ?_);refine g2 ?_;have h0:((l.length:Int)!=(l.length:Int))=false:=Qf1;refine gf @h0 ?_;refine zO l.length (K4 (.d:: .v::K4 (.k::D9 (D9 (D9 (D4 (.d::[]))))))) (own:=false) (fun i (_:Unit)=>[i64 i]) (fun _=>_) (fun _ _=>True) () rfl rfl trivial hl ?_ ?_
 ·exact Qep
 ·rintro i _ hi hw _;refine gm ?_;have hx:=zG (f:=Rw.c) [] hi;have F:=(a4 @hi @hx @hw @zB)
  obtain⟨h1,h2,h3⟩:=hs _ (Qc hi);generalize l[i]=x at*;have h4:((0:Int)!=0)=false:=rfl;refine gf F ?_;(refine yf1 F ?_;refine zP Qf2 Qf2 ((zuT x.args h1 h2).call zK Qf1 _) (yf0 ?_);rintro p2 h2 ⟨rfl,rfl⟩);refine gf (a2 F @h4) ?_;(refine vY ?_;refine zN rfl rfl rfl ?_;intro sr hsr;simp only[sK,wP] at hsr;subst hsr;(first|refine pK ?_|refine pL ?_);intro sr hsr;simp only[go_sem,F,h4] at hsr;subst hsr;refine zP Qf2 Qf2 ((zyC x.w h3).call zK Qf1 _) (yf0 ?_);rintro p2 h2 ⟨rfl,rfl⟩);refine gf (a2 F @h4) ?_;exact Qb9
open USamef56 in
theorem zwW(l:List LRw)(hl:l.length<=140737488355328)(hs: ∀x∈l,x.cm):EPure prog G0 56 [vD l,vD l] fun p=>p=bo true:=by
 refine ECall.pure (pv func56 72 false Qf3 rfl rfl ?_);refine g2 ?_;have h0:((l.length:Int)!=(l.length:Int))=false:=Qf1;refine gf @h0 ?_;refine zO l.length (K4 (.d:: .v:: .d::K4 (.k::D9 (D9 (D9 (D9 (D9 (D9 (D4 (.d:: .d::[])))))))))) (own:=false) (fun i (_:Unit)=>[i64 i]) (fun _=>_) (fun _ _=>True) () rfl rfl trivial hl ?_ ?_
 ·exact Qep
 ·rintro i _ hi hw _;refine gm ?_;have hx:=zG (f:=LRw.c) [] hi;have F:=(a4 @hi @hx @hw @zB)
  obtain⟨h1,h2,h3⟩:=hs _ (Qc hi);generalize l[i]=x at*;have h4:((x.cs.length:Int)!=(x.cs.length:Int))=false:=Qf1;refine gf F ?_;(refine yf1 F ?_;refine zP Qf2 Qf2 ((zyB x.args h1 h2).call zK Qf1 _) (yf0 ?_);rintro p2 h2 ⟨rfl,rfl⟩);refine gf (a2 F @h4) ?_;refine zO x.cs.length (K4 (.d:: .k:: .v::K9 (K9 (K9 (K9 (.k:: .k::D9 (D9 (D9 ([]))))))))) (own:=false) (fun i (_:Unit)=>[i64 i]) (fun _=>_) (fun _ _=>True) () rfl rfl trivial h3 ?_ ?_
  ·rintro _ _;refine gm ?_;refine gf (a2 F @zM) ?_;exact Qb9
  ·rintro k _ hk zg1 _;refine gm ?_;have hy:=zG (f:=Ce.c) [] hk;generalize x.cs[k]=y at*;refine gf (a5 F @hk @hy @zg1 @zs8) ?_;exact Qb9
def Dt.cm(d:Dt):Prop:=d.pg.length<=140737488355328/\d.pQ.length<=140737488355328/\(∀r∈d.pg,r.length<=140737488355328/\ ∀x∈r,x.cm)/\ ∀r∈d.pQ,r.length<=140737488355328/\ ∀x∈r,x.cm
theorem ye2{d:Dt}(h:d.sz):d.cm:=
 ⟨by have:=h.rl;omega,by have:=h.ll;omega,fun r hr=>⟨by have:=(h.r r hr).1;omega,fun x hx=>by
  have k:=(h.r r hr).2 x hx;exact⟨by have:=k.al;omega,k.a,by have:=k.w;omega⟩⟩,fun r hr=>⟨by have:=(h.l r hr).1;omega,fun x hx=>by
  have k:=(h.l r hr).2 x hx;exact⟨Qf0,h.s r hr x hx,Qf0⟩⟩⟩
@[go_sem] def UMy1f14.pl:Nat->DPlan
 |6=>⟨[yA,yB,yA,yA,yB,yA,yB,yA,yA,yB,yC,yA],xF,0⟩
 |12=>⟨[yA,yB,yA,yA,yB,yA,yB,yA,yA,yB,yC,yA],xF,0⟩
 |_=>⟨[],[],0⟩
def zx1(x:Rw):Prop:=x.args.length<=8/\x.w.length<=8
structure Dt.few14(d:Dt):Prop where
 rl:d.pg.length<=26
 ll:d.pQ.length<=26
 r: ∀r∈d.pg,r.length<=12/\ ∀x∈r,zx1 x
 l: ∀r∈d.pQ,r.length<=12/\ ∀x∈r,tC x
open UMy1f14 in
theorem zyO(d:Dt)(hd:d.cm):EPure prog G0 14 [.agg d.c,.agg d.c] fun p=>p=bo true:=by
 obtain⟨d1,d2,d3,d4⟩:=hd;refine ECall.cut (R:=fun p _=>p=bo true) (pv func14 65 false Qf3 rfl rfl ?_) Qgi;refine g2 ?_;have h0:((d.pg.length:Int)!=(d.pg.length:Int))=false:=Qf1;have h1:((d.pQ.length:Int)!=(d.pQ.length:Int))=false:=Qf1;refine gf (a2 @h0 @h1) ?_;refine zO d.pg.length (K4 (.d:: .v:: .d::K9 (K9 (D9 (D9 (.d:: .d::K9 (K9 (.k:: .k::[])))))))) (own:=false) (fun i (_:Unit)=>[i64 i]) (fun _=>_) (fun _ _=>True) () rfl rfl trivial d1 ?_ ?_
 ·rintro _ _;refine gm ?_;refine gf @zM ?_;refine zO d.pQ.length (K4 (.d:: .k:: .k:: .v:: .d::K9 (K9 (K9 (K9 (D9 (D9 (.d:: .d::[])))))))) (own:=false) (fun i (_:Unit)=>[i64 i]) (fun _=>_) (fun _ _=>True) () rfl rfl trivial d2 ?_ ?_
  ·rintro _ _;refine gm ?_;exact Qd9
  ·rintro i _ hi hw _;refine gm ?_;have hx:=zG (f:=fun r:List LRw=>[vD r]) [] hi;have F1:=(a4 @hi @hx @hw @zB)
   obtain⟨k1,k2⟩:=d4 _ (Qc hi);generalize d.pQ[i]=x at*;refine gf F1 ?_;(refine yf1 F1 ?_;refine zP Qf2 Qf2 ((zwW x k1 k2).call zK Qf1 _) (yf0 ?_);rintro p2 h2 ⟨rfl,rfl⟩);refine gf F1 ?_;exact Qb9
 ·rintro i _ hi hw _;refine gm ?_;have hx:=zG (f:=fun r:List Rw=>[uN r]) [] hi;have F:=(a4 @hi @hx @hw @zB)
  obtain⟨k1,k2⟩:=d3 _ (Qc hi);generalize d.pg[i]=x at*;refine gf F ?_;(refine yf1 F ?_;refine zP Qf2 Qf2 ((zwX x k1 k2).call zK Qf1 _) (yf0 ?_);rintro p2 h2 ⟨rfl,rfl⟩);refine gf F ?_;exact Qb9
theorem zpY(d:Dt)(hd:d.raw):EB 47 [.agg d.c] fun b=>b=true->d.few14:=by
 refine ECall.cut (R:=fun v _=> ∃b:Bool,v=bo b/\(b=true->d.few14)) (pv func47 113 false Qf3 rfl rfl ?_) Qhc;refine g2 ?_;obtain⟨hr1,hr2',hr3,hr4⟩:=hd;(repeat' (first|refine gp ?_|refine gs (fun he=> ?_) (fun he=> ?_)|fail));all_goals try exact⟨_,rfl,Qf1⟩
 refine zO d.pg.length (.k:: .k:: .d:: .v:: .d::K9 (.k:: .k:: .k::D9 (D9 (D9 (D9 (D9 (.d:: .d:: .d::K9 (K9 (K9 (K9 (K9 (.k:: .k:: .k::[])))))))))))) (own:=false) (fun i (_:Unit)=>[i64 i]) (fun _=>_) (fun i _=> ∀(j:Nat)(h:j<d.pg.length),j<i->d.pg[j].length<=12/\ ∀x∈d.pg[j],zx1 x) () rfl rfl (fun j _ hj=>absurd hj (Xt _)) Qf0 ?_ ?_
 ·rintro _ hI1;refine gm ?_;refine gf @zM ?_;refine zO d.pQ.length (.k:: .k:: .d:: .k:: .k:: .v:: .d::K9 (K9 (K9 (K9 (K9 (K9 (K4 (D9 (D9 (D9 (D9 (D9 (.d:: .d:: .d::[]))))))))))))) (own:=false) (fun i (_:Unit)=>[i64 i]) (fun _=>_) (fun i _=> ∀(j:Nat)(h:j<d.pQ.length),j<i->d.pQ[j].length<=12/\ ∀x∈d.pQ[j],tC x) () rfl rfl (fun j _ hj=>absurd hj (Xt _)) Qf0 ?_ ?_
  ·rintro _ hI2;refine gm ?_;refine gf @zM ?_;exact⟨_,rfl,fun _=>⟨Qf0,Qf0,za5 (P:=fun r:List Rw=>r.length<=12/\ ∀x∈r,zx1 x) hI1,za5 (P:=fun r:List LRw=>r.length<=12/\ ∀x∈r,tC x) hI2⟩⟩
  ·rintro i _ hi hw hI;refine gm ?_;have hx:=zG (f:=fun r:List LRw=>[vD r]) [] hi;have hxo:=(hr4 _ (Qc hi)).1;have up:=zg2 (P:=fun r:List LRw=>r.length<=12/\ ∀x∈r,tC x) hi hI;generalize d.pQ[i]=x at*;(have F:=(a4 @hi @hx @hw @zB);(repeat' (first|refine dR F ?_|refine dQ F (fun he=> ?_) (fun he=> ?_)|fail));all_goals clear F);all_goals try exact⟨_,rfl,Qf1⟩
   refine zO x.length (.k:: .k:: .d:: .k:: .k:: .k:: .v::K9 (K9 (K9 (K9 (K9 (K9 (K9 (K9 (D9 (D9 (D9 (D4 (.d:: .d:: .d::[]))))))))))))) (own:=false) (fun i (_:Unit)=>[i64 i]) (fun _=>_) (fun i _=> ∀(j:Nat)(h:j<x.length),j<i->tC x[j]) () rfl rfl (fun j _ hj=>absurd hj (Xt _)) Qf0 ?_ ?_
   ·exact Qcb
   ·rintro k _ hk zg1 hI2;refine gm ?_;have hy:=zG (f:=LRw.c) [] hk;have up2:=zg2 (P:=tC) hk hI2;exact Qaz
 ·rintro i _ hi hw hI;refine gm ?_;have hx:=zG (f:=fun r:List Rw=>[uN r]) [] hi;have hxo:=(hr3 _ (Qc hi)).1;have up:=zg2 (P:=fun r:List Rw=>r.length<=12/\ ∀x∈r,zx1 x) hi hI;generalize d.pg[i]=x at*;(have F:=(a4 @hi @hx @hw @zB);(repeat' (first|refine dR F ?_|refine dQ F (fun he=> ?_) (fun he=> ?_)|fail));all_goals clear F);all_goals try exact⟨_,rfl,Qf1⟩
  refine zO x.length (.k:: .k:: .d:: .k:: .v::K9 (K9 (K4 (K4 (D9 (D9 (D9 (D4 (.d:: .d:: .d::K9 (K9 (K9 (K9 (K9 (.k:: .k:: .k::[])))))))))))))) (own:=false) (fun i (_:Unit)=>[i64 i]) (fun _=>_) (fun i _=> ∀(j:Nat)(h:j<x.length),j<i->zx1 x[j]) () rfl rfl (fun j _ hj=>absurd hj (Xt _)) Qf0 ?_ ?_
  ·exact Qcb
  ·rintro k _ hk zg1 hI2;refine gm ?_;have hy:=zG (f:=Rw.c) [] hk;have up2:=zg2 (P:=zx1) hk hI2;exact Qaz
theorem Dt.raw.sz14{d:Dt}(h:d.raw)(k:d.few14):d.sz:=
 ⟨by have:=k.rl;omega,by have:=k.ll;omega,fun r hr=>⟨by have:=(k.r r hr).1;omega,fun x hx=>by
  obtain⟨a1,a2⟩:=(k.r r hr).2 x hx;exact⟨Qf0,((h.r r hr).2 x hx).2.1,Qf0⟩⟩,fun r hr=>⟨by have:=(k.l r hr).1;omega,fun x hx=>by
  obtain⟨a1,a2⟩:=(k.l r hr).2 x hx;exact⟨Qf0,Qf0⟩⟩,fun r hr x hx=>((h.l r hr).2 x hx).2.1⟩
end Go.AL
namespace Go.AL
open Go.RowKit
def BPle(b c:Blk):Prop:=b=c\/ ∃t cs cs',b= .var t cs/\c= .var t cs'/\cs.length=cs'.length/\ ∀(i:Nat)(p q:PV),cs[i]? =some p->cs'[i]? =some q->PLe p q
def HPle(h h2:Heap):Prop:=h2.length=h.length/\ ∀(r:Nat)(b c:Blk),h[r]? =some b->h2[r]? =some c->BPle b c
theorem zwB{S:St}{h2:Heap}(hl:HPle S.h h2):Ext S {S with h:=h2}:=
 ⟨rfl,rfl,ztC,rfl,Xe _,fun b _ ho=>⟨ho,rfl⟩,fun a v h=>by
  obtain⟨g1,g2,g3,g4,g5,g6⟩:=h;refine⟨g1,g2,g3,g4,g5,fun r u hu hb=> ?_⟩;obtain⟨e,k,m,hh,ho⟩:=g6 r u hu hb;have hr:r<h2.length:=by rw[hl.1];exact(gsi hh).1
  rcases hl.2 r _ _ hh (Qa hr) with e'|⟨t,cs,cs',e', -⟩
  ·exact⟨e,k,m,(Qa hr).trans (Ym some e'.symm),ho⟩
  ·exact(nomatch e'),fun r b hb=>by
  have hr:r<h2.length:=by rw[hl.1];exact(gsi hb).1
  refine⟨h2[r],Qa hr,?_⟩;rcases hl.2 r b _ hb (Qa hr) with e|⟨t,cs,cs',rfl,e,h1, -⟩
  ·rw[<-e];exact Blk.le_refl b rfl
  ·rw[e];exact⟨rfl,h1,rfl⟩,fun b m h=>h⟩
theorem zzZ{S:St}{h2:Heap}(hS:SRel S)(hl:HPle S.h h2):SRel {S with h:=h2}:=by
 have x:=zwB hl;refine⟨hS.len.trans hl.1.symm,fun r c v hc hv=> ?_,hS.inj,hS.xlt,hS.xown⟩;have hc:h2[r]? =some c:=hc;have hr:r<S.h.length:=by rw[<-hl.1];exact(gsi hc).1
 have hb:=Qa hr;have B:=(hS.blks r _ v hb hv).ext x (fun _ _=>rfl);rcases hl.2 r _ c hb hc with e|⟨t,cs,cs',e,rfl,h1,h2'⟩
 ·rw[<-e];exact B
 ·rw[e] at B;obtain⟨b',arr,rfl,g1,g2,g3,g4⟩:=B;refine⟨b',arr,rfl,g1,Qf0,g3,fun i q u hq hu=> ?_⟩;have hi:i<cs.length:=by rw[h1];exact(gsi hq).1
  exact h2' i _ q (Qa hi) hq _ _ (g4 i _ u (Qa hi) hu)
theorem ACall.hple{P:Program}{G:Glob}{f:FuncId}{args:List PV}{h:Heap}{R R2:PV->Heap->Prop}(k:ACall P G f args h R)(hr: ∀p h',R p h'-> ∃h2,HPle h' h2/\R2 p h2):ACall P G f args h R2:=by
 refine⟨k.1,fun φ w X vs a b c d=>(k.2 φ w X vs a b c d).mono ?_⟩;rintro e w' ⟨φ',h',p,v,he,x,hs,hv,hR⟩;obtain⟨h2,hl,hR2⟩:=hr _ _ hR;have y:Ext ⟨φ',h',w',X⟩ ⟨φ',h2,w',X⟩:=zwB (S:=⟨φ',h',w',X⟩) hl;exact⟨φ',h2,p,v,he,x.trans y,zzZ (S:=⟨φ',h',w',X⟩) hs hl,hv.ext y,hR2⟩
theorem ECall.hple{P:Program}{G:Glob}{f:FuncId}{args:List PV}{h:Heap}{R R2:PV->Heap->Prop}(k:ECall P G f args h R)(hr: ∀p h',R p h'-> ∃h2,HPle h' h2/\R2 p h2):ECall P G f args h R2:=by
 obtain⟨p,h1,a,b⟩:=k;obtain⟨h2,hl,c⟩:=hr _ _ a;exact⟨p,h2,c,b.hple (by rintro _ _ ⟨rfl,rfl⟩;exact⟨h2,hl,rfl,rfl⟩)⟩
theorem zyF{h:Heap}{q1 q2:Nat}{t1 t2:TypeId}{c1 c1' c2 c2':List PV}(g1:h[q1]? =some (.var t1 c1))(g2:h[q2]? =some (.var t2 c2))(hne:q1≠q2)
  (l1:c1.length=c1'.length) (p1: ∀(i:Nat)(p q:PV),c1[i]? =some p->c1'[i]? =some q->PLe p q) (l2:c2.length=c2'.length) (p2: ∀(i:Nat)(p q:PV),c2[i]? =some p->c2'[i]? =some q->PLe p q):
  HPle h ((h.set q1 (.var t1 c1')).set q2 (.var t2 c2')):=by
 have b1:=(gsi g1).1;have b2:=(gsi g2).1;refine⟨Qf1,fun r b c hb hc=> ?_⟩;by_cases e2:q2=r
 ·subst e2;rw[Qh (by simpa using b2)] at hc;rw[g2] at hb;cases hb;cases hc;exact .inr ⟨t2,c2,c2',rfl,rfl,l2,p2⟩
 ·rw[Qd e2] at hc;by_cases e1:q1=r
  ·subst e1;rw[Qh b1] at hc;rw[g1] at hb;cases hb;cases hc;exact .inr ⟨t1,c1,c1',rfl,rfl,l1,p1⟩
  ·rw[Qd e1,hb] at hc;cases hc;exact .inl rfl
end Go.AL
namespace Go.AL
open Go.RowKit
section
variable{P:Program}{G:Glob}{rd:Option Nat}
theorem OpOk.appendMsNil{o:Oper}{h:Heap}{F:Operand->PV}{R:PV->Heap->Prop}{c:Call}{t e:TypeId}{r0 off len k b:Nat}{s x:Operand}(ho:o.op= .call c)(hc:c.callee= .builtin .append)(ha:c.args= #[s,x])(hat:c.argTypes= #[t,t])(hs:F s= .ms r0 off k len)(hx:F x= .nil)(ht:wD P t=some (e,k,b))
  (r:R (.ms r0 off k len) h):OpOk P G rd o h F R:=by
 refine .of_run Qgq fun φ w X ρ hS hG hv=> ?_;have h1:=hv s Qhn;have h2:=hv x Qhn;rw[hs] at h1;rw[hx] at h2;obtain⟨htu,i,zv,hi,hz,hsz,hby,hzs,hk0⟩:=uH ht;have hus: ∃a n c',ρ s= .slice a n c'/\n<=c':=by generalize ρ s=u at h1;cases h1 with|ms hp hb hl hc hm hz=>exact⟨_,_,_,rfl,hc⟩|oms hb hc hm=>exact⟨_,_,_,rfl,hc⟩
 have hux:ρ x= .slice none 0 0:=by generalize ρ x=u at h2;cases h2;rfl
 obtain⟨a,n,c',hus,hn⟩:=hus;refine⟨φ,h,w,.ms r0 off k len,ρ s,?_,Ext.refl _,hS,h1,r⟩;have hrun:(Builtin.append_ #[t,t] o.type #[ρ s,ρ x]).run P w= .ok (ρ s) w:=by
  rw[hus,hux];simp[Builtin.append_,Xc htu,sizeOf,typeInfo,hi,Builtin.lenOf,Builtin.firstCells,hn];cases a<;>simp[Builtin.firstCells,loadCells,loadCellsFrom,storeCells]
 unfold execOp;rw[ho];simp[resolve,invoke,builtin,hc,ha,hat,hrun]
end
end Go.AL
namespace Go.AL
open Go.RowKit
section
variable{P:Program}{G:Glob}{D:Option Nat->Prop}{own:Bool}
def ADe(P:Program)(G:Glob)(n0:Nat)(t0:List PV)(ann:Nat->DAnn)(ops:List Oper)(ρ:List Nat)(K:List PV->Heap->Prop)(ts:List PV)(h:Heap):Prop:=
 ∃t1 h1,K t1 h1/\ ∀rd,DRun P G rd n0 t0 ann ops ρ (ts,h) (t1,h1)
variable{n0:Nat}{t0:List PV}{ann:Nat->DAnn}{ops:List Oper}{K:List PV->Heap->Prop}{ts:List PV}{h:Heap}
theorem zwG{rd:Option Nat}: ∀(ρ1:List Nat){ρ2:List Nat}{s m s':List PV×Heap},DRun P G rd n0 t0 ann ops ρ1 s m->DRun P G rd n0 t0 ann ops ρ2 m s'->DRun P G rd n0 t0 ann ops (ρ1++ρ2) s s'
 | [],_,s,m,s',a,b=>by
  have a:m=s:=a;subst a;exact b
 |i::ρ1,_,s,m,s',a,b=>by
  obtain⟨x,h1,h2⟩:=a;exact⟨x,h1,zwG ρ1 h2 b⟩
theorem znZ(k:K ts h):ADe P G n0 t0 ann ops [] K ts h:=⟨ts,h,k,fun _=>rfl⟩
theorem zzE(ρ1:List Nat){ρ2:List Nat}(k:AD P G own n0 t0 ann (ops.map (·.dst)) ops ρ1 (fun t h=>ADe P G n0 t0 ann ops ρ2 K t h) ts h):ADe P G n0 t0 ann ops (ρ1++ρ2) K ts h:=by
 obtain⟨t1,h1,⟨t2,h2,a,b⟩,c⟩:=AD.det _ _ _ _ k;refine⟨t2,h2,a,fun rd=> ?_⟩;obtain⟨sF,d,e⟩:=AD.ok (rd:=rd) _ _ _ _ (c (fun t h=>t=t1/\h=h1) ⟨rfl,rfl⟩);obtain⟨e1,e2⟩:=e;refine zwG ρ1 d ?_;have:sF=(t1,h1):=Prod.ext e1 e2;rw[this];exact b rd
theorem ztB{i:Nat}{r:List Nat}{o:Oper}{p:PV}{h1:Heap}(ho:ops[i]? =some o)(hg:o.guard=none)(h4:(ann i).cl=4)(hc: ∀rd,OpOk P G rd o h (wV G ts) fun q g=>q=p/\g=h1)
  (k: ∀ts',zZ ts o.dst p=ts'->ADe P G n0 t0 ann ops r K ts' h1):ADe P G n0 t0 ann ops (i::r) K ts h:=by
 obtain⟨t2,h2,a,b⟩:=k _ rfl;refine⟨t2,h2,a,fun rd=>⟨_,⟨o,p,h1,ho,?_,rfl⟩,b rd⟩⟩;unfold DGd;rw[hg];show DOpr P G rd n0 t0 (ann i) o ts h p h1;unfold DOpr;rw[h4];exact hc rd
theorem zn8(ρ1:List Nat){ρ2:List Nat}(k: ∀ds,ops.map (·.dst)=ds->AD P G own n0 t0 ann ds ops ρ1 (fun t h=>ADe P G n0 t0 ann ops ρ2 K t h) ts h):ADe P G n0 t0 ann ops (ρ1++ρ2) K ts h:=zzE ρ1 (k _ rfl)
theorem zwZ(hm:P.follows .mixedOrders=true)(hG:GTree G)(pl:DPlan){id:Nat}{ops:Array Oper}{K:Exit->List PV->Heap->Prop}{ts:List PV}{h:Heap}(hg:pl.good ops.toList=true)
  (k:ADe P G h.length ts pl.at ops.toList pl.ord (K .normal) ts (rY h pl.places)):EWp P G D (.region id ops true) K ts h:=by
 obtain⟨t1,h1,a,b⟩:=k;refine⟨.normal,t1,h1,a,fun rd _=> ?_⟩;obtain⟨hp,hl,hall⟩:=cP hg;have:=bM (rd:=rd) hm hG (id:=id) hp hl hall _ (Q:=fun e' t' h'=>e'= .normal/\t'=t1/\h'=h1) ⟨(t1,h1),b rd,rfl,rfl,rfl⟩;simpa using this
theorem zp6(hm:P.follows .mixedOrders=true)(hG:GTree G)(pl:DPlan)(ρ1 ρ2:List Nat){id:Nat}{ops:Array Oper}{K:Exit->List PV->Heap->Prop}{ts:List PV}{h:Heap}(hg:pl.good ops.toList=true)(ho:pl.ord=ρ1++ρ2)
  (k: ∀n0,h.length=n0-> ∀l,ops.toList=l-> ∀ds,l.map (·.dst)=ds-> ∀h2,rY h pl.places=h2->AD P G own n0 ts pl.at ds l ρ1 (fun t h=>ADe P G n0 ts pl.at l ρ2 (K .normal) t h) ts h2):EWp P G D (.region id ops true) K ts h:=by
 refine zwZ hm hG pl hg ?_;rw[ho];exact zzE (own:=own) ρ1 (k _ rfl _ rfl _ rfl _ rfl)
end
section
variable{P:Program}{G:Glob}{own:Bool}
variable{n0:Nat}{t0:List PV}{ann:Nat->DAnn}{ds:List (Option Tmp)}{ops:List Oper}{i:Nat}{r:List Nat}{Q:List PV->Heap->Prop}{ts:List PV}{h:Heap}{o:Oper}{d:DAnn}
theorem zxZ{h':Heap}{p:PV}{c:Prop}(h6:d.cl=6)(hh:kI n0 t0 d.fb=[])(hc:c)(hk: ∀k∈d.fb,1000<=k->h'[nu n0 t0 k]? =h[nu n0 t0 k]?)
  (k: ∀ts',zZ ts o.dst p=ts'->AD P G own n0 t0 ann ds ops r Q ts' h'):ADGo P G own n0 t0 ann ds ops r Q d o ts h (.val p h' c):=by
 simp only[ADGo,ADo,h6,Wk,hh];refine⟨hc,Qf1,Qf1,fun x _=>dN _,fun r b _ _=>zkE b,?_,?_⟩
 ·rw[jJ];exact hk
 ·rw[jJ];exact k _ rfl
end
end Go.AL
namespace Go.AL
open Go.Proofs Go.Proofs.Tryz
@[go_sem] def UEnc2f109.pl:Nat->DPlan
 |9=>⟨[yA,yA,⟨6,0,[1005]⟩,yA,⟨7,0,[1005]⟩,yC,yA,yC,yA],uW,0⟩
 |_=>⟨[],[],0⟩
def cS(l:List Vl):BA:=⟨(l.flatMap zhA).toArray⟩
def zxG(l:List UInt8):List (List PV):=l.map fun c=>[.sc (.int .u8 c.toNat)]
theorem ztG(a b:List UInt8):zxG (a++b)=zxG a++zxG b:=Xq
theorem zz1(l:List Vl):xH (cS l)=zxG (l.flatMap zhA):=rfl
theorem zyY{l:List Vl}{i:Nat}(h:i<l.length):(l.take (i+1)).flatMap zhA=(l.take i).flatMap zhA++zhA l[i]:=by
 rw[Xh h,Wx];simp
theorem zwE{v:Vl}(h:VvK v):(zhA v).length<=18:=by
 have h1:v.s.data.toList.length=v.s.size:=Qf1;have:=h.1;unfold zhA;split<;>simp<;>omega
theorem zxT{l:List Vl}(h: ∀v∈l,VvK v):(l.flatMap zhA).length<=18*l.length:=by
 induction l with
 |nil=>simp
 |cons v l ih=>
  have a:=zwE (h v (Qe ..));have b:=ih fun x hx=>h x (Qf _ hx);rw[Yp,Ql,Qn];omega
theorem zwF{a b:List Vl}(ha: ∀v∈a,VvK v)(hb: ∀v∈b,VvK v)(h:cS a=cS b):a=b:=by
 refine zwD (fun v hv=>(ha v hv).2.2.2.2) (fun v hv=>(hb v hv).2.2.2.2) ?_;have:=Ym (fun x:BA=>x.data.toList) h;simpa [cS] using this
abbrev KL(J:Heap)(V:PV)(l:List UInt8):Prop:=GrowN 0 5 (zxG l) 1 J V
theorem zzP(l:List UInt8):(zxG l).length=l.length:=by simp[zxG]
attribute [-go_sem] only
theorem flt5:List.filter (fun k:Nat=>decide (k<1000)) [1005]=[]:=rfl
open UEnc2f109 in
theorem ztZ(args:List Vl)(hl:args.length<=1048576)(hv: ∀a∈args,zoC a=true):EPure prog G0 109 [pH args] fun p=>p= .ts 1 (xH (cS args)):=by
 rw[zz1];have hK: ∀a∈args,VvK a:=fun a ha=>(zqC a).2 (hv a ha);refine ECall.cutW (R:=fun p h=>KL h p (args.flatMap zhA)) (pv func109 38 false Qf3 rfl rfl ?_) ?_;refine g2 ?_
 ·refine ge ?_;refine zO args.length (.k:: .k:: .d:: .v:: .k:: .d:: .k:: .k:: .v::D9 (D9 (D9 (.d:: .k::[])))) (own:=false) (fun i (s:PV×Heap)=>[s.1,i64 i]) (fun s=>s.2) (fun i s=>KL s.2 s.1 ((args.take i).flatMap zhA)) (.nil,[]) rfl rfl (.inl ⟨rfl,rfl⟩) Qf0 ?_ ?_
  ·rintro⟨V,J⟩ hI t ht;dsimp only at*;rw[Yt] at hI;simp only[zY] at ht;subst ht;refine gf @zM ?_;exact hI
  ·rintro i ⟨V,J⟩ hi hw hI t ht;dsimp only at*;simp only[zY] at ht;subst ht;have hx:=zG (f:=Vl.c) [] hi;have F:=(a6 @hi @hx @zB @hw @zA @zX)
   have hvx:=hv _ (Qc hi);have hkx:=hK _ (Qc hi);have hst:=zyY hi;have hln:=zxT (l:=args.take i) fun v h=>hK v (Zk h);have hln2:((args.take i).flatMap zhA).length<=18*1048576:=by rw[Xk] at hln;omega
   generalize args[i]=x at*;generalize (args.take i).flatMap zhA=l at*;have hlx:=zwE hkx;refine gf F ?_;(refine g1f F ?_;refine zC ((zr2 x).call zK Qfb _) (yf0 ?_);rintro p2 h2 ⟨rfl,rfl⟩);rw[hvx];obtain⟨-,ht12,hn0,hn1, -⟩:=hkx;obtain⟨xt,xn,xs⟩:=x;dsimp only at ht12 hn0 hn1;have hV:V= .nil/\l=[]\/ ∃q,V= .vec q 1 (zxG l)/\J[q]? =some (.vec 5 1 (zxG l).length):=by
    rcases hI with ⟨h0,rfl⟩|h0
    ·exact .inl ⟨rfl,List.map_eq_nil_iff.1 h0⟩
    ·exact .inr h0
   have hll:=zzP l;rcases ht12 with rfl|rfl
   ·have hb1:IntKind.u8.wrap (xn / 2 ^ min 8 64)=((UInt8.ofNat (xn / 256).toNat).toNat:Int):=by
     rw[IntKind.wrap_u8];simp;omega
    have hb2:IntKind.u8.wrap xn=((UInt8.ofNat xn.toNat).toNat:Int):=by
     rw[IntKind.wrap_u8];simp;omega
    have hst2:zxG (((args.take (i+1))).flatMap zhA)=zxG l++[[.sc (.int .u8 1)],[.sc (.int .u8 (UInt8.ofNat (xn / 256).toNat).toNat)],[.sc (.int .u8 (UInt8.ofNat xn.toNat).toNat)]]:=by
     rw[hst,ztG];rfl
    rcases hV with ⟨rfl,rfl⟩|⟨q,rfl,hq⟩
    ·refine gf (a4 F @iS @hb1 @hb2) ?_;refine⟨(_,_),?_,rfl,rfl,rfl⟩;refine .inr ⟨J.length+1,?_,?_⟩
     ·dsimp only;rw[hst2];rfl
     ·dsimp only;rw[hst2];simp[zxG]
    ·have hqJ:q<J.length:=(gsi hq).1;have hqA: ∀B:List Blk,(J++B)[q]? =some (.vec 5 1 (zxG l).length):=fun B=>by rw[Qg hqJ];exact hq
     refine gf (a6 F @iS @hb1 @hb2 @hqA @hll) ?_;refine⟨(_,_),?_,rfl,rfl,rfl⟩;refine .inr ⟨q,?_,?_⟩
     ·dsimp only;rw[hst2];rfl
     ·dsimp only;rw[hst2,Qh Qfh];simp[hll]
   ·have hst2:zxG (((args.take (i+1))).flatMap zhA)=((zxG l++[[.sc (.int .u8 2)]])++xH xs)++[[.sc (.int .u8 0)]]:=by
     rw[hst,ztG,show zhA ⟨2,xn,xs⟩=[2]++(xs.data.toList++[0]) from rfl,ztG,ztG];simp only[Qv];rfl
    have hs16:xs.size<=16:=by
     have h1:xs.data.toList.length=xs.size:=Qf1;have:(zhA ⟨2,xn,xs⟩).length=1+(xs.data.toList.length+1):=by
      show(2::(xs.data.toList++[0])).length=_;simp;omega
     omega
    (repeat(first|refine gz ?_|(refine gn ?_;intro zs zh;(try simp only[go_sem,F] at zh);subst zh;refine gv ?_)));have hp0:(J++[Blk.var 168 [i64 2,i64 xn,yQ xs]])[J.length]? =some (.var 168 [i64 2,i64 xn,yQ xs]):=zA _ _;rcases hV with ⟨rfl,rfl⟩|⟨q,rfl,hq⟩
    ·refine Qbg ?_;(repeat(first|refine gz ?_|(refine gn ?_;intro zs zh;(try simp only[go_sem,zA] at zh);subst zh;refine gv ?_)));(refine zF rfl rfl rfl ?_;intro zs zh;(try simp only[go_sem,flt5] at zh);subst zh);refine zxZ rfl rfl trivial (fun k hk _=> ?_) ?_
     ·have hk:k∈[1005]:=hk;rw[Qp] at hk;subst hk;simp[nu]
     intro ts2 hts;simp only[go_sem] at hts;subst hts;(repeat(first|refine gz ?_|(refine gn ?_;intro zs zh;(try simp only[go_sem,zA,oA,rU] at zh);subst zh;refine gv ?_)));show ADe _ _ _ _ _ _ _ _ _ _;refine ztB (i:=5) rfl rfl rfl (fun rd=>OpOk.appendStr (s:= .tmp 30) (x:= .tmp 32) (els:=[[.sc (.int .u8 2)]]) (bs:=xs) rfl rfl rfl rfl rfl rfl (by kernel_rfl:wD prog 198=some (5,1,1)) Qf3 Qf1 Qfh Qfh ⟨rfl,rfl⟩) ?_;intro ts2 hts;simp only[go_sem] at hts;subst hts;refine zn8 (own:=false) [6,7,8] (ρ2:=[]) ?_;intro ds hds;simp only[Xa,Wj] at hds;subst hds;(repeat(first|refine gz ?_|(refine gn ?_;intro zs zh;(try simp only[go_sem,rU,sB,rN,xC] at zh);subst zh;refine gv ?_)));refine znZ ?_;(repeat(first|refine gz ?_|(refine gn ?_;intro zs zh;(try simp only[go_sem,hw] at zh);subst zh;refine gv ?_)));refine⟨(_,_),?_,rfl,rfl,rfl⟩;refine .inr ⟨J.length+1,?_,?_⟩
     ·dsimp only;rw[hst2];rfl
     ·dsimp only;rw[hst2];simp[zxG,xC]
    ·have hqJ:q<J.length:=(gsi hq).1;obtain⟨a,ha⟩: ∃a,a=Blk.var 168 [i64 2,i64 xn,yQ xs]:=⟨_,rfl⟩
     have hqA:(J++[a])[q]? =some (.vec 5 1 (zxG l).length):=by rw[Qg hqJ];exact hq
     have hqS: ∀b:Blk,((J++[a]).set q b)[q]? =some b:=fun b=>Qh Qfh;have hqP: ∀b:Blk,((J++[a]).set q b)[J.length]? =some a:=fun b=>by rw[Qd Qf0];exact zA _ _
     have hqT: ∀b c:Blk,((J++[a]).set q b).set q c=(J++[a]).set q c:=fun b c=>Wi ..;rw[ha] at hqA hqS hqP hqT;refine Qbg ?_;(repeat(first|refine gz ?_|(refine gn ?_;intro zs zh;(try simp only[go_sem,zA,hqA,hll] at zh);subst zh;refine gv ?_)));(refine zF rfl rfl rfl ?_;intro zs zh;(try simp only[go_sem,flt5,hqA,hll] at zh);subst zh);refine zxZ rfl rfl Qf0 (fun k hk _=> ?_) ?_
     ·have hk:k∈[1005]:=hk;rw[Qp] at hk;subst hk;have: ∀b:Blk,((J++[Blk.var 168 [i64 2,i64 xn,yQ xs]]).set q b)[J.length]? =(J++[Blk.var 168 [i64 2,i64 xn,yQ xs]])[J.length]? :=fun b=>by rw[hqP,hp0]
      simpa [nu] using this _
     intro ts2 hts;simp only[go_sem] at hts;subst hts;(repeat(first|refine gz ?_|(refine gn ?_;intro zs zh;(try simp only[go_sem,oA,hqP] at zh);subst zh;refine gv ?_)));show ADe _ _ _ _ _ _ _ _ _ _;refine ztB (i:=5) rfl rfl rfl (fun rd=>OpOk.appendStr (s:= .tmp 30) (x:= .tmp 32) (els:=zxG l++[[.sc (.int .u8 2)]]) (bs:=xs) rfl rfl rfl rfl rfl rfl (by kernel_rfl:wD prog 198=some (5,1,1)) Qf3 (by rw[hqS];simp[hll]) (by simp[hll];omega) (by simp[hll];omega) ⟨rfl,rfl⟩) ?_;intro ts2 hts;simp only[go_sem] at hts;subst hts;refine zn8 (own:=false) [6,7,8] (ρ2:=[]) ?_;intro ds hds;simp only[Xa,Wj] at hds;subst hds;have hb:(l.length+1+xs.size+1<=140737488355328)=True:=Yk Qf0;(repeat(first|refine gz ?_|(refine gn ?_;intro zs zh;(try simp only[go_sem,hqT,hqS,xC,hll,hb] at zh);subst zh;refine gv ?_)));refine znZ ?_;(repeat(first|refine gz ?_|(refine gn ?_;intro zs zh;(try simp only[go_sem,hw] at zh);subst zh;refine gv ?_)));refine⟨(_,_),?_,rfl,rfl,rfl⟩;refine .inr ⟨q,?_,?_⟩
     ·dsimp only;rw[hst2];simp
     ·dsimp only;rw[hst2];rw[Qh Qfh];simp[hll,xC];omega
 ·rintro p h hp;rcases hp with ⟨h0,rfl⟩|⟨q,rfl, -⟩
  ·refine⟨_,?_,rfl,?_⟩
   ·rw[h0];simp only[fz];exact PLe.nil_ts 1
   ·rw[h0];simp[xX]
  ·have htb:zU 40 (.ts 1 (zxG (args.flatMap zhA)))=true:=by simp[zU,zxG,Jf]
   rw[rF htb];exact⟨_,PLe.refl _,rfl,yP _ _ htb⟩
attribute [go_sem] only
@[go_sem] def UFacf90.pl:Nat->DPlan
 |6=>⟨[yA,yA,yA,yB,yA,yA,yA,yB,yA],uW,0⟩
 |_=>⟨[],[],0⟩
structure Fa where
 pred:Int
 args:List Vl
 elem:Int
@[reducible] def Fa.c(f:Fa):List PV:=[i64 f.pred,pH f.args,i64 f.elem]
open UFacf90 in
theorem yeW(a b:List Vl)(ha:a.length<=140737488355328):EPure prog G0 90 [pH a,pH b] fun r=>r=bo (decide (a=b)):=by
 refine ECall.pure (pv func90 26 false Qf3 rfl rfl ?_);refine g2 ?_;by_cases hl:a.length=b.length
 ·have hne:((a.length:Int)!=(b.length:Int))=false:=Qf5;refine gf @hne ?_;refine zO a.length (K4 (.d:: .v::K4 (.k::D9 (D4 (.d:: .d::[]))))) (own:=false) (fun i (_:Unit)=>[i64 i]) (fun _=>_) (fun i _=> ∀(j:Nat)(h:j<a.length)(h':j<b.length),j<i->a[j]=b[j]) () rfl rfl (fun _ _ _ h=>absurd h (Xt _)) ha ?_ ?_
  ·exact Qen
  ·exact Qa3
 ·exact Qem
theorem yeF(a b:Fa)(ha:a.args.length<=140737488355328):EPure prog G0 32 [.agg a.c,.agg b.c] fun r=>r=bo (decide (a.pred=b.pred/\a.args=b.args/\a.elem=b.elem)):=by
 refine ECall.cut (R:=fun r _=>r=bo (decide (a.pred=b.pred/\a.args=b.args/\a.elem=b.elem))) (pv func32 24 false Qf3 rfl rfl ?_) Qgi;refine g2 ?_;by_cases h1:a.pred=b.pred
 ·have e1:(a.pred==b.pred)=true:=Qfa;refine gf @e1 ?_;(refine g1f @e1 ?_;refine zC ((yeW a.args b.args ha).call zK Qf1 _) (yf0 ?_);rintro p2 h2 ⟨rfl,rfl⟩);by_cases h2:a.args=b.args
  ·have e2:decide (a.args=b.args)=true:=Qff;rw[e2];have e3:decide (a.pred=b.pred/\a.args=b.args/\a.elem=b.elem)=(a.elem==b.elem):=by
    rw[Jo];simp[h1,h2]
   rw[e3];refine gf @e1 ?_;rfl
  ·have e2:decide (a.args=b.args)=false:=Qff;have e3:decide (a.pred=b.pred/\a.args=b.args/\a.elem=b.elem)=false:=Qff;rw[e2,e3];refine gf @e1 ?_;rfl
 ·have e1:(a.pred==b.pred)=false:=Qfa;have e3:decide (a.pred=b.pred/\a.args=b.args/\a.elem=b.elem)=false:=Qfa;rw[e3];refine gf @e1 ?_;rfl
def fL(l:List Sp)(m:Int):Bool:=decide (0<=m)&&(decide (m<64)&&(uQ l).testBit m.toNat)
abbrev Ln:=List Vl×List (Option Fa)
structure Tld where
 k:List Vl
 g:Fa
 a:Int
 b:Int
def Tld.hit(x:Tld)(k:List Vl)(m:Nat):Prop:=x.k=k/\x.a<=(m:Int)/\(m:Int)<x.b
def zaM(g:Fa)(M:List (Option Fa))(a b:Int):List (Option Fa):=(List.range 64).map fun i:Nat=>if a<=(i:Int)/\(i:Int)<b then some g else M.getD i none
abbrev zyH:List (Option Fa):=List.replicate 64 none
theorem bS(g:Fa)(M:List (Option Fa))(a b:Int):(zaM g M a b).length=64:=by simp[zaM]
theorem ztH{g:Fa}{M:List (Option Fa)}{a b:Int}{i:Nat}(h:i<64):(zaM g M a b).getD i none=if a<=(i:Int)/\(i:Int)<b then some g else M.getD i none:=by
 unfold zaM;rw[Qb,Qu,Kc h];rfl
theorem zuY{x y:List (Option Fa)}(hx:x.length=64)(hy:y.length=64)(h: ∀i,i<64->x.getD i none=y.getD i none):x=y:=by
 refine Zc Qf0 fun i h1 h2=> ?_;have:=h i Qf0
 rwa [Qb,Qa h1,Qb,Qa h2] at this
theorem zuR{g:Fa}{M:List (Option Fa)}{a b:Int}(hM:M.length=64)(h:b<=a):zaM g M a b=M:=
 zuY (bS ..) hM fun i hi=>by rw[ztH hi,Qi Qf0]
theorem zuQ{g:Fa}{M:List (Option Fa)}{a:Int}{m:Nat}(h:a<=(m:Int))(hm:m<64):(zaM g M a (m:Int)).set m (some g)=zaM g M a ((m:Int)+1):=
 zuY (by rw[Xb,bS]) (bS ..) fun i hi=>by
  rw[Qb,Qq,ztH hi];by_cases e:m=i
  ·subst e;rw[Qj rfl,Qj (by rw[bS];exact hi),Qj ⟨h,Qf0⟩];rfl
  ·rw[Qi e,<-Qb,ztH hi];by_cases q:a<=(i:Int)/\(i:Int)<(m:Int)
   ·rw[Qj q,Qj ⟨q.1,Qf0⟩]
   ·rw[Qi q,Qi fun w=>q ⟨w.1,Qf0⟩]
noncomputable def iD:List Ln->List Vl->List (Option Fa)
 | [],_=>zyH
 |x::T,k=>if ze8 (x.1=k)=true then x.2 else iD T k
noncomputable def zk7(T:List Ln)(k:List Vl):List Ln:=if ze8 (k∈T.map (·.1))=true then T else T++[(k,zyH)]
noncomputable def zk4(T:List Ln)(k:List Vl)(f:List (Option Fa)->List (Option Fa)):List Ln:=T.map fun x=>if ze8 (x.1=k)=true then(x.1,f x.2) else x
noncomputable def zxH(T:List Ln)(c:Tld):List Ln:=zk4 (zk7 T c.k) c.k fun M=>zaM c.g M c.a c.b
theorem zuU(T:List Ln)(k:List Vl)(f:List (Option Fa)->List (Option Fa)):(zk4 T k f).map (·.1)=T.map (·.1):=by
 unfold zk4;rw[Zg];refine Yq fun x _=> ?_;simp only[Function.comp_apply];split<;>rfl
theorem zsO(T:List Ln)(k:List Vl):(zk7 T k).map (·.1)=if ze8 (k∈T.map (·.1))=true then T.map (·.1) else T.map (·.1)++[k]:=by
 unfold zk7;split
 ·rfl
 ·rw[Xq];rfl
theorem zzX(T:List Ln)(c:Tld)(k:List Vl):k∈(zxH T c).map (·.1)↔k∈T.map (·.1)\/k=c.k:=by
 unfold zxH;rw[zuU,zsO];split
 ·rename_i q;exact⟨.inl,fun h=>h.elim id fun e=>e▸zoX.1 q⟩
 ·rw[Qo,Qp]
def LnW(T:List Ln):Prop:=(T.map (·.1)).Nodup/\ ∀x∈T,x.2.length=64
theorem LnW.new{T:List Ln}(h:LnW T)(k:List Vl):LnW (zk7 T k):=by
 unfold LnW;rw[zsO];unfold zk7;split
 ·exact h
 ·rename_i q;refine⟨Za.2 ⟨h.1,Qf1,fun a ha b hb=> ?_⟩,fun x hx=> ?_⟩
  ·rw[Qp] at hb;subst hb;exact fun e=>q (zoX.2 (e▸ha))
  ·exact Qe5
theorem LnW.upd{T:List Ln}(h:LnW T)(k:List Vl){f:List (Option Fa)->List (Option Fa)}(hf: ∀M:List (Option Fa),M.length=64->(f M).length=64):LnW (zk4 T k f):=by
 refine⟨by rw[zuU];exact h.1,fun x hx=> ?_⟩;exact Qeb
theorem LnW.s{T:List Ln}(h:LnW T)(c:Tld):LnW (zxH T c):=(h.new c.k).upd c.k fun M _=>bS ..
theorem zsB{T:List Ln}(h:LnW T)(k:List Vl):(iD T k).length=64:=by
 induction T with
 |nil=>simp[iD]
 |cons x T ih=>
  unfold iD;split
  ·exact h.2 x (Qe ..)
  ·exact ih ⟨(Zs.1 h.1).2,fun y hy=>h.2 y (Qf _ hy)⟩
theorem zxO{k:List Vl}: ∀{T:List Ln},k∉T.map (·.1)->iD T k=zyH
 | [],_=>rfl
 |x::T,h=>by
  rw[Xa,Qw,not_or] at h;unfold iD;rw[uA fun e=>h.1 e.symm,Qi Qf2];exact zxO h.2
theorem zxN: ∀{T:List Ln},(T.map (·.1)).Nodup-> ∀{x:Ln},x∈T->iD T x.1=x.2
 | y::T,hn,x,hx=>by
  rw[Xa,Zs] at hn;unfold iD;rcases Qw.1 hx with rfl|hx
  ·rw[pO rfl,Qj rfl]
  ·rw[uA fun e=>hn.1 (by rw[e];exact Zi hx),Qi Qf2];exact zxN hn.2 hx
theorem zv7(f:List (Option Fa)->List (Option Fa))(k k':List Vl): ∀{T:List Ln},k∈T.map (·.1)\/k'≠k->iD (zk4 T k f) k'=if ze8 (k'=k)=true then f (iD T k') else iD T k'
 | [],h=>by
  rcases h with h|h
  ·cases h
  ·rw[uA h,Qi Qf2];rfl
 | x::T,h=>by
  have e:zk4 (x::T) k f=(if ze8 (x.1=k)=true then(x.1,f x.2) else x)::zk4 T k f:=rfl;rw[e];unfold iD;have e1:(if ze8 (x.1=k)=true then(x.1,f x.2) else x).1=x.1:=by split<;>rfl
  rw[e1];by_cases q:x.1=k'
  ·rw[pO q,Qj rfl,Qj rfl];by_cases q2:k'=k
   ·rw[pO q2,Qj rfl,pO (q.trans q2),Qj rfl]
   ·simp only[uA q2,uA (P:=x.1=k) fun w=>q2 (q.symm.trans w),Zo,Wr]
  ·simp only[uA q,Zo,Wr];refine zv7 f k k' ?_;rcases h with h|h
   ·rw[Xa,Qw] at h;rcases h with h|h
    ·exact .inr fun w=>q (h.symm.trans w.symm)
    ·exact .inl h
   ·exact .inr h
theorem zyR(T:List Ln)(k k':List Vl):iD (zk7 T k) k'=iD T k':=by
 unfold zk7;split
 ·rfl
 ·rename_i q;replace q:k∉T.map (·.1):=fun w=>q (zoX.2 w)
  induction T with
  |nil=>unfold iD;show(if ze8 (k=k')=true then zyH else iD [] k')=zyH;split<;>rfl
  |cons x T ih=>
   rw[Xx];unfold iD;rw[ih fun w=>q (by rw[Xa];exact Qf _ w)]
theorem ya3(T:List Ln)(c:Tld)(k:List Vl){m:Nat}(hm:m<64):(iD (zxH T c) k).getD m none=if ze8 (c.hit k m)=true then some c.g else(iD T k).getD m none:=by
 unfold zxH;rw[zv7 _ _ _ (.inl ?_),zyR]
 ·by_cases q:k=c.k
  ·subst q;rw[pO rfl,Qj rfl,ztH hm];by_cases q2:c.a<=(m:Int)/\(m:Int)<c.b
   ·rw[Qj q2,pO ⟨rfl,q2⟩,Qj rfl]
   ·rw[Qi q2,uA fun w=>q2 w.2,Qi Qf2]
  ·rw[uA q,Qi Qf2,uA fun w=>q w.1.symm,Qi Qf2]
 ·rw[zsO];split
  ·rename_i q;exact zoX.1 q
  ·simp
theorem yaQ: ∀(L:List Tld){T:List Ln},LnW T->LnW (L.foldl zxH T)
 | [],_,h=>h
 |c::L,_,h=>yaQ L (h.s c)
theorem zvH(k:List Vl): ∀(L:List Tld)(T:List Ln),k∈(L.foldl zxH T).map (·.1)↔k∈T.map (·.1)\/ ∃c∈L,k=c.k
 | [],T=>by simp
 | c::L,T=>by
  rw[Yw,zvH k L,zzX];constructor
  ·rintro ((h|h)|⟨d,hd,h⟩)
   ·exact .inl h
   ·exact .inr ⟨c,Qe ..,h⟩
   ·exact .inr ⟨d,Qf _ hd,h⟩
  ·rintro (h|⟨d,hd,h⟩)
   ·exact .inl (.inl h)
   ·rcases Qw.1 hd with rfl|hd
    ·exact .inl (.inr h)
    ·exact .inr ⟨d,hd,h⟩
theorem zy9{k:List Vl}{m:Nat}(hm:m<64){o:Option Fa}: ∀(L:List Tld)(T:List Ln),(∀c∈L,c.hit k m->some c.g=o)->((iD T k).getD m none=o\/(iD T k).getD m none=none/\ ∃c∈L,c.hit k m)->(iD (L.foldl zxH T) k).getD m none=o
 | [],T,_,h=>by
  rcases h with h|⟨-,c,hc, -⟩
  ·exact h
  ·cases hc
 | c::L,T,h1,h2=>by
  rw[Yw];refine zy9 hm L _ (fun d hd=>h1 d (Qf _ hd)) ?_;rw[ya3 T c k hm];by_cases q:c.hit k m
  ·rw[pO q,Qj rfl];exact .inl (h1 c (Qe ..) q)
  ·rw[uA q,Qi Qf2];rcases h2 with h2|⟨h2,d,hd,h3⟩
   ·exact .inl h2
   ·rcases Qw.1 hd with rfl|hd
    ·exact absurd h3 q
    ·exact .inr ⟨h2,d,hd,h3⟩
def yaW:Option Fa->List PV
 |none=>[yQ ⟨#[]⟩,i64 0,bo false]
 |some g=>[yQ (cS g.args),i64 g.elem,bo true]
def ybC(i:Int):Option Fa->List PV
 |none=>[i64 i,.nil,i64 (-1)]
 |some g=>[i64 g.pred,pH g.args,i64 g.elem]
theorem zzU(o:Option Fa):(yaW o).length=3:=by cases o<;>rfl
theorem zz0(i:Int)(o:Option Fa):(ybC i o).length=3:=by cases o<;>rfl
def zwP(key:List Vl)(S F:List (List PV)):List PV:=pH key::(S.flatten++F.flatten)
def zuI(i:Int)(key:List Vl)(S F:List (Option Fa)):List PV:=zwP key (S.map yaW) (F.map (ybC i))
structure L3(S:List (List PV)):Prop where
 n:S.length=64
 k: ∀e∈S,e.length=3
theorem zsE: ∀{S:List (List PV)},(∀e∈S,e.length=3)->S.flatten.length=S.length*3
 | [],_=>rfl
 |e::S,h=>by
  have:=zsE fun x hx=>h x (Qf _ hx);have:=h e (Qe ..);rw[Yl,Ql,Qn];omega
theorem zxA: ∀{S:List (List PV)}(_: ∀e∈S,e.length=3){m:Nat}(h:m<S.length)(T:List PV),((S.flatten++T).drop (m*3)).take 3=S[m]
 |e::S,k,0,h,T=>by
  have:=k e (Qe ..);simp only[Yl,Ki,List.drop_zero,Qv,Ue];exact List.take_left' this
 |e::S,k,m+1,h,T=>by
  have e1:=k e (Qe ..);have:=zxA (fun x hx=>k x (Qf _ hx)) (m:=m) Qfn T;rw[Yl,Qv,show(m+1)*3=e.length+m*3 by omega,<-Wy,Kh,this];rfl
theorem yeL: ∀{S:List (List PV)}(_: ∀e∈S,e.length=3){m:Nat}(_:m<S.length)(x:List PV)(_:x.length=3)(T:List PV),(S.flatten++T).take (m*3)++(x++(S.flatten++T).drop (m*3+3))=(S.set m x).flatten++T
 |e::S,k,0,h,x,hx,T=>by
  have:=k e (Qe ..);simp only[Yl,Ki,Uh,Yj,Yd,Qv,Xn];rw[List.drop_left' this]
 |e::S,k,m+1,h,x,hx,T=>by
  have e1:=k e (Qe ..);have:=yeL (fun y hy=>k y (Qf _ hy)) (m:=m) Qfn x hx T;rw[Yl,Qv,show(m+1)*3+3=e.length+(m*3+3) by omega,show(m+1)*3=e.length+m*3 by omega,<-Wy,Kh,Xl,Yl,Qv,<-this,List.take_append];simp[Yo]
theorem znQ{key:List Vl}{S F:List (List PV)}(hS:L3 S)(hF:L3 F):(zwP key S F).length=385:=by
 unfold zwP;rw[Qn,Ql,zsE hS.k,zsE hF.k,hS.n,hF.n]
theorem ya4{key:List Vl}{S F:List (List PV)}(hS:L3 S){m:Nat}(hm:m<S.length):((zwP key S F).drop (1+m*3)).take 3=S[m]:=by
 unfold zwP;rw[Nat.add_comm,Wg];exact zxA hS.k hm _
theorem ya5{key:List Vl}{S F:List (List PV)}(hS:L3 S)(hF:L3 F){m:Nat}(hm:m<F.length):((zwP key S F).drop (193+m*3)).take 3=F[m]:=by
 unfold zwP;have h1:S.flatten.length=192:=by rw[zsE hS.k,hS.n]
 rw[show 193+m*3=(S.flatten.length+m*3)+1 by omega,Wg,<-Wy,Kh];have:=zxA hF.k hm []
 rwa [Xz] at this
theorem zxM{key:List Vl}{S F:List (List PV)}(hS:L3 S){m:Nat}(hm:m<S.length)(x:List PV)(hx:x.length=3):(zwP key S F).take (1+m*3)++(x++(zwP key S F).drop (1+m*3+3))=zwP key (S.set m x) F:=by
 unfold zwP;rw[show 1+m*3+3=(m*3+3)+1 by omega,Nat.add_comm 1,List.take_succ_cons,Wg,Xx,yeL hS.k hm x hx]
theorem yeJ{key:List Vl}{S F:List (List PV)}(hS:L3 S)(hF:L3 F){m:Nat}(hm:m<F.length)(x:List PV)(hx:x.length=3):(zwP key S F).take (193+m*3)++(x++(zwP key S F).drop (193+m*3+3))=zwP key S (F.set m x):=by
 unfold zwP;have h1:S.flatten.length=192:=by rw[zsE hS.k,hS.n]
 have:=yeL hF.k hm x hx [];rw[Xz,Xz] at this;rw[show 193+m*3+3=S.flatten.length+(m*3+3)+1 by omega,show 193+m*3=(S.flatten.length+m*3)+1 by omega,List.take_succ_cons,Wg,Xx,<-Wy,Kh,<-this,List.take_append];simp[Yo]
theorem zvA{M:List (Option Fa)}(h:M.length=64):L3 (M.map yaW):=⟨by simpa using h,fun e he=>by obtain⟨o, -,rfl⟩:=Xf.1 he;exact zzU o⟩
theorem zwM{i:Int}{M:List (Option Fa)}(h:M.length=64):L3 (M.map (ybC i)):=⟨by simpa using h,fun e he=>by obtain⟨o, -,rfl⟩:=Xf.1 he;exact zz0 i o⟩
theorem L3.set{S:List (List PV)}(h:L3 S)(m:Nat){x:List PV}(hx:x.length=3):L3 (S.set m x):=⟨by rw[Xb];exact h.n,fun e he=>(Ze he).elim (h.k e) fun w=>w▸hx⟩
def st0:List (List PV):=List.replicate 64 [yQ ⟨#[]⟩,i64 0,bo false]
def fo0:List (List PV):=List.replicate 64 [i64 0,.nil,i64 0]
theorem buLn(key:List Vl):kB prog 205 [(0,pH key)]=some (.agg (zwP key st0 fo0)):=Qf3
attribute [-go_sem] kB
theorem buFa(a b:Int):kB prog 52 [(0,i64 a),(2,i64 b)]=some (.agg [i64 a,.nil,i64 b]):=Qf3
theorem yaP{α:Type}(f:Option Fa->α):zyH.map f=List.replicate 64 (f none):=List.map_replicate ..
theorem zxK{α:Type}(a b:α): ∀(j n:Nat),j<n->(List.replicate j a++List.replicate (n-j) b).set j a=List.replicate (j+1) a++List.replicate (n-(j+1)) b
 |0,n+1,_=>by simp[Ww]
 |j+1,n+1,h=>by
  have:=zxK a b j n Qf0;rw[Ww,Xx,Xl,Nat.add_sub_add_right,this,Ww (n:=j+1),Xx,Nat.add_sub_add_right]
theorem zy7(i:Int)(key:List Vl)(h:Heap):ECall prog G0 110 [i64 i,pH key] h fun p h'=>p= .ptr h.length 0/\h'=h++[.var 205 (zuI i key zyH zyH)]:=by
 refine pv func110 22 false Qf3 rfl rfl ?_;refine g2 ?_;have hS:L3 st0:=⟨by simp[st0],fun e he=>by rw[(List.mem_replicate.1 he).2];rfl⟩
 refine gf @buLn ?_;refine zO 64 (K4 (.k:: .k:: .d:: .k:: .k:: .k:: .v::D9 (.d:: .k::[]))) (own:=false) (fun j (s:List (List PV))=>[i64 j]) (fun s=>h++[.var 205 (zwP key st0 s)]) (fun j s=>s=List.replicate j [i64 i,.nil,i64 (-1)]++List.replicate (64-j) [i64 0,.nil,i64 0]) fo0 rfl rfl rfl Qf0 ?_ ?_
 ·rintro s rfl;refine gm ?_;have h64:(((64:Nat):Int)<64)=False:=Qf1;have hfin:h++[Blk.var 205 (zwP key st0 (List.replicate 64 [i64 i,.nil,i64 (-1)]++List.replicate (64-64) [i64 0,.nil,i64 0]))]=h++[.var 205 (zuI i key zyH zyH)]:=by
   unfold zuI;rw[yaP,yaP];rfl
  rw[hfin];refine gf @h64 ?_;exact⟨rfl,rfl⟩
 ·rintro j s hj hw rfl;refine gm ?_;have hj6:((j:Int)<64)=True:=Yk Qf0;have hF:L3 (List.replicate j [i64 i,.nil,i64 (-1)]++List.replicate (64-j) [i64 0,.nil,i64 0]):=⟨by simp;omega,fun e he=>by rcases Qo.1 he with he|he<;>rw[(List.mem_replicate.1 he).2]<;>rfl⟩
  have hl:=znQ (key:=key) hS hF;have hsp:=yeJ (key:=key) hS hF (m:=j) (by rw[hF.n];exact hj) [i64 i,.nil,i64 (-1)] rfl;rw[zxK _ _ j 64 hj] at hsp;obtain⟨F2,hF2⟩: ∃F2,F2=List.replicate (j+1) [i64 i,.nil,i64 (-1)]++List.replicate (64-(j+1)) [i64 0,.nil,i64 0]:=⟨_,rfl⟩
  rw[<-hF2] at hsp;generalize List.replicate j [i64 i,.nil,i64 (-1)]++List.replicate (64-j) [i64 0,.nil,i64 0]=F at*;have h3:(193+j*3+3<=(zwP key st0 F).length)=True:=Yk Qf0;refine gf (a8 @hj6 @hw @buFa @rU @qK @zB @hl @hsp) ?_;refine⟨F2,hF2,rfl,rfl,?_⟩;rw[<-hsp];rfl
attribute [go_sem] kB
@[go_sem] def UMw2f108.pl:Nat->DPlan
 |3=>⟨[⟨7,0,[1006]⟩,yA,yB,yA,⟨6,0,[1006]⟩,yC],znU,0⟩
 |7=>⟨[yB,yA,yB,yA,yA,uX,yA,yA,yA,yA,yA,yA,yC],yN,0⟩
 |8=>⟨[yB,yA,yB,yA,yB,yA,yA,yA,yA,yA,yA,yC],xF,0⟩
 |_=>⟨[],[],0⟩
@[go_sem] def zdV:DPlan:=⟨[yB,yA,yB,yA,yA,uX,yA,yA,yA,yA,yA,yA,yC],yN,0⟩
@[go_sem] def zdA:DPlan:=⟨[yB,yA,yB,yA,yB,yA,yA,yA,yA,yA,yA,yC],xF,0⟩
theorem tmN:kC prog 112=some (9,.string,117):=Qf3
theorem ziN:(prog.info? 117).bind (·.zero)=some (.pointer none):=Qf3
theorem zxS(r o:Nat):za2 (α:=Prop) prog 117 (.ptr r o) (.sc (.pointer none))=some (false,True):=Qf3
theorem zvN:za2 (α:=Prop) prog 117 (.sc (.pointer none)) (.sc (.pointer none))=some (true,True):=Qf3
theorem buSt(a:BA)(b:Int):kB prog 201 [(0,yQ a),(1,i64 b),(2,bo true)]=some (.agg [yQ a,i64 b,bo true]):=Qf3
theorem buF3(a:Int)(t:List Vl)(b:Int):kB prog 52 [(0,i64 a),(1,pH t),(2,i64 b)]=some (.agg [i64 a,pH t,i64 b]):=Qf3
abbrev LnE:=Ln×Nat
abbrev zt7(es:List LnE):NM:=es.map fun e=>(Value.string (cS e.1.1),PV.ptr e.2 0)
structure Lns(i:Int)(m:Nat)(es:List LnE)(h:Heap):Prop where
 a:h[m]? =some (.map (zt7 es))
 l: ∀e∈es,e.1.2.length=64/\h[e.2]? =some (.var 205 (zuI i e.1.1 e.1.2 e.1.2))
 k: ∀e∈es,e.1.1.length<=1048576/\ ∀v∈e.1.1,zoC v=true
 d:(es.map (·.1.1)).Nodup
 r:(es.map (·.2)).Nodup
theorem Lns.keep{i:Int}{m:Nat}{es:List LnE}{h h':Heap}(hL:Lns i m es h)(k1:h'[m]? =some (.map (zt7 es)))(k2: ∀e∈es, ∀b,h[e.2]? =some b->h'[e.2]? =some b):Lns i m es h':=
 ⟨k1,fun e he=>⟨(hL.l e he).1,k2 e he _ (hL.l e he).2⟩,hL.k,hL.d,hL.r⟩
theorem Lns.app{i:Int}{m:Nat}{es:List LnE}{h:Heap}(hL:Lns i m es h)(B:Heap):Lns i m es (h++B):=hL.keep (yJ _ _ _ _ hL.a) fun _ _ _ hb=>yJ _ _ _ _ hb
def KpB(lo:Nat)(h h':Heap):Prop:= ∀(r:Nat)(b:Blk),h[r]? =some b->(r<lo\/(∀cs,b≠ .var 205 cs)/\ ∀es,b≠ .map es)->h'[r]? =some b
theorem KpB.refl(lo:Nat)(h:Heap):KpB lo h h:=fun _ _ h _=>h
theorem KpB.trans{lo:Nat}{h h1 h2:Heap}(a:KpB lo h h1)(b:KpB lo h1 h2):KpB lo h h2:=fun r c hc n1=>b r c (a r c hc n1) n1
theorem KpB.app(lo:Nat)(h B:Heap):KpB lo h (h++B):=fun r b hr _=>yJ h B r b hr
theorem zvG(es:List LnE):(zt7 es).all (fun x=>pF .string x.1)=true:=by
 exact Qdp
theorem zsC{h:Heap}{r:Nat}{es:List LnE}{s:BA}{j:Nat}{p:PV}(hr:h[r]? =some (.map (zt7 es)))(hm:vV (.string s) (zt7 es) 0=some (j,p)):xQ (α:=Prop) prog h 112 false (.mp r) (yQ s)=some (p,True):=by
 unfold xQ;rw[tmN];simp only[oS,hr,ziN,zm1,zvG,hm,Jl,Wk,vL,Zo,Wr]
theorem zv8{h:Heap}{r:Nat}{es:List LnE}{s:BA}(hr:h[r]? =some (.map (zt7 es)))(hm:vV (.string s) (zt7 es) 0=none):xQ (α:=Prop) prog h 112 false (.mp r) (yQ s)=some (.sc (.pointer none),True):=by
 unfold xQ;rw[tmN];simp only[oS,hr,ziN,zm1,zvG,hm,Jl,Wk,vL,Zo,Wr,zaS]
theorem zvF{es:List LnE}(hk: ∀e∈es, ∀v∈e.1.1,zoC v=true){key:List Vl}(hv: ∀v∈key,zoC v=true): ∀j,(vV (.string (cS key)) (zt7 es) j=none/\key∉es.map (·.1.1))\/ ∃(i:Nat)(e:LnE),vV (.string (cS key)) (zt7 es) j=some (j+i,PV.ptr e.2 0)/\es[i]? =some e/\e.1.1=key:=by
 induction es with
 |nil=>exact fun j=> .inl ⟨rfl,Qf1⟩
 | cons e es ih=>
  intro j;have hK: ∀v∈key,VvK v:=fun v h=>(zqC v).2 (hv v h);have hE: ∀v∈e.1.1,VvK v:=fun v h=>(zqC v).2 (hk e (Qe ..) v h);simp only[zt7,Xa,vV];by_cases q:cS key=cS e.1.1
  ·have hq:=zwF hK hE q;rw[Qj (by simp[sY,q])];exact .inr ⟨0,e,rfl,rfl,hq.symm⟩
  ·have hq:key≠e.1.1:=fun w=>q (by rw[w]);rw[Qi (by simp[sY,q])];rcases ih (fun x hx=>hk x (Qf _ hx)) (j+1) with ⟨h1,h2⟩|⟨i,x,h1,h2,h3⟩
   ·exact .inl ⟨h1,by rw[Qw,not_or];exact⟨hq,h2⟩⟩
   ·exact .inr ⟨i+1,x,by rw[h1];congr 2;omega,h2,h3⟩
theorem Lns.upd{i:Int}{m:Nat}{es:List LnE}{h:Heap}(hL:Lns i m es h){j:Nat}{e:LnE}(he:es[j]? =some e){M:List (Option Fa)}(hM:M.length=64):Lns i m (es.set j ((e.1.1,M),e.2)) (h.set e.2 (.var 205 (zuI i e.1.1 M M))):=by
 have hj:=(gsi he).1;have hje:es[j]=e:=(gsi he).2;have hem:=Qk he;have hr:=(hL.l e hem).2;have hrl:=(gsi hr).1;have hrm:e.2≠m:=fun w=>by rw[w,hL.a] at hr;cases hr
 have hmap:zt7 (es.set j ((e.1.1,M),e.2))=zt7 es:=by
  refine Zc Qf1 fun q h1 h2=> ?_;simp only[zt7,Xu,Ul];split
  ·rename_i w;subst w;rw[hje]
  ·rfl
 have hmp: ∀{β:Type}(f:List Vl->Nat->β),(es.set j ((e.1.1,M),e.2)).map (fun x=>f x.1.1 x.2)=es.map fun x=>f x.1.1 x.2:=fun f=>by
  refine Zc Qf1 fun q h1 h2=> ?_;simp only[Xu,Ul];split
  ·rename_i w;subst w;rw[hje]
  ·rfl
 refine⟨?_,fun x hx=> ?_,fun x hx=> ?_,?_,?_⟩
 ·rw[Qd hrm,hmap];exact hL.a
 ·obtain⟨q,hq,rfl⟩:=Qy hx;rw[Xb] at hq;rw[Ul];split
  ·exact⟨hM,Qh hrl⟩
  ·rename_i w;obtain⟨a,b⟩:=hL.l es[q] (Qc hq);refine⟨a,?_⟩;rw[Qd]
   ·exact b
   ·intro w2;have hd:=Zd.1 hL.r;rcases Jy j q with g|g|g
    ·exact hd j q Qfv Qfy g (by simp only[Xu];rw[hje];exact w2)
    ·exact w g
    ·exact hd q j Qfy Qfv g (by simp only[Xu];rw[hje];exact w2.symm)
 ·obtain⟨q,hq,rfl⟩:=Qy hx;rw[Xb] at hq;rw[Ul];split
  ·exact hL.k e hem
  ·exact hL.k _ (Qc hq)
 ·rw[hmp fun a _=>a];exact hL.d
 ·rw[hmp fun _ b=>b];exact hL.r
theorem Lns.new{i:Int}{m:Nat}{es:List LnE}{h:Heap}(hL:Lns i m es h){key:List Vl}(hl:key.length<=1048576)(hv: ∀v∈key,zoC v=true)(hn:key∉es.map (·.1.1)):Lns i m (es++[((key,zyH),h.length)]) ((h++[Blk.var 205 (zuI i key zyH zyH)]).set m (Blk.map (zt7 es++[(Value.string (cS key),PV.ptr h.length 0)]))):=by
 have hml:=(gsi hL.a).1;have hlt: ∀e∈es,e.2<h.length:=fun e he=>(gsi (hL.l e he).2).1;refine⟨?_,fun e he=> ?_,fun e he=> ?_,?_,?_⟩
 ·rw[Qh Qfh,zt7,zt7,Xq];rfl
 ·have hem:e.2≠m:=fun w=>by
   rcases Qo.1 he with he|he
   ·have:=(hL.l e he).2;rw[w,hL.a] at this;cases this
   ·rw[Qp] at he;subst he;dsimp only at w;omega
  rw[Qd (Ne.symm hem)];rcases Qo.1 he with he|he
  ·exact⟨(hL.l e he).1,yJ _ _ _ _ (hL.l e he).2⟩
  ·rw[Qp] at he;subst he;exact⟨Qf1,zA _ _⟩
 ·rcases Qo.1 he with he|he
  ·exact hL.k e he
  ·rw[Qp] at he;subst he;exact⟨hl,hv⟩
 ·rw[Xq,Za];exact⟨hL.d,Qf1,fun a ha b hb=>by simp at hb;subst hb;exact fun w=>hn (w▸ha)⟩
 ·rw[Xq,Za];refine⟨hL.r,Qf1,fun a ha b hb=> ?_⟩;simp at hb;subst hb;obtain⟨e,he,rfl⟩:=Xf.1 ha;have:=hlt e he;omega
theorem zv6{T:List Ln}(hd:(T.map (·.1)).Nodup){j:Nat}{x:Ln}(hj:T[j]? =some x)(f:List (Option Fa)->List (Option Fa)):zk4 T x.1 f=T.set j (x.1,f x.2):=by
 have hjl:=(gsi hj).1;have hje:T[j]=x:=(gsi hj).2;refine Zc (by simp[zk4]) fun q h1 h2=> ?_;have hq:q<T.length:=by simpa [zk4] using h1
 simp only[zk4,Xu,Ul];by_cases w:j=q
 ·subst w;rw[Qj rfl,hje,pO rfl,Qj rfl]
 ·rw[Qi w,uA fun w2=> ?_,Qi Qf2];have hp:=Zd.1 hd;rcases Jy j q with g|g|g
  ·exact hp j q Qg9 Qfy g (by simp only[Xu];rw[hje];exact w2.symm)
  ·exact w g
  ·exact hp q j Qfy Qg9 g (by simp only[Xu];rw[hje];exact w2)
theorem getM{i:Int}{m:Nat}{es:List LnE}{h:Heap}(hL:Lns i m es h){j:Nat}{key:List Vl}{M:List (Option Fa)}{r:Nat}(hj:es[j]? =some ((key,M),r)):vV (.string (cS key)) (zt7 es) 0=some (j,.ptr r 0):=by
 have hjl:=(gsi hj).1;rcases zvF (fun e he=>(hL.k e he).2) (hL.k _ (Qk hj)).2 0 with ⟨-,h2⟩|⟨q,e,h1,h2,h3⟩
 ·exact absurd (Xf.2 ⟨_,Qk hj,rfl⟩) h2
 ·have hq:q=j:=by
   have hp:=Zd.1 hL.d;have hql:=(gsi h2).1;have e1:=(gsi h2).2;have e2:=(gsi hj).2;rcases Jy q j with g|g|g
   ·exact absurd (by rw[Xu,Xu,e1,e2];exact h3) (hp q j (by simpa using hql) Qg9 g)
   ·exact g
   ·exact absurd (by rw[Xu,Xu,e1,e2];exact h3.symm) (hp j q Qg9 (by simpa using hql) g)
  subst hq;rw[hj] at h2;cases h2;rw[h1,Yd]
theorem setE(l:List LnE)(j:Nat)(x:LnE):(l.set j x).map (·.1)=(l.map (·.1)).set j x.1:=Ky ..
attribute [-go_sem] only
attribute [-go_sem] kB
attribute [-go_sem] splice
open UMw2f108 in
theorem set_x(p:Pg)(hp:p.ok)(i:Nat)(hi:i<p.pk.length)(m rp rq ro:Nat)(lo:Nat)(es:List LnE)(h:Heap)(hL:Lns i m es h)(hlo:lo<=m/\ ∀e∈es,lo<=e.2)(hlh:lo<=h.length)(hrp:h[rp]? =some (.var 27 p.c))(hrq:h[rq]? =some (.var 3 [i64 i]))(hro:h[ro]? =some (.var 112 [.mp m]))
  (args:List Vl) (ha:args.length<=1048576) (hv: ∀v∈args,zoC v=true) (hk0:0<=p.pk[i].key) (hk1:p.pk[i].key<=args.length) (e a b:Int) (ha0:0<=a) (hab:a<b) (hb:b<=64):
  ECall prog G0 108 [pH args,i64 e,i64 a,i64 b,.ptr rp 0,.ptr rq 0,.ptr ro 0] h fun v h'=>v= .tup []/\ ∃es',es'.map (·.1)=zxH (es.map (·.1)) ⟨args.take p.pk[i].key.toNat,⟨i,args,e⟩,a,b⟩/\Lns i m es' h'/\(∀x∈es',lo<=x.2)/\KpB lo h h'/\es'.length<=es.length+1:=by
 refine pv func108 63 false Qf3 rfl rfl ?_;refine g2 ?_;have hx:=zG (f:=Pd.c) [] hi;generalize p.pk[i]=x at*;obtain⟨k,hk⟩:=Qm hk0;have hkn:x.key.toNat=k:=Qf0;rw[hkn];have hkl:k<=args.length:=Qf0;have hkl':((k:Int)<=(args.length:Int))=True:=Yk Qf0;obtain⟨key,hkey⟩: ∃key,key=args.take k:=⟨_,rfl⟩
 rw[<-hkey];have hkeyl:key.length<=1048576:=by rw[hkey,Xk];omega
 have hkeyv: ∀v∈key,zoC v=true:=fun v h=>hv v (by rw[hkey] at h;exact Zk h);have hmt:(args.map Vl.c).take k=key.map Vl.c:=by rw[hkey,xO]
 have Z:=(a8 @hrp @hrq @hx @hi @hk @hkl' @hmt @zB)
 have henc:=ztZ key hkeyl hkeyv;have henc2:=ztZ args ha hv;refine gf Z ?_;(refine g1f Z ?_;refine zC (henc.call zK Qf1 _) (yf0 ?_);rintro p2 h2 ⟨rfl,e2⟩);replace e2:=e2.symm;subst e2;have hrol:(ro<h.length)=True:=Yk (gsi hro).1;have hrm: ∀e∈es,e.2≠m:=fun e he w=>by have:=(hL.l e he).2;rw[w,hL.a] at this;cases this
 rcases zvF (fun e he=>(hL.k e he).2) hkeyv 0 with ⟨hm,hkn2⟩|⟨j,e0,hm,hj,he0⟩
 ·have hlk:=zv8 hL.a hm;(repeat(first|refine gz ?_|(refine gn ?_;intro zs zh;(try simp only[go_sem,hro,hlk,zvN] at zh);subst zh;refine gv ?_)|refine zQ zdV _ 7 Qf3 ?_|refine zQ zdA _ 8 Qf3 ?_));refine zQ ⟨[⟨7,0,[1006]⟩,⟨0,0,[]⟩,⟨1,0,[]⟩,⟨0,0,[]⟩,⟨6,0,[1006]⟩,⟨4,0,[]⟩],[0,1,2,3,4,5],0⟩ _ 3 Qf3 ?_;(repeat(first|refine gz ?_|(refine gn ?_;intro zs zh;(try simp only[go_sem,hrq,hro,oA,hrol] at zh);subst zh;refine gv ?_)|refine zQ zdV _ 7 Qf3 ?_|refine zQ zdA _ 8 Qf3 ?_));obtain⟨N,hN⟩: ∃N,N=zyH:=⟨_,rfl⟩
  have hne:=zy7 i key h;have hnew:=hL.new hkeyl hkeyv hkn2;rw[<-hN] at hne hnew;obtain⟨B,hB⟩: ∃B,B=Blk.var 205 (zuI i key N N):=⟨_,rfl⟩
  rw[<-hB] at hne hnew;have hmA:(h++[B])[m]? =some (.map (zt7 es)):=yJ _ _ _ _ hL.a;have hroA:(h++[B])[ro]? =some (.var 112 [.mp m]):=yJ _ _ _ _ hro;have hap:=zvG es;(refine yf1 (a4 @hrq @hro @oA @hrol) ?_;refine xR rfl rfl (hne) (by
   rintro _ _ ⟨_,rfl⟩ k hk _;have hk:k∈[1006]:=hk;rw[Qp] at hk;subst hk;simp only[nu,hrol,Wk,Kw,Kv,show ¬(1006:Nat)<1000 by decide,Wr,show(1006:Nat)-1000=6 by decide];exact hroA.trans hro.symm) (yf0 ?_);intro p2 h2 hr2)
  obtain⟨rfl,rfl⟩:=hr2;(repeat(first|refine gz ?_|(refine gn ?_;intro zs zh;(try simp only[go_sem,hrq,hro,oA,tmN,hmA,hm,hap,zm1,kO] at zh);subst zh;refine gv ?_)|refine zQ zdV _ 7 Qf3 ?_|refine zQ zdA _ 8 Qf3 ?_));obtain⟨es1,hes1⟩: ∃es1:List LnE,es1=es++[((key,N),h.length)]:=⟨_,rfl⟩
  have hj1:es1[es.length]? =some ((key,N),h.length):=by rw[hes1];exact Wb
  have hT1:es1.map (·.1)=zk7 (es.map (·.1)) key:=by
   unfold zk7;rw[uA (by rw[Zg];exact hkn2),Qi Qf2,hes1,Xq,<-hN];rfl
  have hlo1:lo<=m/\ ∀x∈es1,lo<=x.2:=⟨hlo.1,fun x hx=>by
   rw[hes1] at hx;rcases Qo.1 hx with hx|hx
   ·exact hlo.2 x hx
   ·rw[Qp] at hx;subst hx;exact hlh⟩
  have hn1:es1.length<=es.length+1:=by rw[hes1];simp
  have hL1:Lns i m es1 ((h++[B]).set m (.map (zt7 es++[(Value.string (cS key),PV.ptr h.length 0)]))):=by rw[hes1];exact hnew
  have hmro:m≠ro:=fun w=>by have:=hL.a;rw[w,hro] at this;cases this
  have hmrq:m≠rq:=fun w=>by have:=hL.a;rw[w,hrq] at this;cases this
  have hK1:KpB lo h ((h++[B]).set m (.map (zt7 es++[(Value.string (cS key),PV.ptr h.length 0)]))):=fun q c hq hc=>by
   have:m≠q:=fun w=>by
    subst w;rw[hL.a] at hq;cases hq;rcases hc with hc|hc
    ·have:=hlo.1;omega
    ·exact hc.2 _ rfl
   rw[Qd this];exact yJ _ _ _ _ hq
  obtain⟨M,hMN⟩: ∃M,M=N:=⟨_,rfl⟩
  obtain⟨r,hrh⟩: ∃r,r=h.length:=⟨_,rfl⟩
  obtain⟨j1,hj1e⟩: ∃j1,j1=es.length:=⟨_,rfl⟩
  rw[<-hMN,<-hrh,<-hj1e] at hj1;have hro1:((h++[B]).set m (.map (zt7 es++[(Value.string (cS key),PV.ptr h.length 0)])))[ro]? =some (.var 112 [.mp m]):=by rw[Qd hmro];exact hroA
  have hrq1:((h++[B]).set m (.map (zt7 es++[(Value.string (cS key),PV.ptr h.length 0)])))[rq]? =some (.var 3 [i64 i]):=by rw[Qd hmrq];exact yJ _ _ _ _ hrq
  generalize hHd:(h++[B]).set m (.map (zt7 es++[(Value.string (cS key),PV.ptr h.length 0)]))=H at hL1 hK1 hro1 hrq1 ⊢
  have hLl:=hL1.l _ (Qk hj1);have hM:M.length=64:=hLl.1;have hHr:=hLl.2;dsimp only at hHr;have hrl:=(gsi hHr).1;have hnm:r≠m:=fun w=>by rw[w,hL1.a] at hHr;cases hHr
  have hno:r≠ro:=fun w=>by rw[w,hro1] at hHr;cases hHr
  have hnq:r≠rq:=fun w=>by rw[w,hrq1] at hHr;cases hHr
  have hget:vV (.string (cS key)) (zt7 es1) 0=some (j1,.ptr r 0):=getM hL1 hj1;have hlkS: ∀B:Blk,xQ (α:=Prop) prog (H.set r B) 112 false (.mp m) (yQ (cS key))=some (.ptr r 0,True):=fun B=>zsC (by rw[Qd hnm];exact hL1.a) hget;have hroS: ∀B:Blk,(H.set r B)[ro]? =some (.var 112 [.mp m]):=fun B=>by rw[Qd hno];exact hro1
  have hrqS: ∀B:Blk,(H.set r B)[rq]? =some (.var 3 [i64 i]):=fun B=>by rw[Qd hnq];exact hrq1
  have hrS: ∀B:Blk,(H.set r B)[r]? =some B:=fun B=>Qh hrl;have Z1:=(a3 @hroS @hrqS @hrS)
  have hSS: ∀B C:Blk,(H.set r B).set r C=H.set r C:=fun B C=>Wi ..;have hfin: ∀M':List (Option Fa),M'=zaM ⟨i,args,e⟩ M a b-> ∃es',es'.map (·.1)=zxH (es.map (·.1)) ⟨key,⟨i,args,e⟩,a,b⟩/\Lns i m es' (H.set r (.var 205 (zuI i key M' M')))/\(∀x∈es',lo<=x.2)/\KpB lo h (H.set r (.var 205 (zuI i key M' M')))/\es'.length<=es.length+1:=fun M' hM'=>by
   subst hM';refine⟨es1.set j1 ((key,zaM ⟨i,args,e⟩ M a b),r),?_,hL1.upd hj1 (bS ..),fun x hx=> ?_,?_,?_⟩
   ·rw[setE];unfold zxH;dsimp only;rw[<-hT1];have:=zv6 (T:=es1.map (·.1)) (by rw[Zg];exact hL1.d) (j:=j1) (x:=(key,M)) (by rw[Qu,hj1];rfl) fun M=>zaM ⟨i,args,e⟩ M a b;exact this.symm
   ·rcases Ze hx with hx|hx
    ·exact hlo1.2 x hx
    ·rw[hx];exact hlo1.2 ((key,M),r) (Qk hj1)
   ·exact Qb4
   ·rw[Xb];exact hn1
  have hstart:H=H.set r (.var 205 (zuI i key (zaM ⟨i,args,e⟩ M a a) (zaM ⟨i,args,e⟩ M a a))):=by
   exact Qc5
  obtain⟨a',ha'⟩:=Qm ha0;obtain⟨b',hb'⟩:=Qm (show 0<=b by omega);subst ha';subst hb';refine zW (K9 (K4 (.v::K9 (K9 (.k:: .k:: .k::D9 (D9 (D9 (.d::[])))))))) (own:=false) (fun s:Nat=>[i64 s]) (fun s=>H.set r (.var 205 (zuI i key (zaM ⟨i,args,e⟩ M a' s) (zaM ⟨i,args,e⟩ M a' s)))) (fun s=>a'<=s/\s<=b') (fun s=>b'-s) a' rfl hstart ⟨Xe _,Qf0⟩ ?_;rintro mm ⟨hm1,hm2⟩;refine gm ?_;by_cases hlt:mm<b'
  case neg=>
   obtain rfl:mm=b':=Qf0;have hfin2:=hfin _ rfl;generalize zaM ⟨i,args,e⟩ M a' mm=M1 at*;refine gf (a2 Z1 @zM) ?_;exact⟨rfl,hfin2⟩
  case pos=>
   have hlt':((mm:Int)<(b':Int))=True:=Yk Qf0;have hmm:mm<64:=Qf0;have hm64:((mm:Int)<64)=True:=Yk Qf0;have jY:IntKind.i64.wrap ((mm:Int)+1)=((mm+1:Nat):Int):=Qh8;have hst:=zuQ (g:=⟨i,args,e⟩) (M:=M) (a:=(a':Int)) (m:=mm) Qf0 hmm;have hM1:=bS ⟨i,args,e⟩ M (a':Int) (mm:Int);rw[show((mm:Int)+1)=((mm+1:Nat):Int) by omega] at hst;generalize hM2:zaM ⟨i,args,e⟩ M a' mm=M1 at*;have hS1:=zvA hM1;have hF1:=zwM (i:=(i:Int)) hM1;obtain⟨L1,hL1'⟩: ∃L1,L1=zuI i key M1 M1:=⟨_,rfl⟩
   obtain⟨L2,hL2'⟩: ∃L2,L2=zwP key ((M1.map yaW).set mm (yaW (some ⟨i,args,e⟩))) (M1.map (ybC i)):=⟨_,rfl⟩
   have hl1:L1.length=385:=by rw[hL1'];exact znQ hS1 hF1
   have hl2:L2.length=385:=by rw[hL2'];exact znQ (hS1.set mm rfl) hF1
   have hp1:splice L1 (1+mm*3) [yQ (cS args),i64 e,bo true]=L2:=by
    rw[hL1',hL2'];have:=zxM (key:=key) (F:=M1.map (ybC i)) hS1 (m:=mm) (by rw[hS1.n];exact hmm) [yQ (cS args),i64 e,bo true] rfl;rw[<-Qv] at this;exact this
   have hp2:splice L2 (193+mm*3) [i64 i,pH args,i64 e]=zuI i key (zaM ⟨i,args,e⟩ M a' ((mm+1:Nat):Int)) (zaM ⟨i,args,e⟩ M a' ((mm+1:Nat):Int)):=by
    rw[hL2',<-hst];have:=yeJ (key:=key) (hS1.set mm (x:=yaW (some ⟨i,args,e⟩)) rfl) hF1 (m:=mm) (by rw[hF1.n];exact hmm) [i64 i,pH args,i64 e] rfl;rw[<-Qv] at this;unfold zuI;rw[Ky,Ky];exact this
   have zoK:(1+mm*3+3<=385)=True:=Yk Qf0;have zxI:(193+mm*3+3<=385)=True:=Yk Qf0;rw[<-hL1'];refine gf (a4 Z1 @hlt' @hlkS @hSS) ?_;(refine gd0 ?_;refine vP rfl (henc2) Qf1 ?_;intro p2 hr2 ts2 hts;simp only[go_sem] at hts;subst hts);subst hr2;refine gf (a9 Z1 @hlkS @hSS @buSt @buF3 @hl1 @hl2 @zoK (a6 @zxI @hp1 @hp2 @hm64 @jY @zB)) ?_;exact⟨mm+1,⟨Qf0,Qf0⟩,Qf0,rfl,rfl,rfl⟩
 ·have hlk:=zsC hL.a hm;obtain⟨⟨key2,M⟩,r⟩:=e0;dsimp only at he0 hlk;subst he0;(repeat(first|refine gz ?_|(refine gn ?_;intro zs zh;(try simp only[go_sem,hro,hlk,zxS] at zh);subst zh;refine gv ?_)|refine zQ zdV _ 7 Qf3 ?_|refine zQ zdA _ 8 Qf3 ?_));obtain⟨es1,hes1⟩: ∃es1:List LnE,es1=es:=⟨_,rfl⟩
  obtain⟨j1,hj1e⟩: ∃j1,j1=j:=⟨_,rfl⟩
  have hj1:es1[j1]? =some ((key2,M),r):=by rw[hes1,hj1e];exact hj
  have hT1:es1.map (·.1)=zk7 (es.map (·.1)) key2:=by
   unfold zk7;rw[pO (Xf.2 ⟨(key2,M),Xf.2 ⟨_,Qk hj,rfl⟩,rfl⟩),Qj rfl,hes1]
  have hlo1:lo<=m/\ ∀x∈es1,lo<=x.2:=by rw[hes1];exact hlo
  have hn1:es1.length<=es.length+1:=by rw[hes1];omega
  have hL1:Lns i m es1 h:=by rw[hes1];exact hL
  have hK1:KpB lo h h:=KpB.refl _ _;have hro1:=hro;have hrq1:=hrq;have hLl:=hL1.l _ (Qk hj1);have hM:M.length=64:=hLl.1;have hHr:=hLl.2;dsimp only at hHr;have hrl:=(gsi hHr).1;have hnm:r≠m:=fun w=>by rw[w,hL1.a] at hHr;cases hHr
  have hno:r≠ro:=fun w=>by rw[w,hro1] at hHr;cases hHr
  have hnq:r≠rq:=fun w=>by rw[w,hrq1] at hHr;cases hHr
  have hget:vV (.string (cS key2)) (zt7 es1) 0=some (j1,.ptr r 0):=getM hL1 hj1;have hlkS: ∀B:Blk,xQ (α:=Prop) prog (h.set r B) 112 false (.mp m) (yQ (cS key2))=some (.ptr r 0,True):=fun B=>zsC (by rw[Qd hnm];exact hL1.a) hget;have hroS: ∀B:Blk,(h.set r B)[ro]? =some (.var 112 [.mp m]):=fun B=>by rw[Qd hno];exact hro1
  have hrqS: ∀B:Blk,(h.set r B)[rq]? =some (.var 3 [i64 i]):=fun B=>by rw[Qd hnq];exact hrq1
  have hrS: ∀B:Blk,(h.set r B)[r]? =some B:=fun B=>Qh hrl;have Z2:=(a3 @hroS @hrqS @hrS)
  have hSS: ∀B C:Blk,(h.set r B).set r C=h.set r C:=fun B C=>Wi ..;have hfin: ∀M':List (Option Fa),M'=zaM ⟨i,args,e⟩ M a b-> ∃es',es'.map (·.1)=zxH (es.map (·.1)) ⟨key2,⟨i,args,e⟩,a,b⟩/\Lns i m es' (h.set r (.var 205 (zuI i key2 M' M')))/\(∀x∈es',lo<=x.2)/\KpB lo h (h.set r (.var 205 (zuI i key2 M' M')))/\es'.length<=es.length+1:=fun M' hM'=>by
   subst hM';refine⟨es1.set j1 ((key2,zaM ⟨i,args,e⟩ M a b),r),?_,hL1.upd hj1 (bS ..),fun x hx=> ?_,?_,?_⟩
   ·rw[setE];unfold zxH;dsimp only;rw[<-hT1];have:=zv6 (T:=es1.map (·.1)) (by rw[Zg];exact hL1.d) (j:=j1) (x:=(key2,M)) (by rw[Qu,hj1];rfl) fun M=>zaM ⟨i,args,e⟩ M a b;exact this.symm
   ·rcases Ze hx with hx|hx
    ·exact hlo1.2 x hx
    ·rw[hx];exact hlo1.2 ((key2,M),r) (Qk hj1)
   ·exact Qb4
   ·rw[Xb];exact hn1
  have hstart:h=h.set r (.var 205 (zuI i key2 (zaM ⟨i,args,e⟩ M a a) (zaM ⟨i,args,e⟩ M a a))):=by
   exact Qc5
  obtain⟨a',ha'⟩:=Qm ha0;obtain⟨b',hb'⟩:=Qm (show 0<=b by omega);subst ha';subst hb';refine zW (K9 (K4 (.v::K9 (K9 (.k:: .k:: .k::D9 (D9 (D9 (.d::[])))))))) (own:=false) (fun s:Nat=>[i64 s]) (fun s=>h.set r (.var 205 (zuI i key2 (zaM ⟨i,args,e⟩ M a' s) (zaM ⟨i,args,e⟩ M a' s)))) (fun s=>a'<=s/\s<=b') (fun s=>b'-s) a' rfl hstart ⟨Xe _,Qf0⟩ ?_;rintro mm ⟨hm1,hm2⟩;refine gm ?_;by_cases hlt:mm<b'
  case neg=>
   obtain rfl:mm=b':=Qf0;have hfin2:=hfin _ rfl;generalize zaM ⟨i,args,e⟩ M a' mm=M1 at*;refine gf (a2 Z2 @zM) ?_;exact⟨rfl,hfin2⟩
  case pos=>
   have hlt':((mm:Int)<(b':Int))=True:=Yk Qf0;have hmm:mm<64:=Qf0;have hm64:((mm:Int)<64)=True:=Yk Qf0;have jY:IntKind.i64.wrap ((mm:Int)+1)=((mm+1:Nat):Int):=Qh8;have hst:=zuQ (g:=⟨i,args,e⟩) (M:=M) (a:=(a':Int)) (m:=mm) Qf0 hmm;have hM1:=bS ⟨i,args,e⟩ M (a':Int) (mm:Int);rw[show((mm:Int)+1)=((mm+1:Nat):Int) by omega] at hst;generalize hM2:zaM ⟨i,args,e⟩ M a' mm=M1 at*;have hS1:=zvA hM1;have hF1:=zwM (i:=(i:Int)) hM1;obtain⟨L1,hL1'⟩: ∃L1,L1=zuI i key2 M1 M1:=⟨_,rfl⟩
   obtain⟨L2,hL2'⟩: ∃L2,L2=zwP key2 ((M1.map yaW).set mm (yaW (some ⟨i,args,e⟩))) (M1.map (ybC i)):=⟨_,rfl⟩
   have hl1:L1.length=385:=by rw[hL1'];exact znQ hS1 hF1
   have hl2:L2.length=385:=by rw[hL2'];exact znQ (hS1.set mm rfl) hF1
   have hp1:splice L1 (1+mm*3) [yQ (cS args),i64 e,bo true]=L2:=by
    rw[hL1',hL2'];have:=zxM (key:=key2) (F:=M1.map (ybC i)) hS1 (m:=mm) (by rw[hS1.n];exact hmm) [yQ (cS args),i64 e,bo true] rfl;rw[<-Qv] at this;exact this
   have hp2:splice L2 (193+mm*3) [i64 i,pH args,i64 e]=zuI i key2 (zaM ⟨i,args,e⟩ M a' ((mm+1:Nat):Int)) (zaM ⟨i,args,e⟩ M a' ((mm+1:Nat):Int)):=by
    rw[hL2',<-hst];have:=yeJ (key:=key2) (hS1.set mm (x:=yaW (some ⟨i,args,e⟩)) rfl) hF1 (m:=mm) (by rw[hF1.n];exact hmm) [i64 i,pH args,i64 e] rfl;rw[<-Qv] at this;unfold zuI;rw[Ky,Ky];exact this
   have zoK:(1+mm*3+3<=385)=True:=Yk Qf0;have zxI:(193+mm*3+3<=385)=True:=Yk Qf0;rw[<-hL1'];refine gf (a4 Z2 @hlt' @hlkS @hSS) ?_;(refine gd0 ?_;refine vP rfl (henc2) Qf1 ?_;intro p2 hr2 ts2 hts;simp only[go_sem] at hts;subst hts);subst hr2;refine gf (a9 Z2 @hlkS @hSS @buSt @buF3 @hl1 @hl2 @zoK (a6 @zxI @hp1 @hp2 @hm64 @jY @zB)) ?_;exact⟨mm+1,⟨Qf0,Qf0⟩,Qf0,rfl,rfl,rfl⟩
attribute [go_sem] only kB splice
noncomputable def zhD(bt:Int):Tbl->BA->List Int
 | [],_=>List.replicate 64 bt
 |x::T,k=>open Classical in if zk0 x.1=k then x.2 else zhD bt T k
theorem zm8{bt:Int}{k:BA}: ∀{T:Tbl},k∉vR T->zhD bt T k=List.replicate 64 bt
 | [],_=>rfl
 |x::T,h=>by
  unfold vR at h;rw[Xa,Qw,not_or] at h;unfold zhD;rw[Qi fun e=>h.1 e.symm];exact zm8 h.2
noncomputable def cL(l:La)(z:List LRw)(args:List Vl)(m:Int):Int:=if 0<=m/\m<64 then(zhD (oU l) (xU l z) (zk0 args)).getD m.toNat 0 else -1
end Go.AL
