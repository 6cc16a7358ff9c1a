/-
  Part of the walk.
-/
import Derived.Test.YtlcjmejclpilhaaGreatDoorV27
import Derived.DeepKeys3
set_option linter.unusedSimpArgs false
set_option linter.unusedVariables false
set_option maxRecDepth 100000
set_option maxHeartbeats 4000000
namespace Go.AL
open Go.Proofs Go.Proofs.Tryz
noncomputable abbrev zwN(L:List Tld):List Ln:=L.foldl zxH []
theorem zu1(L:List Tld)(c:Tld):zwN (L++[c])=zxH (zwN L) c:=by unfold zwN;rw[Jn];rfl
def yaJ(k:Nat)(i:Int)(x:Rw):List Tld:=x.w.map fun s=>⟨x.args.take k,⟨i,x.args, -1⟩,s.a,s.b⟩
def yaK(k:Nat)(i:Int)(x:LRw):List Tld:=x.cs.map fun c=>⟨x.args.take k,⟨i,x.args,c.e⟩,c.a,c.b⟩
theorem zx5(k:Nat)(i:Int){y:List Rw}{j:Nat}(h:j<y.length):zqP k i (y.take (j+1))=zqP k i (y.take j)++yaJ k i y[j]:=by
 unfold zqP;rw[Xh h,Wx];simp[yaJ]
theorem zx6(k:Nat)(i:Int){y:List LRw}{j:Nat}(h:j<y.length):zsI k i (y.take (j+1))=zsI k i (y.take j)++yaK k i y[j]:=by
 unfold zsI;rw[Xh h,Wx];simp[yaK]
theorem ya0{k:Nat}{i:Int}{x:Rw}{q:Nat}(h:q<(yaJ k i x).length)(h':q<x.w.length):(yaJ k i x)[q]=⟨x.args.take k,⟨i,x.args, -1⟩,x.w[q].a,x.w[q].b⟩:=Xu _
theorem ya1{k:Nat}{i:Int}{x:LRw}{q:Nat}(h:q<(yaK k i x).length)(h':q<x.cs.length):(yaK k i x)[q]=⟨x.args.take k,⟨i,x.args,x.cs[q].e⟩,x.cs[q].a,x.cs[q].b⟩:=Xu _
structure RdI(i:Int)(h H0:Heap)(L:List Tld)(es:List LnE)(H:Heap):Prop where
 t:es.map (·.1)=zwN L
 l:Lns i (h.length+3) es H
 lo: ∀e∈es,h.length<=e.2
 k:KpB h.length H0 H
theorem RdI.app{i:Int}{h H0:Heap}{L:List Tld}{es:List LnE}{H:Heap}(r:RdI i h H0 L es H)(B:Heap):RdI i h H0 L es (H++B):=⟨r.t,r.l.app B,r.lo,r.k.trans (KpB.app _ _ _)⟩
theorem zvE(p:Pg)(hp:p.ok)(hle:p.sm)(d:Dt)(hd:d.sz)(hX:DatX p d)(i:Nat)(hi:i<p.pk.length)(hb:p.pk[i].base=true)(h:Heap):
  ECall prog G0 49 [.agg p.c,.agg d.c,i64 i] h fun v h'=> ∃(m:Nat)(es:List LnE),v= .mp m/\es.map (·.1)=kH p d i/\Lns i m es h'/\h.length<=m/\(∀e∈es,h.length<=e.2)/\ ∀(r:Nat)(b:Blk),h[r]? =some b->h'[r]? =some b:=by
 have hir:i<d.pg.length:=Qgl;have hil:i<d.pQ.length:=Qgm;have htold:=zvD hp hle hX hi hb;have hrf:kH p d i=zwN (zqP p.pk[i].key.toNat i d.pg[i]++zsI p.pk[i].key.toNat i d.pQ[i]):=by unfold kH;rw[eD hi,eD hir,eD hil]
 rw[hrf];rw[eD hir,eD hil] at htold;obtain⟨hfm, -, -⟩:=(ze0 p hp hle).2 hX.tv;obtain⟨q0,q1, -⟩:=hfm.p _ (Qc hi);obtain⟨htl0, -⟩:=znP hp hle hX.tv;have htl:p.pk[i].types.length<=1048576:=by
  have:=(znP hp hle hX.tv).2 _ (Qc hi);omega
 obtain⟨hy1,hy2⟩:=hd.r _ (Qc hir);obtain⟨hz1,hz2⟩:=hd.l _ (Qc hil);have hyr:=zG (f:=fun r=>[uN r]) [] hir;have hzl:=zG (f:=fun r=>[vD r]) [] hil;have hset:=fun (lo m rp rq ro:Nat) (es:List LnE) (H:Heap)=>set_x p hp i hi m rp rq ro lo es H;refine pv func49 76 false Qf3 rfl rfl ?_;refine g2 ?_;have hp0: ∀l:List Blk,(h++ .var 27 p.c::l)[h.length]? =some (.var 27 p.c):=fun l=>rU h _;generalize hy:d.pg[i]=y at*;generalize hz:d.pQ[i]=z at*;generalize p.pk[i].types=ty at*;generalize hkk:p.pk[i].key=kk at*;refine gf (a7 @rU @sB @qK @rN @hyr @hir @zB) ?_;obtain⟨H0,hH0⟩: ∃H0,H0=h++[Blk.var 27 p.c,.var 31 d.c,.var 3 [i64 i],.map [],.var 112 [.mp (h.length+3)]]:=⟨_,rfl⟩
 rw[<-hH0];have b0:H0[h.length]? =some (.var 27 p.c):=by rw[hH0,rU];rfl
 have b1:H0[h.length+1]? =some (.var 31 d.c):=Qga;have b2:H0[h.length+2]? =some (.var 3 [i64 i]):=Qga;have b3:H0[h.length+3]? =some (.map []):=Qga;have b4:H0[h.length+4]? =some (.var 112 [.mp (h.length+3)]):=Qga;have hKh:KpB h.length h H0:=by rw[hH0];exact KpB.app _ _ _
 have kk0: ∀{H:Heap},KpB h.length H0 H->H[h.length]? =some (.var 27 p.c)/\H[h.length+1]? =some (.var 31 d.c)/\H[h.length+2]? =some (.var 3 [i64 i])/\H[h.length+4]? =some (.var 112 [.mp (h.length+3)])/\h.length<=H.length:=fun {H} k=>by
  have f: ∀(t:TypeId)(cs:List PV),t≠205->(∀cs',Blk.var t cs≠ .var 205 cs')/\ ∀es,Blk.var t cs≠ .map es:=fun t cs h=>⟨fun cs' e=>h (by cases e;rfl),fun es e=>by cases e⟩
  have h0:=k _ _ b0 (.inr (f _ _ Qf2));exact⟨h0,k _ _ b1 (.inr (f _ _ Qf2)),k _ _ b2 (.inr (f _ _ Qf2)),k _ _ b4 (.inr (f _ _ Qf2)),Nat.le_of_lt (gsi h0).1⟩
 have hI0:RdI i h H0 [] [] H0:=⟨rfl,⟨b3,Qf1,Qf1,Kg,Kg⟩,Qf1,KpB.refl _ _⟩
 clear hH0;refine zO y.length (K9 (.k:: .d:: .k:: .d::K9 (.k:: .k:: .k:: .v::D9 (D9 (.d:: .d::K9 (K9 (K9 (.k:: .k:: .k::[])))))))) (own:=false) (fun j (_:Heap×List LnE)=>[i64 j]) (fun s=>s.1) (fun j s=>RdI i h H0 (zqP kk.toNat i (y.take j)) s.2 s.1) (H0,[]) rfl rfl (by rw[Uh];exact hI0) Qf0 ?_ ?_
 ·rintro⟨H,es⟩ hI t ht;dsimp only at hI;rw[Yt] at hI;obtain⟨c0,c1,c2,c4,cl⟩:=kk0 hI.k;simp only[zY] at ht;subst ht;refine gf (a6 @zM @c1 @c2 @hzl @hil @zB) ?_;refine zO z.length (K9 (K4 (.k:: .d:: .k:: .d::K9 (K9 (K9 (K4 (K4 (.v::D9 (D9 (D4 (.k::[]))))))))))) (own:=false) (fun j (_:Heap×List LnE)=>[i64 j]) (fun s=>s.1) (fun j s=>RdI i h H0 (zqP kk.toNat i y++zsI kk.toNat i (z.take j)) s.2 s.1) (H,es) rfl rfl (by rw[Uh];show RdI _ _ _ (_++[]) _ _;rw[Xz];exact hI) Qf0 ?_ ?_
  ·rintro⟨H,es⟩ hI t ht;dsimp only at hI;rw[Yt] at hI;obtain⟨c0,c1,c2,c4,cl⟩:=kk0 hI.k;simp only[zY] at ht;subst ht;refine gf (a2 @zM @c4) ?_;refine⟨h.length+3,es,rfl,hI.t,hI.l,Qf0,hI.lo,fun r b hr=> ?_⟩;exact hI.k _ _ (hKh _ _ hr (.inl (gsi hr).1)) (.inl (gsi hr).1)
  ·rintro j ⟨H,es⟩ hj hw hI t ht;dsimp only at hI;simp only[zY] at ht;subst ht;have hx:=zG (f:=LRw.c) [] hj;have htk:=zx6 kk.toNat (i:Int) hj;obtain⟨-,hx2⟩:=hz2 _ (Qc hj);have hmem: ∀c∈yaK kk.toNat i z[j],c∈zqP kk.toNat i y++zsI kk.toNat i z:=fun c hc=>Yh _ (Jg.2 ⟨_,Qc hj,hc⟩);generalize z[j]=x at*;refine gf (a6 @hj @hx @zB @hw @zA @zX) ?_;refine zO x.cs.length (K9 (K4 (.k:: .k:: .k:: .d::K9 (K9 (K9 (K9 (K4 (.k:: .k:: .v::D9 (D4 (.d:: .k:: .k::[])))))))))) (own:=false) (fun j (_:Heap×List LnE)=>[i64 j]) (fun s=>s.1) (fun q s=>RdI i h H0 (zqP kk.toNat i y++zsI kk.toNat i (z.take j)++(yaK kk.toNat i x).take q) s.2 s.1/\s.1[H.length]? =some (.var 162 x.c)) (H++[.var 162 x.c],es) rfl rfl ⟨by rw[Uh,Xz];exact hI.app _,zA _ _⟩ Qf0 ?_ ?_
   ·rintro⟨H1,es1⟩ ⟨hI1,hb1⟩ t ht;dsimp only at hI1;rw[show x.cs.length=(yaK kk.toNat i x).length by simp[yaK],Yt,Qv,<-htk] at hI1;exact Qdb
   ·rintro q ⟨H1,es1⟩ hq zg1 ⟨hI1,hb1⟩ t ht;dsimp only at hI1 hb1;simp only[zY] at ht;subst ht;have hql:q<(yaK kk.toNat i x).length:=by simpa [yaK] using hq
    have hcs:=zG (f:=Ce.c) [] hq;have htq:=Xh hql;obtain⟨t1,t2,t3,t4,t5, -⟩:=htold _ (hmem _ (Qc hql));have hspq:(yaK kk.toNat i x)[q]=⟨x.args.take kk.toNat,⟨i,x.args,x.cs[q].e⟩,x.cs[q].a,x.cs[q].b⟩:=ya1 ..;rw[hspq] at htq t1 t2 t3 t4 t5;generalize x.cs[q]=c at*;dsimp only at t1 t2 t3 t4 t5;have hvx: ∀v∈x.args,zoC v=true:=fun v hv=>by
     exact Qe8
    have hrA:=yJ H1 [Blk.var 208 c.c] _ _ hb1;have F1:=(a7 @hq @hcs @zB @zg1 @zA @zX @hrA)
    obtain⟨c0,c1,c2,c4,cl⟩:=kk0 (hI1.app [Blk.var 208 c.c]).k;refine gf F1 ?_;(refine Go.AL.g1f F1 ?_;refine zC (hset h.length (h.length+3) _ _ _ es1 _ (hI1.app _).l ⟨Qf0,hI1.lo⟩ cl c0 c2 c4 x.args (by rw[t4.1];exact htl) hvx q0 (by rw[t4.1];exact q1) c.e c.a c.b t1 t2 t3) ?_;intro p2 h2 hr2;refine Go.AL.g2 ?_);obtain ⟨rfl,es2,g1,g2,g3,g4, -⟩:=hr2;exact Qb7
 ·rintro j ⟨H,es⟩ hj hw hI t ht;dsimp only at hI;simp only[zY] at ht;subst ht;have hx:=zG (f:=Rw.c) [] hj;have htk:=zx5 kk.toNat (i:Int) hj;have hx2:=(hy2 _ (Qc hj)).w;have hmem: ∀c∈yaJ kk.toNat i y[j],c∈zqP kk.toNat i y++zsI kk.toNat i z:=fun c hc=>Zb _ (Jg.2 ⟨_,Qc hj,hc⟩);generalize y[j]=x at*;refine gf (a6 @hj @hx @zB @hw @zA @zX) ?_;refine zO x.w.length (K9 (.k:: .k:: .k:: .d::K9 (K9 (.k:: .v::D9 (.d:: .d:: .d::K9 (K9 (K9 (K4 ([]))))))))) (own:=false) (fun j (_:Heap×List LnE)=>[i64 j]) (fun s=>s.1) (fun q s=>RdI i h H0 (zqP kk.toNat i (y.take j)++(yaJ kk.toNat i x).take q) s.2 s.1/\s.1[H.length]? =some (.var 159 x.c)) (H++[.var 159 x.c],es) rfl rfl ⟨by rw[Uh,Xz];exact hI.app _,zA _ _⟩ Qf0 ?_ ?_
  ·rintro⟨H1,es1⟩ ⟨hI1,hb1⟩ t ht;dsimp only at hI1;rw[show x.w.length=(yaJ kk.toNat i x).length by simp[yaJ],Yt,<-htk] at hI1;exact Qdb
  ·rintro q ⟨H1,es1⟩ hq zg1 ⟨hI1,hb1⟩ t ht;dsimp only at hI1 hb1;simp only[zY] at ht;subst ht;have hql:q<(yaJ kk.toNat i x).length:=by simpa [yaJ] using hq
   have hcs:=zG (f:=Sp.c) [] hq;have htq:=Xh hql;obtain⟨t1,t2,t3,t4,t5, -⟩:=htold _ (hmem _ (Qc hql));have hspq:(yaJ kk.toNat i x)[q]=⟨x.args.take kk.toNat,⟨i,x.args, -1⟩,x.w[q].a,x.w[q].b⟩:=ya0 ..;rw[hspq] at htq t1 t2 t3 t4 t5;generalize x.w[q]=c at*;dsimp only at t1 t2 t3 t4 t5;have hvx: ∀v∈x.args,zoC v=true:=fun v hv=>by
    exact Qe8
   have hrA:=yJ H1 [Blk.var 54 c.c] _ _ hb1;have F:=(a7 @hq @hcs @zB @zg1 @zA @zX @hrA)
   obtain⟨c0,c1,c2,c4,cl⟩:=kk0 (hI1.app [Blk.var 54 c.c]).k;refine gf F ?_;(refine Go.AL.g1f F ?_;refine zC (hset h.length (h.length+3) _ _ _ es1 _ (hI1.app _).l ⟨Qf0,hI1.lo⟩ cl c0 c2 c4 x.args (by rw[t4.1];exact htl) hvx q0 (by rw[t4.1];exact q1) (-1) c.a c.b t1 t2 t3) ?_;intro p2 h2 hr2;refine Go.AL.g2 ?_);obtain ⟨rfl,es2,g1,g2,g3,g4, -⟩:=hr2;exact Qb7
noncomputable def zq5(xs:List (List Vl)):Nat->List (List Vl)
 |0=>[]
 |n+1=>if ze8 (0<n/\xs[n]? =xs[n-1]?)=true then zq5 xs n else zq5 xs n++(xs[n]?).toList
theorem zxV{xs:List (List Vl)}(h:0<xs.length):zq5 xs 1=xs.take 1:=by
 show(if ze8 (0<0/\xs[0]? =xs[0-1]?)=true then zq5 xs 0 else zq5 xs 0++(xs[0]?).toList)=_;rw[uA fun w=>Nat.lt_irrefl 0 w.1,Qi Qf2];cases xs with
 |nil=>simp at h
 |cons x l=>rfl
theorem yeO{xs:List (List Vl)}{n:Nat}(h0:0<n)(hn:n<xs.length)(e:xs[n]=xs[n-1]'Qf0):zq5 xs (n+1)=zq5 xs n:=by
 show(if ze8 (0<n/\xs[n]? =xs[n-1]?)=true then zq5 xs n else zq5 xs n++(xs[n]?).toList)=_;rw[Qa hn,Qa Qf0,pO ⟨h0,by rw[e]⟩,Qj rfl]
theorem zxB{xs:List (List Vl)}{n:Nat}(hn:n<xs.length)(e:0<n->xs[n]≠xs[n-1]'Qf0):zq5 xs (n+1)=zq5 xs n++[xs[n]]:=by
 show(if ze8 (0<n/\xs[n]? =xs[n-1]?)=true then zq5 xs n else zq5 xs n++(xs[n]?).toList)=_;rw[Qa hn,Qa Qf0,uA fun w=>e w.1 (Option.some.inj w.2),Qi Qf2];rfl
theorem zwH{xs:List (List Vl)}(h:xs.Pairwise fun x y=> ¬zaF y x): ∀n,n<=xs.length->SoT (zq5 xs n)/\(∀k,k∈zq5 xs n↔k∈xs.take n)/\ ∀(h0:0<n)(h1:n-1<xs.length), ∀k∈zq5 xs n,k=xs[n-1]\/zaF k xs[n-1]
 |0,_=>⟨List.Pairwise.nil,fun k=>by simp[zq5],fun h=>absurd h Qf2⟩
 | n +1,hn=>by
  obtain⟨i1,i2,i3⟩:=zwH h n Qf0;have hnl:n<xs.length:=Qf0;have hw:=Zd.1 h;by_cases q:0<n/\xs[n]=xs[n-1]'Qf0
  ·rw[yeO q.1 hnl q.2];refine⟨i1,fun k=> ?_,fun _ _ k hk=> ?_⟩
   ·rw[i2 k,Xh hnl,Qo,Qp];refine⟨.inl,fun w=>w.elim id fun e=> ?_⟩;rw[e,q.2];exact List.mem_take_iff_getElem.2 ⟨n-1,Qf0,rfl⟩
   ·have:=i3 q.1 Qf0 k hk;rw[<-q.2] at this;exact this
  ·have hne: ∀k∈zq5 xs n,zaF k xs[n]:=fun k hk=>by
    rcases Yr n with e|h0
    ·subst e;simp[zq5] at hk
    ·have hx:zaF (xs[n-1]'Qf0) xs[n]:=by
      rcases zaF.tri (xs[n-1]'Qf0) xs[n] with e|e|e
      ·exact e
      ·exact absurd ⟨h0,e.symm⟩ q
      ·exact absurd e (hw (n-1) n Qf0 hnl Qf0)
     rcases i3 h0 Qf0 k hk with e|e
     ·rw[e];exact hx
     ·exact e.tr hx
   rw[zxB hnl fun h w=>q ⟨h,w⟩];refine⟨Kq.2 ⟨i1,List.pairwise_singleton ..,fun a ha b hb=> ?_⟩,fun k=> ?_,fun _ _ k hk=> ?_⟩
   ·rw[Qp] at hb;subst hb;exact hne a ha
   ·rw[Qo,i2 k,Xh hnl,Qo]
   ·rcases Qo.1 hk with hk|hk
    ·exact .inr (hne k hk)
    ·exact .inl (Qp.1 hk)
theorem zz3{xs:List (List Vl)}(h:xs.Pairwise fun x y=> ¬zaF y x):zq5 xs xs.length=aO xs:=by
 obtain⟨h1,h2, -⟩:=zwH h xs.length (Xe _);exact zyN h1 fun x=>by rw[h2 x,Yt]
theorem zwU{a b:List (List Vl)}(h: ∀k,k∈a↔k∈b):aO a=aO b:=zr9 (ziT a) (ziT b) fun k=>by rw[iY,iY,h]
end Go.AL
namespace Go.AL
open Go.RowKit Go.Sort Go.Shelf Go.Proofs
section
variable{P:Program}{G:Glob}
def zt4(n:Nat)(arr:Array Value)(i:Nat):Value:=if i<n then arr.getD i undef else .slice none 0 0
theorem ACall.pdqSort1{α:Type}{ρ:Ren}(L:SlLaysF.n14 P ρ)(hen:uG P (ρ.f 14)=true)(lim:Nat)(hlim:lim<4611686018427387904)(hG:GTree G)
  (c:α->PV) (d0:α) (hd0:PLe .nil (c d0)) (hct: ∀x,Tree (c x)) (cf:α->α->Int) (hO:SWO (ltOf cf)) (g:FuncId) (K:α->Prop) (hK0:K d0)
  (hg: ∀x y,K x->K y->Pure P G g [c x,c y] (.sc (.int .i64 (cf x y)))) {h:Heap} {r:Nat} {t:TypeId} (xs:List α) (hK: ∀x∈xs,K x)
  (hr:h[r]? =some (.var t (xs.map c))) (hlen:xs.length<4611686018427387904):
  ACall P G (ρ.f 14) [.ms r 0 1 xs.length,.sc (.int .i64 0),.sc (.int .i64 xs.length),.sc (.int .i64 lim),.fn (.func g) [] []] h fun p h'=>p= .tup []/\ ∃ys:List α,ys.Perm xs/\ys.Pairwise (fun x y=>ltOf cf y x=false)/\h'=h.set r (.var t (ys.map c)):=by
 refine⟨hen,fun φ w X vs hS hGr hl hv=> ?_⟩;obtain⟨v0,u1,u2,u3,v1,rfl⟩: ∃v0 u1 u2 u3 v1,vs= #[v0,u1,u2,u3,v1]:=by
  exact Qbw
 have hv0:=hv 0 _ v0 rfl rfl;have hv1:=hv 4 _ v1 rfl rfl;obtain rfl:u1= .int .i64 0:=Qhf;obtain rfl:u2= .int .i64 xs.length:=Qhg;obtain rfl:u3= .int .i64 lim:=Qhh;obtain rfl:v1= .func (.func g) #[] #[]:=by
  exact Qbo
 obtain⟨b,cap,rfl,hφ⟩: ∃b cap,v0= .slice (some ⟨b,0,none⟩) xs.length cap/\φ[r]? =some (.pointer (some ⟨b,0,none⟩)):=by
  exact Qe1
 obtain⟨b',arr,e,hh,hsz,hone,hrel⟩:=hS.blks r _ _ hr hφ;obtain rfl:b=b':=by cases e;rfl
 clear e hv hv0 hv1 hl;rw[Qr] at hsz;have hhs:w.heap[b]? =some (.cells arr t (0,0)):=hh;have hblk:b<w.heap.size:=(Qz.1 hhs).1;let n:=xs.length
 let a:Nat->α:=fun i=>xs.getD i d0
 have ha: ∀(i:Nat)(hi:i<n),a i=xs[i]:=fun i hi=>by simp only[a];rw[Qb,Qa hi];rfl
 have ha': ∀i, ¬i<n->a i=d0:=fun i hi=>by simp only[a];rw[Qb,Ye Qf0];rfl
 have hKa: ∀i,K (a i):=fun i=>by
  exact Qe9
 have hO':SWO (ltOf fun i j:Nat=>cf (a i) (a j)):=⟨fun x=>hO.irrefl (a x),fun x y z=>hO.trans (a x) (a y) (a z),fun x y z=>hO.ntrans (a x) (a y) (a z)⟩
 have encg: ∀i (hi:i<n),zt4 n arr i=arr[i]'Qf0:=fun i hi=>by
  unfold zt4;rw[Qj hi];have:i<arr.size:=Qf0;simp[Array.getD,this]
 have h1:OneCell (zt4 n arr):=fun x=>by
  by_cases hx:x<n
  ·rw[encg x hx];exact hone _ _ (Qx Qf0)
  ·unfold zt4;rw[Qi hx];rfl
 have cellb: ∀j,w.cell? ⟨b,j,none⟩=arr[j]? :=fun j=>by simp[World.cell?,hhs]
 have hr0: ∀i,i<n->(Array.range n)[i]! =i:=fun i hi=>by rw[getElem!_pos _ _ Qg3];simp
 have hH:Holds (zt4 n arr) w b 0 (Array.range n):=by
  intro j hj;have hj':j<n:=Qfv;rw[hr0 _ hj',encg j hj',Yd,cellb];refine⟨Qx Qf0,?_⟩;simp only[World.frozen?,hhs];simp
 have eg: ∀args w,(callFunc g args).run P w= .ok (.enter g args) w:=iC (hg d0 d0 hK0 hK0).1;have hMb: ∀a v,St.M ⟨φ,h,w,X⟩ a v->a.block≠b/\a.block<w.heap.size:=fun a v hM=>by
  exact Qbz
 have hvr: ∀x,VRel ⟨φ,h,w,X⟩ (c (a x)) (zt4 n arr x):=fun x=>by
  by_cases hx:x<n
  ·rw[encg x hx,ha x hx];exact hrel x _ _ (by rw[Qu,Qa hx];rfl) (Qx Qf0)
  ·unfold zt4;rw[Qi hx,ha' x hx];exact hd0 _ _ .nil
 have hszw: ∀(m:Nat)(dk:Array Nat)(os:Array Obj),w.heap.size<=(sortWorld (zt4 n arr) w b 0 m dk os).heap.size:=fun m dk os=>by
  unfold sortWorld;rw[size_grow,Go.Proofs.size_putRow];show w.heap.size<=w.heap.size+_;omega
 have hcmp:CmpLays1 P g #[] (zt4 n arr) (fun i j=>cf (a i) (a j)) b 0 (Array.range n).size w:=fun m os dk hdk x y=>by
  refine Pure.calls (hg (a x) (a y) (hKa x) (hKa y)) (by
   intro p hp;simp only[Qw,Zn,Kb] at hp;rcases hp with rfl|rfl<;>exact hct _) hG hGr (fun ad v hM=> ?_) (hszw _ _ _) Qf1 fun i p v hp hv=> ?_
  ·obtain⟨hne,hlt⟩:=hMb ad v hM;unfold sortWorld;rw[cell?_grow _ _ _ (by rw[Go.Proofs.size_putRow];exact hlt),cell?_putRow_other _ _ _ _ _ _ (Or.inl hne)];exact hM.1
  ·exact Qbq
 have hcon:=Any.pdqsortCmpFunc_all L (zt4 n arr) (fun i j=>cf (a i) (a j)) g #[] hO' b 0 cap (Array.range n) w eg hcmp ⟨h1,hH,hblk⟩ ((Array.range n).size+1) 0 (Array.range n).size lim (Array.range n) w Qf0 rfl (SW.start hH) (Yn _) (Xe _) Qgb hlim (Or.inl rfl);rw[show(Array.range n).size=xs.length by simp[n]] at hcon;have hpd:=pdq_sorts (ltOf fun i j=>cf (a i) (a j)) hO' (Array.range n) 0 xs.length lim true true (Yn _) (by simp[n]) (Or.inl rfl);refine(callsIn_wide.2 hcon).mono ?_;rintro e w' ⟨rfl,m,os,rfl⟩;obtain⟨⟨hds, -,hperm⟩,hsorted⟩:=hpd;generalize Go.Sort.pdq (ltOf fun i j=>cf (a i) (a j)) (Array.range n) 0 xs.length lim true true=d' at*;have hds:d'.size=n:=by simpa using hds
 have hpm:d'.toList.Perm (List.range n):=by
  exact Qaw
 have hdn: ∀i<n,d'[i]! <n:=fun i hi=>by
  exact Qch
 let ys:List α:=d'.toList.map fun i=>xs.getD i d0
 have hys:ys.length=n:=by simp[ys,hds]
 have hgy: ∀(i:Nat)(hi:i<ys.length),ys[i]=xs[d'[i]!]'(hdn i Qf0):=fun i hi=>by
  exact Qcg
 have hxs:(List.range n).map (fun i=>xs.getD i d0)=xs:=by
  exact Qdk
 have hyp:ys.Perm xs:=by
  have:=hpm.map (fun i=>xs.getD i d0);rw[hxs] at this;exact this
 have hyw:ys.Pairwise fun x y=>ltOf cf y x=false:=by
  exact Qbf
 have hlm:(ys.map c).length=n:=(Qr c).trans hys;have hl':(ys.map c).length=(xs.map c).length:=hlm.trans (Qr c).symm;let w1:World:=putRow (zt4 n arr) (Go.Sort.ahead w m) b 0 d'
 let arr':Array Value:=putCells (zt4 n arr) 0 d' arr
 have jY: ∀k,k≠b->w1.heap[k]? =w.heap[k]? :=fun k hk=>by
  simp only[w1,putRow,mapBlock,Go.Sort.ahead,Wc];rw[Qi (fun e=>hk e.symm)]
 have hw1b:w1.heap[b]? =some (.cells arr' t (0,0)):=by
  simp only[w1,putRow,mapBlock,Go.Sort.ahead,Wc];rw[Qj trivial,hhs];rfl
 have hasz:arr'.size=arr.size:=by simp[arr',putCells]
 have hs1:w1.heap.size=w.heap.size:=by simp[w1,putRow,mapBlock,Go.Sort.ahead]
 have hag: ∀j,j<arr.size->arr'[j]? =some (if j<n then arr[d'[j]!]! else arr[j]!):=fun j hj=>by
  simp only[arr',putCells,Array.getElem?_mapIdx,Qx hj,Wh,hds,Yd,Yn,true_and,Nat.sub_zero];by_cases hjn:j<n
  ·have:=hdn j hjn;rw[Qj hjn,Qj hjn,encg _ this,getElem!_pos arr _ Qf0]
  ·rw[Qi hjn,Qi hjn,getElem!_pos arr j hj]
 have hone': ∀(i:Nat)(u:Value),arr'[i]? =some u->u.oneCell'=true:=fun i u hu=>by
  have hi:i<arr.size:=by rw[<-hasz];exact(Qz.1 hu).1
  rw[hag i hi] at hu;cases hu;split
  ·rename_i hin;have:=hdn i hin;rw[getElem!_pos arr _ Qf0];exact hone _ _ (Qx _)
  ·rw[getElem!_pos arr _ hi];exact hone _ _ (Qx _)
 have hrow: ∀b1 m1,St.Row ⟨φ,h,w,X⟩ b1 m1->St.Row {(⟨φ,h,w,X⟩:St) with w:=w1} b1 m1:=by
  exact Qb5
 have htl:TapeLe w w1:=⟨rfl,Kt _ _⟩
 have hvn: ∀(i:Nat)(p:PV)(u:Value),(ys.map c)[i]? =some p->arr'[i]? =some u->VRel ⟨φ,h,w,X⟩ p u:=fun i p u hp hu=>by
  have hi:i<n:=by have:=(gsi hp).1;rw[hlm] at this;exact this
  rw[hag i Qf0,Qj hi] at hu;cases hu;have hd:=hdn i hi;rw[getElem!_pos arr _ Qf0];have hi2:i<ys.length:=Qf0;rw[Qu,Qa hi2,Wh,hgy i hi2] at hp;refine hrel (d'[i]!) p _ ?_ (Qx _);rw[Qu,Qa hd,Wh,hp]
 have x1:=eT (arr':=arr') hS hφ hr hl' (w':=w1) rfl htl rfl hs1 jY hrow;have hS1:=cM (arr':=arr') hS hφ hr hl' (w':=w1) rfl htl rfl hs1 jY hrow hw1b (by rw[hlm,hasz];exact hsz) hone' hvn;refine⟨φ,h.set r (.var t (ys.map c)),.tup [],.tuple #[],rfl,x1.trans (bF hS1 os),zc6 hS1 os,.tup rfl fun i p v hp=>by simp at hp,rfl,ys,hyp,hyw,rfl⟩
end
end Go.AL
namespace Go.Proofs
open Go.Shelf Go.AL
def Tryz.sortKey_ren:Go.Shelf.Ren:=⟨fun|14=>166|20=>231|21=>232|22=>233|23=>234|24=>235|25=>236|26=>237|27=>238|46=>304|47=>305|48=>306|49=>307|50=>308|15=>167|57=>352|28=>239|29=>240|n=>n,fun|24=>50|22=>74|3=>3|25=>99|4=>4|0=>0|46=>326|45=>325|50=>216|66=>383|39=>261|55=>245|70=>387|76=>417|77=>418|53=>332|5=>5|9=>9|n=>n,fun n=>n⟩
theorem Tryz.sortKey:Go.Proofs.SlLaysF.n14 Tryz.prog Tryz.sortKey_ren:={
 mixed:=Qf3
 f14:=⟨Tryz.f166.name,Qf2,Tryz.func166.trans (Ym some Qf3)⟩
 f15:=Tryz.func167.trans (Ym some Qf3)
 f20:=⟨Tryz.f231.name,Qf2,Tryz.func231.trans (Ym some Qf3)⟩
 f21:=⟨Tryz.f232.name,Qf2,Tryz.func232.trans (Ym some Qf3)⟩
 f22:=⟨Tryz.f233.name,Qf2,Tryz.func233.trans (Ym some Qf3)⟩
 f23:=⟨Tryz.f234.name,Qf2,Tryz.func234.trans (Ym some Qf3)⟩
 f24:=⟨Tryz.f235.name,Qf2,Tryz.func235.trans (Ym some Qf3)⟩
 f25:=⟨Tryz.f236.name,Qf2,Tryz.func236.trans (Ym some Qf3)⟩
 f26:=⟨Tryz.f237.name,Qf2,Tryz.func237.trans (Ym some Qf3)⟩
 f27:=⟨Tryz.f238.name,Qf2,Tryz.func238.trans (Ym some Qf3)⟩
 f28:=Tryz.func239.trans (Ym some Qf3)
 f29:=Tryz.func240.trans (Ym some Qf3)
 f46:=⟨Tryz.f304.name,Qf2,Tryz.func304.trans (Ym some Qf3)⟩
 f47:=Tryz.func305.trans (Ym some Qf3)
 f48:=Tryz.func306.trans (Ym some Qf3)
 f49:=⟨Tryz.f307.name,Qf2,Tryz.func307.trans (Ym some Qf3)⟩
 f50:=⟨Tryz.f308.name,Qf2,Tryz.func308.trans (Ym some Qf3)⟩
 f57:=⟨Tryz.f352.name,Qf2,Tryz.func352.trans (Ym some Qf3)⟩
 t0:=Tryz.underlying0
 a0:=Tryz.isAgg0
 z0:=Tryz.sizeOf0
 v0:=Tryz.zeroValue0
 t3:=Tryz.underlying3
 a3:=Tryz.isAgg3
 z3:=Tryz.sizeOf3
 v3:=Tryz.zeroValue3
 t4:=Tryz.underlying4
 a4:=Tryz.isAgg4
 z4:=Tryz.sizeOf4
 v4:=Tryz.zeroValue4
 t5:=Tryz.underlying5
 a5:=Tryz.isAgg5
 z5:=Tryz.sizeOf5
 v5:=Tryz.zeroValue5
 t9:=Tryz.underlying9
 a9:=Tryz.isAgg9
 z9:=Tryz.sizeOf9
 v9:=Tryz.zeroValue9
 t22:=Tryz.underlying74
 a22:=Tryz.isAgg74
 z22:=Tryz.sizeOf74
 v22:=Tryz.zeroValue74
 a24:=Tryz.isAgg50
 z24:=Tryz.sizeOf50
 t25:=Tryz.underlying99
 a25:=Tryz.isAgg99
 z25:=Tryz.sizeOf99
 v25:=Tryz.zeroValue99
 t39:=Tryz.underlying261
 a39:=Tryz.isAgg261
 z39:=Tryz.sizeOf261
 v39:=Tryz.zeroValue261
 t45:=Tryz.underlying325
 a45:=Tryz.isAgg325
 z45:=Tryz.sizeOf325
 v45:=Tryz.zeroValue325
 t46:=Tryz.underlying326
 a46:=Tryz.isAgg326
 z46:=Tryz.sizeOf326
 v46:=Tryz.zeroValue326
 t50:=Tryz.underlying216
 a50:=Tryz.isAgg216
 z50:=Tryz.sizeOf216
 v50:=Tryz.zeroValue216
 t53:=Tryz.underlying332
 a53:=Tryz.isAgg332
 z53:=Tryz.sizeOf332
 v53:=Tryz.zeroValue332
 t55:=Tryz.underlying245
 a55:=Tryz.isAgg245
 z55:=Tryz.sizeOf245
 v55:=Tryz.zeroValue245
 t66:=Tryz.underlying383
 a66:=Tryz.isAgg383
 z66:=Tryz.sizeOf383
 v66:=Tryz.zeroValue383
 t70:=Tryz.underlying387
 a70:=Tryz.isAgg387
 z70:=Tryz.sizeOf387
 v70:=Tryz.zeroValue387
 t76:=Tryz.underlying417
 a76:=Tryz.isAgg417
 z76:=Tryz.sizeOf417
 v76:=Tryz.zeroValue417
 t77:=Tryz.underlying418
 a77:=Tryz.isAgg418
 z77:=Tryz.sizeOf418
 v77:=Tryz.zeroValue418}
end Go.Proofs
namespace Go.AL
open Go.RowKit
section
variable{P:Program}{G:Glob}{rd:Option Nat}
theorem zwQ(z:Value)(n:Nat):(Builtin.zeroCells #[z] n).toList=List.replicate n z:=by
 unfold Builtin.zeroCells;refine Zc Qf1 fun i h1 h2=> ?_;simp[Nat.mod_one]
theorem ztP{cs ps:List PV}{o:Nat}(h:o+ps.length<=cs.length):(splice cs o ps).length=cs.length:=by simp[splice];omega
theorem OpOk.clearMs{o:Oper}{h:Heap}{F:Operand->PV}{R:PV->Heap->Prop}{c:Call}{t e te:TypeId}{x:Operand}{r off len:Nat}{cs:List PV}{z:Value}
  (ho:o.op= .call c) (hc:c.callee= .builtin .clear) (ha:c.args= #[x]) (hat:c.argTypes= #[t]) (hx:F x= .ms r off 1 len) (hb:h[r]? =some (.var te cs)) (hl:off+len<=cs.length)
  (ht:P.underlying t=some (.slice e)) (hz:(P.info? e).bind (·.zero)=some z) (hzc:z.cells= #[z]) (hz1:z.oneCell'=true)
  (hr:R (.tup []) (h.set r (.var te (splice cs off (List.replicate len (nI z)))))):OpOk P G rd o h F R:=by
 refine .of_run Qgq fun φ w X ρ hS hG hv=> ?_;have h1:=hv x Qhn;rw[hx] at h1;obtain⟨b,cp,hu,hp⟩: ∃b cp,ρ x= .slice (some ⟨b,off,none⟩) len cp/\φ[r]? =some (.pointer (some ⟨b,0,none⟩)):=by
  generalize ρ x=u at h1;cases h1 with
  |ms hp hb'=>exact⟨_,_,rfl,hp⟩
  |oms hb'=>rw[hb] at hb';cases hb'
 obtain⟨b',arr,e1,hh,hsz,hone,hrel⟩:=hS.blks r _ _ hb hp;cases e1;simp only[] at hh;obtain⟨w',hr0,g1,g2,g3,g4,g5,g6⟩:=nG P b te (List.replicate len z) off 0 arr w hh (by rw[Jt];omega) (fun u hu=>by rw[(List.mem_replicate.1 hu).2];exact hz1);have hsl:(splice cs off (List.replicate len (nI z))).length=cs.length:=ztP (by rw[Jt];exact hl);have hzz: ∀b m,St.Row ⟨φ,h,w,X⟩ b m->St.Row {(⟨φ,h,w,X⟩:St) with w:=w'} b m:=by
  rintro b1 m ⟨ar,t1,f1,hr1,hm1⟩;by_cases hb1:b1=b
  ·subst hb1;simp only[] at hr1;rw[hh] at hr1;cases hr1;exact⟨_,_,_,g6,by simp;omega⟩
  ·exact⟨ar,t1,f1,(g5 b1 hb1).trans hr1,hm1⟩
 have hrun:(Builtin.clear_ #[t] o.type #[ρ x]).run P w= .ok (.tuple #[]) w':=by
  rw[hu];cases len with
  | zero=>
   have:w'=w:=by
    have:(storeCells ⟨b,off,none⟩ ([]:List Value) 0).run P w= .ok () w:=rfl;rw[Ku] at hr0;rw[this] at hr0;cases hr0;rfl
   subst this;simp[Builtin.clear_,Xc ht]
  |succ n=>
   have hr1:(storeCells ⟨b,off,none⟩ (Builtin.zeroCells #[z] (n+1)).toList).run P w= .ok () w':=by rw[zwQ];exact hr0
   simp[Builtin.clear_,Xc ht,lO hz,hzc,hr1]
 refine⟨φ,h.set r (.var te (splice cs off (List.replicate len (nI z)))),w',.tup [],.tuple #[],?_,eT (arr':=arr) hS hp hb hsl g1 g2 g3 g4 g5 hzz,cM hS hp hb hsl g1 g2 g3 g4 g5 hzz g6 (by rw[hsl];simp;omega) (fun i u hi=> ?_) (fun i q u hq hi=> ?_),.tup rfl fun i p v hp=>by simp at hp,hr⟩
 ·unfold execOp;rw[ho];simp[resolve,invoke,builtin,hc,ha,hat,hrun]
 all_goals
  simp only[Wn,Je,Qs,Xk,Wq,Ql,Jt,Xr,Yg,Yi,Zf] at hi
 ·split at hi
  ·split at hi
   ·split at hi
    ·exact hone _ u hi
    ·cases hi
   ·split at hi
    ·cases hi;exact hz1
    ·cases hi
  ·exact hone _ u hi
 ·simp only[splice,Qs,Xk,Ql,Jt,Xr,Yg,Zf] at hq;have m1:min off arr.size=off:=Qf0;have m2:min off cs.length=off:=Qf0;rw[m1] at hi;rw[m2] at hq;by_cases c1:i<off
  ·rw[Qj Qf0,Qj c1,Qj c1] at hi;rw[Qj Qf0,Qj c1,Qj c1] at hq;exact hrel i q u hq hi
  ·by_cases c2:i<off+len
   ·rw[Qj Qf0,Qi c1,Qj Qf0] at hi;rw[Qj Qf0,Qi c1,Qj Qf0] at hq;cases hi;cases hq;exact sN _ z
   ·rw[Qi Qf0] at hi hq;refine hrel _ q u hq ?_;rw[<-hi]
theorem OpOk.sliceLo{o:Oper}{h:Heap}{F:Operand->PV}{R:PV->Heap->Prop}{t e te:TypeId}{x lo:Operand}{r off len a:Nat}{cs:List PV}
  (ho:o.op= .slice t x (some lo) none none) (hx:F x= .ms r off 1 len) (hb:h[r]? =some (.var te cs)) (ht:wX P t=some e) (hs:xL P e=some 1)
  (hlo:F lo= .sc (.int .i64 a)) (ha:a<len) (hr:R (.ms r (off+a) 1 (len-a)) h):OpOk P G rd o h F R:=by
 refine .of_run Qgq fun φ w X ρ hS hG hv=> ?_;have h1:=hv x Qh4;have h2:=hv lo Qh4;rw[hx] at h1;rw[hlo] at h2;have hl:ρ lo= .int .i64 a:=by generalize ρ lo=u at h2;cases h2;rfl
 generalize hu:ρ x=u at h1;cases h1 with
 |oms hb'=>rw[hb] at hb';cases hb'
 | ms hp hb' hle hc hm hz=>
  rename_i c b t' cs';rw[hb] at hb';cases hb';have hca: ¬c=a:=Qf0;refine⟨φ,h,w,.ms r (off+a) 1 (len-a),.slice (some ⟨b,off+a,none⟩) (len-a) (c-a),?_,Ext.refl _,hS,?_,hr⟩
  ·unfold execOp;rw[ho];have e1':(Instr.sliceBounds true len c (some (.int .i64 ↑a)) none none).run P w= .ok (a,len,c) w:=by simp[Instr.sliceBounds,vS (show a<=len by omega)]
   simp[Instr.sliceAt,Instr.slice,hu,hl,Xc (tS ht),e1',zV hs,hca,Addr.add]
  ·refine .ms hp hb Qf0 Qf0 Qf0 ?_;rw[show off+a+(c-a)*1=off+c*1 by omega];exact hz
theorem OpOk.sliceHi{o:Oper}{h:Heap}{F:Operand->PV}{R:PV->Heap->Prop}{t e te:TypeId}{x hi:Operand}{r off len a:Nat}{cs:List PV}
  (ho:o.op= .slice t x none (some hi) none) (hx:F x= .ms r off 1 len) (hb:h[r]? =some (.var te cs)) (ht:wX P t=some e) (hs:xL P e=some 1)
  (hlo:F hi= .sc (.int .i64 a)) (ha:a<=len) (h0:0<len) (hr:R (.ms r off 1 a) h):OpOk P G rd o h F R:=by
 refine .of_run Qgq fun φ w X ρ hS hG hv=> ?_;have h1:=hv x Qh4;have h2:=hv hi Qh4;rw[hx] at h1;rw[hlo] at h2;have hl:ρ hi= .int .i64 a:=by generalize ρ hi=u at h2;cases h2;rfl
 generalize hu:ρ x=u at h1;cases h1 with
 |oms hb'=>rw[hb] at hb';cases hb'
 | ms hp hb' hle hc hm hz=>
  rename_i c b t' cs';rw[hb] at hb';cases hb';have hca: ¬c=0:=Qf0;refine⟨φ,h,w,.ms r off 1 a,.slice (some ⟨b,off,none⟩) a c,?_,Ext.refl _,hS,?_,hr⟩
  ·unfold execOp;rw[ho];have e1':(Instr.sliceBounds true len c none (some (.int .i64 ↑a)) none).run P w= .ok (0,a,c) w:=by simp[Instr.sliceBounds,vS (show a<=c by omega)]
   simp[Instr.sliceAt,Instr.slice,hu,hl,Xc (tS ht),e1',zV hs,hca,Addr.add]
  ·exact .ms hp hb Qf0 Qf0 hm hz
end
end Go.AL
namespace Go.AL
open Go.RowKit
def ClF(n:Nat)(p:PV)(F0:Nat):Prop:= ∀(H:Heap)(F:Nat),F0<=F->fz n H F p=p
theorem zt2{α:Type}{Q:α->Nat->Prop}(mono: ∀a m m',m<=m'->Q a m->Q a m'): ∀{l:List α},(∀a∈l, ∃m,Q a m)-> ∃m, ∀a∈l,Q a m
 | [],_=>⟨0,Qf1⟩
 |a::l,h=>by
  obtain⟨m1,h1⟩:=h a (Qe ..);obtain⟨m2,h2⟩:=zt2 mono fun b hb=>h b (Qf _ hb);refine⟨max m1 m2,fun b hb=> ?_⟩;rcases Qw.1 hb with rfl|hb
  ·exact mono _ _ _ (Nat.le_max_left ..) h1
  ·exact mono _ _ _ (Nat.le_max_right ..) (h2 b hb)
theorem zt0{n:Nat}(p:PV)(m m':Nat)(h:m<=m')(k:ClF n p m):ClF n p m':=fun H F hF=>k H F (Ya h hF)
theorem zf9{n:Nat}{cs:List PV}{m:Nat}(h: ∀p∈cs,ClF n p m){H:Heap}{F:Nat}(hF:m<=F):cs.map (fz n H F)=cs:=by
 conv=>rhs;rw[<-Kl cs]
 exact Yq fun p hp=>h p hp H F hF
theorem zgO{n:Nat}{cs:List PV}(h: ∀p∈cs, ∃m,ClF n p m): ∃m, ∀p∈cs,ClF n p m:=zt2 zt0 h
theorem zy1{n:Nat}{els:List (List PV)}(h: ∀e∈els, ∀p∈e, ∃m,ClF n p m): ∃m, ∀e∈els, ∀p∈e,ClF n p m:=
 zt2 (Q:=fun (e:List PV) m=> ∀p∈e,ClF n p m) (fun e m m' hm k p hp=>zt0 p m m' hm (k p hp)) fun e he=>zgO (h e he)
theorem zyQ{n:Nat}{els:List (List PV)}{m:Nat}(h: ∀e∈els, ∀p∈e,ClF n p m){H:Heap}{F:Nat}(hF:m<=F):els.map (fun e=>e.map (fz n H F))=els:=by
 conv=>rhs;rw[<-Kl els]
 exact Yq fun e he=>zf9 (h e he) hF
theorem pP{n:Nat}{p:PV}{m:Nat}(h: ∀(H:Heap)(F:Nat),m<=F->fz n H (F+1) p=p):ClF n p (m+1):=fun H F hF=>by
 obtain⟨F',rfl⟩: ∃F',F=F'+1:=⟨F-1,Qf0⟩
 exact h H F' Qf0
theorem zvC{S:St}{p:PV}{v:Value}(h:VRel S p v): ∃m,ClF S.h.length p m:=by
 induction h with
 |un=>exact⟨1,pP (m:=0) fun H F _=>rfl⟩
 |ud=>exact⟨1,pP (m:=0) fun H F _=>rfl⟩
 |sc=>exact⟨1,pP (m:=0) fun H F _=>rfl⟩
 |nil=>exact⟨1,pP (m:=0) fun H F _=>rfl⟩
 | agg hl h1 h ih=>
  exact Qbb
 | tup hl h ih=>
  exact Qbb
 | ts hl hc hm hk ad ha val hv h ih=>
  rename_i k n c els a;obtain⟨m,hm⟩:=zy1 (n:=S.h.length) (els:=els) fun e he p hp=>by
   obtain⟨i,hi,rfl⟩:=Qy he;obtain⟨j,hj,rfl⟩:=Qy hp;exact ih i _ j _ (Qa hi) (Qa hj)
  exact⟨m+1,pP fun H F hF=>by simp only[fz];rw[zyQ hm hF]⟩
 |tc ht ih=>
  obtain⟨m,hm⟩:=ih;refine⟨m+1,pP fun H F hF=> ?_⟩;have:=hm H (F+1) Qf0;simp only[fz,PV.ts.injEq,true_and] at this;simp only[fz];rw[this]
 | vec ht hb hle ho ih=>
  obtain⟨m,hm⟩:=ih;refine⟨m+1,pP fun H F hF=> ?_⟩;rename_i r k n e els v;have hr:r<S.h.length:=(gsi hb).1;have:els.map (fun e=>e.map (fz S.h.length H F))=els:=by
   have h1:=hm H (F+1) Qf0;unfold fz at h1;simpa using h1
  simp only[fz,Qj hr];rw[this]
 |ms hp hb=>exact⟨1,pP (m:=0) fun H F _=>by simp only[fz,Qj (gsi hb).1]⟩
 |oms hb=>exact⟨1,pP (m:=0) fun H F _=>by simp only[fz,Qj (gsi hb).1]⟩
 |ptr hp hb=>exact⟨1,pP (m:=0) fun H F _=>by simp only[fz,Qj (gsi hb).1]⟩
 |optr hb=>exact⟨1,pP (m:=0) fun H F _=>by simp only[fz,Qj (gsi hb).1]⟩
 | tp val hv h ih=>
  rename_i cs a;obtain⟨m,hm⟩:=zgO (n:=S.h.length) (cs:=cs) fun p hp=>by
   obtain⟨i,hi,rfl⟩:=Qy hp;exact ih i _ (Qa hi)
  exact⟨m+1,pP fun H F hF=>by simp only[fz];rw[zf9 hm hF]⟩
 | fn hl hl' h h' ih ih'=>
  rename_i f ps qs us vs;obtain⟨m,hm⟩:=zgO (n:=S.h.length) (cs:=ps) fun p hp=>by
   obtain⟨i,hi,rfl⟩:=Qy hp;exact ih i _ us[i] (Qa hi) (Qx Qf0)
  obtain⟨m',hm'⟩:=zgO (n:=S.h.length) (cs:=qs) fun p hp=>by
   obtain⟨i,hi,rfl⟩:=Qy hp;exact ih' i _ vs[i] (Qa hi) (Qx Qf0)
  exact⟨max m m'+1,pP fun H F hF=>by
   simp only[fz];rw[zf9 hm (Ya (Nat.le_max_left ..) hF),zf9 hm' (Ya (Nat.le_max_right ..) hF)]⟩
 |ifc h ih=>
  obtain⟨m,hm⟩:=ih;exact⟨m+1,pP fun H F hF=>by simp only[fz];rw[hm H F hF]⟩
 |mp hp hb=>exact⟨1,pP (m:=0) fun H F _=>by simp only[fz,Qj (gsi hb).1]⟩
 |yl hp hb=>exact⟨1,pP (m:=0) fun H F _=>by simp only[fz,Qj (gsi hb).1]⟩
 |it hp hb=>exact⟨1,pP (m:=0) fun H F _=>by simp only[fz,Qj (gsi hb).1]⟩
theorem zz5{S:St}{b:Blk}{v:Value}(h:BRel S b v): ∃m, ∀(H:Heap)(F:Nat),m<=F->zm2 S.h.length H F b=b:=by
 cases b with
 | var t cs=>
  obtain⟨b,arr, -, -,hsz, -,hr⟩:=h;obtain⟨m,hm⟩:=zgO (n:=S.h.length) (cs:=cs) fun p hp=>by
   obtain⟨i,hi,rfl⟩:=Qy hp;exact zvC (hr i _ arr[i] (Qa hi) (Qx Qf0))
  exact⟨m,fun H F hF=>by simp only[zm2];rw[zf9 hm hF]⟩
 |vec=>exact⟨0,fun H F _=>rfl⟩
 | map es=>
  obtain⟨b,clock,entries, -, -,hsz, -,hr⟩:=h;obtain⟨m,hm⟩:=zt2 (Q:=fun (x:Value×PV) m=>ClF S.h.length x.2 m) (fun x m m' hm k=>zt0 x.2 m m' hm k) (l:=es) fun x hx=>by
   obtain⟨i,hi,rfl⟩:=Qy hx;exact zvC (hr i entries[i] _ (Qx Qf0) (Qa hi)).2
  refine⟨m,fun H F hF=> ?_⟩;simp only[zm2];congr 1;conv=>rhs;rw[<-Kl es]
  exact Yq fun x hx=>by rw[hm x hx H F hF];rfl
 | loop ts ps ac bd st pd=>
  obtain⟨b,L, -, -, -, -, -, -, -,hsz,hr⟩:=h;obtain⟨m,hm⟩:=zgO (n:=S.h.length) (cs:=ts) fun p hp=>by
   obtain⟨i,hi,rfl⟩:=Qy hp;exact zvC (hr i _ (Qa hi))
  exact⟨m,fun H F hF=>by simp only[zm2];rw[zf9 hm hF]⟩
 |non=>exact⟨0,fun H F _=>rfl⟩
 |old=>exact⟨0,fun H F _=>rfl⟩
 | iter m k s=>
  obtain⟨b,bm, -, -,hr⟩:=h;refine⟨0,fun H F _=> ?_⟩;simp only[zm2];cases m with
  |none=>rfl
  |some r=>
   obtain⟨es,bk,he, -⟩:=hr r rfl;have:r<S.h.length:=(gsi he).1;simp[this]
 |siter=>exact⟨0,fun H F _=>rfl⟩
theorem zzV{S:St}(hS:SRel S): ∃m, ∀b∈S.h, ∀(H:Heap)(F:Nat),m<=F->zm2 S.h.length H F b=b:=
 zt2 (Q:=fun (b:Blk) m=> ∀(H:Heap)(F:Nat),m<=F->zm2 S.h.length H F b=b) (fun b m m' hm k H F hF=>k H F (Ya hm hF)) fun b hb=>by
  obtain⟨r,hr,rfl⟩:=Qy hb;exact zz5 (hS.blks r _ (S.φ[r]'Qgn) (Qa hr) (Qa _))
theorem ACall.cut3{P:Program}{G:Glob}{f:FuncId}{args:List PV}{h:Heap}{R:PV->Prop}(k:ACall P G f args h fun p h'=>h'.take h.length=h/\R (fz h.length h' 40 p)):ACall P G f args h fun p h'=>R p/\h'=h:=by
 refine⟨k.1,fun φ w X vs a b c d=> ?_⟩;obtain⟨m,hm⟩:=zzV a;refine(k.2 φ w X vs a b c d).mono ?_;rintro e w' ⟨φ',h',p,v,he,x,hs,hv,ht,hr⟩;have x':=zb4 hs x h.length m (Xe _);refine⟨φ'.take h.length,zk3 h.length h' m,fz h.length h' 40 p,v,he,x',zhT hs h.length m,bY hs h.length m 40 hv,hr,?_⟩;unfold zk3;rw[ht];conv=>rhs;rw[<-Kl h]
 exact Yq fun b hb=>hm b hb h' m (Xe _)
end Go.AL
namespace Go.AL
open Go.Proofs Go.Proofs.Tryz
@[go_sem] def UMw4f112.pl:Nat->DPlan
 |6=>⟨[yA,yA,yA,yA,yB,yA,yA,yA,yA,yB,yC],vJ,0⟩
 |11=>⟨[yA,yA,yA,yA,yB,yA,yA,yA,yA,yB,yC,yA],xF,0⟩
 |_=>⟨[],[],0⟩
abbrev cmpK:PV:= .fn (.func 113) [] []
def Key(k:List Vl):Prop:=k.length<=1048576/\ ∀v∈k,zoC v=true
theorem Key.sz{k:List Vl}(h:Key k): ∀a∈k,a.s.size<=140737488355328:=fun a ha=>by
 have:=((zqC a).2 (h.2 a ha)).1;omega
theorem Key.vk{k:List Vl}(h:Key k): ∀a∈k,VIn a:=fun a ha=>((zqC a).2 (h.2 a ha)).in'
theorem yaR(a b:List Vl)(ha:Key a)(hb:Key b):EPure prog G0 113 [pH a,pH b] fun p=>p=bo (decide (a=b)):=by
 refine ECall.cut (R:=fun p _=>p=bo (decide (a=b))) (pv func113 9 false Qf3 rfl rfl ?_) Qgi;refine g2 ?_;have h1:=ha.1;have h2:=hb.1;refine ge ?_;(refine Go.AL.g1 ?_;refine zC ((zb6 a b Qf0 Qf0 ha.sz hb.sz).call zK Qf1 _) (yf0 ?_);rintro p2 h2 ⟨rfl,rfl⟩);have e:(sD a b==0)=decide (a=b):=by
  rw[Jo,Zm,Wz];constructor
  ·intro h;rcases zaF.tri a b with q|q|q
   ·omega
   ·exact q
   ·exact absurd h (zz4 q)
  ·rintro rfl;exact zd5 a
 refine ge ?_;rw[e]
theorem kat{xs:List (List Vl)}{cs:List PV}{q:Nat}(h:cs[q]? =(xs[q]?).map fun k=>pH k)(hq:q<xs.length):(cs.drop q).getD 0 .un=pH xs[q]:=by
 rw[Qb,Yg,Wn,h,Qa hq];rfl
attribute [-go_sem] splice
open UMw4f112 in
theorem zyG(xs:List (List Vl))(hx: ∀x∈xs,Key x)(hn:xs.length<=1000000)(h0:0<xs.length)(H:Heap)(r:Nat)(hr:H[r]? =some (.var 50 (xs.map fun k=>pH k))):
  ECall prog G0 112 [.ms r 0 1 xs.length,cmpK] H fun p h'=> ∃cs:List PV,p= .ms r 0 1 (zq5 xs xs.length).length/\h'=H.set r (.var 50 cs)/\cs.take (zq5 xs xs.length).length=(zq5 xs xs.length).map (fun k=>pH k)/\cs.length=xs.length:=by
 refine pv func112 66 false Qf3 rfl rfl ?_;refine g2 ?_;have hrl:=(gsi hr).1;have hself:H.set r (.var 50 (xs.map fun k=>pH k))=H:=by
  refine Zh fun q=> ?_;rw[Qq];split
  ·rename_i w;subst w;first|exact hr.symm|(rw[Qj hrl];exact hr.symm)
  ·rfl
 have hfin0:zq5 xs xs.length=xs-> ∃cs:List PV,(PV.ms r 0 1 xs.length)= .ms r 0 1 (zq5 xs xs.length).length/\H=H.set r (.var 50 cs)/\cs.take (zq5 xs xs.length).length=(zq5 xs xs.length).map (fun k=>pH k)/\cs.length=xs.length:=fun e=>⟨xs.map fun k=>pH k,by rw[e],hself.symm,by rw[e,Yo Qf1],Qf1⟩
 by_cases h2:xs.length<2
 ·have hl2:((xs.length:Int)<2)=True:=Yk Qf0;refine gf @hl2 ?_;exact hfin0 (by rw[show xs.length=1 by omega,zxV h0,Yo Qf0])
 have hl2:((xs.length:Int)<2)=False:=eq_false Qf0;refine gf @hl2 ?_;refine zW (K4 (.d:: .v:: .d:: .d::K4 (D9 (D9 (D9 (D9 (D9 (D4 (D4 (.k::[])))))))))) (own:=false) (fun k:Nat=>[i64 k]) (fun _=>H) (fun k=>1<=k/\k<=xs.length/\zq5 xs k=xs.take k) (fun k=>xs.length-k) 1 rfl rfl ⟨Xe _,Qf0,zxV h0⟩ ?_;rintro k ⟨k1,k2,k3⟩;refine gm ?_;by_cases hk:k<xs.length
 case neg=>
  obtain rfl:k=xs.length:=Qf0;refine gf @zM ?_;exact hfin0 (by rw[k3,Yt])
 case pos=>
  have hk':((k:Int)<(xs.length:Int))=True:=Yk Qf0;have hkm:((k:Int)-1)=((k-1:Nat):Int):=Qf0;have jY:IntKind.i64.wrap ((k:Int)-1)=((k-1:Nat):Int):=Qh8;have zg1:IntKind.i64.wrap ((k:Int)+1)=((k+1:Nat):Int):=Qh8;have hk1':k-1<xs.length:=Qf0;have hk1'':(((k-1:Nat):Int)<(xs.length:Int))=True:=Yk Qf0;have g1:=yU (fun k:List Vl=>pH k) xs k .un hk;have g2:=yU (fun k:List Vl=>pH k) xs (k-1) .un hk1';have F1:=(a9 @hk' @jY @hr @g1 @g2 @hk1'' @zB @hk @hk1')
  have hke:=yaR xs[k] xs[k-1] (hx _ (Qc hk)) (hx _ (Qc hk1'));refine gf F1 ?_;(refine yf1 F1 ?_;refine zP Qf2 Qf2 (hke.call zK Qf1 _) ?_;intro p2 h2 hr2;refine Go.AL.g2 ?_);obtain ⟨rfl,e2⟩:=hr2;replace e2:=e2.symm;subst e2;by_cases he:xs[k]=xs[k-1]
  case neg=>
   rw[Zy he];refine gf @zg1 ?_;refine⟨k+1,⟨Qf0,Qf0,?_⟩,Qf0,rfl,rfl,rfl⟩;rw[zxB hk (fun _=>he),k3,Xh hk]
  case pos=>
   rw[Yz he];refine gf @zg1 ?_;(refine wU ?_;intro sr hsr;simp only[go_sem] at hsr;subst hsr;refine iR rfl (fun rd=>OpOk.sliceLo (x:= .tmp 29) (lo:= .tmp 30) (a:=k) rfl rfl hr (by kernel_rfl:wX prog 74=some 50) Qf3 rfl hk ⟨rfl,rfl⟩) ?_;intro ts2 hts;simp only[go_sem] at hts;subst hts);have hnk:(((xs.length-k:Nat):Int))=((xs.length-k:Nat):Int):=rfl;refine gf @zg1 ?_;refine zW (K4 (.k:: .v:: .k:: .v::K9 (K9 (K4 (.k:: .k::D9 (D9 (D9 (K4 (.k:: .k:: .k::[]))))))))) (own:=false) (fun s:Nat×List PV=>[i64 (zq5 xs s.1).length,i64 ((s.1-k:Nat):Int)]) (fun s=>H.set r (.var 50 s.2)) (fun s=>k+1<=s.1/\s.1<=xs.length/\(zq5 xs s.1).length<=s.1-1/\k<=(zq5 xs s.1).length/\s.2.length=xs.length/\s.2.take (zq5 xs s.1).length=(zq5 xs s.1).map (fun k=>pH k)/\ ∀q,s.1-1<=q->s.2[q]? =(xs[q]?).map fun k=>pH k) (fun s=>xs.length-s.1) (k+1,xs.map fun k=>pH k) ?_ ?_ ?_ ?_
   ·have e1:=yeO (xs:=xs) (n:=k) Qf0 hk he;rw[e1,k3,Xk,Jx Qf0,show k+1-k=1 by omega];rfl
   ·exact hself.symm
   ·have e1:=yeO (xs:=xs) (n:=k) Qf0 hk he;refine⟨Xe _,by dsimp only;omega,?_,?_,Qf1,?_,fun q _=>by rw[Qu]⟩
    ·dsimp only;rw[e1,k3,Xk];omega
    ·dsimp only;rw[e1,k3,Xk];omega
    ·dsimp only;rw[e1,k3,Xk,Jx Qf0,List.map_take]
   rintro⟨j,cs⟩ ⟨i1,i2,i3,i4,i5,i6,i7⟩ t ht;dsimp only at i1 i2 i3 i4 i5 i6 i7;simp only[zY] at ht;subst ht;have hrS: ∀B:Blk,(H.set r B)[r]? =some B:=fun B=>Qh hrl;have hSS: ∀B C:Blk,(H.set r B).set r C=H.set r C:=fun B C=>Wi ..;by_cases hj:j<xs.length
   case neg=>
    obtain rfl:j=xs.length:=Qf0;refine gf @zM ?_;have h64: ∀n:Nat,(Value.int .i64 (n:Int))= .int .i64 n:=fun _=>rfl;(refine wU ?_;intro sr hsr;simp only[go_sem] at hsr;subst hsr;refine iR rfl (fun rd=>OpOk.sliceLo (x:= .tmp 59) (lo:= .tmp 60) (a:=(zq5 xs xs.length).length) rfl rfl (hrS _) (by kernel_rfl:wX prog 74=some 50) Qf3 rfl Qf0 ⟨rfl,rfl⟩) ?_;intro ts2 hts;simp only[go_sem] at hts;subst hts);refine ge ?_;(refine wU ?_;intro sr hsr;simp only[go_sem] at hsr;subst hsr;refine iR rfl (fun rd=>OpOk.clearMs (x:= .tmp 61) (off:=(zq5 xs xs.length).length) (len:=xs.length-(zq5 xs xs.length).length) (z:= .slice none 0 0) rfl rfl rfl rfl rfl (hrS _) Qf0 (by kernel_rfl:prog.underlying 74=some (.slice 50)) Qf3 rfl rfl ⟨rfl,rfl⟩) ?_;intro ts2 hts;simp only[go_sem] at hts;subst hts);refine gf @hSS ?_;(refine wU ?_;intro sr hsr;simp only[go_sem] at hsr;subst hsr;refine iR rfl (fun rd=>OpOk.sliceHi (x:= .tmp 62) (hi:= .tmp 63) (a:=(zq5 xs xs.length).length) rfl rfl (hrS _) (by kernel_rfl:wX prog 74=some 50) Qf3 rfl Qf0 Qf0 ⟨rfl,rfl⟩) ?_;intro ts2 hts;simp only[go_sem] at hts;subst hts);refine ge ?_;refine⟨_,rfl,rfl,?_,?_⟩
    ·unfold splice;rw[<-i6,Qv,Uk Qfq,List.take_take,Nat.min_self]
    ·rw[ztP (by rw[Jt];omega)];exact i5
   case pos=>
    have hjk:(((j-k:Nat):Int)<((xs.length-k:Nat):Int))=True:=Yk Qf0;have hjk2:(j-k<xs.length-k)=True:=Yk Qf0;have zy4:IntKind.i64.wrap (((j-k:Nat):Int)-1)=((j-k-1:Nat):Int):=Qh8;have hjk3:(((j-k-1:Nat):Int)<((xs.length-k:Nat):Int))=True:=Yk Qf0;have hw4:IntKind.i64.wrap (((j-k:Nat):Int)+1)=((j+1-k:Nat):Int):=Qh8;have hj1:j-1<xs.length:=Qf0;have g3:(cs.drop (k+(j-k))).getD 0 .un=pH xs[j]:=by rw[show k+(j-k)=j by omega];exact kat (i7 j Qf0) hj
    have g4:(cs.drop (k+(j-k-1))).getD 0 .un=pH xs[j-1]:=by rw[show k+(j-k-1)=j-1 by omega];exact kat (i7 (j-1) Qf0) hj1
    have hb3:(k+(j-k)<cs.length)=True:=Yk Qf0;have hb4:(k+(j-k-1)<cs.length)=True:=Yk Qf0;have F:=(a9 @hjk @hjk3 @zy4 @hrS @g3 @g4 @hb3 @hb4 @zB)
    have hke:=yaR xs[j] xs[j-1] (hx _ (Qc hj)) (hx _ (Qc hj1));refine gf F ?_;(refine yf1 F ?_;refine zP Qf2 Qf2 (hke.call zK Qf1 _) ?_;intro p2 h2 hr2;refine Go.AL.g2 ?_);obtain ⟨rfl,e2⟩:=hr2;replace e2:=e2.symm;subst e2;by_cases hje:xs[j]=xs[j-1]
    case pos=>
     rw[Yz hje];refine gf @hw4 ?_;have e1:=yeO (xs:=xs) (n:=j) Qf0 hj hje;refine⟨(j+1,cs),⟨by dsimp only;omega,by dsimp only;omega,?_,?_,i5,?_,fun q hq=>i7 q Qf0⟩,by dsimp only;omega,?_,rfl,rfl⟩
     ·dsimp only;rw[e1];omega
     ·dsimp only;rw[e1];exact i4
     ·dsimp only;rw[e1];exact i6
     ·simp only[zY,xJ,Xs];first|rw[e1]|(dsimp only;rw[e1])
    case neg=>
     rw[Zy hje];have e1:=zxB (xs:=xs) hj (fun _=>hje);have hln:(zq5 xs (j+1)).length=(zq5 xs j).length+1:=by rw[e1];simp
     generalize hd:zq5 xs j=D at*;have hDn:D.length<cs.length:=Qf0;have hDn2:D.length<xs.length:=Qf0;have hDn3:((D.length:Int)<(xs.length:Int))=True:=Yk Qf0;have hsp:=zbE (v:=pH xs[j]) hDn;have yeP:IntKind.i64.wrap ((D.length:Int)+1)=((D.length+1:Nat):Int):=Qh8;refine gf (a8 F @hw4 @yeP @hSS @hDn @hDn2 @hDn3 @hsp) ?_;refine⟨(j+1,cs.set D.length (pH xs[j])),⟨by dsimp only;omega,by dsimp only;omega,?_,?_,by simpa using i5,?_,fun q hq=> ?_⟩,by dsimp only;omega,?_,rfl,rfl⟩
     ·dsimp only;rw[hln];omega
     ·dsimp only;rw[hln];omega
     ·dsimp only;rw[hln,e1,Xq,<-i6,Xh (by simpa using hDn),List.take_set_of_le (Xe _),Km];rfl
     ·dsimp only at hq ⊢
      rw[Qd Qf0];exact i7 q Qf0
     ·simp only[zY,xJ,Xs];first|rw[hln]|(dsimp only;rw[hln])
attribute [go_sem] splice
end Go.AL
namespace Go.AL.N
open Go.Proofs Go.Proofs.Tryz Go.Sort
@[go_sem] def UMw5f112.pl:Nat->DPlan
 |6=>⟨[yA,yA,yA,yA,yB,yA,yA,yA,yA,yB,yC],vJ,0⟩
 |11=>⟨[yA,yA,yA,yA,yB,yA,yA,yA,yA,yB,yC,yA],xF,0⟩
 |_=>⟨[],[],0⟩
abbrev yaT:PV:= .fn (.func 39) [] []
theorem ya2(H:Heap):ACall prog G0 111 [.nil,yaT] H fun p h'=>p= .tup []/\h'=H:=by
 have L:=Tryz.sortKey;refine pv func111 14 false Qf3 rfl rfl ?_;refine g2 ?_;have zj6:IntKind.u64.wrap 0=0:=Qf2;have h5:(prog.underlying 3).isSome=true:=Qf3;refine gf (a2 @zj6 @h5) ?_;(refine Go.AL.g1f (a2 @zj6 @h5) ?_;refine zC ((show ACall prog G0 167 [.sc (.int .u64 0)] H _ from ACall.bitsLen (ρ:=Tryz.sortKey_ren) {L with} Qf3 0 Qf0 H)) ?_;intro p2 h2 hr2;refine Go.AL.g2 ?_);obtain⟨rfl,rfl⟩:=hr2;refine ge ?_;(refine Go.AL.g1 ?_;refine zC (ACall.pdqNone (ρ:=Tryz.sortKey_ren) {L with} Qf3 _ _ _) ?_;intro p2 h2 hr2;refine Go.AL.g2 ?_);obtain⟨rfl,rfl⟩:=hr2;refine ge ?_;exact⟨rfl,rfl⟩
theorem sortK(H:Heap)(xs:List (List Vl))(hA: ∀x∈xs,Key x)(hz:xs.length<=1000000)(r:Nat)(hH:H[r]? =some (.var 50 (xs.map fun k=>pH k))):
  ACall prog G0 111 [.ms r 0 1 xs.length,yaT] H fun p h'=>p= .tup []/\ ∃ys:List (List Vl),ys.Perm xs/\ys.Pairwise (fun x y=>ltOf sD y x=false)/\h'=H.set r (.var 50 (ys.map fun k=>pH k)):=by
 have L:=Tryz.sortKey;refine pv func111 14 false Qf3 rfl rfl ?_;refine g2 ?_;have h5:(prog.underlying 3).isSome=true:=Qf3;have hwn:IntKind.u64.wrap (xs.length:Int)=xs.length:=Qhp;have hbl:Lib.bitLen xs.length<4611686018427387904:=Wl (Lib.bitLen_le xs.length 62 Qf0 Qf0) Qf0;refine gf (a2 @hwn @h5) ?_;(refine Go.AL.g1f (a2 @hwn @h5) ?_;refine zC (ACall.bitsLen (ρ:=Tryz.sortKey_ren) {L with} Qf3 xs.length Qf0 H) ?_;intro p2 h2 hr2;refine Go.AL.g2 ?_);obtain⟨rfl,rfl⟩:=hr2;refine gf (a2 @hwn @h5) ?_;(refine Go.AL.g1f (a2 @hwn @h5) ?_;refine zC (ACall.pdqSort1 L Qf3 _ hbl zK (fun k:List Vl=>pH k) [] (PLe.nil_ts 3) (fun x=>by simp) sD zqQ.swo 39 Key ⟨Qf1,Qf1⟩ (fun x y hx hy=>(zb6 x y (by have:=hx.1;omega) (by have:=hy.1;omega) hx.sz hy.sz).pure1) xs hA hH Qf0) ?_;intro p2 h2 hr2;refine Go.AL.g2 ?_);obtain⟨rfl,ys,hp,hs,rfl⟩:=hr2;refine ge ?_;exact⟨rfl,ys,hp,hs,rfl⟩
open UMw5f112 in
theorem zy0(H:Heap):ACall prog G0 112 [.nil,cmpK] H fun p h'=>p= .nil/\h'=H:=by
 refine pv func112 66 false Qf3 rfl rfl ?_;refine g2 ?_;have h02:((0:Int)<2)=True:=Yk Qf2;refine gf @h02 ?_;exact⟨rfl,rfl⟩
structure KeysM(h:Heap)(m:Nat)(es:List LnE):Prop where
 a:h[m]? =some (.map (zt7 es))
 l: ∀e∈es,Key e.1.1/\ ∃rest,h[e.2]? =some (.var 205 (pH e.1.1::rest))
theorem KeysM.of{i:Int}{m:Nat}{es:List LnE}{h:Heap}(hL:Lns i m es h):KeysM h m es:=⟨hL.a,fun e he=>⟨hL.k e he,_,(hL.l e he).2⟩⟩
def OutK(lo:Nat)(G:Heap)(xs:List (List Vl))(V:PV):Prop:=(xs=[]/\V= .nil)\/ ∃r,lo<=r/\0<xs.length/\V= .ms r 0 1 xs.length/\G[r]? =some (.var 50 (xs.map fun k=>pH k))
abbrev yeH(es:List LnE)(i:Nat):List Vl:=(es.map (·.1.1)).getD i []
abbrev keysM(ms:List (Nat×List LnE)):List (List Vl):=ms.flatMap fun x=>x.2.map (·.1.1)
theorem zwY(ms:List (Nat×List LnE)){j:Nat}(h:j<ms.length):keysM (ms.take (j+1))=keysM (ms.take j)++ms[j].2.map (·.1.1):=by
 unfold keysM;rw[Xh h,Wx];simp
theorem zr7{h G:Heap}(ht:G.take h.length=h){r:Nat}{b:Blk}(hr:h[r]? =some b):G[r]? =some b:=by
 have hl:=(gsi hr).1;rw[<-ht,Xr,Qj hl] at hr;exact hr
theorem ziP{h G:Heap}(ht:G.take h.length=h){r:Nat}(hr:h.length<=r)(b:Blk):(G.set r b).take h.length=h:=by
 rw[List.take_set_of_le hr];exact ht
theorem ztV{h G:Heap}(ht:G.take h.length=h)(B:Heap):(G++B).take h.length=h:=by
 have:h.length<=G.length:=by have:=Ym List.length ht;rw[Xk] at this;omega
 rw[Uk this];exact ht
theorem OutK.app{lo:Nat}{G:Heap}{xs:List (List Vl)}{V:PV}(h:OutK lo G xs V)(B:Heap):OutK lo (G++B) xs V:=by
 rcases h with h|⟨r,a,b,c,d⟩
 ·exact .inl h
 ·exact .inr ⟨r,a,b,c,yJ _ _ _ _ d⟩
theorem OutK.set{lo:Nat}{G:Heap}{xs:List (List Vl)}{V:PV}(h:OutK lo G xs V){q:Nat}{m n sn}(hq:G[q]? =some (.iter m n sn))(b:Blk):OutK lo (G.set q b) xs V:=by
 rcases h with h|⟨r,a,b',c,d⟩
 ·exact .inl h
 ·exact .inr ⟨r,a,b',c,by rw[Qd (fun e=>by rw[e,d] at hq;cases hq)];exact d⟩
structure KS where
 seen:List Nat
 G:Heap
 V:PV
 xs:List (List Vl)
structure KI(h:Heap)(q0 m n:Nat)(es:List LnE)(prev:List (List Vl))(s:KS):Prop where
 tk:s.G.take h.length=h
 it:s.G[q0]? =some (.iter (some m) n s.seen)
 nd:s.seen.Nodup
 lt: ∀i∈s.seen,i<n
 out:OutK h.length s.G s.xs s.V
 sel:s.xs.Perm (prev++s.seen.map (yeH es))
theorem keys_n(ms:List (Nat×List LnE))(h:Heap)(hM: ∀x∈ms,KeysM h x.1 x.2)(hz:(keysM ms).length<=100000)(hz2:ms.length<=1000):
  ACall prog G0 50 [.tc 1 (ms.map fun x=>[PV.mp x.1])] h fun p h'=>h'.take h.length=h/\((keysM ms=[]/\p= .nil)\/ ∃(r:Nat)(cs:List PV),h.length<=r/\p= .ms r 0 1 (aO (keysM ms)).length/\h'[r]? =some (.var 50 cs)/\cs.take (aO (keysM ms)).length=(aO (keysM ms)).map fun k=>pH k):=by
 refine pv func50 32 true Qf3 rfl rfl ?_;refine g2 ?_;refine ge ?_;refine zW (.k:: .k:: .k:: .v:: .k:: .d:: .k:: .d:: .k:: .k:: .v::D9 (D4 (D4 (K4 ([]))))) (own:=true) (fun s:Nat×KS=>[s.2.V,i64 s.1]) (fun s=>s.2.G) (fun s=>s.1<=ms.length/\s.2.G.take h.length=h/\OutK h.length s.2.G s.2.xs s.2.V/\s.2.xs.Perm (keysM (ms.take s.1))) (fun s=>ms.length-s.1) (0,⟨[],h,.nil,[]⟩) rfl rfl ⟨Yn _,Yt,.inl ⟨rfl,rfl⟩,by simp[keysM]⟩ ?_;rintro⟨j,⟨seen,G,V,xs⟩⟩ ⟨hjl,htk,hout,hsel⟩ t ht;dsimp only at hjl htk hout hsel;simp only[zY] at ht;subst ht;have hmle: ∀q,(keysM (ms.take q)).length<=100000:=fun q=>by
  have:(keysM ms).length=(keysM (ms.take q)).length+(keysM (ms.drop q)).length:=by
   unfold keysM;rw[<-Ql,<-Wx,Kk]
  omega
 by_cases hj:j<ms.length
 case neg=>
  obtain rfl:j=ms.length:=Qf0;rw[Yt] at hsel;have hkx: ∀x∈xs,Key x:=fun x hx=>by
   obtain⟨q,hq,hx⟩:=Jg.1 (hsel.mem_iff.1 hx);obtain⟨e,he,rfl⟩:=Xf.1 hx;exact((hM q hq).l e he).1
  have hxl:xs.length<=100000:=by rw[hsel.length_eq];exact hz
  refine gf @zM ?_;rcases hout with ⟨rfl,rfl⟩|⟨r,b1,b2,rfl,b4⟩
  ·(refine Go.AL.g1 ?_;refine zC (ya2 G) ?_;intro p2 h2 hr2;refine Go.AL.g2 ?_);obtain⟨rfl,rfl⟩:=hr2;refine ge ?_;(refine Go.AL.g1 ?_;refine zC (zy0 _) ?_;intro p2 h2 hr2;refine Go.AL.g2 ?_);obtain⟨rfl,rfl⟩:=hr2;refine ge ?_;exact⟨htk,.inl ⟨hsel.symm.eq_nil,rfl⟩⟩
  ·(refine Go.AL.g1 ?_;refine zC (sortK G xs hkx Qf0 r b4) ?_;intro p2 h2 hr2;refine Go.AL.g2 ?_);obtain⟨rfl,ys,hp,hs,rfl⟩:=hr2;have hyx:=hp.length_eq;have hsrt:zq5 ys ys.length=aO (keysM ms):=by
    rw[zz3 (hs.imp fun {a b} w=>by simpa [ltOf] using w)];exact zwU fun k=>(hp.trans hsel).mem_iff
   have hcx:=zyG ys (fun x hx=>hkx x (hp.mem_iff.1 hx)) Qf0 Qf0 (G.set r (.var 50 (ys.map fun k=>pH k))) r (Qh (gsi b4).1);rw[hyx] at hcx;refine ge ?_;(refine Go.AL.g1 ?_;refine zC (hcx.acall) ?_;intro p2 h2 hr2;refine Go.AL.g2 ?_);obtain⟨cs,rfl,rfl,g1,g2⟩:=hr2;rw[<-hyx,hsrt] at g1 ⊢
   refine ge ?_;refine⟨ziP (ziP htk b1 _) b1 _,.inr ⟨r,cs,b1,rfl,Qh (by rw[Xb];exact(gsi b4).1),g1⟩⟩
 case pos=>
  have hjj:((j:Int)<(ms.length:Int))=True:=Yk Qf0;have hw:=xM (n:=(j:Int)+1) Qf0 Qf0;have hx:=zG (f:=fun x:Nat×List LnE=>[PV.mp x.1]) [] hj;have hmj:=hM _ (Qc hj);have hkt:=zwY ms hj;have hml:=hmle (j+1);generalize ms[j]=x at*;obtain⟨m,es⟩:=x;dsimp only at hx hmj hkt;rw[hkt,Ql,Qr] at hml;have hmG:=zr7 htk hmj.a;refine gf (a6 @hjj @hj @hx @zB @hmG @tmN) ?_;have hit0:(G++[Blk.iter (some m) es.length []])[G.length]? =some (.iter (some m) es.length []):=zA _ _;have hGl:h.length<=G.length:=by have:=Ym List.length htk;rw[Xk] at this;omega
  refine zW (.k:: .k:: .k:: .v:: .k:: .k:: .k:: .d::K4 (K4 (D9 (.d:: .d::K4 (.k::[]))))) (own:=true) (fun s:KS=>[s.V]) (fun s=>s.G) (KI h G.length m es.length es (keysM (ms.take j))) (fun s=>es.length-s.seen.length) ⟨[],G++[.iter (some m) es.length []],V,xs⟩ rfl rfl ⟨ztV htk _,hit0,Kg,Qf1,hout.app _,by simpa using hsel⟩ ?_;rintro⟨sn,G1,V1,xs1⟩ ⟨htk1,hit1,hnd,hlt,hout1,hsel1⟩ t ht;dsimp only at htk1 hit1 hnd hlt hout1 hsel1;simp only[zY] at ht;subst ht;refine ge ?_;have hmG1:=zr7 htk1 hmj.a;have hmlen:(zt7 es).length=es.length:=Qf1;refine uL rfl (R:=fun p h'=>(p= .tup [bo false]/\h'=G1/\ ∀i,i<es.length->i∈sn)\/ ∃i e,es[i]? =some e/\i∉sn/\p= .tup [bo true,yQ (cS e.1.1),.ptr e.2 0]/\h'=G1.set G.length (.iter (some m) es.length (sn++[i])))
   (fun rd _=>OpOk.next (r:=G.length) (m:=m) (es:=zt7 es) (seen:=sn) (fun q hq vs e=>by obtain⟨x, -,rfl⟩:=Xf.1 hq;cases e) rfl rfl (by rw[hmlen];exact hit1) hmG1 (fun hall=> .inl ⟨rfl,rfl,by simpa using hall⟩) (fun i q hq hi=>by
    rw[Qu] at hq;cases he:es[i]? with
    |none=>rw[he] at hq;cases hq
    |some e=>
     rw[he] at hq;cases hq;exact .inr ⟨i,e,he,hi,rfl,by rw[hmlen]⟩)) ?_
  rintro p h' (⟨rfl,rfl,hall⟩|⟨i,e,hei,hns,rfl,rfl⟩) ts2 hts
  ·simp only[zZ,Xn,Xl] at hts;subst hts;refine gf @hw ?_;refine⟨(j+1,⟨[],h',V1,xs1⟩),⟨by dsimp only;omega,htk1,hout1,?_⟩,by dsimp only;omega,rfl,rfl,rfl⟩;dsimp only;rw[hkt];refine hsel1.trans (List.Perm.append_left _ ?_);refine((aK hnd hlt hall).map (yeH es)).trans (List.Perm.of_eq ?_);refine Zc Qf1 fun q h1 h2=> ?_;rw[Xu,List.getElem_range];unfold yeH;rw[Qb,Qa h2];rfl
  ·simp only[zZ,Xn,Xl] at hts;subst hts;refine ge ?_;have xT: ∀b:Blk,(G1.set G.length b)[G.length]? =some b:=fun b=>Qh (gsi hit1).1;have hmS: ∀b:Blk,(G1.set G.length b)[m]? =some (.map (zt7 es)):=fun b=>zr7 (ziP htk1 hGl b) hmj.a;refine uL rfl (R:=fun p h'=>p= .tup [yQ (cS e.1.1),.ptr e.2 0]/\h'=G1.set G.length (.iter (some m) es.length (sn++[i]))) (fun rd _=>OpOk.entry (r:=G.length) (m:=m) (i:=i) (es:=zt7 es) (seen:=sn) (q:=(Value.string (cS e.1.1),PV.ptr e.2 0)) (fun vs e=>by cases e) rfl rfl (by rw[hmlen];exact xT _) (hmS _) (by rw[Qu,hei];rfl) ⟨rfl,rfl⟩) ?_;rintro p h' ⟨rfl,rfl⟩ ts2 hts;simp only[zZ,Xn,Xl] at hts;subst hts;obtain⟨hKe,rest,hre⟩:=hmj.l e (Qk hei);have hreS: ∀b:Blk,(G1.set G.length b)[e.2]? =some (.var 205 (pH e.1.1::rest)):=fun b=>zr7 (ziP htk1 hGl b) hre;refine gf @hreS ?_;have hil:i<es.length:=(gsi hei).1;have hnd2:(sn++[i]).Nodup:=Za.2 ⟨hnd,Qf1,fun a ha b hb=>by simp at hb;subst hb;exact fun q=>hns (q▸ha)⟩;have hlt2: ∀x∈sn++[i],x<es.length:=fun x hx=>by
    exact Qdx
   have hsl2:=qG es.length (sn++[i]) hnd2 hlt2;rw[Ql,Wp] at hsl2;have hms:es.length-(sn++[i]).length<es.length-sn.length:=Qfh;have hxl:xs1.length<=100000:=by
    have:=hsel1.length_eq;rw[Ql,Qr] at this;omega
   have hke:yeH es i=e.1.1:=by
    unfold yeH;rw[Qb,Qu,hei];rfl
   have hsel2:(xs1++[e.1.1]).Perm (keysM (ms.take j)++(sn++[i]).map (yeH es)):=by
    rw[Xq,<-Qv];refine hsel1.append (List.Perm.of_eq ?_);rw[List.map_singleton,hke]
   have htS:=fun b=>ziP htk1 hGl (b:=b);have hoS:=fun b=>hout1.set hit1 b;have hGSl: ∀b:Blk,(G1.set G.length b).length=G1.length:=fun b=>Xb ..;have hG1l:h.length<=G1.length:=by have:=Ym List.length htk1;rw[Xk] at this;omega
   have hitl:=(gsi hit1).1;rcases hout1 with ⟨rfl,rfl⟩|⟨r,b1,b2,rfl,b4⟩
   ·refine gf (Go.AL.a2 @hreS @hGSl) ?_;refine⟨⟨sn++[i],(G1.set G.length (.iter (some m) es.length (sn++[i])))++[.var 50 [pH e.1.1]],.ms G1.length 0 1 1,[e.1.1]⟩,⟨ztV (htS _) _,yJ _ _ _ _ (xT _),hnd2,hlt2,.inr ⟨G1.length,hG1l,Qf1,rfl,?_⟩,hsel2⟩,hms,rfl,rfl,rfl⟩;dsimp only;rw[show G1.length=(G1.set G.length (.iter (some m) es.length (sn++[i]))).length from(hGSl _).symm,zA];rfl
   ·have hrq:r≠G.length:=fun w=>by rw[w,hit1] at b4;cases b4
    have b4S: ∀b:Blk,(G1.set G.length b)[r]? =some (.var 50 (xs1.map fun k=>pH k)):=fun b=>by rw[Qd (Ne.symm hrq)];exact b4
    have a1:((xs1.length+1)*24<=140737488355328)=True:=Yk Qf0;have a2:(xs1.length<=140737488355327)=True:=Yk Qf0;refine gf (a5 @hreS @b4S @a1 @a2 @hGSl) ?_;refine⟨⟨sn++[i],(G1.set G.length (.iter (some m) es.length (sn++[i]))).set r .old++[.var 50 ((xs1.map fun k=>pH k)++[pH e.1.1])],.ms G1.length 0 1 (xs1.length+1),xs1++[e.1.1]⟩,⟨ztV (ziP (htS _) b1 _) _,?_,hnd2,hlt2,.inr ⟨G1.length,hG1l,Qf1,Qf1,?_⟩,hsel2⟩,hms,rfl,rfl,?_⟩
    ·dsimp only;refine yJ _ _ _ _ ?_;rw[Qd hrq];exact xT _
    ·dsimp only;rw[show G1.length=((G1.set G.length (.iter (some m) es.length (sn++[i]))).set r .old).length by rw[Xb,Xb],zA,Xq];rfl
    ·rfl
end Go.AL.N
namespace Go.AL
open Go.Proofs Go.Proofs.Tryz
theorem zsY(cs:List PV)(n:Nat)(h:n<=cs.length):wA cs 0 1 n=(cs.take n).map ([·]):=by
 apply Zh;intro i;unfold wA;rw[Qu,Qu,Xr];by_cases hi:i<n
 ·have:i<cs.length:=Qf0;simp[hi,Qa this,List.take_one,List.head?_drop]
 ·simp[hi]
theorem ya7(ms:List (Nat×List LnE))(h:Heap)(hM: ∀x∈ms,N.KeysM h x.1 x.2)(hz:(N.keysM ms).length<=100000)(hz2:ms.length<=1000):
  ECall prog G0 50 [.tc 1 (ms.map fun x=>[PV.mp x.1])] h fun p h'=>p= .ts 1 ((aO (N.keysM ms)).map fun k=>[pH k])/\h'=h:=by
 refine⟨.ts 1 ((aO (N.keysM ms)).map fun k=>[pH k]),h,⟨rfl,rfl⟩,?_⟩;refine ACall.weaken ((ACall.cut3 (R:=fun p=>(N.keysM ms=[]/\p= .nil)\/p= .ts 1 ((aO (N.keysM ms)).map fun k=>[pH k])) ((N.keys_n ms h hM hz hz2).mono ?_)).mono ?_)
 ·rintro p h' ⟨h1,⟨h2,rfl⟩|⟨r,cs,h2,rfl,h3,h4⟩⟩
  ·exact⟨h1,.inl ⟨h2,rfl⟩⟩
  ·refine⟨h1,.inr ?_⟩;rw[ydQ 39 r 0 1 _ Qf0 h3];have hn:(aO (N.keysM ms)).length<=cs.length:=by
    have:=Ym List.length h4;rw[Xk,Qr] at this;omega
   rw[zsY _ _ (by rw[Qr];exact hn),<-List.map_take,h4,Zg,Zg];congr 1;refine Yq fun k _=> ?_;have:fz h.length h' 39 (pH k)=pH k:=vE _ _ 39 _ (all_map fun _=>rfl);simp only[Function.comp_apply,this]
 ·rintro p h' ⟨⟨h1,rfl⟩|rfl,rfl⟩
  ·refine⟨_,?_,rfl,rfl⟩;rw[h1];exact PLe.nil_ts 1
  ·exact⟨_,PLe.refl _,rfl,rfl⟩
end Go.AL
namespace Go.AL
open Go.RowKit
def kcs(vs:Array Value):List PV:=vs.toList.map .sc
theorem zxY{S:St}{vs:Array Value}{u:Value}(h:VRel S (.agg (kcs vs)) u):u= .agg vs:=by
 cases h with
 |agg hl h1 h2=>
  rename_i us;congr 1;refine Array.ext (by simpa [kcs] using hl) fun i hi hj=> ?_;have:=h2 i (.sc vs[i]) us[i] (by simp[kcs,hj]) (Qx hi);generalize us[i]=a at this ⊢
  generalize vs[i]=b at this ⊢
  cases this;rfl
theorem zwC{P:Program}{kt:TypeId}(L:WideMaps.KeyLaw P kt){w:World}{x:Value}{lx:Lit}(hx:keyOf P kt x=some lx){es:List (Value×PV)}{l:List MapEntry}(hl:l.length=es.length)
  (hk: ∀(j:Nat)(e:MapEntry)(q:Value×PV),l[j]? =some e->es[j]? =some q->e.key=q.1) (hes: ∀q∈es, ∃l,keyOf P kt q.1=some l):
  ((Instr.findKey kt x l).run P w= .ok none w/\ ∀q∈es,q.1≠x)\/ ∃(j:Nat)(e:MapEntry)(q:Value×PV),(Instr.findKey kt x l).run P w= .ok (some (j,e.val)) w/\l[j]? =some e/\es[j]? =some q/\q.1=x:=by
 have hkey: ∀e∈l, ∃l,keyOf P kt e.key=some l:=fun e he=>by
  obtain⟨j,hj⟩:=Zq he;have hjl:j<es.length:=by rw[<-hl];exact(gsi hj).1
  rw[hk j e _ hj (Qa hjl)];exact hes _ (Qc hjl)
 rcases L.find w hx l hkey with ⟨h1,h2⟩|⟨j,e,h1,h2,h3⟩
 ·refine .inl ⟨h1,fun q hq e=> ?_⟩;obtain⟨j,hj⟩:=Zq hq;have hjl:j<l.length:=by rw[hl];exact(gsi hj).1
  exact h2 _ (Qc hjl) (by rw[hk j _ q (Qa hjl) hj];exact e)
 ·have hjl:j<es.length:=by rw[<-hl];exact(gsi h2).1
  exact .inr ⟨j,e,es[j],h1,h2,Qa hjl,by rw[<-hk j e _ h2 (Qa hjl)];exact h3⟩
section
variable{P:Program}{G:Glob}{rd:Option Nat}
theorem OpOk.lookS{o:Oper}{h:Heap}{F:Operand->PV}{R:PV->Heap->Prop}{t kt et:TypeId}{d:TypeDesc}{m k:Operand}{ok:Bool}{r:Nat}{es:List (Value×PV)}{vs:Array Value}{lx:Lit}{z:Value}
  (L:WideMaps.KeyLaw P kt) (ho:o.op= .lookup t m k ok) (ht:kC P t=some (kt,d,et)) (hm:F m= .mp r) (hb:h[r]? =some (.map es)) (hk:F k= .agg (kcs vs)) (hz:(P.info? et).bind (·.zero)=some z)
  (hx:keyOf P kt (.agg vs)=some lx) (hes: ∀q∈es, ∃l,keyOf P kt q.1=some l)
  (k0:(∀q∈es,q.1≠ .agg vs)->R (if ok then .tup [nI z,.sc (.bool false)] else nI z) h)
  (k1: ∀(j:Nat)(q:Value×PV),es[j]? =some q->q.1= .agg vs->R (if ok then .tup [q.2,.sc (.bool true)] else q.2) h):OpOk P G rd o h F R:=by
 refine .of_run Qgq fun φ w X ρ hS hG hv=> ?_;have h1:=hv m Qh4;have h2:=hv k Qh4;rw[hm] at h1;rw[hk] at h2;obtain⟨t1,t2⟩:=ydV ht;have hu: ∃b,ρ m= .map (some b)/\φ[r]? =some (.map (some b)):=by
  generalize ρ m=u at h1;exact Qea
 obtain⟨b,hu,hp⟩:=hu;have hkv:=zxY h2;obtain⟨b',clock,ar,e1,hh,hsz,_,hrel⟩:=hS.blks r _ _ hb hp;cases e1;have hl:ar.toList.length=es.length:=Qg7;have fin: ∀(y:Option (Nat×Value)),(Instr.findKey kt (.agg vs) ar.toList).run P w= .ok y w->(Instr.lookup t (ρ m) (ρ k) ok).run P w=(match y with
   |some (_,y)=> .ok (if ok then .tuple #[y,.bool true] else y) w
   |none=> .ok (if ok then .tuple #[z,.bool false] else z) w):=fun y hy=>by
  rw[hu,hkv];simp only[Instr.lookup,Xp,Xc t1,Xd,Yc,MapKept.run_getObj_map hh,L.check w _ hx,hy];cases y with
  |none=>simp[lO hz,Result.andThen]
  |some y=>simp[Result.andThen]
 have ex: ∀v,(Instr.lookup t (ρ m) (ρ k) ok).run P w= .ok v w->(execOp ρ o).run P w= .ok (.value v) w:=fun v hv=>by
  unfold execOp;rw[ho];simp only[Xp,hv,Xd,Yc]
 rcases zwC L hx hl (fun j e q a b=>(hrel j e q (by simpa using a) b).1) hes with ⟨a,b⟩|⟨j,e,q,a,b,c,d'⟩
 ·refine⟨φ,h,w,_,if ok then .tuple #[z,.bool false] else z,?_,Ext.refl _,hS,?_,k0 b⟩
  ·exact ex _ (fin none a)
  ·cases ok
   ·exact sN _ z
   ·refine .tup rfl fun i p y hp hy=> ?_
    match i with
    |0=>simp at hp hy;subst hp;subst hy;exact sN _ z
    |1=>simp at hp hy;subst hp;subst hy;exact .sc trivial
    |i+2=>simp at hp
 ·have hq:=(hrel j e q (by simpa using b) c).2;refine⟨φ,h,w,_,if ok then .tuple #[e.val,.bool true] else e.val,?_,Ext.refl _,hS,?_,k1 j q c d'⟩
  ·exact ex _ (fin _ a)
  ·exact Qbc
theorem OpOk.newS{o:Oper}{h:Heap}{F:Operand->PV}{R:PV->Heap->Prop}{t kt et:TypeId}{d:TypeDesc}{m k x:Operand}{r:Nat}{es:List (Value×PV)}{vs:Array Value}{lx:Lit}
  (L:WideMaps.KeyLaw P kt) (ho:o.op= .mapUpdate t m k x) (ht:kC P t=some (kt,d,et)) (hm:F m= .mp r) (hb:h[r]? =some (.map es)) (hk:F k= .agg (kcs vs))
  (hx:keyOf P kt (.agg vs)=some lx) (hes: ∀q∈es, ∃l,keyOf P kt q.1=some l) (hne: ∀q∈es,q.1≠ .agg vs)
  (k0:R .ud (h.set r (.map (es++[(.agg vs,F x)])))):OpOk P G rd o h F R:=by
 refine .of_skip Qgq fun φ w X ρ hS hG hv=> ?_;have h1:=hv m Qh4;have h2:=hv k Qh4;have h3:=hv x Qh4;rw[hm] at h1;rw[hk] at h2;obtain⟨t1,t2⟩:=ydV ht;have hu: ∃b,ρ m= .map (some b)/\φ[r]? =some (.map (some b)):=by
  generalize ρ m=u at h1;exact Qea
 obtain⟨b,hu,hp⟩:=hu;have hkv:=zxY h2;obtain⟨b',clock,ar,e1,hh,hsz,hborn,hrel⟩:=hS.blks r _ _ hb hp;cases e1;have hl:ar.toList.length=es.length:=Qg7;have hz: ∀(w':World),(∀k,k≠b->w'.heap[k]? =w.heap[k]?)-> ∀b1 m,St.Row ⟨φ,h,w,X⟩ b1 m->St.Row {(⟨φ,h,w,X⟩:St) with w:=w'} b1 m:=by
  rintro w' hw b1 m ⟨ar1,t1,f1,hr1,hm1⟩;exact Qci
 rcases zwC L (w:=w) hx hl (fun j e q a b=>(hrel j e q (by simpa using a) b).1) hes with ⟨a,_⟩|⟨j,e,q,a,b,c,d'⟩
 ·let w':World:={w with heap:=w.heap.setIfInBounds b (.map (ar.push {key:= .agg vs,val:=ρ x,born:=clock}) (clock+1))}
  have hw: ∀k,k≠b->w'.heap[k]? =w.heap[k]? :=fun k hk=>(MapKept.heap_set hh).2 k hk;have hS2:=ydW (es':=es++[(.agg vs,F x)]) hS hp hb (w':=w') rfl ztC rfl Qf8 hw (hz _ hw) (MapKept.heap_set hh).1 Qfi ⟨by simp[hborn.1],fun q hq=>(Qo.1 hq).elim (hborn.2.1 q) (fun h=>by simp at h;subst h;exact .inr ⟨_,rfl⟩),fun i e he=>by
    rw[Ke] at he;split at he
    ·rename_i hi;cases he;rw[hi];exact hborn.1
    ·exact hborn.2.2 i e he⟩ (fun i e q he hq=>by
    rw[Ke] at he;split at he
    ·rename_i hi;cases he;rw[Qs,Qi Qf0,hi,hsz,Nat.sub_self] at hq;cases hq;exact⟨rfl,h3⟩
    ·rename_i hi;have hi':i<ar.size:=(Qz.1 he).1;rw[Qs,Qj Qf0] at hq;exact hrel i e q he hq)
  refine⟨φ,_,w',?_,oP hS hp hb rfl ztC rfl Qf8 hw (hz _ hw),hS2,k0⟩;unfold execOp;rw[ho];have hrun:(Instr.mapUpdate t (ρ m) (ρ k) (ρ x)).run P w= .ok () w':=by
   rw[hu,hkv];simp[Instr.mapUpdate,Xc t1,MapKept.run_getObj_map hh,L.check w _ hx,a,MapKept.run_setObj_map _ hh,Result.andThen,w']
  simp only[Xp,hrun,Xd,Yc]
 ·exact absurd d' (hne q (Qk c))
end
end Go.AL
namespace Go.AL
open Go.Proofs Go.Proofs.Tryz
def sA:Option Fa->BA
 |none=>⟨#[]⟩
 |some g=>cS g.args
def sE:Option Fa->Int
 |none=>0
 |some g=>g.elem
def fP(i:Int):Option Fa->Int
 |none=>i
 |some g=>g.pred
def fA:Option Fa->PV
 |none=> .nil
 |some g=>pH g.args
def fE:Option Fa->Int
 |none=> -1
 |some g=>g.elem
theorem yaZ(o:Option Fa):yaW o=[yQ (sA o),i64 (sE o),bo o.isSome]:=by cases o<;>rfl
theorem ya8(i:Int)(o:Option Fa):ybC i o=[i64 (fP i o),fA o,i64 (fE o)]:=by cases o<;>rfl
theorem ydR(a b:BA)(x y:Int)(c d:Bool):za2 (α:=Prop) prog 201 (.agg [yQ a,i64 x,bo c]) (.agg [yQ b,i64 y,bo d])=some (decide (a=b)&&(x==y&&((c==d)&&true)),True):=Qf3
def GdO(i:Int)(o:Option Fa):Prop:= ∀g,o=some g->g.pred=i/\Key g.args/\In64 g.elem
theorem zu8{i:Int}{a b:Option Fa}(ha:GdO i a)(hb:GdO i b):(decide (sA a=sA b)&&(sE a==sE b&&((a.isSome==b.isSome)&&true)))=ze8 (a=b):=by
 by_cases q:a=b
 ·subst q;rw[pO rfl];simp
 ·rw[uA q,Bool.eq_false_iff];intro w;rw[Qt,Qt,Qt,Wz,Zm,Zm] at w;obtain⟨w1,w2,w3, -⟩:=w;apply q;cases a with
  |none=>cases b with
   |none=>rfl
   |some b=>simp at w3
  | some a=>cases b with
   |none=>simp at w3
   |some b=>
    obtain⟨p1,k1, -⟩:=ha a rfl;obtain⟨p2,k2, -⟩:=hb b rfl;have e:a.args=b.args:=zwF (fun v hv=>(zqC v).2 (k1.2 v hv)) (fun v hv=>(zqC v).2 (k2.2 v hv)) w1;obtain⟨pa,aa,ea⟩:=a;obtain⟨pb,ab,eb⟩:=b;dsimp only at p1 p2 e;have w2:ea=eb:=w2;subst p1;subst e;subst w2;rw[p2];rfl
theorem ydU:WideMaps.KeyLaw prog 214:=deep_law (m:=3) Qf0 Qf3 Qf3 Qf3
def kG(a b c:Option Fa):Array Value:= #[.string (sA a),.int .i64 (sE a),.bool a.isSome,.string (sA b),.int .i64 (sE b),.bool b.isSome,.string (sA c),.int .i64 (sE c),.bool c.isSome]
theorem yaU:prog.cellsOf 201=3:=Qf3
theorem ce_tr:prog.cellsOf 214=9:=Qf3
theorem ce_s:prog.cellsOf 9=1:=Qf3
theorem ce_i:prog.cellsOf 3=1:=Qf3
theorem ce_b:prog.cellsOf 4=1:=Qf3
theorem kl_st(D:Nat)(s:BA)(e:Int)(b:Bool)(hs:s.size<=maxLen)(he:(Lit.int .i64 e).wf=true):prog.keyLits (D+2) 201 [.string s,.int .i64 e,.bool b]=some [.string s.data.toList,.int .i64 e,.bool b]:=by
 simp[Program.keyLits,Tryz.underlying201,Tryz.underlying9,Tryz.underlying3,Tryz.underlying4,yaU,ce_s,ce_i,ce_b,hs,he]
theorem zyT(s1 s2 s3:BA)(e1 e2 e3:Int)(b1 b2 b3:Bool)(h1:s1.size<=maxLen)(h2:s2.size<=maxLen)(h3:s3.size<=maxLen)(k1:(Lit.int .i64 e1).wf=true)(k2:(Lit.int .i64 e2).wf=true)(k3:(Lit.int .i64 e3).wf=true): ∃l,keyOf prog 214 (.agg #[.string s1,.int .i64 e1,.bool b1,.string s2,.int .i64 e2,.bool b2,.string s3,.int .i64 e3,.bool b3])=some l:=by
 have h2t:decide (2<=prog.types.size)=true:=Qf3;have h2t:=Xj h2t;obtain⟨D,hD⟩: ∃D,prog.types.size+1=D+3:=⟨prog.types.size-2,Qf0⟩
 have hf:(Value.agg #[.string s1,.int .i64 e1,.bool b1,.string s2,.int .i64 e2,.bool b2,.string s3,.int .i64 e3,.bool b3]).formed prog 214=true:=Qf3;have hk:prog.keyType 214=true:=Qf3;unfold keyOf;rw[Tryz.underlying214];simp only[hf,hk,Jl,Wk,hD,Value.cells];unfold Program.keyLits;simp[Tryz.underlying214,ce_tr,yaU,kl_st,h1,h2,h3,k1,k2,k3]
@[go_sem] def UBsx5f126.pp:Nat->DPlan
 |1=>⟨[yA,yA,yB,yA,yA,yB,yA,yB,yA,yA,yA,yA],xF,0⟩
 |9=>⟨[yA,yB,yA,yB,yA,yA,yA,yB,yB,yC],xS,0⟩
 |12=>⟨[yA,yA,yA,yB,yA,yA,yA,yA,uX,yA,yC],vJ,0⟩
 |_=>⟨[],[],0⟩
@[go_sem] def UBsx5f127.pp:Nat->DPlan
 |4=>⟨[yB,yA,yB,yA,yB,yA,yB,yA,yB,uX,yC],vJ,0⟩
 |5=>⟨[yA,yA,yA,yB,yA,yA,yA,yA,yB,yA,yA,yB,yA,yA,yB,yA,yB,yA,uX,yA,yC],pR,0⟩
 |_=>⟨[],[],0⟩
@[go_sem] def UBsx5f176.pp:Nat->DPlan
 |2=>⟨[yA,yA,yA,yB,yA,yA,yB,yA,yB,yA,yA,yA,yB,yA,yB,yA,yA,yA,yB,yA,yA,yB,yA,yA,yB,yA,yB,yA,uX,yA,yC],yd1,0⟩
 |_=>⟨[],[],0⟩
@[go_sem] def UBsx5f126.pl:Nat->DPlan
 |1=>⟨[yA,yA,yB,yA,yA,yB,yA,yB,yA,yA,yA,yA],xF,0⟩
 |9=>⟨[yA,yB,yA,yB,yA,yA,yA,yB,yB,yC],xS,0⟩
 |12=>⟨[yA,yA,yA,⟨7,0,[1001]⟩,yA,yA,yA,yA,⟨6,0,[1001]⟩,yA,yC],vJ,0⟩
 |_=>⟨[],[],0⟩
@[go_sem] def UBsx5f127.pl:Nat->DPlan
 |4=>⟨[⟨7,0,[1003]⟩,yA,⟨7,0,[1005]⟩,yA,yB,yA,yB,yA,yB,⟨6,0,[1003,1005]⟩,yC],vJ,0⟩
 |5=>⟨[yA,yA,yA,⟨7,0,[1001]⟩,yA,yA,yA,yA,yB,yA,yA,yB,yA,yA,yB,yA,yB,yA,⟨6,0,[1001]⟩,yA,yC],pR,0⟩
 |_=>⟨[],[],0⟩
structure ActX(d':Dt)(q rq lq:Nat)(h h':Heap):Prop where
 d:DataAt d' q rq lq h'
 k: ∀(r:Nat)(b:Blk),r≠rq->r≠lq->h[r]? =some b->h'[r]? =some b
theorem ActX.pQ{d:Dt}{q rq lq i:Nat}{h:Heap}(hD:DataAt d q rq lq h)(z:List LRw)(B:Heap):ActX ⟨d.pg,d.pQ.set i z⟩ q rq lq h (h.set lq (.var 124 ((d.pQ.set i z).map vD))++B):=by
 obtain⟨n1,n2,n3⟩:=hD.ne;have hl:=(gsi hD.l).1;have keep: ∀(r:Nat)(b:Blk),r≠lq->h[r]? =some b->(h.set lq (.var 124 ((d.pQ.set i z).map vD))++B)[r]? =some b:=fun r b hr hb=>by
  rw[Qg (by rw[Xb];exact(gsi hb).1),Qd (Ne.symm hr)];exact hb
 refine⟨⟨by simpa using keep q _ n2 hD.t,keep rq _ n3 hD.r,?_⟩,fun r b _ hr hb=>keep r b hr hb⟩;rw[Qg (by rw[Xb];exact hl),Qh hl]
theorem ActX.pg{d:Dt}{q rq lq i:Nat}{h:Heap}(hD:DataAt d q rq lq h)(z:List Rw)(B:Heap):ActX ⟨d.pg.set i z,d.pQ⟩ q rq lq h (h.set rq (.var 95 ((d.pg.set i z).map uN))++B):=by
 obtain⟨n1,n2,n3⟩:=hD.ne;have hl:=(gsi hD.r).1;have keep: ∀(r:Nat)(b:Blk),r≠rq->h[r]? =some b->(h.set rq (.var 95 ((d.pg.set i z).map uN))++B)[r]? =some b:=fun r b hr hb=>by
  rw[Qg (by rw[Xb];exact(gsi hb).1),Qd (Ne.symm hr)];exact hb
 refine⟨⟨by simpa using keep q _ n1 hD.t,?_,keep lq _ (Ne.symm n3) hD.l⟩,fun r b hr _ hb=>keep r b hr hb⟩;rw[Qg (by rw[Xb];exact hl),Qh hl]
attribute [-go_sem] only
attribute [go_sem] only
@[go_sem] def UMw7f114.pp:Nat->DPlan
 |3=>⟨[yA,yA,yA,yB,yA,yB,yA,yB,yA,yA,yB,yA,yA,yA,yB,yA,yB,yA,yB,yA,yB,yB,yA,yB,uX,yA,yC],yaS,0⟩
 |4=>⟨[yA,yA,yA,yB,yA,yB,yA,yA,yA,yB,yA,yB,yA,yB,yA,yB,yB,yA,uX,yA,yC],pR,0⟩
 |_=>⟨[],[],0⟩
attribute [-go_sem] only
theorem zzG(i:Int)(m:Nat)(es:List LnE)(h:Heap)(hL:Lns i m es h)(key:List Vl)(hk:Key key):
  ECall prog G0 52 [.mp m,i64 i,pH key] h fun p h'=> ∃(r:Nat)(B:Heap),p= .ptr r 0/\h'=h++B/\h'[r]? =some (.var 205 (zuI i key (iD (es.map (·.1)) key) (iD (es.map (·.1)) key))):=by
 refine pv func52 19 false Qf3 rfl rfl ?_;refine g2 ?_;refine ge ?_;(refine g1 ?_;refine zC ((ztZ key hk.1 hk.2).call zK Qf1 _) (yf0 ?_);rintro p2 h2 ⟨rfl,e2⟩);replace e2:=e2.symm;subst e2;rcases zvF (fun e he=>(hL.k e he).2) hk.2 0 with ⟨hm,hkn2⟩|⟨j,e0,hm,hj,he0⟩
 ·have hlk:=zv8 hL.a hm;have hat:iD (es.map (·.1)) key=zyH:=zxO (by rw[Zg];exact hkn2);rw[hat];obtain⟨N,hN⟩: ∃N,N=zyH:=⟨_,rfl⟩
  have hne:=zy7 i key h;rw[<-hN] at hne ⊢
  have hneq:za2 (α:=Prop) prog 117 (.sc (.pointer none)) (.sc (.pointer none))=some (true,True):=zvN;refine gf (a2 @hlk @zvN) ?_;(refine g1f @hlk ?_;refine zC (hne) (yf0 ?_);rintro p2 h2 ⟨rfl,rfl⟩);refine ge ?_;exact⟨_,_,rfl,rfl,zA _ _⟩
 ·have hlk:=zsC hL.a hm;obtain⟨⟨key2,M⟩,r⟩:=e0;dsimp only at he0 hlk;subst he0;have hmem:(key2,M)∈es.map (·.1):=Xf.2 ⟨_,Qk hj,rfl⟩;have hat:iD (es.map (·.1)) key2=M:=zxN (x:=(key2,M)) (by rw[Zg];exact hL.d) hmem;rw[hat];refine gf (a2 @hlk @zxS) ?_;exact⟨r,[],rfl,(Xz _).symm,(hL.l _ (Qk hj)).2⟩
theorem zx3(p:Pg)(hp:p.ok)(hle:p.sm)(N:Nat)(hN:N<=17179869184)(d:Dt)(hX:DatX p d)(hLn:LenD N d)(q rq lq:Nat)(h:Heap)(hD:DataAt d q rq lq h)(i:Nat)(key:List Vl)(g:Fa)(hF:FcX p i key g)(m:Nat)(hm:m<64)(hno:ztF p d i key m=none):
  ECall prog G0 114 [.agg p.c,.ptr q 0,.agg g.c,.agg [i64 m,i64 ((m:Int)+1)]] h fun v h'=>v= .tup []/\ActX (zl0 p d (zz7 g m)) q rq lq h h':=by
 refine pv func114 64 false Qf3 rfl rfl ?_;refine g2 ?_;have hd:DtS p N d:=zrM hX hLn (fun x hx=>by
  have:=(znP hp hle hX.tv).2 x hx;omega)
 have hi:=hF.hi;have ho:=hF.op hp hle hX hm;have hgp:=hF.pr;have hir:i<d.pg.length:=by rw[hd.rl];exact hi
 have hil:i<d.pQ.length:=by rw[hd.ll];exact hi
 obtain⟨-,hX2,hX3⟩:=hX.at' i hi hir hil;have hx:=zG (f:=Pd.c) [] hi;have hpi:(0<=g.pred)=True:=Yk Qf0;have hpl:(g.pred<(p.pk.length:Int))=True:=Yk Qf0;have hpt:g.pred.toNat=i:=Qf0;have hadd:=zz6 hp hle hX hF hm hno;unfold ydS at hadd;rw[hpt,eD hi,eD hir,eD hil] at hadd;rw[<-hadd];have htA: ∀l:List Blk,(h++l)[q]? =some (.var 31 [.ms rq 0 1 d.pg.length,.ms lq 0 1 d.pQ.length]):=fun l=>yJ _ _ _ _ hD.t;have hrA: ∀l:List Blk,(h++l)[rq]? =some (.var 95 (d.pg.map uN)):=fun l=>yJ _ _ _ _ hD.r;have hlA: ∀l:List Blk,(h++l)[lq]? =some (.var 124 (d.pQ.map vD)):=fun l=>yJ _ _ _ _ hD.l;have hrl:rq<h.length:=(gsi hD.r).1;have hll:lq<h.length:=(gsi hD.l).1;have hsA: ∀(l:List Blk)(b:Blk),(h++l).set rq b=h.set rq b++l:=fun l b=>Ko _ _ hrl;have hsL: ∀(l:List Blk)(b:Blk),(h++l).set lq b=h.set lq b++l:=fun l b=>Ko _ _ hll;have hd0:=yU uN d.pg i .un hir;have hd1:=yU vD d.pQ i .un hil;have hsp: ∀v,(d.pg.map uN).take i++uN v::(d.pg.map uN).drop (i+1)=(d.pg.set i v).map uN:=fun v=>wY uN d.pg i v hir;have hsq: ∀v,(d.pQ.map vD).take i++vD v::(d.pQ.map vD).drop (i+1)=(d.pQ.set i v).map vD:=fun v=>wY vD d.pQ i v hil;have hpd:(g.pred<(d.pg.length:Int))=True:=Yk Qf0;have hpe:(g.pred<(d.pQ.length:Int))=True:=Yk Qf0;by_cases hof:p.pk[i].of'= -1
 ·obtain⟨-,hRX, -⟩:=hX3 hF.b hof;obtain⟨hz1,hz2⟩:=hd.r i hi hir;have fin:=fun (z:List Rw) (B:Heap)=>ActX.pg (i:=i) hD z B;rw[Qj hof];have e0:decide ((0:Int)<=p.pk[i].of')=false:=by rw[hof];decide
  have hls: ∀x∈d.pg[i],x.ls:=fun x hx=>(hz2 x hx).2;have F:=(a9 @htA @hrA @hsA @rU @sB @hx @hpi @hpl (a6 @hpt @hpd @hi @hir @hd0 @e0))
  have hal:=ho.ls;have hsg:=ho.s;generalize p.pk[i]=x at*;generalize d.pg[i]=z at*;(repeat(first|refine gz ?_|(refine gn ?_;intro zs zh;(try simp only[go_sem,F] at zh);subst zh;refine gv ?_)|refine yD UMw7f114.pp ?_));(refine yf1 F ?_;refine vP rfl (((zp2 z g.args ⟨m,(m:Int)+1⟩ Qf0 hls hRX.1 hal hsg).args (.cons (PLe.refl _) (.cons (PLe.refl _) (.cons (PLe.tc_ts 2 _) .nil))))) (by simp[zJ,oM]) ?_;intro p2 hr2 ts2 hts;simp only[go_sem] at hts;subst hts);subst hr2;(repeat(first|refine gz ?_|(refine gn ?_;intro zs zh;(try simp only[go_sem,F,hsp] at zh);subst zh;refine gv ?_)|refine yD UMw7f114.pp ?_));exact⟨rfl,fin _ _⟩
 ·have hof2:0<=p.pk[i].of'/\p.pk[i].of'<p.pQ.length:=by
   have h1:=ho.hof;omega
  have hol:p.pk[i].of'.toNat<p.pQ.length:=Qf0;have hck:=((hX2 hF.b hof).2 hol).1;have hal:g.args.length<=1048576:=by rw[hF.ax.1];exact ho.htl
  have hlo:=hp.l _ (Qc hol);have hy:=zG (f:=La.c) [] hol;obtain⟨hz1,hz2⟩:=hd.l i hil;have hsz:=hF.ax.sz;have fin:=fun (z:List LRw) (B:Heap)=>ActX.pQ (i:=i) hD z B;rw[Qi hof,eD hol];have e0:decide ((0:Int)<=p.pk[i].of')=true:=Qfh;have ho0:(0<=p.pk[i].of')=True:=Yk Qf0;have ho1:(p.pk[i].of'<(p.pQ.length:Int))=True:=Yk Qf0;have F1:=(a9 @htA @hlA @hsL @rU @sB @hx @hy @hpi (a9 @hpl @hpt @hpe @hi @hil @hd1 @e0 @hol (a2 @ho1 @ho0)))
  unfold aV;generalize p.pQ[p.pk[i].of'.toNat]=lt at*;generalize p.pk[i]=x at*;generalize d.pQ[i]=z at*;(repeat(first|refine gz ?_|(refine gn ?_;intro zs zh;(try simp only[go_sem,F1] at zh);subst zh;refine gv ?_)|refine yD UMw7f114.pp ?_));(refine yf1 (a9 @htA @hlA @hsL @rU @sB @hx @hy @hpi (a9 @hpl @hpt @hpe @hi @hil @hd1 @e0 @hol (a2 @ho1 @ho0))) ?_;refine vP rfl (zrW lt hlo hck z Qf0 hz2 g.args hal hsz m ((m:Int)+1) g.elem) Qfb ?_;intro p2 hr2 ts2 hts;simp only[go_sem] at hts;subst hts);subst hr2;(repeat(first|refine gz ?_|(refine gn ?_;intro zs zh;(try simp only[go_sem,F1,hsq] at zh);subst zh;refine gv ?_)|refine yD UMw7f114.pp ?_));exact⟨rfl,fin _ _⟩
attribute [go_sem] only
end Go.AL
