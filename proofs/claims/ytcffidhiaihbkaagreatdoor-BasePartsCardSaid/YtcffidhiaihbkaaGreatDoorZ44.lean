/-
  The walk as a program, with a table of calls whose outcome is known.
-/
import Derived.Test.YtcffidhiaihbkaaGreatDoorZ43
set_option linter.unusedSimpArgs false
set_option linter.unusedVariables false
set_option maxRecDepth 100000
set_option maxHeartbeats 4000000
namespace Go.AL
open Go.Proofs Go.Proofs.Tryz
@[go_sem] def UBsx5f59.pp:Nat→DPlan
 |1=>⟨[yA,yA,yB,yA,yA,yB,yA,yB,yA,yA,yA,yA],xF,0⟩
 |9=>⟨[yA,yB,yA,yB,yA,yA,yA,yB,yB,yC],xS,0⟩
 |12=>⟨[yA,yA,yA,yB,yA,yA,yA,yA,uX,yA,yC],vJ,0⟩
 |_=>⟨[],[],0⟩
@[go_sem] def UBsx5f60.pp:Nat→DPlan
 |4=>⟨[yB,yA,yB,yA,yB,yA,yB,yA,yB,uX,yC],vJ,0⟩
 |5=>⟨[yA,yA,yA,yB,yA,yA,yA,yA,yB,yA,yA,yB,yA,yA,yB,yA,yB,yA,uX,yA,yC],pR,0⟩
 |_=>⟨[],[],0⟩
@[go_sem] def UBsx5f86.pp:Nat→DPlan
 |2=>⟨[yA,yA,yA,yB,yA,yA,yB,yA,yB,yA,yA,yA,yB,yA,yB,yA,yA,yA,yB,yA,yA,yB,yA,yA,yB,yA,yB,yA,uX,yA,yC],pQ,0⟩
 |_=>⟨[],[],0⟩
@[go_sem] def UBsx5f59.pl:Nat→DPlan
 |1=>⟨[yA,yA,yB,yA,yA,yB,yA,yB,yA,yA,yA,yA],xF,0⟩
 |9=>⟨[yA,yB,yA,yB,yA,yA,yA,yB,yB,yC],xS,0⟩
 |12=>⟨[yA,yA,yA,⟨7,0,[1001]⟩,yA,yA,yA,yA,⟨6,0,[1001]⟩,yA,yC],vJ,0⟩
 |_=>⟨[],[],0⟩
@[go_sem] def UBsx5f60.pl:Nat→DPlan
 |4=>⟨[⟨7,0,[1003]⟩,yA,⟨7,0,[1005]⟩,yA,yB,yA,yB,yA,yB,⟨6,0,[1003,1005]⟩,yC],vJ,0⟩
 |5=>⟨[yA,yA,yA,⟨7,0,[1001]⟩,yA,yA,yA,yA,yB,yA,yA,yB,yA,yA,yB,yA,yB,yA,⟨6,0,[1001]⟩,yA,yC],pR,0⟩
 |_=>⟨[],[],0⟩
structure ActX (d':Dt) (q rq lq:Nat) (h h':Heap):Prop where
 d:DataAt d' q rq lq h'
 k: ∀ (r:Nat) (b:Blk),r≠rq→r≠lq→h[r]? =some b→h'[r]? =some b
theorem ActX.of_app {d':Dt} {q rq lq:Nat} {h h' B:Heap} (a:ActX d' q rq lq (h++B) h'):ActX d' q rq lq h h':=⟨a.d,fun r b h1 h2 hb=>a.k r b h1 h2 (yJ _ _ _ _ hb)⟩
theorem ActX.lats {d:Dt} {q rq lq i:Nat} {h:Heap} (hD:DataAt d q rq lq h) (z:List LRw) (B:Heap):ActX ⟨d.rels,d.lats.set i z⟩ q rq lq h (h.set lq (.var 89 ((d.lats.set i z).map vD))++B):=by
 obtain ⟨n1,n2,n3⟩:=hD.ne
 have hl:=(gsi hD.l).1
 have keep: ∀ (r:Nat) (b:Blk),r≠lq→h[r]? =some b→(h.set lq (.var 89 ((d.lats.set i z).map vD))++B)[r]? =some b:=fun r b hr hb=>by
  rw [List.getElem?_append_left (by rw [List.length_set];exact (gsi hb).1),List.getElem?_set_ne (Ne.symm hr)];exact hb
 refine ⟨⟨by simpa using keep q _ n2 hD.t,keep rq _ n3 hD.r,?_⟩,fun r b _ hr hb=>keep r b hr hb⟩
 rw [List.getElem?_append_left (by rw [List.length_set];exact hl),List.getElem?_set_self hl]
theorem ActX.rels {d:Dt} {q rq lq i:Nat} {h:Heap} (hD:DataAt d q rq lq h) (z:List Rw) (B:Heap):ActX ⟨d.rels.set i z,d.lats⟩ q rq lq h (h.set rq (.var 63 ((d.rels.set i z).map uN))++B):=by
 obtain ⟨n1,n2,n3⟩:=hD.ne
 have hl:=(gsi hD.r).1
 have keep: ∀ (r:Nat) (b:Blk),r≠rq→h[r]? =some b→(h.set rq (.var 63 ((d.rels.set i z).map uN))++B)[r]? =some b:=fun r b hr hb=>by
  rw [List.getElem?_append_left (by rw [List.length_set];exact (gsi hb).1),List.getElem?_set_ne (Ne.symm hr)];exact hb
 refine ⟨⟨by simpa using keep q _ n1 hD.t,?_,keep lq _ (Ne.symm n3) hD.l⟩,fun r b hr _ hb=>keep r b hr hb⟩
 rw [List.getElem?_append_left (by rw [List.length_set];exact hl),List.getElem?_set_self hl]
theorem zqL (p:Pg) (hp:p.ok) (N:Nat) (hN:N≤68719476736) (d:Dt) (hd:DtS p N d) (q rq lq:Nat) (h:Heap) (hD:DataAt d q rq lq h) (o:Op1) (i:Nat) (hi:i<p.preds.length) (hoi:o.pred=i) (hof:0≤p.preds[i].of'∧p.preds[i].of'<p.lats.length) (hol:p.preds[i].of'.toNat<p.lats.length) (hil:i<d.lats.length) (hck:uE p.lats[p.preds[i].of'.toNat]=0) (hal:o.args.length≤1048576) (hs: ∀ a∈o.args,a.s.size≤16) (e:Int):
  ECall prog G0 86 [.agg p.c,.ptr q 0,.agg o.c,i64 e] h fun v h'=>v= .tup []∧ActX ⟨d.rels,d.lats.set i (uY (oU p.lats[p.preds[i].of'.toNat]) (za9 p.lats[p.preds[i].of'.toNat] (xU p.lats[p.preds[i].of'.toNat] d.lats[i]) o.args o.span.a o.span.b e))⟩ q rq lq h h':=by
 refine pv func86 42 false (by kernel_rfl) rfl rfl ?_
 refine g2 ?_
 have htA: ∀ l:List Blk,(h++l)[q]? =some (.var 31 [.ms rq 0 1 d.rels.length,.ms lq 0 1 d.lats.length]):=fun l=>yJ _ _ _ _ hD.t
 have hlA: ∀ l:List Blk,(h++l)[lq]? =some (.var 89 (d.lats.map vD)):=fun l=>yJ _ _ _ _ hD.l
 have hll:lq<h.length:=(gsi hD.l).1
 have hsA: ∀ (l:List Blk) (b:Blk),(h++l).set lq b=h.set lq b++l:=fun l b=>List.set_append_left _ _ hll
 have hx:=zG (f:=Pd.c) [] hi
 obtain ⟨hz1,hz2⟩:=hd.l i hil
 have hy:=zG (f:=La.c) [] hol
 have hlo:=hp.l _ (List.getElem_mem hol)
 have fin:=fun (z:List LRw) (B:Heap)=>ActX.lats (i:=i) hD z B
 generalize p.lats[p.preds[i].of'.toNat]=lt at*
 generalize p.preds[i]=x at*
 have hd0:=yU vD d.lats i .un hil
 have hsp: ∀ v,(d.lats.map vD).take i++vD v::(d.lats.map vD).drop (i+1)=(d.lats.set i v).map vD:=fun v=>wY vD d.lats i v hil
 generalize hz:d.lats[i]=z at*
 have hpi:(0≤o.pred)=True:=eq_true (by omega)
 have hpl:(o.pred<(p.preds.length:Int))=True:=eq_true (by omega)
 have hpt:o.pred.toNat=i:=by omega
 have hpd:(o.pred<(d.lats.length:Int))=True:=eq_true (by omega)
 have ho0:(0≤x.of')=True:=eq_true (by omega)
 have ho1:(x.of'<(p.lats.length:Int))=True:=eq_true (by omega)
 (repeat (first|refine gz ?_|(refine gn ?_;intro zs zh;(try simp only [go_sem,htA,hlA,hsA,rU,sB,qK,rN,hx,hy,hpi,hpl,hpt,hpd,hd0,hol,hil,ho0,ho1] at zh);subst zh;refine gv ?_)|refine yD UBsx5f86.pp ?_))
 (refine zF rfl rfl rfl ?_;intro sr hsr;simp only [go_sem,htA,hlA,hsA,rU,sB,qK,rN,hx,hy,hpi,hpl,hpt,hpd,hd0,hol,hil,ho0,ho1] at hsr;subst hsr;refine vP rfl (zrW lt hlo hck z (by omega) hz2 o.args hal hs o.span.a o.span.b e) (by simp [zJ]) ?_;intro p2 hr2 ts2 hts;simp only [go_sem] at hts;subst hts)
 subst hr2
 (repeat (first|refine gz ?_|(refine gn ?_;intro zs zh;(try simp only [go_sem,htA,hlA,hsA,rU,sB,qK,rN,hx,hy,hpi,hpl,hpt,hpd,hd0,hol,hil,ho0,ho1,hsp] at zh);subst zh;refine gv ?_)|refine yD UBsx5f86.pp ?_))
 exact ⟨rfl,fin _ _⟩
theorem zpK (k:Nat) (args:List Vl) (s:Sp) (z:List Rw) {j:Nat} (hj:j<z.length) (r:List Rw):wM k args s (z.take (j+1)) r=if z[j].args.take k=args.take k then dP (wM k args s (z.take j) r) z[j].args s else wM k args s (z.take j) r:=by
 unfold wM
 rw [List.take_succ_eq_append_getElem hj,List.foldl_append,List.foldl_cons,List.foldl_nil]
theorem RelX.kill {ty:List Int} {z:List Rw} (h:RelX ty z) (k:Nat) (args:List Vl) {s:Sp} (hs:s.good) (w:List Rw) (hw: ∀ x∈w,x∈z):RelX ty (wM k args s w z):=by
 obtain ⟨c1, -,c3⟩:=pM (k:=k) (args:=args) hs w z h.1
 refine ⟨c1,fun x hx=> ?_⟩
 obtain ⟨y,hy,e⟩:=c3 x hx
 rw [e]
 rcases List.mem_append.1 hy with q|q
 ·exact h.2 y (hw y q)
 ·exact h.2 y q
open UBsx5f59 in
theorem zrO (p:Pg) (hp:p.ok) (N:Nat) (hN:N≤17179869184) (d:Dt) (hd:DtS p N d) (hX:DatX p d) (q rq lq:Nat) (h:Heap) (hD:DataAt d q rq lq h) (o:Op1) (i:Nat) (ho:OpX p o i) (hk:o.kind=1):
  ECall prog G0 59 [.agg p.c,.ptr q 0,.agg o.c] h fun v h'=>v= .tup []∧ActX (zl0 p d o) q rq lq h h':=by
 refine pv func59 75 false (by kernel_rfl) rfl rfl ?_
 refine g2 ?_
 have hi:=ho.hi
 have hoi:=ho.hoi
 have hir:i<d.rels.length:=by rw [hd.rl];exact hi
 have hil:i<d.lats.length:=by rw [hd.ll];exact hi
 obtain ⟨-,hX2,hX3⟩:=hX.at' i hi hir hil
 have hx:=zG (f:=Pd.c) [] hi
 have hpi:(0≤o.pred)=True:=eq_true (by omega)
 have hpl:(o.pred<(p.preds.length:Int))=True:=eq_true (by omega)
 have hpt:o.pred.toNat=i:=by omega
 refine gf (a9 @rU @sB @qK @rN @hx @hpi @hpl @hpt @hi) ?_
 (refine g1f (a9 @rU @sB @qK @rN @hx @hpi @hpl @hpt @hi) ?_;refine zC ((lR p.preds[i]).call zK (by simp [zJ]) _) ?_;intro p2 h2 hr2;refine g2 ?_)
 obtain ⟨⟨b,rfl,hb⟩,rfl⟩:=hr2
 cases b with
 | true=>
  have hne:p.preds[i].of'≠ -1:=by simpa using hb.symm
  have hof:0≤p.preds[i].of'∧p.preds[i].of'<p.lats.length:=by
   have h1:=ho.hof
   omega
  have hol:p.preds[i].of'.toNat<p.lats.length:=by omega
  have hck:=((hX2 ho.b hne).2 hol).1
  have hal:o.args.length≤1048576:=by rw [ho.ax.1];exact ho.htl
  rw [zo8 hoi hi hil hne hol]
  unfold zcQ
  refine gf (a9 @rU @sB @qK @rN @hx @hpi @hpl @hpt @hi) ?_
  (refine g1f (a9 @rU @sB @qK @rN @hx @hpi @hpl @hpt @hi) ?_;refine zC (zqL p hp N (by omega) d hd q rq lq _ (hD.app _) o i hi hoi hof hol hil hck hal ho.ax.sz o.elem) ?_;intro p2 h2 hr2;refine g2 ?_)
  obtain ⟨rfl,ha⟩:=hr2
  refine ge ?_
  exact ⟨rfl,by rw [if_pos hk];exact ha.of_app⟩
 | false=>
  have hne:p.preds[i].of'= -1:=by simpa using hb.symm
  obtain ⟨-,hRX, -⟩:=hX3 ho.b hne
  rw [zo7 hoi hi hir hne]
  obtain ⟨hz1,hz2⟩:=hd.r i hi hir
  have htA: ∀ l:List Blk,(h++l)[q]? =some (.var 31 [.ms rq 0 1 d.rels.length,.ms lq 0 1 d.lats.length]):=fun l=>yJ _ _ _ _ hD.t
  have hrA: ∀ l:List Blk,(h++l)[rq]? =some (.var 63 (d.rels.map uN)):=fun l=>yJ _ _ _ _ hD.r
  have hrl:rq<h.length:=(gsi hD.r).1
  have hsA: ∀ (l:List Blk) (b:Blk),(h++l).set rq b=h.set rq b++l:=fun l b=>List.set_append_left _ _ hrl
  have hd0:=yU uN d.rels i .un hir
  have hsp: ∀ v,(d.rels.map uN).take i++uN v::(d.rels.map uN).drop (i+1)=(d.rels.set i v).map uN:=fun v=>wY uN d.rels i v hir
  have hpd:(o.pred<(d.rels.length:Int))=True:=eq_true (by omega)
  have fin:=fun (z:List Rw) (B:Heap)=>ActX.rels (i:=i) hD z B
  have htl:=ho.htl
  have hsg:=ho.s
  have hls:=ho.ls
  have hal:=ho.ax.1
  have k0:=ho.k0
  have k1:=ho.k1
  unfold zaL
  rw [if_pos hk]
  unfold bA
  generalize hz:d.rels[i]=z at*
  generalize p.preds[i]=x at*
  obtain ⟨k,hk'⟩:=Int.eq_ofNat_of_zero_le k0
  have hkn:x.key.toNat=k:=by omega
  rw [hkn]
  have rl:=fun (w:List Rw) (hw: ∀ x∈w,x∈z)=>hRX.kill k o.args hsg w hw
  have rn:=fun (w:List Rw)=>jK k o.args o.span w z
  have ak:=fun (j:Nat) (hj:j<z.length)=>zpK k o.args o.span z hj z
  refine gf (a9 @htA @hrA @rU @sB @qK @rN @hx @hpi (a6 @hpl @hpt @hpd @hi @hd0 @hir)) ?_
  have hcA: ∀ l:List Blk,(h++(.var 27 p.c:: .var 38 o.c:: .var 59 x.c::l))[h.length+2]? =some (.var 59 x.c):=fun l=>(sB h _ 2).trans rfl
  refine zO z.length (K9 (.k:: .v:: .k:: .d::K9 (K9 (K9 (K4 (.k:: .v::D9 (D9 (.d::K9 (.k::[]))))))))) (own:=false) (fun j (s:List Rw×Heap)=>[uN s.1,i64 j]) (fun s=>h++(.var 27 p.c:: .var 38 o.c:: .var 59 x.c::s.2)) (fun j s=>s.1=wM k o.args o.span (z.take j) z) (z,[]) rfl rfl rfl (by omega) ?_ ?_
  ·rintro ⟨r,J⟩ hR t ht
   dsimp only at hR
   rw [List.take_length] at hR
   subst hR
   have hR2:=(rl z fun _ h=>h)
   have hR1:=rn z
   simp only [zY] at ht;subst ht
   generalize wM k o.args o.span z z=r at*
   (repeat (first|refine gz ?_|(refine gn ?_;intro zs zh;(try simp only [go_sem,zM,htA,hrA,hsA,hpi,hpl,hpt,hpd,hi,hir,hd0] at zh);subst zh;refine gv ?_)|refine yD UBsx5f59.pp ?_))
   (refine zF rfl rfl rfl ?_;intro sr hsr;simp only [go_sem,htA,hrA,hsA,hpi,hpl,hpt,hpd,hi,hir,hd0] at hsr;subst hsr;refine vP rfl (((zp2 r o.args o.span (by omega) (fun y hy=>(hR2.ls htl y hy).2) hR2.1 hls hsg).args (.cons (PLe.refl _) (.cons (PLe.refl _) (.cons (PLe.tc_ts 2 _) .nil))))) (by simp [zJ,oM]) ?_;intro p2 hr2 ts2 hts;simp only [go_sem] at hts;subst hts)
   subst hr2
   (repeat (first|refine gz ?_|(refine gn ?_;intro zs zh;(try simp only [go_sem,htA,hrA,hsA,hpi,hpl,hpt,hpd,hi,hir,hd0,hsp] at zh);subst zh;refine gv ?_)|refine yD UBsx5f59.pp ?_))
   exact ⟨rfl,fin _ _⟩
  ·rintro j ⟨r,J⟩ hj hw hR t ht
   dsimp only at hR
   have hR2:=(rl (z.take j) fun _ h=>List.mem_of_mem_take h)
   have hR1:=rn (z.take j)
   have hsk:=ak j hj
   rw [←hR] at hR1 hR2 hsk
   clear hR
   simp only [zY] at ht;subst ht
   have hy:=zG (f:=Rw.c) [] hj
   have hyk:=hz2 _ (List.getElem_mem hj)
   generalize z[j]=y at*
   have hb: ∀ l:List Blk,(h++(.var 27 p.c:: .var 38 o.c:: .var 59 x.c::(J++l)))[h.length+(J.length+1+1+1)]? =l[0]? :=fun l=>by rw [sB];exact rU J l
   have hsb: ∀ (l:List Blk) (b:Blk),(h++(.var 27 p.c:: .var 38 o.c:: .var 59 x.c::(J++l))).set (h.length+(J.length+1+1+1)) b=h++(.var 27 p.c:: .var 38 o.c:: .var 59 x.c::(J++l.set 0 b)):=fun l b=>by
    rw [rN, ←qK J l b];rfl
   have e1:((k:Int)≤(y.args.length:Int))=True:=eq_true (by omega)
   have e2:((k:Int)≤(o.args.length:Int))=True:=eq_true (by omega)
   (repeat (first|refine gz ?_|(refine gn ?_;intro zs zh;(try simp only [go_sem,hj,hy,zB,hw,hcA,hb,hsb,hk',e1,e2,xO] at zh);subst zh;refine gv ?_)|refine yD UBsx5f59.pl ?_))
   (refine zF rfl rfl rfl ?_;intro zs zh;simp only [go_sem,hj,hy,zB,hw,hcA,hb,hsb,hk',e1,e2,xO] at zh;subst zh;refine zP (by decide) (by decide) ((zjE (y.args.take k) (o.args.take k) (by rw [List.length_take];have:=hls.al;have:=hyk.2.al;omega)).call zK (by simp) _) ?_;intro p2 h2 hr2 ts2 hts;simp only [go_sem] at hts;subst hts)
   obtain ⟨rfl,rfl⟩:=hr2
   by_cases hyo:y.args.take k=o.args.take k
   case neg=>
    rw [if_neg hyo] at hsk
    rw [decide_eq_false hyo]
    (repeat (first|refine gz ?_|(refine gn ?_;intro zs zh;(try simp only [go_sem,hj,hy,zB,hw,hcA,hb,hsb,hk',e1,e2,xO] at zh);subst zh;refine gv ?_)|refine yD UBsx5f59.pl ?_))
    exact ⟨(r,J++[.var 84 y.c]),hsk.symm,rfl,rfl,rfl⟩
   case pos=>
    rw [if_pos hyo] at hsk
    rw [decide_eq_true hyo]
    (repeat (first|refine gz ?_|(refine gn ?_;intro zs zh;(try simp only [go_sem,hj,hy,zB,hw,hcA,hb,hsb,hk',e1,e2,xO] at zh);subst zh;refine gv ?_)|refine yD UBsx5f59.pl ?_))
    (refine ns ?_;intro zs zh;simp only [go_sem,hj,hy,zB,hw,hcA,hb,hsb,hk',e1,e2,xO] at zh;subst zh;refine zC (((znZ r y.args o.span (by omega) (fun z hz=>(hR2.ls htl z hz).2) hR2.1 ⟨hyk.2.al,hyk.2.a,by simp⟩ hsg).call zK (by simp) _).args (.cons (PLe.refl _) (.cons (PLe.refl _) (.cons (PLe.tc_ts 2 _) .nil)))) ?_;intro p2 h2 hr2 ts2 hts;simp only [go_sem] at hts;subst hts)
    obtain ⟨rfl,rfl⟩:=hr2
    (repeat (first|refine gz ?_|(refine gn ?_;intro zs zh;(try simp only [go_sem,hj,hy,zB,hw,hcA,hb,hsb,hk',e1,e2,xO] at zh);subst zh;refine gv ?_)|refine yD UBsx5f59.pl ?_))
    exact ⟨(dP r y.args o.span,J++[.var 84 y.c]),hsk.symm,rfl,rfl,rfl⟩
attribute [-go_sem] only
open UBsx5f60 in
theorem zp6 (p:Pg) (hp:p.ok) (N:Nat) (hN:N≤17179869184) (d:Dt) (hd:DtS p N d) (hX:DatX p d) (q rq lq:Nat) (h:Heap) (hD:DataAt d q rq lq h) (o:Op1) (i:Nat) (ho:OpX p o i) (hk:o.kind=2):
  ECall prog G0 60 [.agg p.c,.ptr q 0,.agg o.c] h fun v h'=>v= .tup []∧ActX (zl0 p d o) q rq lq h h':=by
 refine pv func60 49 false (by kernel_rfl) rfl rfl ?_
 refine g2 ?_
 have hi:=ho.hi
 have hoi:=ho.hoi
 have hir:i<d.rels.length:=by rw [hd.rl];exact hi
 have hil:i<d.lats.length:=by rw [hd.ll];exact hi
 obtain ⟨-,hX2,hX3⟩:=hX.at' i hi hir hil
 have hx:=zG (f:=Pd.c) [] hi
 have hpi:(0≤o.pred)=True:=eq_true (by omega)
 have hpl:(o.pred<(p.preds.length:Int))=True:=eq_true (by omega)
 have hpt:o.pred.toNat=i:=by omega
 refine gf (a9 @rU @sB @qK @rN @hx @hpi @hpl @hpt @hi) ?_
 (refine g1f (a9 @rU @sB @qK @rN @hx @hpi @hpl @hpt @hi) ?_;refine zC ((lR p.preds[i]).call zK (by simp [zJ]) _) ?_;intro p2 h2 hr2;refine g2 ?_)
 obtain ⟨⟨b,rfl,hb⟩,rfl⟩:=hr2
 cases b with
 | true=>
  have hne:p.preds[i].of'≠ -1:=by simpa using hb.symm
  have hof:0≤p.preds[i].of'∧p.preds[i].of'<p.lats.length:=by
   have h1:=ho.hof
   omega
  have hol:p.preds[i].of'.toNat<p.lats.length:=by omega
  have hck:=((hX2 ho.b hne).2 hol).1
  have hal:o.args.length≤1048576:=by rw [ho.ax.1];exact ho.htl
  rw [zo8 hoi hi hil hne hol]
  unfold zcQ
  have hy:=zG (f:=La.c) [] hol
  have hlo:=hp.l _ (List.getElem_mem hol)
  have ho0:(0≤p.preds[i].of')=True:=eq_true (by omega)
  have ho1:(p.preds[i].of'<(p.lats.length:Int))=True:=eq_true (by omega)
  refine gf (a9 @rU @sB @qK @rN @hx @hpi @hpl @hpt (a5 @hi @hy @hol @ho0 @ho1)) ?_
  (refine zF rfl rfl rfl ?_;intro sr hsr;simp only [go_sem,rU,sB,qK,rN,hx,hpi,hpl,hpt,hi,hy,hol,ho0,ho1] at hsr;subst hsr;refine xR rfl rfl ((zj7 _ hlo).call zK (by simp [zJ]) _) (by rintro _ _ ⟨_,rfl⟩ _ _ _;rfl) ?_;intro p2 h2 hr2 ts2 hts;simp only [go_sem] at hts;subst hts)
  obtain ⟨rfl,rfl⟩:=hr2
  refine gf (a9 @rU @sB @qK @rN @hx @hpi @hpl @hpt (a5 @hi @hy @hol @ho0 @ho1)) ?_
  (refine zF rfl rfl rfl ?_;intro zs zh;simp only [go_sem,rU,sB,qK,rN,hx,hpi,hpl,hpt,hi,hy,hol,ho0,ho1] at zh;subst zh;refine zP (by decide) (by decide) (zqL p hp N (by omega) d hd q rq lq _ (hD.app _) o i hi hoi hof hol hil hck hal ho.ax.sz (oU p.lats[p.preds[i].of'.toNat])) ?_;intro p2 h2 hr2 ts2 hts;simp only [go_sem] at hts;subst hts)
  obtain ⟨rfl,ha⟩:=hr2
  refine ge ?_
  exact ⟨rfl,by rw [if_neg (by omega)];exact ha.of_app⟩
 |false=>
  have hne:p.preds[i].of'= -1:=by simpa using hb.symm
  obtain ⟨-,hRX, -⟩:=hX3 ho.b hne
  rw [zo7 hoi hi hir hne]
  obtain ⟨hz1,hz2⟩:=hd.r i hi hir
  have htA: ∀ l:List Blk,(h++l)[q]? =some (.var 31 [.ms rq 0 1 d.rels.length,.ms lq 0 1 d.lats.length]):=fun l=>yJ _ _ _ _ hD.t
  have hrA: ∀ l:List Blk,(h++l)[rq]? =some (.var 63 (d.rels.map uN)):=fun l=>yJ _ _ _ _ hD.r
  have hrl:rq<h.length:=(gsi hD.r).1
  have hsA: ∀ (l:List Blk) (b:Blk),(h++l).set rq b=h.set rq b++l:=fun l b=>List.set_append_left _ _ hrl
  have hd0:=yU uN d.rels i .un hir
  have hsp: ∀ v,(d.rels.map uN).take i++uN v::(d.rels.map uN).drop (i+1)=(d.rels.set i v).map uN:=fun v=>wY uN d.rels i v hir
  have hpd:(o.pred<(d.rels.length:Int))=True:=eq_true (by omega)
  have fin:=fun (z:List Rw) (B:Heap)=>ActX.rels (i:=i) hD z B
  have htl:=ho.htl
  have hsg:=ho.s
  have hls:=ho.ls
  have hal:=ho.ax.1
  unfold zaL
  rw [if_neg (by omega)]
  generalize hz:d.rels[i]=z at*
  generalize p.preds[i]=x at*
  (repeat (first|refine gz ?_|(refine gn ?_;intro zs zh;(try simp only [go_sem,htA,hrA,hsA,rU,sB,qK,rN,hpi,hpl,hpt,hpd,hi,hir,hd0] at zh);subst zh;refine gv ?_)|refine yD UBsx5f60.pp ?_))
  (refine zF rfl rfl rfl ?_;intro sr hsr;simp only [go_sem,htA,hrA,hsA,rU,sB,qK,rN,hpi,hpl,hpt,hpd,hi,hir,hd0] at hsr;subst hsr;refine vP rfl (((znZ z o.args o.span (by omega) (fun y hy=>(hz2 y hy).2) hRX.1 hls hsg).args (.cons (PLe.refl _) (.cons (PLe.refl _) (.cons (PLe.tc_ts 2 _) .nil))))) (by simp [zJ,oM]) ?_;intro p2 hr2 ts2 hts;simp only [go_sem] at hts;subst hts)
  subst hr2
  (repeat (first|refine gz ?_|(refine gn ?_;intro zs zh;(try simp only [go_sem,htA,hrA,hsA,rU,sB,qK,rN,hpi,hpl,hpt,hpd,hi,hir,hd0,hsp] at zh);subst zh;refine gv ?_)|refine yD UBsx5f60.pp ?_))
  exact ⟨rfl,fin _ _⟩
end Go.AL
namespace Go.AL
open Go.Proofs Go.Proofs.Tryz
@[go_sem] def UApxf11.pl:Nat→DPlan
 |12=>⟨[yA,yE,⟨6,0,[1004,0]⟩,yA,⟨7,0,[1004]⟩,rK,yA,vC,yC],uW,1⟩
 |16=>⟨[⟨6,0,[1013,1003,1013]⟩,yA,⟨7,0,[1013]⟩,yB,⟨7,0,[1003]⟩,⟨7,0,[1013]⟩,yC],tV,0⟩
 |21=>⟨[yA,yB,yA,yA,yB,yA,yA,yB,yA,yA,yB,yA,yA,yA],wS,0⟩
 |_=>⟨[],[],0⟩
theorem ziP (f:Nat) (r:List LRw):zU (f+4) (vD r)=true:=by
 simp only [zU,List.all_map,List.all_eq_true,Function.comp_apply]
 intro x _ p hp
 simp only [LRw.c,List.mem_cons,List.not_mem_nil,or_false] at hp
 rcases hp with rfl|rfl
 ·exact eJ (f+1) x.args
 ·simp [zU,List.all_map]
attribute [-go_sem] only
open UApxf11 in
theorem zrH (p:Pg) (hp:p.ok) (hle:p.sm) (d:Dt) (hd:d.sz) (ops:List Op1) (ho:OpsG ops):
  EPure prog G0 11 [.agg p.c,.agg d.c,lJ ops] fun v=>v= .tup [.agg (zk4 p d ops).1.c,i64 (zk4 p d ops).2]:=by
 refine ECall.cutW (R:=fun v h=>(∃ e:Int,v= .tup [.agg [.nil,.nil],i64 e]∧zk4 p d ops=(znO,e))∨ ∃ (d':Dt) (V:PV),v= .tup [V,i64 0]∧zk4 p d ops=(d',0)∧(V= .agg d'.c∨ ∃ q1 q2,V= .agg [.ms q1 0 1 d'.rels.length,.ms q2 0 1 d'.lats.length]∧h[q1]? =some (.var 63 (d'.rels.map uN))∧h[q2]? =some (.var 89 (d'.lats.map vD)))) (pv func11 82 false (by kernel_rfl) rfl rfl ?_) ?_
 refine g2 ?_
 ·refine ge ?_
  (refine g1 ?_;refine zC ((zeD p hp hle d hd).call zK (by simp [zJ]) _) ?_;intro p2 h2 hr2;refine g2 ?_)
  obtain ⟨rfl,rfl⟩:=hr2
  cases hb:ze8 (DatX p d) with
  |false=>
   refine ge ?_
   exact .inl ⟨_,rfl,by unfold zk4;rw [if_pos hb]⟩
  | true =>
   have hV:=zoX.1 hb
   have hbt: ¬ze8 (DatX p d)=false:=by rw [hb];decide
   obtain ⟨hpl,htp⟩:=znP hp hle hV.tv
   by_cases hl:60<ops.length
   ·have e1:decide ((60:Int)<(ops.length:Int))=true:=by simp;omega
    refine gf @e1 ?_
    exact .inl ⟨_,rfl,by unfold zk4;rw [if_neg hbt,if_pos hl]⟩
   ·have e1:decide ((60:Int)<(ops.length:Int))=false:=by simp;omega
    have hl60:ops.length≤60:=by omega
    refine gf @e1 ?_
    refine zO ops.length (K4 (.k:: .k:: .k:: .d:: .k:: .d:: .d::K9 (K4 (.k:: .k:: .v::D9 (.d:: .d::K9 (K9 (K9 (K9 (K4 (K4 ([]))))))))))) (own:=false) (fun i (_:Heap)=>[i64 i]) (fun J=> .var 27 p.c:: .var 31 d.c:: .var 31 [.nil,.nil]::J) (fun i J=>(∀ b∈J, ∃ x:Op1,b= .var 38 x.c)∧ ∀ (j:Nat) (h:j<ops.length),j<i→zoM p ops[j]=0) [] rfl rfl ⟨by simp,fun j _ hj=>absurd hj (Nat.not_lt_zero _)⟩ (by omega) ?_ ?_
    ·rintro J ⟨hJ,hI⟩
     refine gm ?_
     have hI': ∀ (j:Nat) (h:j<ops.length), ∃ k,OpX p ops[j] k:=fun j h=>((zoK p hp hle _ (ho.o _ (List.getElem_mem h))).2 (hI j h h)).op
     have hI2: ∀ o∈ops, ∃ k,OpX p o k:=fun o ho=>by obtain ⟨j,hj,rfl⟩:=List.getElem_of_mem ho;exact hI' j hj
     have hE0:uD p ops=0:=bS fun j h=>hI j h h
     have apE: ∀ d',ops.foldl (zl0 p) d=d'→zk4 p d ops=if zj6 d'=true then (znO,2) else (d',0):=fun d' e=>by
      unfold zk4;rw [if_neg hbt,if_neg hl,if_neg (by rw [hE0];exact fun k=>k rfl),e]
     refine gf @zM ?_
     have hpT:Tree (.agg p.c):=by simp [zJ]
     have hdT:Tree (.agg d.c):=by simp [zJ]
     have hav: ∀ (s:Nat), ∀ b∈(Blk.var 27 p.c::Blk.var 31 d.c::Blk.var 31 [.nil,.nil]::(J++[.non])),AvB [s] b:=fun s b hb=>by
      simp only [List.mem_cons,List.mem_append,List.not_mem_nil,or_false] at hb
      rcases hb with rfl|rfl|rfl|hb|rfl
      ·exact fun q hq=>Av.of_tree ((zJ.1 hpT) q hq)
      ·exact fun q hq=>Av.of_tree ((zJ.1 hdT) q hq)
      ·intro q hq;simp only [List.mem_cons,List.not_mem_nil,or_false,or_self] at hq;subst hq;exact .nil
      ·obtain ⟨x,rfl⟩:=hJ b hb
       have hxT:Tree (.agg x.c):=by simp [zJ]
       exact fun q hq=>Av.of_tree ((zJ.1 hxT) q hq)
      ·trivial
     by_cases hn:0<p.preds.length
     case neg=>
      have hn0:p.preds.length=0:=by omega
      have hr0:d.rels=[]:=List.eq_nil_of_length_eq_zero (by rw [hV.rl];exact hn0)
      have hl0:d.lats=[]:=List.eq_nil_of_length_eq_zero (by rw [hV.ll];exact hn0)
      have ho0:ops.length=0:=by
       rcases Nat.eq_zero_or_pos ops.length with h|h
       ·exact h
       ·obtain ⟨k,hk⟩:=hI' 0 h;have:=hk.hi;omega
      obtain ⟨dr,dl⟩:=d
      dsimp only at hr0 hl0
      subst hr0;subst hl0
      have hn1:(1<J.length+1+1+1)=True:=eq_true (by omega)
      have hs3:(J++[Blk.non])[J.length]? =some .non:=by simp
      (refine zF rfl rfl rfl ?_;intro zs zh;simp only [go_sem] at zh;subst zh)
      refine qZ (J.length+1+1+1) rfl rfl (by simp) (N.clone0_rel.call zK (by simp [xX]) _) (by intro x hx;simp [Op.operands,Call.operands] at hx;rcases hx with rfl|rfl<;>simp [wV,yO,xX]) (hav _) ?_ ?_
      ·rintro _ _ ⟨_,rfl⟩
       exact ⟨by simp,fun _ _ _=>rfl⟩
      intro p2 h2 hr2 ts2 hts
      simp only [go_sem] at hts;subst hts
      obtain ⟨rfl,rfl⟩:=hr2
      refine gf (a2 @zM @hn1) ?_
      (refine zF rfl rfl rfl ?_;intro zs zh;simp only [go_sem] at zh;subst zh)
      refine qZ (J.length+1+1+1) rfl rfl (by simp) (N.clone0_lrel.call zK (by simp [xX]) _) (by intro x hx;simp [Op.operands,Call.operands] at hx;rcases hx with rfl|rfl<;>simp [wV,yO,xX]) (hav _) ?_ ?_
      ·rintro _ _ ⟨_,rfl⟩
       exact ⟨by simp,fun _ _ _=>rfl⟩
      intro p2 h2 hr2 ts2 hts
      simp only [go_sem] at hts;subst hts
      obtain ⟨rfl,rfl⟩:=hr2
      refine gf (a6 @zM @rU @sB @qK @rN @hs3) ?_
      refine zO ops.length (K9 (K4 (.d::K9 (K9 (K9 (K4 (.k:: .k:: .v::D9 (.d:: .d::K9 (K9 (K4 (.k::[]))))))))))) (own:=false) (fun i (_:Heap)=>[i64 i]) (fun s=>s) (fun i s=>s=(Blk.var 27 p.c::Blk.var 31 znO.c::Blk.var 31 [.nil,.nil]::(J++[Blk.var 31 znO.c]))) (Blk.var 27 p.c::Blk.var 31 znO.c::Blk.var 31 [.nil,.nil]::(J++[Blk.var 31 znO.c])) rfl rfl rfl (by omega) ?_ (fun i s hi=>absurd hi (by omega))
      rintro s rfl
      refine gm ?_
      refine gf @zM ?_
      refine zO p.preds.length (K4 (.k:: .k:: .k:: .d::K4 (.k:: .k:: .d::K9 (K9 (K9 (K9 (K9 (.k:: .k:: .v::D9 (D9 (.k::[])))))))))) (own:=false) (fun i (_:Unit)=>[i64 i]) (fun _=>_) (fun i _=>True) () rfl rfl trivial (by omega) ?_ (fun i s hi=>absurd hi (by omega))
      rintro _ _
      refine gm ?_
      refine gf (a5 @zM @rU @sB @qK @rN) ?_
      exact .inr ⟨znO,_,rfl,by have:=apE znO (by rw [List.eq_nil_of_length_eq_zero ho0];rfl);rw [this];rfl,.inl rfl⟩
     have hrn:0<d.rels.length:=by rw [hV.rl];exact hn
     have hln:0<d.lats.length:=by rw [hV.ll];exact hn
     (refine zF rfl rfl rfl ?_;intro zs zh;simp only [go_sem] at zh;subst zh)
     refine qZ (J.length+1+1+1) rfl rfl (by simp) (kG d.rels hrn (by have:=hd.rl;omega) _) (by intro x hx;simp [Op.operands,Call.operands] at hx;rcases hx with rfl|rfl<;>simp [wV,yO]) (hav _) ?_ ?_
     ·rintro _ _ ⟨_,rfl⟩
      refine ⟨by simp,fun k hk h1=> ?_⟩
      have hk:k∈[1004,0]:=hk
      simp only [List.mem_cons,List.not_mem_nil,or_false] at hk
      rcases hk with rfl|rfl
      ·rfl
      ·omega
     intro p2 h2 hr2 ts2 hts
     simp only [go_sem] at hts;subst hts
     obtain ⟨rfl,rfl⟩:=hr2
     have hn1:(1<J.length+1+1+1)=True:=eq_true (by omega)
     have hav2: ∀ (s:Nat), ∀ b∈(Blk.var 27 p.c::Blk.var 31 d.c::Blk.var 31 [.nil,.nil]::(J++[.non,Blk.var 63 (d.rels.map uN)])),AvB [s] b:=fun s b hb=>by
      simp only [List.mem_cons,List.mem_append,List.not_mem_nil,or_false] at hb
      rcases hb with h|h|h|h|h|rfl
      ·exact hav s b (by simp [h])
      ·exact hav s b (by simp [h])
      ·exact hav s b (by simp [h])
      ·exact hav s b (by simp [h])
      ·exact hav s b (by simp [h])
      ·intro q hq
       obtain ⟨r,_,rfl⟩:=List.mem_map.1 hq
       exact Av.of_tree (yP 4 _ (rE 0 r))
     refine gf (a2 @zM @hn1) ?_
     (refine zF rfl rfl rfl ?_;intro zs zh;simp only [go_sem] at zh;subst zh)
     refine qZ (J.length+1+1+1) rfl rfl (by simp) (kH d.lats hln (by have:=hd.ll;omega) _) (by intro x hx;simp [Op.operands,Call.operands] at hx;rcases hx with rfl|rfl<;>simp [wV,yO]) (hav2 _) ?_ ?_
     ·rintro _ _ ⟨_,rfl⟩
      refine ⟨by simp,fun k hk h1=> ?_⟩
      have hk:k∈[0]:=hk
      simp only [List.mem_cons,List.not_mem_nil,or_false] at hk
      omega
     intro p2 h2 hr2 ts2 hts
     simp only [go_sem] at hts;subst hts
     obtain ⟨rfl,rfl⟩:=hr2
     have hs3:(J++[Blk.non,Blk.var 63 (d.rels.map uN),Blk.var 89 (d.lats.map vD)])[J.length]? =some .non:=by simp
     refine gf (a6 @zM @rU @sB @qK @rN @hs3) ?_
     refine zO ops.length (K9 (K4 (.d::K9 (K9 (K9 (K4 (.k:: .k:: .v::D9 (.d:: .d::K9 (K9 (K4 (.k::[]))))))))))) (own:=false) (fun i (_:Heap)=>[i64 i]) (fun s=>s) (fun i s=>s[0]? =some (.var 27 p.c)∧s[2]? =some (.var 31 [.nil,.nil])∧DataAt ((ops.take i).foldl (zl0 p) d) (J.length+3) (J.length+4) (J.length+5) s) (Blk.var 27 p.c::Blk.var 31 d.c::Blk.var 31 [.nil,.nil]::(J++[Blk.var 31 [.ms (J.length+4) 0 1 d.rels.length,.ms (J.length+5) 0 1 d.lats.length],Blk.var 63 (d.rels.map uN),Blk.var 89 (d.lats.map vD)])) rfl rfl ⟨rfl,rfl,by simp,by simp,by simp⟩ (by omega) ?_ ?_
     ·rintro s ⟨hs0,hs2,hD⟩ t ht
      rw [List.take_length] at hD
      have hap:=apE _ rfl
      obtain ⟨hX', -⟩:=zc4 hp ops hI2 hV (zjA hd)
      generalize ops.foldl (zl0 p) d=d' at*
      have hrl':=hX'.rl
      have hll':=hX'.ll
      simp only [zY] at ht;subst ht
      have hDt:=hD.t
      have hDr:=hD.r
      have hDl:=hD.l
      have hs2l:=(gsi hs2).1
      refine gf (a2 @zM @hs0) ?_
      refine zO p.preds.length (K4 (.k:: .k:: .k:: .d::K4 (.k:: .k:: .d::K9 (K9 (K9 (K9 (K9 (.k:: .k:: .v::D9 (D9 (.k::[])))))))))) (own:=false) (fun i (_:Unit)=>[i64 i]) (fun _=>s) (fun i _=> ∀ (j:Nat) (h:j<p.preds.length) (h1:j<d'.rels.length) (h2:j<d'.lats.length),j<i→d'.rels[j].length≤2000∧d'.lats[j].length≤2000) () rfl rfl (fun j _ _ _ hj=>absurd hj (Nat.not_lt_zero _)) (by omega) ?_ ?_
      ·rintro _ hI
       refine gm ?_
       have hss: ∀ b:Blk,(s.set 2 b)[2]? =some b:=fun b=>List.getElem?_set_self hs2l
       refine gf (a4 @zM @hDt @hs2 @hss) ?_
       have hbg:zj6 d'=false:=by
        unfold zj6
        rw [Bool.or_eq_false_iff,List.any_eq_false,List.any_eq_false]
        refine ⟨fun z hz=> ?_,fun z hz=> ?_⟩
        ·obtain ⟨j,hj,rfl⟩:=List.getElem_of_mem hz
         have:=(hI j (by omega) hj (by omega) (by omega)).1
         simp;omega
        ·obtain ⟨j,hj,rfl⟩:=List.getElem_of_mem hz
         have:=(hI j (by omega) (by omega) hj (by omega)).2
         simp;omega
       refine .inr ⟨d',_,rfl,by rw [hap,if_neg (by rw [hbg];decide)],.inr ⟨J.length+4,J.length+5,rfl,?_,?_⟩⟩
       ·rw [List.getElem?_set_ne (by omega)];exact hDr
       ·rw [List.getElem?_set_ne (by omega)];exact hDl
      ·rintro i _ hi hw hI
       refine gm ?_
       have hir:i<d'.rels.length:=by omega
       have hil:i<d'.lats.length:=by omega
       have hr0:=yU uN d'.rels i .un hir
       have hl0:=yU vD d'.lats i .un hil
       have next:d'.rels[i].length≤2000∧d'.lats[i].length≤2000→ ∀ (j:Nat) (h:j<p.preds.length) (h1:j<d'.rels.length) (h2:j<d'.lats.length),j<i+1→d'.rels[j].length≤2000∧d'.lats[j].length≤2000:=fun q j h h1 h2 hj=>by
        rcases Nat.lt_or_ge j i with hji|hji
        ·exact hI j h h1 h2 hji
        ·have:j=i:=by omega
         subst this;exact q
       have hbg:2000<d'.rels[i].length∨2000<d'.lats[i].length→zj6 d'=true:=fun q=>by
        unfold zj6
        rw [Bool.or_eq_true,List.any_eq_true,List.any_eq_true]
        rcases q with q|q
        ·exact .inl ⟨_,List.getElem_mem hir,by simpa using q⟩
        ·exact .inr ⟨_,List.getElem_mem hil,by simpa using q⟩
       generalize d'.rels[i]=u at*
       generalize d'.lats[i]=v at*
       obtain ⟨mx,hmx⟩: ∃ m,(if u.length<v.length then (v.length:Int) else (u.length:Int))=m:=⟨_,rfl⟩
       have hmx':2000<mx↔2000<u.length∨2000<v.length:=by rw [←hmx];split<;>omega
       by_cases h1:2000<mx
       ·have e2:decide ((2000:Int)<mx)=true:=by simp [h1]
        have hss: ∀ b:Blk,(s.set 2 b)[2]? =some b:=fun b=>List.getElem?_set_self hs2l
        refine gf (a9 @hi @hir @hil @zB @hw @hDt @hDr @hDl (a6 @hr0 @hl0 @hmx @e2 @hs2 @hss)) ?_
        exact .inl ⟨_,rfl,by rw [hap,if_pos (hbg (hmx'.1 h1))]⟩
       ·have e2:decide ((2000:Int)<mx)=false:=by simp;omega
        refine gf (a9 @hi @hir @hil @zB @hw @hDt @hDr @hDl (a4 @hr0 @hl0 @hmx @e2)) ?_
        exact ⟨(),next (by omega),rfl,rfl,rfl⟩
     ·rintro i s hi hw ⟨hs0,hs2,hD⟩
      refine gm ?_
      have hx:=zG (f:=Op1.c) [] hi
      obtain ⟨k,hok⟩:=hI' i hi
      have hkind:=hok.k
      have hN:nR i≤17179869184:=nR_le (by omega)
      obtain ⟨hX',hL'⟩:=zc4 hp (ops.take i) (fun o h=>hI2 o (List.mem_of_mem_take h)) hV (zjA hd)
      rw [List.length_take,show 0+min i ops.length=i by omega] at hL'
      have hd':=zrM hX' hL' htp
      have hst:(ops.take (i+1)).foldl (zl0 p) d=zl0 p ((ops.take i).foldl (zl0 p) d) ops[i]:=by
       rw [List.take_succ_eq_append_getElem hi,List.foldl_append,List.foldl_cons,List.foldl_nil]
      rw [hst]
      clear hst
      generalize (ops.take i).foldl (zl0 p) d=d' at*
      generalize ops[i]=x at*
      have h0A: ∀ l:List Blk,(s++l)[0]? =some (.var 27 p.c):=fun l=>yJ _ _ _ _ hs0
      have hsl:3≤s.length:=by have:=(gsi hs2).1;omega
      have fin: ∀ s',ActX (zl0 p d' x) (J.length+3) (J.length+4) (J.length+5) (s++[.var 38 x.c,.map zaH]) s'→s'[0]? =some (.var 27 p.c)∧s'[2]? =some (.var 31 [.nil,.nil])∧DataAt (zl0 p d' x) (J.length+3) (J.length+4) (J.length+5) s':=fun s' a=>by
       have a':=a.of_app
       exact ⟨a'.k 0 _ (by omega) (by omega) hs0,a'.k 2 _ (by omega) (by omega) hs2,a'.d⟩
      refine gf (a9 @hi @hx @zB @hw @rU @sB @qK @rN @h0A) ?_
      (refine zF rfl rfl rfl ?_;intro sr hsr;simp only [go_sem,hi,hx,zB,hw,rU,sB,qK,rN,h0A] at hsr;subst hsr;refine xR rfl rfl (jY _) (by rintro _ _ ⟨_,rfl⟩ k hk _;have hk:k∈[1013,1003,1013]:=hk;simp only [List.mem_cons,List.not_mem_nil,or_false] at hk;exact hk.elim (fun h=>by subst h;rw [List.getElem?_append_left (by simp [nu])]) fun h=>h.elim (fun h=>by subst h;rw [List.getElem?_append_left (by simp [nu])]) fun h=>by subst h;rw [List.getElem?_append_left (by simp [nu])]) ?_;intro p2 h2 hr2 ts2 hts;simp only [go_sem] at hts;subst hts)
      obtain ⟨rfl,rfl⟩:=hr2
      rcases hkind with hk1|hk1
      ·have ha:iZ x.kind= .fn (.func 59) [] []:=by rw [hk1];rfl
       have hlk:=lkT (h:=s++[.var 38 x.c,.map zaH]) (r:=s.length+1) x.kind ((sB s _ 1).trans rfl)
       rw [ha] at hlk
       refine gf (a9 @hi @hx @zB @hw @rU @sB @qK @rN (a2 @h0A @hlk)) ?_
       (refine zF rfl rfl rfl ?_;intro zs zh;simp only [go_sem,hi,hx,zB,hw,rU,sB,qK,rN,h0A,hlk] at zh;subst zh;refine zP (by decide) (by decide) (zrO p hp (nR i) hN d' hd' hX' (J.length+3) (J.length+4) (J.length+5) _ (hD.app _) x k hok hk1) ?_;intro p2 h2 hr2 ts2 hts;simp only [go_sem] at hts;subst hts)
       obtain ⟨rfl,hact⟩:=hr2
       refine gf (a9 @hi @hx @zB @hw @rU @sB @qK @rN @h0A) ?_
       exact ⟨h2,fin h2 hact,rfl,rfl,rfl⟩
      ·have ha:iZ x.kind= .fn (.func 60) [] []:=by rw [hk1];rfl
       have hlk:=lkT (h:=s++[.var 38 x.c,.map zaH]) (r:=s.length+1) x.kind ((sB s _ 1).trans rfl)
       rw [ha] at hlk
       refine gf (a9 @hi @hx @zB @hw @rU @sB @qK @rN (a2 @h0A @hlk)) ?_
       (refine zF rfl rfl rfl ?_;intro zs zh;simp only [go_sem,hi,hx,zB,hw,rU,sB,qK,rN,h0A,hlk] at zh;subst zh;refine zP (by decide) (by decide) (zp6 p hp (nR i) hN d' hd' hX' (J.length+3) (J.length+4) (J.length+5) _ (hD.app _) x k hok hk1) ?_;intro p2 h2 hr2 ts2 hts;simp only [go_sem] at hts;subst hts)
       obtain ⟨rfl,hact⟩:=hr2
       refine gf (a9 @hi @hx @zB @hw @rU @sB @qK @rN @h0A) ?_
       exact ⟨h2,fin h2 hact,rfl,rfl,rfl⟩
    ·rintro i J hi hw ⟨hJ,hI⟩
     refine gm ?_
     have hx:=zG (f:=Op1.c) [] hi
     have hxo:=ho.o _ (List.getElem_mem hi)
     have next:zoM p ops[i]=0→ ∀ (j:Nat) (h:j<ops.length),j<i+1→zoM p ops[j]=0:=fun q j h hj=>by
      rcases Nat.lt_or_ge j i with hji|hji
      ·exact hI j h hji
      ·have:j=i:=by omega
       subst this;exact q
     have bad:zoM p ops[i]≠0→zk4 p d ops=(znO,zoM p ops[i]):=fun q=>by
      have:=zgO hi hI q
      unfold zk4;rw [if_neg hbt,if_neg hl,this,if_pos q]
     generalize ops[i]=x at*
     refine gf (a6 @hi @hx @zB @hw @zA @zD) ?_
     have hck:=(zoK p hp hle x hxo).1
     generalize zoM p x=e at*
     (refine g1f (a6 @hi @hx @zB @hw @zA @zD) ?_;refine zC (hck.call zK (by simp [zJ]) _) ?_;intro p2 h2 hr2;refine g2 ?_)
     obtain ⟨rfl,rfl⟩:=hr2
     by_cases he0:e=0
     ·subst he0
      have e2:((0:Int)!=0)=false:=rfl
      refine gf (a2 @hw @e2) ?_
      exact ⟨J++[.var 38 x.c],⟨fun b hb=>(List.mem_append.1 hb).elim (hJ b) fun hb=>⟨x,by simpa using hb⟩,next rfl⟩,rfl,rfl,rfl⟩
     ·have e2:(e !=0)=true:=by simp [he0]
      refine gf (a2 @hw @e2) ?_
      exact .inl ⟨e,rfl,bad he0⟩
 ·have tbT: ∀ (x:Dt) (e:Int),Tree (.tup [.agg x.c,i64 e]):=fun x e=>yP 40 _ (show ([.agg x.c,i64 e].all (zU 39))=true by rw [List.all_cons,eH 33 x];rfl)
  rintro v h (⟨e,rfl,he⟩|⟨d',V,rfl,he,rfl|⟨q1,q2,rfl,h1,h2⟩⟩)
  ·exact ⟨.tup [.agg znO.c,i64 e],by rw [zhM];exact PLes.tup (.cons (PLes.agg (.cons (PLe.nil_ts 1) (.cons (PLe.nil_ts 1) .nil))) (.cons (PLe.refl _) .nil)),by rw [he],tbT _ _⟩
  ·refine ⟨.tup [.agg d'.c,i64 0],?_,by rw [he],tbT _ _⟩
   rw [zlG 39,List.map_cons,List.map_cons,List.map_nil,vE 0 h 39 _ (eH 33 d'),ziD 38]
   exact PLe.refl _
  ·refine ⟨.tup [.agg d'.c,i64 0],?_,by rw [he],tbT _ _⟩
   have hcr:(d'.rels.map uN).map (fz 0 h 37)=d'.rels.map uN:=uR fun x hx=>by
    obtain ⟨r,_,rfl⟩:=List.mem_map.1 hx
    exact vE 0 h 37 _ (rE 33 r)
   have hcl:(d'.lats.map vD).map (fz 0 h 37)=d'.lats.map vD:=uR fun x hx=>by
    obtain ⟨r,_,rfl⟩:=List.mem_map.1 hx
    exact vE 0 h 37 _ (ziP 33 r)
   have c1:=lG (d'.rels.map uN)
   have c2:=lG (d'.lats.map vD)
   rw [List.length_map,List.map_map] at c1 c2
   rw [zlG 39,List.map_cons,List.map_cons,List.map_nil,ziD 38,fzA 38,List.map_cons,List.map_cons,List.map_nil,fzM 37 _ _ _ _ h1,fzM 37 _ _ _ _ h2,hcr,hcl,c1,c2]
   exact PLe.refl _
end Go.AL
namespace Go.AL
open Go.RowKit
abbrev Tab:=List (FuncId×List PV×PV)
def zlB (T:Tab) (inner:FuncId→List PV→Heap→Option (PV×Heap)) (g:FuncId) (args:List PV) (h:Heap):Option (PV×Heap):=
 match T.find? (fun e=>Nat.beq e.1 g&&uK (nU 40) e.2.1 args) with
 |some e=>some (e.2.2,h)
 |none=>inner g args h
def xZ (P:Program) (G:Glob) (keep own:FuncId→Bool) (L:Nat) (T:Tab):Nat→Caller
 |0=>⟨fun _ _ _=>none,fun _ _ _=>none⟩
 |n+1=>⟨zlB T (xfn P G keep own (xZ P G keep own L T n) L),xyl P G (xZ P G keep own L T n) L⟩
def TabOk (P:Program) (G:Glob) (T:Tab):Prop:= ∀ e∈T, ∀ h,ACall P G e.1 e.2.1 h fun q h2=>q=e.2.2∧h2=h
section
variable {P:Program} {G:Glob}
theorem zc0:TabOk P G []:=fun e he=>by cases he
theorem zcV (hm:P.follows .mixedOrders=true) (hG:GTree G) {T:Tab} (hT:TabOk P G T) (keep ow:FuncId→Bool) (L:Nat): ∀ n,CallOk P G (xZ P G keep ow L T n):=by
 intro n
 induction n with
 |zero=>exact ⟨fun g args h p h' e=>(by cases e),fun r args h p h' e=>(by cases e)⟩
 | succ n ih=>
  refine ⟨fun g args h p h' e=> ?_,fun r args h p h' e=>zlH hm hG ih e⟩
  simp only [xZ,zlB] at e
  split at e
  ·rename_i x hx
   cases e
   have h1:=List.mem_of_find?_eq_some hx
   have h2:=List.find?_some hx
   rw [Bool.and_eq_true] at h2
   have e1:x.1=g:=Nat.eq_of_beq_eq_true h2.1
   have e2:=oB (eM 40) h2.2
   rw [←e1, ←e2]
   exact hT x h1 h
  ·exact zlI hm hG ih e
theorem yR (hm:P.follows .mixedOrders=true) (hG:GTree G) {T:Tab} (hT:TabOk P G T) {keep ow:FuncId→Bool} {L n:Nat} {g:FuncId} {args:List PV} {p:PV}
  (e:(xZ P G keep ow L T n).fn g args []=some (p,[])) (ha:args.all (zU 40)=true) (hp:zU 40 p=true):TabOk P G ((g,args,p)::T):=by
 intro x hx h
 rcases List.mem_cons.1 hx with rfl|hx
 ·rw [List.all_eq_true] at ha
  exact Pure.frame ((zcV hm hG hT keep ow L n).fn _ _ _ _ _ e) (fun q hq=>yP _ _ (ha q hq)) (yP _ _ hp) hG h
 ·exact hT x hx h
end
end Go.AL
