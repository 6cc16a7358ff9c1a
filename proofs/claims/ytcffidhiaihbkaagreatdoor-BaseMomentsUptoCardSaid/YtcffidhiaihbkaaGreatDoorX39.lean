/-
  Cells, plainly: a canonical relation read and written again; what set keeps.
-/
import Derived.Test.YtcffidhiaihbkaaGreatDoorX38
set_option linter.unusedSimpArgs false
set_option linter.unusedVariables false
set_option maxRecDepth 100000
set_option maxHeartbeats 4000000
namespace Go.AL
open Go.Proofs Go.Proofs.Tryz
theorem TBX.keep {l:La} {tb m1 m2:Nat} {es:List En} {M:Nat→List Int} {h:Heap} (hX:TBX l tb m1 m2 es M h) (B:Heap):TBX l tb m1 m2 es M (h++B):=
 ⟨hX.tb.keep (yJ _ _),fun e he=>⟨(hX.m e he).1,yJ _ _ _ _ (hX.m e he).2⟩,hX.nd⟩
theorem sJ {α β:Type} {f:α→β}: ∀ {l:List α},(l.map f).Nodup→ ∀ {x y:α},x∈l→y∈l→f x=f y→x=y
 | [],_,x,_,hx,_,_=>by cases hx
 | z::l,h,x,y,hx,hy,e=>by
  rw [List.map_cons,List.nodup_cons] at h
  rcases List.mem_cons.1 hx with ex|hx1
  ·rcases List.mem_cons.1 hy with ey|hy1
   ·rw [ex,ey]
   ·exfalso;apply h.1;rw [←ex,e];exact List.mem_map_of_mem hy1
  ·rcases List.mem_cons.1 hy with ey|hy1
   ·exfalso;apply h.1;rw [←ey, ←e];exact List.mem_map_of_mem hx1
   ·exact sJ h.2 hx1 hy1 e
theorem TBX.upd {l:La} {tb m1 m2:Nat} {es:List En} {M:Nat→List Int} {h:Heap} (hX:TBX l tb m1 m2 es M h) {r:Nat} {k:BA} (he: ∃ e∈es,e.r=r∧e.k=k) {ms:List Int} (hms:ms.length=64) (f:List Int→List Int) (hf:f (M r)=ms) (B:Heap):
  TBX l tb m1 m2 es (fun q=>if q=r then ms else M q) (h.set r (.var 188 (ms.map i64))++B)∧tE es (fun q=>if q=r then ms else M q)=oT (tE es M) k f:=by
 obtain ⟨e0,he0,rfl,rfl⟩:=he
 obtain ⟨h1,h2⟩:=hX.m e0 he0
 have hrl:=(gsi h2).1
 refine ⟨⟨hX.tb.line ⟨_,h1,h2⟩ hms B,fun e he=> ?_,hX.nd⟩,?_⟩
 ·by_cases q:e.r=e0.r
  ·rw [if_pos q,q]
   exact ⟨hms,yJ _ _ _ _ (List.getElem?_set_self hrl)⟩
  ·rw [if_neg q]
   exact ⟨(hX.m e he).1,yJ _ _ _ _ (by rw [List.getElem?_set_ne (Ne.symm q)];exact (hX.m e he).2)⟩
 ·unfold tE oT
  rw [List.map_map]
  refine List.map_congr_left fun e he=> ?_
  dsimp only [Function.comp_apply]
  rw [←(hX.tb.k e he).2.2]
  by_cases q:e.k=e0.k
  ·have:=sJ hX.tb.d he he0 q
   subst this
   rw [if_pos rfl,if_pos rfl,hf]
  ·have q2:e.r≠e0.r:=fun w=>q (by rw [sJ hX.nd he he0 w])
   rw [if_neg q,if_neg q2]
noncomputable def zoG (l:La) (T:Tbl) (x:LRw):Tbl:=x.cs.foldl (fun T c=>oT T (zk0 x.args) fun ms=>dU l ms c.a c.b c.e) (uZ (oU l) T x.args)
noncomputable def xU (l:La) (rs:List LRw):Tbl:=rs.foldl (zoG l) []
theorem zeA {l:La} {ms:List Int} {a b e:Int} (h:ms.length=64):(dU l ms a b e).length=64:=by
 unfold dU
 split
 ·exact yY ..
 ·exact h
theorem zqF (l:La) (hl:l.ok) (rs:List LRw) (hrs:rs.length≤1099511627776) (hr: ∀ x∈rs,x.ok) (h:Heap):
  ECall prog G0 64 [.agg l.c,.tc 1 [[vD rs]]] h fun p h'=> ∃ (tb m1 m2:Nat) (es:List En) (M:Nat→List Int),p= .ptr tb 0∧TBX l tb m1 m2 es M h'∧Kp h h'∧es.length≤rs.length∧tE es M=xU l rs:=by
 refine pv func64 54 false (by kernel_rfl) rfl rfl ?_
 refine g2 ?_
 refine gf (a4 @rU @sB @qK @rN) ?_
 refine zO 1 (K4 (.k:: .k:: .k:: .d:: .k:: .d:: .d:: .k:: .d::K4 (.k:: .k:: .k:: .v::D9 (D9 (D9 (D4 (.d:: .k::[]))))))) (own:=false) (fun i (s:Heap×List En×(Nat→List Int))=>[i64 i]) (fun s=>s.1) (fun i s=>TBX l (h.length+3) (h.length+1) (h.length+2) s.2.1 s.2.2 s.1∧Kp h s.1∧s.2.1.length≤i*rs.length∧tE s.2.1 s.2.2=if i=0 then [] else xU l rs) (_,[],fun _=>[]) rfl rfl ⟨⟨⟨by rw [sB];rfl,by rw [sB];rfl,by rw [sB];rfl,by omega,by simp,by simp,by simp⟩,by simp,by simp⟩,Kp.app _ _,by simp,rfl⟩ (by omega) ?_ ?_
 ·rintro ⟨H,es,M⟩ ⟨hX,hK,hn,hTab⟩ t ht
  dsimp only at*
  rw [if_neg (by omega)] at hTab
  simp only [zY] at ht;subst ht
  have h1:(((1:Nat):Int)<1)=False:=by simp
  refine gf @h1 ?_
  exact ⟨_,_,_,es,M,rfl,hX,hK,by omega,hTab⟩
 ·rintro i ⟨H,es,M⟩ hi hw ⟨hX,hK,hn,hTab⟩ t ht
  dsimp only at*
  simp only [zY] at ht;subst ht
  have hi0:i=0:=by omega
  subst hi0
  rw [if_pos rfl] at hTab
  refine gf @hw ?_
  refine zO rs.length (K9 (.d:: .d:: .k:: .d::K9 (K4 (.v::D9 (D9 (D4 (.d:: .d:: .d:: .k:: .k::[]))))))) (own:=false) (fun i (s:Heap×List En×(Nat→List Int))=>[i64 i]) (fun s=>s.1) (fun j s=>TBX l (h.length+3) (h.length+1) (h.length+2) s.2.1 s.2.2 s.1∧Kp h s.1∧s.2.1.length≤j∧tE s.2.1 s.2.2=xU l (rs.take j)) (H,es,M) rfl rfl ⟨hX,hK,by simpa using hn,hTab⟩ (by omega) ?_ ?_
  ·rintro ⟨H,es,M⟩ ⟨hX,hK,hn,hTab⟩ t ht
   dsimp only at*
   rw [List.take_length] at hTab
   simp only [zY] at ht;subst ht
   refine gf (a2 @hw @zM) ?_
   exact ⟨(H,es,M),⟨hX,hK,by dsimp only;omega,by dsimp only;rw [if_neg (by omega)];exact hTab⟩,rfl,rfl,rfl⟩
  ·rintro j ⟨H,es,M⟩ hj hw2 ⟨hX,hK,hn,hTab⟩ t ht
   dsimp only at*
   simp only [zY] at ht;subst ht
   have hx:=zG (f:=LRw.c) [] hj
   have hxo:=hr _ (List.getElem_mem hj)
   have hst:xU l (rs.take (j+1))=zoG l (xU l (rs.take j)) rs[j]:=by
    unfold xU;rw [List.take_succ_eq_append_getElem hj,List.foldl_append];rfl
   rw [←hTab] at hst
   generalize rs[j]=x at*
   obtain ⟨hx1,hx2,hx3⟩:=hxo
   refine gf (a6 @hj @hx @zB @hw2 @zA @zD) ?_
   (refine g1f (a6 @hj @hx @zB @hw2 @zA @zD) ?_;refine zC (zqJ l hl _ _ _ es M _ (hX.keep _) (by omega) x.args hx1 hx3) ?_;intro p2 h2 hr2;refine g2 ?_)
   obtain ⟨r,es',M2,rfl,hX2,hL2,hK2,hn2,hTab2⟩:=hr2
   have hw9:=hK2 H.length _ (zA H _) (by simp) (by simp)
   have hK3:=(hK.trans (Kp.app _ _)).trans hK2
   refine gf (a5 @hj @hx @zB @hw2 @hw9) ?_
   refine zO x.cs.length (K9 (.k:: .k:: .k:: .d::K9 (K9 (K4 (.k:: .k:: .v::D9 (D4 (.k:: .k:: .k::[]))))))) (own:=false) (fun i (s:Heap×(Nat→List Int))=>[i64 i]) (fun s=>s.1) (fun k s=>TBX l (h.length+3) (h.length+1) (h.length+2) es' s.2 s.1∧Kp h s.1∧tE es' s.2=(x.cs.take k).foldl (fun T c=>oT T (zk0 x.args) fun ms=>dU l ms c.a c.b c.e) (uZ (oU l) (tE es M) x.args)) (_,M2) rfl rfl ⟨hX2,hK3,hTab2⟩ (by omega) ?_ ?_
   ·rintro ⟨H4,M4⟩ ⟨hX4,hK4,hTab4⟩ t ht
    dsimp only at*
    rw [List.take_length] at hTab4
    simp only [zY] at ht;subst ht
    refine gf (a2 @hw2 @zM) ?_
    exact ⟨(H4,es',M4),⟨hX4,hK4,by dsimp only;omega,hTab4.trans hst.symm⟩,rfl,rfl,rfl⟩
   ·rintro k ⟨H4,M4⟩ hk hw3 ⟨hX4,hK4,hTab4⟩ t ht
    dsimp only at*
    simp only [zY] at ht;subst ht
    have hy:=zG (f:=Ce.c) [] hk
    have hst2:(x.cs.take (k+1)).foldl (fun T c=>oT T (zk0 x.args) fun ms=>dU l ms c.a c.b c.e) (uZ (oU l) (tE es M) x.args)=oT (tE es' M4) (zk0 x.args) fun ms=>dU l ms x.cs[k].a x.cs[k].b x.cs[k].e:=by
     rw [List.take_succ_eq_append_getElem hk,List.foldl_append, ←hTab4];rfl
    generalize x.cs[k]=y at*
    obtain ⟨e0,he0,hr0,hk0⟩:=hL2
    obtain ⟨q1,q2⟩:=hX4.m e0 he0
    rw [hr0] at q1 q2
    refine gf (a6 @hk @hy @zB @hw3 @zA @zD) ?_
    (refine g1f (a6 @hk @hy @zB @hw3 @zA @zD) ?_;refine zC (zq1 l hl _ _ _ es' _ (hX4.tb.keep (yJ _ _)) r (M4 r) q1 (yJ _ _ _ _ q2) y.a y.b y.e) ?_;intro p2 h2 hr2;refine g2 ?_)
    obtain ⟨B,rfl⟩:=hr2
    have hms:=zeA (l:=l) (a:=y.a) (b:=y.b) (e:=y.e) q1
    obtain ⟨u1,u2⟩:=(hX4.keep [Blk.var 161 y.c]).upd ⟨e0,he0,hr0,hk0⟩ hms (fun ms=>dU l ms y.a y.b y.e) rfl B
    refine gf @hw3 ?_
    exact ⟨(_,_),⟨u1,(hK4.trans (Kp.app _ _)).trans (Kp.line ⟨_,q1,yJ _ _ _ _ q2⟩ hms B),u2.trans hst2.symm⟩,rfl,rfl,rfl⟩
end Go.AL
namespace Go.AL
open Go.Proofs Go.Proofs.Tryz
def zbI (bt:Int) (x:List Vl×List Int):Option LRw:=if zh6 bt x.2 64=[] then none else some ⟨x.1,zh6 bt x.2 64⟩
def uY (bt:Int) (T:Tbl):List LRw:=(T.filterMap (zbI bt)).mergeSort fun x y=> !ltOf sD y.args x.args
theorem zn2 {α β:Type} (g:α→Option β): ∀ es:List α,((List.range es.length).filterMap fun i=>(es[i]?).bind g)=es.filterMap g
 | []=>rfl
 |e::es=>by
  rw [List.length_cons,List.range_succ_eq_map,List.filterMap_cons,List.filterMap_map]
  have:=zn2 g es
  simp only [List.getElem?_cons_zero,Option.bind_some]
  have e2:((fun i=>((e::es)[i]?).bind g)∘Nat.succ)=fun i=>(es[i]?).bind g:=by funext i;simp
  rw [e2,this]
  cases h:g e with
  |none=>rw [List.filterMap_cons_none h]
  |some b=>rw [List.filterMap_cons_some h]
theorem rB (bt:Int) (T:Tbl):(uY bt T).Perm (T.filterMap (zbI bt))∧(uY bt T).Pairwise N.rxL':=by
 unfold uY
 refine ⟨List.mergeSort_perm _ _,?_⟩
 have hO:=zqQ.swo
 have:=List.pairwise_mergeSort (le:=fun x y:LRw=> !ltOf sD y.args x.args) (fun a b c h1 h2=>by
  simp only [Bool.not_eq_true'] at h1 h2 ⊢
  exact hO.ntrans _ _ _ h2 h1) (fun a b=>by
  cases h:ltOf sD b.args a.args with
  |false=>simp
  | true=>
   have:ltOf sD a.args b.args=false:=by
    cases h':ltOf sD a.args b.args with
    |false=>rfl
    |true=>have:=hO.trans _ _ _ h h';rw [hO.irrefl] at this;cases this
   simp [this]) (T.filterMap (zbI bt))
 exact this.imp fun h=>by simpa using h
theorem zqO (l:La) (hl:l.ok) (tb m1 m2:Nat) (es:List En) (M:Nat→List Int) (h:Heap) (hX:TBX l tb m1 m2 es M h) (hz:es.length≤2199023255552):
  ECall prog G0 65 [.ptr tb 0] h fun p _=>p=vD (uY (oU l) (tE es M)):=by
 have hT:=hX.tb
 have hn:=N.rel_n l hl tb m1 m2 es h hT hz (fun e=>M e.r) hX.m
 obtain ⟨rs0,h0⟩: ∃ rs0,rs0=(List.range es.length).filterMap (N.rowOf (oU l) (fun e=>M e.r) es):=⟨_,rfl⟩
 rw [←h0] at hn
 have hmem: ∀ a∈rs0, ∃ i e,es[i]? =some e∧a.args=e.a∧N.rowOf (oU l) (fun e=>M e.r) es i=some a:=fun a ha=>by
  rw [h0,List.mem_filterMap] at ha
  obtain ⟨i, -,hi⟩:=ha
  have hi':=hi
  unfold N.rowOf at hi
  cases he:es[i]? with
  |none=>rw [he] at hi;cases hi
  |some e=>
   rw [he] at hi
   simp only [Option.bind_some] at hi
   split at hi
   ·cases hi
   ·cases hi;exact ⟨i,e,he,rfl,hi'⟩
 have hone: ∀ a∈rs0, ∀ b∈rs0,a.args=b.args→a=b:=fun a ha b hb hab=>by
  obtain ⟨i,e,he,ea,ra⟩:=hmem a ha
  obtain ⟨j,f,hf,fb,rb⟩:=hmem b hb
  have hk:e.k=f.k:=by rw [(hT.k e (List.mem_of_getElem? he)).2.2,(hT.k f (List.mem_of_getElem? hf)).2.2, ←ea, ←fb,hab]
  have hij:i=j:=by
   have hd:=List.pairwise_iff_getElem.1 hT.d
   have hi:=(gsi he)
   have hj:=(gsi hf)
   obtain ⟨hi1,hi2⟩:=hi
   obtain ⟨hj1,hj2⟩:=hj
   rcases Nat.lt_trichotomy i j with q|q|q
   ·exact absurd (by rw [List.getElem_map,List.getElem_map,hi2,hj2];exact hk) (hd i j (by simpa using hi1) (by simpa using hj1) q)
   ·exact q
   ·exact absurd (by rw [List.getElem_map,List.getElem_map,hi2,hj2];exact hk.symm) (hd j i (by simpa using hj1) (by simpa using hi1) q)
  subst hij
  rw [ra] at rb;exact Option.some.inj rb
 have hfm:rs0=(tE es M).filterMap (zbI (oU l)):=by
  rw [h0,tE,List.filterMap_map]
  exact zn2 _ es
 obtain ⟨hT1,hT2⟩:=rB (oU l) (tE es M)
 rw [←hfm] at hT1
 generalize uY (oU l) (tE es M)=T at*
 have htb:zU 40 (vD T)=true:=all_map fun x=>by
  have q1:zU 39 (pH x.args)=true:=all_map fun _=>rfl
  have q2:zU 39 (ces x.cs)=true:=all_map fun _=>rfl
  simp only [LRw.c,List.all_cons,List.all_nil,q1,q2,Bool.and_true]
 refine ⟨vD T,h.map (zm2 h.length [] 0),rfl,?_⟩
 ·refine ACall.weaken (ACall.cut2 h.length 0 40 (Nat.le_refl _) (hn.mono ?_))
  rintro p h' ⟨hh,xs,hO,hR,hp,hs⟩
  have hxT:xs.map (·.1.1)=T:=aG zqQ (fun r:LRw=>r.args) hp hT1 hone hs hT2
  refine ⟨vD T,?_,rfl,?_⟩
  ·rw [←hxT];exact zl9 (Nat.le_succ _) hO hR
  ·unfold zk3
   rw [hh]
   refine List.map_congr_left fun b _=> ?_
   exact fzB0 _ _ _ b
end Go.AL
namespace Go.AL
open Go.Proofs Go.Proofs.Tryz
@[go_sem] def UCsx5f40.pl:Nat→DPlan
 |11=>⟨[yA,yB,yA,yA,yA,yB,yA,yA,yB,yC,yA,yA],xF,0⟩
 |_=>⟨[],[],0⟩
theorem zn7 (l:La) (hl:l.ok):EPure prog G0 62 [.agg l.c] fun v=>v=bo (uE l==0):=by
 refine ECall.cut (R:=fun v _=>v=bo (uE l==0)) (pv func62 6 false (by kernel_rfl) rfl rfl ?_) (by rintro p h rfl;rfl)
 refine g2 ?_
 refine ge ?_
 (refine g1 ?_;refine zC ((zjV l hl).1.call zK (by simp [zJ]) _) ?_;intro p2 h2 hr2;refine g2 ?_)
 obtain ⟨rfl,rfl⟩:=hr2
 refine ge ?_
 rfl
theorem zp9 (x y:LRw) (hx:x.args.length≤140737488355328) (hx2:x.cs.length≤140737488355328):EPure prog G0 66 [.agg x.c,.agg y.c] fun v=>v=bo (ze8 (x=y)):=by
 refine ECall.cut (R:=fun v _=>v=bo (ze8 (x=y))) (pv func66 17 false (by kernel_rfl) rfl rfl ?_) (by rintro p h rfl;rfl)
 refine g2 ?_
 refine ge ?_
 (refine g1 ?_;refine zC ((zjE x.args y.args hx).call zK (by simp [zJ]) _) ?_;intro p2 h2 hr2;refine g2 ?_)
 obtain ⟨rfl,rfl⟩:=hr2
 by_cases h1:x.args=y.args
 ·rw [decide_eq_true h1]
  refine ge ?_
  (refine g1 ?_;refine zC ((zrD x.cs y.cs hx2).call zK (by simp [zJ]) _) ?_;intro p2 h2 hr2;refine g2 ?_)
  obtain ⟨rfl,rfl⟩:=hr2
  refine ge ?_
  by_cases h2:x.cs=y.cs
  ·rw [decide_eq_true h2,pO (by cases x;cases y;simp_all)]
  ·rw [decide_eq_false h2,uA fun q=>h2 (by rw [q])]
 ·rw [decide_eq_false h1,uA fun q=>h1 (by rw [q])]
  refine ge ?_
  rfl
theorem zpO (a b:List LRw) (ha:a.length≤140737488355328) (g:FuncId) (hF: ∀ x∈a, ∀ y∈b,EPure prog G0 g [.agg x.c,.agg y.c] fun p=>p=bo (ze8 (x=y))):EPure prog G0 63 [.ts 2 (a.map LRw.c),.ts 2 (b.map LRw.c),.fn (.func g) [] []] fun r=>r=bo (ze8 (a=b)):=by
 refine ECall.cut (R:=fun p _=>p=bo (ze8 (a=b))) (pv func63 32 false (by kernel_rfl) rfl rfl ?_) (by rintro p h rfl;rfl)
 refine g2 ?_
 by_cases hl:a.length=b.length
 ·have hne:((a.length:Int)!=(b.length:Int))=false:=by simp [hl]
  refine gf @hne ?_
  refine zO a.length (K4 (.k:: .k::D4 (K4 (.k:: .k:: .k:: .v::D9 (D4 (.d::[])))))) (own:=false) (fun i (_:Heap)=>[i64 i]) (fun J=>J) (fun i _=> ∀ (j:Nat) (h:j<a.length) (h':j<b.length),j<i→a[j]=b[j]) [] rfl rfl (fun _ _ _ h=>absurd h (Nat.not_lt_zero _)) ha ?_ ?_
  ·rintro _ hI
   refine gm ?_
   rw [pO (List.ext_getElem hl fun j h h'=>hI j h h' h)]
   refine gf @zM ?_
   rfl
  ·rintro i J hi hw hI
   refine gm ?_
   have hlb:i<b.length:=by omega
   have hg:=zG (f:=LRw.c) [] hi
   have hgb:=zG (f:=LRw.c) [] hlb
   have hFx:=hF _ (List.getElem_mem hi) _ (List.getElem_mem hlb)
   have no: ¬a[i]=b[i]→ze8 (a=b)=false:=fun h=>uA fun q=>h (by subst q;rfl)
   have next:a[i]=b[i]→ ∀ (j:Nat) (h:j<a.length) (h':j<b.length),j<i+1→a[j]=b[j]:=fun q j h h' hj=>by
    rcases Nat.lt_or_ge j i with r|r
    ·exact hI j h h' r
    ·have:j=i:=by omega
     subst this;exact q
   clear hI
   generalize a[i]=x at*
   generalize b[i]=y at*
   refine gf (a9 @hi @hlb @hw @hg @hgb @zB @qK @rN (a2 @rU @sB)) ?_
   (refine g1f (a9 @hi @hlb @hw @hg @hgb @zB @qK @rN (a2 @rU @sB)) ?_;refine zC (hFx.call zK (by simp [zJ]) _) ?_;intro p2 h2 hr2;refine g2 ?_)
   obtain ⟨rfl,rfl⟩:=hr2
   by_cases hxy:x=y
   ·rw [pO hxy]
    refine gf (a9 @hi @hlb @hw @hg @hgb @zB @qK @rN (a2 @rU @sB)) ?_
    exact ⟨_,next hxy,rfl,rfl,rfl⟩
   ·rw [uA hxy,no hxy]
    refine gf (a9 @hi @hlb @hw @hg @hgb @zB @qK @rN (a2 @rU @sB)) ?_
    rfl
 ·have hne:((a.length:Int)!=(b.length:Int))=true:=by simp;omega
  rw [uA fun q=>hl (by rw [q])]
  refine gf @hne ?_
  rfl
def CelX (l:La) (ty:List Int) (rs:List LRw):Prop:=uE l=0∧(∀ x∈rs,ArgX ty x.args)∧rs=uY (oU l) (xU l rs)
open UCsx5f40 in
theorem zqA (l:La) (hl:l.ok) (ty:List Int) (hty:ty.length≤1048576) (rs:List LRw) (hrs:rs.length≤1099511627776) (hr: ∀ x∈rs,x.args.length≤1099511627776∧x.cs.length≤1099511627776):
  EPure prog G0 40 [.agg l.c,vF ty,vD rs] fun v=>v=bo (ze8 (CelX l ty rs)):=by
 refine ECall.cut (R:=fun v _=>v=bo (ze8 (CelX l ty rs))) (pv func40 55 false (by kernel_rfl) rfl rfl ?_) (by rintro p h rfl;rfl)
 refine g2 ?_
 refine ge ?_
 (refine g1 ?_;refine zC ((zn7 l hl).call zK (by simp [zJ]) _) ?_;intro p2 h2 hr2;refine g2 ?_)
 obtain ⟨rfl,rfl⟩:=hr2
 by_cases hc:uE l=0
 case neg=>
  rw [beq_eq_false_iff_ne.2 hc,uA fun k=>hc k.1]
  refine ge ?_
  rfl
 rw [beq_iff_eq.2 hc]
 refine ge ?_
 refine zO rs.length (K4 (.k:: .k:: .d:: .k:: .d:: .d:: .d::K4 (.k:: .v::D9 (D9 (D9 (D4 (K4 (.k:: .k:: .k::[])))))))) (own:=false) (fun i (_:Heap)=>[i64 i]) (fun J=> .var 73 l.c::J) (fun i _=> ∀ (j:Nat) (h:j<rs.length),j<i→ArgX ty rs[j].args) [] rfl rfl (fun j _ hj=>absurd hj (Nat.not_lt_zero _)) (by omega) ?_ ?_
 ·rintro J hI
  refine gm ?_
  have hall: ∀ x∈rs,ArgX ty x.args:=fun x hx=>by obtain ⟨j,hj,rfl⟩:=List.getElem_of_mem hx;exact hI j hj hj
  have hok: ∀ x∈rs,x.ok:=fun x hx=>⟨by rw [(hall x hx).1];omega,(hr x hx).2,(hall x hx).sz⟩
  refine gf @zM ?_
  (refine g1 ?_;refine zC (zqF l hl rs hrs hok _) ?_;intro p2 h2 hr2;refine g2 ?_)
  obtain ⟨tb,m1,m2,es,M,rfl,hX,hK,hn,hTab⟩:=hr2
  refine ge ?_
  (refine g1 ?_;refine zC (zqO l hl tb m1 m2 es M _ hX (by omega)) ?_;intro p2 h2 hr2;refine g2 ?_)
  subst hr2
  rw [hTab]
  refine ge ?_
  (refine g1 ?_;refine zC ((zpO rs (uY (oU l) (xU l rs)) (by omega) 66 (fun x hx y _=>zp9 x y (by have:=(hr x hx).1;omega) (by have:=(hr x hx).2;omega))).call zK (by simp [zJ,yO]) _) ?_;intro p2 h2 hr2;refine g2 ?_)
  obtain ⟨rfl,rfl⟩:=hr2
  refine ge ?_
  by_cases hE:rs=uY (oU l) (xU l rs)
  ·rw [pO hE,pO ⟨hc,hall,hE⟩]
  ·rw [uA hE,uA fun k=>hE k.2.2]
 ·rintro i J hi hw hI
  refine gm ?_
  have hx:=zG (f:=LRw.c) [] hi
  have no: ¬ArgX ty rs[i].args→ze8 (CelX l ty rs)=false:=fun h=>uA fun k=>h (k.2.1 _ (List.getElem_mem hi))
  have next:ArgX ty rs[i].args→ ∀ (j:Nat) (h:j<rs.length),j<i+1→ArgX ty rs[j].args:=fun q j h hj=>by
   rcases Nat.lt_or_ge j i with r|r
   ·exact hI j h r
   ·have:j=i:=by omega
    subst this;exact q
  obtain ⟨hx1,hx2⟩:=hr _ (List.getElem_mem hi)
  clear hI
  generalize rs[i]=x at*
  by_cases hl0:x.args.length=ty.length
  ·have e0:((x.args.length:Int)!=(ty.length:Int))=false:=by simp [hl0]
   refine gf (a7 @hi @hx @zB @hw @zA @zD @e0) ?_
   refine zO x.args.length (K4 (.k:: .k:: .d:: .k:: .k:: .d:: .d::K9 (K9 (.v::D9 (D4 (D4 (K4 (K4 ([]))))))))) (own:=false) (fun i (_:Heap)=>[i64 i]) (fun J=> .var 73 l.c::J) (fun i _=> ∀ (j:Nat) (h:j<x.args.length) (h':j<ty.length),j<i→x.args[j].t=ty[j]∧zoC x.args[j]=true) _ rfl rfl (fun j _ _ hj=>absurd hj (Nat.not_lt_zero _)) (by omega) ?_ ?_
   ·rintro J hI2
    refine gm ?_
    refine gf (a2 @hw @zM) ?_
    exact ⟨J,next (jR hl0 hI2),rfl,rfl,rfl⟩
   ·rintro k J hk hw2 hI2
    refine gm ?_
    have hkt:k<ty.length:=by omega
    have hy:=zG (f:=Vl.c) [] hk
    have hz:=zG (f:=fun n:Int=>[i64 n]) [] hkt
    have no2: ¬(x.args[k].t=ty[k]∧zoC x.args[k]=true)→ze8 (CelX l ty rs)=false:=fun h=>no fun q=>h (q.2 k hk hkt)
    have next2:(x.args[k].t=ty[k]∧zoC x.args[k]=true)→ ∀ (j:Nat) (h:j<x.args.length) (h':j<ty.length),j<k+1→x.args[j].t=ty[j]∧zoC x.args[j]=true:=fun q j h h' hj=>by
     rcases Nat.lt_or_ge j k with r|r
     ·exact hI2 j h h' r
     ·have:j=k:=by omega
      subst this;exact q
    clear hI2 next
    generalize x.args[k]=y at*
    generalize ty[k]=tk at*
    have hvv:=gT y
    by_cases ht0:y.t=tk
    ·have e1:(y.t !=tk)=false:=by simp [ht0]
     refine gf (a9 @hk @hkt @hy @hz @zB @hw2 @zA @zD @e1) ?_
     (refine vY ?_;refine zN rfl rfl rfl ?_;intro sr hsr;simp only [sK,wP] at hsr;subst hsr;(first|refine pK ?_|refine pL ?_);intro sr hsr;simp only [go_sem,hk,hkt,hy,hz,zB,hw2,zA,zD,e1] at hsr;subst hsr;refine zP (by decide) (by decide) (hvv.call zK (by simp [zJ]) _) ?_;intro p2 h2 hr2 ts2 hts;simp only [go_sem] at hts;subst hts)
     obtain ⟨rfl,rfl⟩:=hr2
     cases hb:zoC y
     ·rw [no2 fun q=>by rw [hb] at q;exact Bool.noConfusion q.2]
      refine gf (a9 @hk @hkt @hy @hz @zB @hw2 @zA @zD @e1) ?_
      rfl
     ·refine gf (a9 @hk @hkt @hy @hz @zB @hw2 @zA @zD @e1) ?_
      exact ⟨_,next2 ⟨ht0,hb⟩,rfl,rfl,rfl⟩
    ·have e1:(y.t !=tk)=true:=by simp [ht0]
     rw [no2 fun q=>ht0 q.1]
     refine gf (a9 @hk @hkt @hy @hz @zB @hw2 @zA @zD @e1) ?_
     rfl
  ·have e0:((x.args.length:Int)!=(ty.length:Int))=true:=by simp;omega
   rw [no fun q=>hl0 q.1]
   refine gf (a7 @hi @hx @zB @hw @zA @zD @e0) ?_
   rfl
end Go.AL
namespace Go.AL
open Go.Proofs Go.Proofs.Tryz
@[go_sem] def UCsx6f127.pl:Nat→DPlan
 |8=>⟨[yB,yA,yB,yA,yA,yC],znU,0⟩
 |_=>⟨[],[],0⟩
noncomputable def za9 (l:La) (T:Tbl) (args:List Vl) (a b e:Int):Tbl:=oT (uZ (oU l) T args) (zk0 args) fun ms=>if ze7 l e=true then tB (fun _=>e) ms a b else ms
theorem zqV {T:Tbl} {k:BA}:oT T k (fun ms=>ms)=T:=by
 unfold oT
 conv=>rhs;rw [←List.map_id T]
 exact List.map_congr_left fun x _=>by split<;>rfl
theorem zqD (rs:List LRw):zU 40 (vD rs)=true:=all_map fun x=>by
 have q1:zU 39 (pH x.args)=true:=all_map fun _=>rfl
 have q2:zU 39 (ces x.cs)=true:=all_map fun _=>rfl
 simp only [LRw.c,List.all_cons,List.all_nil,q1,q2,Bool.and_true]
open UCsx6f127 in
theorem zrW (l:La) (hl:l.ok) (hc:uE l=0) (rs:List LRw) (hrs:rs.length≤1099511627776) (hr: ∀ x∈rs,x.ok) (args:List Vl) (ha:args.length≤1048576) (hs: ∀ a∈args,a.s.size≤1048576) (a b e:Int):
  EPure prog G0 127 [.agg l.c,vD rs,pH args,.agg [i64 a,i64 b],i64 e] fun p=>p=vD (uY (oU l) (za9 l (xU l rs) args a b e)):=by
 refine ECall.cutW (R:=fun p _=>p=vD (uY (oU l) (za9 l (xU l rs) args a b e))) (pv func127 40 false (by kernel_rfl) rfl rfl ?_) ?_
 refine g2 ?_
 ·refine ge ?_
  (refine g1 ?_;refine zC ((zn7 l hl).call zK (by simp [zJ]) _) ?_;intro p2 h2 hr2;refine g2 ?_)
  obtain ⟨rfl,rfl⟩:=hr2
  rw [beq_iff_eq.2 hc]
  refine ge ?_
  (refine g1 ?_;refine zC (zqF l hl rs hrs hr _) ?_;intro p2 h2 hr2;refine g2 ?_)
  obtain ⟨tb,m1,m2,es,M,rfl,hX,hK,hn,hTab⟩:=hr2
  have b1:=hK 1 _ rfl (by simp) (by simp)
  have b2:=hK 2 _ rfl (by simp) (by simp)
  refine gf (a2 @b1 @b2) ?_
  (refine g1f (a2 @b1 @b2) ?_;refine zC (zqJ l hl tb m1 m2 es M _ hX (by omega) args ha hs) ?_;intro p2 h2 hr2;refine g2 ?_)
  obtain ⟨r,es',M2,rfl,hX',hL,hK',hn',hTab'⟩:=hr2
  rw [hTab] at hTab'
  unfold za9
  rw [←hTab']
  have c1:=hK' _ _ b1 (by simp) (by simp)
  have c2:=hK' _ _ b2 (by simp) (by simp)
  clear b1 b2 hK hK' hX hTab hTab'
  have C1: ∀ l:List Blk,(h2++l)[1]? =some (.var 36 [i64 a,i64 b]):=fun l=>yJ _ _ _ _ c1
  have C2: ∀ l:List Blk,(h2++l)[2]? =some (.var 3 [i64 e]):=fun l=>yJ _ _ _ _ c2
  refine gf (a6 @rU @sB @qK @rN @C1 @C2) ?_
  (refine g1f (a6 @rU @sB @qK @rN @C1 @C2) ?_;refine zC (zgW l tb m1 m2 es' _ (hX'.tb.keep (yJ _ _)) e) ?_;intro p2 h2 hr2;refine g2 ?_)
  obtain ⟨rfl,rfl⟩:=hr2
  cases hel:ze7 l e with
  |false=>
   simp only [Bool.false_eq_true,if_false]
   rw [zqV]
   refine gf (a6 @rU @sB @qK @rN @C1 @C2) ?_
   (refine g1 ?_;refine zC (zqO l hl tb m1 m2 es' M2 _ (hX'.keep _) (by omega)) ?_;intro p2 h2 hr2;refine g2 ?_)
   subst hr2
   refine ge ?_
   rfl
  | true=>
   simp only [if_true]
   obtain ⟨e0,he0,hr00,hk0⟩:=hL
   obtain ⟨hms0,hr0⟩:=hX'.m e0 he0
   rw [hr00] at hms0 hr0
   obtain ⟨ms0,hms0e⟩: ∃ ms0,M2 r=ms0:=⟨_,rfl⟩
   rw [hms0e] at hms0 hr0
   have hl0: ∀ k,(tB (fun _=>e) ms0 a k).length=64:=fun k=>yY ..
   have hst:tB (fun _=>e) ms0 a (zqT a:Nat)=ms0:=zdN hms0
   have hrl:r<h2.length:=(gsi hr0).1
   have hself:h2=h2.set r (.var 188 (ms0.map i64)):=by
    obtain ⟨q1,q2⟩:=gsi hr0
    rw [←q2,List.set_getElem_self]
   refine gf (a6 @rU @sB @qK @rN @C1 @C2) ?_
   (refine g1f (a6 @rU @sB @qK @rN @C1 @C2) ?_;refine zC (jQ a b _) ?_;intro p2 h2 hr2;refine g2 ?_)
   obtain ⟨rfl,rfl⟩:=hr2
   refine gf (a6 @rU @sB @qK @rN @C1 @C2) ?_
   refine tT (f:=174) (fst:=[]) (cap:=_) (fun _ h=>h) rfl ?_
   simp only [List.toList_toArray,List.cons_append,List.nil_append,List.append_nil,List.append_assoc,List.length_append,List.length_cons,List.length_nil,Nat.zero_add,Nat.reduceAdd,Nat.add_assoc,List.singleton_append]
   generalize hLp:Blk.loop _ _ _ _ _ _=L
   refine (zqH a b (h2.length+1) (h2.length+2) (h2.length+3) (fun k h1=>h1=h2.set r (.var 188 ((tB (fun _=>e) ms0 a (k:Nat)).map i64))++[.var 143 [.ptr r 0],.var 3 [i64 a],.var 3 [i64 b],L]) _ (by rw [hst, ←hself]) ((sB h2 _ 1).trans rfl) ?_ ?_).mono ?_
   ·rintro k _ rfl
    have:=sB (h2.set r (.var 188 ((tB (fun _=>e) ms0 a (k:Nat)).map i64))) [.var 143 [.ptr r 0],.var 3 [i64 a],.var 3 [i64 b],L] 2
    rw [List.length_set] at this
    exact this
   ·rintro k _ hklo hk64 hkb rfl
    subst hLp
    have hstep:=zfE (g:=fun _=>e) (ms:=ms0) hklo hk64
    have hms:=hl0 (k:Nat)
    generalize tB (fun _=>e) ms0 a (k:Nat)=ms at*
    have hr2':r≠2:=fun q=>by subst q;rw [hr0] at c2;cases c2
    have F0: ∀ (X:Blk) (l:List Blk),(h2.set r X++l)[h2.length]? =l[0]? :=fun X l=>by have:=rU (h2.set r X) l;rwa [List.length_set] at this
    have Fk: ∀ (X:Blk) (l:List Blk) (k:Nat),(h2.set r X++l)[h2.length+k]? =l[k]? :=fun X l k=>by have:=sB (h2.set r X) l k;rwa [List.length_set] at this
    have Sk: ∀ (X:Blk) (l:List Blk) (k:Nat) (b:Blk),(h2.set r X++l).set (h2.length+k) b=h2.set r X++l.set k b:=fun X l k b=>by have:=rN (h2.set r X) l k b;rwa [List.length_set] at this
    have Ft: ∀ (X:Blk) (l:List Blk),(h2.set r X++l)[2]? =some (.var 3 [i64 e]):=fun X l=>yJ _ _ _ _ (by rw [List.getElem?_set_ne hr2'];exact c2)
    have Fr: ∀ (X:Blk) (l:List Blk),(h2.set r X++l)[r]? =some X:=fun X l=>yJ _ _ _ _ (List.getElem?_set_self hrl)
    have Sr: ∀ (X Y:Blk) (l:List Blk),(h2.set r X++l).set r Y=h2.set r Y++l:=fun X Y l=>by rw [List.set_append_left _ _ (by rw [List.length_set];exact hrl),List.set_set]
    have hk:k<ms.length:=by omega
    have hd:=yU i64 ms k .un hk
    have hsp: ∀ v,(ms.map i64).take k++i64 v::(ms.map i64).drop (k+1)=(ms.set k v).map i64:=fun v=>wY i64 ms k v hk
    have hk6:((k:Int)<64)=True:=by simp;omega
    refine ⟨_,_,_,_,_,_,(Fk _ _ 3).trans rfl,rfl,?_⟩
    refine uV (own:=false) _ _ _ _ ?_
    simp only [rput,List.set_cons_zero,List.set_cons_succ]
    (repeat (first|refine gz ?_|(refine gn ?_;intro zs zh;(try simp only [go_sem,F0,Fk,Ft,Fr,Sk,Sr] at zh);subst zh;refine gv ?_)|refine yD UCsx6f127.pl ?_))
    refine ⟨rfl,_,_,_,_,_,(Fk _ _ 3).trans rfl,?_⟩
    refine uV (own:=false) _ _ _ _ ?_
    simp only [Sk,List.set_cons_zero,List.set_cons_succ]
    (repeat (first|refine gz ?_|(refine gn ?_;intro zs zh;(try simp only [go_sem,F0,Fk,Ft,Fr,Sk,Sr,hd,hsp,hk6,hms,zB] at zh);subst zh;refine gv ?_)|refine yD UCsx6f127.pl ?_))
    refine ⟨_,_,_,_,_,_,(Fk _ _ 3).trans rfl,rfl,?_⟩
    rw [Sk,hstep]
    rfl
   ·rintro p h' ⟨k,rfl,hk1,hk2⟩
    subst hLp
    rw [znS hk1 hk2]
    have Fk: ∀ (X:Blk) (l:List Blk) (k:Nat),(h2.set r X++l)[h2.length+k]? =l[k]? :=fun X l k=>by have:=sB (h2.set r X) l k;rwa [List.length_set] at this
    have Sk: ∀ (X:Blk) (l:List Blk) (k:Nat) (b:Blk),(h2.set r X++l).set (h2.length+k) b=h2.set r X++l.set k b:=fun X l k b=>by have:=rN (h2.set r X) l k b;rwa [List.length_set] at this
    refine ⟨_,_,_,_,_,_,(Fk _ _ 3).trans rfl,by simp,?_⟩
    simp only [Sk,List.set_cons_zero,List.set_cons_succ]
    refine ge ?_
    obtain ⟨u1,u2⟩:=hX'.upd ⟨e0,he0,hr00,hk0⟩ (yY (fun _=>e) ms0 a b) (fun ms=>tB (fun _=>e) ms a b) (by rw [hms0e]) _
    (refine g1 ?_;refine zC (zqO l hl tb m1 m2 es' _ _ u1 (by omega)) ?_;intro p2 h2 hr2;refine g2 ?_)
    subst hr2
    refine ge ?_
    rw [u2]
 ·rintro p h rfl
  rw [vE 0 h 40 _ (zqD _)]
  exact ⟨_,PLe.refl _,rfl,yP _ _ (zqD _)⟩
end Go.AL
namespace Go.AL
open Go.Proofs Go.Proofs.Tryz
@[go_sem] def UBsx2f13.pl:Nat→DPlan
 |6=>⟨[yA,yB,yA,yA,yB,yA,yB,yA,yA,yB,yA,yA],xF,0⟩
 |12=>⟨[yA,yA,yA,yA,yA,yB,yA,yB,yA,yB,yA,yB,yA,yC,yA,yA],xE,0⟩
 |_=>⟨[],[],0⟩
def PdX (p:Pg) (q:Pd) (y:List Rw) (z:List LRw):Prop:=
 (q.base=false→y=[]∧z=[])∧
 (q.base=true→q.of'≠ -1→y=[]∧ ∀ h:q.of'.toNat<p.lats.length,CelX p.lats[q.of'.toNat] q.types z)∧
 (q.base=true→q.of'= -1→z=[]∧RelX q.types y∧zr1 q.key.toNat y)
structure DatX (p:Pg) (d:Dt):Prop where
 tv:zpQ p=true
 rl:d.rels.length=p.preds.length
 ll:d.lats.length=p.preds.length
 at': ∀ (j:Nat) (h:j<p.preds.length) (hr:j<d.rels.length) (hl:j<d.lats.length),PdX p p.preds[j] d.rels[j] d.lats[j]
open UBsx2f13 in
theorem zeD (p:Pg) (hp:p.ok) (hle:p.sm) (d:Dt) (hd:d.sz):EPure prog G0 13 [.agg p.c,.agg d.c] fun v=>v=bo (ze8 (DatX p d)):=by
 refine ECall.cut (R:=fun v _=>v=bo (ze8 (DatX p d))) (pv func13 95 false (by kernel_rfl) rfl rfl ?_) (by rintro p h rfl;rfl)
 refine g2 ?_
 have htv:=ze0 p hp hle
 refine ge ?_
 (refine g1 ?_;refine zC (htv.1.call zK (by simp [zJ]) _) ?_;intro p2 h2 hr2;refine g2 ?_)
 obtain ⟨rfl,rfl⟩:=hr2
 cases hb:zpQ p with
 |false=>
  rw [uA fun k=>by have:=k.tv;rw [hb] at this;cases this]
  refine ge ?_
  rfl
 | true=>
  obtain ⟨hf,hpb, -⟩:=htv.2 hb
  have hpl:=hf.pl
  by_cases h1:d.rels.length=p.preds.length
  case neg=>
   have e1:((d.rels.length:Int)!=(p.preds.length:Int))=true:=by simp;omega
   rw [uA fun k=>h1 k.rl]
   refine gf @e1 ?_
   rfl
  have e1:((d.rels.length:Int)!=(p.preds.length:Int))=false:=by simp [h1]
  by_cases h2:d.lats.length=p.preds.length
  case neg=>
   have e2:((d.lats.length:Int)!=(p.preds.length:Int))=true:=by simp;omega
   rw [uA fun k=>h2 k.ll]
   refine gf (a2 @e1 @e2) ?_
   rfl
  have e2:((d.lats.length:Int)!=(p.preds.length:Int))=false:=by simp [h2]
  refine gf (a2 @e1 @e2) ?_
  refine zO p.preds.length (K4 (D4 (.d:: .d::K9 (K9 (K4 (.k:: .k:: .v::D9 (D9 (D9 (D9 (D9 (D9 (D4 (.d:: .d::[]))))))))))))) (own:=false) (fun i (_:Heap)=>[i64 i]) (fun J=> .var 27 p.c:: .var 31 d.c::J) (fun i _=> ∀ (j:Nat) (h:j<p.preds.length) (hr:j<d.rels.length) (hl:j<d.lats.length),j<i→PdX p p.preds[j] d.rels[j] d.lats[j]) [] rfl rfl (fun j _ _ _ hj=>absurd hj (Nat.not_lt_zero _)) (by omega) ?_ ?_
  ·rintro J hI
   refine gm ?_
   rw [pO ⟨hb,h1,h2,fun j h hr hl=>hI j h hr hl h⟩]
   refine gf @zM ?_
   rfl
  ·rintro i J hi hw hI
   refine gm ?_
   have hir:i<d.rels.length:=by omega
   have hil:i<d.lats.length:=by omega
   have hx:=zG (f:=Pd.c) [] hi
   have hy:=zG (f:=fun r=>[uN r]) [] hir
   have hz:=zG (f:=fun r=>[vD r]) [] hil
   have no: ¬PdX p p.preds[i] d.rels[i] d.lats[i]→ze8 (DatX p d)=false:=fun h=>uA fun k=>h (k.at' i hi hir hil)
   have next:PdX p p.preds[i] d.rels[i] d.lats[i]→ ∀ (j:Nat) (h:j<p.preds.length) (hr:j<d.rels.length) (hl:j<d.lats.length),j<i+1→PdX p p.preds[j] d.rels[j] d.lats[j]:=by
    intro q j h hr hl hj
    rcases Nat.lt_or_ge j i with hji|hji
    ·exact hI j h hr hl hji
    ·have:j=i:=by omega
     subst this;exact q
   clear hI
   have hxf:=hf.p _ (List.getElem_mem hi)
   have hxb:=hpb _ (List.getElem_mem hi)
   have hys:=hd.r _ (List.getElem_mem hir)
   have hzs:=hd.l _ (List.getElem_mem hil)
   generalize p.preds[i]=x at*
   generalize d.rels[i]=y at*
   generalize d.lats[i]=z at*
   obtain ⟨hy1,hy2⟩:=hys
   obtain ⟨hz1,hz2⟩:=hzs
   obtain ⟨hf1,hf2,hf3⟩:=hxf
   obtain ⟨xname,xtypes,xlat,xof,xbase,xkey,xat⟩:=x
   dsimp only at*
   cases xbase with
   | false=>
    have hw0:IntKind.i64.wrap ((y.length:Int)+(z.length:Int))=((y.length+z.length:Nat):Int):=by rw [xM (by omega) (by omega)];omega
    by_cases h0:y.length+z.length=0
    ·have e3:((((y.length+z.length:Nat)):Int)==0)=true:=by rw [h0];rfl
     refine gf (a9 @hi @hir @hil @hx @hy @hz @zB @hw (a4 @zA @zD @hw0 @e3)) ?_
     have q1:y=[]:=List.eq_nil_of_length_eq_zero (by omega)
     have q2:z=[]:=List.eq_nil_of_length_eq_zero (by omega)
     exact ⟨_,next ⟨fun _=>⟨q1,q2⟩,nofun,nofun⟩,rfl,rfl,rfl⟩
    ·have e3:((((y.length+z.length:Nat)):Int)==0)=false:=by rw [beq_eq_false_iff_ne];omega
     rw [no fun k=>h0 (by rw [(k.1 rfl).1,(k.1 rfl).2];rfl)]
     refine gf (a9 @hi @hir @hil @hx @hy @hz @zB @hw (a4 @zA @zD @hw0 @e3)) ?_
     rfl
   | true=>
    refine gf (a9 @hi @hir @hil @hx @hy @hz @zB @hw (a2 @zA @zD)) ?_
    (refine g1f @zA ?_;refine zC ((lR ⟨xname,xtypes,xlat,xof,true,xkey,xat⟩).call zK (by simp [zJ]) _) ?_;intro p2 h2 hr2;refine g2 ?_)
    obtain ⟨⟨b,rfl,hb⟩,rfl⟩:=hr2
    dsimp only at hb
    cases b with
    | true=>
     have ho:xof≠ -1:=by simpa using hb.symm
     have hol:xof.toNat<p.lats.length:=by omega
     have hq:=zG (f:=La.c) [] hol
     have hlo:=hp.l _ (List.getElem_mem hol)
     have pq:PdX p ⟨xname,xtypes,xlat,xof,true,xkey,xat⟩ y z↔y=[]∧CelX p.lats[xof.toNat] xtypes z:=⟨fun k=>⟨(k.2.1 rfl ho).1,(k.2.1 rfl ho).2 hol⟩,fun k=>⟨nofun,fun _ _=>⟨k.1,fun _=>k.2⟩,fun _ h=>absurd h ho⟩⟩
     rw [pq] at no next
     clear pq
     generalize p.lats[xof.toNat]=lt at*
     by_cases hy0:y.length=0
     ·have e3:((y.length:Int)==0)=true:=by rw [hy0];rfl
      have q1:y=[]:=List.eq_nil_of_length_eq_zero hy0
      refine gf (a9 @hi @hir @hil @hx @hy @hz @zB @hw (a5 @zA @zD @e3 @hq @hol)) ?_
      (refine vY ?_;refine zN rfl rfl rfl ?_;intro sr hsr;simp only [sK,wP] at hsr;subst hsr;(first|refine pK ?_|refine pL ?_);intro sr hsr;simp only [go_sem,hi,hir,hil,hx,hy,hz,zB,hw,zA,zD,e3,hq,hol] at hsr;subst hsr;refine zP (by decide) (by decide) ((zqA lt hlo xtypes (by omega) z (by omega) hz2).call zK (by simp [zJ]) _) ?_;intro p2 h2 hr2 ts2 hts;simp only [go_sem] at hts;subst hts)
      obtain ⟨rfl,rfl⟩:=hr2
      by_cases hbv:CelX lt xtypes z
      ·rw [pO hbv]
       refine gf @hw ?_
       exact ⟨_,next ⟨q1,hbv⟩,rfl,rfl,rfl⟩
      ·rw [uA hbv,no fun k=>hbv k.2]
       refine gf @hw ?_
       rfl
     ·have e3:((y.length:Int)==0)=false:=by rw [beq_eq_false_iff_ne];omega
      rw [no fun k=>hy0 (by rw [k.1];rfl)]
      refine gf (a9 @hi @hir @hil @hx @hy @hz @zB @hw (a5 @zA @zD @e3 @hq @hol)) ?_
      rfl
    | false=>
     have ho:xof= -1:=by simpa using hb.symm
     have pq:PdX p ⟨xname,xtypes,xlat,xof,true,xkey,xat⟩ y z↔z=[]∧RelX xtypes y∧zr1 xkey.toNat y:=⟨fun k=>k.2.2 rfl ho,fun k=>⟨nofun,fun _ h=>absurd ho h,fun _ _=>k⟩⟩
     rw [pq] at no next
     clear pq
     by_cases hz0:z.length=0
     ·have e3:((z.length:Int)==0)=true:=by rw [hz0];rfl
      have q2:z=[]:=List.eq_nil_of_length_eq_zero hz0
      refine gf (a3 @hw @zA @e3) ?_
      (refine g1f (a3 @hw @zA @e3) ?_;refine zC ((zoF xtypes y (by omega) (by omega) hy2).call zK (by simp [zJ]) _) ?_;intro p2 h2 hr2;refine g2 ?_)
      obtain ⟨rfl,rfl⟩:=hr2
      by_cases hbv:RelX xtypes y
      case neg=>
       rw [uA hbv,no fun k=>hbv k.2.1]
       refine gf (a2 @hw @zA) ?_
       rfl
      rw [pO hbv]
      obtain ⟨k,rfl⟩:=Int.eq_ofNat_of_zero_le hf1
      rw [Int.toNat_natCast] at no next
      refine gf (a2 @hw @zA) ?_
      (refine g1f (a3 @hw @zA @e3) ?_;refine zC ((zq8 y (by omega) k (fun q hq=>⟨by have:=(hbv.2 q hq).1;omega,hy2 q hq⟩)).call zK (by simp [zJ]) _) ?_;intro p2 h2 hr2;refine g2 ?_)
      obtain ⟨rfl,rfl⟩:=hr2
      by_cases hky:zr1 k y
      ·rw [pO hky]
       refine gf @hw ?_
       exact ⟨_,next ⟨q2,hbv,hky⟩,rfl,rfl,rfl⟩
      ·rw [uA hky,no fun k=>hky k.2.2]
       refine gf @hw ?_
       rfl
     ·have e3:((z.length:Int)==0)=false:=by rw [beq_eq_false_iff_ne];omega
      rw [no fun k=>hz0 (by rw [k.1];rfl)]
      refine gf (a3 @hw @zA @e3) ?_
      rfl
end Go.AL
namespace Go.AL
noncomputable def wL (l:La) (cs:List Ce):List Int:=cs.foldl (fun ms c=>dU l ms c.a c.b c.e) (List.replicate 64 (oU l))
theorem zf3 (l:La): ∀ (cs:List Ce) {ms:List Int},ms.length=64→(cs.foldl (fun ms c=>dU l ms c.a c.b c.e) ms).length=64
 | [],_,h=>h
 |c::cs,_,h=>zf3 l cs (zeA h)
theorem zdR (l:La) (cs:List Ce):(wL l cs).length=64:=zf3 l cs (by simp)
theorem ziW {l:La} {ms:List Int} {a b e:Int} {i:Nat} (h:i<64):(dU l ms a b e).getD i 0=if ze7 l e=true∧a≤(i:Int)∧(i:Int)<b then zpP l (ms.getD i 0) e else ms.getD i 0:=by
 unfold dU
 by_cases he:ze7 l e=true
 ·rw [if_pos he,tU h]
  by_cases hr:a≤(i:Int)∧(i:Int)<b
  ·rw [if_pos hr,if_pos ⟨he,hr⟩]
  ·rw [if_neg hr,if_neg (fun q=>hr q.2)]
 ·rw [if_neg he,if_neg (fun q=>he q.1)]
theorem zfY (l:La) {i:Nat} (hi:i<64): ∀ (cs:List Ce) {ms:List Int},(∀ c∈cs,c.b≤(i:Int))→(cs.foldl (fun ms c=>dU l ms c.a c.b c.e) ms).getD i 0=ms.getD i 0
 | [],_,_=>rfl
 |c::cs,ms,h=>by
  rw [List.foldl_cons,zfY l hi cs fun d hd=>h d (List.mem_cons_of_mem c hd),ziW hi,if_neg (fun q=>by have:=h c (List.mem_cons_self ..);omega)]
theorem ziB {i:Nat} (hi:i<64) (b:Int):(List.replicate 64 b).getD i 0=b:=by
 rw [List.getD_eq_getElem?_getD,List.getElem?_replicate,if_pos hi];rfl
theorem zqI {α:Type} {l:List α} {x:α} (h:x∈l.dropLast):x∈l:=List.dropLast_subset l h
theorem zoY (bt:Int) (ms:List Int): ∀ n,n≤64→ ∀ c∈zh6 bt ms n,0≤c.a∧c.a<c.b∧c.b≤(n:Int)
 |0,_,c,hc=>by simp [zh6] at hc
 | n +1,hn,c,hc=>by
  have ih:=zoY bt ms n (by omega)
  simp only [zh6] at hc
  unfold zm5 at hc
  split at hc
  ·obtain ⟨a,b,d⟩:=ih c hc;exact ⟨a,b,by omega⟩
  ·split at hc
   ·rw [List.mem_singleton] at hc;subst hc
    exact ⟨by dsimp only;omega,by dsimp only;omega,by dsimp only;omega⟩
   ·rename_i d hd
    have hdm:d∈zh6 bt ms n:=List.mem_of_getLast? hd
    obtain ⟨a,b,e⟩:=ih d hdm
    split at hc
    ·rename_i q
     have hw:IntKind.i64.wrap (d.b+1)=d.b+1:=xM (by omega) (by omega)
     rcases List.mem_append.1 hc with hc|hc
     ·obtain ⟨a,b,e⟩:=ih c (zqI hc);exact ⟨a,b,by omega⟩
     ·rw [List.mem_singleton] at hc;subst hc
      dsimp only
      rw [hw];omega
    ·rcases List.mem_append.1 hc with hc|hc
     ·obtain ⟨a,b,e⟩:=ih c hc;exact ⟨a,b,by omega⟩
     ·rw [List.mem_singleton] at hc;subst hc
      exact ⟨by dsimp only;omega,by dsimp only;omega,by dsimp only;omega⟩
theorem zoD {α:Type} {p q:Prop} [Decidable p] [Decidable q] {a b:α} (h:p↔q):(if p then a else b)=if q then a else b:=by
 by_cases hp:p
 ·rw [if_pos hp,if_pos (h.1 hp)]
 ·rw [if_neg hp,if_neg (fun w=>hp (h.2 w))]
open Classical in
theorem iM (l:La) (ms:List Int): ∀ n,n≤64→ ∀ i,i<64→(wL l (zh6 (oU l) ms n)).getD i 0=if i<n∧ms.getD i 0≠oU l∧ze7 l (ms.getD i 0)=true then zpP l (oU l) (ms.getD i 0) else oU l
 |0,_,i,hi=>by
  rw [if_neg (by omega)]
  exact ziB hi _
 | n + 1,hn,i,hi=>by
  have ih:=iM l ms n (by omega)
  have low:=zoY (oU l) ms n (by omega)
  simp only [zh6]
  unfold zm5
  by_cases hv:ms.getD n 0=oU l
  ·rw [if_pos hv,ih i hi]
   by_cases q:i<n∧ms.getD i 0≠oU l∧ze7 l (ms.getD i 0)=true
   ·rw [if_pos q,if_pos ⟨by omega,q.2⟩]
   ·rw [if_neg q,if_neg]
    rintro ⟨q1,q2,q3⟩
    by_cases q4:i<n
    ·exact q ⟨q4,q2,q3⟩
    ·have:i=n:=by omega
     subst this;exact q2 hv
  ·rw [if_neg hv]
   have app: ∀ cs:List Ce,(∀ c∈cs,c.b≤(n:Int))→(∀ j,j<64→(wL l cs).getD j 0=if j<n∧ms.getD j 0≠oU l∧ze7 l (ms.getD j 0)=true then zpP l (oU l) (ms.getD j 0) else oU l)→
     (wL l (cs++[⟨(n:Int),((n+1:Nat):Int),ms.getD n 0⟩])).getD i 0=if i<n+1∧ms.getD i 0≠oU l∧ze7 l (ms.getD i 0)=true then zpP l (oU l) (ms.getD i 0) else oU l:=by
    intro cs hb hj
    unfold wL at hj ⊢
    rw [List.foldl_append,List.foldl_cons,List.foldl_nil,ziW hi]
    dsimp only
    by_cases q:i=n
    ·subst q
     rw [hj i hi,if_neg (show ¬(i<i∧_) from fun w=>absurd w.1 (Nat.lt_irrefl i))]
     by_cases qe:ze7 l (ms.getD i 0)=true
     ·rw [if_pos ⟨qe,by omega,by omega⟩,if_pos ⟨by omega,hv,qe⟩]
     ·rw [if_neg (fun w=>qe w.1),if_neg (fun w=>qe w.2.2)]
    ·rw [if_neg (fun w=>q (by omega)),hj i hi]
     by_cases w:i<n∧ms.getD i 0≠oU l∧ze7 l (ms.getD i 0)=true
     ·rw [if_pos w,if_pos ⟨by omega,w.2⟩]
     ·rw [if_neg w,if_neg (fun z=>w ⟨by omega,z.2⟩)]
   cases hg:(zh6 (oU l) ms n).getLast? with
   |none=>
    have he:zh6 (oU l) ms n=[]:=List.getLast?_eq_none_iff.1 hg
    have:=app [] (by simp) (by rw [he] at ih;exact ih)
    simpa using this
   | some d=>
    dsimp only
    have hsp:zh6 (oU l) ms n=(zh6 (oU l) ms n).dropLast++[d]:=by
     obtain ⟨ys,h⟩:=List.getLast?_eq_some_iff.1 hg
     rw [h,List.dropLast_concat]
    by_cases q:d.b=(n:Int)∧d.e=ms.getD n 0
    ·rw [if_pos q]
     have hd:d∈zh6 (oU l) ms n:=List.mem_of_getLast? hg
     obtain ⟨a1,a2,a3⟩:=low d hd
     have hw:IntKind.i64.wrap (d.b+1)=((n+1:Nat):Int):=by rw [xM (by omega) (by omega)];omega
     rw [hw]
     have hi1:=ih i hi
     rw [hsp] at hi1
     have lowd: ∀ c∈(zh6 (oU l) ms n).dropLast,c.b≤(n:Int):=fun c hc=>(low c (zqI hc)).2.2
     generalize (zh6 (oU l) ms n).dropLast=cs at*
     unfold wL at hi1 ⊢
     rw [List.foldl_append,List.foldl_cons,List.foldl_nil,ziW hi] at hi1 ⊢
     dsimp only
     by_cases qi:i=n
     ·subst qi
      rw [zfY l hi cs lowd,ziB hi,q.2]
      by_cases qe:ze7 l (ms.getD i 0)=true
      ·rw [if_pos ⟨qe,by omega,by omega⟩,if_pos ⟨by omega,hv,qe⟩]
      ·rw [if_neg (fun w=>qe w.1),if_neg (fun w=>qe w.2.2)]
     ·have e1:(ze7 l d.e=true∧d.a≤(i:Int)∧(i:Int)<((n+1:Nat):Int))↔(ze7 l d.e=true∧d.a≤(i:Int)∧(i:Int)<d.b):=by
       constructor
       ·rintro ⟨x,y,z⟩;exact ⟨x,y,by omega⟩
       ·rintro ⟨x,y,z⟩;exact ⟨x,y,by omega⟩
      have e2:(i<n+1∧ms.getD i 0≠oU l∧ze7 l (ms.getD i 0)=true)↔(i<n∧ms.getD i 0≠oU l∧ze7 l (ms.getD i 0)=true):=by
       constructor
       ·rintro ⟨x,y⟩;exact ⟨by omega,y⟩
       ·rintro ⟨x,y⟩;exact ⟨by omega,y⟩
      rw [zoD e1,zoD e2]
      exact hi1
    ·rw [if_neg q]
     exact app _ (fun c hc=>(low c hc).2.2) ih
def ze9 (l:La) (v:Int):Prop:=v=oU l∨ze7 l v=true∧zpP l (oU l) v=v
def zh2 (l:La) (ms:List Int):Prop:=ms.length=64∧ ∀ i,i<64→ze9 l (ms.getD i 0)
theorem zmI {l:La} {ms:List Int} (h:zh2 l ms):wL l (zh6 (oU l) ms 64)=ms:=by
 refine mH (zdR ..) h.1 fun i hi=> ?_
 rw [iM l ms 64 (Nat.le_refl _) i hi]
 rcases h.2 i hi with e|⟨e1,e2⟩
 ·rw [if_neg (fun q=>q.2.1 e),e]
 ·by_cases q:ms.getD i 0=oU l
  ·rw [if_neg (fun w=>w.2.1 q),q]
  ·rw [if_pos ⟨hi,q,e1⟩,e2]
theorem zrB {l:La} {ms:List Int} (hl:ms.length=64) (h:wL l (zh6 (oU l) ms 64)=ms):zh2 l ms:=by
 refine ⟨hl,fun i hi=> ?_⟩
 have:=iM l ms 64 (Nat.le_refl _) i hi
 rw [h] at this
 unfold ze9
 by_cases q:i<64∧ms.getD i 0≠oU l∧ze7 l (ms.getD i 0)=true
 ·rw [if_pos q] at this
  exact .inr ⟨q.2.2,this.symm⟩
 ·rw [if_neg q] at this
  exact .inl this
end Go.AL
