/-
  Base data: an operation checked, to the letter.
-/
import Derived.Test.YtcffidhiaihbkaaGreatDoorX39
set_option linter.unusedSimpArgs false
set_option linter.unusedVariables false
set_option maxRecDepth 100000
set_option maxHeartbeats 4000000
namespace Go.AL
def TabW (T:Tbl):Prop:=(vR T).Nodup∧ ∀ x∈T,x.2.length=64
theorem zpZ (T:Tbl) (k:BA) (f:List Int→List Int):vR (oT T k f)=vR T:=by
 unfold vR oT
 rw [List.map_map]
 exact List.map_congr_left fun x _=>by dsimp only [Function.comp_apply];split<;>rfl
theorem TabW.line {T:Tbl} (h:TabW T) (bt:Int) (args:List Vl):TabW (uZ bt T args):=by
 unfold uZ
 split
 ·exact h
 ·rename_i hn
  refine ⟨?_,fun x hx=> ?_⟩
  ·have h1:=h.1
   unfold vR at hn h1 ⊢
   rw [List.map_append,List.nodup_append]
   refine ⟨h1,by simp,fun a ha b hb=> ?_⟩
   simp at hb
   rintro rfl
   exact hn (hb▸ha)
  ·rcases List.mem_append.1 hx with hx|hx
   ·exact h.2 x hx
   ·rw [List.mem_singleton] at hx;subst hx;simp
theorem TabW.upd {T:Tbl} (h:TabW T) (k:BA) {f:List Int→List Int} (hf: ∀ ms:List Int,ms.length=64→(f ms).length=64):TabW (oT T k f):=by
 refine ⟨by rw [zpZ];exact h.1,fun x hx=> ?_⟩
 unfold oT at hx
 obtain ⟨y,hy,rfl⟩:=List.mem_map.1 hx
 split
 ·exact hf _ (h.2 y hy)
 ·exact h.2 y hy
theorem TabW.row {l:La} {T:Tbl} (h:TabW T) (x:LRw):TabW (zoG l T x):=by
 unfold zoG
 have key: ∀ (cs:List Ce) (T:Tbl),TabW T→TabW (cs.foldl (fun T c=>oT T (zk0 x.args) fun ms=>dU l ms c.a c.b c.e) T):=fun cs=>by
  induction cs with
  |nil=>exact fun T h=>h
  |cons c cs ih=>exact fun T h=>ih _ (h.upd _ fun ms hm=>zeA hm)
 exact key _ _ (h.line _ _)
theorem TabW.read {l:La}: ∀ (rs:List LRw) {T:Tbl},TabW T→TabW (rs.foldl (zoG l) T)
 | [],_,h=>h
 |x::rs,_,h=>TabW.read rs (h.row x)
theorem ziO (l:La) (rs:List LRw):TabW (xU l rs):=TabW.read rs ⟨List.nodup_nil,by simp⟩
theorem zpS {T:Tbl} {args:List Vl} {ms:List Int} {f:List Int→List Int} (h: ¬zk0 args∈vR T):oT (T++[(args,ms)]) (zk0 args) f=T++[(args,f ms)]:=by
 unfold oT
 rw [List.map_append]
 congr 1
 ·conv=>rhs;rw [←List.map_id T]
  refine List.map_congr_left fun x hx=> ?_
  rw [if_neg];rfl
  intro e
  exact h (by unfold vR;rw [←e];exact List.mem_map_of_mem (f:=fun x:List Vl×List Int=>zk0 x.1) hx)
 ·simp
theorem zpV {l:La} {T:Tbl} {x:LRw} (h: ¬zk0 x.args∈vR T):zoG l T x=T++[(x.args,wL l x.cs)]:=by
 unfold zoG uZ wL
 rw [if_neg h]
 generalize List.replicate 64 (oU l)=ms
 induction x.cs generalizing ms with
 |nil=>rfl
 |cons c cs ih=>rw [List.foldl_cons,List.foldl_cons,zpS h];exact ih _
theorem zfX {l:La}: ∀ (rs:List LRw) (T:Tbl),(vR T++rs.map fun x=>zk0 x.args).Nodup→rs.foldl (zoG l) T=T++rs.map fun x=>(x.args,wL l x.cs)
 | [],T,_=>by simp
 | x::rs,T,h=>by
  have hn: ¬zk0 x.args∈vR T:=by
   rw [List.nodup_append] at h
   intro q
   exact h.2.2 _ q _ (List.mem_cons_self ..) rfl
  rw [List.foldl_cons,zpV hn,zfX rs]
  ·simp
  ·have e:vR (T++[(x.args,wL l x.cs)])=vR T++[zk0 x.args]:=by unfold vR;rw [List.map_append];rfl
   rw [e,List.append_assoc];exact h
theorem kT {l:La} {rs:List LRw} (h:(rs.map fun x=>zk0 x.args).Nodup):xU l rs=rs.map fun x=>(x.args,wL l x.cs):=by
 have:=zfX (l:=l) rs [] (by simpa [vR] using h)
 simpa [xU] using this
theorem zqK (bt:Int): ∀ T:Tbl,((T.filterMap (zbI bt)).map fun x=>zk0 x.args).Sublist (vR T)
 | []=>List.Sublist.refl _
 | x::T=>by
  have ih:=zqK bt T
  unfold vR at ih ⊢
  rw [List.filterMap_cons,List.map_cons]
  unfold zbI
  split
  ·rename_i h
   exact ih.cons _
  ·rename_i b h
   split at h
   ·cases h
   ·cases h
    rw [List.map_cons]
    exact ih.cons_cons _
theorem kR {bt:Int} {T:Tbl} (h:TabW T):((uY bt T).map fun x=>zk0 x.args).Nodup:=by
 have hp:=(rB bt T).1.map fun x:LRw=>zk0 x.args
 exact hp.nodup_iff.2 ((zqK bt T).nodup h.1)
theorem fA {bt:Int} {T:Tbl} {x:LRw}:x∈uY bt T↔ ∃ y∈T,x.args=y.1∧x.cs=zh6 bt y.2 64∧x.cs≠[]:=by
 rw [(rB bt T).1.mem_iff,List.mem_filterMap]
 constructor
 ·rintro ⟨y,hy,h⟩
  unfold zbI at h
  split at h
  ·cases h
  ·rename_i q
   cases h
   exact ⟨y,hy,rfl,rfl,q⟩
 ·rintro ⟨y,hy,h1,h2,h3⟩
  refine ⟨y,hy,?_⟩
  unfold zbI
  rw [←h2,if_neg h3, ←h1]
theorem zq0 {bt:Int} {T:Tbl} {R:List LRw} (hp:R.Perm (T.filterMap (zbI bt))) (hs:R.Pairwise N.rxL') (hk:(R.map fun x=>zk0 x.args).Nodup):uY bt T=R:=by
 obtain ⟨h1,h2⟩:=rB bt T
 have hone: ∀ a∈R, ∀ b∈R,a.args=b.args→a=b:=fun a ha b hb e=>sJ (f:=fun x:LRw=>zk0 x.args) hk ha hb (by rw [e])
 have kI:(uY bt T).map id=R:=aG zqQ (fun r:LRw=>r.args) (by rw [List.map_id];exact h1.trans hp.symm) (List.Perm.refl R) hone (by rw [List.map_id];exact h2) hs
 rwa [List.map_id] at kI
def TabG (l:La) (T:Tbl):Prop:=TabW T∧ ∀ x∈T,zh2 l x.2
theorem zpE {l:La} {T:Tbl} (h:TabG l T):uY (oU l) (xU l (uY (oU l) T))=uY (oU l) T:=by
 have hk:=kR (bt:=oU l) h.1
 have hfm:(xU l (uY (oU l) T)).filterMap (zbI (oU l))=uY (oU l) T:=by
  rw [kT hk,List.filterMap_map]
  have: ∀ R:List LRw,(∀ x∈R,x∈uY (oU l) T)→R.filterMap (zbI (oU l)∘fun x=>(x.args,wL l x.cs))=R:=fun R=>by
   induction R with
   |nil=>exact fun _=>rfl
   | cons x R ih=>
    intro hR
    obtain ⟨y,hy,e1,e2,e3⟩:=fA.1 (hR x (List.mem_cons_self ..))
    have hx:(zbI (oU l)∘fun x:LRw=>(x.args,wL l x.cs)) x=some x:=by
     dsimp only [Function.comp_apply]
     unfold zbI
     have:zh6 (oU l) (wL l x.cs) 64=x.cs:=by
      rw [e2,zmI (h.2 y hy)]
     dsimp only
     rw [this,if_neg e3]
    rw [List.filterMap_cons_some hx,ih fun z hz=>hR z (List.mem_cons_of_mem x hz)]
  exact this _ fun x hx=>hx
 exact zq0 (by rw [hfm]) (rB _ _).2 hk
theorem CelX.good {l:La} {ty:List Int} {rs:List LRw} (h:CelX l ty rs):TabG l (xU l rs):=by
 have hw:=ziO l rs
 refine ⟨hw,?_⟩
 have hk:=kR (bt:=oU l) hw
 rw [←h.2.2] at hk
 have hr:=kT (l:=l) hk
 intro x hx
 rw [hr] at hx
 obtain ⟨y,hy,rfl⟩:=List.mem_map.1 hx
 dsimp only
 have hy2:=hy
 rw [h.2.2] at hy2
 obtain ⟨z,hz,e1,e2,e3⟩:=fA.1 hy2
 have hz1:=hz
 rw [hr] at hz1
 obtain ⟨w,hw1,rfl⟩:=List.mem_map.1 hz1
 dsimp only at e1 e2
 have:y=w:=sJ (f:=fun x:LRw=>zk0 x.args) hk hy hw1 (by rw [e1])
 subst this
 refine zrB (zdR ..) ?_
 rw [←e2]
theorem zpM {l:La} {ms:List Int} {a b e:Int} (h:zh2 l ms) (he:ze9 l e):zh2 l (if ze7 l e=true then tB (fun _=>e) ms a b else ms):=by
 split
 ·refine ⟨yY ..,fun i hi=> ?_⟩
  rw [tU hi]
  split
  ·exact he
  ·exact h.2 i hi
 ·exact h
theorem TabG.set {l:La} {T:Tbl} (h:TabG l T) (args:List Vl) (a b:Int) {e:Int} (he:ze9 l e):TabG l (za9 l T args a b e):=by
 unfold za9
 refine ⟨(h.1.line _ _).upd _ fun ms hm=> ?_,fun x hx=> ?_⟩
 ·split
  ·exact yY ..
  ·exact hm
 ·have hl: ∀ y∈uZ (oU l) T args,zh2 l y.2:=fun y hy=>by
   unfold uZ at hy
   split at hy
   ·exact h.2 y hy
   ·rcases List.mem_append.1 hy with hy|hy
    ·exact h.2 y hy
    ·rw [List.mem_singleton] at hy;subst hy
     exact ⟨by simp,fun i hi=> .inl (ziB hi _)⟩
  unfold oT at hx
  obtain ⟨y,hy,rfl⟩:=List.mem_map.1 hx
  split
  ·exact zpM (hl y hy) he
  ·exact hl y hy
theorem zrC {l:La} {T:Tbl} {args:List Vl} {a b e:Int}: ∀ x∈za9 l T args a b e,x.1=args∨ ∃ y∈T,x.1=y.1:=fun x hx=>by
 unfold za9 oT at hx
 obtain ⟨y,hy,rfl⟩:=List.mem_map.1 hx
 have:y.1=args∨ ∃ z∈T,y.1=z.1:=by
  unfold uZ at hy
  split at hy
  ·exact .inr ⟨y,hy,rfl⟩
  ·rcases List.mem_append.1 hy with hy|hy
   ·exact .inr ⟨y,hy,rfl⟩
   ·rw [List.mem_singleton] at hy;subst hy;exact .inl rfl
 split<;>exact this
theorem CelX.set {l:La} {ty:List Int} {rs:List LRw} (h:CelX l ty rs) {args:List Vl} (ha:ArgX ty args) (a b:Int) {e:Int} (he:ze9 l e):CelX l ty (uY (oU l) (za9 l (xU l rs) args a b e)):=by
 have hG:=h.good.set args a b he
 refine ⟨h.1,fun x hx=> ?_,(zpE hG).symm⟩
 obtain ⟨y,hy,e1, -, -⟩:=fA.1 hx
 rw [e1]
 rcases zrC y hy with q|⟨z,hz,q⟩
 ·rw [q];exact ha
 ·rw [q]
  have hk:=kR (bt:=oU l) (ziO l rs)
  rw [←h.2.2] at hk
  rw [kT hk] at hz
  obtain ⟨w,hw,rfl⟩:=List.mem_map.1 hz
  exact h.2.1 w hw
theorem CelX.nil {l:La} (ty:List Int) (h:uE l=0):CelX l ty []:=⟨h,by simp,by simp [xU,uY]⟩
theorem zp4 {l:La} (hl:l.ok) (hc:uE l=0) {e:Int} (he:ze7 l e=true):ze9 l e:=by
 unfold ze7 at he
 rw [decide_eq_true_eq] at he
 exact .inr ⟨by unfold ze7;rw [decide_eq_true_eq];exact he,(zqB l hl hc).2 e he.1 he.2⟩
theorem zpN (l:La):ze9 l (oU l):= .inl rfl
end Go.AL
namespace Go.AL
open Go.Proofs Go.Proofs.Tryz
@[go_sem] def UBas3f12.pl:Nat→DPlan
 |1=>⟨[⟨6,0,[1003]⟩,yA,⟨7,0,[1003]⟩,yB,yA,yA,yB,yA,yB,yC,yA,yA,yA],yN,0⟩
 |_=>⟨[],[],0⟩
abbrev zaH:NM:=[(.int .i64 1,.fn (.func 59) [] []),(.int .i64 2,.fn (.func 60) [] [])]
theorem tmT:kC prog 94=some (3,.int .i64,93):=by kernel_rfl
theorem ziT:(prog.info? 93).bind (·.zero)=some .nilFunc:=by kernel_rfl
theorem kbI (n:Int):pF (.int .i64) (.int .i64 n)=true:=rfl
theorem mst1 (v:PV):kO (.int .i64 1) v []=[(.int .i64 1,v)]:=rfl
theorem mst2 (v w:PV):kO (.int .i64 2) w [(.int .i64 1,v)]=[(.int .i64 1,v),(.int .i64 2,w)]:=rfl
theorem zlS:nI .nilFunc= .sc .nilFunc:=rfl
theorem za2 (f:FuncId):sE (α:=Prop) prog 93 (.fn (.func f) [] []) (.sc .nilFunc)=some (false,True):=by kernel_rfl
theorem zjW:sE (α:=Prop) prog 93 (.sc .nilFunc) (.sc .nilFunc)=some (true,True):=by kernel_rfl
theorem zg1:zaH.all (fun x=>pF (.int .i64) x.1)=true:=rfl
def iZ (n:Int):PV:=if n=1 then .fn (.func 59) [] [] else if n=2 then .fn (.func 60) [] [] else .sc .nilFunc
theorem lkT {h:Heap} {r:Nat} (n:Int) (hr:h[r]? =some (.map zaH)):xQ (α:=Prop) prog h 94 false (.mp r) (i64 n)=some (iZ n,True):=by
 unfold xQ
 rw [tmT]
 simp only [oS,hr,ziT,kbI,zg1,Bool.and_self,if_true,vL,Bool.false_eq_true,if_false,zlS]
 by_cases h1:n=1
 ·subst h1;rfl
 ·by_cases h2:n=2
  ·subst h2;rfl
  ·have:vV (.int .i64 n) zaH 0=none:=by simp [vV,sY,h1,h2]
   rw [this]
   simp [iZ,h1,h2]
theorem jY (h:Heap):ECall prog G0 37 [] h fun p h'=>p= .mp h.length∧h'=h++[.map zaH]:=by
 refine pv func37 3 false (by kernel_rfl) rfl rfl ?_
 refine g2 ?_
 (repeat (first|refine gz ?_|(refine gn ?_;intro zs zh;(try simp only [go_sem,rU,sB,qK,rN,tmT,kbI,mst1,mst2,Bool.and_self] at zh);subst zh;refine gv ?_)))
 exact ⟨rfl,rfl⟩
structure ChK (p:Pg) (o:Op1):Prop where
 v:VfK p o.pred o.elem o.args
 k:o.kind=1∨o.kind=2
 b: ∀ h:o.pred.toNat<p.preds.length,p.preds[o.pred.toNat].base=true
 s:0≤o.span.a∧o.span.a<o.span.b∧o.span.b≤64
attribute [-go_sem] only
end Go.AL
namespace Go.AL
theorem zd3 {k:Nat} {x y:Rw}:tA k x y=true↔y.args.take k=x.args.take k∧uQ y.w &&& uQ x.w≠0:=by
 unfold tA
 have h:uQ y.w &&& uQ x.w<2 ^ 64:=Nat.and_lt_two_pow _ (wB _)
 rw [Bool.and_eq_true,decide_eq_true_eq,decide_eq_true_eq,List.length_pos_iff,ne_eq,zfN h]
def KyG (k:Nat) (l:List Rw):Prop:= ∀ t t':List Vl,t≠t'→t.take k=t'.take k→yH l t &&& yH l t'=0
theorem zjB {k:Nat} {l:List Rw} (hc:CanL l):zr1 k l↔KyG k l:=by
 have hp:=(iW l).1 hc.1
 constructor
 ·intro h t t' hne hk
  apply Classical.byContradiction
  intro hz
  have h1:yH l t≠0:=fun e=>hz (by rw [e];exact Nat.zero_and _)
  have h2:yH l t'≠0:=fun e=>hz (by rw [e];exact Nat.and_zero _)
  obtain ⟨x,hx,e1,e2⟩:=zn6 h1
  obtain ⟨y,hy,f1,f2⟩:=zn6 h2
  obtain ⟨i,hi,rfl⟩:=List.getElem_of_mem hx
  obtain ⟨j,hj,rfl⟩:=List.getElem_of_mem hy
  have key: ∀ (a b:Nat) (ha:a<l.length) (hb:b<l.length),a<b→l[b].args.take k=l[a].args.take k→uQ l[b].w &&& uQ l[a].w=0:=fun a b ha hb hab e=>by
   apply Classical.byContradiction
   intro q
   have:=h b hb
   rw [List.any_eq_false] at this
   exact this l[a] (List.mem_take_iff_getElem.2 ⟨a,by omega,rfl⟩) (zd3.2 ⟨e,q⟩)
  rw [←e2, ←f2] at hz
  rcases Nat.lt_trichotomy i j with q|q|q
  ·exact hz (by rw [Nat.and_comm];exact key i j hi hj q (by rw [e1,f1,hk]))
  ·subst q;exact hne (e1.symm.trans f1)
  ·exact hz (key j i hj hi q (by rw [e1,f1,hk]))
 ·intro h i hi
  rw [List.any_eq_false]
  intro y hy mM
  obtain ⟨j,hj,rfl⟩:=List.mem_take_iff_getElem.1 hy
  have hji:j<i:=by omega
  obtain ⟨q1,q2⟩:=zd3.1 mM
  have hlt:=hc.1 j i hji hi
  apply q2
  rw [←zoV hp (List.getElem_mem hi), ←zoV hp (List.getElem_mem (by omega:j<l.length))]
  exact h _ _ (fun e=>zaF.ne hlt e.symm) q1
theorem zn3 {a b:Nat} (hb:b<2 ^ 64) (m:Nat):(mY a b).testBit m=(a.testBit m&&(decide (m<64)&& !b.testBit m)):=by
 unfold mY
 rw [Nat.testBit_and,ziX hb]
theorem zpI (a b:Nat):mY (mY a b) b=mY a b:=by
 unfold mY
 rw [Nat.and_assoc,Nat.and_self]
theorem zn9 {a b:Nat} (h:a &&& b=0) (m:Nat):(a.testBit m&&b.testBit m)=false:=by
 rw [←Nat.testBit_and,h,Nat.zero_testBit]
def wM (k:Nat) (args:List Vl) (s:Sp) (z r:List Rw):List Rw:=z.foldl (fun r x=>if x.args.take k=args.take k then dP r x.args s else r) r
open Classical in
theorem pM {k:Nat} {args:List Vl} {s:Sp} (hs:s.good): ∀ (z r:List Rw),CanL r→CanL (wM k args s z r)∧
  (∀ t,yH (wM k args s z r) t=if (∃ x∈z,x.args=t)∧t.take k=args.take k then mY (yH r t) (zo2 s) else yH r t)∧ ∀ x∈wM k args s z r, ∃ y∈z++r,x.args=y.args
 | [],r,hc=>⟨hc,fun t=>by rw [if_neg (fun q=>by obtain ⟨⟨x,hx,_⟩,_⟩:=q;cases hx)];rfl,fun x hx=>⟨x,hx,rfl⟩⟩
 | x ::z,r,hc=>by
  by_cases hk:x.args.take k=args.take k
  ·obtain ⟨r1,r2,r3⟩:=bK (args:=x.args) hc hs
   obtain ⟨i1,i2,i3⟩:=pM (k:=k) (args:=args) hs z _ r1
   have e:wM k args s (x::z) r=wM k args s z (dP r x.args s):=by unfold wM;rw [List.foldl_cons,if_pos hk]
   rw [e]
   refine ⟨i1,fun t=> ?_,fun w hw=> ?_⟩
   ·rw [i2 t,r2 t]
    by_cases ht:x.args=t
    ·subst ht
     rw [if_pos rfl,zpI,ite_self,if_pos ⟨⟨x,List.mem_cons_self ..,rfl⟩,hk⟩]
    ·rw [if_neg ht,zpH _ (zoW r t)]
     refine zoD ⟨fun q=> ?_,fun q=> ?_⟩
     ·obtain ⟨⟨y,hy,f⟩,g⟩:=q;exact ⟨⟨y,List.mem_cons_of_mem _ hy,f⟩,g⟩
     ·obtain ⟨⟨y,hy,f⟩,g⟩:=q
      rcases List.mem_cons.1 hy with rfl|hy
      ·exact absurd f ht
      ·exact ⟨⟨y,hy,f⟩,g⟩
   ·obtain ⟨y,hy,f⟩:=i3 w hw
    rcases List.mem_append.1 hy with hy|hy
    ·exact ⟨y,by simp [hy],f⟩
    ·rcases r3 y hy with g|⟨v,hv,g⟩
     ·exact ⟨x,by simp,by rw [f,g]⟩
     ·exact ⟨v,by simp [hv],by rw [f,g]⟩
  ·obtain ⟨i1,i2,i3⟩:=pM (k:=k) (args:=args) hs z r hc
   have e:wM k args s (x::z) r=wM k args s z r:=by unfold wM;rw [List.foldl_cons,if_neg hk]
   rw [e]
   refine ⟨i1,fun t=> ?_,fun w hw=> ?_⟩
   ·rw [i2 t]
    refine zoD ⟨fun q=> ?_,fun q=> ?_⟩
    ·obtain ⟨⟨y,hy,f⟩,g⟩:=q;exact ⟨⟨y,List.mem_cons_of_mem _ hy,f⟩,g⟩
    ·obtain ⟨⟨y,hy,f⟩,g⟩:=q
     rcases List.mem_cons.1 hy with rfl|hy
     ·rw [←f] at g;exact absurd g hk
     ·exact ⟨⟨y,hy,f⟩,g⟩
   ·obtain ⟨y,hy,f⟩:=i3 w hw
    exact ⟨y,by rcases List.mem_append.1 hy with hy|hy<;>simp [hy],f⟩
theorem rP {α β:Type} (g:α→Option β): ∀ l:List α,(l.filterMap g).length≤l.length:=fun l=>List.length_filterMap_le g l
theorem zp3 (a:List Rw) (args:List Vl) (s:Sp):(zoB a args s).length≤a.length+1:=Nat.le_trans (rP _ _) (vK ..)
theorem zbU (op:Nat→Nat→Nat) (q:Rw×Rw) (P:List (Rw×Rw)):(yX op (q::P)).length≤(yX op P).length+1:=by
 unfold yX
 rw [List.filterMap_cons]
 split<;>simp
theorem zh8 {op:Nat→Nat→Nat} {q:Rw×Rw} (P:List (Rw×Rw)) (h:yW (op (uQ q.1.w) (uQ q.2.w))=[]):yX op (q::P)=yX op P:=by
 unfold yX
 rw [List.filterMap_cons_none]
 rw [if_pos h]
theorem pN {op:Nat→Nat→Nat} (h0: ∀ b,yW (op 0 b)=[]): ∀ (n:Nat) (a b:List Rw),(yX op (yT n a b)).length≤a.length
 |0,a,b=>by simp [yT,yX]
 |n+1,[],[]=>by simp [yT,yX]
 |n+1,[],y::b=>by
  rw [yT,zh8 _ (h0 _)]
  exact pN h0 n [] b
 |n+1,x::a,[]=>by
  rw [yT]
  have h1:=zbU op (x,⟨[],[]⟩) (yT n a [])
  have h2:=pN h0 n a []
  rw [List.length_cons];omega
 | n+1,x::a,y::b=>by
  rw [yT,List.length_cons]
  split
  ·have h1:=zbU op (x,⟨[],[]⟩) (yT n a (y::b))
   have h2:=pN h0 n a (y::b)
   omega
  ·split
   ·have h1:=zbU op (x,y) (yT n a b)
    have h2:=pN h0 n a b
    omega
   ·rw [zh8 _ (h0 _)]
    exact pN h0 n (x::a) b
theorem zn0 (a:List Rw) (args:List Vl) (s:Sp):(dP a args s).length≤a.length:=pN (fun b=>(zfN (zoR ..)).2 (Nat.zero_and _)) _ _ _
theorem jK (k:Nat) (args:List Vl) (s:Sp): ∀ z r:List Rw,(wM k args s z r).length≤r.length
 | [],_=>Nat.le_refl _
 | x::z,r=>by
  unfold wM
  rw [List.foldl_cons]
  split
  ·have h1:=jK k args s z (dP r x.args s)
   have h2:=zn0 r x.args s
   unfold wM at h1;omega
  ·have h1:=jK k args s z r
   unfold wM at h1;omega
def bA (k:Nat) (z:List Rw) (args:List Vl) (s:Sp):List Rw:=zoB (wM k args s z z) args s
theorem zpB (k:Nat) (z:List Rw) (args:List Vl) (s:Sp):(bA k z args s).length≤z.length+1:=by
 have h1:=zp3 (wM k args s z z) args s
 have h2:=jK k args s z z
 unfold bA;omega
open Classical in
theorem zdF {k:Nat} {z:List Rw} {args:List Vl} {s:Sp} (hc:CanL z) (hs:s.good):CanL (bA k z args s)∧
  (∀ t,yH (bA k z args s) t=(if t.take k=args.take k then mY (yH z t) (zo2 s) else yH z t) ||| if args=t then zo2 s else 0)∧ ∀ x∈bA k z args s,x.args=args∨ ∃ y∈z,x.args=y.args:=by
 obtain ⟨i1,i2,i3⟩:=pM (k:=k) (args:=args) hs z z hc
 obtain ⟨j1,j2,j3⟩:=zpL (args:=args) i1 hs
 refine ⟨j1,fun t=> ?_,fun x hx=> ?_⟩
 ·unfold bA
  rw [j2 t,i2 t]
  congr 1
  by_cases hm: ∃ x∈z,x.args=t
  ·exact zoD ⟨fun q=>q.2,fun q=>⟨hm,q⟩⟩
  ·have h0:yH z t=0:=bL fun x hx e=>hm ⟨x,hx,e⟩
   rw [if_neg (fun q=>hm q.1),h0]
   have:mY 0 (zo2 s)=0:=Nat.zero_and _
   rw [this]
   split<;>rfl
 ·rcases j3 x hx with e|⟨y,hy,e⟩
  ·exact .inl e
  ·obtain ⟨w,hw,f⟩:=i3 y hy
   exact .inr ⟨w,by rcases List.mem_append.1 hw with h|h<;>exact h,by rw [e,f]⟩
theorem KyG.tell {k:Nat} {z:List Rw} {args:List Vl} {s:Sp} (h:KyG k z) (hc:CanL z) (hs:s.good):KyG k (bA k z args s):=by
 intro t t' hne hk
 have ht:=(zdF (k:=k) (args:=args) hc hs).2.1
 rw [ht t,ht t']
 have hz:=zn9 (h t t' hne hk)
 have hsl:=zoI s
 generalize yH z t=a at*
 generalize yH z t'=b at*
 by_cases q:t.take k=args.take k
 ·rw [if_pos q,if_pos (hk.symm.trans q)]
  refine Nat.eq_of_testBit_eq fun m=> ?_
  have:=hz m
  rw [Nat.testBit_and,Nat.testBit_or,Nat.testBit_or,zn3 hsl,zn3 hsl,Nat.zero_testBit]
  by_cases e1:args=t
  ·rw [if_pos e1,if_neg (fun e2=>hne (e1.symm.trans e2)),Nat.zero_testBit]
   cases hx:a.testBit m<;>cases hy:b.testBit m<;>cases hw:(zo2 s).testBit m<;>simp_all
  ·rw [if_neg e1,Nat.zero_testBit]
   by_cases e2:args=t'
   ·rw [if_pos e2]
    cases hx:a.testBit m<;>cases hy:b.testBit m<;>cases hw:(zo2 s).testBit m<;>simp_all
   ·rw [if_neg e2,Nat.zero_testBit]
    cases hx:a.testBit m<;>cases hy:b.testBit m<;>simp_all
 ·rw [if_neg q,if_neg (fun w=>q (hk.trans w)),if_neg (fun e=>q (by rw [e])),if_neg (fun e=>q (by rw [hk,e])),Nat.or_zero,Nat.or_zero]
  refine Nat.eq_of_testBit_eq fun m=> ?_
  rw [Nat.testBit_and,Nat.zero_testBit]
  exact hz m
theorem KyG.rem {k:Nat} {z:List Rw} {args:List Vl} {s:Sp} (h:KyG k z) (hc:CanL z) (hs:s.good):KyG k (dP z args s):=by
 intro t t' hne hk
 have ht:=(bK (args:=args) hc hs).2.1
 rw [ht t,ht t']
 have hz:=zn9 (h t t' hne hk)
 refine Nat.eq_of_testBit_eq fun m=> ?_
 unfold mY
 rw [Nat.testBit_and,Nat.testBit_and,Nat.testBit_and,Nat.zero_testBit]
 have:=hz m
 cases hx:(yH z t).testBit m<;>cases hy:(yH z t').testBit m<;>simp_all
theorem RelX.of {ty:List Int} {z r:List Rw} {args:List Vl} (h:RelX ty z) (ha:ArgX ty args) (hc:CanL r) (hr: ∀ x∈r,x.args=args∨ ∃ y∈z,x.args=y.args):RelX ty r:=by
 refine ⟨hc,fun x hx=> ?_⟩
 rcases hr x hx with e|⟨y,hy,e⟩
 ·rw [e];exact ha
 ·rw [e];exact h.2 y hy
theorem SpF.len: ∀ {l:List Sp} {lo:Int},0≤lo→SpF lo l→l.length≤64∧(lo≤65→(l.length:Int)≤65-lo)
 | [],lo,h0,_=>⟨by simp,fun h=>by simp;omega⟩
 |s::l,lo,h0,h=>by
  obtain ⟨h1,h2,h3,h4⟩:=h
  have ih:=(SpF.len (by omega) h4).2 (by omega)
  rw [List.length_cons]
  exact ⟨by omega,fun _=>by omega⟩
theorem Rw.can.len {x:Rw} (h:x.can):x.w.length≤64:=(SpF.len (Int.le_refl 0) h.1).1
theorem RelX.ls {ty:List Int} {z:List Rw} (h:RelX ty z) (ht:ty.length≤1048576): ∀ x∈z,x.args.length=ty.length∧x.ls:=fun x hx=>by
 have ha:=h.2 x hx
 exact ⟨ha.1,by rw [ha.1];exact ht,fun v hv=>by have:=ha.sz v hv;omega,(h.1.2 x hx).len⟩
theorem zpJ (bt:Int) (T:Tbl) (args:List Vl):(uZ bt T args).length≤T.length+1:=by
 unfold uZ
 split
 ·omega
 ·simp
theorem zpT (T:Tbl) (k:BA) (f:List Int→List Int):(oT T k f).length=T.length:=by unfold oT;simp
theorem zpW (bt:Int) (T:Tbl):(uY bt T).length≤T.length:=by
 rw [(rB bt T).1.length_eq];exact rP _ _
theorem CelX.set_len {l:La} {ty:List Int} {rs:List LRw} (h:CelX l ty rs) (args:List Vl) (a b e:Int):(uY (oU l) (za9 l (xU l rs) args a b e)).length≤rs.length+1:=by
 have h1:=zpW (oU l) (za9 l (xU l rs) args a b e)
 have hk:=kR (bt:=oU l) (ziO l rs)
 rw [←h.2.2] at hk
 have h2:(xU l rs).length=rs.length:=by rw [kT hk];simp
 unfold za9 at h1 ⊢
 rw [zpT] at h1
 have h3:=zpJ (oU l) (xU l rs) args
 omega
theorem CelX.oks {l:La} {ty:List Int} {rs:List LRw} (h:CelX l ty rs) (ht:ty.length≤1048576): ∀ x∈rs,x.ok:=fun x hx=>by
 have ha:=h.2.1 x hx
 refine ⟨by rw [ha.1];exact ht,?_,ha.sz⟩
 rw [h.2.2] at hx
 obtain ⟨y, -, -,e, -⟩:=fA.1 hx
 have:=zb5 (oU l) y.2 64
 rw [e];omega
end Go.AL
namespace Go.AL
open Go.Proofs Go.Proofs.Tryz
@[go_sem] def UBas4f86.pp:Nat→DPlan
 |2=>⟨[yA,yA,yA,yB,yA,yA,yB,yA,yB,yA,yA,yA,yB,yA,yB,yA,yA,yA,yB,yA,yA,yB,yA,yA,yB,yA,yB,yA,uX,yA,yC],pQ,0⟩
 |_=>⟨[],[],0⟩
theorem kG (l:List (List Rw)) (hne:0<l.length) (hl:l.length≤1099511627776) (h:Heap):ECall prog G0 35 [.ts 1 (l.map fun r=>[uN r])] h fun p h'=>p= .ms h.length 0 1 l.length∧h'=h++[.var 63 (l.map uN)]:=by
 cases l with
 |nil=>cases hne
 | cons x l=>
  refine pv func35 8 true (by kernel_rfl) rfl rfl ?_
  refine g2 ?_
  have hl2:l.length+1≤1099511627776:=by simpa using hl
  have hl3:(l.length+1)*24≤140737488355328:=by omega
  have hl4:l.length≤140737488355327:=by omega
  have hfl: ∀ l:List (List Rw),(l.map fun r=>[uN r]).flatten=l.map uN:=fun l=>by
   induction l with
   |nil=>rfl
   |cons x l ih=>rw [List.map_cons,List.flatten_cons,ih];rfl
  refine gf (a5 @zjS @vX @hl3 @hl4 @hfl) ?_
  exact ⟨rfl,rfl⟩
theorem kH (l:List (List LRw)) (hne:0<l.length) (hl:l.length≤1099511627776) (h:Heap):ECall prog G0 36 [.ts 1 (l.map fun r=>[vD r])] h fun p h'=>p= .ms h.length 0 1 l.length∧h'=h++[.var 89 (l.map vD)]:=by
 cases l with
 |nil=>cases hne
 | cons x l=>
  refine pv func36 8 true (by kernel_rfl) rfl rfl ?_
  refine g2 ?_
  have hl2:l.length+1≤1099511627776:=by simpa using hl
  have hl3:(l.length+1)*24≤140737488355328:=by omega
  have hl4:l.length≤140737488355327:=by omega
  have hfl: ∀ l:List (List LRw),(l.map fun r=>[vD r]).flatten=l.map vD:=fun l=>by
   induction l with
   |nil=>rfl
   |cons x l ih=>rw [List.map_cons,List.flatten_cons,ih];rfl
  refine gf (a5 @zf9 @vX @hl3 @hl4 @hfl) ?_
  exact ⟨rfl,rfl⟩
structure DtS (p:Pg) (N:Nat) (d:Dt):Prop where
 rl:d.rels.length=p.preds.length
 ll:d.lats.length=p.preds.length
 r: ∀ (i:Nat) (h:i<p.preds.length) (h':i<d.rels.length),d.rels[i].length≤N∧ ∀ x∈d.rels[i],x.args.length=p.preds[i].types.length∧x.ls
 l: ∀ (i:Nat) (h':i<d.lats.length),d.lats[i].length≤N∧ ∀ x∈d.lats[i],x.ok
structure DataAt (d:Dt) (q rq lq:Nat) (h:Heap):Prop where
 t:h[q]? =some (.var 31 [.ms rq 0 1 d.rels.length,.ms lq 0 1 d.lats.length])
 r:h[rq]? =some (.var 63 (d.rels.map uN))
 l:h[lq]? =some (.var 89 (d.lats.map vD))
theorem DataAt.app {d:Dt} {q rq lq:Nat} {h:Heap} (hD:DataAt d q rq lq h) (B:Heap):DataAt d q rq lq (h++B):=⟨yJ _ _ _ _ hD.t,yJ _ _ _ _ hD.r,yJ _ _ _ _ hD.l⟩
structure Act (p:Pg) (N:Nat) (q rq lq:Nat) (h h':Heap):Prop where
 d: ∃ d':Dt,DtS p N d'∧DataAt d' q rq lq h'
 k: ∀ (r:Nat) (b:Blk),r≠rq→r≠lq→h[r]? =some b→h'[r]? =some b
theorem DataAt.ne {d:Dt} {q rq lq:Nat} {h:Heap} (hD:DataAt d q rq lq h):q≠rq∧q≠lq∧rq≠lq:=by
 refine ⟨?_,?_,?_⟩
 ·rintro rfl;have:=hD.t;rw [hD.r] at this;cases this
 ·rintro rfl;have:=hD.t;rw [hD.l] at this;cases this
 ·rintro rfl;have:=hD.r;rw [hD.l] at this;cases this
end Go.AL
namespace Go.AL
abbrev zuW:Pd:=⟨⟨#[]⟩,[],⟨#[]⟩, -1,false,0,0⟩
abbrev zuV:La:=⟨⟨#[]⟩,[],[],0⟩
noncomputable def zcQ (l:La) (z:List LRw) (o:Op1):List LRw:=uY (oU l) (za9 l (xU l z) o.args o.span.a o.span.b (if o.kind=1 then o.elem else oU l))
def zaL (q:Pd) (z:List Rw) (o:Op1):List Rw:=if o.kind=1 then bA q.key.toNat z o.args o.span else dP z o.args o.span
noncomputable def zl0 (p:Pg) (d:Dt) (o:Op1):Dt:=
 if (p.preds.getD o.pred.toNat zuW).of'= -1 then ⟨d.rels.set o.pred.toNat (zaL (p.preds.getD o.pred.toNat zuW) (d.rels.getD o.pred.toNat []) o),d.lats⟩
 else ⟨d.rels,d.lats.set o.pred.toNat (zcQ (p.lats.getD (p.preds.getD o.pred.toNat zuW).of'.toNat zuV) (d.lats.getD o.pred.toNat []) o)⟩
theorem eD {α:Type} {l:List α} {i:Nat} (h:i<l.length) (x:α):l.getD i x=l[i]:=by
 rw [List.getD_eq_getElem?_getD,List.getElem?_eq_getElem h];rfl
theorem zo7 {p:Pg} {d:Dt} {o:Op1} {i:Nat} (hoi:o.pred=i) (hi:i<p.preds.length) (hr:i<d.rels.length) (hof:p.preds[i].of'= -1):zl0 p d o=⟨d.rels.set i (zaL p.preds[i] d.rels[i] o),d.lats⟩:=by
 unfold zl0
 have:o.pred.toNat=i:=by omega
 rw [this,eD hi,eD hr,if_pos hof]
theorem zo8 {p:Pg} {d:Dt} {o:Op1} {i:Nat} (hoi:o.pred=i) (hi:i<p.preds.length) (hl:i<d.lats.length) (hof:p.preds[i].of'≠ -1) (hol:p.preds[i].of'.toNat<p.lats.length):zl0 p d o=⟨d.rels,d.lats.set i (zcQ p.lats[p.preds[i].of'.toNat] d.lats[i] o)⟩:=by
 unfold zl0
 have:o.pred.toNat=i:=by omega
 rw [this,eD hi,eD hl,if_neg hof,eD hol]
structure OpX (p:Pg) (o:Op1) (i:Nat):Prop where
 hi:i<p.preds.length
 hoi:o.pred=i
 hof: -1≤p.preds[i].of'∧p.preds[i].of'<p.lats.length
 htl:p.preds[i].types.length≤1048576
 k0:0≤p.preds[i].key
 k1:p.preds[i].key≤p.preds[i].types.length
 ax:ArgX p.preds[i].types o.args
 el: ∀ k:p.preds[i].of'.toNat<p.lats.length,0≤p.preds[i].of'→ze7 p.lats[p.preds[i].of'.toNat] o.elem=true
 b:p.preds[i].base=true
 s:o.span.good
 k:o.kind=1∨o.kind=2
theorem ChK.op {p:Pg} {o:Op1} (h:ChK p o): ∃ i,OpX p o i:=by
 obtain ⟨⟨hf,hpb,i,hpi,hi,hax,hel⟩,hk,hb,hs⟩:=h
 obtain ⟨f1,f2,f3⟩:=hf.p _ (List.getElem_mem hi)
 have:o.pred.toNat=i:=by omega
 subst this
 exact ⟨_,hi,hpi,hpb _ (List.getElem_mem hi),by omega,f1,f2,hax,hel,hb hi,hs,hk⟩
theorem OpX.ls {p:Pg} {o:Op1} {i:Nat} (k:OpX p o i):(Rw.mk o.args [o.span]).ls:=⟨by dsimp only;rw [k.ax.1];exact k.htl,fun a ha=>by have:=k.ax.sz a ha;omega,by simp⟩
structure LenD (N:Nat) (d:Dt):Prop where
 r: ∀ z∈d.rels,z.length≤N
 l: ∀ z∈d.lats,z.length≤N
theorem zrM {p:Pg} {N:Nat} {d:Dt} (h:DatX p d) (k:LenD N d) (hf: ∀ x∈p.preds,x.types.length≤1048576∧x.of'<p.lats.length∧ -1≤x.of'):DtS p N d:=by
 have at1:=h.at'
 refine ⟨h.rl,h.ll,fun i hi hr=>⟨k.r _ (List.getElem_mem hr),?_⟩,fun i hl=>⟨k.l _ (List.getElem_mem hl),?_⟩⟩
 ·have hl:i<d.lats.length:=by rw [h.ll];exact hi
  obtain ⟨h1,h2,h3⟩:=at1 i hi hr hl
  have hfi:=hf _ (List.getElem_mem hi)
  generalize p.preds[i]=x at*
  generalize d.rels[i]=y at*
  generalize d.lats[i]=z at*
  cases hb:x.base with
  |false=>rw [(h1 hb).1];simp
  |true=>
   by_cases ho:x.of'= -1
   ·exact (h3 hb ho).2.1.ls hfi.1
   ·rw [(h2 hb ho).1];simp
 ·have hi:i<p.preds.length:=by rw [←h.ll];exact hl
  have hr:i<d.rels.length:=by rw [h.rl];exact hi
  obtain ⟨h1,h2,h3⟩:=at1 i hi hr hl
  have hfi:=hf _ (List.getElem_mem hi)
  generalize p.preds[i]=x at*
  generalize d.rels[i]=y at*
  generalize d.lats[i]=z at*
  cases hb:x.base with
  |false=>rw [(h1 hb).2];simp
  |true=>
   by_cases ho:x.of'= -1
   ·rw [(h3 hb ho).1];simp
   ·exact ((h2 hb ho).2 (by omega)).oks hfi.1
theorem LenD.op {p:Pg} {N:Nat} {d:Dt} {o:Op1} {i:Nat} (k:LenD N d) (h:DatX p d) (ho:OpX p o i):LenD (N+1) (zl0 p d o):=by
 have hi:=ho.hi
 have hir:i<d.rels.length:=by rw [h.rl];exact ho.hi
 have hil:i<d.lats.length:=by rw [h.ll];exact ho.hi
 have hN:N≤N+1:=by omega
 have k1:=k.r _ (List.getElem_mem hir)
 have k2:=k.l _ (List.getElem_mem hil)
 by_cases hof:p.preds[i].of'= -1
 ·rw [zo7 ho.hoi ho.hi hir hof]
  refine ⟨fun z hz=> ?_,fun z hz=>Nat.le_trans (k.l z hz) hN⟩
  rcases List.mem_or_eq_of_mem_set hz with hz|rfl
  ·exact Nat.le_trans (k.r z hz) hN
  ·unfold zaL
   split
   ·have:=zpB p.preds[i].key.toNat d.rels[i] o.args o.span;omega
   ·have:=zn0 d.rels[i] o.args o.span;omega
 ·have hol:p.preds[i].of'.toNat<p.lats.length:=by have:=ho.hof;omega
  rw [zo8 ho.hoi ho.hi hil hof hol]
  refine ⟨fun z hz=>Nat.le_trans (k.r z hz) hN,fun z hz=> ?_⟩
  rcases List.mem_or_eq_of_mem_set hz with hz|rfl
  ·exact Nat.le_trans (k.l z hz) hN
  ·have hc:=((h.at' i ho.hi hir hil).2.1 ho.b hof).2 hol
   have:=hc.set_len o.args o.span.a o.span.b (if o.kind=1 then o.elem else oU p.lats[p.preds[i].of'.toNat])
   unfold zcQ;omega
theorem DatX.op {p:Pg} (hp:p.ok) {d:Dt} {o:Op1} {i:Nat} (h:DatX p d) (ho:OpX p o i):DatX p (zl0 p d o):=by
 have hi:=ho.hi
 have hir:i<d.rels.length:=by rw [h.rl];exact ho.hi
 have hil:i<d.lats.length:=by rw [h.ll];exact ho.hi
 obtain ⟨h1,h2,h3⟩:=h.at' i ho.hi hir hil
 by_cases hof:p.preds[i].of'= -1
 ·obtain ⟨q1,q2,q3⟩:=h3 ho.b hof
  rw [zo7 ho.hoi ho.hi hir hof]
  refine ⟨h.tv,by simpa using h.rl,h.ll,fun j hj hr hl=> ?_⟩
  have hjr:j<d.rels.length:=by simpa using hr
  by_cases hji:i=j
  ·subst hji
   dsimp only
   rw [List.getElem_set_self]
   refine ⟨fun e=>Bool.noConfusion (ho.b.symm.trans e),fun _ e=>absurd hof e,fun _ _=>⟨q1,?_⟩⟩
   have hky:=(zjB q2.1).1 q3
   unfold zaL
   split
   ·obtain ⟨c1,c2,c3⟩:=zdF (k:=p.preds[i].key.toNat) (args:=o.args) q2.1 ho.s
    exact ⟨q2.of ho.ax c1 c3,(zjB c1).2 (hky.tell q2.1 ho.s)⟩
   ·obtain ⟨c1,c2,c3⟩:=bK (args:=o.args) q2.1 ho.s
    exact ⟨q2.of ho.ax c1 c3,(zjB c1).2 (hky.rem q2.1 ho.s)⟩
  ·dsimp only
   rw [List.getElem_set_ne hji]
   exact h.at' j hj hjr hl
 ·have hol:p.preds[i].of'.toNat<p.lats.length:=by have:=ho.hof;omega
  obtain ⟨q1,q2⟩:=h2 ho.b hof
  rw [zo8 ho.hoi ho.hi hil hof hol]
  refine ⟨h.tv,h.rl,by simpa using h.ll,fun j hj hr hl=> ?_⟩
  have hjl:j<d.lats.length:=by simpa using hl
  by_cases hji:i=j
  ·subst hji
   dsimp only
   rw [List.getElem_set_self]
   refine ⟨fun e=>Bool.noConfusion (ho.b.symm.trans e),fun _ _=>⟨q1,fun k=> ?_⟩,fun _ e=>absurd e hof⟩
   have hc:=q2 k
   unfold zcQ
   refine hc.set ho.ax _ _ ?_
   split
   ·exact zp4 (hp.l _ (List.getElem_mem k)) hc.1 (ho.el k (by have:=ho.hof;omega))
   ·exact zpN _
  ·dsimp only
   rw [List.getElem_set_ne hji]
   exact h.at' j hj hr hjl
end Go.AL
namespace Go.AL
open Go.Proofs Go.Proofs.Tryz
@[go_sem] def UVfxf38.pp:Nat→DPlan
 |9=>⟨[yB,yC,yA,yA,yA,yB,yA,yB,yA,yA,yB,yA,yA],yN,0⟩
 |15=>⟨[yA,yB,yA,yA,yA,yB,yA,yB,yA,yA,yA,yA,yA,yB,yB,uX,yA,yA,yA],sI,0⟩
 |_=>⟨[],[],0⟩
@[go_sem] def UVfxf38.pl:Nat→DPlan
 |9=>⟨[yB,yC,yA,yA,yA,yB,yA,yB,yA,yA,yB,yA,yA],yN,0⟩
 |15=>⟨[yA,yB,yA,yA,yA,yB,yA,yB,yA,yA,yA,yA,yA,⟨7,0,[1003]⟩,yB,⟨6,0,[1003]⟩,yA,yA,yA],sI,0⟩
 |_=>⟨[],[],0⟩
def VfX (p:Pg) (pr el:Int) (args:List Vl):Prop:=zpQ p=true∧ ∃ i:Nat,pr=i∧ ∃ h:i<p.preds.length,ArgX p.preds[i].types args∧(p.preds[i].of'<0→el= -1)∧ ∀ k:p.preds[i].of'.toNat<p.lats.length,0≤p.preds[i].of'→ze7 p.lats[p.preds[i].of'.toNat] el=true∧el≠oU p.lats[p.preds[i].of'.toNat]
open UVfxf38 in
theorem zhB (p:Pg) (hp:p.ok) (hle: ∀ x∈p.lats,x.elems.length≤1048576∧x.covers.length≤1048576) (pr el:Int) (args:List Vl) (ha:args.length≤140737488355328):
  EPure prog G0 38 [.agg p.c,.agg [i64 pr,pH args,i64 el]] fun v=>v=bo (ze8 (VfX p pr el args)):=by
 refine ECall.cut (R:=fun v _=>v=bo (ze8 (VfX p pr el args))) (pv func38 90 false (by kernel_rfl) rfl rfl ?_) (by rintro p h rfl;rfl)
 refine g2 ?_
 have htv:=ze0 p hp hle
 by_cases h1:pr<0
 ·have e1:decide (pr<0)=true:=by simp [h1]
  rw [uA fun k=>by obtain ⟨_,i,e,_⟩:=k;omega]
  refine gf @e1 ?_
  rfl
 ·have e1 :decide (pr<0)=false:=by simp [h1]
  by_cases h2:(p.preds.length:Int)≤pr
  ·have e2:decide ((p.preds.length:Int)≤pr)=true:=by simp [h2]
   rw [uA fun k=>by obtain ⟨_,i,e,h,_⟩:=k;omega]
   refine gf (a2 @e1 @e2) ?_
   rfl
  ·have e2:decide ((p.preds.length:Int)≤pr)=false:=by simp [h2]
   refine gf (a2 @e1 @e2) ?_
   (refine g1f (a2 @e1 @e2) ?_;refine zC (htv.1.call zK (by simp [zJ]) _) ?_;intro p2 h2 hr2;refine g2 ?_)
   obtain ⟨rfl,rfl⟩:=hr2
   cases hb:zpQ p with
   |false=>
    rw [uA fun k=>by have:=k.1;rw [hb] at this;cases this]
    refine gf (a2 @e1 @e2) ?_
    rfl
   | true =>
    obtain ⟨hf,hpb, -⟩:=htv.2 hb
    obtain ⟨i,rfl⟩:=Int.eq_ofNat_of_zero_le (Int.not_lt.1 h1)
    have hi:i<p.preds.length:=by omega
    have hx:=zG (f:=Pd.c) [] hi
    obtain ⟨x,hxe⟩: ∃ x,p.preds[i]=x:=⟨_,rfl⟩
    have hxb:=hpb _ (List.getElem_mem hi)
    have hxo:=hp.p _ (List.getElem_mem hi)
    rw [hxe] at hx hxb hxo
    by_cases hl:args.length=x.types.length
    ·have e3:((args.length:Int)!=(x.types.length:Int))=false:=by simp [hl]
     have hK:(∀ (j:Nat) (h:j<args.length) (h':j<x.types.length),j<args.length→args[j].t=x.types[j]∧zoC args[j]=true)→(x.of'<0→el= -1)→(∀ k:x.of'.toNat<p.lats.length,0≤x.of'→ze7 p.lats[x.of'.toNat] el=true∧el≠oU p.lats[x.of'.toNat])→VfX p i el args:=fun hv he1 he=>⟨hb,i,rfl,hi,by subst hxe;exact jR hl hv,by subst hxe;exact he1,by subst hxe;exact he⟩
     have no: ∀ {Q:Prop},(ArgX x.types args→(x.of'<0→el= -1)→(∀ k:x.of'.toNat<p.lats.length,0≤x.of'→ze7 p.lats[x.of'.toNat] el=true∧el≠oU p.lats[x.of'.toNat])→False)→ze8 (VfX p i el args)=false:=fun {_} q=>uA fun k=>by
      obtain ⟨_,i',e,h,k1,k2,k3⟩:=k
      have:i'=i:=by omega
      subst this
      subst hxe
      exact q k1 k2 k3
     refine gf (a6 @e1 @e2 @hi @hx @zB @e3) ?_
     refine zO args.length (K4 (.d:: .k:: .d:: .d::K9 (K9 (K9 (K4 (.k:: .k:: .v::D9 (D9 (K9 (K9 (K9 (.k:: .k:: .k::[]))))))))))) (own:=false) (fun i (_:Heap)=>[i64 i]) (fun J=> .var 27 p.c:: .var 34 [i64 i,pH args,i64 el]:: .var 59 x.c::J) (fun i _=> ∀ (j:Nat) (h:j<args.length) (h':j<x.types.length),j<i→args[j].t=x.types[j]∧zoC args[j]=true) [] rfl rfl (fun j _ _ hj=>absurd hj (Nat.not_lt_zero _)) (by omega) ?_ ?_
     ·rintro J hI
      refine gm ?_
      by_cases ho:x.of'<0
      ·have e4:decide (x.of'<0)=true:=by simp [ho]
       by_cases h9:el= -1
       ·have e9:(el== -1)=true:=by simp [h9]
        rw [pO (hK hI (fun _=>h9) fun _ k=>absurd k (by omega))]
        (repeat (first|refine gz ?_|(refine gn ?_;intro zs zh;(try simp only [go_sem,zM,e4,e9] at zh);subst zh;refine gv ?_)|refine yD UVfxf38.pp ?_))
        rfl
       ·have e9:(el== -1)=false:=by simp [h9]
        rw [no (Q:=True) fun _ k _=>h9 (k ho)]
        (repeat (first|refine gz ?_|(refine gn ?_;intro zs zh;(try simp only [go_sem,zM,e4,e9] at zh);subst zh;refine gv ?_)|refine yD UVfxf38.pp ?_))
        rfl
      ·have e4:decide (x.of'<0)=false:=by simp [ho]
       have hol:x.of'.toNat<p.lats.length:=by omega
       have hy:=zG (f:=La.c) [] hol
       have hlo:=hp.l _ (List.getElem_mem hol)
       have hK2:=fun (q:ze7 p.lats[x.of'.toNat] el=true) (q':el≠oU p.lats[x.of'.toNat])=>hK hI (fun k=>absurd k ho) fun _ _=>⟨q,q'⟩
       have no2: ¬(ze7 p.lats[x.of'.toNat] el=true∧el≠oU p.lats[x.of'.toNat])→ze8 (VfX p i el args)=false:=fun q=>no (Q:=True) fun _ _ k=>q (k hol (by omega))
       clear no hK
       unfold ze7 at hK2 no2
       generalize p.lats[x.of'.toNat]=y at*
       have e9:(J.length+3<J.length+1+1+1+1)=True:=by simp
       by_cases h5:0≤el
       ·have e5:decide (0≤el)=true:=by simp [h5]
        by_cases h6:el<y.elems.length
        ·have e6:decide (el<(y.elems.length:Int))=true:=by simp [h6]
         have hbo:=zj7 y hlo
         (repeat (first|refine gz ?_|(refine gn ?_;intro zs zh;(try simp only [go_sem,zM,e4,hol,hy,zA,zD,e5,e6] at zh);subst zh;refine gv ?_)|refine yD UVfxf38.pp ?_))
         (refine vY ?_;refine zN rfl rfl rfl ?_;intro sr hsr;simp only [sK,wP] at hsr;subst hsr;(first|refine pK ?_|refine pL ?_);intro sr hsr;simp only [go_sem,zM,e4,hol,hy,zA,zD,e5,e6] at hsr;subst hsr;refine vP rfl (hbo) (by simp [zJ]) ?_;intro p2 hr2 ts2 hts;simp only [go_sem] at hts;subst hts)
         subst hr2
         by_cases h7:el=oU y
         ·have e7:(el !=oU y)=false:=by simp [h7]
          rw [no2 fun k=>k.2 h7]
          (repeat (first|refine gz ?_|(refine gn ?_;intro zs zh;(try simp only [go_sem,zM,e4,hol,hy,zA,zD,e5,e6,e7] at zh);subst zh;refine gv ?_)|refine yD UVfxf38.pp ?_))
          rfl
         ·have e7:(el !=oU y)=true:=by simp [h7]
          rw [pO (hK2 (by rw [decide_eq_true_eq];exact ⟨h5,h6⟩) h7)]
          (repeat (first|refine gz ?_|(refine gn ?_;intro zs zh;(try simp only [go_sem,zM,e4,hol,hy,zA,zD,e5,e6,e7] at zh);subst zh;refine gv ?_)|refine yD UVfxf38.pp ?_))
          rfl
        ·have e6:decide (el<(y.elems.length:Int))=false:=by simp;omega
         rw [no2 fun k=>by have:=of_decide_eq_true k.1;omega]
         (repeat (first|refine gz ?_|(refine gn ?_;intro zs zh;(try simp only [go_sem,zM,e4,hol,hy,zA,zD,e5,e6] at zh);subst zh;refine gv ?_)|refine yD UVfxf38.pp ?_))
         rfl
       ·have e5:decide (0≤el)=false:=by simp;omega
        rw [no2 fun k=>by have:=of_decide_eq_true k.1;omega]
        (repeat (first|refine gz ?_|(refine gn ?_;intro zs zh;(try simp only [go_sem,zM,e4,hol,hy,zA,zD,e5] at zh);subst zh;refine gv ?_)|refine yD UVfxf38.pp ?_))
        rfl
     ·rintro j J hj hw hI
      refine gm ?_
      have hjt:j<x.types.length:=by omega
      have hz:=zG (f:=Vl.c) [] hj
      have htj:=zG (f:=fun n:Int=>[i64 n]) [] hjt
      refine gf (a8 @hj @hz @hjt @htj @zB @hw @zA @zD) ?_
      (refine zF rfl rfl rfl ?_;intro zs zh;simp only [go_sem,hj,hz,hjt,htj,zB,hw,zA,zD] at zh;subst zh;refine zP (by decide) (by decide) ((gT args[j]).call zK (by simp [zJ]) _) ?_;intro p2 h2 hr2 ts2 hts;simp only [go_sem] at hts;subst hts)
      obtain ⟨rfl,rfl⟩:=hr2
      have no3: ¬(args[j].t=x.types[j]∧zoC args[j]=true)→ze8 (VfX p i el args)=false:=fun q=>no (Q:=True) fun k _ _=>q (k.2 j hj hjt)
      clear no hK
      cases hbz:zoC args[j]
      ·rw [no3 fun k=>by rw [hbz] at k;exact Bool.noConfusion k.2]
       refine gf (a8 @hj @hz @hjt @htj @zB @hw @zA @zD) ?_
       rfl
      ·by_cases hty:args[j].t=x.types[j]
       ·have e7:(args[j].t !=x.types[j])=false:=by simp [hty]
        refine gf (a9 @hj @hz @hjt @htj @zB @hw @zA @zD @e7) ?_
        refine ⟨_,fun k hk hk' hkj=> ?_,rfl,rfl,rfl⟩
        rcases Nat.lt_or_ge k j with h|h
        ·exact hI k hk hk' h
        ·have:k=j:=by omega
         subst this;exact ⟨hty,hbz⟩
       ·have e7:(args[j].t !=x.types[j])=true:=by simp [hty]
        rw [no3 fun k=>hty k.1]
        refine gf (a9 @hj @hz @hjt @htj @zB @hw @zA @zD @e7) ?_
        rfl
    ·have e3:((args.length:Int)!=(x.types.length:Int))=true:=by simp;omega
     rw [uA fun k=>by
      obtain ⟨_,i',e,h,k1,_⟩:=k
      have:i'=i:=by omega
      subst this
      subst hxe
      exact hl k1.1]
     refine gf (a6 @e1 @e2 @hi @hx @zB @e3) ?_
     rfl
end Go.AL
namespace Go.AL
open Go.Proofs Go.Proofs.Tryz
@[go_sem] def UChxf12.pl:Nat→DPlan
 |1=>⟨[⟨6,0,[1003]⟩,yA,⟨7,0,[1003]⟩,yB,yA,yA,yB,yA,yB,yC,yA,yA,yA],yN,0⟩
 |_=>⟨[],[],0⟩
abbrev pdZ:Pd:=⟨⟨#[]⟩,[],⟨#[]⟩, -1,false,0,0⟩
open Classical in
noncomputable def zsZ (p:Pg) (o:Op1):Int:=if ¬(o.kind=1∨o.kind=2)∨ ¬VfX p o.pred o.elem o.args then 1
 else if (p.preds.getD o.pred.toNat pdZ).base=false then 73 else if 0≤o.span.a∧o.span.a<o.span.b∧o.span.b≤64 then 0 else 1
attribute [-go_sem] only
open UChxf12 in
theorem zsN (p:Pg) (hp:p.ok) (hle:p.sm) (o:Op1) (ho:o.ok):EPure prog G0 12 [.agg p.c,.agg o.c] fun v=>v=i64 (zsZ p o):=by
 refine ECall.cut (R:=fun v _=>v=i64 (zsZ p o)) (pv func12 48 false (by kernel_rfl) rfl rfl ?_) (by rintro p h rfl;rfl)
 refine g2 ?_
 refine ge ?_
 (refine zF rfl rfl rfl ?_;intro sr hsr;simp only [go_sem] at hsr;subst hsr;refine xR rfl rfl (jY _) (by rintro _ _ ⟨_,rfl⟩ k hk _;have hk:k∈[1003]:=hk;simp only [List.mem_singleton] at hk;subst hk;rfl) ?_;intro p2 h2 hr2 ts2 hts;simp only [go_sem] at hts;subst hts)
 obtain ⟨rfl,rfl⟩:=hr2
 have hlk:=lkT (h:=[.var 27 p.c,.var 38 o.c,.map zaH]) (r:=2) o.kind rfl
 have key:(¬(o.kind=1∨o.kind=2)∧iZ o.kind= .sc .nilFunc)∨((o.kind=1∨o.kind=2)∧ ∃ f,iZ o.kind= .fn (.func f) [] []):=by
  unfold iZ
  by_cases h1:o.kind=1
  ·rw [if_pos h1];exact .inr ⟨.inl h1,_,rfl⟩
  ·rw [if_neg h1]
   by_cases h2:o.kind=2
   ·rw [if_pos h2];exact .inr ⟨.inr h2,_,rfl⟩
   ·rw [if_neg h2];exact .inl ⟨fun w=>w.elim h1 h2,rfl⟩
 rcases key with ⟨hk,ha⟩|⟨hk,f,ha⟩
 ·rw [ha] at hlk
  have hE:zsZ p o=1:=by unfold zsZ;rw [if_pos (.inl hk)]
  rw [hE]
  refine gf (a2 @hlk @zjW) ?_
  rfl
 ·rw [ha] at hlk
  refine gf (a2 @hlk @za2) ?_
  (refine vY ?_;refine zN rfl rfl rfl ?_;intro sr hsr;simp only [sK,wP] at hsr;subst hsr;(first|refine pK ?_|refine pL ?_);intro sr hsr;simp only [go_sem,hlk,za2] at hsr;subst hsr;refine zP (by decide) (by decide) ((zhB p hp hle o.pred o.elem o.args ho.1).call zK (by simp [zJ]) _) ?_;intro p2 h2 hr2 ts2 hts;simp only [go_sem] at hts;subst hts)
  obtain ⟨rfl,rfl⟩:=hr2
  by_cases hb:VfX p o.pred o.elem o.args
  case neg=>
   have hE:zsZ p o=1:=by unfold zsZ;rw [if_pos (.inr hb)]
   rw [hE,uA hb]
   refine gf (a2 @hlk @za2) ?_
   rfl
  case pos=>
   rw [pO hb]
   have hE:zsZ p o=if (p.preds.getD o.pred.toNat pdZ).base=false then 73 else if 0≤o.span.a∧o.span.a<o.span.b∧o.span.b≤64 then 0 else 1:=by
    unfold zsZ;rw [if_neg (fun w=>w.elim (fun w=>w hk) fun w=>w hb)]
   obtain ⟨_,i,hpi,hi, -⟩:=hb
   have hx:=zG (f:=Pd.c) [] hi
   have htn:o.pred.toNat=i:=by omega
   have hpos:(0≤o.pred)=True:=eq_true (by omega)
   have hlt:(o.pred<(p.preds.length:Int))=True:=eq_true (by omega)
   have wP:p.preds.getD o.pred.toNat pdZ=p.preds[i]:=by rw [htn,List.getD_eq_getElem?_getD,List.getElem?_eq_getElem hi];rfl
   rw [wP] at hE
   clear wP
   generalize p.preds[i]=x at*
   refine gf (a4 @hpos @hlt @htn @hx) ?_
   obtain ⟨xname,xtypes,xlat,xof,xbase,xkey,xat⟩:=x
   cases xbase with
   |false=>
    rw [hE,if_pos rfl]
    refine gf (a4 @hpos @hlt @htn @hx) ?_
    rfl
   | true=>
    rw [hE,if_neg (fun w=>Bool.noConfusion w)]
    by_cases s1:o.span.a<0
    ·have t1:decide (o.span.a<0)=true:=by simp [s1]
     rw [if_neg (by omega)]
     refine gf (a5 @hpos @hlt @htn @hx @t1) ?_
     rfl
    ·have t1:decide (o.span.a<0)=false:=by simp [s1]
     by_cases s2:o.span.b≤o.span.a
     ·have t2:decide (o.span.b≤o.span.a)=true:=by simp [s2]
      rw [if_neg (by omega)]
      refine gf (a6 @hpos @hlt @htn @hx @t1 @t2) ?_
      rfl
     ·have t2:decide (o.span.b≤o.span.a)=false:=by simp [s2]
      by_cases s3:64<o.span.b
      ·have t3:decide (64<o.span.b)=true:=by simp [s3]
       rw [if_neg (by omega)]
       refine gf (a7 @hpos @hlt @htn @hx @t1 @t2 @t3) ?_
       rfl
      ·have t3:decide (64<o.span.b)=false:=by simp [s3]
       rw [if_pos (by omega)]
       refine gf (a7 @hpos @hlt @htn @hx @t1 @t2 @t3) ?_
       rfl
end Go.AL
