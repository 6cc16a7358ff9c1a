/-
  Base data: the law BaseParts walked.
-/
import Derived.Test.YtcffidhiaihbkaaGreatDoorZ46
set_option linter.unusedSimpArgs false
set_option linter.unusedVariables false
set_option maxRecDepth 100000
set_option maxHeartbeats 4000000
namespace Go.AL
open Go.Proofs Go.Proofs.Tryz
def zs1 (n:Int):List UInt8:=(List.range 8).map (vT n)
def ziU (x:Vl):List UInt8:=zs1 x.t++(zs1 x.n++(zs1 x.s.size++x.s.data.toList))
theorem zq3 (b:BA) (c:UInt8):(b.push c).data.toList=b.data.toList++[c]:=by
 show (b.data.push c).toList=_
 simp
theorem zbB (n:Int) (bs:BA): ∀ k,(b8 n bs k).data.toList=bs.data.toList++(List.range k).map (vT n)
 |0=>by simp [b8]
 |k+1=>by rw [znE,zq3,zbB n bs k,List.range_succ,List.map_append,List.append_assoc];rfl
theorem zrF (bs:BA) (x:Vl):(znJ bs x).data.toList=bs.data.toList++ziU x:=by
 have h0:ztA x bs 0=bs:=rfl
 have happ: ∀ a b:BA,(a++b).data.toList=a.data.toList++b.data.toList:=fun a b=>by simp
 rw [zm9,happ,fK,zbB,fK,zbB,fK,zbB,h0]
 unfold ziU zs1
 simp only [List.append_assoc]
 rfl
theorem fQ: ∀ (l:List Vl) (bs:BA),(l.foldl znJ bs).data.toList=bs.data.toList++l.flatMap ziU
 | [],bs=>by simp
 |x::l,bs=>by rw [List.foldl_cons,fQ l,zrF,List.flatMap_cons,List.append_assoc]
theorem pG (n:Int):(zs1 n).length=8:=by simp [zs1]
theorem zgD {n m:Int} (hn:0≤n∧n≤9999) (hm:0≤m∧m≤9999) (h:zs1 n=zs1 m):n=m:=by
 have h0:vT n 0=vT m 0:=by have:=congrArg (fun l=>l.getD 0 0) h;simpa [zs1,List.range_succ] using this
 have h1:vT n 1=vT m 1:=by have:=congrArg (fun l=>l.getD 1 0) h;simpa [zs1,List.range_succ] using this
 have a0:=ziJ n 0
 have b0:=ziJ m 0
 have a1:=ziJ n 1
 have b1:=ziJ m 1
 rw [h0] at a0
 rw [h1] at a1
 rw [←b0] at a0
 rw [←b1] at a1
 simp only [IntKind.wrap_u8] at a0 a1
 simp at a0 a1
 omega
theorem zhN: ∀ {a b:List Vl},(∀ v∈a,VvK v)→(∀ v∈b,VvK v)→a.flatMap ziU=b.flatMap ziU→a=b
 | [],[],_,_,_=>rfl
 | [],y::b,_,_,h=>by
  have:=congrArg List.length h
  simp [ziU,pG] at this
  omega
 |x::a,[],_,_,h=>by
  have:=congrArg List.length h
  simp [ziU,pG] at this
 | x::a,y::b,ha,hb,h=>by
  rw [List.flatMap_cons,List.flatMap_cons] at h
  unfold ziU at h
  simp only [List.append_assoc] at h
  obtain ⟨h1,h⟩:=List.append_inj h (by rw [pG,pG])
  obtain ⟨h2,h⟩:=List.append_inj h (by rw [pG,pG])
  obtain ⟨h3,h⟩:=List.append_inj h (by rw [pG,pG])
  obtain ⟨x1,x2,x3,x4⟩:=ha x (List.mem_cons_self ..)
  obtain ⟨y1,y2,y3,y4⟩:=hb y (List.mem_cons_self ..)
  have e1:=zgD (by omega) (by omega) h1
  have e2:=zgD ⟨x3,x4⟩ ⟨y3,y4⟩ h2
  have e3:=zgD (by omega) (by omega) h3
  have hsz:x.s.data.toList.length=y.s.data.toList.length:=by
   have q1:x.s.data.toList.length=x.s.size:=Array.length_toList
   have q2:y.s.data.toList.length=y.s.size:=Array.length_toList
   omega
  obtain ⟨h4,h5⟩:=List.append_inj h hsz
  have e4:x.s=y.s:=ByteArray.ext (Array.toList_inj.1 h4)
  have hxy:x=y:=by cases x;cases y;simp_all
  have hr:=zhN (fun v hv=>ha v (List.mem_cons_of_mem _ hv)) (fun v hv=>hb v (List.mem_cons_of_mem _ hv)) (by unfold ziU;simpa only [List.append_assoc] using h5)
  rw [hxy,hr]
theorem zsK {a b:List Vl} (ha: ∀ v∈a,VvK v) (hb: ∀ v∈b,VvK v) (h:zk0 a=zk0 b):a=b:=by
 have h1:=fQ a ⟨#[]⟩
 have h2:=fQ b ⟨#[]⟩
 have h3:(a.foldl znJ ⟨#[]⟩).data.toList=(b.foldl znJ ⟨#[]⟩).data.toList:=by
  show (zk0 a).data.toList=(zk0 b).data.toList
  rw [h]
 rw [h1,h2] at h3
 exact zhN ha hb (by simpa using h3)
theorem ArgX.vv {ty:List Int} {a:List Vl} (h:ArgX ty a): ∀ v∈a,VvK v:=fun v hv=>by
 obtain ⟨j,hj,rfl⟩:=List.getElem_of_mem hv
 exact (zqC _).2 (h.2 j hj (by rw [←h.1];exact hj)).2
theorem ArgX.key {ty ty':List Int} {a b:List Vl} (ha:ArgX ty a) (hb:ArgX ty' b) (h:zk0 a=zk0 b):a=b:=zsK ha.vv hb.vv h
end Go.AL
namespace Go.AL
noncomputable def jU (l:La):Tbl→List Vl→List Int
 | [],_=>List.replicate 64 (oU l)
 |x::T,t=>if x.1=t then x.2 else jU l T t
noncomputable def eF (l:La):List LRw→List Vl→List Int
 | [],_=>List.replicate 64 (oU l)
 |x::z,t=>if x.args=t then wL l x.cs else eF l z t
theorem zdX {l:La} {t:List Vl}: ∀ {T:Tbl},(∀ x∈T,x.1≠t)→jU l T t=List.replicate 64 (oU l)
 | [],_=>rfl
 |x::T,h=>by
  unfold jU
  rw [if_neg (h x (List.mem_cons_self ..))]
  exact zdX fun y hy=>h y (List.mem_cons_of_mem _ hy)
theorem mR {l:La} {t:List Vl}: ∀ {z:List LRw},(∀ x∈z,x.args≠t)→eF l z t=List.replicate 64 (oU l)
 | [],_=>rfl
 |x::z,h=>by
  unfold eF
  rw [if_neg (h x (List.mem_cons_self ..))]
  exact mR fun y hy=>h y (List.mem_cons_of_mem _ hy)
theorem zsW {l:La} {T:Tbl} (hn:(vR T).Nodup) {x:List Vl×List Int} (hx:x∈T):jU l T x.1=x.2:=by
 induction T with
 |nil=>cases hx
 | cons y T ih=>
  unfold jU
  unfold vR at hn ih
  rw [List.map_cons,List.nodup_cons] at hn
  rcases List.mem_cons.1 hx with rfl|hx
  ·rw [if_pos rfl]
  ·rw [if_neg,ih hn.2 hx]
   intro e
   exact hn.1 (by rw [e];exact List.mem_map_of_mem (f:=fun x:List Vl×List Int=>zk0 x.1) hx)
theorem zfD {l:La} {z:List LRw} (hn:(z.map fun x=>zk0 x.args).Nodup) {x:LRw} (hx:x∈z):eF l z x.args=wL l x.cs:=by
 induction z with
 |nil=>cases hx
 | cons y z ih=>
  unfold eF
  rw [List.map_cons,List.nodup_cons] at hn
  rcases List.mem_cons.1 hx with rfl|hx
  ·rw [if_pos rfl]
  ·rw [if_neg,ih hn.2 hx]
   intro e
   exact hn.1 (by rw [e];exact List.mem_map_of_mem (f:=fun x:LRw=>zk0 x.args) hx)
theorem zh7 {l:La} {T:Tbl} (h:TabG l T) (t:List Vl):eF l (uY (oU l) T) t=jU l T t:=by
 have hk:=kR (bt:=oU l) h.1
 by_cases q: ∃ y∈T,y.1=t
 ·obtain ⟨y,hy,rfl⟩:=q
  rw [zsW h.1.1 hy]
  by_cases hc:zh6 (oU l) y.2 64=[]
  ·rw [znD (h.2 y hy) hc]
   refine mR fun x hx e=> ?_
   obtain ⟨w,hw,e1,e2,e3⟩:=fA.1 hx
   have:w=y:=sJ (f:=fun x:List Vl×List Int=>zk0 x.1) h.1.1 hw hy (by rw [←e1,e])
   subst this
   rw [e2] at e3;exact e3 hc
  ·have hx:(⟨y.1,zh6 (oU l) y.2 64⟩:LRw)∈uY (oU l) T:=fA.2 ⟨y,hy,rfl,rfl,hc⟩
   have:=zfD (l:=l) hk hx
   dsimp only at this
   rw [this,zmI (h.2 y hy)]
 ·rw [zdX fun x hx e=>q ⟨x,hx,e⟩]
  refine mR fun x hx e=> ?_
  obtain ⟨w,hw,e1, -, -⟩:=fA.1 hx
  exact q ⟨w,hw,by rw [←e1,e]⟩
theorem CelX.keys {l:La} {ty:List Int} {z:List LRw} (h:CelX l ty z):(z.map fun x=>zk0 x.args).Nodup:=by
 have:=kR (bt:=oU l) (ziO l z)
 rwa [←h.2.2] at this
theorem zdO {l:La} {ty:List Int} {z:List LRw} (h:CelX l ty z) (t:List Vl):jU l (xU l z) t=eF l z t:=by
 have:=zh7 h.good t
 rw [←h.2.2] at this
 exact this.symm
theorem CelX.row {l:La} {ty:List Int} {z:List LRw} (h:CelX l ty z) {x:LRw} (hx:x∈z):zh6 (oU l) (wL l x.cs) 64=x.cs∧x.cs≠[]:=by
 have hG:=h.good
 have hx2:=hx
 rw [h.2.2] at hx2
 obtain ⟨y,hy,e1,e2,e3⟩:=fA.1 hx2
 exact ⟨by rw [e2,zmI (hG.2 y hy)],e3⟩
theorem CelX.sub {l:La} {ty ty':List Int} {z z':List LRw} (h:CelX l ty z) (h':CelX l ty' z') (k: ∀ t,eF l z t=eF l z' t) {x:LRw} (hx:x∈z):x∈z':=by
 obtain ⟨r1,r2⟩:=h.row hx
 have e:=zfD (l:=l) h.keys hx
 rw [k] at e
 by_cases q: ∃ y∈z',y.args=x.args
 ·obtain ⟨y,hy,f⟩:=q
  have e':=zfD (l:=l) h'.keys hy
  rw [f,e] at e'
  obtain ⟨s1,s2⟩:=h'.row hy
  have:x=y:=by
   have hc:x.cs=y.cs:=by rw [←r1,e',s1]
   cases x;cases y;simp_all
  rw [this];exact hy
 ·rw [mR fun y hy f=>q ⟨y,hy,f⟩] at e
  have hr:zh6 (oU l) (List.replicate 64 (oU l)) 64=[]:=by
   have: ∀ n,n≤64→zh6 (oU l) (List.replicate 64 (oU l)) n=[]:=fun n=>by
    induction n with
    |zero=>exact fun _=>rfl
    |succ n ih=>
     intro hn
     simp only [zh6]
     unfold zm5
     rw [if_pos (ziB (by omega) _),ih (by omega)]
   exact this 64 (Nat.le_refl _)
  rw [←e,hr] at r1
  exact absurd r1.symm r2
theorem CelX.uniq {l:La} {ty ty':List Int} {z z':List LRw} (h:CelX l ty z) (h':CelX l ty' z') (k: ∀ t,eF l z t=eF l z' t):z=z':=by
 have nd: ∀ {z:List LRw},(z.map fun x=>zk0 x.args).Nodup→z.Nodup:=fun {z} hz=>by
  induction z with
  |nil=>exact List.nodup_nil
  |cons x z ih=>
   rw [List.map_cons,List.nodup_cons] at hz
   rw [List.nodup_cons]
   exact ⟨fun q=>hz.1 (List.mem_map_of_mem (f:=fun x:LRw=>zk0 x.args) q),ih hz.2⟩
 have hp:z'.Perm z:=(List.perm_ext_iff_of_nodup (nd h'.keys) (nd h.keys)).2 fun x=>⟨fun hx=>h'.sub h (fun t=>(k t).symm) hx,fun hx=>h.sub h' k hx⟩
 have e1:=h.2.2
 have hf:=(rB (oU l) (xU l z)).1
 rw [←e1] at hf
 have hs:=(rB (oU l) (xU l z')).2
 rw [←h'.2.2] at hs
 have:=zq0 (bt:=oU l) (T:=xU l z) (hp.trans hf) hs h'.keys
 rw [←e1] at this
 exact this
theorem zfB {l:La} {T:Tbl} {args t:List Vl}:jU l (uZ (oU l) T args) t=jU l T t:=by
 unfold uZ
 split
 ·rfl
 ·have: ∀ T:Tbl,jU l (T++[(args,List.replicate 64 (oU l))]) t=jU l T t:=fun T=>by
   induction T with
   |nil=>
    rw [List.nil_append]
    unfold jU
    dsimp only
    split
    ·rfl
    ·rfl
   |cons x T ih=>
    rw [List.cons_append]
    unfold jU
    rw [ih]
  exact this T
theorem zhS {l:La} {args:List Vl} {f:List Int→List Int} {t:List Vl}: ∀ {T:Tbl},(∀ x∈T,zk0 x.1=zk0 args→x.1=args)→
  jU l (oT T (zk0 args) f) t=if t=args∧(∃ x∈T,x.1=args) then f (jU l T args) else jU l T t
 | [],_=>by
  rw [if_neg (fun q=>by obtain ⟨_,x,hx,_⟩:=q;cases hx)];rfl
 | y ::T,h=>by
  have ih:=zhS (l:=l) (f:=f) (t:=t) (T:=T) fun x hx=>h x (List.mem_cons_of_mem _ hx)
  have hc:oT (y::T) (zk0 args) f=(if zk0 y.1=zk0 args then (y.1,f y.2) else y)::oT T (zk0 args) f:=rfl
  by_cases hy:y.1=args
  ·have hq:(if zk0 y.1=zk0 args then (y.1,f y.2) else y)=(y.1,f y.2):=if_pos (by rw [hy])
   rw [hc,hq]
   unfold jU
   rw [if_pos hy]
   dsimp only
   by_cases ht:t=args
   ·rw [if_pos (hy.trans ht.symm),if_pos ⟨ht,y,List.mem_cons_self ..,hy⟩]
   ·have hyt: ¬y.1=t:=fun e=>ht (e.symm.trans hy)
    rw [if_neg hyt,if_neg (fun q=>ht q.1),if_neg hyt,ih,if_neg (fun q=>ht q.1)]
  ·have hq:(if zk0 y.1=zk0 args then (y.1,f y.2) else y)=y:=if_neg fun e=>hy (h y (List.mem_cons_self ..) e)
   rw [hc,hq]
   unfold jU
   rw [if_neg hy]
   by_cases hyt:y.1=t
   ·rw [if_pos hyt,if_pos hyt,if_neg (fun q=>hy (by rw [hyt,q.1]))]
   ·rw [if_neg hyt,if_neg hyt,ih]
    refine zoD ⟨fun q=> ?_,fun q=> ?_⟩
    ·obtain ⟨a,x,hx,e⟩:=q;exact ⟨a,x,List.mem_cons_of_mem _ hx,e⟩
    ·obtain ⟨a,x,hx,e⟩:=q
     rcases List.mem_cons.1 hx with rfl|hx
     ·exact absurd e hy
     ·exact ⟨a,x,hx,e⟩
noncomputable def aV (l:La) (z:List LRw) (args:List Vl) (a b e:Int):List LRw:=uY (oU l) (za9 l (xU l z) args a b e)
theorem yK {l:La} {ty:List Int} {z:List LRw} (h:CelX l ty z) {args:List Vl} (ha:ArgX ty args) (a b:Int) {e:Int} (he:ze9 l e):
  CelX l ty (aV l z args a b e)∧ ∀ t,eF l (aV l z args a b e) t=if t=args then yZ l a b e (eF l z args) else eF l z t:=by
 refine ⟨h.set ha a b he,fun t=> ?_⟩
 have hG:=h.good.set args a b he
 unfold aV
 rw [zh7 hG,zbJ]
 have hr: ∀ x∈xU l z,ArgX ty x.1:=fun x hx=>by
  rw [kT h.keys] at hx
  obtain ⟨w,hw,rfl⟩:=List.mem_map.1 hx
  exact h.2.1 w hw
 have hl: ∀ x∈uZ (oU l) (xU l z) args,ArgX ty x.1:=fun x hx=>by
  unfold uZ at hx
  split at hx
  ·exact hr x hx
  ·rcases List.mem_append.1 hx with hx|hx
   ·exact hr x hx
   ·rw [List.mem_singleton] at hx;subst hx;exact ha
 have hex: ∃ x∈uZ (oU l) (xU l z) args,x.1=args:=by
  unfold uZ
  split
  ·rename_i q
   unfold vR at q
   obtain ⟨x,hx,e⟩:=List.mem_map.1 q
   exact ⟨x,hx,(hr x hx).key ha e⟩
  ·exact ⟨_,List.mem_append_right _ (List.mem_singleton_self _),rfl⟩
 rw [zhS fun x hx e=>(hl x hx).key ha e,zfB,zfB,zdO h,zdO h]
 exact zoD ⟨fun q=>q.1,fun q=>⟨q,hex⟩⟩
end Go.AL
namespace Go.AL
def SpU (s s1 s2:Sp):Prop:= ∀ m:Nat,xT s m=(xT s1 m||xT s2 m)
theorem SpU.symm {s s1 s2:Sp} (h:SpU s s1 s2):SpU s s2 s1:=fun m=>by rw [h m,Bool.or_comm]
theorem zb7 {s:Sp} {m:Nat} (h:(zo2 s).testBit m=true):m<64:=by
 rw [zqY] at h
 unfold xT at h
 exact (of_decide_eq_true h).1
open Classical in
theorem znW {k:Nat} {z:List Rw} {args:List Vl} {s s1 s2:Sp} (hc:CanL z) (g:s.good) (g1:s1.good) (g2:s2.good) (hS:SpU s s1 s2):bA k (bA k z args s1) args s2=bA k z args s:=by
 obtain ⟨c1,c2, -⟩:=zdF (k:=k) (args:=args) hc g1
 obtain ⟨d1,d2, -⟩:=zdF (k:=k) (args:=args) c1 g2
 obtain ⟨e1,e2, -⟩:=zdF (k:=k) (args:=args) hc g
 refine CanL.uniq d1 e1 fun t=> ?_
 rw [d2 t,c2 t,e2 t]
 have h1:=zoI s1
 have h2:=zoI s2
 have h3:=zoI s
 generalize yH z t=a at*
 by_cases q:t.take k=args.take k
 ·rw [if_pos q,if_pos q,if_pos q]
  refine Nat.eq_of_testBit_eq fun m=> ?_
  have hm:=hS m
  rw [←zqY, ←zqY, ←zqY] at hm
  have b1:=zb7 (s:=s1) (m:=m)
  have b2:=zb7 (s:=s2) (m:=m)
  rw [Nat.testBit_or,zn3 h2,Nat.testBit_or,zn3 h1,Nat.testBit_or,zn3 h3]
  by_cases e:args=t
  ·rw [if_pos e,if_pos e,if_pos e]
   cases a.testBit m<;>cases hw:(zo2 s1).testBit m<;>cases hv:(zo2 s2).testBit m<;>cases hu:(zo2 s).testBit m<;>simp_all
  ·rw [if_neg e,if_neg e,if_neg e,Nat.zero_testBit]
   cases a.testBit m<;>cases hw:(zo2 s1).testBit m<;>cases hv:(zo2 s2).testBit m<;>cases hu:(zo2 s).testBit m<;>simp_all
 ·have e: ¬args=t:=fun e=>q (by rw [e])
  rw [if_neg q,if_neg q,if_neg q,if_neg e,if_neg e,if_neg e,Nat.or_zero,Nat.or_zero]
theorem zsA {z:List Rw} {args:List Vl} {s s1 s2:Sp} (hc:CanL z) (g:s.good) (g1:s1.good) (g2:s2.good) (hS:SpU s s1 s2):dP (dP z args s1) args s2=dP z args s:=by
 obtain ⟨c1,c2, -⟩:=bK (args:=args) hc g1
 obtain ⟨d1,d2, -⟩:=bK (args:=args) c1 g2
 obtain ⟨e1,e2, -⟩:=bK (args:=args) hc g
 refine CanL.uniq d1 e1 fun t=> ?_
 rw [d2 t,c2 t,e2 t]
 by_cases e:args=t
 ·rw [if_pos e,if_pos e,if_pos e]
  refine Nat.eq_of_testBit_eq fun m=> ?_
  have hm:=hS m
  rw [←zqY, ←zqY, ←zqY] at hm
  have b1:=zb7 (s:=s1) (m:=m)
  have b2:=zb7 (s:=s2) (m:=m)
  rw [zn3 (zoI s2),zn3 (zoI s1),zn3 (zoI s)]
  generalize yH z t=a at*
  cases a.testBit m<;>cases hw:(zo2 s1).testBit m<;>cases hv:(zo2 s2).testBit m<;>cases hu:(zo2 s).testBit m<;>simp_all
 ·rw [if_neg e,if_neg e,if_neg e]
  have:=zoW z t
  rw [zpH _ this,zpH _ this]
theorem zr9 {l:La} {e:Int} {ms:List Int} {s s1 s2:Sp} (hS:SpU s s1 s2):yZ l s2.a s2.b e (yZ l s1.a s1.b e ms)=yZ l s.a s.b e ms:=by
 unfold yZ
 by_cases q:ze7 l e=true
 ·rw [if_pos q,if_pos q,if_pos q]
  refine mH (yY ..) (yY ..) fun i hi=> ?_
  rw [tU hi,tU hi,tU hi]
  have:=hS i
  unfold xT at this
  rw [←Bool.decide_or,decide_eq_decide] at this
  have hk:(s.a≤(i:Int)∧(i:Int)<s.b)↔((s1.a≤(i:Int)∧(i:Int)<s1.b)∨(s2.a≤(i:Int)∧(i:Int)<s2.b)):=by
   constructor
   ·intro w
    rcases this.1 ⟨hi,w⟩ with w|w
    ·exact .inl w.2
    ·exact .inr w.2
   ·rintro (w|w)
    ·exact (this.2 (.inl ⟨hi,w⟩)).2
    ·exact (this.2 (.inr ⟨hi,w⟩)).2
  by_cases w2:s2.a≤(i:Int)∧(i:Int)<s2.b
  ·rw [if_pos w2,if_pos (hk.2 (.inr w2))]
  ·rw [if_neg w2]
   by_cases w1:s1.a≤(i:Int)∧(i:Int)<s1.b
   ·rw [if_pos w1,if_pos (hk.2 (.inl w1))]
   ·rw [if_neg w1,if_neg (fun w=>(hk.1 w).elim w1 w2)]
 ·rw [if_neg q,if_neg q,if_neg q]
theorem zr8 {l:La} {ty:List Int} {z:List LRw} (h:CelX l ty z) {args:List Vl} (ha:ArgX ty args) {e:Int} (he:ze9 l e) {s s1 s2:Sp} (hS:SpU s s1 s2):
  aV l (aV l z args s1.a s1.b e) args s2.a s2.b e=aV l z args s.a s.b e:=by
 obtain ⟨c1,c2⟩:=yK h ha s1.a s1.b he
 obtain ⟨d1,d2⟩:=yK c1 ha s2.a s2.b he
 obtain ⟨e1,e2⟩:=yK h ha s.a s.b he
 refine CelX.uniq d1 e1 fun t=> ?_
 rw [d2 t,c2 t,c2 args,e2 t,if_pos rfl]
 by_cases q:t=args
 ·rw [if_pos q,if_pos q,zr9 hS]
 ·rw [if_neg q,if_neg q,if_neg q]
theorem OpX.span {p:Pg} {o:Op1} {i:Nat} (ho:OpX p o i) {s:Sp} (g:s.good):OpX p {o with span:=s} i:=⟨ho.hi,ho.hoi,ho.hof,ho.htl,ho.k0,ho.k1,ho.ax,ho.el,ho.b,g,ho.k⟩
theorem zsS {p:Pg} (hp:p.ok) {d:Dt} {o:Op1} {i:Nat} (h:DatX p d) (ho:OpX p o i) {s1 s2:Sp} (g1:s1.good) (g2:s2.good) (hS:SpU o.span s1 s2):
  zl0 p (zl0 p d {o with span:=s1}) {o with span:=s2}=zl0 p d o:=by
 have hi:=ho.hi
 have hir:i<d.rels.length:=by rw [h.rl];exact hi
 have hil:i<d.lats.length:=by rw [h.ll];exact hi
 obtain ⟨h1,h2,h3⟩:=h.at' i hi hir hil
 by_cases hof:p.preds[i].of'= -1
 ·obtain ⟨q1,q2,q3⟩:=h3 ho.b hof
  rw [zo7 (o:={o with span:=s1}) ho.hoi hi hir hof,zo7 (o:={o with span:=s2}) (d:=⟨d.rels.set i (zaL p.preds[i] d.rels[i] {o with span:=s1}),d.lats⟩) ho.hoi hi (by simpa using hir) hof,zo7 ho.hoi hi hir hof]
  dsimp only
  rw [List.getElem_set_self,List.set_set]
  have:zaL p.preds[i] (zaL p.preds[i] d.rels[i] {o with span:=s1}) {o with span:=s2}=zaL p.preds[i] d.rels[i] o:=by
   unfold zaL
   dsimp only
   split
   ·exact znW q2.1 ho.s g1 g2 hS
   ·exact zsA q2.1 ho.s g1 g2 hS
  rw [this]
 ·have hol:p.preds[i].of'.toNat<p.lats.length:=by have:=ho.hof;omega
  obtain ⟨q1,q2⟩:=h2 ho.b hof
  have hc:=q2 hol
  rw [zo8 (o:={o with span:=s1}) ho.hoi hi hil hof hol,zo8 (o:={o with span:=s2}) (d:=⟨d.rels,d.lats.set i (zcQ p.lats[p.preds[i].of'.toNat] d.lats[i] {o with span:=s1})⟩) ho.hoi hi (by simpa using hil) hof hol,zo8 ho.hoi hi hil hof hol]
  dsimp only
  rw [List.getElem_set_self,List.set_set]
  have hg:ze9 p.lats[p.preds[i].of'.toNat] (if o.kind=1 then o.elem else oU p.lats[p.preds[i].of'.toNat]):=by
   split
   ·exact zp4 (hp.l _ (List.getElem_mem hol)) hc.1 (ho.el hol (by have:=ho.hof;omega))
   ·exact zpN _
  have:zcQ p.lats[p.preds[i].of'.toNat] (zcQ p.lats[p.preds[i].of'.toNat] d.lats[i] {o with span:=s1}) {o with span:=s2}=zcQ p.lats[p.preds[i].of'.toNat] d.lats[i] o:=zr8 hc ho.ax hg hS
  rw [this]
theorem SpU.cut {a b c:Int} (h1:a≤c) (h2:c≤b):SpU ⟨a,b⟩ ⟨a,c⟩ ⟨c,b⟩:=fun m=>by
 unfold xT
 rw [←Bool.decide_or,decide_eq_decide]
 dsimp only
 omega
end Go.AL
namespace Go.AL
open Go.Proofs Go.Proofs.Tryz
@[go_sem] def ULaw2f7.pl:Nat→DPlan
 |6=>⟨[yA,yA,yB,yA,yA,yA,yA,yA,yB,yA,yA,yB,yA,yA,yA,yA,yA,yA,yC],sI,0⟩
 |_=>⟨[],[],0⟩
theorem hZ {p:Pg} {o:Op1} (h:zoM p o=0):uD p [o]=0:=by rw [yL,if_pos h];rfl
theorem pV {p:Pg} {a b:Op1} (h:zoM p a=0) (k:zoM p b=0):uD p [a,b]=0:=by rw [yL,if_pos h];exact hZ k
theorem kN (p:Pg) (hp:p.ok) (hle:p.sm) (d:Dt) (ops:List Op1) (ho: ∀ o∈ops,o.ok) (hL:LenD 40 d) (hl:ops.length≤60) (hz:uD p ops=0):
  zk4 p d ops=if ze8 (DatX p d)=false then (znO,1) else (ops.foldl (zl0 p) d,0):=by
 rw [lQ p hp hle d ops ho hL (by omega) hl]
 congr 1
 rw [if_neg (by rw [hz];exact fun k=>k rfl)]
theorem zsD (p:Pg) (hp:p.ok) (hle:p.sm) (d:Dt) (hL:LenD 40 d) (o:Op1) (ho:o.ok) (h0:zoM p o=0) {s1 s2:Sp} (g1:s1.good) (g2:s2.good) (hS:SpU o.span s1 s2):
  zk4 p d [{o with span:=s1},{o with span:=s2}]=zk4 p d [o]:=by
 have k1:zoM p {o with span:=s1}=0:=zbX h0 g1
 have k2:zoM p {o with span:=s2}=0:=zbX h0 g2
 rw [kN p hp hle d [o] (by simpa using ho) hL (by simp) (hZ h0),kN p hp hle d _ (by simp;exact ⟨ho,ho⟩) hL (by simp) (pV k1 k2)]
 by_cases hX:ze8 (DatX p d)=false
 ·rw [if_pos hX,if_pos hX]
 rw [if_neg hX,if_neg hX]
 have hX':DatX p d:=zoX.1 (by cases q:ze8 (DatX p d);exact absurd q hX;rfl)
 obtain ⟨i,hi⟩:=((zoK p hp hle o ho).2 h0).op
 show (zl0 p (zl0 p d {o with span:=s1}) {o with span:=s2},(0:Int))=(zl0 p d o,0)
 rw [zsS hp hX' hi g1 g2 hS]
theorem znB {p:Pg} {o:Op1} (h:zoM p o=0):o.span.good:=(lL.1 h).2.2.2
open ULaw2f7 in
theorem zsC (p:Pg) (hp:p.ok) (d:Dt) (hd:d.raw) (o:Op1) (ho:o.raw) (u:Nat) (hu:u<256):
  EPure prog G0 7 [.agg p.c,.agg d.c,.agg o.c,u8 u] fun v=>v=bo true:=by
 have hoo:o.ok:=ho
 refine ECall.cut (R:=fun v _=>v=bo true) (pv func7 112 false (by kernel_rfl) rfl rfl ?_) (by rintro p h rfl;rfl)
 refine g2 ?_
 refine ge ?_
 (refine Go.AL.g1 ?_;refine zC (zl6 _) ?_;intro p2 h2 hr2;refine Go.AL.g2 ?_)
 obtain ⟨rfl,rfl⟩:=hr2
 refine ge ?_
 (refine Go.AL.g1 ?_;refine zC ((zbT p hp d hd).call zK (by simp [zJ]) _) ?_;intro p2 h2 hr2;refine Go.AL.g2 ?_)
 obtain ⟨⟨b,rfl,hb⟩,rfl⟩:=hr2
 cases b with
 |false=>
  refine ge ?_
  rfl
 | true=>
  obtain ⟨⟨hlat,hpl⟩,hfew⟩:=hb rfl
  have hle:p.sm:=fun x hx=>by have:=hlat x hx;omega
  have hsz:=hd.sz hfew
  have hL:=hfew.len
  have hck:=(zoK p hp hle o hoo).1
  refine ge ?_
  (refine Go.AL.g1 ?_;refine zC (hck.call zK (by simp [zJ]) _) ?_;intro p2 h2 hr2;refine Go.AL.g2 ?_)
  obtain ⟨rfl,rfl⟩:=hr2
  by_cases h0:zoM p o=0
  case neg=>
   have e0:(zoM p o !=0)=true:=by simp [h0]
   refine gf @e0 ?_
   rfl
  obtain ⟨g1,g2,g3⟩:=znB h0
  have e0:(zoM p o !=0)=false:=by simp [h0]
  have hparts:=fun {s1 s2:Sp}=>zsD p hp hle d hL o hoo h0 (s1:=s1) (s2:=s2)
  have hz:=zhA p hp hle d [o] (by simpa using hoo) hsz
  have hap:=fun (l:List Op1) (hl:l.length≤1048576) (hlo: ∀ x∈l,x.ok)=>zrH p hp hle d hsz l ⟨hl,hlo⟩
  have hA1:=hap [o] (by simp) (by simpa using hoo)
  obtain ⟨kind,pred,args,elem,⟨sa,sb⟩⟩:=o
  dsimp only at*
  have w1:IntKind.i64.wrap (sb-sa)=sb-sa:=xM (by omega) (by omega)
  by_cases h2:sb-sa<2
  ·have e2:decide (sb-sa<2)=true:=by simp [h2]
   refine gf (a3 @e0 @w1 @e2) ?_
   rfl
  have e2:decide (sb-sa<2)=false:=by simp;omega
  obtain ⟨a,rfl⟩:=Int.eq_ofNat_of_zero_le g1
  obtain ⟨n,hn⟩:=Int.eq_ofNat_of_zero_le (show 0≤sb-a-1 by omega)
  obtain rfl:sb=(a+n+1:Nat):=by omega
  have hn0:0<n:=by omega
  have hne:(((n:Nat):Int)==0)=false:=by rw [beq_eq_false_iff_ne];omega
  have hnn: ¬((n:Nat):Int)=0:=by omega
  have w2:IntKind.i64.wrap (IntKind.i64.wrap (((a+n+1:Nat):Int)-(a:Int))-1)=(n:Int):=by rw [xM (by omega) (by omega),xM (by omega) (by omega)];omega
  have w2':IntKind.i64.wrap (((a+n+1:Nat):Int)-(a:Int)-1)=(n:Int):=by rw [xM (by omega) (by omega)];omega
  have w3:IntKind.i64.wrap ((a:Int)+1)=(a:Int)+1:=xM (by omega) (by omega)
  have hwu:IntKind.i64.wrap (u:Int)=u:=xM (by omega) (by omega)
  have h5:(prog.underlying 5).isSome=true:=by kernel_rfl
  have hmu:(u:Int).tmod (n:Int)=((u%n:Nat):Int):=(Int.ofNat_tmod u n).symm
  have hk:=Nat.mod_lt u hn0
  obtain ⟨k,hke⟩: ∃ k,u%n=k:=⟨_,rfl⟩
  rw [hke] at hmu hk
  have w4:IntKind.i64.wrap ((a:Int)+1+(k:Int))=((a+1+k:Nat):Int):=by rw [xM (by omega) (by omega)];omega
  have ha1:Sp.good ⟨a,(a+1+k:Nat)⟩:=⟨by dsimp only;omega,by dsimp only;omega,by dsimp only;omega⟩
  have hb1:Sp.good ⟨(a+1+k:Nat),(a+n+1:Nat)⟩:=⟨by dsimp only;omega,by dsimp only;omega,by dsimp only;omega⟩
  have hS:SpU ⟨a,(a+n+1:Nat)⟩ ⟨a,(a+1+k:Nat)⟩ ⟨(a+1+k:Nat),(a+n+1:Nat)⟩:=SpU.cut (by omega) (by omega)
  have q1:=hparts ha1 hb1 hS
  have q2:=hparts hb1 ha1 hS.symm
  have hA2:=hap [⟨kind,pred,args,elem,⟨a,(a+1+k:Nat)⟩⟩,⟨kind,pred,args,elem,⟨(a+1+k:Nat),(a+n+1:Nat)⟩⟩] (by simp) (by simp;exact ⟨hoo,hoo⟩)
  have hA3:=hap [⟨kind,pred,args,elem,⟨(a+1+k:Nat),(a+n+1:Nat)⟩⟩,⟨kind,pred,args,elem,⟨a,(a+1+k:Nat)⟩⟩] (by simp) (by simp;exact ⟨hoo,hoo⟩)
  rw [q1] at hA2
  rw [q2] at hA3
  clear q1 q2 hap hparts hck
  generalize zk4 p d [⟨kind,pred,args,elem,⟨a,(a+n+1:Nat)⟩⟩]=r1 at*
  obtain ⟨x1,f1⟩:=r1
  dsimp only at*
  have hSm:=pP x1 (znT hz)
  have hbb:(f1==f1)=true:=by simp
  refine gf (a9 @e0 @w1 @e2 @hne @hnn @w2 @w2' @w3 (a4 @hwu @h5 @hmu @w4)) ?_
  (refine Go.AL.g1 ?_;refine zC ((hA1.args (.cons (PLe.refl _) (.cons (PLe.refl _) (.cons (PLe.tc_ts 6 _) .nil)))).call zK (by simp [zJ,oM]) _) ?_;intro p2 h2 hr2;refine Go.AL.g2 ?_)
  obtain ⟨rfl,rfl⟩:=hr2
  refine ge ?_
  (refine Go.AL.g1 ?_;refine zC ((hA2.args (.cons (PLe.refl _) (.cons (PLe.refl _) (.cons (PLe.tc_ts 6 _) .nil)))).call zK (by simp [zJ,oM]) _) ?_;intro p2 h2 hr2;refine Go.AL.g2 ?_)
  obtain ⟨rfl,rfl⟩:=hr2
  refine ge ?_
  (refine Go.AL.g1 ?_;refine zC ((hA3.args (.cons (PLe.refl _) (.cons (PLe.refl _) (.cons (PLe.tc_ts 6 _) .nil)))).call zK (by simp [zJ,oM]) _) ?_;intro p2 h2 hr2;refine Go.AL.g2 ?_)
  obtain ⟨rfl,rfl⟩:=hr2
  refine gf @hbb ?_
  (refine Go.AL.g1f @hbb ?_;refine zC (hSm.call zK (by simp [zJ]) _) ?_;intro p2 h2 hr2;refine Go.AL.g2 ?_)
  obtain ⟨rfl,rfl⟩:=hr2
  refine ge ?_
  (refine Go.AL.g1 ?_;refine zC (hSm.call zK (by simp [zJ]) _) ?_;intro p2 h2 hr2;refine Go.AL.g2 ?_)
  obtain ⟨rfl,rfl⟩:=hr2
  refine ge ?_
  rfl
end Go.AL
