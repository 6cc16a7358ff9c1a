/-
  Part of the walk.
-/
import Derived.Test.YtlcjmejclpilhaaGreatDoorV26
set_option linter.unusedSimpArgs false
set_option linter.unusedVariables false
set_option maxRecDepth 100000
set_option maxHeartbeats 4000000
namespace Go.AL
open Go.Proofs Go.Proofs.Tryz
@[go_sem] def ULook2f31.pl:Nat->DPlan
 |8=>⟨[yB,yA,yB,yA,yA,yB,yA,yA,yC,yA],xS,0⟩
 |_=>⟨[],[],0⟩
def zjH(k:Nat)(key:List Vl)(m:Int):List Rw->Option Rw
 | []=>none
 |x::l=>if decide (x.args.take k=key)&&fL x.w m then some x else zjH k key m l
noncomputable def ydT(p:Pg)(q:Pd)(y:List Rw)(z:List LRw)(pred:Int)(key:List Vl)(m:Int):Option Fa:=
 if q.base=false\/(key.length:Int)≠q.key then none
 else if q.of'≠ -1 then
  if cL (p.pQ.getD q.of'.toNat zuV) z key m= -1\/cL (p.pQ.getD q.of'.toNat zuV) z key m=oU (p.pQ.getD q.of'.toNat zuV) then none
  else some ⟨pred,key,cL (p.pQ.getD q.of'.toNat zuV) z key m⟩
 else(zjH q.key.toNat key m y).map fun x=>⟨pred,x.args, -1⟩
noncomputable def ztF(p:Pg)(d:Dt)(pred:Int)(key:List Vl)(m:Int):Option Fa:=
 if ze8 (DatX p d)=false\/pred<0\/(p.pk.length:Int)<=pred then none
 else ydT p (p.pk.getD pred.toNat zuW) (d.pg.getD pred.toNat []) (d.pQ.getD pred.toNat []) pred key m
theorem ztN{p:Pg}{d:Dt}(hX:DatX p d){i:Nat}(hi:i<p.pk.length)(hir:i<d.pg.length)(hil:i<d.pQ.length)(key:List Vl)(m:Int):ztF p d i key m=ydT p p.pk[i] d.pg[i] d.pQ[i] i key m:=by
 unfold ztF;rw[Qi (fun w=>w.elim (fun w=>by rw[pO hX] at w;cases w) fun w=>by omega),Xw,eD hi,eD hir,eD hil]
theorem zqG{k:Nat}{key:List Vl}{m:Int}: ∀{l:List Rw},(∀(j:Nat)(h:j<l.length),(decide (l[j].args.take k=key)&&fL l[j].w m)=false)->zjH k key m l=none
 | [],_=>rfl
 |x::l,h=>by
  have h0:=h 0 Qf1;unfold zjH;rw[Qi (by rw[show(x::l)[0]=x from rfl] at h0;rw[h0];decide)];exact zqG fun j hj=>h (j+1) Qfv
theorem znC{l:List Sp}{m:Nat}(hm:m<64):fL l (m:Int)=(uQ l).testBit m:=by
 unfold fL;rw[Yz (Int.natCast_nonneg m),Yz (show(m:Int)<64 by omega),Xw];rfl
theorem zr8{k:Nat}{key:List Vl}{m:Int}: ∀{l:List Rw},zjH k key m l=none-> ∀x∈l,x.args.take k=key->fL x.w m=false
 | y::l,h,x,hx,hk=>by
  unfold zjH at h;by_cases q:(decide (y.args.take k=key)&&fL y.w m)=true
  ·rw[Qj q] at h;cases h
  ·rw[Qi q] at h;rcases Qw.1 hx with rfl|hx
   ·rw[Yz hk,Jk] at q;exact Bool.eq_false_iff.2 q
   ·exact zr8 h x hx hk
@[go_sem] def UR01f116.pl:Nat->DPlan
 |4=>⟨[yA,yA,yA,yB,yA,yA,yA,yB,yC,yA],xS,0⟩
 |_=>⟨[],[],0⟩
@[go_sem] def UR01f244.pl:Nat->DPlan
 |4=>⟨[yA,yA,yA,yA,yA,yA,yA],tV,0⟩
 |5=>⟨[yA,yA,yA,yA,yA,yA,yA,yA,yC,yA],xS,0⟩
 |_=>⟨[],[],0⟩
@[go_sem] def UR05f190.pp:Nat->DPlan
 |5=>⟨[yA,yA,yA,yA,yA,yB,yA,yA,yA,yA,yA,yB,uX,yC,yA],yG,0⟩
 |_=>⟨[],[],0⟩
@[go_sem] def UR05f190.pl:Nat->DPlan
 |5=>⟨[yA,yA,yA,yA,yA,⟨7,0,[1000]⟩,yA,yA,yA,yA,yA,yB,⟨6,0,[1000]⟩,yC,yA],yG,0⟩
 |_=>⟨[],[],0⟩
structure RQ(r:List Rw):Prop where
 l:r.length<=4096
 w: ∀x∈r,uQ x.w≠0/\x.w.length<=64
 a: ∀x∈r,x.args.length<=1048576/\ ∀v∈x.args,v.s.size<=140737488355328
noncomputable def zuM(r:List Rw)(t:List Vl)(m:Nat):Bool:=r.any fun x=>ze8 (x.args=t)&&(uQ x.w).testBit m
def OfK(r:List Rw)(y:Rw):Prop:=(∃x∈r,y.args=x.args)/\y.w.length<=65/\ ∀m,(uQ y.w).testBit m=zuM r y.args m
def AtK(r:List Rw)(m:Int)(a:List Vl):Prop:=(∃x∈r,a=x.args)/\0<=m/\m<64/\zuM r a m.toNat=true
theorem zsS{k:Nat}{key:List Vl}{m:Int}{z:Rw}: ∀{l:List Rw},zjH k key m l=some z->z∈l/\z.args.take k=key/\fL z.w m=true
 | y::l,h=>by
  unfold zjH at h;by_cases q:(decide (y.args.take k=key)&&fL y.w m)=true
  ·rw[Qj q] at h;injection h with h;subst h;simp only[Qt,Xm] at q;exact⟨Qe ..,q⟩
  ·rw[Qi q] at h;obtain⟨a,b⟩:=zsS h;exact⟨Qf _ a,b⟩
theorem zuG{k:Nat}{key:List Vl}{m:Int}{x:Rw}{l:List Rw}(hx:x∈l)(hk:x.args.take k=key)(hh:fL x.w m=true): ∃z,zjH k key m l=some z:=by
 cases h:zjH k key m l with
 |some z=>exact⟨z,rfl⟩
 |none=>have:=zr8 h x hx hk;rw[hh] at this;cases this
theorem zt5{k:Nat}{r:List Rw}(hc:CanL r)(hk:zr1 k r){x z:Rw}(hx:x∈r)(hz:z∈r)(ht:z.args.take k=x.args.take k){m:Nat}(hxm:(uQ x.w).testBit m=true)(hzm:(uQ z.w).testBit m=true):z.args=x.args:=by
 apply Yv;intro q;have hp:=(iW r).1 hc.1;have:=(zjB hc).1 hk _ _ q ht;rw[zoV hp hz,zoV hp hx] at this;have h2:=zn9 this m;rw[hzm,hxm] at h2;cases h2
def zs1(n:Int):List UInt8:=(List.range 8).map (vT n)
def ziU(x:Vl):List UInt8:=zs1 x.t++(zs1 x.n++(zs1 x.s.size++x.s.data.toList))
theorem zq3(b:BA)(c:UInt8):(b.push c).data.toList=b.data.toList++[c]:=by
 show(b.data.push c).toList=_;simp
theorem zbB(n:Int)(bs:BA): ∀k,(b8 n bs k).data.toList=bs.data.toList++(List.range k).map (vT n)
 |0=>by simp[b8]
 |k+1=>by rw[znE,zq3,zbB n bs k,List.range_succ,Xq,Qv];rfl
theorem zrF(bs:BA)(x:Vl):(znJ bs x).data.toList=bs.data.toList++ziU x:=by
 have h0:ztA x bs 0=bs:=rfl;have happ: ∀a b:BA,(a++b).data.toList=a.data.toList++b.data.toList:=fun a b=>by simp
 rw[zm9,happ,fK,zbB,fK,zbB,fK,zbB,h0];unfold ziU zs1;simp only[Qv];rfl
theorem fQ: ∀(l:List Vl)(bs:BA),(l.foldl znJ bs).data.toList=bs.data.toList++l.flatMap ziU
 | [],bs=>by simp
 |x::l,bs=>by rw[Yw,fQ l,zrF,Yp,Qv]
theorem pG(n:Int):(zs1 n).length=8:=by simp[zs1]
theorem zgD{n m:Int}(hn:0<=n/\n<=9999)(hm:0<=m/\m<=9999)(h:zs1 n=zs1 m):n=m:=by
 have h0:vT n 0=vT m 0:=by have:=Ym (fun l=>l.getD 0 0) h;simpa [zs1,List.range_succ] using this
 have h1:vT n 1=vT m 1:=by have:=Ym (fun l=>l.getD 1 0) h;simpa [zs1,List.range_succ] using this
 have a0:=ziJ n 0;have b0:=ziJ m 0;have a1:=ziJ n 1;have b1:=ziJ m 1;rw[h0] at a0;rw[h1] at a1;rw[<-b0] at a0;rw[<-b1] at a1;simp only[IntKind.wrap_u8] at a0 a1;simp at a0 a1;omega
theorem zhN: ∀{a b:List Vl},(∀v∈a,VvK v)->(∀v∈b,VvK v)->a.flatMap ziU=b.flatMap ziU->a=b
 | [],[],_,_,_=>rfl
 | [],y::b,_,_,h=>by
  have:=Ym List.length h;simp[ziU,pG] at this;omega
 |x::a,[],_,_,h=>by
  have:=Ym List.length h;simp[ziU,pG] at this
 | x::a,y::b,ha,hb,h=>by
  rw[Yp,Yp] at h;unfold ziU at h;simp only[Qv] at h;obtain⟨h1,h⟩:=Jz h Qfk;obtain⟨h2,h⟩:=Jz h Qfk;obtain⟨h3,h⟩:=Jz h Qfk;obtain⟨x1,x2,x3,x4, -⟩:=ha x (Qe ..);obtain⟨y1,y2,y3,y4, -⟩:=hb y (Qe ..);have e1:=zgD Qf0 Qf0 h1;have e2:=zgD ⟨x3,x4⟩ ⟨y3,y4⟩ h2;have e3:=zgD Qf0 Qf0 h3;have hsz:x.s.data.toList.length=y.s.data.toList.length:=by
   exact Qdd
  obtain⟨h4,h5⟩:=Jz h hsz;have e4:x.s=y.s:=ByteArray.ext (Array.toList_inj.1 h4);have hxy:x=y:=Qh2;have hr:=zhN (fun v hv=>ha v (Qf _ hv)) (fun v hv=>hb v (Qf _ hv)) (by unfold ziU;simpa only[Qv] using h5);rw[hxy,hr]
theorem zsK{a b:List Vl}(ha: ∀v∈a,VvK v)(hb: ∀v∈b,VvK v)(h:zk0 a=zk0 b):a=b:=by
 have h1:=fQ a ⟨#[]⟩;have h2:=fQ b ⟨#[]⟩;have h3:(a.foldl znJ ⟨#[]⟩).data.toList=(b.foldl znJ ⟨#[]⟩).data.toList:=by
  show(zk0 a).data.toList=(zk0 b).data.toList;rw[h]
 rw[h1,h2] at h3;exact zhN ha hb (by simpa using h3)
theorem ArgX.vv{ty:List Int}{a:List Vl}(h:ArgX ty a): ∀v∈a,VvK v:=fun v hv=>by
 obtain⟨j,hj,rfl⟩:=Qy hv;exact(zqC _).2 (h.2 j hj (by rw[<-h.1];exact hj)).2
theorem ArgX.key{ty ty':List Int}{a b:List Vl}(ha:ArgX ty a)(hb:ArgX ty' b)(h:zk0 a=zk0 b):a=b:=zsK ha.vv hb.vv h
end Go.AL
namespace Go.AL
noncomputable def jU(l:La):Tbl->List Vl->List Int
 | [],_=>List.replicate 64 (oU l)
 |x::T,t=>if x.1=t then x.2 else jU l T t
noncomputable def eF(l:La):List LRw->List Vl->List Int
 | [],_=>List.replicate 64 (oU l)
 |x::z,t=>if x.args=t then wL l x.cs else eF l z t
theorem zdX{l:La}{t:List Vl}: ∀{T:Tbl},(∀x∈T,x.1≠t)->jU l T t=List.replicate 64 (oU l)
 | [],_=>rfl
 |x::T,h=>by
  unfold jU;rw[Qi (h x (Qe ..))];exact zdX fun y hy=>h y (Qf _ hy)
theorem mR{l:La}{t:List Vl}: ∀{z:List LRw},(∀x∈z,x.args≠t)->eF l z t=List.replicate 64 (oU l)
 | [],_=>rfl
 |x::z,h=>by
  unfold eF;rw[Qi (h x (Qe ..))];exact mR fun y hy=>h y (Qf _ hy)
theorem zsW{l:La}{T:Tbl}(hn:(vR T).Nodup){x:List Vl×List Int}(hx:x∈T):jU l T x.1=x.2:=by
 induction T with
 |nil=>cases hx
 | cons y T ih=>
  unfold jU;unfold vR at hn ih;rw[Xa,Zs] at hn;rcases Qw.1 hx with rfl|hx
  ·rw[Qj rfl]
  ·rw[Qi,ih hn.2 hx];intro e;exact hn.1 (by rw[e];exact Zi (f:=fun x:List Vl×List Int=>zk0 x.1) hx)
theorem zfD{l:La}{z:List LRw}(hn:(z.map fun x=>zk0 x.args).Nodup){x:LRw}(hx:x∈z):eF l z x.args=wL l x.cs:=by
 induction z with
 |nil=>cases hx
 | cons y z ih=>
  unfold eF;rw[Xa,Zs] at hn;rcases Qw.1 hx with rfl|hx
  ·rw[Qj rfl]
  ·rw[Qi,ih hn.2 hx];intro e;exact hn.1 (by rw[e];exact Zi (f:=fun x:LRw=>zk0 x.args) hx)
theorem zh7{l:La}{T:Tbl}(h:TabG l T)(t:List Vl):eF l (uY (oU l) T) t=jU l T t:=by
 have hk:=kR (bt:=oU l) h.1;by_cases q: ∃y∈T,y.1=t
 ·obtain⟨y,hy,rfl⟩:=q;rw[zsW h.1.1 hy];by_cases hc:zh6 (oU l) y.2 64=[]
  ·rw[znD (h.2 y hy) hc];refine mR fun x hx e=> ?_;obtain⟨w,hw,e1,e2,e3⟩:=zbT.1 hx;have:w=y:=sJ (f:=fun x:List Vl×List Int=>zk0 x.1) h.1.1 hw hy (by rw[<-e1,e]);subst this;rw[e2] at e3;exact e3 hc
  ·have hx:(⟨y.1,zh6 (oU l) y.2 64⟩:LRw)∈uY (oU l) T:=zbT.2 ⟨y,hy,rfl,rfl,hc⟩;have:=zfD (l:=l) hk hx;dsimp only at this;rw[this,zmI (h.2 y hy)]
 ·rw[zdX fun x hx e=>q ⟨x,hx,e⟩];refine mR fun x hx e=> ?_;obtain⟨w,hw,e1, -, -⟩:=zbT.1 hx;exact q ⟨w,hw,by rw[<-e1,e]⟩
theorem CelX.keys{l:La}{ty:List Int}{z:List LRw}(h:CelX l ty z):(z.map fun x=>zk0 x.args).Nodup:=by
 have:=kR (bt:=oU l) (ziO l z)
 rwa [<-h.2.2] at this
theorem zdO{l:La}{ty:List Int}{z:List LRw}(h:CelX l ty z)(t:List Vl):jU l (xU l z) t=eF l z t:=by
 have:=zh7 h.good t;rw[<-h.2.2] at this;exact this.symm
theorem CelX.row{l:La}{ty:List Int}{z:List LRw}(h:CelX l ty z){x:LRw}(hx:x∈z):zh6 (oU l) (wL l x.cs) 64=x.cs/\x.cs≠[]:=by
 have hG:=h.good;have hx2:=hx;rw[h.2.2] at hx2;obtain⟨y,hy,e1,e2,e3⟩:=zbT.1 hx2;exact⟨by rw[e2,zmI (hG.2 y hy)],e3⟩
theorem CelX.sub{l:La}{ty ty':List Int}{z z':List LRw}(h:CelX l ty z)(h':CelX l ty' z')(k: ∀t,eF l z t=eF l z' t){x:LRw}(hx:x∈z):x∈z':=by
 obtain⟨r1,r2⟩:=h.row hx;have e:=zfD (l:=l) h.keys hx;rw[k] at e;by_cases q: ∃y∈z',y.args=x.args
 ·obtain⟨y,hy,f⟩:=q;have e':=zfD (l:=l) h'.keys hy;rw[f,e] at e';obtain⟨s1,s2⟩:=h'.row hy;have:x=y:=by
   have hc:x.cs=y.cs:=by rw[<-r1,e',s1]
   cases x;cases y;simp_all
  rw[this];exact hy
 ·rw[mR fun y hy f=>q ⟨y,hy,f⟩] at e;have hr:zh6 (oU l) (List.replicate 64 (oU l)) 64=[]:=by
   have: ∀n,n<=64->zh6 (oU l) (List.replicate 64 (oU l)) n=[]:=fun n=>by
    induction n with
    |zero=>exact fun _=>rfl
    |succ n ih=>
     intro hn;simp only[zh6];unfold zm5;rw[Qj (ziB Qf0 _),ih Qf0]
   exact this 64 (Xe _)
  rw[<-e,hr] at r1;exact absurd r1.symm r2
theorem CelX.uniq{l:La}{ty ty':List Int}{z z':List LRw}(h:CelX l ty z)(h':CelX l ty' z')(k: ∀t,eF l z t=eF l z' t):z=z':=by
 have nd: ∀{z:List LRw},(z.map fun x=>zk0 x.args).Nodup->z.Nodup:=fun {z} hz=>by
  induction z with
  |nil=>exact Kg
  |cons x z ih=>
   rw[Xa,Zs] at hz;rw[Zs];exact⟨fun q=>hz.1 (Zi (f:=fun x:LRw=>zk0 x.args) q),ih hz.2⟩
 have hp:z'.Perm z:=(List.perm_ext_iff_of_nodup (nd h'.keys) (nd h.keys)).2 fun x=>⟨fun hx=>h'.sub h (fun t=>(k t).symm) hx,fun hx=>h.sub h' k hx⟩
 have e1:=h.2.2;have hf:=(zbK (oU l) (xU l z)).1;rw[<-e1] at hf;have hs:=(zbK (oU l) (xU l z')).2;rw[<-h'.2.2] at hs;have:=zq0 (bt:=oU l) (T:=xU l z) (hp.trans hf) hs h'.keys;rw[<-e1] at this;exact this
theorem zfB{l:La}{T:Tbl}{args t:List Vl}:jU l (uZ (oU l) T args) t=jU l T t:=by
 unfold uZ;split
 ·rfl
 ·have: ∀T:Tbl,jU l (T++[(args,List.replicate 64 (oU l))]) t=jU l T t:=fun T=>by
   induction T with
   |nil=>
    rw[Yj];unfold jU;dsimp only;split
    ·rfl
    ·rfl
   |cons x T ih=>
    rw[Xx];unfold jU;rw[ih]
  exact this T
theorem zhS{l:La}{args:List Vl}{f:List Int->List Int}{t:List Vl}: ∀{T:Tbl},(∀x∈T,zk0 x.1=zk0 args->x.1=args)->
  jU l (oT T (zk0 args) f) t=if t=args/\(∃x∈T,x.1=args) then f (jU l T args) else jU l T t
 | [],_=>by
  rw[Qi (fun q=>by obtain⟨_,x,hx,_⟩:=q;cases hx)];rfl
 | y ::T,h=>by
  have ih:=zhS (l:=l) (f:=f) (t:=t) (T:=T) fun x hx=>h x (Qf _ hx);have hc:oT (y::T) (zk0 args) f=(if zk0 y.1=zk0 args then(y.1,f y.2) else y)::oT T (zk0 args) f:=rfl;by_cases hy:y.1=args
  ·have hq:(if zk0 y.1=zk0 args then(y.1,f y.2) else y)=(y.1,f y.2):=Qj (by rw[hy]);rw[hc,hq];unfold jU;rw[Qj hy];dsimp only;by_cases ht:t=args
   ·rw[Qj (hy.trans ht.symm),Qj ⟨ht,y,Qe ..,hy⟩]
   ·have hyt: ¬y.1=t:=fun e=>ht (e.symm.trans hy);rw[Qi hyt,Qi (fun q=>ht q.1),Qi hyt,ih,Qi (fun q=>ht q.1)]
  ·have hq:(if zk0 y.1=zk0 args then(y.1,f y.2) else y)=y:=Qi fun e=>hy (h y (Qe ..) e);rw[hc,hq];unfold jU;rw[Qi hy];by_cases hyt:y.1=t
   ·rw[Qj hyt,Qj hyt,Qi (fun q=>hy (by rw[hyt,q.1]))]
   ·rw[Qi hyt,Qi hyt,ih];refine zoD ⟨fun q=> ?_,fun q=> ?_⟩
    ·obtain⟨a,x,hx,e⟩:=q;exact⟨a,x,Qf _ hx,e⟩
    ·obtain⟨a,x,hx,e⟩:=q;rcases Qw.1 hx with rfl|hx
     ·exact absurd e hy
     ·exact⟨a,x,hx,e⟩
noncomputable def aV(l:La)(z:List LRw)(args:List Vl)(a b e:Int):List LRw:=uY (oU l) (za9 l (xU l z) args a b e)
theorem yK{l:La}{ty:List Int}{z:List LRw}(h:CelX l ty z){args:List Vl}(ha:ArgX ty args)(a b:Int){e:Int}(he:ze9 l e):
  CelX l ty (aV l z args a b e)/\ ∀t,eF l (aV l z args a b e) t=if t=args then yZ l a b e (eF l z args) else eF l z t:=by
 refine⟨h.set ha a b he,fun t=> ?_⟩;have hG:=h.good.set args a b he;unfold aV;rw[zh7 hG,zbJ];have hr: ∀x∈xU l z,ArgX ty x.1:=fun x hx=>by
  rw[kT h.keys] at hx;obtain⟨w,hw,rfl⟩:=Xf.1 hx;exact h.2.1 w hw
 have hl: ∀x∈uZ (oU l) (xU l z) args,ArgX ty x.1:=fun x hx=>by
  unfold uZ at hx;split at hx
  ·exact hr x hx
  ·rcases Qo.1 hx with hx|hx
   ·exact hr x hx
   ·rw[Qp] at hx;subst hx;exact ha
 have hex: ∃x∈uZ (oU l) (xU l z) args,x.1=args:=by
  unfold uZ;split
  ·rename_i q;unfold vR at q;obtain⟨x,hx,e⟩:=Xf.1 q;exact⟨x,hx,(hr x hx).key ha e⟩
  ·exact⟨_,Yh _ (List.mem_singleton_self _),rfl⟩
 rw[zhS fun x hx e=>(hl x hx).key ha e,zfB,zfB,zdO h,zdO h];exact zoD ⟨fun q=>q.1,fun q=>⟨q,hex⟩⟩
def SpU(s s1 s2:Sp):Prop:= ∀m:Nat,xT s m=(xT s1 m||xT s2 m)
theorem zb7{s:Sp}{m:Nat}(h:(zo2 s).testBit m=true):m<64:=by
 rw[zqY] at h;unfold xT at h;exact(Xj h).1
end Go.AL
namespace Go.AL
open Classical in
noncomputable def zgK(k:Nat)(o:Op1)(t:List Vl)(x:Nat):Nat:=
 if o.kind=1 then(if t.take k=o.args.take k then mY x (zo2 o.span) else x) ||| (if o.args=t then zo2 o.span else 0) else mY x (if o.args=t then zo2 o.span else 0)
theorem tD{q:Pd}{z:List Rw}{o:Op1}(hc:CanL z)(hs:o.span.good):CanL (zaL q z o)/\ ∀t,yH (zaL q z o) t=zgK q.key.toNat o t (yH z t):=by
 unfold zaL zgK;by_cases hk:o.kind=1
 ·rw[Qj hk];obtain⟨a,b, -⟩:=zdF (k:=q.key.toNat) (args:=o.args) hc hs;exact⟨a,fun t=>by rw[b t,Qj hk]⟩
 ·rw[Qi hk];obtain⟨a,b, -⟩:=bK (args:=o.args) hc hs;exact⟨a,fun t=>by rw[b t,Qi hk]⟩
theorem sU{k:Nat}{o:Op1}{t:List Vl}{x m:Nat}(hx:x<2 ^ 64):(zgK k o t x).testBit m=
  if xT o.span m=true then(if o.args=t then decide (o.kind=1) else if o.kind=1/\t.take k=o.args.take k then false else x.testBit m) else x.testBit m:=by
 have hl:=zoI o.span;have hb:=zqY o.span m;have hm:(zo2 o.span).testBit m=true->m<64:=zb7;have hxm:x.testBit m=true->m<64:=fun h=>by
  apply Yv;intro q;rw[Jp (Yf hx (Yy Qf0 Qf0))] at h;cases h
 unfold zgK;rw[<-hb];cases h1:(zo2 o.span).testBit m with
 | false=>
  have hmin:(mY x (zo2 o.span)).testBit m=x.testBit m:=by
   rw[zn3 hl,h1];cases h2:x.testBit m with
   |false=>rfl
   |true=>simp[hxm h2]
  rw[Qi Bool.false_ne_true];by_cases hk:o.kind=1
  ·have e1:(if o.args=t then zo2 o.span else 0).testBit m=false:=by
    split
    ·exact h1
    ·exact Zx m
   rw[Qj hk,Kf,e1,Uc];split
   ·exact hmin
   ·rfl
  ·rw[Qi hk];by_cases he:o.args=t
   ·rw[Qj he];exact hmin
   ·rw[Qi he,zpH _ hx]
 | true=>
  have hmin:(mY x (zo2 o.span)).testBit m=false:=by rw[zn3 hl,h1];simp
  rw[Qj rfl];by_cases hk:o.kind=1
  ·rw[Qj hk,Kf];by_cases he:o.args=t
   ·rw[Qj he,Qj he,h1,Bool.or_true,Yz hk]
   ·rw[Qi he,Qi he,Zx,Uc];by_cases hp:t.take k=o.args.take k
    ·rw[Qj hp,Qj ⟨hk,hp⟩,hmin]
    ·rw[Qi hp,Qi (fun q=>hp q.2)]
  ·rw[Qi hk];by_cases he:o.args=t
   ·rw[Qj he,Qj he,hmin,Zy hk]
   ·rw[Qi he,Qi he,zpH _ hx,Qi (fun q=>hk q.1)]
def Apt(k:Nat)(o o':Op1):Prop:=o.args.take k≠o'.args.take k\/ ∀m,xT o.span m=true->xT o'.span m=false
end Go.AL
namespace Go.AL
def NoR(k:Nat)(z:List Rw)(args:List Vl)(s:Sp):Prop:= ∀t:List Vl,t.take k=args.take k-> ∀m,xT s m=true->(yH z t).testBit m=false
theorem znA{l:La}{ty:List Int}{z:List LRw}(h:CelX l ty z)(t:List Vl):zh2 l (eF l z t):=by
 rw[<-zdO h t];have hG:=h.good;by_cases q: ∃y∈xU l z,y.1=t
 ·obtain⟨y,hy,rfl⟩:=q;rw[zsW hG.1.1 hy];exact hG.2 y hy
 ·rw[zdX fun x hx e=>q ⟨x,hx,e⟩];exact⟨Qf1,fun i hi=> .inl (ziB hi _)⟩
theorem zuK{l:La}(hl:l.ok)(hc:uE l=0):ze7 l (oU l)=true:=by
 unfold ze7;rw[Xm];exact(zqB l hl hc).1
end Go.AL
namespace Go.AL
open Go.Proofs Go.Proofs.Tryz
theorem zrS{l:La}{ty:List Int}{args:List Vl}(ha:ArgX ty args): ∀{T:Tbl},(∀x∈T,ArgX ty x.1)->zhD (oU l) T (zk0 args)=jU l T args
 | [],_=>rfl
 |x::T,h=>by
  have ih:=zrS (l:=l) ha fun y hy=>h y (Qf x hy);unfold zhD jU;by_cases q:x.1=args
  ·rw[Qj (by rw[q]),Qj q]
  ·rw[Qi fun e=>q ((h x (Qe ..)).key ha e),Qi q,ih]
theorem ztL{l:La}{ty:List Int}{z:List LRw}(h:CelX l ty z){args:List Vl}(ha:ArgX ty args){m:Nat}(hm:m<64):cL l z args m=(eF l z args).getD m 0:=by
 unfold cL;rw[Qj ⟨Qf0,Qf0⟩,Xw,zrS ha,zdO h];intro x hx;rw[kT h.keys] at hx;obtain⟨w,hw,rfl⟩:=Xf.1 hx;exact h.2.1 w hw
theorem znB{l:La}(hl:l.ok)(hc:uE l=0){ms:List Int}(h:zh2 l ms){m:Nat}(hm:m<64):0<=ms.getD m 0/\ms.getD m 0<l.pw.length:=by
 obtain⟨hb, -⟩:=zqB l hl hc;rcases h.2 m hm with e|⟨e, -⟩
 ·rw[e];exact hb
 ·unfold ze7 at e;simpa using e
abbrev In64(n:Int):Prop:= -9223372036854775808<=n/\n<=9223372036854775807
theorem dn256{a b:Int}(h:a%256=b%256)(k:a / 256=b / 256):a=b:=Qf0
theorem znG{n m:Int}(h:zs1 n=zs1 m)(k:Nat)(hk:k<8):(n / 2 ^ (8*k))%256=(m / 2 ^ (8*k))%256:=by
 have e:vT n k=vT m k:=by
  have h1:(zs1 n)[k]? =(zs1 m)[k]? :=by rw[h]
  unfold zs1 at h1;rw[Qu,Qu,Kc hk] at h1;simpa using h1
 have a:=ziJ n k;have b:=ziJ m k;rw[e,<-b] at a;rw[IntKind.wrap_u8,IntKind.wrap_u8,Jx Qf0] at a;exact a
theorem fM(n:Int)(k:Nat):n / 2 ^ (8*(k+1))=(n / 2 ^ (8*k)) / 256:=by
 rw[show 8*(k+1)=8*k+8 by omega,Int.pow_add,Int.ediv_ediv_of_nonneg (Int.le_of_lt (Int.pow_pos Qf2))];rfl
theorem kN{n m:Int}(hn:In64 n)(hm:In64 m)(h:zs1 n=zs1 m):n=m:=by
 have b:=znG h;have top:n / 2 ^ (8*7)=m / 2 ^ (8*7):=by
  have:=b 7 Qf0;have e:(2:Int) ^ (8*7)=72057594037927936:=Qf2;rw[e] at this ⊢
  obtain⟨a1,a2⟩:=hn;obtain⟨a3,a4⟩:=hm;have q1: -128<=n / 72057594037927936/\n / 72057594037927936<=127:=Qf0;have q2: -128<=m / 72057594037927936/\m / 72057594037927936<=127:=Qf0;omega
 have st: ∀k,k<7->n / 2 ^ (8*(k+1))=m / 2 ^ (8*(k+1))->n / 2 ^ (8*k)=m / 2 ^ (8*k):=fun k hk q=>by
  rw[fM,fM] at q;exact dn256 (b k Qf0) q
 have h6:=st 6 Qf0 top;have h5:=st 5 Qf0 h6;have h4:=st 4 Qf0 h5;have h3:=st 3 Qf0 h4;have h2:=st 2 Qf0 h3;have h1:=st 1 Qf0 h2;have h0:=st 0 Qf0 h1;simpa using h0
def VIn(v:Vl):Prop:=In64 v.t/\In64 v.n/\v.s.size<=140737488355328
theorem VvK.in'{v:Vl}(h:VvK v):VIn v:=by
 obtain⟨x1,x2,x3,x4, -⟩:=h;exact⟨⟨Qf0,Qf0⟩,⟨Qf0,Qf0⟩,Qf0⟩
theorem fJ: ∀{a b:List Vl},(∀v∈a,VIn v)->(∀v∈b,VIn v)->a.flatMap ziU=b.flatMap ziU->a=b
 | [],[],_,_,_=>rfl
 | [],y::b,_,_,h=>by
  have:=Ym List.length h;simp[ziU,pG] at this;omega
 |x::a,[],_,_,h=>by
  have:=Ym List.length h;simp[ziU,pG] at this
 | x::a,y::b,ha,hb,h=>by
  rw[Yp,Yp] at h;unfold ziU at h;simp only[Qv] at h;obtain⟨h1,h⟩:=Jz h Qfk;obtain⟨h2,h⟩:=Jz h Qfk;obtain⟨h3,h⟩:=Jz h Qfk;obtain⟨x1,x2,x3⟩:=ha x (Qe ..);obtain⟨y1,y2,y3⟩:=hb y (Qe ..);have e1:=kN x1 y1 h1;have e2:=kN x2 y2 h2;have e3:=kN (n:=(x.s.size:Int)) (m:=(y.s.size:Int)) ⟨Qf0,Qf0⟩ ⟨Qf0,Qf0⟩ h3;have hsz:x.s.data.toList.length=y.s.data.toList.length:=by
   exact Qdd
  obtain⟨h4,h5⟩:=Jz h hsz;have e4:x.s=y.s:=ByteArray.ext (Array.toList_inj.1 h4);have hxy:x=y:=Qh2;have hr:=fJ (fun v hv=>ha v (Qf _ hv)) (fun v hv=>hb v (Qf _ hv)) (by unfold ziU;simpa only[Qv] using h5);rw[hxy,hr]
theorem zdH{a b:List Vl}(ha: ∀v∈a,VIn v)(hb: ∀v∈b,VIn v)(h:zk0 a=zk0 b):a=b:=by
 have h1:=fQ a ⟨#[]⟩;have h2:=fQ b ⟨#[]⟩;have h3:(a.foldl znJ ⟨#[]⟩).data.toList=(b.foldl znJ ⟨#[]⟩).data.toList:=by
  show(zk0 a).data.toList=(zk0 b).data.toList;rw[h]
 rw[h1,h2] at h3;exact fJ ha hb (by simpa using h3)
theorem fH{k:Nat}{key:List Vl}{m:Nat}(hm:m<64){z:List Rw}(hc:CanL z)(hk:zr1 k z)(t:List Vl):(zjH k key m z).map (·.args)=some t↔t.take k=key/\(yH z t).testBit m=true:=by
 have hp:=(iW z).1 hc.1;constructor
 ·intro h;cases hr:zjH k key m z with
  |none=>rw[hr] at h;cases h
  |some x=>
   rw[hr] at h;have h:x.args=t:=Qfn;subst h;obtain⟨x1,x2,x3⟩:=zsS hr;rw[znC hm] at x3;exact⟨x2,by rw[zoV hp x1];exact x3⟩
 ·rintro⟨h1,h2⟩;have hne:yH z t≠0:=fun e=>by rw[e,Zx] at h2;cases h2
  obtain⟨x,hx,rfl,hw⟩:=zn6 hne;rw[<-hw] at h2;obtain⟨y,hy⟩:=zuG (k:=k) (key:=key) (m:=(m:Int)) hx h1 (by rw[znC hm];exact h2);rw[hy];obtain⟨y1,y2,y3⟩:=zsS hy;rw[znC hm] at y3;have:=zt5 hc hk hx y1 (by rw[y2,h1]) h2 y3;simp[this]
theorem zm6{α:Type}{a b:Option α}(h: ∀t,a=some t↔b=some t):a=b:=by
 cases a with
 |none=>cases b with
  |none=>rfl
  |some y=>exact absurd ((h y).2 rfl) Qf1
 |some x=>exact((h x).1 rfl).symm
def faT(i:Int)(o:Option (List Vl)):Option Fa:=o.map fun a=>⟨i,a, -1⟩
theorem znF(i:Int)(o:Option Rw):(o.map fun x=>(⟨i,x.args, -1⟩:Fa))=faT i (o.map (·.args)):=by cases o<;>rfl
theorem zf7{p:Pg}{d:Dt}(hX:DatX p d){i:Nat}(hi:i<p.pk.length)(hir:i<d.pg.length)(hil:i<d.pQ.length)(hb:p.pk[i].base=true)(hof:p.pk[i].of'= -1){key:List Vl}(hkl:(key.length:Int)=p.pk[i].key)(m:Int):
  ztF p d i key m=faT i ((zjH p.pk[i].key.toNat key m d.pg[i]).map (·.args)):=by
 rw[ztN hX hi hir hil];unfold ydT;rw[Qi (fun w=>w.elim (fun w=>by rw[hb] at w;cases w) fun w=>w hkl),Qi (fun w=>w hof),znF]
theorem zjD{p:Pg}{d:Dt}(hX:DatX p d){i:Nat}(hi:i<p.pk.length)(hir:i<d.pg.length)(hil:i<d.pQ.length)(hb:p.pk[i].base=true)(hof:p.pk[i].of'≠ -1)(hol:p.pk[i].of'.toNat<p.pQ.length){key:List Vl}(hkl:(key.length:Int)=p.pk[i].key)(m:Int):
  ztF p d i key m=if cL p.pQ[p.pk[i].of'.toNat] d.pQ[i] key m= -1\/cL p.pQ[p.pk[i].of'.toNat] d.pQ[i] key m=oU p.pQ[p.pk[i].of'.toNat] then none else some ⟨i,key,cL p.pQ[p.pk[i].of'.toNat] d.pQ[i] key m⟩:=by
 rw[ztN hX hi hir hil];unfold ydT;rw[Qi (fun w=>w.elim (fun w=>by rw[hb] at w;cases w) fun w=>w hkl),Qj hof,eD hol]
theorem znT{p:Pg}{d:Dt}(hX:DatX p d){i:Nat}(hi:i<p.pk.length)(hir:i<d.pg.length)(hil:i<d.pQ.length){key:List Vl}(h:p.pk[i].base=false\/(key.length:Int)≠p.pk[i].key)(m:Int):ztF p d i key m=none:=by
 rw[ztN hX hi hir hil];unfold ydT;rw[Qj h]
theorem zbH{l:La}{ty:List Int}{z:List LRw}(h:CelX l ty z){key:List Vl}(hv: ∀v∈key,VIn v)(hn: ¬ArgX ty key){m:Nat}(hm:m<64):cL l z key m=oU l:=by
 unfold cL;rw[Qj ⟨Qf0,Qf0⟩,Xw,zm8,ziB hm];intro q;unfold vR at q;obtain⟨y,hy,e⟩:=Xf.1 q;rw[kT h.keys] at hy;obtain⟨w,hw,rfl⟩:=Xf.1 hy;have ha:=h.2.1 w hw;have:w.args=key:=zdH (fun v hv=>(ha.vv v hv).in') hv e;rw[this] at ha;exact hn ha
theorem zm3{l:La}{a b e:Int}{ms:List Int}{m:Nat}(hm:m<64)(he:ze7 l e=true):(yZ l a b e ms).getD m 0=if a<=(m:Int)/\(m:Int)<b then e else ms.getD m 0:=by
 unfold yZ;rw[Qj he,tU hm]
theorem gQ{s:Sp}{m:Nat}(hm:m<64):xT s m=decide (s.a<=(m:Int)/\(m:Int)<s.b):=by
 unfold xT;rw[Jo,Wz,Wz];exact⟨fun h=>h.2,fun h=>⟨hm,h⟩⟩
theorem zyW{a b:List Int}(ha:a.length=64)(hb:b.length=64)(h: ∀m,m<64->a.getD m 0=b.getD m 0):a=b:=by
 refine Zc Qf0 fun m h1 h2=> ?_;have:=h m Qf0
 rwa [eD h1,eD h2] at this
theorem zyZ{p:Pg}(hp:p.ok)(hle:p.sm){X Y:Dt}(hX:DatX p X)(hY:DatX p Y)
  (h: ∀(i:Nat)(key:List Vl)(m:Nat),m<64->(∀v∈key,VvK v)->ztF p X i key m=ztF p Y i key m):X=Y:=by
 have key: ∀(i:Nat)(hi:i<p.pk.length)(hr:i<X.pg.length)(hl:i<X.pQ.length)(hr':i<Y.pg.length)(hl':i<Y.pQ.length),X.pg[i]=Y.pg[i]/\X.pQ[i]=Y.pQ[i]:=fun i hi hr hl hr' hl'=>by
  obtain⟨x1,x2,x3⟩:=hX.at' i hi hr hl;obtain⟨y1,y2,y3⟩:=hY.at' i hi hr' hl';cases hb:p.pk[i].base with
  |false=>exact⟨(x1 hb).1.trans (y1 hb).1.symm,(x1 hb).2.trans (y1 hb).2.symm⟩
  | true=>
   obtain⟨hfm, -, -⟩:=(ze0 p hp hle).2 hX.tv;have hpf:=hfm.p _ (Qc hi);by_cases hof:p.pk[i].of'= -1
   ·obtain⟨a1,a2,a3⟩:=x3 hb hof;obtain⟨b1,b2,b3⟩:=y3 hb hof;refine⟨CanL.uniq a2.1 b2.1 fun t=> ?_,a1.trans b1.symm⟩;by_cases ht:ArgX p.pk[i].types t
    ·refine Ja fun m=> ?_;by_cases hm:m<64
     ·have hkl:((t.take p.pk[i].key.toNat).length:Int)=p.pk[i].key:=by
       have:=ht.1;obtain⟨q0,q1, -⟩:=hpf;rw[Xk];omega
      have e:=h i (t.take p.pk[i].key.toNat) m hm fun v hv=>ht.vv v (Zk hv);rw[zf7 hX hi hr hl hb hof hkl,zf7 hY hi hr' hl' hb hof hkl] at e;have e2:(zjH p.pk[i].key.toNat (t.take p.pk[i].key.toNat) m X.pg[i]).map (·.args)=(zjH p.pk[i].key.toNat (t.take p.pk[i].key.toNat) m Y.pg[i]).map (·.args):=by
       revert e;generalize (zjH p.pk[i].key.toNat (t.take p.pk[i].key.toNat) (m:Int) X.pg[i]).map (·.args)=a;generalize (zjH p.pk[i].key.toNat (t.take p.pk[i].key.toNat) (m:Int) Y.pg[i]).map (·.args)=b;cases a<;>cases b<;>simp[faT]
      have c1:=fH (k:=p.pk[i].key.toNat) (key:=t.take p.pk[i].key.toNat) hm a2.1 a3 t;have c2:=fH (k:=p.pk[i].key.toNat) (key:=t.take p.pk[i].key.toNat) hm b2.1 b3 t;rw[e2,c2] at c1;rw[Jo];exact⟨fun q=>(c1.2 ⟨rfl,q⟩).2,fun q=>(c1.1 ⟨rfl,q⟩).2⟩
     ·have hpw:(2:Nat) ^ 64<=2 ^ m:=Yy Qf0 Qf0;rw[Jp (Yf (zoW _ _) hpw),Jp (Yf (zoW _ _) hpw)]
    ·rw[bL (fun x hx e=>ht (by rw[<-e];exact a2.2 x hx)),bL (fun x hx e=>ht (by rw[<-e];exact b2.2 x hx))]
   ·obtain⟨-,ht0⟩:=znP hp hle hX.tv;obtain⟨-,t1,t2⟩:=ht0 _ (Qc hi);have hol:p.pk[i].of'.toNat<p.pQ.length:=Qf0;have a2:=(x2 hb hof).2 hol;have b2:=(y2 hb hof).2 hol;refine⟨(x2 hb hof).1.trans (y2 hb hof).1.symm,CelX.uniq a2 b2 fun t=> ?_⟩;by_cases ht:ArgX p.pk[i].types t
    ·have g1:=znA a2 t;have g2:=znA b2 t;refine zyW g1.1 g2.1 fun m hm=> ?_;have hkl:(t.length:Int)=p.pk[i].key:=by
      have:=ht.1;have:=zsQ p hp hle hX.tv _ (Qc hi) hof;omega
     have e:=h i t m hm ht.vv;rw[zjD hX hi hr hl hb hof hol hkl,zjD hY hi hr' hl' hb hof hol hkl,ztL a2 ht hm,ztL b2 ht hm] at e;have n1:=znB (hp.l _ (Qc hol)) a2.1 g1 hm;have n2:=znB (hp.l _ (Qc hol)) b2.1 g2 hm;generalize (eF p.pQ[p.pk[i].of'.toNat] X.pQ[i] t).getD m 0=a at*;generalize (eF p.pQ[p.pk[i].of'.toNat] Y.pQ[i] t).getD m 0=b at*;generalize oU p.pQ[p.pk[i].of'.toNat]=z at*;by_cases qa:a= -1\/a=z
     ·rw[Qj qa] at e;by_cases qb:b= -1\/b=z
      ·omega
      ·rw[Qi qb] at e;cases e
     ·rw[Qi qa] at e;by_cases qb:b= -1\/b=z
      ·rw[Qj qb] at e;cases e
      ·rw[Qi qb] at e;injection e with e;injection e
    ·rw[mR (fun x hx e=>ht (by rw[<-e];exact a2.2.1 x hx)),mR (fun x hx e=>ht (by rw[<-e];exact b2.2.1 x hx))]
 obtain⟨xr,xl⟩:=X;obtain⟨yr,yl⟩:=Y;have l1:xr.length=p.pk.length:=hX.rl;have l2:xl.length=p.pk.length:=hX.ll;have l3:yr.length=p.pk.length:=hY.rl;have l4:yl.length=p.pk.length:=hY.ll;dsimp only at key;congr 1
 ·exact Zc Qf0 fun i h1 h2=>(key i Qf0 Qf0 Qf0 Qf0 Qf0).1
 ·exact Zc Qf0 fun i h1 h2=>(key i Qf0 Qf0 Qf0 Qf0 Qf0).2
end Go.AL
namespace Go.AL
open Go.Proofs Go.Proofs.Tryz
open Classical in
structure MoK(p:Pg)(d x:Dt)(o:Op1)(i:Nat)(own:List Vl)(m:Nat):Prop where
 tell:o.kind=1->xT o.span m=true->ztF p x i own m=some ⟨i,o.args,o.elem⟩
 forget:o.kind=2->xT o.span m=true->ztF p x i own m=(ztF p d i own m).bind fun f=>if f.args=o.args then none else some f
 rest: ∀(pred:Int)(key:List Vl),(∀v∈key,VIn v)-> ¬(pred=i/\key=own/\xT o.span m=true)->ztF p x pred key m=ztF p d pred key m
theorem zc3{p:Pg}{d:Dt}{pred:Int}{key:List Vl}{m:Int}(h:pred<0\/(p.pk.length:Int)<=pred):ztF p d pred key m=none:=by
 unfold ztF;rw[Qj (.inr h)]
theorem znW{p:Pg}(hp:p.ok)(hle:p.sm){d:Dt}(hX:DatX p d){o:Op1}{i:Nat}(ho:OpX p o i)(he1:(p.pk[i]'ho.hi).of'= -1->o.elem= -1)(he2: ∀k:(p.pk[i]'ho.hi).of'.toNat<p.pQ.length,0<=(p.pk[i]'ho.hi).of'->o.elem≠oU p.pQ[(p.pk[i]'ho.hi).of'.toNat]){m:Nat}(hm:m<64):
  MoK p d (zl0 p d o) o i (o.args.take (p.pk[i]'ho.hi).key.toNat) m:=by
 have hi:=ho.hi;have hir:i<d.pg.length:=Qgl;have hil:i<d.pQ.length:=Qgm;have hX':=hX.op hp ho;have hir':i<(zl0 p d o).pg.length:=by rw[hX'.rl];exact hi
 have hil':i<(zl0 p d o).pQ.length:=by rw[hX'.ll];exact hi
 have k0:=ho.k0;have k1:=ho.k1;have hal:=ho.ax.1;have hb:=ho.b;have hown:((o.args.take p.pk[i].key.toNat).length:Int)=p.pk[i].key:=Qfq;have hoth: ∀(j:Nat)(hj:j<p.pk.length)(hji:j≠i)(key:List Vl)(m:Int),ztF p (zl0 p d o) j key m=ztF p d j key m:=fun j hj hji key m=>by
  have hjr:j<d.pg.length:=by rw[hX.rl];exact hj
  have hjl:j<d.pQ.length:=by rw[hX.ll];exact hj
  have hjr':j<(zl0 p d o).pg.length:=by rw[hX'.rl];exact hj
  have hjl':j<(zl0 p d o).pQ.length:=by rw[hX'.ll];exact hj
  rw[ztN hX' hj hjr' hjl',ztN hX hj hjr hjl];by_cases hof:p.pk[i].of'= -1
  ·have e:=zo7 (d:=d) ho.hoi hi hir hof;have e1:(zl0 p d o).pg[j]=d.pg[j]:=by simp only[e,Uq (Ne.symm hji)]
   have e2:(zl0 p d o).pQ[j]=d.pQ[j]:=by simp only[e]
   rw[e1,e2]
  ·have hol:p.pk[i].of'.toNat<p.pQ.length:=Qgj;have e:=zo8 (d:=d) ho.hoi hi hil hof hol;have e1:(zl0 p d o).pg[j]=d.pg[j]:=by simp only[e]
   have e2:(zl0 p d o).pQ[j]=d.pQ[j]:=by simp only[e,Uq (Ne.symm hji)]
   rw[e1,e2]
 have hrest:(∀key:List Vl,(∀v∈key,VIn v)->(key.length:Int)=p.pk[i].key-> ¬(key=o.args.take p.pk[i].key.toNat/\xT o.span m=true)->ztF p (zl0 p d o) i key m=ztF p d i key m)->
   ∀(pred:Int)(key:List Vl),(∀v∈key,VIn v)-> ¬(pred=i/\key=o.args.take p.pk[i].key.toNat/\xT o.span m=true)->ztF p (zl0 p d o) pred key m=ztF p d pred key m:=fun hs pred key hv hn=>by
  by_cases h1:pred<0\/(p.pk.length:Int)<=pred
  ·rw[zc3 h1,zc3 h1]
  obtain⟨j,rfl⟩:=Qm (show 0<=pred by omega);by_cases hji:j=i
  ·subst hji;by_cases hkl:(key.length:Int)=p.pk[j].key
   ·exact hs key hv hkl fun q=>hn ⟨rfl,q⟩
   ·rw[znT hX' hi hir' hil' (.inr hkl),znT hX hi hir hil (.inr hkl)]
  ·exact hoth j Qf0 hji key m
 by_cases hof:p.pk[i].of'= -1
 ·have e:=zo7 (d:=d) ho.hoi hi hir hof;have e1:(zl0 p d o).pg[i]=zaL p.pk[i] d.pg[i] o:=by simp only[e,Km]
  obtain⟨-,hR,hK⟩:=(hX.at' i hi hir hil).2.2 hb hof;obtain⟨-,hR',hK'⟩:=(hX'.at' i hi hir' hil').2.2 hb hof;have hL:=fun (key:List Vl) (hkl:(key.length:Int)=p.pk[i].key)=>zf7 hX hi hir hil hb hof hkl (m:Int);have hL':=fun (key:List Vl) (hkl:(key.length:Int)=p.pk[i].key)=>zf7 hX' hi hir' hil' hb hof hkl (m:Int);have hC:=fun key t=>fH (k:=p.pk[i].key.toNat) (key:=key) hm hR.1 hK t;have hC':=fun key t=>fH (k:=p.pk[i].key.toNat) (key:=key) hm hR'.1 hK' t;have hbit: ∀t,(yH (zl0 p d o).pg[i] t).testBit m=if xT o.span m=true then(if o.args=t then decide (o.kind=1) else if o.kind=1/\t.take p.pk[i].key.toNat=o.args.take p.pk[i].key.toNat then false else(yH d.pg[i] t).testBit m) else(yH d.pg[i] t).testBit m:=fun t=>by
   rw[e1,(tD (q:=p.pk[i]) (o:=o) hR.1 ho.s).2 t,sU (zoW _ _)]
  refine⟨fun hk hh=> ?_,fun hk hh=> ?_,hrest fun key hv hkl hn=> ?_⟩
  ·rw[hL' _ hown,(hC' _ o.args).2 ⟨rfl,by rw[hbit,Qj hh,Qj rfl,Yz hk]⟩];show some (⟨i,o.args, -1⟩:Fa)=_;rw[he1 hof]
  ·rw[hL' _ hown,hL _ hown];have hnew: ∀t,(zjH p.pk[i].key.toNat (o.args.take p.pk[i].key.toNat) m (zl0 p d o).pg[i]).map (·.args)=some t↔(zjH p.pk[i].key.toNat (o.args.take p.pk[i].key.toNat) m d.pg[i]).map (·.args)=some t/\t≠o.args:=fun t=>by
    rw[hC',hC,hbit,Qj hh];by_cases q:o.args=t
    ·rw[Qj q,Zy Qf0];exact⟨fun w=>Bool.noConfusion w.2,fun w=>absurd q.symm w.2⟩
    ·rw[Qi q,Qi (fun w=>by omega)];exact⟨fun w=>⟨w,fun e=>q e.symm⟩,fun w=>w.1⟩
   generalize (zjH p.pk[i].key.toNat (o.args.take p.pk[i].key.toNat) m (zl0 p d o).pg[i]).map (·.args)=a at*;generalize (zjH p.pk[i].key.toNat (o.args.take p.pk[i].key.toNat) m d.pg[i]).map (·.args)=b at*;cases b with
   |none=>
    cases a with
    |none=>rfl
    |some t=>exact absurd ((hnew t).1 rfl).1 Qf1
   | some t=>
    show faT i a=if t=o.args then none else some ⟨i,t, -1⟩
    by_cases q:t=o.args
    ·rw[Qj q];cases a with
     |none=>rfl
     |some s=>
      obtain⟨w1,w2⟩:=(hnew s).1 rfl;injection w1 with w1;exact absurd (w1.symm.trans q) w2
    ·rw[Qi q,(hnew t).2 ⟨rfl,q⟩];rfl
  ·rw[hL' _ hkl,hL _ hkl];congr 1;refine zm6 fun t=> ?_;rw[hC',hC,hbit];by_cases hh:xT o.span m=true
   ·rw[Qj hh];have hko:key≠o.args.take p.pk[i].key.toNat:=fun q=>hn ⟨q,hh⟩;constructor
    ·rintro⟨w1,w2⟩;rw[Qi (fun q=>hko (by rw[<-w1,<-q])),Qi (fun q=>hko (by rw[<-w1,q.2]))] at w2;exact⟨w1,w2⟩
    ·rintro⟨w1,w2⟩;rw[Qi (fun q=>hko (by rw[<-w1,<-q])),Qi (fun q=>hko (by rw[<-w1,q.2]))];exact⟨w1,w2⟩
   ·rw[Qi hh]
 ·have hol:p.pk[i].of'.toNat<p.pQ.length:=Qgj;have h0o:0<=p.pk[i].of':=Qgj;have e:=zo8 (d:=d) ho.hoi hi hil hof hol;have e1:(zl0 p d o).pQ[i]=zcQ p.pQ[p.pk[i].of'.toNat] d.pQ[i] o:=by simp only[e,Km]
  have hc:=((hX.at' i hi hir hil).2.1 hb hof).2 hol;have hc':=((hX'.at' i hi hir' hil').2.1 hb hof).2 hol;have hkt:o.args.take p.pk[i].key.toNat=o.args:=Yo (by have:=zsQ p hp hle hX.tv _ (Qc hi) hof;omega);have hL:=fun (key:List Vl) (hkl:(key.length:Int)=p.pk[i].key)=>zjD hX hi hir hil hb hof hol hkl (m:Int);have hL':=fun (key:List Vl) (hkl:(key.length:Int)=p.pk[i].key)=>zjD hX' hi hir' hil' hb hof hol hkl (m:Int);have hlo:=hp.l _ (Qc hol);have hbe:=zuK hlo hc.1;have hel:=ho.el hol h0o;have hen:=he2 hol h0o;rw[hkt] at hown hrest ⊢
  have hax:=ho.ax;obtain⟨v,hv⟩: ∃v,(if o.kind=1 then o.elem else oU p.pQ[p.pk[i].of'.toNat])=v:=⟨_,rfl⟩
  have hvB:ze7 p.pQ[p.pk[i].of'.toNat] v=true:=by rw[<-hv];split;exact hel;exact hbe
  have hvG:ze9 p.pQ[p.pk[i].of'.toNat] v:=zp4 hlo hc.1 hvB;have hsp:=yK hc hax o.span.a o.span.b hvG;have e2:(zl0 p d o).pQ[i]=aV p.pQ[p.pk[i].of'.toNat] d.pQ[i] o.args o.span.a o.span.b v:=by rw[e1,<-hv];rfl
  have hG: ∀key,ArgX p.pk[i].types key->cL p.pQ[p.pk[i].of'.toNat] (zl0 p d o).pQ[i] key m=if key=o.args/\xT o.span m=true then v else cL p.pQ[p.pk[i].of'.toNat] d.pQ[i] key m:=fun key hk=>by
   rw[ztL hc' hk hm,ztL hc hk hm,e2,hsp.2 key];by_cases q:key=o.args
   ·rw[Qj q,zm3 hm hvB];by_cases hh:xT o.span m=true
    ·rw[Qj (show key=o.args/\xT o.span m=true from⟨q,hh⟩),Qj (show o.span.a<=(m:Int)/\(m:Int)<o.span.b by rw[gQ hm] at hh;simpa using hh)]
    ·rw[Qi (fun w:key=o.args/\xT o.span m=true=>hh w.2),Qi (fun w:o.span.a<=(m:Int)/\(m:Int)<o.span.b=>hh (by rw[gQ hm];simpa using w)),q]
   ·rw[Qi q,Qi (fun w=>q w.1)]
  refine⟨fun hk hh=> ?_,fun hk hh=> ?_,hrest fun key hv' hkl hn=> ?_⟩
  ·rw[hL' _ hown,hG _ hax,Qj (show o.args=o.args/\xT o.span m=true from⟨rfl,hh⟩),<-hv,Qj hk,Qi];rintro (q|q)
   ·unfold ze7 at hel;have:=Xj hel;omega
   ·exact hen q
  ·rw[hL' _ hown,hG _ hax,Qj (show o.args=o.args/\xT o.span m=true from⟨rfl,hh⟩),<-hv,Qi (show ¬o.kind=1 by omega),Qj (.inr rfl),hL _ hown];split
   ·rfl
   ·show none=if o.args=o.args then none else _
    rw[Qj rfl]
  ·rw[hL' _ hkl,hL _ hkl];by_cases q:ArgX p.pk[i].types key
   ·rw[hG _ q,Qi hn]
   ·rw[zbH hc' hv' q hm,zbH hc hv' q hm]
end Go.AL
namespace Go.AL
open Go.Proofs Go.Proofs.Tryz
structure FcX(p:Pg)(i:Nat)(key:List Vl)(g:Fa):Prop where
 hi:i<p.pk.length
 pr:g.pred=i
 b:p.pk[i].base=true
 ax:ArgX p.pk[i].types g.args
 ky:g.args.take p.pk[i].key.toNat=key
 e1:p.pk[i].of'= -1->g.elem= -1
 e2: ∀k:p.pk[i].of'.toNat<p.pQ.length,0<=p.pk[i].of'->ze7 p.pQ[p.pk[i].of'.toNat] g.elem=true/\g.elem≠oU p.pQ[p.pk[i].of'.toNat]
def zz7(g:Fa)(m:Nat):Op1:=⟨1,g.pred,g.args,g.elem,⟨m,(m:Int)+1⟩⟩
theorem FcX.op{p:Pg}(hp:p.ok)(hle:p.sm){X:Dt}(hX:DatX p X){i:Nat}{key:List Vl}{g:Fa}(h:FcX p i key g){m:Nat}(hm:m<64):OpX p (zz7 g m) i:=by
 obtain⟨hfm, -, -⟩:=(ze0 p hp hle).2 hX.tv;obtain⟨q0,q1, -⟩:=hfm.p _ (Qc h.hi);obtain⟨-,ht0⟩:=znP hp hle hX.tv;obtain⟨t0,t1,t2⟩:=ht0 _ (Qc h.hi);refine⟨h.hi,h.pr,⟨t2,t1⟩,t0,q0,q1,h.ax,fun k k0=>(h.e2 k k0).1,h.b,?_,.inl rfl⟩;exact⟨Int.natCast_nonneg m,by show(m:Int)<(m:Int)+1;omega,by show(m:Int)+1<=64;omega⟩
theorem zxR{m k:Nat}(hm:m<64):xT ⟨m,(m:Int)+1⟩ k=decide (k=m):=by
 unfold xT;rw[Jo,Wz,Wz];dsimp only;omega
theorem ybA{p:Pg}(hp:p.ok)(hle:p.sm){X:Dt}(hX:DatX p X){i:Nat}{key:List Vl}{g:Fa}(h:FcX p i key g){m:Nat}(hm:m<64):
  DatX p (zl0 p X (zz7 g m))/\ ∀(j:Int)(key':List Vl)(m':Nat),m'<64->(∀v∈key',VIn v)->ztF p (zl0 p X (zz7 g m)) j key' m'=if j=i/\key'=key/\m'=m then some g else ztF p X j key' m':=by
 have ho:=h.op hp hle hX hm;refine⟨hX.op hp ho,fun j key' m' hm' hv=> ?_⟩;have hM:=znW hp hle hX ho h.e1 (fun k k0=>(h.e2 k k0).2) hm';rw[show(zz7 g m).args=g.args from rfl,h.ky] at hM;have hh:xT (zz7 g m).span m'=decide (m'=m):=zxR hm;by_cases q:j=i/\key'=key/\m'=m
 ·obtain⟨rfl,rfl,rfl⟩:=q;rw[Qj ⟨rfl,rfl,rfl⟩,hM.tell rfl (by rw[hh];simp)];obtain⟨gp,ga,ge⟩:=g;have:=h.pr;dsimp only at this;subst this;rfl
 ·rw[Qi q];exact hM.rest j key' hv fun w=>q ⟨w.1,w.2.1,by have:=w.2.2;rw[hh] at this;simpa using this⟩
theorem zx9{k:Nat}{z:List Rw}{args:List Vl}{s:Sp}(hc:CanL z)(hs:s.good)(hN:NoR k z args s):bA k z args s=zoB z args s:=by
 obtain⟨a1,a2, -⟩:=pM (k:=k) (args:=args) hs z z hc;have:wM k args s z z=z:=by
  refine CanL.uniq a1 hc fun t=> ?_;rw[a2 t];split
  ·rename_i q;refine Ja fun m=> ?_;rw[zn3 (zoI s),zqY];by_cases hh:xT s m=true
   ·rw[hN t q.2 m hh];simp
   ·have:xT s m=false:=by simpa using hh
    rw[this];by_cases hm:m<64
    ·simp[hm]
    ·have hpw:(2:Nat) ^ 64<=2 ^ m:=Yy Qf0 Qf0;rw[Jp (Yf (zoW _ _) hpw)];simp
  ·rfl
 unfold bA;rw[this]
noncomputable def iZ(p:Pg)(f:Nat->Option Fa):Nat->Dt->Dt
 |0,X=>X
 |m+1,X=>match f m with
  |none=>iZ p f m X
  |some g=>zl0 p (iZ p f m X) (zz7 g m)
theorem zmE{p:Pg}(hp:p.ok)(hle:p.sm){X:Dt}(hX:DatX p X){i:Nat}{key:List Vl}{f:Nat->Option Fa}(hf: ∀m g,m<64->f m=some g->FcX p i key g): ∀n:Nat,n<=64->
  DatX p (iZ p f n X)/\ ∀(j:Int)(key':List Vl)(m':Nat),m'<64->(∀v∈key',VIn v)->ztF p (iZ p f n X) j key' m'=if j=i/\key'=key/\m'<n/\(f m').isSome=true then f m' else ztF p X j key' m'
 |0,_=>⟨hX,fun j key' m' _ _=>by rw[Qi (fun w=>by have:=w.2.2.1;omega)];rfl⟩
 | n +1,hn=>by
  obtain⟨h1,h2⟩:=zmE hp hle hX hf n Qf0;unfold iZ;cases hfn:f n with
  | none=>
   refine⟨h1,fun j key' m' hm' hv=> ?_⟩;dsimp only;rw[h2 j key' m' hm' hv];by_cases q:j=i/\key'=key/\m'<n/\(f m').isSome=true
   ·rw[Qj q,Qj ⟨q.1,q.2.1,by have:=q.2.2.1;omega,q.2.2.2⟩]
   ·rw[Qi q,Qi fun w=> ?_];obtain⟨w1,w2,w3,w4⟩:=w;by_cases e:m'=n
    ·rw[e,hfn] at w4;cases w4
    ·exact q ⟨w1,w2,Qf0,w4⟩
  | some g=>
   obtain⟨k1,k2⟩:=ybA hp hle h1 (hf n g Qf0 hfn) (m:=n) Qf0;refine⟨k1,fun j key' m' hm' hv=> ?_⟩;dsimp only;rw[k2 j key' m' hm' hv,h2 j key' m' hm' hv];by_cases e:j=i/\key'=key/\m'=n
   ·obtain⟨rfl,rfl,rfl⟩:=e;rw[Qj ⟨rfl,rfl,rfl⟩,Qj ⟨rfl,rfl,Qf0,by rw[hfn];rfl⟩,hfn]
   ·rw[Qi e];by_cases q:j=i/\key'=key/\m'<n/\(f m').isSome=true
    ·rw[Qj q,Qj ⟨q.1,q.2.1,by have:=q.2.2.1;omega,q.2.2.2⟩]
    ·rw[Qi q,Qi fun w=> ?_];obtain⟨w1,w2,w3,w4⟩:=w;exact q ⟨w1,w2,by have:m'≠n:=fun e'=>e ⟨w1,w2,e'⟩;omega,w4⟩
noncomputable def zcZ(p:Pg)(F:List Vl->Nat->Option Fa):List (List Vl)->Dt->Dt
 | [],X=>X
 |key::ks,X=>zcZ p F ks (iZ p (F key) 64 X)
theorem ziY{p:Pg}(hp:p.ok)(hle:p.sm){i:Nat}{F:List Vl->Nat->Option Fa}: ∀(ks:List (List Vl))(X:Dt),DatX p X->(∀key∈ks, ∀m g,m<64->F key m=some g->FcX p i key g)->
  DatX p (zcZ p F ks X)/\ ∀(j:Int)(key':List Vl)(m':Nat),m'<64->(∀v∈key',VIn v)->ztF p (zcZ p F ks X) j key' m'=if j=i/\key'∈ks/\(F key' m').isSome=true then F key' m' else ztF p X j key' m'
 | [],X,hX,_=>⟨hX,fun j key' m' _ _=>by rw[Qi (fun w=>by cases w.2.1)];rfl⟩
 | key::ks,X,hX,hF=>by
  obtain⟨h1,h2⟩:=zmE hp hle hX (hF key (Qe ..)) 64 (Xe _);obtain⟨h3,h4⟩:=ziY hp hle ks _ h1 fun k hk=>hF k (Qf _ hk);refine⟨h3,fun j key' m' hm' hv=> ?_⟩;show ztF p (zcZ p F ks (iZ p (F key) 64 X)) j key' m'=_;rw[h4 j key' m' hm' hv,h2 j key' m' hm' hv];by_cases q:j=i/\key'∈ks/\(F key' m').isSome=true
  ·rw[Qj q,Qj ⟨q.1,Qf _ q.2.1,q.2.2⟩]
  ·rw[Qi q];by_cases e:j=i/\key'=key/\m'<64/\(F key m').isSome=true
   ·obtain⟨rfl,rfl,e3,e4⟩:=e;rw[Qj ⟨rfl,rfl,e3,e4⟩,Qj ⟨rfl,Qe ..,e4⟩]
   ·rw[Qi e,Qi fun w=> ?_];obtain⟨w1,w2,w3⟩:=w;rcases Qw.1 w2 with rfl|w2
    ·exact e ⟨w1,rfl,hm',w3⟩
    ·exact q ⟨w1,w2,w3⟩
noncomputable def jI(p:Pg)(F:Nat->List Vl->Nat->Option Fa)(ks:Nat->List (List Vl)):Nat->Dt->Dt
 |0,X=>X
 |i+1,X=>if (p.pk.getD i zuW).base=true then zcZ p (F i) (ks i) (jI p F ks i X) else jI p F ks i X
theorem zwL{p:Pg}(hp:p.ok)(hle:p.sm){F:Nat->List Vl->Nat->Option Fa}{ks:Nat->List (List Vl)}{X:Dt}(hX:DatX p X): ∀n:Nat,n<=p.pk.length->(∀i,i<n-> ∀key∈ks i, ∀m g,m<64->F i key m=some g->FcX p i key g)->
  DatX p (jI p F ks n X)/\ ∀(j:Nat)(key':List Vl)(m':Nat),m'<64->(∀v∈key',VIn v)->ztF p (jI p F ks n X) j key' m'=if j<n/\(p.pk.getD j zuW).base=true/\key'∈ks j/\(F j key' m').isSome=true then F j key' m' else ztF p X j key' m'
 |0,_,_=>⟨hX,fun j key' m' _ _=>by rw[Qi (fun w=>by have:=w.1;omega)];rfl⟩
 | n +1,hn,hF=>by
  obtain⟨h1,h2⟩:=zwL hp hle hX n Qf0 fun i hi=>hF i Qf0;unfold jI;by_cases hb:(p.pk.getD n zuW).base=true
  ·rw[Qj hb];obtain⟨h3,h4⟩:=ziY hp hle (ks n) _ h1 (hF n Qf0);refine⟨h3,fun j key' m' hm' hv=> ?_⟩;rw[h4 j key' m' hm' hv,h2 j key' m' hm' hv];by_cases e:(j:Int)=n/\key'∈ks n/\(F n key' m').isSome=true
   ·obtain⟨e1,e2,e3⟩:=e;obtain rfl:j=n:=Qf0;rw[Qj ⟨rfl,e2,e3⟩,Qj ⟨Qf0,hb,e2,e3⟩]
   ·rw[Qi e];by_cases q:j<n/\(p.pk.getD j zuW).base=true/\key'∈ks j/\(F j key' m').isSome=true
    ·rw[Qj q,Qj ⟨Qf0,q.2⟩]
    ·rw[Qi q,Qi fun w=> ?_];obtain⟨w1,w2,w3,w4⟩:=w;by_cases ej:j=n
     ·subst ej;exact e ⟨rfl,w3,w4⟩
     ·exact q ⟨Qf0,w2,w3,w4⟩
  ·rw[Qi hb];refine⟨h1,fun j key' m' hm' hv=> ?_⟩;rw[h2 j key' m' hm' hv];by_cases q:j<n/\(p.pk.getD j zuW).base=true/\key'∈ks j/\(F j key' m').isSome=true
   ·rw[Qj q,Qj ⟨Qf0,q.2⟩]
   ·rw[Qi q,Qi fun w=> ?_];obtain⟨w1,w2,w3,w4⟩:=w;by_cases ej:j=n
    ·subst ej;exact hb w2
    ·exact q ⟨Qf0,w2,w3,w4⟩
theorem zu9{p:Pg}(hp:p.ok)(hle:p.sm){d:Dt}(hX:DatX p d){i:Nat}{key:List Vl}{m:Nat}{g:Fa}(hm:m<64)(hv: ∀v∈key,VIn v)(h:ztF p d i key m=some g):FcX p i key g:=by
 by_cases hi:i<p.pk.length
 case neg=>rw[zc3 (.inr Qf0)] at h;cases h
 have hir:i<d.pg.length:=Qgl;have hil:i<d.pQ.length:=Qgm;by_cases hb:p.pk[i].base=true
 case neg=>rw[znT hX hi hir hil (.inl (by simpa using hb))] at h;cases h
 by_cases hkl:(key.length:Int)=p.pk[i].key
 case neg=>rw[znT hX hi hir hil (.inr hkl)] at h;cases h
 obtain⟨x1,x2,x3⟩:=hX.at' i hi hir hil;by_cases hof:p.pk[i].of'= -1
 ·rw[zf7 hX hi hir hil hb hof hkl] at h;cases hr:zjH p.pk[i].key.toNat key m d.pg[i] with
  |none=>rw[hr] at h;cases h
  |some x=>
   rw[hr] at h;injection h with h;subst h;obtain⟨a1,a2, -⟩:=x3 hb hof;obtain⟨r1,r2, -⟩:=zsS hr;exact⟨hi,rfl,hb,(x3 hb hof).2.1.2 x r1,r2,fun _=>rfl,fun k k0=>by omega⟩
 ·obtain⟨-,ht0⟩:=znP hp hle hX.tv;obtain⟨-,t1,t2⟩:=ht0 _ (Qc hi);have hol:p.pk[i].of'.toNat<p.pQ.length:=Qf0;have hc:=(x2 hb hof).2 hol;rw[zjD hX hi hir hil hb hof hol hkl] at h;split at h
  ·cases h
  rename_i q;injection h with h;subst h;have hax:ArgX p.pk[i].types key:=Yv fun w=>q (.inr (zbH hc hv w hm));rw[ztL hc hax hm] at q;have hg:=znB (hp.l _ (Qc hol)) hc.1 (znA hc key) hm;refine⟨hi,rfl,hb,hax,Yo (show key.length<=_ by omega),fun w=>absurd w hof,fun k k0=> ?_⟩;dsimp only;rw[ztL hc hax hm];exact⟨by unfold ze7;exact Yz hg,fun w=>q (.inr w)⟩
def zaH(p:Pg)(d:Dt)(i:Nat):List (List Vl):=(d.pg.getD i []).map (fun x=>x.args.take (p.pk.getD i zuW).key.toNat)++(d.pQ.getD i []).map fun x=>x.args.take (p.pk.getD i zuW).key.toNat
theorem zzA{p:Pg}(hp:p.ok)(hle:p.sm){d:Dt}(hX:DatX p d){i:Nat}{key:List Vl}{m:Nat}{g:Fa}(hm:m<64)(hv: ∀v∈key,VIn v)(h:ztF p d i key m=some g):key∈zaH p d i:=by
 have hF:=zu9 hp hle hX hm hv h;have hi:=hF.hi;have hb:=hF.b;have hir:i<d.pg.length:=Qgl;have hil:i<d.pQ.length:=Qgm;unfold zaH;rw[eD hi,eD hir,eD hil,Qo];by_cases hkl:(key.length:Int)=p.pk[i].key
 case neg=>rw[znT hX hi hir hil (.inr hkl)] at h;cases h
 obtain⟨x1,x2,x3⟩:=hX.at' i hi hir hil;by_cases hof:p.pk[i].of'= -1
 ·rw[zf7 hX hi hir hil hb hof hkl] at h;cases hr:zjH p.pk[i].key.toNat key m d.pg[i] with
  |none=>rw[hr] at h;cases h
  |some x=>
   obtain⟨r1,r2, -⟩:=zsS hr;exact .inl (Xf.2 ⟨x,r1,r2⟩)
 ·obtain⟨-,ht0⟩:=znP hp hle hX.tv;obtain⟨-,t1,t2⟩:=ht0 _ (Qc hi);have hol:p.pk[i].of'.toNat<p.pQ.length:=Qf0;have hc:=(x2 hb hof).2 hol;rw[zjD hX hi hir hil hb hof hol hkl] at h;split at h
  ·cases h
  rename_i q;refine .inr (Yv fun w=>q (.inr ?_));have hax:ArgX p.pk[i].types key:=Yv fun w=>q (.inr (zbH hc hv w hm));rw[ztL hc hax hm,mR (fun x hx e=>w (Xf.2 ⟨x,hx,by rw[e];exact Yo Qf0⟩)),ziB hm]
theorem lkE{p:Pg}(i:Int)(key:List Vl)(m:Nat):ztF p (zq4 p) i key m=none:=by
 by_cases h1:i<0\/(p.pk.length:Int)<=i
 ·exact zc3 h1
 obtain⟨j,rfl⟩:=Qm (show 0<=i by omega);have hj:j<p.pk.length:=Qf0;by_cases hX:ze8 (DatX p (zq4 p))=true
 ·have hX:=zoX.1 hX;have hir:j<(zq4 p).pg.length:=by rw[hX.rl];exact hj
  have hil:j<(zq4 p).pQ.length:=by rw[hX.ll];exact hj
  rw[ztN hX hj hir hil];have e1:(zq4 p).pg[j]=[]:=Ud ..;have e2:(zq4 p).pQ[j]=[]:=Ud ..;rw[e1,e2];unfold ydT;split
  ·rfl
  ·split
   ·rw[Qj];unfold cL;split
    ·right;rename_i w;have:m<64:=Qf0;rw[Xw,zm8 (by intro q;cases q),ziB this]
    ·exact .inl rfl
   ·rfl
 ·unfold ztF;rw[Qj (.inl (by simpa using hX))]
noncomputable def lL(b o t:Option Fa):Option Fa:=if ze8 (o≠t/\o=b)=true then t else o
theorem zsD(b o t:Option Fa):lL b o t=o\/lL b o t=t:=by
 unfold lL;split
 ·exact .inr rfl
 ·exact .inl rfl
noncomputable def zhB(p:Pg)(b o t:Dt)(ks:Nat->List (List Vl)):Dt:=jI p (fun i key m=>lL (ztF p b i key m) (ztF p o i key m) (ztF p t i key m)) ks p.pk.length (zq4 p)
theorem zx7{p:Pg}(hp:p.ok)(hle:p.sm){b o t:Dt}(hE:DatX p (zq4 p))(hO:DatX p o)(hT:DatX p t){ks:Nat->List (List Vl)}(hks: ∀i, ∀key∈ks i, ∀v∈key,VIn v)
  (hko: ∀i, ∀key∈zaH p o i,key∈ks i) (hkt: ∀i, ∀key∈zaH p t i,key∈ks i):
  DatX p (zhB p b o t ks)/\ ∀(j:Nat)(key:List Vl)(m:Nat),m<64->(∀v∈key,VIn v)->ztF p (zhB p b o t ks) j key m=lL (ztF p b j key m) (ztF p o j key m) (ztF p t j key m):=by
 obtain⟨h1,h2⟩:=zwL hp hle (F:=fun i key m=>lL (ztF p b i key m) (ztF p o i key m) (ztF p t i key m)) (ks:=ks) hE p.pk.length (Xe _) (fun i _ key hk m g hm hg=>by
  rcases zsD (ztF p b i key m) (ztF p o i key m) (ztF p t i key m) with e|e
  ·rw[e] at hg;exact zu9 hp hle hO hm (hks i key hk) hg
  ·rw[e] at hg;exact zu9 hp hle hT hm (hks i key hk) hg)
 refine⟨h1,fun j key m hm hv=> ?_⟩;unfold zhB;rw[h2 j key m hm hv,lkE];cases hc:lL (ztF p b j key m) (ztF p o j key m) (ztF p t j key m) with
 |none=>rw[Qi (fun w=>by cases w.2.2.2)]
 | some g=>
  rw[Qj];have hs:ztF p o j key m=some g\/ztF p t j key m=some g:=by
   rcases zsD (ztF p b j key m) (ztF p o j key m) (ztF p t j key m) with e|e
   ·exact .inl (e.symm.trans hc)
   ·exact .inr (e.symm.trans hc)
  have hF:FcX p j key g:=by rcases hs with e|e;exact zu9 hp hle hO hm hv e;exact zu9 hp hle hT hm hv e
  refine⟨hF.hi,by rw[eD hF.hi];exact hF.b,?_,rfl⟩;rcases hs with e|e
  ·exact hko j key (zzA hp hle hO hm hv e)
  ·exact hkt j key (zzA hp hle hT hm hv e)
theorem zx8{p:Pg}(hp:p.ok)(hle:p.sm){b o t Z:Dt}(hE:DatX p (zq4 p))(hO:DatX p o)(hT:DatX p t)(hZ:DatX p Z){ks:Nat->List (List Vl)}(hks: ∀i, ∀key∈ks i, ∀v∈key,VIn v)
  (hko: ∀i, ∀key∈zaH p o i,key∈ks i) (hkt: ∀i, ∀key∈zaH p t i,key∈ks i)
  (h: ∀(j:Nat)(key:List Vl)(m:Nat),m<64->(∀v∈key,VIn v)->ztF p Z j key m=lL (ztF p b j key m) (ztF p o j key m) (ztF p t j key m)):zhB p b o t ks=Z:=by
 obtain⟨h1,h2⟩:=zx7 (b:=b) hp hle hE hO hT hks hko hkt;exact zyZ hp hle h1 hZ fun i key m hm hv=>by rw[h2 i key m hm fun v q=>(hv v q).in',h i key m hm fun v q=>(hv v q).in']
theorem ztQ(a b:Option Fa):lL a a b=b:=by
 unfold lL;by_cases q:a=b
 ·subst q;split<;>rfl
 ·rw[pO ⟨q,rfl⟩,Qj rfl]
theorem zrO(a b:Option Fa):lL a b a=b:=by
 unfold lL;rw[uA fun w=>w.1 w.2];rfl
theorem ztR(a b:Option Fa):lL a b b=b:=by
 unfold lL;rw[uA fun w=>w.1 rfl];rfl
def zt6(b o t:Option Fa):Prop:=o≠t/\o≠b/\t≠b
theorem yeS{b o t:Option Fa}:zt6 b o t↔zt6 b t o:=⟨fun⟨x,y,z⟩=>⟨fun e=>x e.symm,z,y⟩,fun⟨x,y,z⟩=>⟨fun e=>x e.symm,z,y⟩⟩
theorem ye6{b o t:Option Fa}(h: ¬zt6 b o t):lL b o t=lL b t o:=by
 unfold lL;by_cases q:o=t
 ·subst q;rfl
 by_cases q1:o=b
 ·rw[pO ⟨q,q1⟩,uA fun w=>q (q1.trans w.2.symm)];rfl
 ·have q2:t=b:=Yv fun w=>h ⟨q,q1,w⟩;rw[uA fun w=>q1 w.2,pO ⟨fun e=>q e.symm,q2⟩];rfl
structure Cf where
 b:Option Fa
 o:Option Fa
 t:Option Fa
 w:List Sp
noncomputable def zc4(b o t:Option Fa)(m:Nat):List Cf->List Cf
 | []=>[⟨b,o,t,yW (zo2 ⟨m,(m:Int)+1⟩)⟩]
 |x::l=>if ze8 (x.b=b/\x.o=o/\x.t=t)=true then⟨b,o,t,yW (uQ x.w ||| zo2 ⟨m,(m:Int)+1⟩)⟩::l else x::zc4 b o t m l
noncomputable def zuF(fb fo ft:Nat->Option Fa):Nat->List Cf
 |0=>[]
 |m+1=>if ze8 (zt6 (fb m) (fo m) (ft m))=true then zc4 (fb m) (fo m) (ft m) m (zuF fb fo ft m) else zuF fb fo ft m
def Cf.ex(x:Cf):Cf:=⟨x.b,x.t,x.o,x.w⟩
theorem yeT(b o t:Option Fa)(m:Nat): ∀l:List Cf,(zc4 b o t m l).map Cf.ex=zc4 b t o m (l.map Cf.ex)
 | []=>rfl
 |x::l=>by
  rw[Xa];unfold zc4;by_cases q:x.b=b/\x.o=o/\x.t=t
  ·rw[pO q,Qj rfl,pO (show x.ex.b=b/\x.ex.o=t/\x.ex.t=o from⟨q.1,q.2.2,q.2.1⟩),Qj rfl];rfl
  ·rw[uA q,uA (fun w:x.ex.b=b/\x.ex.o=t/\x.ex.t=o=>q ⟨w.1,w.2.2,w.2.1⟩),Qi Qf2,Qi Qf2,Xa,yeT b o t m l]
theorem yeY(fb fo ft:Nat->Option Fa): ∀n,(zuF fb fo ft n).map Cf.ex=zuF fb ft fo n
 |0=>rfl
 |n+1=>by
  unfold zuF;by_cases q:zt6 (fb n) (fo n) (ft n)
  ·rw[pO q,pO (yeS.1 q),Qj rfl,Qj rfl,yeT,yeY fb fo ft n]
  ·rw[uA q,uA fun w=>q (yeS.1 w),Qi Qf2,Qi Qf2,yeY fb fo ft n]
theorem zy2(b o t:Option Fa)(m:Nat): ∀l:List Cf,zc4 b o t m l≠[]
 | []=>by simp[zc4]
 |x::l=>by unfold zc4;split<;>simp
theorem zxW{fb fo ft:Nat->Option Fa}: ∀{n:Nat},zuF fb fo ft n=[]↔ ∀m,m<n-> ¬zt6 (fb m) (fo m) (ft m)
 |0=>⟨fun _ m h=>by omega,fun _=>rfl⟩
 | n+1=>by
  unfold zuF;by_cases q:zt6 (fb n) (fo n) (ft n)
  ·rw[pO q,Qj rfl];exact⟨fun h=>absurd h (zy2 _ _ _ _ _),fun h=>absurd q (h n Qf0)⟩
  ·rw[uA q,Qi Qf2,zxW (n:=n)];refine⟨fun h m hm=> ?_,fun h m hm=>h m Qf0⟩;by_cases e:m=n
   ·subst e;exact q
   ·exact h m Qf0
def SoT(l:List (List Vl)):Prop:=l.Pairwise zaF
theorem zr9: ∀{a b:List (List Vl)},SoT a->SoT b->(∀k,k∈a↔k∈b)->a=b
 | [],[],_,_,_=>rfl
 | [],y::b,_,_,h=>absurd ((h y).2 (Qe ..)) Qf1
 |x::a,[],_,_,h=>absurd ((h x).1 (Qe ..)) Qf1
 | x::a,y::b,ha,hb,h=>by
  obtain⟨a1,a2⟩:=Yb.1 ha;obtain⟨b1,b2⟩:=Yb.1 hb;have hxy:x=y:=by
   rcases Qw.1 ((h x).1 (Qe ..)) with e|e
   ·exact e
   rcases Qw.1 ((h y).2 (Qe ..)) with e'|e'
   ·exact e'.symm
   exact absurd (b1 x e) (zaF.asym (a1 y e'))
  subst hxy;rw[zr9 a2 b2 fun k=>⟨fun hk=> ?_,fun hk=> ?_⟩]
  ·rcases Qw.1 ((h k).1 (Qf _ hk)) with e|e
   ·exact absurd e (a1 k hk).ne.symm
   ·exact e
  ·rcases Qw.1 ((h k).2 (Qf _ hk)) with e|e
   ·exact absurd e (b1 k hk).ne.symm
   ·exact e
noncomputable def zuH(t:List Vl):List (List Vl)->List (List Vl)
 | []=>[t]
 |x::l=>if ze8 (zaF x t)=true then x::zuH t l else if ze8 (x=t)=true then x::l else t::x::l
theorem ztY(t k:List Vl): ∀l:List (List Vl),k∈zuH t l↔k=t\/k∈l
 | []=>by simp[zuH]
 | x::l=>by
  unfold zuH;split
  ·rw[Qw,ztY t k l,Qw];exact⟨fun h=>h.elim (fun e=> .inr (.inl e)) fun h=>h.elim .inl fun e=> .inr (.inr e),fun h=>h.elim (fun e=> .inr (.inl e)) fun h=>h.elim .inl fun e=> .inr (.inr e)⟩
  ·split
   ·rename_i q;have e:=zoX.1 q;subst e;exact⟨.inr,fun h=>h.elim (fun e=>e▸Qe ..) id⟩
   ·rw[Qw]
theorem zxQ{t:List Vl}: ∀{l:List (List Vl)},SoT l->SoT (zuH t l)
 | [],_=>List.pairwise_singleton ..
 | x ::l,h=>by
  obtain⟨h1,h2⟩:=Yb.1 h;unfold zuH;split
  ·rename_i q;refine Yb.2 ⟨fun k hk=> ?_,zxQ h2⟩;rcases (ztY t k l).1 hk with rfl|hk
   ·exact zoX.1 q
   ·exact h1 k hk
  ·rename_i q;split
   ·exact h
   ·rename_i q2;have htx:zaF t x:=by
     rcases zaF.tri t x with e|e|e
     ·exact e
     ·exact absurd (zoX.2 e.symm) q2
     ·exact absurd (zoX.2 e) q
    refine Yb.2 ⟨fun k hk=> ?_,h⟩;rcases Qw.1 hk with rfl|hk
    ·exact htx
    ·exact htx.tr (h1 k hk)
noncomputable def aO(l:List (List Vl)):List (List Vl):=l.foldr zuH []
theorem iY(k:List Vl): ∀l:List (List Vl),k∈aO l↔k∈l
 | []=>Iff.rfl
 |x::l=>by
  show k∈zuH x (aO l)↔_;rw[ztY,iY k l,Qw]
theorem ziT: ∀l:List (List Vl),SoT (aO l)
 | []=>List.Pairwise.nil
 |x::l=>zxQ (ziT l)
theorem zyN{a l:List (List Vl)}(h:SoT a)(k: ∀x,x∈a↔x∈l):a=aO l:=zr9 h (ziT l) fun x=>by rw[k,iY]
noncomputable def ydS(p:Pg)(d:Dt)(g:Fa)(s:Sp):Dt:=
 if (p.pk.getD g.pred.toNat zuW).of'= -1 then⟨d.pg.set g.pred.toNat (zoB (d.pg.getD g.pred.toNat []) g.args s),d.pQ⟩
 else⟨d.pg,d.pQ.set g.pred.toNat (aV (p.pQ.getD (p.pk.getD g.pred.toNat zuW).of'.toNat zuV) (d.pQ.getD g.pred.toNat []) g.args s.a s.b g.elem)⟩
theorem zz6{p:Pg}(hp:p.ok)(hle:p.sm){X:Dt}(hX:DatX p X){i:Nat}{key:List Vl}{g:Fa}(h:FcX p i key g){m:Nat}(hm:m<64)(hno:ztF p X i key m=none):ydS p X g ⟨m,(m:Int)+1⟩=zl0 p X (zz7 g m):=by
 have hi:=h.hi;have hir:i<X.pg.length:=Qgl;have hil:i<X.pQ.length:=Qgm;have ho:=h.op hp hle hX hm;have hpn:g.pred.toNat=i:=by rw[h.pr];exact Xw i
 unfold ydS;rw[hpn,eD hi,eD hir,eD hil];by_cases hof:p.pk[i].of'= -1
 ·rw[Qj hof,zo7 (o:=zz7 g m) h.pr hi hir hof];obtain⟨-,hR,hK⟩:=(hX.at' i hi hir hil).2.2 h.b hof;have hkl:(key.length:Int)=p.pk[i].key:=by
   have:=h.ax.1;have:=ho.k0;have:=ho.k1;rw[<-h.ky,Xk];omega
  have hN:NoR p.pk[i].key.toNat X.pg[i] g.args ⟨m,(m:Int)+1⟩:=fun t ht k hk=>by
   rw[zxR hm] at hk;obtain rfl:=Xj hk;rw[zf7 hX hi hir hil h.b hof hkl] at hno;cases hb:(yH X.pg[i] t).testBit k with
   |false=>rfl
   |true=>
    have:=(fH (k:=p.pk[i].key.toNat) (key:=key) hm hR.1 hK t).2 ⟨by rw[ht];exact h.ky,hb⟩;rw[this] at hno;cases hno
  have e:zaL p.pk[i] X.pg[i] (zz7 g m)=bA p.pk[i].key.toNat X.pg[i] g.args ⟨m,(m:Int)+1⟩:=rfl;have hs:(⟨(m:Int),(m:Int)+1⟩:Sp).good:=ho.s;rw[e,zx9 hR.1 hs hN]
 ·have hol:p.pk[i].of'.toNat<p.pQ.length:=Qgj;rw[Qi hof,zo8 (o:=zz7 g m) h.pr hi hil hof hol,eD hol];rfl
def zqP(k:Nat)(i:Int)(y:List Rw):List Tld:=y.flatMap fun x=>x.w.map fun s=>⟨x.args.take k,⟨i,x.args, -1⟩,s.a,s.b⟩
def zsI(k:Nat)(i:Int)(z:List LRw):List Tld:=z.flatMap fun x=>x.cs.map fun c=>⟨x.args.take k,⟨i,x.args,c.e⟩,c.a,c.b⟩
noncomputable def kH(p:Pg)(d:Dt)(i:Nat):List Ln:=(zqP (p.pk.getD i zuW).key.toNat i (d.pg.getD i [])++zsI (p.pk.getD i zuW).key.toNat i (d.pQ.getD i [])).foldl zxH []
theorem zv1: ∀{l:List Sp}{n:Int},0<=n->SpF n l->(∀s∈l,n<=s.a/\s.good)/\l.Pairwise fun s t=>s.b<t.a
 | [],_,_,_=>⟨Qf1,List.Pairwise.nil⟩
 | s::l,n,hn,h=>by
  obtain⟨h1,h2,h3,h4⟩:=h;obtain⟨k1,k2⟩:=zv1 (n:=s.b+1) Qf0 h4;refine⟨fun t ht=> ?_,Yb.2 ⟨fun t ht=>by have:=(k1 t ht).1;omega,k2⟩⟩;rcases Qw.1 ht with rfl|ht
  ·exact⟨h1,Qf0,h2,h3⟩
  ·have:=(k1 t ht).1;exact⟨Qf0,(k1 t ht).2⟩
theorem zyL{r:List Rw}(hc:CanL r){x:Rw}(hx:x∈r){s:Sp}(hs:s∈x.w){m:Nat}(hh:xT s m=true):(yH r x.args).testBit m=true:=by
 rw[zoV ((iW r).1 hc.1) hx,zoQ];exact List.any_eq_true.2 ⟨s,hs,hh⟩
theorem zzS{r:List Rw}{t:List Vl}{m:Nat}(hb:(yH r t).testBit m=true): ∃x∈r,x.args=t/\ ∃s∈x.w,xT s m=true:=by
 have hx: ∃x∈r,x.args=t:=Yv fun q=>by
  rw[bL fun x hx e=>q ⟨x,hx,e⟩] at hb;simp at hb
 have: ∃x∈r,x.args=t/\yH r t=uQ x.w:=by
  clear hb
  induction r with
  |nil=>obtain⟨x,hx,_⟩:=hx;cases hx
  | cons y r ih=>
   unfold yH;by_cases q:y.args=t
   ·exact⟨y,Qe ..,q,by rw[Qj q]⟩
   ·rw[Qi q];obtain⟨x,hx,e⟩:=hx;rcases Qw.1 hx with rfl|hx
    ·exact absurd e q
    ·obtain⟨z,hz,e1,e2⟩:=ih ⟨x,hx,e⟩;exact⟨z,Qf _ hz,e1,e2⟩
 obtain⟨x,hx,e,e2⟩:=this;rw[e2,zoQ] at hb;obtain⟨s,hs,hh⟩:=List.any_eq_true.1 hb;exact⟨x,hx,e,s,hs,hh⟩
structure PairR(p:Pg)(a b:Dt)(i:Nat):Prop where
 hA:DatX p a
 hB:DatX p b
 hi:i<p.pk.length
 hb:p.pk[i].base=true
 hof:p.pk[i].of'= -1
theorem zzB{p:Pg}(hp:p.ok)(hle:p.sm){d:Dt}(hX:DatX p d){i:Nat}(hi:i<p.pk.length)(hb:p.pk[i].base=true)(hof:p.pk[i].of'= -1){key:List Vl}(hkl:(key.length:Int)=p.pk[i].key){m:Nat}(hm:m<64)(g:Fa):
  ztF p d i key m=some g↔ ∃t,g=⟨i,t, -1⟩/\t.take p.pk[i].key.toNat=key/\(yH (d.pg.getD i []) t).testBit m=true:=by
 have h1:i<d.pg.length:=Qgl;have h2:i<d.pQ.length:=Qgm;obtain⟨-,hR,hK⟩:=(hX.at' i hi h1 h2).2.2 hb hof;rw[eD h1,zf7 hX hi h1 h2 hb hof hkl];have hc:=fH (k:=p.pk[i].key.toNat) (key:=key) hm hR.1 hK;constructor
 ·intro h;cases hr:(zjH p.pk[i].key.toNat key m d.pg[i]).map (·.args) with
  |none=>rw[hr] at h;cases h
  |some t=>
   rw[hr] at h;injection h with h;exact⟨t,h.symm,(hc t).1 hr⟩
 ·rintro⟨t,rfl,h3,h4⟩;rw[(hc t).2 ⟨h3,h4⟩];rfl
theorem zvS{p:Pg}(hp:p.ok)(hle:p.sm){d:Dt}(hX:DatX p d){i:Nat}(hi:i<p.pk.length)(hb:p.pk[i].base=true)(hof:p.pk[i].of'≠ -1):
  ∃hol:p.pk[i].of'.toNat<p.pQ.length,CelX p.pQ[p.pk[i].of'.toNat] p.pk[i].types (d.pQ.getD i []):=by
 obtain⟨-,ht0⟩:=znP hp hle hX.tv;obtain⟨-,t1,t2⟩:=ht0 _ (Qc hi);have hol:p.pk[i].of'.toNat<p.pQ.length:=Qf0;have h1:i<d.pg.length:=Qgl;have h2:i<d.pQ.length:=Qgm;rw[eD h2];exact⟨hol,((hX.at' i hi h1 h2).2.1 hb hof).2 hol⟩
theorem lkG{p:Pg}(hp:p.ok)(hle:p.sm){d:Dt}(hX:DatX p d){i:Nat}(hi:i<p.pk.length)(hb:p.pk[i].base=true)(hof:p.pk[i].of'≠ -1)(hol:p.pk[i].of'.toNat<p.pQ.length){t:List Vl}(ht:ArgX p.pk[i].types t){m:Nat}(hm:m<64):
  ztF p d i t m=if (eF p.pQ[p.pk[i].of'.toNat] (d.pQ.getD i []) t).getD m 0=oU p.pQ[p.pk[i].of'.toNat] then none else some ⟨i,t,(eF p.pQ[p.pk[i].of'.toNat] (d.pQ.getD i []) t).getD m 0⟩:=by
 have h1:i<d.pg.length:=Qgl;have h2:i<d.pQ.length:=Qgm;have hc:=((hX.at' i hi h1 h2).2.1 hb hof).2 hol;have hkl:(t.length:Int)=p.pk[i].key:=by
  have:=ht.1;have:=zsQ p hp hle hX.tv _ (Qc hi) hof;omega
 rw[zjD hX hi h1 h2 hb hof hol hkl,ztL hc ht hm,eD h2];have hg:=znB (hp.l _ (Qc hol)) hc.1 (znA hc t) hm;by_cases q:(eF p.pQ[p.pk[i].of'.toNat] d.pQ[i] t).getD m 0=oU p.pQ[p.pk[i].of'.toNat]
 ·rw[Qj (.inr q),Qj q]
 ·rw[Qi (fun w=>w.elim (fun w=>by omega) q),Qi q]
theorem zyS{p:Pg}(hp:p.ok)(hle:p.sm){d:Dt}(hX:DatX p d){i:Nat}(hi:i<p.pk.length)(hb:p.pk[i].base=true)(hof:p.pk[i].of'≠ -1){key:List Vl}{m:Nat}(hm:m<64)(hv: ∀v∈key,VIn v)(h: ¬(ArgX p.pk[i].types key/\key∈(d.pQ.getD i []).map (·.args))):ztF p d i key m=none:=by
 cases hk:ztF p d i key m with
 |none=>rfl
 | some g=>
  obtain⟨hol,hc⟩:=zvS hp hle hX hi hb hof;have h1:i<d.pg.length:=Qgl;have h2:i<d.pQ.length:=Qgm;by_cases hkl:(key.length:Int)=p.pk[i].key
  case neg=>rw[znT hX hi h1 h2 (.inr hkl)] at hk;cases hk
  by_cases hax:ArgX p.pk[i].types key
  ·rw[lkG hp hle hX hi hb hof hol hax hm,mR (fun x hx e=>h ⟨hax,Xf.2 ⟨x,hx,e⟩⟩),ziB hm,Qj rfl] at hk;cases hk
  ·rw[eD h2] at hc;rw[zjD hX hi h1 h2 hb hof hol hkl,zbH hc hv hax hm,Qj (.inr rfl)] at hk;cases hk
theorem zvO(bt:Int)(ms:List Int){m:Nat}: ∀n,n<=64->(∀c∈zh6 bt ms n,c.a<=(m:Int)->(m:Int)<c.b->ms.getD m 0=c.e/\c.e≠bt)/\(m<n->ms.getD m 0≠bt-> ∃c∈zh6 bt ms n,c.a<=(m:Int)/\(m:Int)<c.b)
 |0,_=>⟨fun c hc=>by simp[zh6] at hc,fun h=>by omega⟩
 | n + 1,hn=>by
  obtain⟨i1,i2⟩:=zvO bt ms (m:=m) n Qf0;have low:=zoY bt ms n Qf0;simp only[zh6];unfold zm5;by_cases q:ms.getD n 0=bt
  ·rw[Qj q];refine⟨i1,fun h h2=> ?_⟩;by_cases e:m=n
   ·subst e;exact absurd q h2
   ·exact i2 Qf0 h2
  ·rw[Qi q];cases hg:(zh6 bt ms n).getLast? with
   | none=>
    have he:zh6 bt ms n=[]:=List.getLast?_eq_none_iff.1 hg;dsimp only;refine⟨fun c hc h1 h2=> ?_,fun h h2=> ?_⟩
    ·exact Qcj
    ·by_cases e:m=n
     ·subst e;exact⟨_,Qp.2 rfl,by dsimp only;omega,by dsimp only;omega⟩
     ·obtain⟨c,hc, -⟩:=i2 Qf0 h2;rw[he] at hc;cases hc
   | some d=>
    have hdm:d∈zh6 bt ms n:=List.mem_of_getLast? hg;obtain⟨l1,l2,l3⟩:=low d hdm;have hsp:zh6 bt ms n=(zh6 bt ms n).dropLast++[d]:=by
     have hne:zh6 bt ms n≠[]:=fun e=>by rw[e] at hg;cases hg
     rw[List.getLast?_eq_some_getLast hne] at hg;injection hg with hg;rw[<-hg];exact(List.dropLast_concat_getLast hne).symm
    dsimp only;by_cases q2:d.b=(n:Int)/\d.e=ms.getD n 0
    ·rw[Qj q2];have hw:IntKind.i64.wrap (d.b+1)=d.b+1:=xM Qf0 Qf0;rw[hw];refine⟨fun c hc h1 h2=> ?_,fun h h2=> ?_⟩
     ·rcases Qo.1 hc with hc|hc
      ·exact i1 c (zqI hc) h1 h2
      ·rw[Qp] at hc;subst hc;dsimp only at h1 h2 ⊢
       by_cases e:m=n
       ·subst e;exact⟨q2.2.symm,fun w=>q (q2.2.symm.trans w)⟩
       ·exact i1 d hdm h1 Qf0
     ·by_cases e:m=n
      ·exact Qee
      ·obtain⟨c,hc,h3,h4⟩:=i2 Qf0 h2;rw[hsp] at hc;rcases Qo.1 hc with hc|hc
       ·exact⟨c,Zb _ hc,h3,h4⟩
       ·rw[Qp] at hc;subst hc;exact⟨_,Yh _ (Qp.2 rfl),h3,by dsimp only;omega⟩
    ·rw[Qi q2];refine⟨fun c hc h1 h2=> ?_,fun h h2=> ?_⟩
     ·rcases Qo.1 hc with hc|hc
      ·exact i1 c hc h1 h2
      ·exact Qcj
     ·by_cases e:m=n
      ·exact Qee
      ·obtain⟨c,hc,h3⟩:=i2 Qf0 h2;exact⟨c,Zb _ hc,h3⟩
theorem zr5{k:Nat}{i:Int}{y:List Rw}{c:Tld}:c∈zqP k i y↔ ∃x∈y, ∃s∈x.w,c=⟨x.args.take k,⟨i,x.args, -1⟩,s.a,s.b⟩:=by
 unfold zqP;exact Qbp
theorem zr6{k:Nat}{i:Int}{z:List LRw}{c:Tld}:c∈zsI k i z↔ ∃x∈z, ∃s∈x.cs,c=⟨x.args.take k,⟨i,x.args,s.e⟩,s.a,s.b⟩:=by
 unfold zsI;exact Qbp
theorem zvD{p:Pg}(hp:p.ok)(hle:p.sm){d:Dt}(hX:DatX p d){i:Nat}(hi:i<p.pk.length)(hb:p.pk[i].base=true):
  ∀c∈zqP p.pk[i].key.toNat i (d.pg.getD i [])++zsI p.pk[i].key.toNat i (d.pQ.getD i []),0<=c.a/\c.a<c.b/\c.b<=64/\ArgX p.pk[i].types c.g.args/\c.k=c.g.args.take p.pk[i].key.toNat/\ ∀m:Nat,m<64->c.a<=(m:Int)->(m:Int)<c.b->ztF p d i c.k m=some c.g:=by
 have hir:i<d.pg.length:=Qgl;have hil:i<d.pQ.length:=Qgm;obtain⟨x1,x2,x3⟩:=hX.at' i hi hir hil;obtain⟨hfm, -, -⟩:=(ze0 p hp hle).2 hX.tv;obtain⟨q0,q1, -⟩:=hfm.p _ (Qc hi);intro c hc;rw[eD hir,eD hil] at hc;by_cases hof:p.pk[i].of'= -1
 ·obtain⟨a1,a2,a3⟩:=x3 hb hof;rcases Qo.1 hc with hc|hc
  ·obtain⟨x,hx,s,hs,rfl⟩:=zr5.1 hc;dsimp only;have hsg:=(zv1 (Ug 0) (a2.1.2 x hx).1).1 s hs;obtain⟨-,g1,g2,g3⟩:=hsg;refine⟨g1,g2,g3,a2.2 x hx,rfl,fun m hm h1 h2=> ?_⟩;have hkl:((x.args.take p.pk[i].key.toNat).length:Int)=p.pk[i].key:=by
    have:=(a2.2 x hx).1;rw[Xk];omega
   refine(zzB hp hle hX hi hb hof hkl hm _).2 ⟨x.args,rfl,rfl,?_⟩;rw[eD hir];exact zyL a2.1 hx hs (by rw[gQ hm];exact Yz ⟨h1,h2⟩)
  ·rw[a1] at hc;cases hc
 ·obtain⟨hol,hc'⟩:=zvS hp hle hX hi hb hof;rw[eD hil] at hc';rcases Qo.1 hc with hc|hc
  ·rw[(x2 hb hof).1] at hc;cases hc
  ·obtain⟨x,hx,s,hs,rfl⟩:=zr6.1 hc;dsimp only;obtain⟨r1,r2⟩:=hc'.row hx;have hax:=hc'.2.1 x hx;have hkt:x.args.take p.pk[i].key.toNat=x.args:=Yo (by
    have:=hax.1;have:=zsQ p hp hle hX.tv _ (Qc hi) hof;omega)
   rw[hkt];have hs':=hs;rw[<-r1] at hs';obtain⟨g1,g2,g3⟩:=zoY _ _ 64 (Xe _) s hs';refine⟨g1,g2,Qf0,hax,rfl,fun m hm h1 h2=> ?_⟩;obtain⟨e1,e2⟩:=(zvO _ _ 64 (Xe _)).1 s hs' h1 h2;rw[lkG hp hle hX hi hb hof hol hax hm,eD hil,zfD hc'.keys hx,Qi (by rw[e1];exact e2),e1]
theorem zzR{p:Pg}(hp:p.ok)(hle:p.sm){d:Dt}(hX:DatX p d){i:Nat}(hi:i<p.pk.length)(hb:p.pk[i].base=true){key:List Vl}(hv: ∀v∈key,VIn v){m:Nat}(hm:m<64){g:Fa}(h:ztF p d i key m=some g):
  ∃c∈zqP p.pk[i].key.toNat i (d.pg.getD i [])++zsI p.pk[i].key.toNat i (d.pQ.getD i []),c.hit key m:=by
 have hir:i<d.pg.length:=Qgl;have hil:i<d.pQ.length:=Qgm;obtain⟨x1,x2,x3⟩:=hX.at' i hi hir hil;by_cases hkl:(key.length:Int)=p.pk[i].key
 case neg=>rw[znT hX hi hir hil (.inr hkl)] at h;cases h
 by_cases hof:p.pk[i].of'= -1
 ·obtain⟨a1,a2,a3⟩:=x3 hb hof;obtain⟨t, -,h1,h2⟩:=(zzB hp hle hX hi hb hof hkl hm g).1 h;rw[eD hir] at h2;obtain⟨x,hx,rfl,s,hs,hh⟩:=zzS h2;rw[gQ hm] at hh;exact⟨_,Zb _ (zr5.2 ⟨x,by rw[eD hir];exact hx,s,hs,rfl⟩),h1,Xj hh⟩
 ·obtain⟨hol,hc'⟩:=zvS hp hle hX hi hb hof;by_cases q:ArgX p.pk[i].types key/\key∈(d.pQ.getD i []).map (·.args)
  ·obtain⟨x,hx,rfl⟩:=Xf.1 q.2;rw[lkG hp hle hX hi hb hof hol q.1 hm,zfD hc'.keys hx] at h;obtain⟨r1,r2⟩:=hc'.row hx;split at h
   ·cases h
   rename_i hne;obtain⟨s,hs,h1,h2⟩:=(zvO _ _ 64 (Xe _)).2 hm hne;rw[r1] at hs;refine⟨_,Yh _ (zr6.2 ⟨x,hx,s,hs,rfl⟩),?_,h1,h2⟩;exact Yo Qf0
  ·rw[zyS hp hle hX hi hb hof hm hv q] at h;cases h
theorem zv3{p:Pg}(hp:p.ok)(hle:p.sm){d:Dt}(hX:DatX p d){i:Nat}(hi:i<p.pk.length)(hb:p.pk[i].base=true){key:List Vl}(hv: ∀v∈key,VIn v){m:Nat}(hm:m<64):(iD (kH p d i) key).getD m none=ztF p d i key m:=by
 unfold kH;rw[eD hi];refine zy9 hm _ _ (fun c hc hh=> ?_) ?_
 ·obtain⟨-, -, -, -, -,h⟩:=zvD hp hle hX hi hb c hc;rw[<-h m hm hh.2.1 hh.2.2,hh.1]
 ·have e0:(iD [] key).getD m none=none:=by
   show(List.replicate 64 none).getD m none=none;rw[Qb,Zf,Qj hm];rfl
  rw[e0];cases h:ztF p d i key m with
  |none=>exact .inl rfl
  |some g=>exact .inr ⟨rfl,zzR hp hle hX hi hb hv hm h⟩
theorem ztI(p:Pg)(d:Dt)(i:Nat):LnW (kH p d i):=yaQ _ ⟨Kg,Qf1⟩
theorem zsM{p:Pg}(hp:p.ok)(hle:p.sm){d:Dt}(hX:DatX p d){i:Nat}(hi:i<p.pk.length)(hb:p.pk[i].base=true)(key:List Vl):key∈(kH p d i).map (·.1)↔key∈zaH p d i:=by
 have hir:i<d.pg.length:=Qgl;have hil:i<d.pQ.length:=Qgm;obtain⟨x1,x2,x3⟩:=hX.at' i hi hir hil;unfold kH zaH;rw[zvH,eD hi,eD hir,eD hil,Qo];constructor
 ·rintro (h|⟨c,hc,rfl⟩)
  ·cases h
  rcases Qo.1 hc with hc|hc
  ·obtain⟨x,hx,s,hs,rfl⟩:=zr5.1 hc;exact .inl (Xf.2 ⟨x,hx,rfl⟩)
  ·obtain⟨x,hx,s,hs,rfl⟩:=zr6.1 hc;exact .inr (Xf.2 ⟨x,hx,rfl⟩)
 ·intro h;refine .inr ?_;by_cases hof:p.pk[i].of'= -1
  ·obtain⟨a1,a2,a3⟩:=x3 hb hof;rcases h with h|h
   ·obtain⟨x,hx,rfl⟩:=Xf.1 h;have hne:=zdB (a2.1.2 x hx);cases hw:x.w with
    |nil=>rw[hw] at hne;exact absurd zb8 hne
    |cons s l=>exact⟨_,Zb _ (zr5.2 ⟨x,hx,s,by rw[hw];exact Qe ..,rfl⟩),rfl⟩
   ·rw[a1] at h;cases h
  ·obtain⟨hol,hc'⟩:=zvS hp hle hX hi hb hof;rw[eD hil] at hc';rcases h with h|h
   ·rw[(x2 hb hof).1] at h;cases h
   ·obtain⟨x,hx,rfl⟩:=Xf.1 h;have hne:=(hc'.row hx).2;cases hw:x.cs with
    |nil=>exact absurd hw hne
    |cons s l=>exact⟨_,Yh _ (zr6.2 ⟨x,hx,s,by rw[hw];exact Qe ..,rfl⟩),rfl⟩
end Go.AL
