/-
  Programs: classes of variables: types set, classes joined.
-/
import Derived.Test.YtlcjmejclpilhaaGreatDoorX26
set_option linter.unusedSimpArgs false
set_option linter.unusedVariables false
set_option maxRecDepth 100000
set_option maxHeartbeats 4000000
namespace Go.AL
open Go.Proofs Go.Proofs.Tryz
theorem zjk {F0 p q:Prop} (F:F0) (k:q) (h:F0→q→p:=by
 intro F gk
 (repeat (first|refine nx ?_|(intro zs zh;(try simp only [go_sem] at zh);subst zh)|((first|refine ns ?_|refine zF rfl rfl rfl ?_|(refine zN rfl rfl rfl ?_;intro zs zh;(try simp only [go_sem] at zh);subst zh;refine nx ?_));intro zs zh;(try simp only [go_sem,F,List.set_set] at zh);subst zh;first|refine nx ?_|refine zH (by clear gk;omega) ?_|refine zL (by decide) ?_|refine zI (by decide) (by clear gk;omega) ?_)|refine dw pl _ _ (by kernel_rfl) ?_))
 exact gk):p:=h F k
theorem zjm {F0 p q:Prop} (F:F0) (k:q) (h:F0→q→p:=by
 intro F gk
 (repeat (first|refine nx ?_|(intro zs zh;(try simp only [go_sem] at zh);subst zh)|((first|refine ns ?_|refine zF rfl rfl rfl ?_|(refine zN rfl rfl rfl ?_;intro zs zh;(try simp only [go_sem] at zh);subst zh;refine nx ?_));intro zs zh;(try simp only [go_sem,F,List.set_set,List.length_map,Bool.and_self] at zh);subst zh;first|refine nx ?_|refine zH (by clear gk;omega) ?_|refine zL (by decide) ?_|refine zI (by decide) (by clear gk;omega) ?_)|refine dw pl _ _ (by kernel_rfl) ?_))
 exact gk):p:=h F k
@[go_sem] def UTyp10f228.pl:Nat->DPlan
 |3=>⟨[yA,yA,yA,⟨1,0,[0,1,0]⟩,yA,⟨1,0,[0,1,0]⟩,yA,yA,yA,⟨1,0,[0,1,0]⟩,yA,⟨1,0,[0,1,0]⟩,vC,⟨2,1,[]⟩,⟨5,0,[]⟩,yC],xE,2⟩
 |7=>⟨[yA,yA,yA,yA,yB,yA,yA,yA,yB,yC,yA,yA,yC],yN,0⟩
 |10=>⟨[yA,yA,yA,yA,yE,yA,yA,yA,yE,yA,yE,vC,yC],yN,1⟩
 |11=>⟨[yB,yA,yA,yA,yB,yC,yA],tV,0⟩
 |17=>⟨[yA,yA,yA,yB,yA,yA,yA,yB,yC,yA,yA,yC],xF,0⟩
 |20=>⟨[yA,yA,yA,⟨7,0,[1001]⟩,yA,yA,yA,yA,yB,yA,yB,yA,yB,⟨6,0,[1001]⟩,yA],yG,0⟩
 |_=>⟨[],[],0⟩
attribute [-go_sem] only
theorem iJ{α:Type}{pre:List α}{n:Nat}(hn:pre.length=n)(ys:List α)(k:Nat):(pre++ys).drop (n+k)=ys.drop k:=by subst hn;rw[List.drop_append];simp
theorem iA{α:Type}{pre:List α}{n:Nat}(hn:pre.length=n)(ys:List α)(k:Nat):(pre++ys).take (n+k)=pre++ys.take k:=by subst hn;rw[List.take_append,Yo Qf3];simp
theorem lT{α:Type}{pre:List α}{n:Nat}(hn:pre.length=n)(ys:List α):(pre++ys).drop n=ys:=by subst hn;simp
theorem tI{α:Type}(X l:List α)(b:α):(X++l).set X.length b=X++l.set 0 b:=by rw[Zr _ _ (Xe _)];simp
theorem tH{α:Type}(X l:List α)(k:Nat)(b:α):(X++l).set (X.length+k) b=X++l.set k b:=by rw[Zr _ _ Qf3];simp
theorem xY{α:Type}(X l:List α):(X++l)[X.length]? =l[0]? :=by rw[Zj (Xe _)];simp
theorem xN{α:Type}(X l:List α)(k:Nat):(X++l)[X.length+k]? =l[k]? :=by rw[Zj Qf3];simp
def LitK(ps:List Pd)(x:Li)(pd:Int):Prop:=(x.kind=5/\pd= -1)\/(x.kind≠5/\ ∃i:Nat,pd=i/\ ∃h:i<ps.length,x.args.length=ps[i].types.length)
open UTyp10f228 in
theorem aM(b0 b1:Blk)(pc:List PV)(ml mf mp:NM)(L F P R Rep:PV)(J:Heap)(pQ:List La)(fs:List (Fu×PV))(ps:List Pd)(hS:Sc pQ fs ps ml mf mp L F P J)(q n:Nat)(T:TypeId)(pre suf:List PV)(hn:pre.length=n)(x:Li)(hx:x.fm)
  (hq:J[q]? =some (.var T (pre++(x.c++suf)))):
  ECall prog G0 228 [.ptr 6 0,.ptr (q+7) n] (SH b0 b1 pc ml mf mp L F P R Rep J) fun p h'=> ∃(e pd ls:Int)(J':Heap),p=i64 e/\h'=SH b0 b1 pc ml mf mp L F P R Rep J'/\But q J J'/\J'[q]? =some (.var T (pre++(Li.c {x with pred:=pd,least:=ls}++suf)))/\(e=0->LitK ps x pd):=by
 refine pv func228 139 false Qf6 rfl rfl ?_;refine g2 ?_;have hqlt:q<J.length:=(gsi hq).1;obtain⟨hxa,hxc,hxb⟩:=hx;obtain⟨kind,name,pred,args,bind,elem,least,op,at'⟩:=x;dsimp only at*;simp only[Xx,Yj] at hq;have hqs: ∀b,(J.set q b)[q]? =some b:=fun b=>Qh hqlt;have d1:=fun ys k=>iJ hn ys k;have d2:=fun ys k=>iA hn ys k;have d3:=fun ys=>lT hn ys;have d4: ∀ys j k,(pre++ys).drop (n+j+k)=ys.drop (j+k):=fun ys j k=>by rw[Ji];exact d1 ys _
 have Z1:=(a9 @hq @hqs @hn @d1 @d2 @d3 @d4 @tI (a3 @tH @xY @xN))
 have kb: ∀b,But q J (J.set q b):=fun b r c hr hc=>by rw[Qd (Ne.symm hr)];exact hc
 by_cases hk:kind=5
 ·subst hk;have hl2:=hxc rfl;obtain⟨a,b,rfl⟩: ∃a b,args=[a,b]:=by
   match args,hl2 with
   | [a,b],_=>exact⟨a,b,rfl⟩
  have hqs2: ∀b c,((J.set q b)++[c])[q]? =some b:=fun b c=>by rw[Qg Qgf];exact hqs b
  have hqs3: ∀b c d,((J.set q b)++[c,d])[q]? =some b:=fun b c d=>by rw[Qg Qgf];exact hqs b
  have Z3:=(a3 Z1 @hqs2 @hqs3)
  obtain⟨va,⟨ta,na,sa⟩⟩:=a;obtain⟨vb,⟨tb,nb,sb⟩⟩:=b;have kb2: ∀b l,But q J (J.set q b++l):=fun b l r c hr hc=>by rw[Qg (by simpa using (gsi hc).1)];exact kb b r c hr hc
  by_cases ha:va=eS
  ·subst ha;by_cases hb:vb=eS
   ·subst hb;by_cases ht:ta=tb
    ·have e1:(ta !=tb)=false:=by simp[ht]
     refine zjk (a2 Z3 @e1) ?_;exact Qc5
    ·have e1:(ta !=tb)=true:=by simp[ht]
     refine zjk (a2 Z3 @e1) ?_;exact⟨72, -1, -1,_,rfl,rfl,kb2 _ _,hqs3 _ _ _,fun _=> .inl ⟨rfl,rfl⟩⟩
   ·refine zjk (a2 Z3 @hb) ?_;exact Qc5
  ·refine zjk (a2 Z3 @ha) ?_;exact Qc5
 ·have e0:(kind==5)=false:=Qf9;refine zjk (a2 Z1 @e0) ?_;(refine zF rfl rfl rfl ?_;intro zs zh;simp only[go_sem,Z1,Zu,e0] at zh;subst zh;refine zP Qf5 Qf5 (lE _ 5 mp ps.length name rfl hS.mp) ?_;intro p2 h2 hr2;refine Go.AL.g2 ?_);obtain⟨pd,rfl,hp1,hp2,rfl⟩:=hr2;by_cases hp0:pd<0
  ·have e1:decide (pd<0)=true:=by simp[hp0]
   refine zjk (a2 Z1 @e1) ?_;exact⟨70,pd, -1,_,rfl,rfl,kb _,hqs _,fun h=>by omega⟩
  ·have e1:decide (pd<0)=false:=Qfk;obtain⟨i,rfl⟩:=Qm (show 0<=pd by omega);have hi:i<ps.length:=Qf3;obtain⟨qp,rfl,hqp⟩:=hS.p.vec Qfk;have hy:=zG (f:=Pd.c) [] hi;obtain⟨y,hye⟩: ∃y,ps[i]=y:=⟨_,rfl⟩
   have hyb:=hS.pb _ (Qc hi);rw[hye] at hy hyb;obtain⟨yn,yt,yl,yo,yb,yk,ya⟩:=y;dsimp only at hyb;have hqs2: ∀b,((J.set q b)++[.non])[q]? =some b:=fun b=>by rw[Qg Qgf];exact hqs b
   refine zjk (a6 Z1 @hqs2 @e1 @hi @hy @zB) ?_;have h2q:(J.set q (.var T (pre++(i64 kind::yQ name::i64 i::zrX args::yQ bind::yQ elem::i64 (-1)::i64 op::i64 at'::suf)))++[(.var 73 [yQ yn,vF yt,yQ yl,i64 yo,bo yb,i64 yk,i64 ya])])[q]? =some (.var T (pre++(i64 kind::yQ name::i64 i::zrX args::yQ bind::yQ elem::i64 (-1)::i64 op::i64 at'::suf))):=by rw[Qg Qgf];exact hqs _
   have h2y:=zA (J.set q (.var T (pre++(i64 kind::yQ name::i64 i::zrX args::yQ bind::yQ elem::i64 (-1)::i64 op::i64 at'::suf)))) (.var 73 [yQ yn,vF yt,yQ yl,i64 yo,bo yb,i64 yk,i64 ya]);have h2k:But q J (J.set q (.var T (pre++(i64 kind::yQ name::i64 i::zrX args::yQ bind::yQ elem::i64 (-1)::i64 op::i64 at'::suf)))++[(.var 73 [yQ yn,vF yt,yQ yl,i64 yo,bo yb,i64 yk,i64 ya])]):=fun r b hr hb=>by
    rw[Qg (by simpa using (gsi hb).1),Qd (Ne.symm hr)];exact hb
   have hqy:q≠(J.set q (.var T (pre++(i64 kind::yQ name::i64 i::zrX args::yQ bind::yQ elem::i64 (-1)::i64 op::i64 at'::suf)))).length:=by rw[Xb];omega
   generalize J.set q (.var T (pre++(i64 kind::yQ name::i64 i::zrX args::yQ bind::yQ elem::i64 (-1)::i64 op::i64 at'::suf)))++[(.var 73 [yQ yn,vF yt,yQ yl,i64 yo,bo yb,i64 yk,i64 ya])]=J2 at*;generalize (J.set q (.var T (pre++(i64 kind::yQ name::i64 i::zrX args::yQ bind::yQ elem::i64 (-1)::i64 op::i64 at'::suf)))).length=qy at*;have hL2:=h2k.grow hq Qf4 hS.l;have h2lt:q<J2.length:=(gsi h2q).1;have h2s: ∀b,(J2.set q b)[q]? =some b:=fun b=>Qh h2lt;have h2t: ∀b,(J2.set q b)[qy]? =some (.var 73 [yQ yn,vF yt,yQ yl,i64 yo,bo yb,i64 yk,i64 ya]):=fun b=>by rw[Qd hqy];exact h2y
   have Z:=(a9 @h2q @h2y @h2s @h2t @d1 @d2 @d3 @d4 @hn)
   have h2b: ∀b,But q J (J2.set q b):=fun b r c hr hc=>by rw[Qd (Ne.symm hr)];exact h2k r c hr hc
   clear hqs hqs2 kb;have fin: ∀(e:Int),e≠0-> ∃(e' pd l2:Int)(J':Heap),i64 e=i64 e'/\SH b0 b1 pc ml mf mp L F (.vec (qp+7) 7 (ps.map Pd.c)) R Rep J2=SH b0 b1 pc ml mf mp L F (.vec (qp+7) 7 (ps.map Pd.c)) R Rep J'/\But q J J'/\J'[q]? =some (.var T (pre++(i64 kind::yQ name::i64 pd::zrX args::yQ bind::yQ elem::i64 l2::i64 op::i64 at'::suf)))/\(e'=0->LitK ps ⟨kind,name,pred,args,bind,elem,least,op,at'⟩ pd):=fun e he=>⟨e,i, -1,J2,rfl,rfl,h2k,h2q,fun h=>absurd h he⟩
   refine gf Z ?_;(refine zF rfl rfl rfl ?_;intro zs zh;simp only[go_sem,Z] at zh;subst zh;refine zP Qf5 Qf5 ((zcB ⟨yn,yt,yl,yo,yb,yk,ya⟩ args Qf3 (by dsimp only;omega)).call zK Qfe _) ?_;intro p2 h2 hr2;refine Go.AL.g2 ?_);obtain⟨⟨e,rfl,he⟩,rfl⟩:=hr2;by_cases he0:e=0
   ·subst he0;have he:=he rfl;dsimp only at he;have e2:((0:Int)!=0)=false:=rfl;have okk:LitK ps ⟨kind,name,pred,args,bind,elem,least,op,at'⟩ i:= .inr ⟨hk,i,rfl,hi,by rw[hye];exact he⟩;have fin2: ∀(e ls:Int),e≠0\/LitK ps ⟨kind,name,pred,args,bind,elem,least,op,at'⟩ i-> ∃(e' pd l2:Int)(J':Heap),i64 e=i64 e'/\SH b0 b1 pc ml mf mp L F (.vec (qp+7) 7 (ps.map Pd.c)) R Rep (J2.set q (.var T (pre++(i64 kind::yQ name::i64 i::zrX args::yQ bind::yQ elem::i64 ls::i64 op::i64 at'::suf))))=SH b0 b1 pc ml mf mp L F (.vec (qp+7) 7 (ps.map Pd.c)) R Rep J'/\But q J J'/\J'[q]? =some (.var T (pre++(i64 kind::yQ name::i64 pd::zrX args::yQ bind::yQ elem::i64 l2::i64 op::i64 at'::suf)))/\(e'=0->LitK ps ⟨kind,name,pred,args,bind,elem,least,op,at'⟩ pd):=fun e ls h=>⟨e,i,ls,_,rfl,rfl,h2b _,h2s _,fun h0=>h.resolve_left (fun k=>k h0)⟩
    by_cases hyo:yo<0
    ·have e3:decide (yo<0)=true:=by simp[hyo]
     by_cases hbe:bind=eS
     ·by_cases hee:elem=eS
      ·subst hbe;exact Qcy
      ·subst hbe;refine gf (a4 Z @e2 @e3 @hee) ?_;exact fin 72 Qf5
     ·refine gf (a4 Z @e2 @e3 @hbe) ?_;exact fin 72 Qf5
    ·have e3:decide (yo<0)=false:=Qfk;obtain⟨yo,rfl⟩:=Qm (show 0<=yo by omega);by_cases hee:elem=eS
     ·exact Qcy
     ·refine gf (a4 Z @e2 @e3 @hee) ?_;(refine zF rfl rfl rfl ?_;intro zs zh;simp only[go_sem,Z] at zh;subst zh;refine zP Qf5 Qf5 (zb2 b0 b1 pc ml mf mp L F (.vec (qp+7) 7 (ps.map Pd.c)) R Rep J2 pQ hS.lo (by have:=hS.ll;omega) hL2 yo Qf3 elem) ?_;intro p2 h2 hr2;refine Go.AL.g2 ?_);obtain⟨⟨ix,rfl,hx1,hx2⟩,rfl⟩:=hr2;by_cases hix:ix<0
      ·have e4:decide (ix<0)=true:=by simp[hix]
       refine gf (a2 Z @e4) ?_;exact fin2 70 ix (.inl Qf5)
      ·have e4:decide (ix<0)=false:=Qfk;have hyl:yo<pQ.length:=Qf3;obtain⟨ql,rfl,hql⟩:=hL2.vec Qfk;have hly:=zG (f:=La.c) [] hyl;have hq7:(q+7<J2.length+1+1+1+1+1+1+1)=True:=Qfk;have Z2:=(a6 Z @hq7 @e4 @hyl @hly @zB)
       refine zjA Z2 ?_;(refine zF rfl rfl rfl ?_;intro sr hsr;simp only[go_sem,Z2,Xb] at hsr;subst hsr;refine xR rfl rfl ((qJ pQ[yo] (hS.lo _ (Qc hyl))).call zK Qfe _) Qhc ?_;intro p2 h2 hr2;refine Go.AL.g2 ?_);obtain⟨⟨bt,rfl,hbt⟩,rfl⟩:=hr2;by_cases hbb:ix=bt
       ·have e5:(ix==bt)=true:=by simp[hbb]
        refine zjA (a2 Z2 @e5) ?_;exact fin2 72 ix (.inl Qf5)
       ·have e5:(ix==bt)=false:=by simp[hbb]
        refine zjA (a2 Z2 @e5) ?_;exact fin2 0 ix (.inr okk)
   ·exact Qds
@[go_sem] def UTyp11f300.pl:Nat->DPlan
 |4=>⟨[yA,yA,yA,yB,yA,yA,yA,yA,yA,yC,yA,yC,yA,yA,yA,yC],xE,0⟩
 |_=>⟨[],[],0⟩
attribute [-go_sem] only splice
def CC(qm:Nat)(cls:List Nat)(tys:List Int):List PV:= .mp qm::(cls.map (fun n:Nat=>i64 n)++tys.map fun n=>i64 n)
section
variable{qm:Nat}{cls:List Nat}{tys:List Int}
theorem rG(h1:cls.length=36)(h2:tys.length=36):(CC qm cls tys).length=73:=by simp[CC,h1,h2]
theorem kE:(CC qm cls tys).getD 0 .un= .mp qm:=rfl
theorem cc_1(h1:cls.length=36){i:Nat}(hi:i<36):((CC qm cls tys).drop (1+i)).getD 0 .un=i64 (cls.getD i 0:Nat):=by
 rw[Qb,Yg,Wn,Nat.add_comm];simp only[CC,Wg];rw[Qg (by simp[h1,hi]),Qu,Qb,Qa Qf3];rfl
theorem zk1(h1:cls.length=36)(h2:tys.length=36){i:Nat}(hi:i<36):((CC qm cls tys).drop (37+i)).getD 0 .un=i64 (tys.getD i 0):=by
 rw[Qb,Yg,Wn,show 37+i=(36+i)+1 by omega];simp only[CC,Wg];rw[Zj Qfd,Qs,h1,Jh,Qu,Qb,Qa Qf3];rfl
theorem zbE{cs:List PV}{o:Nat}{v:PV}(h:o<cs.length):splice cs o [v]=cs.set o v:=by
 unfold splice;rw[Ub,Qj h];simp
theorem cs_1(h1:cls.length=36)(h2:tys.length=36){i v:Nat}(hi:i<36):splice (CC qm cls tys) (1+i) [i64 v]=CC qm (cls.set i v) tys:=by
 rw[zbE (by rw[rG h1 h2];omega),Nat.add_comm];simp only[CC,Xl];rw[Ko _ _ (by simp[h1,hi]),Ky]
theorem cs_2(h1:cls.length=36)(h2:tys.length=36){i:Nat}{v:Int}(hi:i<36):splice (CC qm cls tys) (37+i) [i64 v]=CC qm cls (tys.set i v):=by
 rw[zbE (by rw[rG h1 h2];omega),show 37+i=(36+i)+1 by omega];simp only[CC,Xl];rw[Zr _ _ Qfd,Qs,h1,Jh,Ky]
end
def Has(es:NM)(s:BA):Prop:=(vV (.string s) es 0).isSome=true
structure CI(es:NM)(cls:List Nat)(tys:List Int):Prop where
 n:NMap es es.length
 le:es.length<=36
 l1:cls.length=36
 l2:tys.length=36
 f: ∃rt d:Nat->Nat, ∀x,x<es.length->cls.getD x 0<es.length/\rt x<es.length/\cls.getD (rt x) 0=rt x/\d (rt x)=0/\(cls.getD x 0=x->rt x=x)/\(cls.getD x 0≠x->rt x=rt (cls.getD x 0)/\d (cls.getD x 0)<d x)
structure Upd(qm qc:Nat)(es:NM)(cls:List Nat)(tys:List Int)(h h':Heap):Prop where
 m:h'[qm]? =some (.map es)
 c:h'[qc]? =some (.var 378 (CC qm cls tys))
 k: ∀(r:Nat)(b:Blk),r≠qm->r≠qc->h[r]? =some b->h'[r]? =some b
theorem Upd.trans{qm qc:Nat}{es es':NM}{cls cls':List Nat}{tys tys':List Int}{h h' h'':Heap}(a:Upd qm qc es cls tys h h')(b:Upd qm qc es' cls' tys' h' h''):Upd qm qc es' cls' tys' h h'':=⟨b.m,b.c,fun r c h1 h2 h3=>b.k r c h1 h2 (a.k r c h1 h2 h3)⟩
theorem Upd.app{qm qc:Nat}{es:NM}{cls:List Nat}{tys:List Int}{h h':Heap}(a:Upd qm qc es cls tys h h')(l:Heap):Upd qm qc es cls tys h (h'++l):=
 ⟨by rw[Qg (gsi a.m).1];exact a.m,by rw[Qg (gsi a.c).1];exact a.c,fun r c h1 h2 h3=>by
  have:=a.k r c h1 h2 h3;rw[Qg (gsi this).1];exact this⟩
theorem Upd.refl{qm qc:Nat}{es:NM}{cls:List Nat}{tys:List Int}{h:Heap}(m:h[qm]? =some (.map es))(c:h[qc]? =some (.var 378 (CC qm cls tys))):Upd qm qc es cls tys h h:=⟨m,c,fun _ _ _ _ h=>h⟩
theorem lZ{k:Value}{x:Value×PV}: ∀{es:NM}{j:Nat},(vV k es j).isSome=true->(vV k (es++[x]) j).isSome=true
 | [],_,h=>by cases h
 | y::es,j,h=>by
  simp only[Xx,vV] at h ⊢
  by_cases hv:sY k y.1=true
  ·rw[Qj hv];rfl
  ·rw[Qi hv] at h ⊢
   exact lZ h
theorem gW{s:BA}{p:PV}: ∀{es:NM}{j:Nat},(vV (.string s) (es++[(.string s,p)]) j).isSome=true
 | [],j=>by simp[vV,sY]
 |y::es,j=>by
  simp only[Xx,vV];split
  ·rfl
  ·exact gW
theorem CI.push{es:NM}{cls:List Nat}{tys:List Int}(h:CI es cls tys)(hl:es.length<36)(s:BA):CI (es++[(.string s,i64 (es.length:Nat))]) (cls.set es.length es.length) tys:=by
 obtain⟨h1,h2,h3,h4,rt,d,h5⟩:=h;refine⟨?_,by simp;omega,by simp[h3],h4,fun x=>if x=es.length then x else rt x,fun x=>if x=es.length then 0 else d x,fun x hx=> ?_⟩
 ·intro x hx;rw[Ql,Wp];rcases Qo.1 hx with hx|hx
  ·obtain⟨a,i,e,hi⟩:=h1 x hx;exact⟨a,i,e,Qf3⟩
  ·simp at hx;subst hx;exact⟨⟨s,rfl⟩,_,rfl,Qf3⟩
 ·rw[Ql,Wp] at hx ⊢
  have gs: ∀y,(cls.set es.length es.length).getD y 0=if y=es.length then es.length else cls.getD y 0:=fun y=>by
   rw[Qb,Qq,Qb];by_cases e:es.length=y
   ·subst e;simp[h3,hl]
   ·simp[e,Ne.symm e]
  simp only[gs];by_cases e:x=es.length
  ·subst e;simp
  ·obtain⟨aa1,aa2,aa3,aa4,aa5,aa6⟩:=h5 x Qf3;have e2:rt x≠es.length:=Qf3;have e3:cls.getD x 0≠es.length:=Qf3;simp only[e,e2,e3,Wr];exact⟨Qf3,Qf3,aa3,aa4,aa5,aa6⟩
open UTyp11f300 in
theorem dM(h:Heap)(qm qc:Nat)(es:NM)(cls:List Nat)(tys:List Int)(hm:h[qm]? =some (.map es))(hc:h[qc]? =some (.var 378 (CC qm cls tys)))(hI:CI es cls tys)(s:BA)(hn:Has es s\/es.length<36):
  ECall prog G0 300 [.ptr qc 0,yQ s] h fun p h'=> ∃(i:Nat)(es':NM)(cls':List Nat),p=i64 i/\i<es'.length/\cls'.getD i 0=i/\Upd qm qc es' cls' tys h h'/\h'.length=h.length/\CI es' cls' tys/\es'.length<=es.length+1/\(Has es s->es'=es/\cls'=cls)/\(∀s',Has es s'->Has es' s')/\Has es' s:=by
 refine pv func300 52 false Qf6 rfl rfl ?_;refine g2 ?_;have ha:=hI.n.all;have hqm:qm<h.length:=(gsi hm).1;have hqc:qc<h.length:=(gsi hc).1;have hne:qm≠qc:=fun e=>by subst e;rw[hm] at hc;cases hc
 have mM:=rG (qm:=qm) hI.l1 hI.l2;have F:=(a2 @hc @mM)
 cases hg:vV (.string s) es 0 with
 | some x=>
  obtain⟨j,p⟩:=x;have hlk:=lC hm ha hg;obtain⟨y,hy,rfl⟩:=mQ hg;obtain⟨_,i,e,hi⟩:=hI.n y hy;rw[e] at hlk;have hHas:Has es s:=by unfold Has;rw[hg];rfl
  obtain⟨rt,d,hf⟩:=hI.f;refine gf (a3 F @hlk @kE) ?_;refine zW (K4 (.k:: .v::K9 (K9 (K9 (K4 (D9 (D4 (.d:: .k::[])))))))) (fun (x:Nat)=>[i64 x]) (fun _=>h) (fun x=>x<es.length) (fun x=>d x) (own:=false) i rfl rfl hi ?_;intro x hx;refine gm ?_;obtain⟨aa1,aa2,aa3,aa4,aa5,aa6⟩:=hf x hx;have hx36:x<36:=by have:=hI.le;omega
  have c1:=cc_1 (qm:=qm) (tys:=tys) hI.l1 hx36;by_cases hr:cls.getD x 0=x
  ·have e1:(((cls.getD x 0:Nat):Int)!=(x:Int))=false:=by rw[hr];exact Jv _
   refine gf (a5 F @c1 @hx36 @zB @e1) ?_;exact⟨x,es,cls,rfl,hx,hr,Upd.refl hm hc,rfl,hI,Qf3,fun _=>⟨rfl,rfl⟩,fun _ h=>h,hHas⟩
  ·have e1:(((cls.getD x 0:Nat):Int)!=(x:Int))=true:=by rw[bne_iff_ne];omega
   refine gf (a5 F @c1 @hx36 @zB @e1) ?_;exact⟨_,aa1,(aa6 hr).2,rfl,rfl,rfl⟩
 | none=>
  have hlk:=lD hm ha hg;have hl:es.length<36:=hn.resolve_left (fun k=>by unfold Has at k;rw[hg] at k;cases k);refine gf (a3 F @hlk @kE) ?_;(refine wU ?_;intro sr hsr;simp only[go_sem,F,hlk,kE] at hsr;subst hsr;refine iR rfl (fun rd=>OpOk.lenMap rfl rfl rfl rfl rfl hm eG Qf3 ⟨rfl,rfl⟩) ?_;intro ts2 hts;simp only[go_sem] at hts;subst hts);have hms: ∀b,(h.set qm b)[qm]? =some b:=fun b=>Qh hqm;have hmc: ∀b,(h.set qm b)[qc]? =some (.var 378 (CC qm cls tys)):=fun b=>by rw[Qd hne];exact hc
  have hle:decide (es.length<=140737488355328)=true:=Qfk;have hgl: ∀p:Value×PV,(es++[p])[es.length]? =some p:=fun p=>by simp
  have hsl: ∀p q:Value×PV,(es++[p]).set es.length q=es++[q]:=fun p q=>by simp
  have c2:=cs_1 (qm:=qm) (v:=es.length) hI.l1 hI.l2 hl;refine zjA (a9 @hc @hm @hlk @kE @mM @eG @zh0 @zm1 (a9 @ha @hg @hle @hms @hmc @hgl @hsl @c2 (a2 @zB @hl))) ?_;have hI2:=hI.push hl s;have hgn:(cls.set es.length es.length).getD es.length 0=es.length:=by simp[hI.l1,hl]
  have c3:=cc_1 (qm:=qm) (tys:=tys) hI2.l1 hl;rw[hgn] at c3;have e1:((es.length:Int)!=(es.length:Int))=false:=Jv _;have hcl2:=rG (qm:=qm) hI2.l1 hI2.l2;have hqs: ∀b c,((h.set qm b).set qc c)[qc]? =some c:=fun b c=>Qh (by simpa using hqc);have hU:Upd qm qc (es++[(.string s,i64 (es.length:Nat))]) (cls.set es.length es.length) tys h ((h.set qm (.map (es++[(.string s,i64 (es.length:Nat))]))).set qc (.var 378 (CC qm (cls.set es.length es.length) tys))):=
   ⟨by rw[Qd (Ne.symm hne)];exact hms _,hqs _ _,fun r b h1 h2 h3=>by rw[Qd (Ne.symm h2),Qd (Ne.symm h1)];exact h3⟩
  refine zW (K4 (.k:: .v::K9 (K9 (K9 (K4 (D9 (D4 (.d:: .k::[])))))))) (fun (_:Unit)=>[i64 (es.length:Nat)]) (fun _=>_) (fun x=>True) (fun x=>0) (own:=false) () rfl rfl trivial ?_;intro _ _;refine gm ?_;refine gf (a6 @hqs @c3 @hcl2 @hl @zB @e1) ?_;refine⟨es.length,_,_,rfl,Qf4,hgn,hU,Qf4,hI2,Qf4,fun hh=> ?_,fun s' hs'=>lZ hs',gW⟩;unfold Has at hh;rw[hg] at hh;cases hh
end Go.AL
namespace Go.AL
open Go.Proofs Go.Proofs.Tryz
@[go_sem] def UTyp12f301.pl:Nat->DPlan
 |4=>⟨[yA,yB,yA,yA,yA,yA,yB,yA,yA,yA,yB,yA,yA,yB,yC,yA],xE,0⟩
 |_=>⟨[],[],0⟩
@[go_sem] def UTyp12f302.pl:Nat->DPlan
 |5=>⟨[yA,yA,yB,⟨6,0,[1005]⟩,yA,yA,⟨7,0,[1005]⟩,yC,yA,yA],xS,0⟩
 |6=>⟨[yA,yA,yA,yA,yA,yB,yA,yA,yA,yA,yA,yA,yA,yB,yA,yA,yA,yA,yA,yA,yA,yA,yB,yA,yA,yA,yA,yA,yB,yA,yA],yd1,0⟩
 |8=>⟨[yA,yA,yA,yA,yA,yA,yA,yB,yA,yA,yA,yA,yA,yB,yA,yA,yA,yA,yC],sI,0⟩
 |_=>⟨[],[],0⟩
attribute [-go_sem] only splice
theorem CI.tys{es:NM}{cls:List Nat}{tys tys':List Int}(h:CI es cls tys)(hl:tys'.length=36):CI es cls tys':=⟨h.n,h.le,h.l1,hl,h.f⟩
theorem CI.link{es:NM}{cls:List Nat}{tys:List Int}(h:CI es cls tys){i j:Nat}(hi:i<es.length)(hj:j<es.length)(ri:cls.getD i 0=i)(rj:cls.getD j 0=j):CI es (cls.set i j) tys:=by
 obtain⟨h1,h2,h3,h4,rt,d,h5⟩:=h;have hl:i<cls.length:=Qf3;have gs: ∀y,(cls.set i j).getD y 0=if y=i then j else cls.getD y 0:=fun y=>by
  rw[Qb,Qq,Qb];by_cases e:i=y
  ·subst e;simp[hl]
  ·simp[e,Ne.symm e]
 by_cases hij:i=j
 ·subst hij;refine⟨h1,h2,by simp[h3],h4,rt,d,fun x hx=> ?_⟩;have gs2: ∀y,(cls.set i i).getD y 0=cls.getD y 0:=fun y=>by
   rw[gs];split
   ·rename_i e;subst e;exact ri.symm
   ·rfl
  simp only[gs2];exact h5 x hx
 ·refine⟨h1,h2,by simp[h3],h4,fun x=>if rt x=i then j else rt x,fun x=>if rt x=i then d x+1 else d x,fun x hx=> ?_⟩;obtain⟨aa1,aa2,aa3,aa4,aa5,aa6⟩:=h5 x hx;obtain⟨i1,i2,i3,i4,i5,i6⟩:=h5 i hi;obtain⟨j1,j2,j3,j4,j5,j6⟩:=h5 j hj;obtain⟨r1,r2,r3,r4,r5,r6⟩:=h5 (rt x) aa2;have eri:=i5 ri;have erj:=j5 rj;have err:=r5 aa3;have hji:j≠i:=Ne.symm hij;simp only[gs];by_cases hx0:x=i
  ·subst hx0;simp only[eri,erj,Wk,hji,Wr];refine⟨hj,hj,rj,by rw[erj] at j4;exact j4,(by intro e;first|exact absurd e hji|cases e),fun _=>⟨trivial,?_⟩⟩;rw[erj] at j4;omega
  ·simp only[hx0,Wr];by_cases hr:rt x=i
   ·simp only[hr,Wk,erj,hji,Wr];refine⟨aa1,hj,rj,by rw[erj] at j4;exact j4,fun e=>absurd ((aa5 e).symm.trans hr) hx0,fun e=> ?_⟩;obtain⟨b1,b2⟩:=aa6 e;rw[<-b1,hr];simp only[Wk];exact⟨trivial,Qf3⟩
   ·simp only[hr,Wr,err];refine⟨aa1,aa2,aa3,aa4,aa5,fun e=> ?_⟩;obtain⟨b1,b2⟩:=aa6 e;rw[<-b1];simp only[hr,Wr];exact⟨trivial,b2⟩
theorem eZ(h:Heap)(qm qc:Nat)(es:NM)(cls:List Nat)(tys:List Int)(hm:h[qm]? =some (.map es))(hc:h[qc]? =some (.var 378 (CC qm cls tys)))(hI:CI es cls tys)(t:Tm)(k:Int)(hn:t.var≠eS->Has es t.var):
  ECall prog G0 351 [.ptr qc 0,.agg t.c,i64 k] h fun p h'=> ∃(b:Bool)(cls':List Nat)(tys':List Int),p=bo b/\Upd qm qc es cls' tys' h h'/\CI es cls' tys':=by
 refine pv func351 41 false Qf6 rfl rfl ?_;refine g2 ?_;obtain⟨v,⟨ty,n,sx⟩⟩:=t;dsimp only at*;by_cases hv:v=eS
 ·subst hv;refine gf @zA ?_;exact⟨_,cls,tys,rfl,(Upd.refl hm hc).app _,hI⟩
 ·have hU:=(Upd.refl hm hc).app [.var 315 [yQ v,i64 ty,i64 n,yQ sx]];refine gf (a2 @zA @hv) ?_;(refine g1f @zA ?_;refine zC (dM _ qm qc es cls tys hU.m hU.c hI v (.inl (hn hv))) ?_;intro p2 h2 hr2;refine g2 ?_);obtain⟨i,es',cls',rfl,hi,hri,hU2,hlen,hI2,hle,hsame,_,_⟩:=hr2;obtain⟨rfl,rfl⟩:=hsame (hn hv);have hU3:=hU.trans hU2;have hqc:qc<h2.length:=(gsi hU2.c).1;have hi36:i<36:=by have:=hI2.le;omega
  have c1:=zk1 (qm:=qm) hI2.l1 hI2.l2 hi36;have mM:=rG (qm:=qm) hI2.l1 hI2.l2;have h37:(37+i<73)=True:=Qfk;have hUc:=hU2.c;by_cases h0:tys.getD i 0=0
  ·rw[h0] at c1;have hqs: ∀c,(h2.set qc c)[qc]? =some c:=fun c=>Qh hqc;have c2:=cs_2 (qm:=qm) (v:=k) hI2.l1 hI2.l2 hi36;have hI3:=hI2.tys (tys':=tys.set i k) (by simp[hI2.l2]);have c3:=zk1 (qm:=qm) hI3.l1 hI3.l2 hi36;have c4:(tys.set i k).getD i 0=k:=by simp[hI2.l2,hi36]
   rw[c4] at c3;have hcl3:=rG (qm:=qm) hI3.l1 hI3.l2;have e0:((0:Int)==0)=true:=rfl;refine gf (a9 @hUc @c1 @mM @h37 @hi36 @zB @hqs @c2 (a3 @c3 @hcl3 @e0)) ?_;have hne:qm≠qc:=fun e=>by have:=hU2.m;rw[e,hU2.c] at this;cases this
   exact⟨_,_,_,rfl,⟨by rw[Qd (Ne.symm hne)];exact hU3.m,hqs _,fun r b h1 h2 h3=>by rw[Qd (Ne.symm h2)];exact hU3.k r b h1 h2 h3⟩,hI3⟩
  ·have e0:(tys.getD i 0==0)=false:=Qg8;refine gf (a7 @hUc @c1 @mM @h37 @hi36 @zB @e0) ?_;exact⟨_,_,_,rfl,hU3,hI2⟩
theorem Upd.get{qm qc:Nat}{es es':NM}{cls cls':List Nat}{tys tys':List Int}{h h':Heap}(u:Upd qm qc es' cls' tys' h h')(hm:h[qm]? =some (.map es))(hc:h[qc]? =some (.var 378 (CC qm cls tys))){r:Nat}{b:Blk}(hr:h[r]? =some b)(h1: ∀es,b≠ .map es)(h2: ∀cs,b≠ .var 378 cs):h'[r]? =some b:=
 u.k r b (fun e=>by subst e;rw[hm] at hr;cases hr;exact h1 _ rfl) (fun e=>by subst e;rw[hc] at hr;cases hr;exact h2 _ rfl) hr
open UTyp12f302 in
theorem zbF(h:Heap)(qm qc:Nat)(es:NM)(cls:List Nat)(tys:List Int)(hm:h[qm]? =some (.map es))(hc:h[qc]? =some (.var 378 (CC qm cls tys)))(hI:CI es cls tys)(a b:Tm)(ha:a.var≠eS->Has es a.var)(hb:b.var≠eS->Has es b.var):
  ECall prog G0 302 [.ptr qc 0,.agg a.c,.agg b.c] h fun p h'=> ∃(r:Bool)(cls':List Nat)(tys':List Int),p=bo r/\Upd qm qc es cls' tys' h h'/\CI es cls' tys':=by
 refine pv func302 92 false Qf6 rfl rfl ?_;refine g2 ?_;obtain⟨va,⟨ta,na,sa⟩⟩:=a;obtain⟨vb,⟨tb,nb,sb⟩⟩:=b;dsimp only at*;have hU:=(Upd.refl hm hc).app [.var 315 [yQ va,i64 ta,i64 na,yQ sa],.var 315 [yQ vb,i64 tb,i64 nb,yQ sb]];have ha0:(h++[.var 315 [yQ va,i64 ta,i64 na,yQ sa],.var 315 [yQ vb,i64 tb,i64 nb,yQ sb]])[h.length]? =some (.var 315 [yQ va,i64 ta,i64 na,yQ sa]):=by rw[xY];rfl
 have hb0:(h++[.var 315 [yQ va,i64 ta,i64 na,yQ sa],.var 315 [yQ vb,i64 tb,i64 nb,yQ sb]])[h.length+1]? =some (.var 315 [yQ vb,i64 tb,i64 nb,yQ sb]):=by rw[xN];rfl
 have F1:=(a2 @ha0 @hb0)
 by_cases hva:va=eS
 ·subst hva;refine gf F1 ?_;(refine g1f F1 ?_;refine zC (eZ _ qm qc es cls tys hU.m hU.c hI ⟨vb,tb,nb,sb⟩ ta hb) ?_;intro p2 h2 hr2;refine g2 ?_);exact Qd4
 ·by_cases hvb:vb=eS
  ·subst hvb;refine gf (a2 F1 @hva) ?_;(refine g1f F1 ?_;refine zC (eZ _ qm qc es cls tys hU.m hU.c hI ⟨va,ta,na,sa⟩ tb ha) ?_;intro p2 h2 hr2;refine g2 ?_);exact Qd4
  ·refine gf (a3 F1 @hva @hvb) ?_;have hl1:(h.length+1<h.length+1+1)=True:=Qf4;(refine zF rfl rfl rfl ?_;intro sr hsr;simp only[go_sem,F1] at hsr;subst hsr;refine xR rfl rfl (dM _ qm qc es cls tys hU.m hU.c hI va (.inl (ha hva))) (by
    rintro _ h' ⟨i,es',cls',_,_,_,hU2,_⟩ k hk _;have hk:k∈[1005]:=hk;simp only[Qp] at hk;subst hk;simp only[nu,Kw,Kv,Nat.reduceLT,Nat.reduceSub,Wr,Ql,Qn,Xv,Yd,Nat.reduceAdd,Nat.lt_add_one,Wk];(try rw[Qj Qf3]);rw[hb0,hU2.get hU.m hU.c hb0 Qf4 Qf4]) ?_;intro p2 h2 hr2;refine Go.AL.g2 ?_)
   obtain⟨i,es',cls',rfl,hi,hri,hU2,hlen,hI2,hle,hsame,_,_⟩:=hr2;obtain⟨rfl,rfl⟩:=hsame (ha hva);have hb2:=hU2.get hU.m hU.c hb0 Qf4 Qf4;have hl2:(h.length+1<h.length+2)=True:=Qf4;refine gf (a3 @hb2 @hl1 @hl2) ?_;(refine zF rfl rfl rfl ?_;intro zs zh;simp only[go_sem,hb2,hl1,hl2] at zh;subst zh;refine zP Qf5 Qf5 (dM _ qm qc es' cls' tys hU2.m hU2.c hI2 vb (.inl (hb hvb))) ?_;intro p2 h2 hr2;refine Go.AL.g2 ?_);obtain⟨j,es3,cls3,rfl,hj,hrj,hU3,hlen3,hI3,hle3,hsame3,_,_⟩:=hr2;obtain⟨rfl,rfl⟩:=hsame3 (hb hvb);have hU4:=(hU.trans hU2).trans hU3;have hUc:=hU3.c;have hqc:qc<h2.length:=(gsi hUc).1;have hi36:i<36:=by have:=hI3.le;omega
   have hj36:j<36:=by have:=hI3.le;omega
   have c1:=zk1 (qm:=qm) hI3.l1 hI3.l2 hi36;have c2:=zk1 (qm:=qm) hI3.l1 hI3.l2 hj36;have mM:=rG (qm:=qm) hI3.l1 hI3.l2;have h37:(37+i<73)=True:=Qfk;have h38:(37+j<73)=True:=Qfk;have hne:qm≠qc:=fun e=>by have:=hU4.m;rw[e,hUc] at this;cases this
   have hqs: ∀c,(h2.set qc c)[qc]? =some c:=fun c=>Qh hqc;have c3: ∀v:Int,splice (CC qm cls3 tys) (37+j) [i64 v]=CC qm cls3 (tys.set j v):=fun v=>cs_2 hI3.l1 hI3.l2 hj36;have l3: ∀v:Int,(tys.set j v).length=36:=fun v=>by simp[hI3.l2]
   have c4: ∀v:Int,splice (CC qm cls3 (tys.set j v)) (1+i) [i64 j]=CC qm (cls3.set i j) (tys.set j v):=fun v=>cs_1 hI3.l1 (l3 v) hi36;have F:=(a9 @hUc @c1 @c2 @mM @h37 @h38 @hi36 @hj36 (a4 @zB @c3 @c4 @hqs))
   have l4: ∀v:Int,(CC qm cls3 (tys.set j v)).length=73:=fun v=>rG hI3.l1 (l3 v);have fin: ∀v:Int, ∃(r:Bool)(cls':List Nat)(tys':List Int),bo true=bo r/\Upd qm qc es3 cls' tys' h (h2.set qc (.var 378 (CC qm (cls3.set i j) (tys.set j v))))/\CI es3 cls' tys':=fun v=>
    ⟨true,_,_,rfl,⟨by rw[Qd (Ne.symm hne)];exact hU4.m,hqs _,fun r b h1 h2 h3=>by rw[Qd (Ne.symm h2)];exact hU4.k r b h1 h2 h3⟩,(hI3.link hi hj hri hrj).tys (l3 v)⟩
   generalize tys.getD i 0=ti at*;generalize tys.getD j 0=tj at*;by_cases e1:ti=0
   ·subst e1;have f1:((0:Int)!=0)=false:=rfl;(repeat(first|refine gz ?_|(refine gn ?_;intro zs zh;(try simp only[go_sem,F,f1,l4,Zu] at zh);subst zh;refine gv ?_)|refine yD UTyp12f302.pl ?_));exact fin _
   ·have f1:(ti !=0)=true:=by simpa using e1
    by_cases e2:tj=0
    ·subst e2;have f2:((0:Int)!=0)=false:=rfl;(repeat(first|refine gz ?_|(refine gn ?_;intro zs zh;(try simp only[go_sem,F,f1,f2,l4,Zu] at zh);subst zh;refine gv ?_)|refine yD UTyp12f302.pl ?_));exact fin _
    ·have f2:(tj !=0)=true:=by simpa using e2
     by_cases e3:ti=tj
     ·have f3:(ti !=tj)=false:=by simp[e3]
      (repeat(first|refine gz ?_|(refine gn ?_;intro zs zh;(try simp only[go_sem,F,f1,f2,f3,l4,Zu] at zh);subst zh;refine gv ?_)|refine yD UTyp12f302.pl ?_));exact fin _
     ·have f3:(ti !=tj)=true:=by simp[e3]
      (repeat(first|refine gz ?_|(refine gn ?_;intro zs zh;(try simp only[go_sem,F,f1,f2,f3,l4,Zu] at zh);subst zh;refine gv ?_)|refine yD UTyp12f302.pl ?_));exact⟨false,cls3,tys,rfl,hU4,hI3⟩
attribute [go_sem] splice
theorem zhF(h:Heap)(qm qc qv:Nat)(es:NM)(cls:List Nat)(tys:List Int)(hm:h[qm]? =some (.map es))(hc:h[qc]? =some (.var 378 (CC qm cls tys)))(hv:h[qv]? =some (.var 375 [.ptr qc 0]))(hI:CI es cls tys)(l:List Tm)(hl:es.length+l.length<=36):
  ECall prog G0 299 [zrX l,.ptr qv 0] h fun _ h'=> ∃(es':NM)(cls':List Nat),Upd qm qc es' cls' tys h h'/\CI es' cls' tys/\es'.length<=es.length+l.length/\(∀s,Has es s->Has es' s)/\ ∀t∈l,t.var≠eS->Has es' t.var:=by
 refine pv func299 19 false Qf6 rfl rfl ?_;refine g2 ?_;refine ge ?_;refine zO l.length (K4 (.d:: .k:: .k:: .v::D9 (.d:: .d::[]))) (own:=false) (fun i (s:NM×List Nat×Heap)=>[i64 i]) (fun s=>s.2.2) (fun i s=>Upd qm qc s.1 s.2.1 tys h s.2.2/\CI s.1 s.2.1 tys/\s.1.length<=es.length+i/\(∀x,Has es x->Has s.1 x)/\ ∀t∈l.take i,t.var≠eS->Has s.1 t.var) (es,cls,h) rfl rfl ⟨Upd.refl hm hc,hI,Xe _,fun _ h=>h,Qf4⟩ Qf3 ?_ ?_
 ·rintro⟨es',cls',h'⟩ ⟨aa1,aa2,aa3,aa4,aa5⟩ t ht;dsimp only at*;simp only[zY] at ht;subst ht;refine gf @zM ?_;exact⟨es',cls',aa1,aa2,aa3,aa4,by rw[Yt] at aa5;exact aa5⟩
 ·rintro i ⟨es',cls',h'⟩ hi hw ⟨aa1,aa2,aa3,aa4,aa5⟩ t ht;dsimp only at*;simp only[zY] at ht;subst ht;have hx:=zG (f:=Tm.c) [] hi;have F:=(a5 @hi @hx @zB @hw @zA)
  have htk:=Xh hi;generalize l[i]=x at*;have hv':=aa1.get hm hc hv Qf4 Qf4;have hqv:qv<h'.length:=(gsi hv').1;have hqa: ∀b,(h'++[b])[qv]? =some (.var 375 [.ptr qc 0]):=fun b=>by rw[Qg hqv];exact hv'
  by_cases hs:x.var=eS
  ·obtain⟨v,k⟩:=x;dsimp only at hs;subst hs;refine gf (a2 F @zX) ?_;refine⟨(es',cls',_),⟨aa1.app _,aa2,by dsimp only;omega,aa4,fun t ht hne=> ?_⟩,rfl,rfl,rfl⟩;rw[htk] at ht;rcases Qo.1 ht with ht|ht
   ·exact aa5 t ht hne
   ·rw[Qp] at ht;subst ht;exact absurd rfl hne
  ·have hU:=aa1.app [.var 315 x.c];refine gf (a4 F @zX @hs @hqa) ?_;(refine g1f (a2 F @hqa) ?_;refine zC (dM _ qm qc es' cls' tys hU.m hU.c aa2 x.var (.inr Qf3)) ?_;intro p2 h2 hr2;refine g2 ?_);obtain⟨i',es2,cls2,rfl,hi2,hri,hU2,hlen,hI2,hle,hsame,hhas,hself⟩:=hr2;refine gf (a4 @hi @hx @zB @hw) ?_;refine⟨(es2,cls2,_),⟨hU.trans hU2,hI2,by dsimp only;omega,fun s hs=>hhas s (aa4 s hs),fun t ht hne=> ?_⟩,rfl,rfl,rfl⟩;rw[htk] at ht;rcases Qo.1 ht with ht|ht
   ·exact hhas _ (aa5 t ht hne)
   ·rw[Qp] at ht;subst ht;exact hself
open UTyp12f301 in
theorem nS(h:Heap)(qm qc qp:Nat)(es:NM)(cls:List Nat)(tys:List Int)(hm:h[qm]? =some (.map es))(hc:h[qc]? =some (.var 378 (CC qm cls tys)))(hI:CI es cls tys)(ps:List Pd)(L F R:PV)(m1 m2 m3:PV)(Rep:PV)
  (hs:h[6]? =some (.var 258 [L,F,.vec qp 7 (ps.map Pd.c),R,m1,m2,m3,Rep])) (j:Nat) (hj:j<ps.length) (l:List Tm) (hll:l.length<=4) (hl:l.length<=ps[j].types.length) (hn: ∀t∈l,t.var≠eS->Has es t.var):
  ECall prog G0 301 [.ptr 6 0,.ptr qc 0,i64 j,zrX l] h fun p h'=> ∃(b:Bool)(cls':List Nat)(tys':List Int),p=bo b/\Upd qm qc es cls' tys' h h'/\CI es cls' tys':=by
 refine pv func301 35 false Qf6 rfl rfl ?_;refine g2 ?_;refine ge ?_;refine zO l.length (K4 (K4 (.d:: .d:: .d:: .k:: .k:: .v::D9 (D9 (.d:: .d:: .d::[]))))) (own:=false) (fun i (s:List Nat×List Int×Heap)=>[i64 i]) (fun s=>s.2.2) (fun i s=>Upd qm qc es s.1 s.2.1 h s.2.2/\CI es s.1 s.2.1) (cls,tys,h) rfl rfl ⟨Upd.refl hm hc,hI⟩ Qf3 ?_ ?_
 ·rintro⟨cls',tys',h'⟩ ⟨aa1,aa2⟩ t ht;dsimp only at*;simp only[zY] at ht;subst ht;refine gf @zM ?_;exact⟨true,cls',tys',rfl,aa1,aa2⟩
 ·rintro i ⟨cls',tys',h'⟩ hi hw ⟨aa1,aa2⟩ t ht;dsimp only at*;simp only[zY] at ht;subst ht;have hx:=zG (f:=Tm.c) [] hi;have hxm:=hn _ (Qc hi);generalize l[i]=x at*;have hs':=aa1.get hm hc hs Qf4 Qf4;have hs6:6<h'.length:=(gsi hs').1;have hsa: ∀b,(h'++[b])[6]? =some (.var 258 [L,F,.vec qp 7 (ps.map Pd.c),R,m1,m2,m3,Rep]):=fun b=>by rw[Qg hs6];exact hs'
  have hU:=aa1.app [.var 315 x.c];have hy:=zG (f:=Pd.c) [] hj;generalize ps[j]=y at*;have hit:i<y.types.length:=Qf3;have hty:=zG (f:=fun n:Int=>[i64 n]) [] hit;have Z:=(a9 @hi @hx @zB @hw @zA @zX @hsa @hj (a3 @hy @hit @hty))
  refine gf Z ?_;(refine zF rfl rfl rfl ?_;intro zs zh;simp only[go_sem,Z] at zh;subst zh;refine zP Qf5 Qf5 (eZ _ qm qc es cls' tys' hU.m hU.c aa2 x y.types[i] hxm) ?_;intro p2 h2 hr2;refine Go.AL.g2 ?_);obtain⟨b,cls2,tys2,rfl,hU2,hI2⟩:=hr2;cases b with
  |true=>
   refine gf (a3 @hi @zB @hw) ?_;exact⟨(cls2,tys2,_),⟨hU.trans hU2,hI2⟩,rfl,rfl,rfl⟩
  |false=>
   refine gf (a3 @hi @zB @hw) ?_;exact⟨false,cls2,tys2,rfl,hU.trans hU2,hI2⟩
end Go.AL
