/-
  Part of the walk.
-/
import Derived.Test.YtlcjmejclpilhaaGreatDoorV21
import Derived.Deep.AppendSrc
import Derived.Lib.AppendStr
set_option linter.unusedSimpArgs false
set_option linter.unusedVariables false
set_option maxRecDepth 100000
set_option maxHeartbeats 4000000
namespace Go.AL
open Go.Proofs Go.Proofs.Tryz
@[go_sem] def UTyp14f164.pl:Nat->DPlan
 |2=>⟨[yA,yB,⟨6,0,[1003]⟩,yA,⟨7,0,[1003]⟩,yC,yA,yC,yA,yC],xS,0⟩
 |3=>⟨[yA,yA,⟨6,0,[1003]⟩,yA,⟨7,0,[1003]⟩,yC],znU,0⟩
 |9=>⟨[yA,yA,yA,⟨6,0,[1007]⟩,yA,yA,yA,⟨7,0,[1007]⟩,yC],uW,0⟩
 |_=>⟨[],[],0⟩
@[go_sem] def yF:DPlan:=⟨[yA,yB,⟨6,0,[1003]⟩,yA,⟨7,0,[1003]⟩,yC,yA,yC,yA,yC],xS,0⟩
theorem aU(h:Heap)(l:List Li)(hl:l.length<=1048576)(htb:zU 40 (.ts 9 (l.map Li.c))=true):ECall prog G0 226 [.ts 9 (l.map Li.c)] h fun V h'=>(l=[]/\V= .ts 9 []/\h'=h)\/(V= .ms h.length 0 9 l.length/\h'=h++[.var 194 (l.map Li.c).flatten]):=by
 cases l with
 |nil=>
  refine((zgE [] Qf1 htb).call zK (by simp[xX]) h).mono ?_;rintro p h' ⟨rfl,rfl⟩;exact .inl ⟨rfl,rfl,rfl⟩
 |cons x l=>
  refine zbX (own:=true) func226 rfl Qf3 (show _=[.ts 9 ((x::l).map Li.c),.ud,.ud,.ud,.ud,.ud,.ud,.ud] from rfl) ?_;simp only[Qn] at hl;have hb1:((l.length+1)*112<=140737488355328)=True:=Qfh;have hb2:(l.length<=140737488355327)=True:=Qfh;refine gf (a4 @zhQ @vX @hb1 @hb2) ?_;exact .inr ⟨rfl,rfl⟩
def BJ(J:Heap)(B:PV)(body:List Li):Prop:=(body=[]/\B= .ts 9 [])\/ ∃q,B= .ms (q+7) 0 9 body.length/\J[q]? =some (.var 194 (body.map Li.c).flatten)
theorem BJ.len{h:Heap}{B:PV}{body:List Li}(k:BJ h B body):pI (α:=Prop) prog 189 B=some (i64 body.length,True):=by
 have e:(wX prog 189).isSome=true:=Qf3;rcases k with ⟨rfl,rfl⟩|⟨qb,rfl,_⟩<;>simp only[pI,e,Wk]<;>rfl
theorem BJ.at{J:Heap}{B:PV}{body:List Li}(k:BJ J B body)(b0 b1:Blk)(pc:List PV)(ml mf mp:NM)(L F P R Rep:PV):BodyAt (SH b0 b1 pc ml mf mp L F P R Rep J) B body:=by
 rcases k with h|⟨q,h1,h2⟩
 ·exact .inl h
 ·exact .inr ⟨q+7,_,h1,h2⟩
theorem GrowN.len{off:Nat}{rp:List (Int×Int)}{J:Heap}{V:PV}(h:GrowN off 253 (iV rp) 2 J V):pI (α:=Prop) prog 179 V=some (i64 rp.length,True):=by
 have e:(wX prog 179).isSome=true:=Qf3;rcases h with ⟨h0,rfl⟩|⟨q,rfl,_⟩
 ·have:rp=[]:=Qg5;subst this;simp only[pI,e,Wk];rfl
 ·simp only[pI,e,Wk,Qr];rfl
theorem Sc.mono{pQ:List La}{fs:List (Fu×PV)}{ps:List Pd}{ml mf mp:NM}{L F P:PV}{J J':Heap}(h:Sc pQ fs ps ml mf mp L F P J)(k: ∀(t:TypeId)(els:List (List PV))(k:Nat)(V:PV),t≠253->GrowN 7 t els k J V->GrowN 7 t els k J' V):Sc pQ fs ps ml mf mp L F P J':=
 ⟨h.lo,h.ll,k _ _ _ _ Qf2 h.l,k _ _ _ _ Qf2 h.f,h.fl,k _ _ _ _ Qf2 h.p,h.pl,h.pb,h.ml,h.mf,h.mp⟩
theorem oD{J J':Heap}(h: ∀(r:Nat)(b:Blk),J[r]? =some b->J'[r]? =some b){off:Nat}{t:TypeId}{els:List (List PV)}{k:Nat}{V:PV}(hG:GrowN off t els k J V):GrowN off t els k J' V:=by
 rcases hG with hG|⟨q,h1,hq⟩
 ·exact .inl hG
 ·exact .inr ⟨q,h1,h q _ hq⟩
theorem ze1(l:List Li):zU 40 (.ts 9 (l.map Li.c))=true:=all_map fun x=>by
 simp only[zU,Wm,Jb,Zw,Jk];exact all_map fun _=>rfl
attribute [-go_sem] only pI
theorem BJ.mono{J J':Heap}{B:PV}{body:List Li}(k:BJ J B body)(h: ∀(q:Nat)(cs:List PV),J[q]? =some (.var 194 cs)->J'[q]? =some (.var 194 cs)):BJ J' B body:=by
 rcases k with h1|⟨q,h1,h2⟩
 ·exact .inl h1
 ·exact .inr ⟨q,h1,h _ _ h2⟩
structure RI(J0:Heap)(pQ:List La)(fs:List (Fu×PV))(ps:List Pd)(ml mf mp:NM)(L F P:PV)(C:List PV)(B:PV)(n rp0:Nat)(hd:Prop)(i:Nat)(bd:List Li)(rp:List (Int×Int))(Rep:PV)(J:Heap):Prop where
 aa1:J[J0.length]? =some (.var 191 C)
 aa2:J[J0.length+1]? =some (.var 191 [yQ ⟨#[]⟩,i64 0,.nil,i64 0,yQ ⟨#[]⟩,yQ ⟨#[]⟩,i64 0,.nil,i64 0])
 aa3:Keep J0 J
 aa4:BJ J B bd
 al:bd.length=n
 aa5:Sc pQ fs ps ml mf mp L F P J
 aa6:GrowN 7 253 (iV rp) 2 J Rep
 aa7:rp0<=rp.length
 aa7':rp.length<=rp0+1+i
 aa8: ∀l∈bd,l.fm
 aa9:rp.length=rp0->hd/\ ∀l∈bd.take i,LitK ps l l.pred
theorem zlP{b0 b1:Blk}{pc:List PV}{ml mf mp:NM}{L F P R Rep:PV}{J h':Heap}(h: ∀(r:Nat)(b:Blk),(SH b0 b1 pc ml mf mp L F P R Rep J)[r]? =some b->h'[r]? =some b): ∃J',h'=SH b0 b1 pc ml mf mp L F P R Rep J'/\ ∀(r:Nat)(b:Blk),J[r]? =some b->J'[r]? =some b:=by
 have e0:=h 0 _ rfl;have e1:=h 1 _ rfl;have e2:=h 2 _ rfl;have e3:=h 3 _ rfl;have e4:=h 4 _ rfl;have e5:=h 5 _ rfl;have e6:=h 6 _ rfl
 match h',e0,e1,e2,e3,e4,e5,e6,h with
 |a0::aa1::aa2::aa3::aa4::aa5::aa6::J',e0,e1,e2,e3,e4,e5,e6,h=>
  simp only[Ws,Wf,Option.some.injEq] at e0 e1 e2 e3 e4 e5 e6;subst e0 e1 e2 e3 e4 e5 e6;exact⟨J',rfl,fun r b hr=>h (r+7) b hr⟩
open UTyp14f164 in
theorem zi1(b0 b1:Blk)(pc:List PV)(ml mf mp:NM)(L F P R Rep:PV)(J:Heap)(pQ:List La)(fs:List (Fu×PV))(ps:List Pd)(hS:Sc pQ fs ps ml mf mp L F P J)(rp:List (Int×Int))(hrp:rp.length<=1000)(hG:GrowN 7 253 (iV rp) 2 J Rep)(x:Ru)(hx:x.fm):
  ECall prog G0 164 [.ptr 6 0,.agg x.c] (SH b0 b1 pc ml mf mp L F P R Rep J) fun p h'=> ∃(x':Ru)(B Rep':PV)(J':Heap)(rp':List (Int×Int)),p= .agg (RuC x' B)/\h'=SH b0 b1 pc ml mf mp L F P R Rep' J'/\BJ J' B x'.body/\Keep J J'/\GrowN 7 253 (iV rp') 2 J' Rep'/\rp.length<=rp'.length/\rp'.length<=rp.length+10:=by
 refine pv func164 70 false Qf3 rfl rfl ?_;refine g2 ?_;have hla:=hx.a;have hlb:=hx.b;have hlR:=hG.len;refine gf (a3 @hlR @xY @xN) ?_;(refine yf1 (a2 @xY @xN) ?_;refine xR rfl rfl ((bI x.args Qf0 (all_map fun _=>rfl)).call zK Qf1 _) Qh9 (yf0 ?_);rintro p2 h2 ⟨rfl,rfl⟩);have h7a:(J.length+7<J.length+1+1+1+1+1+1+1+1+1)=True:=Qf1;refine gf (a3 @xY @xN @h7a) ?_;(refine yf1 (a2 @xY @xN) ?_;refine zP Qf2 Qf2 (aU _ x.body Qf0 (ze1 _)) (yf0 ?_);intro p2 h2 hr2);obtain⟨J2,rfl,hJ2x,hJ2z,hJ2k,hBJ,hBge⟩: ∃J2,h2=SH b0 b1 pc ml mf mp L F P R Rep J2/\J2[J.length]? =some (.var 191 x.c)/\J2[J.length+1]? =some (.var 191 [yQ ⟨#[]⟩,i64 0,.nil,i64 0,yQ ⟨#[]⟩,yQ ⟨#[]⟩,i64 0,.nil,i64 0])/\(∀(r:Nat)(b:Blk),J[r]? =some b->J2[r]? =some b)/\BJ J2 p2 x.body/\(∀q n,p2= .ms (q+7) 0 9 n->J.length<=q):=by
  rcases hr2 with ⟨hb0,rfl,rfl⟩|⟨rfl,rfl⟩
  ·exact⟨J++[.var 191 x.c,.var 191 [yQ ⟨#[]⟩,i64 0,.nil,i64 0,yQ ⟨#[]⟩,yQ ⟨#[]⟩,i64 0,.nil,i64 0]],rfl,by rw[xY];rfl,by rw[xN];rfl,fun r b h=>by rw[Qg (gsi h).1];exact h,.inl ⟨hb0,rfl⟩,fun q n h=>by cases h⟩
  ·refine⟨(J++[.var 191 x.c,.var 191 [yQ ⟨#[]⟩,i64 0,.nil,i64 0,yQ ⟨#[]⟩,yQ ⟨#[]⟩,i64 0,.nil,i64 0]])++[.var 194 (x.body.map Li.c).flatten],rfl,by rw[Qv,xY];rfl,by rw[Qv,xN];rfl,fun r b h=>by rw[Qv,Qg (gsi h).1];exact h,.inr ⟨_,rfl,Wb ..⟩,fun q n h=>by
    simp only[PV.ms.injEq,Qn,Ql,Xv] at h;omega⟩
 obtain⟨Bd,hBd⟩: ∃B,B=p2:=⟨_,rfl⟩
 subst hBd;have hlt2:J.length<J2.length:=(gsi hJ2x).1;have hqs: ∀b,(J2.set J.length b)[J.length]? =some b:=fun b=>Qh hlt2;(repeat(first|refine gz ?_|(refine gn ?_;intro zs zh;(try simp only[go_sem,hJ2x,hqs,Wi] at zh);subst zh;refine gv ?_)|refine zQ yF _ 2 Qf3 ?_));refine zF rfl rfl rfl ?_;intro sr hsr;obtain⟨c,hc,rfl⟩: ∃c:Prop,c/\sr=SR.val .ud (SH b0 b1 pc ml mf mp L F P R Rep (J2.set J.length (.var 191 (RuC x Bd)))) c:=by
  clear hr2;rcases hBJ with ⟨_,rfl⟩|⟨q,rfl,_⟩<;>simp only[go_sem,hJ2x,hqs,Wi] at hsr<;>exact⟨_,by trivial,hsr.symm⟩
 refine zI Qf2 hc ?_;intro ts2 hts;simp only[zZ,Xn,Xl] at hts;subst hts;clear hsr;(repeat(first|refine gz ?_|(refine gn ?_;intro zs zh;(try simp only[go_sem,hJ2x,hqs,Wi] at zh);subst zh;refine gv ?_)|refine zQ yF _ 2 Qf3 ?_));have h3x:=hqs (.var 191 (RuC x Bd));have h3z:(J2.set J.length (.var 191 (RuC x Bd)))[J.length+1]? =some (.var 191 [yQ ⟨#[]⟩,i64 0,.nil,i64 0,yQ ⟨#[]⟩,yQ ⟨#[]⟩,i64 0,.nil,i64 0]):=by rw[Qd Qf0];exact hJ2z
 have h3k: ∀(r:Nat)(b:Blk),J[r]? =some b->(J2.set J.length (.var 191 (RuC x Bd)))[r]? =some b:=fun r b h=>by
  have:=(gsi h).1;rw[Qd Qf0];exact hJ2k r b h
 have h3B:BJ (J2.set J.length (.var 191 (RuC x Bd))) Bd x.body:=by
  rcases hBJ with h|⟨q,h1,h2⟩
  ·exact .inl h
  ·refine .inr ⟨q,h1,?_⟩;have:J.length≠q:=fun e=>by subst e;rw[hJ2x] at h2;cases h2
   rw[Qd this];exact h2
 have h3S:=hS.mono (fun _ _ _ _ _=>oD h3k);have h3G:=oD h3k hG;generalize J2.set J.length (.var 191 (RuC x Bd))=J3 at*;clear hr2 hqs hlt2 hBJ hJ2k hJ2z hJ2x J2 h7a;have h3lt:J.length<J3.length:=(gsi h3x).1;((try(with_reducible refine qP ?_));(with_reducible refine zaX (id:=3) ?_);refine nP (own:=false) wN zK ⟨[⟨0,0,[]⟩,⟨0,0,[]⟩,⟨4,0,[]⟩,⟨0,0,[]⟩,⟨1,0,[]⟩,⟨4,0,[]⟩],[],0⟩ [0,1,3] 2 4 [5] Qf3 ?_;intro n2 hn2;(try simp only[Qn,Xv,Ql,Yd,Nat.reduceAdd] at hn2);subst hn2;intro l2 hl2;simp only[Jc] at hl2;subst hl2;intro ds hds;simp only[Xa,Wj] at hds;subst hds;intro h2 hh2;(try simp only[rY,Ww,Ku,Xz,Xx,Yj,Qv] at hh2);subst hh2);(repeat(first|refine gz ?_|(refine gn ?_;intro zs zh;(try simp only[go_sem,h3x] at zh);subst zh;refine gv ?_)|refine zQ yF _ 2 Qf3 ?_));obtain⟨p,h',⟨e,pd,ix,J4,rfl,rfl,hbut,h4x,hres⟩,hcall⟩:=zjI b0 b1 pc ml mf mp L F P R Rep J3 pQ fs ps h3S J.length x Bd h3x hla;have h4x:J4[J.length]? =some (.var 191 [yQ x.name,i64 pd,zrX x.args,i64 x.elem.kind,yQ x.elem.name,yQ x.elem.var,i64 ix,Bd,i64 x.at']):=h4x;have h4z:J4[J.length+1]? =some (.var 191 [yQ ⟨#[]⟩,i64 0,.nil,i64 0,yQ ⟨#[]⟩,yQ ⟨#[]⟩,i64 0,.nil,i64 0]):=hbut _ _ Qf0 h3z;have h4k: ∀(r:Nat)(b:Blk),J[r]? =some b->J4[r]? =some b:=fun r b h=>hbut _ _ (by have:=(gsi h).1;omega) (h3k r b h);have h4B:BJ J4 Bd x.body:=h3B.mono fun q cs h=>hbut q _ (fun e=>by subst e;rw[h3x] at h;cases h) h;have h4S:=hS.mono (fun _ _ _ _ _=>oD h4k);have h4G:=oD h4k hG;apply Exists.intro;apply Exists.intro;refine⟨?_,?_,?_⟩
 ·exact Qao
 ·(repeat(first|refine gz ?_|(refine gn ?_;intro zs zh;(try simp only[go_sem,h3x] at zh);subst zh;refine gv ?_)|refine zQ yF _ 2 Qf3 ?_));exact Qao
 ·(refine yf1 @h4x ?_;refine zP Qf2 Qf2 (wZ b0 b1 pc ml mf mp L F P R Rep J4 rp Qf0 h4G e x.at') (yf0 ?_);rintro p2 h2 ⟨Rep5,J5,rfl,h5G,h5k⟩);have h5x:=h5k _ _ h4x Qf1;have h5z:=h5k _ _ h4z Qf1;have h5K:Keep J J5:=fun r b h hn=>h5k r b (h4k r b h) hn;have h5B:BJ J5 Bd x.body:=h4B.mono fun q cs h=>h5k q _ h Qf1;have h5S:=h4S.mono (fun _ _ _ _ ht hG=>h5k.grow ht hG);have hlB:=h5B.len;(repeat(first|refine gz ?_|(refine gn ?_;intro zs zh;(try simp only[go_sem,h5x,hlB] at zh);subst zh;refine gv ?_)|refine zQ yF _ 2 Qf3 ?_));refine zO x.body.length (K4 (.k:: .k:: .d:: .d::K9 (K9 (K4 (.v::D9 (D9 (D4 (.d:: .d::K9 (K4 (.k:: .k::[])))))))))) (own:=false) (fun i (s:List Li×List (Int×Int)×PV×Heap)=>[i64 i]) (fun s=>SH b0 b1 pc ml mf mp L F P R s.2.2.1 s.2.2.2) (fun i s=>RI J pQ fs ps ml mf mp L F P [yQ x.name,i64 pd,zrX x.args,i64 x.elem.kind,yQ x.elem.name,yQ x.elem.var,i64 ix,Bd,i64 x.at'] Bd x.body.length rp.length (e=0) i s.1 s.2.1 s.2.2.1 s.2.2.2) (x.body,bU rp e x.at',Rep5,J5) rfl rfl ⟨h5x,h5z,h5K,h5B,rfl,h5S,h5G,zaO ..,vB ..,hx.l,fun h=>⟨by
   unfold bU at h;split at h
   ·assumption
   ·simp at h,Qf1⟩⟩ Qf0 ?_ ?_
  ·rintro⟨bd,rp2,ReBd,J6⟩ hI t ht;dsimp only at*;simp only[zY] at ht;subst ht;have hlR6:=hI.aa6.len;have h6x:=hI.aa1;have h6z:=hI.aa2;have ha7:=hI.aa7;have ha7':=hI.aa7';by_cases heq:rp2.length=rp.length
   ·have e6:((rp2.length:Int)==(rp.length:Int))=true:=by rw[heq];exact beq_self_eq_true _
    obtain⟨he0,hlits⟩:=hI.aa9 heq;have hbdl:=hI.al;rw[<-hbdl,Yt] at hlits;refine Qck ?_;(refine g1f (a3 @hlR6 @h6x @e6) ?_;refine zC (zu5 b0 b1 pc ml mf mp L F P R ReBd J6 pQ fs ps hI.aa5 {x with pred:=pd,elem:={x.elem with ix:=ix},body:=bd} Bd ⟨hx.a,by dsimp only;omega,hI.aa8,hx.n⟩ (hI.aa4.at b0 b1 pc ml mf mp L F P R ReBd) (hres he0) hlits) (yf0 ?_);rintro p2 h2 ⟨e7,at7,rfl,hext⟩);obtain⟨J7,rfl,h7k⟩:=zlP hext;have h7G:=oD h7k hI.aa6;have h7x:=h7k _ _ h6x;have h7z:=h7k _ _ h6z;(repeat(first|refine gz ?_|(refine gn ?_;intro zs zh;(try simp only[go_sem,h7x] at zh);subst zh;refine gv ?_)|refine zQ yF _ 2 Qf3 ?_));(refine g1f @h7x ?_;refine zC (wZ b0 b1 pc ml mf mp L F P R ReBd J7 rp2 Qf0 h7G e7 at7) (yf0 ?_);rintro p2 h2 ⟨Rep8,J8,rfl,h8G,h8k⟩);have h8x:=h8k _ _ h7x Qf1;have h8z:=h8k _ _ h7z Qf1;have h8K:Keep J J8:=fun r b hb hn=>h8k r b (h7k r b (hI.aa3 r b hb hn)) hn;have h8B:BJ J8 Bd bd:=hI.aa4.mono fun q cs hq=>h8k q _ (h7k q _ hq) Qf1;have hge:=zaO rp2 e7 at7;have hle:=vB rp2 e7 at7;have h8lt:J.length+1<J8.length:=(gsi h8z).1;have h8s: ∀b,(J8.set (J.length+1) b)[J.length+1]? =some b:=fun b=>Qh h8lt;(repeat(first|refine gz ?_|(refine gn ?_;intro zs zh;(try simp only[go_sem,h8x,h8z,h8s] at zh);subst zh;refine gv ?_)|refine zQ yF _ 2 Qf3 ?_));refine⟨{x with pred:=pd,elem:={x.elem with ix:=ix},body:=bd},Bd,Rep8,J8.set (J.length+1) (.var 191 [yQ x.name,i64 pd,zrX x.args,i64 x.elem.kind,yQ x.elem.name,yQ x.elem.var,i64 ix,Bd,i64 x.at']),bU rp2 e7 at7,rfl,rfl,h8B.mono fun q cs hq=> ?_,fun r b hb hn=> ?_,h8G.set2 h8z Qf1 _,Qf0,Qf0⟩
    ·have:J.length+1≠q:=fun e=>by subst e;rw[h8z] at hq;cases hq
     rw[Qd this];exact hq
    ·have:=(gsi hb).1;rw[Qd Qf0];exact h8K r b hb hn
   ·have e6:((rp2.length:Int)==(rp.length:Int))=false:=Qfr;refine Qck ?_;have h8lt:J.length+1<J6.length:=(gsi h6z).1;have h8s: ∀b,(J6.set (J.length+1) b)[J.length+1]? =some b:=fun b=>Qh h8lt;(repeat(first|refine gz ?_|(refine gn ?_;intro zs zh;(try simp only[go_sem,h6x,h6z,h8s] at zh);subst zh;refine gv ?_)|refine zQ yF _ 2 Qf3 ?_));refine⟨{x with pred:=pd,elem:={x.elem with ix:=ix},body:=bd},Bd,ReBd,J6.set (J.length+1) (.var 191 [yQ x.name,i64 pd,zrX x.args,i64 x.elem.kind,yQ x.elem.name,yQ x.elem.var,i64 ix,Bd,i64 x.at']),rp2,rfl,rfl,hI.aa4.mono fun q cs hq=> ?_,fun r b hb hn=> ?_,hI.aa6.set2 h6z Qf1 _,ha7,Qf0⟩
    ·have:J.length+1≠q:=fun e=>by subst e;rw[h6z] at hq;cases hq
     rw[Qd this];exact hq
    ·have:=(gsi hb).1;rw[Qd Qf0];exact hI.aa3 r b hb hn
  ·rintro i ⟨bd,rp2,ReBd,J6⟩ hi hw hI t ht;have Z1:=(a3 @hi @hw @zB)
   dsimp only at*;simp only[zY] at ht;subst ht;have h6x:=hI.aa1;have hbl:=hI.al;have hib:i<bd.length:=Qf0;have hlf:=hI.aa8 _ (Qc hib);have hdec:bd=bd.take i++bd[i]::bd.drop (i+1):=by rw[<-Zt hib,Kk]
   rcases hI.aa4 with ⟨hb0,_⟩|⟨q,hBq,hq⟩
   ·rw[hb0] at hib;simp at hib
   obtain⟨l,hle⟩: ∃l,bd[i]=l:=⟨_,rfl⟩
   rw[hle] at hdec hlf;have hpl:((bd.take i).map Li.c).flatten.length=i*9:=by rw[sP,Xk];congr 1;omega
   have hflat:(bd.map Li.c).flatten=((bd.take i).map Li.c).flatten++(l.c++((bd.drop (i+1)).map Li.c).flatten):=by
    conv=>lhs;rw[hdec]
    simp
   have hq2:=hq;rw[hflat] at hq2;obtain⟨pre,hpre⟩: ∃pre,((bd.take i).map Li.c).flatten=pre:=⟨_,rfl⟩
   obtain⟨suf,hsuf⟩: ∃suf,((bd.drop (i+1)).map Li.c).flatten=suf:=⟨_,rfl⟩
   rw[hpre] at hq2 hpl hflat;rw[hsuf] at hq2 hflat;subst hBq;obtain⟨lk,ln,lp,la,lb,le,ll,lo,lat⟩:=l;have hla4:=hlf.a;dsimp only at hla4;simp only[Xx,Yj] at hq2;have d1:=fun ys k=>iJ hpl ys k;have d2:=fun ys k=>iA hpl ys k;have d3:=fun ys=>lT hpl ys;have d4: ∀ys j k,(pre++ys).drop (i*9+j+k)=ys.drop (j+k):=fun ys j k=>by rw[Ji];exact d1 ys _
   have Z:=(a5 @d1 @d2 @d3 @d4 @hpl)
   have hset:J6.set q (.var 194 (pre++i64 lk::yQ ln::i64 lp::zrX la::yQ lb::yQ le::i64 ll::i64 lo::i64 lat::suf))=J6:=by
    obtain⟨hlt,hee⟩:=gsi hq2;rw[<-hee,Js]
   refine Qel ?_;(refine g1f (a6 Z1 Z @h6x @hq2 @hib @hset) ?_;refine zC ((bI la Qf0 (all_map fun _=>rfl)).call zK Qf1 _) (yf0 ?_);rintro p2 h2 ⟨rfl,rfl⟩);refine Qel ?_;obtain⟨p,h',⟨e9,pd9,ls9,J7,rfl,rfl,hbut9,h7q,hres9⟩,hcall9⟩:=aM b0 b1 pc ml mf mp L F P R ReBd J6 pQ fs ps hI.aa5 q (i*9) 194 pre suf hpl ⟨lk,ln,lp,la,lb,le,ll,lo,lat⟩ hlf hq2;simp only[Xx,Yj] at h7q;((try(with_reducible refine qP ?_));(with_reducible refine zaX (id:=9) ?_);refine nP (own:=false) wN zK ⟨[⟨0,0,[]⟩,⟨0,0,[]⟩,⟨0,0,[]⟩,⟨4,0,[]⟩,⟨0,0,[]⟩,⟨0,0,[]⟩,⟨0,0,[]⟩,⟨1,0,[]⟩,⟨4,0,[]⟩],[],0⟩ [0,1,2,4,5,6] 3 7 [8] Qf3 ?_;intro n2 hn2;(try simp only[Qn,Xv,Ql,Yd,Nat.reduceAdd] at hn2);subst hn2;intro l2 hl2;simp only[Jc] at hl2;subst hl2;intro ds hds;simp only[Xa,Wj] at hds;subst hds;intro h2 hh2;(try simp only[rY,Ww,Ku,Xz,Xx,Yj,Qv] at hh2);subst hh2);refine Qel ?_;have h7x:=hbut9 _ _ (fun e=>by subst e;rw[h6x] at hq2;cases hq2) h6x;have h7z:=hbut9 _ _ (fun e=>by have h6z:=hI.aa2;rw[e,hq2] at h6z;cases h6z) hI.aa2;have h7S:Sc pQ fs ps ml mf mp L F P J7:=hI.aa5.mono (fun _ _ _ _ _ hG=>hbut9.grow hq2 Qf1 hG);have h7G:=hbut9.grow hq2 Qf1 hI.aa6;have ha7:=hI.aa7;have ha7':=hI.aa7';apply Exists.intro;apply Exists.intro;refine⟨?_,?_,?_⟩
   ·exact Qak
   ·refine Qel ?_;exact Qak
   ·(refine yf1 @h7q ?_;refine zP Qf2 Qf2 (wZ b0 b1 pc ml mf mp L F P R ReBd J7 rp2 Qf0 h7G e9 lat) (yf0 ?_);rintro p2 h2 ⟨Rep8,J8,rfl,h8G,h8k⟩);(repeat(first|refine gz ?_|(refine gn ?_;intro zs zh;(try simp only[go_sem,Z1] at zh);subst zh;refine gv ?_)|refine zQ yF _ 2 Qf3 ?_));have hlen9:=vB rp2 e9 lat;have hge9:=zaO rp2 e9 lat;have hqJ:=hBge q _ rfl;have hset2:bd.set i ⟨lk,ln,pd9,la,lb,le,ls9,lo,lat⟩=bd.take i++⟨lk,ln,pd9,la,lb,le,ls9,lo,lat⟩::bd.drop (i+1):=by
     rw[Ub,Qj hib]
    have htk2:(bd.set i ⟨lk,ln,pd9,la,lb,le,ls9,lo,lat⟩).take (i+1)=bd.take i++[⟨lk,ln,pd9,la,lb,le,ls9,lo,lat⟩]:=by
     rw[hset2,List.take_append,Yo Qfh];have:i+1-(bd.take i).length=1:=Qfh;rw[this];rfl
    refine⟨(bd.set i ⟨lk,ln,pd9,la,lb,le,ls9,lo,lat⟩,bU rp2 e9 lat,Rep8,J8),⟨h8k _ _ h7x Qf1,h8k _ _ h7z Qf1,fun r b hb hn=>h8k r b (hbut9 r b (by have:=(gsi hb).1;omega) (hI.aa3 r b hb hn)) hn,.inr ⟨q,by rw[Xb],?_⟩,by rw[Xb];exact hI.al,h7S.mono (fun _ _ _ _ ht hG=>h8k.grow ht hG),h8G,by dsimp only;omega,by dsimp only;omega,fun l hl=> ?_,fun h=> ?_⟩,rfl,rfl,rfl⟩
    ·have:((bd.set i ⟨lk,ln,pd9,la,lb,le,ls9,lo,lat⟩).map Li.c).flatten=pre++i64 lk::yQ ln::i64 pd9::zrX la::yQ lb::yQ le::i64 ls9::i64 lo::i64 lat::suf:=by
      rw[hset2,<-hpre,<-hsuf];simp
     rw[this];exact h8k q _ h7q Qf1
    ·rcases Ze hl with hl|rfl
     ·exact hI.aa8 l hl
     ·exact⟨hlf.a,hlf.c,hlf.b⟩
    ·dsimp only at h;have h2:rp2.length=rp.length:=Qf0;have he9:e9=0:=by
      by_cases he:e9=0
      ·exact he
      ·unfold bU at h;rw[Qi he,Ql,Wp] at h;omega
     obtain⟨hd9,hl9⟩:=hI.aa9 h2;refine⟨hd9,fun l hl=> ?_⟩;rw[htk2] at hl;rcases Qo.1 hl with hl|hl
     ·exact hl9 l hl
     ·rw[Qp] at hl;subst hl;exact hres9 he9
attribute [go_sem] only pI
@[go_sem] def yL:DPlan:=⟨[yA,yA,yA,yA,⟨1,0,[1002]⟩,yA,yA,yA,⟨1,0,[1002]⟩,yA,yA,yA,⟨5,1002,[]⟩,yA],wS,0⟩
attribute [-go_sem] only pI
abbrev RuB(y:Ru×PV):List PV:=RuC y.1 y.2
structure RS(pQ:List La)(fs:List (Fu×PV))(ps:List Pd)(ml mf mp:NM)(L F P:PV)(i:Nat)(rs:List (Ru×PV))(rp:List (Int×Int))(R Rep:PV)(J:Heap):Prop where
 s:Sc pQ fs ps ml mf mp L F P J
 g:GrowN 7 253 (iV rp) 2 J Rep
 r:GrowN 7 191 (rs.map RuB) 9 J R
 b: ∀y∈rs,BJ J y.2 y.1.body
 l:rs.length=i
 n:rp.length<=10*i
def RzK(p:Pg)(v:PV)(h:Heap):Prop:=(∃d:List (Int×Int),d≠[]/\ ∃V,(V= .ts 2 (iV d)\/V= .tc 2 (iV d)\/ ∃q,V= .vec q 2 (iV d))/\v= .tup [.agg [.nil,.nil,.nil,.nil],V])\/
 (p.fm/\ ∃(b0 b1:Blk)(ml mf mp:NM)(L F P R Rep:PV)(J:Heap)(fs:List (Fu×PV))(ps:List Pd)(rs:List (Ru×PV)),v= .tup [.agg [L,F,P,R],.nil]/\h=SH b0 b1 p.c ml mf mp L F P R Rep J/\
  GrowN 7 131 (p.pQ.map La.c) 4 J L/\GrowN 7 183 (fs.map Fu.c2) 7 J F/\(∀x∈fs,x.2= .nil\/x.2=vF x.1.table)/\GrowN 7 73 (ps.map Pd.c) 7 J P/\GrowN 7 191 (rs.map RuB) 9 J R/\
  (∀y∈rs,BJ J y.2 y.1.body)/\fs.length=p.pZ.length/\ps.length=p.pk.length/\(∀x∈ps, -1<=x.of'/\x.of'<p.pQ.length/\x.types.length<=4)/\(∀x∈p.pQ,uE x=0)/\PzL p.pk ps)
theorem zlF{rp:List (Int×Int)}(h:rp.length≠0): ∃d:List (Int×Int),d≠[]/\List.take (if (20:Int)<(rp.length:Int) then 20 else(rp.length:Int)).toNat (iV rp)=iV d:=by
 refine⟨rp.take (if (20:Int)<(rp.length:Int) then 20 else(rp.length:Int)).toNat,fun e=> ?_,by rw[iV,iV,List.map_take]⟩;have:=Ym List.length e;rw[Xk,Xv] at this;split at this<;>omega
theorem fU(p:Pg)(hp:p.ok)(hle: ∀x∈p.pQ,x.pw.length<=1048576/\x.pJ.length<=1048576):ECall prog G0 100 [.agg p.c] [] (RzK p):=by
 refine pv func100 65 false Qf3 rfl rfl ?_;refine g2 ?_;(repeat(first|refine gz ?_|(refine gn ?_;intro zs zh;(try simp only[go_sem] at zh);subst zh;refine gv ?_)|refine zQ yL _ 11 Qf3 ?_));(refine g1 ?_;refine zC ((zdU p hp).call zK Qfb _) (yf0 ?_);rintro p2 h2 ⟨⟨b,rfl,hfm⟩,rfl⟩);cases b with
 |false=>
  (repeat(first|refine gz ?_|(refine gn ?_;intro zs zh;(try simp only[go_sem] at zh);subst zh;refine gv ?_)|refine zQ yL _ 11 Qf3 ?_));exact .inl ⟨[(1,0)],Qf1,_,.inr (.inl rfl),rfl⟩
 | true=>
  have hf:=hfm rfl;(repeat(first|refine gz ?_|(refine gn ?_;intro zs zh;(try simp only[go_sem] at zh);subst zh;refine gv ?_)|refine zQ yL _ 11 Qf3 ?_));(refine g1 ?_;refine zC (dV _ _ p hp hf hle) (yf0 ?_);rintro p2 h2 ⟨ml,mf,mp,L,F,P,Rep,J,rp,fs,ps,rfl,rfl,n1,n2,n3,gL,gF,hfb,gP,gR,hpl,hpb,hfl,hrl,hck,hpz⟩);have hlR:=gR.len;have hSc:Sc p.pQ fs ps ml mf mp L F P J:=⟨hp.l,hf.ll,gL,gF,by have:=hf.fl;omega,gP,by have:=hf.pl;omega,hpb,n1,n2,n3⟩
  by_cases hr0:rp.length=0
  ·have e0:((rp.length:Int)==0)=true:=by rw[hr0];rfl
   have hlQ:pI (α:=Prop) prog 25 (.ts 9 (p.pX.map Ru.c))=some (i64 p.pX.length,True):=by
    have e:(wX prog 25).isSome=true:=Qf3;simp only[pI,e,Wk,Qr];rfl
   (repeat(first|refine gz ?_|(refine gn ?_;intro zs zh;(try simp only[go_sem,hlR,e0,hlQ] at zh);subst zh;refine gv ?_)|refine zQ yL _ 11 Qf3 ?_));refine zO p.pX.length (K4 (.k:: .k:: .d::K9 (K4 (K4 (.v::D9 (D9 (K9 (K9 (K4 ([])))))))))) (own:=false) (fun i (s:List (Ru×PV)×List (Int×Int)×PV×PV×Heap)=>[i64 i]) (fun s=>SH _ _ p.c ml mf mp L F P s.2.2.1 s.2.2.2.1 s.2.2.2.2) (fun i s=>RS p.pQ fs ps ml mf mp L F P i s.1 s.2.1 s.2.2.1 s.2.2.2.1 s.2.2.2.2) ([],rp,.nil,Rep,J) rfl rfl ⟨hSc,gR,.inl ⟨rfl,rfl⟩,Qf1,rfl,by dsimp only;omega⟩ (by have:=hf.rl;omega) ?_ ?_
   ·rintro⟨rs,rp2,R,Rep2,J2⟩ ⟨i1,i2,i3,i4,i5,i6⟩ t ht;dsimp only at*;simp only[zY] at ht;subst ht;have hlR2:=i2.len;by_cases hr2:rp2.length=0
    ·have e2:decide ((0:Int)<(rp2.length:Int))=false:=by rw[Xo];omega
     (repeat(first|refine gz ?_|(refine gn ?_;intro zs zh;(try simp only[go_sem,zM,hlR2,e2] at zh);subst zh;refine gv ?_)|refine zQ yL _ 11 Qf3 ?_));exact .inr ⟨hf,_,_,_,_,_,_,_,_,_,_,_,fs,ps,rs,rfl,rfl,i1.l,i1.f,hfb,i1.p,i3,i4,hfl,hpl,hpb,hck (Xi hr0),hpz⟩
    ·have e2:decide ((0:Int)<(rp2.length:Int))=true:=by rw[Xm];omega
     obtain⟨q,rfl,hq⟩:=i2.vec (by rw[Qr];omega);have h18:(1<J2.length+1+1+1+1+1+1+1)=True:=Qf1;(repeat(first|refine gz ?_|(refine gn ?_;intro zs zh;(try simp only[go_sem,zM,hlR2,e2,h18,SH] at zh);subst zh;refine gv ?_)|refine zQ yL _ 11 Qf3 ?_));obtain⟨d,hd,ed⟩:=zlF hr2;exact .inl ⟨d,hd,_,.inl rfl,by rw[ed]⟩
   ·rintro i ⟨rs,rp2,R,Rep2,J2⟩ hi hw hI t ht;dsimp only at*;simp only[zY] at ht;subst ht;have hx:=zG (f:=Ru.c) [] hi;obtain⟨x,hxe⟩: ∃x,p.pX[i]=x:=⟨_,rfl⟩
    have hxf:x.fm:=hxe▸hf.r _ (Qc hi);rw[hxe] at hx;have Z:=(a4 @hi @hx @zB @hw)
    have Z1:=(a2 Z @zA)
    (repeat(first|refine gz ?_|(refine gn ?_;intro zs zh;(try simp only[go_sem,Z1,zX] at zh);subst zh;refine gv ?_)|refine zQ yL _ 11 Qf3 ?_));obtain⟨pv,h',⟨x',B,Rep3,J3,rp3,rfl,rfl,hBJ,hK,hG3,hle1,hle2⟩,hcall⟩:=zi1 _ _ p.c ml mf mp L F P R Rep2 (J2++[.var 191 x.c]) p.pQ fs ps (hI.s.mono (fun _ _ _ _ _ hG=>hG.app _)) rp2 (by have:=hI.n;have:=hf.rl;omega) (hI.g.app _) x hxf;have hRb: ∀y∈rs,BJ J3 y.2 y.1.body:=fun y hy=>(hI.b y hy).mono fun q cs hq=>hK q _ (by rw[Qg (gsi hq).1];exact hq) Qf1;have hS3:=hI.s.mono (fun _ _ _ _ ht hG=>hK.grow ht (hG.app [.var 191 x.c]));have hr3:=hK.grow Qf2 (hI.r.app [.var 191 x.c]);have hn:=hI.n;have hl:=hI.l;((try(with_reducible refine qP ?_));(with_reducible refine zaX (id:=8) ?_);refine nP (own:=false) wN zK ⟨[⟨0,0,[]⟩,⟨0,0,[]⟩,⟨0,0,[]⟩,⟨0,0,[]⟩,⟨0,0,[]⟩,⟨1,0,[]⟩,⟨0,0,[]⟩,⟨1,0,[]⟩,⟨4,0,[]⟩,⟨0,0,[]⟩,⟨4,0,[]⟩,⟨0,0,[]⟩,⟨0,0,[]⟩,⟨0,0,[]⟩,⟨4,0,[]⟩],[],0⟩ [0,1,2,3,4,6,7] 5 8 [9,10,11,12,13,14] Qf3 ?_;intro n2 hn2;(try simp only[Qn,Xv,Ql,Yd,Nat.reduceAdd] at hn2);subst hn2;intro l2 hl2;simp only[Jc] at hl2;subst hl2;intro ds hds;simp only[Xa,Wj] at hds;subst hds;intro h2 hh2;(try simp only[rY,Ww,Ku,Xz,Xx,Yj,Qv] at hh2);subst hh2);refine Qes ?_;apply Exists.intro;apply Exists.intro;refine⟨?_,?_,?_⟩
    ·(repeat(first|refine gz ?_|(refine gn ?_;intro zs zh;(try simp only[go_sem,Z] at zh);subst zh;refine gv ?_)|refine zQ yL _ 11 Qf3 ?_));exact Qai
    ·refine Qes ?_;exact Qai
    ·have h6J:(6<J3.length+1+1+1+1+1+1+1)=True:=Qf1;rcases hr3 with ⟨h0,rfl⟩|⟨q,rfl,hq⟩
     ·have hrs:rs=[]:=Qg5;subst hrs;(repeat(first|refine gz ?_|(refine gn ?_;intro zs zh;(try simp only[go_sem,Z,h6J] at zh);subst zh;refine gv ?_)|refine zQ yL _ 11 Qf3 ?_));exact⟨([(x',B)],rp3,_,Rep3,_),⟨hS3.mono (fun _ _ _ _ _ hG=>hG.app _),hG3.app _,.inr ⟨J3.length,Qf1,Qf1⟩,by simpa using hBJ.mono fun q cs hq=>by rw[Qg (gsi hq).1];exact hq,by simpa using hl.symm,by dsimp only;omega⟩,rfl,rfl,rfl⟩
     ·simp only[Qr] at hq;have h40:rs.length<=40:=by have:=hf.rl;omega
      have hql:q<J3.length:=(gsi hq).1;(repeat(first|refine gz ?_|(refine gn ?_;intro zs zh;(try simp only[go_sem,Z,h6J,hq] at zh);subst zh;refine gv ?_)|refine zQ yL _ 11 Qf3 ?_));have hm: ∀z:Ru×PV,BJ J3 z.2 z.1.body->BJ (J3.set q (.vec 191 9 (rs.length+1))) z.2 z.1.body:=fun z hz=>hz.mono fun q2 cs hq2=>by
       have:q≠q2:=fun e=>by subst e;rw[hq] at hq2;cases hq2
       rw[Qd this];exact hq2
      refine⟨(rs++[(x',B)],rp3,_,Rep3,_),⟨⟨hS3.lo,hS3.ll,hS3.l.set2 hq Qf1 _,hS3.f.set2 hq Qf1 _,hS3.fl,hS3.p.set2 hq Qf1 _,hS3.pl,hS3.pb,hS3.ml,hS3.mf,hS3.mp⟩,hG3.set2 hq Qf1 _,.inr ⟨q,by rw[Xq];rfl,by rw[Qh hql];simp⟩,fun y hy=> ?_,by simp;omega,by dsimp only;omega⟩,rfl,rfl,rfl⟩;rcases Qo.1 hy with hy|hy
      ·exact hm y (hRb y hy)
      ·rw[Qp] at hy;subst hy;exact hm _ hBJ
  ·have e0:((rp.length:Int)==0)=false:=Qfr;have e1:decide ((0:Int)<(rp.length:Int))=true:=by rw[Xm];omega
   obtain⟨q,rfl,hq⟩:=gR.vec (by rw[Qr];omega);have h18:(1<J.length+1+1+1+1+1+1+1)=True:=Qf1;(repeat(first|refine gz ?_|(refine gn ?_;intro zs zh;(try simp only[go_sem,hlR,e0,e1,h18,SH] at zh);subst zh;refine gv ?_)|refine zQ yL _ 11 Qf3 ?_));obtain⟨d,hd,ed⟩:=zlF hr0;exact .inl ⟨d,hd,_,.inl rfl,by rw[ed]⟩
attribute [go_sem] only pI
theorem fC(k:Nat): ∀(l:List (List PV))(_: ∀e∈l,e.length=k)(i:Nat)(hi:i<l.length),(l.flatten.drop (i*k)).take k=l[i]
 | [],_,i,hi=>by simp at hi
 |e::l,h,0,_=>by
  rw[Ki,List.drop_zero,Yl,List.take_left' (h e Qf1)];rfl
 |e::l,h,i+1,hi=>by
  rw[Yl,Nat.succ_mul,Nat.add_comm,<-Wy,List.drop_left' (h e Qf1),fC k l (fun e he=>h e Qfe) i Qg3];rfl
theorem rL(k:Nat)(l:List (List PV))(h: ∀e∈l,e.length=k):wA l.flatten 0 k l.length=l:=by
 apply Zc
 ·simp[wA]
 ·intro i h1 h2;have e:(wA l.flatten 0 k l.length)[i]? =some (wA l.flatten 0 k l.length)[i]:=Qa h1;have:=(vN e).2;rw[this,Yd,fC k l h i h2]
theorem mZ(f:Nat)(l:List BA):zU (f+2) (rR l)=true:=all_map fun _=>rfl
theorem eK(f:Nat)(l:List Int):zU (f+2) (vF l)=true:=all_map fun _=>rfl
theorem zaK(f:Nat)(l:List Tm):zU (f+2) (zrX l)=true:=all_map fun _=>rfl
theorem zlA(f:Nat)(x:La):x.c.all (zU (f+3))=true:=by
 have h1:=mZ (f+1) x.pw;have h2:zU (f+3) (.ts 2 (x.pJ.map fun c=>[i64 c.1,i64 c.2]))=true:=all_map fun _=>rfl;simp only[La.c,Wm,Jb,h1,h2,Zw,Jk];rfl
theorem tb_fu(f:Nat)(x:Fu):x.c.all (zU (f+3))=true:=by
 have h1:=mZ (f+1) x.fr;have h2:=mZ (f+1) x.to;have h3:=eK (f+1) x.table;simp only[Fu.c,Wm,Jb,h1,h2,h3,Zw,Jk];rfl
theorem zk8(f:Nat)(x:Pd):x.c.all (zU (f+3))=true:=by
 have h3:=eK (f+1) x.types;simp only[Pd.c,Wm,Jb,h3,Zw,Jk];rfl
theorem zk9(f:Nat)(x:Li):x.c.all (zU (f+3))=true:=by
 have h3:=zaK (f+1) x.args;simp only[Li.c,Wm,Jb,h3,Zw,Jk];rfl
theorem tb_ru(f:Nat)(x:Ru):x.c.all (zU (f+5))=true:=by
 have h3:=zaK (f+3) x.args;have h4:zU (f+5) (.ts 9 (x.body.map Li.c))=true:=all_map fun y=>zk9 (f+1) y;simp only[Ru.c,Wm,Jb,h3,h4,Zw,Jk];rfl
theorem tb_pg(f:Nat)(q:Pg):q.c.all (zU (f+7))=true:=by
 have h1:zU (f+7) (.ts 4 (q.pQ.map La.c))=true:=all_map fun y=>zlA (f+3) y;have h2:zU (f+7) (.ts 7 (q.pZ.map Fu.c))=true:=all_map fun y=>tb_fu (f+3) y;have h3:zU (f+7) (.ts 7 (q.pk.map Pd.c))=true:=all_map fun y=>zk8 (f+3) y;have h4:zU (f+7) (.ts 9 (q.pX.map Ru.c))=true:=all_map fun y=>tb_ru (f+1) y;simp only[Pg.c,Wm,Jb,h1,h2,h3,h4,Zw,Jk]
theorem zlN(f:Nat)(d:List (Int×Int)):zU (f+2) (.ts 2 (iV d))=true:=all_map fun _=>rfl
theorem zb0{n:Nat}{h:Heap}(f:Nat)(cs:List PV):fz n h (f+1) (.agg cs)= .agg (cs.map (fz n h f)):=by simp only[fz]
theorem zaV{n:Nat}{h:Heap}(f k:Nat)(els:List (List PV)):fz n h (f+1) (.ts k els)= .ts k (els.map fun e=>e.map (fz n h f)):=by simp only[fz]
theorem zl7{n:Nat}{h:Heap}(f k:Nat)(els:List (List PV)):fz n h (f+1) (.tc k els)= .tc k (els.map fun e=>e.map (fz n h f)):=by simp only[fz]
theorem zmA{h:Heap}(f r off k len:Nat){t:TypeId}{cs:List PV}(e:h[r]? =some (.var t cs)):fz 0 h (f+1) (.ms r off k len)= .ts k (wA (cs.map (fz 0 h f)) off k len):=by
 simp only[fz,Xt,Wr,e]
def znL(x:Fu×PV):Fu:=match x.2 with
 | .nil=>{x.1 with table:=[]}
 |_=>x.1
theorem dL{h:Heap}{f:Nat}{cs:List PV}(hc:cs.all (zU f)=true):cs.map (fz 0 h f)=cs:=uR fun x hx=>vE 0 h f x (by rw[Xg] at hc;exact hc x hx)
theorem GrowN.fz{t:TypeId}{els els':List (List PV)}{k:Nat}{J:Heap}{V:PV}(g:GrowN 7 t els k J V)(h:Heap)(f:Nat)(e:els.map (fun e=>e.map (fz 0 h f))=els'):PLe (fz 0 h (f+1) V) (.ts k els'):=by
 subst e;rcases g with ⟨rfl,rfl⟩|⟨q,rfl,_⟩
 ·rw[kX];exact PLe.nil_ts k
 ·rw[pD,zaV];exact PLe.refl _
theorem qI{α:Type}{h:Heap}{f:Nat}{l:List α}{c d:α->List PV}(e: ∀x∈l,(c x).map (fz 0 h f)=d x):(l.map c).map (fun e=>e.map (fz 0 h f))=l.map d:=by
 rw[Zg];exact Yq fun x hx=>e x hx
abbrev RsvK(p:Pg)(v:PV):Prop:= ∃(q:Pg)(d:List (Int×Int)),v= .tup [.agg q.c,.ts 2 (iV d)]/\(d=[]->p.fm/\q.pZ.length=p.pZ.length/\q.pk.length=p.pk.length/\(∀x∈q.pk, -1<=x.of'/\x.of'<p.pQ.length)/\(∀x∈p.pQ,uE x=0)/\PzL p.pk q.pk)
theorem cN(q:Pg)(d:List (Int×Int)):Tree (.tup [.agg q.c,.ts 2 (iV d)]):=yP 40 _ (by
 have h1:zU 39 (.agg q.c)=true:=tb_pg 31 q;have h2:=zlN 37 d;simp only[zU,Wm,Jb,h1,h2,Zw] at*;simp[h1,h2])
theorem aI(p:Pg)(hp:p.ok)(hle: ∀x∈p.pQ,x.pw.length<=1048576/\x.pJ.length<=1048576):EPure prog G0 100 [.agg p.c] (RsvK p):=by
 refine ECall.cutW (fU p hp hle) ?_;rintro v h (⟨d,hd,V,hV,rfl⟩|⟨hf,b0,b1,ml,mf,mp,L,F,P,R,Rep,J,fs,ps,rs,rfl,rfl,gL,gF,hfb,gP,gR,hB,hfl,hpl,hpb,hck,hpz⟩)
 ·refine⟨.tup [.agg (Pg.c ⟨[],[],[],[]⟩),.ts 2 (iV d)],?_,⟨⟨[],[],[],[]⟩,d,rfl,fun h=>absurd h hd⟩,cN _ _⟩;rw[dK 39];refine(PLes.cons ?_ (.cons ?_ .nil)).tup
  ·rw[zb0 38];simp only[Xa,Wj,kX 37];exact(PLes.cons (PLe.nil_ts _) (.cons (PLe.nil_ts _) (.cons (PLe.nil_ts _) (.cons (PLe.nil_ts _) .nil)))).agg
  ·have e:(iV d).map (fun e=>e.map (fz 0 h 38))=iV d:=qI fun x _=>rfl;rcases hV with rfl|rfl|⟨q,rfl⟩
   ·rw[zaV 38,e];exact PLe.refl _
   ·rw[zl7 38,e];exact PLe.tc_ts _ _
   ·rw[pD (f:=38),zaV 38,e];exact PLe.refl _
 ·obtain⟨H,hH⟩: ∃H,SH b0 b1 p.c ml mf mp L F P R Rep J=H:=⟨_,rfl⟩
  refine⟨.tup [.agg (Pg.c ⟨p.pQ,fs.map znL,ps,rs.map (·.1)⟩),.ts 2 (iV [])],?_,⟨_,[],rfl,fun _=>⟨hf,by simpa using hfl,hpl,fun x hx=>⟨(hpb x hx).1,(hpb x hx).2.1⟩,hck,hpz⟩⟩,cN _ _⟩;rw[dK 39];refine(PLes.cons ?_ (.cons ?_ .nil)).tup
  ·rw[hH];have e0:fz 0 H 39 (.agg [L,F,P,R])= .agg [fz 0 H 38 L,fz 0 H 38 F,fz 0 H 38 P,fz 0 H 38 R]:=by rw[zb0 38];rfl
   rw[e0];refine(PLes.cons ?_ (.cons ?_ (.cons ?_ (.cons ?_ .nil)))).agg
   ·exact gL.fz H 37 (qI fun x _=>dL (zlA 34 x))
   ·refine(gF.fz H 37 (els':=fs.map Fu.c2) (qI fun x hx=> ?_)).trans ?_
    ·refine dL ?_;have h1:=mZ 35 x.1.fr;have h2:=mZ 35 x.1.to;have h3:=eK 35 x.1.table;have h4:zU 37 x.2=true:=by rcases hfb x hx with e|e<;>rw[e];rfl;exact h3
     simp only[Fu.c2,Wm,Jb,h1,h2,h4,Zw,Jk];rfl
    ·rw[Zg];refine PLes.ts_map fun x hx=> ?_;rcases hfb x hx with e|e
     ·simp only[Function.comp,znL,e,Fu.c2,Fu.c];exact .cons (PLe.refl _) (.cons (PLe.refl _) (.cons (PLe.refl _) (.cons (PLe.refl _) (.cons (PLe.refl _) (.cons (PLe.nil_ts 1) (.cons (PLe.refl _) .nil))))))
     ·simp only[Function.comp,znL,e,Fu.c2,Fu.c];exact PLes.refl _
   ·exact gP.fz H 37 (qI fun x _=>dL (zk8 34 x))
   ·rw[Zg];refine gR.fz H 37 (qI fun y hy=> ?_);have h1:=vE 0 H 37 _ (zaK 35 y.1.args);have h2:fz 0 H 37 y.2= .ts 9 (y.1.body.map Li.c):=by
     rcases hB y hy with ⟨e1,e2⟩|⟨q,e2,hq⟩
     ·rw[e1,e2];rfl
     ·have hq':H[q+7]? =some (.var 194 (y.1.body.map Li.c).flatten):=by rw[<-hH];exact hq
      rw[e2,zmA 36 _ _ _ _ hq'];have e3:((y.1.body.map Li.c).flatten).map (fz 0 H 36)=(y.1.body.map Li.c).flatten:=by
       refine dL ?_;rw[List.all_flatten];exact all_map fun x=>zk9 33 x
      rw[e3];have:=rL 9 (y.1.body.map Li.c) (by intro e he;obtain⟨x,_,rfl⟩:=Xf.1 he;rfl);rw[Qr] at this;rw[this]
    simp only[Function.comp,RuB,RuC,Ru.c,Xa,Wj,h1,h2,zaW 36]
  ·rw[kX];exact PLe.nil_ts 2
noncomputable def znY(f:FuncId)(args:List PV)(K:Bool->Prop):Bool:=
 open Classical in if EPure prog G0 f args (fun v=>v=bo true)/\K true then true else if h: ∃b:Bool,EPure prog G0 f args (fun v=>v=bo b)/\K b then Classical.choose h else false
theorem za3{f:FuncId}{args:List PV}{K:Bool->Prop}(h:EB f args K):EPure prog G0 f args (fun v=>v=bo (znY f args K))/\K (znY f args K):=by
 have h': ∃b:Bool,EPure prog G0 f args (fun v=>v=bo b)/\K b:=by
  obtain⟨v,⟨b,rfl,hb⟩,t,q⟩:=h;exact⟨b,⟨_,rfl,t,q⟩,hb⟩
 unfold znY;by_cases w:EPure prog G0 f args (fun v=>v=bo true)/\K true
 ·rw[Qj w];exact w
 ·rw[Qi w,dif_pos h'];exact Classical.choose_spec h'
theorem zf1{f:FuncId}{args:List PV}{K:Bool->Prop}(h:EPure prog G0 f args (fun v=>v=bo true))(k:K true):znY f args K=true:=by
 unfold znY;exact Qj ⟨h,k⟩
@[go_sem] def UEqf88.pl:Nat->DPlan
 |6=>⟨[yA,yA,yA,yB,yA,yA,yA,yB,yA],uW,0⟩
 |_=>⟨[],[],0⟩
@[go_sem] def UEqf101.pl:Nat->DPlan
 |6=>⟨[yA,yA,yA,yB,yA,yA,yA,yB,yA],uW,0⟩
 |_=>⟨[],[],0⟩
@[go_sem] def UEqf199.pl:Nat->DPlan
 |6=>⟨[yA,yA,yA,yB,yA,yA,yA,yB,yA],uW,0⟩
 |_=>⟨[],[],0⟩
theorem qK{α:Type}(X l:List α)(b:α):(X++l).set X.length b=X++l.set 0 b:=by rw[Zr _ _ (Xe _)];simp
theorem rN{α:Type}(X l:List α)(k:Nat)(b:α):(X++l).set (X.length+k) b=X++l.set k b:=by rw[Zr _ _ Qf0];simp
theorem rU{α:Type}(X l:List α):(X++l)[X.length]? =l[0]? :=by rw[Zj (Xe _)];simp
theorem sB{α:Type}(X l:List α)(k:Nat):(X++l)[X.length+k]? =l[k]? :=by rw[Zj Qf0];simp
theorem zs8(a b c d e f:Int):za2 (α:=Prop) prog 208 (.agg [i64 a,i64 b,i64 e]) (.agg [i64 c,i64 d,i64 f])=some (a==c&&(b==d&&(e==f&&true)),True):=by
 kernel_rfl
open UEqf101 in
theorem zmH(a b:List Int)(ha:a.length<=140737488355328):EB 101 [vF a,vF b] fun r=>r=true->a.length=b.length:=by
 refine ECall.pure (pv func101 26 false Qf3 rfl rfl ?_);refine g2 ?_;by_cases hl:a.length=b.length
 ·have hne:((a.length:Int)!=(b.length:Int))=false:=Qf5;refine gf @hne ?_;refine zO a.length (K4 (.d:: .d::K4 (.k:: .k:: .k:: .v::D9 (.d:: .d:: .d::[])))) (own:=false) (fun i (_:Unit)=>[i64 i]) (fun _=>_) (fun _ _=>True) () rfl rfl trivial ha ?_ ?_
  ·rintro _ _;refine gm ?_;refine gf @zM ?_;exact⟨⟨⟨_,rfl,fun _=>hl⟩,.sc⟩,rfl⟩
  ·rintro i _ hi hw _;refine gm ?_;have hlb:i<b.length:=Qf0;have hg:=zG (f:=(fun n:Int=>[i64 n])) [] hi;have hgb:=zG (f:=(fun n:Int=>[i64 n])) [] hlb;(have F:=(a6 @hi @hlb @hw @hg @hgb @zB);(repeat' (first|refine dR F ?_|refine dQ F (fun he=> ?_) (fun he=> ?_)|fail));all_goals clear F)
   ·exact⟨⟨⟨_,rfl,Qf1⟩,.sc⟩,rfl⟩
   ·exact Qbu
 ·have hne:((a.length:Int)!=(b.length:Int))=true:=Qfh;refine gf @hne ?_;exact Qbx
theorem zmF(a b:List Ru)(ha:a.length<=140737488355328)(g:FuncId)(hF: ∀x∈a, ∀y∈b,EB g [.agg x.c,.agg y.c]):EB 102 [.ts 9 (a.map Ru.c),.ts 9 (b.map Ru.c),.fn (.func g) [] []] fun r=>r=true->a.length=b.length:=by
 refine ECall.cut (R:=fun p _=> ∃r:Bool,p=bo r/\(r=true->a.length=b.length)) (pv func102 32 false Qf3 rfl rfl ?_) Qhb;refine g2 ?_;by_cases hl:a.length=b.length
 ·have hne:((a.length:Int)!=(b.length:Int))=false:=Qf5;refine gf @hne ?_;refine zO a.length (K4 (.k:: .k::D4 (K4 (.k:: .k:: .k:: .v::D9 (D4 (.d::[])))))) (own:=false) (fun i (_:Heap)=>[i64 i]) (fun J=>J) (fun _ _=>True) [] rfl rfl trivial ha ?_ ?_
  ·exact Qe3
  ·rintro i J hi hw _;refine gm ?_;have hlb:i<b.length:=Qf0;have hg:=zG (f:=Ru.c) [] hi;have hgb:=zG (f:=Ru.c) [] hlb;exact Qas
 ·exact Qex
theorem zmG(a b:List Li)(ha:a.length<=140737488355328)(g:FuncId)(hF: ∀x∈a, ∀y∈b,EB g [.agg x.c,.agg y.c]):EB 104 [.ts 9 (a.map Li.c),.ts 9 (b.map Li.c),.fn (.func g) [] []] fun r=>r=true->a.length=b.length:=by
 refine ECall.cut (R:=fun p _=> ∃r:Bool,p=bo r/\(r=true->a.length=b.length)) (pv func104 32 false Qf3 rfl rfl ?_) Qhb;refine g2 ?_;by_cases hl:a.length=b.length
 ·have hne:((a.length:Int)!=(b.length:Int))=false:=Qf5;refine gf @hne ?_;refine zO a.length (K4 (.k:: .k::D4 (K4 (.k:: .k:: .k:: .v::D9 (D4 (.d::[])))))) (own:=false) (fun i (_:Heap)=>[i64 i]) (fun J=>J) (fun _ _=>True) [] rfl rfl trivial ha ?_ ?_
  ·exact Qe3
  ·rintro i J hi hw _;refine gm ?_;have hlb:i<b.length:=Qf0;have hg:=zG (f:=Li.c) [] hi;have hgb:=zG (f:=Li.c) [] hlb;exact Qas
 ·exact Qex
@[go_sem] def UTyp17f44.pl:Nat->DPlan
 |7=>⟨[yA,yB,yA,yB,yA,yA,yA,yB,yA,yA,yA,yB,yA,yB,yA,yA,yA,yB,yC,yA,yA],pR,0⟩
 |13=>⟨[yA,yB,yA,yB,yA,yA,yA,yB,yA],uW,0⟩
 |_=>⟨[],[],0⟩
theorem eqEl(a d a' d':Int)(s t s' t':BA):za2 (α:=Prop) prog 188 (.agg [i64 a,yQ s,yQ t,i64 d]) (.agg [i64 a',yQ s',yQ t',i64 d'])=some (a==a'&&(decide (s=s')&&(decide (t=t')&&(d==d'&&true))),True):=by
 kernel_rfl
theorem aB(x y:Li):EB 105 [.agg x.c,.agg y.c]:=by
 refine ECall.cut (R:=fun v _=> ∃b:Bool,v=bo b) (pv func105 17 false Qf3 rfl rfl ?_) Qhl;refine g2 ?_;(repeat' (first|refine gp ?_|refine gs (fun he=> ?_) (fun he=> ?_)|fail));all_goals exact⟨_,rfl⟩
theorem zcW(x y:Ru)(hx:x.body.length<=140737488355328):EB 103 [.agg x.c,.agg y.c]:=by
 refine ECall.cut (R:=fun v _=> ∃b:Bool,v=bo b) (pv func103 24 false Qf3 rfl rfl ?_) Qhl;refine g2 ?_;have hq:=(zmG x.body y.body hx 105 (fun x _ y _=>aB x y)).call zK (by simp[zJ,yO]);(repeat' (first|refine gz ?_|(refine gn ?_;intro zs zh;(try simp only[go_sem,eqEl] at zh);subst zh;(first|refine gv ?_|(refine zC (hq _) ?_;intro p2 h2 hr2;obtain⟨hr2,rfl⟩:=hr2;first|obtain⟨_,rfl,hr2⟩:=hr2|obtain⟨_,rfl⟩:=hr2|subst hr2|skip)|(refine yS (fun he=> ?_) (fun he=> ?_)<;>(try simp only[mM] at he))))|((with_reducible refine tO rfl ?_);intro sr hsr;simp only[sK,wP] at hsr;subst hsr;(fail_if_success(with_reducible(first|refine tL ?_|refine tN ?_)));refine tK (fun he=> ?_) (fun he=> ?_)<;>(intro ts2 hts;simp only[wP] at hts;subst hts;(try simp only[mM] at he)))|fail));all_goals first|exact⟨_,rfl⟩|skip
def TvK(p:Pg):Prop:=p.fm/\(∀x∈p.pk, -1<=x.of'/\x.of'<p.pQ.length)/\(∀x∈p.pQ,uE x=0)/\ ∀x∈p.pk,x.lat=eS->x.of'= -1
open UTyp17f44 in
theorem mL(p:Pg)(hp:p.ok)(hle: ∀x∈p.pQ,x.pw.length<=1048576/\x.pJ.length<=1048576):EB 44 [.agg p.c] fun b=>b=true->TvK p:=by
 refine ECall.cut (R:=fun v _=> ∃b:Bool,v=bo b/\(b=true->TvK p)) (pv func44 70 false Qf3 rfl rfl ?_) Qhc;refine g2 ?_;refine ge ?_;(refine g1 ?_;refine zC ((aI p hp hle).call zK Qfb _) (yf0 ?_);rintro p2 h2 ⟨⟨q,d,rfl,hd⟩,rfl⟩);by_cases hd0:d.length=0
 ·have e0:decide ((0:Int)<(d.length:Int))=false:=by rw[Xo];omega
  obtain⟨hf,hfl,hpl,hpb,hck,hpz⟩:=hd (Xi hd0);have hf1:=hf.fl;have hf2:=hf.pl;have hf3:=hf.rl;refine gf @e0 ?_;refine zO p.pZ.length (.k:: .k:: .d:: .k:: .k:: .d:: .d::K9 (K4 (.v::D9 (D9 (D4 (D4 (K9 (K9 (K4 (.k::[])))))))))) (own:=false) (fun i (_:Heap)=>[i64 i]) (fun J=> .var 27 p.c:: .var 27 q.c::J) (fun _ _=>True) [] rfl rfl trivial Qf0 ?_ ?_
  ·rintro J _;refine gm ?_;refine gf @zM ?_;refine zO p.pk.length (.k:: .k:: .d::K4 (.d:: .d::K9 (K9 (K9 (K9 (K4 (.k:: .v::D9 (D4 (.d::K4 (.k::[])))))))))) (own:=false) (fun i (_:Heap)=>[i64 i]) (fun J=> .var 27 p.c:: .var 27 q.c::J) (fun i _=> ∀(j:Nat)(h:j<p.pk.length),j<i->(-1<=p.pk[j].of'/\p.pk[j].of'<p.pQ.length)/\(p.pk[j].lat=eS->p.pk[j].of'= -1)) J rfl rfl (fun j _ hj=>absurd hj (Xt _)) Qf0 ?_ ?_
   ·rintro J hI;refine gm ?_;refine gf @zM ?_;(refine g1 ?_;refine zC ((zmF p.pX q.pX Qf0 103 (fun x hx y _=>zcW x y (hp.r x hx).bl)).call zK (by simp[zJ,yO]) _) (yf0 ?_);rintro p2 h2 ⟨⟨b,rfl, -⟩,rfl⟩);refine ge ?_;exact⟨b,rfl,fun _=>⟨hf,fun x hx=>by obtain⟨j,hj,rfl⟩:=Qy hx;exact(hI j hj hj).1,hck,fun x hx=>by obtain⟨j,hj,rfl⟩:=Qy hx;exact(hI j hj hj).2⟩⟩
   ·rintro i J hi hw hI;refine gm ?_;have hiq:i<q.pk.length:=Qf0;have hx:=zG (f:=Pd.c) [] hi;have hy:=zG (f:=Pd.c) [] hiq;have F1:=(a8 @hi @hiq @hx @hy @hw @zB @zA @zX)
    by_cases he:p.pk[i].of'=q.pk[i].of'
    ·have e1:(p.pk[i].of' !=q.pk[i].of')=false:=Qfe;refine gf (a2 F1 @e1) ?_;refine⟨_,fun j h hj=> ?_,rfl,rfl,rfl⟩;rcases Xy j i with hji|hji
     ·exact hI j h hji
     ·have:j=i:=Qf0;subst this;rw[he];exact⟨hpb _ (Qc hiq),fun e=>hpz j hiq hi e⟩
    ·have e1:(p.pk[i].of' !=q.pk[i].of')=true:=Qfe;refine gf (a2 F1 @e1) ?_;exact Qbe
  ·rintro i J hi hw _;refine gm ?_;have hiq:i<q.pZ.length:=Qf0;have hx:=zG (f:=Fu.c) [] hi;have hy:=zG (f:=Fu.c) [] hiq;have F:=(a8 @hi @hiq @hx @hy @hw @zB @zA @zX)
   have hxo:=hp.f _ (Qc hi);by_cases he:p.pZ[i].of'=q.pZ[i].of'
   ·have e1:(p.pZ[i].of' !=q.pZ[i].of')=false:=Qfe;refine gf (a2 F @e1) ?_;(refine vY ?_;refine zN rfl rfl rfl ?_;intro sr hsr;simp only[sK,wP] at hsr;subst hsr;(first|refine pK ?_|refine pL ?_);intro sr hsr;simp only[go_sem,F,e1] at hsr;subst hsr;refine zP Qf2 Qf2 ((zmH p.pZ[i].table q.pZ[i].table hxo.tb).call zK Qfb _) (yf0 ?_);rintro p2 h2 ⟨⟨b,rfl, -⟩,rfl⟩);cases b
    ·refine gf (a2 F @e1) ?_;exact Qbe
    ·refine gf (a2 F @e1) ?_;exact Qd6
   ·have e1:(p.pZ[i].of' !=q.pZ[i].of')=true:=Qfe;refine gf (a2 F @e1) ?_;exact Qbe
 ·have e0:decide ((0:Int)<(d.length:Int))=true:=by rw[Xm];omega
  refine gf @e0 ?_;exact Qbe
noncomputable def zpQ(p:Pg):Bool:=znY 44 [.agg p.c] fun b=>b=true->TvK p
theorem zfC(p:Pg)(hp:p.ok)(hle: ∀x∈p.pQ,x.pw.length<=1048576/\x.pJ.length<=1048576):EPure prog G0 44 [.agg p.c] (fun v=>v=bo (zpQ p))/\(zpQ p=true->TvK p):=za3 (mL p hp hle)
theorem ze0(p:Pg)(hp:p.ok)(hle: ∀x∈p.pQ,x.pw.length<=1048576/\x.pJ.length<=1048576):EPure prog G0 44 [.agg p.c] (fun v=>v=bo (zpQ p))/\(zpQ p=true->p.fm/\(∀x∈p.pk, -1<=x.of'/\x.of'<p.pQ.length)/\ ∀x∈p.pQ,uE x=0):=⟨(zfC p hp hle).1,fun h=>by
 obtain⟨a,b,c, -⟩:=(zfC p hp hle).2 h;exact⟨a,b,c⟩⟩
theorem zsQ(p:Pg)(hp:p.ok)(hle: ∀x∈p.pQ,x.pw.length<=1048576/\x.pJ.length<=1048576)(h:zpQ p=true): ∀x∈p.pk,x.of'≠ -1->x.key=x.types.length:=fun x hx hof=>by
 obtain⟨a, -, -,d⟩:=(zfC p hp hle).2 h;obtain⟨-, -, -,e⟩:=a.p x hx;exact e.elim id fun q=>absurd (d x hx q) hof
def NoZ(s:BA)(n:Nat):Prop:= ∀i,i<n->i<s.size->s.get! i≠0
theorem zw0{s:BA}{i:Nat}(h:(Utf8.decode s i).1<128):(Utf8.decode s i).2=1/\(s.get! i).toNat=(Utf8.decode s i).1:=by
 unfold Utf8.decode at*;simp only[Utf8.runeError,Wn] at*;repeat' split at h
 all_goals first
  |(simp_all;done)
  |(exfalso;simp only[] at h;omega)
  |(exfalso;omega)
  |(exfalso;simp only[Qt,Xm] at*;omega)
theorem zvX(n:Int):EB 271 [i32 n] fun b=>b=false->0<n/\n<128:=by
 refine ECall.pure (pv func271 30 false Qf3 rfl rfl ?_);refine g2 ?_;(repeat' (first|refine gp ?_|refine gs (fun he=> ?_) (fun he=> ?_)|fail));all_goals first
  |exact⟨⟨⟨_,rfl,fun _=>by omega⟩,.sc⟩,rfl⟩
  |exact⟨⟨⟨_,rfl,fun h=>by simp at h;omega⟩,.sc⟩,rfl⟩
theorem zuD(s:BA)(g:FuncId)(hF: ∀n:Int,EB g [i32 n] fun b=>b=false->0<n/\n<128):EPure prog G0 367 [yQ s,.fn (.func g) [] [],bo true] fun p=> ∃n:Int,p=i64 n/\(n<0->NoZ s s.size):=by
 refine ECall.cut (R:=fun p _=> ∃n:Int,p=i64 n/\(n<0->NoZ s s.size)) (pv func367 21 false Qf3 rfl rfl ?_) Qhd;refine g2 ?_;have htm:kC prog 9=none:=Qf3;refine gf @htm ?_;refine zW (K4 (.k:: .k:: .d:: .d:: .d:: .k:: .k::D9 (.d::[]))) (fun (s:Nat)=>[]) (fun n=>[.siter s n]) (fun n=>NoZ s n) (fun n=>s.size-n) (own:=false) 0 rfl rfl (fun i h=>absurd h Qf0) ?_;rintro n hz;refine gm ?_;by_cases hn:n<s.size
 ·have hd:=aR s n;have hlow:=zw0 (s:=s) (i:=n);generalize hq:Utf8.decode s n=q at*;obtain⟨c,k⟩:=q;refine gf (a2 @hn @hq) ?_;(refine g1 ?_;refine zC ((hF c).call zK Qf1 _) (yf0 ?_);rintro p2 h2 ⟨⟨b,rfl,hb⟩,rfl⟩);dsimp only at hlow hd;cases b with
  |true=>
   refine ge ?_;exact⟨_,rfl,fun h=>by omega⟩
  | false=>
   obtain⟨h1,h2⟩:=hb rfl;obtain⟨k1,k2⟩:=hlow Qf0;refine ge ?_;exact⟨n+k,fun i hi hs=>by
    by_cases e:i<n
    ·exact hz i e hs
    ·obtain rfl:i=n:=Qf0;intro e0;rw[e0] at k2;have:(0:UInt8).toNat=0:=rfl;omega,Qf0,rfl,rfl,rfl⟩
 ·refine gf @hn ?_;exact⟨_,rfl,fun _ i hi hs=>hz i Qf0 hs⟩
theorem ztO(s:BA)(g:FuncId)(hF: ∀n:Int,EB g [i32 n] fun b=>b=false->0<n/\n<128):EI 328 [yQ s,.fn (.func g) [] []] fun n=>n<0->NoZ s s.size:=by
 refine ECall.cut (R:=fun p _=> ∃n:Int,p=i64 n/\(n<0->NoZ s s.size)) (pv func328 8 false Qf3 rfl rfl ?_) Qhd;refine g2 ?_;refine ge ?_;(refine g1 ?_;refine zC ((zuD s g hF).call zK Qfc _) (yf0 ?_);rintro p2 h2 ⟨⟨b,rfl,hb⟩,rfl⟩);refine ge ?_;exact⟨_,rfl,hb⟩
theorem zsH(s:BA)(g:FuncId)(hF: ∀n:Int,EB g [i32 n] fun b=>b=false->0<n/\n<128):EB 272 [yQ s,.fn (.func g) [] []] fun b=>b=false->NoZ s s.size:=by
 refine ECall.cut (R:=fun p _=> ∃b:Bool,p=bo b/\(b=false->NoZ s s.size)) (pv func272 9 false Qf3 rfl rfl ?_) Qhd;refine g2 ?_;refine ge ?_;(refine g1 ?_;refine zC ((ztO s g hF).call zK Qfc _) (yf0 ?_);rintro p2 h2 ⟨⟨b,rfl,hb⟩,rfl⟩);by_cases hn:0<=b
 ·have e1:decide (0<=b)=true:=by simp[hn]
  refine gf @e1 ?_;exact⟨_,rfl,fun h=>by cases h⟩
 ·have e1:decide (0<=b)=false:=by simp[hn]
  refine gf @e1 ?_;exact⟨_,rfl,fun _=>hb Qf0⟩
theorem zwT(s:BA):EB 194 [yQ s] fun b=>b=true->s.size<=16/\NoZ s s.size:=by
 refine ECall.pure (pv func194 30 false Qf3 rfl rfl ?_);refine g2 ?_;by_cases h0:s=⟨#[]⟩
 ·subst h0;(repeat' (first|refine gp ?_|refine gs (fun he=> ?_) (fun he=> ?_)|fail));exact Qbx
 have hp:=mN h0;(repeat' (first|refine gz ?_|(refine gn ?_;intro zs zh;(try simp only[go_sem,h0,g0_0,zuJ,zg6] at zh);subst zh;(first|refine gv ?_|((first|refine zC ((wC zm0 _ eI).call zK Qf1 _) ?_|refine zC ((zsH s _ zvX).call zK Qfc _) ?_);intro p2 h2 hr2;obtain⟨hr2,rfl⟩:=hr2;first|obtain⟨_,rfl,hr2⟩:=hr2|obtain⟨_,rfl⟩:=hr2|subst hr2|skip)|(refine yS (fun he=> ?_) (fun he=> ?_)<;>(try simp only[mM] at he))))|((with_reducible refine tO rfl ?_);intro sr hsr;simp only[sK,wP] at hsr;subst hsr;(fail_if_success(with_reducible(first|refine tL ?_|refine tN ?_)));refine tK (fun he=> ?_) (fun he=> ?_)<;>(intro ts2 hts;simp only[wP] at hts;subst hts;(try simp only[mM] at he)))|fail));all_goals first
  |exact⟨⟨⟨_,rfl,fun h=>absurd h Qf2⟩,.sc⟩,rfl⟩
  |exact⟨⟨⟨_,rfl,fun h=>⟨Qf0,hr2 Qfn⟩⟩,.sc⟩,rfl⟩
end Go.AL
namespace Go.AL
def VvZ(v:Vl):Prop:=(v.t=1/\v.s=⟨#[]⟩\/v.t=2/\v.n=0/\ ∀b∈v.s.data.toList,b≠0)/\0<=v.n/\v.n<=9999
def zhA(v:Vl):List UInt8:=if v.t=1 then [1,UInt8.ofNat (v.n / 256).toNat,UInt8.ofNat v.n.toNat] else 2::(v.s.data.toList++[0])
theorem cut0: ∀{a b x y:List UInt8},(∀c∈a,c≠0)->(∀c∈b,c≠0)->a++0::x=b++0::y->a=b/\x=y
 | [],[],_,_,_,_,h=>⟨rfl,(List.cons.inj h).2⟩
 | [],c::b,_,_,_,hb,h=>absurd (List.cons.inj h).1.symm (hb c (Qe ..))
 |c::a,[],_,_,ha,_,h=>absurd (List.cons.inj h).1 (ha c (Qe ..))
 |c::a,d::b,x,y,ha,hb,h=>by
  obtain⟨h1,h2⟩:=List.cons.inj h;obtain⟨h3,h4⟩:=cut0 (fun q hq=>ha q (Qf _ hq)) (fun q hq=>hb q (Qf _ hq)) h2;exact⟨by rw[h1,h3],h4⟩
theorem byte2{n m:Int}(h0:0<=n)(h1:n<=9999)(k0:0<=m)(k1:m<=9999)(a:UInt8.ofNat (n / 256).toNat=UInt8.ofNat (m / 256).toNat)(b:UInt8.ofNat n.toNat=UInt8.ofNat m.toNat):n=m:=by
 have a':=Ym UInt8.toNat a;have b':=Ym UInt8.toNat b;simp only[UInt8.toNat_ofNat'] at a' b';omega
theorem zwD: ∀{a b:List Vl},(∀v∈a,VvZ v)->(∀v∈b,VvZ v)->a.flatMap zhA=b.flatMap zhA->a=b
 | [],[],_,_,_=>rfl
 | [],y::b,_,_,h=>by
  rw[List.flatMap_nil,Yp] at h;unfold zhA at h;split at h<;>cases h
 |x::a,[],_,_,h=>by
  rw[List.flatMap_nil,Yp] at h;unfold zhA at h;split at h<;>cases h
 | x::a,y::b,ha,hb,h=>by
  rw[Yp,Yp] at h;obtain⟨hx,x0,x1⟩:=ha x (Qe ..);obtain⟨hy,y0,y1⟩:=hb y (Qe ..);have ih:=fun e=>zwD (a:=a) (b:=b) (fun v hv=>ha v (Qf _ hv)) (fun v hv=>hb v (Qf _ hv)) e;obtain⟨xt,xn,xs⟩:=x;obtain⟨yt,yn,ys⟩:=y;dsimp only at*;unfold zhA at h;rcases hx with ⟨rfl,rfl⟩|⟨rfl,rfl,hz⟩<;>rcases hy with ⟨rfl,rfl⟩|⟨rfl,rfl,hw⟩
  ·simp only[Wk,Xx,Yj,List.cons.injEq,true_and] at h;obtain⟨h1,h2,h3⟩:=h;rw[byte2 x0 x1 y0 y1 h1 h2,ih h3]
  ·simp at h
  ·simp at h
  ·simp only[show ¬((2:Int)=1) by decide,Wr,Xx,Qv,Yj,List.cons.injEq,true_and] at h;obtain⟨h1,h2⟩:=cut0 hz hw h;have e:xs=ys:=by
    have:xs.data=ys.data:=Array.ext' h1;cases xs;cases ys;simp_all
   rw[e,ih h2]
end Go.AL
namespace Go.AL
open Go.Proofs Go.Proofs.Tryz
theorem NoZ.list{s:BA}(h:NoZ s s.size): ∀b∈s.data.toList,b≠0:=fun b hb=>by
 obtain⟨i,hi,rfl⟩:=Qy hb;have hs:i<s.size:=Qg3;have:=h i hs hs;have e:s.get! i=s.data.toList[i]:=by
  have:i<s.data.size:=Qg3;rw[show s.get! i=s.data[i]! from rfl,getElem!_pos s.data i this];simp
 rwa [e] at this
def VvK(v:Vl):Prop:=v.s.size<=16/\(v.t=1\/v.t=2)/\0<=v.n/\v.n<=9999/\VvZ v
theorem jH(v:Vl):EB 142 [.agg v.c] fun b=>b=true->VvK v:=by
 refine ECall.cut (R:=fun p _=> ∃b:Bool,p=bo b/\(b=true->VvK v)) (pv func142 30 false Qf3 rfl rfl ?_) Qhb;refine g2 ?_;obtain⟨t,n,s⟩:=v;unfold VvK;dsimp only;have no:false=true->s.size<=16/\(t=1\/t=2)/\0<=n/\n<=9999/\VvZ ⟨t,n,s⟩:=nofun;by_cases h1:t=1
 ·have e1:(t==1)=true:=Qfa;by_cases h2:0<=n
  ·have e2:decide (0<=n)=true:=Qff;by_cases h3:n<=9999
   ·have e3:decide (n<=9999)=true:=by simp[h3]
    by_cases h4:s=⟨#[]⟩
    ·have e4:decide (s=⟨#[]⟩)=true:=by simp[h4]
     refine gf (a4 @e1 @e2 @e3 @e4) ?_;exact⟨_,rfl,fun _=>⟨by rw[h4];decide,.inl h1,h2,h3,.inl ⟨h1,h4⟩,h2,h3⟩⟩
    ·have e4:decide (s=⟨#[]⟩)=false:=by simp[h4]
     refine gf (a4 @e1 @e2 @e3 @e4) ?_;exact⟨_,rfl,no⟩
   ·have e3:decide (n<=9999)=false:=Qfh;refine gf (a3 @e1 @e2 @e3) ?_;exact⟨_,rfl,no⟩
  ·have e2:decide (0<=n)=false:=Qfh;refine gf (a2 @e1 @e2) ?_;exact⟨_,rfl,no⟩
 have e1:(t==1)=false:=Qfa;by_cases h2:t=2
 ·have e2:(t==2)=true:=Qff;by_cases h3:n=0
  ·have e3:(n==0)=true:=by simp[h3]
   refine gf (a3 @e1 @e2 @e3) ?_;(refine g1f (a3 @e1 @e2 @e3) ?_;refine zC ((zwT s).call zK Qf1 _) (yf0 ?_);rintro p2 h2 ⟨⟨b,rfl,hb⟩,rfl⟩);refine gf (a3 @e1 @e2 @e3) ?_;exact⟨_,rfl,fun h=>⟨(hb h).1,.inr h2,Qf0,Qf0,.inr ⟨h2,h3,(hb h).2.list⟩,by dsimp only;omega,by dsimp only;omega⟩⟩
  ·have e3:(n==0)=false:=by simp[h3]
   refine gf (a3 @e1 @e2 @e3) ?_;exact⟨_,rfl,no⟩
 ·have e2:(t==2)=false:=Qff;refine gf (a2 @e1 @e2) ?_;exact⟨_,rfl,no⟩
noncomputable def zoC(v:Vl):Bool:=znY 142 [.agg v.c] (fun b=>b=true->VvK v)
theorem zqC(v:Vl):EPure prog G0 142 [.agg v.c] (fun p=>p=bo (zoC v))/\(zoC v=true->VvK v):=za3 (jH v)
theorem zr2(v:Vl):EPure prog G0 142 [.agg v.c] fun p=>p=bo (zoC v):=(zqC v).1
def ArgX(types:List Int)(a:List Vl):Prop:=a.length=types.length/\ ∀(j:Nat)(h:j<a.length)(h':j<types.length),a[j].t=types[j]/\zoC a[j]=true
theorem jR{types:List Int}{a:List Vl}(h1:a.length=types.length)(h: ∀(j:Nat)(h:j<a.length)(h':j<types.length),j<a.length->a[j].t=types[j]/\zoC a[j]=true):ArgX types a:=⟨h1,fun j q q'=>h j q q' q⟩
theorem ArgX.sz{ty:List Int}{a:List Vl}(h:ArgX ty a): ∀v∈a,v.s.size<=1048576:=fun v hv=>by
 obtain⟨j,hj,rfl⟩:=Qy hv;have:=((zqC _).2 (h.2 j hj (by rw[<-h.1];exact hj)).2).1;omega
def ze7(l:La)(e:Int):Bool:=decide (0<=e/\e<(l.pw.length:Int))
@[go_sem] def UTyp18f125.pp:Nat->DPlan
 |9=>⟨[yB,yC,yA,yA,yA,yB,yA,yB,yA,yA,yB,yA,yA],yN,0⟩
 |15=>⟨[yA,yB,yA,yA,yA,yB,yA,yB,yA,yA,yA,yA,yA,yB,yB,uX,yA,yA,yA],sI,0⟩
 |_=>⟨[],[],0⟩
@[go_sem] def UTyp18f125.pl:Nat->DPlan
 |9=>⟨[yB,yC,yA,yA,yA,yB,yA,yB,yA,yA,yB,yA,yA],yN,0⟩
 |15=>⟨[yA,yB,yA,yA,yA,yB,yA,yB,yA,yA,yA,yA,yA,⟨7,0,[1003]⟩,yB,⟨6,0,[1003]⟩,yA,yA,yA],sI,0⟩
 |_=>⟨[],[],0⟩
def VfK(p:Pg)(pr el:Int)(args:List Vl):Prop:=p.fm/\(∀x∈p.pk, -1<=x.of'/\x.of'<p.pQ.length)/\ ∃i:Nat,pr=i/\ ∃h:i<p.pk.length,ArgX p.pk[i].types args/\ ∀k:p.pk[i].of'.toNat<p.pQ.length,0<=p.pk[i].of'->ze7 p.pQ[p.pk[i].of'.toNat] el=true
def Op1.ok(x:Op1):Prop:=x.args.length<=140737488355328/\ ∀a∈x.args,a.ok
def Co.ok(x:Co):Prop:=x.ops.length<=1099511627776/\ ∀a∈x.ops,a.ok
def Br.ok(x:Br):Prop:=x.name.size<=140737488355328
structure Rp.ok(r:Rp):Prop where
 cl:r.cs.length<=1099511627776
 c: ∀x∈r.cs,x.ok
 bl:r.bs.length<=1099511627776
 b: ∀x∈r.bs,x.ok
theorem lR(q:Pd):EB 78 [.agg q.c] fun b=>b=(q.of' != -1):=by
 refine ECall.cut (R:=fun v _=> ∃b:Bool,v=bo b/\b=(q.of' != -1)) (pv func78 6 false Qf3 rfl rfl ?_) Qhc;refine g2 ?_;refine ge ?_;exact⟨_,rfl,rfl⟩
end Go.AL
namespace Go.AL
open Go.RowKit Go.Lib
theorem cB{s:ByteArray}{i:Nat}{e:List PV}(h:(xH s)[i]? =some e): ∃c,e=[.sc (.int .u8 (UInt8.toNat c))]:=by
 unfold xH at h;rw[Qu] at h;cases hc:s.data.toList[i]? with
 |none=>rw[hc] at h;cases h
 |some c=>rw[hc] at h;cases h;exact⟨c,rfl⟩
theorem cA{S:St}{s:ByteArray}{i j:Nat}{e:List PV}{p:PV}{u:Value}(h:(xH s)[i]? =some e)(hp:e[j]? =some p)(hu:(strCells s)[i+j]? =some u):VRel S p u:=by
 unfold xH at h;rw[Qu] at h;cases hc:s.data.toList[i]? with
 |none=>rw[hc] at h;cases h
 | some c=>
  rw[hc] at h;cases h
  match j with
  |j+1=>simp at hp
  |0=>
   simp at hp;subst hp;unfold strCells at hu;rw[Wn,Qu,hc] at hu;cases hu;exact .sc (by have:=UInt8.toNat_lt c;simp[tJ,IntKind.min,IntKind.max,IntKind.signed,IntKind.bits];omega)
set_option maxHeartbeats 1000000 in
theorem jF{P:Program}{S:St}(hS:SRel S){t tx ty e:TypeId}{r k b:Nat}{els xs:List (List PV)}{bs:ByteArray}{u:Value}(ht:wD P t=some (e,k,b))(hk1:k=1)(hu:VRel S (.vec r k els) u)(hb:S.h[r]? =some (.vec e k els.length))
  (hx:P.underlying tx=some .string) (hxs:xs=xH bs) (hbytes:(els.length+xs.length)*b<=140737488355328) (hlen:els.length+xs.length<=140737488355328):
  ∃z w' φ',(Builtin.append_ #[t,tx] ty #[u,.string bs]).run P S.w= .ok z w'/\Ext S {S with φ:=φ',h:=S.h.set r (.vec e k (els.length+xs.length)),w:=w'}/\
   SRel {S with φ:=φ',h:=S.h.set r (.vec e k (els.length+xs.length)),w:=w'}/\VRel {S with φ:=φ',h:=S.h.set r (.vec e k (els.length+xs.length)),w:=w'} (.vec r k (els++xs)) z:=by
 obtain⟨htu,i,zv,hi,hz,hsz,hby,hzs,hk0⟩:=uH ht;have hr:r<S.h.length:=(gsi hb).1;have hmx:(140737488355328:Nat)<=maxLen:=Qfo;cases hu with
 | vec hts hb' hle ho=>
  rename_i n0 e0;rw[hb] at hb';cases hb';have hφ:=ho rfl;obtain⟨news,hnw⟩: ∃news,news=strCells bs:=⟨_,rfl⟩
  have hxl:xs.length=bs.size:=by rw[hxs,xC]
  have hs_len:news.length=xs.length*k:=by rw[hnw,strCells_length,hxl,hk1,Ju]
  have hs_elen: ∀(i:Nat)(e:List PV),xs[i]? =some e->e.length=k:=fun i e he=>by
   rw[hxs] at he;obtain⟨_,rfl⟩:=cB he;rw[hk1];rfl
  have hs_one: ∀u∈news,u.oneCell'=true:=by rw[hnw];exact strCells_oneCell bs
  have hs_rel: ∀(i:Nat)(e:List PV)(j:Nat)(p:PV)(u:Value),xs[i]? =some e->e[j]? =some p->news[i*k+j]? =some u->VRel S p u:=by
   intro i e j p u hi hp hu;rw[hxs] at hi;rw[hnw] at hu;subst hk1;exact cA hi hp Qfx
  rcases Yr xs.length with hx0|hx0
  ·have hxs0:xs=[]:=Xi hx0;have hb0:bs.size=0:=Qf0;rw[hxs0];refine⟨u,S.w,S.φ,?_,?_⟩
   ·obtain⟨a1,c1,ad1,val1,rfl,g1,g2,_⟩:=uU hts;have hbe:bs=⟨#[]⟩:=ByteArray.ext (Yu hb0);subst hbe;have hz0:(⟨#[]⟩:ByteArray).size=0:=rfl;simp[Builtin.append_,Xc htu,Xc hx,sizeOf,typeInfo,hi,Builtin.lenOf,hz0,Builtin.firstCells,g1];cases a1<;>simp[Builtin.firstCells,loadCells,loadCellsFrom,storeCells,hz0]
   ·exact Qax
  ·obtain⟨a1,c1,ad1,val1,hu1,g1,g2,g3,g4,g5,g6⟩:=uU hts;obtain⟨olds,holds⟩: ∃olds:List Value,olds=(List.range (els.length*k)).map val1:=⟨_,rfl⟩
   have hol:olds.length=els.length*k:=Qg8;have hog: ∀j v,olds[j]? =some v->j<els.length*k/\v=val1 j:=fun j v hj=>by
    exact Qa8
   have hor: ∀(i:Nat)(e:List PV)(j:Nat)(p:PV)(u:Value),els[i]? =some e->e[j]? =some p->olds[i*k+j]? =some u->VRel S p u:=fun i e j p u hi hp hu=>by
    exact Qby
   have hal:(olds++news).length=(els.length+xs.length)*k:=by rw[Ql,hol,hs_len,Wo]
   have hlenA:(els++xs).length=els.length+xs.length:=Ql;have hone: ∀u∈olds++news,u.oneCell'=true:=fun u hu=>by
    rcases Qo.1 hu with h|h
    ·obtain⟨j,hj,rfl⟩:=Qy h;obtain⟨hlt,he⟩:=hog j _ (Qa hj);rw[he];exact(g5 j hlt).2.1
    ·exact hs_one u h
   have fin: ∀(φ':List Value)(w':World)(b2 c2:Nat)(arr:Array Value),Ext S {S with φ:=φ',h:=S.h.set r (.vec e k (els.length+xs.length)),w:=w'}->
     SRel {S with φ:=φ',h:=S.h.set r (.vec e k (els.length+xs.length)),w:=w'}->φ'=S.φ.set r (.slice (some ⟨b2,0,none⟩) (els.length+xs.length) c2)->w'.heap[b2]? =some (.cells arr e (0,0))->
     arr.toList.take ((els.length+xs.length)*k)=olds++news->els.length+xs.length<=c2->c2<=maxLen->
     VRel {S with φ:=φ',h:=S.h.set r (.vec e k (els.length+xs.length)),w:=w'} (.vec r k (els++xs)) (.slice (some ⟨b2,0,none⟩) (els.length+xs.length) c2):=by
    intro φ' w' b2 c2 arr x hS' hφ' hw' harr zxI hm2;have hown:φ'[r]? =some (.slice (some ⟨b2,0,none⟩) (els.length+xs.length) c2):=by rw[hφ',Qq,Qj rfl,Qj Qgn]
    obtain⟨q1,q2⟩:=sH rfl hol g3 hor hs_elen hs_rel x;refine .vec (n:=els.length+xs.length) (e:=e) (oF hlenA q1 zxI hm2 (fun j u hj=> ?_) hal q2) (by simp[hr]) Qf0 (fun _=>hown);have hjl:=(gsi hj).1;refine⟨?_,hone u (Qk hj),rfl,(Qz.1 hw').1,fun hx=> ?_,fun r' y hy hby=> ?_⟩
    ·exact Qcd
    ·exact hS'.xown _ hx r _ hown rfl
    ·exact Qbl
   have zc: ∀(N cp:Nat),N<=cp-> ∀(pre:List Value),pre.length=N*k->(pre.toArray++Builtin.zeroCells zv.cells (cp-N)).size=cp*k:=fun N cp hN pre hp=>by
    rw[Wt,Jd,size_zeroCells,hzs,hp,<-Wo];congr 1;omega
   have moved: ∀(w':World)(old:Nat),old<els.length+xs.length->w'=S.w.drew.alloc (.cells ((olds++news).toArray++Builtin.zeroCells zv.cells (grownCap S.w (els.length+xs.length) old e-(els.length+xs.length))) e)->
     (Builtin.append_ #[t,tx] ty #[u,.string bs]).run P S.w= .ok (.slice (some ⟨S.w.heap.size,0,none⟩) (els.length+xs.length) (grownCap S.w (els.length+xs.length) old e)) w'->
     ∃z w' φ',(Builtin.append_ #[t,tx] ty #[u,.string bs]).run P S.w= .ok z w'/\Ext S {S with φ:=φ',h:=S.h.set r (.vec e k (els.length+xs.length)),w:=w'}/\
      SRel {S with φ:=φ',h:=S.h.set r (.vec e k (els.length+xs.length)),w:=w'}/\VRel {S with φ:=φ',h:=S.h.set r (.vec e k (els.length+xs.length)),w:=w'} (.vec r k (els++xs)) z:=by
    intro w' old hold hw' hrun;have hge:=grownCap_ge S.w (els.length+xs.length) old e;have hcm:=grownCap_le_maxLen S.w (els.length+xs.length) old e Qf0;have hnewb:w'.heap[S.w.heap.size]? =some (.cells ((olds++news).toArray++Builtin.zeroCells zv.cells (grownCap S.w (els.length+xs.length) old e-(els.length+xs.length))) e (0,0)):=by
     rw[hw'];exact heap_alloc_new S.w.drew _
    have hsame: ∀b,b<S.w.heap.size->w'.heap[b]? =S.w.heap[b]? :=fun b hb=>by rw[hw'];exact Below.heap_alloc S.w.drew _ _ hb
    obtain⟨x,hS'⟩:=kQ (v:= .slice (some ⟨S.w.heap.size,0,none⟩) (els.length+xs.length) (grownCap S.w (els.length+xs.length) old e)) (n':=els.length+xs.length) (w':=w') hS hb Qf0 (by rw[hw'];rfl) (by rw[hw'];exact ztC) (by rw[hw'];rfl) (by rw[hw'];simp)
     (fun b hb=> .inr (hsame b hb)) (fun b hb _=>hsame b hb) (fun b hb=> .inr (by simp[sC] at hb;omega)) (fun b m ⟨ar,t1,f1,h1,h2⟩=>⟨ar,t1,f1,(hsame b (Qz.1 h1).1).trans h1,h2⟩) (.inr ⟨_,_,_,rfl,hnewb,hge,hcm,zc _ _ hge _ hal⟩)
    refine⟨_,w',_,hrun,x,hS',fin _ w' _ _ _ x hS' rfl hnewb ?_ hge hcm⟩;simp only[Array.toList_append];rw[<-hal];exact List.take_left
   rcases hS.blks r _ _ hb hφ with ⟨he,hn0⟩|⟨g,cp,cur,he,hg,hnc,hcm,hcs⟩
   ·have ho0:olds=[]:=Xi (by rw[hol,hn0,Ki]);have hxn:0+xs.length=els.length+xs.length:=Qf0;have hs1:i.size=1:=by rw[hsz,hk1]
    have hr1:=run_append_grow_src (P:=P) S.w t tx ty e i zv htu hi hz none 0 0 [] (run_firstCells_none S.w.drew i.size 0 0 0) (.string bs) bs.size (strCells bs) ⟨.inr hx,fun _=>rfl,run_firstCells_string S.w i.size bs,run_firstCells_string S.w.drew i.size bs,by rw[strCells_length,hs1,Ju],strCells_oneCell bs⟩ Qf0 Qf0 (by rw[nextslicecap_zero Qf0,hby,<-hxl];have:=oH hbytes;rw[hn0,Yd] at this;simpa using this);rw[Yj,Yd,<-hxl,<-hnw] at hr1;exact Qec
   ·have he1:els.length=els.length:=rfl;have hu1':=hu1;rw[he] at hu1;cases hu1;by_cases hroom:els.length+xs.length<=c1
    ·have hcur:cur.toList.take (els.length*k)=olds:=by
      exact Qaf
     have hfit:els.length*k+news.length<=cur.size:=by rw[hs_len,hcs,<-Wo];exact Zv _ hroom
     have hr1:=run_append_room_string (P:=P) S.w t tx ty e i htu hx hi (by rw[hsz,hk1]) g els.length c1 cur hg bs (by rw[<-hxl];exact hroom) (by rw[<-hxl,hcs,hk1,Ju];exact hroom);have et:cur.toList.take els.length=olds:=by rw[<-hcur,hk1,Ju]
     have ed:cur.toList.drop (els.length+xs.length)=cur.toList.drop (els.length*k+news.length):=by rw[hs_len,hk1,Ju,Ju]
     rw[<-hxl,<-hnw,et,ed] at hr1;exact Qa2
    ·have hold: ∀j v,olds[j]? =some v->S.w.cell? ((⟨g,0,none⟩:Addr).add j)=some v:=fun j v hj=>by
      exact Qac
     have hr1:=run_append_grow_string (P:=P) S.w t tx ty e i zv htu hx hi hz ⟨g,0,none⟩ els.length c1 olds (by rw[hol,hsz]) hold bs Qf0 Qf0 (by rw[hby,<-hxl];exact growslice_fits Qf0 hbytes);rw[<-hxl,<-hnw] at hr1;exact Qdt
theorem OpOk.appendStr{P:Program}{G:Glob}{rd:Option Nat}{o:Oper}{h:Heap}{F:Operand->PV}{R:PV->Heap->Prop}{c:Call}{t tx e:TypeId}{r b:Nat}{els:List (List PV)}{bs:ByteArray}{s x:Operand}(ho:o.op= .call c)(hc:c.callee= .builtin .append)(ha:c.args= #[s,x])(hat:c.argTypes= #[t,tx])
  (hs:F s= .vec r 1 els) (hx:F x= .sc (.string bs)) (ht:wD P t=some (e,1,b)) (hu:P.underlying tx=some .string) (hb:h[r]? =some (.vec e 1 els.length)) (hbytes:(els.length+bs.size)*b<=140737488355328) (hlen:els.length+bs.size<=140737488355328)
  (k:R (.vec r 1 (els++xH bs)) (h.set r (.vec e 1 (els.length+bs.size)))):OpOk P G rd o h F R:=by
 refine .of_run Qgq fun φ w X ρ hS hG hv=> ?_;have h1:=hv s Qhn;have h2:=hv x Qhn;rw[hs] at h1;rw[hx] at h2;have hux:ρ x= .string bs:=by generalize ρ x=u at h2;cases h2;rfl
 obtain⟨z,w',φ',hrun,x1,hS',hv'⟩:=jF (P:=P) (ty:=o.type) (tx:=tx) hS ht rfl h1 hb hu rfl (by rw[xC];exact hbytes) (by rw[xC];exact hlen);rw[xC] at x1 hS' hv';refine⟨φ',_,w',_,z,?_,x1,hS',hv',k⟩;unfold execOp;rw[ho];simp only[] at hrun;simp[resolve,invoke,builtin,hc,ha,hat,hux,hrun]
end Go.AL
namespace Go.AL
open Go.Proofs Go.Proofs.Tryz
theorem mG(bs:BA)(c:UInt8):xH (bs.push c)=xH bs++[[.sc (.int .u8 c.toNat)]]:=by
 unfold xH;have:(bs.push c).data.toList=bs.data.toList++[c]:=by
  show(bs.data.push c).toList=_;simp
 rw[this,Xq];rfl
theorem kA(a b:BA):xH (a++b)=xH a++xH b:=by
 unfold xH;have:(a++b).data.toList=a.data.toList++b.data.toList:=Qf1;rw[this,Xq]
def vT(n:Int)(k:Nat):UInt8:=UInt8.ofNat (IntKind.u8.wrap (n / 2 ^ min (8*k) 64)).toNat
theorem ziJ(n:Int)(k:Nat):IntKind.u8.wrap (n / 2 ^ min (8*k) 64)=(((vT n k).toNat:Nat):Int):=by
 unfold vT;rw[IntKind.wrap_u8];simp;omega
def b8(n:Int)(bs:BA):Nat->BA
 |0=>bs
 |k+1=>(b8 n bs k).push (vT n k)
def zsP(x:Vl):Nat->Int
 |0=>x.t
 |1=>x.n
 |_=>(x.s.size:Int)
def ztA(x:Vl)(bs:BA):Nat->BA
 |0=>bs
 |j+1=>b8 (zsP x j) (ztA x bs j) 8
def znJ(bs:BA)(x:Vl):BA:=ztA x bs 3++x.s
def zk0(args:List Vl):BA:=args.foldl znJ ⟨#[]⟩
theorem zm9(bs:BA)(x:Vl):znJ bs x=ztA x bs 3++x.s:=rfl
theorem fK(x:Vl)(bs:BA)(j:Nat):ztA x bs (j+1)=b8 (zsP x j) (ztA x bs j) 8:=rfl
theorem znE(n:Int)(bs:BA)(k:Nat):b8 n bs (k+1)=(b8 n bs k).push (vT n k):=rfl
theorem zsU(x:Vl){j:Nat}(h:j<3):([[i64 x.t],[i64 x.n],[i64 x.s.size]]:List (List PV)).getD j []=[i64 (zsP x j)]:=by
 match j,h with
 |0,_=>rfl
 |1,_=>rfl
 |2,_=>rfl
theorem zrG{args:List Vl}{i:Nat}(h:i<args.length):zk0 (args.take (i+1))=znJ (zk0 (args.take i)) args[i]:=by
 unfold zk0;rw[Xh h,Jn,Yw,Ks]
abbrev KB(J:Heap)(V:PV)(bs:BA):Prop:=GrowN 0 5 (xH bs) 1 J V
theorem KB.mono{J J':Heap}{V:PV}{bs:BA}(h:KB J V bs)(k: ∀(q n:Nat),J[q]? =some (.vec 5 1 n)->J'[q]? =some (.vec 5 1 n)):KB J' V bs:=by
 rcases h with h|⟨q,h1,hq⟩
 ·exact .inl h
 ·exact .inr ⟨q,h1,k _ _ hq⟩
theorem zlY(args:List Vl)(hl:args.length<=1048576)(hs: ∀a∈args,a.s.size<=1048576):EPure prog G0 202 [pH args] fun p=>p=yQ (zk0 args):=by
 refine ECall.cut (R:=fun p _=>p=yQ (zk0 args)) (pv func202 48 false Qf3 rfl rfl ?_) Qgi;refine g2 ?_;refine ge ?_;refine zO args.length (.k:: .k:: .k:: .v:: .k:: .d:: .k:: .d:: .d:: .k:: .k:: .v::D9 (D9 (D9 (D4 (.d:: .d:: .d:: .k:: .k::[]))))) (own:=false) (fun i (s:PV×BA×Heap)=>[s.1,i64 i]) (fun s=>s.2.2) (fun i s=>KB s.2.2 s.1 s.2.1/\s.2.1.size<=1048600*i/\s.2.1=zk0 (args.take i)) (.nil,⟨#[]⟩,[]) rfl rfl ⟨.inl ⟨rfl,rfl⟩,Yn _,rfl⟩ Qf0 ?_ ?_
 ·rintro⟨V,bs,J⟩ ⟨hI,hn,hE⟩ t ht;dsimp only at*;rw[Yt] at hE;rw[<-hE];clear hE;simp only[zY] at ht;subst ht;refine gf @zM ?_;rcases hI with ⟨h0,rfl⟩|⟨q,rfl,hq⟩
  ·have hb:bs= .empty:=by
    exact Qe0
   refine ge ?_;rw[hb];rfl
  ·refine ge ?_;rfl
 ·rintro i ⟨V,bs,J⟩ hi hw ⟨hI,hn,hE⟩ t ht;dsimp only at*;have hk1:=zrG hi;rw[<-hE] at hk1;clear hE;simp only[zY] at ht;subst ht;have hx:=zG (f:=Vl.c) [] hi;have hsx:=hs _ (Qc hi);generalize args[i]=x at*;refine gf (a6 @hi @hx @zB @hw @zA @zX) ?_;have hKB0:KB (J++[.var 168 x.c]) V bs:=hI.mono fun q n hq=>by rw[Qg (gsi hq).1];exact hq
  have hp0:(J++[.var 168 x.c])[J.length]? =some (.var 168 x.c):=zA _ _;generalize J.length=p at*;generalize J++[.var 168 x.c]=J1 at*;refine zO 3 (.k:: .k:: .k:: .v:: .k:: .k:: .k:: .d:: .d::K9 (K4 (.k:: .k:: .v::D9 (D4 (.d:: .d:: .d::K4 (.k:: .k:: .k::[])))))) (own:=false) (fun i (s:PV×BA×Heap)=>[s.1,i64 i]) (fun s=>s.2.2) (fun j s=>KB s.2.2 s.1 s.2.1/\s.2.1.size<=1048600*i+j*8/\s.2.2[p]? =some (.var 168 x.c)/\(0<j->0<s.2.1.size)/\s.2.1=ztA x bs j) (V,bs,J1) rfl rfl ⟨hKB0,Qf0,hp0,Qf1,rfl⟩ Qf0 ?_ ?_
  ·rintro⟨V2,bs2,J2⟩ ⟨hI2,hn2,hp2,hpos,hE2⟩ t ht;dsimp only at*;simp only[zY] at ht;subst ht;have h3:(((3:Nat):Int)<3)=False:=Qf1;rcases hI2 with ⟨h0,rfl⟩|⟨q,rfl,hq⟩
   ·have:=Ym List.length h0;rw[xC,Xv] at this;omega
   ·refine gf (a3 @hw @h3 @hp2) ?_;have hbl:(xH bs2).length=bs2.size:=xC _;have hqJ:q<J2.length:=(gsi hq).1;(refine wU ?_;intro sr hsr;simp only[go_sem,hw,h3,hp2] at hsr;subst hsr;refine iR rfl (fun rd=>OpOk.appendStr (s:= .tmp 41) (x:= .tmp 43) rfl rfl rfl rfl rfl rfl (by kernel_rfl:wD prog 198=some (5,1,1)) Qf3 hq (by rw[hbl];omega) (by rw[hbl];omega) ⟨rfl,rfl⟩) ?_;intro ts2 hts;simp only[go_sem] at hts;subst hts);refine gf (a3 @hw @h3 @hp2) ?_;exact⟨(_,bs2++x.s,_),⟨.inr ⟨q,by rw[kA],by rw[Qh hqJ,kA,Ql,xC x.s]⟩,by dsimp only;rw[ByteArray.size_append];omega,by dsimp only;rw[hk1,zm9,hE2]⟩,Qh1,rfl,rfl⟩
  ·rintro j ⟨V2,bs2,J2⟩ hj zg1 ⟨hI2,hn2,hp2,hpos,hE2⟩ t ht;dsimp only at*;simp only[zY] at ht;subst ht;have h3:((j:Int)<3)=True:=Qfh;have h3n:=zsU x hj;have hE3:ztA x bs (j+1)=b8 (zsP x j) bs2 8:=by rw[hE2,fK]
   clear hE2;generalize zsP x j=n at*;refine gf (a5 @h3 @hj @h3n @zB @zg1) ?_;refine zO 8 (.k:: .k:: .k:: .v::K4 (.d::K9 (K9 (.k:: .v::D9 (.d:: .d::K4 (K4 ([]))))))) (own:=false) (fun i (s:PV×BA×Heap)=>[s.1,i64 i]) (fun s=>s.2.2) (fun k s=>KB s.2.2 s.1 s.2.1/\s.2.1.size<=1048600*i+j*8+k/\s.2.2[p]? =some (.var 168 x.c)/\(0<k->0<s.2.1.size)/\s.2.1=b8 n bs2 k) (V2,bs2,J2) rfl rfl ⟨hI2,by dsimp only;omega,hp2,Qf1,rfl⟩ Qf0 ?_ ?_
   ·rintro⟨V3,bs3,J3⟩ ⟨hI3,hn3,hp3,hpos3,hE4⟩ t ht;dsimp only at*;simp only[zY] at ht;subst ht;have h8:(((8:Nat):Int)<8)=False:=Qf1;refine gf (a4 @h8 @h3 @hj @zg1) ?_;exact⟨(V3,bs3,J3),⟨hI3,by dsimp only;omega,hp3,fun _=>hpos3 Qf0,by dsimp only;rw[hE3,hE4]⟩,rfl,rfl,rfl⟩
   ·rintro k ⟨V3,bs3,J3⟩ hk zy4 ⟨hI3,hn3,hp3,hpos3,hE4⟩ t ht;dsimp only at*;simp only[zY] at ht;subst ht;have h8:((k:Int)<8)=True:=Qfh;have h8k:IntKind.i64.wrap (8*(k:Int))=((8*k:Nat):Int):=Qh8;have hc:=ziJ n k;have hE5:b8 n bs2 (k+1)=bs3.push (vT n k):=by rw[hE4,znE]
    clear hE4;generalize vT n k=c at*;rcases hI3 with ⟨h0,rfl⟩|⟨q,rfl,hq⟩
    ·have hb:bs3=⟨#[]⟩:=by
      exact Qe0
     subst hb;refine gf (a6 @h8 @hk @zy4 @h8k @hc @iS) ?_;have hb1:((⟨#[]⟩:BA).push c).size=1:=rfl;exact⟨(_,(⟨#[]⟩:BA).push c,_),⟨.inr ⟨J3.length,by rw[mG],by simp[xC,hb1]⟩,by dsimp only;omega,by dsimp only;rw[Qg (gsi hp3).1];exact hp3,fun _=>by dsimp only;omega,hE5.symm⟩,Qh1,rfl,rfl⟩
    ·have hqJ:q<J3.length:=(gsi hq).1;have hbl:(xH bs3).length=bs3.size:=xC _;refine gf (a8 @h8 @hk @zy4 @h8k @hc @hq @hbl @iS) ?_;have hb1:(bs3.push c).size=bs3.size+1:=ByteArray.size_push;have hqp:q≠p:=fun e=>by subst e;rw[hq] at hp3;cases hp3
     exact⟨(_,bs3.push c,_),⟨.inr ⟨q,by rw[mG],by rw[Qh hqJ,xC,hb1]⟩,by dsimp only;omega,by dsimp only;rw[Qd hqp];exact hp3,fun _=>by dsimp only;omega,hE5.symm⟩,Qh1,rfl,rfl⟩
@[go_sem] def UCel2f153.pl:Nat->DPlan
 |13=>⟨[yA,yA,yA,yB,yA,yA,yA,yA,yB,yA,yA,yA,yC,yA,yC,yC,yA,yC],yM,0⟩
 |_=>⟨[],[],0⟩
theorem tmL:kC prog 275=some (9,.string,242):=Qf3
theorem zjX(r o:Nat):za2 (α:=Prop) prog 242 (.ptr r o) (.sc (.pointer none))=some (false,True):=Qf3
theorem zjY:za2 (α:=Prop) prog 242 (.sc (.pointer none)) (.sc (.pointer none))=some (true,True):=Qf3
theorem zaS:nI (.pointer none)= .sc (.pointer none):=rfl
theorem ziL:(prog.info? 242).bind (·.zero)=some (.pointer none):=Qf3
theorem tmA:kC prog 276=some (9,.string,50):=Qf3
theorem ziA:(prog.info? 50).bind (·.zero)=some (.slice none 0 0):=Qf3
structure En where
 k:BA
 r:Nat
 a:List Vl
abbrev ma(es:List En):NM:=es.map fun e=>(Value.string e.k,PV.ptr e.r 0)
abbrev mb(es:List En):NM:=es.map fun e=>(Value.string e.k,pH e.a)
def En.ok(e:En):Prop:=e.a.length<=1048576/\(∀a∈e.a,a.s.size<=1048576)/\e.k=zk0 e.a
def LineAt(h:Heap)(r:Nat):Prop:= ∃ms:List Int,ms.length=64/\h[r]? =some (.var 287 (ms.map i64))
structure TB(l:La)(tb m1 m2:Nat)(es:List En)(h:Heap):Prop where
 t:h[tb]? =some (.var 278 [yQ l.name,rR l.pw,.ts 2 (l.pJ.map fun c=>[i64 c.1,i64 c.2]),i64 l.at',.mp m1,.mp m2])
 a:h[m1]? =some (.map (ma es))
 b:h[m2]? =some (.map (mb es))
 n:m1≠m2
 l: ∀e∈es,LineAt h e.r
 k: ∀e∈es,e.ok
 d:(es.map (·.k)).Nodup
def Kp(h h':Heap):Prop:= ∀(r:Nat)(b:Blk),h[r]? =some b->(∀cs,b≠ .var 287 cs)->(∀es,b≠ .map es)->h'[r]? =some b
theorem Kp.refl(h:Heap):Kp h h:=fun _ _ h _ _=>h
theorem Kp.trans{h h1 h2:Heap}(a:Kp h h1)(b:Kp h1 h2):Kp h h2:=fun r c hc n1 n2=>b r c (a r c hc n1 n2) n1 n2
theorem dJ(es:List En):(ma es).all (fun x=>pF .string x.1)=true:=by
 exact Qdp
theorem zaT(es:List En):(mb es).all (fun x=>pF .string x.1)=true:=by
 exact Qdp
theorem gV{s:BA}: ∀{es:NM}{j:Nat},vV (.string s) es j=none-> ∀x∈es,x.1≠ .string s
 | [],_,_,x,hx=>by cases hx
 | y::es,j,h,x,hx=>by
  unfold vV at h;split at h
  ·cases h
  ·rename_i hv;rcases Qw.1 hx with rfl|hx
   ·intro e;rw[e] at hv;exact hv (by simp[sY])
   ·exact gV h x hx
theorem cT{s:BA}(f g:En->PV): ∀{es:List En}{j:Nat},vV (.string s) (es.map fun e=>(Value.string e.k,f e)) j=none->vV (.string s) (es.map fun e=>(Value.string e.k,g e)) j=none
 | [],_,_=>rfl
 | e::es,j,h=>by
  simp only[Xa,vV] at h ⊢
  split at h
  ·cases h
  ·rename_i hv;rw[Qi hv];exact cT f g h
theorem zfR{h:Heap}{r:Nat}{es:List En}{s:BA}{j:Nat}{p:PV}(hr:h[r]? =some (.map (ma es)))(hm:vV (.string s) (ma es) 0=some (j,p)):xQ (α:=Prop) prog h 275 false (.mp r) (yQ s)=some (p,True):=by
 unfold xQ;rw[tmL];simp only[oS,hr,ziL,zm1,dJ,hm,Jl,Wk,vL,Zo,Wr]
theorem zfS{h:Heap}{r:Nat}{es:List En}{s:BA}(hr:h[r]? =some (.map (ma es)))(hm:vV (.string s) (ma es) 0=none):xQ (α:=Prop) prog h 275 false (.mp r) (yQ s)=some (.sc (.pointer none),True):=by
 unfold xQ;rw[tmL];simp only[oS,hr,ziL,zm1,dJ,hm,Jl,Wk,vL,Zo,Wr,zaS]
theorem zfT{h:Heap}{r:Nat}{es:List En}{s:BA}{j:Nat}{p:PV}(hr:h[r]? =some (.map (mb es)))(hm:vV (.string s) (mb es) 0=some (j,p)):xQ (α:=Prop) prog h 276 false (.mp r) (yQ s)=some (p,True):=by
 unfold xQ;rw[tmA];simp only[oS,hr,ziA,zm1,zaT,hm,Jl,Wk,vL,Zo,Wr]
theorem buL:kB prog 287 []=some (.agg (List.replicate 64 (i64 0))):=Qf3
attribute [-go_sem] kB
attribute [go_sem] kB
@[go_sem] def UCel3f195.pp:Nat->DPlan
 |4=>⟨[yB,yA,yB,yA,yA,yB,yB,yA,yA,yA,yB,yB,uX,yA,yA,yC],xE,0⟩
 |_=>⟨[],[],0⟩
@[go_sem] def UCel3f195.pl:Nat->DPlan
 |4=>⟨[⟨7,0,[1006]⟩,yA,yB,yA,yA,yB,yB,yA,yA,yA,yB,yB,⟨6,0,[1006]⟩,yA,yA,yC],xE,0⟩
 |_=>⟨[],[],0⟩
theorem jQ(a b:Int)(h:Heap):ECall prog G0 242 [i64 a,i64 b] h fun p h'=>p= .fn (.func 309) [] [.ptr h.length 0,.ptr (h.length+1) 0]/\h'=h++[.var 3 [i64 a],.var 3 [i64 b]]:=by
 refine pv func242 6 false Qf3 rfl rfl ?_;refine g2 ?_;refine ge ?_;exact⟨rfl,rfl⟩
end Go.AL
