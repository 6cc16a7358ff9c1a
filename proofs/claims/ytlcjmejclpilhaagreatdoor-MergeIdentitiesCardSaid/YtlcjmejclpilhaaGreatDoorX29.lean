/-
  The bytes of a tuple tell it (plain).
-/
import Derived.Test.YtlcjmejclpilhaaGreatDoorX28
set_option linter.unusedSimpArgs false
set_option linter.unusedVariables false
set_option maxRecDepth 100000
set_option maxHeartbeats 4000000
namespace Go.AL
open Go.Proofs Go.Proofs.Tryz
theorem skO{q:Prop}(h:Sk q):q:=h
theorem Wad{p q:Prop}(k:q)(h:Sk q->p:=by intro gk;(repeat(first|refine gz ?_|(refine gn ?_;intro zs zh;(try simp only[go_sem,F1,h0,h01,wi,hi1,hp1,hc0] at zh);subst zh;(first|refine gv ?_|((first|refine zC (hiv.call zK Qf4 _) ?_|refine zP Qf5 Qf5 (hiv.call zK Qf4 _) ?_|refine zC (hby.call zK Qfe _) ?_|refine zP Qf5 Qf5 (hby.call zK Qfe _) ?_);intro p2 h2 hr2;obtain⟨hr2,rfl⟩:=hr2;first|obtain⟨_,rfl,hr2⟩:=hr2|obtain⟨_,rfl⟩:=hr2|subst hr2|skip)))|refine yD URsx6f80.pl ?_));exact skO gk):p:=h k
theorem Wao{p q:Prop}(k:q)(h:Sk q->p:=by intro gk;(repeat(first|refine gz ?_|(refine gn ?_;intro zs zh;(try simp only[go_sem,jY] at zh);subst zh;refine gv ?_)|refine zQ uD _ 9 Qf6 ?_));exact skO gk):p:=h k
theorem Wap{p q:Prop}(k:q)(h:Sk q->p:=by intro gk;(repeat(first|refine gz ?_|(refine gn ?_;intro zs zh;(try simp only[go_sem] at zh);subst zh;refine gv ?_)|refine zQ uD _ 9 Qf6 ?_));exact skO gk):p:=h k
theorem Was{p q:Prop}(k:q)(h:Sk q->p:=by intro gk;(repeat(first|refine gz ?_|(refine gn ?_;intro zs zh;(try simp only[go_sem,F2,e3] at zh);subst zh;(first|refine gv ?_|((first|refine zC (hvv.call zK Qfe _) ?_|refine zP Qf5 Qf5 (hvv.call zK Qfe _) ?_);intro p2 h2 hr2;obtain⟨hr2,rfl⟩:=hr2;first|obtain⟨_,rfl,hr2⟩:=hr2|obtain⟨_,rfl⟩:=hr2|subst hr2|skip)))|refine yD URsx6f80.pl ?_));exact skO gk):p:=h k
theorem Wat{p q:Prop}(k:q)(h:Sk q->p:=by intro gk;(repeat(first|refine gz ?_|(refine gn ?_;intro zs zh;(try simp only[go_sem,F3,e3] at zh);subst zh;(first|refine gv ?_|((first|refine zC (hvv.call zK Qfe _) ?_|refine zP Qf5 Qf5 (hvv.call zK Qfe _) ?_);intro p2 h2 hr2;obtain⟨hr2,rfl⟩:=hr2;first|obtain⟨_,rfl,hr2⟩:=hr2|obtain⟨_,rfl⟩:=hr2|subst hr2|skip)))|refine yD URsx6f80.pl ?_));exact skO gk):p:=h k
theorem Wcl{p q:Prop}(k:q)(h:Sk q->p:=by intro gk;(repeat(first|refine gz ?_|(refine gn ?_;intro zs zh;(try simp only[go_sem,zM,hlR6,h6x,e6] at zh);subst zh;refine gv ?_)|refine zQ yF _ 2 Qf6 ?_));exact skO gk):p:=h k
theorem Wdd{p q:Prop}(k:q)(h:Sk q->p:=by intro gk;(repeat(first|refine gz ?_|(refine gn ?_;intro zs zh;(try simp only[go_sem,Z,Sk] at zh);subst zh;refine gv ?_)|refine yD UCsx2f195.pp ?_));exact skO gk):p:=h k
theorem Wdj{p q:Prop}(k:q)(h:Sk q->p:=by intro gk;(repeat(first|refine gz ?_|(refine gn ?_;intro zs zh;(try simp only[go_sem,F] at zh);subst zh;refine gv ?_)|refine yD UWrd2f155.pp ?_));exact skO gk):p:=h k
theorem We0{p q:Prop}(k:q)(h:Sk q->p:=by intro gk;refine gf (a9 @h64 @hi @hw @zB @hms @hd @hrA @e1 (a9 @hpos @hsub @hJj @d1 @d2 @d3 @d4 @hpl (a6 @hSj @a1 @a2 @a3 @e2 @e3))) ?_;exact skO gk):p:=h k
theorem Wen{p q:Prop}(k:q)(h:Sk q->p:=by intro gk;(repeat(first|refine gz ?_|(refine gn ?_;intro zs zh;(try simp only[go_sem,Z1,Z,h6x,hq2,hib,hset] at zh);subst zh;refine gv ?_)|refine zQ yF _ 2 Qf6 ?_));exact skO gk):p:=h k
theorem Wev{p q:Prop}(k:q)(h:Sk q->p:=by intro gk;(repeat(first|refine gz ?_|(refine gn ?_;intro zs zh;(try simp only[go_sem,Z1] at zh);subst zh;refine gv ?_)|refine zQ yL _ 11 Qf6 ?_));exact skO gk):p:=h k
@[go_sem] def UTyp14f164.pl:Nat->DPlan
 |2=>⟨[yA,yB,⟨6,0,[1003]⟩,yA,⟨7,0,[1003]⟩,yC,yA,yC,yA,yC],xS,0⟩
 |3=>⟨[yA,yA,⟨6,0,[1003]⟩,yA,⟨7,0,[1003]⟩,yC],znU,0⟩
 |9=>⟨[yA,yA,yA,⟨6,0,[1007]⟩,yA,yA,yA,⟨7,0,[1007]⟩,yC],uW,0⟩
 |_=>⟨[],[],0⟩
@[go_sem] def yF:DPlan:=⟨[yA,yB,⟨6,0,[1003]⟩,yA,⟨7,0,[1003]⟩,yC,yA,yC,yA,yC],xS,0⟩
theorem aU(h:Heap)(l:List Li)(hl:l.length<=1048576)(htb:zU 40 (.ts 9 (l.map Li.c))=true):ECall prog G0 226 [.ts 9 (l.map Li.c)] h fun V h'=>(l=[]/\V= .ts 9 []/\h'=h)\/(V= .ms h.length 0 9 l.length/\h'=h++[.var 194 (l.map Li.c).flatten]):=by
 cases l with
 |nil=>
  refine((zgE [] Qf4 htb).call zK (by simp[xX]) h).mono ?_;rintro p h' ⟨rfl,rfl⟩;exact .inl ⟨rfl,rfl,rfl⟩
 |cons x l=>
  refine zbX (own:=true) func226 rfl Qf6 (show _=[.ts 9 ((x::l).map Li.c),.ud,.ud,.ud,.ud,.ud,.ud,.ud] from rfl) ?_;simp only[Qn] at hl;have hb1:((l.length+1)*112<=140737488355328)=True:=Qfk;have hb2:(l.length<=140737488355327)=True:=Qfk;refine gf (a4 @zhQ @vX @hb1 @hb2) ?_;exact .inr ⟨rfl,rfl⟩
def BJ(J:Heap)(B:PV)(body:List Li):Prop:=(body=[]/\B= .ts 9 [])\/ ∃q,B= .ms (q+7) 0 9 body.length/\J[q]? =some (.var 194 (body.map Li.c).flatten)
theorem BJ.len{h:Heap}{B:PV}{body:List Li}(k:BJ h B body):pI (α:=Prop) prog 189 B=some (i64 body.length,True):=by
 have e:(wX prog 189).isSome=true:=Qf6;rcases k with ⟨rfl,rfl⟩|⟨qb,rfl,_⟩<;>simp only[pI,e,Wk]<;>rfl
theorem BJ.at{J:Heap}{B:PV}{body:List Li}(k:BJ J B body)(b0 b1:Blk)(pc:List PV)(ml mf mp:NM)(L F P R Rep:PV):BodyAt (SH b0 b1 pc ml mf mp L F P R Rep J) B body:=by
 rcases k with h|⟨q,h1,h2⟩
 ·exact .inl h
 ·exact .inr ⟨q+7,_,h1,h2⟩
theorem GrowN.len{off:Nat}{rp:List (Int×Int)}{J:Heap}{V:PV}(h:GrowN off 253 (iV rp) 2 J V):pI (α:=Prop) prog 179 V=some (i64 rp.length,True):=by
 have e:(wX prog 179).isSome=true:=Qf6;rcases h with ⟨h0,rfl⟩|⟨q,rfl,_⟩
 ·have:rp=[]:=Qg8;subst this;simp only[pI,e,Wk];rfl
 ·simp only[pI,e,Wk,Qs];rfl
theorem Sc.mono{pQ:List La}{fs:List (Fu×PV)}{ps:List Pd}{ml mf mp:NM}{L F P:PV}{J J':Heap}(h:Sc pQ fs ps ml mf mp L F P J)(k: ∀(t:TypeId)(els:List (List PV))(k:Nat)(V:PV),t≠253->GrowN 7 t els k J V->GrowN 7 t els k J' V):Sc pQ fs ps ml mf mp L F P J':=
 ⟨h.lo,h.ll,k _ _ _ _ Qf5 h.l,k _ _ _ _ Qf5 h.f,h.fl,k _ _ _ _ Qf5 h.p,h.pl,h.pb,h.ml,h.mf,h.mp⟩
theorem oD{J J':Heap}(h: ∀(r:Nat)(b:Blk),J[r]? =some b->J'[r]? =some b){off:Nat}{t:TypeId}{els:List (List PV)}{k:Nat}{V:PV}(hG:GrowN off t els k J V):GrowN off t els k J' V:=by
 rcases hG with hG|⟨q,h1,hq⟩
 ·exact .inl hG
 ·exact .inr ⟨q,h1,h q _ hq⟩
theorem ze1(l:List Li):zU 40 (.ts 9 (l.map Li.c))=true:=all_map fun x=>by
 simp only[zU,Wm,Jb,Zx,Jk];exact all_map fun _=>rfl
attribute [-go_sem] only pI
theorem BJ.mono{J J':Heap}{B:PV}{body:List Li}(k:BJ J B body)(h: ∀(q:Nat)(cs:List PV),J[q]? =some (.var 194 cs)->J'[q]? =some (.var 194 cs)):BJ J' B body:=by
 rcases k with h1|⟨q,h1,h2⟩
 ·exact .inl h1
 ·exact .inr ⟨q,h1,h _ _ h2⟩
structure RI(J0:Heap)(pQ:List La)(fs:List (Fu×PV))(ps:List Pd)(ml mf mp:NM)(L F P:PV)(C:List PV)(B:PV)(n rp0:Nat)(hd:Prop)(i:Nat)(bd:List Li)(rp:List (Int×Int))(Rep:PV)(J:Heap):Prop where
 aa1:J[J0.length]? =some (.var 191 C)
 aa2:J[J0.length+1]? =some (.var 191 [yQ ⟨#[]⟩,i64 0,.nil,i64 0,yQ ⟨#[]⟩,yQ ⟨#[]⟩,i64 0,.nil,i64 0])
 aa3:Keep J0 J
 aa4:BJ J B bd
 al:bd.length=n
 aa5:Sc pQ fs ps ml mf mp L F P J
 aa6:GrowN 7 253 (iV rp) 2 J Rep
 aa7:rp0<=rp.length
 aa7':rp.length<=rp0+1+i
 aa8: ∀l∈bd,l.fm
 aa9:rp.length=rp0->hd/\ ∀l∈bd.take i,LitK ps l l.pred
theorem zlP{b0 b1:Blk}{pc:List PV}{ml mf mp:NM}{L F P R Rep:PV}{J h':Heap}(h: ∀(r:Nat)(b:Blk),(SH b0 b1 pc ml mf mp L F P R Rep J)[r]? =some b->h'[r]? =some b): ∃J',h'=SH b0 b1 pc ml mf mp L F P R Rep J'/\ ∀(r:Nat)(b:Blk),J[r]? =some b->J'[r]? =some b:=by
 have e0:=h 0 _ rfl;have e1:=h 1 _ rfl;have e2:=h 2 _ rfl;have e3:=h 3 _ rfl;have e4:=h 4 _ rfl;have e5:=h 5 _ rfl;have e6:=h 6 _ rfl
 match h',e0,e1,e2,e3,e4,e5,e6,h with
 |a0::aa1::aa2::aa3::aa4::aa5::aa6::J',e0,e1,e2,e3,e4,e5,e6,h=>
  simp only[Ws,Wg,Option.some.injEq] at e0 e1 e2 e3 e4 e5 e6;subst e0 e1 e2 e3 e4 e5 e6;exact⟨J',rfl,fun r b hr=>h (r+7) b hr⟩
open UTyp14f164 in
theorem zi1(b0 b1:Blk)(pc:List PV)(ml mf mp:NM)(L F P R Rep:PV)(J:Heap)(pQ:List La)(fs:List (Fu×PV))(ps:List Pd)(hS:Sc pQ fs ps ml mf mp L F P J)(rp:List (Int×Int))(hrp:rp.length<=1000)(hG:GrowN 7 253 (iV rp) 2 J Rep)(x:Ru)(hx:x.fm):
  ECall prog G0 164 [.ptr 6 0,.agg x.c] (SH b0 b1 pc ml mf mp L F P R Rep J) fun p h'=> ∃(x':Ru)(B Rep':PV)(J':Heap)(rp':List (Int×Int)),p= .agg (RuC x' B)/\h'=SH b0 b1 pc ml mf mp L F P R Rep' J'/\BJ J' B x'.body/\Keep J J'/\GrowN 7 253 (iV rp') 2 J' Rep'/\rp.length<=rp'.length/\rp'.length<=rp.length+10:=by
 refine pv func164 70 false Qf6 rfl rfl ?_;refine g2 ?_;have hla:=hx.a;have hlb:=hx.b;have hlR:=hG.len;refine gf (a3 @hlR @xY @xN) ?_;(refine zF rfl rfl rfl ?_;intro sr hsr;simp only[go_sem,xY,xN] at hsr;subst hsr;refine xR rfl rfl ((bI x.args Qf3 (all_map fun _=>rfl)).call zK Qf4 _) Qhc ?_;intro p2 h2 hr2;refine Go.AL.g2 ?_);obtain⟨rfl,rfl⟩:=hr2;have h7a:(J.length+7<J.length+1+1+1+1+1+1+1+1+1)=True:=Qf4;refine gf (a3 @xY @xN @h7a) ?_;(refine zF rfl rfl rfl ?_;intro zs zh;simp only[go_sem,xY,xN] at zh;subst zh;refine zP Qf5 Qf5 (aU _ x.body Qf3 (ze1 _)) ?_;intro p2 h2 hr2;refine Go.AL.g2 ?_);obtain⟨J2,rfl,hJ2x,hJ2z,hJ2k,hBJ,hBge⟩: ∃J2,h2=SH b0 b1 pc ml mf mp L F P R Rep J2/\J2[J.length]? =some (.var 191 x.c)/\J2[J.length+1]? =some (.var 191 [yQ ⟨#[]⟩,i64 0,.nil,i64 0,yQ ⟨#[]⟩,yQ ⟨#[]⟩,i64 0,.nil,i64 0])/\(∀(r:Nat)(b:Blk),J[r]? =some b->J2[r]? =some b)/\BJ J2 p2 x.body/\(∀q n,p2= .ms (q+7) 0 9 n->J.length<=q):=by
  rcases hr2 with ⟨hb0,rfl,rfl⟩|⟨rfl,rfl⟩
  ·exact⟨J++[.var 191 x.c,.var 191 [yQ ⟨#[]⟩,i64 0,.nil,i64 0,yQ ⟨#[]⟩,yQ ⟨#[]⟩,i64 0,.nil,i64 0]],rfl,by rw[xY];rfl,by rw[xN];rfl,fun r b h=>by rw[Qg (gsi h).1];exact h,.inl ⟨hb0,rfl⟩,fun q n h=>by cases h⟩
  ·refine⟨(J++[.var 191 x.c,.var 191 [yQ ⟨#[]⟩,i64 0,.nil,i64 0,yQ ⟨#[]⟩,yQ ⟨#[]⟩,i64 0,.nil,i64 0]])++[.var 194 (x.body.map Li.c).flatten],rfl,by rw[Qv,xY];rfl,by rw[Qv,xN];rfl,fun r b h=>by rw[Qv,Qg (gsi h).1];exact h,.inr ⟨_,rfl,Wc ..⟩,fun q n h=>by
    simp only[PV.ms.injEq,Qn,Ql,Xv] at h;omega⟩
 obtain⟨Bd,hBd⟩: ∃B,B=p2:=⟨_,rfl⟩
 subst hBd;have hlt2:J.length<J2.length:=(gsi hJ2x).1;have hqs: ∀b,(J2.set J.length b)[J.length]? =some b:=fun b=>Qh hlt2;(repeat(first|refine gz ?_|(refine gn ?_;intro zs zh;(try simp only[go_sem,hJ2x,hqs,Zu] at zh);subst zh;refine gv ?_)|refine zQ yF _ 2 Qf6 ?_));refine zF rfl rfl rfl ?_;intro sr hsr;obtain⟨c,hc,rfl⟩: ∃c:Prop,c/\sr=SR.val .ud (SH b0 b1 pc ml mf mp L F P R Rep (J2.set J.length (.var 191 (RuC x Bd)))) c:=by
  clear hr2;rcases hBJ with ⟨_,rfl⟩|⟨q,rfl,_⟩<;>simp only[go_sem,hJ2x,hqs,Zu] at hsr<;>exact⟨_,by trivial,hsr.symm⟩
 refine zI Qf5 hc ?_;intro ts2 hts;simp only[zZ,Xn,Xl] at hts;subst hts;clear hsr;(repeat(first|refine gz ?_|(refine gn ?_;intro zs zh;(try simp only[go_sem,hJ2x,hqs,Zu] at zh);subst zh;refine gv ?_)|refine zQ yF _ 2 Qf6 ?_));have h3x:=hqs (.var 191 (RuC x Bd));have h3z:(J2.set J.length (.var 191 (RuC x Bd)))[J.length+1]? =some (.var 191 [yQ ⟨#[]⟩,i64 0,.nil,i64 0,yQ ⟨#[]⟩,yQ ⟨#[]⟩,i64 0,.nil,i64 0]):=by rw[Qd Qf3];exact hJ2z
 have h3k: ∀(r:Nat)(b:Blk),J[r]? =some b->(J2.set J.length (.var 191 (RuC x Bd)))[r]? =some b:=fun r b h=>by
  have:=(gsi h).1;rw[Qd Qf3];exact hJ2k r b h
 have h3B:BJ (J2.set J.length (.var 191 (RuC x Bd))) Bd x.body:=by
  rcases hBJ with h|⟨q,h1,h2⟩
  ·exact .inl h
  ·refine .inr ⟨q,h1,?_⟩;have:J.length≠q:=fun e=>by subst e;rw[hJ2x] at h2;cases h2
   rw[Qd this];exact h2
 have h3S:=hS.mono (fun _ _ _ _ _=>oD h3k);have h3G:=oD h3k hG;generalize J2.set J.length (.var 191 (RuC x Bd))=J3 at*;clear hr2 hqs hlt2 hBJ hJ2k hJ2z hJ2x J2 h7a;have h3lt:J.length<J3.length:=(gsi h3x).1;((try(with_reducible refine qP ?_));(with_reducible refine zaX (id:=3) ?_);refine nP (own:=false) wN zK ⟨[⟨0,0,[]⟩,⟨0,0,[]⟩,⟨4,0,[]⟩,⟨0,0,[]⟩,⟨1,0,[]⟩,⟨4,0,[]⟩],[],0⟩ [0,1,3] 2 4 [5] Qf6 ?_;intro n2 hn2;(try simp only[Qn,Xv,Ql,Yd,Nat.reduceAdd] at hn2);subst hn2;intro l2 hl2;simp only[Jc] at hl2;subst hl2;intro ds hds;simp only[Xa,Wj] at hds;subst hds;intro h2 hh2;(try simp only[rY,Ww,Ku,Xz,Xx,Yj,Qv] at hh2);subst hh2);(repeat(first|refine gz ?_|(refine gn ?_;intro zs zh;(try simp only[go_sem,h3x] at zh);subst zh;refine gv ?_)|refine zQ yF _ 2 Qf6 ?_));obtain⟨p,h',⟨e,pd,ix,J4,rfl,rfl,hbut,h4x,hres⟩,hcall⟩:=zjI b0 b1 pc ml mf mp L F P R Rep J3 pQ fs ps h3S J.length x Bd h3x hla;have h4x:J4[J.length]? =some (.var 191 [yQ x.name,i64 pd,zrX x.args,i64 x.elem.kind,yQ x.elem.name,yQ x.elem.var,i64 ix,Bd,i64 x.at']):=h4x;have h4z:J4[J.length+1]? =some (.var 191 [yQ ⟨#[]⟩,i64 0,.nil,i64 0,yQ ⟨#[]⟩,yQ ⟨#[]⟩,i64 0,.nil,i64 0]):=hbut _ _ Qf3 h3z;have h4k: ∀(r:Nat)(b:Blk),J[r]? =some b->J4[r]? =some b:=fun r b h=>hbut _ _ (by have:=(gsi h).1;omega) (h3k r b h);have h4B:BJ J4 Bd x.body:=h3B.mono fun q cs h=>hbut q _ (fun e=>by subst e;rw[h3x] at h;cases h) h;have h4S:=hS.mono (fun _ _ _ _ _=>oD h4k);have h4G:=oD h4k hG;apply Exists.intro;apply Exists.intro;refine⟨?_,?_,?_⟩
 ·exact Qar
 ·(repeat(first|refine gz ?_|(refine gn ?_;intro zs zh;(try simp only[go_sem,h3x] at zh);subst zh;refine gv ?_)|refine zQ yF _ 2 Qf6 ?_));exact Qar
 ·(refine zF rfl rfl rfl ?_;intro zs zh;simp only[go_sem,h4x] at zh;subst zh;refine zP Qf5 Qf5 (wZ b0 b1 pc ml mf mp L F P R Rep J4 rp Qf3 h4G e x.at') ?_;intro p2 h2 hr2;refine Go.AL.g2 ?_);obtain⟨Rep5,J5,rfl,h5G,h5k⟩:=hr2;have h5x:=h5k _ _ h4x Qf4;have h5z:=h5k _ _ h4z Qf4;have h5K:Keep J J5:=fun r b h hn=>h5k r b (h4k r b h) hn;have h5B:BJ J5 Bd x.body:=h4B.mono fun q cs h=>h5k q _ h Qf4;have h5S:=h4S.mono (fun _ _ _ _ ht hG=>h5k.grow ht hG);have hlB:=h5B.len;(repeat(first|refine gz ?_|(refine gn ?_;intro zs zh;(try simp only[go_sem,h5x,hlB] at zh);subst zh;refine gv ?_)|refine zQ yF _ 2 Qf6 ?_));refine zO x.body.length (K4 (.k:: .k:: .d:: .d::K9 (K9 (K4 (.v::D9 (D9 (D4 (.d:: .d::K9 (K4 (.k:: .k::[])))))))))) (own:=false) (fun i (s:List Li×List (Int×Int)×PV×Heap)=>[i64 i]) (fun s=>SH b0 b1 pc ml mf mp L F P R s.2.2.1 s.2.2.2) (fun i s=>RI J pQ fs ps ml mf mp L F P [yQ x.name,i64 pd,zrX x.args,i64 x.elem.kind,yQ x.elem.name,yQ x.elem.var,i64 ix,Bd,i64 x.at'] Bd x.body.length rp.length (e=0) i s.1 s.2.1 s.2.2.1 s.2.2.2) (x.body,bU rp e x.at',Rep5,J5) rfl rfl ⟨h5x,h5z,h5K,h5B,rfl,h5S,h5G,zaO ..,vB ..,hx.l,fun h=>⟨by
   unfold bU at h;split at h
   ·assumption
   ·simp at h,Qf4⟩⟩ Qf3 ?_ ?_
  ·rintro⟨bd,rp2,ReBd,J6⟩ hI t ht;dsimp only at*;simp only[zY] at ht;subst ht;have hlR6:=hI.aa6.len;have h6x:=hI.aa1;have h6z:=hI.aa2;have ha7:=hI.aa7;have ha7':=hI.aa7';by_cases heq:rp2.length=rp.length
   ·have e6:((rp2.length:Int)==(rp.length:Int))=true:=by rw[heq];exact beq_self_eq_true _
    obtain⟨he0,hlits⟩:=hI.aa9 heq;have hbdl:=hI.al;rw[<-hbdl,Yt] at hlits;refine Wcl ?_;(refine g1f (a3 @hlR6 @h6x @e6) ?_;refine zC (zu5 b0 b1 pc ml mf mp L F P R ReBd J6 pQ fs ps hI.aa5 {x with pred:=pd,elem:={x.elem with ix:=ix},body:=bd} Bd ⟨hx.a,by dsimp only;omega,hI.aa8,hx.n⟩ (hI.aa4.at b0 b1 pc ml mf mp L F P R ReBd) (hres he0) hlits) ?_;intro p2 h2 hr2;refine g2 ?_);obtain⟨e7,at7,rfl,hext⟩:=hr2;obtain⟨J7,rfl,h7k⟩:=zlP hext;have h7G:=oD h7k hI.aa6;have h7x:=h7k _ _ h6x;have h7z:=h7k _ _ h6z;(repeat(first|refine gz ?_|(refine gn ?_;intro zs zh;(try simp only[go_sem,h7x] at zh);subst zh;refine gv ?_)|refine zQ yF _ 2 Qf6 ?_));(refine g1f @h7x ?_;refine zC (wZ b0 b1 pc ml mf mp L F P R ReBd J7 rp2 Qf3 h7G e7 at7) ?_;intro p2 h2 hr2;refine g2 ?_);obtain⟨Rep8,J8,rfl,h8G,h8k⟩:=hr2;have h8x:=h8k _ _ h7x Qf4;have h8z:=h8k _ _ h7z Qf4;have h8K:Keep J J8:=fun r b hb hn=>h8k r b (h7k r b (hI.aa3 r b hb hn)) hn;have h8B:BJ J8 Bd bd:=hI.aa4.mono fun q cs hq=>h8k q _ (h7k q _ hq) Qf4;have hge:=zaO rp2 e7 at7;have hle:=vB rp2 e7 at7;have h8lt:J.length+1<J8.length:=(gsi h8z).1;have h8s: ∀b,(J8.set (J.length+1) b)[J.length+1]? =some b:=fun b=>Qh h8lt;(repeat(first|refine gz ?_|(refine gn ?_;intro zs zh;(try simp only[go_sem,h8x,h8z,h8s] at zh);subst zh;refine gv ?_)|refine zQ yF _ 2 Qf6 ?_));refine⟨{x with pred:=pd,elem:={x.elem with ix:=ix},body:=bd},Bd,Rep8,J8.set (J.length+1) (.var 191 [yQ x.name,i64 pd,zrX x.args,i64 x.elem.kind,yQ x.elem.name,yQ x.elem.var,i64 ix,Bd,i64 x.at']),bU rp2 e7 at7,rfl,rfl,h8B.mono fun q cs hq=> ?_,fun r b hb hn=> ?_,h8G.set2 h8z Qf4 _,Qf3,Qf3⟩
    ·have:J.length+1≠q:=fun e=>by subst e;rw[h8z] at hq;cases hq
     rw[Qd this];exact hq
    ·have:=(gsi hb).1;rw[Qd Qf3];exact h8K r b hb hn
   ·have e6:((rp2.length:Int)==(rp.length:Int))=false:=Qfu;refine Wcl ?_;have h8lt:J.length+1<J6.length:=(gsi h6z).1;have h8s: ∀b,(J6.set (J.length+1) b)[J.length+1]? =some b:=fun b=>Qh h8lt;(repeat(first|refine gz ?_|(refine gn ?_;intro zs zh;(try simp only[go_sem,h6x,h6z,h8s] at zh);subst zh;refine gv ?_)|refine zQ yF _ 2 Qf6 ?_));refine⟨{x with pred:=pd,elem:={x.elem with ix:=ix},body:=bd},Bd,ReBd,J6.set (J.length+1) (.var 191 [yQ x.name,i64 pd,zrX x.args,i64 x.elem.kind,yQ x.elem.name,yQ x.elem.var,i64 ix,Bd,i64 x.at']),rp2,rfl,rfl,hI.aa4.mono fun q cs hq=> ?_,fun r b hb hn=> ?_,hI.aa6.set2 h6z Qf4 _,ha7,Qf3⟩
    ·have:J.length+1≠q:=fun e=>by subst e;rw[h6z] at hq;cases hq
     rw[Qd this];exact hq
    ·have:=(gsi hb).1;rw[Qd Qf3];exact hI.aa3 r b hb hn
  ·rintro i ⟨bd,rp2,ReBd,J6⟩ hi hw hI t ht;have Z1:=(a3 @hi @hw @zB)
   dsimp only at*;simp only[zY] at ht;subst ht;have h6x:=hI.aa1;have hbl:=hI.al;have hib:i<bd.length:=Qf3;have hlf:=hI.aa8 _ (Qc hib);have hdec:bd=bd.take i++bd[i]::bd.drop (i+1):=by rw[<-Zt hib,Kk]
   rcases hI.aa4 with ⟨hb0,_⟩|⟨q,hBq,hq⟩
   ·rw[hb0] at hib;simp at hib
   obtain⟨l,hle⟩: ∃l,bd[i]=l:=⟨_,rfl⟩
   rw[hle] at hdec hlf;have hpl:((bd.take i).map Li.c).flatten.length=i*9:=by rw[sP,Xk];congr 1;omega
   have hflat:(bd.map Li.c).flatten=((bd.take i).map Li.c).flatten++(l.c++((bd.drop (i+1)).map Li.c).flatten):=by
    conv=>lhs;rw[hdec]
    simp
   have hq2:=hq;rw[hflat] at hq2;obtain⟨pre,hpre⟩: ∃pre,((bd.take i).map Li.c).flatten=pre:=⟨_,rfl⟩
   obtain⟨suf,hsuf⟩: ∃suf,((bd.drop (i+1)).map Li.c).flatten=suf:=⟨_,rfl⟩
   rw[hpre] at hq2 hpl hflat;rw[hsuf] at hq2 hflat;subst hBq;obtain⟨lk,ln,lp,la,lb,le,ll,lo,lat⟩:=l;have hla4:=hlf.a;dsimp only at hla4;simp only[Xx,Yj] at hq2;have d1:=fun ys k=>iJ hpl ys k;have d2:=fun ys k=>iA hpl ys k;have d3:=fun ys=>lT hpl ys;have d4: ∀ys j k,(pre++ys).drop (i*9+j+k)=ys.drop (j+k):=fun ys j k=>by rw[Ji];exact d1 ys _
   have Z:=(a5 @d1 @d2 @d3 @d4 @hpl)
   have hset:J6.set q (.var 194 (pre++i64 lk::yQ ln::i64 lp::zrX la::yQ lb::yQ le::i64 ll::i64 lo::i64 lat::suf))=J6:=by
    obtain⟨hlt,hee⟩:=gsi hq2;rw[<-hee,Jr]
   refine Wen ?_;(refine g1f (a6 Z1 Z @h6x @hq2 @hib @hset) ?_;refine zC ((bI la Qf3 (all_map fun _=>rfl)).call zK Qf4 _) ?_;intro p2 h2 hr2;refine g2 ?_);obtain⟨rfl,rfl⟩:=hr2;refine Wen ?_;obtain⟨p,h',⟨e9,pd9,ls9,J7,rfl,rfl,hbut9,h7q,hres9⟩,hcall9⟩:=aM b0 b1 pc ml mf mp L F P R ReBd J6 pQ fs ps hI.aa5 q (i*9) 194 pre suf hpl ⟨lk,ln,lp,la,lb,le,ll,lo,lat⟩ hlf hq2;simp only[Xx,Yj] at h7q;((try(with_reducible refine qP ?_));(with_reducible refine zaX (id:=9) ?_);refine nP (own:=false) wN zK ⟨[⟨0,0,[]⟩,⟨0,0,[]⟩,⟨0,0,[]⟩,⟨4,0,[]⟩,⟨0,0,[]⟩,⟨0,0,[]⟩,⟨0,0,[]⟩,⟨1,0,[]⟩,⟨4,0,[]⟩],[],0⟩ [0,1,2,4,5,6] 3 7 [8] Qf6 ?_;intro n2 hn2;(try simp only[Qn,Xv,Ql,Yd,Nat.reduceAdd] at hn2);subst hn2;intro l2 hl2;simp only[Jc] at hl2;subst hl2;intro ds hds;simp only[Xa,Wj] at hds;subst hds;intro h2 hh2;(try simp only[rY,Ww,Ku,Xz,Xx,Yj,Qv] at hh2);subst hh2);refine Wen ?_;have h7x:=hbut9 _ _ (fun e=>by subst e;rw[h6x] at hq2;cases hq2) h6x;have h7z:=hbut9 _ _ (fun e=>by have h6z:=hI.aa2;rw[e,hq2] at h6z;cases h6z) hI.aa2;have h7S:Sc pQ fs ps ml mf mp L F P J7:=hI.aa5.mono (fun _ _ _ _ _ hG=>hbut9.grow hq2 Qf4 hG);have h7G:=hbut9.grow hq2 Qf4 hI.aa6;have ha7:=hI.aa7;have ha7':=hI.aa7';apply Exists.intro;apply Exists.intro;refine⟨?_,?_,?_⟩
   ·exact Qal
   ·refine Wen ?_;exact Qal
   ·(refine zF rfl rfl rfl ?_;intro zs zh;simp only[go_sem,h7q] at zh;subst zh;refine zP Qf5 Qf5 (wZ b0 b1 pc ml mf mp L F P R ReBd J7 rp2 Qf3 h7G e9 lat) ?_;intro p2 h2 hr2;refine Go.AL.g2 ?_);obtain⟨Rep8,J8,rfl,h8G,h8k⟩:=hr2;(repeat(first|refine gz ?_|(refine gn ?_;intro zs zh;(try simp only[go_sem,Z1] at zh);subst zh;refine gv ?_)|refine zQ yF _ 2 Qf6 ?_));have hlen9:=vB rp2 e9 lat;have hge9:=zaO rp2 e9 lat;have hqJ:=hBge q _ rfl;have hset2:bd.set i ⟨lk,ln,pd9,la,lb,le,ls9,lo,lat⟩=bd.take i++⟨lk,ln,pd9,la,lb,le,ls9,lo,lat⟩::bd.drop (i+1):=by
     rw[Ub,Qj hib]
    have htk2:(bd.set i ⟨lk,ln,pd9,la,lb,le,ls9,lo,lat⟩).take (i+1)=bd.take i++[⟨lk,ln,pd9,la,lb,le,ls9,lo,lat⟩]:=by
     rw[hset2,List.take_append,Yo Qfk];have:i+1-(bd.take i).length=1:=Qfk;rw[this];rfl
    refine⟨(bd.set i ⟨lk,ln,pd9,la,lb,le,ls9,lo,lat⟩,bU rp2 e9 lat,Rep8,J8),⟨h8k _ _ h7x Qf4,h8k _ _ h7z Qf4,fun r b hb hn=>h8k r b (hbut9 r b (by have:=(gsi hb).1;omega) (hI.aa3 r b hb hn)) hn,.inr ⟨q,by rw[Xb],?_⟩,by rw[Xb];exact hI.al,h7S.mono (fun _ _ _ _ ht hG=>h8k.grow ht hG),h8G,by dsimp only;omega,by dsimp only;omega,fun l hl=> ?_,fun h=> ?_⟩,rfl,rfl,rfl⟩
    ·have:((bd.set i ⟨lk,ln,pd9,la,lb,le,ls9,lo,lat⟩).map Li.c).flatten=pre++i64 lk::yQ ln::i64 pd9::zrX la::yQ lb::yQ le::i64 ls9::i64 lo::i64 lat::suf:=by
      rw[hset2,<-hpre,<-hsuf];simp
     rw[this];exact h8k q _ h7q Qf4
    ·rcases Ze hl with hl|rfl
     ·exact hI.aa8 l hl
     ·exact⟨hlf.a,hlf.c,hlf.b⟩
    ·dsimp only at h;have h2:rp2.length=rp.length:=Qf3;have he9:e9=0:=by
      by_cases he:e9=0
      ·exact he
      ·unfold bU at h;rw[Qi he,Ql,Wp] at h;omega
     obtain⟨hd9,hl9⟩:=hI.aa9 h2;refine⟨hd9,fun l hl=> ?_⟩;rw[htk2] at hl;rcases Qo.1 hl with hl|hl
     ·exact hl9 l hl
     ·rw[Qp] at hl;subst hl;exact hres9 he9
@[go_sem] def yL:DPlan:=⟨[yA,yA,yA,yA,⟨1,0,[1002]⟩,yA,yA,yA,⟨1,0,[1002]⟩,yA,yA,yA,⟨5,1002,[]⟩,yA],wS,0⟩
attribute [-go_sem] only pI
abbrev RuB(y:Ru×PV):List PV:=RuC y.1 y.2
structure RS(pQ:List La)(fs:List (Fu×PV))(ps:List Pd)(ml mf mp:NM)(L F P:PV)(i:Nat)(rs:List (Ru×PV))(rp:List (Int×Int))(R Rep:PV)(J:Heap):Prop where
 s:Sc pQ fs ps ml mf mp L F P J
 g:GrowN 7 253 (iV rp) 2 J Rep
 r:GrowN 7 191 (rs.map RuB) 9 J R
 b: ∀y∈rs,BJ J y.2 y.1.body
 l:rs.length=i
 n:rp.length<=10*i
def RzK(p:Pg)(v:PV)(h:Heap):Prop:=(∃d:List (Int×Int),d≠[]/\ ∃V,(V= .ts 2 (iV d)\/V= .tc 2 (iV d)\/ ∃q,V= .vec q 2 (iV d))/\v= .tup [.agg [.nil,.nil,.nil,.nil],V])\/
 (p.fm/\ ∃(b0 b1:Blk)(ml mf mp:NM)(L F P R Rep:PV)(J:Heap)(fs:List (Fu×PV))(ps:List Pd)(rs:List (Ru×PV)),v= .tup [.agg [L,F,P,R],.nil]/\h=SH b0 b1 p.c ml mf mp L F P R Rep J/\
  GrowN 7 131 (p.pQ.map La.c) 4 J L/\GrowN 7 183 (fs.map Fu.c2) 7 J F/\(∀x∈fs,x.2= .nil\/x.2=vF x.1.table)/\GrowN 7 73 (ps.map Pd.c) 7 J P/\GrowN 7 191 (rs.map RuB) 9 J R/\
  (∀y∈rs,BJ J y.2 y.1.body)/\fs.length=p.pZ.length/\ps.length=p.pk.length/\(∀x∈ps, -1<=x.of'/\x.of'<p.pQ.length/\x.types.length<=4)/\(∀x∈p.pQ,uE x=0)/\PzL p.pk ps)
theorem zlF{rp:List (Int×Int)}(h:rp.length≠0): ∃d:List (Int×Int),d≠[]/\List.take (if (20:Int)<(rp.length:Int) then 20 else(rp.length:Int)).toNat (iV rp)=iV d:=by
 refine⟨rp.take (if (20:Int)<(rp.length:Int) then 20 else(rp.length:Int)).toNat,fun e=> ?_,by rw[iV,iV,List.map_take]⟩;have:=Ym List.length e;rw[Xk,Xv] at this;split at this<;>omega
theorem fU(p:Pg)(hp:p.ok)(hle: ∀x∈p.pQ,x.pw.length<=1048576/\x.pJ.length<=1048576):ECall prog G0 100 [.agg p.c] [] (RzK p):=by
 refine pv func100 65 false Qf6 rfl rfl ?_;refine g2 ?_;(repeat(first|refine gz ?_|(refine gn ?_;intro zs zh;(try simp only[go_sem] at zh);subst zh;refine gv ?_)|refine zQ yL _ 11 Qf6 ?_));(refine g1 ?_;refine zC ((zdU p hp).call zK Qfe _) ?_;intro p2 h2 hr2;refine g2 ?_);obtain⟨⟨b,rfl,hfm⟩,rfl⟩:=hr2;cases b with
 |false=>
  (repeat(first|refine gz ?_|(refine gn ?_;intro zs zh;(try simp only[go_sem] at zh);subst zh;refine gv ?_)|refine zQ yL _ 11 Qf6 ?_));exact .inl ⟨[(1,0)],Qf4,_,.inr (.inl rfl),rfl⟩
 | true=>
  have hf:=hfm rfl;(repeat(first|refine gz ?_|(refine gn ?_;intro zs zh;(try simp only[go_sem] at zh);subst zh;refine gv ?_)|refine zQ yL _ 11 Qf6 ?_));(refine g1 ?_;refine zC (dV _ _ p hp hf hle) ?_;intro p2 h2 hr2;refine g2 ?_);obtain⟨ml,mf,mp,L,F,P,Rep,J,rp,fs,ps,rfl,rfl,n1,n2,n3,gL,gF,hfb,gP,gR,hpl,hpb,hfl,hrl,hck,hpz⟩:=hr2;have hlR:=gR.len;have hSc:Sc p.pQ fs ps ml mf mp L F P J:=⟨hp.l,hf.ll,gL,gF,by have:=hf.fl;omega,gP,by have:=hf.pl;omega,hpb,n1,n2,n3⟩
  by_cases hr0:rp.length=0
  ·have e0:((rp.length:Int)==0)=true:=by rw[hr0];rfl
   have hlQ:pI (α:=Prop) prog 25 (.ts 9 (p.pX.map Ru.c))=some (i64 p.pX.length,True):=by
    have e:(wX prog 25).isSome=true:=Qf6;simp only[pI,e,Wk,Qs];rfl
   (repeat(first|refine gz ?_|(refine gn ?_;intro zs zh;(try simp only[go_sem,hlR,e0,hlQ] at zh);subst zh;refine gv ?_)|refine zQ yL _ 11 Qf6 ?_));refine zO p.pX.length (K4 (.k:: .k:: .d::K9 (K4 (K4 (.v::D9 (D9 (K9 (K9 (K4 ([])))))))))) (own:=false) (fun i (s:List (Ru×PV)×List (Int×Int)×PV×PV×Heap)=>[i64 i]) (fun s=>SH _ _ p.c ml mf mp L F P s.2.2.1 s.2.2.2.1 s.2.2.2.2) (fun i s=>RS p.pQ fs ps ml mf mp L F P i s.1 s.2.1 s.2.2.1 s.2.2.2.1 s.2.2.2.2) ([],rp,.nil,Rep,J) rfl rfl ⟨hSc,gR,.inl ⟨rfl,rfl⟩,Qf4,rfl,by dsimp only;omega⟩ (by have:=hf.rl;omega) ?_ ?_
   ·rintro⟨rs,rp2,R,Rep2,J2⟩ ⟨i1,i2,i3,i4,i5,i6⟩ t ht;dsimp only at*;simp only[zY] at ht;subst ht;have hlR2:=i2.len;by_cases hr2:rp2.length=0
    ·have e2:decide ((0:Int)<(rp2.length:Int))=false:=by rw[Xo];omega
     (repeat(first|refine gz ?_|(refine gn ?_;intro zs zh;(try simp only[go_sem,zM,hlR2,e2] at zh);subst zh;refine gv ?_)|refine zQ yL _ 11 Qf6 ?_));exact .inr ⟨hf,_,_,_,_,_,_,_,_,_,_,_,fs,ps,rs,rfl,rfl,i1.l,i1.f,hfb,i1.p,i3,i4,hfl,hpl,hpb,hck (Xi hr0),hpz⟩
    ·have e2:decide ((0:Int)<(rp2.length:Int))=true:=by rw[Xm];omega
     obtain⟨q,rfl,hq⟩:=i2.vec (by rw[Qs];omega);have h18:(1<J2.length+1+1+1+1+1+1+1)=True:=Qf4;(repeat(first|refine gz ?_|(refine gn ?_;intro zs zh;(try simp only[go_sem,zM,hlR2,e2,h18,SH] at zh);subst zh;refine gv ?_)|refine zQ yL _ 11 Qf6 ?_));obtain⟨d,hd,ed⟩:=zlF hr2;exact .inl ⟨d,hd,_,.inl rfl,by rw[ed]⟩
   ·rintro i ⟨rs,rp2,R,Rep2,J2⟩ hi hw hI t ht;dsimp only at*;simp only[zY] at ht;subst ht;have hx:=zG (f:=Ru.c) [] hi;obtain⟨x,hxe⟩: ∃x,p.pX[i]=x:=⟨_,rfl⟩
    have hxf:x.fm:=hxe▸hf.r _ (Qc hi);rw[hxe] at hx;have Z:=(a4 @hi @hx @zB @hw)
    have Z1:=(a2 Z @zA)
    (repeat(first|refine gz ?_|(refine gn ?_;intro zs zh;(try simp only[go_sem,Z1,zX] at zh);subst zh;refine gv ?_)|refine zQ yL _ 11 Qf6 ?_));obtain⟨pv,h',⟨x',B,Rep3,J3,rp3,rfl,rfl,hBJ,hK,hG3,hle1,hle2⟩,hcall⟩:=zi1 _ _ p.c ml mf mp L F P R Rep2 (J2++[.var 191 x.c]) p.pQ fs ps (hI.s.mono (fun _ _ _ _ _ hG=>hG.app _)) rp2 (by have:=hI.n;have:=hf.rl;omega) (hI.g.app _) x hxf;have hRb: ∀y∈rs,BJ J3 y.2 y.1.body:=fun y hy=>(hI.b y hy).mono fun q cs hq=>hK q _ (by rw[Qg (gsi hq).1];exact hq) Qf4;have hS3:=hI.s.mono (fun _ _ _ _ ht hG=>hK.grow ht (hG.app [.var 191 x.c]));have hr3:=hK.grow Qf5 (hI.r.app [.var 191 x.c]);have hn:=hI.n;have hl:=hI.l;((try(with_reducible refine qP ?_));(with_reducible refine zaX (id:=8) ?_);refine nP (own:=false) wN zK ⟨[⟨0,0,[]⟩,⟨0,0,[]⟩,⟨0,0,[]⟩,⟨0,0,[]⟩,⟨0,0,[]⟩,⟨1,0,[]⟩,⟨0,0,[]⟩,⟨1,0,[]⟩,⟨4,0,[]⟩,⟨0,0,[]⟩,⟨4,0,[]⟩,⟨0,0,[]⟩,⟨0,0,[]⟩,⟨0,0,[]⟩,⟨4,0,[]⟩],[],0⟩ [0,1,2,3,4,6,7] 5 8 [9,10,11,12,13,14] Qf6 ?_;intro n2 hn2;(try simp only[Qn,Xv,Ql,Yd,Nat.reduceAdd] at hn2);subst hn2;intro l2 hl2;simp only[Jc] at hl2;subst hl2;intro ds hds;simp only[Xa,Wj] at hds;subst hds;intro h2 hh2;(try simp only[rY,Ww,Ku,Xz,Xx,Yj,Qv] at hh2);subst hh2);refine Wev ?_;apply Exists.intro;apply Exists.intro;refine⟨?_,?_,?_⟩
    ·(repeat(first|refine gz ?_|(refine gn ?_;intro zs zh;(try simp only[go_sem,Z] at zh);subst zh;refine gv ?_)|refine zQ yL _ 11 Qf6 ?_));exact Qaj
    ·refine Wev ?_;exact Qaj
    ·have h6J:(6<J3.length+1+1+1+1+1+1+1)=True:=Qf4;rcases hr3 with ⟨h0,rfl⟩|⟨q,rfl,hq⟩
     ·have hrs:rs=[]:=Qg8;subst hrs;(repeat(first|refine gz ?_|(refine gn ?_;intro zs zh;(try simp only[go_sem,Z,h6J] at zh);subst zh;refine gv ?_)|refine zQ yL _ 11 Qf6 ?_));exact⟨([(x',B)],rp3,_,Rep3,_),⟨hS3.mono (fun _ _ _ _ _ hG=>hG.app _),hG3.app _,.inr ⟨J3.length,Qf4,Qf4⟩,by simpa using hBJ.mono fun q cs hq=>by rw[Qg (gsi hq).1];exact hq,by simpa using hl.symm,by dsimp only;omega⟩,rfl,rfl,rfl⟩
     ·simp only[Qs] at hq;have h40:rs.length<=40:=by have:=hf.rl;omega
      have hql:q<J3.length:=(gsi hq).1;(repeat(first|refine gz ?_|(refine gn ?_;intro zs zh;(try simp only[go_sem,Z,h6J,hq] at zh);subst zh;refine gv ?_)|refine zQ yL _ 11 Qf6 ?_));have hm: ∀z:Ru×PV,BJ J3 z.2 z.1.body->BJ (J3.set q (.vec 191 9 (rs.length+1))) z.2 z.1.body:=fun z hz=>hz.mono fun q2 cs hq2=>by
       have:q≠q2:=fun e=>by subst e;rw[hq] at hq2;cases hq2
       rw[Qd this];exact hq2
      refine⟨(rs++[(x',B)],rp3,_,Rep3,_),⟨⟨hS3.lo,hS3.ll,hS3.l.set2 hq Qf4 _,hS3.f.set2 hq Qf4 _,hS3.fl,hS3.p.set2 hq Qf4 _,hS3.pl,hS3.pb,hS3.ml,hS3.mf,hS3.mp⟩,hG3.set2 hq Qf4 _,.inr ⟨q,by rw[Xq];rfl,by rw[Qh hql];simp⟩,fun y hy=> ?_,by simp;omega,by dsimp only;omega⟩,rfl,rfl,rfl⟩;rcases Qo.1 hy with hy|hy
      ·exact hm y (hRb y hy)
      ·rw[Qp] at hy;subst hy;exact hm _ hBJ
  ·have e0:((rp.length:Int)==0)=false:=Qfu;have e1:decide ((0:Int)<(rp.length:Int))=true:=by rw[Xm];omega
   obtain⟨q,rfl,hq⟩:=gR.vec (by rw[Qs];omega);have h18:(1<J.length+1+1+1+1+1+1+1)=True:=Qf4;(repeat(first|refine gz ?_|(refine gn ?_;intro zs zh;(try simp only[go_sem,hlR,e0,e1,h18,SH] at zh);subst zh;refine gv ?_)|refine zQ yL _ 11 Qf6 ?_));obtain⟨d,hd,ed⟩:=zlF hr0;exact .inl ⟨d,hd,_,.inl rfl,by rw[ed]⟩
attribute [go_sem] pI only
theorem fC(k:Nat): ∀(l:List (List PV))(_: ∀e∈l,e.length=k)(i:Nat)(hi:i<l.length),(l.flatten.drop (i*k)).take k=l[i]
 | [],_,i,hi=>by simp at hi
 |e::l,h,0,_=>by
  rw[Ki,List.drop_zero,Yl,List.take_left' (h e Qf4)];rfl
 |e::l,h,i+1,hi=>by
  rw[Yl,Nat.succ_mul,Nat.add_comm,<-Wy,List.drop_left' (h e Qf4),fC k l (fun e he=>h e Qfh) i Qg6];rfl
theorem rL(k:Nat)(l:List (List PV))(h: ∀e∈l,e.length=k):wA l.flatten 0 k l.length=l:=by
 apply Zc
 ·simp[wA]
 ·intro i h1 h2;have e:(wA l.flatten 0 k l.length)[i]? =some (wA l.flatten 0 k l.length)[i]:=Qa h1;have:=(vN e).2;rw[this,Yd,fC k l h i h2]
theorem mZ(f:Nat)(l:List BA):zU (f+2) (rR l)=true:=all_map fun _=>rfl
theorem eK(f:Nat)(l:List Int):zU (f+2) (vF l)=true:=all_map fun _=>rfl
theorem zaK(f:Nat)(l:List Tm):zU (f+2) (zrX l)=true:=all_map fun _=>rfl
theorem zlA(f:Nat)(x:La):x.c.all (zU (f+3))=true:=by
 have h1:=mZ (f+1) x.pw;have h2:zU (f+3) (.ts 2 (x.pJ.map fun c=>[i64 c.1,i64 c.2]))=true:=all_map fun _=>rfl;simp only[La.c,Wm,Jb,h1,h2,Zx,Jk];rfl
theorem tb_fu(f:Nat)(x:Fu):x.c.all (zU (f+3))=true:=by
 have h1:=mZ (f+1) x.fr;have h2:=mZ (f+1) x.to;have h3:=eK (f+1) x.table;simp only[Fu.c,Wm,Jb,h1,h2,h3,Zx,Jk];rfl
theorem zk8(f:Nat)(x:Pd):x.c.all (zU (f+3))=true:=by
 have h3:=eK (f+1) x.types;simp only[Pd.c,Wm,Jb,h3,Zx,Jk];rfl
theorem zk9(f:Nat)(x:Li):x.c.all (zU (f+3))=true:=by
 have h3:=zaK (f+1) x.args;simp only[Li.c,Wm,Jb,h3,Zx,Jk];rfl
theorem tb_ru(f:Nat)(x:Ru):x.c.all (zU (f+5))=true:=by
 have h3:=zaK (f+3) x.args;have h4:zU (f+5) (.ts 9 (x.body.map Li.c))=true:=all_map fun y=>zk9 (f+1) y;simp only[Ru.c,Wm,Jb,h3,h4,Zx,Jk];rfl
theorem tb_pg(f:Nat)(q:Pg):q.c.all (zU (f+7))=true:=by
 have h1:zU (f+7) (.ts 4 (q.pQ.map La.c))=true:=all_map fun y=>zlA (f+3) y;have h2:zU (f+7) (.ts 7 (q.pZ.map Fu.c))=true:=all_map fun y=>tb_fu (f+3) y;have h3:zU (f+7) (.ts 7 (q.pk.map Pd.c))=true:=all_map fun y=>zk8 (f+3) y;have h4:zU (f+7) (.ts 9 (q.pX.map Ru.c))=true:=all_map fun y=>tb_ru (f+1) y;simp only[Pg.c,Wm,Jb,h1,h2,h3,h4,Zx,Jk]
theorem zlN(f:Nat)(d:List (Int×Int)):zU (f+2) (.ts 2 (iV d))=true:=all_map fun _=>rfl
theorem zb0{n:Nat}{h:Heap}(f:Nat)(cs:List PV):fz n h (f+1) (.agg cs)= .agg (cs.map (fz n h f)):=by simp only[fz]
theorem zaV{n:Nat}{h:Heap}(f k:Nat)(els:List (List PV)):fz n h (f+1) (.ts k els)= .ts k (els.map fun e=>e.map (fz n h f)):=by simp only[fz]
theorem zl7{n:Nat}{h:Heap}(f k:Nat)(els:List (List PV)):fz n h (f+1) (.tc k els)= .tc k (els.map fun e=>e.map (fz n h f)):=by simp only[fz]
theorem zmA{h:Heap}(f r off k len:Nat){t:TypeId}{cs:List PV}(e:h[r]? =some (.var t cs)):fz 0 h (f+1) (.ms r off k len)= .ts k (wA (cs.map (fz 0 h f)) off k len):=by
 simp only[fz,Xt,Wr,e]
def znL(x:Fu×PV):Fu:=match x.2 with
 | .nil=>{x.1 with table:=[]}
 |_=>x.1
theorem dL{h:Heap}{f:Nat}{cs:List PV}(hc:cs.all (zU f)=true):cs.map (fz 0 h f)=cs:=uR fun x hx=>vE 0 h f x (by rw[Xg] at hc;exact hc x hx)
theorem GrowN.fz{t:TypeId}{els els':List (List PV)}{k:Nat}{J:Heap}{V:PV}(g:GrowN 7 t els k J V)(h:Heap)(f:Nat)(e:els.map (fun e=>e.map (fz 0 h f))=els'):PLe (fz 0 h (f+1) V) (.ts k els'):=by
 subst e;rcases g with ⟨rfl,rfl⟩|⟨q,rfl,_⟩
 ·rw[kX];exact PLe.nil_ts k
 ·rw[pD,zaV];exact PLe.refl _
theorem qI{α:Type}{h:Heap}{f:Nat}{l:List α}{c d:α->List PV}(e: ∀x∈l,(c x).map (fz 0 h f)=d x):(l.map c).map (fun e=>e.map (fz 0 h f))=l.map d:=by
 rw[Zg];exact Yq fun x hx=>e x hx
abbrev RsvK(p:Pg)(v:PV):Prop:= ∃(q:Pg)(d:List (Int×Int)),v= .tup [.agg q.c,.ts 2 (iV d)]/\(d=[]->p.fm/\q.pZ.length=p.pZ.length/\q.pk.length=p.pk.length/\(∀x∈q.pk, -1<=x.of'/\x.of'<p.pQ.length)/\(∀x∈p.pQ,uE x=0)/\PzL p.pk q.pk)
theorem cN(q:Pg)(d:List (Int×Int)):Tree (.tup [.agg q.c,.ts 2 (iV d)]):=yP 40 _ (by
 have h1:zU 39 (.agg q.c)=true:=tb_pg 31 q;have h2:=zlN 37 d;simp only[zU,Wm,Jb,h1,h2,Zx] at*;simp[h1,h2])
theorem aI(p:Pg)(hp:p.ok)(hle: ∀x∈p.pQ,x.pw.length<=1048576/\x.pJ.length<=1048576):EPure prog G0 100 [.agg p.c] (RsvK p):=by
 refine ECall.cutW (fU p hp hle) ?_;rintro v h (⟨d,hd,V,hV,rfl⟩|⟨hf,b0,b1,ml,mf,mp,L,F,P,R,Rep,J,fs,ps,rs,rfl,rfl,gL,gF,hfb,gP,gR,hB,hfl,hpl,hpb,hck,hpz⟩)
 ·refine⟨.tup [.agg (Pg.c ⟨[],[],[],[]⟩),.ts 2 (iV d)],?_,⟨⟨[],[],[],[]⟩,d,rfl,fun h=>absurd h hd⟩,cN _ _⟩;rw[dK 39];refine(PLes.cons ?_ (.cons ?_ .nil)).tup
  ·rw[zb0 38];simp only[Xa,Wj,kX 37];exact(PLes.cons (PLe.nil_ts _) (.cons (PLe.nil_ts _) (.cons (PLe.nil_ts _) (.cons (PLe.nil_ts _) .nil)))).agg
  ·have e:(iV d).map (fun e=>e.map (fz 0 h 38))=iV d:=qI fun x _=>rfl;rcases hV with rfl|rfl|⟨q,rfl⟩
   ·rw[zaV 38,e];exact PLe.refl _
   ·rw[zl7 38,e];exact PLe.tc_ts _ _
   ·rw[pD (f:=38),zaV 38,e];exact PLe.refl _
 ·obtain⟨H,hH⟩: ∃H,SH b0 b1 p.c ml mf mp L F P R Rep J=H:=⟨_,rfl⟩
  refine⟨.tup [.agg (Pg.c ⟨p.pQ,fs.map znL,ps,rs.map (·.1)⟩),.ts 2 (iV [])],?_,⟨_,[],rfl,fun _=>⟨hf,by simpa using hfl,hpl,fun x hx=>⟨(hpb x hx).1,(hpb x hx).2.1⟩,hck,hpz⟩⟩,cN _ _⟩;rw[dK 39];refine(PLes.cons ?_ (.cons ?_ .nil)).tup
  ·rw[hH];have e0:fz 0 H 39 (.agg [L,F,P,R])= .agg [fz 0 H 38 L,fz 0 H 38 F,fz 0 H 38 P,fz 0 H 38 R]:=by rw[zb0 38];rfl
   rw[e0];refine(PLes.cons ?_ (.cons ?_ (.cons ?_ (.cons ?_ .nil)))).agg
   ·exact gL.fz H 37 (qI fun x _=>dL (zlA 34 x))
   ·refine(gF.fz H 37 (els':=fs.map Fu.c2) (qI fun x hx=> ?_)).trans ?_
    ·refine dL ?_;have h1:=mZ 35 x.1.fr;have h2:=mZ 35 x.1.to;have h3:=eK 35 x.1.table;have h4:zU 37 x.2=true:=by rcases hfb x hx with e|e<;>rw[e];rfl;exact h3
     simp only[Fu.c2,Wm,Jb,h1,h2,h4,Zx,Jk];rfl
    ·rw[Zg];refine PLes.ts_map fun x hx=> ?_;rcases hfb x hx with e|e
     ·simp only[Function.comp,znL,e,Fu.c2,Fu.c];exact .cons (PLe.refl _) (.cons (PLe.refl _) (.cons (PLe.refl _) (.cons (PLe.refl _) (.cons (PLe.refl _) (.cons (PLe.nil_ts 1) (.cons (PLe.refl _) .nil))))))
     ·simp only[Function.comp,znL,e,Fu.c2,Fu.c];exact PLes.refl _
   ·exact gP.fz H 37 (qI fun x _=>dL (zk8 34 x))
   ·rw[Zg];refine gR.fz H 37 (qI fun y hy=> ?_);have h1:=vE 0 H 37 _ (zaK 35 y.1.args);have h2:fz 0 H 37 y.2= .ts 9 (y.1.body.map Li.c):=by
     rcases hB y hy with ⟨e1,e2⟩|⟨q,e2,hq⟩
     ·rw[e1,e2];rfl
     ·have hq':H[q+7]? =some (.var 194 (y.1.body.map Li.c).flatten):=by rw[<-hH];exact hq
      rw[e2,zmA 36 _ _ _ _ hq'];have e3:((y.1.body.map Li.c).flatten).map (fz 0 H 36)=(y.1.body.map Li.c).flatten:=by
       refine dL ?_;rw[List.all_flatten];exact all_map fun x=>zk9 33 x
      rw[e3];have:=rL 9 (y.1.body.map Li.c) (by intro e he;obtain⟨x,_,rfl⟩:=Xf.1 he;rfl);rw[Qs] at this;rw[this]
    simp only[Function.comp,RuB,RuC,Ru.c,Xa,Wj,h1,h2,zaW 36]
  ·rw[kX];exact PLe.nil_ts 2
noncomputable def znY(f:FuncId)(args:List PV)(K:Bool->Prop):Bool:=
 open Classical in if EPure prog G0 f args (fun v=>v=bo true)/\K true then true else if h: ∃b:Bool,EPure prog G0 f args (fun v=>v=bo b)/\K b then Classical.choose h else false
theorem za3{f:FuncId}{args:List PV}{K:Bool->Prop}(h:EB f args K):EPure prog G0 f args (fun v=>v=bo (znY f args K))/\K (znY f args K):=by
 have h': ∃b:Bool,EPure prog G0 f args (fun v=>v=bo b)/\K b:=by
  obtain⟨v,⟨b,rfl,hb⟩,t,q⟩:=h;exact⟨b,⟨_,rfl,t,q⟩,hb⟩
 unfold znY;by_cases w:EPure prog G0 f args (fun v=>v=bo true)/\K true
 ·rw[Qj w];exact w
 ·rw[Qi w,dif_pos h'];exact Classical.choose_spec h'
theorem zf1{f:FuncId}{args:List PV}{K:Bool->Prop}(h:EPure prog G0 f args (fun v=>v=bo true))(k:K true):znY f args K=true:=by
 unfold znY;exact Qj ⟨h,k⟩
@[go_sem] def UEqf88.pl:Nat->DPlan
 |6=>⟨[yA,yA,yA,yB,yA,yA,yA,yB,yA],uW,0⟩
 |_=>⟨[],[],0⟩
@[go_sem] def UEqf101.pl:Nat->DPlan
 |6=>⟨[yA,yA,yA,yB,yA,yA,yA,yB,yA],uW,0⟩
 |_=>⟨[],[],0⟩
@[go_sem] def UEqf199.pl:Nat->DPlan
 |6=>⟨[yA,yA,yA,yB,yA,yA,yA,yB,yA],uW,0⟩
 |_=>⟨[],[],0⟩
theorem qK{α:Type}(X l:List α)(b:α):(X++l).set X.length b=X++l.set 0 b:=by rw[Zr _ _ (Xe _)];simp
theorem rN{α:Type}(X l:List α)(k:Nat)(b:α):(X++l).set (X.length+k) b=X++l.set k b:=by rw[Zr _ _ Qf3];simp
theorem rU{α:Type}(X l:List α):(X++l)[X.length]? =l[0]? :=by rw[Zj (Xe _)];simp
theorem sB{α:Type}(X l:List α)(k:Nat):(X++l)[X.length+k]? =l[k]? :=by rw[Zj Qf3];simp
theorem zs8(a b c d e f:Int):za2 (α:=Prop) prog 208 (.agg [i64 a,i64 b,i64 e]) (.agg [i64 c,i64 d,i64 f])=some (a==c&&(b==d&&(e==f&&true)),True):=by
 kernel_rfl
open UEqf101 in
theorem zmH(a b:List Int)(ha:a.length<=140737488355328):EB 101 [vF a,vF b] fun r=>r=true->a.length=b.length:=by
 refine ECall.pure (pv func101 26 false Qf6 rfl rfl ?_);refine g2 ?_;by_cases hl:a.length=b.length
 ·have hne:((a.length:Int)!=(b.length:Int))=false:=Qf8;refine gf @hne ?_;refine zO a.length (K4 (.d:: .d::K4 (.k:: .k:: .k:: .v::D9 (.d:: .d:: .d::[])))) (own:=false) (fun i (_:Unit)=>[i64 i]) (fun _=>_) (fun _ _=>True) () rfl rfl trivial ha ?_ ?_
  ·rintro _ _;refine gm ?_;refine gf @zM ?_;exact⟨⟨⟨_,rfl,fun _=>hl⟩,.sc⟩,rfl⟩
  ·rintro i _ hi hw _;refine gm ?_;have hlb:i<b.length:=Qf3;have hg:=zG (f:=(fun n:Int=>[i64 n])) [] hi;have hgb:=zG (f:=(fun n:Int=>[i64 n])) [] hlb;(have F:=(a6 @hi @hlb @hw @hg @hgb @zB);(repeat' (first|refine dR F ?_|refine dQ F (fun he=> ?_) (fun he=> ?_)|fail));all_goals clear F)
   ·exact⟨⟨⟨_,rfl,Qf4⟩,.sc⟩,rfl⟩
   ·exact Qbv
 ·have hne:((a.length:Int)!=(b.length:Int))=true:=Qfk;refine gf @hne ?_;exact Qby
theorem zmF(a b:List Ru)(ha:a.length<=140737488355328)(g:FuncId)(hF: ∀x∈a, ∀y∈b,EB g [.agg x.c,.agg y.c]):EB 102 [.ts 9 (a.map Ru.c),.ts 9 (b.map Ru.c),.fn (.func g) [] []] fun r=>r=true->a.length=b.length:=by
 refine ECall.cut (R:=fun p _=> ∃r:Bool,p=bo r/\(r=true->a.length=b.length)) (pv func102 32 false Qf6 rfl rfl ?_) Qhe;refine g2 ?_;by_cases hl:a.length=b.length
 ·have hne:((a.length:Int)!=(b.length:Int))=false:=Qf8;refine gf @hne ?_;refine zO a.length (K4 (.k:: .k::D4 (K4 (.k:: .k:: .k:: .v::D9 (D4 (.d::[])))))) (own:=false) (fun i (_:Heap)=>[i64 i]) (fun J=>J) (fun _ _=>True) [] rfl rfl trivial ha ?_ ?_
  ·exact Qe5
  ·rintro i J hi hw _;refine gm ?_;have hlb:i<b.length:=Qf3;have hg:=zG (f:=Ru.c) [] hi;have hgb:=zG (f:=Ru.c) [] hlb;exact Qaq
 ·exact Qf1
theorem zmG(a b:List Li)(ha:a.length<=140737488355328)(g:FuncId)(hF: ∀x∈a, ∀y∈b,EB g [.agg x.c,.agg y.c]):EB 104 [.ts 9 (a.map Li.c),.ts 9 (b.map Li.c),.fn (.func g) [] []] fun r=>r=true->a.length=b.length:=by
 refine ECall.cut (R:=fun p _=> ∃r:Bool,p=bo r/\(r=true->a.length=b.length)) (pv func104 32 false Qf6 rfl rfl ?_) Qhe;refine g2 ?_;by_cases hl:a.length=b.length
 ·have hne:((a.length:Int)!=(b.length:Int))=false:=Qf8;refine gf @hne ?_;refine zO a.length (K4 (.k:: .k::D4 (K4 (.k:: .k:: .k:: .v::D9 (D4 (.d::[])))))) (own:=false) (fun i (_:Heap)=>[i64 i]) (fun J=>J) (fun _ _=>True) [] rfl rfl trivial ha ?_ ?_
  ·exact Qe5
  ·rintro i J hi hw _;refine gm ?_;have hlb:i<b.length:=Qf3;have hg:=zG (f:=Li.c) [] hi;have hgb:=zG (f:=Li.c) [] hlb;exact Qaq
 ·exact Qf1
@[go_sem] def UTyp17f44.pl:Nat->DPlan
 |7=>⟨[yA,yB,yA,yB,yA,yA,yA,yB,yA,yA,yA,yB,yA,yB,yA,yA,yA,yB,yC,yA,yA],pR,0⟩
 |13=>⟨[yA,yB,yA,yB,yA,yA,yA,yB,yA],uW,0⟩
 |_=>⟨[],[],0⟩
theorem eqEl(a d a' d':Int)(s t s' t':BA):za2 (α:=Prop) prog 188 (.agg [i64 a,yQ s,yQ t,i64 d]) (.agg [i64 a',yQ s',yQ t',i64 d'])=some (a==a'&&(decide (s=s')&&(decide (t=t')&&(d==d'&&true))),True):=by
 kernel_rfl
theorem aB(x y:Li):EB 105 [.agg x.c,.agg y.c]:=by
 refine ECall.cut (R:=fun v _=> ∃b:Bool,v=bo b) (pv func105 17 false Qf6 rfl rfl ?_) Qho;refine g2 ?_;(repeat' (first|refine gp ?_|refine gs (fun he=> ?_) (fun he=> ?_)|fail));all_goals exact⟨_,rfl⟩
theorem zcW(x y:Ru)(hx:x.body.length<=140737488355328):EB 103 [.agg x.c,.agg y.c]:=by
 refine ECall.cut (R:=fun v _=> ∃b:Bool,v=bo b) (pv func103 24 false Qf6 rfl rfl ?_) Qho;refine g2 ?_;have hq:=(zmG x.body y.body hx 105 (fun x _ y _=>aB x y)).call zK (by simp[zJ,yO]);(repeat' (first|refine gz ?_|(refine gn ?_;intro zs zh;(try simp only[go_sem,eqEl] at zh);subst zh;(first|refine gv ?_|(refine zC (hq _) ?_;intro p2 h2 hr2;obtain⟨hr2,rfl⟩:=hr2;first|obtain⟨_,rfl,hr2⟩:=hr2|obtain⟨_,rfl⟩:=hr2|subst hr2|skip)|(refine yS (fun he=> ?_) (fun he=> ?_)<;>(try simp only[mM] at he))))|((with_reducible refine tO rfl ?_);intro sr hsr;simp only[sK,wP] at hsr;subst hsr;(fail_if_success(with_reducible(first|refine tL ?_|refine tN ?_)));refine tK (fun he=> ?_) (fun he=> ?_)<;>(intro ts2 hts;simp only[wP] at hts;subst hts;(try simp only[mM] at he)))|fail));all_goals first|exact⟨_,rfl⟩|skip
def TvK(p:Pg):Prop:=p.fm/\(∀x∈p.pk, -1<=x.of'/\x.of'<p.pQ.length)/\(∀x∈p.pQ,uE x=0)/\ ∀x∈p.pk,x.lat=eS->x.of'= -1
open UTyp17f44 in
theorem mL(p:Pg)(hp:p.ok)(hle: ∀x∈p.pQ,x.pw.length<=1048576/\x.pJ.length<=1048576):EB 44 [.agg p.c] fun b=>b=true->TvK p:=by
 refine ECall.cut (R:=fun v _=> ∃b:Bool,v=bo b/\(b=true->TvK p)) (pv func44 70 false Qf6 rfl rfl ?_) Qhf;refine g2 ?_;refine ge ?_;(refine g1 ?_;refine zC ((aI p hp hle).call zK Qfe _) ?_;intro p2 h2 hr2;refine g2 ?_);obtain⟨⟨q,d,rfl,hd⟩,rfl⟩:=hr2;by_cases hd0:d.length=0
 ·have e0:decide ((0:Int)<(d.length:Int))=false:=by rw[Xo];omega
  obtain⟨hf,hfl,hpl,hpb,hck,hpz⟩:=hd (Xi hd0);have hf1:=hf.fl;have hf2:=hf.pl;have hf3:=hf.rl;refine gf @e0 ?_;refine zO p.pZ.length (.k:: .k:: .d:: .k:: .k:: .d:: .d::K9 (K4 (.v::D9 (D9 (D4 (D4 (K9 (K9 (K4 (.k::[])))))))))) (own:=false) (fun i (_:Heap)=>[i64 i]) (fun J=> .var 27 p.c:: .var 27 q.c::J) (fun _ _=>True) [] rfl rfl trivial Qf3 ?_ ?_
  ·rintro J _;refine gm ?_;refine gf @zM ?_;refine zO p.pk.length (.k:: .k:: .d::K4 (.d:: .d::K9 (K9 (K9 (K9 (K4 (.k:: .v::D9 (D4 (.d::K4 (.k::[])))))))))) (own:=false) (fun i (_:Heap)=>[i64 i]) (fun J=> .var 27 p.c:: .var 27 q.c::J) (fun i _=> ∀(j:Nat)(h:j<p.pk.length),j<i->(-1<=p.pk[j].of'/\p.pk[j].of'<p.pQ.length)/\(p.pk[j].lat=eS->p.pk[j].of'= -1)) J rfl rfl (fun j _ hj=>absurd hj (Xt _)) Qf3 ?_ ?_
   ·rintro J hI;refine gm ?_;refine gf @zM ?_;(refine g1 ?_;refine zC ((zmF p.pX q.pX Qf3 103 (fun x hx y _=>zcW x y (hp.r x hx).bl)).call zK (by simp[zJ,yO]) _) ?_;intro p2 h2 hr2;refine g2 ?_);obtain⟨⟨b,rfl, -⟩,rfl⟩:=hr2;refine ge ?_;exact⟨b,rfl,fun _=>⟨hf,fun x hx=>by obtain⟨j,hj,rfl⟩:=Qy hx;exact(hI j hj hj).1,hck,fun x hx=>by obtain⟨j,hj,rfl⟩:=Qy hx;exact(hI j hj hj).2⟩⟩
   ·rintro i J hi hw hI;refine gm ?_;have hiq:i<q.pk.length:=Qf3;have hx:=zG (f:=Pd.c) [] hi;have hy:=zG (f:=Pd.c) [] hiq;have F1:=(a8 @hi @hiq @hx @hy @hw @zB @zA @zX)
    by_cases he:p.pk[i].of'=q.pk[i].of'
    ·have e1:(p.pk[i].of' !=q.pk[i].of')=false:=Qfh;refine gf (a2 F1 @e1) ?_;refine⟨_,fun j h hj=> ?_,rfl,rfl,rfl⟩;rcases Xy j i with hji|hji
     ·exact hI j h hji
     ·have:j=i:=Qf3;subst this;rw[he];exact⟨hpb _ (Qc hiq),fun e=>hpz j hiq hi e⟩
    ·have e1:(p.pk[i].of' !=q.pk[i].of')=true:=Qfh;refine gf (a2 F1 @e1) ?_;exact Qbf
  ·rintro i J hi hw _;refine gm ?_;have hiq:i<q.pZ.length:=Qf3;have hx:=zG (f:=Fu.c) [] hi;have hy:=zG (f:=Fu.c) [] hiq;have F:=(a8 @hi @hiq @hx @hy @hw @zB @zA @zX)
   have hxo:=hp.f _ (Qc hi);by_cases he:p.pZ[i].of'=q.pZ[i].of'
   ·have e1:(p.pZ[i].of' !=q.pZ[i].of')=false:=Qfh;refine gf (a2 F @e1) ?_;(refine vY ?_;refine zN rfl rfl rfl ?_;intro sr hsr;simp only[sK,wP] at hsr;subst hsr;(first|refine pK ?_|refine pL ?_);intro sr hsr;simp only[go_sem,F,e1] at hsr;subst hsr;refine zP Qf5 Qf5 ((zmH p.pZ[i].table q.pZ[i].table hxo.tb).call zK Qfe _) ?_;intro p2 h2 hr2;refine Go.AL.g2 ?_);obtain⟨⟨b,rfl, -⟩,rfl⟩:=hr2;cases b
    ·refine gf (a2 F @e1) ?_;exact Qbf
    ·refine gf (a2 F @e1) ?_;exact Qd7
   ·have e1:(p.pZ[i].of' !=q.pZ[i].of')=true:=Qfh;refine gf (a2 F @e1) ?_;exact Qbf
 ·have e0:decide ((0:Int)<(d.length:Int))=true:=by rw[Xm];omega
  refine gf @e0 ?_;exact Qbf
noncomputable def zpQ(p:Pg):Bool:=znY 44 [.agg p.c] fun b=>b=true->TvK p
theorem zfC(p:Pg)(hp:p.ok)(hle: ∀x∈p.pQ,x.pw.length<=1048576/\x.pJ.length<=1048576):EPure prog G0 44 [.agg p.c] (fun v=>v=bo (zpQ p))/\(zpQ p=true->TvK p):=za3 (mL p hp hle)
theorem ze0(p:Pg)(hp:p.ok)(hle: ∀x∈p.pQ,x.pw.length<=1048576/\x.pJ.length<=1048576):EPure prog G0 44 [.agg p.c] (fun v=>v=bo (zpQ p))/\(zpQ p=true->p.fm/\(∀x∈p.pk, -1<=x.of'/\x.of'<p.pQ.length)/\ ∀x∈p.pQ,uE x=0):=⟨(zfC p hp hle).1,fun h=>by
 obtain⟨a,b,c, -⟩:=(zfC p hp hle).2 h;exact⟨a,b,c⟩⟩
theorem zsQ(p:Pg)(hp:p.ok)(hle: ∀x∈p.pQ,x.pw.length<=1048576/\x.pJ.length<=1048576)(h:zpQ p=true): ∀x∈p.pk,x.of'≠ -1->x.key=x.types.length:=fun x hx hof=>by
 obtain⟨a, -, -,d⟩:=(zfC p hp hle).2 h;obtain⟨-, -, -,e⟩:=a.p x hx;exact e.elim id fun q=>absurd (d x hx q) hof
def NoZ(s:BA)(n:Nat):Prop:= ∀i,i<n->i<s.size->s.get! i≠0
theorem zw0{s:BA}{i:Nat}(h:(Utf8.decode s i).1<128):(Utf8.decode s i).2=1/\(s.get! i).toNat=(Utf8.decode s i).1:=by
 unfold Utf8.decode at*;simp only[Utf8.runeError,Wn] at*;repeat' split at h
 all_goals first
  |(simp_all;done)
  |(exfalso;simp only[] at h;omega)
  |(exfalso;omega)
  |(exfalso;simp only[Qt,Xm] at*;omega)
theorem zvX(n:Int):EB 271 [i32 n] fun b=>b=false->0<n/\n<128:=by
 refine ECall.pure (pv func271 30 false Qf6 rfl rfl ?_);refine g2 ?_;(repeat' (first|refine gp ?_|refine gs (fun he=> ?_) (fun he=> ?_)|fail));all_goals first
  |exact⟨⟨⟨_,rfl,fun _=>by omega⟩,.sc⟩,rfl⟩
  |exact⟨⟨⟨_,rfl,fun h=>by simp at h;omega⟩,.sc⟩,rfl⟩
theorem zuD(s:BA)(g:FuncId)(hF: ∀n:Int,EB g [i32 n] fun b=>b=false->0<n/\n<128):EPure prog G0 367 [yQ s,.fn (.func g) [] [],bo true] fun p=> ∃n:Int,p=i64 n/\(n<0->NoZ s s.size):=by
 refine ECall.cut (R:=fun p _=> ∃n:Int,p=i64 n/\(n<0->NoZ s s.size)) (pv func367 21 false Qf6 rfl rfl ?_) Qhg;refine g2 ?_;have htm:kC prog 9=none:=Qf6;refine gf @htm ?_;refine zW (K4 (.k:: .k:: .d:: .d:: .d:: .k:: .k::D9 (.d::[]))) (fun (s:Nat)=>[]) (fun n=>[.siter s n]) (fun n=>NoZ s n) (fun n=>s.size-n) (own:=false) 0 rfl rfl (fun i h=>absurd h Qf3) ?_;rintro n hz;refine gm ?_;by_cases hn:n<s.size
 ·have hd:=aR s n;have hlow:=zw0 (s:=s) (i:=n);generalize hq:Utf8.decode s n=q at*;obtain⟨c,k⟩:=q;refine gf (a2 @hn @hq) ?_;(refine g1 ?_;refine zC ((hF c).call zK Qf4 _) ?_;intro p2 h2 hr2;refine g2 ?_);obtain⟨⟨b,rfl,hb⟩,rfl⟩:=hr2;dsimp only at hlow hd;cases b with
  |true=>
   refine ge ?_;exact⟨_,rfl,fun h=>by omega⟩
  | false=>
   obtain⟨h1,h2⟩:=hb rfl;obtain⟨k1,k2⟩:=hlow Qf3;refine ge ?_;exact⟨n+k,fun i hi hs=>by
    by_cases e:i<n
    ·exact hz i e hs
    ·obtain rfl:i=n:=Qf3;intro e0;rw[e0] at k2;have:(0:UInt8).toNat=0:=rfl;omega,Qf3,rfl,rfl,rfl⟩
 ·refine gf @hn ?_;exact⟨_,rfl,fun _ i hi hs=>hz i Qf3 hs⟩
theorem ztO(s:BA)(g:FuncId)(hF: ∀n:Int,EB g [i32 n] fun b=>b=false->0<n/\n<128):EI 328 [yQ s,.fn (.func g) [] []] fun n=>n<0->NoZ s s.size:=by
 refine ECall.cut (R:=fun p _=> ∃n:Int,p=i64 n/\(n<0->NoZ s s.size)) (pv func328 8 false Qf6 rfl rfl ?_) Qhg;refine g2 ?_;refine ge ?_;(refine g1 ?_;refine zC ((zuD s g hF).call zK Qff _) ?_;intro p2 h2 hr2;refine g2 ?_);obtain⟨⟨b,rfl,hb⟩,rfl⟩:=hr2;refine ge ?_;exact⟨_,rfl,hb⟩
theorem zsH(s:BA)(g:FuncId)(hF: ∀n:Int,EB g [i32 n] fun b=>b=false->0<n/\n<128):EB 272 [yQ s,.fn (.func g) [] []] fun b=>b=false->NoZ s s.size:=by
 refine ECall.cut (R:=fun p _=> ∃b:Bool,p=bo b/\(b=false->NoZ s s.size)) (pv func272 9 false Qf6 rfl rfl ?_) Qhg;refine g2 ?_;refine ge ?_;(refine g1 ?_;refine zC ((ztO s g hF).call zK Qff _) ?_;intro p2 h2 hr2;refine g2 ?_);obtain⟨⟨b,rfl,hb⟩,rfl⟩:=hr2;by_cases hn:0<=b
 ·have e1:decide (0<=b)=true:=by simp[hn]
  refine gf @e1 ?_;exact⟨_,rfl,fun h=>by cases h⟩
 ·have e1:decide (0<=b)=false:=by simp[hn]
  refine gf @e1 ?_;exact⟨_,rfl,fun _=>hb Qf3⟩
theorem zwT(s:BA):EB 194 [yQ s] fun b=>b=true->s.size<=16/\NoZ s s.size:=by
 refine ECall.pure (pv func194 30 false Qf6 rfl rfl ?_);refine g2 ?_;by_cases h0:s=⟨#[]⟩
 ·subst h0;(repeat' (first|refine gp ?_|refine gs (fun he=> ?_) (fun he=> ?_)|fail));exact Qby
 have hp:=mN h0;(repeat' (first|refine gz ?_|(refine gn ?_;intro zs zh;(try simp only[go_sem,h0,g0_0,zuJ,zg6] at zh);subst zh;(first|refine gv ?_|((first|refine zC ((wC zm0 _ eI).call zK Qf4 _) ?_|refine zC ((zsH s _ zvX).call zK Qff _) ?_);intro p2 h2 hr2;obtain⟨hr2,rfl⟩:=hr2;first|obtain⟨_,rfl,hr2⟩:=hr2|obtain⟨_,rfl⟩:=hr2|subst hr2|skip)|(refine yS (fun he=> ?_) (fun he=> ?_)<;>(try simp only[mM] at he))))|((with_reducible refine tO rfl ?_);intro sr hsr;simp only[sK,wP] at hsr;subst hsr;(fail_if_success(with_reducible(first|refine tL ?_|refine tN ?_)));refine tK (fun he=> ?_) (fun he=> ?_)<;>(intro ts2 hts;simp only[wP] at hts;subst hts;(try simp only[mM] at he)))|fail));all_goals first
  |exact⟨⟨⟨_,rfl,fun h=>absurd h Qf5⟩,.sc⟩,rfl⟩
  |exact⟨⟨⟨_,rfl,fun h=>⟨Qf3,hr2 Qfq⟩⟩,.sc⟩,rfl⟩
end Go.AL
namespace Go.AL
def VvZ(v:Vl):Prop:=(v.t=1/\v.s=⟨#[]⟩\/v.t=2/\v.n=0/\ ∀b∈v.s.data.toList,b≠0)/\0<=v.n/\v.n<=9999
def zhA(v:Vl):List UInt8:=if v.t=1 then [1,UInt8.ofNat (v.n / 256).toNat,UInt8.ofNat v.n.toNat] else 2::(v.s.data.toList++[0])
theorem cut0: ∀{a b x y:List UInt8},(∀c∈a,c≠0)->(∀c∈b,c≠0)->a++0::x=b++0::y->a=b/\x=y
 | [],[],_,_,_,_,h=>⟨rfl,(List.cons.inj h).2⟩
 | [],c::b,_,_,_,hb,h=>absurd (List.cons.inj h).1.symm (hb c (Qe ..))
 |c::a,[],_,_,ha,_,h=>absurd (List.cons.inj h).1 (ha c (Qe ..))
 |c::a,d::b,x,y,ha,hb,h=>by
  obtain⟨h1,h2⟩:=List.cons.inj h;obtain⟨h3,h4⟩:=cut0 (fun q hq=>ha q (Qf _ hq)) (fun q hq=>hb q (Qf _ hq)) h2;exact⟨by rw[h1,h3],h4⟩
theorem byte2{n m:Int}(h0:0<=n)(h1:n<=9999)(k0:0<=m)(k1:m<=9999)(a:UInt8.ofNat (n / 256).toNat=UInt8.ofNat (m / 256).toNat)(b:UInt8.ofNat n.toNat=UInt8.ofNat m.toNat):n=m:=by
 have a':=Ym UInt8.toNat a;have b':=Ym UInt8.toNat b;simp only[UInt8.toNat_ofNat'] at a' b';omega
theorem zwD: ∀{a b:List Vl},(∀v∈a,VvZ v)->(∀v∈b,VvZ v)->a.flatMap zhA=b.flatMap zhA->a=b
 | [],[],_,_,_=>rfl
 | [],y::b,_,_,h=>by
  rw[List.flatMap_nil,Yp] at h;unfold zhA at h;split at h<;>cases h
 |x::a,[],_,_,h=>by
  rw[List.flatMap_nil,Yp] at h;unfold zhA at h;split at h<;>cases h
 | x::a,y::b,ha,hb,h=>by
  rw[Yp,Yp] at h;obtain⟨hx,x0,x1⟩:=ha x (Qe ..);obtain⟨hy,y0,y1⟩:=hb y (Qe ..);have ih:=fun e=>zwD (a:=a) (b:=b) (fun v hv=>ha v (Qf _ hv)) (fun v hv=>hb v (Qf _ hv)) e;obtain⟨xt,xn,xs⟩:=x;obtain⟨yt,yn,ys⟩:=y;dsimp only at*;unfold zhA at h;rcases hx with ⟨rfl,rfl⟩|⟨rfl,rfl,hz⟩<;>rcases hy with ⟨rfl,rfl⟩|⟨rfl,rfl,hw⟩
  ·simp only[Wk,Xx,Yj,List.cons.injEq,true_and] at h;obtain⟨h1,h2,h3⟩:=h;rw[byte2 x0 x1 y0 y1 h1 h2,ih h3]
  ·simp at h
  ·simp at h
  ·simp only[show ¬((2:Int)=1) by decide,Wr,Xx,Qv,Yj,List.cons.injEq,true_and] at h;obtain⟨h1,h2⟩:=cut0 hz hw h;have e:xs=ys:=by
    have:xs.data=ys.data:=Array.ext' h1;cases xs;cases ys;simp_all
   rw[e,ih h2]
end Go.AL
