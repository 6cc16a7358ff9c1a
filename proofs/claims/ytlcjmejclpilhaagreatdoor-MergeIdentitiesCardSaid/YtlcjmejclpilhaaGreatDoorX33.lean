/-
  Cells: lines of the table, to the letter.
-/
import Derived.Test.YtlcjmejclpilhaaGreatDoorX32
set_option linter.unusedSimpArgs false
set_option linter.unusedVariables false
set_option maxRecDepth 100000
set_option maxHeartbeats 4000000
namespace Go.AL
instance:DecidableEq Vl:=fun x y=>decidable_of_iff (x.t=y.t/\x.n=y.n/\x.s=y.s) Qgu
abbrev zaF(a b:List Vl):Prop:=sD a b<0
theorem zaF.tr{a b c:List Vl}(h:zaF a b)(k:zaF b c):zaF a c:=by
 have h1:=zqQ.r a b;have h2:=zqQ.r b c;have:=zqQ.t a b c (by unfold zaF at h;omega) (by unfold zaF at k;omega);unfold zaF;omega
theorem zaF.ne{a b:List Vl}(h:zaF a b):a≠b:=by
 rintro rfl;unfold zaF at h;rw[zd5] at h;omega
theorem zaF.tri(a b:List Vl):zaF a b\/a=b\/zaF b a:=by
 have h1:=zqQ.r a b;have h2:=(zqQ.e a b).1;have h3:=zqQ.s a b;unfold zaF;rcases h1 with h|h|h
 ·left;omega
 ·right;left;exact h2 h
 ·right;right;omega
theorem zaF.asym{a b:List Vl}(h:zaF a b): ¬zaF b a:=eO h
abbrev PwR(l:List Rw):Prop:=l.Pairwise fun x y=>zaF x.args y.args
theorem iW(l:List Rw):SoR l↔PwR l:=by
 unfold SoR PwR zaF;rw[Zd];exact⟨fun h i j hi hj hij=>h i j hij hj,fun h i j hij hj=>h i j (Nat.lt_trans hij hj) hj hij⟩
def yH:List Rw->List Vl->Nat
 | [],_=>0
 |x::l,t=>if x.args=t then uQ x.w else yH l t
theorem bL{t:List Vl}: ∀{l:List Rw},(∀x∈l,x.args≠t)->yH l t=0
 | [],_=>rfl
 |x::l,h=>by
  unfold yH;rw[Qi (h x (Qe ..)),bL fun y hy=>h y (Qf x hy)]
theorem uC{t:List Vl}{l:List Rw}(h: ∀x∈l,zaF t x.args):yH l t=0:=bL fun x hx e=>(h x hx).ne e.symm
theorem zoW: ∀(l:List Rw)(t:List Vl),yH l t<2 ^ 64
 | [],_=>Wb 64
 |x::l,t=>by
  unfold yH;split
  ·exact wB _
  ·exact zoW l t
theorem zdB{x:Rw}(h:x.can):uQ x.w≠0:=fun e=>by
 apply h.2;rw[<-sT h.1,e];rfl
theorem zn6{l:List Rw}{t:List Vl}(h:yH l t≠0): ∃x∈l,x.args=t/\uQ x.w=yH l t:=by
 induction l with
 |nil=>exact absurd rfl h
 | cons x l ih=>
  unfold yH at h ⊢
  split at h
  ·rename_i e;exact⟨x,Qe ..,e,by rw[Qj e]⟩
  ·rename_i e;obtain⟨y,hy,h1,h2⟩:=ih h;exact⟨y,Qf x hy,h1,by rw[Qi e];exact h2⟩
theorem zoV{l:List Rw}(hs:PwR l){x:Rw}(hx:x∈l):yH l x.args=uQ x.w:=by
 induction l with
 |nil=>cases hx
 |cons y l ih=>
  rw[PwR,Yb] at hs;unfold yH;rcases Qw.1 hx with rfl|hx
  ·rw[Qj rfl]
  ·rw[Qi (hs.1 x hx).ne];exact ih hs.2 hx
theorem zuZ: ∀{l l':List Rw},PwR l->PwR l'->(∀x∈l,x.can)->(∀x∈l',x.can)->(∀t,yH l t=yH l' t)->l=l'
 | [],[],_,_,_,_,_=>rfl
 | [],y::l',_,_,_,hc',h=>by
  exfalso;have:=h y.args;unfold yH at this;rw[Qj rfl] at this;exact zdB (hc' y (Qe ..)) this.symm
 |x::l,[],_,_,hc,_,h=>by
  exfalso;have:=h x.args;unfold yH at this;rw[Qj rfl] at this;exact zdB (hc x (Qe ..)) this
 | x::l,y::l',hs,hs',hc,hc',h=>by
  rw[PwR,Yb] at hs hs';have hx:=h x.args;have hy:=h y.args;rcases zaF.tri x.args y.args with q|q|q
  ·exfalso;rw[yH,Qj rfl,uC (l:=y::l') (fun z hz=>by
    rcases Qw.1 hz with rfl|hz
    ·exact q
    ·exact q.tr (hs'.1 z hz))] at hx
   exact zdB (hc x (Qe ..)) hx
  ·have hw:x.w=y.w:=by
    rw[yH,Qj rfl,yH,Qj q.symm] at hx;rw[<-sT (hc x (Qe ..)).1,<-sT (hc' y (Qe ..)).1,hx]
   have e:x=y:=Qh5;subst e;rw[zuZ hs.2 hs'.2 (fun z hz=>hc z (Qf x hz)) (fun z hz=>hc' z (Qf x hz)) fun t=> ?_];by_cases ht:x.args=t
   ·subst ht;rw[uC hs.1,uC hs'.1]
   ·have:=h t;rw[yH,yH,Qi ht,Qi ht] at this;exact this
  ·exfalso;rw[uC (l:=x::l) (fun z hz=>by
    rcases Qw.1 hz with rfl|hz
    ·exact q
    ·exact q.tr (hs.1 z hz)),yH,Qj rfl] at hy
   exact zdB (hc' y (Qe ..)) hy.symm
def zbN:List (Rw×Rw)->List Vl->Nat×Nat
 | [],_=>(0,0)
 |q::P,t=>if q.1.args=t then(uQ q.1.w,uQ q.2.w) else zbN P t
abbrev PwP(P:List (Rw×Rw)):Prop:=P.Pairwise fun x y=>zaF x.1.args y.1.args
theorem zb8:uQ []=0:=rfl
theorem uB: ∀(n:Nat)(a b:List Rw),a.length+b.length<=n->PwR a->PwR b->
  PwP (yT n a b)/\(∀q∈yT n a b,(∃x∈a,x.args=q.1.args)\/ ∃y∈b,y.args=q.1.args)/\ ∀t,zbN (yT n a b) t=(yH a t,yH b t)
 |0,a,b,h,_,_=>by
  have ha:a=[]:=Xi Qf3;have hb:b=[]:=Xi Qf3;subst ha;subst hb;exact Qek
 |n+1,[],[],h,_,_=>by
  exact Qek
 | n+1,[],y::b,h,ha,hb=>by
  rw[PwR,Yb] at hb;simp only[Qn,Xv] at h;obtain⟨h1,h2,h3⟩:=uB n [] b Qfk ha hb.2;simp only[yT];refine⟨Yb.2 ⟨fun q hq=> ?_,h1⟩,fun q hq=> ?_,fun t=> ?_⟩
  ·rcases h2 q hq with ⟨x,hx,_⟩|⟨z,hz,e⟩
   ·cases hx
   ·rw[<-e];exact hb.1 z hz
  ·rcases Qw.1 hq with rfl|hq
   ·exact .inr ⟨y,Qe ..,rfl⟩
   ·rcases h2 q hq with ⟨x,hx,_⟩|⟨z,hz,e⟩
    ·cases hx
    ·exact .inr ⟨z,Qf y hz,e⟩
  ·simp only[zbN,yH];by_cases e:y.args=t
   ·rw[Qj e,Qj e,zb8]
   ·rw[Qi e,Qi e,h3 t];rfl
 | n+1,x::a,[],h,ha,hb=>by
  rw[PwR,Yb] at ha;simp only[Qn,Xv] at h;obtain⟨h1,h2,h3⟩:=uB n a [] Qfk ha.2 hb;simp only[yT];refine⟨Yb.2 ⟨fun q hq=> ?_,h1⟩,fun q hq=> ?_,fun t=> ?_⟩
  ·rcases h2 q hq with ⟨z,hz,e⟩|⟨x,hx,_⟩
   ·rw[<-e];exact ha.1 z hz
   ·cases hx
  ·rcases Qw.1 hq with rfl|hq
   ·exact .inl ⟨x,Qe ..,rfl⟩
   ·rcases h2 q hq with ⟨z,hz,e⟩|⟨x,hx,_⟩
    ·exact .inl ⟨z,Qf x hz,e⟩
    ·cases hx
  ·simp only[zbN,yH];by_cases e:x.args=t
   ·rw[Qj e,Qj e,zb8]
   ·rw[Qi e,Qi e,h3 t];rfl
 | n +1,x::a,y::b,h,ha,hb=>by
  have ha0:=ha;have hb0:=hb;rw[PwR,Yb] at ha hb;simp only[Qn] at h;simp only[yT];rcases zaF.tri x.args y.args with q|q|q
  ·rw[Qj q];obtain⟨h1,h2,h3⟩:=uB n a (y::b) Qfk ha.2 hb0;have hab: ∀z∈y::b,zaF x.args z.args:=fun z hz=>by
    rcases Qw.1 hz with rfl|hz
    ·exact q
    ·exact q.tr (hb.1 z hz)
   refine⟨Yb.2 ⟨fun w hw=> ?_,h1⟩,fun w hw=> ?_,fun t=> ?_⟩
   ·rcases h2 w hw with ⟨z,hz,e⟩|⟨z,hz,e⟩
    ·rw[<-e];exact ha.1 z hz
    ·rw[<-e];exact hab z hz
   ·rcases Qw.1 hw with rfl|hw
    ·exact .inl ⟨x,Qe ..,rfl⟩
    ·rcases h2 w hw with ⟨z,hz,e⟩|h
     ·exact .inl ⟨z,Qf x hz,e⟩
     ·exact .inr h
   ·simp only[zbN];by_cases e:x.args=t
    ·subst e;rw[Qj rfl,uC hab,yH,Qj rfl,zb8]
    ·rw[Qi e,h3 t];conv=>rhs;rw[yH,Qi e]
  ·rw[Qi (by rw[(zqQ.e _ _).2 q];omega),Qj ((zqQ.e _ _).2 q)];obtain⟨h1,h2,h3⟩:=uB n a b Qf3 ha.2 hb.2;refine⟨Yb.2 ⟨fun w hw=> ?_,h1⟩,fun w hw=> ?_,fun t=> ?_⟩
   ·rcases h2 w hw with ⟨z,hz,e⟩|⟨z,hz,e⟩
    ·rw[<-e];exact ha.1 z hz
    ·rw[<-e];dsimp only;rw[q];exact hb.1 z hz
   ·rcases Qw.1 hw with rfl|hw
    ·exact .inl ⟨x,Qe ..,rfl⟩
    ·rcases h2 w hw with ⟨z,hz,e⟩|⟨z,hz,e⟩
     ·exact .inl ⟨z,Qf x hz,e⟩
     ·exact .inr ⟨z,Qf y hz,e⟩
   ·simp only[zbN,yH];by_cases e:x.args=t
    ·rw[Qj e,Qj e,Qj (q▸e)]
    ·rw[Qi e,Qi e,Qi (q▸e),h3 t]
  ·rw[Qi q.asym,Qi (fun e=>q.ne ((zqQ.e _ _).1 e).symm)];obtain⟨h1,h2,h3⟩:=uB n (x::a) b Qfk ha0 hb.2;have hab: ∀z∈x::a,zaF y.args z.args:=fun z hz=>by
    rcases Qw.1 hz with rfl|hz
    ·exact q
    ·exact q.tr (ha.1 z hz)
   refine⟨Yb.2 ⟨fun w hw=> ?_,h1⟩,fun w hw=> ?_,fun t=> ?_⟩
   ·rcases h2 w hw with ⟨z,hz,e⟩|⟨z,hz,e⟩
    ·rw[<-e];exact hab z hz
    ·rw[<-e];exact hb.1 z hz
   ·rcases Qw.1 hw with rfl|hw
    ·exact .inr ⟨y,Qe ..,rfl⟩
    ·rcases h2 w hw with h|⟨z,hz,e⟩
     ·exact .inl h
     ·exact .inr ⟨z,Qf y hz,e⟩
   ·simp only[zbN];by_cases e:y.args=t
    ·subst e;rw[Qj rfl,uC hab,zb8];conv=>rhs;rw[yH,Qj rfl]
    ·rw[Qi e,h3 t];conv=>rhs;rw[yH.eq_def (y::b)];dsimp only;rw[Qi e]
theorem zfW{t:List Vl}: ∀{P:List (Rw×Rw)},(∀q∈P,zaF t q.1.args)->zbN P t=(0,0)
 | [],_=>rfl
 |q::P,h=>by
  unfold zbN;rw[Qi (fun e=>(h q (Qe ..)).ne e.symm),zfW fun y hy=>h y (Qf q hy)]
theorem zd0(op:Nat->Nat->Nat)(h0:op 0 0=0)(hop: ∀a b,a<2 ^ 64->b<2 ^ 64->op a b<2 ^ 64): ∀{P:List (Rw×Rw)},PwP P->
  PwR (yX op P)/\(∀x∈yX op P,x.can/\ ∃q∈P,x.args=q.1.args)/\ ∀t,yH (yX op P) t=op (zbN P t).1 (zbN P t).2
 | [],_=>by
  refine⟨List.Pairwise.nil,?_,fun t=>h0.symm⟩;intro x hx;simp[yX] at hx
 | q ::P,hp=>by
  rw[PwP,Yb] at hp;obtain⟨h1,h2,h3⟩:=zd0 op h0 hop hp.2;have hlt:=hop _ _ (wB q.1.w) (wB q.2.w);by_cases hn:yW (op (uQ q.1.w) (uQ q.2.w))=[]
  ·have e:yX op (q::P)=yX op P:=by unfold yX;rw[Kc,Qj hn]
   rw[e];refine⟨h1,fun x hx=> ?_,fun t=> ?_⟩
   ·obtain⟨a,z,hz,b⟩:=h2 x hx;exact⟨a,z,Qf q hz,b⟩
   ·rw[h3 t];conv=>rhs;rw[zbN]
    by_cases et:q.1.args=t
    ·subst et;rw[Qj rfl,zfW hp.1,h0];exact((zfN hlt).1 hn).symm
    ·rw[Qi et]
  ·have e:yX op (q::P)=⟨q.1.args,yW (op (uQ q.1.w) (uQ q.2.w))⟩::yX op P:=by unfold yX;rw[Kc,Qi hn]
   rw[e];refine⟨Yb.2 ⟨fun x hx=> ?_,h1⟩,fun x hx=> ?_,fun t=> ?_⟩
   ·obtain⟨_,z,hz,b⟩:=h2 x hx;rw[b];exact hp.1 z hz
   ·rcases Qw.1 hx with rfl|hx
    ·exact⟨⟨(qS hlt).1,hn⟩,q,Qe ..,rfl⟩
    ·obtain⟨a,z,hz,b⟩:=h2 x hx;exact⟨a,z,Qf q hz,b⟩
   ·simp only[yH,zbN];by_cases et:q.1.args=t
    ·rw[Qj et,Qj et,zfI hlt]
    ·rw[Qi et,Qi et,h3 t]
theorem zhW{op:Nat->Nat->Nat}(h0:op 0 0=0)(hop: ∀a b,a<2 ^ 64->b<2 ^ 64->op a b<2 ^ 64){a b:List Rw}(ha:CanL a)(hb:CanL b):
  CanL (yX op (yT (a.length+b.length) a b))/\(∀t,yH (yX op (yT (a.length+b.length) a b)) t=op (yH a t) (yH b t))/\ ∀x∈yX op (yT (a.length+b.length) a b), ∃y∈a++b,x.args=y.args:=by
 obtain⟨h1,h2,h3⟩:=uB _ a b (Xe _) ((iW a).1 ha.1) ((iW b).1 hb.1);obtain⟨k1,k2,k3⟩:=zd0 op h0 hop h1;refine⟨⟨(iW _).2 k1,fun x hx=>(k2 x hx).1⟩,fun t=>by rw[k3 t,h3 t],fun x hx=> ?_⟩;obtain⟨_,q,hq,e⟩:=k2 x hx;rcases h2 q hq with ⟨y,hy,e2⟩|⟨y,hy,e2⟩
 ·exact⟨y,Zb _ hy,by rw[e,e2]⟩
 ·exact⟨y,Yh _ hy,by rw[e,e2]⟩
theorem CanL.uniq{l l':List Rw}(h:CanL l)(h':CanL l')(k: ∀t,yH l t=yH l' t):l=l':=zuZ ((iW l).1 h.1) ((iW l').1 h'.1) h.2 h'.2 k
end Go.AL
namespace Go.AL
open Go.Proofs Go.Proofs.Tryz
noncomputable def ze8(P:Prop):Bool:= @decide P (Classical.propDecidable P)
theorem pO{P:Prop}(h:P):ze8 P=true:= @decide_eq_true P (Classical.propDecidable P) h
theorem uA{P:Prop}(h: ¬P):ze8 P=false:= @decide_eq_false P (Classical.propDecidable P) h
theorem zoX{P:Prop}:ze8 P=true↔P:= @decide_eq_true_iff P (Classical.propDecidable P)
def zoB(a:List Rw)(args:List Vl)(s:Sp):List Rw:=yX (· ||| ·) (yT (a.length+1) a [⟨args,[s]⟩])
def dP(a:List Rw)(args:List Vl)(s:Sp):List Rw:=yX mY (yT (a.length+1) a [⟨args,[s]⟩])
abbrev Sp.good(s:Sp):Prop:=0<=s.a/\s.a<s.b/\s.b<=64
theorem fF(args:List Vl){s:Sp}(h:s.good):CanL [⟨args,[s]⟩]:=by
 refine⟨(iW _).2 (Yb.2 ⟨Qf4,List.Pairwise.nil⟩),fun x hx=> ?_⟩;rw[Qp] at hx;subst hx;exact⟨zqZ h,Qf4⟩
theorem zp2(a:List Rw)(args:List Vl)(s:Sp)(hal:a.length<=68719476736)(ha: ∀x∈a,x.ls)(hc:CanL a)(hx:(Rw.mk args [s]).ls)(hs:s.good):EPure prog G0 169 [uN a,pH args,kJ [s]] fun p=>p=uN (zoB a args s):=by
 have hu:EPure prog G0 243 [uN a,uN [⟨args,[s]⟩]] fun p=>p=uN (zoB a args s):=by
  refine ECall.cut (R:=fun p _=>p=uN (zoB a args s)) (pv func243 8 false Qf6 rfl rfl ?_) (by rintro p h rfl;exact vE _ _ _ _ (rE 36 _));refine g2 ?_;refine ge ?_;(refine g1 ?_;refine zC ((zhC (· ||| ·) 115 zqW a [⟨args,[s]⟩] hal Qf4 ha Qg2 hc (fF args hs)).call zK Qff _) ?_;intro p2 h2 hr2;refine g2 ?_);exact Qan
 refine ECall.cut (R:=fun p _=>p=uN (zoB a args s)) (pv func169 13 false Qf6 rfl rfl ?_) (by rintro p h rfl;exact vE _ _ _ _ (rE 36 _));refine g2 ?_;refine ge ?_;(refine g1 ?_;refine zC ((hu.call zK Qf4 _).args (.cons (PLe.refl _) (.cons (PLe.tc_ts 2 _) .nil))) ?_;intro p2 h2 hr2;refine g2 ?_);exact Qan
theorem zn5(args:List Vl)(s:Sp)(t:List Vl):yH [⟨args,[s]⟩] t=if args=t then zo2 s else 0:=by
 simp only[yH];split
 ·unfold uQ;simp
 ·rfl
theorem zpH(a:Nat)(h:a<2 ^ 64):mY a 0=a:=by
 unfold mY;rw[Nat.sub_zero];exact Nat.and_two_pow_sub_one_of_lt_two_pow h
theorem zpL{a:List Rw}{args:List Vl}{s:Sp}(hc:CanL a)(hs:s.good):CanL (zoB a args s)/\(∀t,yH (zoB a args s) t=yH a t ||| if args=t then zo2 s else 0)/\ ∀x∈zoB a args s,x.args=args\/ ∃y∈a,x.args=y.args:=by
 obtain⟨h1,h2,h3⟩:=zhW (op:=(· ||| ·)) rfl (fun a b ha hb=>Uf ha hb) hc (fF args hs);exact Qbl
theorem bK{a:List Rw}{args:List Vl}{s:Sp}(hc:CanL a)(hs:s.good):CanL (dP a args s)/\(∀t,yH (dP a args s) t=mY (yH a t) (if args=t then zo2 s else 0))/\ ∀x∈dP a args s,x.args=args\/ ∃y∈a,x.args=y.args:=by
 obtain⟨h1,h2,h3⟩:=zhW (op:=mY) Qf5 (fun a b _ _=>zoR a b) hc (fF args hs);exact Qbl
@[go_sem] def URsx6f80.pl:Nat->DPlan
 |4=>⟨[yA,yB,yA,yA,yA,yA,yA,yA,yB,yA,yA,yA,yA,yA,yB,yC,yA,yA,yA,yA,yA,yA,yA,yA,yA,yA,yB,yB,yC,yA,yA,yA],zrL,0⟩
 |9=>⟨[yA,yB,yA,yA,yA,yB,yA,yA,yB,yC,yA,yA],xF,0⟩
 |_=>⟨[],[],0⟩
def RelX(types:List Int)(l:List Rw):Prop:=CanL l/\ ∀x∈l,ArgX types x.args
abbrev zrY:Rw:=⟨[],[]⟩
def StepX(types:List Int)(x y:Rw)(i:Nat):Prop:=(ArgX types x.args/\x.can)/\(0<i->zaF y.args x.args)
theorem zpF{l:List Rw}(h: ∀(i:Nat)(hi:i+1<l.length),zaF (l[i]'Qf3).args l[i+1].args):SoR l:=by
 have key: ∀(d i:Nat)(hj:i+d+1<l.length),zaF (l[i]'Qf3).args l[i+d+1].args:=fun d=>by
  induction d with
  |zero=>exact fun i hj=>h i hj
  |succ d ih=>exact fun i hj=>(ih i Qf3).tr (h (i+d+1) hj)
 intro i j hij hj;have:=key (j-i-1) i Qf3;have e:i+(j-i-1)+1=j:=Qf3;simpa only[e] using this
theorem zcX{l:List Rw}{i:Nat}(h:i<l.length):l.getD i zrY=l[i]:=by
 rw[Qb,Qa h];rfl
theorem zn1(types:List Int)(l:List Rw):RelX types l↔ ∀(j:Nat)(h:j<l.length),StepX types l[j] (l.getD (j-1) zrY) j:=by
 constructor
 ·intro h j hj;refine⟨⟨h.2 _ (Qc hj),h.1.2 _ (Qc hj)⟩,fun h0=> ?_⟩;rw[zcX Qf3];exact h.1.1 (j-1) j Qf3 hj
 ·intro h;refine⟨⟨zpF fun i hi=> ?_,fun x hx=> ?_⟩,fun x hx=> ?_⟩
  ·have:=(h (i+1) hi).2 Qf3;rw[show i+1-1=i from rfl,zcX Qf3] at this;exact this
  ·obtain⟨j,hj,rfl⟩:=Qy hx;exact(h j hj).1.2
  ·obtain⟨j,hj,rfl⟩:=Qy hx;exact(h j hj).1.1
open URsx6f80 in
theorem zoF(types:List Int)(l:List Rw)(ht:types.length<=140737488355328)(hl:l.length<=140737488355328)(hok: ∀x∈l,x.lt):EPure prog G0 80 [vF types,uN l] fun p=>p=bo (ze8 (RelX types l)):=by
 have F:=(a3 @zB @zA @zX)
 refine ECall.cut (R:=fun p _=>p=bo (ze8 (RelX types l))) (pv func80 70 false Qf6 rfl rfl ?_) Qgl;refine g2 ?_;refine ge ?_;refine zO l.length (K4 (D4 (.d:: .k:: .k:: .v::D9 (D9 (D9 (D9 (D9 (D9 (D4 ([])))))))))) (own:=false) (fun i (_:Heap)=>[i64 i]) (fun J=>J) (fun i _=> ∀(j:Nat)(h:j<l.length),j<i->StepX types l[j] (l.getD (j-1) zrY) j) [] rfl rfl (fun j _ hj=>absurd hj (Xt _)) hl ?_ ?_
 ·rintro J hI;refine gm ?_;rw[pO ((zn1 types l).2 fun j hj=>hI j hj hj)];exact Qda
 ·rintro i J hi hw hI;refine gm ?_;have hx:=zG (f:=Rw.c) [] hi;have hxl:=hok _ (Qc hi);have no: ¬StepX types l[i] (l.getD (i-1) zrY) i->ze8 (RelX types l)=false:=fun h=>uA fun k=>h ((zn1 types l).1 k i hi);have next:StepX types l[i] (l.getD (i-1) zrY) i-> ∀(j:Nat)(h:j<l.length),j<i+1->StepX types l[j] (l.getD (j-1) zrY) j:=fun h j hj hji=>by
   exact Qdo
  have hp1:(l.map Rw.c).getD (i-1) []=Rw.c (l.getD (i-1) zrY):=by
   rw[zG (f:=Rw.c) [] (show i-1<l.length by omega),zcX Qf3]
  have hpo:(l.getD (i-1) zrY).ok:=by
   rw[zcX Qf3];exact(hok _ (Qc Qf3)).ok
  clear hI;generalize l[i]=x at*;generalize l.getD (i-1) zrY=y at*;by_cases h1:x.args.length=types.length
  case neg=>
   have e1:((x.args.length:Int)!=(types.length:Int))=true:=Qfk;rw[no fun k=>h1 k.1.1.1];refine gf (a4 F @hi @hx @e1) ?_;rfl
  have e1:((x.args.length:Int)!=(types.length:Int))=false:=Qfd;by_cases h2:x.w.length=0
  ·have e2:((x.w.length:Int)==0)=true:=Qfi;rw[no fun k=>k.1.2.2 (Xi h2)];clear hw next
   refine gf (a5 F @hi @hx @e1 @e2) ?_;rfl
  have e2:((x.w.length:Int)==0)=false:=Qfu;have F1:=(a6 F @hi @hx @hw @e1 @e2)
  by_cases hsp:x.w=yW (uQ x.w)
  case neg=>
   have hiv:=zn4 x.w (by have:=hxl.w;omega);rw[Zz hsp] at hiv;rw[no fun k=>hsp (zoO.1 k.1.2.1)];(repeat(first|refine gz ?_|(refine gn ?_;intro zs zh;(try simp only[go_sem,F1] at zh);subst zh;(first|refine gv ?_|((first|refine zC (hiv.call zK Qf4 _) ?_|refine zP Qf5 Qf5 (hiv.call zK Qf4 _) ?_);intro p2 h2 hr2;obtain⟨hr2,rfl⟩:=hr2;first|obtain⟨_,rfl,hr2⟩:=hr2|obtain⟨_,rfl⟩:=hr2|subst hr2|skip)))|refine yD URsx6f80.pl ?_));rfl
  have hiv:=zn4 x.w (by have:=hxl.w;omega);rw[Yz hsp] at hiv;have hcan:x.can:=⟨zoO.2 hsp,fun e=>h2 (by rw[e];rfl)⟩
  by_cases h0:0<i
  ·have h01:(0:Int)<(i:Int):=Qf3;have wi:IntKind.i64.wrap ((i:Int)-1)=((i-1:Nat):Int):=Qgx;have hi1:i-1<l.length:=Qf3;have hby:=uS y x hpo hxl.ok;by_cases hc0:0<=sD y.args x.args
   ·rw[no fun k=>by have:=k.2 h0;unfold zaF at this;omega];generalize hcc:sD y.args x.args=c at*;refine Wad ?_;rfl
   ·have hlt:zaF y.args x.args:=by unfold zaF;omega
    generalize hcc:sD y.args x.args=c at*;refine Wad ?_;refine zO x.args.length (K4 (.d:: .k:: .k:: .d:: .d::K9 (K9 (K9 (K9 (K4 (.k:: .k:: .v::D9 (D4 (D4 (.k::[])))))))))) (own:=false) (fun j (_:Heap)=>[i64 j]) (fun J=>J) (fun i _=> ∀(j:Nat)(h:j<x.args.length)(h':j<types.length),j<i->x.args[j].t=types[j]/\zoC x.args[j]=true) _ rfl rfl (fun _ _ _ h=>absurd h (Xt _)) (by have:=hxl.al;omega) ?_ ?_
    ·rintro J2 hA;refine gm ?_;refine gf (a2 @zM @hw) ?_;exact⟨J2,next ⟨⟨jR h1 hA,hcan⟩,fun _=>hlt⟩,rfl,rfl,rfl⟩
    ·rintro j J2 hj hwj hA;refine gm ?_;have hv:=zG (f:=Vl.c) [] hj;have hjt:j<types.length:=Qf3;have htj:=zG (f:=fun n:Int=>[i64 n]) [] hjt;have F3:=(a6 F @hj @hv @htj @hjt @hwj)
     have no2: ¬(x.args[j].t=types[j]/\zoC x.args[j]=true)->ze8 (RelX types l)=false:=fun h=>no fun k=>h (k.1.1.2 j hj hjt);have next2:(x.args[j].t=types[j]/\zoC x.args[j]=true)-> ∀(k:Nat)(h:k<x.args.length)(h':k<types.length),k<j+1->x.args[k].t=types[k]/\zoC x.args[k]=true:=fun h k hk hk' hkj=>by
      exact Qcv
     clear hA next
     generalize x.args[j]=v at*;generalize types[j]=ty at*;have hvv:=zr2 v;by_cases hty:v.t=ty
     ·have e3:(v.t !=ty)=false:=Qfm;cases hb:zoC v with
      |false=>
       rw[no2 fun k=>by rw[hb] at k;exact Bool.noConfusion k.2];rw[hb] at hvv;refine Wat ?_;rfl
      |true=>
       rw[hb] at hvv;refine Wat ?_;exact⟨_,next2 ⟨hty,hb⟩,rfl,rfl,rfl⟩
     ·have e3:(v.t !=ty)=true:=Qfm;rw[no2 fun k=>hty k.1];refine gf (a2 F3 @e3) ?_;rfl
  ·have h01: ¬((0:Int)<(i:Int)):=Qf3;have hlt:0<i->zaF y.args x.args:=fun h=>absurd h h0;(repeat(first|refine gz ?_|(refine gn ?_;intro zs zh;(try simp only[go_sem,F1,h0,h01] at zh);subst zh;(first|refine gv ?_|((first|refine zC (hiv.call zK Qf4 _) ?_|refine zP Qf5 Qf5 (hiv.call zK Qf4 _) ?_);intro p2 h2 hr2;obtain⟨hr2,rfl⟩:=hr2;first|obtain⟨_,rfl,hr2⟩:=hr2|obtain⟨_,rfl⟩:=hr2|subst hr2|skip)))|refine yD URsx6f80.pl ?_));refine zO x.args.length (K4 (.d:: .k:: .k:: .d:: .d::K9 (K9 (K9 (K9 (K4 (.k:: .k:: .v::D9 (D4 (D4 (.k::[])))))))))) (own:=false) (fun j (_:Heap)=>[i64 j]) (fun J=>J) (fun i _=> ∀(j:Nat)(h:j<x.args.length)(h':j<types.length),j<i->x.args[j].t=types[j]/\zoC x.args[j]=true) _ rfl rfl (fun _ _ _ h=>absurd h (Xt _)) (by have:=hxl.al;omega) ?_ ?_
   ·rintro J2 hA;refine gm ?_;refine gf (a2 @zM @hw) ?_;exact⟨J2,next ⟨⟨jR h1 hA,hcan⟩,hlt⟩,rfl,rfl,rfl⟩
   ·rintro j J2 hj hwj hA;refine gm ?_;have hv:=zG (f:=Vl.c) [] hj;have hjt:j<types.length:=Qf3;have htj:=zG (f:=fun n:Int=>[i64 n]) [] hjt;have F2:=(a6 F @hj @hv @htj @hjt @hwj)
    have no2: ¬(x.args[j].t=types[j]/\zoC x.args[j]=true)->ze8 (RelX types l)=false:=fun h=>no fun k=>h (k.1.1.2 j hj hjt);have next2:(x.args[j].t=types[j]/\zoC x.args[j]=true)-> ∀(k:Nat)(h:k<x.args.length)(h':k<types.length),k<j+1->x.args[k].t=types[k]/\zoC x.args[k]=true:=fun h k hk hk' hkj=>by
     exact Qcv
    clear hA next
    generalize x.args[j]=v at*;generalize types[j]=ty at*;have hvv:=zr2 v;by_cases hty:v.t=ty
    ·have e3:(v.t !=ty)=false:=Qfm;cases hb:zoC v with
     |false=>
      rw[no2 fun k=>by rw[hb] at k;exact Bool.noConfusion k.2];rw[hb] at hvv;refine Was ?_;rfl
     |true=>
      rw[hb] at hvv;refine Was ?_;exact⟨_,next2 ⟨hty,hb⟩,rfl,rfl,rfl⟩
    ·have e3:(v.t !=ty)=true:=Qfm;rw[no2 fun k=>hty k.1];refine gf (a2 F2 @e3) ?_;rfl
def rV{α:Type}(F:α->Bool):List α->Int
 | []=> -1
 |x::l=>if F x=true then 0 else if rV F l<0 then -1 else rV F l+1
theorem zhK{α:Type}{F:α->Bool}: ∀{l:List α},(∀(j:Nat)(h:j<l.length),F l[j]=false)->rV F l= -1
 | [],_=>rfl
 |x::l,k=>by
  have h0:=k 0 Qf4;have:=zhK (F:=F) (l:=l) fun j h=>k (j+1) Qfq;simp only[Ue] at h0;simp only[rV,h0,this];simp
theorem zbW{α:Type}{F:α->Bool}: ∀{l:List α}{i:Nat}(hi:i<l.length),(∀(j:Nat)(h:j<l.length),j<i->F l[j]=false)->F l[i]=true->rV F l=i
 | [],i,hi,_,_=>by simp at hi
 |x::l,0,_,_,h=>by simp only[Ue] at h;simp[rV,h]
 |x::l,i+1,hi,k,h=>by
  have h0:=k 0 Qf4 Qf3;have:=zbW (F:=F) (l:=l) (i:=i) Qg6 (fun j h hj=>k (j+1) Qfq Qf3) h;simp only[Ue] at h0;simp only[rV,h0,this];rw[Qi Qf4,Qi Qf3];omega
theorem zbV{α:Type}{F:α->Bool}: ∀{l:List α},rV F l<0-> ∀x∈l,F x=false
 | [],_,x,hx=>by simp at hx
 | y::l,h,x,hx=>by
  simp only[rV] at h;split at h
  ·omega
  ·rename_i hy;split at h
   ·rename_i hl;rcases Qw.1 hx with rfl|hx
    ·simpa using hy
    ·exact zbV hl x hx
   ·omega
theorem eQ{α:Type}{F:α->Bool}: ∀{l:List α}{i:Nat},rV F l=i-> ∃h:i<l.length,F l[i]=true
 | [],i,h=>by simp[rV] at h
 | y::l,i,h=>by
  simp only[rV] at h;split at h
  ·rename_i hy;have:i=0:=Qf3;subst this;exact⟨Qf4,by simpa using hy⟩
  ·split at h
   ·omega
   ·obtain⟨i,rfl⟩: ∃j,i=j+1:=⟨i-1,Qf3⟩
    obtain⟨hi,hF⟩:=eQ (F:=F) (l:=l) (i:=i) Qf3;exact⟨by simpa using hi,by simpa using hF⟩
instance:DecidableEq Ce:=fun x y=>decidable_of_iff (x.a=y.a/\x.b=y.b/\x.e=y.e) Qgu
@[go_sem] def UBsx1f88.pl:Nat->DPlan
 |6=>⟨[yA,yA,yA,yB,yA,yA,yA,yB,yA],uW,0⟩
 |_=>⟨[],[],0⟩
@[go_sem] def UBsx1f148.pl:Nat->DPlan
 |1=>⟨[yA,yB,yB,yA,yA,yB,yB,yA,yC,yA,yA,yB,yA,yB,yC,yA,yA,yA,yA],sI,0⟩
 |_=>⟨[],[],0⟩
@[go_sem] def UBsx1f199.pl:Nat->DPlan
 |6=>⟨[yA,yA,yA,yB,yA,yA,yA,yB,yA],uW,0⟩
 |_=>⟨[],[],0⟩
open UBsx1f88 in
theorem zjE(a b:List Vl)(ha:a.length<=140737488355328):EPure prog G0 88 [pH a,pH b] fun r=>r=bo (decide (a=b)):=by
 refine ECall.pure (pv func88 26 false Qf6 rfl rfl ?_);refine g2 ?_;by_cases hl:a.length=b.length
 ·have hne:((a.length:Int)!=(b.length:Int))=false:=Qf8;refine gf @hne ?_;refine zO a.length (K4 (.d:: .d::K4 (.k:: .k:: .k:: .v::D9 (.d:: .d:: .d::[])))) (own:=false) (fun i (_:Unit)=>[i64 i]) (fun _=>_) (fun i _=> ∀(j:Nat)(h:j<a.length)(h':j<b.length),j<i->a[j]=b[j]) () rfl rfl (fun _ _ _ h=>absurd h (Xt _)) ha ?_ ?_
  ·exact Qep
  ·exact Qa3
 ·exact Qeo
open UBsx1f199 in
theorem zrD(a b:List Ce)(ha:a.length<=140737488355328):EPure prog G0 199 [ces a,ces b] fun r=>r=bo (decide (a=b)):=by
 refine ECall.pure (pv func199 26 false Qf6 rfl rfl ?_);refine g2 ?_;by_cases hl:a.length=b.length
 ·have hne:((a.length:Int)!=(b.length:Int))=false:=Qf8;refine gf @hne ?_;refine zO a.length (K4 (.d:: .d::K4 (.k:: .k:: .k:: .v::D9 (.d:: .d:: .d::[])))) (own:=false) (fun i (_:Unit)=>[i64 i]) (fun _=>_) (fun i _=> ∀(j:Nat)(h:j<a.length)(h':j<b.length),j<i->a[j]=b[j]) () rfl rfl (fun _ _ _ h=>absurd h (Xt _)) ha ?_ ?_
  ·exact Qeq
  ·rintro i _ hi hw hI;refine gm ?_;have hlb:i<b.length:=Qf3;have hg:=zG (f:=Ce.c) [] hi;have hgb:=zG (f:=Ce.c) [] hlb;by_cases he:a[i]=b[i]
   ·have hI': ∀(j:Nat)(h:j<a.length)(h':j<b.length),j<i+1->a[j]=b[j]:=fun j h h' hj=>by
     exact Qet
    rw[<-he] at hgb;have f1: ∀x:Int,(x==x)=true:=fun x=>by simp
    generalize a[i]=x at*;refine gf (a8 @hi @hlb @hw @hg @hgb @zB @zs8 @f1) ?_;exact⟨(),hI',rfl,rfl,rfl⟩
   ·have e:decide (a=b)=false:=by
     rw[Xo];intro h;subst h;exact he rfl
    rw[e];have f2:(a[i].a==b[i].a&&(a[i].b==b[i].b&&a[i].e==b[i].e))=false:=by
     rcases Zp (a[i].a==b[i].a&&(a[i].b==b[i].b&&a[i].e==b[i].e)) with h|h
     ·exfalso;simp only[Zx,Qt,Zm,Xm] at h;exact Qew
     ·exact h
    generalize a[i]=x at*;generalize b[i]=y at*;refine gf (a8 @hi @hlb @hw @hg @hgb @zB @zs8 @f2) ?_;exact Qab
 ·exact Qeo
theorem zq9(l:List Rw)(F:Rw->Bool)(g:FuncId)(cap:List PV)(h0:Heap)(hl:l.length<=140737488355328)(hF: ∀x∈l, ∀J,ECall prog G0 g ((.agg x.c)::cap) (h0++J) fun p h'=> ∃(J':Heap),p=bo (F x)/\h'=h0++J')(J:Heap):
  ECall prog G0 200 [uN l,.fn (.func g) [] cap] (h0++J) fun p h'=> ∃(J':Heap),p=i64 (rV F l)/\h'=h0++J':=by
 refine pv func200 19 false Qf6 rfl rfl ?_;refine g2 ?_;refine ge ?_;refine zO l.length (K4 (.d:: .d:: .k:: .k:: .v::D9 (.d::[]))) (own:=false) (fun i (_:Heap)=>[i64 i]) (fun J=>h0++J) (fun i _=> ∀(j:Nat)(h:j<l.length),j<i->F l[j]=false) J rfl rfl (fun j _ hj=>absurd hj (Xt _)) hl ?_ ?_
 ·rintro J hI;refine gm ?_;refine gf @zM ?_;exact⟨_,by rw[zhK fun j h=>hI j h h],rfl⟩
 ·rintro i J hi hw hI;refine gm ?_;have hx:=zG (f:=Rw.c) [] hi;refine gf (a4 @hi @hx @zB @hw) ?_;(refine g1f @hx ?_;refine zC (hF _ (Qc hi) J) ?_;intro p2 h2 hr2;refine g2 ?_);obtain⟨J',rfl,rfl⟩:=hr2;cases hb:F l[i]
  ·refine gf @hw ?_;refine⟨J',fun j h hj=> ?_,rfl,rfl,rfl⟩;rcases Xy j i with hji|hji
   ·exact hI j h hji
   ·have:j=i:=Qf3;subst this;exact hb
  ·refine ge ?_;exact⟨_,by rw[zbW hi hI hb],rfl⟩
theorem zrA{α:Type}(F:α->Bool)(l:List α):l.any F=decide (0<=rV F l):=by
 rcases Int.lt_or_le (rV F l) 0 with h|h
 ·rw[Zz Qf3,List.any_eq_false];intro x hx;rw[zbV h x hx];simp
 ·rw[Yz h,List.any_eq_true];obtain⟨i,hi⟩:=Qm h;obtain⟨hl,hF⟩:=eQ hi;exact⟨_,Qc hl,hF⟩
theorem zrV(l:List Rw)(F:Rw->Bool)(g:FuncId)(cap:List PV)(h0:Heap)(hl:l.length<=140737488355328)(hF: ∀x∈l, ∀J,ECall prog G0 g ((.agg x.c)::cap) (h0++J) fun p h'=> ∃(J':Heap),p=bo (F x)/\h'=h0++J')(J:Heap):
  ECall prog G0 150 [uN l,.fn (.func g) [] cap] (h0++J) fun p h'=> ∃(J':Heap),p=bo (l.any F)/\h'=h0++J':=by
 rw[zrA F l];refine pv func150 9 false Qf6 rfl rfl ?_;refine g2 ?_;refine ge ?_;(refine g1 ?_;refine zC (zq9 l F g cap h0 hl hF J) ?_;intro p2 h2 hr2;refine g2 ?_);obtain⟨J',rfl,rfl⟩:=hr2;refine ge ?_;exact⟨_,rfl,rfl⟩
def tA(k:Nat)(x y:Rw):Bool:=decide (y.args.take k=x.args.take k)&&decide (0<(yW (uQ y.w &&& uQ x.w)).length)
open UBsx1f148 in
theorem zp0(x y:Rw)(k q c:Nat)(hx:k<=x.args.length)(hy:k<=y.args.length)(hxl:x.lt)(hyl:y.lt)(h0:Heap)(hq:h0[q]? =some (.var 159 y.c))(hc:h0[c]? =some (.var 3 [i64 k]))(J:Heap):
  ECall prog G0 148 [.agg x.c,.ptr q 0,.ptr c 0] (h0++J) fun p h'=> ∃(J':Heap),p=bo (tA k x y)/\h'=h0++J':=by
 refine pv func148 23 false Qf6 rfl rfl ?_;refine g2 ?_;have hq': ∀l:List Blk,(h0++l)[q]? =some (.var 159 y.c):=fun l=>yJ _ _ _ _ hq;have hc': ∀l:List Blk,(h0++l)[c]? =some (.var 3 [i64 k]):=fun l=>yJ _ _ _ _ hc;have hb: ∀l:List Blk,(h0++(J++l))[h0.length+J.length]? =l[0]? :=fun l=>by rw[<-Qv,<-Ql];exact rU _ _
 have e1:((k:Int)<=(x.args.length:Int))=True:=Qfa;have e2:((k:Int)<=(y.args.length:Int))=True:=by simp[hy]
 have F:=(a7 @hq' @hc' @hb @hx @hy @e1 @e2)
 refine gf (a2 F @xO) ?_;have hal:=hxl.al;have hwx:=hxl.w;have hwy:=hyl.w;unfold tA;(refine zF rfl rfl rfl ?_;intro zs zh;simp only[go_sem,F,xO] at zh;subst zh;refine zP Qf5 Qf5 ((zjE (y.args.take k) (x.args.take k) Qft).call zK Qf4 _) ?_;intro p2 h2 hr2;refine Go.AL.g2 ?_);obtain⟨rfl,rfl⟩:=hr2;cases decide (y.args.take k=x.args.take k) with
 |false=>
  refine gf (a2 F @xO) ?_;exact⟨_,rfl,rfl⟩
 | true=>
  refine gf (a2 F @xO) ?_;(refine vY ?_;refine zN rfl rfl rfl ?_;intro sr hsr;simp only[sK,wP] at hsr;subst hsr;(first|refine pK ?_|refine pL ?_);intro sr hsr;simp only[go_sem,F,xO] at hsr;subst hsr;refine zP Qf5 Qf5 ((zrT y.w x.w Qf3 Qf3).call zK Qf4 _) ?_;intro p2 h2 hr2;refine Go.AL.g2 ?_);obtain⟨rfl,rfl⟩:=hr2;generalize yW (uQ y.w &&& uQ x.w)=w at*;have e3:decide ((0:Int)<(w.length:Int))=decide (0<w.length):=by
   by_cases h:0<w.length
   ·rw[Yz h,Yz Qf3]
   ·rw[Zz h,Zz Qf3]
  refine gf (a3 F @xO @e3) ?_;exact⟨_,rfl,rfl⟩
def zr1(k:Nat)(l:List Rw):Prop:= ∀(i:Nat)(h:i<l.length),((l.take i).any fun y=>tA k y l[i])=false
theorem zq8(rel:List Rw)(hl:rel.length<=1099511627776)(k:Nat)(hr: ∀x∈rel,k<=x.args.length/\x.lt):EPure prog G0 81 [uN rel,i64 k] fun v=>v=bo (ze8 (zr1 k rel)):=by
 refine ECall.cut (R:=fun v _=>v=bo (ze8 (zr1 k rel))) (pv func81 22 false Qf6 rfl rfl ?_) Qgl;refine g2 ?_;refine ge ?_;refine zO rel.length (K4 (D4 (.k:: .k:: .v::D9 (.d:: .d::[])))) (own:=false) (fun i (_:Heap)=>[i64 i]) (fun J=> .var 3 [i64 k]::J) (fun i _=> ∀(j:Nat)(h:j<rel.length),j<i->((rel.take j).any fun y=>tA k y rel[j])=false) [] rfl rfl (fun _ _ h=>absurd h (Xt _)) Qf3 ?_ ?_
 ·rintro J hI;refine gm ?_;rw[pO (P:=zr1 k rel) (fun j hj=>hI j hj hj)];exact Qda
 ·rintro i J hi hw hI;refine gm ?_;have hx:=zG (f:=Rw.c) [] hi;have hxo:=hr _ (Qc hi);have no:((rel.take i).any fun y=>tA k y rel[i])=true->ze8 (zr1 k rel)=false:=fun h=>uA fun q=>by have:=q i hi;rw[h] at this;cases this
  have next:((rel.take i).any fun y=>tA k y rel[i])=false-> ∀(j:Nat)(h:j<rel.length),j<i+1->((rel.take j).any fun y=>tA k y rel[j])=false:=fun h j hj hji=>by
   exact Qdo
  clear hI;generalize rel[i]=x at*;have hile:(i:Int)<=(rel.length:Int):=Qf3;have hile2:i<=rel.length:=Qf3;have F:=(a8 @hi @hx @zB @hw @zA @zX @hile @hile2)
  refine gf (a2 F @xO) ?_;have hq:(Blk.var 3 [i64 k]::(J++[Blk.var 159 x.c]))[J.length+1]? =some (.var 159 x.c):=Qf4;have hcf:=zrV (rel.take i) (fun y=>tA k y x) 148 [.ptr (J.length+1) 0,.ptr 0 0] (.var 3 [i64 k]::(J++[.var 159 x.c])) Qft (fun y hy J2=>zp0 y x k (J.length+1) 0 (hr y (Zk hy)).1 hxo.1 (hr y (Zk hy)).2 hxo.2 _ hq rfl J2) [];rw[Xz] at hcf;(refine ns ?_;intro zs zh;simp only[go_sem,F,xO] at zh;subst zh;refine zC (hcf) ?_;intro p2 h2 hr2;refine Go.AL.g2 ?_);obtain⟨J',rfl,rfl⟩:=hr2;cases hb:(rel.take i).any fun y=>tA k y x
  ·refine gf @hw ?_;exact⟨_,next hb,rfl,rfl,rfl⟩
  ·rw[no hb];refine gf @hw ?_;rfl
def zqT(a:Int):Nat:=a.toNat
def tB(g:Int->Int)(ms:List Int)(a b:Int):List Int:=(List.range 64).map fun i:Nat=>if a<=(i:Int)/\(i:Int)<b then g (ms.getD i 0) else ms.getD i 0
theorem yY(g:Int->Int)(ms:List Int)(a b:Int):(tB g ms a b).length=64:=by simp[tB]
theorem tU{g:Int->Int}{ms:List Int}{a b:Int}{i:Nat}(h:i<64):(tB g ms a b).getD i 0=if a<=(i:Int)/\(i:Int)<b then g (ms.getD i 0) else ms.getD i 0:=by
 unfold tB;rw[Qb,Qu,Kb h];rfl
theorem mH{x y:List Int}(hx:x.length=64)(hy:y.length=64)(h: ∀i,i<64->x.getD i 0=y.getD i 0):x=y:=by
 refine Zc Qf3 fun i h1 h2=> ?_;have:=h i Qf3;rw[Qb,Qb,Qa h1,Qa h2] at this;exact this
theorem zpD{g:Int->Int}{ms:List Int}{a b:Int}(hms:ms.length=64)(h: ∀i:Nat,i<64-> ¬(a<=(i:Int)/\(i:Int)<b)):tB g ms a b=ms:=
 mH (yY ..) hms fun i hi=>by rw[tU hi,Qi (h i hi)]
theorem zqE{ms:List Int}{k i:Nat}{v:Int}(hk:k<ms.length):(ms.set k v).getD i 0=if i=k then v else ms.getD i 0:=by
 rw[Qb,Qb];by_cases h:i=k
 ·subst h;rw[Qj rfl,Qh hk];rfl
 ·rw[Qi h,Qd (Ne.symm h)]
theorem zfE{g:Int->Int}{ms:List Int}{a:Int}{k:Nat}(hk:zqT a<=k)(h64:k<64):(tB g ms a k).set k (g ((tB g ms a k).getD k 0))=tB g ms a ((k+1:Nat):Int):=by
 unfold zqT at hk;refine mH (by rw[Xb];exact yY ..) (yY ..) fun i hi=> ?_;rw[zqE (by rw[yY];exact h64),tU h64,tU hi,tU hi];by_cases h:i=k
 ·subst h;rw[Qj rfl,Qi (show ¬(a<=(i:Int)/\(i:Int)<(i:Int)) by omega),Qj Qf3]
 ·rw[Qi h];by_cases h2:a<=(i:Int)/\(i:Int)<(k:Int)
  ·rw[Qj h2,Qj Qf3]
  ·rw[Qi h2,Qi Qf3]
theorem znS{g:Int->Int}{ms:List Int}{a b:Int}{k:Nat}(h1:k=zqT a\/k<=64/\(k:Int)<=b)(h2:b<=k\/64<=k):tB g ms a k=tB g ms a b:=by
 unfold zqT at h1;refine mH (yY ..) (yY ..) fun i hi=> ?_;rw[tU hi,tU hi];by_cases h:a<=(i:Int)/\(i:Int)<(k:Int)
 ·rw[Qj h,Qj Qf3]
 ·rw[Qi h,Qi Qf3]
theorem zdN{g:Int->Int}{ms:List Int}{a:Int}(hms:ms.length=64):tB g ms a (zqT a:Nat)=ms:=zpD hms fun i hi=>by unfold zqT;omega
theorem zqH(a b:Int)(c1 c2 r:Nat)(J:Nat->Heap->Prop)(h0:Heap)(hJ:J (zqT a) h0)(h1:h0[c1]? =some (.var 3 [i64 a]))(h2: ∀k h,J k h->h[c2]? =some (.var 3 [i64 b]))
  (hy: ∀(k:Nat) h,zqT a<=k->k<64->(k:Int)<b->J k h->EYl prog G0 r [i64 k] h fun p h'=>p=bo true/\J (k+1) h'):ECall prog G0 309 [.yl r,.ptr c1 0,.ptr c2 0] h0 fun _ h'=> ∃k,J k h'/\(k=zqT a\/k<=64/\(k:Int)<=b)/\(b<=k\/64<=k):=by
 refine pv func309 17 false Qf6 rfl rfl ?_;refine g2 ?_;obtain⟨k0,hk0,hkl⟩: ∃k0:Nat,(if a<0 then(0:Int) else a)=k0/\k0=zqT a:=by
  unfold zqT;by_cases h:a<0
  ·exact⟨0,by rw[Qj h];rfl,Qf3⟩
  ·exact⟨a.toNat,by rw[Qi h];omega,rfl⟩
 rw[<-hkl] at hJ hy ⊢
 refine gf (a2 @h1 @hk0) ?_;refine zW (K4 (.v:: .k:: .k::D9 (.d::[]))) (fun (s:Nat×Heap)=>[i64 s.1]) (fun s=>s.2) (fun s=>J s.1 s.2/\k0<=s.1/\(s.1=k0\/s.1<=64/\(s.1:Int)<=b)) (fun s=>64-s.1) (own:=false) (k0,h0) rfl rfl ⟨hJ,Xe _,.inl rfl⟩ ?_;rintro⟨k,h⟩ ⟨hJh,hkk,hkor⟩ t ht;dsimp only at*;simp only[zY] at ht;subst ht;have hb:=h2 k h hJh;by_cases hk:(k:Int)<(if (64:Int)<b then 64 else b)
 ·have hk':decide ((k:Int)<(if (64:Int)<b then 64 else b))=true:=Qfw;have hk64:k<64:=by split at hk<;>omega
  have hwr:IntKind.i64.wrap ((k:Int)+1)=((k+1:Nat):Int):=Qgx;refine gf (a2 @hb @hk') ?_;(refine wU ?_;intro sr hsr;simp only[go_sem] at hsr;subst hsr;refine rC rfl (by simp only[dC,go_sem]<;>rfl) (hy k h hkk hk64 (by split at hk<;>omega) hJh) ?_;intro p2 h2 hr2;refine Go.AL.g2 ?_);obtain⟨rfl,hJ2⟩:=hr2;refine gf @hwr ?_;exact⟨(k+1,_),⟨hJ2,by dsimp only;omega,.inr ⟨by dsimp only;omega,by dsimp only;split at hk<;>omega⟩⟩,by dsimp only;omega,rfl,rfl,rfl⟩
 ·have hk':decide ((k:Int)<(if (64:Int)<b then 64 else b))=false:=Qfw;refine gf (a2 @hb @hk') ?_;exact⟨k,hJh,hkor,by split at hk<;>omega⟩
theorem zgW(l:La)(tb m1 m2:Nat)(es:List En)(h:Heap)(hT:TB l tb m1 m2 es h)(n:Int):
  ECall prog G0 241 [.ptr tb 0,i64 n] h fun p h'=>h'=h/\p=bo (ze7 l n):=by
 refine pv func241 17 false Qf6 rfl rfl ?_;refine g2 ?_;have ht:=hT.t;unfold ze7;by_cases h0:0<=n
 ·have e0:decide (0<=n)=true:=Qfc;have e1:decide (0<=n/\n<(l.pw.length:Int))=decide (n<(l.pw.length:Int)):=Qfc;rw[e1];refine gf (a2 @ht @e0) ?_;exact⟨rfl,rfl⟩
 ·have e0:decide (0<=n)=false:=Qfc;have e1:decide (0<=n/\n<(l.pw.length:Int))=false:=Qfc;rw[e1];refine gf (a2 @ht @e0) ?_;exact⟨rfl,rfl⟩
noncomputable def dU(l:La)(ms:List Int)(a b e:Int):List Int:=if ze7 l e=true then tB (fun x=>zpP l x e) ms a b else ms
@[go_sem] def UCsx2f195.pp:Nat->DPlan
 |4=>⟨[yB,yA,yB,yA,yA,yB,yB,yA,yA,yA,yB,yB,uX,yA,yA,yC],xE,0⟩
 |_=>⟨[],[],0⟩
@[go_sem] def UCsx2f153.pl:Nat->DPlan
 |13=>⟨[yA,yA,yA,yB,yA,yA,yA,yA,yB,yA,yA,yA,yC,yA,yC,yC,yA,yC],yM,0⟩
 |_=>⟨[],[],0⟩
@[go_sem] def UCsx2f195.pl:Nat->DPlan
 |4=>⟨[⟨7,0,[1006]⟩,yA,yB,yA,yA,yB,yB,yA,yA,yA,yB,yB,⟨6,0,[1006]⟩,yA,yA,yC],xE,0⟩
 |_=>⟨[],[],0⟩
open UCsx2f195 in
theorem zq1(l_:La)(hl:l_.ok)(tb m1 m2:Nat)(es:List En)(h:Heap)(hT:TB l_ tb m1 m2 es h)(r:Nat)(ms0:List Int)(hms0:ms0.length=64)(hr0:h[r]? =some (.var 287 (ms0.map i64)))(a b e:Int):
  ECall prog G0 195 [.ptr tb 0,.ptr r 0,i64 a,i64 b,i64 e] h fun _ h'=> ∃(B:Heap),h'=h.set r (.var 287 ((dU l_ ms0 a b e).map i64))++B:=by
 refine pv func195 34 false Qf6 rfl rfl ?_;refine g2 ?_;have hrl:r<h.length:=(gsi hr0).1;have hself:h=h.set r (.var 287 (ms0.map i64)):=by
  obtain⟨h1,h2⟩:=gsi hr0;rw[<-h2,Jr]
 refine gf (a4 @rU @sB @qK @rN) ?_;(refine Go.AL.g1f (a4 @rU @sB @qK @rN) ?_;refine zC (zgW l_ tb m1 m2 es _ ⟨by rw[Qg (gsi hT.t).1];exact hT.t,by rw[Qg (gsi hT.a).1];exact hT.a,by rw[Qg (gsi hT.b).1];exact hT.b,hT.n,fun x hx=>by obtain⟨ms,q1,q2⟩:=hT.l x hx;exact⟨ms,q1,by rw[Qg (gsi q2).1];exact q2⟩,hT.k,hT.d⟩ e) ?_;intro p2 h2 hr2;refine Go.AL.g2 ?_);obtain⟨rfl,rfl⟩:=hr2;unfold dU;cases hel:ze7 l_ e with
 |false=>
  rw[Qi Qf5];refine gf (a4 @rU @sB @qK @rN) ?_;exact⟨_,by rw[<-hself]⟩
 | true=>
  rw[Qj rfl];have hl0: ∀k,(tB (fun x=>zpP l_ x e) ms0 a k).length=64:=fun k=>yY ..;have hst:tB (fun x=>zpP l_ x e) ms0 a (zqT a:Nat)=ms0:=zdN hms0;refine gf (a4 @rU @sB @qK @rN) ?_;(refine Go.AL.g1f (a4 @rU @sB @qK @rN) ?_;refine zC (jQ a b _) ?_;intro p2 h2 hr2;refine Go.AL.g2 ?_);obtain⟨rfl,rfl⟩:=hr2;refine gf (a4 @rU @sB @qK @rN) ?_;refine tT (f:=309) (fst:=[]) (cap:=_) (fun _ h=>h) rfl ?_;simp only[Jc,Xx,Yj,Xz,Qv,Ql,Qn,Xv,Yd,Nat.reduceAdd,Ji,Ui];generalize hL:Blk.loop _ _ _ _ _ _=L;refine(zqH a b (h.length+3) (h.length+4) (h.length+5) (fun k h1=>h1=h.set r (.var 287 ((tB (fun x=>zpP l_ x e) ms0 a (k:Nat)).map i64))++[.var 235 [.ptr tb 0],.var 242 [.ptr r 0],.var 3 [i64 e],.var 3 [i64 a],.var 3 [i64 b],L]) _ (by rw[hst,<-hself]) ((sB h _ 3).trans rfl) ?_ ?_).mono ?_
  ·rintro k _ rfl;have:=sB (h.set r (.var 287 ((tB (fun x=>zpP l_ x e) ms0 a (k:Nat)).map i64))) [.var 235 [.ptr tb 0],.var 242 [.ptr r 0],.var 3 [i64 e],.var 3 [i64 a],.var 3 [i64 b],L] 4;rw[Xb] at this;exact this
  ·rintro k _ hklo hk64 hkb rfl;subst hL;have hstep:=zfE (g:=fun x=>zpP l_ x e) (ms:=ms0) hklo hk64;have hms:=hl0 (k:Nat);generalize tB (fun x=>zpP l_ x e) ms0 a (k:Nat)=ms at*;have htl:=(gsi hT.t).1;have hrt:r≠tb:=fun e=>by subst e;have:=hT.t;rw[hr0] at this;cases this
   have F0: ∀(X:Blk)(l:List Blk),(h.set r X++l)[h.length]? =l[0]? :=fun X l=>by have:=rU (h.set r X) l;rwa [Xb] at this
   have Fk: ∀(X:Blk)(l:List Blk)(k:Nat),(h.set r X++l)[h.length+k]? =l[k]? :=fun X l k=>by have:=sB (h.set r X) l k;rwa [Xb] at this
   have Sk: ∀(X:Blk)(l:List Blk)(k:Nat)(b:Blk),(h.set r X++l).set (h.length+k) b=h.set r X++l.set k b:=fun X l k b=>by have:=rN (h.set r X) l k b;rwa [Xb] at this
   have Ft: ∀(X:Blk)(l:List Blk),(h.set r X++l)[tb]? =some (.var 278 [yQ l_.name,rR l_.pw,.ts 2 (l_.pJ.map fun c=>[i64 c.1,i64 c.2]),i64 l_.at',.mp m1,.mp m2]):=fun X l=>by rw[Qg (by rw[Xb];exact htl),Qd hrt];exact hT.t
   have Fr: ∀(X:Blk)(l:List Blk),(h.set r X++l)[r]? =some X:=fun X l=>by rw[Qg Qgj,Qh hrl]
   have Sr: ∀(X Y:Blk)(l:List Blk),(h.set r X++l).set r Y=h.set r Y++l:=fun X Y l=>by rw[Ko _ _ Qgj,Zu]
   have hk:k<ms.length:=Qf3;have hd:=yU i64 ms k .un hk;have hgk:ms.getD k 0=ms[k]:=by rw[Qb,Qa hk];rfl
   rw[hgk] at hstep;have hjn:=zrU l_ hl ms[k] e;have hsp: ∀v,(ms.map i64).take k++i64 v::(ms.map i64).drop (k+1)=(ms.set k v).map i64:=fun v=>wY i64 ms k v hk;have hk6:((k:Int)<64)=True:=Qfk;have Z:=(a9 @F0 @Fk @Ft @Fr @Sr @hd @hsp @hk6 (a2 @hms @zB))
   refine⟨_,_,_,_,_,_,(Fk _ _ 5).trans rfl,rfl,?_⟩;refine Qct ?_;simp only[rput,Xn,Xl];(repeat(first|refine gz ?_|(refine gn ?_;intro zs zh;(try simp only[go_sem,F0,Fk,Ft,Fr,Sk,Sr] at zh);subst zh;refine gv ?_)|refine yD UCsx2f195.pl ?_));refine⟨rfl,_,_,_,_,_,(Fk _ _ 5).trans rfl,?_⟩;refine Qct ?_;simp only[Sk,Xn,Xl];refine Wdd ?_;(refine zF rfl rfl rfl ?_;intro sr hsr;simp only[go_sem,Z,Sk] at hsr;subst hsr;refine vP rfl (hjn) Qfe ?_;intro p2 hr2 ts2 hts;simp only[go_sem] at hts;subst hts);subst hr2;refine Wdd ?_;refine⟨_,_,_,_,_,_,(Fk _ _ 5).trans rfl,rfl,?_⟩;rw[Sk,hstep];rfl
  ·rintro p h' ⟨k,rfl,hk1,hk2⟩;subst hL;rw[znS hk1 hk2];have Fk: ∀(X:Blk)(l:List Blk)(k:Nat),(h.set r X++l)[h.length+k]? =l[k]? :=fun X l k=>by have:=sB (h.set r X) l k;rwa [Xb] at this
   have Sk: ∀(X:Blk)(l:List Blk)(k:Nat)(b:Blk),(h.set r X++l).set (h.length+k) b=h.set r X++l.set k b:=fun X l k b=>by have:=rN (h.set r X) l k b;rwa [Xb] at this
   refine⟨_,_,_,_,_,_,(Fk _ _ 5).trans rfl,Qf4,?_⟩;simp only[Sk,Xn,Xl];refine ge ?_;exact⟨_,rfl⟩
structure TBX(l:La)(tb m1 m2:Nat)(es:List En)(M:Nat->List Int)(h:Heap):Prop where
 tb:TB l tb m1 m2 es h
 m: ∀e∈es,(M e.r).length=64/\h[e.r]? =some (.var 287 ((M e.r).map i64))
 nd:(es.map (·.r)).Nodup
abbrev Tbl:=List (List Vl×List Int)
def tE(es:List En)(M:Nat->List Int):Tbl:=es.map fun e=>(e.a,M e.r)
noncomputable def vR(T:Tbl):List BA:=T.map fun x=>zk0 x.1
open Classical in
noncomputable def uZ(bt:Int)(T:Tbl)(args:List Vl):Tbl:=if zk0 args∈vR T then T else T++[(args,List.replicate 64 bt)]
noncomputable def oT(T:Tbl)(k:BA)(f:List Int->List Int):Tbl:=T.map fun x=>if zk0 x.1=k then(x.1,f x.2) else x
theorem zq7{es:List En}(hk: ∀e∈es,e.ok)(M:Nat->List Int):vR (tE es M)=es.map (·.k):=by
 unfold vR tE;rw[Zg];exact Yq fun e he=>(hk e he).2.2.symm
theorem zoS{s:BA}: ∀{es:List En}{j i:Nat}{p:PV},vV (.string s) (ma es) j=some (i,p)-> ∃e∈es,e.k=s/\p=PV.ptr e.r 0
 | [],_,_,_,h=>by simp[vV] at h
 | e::es,j,i,p,h=>by
  simp only[Xa,vV] at h;split at h
  ·rename_i hv;refine⟨e,Qe ..,by simpa [sY,eq_comm] using hv,?_⟩;simp at h;exact h.2.symm
  ·obtain⟨f,hf,h1,h2⟩:=zoS h;exact⟨f,Qf e hf,h1,h2⟩
attribute [-go_sem] kB
open UCsx2f153 in
theorem zqJ(l:La)(hl:l.ok)(tb m1 m2:Nat)(es:List En)(M:Nat->List Int)(h:Heap)(hX:TBX l tb m1 m2 es M h)(hz:es.length<=70368744177664)(args:List Vl)(ha:args.length<=1048576)(hs: ∀a∈args,a.s.size<=1048576):
  ECall prog G0 153 [.ptr tb 0,pH args] h fun p h'=> ∃(r:Nat)(es':List En)(M':Nat->List Int),p= .ptr r 0/\TBX l tb m1 m2 es' M' h'/\(∃e∈es',e.r=r/\e.k=zk0 args)/\Kp h h'/\es'.length<=es.length+1/\tE es' M'=uZ (oU l) (tE es M) args:=by
 have hT:=hX.tb;have hkk:=zq7 hT.k M;refine pv func153 56 false Qf6 rfl rfl ?_;refine g2 ?_;have hk:=zlY args ha hs;obtain⟨s,hsk⟩: ∃s,s=zk0 args:=⟨_,rfl⟩
 rw[<-hsk] at hk;have ht:=hT.t;have hma:=hT.a;refine gf @ht ?_;(refine Go.AL.g1f @ht ?_;refine zC (hk.call zK Qf4 _) ?_;intro p2 h2 hr2;refine Go.AL.g2 ?_);obtain⟨rfl,e2⟩:=hr2;replace e2:=e2.symm;subst e2;cases hm:vV (.string s) (ma es) 0 with
 |some x=>
  obtain⟨j,p⟩:=x;have hlk:=zfR hma hm;obtain⟨e,he,hkey,rfl⟩:=zoS hm;refine gf (Go.AL.a3 @ht @hlk @zjX) ?_;refine⟨e.r,es,M,rfl,hX,⟨e,he,rfl,by rw[hkey,hsk]⟩,Kp.refl h,Qf3,?_⟩;have hin:zk0 args∈vR (tE es M):=by rw[hkk,<-hsk,<-hkey];exact Zi (f:=fun e:En=>e.k) he
  unfold uZ;rw[Qj hin]
 | none=>
  have hlk:=zfS hma hm;have htl:tb<h.length:=(gsi ht).1;have htA: ∀b:Blk,(h++[b])[tb]? =some (.var 278 [yQ l.name,rR l.pw,.ts 2 (l.pJ.map fun c=>[i64 c.1,i64 c.2]),i64 l.at',.mp m1,.mp m2]):=fun b=>by rw[Qg htl];exact ht
  refine gf (a5 @ht @hlk @htA @zjY @buL) ?_;(refine Go.AL.g1f (Go.AL.a3 @ht @hlk @htA) ?_;refine zC ((zj7 l hl).call zK Qfe _) ?_;intro p2 h2 hr2;refine Go.AL.g2 ?_);obtain⟨rfl,e2⟩:=hr2;obtain⟨n,hbn⟩: ∃n,oU l=n:=⟨_,rfl⟩
  rw[hbn];replace e2:=e2.symm;subst e2;have hlA:=(gV hm)
  have hm':vV (.string s) (mb es) 0=none:=cT (fun e=> .ptr e.r 0) (fun e=>pH e.a) hm;have h0l:(0<=(es.length:Int))=True:=Qf4;have hdl:decide (es.length<=140737488355328)=true:=by rw[Xm];omega
  have g1: ∀(f:En->Value×PV)(x:Value×PV),(es.map f++[x])[es.length]? =some x:=fun f x=>by
   have:=Wc (l:=es.map f) (a:=x);rwa [Qs] at this
  have g2: ∀(f:En->Value×PV)(x y:Value×PV),(es.map f++[x]).set es.length y=es.map f++[y]:=fun f x y=>by
   have:es.length=(es.map f).length:=Qf4;rw[this,Zr _ _ (Xe _)];simp
  have LF: ∀(ms:List Int)(H1:Heap),ms.length=64->h++[.var 287 (ms.map i64)]=H1->LineAt H1 h.length/\H1[tb]? =some (.var 278 [yQ l.name,rR l.pw,.ts 2 (l.pJ.map fun c=>[i64 c.1,i64 c.2]),i64 l.at',.mp m1,.mp m2])/\H1[m1]? =some (.map (ma es))/\H1[m2]? =some (.map (mb es))/\H1.length=h.length+1/\ ∀(r:Nat)(b:Blk),h[r]? =some b->H1[r]? =some b:=by
   intro ms H1 hms hH;have hold: ∀(r:Nat)(b:Blk),h[r]? =some b->H1[r]? =some b:=fun r b hr=>by rw[<-hH,Qg (gsi hr).1];exact hr
   exact⟨⟨ms,hms,by rw[<-hH];simp⟩,hold _ _ ht,hold _ _ hma,hold _ _ hT.b,by rw[<-hH];simp,hold⟩
  have fin: ∀H1:Heap,LineAt H1 h.length->H1[tb]? =some (.var 278 [yQ l.name,rR l.pw,.ts 2 (l.pJ.map fun c=>[i64 c.1,i64 c.2]),i64 l.at',.mp m1,.mp m2])->H1[m1]? =some (.map (ma es))->H1[m2]? =some (.map (mb es))->(∀(r:Nat)(b:Blk),h[r]? =some b->H1[r]? =some b)->
    TB l tb m1 m2 (es++[⟨s,h.length,args⟩]) ((H1.set m1 (.map (ma es++[(Value.string s,PV.ptr h.length 0)]))).set m2 (.map (mb es++[(Value.string s,pH args)])))/\LineAt ((H1.set m1 (.map (ma es++[(Value.string s,PV.ptr h.length 0)]))).set m2 (.map (mb es++[(Value.string s,pH args)]))) h.length/\Kp h ((H1.set m1 (.map (ma es++[(Value.string s,PV.ptr h.length 0)]))).set m2 (.map (mb es++[(Value.string s,pH args)])))/\ ∀(r:Nat)(t:Nat)(cs:List PV),H1[r]? =some (.var t cs)->((H1.set m1 (.map (ma es++[(Value.string s,PV.ptr h.length 0)]))).set m2 (.map (mb es++[(Value.string s,pH args)])))[r]? =some (.var t cs):=by
   intro H1 hLA ht1 hma1 hmb1 hold;generalize hX:Blk.map (ma es++[(Value.string s,PV.ptr h.length 0)])=X;generalize hY:Blk.map (mb es++[(Value.string s,pH args)])=Y;have keep: ∀(r:Nat)(t:Nat)(cs:List PV),H1[r]? =some (.var t cs)->((H1.set m1 X).set m2 Y)[r]? =some (.var t cs):=fun r t cs hr=>by
    have n1:m1≠r:=fun e=>by subst e;rw[hma1] at hr;cases hr
    have n2:m2≠r:=fun e=>by subst e;rw[hmb1] at hr;cases hr
    rw[Qd n2,Qd n1];exact hr
   have lk: ∀r,LineAt H1 r->LineAt ((H1.set m1 X).set m2 Y) r:=fun r ⟨ms,a,b⟩=>⟨ms,a,keep _ _ _ b⟩
   refine⟨⟨keep _ _ _ ht1,?_,?_,hT.n,fun e he=> ?_,fun e he=> ?_,?_⟩,lk _ hLA,fun r b hr n1 n2=> ?_,keep⟩
   ·rw[Qd (Ne.symm hT.n),Qh (gsi hma1).1,<-hX,ma,ma,Xq];rfl
   ·rw[Qh (by rw[Xb];exact(gsi hmb1).1),<-hY,mb,mb,Xq];rfl
   ·rcases Qo.1 he with he|he
    ·obtain⟨ms,a,b⟩:=hT.l e he;exact lk _ ⟨ms,a,hold _ _ b⟩
    ·rw[Qp] at he;subst he;exact lk _ hLA
   ·rcases Qo.1 he with he|he
    ·exact hT.k e he
    ·rw[Qp] at he;subst he;exact⟨ha,hs,hsk⟩
   ·rw[Xq,Za];refine⟨hT.d,Qf4,fun a ha b hb=> ?_⟩;simp at hb;subst hb;intro e;subst e;obtain⟨x,hx,rfl⟩:=Xf.1 ha;exact hlA _ (Zi (f:=fun e:En=>(Value.string e.k,PV.ptr e.r 0)) hx) rfl
   ·have n1':m1≠r:=fun e=>by subst e;rw[hma] at hr;cases hr;exact n2 _ rfl
    have n2':m2≠r:=fun e=>by subst e;rw[hT.b] at hr;cases hr;exact n2 _ rfl
    rw[Qd n2',Qd n1'];exact hold r b hr
  have wrap: ∀(ms:List Int)(H1 H2:Heap),ms=List.replicate 64 n->h++[.var 287 (ms.map i64)]=H1->TB l tb m1 m2 (es++[⟨s,h.length,args⟩]) H2->Kp h H2->(∀(r:Nat)(t:Nat)(cs:List PV),H1[r]? =some (.var t cs)->H2[r]? =some (.var t cs))->
    ∃(r:Nat)(es':List En)(M':Nat->List Int),PV.ptr h.length 0= .ptr r 0/\TBX l tb m1 m2 es' M' H2/\(∃e∈es',e.r=r/\e.k=zk0 args)/\Kp h H2/\es'.length<=es.length+1/\tE es' M'=uZ n (tE es M) args:=by
   intro ms H1 H2 hms hH hTB hKp hkeep;have hlt: ∀e∈es,e.r≠h.length:=fun e he q=>by
    have:=(gsi (hX.m e he).2).1;omega
   have hM1: ∀e∈es,(if e.r=h.length then List.replicate 64 n else M e.r)=M e.r:=fun e he=>Qi (hlt e he);refine⟨h.length,es++[⟨s,h.length,args⟩],fun q=>if q=h.length then List.replicate 64 n else M q,rfl,⟨hTB,fun e he=> ?_,?_⟩,⟨_,Yh _ (Qp.2 rfl),rfl,hsk⟩,hKp,Qf4,?_⟩
   ·rcases Qo.1 he with he|he
    ·rw[hM1 e he];refine⟨(hX.m e he).1,hkeep _ _ _ ?_⟩;rw[<-hH,Qg (gsi (hX.m e he).2).1];exact(hX.m e he).2
    ·rw[Qp] at he;subst he;rw[Qj rfl];refine⟨Qf4,hkeep _ _ _ ?_⟩;rw[<-hH,hms];simp
   ·rw[Xq,Za];refine⟨hX.nd,Qf4,fun a ha b hb=> ?_⟩;simp at hb;subst hb;obtain⟨e,he,rfl⟩:=Xf.1 ha;exact hlt e he
   ·unfold uZ;have hin: ¬zk0 args∈vR (tE es M):=by
     rw[hkk,<-hsk];intro q;obtain⟨e,he,hek⟩:=Xf.1 q;exact hlA _ (Zi (f:=fun e:En=>(Value.string e.k,PV.ptr e.r 0)) he) (by rw[hek])
    rw[Qi hin];unfold tE;rw[Xq];congr 1
    ·exact Yq fun e he=>by dsimp only;rw[hM1 e he]
    ·simp
  by_cases hn0:n=0
  ·have hb:(n !=0)=false:=by simp[hn0]
   generalize hH:h++[Blk.var 287 _]=H1 at*;have hH0:=hH;obtain⟨hLA,ht1,hma1,hmb1,hnew,hold⟩:=LF (List.replicate 64 0) H1 rfl hH;have f2: ∀b:Blk,(H1.set m1 b)[m1]? =some b:=fun b=>Qh (gsi hma1).1;have f3: ∀b:Blk,(H1.set m1 b)[m2]? =some (.map (mb es)):=fun b=>by rw[Qd hT.n];exact hmb1
   have f4: ∀b c:Blk,((H1.set m1 b).set m2 c)[m2]? =some c:=fun b c=>Qh (gsi (f3 b)).1;refine zjm (a9 @hb @ht1 @hma1 @tmL @ziL @tmA @ziA @dJ (a9 @zaT @zm1 @hm @hm' @hdl @f2 @f3 @f4 (Go.AL.a4 @g1 @g2 @h0l @zaS))) ?_;obtain⟨a1,a2,a3,a4⟩:=fin H1 hLA ht1 hma1 hmb1 hold;exact wrap (List.replicate 64 0) H1 _ (by rw[hn0]) hH0 a1 a3 a4
  ·have hb:(n !=0)=true:=by simp[hn0]
   refine gf (Go.AL.a2 @hb @htA) ?_;refine zO 64 (K9 (.d::K9 (K9 (.k:: .k:: .v::D4 (D4 (K9 (K4 (K4 ([]))))))))) (own:=false) (fun i (_:List Int)=>[i64 i]) (fun s=>h++[.var 287 (s.map i64)]) (fun i s=>s.length=64/\ ∀j,j<64->s.getD j 0=if j<i then n else 0) (List.replicate 64 0) rfl rfl ⟨rfl,fun j hj=>by rw[Qi (Xt j),Qb,Zf,Qj hj];rfl⟩ Qf3 ?_ ?_
   ·rintro ms ⟨hms,hmv⟩;refine gm ?_;have hmr:ms=List.replicate 64 n:=mH hms Qf4 fun j hj=>by rw[hmv j hj,Qj hj,Qb,Zf,Qj hj];rfl
    have h64:(((64:Nat):Int)<64)=False:=Qf4;refine gf @h64 ?_;obtain⟨H1,hH⟩: ∃H1,h++[Blk.var 287 (ms.map i64)]=H1:=⟨_,rfl⟩
    rw[hH];have hH0:=hH;obtain⟨hLA,ht1,hma1,hmb1,hnew,hold⟩:=LF ms H1 hms hH;have f2: ∀b:Blk,(H1.set m1 b)[m1]? =some b:=fun b=>Qh (gsi hma1).1;have f3: ∀b:Blk,(H1.set m1 b)[m2]? =some (.map (mb es)):=fun b=>by rw[Qd hT.n];exact hmb1
    have f4: ∀b c:Blk,((H1.set m1 b).set m2 c)[m2]? =some c:=fun b c=>Qh (gsi (f3 b)).1;refine zjm (a9 @h64 @ht1 @hma1 @tmL @ziL @tmA @ziA @dJ (a9 @zaT @zm1 @hm @hm' @hdl @f2 @f3 @f4 (Go.AL.a4 @g1 @g2 @h0l @zaS))) ?_;obtain⟨a1,a2,a3,a4⟩:=fin H1 hLA ht1 hma1 hmb1 hold;exact wrap ms H1 _ hmr hH0 a1 a3 a4
   ·rintro i ms hi hw ⟨hms,hmv⟩;refine gm ?_;have h64:((i:Int)<64)=True:=Qfk;have hi64:i<ms.length:=Qf3;have hsp: ∀v,(ms.map i64).take i++i64 v::(ms.map i64).drop (i+1)=(ms.set i v).map i64:=fun v=>wY i64 ms i v hi64;refine gf (a8 @h64 @hi @hw @zB @zA @zX @hms @hsp) ?_;refine⟨ms.set i n,⟨by simpa using hms,fun j hj=> ?_⟩,rfl,rfl,rfl⟩;rw[zqE hi64];by_cases q:j=i
    ·rw[Qj q,Qj Qf3]
    ·rw[Qi q,hmv j hj];by_cases q2:j<i
     ·rw[Qj q2,Qj Qf3]
     ·rw[Qi q2,Qi Qf3]
end Go.AL
