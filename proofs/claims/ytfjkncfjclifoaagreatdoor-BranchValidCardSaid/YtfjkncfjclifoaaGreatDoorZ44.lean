/-
  Branches: forks and commits keep a repository valid, and the states of the other commits.
-/
import Derived.Test.YtfjkncfjclifoaaGreatDoorZ43
set_option linter.unusedSimpArgs false
set_option linter.unusedVariables false
set_option maxRecDepth 100000
set_option maxHeartbeats 4000000
namespace Go.AL
open Go.Proofs Go.Proofs.Tryz
abbrev zcQ:BA:=⟨#[109,97,105,110]⟩
theorem nm_tc:(xZ prog G0 uT pE 100000 tb2 60).fn 45 [bs [109,97,105,110]] []=some (.sc (.bool true),[]):=by kernel_rfl
theorem nm_tk:TabOk prog G0 ((45,[bs [109,97,105,110]],.sc (.bool true))::tb2):=yR wN zK tk2 nm_tc (by kernel_rfl) (by kernel_rfl)
theorem zdO:EPure prog G0 45 [yQ zcQ] fun v=>v=bo true:=⟨_,rfl,.sc,nm_tk _ (List.mem_cons_self ..) []⟩
noncomputable def nmF (s:BA):Bool:=znY 45 [yQ s] fun b=>s=zcQ→b=true
theorem zqG (s:BA) (hs:s.size≤140737488355328):EPure prog G0 45 [yQ s] fun v=>v=bo (nmF s):=by
 by_cases h:s=zcQ
 ·subst h
  have:EB 45 [yQ zcQ] fun b=>zcQ=zcQ→b=true:=by
   obtain ⟨v,rfl,t,q⟩:=zdO
   exact ⟨_,⟨true,rfl,fun _=>rfl⟩,t,q⟩
  exact (za3 this).1
 ·have:EB 45 [yQ s] fun b=>s=zcQ→b=true:=by
   obtain ⟨v,⟨b,rfl, -⟩,t,q⟩:=cS s hs
   exact ⟨_,⟨b,rfl,fun e=>absurd e h⟩,t,q⟩
  exact (za3 this).1
theorem zpY:nmF zcQ=true:=by
 have:EB 45 [yQ zcQ] fun b=>zcQ=zcQ→b=true:=by
  obtain ⟨v,rfl,t,q⟩:=zdO
  exact ⟨_,⟨true,rfl,fun _=>rfl⟩,t,q⟩
 exact (za3 this).2 rfl
end Go.AL
namespace Go.AL
open Go.Proofs Go.Proofs.Tryz
noncomputable def vlF (p:Pg):Bool:=zpQ p
noncomputable def zkX (r:Rp) (i:Nat) (b:Br):Bool:=nmF b.name&&(rV (kN b.name) r.bs==i)&& !decide (b.last< -1)&& !decide ((r.cs.length:Int)≤b.last)
noncomputable def iY (p:Pg) (r:Rp):Prop:=r.cs.length≤200∧r.bs.length≤12∧(∃ h:0<r.bs.length,r.bs[0].name=zcQ)∧vlF p=true∧ ∀ (i:Nat) (h:i<r.bs.length),zkX r i r.bs[i]=true
noncomputable def zh8 (p:Pg) (r:Rp):Option (List Dt):=open Classical in if iY p r then eF p r.cs else none
theorem fL (p:Pg) (hp:p.ok) (hle:p.sm) (ha:AppP p) (r:Rp) (hr:r.sz):EPure prog G0 29 [.agg p.c,.agg r.c] fun v=>v=znW (zh8 p r):=by
 refine ECall.cutW (R:=fun v h=>(¬iY p r∧v= .tup [.nil,bo false])∨(iY p r∧v=znW (eF p r.cs))) (pv func29 76 false (by kernel_rfl) rfl rfl ?_) ?_
 refine g2 ?_
 ·have hcl:=hr.cl
  have hbl:=hr.bl
  by_cases h1:200<r.cs.length
  ·have e1:decide ((200:Int)<(r.cs.length:Int))=true:=by simp;omega
   refine gf @e1 ?_
   exact .inl ⟨fun k=>by have:=k.1;omega,rfl⟩
  have e1:decide ((200:Int)<(r.cs.length:Int))=false:=by simp;omega
  by_cases h2:r.bs.length=0
  ·have e2:((r.bs.length:Int)==0)=true:=by rw [h2];rfl
   refine gf (a2 @e1 @e2) ?_
   exact .inl ⟨fun k=>by obtain ⟨_,_,⟨h,_⟩,_⟩:=k;omega,rfl⟩
  have e2:((r.bs.length:Int)==0)=false:=by rw [beq_eq_false_iff_ne];omega
  by_cases h3:12<r.bs.length
  ·have e3:decide ((12:Int)<(r.bs.length:Int))=true:=by simp;omega
   refine gf (a3 @e1 @e2 @e3) ?_
   exact .inl ⟨fun k=>by have:=k.2.1;omega,rfl⟩
  have e3:decide ((12:Int)<(r.bs.length:Int))=false:=by simp;omega
  have h0:0<r.bs.length:=by omega
  have h0':((0:Int)<(r.bs.length:Int))=True:=eq_true (by omega)
  have hx0:=zG (f:=Br.c) [] h0
  by_cases h4:r.bs[0].name=zcQ
  case neg=>
   have e4:decide (r.bs[0].name=zcQ)=false:=by simp [h4]
   refine gf (a7 @e1 @e2 @e3 @h0 @h0' @hx0 @e4) ?_
   exact .inl ⟨fun k=>by obtain ⟨_,_,⟨h,q⟩,_⟩:=k;exact h4 q,rfl⟩
  have e4:decide (r.bs[0].name=zcQ)=true:=by simp [h4]
  obtain ⟨hv1,hv2'⟩:=ze0 p hp hle
  have hv2:zpQ p=true→p.preds.length≤1048576:=fun h=>by have:=(hv2' h).1.pl;omega
  refine gf (a7 @e1 @e2 @e3 @h0 @h0' @hx0 @e4) ?_
  (refine g1f (a7 @e1 @e2 @e3 @h0 @h0' @hx0 @e4) ?_;refine zC (hv1.call zK (by simp [zJ]) _) ?_;intro p2 h2 hr2;refine g2 ?_)
  obtain ⟨rfl,rfl⟩:=hr2
  have hvd:vlF p=zpQ p:=rfl
  rw [←hvd] at hv2
  rw [←hvd]
  cases hvp:vlF p with
  |false=>
   refine gf @e1 ?_
   exact .inl ⟨fun k=>Bool.noConfusion (hvp.symm.trans k.2.2.2.1),rfl⟩
  | true=>
   have hpl:=hv2 hvp
   refine gf @e1 ?_
   refine zO r.bs.length (K4 (D4 (K9 (K9 (K9 (K4 (.k:: .v::D9 (D9 (D9 (.d:: .d:: .d::K4 (.k::[]))))))))))) (own:=false) (fun i (_:Heap)=>[i64 i]) (fun J=> .var 27 p.c:: .var 31 r.c::J) (fun i _=> ∀ (j:Nat) (h:j<r.bs.length),j<i→zkX r j r.bs[j]=true) [] rfl rfl (fun j _ hj=>absurd hj (Nat.not_lt_zero _)) (by omega) ?_ ?_
   ·rintro J hI
    refine gm ?_
    have hbr:iY p r:=⟨by omega,by omega,⟨h0,h4⟩,hvp,fun i h=>hI i h h⟩
    obtain ⟨a,b,hst⟩: ∃ a b,znW (eF p r.cs)= .tup [a,bo b]:=by
     cases eF p r.cs with
     |none=>exact ⟨_,_,rfl⟩
     |some l=>exact ⟨_,_,rfl⟩
    refine gf @zM ?_
    (refine g1 ?_;refine zC ((zc3 p hpl ha r hr).call zK (by simp [zJ]) _) ?_;intro p2 h2 hr2;refine g2 ?_)
    obtain ⟨rfl,rfl⟩:=hr2
    rw [hst]
    refine ge ?_
    exact .inr ⟨hbr,rfl⟩
   ·rintro i J hi hw hI
    refine gm ?_
    have hx:=zG (f:=Br.c) [] hi
    have hxo:=hr.b _ (List.getElem_mem hi)
    have next:zkX r i r.bs[i]=true→ ∀ (j:Nat) (h:j<r.bs.length),j<i+1→zkX r j r.bs[j]=true:=fun q j h hj=>by
     rcases Nat.lt_or_ge j i with hji|hji
     ·exact hI j h hji
     ·have:j=i:=by omega
      subst this;exact q
    have bad:zkX r i r.bs[i]=false→ ¬iY p r:=fun q k=>by have:=k.2.2.2.2 i hi;rw [q] at this;cases this
    generalize r.bs[i]=x at*
    have hnm:=zqG x.name hxo
    refine gf (a6 @hi @hx @hw @zB @zA @zD) ?_
    (refine g1f (a6 @hi @hx @hw @zB @zA @zD) ?_;refine zC (hnm.call zK (by simp) _) ?_;intro p2 h2 hr2;refine g2 ?_)
    obtain ⟨rfl,rfl⟩:=hr2
    cases h5:nmF x.name with
    |false=>
     refine gf (a6 @hi @hx @hw @zB @zA @zD) ?_
     exact .inl ⟨bad (by simp [zkX,h5]),rfl⟩
    | true=>
     refine gf (a6 @hi @hx @hw @zB @zA @zD) ?_
     (refine g1f (a6 @hi @hx @hw @zB @zA @zD) ?_;refine zC ((mR r (by omega) x.name).call zK (by simp [zJ]) _) ?_;intro p2 h2 hr2;refine g2 ?_)
     obtain ⟨rfl,rfl⟩:=hr2
     generalize hix:rV (kN x.name) r.bs=ix at*
     by_cases h6:ix=i
     case neg=>
      have e6:(ix !=(i:Int))=true:=by simp [h6]
      refine gf (a7 @hi @hx @hw @zB @zA @zD @e6) ?_
      exact .inl ⟨bad (by simp [zkX,h5,hix,h6]),rfl⟩
     have e6:(ix !=(i:Int))=false:=by simp [h6]
     by_cases h7:x.last< -1
     ·have e7:decide (x.last< -1)=true:=by simp [h7]
      refine gf (a8 @hi @hx @hw @zB @zA @zD @e6 @e7) ?_
      exact .inl ⟨bad (by simp [zkX,h7]),rfl⟩
     have e7:decide (x.last< -1)=false:=by simp;omega
     by_cases h8:(r.cs.length:Int)≤x.last
     ·have e8:decide ((r.cs.length:Int)≤x.last)=true:=by simp [h8]
      refine gf (a9 @hi @hx @hw @zB @zA @zD @e6 @e7 @e8) ?_
      exact .inl ⟨bad (by simp [zkX,h8]),rfl⟩
     ·have e8:decide ((r.cs.length:Int)≤x.last)=false:=by simp;omega
      refine gf (a9 @hi @hx @hw @zB @zA @zD @e6 @e7 @e8) ?_
      exact ⟨J++[.var 40 x.c],next (by simp [zkX,h5,hix,h6,e7,e8]),rfl,rfl,rfl⟩
 ·rintro v h (⟨hb,rfl⟩|⟨hb,rfl⟩)
  ·have e:zh8 p r=none:=by unfold zh8;rw [if_neg hb]
   rw [e]
   exact ⟨_,by rw [zlG 39,List.map_cons,List.map_cons,List.map_nil,fzN 38,ziD 38];exact PLes.tup (.cons (PLe.nil_ts 2) (.cons (PLe.refl _) .nil)),rfl,yP 40 _ rfl⟩
  ·have e:zh8 p r=eF p r.cs:=by unfold zh8;rw [if_pos hb]
   rw [e]
   have htb:zU 40 (znW (eF p r.cs))=true:=by
    cases eF p r.cs with
    |none=>rfl
    |some l=>exact (show ([dts l,bo true].all (zU 39))=true by rw [List.all_cons,zaL 33 l];rfl)
   exact ⟨_,by rw [vE 0 h 40 _ htb];exact PLe.refl _,rfl,yP 40 _ htb⟩
end Go.AL
namespace Go.AL
open Go.Proofs Go.Proofs.Tryz
@[go_sem] def UBra5f13.pp:Nat→DPlan
 |11=>⟨[yE,yE,yA,yA,uX,yA,uX,yA,yA,yA,vC,yC,yA],yN,1⟩
 |14=>⟨[yA,yB,yA,yA,yA,yA,uX,yA,yA,yA,yC,yA,yC],yN,0⟩
 |_=>⟨[],[],0⟩
@[go_sem] def UBra5f13.pl:Nat→DPlan
 |11=>⟨[⟨7,0,[1004]⟩,yE,yA,yA,⟨6,0,[1004,0]⟩,yA,rK,yA,yA,yA,vC,yC,yA],yN,1⟩
 |14=>⟨[yA,⟨7,0,[1005]⟩,yA,yA,yA,yA,⟨6,0,[1005]⟩,yA,yA,yA,yC,yA,yC],yN,0⟩
 |_=>⟨[],[],0⟩
theorem cL (o:Option (List Dt)): ∃ a,znW o= .tup [a,bo o.isSome]:=by
 cases o with
 |none=>exact ⟨_,rfl⟩
 |some l=>exact ⟨_,rfl⟩
theorem zdA (p:Pg) (hp:p.ok) (hle:p.sm) (ha:AppP p) (r:Rp) (hr:r.sz):EPure prog G0 12 [.agg p.c,.agg r.c] fun v=>v=bo (zh8 p r).isSome:=by
 refine ECall.cut (R:=fun v _=>v=bo (zh8 p r).isSome) (pv func12 14 false (by kernel_rfl) rfl rfl ?_) (by rintro p h rfl;rfl)
 refine g2 ?_
 obtain ⟨a,hst⟩:=cL (zh8 p r)
 have hck:=fL p hp hle ha r hr
 rw [hst] at hck
 refine ge ?_
 (refine g1 ?_;refine zC (hck.call zK (by simp [zJ]) _) ?_;intro p2 h2 hr2;refine g2 ?_)
 obtain ⟨rfl,rfl⟩:=hr2
 refine ge ?_
 rfl
abbrev lL (l:List Br):List PV:=(l.map Br.c).flatten
theorem fK: ∀ l:List Br,(lL l).length=l.length*2
 | []=>rfl
 |x::l=>by
  have:=fK l
  simp only [lL,List.map_cons,List.flatten_cons,List.length_append] at this ⊢
  rw [this];simp;omega
theorem fJ (n:Int): ∀ (l:List Br) (i:Nat) (h:i<l.length),(lL l).take (i*2+1)++i64 n::(lL l).drop (i*2+2)=lL (l.set i ⟨l[i].name,n⟩)
 | [],i,h=>by simp at h
 |x::l,0,_=>rfl
 |x::l,i+1,h=>by
  have:=fJ n l i (by simpa using h)
  have e:lL (x::l)=yQ x.name::i64 x.last::lL l:=rfl
  rw [e,show (i+1)*2+1=(i*2+1)+1+1 by omega,show (i+1)*2+2=(i*2+2)+1+1 by omega]
  simp only [List.take_succ_cons,List.drop_succ_cons,List.cons_append,this,List.set_cons_succ,List.getElem_cons_succ]
  rfl
theorem gG (l:List Br) (hne:0<l.length) (hl:l.length≤1099511627776) (h:Heap):ECall prog G0 33 [.ts 2 (l.map Br.c)] h fun p h'=>p= .ms h.length 0 2 l.length∧h'=h++[.var 40 (lL l)]:=by
 cases l with
 |nil=>cases hne
 |cons x l=>
  refine pv func33 8 true (by kernel_rfl) rfl rfl ?_
  refine g2 ?_
  have hl2:l.length+1≤1099511627776:=by simpa using hl
  have hl3:(l.length+1)*24≤140737488355328:=by omega
  have hl4:l.length≤140737488355327:=by omega
  refine gf (a4 @zmE @vX @hl3 @hl4) ?_
  exact ⟨rfl,rfl⟩
noncomputable def zh7 (p:Pg) (r:Rp) (br:BA) (ops:List Op1):Int:=match zh8 p r with
 |none=>1
 |some l=>if rV (kN br) r.bs<0 then 330 else if r.cs.length=200 then 2 else (zk4 p (zcI p l (r.bs.getD (rV (kN br) r.bs).toNat ⟨br, -1⟩).last) ops).2
def CommitK (r:Rp) (br:BA) (ops:List Op1) (y:Rp) (n:Int):Prop:= ∃ (i:Nat) (h:i<r.bs.length),rV (kN br) r.bs=i∧y=⟨r.cs++[⟨ops, -1,r.bs[i].last⟩],r.bs.set i ⟨r.bs[i].name,r.cs.length⟩⟩∧n=r.cs.length
theorem zb7 {p:Pg} {r:Rp} {l:List Dt} (h:zh8 p r=some l):iY p r∧eF p r.cs=some l∧l.length=r.cs.length:=by
 unfold zh8 at h
 split at h
 ·rename_i hb;exact ⟨hb,h,zbB h⟩
 ·cases h
theorem zhD {p:Pg} (hpl:p.preds.length≤1048576) (ha:AppP p): ∀ (cs:List Co) {m l:List Dt},(∀ c∈cs,OpsG c.ops)→(∀ d∈m,d.sz)→cs.foldl (zg2 p) (some m)=some l→ ∀ d∈l,d.sz
 | [],m,l,_,hm,h=>by cases h;exact hm
 | c ::cs,m,l,hc,hm,h=>by
  rw [List.foldl_cons] at h
  cases hs:zg2 p (some m) c with
  |none=>rw [hs,mM] at h;cases h
  | some m'=>
   rw [hs] at h
   refine zhD hpl ha cs (fun c h=>hc c (List.mem_cons_of_mem _ h)) (fun d hd=> ?_) h
   simp only [zg2,Option.bind_some] at hs
   split at hs
   ·cases hs
   ·split at hs
    ·rename_i he
     cases hs
     rcases List.mem_append.1 hd with hd|hd
     ·exact hm d hd
     ·rw [List.mem_singleton] at hd;subst hd
      exact (ha _ _ (za5 hpl hm _) (hc c (List.mem_cons_self ..))).2 he
    ·cases hs
theorem zlK {p:Pg} (hp:p.ok) (hle:p.sm) (h:vlF p=true):p.preds.length≤1048576:=
 by have:=((ze0 p hp hle).2 h).1.pl;omega
open UBra5f13 in
theorem fH (p:Pg) (hp:p.ok) (hle:p.sm) (ha:AppP p) (r:Rp) (hr:r.sz) (br:BA) (ops:List Op1) (ho:OpsG ops):
  EPure prog G0 13 [.agg p.c,.agg r.c,yQ br,lJ ops] fun v=> ∃ (y:Rp) (n:Int),v= .tup [.agg y.c,i64 n,i64 (zh7 p r br ops)]∧(zh7 p r br ops=0→CommitK r br ops y n):=by
 refine ECall.cutW (R:=fun v h=>(∃ n,v= .tup [.agg [.nil,.nil],i64 n,i64 (zh7 p r br ops)]∧zh7 p r br ops≠0)∨ ∃ (y:Rp) (n:Int) (q q2:Nat),v= .tup [.agg [.vec q 3 (y.cs.map Co.c),.ms q2 0 2 y.bs.length],i64 n,i64 (zh7 p r br ops)]∧h[q2]? =some (.var 40 (y.bs.map Br.c).flatten)∧CommitK r br ops y n) (pv func13 86 false (by kernel_rfl) rfl rfl ?_) ?_
 refine g2 ?_
 ·have hcl:=hr.cl
  have hbl:=hr.bl
  obtain ⟨a,hst⟩:=cL (zh8 p r)
  have hck:=fL p hp hle ha r hr
  rw [hst] at hck
  refine ge ?_
  (refine g1 ?_;refine zC (hck.call zK (by simp [zJ]) _) ?_;intro p2 h2 hr2;refine g2 ?_)
  obtain ⟨rfl,rfl⟩:=hr2
  refine ge ?_
  (refine g1 ?_;refine zC ((mR r (by omega) br).call zK (by simp [zJ]) _) ?_;intro p2 h2 hr2;refine g2 ?_)
  obtain ⟨rfl,rfl⟩:=hr2
  cases hc:zh8 p r with
  |none=>
   have hE:zh7 p r br ops=1:=by unfold zh7;rw [hc]
   rw [hE]
   refine ge ?_
   exact .inl ⟨_,rfl,by decide⟩
  | some l=>
   obtain ⟨hb,hsl,hll⟩:=zb7 hc
   have hpl:=zlK hp hle hb.2.2.2.1
   have hsz:=zhD hpl ha r.cs hr.c (by simp) hsl
   have ha':a=dts l:=by rw [hc] at hst;simp only [znW] at hst;injection hst with h;injection h with h _;exact h.symm
   subst ha'
   have hE:zh7 p r br ops=if rV (kN br) r.bs<0 then 330 else if r.cs.length=200 then 2 else (zk4 p (zcI p l (r.bs.getD (rV (kN br) r.bs).toNat ⟨br, -1⟩).last) ops).2:=by unfold zh7;rw [hc]
   have hpos:= @eQ Br (kN br) r.bs
   generalize hix:rV (kN br) r.bs=ix at*
   by_cases h0:ix<0
   ·have e0:decide (ix<0)=true:=by simp [h0]
    rw [if_pos h0] at hE
    rw [hE]
    refine gf @e0 ?_
    exact .inl ⟨_,rfl,by decide⟩
   have e0:decide (ix<0)=false:=by simp;omega
   rw [if_neg h0] at hE
   by_cases h1:r.cs.length=200
   ·have e1:((r.cs.length:Int)==200)=true:=by rw [h1];rfl
    rw [if_pos h1] at hE
    rw [hE]
    refine gf (a2 @e0 @e1) ?_
    exact .inl ⟨_,rfl,by decide⟩
   have e1:((r.cs.length:Int)==200)=false:=by rw [beq_eq_false_iff_ne];omega
   rw [if_neg h1] at hE
   obtain ⟨i,rfl⟩:=Int.eq_ofNat_of_zero_le (show 0≤ix by omega)
   obtain ⟨hi, -⟩:=hpos rfl
   have hx:=zG (f:=Br.c) [] hi
   (repeat (first|refine gz ?_|(refine gn ?_;intro zs zh;(try simp only [go_sem,e0,e1,hi,hx,zB] at zh);subst zh;refine gv ?_)|refine yD UBra5f13.pp ?_))
   have hbr:=hb.2.2.2.2 i hi
   have hlast:r.bs[i].last<l.length:=by
    simp only [zkX,Bool.and_eq_true,Bool.not_eq_true',decide_eq_false_iff_not] at hbr
    omega
   have hg:(r.bs.getD (i:Int).toNat ⟨br, -1⟩)=r.bs[i]:=by rw [Int.toNat_natCast,List.getD_eq_getElem?_getD,List.getElem?_eq_getElem hi];rfl
   rw [hg] at hE
   obtain ⟨hap1, -⟩:=ha (zcI p l r.bs[i].last) ops (za5 hpl hsz _) ho
   rw [←hE] at hap1
   have hK:CommitK r br ops ⟨r.cs++[⟨ops, -1,r.bs[i].last⟩],r.bs.set i ⟨r.bs[i].name,r.cs.length⟩⟩ r.cs.length:=⟨i,hi,hix,rfl,rfl⟩
   generalize hy:r.bs[i]=y at*
   generalize zh7 p r br ops=e at*
   generalize zk4 p (zcI p l y.last) ops=de at*
   (refine zF rfl rfl rfl ?_;intro sr hsr;simp only [go_sem,e0,e1,hi,hx,zB] at hsr;subst hsr;refine vP rfl (znT p hpl l y.last hlast) (by simp [zJ]) ?_;intro p2 hr2 ts2 hts;simp only [go_sem] at hts;subst hts)
   subst hr2
   (repeat (first|refine gz ?_|(refine gn ?_;intro zs zh;(try simp only [go_sem,e0,e1,hi,hx,zB] at zh);subst zh;refine gv ?_)|refine yD UBra5f13.pp ?_))
   (refine zF rfl rfl rfl ?_;intro sr hsr;simp only [go_sem,e0,e1,hi,hx,zB] at hsr;subst hsr;refine vP rfl (hap1) (by simp [zJ]) ?_;intro p2 hr2 ts2 hts;simp only [go_sem] at hts;subst hts)
   subst hr2
   (repeat (first|refine gz ?_|(refine gn ?_;intro zs zh;(try simp only [go_sem,e0,e1,hi,hx,zB] at zh);subst zh;refine gv ?_)|refine yD UBra5f13.pp ?_))
   by_cases he:e=0
   case neg=>
    have e2:(e !=0)=true:=by simp [he]
    (repeat (first|refine gz ?_|(refine gn ?_;intro zs zh;(try simp only [go_sem,e0,e1,hi,hx,zB,e2] at zh);subst zh;refine gv ?_)|refine yD UBra5f13.pp ?_))
    exact .inl ⟨_,rfl,he⟩
   subst he
   have e2:((0:Int)!=0)=false:=rfl
   have ht:List.take r.cs.length (r.cs.map Co.c)=r.cs.map Co.c:=List.take_of_length_le (by simp)
   have hq:(r.cs.length+1)*40≤140737488355328:=by omega
   have hq2:r.cs.length≤140737488355327:=by omega
   (repeat (first|refine gz ?_|(refine gn ?_;intro zs zh;(try simp only [go_sem,e0,e1,hi,hx,zB,e2] at zh);subst zh;refine gv ?_)|refine yD UBra5f13.pp ?_))
   (refine zF rfl rfl rfl ?_;intro sr hsr;simp only [go_sem,e0,e1,hi,hx,zB] at hsr;subst hsr;refine vP rfl (zgD ops (by have:=ho.s;omega) (zhA 36 ops)) (by simp) ?_;intro p2 hr2 ts2 hts;simp only [go_sem] at hts;subst hts)
   subst hr2
   (repeat (first|refine gz ?_|(refine gn ?_;intro zs zh;(try simp only [go_sem,e0,e1,hi,hx,zB,ht,hq,hq2] at zh);subst zh;refine gv ?_)|refine yD UBra5f13.pp ?_))
   have hbs:=fJ r.cs.length r.bs i hi
   have hbl2:=fK r.bs
   have hi2:((i:Int)<(r.bs.length:Int))=True:=eq_true (by omega)
   (refine g1f (a5 @e0 @e1 @hi @hx @zB) ?_;refine zC (gG r.bs (by omega) (by omega) _) ?_;intro p2 h2 hr2;refine g2 ?_)
   obtain ⟨rfl,rfl⟩:=hr2
   generalize hfl:lL r.bs=fl at*
   (repeat (first|refine gz ?_|(refine gn ?_;intro zs zh;(try simp only [go_sem,e0,e1,hi,hx,zB,hi2,hbl2,hbs] at zh);subst zh;refine gv ?_)|refine yD UBra5f13.pp ?_))
   subst hy
   refine .inr ⟨⟨r.cs++[⟨ops, -1,r.bs[i].last⟩],r.bs.set i ⟨r.bs[i].name,r.cs.length⟩⟩,r.cs.length,4,5,?_,rfl,hK⟩
   simp only [List.map_append,List.length_set];rfl
 ·have tb3: ∀ (y:Rp) (n e:Int),Tree (.tup [.agg y.c,i64 n,i64 e]):=fun y n e=>yP 40 _ (show ([.agg y.c,i64 n,i64 e].all (zU 39))=true by rw [List.all_cons,zk7 32 y];rfl)
  rintro v h (⟨n,rfl,he⟩|⟨y,n,q,q2,rfl,hq2,hK⟩)
  ·refine ⟨.tup [.agg (Rp.mk [] []).c,i64 n,i64 (zh7 p r br ops)],?_,⟨_,n,rfl,fun h=>absurd h he⟩,tb3 _ _ _⟩
   rw [zlG 39,List.map_cons,List.map_cons,List.map_cons,List.map_nil,fzA 38,List.map_cons,List.map_cons,List.map_nil,fzN 37,ziD 38,ziD 38]
   exact PLes.tup (.cons zbJ (.cons (PLe.refl _) (.cons (PLe.refl _) .nil)))
  ·refine ⟨.tup [.agg y.c,i64 n,i64 (zh7 p r br ops)],?_,⟨y,n,rfl,fun _=>hK⟩,tb3 _ _ _⟩
   have h1:fz 0 h 38 (.vec q 3 (y.cs.map Co.c))= .ts 3 (y.cs.map Co.c):=by rw [pD (f:=37)];exact vE 0 h 38 _ (zaM 32 y.cs)
   have h2:(y.bs.map Br.c).flatten.map (fz 0 h 37)=(y.bs.map Br.c).flatten:=uR fun x hx=>by
    obtain ⟨e,he,hx⟩:=List.mem_flatten.1 hx
    obtain ⟨b,_,rfl⟩:=List.mem_map.1 he
    simp only [Br.c,List.mem_cons,List.not_mem_nil,or_false] at hx
    rcases hx with rfl|rfl<;>exact ziD 36 _
   have h3:=rL 2 (y.bs.map Br.c) (fun e he=>by obtain ⟨b,_,rfl⟩:=List.mem_map.1 he;rfl)
   rw [List.length_map] at h3
   rw [zlG 39,List.map_cons,List.map_cons,List.map_cons,List.map_nil,fzA 38,List.map_cons,List.map_cons,List.map_nil,h1,fzM 37 _ _ _ _ hq2,h2,h3,ziD 38,ziD 38]
   exact PLe.refl _
end Go.AL
namespace Go.AL
open Go.Proofs
end Go.AL
namespace Go.AL
def Up (cs:List Cm) (n m:Nat):Prop:=n<cs.length∧m<n∧((cs.getD n (0,0)).2=m∨(cs.getD n (0,0)).1=m)
inductive Reach (cs:List Cm):Nat→Nat→Prop
 |refl (n:Nat):Reach cs n n
 |step {n m k:Nat}:Up cs n m→Reach cs m k→Reach cs n k
theorem Reach.le {cs:List Cm} {n k:Nat} (h:Reach cs n k):k≤n:=by
 induction h with
 |refl=>exact Nat.le_refl _
 |step u _ ih=>exact Nat.le_of_lt (Nat.lt_of_le_of_lt ih u.2.1)
theorem Reach.lt {cs:List Cm} {n k:Nat} (h:Reach cs n k) (hn:n<cs.length):k<cs.length:=Nat.lt_of_le_of_lt h.le hn
theorem Reach.trans {cs:List Cm} {n k j:Nat} (h:Reach cs n k) (h':Reach cs k j):Reach cs n j:=by
 induction h with
 |refl=>exact h'
 |step u _ ih=>exact .step u (ih h')
abbrev on (o:List Bool) (i:Nat):Prop:=o[i]? =some true
end Go.AL
namespace Go.AL
def RIn (cs:List Cm) (a:Int) (k:Nat):Prop:=0≤a∧Reach cs a.toNat k
theorem Up.app {cs:List Cm} {n m:Nat} (c:Cm) (hn:n<cs.length):Up (cs++[c]) n m↔Up cs n m:=by
 unfold Up
 have e:(cs++[c]).getD n (0,0)=cs.getD n (0,0):=by
  rw [List.getD_eq_getElem?_getD,List.getD_eq_getElem?_getD,List.getElem?_append_left hn]
 rw [e]
 simp only [List.length_append,List.length_cons,List.length_nil]
 constructor
 ·rintro ⟨_,b,c⟩;exact ⟨hn,b,c⟩
 ·rintro ⟨a,b,c⟩;exact ⟨by omega,b,c⟩
theorem Reach.app {cs:List Cm} {n k:Nat} (c:Cm) (hn:n<cs.length):Reach (cs++[c]) n k↔Reach cs n k:=by
 constructor
 ·intro h
  induction h with
  |refl=>exact .refl _
  |step u _ ih=>exact .step ((Up.app c hn).1 u) (ih (Nat.lt_trans u.2.1 hn))
 ·intro h
  induction h with
  |refl=>exact .refl _
  |step u _ ih=>exact .step ((Up.app c hn).2 u) (ih (Nat.lt_trans u.2.1 hn))
theorem RIn.app {cs:List Cm} {a:Int} {k:Nat} (c:Cm) (ha:a<cs.length):RIn (cs++[c]) a k↔RIn cs a k:=by
 unfold RIn
 constructor
 ·rintro ⟨h0,r⟩;exact ⟨h0,(Reach.app c (by omega)).1 r⟩
 ·rintro ⟨h0,r⟩;exact ⟨h0,(Reach.app c (by omega)).2 r⟩
theorem RIn.le {cs:List Cm} {a:Int} {k:Nat} (h:RIn cs a k):(k:Int)≤a:=by
 have:=h.2.le
 have:=h.1
 omega
theorem RIn.new {cs:List Cm} {a:Int} {k:Nat} (ha:a<cs.length):RIn (cs++[(-1,a)]) (cs.length:Nat) k↔k=cs.length∨RIn cs a k:=by
 have hg:(cs++[((-1:Int),a)]).getD cs.length (0,0)=(-1,a):=by
  rw [List.getD_eq_getElem?_getD,List.getElem?_append_right (Nat.le_refl _)];simp
 constructor
 ·rintro ⟨_,r⟩
  rw [Int.toNat_natCast] at r
  cases r with
  |refl=>exact .inl rfl
  | step u r=>
   right
   obtain ⟨_,hm,e⟩:=u
   rw [hg] at e
   rcases e with e|e
   ·dsimp only at e
    subst e
    exact ⟨by omega,by rw [Int.toNat_natCast];exact (Reach.app _ hm).1 r⟩
   ·dsimp only at e;omega
 ·rintro (rfl|⟨h0,r⟩)
  ·exact ⟨by omega,by rw [Int.toNat_natCast];exact .refl _⟩
  ·refine ⟨by omega,?_⟩
   rw [Int.toNat_natCast]
   refine .step ⟨by simp,(by omega:a.toNat<cs.length),.inl ?_⟩ ((Reach.app _ (by omega)).2 r)
   rw [hg];dsimp only;omega
structure Meets (cs:List Cm) (a b L:Int):Prop where
 a0: -1≤a∧a<cs.length
 b0: -1≤b∧b<cs.length
 l0: -1≤L
 la:L≤a
 lb:L≤b
 up: ∀ k,RIn cs a k→RIn cs b k→(k:Int)≤L
 at':0≤L→RIn cs a L.toNat∧RIn cs b L.toNat
theorem Meets.refl {cs:List Cm} {L:Int} (h: -1≤L∧L<cs.length):Meets cs L L L:=
 ⟨h,h,h.1,Int.le_refl _,Int.le_refl _,fun _ r _=>r.le,fun h0=>⟨⟨h0,.refl _⟩,⟨h0,.refl _⟩⟩⟩
theorem Meets.symm {cs:List Cm} {a b L:Int} (h:Meets cs a b L):Meets cs b a L:=
 ⟨h.b0,h.a0,h.l0,h.lb,h.la,fun k x y=>h.up k y x,fun h0=>(h.at' h0).symm⟩
theorem Meets.left {cs:List Cm} {a b L:Int} (h:Meets cs a b L):Meets (cs++[(-1,a)]) (cs.length:Nat) b L:=by
 have hb:=h.b0
 have ha:=h.a0
 refine ⟨⟨by omega,by simp;omega⟩,⟨hb.1,by simp;omega⟩,h.l0,by have:=h.lb;omega,h.lb,fun k x y=> ?_,fun h0=> ?_⟩
 ·rw [RIn.app _ hb.2] at y
  rcases (RIn.new ha.2).1 x with e|x
  ·have:=y.le;omega
  ·exact h.up k x y
 ·exact ⟨(RIn.new ha.2).2 (.inr (h.at' h0).1),(RIn.app _ hb.2).2 (h.at' h0).2⟩
theorem Meets.right {cs:List Cm} {a b L:Int} (h:Meets cs a b L):Meets (cs++[(-1,b)]) a (cs.length:Nat) L:=h.symm.left.symm
end Go.AL
namespace Go.AL
open Go.Proofs Go.Proofs.Tryz
theorem PLes.app {a b c d:List PV} (h:PLes a b) (k:PLes c d):PLes (a++c) (b++d):=by
 induction h with
 |nil=>exact k
 |cons h _ ih=>exact .cons h ih
def Dec {α:Type} (n:Nat) (t:TypeId) (c:α→List PV) (K:α→Prop):Prop:= ∀ (m:Nat) (x:List PV),Shp prog (m+n) t x→ ∃ a,K a∧PLes x (c a)
def DecS {α:Type} (n:Nat) (ts:List TypeId) (c:α→List PV) (K:α→Prop):Prop:= ∀ (m:Nat) (ps:List (List PV)),ps.length=ts.length→(∀ (i:Nat) (t:TypeId) (p:List PV),ts[i]? =some t→ps[i]? =some p→Shp prog (m+n) t p)→ ∃ a,K a∧PLes ps.flatten (c a)
def zcS (P:Program) (t:TypeId):Option (List TypeId):=match P.underlying t with
 |some (.struct fs)=>some (fs.toList.map (·.type))
 |_=>none
def slOf (P:Program) (t:TypeId):Option (TypeId×Nat×Bool):=match P.underlying t with
 |some (.slice e)=>some (e,P.cellsOf e,decide (1≤P.bytesOf e))
 |_=>none
theorem Dec.up {α:Type} {n k:Nat} {t:TypeId} {c:α→List PV} {K:α→Prop} (D:Dec n t c K) (h:n≤k):Dec k t c K:=fun m x hx=>D (m+(k-n)) x (by rw [show m+(k-n)+n=m+k by omega];exact hx)
theorem Dec.map {α β:Type} {n:Nat} {t:TypeId} {c:α→List PV} {K:α→Prop} {d:β→List PV} {L:β→Prop} (D:Dec n t c K) (f:α→β) (hc: ∀ a,c a=d (f a)) (hK: ∀ a,K a→L (f a)):Dec n t d L:=fun m x hx=>by
 obtain ⟨a,h,k⟩:=D m x hx
 exact ⟨f a,hK a h,by rw [←hc];exact k⟩
theorem zj1 {t:TypeId} {k:IntKind} (h:prog.underlying t=some (.int k)):Dec 0 t (fun z:Int=>[.sc (.int k z)]) fun z=>k.min≤z∧z≤k.max:=fun m x hx=>by
 unfold Shp at hx
 rw [h] at hx
 have hx: ∃ z,x=[.sc (.int k z)]∧k.min≤z∧z≤k.max:=by cases m<;>exact hx
 obtain ⟨z,rfl,hz⟩:=hx
 exact ⟨z,hz,PLes.refl _⟩
theorem zgB {t:TypeId} (h:prog.underlying t=some .bool):Dec 0 t (fun z:Bool=>[bo z]) fun _=>True:=fun m x hx=>by
 unfold Shp at hx
 rw [h] at hx
 have hx: ∃ b,x=[.sc (.bool b)]:=by cases m<;>exact hx
 obtain ⟨z,rfl⟩:=hx
 exact ⟨z,trivial,PLes.refl _⟩
theorem aT {t:TypeId} (h:prog.underlying t=some .string):Dec 0 t (fun z:BA=>[yQ z]) fun z=>z.size≤140737488355328:=fun m x hx=>by
 unfold Shp at hx
 rw [h] at hx
 have hx: ∃ s:BA,x=[.sc (.string s)]∧s.size≤maxLen∧s.size≤reachBytes:=by cases m<;>exact hx
 obtain ⟨z,rfl,_,hz⟩:=hx
 have:reachBytes=140737488351232:=by decide
 exact ⟨z,by omega,PLes.refl _⟩
theorem zj2 {α:Type} {n k:Nat} {e:TypeId} {c:α→List PV} {K:α→Prop} (D:Dec n e c K) (m:Nat): ∀ els:List (List PV),(∀ x∈els,Shp prog (m+n) e x)→ ∃ l:List α,l.length=els.length∧(∀ a∈l,K a)∧PLe (.ts k els) (.ts k (l.map c)):=fun els h=>by
 have key: ∃ l:List α,l.length=els.length∧(∀ a∈l,K a)∧ ∀ (i:Nat) (x y:List PV),els[i]? =some x→(l.map c)[i]? =some y→PLes x y:=by
  induction els with
  |nil=>exact ⟨[],rfl,by simp,fun i x y hx=>by simp at hx⟩
  | cons x els ih=>
   obtain ⟨a,ha,k⟩:=D m x (h x (List.mem_cons_self ..))
   obtain ⟨l,h1,h2,h3⟩:=ih fun y hy=>h y (List.mem_cons_of_mem _ hy)
   refine ⟨a::l,by simp [h1],fun b hb=> ?_,fun i y z hy hz=> ?_⟩
   ·rcases List.mem_cons.1 hb with rfl|hb
    ·exact ha
    ·exact h2 b hb
   ·cases i with
    |zero=>simp at hy hz;subst hy;subst hz;exact k
    |succ i=>exact h3 i y z (by simpa using hy) (by simpa using hz)
 obtain ⟨l,h1,h2,h3⟩:=key
 exact ⟨l,h1,h2,PLe.ts (by simp [h1]) fun i x y hx hy=>⟨(h3 i x y hx hy).len,(h3 i x y hx hy).get⟩⟩
theorem Dec.slice {α:Type} {n k:Nat} {t e:TypeId} {c:α→List PV} {K:α→Prop} (D:Dec n e c K) (h:slOf prog t=some (e,k,true)):Dec (n+1) t (fun l:List α=>[.ts k (l.map c)]) fun l=>l.length≤140737488355328∧ ∀ a∈l,K a:=fun m x hx=>by
 unfold slOf at h
 split at h
 case h_2=>cases h
 rename_i e' hu
 simp only [Option.some.injEq,Prod.mk.injEq,decide_eq_true_eq] at h
 obtain ⟨h1,h2,hb⟩:=h
 subst h1;subst h2
 rw [show m+(n+1)=(m+n)+1 by omega] at hx
 unfold Shp at hx
 rw [hu] at hx
 have hx:x=[.nil]∨ ∃ els,x=[.ts (prog.cellsOf e') els]∧els.length*prog.bytesOf e'≤reachBytes∧ ∀ x∈els,Shp prog (m+n) e' x:=hx
 rcases hx with rfl|⟨els,rfl,hl,hels⟩
 ·exact ⟨[],⟨Nat.zero_le _,by simp⟩,.cons (PLe.nil_ts _) .nil⟩
 ·obtain ⟨l,h1,h2,h3⟩:=zj2 (k:=prog.cellsOf e') D m els hels
  have:reachBytes=140737488351232:=by decide
  have:=Nat.le_mul_of_pos_right els.length hb
  exact ⟨l,⟨by omega,h2⟩,.cons h3 .nil⟩
theorem DecS.nil {n:Nat}:DecS n [] (fun _:Unit=>[]) fun _=>True:=fun m ps h _=>⟨(),trivial,by rw [List.eq_nil_of_length_eq_zero h];exact .nil⟩
theorem DecS.cons {α β:Type} {n:Nat} {t:TypeId} {ts:List TypeId} {c:α→List PV} {K:α→Prop} {d:β→List PV} {L:β→Prop} (D:Dec n t c K) (E:DecS n ts d L):DecS n (t::ts) (fun a:α×β=>c a.1++d a.2) fun a=>K a.1∧L a.2:=fun m ps h k=>by
 match ps,h with
 |p::ps,h=>
  obtain ⟨a,h1,h2⟩:=D m p (k 0 t p rfl rfl)
  obtain ⟨b,h3,h4⟩:=E m ps (by simpa using h) fun i t p ht hp=>k (i+1) t p (by simpa using ht) (by simpa using hp)
  exact ⟨(a,b),⟨h1,h3⟩,h2.app h4⟩
theorem Dec.struct {α:Type} {n:Nat} {t:TypeId} {ts:List TypeId} {c:α→List PV} {K:α→Prop} (h:zcS prog t=some ts) (E:DecS n ts c K):Dec (n+1) t c K:=fun m x hx=>by
 unfold zcS at h
 split at h
 case h_2=>cases h
 rename_i fs hu
 cases h
 rw [show m+(n+1)=(m+n)+1 by omega] at hx
 unfold Shp at hx
 rw [hu] at hx
 have hx: ∃ parts:List (List PV),parts.length=fs.size∧x=parts.flatten∧ ∀ (i:Nat) (f:Field) (p:List PV),fs[i]? =some f→parts[i]? =some p→Shp prog (m+n) f.type p:=hx
 obtain ⟨ps,hl,rfl,hp⟩:=hx
 refine E m ps (by simpa using hl) fun i t p ht hp'=> ?_
 rw [List.getElem?_map] at ht
 cases hf:fs.toList[i]? with
 |none=>rw [hf] at ht;cases ht
 |some f=>
  rw [hf] at ht;cases ht
  exact hp i f p (by rw [←Array.getElem?_toList];exact hf) hp'
theorem dI:Dec 0 3 (fun z:Int=>[i64 z]) fun _=>True:=(zj1 (by kernel_rfl)).map id (fun _=>rfl) fun _ _=>trivial
theorem dB:Dec 0 4 (fun z:Bool=>[bo z]) fun _=>True:=zgB (by kernel_rfl)
theorem dS:Dec 0 9 (fun z:BA=>[yQ z]) fun z=>z.size≤140737488355328:=aT (by kernel_rfl)
theorem dSs:Dec 1 108 (fun l:List BA=>[rR l]) fun l=>l.length≤140737488355328∧ ∀ s∈l,s.size≤140737488355328:=dS.slice (by kernel_rfl)
theorem dIs:Dec 1 57 (fun l:List Int=>[vF l]) fun l=>l.length≤140737488355328∧ ∀ s∈l,True:=dI.slice (by kernel_rfl)
end Go.AL
namespace Go.AL
open Go.Proofs Go.Proofs.Tryz
theorem dVl:Dec 1 72 Vl.c Vl.ok:=(Dec.struct (ts:=[3,3,9]) (by kernel_rfl) (.cons dI (.cons dI (.cons dS .nil)))).map (fun a=>⟨a.1,a.2.1,a.2.2.1⟩) (fun _=>rfl) fun _ h=>h.2.2.1
theorem dVls:Dec 2 73 (fun l:List Vl=>[pH l]) fun l=>l.length≤140737488355328∧ ∀ s∈l,s.ok:=dVl.slice (by kernel_rfl)
theorem dSp:Dec 1 82 Sp.c fun _=>True:=(Dec.struct (ts:=[3,3]) (by kernel_rfl) (.cons dI (.cons dI .nil))).map (fun a=>⟨a.1,a.2.1⟩) (fun _=>rfl) fun _ _=>trivial
theorem dTm:Dec 2 217 Tm.c Tm.ok:=(Dec.struct (ts:=[9,72]) (by kernel_rfl) (.cons (dS.up (by decide)) (.cons dVl .nil))).map (fun a=>⟨a.1,a.2.1⟩) (fun _=>rfl) fun _ h=>⟨h.1,h.2.1⟩
theorem dTms:Dec 3 120 (fun l:List Tm=>[mI l]) fun l=>l.length≤140737488355328∧ ∀ s∈l,s.ok:=dTm.slice (by kernel_rfl)
theorem zeQ (n:Nat):Dec n 3 (fun z:Int=>[i64 z]) fun _=>True:=dI.up (Nat.zero_le n)
theorem zm4 (n:Nat):Dec n 9 (fun z:BA=>[yQ z]) fun z=>z.size≤140737488355328:=dS.up (Nat.zero_le n)
theorem dLi:Dec 4 127 Li.c Li.ok:=(Dec.struct (ts:=[3,9,3,120,9,9,3,3,3]) (by kernel_rfl) (.cons (zeQ 3) (.cons (zm4 3) (.cons (zeQ 3) (.cons dTms (.cons (zm4 3) (.cons (zm4 3) (.cons (zeQ 3) (.cons (zeQ 3) (.cons (zeQ 3) .nil)))))))))).map
 (fun a=>⟨a.1,a.2.1,a.2.2.1,a.2.2.2.1,a.2.2.2.2.1,a.2.2.2.2.2.1,a.2.2.2.2.2.2.1,a.2.2.2.2.2.2.2.1,a.2.2.2.2.2.2.2.2.1⟩) (fun _=>rfl) fun _ h=>⟨h.2.1,h.2.2.2.2.1,h.2.2.2.2.2.1,h.2.2.2.1.1,h.2.2.2.1.2⟩
theorem dLis:Dec 5 123 (fun l:List Li=>[.ts 9 (l.map Li.c)]) fun l=>l.length≤140737488355328∧ ∀ s∈l,s.ok:=dLi.slice (by kernel_rfl)
theorem dEl:Dec 1 122 El.c fun e=>e.name.size≤140737488355328∧e.var.size≤140737488355328:=(Dec.struct (ts:=[3,9,9,3]) (by kernel_rfl) (.cons dI (.cons dS (.cons dS (.cons dI .nil))))).map (fun a=>⟨a.1,a.2.1,a.2.2.1,a.2.2.2.1⟩) (fun _=>rfl) fun _ h=>⟨h.2.1,h.2.2.1⟩
theorem dRu:Dec 6 125 Ru.c Ru.ok:=(Dec.struct (ts:=[9,3,120,122,123,3]) (by kernel_rfl) (.cons (zm4 5) (.cons (zeQ 5) (.cons (dTms.up (by decide)) (.cons (dEl.up (by decide)) (.cons dLis (.cons (zeQ 5) .nil))))))).map
 (fun a=>⟨a.1,a.2.1,a.2.2.1,a.2.2.2.1,a.2.2.2.2.1,a.2.2.2.2.2.1⟩) (fun _=>rfl) fun _ h=>⟨h.1,h.2.2.2.1.1,h.2.2.2.1.2,h.2.2.1.1,h.2.2.1.2,h.2.2.2.2.1.1,h.2.2.2.2.1.2⟩
theorem dRus:Dec 7 25 (fun l:List Ru=>[.ts 9 (l.map Ru.c)]) fun l=>l.length≤140737488355328∧ ∀ s∈l,s.ok:=dRu.slice (by kernel_rfl)
theorem ziI:prog.underlying 210=some (.array 2 3):=by kernel_rfl
theorem dPr:Dec 1 210 (fun c:Int×Int=>[i64 c.1,i64 c.2]) fun _=>True:=fun m x hx=>by
 unfold Shp at hx
 rw [ziI] at hx
 have hx: ∃ parts:List (List PV),parts.length=2∧x=parts.flatten∧ ∀ p∈parts,Shp prog m 3 p:=hx
 obtain ⟨ps,hl,rfl,hp⟩:=hx
 match ps,hl,hp with
 | [a,b],_,hp=>
  obtain ⟨u,_,h1⟩:=dI m a (hp a (by simp))
  obtain ⟨v,_,h2⟩:=dI m b (hp b (by simp))
  exact ⟨(u,v),trivial,h1.app (h2.app .nil)⟩
theorem dPrs:Dec 2 109 (fun l:List (Int×Int)=>[.ts 2 (l.map fun c=>[i64 c.1,i64 c.2])]) fun l=>l.length≤140737488355328∧ ∀ s∈l,True:=dPr.slice (by kernel_rfl)
theorem dLa:Dec 3 111 La.c La.ok:=(Dec.struct (ts:=[9,108,109,3]) (by kernel_rfl) (.cons (zm4 2) (.cons (dSs.up (by decide)) (.cons dPrs (.cons (zeQ 2) .nil))))).map (fun a=>⟨a.1,a.2.1,a.2.2.1,a.2.2.2.1⟩) (fun _=>rfl) fun _ h=>⟨h.1,h.2.1.1,h.2.1.2,h.2.2.1.1⟩
theorem dLas:Dec 4 22 (fun l:List La=>[.ts 4 (l.map La.c)]) fun l=>l.length≤140737488355328∧ ∀ s∈l,s.ok:=dLa.slice (by kernel_rfl)
theorem dFu:Dec 2 119 Fu.c Fu.ok:=(Dec.struct (ts:=[9,9,3,108,108,57,3]) (by kernel_rfl) (.cons (zm4 1) (.cons (zm4 1) (.cons (zeQ 1) (.cons dSs (.cons dSs (.cons dIs (.cons (zeQ 1) .nil)))))))).map
 (fun a=>⟨a.1,a.2.1,a.2.2.1,a.2.2.2.1,a.2.2.2.2.1,a.2.2.2.2.2.1,a.2.2.2.2.2.2.1⟩) (fun _=>rfl) fun _ h=>⟨h.1,h.2.1,h.2.2.2.1.1,h.2.2.2.1.2,h.2.2.2.2.1.1,h.2.2.2.2.1.2,h.2.2.2.2.2.1.1⟩
theorem dFus:Dec 3 23 (fun l:List Fu=>[.ts 7 (l.map Fu.c)]) fun l=>l.length≤140737488355328∧ ∀ s∈l,s.ok:=dFu.slice (by kernel_rfl)
theorem dPd:Dec 2 105 Pd.c Pd.ok:=(Dec.struct (ts:=[9,57,9,3,4,3,3]) (by kernel_rfl) (.cons (zm4 1) (.cons dIs (.cons (zm4 1) (.cons (zeQ 1) (.cons (dB.up (by decide)) (.cons (zeQ 1) (.cons (zeQ 1) .nil)))))))).map
 (fun a=>⟨a.1,a.2.1,a.2.2.1,a.2.2.2.1,a.2.2.2.2.1,a.2.2.2.2.2.1,a.2.2.2.2.2.2.1⟩) (fun _=>rfl) fun _ h=>⟨h.1,h.2.2.1,h.2.1.1⟩
theorem dPds:Dec 3 24 (fun l:List Pd=>[.ts 7 (l.map Pd.c)]) fun l=>l.length≤140737488355328∧ ∀ s∈l,s.ok:=dPd.slice (by kernel_rfl)
theorem dPg:Dec 8 27 Pg.c Pg.ok:=(Dec.struct (ts:=[22,23,24,25]) (by kernel_rfl) (.cons (dLas.up (by decide)) (.cons (dFus.up (by decide)) (.cons (dPds.up (by decide)) (.cons dRus .nil))))).map
 (fun a=>⟨a.1,a.2.1,a.2.2.1,a.2.2.2.1⟩) (fun _=>rfl) fun _ h=>⟨h.1.1,h.1.2,h.2.1.1,h.2.1.2,h.2.2.1.1,h.2.2.1.2,h.2.2.2.1.1,h.2.2.2.1.2⟩
end Go.AL
namespace Go.AL
open Go.Proofs Go.Proofs.Tryz
def Op1.raw (x:Op1):Prop:=x.args.length≤140737488355328∧ ∀ a∈x.args,a.ok
def iP (l:List Op1):Prop:=l.length≤140737488355328∧ ∀ x∈l,x.raw
structure Rp.raw (r:Rp):Prop where
 cl:r.cs.length≤140737488355328
 c: ∀ x∈r.cs,iP x.ops
 bl:r.bs.length≤140737488355328
 b: ∀ x∈r.bs,x.ok
theorem dFa:Dec 3 80 (fun f:Int×List Vl×Int=>[i64 f.1,pH f.2.1,i64 f.2.2]) fun f=>f.2.1.length≤140737488355328∧ ∀ a∈f.2.1,a.ok:=(Dec.struct (ts:=[3,73,3]) (by kernel_rfl) (.cons (zeQ 2) (.cons dVls (.cons (zeQ 2) .nil)))).map
 (fun a=>⟨a.1,a.2.1,a.2.2.1⟩) (fun _=>rfl) fun _ h=>h.2.1
theorem dOp:Dec 4 84 Op1.c Op1.raw:=(Dec.struct (ts:=[3,80,82]) (by kernel_rfl) (.cons (zeQ 3) (.cons dFa (.cons (dSp.up (by decide)) .nil)))).map
 (fun a=>⟨a.1,a.2.1.1,a.2.1.2.1,a.2.1.2.2,a.2.2.1⟩) (fun _=>rfl) fun _ h=>h.2.1
theorem zfP:Dec 5 32 (fun l:List Op1=>[lJ l]) iP:=dOp.slice (by kernel_rfl)
theorem dCo:Dec 6 60 Co.c fun c=>iP c.ops:=(Dec.struct (ts:=[32,3,3]) (by kernel_rfl) (.cons zfP (.cons (zeQ 5) (.cons (zeQ 5) .nil)))).map
 (fun a=>⟨a.1,a.2.1,a.2.2.1⟩) (fun _=>rfl) fun _ h=>h.1
theorem dCos:Dec 7 28 (fun l:List Co=>[.ts 3 (l.map Co.c)]) fun l=>l.length≤140737488355328∧ ∀ s∈l,iP s.ops:=dCo.slice (by kernel_rfl)
theorem dBr:Dec 1 40 Br.c Br.ok:=(Dec.struct (ts:=[9,3]) (by kernel_rfl) (.cons dS (.cons dI .nil))).map (fun a=>⟨a.1,a.2.1⟩) (fun _=>rfl) fun _ h=>h.1
theorem dBrs:Dec 2 29 (fun l:List Br=>[.ts 2 (l.map Br.c)]) fun l=>l.length≤140737488355328∧ ∀ s∈l,s.ok:=dBr.slice (by kernel_rfl)
theorem dRp:Dec 8 31 Rp.c Rp.raw:=(Dec.struct (ts:=[28,29]) (by kernel_rfl) (.cons dCos (.cons (dBrs.up (by decide)) .nil))).map
 (fun a=>⟨a.1,a.2.1⟩) (fun _=>rfl) fun _ h=>⟨h.1.1,h.1.2,h.2.1.1,h.2.1.2⟩
section
variable {H:Type} {enc:TypeId×Value→H} {w:World} {base:Nat} {spare:Nat→Bool} {held:Bool}
theorem Dec.arg {α:Type} {n b0:Nat} {t:TypeId} {c:α→List PV} {K:α→Prop} (D:Dec n t c K) {ts:List TypeId} (hs:zcS prog t=some ts) (hok:zg3 prog n t=true) {v:Value} {d:DataW H} {ps:List MemPlace}
  (hw:Light prog t d) (hv:Value.okWide prog w .any b0 t v) (h:DataW.Trod enc prog w base spare held t v d ps): ∃ a,K a∧VRel ⟨[],[],w,fun _=>False⟩ (.agg (c a)) v:=by
 unfold zcS at hs
 split at hs
 case h_2=>cases hs
 rename_i fs hu
 obtain ⟨vs,rfl,ht,hsh⟩:=zkF (X:=fun _=>False) (fun _ h=>h) hu hok hw hv h
 obtain ⟨a,hK,hle⟩:=D 0 _ (by rw [Nat.zero_add];exact hsh)
 exact ⟨a,hK,ht.agg hle.len.symm fun i p q hp hq=>hle.get i p q hp hq⟩
theorem Dec.arg1 {α:Type} {n:Nat} {t:TypeId} {c:α→PV} {K:α→Prop} (D:Dec n t (fun a=>[c a]) K) (hok:zg3 prog n t=true) {v:Value} {d:DataW H} {ps:List MemPlace} (hc:v.cells= #[v])
  (hw:Light prog t d) (h:DataW.Trod enc prog w base spare held t v d ps): ∃ a,K a∧VRel ⟨[],[],w,fun _=>False⟩ (c a) v:=by
 obtain ⟨fuel,hf⟩:=h
 have ht:=lN (X:=fun _=>False) (fun _ h=>h) fuel n t _ d ps hok hf
 have hsh:=cH fuel n t _ d ps hok hw hf
 obtain ⟨a,hK,hle⟩:=D 0 _ (by rw [Nat.zero_add];exact hsh)
 have hl:=hle.len
 refine ⟨a,hK,?_⟩
 have hcs:v.cells.toList=[v]:=by rw [hc]
 rw [hcs] at ht
 match hq:tP prog n t d,hl with
 | [p],_=>
  rw [hq] at ht hle
  exact hle.get 0 p (c a) rfl rfl _ _ (ht.rel 0 p v rfl rfl)
end
end Go.AL
namespace Go.AL
open Go.Proofs Go.Proofs.Tryz
def zm6 (c:Co):Cm:=(c.merged,c.parent)
def pG (l:List Br) (j:Nat):Int:=(l.getD j ⟨⟨#[]⟩, -1⟩).last
theorem vT {l:List Br} {j:Nat} (h:j<l.length):pG l j=l[j].last:=by
 unfold pG;rw [List.getD_eq_getElem?_getD,List.getElem?_eq_getElem h];rfl
theorem lQ (s:BA): ∀ l:List Br,rV (kN s) l=rV (fun t:BA=>decide (t=s)) (l.map (·.name))
 | []=>rfl
 |x::l=>by simp only [List.map_cons,rV,lQ s l]
structure MInv (r:Rp) (k:Nat) (name:BA) (i:Nat) (x:Rp):Prop where
 sz:x.sz
 cl:x.cs.length≤16+i
 nm:x.bs.map (·.name)=r.bs.map (·.name)++[name]
 me:Meets (x.cs.map zm6) (pG x.bs k) (pG x.bs r.bs.length) (pG r.bs k)
theorem MInv.len {r:Rp} {k:Nat} {name:BA} {i:Nat} {x:Rp} (h:MInv r k name i x):x.bs.length=r.bs.length+1:=by
 have:=congrArg List.length h.nm
 simpa using this
theorem MInv.up {r:Rp} {k:Nat} {name:BA} {i:Nat} {x:Rp} (h:MInv r k name i x):MInv r k name (i+1) x:=⟨h.sz,by have:=h.cl;omega,h.nm,h.me⟩
theorem zdH (l:List Br) (i:Nat) (h:i<l.length) (n:Int):(l.set i ⟨l[i].name,n⟩).map (·.name)=l.map (·.name):=by
 refine List.ext_getElem (by simp) fun j h1 h2=> ?_
 simp only [List.getElem_map,List.getElem_set]
 split
 ·rename_i e;subst e;rfl
 ·rfl
theorem MInv.ixn {r:Rp} {k:Nat} {name:BA} {i:Nat} {x:Rp} (h:MInv r k name i x) (hn:rV (kN name) r.bs<0):rV (kN name) x.bs=(r.bs.length:Nat):=by
 rw [lQ] at hn ⊢
 rw [h.nm,zbU _ (by simp) hn];simp
theorem MInv.ixk {r:Rp} {k:Nat} (hk:k<r.bs.length) {name:BA} {i:Nat} {x:Rp} (h:MInv r k name i x) (hn:rV (kN r.bs[k].name) r.bs=k):rV (kN r.bs[k].name) x.bs=k:=by
 rw [lQ] at hn ⊢
 rw [h.nm,zbX _ (by omega)];exact hn
theorem MInv.start {r x:Rp} (hr:r.sz) (hc:r.cs.length≤16) {k:Nat} (hk:k<r.bs.length) {name:BA} (hname:name.size≤140737488355328) (hn:rV (kN r.bs[k].name) r.bs=k) (hl: -1≤r.bs[k].last∧r.bs[k].last<r.cs.length) (h:ForkK r r.bs[k].name name x):MInv r k name 0 x∧rV (kN name) r.bs<0:=by
 obtain ⟨i,hi,h1,h2,h3,rfl⟩:=h
 have:i=k:=by omega
 subst this
 refine ⟨⟨⟨hr.cl,hr.c,by simp;omega,fun b hb=> ?_⟩,by dsimp only;omega,by simp,?_⟩,h2⟩
 ·rcases List.mem_append.1 hb with hb|hb
  ·exact hr.b b hb
  ·rw [List.mem_singleton] at hb;subst hb;exact hname
 ·dsimp only
  have e1:pG (r.bs++[⟨name,r.bs[i].last⟩]) i=r.bs[i].last:=by
   rw [vT (by simp;omega),List.getElem_append_left hi]
  have e2:pG (r.bs++[⟨name,r.bs[i].last⟩]) r.bs.length=r.bs[i].last:=by
   rw [vT (by simp)];simp
  rw [e1,e2,vT hi]
  exact Meets.refl (by simpa using hl)
theorem zgK {p:Pg} {r:Rp} (h:iY p r) {k:Nat} (hk:k<r.bs.length):rV (kN r.bs[k].name) r.bs=k∧ -1≤r.bs[k].last∧r.bs[k].last<r.cs.length:=by
 have:=h.2.2.2.2 k hk
 simp only [zkX,Bool.and_eq_true,Bool.not_eq_true',decide_eq_false_iff_not,beq_iff_eq] at this
 omega
end Go.AL
namespace Go.AL
open Go.Proofs Go.Proofs.Tryz
theorem znQ {r:Rp} {i:Nat} (hi:i<r.bs.length) (cs:List Co) (hcs:(r.cs.length:Int)≤cs.length) (n:Int) (hn: -1≤n∧n<cs.length) (hb: ∀ (j:Nat) (h:j<r.bs.length),zkX r j r.bs[j]=true):
  ∀ (j:Nat) (h:j<(r.bs.set i ⟨r.bs[i].name,n⟩).length),zkX ⟨cs,r.bs.set i ⟨r.bs[i].name,n⟩⟩ j (r.bs.set i ⟨r.bs[i].name,n⟩)[j]=true:=by
 intro j h
 have hj:j<r.bs.length:=by simpa using h
 have hix: ∀ s:BA,rV (kN s) (r.bs.set i ⟨r.bs[i].name,n⟩)=rV (kN s) r.bs:=fun s=>by rw [lQ,lQ,zdH _ _ hi]
 have hbj:=hb j hj
 unfold zkX at hbj ⊢
 simp only [Bool.and_eq_true,Bool.not_eq_true',decide_eq_false_iff_not,beq_iff_eq] at hbj ⊢
 obtain ⟨⟨⟨h1,h2⟩,h3⟩,h4⟩:=hbj
 rw [List.getElem_set]
 split
 ·rename_i e;subst e
  dsimp only
  rw [hix]
  exact ⟨⟨⟨h1,h2⟩,by omega⟩,by omega⟩
 ·rw [hix]
  exact ⟨⟨⟨h1,h2⟩,h3⟩,by omega⟩
theorem sU {p:Pg} {r:Rp} {l:List Dt} (hc:zh8 p r=some l) {br:BA} {ops:List Op1} {i:Nat} (hi:i<r.bs.length) (hix:rV (kN br) r.bs=i) (he:zh7 p r br ops=0):
  r.cs.length<200∧(zk4 p (zcI p l r.bs[i].last) ops).2=0∧zh8 p ⟨r.cs++[⟨ops, -1,r.bs[i].last⟩],r.bs.set i ⟨r.bs[i].name,r.cs.length⟩⟩=some (l++[(zk4 p (zcI p l r.bs[i].last) ops).1]):=by
 obtain ⟨hb,hst,hll⟩:=zb7 hc
 obtain ⟨-,hl1,hl2⟩:=zgK hb hi
 have hE:zh7 p r br ops=if rV (kN br) r.bs<0 then 330 else if r.cs.length=200 then 2 else (zk4 p (zcI p l (r.bs.getD (rV (kN br) r.bs).toNat ⟨br, -1⟩).last) ops).2:=by unfold zh7;rw [hc]
 have hg:(r.bs.getD (i:Int).toNat ⟨br, -1⟩)=r.bs[i]:=by rw [Int.toNat_natCast,List.getD_eq_getElem?_getD,List.getElem?_eq_getElem hi];rfl
 rw [hix,if_neg (by omega),hg,he] at hE
 have h200:=hb.1
 by_cases h:r.cs.length=200
 ·rw [if_pos h] at hE;cases hE
 rw [if_neg h] at hE
 refine ⟨by omega,hE.symm,?_⟩
 have hbr:iY p ⟨r.cs++[⟨ops, -1,r.bs[i].last⟩],r.bs.set i ⟨r.bs[i].name,r.cs.length⟩⟩:=by
  obtain ⟨b1,b2,⟨b3,b4⟩,b5,b6⟩:=hb
  refine ⟨by simp;omega,by simpa using b2,⟨by simpa using b3,?_⟩,b5,?_⟩
  ·dsimp only
   rw [List.getElem_set]
   split
   ·rename_i e;subst e;exact b4
   ·exact b4
  ·exact znQ hi _ (by simp;omega) _ (by simp;omega) b6
 unfold zh8
 rw [if_pos hbr,ziY,hst]
 simp only [zg2,Option.bind_some]
 rw [if_neg (by omega),if_pos hE.symm]
theorem tC {p:Pg} {r:Rp} {l:List Dt} (hc:zh8 p r=some l) {name:BA} {k:Nat} (hk:k<r.bs.length) (hn:rV (kN name) r.bs<0) (hl:r.bs.length<12) (hnm:nmF name=true):
  zh8 p ⟨r.cs,r.bs++[⟨name,r.bs[k].last⟩]⟩=some l:=by
 obtain ⟨hb,hst,hll⟩:=zb7 hc
 obtain ⟨-,hl1,hl2⟩:=zgK hb hk
 have hbr:iY p ⟨r.cs,r.bs++[⟨name,r.bs[k].last⟩]⟩:=by
  obtain ⟨b1,b2,⟨b3,b4⟩,b5,b6⟩:=hb
  refine ⟨b1,by simp;omega,⟨by simp,?_⟩,b5,?_⟩
  ·dsimp only
   rw [List.getElem_append_left b3];exact b4
  ·intro j h
   have hlen:(r.bs.map (·.name)).length=r.bs.length:=by simp
   rw [lQ] at hn
   by_cases hj:j<r.bs.length
   ·have hbj:=b6 j hj
    unfold zkX at hbj ⊢
    simp only [Bool.and_eq_true,Bool.not_eq_true',decide_eq_false_iff_not,beq_iff_eq] at hbj ⊢
    obtain ⟨⟨⟨h1,h2⟩,h3⟩,h4⟩:=hbj
    rw [List.getElem_append_left hj]
    refine ⟨⟨⟨h1,?_⟩,h3⟩,h4⟩
    rw [lQ] at h2 ⊢
    rw [List.map_append,List.map_cons,List.map_nil,zbX _ (by omega)];exact h2
   ·have:j=r.bs.length:=by simp at h;omega
    subst this
    unfold zkX
    simp only [Bool.and_eq_true,Bool.not_eq_true',decide_eq_false_iff_not,beq_iff_eq]
    rw [List.getElem_append_right (Nat.le_refl _)]
    simp only [Nat.sub_self,List.getElem_cons_zero]
    refine ⟨⟨⟨hnm,?_⟩,by omega⟩,by omega⟩
    rw [lQ,List.map_append,List.map_cons,List.map_nil,zbU _ (by simp) hn,hlen]
 unfold zh8
 rw [if_pos hbr];exact hst
end Go.AL
