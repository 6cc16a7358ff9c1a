/-
  Base data, plainly: facts told and forgotten, key by key and moment by moment.
-/
import Derived.Test.YtcffidhiaihbkaaGreatDoorX44
set_option linter.unusedSimpArgs false
set_option linter.unusedVariables false
set_option maxRecDepth 100000
set_option maxHeartbeats 4000000
namespace Go.AL
open Go.Proofs Go.Proofs.Tryz
@[go_sem] def ULook2f15.pl:Nat→DPlan
 |8=>⟨[yB,yA,yB,yA,yA,yB,yA,yA,yC,yA],xS,0⟩
 |_=>⟨[],[],0⟩
def zjH (k:Nat) (key:List Vl) (m:Int):List Rw→Option Rw
 | []=>none
 |x::l=>if decide (x.args.take k=key)&&fL x.w m then some x else zjH k key m l
noncomputable def lkQ (p:Pg) (q:Pd) (y:List Rw) (z:List LRw) (pred:Int) (key:List Vl) (m:Int):Option Fa:=
 if q.base=false∨(key.length:Int)≠q.key then none
 else if q.of'≠ -1 then
  if cL (p.lats.getD q.of'.toNat zuV) z key m= -1∨cL (p.lats.getD q.of'.toNat zuV) z key m=oU (p.lats.getD q.of'.toNat zuV) then none
  else some ⟨pred,key,cL (p.lats.getD q.of'.toNat zuV) z key m⟩
 else (zjH q.key.toNat key m y).map fun x=>⟨pred,x.args, -1⟩
noncomputable def ztF (p:Pg) (d:Dt) (pred:Int) (key:List Vl) (m:Int):Option Fa:=
 if ze8 (DatX p d)=false∨pred<0∨(p.preds.length:Int)≤pred then none
 else lkQ p (p.preds.getD pred.toNat zuW) (d.rels.getD pred.toNat []) (d.lats.getD pred.toNat []) pred key m
theorem ztN {p:Pg} {d:Dt} (hX:DatX p d) {i:Nat} (hi:i<p.preds.length) (hir:i<d.rels.length) (hil:i<d.lats.length) (key:List Vl) (m:Int):ztF p d i key m=lkQ p p.preds[i] d.rels[i] d.lats[i] i key m:=by
 unfold ztF
 rw [if_neg (fun w=>w.elim (fun w=>by rw [pO hX] at w;cases w) fun w=>by omega),Int.toNat_natCast,eD hi,eD hir,eD hil]
def faV:Option Fa→PV
 |none=> .tup [.agg (Fa.c ⟨0,[],0⟩),bo false]
 |some f=> .tup [.agg f.c,bo true]
theorem ztE (o:Option Fa):zU 40 (faV o)=true:=by
 cases o with
 |none=>rfl
 | some f=>
  have h1:zU 38 (pH f.args)=true:=all_map fun _=>rfl
  have h2:zU 39 (.agg f.c)=true:=by
   show ([i64 f.pred,pH f.args,i64 f.elem].all (zU 38))=true
   rw [List.all_cons,List.all_cons,h1];rfl
  show ([.agg f.c,bo true].all (zU 39))=true
  rw [List.all_cons,h2];rfl
theorem zqG {k:Nat} {key:List Vl} {m:Int}: ∀ {l:List Rw},(∀ (j:Nat) (h:j<l.length),(decide (l[j].args.take k=key)&&fL l[j].w m)=false)→zjH k key m l=none
 | [],_=>rfl
 |x::l,h=>by
  have h0:=h 0 (by simp)
  unfold zjH
  rw [if_neg (by rw [show (x::l)[0]=x from rfl] at h0;rw [h0];decide)]
  exact zqG fun j hj=>h (j+1) (by simpa using hj)
theorem ztQ {k:Nat} {key:List Vl} {m:Int}: ∀ {l:List Rw} {i:Nat} (hi:i<l.length),(∀ (j:Nat) (h:j<l.length),j<i→(decide (l[j].args.take k=key)&&fL l[j].w m)=false)→(decide (l[i].args.take k=key)&&fL l[i].w m)=true→zjH k key m l=some l[i]
 |x::l,0,_,_,h=>by
  have h0:(decide (x.args.take k=key)&&fL x.w m)=true:=h
  unfold zjH
  rw [if_pos h0];rfl
 |x::l,i+1,hi,h,q=>by
  have h0:=h 0 (by simp) (by omega)
  unfold zjH
  rw [if_neg (by rw [show (x::l)[0]=x from rfl] at h0;rw [h0];decide)]
  exact ztQ (by simpa using hi) (fun j hj hji=>h (j+1) (by simpa using hj) (by omega)) q
theorem znC {l:List Sp} {m:Nat} (hm:m<64):fL l (m:Int)=(uQ l).testBit m:=by
 unfold fL
 rw [decide_eq_true (Int.natCast_nonneg m),decide_eq_true (show (m:Int)<64 by omega),Int.toNat_natCast];rfl
theorem zr8 {k:Nat} {key:List Vl} {m:Int}: ∀ {l:List Rw},zjH k key m l=none→ ∀ x∈l,x.args.take k=key→fL x.w m=false
 | y::l,h,x,hx,hk=>by
  unfold zjH at h
  by_cases q:(decide (y.args.take k=key)&&fL y.w m)=true
  ·rw [if_pos q] at h;cases h
  ·rw [if_neg q] at h
   rcases List.mem_cons.1 hx with rfl|hx
   ·rw [decide_eq_true hk,Bool.true_and] at q
    exact Bool.eq_false_iff.2 q
   ·exact zr8 h x hx hk
open ULook2f15 in
theorem ztB (p:Pg) (hp:p.ok) (hle:p.sm) (d:Dt) (hd:d.sz) (pred:Int) (key:List Vl) (hkl:key.length≤1048576) (hks:(p.preds.getD pred.toNat zuW).of'= -1∨ ∀ a∈key,a.s.size≤1048576) (m:Int):
  EPure prog G0 15 [.agg p.c,.agg d.c,i64 pred,pH key,i64 m] fun v=>v=faV (ztF p d pred key m):=by
 refine ECall.cutW (R:=fun v _=>(ztF p d pred key m=none∧v= .tup [.agg [i64 0,.nil,i64 0],bo false])∨v=faV (ztF p d pred key m)) (pv func15 111 false (by kernel_rfl) rfl rfl ?_) ?_
 refine g2 ?_
 ·refine ge ?_
  (refine g1 ?_;refine zC ((zeD p hp hle d hd).call zK (by simp [zJ]) _) ?_;intro p2 h2 hr2;refine g2 ?_)
  obtain ⟨rfl,rfl⟩:=hr2
  cases hb:ze8 (DatX p d) with
  |false=>
   have hE:ztF p d pred key m=none:=by unfold ztF;rw [if_pos (.inl hb)]
   refine ge ?_
   exact .inl ⟨hE,rfl⟩
  | true=>
   have hX:=zoX.1 hb
   obtain ⟨hpl,htp⟩:=znP hp hle hX.tv
   by_cases h1:pred<0
   ·have e1:decide (pred<0)=true:=by simp [h1]
    have hE:ztF p d pred key m=none:=by unfold ztF;rw [if_pos (.inr (.inl h1))]
    refine gf @e1 ?_
    exact .inl ⟨hE,rfl⟩
   have e1:decide (pred<0)=false:=by simp [h1]
   by_cases h2:(p.preds.length:Int)≤pred
   ·have e2:decide ((p.preds.length:Int)≤pred)=true:=by simp [h2]
    have hE:ztF p d pred key m=none:=by unfold ztF;rw [if_pos (.inr (.inr h2))]
    refine gf (a2 @e1 @e2) ?_
    exact .inl ⟨hE,rfl⟩
   have e2:decide ((p.preds.length:Int)≤pred)=false:=by simp [h2]
   obtain ⟨i,rfl⟩:=Int.eq_ofNat_of_zero_le (Int.not_lt.1 h1)
   have hi:i<p.preds.length:=by omega
   have hir:i<d.rels.length:=by rw [hX.rl];exact hi
   have hil:i<d.lats.length:=by rw [hX.ll];exact hi
   have hx:=zG (f:=Pd.c) [] hi
   have hy:=zG (f:=fun r=>[uN r]) [] hir
   have hz:=zG (f:=fun r=>[vD r]) [] hil
   have hat:=hX.at' i hi hir hil
   have hxt:=htp _ (List.getElem_mem hi)
   have hck:=((ze0 p hp hle).2 hX.tv).2.2
   have hkk:=(((ze0 p hp hle).2 hX.tv).1.p _ (List.getElem_mem hi))
   have hys:=hd.r _ (List.getElem_mem hir)
   have hzs:=hd.l _ (List.getElem_mem hil)
   have hE:=ztN hX hi hir hil key m
   unfold lkQ at hE
   rw [Int.toNat_natCast,eD hi] at hks
   have e2:(p.preds.length≤i)=False:=eq_false (by omega)
   generalize p.preds[i]=x at*
   generalize d.rels[i]=y at*
   generalize d.lats[i]=z at*
   obtain ⟨hy1,hy2⟩:=hys
   obtain ⟨hz1,hz2⟩:=hzs
   obtain ⟨xname,xtypes,xlat,xof,xbase,xkey,xat⟩:=x
   obtain ⟨_w1,w2,w3⟩:=hat
   obtain ⟨k0,k1,k2, -⟩:=hkk
   dsimp only at*
   have h3T:(3:Nat)<4:=by decide
   cases xbase with
   |false=>
    rw [if_pos (.inl rfl)] at hE
    refine gf (a5 @e1 @e2 @hi @hx @zB) ?_
    exact .inl ⟨hE,rfl⟩
   | true=>
    by_cases h3:(key.length:Int)=xkey
    case neg=>
     have e3:((key.length:Int)!=xkey)=true:=by simp [h3]
     rw [if_pos (.inr h3)] at hE
     refine gf (a6 @e1 @e2 @hi @hx @zB @e3) ?_
     exact .inl ⟨hE,rfl⟩
    have e3:((key.length:Int)!=xkey)=false:=by simp [h3]
    rw [if_neg (fun w=>w.elim (fun w=>Bool.noConfusion w) fun w=>w h3)] at hE
    refine gf (a6 @e1 @e2 @hi @hx @zB @e3) ?_
    (refine g1 ?_;refine zC ((lR ⟨xname,xtypes,xlat,xof,true,xkey,xat⟩).call zK (by simp [zJ]) _) ?_;intro p2 h2 hr2;refine g2 ?_)
    obtain ⟨⟨b,rfl,hbo⟩,rfl⟩:=hr2
    dsimp only at hbo
    cases b with
    | true=>
     have ho:xof≠ -1:=by simpa using hbo.symm
     have hol:xof.toNat<p.lats.length:=by omega
     have hq:=zG (f:=La.c) [] hol
     have hlo:=hp.l _ (List.getElem_mem hol)
     have mM:=hck _ (List.getElem_mem hol)
     obtain ⟨-,hc⟩:=w2 rfl ho
     have hc:=hc hol
     rw [if_pos ho,eD hol] at hE
     have hks:=hks.resolve_left ho
     have h0o:0≤xof:=by omega
     have hot:(0≤xof)=True:=eq_true h0o
     have hlt:(xof<(p.lats.length:Int))=True:=eq_true (by omega)
     generalize p.lats[xof.toNat]=lt at*
     refine gf (a8 @hi @hil @hz @zB @hot @hlt @hol @hq) ?_
     (refine zF rfl rfl rfl ?_;intro zs zh;simp only [go_sem,hi,hil,hz,zB] at zh;subst zh;refine zP (by decide) (by decide) ((zuT lt hlo mM z (by omega) (hc.oks hxt.1) key hkl hks m).call zK (by simp [zJ]) _) ?_;intro p2 h2 hr2 ts2 hts;simp only [go_sem] at hts;subst hts)
     obtain ⟨rfl,rfl⟩:=hr2
     generalize cL lt z key m=e at*
     have hbT:=(zj7 lt hlo).call zK (by simp [zJ])
     generalize oU lt=bt at*
     have none1: ∀ (q:e= -1∨e=bt),ztF p d i key m=none:=fun q=>by rw [hE,if_pos q]
     by_cases h4:e= -1
     ·have e4:(e== -1)=true:=by simp [h4]
      refine gf @e4 ?_
      exact .inl ⟨none1 (.inl h4),rfl⟩
     have e4:(e== -1)=false:=by simp [h4]
     refine gf @e4 ?_
     (refine g1f @e4 ?_;refine zC (hbT _) ?_;intro p2 h2 hr2;refine g2 ?_)
     obtain ⟨rfl,rfl⟩:=hr2
     by_cases h5:e=bt
     ·have e5:(e==bt)=true:=by simp [h5]
      refine gf @e5 ?_
      exact .inl ⟨none1 (.inr h5),rfl⟩
     have e5:(e==bt)=false:=by simp [h5]
     rw [if_neg (fun w=>w.elim h4 h5)] at hE
     refine gf @e5 ?_
     (refine g1 ?_;refine zC ((iK key (by omega) (all_map fun _=>rfl)).call zK (by simp) _) ?_;intro p2 h2 hr2;refine g2 ?_)
     obtain ⟨rfl,rfl⟩:=hr2
     refine ge ?_
     exact .inr (by rw [hE];rfl)
    | false=>
     have ho:xof= -1:=by simpa using hbo.symm
     obtain ⟨-,hR, -⟩:=w3 rfl ho
     rw [if_neg (fun w=>w ho)] at hE
     obtain ⟨k,rfl⟩:=Int.eq_ofNat_of_zero_le k0
     rw [Int.toNat_natCast] at hE
     have hyl:=hR.ls hxt.1
     refine gf (a4 @hi @hir @hy @zB) ?_
     refine zO y.length (K9 (.k:: .k:: .d::K4 (.d::K9 (K9 (K9 (K9 (K9 (K9 (K9 (K4 (K4 (.v::D9 (D9 (.d:: .d:: .d:: .k::[])))))))))))))) (own:=false) (fun i (_:Heap)=>[i64 i]) (fun J=> .var 27 p.c:: .var 31 d.c:: .var 34 [i64 0,.nil,i64 0]:: .var 59 [yQ xname,vF xtypes,yQ xlat,i64 xof,bo true,i64 k,i64 xat]::J) (fun i _=> ∀ (j:Nat) (h:j<y.length),j<i→(decide (y[j].args.take k=key)&&fL y[j].w m)=false) [] rfl rfl (fun j _ hj=>absurd hj (Nat.not_lt_zero _)) (by omega) ?_ ?_
     ·rintro J hI
      refine gm ?_
      rw [zqG fun j h=>hI j h h] at hE
      refine gf @zM ?_
      exact .inl ⟨hE,rfl⟩
     ·rintro j J hj hw hI
      refine gm ?_
      have hyj:=zG (f:=Rw.c) [] hj
      obtain ⟨hal,hls⟩:=hyl _ (List.getElem_mem hj)
      have up:=zg2 (P:=fun r:Rw=>(decide (r.args.take k=key)&&fL r.w m)=false) hj hI
      have at1:=ztQ (m:=m) (key:=key) hj hI
      have hrw:=hy2 _ (List.getElem_mem hj)
      generalize y[j]=r at*
      have hkr:k≤r.args.length:=by omega
      have hkr2:((k:Int)≤(r.args.length:Int))=True:=eq_true (by omega)
      have hral:=hrw.al
      have hrww:=hrw.w
      have heq:=(zjE (r.args.take k) key (by rw [List.length_take];omega)).call zK (by simp)
      have hhas:=(has_x r.w (by omega) m).call zK (by simp)
      have hj3:(3<J.length+1+1+1+1)=True:=by simp
      (repeat (first|refine gz ?_|(refine gn ?_;intro zs zh;(try simp only [go_sem,hj,hyj,zB,hw,zA,zD,hkr,hkr2,xO,hj3] at zh);subst zh;refine gv ?_)|refine yD ULook2f15.pl ?_))
      (refine ns ?_;intro zs zh;simp only [go_sem,hj,hyj,zB,hw,zA,zD,hkr,hkr2,xO,hj3] at zh;subst zh;refine zC (heq _) ?_;intro p2 h2 hr2 ts2 hts;simp only [go_sem] at hts;subst hts)
      obtain ⟨rfl,rfl⟩:=hr2
      by_cases hq:r.args.take k=key
      case neg=>
       have hd:decide (r.args.take k=key)=false:=by simp [hq]
       have up:=up (by rw [hd];rfl)
       rw [hd]
       refine gf (a7 @hj @hyj @zB @hw @zA @zD @hj3) ?_
       exact ⟨_,up,rfl,rfl,rfl⟩
      have hd:decide (r.args.take k=key)=true:=by simp [hq]
      rw [hd] at up at1 ⊢
      refine gf (a7 @hj @hyj @zB @hw @zA @zD @hj3) ?_
      (refine g1f (a7 @hj @hyj @zB @hw @zA @zD @hj3) ?_;refine zC (hhas _) ?_;intro p2 h2 hr2;refine g2 ?_)
      obtain ⟨rfl,rfl⟩:=hr2
      cases hh:fL r.w m with
      |false=>
       have up:=up (by rw [hh];rfl)
       refine gf (a7 @hj @hyj @zB @hw @zA @zD @hj3) ?_
       exact ⟨_,up,rfl,rfl,rfl⟩
      |true=>
       rw [at1 (by rw [hh];rfl)] at hE
       refine gf (a7 @hj @hyj @zB @hw @zA @zD @hj3) ?_
       exact .inr (by rw [hE];rfl)
 ·rintro v h (⟨hE,rfl⟩|rfl)
  ·rw [hE]
   exact ⟨faV none,by rw [vE 0 h 40 _ rfl];exact PLes.tup (.cons (PLes.agg (.cons (PLe.refl _) (.cons (PLe.nil_ts 3) (.cons (PLe.refl _) .nil)))) (.cons (PLe.refl _) .nil)),rfl,yP 40 _ rfl⟩
  ·exact ⟨_,by rw [vE 0 h 40 _ (ztE _)];exact PLe.refl _,rfl,yP 40 _ (ztE _)⟩
end Go.AL
namespace Go.AL
open Go.Proofs Go.Proofs.Tryz
@[go_sem] def UR01f57.pl:Nat→DPlan
 |4=>⟨[yA,yA,yA,yB,yA,yA,yA,yB,yC,yA],xS,0⟩
 |_=>⟨[],[],0⟩
@[go_sem] def UR01f126.pl:Nat→DPlan
 |4=>⟨[yA,yA,yA,yA,yA,yA,yA],tV,0⟩
 |5=>⟨[yA,yA,yA,yA,yA,yA,yA,yA,yC,yA],xS,0⟩
 |_=>⟨[],[],0⟩
end Go.AL
namespace Go.AL
open Go.Proofs Go.Proofs.Tryz
end Go.AL
namespace Go.AL
open Go.Proofs Go.Proofs.Tryz
end Go.AL
namespace Go.AL
open Go.Proofs Go.Proofs.Tryz
end Go.AL
namespace Go.AL
open Go.Proofs Go.Proofs.Tryz
@[go_sem] def UR05f53.pp:Nat→DPlan
 |5=>⟨[yA,yA,yA,yA,yA,yB,yA,yA,yA,yA,yA,yB,uX,yC,yA],yG,0⟩
 |_=>⟨[],[],0⟩
@[go_sem] def UR05f53.pl:Nat→DPlan
 |5=>⟨[yA,yA,yA,yA,yA,⟨7,0,[1000]⟩,yA,yA,yA,yA,yA,yB,⟨6,0,[1000]⟩,yC,yA],yG,0⟩
 |_=>⟨[],[],0⟩
structure RQ (r:List Rw):Prop where
 l:r.length≤4096
 w: ∀ x∈r,uQ x.w≠0∧x.w.length≤64
 a: ∀ x∈r,x.args.length≤1048576∧ ∀ v∈x.args,v.s.size≤140737488355328
noncomputable def zuM (r:List Rw) (t:List Vl) (m:Nat):Bool:=r.any fun x=>ze8 (x.args=t)&&(uQ x.w).testBit m
theorem RQ.ne {r:List Rw} (h:RQ r): ∀ x∈r,x.w≠[]∧x.w.length≤64:=fun x hx=>⟨fun e=>(h.w x hx).1 (by rw [e];rfl),(h.w x hx).2⟩
def OfK (r:List Rw) (y:Rw):Prop:=(∃ x∈r,y.args=x.args)∧y.w.length≤65∧ ∀ m,(uQ y.w).testBit m=zuM r y.args m
end Go.AL
namespace Go.AL
open Go.Proofs Go.Proofs.Tryz
def AtK (r:List Rw) (m:Int) (a:List Vl):Prop:=(∃ x∈r,a=x.args)∧0≤m∧m<64∧zuM r a m.toNat=true
end Go.AL
namespace Go.AL
open Go.Proofs Go.Proofs.Tryz
theorem zsS {k:Nat} {key:List Vl} {m:Int} {z:Rw}: ∀ {l:List Rw},zjH k key m l=some z→z∈l∧z.args.take k=key∧fL z.w m=true
 | y::l,h=>by
  unfold zjH at h
  by_cases q:(decide (y.args.take k=key)&&fL y.w m)=true
  ·rw [if_pos q] at h
   injection h with h
   subst h
   simp only [Bool.and_eq_true,decide_eq_true_eq] at q
   exact ⟨List.mem_cons_self ..,q⟩
  ·rw [if_neg q] at h
   obtain ⟨a,b⟩:=zsS h
   exact ⟨List.mem_cons_of_mem _ a,b⟩
theorem zuG {k:Nat} {key:List Vl} {m:Int} {x:Rw} {l:List Rw} (hx:x∈l) (hk:x.args.take k=key) (hh:fL x.w m=true): ∃ z,zjH k key m l=some z:=by
 cases h:zjH k key m l with
 |some z=>exact ⟨z,rfl⟩
 |none=>have:=zr8 h x hx hk;rw [hh] at this;cases this
theorem zt5 {k:Nat} {r:List Rw} (hc:CanL r) (hk:zr1 k r) {x z:Rw} (hx:x∈r) (hz:z∈r) (ht:z.args.take k=x.args.take k) {m:Nat} (hxm:(uQ x.w).testBit m=true) (hzm:(uQ z.w).testBit m=true):z.args=x.args:=by
 apply Classical.byContradiction
 intro q
 have hp:=(iW r).1 hc.1
 have:=(zjB hc).1 hk _ _ q ht
 rw [zoV hp hz,zoV hp hx] at this
 have h2:=zn9 this m
 rw [hzm,hxm] at h2
 cases h2
theorem RelX.nil (ty:List Int):RelX ty []:=⟨⟨(iW []).2 List.Pairwise.nil,by simp⟩,by simp⟩
end Go.AL
namespace Go.AL
theorem zuK {l:La} (hl:l.ok) (hc:uE l=0):ze7 l (oU l)=true:=by
 unfold ze7
 rw [decide_eq_true_eq]
 exact (zqB l hl hc).1
end Go.AL
namespace Go.AL
open Go.Proofs Go.Proofs.Tryz
theorem zrS {l:La} {ty:List Int} {args:List Vl} (ha:ArgX ty args): ∀ {T:Tbl},(∀ x∈T,ArgX ty x.1)→zhD (oU l) T (zk0 args)=jU l T args
 | [],_=>rfl
 |x::T,h=>by
  have ih:=zrS (l:=l) ha fun y hy=>h y (List.mem_cons_of_mem x hy)
  unfold zhD jU
  by_cases q:x.1=args
  ·rw [if_pos (by rw [q]),if_pos q]
  ·rw [if_neg fun e=>q ((h x (List.mem_cons_self ..)).key ha e),if_neg q,ih]
theorem ztL {l:La} {ty:List Int} {z:List LRw} (h:CelX l ty z) {args:List Vl} (ha:ArgX ty args) {m:Nat} (hm:m<64):cL l z args m=(eF l z args).getD m 0:=by
 unfold cL
 rw [if_pos ⟨by omega,by omega⟩,Int.toNat_natCast,zrS ha,zdO h]
 intro x hx
 rw [kT h.keys] at hx
 obtain ⟨w,hw,rfl⟩:=List.mem_map.1 hx
 exact h.2.1 w hw
end Go.AL
namespace Go.AL
open Go.Proofs Go.Proofs.Tryz
abbrev In64 (n:Int):Prop:= -9223372036854775808≤n∧n≤9223372036854775807
theorem dn256 {a b:Int} (h:a%256=b%256) (k:a / 256=b / 256):a=b:=by omega
theorem znG {n m:Int} (h:zs1 n=zs1 m) (k:Nat) (hk:k<8):(n / 2 ^ (8*k))%256=(m / 2 ^ (8*k))%256:=by
 have e:vT n k=vT m k:=by
  have h1:(zs1 n)[k]? =(zs1 m)[k]? :=by rw [h]
  unfold zs1 at h1
  rw [List.getElem?_map,List.getElem?_map,List.getElem?_range hk] at h1
  simpa using h1
 have a:=ziJ n k
 have b:=ziJ m k
 rw [e, ←b] at a
 rw [IntKind.wrap_u8,IntKind.wrap_u8,Nat.min_eq_left (by omega)] at a
 exact a
theorem fM (n:Int) (k:Nat):n / 2 ^ (8*(k+1))=(n / 2 ^ (8*k)) / 256:=by
 rw [show 8*(k+1)=8*k+8 by omega,Int.pow_add,Int.ediv_ediv_of_nonneg (Int.le_of_lt (Int.pow_pos (by decide)))]
 rfl
theorem kN {n m:Int} (hn:In64 n) (hm:In64 m) (h:zs1 n=zs1 m):n=m:=by
 have b:=znG h
 have top:n / 2 ^ (8*7)=m / 2 ^ (8*7):=by
  have:=b 7 (by omega)
  have e:(2:Int) ^ (8*7)=72057594037927936:=by decide
  rw [e] at this ⊢
  obtain ⟨a1,a2⟩:=hn
  obtain ⟨a3,a4⟩:=hm
  have q1: -128≤n / 72057594037927936∧n / 72057594037927936≤127:=by omega
  have q2: -128≤m / 72057594037927936∧m / 72057594037927936≤127:=by omega
  omega
 have st: ∀ k,k<7→n / 2 ^ (8*(k+1))=m / 2 ^ (8*(k+1))→n / 2 ^ (8*k)=m / 2 ^ (8*k):=fun k hk q=>by
  rw [fM,fM] at q
  exact dn256 (b k (by omega)) q
 have h6:=st 6 (by omega) top
 have h5:=st 5 (by omega) h6
 have h4:=st 4 (by omega) h5
 have h3:=st 3 (by omega) h4
 have h2:=st 2 (by omega) h3
 have h1:=st 1 (by omega) h2
 have h0:=st 0 (by omega) h1
 simpa using h0
def VIn (v:Vl):Prop:=In64 v.t∧In64 v.n∧v.s.size≤140737488355328
theorem VvK.in' {v:Vl} (h:VvK v):VIn v:=by
 obtain ⟨x1,x2,x3,x4⟩:=h
 exact ⟨⟨by omega,by omega⟩,⟨by omega,by omega⟩,by omega⟩
theorem fJ: ∀ {a b:List Vl},(∀ v∈a,VIn v)→(∀ v∈b,VIn v)→a.flatMap ziU=b.flatMap ziU→a=b
 | [],[],_,_,_=>rfl
 | [],y::b,_,_,h=>by
  have:=congrArg List.length h
  simp [ziU,pG] at this
  omega
 |x::a,[],_,_,h=>by
  have:=congrArg List.length h
  simp [ziU,pG] at this
 | x::a,y::b,ha,hb,h=>by
  rw [List.flatMap_cons,List.flatMap_cons] at h
  unfold ziU at h
  simp only [List.append_assoc] at h
  obtain ⟨h1,h⟩:=List.append_inj h (by rw [pG,pG])
  obtain ⟨h2,h⟩:=List.append_inj h (by rw [pG,pG])
  obtain ⟨h3,h⟩:=List.append_inj h (by rw [pG,pG])
  obtain ⟨x1,x2,x3⟩:=ha x (List.mem_cons_self ..)
  obtain ⟨y1,y2,y3⟩:=hb y (List.mem_cons_self ..)
  have e1:=kN x1 y1 h1
  have e2:=kN x2 y2 h2
  have e3:=kN (n:=(x.s.size:Int)) (m:=(y.s.size:Int)) ⟨by omega,by omega⟩ ⟨by omega,by omega⟩ h3
  have hsz:x.s.data.toList.length=y.s.data.toList.length:=by
   have q1:x.s.data.toList.length=x.s.size:=Array.length_toList
   have q2:y.s.data.toList.length=y.s.size:=Array.length_toList
   omega
  obtain ⟨h4,h5⟩:=List.append_inj h hsz
  have e4:x.s=y.s:=ByteArray.ext (Array.toList_inj.1 h4)
  have hxy:x=y:=by cases x;cases y;simp_all
  have hr:=fJ (fun v hv=>ha v (List.mem_cons_of_mem _ hv)) (fun v hv=>hb v (List.mem_cons_of_mem _ hv)) (by unfold ziU;simpa only [List.append_assoc] using h5)
  rw [hxy,hr]
theorem zdH {a b:List Vl} (ha: ∀ v∈a,VIn v) (hb: ∀ v∈b,VIn v) (h:zk0 a=zk0 b):a=b:=by
 have h1:=fQ a ⟨#[]⟩
 have h2:=fQ b ⟨#[]⟩
 have h3:(a.foldl znJ ⟨#[]⟩).data.toList=(b.foldl znJ ⟨#[]⟩).data.toList:=by
  show (zk0 a).data.toList=(zk0 b).data.toList
  rw [h]
 rw [h1,h2] at h3
 exact fJ ha hb (by simpa using h3)
end Go.AL
namespace Go.AL
open Go.Proofs Go.Proofs.Tryz
theorem fH {k:Nat} {key:List Vl} {m:Nat} (hm:m<64) {z:List Rw} (hc:CanL z) (hk:zr1 k z) (t:List Vl):(zjH k key m z).map (·.args)=some t↔t.take k=key∧(yH z t).testBit m=true:=by
 have hp:=(iW z).1 hc.1
 constructor
 ·intro h
  cases hr:zjH k key m z with
  |none=>rw [hr] at h;cases h
  |some x=>
   rw [hr] at h
   have h:x.args=t:=by simpa using h
   subst h
   obtain ⟨x1,x2,x3⟩:=zsS hr
   rw [znC hm] at x3
   exact ⟨x2,by rw [zoV hp x1];exact x3⟩
 ·rintro ⟨h1,h2⟩
  have hne:yH z t≠0:=fun e=>by rw [e,Nat.zero_testBit] at h2;cases h2
  obtain ⟨x,hx,rfl,hw⟩:=zn6 hne
  rw [←hw] at h2
  obtain ⟨y,hy⟩:=zuG (k:=k) (key:=key) (m:=(m:Int)) hx h1 (by rw [znC hm];exact h2)
  rw [hy]
  obtain ⟨y1,y2,y3⟩:=zsS hy
  rw [znC hm] at y3
  have:=zt5 hc hk hx y1 (by rw [y2,h1]) h2 y3
  simp [this]
theorem zm6 {α:Type} {a b:Option α} (h: ∀ t,a=some t↔b=some t):a=b:=by
 cases a with
 |none=>cases b with
  |none=>rfl
  |some y=>exact absurd ((h y).2 rfl) (by simp)
 |some x=>exact ((h x).1 rfl).symm
def faT (i:Int) (o:Option (List Vl)):Option Fa:=o.map fun a=>⟨i,a, -1⟩
theorem znF (i:Int) (o:Option Rw):(o.map fun x=>(⟨i,x.args, -1⟩:Fa))=faT i (o.map (·.args)):=by cases o<;>rfl
theorem zf7 {p:Pg} {d:Dt} (hX:DatX p d) {i:Nat} (hi:i<p.preds.length) (hir:i<d.rels.length) (hil:i<d.lats.length) (hb:p.preds[i].base=true) (hof:p.preds[i].of'= -1) {key:List Vl} (hkl:(key.length:Int)=p.preds[i].key) (m:Int):
  ztF p d i key m=faT i ((zjH p.preds[i].key.toNat key m d.rels[i]).map (·.args)):=by
 rw [ztN hX hi hir hil]
 unfold lkQ
 rw [if_neg (fun w=>w.elim (fun w=>by rw [hb] at w;cases w) fun w=>w hkl),if_neg (fun w=>w hof),znF]
theorem zjD {p:Pg} {d:Dt} (hX:DatX p d) {i:Nat} (hi:i<p.preds.length) (hir:i<d.rels.length) (hil:i<d.lats.length) (hb:p.preds[i].base=true) (hof:p.preds[i].of'≠ -1) (hol:p.preds[i].of'.toNat<p.lats.length) {key:List Vl} (hkl:(key.length:Int)=p.preds[i].key) (m:Int):
  ztF p d i key m=if cL p.lats[p.preds[i].of'.toNat] d.lats[i] key m= -1∨cL p.lats[p.preds[i].of'.toNat] d.lats[i] key m=oU p.lats[p.preds[i].of'.toNat] then none else some ⟨i,key,cL p.lats[p.preds[i].of'.toNat] d.lats[i] key m⟩:=by
 rw [ztN hX hi hir hil]
 unfold lkQ
 rw [if_neg (fun w=>w.elim (fun w=>by rw [hb] at w;cases w) fun w=>w hkl),if_pos hof,eD hol]
theorem znT {p:Pg} {d:Dt} (hX:DatX p d) {i:Nat} (hi:i<p.preds.length) (hir:i<d.rels.length) (hil:i<d.lats.length) {key:List Vl} (h:p.preds[i].base=false∨(key.length:Int)≠p.preds[i].key) (m:Int):ztF p d i key m=none:=by
 rw [ztN hX hi hir hil]
 unfold lkQ
 rw [if_pos h]
theorem zbH {l:La} {ty:List Int} {z:List LRw} (h:CelX l ty z) {key:List Vl} (hv: ∀ v∈key,VIn v) (hn: ¬ArgX ty key) {m:Nat} (hm:m<64):cL l z key m=oU l:=by
 unfold cL
 rw [if_pos ⟨by omega,by omega⟩,Int.toNat_natCast,zm8,ziB hm]
 intro q
 unfold vR at q
 obtain ⟨y,hy,e⟩:=List.mem_map.1 q
 rw [kT h.keys] at hy
 obtain ⟨w,hw,rfl⟩:=List.mem_map.1 hy
 have ha:=h.2.1 w hw
 have:w.args=key:=zdH (fun v hv=>(ha.vv v hv).in') hv e
 rw [this] at ha
 exact hn ha
theorem zm3 {l:La} {a b e:Int} {ms:List Int} {m:Nat} (hm:m<64) (he:ze7 l e=true):(yZ l a b e ms).getD m 0=if a≤(m:Int)∧(m:Int)<b then e else ms.getD m 0:=by
 unfold yZ
 rw [if_pos he,tU hm]
theorem gQ {s:Sp} {m:Nat} (hm:m<64):xT s m=decide (s.a≤(m:Int)∧(m:Int)<s.b):=by
 unfold xT
 rw [Bool.eq_iff_iff,decide_eq_true_iff,decide_eq_true_iff]
 exact ⟨fun h=>h.2,fun h=>⟨hm,h⟩⟩
end Go.AL
namespace Go.AL
open Go.Proofs Go.Proofs.Tryz
open Classical in
structure MoK (p:Pg) (d x:Dt) (o:Op1) (i:Nat) (own:List Vl) (m:Nat):Prop where
 tell:o.kind=1→xT o.span m=true→ztF p x i own m=some ⟨i,o.args,o.elem⟩
 forget:o.kind=2→xT o.span m=true→ztF p x i own m=(ztF p d i own m).bind fun f=>if f.args=o.args then none else some f
 rest: ∀ (pred:Int) (key:List Vl),(∀ v∈key,VIn v)→ ¬(pred=i∧key=own∧xT o.span m=true)→ztF p x pred key m=ztF p d pred key m
theorem zc3 {p:Pg} {d:Dt} {pred:Int} {key:List Vl} {m:Int} (h:pred<0∨(p.preds.length:Int)≤pred):ztF p d pred key m=none:=by
 unfold ztF;rw [if_pos (.inr h)]
theorem znW {p:Pg} (hp:p.ok) (hle:p.sm) {d:Dt} (hX:DatX p d) {o:Op1} {i:Nat} (ho:OpX p o i) (he1:(p.preds[i]'ho.hi).of'= -1→o.elem= -1) (he2: ∀ k:(p.preds[i]'ho.hi).of'.toNat<p.lats.length,0≤(p.preds[i]'ho.hi).of'→o.elem≠oU p.lats[(p.preds[i]'ho.hi).of'.toNat]) {m:Nat} (hm:m<64):
  MoK p d (zl0 p d o) o i (o.args.take (p.preds[i]'ho.hi).key.toNat) m:=by
 have hi:=ho.hi
 have hir:i<d.rels.length:=by rw [hX.rl];exact hi
 have hil:i<d.lats.length:=by rw [hX.ll];exact hi
 have hX':=hX.op hp ho
 have hir':i<(zl0 p d o).rels.length:=by rw [hX'.rl];exact hi
 have hil':i<(zl0 p d o).lats.length:=by rw [hX'.ll];exact hi
 have k0:=ho.k0
 have k1:=ho.k1
 have hal:=ho.ax.1
 have hb:=ho.b
 have hown:((o.args.take p.preds[i].key.toNat).length:Int)=p.preds[i].key:=by rw [List.length_take];omega
 have hoth: ∀ (j:Nat) (hj:j<p.preds.length) (hji:j≠i) (key:List Vl) (m:Int),ztF p (zl0 p d o) j key m=ztF p d j key m:=fun j hj hji key m=>by
  have hjr:j<d.rels.length:=by rw [hX.rl];exact hj
  have hjl:j<d.lats.length:=by rw [hX.ll];exact hj
  have hjr':j<(zl0 p d o).rels.length:=by rw [hX'.rl];exact hj
  have hjl':j<(zl0 p d o).lats.length:=by rw [hX'.ll];exact hj
  rw [ztN hX' hj hjr' hjl',ztN hX hj hjr hjl]
  by_cases hof:p.preds[i].of'= -1
  ·have e:=zo7 (d:=d) ho.hoi hi hir hof
   have e1:(zl0 p d o).rels[j]=d.rels[j]:=by simp only [e,List.getElem_set_ne (Ne.symm hji)]
   have e2:(zl0 p d o).lats[j]=d.lats[j]:=by simp only [e]
   rw [e1,e2]
  ·have hol:p.preds[i].of'.toNat<p.lats.length:=by have:=ho.hof;omega
   have e:=zo8 (d:=d) ho.hoi hi hil hof hol
   have e1:(zl0 p d o).rels[j]=d.rels[j]:=by simp only [e]
   have e2:(zl0 p d o).lats[j]=d.lats[j]:=by simp only [e,List.getElem_set_ne (Ne.symm hji)]
   rw [e1,e2]
 have hrest:(∀ key:List Vl,(∀ v∈key,VIn v)→(key.length:Int)=p.preds[i].key→ ¬(key=o.args.take p.preds[i].key.toNat∧xT o.span m=true)→ztF p (zl0 p d o) i key m=ztF p d i key m)→
   ∀ (pred:Int) (key:List Vl),(∀ v∈key,VIn v)→ ¬(pred=i∧key=o.args.take p.preds[i].key.toNat∧xT o.span m=true)→ztF p (zl0 p d o) pred key m=ztF p d pred key m:=fun hs pred key hv hn=>by
  by_cases h1:pred<0∨(p.preds.length:Int)≤pred
  ·rw [zc3 h1,zc3 h1]
  obtain ⟨j,rfl⟩:=Int.eq_ofNat_of_zero_le (show 0≤pred by omega)
  by_cases hji:j=i
  ·subst hji
   by_cases hkl:(key.length:Int)=p.preds[j].key
   ·exact hs key hv hkl fun q=>hn ⟨rfl,q⟩
   ·rw [znT hX' hi hir' hil' (.inr hkl),znT hX hi hir hil (.inr hkl)]
  ·exact hoth j (by omega) hji key m
 by_cases hof:p.preds[i].of'= -1
 ·have e:=zo7 (d:=d) ho.hoi hi hir hof
  have e1:(zl0 p d o).rels[i]=zaL p.preds[i] d.rels[i] o:=by simp only [e,List.getElem_set_self]
  obtain ⟨-,hR,hK⟩:=(hX.at' i hi hir hil).2.2 hb hof
  obtain ⟨-,hR',hK'⟩:=(hX'.at' i hi hir' hil').2.2 hb hof
  have hL:=fun (key:List Vl) (hkl:(key.length:Int)=p.preds[i].key)=>zf7 hX hi hir hil hb hof hkl (m:Int)
  have hL':=fun (key:List Vl) (hkl:(key.length:Int)=p.preds[i].key)=>zf7 hX' hi hir' hil' hb hof hkl (m:Int)
  have hC:=fun key t=>fH (k:=p.preds[i].key.toNat) (key:=key) hm hR.1 hK t
  have hC':=fun key t=>fH (k:=p.preds[i].key.toNat) (key:=key) hm hR'.1 hK' t
  have hbit: ∀ t,(yH (zl0 p d o).rels[i] t).testBit m=if xT o.span m=true then (if o.args=t then decide (o.kind=1) else if o.kind=1∧t.take p.preds[i].key.toNat=o.args.take p.preds[i].key.toNat then false else (yH d.rels[i] t).testBit m) else (yH d.rels[i] t).testBit m:=fun t=>by
   rw [e1,(tD (q:=p.preds[i]) (o:=o) hR.1 ho.s).2 t,sU (zoW _ _)]
  refine ⟨fun hk hh=> ?_,fun hk hh=> ?_,hrest fun key hv hkl hn=> ?_⟩
  ·rw [hL' _ hown,(hC' _ o.args).2 ⟨rfl,by rw [hbit,if_pos hh,if_pos rfl,decide_eq_true hk]⟩]
   show some (⟨i,o.args, -1⟩:Fa)=_
   rw [he1 hof]
  ·rw [hL' _ hown,hL _ hown]
   have hnew: ∀ t,(zjH p.preds[i].key.toNat (o.args.take p.preds[i].key.toNat) m (zl0 p d o).rels[i]).map (·.args)=some t↔(zjH p.preds[i].key.toNat (o.args.take p.preds[i].key.toNat) m d.rels[i]).map (·.args)=some t∧t≠o.args:=fun t=>by
    rw [hC',hC,hbit,if_pos hh]
    by_cases q:o.args=t
    ·rw [if_pos q,decide_eq_false (by omega)]
     exact ⟨fun w=>Bool.noConfusion w.2,fun w=>absurd q.symm w.2⟩
    ·rw [if_neg q,if_neg (fun w=>by omega)]
     exact ⟨fun w=>⟨w,fun e=>q e.symm⟩,fun w=>w.1⟩
   generalize (zjH p.preds[i].key.toNat (o.args.take p.preds[i].key.toNat) m (zl0 p d o).rels[i]).map (·.args)=a at*
   generalize (zjH p.preds[i].key.toNat (o.args.take p.preds[i].key.toNat) m d.rels[i]).map (·.args)=b at*
   cases b with
   |none=>
    cases a with
    |none=>rfl
    |some t=>exact absurd ((hnew t).1 rfl).1 (by simp)
   | some t=>
    show faT i a=if t=o.args then none else some ⟨i,t, -1⟩
    by_cases q:t=o.args
    ·rw [if_pos q]
     cases a with
     |none=>rfl
     |some s=>
      obtain ⟨w1,w2⟩:=(hnew s).1 rfl
      injection w1 with w1
      exact absurd (w1.symm.trans q) w2
    ·rw [if_neg q,(hnew t).2 ⟨rfl,q⟩];rfl
  ·rw [hL' _ hkl,hL _ hkl]
   congr 1
   refine zm6 fun t=> ?_
   rw [hC',hC,hbit]
   by_cases hh:xT o.span m=true
   ·rw [if_pos hh]
    have hko:key≠o.args.take p.preds[i].key.toNat:=fun q=>hn ⟨q,hh⟩
    constructor
    ·rintro ⟨w1,w2⟩
     rw [if_neg (fun q=>hko (by rw [←w1, ←q])),if_neg (fun q=>hko (by rw [←w1,q.2]))] at w2
     exact ⟨w1,w2⟩
    ·rintro ⟨w1,w2⟩
     rw [if_neg (fun q=>hko (by rw [←w1, ←q])),if_neg (fun q=>hko (by rw [←w1,q.2]))]
     exact ⟨w1,w2⟩
   ·rw [if_neg hh]
 ·have hol:p.preds[i].of'.toNat<p.lats.length:=by have:=ho.hof;omega
  have h0o:0≤p.preds[i].of':=by have:=ho.hof;omega
  have e:=zo8 (d:=d) ho.hoi hi hil hof hol
  have e1:(zl0 p d o).lats[i]=zcQ p.lats[p.preds[i].of'.toNat] d.lats[i] o:=by simp only [e,List.getElem_set_self]
  have hc:=((hX.at' i hi hir hil).2.1 hb hof).2 hol
  have hc':=((hX'.at' i hi hir' hil').2.1 hb hof).2 hol
  have hkt:o.args.take p.preds[i].key.toNat=o.args:=List.take_of_length_le (by have:=zsQ p hp hle hX.tv _ (List.getElem_mem hi) hof;omega)
  have hL:=fun (key:List Vl) (hkl:(key.length:Int)=p.preds[i].key)=>zjD hX hi hir hil hb hof hol hkl (m:Int)
  have hL':=fun (key:List Vl) (hkl:(key.length:Int)=p.preds[i].key)=>zjD hX' hi hir' hil' hb hof hol hkl (m:Int)
  have hlo:=hp.l _ (List.getElem_mem hol)
  have hbe:=zuK hlo hc.1
  have hel:=ho.el hol h0o
  have hen:=he2 hol h0o
  rw [hkt] at hown hrest ⊢
  have hax:=ho.ax
  obtain ⟨v,hv⟩: ∃ v,(if o.kind=1 then o.elem else oU p.lats[p.preds[i].of'.toNat])=v:=⟨_,rfl⟩
  have hvB:ze7 p.lats[p.preds[i].of'.toNat] v=true:=by rw [←hv];split;exact hel;exact hbe
  have hvG:ze9 p.lats[p.preds[i].of'.toNat] v:=zp4 hlo hc.1 hvB
  have hsp:=yK hc hax o.span.a o.span.b hvG
  have e2:(zl0 p d o).lats[i]=aV p.lats[p.preds[i].of'.toNat] d.lats[i] o.args o.span.a o.span.b v:=by rw [e1, ←hv];rfl
  have hG: ∀ key,ArgX p.preds[i].types key→cL p.lats[p.preds[i].of'.toNat] (zl0 p d o).lats[i] key m=if key=o.args∧xT o.span m=true then v else cL p.lats[p.preds[i].of'.toNat] d.lats[i] key m:=fun key hk=>by
   rw [ztL hc' hk hm,ztL hc hk hm,e2,hsp.2 key]
   by_cases q:key=o.args
   ·rw [if_pos q,zm3 hm hvB]
    by_cases hh:xT o.span m=true
    ·rw [if_pos (show key=o.args∧xT o.span m=true from ⟨q,hh⟩),if_pos (show o.span.a≤(m:Int)∧(m:Int)<o.span.b by rw [gQ hm] at hh;simpa using hh)]
    ·rw [if_neg (fun w:key=o.args∧xT o.span m=true=>hh w.2),if_neg (fun w:o.span.a≤(m:Int)∧(m:Int)<o.span.b=>hh (by rw [gQ hm];simpa using w)),q]
   ·rw [if_neg q,if_neg (fun w=>q w.1)]
  refine ⟨fun hk hh=> ?_,fun hk hh=> ?_,hrest fun key hv' hkl hn=> ?_⟩
  ·rw [hL' _ hown,hG _ hax,if_pos (show o.args=o.args∧xT o.span m=true from ⟨rfl,hh⟩), ←hv,if_pos hk,if_neg]
   rintro (q|q)
   ·unfold ze7 at hel
    have:=of_decide_eq_true hel
    omega
   ·exact hen q
  ·rw [hL' _ hown,hG _ hax,if_pos (show o.args=o.args∧xT o.span m=true from ⟨rfl,hh⟩), ←hv,if_neg (show ¬o.kind=1 by omega),if_pos (.inr rfl),hL _ hown]
   split
   ·rfl
   ·show none=if o.args=o.args then none else _
    rw [if_pos rfl]
  ·rw [hL' _ hkl,hL _ hkl]
   by_cases q:ArgX p.preds[i].types key
   ·rw [hG _ q,if_neg hn]
   ·rw [zbH hc' hv' q hm,zbH hc hv' q hm]
end Go.AL
