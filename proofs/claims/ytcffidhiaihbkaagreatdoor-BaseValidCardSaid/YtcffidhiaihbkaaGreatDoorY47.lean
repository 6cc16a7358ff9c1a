/-
  Base data: the fact of a key at a moment, to the letter.
-/
import Derived.Test.YtcffidhiaihbkaaGreatDoorY44
set_option linter.unusedSimpArgs false
set_option linter.unusedVariables false
set_option maxRecDepth 100000
set_option maxHeartbeats 4000000
namespace Go.AL
open Go.Proofs Go.Proofs.Tryz
noncomputable def zhD (bt:Int):Tbl→BA→List Int
 | [],_=>List.replicate 64 bt
 |x::T,k=>open Classical in if zk0 x.1=k then x.2 else zhD bt T k
theorem zm8 {bt:Int} {k:BA}: ∀ {T:Tbl},k∉vR T→zhD bt T k=List.replicate 64 bt
 | [],_=>rfl
 |x::T,h=>by
  unfold vR at h
  rw [List.map_cons,List.mem_cons,not_or] at h
  unfold zhD
  rw [if_neg fun e=>h.1 e.symm]
  exact zm8 h.2
theorem ztC {bt:Int}: ∀ {T:Tbl},(vR T).Nodup→ ∀ {x:List Vl×List Int},x∈T→zhD bt T (zk0 x.1)=x.2
 | y::T,hn,x,hx=>by
  unfold vR at hn
  rw [List.map_cons,List.nodup_cons] at hn
  unfold zhD
  rcases List.mem_cons.1 hx with rfl|hx
  ·rw [if_pos rfl]
  ·rw [if_neg fun e=>hn.1 (by rw [e];exact List.mem_map_of_mem (f:=fun x:List Vl×List Int=>zk0 x.1) hx)]
   exact ztC hn.2 hx
theorem ztK {bt:Int} {T:Tbl} (h:TabW T) {args:List Vl} {x:List Vl×List Int} (hx:x∈uZ bt T args) (hk:zk0 x.1=zk0 args):x.2=zhD bt T (zk0 args):=by
 unfold uZ at hx
 split at hx
 ·rw [←hk,ztC h.1 hx]
 ·rename_i hn
  rw [zm8 hn]
  rcases List.mem_append.1 hx with hx|hx
  ·exact absurd (by rw [←hk];exact List.mem_map_of_mem (f:=fun x:List Vl×List Int=>zk0 x.1) hx) hn
  ·rw [List.mem_singleton] at hx;subst hx;rfl
noncomputable def cL (l:La) (z:List LRw) (args:List Vl) (m:Int):Int:=if 0≤m∧m<64 then (zhD (oU l) (xU l z) (zk0 args)).getD m.toNat 0 else -1
theorem zuT (l:La) (hl:l.ok) (hc:uE l=0) (rs:List LRw) (hrs:rs.length≤1099511627776) (hr: ∀ x∈rs,x.ok) (args:List Vl) (ha:args.length≤1048576) (hs: ∀ a∈args,a.s.size≤1048576) (m:Int):
  EPure prog G0 43 [.agg l.c,vD rs,pH args,i64 m] fun p=>p=i64 (cL l rs args m):=by
 refine ECall.cut (R:=fun p _=>p=i64 (cL l rs args m)) (pv func43 30 false (by kernel_rfl) rfl rfl ?_) (by rintro p h rfl;rfl)
 refine g2 ?_
 by_cases h1:0≤m
 case neg=>
  have e1:decide (m<0)=true:=by simp;omega
  have e2:cL l rs args m= -1:=by unfold cL;rw [if_neg (by omega)]
  rw [e2]
  refine gf @e1 ?_
  rfl
 have e1:decide (m<0)=false:=by simp;omega
 by_cases h2:m<64
 case neg=>
  have e3:decide (64≤m)=true:=by simp;omega
  have e2:cL l rs args m= -1:=by unfold cL;rw [if_neg (by omega)]
  rw [e2]
  refine gf (a2 @e1 @e3) ?_
  rfl
 have e3:decide (64≤m)=false:=by simp;omega
 obtain ⟨k,rfl⟩:=Int.eq_ofNat_of_zero_le h1
 have hk:k<64:=by omega
 have e2:cL l rs args (k:Int)=(zhD (oU l) (xU l rs) (zk0 args)).getD k 0:=by unfold cL;rw [if_pos ⟨h1,h2⟩,Int.toNat_natCast]
 rw [e2]
 refine gf (a2 @e1 @e3) ?_
 (refine g1f (a2 @e1 @e3) ?_;refine zC ((zn7 l hl).call zK (by simp [zJ]) _) ?_;intro p2 h2 hr2;refine g2 ?_)
 obtain ⟨rfl,rfl⟩:=hr2
 rw [beq_iff_eq.2 hc]
 refine ge ?_
 (refine g1 ?_;refine zC (zqF l hl rs hrs hr _) ?_;intro p2 h2 hr2;refine g2 ?_)
 obtain ⟨tb,m1,m2,es,M,rfl,hX,hK,hn,hTab⟩:=hr2
 refine ge ?_
 (refine g1 ?_;refine zC (zqJ l hl tb m1 m2 es M _ hX (by omega) args ha hs) ?_;intro p2 h2 hr2;refine g2 ?_)
 obtain ⟨r,es',M2,rfl,hX',hL,hK',hn',hTab'⟩:=hr2
 obtain ⟨e0,he0,hr00,hk0⟩:=hL
 obtain ⟨hms0,hr0⟩:=hX'.m e0 he0
 have hok:=(hX'.tb.k e0 he0).2.2
 rw [hr00] at hms0 hr0
 have hline:M2 r=zhD (oU l) (xU l rs) (zk0 args):=by
  rw [hTab] at hTab'
  have hm:(e0.a,M2 e0.r)∈uZ (oU l) (xU l rs) args:=by
   rw [←hTab'];exact List.mem_map_of_mem (f:=fun e:En=>(e.a,M2 e.r)) he0
  rw [←hr00]
  exact ztK (ziO l rs) hm (by dsimp only;rw [←hok,hk0])
 rw [←hline]
 generalize M2 r=ms at*
 have hkm:k<ms.length:=by omega
 have hk6:((k:Int)<64)=True:=by simp;omega
 have hd:=yU i64 ms k .un hkm
 have hg:ms.getD k 0=ms[k]:=by rw [List.getD_eq_getElem?_getD,List.getElem?_eq_getElem hkm];rfl
 rw [hg]
 refine gf (a5 @hr0 @hd @hk6 @hms0 @zB) ?_
 rfl
end Go.AL
namespace Go.AL
open Go.Proofs Go.Proofs.Tryz
@[go_sem] def ULook2f15.pl:Nat→DPlan
 |8=>⟨[yB,yA,yB,yA,yA,yB,yA,yA,yC,yA],xS,0⟩
 |_=>⟨[],[],0⟩
def zjH (k:Nat) (key:List Vl) (m:Int):List Rw→Option Rw
 | []=>none
 |x::l=>if decide (x.args.take k=key)&&fL x.w m then some x else zjH k key m l
noncomputable def lkQ (p:Pg) (q:Pd) (y:List Rw) (z:List LRw) (pred:Int) (key:List Vl) (m:Int):Option Fa:=
 if q.base=false∨(key.length:Int)≠q.key then none
 else if q.of'≠ -1 then
  if cL (p.lats.getD q.of'.toNat zuV) z key m= -1∨cL (p.lats.getD q.of'.toNat zuV) z key m=oU (p.lats.getD q.of'.toNat zuV) then none
  else some ⟨pred,key,cL (p.lats.getD q.of'.toNat zuV) z key m⟩
 else (zjH q.key.toNat key m y).map fun x=>⟨pred,x.args, -1⟩
noncomputable def ztF (p:Pg) (d:Dt) (pred:Int) (key:List Vl) (m:Int):Option Fa:=
 if ze8 (DatX p d)=false∨pred<0∨(p.preds.length:Int)≤pred then none
 else lkQ p (p.preds.getD pred.toNat zuW) (d.rels.getD pred.toNat []) (d.lats.getD pred.toNat []) pred key m
theorem ztN {p:Pg} {d:Dt} (hX:DatX p d) {i:Nat} (hi:i<p.preds.length) (hir:i<d.rels.length) (hil:i<d.lats.length) (key:List Vl) (m:Int):ztF p d i key m=lkQ p p.preds[i] d.rels[i] d.lats[i] i key m:=by
 unfold ztF
 rw [if_neg (fun w=>w.elim (fun w=>by rw [pO hX] at w;cases w) fun w=>by omega),Int.toNat_natCast,eD hi,eD hir,eD hil]
def faV:Option Fa→PV
 |none=> .tup [.agg (Fa.c ⟨0,[],0⟩),bo false]
 |some f=> .tup [.agg f.c,bo true]
theorem ztE (o:Option Fa):zU 40 (faV o)=true:=by
 cases o with
 |none=>rfl
 | some f=>
  have h1:zU 38 (pH f.args)=true:=all_map fun _=>rfl
  have h2:zU 39 (.agg f.c)=true:=by
   show ([i64 f.pred,pH f.args,i64 f.elem].all (zU 38))=true
   rw [List.all_cons,List.all_cons,h1];rfl
  show ([.agg f.c,bo true].all (zU 39))=true
  rw [List.all_cons,h2];rfl
theorem zqG {k:Nat} {key:List Vl} {m:Int}: ∀ {l:List Rw},(∀ (j:Nat) (h:j<l.length),(decide (l[j].args.take k=key)&&fL l[j].w m)=false)→zjH k key m l=none
 | [],_=>rfl
 |x::l,h=>by
  have h0:=h 0 (by simp)
  unfold zjH
  rw [if_neg (by rw [show (x::l)[0]=x from rfl] at h0;rw [h0];decide)]
  exact zqG fun j hj=>h (j+1) (by simpa using hj)
theorem ztQ {k:Nat} {key:List Vl} {m:Int}: ∀ {l:List Rw} {i:Nat} (hi:i<l.length),(∀ (j:Nat) (h:j<l.length),j<i→(decide (l[j].args.take k=key)&&fL l[j].w m)=false)→(decide (l[i].args.take k=key)&&fL l[i].w m)=true→zjH k key m l=some l[i]
 |x::l,0,_,_,h=>by
  have h0:(decide (x.args.take k=key)&&fL x.w m)=true:=h
  unfold zjH
  rw [if_pos h0];rfl
 |x::l,i+1,hi,h,q=>by
  have h0:=h 0 (by simp) (by omega)
  unfold zjH
  rw [if_neg (by rw [show (x::l)[0]=x from rfl] at h0;rw [h0];decide)]
  exact ztQ (by simpa using hi) (fun j hj hji=>h (j+1) (by simpa using hj) (by omega)) q
theorem znC {l:List Sp} {m:Nat} (hm:m<64):fL l (m:Int)=(uQ l).testBit m:=by
 unfold fL
 rw [decide_eq_true (Int.natCast_nonneg m),decide_eq_true (show (m:Int)<64 by omega),Int.toNat_natCast];rfl
theorem zr8 {k:Nat} {key:List Vl} {m:Int}: ∀ {l:List Rw},zjH k key m l=none→ ∀ x∈l,x.args.take k=key→fL x.w m=false
 | y::l,h,x,hx,hk=>by
  unfold zjH at h
  by_cases q:(decide (y.args.take k=key)&&fL y.w m)=true
  ·rw [if_pos q] at h;cases h
  ·rw [if_neg q] at h
   rcases List.mem_cons.1 hx with rfl|hx
   ·rw [decide_eq_true hk,Bool.true_and] at q
    exact Bool.eq_false_iff.2 q
   ·exact zr8 h x hx hk
open ULook2f15 in
theorem ztB (p:Pg) (hp:p.ok) (hle:p.sm) (d:Dt) (hd:d.sz) (pred:Int) (key:List Vl) (hkl:key.length≤1048576) (hks:(p.preds.getD pred.toNat zuW).of'= -1∨ ∀ a∈key,a.s.size≤1048576) (m:Int):
  EPure prog G0 15 [.agg p.c,.agg d.c,i64 pred,pH key,i64 m] fun v=>v=faV (ztF p d pred key m):=by
 refine ECall.cutW (R:=fun v _=>(ztF p d pred key m=none∧v= .tup [.agg [i64 0,.nil,i64 0],bo false])∨v=faV (ztF p d pred key m)) (pv func15 111 false (by kernel_rfl) rfl rfl ?_) ?_
 refine g2 ?_
 ·refine ge ?_
  (refine g1 ?_;refine zC ((zeD p hp hle d hd).call zK (by simp [zJ]) _) ?_;intro p2 h2 hr2;refine g2 ?_)
  obtain ⟨rfl,rfl⟩:=hr2
  cases hb:ze8 (DatX p d) with
  |false=>
   have hE:ztF p d pred key m=none:=by unfold ztF;rw [if_pos (.inl hb)]
   refine ge ?_
   exact .inl ⟨hE,rfl⟩
  | true=>
   have hX:=zoX.1 hb
   obtain ⟨hpl,htp⟩:=znP hp hle hX.tv
   by_cases h1:pred<0
   ·have e1:decide (pred<0)=true:=by simp [h1]
    have hE:ztF p d pred key m=none:=by unfold ztF;rw [if_pos (.inr (.inl h1))]
    refine gf @e1 ?_
    exact .inl ⟨hE,rfl⟩
   have e1:decide (pred<0)=false:=by simp [h1]
   by_cases h2:(p.preds.length:Int)≤pred
   ·have e2:decide ((p.preds.length:Int)≤pred)=true:=by simp [h2]
    have hE:ztF p d pred key m=none:=by unfold ztF;rw [if_pos (.inr (.inr h2))]
    refine gf (a2 @e1 @e2) ?_
    exact .inl ⟨hE,rfl⟩
   have e2:decide ((p.preds.length:Int)≤pred)=false:=by simp [h2]
   obtain ⟨i,rfl⟩:=Int.eq_ofNat_of_zero_le (Int.not_lt.1 h1)
   have hi:i<p.preds.length:=by omega
   have hir:i<d.rels.length:=by rw [hX.rl];exact hi
   have hil:i<d.lats.length:=by rw [hX.ll];exact hi
   have hx:=zG (f:=Pd.c) [] hi
   have hy:=zG (f:=fun r=>[uN r]) [] hir
   have hz:=zG (f:=fun r=>[vD r]) [] hil
   have hat:=hX.at' i hi hir hil
   have hxt:=htp _ (List.getElem_mem hi)
   have hck:=((ze0 p hp hle).2 hX.tv).2.2
   have hkk:=(((ze0 p hp hle).2 hX.tv).1.p _ (List.getElem_mem hi))
   have hys:=hd.r _ (List.getElem_mem hir)
   have hzs:=hd.l _ (List.getElem_mem hil)
   have hE:=ztN hX hi hir hil key m
   unfold lkQ at hE
   rw [Int.toNat_natCast,eD hi] at hks
   have e2:(p.preds.length≤i)=False:=eq_false (by omega)
   generalize p.preds[i]=x at*
   generalize d.rels[i]=y at*
   generalize d.lats[i]=z at*
   obtain ⟨hy1,hy2⟩:=hys
   obtain ⟨hz1,hz2⟩:=hzs
   obtain ⟨xname,xtypes,xlat,xof,xbase,xkey,xat⟩:=x
   obtain ⟨_w1,w2,w3⟩:=hat
   obtain ⟨k0,k1,k2, -⟩:=hkk
   dsimp only at*
   have h3T:(3:Nat)<4:=by decide
   cases xbase with
   |false=>
    rw [if_pos (.inl rfl)] at hE
    refine gf (a5 @e1 @e2 @hi @hx @zB) ?_
    exact .inl ⟨hE,rfl⟩
   | true=>
    by_cases h3:(key.length:Int)=xkey
    case neg=>
     have e3:((key.length:Int)!=xkey)=true:=by simp [h3]
     rw [if_pos (.inr h3)] at hE
     refine gf (a6 @e1 @e2 @hi @hx @zB @e3) ?_
     exact .inl ⟨hE,rfl⟩
    have e3:((key.length:Int)!=xkey)=false:=by simp [h3]
    rw [if_neg (fun w=>w.elim (fun w=>Bool.noConfusion w) fun w=>w h3)] at hE
    refine gf (a6 @e1 @e2 @hi @hx @zB @e3) ?_
    (refine g1 ?_;refine zC ((lR ⟨xname,xtypes,xlat,xof,true,xkey,xat⟩).call zK (by simp [zJ]) _) ?_;intro p2 h2 hr2;refine g2 ?_)
    obtain ⟨⟨b,rfl,hbo⟩,rfl⟩:=hr2
    dsimp only at hbo
    cases b with
    | true=>
     have ho:xof≠ -1:=by simpa using hbo.symm
     have hol:xof.toNat<p.lats.length:=by omega
     have hq:=zG (f:=La.c) [] hol
     have hlo:=hp.l _ (List.getElem_mem hol)
     have mM:=hck _ (List.getElem_mem hol)
     obtain ⟨-,hc⟩:=w2 rfl ho
     have hc:=hc hol
     rw [if_pos ho,eD hol] at hE
     have hks:=hks.resolve_left ho
     have h0o:0≤xof:=by omega
     have hot:(0≤xof)=True:=eq_true h0o
     have hlt:(xof<(p.lats.length:Int))=True:=eq_true (by omega)
     generalize p.lats[xof.toNat]=lt at*
     refine gf (a8 @hi @hil @hz @zB @hot @hlt @hol @hq) ?_
     (refine zF rfl rfl rfl ?_;intro zs zh;simp only [go_sem,hi,hil,hz,zB] at zh;subst zh;refine zP (by decide) (by decide) ((zuT lt hlo mM z (by omega) (hc.oks hxt.1) key hkl hks m).call zK (by simp [zJ]) _) ?_;intro p2 h2 hr2 ts2 hts;simp only [go_sem] at hts;subst hts)
     obtain ⟨rfl,rfl⟩:=hr2
     generalize cL lt z key m=e at*
     have hbT:=(zj7 lt hlo).call zK (by simp [zJ])
     generalize oU lt=bt at*
     have none1: ∀ (q:e= -1∨e=bt),ztF p d i key m=none:=fun q=>by rw [hE,if_pos q]
     by_cases h4:e= -1
     ·have e4:(e== -1)=true:=by simp [h4]
      refine gf @e4 ?_
      exact .inl ⟨none1 (.inl h4),rfl⟩
     have e4:(e== -1)=false:=by simp [h4]
     refine gf @e4 ?_
     (refine g1f @e4 ?_;refine zC (hbT _) ?_;intro p2 h2 hr2;refine g2 ?_)
     obtain ⟨rfl,rfl⟩:=hr2
     by_cases h5:e=bt
     ·have e5:(e==bt)=true:=by simp [h5]
      refine gf @e5 ?_
      exact .inl ⟨none1 (.inr h5),rfl⟩
     have e5:(e==bt)=false:=by simp [h5]
     rw [if_neg (fun w=>w.elim h4 h5)] at hE
     refine gf @e5 ?_
     (refine g1 ?_;refine zC ((iK key (by omega) (all_map fun _=>rfl)).call zK (by simp) _) ?_;intro p2 h2 hr2;refine g2 ?_)
     obtain ⟨rfl,rfl⟩:=hr2
     refine ge ?_
     exact .inr (by rw [hE];rfl)
    | false=>
     have ho:xof= -1:=by simpa using hbo.symm
     obtain ⟨-,hR, -⟩:=w3 rfl ho
     rw [if_neg (fun w=>w ho)] at hE
     obtain ⟨k,rfl⟩:=Int.eq_ofNat_of_zero_le k0
     rw [Int.toNat_natCast] at hE
     have hyl:=hR.ls hxt.1
     refine gf (a4 @hi @hir @hy @zB) ?_
     refine zO y.length (K9 (.k:: .k:: .d::K4 (.d::K9 (K9 (K9 (K9 (K9 (K9 (K9 (K4 (K4 (.v::D9 (D9 (.d:: .d:: .d:: .k::[])))))))))))))) (own:=false) (fun i (_:Heap)=>[i64 i]) (fun J=> .var 27 p.c:: .var 31 d.c:: .var 34 [i64 0,.nil,i64 0]:: .var 59 [yQ xname,vF xtypes,yQ xlat,i64 xof,bo true,i64 k,i64 xat]::J) (fun i _=> ∀ (j:Nat) (h:j<y.length),j<i→(decide (y[j].args.take k=key)&&fL y[j].w m)=false) [] rfl rfl (fun j _ hj=>absurd hj (Nat.not_lt_zero _)) (by omega) ?_ ?_
     ·rintro J hI
      refine gm ?_
      rw [zqG fun j h=>hI j h h] at hE
      refine gf @zM ?_
      exact .inl ⟨hE,rfl⟩
     ·rintro j J hj hw hI
      refine gm ?_
      have hyj:=zG (f:=Rw.c) [] hj
      obtain ⟨hal,hls⟩:=hyl _ (List.getElem_mem hj)
      have up:=zg2 (P:=fun r:Rw=>(decide (r.args.take k=key)&&fL r.w m)=false) hj hI
      have at1:=ztQ (m:=m) (key:=key) hj hI
      have hrw:=hy2 _ (List.getElem_mem hj)
      generalize y[j]=r at*
      have hkr:k≤r.args.length:=by omega
      have hkr2:((k:Int)≤(r.args.length:Int))=True:=eq_true (by omega)
      have hral:=hrw.al
      have hrww:=hrw.w
      have heq:=(zjE (r.args.take k) key (by rw [List.length_take];omega)).call zK (by simp)
      have hhas:=(has_x r.w (by omega) m).call zK (by simp)
      have hj3:(3<J.length+1+1+1+1)=True:=by simp
      (repeat (first|refine gz ?_|(refine gn ?_;intro zs zh;(try simp only [go_sem,hj,hyj,zB,hw,zA,zD,hkr,hkr2,xO,hj3] at zh);subst zh;refine gv ?_)|refine yD ULook2f15.pl ?_))
      (refine ns ?_;intro zs zh;simp only [go_sem,hj,hyj,zB,hw,zA,zD,hkr,hkr2,xO,hj3] at zh;subst zh;refine zC (heq _) ?_;intro p2 h2 hr2 ts2 hts;simp only [go_sem] at hts;subst hts)
      obtain ⟨rfl,rfl⟩:=hr2
      by_cases hq:r.args.take k=key
      case neg=>
       have hd:decide (r.args.take k=key)=false:=by simp [hq]
       have up:=up (by rw [hd];rfl)
       rw [hd]
       refine gf (a7 @hj @hyj @zB @hw @zA @zD @hj3) ?_
       exact ⟨_,up,rfl,rfl,rfl⟩
      have hd:decide (r.args.take k=key)=true:=by simp [hq]
      rw [hd] at up at1 ⊢
      refine gf (a7 @hj @hyj @zB @hw @zA @zD @hj3) ?_
      (refine g1f (a7 @hj @hyj @zB @hw @zA @zD @hj3) ?_;refine zC (hhas _) ?_;intro p2 h2 hr2;refine g2 ?_)
      obtain ⟨rfl,rfl⟩:=hr2
      cases hh:fL r.w m with
      |false=>
       have up:=up (by rw [hh];rfl)
       refine gf (a7 @hj @hyj @zB @hw @zA @zD @hj3) ?_
       exact ⟨_,up,rfl,rfl,rfl⟩
      |true=>
       rw [at1 (by rw [hh];rfl)] at hE
       refine gf (a7 @hj @hyj @zB @hw @zA @zD @hj3) ?_
       exact .inr (by rw [hE];rfl)
 ·rintro v h (⟨hE,rfl⟩|rfl)
  ·rw [hE]
   exact ⟨faV none,by rw [vE 0 h 40 _ rfl];exact PLes.tup (.cons (PLes.agg (.cons (PLe.refl _) (.cons (PLe.nil_ts 3) (.cons (PLe.refl _) .nil)))) (.cons (PLe.refl _) .nil)),rfl,yP 40 _ rfl⟩
  ·exact ⟨_,by rw [vE 0 h 40 _ (ztE _)];exact PLe.refl _,rfl,yP 40 _ (ztE _)⟩
end Go.AL
