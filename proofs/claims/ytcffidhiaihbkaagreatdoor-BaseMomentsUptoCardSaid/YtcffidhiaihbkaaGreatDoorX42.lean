/-
  The walk as a program, with a table of calls whose outcome is known.
-/
import Derived.Test.YtcffidhiaihbkaaGreatDoorX41
set_option linter.unusedSimpArgs false
set_option linter.unusedVariables false
set_option maxRecDepth 100000
set_option maxHeartbeats 4000000
namespace Go.AL
open Go.Proofs Go.Proofs.Tryz
@[go_sem] def UApxf11.pl:Nat→DPlan
 |12=>⟨[yA,yE,⟨6,0,[1004,0]⟩,yA,⟨7,0,[1004]⟩,rK,yA,vC,yC],uW,1⟩
 |16=>⟨[⟨6,0,[1013,1003,1013]⟩,yA,⟨7,0,[1013]⟩,yB,⟨7,0,[1003]⟩,⟨7,0,[1013]⟩,yC],tV,0⟩
 |21=>⟨[yA,yB,yA,yA,yB,yA,yA,yB,yA,yA,yB,yA,yA,yA],wS,0⟩
 |_=>⟨[],[],0⟩
theorem ziP (f:Nat) (r:List LRw):zU (f+4) (vD r)=true:=by
 simp only [zU,List.all_map,List.all_eq_true,Function.comp_apply]
 intro x _ p hp
 simp only [LRw.c,List.mem_cons,List.not_mem_nil,or_false] at hp
 rcases hp with rfl|rfl
 ·exact eJ (f+1) x.args
 ·simp [zU,List.all_map]
attribute [-go_sem] only
open UApxf11 in
theorem zrH (p:Pg) (hp:p.ok) (hle:p.sm) (d:Dt) (hd:d.sz) (ops:List Op1) (ho:OpsG ops):
  EPure prog G0 11 [.agg p.c,.agg d.c,lJ ops] fun v=>v= .tup [.agg (zk4 p d ops).1.c,i64 (zk4 p d ops).2]:=by
 refine ECall.cutW (R:=fun v h=>(∃ e:Int,v= .tup [.agg [.nil,.nil],i64 e]∧zk4 p d ops=(znO,e))∨ ∃ (d':Dt) (V:PV),v= .tup [V,i64 0]∧zk4 p d ops=(d',0)∧(V= .agg d'.c∨ ∃ q1 q2,V= .agg [.ms q1 0 1 d'.rels.length,.ms q2 0 1 d'.lats.length]∧h[q1]? =some (.var 63 (d'.rels.map uN))∧h[q2]? =some (.var 89 (d'.lats.map vD)))) (pv func11 82 false (by kernel_rfl) rfl rfl ?_) ?_
 refine g2 ?_
 ·refine ge ?_
  (refine g1 ?_;refine zC ((zeD p hp hle d hd).call zK (by simp [zJ]) _) ?_;intro p2 h2 hr2;refine g2 ?_)
  obtain ⟨rfl,rfl⟩:=hr2
  cases hb:ze8 (DatX p d) with
  |false=>
   refine ge ?_
   exact .inl ⟨_,rfl,by unfold zk4;rw [if_pos hb]⟩
  | true =>
   have hV:=zoX.1 hb
   have hbt: ¬ze8 (DatX p d)=false:=by rw [hb];decide
   obtain ⟨hpl,htp⟩:=znP hp hle hV.tv
   by_cases hl:60<ops.length
   ·have e1:decide ((60:Int)<(ops.length:Int))=true:=by simp;omega
    refine gf @e1 ?_
    exact .inl ⟨_,rfl,by unfold zk4;rw [if_neg hbt,if_pos hl]⟩
   ·have e1:decide ((60:Int)<(ops.length:Int))=false:=by simp;omega
    have hl60:ops.length≤60:=by omega
    refine gf @e1 ?_
    refine zO ops.length (K4 (.k:: .k:: .k:: .d:: .k:: .d:: .d::K9 (K4 (.k:: .k:: .v::D9 (.d:: .d::K9 (K9 (K9 (K9 (K4 (K4 ([]))))))))))) (own:=false) (fun i (_:Heap)=>[i64 i]) (fun J=> .var 27 p.c:: .var 31 d.c:: .var 31 [.nil,.nil]::J) (fun i J=>(∀ b∈J, ∃ x:Op1,b= .var 38 x.c)∧ ∀ (j:Nat) (h:j<ops.length),j<i→zoM p ops[j]=0) [] rfl rfl ⟨by simp,fun j _ hj=>absurd hj (Nat.not_lt_zero _)⟩ (by omega) ?_ ?_
    ·rintro J ⟨hJ,hI⟩
     refine gm ?_
     have hI': ∀ (j:Nat) (h:j<ops.length), ∃ k,OpX p ops[j] k:=fun j h=>((zoK p hp hle _ (ho.o _ (List.getElem_mem h))).2 (hI j h h)).op
     have hI2: ∀ o∈ops, ∃ k,OpX p o k:=fun o ho=>by obtain ⟨j,hj,rfl⟩:=List.getElem_of_mem ho;exact hI' j hj
     have hE0:uD p ops=0:=bS fun j h=>hI j h h
     have apE: ∀ d',ops.foldl (zl0 p) d=d'→zk4 p d ops=if zj6 d'=true then (znO,2) else (d',0):=fun d' e=>by
      unfold zk4;rw [if_neg hbt,if_neg hl,if_neg (by rw [hE0];exact fun k=>k rfl),e]
     refine gf @zM ?_
     have hpT:Tree (.agg p.c):=by simp [zJ]
     have hdT:Tree (.agg d.c):=by simp [zJ]
     have hav: ∀ (s:Nat), ∀ b∈(Blk.var 27 p.c::Blk.var 31 d.c::Blk.var 31 [.nil,.nil]::(J++[.non])),AvB [s] b:=fun s b hb=>by
      simp only [List.mem_cons,List.mem_append,List.not_mem_nil,or_false] at hb
      rcases hb with rfl|rfl|rfl|hb|rfl
      ·exact fun q hq=>Av.of_tree ((zJ.1 hpT) q hq)
      ·exact fun q hq=>Av.of_tree ((zJ.1 hdT) q hq)
      ·intro q hq;simp only [List.mem_cons,List.not_mem_nil,or_false,or_self] at hq;subst hq;exact .nil
      ·obtain ⟨x,rfl⟩:=hJ b hb
       have hxT:Tree (.agg x.c):=by simp [zJ]
       exact fun q hq=>Av.of_tree ((zJ.1 hxT) q hq)
      ·trivial
     by_cases hn:0<p.preds.length
     case neg=>
      have hn0:p.preds.length=0:=by omega
      have hr0:d.rels=[]:=List.eq_nil_of_length_eq_zero (by rw [hV.rl];exact hn0)
      have hl0:d.lats=[]:=List.eq_nil_of_length_eq_zero (by rw [hV.ll];exact hn0)
      have ho0:ops.length=0:=by
       rcases Nat.eq_zero_or_pos ops.length with h|h
       ·exact h
       ·obtain ⟨k,hk⟩:=hI' 0 h;have:=hk.hi;omega
      obtain ⟨dr,dl⟩:=d
      dsimp only at hr0 hl0
      subst hr0;subst hl0
      have hn1:(1<J.length+1+1+1)=True:=eq_true (by omega)
      have hs3:(J++[Blk.non])[J.length]? =some .non:=by simp
      (refine zF rfl rfl rfl ?_;intro zs zh;simp only [go_sem] at zh;subst zh)
      refine qZ (J.length+1+1+1) rfl rfl (by simp) (N.clone0_rel.call zK (by simp [xX]) _) (by intro x hx;simp [Op.operands,Call.operands] at hx;rcases hx with rfl|rfl<;>simp [wV,yO,xX]) (hav _) ?_ ?_
      ·rintro _ _ ⟨_,rfl⟩
       exact ⟨by simp,fun _ _ _=>rfl⟩
      intro p2 h2 hr2 ts2 hts
      simp only [go_sem] at hts;subst hts
      obtain ⟨rfl,rfl⟩:=hr2
      refine gf (a2 @zM @hn1) ?_
      (refine zF rfl rfl rfl ?_;intro zs zh;simp only [go_sem] at zh;subst zh)
      refine qZ (J.length+1+1+1) rfl rfl (by simp) (N.clone0_lrel.call zK (by simp [xX]) _) (by intro x hx;simp [Op.operands,Call.operands] at hx;rcases hx with rfl|rfl<;>simp [wV,yO,xX]) (hav _) ?_ ?_
      ·rintro _ _ ⟨_,rfl⟩
       exact ⟨by simp,fun _ _ _=>rfl⟩
      intro p2 h2 hr2 ts2 hts
      simp only [go_sem] at hts;subst hts
      obtain ⟨rfl,rfl⟩:=hr2
      refine gf (a6 @zM @rU @sB @qK @rN @hs3) ?_
      refine zO ops.length (K9 (K4 (.d::K9 (K9 (K9 (K4 (.k:: .k:: .v::D9 (.d:: .d::K9 (K9 (K4 (.k::[]))))))))))) (own:=false) (fun i (_:Heap)=>[i64 i]) (fun s=>s) (fun i s=>s=(Blk.var 27 p.c::Blk.var 31 znO.c::Blk.var 31 [.nil,.nil]::(J++[Blk.var 31 znO.c]))) (Blk.var 27 p.c::Blk.var 31 znO.c::Blk.var 31 [.nil,.nil]::(J++[Blk.var 31 znO.c])) rfl rfl rfl (by omega) ?_ (fun i s hi=>absurd hi (by omega))
      rintro s rfl
      refine gm ?_
      refine gf @zM ?_
      refine zO p.preds.length (K4 (.k:: .k:: .k:: .d::K4 (.k:: .k:: .d::K9 (K9 (K9 (K9 (K9 (.k:: .k:: .v::D9 (D9 (.k::[])))))))))) (own:=false) (fun i (_:Unit)=>[i64 i]) (fun _=>_) (fun i _=>True) () rfl rfl trivial (by omega) ?_ (fun i s hi=>absurd hi (by omega))
      rintro _ _
      refine gm ?_
      refine gf (a5 @zM @rU @sB @qK @rN) ?_
      exact .inr ⟨znO,_,rfl,by have:=apE znO (by rw [List.eq_nil_of_length_eq_zero ho0];rfl);rw [this];rfl,.inl rfl⟩
     have hrn:0<d.rels.length:=by rw [hV.rl];exact hn
     have hln:0<d.lats.length:=by rw [hV.ll];exact hn
     (refine zF rfl rfl rfl ?_;intro zs zh;simp only [go_sem] at zh;subst zh)
     refine qZ (J.length+1+1+1) rfl rfl (by simp) (kG d.rels hrn (by have:=hd.rl;omega) _) (by intro x hx;simp [Op.operands,Call.operands] at hx;rcases hx with rfl|rfl<;>simp [wV,yO]) (hav _) ?_ ?_
     ·rintro _ _ ⟨_,rfl⟩
      refine ⟨by simp,fun k hk h1=> ?_⟩
      have hk:k∈[1004,0]:=hk
      simp only [List.mem_cons,List.not_mem_nil,or_false] at hk
      rcases hk with rfl|rfl
      ·rfl
      ·omega
     intro p2 h2 hr2 ts2 hts
     simp only [go_sem] at hts;subst hts
     obtain ⟨rfl,rfl⟩:=hr2
     have hn1:(1<J.length+1+1+1)=True:=eq_true (by omega)
     have hav2: ∀ (s:Nat), ∀ b∈(Blk.var 27 p.c::Blk.var 31 d.c::Blk.var 31 [.nil,.nil]::(J++[.non,Blk.var 63 (d.rels.map uN)])),AvB [s] b:=fun s b hb=>by
      simp only [List.mem_cons,List.mem_append,List.not_mem_nil,or_false] at hb
      rcases hb with h|h|h|h|h|rfl
      ·exact hav s b (by simp [h])
      ·exact hav s b (by simp [h])
      ·exact hav s b (by simp [h])
      ·exact hav s b (by simp [h])
      ·exact hav s b (by simp [h])
      ·intro q hq
       obtain ⟨r,_,rfl⟩:=List.mem_map.1 hq
       exact Av.of_tree (yP 4 _ (rE 0 r))
     refine gf (a2 @zM @hn1) ?_
     (refine zF rfl rfl rfl ?_;intro zs zh;simp only [go_sem] at zh;subst zh)
     refine qZ (J.length+1+1+1) rfl rfl (by simp) (kH d.lats hln (by have:=hd.ll;omega) _) (by intro x hx;simp [Op.operands,Call.operands] at hx;rcases hx with rfl|rfl<;>simp [wV,yO]) (hav2 _) ?_ ?_
     ·rintro _ _ ⟨_,rfl⟩
      refine ⟨by simp,fun k hk h1=> ?_⟩
      have hk:k∈[0]:=hk
      simp only [List.mem_cons,List.not_mem_nil,or_false] at hk
      omega
     intro p2 h2 hr2 ts2 hts
     simp only [go_sem] at hts;subst hts
     obtain ⟨rfl,rfl⟩:=hr2
     have hs3:(J++[Blk.non,Blk.var 63 (d.rels.map uN),Blk.var 89 (d.lats.map vD)])[J.length]? =some .non:=by simp
     refine gf (a6 @zM @rU @sB @qK @rN @hs3) ?_
     refine zO ops.length (K9 (K4 (.d::K9 (K9 (K9 (K4 (.k:: .k:: .v::D9 (.d:: .d::K9 (K9 (K4 (.k::[]))))))))))) (own:=false) (fun i (_:Heap)=>[i64 i]) (fun s=>s) (fun i s=>s[0]? =some (.var 27 p.c)∧s[2]? =some (.var 31 [.nil,.nil])∧DataAt ((ops.take i).foldl (zl0 p) d) (J.length+3) (J.length+4) (J.length+5) s) (Blk.var 27 p.c::Blk.var 31 d.c::Blk.var 31 [.nil,.nil]::(J++[Blk.var 31 [.ms (J.length+4) 0 1 d.rels.length,.ms (J.length+5) 0 1 d.lats.length],Blk.var 63 (d.rels.map uN),Blk.var 89 (d.lats.map vD)])) rfl rfl ⟨rfl,rfl,by simp,by simp,by simp⟩ (by omega) ?_ ?_
     ·rintro s ⟨hs0,hs2,hD⟩ t ht
      rw [List.take_length] at hD
      have hap:=apE _ rfl
      obtain ⟨hX', -⟩:=zc4 hp ops hI2 hV (zjA hd)
      generalize ops.foldl (zl0 p) d=d' at*
      have hrl':=hX'.rl
      have hll':=hX'.ll
      simp only [zY] at ht;subst ht
      have hDt:=hD.t
      have hDr:=hD.r
      have hDl:=hD.l
      have hs2l:=(gsi hs2).1
      refine gf (a2 @zM @hs0) ?_
      refine zO p.preds.length (K4 (.k:: .k:: .k:: .d::K4 (.k:: .k:: .d::K9 (K9 (K9 (K9 (K9 (.k:: .k:: .v::D9 (D9 (.k::[])))))))))) (own:=false) (fun i (_:Unit)=>[i64 i]) (fun _=>s) (fun i _=> ∀ (j:Nat) (h:j<p.preds.length) (h1:j<d'.rels.length) (h2:j<d'.lats.length),j<i→d'.rels[j].length≤2000∧d'.lats[j].length≤2000) () rfl rfl (fun j _ _ _ hj=>absurd hj (Nat.not_lt_zero _)) (by omega) ?_ ?_
      ·rintro _ hI
       refine gm ?_
       have hss: ∀ b:Blk,(s.set 2 b)[2]? =some b:=fun b=>List.getElem?_set_self hs2l
       refine gf (a4 @zM @hDt @hs2 @hss) ?_
       have hbg:zj6 d'=false:=by
        unfold zj6
        rw [Bool.or_eq_false_iff,List.any_eq_false,List.any_eq_false]
        refine ⟨fun z hz=> ?_,fun z hz=> ?_⟩
        ·obtain ⟨j,hj,rfl⟩:=List.getElem_of_mem hz
         have:=(hI j (by omega) hj (by omega) (by omega)).1
         simp;omega
        ·obtain ⟨j,hj,rfl⟩:=List.getElem_of_mem hz
         have:=(hI j (by omega) (by omega) hj (by omega)).2
         simp;omega
       refine .inr ⟨d',_,rfl,by rw [hap,if_neg (by rw [hbg];decide)],.inr ⟨J.length+4,J.length+5,rfl,?_,?_⟩⟩
       ·rw [List.getElem?_set_ne (by omega)];exact hDr
       ·rw [List.getElem?_set_ne (by omega)];exact hDl
      ·rintro i _ hi hw hI
       refine gm ?_
       have hir:i<d'.rels.length:=by omega
       have hil:i<d'.lats.length:=by omega
       have hr0:=yU uN d'.rels i .un hir
       have hl0:=yU vD d'.lats i .un hil
       have next:d'.rels[i].length≤2000∧d'.lats[i].length≤2000→ ∀ (j:Nat) (h:j<p.preds.length) (h1:j<d'.rels.length) (h2:j<d'.lats.length),j<i+1→d'.rels[j].length≤2000∧d'.lats[j].length≤2000:=fun q j h h1 h2 hj=>by
        rcases Nat.lt_or_ge j i with hji|hji
        ·exact hI j h h1 h2 hji
        ·have:j=i:=by omega
         subst this;exact q
       have hbg:2000<d'.rels[i].length∨2000<d'.lats[i].length→zj6 d'=true:=fun q=>by
        unfold zj6
        rw [Bool.or_eq_true,List.any_eq_true,List.any_eq_true]
        rcases q with q|q
        ·exact .inl ⟨_,List.getElem_mem hir,by simpa using q⟩
        ·exact .inr ⟨_,List.getElem_mem hil,by simpa using q⟩
       generalize d'.rels[i]=u at*
       generalize d'.lats[i]=v at*
       obtain ⟨mx,hmx⟩: ∃ m,(if u.length<v.length then (v.length:Int) else (u.length:Int))=m:=⟨_,rfl⟩
       have hmx':2000<mx↔2000<u.length∨2000<v.length:=by rw [←hmx];split<;>omega
       by_cases h1:2000<mx
       ·have e2:decide ((2000:Int)<mx)=true:=by simp [h1]
        have hss: ∀ b:Blk,(s.set 2 b)[2]? =some b:=fun b=>List.getElem?_set_self hs2l
        refine gf (a9 @hi @hir @hil @zB @hw @hDt @hDr @hDl (a6 @hr0 @hl0 @hmx @e2 @hs2 @hss)) ?_
        exact .inl ⟨_,rfl,by rw [hap,if_pos (hbg (hmx'.1 h1))]⟩
       ·have e2:decide ((2000:Int)<mx)=false:=by simp;omega
        refine gf (a9 @hi @hir @hil @zB @hw @hDt @hDr @hDl (a4 @hr0 @hl0 @hmx @e2)) ?_
        exact ⟨(),next (by omega),rfl,rfl,rfl⟩
     ·rintro i s hi hw ⟨hs0,hs2,hD⟩
      refine gm ?_
      have hx:=zG (f:=Op1.c) [] hi
      obtain ⟨k,hok⟩:=hI' i hi
      have hkind:=hok.k
      have hN:nR i≤17179869184:=nR_le (by omega)
      obtain ⟨hX',hL'⟩:=zc4 hp (ops.take i) (fun o h=>hI2 o (List.mem_of_mem_take h)) hV (zjA hd)
      rw [List.length_take,show 0+min i ops.length=i by omega] at hL'
      have hd':=zrM hX' hL' htp
      have hst:(ops.take (i+1)).foldl (zl0 p) d=zl0 p ((ops.take i).foldl (zl0 p) d) ops[i]:=by
       rw [List.take_succ_eq_append_getElem hi,List.foldl_append,List.foldl_cons,List.foldl_nil]
      rw [hst]
      clear hst
      generalize (ops.take i).foldl (zl0 p) d=d' at*
      generalize ops[i]=x at*
      have h0A: ∀ l:List Blk,(s++l)[0]? =some (.var 27 p.c):=fun l=>yJ _ _ _ _ hs0
      have hsl:3≤s.length:=by have:=(gsi hs2).1;omega
      have fin: ∀ s',ActX (zl0 p d' x) (J.length+3) (J.length+4) (J.length+5) (s++[.var 38 x.c,.map zaH]) s'→s'[0]? =some (.var 27 p.c)∧s'[2]? =some (.var 31 [.nil,.nil])∧DataAt (zl0 p d' x) (J.length+3) (J.length+4) (J.length+5) s':=fun s' a=>by
       have a':=a.of_app
       exact ⟨a'.k 0 _ (by omega) (by omega) hs0,a'.k 2 _ (by omega) (by omega) hs2,a'.d⟩
      refine gf (a9 @hi @hx @zB @hw @rU @sB @qK @rN @h0A) ?_
      (refine zF rfl rfl rfl ?_;intro sr hsr;simp only [go_sem,hi,hx,zB,hw,rU,sB,qK,rN,h0A] at hsr;subst hsr;refine xR rfl rfl (jY _) (by rintro _ _ ⟨_,rfl⟩ k hk _;have hk:k∈[1013,1003,1013]:=hk;simp only [List.mem_cons,List.not_mem_nil,or_false] at hk;exact hk.elim (fun h=>by subst h;rw [List.getElem?_append_left (by simp [nu])]) fun h=>h.elim (fun h=>by subst h;rw [List.getElem?_append_left (by simp [nu])]) fun h=>by subst h;rw [List.getElem?_append_left (by simp [nu])]) ?_;intro p2 h2 hr2 ts2 hts;simp only [go_sem] at hts;subst hts)
      obtain ⟨rfl,rfl⟩:=hr2
      rcases hkind with hk1|hk1
      ·have ha:iZ x.kind= .fn (.func 59) [] []:=by rw [hk1];rfl
       have hlk:=lkT (h:=s++[.var 38 x.c,.map zaH]) (r:=s.length+1) x.kind ((sB s _ 1).trans rfl)
       rw [ha] at hlk
       refine gf (a9 @hi @hx @zB @hw @rU @sB @qK @rN (a2 @h0A @hlk)) ?_
       (refine zF rfl rfl rfl ?_;intro zs zh;simp only [go_sem,hi,hx,zB,hw,rU,sB,qK,rN,h0A,hlk] at zh;subst zh;refine zP (by decide) (by decide) (zrO p hp (nR i) hN d' hd' hX' (J.length+3) (J.length+4) (J.length+5) _ (hD.app _) x k hok hk1) ?_;intro p2 h2 hr2 ts2 hts;simp only [go_sem] at hts;subst hts)
       obtain ⟨rfl,hact⟩:=hr2
       refine gf (a9 @hi @hx @zB @hw @rU @sB @qK @rN @h0A) ?_
       exact ⟨h2,fin h2 hact,rfl,rfl,rfl⟩
      ·have ha:iZ x.kind= .fn (.func 60) [] []:=by rw [hk1];rfl
       have hlk:=lkT (h:=s++[.var 38 x.c,.map zaH]) (r:=s.length+1) x.kind ((sB s _ 1).trans rfl)
       rw [ha] at hlk
       refine gf (a9 @hi @hx @zB @hw @rU @sB @qK @rN (a2 @h0A @hlk)) ?_
       (refine zF rfl rfl rfl ?_;intro zs zh;simp only [go_sem,hi,hx,zB,hw,rU,sB,qK,rN,h0A,hlk] at zh;subst zh;refine zP (by decide) (by decide) (zp6 p hp (nR i) hN d' hd' hX' (J.length+3) (J.length+4) (J.length+5) _ (hD.app _) x k hok hk1) ?_;intro p2 h2 hr2 ts2 hts;simp only [go_sem] at hts;subst hts)
       obtain ⟨rfl,hact⟩:=hr2
       refine gf (a9 @hi @hx @zB @hw @rU @sB @qK @rN @h0A) ?_
       exact ⟨h2,fin h2 hact,rfl,rfl,rfl⟩
    ·rintro i J hi hw ⟨hJ,hI⟩
     refine gm ?_
     have hx:=zG (f:=Op1.c) [] hi
     have hxo:=ho.o _ (List.getElem_mem hi)
     have next:zoM p ops[i]=0→ ∀ (j:Nat) (h:j<ops.length),j<i+1→zoM p ops[j]=0:=fun q j h hj=>by
      rcases Nat.lt_or_ge j i with hji|hji
      ·exact hI j h hji
      ·have:j=i:=by omega
       subst this;exact q
     have bad:zoM p ops[i]≠0→zk4 p d ops=(znO,zoM p ops[i]):=fun q=>by
      have:=zgO hi hI q
      unfold zk4;rw [if_neg hbt,if_neg hl,this,if_pos q]
     generalize ops[i]=x at*
     refine gf (a6 @hi @hx @zB @hw @zA @zD) ?_
     have hck:=(zoK p hp hle x hxo).1
     generalize zoM p x=e at*
     (refine g1f (a6 @hi @hx @zB @hw @zA @zD) ?_;refine zC (hck.call zK (by simp [zJ]) _) ?_;intro p2 h2 hr2;refine g2 ?_)
     obtain ⟨rfl,rfl⟩:=hr2
     by_cases he0:e=0
     ·subst he0
      have e2:((0:Int)!=0)=false:=rfl
      refine gf (a2 @hw @e2) ?_
      exact ⟨J++[.var 38 x.c],⟨fun b hb=>(List.mem_append.1 hb).elim (hJ b) fun hb=>⟨x,by simpa using hb⟩,next rfl⟩,rfl,rfl,rfl⟩
     ·have e2:(e !=0)=true:=by simp [he0]
      refine gf (a2 @hw @e2) ?_
      exact .inl ⟨e,rfl,bad he0⟩
 ·have tbT: ∀ (x:Dt) (e:Int),Tree (.tup [.agg x.c,i64 e]):=fun x e=>yP 40 _ (show ([.agg x.c,i64 e].all (zU 39))=true by rw [List.all_cons,eH 33 x];rfl)
  rintro v h (⟨e,rfl,he⟩|⟨d',V,rfl,he,rfl|⟨q1,q2,rfl,h1,h2⟩⟩)
  ·exact ⟨.tup [.agg znO.c,i64 e],by rw [zhM];exact PLes.tup (.cons (PLes.agg (.cons (PLe.nil_ts 1) (.cons (PLe.nil_ts 1) .nil))) (.cons (PLe.refl _) .nil)),by rw [he],tbT _ _⟩
  ·refine ⟨.tup [.agg d'.c,i64 0],?_,by rw [he],tbT _ _⟩
   rw [zlG 39,List.map_cons,List.map_cons,List.map_nil,vE 0 h 39 _ (eH 33 d'),ziD 38]
   exact PLe.refl _
  ·refine ⟨.tup [.agg d'.c,i64 0],?_,by rw [he],tbT _ _⟩
   have hcr:(d'.rels.map uN).map (fz 0 h 37)=d'.rels.map uN:=uR fun x hx=>by
    obtain ⟨r,_,rfl⟩:=List.mem_map.1 hx
    exact vE 0 h 37 _ (rE 33 r)
   have mM:(d'.lats.map vD).map (fz 0 h 37)=d'.lats.map vD:=uR fun x hx=>by
    obtain ⟨r,_,rfl⟩:=List.mem_map.1 hx
    exact vE 0 h 37 _ (ziP 33 r)
   have c1:=lG (d'.rels.map uN)
   have c2:=lG (d'.lats.map vD)
   rw [List.length_map,List.map_map] at c1 c2
   rw [zlG 39,List.map_cons,List.map_cons,List.map_nil,ziD 38,fzA 38,List.map_cons,List.map_cons,List.map_nil,fzM 37 _ _ _ _ h1,fzM 37 _ _ _ _ h2,hcr,mM,c1,c2]
   exact PLe.refl _
end Go.AL
namespace Go.AL
open Go.RowKit
abbrev Tab:=List (FuncId×List PV×PV)
def zlB (T:Tab) (inner:FuncId→List PV→Heap→Option (PV×Heap)) (g:FuncId) (args:List PV) (h:Heap):Option (PV×Heap):=
 match T.find? (fun e=>Nat.beq e.1 g&&uK (nU 40) e.2.1 args) with
 |some e=>some (e.2.2,h)
 |none=>inner g args h
def xZ (P:Program) (G:Glob) (keep own:FuncId→Bool) (L:Nat) (T:Tab):Nat→Caller
 |0=>⟨fun _ _ _=>none,fun _ _ _=>none⟩
 |n+1=>⟨zlB T (xfn P G keep own (xZ P G keep own L T n) L),xyl P G (xZ P G keep own L T n) L⟩
def TabOk (P:Program) (G:Glob) (T:Tab):Prop:= ∀ e∈T, ∀ h,ACall P G e.1 e.2.1 h fun q h2=>q=e.2.2∧h2=h
section
variable {P:Program} {G:Glob}
theorem zc0:TabOk P G []:=fun e he=>by cases he
theorem zcV (hm:P.follows .mixedOrders=true) (hG:GTree G) {T:Tab} (hT:TabOk P G T) (keep ow:FuncId→Bool) (L:Nat): ∀ n,CallOk P G (xZ P G keep ow L T n):=by
 intro n
 induction n with
 |zero=>exact ⟨fun g args h p h' e=>(by cases e),fun r args h p h' e=>(by cases e)⟩
 | succ n ih=>
  refine ⟨fun g args h p h' e=> ?_,fun r args h p h' e=>zlH hm hG ih e⟩
  simp only [xZ,zlB] at e
  split at e
  ·rename_i x hx
   cases e
   have h1:=List.mem_of_find?_eq_some hx
   have h2:=List.find?_some hx
   rw [Bool.and_eq_true] at h2
   have e1:x.1=g:=Nat.eq_of_beq_eq_true h2.1
   have e2:=oB (eM 40) h2.2
   rw [←e1, ←e2]
   exact hT x h1 h
  ·exact zlI hm hG ih e
theorem yR (hm:P.follows .mixedOrders=true) (hG:GTree G) {T:Tab} (hT:TabOk P G T) {keep ow:FuncId→Bool} {L n:Nat} {g:FuncId} {args:List PV} {p:PV}
  (e:(xZ P G keep ow L T n).fn g args []=some (p,[])) (ha:args.all (zU 40)=true) (hp:zU 40 p=true):TabOk P G ((g,args,p)::T):=by
 intro x hx h
 rcases List.mem_cons.1 hx with rfl|hx
 ·rw [List.all_eq_true] at ha
  exact Pure.frame ((zcV hm hG hT keep ow L n).fn _ _ _ _ _ e) (fun q hq=>yP _ _ (ha q hq)) (yP _ _ hp) hG h
 ·exact hT x hx h
end
end Go.AL
