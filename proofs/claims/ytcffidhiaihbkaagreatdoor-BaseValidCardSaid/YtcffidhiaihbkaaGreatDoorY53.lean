/-
  Base data, plainly: the facts of valid data and their keys.
-/
import Derived.Test.YtcffidhiaihbkaaGreatDoorY52
import Derived.Test.YtcffidhiaihbkaaGreatDoorY47
set_option linter.unusedSimpArgs false
set_option linter.unusedVariables false
set_option maxRecDepth 100000
set_option maxHeartbeats 4000000
namespace Go.AL
open Go.Proofs Go.Proofs.Tryz
def FzL (v w:PV):Prop:= ∀ (h:Heap) (f:Nat),PLe (fz 0 h (f+5) v) w
theorem ztO (l:List Vl):FzL (pH l) (pH l):=fun h f=>by
 rw [zaV,qI (d:=Vl.c) fun x _=>by rfl];exact PLe.refl _
theorem zuD (l:List Sp):FzL (kJ l) (kJ l):=fun h f=>by
 rw [zaV,qI (d:=Sp.c) fun x _=>by rfl];exact PLe.refl _
theorem zr9 {k n:Nat} {e:List (List PV)} {w:PV} (h:FzL (.ts n e) w):FzL (.vec k n e) w:=fun H f=>by
 have:=h H f
 rw [pD];exact this
def RowOk (P:Rw→Prop) (e:List PV):Prop:= ∃ y:Rw,P y∧ ∃ a b:PV,e=[a,b]∧FzL a (pH y.args)∧FzL b (kJ y.w)
theorem zuF {P:Rw→Prop} {y:Rw} (h:P y):RowOk P y.c:=⟨y,h,_,_,rfl,ztO _,zuD _⟩
theorem znW {P:Rw→Prop}: ∀ {E:List (List PV)},(∀ e∈E,RowOk P e)→ ∃ q:List Rw,q.length=E.length∧(∀ y∈q,P y)∧ ∀ (h:Heap) (f:Nat) (i:Nat) (e e':List PV),(E.map fun e=>e.map (fz 0 h (f+5)))[i]? =some e→(q.map Rw.c)[i]? =some e'→e.length=e'.length∧ ∀ (j:Nat) (p q:PV),e[j]? =some p→e'[j]? =some q→PLe p q
 | [],_=>⟨[],rfl,by simp,fun h f i e e' he=>by simp at he⟩
 | e::E,hE=>by
  obtain ⟨q,h1,h2,h3⟩:=znW fun e he=>hE e (List.mem_cons_of_mem _ he)
  obtain ⟨y,hy,a,b,rfl,ha,hb⟩:=hE e (List.mem_cons_self ..)
  refine ⟨y::q,by simp [h1],fun z hz=> ?_,fun h f i e e' he he'=> ?_⟩
  ·rcases List.mem_cons.1 hz with rfl|hz
   ·exact hy
   ·exact h2 z hz
  ·cases i with
   |zero=>
    simp only [List.map_cons,List.map_nil,List.getElem?_cons_zero,Option.some.injEq] at he he'
    subst he;subst he'
    have hp:PLes [fz 0 h (f+5) a,fz 0 h (f+5) b] y.c:= .cons (ha h f) (.cons (hb h f) .nil)
    exact ⟨hp.len,hp.get⟩
   |succ i=>exact h3 h f i e e' (by simpa using he) (by simpa using he')
theorem zbH (k:Nat):wA [] 0 k 0=[]:=rfl
theorem zt7 (r:List Rw) (hr:r.length≤1048576) (args:List Vl) (ha0:args≠[]) (ha:args.length≤1048576) (hss: ∀ v∈args,v.s.size≤140737488355328) (wh:List Sp) (hwh:0<wh.length) (hwh2:wh.length≤65):
  EPure prog G0 77 [uN r,pH args,kJ wh] fun v=> ∃ q:List Rw,v=uN q∧q.length≤r.length+2∧ ∀ y∈q,y∈r∨y=⟨args,wh⟩:=by
 refine ECall.cutW (R:=fun v _=> ∃ (E:List (List PV)) (V:PV) (J:Heap),v=V∧GrowN 0 84 E 2 J V∧E.length≤r.length+2∧ ∀ e∈E,RowOk (fun y=>y∈r∨y=⟨args,wh⟩) e) (pv func77 69 false (by kernel_rfl) rfl rfl ?_) ?_
 refine g2 ?_
 rotate_left
 ·rintro p h ⟨E,V,J,rfl,hG,hl,hR⟩
  obtain ⟨q,q1,q2,q3⟩:=znW hR
  refine ⟨uN q,?_,⟨q,rfl,by omega,q2⟩,by simp⟩
  rcases hG with ⟨rfl,rfl⟩|⟨k,rfl,hk⟩
  ·have:q=[]:=List.eq_nil_of_length_eq_zero (by simpa using q1)
   subst this
   rw [iQ];exact PLe.nil_ts 2
  ·have e:fz 0 h 40 (.vec (k+0) 2 E)= .ts 2 (E.map fun e=>e.map (fz 0 h 39)):=by rw [pD,zaV]
   rw [e]
   exact PLe.ts (by simp [q1]) (q3 h 34)
 obtain ⟨w0,ws',hws⟩: ∃ w0 ws',wh=w0::ws':=by
  cases wh with
  |nil=>simp at hwh
  |cons a b=>exact ⟨a,b,rfl⟩
 subst hws
 have hwl:ws'.length+1≤65:=by simpa using hwh2
 have hwq:decide ((0:Int)<((ws'.length+1:Nat):Int))=true:=by simp
 clear hwh hwh2
 have key: ∀ y,y∈r→RowOk (fun y=>y∈r∨y=⟨args,w0::ws'⟩) y.c:=fun y hy=>zuF (.inl hy)
 have hcmp:=fun b:List Vl=>(zq4 args b (by omega) hss).call zK (by simp)
 cases args with
 |nil=>exact absurd rfl ha0
 | cons a0 as'=>
  have hal:as'.length+1≤1048576:=by simpa using ha
  have new: ∀ (ka kb:Nat),RowOk (fun y:Rw=>y∈r∨y=⟨(a0::as'),w0::ws'⟩) [.vec (ka) 3 (a0.c::as'.map Vl.c),.vec kb 2 (w0.c::ws'.map Sp.c)]:=fun ka kb=>⟨⟨(a0::as'),w0::ws'⟩,.inr rfl,_,_,rfl,zr9 (ztO (a0::as')),zr9 (zuD (w0::ws'))⟩
  refine ge ?_
  refine zO (r.length+1) (K4 (.k:: .k:: .k:: .v:: .v:: .v::D9 (D9 (D9 (D9 (D9 (D9 (D4 (.k::[]))))))))) (own:=false) (fun i (s:Bool×List (List PV)×PV×Heap)=>[s.2.2.1,bo s.1,i64 i]) (fun s=>s.2.2.2) (fun i s=>GrowN 0 84 s.2.1 2 s.2.2.2 s.2.2.1∧s.2.1.length≤i+s.1.toNat∧ ∀ e∈s.2.1,RowOk (fun y:Rw=>y∈r∨y=⟨(a0::as'),w0::ws'⟩) e) (false,[],.nil,[]) rfl rfl ⟨.inl ⟨rfl,rfl⟩,by simp,by simp⟩ (by omega) ?_ ?_
  ·rintro ⟨dn,E,V,J⟩ ⟨hG,hE,hR⟩ t ht
   dsimp only at*
   simp only [zY] at ht;subst ht
   have e0:(((r.length+1:Nat):Int)≤(r.length:Int))=False:=eq_false (by omega)
   refine gf @e0 ?_
   exact ⟨E,V,J,rfl,hG,by cases dn<;>simp at hE<;>omega,hR⟩
  ·rintro i ⟨dn,E,V,J⟩ hi hw ⟨hG,hE,hR⟩ t ht
   dsimp only at*
   simp only [zY] at ht;subst ht
   have hile:i≤r.length:=by omega
   have hE2:E.length≤2097152:=by cases dn<;>simp at hE<;>omega
   have hEt:E.length≤i+dn.toNat:=hE
   clear hE
   by_cases hir:i<r.length
   ·have hx:=zG (f:=Rw.c) [] hir
    have hin:((i:Int)==(r.length:Int))=false:=by rw [beq_eq_false_iff_ne];omega
    have hk:=key _ (List.getElem_mem hir)
    have hc:=hcmp r[i].args
    generalize r[i]=x at*
    cases dn with
    | true=>
     rcases hG with ⟨rfl,rfl⟩|⟨q,rfl,hq⟩
     ·have FQ:=(a6 @hile @hir @hx @hin @zB @hw)
      refine gf @FQ ?_
      (refine g1f @FQ ?_;refine zC (hc _) ?_;intro p2 h2 hr2;refine g2 ?_)
      obtain ⟨⟨n2,rfl, -⟩,hh⟩:=hr2
      have hh:=hh.symm
      subst hh
      by_cases h2:n2=0
      ·have e2:(n2 !=0)=false:=by simp [h2]
       refine gf (a2 @FQ @e2) ?_
       exact ⟨(true,[],.nil,J),⟨.inl ⟨rfl,rfl⟩,by simp at hEt ⊢ <;>omega,by simp⟩,rfl,rfl,rfl⟩
      ·have e2:(n2 !=0)=true:=by simp [h2]
       refine gf (a2 @FQ @e2) ?_
       exact ⟨(true,[x.c],.vec J.length 2 [x.c],J++[.vec 84 2 1]),⟨.inr ⟨J.length,rfl,by simp⟩,by simp at hEt ⊢ <;>omega,by simpa using hk⟩,rfl,rfl,rfl⟩
     ·have Fq: ∀ l:List Blk,(J++l)[q]? =some (.vec 84 2 E.length):=fun l=>by rw [List.getElem?_append_left (gsi hq).1];exact hq
      have hql:q<J.length:=(gsi hq).1
      have Sq: ∀ (l:List Blk) (b:Blk),(J++l).set q b=J.set q b++l:=fun l b=>List.set_append_left _ _ hql
      have Gq: ∀ (b:Blk) (l:List Blk),(J.set q b++l)[q]? =some b:=fun b l=>by rw [List.getElem?_append_left (by rw [List.length_set];exact hql),List.getElem?_set_self hql]
      have Sq2: ∀ (b c:Blk) (l:List Blk),(J.set q b++l).set q c=J.set q c++l:=fun b c l=>by rw [List.set_append_left _ _ (by rw [List.length_set];exact hql),List.set_set]
      have Gs: ∀ b:Blk,(J.set q b)[q]? =some b:=fun b=>List.getElem?_set_self hql
      simp only [Nat.add_zero]
      have FQ:=(a8 @hile @hir @hx @hin @zB @hw @hq @Gs)
      refine gf @FQ ?_
      (refine g1f @FQ ?_;refine zC (hc _) ?_;intro p2 h2 hr2;refine g2 ?_)
      obtain ⟨⟨n2,rfl, -⟩,hh⟩:=hr2
      have hh:=hh.symm
      subst hh
      by_cases h2:n2=0
      ·have e2:(n2 !=0)=false:=by simp [h2]
       refine gf (a2 @FQ @e2) ?_
       exact ⟨(true,E,.vec q 2 E,J),⟨.inr ⟨q,rfl,hq⟩,by simp at hEt ⊢ <;>omega,hR⟩,rfl,rfl,rfl⟩
      ·have e2:(n2 !=0)=true:=by simp [h2]
       refine gf (a2 @FQ @e2) ?_
       exact ⟨(true,E++[x.c],.vec q 2 (E++[x.c]),J.set q (.vec 84 2 (E.length+1))),⟨.inr ⟨q,rfl,by rw [Gs];simp⟩,by simp at hEt ⊢ <;>omega,fun e he=>(List.mem_append.1 he).elim (hR e) fun he=>by rw [List.mem_singleton] at he;rw [he];exact hk⟩,rfl,rfl,rfl⟩
    | false=>
     refine gf (a6 @hile @hir @hx @hin @zB @hw) ?_
     (refine g1f (a6 @hile @hir @hx @hin @zB @hw) ?_;refine zC (hc _) ?_;intro p2 h2 hr2;refine g2 ?_)
     obtain ⟨⟨n,rfl, -⟩,hh⟩:=hr2
     have hh:=hh.symm
     subst hh
     by_cases h0:n≤0
     ·have e0:decide (n≤0)=true:=by simp [h0]
      rcases hG with ⟨rfl,rfl⟩|⟨q,rfl,hq⟩
      ·have FQ:=(a9 @hile @hir @hx @hin @zB @hw @e0 @hwq (a5 @zbH @rU @sB @qK @rN))
       refine gf @FQ ?_
       (refine g1f @FQ ?_;refine zC (hc _) ?_;intro p2 h2 hr2;refine g2 ?_)
       obtain ⟨⟨n2,rfl, -⟩,hh⟩:=hr2
       have hh:=hh.symm
       subst hh
       by_cases h2:n2=0
       ·have e2:(n2 !=0)=false:=by simp [h2]
        refine gf (a2 @FQ @e2) ?_
        exact ⟨(true,[[.vec (J.length) 3 (a0.c::as'.map Vl.c),.vec (J.length+1) 2 (w0.c::ws'.map Sp.c)]],.vec (J.length+2) 2 [[.vec (J.length) 3 (a0.c::as'.map Vl.c),.vec (J.length+1) 2 (w0.c::ws'.map Sp.c)]],J++[Blk.vec 79 3 (as'.length+1),Blk.vec 36 2 (ws'.length+1),.vec 84 2 1]),⟨.inr ⟨J.length+2,rfl,by simp⟩,by simp at hEt ⊢ <;>omega,by simpa using new _ _⟩,rfl,rfl,rfl⟩
       ·have e2:(n2 !=0)=true:=by simp [h2]
        refine gf (a2 @FQ @e2) ?_
        exact ⟨(true,[[.vec (J.length) 3 (a0.c::as'.map Vl.c),.vec (J.length+1) 2 (w0.c::ws'.map Sp.c)],x.c],.vec (J.length+2) 2 [[.vec (J.length) 3 (a0.c::as'.map Vl.c),.vec (J.length+1) 2 (w0.c::ws'.map Sp.c)],x.c],J++[Blk.vec 79 3 (as'.length+1),Blk.vec 36 2 (ws'.length+1),.vec 84 2 2]),⟨.inr ⟨J.length+2,rfl,by simp⟩,by simp at hEt ⊢ <;>omega,fun e he=>by
         rcases List.mem_cons.1 he with rfl|he
         ·exact new _ _
         ·rw [List.mem_singleton] at he;rw [he];exact hk⟩,rfl,rfl,rfl⟩
      ·have Fq: ∀ l:List Blk,(J++l)[q]? =some (.vec 84 2 E.length):=fun l=>by rw [List.getElem?_append_left (gsi hq).1];exact hq
       have hql:q<J.length:=(gsi hq).1
       have Sq: ∀ (l:List Blk) (b:Blk),(J++l).set q b=J.set q b++l:=fun l b=>List.set_append_left _ _ hql
       have Gq: ∀ (b:Blk) (l:List Blk),(J.set q b++l)[q]? =some b:=fun b l=>by rw [List.getElem?_append_left (by rw [List.length_set];exact hql),List.getElem?_set_self hql]
       have Sq2: ∀ (b c:Blk) (l:List Blk),(J.set q b++l).set q c=J.set q c++l:=fun b c l=>by rw [List.set_append_left _ _ (by rw [List.length_set];exact hql),List.set_set]
       have Gs: ∀ b:Blk,(J.set q b)[q]? =some b:=fun b=>List.getElem?_set_self hql
       simp only [Nat.add_zero]
       have FQ:=(a9 @hile @hir @hx @hin @zB @hw @e0 @hwq (a9 @zbH @rU @sB @qK @rN @Fq @Sq @Gq @Sq2))
       refine gf @FQ ?_
       (refine g1f @FQ ?_;refine zC (hc _) ?_;intro p2 h2 hr2;refine g2 ?_)
       obtain ⟨⟨n2,rfl, -⟩,hh⟩:=hr2
       have hh:=hh.symm
       subst hh
       by_cases h2:n2=0
       ·have e2:(n2 !=0)=false:=by simp [h2]
        refine gf (a2 @FQ @e2) ?_
        exact ⟨(true,E++[[.vec (J.length) 3 (a0.c::as'.map Vl.c),.vec (J.length+1) 2 (w0.c::ws'.map Sp.c)]],.vec q 2 (E++[[.vec (J.length) 3 (a0.c::as'.map Vl.c),.vec (J.length+1) 2 (w0.c::ws'.map Sp.c)]]),J.set q (.vec 84 2 (E.length+1))++[Blk.vec 79 3 (as'.length+1),Blk.vec 36 2 (ws'.length+1)]),⟨.inr ⟨q,rfl,by rw [Gq];simp⟩,by simp at hEt ⊢ <;>omega,fun e he=>(List.mem_append.1 he).elim (hR e) fun he=>by rw [List.mem_singleton] at he;rw [he];exact new _ _⟩,rfl,rfl,rfl⟩
       ·have e2:(n2 !=0)=true:=by simp [h2]
        refine gf (a2 @FQ @e2) ?_
        exact ⟨(true,E++[[.vec (J.length) 3 (a0.c::as'.map Vl.c),.vec (J.length+1) 2 (w0.c::ws'.map Sp.c)],x.c],.vec q 2 (E++[[.vec (J.length) 3 (a0.c::as'.map Vl.c),.vec (J.length+1) 2 (w0.c::ws'.map Sp.c)],x.c]),J.set q (.vec 84 2 (E.length+1+1))++[Blk.vec 79 3 (as'.length+1),Blk.vec 36 2 (ws'.length+1)]),⟨.inr ⟨q,rfl,by rw [Gq];simp⟩,by simp at hEt ⊢ <;>omega,fun e he=>by
         rcases List.mem_append.1 he with he|he
         ·exact hR e he
         ·rcases List.mem_cons.1 he with rfl|he
          ·exact new _ _
          ·rw [List.mem_singleton] at he;rw [he];exact hk⟩,rfl,rfl,rfl⟩
     ·have e0:decide (n≤0)=false:=by simp;omega
      rcases hG with ⟨rfl,rfl⟩|⟨q,rfl,hq⟩
      ·have FQ:=(a7 @hile @hir @hx @hin @zB @hw @e0)
       refine gf @FQ ?_
       (refine g1f @FQ ?_;refine zC (hc _) ?_;intro p2 h2 hr2;refine g2 ?_)
       obtain ⟨⟨n2,rfl, -⟩,hh⟩:=hr2
       have hh:=hh.symm
       subst hh
       by_cases h2:n2=0
       ·have e2:(n2 !=0)=false:=by simp [h2]
        refine gf (a2 @FQ @e2) ?_
        exact ⟨(false,[],.nil,J),⟨.inl ⟨rfl,rfl⟩,by simp at hEt ⊢ <;>omega,by simp⟩,rfl,rfl,rfl⟩
       ·have e2:(n2 !=0)=true:=by simp [h2]
        refine gf (a2 @FQ @e2) ?_
        exact ⟨(false,[x.c],.vec J.length 2 [x.c],J++[.vec 84 2 1]),⟨.inr ⟨J.length,rfl,by simp⟩,by simp at hEt ⊢ <;>omega,by simpa using hk⟩,rfl,rfl,rfl⟩
      ·have Fq: ∀ l:List Blk,(J++l)[q]? =some (.vec 84 2 E.length):=fun l=>by rw [List.getElem?_append_left (gsi hq).1];exact hq
       have hql:q<J.length:=(gsi hq).1
       have Sq: ∀ (l:List Blk) (b:Blk),(J++l).set q b=J.set q b++l:=fun l b=>List.set_append_left _ _ hql
       have Gq: ∀ (b:Blk) (l:List Blk),(J.set q b++l)[q]? =some b:=fun b l=>by rw [List.getElem?_append_left (by rw [List.length_set];exact hql),List.getElem?_set_self hql]
       have Sq2: ∀ (b c:Blk) (l:List Blk),(J.set q b++l).set q c=J.set q c++l:=fun b c l=>by rw [List.set_append_left _ _ (by rw [List.length_set];exact hql),List.set_set]
       have Gs: ∀ b:Blk,(J.set q b)[q]? =some b:=fun b=>List.getElem?_set_self hql
       simp only [Nat.add_zero]
       have FQ:=(a9 @hile @hir @hx @hin @zB @hw @e0 @hq @Gs)
       refine gf @FQ ?_
       (refine g1f @FQ ?_;refine zC (hc _) ?_;intro p2 h2 hr2;refine g2 ?_)
       obtain ⟨⟨n2,rfl, -⟩,hh⟩:=hr2
       have hh:=hh.symm
       subst hh
       by_cases h2:n2=0
       ·have e2:(n2 !=0)=false:=by simp [h2]
        refine gf (a2 @FQ @e2) ?_
        exact ⟨(false,E,.vec q 2 E,J),⟨.inr ⟨q,rfl,hq⟩,by simp at hEt ⊢ <;>omega,hR⟩,rfl,rfl,rfl⟩
       ·have e2:(n2 !=0)=true:=by simp [h2]
        refine gf (a2 @FQ @e2) ?_
        exact ⟨(false,E++[x.c],.vec q 2 (E++[x.c]),J.set q (.vec 84 2 (E.length+1))),⟨.inr ⟨q,rfl,by rw [Gs];simp⟩,by simp at hEt ⊢ <;>omega,fun e he=>(List.mem_append.1 he).elim (hR e) fun he=>by rw [List.mem_singleton] at he;rw [he];exact hk⟩,rfl,rfl,rfl⟩
   ·have hre:i=r.length:=by omega
    subst hre
    have hin:((r.length:Int)==(r.length:Int))=true:=by simp
    cases dn with
    |true=>
     refine gf (a5 @hile @hin @zM @zB @hw) ?_
     exact ⟨(true,E,V,J),⟨hG,by simp at hEt ⊢ <;>omega,hR⟩,rfl,rfl,rfl⟩
    | false=>
     rcases hG with ⟨rfl,rfl⟩|⟨q,rfl,hq⟩
     ·refine gf (a9 @hile @hin @zM @zB @hw @hwq @zbH @rU (a3 @sB @qK @rN)) ?_
      exact ⟨(true,[[.vec (J.length) 3 (a0.c::as'.map Vl.c),.vec (J.length+1) 2 (w0.c::ws'.map Sp.c)]],.vec (J.length+2) 2 [[.vec (J.length) 3 (a0.c::as'.map Vl.c),.vec (J.length+1) 2 (w0.c::ws'.map Sp.c)]],J++[Blk.vec 79 3 (as'.length+1),Blk.vec 36 2 (ws'.length+1),.vec 84 2 1]),⟨.inr ⟨J.length+2,rfl,by simp⟩,by simp at hEt ⊢ <;>omega,by simpa using new _ _⟩,rfl,rfl,rfl⟩
     ·have Fq: ∀ l:List Blk,(J++l)[q]? =some (.vec 84 2 E.length):=fun l=>by rw [List.getElem?_append_left (gsi hq).1];exact hq
      have hql:q<J.length:=(gsi hq).1
      have Sq: ∀ (l:List Blk) (b:Blk),(J++l).set q b=J.set q b++l:=fun l b=>List.set_append_left _ _ hql
      have Gq: ∀ (b:Blk) (l:List Blk),(J.set q b++l)[q]? =some b:=fun b l=>by rw [List.getElem?_append_left (by rw [List.length_set];exact hql),List.getElem?_set_self hql]
      have Sq2: ∀ (b c:Blk) (l:List Blk),(J.set q b++l).set q c=J.set q c++l:=fun b c l=>by rw [List.set_append_left _ _ (by rw [List.length_set];exact hql),List.set_set]
      have Gs: ∀ b:Blk,(J.set q b)[q]? =some b:=fun b=>List.getElem?_set_self hql
      simp only [Nat.add_zero]
      refine gf (a9 @hile @hin @zM @zB @hw @hwq @zbH @rU (a7 @sB @qK @rN @Fq @Sq @Gq @Sq2)) ?_
      exact ⟨(true,E++[[.vec (J.length) 3 (a0.c::as'.map Vl.c),.vec (J.length+1) 2 (w0.c::ws'.map Sp.c)]],.vec q 2 (E++[[.vec (J.length) 3 (a0.c::as'.map Vl.c),.vec (J.length+1) 2 (w0.c::ws'.map Sp.c)]]),J.set q (.vec 84 2 (E.length+1))++[Blk.vec 79 3 (as'.length+1),Blk.vec 36 2 (ws'.length+1)]),⟨.inr ⟨q,rfl,by rw [Gq];simp⟩,by simp at hEt ⊢ <;>omega,fun e he=>(List.mem_append.1 he).elim (hR e) fun he=>by rw [List.mem_singleton] at he;rw [he];exact new _ _⟩,rfl,rfl,rfl⟩
theorem ztX (wh:List Sp) (hwh:0<wh.length) (hwh2:wh.length≤65):EPure prog G0 77 [uN [],pH [],kJ wh] fun v=>v=uN [⟨[],wh⟩]:=by
 obtain ⟨w0,ws',hws⟩: ∃ w0 ws',wh=w0::ws':=by
  cases wh with
  |nil=>simp at hwh
  |cons a b=>exact ⟨a,b,rfl⟩
 subst hws
 have hwl:ws'.length+1≤65:=by simpa using hwh2
 have hwq:decide ((0:Int)<((ws'.length+1:Nat):Int))=true:=by simp
 refine ECall.cutW (R:=fun v h=>v= .ms 1 0 2 1∧h=[.var 36 ((w0::ws').map Sp.c).flatten,.var 84 [.tc 3 [],.ms 0 0 2 (ws'.length+1)]]) (pv func77 69 true (by kernel_rfl) rfl rfl ?_) ?_
 refine g2 ?_
 ·refine ge ?_
  refine zO 1 (K4 (.k:: .k:: .k:: .v:: .v:: .v::D9 (D9 (D9 (D9 (D9 (D9 (D4 (.k::[]))))))))) (own:=true) (fun i (s:PV×Heap)=>[s.1,bo (decide (i=1)),i64 i]) (fun s=>s.2) (fun i s=>(i=0→s=(.nil,[]))∧(i=1→s=(.ms 1 0 2 1,[.var 36 ((w0::ws').map Sp.c).flatten,.var 84 [.tc 3 [],.ms 0 0 2 (ws'.length+1)]]))) (.nil,[]) rfl rfl ⟨fun _=>rfl,by simp⟩ (by omega) ?_ ?_
  ·rintro ⟨V,J⟩ ⟨-,hI⟩ t ht
   have hI:=hI rfl
   injection hI with h1 h2
   subst h1;subst h2
   dsimp only
   simp only [zY] at ht;subst ht
   refine ge ?_
   exact ⟨rfl,rfl⟩
  ·rintro i ⟨V,J⟩ hi hw ⟨hI, -⟩ t ht
   have:i=0:=by omega
   subst this
   have hI:=hI rfl
   injection hI with h1 h2
   subst h1;subst h2
   dsimp only
   simp only [zY] at ht;subst ht
   have b1:(ws'.length+1)*16≤140737488355328:=by omega
   have b2:ws'.length+1≤140737488355328:=by omega
   refine gf (a5 @hwq @zbH @hw @b1 @b2) ?_
   exact ⟨(_,_),⟨fun e=>absurd e (by omega),fun _=>rfl⟩,rfl,rfl,rfl⟩
 ·rintro v h ⟨rfl,rfl⟩
  refine ⟨uN [⟨[],w0::ws'⟩],?_,rfl,by simp⟩
  obtain ⟨H,hH⟩: ∃ H,[Blk.var 36 ((w0::ws').map Sp.c).flatten,Blk.var 84 [.tc 3 [],.ms 0 0 2 (ws'.length+1)]]=H:=⟨_,rfl⟩
  rw [hH]
  have h0:H[0]? =some (.var 36 ((w0::ws').map Sp.c).flatten):=by rw [←hH];rfl
  have h1:H[1]? =some (.var 84 [.tc 3 [],.ms 0 0 2 (ws'.length+1)]):=by rw [←hH];rfl
  have e1:(((w0::ws').map Sp.c).flatten).map (fz 0 H 38)=((w0::ws').map Sp.c).flatten:=by
   refine dL ?_
   rw [List.all_flatten]
   exact all_map fun x=>rfl
  have e2:=rL 2 ((w0::ws').map Sp.c) (by intro e he;obtain ⟨x,_,rfl⟩:=List.mem_map.1 he;rfl)
  rw [List.length_map,List.length_cons] at e2
  have e3:fz 0 H 39 (.ms 0 0 2 (ws'.length+1))=kJ (w0::ws'):=by rw [zmA 38 _ _ _ _ h0,e1,e2]
  have e4:fz 0 H 39 (.tc 3 [])= .tc 3 []:=by rw [zl7];rfl
  rw [zmA 39 _ _ _ _ h1,List.map_cons,List.map_cons,List.map_nil,e3,e4]
  exact PLe.ts rfl fun i e e' he he'=>by
   match i,he,he' with
   |0,he,he'=>
    injection he with he;injection he' with he'
    subst he;subst he'
    have hp:PLes [.tc 3 [],kJ (w0::ws')] (Rw.c ⟨[],w0::ws'⟩):= .cons (PLe.tc_ts 3 _) (.cons (PLe.refl _) .nil)
    exact ⟨hp.len,hp.get⟩
   |i+1,he,_=>cases he
end Go.AL
namespace Go.AL
open Go.Proofs Go.Proofs.Tryz
@[go_sem] def UR05f53.pp:Nat→DPlan
 |5=>⟨[yA,yA,yA,yA,yA,yB,yA,yA,yA,yA,yA,yB,uX,yC,yA],yG,0⟩
 |_=>⟨[],[],0⟩
@[go_sem] def UR05f53.pl:Nat→DPlan
 |5=>⟨[yA,yA,yA,yA,yA,⟨7,0,[1000]⟩,yA,yA,yA,yA,yA,yB,⟨6,0,[1000]⟩,yC,yA],yG,0⟩
 |_=>⟨[],[],0⟩
structure RQ (r:List Rw):Prop where
 l:r.length≤4096
 w: ∀ x∈r,uQ x.w≠0∧x.w.length≤64
 a: ∀ x∈r,x.args.length≤1048576∧ ∀ v∈x.args,v.s.size≤140737488355328
noncomputable def zuM (r:List Rw) (t:List Vl) (m:Nat):Bool:=r.any fun x=>ze8 (x.args=t)&&(uQ x.w).testBit m
theorem RQ.ne {r:List Rw} (h:RQ r): ∀ x∈r,x.w≠[]∧x.w.length≤64:=fun x hx=>⟨fun e=>(h.w x hx).1 (by rw [e];rfl),(h.w x hx).2⟩
theorem RQ.when {r:List Rw} (h:RQ r) {x:Rw} (hx:x∈r):EPure prog G0 78 [uN r,pH x.args] fun v=> ∃ s:List Sp,v=kJ s∧s.length≤65∧0<s.length∧ ∀ m,(uQ s).testBit m=zuM r x.args m:=
 (ztW r (by have:=h.l;omega) h.ne x.args (by have:=(h.a x hx).1;omega) (h.a x hx).2).mono fun v=>by
  rintro ⟨s,rfl,h1,h2⟩
  refine ⟨s,rfl,h1,?_,h2⟩
  apply Classical.byContradiction
  intro q
  have:s=[]:=List.eq_nil_of_length_eq_zero (by omega)
  subst this
  refine (h.w x hx).1 (Nat.eq_of_testBit_eq fun m=> ?_)
  have e:=h2 m
  have:uQ []=0:=rfl
  rw [this] at e
  rw [Nat.zero_testBit] at e ⊢
  apply Classical.byContradiction
  intro q'
  have q':(uQ x.w).testBit m=true:=by simpa using q'
  have:(r.any fun x'=>ze8 (x'.args=x.args)&&(uQ x'.w).testBit m)=true:=List.any_eq_true.2 ⟨x,hx,by rw [pO rfl,q'];rfl⟩
  rw [this] at e;cases e
def OfK (r:List Rw) (y:Rw):Prop:=(∃ x∈r,y.args=x.args)∧y.w.length≤65∧ ∀ m,(uQ y.w).testBit m=zuM r y.args m
open UR05f53 in
theorem zuI (r:List Rw) (h:RQ r) (hne: ∀ x∈r,x.args≠[]):EPure prog G0 53 [uN r] fun v=> ∃ q:List Rw,v=uN q∧q.length≤2*r.length∧ ∀ y∈q,OfK r y:=by
 refine ECall.cutW (R:=fun v _=> ∃ q:List Rw,v=(if r=[] then .nil else uN q)∧(r=[]→q=[])∧q.length≤2*r.length∧ ∀ y∈q,OfK r y) (pv func53 26 false (by kernel_rfl) rfl rfl ?_) ?_
 refine g2 ?_
 rotate_left
 ·rintro p H ⟨q,rfl,q0,q1,q2⟩
  refine ⟨uN q,?_,⟨q,rfl,q1,q2⟩,by simp⟩
  split
  ·rename_i e
   rw [q0 e,iQ];exact PLe.nil_ts 2
  ·rw [vE 0 H 40 _ (rE 36 q)];exact PLe.refl _
 have hl:=h.l
 refine ge ?_
 refine zO r.length (.k:: .k:: .k:: .v:: .v::D9 (D9 (.d:: .d:: .k::[]))) (own:=false) (fun i (q:List Rw)=>[(if i=0 then .nil else uN q),i64 i]) (fun _=>[]) (fun i q=>(i=0→q=[])∧q.length≤2*i∧ ∀ y∈q,OfK r y) [] rfl rfl ⟨fun _=>rfl,by simp,by simp⟩ (by omega) ?_ ?_
 ·rintro q ⟨q0,q1,q2⟩
  refine gm ?_
  refine gf @zM ?_
  refine ⟨q,?_,fun e=>q0 (by rw [e];rfl),q1,q2⟩
  by_cases e:r=[]
  ·rw [if_pos e,if_pos (by rw [e];rfl)]
  ·rw [if_neg e,if_neg (fun w=>e (List.eq_nil_of_length_eq_zero w))]
 ·rintro i q hi hw ⟨q0,q1,q2⟩
  refine gm ?_
  have hx:=zG (f:=Rw.c) [] hi
  have hm:=List.getElem_mem hi
  have hwn:=h.when hm
  obtain ⟨ha1,ha2⟩:=h.a _ hm
  have hn:=hne _ hm
  have hex: ∃ x∈r,r[i].args=x.args:=⟨_,hm,rfl⟩
  generalize r[i]=x at*
  (repeat (first|refine gz ?_|(refine gn ?_;intro zs zh;(try simp only [go_sem,hi,hx,zB] at zh);subst zh;refine gv ?_)|refine yD UR05f53.pp ?_))
  (refine zF rfl rfl rfl ?_;intro sr hsr;simp only [go_sem,hi,hx,zB] at hsr;subst hsr;refine vP rfl (hwn) (by simp) ?_;intro p2 hr2 ts2 hts;simp only [go_sem] at hts;subst hts)
  obtain ⟨s,rfl,s1,s2,s3⟩:=hr2
  have hput:=zt7 q (by omega) x.args hn ha1 ha2 s s2 s1
  have hV:PLe (if i=0 then .nil else uN q) (uN q):=by
   split
   ·rename_i e;rw [q0 e];exact PLe.nil_ts 2
   ·exact PLe.refl _
  (repeat (first|refine gz ?_|(refine gn ?_;intro zs zh;(try simp only [go_sem,hi,hx,zB] at zh);subst zh;refine gv ?_)|refine yD UR05f53.pp ?_))
  (refine zF rfl rfl rfl ?_;intro zs zh;simp only [go_sem,hi,hx,zB] at zh;subst zh;refine zP (by decide) (by decide) ((hput.call zK (by simp) _).args (.cons hV (.cons (PLe.refl _) (.cons (PLe.refl _) .nil)))) ?_;intro p2 h2 hr2 ts2 hts;simp only [go_sem] at hts;subst hts)
  obtain ⟨⟨q',rfl,p1,p2⟩,rfl⟩:=hr2
  (repeat (first|refine gz ?_|(refine gn ?_;intro zs zh;(try simp only [go_sem,hw] at zh);subst zh;refine gv ?_)|refine yD UR05f53.pp ?_))
  refine ⟨q',⟨fun e=>absurd e (by omega),by omega,fun y hy=> ?_⟩,rfl,rfl,rfl⟩
  rcases p2 y hy with hy|rfl
  ·exact q2 y hy
  ·exact ⟨hex,s1,s3⟩
open UR05f53 in
theorem zt8 (x:Rw) (h:RQ [x]) (hx0:x.args=[]):EPure prog G0 53 [uN [x]] fun v=> ∃ y:Rw,v=uN [y]∧y.args=[]∧OfK [x] y:=by
 refine ECall.cut (R:=fun v _=> ∃ y:Rw,v=uN [y]∧y.args=[]∧OfK [x] y) (pv func53 26 false (by kernel_rfl) rfl rfl ?_) (by rintro p H ⟨y,rfl,hy⟩;exact ⟨y,vE 0 H 40 _ (rE 36 [y]),hy⟩)
 refine g2 ?_
 have hm:x∈[x]:=by simp
 have hwn:=h.when hm
 rw [hx0] at hwn
 obtain ⟨xa,xw⟩:=x
 dsimp only at hx0
 subst hx0
 refine ge ?_
 refine zO 1 (.k:: .k:: .k:: .v:: .v::D9 (D9 (.d:: .d:: .k::[]))) (own:=false) (fun i (V:PV)=>[V,i64 i]) (fun _=>[]) (fun i V=>(i=0→V= .nil)∧(i=1→ ∃ y:Rw,V=uN [y]∧y.args=[]∧OfK [⟨[],xw⟩] y)) .nil rfl rfl ⟨fun _=>rfl,fun e=>absurd e (by omega)⟩ (by omega) ?_ ?_
 ·rintro V ⟨-,hV⟩
  refine gm ?_
  refine ge ?_
  exact hV rfl
 ·rintro i V hi hw ⟨hV, -⟩ t ht
  have:i=0:=by omega
  subst this
  have hV:=hV rfl
  subst hV
  simp only [zY] at ht;subst ht
  (repeat (first|refine gz ?_|(refine gn ?_;intro zs zh;(try simp only [go_sem] at zh);subst zh;refine gv ?_)|refine yD UR05f53.pp ?_))
  (refine zF rfl rfl rfl ?_;intro sr hsr;simp only [go_sem] at hsr;subst hsr;refine vP rfl (hwn) (by simp) ?_;intro p2 hr2 ts2 hts;simp only [go_sem] at hts;subst hts)
  obtain ⟨s,rfl,s1,s2,s3⟩:=hr2
  have hput:=ztX s s2 s1
  (repeat (first|refine gz ?_|(refine gn ?_;intro zs zh;(try simp only [go_sem] at zh);subst zh;refine gv ?_)|refine yD UR05f53.pp ?_))
  (refine zF rfl rfl rfl ?_;intro zs zh;simp only [go_sem] at zh;subst zh;refine zP (by decide) (by decide) ((hput.call zK (by simp) _).args (.cons (PLe.nil_ts 2) (.cons (PLe.refl _) (.cons (PLe.refl _) .nil)))) ?_;intro p2 h2 hr2 ts2 hts;simp only [go_sem] at hts;subst hts)
  obtain ⟨rfl,rfl⟩:=hr2
  (repeat (first|refine gz ?_|(refine gn ?_;intro zs zh;(try simp only [go_sem,hw] at zh);subst zh;refine gv ?_)|refine yD UR05f53.pp ?_))
  exact ⟨_,⟨fun e=>absurd e (by omega),fun _=>⟨⟨[],s⟩,rfl,rfl,⟨⟨_,hm,rfl⟩,s1,s3⟩⟩⟩,rfl,rfl,rfl⟩
end Go.AL
namespace Go.AL
open Go.Proofs Go.Proofs.Tryz
def TupOk (P:List Vl→Prop) (e:List PV):Prop:= ∃ a:List Vl,P a∧ ∃ c:PV,e=[c]∧FzL c (pH a)
theorem znG {P:List Vl→Prop}: ∀ {E:List (List PV)},(∀ e∈E,TupOk P e)→ ∃ q:List (List Vl),q.length=E.length∧(∀ y∈q,P y)∧ ∀ (h:Heap) (f:Nat) (i:Nat) (e e':List PV),(E.map fun e=>e.map (fz 0 h (f+5)))[i]? =some e→(q.map fun a=>[pH a])[i]? =some e'→e.length=e'.length∧ ∀ (j:Nat) (p q:PV),e[j]? =some p→e'[j]? =some q→PLe p q
 | [],_=>⟨[],rfl,by simp,fun h f i e e' he=>by simp at he⟩
 | e::E,hE=>by
  obtain ⟨q,h1,h2,h3⟩:=znG fun e he=>hE e (List.mem_cons_of_mem _ he)
  obtain ⟨y,hy,c,rfl,ha⟩:=hE e (List.mem_cons_self ..)
  refine ⟨y::q,by simp [h1],fun z hz=> ?_,fun h f i e e' he he'=> ?_⟩
  ·rcases List.mem_cons.1 hz with rfl|hz
   ·exact hy
   ·exact h2 z hz
  ·cases i with
   |zero=>
    simp only [List.map_cons,List.map_nil,List.getElem?_cons_zero,Option.some.injEq] at he he'
    subst he;subst he'
    have hp:PLes [fz 0 h (f+5) c] [pH y]:= .cons (ha h f) .nil
    exact ⟨hp.len,hp.get⟩
   |succ i=>exact h3 h f i e e' (by simpa using he) (by simpa using he')
def AtK (r:List Rw) (m:Int) (a:List Vl):Prop:=(∃ x∈r,a=x.args)∧0≤m∧m<64∧zuM r a m.toNat=true
abbrev ztV (L:List (List Vl)):PV:= .ts 1 (L.map fun a=>[pH a])
theorem AtK.of {r:List Rw} {m:Int} {y:Rw} (h:OfK r y) (hh:(decide (0≤m)&&(decide (m<64)&&(uQ y.w).testBit m.toNat))=true):AtK r m y.args:=by
 simp only [Bool.and_eq_true,decide_eq_true_eq] at hh
 exact ⟨h.1,hh.1,hh.2.1,by rw [←h.2.2];exact hh.2.2⟩
theorem zuL (r:List Rw) (h:RQ r) (hne: ∀ x∈r,x.args≠[]) (m:Int):EPure prog G0 22 [uN r,i64 m] fun v=> ∃ L:List (List Vl),v=ztV L∧L.length≤8192∧ ∀ a∈L,AtK r m a:=by
 refine ECall.cutW (R:=fun v _=> ∃ (E:List (List PV)) (V:PV) (J:Heap),v=V∧GrowN 0 32 E 1 J V∧E.length≤8192∧ ∀ e∈E,TupOk (AtK r m) e) (pv func22 34 false (by kernel_rfl) rfl rfl ?_) ?_
 refine g2 ?_
 rotate_left
 ·rintro p H ⟨E,V,J,rfl,hG,hl,hR⟩
  obtain ⟨q,q1,q2,q3⟩:=znG hR
  refine ⟨ztV q,?_,⟨q,rfl,by omega,q2⟩,by simp⟩
  rcases hG with ⟨rfl,rfl⟩|⟨k,rfl,hk⟩
  ·have:q=[]:=List.eq_nil_of_length_eq_zero (by simpa using q1)
   subst this
   rw [iQ];exact PLe.nil_ts 1
  ·have e:fz 0 H 40 (.vec (k+0) 1 E)= .ts 1 (E.map fun e=>e.map (fz 0 H 39)):=by rw [pD,zaV]
   rw [e]
   exact PLe.ts (by simp [q1]) (q3 H 34)
 have hl:=h.l
 refine ge ?_
 (refine g1 ?_;refine zC ((zuI r h hne).call zK (by simp) _) ?_;intro p2 h2 hr2;refine g2 ?_)
 obtain ⟨⟨q,rfl,q1,q2⟩,rfl⟩:=hr2
 refine ge ?_
 refine zO q.length (K4 (.k:: .v:: .k:: .v:: .k:: .k::D9 (D9 (D4 (.d:: .k::[]))))) (own:=false) (fun i (s:List (List PV)×PV×Heap)=>[s.2.1,i64 i]) (fun s=>s.2.2) (fun i s=>GrowN 0 32 s.1 1 s.2.2 s.2.1∧s.1.length≤i∧ ∀ e∈s.1,TupOk (AtK r m) e) ([],.nil,[]) rfl rfl ⟨.inl ⟨rfl,rfl⟩,by simp,by simp⟩ (by omega) ?_ ?_
 ·rintro ⟨E,V,J⟩ ⟨hG,hE,hR⟩ t ht
  dsimp only at*
  simp only [zY] at ht;subst ht
  refine gf @zM ?_
  exact ⟨E,V,J,rfl,hG,by omega,hR⟩
 ·rintro i ⟨E,V,J⟩ hi hw ⟨hG,hE,hR⟩ t ht
  dsimp only at*
  simp only [zY] at ht;subst ht
  have hx:=zG (f:=Rw.c) [] hi
  have hO:=q2 _ (List.getElem_mem hi)
  generalize q[i]=y at*
  obtain ⟨x,hxm,hxa⟩:=hO.1
  have hyn:y.args≠[]:=by rw [hxa];exact hne x hxm
  have hyl:y.args.length≤1048576:=by rw [hxa];exact (h.a x hxm).1
  have hwl:=hO.2.1
  have hE2:E.length≤8192:=by omega
  have hat:=AtK.of (m:=m) hO
  refine gf (a3 @hi @hx @zB) ?_
  (refine g1f (a3 @hi @hx @zB) ?_;refine zC ((ztD y.w (by omega) m).call zK (by simp) _) ?_;intro p2 h2 hr2;refine g2 ?_)
  obtain ⟨rfl,hh⟩:=hr2
  have hh:=hh.symm
  subst hh
  cases hb:(decide (0≤m)&&(decide (m<64)&&(uQ y.w).testBit m.toNat)) with
  |false=>
   refine gf (a2 @hw @zB) ?_
   exact ⟨(E,V,J),⟨hG,by dsimp only;omega,hR⟩,rfl,rfl,rfl⟩
  | true=>
   have hat:=hat hb
   clear hb hO hxa
   obtain ⟨ya,yw⟩:=y
   dsimp only at*
   obtain ⟨a0,as',rfl⟩: ∃ a0 as',ya=a0::as':=by
    cases ya with
    |nil=>exact absurd rfl hyn
    |cons a b=>exact ⟨a,b,rfl⟩
   have hal:as'.length+1≤1048576:=by simpa using hyl
   have new: ∀ k:Nat,TupOk (AtK r m) [.vec k 3 (a0.c::as'.map Vl.c)]:=fun k=>⟨_,hat,_,rfl,zr9 (ztO (a0::as'))⟩
   rcases hG with ⟨rfl,rfl⟩|⟨k,rfl,hk⟩
   ·refine gf (a9 @hi @hx @zB @hw @zbH @rU @sB @qK @rN) ?_
    exact ⟨([[.vec J.length 3 (a0.c::as'.map Vl.c)]],.vec (J.length+1) 1 [[.vec J.length 3 (a0.c::as'.map Vl.c)]],J++[.vec 79 3 (as'.length+1),.vec 32 1 1]),⟨.inr ⟨J.length+1,rfl,by simp⟩,by simp,by simpa using new _⟩,rfl,rfl,rfl⟩
   ·have Fq: ∀ l:List Blk,(J++l)[k]? =some (.vec 32 1 E.length):=fun l=>by rw [List.getElem?_append_left (gsi hk).1];exact hk
    have hql:k<J.length:=(gsi hk).1
    have Sq: ∀ (l:List Blk) (b:Blk),(J++l).set k b=J.set k b++l:=fun l b=>List.set_append_left _ _ hql
    have Gq: ∀ (b:Blk) (l:List Blk),(J.set k b++l)[k]? =some b:=fun b l=>by rw [List.getElem?_append_left (by rw [List.length_set];exact hql),List.getElem?_set_self hql]
    simp only [Nat.add_zero]
    refine gf (a9 @hi @hx @zB @hw @zbH @rU @sB @qK (a3 @rN @Fq @Sq)) ?_
    exact ⟨(E++[[.vec J.length 3 (a0.c::as'.map Vl.c)]],.vec k 1 (E++[[.vec J.length 3 (a0.c::as'.map Vl.c)]]),J.set k (.vec 32 1 (E.length+1))++[.vec 79 3 (as'.length+1)]),⟨.inr ⟨k,rfl,by rw [Gq];simp⟩,by simp;omega,fun e he=>(List.mem_append.1 he).elim (hR e) fun he=>by rw [List.mem_singleton] at he;rw [he];exact new _⟩,rfl,rfl,rfl⟩
theorem zuA (x:Rw) (h:RQ [x]) (hx0:x.args=[]) (m:Int):EPure prog G0 22 [uN [x],i64 m] fun v=> ∃ L:List (List Vl),v=ztV L∧L.length≤8192∧ ∀ a∈L,AtK [x] m a:=by
 have hAt: ∀ y:Rw,y.args=[]→OfK [x] y→(decide (0≤m)&&(decide (m<64)&&(uQ y.w).testBit m.toNat))=true→AtK [x] m []:=fun y e hO hb=>by
  have:=AtK.of (m:=m) hO hb
  rw [e] at this;exact this
 refine ECall.cutW (R:=fun v H=>v= .nil∨v= .ms 0 0 1 1∧H=[.var 32 [.tc 3 []]]∧AtK [x] m []) (pv func22 34 true (by kernel_rfl) rfl rfl ?_) ?_
 refine g2 ?_
 rotate_left
 ·rintro p H (rfl|⟨rfl,rfl,hA⟩)
  ·exact ⟨ztV [],by rw [iQ];exact PLe.nil_ts 1,⟨[],rfl,by simp,by simp⟩,by simp⟩
  ·refine ⟨ztV [[]],?_,⟨[[]],rfl,by simp,by simpa using hA⟩,by simp⟩
   rw [zmA (h:=[.var 32 [.tc 3 []]]) 39 0 0 1 1 (t:=32) (cs:=[.tc 3 []]) rfl]
   have e4:fz 0 [Blk.var 32 [.tc 3 []]] 39 (.tc 3 [])= .tc 3 []:=by rw [zl7];rfl
   rw [List.map_cons,List.map_nil,e4]
   exact PLe.ts rfl fun i e e' he he'=>by
    match i,he,he' with
    |0,he,he'=>
     injection he with he;injection he' with he'
     subst he;subst he'
     have hp:PLes [.tc 3 []] [pH []]:= .cons (PLe.tc_ts 3 _) .nil
     exact ⟨hp.len,hp.get⟩
    |i+1,he,_=>cases he
 refine ge ?_
 (refine g1 ?_;refine zC ((zt8 x h hx0).call zK (by simp) _) ?_;intro p2 h2 hr2;refine g2 ?_)
 obtain ⟨⟨y,rfl,hy0,hO⟩,rfl⟩:=hr2
 have hwl:=hO.2.1
 have hAt:=hAt y hy0 hO
 obtain ⟨ya,yw⟩:=y
 dsimp only at*
 subst hy0
 refine ge ?_
 refine zO 1 (K4 (.k:: .v:: .k:: .v:: .k:: .k::D9 (D9 (D4 (.d:: .k::[]))))) (own:=true) (fun i (s:PV×Heap)=>[s.1,i64 i]) (fun s=>s.2) (fun i s=>(i=0→s=(.nil,[]))∧(i=1→s.1= .nil∨s.1= .ms 0 0 1 1∧s.2=[.var 32 [.tc 3 []]]∧AtK [x] m [])) (.nil,[]) rfl rfl ⟨fun _=>rfl,fun e=>absurd e (by omega)⟩ (by omega) ?_ ?_
 ·rintro ⟨V,J⟩ ⟨-,hI⟩ t ht
  dsimp only at*
  simp only [zY] at ht;subst ht
  refine ge ?_
  exact hI rfl
 ·rintro i ⟨V,J⟩ hi hw ⟨hI, -⟩ t ht
  have:i=0:=by omega
  subst this
  have hI:=hI rfl
  injection hI with h1 h2
  subst h1;subst h2
  dsimp only
  simp only [zY] at ht;subst ht
  refine ge ?_
  (refine g1 ?_;refine zC ((ztD yw (by omega) m).call zK (by simp) _) ?_;intro p2 h2 hr2;refine g2 ?_)
  obtain ⟨rfl,rfl⟩:=hr2
  cases hb:(decide (0≤m)&&(decide (m<64)&&(uQ yw).testBit m.toNat)) with
  |false=>
   refine gf @hw ?_
   exact ⟨(.nil,[]),⟨fun e=>absurd e (by omega),fun _=> .inl rfl⟩,rfl,rfl,rfl⟩
  |true=>
   have hAt:=hAt hb
   refine gf (a2 @hw @zbH) ?_
   exact ⟨(_,_),⟨fun e=>absurd e (by omega),fun _=> .inr ⟨rfl,rfl,hAt⟩⟩,rfl,rfl,rfl⟩
end Go.AL
namespace Go.AL
open Go.Proofs Go.Proofs.Tryz
theorem zsS {k:Nat} {key:List Vl} {m:Int} {z:Rw}: ∀ {l:List Rw},zjH k key m l=some z→z∈l∧z.args.take k=key∧fL z.w m=true
 | y::l,h=>by
  unfold zjH at h
  by_cases q:(decide (y.args.take k=key)&&fL y.w m)=true
  ·rw [if_pos q] at h
   injection h with h
   subst h
   simp only [Bool.and_eq_true,decide_eq_true_eq] at q
   exact ⟨List.mem_cons_self ..,q⟩
  ·rw [if_neg q] at h
   obtain ⟨a,b⟩:=zsS h
   exact ⟨List.mem_cons_of_mem _ a,b⟩
theorem zuG {k:Nat} {key:List Vl} {m:Int} {x:Rw} {l:List Rw} (hx:x∈l) (hk:x.args.take k=key) (hh:fL x.w m=true): ∃ z,zjH k key m l=some z:=by
 cases h:zjH k key m l with
 |some z=>exact ⟨z,rfl⟩
 |none=>have:=zr8 h x hx hk;rw [hh] at this;cases this
theorem zt5 {k:Nat} {r:List Rw} (hc:CanL r) (hk:zr1 k r) {x z:Rw} (hx:x∈r) (hz:z∈r) (ht:z.args.take k=x.args.take k) {m:Nat} (hxm:(uQ x.w).testBit m=true) (hzm:(uQ z.w).testBit m=true):z.args=x.args:=by
 apply Classical.byContradiction
 intro q
 have hp:=(iW r).1 hc.1
 have:=(zjB hc).1 hk _ _ q ht
 rw [zoV hp hz,zoV hp hx] at this
 have h2:=zn9 this m
 rw [hzm,hxm] at h2
 cases h2
theorem RelX.rq {ty:List Int} {r:List Rw} (h:RelX ty r) (ht:ty.length≤1048576) (hl:r.length≤4096):RQ r:=
 ⟨hl,fun x hx=>⟨zdB (h.1.2 x hx),(h.1.2 x hx).len⟩,fun x hx=>⟨by rw [(h.2 x hx).1];exact ht,fun v hv=>by have:=(h.2 x hx).sz v hv;omega⟩⟩
theorem RelX.shape {ty:List Int} {r:List Rw} (h:RelX ty r):(∀ x∈r,x.args≠[])∨ ∃ x,r=[x]∧x.args=[]:=by
 by_cases ht:ty=[]
 ·subst ht
  have ha: ∀ x∈r,x.args=[]:=fun x hx=>List.eq_nil_of_length_eq_zero (h.2 x hx).1
  match r,h,ha with
  | [],_,_=>exact .inl (by simp)
  | [x],_,ha=>exact .inr ⟨x,rfl,ha x (by simp)⟩
  |x::y::r,h,ha=>
   exfalso
   have hp:=(iW _).1 h.1.1
   have:=(List.pairwise_cons.1 hp).1 y (List.mem_cons_self ..)
   rw [ha x (by simp),ha y (by simp)] at this
   exact zaF.ne this rfl
 ·refine .inl fun x hx e=>ht ?_
  have:=(h.2 x hx).1
  rw [e] at this
  exact List.eq_nil_of_length_eq_zero this.symm
theorem ztU {ty:List Int} {r:List Rw} (h:RelX ty r) (ht:ty.length≤1048576) (hl:r.length≤4096) (m:Int):EPure prog G0 22 [uN r,i64 m] fun v=> ∃ L:List (List Vl),v=ztV L∧L.length≤8192∧ ∀ a∈L,AtK r m a:=by
 rcases h.shape with hn|⟨x,rfl,hx⟩
 ·exact zuL r (h.rq ht hl) hn m
 ·exact zuA x (h.rq ht hl) hx m
theorem RelX.nil (ty:List Int):RelX ty []:=⟨⟨(iW []).2 List.Pairwise.nil,by simp⟩,by simp⟩
theorem ztG {p:Pg} (hp:p.ok) (hle:p.sm) {x:Dt} (hX:DatX p x) {i:Nat} (hi:i<p.preds.length) (hir:i<x.rels.length) (hil:i<x.lats.length) (hof:p.preds[i].of'= -1):
  (∀ m:Int,x.rels[i].length≤4096→EPure prog G0 22 [uN x.rels[i],i64 m] fun v=> ∃ L:List (List Vl),v=ztV L∧L.length≤8192∧ ∀ a∈L,AtK x.rels[i] m a)∧
  ∀ (m:Int) (a:List Vl),AtK x.rels[i] m a→(a.length≤1048576)∧ziY p i a=(a.take p.preds[i].key.toNat,true)∧ztF p x i (a.take p.preds[i].key.toNat) m=some ⟨i,a, -1⟩:=by
 obtain ⟨-,htl⟩:=znP hp hle hX.tv
 have htl:=(htl _ (List.getElem_mem hi)).1
 obtain ⟨h1,h2,h3⟩:=hX.at' i hi hir hil
 have hf:=((ze0 p hp hle).2 hX.tv).1.p _ (List.getElem_mem hi)
 obtain ⟨k0,k1, -⟩:=hf
 cases hb:p.preds[i].base with
 |false=>
  obtain ⟨e, -⟩:=h1 hb
  rw [e]
  refine ⟨fun m hm=>ztU (RelX.nil []) (by simp) hm m,fun m a hA=> ?_⟩
  obtain ⟨⟨y,hy, -⟩, -⟩:=hA
  cases hy
 | true=>
  obtain ⟨-,hR,hK⟩:=h3 hb hof
  refine ⟨fun m hm=>ztU hR htl hm m,fun m a hA=> ?_⟩
  obtain ⟨⟨y,hy,rfl⟩,m0,m1,hm⟩:=hA
  obtain ⟨n,rfl⟩:=Int.eq_ofNat_of_zero_le m0
  rw [Int.toNat_natCast] at hm
  have hal:=(hR.2 y hy).1
  unfold zuM at hm
  obtain ⟨x',hx',hq⟩:=List.any_eq_true.1 hm
  rw [Bool.and_eq_true,zoX] at hq
  obtain ⟨q1,q2⟩:=hq
  have hn:n<64:=by omega
  have hh:fL x'.w (n:Int)=true:=by rw [znC hn];exact q2
  obtain ⟨z,hz⟩:=zuG (k:=p.preds[i].key.toNat) (key:=y.args.take p.preds[i].key.toNat) hx' (by rw [q1]) hh
  obtain ⟨z1,z2,z3⟩:=zsS hz
  rw [znC hn] at z3
  have hza:z.args=y.args:=by
   rw [←q1] at z2
   rw [←q1]
   exact zt5 hR.1 hK hx' z1 z2 q2 z3
  have hkey:zcI p i=p.preds[i].key:=by unfold zcI;rw [Int.toNat_natCast,eD hi]
  refine ⟨by omega,?_,?_⟩
  ·unfold ziY
   rw [hkey,if_pos ⟨by omega,by omega,k0,by omega⟩]
  ·rw [ztN hX hi hir hil]
   unfold lkQ
   have hkl:((y.args.take p.preds[i].key.toNat).length:Int)=p.preds[i].key:=by rw [List.length_take];omega
   rw [if_neg (fun w=>w.elim (fun w=>by rw [hb] at w;cases w) fun w=>w hkl),if_neg (fun w=>w hof),hz]
   show some (⟨i,z.args, -1⟩:Fa)=_
   rw [hza]
end Go.AL
