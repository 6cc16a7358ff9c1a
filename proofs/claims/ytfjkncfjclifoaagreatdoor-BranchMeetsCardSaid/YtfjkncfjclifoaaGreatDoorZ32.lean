/-
  Programs: classes of variables: types set, classes joined.
-/
import Derived.Test.YtfjkncfjclifoaaGreatDoorZ31
set_option linter.unusedSimpArgs false
set_option linter.unusedVariables false
set_option maxRecDepth 100000
set_option maxHeartbeats 4000000
namespace Go.AL
open Go.Proofs Go.Proofs.Tryz
@[go_sem] def UTyp11f172.pl:Nat→DPlan
 |4=>⟨[⟨0,0,[]⟩,⟨0,0,[]⟩,⟨0,0,[]⟩,⟨1,0,[]⟩,⟨0,0,[]⟩,⟨0,0,[]⟩,⟨0,0,[]⟩,⟨0,0,[]⟩,⟨0,0,[]⟩,⟨4,0,[]⟩,⟨0,0,[]⟩,⟨4,0,[]⟩,⟨0,0,[]⟩,⟨0,0,[]⟩,⟨0,0,[]⟩,⟨4,0,[]⟩],[0,1,2,3,4,5,6,7,8,9,10,11,12,13,14,15],0⟩
 |_=>⟨[],[],0⟩
@[go_sem] def jE:DPlan:=⟨[⟨0,0,[]⟩,⟨0,0,[]⟩,⟨0,0,[]⟩,⟨1,0,[]⟩,⟨0,0,[]⟩,⟨0,0,[]⟩,⟨0,0,[]⟩,⟨0,0,[]⟩,⟨0,0,[]⟩,⟨4,0,[]⟩,⟨0,0,[]⟩,⟨4,0,[]⟩,⟨0,0,[]⟩,⟨0,0,[]⟩,⟨0,0,[]⟩,⟨4,0,[]⟩],[0,1,2,3,4,5,6,7,8,9,10,11,12,13,14,15],0⟩
attribute [-go_sem] only splice
def CC (qm:Nat) (cls:List Nat) (tys:List Int):List PV:= .mp qm::(cls.map (fun n:Nat=>i64 n)++tys.map fun n=>i64 n)
section
variable {qm:Nat} {cls:List Nat} {tys:List Int}
theorem rG (h1:cls.length=36) (h2:tys.length=36):(CC qm cls tys).length=73:=by simp [CC,h1,h2]
theorem kE:(CC qm cls tys).getD 0 .un= .mp qm:=rfl
theorem cc_1 (h1:cls.length=36) {i:Nat} (hi:i<36):((CC qm cls tys).drop (1+i)).getD 0 .un=i64 (cls.getD i 0:Nat):=by
 rw [List.getD_eq_getElem?_getD,List.getElem?_drop,Nat.add_zero,Nat.add_comm]
 simp only [CC,List.getElem?_cons_succ]
 rw [List.getElem?_append_left (by simp [h1,hi]),List.getElem?_map,List.getD_eq_getElem?_getD,List.getElem?_eq_getElem (by omega)]
 rfl
theorem zk1 (h1:cls.length=36) (h2:tys.length=36) {i:Nat} (hi:i<36):((CC qm cls tys).drop (37+i)).getD 0 .un=i64 (tys.getD i 0):=by
 rw [List.getD_eq_getElem?_getD,List.getElem?_drop,Nat.add_zero,show 37+i=(36+i)+1 by omega]
 simp only [CC,List.getElem?_cons_succ]
 rw [List.getElem?_append_right (by simp [h1]),List.length_map,h1,Nat.add_sub_cancel_left,List.getElem?_map,List.getD_eq_getElem?_getD,List.getElem?_eq_getElem (by omega)]
 rfl
theorem zbE {cs:List PV} {o:Nat} {v:PV} (h:o<cs.length):splice cs o [v]=cs.set o v:=by
 unfold splice
 rw [List.set_eq_take_append_cons_drop,if_pos h]
 simp
theorem cs_1 (h1:cls.length=36) (h2:tys.length=36) {i v:Nat} (hi:i<36):splice (CC qm cls tys) (1+i) [i64 v]=CC qm (cls.set i v) tys:=by
 rw [zbE (by rw [rG h1 h2];omega),Nat.add_comm]
 simp only [CC,List.set_cons_succ]
 rw [List.set_append_left _ _ (by simp [h1,hi]),List.map_set]
theorem cs_2 (h1:cls.length=36) (h2:tys.length=36) {i:Nat} {v:Int} (hi:i<36):splice (CC qm cls tys) (37+i) [i64 v]=CC qm cls (tys.set i v):=by
 rw [zbE (by rw [rG h1 h2];omega),show 37+i=(36+i)+1 by omega]
 simp only [CC,List.set_cons_succ]
 rw [List.set_append_right _ _ (by simp [h1]),List.length_map,h1,Nat.add_sub_cancel_left,List.map_set]
end
def Has (es:NM) (s:BA):Prop:=(vV (.string s) es 0).isSome=true
structure CI (es:NM) (cls:List Nat) (tys:List Int):Prop where
 n:NMap es es.length
 le:es.length≤36
 l1:cls.length=36
 l2:tys.length=36
 f: ∃ rt d:Nat→Nat, ∀ x,x<es.length→cls.getD x 0<es.length∧rt x<es.length∧cls.getD (rt x) 0=rt x∧d (rt x)=0∧(cls.getD x 0=x→rt x=x)∧(cls.getD x 0≠x→rt x=rt (cls.getD x 0)∧d (cls.getD x 0)<d x)
structure Upd (qm qc:Nat) (es:NM) (cls:List Nat) (tys:List Int) (h h':Heap):Prop where
 m:h'[qm]? =some (.map es)
 c:h'[qc]? =some (.var 268 (CC qm cls tys))
 k: ∀ (r:Nat) (b:Blk),r≠qm→r≠qc→h[r]? =some b→h'[r]? =some b
theorem Upd.trans {qm qc:Nat} {es es':NM} {cls cls':List Nat} {tys tys':List Int} {h h' h'':Heap} (a:Upd qm qc es cls tys h h') (b:Upd qm qc es' cls' tys' h' h''):Upd qm qc es' cls' tys' h h'':=⟨b.m,b.c,fun r c h1 h2 h3=>b.k r c h1 h2 (a.k r c h1 h2 h3)⟩
theorem Upd.app {qm qc:Nat} {es:NM} {cls:List Nat} {tys:List Int} {h h':Heap} (a:Upd qm qc es cls tys h h') (l:Heap):Upd qm qc es cls tys h (h'++l):=
 ⟨by rw [List.getElem?_append_left (gsi a.m).1];exact a.m,by rw [List.getElem?_append_left (gsi a.c).1];exact a.c,fun r c h1 h2 h3=>by
  have:=a.k r c h1 h2 h3
  rw [List.getElem?_append_left (gsi this).1];exact this⟩
theorem Upd.refl {qm qc:Nat} {es:NM} {cls:List Nat} {tys:List Int} {h:Heap} (m:h[qm]? =some (.map es)) (c:h[qc]? =some (.var 268 (CC qm cls tys))):Upd qm qc es cls tys h h:=⟨m,c,fun _ _ _ _ h=>h⟩
theorem lZ {k:Value} {x:Value×PV}: ∀ {es:NM} {j:Nat},(vV k es j).isSome=true→(vV k (es++[x]) j).isSome=true
 | [],_,h=>by cases h
 | y::es,j,h=>by
  simp only [List.cons_append,vV] at h ⊢
  by_cases hv:sY k y.1=true
  ·rw [if_pos hv];rfl
  ·rw [if_neg hv] at h ⊢
   exact lZ h
theorem gW {s:BA} {p:PV}: ∀ {es:NM} {j:Nat},(vV (.string s) (es++[(.string s,p)]) j).isSome=true
 | [],j=>by simp [vV,sY]
 |y::es,j=>by
  simp only [List.cons_append,vV]
  split
  ·rfl
  ·exact gW
theorem CI.push {es:NM} {cls:List Nat} {tys:List Int} (h:CI es cls tys) (hl:es.length<36) (s:BA):CI (es++[(.string s,i64 (es.length:Nat))]) (cls.set es.length es.length) tys:=by
 obtain ⟨h1,h2,h3,h4,rt,d,h5⟩:=h
 refine ⟨?_,by simp;omega,by simp [h3],h4,fun x=>if x=es.length then x else rt x,fun x=>if x=es.length then 0 else d x,fun x hx=> ?_⟩
 ·intro x hx
  rw [List.length_append,List.length_singleton]
  rcases List.mem_append.1 hx with hx|hx
  ·obtain ⟨a,i,e,hi⟩:=h1 x hx
   exact ⟨a,i,e,by omega⟩
  ·simp at hx;subst hx;exact ⟨⟨s,rfl⟩,_,rfl,by omega⟩
 ·rw [List.length_append,List.length_singleton] at hx ⊢
  have gs: ∀ y,(cls.set es.length es.length).getD y 0=if y=es.length then es.length else cls.getD y 0:=fun y=>by
   rw [List.getD_eq_getElem?_getD,List.getElem?_set,List.getD_eq_getElem?_getD]
   by_cases e:es.length=y
   ·subst e;simp [h3,hl]
   ·simp [e,Ne.symm e]
  simp only [gs]
  by_cases e:x=es.length
  ·subst e;simp
  ·obtain ⟨aa1,aa2,aa3,aa4,aa5,aa6⟩:=h5 x (by omega)
   have e2:rt x≠es.length:=by omega
   have e3:cls.getD x 0≠es.length:=by omega
   simp only [e,e2,e3,if_false]
   exact ⟨by omega,by omega,aa3,aa4,aa5,aa6⟩
open UTyp11f172 in
theorem dM (h:Heap) (qm qc:Nat) (es:NM) (cls:List Nat) (tys:List Int) (hm:h[qm]? =some (.map es)) (hc:h[qc]? =some (.var 268 (CC qm cls tys))) (hI:CI es cls tys) (s:BA) (hn:Has es s∨es.length<36):
  ECall prog G0 172 [.ptr qc 0,yQ s] h fun p h'=> ∃ (i:Nat) (es':NM) (cls':List Nat),p=i64 i∧i<es'.length∧cls'.getD i 0=i∧Upd qm qc es' cls' tys h h'∧h'.length=h.length∧CI es' cls' tys∧es'.length≤es.length+1∧(Has es s→es'=es∧cls'=cls)∧(∀ s',Has es s'→Has es' s')∧Has es' s:=by
 refine pv func172 52 false (by kernel_rfl) rfl rfl ?_
 refine g2 ?_
 have ha:=hI.n.all
 have hqm:qm<h.length:=(gsi hm).1
 have hqc:qc<h.length:=(gsi hc).1
 have hne:qm≠qc:=fun e=>by subst e;rw [hm] at hc;cases hc
 have hcl:=rG (qm:=qm) hI.l1 hI.l2
 cases hg:vV (.string s) es 0 with
 | some x=>
  obtain ⟨j,p⟩:=x
  have hlk:=lC hm ha hg
  obtain ⟨y,hy,rfl⟩:=mQ hg
  obtain ⟨_,i,e,hi⟩:=hI.n y hy
  rw [e] at hlk
  have hHas:Has es s:=by unfold Has;rw [hg];rfl
  obtain ⟨rt,d,hf⟩:=hI.f
  refine gf (a4 @hc @hlk @kE @hcl) ?_
  refine zW (K4 (.k:: .v::K9 (K9 (K9 (K4 (D9 (D4 (.d:: .k::[])))))))) (fun (x:Nat)=>[i64 x]) (fun _=>h) (fun x=>x<es.length) (fun x=>d x) (own:=false) i rfl rfl hi ?_
  intro x hx
  refine gm ?_
  obtain ⟨aa1,aa2,aa3,aa4,aa5,aa6⟩:=hf x hx
  have hx36:x<36:=by have:=hI.le;omega
  have c1:=cc_1 (qm:=qm) (tys:=tys) hI.l1 hx36
  by_cases hr:cls.getD x 0=x
  ·have e1:(((cls.getD x 0:Nat):Int)!=(x:Int))=false:=by rw [hr];exact bne_self_eq_false _
   refine gf (a6 @hc @c1 @hcl @hx36 @zB @e1) ?_
   exact ⟨x,es,cls,rfl,hx,hr,Upd.refl hm hc,rfl,hI,by omega,fun _=>⟨rfl,rfl⟩,fun _ h=>h,hHas⟩
  ·have e1:(((cls.getD x 0:Nat):Int)!=(x:Int))=true:=by rw [bne_iff_ne];omega
   refine gf (a6 @hc @c1 @hcl @hx36 @zB @e1) ?_
   exact ⟨_,aa1,(aa6 hr).2,rfl,rfl,rfl⟩
 | none=>
  have hlk:=lD hm ha hg
  have hl:es.length<36:=hn.resolve_left (fun k=>by unfold Has at k;rw [hg] at k;cases k)
  refine gf (a4 @hc @hlk @kE @hcl) ?_
  (refine wU ?_;intro sr hsr;simp only [go_sem,hc,hlk,kE,hcl] at hsr;subst hsr;refine iR rfl (fun rd=>OpOk.lenMap rfl rfl rfl rfl rfl hm eG (by omega) ⟨rfl,rfl⟩) ?_;intro ts2 hts;simp only [go_sem] at hts;subst hts)
  have hms: ∀ b,(h.set qm b)[qm]? =some b:=fun b=>List.getElem?_set_self hqm
  have hmc: ∀ b,(h.set qm b)[qc]? =some (.var 268 (CC qm cls tys)):=fun b=>by rw [List.getElem?_set_ne hne];exact hc
  have hle:decide (es.length≤140737488355328)=true:=by simp;omega
  have hgl: ∀ p:Value×PV,(es++[p])[es.length]? =some p:=fun p=>by simp
  have hsl: ∀ p q:Value×PV,(es++[p]).set es.length q=es++[q]:=fun p q=>by simp
  have c2:=cs_1 (qm:=qm) (v:=es.length) hI.l1 hI.l2 hl
  (repeat (first|refine nx ?_|(intro zs zh;(try simp only [go_sem] at zh);subst zh)|((first|refine ns ?_|refine zF rfl rfl rfl ?_|(refine zN rfl rfl rfl ?_;intro zs zh;(try simp only [go_sem] at zh);subst zh;refine nx ?_));intro zs zh;(try simp only [go_sem,hc,hm,hlk,kE,hcl,eG,zh0,zm1,ha,hg,hle,hms,hmc,hgl,hsl,c2,zB,hl,List.set_set,Bool.and_self] at zh);subst zh;first|refine nx ?_|refine zH (by omega) ?_|refine zL (by decide) ?_|refine zI (by decide) (by omega) ?_)|refine zQ jE _ 4 (by kernel_rfl) ?_))
  have hI2:=hI.push hl s
  have hgn:(cls.set es.length es.length).getD es.length 0=es.length:=by simp [hI.l1,hl]
  have c3:=cc_1 (qm:=qm) (tys:=tys) hI2.l1 hl
  rw [hgn] at c3
  have e1:((es.length:Int)!=(es.length:Int))=false:=bne_self_eq_false _
  have hcl2:=rG (qm:=qm) hI2.l1 hI2.l2
  have hqs: ∀ b c,((h.set qm b).set qc c)[qc]? =some c:=fun b c=>List.getElem?_set_self (by simpa using hqc)
  have hU:Upd qm qc (es++[(.string s,i64 (es.length:Nat))]) (cls.set es.length es.length) tys h ((h.set qm (.map (es++[(.string s,i64 (es.length:Nat))]))).set qc (.var 268 (CC qm (cls.set es.length es.length) tys))):=
   ⟨by rw [List.getElem?_set_ne (Ne.symm hne)];exact hms _,hqs _ _,fun r b h1 h2 h3=>by rw [List.getElem?_set_ne (Ne.symm h2),List.getElem?_set_ne (Ne.symm h1)];exact h3⟩
  refine zW (K4 (.k:: .v::K9 (K9 (K9 (K4 (D9 (D4 (.d:: .k::[])))))))) (fun (_:Unit)=>[i64 (es.length:Nat)]) (fun _=>_) (fun x=>True) (fun x=>0) (own:=false) () rfl rfl trivial ?_
  intro _ _
  refine gm ?_
  refine gf (a6 @hqs @c3 @hcl2 @hl @zB @e1) ?_
  refine ⟨es.length,_,_,rfl,by simp,hgn,hU,by simp,hI2,by simp,fun hh=> ?_,fun s' hs'=>lZ hs',gW⟩
  unfold Has at hh;rw [hg] at hh;cases hh
end Go.AL
namespace Go.AL
open Go.Proofs Go.Proofs.Tryz
@[go_sem] def UTyp12f173.pl:Nat→DPlan
 |4=>⟨[⟨0,0,[]⟩,⟨1,0,[]⟩,⟨0,0,[]⟩,⟨0,0,[]⟩,⟨0,0,[]⟩,⟨0,0,[]⟩,⟨1,0,[]⟩,⟨0,0,[]⟩,⟨0,0,[]⟩,⟨0,0,[]⟩,⟨1,0,[]⟩,⟨0,0,[]⟩,⟨0,0,[]⟩,⟨1,0,[]⟩,⟨4,0,[]⟩,⟨0,0,[]⟩],[0,1,2,3,4,5,6,7,8,9,10,11,12,13,14,15],0⟩
 |_=>⟨[],[],0⟩
@[go_sem] def UTyp12f174.pl:Nat→DPlan
 |5=>⟨[⟨0,0,[]⟩,⟨0,0,[]⟩,⟨1,0,[]⟩,⟨6,0,[1005]⟩,⟨0,0,[]⟩,⟨0,0,[]⟩,⟨7,0,[1005]⟩,⟨4,0,[]⟩,⟨0,0,[]⟩,⟨0,0,[]⟩],[0,1,2,3,4,5,6,7,8,9],0⟩
 |6=>⟨[⟨0,0,[]⟩,⟨0,0,[]⟩,⟨0,0,[]⟩,⟨0,0,[]⟩,⟨0,0,[]⟩,⟨1,0,[]⟩,⟨0,0,[]⟩,⟨0,0,[]⟩,⟨0,0,[]⟩,⟨0,0,[]⟩,⟨0,0,[]⟩,⟨0,0,[]⟩,⟨0,0,[]⟩,⟨1,0,[]⟩,⟨0,0,[]⟩,⟨0,0,[]⟩,⟨0,0,[]⟩,⟨0,0,[]⟩,⟨0,0,[]⟩,⟨0,0,[]⟩,⟨0,0,[]⟩,⟨0,0,[]⟩,⟨1,0,[]⟩,⟨0,0,[]⟩,⟨0,0,[]⟩,⟨0,0,[]⟩,⟨0,0,[]⟩,⟨0,0,[]⟩,⟨1,0,[]⟩,⟨0,0,[]⟩,⟨0,0,[]⟩],[0,1,2,3,4,5,6,7,8,9,10,11,12,13,14,15,16,17,18,19,20,21,22,23,24,25,26,27,28,29,30],0⟩
 |8=>⟨[⟨0,0,[]⟩,⟨0,0,[]⟩,⟨0,0,[]⟩,⟨0,0,[]⟩,⟨0,0,[]⟩,⟨0,0,[]⟩,⟨0,0,[]⟩,⟨1,0,[]⟩,⟨0,0,[]⟩,⟨0,0,[]⟩,⟨0,0,[]⟩,⟨0,0,[]⟩,⟨0,0,[]⟩,⟨1,0,[]⟩,⟨0,0,[]⟩,⟨0,0,[]⟩,⟨0,0,[]⟩,⟨0,0,[]⟩,⟨4,0,[]⟩],[0,1,2,3,4,5,6,7,8,9,10,11,12,13,14,15,16,17,18],0⟩
 |_=>⟨[],[],0⟩
@[go_sem] def tD:DPlan:=⟨[⟨0,0,[]⟩,⟨0,0,[]⟩,⟨1,0,[]⟩,⟨6,0,[1005]⟩,⟨0,0,[]⟩,⟨0,0,[]⟩,⟨7,0,[1005]⟩,⟨4,0,[]⟩,⟨0,0,[]⟩,⟨0,0,[]⟩],[0,1,2,3,4,5,6,7,8,9],0⟩
@[go_sem] def tC:DPlan:=⟨[⟨0,0,[]⟩,⟨0,0,[]⟩,⟨0,0,[]⟩,⟨0,0,[]⟩,⟨0,0,[]⟩,⟨1,0,[]⟩,⟨0,0,[]⟩,⟨0,0,[]⟩,⟨0,0,[]⟩,⟨0,0,[]⟩,⟨0,0,[]⟩,⟨0,0,[]⟩,⟨0,0,[]⟩,⟨1,0,[]⟩,⟨0,0,[]⟩,⟨0,0,[]⟩,⟨0,0,[]⟩,⟨0,0,[]⟩,⟨0,0,[]⟩,⟨0,0,[]⟩,⟨0,0,[]⟩,⟨0,0,[]⟩,⟨1,0,[]⟩,⟨0,0,[]⟩,⟨0,0,[]⟩,⟨0,0,[]⟩,⟨0,0,[]⟩,⟨0,0,[]⟩,⟨1,0,[]⟩,⟨0,0,[]⟩,⟨0,0,[]⟩],[0,1,2,3,4,5,6,7,8,9,10,11,12,13,14,15,16,17,18,19,20,21,22,23,24,25,26,27,28,29,30],0⟩
@[go_sem] def tB:DPlan:=⟨[⟨0,0,[]⟩,⟨0,0,[]⟩,⟨0,0,[]⟩,⟨0,0,[]⟩,⟨0,0,[]⟩,⟨0,0,[]⟩,⟨0,0,[]⟩,⟨1,0,[]⟩,⟨0,0,[]⟩,⟨0,0,[]⟩,⟨0,0,[]⟩,⟨0,0,[]⟩,⟨0,0,[]⟩,⟨1,0,[]⟩,⟨0,0,[]⟩,⟨0,0,[]⟩,⟨0,0,[]⟩,⟨0,0,[]⟩,⟨4,0,[]⟩],[0,1,2,3,4,5,6,7,8,9,10,11,12,13,14,15,16,17,18],0⟩
attribute [-go_sem] only splice
theorem CI.tys {es:NM} {cls:List Nat} {tys tys':List Int} (h:CI es cls tys) (hl:tys'.length=36):CI es cls tys':=⟨h.n,h.le,h.l1,hl,h.f⟩
theorem CI.link {es:NM} {cls:List Nat} {tys:List Int} (h:CI es cls tys) {i j:Nat} (hi:i<es.length) (hj:j<es.length) (ri:cls.getD i 0=i) (rj:cls.getD j 0=j):CI es (cls.set i j) tys:=by
 obtain ⟨h1,h2,h3,h4,rt,d,h5⟩:=h
 have hl:i<cls.length:=by omega
 have gs: ∀ y,(cls.set i j).getD y 0=if y=i then j else cls.getD y 0:=fun y=>by
  rw [List.getD_eq_getElem?_getD,List.getElem?_set,List.getD_eq_getElem?_getD]
  by_cases e:i=y
  ·subst e;simp [hl]
  ·simp [e,Ne.symm e]
 by_cases hij:i=j
 ·subst hij
  refine ⟨h1,h2,by simp [h3],h4,rt,d,fun x hx=> ?_⟩
  have gs2: ∀ y,(cls.set i i).getD y 0=cls.getD y 0:=fun y=>by
   rw [gs];split
   ·rename_i e;subst e;exact ri.symm
   ·rfl
  simp only [gs2]
  exact h5 x hx
 ·refine ⟨h1,h2,by simp [h3],h4,fun x=>if rt x=i then j else rt x,fun x=>if rt x=i then d x+1 else d x,fun x hx=> ?_⟩
  obtain ⟨aa1,aa2,aa3,aa4,aa5,aa6⟩:=h5 x hx
  obtain ⟨i1,i2,i3,i4,i5,i6⟩:=h5 i hi
  obtain ⟨j1,j2,j3,j4,j5,j6⟩:=h5 j hj
  obtain ⟨r1,r2,r3,r4,r5,r6⟩:=h5 (rt x) aa2
  have eri:=i5 ri
  have erj:=j5 rj
  have err:=r5 aa3
  have hji:j≠i:=Ne.symm hij
  simp only [gs]
  by_cases hx0:x=i
  ·subst hx0
   simp only [eri,erj,if_true,hji,if_false]
   refine ⟨hj,hj,rj,by rw [erj] at j4;exact j4,(by intro e;first|exact absurd e hji|cases e),fun _=>⟨trivial,?_⟩⟩
   rw [erj] at j4;omega
  ·simp only [hx0,if_false]
   by_cases hr:rt x=i
   ·simp only [hr,if_true,erj,hji,if_false]
    refine ⟨aa1,hj,rj,by rw [erj] at j4;exact j4,fun e=>absurd ((aa5 e).symm.trans hr) hx0,fun e=> ?_⟩
    obtain ⟨b1,b2⟩:=aa6 e
    rw [←b1,hr]
    simp only [if_true]
    exact ⟨trivial,by omega⟩
   ·simp only [hr,if_false,err]
    refine ⟨aa1,aa2,aa3,aa4,aa5,fun e=> ?_⟩
    obtain ⟨b1,b2⟩:=aa6 e
    rw [←b1]
    simp only [hr,if_false]
    exact ⟨trivial,b2⟩
theorem eZ (h:Heap) (qm qc:Nat) (es:NM) (cls:List Nat) (tys:List Int) (hm:h[qm]? =some (.map es)) (hc:h[qc]? =some (.var 268 (CC qm cls tys))) (hI:CI es cls tys) (t:Tm) (k:Int) (hn:t.var≠eS→Has es t.var):
  ECall prog G0 208 [.ptr qc 0,.agg t.c,i64 k] h fun p h'=> ∃ (b:Bool) (cls':List Nat) (tys':List Int),p=bo b∧Upd qm qc es cls' tys' h h'∧CI es cls' tys':=by
 refine pv func208 41 false (by kernel_rfl) rfl rfl ?_
 refine g2 ?_
 obtain ⟨v,⟨ty,n,sx⟩⟩:=t
 dsimp only at*
 by_cases hv:v=eS
 ·subst hv
  refine gf @zA ?_
  exact ⟨_,cls,tys,rfl,(Upd.refl hm hc).app _,hI⟩
 ·have hU:=(Upd.refl hm hc).app [.var 217 [yQ v,i64 ty,i64 n,yQ sx]]
  refine gf (a2 @zA @hv) ?_
  (refine g1f @zA ?_;refine zC (dM _ qm qc es cls tys hU.m hU.c hI v (.inl (hn hv))) ?_;intro p2 h2 hr2;refine g2 ?_)
  obtain ⟨i,es',cls',rfl,hi,hri,hU2,hlen,hI2,hle,hsame,_,_⟩:=hr2
  obtain ⟨rfl,rfl⟩:=hsame (hn hv)
  have hU3:=hU.trans hU2
  have hqc:qc<h2.length:=(gsi hU2.c).1
  have hi36:i<36:=by have:=hI2.le;omega
  have c1:=zk1 (qm:=qm) hI2.l1 hI2.l2 hi36
  have hcl:=rG (qm:=qm) hI2.l1 hI2.l2
  have h37:(37+i<73)=True:=by simp;omega
  have hUc:=hU2.c
  by_cases h0:tys.getD i 0=0
  ·rw [h0] at c1
   have hqs: ∀ c,(h2.set qc c)[qc]? =some c:=fun c=>List.getElem?_set_self hqc
   have c2:=cs_2 (qm:=qm) (v:=k) hI2.l1 hI2.l2 hi36
   have hI3:=hI2.tys (tys':=tys.set i k) (by simp [hI2.l2])
   have c3:=zk1 (qm:=qm) hI3.l1 hI3.l2 hi36
   have c4:(tys.set i k).getD i 0=k:=by simp [hI2.l2,hi36]
   rw [c4] at c3
   have hcl3:=rG (qm:=qm) hI3.l1 hI3.l2
   have e0:((0:Int)==0)=true:=rfl
   refine gf (a9 @hUc @c1 @hcl @h37 @hi36 @zB @hqs @c2 (a3 @c3 @hcl3 @e0)) ?_
   have hne:qm≠qc:=fun e=>by have:=hU2.m;rw [e,hU2.c] at this;cases this
   exact ⟨_,_,_,rfl,⟨by rw [List.getElem?_set_ne (Ne.symm hne)];exact hU3.m,hqs _,fun r b h1 h2 h3=>by rw [List.getElem?_set_ne (Ne.symm h2)];exact hU3.k r b h1 h2 h3⟩,hI3⟩
  ·have e0:(tys.getD i 0==0)=false:=by simpa using h0
   refine gf (a7 @hUc @c1 @hcl @h37 @hi36 @zB @e0) ?_
   exact ⟨_,_,_,rfl,hU3,hI2⟩
theorem Upd.get {qm qc:Nat} {es es':NM} {cls cls':List Nat} {tys tys':List Int} {h h':Heap} (u:Upd qm qc es' cls' tys' h h') (hm:h[qm]? =some (.map es)) (hc:h[qc]? =some (.var 268 (CC qm cls tys))) {r:Nat} {b:Blk} (hr:h[r]? =some b) (h1: ∀ es,b≠ .map es) (h2: ∀ cs,b≠ .var 268 cs):h'[r]? =some b:=
 u.k r b (fun e=>by subst e;rw [hm] at hr;cases hr;exact h1 _ rfl) (fun e=>by subst e;rw [hc] at hr;cases hr;exact h2 _ rfl) hr
open UTyp12f174 in
theorem zbF (h:Heap) (qm qc:Nat) (es:NM) (cls:List Nat) (tys:List Int) (hm:h[qm]? =some (.map es)) (hc:h[qc]? =some (.var 268 (CC qm cls tys))) (hI:CI es cls tys) (a b:Tm) (ha:a.var≠eS→Has es a.var) (hb:b.var≠eS→Has es b.var):
  ECall prog G0 174 [.ptr qc 0,.agg a.c,.agg b.c] h fun p h'=> ∃ (r:Bool) (cls':List Nat) (tys':List Int),p=bo r∧Upd qm qc es cls' tys' h h'∧CI es cls' tys':=by
 refine pv func174 92 false (by kernel_rfl) rfl rfl ?_
 refine g2 ?_
 obtain ⟨va,⟨ta,na,sa⟩⟩:=a
 obtain ⟨vb,⟨tb,nb,sb⟩⟩:=b
 dsimp only at*
 have hU:=(Upd.refl hm hc).app [.var 217 [yQ va,i64 ta,i64 na,yQ sa],.var 217 [yQ vb,i64 tb,i64 nb,yQ sb]]
 have ha0:(h++[.var 217 [yQ va,i64 ta,i64 na,yQ sa],.var 217 [yQ vb,i64 tb,i64 nb,yQ sb]])[h.length]? =some (.var 217 [yQ va,i64 ta,i64 na,yQ sa]):=by rw [xY];rfl
 have hb0:(h++[.var 217 [yQ va,i64 ta,i64 na,yQ sa],.var 217 [yQ vb,i64 tb,i64 nb,yQ sb]])[h.length+1]? =some (.var 217 [yQ vb,i64 tb,i64 nb,yQ sb]):=by rw [xN];rfl
 by_cases hva:va=eS
 ·subst hva
  refine gf (a2 @ha0 @hb0) ?_
  (refine g1f (a2 @ha0 @hb0) ?_;refine zC (eZ _ qm qc es cls tys hU.m hU.c hI ⟨vb,tb,nb,sb⟩ ta hb) ?_;intro p2 h2 hr2;refine g2 ?_)
  obtain ⟨r,cls2,tys2,rfl,hU2,hI2⟩:=hr2
  refine ge ?_
  exact ⟨r,cls2,tys2,rfl,hU.trans hU2,hI2⟩
 ·by_cases hvb:vb=eS
  ·subst hvb
   refine gf (a3 @ha0 @hb0 @hva) ?_
   (refine g1f (a2 @ha0 @hb0) ?_;refine zC (eZ _ qm qc es cls tys hU.m hU.c hI ⟨va,ta,na,sa⟩ tb ha) ?_;intro p2 h2 hr2;refine g2 ?_)
   obtain ⟨r,cls2,tys2,rfl,hU2,hI2⟩:=hr2
   refine ge ?_
   exact ⟨r,cls2,tys2,rfl,hU.trans hU2,hI2⟩
  ·refine gf (a4 @ha0 @hb0 @hva @hvb) ?_
   have hl1:(h.length+1<h.length+1+1)=True:=by simp
   (refine zF rfl rfl rfl ?_;intro sr hsr;simp only [go_sem,ha0,hb0] at hsr;subst hsr;refine xR rfl rfl (dM _ qm qc es cls tys hU.m hU.c hI va (.inl (ha hva))) (by
    rintro _ h' ⟨i,es',cls',_,_,_,hU2,_⟩ k hk _
    have hk:k∈[1005]:=hk
    simp only [List.mem_singleton] at hk
    subst hk
    simp only [nu,List.getD_cons_succ,List.getD_cons_zero,Nat.reduceLT,Nat.reduceSub,if_false,List.length_append,List.length_cons,List.length_nil,Nat.zero_add,Nat.reduceAdd,Nat.lt_add_one,if_true]
    (try rw [if_pos (by omega)])
    rw [hb0,hU2.get hU.m hU.c hb0 (by simp) (by simp)]) ?_;intro p2 h2 hr2 ts2 hts;simp only [go_sem] at hts;subst hts)
   obtain ⟨i,es',cls',rfl,hi,hri,hU2,hlen,hI2,hle,hsame,_,_⟩:=hr2
   obtain ⟨rfl,rfl⟩:=hsame (ha hva)
   have hb2:=hU2.get hU.m hU.c hb0 (by simp) (by simp)
   have hl2:(h.length+1<h.length+2)=True:=by simp
   refine gf (a3 @hb2 @hl1 @hl2) ?_
   (refine zF rfl rfl rfl ?_;intro zs zh;simp only [go_sem,hb2,hl1,hl2] at zh;subst zh;refine zP (by decide) (by decide) (dM _ qm qc es' cls' tys hU2.m hU2.c hI2 vb (.inl (hb hvb))) ?_;intro p2 h2 hr2 ts2 hts;simp only [go_sem] at hts;subst hts)
   obtain ⟨j,es3,cls3,rfl,hj,hrj,hU3,hlen3,hI3,hle3,hsame3,_,_⟩:=hr2
   obtain ⟨rfl,rfl⟩:=hsame3 (hb hvb)
   have hU4:=(hU.trans hU2).trans hU3
   have hUc:=hU3.c
   have hqc:qc<h2.length:=(gsi hUc).1
   have hi36:i<36:=by have:=hI3.le;omega
   have hj36:j<36:=by have:=hI3.le;omega
   have c1:=zk1 (qm:=qm) hI3.l1 hI3.l2 hi36
   have c2:=zk1 (qm:=qm) hI3.l1 hI3.l2 hj36
   have hcl:=rG (qm:=qm) hI3.l1 hI3.l2
   have h37:(37+i<73)=True:=by simp;omega
   have h38:(37+j<73)=True:=by simp;omega
   have hne:qm≠qc:=fun e=>by have:=hU4.m;rw [e,hUc] at this;cases this
   have hqs: ∀ c,(h2.set qc c)[qc]? =some c:=fun c=>List.getElem?_set_self hqc
   have c3: ∀ v:Int,splice (CC qm cls3 tys) (37+j) [i64 v]=CC qm cls3 (tys.set j v):=fun v=>cs_2 hI3.l1 hI3.l2 hj36
   have l3: ∀ v:Int,(tys.set j v).length=36:=fun v=>by simp [hI3.l2]
   have c4: ∀ v:Int,splice (CC qm cls3 (tys.set j v)) (1+i) [i64 j]=CC qm (cls3.set i j) (tys.set j v):=fun v=>cs_1 hI3.l1 (l3 v) hi36
   have l4: ∀ v:Int,(CC qm cls3 (tys.set j v)).length=73:=fun v=>rG hI3.l1 (l3 v)
   have fin: ∀ v:Int, ∃ (r:Bool) (cls':List Nat) (tys':List Int),bo true=bo r∧Upd qm qc es3 cls' tys' h (h2.set qc (.var 268 (CC qm (cls3.set i j) (tys.set j v))))∧CI es3 cls' tys':=fun v=>
    ⟨true,_,_,rfl,⟨by rw [List.getElem?_set_ne (Ne.symm hne)];exact hU4.m,hqs _,fun r b h1 h2 h3=>by rw [List.getElem?_set_ne (Ne.symm h2)];exact hU4.k r b h1 h2 h3⟩,(hI3.link hi hj hri hrj).tys (l3 v)⟩
   generalize tys.getD i 0=ti at*
   generalize tys.getD j 0=tj at*
   by_cases e1:ti=0
   ·subst e1
    have f1:((0:Int)!=0)=false:=rfl
    (repeat (first|refine nx ?_|(intro zs zh;(try simp only [go_sem] at zh);subst zh)|((first|refine ns ?_|refine zF rfl rfl rfl ?_|(refine zN rfl rfl rfl ?_;intro zs zh;(try simp only [go_sem] at zh);subst zh;refine nx ?_));intro zs zh;(try simp only [go_sem,hUc,c1,c2,hcl,h37,h38,hi36,hj36,zB,f1,c3,c4,l4,hqs,List.set_set] at zh);subst zh;first|refine nx ?_|refine zH (by omega) ?_|refine zL (by decide) ?_|refine zI (by decide) (by omega) ?_)|refine zQ tD _ 5 (by kernel_rfl) ?_|refine zQ tC _ 6 (by kernel_rfl) ?_|refine zQ tB _ 8 (by kernel_rfl) ?_))
    exact fin _
   ·have f1:(ti !=0)=true:=by simpa using e1
    by_cases e2:tj=0
    ·subst e2
     have f2:((0:Int)!=0)=false:=rfl
     (repeat (first|refine nx ?_|(intro zs zh;(try simp only [go_sem] at zh);subst zh)|((first|refine ns ?_|refine zF rfl rfl rfl ?_|(refine zN rfl rfl rfl ?_;intro zs zh;(try simp only [go_sem] at zh);subst zh;refine nx ?_));intro zs zh;(try simp only [go_sem,hUc,c1,c2,hcl,h37,h38,hi36,hj36,zB,f1,f2,c3,c4,l4,hqs,List.set_set] at zh);subst zh;first|refine nx ?_|refine zH (by omega) ?_|refine zL (by decide) ?_|refine zI (by decide) (by omega) ?_)|refine zQ tD _ 5 (by kernel_rfl) ?_|refine zQ tC _ 6 (by kernel_rfl) ?_|refine zQ tB _ 8 (by kernel_rfl) ?_))
     exact fin _
    ·have f2:(tj !=0)=true:=by simpa using e2
     by_cases e3:ti=tj
     ·have f3:(ti !=tj)=false:=by simp [e3]
      (repeat (first|refine nx ?_|(intro zs zh;(try simp only [go_sem] at zh);subst zh)|((first|refine ns ?_|refine zF rfl rfl rfl ?_|(refine zN rfl rfl rfl ?_;intro zs zh;(try simp only [go_sem] at zh);subst zh;refine nx ?_));intro zs zh;(try simp only [go_sem,hUc,c1,c2,hcl,h37,h38,hi36,hj36,zB,f1,f2,f3,c3,c4,l4,hqs,List.set_set] at zh);subst zh;first|refine nx ?_|refine zH (by omega) ?_|refine zL (by decide) ?_|refine zI (by decide) (by omega) ?_)|refine zQ tD _ 5 (by kernel_rfl) ?_|refine zQ tC _ 6 (by kernel_rfl) ?_|refine zQ tB _ 8 (by kernel_rfl) ?_))
      exact fin _
     ·have f3:(ti !=tj)=true:=by simp [e3]
      (repeat (first|refine nx ?_|(intro zs zh;(try simp only [go_sem] at zh);subst zh)|((first|refine ns ?_|refine zF rfl rfl rfl ?_|(refine zN rfl rfl rfl ?_;intro zs zh;(try simp only [go_sem] at zh);subst zh;refine nx ?_));intro zs zh;(try simp only [go_sem,hUc,c1,c2,hcl,h37,h38,hi36,hj36,zB,f1,f2,f3,c3,c4,l4,hqs,List.set_set] at zh);subst zh;first|refine nx ?_|refine zH (by omega) ?_|refine zL (by decide) ?_|refine zI (by decide) (by omega) ?_)|refine zQ tD _ 5 (by kernel_rfl) ?_|refine zQ tC _ 6 (by kernel_rfl) ?_|refine zQ tB _ 8 (by kernel_rfl) ?_))
      exact ⟨false,cls3,tys,rfl,hU4,hI3⟩
attribute [go_sem] splice
theorem zhF (h:Heap) (qm qc qv:Nat) (es:NM) (cls:List Nat) (tys:List Int) (hm:h[qm]? =some (.map es)) (hc:h[qc]? =some (.var 268 (CC qm cls tys))) (hv:h[qv]? =some (.var 265 [.ptr qc 0])) (hI:CI es cls tys) (l:List Tm) (hl:es.length+l.length≤36):
  ECall prog G0 171 [mI l,.ptr qv 0] h fun _ h'=> ∃ (es':NM) (cls':List Nat),Upd qm qc es' cls' tys h h'∧CI es' cls' tys∧es'.length≤es.length+l.length∧(∀ s,Has es s→Has es' s)∧ ∀ t∈l,t.var≠eS→Has es' t.var:=by
 refine pv func171 19 false (by kernel_rfl) rfl rfl ?_
 refine g2 ?_
 refine ge ?_
 refine zO l.length (K4 (.d:: .k:: .k:: .v::D9 (.d:: .d::[]))) (own:=false) (fun i (s:NM×List Nat×Heap)=>[i64 i]) (fun s=>s.2.2) (fun i s=>Upd qm qc s.1 s.2.1 tys h s.2.2∧CI s.1 s.2.1 tys∧s.1.length≤es.length+i∧(∀ x,Has es x→Has s.1 x)∧ ∀ t∈l.take i,t.var≠eS→Has s.1 t.var) (es,cls,h) rfl rfl ⟨Upd.refl hm hc,hI,Nat.le_refl _,fun _ h=>h,by simp⟩ (by omega) ?_ ?_
 ·rintro ⟨es',cls',h'⟩ ⟨aa1,aa2,aa3,aa4,aa5⟩ t ht
  dsimp only at*
  simp only [zY] at ht;subst ht
  refine gf @zM ?_
  exact ⟨es',cls',aa1,aa2,aa3,aa4,by rw [List.take_length] at aa5;exact aa5⟩
 ·rintro i ⟨es',cls',h'⟩ hi hw ⟨aa1,aa2,aa3,aa4,aa5⟩ t ht
  dsimp only at*
  simp only [zY] at ht;subst ht
  have hx:=zG (f:=Tm.c) [] hi
  have htk:=List.take_succ_eq_append_getElem hi
  generalize l[i]=x at*
  have hv':=aa1.get hm hc hv (by simp) (by simp)
  have hqv:qv<h'.length:=(gsi hv').1
  have hqa: ∀ b,(h'++[b])[qv]? =some (.var 265 [.ptr qc 0]):=fun b=>by rw [List.getElem?_append_left hqv];exact hv'
  by_cases hs:x.var=eS
  ·obtain ⟨v,k⟩:=x
   dsimp only at hs
   subst hs
   refine gf (a6 @hi @hx @zB @hw @zA @zD) ?_
   refine ⟨(es',cls',_),⟨aa1.app _,aa2,by dsimp only;omega,aa4,fun t ht hne=> ?_⟩,rfl,rfl,rfl⟩
   rw [htk] at ht
   rcases List.mem_append.1 ht with ht|ht
   ·exact aa5 t ht hne
   ·rw [List.mem_singleton] at ht;subst ht;exact absurd rfl hne
  ·have hU:=aa1.app [.var 217 x.c]
   refine gf (a8 @hi @hx @zB @hw @zA @zD @hs @hqa) ?_
   (refine g1f (a6 @hi @hx @zB @hw @zA @hqa) ?_;refine zC (dM _ qm qc es' cls' tys hU.m hU.c aa2 x.var (.inr (by omega))) ?_;intro p2 h2 hr2;refine g2 ?_)
   obtain ⟨i',es2,cls2,rfl,hi2,hri,hU2,hlen,hI2,hle,hsame,hhas,hself⟩:=hr2
   refine gf (a4 @hi @hx @zB @hw) ?_
   refine ⟨(es2,cls2,_),⟨hU.trans hU2,hI2,by dsimp only;omega,fun s hs=>hhas s (aa4 s hs),fun t ht hne=> ?_⟩,rfl,rfl,rfl⟩
   rw [htk] at ht
   rcases List.mem_append.1 ht with ht|ht
   ·exact hhas _ (aa5 t ht hne)
   ·rw [List.mem_singleton] at ht;subst ht;exact hself
open UTyp12f173 in
theorem nS (h:Heap) (qm qc qp:Nat) (es:NM) (cls:List Nat) (tys:List Int) (hm:h[qm]? =some (.map es)) (hc:h[qc]? =some (.var 268 (CC qm cls tys))) (hI:CI es cls tys) (ps:List Pd) (L F R:PV) (m1 m2 m3:PV) (Rep:PV)
  (hs:h[6]? =some (.var 171 [L,F,.vec qp 7 (ps.map Pd.c),R,m1,m2,m3,Rep])) (j:Nat) (hj:j<ps.length) (l:List Tm) (hll:l.length≤4) (hl:l.length≤ps[j].types.length) (hn: ∀ t∈l,t.var≠eS→Has es t.var):
  ECall prog G0 173 [.ptr 6 0,.ptr qc 0,i64 j,mI l] h fun p h'=> ∃ (b:Bool) (cls':List Nat) (tys':List Int),p=bo b∧Upd qm qc es cls' tys' h h'∧CI es cls' tys':=by
 refine pv func173 35 false (by kernel_rfl) rfl rfl ?_
 refine g2 ?_
 refine ge ?_
 refine zO l.length (K4 (K4 (.d:: .d:: .d:: .k:: .k:: .v::D9 (D9 (.d:: .d:: .d::[]))))) (own:=false) (fun i (s:List Nat×List Int×Heap)=>[i64 i]) (fun s=>s.2.2) (fun i s=>Upd qm qc es s.1 s.2.1 h s.2.2∧CI es s.1 s.2.1) (cls,tys,h) rfl rfl ⟨Upd.refl hm hc,hI⟩ (by omega) ?_ ?_
 ·rintro ⟨cls',tys',h'⟩ ⟨aa1,aa2⟩ t ht
  dsimp only at*
  simp only [zY] at ht;subst ht
  refine gf @zM ?_
  exact ⟨true,cls',tys',rfl,aa1,aa2⟩
 ·rintro i ⟨cls',tys',h'⟩ hi hw ⟨aa1,aa2⟩ t ht
  dsimp only at*
  simp only [zY] at ht;subst ht
  have hx:=zG (f:=Tm.c) [] hi
  have hxm:=hn _ (List.getElem_mem hi)
  generalize l[i]=x at*
  have hs':=aa1.get hm hc hs (by simp) (by simp)
  have hs6:6<h'.length:=(gsi hs').1
  have hsa: ∀ b,(h'++[b])[6]? =some (.var 171 [L,F,.vec qp 7 (ps.map Pd.c),R,m1,m2,m3,Rep]):=fun b=>by rw [List.getElem?_append_left hs6];exact hs'
  have hU:=aa1.app [.var 217 x.c]
  have hy:=zG (f:=Pd.c) [] hj
  generalize ps[j]=y at*
  have hit:i<y.types.length:=by omega
  have hty:=zG (f:=fun n:Int=>[i64 n]) [] hit
  refine gf (a9 @hi @hx @zB @hw @zA @zD @hsa @hj (a3 @hy @hit @hty)) ?_
  (refine zF rfl rfl rfl ?_;intro zs zh;simp only [go_sem,hi,hx,zB,hw,zA,zD,hsa,hj,hy,hit,hty] at zh;subst zh;refine zP (by decide) (by decide) (eZ _ qm qc es cls' tys' hU.m hU.c aa2 x y.types[i] hxm) ?_;intro p2 h2 hr2 ts2 hts;simp only [go_sem] at hts;subst hts)
  obtain ⟨b,cls2,tys2,rfl,hU2,hI2⟩:=hr2
  cases b with
  |true=>
   refine gf (a3 @hi @zB @hw) ?_
   exact ⟨(cls2,tys2,_),⟨hU.trans hU2,hI2⟩,rfl,rfl,rfl⟩
  |false=>
   refine gf (a3 @hi @zB @hw) ?_
   exact ⟨false,cls2,tys2,rfl,hU.trans hU2,hI2⟩
end Go.AL
