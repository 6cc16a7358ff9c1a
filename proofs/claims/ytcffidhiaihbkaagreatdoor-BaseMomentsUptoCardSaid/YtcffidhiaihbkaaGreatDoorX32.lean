/-
  Programs: resolved, as a plain value.
-/
import Derived.Test.YtcffidhiaihbkaaGreatDoorX31
set_option linter.unusedSimpArgs false
set_option linter.unusedVariables false
set_option maxRecDepth 100000
set_option maxHeartbeats 4000000
namespace Go.AL
open Go.Proofs Go.Proofs.Tryz
@[go_sem] def UTyp14f76.pl:Nat→DPlan
 |2=>⟨[yA,yB,⟨6,0,[1003]⟩,yA,⟨7,0,[1003]⟩,yC,yA,yC,yA,yC],xS,0⟩
 |3=>⟨[yA,yA,⟨6,0,[1003]⟩,yA,⟨7,0,[1003]⟩,yC],znU,0⟩
 |9=>⟨[yA,yA,yA,⟨6,0,[1007]⟩,yA,yA,yA,⟨7,0,[1007]⟩,yC],uW,0⟩
 |_=>⟨[],[],0⟩
@[go_sem] def zX:DPlan:=⟨[yA,yB,⟨6,0,[1003]⟩,yA,⟨7,0,[1003]⟩,yC,yA,yC,yA,yC],xS,0⟩
theorem aU (h:Heap) (l:List Li) (hl:l.length≤1048576) (htb:zU 40 (.ts 9 (l.map Li.c))=true):ECall prog G0 120 [.ts 9 (l.map Li.c)] h fun V h'=>(l=[]∧V= .ts 9 []∧h'=h)∨(V= .ms h.length 0 9 l.length∧h'=h++[.var 120 (l.map Li.c).flatten]):=by
 cases l with
 |nil=>
  refine ((zgE [] (by simp) htb).call zK (by simp [xX]) h).mono ?_
  rintro p h' ⟨rfl,rfl⟩
  exact .inl ⟨rfl,rfl,rfl⟩
 |cons x l=>
  refine sA (own:=true) func120 rfl (by kernel_rfl) (show _=[.ts 9 ((x::l).map Li.c),.ud,.ud,.ud,.ud,.ud,.ud,.ud] from rfl) ?_
  simp only [List.length_cons] at hl
  have hb1:((l.length+1)*112≤140737488355328)=True:=by simp;omega
  have hb2:(l.length≤140737488355327)=True:=by simp;omega
  refine gf (a4 @zhQ @vX @hb1 @hb2) ?_
  exact .inr ⟨rfl,rfl⟩
def BJ (J:Heap) (B:PV) (body:List Li):Prop:=(body=[]∧B= .ts 9 [])∨ ∃ q,B= .ms (q+7) 0 9 body.length∧J[q]? =some (.var 120 (body.map Li.c).flatten)
theorem BJ.len {h:Heap} {B:PV} {body:List Li} (k:BJ h B body):pI (α:=Prop) prog 115 B=some (i64 body.length,True):=by
 have e:(wX prog 115).isSome=true:=by kernel_rfl
 rcases k with ⟨rfl,rfl⟩|⟨qb,rfl,_⟩<;>simp only [pI,e,if_true]<;>rfl
theorem BJ.at {J:Heap} {B:PV} {body:List Li} (k:BJ J B body) (b0 b1:Blk) (pc:List PV) (ml mf mp:NM) (L F P R Rep:PV):BodyAt (SH b0 b1 pc ml mf mp L F P R Rep J) B body:=by
 rcases k with h|⟨q,h1,h2⟩
 ·exact .inl h
 ·exact .inr ⟨q+7,_,h1,h2⟩
theorem GrowN.len {off:Nat} {rp:List (Int×Int)} {J:Heap} {V:PV} (h:GrowN off 149 (iV rp) 2 J V):pI (α:=Prop) prog 105 V=some (i64 rp.length,True):=by
 have e:(wX prog 105).isSome=true:=by kernel_rfl
 rcases h with ⟨h0,rfl⟩|⟨q,rfl,_⟩
 ·have:rp=[]:=by simpa using h0
  subst this
  simp only [pI,e,if_true];rfl
 ·simp only [pI,e,if_true,List.length_map];rfl
theorem Sc.mono {lats:List La} {fs:List (Fu×PV)} {ps:List Pd} {ml mf mp:NM} {L F P:PV} {J J':Heap} (h:Sc lats fs ps ml mf mp L F P J) (k: ∀ (t:TypeId) (els:List (List PV)) (k:Nat) (V:PV),t≠149→GrowN 7 t els k J V→GrowN 7 t els k J' V):Sc lats fs ps ml mf mp L F P J':=
 ⟨h.lo,h.ll,k _ _ _ _ (by decide) h.l,k _ _ _ _ (by decide) h.f,h.fl,k _ _ _ _ (by decide) h.p,h.pl,h.pb,h.ml,h.mf,h.mp⟩
theorem oD {J J':Heap} (h: ∀ (r:Nat) (b:Blk),J[r]? =some b→J'[r]? =some b) {off:Nat} {t:TypeId} {els:List (List PV)} {k:Nat} {V:PV} (hG:GrowN off t els k J V):GrowN off t els k J' V:=by
 rcases hG with hG|⟨q,h1,hq⟩
 ·exact .inl hG
 ·exact .inr ⟨q,h1,h q _ hq⟩
theorem ze1 (l:List Li):zU 40 (.ts 9 (l.map Li.c))=true:=all_map fun x=>by
 simp only [zU,List.all_cons,List.all_nil,Bool.and_true,Bool.true_and]
 exact all_map fun _=>rfl
attribute [-go_sem] only pI
theorem BJ.mono {J J':Heap} {B:PV} {body:List Li} (k:BJ J B body) (h: ∀ (q:Nat) (cs:List PV),J[q]? =some (.var 120 cs)→J'[q]? =some (.var 120 cs)):BJ J' B body:=by
 rcases k with h1|⟨q,h1,h2⟩
 ·exact .inl h1
 ·exact .inr ⟨q,h1,h _ _ h2⟩
structure RI (J0:Heap) (lats:List La) (fs:List (Fu×PV)) (ps:List Pd) (ml mf mp:NM) (L F P:PV) (C:List PV) (B:PV) (n rp0:Nat) (hd:Prop) (i:Nat) (bd:List Li) (rp:List (Int×Int)) (Rep:PV) (J:Heap):Prop where
 aa1:J[J0.length]? =some (.var 117 C)
 aa2:J[J0.length+1]? =some (.var 117 [yQ ⟨#[]⟩,i64 0,.nil,i64 0,yQ ⟨#[]⟩,yQ ⟨#[]⟩,i64 0,.nil,i64 0])
 aa3:Keep J0 J
 aa4:BJ J B bd
 al:bd.length=n
 aa5:Sc lats fs ps ml mf mp L F P J
 aa6:GrowN 7 149 (iV rp) 2 J Rep
 aa7:rp0≤rp.length
 aa7':rp.length≤rp0+1+i
 aa8: ∀ l∈bd,l.fm
 aa9:rp.length=rp0→hd∧ ∀ l∈bd.take i,LitK ps l l.pred
theorem zlP {b0 b1:Blk} {pc:List PV} {ml mf mp:NM} {L F P R Rep:PV} {J h':Heap} (h: ∀ (r:Nat) (b:Blk),(SH b0 b1 pc ml mf mp L F P R Rep J)[r]? =some b→h'[r]? =some b): ∃ J',h'=SH b0 b1 pc ml mf mp L F P R Rep J'∧ ∀ (r:Nat) (b:Blk),J[r]? =some b→J'[r]? =some b:=by
 have e0:=h 0 _ rfl
 have e1:=h 1 _ rfl
 have e2:=h 2 _ rfl
 have e3:=h 3 _ rfl
 have e4:=h 4 _ rfl
 have e5:=h 5 _ rfl
 have e6:=h 6 _ rfl
 match h',e0,e1,e2,e3,e4,e5,e6,h with
 |a0::aa1::aa2::aa3::aa4::aa5::aa6::J',e0,e1,e2,e3,e4,e5,e6,h=>
  simp only [List.getElem?_cons_zero,List.getElem?_cons_succ,Option.some.injEq] at e0 e1 e2 e3 e4 e5 e6
  subst e0 e1 e2 e3 e4 e5 e6
  exact ⟨J',rfl,fun r b hr=>h (r+7) b hr⟩
open UTyp14f76 in
theorem zi1 (b0 b1:Blk) (pc:List PV) (ml mf mp:NM) (L F P R Rep:PV) (J:Heap) (lats:List La) (fs:List (Fu×PV)) (ps:List Pd) (hS:Sc lats fs ps ml mf mp L F P J) (rp:List (Int×Int)) (hrp:rp.length≤1000) (hG:GrowN 7 149 (iV rp) 2 J Rep) (x:Ru) (hx:x.fm):
  ECall prog G0 76 [.ptr 6 0,.agg x.c] (SH b0 b1 pc ml mf mp L F P R Rep J) fun p h'=> ∃ (x':Ru) (B Rep':PV) (J':Heap) (rp':List (Int×Int)),p= .agg (RuC x' B)∧h'=SH b0 b1 pc ml mf mp L F P R Rep' J'∧BJ J' B x'.body∧Keep J J'∧GrowN 7 149 (iV rp') 2 J' Rep'∧rp.length≤rp'.length∧rp'.length≤rp.length+10:=by
 refine pv func76 70 false (by kernel_rfl) rfl rfl ?_
 refine g2 ?_
 have hla:=hx.a
 have hlb:=hx.b
 have hlR:=hG.len
 refine gf (a3 @hlR @xY @xN) ?_
 (refine zF rfl rfl rfl ?_;intro sr hsr;simp only [go_sem,xY,xN] at hsr;subst hsr;refine xR rfl rfl ((bI x.args (by omega) (all_map fun _=>rfl)).call zK (by simp) _) (by rintro _ _ ⟨_,rfl⟩ _ _ _;rfl) ?_;intro p2 h2 hr2 ts2 hts;simp only [go_sem] at hts;subst hts)
 obtain ⟨rfl,rfl⟩:=hr2
 have h7a:(J.length+7<J.length+1+1+1+1+1+1+1+1+1)=True:=by simp
 refine gf (a3 @xY @xN @h7a) ?_
 (refine zF rfl rfl rfl ?_;intro zs zh;simp only [go_sem,xY,xN] at zh;subst zh;refine zP (by decide) (by decide) (aU _ x.body (by omega) (ze1 _)) ?_;intro p2 h2 hr2 ts2 hts;simp only [go_sem] at hts;subst hts)
 obtain ⟨J2,rfl,hJ2x,hJ2z,hJ2k,hBJ,hBge⟩: ∃ J2,h2=SH b0 b1 pc ml mf mp L F P R Rep J2∧J2[J.length]? =some (.var 117 x.c)∧J2[J.length+1]? =some (.var 117 [yQ ⟨#[]⟩,i64 0,.nil,i64 0,yQ ⟨#[]⟩,yQ ⟨#[]⟩,i64 0,.nil,i64 0])∧(∀ (r:Nat) (b:Blk),J[r]? =some b→J2[r]? =some b)∧BJ J2 p2 x.body∧(∀ q n,p2= .ms (q+7) 0 9 n→J.length≤q):=by
  rcases hr2 with ⟨hb0,rfl,rfl⟩|⟨rfl,rfl⟩
  ·exact ⟨J++[.var 117 x.c,.var 117 [yQ ⟨#[]⟩,i64 0,.nil,i64 0,yQ ⟨#[]⟩,yQ ⟨#[]⟩,i64 0,.nil,i64 0]],rfl,by rw [xY];rfl,by rw [xN];rfl,fun r b h=>by rw [List.getElem?_append_left (gsi h).1];exact h,.inl ⟨hb0,rfl⟩,fun q n h=>by cases h⟩
  ·refine ⟨(J++[.var 117 x.c,.var 117 [yQ ⟨#[]⟩,i64 0,.nil,i64 0,yQ ⟨#[]⟩,yQ ⟨#[]⟩,i64 0,.nil,i64 0]])++[.var 120 (x.body.map Li.c).flatten],rfl,by rw [List.append_assoc,xY];rfl,by rw [List.append_assoc,xN];rfl,fun r b h=>by rw [List.append_assoc,List.getElem?_append_left (gsi h).1];exact h,.inr ⟨_,rfl,List.getElem?_concat_length ..⟩,fun q n h=>by
    simp only [PV.ms.injEq,List.length_cons,List.length_append,List.length_nil] at h
    omega⟩
 obtain ⟨Bd,hBd⟩: ∃ B,B=p2:=⟨_,rfl⟩
 subst hBd
 have hlt2:J.length<J2.length:=(gsi hJ2x).1
 have hqs: ∀ b,(J2.set J.length b)[J.length]? =some b:=fun b=>List.getElem?_set_self hlt2
 (repeat (first|refine gz ?_|(refine gn ?_;intro zs zh;(try simp only [go_sem,hJ2x,hqs,List.set_set] at zh);subst zh;refine gv ?_)|refine zQ zX _ 2 (by kernel_rfl) ?_))
 refine zF rfl rfl rfl ?_
 intro sr hsr
 obtain ⟨c,hc,rfl⟩: ∃ c:Prop,c∧sr=SR.val .ud (SH b0 b1 pc ml mf mp L F P R Rep (J2.set J.length (.var 117 (RuC x Bd)))) c:=by
  clear hr2
  rcases hBJ with ⟨_,rfl⟩|⟨q,rfl,_⟩<;>simp only [go_sem,hJ2x,hqs,List.set_set] at hsr<;>exact ⟨_,by trivial,hsr.symm⟩
 refine zI (by decide) hc ?_
 intro ts2 hts
 simp only [zZ,List.set_cons_zero,List.set_cons_succ] at hts
 subst hts
 clear hsr
 (repeat (first|refine gz ?_|(refine gn ?_;intro zs zh;(try simp only [go_sem,hJ2x,hqs,List.set_set] at zh);subst zh;refine gv ?_)|refine zQ zX _ 2 (by kernel_rfl) ?_))
 have h3x:=hqs (.var 117 (RuC x Bd))
 have h3z:(J2.set J.length (.var 117 (RuC x Bd)))[J.length+1]? =some (.var 117 [yQ ⟨#[]⟩,i64 0,.nil,i64 0,yQ ⟨#[]⟩,yQ ⟨#[]⟩,i64 0,.nil,i64 0]):=by rw [List.getElem?_set_ne (by omega)];exact hJ2z
 have h3k: ∀ (r:Nat) (b:Blk),J[r]? =some b→(J2.set J.length (.var 117 (RuC x Bd)))[r]? =some b:=fun r b h=>by
  have:=(gsi h).1
  rw [List.getElem?_set_ne (by omega)];exact hJ2k r b h
 have h3B:BJ (J2.set J.length (.var 117 (RuC x Bd))) Bd x.body:=by
  rcases hBJ with h|⟨q,h1,h2⟩
  ·exact .inl h
  ·refine .inr ⟨q,h1,?_⟩
   have:J.length≠q:=fun e=>by subst e;rw [hJ2x] at h2;cases h2
   rw [List.getElem?_set_ne this];exact h2
 have h3S:=hS.mono (fun _ _ _ _ _=>oD h3k)
 have h3G:=oD h3k hG
 generalize J2.set J.length (.var 117 (RuC x Bd))=J3 at*
 clear hr2 hqs hlt2 hBJ hJ2k hJ2z hJ2x J2 h7a
 have h3lt:J.length<J3.length:=(gsi h3x).1
 ((try (with_reducible refine qP ?_));(with_reducible refine zaX (id:=3) ?_);refine nP (own:=false) wN zK ⟨[⟨0,0,[]⟩,⟨0,0,[]⟩,⟨4,0,[]⟩,⟨0,0,[]⟩,⟨1,0,[]⟩,⟨4,0,[]⟩],[],0⟩ [0,1,3] 2 4 [5] (by kernel_rfl) ?_;intro n2 hn2;(try simp only [List.length_cons,List.length_nil,List.length_append,Nat.zero_add,Nat.reduceAdd] at hn2);subst hn2;intro l2 hl2;simp only [List.toList_toArray] at hl2;subst hl2;intro ds hds;simp only [List.map_cons,List.map_nil] at hds;subst hds;intro h2 hh2;(try simp only [rY,List.replicate_succ,List.replicate_zero,List.append_nil,List.cons_append,List.nil_append,List.append_assoc] at hh2);subst hh2)
 (repeat (first|refine gz ?_|(refine gn ?_;intro zs zh;(try simp only [go_sem,h3x] at zh);subst zh;refine gv ?_)|refine zQ zX _ 2 (by kernel_rfl) ?_))
 obtain ⟨p,h',⟨e,pd,ix,J4,rfl,rfl,hbut,h4x,hres⟩,hcall⟩:=zjI b0 b1 pc ml mf mp L F P R Rep J3 lats fs ps h3S J.length x Bd h3x hla
 have h4x:J4[J.length]? =some (.var 117 [yQ x.name,i64 pd,mI x.args,i64 x.elem.kind,yQ x.elem.name,yQ x.elem.var,i64 ix,Bd,i64 x.at']):=h4x
 have h4z:J4[J.length+1]? =some (.var 117 [yQ ⟨#[]⟩,i64 0,.nil,i64 0,yQ ⟨#[]⟩,yQ ⟨#[]⟩,i64 0,.nil,i64 0]):=hbut _ _ (by omega) h3z
 have h4k: ∀ (r:Nat) (b:Blk),J[r]? =some b→J4[r]? =some b:=fun r b h=>hbut _ _ (by have:=(gsi h).1;omega) (h3k r b h)
 have h4B:BJ J4 Bd x.body:=h3B.mono fun q cs h=>hbut q _ (fun e=>by subst e;rw [h3x] at h;cases h) h
 have h4S:=hS.mono (fun _ _ _ _ _=>oD h4k)
 have h4G:=oD h4k hG
 apply Exists.intro
 apply Exists.intro
 refine ⟨?_,?_,?_⟩
 ·refine zF rfl rfl rfl ?_
  intro sr hsr
  simp only [go_sem] at hsr
  subst hsr
  refine tY (by decide) (by decide) hcall ?_
  intro ts2 hts
  simp only [zZ,List.set_cons_zero,List.set_cons_succ] at hts
  subst hts
  (repeat (first|refine gz ?_|(refine gn ?_;intro zs zh;(try simp only [go_sem,h4x] at zh);subst zh;refine gv ?_)|refine zQ zX _ 2 (by kernel_rfl) ?_))
  exact ⟨rfl,rfl⟩
 ·(repeat (first|refine gz ?_|(refine gn ?_;intro zs zh;(try simp only [go_sem,h3x] at zh);subst zh;refine gv ?_)|refine zQ zX _ 2 (by kernel_rfl) ?_))
  refine zF rfl rfl rfl ?_
  intro sr hsr
  simp only [go_sem] at hsr
  subst hsr
  refine tY (by decide) (by decide) hcall ?_
  intro ts2 hts
  simp only [zZ,List.set_cons_zero,List.set_cons_succ] at hts
  subst hts
  (repeat (first|refine gz ?_|(refine gn ?_;intro zs zh;(try simp only [go_sem,h4x] at zh);subst zh;refine gv ?_)|refine zQ zX _ 2 (by kernel_rfl) ?_))
  exact ⟨rfl,rfl⟩
 ·(refine zF rfl rfl rfl ?_;intro zs zh;simp only [go_sem,h4x] at zh;subst zh;refine zP (by decide) (by decide) (wZ b0 b1 pc ml mf mp L F P R Rep J4 rp (by omega) h4G e x.at') ?_;intro p2 h2 hr2 ts2 hts;simp only [go_sem] at hts;subst hts)
  obtain ⟨Rep5,J5,rfl,h5G,h5k⟩:=hr2
  have h5x:=h5k _ _ h4x (by simp)
  have h5z:=h5k _ _ h4z (by simp)
  have h5K:Keep J J5:=fun r b h hn=>h5k r b (h4k r b h) hn
  have h5B:BJ J5 Bd x.body:=h4B.mono fun q cs h=>h5k q _ h (by simp)
  have h5S:=h4S.mono (fun _ _ _ _ ht hG=>h5k.grow ht hG)
  have hlB:=h5B.len
  (repeat (first|refine gz ?_|(refine gn ?_;intro zs zh;(try simp only [go_sem,h5x,hlB] at zh);subst zh;refine gv ?_)|refine zQ zX _ 2 (by kernel_rfl) ?_))
  refine zO x.body.length (K4 (.k:: .k:: .d:: .d::K9 (K9 (K4 (.v::D9 (D9 (D4 (.d:: .d::K9 (K4 (.k:: .k::[])))))))))) (own:=false) (fun i (s:List Li×List (Int×Int)×PV×Heap)=>[i64 i]) (fun s=>SH b0 b1 pc ml mf mp L F P R s.2.2.1 s.2.2.2) (fun i s=>RI J lats fs ps ml mf mp L F P [yQ x.name,i64 pd,mI x.args,i64 x.elem.kind,yQ x.elem.name,yQ x.elem.var,i64 ix,Bd,i64 x.at'] Bd x.body.length rp.length (e=0) i s.1 s.2.1 s.2.2.1 s.2.2.2) (x.body,bU rp e x.at',Rep5,J5) rfl rfl ⟨h5x,h5z,h5K,h5B,rfl,h5S,h5G,zaO ..,vB ..,hx.l,fun h=>⟨by
   unfold bU at h;split at h
   ·assumption
   ·simp at h,by simp⟩⟩ (by omega) ?_ ?_
  ·rintro ⟨bd,rp2,ReBd,J6⟩ hI t ht
   dsimp only at*
   simp only [zY] at ht;subst ht
   have hlR6:=hI.aa6.len
   have h6x:=hI.aa1
   have h6z:=hI.aa2
   have ha7:=hI.aa7
   have ha7':=hI.aa7'
   by_cases heq:rp2.length=rp.length
   ·have e6:((rp2.length:Int)==(rp.length:Int))=true:=by rw [heq];exact beq_self_eq_true _
    obtain ⟨he0,hlits⟩:=hI.aa9 heq
    have hbdl:=hI.al
    rw [←hbdl,List.take_length] at hlits
    (repeat (first|refine gz ?_|(refine gn ?_;intro zs zh;(try simp only [go_sem,zM,hlR6,h6x,e6] at zh);subst zh;refine gv ?_)|refine zQ zX _ 2 (by kernel_rfl) ?_))
    (refine g1f (a3 @hlR6 @h6x @e6) ?_;refine zC (fP b0 b1 pc ml mf mp L F P R ReBd J6 lats fs ps hI.aa5 {x with pred:=pd,elem:={x.elem with ix:=ix},body:=bd} Bd ⟨hx.a,by dsimp only;omega,hI.aa8,hx.n⟩ (hI.aa4.at b0 b1 pc ml mf mp L F P R ReBd) (hres he0) hlits) ?_;intro p2 h2 hr2;refine g2 ?_)
    obtain ⟨e7,at7,rfl,hext⟩:=hr2
    obtain ⟨J7,rfl,h7k⟩:=zlP hext
    have h7G:=oD h7k hI.aa6
    have h7x:=h7k _ _ h6x
    have h7z:=h7k _ _ h6z
    (repeat (first|refine gz ?_|(refine gn ?_;intro zs zh;(try simp only [go_sem,h7x] at zh);subst zh;refine gv ?_)|refine zQ zX _ 2 (by kernel_rfl) ?_))
    (refine g1f @h7x ?_;refine zC (wZ b0 b1 pc ml mf mp L F P R ReBd J7 rp2 (by omega) h7G e7 at7) ?_;intro p2 h2 hr2;refine g2 ?_)
    obtain ⟨Rep8,J8,rfl,h8G,h8k⟩:=hr2
    have h8x:=h8k _ _ h7x (by simp)
    have h8z:=h8k _ _ h7z (by simp)
    have h8K:Keep J J8:=fun r b hb hn=>h8k r b (h7k r b (hI.aa3 r b hb hn)) hn
    have h8B:BJ J8 Bd bd:=hI.aa4.mono fun q cs hq=>h8k q _ (h7k q _ hq) (by simp)
    have hge:=zaO rp2 e7 at7
    have hle:=vB rp2 e7 at7
    have h8lt:J.length+1<J8.length:=(gsi h8z).1
    have h8s: ∀ b,(J8.set (J.length+1) b)[J.length+1]? =some b:=fun b=>List.getElem?_set_self h8lt
    (repeat (first|refine gz ?_|(refine gn ?_;intro zs zh;(try simp only [go_sem,h8x,h8z,h8s] at zh);subst zh;refine gv ?_)|refine zQ zX _ 2 (by kernel_rfl) ?_))
    refine ⟨{x with pred:=pd,elem:={x.elem with ix:=ix},body:=bd},Bd,Rep8,J8.set (J.length+1) (.var 117 [yQ x.name,i64 pd,mI x.args,i64 x.elem.kind,yQ x.elem.name,yQ x.elem.var,i64 ix,Bd,i64 x.at']),bU rp2 e7 at7,rfl,rfl,h8B.mono fun q cs hq=> ?_,fun r b hb hn=> ?_,h8G.set2 h8z (by simp) _,by omega,by omega⟩
    ·have:J.length+1≠q:=fun e=>by subst e;rw [h8z] at hq;cases hq
     rw [List.getElem?_set_ne this];exact hq
    ·have:=(gsi hb).1
     rw [List.getElem?_set_ne (by omega)];exact h8K r b hb hn
   ·have e6:((rp2.length:Int)==(rp.length:Int))=false:=by rw [beq_eq_false_iff_ne];omega
    (repeat (first|refine gz ?_|(refine gn ?_;intro zs zh;(try simp only [go_sem,zM,hlR6,h6x,e6] at zh);subst zh;refine gv ?_)|refine zQ zX _ 2 (by kernel_rfl) ?_))
    have h8lt:J.length+1<J6.length:=(gsi h6z).1
    have h8s: ∀ b,(J6.set (J.length+1) b)[J.length+1]? =some b:=fun b=>List.getElem?_set_self h8lt
    (repeat (first|refine gz ?_|(refine gn ?_;intro zs zh;(try simp only [go_sem,h6x,h6z,h8s] at zh);subst zh;refine gv ?_)|refine zQ zX _ 2 (by kernel_rfl) ?_))
    refine ⟨{x with pred:=pd,elem:={x.elem with ix:=ix},body:=bd},Bd,ReBd,J6.set (J.length+1) (.var 117 [yQ x.name,i64 pd,mI x.args,i64 x.elem.kind,yQ x.elem.name,yQ x.elem.var,i64 ix,Bd,i64 x.at']),rp2,rfl,rfl,hI.aa4.mono fun q cs hq=> ?_,fun r b hb hn=> ?_,hI.aa6.set2 h6z (by simp) _,ha7,by omega⟩
    ·have:J.length+1≠q:=fun e=>by subst e;rw [h6z] at hq;cases hq
     rw [List.getElem?_set_ne this];exact hq
    ·have:=(gsi hb).1
     rw [List.getElem?_set_ne (by omega)];exact hI.aa3 r b hb hn
  ·rintro i ⟨bd,rp2,ReBd,J6⟩ hi hw hI t ht
   dsimp only at*
   simp only [zY] at ht;subst ht
   have h6x:=hI.aa1
   have hbl:=hI.al
   have hib:i<bd.length:=by omega
   have hlf:=hI.aa8 _ (List.getElem_mem hib)
   have hdec:bd=bd.take i++bd[i]::bd.drop (i+1):=by rw [←List.drop_eq_getElem_cons hib,List.take_append_drop]
   rcases hI.aa4 with ⟨hb0,_⟩|⟨q,hBq,hq⟩
   ·rw [hb0] at hib;simp at hib
   obtain ⟨l,hle⟩: ∃ l,bd[i]=l:=⟨_,rfl⟩
   rw [hle] at hdec hlf
   have hpl:((bd.take i).map Li.c).flatten.length=i*9:=by rw [sP,List.length_take];congr 1;omega
   have hflat:(bd.map Li.c).flatten=((bd.take i).map Li.c).flatten++(l.c++((bd.drop (i+1)).map Li.c).flatten):=by
    conv=>lhs;rw [hdec]
    simp
   have hq2:=hq
   rw [hflat] at hq2
   obtain ⟨pre,hpre⟩: ∃ pre,((bd.take i).map Li.c).flatten=pre:=⟨_,rfl⟩
   obtain ⟨suf,hsuf⟩: ∃ suf,((bd.drop (i+1)).map Li.c).flatten=suf:=⟨_,rfl⟩
   rw [hpre] at hq2 hpl hflat
   rw [hsuf] at hq2 hflat
   subst hBq
   obtain ⟨lk,ln,lp,la,lb,le,ll,lo,lat⟩:=l
   have hla4:=hlf.a
   dsimp only at hla4
   simp only [List.cons_append,List.nil_append] at hq2
   have d1:=fun ys k=>iJ hpl ys k
   have d2:=fun ys k=>iA hpl ys k
   have d3:=fun ys=>lT hpl ys
   have d4: ∀ ys j k,(pre++ys).drop (i*9+j+k)=ys.drop (j+k):=fun ys j k=>by rw [Nat.add_assoc];exact d1 ys _
   have hset:J6.set q (.var 120 (pre++i64 lk::yQ ln::i64 lp::mI la::yQ lb::yQ le::i64 ll::i64 lo::i64 lat::suf))=J6:=by
    obtain ⟨hlt,hee⟩:=gsi hq2
    rw [←hee,List.set_getElem_self]
   (repeat (first|refine gz ?_|(refine gn ?_;intro zs zh;(try simp only [go_sem,h6x,hq2,hi,hib,hw,zB,d1,d2,d3,d4,hpl,hset] at zh);subst zh;refine gv ?_)|refine zQ zX _ 2 (by kernel_rfl) ?_))
   (refine g1f (a9 @h6x @hq2 @hi @hib @hw @zB @d1 @d2 (a4 @d3 @d4 @hpl @hset)) ?_;refine zC ((bI la (by omega) (all_map fun _=>rfl)).call zK (by simp) _) ?_;intro p2 h2 hr2;refine g2 ?_)
   obtain ⟨rfl,rfl⟩:=hr2
   (repeat (first|refine gz ?_|(refine gn ?_;intro zs zh;(try simp only [go_sem,h6x,hq2,hi,hib,hw,zB,d1,d2,d3,d4,hpl,hset] at zh);subst zh;refine gv ?_)|refine zQ zX _ 2 (by kernel_rfl) ?_))
   obtain ⟨p,h',⟨e9,pd9,ls9,J7,rfl,rfl,hbut9,h7q,hres9⟩,hcall9⟩:=aM b0 b1 pc ml mf mp L F P R ReBd J6 lats fs ps hI.aa5 q (i*9) 120 pre suf hpl ⟨lk,ln,lp,la,lb,le,ll,lo,lat⟩ hlf hq2
   simp only [List.cons_append,List.nil_append] at h7q
   ((try (with_reducible refine qP ?_));(with_reducible refine zaX (id:=9) ?_);refine nP (own:=false) wN zK ⟨[⟨0,0,[]⟩,⟨0,0,[]⟩,⟨0,0,[]⟩,⟨4,0,[]⟩,⟨0,0,[]⟩,⟨0,0,[]⟩,⟨0,0,[]⟩,⟨1,0,[]⟩,⟨4,0,[]⟩],[],0⟩ [0,1,2,4,5,6] 3 7 [8] (by kernel_rfl) ?_;intro n2 hn2;(try simp only [List.length_cons,List.length_nil,List.length_append,Nat.zero_add,Nat.reduceAdd] at hn2);subst hn2;intro l2 hl2;simp only [List.toList_toArray] at hl2;subst hl2;intro ds hds;simp only [List.map_cons,List.map_nil] at hds;subst hds;intro h2 hh2;(try simp only [rY,List.replicate_succ,List.replicate_zero,List.append_nil,List.cons_append,List.nil_append,List.append_assoc] at hh2);subst hh2)
   (repeat (first|refine gz ?_|(refine gn ?_;intro zs zh;(try simp only [go_sem,h6x,hq2,hi,hib,hw,zB,d1,d2,d3,d4,hpl,hset] at zh);subst zh;refine gv ?_)|refine zQ zX _ 2 (by kernel_rfl) ?_))
   have h7x:=hbut9 _ _ (fun e=>by subst e;rw [h6x] at hq2;cases hq2) h6x
   have h7z:=hbut9 _ _ (fun e=>by have h6z:=hI.aa2;rw [e,hq2] at h6z;cases h6z) hI.aa2
   have h7S:Sc lats fs ps ml mf mp L F P J7:=hI.aa5.mono (fun _ _ _ _ _ hG=>hbut9.grow hq2 (by simp) hG)
   have h7G:=hbut9.grow hq2 (by simp) hI.aa6
   have ha7:=hI.aa7
   have ha7':=hI.aa7'
   apply Exists.intro
   apply Exists.intro
   refine ⟨?_,?_,?_⟩
   ·refine zF rfl rfl rfl ?_
    intro sr hsr
    simp only [go_sem,hpl] at hsr
    subst hsr
    refine tY (by decide) (by decide) hcall9 ?_
    intro ts2 hts
    simp only [zZ,List.set_cons_zero,List.set_cons_succ] at hts
    subst hts
    (repeat (first|refine gz ?_|(refine gn ?_;intro zs zh;(try simp only [go_sem,h7q,d1,d2,d3,d4,hpl] at zh);subst zh;refine gv ?_)|refine zQ zX _ 2 (by kernel_rfl) ?_))
    exact ⟨rfl,rfl⟩
   ·(repeat (first|refine gz ?_|(refine gn ?_;intro zs zh;(try simp only [go_sem,h6x,hq2,hi,hib,hw,zB,d1,d2,d3,d4,hpl,hset] at zh);subst zh;refine gv ?_)|refine zQ zX _ 2 (by kernel_rfl) ?_))
    refine zF rfl rfl rfl ?_
    intro sr hsr
    simp only [go_sem,hpl] at hsr
    subst hsr
    refine tY (by decide) (by decide) hcall9 ?_
    intro ts2 hts
    simp only [zZ,List.set_cons_zero,List.set_cons_succ] at hts
    subst hts
    (repeat (first|refine gz ?_|(refine gn ?_;intro zs zh;(try simp only [go_sem,h7q,d1,d2,d3,d4,hpl] at zh);subst zh;refine gv ?_)|refine zQ zX _ 2 (by kernel_rfl) ?_))
    exact ⟨rfl,rfl⟩
   ·(refine zF rfl rfl rfl ?_;intro zs zh;simp only [go_sem,h7q] at zh;subst zh;refine zP (by decide) (by decide) (wZ b0 b1 pc ml mf mp L F P R ReBd J7 rp2 (by omega) h7G e9 lat) ?_;intro p2 h2 hr2 ts2 hts;simp only [go_sem] at hts;subst hts)
    obtain ⟨Rep8,J8,rfl,h8G,h8k⟩:=hr2
    (repeat (first|refine gz ?_|(refine gn ?_;intro zs zh;(try simp only [go_sem,hi,hw,zB] at zh);subst zh;refine gv ?_)|refine zQ zX _ 2 (by kernel_rfl) ?_))
    have hlen9:=vB rp2 e9 lat
    have hge9:=zaO rp2 e9 lat
    have hqJ:=hBge q _ rfl
    have hset2:bd.set i ⟨lk,ln,pd9,la,lb,le,ls9,lo,lat⟩=bd.take i++⟨lk,ln,pd9,la,lb,le,ls9,lo,lat⟩::bd.drop (i+1):=by
     rw [List.set_eq_take_append_cons_drop,if_pos hib]
    have htk2:(bd.set i ⟨lk,ln,pd9,la,lb,le,ls9,lo,lat⟩).take (i+1)=bd.take i++[⟨lk,ln,pd9,la,lb,le,ls9,lo,lat⟩]:=by
     rw [hset2,List.take_append,List.take_of_length_le (by simp;omega)]
     have:i+1-(bd.take i).length=1:=by simp;omega
     rw [this];rfl
    refine ⟨(bd.set i ⟨lk,ln,pd9,la,lb,le,ls9,lo,lat⟩,bU rp2 e9 lat,Rep8,J8),⟨h8k _ _ h7x (by simp),h8k _ _ h7z (by simp),fun r b hb hn=>h8k r b (hbut9 r b (by have:=(gsi hb).1;omega) (hI.aa3 r b hb hn)) hn,.inr ⟨q,by rw [List.length_set],?_⟩,by rw [List.length_set];exact hI.al,h7S.mono (fun _ _ _ _ ht hG=>h8k.grow ht hG),h8G,by dsimp only;omega,by dsimp only;omega,fun l hl=> ?_,fun h=> ?_⟩,rfl,rfl,rfl⟩
    ·have:((bd.set i ⟨lk,ln,pd9,la,lb,le,ls9,lo,lat⟩).map Li.c).flatten=pre++i64 lk::yQ ln::i64 pd9::mI la::yQ lb::yQ le::i64 ls9::i64 lo::i64 lat::suf:=by
      rw [hset2, ←hpre, ←hsuf];simp
     rw [this]
     exact h8k q _ h7q (by simp)
    ·rcases List.mem_or_eq_of_mem_set hl with hl|rfl
     ·exact hI.aa8 l hl
     ·exact ⟨hlf.a,hlf.c,hlf.b⟩
    ·dsimp only at h
     have h2:rp2.length=rp.length:=by omega
     have he9:e9=0:=by
      by_cases he:e9=0
      ·exact he
      ·unfold bU at h;rw [if_neg he,List.length_append,List.length_singleton] at h;omega
     obtain ⟨hd9,hl9⟩:=hI.aa9 h2
     refine ⟨hd9,fun l hl=> ?_⟩
     rw [htk2] at hl
     rcases List.mem_append.1 hl with hl|hl
     ·exact hl9 l hl
     ·rw [List.mem_singleton] at hl;subst hl;exact hres9 he9
end Go.AL
namespace Go.AL
open Go.Proofs Go.Proofs.Tryz
@[go_sem] def yF:DPlan:=⟨[yA,yA,yA,yA,⟨1,0,[1002]⟩,yA,yA,yA,⟨1,0,[1002]⟩,yA,yA,yA,⟨5,1002,[]⟩,yA],wS,0⟩
attribute [-go_sem] only pI
abbrev RuB (y:Ru×PV):List PV:=RuC y.1 y.2
structure RS (lats:List La) (fs:List (Fu×PV)) (ps:List Pd) (ml mf mp:NM) (L F P:PV) (i:Nat) (rs:List (Ru×PV)) (rp:List (Int×Int)) (R Rep:PV) (J:Heap):Prop where
 s:Sc lats fs ps ml mf mp L F P J
 g:GrowN 7 149 (iV rp) 2 J Rep
 r:GrowN 7 117 (rs.map RuB) 9 J R
 b: ∀ y∈rs,BJ J y.2 y.1.body
 l:rs.length=i
 n:rp.length≤10*i
def RzK (p:Pg) (v:PV) (h:Heap):Prop:=(∃ d:List (Int×Int),d≠[]∧ ∃ V,(V= .ts 2 (iV d)∨V= .tc 2 (iV d)∨ ∃ q,V= .vec q 2 (iV d))∧v= .tup [.agg [.nil,.nil,.nil,.nil],V])∨
 (p.fm∧ ∃ (b0 b1:Blk) (ml mf mp:NM) (L F P R Rep:PV) (J:Heap) (fs:List (Fu×PV)) (ps:List Pd) (rs:List (Ru×PV)),v= .tup [.agg [L,F,P,R],.nil]∧h=SH b0 b1 p.c ml mf mp L F P R Rep J∧
  GrowN 7 73 (p.lats.map La.c) 4 J L∧GrowN 7 109 (fs.map Fu.c2) 7 J F∧(∀ x∈fs,x.2= .nil∨x.2=vF x.1.table)∧GrowN 7 59 (ps.map Pd.c) 7 J P∧GrowN 7 117 (rs.map RuB) 9 J R∧
  (∀ y∈rs,BJ J y.2 y.1.body)∧fs.length=p.funs.length∧ps.length=p.preds.length∧(∀ x∈ps, -1≤x.of'∧x.of'<p.lats.length∧x.types.length≤4)∧(∀ x∈p.lats,uE x=0)∧PzL p.preds ps)
theorem zlF {rp:List (Int×Int)} (h:rp.length≠0): ∃ d:List (Int×Int),d≠[]∧List.take (if (20:Int)<(rp.length:Int) then 20 else (rp.length:Int)).toNat (iV rp)=iV d:=by
 refine ⟨rp.take (if (20:Int)<(rp.length:Int) then 20 else (rp.length:Int)).toNat,fun e=> ?_,by rw [iV,iV,List.map_take]⟩
 have:=congrArg List.length e
 rw [List.length_take,List.length_nil] at this
 split at this<;>omega
theorem fU (p:Pg) (hp:p.ok) (hle: ∀ x∈p.lats,x.elems.length≤1048576∧x.covers.length≤1048576):ECall prog G0 47 [.agg p.c] [] (RzK p):=by
 refine pv func47 65 false (by kernel_rfl) rfl rfl ?_
 refine g2 ?_
 (repeat (first|refine gz ?_|(refine gn ?_;intro zs zh;(try simp only [go_sem] at zh);subst zh;refine gv ?_)|refine zQ yF _ 11 (by kernel_rfl) ?_))
 (refine g1 ?_;refine zC ((zdU p hp).call zK (by simp [zJ]) _) ?_;intro p2 h2 hr2;refine g2 ?_)
 obtain ⟨⟨b,rfl,hfm⟩,rfl⟩:=hr2
 cases b with
 |false=>
  (repeat (first|refine gz ?_|(refine gn ?_;intro zs zh;(try simp only [go_sem] at zh);subst zh;refine gv ?_)|refine zQ yF _ 11 (by kernel_rfl) ?_))
  exact .inl ⟨[(1,0)],by simp,_,.inr (.inl rfl),rfl⟩
 | true=>
  have hf:=hfm rfl
  (repeat (first|refine gz ?_|(refine gn ?_;intro zs zh;(try simp only [go_sem] at zh);subst zh;refine gv ?_)|refine zQ yF _ 11 (by kernel_rfl) ?_))
  (refine g1 ?_;refine zC (dV _ _ p hp hf hle) ?_;intro p2 h2 hr2;refine g2 ?_)
  obtain ⟨ml,mf,mp,L,F,P,Rep,J,rp,fs,ps,rfl,rfl,n1,n2,n3,gL,gF,hfb,gP,gR,hpl,hpb,hfl,hrl,hck,hpz⟩:=hr2
  have hlR:=gR.len
  have hSc:Sc p.lats fs ps ml mf mp L F P J:=⟨hp.l,hf.ll,gL,gF,by have:=hf.fl;omega,gP,by have:=hf.pl;omega,hpb,n1,n2,n3⟩
  by_cases hr0:rp.length=0
  ·have e0:((rp.length:Int)==0)=true:=by rw [hr0];rfl
   have hlQ:pI (α:=Prop) prog 25 (.ts 9 (p.rules.map Ru.c))=some (i64 p.rules.length,True):=by
    have e:(wX prog 25).isSome=true:=by kernel_rfl
    simp only [pI,e,if_true,List.length_map];rfl
   (repeat (first|refine gz ?_|(refine gn ?_;intro zs zh;(try simp only [go_sem,hlR,e0,hlQ] at zh);subst zh;refine gv ?_)|refine zQ yF _ 11 (by kernel_rfl) ?_))
   refine zO p.rules.length (K4 (.k:: .k:: .d::K9 (K4 (K4 (.v::D9 (D9 (K9 (K9 (K4 ([])))))))))) (own:=false) (fun i (s:List (Ru×PV)×List (Int×Int)×PV×PV×Heap)=>[i64 i]) (fun s=>SH _ _ p.c ml mf mp L F P s.2.2.1 s.2.2.2.1 s.2.2.2.2) (fun i s=>RS p.lats fs ps ml mf mp L F P i s.1 s.2.1 s.2.2.1 s.2.2.2.1 s.2.2.2.2) ([],rp,.nil,Rep,J) rfl rfl ⟨hSc,gR,.inl ⟨rfl,rfl⟩,by simp,rfl,by dsimp only;omega⟩ (by have:=hf.rl;omega) ?_ ?_
   ·rintro ⟨rs,rp2,R,Rep2,J2⟩ ⟨i1,i2,i3,i4,i5,i6⟩ t ht
    dsimp only at*
    simp only [zY] at ht;subst ht
    have hlR2:=i2.len
    by_cases hr2:rp2.length=0
    ·have e2:decide ((0:Int)<(rp2.length:Int))=false:=by rw [decide_eq_false_iff_not];omega
     (repeat (first|refine gz ?_|(refine gn ?_;intro zs zh;(try simp only [go_sem,zM,hlR2,e2] at zh);subst zh;refine gv ?_)|refine zQ yF _ 11 (by kernel_rfl) ?_))
     exact .inr ⟨hf,_,_,_,_,_,_,_,_,_,_,_,fs,ps,rs,rfl,rfl,i1.l,i1.f,hfb,i1.p,i3,i4,hfl,hpl,hpb,hck (List.eq_nil_of_length_eq_zero hr0),hpz⟩
    ·have e2:decide ((0:Int)<(rp2.length:Int))=true:=by rw [decide_eq_true_eq];omega
     obtain ⟨q,rfl,hq⟩:=i2.vec (by rw [List.length_map];omega)
     have h18:(1<J2.length+1+1+1+1+1+1+1)=True:=by simp
     (repeat (first|refine gz ?_|(refine gn ?_;intro zs zh;(try simp only [go_sem,zM,hlR2,e2,h18,SH] at zh);subst zh;refine gv ?_)|refine zQ yF _ 11 (by kernel_rfl) ?_))
     obtain ⟨d,hd,ed⟩:=zlF hr2
     exact .inl ⟨d,hd,_,.inl rfl,by rw [ed]⟩
   ·rintro i ⟨rs,rp2,R,Rep2,J2⟩ hi hw hI t ht
    dsimp only at*
    simp only [zY] at ht;subst ht
    have hx:=zG (f:=Ru.c) [] hi
    obtain ⟨x,hxe⟩: ∃ x,p.rules[i]=x:=⟨_,rfl⟩
    have hxf:x.fm:=hxe▸hf.r _ (List.getElem_mem hi)
    rw [hxe] at hx
    (repeat (first|refine gz ?_|(refine gn ?_;intro zs zh;(try simp only [go_sem,hi,hx,zB,hw,zA,zD] at zh);subst zh;refine gv ?_)|refine zQ yF _ 11 (by kernel_rfl) ?_))
    obtain ⟨pv,h',⟨x',B,Rep3,J3,rp3,rfl,rfl,hBJ,hK,hG3,hle1,hle2⟩,hcall⟩:=zi1 _ _ p.c ml mf mp L F P R Rep2 (J2++[.var 117 x.c]) p.lats fs ps (hI.s.mono (fun _ _ _ _ _ hG=>hG.app _)) rp2 (by have:=hI.n;have:=hf.rl;omega) (hI.g.app _) x hxf
    have hRb: ∀ y∈rs,BJ J3 y.2 y.1.body:=fun y hy=>(hI.b y hy).mono fun q cs hq=>hK q _ (by rw [List.getElem?_append_left (gsi hq).1];exact hq) (by simp)
    have hS3:=hI.s.mono (fun _ _ _ _ ht hG=>hK.grow ht (hG.app [.var 117 x.c]))
    have hr3:=hK.grow (by decide) (hI.r.app [.var 117 x.c])
    have hn:=hI.n
    have hl:=hI.l
    ((try (with_reducible refine qP ?_));(with_reducible refine zaX (id:=8) ?_);refine nP (own:=false) wN zK ⟨[⟨0,0,[]⟩,⟨0,0,[]⟩,⟨0,0,[]⟩,⟨0,0,[]⟩,⟨0,0,[]⟩,⟨1,0,[]⟩,⟨0,0,[]⟩,⟨1,0,[]⟩,⟨4,0,[]⟩,⟨0,0,[]⟩,⟨4,0,[]⟩,⟨0,0,[]⟩,⟨0,0,[]⟩,⟨0,0,[]⟩,⟨4,0,[]⟩],[],0⟩ [0,1,2,3,4,6,7] 5 8 [9,10,11,12,13,14] (by kernel_rfl) ?_;intro n2 hn2;(try simp only [List.length_cons,List.length_nil,List.length_append,Nat.zero_add,Nat.reduceAdd] at hn2);subst hn2;intro l2 hl2;simp only [List.toList_toArray] at hl2;subst hl2;intro ds hds;simp only [List.map_cons,List.map_nil] at hds;subst hds;intro h2 hh2;(try simp only [rY,List.replicate_succ,List.replicate_zero,List.append_nil,List.cons_append,List.nil_append,List.append_assoc] at hh2);subst hh2)
    (repeat (first|refine gz ?_|(refine gn ?_;intro zs zh;(try simp only [go_sem,hi,hx,zB,hw,zA] at zh);subst zh;refine gv ?_)|refine zQ yF _ 11 (by kernel_rfl) ?_))
    apply Exists.intro
    apply Exists.intro
    refine ⟨?_,?_,?_⟩
    ·(repeat (first|refine gz ?_|(refine gn ?_;intro zs zh;(try simp only [go_sem,hi,hx,zB,hw] at zh);subst zh;refine gv ?_)|refine zQ yF _ 11 (by kernel_rfl) ?_))
     refine zF rfl rfl rfl ?_
     intro sr hsr
     simp only [go_sem] at hsr
     subst hsr
     refine tY (by decide) (by decide) hcall ?_
     intro ts2 hts
     simp only [zZ,List.set_cons_zero,List.set_cons_succ] at hts
     subst hts
     (repeat (first|refine gz ?_|(refine gn ?_;intro zs zh;(try simp only [go_sem,hi,hx,zB,hw] at zh);subst zh;refine gv ?_)|refine zQ yF _ 11 (by kernel_rfl) ?_))
     exact ⟨rfl,rfl⟩
    ·(repeat (first|refine gz ?_|(refine gn ?_;intro zs zh;(try simp only [go_sem,hi,hx,zB,hw,zA] at zh);subst zh;refine gv ?_)|refine zQ yF _ 11 (by kernel_rfl) ?_))
     refine zF rfl rfl rfl ?_
     intro sr hsr
     simp only [go_sem] at hsr
     subst hsr
     refine tY (by decide) (by decide) hcall ?_
     intro ts2 hts
     simp only [zZ,List.set_cons_zero,List.set_cons_succ] at hts
     subst hts
     (repeat (first|refine gz ?_|(refine gn ?_;intro zs zh;(try simp only [go_sem,hi,hx,zB,hw] at zh);subst zh;refine gv ?_)|refine zQ yF _ 11 (by kernel_rfl) ?_))
     exact ⟨rfl,rfl⟩
    ·have h6J:(6<J3.length+1+1+1+1+1+1+1)=True:=by simp
     rcases hr3 with ⟨h0,rfl⟩|⟨q,rfl,hq⟩
     ·have hrs:rs=[]:=by simpa using h0
      subst hrs
      (repeat (first|refine gz ?_|(refine gn ?_;intro zs zh;(try simp only [go_sem,hi,hx,zB,hw,h6J] at zh);subst zh;refine gv ?_)|refine zQ yF _ 11 (by kernel_rfl) ?_))
      exact ⟨([(x',B)],rp3,_,Rep3,_),⟨hS3.mono (fun _ _ _ _ _ hG=>hG.app _),hG3.app _,.inr ⟨J3.length,by simp,by simp⟩,by simpa using hBJ.mono fun q cs hq=>by rw [List.getElem?_append_left (gsi hq).1];exact hq,by simpa using hl.symm,by dsimp only;omega⟩,rfl,rfl,rfl⟩
     ·simp only [List.length_map] at hq
      have h40:rs.length≤40:=by have:=hf.rl;omega
      have hql:q<J3.length:=(gsi hq).1
      (repeat (first|refine gz ?_|(refine gn ?_;intro zs zh;(try simp only [go_sem,hi,hx,zB,hw,h6J,hq] at zh);subst zh;refine gv ?_)|refine zQ yF _ 11 (by kernel_rfl) ?_))
      have hm: ∀ z:Ru×PV,BJ J3 z.2 z.1.body→BJ (J3.set q (.vec 117 9 (rs.length+1))) z.2 z.1.body:=fun z hz=>hz.mono fun q2 cs hq2=>by
       have:q≠q2:=fun e=>by subst e;rw [hq] at hq2;cases hq2
       rw [List.getElem?_set_ne this];exact hq2
      refine ⟨(rs++[(x',B)],rp3,_,Rep3,_),⟨⟨hS3.lo,hS3.ll,hS3.l.set2 hq (by simp) _,hS3.f.set2 hq (by simp) _,hS3.fl,hS3.p.set2 hq (by simp) _,hS3.pl,hS3.pb,hS3.ml,hS3.mf,hS3.mp⟩,hG3.set2 hq (by simp) _,.inr ⟨q,by rw [List.map_append];rfl,by rw [List.getElem?_set_self hql];simp⟩,fun y hy=> ?_,by simp;omega,by dsimp only;omega⟩,rfl,rfl,rfl⟩
      rcases List.mem_append.1 hy with hy|hy
      ·exact hm y (hRb y hy)
      ·rw [List.mem_singleton] at hy;subst hy;exact hm _ hBJ
  ·have e0:((rp.length:Int)==0)=false:=by rw [beq_eq_false_iff_ne];omega
   have e1:decide ((0:Int)<(rp.length:Int))=true:=by rw [decide_eq_true_eq];omega
   obtain ⟨q,rfl,hq⟩:=gR.vec (by rw [List.length_map];omega)
   have h18:(1<J.length+1+1+1+1+1+1+1)=True:=by simp
   (repeat (first|refine gz ?_|(refine gn ?_;intro zs zh;(try simp only [go_sem,hlR,e0,e1,h18,SH] at zh);subst zh;refine gv ?_)|refine zQ yF _ 11 (by kernel_rfl) ?_))
   obtain ⟨d,hd,ed⟩:=zlF hr0
   exact .inl ⟨d,hd,_,.inl rfl,by rw [ed]⟩
end Go.AL
namespace Go.AL
open Go.Proofs Go.Proofs.Tryz
theorem fC (k:Nat): ∀ (l:List (List PV)) (_: ∀ e∈l,e.length=k) (i:Nat) (hi:i<l.length),(l.flatten.drop (i*k)).take k=l[i]
 | [],_,i,hi=>by simp at hi
 |e::l,h,0,_=>by
  rw [Nat.zero_mul,List.drop_zero,List.flatten_cons,List.take_left' (h e (by simp))];rfl
 |e::l,h,i+1,hi=>by
  rw [List.flatten_cons,Nat.succ_mul,Nat.add_comm, ←List.drop_drop,List.drop_left' (h e (by simp)),fC k l (fun e he=>h e (by simp [he])) i (by simpa using hi)];rfl
theorem rL (k:Nat) (l:List (List PV)) (h: ∀ e∈l,e.length=k):wA l.flatten 0 k l.length=l:=by
 apply List.ext_getElem
 ·simp [wA]
 ·intro i h1 h2
  have e:(wA l.flatten 0 k l.length)[i]? =some (wA l.flatten 0 k l.length)[i]:=List.getElem?_eq_getElem h1
  have:=(vN e).2
  rw [this,Nat.zero_add,fC k l h i h2]
theorem mZ (f:Nat) (l:List BA):zU (f+2) (rR l)=true:=all_map fun _=>rfl
theorem eK (f:Nat) (l:List Int):zU (f+2) (vF l)=true:=all_map fun _=>rfl
theorem zaK (f:Nat) (l:List Tm):zU (f+2) (mI l)=true:=all_map fun _=>rfl
theorem zlA (f:Nat) (x:La):x.c.all (zU (f+3))=true:=by
 have h1:=mZ (f+1) x.elems
 have h2:zU (f+3) (.ts 2 (x.covers.map fun c=>[i64 c.1,i64 c.2]))=true:=all_map fun _=>rfl
 simp only [La.c,List.all_cons,List.all_nil,h1,h2,Bool.and_true,Bool.true_and];rfl
theorem tb_fu (f:Nat) (x:Fu):x.c.all (zU (f+3))=true:=by
 have h1:=mZ (f+1) x.fr
 have h2:=mZ (f+1) x.to
 have h3:=eK (f+1) x.table
 simp only [Fu.c,List.all_cons,List.all_nil,h1,h2,h3,Bool.and_true,Bool.true_and];rfl
theorem zk8 (f:Nat) (x:Pd):x.c.all (zU (f+3))=true:=by
 have h3:=eK (f+1) x.types
 simp only [Pd.c,List.all_cons,List.all_nil,h3,Bool.and_true,Bool.true_and];rfl
theorem zk9 (f:Nat) (x:Li):x.c.all (zU (f+3))=true:=by
 have h3:=zaK (f+1) x.args
 simp only [Li.c,List.all_cons,List.all_nil,h3,Bool.and_true,Bool.true_and];rfl
theorem tb_ru (f:Nat) (x:Ru):x.c.all (zU (f+5))=true:=by
 have h3:=zaK (f+3) x.args
 have h4:zU (f+5) (.ts 9 (x.body.map Li.c))=true:=all_map fun y=>zk9 (f+1) y
 simp only [Ru.c,List.all_cons,List.all_nil,h3,h4,Bool.and_true,Bool.true_and];rfl
theorem tb_pg (f:Nat) (q:Pg):q.c.all (zU (f+7))=true:=by
 have h1:zU (f+7) (.ts 4 (q.lats.map La.c))=true:=all_map fun y=>zlA (f+3) y
 have h2:zU (f+7) (.ts 7 (q.funs.map Fu.c))=true:=all_map fun y=>tb_fu (f+3) y
 have h3:zU (f+7) (.ts 7 (q.preds.map Pd.c))=true:=all_map fun y=>zk8 (f+3) y
 have h4:zU (f+7) (.ts 9 (q.rules.map Ru.c))=true:=all_map fun y=>tb_ru (f+1) y
 simp only [Pg.c,List.all_cons,List.all_nil,h1,h2,h3,h4,Bool.and_true,Bool.true_and]
theorem zlN (f:Nat) (d:List (Int×Int)):zU (f+2) (.ts 2 (iV d))=true:=all_map fun _=>rfl
theorem zb0 {n:Nat} {h:Heap} (f:Nat) (cs:List PV):fz n h (f+1) (.agg cs)= .agg (cs.map (fz n h f)):=by simp only [fz]
theorem zaV {n:Nat} {h:Heap} (f k:Nat) (els:List (List PV)):fz n h (f+1) (.ts k els)= .ts k (els.map fun e=>e.map (fz n h f)):=by simp only [fz]
theorem zl7 {n:Nat} {h:Heap} (f k:Nat) (els:List (List PV)):fz n h (f+1) (.tc k els)= .tc k (els.map fun e=>e.map (fz n h f)):=by simp only [fz]
theorem zmA {h:Heap} (f r off k len:Nat) {t:TypeId} {cs:List PV} (e:h[r]? =some (.var t cs)):fz 0 h (f+1) (.ms r off k len)= .ts k (wA (cs.map (fz 0 h f)) off k len):=by
 simp only [fz,Nat.not_lt_zero,if_false,e]
def znL (x:Fu×PV):Fu:=match x.2 with
 | .nil=>{x.1 with table:=[]}
 |_=>x.1
theorem dL {h:Heap} {f:Nat} {cs:List PV} (hc:cs.all (zU f)=true):cs.map (fz 0 h f)=cs:=uR fun x hx=>vE 0 h f x (by rw [List.all_eq_true] at hc;exact hc x hx)
theorem GrowN.fz {t:TypeId} {els els':List (List PV)} {k:Nat} {J:Heap} {V:PV} (g:GrowN 7 t els k J V) (h:Heap) (f:Nat) (e:els.map (fun e=>e.map (fz 0 h f))=els'):PLe (fz 0 h (f+1) V) (.ts k els'):=by
 subst e
 rcases g with ⟨rfl,rfl⟩|⟨q,rfl,_⟩
 ·rw [kX];exact PLe.nil_ts k
 ·rw [pD,zaV];exact PLe.refl _
theorem qI {α:Type} {h:Heap} {f:Nat} {l:List α} {c d:α→List PV} (e: ∀ x∈l,(c x).map (fz 0 h f)=d x):(l.map c).map (fun e=>e.map (fz 0 h f))=l.map d:=by
 rw [List.map_map];exact List.map_congr_left fun x hx=>e x hx
abbrev RsvK (p:Pg) (v:PV):Prop:= ∃ (q:Pg) (d:List (Int×Int)),v= .tup [.agg q.c,.ts 2 (iV d)]∧(d=[]→p.fm∧q.funs.length=p.funs.length∧q.preds.length=p.preds.length∧(∀ x∈q.preds, -1≤x.of'∧x.of'<p.lats.length)∧(∀ x∈p.lats,uE x=0)∧PzL p.preds q.preds)
theorem cN (q:Pg) (d:List (Int×Int)):Tree (.tup [.agg q.c,.ts 2 (iV d)]):=yP 40 _ (by
 have h1:zU 39 (.agg q.c)=true:=tb_pg 31 q
 have h2:=zlN 37 d
 simp only [zU,List.all_cons,List.all_nil,h1,h2,Bool.and_true] at*
 simp [h1,h2])
theorem aI (p:Pg) (hp:p.ok) (hle: ∀ x∈p.lats,x.elems.length≤1048576∧x.covers.length≤1048576):EPure prog G0 47 [.agg p.c] (RsvK p):=by
 refine ECall.cutW (fU p hp hle) ?_
 rintro v h (⟨d,hd,V,hV,rfl⟩|⟨hf,b0,b1,ml,mf,mp,L,F,P,R,Rep,J,fs,ps,rs,rfl,rfl,gL,gF,hfb,gP,gR,hB,hfl,hpl,hpb,hck,hpz⟩)
 ·refine ⟨.tup [.agg (Pg.c ⟨[],[],[],[]⟩),.ts 2 (iV d)],?_,⟨⟨[],[],[],[]⟩,d,rfl,fun h=>absurd h hd⟩,cN _ _⟩
  rw [dK 39]
  refine (PLes.cons ?_ (.cons ?_ .nil)).tup
  ·rw [zb0 38]
   simp only [List.map_cons,List.map_nil,kX 37]
   exact (PLes.cons (PLe.nil_ts _) (.cons (PLe.nil_ts _) (.cons (PLe.nil_ts _) (.cons (PLe.nil_ts _) .nil)))).agg
  ·have e:(iV d).map (fun e=>e.map (fz 0 h 38))=iV d:=qI fun x _=>rfl
   rcases hV with rfl|rfl|⟨q,rfl⟩
   ·rw [zaV 38,e];exact PLe.refl _
   ·rw [zl7 38,e];exact PLe.tc_ts _ _
   ·rw [pD (f:=38),zaV 38,e];exact PLe.refl _
 ·obtain ⟨H,hH⟩: ∃ H,SH b0 b1 p.c ml mf mp L F P R Rep J=H:=⟨_,rfl⟩
  refine ⟨.tup [.agg (Pg.c ⟨p.lats,fs.map znL,ps,rs.map (·.1)⟩),.ts 2 (iV [])],?_,⟨_,[],rfl,fun _=>⟨hf,by simpa using hfl,hpl,fun x hx=>⟨(hpb x hx).1,(hpb x hx).2.1⟩,hck,hpz⟩⟩,cN _ _⟩
  rw [dK 39]
  refine (PLes.cons ?_ (.cons ?_ .nil)).tup
  ·rw [hH]
   have e0:fz 0 H 39 (.agg [L,F,P,R])= .agg [fz 0 H 38 L,fz 0 H 38 F,fz 0 H 38 P,fz 0 H 38 R]:=by rw [zb0 38];rfl
   rw [e0]
   refine (PLes.cons ?_ (.cons ?_ (.cons ?_ (.cons ?_ .nil)))).agg
   ·exact gL.fz H 37 (qI fun x _=>dL (zlA 34 x))
   ·refine (gF.fz H 37 (els':=fs.map Fu.c2) (qI fun x hx=> ?_)).trans ?_
    ·refine dL ?_
     have h1:=mZ 35 x.1.fr
     have h2:=mZ 35 x.1.to
     have h3:=eK 35 x.1.table
     have h4:zU 37 x.2=true:=by rcases hfb x hx with e|e<;>rw [e];rfl;exact h3
     simp only [Fu.c2,List.all_cons,List.all_nil,h1,h2,h4,Bool.and_true,Bool.true_and];rfl
    ·rw [List.map_map]
     refine PLes.ts_map fun x hx=> ?_
     rcases hfb x hx with e|e
     ·simp only [Function.comp,znL,e,Fu.c2,Fu.c]
      exact .cons (PLe.refl _) (.cons (PLe.refl _) (.cons (PLe.refl _) (.cons (PLe.refl _) (.cons (PLe.refl _) (.cons (PLe.nil_ts 1) (.cons (PLe.refl _) .nil))))))
     ·simp only [Function.comp,znL,e,Fu.c2,Fu.c]
      exact PLes.refl _
   ·exact gP.fz H 37 (qI fun x _=>dL (zk8 34 x))
   ·rw [List.map_map]
    refine gR.fz H 37 (qI fun y hy=> ?_)
    have h1:=vE 0 H 37 _ (zaK 35 y.1.args)
    have h2:fz 0 H 37 y.2= .ts 9 (y.1.body.map Li.c):=by
     rcases hB y hy with ⟨e1,e2⟩|⟨q,e2,hq⟩
     ·rw [e1,e2];rfl
     ·have hq':H[q+7]? =some (.var 120 (y.1.body.map Li.c).flatten):=by rw [←hH];exact hq
      rw [e2,zmA 36 _ _ _ _ hq']
      have e3:((y.1.body.map Li.c).flatten).map (fz 0 H 36)=(y.1.body.map Li.c).flatten:=by
       refine dL ?_
       rw [List.all_flatten]
       exact all_map fun x=>zk9 33 x
      rw [e3]
      have:=rL 9 (y.1.body.map Li.c) (by intro e he;obtain ⟨x,_,rfl⟩:=List.mem_map.1 he;rfl)
      rw [List.length_map] at this
      rw [this]
    simp only [Function.comp,RuB,RuC,Ru.c,List.map_cons,List.map_nil,h1,h2,zaW 36]
  ·rw [kX];exact PLe.nil_ts 2
end Go.AL
