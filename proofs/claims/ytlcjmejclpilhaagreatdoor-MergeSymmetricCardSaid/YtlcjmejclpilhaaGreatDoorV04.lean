/-
  Part of the walk.
-/
import Derived.Test.YtlcjmejclpilhaaGreatDoorV03
import Derived.RangeFuncRecord
set_option linter.unusedSimpArgs false
set_option linter.unusedVariables false
set_option maxRecDepth 100000
set_option maxHeartbeats 4000000
namespace Go.AL
open Go.RowKit
inductive Anc(ops:List Oper):Nat->Nat->Prop
 |edge {a i:Nat} {o:Oper} {e:Edge} (ho:ops[i]? =some o) (he:e∈o.after) (hb:Region.binds .any e=true) (ha:e.on=a):Anc ops a i
 |far {a i:Nat} {o:Oper} {e:Edge} (ho:ops[i]? =some o) (he:e∈o.after) (hb:Region.binds .any e=true) (ha:Anc ops a e.on):Anc ops a i
structure Plan(ops:List Oper)(ann:Nat->DAnn)(ρ:List Nat):Prop where
 nodup:ρ.Nodup
 lt: ∀i∈ρ,i<ops.length
 pair:ρ.Pairwise fun i j=>(Anc ops i j\/ ∀a b,ops[i]? =some a->ops[j]? =some b->lK ops (ann i) (ann j) a b=true)/\
  ∀o,ops[i]? =some o-> ∀e∈o.after,Region.binds .any e=true->e.on≠j
 self: ∀i∈ρ, ∀o,ops[i]? =some o-> ∀e∈o.after,Region.binds .any e=true->e.on<ops.length/\e.on≠i
theorem Plan.cut{ops:List Oper}{ann:Nat->DAnn}{α β:List Nat}{i:Nat}(h:Plan ops ann (α++i::β)):Plan ops ann (α++β):=by
 have hsub:(α++β).Sublist (α++i::β):=List.Sublist.append_left (List.sublist_cons_self i β) α;exact⟨h.nodup.sublist hsub,fun j hj=>h.lt j (hsub.subset hj),h.pair.sublist hsub,fun j hj=>h.self j (hsub.subset hj)⟩
theorem jX{ops:Array Oper}{listed:Array Bool}(hdc: ∀(i:Nat)(o:Oper),ops[i]? =some o->listed.getD i false=true-> ∀e∈o.after,Region.binds .any e=true->listed.getD e.on false=true){a i:Nat}
  (h:Anc ops.toList a i):(∀o,ops[i]? =some o-> ∀e∈o.after,Region.binds .any e=true->listed.getD e.on false=true)->listed.getD a false=true:=by
 induction h with
 |edge ho he hb ha=>intro hr;rw[<-ha];exact hr _ Qg0 _ he hb
 |far ho he hb _ ih=>
  intro hr;have hl:=hr _ Qg0 _ he hb;exact ih fun o' ho' e' he' hb'=>hdc _ o' ho' hl e' he' hb'
section
variable{P:Program}{G:Glob}{rd:Option Nat}{n0:Nat}{t0:List PV}
theorem qW{ann:Nat->DAnn}{ops:List Oper}{i:Nat}{b:Oper}(hb:ops[i]? =some b): ∀{α β:List Nat}{s s':List PV×Heap},(∀a∈α, ∀o,ops[a]? =some o->lK ops (ann a) (ann i) o b=true)->
  DRun P G rd n0 t0 ann ops (α++i::β) s s'-> ∃m,DStep P G rd n0 t0 ann ops i s m/\DRun P G rd n0 t0 ann ops (α++β) m s':=by
 intro α
 induction α with
 |nil=>intro β s s' _ h;exact h
 |cons a α ih=>
  intro β s s' hc h;obtain⟨m,h1,h2⟩:=h;obtain⟨m',h3,h4⟩:=ih (fun a ha=>hc a (Qf _ ha)) h2;have h1':=h1;obtain⟨o,_,_,ho,_⟩:=h1';obtain⟨m'',h5,h6⟩:=DStep.swap ho hb (hc a (Qe ..) o ho) h1 h3;exact⟨m'',h5,m',h6,h4⟩
def GTree(G:Glob):Prop:= ∀g cs,G g=some cs-> ∀p∈cs,Tree p
theorem zeO{P:Program}{f:Operand->PV}{op:Op}{p:PV}{h0:Heap}{c:Prop}(hop:(∃t ps,op= .build t ps)\/ ∃t n ps,op= .buildSlice t n ps)(h:Heap)(he:vA P [] f op=some (p,h0,c)):vA P h f op=some (p,h,c):=by
 rcases hop with ⟨t,ps,rfl⟩|⟨t,n,ps,rfl⟩
 ·simp only[vA] at he ⊢
  split at he
  ·cases he;rfl
  ·cases he
 ·simp only[vA] at he ⊢
  repeat' split at he
  all_goals first
   |(cases he;done)
   |(cases he;simp_all)
theorem zgZ{o:Oper}{ts:List PV}{h:Heap}{p:PV}{c:Prop}(he:pA P (wV G ts) o.op=some (p,c))(hc:c):OpOk P G rd o h (wV G ts) fun q h'=>q=p/\h'=h:=by
 have viaEff:((∃t ps,o.op= .build t ps)\/ ∃t n ps,o.op= .buildSlice t n ps)->(vA P [] (wV G ts) o.op).map (fun r=>(r.1,r.2.2))=some (p,c)->OpOk P G rd o h (wV G ts) fun q h'=>q=p/\h'=h:=by
  intro hop he;cases hr:vA (α:=Prop) P [] (wV G ts) o.op with
  |none=>rw[hr] at he;cases he
  |some r=>
   obtain⟨q,h0,d⟩:=r;rw[hr] at he;cases he;exact .of_eff (zeO hop h hr) hc ⟨rfl,rfl⟩
 cases hop:o.op with
 |build t ps=>rw[hop] at he;exact viaEff (.inl ⟨t,ps,hop⟩) (by rw[hop];exact he)
 |buildSlice t n ps=>rw[hop] at he;exact viaEff (.inr ⟨t,n,ps,hop⟩) (by rw[hop];exact he)
 |_=>exact .of_pure (sX (h:=[]) Qf1 (by rw[hop] at he ⊢;exact he)) hc ⟨rfl,rfl⟩
theorem DOpr.ok(hG:GTree G){d:DAnn}{o:Oper}{ts:List PV}{h:Heap}{p:PV}{h1:Heap}(k:DOpr P G rd n0 t0 d o ts h p h1):OpOk P G rd o h (wV G ts) fun q h'=>q=p/\h'=h1:=by
 unfold DOpr at k;split at k
 ·obtain⟨rfl,c,he,hc⟩:=k;exact zgZ he hc
 ·obtain⟨rfl,c,he,hc⟩:=k;refine .of_pure (sX (h:=rI (d.fb.map (nu n0 t0)) h1) (fun r b hbn hr=> ?_) he) hc ⟨rfl,rfl⟩;rw[qO] at hr;split at hr
  ·cases hr;exact absurd rfl hbn
  ·exact hr
 ·obtain⟨hn,b,c,he,hc,rfl⟩:=k;refine .of_run (fun c hop=>by rw[hop] at he;cases he) fun φ w X ρ hS _ hx=> ?_;obtain⟨φ',w',v,hrun,x,hs,hv⟩:=zd1 (P:=P) (S:=⟨φ,h,w,X⟩) (o:=o) (ρ:=ρ) hS hx hn he hc;exact⟨φ',_,w',p,v,hrun,x,hs,hv,rfl,rfl⟩
 ·obtain⟨rfl,c,x,g,fst,cap,ho,hc,hx,hp,ht,hr⟩:=k;exact .call ho hc hx (hp.frame ht hr hG h1)
 ·obtain⟨t,a,x,off,c,ho,_,he,hc⟩:=k;exact .of_eff (ho▸he) hc ⟨rfl,rfl⟩
 ·obtain⟨⟨h0,k1,k2,k3,k4,k5,rfl⟩,_⟩:=k;exact .frame hG k1 k2 k3 k4 k5
 ·obtain⟨rfl,c,he,hc⟩:=k;refine .of_pure (sX (h:=only (d.fb.map (nu n0 t0)) h1) (fun r b hbn hr=> ?_) he) hc ⟨rfl,rfl⟩;rw[oA] at hr;cases hb:h1[r]? with
  |none=>rw[hb] at hr;cases hr
  |some b'=>
   rw[hb] at hr;simp only[Wh,Option.some.injEq] at hr;split at hr
   ·rw[hr]
   ·exact absurd hr.symm hbn
 ·exact k
theorem nQ(hG:GTree G){ops:Array Oper}{ann:Nat->DAnn}{QQ:Exit->Act->World->Prop}{sF:List PV×Heap}{Q0:List PV->Heap->Prop}(hQ0:Q0 sF.1 sF.2): ∀(fuel:Nat)(ρ:List Nat)(listed:Array Bool)(s:List PV×Heap),DRun P G rd n0 t0 ann ops.toList ρ s sF->
  Plan ops.toList ann ρ->ρ.length<=fuel->listed.size=ops.size->(∀i,i<ops.size->(i∈ρ↔listed.getD i true=false))->
  (∀(i:Nat)(o:Oper),ops[i]? =some o->listed.getD i false=true-> ∀e∈o.after,Region.binds .any e=true->listed.getD e.on false=true)->
  ∀(B:Nat)(φ:List Value)(w:World)(X:Addr->Prop)(a:Act),ARel B ⟨φ,s.2,w,X⟩ G s.1 a->
   (∀(φ':List Value)(w':World)(a':Act)(ts':List PV)(h':Heap),Ext ⟨φ,s.2,w,X⟩ ⟨φ',h',w',X⟩->ARel B ⟨φ',h',w',X⟩ G ts' a'->Q0 ts' h'->QQ .normal a' w')->
   wpAnyIn (FW rd) 0 P .any ops QQ fuel listed a w:=by
 intro fuel
 induction fuel with
 |zero=>
  intro ρ listed s hrun hpl hlen hsz hmem hdc B φ w X a hA hQ;have hρ:ρ=[]:=Xi Qf0;subst hρ;cases hrun;refine⟨?_,hQ φ w a _ _ (Ext.refl _) hA hQ0⟩;refine List.eq_nil_iff_forall_not_mem.2 fun i hi=> ?_;obtain⟨h0,o,ho,_⟩:=mem_ready.1 hi;have:=(hmem i (Qz.1 ho).1).2 h0;cases this
 | succ fuel ih=>
  intro ρ listed s hrun hpl hlen hsz hmem hdc B φ w X a hA hQ;have unl: ∀i,i<ops.size->i∈ρ->listed.getD i false=false:=fun i hi h=>by
   have:=(hmem i hi).1 h;rw[Yx] at this ⊢
   have hlt:i<listed.size:=Qf0;simp[hlt] at this ⊢
   exact this
  have lst: ∀i,i<ops.size->i∉ρ->listed.getD i false=true:=fun i hi h=>by
   have h1:listed.getD i true≠false:=fun e=>h ((hmem i hi).2 e);rw[Yx] at h1 ⊢
   have hlt:i<listed.size:=Qf0;simp[hlt] at h1 ⊢
   exact h1
  refine⟨fun hr=> ?_,fun i hi=> ?_⟩
  ·cases ρ with
   |nil=>cases hrun;exact hQ φ w a _ _ (Ext.refl _) hA hQ0
   | cons i ρ=>
    exfalso;have hlt:i<ops.size:=by simpa using hpl.lt i Qf1
    have:i∈Region.ready .any ops listed:=by
     rw[mem_ready];refine⟨(hmem i hlt).1 Qf1,ops[i],by simp[hlt],fun e he hb=> ?_⟩;have hs:=hpl.self i Qf1 ops[i] (by simp[hlt]) e he hb;refine lst _ (by simpa using hs.1) fun hm=> ?_;rcases Qw.1 hm with h|h
     ·exact hs.2 h
     ·exact((Yb.1 hpl.pair).1 _ h).2 ops[i] (by simp[hlt]) e he hb rfl
    rw[hr] at this;cases this
  ·obtain⟨h0,o,ho,hedge⟩:=mem_ready.1 hi;have hlt:i<ops.size:=(Qz.1 ho).1;have hiρ:i∈ρ:=(hmem i hlt).2 h0;obtain⟨α,β,rfl⟩:=List.append_of_mem hiρ;have hnd:=hpl.nodup;rw[Za] at hnd;obtain⟨hnα,hnβ,hdis⟩:=hnd;rw[Zs] at hnβ;have hiα:i∉α:=fun h=>hdis i h i Qf1 rfl;obtain⟨m,hst,hrun'⟩:=qW (b:=o) Qg0 (fun x hx ox hox=>by
    have hp:=(Kq.1 hpl.pair).2.2 x hx i Qf1;rcases hp.1 with hanc|hc
    ·have hxlt:x<ops.size:=by simpa using hpl.lt x Qf7
     have h1:=jX hdc hanc fun o' ho' e he hb=>by rw[ho] at ho';cases ho';exact hedge e he hb
     rw[unl x hxlt Qf7] at h1;cases h1
    ·exact hc ox o hox Qg0) hrun
   have hpl':=hpl.cut;have hmem': ∀k,k<ops.size->(k∈α++β↔(listed.setIfInBounds i true).getD k true=false):=by
    intro k hk;by_cases hik:i=k
    ·subst hik;have hlt':i<listed.size:=Qf0;simp[hlt',hiα,hnβ.1]
    ·rw[getD_set_ne true hik,<-hmem k hk];simp[Ne.symm hik]
   have hdc': ∀(k:Nat)(o':Oper),ops[k]? =some o'->(listed.setIfInBounds i true).getD k false=true-> ∀e∈o'.after,Region.binds .any e=true->(listed.setIfInBounds i true).getD e.on false=true:=by
    intro k o' ho' hk e he hb;by_cases hik:i=k
    ·exact Qdz
    ·rw[getD_set_ne false hik] at hk;exact getD_set_true (hdc k o' ho' hk e he hb)
   have next: ∀(φ':List Value)(w':World)(a':Act),Ext ⟨φ,s.2,w,X⟩ ⟨φ',m.2,w',X⟩->ARel B ⟨φ',m.2,w',X⟩ G m.1 a'->wpAnyIn (FW rd) 0 P .any ops QQ fuel (listed.setIfInBounds i true) a' w':=fun φ' w' a' x hA'=>
    ih (α++β) _ m hrun' hpl' Qgp Qg7 hmem' hdc' B φ' w' X a' hA' fun φ'' w'' a'' ts'' h'' x' hA'' hq=>hQ φ'' w'' a'' ts'' h'' (x.trans x') hA'' hq
   obtain⟨o',p,h1,ho',wP,rfl⟩:=hst;rw[Yi,ho] at ho';cases ho';have put: ∀(φ':List Value)(h':Heap)(w':World)(dst:Option Tmp)(q:PV)(v:Value),Ext ⟨φ,s.2,w,X⟩ ⟨φ',h',w',X⟩->SRel ⟨φ',h',w',X⟩->VRel ⟨φ',h',w',X⟩ q v->
     ARel B ⟨φ',h',w',X⟩ G (zZ s.1 dst q) (a.put dst v):=fun φ' h' w' dst q v x hs hv=>
    ⟨hs,hA.gl.ext x,(hA.tr.ext x).put dst hv,by have:=hA.mark.ext x;cases dst<;>exact this,Ya hA.base x.size⟩
   have step: ∀(hk:DOpr P G rd n0 t0 (ann i) o s.1 s.2 p h1),o.wpIn (FW rd) 0 P a w (wpAnyIn (FW rd) 0 P .any ops QQ fuel (listed.setIfInBounds i true)) QQ:=fun hk=>
    hk.ok hG φ w X a _ _ hA.st hA.gl (fun x _=>lI hA.gl hA.tr x) fun φ' h' w' q v x hs hv ⟨e1,e2⟩=>by subst e1;subst e2;exact next φ' w' _ x (put φ' _ w' _ _ v x hs hv)
   have skip:p= .ud->h1=s.2->wpAnyIn (FW rd) 0 P .any ops QQ fuel (listed.setIfInBounds i true) (a.put o.dst undef) w:=fun e1 e2=>by
    exact Qdh
   simp only[wpOpIn,ho];unfold DGd at wP;cases hg:o.guard with
   |none=>
    rw[hg] at wP;rw[Qj (by simp[Region.wanted,hg])];exact step wP
   | some jw=>
    obtain⟨j,want⟩:=jw;rw[hg] at wP;simp only[] at wP;split at wP
    ·exact Qb0
    ·rename_i hb;exact Qcn
    ·exact wP.elim
theorem zu2{φ:List Value}{h:Heap}{w:World}{X:Addr->Prop}(n:Nat)(hn:w.drawn<=n)(hS:SRel ⟨φ,h,w,X⟩):Ext ⟨φ,h,w,X⟩ ⟨φ,h,{w with drawn:=n},X⟩/\SRel ⟨φ,h,{w with drawn:=n},X⟩:=by
 have x:Ext ⟨φ,h,w,X⟩ ⟨φ,h,{w with drawn:=n},X⟩:=⟨rfl,rfl,ztC rfl hn,rfl,Xe _,fun b hb hn=>⟨hn,rfl⟩,fun a v hm=>hm,fun r b hb=>⟨b,hb,Blk.le_refl b rfl⟩,fun _ _ h=>h⟩
 exact⟨x,⟨hS.len,fun r b v hb hv=>(hS.blks r b v hb hv).ext x fun _ _=>rfl,hS.inj,hS.xlt,hS.xown⟩⟩
theorem bM(hm:P.follows .mixedOrders=true)(hG:GTree G){id:Nat}{l:List Oper}{ann:Nat->DAnn}{ρ:List Nat}(hpl:Plan l ann ρ)(hln:ρ.length<=l.length)(hall: ∀i,i<l.length->i∈ρ)(m:Nat){Q:Exit->List PV->Heap->Prop}{ts:List PV}{h:Heap}
  (k: ∃sF,DRun P G rd n0 t0 ann l ρ (ts,rY h m) sF/\Q .normal sF.1 sF.2):AWp P G rd (.region id l.toArray true) Q ts h:=by
 intro B φ w X a hA;obtain⟨sF,hrun,hq⟩:=k;refine wpIn_region_any hm ?_;obtain⟨x1,hS1⟩:=zu2 (w.drawn+1) (Nat.le_succ _) hA.st;obtain⟨x2,hS2⟩:=zbG hS1 m;have x:=x1.trans x2;have hlen:ρ.length<=l.toArray.size:=by simpa using hln
 refine nQ hG (Q0:=Q .normal) hq _ ρ _ (ts,rY h m) (by simpa using hrun) (by simpa using hpl) hlen Qf1 (fun i hi=> ?_) (fun i o ho hl=> ?_) B _ _ X a
  ⟨hS2,hA.gl.ext x,hA.tr.ext x,hA.mark.ext x,Ya hA.base x.size⟩ fun φ' w' a' ts' h' x' hA' hq'=>⟨φ',ts',h',x.trans x',hA',hq'⟩
 ·simp at hi;simp[hi,hall i hi]
 ·exact Qeh
end
end Go.AL
namespace Go.AL
open Go.RowKit
def zcC(m:List Nat)(o:Oper):Nat:=
 o.after.toList.foldl (fun acc e=>if Region.binds .any e then acc ||| (1 <<< e.on) ||| m.getD e.on 0 else acc) 0
def qB(ops:List Oper):List Nat->List Nat->List Nat
 | [],m=>m
 |i::r,m=>match ops[i]? with
  |some o=>qB ops r (m.set i (zcC m o))
  |none=>qB ops r m
theorem zaA{ops:List Oper}{m:List Nat}(hm: ∀i a,(m.getD i 0).testBit a=true->Anc ops a i){i:Nat}{o:Oper}(ho:ops[i]? =some o): ∀a,(zcC m o).testBit a=true->Anc ops a i:=by
 have key: ∀(l:List Edge)(acc:Nat),(∀e∈l,e∈o.after)->(∀a,acc.testBit a=true->Anc ops a i)->
   ∀a,(l.foldl (fun acc e=>if Region.binds .any e then acc ||| (1 <<< e.on) ||| m.getD e.on 0 else acc) acc).testBit a=true->Anc ops a i:=by
  intro l
  induction l with
  |nil=>intro acc _ h a ha;exact h a ha
  | cons e l ih=>
   intro acc hl h a ha;refine ih _ (fun x hx=>hl x (Qf _ hx)) (fun b hb=> ?_) a ha;simp only[] at hb;split at hb
   ·rename_i hbind;have he:=hl e Qf1;rw[Kf,Kf,Ka,Ka] at hb;rcases hb with (hb|hb)|hb
    ·exact h b hb
    ·rw[Nat.one_shiftLeft,Nat.testBit_two_pow] at hb;exact .edge ho he hbind (Xj hb)
    ·exact .far ho he hbind (hm _ b hb)
   ·exact h b hb
 intro a ha;exact key _ 0 (fun e he=>by simpa using he) (fun b hb=>by simp at hb) a ha
theorem fN{ops:List Oper}: ∀(r:List Nat)(m:List Nat),(∀i a,(m.getD i 0).testBit a=true->Anc ops a i)-> ∀i a,((qB ops r m).getD i 0).testBit a=true->Anc ops a i:=by
 intro r
 induction r with
 |nil=>intro m h;exact h
 | cons i r ih=>
  intro m h;simp only[qB];split
  ·rename_i o ho;refine ih _ fun j a ha=> ?_;rw[Qb,Qq] at ha;split at ha
   ·rename_i e;subst e;split at ha
    ·exact zaA h ho a ha
    ·simp at ha
   ·exact h j a (by rw[Qb];exact ha)
  ·exact ih m h
def dH(a:Oper)(j:Nat):Bool:=a.after.toList.all fun e=> !Region.binds .any e||e.on !=j
def zhE(ops:List Oper)(ann:Nat->DAnn)(m:List Nat)(i j:Nat):Bool:=
 i !=j&&match ops[i]?,ops[j]? with
  |some a,some b=>((m.getD j 0).testBit i||lK ops (ann i) (ann j) a b)&&dH a j
  |_,_=>false
def pB(ops:List Oper)(ann:Nat->DAnn)(m:List Nat):List Nat->Bool
 | []=>true
 |i::r=>r.all (zhE ops ann m i)&&pB ops ann m r
def nY(ops:List Oper)(i:Nat):Bool:=
 decide (i<ops.length)&&match ops[i]? with
  |some o=>o.after.toList.all fun e=> !Region.binds .any e||(decide (e.on<ops.length)&&e.on !=i)
  |none=>false
def zh1(ops:List Oper)(ann:Nat->DAnn)(ρ:List Nat):Bool:=
 decide (ρ.length<=ops.length)&&(List.range ops.length).all (ρ.contains ·)&&ρ.all (nY ops)&&pB ops ann (qB ops ρ (List.replicate ops.length 0)) ρ
theorem gU{a:Oper}{j:Nat}(h:dH a j=true): ∀e∈a.after,Region.binds .any e=true->e.on≠j:=by
 intro e he hb;unfold dH at h;rw[Xg] at h;have:=h e Qg1;rw[hb] at this;simpa using this
theorem jO{ops:List Oper}{ann:Nat->DAnn}{m:List Nat}(hm: ∀i a,(m.getD i 0).testBit a=true->Anc ops a i): ∀{ρ:List Nat},pB ops ann m ρ=true->ρ.Nodup/\
  ρ.Pairwise fun i j=>(Anc ops i j\/ ∀a b,ops[i]? =some a->ops[j]? =some b->lK ops (ann i) (ann j) a b=true)/\ ∀o,ops[i]? =some o-> ∀e∈o.after,Region.binds .any e=true->e.on≠j:=by
 intro ρ
 induction ρ with
 |nil=>intro _;exact⟨.nil,.nil⟩
 | cons i r ih=>
  intro h;simp only[pB,Qt,Xg] at h;obtain⟨h1,h2⟩:=h;obtain⟨k1,k2⟩:=ih h2;have key: ∀j∈r,i≠j/\((Anc ops i j\/ ∀a b,ops[i]? =some a->ops[j]? =some b->lK ops (ann i) (ann j) a b=true)/\ ∀o,ops[i]? =some o-> ∀e∈o.after,Region.binds .any e=true->e.on≠j):=by
   intro j hj;have hp:=h1 j hj;unfold zhE at hp;rw[Qt] at hp;obtain⟨hne,hp⟩:=hp;refine⟨by simpa using hne,?_⟩;split at hp
   ·rename_i a b ha hb;rw[Qt,Ka] at hp;refine⟨?_,fun o ho=> ?_⟩
    ·rcases hp.1 with h|h
     ·exact .inl (hm _ _ h)
     ·refine .inr fun a' b' ha' hb'=> ?_;rw[ha] at ha';rw[hb] at hb';cases ha';cases hb';exact h
    ·rw[ha] at ho;cases ho;exact gU hp.2
   ·cases hp
  exact⟨Zs.2 ⟨fun hi=>(key i hi).1 rfl,k1⟩,.cons (fun j hj=>(key j hj).2) k2⟩
theorem cP{ops:List Oper}{ann:Nat->DAnn}{ρ:List Nat}(h:zh1 ops ann ρ=true):Plan ops ann ρ/\ρ.length<=ops.length/\ ∀i,i<ops.length->i∈ρ:=by
 unfold zh1 at h;simp only[Qt] at h;obtain⟨⟨⟨h1,h2⟩,h3⟩,h4⟩:=h;obtain⟨k1,k2⟩:=jO (fN ρ _ (by
  intro i a ha;rw[Qb,Zf] at ha;split at ha<;>simp at ha)) h4
 rw[Xg] at h2 h3;refine⟨⟨k1,fun i hi=> ?_,k2,fun i hi o ho e he hb=> ?_⟩,Xj h1,fun i hi=> ?_⟩
 ·have:=h3 i hi;unfold nY at this;rw[Qt] at this;exact Xj this.1
 ·have:=h3 i hi;unfold nY at this;rw[Qt,ho] at this;have h5:=this.2;simp only[Xg] at h5;have h6:=h5 e Qg1;rw[hb] at h6;simp only[Bool.not_true,Bool.false_or,Qt,Xm,bne_iff_ne,ne_eq] at h6;exact h6
 ·have:=h2 i (Jm.2 hi);simpa using this
def zh3:Op->Nat
 | .load .. | .slice .. | .lookup .. =>1
 | .alloc _| .box .. | .makeSlice .. =>2
 | .store .. =>5
 | .call c=>match c.callee with
  | .builtin .len| .builtin .max| .builtin .min=>0
  |_=>4
 | .move _| .assign _| .pick .. | .nilCheck _| .binOp .. | .unOp .. | .convert .. | .makeInterface .. | .makeFunc .. | .field .. | .fieldAddr .. | .index .. | .indexAddr .. | .extract .. | .build .. | .buildSlice .. =>0
 |_=>4
def zc2(ops:List Oper)(slots:List Nat):Op->Option Nat
 | .store _ (.tmp t) _=>match (List.range ops.length).find? (fun i=>match ops[i]? with|some o=>o.dst==some t|none=>false) with
  |some i=>match ops[i]? with
   |some o=>if zh3 o.op==2 then some (slots.getD i 0) else none
   |none=>none
  |none=>some (1000+t)
 |_=>none
def zbM(ops:List Oper):Nat->Nat->List Nat->List Nat
 |0,_,acc=>acc.reverse
 | f+1,bits,acc=>
  let ready:=(List.range ops.length).filter fun i=> !bits.testBit i&&match ops[i]? with
   |some o=>o.after.toList.all fun e=> !Region.binds .any e||bits.testBit e.on
   |none=>false
  let pick:=match ready.find? (fun i=>match ops[i]? with|some o=>zh3 o.op !=2|none=>false) with
   |some i=>some i
   |none=>ready.head?
  match pick with
  |some i=>zbM ops f (bits ||| (1 <<< i)) (i::acc)
  |none=>acc.reverse
def zaQ(ops:List Oper):Nat->Operand->Option Nat
 |0,_=>none
 | f+1,.tmp t=>match ops.find? (fun o=>o.dst==some t) with
  |none=>some (1000+t)
  |some o=>match o.op with
   | .fieldAddr _ y _| .nilCheck y| .move y| .indexAddr _ y _=>zaQ ops f y
   |_=>none
 |_,_=>none
def zkJ(kp:Bool)(ops:List Oper)(ρ m:List Nat):List DAnn:=
 let read (x:Operand):Bool:=match x with
  | .tmp t=>match ops.find? (fun o=>o.dst==some t) with
   |some o=>(match o.op with| .load .. | .extract .. | .field .. | .slice .. =>true| .call _=>true|_=>false)
   |none=>false
  |_=>false
 let cls0:=ops.map fun o=>match o.op with| .slice _ x _ _ _=>if read x then 0 else 1|op=>zh3 op
 let slots:List Nat:=(cls0.foldl (fun (acc:List Nat×Nat) c=>if c==2 then(acc.2::acc.1,acc.2+1) else(0::acc.1,acc.2)) ([],0)).1.reverse
 let idx:=List.range ops.length
 let free (i j:Nat):Bool:=i !=j&& !(m.getD i 0).testBit j&& !(m.getD j 0).testBit i
 let als:=idx.filter fun i=>cls0.getD i 0==2
 let sts:=idx.filter fun i=>cls0.getD i 0==5&&idx.any (fun j=>cls0.getD j 0==1&&free i j)
 let name (i:Nat):Nat:=match ops[i]? with|some o=>(zc2 ops slots o.op).getD 999|none=>999
 let rname (i:Nat):Option Nat:=match ops[i]? with
  |some o=>(match o.op with| .load _ x=>zaQ ops 10 x| .slice _ x _ _ _=>zaQ ops 10 x|_=>none)
  |none=>none
 let calls:=idx.filter fun i=>cls0.getD i 0==4&&(match ops[i]? with|some o=>(match o.op with| .call _=>true|_=>false)|none=>false)&&ρ.any (fun j=>free i j&&cls0.getD j 0 !=0)
 let keeps:=if !kp then [] else calls.filter fun i=>ρ.all fun j=> !free i j||cls0.getD j 0==0||(cls0.getD j 0==1&&(rname j).isSome&&sts.all fun a=> !free j a)||cls0.getD j 0==2
 idx.map fun i=>
  let c:=cls0.getD i 0
  let c':=if keeps.contains i then 6 else if calls.contains i then 3 else if c==5&& !sts.contains i then 4 else if c==1&&keeps.any (free i ·) then 7 else c
  ⟨c',if c'==5 then name i else slots.getD i 0,
   if c'==1 then(als.filter fun a=> !(m.getD i 0).testBit a).map (slots.getD · 0)++(sts.filter fun a=> !(m.getD i 0).testBit a).map name
   else if c'==7 then(rname i).toList
   else if c'==6 then(idx.filter fun j=>free i j&&cls0.getD j 0==1).filterMap rname++(als.filter (free i ·)).map (slots.getD · 0) else []⟩
def zmT(ops:List Oper)(ρ m:List Nat):List DAnn:=zkJ true ops ρ m
structure DPlan where
 ann:List DAnn
 ord:List Nat
 places:Nat
def dE(ops:List Oper):DPlan:=
 let ρ:=zbM ops ops.length 0 []
 let m:=qB ops ρ (List.replicate ops.length 0)
 let ann:=zmT ops ρ m
 ⟨ann,ρ,(ann.filter fun d=>d.cl==2).length⟩
def DPlan.at(p:DPlan)(i:Nat):DAnn:=p.ann.getD i default
def DPlan.good(p:DPlan)(ops:List Oper):Bool:=zh1 ops p.at p.ord
theorem World.cell_loop{w:World}{r:Nat}{L:Loop}(h:w.heap[r]? =some (.loop L)){a:Addr}(ha:a.block=r):w.cell? a=none:=by
 unfold World.cell?;rw[ha,h]
theorem iE{S:St}(hS:SRel S){r b:Nat}{ts:List PV}{ps:List Tmp}{as bd:Code}{st st':LoopState}{pd pd':Option Code}{L:Loop}(hp:S.φ[r]? =some (.pointer (some ⟨b,0,none⟩)))
  (hb:S.h[r]? =some (.loop ts ps as bd st pd)) (hL:S.w.heap[b]? =some (.loop L)) {w':World} (hw:w'=S.w.putObj b (.loop {L with state:=st',pending:=pd'})):
  Ext S {S with h:=S.h.set r (.loop ts ps as bd st' pd'),w:=w'}/\SRel {S with h:=S.h.set r (.loop ts ps as bd st' pd'),w:=w'}:=by
 have hr:r<S.h.length:=(gsi hb).1;have hlt:b<S.w.heap.size:=(Qz.1 hL).1;have hsz:w'.heap.size=S.w.heap.size:=by rw[hw];simp
 have hoth: ∀k,k≠b->w'.heap[k]? =S.w.heap[k]? :=fun k hk=>by rw[hw];exact World.putObj_heap_other hk
 have hnew:w'.heap[b]? =some (.loop {L with state:=st',pending:=pd'}):=by rw[hw];exact World.putObj_heap_same hlt
 have x:Ext S {S with h:=S.h.set r (.loop ts ps as bd st' pd'),w:=w'}:=by
  refine⟨rfl,by rw[hw];rfl,by rw[hw];exact ztC,by rw[hw];rfl,by simp only[];omega,fun k hk hn=>⟨hn,hoth k fun e=>hn ⟨r,_,hp,by rw[e];rfl⟩⟩,fun a v hm=> ?_,fun k c hc=> ?_,fun k m ⟨ar,t1,f1,h1,h2⟩=>⟨ar,t1,f1,(hoth k fun e=>by subst e;rw[hL] at h1;cases h1).trans h1,h2⟩⟩
  ·obtain⟨h1,h2,h3,h4,h5,h6⟩:=hm;have hne:a.block≠b:=fun e=>by rw[World.cell_loop hL e] at h1;cases h1
   refine⟨(World.cell?_of_block (hoth _ hne)).trans h1,h2,h3,by simp only[];omega,h5,fun k y hy hby=> ?_⟩;obtain⟨e,kk,n,hh,ho⟩:=h6 k y hy hby;have hkr:r≠k:=fun e=>by subst e;rw[hb] at hh;cases hh
   exact⟨e,kk,n,by simp only[];rw[Qq,Qi hkr];exact hh,ho⟩
  ·by_cases hkr:r=k
   ·subst hkr;rw[hb] at hc;cases hc;exact⟨.loop ts ps as bd st' pd',by simp[hr],rfl⟩
   ·exact⟨c,by simp only[];rw[Qq,Qi hkr];exact hc,Blk.le_refl c rfl⟩
 refine⟨x,⟨by simp[hS.len],fun k c y hk hy=> ?_,hS.inj,fun a ha=>by simp only[];rw[hsz];exact hS.xlt a ha,hS.xown⟩⟩;simp only[Qq] at hk;by_cases hkr:r=k
 ·subst hkr;rw[Qj rfl,Qj hr] at hk;cases hk;have h0:=hS.blks r _ _ hb hp;obtain⟨b',L0,e,hh,k1,k2,k3,k4,k5,k6,k7⟩:=h0;cases e;rw[hL] at hh;cases hh;simp only[] at hy;rw[hp] at hy;cases hy;exact⟨b,_,rfl,hnew,k1,k2,k3,rfl,rfl,k6,fun i p hi=>(k7 i p hi).ext x⟩
 ·rw[Qi hkr] at hk;refine(hS.blks k c y hk hy).ext x fun n hn=>hoth n fun e=> ?_;subst e;exact hkr (hS.inj r k _ y n hp hy rfl hn)
def rput(ts:List PV):List Tmp->List PV->List PV
 |t::ps,a::as=>rput (ts.set t a) ps as
 |_,_=>ts
theorem zfH{S:St}: ∀{ps:List Tmp}{as:List PV}{vs:List Value}{ts:List PV}{tmps:Array Value},TRel S ts tmps->vs.length=as.length->(∀(i:Nat)(p:PV)(v:Value),as[i]? =some p->vs[i]? =some v->VRel S p v)->
  TRel S (rput ts ps as) ((ps.zip vs).foldl (fun tmps x=>tmps.setIfInBounds x.1 x.2) tmps):=by
 intro ps
 induction ps with
 |nil=>intro as vs ts tmps h _ _;simpa [rput] using h
 | cons t ps ih=>
  intro as vs ts tmps h hl hv;cases as with
  |nil=>
   have:vs=[]:=Xi hl;subst this;simpa [rput] using h
  | cons a as=>
   cases vs with
   |nil=>simp at hl
   |cons v vs=>
    simp only[rput,List.zip_cons_cons,Yw];refine ih ?_ Qfu fun i p u hp hu=>hv (i+1) p u (by simpa using hp) Qfx;have:=TRel.put (a:={tmps:=tmps,defers:=[]}) h (some t) (hv 0 a v rfl rfl);exact this
section
variable{P:Program}{G:Glob}{rd:Option Nat}
def ARound(r:Nat)(R:PV->Heap->Prop):Exit->List PV->Heap->Prop
 |e,_,h=> ∃ts ps as bd st pd,h[r]? =some (.loop ts ps as bd st pd)/\match e with
  | .normal=>R (.sc (.bool true)) (h.set r (.loop ts ps as bd .ready none))
  | .ret=>R (.sc (.bool false)) (h.set r (.loop ts ps as bd .done (some .ret)))
  | .exit id=>R (.sc (.bool false)) (h.set r (.loop ts ps as bd .done (some (.exit id))))
  |_=>False
theorem OpOk.yield{o:Oper}{c:Call}{x:Operand}{r:Nat}{h:Heap}{F:Operand->PV}{R:PV->Heap->Prop}{ts:List PV}{ps:List Tmp}{as bd:Code}{st:LoopState}{pd:Option Code}(ho:o.op= .call c)(hc:c.callee= .value x)
  (hx:F x= .yl r) (hb:h[r]? =some (.loop ts ps as bd st pd)) (hl:c.args.size=ps.length)
  (k: ∀l,AWp P G (some l) as (fun e ts1 h1=>e= .normal/\ ∃ts' ps' as' bd' pd1,h1[r]? =some (.loop ts' ps' as' bd' .ready pd1)/\AWp P G (some l) bd (ARound r R) ts1 (h1.set r (.loop ts' ps' as' bd' .busy pd1))) (rput ts ps (c.args.toList.map F)) h):
  OpOk P G rd o h F R:=by
 intro φ w X a K Q hS hG hop hK;refine⟨fun f _=>trivial,?_⟩;rw[Oper.semAt_eq _ _ _ (fun c' hd=>by rw[ho] at hd;cases hd)];have hxv:=hop x (by rw[ho];simp[Op.operands,Call.operands,hc]);rw[hx] at hxv;obtain⟨b,he,hp⟩: ∃b,a.eval x= .func (.yield b) #[] #[]/\φ[r]? =some (.pointer (some ⟨b,0,none⟩)):=by
  generalize a.eval x=u at hxv;cases hxv with
  |yl hp _=>exact⟨_,rfl,hp⟩
 obtain⟨m1,m2⟩:=kS (S:=⟨φ,h,w,X⟩) (f:=F) (ρ:=a.eval) c.args (fun y hy=>hop y (by rw[ho];simp[Op.operands,Call.operands,hy]));obtain⟨b',L,e,hL,k1,k2,k3,k4,k5,k6,k7⟩:=hS.blks r _ _ hb hp;cases e;have hsz:(c.args.map a.eval).size=L.params.size:=by rw[Array.size_map,hl,<-k1];simp
 have hrun:(execOp a.eval o).run P w= .ok (.round b L.fn ((L.params.zip (c.args.map a.eval)).foldl (fun tmps (t,a)=>tmps.setIfInBounds t a) L.tmps) L.assign L.body) w:=by
  have hy:=run_yield (P:=P) (w:=w) (l:=b) (r:=L) (args:=c.args.map a.eval) hL hsz;simp[execOp,ho,resolve,hc,he,Deferred.ofValue,invoke,hy]
 rw[hrun];refine⟨fun h=>by simp[FW,Fence.wide] at h,?_⟩;refine RoundIn.mono (roundIn_of_wpIn (R:=fun e w'=> ∃(φ':List Value)(h':Heap)(p:PV)(v:Value),e= .returned v/\Ext ⟨φ,h,w,X⟩ ⟨φ',h',w',X⟩/\SRel ⟨φ',h',w',X⟩/\VRel ⟨φ',h',w',X⟩ p v/\R p h') trivial ?_) ?_
 ·rw[FW_inRound,k2,k3];have hTR:TRel ⟨φ,h,w,X⟩ (rput ts ps (c.args.toList.map F)) ((L.params.zip (c.args.map a.eval)).foldl (fun tmps (t,a)=>tmps.setIfInBounds t a) L.tmps):=by
   have h1:TRel ⟨φ,h,w,X⟩ ts L.tmps:=⟨k6,k7⟩
   have:=zfH (ps:=ps) (as:=c.args.toList.map F) (vs:=(c.args.map a.eval).toList) h1 Qf1 (fun i p v hp hv=>m2 i p v hp (by simpa using hv));rw[<-k1] at this ⊢
   rw[<-Array.foldl_toList,Array.toList_zip];exact this
  have hA:ARel w.heap.size ⟨φ,h,w,X⟩ G (rput ts ps (c.args.toList.map F)) {tmps:=(L.params.zip (c.args.map a.eval)).foldl (fun tmps (t,a)=>tmps.setIfInBounds t a) L.tmps,defers:=[]}:=
   ⟨hS,hG,hTR,⟨[],rfl,Qf1,Qf1⟩,Xe _⟩
  refine wpIn_mono (k b w.heap.size φ w X _ hA) ?_;rintro e a1 w1 ⟨φ1,ts1,h1,x1,hA1,rfl,ts',ps',as',bd',pd1,hb1,hbody⟩;have keepφ: ∀{φ1:List Value}{h1:Heap}{w1:World},Ext ⟨φ,h,w,X⟩ ⟨φ1,h1,w1,X⟩->φ1[r]? =some (.pointer (some ⟨b,0,none⟩)):=by
   intro φ1 h1 w1 x1;obtain⟨c',hc',hle⟩:=x1.blks r _ hb;cases c'<;>simp only[Blk.le] at hle;exact hle.trans hp
  have hp1:=keepφ x1;obtain⟨b1,L1,e1,hL1,q1,q2,q3,q4,q5,q6,q7⟩:=hA1.st.blks r _ _ hb1 hp1;cases e1;have hbr:=run_beginRound (P:=P) hL1 q4;refine⟨_,hbr,?_⟩;obtain⟨x2,hS2⟩:=iE hA1.st (st':= .busy) (pd':=pd1) hp1 hb1 hL1 (w':=w1.putObj b (.loop {L1 with state:= .busy})) (by rw[<-q5]);have hA2:ARel w.heap.size ⟨φ1,h1.set r (.loop ts' ps' as' bd' .busy pd1),w1.putObj b (.loop {L1 with state:= .busy}),X⟩ G ts1 a1:=⟨hS2,hA1.gl.ext x2,hA1.tr.ext x2,hA1.mark.ext x2,Ya hA1.base x2.size⟩
  refine wpIn_mono (hbody w.heap.size φ1 _ X a1 hA2) ?_;rintro e a3 w3 ⟨φ3,ts3,h3,x3,hA3,ts4,ps4,as4,bd4,st3,pd3,hb3,hR⟩;have x13:=(x1.trans x2).trans x3;have hp3:=keepφ x13;obtain⟨b3,L3,e3,hL3,_⟩:=hA3.st.blks r _ _ hb3 hp3;cases e3;have fin: ∀(jump:Option Code),R (.sc (.bool jump.isNone)) (h3.set r (.loop ts4 ps4 as4 bd4 (if jump.isNone then .ready else .done) jump))-> ∃v w',(Instr.endRound b jump).run P w3= .ok v w'/\
    ∃(φ':List Value)(h':Heap)(p:PV)(u:Value),Ending.returned v= .returned u/\Ext ⟨φ,h,w,X⟩ ⟨φ',h',w',X⟩/\SRel ⟨φ',h',w',X⟩/\VRel ⟨φ',h',w',X⟩ p u/\R p h':=by
   intro jump hRj;obtain⟨x4,hS4⟩:=iE hA3.st (st':=if jump.isNone then .ready else .done) (pd':=jump) hp3 hb3 hL3 rfl;exact⟨_,_,run_endRound jump hL3,φ3,_,_,_,rfl,x13.trans x4,hS4,.sc trivial,hRj⟩
  cases e with
  |normal=>exact fin none hR
  |ret=>exact fin (some .ret) hR
  |exit id=>exact fin (some (.exit id)) hR
  |_=>exact hR.elim
 ·rintro e w' ⟨φ',h',p,v,rfl,x1,hs,hv,hr⟩;exact hK φ' h' w' p v x1 hs hv hr
def ARange(n:Nat)(ts:List PV)(Q:Exit->List PV->Heap->Prop)(h:Heap):Prop:=
 ∃ts' ps as bd st pd,h[n]? =some (.loop ts' ps as bd st pd)/\st≠ .busy/\match pd with
  |none=>Q .normal ts (h.set n (.loop ts' ps as bd .exhausted none))
  |some .ret=>Q .ret ts (h.set n (.loop ts' ps as bd .exhausted (some .ret)))
  |some (.exit id)=>Q (.exit id) ts (h.set n (.loop ts' ps as bd .exhausted (some (.exit id))))
  |_=>False
theorem nF{g:Operand}{ps:Array Tmp}{as bd:Code}{Q:Exit->List PV->Heap->Prop}{ts:List PV}{h:Heap}{f:FuncId}{fst cap:List PV}(hg:wV G ts g= .fn (.func f) fst cap)
  (k:ACall P G f (fst++[.yl h.length]++cap) (h++[.loop ts ps.toList as bd .ready none]) fun _ h1=>ARange h.length ts Q h1):AWp P G none (.rangeFunc g ps as bd) Q ts h:=by
 intro B φ w X a hA;refine wpIn_rangeFunc fun fn _=> ?_;have hv:=lI hA.gl hA.tr g;rw[hg] at hv;obtain⟨us,vs,he,hl,hl',h1,h2⟩: ∃(us vs:Array Value),a.eval g= .func (.func f) us vs/\us.size=fst.length/\vs.size=cap.length/\
   (∀(i:Nat)(p:PV)(v:Value),fst[i]? =some p->us[i]? =some v->VRel ⟨φ,h,w,X⟩ p v)/\(∀(i:Nat)(p:PV)(v:Value),cap[i]? =some p->vs[i]? =some v->VRel ⟨φ,h,w,X⟩ p v):=by
  generalize a.eval g=u at hv;cases hv with
  |fn hl hl' h h'=>exact⟨_,_,rfl,hl,hl',h,h'⟩
 let rec0:Loop:={state:= .ready,pending:=none,fn,tmps:=a.tmps,params:=ps,assign:=as,body:=bd,defers:=w.heap.size}
 let w1:World:=(w.alloc (.deferred (some []))).alloc (.loop rec0)
 have hsz1:w1.heap.size=w.heap.size+2:=by simp[w1]
 have hmark:w1.heap[w.heap.size]? =some (.deferred (some [])):=by
  have e1:(w.alloc (.deferred (some []))).heap[w.heap.size]? =some (.deferred (some [])):=World.alloc_heap_new _ _;exact(Below.heap_alloc _ _ _ Qf1).trans e1
 have hrec:w1.heap[w.heap.size+1]? =some (.loop rec0):=by
  have:=World.alloc_heap_new (w.alloc (.deferred (some []))) (.loop rec0);simpa [w1] using this
 have x0:Ext ⟨φ,h,w,X⟩ ⟨φ,h,w1,X⟩:=(wT hA.st (.deferred (some []))).trans (wT (nO hA.st _) (.loop rec0));let S1:St:=(⟨φ,h,w1,X⟩:St).push (.pointer (some ⟨w.heap.size+1,0,none⟩)) (.loop ts ps.toList as bd .ready none)
 have x1:Ext ⟨φ,h,w,X⟩ S1:=tZ x0 hA.st rfl rfl _ _ Qhm;have hS1:SRel S1:=uP hA.st x1 rfl rfl rfl (fun n hn=>(Below.heap_alloc _ _ _ (by simp only[World.size_alloc] at hn ⊢;omega)).trans (Below.heap_alloc _ _ _ hn)) ⟨w.heap.size+1,rec0,rfl,hrec,rfl,rfl,rfl,rfl,rfl,(hA.tr.ext x1).size,(hA.tr.ext x1).rel⟩
  Qhm
 have hlen:φ.length=h.length:=hA.st.len;have hyl:VRel S1 (.yl h.length) (.func (.yield (w.heap.size+1)) #[] #[]):= .yl (b:=w.heap.size+1) (ts:=ts) (ps:=ps.toList) (assign:=as) (body:=bd) (st:= .ready) (pend:=none) (by simp[S1,St.push,<-hlen]) (by simp[S1,St.push]);have hargs: ∀(i:Nat)(p:PV)(v:Value),(fst++[.yl h.length]++cap)[i]? =some p->(us++ #[.func (.yield (w.heap.size+1)) #[] #[]]++vs)[i]? =some v->VRel S1 p v:=by
  intro i p v hp hv;simp only[Qs,Ql,Wp] at hp;simp only[Wd,Wt,hl,Jd,Wp] at hv;split at hp
  ·rename_i hlt;rw[Qj hlt] at hv;split at hp
   ·rename_i hlt2;rw[Qj hlt2] at hv;exact(h1 i p v hp hv).ext x1
   ·rename_i hlt2;rw[Qi hlt2] at hv;have hi0:i-fst.length=0:=Qf0;rw[hi0] at hp hv;simp at hp hv;subst hp;subst hv;exact hyl
  ·rename_i hlt;rw[Qi hlt] at hv;exact(h2 _ p v hp hv).ext x1
 have hcall:=k.2 _ _ _ (us++ #[.func (.yield (w.heap.size+1)) #[] #[]]++vs) hS1 (hA.gl.ext x1) (by simp[hl,hl'];omega) hargs;have hres:(resolve a.eval (rangeCall g (w.heap.size+1)) 0).run P w1= .ok ⟨.fn (.func f) vs,us++ #[.func (.yield (w.heap.size+1)) #[] #[]]⟩ w1:=by
  have e2:a.eval (.const (.func (.yield (w.heap.size+1)) #[] #[]))= .func (.yield (w.heap.size+1)) #[] #[]:=rfl;simp[resolve,rangeCall,he,Deferred.ofValue,e2]
 refine⟨w.heap.size+1,_,w1,_,w1,f,us++ #[.func (.yield (w.heap.size+1)) #[] #[]]++vs,w1,run_enterLoop_outer fn a.tmps ps as bd,hres,fun _ _=>trivial,?_,fun h=>by simp[FW,Fence.wide] at h,?_⟩
 ·simp[invoke,iC k.1]
 refine(show CallsIn (FW none) (0-1) P f _ w1 _ from hcall).mono ?_;rintro e w3 ⟨φ3,h3,p,v,rfl,x3,hS3,_,ts',ps',as',bd',st,pd,hb3,hst,hq⟩;have x13:Ext ⟨φ,h,w,X⟩ ⟨φ3,h3,w3,X⟩:=x1.trans x3;have hp3:φ3[h.length]? =some (.pointer (some ⟨w.heap.size+1,0,none⟩)):=by
  obtain⟨c',hc',hle⟩:=x3.blks h.length (.loop ts ps.toList as bd .ready none) (by simp[S1,St.push]);cases c'<;>simp only[Blk.le] at hle;exact hle.trans (by simp[S1,St.push,<-hlen])
 obtain⟨b3,L3,e3,hL3,q1,q2,q3,q4,q5,q6,q7⟩:=hS3.blks _ _ _ hb3 hp3;cases e3;obtain⟨x4,hS4⟩:=iE hS3 (st':= .exhausted) (pd':=pd) hp3 hb3 hL3 (w':=w3.putObj (w.heap.size+1) (.loop {L3 with state:= .exhausted})) (by rw[<-q5]);refine⟨pd,w3.putObj (w.heap.size+1) (.loop {L3 with state:= .exhausted}),?_,?_⟩
 ·have:=run_endLoop (P:=P) hL3 (by rw[q4];exact hst);rw[this,q5]
 have xf:Ext ⟨φ,h,w,X⟩ ⟨φ3,h3.set h.length (.loop ts' ps' as' bd' .exhausted pd),w3.putObj (w.heap.size+1) (.loop {L3 with state:= .exhausted}),X⟩:=x13.trans x4;have hmk:MRel B ⟨φ3,h3.set h.length (.loop ts' ps' as' bd' .exhausted pd),w3.putObj (w.heap.size+1) (.loop {L3 with state:= .exhausted}),X⟩ ([{target:= .collected w.heap.size,args:= #[]}]++a.defers):=by
  obtain⟨rs,hds,hnd,hrs⟩:=hA.mark;obtain⟨rs',hds',hnd',hrs'⟩:=hA.mark.ext xf;have hrr:rs'=rs:=by
   rw[hds] at hds';have:=Ym (List.map fun d:Deferred=>match d.target with| .collected r=>r|_=>0) hds';simpa [Function.comp_def] using this.symm
  subst hrr;refine⟨w.heap.size::rs',by rw[hds];rfl,Zs.2 ⟨fun hm=> ?_,hnd⟩,fun r hr=> ?_⟩
  ·have:=(hrs _ hm).2.1;simp at this
  ·rcases Qw.1 hr with rfl|hr
   ·have hnown: ¬S1.Own w.heap.size:=by
     rintro⟨k',y,hy,hby⟩;simp only[S1,St.push] at hy;rw[Qs] at hy;split at hy
     ·have:=hA.st.own_lt ⟨k',y,hy,hby⟩;simp at this
     ·cases hk:k'-φ.length with
      |zero=>rw[hk] at hy;simp at hy;subst hy;simp[sC] at hby
      |succ m=>rw[hk] at hy;simp at hy
    obtain⟨u1,u2⟩:=(x3.trans x4).unt w.heap.size (by show w.heap.size<w1.heap.size;omega) hnown;have:=xf.size;simp only[] at this;refine⟨hA.base,?_,u2.trans hmark,u1⟩;have h5:=(x3.trans x4).size;have h6:S1.w.heap.size=w.heap.size+2:=hsz1;simp only[] at h5 ⊢
    omega
   ·exact hrs' r hr
 have hA4:ARel B ⟨φ3,h3.set h.length (.loop ts' ps' as' bd' .exhausted pd),w3.putObj (w.heap.size+1) (.loop {L3 with state:= .exhausted}),X⟩ G ts {a with defers:=[{target:= .collected w.heap.size,args:= #[]}]++a.defers}:=
  ⟨hS4,hA.gl.ext xf,hA.tr.ext xf,hmk,Ya hA.base xf.size⟩
 cases pd with
 |none=>exact⟨φ3,ts,_,xf,hA4,hq⟩
 |some c=>
  cases c with
  |ret=>exact wpIn_ret ⟨φ3,ts,_,xf,hA4,hq⟩
  |exit id=>exact wpIn_exit ⟨φ3,ts,_,xf,hA4,hq⟩
  |_=>exact hq.elim
end
end Go.AL
namespace Go.AL
open Go.RowKit
theorem gI{P:Program}{S:St}(hS:SRel S){t ty e:TypeId}{k b:Nat}{els xs:List (List PV)}{q:PV}{u v:Value}(ht:wD P t=some (e,k,b))(hu:VRel S (.tc k els) u)
  (hq:rO S.h k q=some xs) (hv:VRel S q v) (hbytes:(els.length+xs.length)*b<=140737488355328) (hlen:els.length+xs.length<=140737488355328) (hx0:0<xs.length):
  ∃(all:List Value)(old:Nat),old<els.length+xs.length/\all.length=(els.length+xs.length)*k/\(∀u∈all,u.oneCell'=true)/\(∀(i:Nat)(e:List PV),(els++xs)[i]? =some e->e.length=k)/\
   (∀(i:Nat)(e:List PV)(j:Nat)(p:PV)(u:Value),(els++xs)[i]? =some e->e[j]? =some p->all[i*k+j]? =some u->VRel S p u)/\
   ∃zv,zS P e=some zv/\zv.cells.size=k/\(Builtin.append_ #[t,t] ty #[u,v]).run P S.w=
    .ok (.slice (some ⟨S.w.heap.size,0,none⟩) (els.length+xs.length) (grownCap S.w (els.length+xs.length) old e)) (S.w.drew.alloc (.cells (all.toArray++Builtin.zeroCells zv.cells (grownCap S.w (els.length+xs.length) old e-(els.length+xs.length))) e)):=by
 obtain⟨htu,i,zv,hi,hz,hsz,hby,hzs,hk0⟩:=uH ht;have hmx:(140737488355328:Nat)<=maxLen:=Qfo;cases hu with
 | tc hts=>
  rename_i n a1;obtain⟨a,c,news,rfl,hsrc⟩:=iO hS hq hv hk0;obtain⟨ad,rfl,hnews⟩:=hsrc.addr hx0;obtain⟨a2,c1,ad1,val1,hu1,g1,g2,g3,g4,g5,g6⟩:=uU hts;cases hu1;obtain⟨olds,holds⟩: ∃olds:List Value,olds=(List.range (els.length*k)).map val1:=⟨_,rfl⟩
  have hol:olds.length=els.length*k:=Qg8;have hog: ∀j v,olds[j]? =some v->j<els.length*k/\v=val1 j:=fun j v hj=>by
   exact Qa8
  have hor: ∀(i:Nat)(e:List PV)(j:Nat)(p:PV)(u:Value),els[i]? =some e->e[j]? =some p->olds[i*k+j]? =some u->VRel S p u:=fun i e j p u hi hp hu=>by
   exact Qby
  have hal:(olds++news).length=(els.length+xs.length)*k:=Qgw;have hone: ∀u∈olds++news,u.oneCell'=true:=fun u hu=>by
   exact Qau
  have htz:zS P e=some zv:=by unfold zS;rw[hi];simp[hz]
  obtain⟨q1,q2⟩:=sH rfl hol g3 hor hsrc.elen hsrc.rel (Ext.refl S);cases a1 with
  |none=>
   have h0:els.length=0:=Nat.eq_zero_of_not_pos fun h=>by have:=g4 Qf0;cases this
   have ho0:olds=[]:=Xi (by rw[hol,h0,Ki]);have hr1:=run_append_nil (P:=P) S.w t ty e i zv htu hi hz ad xs.length c news Qge hnews hx0 Qf0 Qhq;refine⟨olds++news,0,Qf0,hal,hone,q1,q2,zv,htz,hzs,?_⟩;rw[ho0,h0,Yd,Yj];exact hr1
  | some b1=>
   have hold: ∀j v,olds[j]? =some v->S.w.cell? (b1.add j)=some v:=fun j v hj=>by
    exact Qac
   have hr1:=run_append_grow (P:=P) S.w t ty e i zv htu hi hz b1 els.length els.length olds (by rw[hol,hsz]) hold ad xs.length c news Qge hnews Qf0 Qf0 Qhj;refine⟨olds++news,els.length,Qf0,hal,hone,q1,q2,zv,htz,hzs,?_⟩;rw[<-Kx];exact hr1
theorem sG(z:Value)(n:Nat):Builtin.zeroCells z.cells n=(Array.range (n*z.cells.size)).map (z.cells[· %z.cells.size]!):=rfl
theorem bD{els:List (List PV)}{k:Nat}(hk: ∀(i:Nat)(e:List PV),els[i]? =some e->e.length=k): ∀(n:Nat)(p:PV),els.flatten[n]? =some p->0<k/\ ∃e,els[n / k]? =some e/\e[n%k]? =some p:=by
 induction els with
 |nil=>intro n p h;simp at h
 | cons x xs ih=>
  intro n p h;have hx:=hk 0 x rfl;rw[Yl,Qs] at h;split at h
  ·rename_i hlt;have hk0:0<k:=Qf0;refine⟨hk0,x,?_,?_⟩
   ·rw[Nat.div_eq_of_lt Qf0];rfl
   ·rw[Nat.mod_eq_of_lt Qf0];exact h
  ·rename_i hge;obtain⟨hk0,e,he,hp⟩:=ih (fun i e h=>hk (i+1) e Qfn) _ p h;have h1:n=(n-x.length)+k:=Qf0;refine⟨hk0,e,?_,?_⟩
   ·rw[h1,Nat.add_div_right _ hk0];simpa using he
   ·rw[h1,Nat.add_mod_right];exact hp
theorem bC{els:List (List PV)}{k:Nat}(hk: ∀(i:Nat)(e:List PV),els[i]? =some e->e.length=k):els.flatten.length=els.length*k:=by
 induction els with
 |nil=>simp
 |cons x xs ih=>
  rw[Yl,Ql,ih (fun i e h=>hk (i+1) e Qfn),hk 0 x rfl,Qn,Wo];omega
set_option maxHeartbeats 1000000 in
theorem aZ{P:Program}{S:St}(hS:SRel S){t ty e:TypeId}{k b:Nat}{els xs:List (List PV)}{q:PV}{u v:Value}(ht:wD P t=some (e,k,b))(hu:VRel S (.tc k els) u)
  (hq:rO S.h k q=some xs) (hv:VRel S q v) (hbytes:(els.length+xs.length)*b<=140737488355328) (hlen:els.length+xs.length<=140737488355328) (hx0:0<xs.length) {z0:Value} (hz0:zS P e=some z0) (hsh:wI (nI z0)=true):
  ∃z w' φ',(Builtin.append_ #[t,t] ty #[u,v]).run P S.w= .ok z w'/\Ext S {S with φ:=φ',h:=S.h++[.var e (els++xs).flatten],w:=w'}/\
   SRel {S with φ:=φ',h:=S.h++[.var e (els++xs).flatten],w:=w'}/\VRel {S with φ:=φ',h:=S.h++[.var e (els++xs).flatten],w:=w'} (.ms S.h.length 0 k (els.length+xs.length)) z:=by
 obtain⟨all,old,hold,hal,hone,q1,q2,zv,htz,hzs,hrun⟩:=gI (ty:=ty) hS ht hu hq hv hbytes hlen hx0;rw[hz0] at htz;cases htz;have hmx:(140737488355328:Nat)<=maxLen:=Qfo;have hge:=grownCap_ge S.w (els.length+xs.length) old e;have hcm:=grownCap_le_maxLen S.w (els.length+xs.length) old e Qf0;have hfl:(els++xs).flatten.length=(els.length+xs.length)*k:=by rw[bC q1,Ql]
 obtain⟨m,hm⟩: ∃m,m=grownCap S.w (els.length+xs.length) old e-(els.length+xs.length):=⟨_,rfl⟩
 rw[<-hm] at hrun;have hzc:=tQ (S:=S) hsh m;rw[<-sG] at hzc;have hnewb:(S.w.drew.alloc (.cells (all.toArray++Builtin.zeroCells z0.cells m) e)).heap[S.w.heap.size]? =some (.cells (all.toArray++Builtin.zeroCells z0.cells m) e (0,0)):=heap_alloc_new S.w.drew _;have x0:Ext S {S with w:=S.w.drew.alloc (.cells (all.toArray++Builtin.zeroCells z0.cells m) e)}:=by
  refine⟨rfl,rfl,ztC,rfl,Qf1,fun b hb hn=>⟨hn,Below.heap_alloc S.w.drew _ _ hb⟩,fun a v hm=> ?_,fun r b hb=>⟨b,hb,Blk.le_refl b rfl⟩,fun b m ⟨ar,t1,f1,h1,h2⟩=>⟨ar,t1,f1,(Below.heap_alloc S.w.drew _ _ (Qz.1 h1).1).trans h1,h2⟩⟩;obtain⟨h1,h2,h3,h4,h5,h6⟩:=hm;exact⟨(World.cell?_alloc_lt S.w.drew _ _ h4).trans h1,h2,h3,by simp;omega,h5,h6⟩
 have x:Ext S (({S with w:=S.w.drew.alloc (.cells (all.toArray++Builtin.zeroCells z0.cells m) e)}:St).push (.pointer (some ⟨S.w.heap.size,0,none⟩)) (.var e (els++xs).flatten)):=tZ x0 hS rfl rfl _ _ Qha;have hS':=uP hS x rfl rfl rfl (fun n hn=>Below.heap_alloc _ _ _ (by exact hn)) ⟨S.w.heap.size,_,rfl,hnewb,by rw[hfl,Wt];simp[hal],fun i y hy=>(by
   rw[Wd] at hy;split at hy
   ·exact hone y (Qk Qg2)
   ·exact hzc.one _ y hy),fun i p y hp hy=>(by
   have hlt:=(gsi hp).1;rw[Wd,Qj Qfh] at hy;obtain⟨hk0,e',he',hp'⟩:=bD q1 i p hp;refine(q2 (i / k) e' (i%k) p y he' hp' ?_).ext x;rw[Nat.div_add_mod' i k];simpa using hy)⟩ Qha
 exact⟨_,_,_,hrun,x,hS',.ms (b:=S.w.heap.size) (t:=e) (cs:=(els++xs).flatten) Qgx Qfw (by rw[hfl];omega) hge hcm ⟨_,_,_,hnewb,by
  have e1:(Builtin.zeroCells z0.cells m).size=m*k:=by rw[sG];simp[hzs]
  have e2:els.length+xs.length+m=grownCap S.w (els.length+xs.length) old e:=Qf0;rw[Wt,e1,Jd,hal,<-Wo,e2];omega⟩⟩
def jA:PV->Option PV
 | .nil=>some .nil
 | .tc k els=>some (.tc k els)
 |_=>none
def zaR(k:Nat):PV->Option (List (List PV))
 | .nil=>some []
 | .tc k' els=>if k'=k then some els else none
 |_=>none
def zk2(P:Program)(h:Heap)(f:Operand->PV):Op->Option (PV×Heap)
 | .call c=>match c.callee,c.args.toList,c.argTypes.toList with
  | .builtin .append,[s,x],[t,t']=>if t=t' then match wD P t with
   | some (e,k,b)=>match rO h k (f x) with
    |some []=>match jA (f s) with
     |some p=>some (p,h)
     |none=>none
    |some (y::ys)=>match zaR k (f s),zS P e with
     | some els,some z=>if wI (nI z)/\(els.length+(ys.length+1))*b<=140737488355328/\els.length+(ys.length+1)<=140737488355328 then
       some (.ms h.length 0 k (els.length+(ys.length+1)),h++[.var e (els++y::ys).flatten]) else none
     |_,_=>none
    |none=>none
   |none=>none
   else none
  |_,_,_=>none
 |_=>none
theorem zlW(k:Nat){S:St}{v:Value}(h:VRel S .nil v):VRel S (.tc k []) v:=by
 have:=PLe.nil_ts k S v h;cases h;exact .tc this
theorem jG{P:Program}{S:St}(hS:SRel S){t ty e:TypeId}{k b:Nat}{p q:PV}{u v:Value}(ht:wD P t=some (e,k,b))(hp:p= .nil\/ ∃els k',p= .tc k' els)(hu:VRel S p u)
  (hq:rO S.h k q=some []) (hv:VRel S q v):(Builtin.append_ #[t,t] ty #[u,v]).run P S.w= .ok u S.w:=by
 obtain⟨htu,i,zv,hi,hz,hsz,hby,hzs,hk0⟩:=uH ht;obtain⟨a,c,news,rfl,hsrc⟩:=iO hS hq hv hk0;obtain⟨a1,n1,c1,rfl,g1⟩: ∃a1 n1 c1,u= .slice a1 n1 c1/\n1<=c1:=by
  rcases hp with rfl|⟨els,k',rfl⟩
  ·cases hu;exact⟨none,0,0,rfl,Xe _⟩
  ·cases hu with
   |tc ht=>
    obtain⟨a1,c1,ad1,val1,he,g1,_⟩:=uU ht;cases he;exact⟨_,_,_,rfl,Xe _⟩
 simp[Builtin.append_,Xc htu,sizeOf,typeInfo,hi,Builtin.lenOf,Builtin.firstCells,g1];cases a<;>cases a1<;>simp[Builtin.firstCells,loadCells,loadCellsFrom,storeCells]
section
variable{P:Program}{G:Glob}{rd:Option Nat}
theorem OpOk.of_own{o:Oper}{h h':Heap}{f:Operand->PV}{p:PV}{R:PV->Heap->Prop}(he:zk2 P h f o.op=some (p,h'))(hr:R p h'):OpOk P G rd o h f R:=by
 refine .of_run (fun c hop=>by rw[hop] at he;cases he) fun φ w X ρ hS _ hx=> ?_;cases hop:o.op with
 | call cl=>
  rw[hop] at he hx;simp only[zk2] at he;split at he
  case h_2=>cases he
  rename_i s y t t' mM hca hct;split at he
  case isFalse=>cases he
  rename_i htt;subst htt;have e1:=qA hca;have e2:=qA hct;have hs:=hx s Qhe;have hy:=hx y Qhe;have run: ∀{z:Value}{w':World},(Builtin.append_ #[t,t] o.type #[ρ s,ρ y]).run P w= .ok z w'->(execOp ρ o).run P w= .ok (.value z) w':=by
   intro z w' hr;simp[execOp,hop,resolve,invoke,builtin,mM,e1,e2,hr]
  split at he
  case h_2=>cases he
  rename_i e k b ht;split at he
  ·rename_i hxs;split at he
   ·rename_i p' hp';cases he;have hcase:f s= .nil\/ ∃els k',f s= .tc k' els:=by
     unfold jA at hp';split at hp'
     ·exact .inl Qfg
     ·exact .inr ⟨_,_,by assumption⟩
     ·cases hp'
    have hps:p=f s:=by
     unfold jA at hp';split at hp'<;>cases hp'<;>simp_all
    subst hps;exact⟨φ,_,w,_,ρ s,run (jG (P:=P) (S:=⟨φ,h,w,X⟩) hS ht hcase hs hxs hy),Ext.refl _,hS,hs,hr⟩
   ·cases he
  ·rename_i y0 ys hxs;split at he
   ·rename_i els z hd hz;split at he
    ·rename_i hcond;obtain⟨hsh,hb1,hb2⟩:=hcond;cases he;have hu:VRel ⟨φ,h,w,X⟩ (.tc k els) (ρ s):=by
      unfold zaR at hd;split at hd
      ·rename_i hfs;cases hd;rw[hfs] at hs;exact zlW k hs
      ·rename_i k' els' hfs;split at hd
       ·rename_i hk;subst hk;cases hd;rw[hfs] at hs;exact hs
       ·cases hd
      ·cases hd
     obtain⟨v,w',φ',hrun,x,hS',hv⟩:=aZ (P:=P) (S:=⟨φ,h,w,X⟩) (ty:=o.type) hS ht hu hxs hy (by simpa using hb1) (by simpa using hb2) Qf1 hz hsh;exact⟨φ',_,w',_,v,run hrun,x,hS',hv,hr⟩
    ·cases he
   ·cases he
  ·cases he
 |_=>rw[hop] at he;cases he
end
end Go.AL
namespace Go.AL
open Go.RowKit
section
variable{P:Program}{S:St}
theorem lY(hS:SRel S){r g0 g:Nat}{e0 e:TypeId}{cs0 cs:List PV}{arr:Array Value}{w':World}(hp:S.φ[r]? =some (.pointer (some ⟨g0,0,none⟩)))(hb:S.h[r]? =some (.var e0 cs0))
  (hg:g=g0\/S.w.heap.size<=g) (ho:w'.os=S.w.os) (ht:TapeLe S.w w') (hu:w'.output=S.w.output) (hs:S.w.heap.size<=w'.heap.size) (hw: ∀b,b<S.w.heap.size->b≠g0->w'.heap[b]? =S.w.heap[b]?)
  (hz: ∀b m,S.Row b m->St.Row {S with w:=w'} b m) (hnew:w'.heap[g]? =some (.cells arr e (0,0))) (hsz:cs.length<=arr.size) (h1: ∀(i:Nat)(u:Value),arr[i]? =some u->u.oneCell'=true)
  (hv: ∀(i:Nat)(p:PV)(u:Value),cs[i]? =some p->arr[i]? =some u->VRel S p u):
  Ext S ⟨S.φ.set r undef++[.pointer (some ⟨g,0,none⟩)],S.h.set r .old++[.var e cs],w',S.x⟩/\SRel ⟨S.φ.set r undef++[.pointer (some ⟨g,0,none⟩)],S.h.set r .old++[.var e cs],w',S.x⟩:=by
 have hr:r<S.h.length:=(gsi hb).1;have hr':r<S.φ.length:=Qgn;have hg0:g0<S.w.heap.size:=hS.own_lt ⟨r,_,hp,rfl⟩;have kφ: ∀(k:Nat)(y:Value)(b:Nat),(S.φ.set r undef++[.pointer (some ⟨g,0,none⟩)])[k]? =some y->sC y=some b->(k≠r/\k<S.φ.length/\S.φ[k]? =some y)\/(k=S.φ.length/\y= .pointer (some ⟨g,0,none⟩)/\b=g):=by
  intro k y b hk hbk;rw[Qs,Xb] at hk;split at hk
  ·rename_i hlt;rw[Qq] at hk;by_cases e:r=k
   ·subst e;rw[Qj rfl,Qj hr'] at hk;cases hk;simp[sC,undef] at hbk
   ·rw[Qi e] at hk;exact .inl ⟨fun h=>e h.symm,hlt,hk⟩
  ·rename_i hlt;have:k-S.φ.length=0:=by
    rcases Yr (k-S.φ.length) with h|h
    ·exact h
    ·rw[Ye Qfh] at hk;cases hk
   rw[this] at hk;simp at hk;subst hk;simp[sC] at hbk;exact .inr ⟨Qf0,rfl,hbk.symm⟩
 have kh: ∀(k:Nat),k≠r->k<S.h.length->(S.h.set r .old++[.var e cs])[k]? =S.h[k]? :=by
  intro k hk hlt;rw[Qs,Xb,Qj hlt,Qq,Qi (Ne.symm hk)]
 have hbr:(S.h.set r .old++[.var e cs])[r]? =some .old:=by
  rw[Qs,Xb,Qj hr,Qq,Qj rfl,Qj hr]
 have x:Ext S ⟨S.φ.set r undef++[.pointer (some ⟨g,0,none⟩)],S.h.set r .old++[.var e cs],w',S.x⟩:=by
  refine⟨rfl,ho,ht,hu,hs,fun b hbl hno=>⟨?_,hw b hbl fun e=>hno ⟨r,_,hp,by rw[e];rfl⟩⟩,fun a u hm=> ?_,fun k c hc=> ?_,hz⟩
  ·rintro⟨k,y,hy,hby⟩;rcases kφ k y b hy hby with ⟨_,_,h⟩|⟨_,_,h⟩
   ·exact hno ⟨k,y,h,hby⟩
   ·rcases hg with hg|hg
    ·exact hno ⟨r,_,hp,by rw[h,hg];rfl⟩
    ·omega
  ·obtain⟨m1,m2,m3,m4,m5,m6⟩:=hm;have hne:a.block≠g0:=fun e=>by
    obtain⟨e',k',n',hh,_⟩:=m6 r _ hp (by rw[e];rfl);rw[hb] at hh;cases hh
   refine⟨(World.cell?_of_block (hw _ m4 hne)).trans m1,m2,m3,Yf m4 hs,m5,fun k y hy hby=> ?_⟩;rcases kφ k y _ hy hby with ⟨h2,h3,h4⟩|⟨_,_,h4⟩
   ·obtain⟨e',k',n',hh,hlt⟩:=m6 k y h4 hby;exact⟨e',k',n',(kh k h2 (by rw[<-hS.len];exact h3)).trans hh,hlt⟩
   ·rcases hg with hg|hg
    ·exact absurd (h4.trans hg) hne
    ·omega
  ·by_cases e1:k=r
   ·subst e1;rw[hb] at hc;cases hc;exact⟨.old,hbr,trivial⟩
   ·have hlt:k<S.h.length:=(gsi hc).1;refine⟨c,(kh k e1 hlt).trans hc,Blk.le_refl c ?_⟩;simp only[];rw[Qs,Xb,Qj Qgt,Qq,Qi (Ne.symm e1)]
 refine⟨x,by simp[hS.len],fun k c y hc hy=> ?_,fun k k' y y' b hy hy' hby hby'=> ?_,fun a ha=>Yf (hS.xlt a ha) hs,fun a ha k y hy hby=> ?_⟩
 ·simp only[] at hc hy;by_cases e1:k=r
  ·subst e1;rw[hbr] at hc;cases hc;rw[Qs,Xb,Qj hr',Qq,Qj rfl,Qj hr'] at hy;cases hy;rfl
  ·by_cases hlt:k<S.h.length
   ·rw[kh k e1 hlt] at hc;rw[Qs,Xb,Qj Qgt,Qq,Qi (Ne.symm e1)] at hy;refine(hS.blks k c y hc hy).ext x fun b hby=>hw b (hS.own_lt ⟨k,y,hy,hby⟩) fun e2=> ?_;subst e2;exact e1 (hS.inj k r y _ b hy hp hby rfl)
   ·rw[Qs,Xb,Qi hlt] at hc;rw[Qs,Xb,Qi Qgt] at hy;have h0:k-S.h.length=0:=by
     rcases Yr (k-S.h.length) with h|h
     ·exact h
     ·rw[Ye Qfh] at hc;cases hc
    rw[h0] at hc;rw[hS.len,h0] at hy;simp at hc hy;subst hc;subst hy;exact⟨g,arr,rfl,hnew,hsz,h1,fun i p u hp hu=>(hv i p u hp hu).ext x⟩
 ·rcases kφ k y b hy hby with ⟨a1,a2,a3⟩|⟨a1,a2,a3⟩<;>rcases kφ k' y' b hy' hby' with ⟨b1,b2,b3⟩|⟨b1,b2,b3⟩
  ·exact hS.inj k k' y y' b a3 b3 hby hby'
  ·exfalso;rcases hg with hg|hg
   ·exact a1 (hS.inj k r y _ b a3 hp hby (by rw[b3,hg];rfl))
   ·have:=hS.own_lt ⟨k,y,a3,hby⟩;omega
  ·exfalso;rcases hg with hg|hg
   ·exact b1 (hS.inj k' r y' _ b b3 hp hby' (by rw[a3,hg];rfl))
   ·have:=hS.own_lt ⟨k',y',b3,hby'⟩;omega
  ·omega
 ·rcases kφ k y _ hy hby with ⟨_,_,h⟩|⟨_,_,h⟩
  ·exact hS.xown a ha k y h hby
  ·rcases hg with hg|hg
   ·exact hS.xown a ha r _ hp (by rw[h,hg];rfl)
   ·have:=hS.xlt a ha;omega
theorem zeL(hS:SRel S){t ty e:TypeId}{r k b len:Nat}{cs:List PV}{xs:List (List PV)}{q:PV}{u v z0:Value}(ht:wD P t=some (e,k,b))(hu:VRel S (.ms r 0 k len) u)(hb:S.h[r]? =some (.var e cs))(mM:cs.length=len*k)
  (hq:rO S.h k q=some xs) (hv:VRel S q v) (hbytes:(len+xs.length)*b<=140737488355328) (hlen:len+xs.length<=140737488355328) (hx0:0<xs.length) (hz0:zS P e=some z0) (hsh:wI (nI z0)=true):
  ∃z w' φ',(Builtin.append_ #[t,t] ty #[u,v]).run P S.w= .ok z w'/\Ext S ⟨φ',S.h.set r .old++[.var e (cs++xs.flatten)],w',S.x⟩/\SRel ⟨φ',S.h.set r .old++[.var e (cs++xs.flatten)],w',S.x⟩/\
   VRel ⟨φ',S.h.set r .old++[.var e (cs++xs.flatten)],w',S.x⟩ (.ms S.h.length 0 k (len+xs.length)) z:=by
 obtain⟨htu,i,zv,hi,hzi,hsz,hby,hzs,hk0⟩:=uH ht;have hzz:z0=zv:=by unfold zS at hz0;rw[hi] at hz0;simp[hzi] at hz0;exact hz0.symm
 subst hzz;have hmx:(140737488355328:Nat)<=maxLen:=Qfo;have hr:r<S.h.length:=(gsi hb).1;cases hu with
 |oms hb' _ _=>rw[hb] at hb';cases hb'
 | ms hp hb' hl hcc hm hrow=>
  rename_i c g t' cs';rw[hb] at hb';cases hb';obtain⟨g',arr,hge,hh,hasz,hone,hrel⟩:=hS.blks r _ _ hb hp;cases hge;obtain⟨ar2,t2,f2,hh2,hcap⟩:=hrow;rw[hh] at hh2;cases hh2;obtain⟨a,cq,news,rfl,hsrc⟩:=iO hS hq hv hk0;obtain⟨ad,rfl,hnews⟩:=hsrc.addr hx0;have hfl:xs.flatten.length=xs.length*k:=bC hsrc.elen;have hnl:news.length=xs.length*i.size:=Qge;have htake:(arr.toList.take (len*k)).length=len*k:=Qfh;have hlk:len*k+xs.length*k=(len+xs.length)*k:=(Wo ..).symm;have cells: ∀(arr':Array Value),(∀j,j<(len+xs.length)*k->arr'[j]? =(arr.toList.take (len*k)++news)[j]?)-> ∀(j:Nat)(p:PV)(y:Value),(cs++xs.flatten)[j]? =some p->arr'[j]? =some y->VRel S p y:=by
   intro arr' hj j p y hpj hyj;have hlt:=(gsi hpj).1;rw[Ql,hfl,mM,hlk] at hlt;rw[hj j hlt] at hyj;rw[Qs] at hpj hyj;rw[htake] at hyj;rw[mM] at hpj;split at hpj
   ·rename_i hjl;rw[Qj hjl,Xr,Qj hjl] at hyj;exact hrel j p y hpj (by simpa using hyj)
   ·rename_i hjl;rw[Qi hjl] at hyj;obtain⟨_,e',he',hp'⟩:=bD hsrc.elen _ p hpj;refine hsrc.rel _ e' _ p y he' hp' ?_;rw[Nat.div_add_mod' (j-len*k) k];exact hyj
  by_cases hroom:len+xs.length<=c
  ·have hck:(len+xs.length)*k<=c*k:=Zv k hroom;have hfit:len*i.size+news.length<=arr.size:=by rw[hnl,hsz];omega
   have hrun:=run_append_room (P:=P) S.w t ty e i htu hi g len c arr hh ad xs.length cq news hnl hnews hsrc.one hroom hfit;have hnewb:=setRow_heap S.w g arr (arr.toList.take (len*i.size)++news++arr.toList.drop (len*i.size+news.length)).toArray e (0,0) hh;have hoth: ∀b,b≠g->(S.w.setRow g (arr.toList.take (len*i.size)++news++arr.toList.drop (len*i.size+news.length)).toArray).heap[b]? =S.w.heap[b]? :=fun b hb=>setRow_other S.w g b _ hb;have hsize:(arr.toList.take (len*i.size)++news++arr.toList.drop (len*i.size+news.length)).toArray.size=arr.size:=Qfh;obtain⟨x,hS'⟩:=lY (cs:=cs++xs.flatten) hS hp hb (.inl rfl) (w':=S.w.setRow g (arr.toList.take (len*i.size)++news++arr.toList.drop (len*i.size+news.length)).toArray) rfl ztC rfl (by simp[World.setRow]) (fun b _ hne=>hoth b hne)
    (fun b m ⟨a1,t1,f1,q1,q2⟩=>by
     by_cases hbg:b=g
     ·subst hbg;rw[hh] at q1;cases q1;exact⟨_,_,_,hnewb,by rw[hsize];exact q2⟩
     ·exact⟨a1,t1,f1,(hoth b hbg).trans q1,q2⟩) hnewb (by rw[hsize,Ql,hfl,mM];omega)
    (fun j y hy=>by
     have:y∈arr.toList.take (len*i.size)++news++arr.toList.drop (len*i.size+news.length):=Qk Qg2;rcases Qo.1 this with h|h
     ·rcases Qo.1 h with h|h
      ·obtain⟨j',hj',rfl⟩:=Qy (Zk h);exact hone j' _ (by simp at hj' ⊢)
      ·exact hsrc.one y h
     ·obtain⟨j',hj',rfl⟩:=Qy (List.mem_of_mem_drop h);exact hone j' _ (by simp at hj' ⊢))
    (cells _ (fun j hj=>by
     rw[hsz];simp only[Je];rw[Qs,Qj (by rw[Ql,htake,hsrc.len,hlk];exact hj)]))
   refine⟨_,_,_,hrun,x,hS',?_⟩;refine .ms (b:=g) (t:=e) (cs:=cs++xs.flatten) (by simp[hS.len]) Qf1 (by rw[Ql,hfl,mM];omega) hroom hm ⟨_,_,_,hnewb,by rw[hsize];exact hcap⟩
  ·have hold: ∀j y,(arr.toList.take (len*k))[j]? =some y->S.w.cell? ((⟨g,0,none⟩:Addr).add j)=some y:=fun j y hj=>by
    rw[Xr] at hj;split at hj
    ·rw[Addr.add_lit,cell_of_row _ _ _ _ _ _ hh];simpa using hj
    ·cases hj
   have hrun:=run_append_grow (P:=P) S.w t ty e i z0 htu hi hzi ⟨g,0,none⟩ len c (arr.toList.take (len*k)) (by rw[htake,hsz]) hold ad xs.length cq news hnl hnews Qf0 Qf0 Qhj;have hge:=grownCap_ge S.w (len+xs.length) c e;have hcm:=grownCap_le_maxLen S.w (len+xs.length) c e Qf0;obtain⟨m,hm'⟩: ∃m,m=grownCap S.w (len+xs.length) c e-(len+xs.length):=⟨_,rfl⟩
   rw[<-hm'] at hrun;have hzc:=tQ (S:=S) hsh m;rw[<-sG] at hzc;have hzs':(Builtin.zeroCells z0.cells m).size=m*k:=by rw[sG];simp[hzs]
   have hall:((arr.toList.take (len*k)).toArray++news.toArray).size=(len+xs.length)*k:=by rw[Wt,Jd,Jd,htake,hsrc.len,hlk]
   have hnewb:(S.w.drew.alloc (.cells ((arr.toList.take (len*k)).toArray++news.toArray++Builtin.zeroCells z0.cells m) e)).heap[S.w.heap.size]? =some (.cells ((arr.toList.take (len*k)).toArray++news.toArray++Builtin.zeroCells z0.cells m) e (0,0)):=heap_alloc_new S.w.drew _;have hsame: ∀b,b<S.w.heap.size->(S.w.drew.alloc (.cells ((arr.toList.take (len*k)).toArray++news.toArray++Builtin.zeroCells z0.cells m) e)).heap[b]? =S.w.heap[b]? :=fun b hb=>Below.heap_alloc S.w.drew _ _ hb;obtain⟨x,hS'⟩:=lY (cs:=cs++xs.flatten) hS hp hb (.inr (Xe _)) (w':=S.w.drew.alloc (.cells ((arr.toList.take (len*k)).toArray++news.toArray++Builtin.zeroCells z0.cells m) e)) rfl ztC rfl Qf1 (fun b hb _=>hsame b hb)
    (fun b m ⟨a1,t1,f1,q1,q2⟩=>⟨a1,t1,f1,(hsame b (Qz.1 q1).1).trans q1,q2⟩) hnewb (by rw[Ql,hfl,mM,Wt,hall];omega)
    (fun j y hy=>by
     rw[Wd] at hy;split at hy
     ·rw[Wd] at hy;split at hy
      ·have:y∈arr.toList.take (len*k):=Qk Qg2;obtain⟨j',hj',rfl⟩:=Qy (Zk this);exact hone j' _ (by simp at hj' ⊢)
      ·exact hsrc.one y (Qk Qg2)
     ·exact hzc.one _ y hy)
    (cells _ (fun j hj=>by
     rw[Wd,Qj (by rw[hall];exact hj),Kx,Je]))
   refine⟨_,_,_,hrun,x,hS',?_⟩;refine .ms (b:=S.w.heap.size) (t:=e) (cs:=cs++xs.flatten) (by simp[hS.len]) Qf1 (by rw[Ql,hfl,mM];omega) hge hcm ⟨_,_,_,hnewb,?_⟩;have e2:len+xs.length+m=grownCap S.w (len+xs.length) c e:=Qf0;rw[Wt,hall,hzs',<-Wo,e2];omega
def zcU(P:Program)(h:Heap)(f:Operand->PV):Op->Option (PV×Heap)
 | .call c=>match c.callee,c.args.toList,c.argTypes.toList with
  | .builtin .append,[s,x],[t,t']=>if t=t' then match wD P t with
   | some (e,k,b)=>match f s,rO h k (f x) with
    | .ms r 0 k' len,some xs=>match h[r]?,zS P e with
     | some (.var e' cs),some z=>if e'=e/\k'=k/\cs.length=len*k/\0<xs.length/\wI (nI z)=true/\(len+xs.length)*b<=140737488355328/\len+xs.length<=140737488355328 then
       some (.ms h.length 0 k (len+xs.length),h.set r .old++[.var e (cs++xs.flatten)]) else none
     |_,_=>none
    |_,_=>none
   |none=>none
   else none
  |_,_,_=>none
 |_=>none
theorem OpOk.of_ownM{G:Glob}{rd:Option Nat}{o:Oper}{h h':Heap}{f:Operand->PV}{p:PV}{R:PV->Heap->Prop}(he:zcU P h f o.op=some (p,h'))(hr:R p h'):OpOk P G rd o h f R:=by
 refine .of_run (fun c hop=>by rw[hop] at he;cases he) fun φ w X ρ hS _ hx=> ?_;unfold zcU at he;split at he
 case h_2=>cases he
 rename_i c hop;split at he
 case h_2=>cases he
 rename_i s x t t' mM hca hct;split at he
 case isFalse=>cases he
 rename_i htt;subst htt;split at he
 case h_2=>cases he
 rename_i e k b ht;split at he
 case h_2=>cases he
 rename_i r k' len xs hfs hq;split at he
 case h_2=>cases he
 rename_i e' cs z hb hz;split at he
 case isFalse=>cases he
 rename_i hc;obtain⟨rfl,rfl,hcl',hx0,hsh,hby,hln⟩:=hc;cases he;have e1:c.args= #[s,x]:=qA hca;have e2:c.argTypes= #[t,t]:=qA hct;have h1:=hx s (by simp[hop,Op.operands,Call.operands,e1]);have h2:=hx x (by simp[hop,Op.operands,Call.operands,e1]);rw[hfs] at h1;obtain⟨v,w',φ',hrun,x1,hS',hv⟩:=zeL (P:=P) (ty:=o.type) hS ht h1 hb hcl' hq h2 hby hln hx0 hz hsh;refine⟨φ',_,w',_,v,?_,x1,hS',hv,hr⟩;simp[execOp,hop,resolve,invoke,builtin,mM,e1,e2,hrun]
def aA(P:Program)(h:Heap)(f:Operand->PV)(op:Op):Option (PV×Heap):=
 match zk2 P h f op with
 |some r=>some r
 |none=>zcU P h f op
theorem OpOk.of_ownA{G:Glob}{rd:Option Nat}{o:Oper}{h h':Heap}{f:Operand->PV}{p:PV}{R:PV->Heap->Prop}(he:aA P h f o.op=some (p,h'))(hr:R p h'):OpOk P G rd o h f R:=by
 unfold aA at he;split at he
 ·rename_i r hr';cases he;exact .of_own hr' hr
 ·exact .of_ownM he hr
end
end Go.AL
