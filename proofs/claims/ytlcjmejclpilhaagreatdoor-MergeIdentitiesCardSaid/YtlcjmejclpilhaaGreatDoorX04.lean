/-
  A call's own blocks are given up: what it hands back stands still from then on. And a contract out of a body.
-/
import Derived.Test.YtlcjmejclpilhaaGreatDoorX03
set_option linter.unusedSimpArgs false
set_option linter.unusedVariables false
set_option maxRecDepth 100000
set_option maxHeartbeats 4000000
namespace Go.AL
open Go.RowKit
def FW(rd:Option Nat):Fence:={Fence.wide with round:=rd}
theorem FW_inRound(rd:Option Nat)(l:Nat):(FW rd).inRound l=FW (some l):=rfl
section
variable(P:Program)(G:Glob)(rd:Option Nat)
def OpOk(o:Oper)(h:Heap)(f:Operand->PV)(R:PV->Heap->Prop):Prop:=
 ∀(φ:List Value)(w:World)(X:Addr->Prop)(a:Act)(K:Act->World->Prop)(Q:Exit->Act->World->Prop),SRel ⟨φ,h,w,X⟩->GRel ⟨φ,h,w,X⟩ G->
  (∀x∈o.op.operands,VRel ⟨φ,h,w,X⟩ (f x) (a.eval x))->
  (∀(φ':List Value)(h':Heap)(w':World)(p:PV)(v:Value),Ext ⟨φ,h,w,X⟩ ⟨φ',h',w',X⟩->SRel ⟨φ',h',w',X⟩->VRel ⟨φ',h',w',X⟩ p v->R p h'->K (a.put o.dst v) w')->
  o.wpIn (FW rd) 0 P a w K Q
variable{P G rd}
theorem OpOk.mono{o:Oper}{h:Heap}{f:Operand->PV}{R R':PV->Heap->Prop}(k:OpOk P G rd o h f R)(hr: ∀p h',R p h'->R' p h'):OpOk P G rd o h f R':=
 fun φ w X a K Q hS hG hx hK=>k φ w X a K Q hS hG hx fun φ' h' w' p v e s r t=>hK φ' h' w' p v e s r (hr _ _ t)
theorem OpOk.of_run{o:Oper}{h:Heap}{f:Operand->PV}{R:PV->Heap->Prop}(hd: ∀c,o.op≠ .defer c)
  (k: ∀(φ:List Value)(w:World)(X:Addr->Prop)(ρ:Operand->Value),SRel ⟨φ,h,w,X⟩->GRel ⟨φ,h,w,X⟩ G->(∀x∈o.op.operands,VRel ⟨φ,h,w,X⟩ (f x) (ρ x))->
   ∃(φ':List Value)(h':Heap)(w':World)(p:PV)(v:Value),(execOp ρ o).run P w= .ok (.value v) w'/\Ext ⟨φ,h,w,X⟩ ⟨φ',h',w',X⟩/\SRel ⟨φ',h',w',X⟩/\VRel ⟨φ',h',w',X⟩ p v/\R p h'):
  OpOk P G rd o h f R:=by
 intro φ w X a K Q hS hG hx hK;obtain⟨φ',h',w',p,v,hrun,he,hs,hv,hr⟩:=k φ w X a.eval hS hG hx;refine⟨fun f _=>trivial,?_⟩;rw[Oper.semAt_eq _ _ _ hd,hrun];exact hK φ' h' w' p v he hs hv hr
theorem OpOk.of_skip{o:Oper}{h:Heap}{f:Operand->PV}{R:PV->Heap->Prop}(hd: ∀c,o.op≠ .defer c)
  (k: ∀(φ:List Value)(w:World)(X:Addr->Prop)(ρ:Operand->Value),SRel ⟨φ,h,w,X⟩->GRel ⟨φ,h,w,X⟩ G->(∀x∈o.op.operands,VRel ⟨φ,h,w,X⟩ (f x) (ρ x))->
   ∃(φ':List Value)(h':Heap)(w':World),(execOp ρ o).run P w= .ok .skip w'/\Ext ⟨φ,h,w,X⟩ ⟨φ',h',w',X⟩/\SRel ⟨φ',h',w',X⟩/\R .ud h'):
  OpOk P G rd o h f R:=by
 intro φ w X a K Q hS hG hx hK;obtain⟨φ',h',w',hrun,he,hs,hr⟩:=k φ w X a.eval hS hG hx;refine⟨fun f _=>trivial,?_⟩;rw[Oper.semAt_eq _ _ _ hd,hrun];exact hK φ' h' w' .ud undef he hs .ud hr
theorem OpOk.of_eff{o:Oper}{h h':Heap}{f:Operand->PV}{p:PV}{c:Prop}{R:PV->Heap->Prop}(he:vA P h f o.op=some (p,h',c))(hc:c)(hr:R p h'):
  OpOk P G rd o h f R:=by
 intro φ w X a K Q hS hG hx hK;have hd: ∀c,o.op≠ .defer c:=fun c hop=>by rw[hop] at he;simp[vA] at he
 obtain⟨φ',w',x,hS',hrun⟩:=zkU (P:=P) (S:=⟨φ,h,w,X⟩) (o:=o) (ρ:=a.eval) hS hx he hc;refine⟨fun f _=>trivial,?_⟩;rw[Oper.semAt_eq _ _ _ hd];rcases hrun with ⟨v,hrun,hv⟩|⟨hrun,rfl⟩
 ·rw[hrun];exact hK φ' h' w' p v x hS' hv hr
 ·rw[hrun];exact hK φ' h' w' .ud undef x hS' .ud hr
theorem OpOk.of_pure{o:Oper}{h:Heap}{f:Operand->PV}{p:PV}{c:Prop}{R:PV->Heap->Prop}(he:wO P h f o.op=some (p,c))(hc:c)(hr:R p h):
  OpOk P G rd o h f R:=by
 refine .of_run (fun c hop=>by rw[hop] at he;simp[wO,yI,zcI] at he) fun φ w X ρ hS _ hx=> ?_;obtain⟨v,hrun,hv⟩:=zgV (P:=P) (S:=⟨φ,h,w,X⟩) (o:=o) (ρ:=ρ) hS hx he hc;exact⟨φ,h,w,p,v,hrun,Ext.refl _,hS,hv,hr⟩
variable(P G rd)
def AStep(o:Oper)(ts:List PV)(h:Heap)(K:PV->Heap->Prop):Prop:=
 match wO (α:=Prop) P h (wV G ts) o.op with
 |some (p,c)=>c/\K p h
 |none=>match vA (α:=Prop) P h (wV G ts) o.op with
  |some (p,h',c)=>c/\K p h'
  |none=>OpOk P G rd o h (wV G ts) K
def zh9(ops:List Oper)(ts:List PV)(j:Nat):Option PV:=((ops[j]?).bind (·.dst)).map (ts.getD · .un)
def AReg(ops:List Oper):List Oper->(List PV->Heap->Prop)->List PV->Heap->Prop
 | [],Q,ts,h=>Q ts h
 | o::rest,Q,ts,h=>
  match o.guard with
  |none=>AStep P G rd o ts h fun p h'=>AReg ops rest Q (zZ ts o.dst p) h'
  |some (j,want)=>
   match zh9 ops ts j with
   |some (.sc (.bool b))=>(b=want->AStep P G rd o ts h fun p h'=>AReg ops rest Q (zZ ts o.dst p) h')/\(b≠want->AReg ops rest Q (zZ ts o.dst .ud) h)
   |some .ud=>AReg ops rest Q (zZ ts o.dst .ud) h
   |_=>False
def SReg(ops:List Oper):List Oper->(List PV->Heap->Prop)->List PV->Heap->Prop
 | [],Q,ts,h=>Q ts h
 | o::rest,Q,ts,h=>
  match o.guard with
  |none=>OpOk P G rd o h (wV G ts) fun p h'=>SReg ops rest Q (zZ ts o.dst p) h'
  |some (j,want)=>
   match zh9 ops ts j with
   |some (.sc (.bool b))=>(b=want->OpOk P G rd o h (wV G ts) fun p h'=>SReg ops rest Q (zZ ts o.dst p) h')/\(b≠want->SReg ops rest Q (zZ ts o.dst .ud) h)
   |some .ud=>SReg ops rest Q (zZ ts o.dst .ud) h
   |_=>False
variable{P G rd}
theorem AStep.ok{o:Oper}{ts:List PV}{h:Heap}{K:PV->Heap->Prop}(k:AStep P G rd o ts h K):OpOk P G rd o h (wV G ts) K:=by
 unfold AStep at k;split at k
 ·rename_i p c he;exact .of_pure he k.1 k.2
 ·split at k
  ·rename_i p h' c he;exact .of_eff he k.1 k.2
  ·exact k
end
def MRel(B:Nat)(S:St)(ds:List Deferred):Prop:= ∃rs:List Nat,ds=rs.map (fun r=>⟨.collected r, #[]⟩)/\rs.Nodup/\ ∀r∈rs,B<=r/\r<S.w.heap.size/\S.w.heap[r]? =some (.deferred (some []))/\ ¬S.Own r
theorem MRel.ext{B:Nat}{S S':St}{ds:List Deferred}(h:MRel B S ds)(x:Ext S S'):MRel B S' ds:=by
 obtain⟨rs,he,hn,h⟩:=h;refine⟨rs,he,hn,fun r hr=> ?_⟩;obtain⟨hB,hlt,hb,hn⟩:=h r hr;obtain⟨h1,h2⟩:=x.unt r hlt hn;exact⟨hB,Yf hlt x.size,h2.trans hb,h1⟩
structure ARel(B:Nat)(S:St)(G:Glob)(ts:List PV)(a:Act):Prop where
 st:SRel S
 gl:GRel S G
 tr:TRel S ts a.tmps
 mark:MRel B S a.defers
 base:B<=S.w.heap.size
def AWp(P:Program)(G:Glob)(rd:Option Nat)(c:Code)(Q:Exit->List PV->Heap->Prop)(ts:List PV)(h:Heap):Prop:=
 ∀(B:Nat)(φ:List Value)(w:World)(X:Addr->Prop)(a:Act),ARel B ⟨φ,h,w,X⟩ G ts a->
  c.wpIn (FW rd) 0 P (fun e a' w'=> ∃(φ':List Value)(ts':List PV)(h':Heap),Ext ⟨φ,h,w,X⟩ ⟨φ',h',w',X⟩/\ARel B ⟨φ',h',w',X⟩ G ts' a'/\Q e ts' h') a w
section
variable{P:Program}{G:Glob}{rd:Option Nat}
theorem nK{S:St}{ops:Array Oper}{ts:List PV}{tmps:Array Value}{j:Nat}{b:Bool}(hT:TRel S ts tmps)(h:zh9 ops.toList ts j=some (.sc (.bool b))):yielded ops tmps j=some b:=by
 unfold zh9 at h;unfold yielded;rw[Yi] at h;cases hd:(ops[j]?).bind (·.dst) with
 |none=>rw[hd] at h;simp at h
 | some d=>
  rw[hd] at h;simp only[Wi,Option.some.injEq] at h;rw[Qb] at h;cases ht:ts[d]? with
  |none=>rw[ht] at h;simp at h
  |some p=>
   rw[ht] at h;simp only[Wv] at h;subst h;have:=hT.rel d _ ht;rw[Yx] at this;simp only[Jp];cases hv:tmps[d]? with
   |none=>rw[hv] at this;cases this
   |some v=>rw[hv] at this;simp only[Wv] at this;cases this;rfl
theorem nJ{S:St}{ops:Array Oper}{ts:List PV}{tmps:Array Value}{j:Nat}(hT:TRel S ts tmps)(h:zh9 ops.toList ts j=some .ud):yielded ops tmps j=none:=by
 unfold zh9 at h;unfold yielded;rw[Yi] at h;cases hd:(ops[j]?).bind (·.dst) with
 |none=>rfl
 | some d=>
  rw[hd] at h;simp only[Wi,Option.some.injEq] at h;rw[Qb] at h;cases ht:ts[d]? with
  |none=>rw[ht] at h;simp at h
  | some p=>
   rw[ht] at h;simp only[Wv] at h;subst h;have:=hT.rel d _ ht;rw[Yx] at this;simp only[Jp];cases hv:tmps[d]? with
   |none=>rfl
   |some v=>
    rw[hv] at this;simp only[Wv] at this;generalize v=u at this;cases this;rfl
theorem aF{ops:Array Oper}{Q:List PV->Heap->Prop}: ∀(n:Nat)(ts:List PV)(h:Heap),SReg P G rd ops.toList (ops.toList.drop n) Q ts h->
  ∀(B:Nat)(φ:List Value)(w:World)(X:Addr->Prop)(a:Act),ARel B ⟨φ,h,w,X⟩ G ts a-> ∀(QQ:Exit->Act->World->Prop),
   (∀(φ':List Value)(w':World)(a':Act)(ts':List PV)(h':Heap),Ext ⟨φ,h,w,X⟩ ⟨φ',h',w',X⟩->ARel B ⟨φ',h',w',X⟩ G ts' a'->Q ts' h'->QQ .normal a' w')->
   wpOpsIn (FW rd) 0 P ops QQ (List.range' n (ops.size-n)) a w:=by
 intro n;generalize hm:ops.size-n=m
 induction m generalizing n with
 |zero=>
  intro ts h hr B φ w X a hA QQ hQ;have:ops.toList.drop n=[]:=Zv Qfk;rw[this] at hr;exact hQ φ w a ts h (Ext.refl _) hA hr
 | succ m ih=>
  intro ts h hr B φ w X a hA QQ hQ;have hlt:n<ops.size:=Qf3;have hd:ops.toList.drop n=ops[n]::ops.toList.drop (n+1):=by
   rw[Zt (by simpa using hlt)];simp
  have hg:ops[n]? =some ops[n]:=by simp[hlt]
  rw[hd] at hr;simp only[List.range'_succ,wpOpsIn,hg];have next: ∀(φ':List Value)(h':Heap)(w':World)(a':Act)(ts':List PV),Ext ⟨φ,h,w,X⟩ ⟨φ',h',w',X⟩->ARel B ⟨φ',h',w',X⟩ G ts' a'->SReg P G rd ops.toList (ops.toList.drop (n+1)) Q ts' h'->
    wpOpsIn (FW rd) 0 P ops QQ (List.range' (n+1) m) a' w':=fun φ' h' w' a' ts' x hA' hr'=>
   ih (n+1) Qf3 ts' h' hr' B φ' w' X a' hA' QQ fun φ'' w'' a'' ts'' h'' x' hA'' hq=>hQ φ'' w'' a'' ts'' h'' (x.trans x') hA'' hq
  have put: ∀(φ':List Value)(h':Heap)(w':World)(dst:Option Tmp)(p:PV)(v:Value),Ext ⟨φ,h,w,X⟩ ⟨φ',h',w',X⟩->SRel ⟨φ',h',w',X⟩->VRel ⟨φ',h',w',X⟩ p v->
    ARel B ⟨φ',h',w',X⟩ G (zZ ts dst p) (a.put dst v):=fun φ' h' w' dst p v x hs hv=>
   ⟨hs,hA.gl.ext x,(hA.tr.ext x).put dst hv,by have:=hA.mark.ext x;cases dst<;>exact this,Ya hA.base x.size⟩
  have step: ∀(hk:OpOk P G rd ops[n] h (wV G ts) fun p h'=>SReg P G rd ops.toList (ops.toList.drop (n+1)) Q (zZ ts ops[n].dst p) h'),
    ops[n].wpIn (FW rd) 0 P a w (wpOpsIn (FW rd) 0 P ops QQ (List.range' (n+1) m)) QQ:=fun hk=>
   hk φ w X a _ _ hA.st hA.gl (fun x _=>lI hA.gl hA.tr x) fun φ' h' w' p v x hs hv hr'=>next φ' h' w' _ _ x (put φ' h' w' _ p v x hs hv) hr'
  have skip: ∀(hk:SReg P G rd ops.toList (ops.toList.drop (n+1)) Q (zZ ts ops[n].dst .ud) h),wpOpsIn (FW rd) 0 P ops QQ (List.range' (n+1) m) (a.put ops[n].dst undef) w:=fun hk=>
   next φ h w _ _ (Ext.refl _) (put φ h w _ .ud undef (Ext.refl _) hA.st .ud) hk
  simp only[SReg] at hr;cases wP:ops[n].guard with
  |none=>
   rw[wP] at hr;rw[Qj (by simp[Region.wanted,wP])];exact step hr
  | some jw=>
   obtain⟨j,want⟩:=jw;rw[wP] at hr;simp only[] at hr;split at hr
   ·rename_i b hb;have hy:=nK hA.tr hb;by_cases hbw:b=want
    ·rw[Qj (by simp[Region.wanted,wP,hy,hbw])];exact step (hr.1 hbw)
    ·rw[Qi (by simp[Region.wanted,wP,hy,hbw])];exact⟨fun _ _=>trivial,skip (hr.2 hbw)⟩
   ·rename_i hb;have hy:=nJ hA.tr hb;rw[Qi (by simp[Region.wanted,wP,hy])];exact⟨fun _ _=>trivial,skip hr⟩
   ·exact hr.elim
theorem rM{id:Nat}{l:List Oper}{Q:Exit->List PV->Heap->Prop}{ts:List PV}{h:Heap}(k:SReg P G rd l l (Q .normal) ts h):AWp P G rd (.region id l.toArray false) Q ts h:=by
 intro B φ w X a hA;refine wpIn_region ?_;rw[List.range_eq_range'];exact aF 0 ts h (by simpa using k) B φ w X a hA _ fun φ' w' a' ts' h' x hA' hq=>⟨φ',ts',h',x,hA',hq⟩
theorem AWp.mono{c:Code}{Q Q':Exit->List PV->Heap->Prop}{ts:List PV}{h:Heap}(k:AWp P G rd c Q ts h)(hq: ∀e ts h,Q e ts h->Q' e ts h):AWp P G rd c Q' ts h:=
 fun B φ w X a hA=>wpIn_mono (k B φ w X a hA) fun e a' w' ⟨φ',ts',h',x,hA',q⟩=>⟨φ',ts',h',x,hA',hq _ _ _ q⟩
def AThen(N:List PV->Heap->Prop)(Q:Exit->List PV->Heap->Prop):Exit->List PV->Heap->Prop
 | .normal,ts,h=>N ts h
 |e,ts,h=>Q e ts h
theorem lH{c d:Code}{Q:Exit->List PV->Heap->Prop}{ts:List PV}{h:Heap}(k:AWp P G rd c (AThen (AWp P G rd d Q) Q) ts h):AWp P G rd (.seq c d) Q ts h:=by
 intro B φ w X a hA;refine wpIn_seq (wpIn_mono (k B φ w X a hA) ?_);rintro e a' w' ⟨φ',ts',h',x,hA',q⟩;cases e with
 |normal=>
  refine wpIn_mono (q B φ' w' X a' hA') ?_;rintro e a'' w'' ⟨φ'',ts'',h'',x',hA'',q'⟩;exact⟨φ'',ts'',h'',x.trans x',hA'',q'⟩
 |_=>exact⟨φ',ts',h',x,hA',q⟩
theorem mU{Q:Exit->List PV->Heap->Prop}{ts:List PV}{h:Heap}(k:Q .normal ts h):AWp P G rd .skip Q ts h:=
 fun B φ w X a hA=>wpIn_skip ⟨φ,ts,h,Ext.refl _,hA,k⟩
theorem oI{l:Nat}{Q:Exit->List PV->Heap->Prop}{ts:List PV}{h:Heap}(k:Q .normal ts h):AWp P G rd (.label l) Q ts h:=
 fun B φ w X a hA=>wpIn_label ⟨φ,ts,h,Ext.refl _,hA,k⟩
theorem mW{id:Nat}{Q:Exit->List PV->Heap->Prop}{ts:List PV}{h:Heap}(k:Q (.exit id) ts h):AWp P G rd (.exit id) Q ts h:=
 fun B φ w X a hA=>wpIn_exit ⟨φ,ts,h,Ext.refl _,hA,k⟩
theorem jB{Q:Exit->List PV->Heap->Prop}{ts:List PV}{h:Heap}(k:Q .ret ts h):AWp P G rd .ret Q ts h:=
 fun B φ w X a hA=>wpIn_ret ⟨φ,ts,h,Ext.refl _,hA,k⟩
theorem qQ{x:Operand}{c d:Code}{Q:Exit->List PV->Heap->Prop}{ts:List PV}{h:Heap}{b:Bool}(hx:wV G ts x= .sc (.bool b))
  (k:b=true->AWp P G rd c Q ts h) (k':b=false->AWp P G rd d Q ts h):AWp P G rd (.cond x c d) Q ts h:=by
 intro B φ w X a hA;have hv:=lI hA.gl hA.tr x;rw[hx] at hv;have he:a.eval x= .bool b:=by generalize a.eval x=v at hv;cases hv;rfl
 exact wpIn_cond_split he (fun hb=>k hb B φ w X a hA) (fun hb=>k' hb B φ w X a hA)
def ABlock(id:Nat)(Q:Exit->List PV->Heap->Prop):Exit->List PV->Heap->Prop
 | .exit id',ts,h=>if id'=id then Q .normal ts h else Q (.exit id') ts h
 |e,ts,h=>Q e ts h
theorem oK{id:Nat}{c:Code}{Q:Exit->List PV->Heap->Prop}{ts:List PV}{h:Heap}(k:AWp P G rd c (ABlock id Q) ts h):AWp P G rd (.block id c) Q ts h:=by
 intro B φ w X a hA;refine wpIn_block (wpIn_mono (k B φ w X a hA) ?_);rintro e a' w' ⟨φ',ts',h',x,hA',q⟩;cases e with
 |exit id'=>
  simp only[ABlock] at q;simp only[Exit.inBlock];split
  ·rename_i e;rw[Qj e] at q;exact⟨φ',ts',h',x,hA',q⟩
  ·rename_i e;rw[Qi e] at q;exact⟨φ',ts',h',x,hA',q⟩
 |_=>exact⟨φ',ts',h',x,hA',q⟩
theorem kF{F:Fence}{n:Nat}{c:Code}{Q:Exit->Act->World->Prop}{a:Act}{w:World}(J:Nat->Act->World->Prop)(j:Nat)(h0:J j a w)
  (round: ∀j a w,J j a w->c.wpIn F n P (Exit.then (fun a' w'=> ∃m,m<j/\J m a' w') Q) a w):(Code.loop c).wpIn F n P Q a w:=by
 intro b k cs hro hb hr;have key: ∀j a w,J j a w->
   ∃e a' w',Q e a' w'/\ArrivesIn (Machine.fenced P F) P (lone (b.atR a (.code c:: .inLoop c::k)) cs w) b k cs e a' w':=by
  intro j
  induction j using Nat.strongRecOn with
  | _ j ih=>
   intro a w hI;obtain⟨e,a₁,w₁,hq,harr⟩:=round j a w hI b (.inLoop c::k) cs hro hb hr;cases e with
   |normal=>
    obtain⟨m,hlt,hI₁⟩:=hq;obtain⟨e₂,a₂,w₂,hq₂,harr₂⟩:=ih m hlt a₁ w₁ hI₁;exact⟨e₂,a₂,w₂,hq₂,.of_steps (StepsIn.trans harr (.one (fenced_calm hb hr rfl) stepR_inLoop)) harr₂⟩
   |exit id=>exact⟨_,a₁,w₁,hq,.pass (x:= .inLoop c) rfl (fun _ _=> .inl Qf4) harr⟩
   |goto l=>exact⟨_,a₁,w₁,hq,.pass (x:= .inLoop c) rfl (fun _ _=> .inl Qf4) harr⟩
   |ret=>exact⟨_,a₁,w₁,hq,.pass (x:= .inLoop c) rfl (fun _ _=> .inl Qf4) harr⟩
   |panic ch=>exact⟨_,a₁,w₁,hq,.pass (x:= .inLoop c) rfl (fun _ _=> .inl Qf4) harr⟩
   |outgrown=>exact⟨_,a₁,w₁,hq,.pass (x:= .inLoop c) rfl (fun _ _=> .inl Qf4) harr⟩
 obtain⟨e,a',w',hq,harr⟩:=key _ a w h0;exact⟨e,a',w',hq,.of_steps (.one (fenced_calm hb hr rfl) stepR_loop) harr⟩
theorem mV{c:Code}{Q:Exit->List PV->Heap->Prop}{ts:List PV}{h:Heap}(I:Nat->List PV->Heap->Prop)(n:Nat)(h0:I n ts h)
  (k: ∀n ts h,I n ts h->AWp P G rd c (AThen (fun ts' h'=> ∃m,m<n/\I m ts' h') Q) ts h):AWp P G rd (.loop c) Q ts h:=by
 intro B φ w X a hA;refine kF (fun n a' w'=> ∃(φ':List Value)(ts':List PV)(h':Heap),Ext ⟨φ,h,w,X⟩ ⟨φ',h',w',X⟩/\ARel B ⟨φ',h',w',X⟩ G ts' a'/\I n ts' h') n ⟨φ,ts,h,Ext.refl _,hA,h0⟩ ?_;rintro n a' w' ⟨φ',ts',h',x,hA',hi⟩;refine wpIn_mono (k n ts' h' hi B φ' w' X a' hA') ?_;rintro e a'' w'' ⟨φ'',ts'',h'',x',hA'',q⟩;cases e with
 |normal=>obtain⟨m,hm,hi'⟩:=q;exact⟨m,hm,φ'',ts'',h'',x.trans x',hA'',hi'⟩
 |_=>exact⟨φ'',ts'',h'',x.trans x',hA'',q⟩
end
end Go.AL
namespace Go.AL
open Go.RowKit
inductive Tree:PV->Prop
 |un:Tree .un
 |ud:Tree .ud
 |sc {v:Value}:Tree (.sc v)
 |nil:Tree .nil
 |agg {cs:List PV} (h: ∀p∈cs,Tree p):Tree (.agg cs)
 |tup {cs:List PV} (h: ∀p∈cs,Tree p):Tree (.tup cs)
 |ts {k:Nat} {els:List (List PV)} (h: ∀e∈els, ∀p∈e,Tree p):Tree (.ts k els)
 |tc {k:Nat} {els:List (List PV)} (h: ∀e∈els, ∀p∈e,Tree p):Tree (.tc k els)
 |tp {cs:List PV} (h: ∀p∈cs,Tree p):Tree (.tp cs)
 |fn {f:Fn} {a b:List PV} (h: ∀p∈a,Tree p) (h': ∀p∈b,Tree p):Tree (.fn f a b)
 |ifc {t:TypeId} {p:PV} (h:Tree p):Tree (.ifc t p)
theorem VRel.tree{S S':St}{p:PV}{v:Value}(h:VRel S p v)(ht:Tree p)(hm: ∀a u,S.M a u->S'.M a u):VRel S' p v:=by
 induction h with
 |un=>exact .un
 |ud=>exact .ud
 |sc h=>exact .sc h
 |nil=>exact .nil
 |agg hl h1 _ ih=>cases ht with|agg ht=>exact .agg hl h1 fun i p v hp hv=>ih i p v hp hv (ht p (Qk hp))
 |tup hl _ ih=>cases ht with|tup ht=>exact .tup hl fun i p v hp hv=>ih i p v hp hv (ht p (Qk hp))
 |ts hl hc hm' hk ad ha val hv _ ih=>
  cases ht with|ts ht=>exact .ts hl hc hm' hk ad ha val (fun j hj=>hm _ _ (hv j hj)) fun i e j p hi hp=>ih i e j p hi hp (ht e (Qk hi) p (Qk hp))
 |tc _ ih=>cases ht with|tc ht=>exact .tc (ih (.ts ht))
 |vec _ _ _ _ _=>cases ht
 |ms=>cases ht
 |oms=>cases ht
 |ptr=>cases ht
 |optr=>cases ht
 |tp val hv _ ih=>cases ht with|tp ht=>exact .tp val (fun j hj=>hm _ _ (hv j hj)) fun j p hp=>ih j p hp (ht p (Qk hp))
 |fn hl hl' _ _ ih ih'=>cases ht with|fn h h'=>exact .fn hl hl' (fun i p v hp hv=>ih i p v hp hv (h p (Qk hp))) fun i p v hp hv=>ih' i p v hp hv (h' p (Qk hp))
 |ifc _ ih=>cases ht with|ifc ht=>exact .ifc (ih ht)
 |mp=>cases ht
 |yl=>cases ht
 |it=>cases ht
def PLe(p q:PV):Prop:= ∀(S:St)(v:Value),VRel S p v->VRel S q v
theorem PLe.refl(p:PV):PLe p p:=fun _ _ h=>h
theorem PLe.trans{p q r:PV}(h:PLe p q)(k:PLe q r):PLe p r:=fun S v x=>k S v (h S v x)
theorem PLe.un(p:PV):PLe p .un:=fun _ _ _=> .un
theorem PLe.nil_ts(k:Nat):PLe .nil (.ts k []):=fun S v h=>by
 cases h;exact Qd0
theorem PLe.vec_ts(r k:Nat)(e:List (List PV)):PLe (.vec r k e) (.ts k e):=fun S v h=>by cases h with|vec h=>exact h
theorem PLe.tc_ts(k:Nat)(e:List (List PV)):PLe (.tc k e) (.ts k e):=fun S v h=>by cases h with|tc h=>exact h
theorem PLe.agg{cs ds:List PV}(hl:cs.length=ds.length)(h: ∀(i:Nat)(p q:PV),cs[i]? =some p->ds[i]? =some q->PLe p q):PLe (.agg cs) (.agg ds):=fun S v hv=>by
 cases hv with
 |agg hl' h1 hr=>
  refine .agg (hl'.trans hl) h1 fun i q u hq hu=> ?_;exact Qdf
def uG(P:Program)(f:FuncId):Bool:=match P.funcs[f]? with|some fn=> !(fn.name== "runtime.NumGoroutine")&&fn.body.isSome|none=>false
def ACall(P:Program)(G:Glob)(f:FuncId)(args:List PV)(h:Heap)(R:PV->Heap->Prop):Prop:=
 uG P f=true/\ ∀(φ:List Value)(w:World)(X:Addr->Prop)(vs:Array Value),SRel ⟨φ,h,w,X⟩->GRel ⟨φ,h,w,X⟩ G->vs.size=args.length->
  (∀(i:Nat)(p:PV)(v:Value),args[i]? =some p->vs[i]? =some v->VRel ⟨φ,h,w,X⟩ p v)->
  CallsIn Fence.wide 0 P f vs w fun e w'=> ∃(φ':List Value)(h':Heap)(p:PV)(v:Value),e= .returned v/\Ext ⟨φ,h,w,X⟩ ⟨φ',h',w',X⟩/\SRel ⟨φ',h',w',X⟩/\VRel ⟨φ',h',w',X⟩ p v/\R p h'
theorem ACall.mono{P:Program}{G:Glob}{f:FuncId}{args:List PV}{h:Heap}{R R':PV->Heap->Prop}(k:ACall P G f args h R)(hr: ∀p h',R p h'->R' p h'):ACall P G f args h R':=
 ⟨k.1,fun φ w X vs a b c d=>(k.2 φ w X vs a b c d).mono fun e w' ⟨φ',h',p,v,x1,x2,x3,x4,x5⟩=>⟨φ',h',p,v,x1,x2,x3,x4,hr p h' x5⟩⟩
def Pure(P:Program)(G:Glob)(f:FuncId)(args:List PV)(res:PV):Prop:=ACall P G f args [] fun p h'=>p=res/\h'=[]
theorem ACall.args{P:Program}{G:Glob}{f:FuncId}{args args':List PV}{h:Heap}{R:PV->Heap->Prop}(k:ACall P G f args h R)(hl:args'.length=args.length)
  (hle: ∀(i:Nat)(p q:PV),args'[i]? =some p->args[i]? =some q->PLe p q):ACall P G f args' h R:=
 ⟨k.1,fun φ w X vs a b c d=>k.2 φ w X vs a b (c.trans hl) fun i q v hq hv=>by
  have hi:i<args'.length:=by rw[hl];exact(gsi hq).1
  exact hle i _ q (Qa hi) hq _ v (d i _ v (Qa hi) hv)⟩
theorem Pure.frame{P:Program}{G:Glob}{f:FuncId}{args:List PV}{res:PV}(k:Pure P G f args res)(ht: ∀p∈args,Tree p)(hr:Tree res)(hG: ∀g cs,G g=some cs-> ∀p∈cs,Tree p)(h:Heap):
  ACall P G f args h fun p h'=>p=res/\h'=h:=by
 refine⟨k.1,fun φ w X vs hS hGr hl hv=> ?_⟩;let S:St:=⟨φ,h,w,X⟩
 let X0:Addr->Prop:=fun a=>a.block<w.heap.size/\ ¬S.Stable a
 have hm: ∀a u,S.M a u->(⟨[],[],w,X0⟩:St).M a u:=fun a u ⟨h1,h2,h3⟩=>⟨h1,h2,h3.1,h3.2.1,fun hx=>hx.2 h3,fun r v hp=>by simp at hp⟩
 have hS0:SRel ⟨[],[],w,X0⟩:=⟨rfl,fun r b v hb=>by simp at hb,fun r r' v v' n hp=>by simp at hp,fun a ha=>ha.1,fun a ha r v hp=>by simp at hp⟩
 have hG0:GRel ⟨[],[],w,X0⟩ G:=fun g cs hg=>(hGr g cs hg).tree (.tp (hG g cs hg)) hm;refine(k.2 [] w X0 vs hS0 hG0 hl fun i p v hp hvv=>(hv i p v hp hvv).tree (ht p (Qk hp)) hm).mono ?_;rintro e w' ⟨φ',h',p,v,rfl,x,hS',hvr,rfl,rfl⟩;have hφ':φ'=[]:=Xi (by have:=hS'.len;simpa using this);subst hφ';have hsame: ∀b,b<w.heap.size->w'.heap[b]? =w.heap[b]? :=fun b hb=>(x.unt b hb (by rintro⟨r,y,hy,_⟩;simp at hy)).2;have x':Ext S ⟨φ,h,w',X⟩:=by
  refine⟨rfl,x.os,x.tape,x.output,x.size,fun b hb hn=>⟨hn,hsame b hb⟩,fun a u hmu=> ?_,fun r b hb=>⟨b,hb,Blk.le_refl b rfl⟩,fun b m ⟨ar,t1,f1,h1,h2⟩=>⟨ar,t1,f1,(hsame b (Qz.1 h1).1).trans h1,h2⟩⟩;obtain⟨h1,h2,h3,h4,h5,h6⟩:=hmu;exact⟨(World.cell?_of_block (hsame _ h4)).trans h1,h2,h3,Yf h4 x.size,h5,h6⟩
 refine⟨φ,h,p,v,rfl,x',⟨hS.len,fun r b y hb hy=>(hS.blks r b y hb hy).ext x' fun n hn=>hsame n (hS.own_lt ⟨r,y,hy,hn⟩),hS.inj,fun a ha=>Yf (hS.xlt a ha) x.size,hS.xown⟩,?_,rfl,rfl⟩;refine hvr.tree hr fun a u hmu=> ?_;obtain⟨h1,h2,h3,h4,h5,h6⟩:=hmu;refine⟨h1,h2,?_⟩;by_cases hlt:a.block<w.heap.size
 ·have hst:S.Stable a:=Yv fun hn=>h5 ⟨hlt,hn⟩;exact⟨h3,h4,hst.2.2.1,hst.2.2.2⟩
 ·exact⟨h3,h4,fun hx=>hlt (hS.xlt a hx),fun r y hy hb=>absurd (hS.own_lt ⟨r,y,hy,hb⟩) hlt⟩
theorem iC{P:Program}{f:FuncId}(h:uG P f=true)(args:Array Value)(w:World):(callFunc f args).run P w= .ok (.enter f args) w:=by
 unfold uG at h;split at h
 ·rename_i fn hf;simp only[Qt,Bool.not_eq_true'] at h;obtain⟨b,hb⟩:=Wa.1 h.2;have hn: ¬fn.name= "runtime.NumGoroutine" :=by simpa using h.1
  simp[callFunc,hf,hn,hb]
 ·cases h
section
variable{P:Program}{G:Glob}{rd:Option Nat}
theorem OpOk.call{o:Oper}{c:Call}{x:Operand}{f:FuncId}{fst cap:List PV}{h:Heap}{F:Operand->PV}{R:PV->Heap->Prop}(ho:o.op= .call c)(hc:c.callee= .value x)
  (hx:F x= .fn (.func f) fst cap) (k:ACall P G f (fst++c.args.toList.map F++cap) h R):OpOk P G rd o h F R:=by
 intro φ w X a K Q hS hG hop hK;refine⟨fun f _=>trivial,?_⟩;rw[Oper.semAt_eq _ _ _ (fun c' hd=>by rw[ho] at hd;cases hd)];have hxv:=hop x (by rw[ho];simp[Op.operands,Call.operands,hc]);rw[hx] at hxv;obtain⟨us,vs,he,hl,hl',h1,h2⟩: ∃(us vs:Array Value),a.eval x= .func (.func f) us vs/\us.size=fst.length/\vs.size=cap.length/\
   (∀(i:Nat)(p:PV)(v:Value),fst[i]? =some p->us[i]? =some v->VRel ⟨φ,h,w,X⟩ p v)/\(∀(i:Nat)(p:PV)(v:Value),cap[i]? =some p->vs[i]? =some v->VRel ⟨φ,h,w,X⟩ p v):=by
  generalize a.eval x=u at hxv;cases hxv with
  |fn hl hl' h h'=>exact⟨_,_,rfl,hl,hl',h,h'⟩
 obtain⟨m1,m2⟩:=kS (S:=⟨φ,h,w,X⟩) (f:=F) (ρ:=a.eval) c.args (fun y hy=>hop y (by rw[ho];simp[Op.operands,Call.operands,hy]));have hrun:(execOp a.eval o).run P w= .ok (.enter f (us++c.args.map a.eval++vs)) w:=by
  simp[execOp,ho,resolve,hc,he,Deferred.ofValue,invoke,iC k.1]
 rw[hrun];refine⟨fun h=>by simp[FW,Fence.wide] at h,?_⟩;have hsz:(us++c.args.map a.eval++vs).size=(fst++c.args.toList.map F++cap).length:=by
  simp only[Wt,Ql,hl,hl',m1]
 have hcall:=k.2 φ w X (us++c.args.map a.eval++vs) hS hG hsz fun i p v hp hv=>by
  simp only[Qr,Ql] at hp;simp only[We,Wt,hl,m1] at hv;split at hp
  ·rename_i hlt;rw[Qj hlt] at hv;split at hp
   ·rename_i hlt2;rw[Qj hlt2] at hv;exact h1 i p v hp hv
   ·rename_i hlt2;rw[Qi hlt2] at hv;exact m2 _ p v hp hv
  ·rename_i hlt;rw[Qi hlt] at hv;exact h2 _ p v hp hv
 exact(show CallsIn (FW rd) (0-1) P f _ w _ from hcall).mono fun e w' ⟨φ',h',p,v,he,x,hs,hv,hr⟩=>by
  subst he;exact hK φ' h' w' p v x hs hv hr
end
end Go.AL
namespace Go.AL
def CkRel{γ:Type}:Option (γ×Bool)->Option (γ×Prop)->Prop
 |some (x,b),some (y,c)=>x=y/\(b=true->c)
 |none,none=>True
 |_,_=>False
theorem zT{γ:Type}:CkRel (γ:=γ) none none:=trivial
theorem xB{γ:Type}(x:γ)(c:Prop)[Decidable c]:CkRel (some (x,(CK.cnd c:Bool))) (some (x,(CK.cnd c:Prop))):=⟨rfl,fun h=>Xj h⟩
theorem zkW(P:Program)(t:TypeId)(op:BinOp)(p q:PV):CkRel (zcM P t op p q) (zcM P t op p q):=by
 unfold zcM;exact Qb0
theorem zhZ(P:Program)(t:TypeId)(cs:List PV):CkRel (zk5 P t cs) (zk5 P t cs):=by
 unfold zk5;exact Qb0
theorem zkR(P:Program)(t:TypeId)(p:PV):CkRel (pI P t p) (pI P t p):=by
 unfold pI;exact Qb0
theorem wJ(q:Option PV)(d z:Nat):CkRel (yV q d z) (yV q d z):=by
 unfold yV;exact Qb0
theorem sW{γ:Type}(x:γ){c:Prop}[Decidable c]{b:Bool}{d:Prop}(h:b=true->d):CkRel (some (x,CK.both (CK.cnd c:Bool) b)) (some (x,CK.both (CK.cnd c:Prop) d)):=
 ⟨rfl,fun e=>by
  have e':(decide c&&b)=true:=e;rw[Qt] at e';exact⟨Xj e'.1,h e'.2⟩⟩
theorem rT{b b':Bool}{d d':Prop}(h:b=true->d)(h':b'=true->d'):(CK.both b b':Bool)=true->CK.both d d':=fun e=>by
 have e':(b&&b')=true:=e;rw[Qt] at e';exact⟨h e'.1,h' e'.2⟩
theorem zeJ(P:Program)(h:Heap)(f:Operand->PV)(op:Op):CkRel (yI P h f op) (yI P h f op):=by
 cases op with
 |binOp o t x y u=>exact zkW _ _ _ _ _
 | slice t x lo hi mx=>
  simp only[yI];split
  ·split
   ·rename_i e _ y k els hy;split
    ·split
     ·have h1:=wJ (hi.map f) els.length els.length;rcases hb:yV (α:=Bool) (hi.map f) els.length els.length with _|⟨b,c⟩<;>rcases hp:yV (α:=Prop) (hi.map f) els.length els.length with _|⟨b',c0⟩<;>rw[hb,hp] at h1
      ·exact zT
      ·exact h1.elim
      ·exact h1.elim
      ·exact Qai
     ·rename_i m;have h0:=wJ (some (f m)) els.length 0;rcases hb0:yV (α:=Bool) (some (f m)) els.length 0 with _|⟨d,c00⟩<;>rcases hp0:yV (α:=Prop) (some (f m)) els.length 0 with _|⟨d',c01⟩<;>rw[hb0,hp0] at h0
      ·exact zT
      ·exact h0.elim
      ·exact h0.elim
      obtain⟨rfl,h0⟩:=h0;have h1:=wJ (hi.map f) d d;rcases hb:yV (α:=Bool) (hi.map f) d d with _|⟨b,c⟩<;>rcases hp:yV (α:=Prop) (hi.map f) d d with _|⟨b',c0⟩<;>rw[hb,hp] at h1
      ·simp only[hb,hp];exact zT
      ·exact h1.elim
      ·exact h1.elim
      ·obtain⟨rfl,h1⟩:=h1;simp only[hb,hp];have h2:=wJ (lo.map f) b 0;rcases hb2:yV (α:=Bool) (lo.map f) b 0 with _|⟨a,c'⟩<;>rcases hp2:yV (α:=Prop) (lo.map f) b 0 with _|⟨a',c0'⟩<;>rw[hb2,hp2] at h2
       ·simp only[hb2,hp2];exact zT
       ·exact h2.elim
       ·exact h2.elim
       ·obtain⟨rfl,h2⟩:=h2;simp only[hb2,hp2];exact sW _ (rT h0 (rT h1 h2))
    ·exact zT
   ·exact zT
  ·split
   ·exact Qb0
   ·exact Qb0
   ·rename_i s _;split
    ·have h1:=wJ (hi.map f) s.size s.size;rcases hb:yV (α:=Bool) (hi.map f) s.size s.size with _|⟨b,c⟩<;>rcases hp:yV (α:=Prop) (hi.map f) s.size s.size with _|⟨b',c0⟩<;>rw[hb,hp] at h1
     ·exact zT
     ·exact h1.elim
     ·exact h1.elim
     ·exact Qai
    ·exact zT
   ·exact zT
 | _=>
  simp only[yI];repeat' split
  all_goals first
   |exact zT
   |exact xB _ _
   |exact zkR _ _ _
   |exact zhZ _ _ _
theorem zaE(P:Program)(h:Heap)(t:TypeId)(s x:PV):CkRel (γ:=PV×Heap) ((oR P h t s x).map fun r=>((r.1,r.2.1),r.2.2)) ((oR P h t s x).map fun r=>((r.1,r.2.1),r.2.2)):=by
 unfold oR;repeat' split
 all_goals first|exact zT|exact xB (γ:=PV×Heap) (_,_) _
theorem zcF(P:Program)(h:Heap)(f:Operand->PV)(op:Op):CkRel (γ:=PV×Heap) ((vA P h f op).map fun r=>((r.1,r.2.1),r.2.2)) ((vA P h f op).map fun r=>((r.1,r.2.1),r.2.2)):=by
 cases op<;>simp only[vA]<;>(repeat' split)
 all_goals first|exact zT|exact xB (γ:=PV×Heap) (_,_) _|exact zaE _ _ _ _ _
theorem zkS(P:Program)(t:TypeId)(p q:PV):CkRel (za2 P t p q) (za2 P t p q):=by
 unfold za2;repeat' split
 all_goals first
  |exact zT
  |exact xB _ _
  |(cases zeW P 20 t _ _<;>first|exact zT|exact xB _ _)
theorem zaC(P:Program)(h:Heap)(t:TypeId)(ok:Bool)(m k:PV):CkRel (xQ P h t ok m k) (xQ P h t ok m k):=by
 unfold xQ;exact Qb0
theorem sR{γ:Type}{x:Option (γ×Bool)}{y:Option (γ×Prop)}(h:CkRel x y):(x=none/\y=none)\/ ∃a b c,x=some (a,b)/\y=some (a,c)/\(b=true->c):=by
 cases x with
 |none=>cases y with
  |none=>exact .inl ⟨rfl,rfl⟩
  |some y=>exact h.elim
 |some x=>cases y with
  |none=>exact h.elim
  |some y=>obtain⟨a,b⟩:=x;obtain⟨a',c⟩:=y;obtain⟨rfl,hb⟩:=h;exact .inr ⟨a,b,c,rfl,rfl,hb⟩
theorem zgM(P:Program)(h:Heap)(f:Operand->PV)(op:Op):CkRel (zcI P h f op) (zcI P h f op):=by
 cases op with
 | binOp o t x y u=>
  cases o<;>simp only[zcI]<;>try exact zT
  ·split
   ·exact xB _ _
   ·exact zT
  all_goals
   rcases sR (zkS P t (f x) (f y)) with ⟨e1,e2⟩|⟨a,b,c,e1,e2,h1⟩<;>simp only[e1,e2]
   ·exact zT
   ·exact⟨rfl,h1⟩
 |lookup t m k ok=>exact zaC _ _ _ _ _ _
 |convert s d x=>
  simp only[zcI];cases zx4 P s d (f x) with
  |none=>exact zT
  |some p=>exact xB _ _
 | slice t x lo hi mx=>
  simp only[zcI];split
  ·split
   ·cases mx with
    |none=>
     simp only[];rcases sR (wJ (hi.map f) 0 0) with ⟨e1,e2⟩|⟨b,c,c',e1,e2,h1⟩<;>simp only[e1,e2]
     ·exact zT
     rcases sR (wJ (lo.map f) b 0) with ⟨e3,e4⟩|⟨a,d,d',e3,e4,h2⟩<;>simp only[e3,e4]
     ·exact zT
     exact sW _ (rT h1 h2)
    |some m=>
     simp only[];rcases sR (wJ (some (f m)) 0 0) with ⟨e1,e2⟩|⟨b,c,c',e1,e2,h1⟩<;>simp only[e1,e2]
     ·exact zT
     rcases sR (wJ (hi.map f) b b) with ⟨e3,e4⟩|⟨a,d,d',e3,e4,h2⟩<;>simp only[e3,e4]
     ·exact zT
     rcases sR (wJ (lo.map f) a 0) with ⟨e5,e6⟩|⟨g,d,d',e5,e6,h3⟩<;>simp only[e5,e6]
     ·exact zT
     exact sW _ (rT h1 (rT h2 h3))
   ·exact zT
  ·exact zT
 |_=>exact zT
theorem bN(P:Program)(h:Heap)(f:Operand->PV)(op:Op):CkRel (wO P h f op) (wO P h f op):=by
 have k:=zeJ P h f op;unfold wO;cases hb:yI (α:=Bool) P h f op with
 |none=>
  cases hp:yI (α:=Prop) P h f op with
  |none=>exact zgM P h f op
  |some r=>rw[hb,hp] at k;exact k.elim
 |some r=>
  cases hp:yI (α:=Prop) P h f op with
  |none=>rw[hb,hp] at k;exact k.elim
  |some r'=>rw[hb,hp] at k;exact k
theorem qY{P:Program}{h:Heap}{f:Operand->PV}{op:Op}{p:PV}(e:wO P h f op=some (p,true)): ∃c:Prop,wO P h f op=some (p,c)/\c:=by
 have k:=bN P h f op;rw[e] at k;cases hc:wO (α:=Prop) P h f op with
 |none=>rw[hc] at k;exact k.elim
 |some r=>rw[hc] at k;obtain⟨q,c⟩:=r;obtain⟨rfl,k⟩:=k;exact⟨c,rfl,k rfl⟩
theorem lV{P:Program}{h h':Heap}{f:Operand->PV}{op:Op}{p:PV}(e:vA P h f op=some (p,h',true)): ∃c:Prop,vA P h f op=some (p,h',c)/\c:=by
 have k:=zcF P h f op;rw[e] at k;cases hc:vA (α:=Prop) P h f op with
 |none=>rw[hc] at k;exact k.elim
 |some r=>rw[hc] at k;obtain⟨q,hh,c⟩:=r;obtain⟨hq,k⟩:=k;cases hq;exact⟨c,rfl,k rfl⟩
end Go.AL
namespace Go.AL
open Go.RowKit
def fz(n:Nat)(h:Heap):Nat->PV->PV
 |0,_=> .un
 | f+1,p=>match p with
  | .un=> .un
  | .ud=> .ud
  | .sc v=> .sc v
  | .nil=> .nil
  | .agg cs=> .agg (cs.map (fz n h f))
  | .tup vs=> .tup (vs.map (fz n h f))
  | .ts k els=> .ts k (els.map fun e=>e.map (fz n h f))
  | .tc k els=> .tc k (els.map fun e=>e.map (fz n h f))
  | .vec r k els=>if r<n then .vec r k (els.map fun e=>e.map (fz n h f)) else .ts k (els.map fun e=>e.map (fz n h f))
  | .ms r off k len=>if r<n then .ms r off k len else match h[r]? with
   |some (.var _ cs)=> .ts k (wA (cs.map (fz n h f)) off k len)
   |_=> .un
  | .ptr r off=>if r<n then .ptr r off else match h[r]? with
   |some (.var _ cs)=> .tp ((cs.drop off).map (fz n h f))
   |_=> .un
  | .tp cs=> .tp (cs.map (fz n h f))
  | .fn g a b=> .fn g (a.map (fz n h f)) (b.map (fz n h f))
  | .ifc t p=> .ifc t (fz n h f p)
  | .mp r=>if r<n then .mp r else .un
  | .yl r=>if r<n then .yl r else .un
  | .it r=>if r<n then .it r else .un
def zm2(n:Nat)(h:Heap)(f:Nat):Blk->Blk
 | .var t cs=> .var t (cs.map (fz n h f))
 | .vec e k m=> .vec e k m
 | .map es=> .map (es.map fun x=>(x.1,fz n h f x.2))
 | .loop ts ps as bd st pd=> .loop (ts.map (fz n h f)) ps as bd st pd
 | .non=> .non
 | .old=> .old
 | .iter m k s=> .iter (m.filter fun r=>decide (r<n)) k s
 | .siter s p=> .siter s p
def zk3(n:Nat)(h:Heap)(f:Nat):Heap:=(h.take n).map (zm2 n h f)
theorem Blk.le_fz{n:Nat}{h:Heap}{f:Nat}{p:Prop}(hp:p)(b:Blk):Blk.le p b (zm2 n h f b):=by cases b<;>simp[zm2,Blk.le,hp]
def St.cut(S:St)(n f:Nat):St:=⟨S.φ.take n,zk3 n S.h f,S.w,S.x⟩
theorem cut_h{S:St}{n f r:Nat}{b:Blk}(h:(S.cut n f).h[r]? =some b):r<n/\ ∃b',S.h[r]? =some b'/\b=zm2 n S.h f b':=by
 simp only[St.cut,zk3,Qu,Xr] at h;split at h
 ·rename_i hr;cases hb:S.h[r]? with
  |none=>rw[hb] at h;cases h
  |some b'=>rw[hb] at h;cases h;exact⟨hr,b',rfl,rfl⟩
 ·cases h
theorem vO{S:St}{n f r:Nat}{b:Blk}(hr:r<n)(h:S.h[r]? =some b):(S.cut n f).h[r]? =some (zm2 n S.h f b):=by
 simp[St.cut,zk3,Xr,hr,h]
theorem zuB{S:St}{n f r:Nat}{v:Value}(h:(S.cut n f).φ[r]? =some v):r<n/\S.φ[r]? =some v:=by
 simp only[St.cut,Xr] at h;split at h
 ·exact⟨by assumption,h⟩
 ·cases h
theorem rD{S:St}{n f r:Nat}{v:Value}(hr:r<n)(h:S.φ[r]? =some v):(S.cut n f).φ[r]? =some v:=by
 simp[St.cut,Xr,hr,h]
theorem bZ{S:St}{n f:Nat}{a:Addr}{v:Value}(h:S.M a v):(S.cut n f).M a v:=by
 obtain⟨h1,h2,h3,h4,h5,h6⟩:=h;refine⟨h1,h2,h3,h4,h5,fun r u hu hb=> ?_⟩;obtain⟨hr,hu'⟩:=zuB hu;obtain⟨e,k,m,hh,ho⟩:=h6 r u hu' hb;exact⟨e,k,m,by rw[vO hr hh];rfl,ho⟩
theorem fG{S:St}(hS:SRel S){n f r b:Nat}{t:TypeId}{cs:List PV}(hr:n<=r)(hp:S.φ[r]? =some (.pointer (some ⟨b,0,none⟩)))(hb:S.h[r]? =some (.var t cs))(f':Nat):
  ∃val:Nat->Value,(∀j,j<cs.length->(S.cut n f).M ⟨b,j,none⟩ (val j))/\ ∀(j:Nat)(p:PV),cs[j]? =some p->VRel S p (val j):=by
 obtain⟨b',arr,he,hh,hsz,h1,hrel⟩:=hS.blks r _ _ hb hp;cases he;have hlt:b<S.w.heap.size:=(Qz.1 hh).1;refine⟨fun j=>arr.getD j undef,fun j hj=>⟨?_,?_,rfl,hlt,fun hx=>hS.xown _ hx r _ hp rfl,fun r' u hu hbu=> ?_⟩,fun j p hjp=> ?_⟩
 ·simp only[St.cut,World.cell?];rw[hh];have hj':j<arr.size:=Qf3;simp[Array.getD,hj']
 ·have hj':j<arr.size:=Qf3;refine h1 j _ ?_;simp[Array.getD,hj']
 ·obtain⟨hr',hu'⟩:=zuB hu;have:=hS.inj r r' _ _ _ hp hu' rfl hbu;omega
 ·have hj':j<arr.size:=Yf (gsi hjp).1 hsz;refine hrel j p _ hjp ?_;simp[Array.getD,hj']
theorem rQ(b off j:Nat):(⟨b,off,none⟩:Addr).add j=⟨b,off+j,none⟩:=by
 unfold Addr.add;split
 ·rename_i h;subst h;rfl
 ·rfl
theorem vW{α β:Type}{g:α->β}{l:List α}{i:Nat}{y:β}(h:(l.map g)[i]? =some y): ∃x,l[i]? =some x/\y=g x:=by
 exact Qcq
theorem ts_map{S S':St}{g:PV->PV}(hm: ∀a u,S.M a u->S'.M a u)(hg: ∀p u,VRel S p u->VRel S' (g p) u){k:Nat}{els:List (List PV)}{v:Value}(h:VRel S (.ts k els) v):
  VRel S' (.ts k (els.map fun e=>e.map g)) v:=by
 cases h with
 | ts hl hc hmx hk ad ha val hv h=>
  refine .ts Qf8 hc hmx (fun i e he=> ?_) ad ha val (fun j hj=>hm _ _ (hv j hj)) (fun i e j p hi hp=> ?_)
  ·obtain⟨e',he',rfl⟩:=vW he;simp[hk i e' he']
  ·obtain⟨e',he',rfl⟩:=vW hi;obtain⟨p',hp',rfl⟩:=vW hp;exact hg _ _ (h i e' j p' he' hp')
theorem bY{S:St}(hS:SRel S)(n F:Nat): ∀(f:Nat){p:PV}{v:Value},VRel S p v->VRel (S.cut n F) (fz n S.h f p) v:=by
 intro f
 induction f with
 |zero=>intro p v _;exact .un
 | succ f ih=>
  intro p v h;cases h with
  |un=>exact .un
  |ud=>exact .ud
  |sc h=>exact .sc h
  |nil=>exact .nil
  |agg hl h1 h=>
   refine .agg Qf8 h1 fun i p v hp hv=> ?_;exact Qd3
  |tup hl h=>
   refine .tup Qf8 fun i p v hp hv=> ?_;exact Qd3
  |ts hl hc hm hk ad ha val hv h=>exact ts_map (fun _ _ h=>bZ h) (fun _ _ h=>ih h) (.ts hl hc hm hk ad ha val hv h)
  |tc ht=>exact .tc (ts_map (fun _ _ h=>bZ h) (fun _ _ h=>ih h) ht)
  | vec ht hb hle ho=>
   rename_i r k m e els;simp only[fz];have ht':=ts_map (S':=S.cut n F) (fun _ _ h=>bZ h) (fun _ _ h=>ih h) ht;split
   ·rename_i hr;exact .vec ht' Qgi (by simpa using hle) (fun e=>rD hr (ho (by simpa using e)))
   ·exact ht'
  | oms hb hc hm=>
   simp only[fz];split
   ·rename_i hr;exact .oms Qgi hc hm
   ·rw[hb];exact .un
  | optr hb=>
   simp only[fz];split
   ·rename_i hr;exact .optr Qgi
   ·rw[hb];exact .un
  | ms hp hb hl hc hm hz=>
   rename_i r off k len c b t cs;simp only[fz];split
   ·rename_i hr;exact .ms (rD hr hp) Qgi Qfx hc hm hz
   ·rename_i hr;rw[hb];obtain⟨val,hv,hrel⟩:=fG hS (n:=n) (f:=F) Qf3 hp hb 0;refine .ts (by simp[wA]) hc hm (fun i e he=> ?_) ⟨b,off,none⟩ (fun _=>rfl) (fun j=>val (off+j)) (fun j hj=> ?_) (fun i e j p hi hp'=> ?_)
    ·obtain⟨hi,rfl⟩:=vN he;simp only[Xk,List.length_drop,Qs];have:=Zw k (show i+1<=len from hi);rw[Wo] at this;omega
    ·have:=hv (off+j) Qf3
     rwa [<-rQ] at this
    ·obtain⟨hi',rfl⟩:=vN hi;rw[Xr] at hp';split at hp'
     ·rw[Yg] at hp';obtain⟨q,hq,rfl⟩:=vW hp';have:=ih (hrel _ q hq)
      rwa [Ji] at this
     ·cases hp'
  | ptr hp hb=>
   rename_i r off b t cs;simp only[fz];split
   ·rename_i hr;exact .ptr (rD hr hp) Qgi
   ·rename_i hr;rw[hb];obtain⟨val,hv,hrel⟩:=fG hS (n:=n) (f:=F) Qf3 hp hb 0;refine .tp (fun j=>val (off+j)) (fun j hj=> ?_) (fun j p hp'=> ?_)
    ·simp at hj;have:=hv (off+j) Qf3
     rwa [<-rQ] at this
    ·obtain⟨q,hq,rfl⟩:=vW hp';rw[Yg] at hq;exact ih (hrel _ q hq)
  |tp val hv h=>
   refine .tp val (fun j hj=>bZ (hv j Qfy)) fun j p hp=> ?_;obtain⟨q,hq,rfl⟩:=vW hp;exact ih (h j q hq)
  | fn hl hl' h h'=>
   refine .fn Qf8 (by simp[hl']) (fun i p v hp hv=> ?_) (fun i p v hp hv=> ?_)
   ·exact Qd3
   ·obtain⟨q,hq,rfl⟩:=vW hp;exact ih (h' i q v hq hv)
  |ifc h=>exact .ifc (ih h)
  | mp hp hb=>
   simp only[fz];split
   ·rename_i hr;exact .mp (rD hr hp) Qgi
   ·exact .un
  | yl hp hb=>
   simp only[fz];split
   ·rename_i hr;exact .yl (rD hr hp) Qgi
   ·exact .un
  | it hp hb hi=>
   rename_i c;simp only[fz];split
   ·rename_i hr;exact .it (rD hr hp) (vO hr hb) (by cases c<;>simp only[Blk.isIt,Zo] at hi<;>rfl)
   ·exact .un
theorem zhT{S:St}(hS:SRel S)(n F:Nat):SRel (S.cut n F):=by
 refine⟨?_,fun r b v hb hv=> ?_,fun r r' v v' m hv hv'=>hS.inj r r' v v' m (zuB hv).2 (zuB hv').2,hS.xlt,fun a ha r v hv=>hS.xown a ha r v (zuB hv).2⟩
 ·simp only[St.cut,zk3,Qs,Xk,hS.len]
 ·obtain⟨hr,b',hb',rfl⟩:=cut_h hb;have h0:=hS.blks r b' v hb' (zuB hv).2;cases b' with
  |var t cs=>
   obtain⟨b,arr,he,hh,hsz,h1,hrel⟩:=h0;refine⟨b,arr,he,hh,by simp[hsz],h1,fun i p u hp hu=> ?_⟩;obtain⟨q,hq,rfl⟩:=vW hp;exact bY hS n F F (hrel i q u hq hu)
  |vec e k m=>exact h0
  |map es=>
   obtain⟨b,clock,entries,he,hh,hsz,h1,hrel⟩:=h0;refine⟨b,clock,entries,he,hh,by simp[hsz],⟨h1.1,fun q hq=>by obtain⟨q',hq',rfl⟩:=Xf.1 hq;exact h1.2.1 q' hq',h1.2.2⟩,fun i e q hi hq=> ?_⟩;obtain⟨q',hq',rfl⟩:=vW hq;obtain⟨hk,hv⟩:=hrel i e q' hi hq';exact⟨hk,bY hS n F F hv⟩
  |loop ts ps as bd st pd=>
   obtain⟨b,L,he,hh,k1,k2,k3,k4,k5,k6,k7⟩:=h0;refine⟨b,L,he,hh,k1,k2,k3,k4,k5,by simp[k6],fun i p hp=> ?_⟩;obtain⟨q,hq,rfl⟩:=vW hp;exact bY hS n F F (k7 i q hq)
  |iter m k s=>
   obtain⟨b,bm,he,hh,h1⟩:=h0;refine⟨b,bm,he,hh,fun r hr=> ?_⟩;rw[Option.filter_eq_some_iff] at hr;obtain⟨es,bk,g1,g2,g3⟩:=h1 r hr.1;have hlt:r<n:=by simpa using hr.2
   exact⟨_,bk,vO hlt g1,rD hlt g2,g3⟩
  |siter s p=>exact h0
  |non=>exact h0
  |old=>exact h0
theorem zb4{S₀ S:St}(hS:SRel S)(x:Ext S₀ S)(n F:Nat)(hn:S₀.h.length<=n):Ext S₀ (S.cut n F):=by
 refine⟨x.x,x.os,x.tape,x.output,x.size,fun b hb ho=> ?_,fun a v h=>bZ (x.mem a v h),fun r b hb=> ?_,x.rows⟩
 ·obtain⟨h1,h2⟩:=x.unt b hb ho;refine⟨?_,h2⟩;rintro⟨r,v,hv,hbv⟩;exact h1 ⟨r,v,(zuB hv).2,hbv⟩
 ·have hr:r<n:=Yf (gsi hb).1 hn;obtain⟨b',hb',hl⟩:=x.blks r b hb;refine⟨_,vO hr hb',?_⟩;have e:(S.cut n F).φ[r]? =S.φ[r]? :=by simp[St.cut,Xr,hr]
  rw[e];refine Blk.le_trans hl (Blk.le_fz (p:=True) trivial b') fun h _=>h
theorem ACall.cut{P:Program}{G:Glob}{f:FuncId}{args:List PV}{h:Heap}{R:PV->Heap->Prop}(n F:Nat)(hn:h.length<=n)
  (k:ACall P G f args h fun p h'=>R (fz n h' F p) (zk3 n h' F)):ACall P G f args h R:=by
 refine⟨k.1,fun φ w X vs a b c d=>(k.2 φ w X vs a b c d).mono ?_⟩;rintro e w' ⟨φ',h',p,v,he,x,hs,hv,hr⟩;have x':=zb4 hs x n F hn;exact⟨φ'.take n,zk3 n h' F,fz n h' F p,v,he,x',zhT hs n F,bY hs n F F hv,hr⟩
end Go.AL
