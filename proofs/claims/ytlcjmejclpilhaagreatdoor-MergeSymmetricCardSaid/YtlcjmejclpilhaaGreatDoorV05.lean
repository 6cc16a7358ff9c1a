/-
  Part of the walk.
-/
import Derived.Laws.IdiomStrings
import Derived.Stop.FmtRuneSmall
import Derived.Test.YtlcjmejclpilhaaGreatDoorV04
set_option linter.unusedSimpArgs false
set_option linter.unusedVariables false
set_option maxRecDepth 100000
set_option maxHeartbeats 4000000
namespace Go.AL
open Go.RowKit
def kO(k:Value)(v:PV)(es:List (Value×PV)):List (Value×PV):=
  match vV k es 0 with
  |some (i,_)=>es.set i (k,v)
  |none=>es++[(k,v)]
def zcL(P:Program)(h:Heap)(f:Operand->PV):Op->Option (PV×Heap)
  | .mapUpdate t m k x| .insert t m k x=>match f m,f k,kC P t with
    | .mp r,.sc kv,some (_,d,_)=>match h[r]? with
      |some (.map es)=>if pF d kv&&es.all (fun x=>pF d x.1) then some (.ud,h.set r (.map (kO kv (f x) es))) else none
      |_=>none
    |_,_,_=>none
  | .convert s d x=>match f x,wX P d with
    | .sc (.string b),some e=>if zeT P e=some .u8/\gJ P s=true then some (.ts 1 (xH b),h) else none
    |_,_=>none
  | .range t x=>match f x,kC P t with
    | .mp r,some _=>match h[r]? with
      |some (.map es)=>some (.it h.length,h++[.iter (some r) es.length []])
      |_=>none
    | .sc (.string b),none=>if gJ P t=true then some (.it h.length,h++[.siter b 0]) else none
    |_,_=>none
  | .next it true=>match f it with
    | .it r=>match h[r]? with
      |some (.siter b pos)=>if pos<b.size then some (.tup [.sc (.bool true),.sc (.int .i64 pos),.sc (.int .i32 (Utf8.decode b pos).1)],h.set r (.siter b (pos+(Utf8.decode b pos).2))) else some (.tup [.sc (.bool false)],h)
      |_=>none
    |_=>none
  | .mapEntry t m k=>match f m,f k,kC P t with
    | .mp r,.sc kv,some (_,d,e)=>match h[r]?,(P.info? e).bind (·.zero) with
      | some (.map es),some z=>if pF d kv&&es.all (fun x=>pF d x.1)&&decide (es.length<=140737488355328) then
          match vV kv es 0 with
          |some (i,p)=>some (.tup [p,.sc (.int .i64 i)],h.set r (.map (es.set i (kv,p))))
          |none=>some (.tup [nI z,.sc (.int .i64 es.length)],h.set r (.map (es++[(kv,nI z)])))
        else none
      |_,_=>none
    |_,_,_=>none
  | .entryStore _ m s x=>match f m,f s with
    | .mp r,.sc (.int .i64 n)=>match h[r]? with
      | some (.map es)=>match es[n.toNat]? with
        |some q=>if 0<=n then some (.ud,h.set r (.map (es.set n.toNat (q.1,f x)))) else none
        |none=>none
      |_=>none
    |_,_=>none
  |_=>none
section
variable{P:Program}{S:St}
theorem oP(hS:SRel S){r b:Nat}{es es':List (Value×PV)}(hp:S.φ[r]? =some (.map (some b)))(hb:S.h[r]? =some (.map es))
    {w':World} (ho:w'.os=S.w.os) (ht:TapeLe S.w w') (hu:w'.output=S.w.output) (hs:w'.heap.size=S.w.heap.size) (hw: ∀k,k≠b->w'.heap[k]? =S.w.heap[k]?) (hz: ∀b m,S.Row b m->St.Row {S with w:=w'} b m):
    Ext S {S with h:=S.h.set r (.map es'),w:=w'}:=by
  have hr:r<S.h.length:=(gsi hb).1;have hown: ∀n, ¬S.Own n->n≠b:=fun n hn e=>hn ⟨r,_,hp,by subst e;rfl⟩;refine⟨rfl,ho,ht,hu,by simp only[];omega,fun n hn hno=>⟨hno,hw n (hown n hno)⟩,fun a v hm=> ?_,fun r' c hc=> ?_,hz⟩
  · obtain⟨h1,h2,h3,h4,h5,h6⟩:=hm
    have hab:a.block≠b:=fun e=>by
      obtain⟨e',k,n,hh,_⟩:=h6 r _ hp (by simp[sC,e]);rw[hb] at hh;cases hh
    refine⟨(World.cell?_of_block (hw _ hab)).trans h1,h2,h3,by simp only[];omega,h5,fun r' v' hp' hv'=> ?_⟩;obtain⟨e,k,n,hh,hlt⟩:=h6 r' v' hp' hv';refine⟨e,k,n,?_,hlt⟩;have:r≠r':=fun e=>by subst e;rw[hb] at hh;cases hh
    simp only[Qq,Qi this];exact hh
  · by_cases e:r=r'
    · subst e
      rw[hb] at hc;cases hc;exact⟨.map es',by simp[hr],by simp[Blk.le]⟩
    · exact⟨c,by simp only[Qq,Qi e];exact hc,Blk.le_refl c rfl⟩
theorem ydW(hS:SRel S){r b clock:Nat}{es es':List (Value×PV)}{ar:Array MapEntry}(hp:S.φ[r]? =some (.map (some b)))(hb:S.h[r]? =some (.map es))
    {w':World} (ho:w'.os=S.w.os) (ht:TapeLe S.w w') (hu:w'.output=S.w.output) (hs:w'.heap.size=S.w.heap.size) (hw: ∀k,k≠b->w'.heap[k]? =S.w.heap[k]?) (hz: ∀b m,S.Row b m->St.Row {S with w:=w'} b m)
    (hnew:w'.heap[b]? =some (.map ar clock)) (hsz:ar.size=es'.length) (h1:clock=ar.size/\(∀q∈es',yaO q.1)/\ ∀(i:Nat)(e:MapEntry),ar[i]? =some e->e.born=i)
    (hv: ∀(i:Nat)(e:MapEntry)(q:Value×PV),ar[i]? =some e->es'[i]? =some q->e.key=q.1/\VRel S q.2 e.val):
    SRel {S with h:=S.h.set r (.map es'),w:=w'}:=by
  have x:=oP (es':=es') hS hp hb ho ht hu hs hw hz;have hr:r<S.h.length:=(gsi hb).1;refine⟨by simp[hS.len],fun r' c v hc hvv=> ?_,hS.inj,fun a ha=>by have:=hS.xlt a ha;simp only[];omega,hS.xown⟩;by_cases e:r=r'
  · subst e
    simp only[Qq,Qj hr, ↓reduceIte] at hc;cases hc;rw[hp] at hvv;cases hvv;exact⟨b,clock,ar,rfl,hnew,hsz,h1,fun i e q he hq=>⟨(hv i e q he hq).1,(hv i e q he hq).2.ext x⟩⟩
  · simp only[Qq,Qi e] at hc
    refine(hS.blks r' c v hc hvv).ext x fun n hn=>hw n fun en=> ?_;subst en;exact e (hS.inj r r' _ v n hp hvv rfl hn)
theorem zi7(hS:SRel S){t:TypeId}{r:Nat}{kt:TypeId}{d:TypeDesc}{e:TypeId}{es:List (Value×PV)}{kv:Value}{p:PV}{u x:Value}(ht:kC P t=some (kt,d,e))(hb:S.h[r]? =some (.map es))
    (hk:pF d kv=true) (hok:tJ kv) (hks: ∀q∈es,pF d q.1=true) (hu:VRel S (.mp r) u) (hx:VRel S p x):
    ∃w',(Instr.mapUpdate t u kv x).run P S.w= .ok () w'/\Ext S {S with h:=S.h.set r (.map (kO kv p es)),w:=w'}/\SRel {S with h:=S.h.set r (.map (kO kv p es)),w:=w'}:=by
  obtain⟨t1,t2⟩:=ydV ht;cases hu with|mp hp hb'=>
  rename_i b es0;obtain⟨b',clock,ar,he',hh,hsz,hborn,hrel⟩:=hS.blks r _ _ hb hp;cases he';have hlt:b<S.w.heap.size:=(Qz.1 hh).1;have hl:ar.toList.length=es.length:=Qg7;have hz: ∀(w':World),(∀k,k≠b->w'.heap[k]? =S.w.heap[k]?)-> ∀b m,S.Row b m->St.Row {S with w:=w'} b m:=by
    exact Qeu
  rcases qR (uM hk) es ar.toList 0 hl (fun j e q h1 h2=>(hrel j e q (by simpa using h1) h2).1) hks with ⟨m1,m2,_⟩|⟨j,q,e',m1,m2,m3,m4,m5⟩
  · have em:kO kv p es=es++[(kv,p)]:=by simp[kO,m1]
    rw[em];let w':World:={S.w with heap:=S.w.heap.setIfInBounds b (.map (ar.push {key:=kv,val:=x,born:=clock}) (clock+1))}
    have hw: ∀k,k≠b->w'.heap[k]? =S.w.heap[k]? :=fun k hk=>(MapKept.heap_set hh).2 k hk;refine⟨w',?_,oP hS hp hb rfl ztC rfl Qf8 hw (hz _ hw),ydW hS hp hb rfl ztC rfl Qf8 hw (hz _ hw) (MapKept.heap_set hh).1 Qfi ⟨by simp[hborn.1],fun q hq=>(Qo.1 hq).elim (hborn.2.1 q) (fun h=>by simp at h;subst h;exact .inl hok),fun i e he=> ?_⟩ (fun i e q he hq=> ?_)⟩
    · simp[Instr.mapUpdate,Xc t1,MapKept.run_getObj_map hh,MapKept.run_checkKey t2 (uM hk) _ 9999,MapKept.run_findKey t2 m2,MapKept.run_setObj_map _ hh,Result.andThen,w']
    ·exact Qca
    · rw[Ke] at he
      split at he
      · rename_i hi
        cases he;rw[Qs,Qi Qf0,hi,hsz,Nat.sub_self] at hq;cases hq;exact⟨rfl,hx⟩
      ·exact Qc3
  · have hj:ar[j]? =some e':=by simpa using m3
    have em:kO kv p es=es.set j (kv,p):=by simp[kO,m1]
    rw[em];let w':World:={S.w with heap:=S.w.heap.setIfInBounds b (.map (ar.modify j fun e=>{e with key:=kv,val:=x}) clock)}
    have hw: ∀k,k≠b->w'.heap[k]? =S.w.heap[k]? :=fun k hk=>(MapKept.heap_set hh).2 k hk;have m4':Instr.findNow d kv ar.toList 0=some (some (j,e'.val)):=by rw[m4];simp
    refine⟨w',?_,oP hS hp hb rfl ztC rfl Qf8 hw (hz _ hw),ydW hS hp hb rfl ztC rfl Qf8 hw (hz _ hw) (MapKept.heap_set hh).1 Qfi ⟨by simp[hborn.1],fun q hq=>(Ze hq).elim (hborn.2.1 q) (fun h=>by subst h;exact .inl hok),fun i e he=> ?_⟩ (fun i e q he hq=> ?_)⟩
    · simp[Instr.mapUpdate,Xc t1,MapKept.run_getObj_map hh,MapKept.run_checkKey t2 (uM hk) _ 9999,MapKept.run_findKey t2 m4',hj,m5,MapKept.run_keyThatStays (uM hk),MapKept.run_setObj_map _ hh,Result.andThen,w']
    ·exact Qbd
    · rw[Wc] at he
      rw[Qq] at hq;split at he
      · rename_i hij
        subst hij;rw[hj] at he;cases he;rw[Qj rfl] at hq;split at hq
        · cases hq;exact⟨rfl,hx⟩
        · cases hq
      · rename_i hij
        rw[Qi hij] at hq;exact hrel i e q he hq
theorem zhO{r b:Nat}{c c':Blk}(hS:SRel S)(hp:S.φ[r]? =some (.pointer (some ⟨b,0,none⟩)))(hb:S.h[r]? =some c)(hv: ∀e k n,c≠ .vec e k n)(hle: ∀p:Prop,p->Blk.le p c c')
    {w':World} (ho:w'.os=S.w.os) (ht:TapeLe S.w w') (hu:w'.output=S.w.output) (hs:w'.heap.size=S.w.heap.size) (hw: ∀k,k≠b->w'.heap[k]? =S.w.heap[k]?) (hz: ∀b m,S.Row b m->St.Row {S with w:=w'} b m):
    Ext S {S with h:=S.h.set r c',w:=w'}:=by
  have hr:r<S.h.length:=(gsi hb).1;have hown: ∀n, ¬S.Own n->n≠b:=fun n hn e=>hn ⟨r,_,hp,by subst e;rfl⟩;refine⟨rfl,ho,ht,hu,by simp only[];omega,fun n hn hno=>⟨hno,hw n (hown n hno)⟩,fun a v hm=> ?_,fun r' d hc=> ?_,hz⟩
  · obtain⟨h1,h2,h3,h4,h5,h6⟩:=hm
    have hab:a.block≠b:=fun e=>by
      obtain⟨e',k,n,hh,_⟩:=h6 r _ hp (by simp[sC,e]);rw[hb] at hh;cases hh;exact hv _ _ _ rfl
    refine⟨(World.cell?_of_block (hw _ hab)).trans h1,h2,h3,by simp only[];omega,h5,fun r' v' hp' hv'=> ?_⟩;obtain⟨e,k,n,hh,hlt⟩:=h6 r' v' hp' hv';refine⟨e,k,n,?_,hlt⟩;have:r≠r':=fun e=>by subst e;rw[hb] at hh;cases hh;exact hv _ _ _ rfl
    simp only[Qq,Qi this];exact hh
  · by_cases e:r=r'
    · subst e
      rw[hb] at hc;cases hc;exact⟨c',by simp[hr],hle _ rfl⟩
    · exact⟨d,by simp only[Qq,Qi e];exact hc,Blk.le_refl d rfl⟩
theorem ziZ{r b:Nat}{c c':Blk}(hS:SRel S)(hp:S.φ[r]? =some (.pointer (some ⟨b,0,none⟩)))(hb:S.h[r]? =some c)(hv: ∀e k n,c≠ .vec e k n)(hle: ∀p:Prop,p->Blk.le p c c')
    {w':World} (ho:w'.os=S.w.os) (ht:TapeLe S.w w') (hu:w'.output=S.w.output) (hs:w'.heap.size=S.w.heap.size) (hw: ∀k,k≠b->w'.heap[k]? =S.w.heap[k]?) (hz: ∀b m,S.Row b m->St.Row {S with w:=w'} b m)
    (hnew:BRel {S with h:=S.h.set r c',w:=w'} c' (.pointer (some ⟨b,0,none⟩))):SRel {S with h:=S.h.set r c',w:=w'}:=by
  have x:=zhO hS hp hb hv hle ho ht hu hs hw hz;have hr:r<S.h.length:=(gsi hb).1;refine⟨by simp[hS.len],fun r' d v hc hvv=> ?_,hS.inj,fun a ha=>by have:=hS.xlt a ha;simp only[];omega,hS.xown⟩;by_cases e:r=r'
  · subst e
    simp only[Qq,Qj hr, ↓reduceIte] at hc;cases hc;rw[hp] at hvv;cases hvv;exact hnew
  · simp only[Qq,Qi e] at hc
    refine(hS.blks r' d v hc hvv).ext x fun n hn=>hw n fun en=> ?_;subst en;exact e (hS.inj r r' _ v n hp hvv rfl hn)
theorem zj0(hS:SRel S):Ext S {S with w:=S.w.drew}/\SRel {S with w:=S.w.drew}:=
  ⟨⟨rfl,rfl,ztC,rfl,Xe _,fun _ _ h=>⟨h,rfl⟩,fun _ _ h=>h,fun _ b h=>⟨b,h,Blk.le_refl b rfl⟩,fun _ _ h=>h⟩,
   ⟨hS.len,fun r b v hb hv=>(hS.blks r b v hb hv).ext ⟨rfl,rfl,ztC,rfl,Xe _,fun _ _ h=>⟨h,rfl⟩,fun _ _ h=>h,fun _ b h=>⟨b,h,Blk.le_refl b rfl⟩,fun _ _ h=>h⟩ fun _ _=>rfl,hS.inj,hS.xlt,hS.xown⟩⟩
theorem cU{α β:Type}{g:α->β}{l:List α}{i:Nat}{y:β}(h:(l.map g)[i]? =some y): ∃x,l[i]? =some x/\g x=y:=by
  exact Qcp
theorem zgI(hS:SRel S){s d e:TypeId}{b:ByteArray}(hd:wX P d=some e)(he:zeT P e=some .u8)(hs:gJ P s=true)(hb:tJ (.string b)):
    ∃v w',(convert s d (.string b)).run P S.w= .ok v w'/\Ext S {S with w:=w'}/\SRel {S with w:=w'}/\VRel {S with w:=w'} (.ts 1 (xH b)) v:=by
  have hrun:=run_bytes_of_string (P:=P) S.w s d e b (qL hs) (tS hd) (cK he);obtain⟨x1,s1⟩:=zj0 hS;let o:Obj:= .cells (bytesRow b (grownCap S.w b.size 0 e)) e ((bytesRow b (grownCap S.w b.size 0 e)).size,(bytesRow b (grownCap S.w b.size 0 e)).size+1)
  have x2:=wT s1 o;have s2:=nO s1 o;have hlen:b.data.toList.length=b.size:=Qf1;have hnew:(S.w.drew.alloc o).heap[S.w.heap.size]? =some o:=heap_alloc_new _ _;refine⟨_,_,hrun,x1.trans x2,s2,?_⟩;refine .ts (by simp[xH]) (grownCap_ge _ _ _ _) (grownCap_le_maxLen _ _ _ _ hb) (fun i e he=> ?_) ⟨S.w.heap.size,0,none⟩ (fun _=>rfl) (fun j=> .int .u8 (b.data.toList.getD j 0).toNat) (fun j hj=> ?_) (fun i e j p hi hp=> ?_)
  · obtain⟨c,hc,rfl⟩:=cU he
    rfl
  · rw[Ju] at hj
    have hadd:(⟨S.w.heap.size,0,none⟩:Addr).add j=⟨S.w.heap.size,j,none⟩:=by
      unfold Addr.add;split
      · rename_i h;subst h;rfl
      · simp
    rw[hadd];refine⟨?_,rfl,rfl,?_,fun hx=> ?_,fun r v hv hbv=> ?_⟩
    · have hj':j<b.data.size:=hj
      simp only[World.cell?];rw[show(S.w.drew.alloc o).heap[S.w.heap.size]? =some o from hnew];simp[o,bytesRow,Wd,hj,hj',Qb]
    · show S.w.heap.size<(S.w.drew.alloc o).heap.size
      simp
    · have:=hS.xlt _ hx
      exact absurd this (Nat.lt_irrefl _)
    · exact absurd (hS.own_lt ⟨r,v,hv,hbv⟩) (Nat.lt_irrefl _)
  · obtain⟨c,hc,rfl⟩:=cU hi
    cases j with
    | zero=>
      simp only[Ws,Option.some.injEq] at hp;subst hp;simp only[Ju,Wn,Qb,hc,Wv];refine .sc ?_;have:=c.toNat_lt;have e1:IntKind.min .u8=0:=Qf2;have e2:IntKind.max .u8=255:=Qf2;show IntKind.min .u8<=_/\_<=IntKind.max .u8;rw[e1,e2];omega
    |succ j=>simp at hp
theorem zj8{ρ:Operand->Value}{f:Operand->PV}{o:Oper}{p:PV}{h':Heap}(hS:SRel S)(hx: ∀x∈o.op.operands,VRel S (f x) (ρ x))(he:zcL P S.h f o.op=some (p,h')):
    ∃φ' w',Ext S {S with φ:=φ',h:=h',w:=w'}/\SRel {S with φ:=φ',h:=h',w:=w'}/\((∃v,(execOp ρ o).run P S.w= .ok (.value v) w'/\VRel {S with φ:=φ',h:=h',w:=w'} p v)\/((execOp ρ o).run P S.w= .ok .skip w'/\p= .ud)):=by
  have upd: ∀(t:TypeId)(m k x:Operand),m∈o.op.operands->k∈o.op.operands->x∈o.op.operands->(match f m,f k,kC P t with
      | .mp r,.sc kv,some (_,d,_)=>match S.h[r]? with
        |some (.map es)=>if pF d kv&&es.all (fun x=>pF d x.1) then some (PV.ud,S.h.set r (.map (kO kv (f x) es))) else none
        |_=>none
      |_,_,_=>none)=some (p,h')-> ∃w',(Instr.mapUpdate t (ρ m) (ρ k) (ρ x)).run P S.w= .ok () w'/\Ext S {S with h:=h',w:=w'}/\SRel {S with h:=h',w:=w'}/\p= .ud:=by
    intro t m k x hm hk hxx e;split at e
    case h_2=>cases e
    rename_i r kv kt d et hfm hfk ht;split at e
    case h_2=>cases e
    rename_i es hb;split at e
    case isFalse=>cases e
    rename_i hkb;rw[Qt,Xg] at hkb;cases e;have h1:=hx m hm;have h2:=hx k hk;rw[hfm] at h1;rw[hfk] at h2;have e2:ρ k=kv/\tJ kv:=Qhu;obtain⟨w',g1,g2,g3⟩:=zi7 (P:=P) hS ht hb hkb.1 e2.2 hkb.2 h1 (hx x hxx);exact⟨w',by rw[e2.1];exact g1,g2,g3,rfl⟩
  unfold execOp;unfold zcL at he;split at he
  ·exact Qb2
  ·exact Qb2
  · rename_i s d x hop
    split at he
    case h_2=>cases he
    rename_i b e hfx hte;split at he
    case isFalse=>cases he
    rename_i hcond;cases he;have h1:=hx x Qh6;rw[hfx] at h1;have e1:ρ x= .string b/\tJ (.string b):=Qhs;obtain⟨v,w',g1,g2,g3,g4⟩:=zgI (P:=P) hS hte hcond.1 hcond.2 e1.2;rw[hop];exact⟨S.φ,w',g2,g3,.inl ⟨v,by simp only[Xp,e1.1,g1,Xd,Yc],g4⟩⟩
  · rename_i t x hop
    split at he
    · rename_i r kt hfx ht
      split at he
      case h_2=>cases he
      rename_i es hb;cases he;have h1:=hx x Qh6;rw[hfx] at h1;obtain⟨kt,d,e⟩:=kt;obtain⟨t1,t2⟩:=ydV ht;have hq: ∃b,ρ x= .map (some b)/\S.φ[r]? =some (.map (some b)):=by generalize ρ x=u at h1;cases h1;exact⟨_,rfl,by assumption⟩
      obtain⟨b,hρ,hp⟩:=hq;obtain⟨b',clock,ar,he',hh,hsz,hborn,hrel⟩:=hS.blks r _ _ hb hp;cases he';have hck:clock=es.length:=by rw[hborn.1,hsz]
      subst hck;have x1:Ext S (({S with w:=S.w.alloc (.mapIter (some b) es.length #[] es.length)}:St).push (.pointer (some ⟨S.w.heap.size,0,none⟩)) (.iter (some r) es.length [])):=tZ (wT hS _) hS rfl rfl _ _ Qha;have hr:r<S.h.length:=(gsi hb).1;have hr2:r<S.φ.length:=(gsi hp).1;have hS':SRel (({S with w:=S.w.alloc (.mapIter (some b) es.length #[] es.length)}:St).push (.pointer (some ⟨S.w.heap.size,0,none⟩)) (.iter (some r) es.length [])):=
        uP hS x1 rfl rfl rfl (fun n hn=>Below.heap_alloc _ _ _ hn) ⟨S.w.heap.size,some b,rfl,heap_alloc_new S.w _,fun r' hr'=>by cases hr';exact⟨es,b,by simp only[St.push];rw[Qg hr];exact hb,by simp only[St.push];rw[Qg hr2];exact hp,rfl⟩⟩ Qha
      rw[hop];refine⟨S.φ++[.pointer (some ⟨S.w.heap.size,0,none⟩)],S.w.alloc (.mapIter (some b) es.length #[] es.length),x1,hS',.inl ⟨.pointer (some ⟨S.w.heap.size,0,none⟩),?_,.it Qgx (c:= .iter (some r) es.length []) Qfw rfl⟩⟩;simp[Instr.range,Xc t1,hρ,MapKept.run_getObj_map hh,newObj];rfl
    · rename_i b hfx ht
      split at he
      case isFalse=>cases he
      rename_i hts;cases he;have h1:=hx x Qh6;rw[hfx] at h1;have e1:ρ x= .string b/\tJ (.string b):=Qhs;have x1:Ext S (({S with w:=S.w.alloc (.stringIter b 0)}:St).push (.pointer (some ⟨S.w.heap.size,0,none⟩)) (.siter b 0)):=tZ (wT hS _) hS rfl rfl _ _ Qha;have hS':SRel (({S with w:=S.w.alloc (.stringIter b 0)}:St).push (.pointer (some ⟨S.w.heap.size,0,none⟩)) (.siter b 0)):=
        uP hS x1 rfl rfl rfl (fun n hn=>Below.heap_alloc _ _ _ hn) ⟨S.w.heap.size,rfl,heap_alloc_new S.w _,e1.2⟩ Qha
      rw[hop];refine⟨S.φ++[.pointer (some ⟨S.w.heap.size,0,none⟩)],S.w.alloc (.stringIter b 0),x1,hS',.inl ⟨.pointer (some ⟨S.w.heap.size,0,none⟩),?_,.it Qgx (c:= .siter b 0) Qfw rfl⟩⟩;simp[Instr.range,Xc (qL hts),e1.1,newObj];rfl
    · cases he
  · rename_i it hop
    split at he
    case h_2=>cases he
    rename_i r hfx;split at he
    case h_2=>cases he
    rename_i b pos hb;have h1:=hx it Qh6;rw[hfx] at h1;obtain⟨bb,hρ,hp⟩: ∃bb,ρ it= .pointer (some ⟨bb,0,none⟩)/\S.φ[r]? =some (.pointer (some ⟨bb,0,none⟩)):=Qhy;obtain⟨b',he',hh,hsz⟩:=hS.blks r _ _ hb hp;cases he';rw[hop];split at he
    · rename_i hlt
      cases he;let w':World:={S.w with heap:=S.w.heap.setIfInBounds bb (.stringIter b (pos+(Utf8.decode b pos).2))}
      have hw: ∀k,k≠bb->w'.heap[k]? =S.w.heap[k]? :=fun k hk=>(MapKept.heap_set hh).2 k hk;have hz: ∀b1 m,S.Row b1 m->St.Row {S with w:=w'} b1 m:=by
        rintro b1 m ⟨ar1,t1,f1,hr1,hm1⟩;exact Qav
      have x1:=zhO (c':= .siter b (pos+(Utf8.decode b pos).2)) hS hp hb Qf1 (fun p hp=>hp) (w':=w') rfl ztC rfl Qf8 hw hz;refine⟨S.φ,w',x1,ziZ (c':= .siter b (pos+(Utf8.decode b pos).2)) hS hp hb Qf1 (fun p hp=>hp) rfl ztC rfl Qf8 hw hz ⟨bb,rfl,(MapKept.heap_set hh).1,hsz⟩,.inl ⟨.tuple #[.bool true,goInt pos,.int .i32 (Utf8.decode b pos).1],?_,.tup rfl fun j p v hp hv=> ?_⟩⟩
      · simp[Instr.next,hρ,getObj,Sem.run,hh,hlt,setObj,Result.andThen,w']
      · match j with
        |0=>simp at hp hv;subst hp;subst hv;exact .sc trivial
        | 1=>
          simp at hp hv;subst hp;subst hv;refine .sc ?_;have e1:IntKind.min .i64= -9223372036854775808:=Qf2;have e2:IntKind.max .i64=9223372036854775807:=Qf2;have e3:maxLen=9223372036854775807:=rfl;show IntKind.min .i64<=_/\_<=IntKind.max .i64;rw[e1,e2];omega
        | 2=>
          simp at hp hv;subst hp;subst hv;refine .sc ?_;have e1:IntKind.min .i32= -2147483648:=Qf2;have e2:IntKind.max .i32=2147483647:=Qf2;have:=decode_max b pos;show IntKind.min .i32<=_/\_<=IntKind.max .i32;rw[e1,e2];omega
        |j+3=>simp at hp
    · rename_i hge
      cases he;refine⟨S.φ,S.w,Ext.refl _,hS,.inl ⟨.tuple #[.bool false],?_,.tup rfl fun j p v hp hv=> ?_⟩⟩
      · simp[Instr.next,hρ,getObj,Sem.run,hh,hge,Result.andThen]
      · match j with
        |0=>simp at hp hv;subst hp;subst hv;exact .sc trivial
        |j+1=>simp at hp
  · rename_i t m k hop
    split at he
    case h_2=>cases he
    rename_i r kv kt d et hfm hfk ht;split at he
    case h_2=>cases he
    rename_i es z hb hz;split at he
    case isFalse=>cases he
    rename_i hkb;simp only[Qt,Xg,Xm] at hkb;obtain⟨⟨hk,hks⟩,hlen⟩:=hkb;have h1:=hx m Qh6;have h2:=hx k Qh6;rw[hfm] at h1;rw[hfk] at h2;have e2:ρ k=kv/\tJ kv:=Qhu;obtain⟨b,hρ,hp⟩: ∃b,ρ m= .map (some b)/\S.φ[r]? =some (.map (some b)):=Qhw;obtain⟨b',clock,ar,he',hh,hsz,hborn,hrel⟩:=hS.blks r _ _ hb hp;cases he';obtain⟨t1,t2⟩:=ydV ht;have hzr: ∀(w':World),(∀k,k≠b->w'.heap[k]? =S.w.heap[k]?)-> ∀b m,S.Row b m->St.Row {S with w:=w'} b m:=by
      exact Qeu
    have hnum: ∀n:Nat,n<=140737488355328->tJ (.int .i64 n):=fun n hn=>by
      have e1:IntKind.min .i64= -9223372036854775808:=Qf2;have e2:IntKind.max .i64=9223372036854775807:=Qf2;show IntKind.min .i64<=_/\_<=IntKind.max .i64;rw[e1,e2];omega
    have hl:ar.toList.length=es.length:=Qg7;rw[hop];rcases qR (uM hk) es ar.toList 0 hl (fun j e q h1 h2=>(hrel j e q (by simpa using h1) h2).1) hks with ⟨m1,m2,_⟩|⟨j,q,e',m1,m2,m3,m4,m5⟩
    · rw[m1] at he
      cases he;let w':World:={S.w with heap:=S.w.heap.setIfInBounds b (.map (ar.push {key:=kv,val:=z,born:=clock}) (clock+1))}
      have hw: ∀k,k≠b->w'.heap[k]? =S.w.heap[k]? :=fun k hk=>(MapKept.heap_set hh).2 k hk;have x1:=oP (es':=es++[(kv,nI z)]) hS hp hb (w':=w') rfl ztC rfl Qf8 hw (hzr _ hw);refine⟨S.φ,w',x1,ydW hS hp hb rfl ztC rfl Qf8 hw (hzr _ hw) (MapKept.heap_set hh).1 Qfi ⟨by simp[hborn.1],fun q hq=>(Qo.1 hq).elim (hborn.2.1 q) (fun h=>by simp at h;subst h;exact .inl e2.2),fun i e he=> ?_⟩ (fun i e q he hq=> ?_),.inl ⟨.tuple #[z,goInt clock],?_,.tup rfl fun i p v hp hv=> ?_⟩⟩
      ·exact Qca
      · rw[Ke] at he
        split at he
        · rename_i hi
          cases he;rw[Qs,Qi Qf0,hi,hsz,Nat.sub_self] at hq;cases hq;exact⟨rfl,sN S z⟩
        ·exact Qc3
      · simp[Instr.mapEntry,Xc t1,hρ,e2.1,MapKept.run_getObj_map hh,MapKept.run_checkKey t2 (uM hk) _ 9999,MapKept.run_findKey t2 m2,lO hz,MapKept.run_setObj_map _ hh,Result.andThen,w']
      · match i with
        |0=>simp at hp hv;subst hp;subst hv;exact sN _ z
        |1=>simp at hp hv;subst hp;subst hv;rw[hborn.1,hsz];exact .sc (hnum _ hlen)
        |i+2=>simp at hp
    · have hj:ar[j]? =some e':=by simpa using m3
      have hjl:j<es.length:=(gsi m2).1;rw[m1] at he;simp only[Yd,Option.some.injEq,Ys] at he;obtain⟨rfl,rfl⟩:=he;let w':World:={S.w with heap:=S.w.heap.setIfInBounds b (.map (ar.modify j fun e=>{e with key:=kv}) clock)}
      have hw: ∀k,k≠b->w'.heap[k]? =S.w.heap[k]? :=fun k hk=>(MapKept.heap_set hh).2 k hk;have m4':Instr.findNow d kv ar.toList 0=some (some (j,e'.val)):=by rw[m4];simp
      have x1:=oP (es':=es.set j (kv,q.2)) hS hp hb (w':=w') rfl ztC rfl Qf8 hw (hzr _ hw);refine⟨S.φ,w',x1,ydW hS hp hb rfl ztC rfl Qf8 hw (hzr _ hw) (MapKept.heap_set hh).1 Qfi ⟨by simp[hborn.1],fun q hq=>(Ze hq).elim (hborn.2.1 q) (fun h=>by subst h;exact .inl e2.2),fun i e he=> ?_⟩ (fun i e q' he hq=> ?_),.inl ⟨.tuple #[e'.val,goInt e'.born],?_,.tup rfl fun i p v hp hv=> ?_⟩⟩
      ·exact Qbd
      · rw[Wc] at he
        rw[Qq] at hq;split at he
        · rename_i hij
          subst hij;rw[hj] at he;cases he;rw[Qj rfl,Qj hjl] at hq;cases hq;exact⟨rfl,(hrel _ e' q hj m2).2⟩
        ·exact Qdw
      · simp[Instr.mapEntry,Xc t1,hρ,e2.1,MapKept.run_getObj_map hh,MapKept.run_checkKey t2 (uM hk) _ 9999,MapKept.run_findKey t2 m4',hj,m5,MapKept.run_keyThatStays (uM hk),MapKept.run_setObj_map _ hh,Result.andThen,w']
      · match i with
        |0=>simp at hp hv;subst hp;subst hv;exact(hrel _ e' q hj m2).2.ext x1
        |1=>simp at hp hv;subst hp;subst hv;rw[hborn.2.2 _ e' hj];exact .sc (hnum _ Qf0)
        |i+2=>simp at hp
  · rename_i t m s x hop
    split at he
    case h_2=>cases he
    rename_i r n hfm hfs;split at he
    case h_2=>cases he
    rename_i es hb;split at he
    case h_2=>cases he
    rename_i q hq0;split at he
    case isFalse=>cases he
    rename_i hn;cases he;have h1:=hx m Qh6;have h2:=hx s Qh6;have h3:=hx x Qh6;rw[hfm] at h1;rw[hfs] at h2;have e2:ρ s= .int .i64 n:=by generalize ρ s=u at h2;cases h2;rfl
    obtain⟨b,hρ,hp⟩: ∃b,ρ m= .map (some b)/\S.φ[r]? =some (.map (some b)):=Qhw;obtain⟨b',clock,ar,he',hh,hsz,hborn,hrel⟩:=hS.blks r _ _ hb hp;cases he';have hzr: ∀(w':World),(∀k,k≠b->w'.heap[k]? =S.w.heap[k]?)-> ∀b m,S.Row b m->St.Row {S with w:=w'} b m:=by
      exact Qeu
    obtain⟨j,rfl⟩:=Qm hn;rw[Xw] at hq0;have hjl:j<ar.size:=by rw[hsz];exact(gsi hq0).1
    have hj:=Qx hjl;have hfi:ar.findIdx? (fun e=>(e.born:Int)==(j:Int))=some j:=by
      rw[Array.findIdx?_eq_some_iff_getElem];refine⟨hjl,by simp[hborn.2.2 j _ hj],fun i hi=> ?_⟩;have:=hborn.2.2 i _ (Qx (Nat.lt_trans hi hjl));simp[this];omega
    let w':World:={S.w with heap:=S.w.heap.setIfInBounds b (.map (ar.modify j fun e=>{e with val:=ρ x}) clock)}
    have hw: ∀k,k≠b->w'.heap[k]? =S.w.heap[k]? :=fun k hk=>(MapKept.heap_set hh).2 k hk;rw[hop];refine⟨S.φ,w',oP hS hp hb rfl ztC rfl Qf8 hw (hzr _ hw),ydW hS hp hb rfl ztC rfl Qf8 hw (hzr _ hw) (MapKept.heap_set hh).1 Qfi ⟨by simp[hborn.1],fun q' hq=>(Ze hq).elim (hborn.2.1 q') (fun h=>by subst h;exact hborn.2.1 q (Qk hq0)),fun i e he=> ?_⟩ (fun i e q' he hq=> ?_),.inr ⟨?_,rfl⟩⟩
    · rw[Wc] at he
      split at he
      · rename_i hij
        subst hij;rw[hj] at he;cases he;exact hborn.2.2 j ar[j] hj
      · exact hborn.2.2 i e he
    · rw[Wc] at he
      rw[Xw,Qq] at hq;split at he
      · rename_i hij
        subst hij;rw[hj] at he;cases he;rw[Qj rfl,Qj Qf0] at hq;cases hq;exact⟨(hrel _ _ q hj hq0).1,h3⟩
      ·exact Qdw
    · simp[Instr.entryStore,hρ,e2,asInt,asIntOf,MapKept.run_getObj_map hh,hfi,MapKept.run_setObj_map _ hh,Result.andThen,w']
  · cases he
theorem OpOk.of_beff{G:Glob}{rd:Option Nat}{o:Oper}{h h':Heap}{f:Operand->PV}{p:PV}{R:PV->Heap->Prop}(he:zcL P h f o.op=some (p,h'))(hr:R p h'):
    OpOk P G rd o h f R:=by
  intro φ w X a K Q hS hG hx hK;have hd: ∀c,o.op≠ .defer c:=fun c hop=>by rw[hop] at he;simp[zcL] at he
  obtain⟨φ',w',x,hS',hrun⟩:=zj8 (P:=P) (S:=⟨φ,h,w,X⟩) (o:=o) (ρ:=a.eval) hS hx he;refine⟨fun f _=>trivial,?_⟩;rw[Oper.semAt_eq _ _ _ hd];rcases hrun with ⟨v,hrun,hv⟩|⟨hrun,rfl⟩
  · rw[hrun];exact hK φ' h' w' p v x hS' hv hr
  · rw[hrun];exact hK φ' h' w' .ud undef x hS' .ud hr
end
end Go.AL
namespace Go.AL
open Go.RowKit
structure Caller where
 fn:FuncId->List PV->Heap->Option (PV×Heap)
 yl:Nat->List PV->Heap->Option (PV×Heap)
def zU:Nat->PV->Bool
 |0,_=>false
 |f+1,p=>match p with
  | .un| .ud| .sc _| .nil=>true
  | .agg cs=>cs.all (zU f)
  | .tup cs=>cs.all (zU f)
  | .ts _ els=>els.all fun e=>e.all (zU f)
  | .tc _ els=>els.all fun e=>e.all (zU f)
  | .tp cs=>cs.all (zU f)
  | .fn _ a b=>a.all (zU f)&&b.all (zU f)
  | .ifc _ p=>zU f p
  |_=>false
theorem yP: ∀(f:Nat)(p:PV),zU f p=true->Tree p:=by
 intro f
 induction f with
 |zero=>intro p h;cases h
 |succ f ih=>
  intro p h;cases p<;>simp only[zU,Xg,Qt,reduceCtorEq] at h
  ·exact .un
  ·exact .ud
  ·exact .sc
  ·exact .nil
  ·exact .agg fun p hp=>ih p (h p hp)
  ·exact .tup fun p hp=>ih p (h p hp)
  ·exact .ts fun e he p hp=>ih p (h e he p hp)
  ·exact .tc fun e he p hp=>ih p (h e he p hp)
  ·exact .tp fun p hp=>ih p (h p hp)
  ·exact .fn (fun p hp=>ih p (h.1 p hp)) fun p hp=>ih p (h.2 p hp)
  ·exact .ifc (ih _ h)
theorem zjL(h:Heap): ∀(f:Nat)(p:PV),Tree (fz 0 h f p):=by
 intro f
 induction f with
 |zero=>intro p;exact .un
 | succ f ih=>
  have mp: ∀(cs:List PV), ∀p∈cs.map (fz 0 h f),Tree p:=fun cs p hp=>by
   obtain⟨q,_,rfl⟩:=Xf.1 hp;exact ih q
  have mpp: ∀(els:List (List PV)), ∀e∈els.map (fun e=>e.map (fz 0 h f)), ∀p∈e,Tree p:=fun els e he p hp=>by
   obtain⟨e',_,rfl⟩:=Xf.1 he;exact mp e' p hp
  intro p;cases p with
  |un=>exact .un
  |ud=>exact .ud
  |sc v=>exact .sc
  |nil=>exact .nil
  |agg cs=>exact .agg (mp cs)
  |tup cs=>exact .tup (mp cs)
  |ts k els=>exact .ts (mpp els)
  |tc k els=>exact .tc (mpp els)
  |vec r k els=>exact .ts (mpp els)
  | ms r off k len=>
   simp only[fz,Xt,Wr];split
   ·refine .ts fun e he p hp=> ?_;obtain⟨i,hi⟩:=Zq he;obtain⟨_,rfl⟩:=vN hi;exact mp _ p (List.mem_of_mem_drop (Zk hp))
   ·exact .un
  |ptr r off=>
   simp only[fz,Xt,Wr];split
   ·exact .tp (mp _)
   ·exact .un
  |tp cs=>exact .tp (mp cs)
  |fn g a b=>exact .fn (mp a) (mp b)
  |ifc t p=>exact .ifc (ih p)
  |mp r=>exact .un
  |yl r=>exact .un
  |it r=>exact .un
def uK{α:Type}(f:α->α->Bool):List α->List α->Bool
 | [],[]=>true
 |x::xs,y::ys=>f x y&&uK f xs ys
 |_,_=>false
theorem oB{α:Type}{f:α->α->Bool}(hf: ∀x y,f x y=true->x=y): ∀{l l':List α},uK f l l'=true->l=l':=by
 intro l
 induction l with
 |nil=>intro l' h;cases l'<;>simp_all[uK]
 | cons x xs ih=>
  intro l' h;cases l' with
  |nil=>simp[uK] at h
  |cons y ys=>
   simp only[uK,Qt] at h;rw[hf x y h.1,ih h.2]
def nU:Nat->PV->PV->Bool
 |0,_,_=>false
 |f+1,p,q=>match p,q with
  | .un,.un| .ud,.ud| .nil,.nil=>true
  | .sc v,.sc u=>sY v u
  | .agg a,.agg b=>uK (nU f) a b
  | .tup a,.tup b=>uK (nU f) a b
  | .ts k a,.ts k' b=>decide (k=k')&&uK (uK (nU f)) a b
  | .tc k a,.tc k' b=>decide (k=k')&&uK (uK (nU f)) a b
  | .vec r k a,.vec r' k' b=>decide (r=r')&&decide (k=k')&&uK (uK (nU f)) a b
  | .ms r o k n,.ms r' o' k' n'=>decide (r=r'/\o=o'/\k=k'/\n=n')
  | .ptr r o,.ptr r' o'=>decide (r=r'/\o=o')
  | .tp a,.tp b=>uK (nU f) a b
  | .fn g a b,.fn g' a' b'=>decide (g=g')&&uK (nU f) a a'&&uK (nU f) b b'
  | .ifc t p,.ifc t' q=>decide (t=t')&&nU f p q
  | .mp r,.mp r'=>decide (r=r')
  | .yl r,.yl r'=>decide (r=r')
  |_,_=>false
theorem eM: ∀(f:Nat)(p q:PV),nU f p q=true->p=q:=by
 intro f
 induction f with
 |zero=>intro p q h;cases h
 |succ f ih=>
  have il: ∀(a b:List PV),uK (nU f) a b=true->a=b:=fun a b h=>oB ih h;have ill: ∀(a b:List (List PV)),uK (uK (nU f)) a b=true->a=b:=fun a b h=>oB il h;intro p q h;unfold nU at h;split at h<;>(try simp only[Qt,Xm,reduceCtorEq] at h)<;>(try rfl)<;>(try(cases h;done))
  ·rw[jZ h]
  ·rw[il _ _ h]
  ·rw[il _ _ h]
  ·rw[h.1,ill _ _ h.2]
  ·rw[h.1,ill _ _ h.2]
  ·rw[h.1.1,h.1.2,ill _ _ h.2]
  ·obtain⟨rfl,rfl,rfl,rfl⟩:=h;rfl
  ·obtain⟨rfl,rfl⟩:=h;rfl
  ·rw[il _ _ h]
  ·rw[h.1.1,il _ _ h.1.2,il _ _ h.2]
  ·rw[h.1,ih _ _ h.2]
  ·rw[h]
  ·rw[h]
def zh4:Option Blk->Option Blk->Bool
 |some (.var t a),some (.var t' b)=>decide (t=t')&&uK (nU 40) a b
 |some (.vec e k n),some (.vec e' k' n')=>decide (e=e'/\k=k'/\n=n')
 |some (.map a),some (.map b)=>uK (fun x y=>sY x.1 y.1&&nU 40 x.2 y.2) a b
 |some .non,some .non=>true
 |none,none=>true
 |_,_=>false
theorem zgN{a b:Option Blk}(h:zh4 a b=true):a=b:=by
 unfold zh4 at h;split at h<;>(try simp only[Qt,Xm,reduceCtorEq] at h)<;>(try rfl)<;>(try(cases h;done))
 ·rw[h.1,oB (fun x y=>eM 40 x y) h.2]
 ·obtain⟨rfl,rfl,rfl⟩:=h;rfl
 ·have key: ∀x y:Value×PV,(sY x.1 y.1&&nU 40 x.2 y.2)=true->x=y:=by
   rintro⟨x1,x2⟩ ⟨y1,y2⟩ hxy;rw[Qt] at hxy;have e1:x1=y1:=jZ hxy.1;have e2:x2=y2:=eM 40 _ _ hxy.2;rw[e1,e2]
  rw[oB key h]
def YOk(P:Program)(G:Glob)(r:Nat)(args:List PV)(h:Heap)(p:PV)(h':Heap):Prop:=
 ∃ts ps as bd st pd,h[r]? =some (.loop ts ps as bd st pd)/\args.length=ps.length/\ ∀l,AWp P G (some l) as (fun e ts1 h1=>e= .normal/\
  ∃ts' ps' as' bd' pd1,h1[r]? =some (.loop ts' ps' as' bd' .ready pd1)/\AWp P G (some l) bd (ARound r fun q h2=>q=p/\h2=h') ts1 (h1.set r (.loop ts' ps' as' bd' .busy pd1))) (rput ts ps args) h
structure CallOk(P:Program)(G:Glob)(call:Caller):Prop where
 fn: ∀g args h p h',call.fn g args h=some (p,h')->ACall P G g args h fun q h2=>q=p/\h2=h'
 yl: ∀r args h p h',call.yl r args h=some (p,h')->YOk P G r args h p h'
section
variable(P:Program)(G:Glob)(call:Caller)(own:Bool)
def xcl(c:Call)(ts:List PV)(h:Heap):Option (PV×Heap):=
 match c.callee with
 | .value x=>match wV G ts x with
  | .fn (.func g) fst cap=>call.fn g (fst++c.args.toList.map (wV G ts)++cap) h
  | .yl r=>call.yl r (c.args.toList.map (wV G ts)) h
  |_=>none
 |_=>none
def xop(o:Oper)(ts:List PV)(h:Heap):Option (PV×Heap):=
 match (if own then aA P h (wV G ts) o.op else none) with
 |some r=>some r
 |none=>match wO (α:=Bool) P h (wV G ts) o.op with
 |some (p,true)=>some (p,h)
 |some (_,false)=>none
 | none=>match vA (α:=Bool) P h (wV G ts) o.op with
  |some (p,h',true)=>some (p,h')
  |some (_,_,false)=>none
  | none=>match zcL P h (wV G ts) o.op with
   |some r=>some r
   |none=>match o.op with
    | .call c=>xcl G call c ts h
    |_=>none
def zcK(ops:List Oper):List Oper->List PV->Heap->Option (List PV×Heap)
 | [],ts,h=>some (ts,h)
 | o ::rest,ts,h=>
  match o.guard with
  |none=>match xop P G call own o ts h with
   |some (p,h')=>zcK ops rest (zZ ts o.dst p) h'
   |none=>none
  | some (j,want)=>
   match zh9 ops ts j with
   | some (.sc (.bool b))=>if b=want then match xop P G call own o ts h with
     |some (p,h')=>zcK ops rest (zZ ts o.dst p) h'
     |none=>none
    else zcK ops rest (zZ ts o.dst .ud) h
   |some .ud=>zcK ops rest (zZ ts o.dst .ud) h
   |_=>none
def zcR:Option Blk->Bool
 |some .non=>true
 |_=>false
def zcO(n0:Nat)(t0:List PV)(d:DAnn)(o:Oper)(ts:List PV)(h:Heap):Option (PV×Heap):=
 match d.cl with
 |0=>match pA (α:=Bool) P (wV G ts) o.op with
  |some (p,true)=>some (p,h)
  |_=>none
 |1=>match wO (α:=Bool) P (rI (d.fb.map (nu n0 t0)) h) (wV G ts) o.op with
  |some (p,true)=>some (p,h)
  |_=>none
 | 2=>if zcR (h[nu n0 t0 d.slot]?) then match vH (α:=Bool) P (nu n0 t0 d.slot) (wV G ts) o.op with
   |some (p,b,true)=>some (p,h.set (nu n0 t0 d.slot) b)
   |_=>none
  else none
 | 3 =>match o.op with
  | .call c=>match c.callee with
   | .value x=>match wV G ts x with
    | .fn (.func g) fst cap=>if (fst++c.args.toList.map (wV G ts)++cap).all (zU 40) then
      match call.fn g (fst++c.args.toList.map (wV G ts)++cap) [] with
      |some (p,[])=>if zU 40 p then some (p,h) else none
      |_=>none
     else none
    |_=>none
   |_=>none
  |_=>none
 | 5 =>match o.op with
  | .store t a x=>match wV G ts a with
   | .ptr r _=>if r=nu n0 t0 d.slot then match vA (α:=Bool) P h (wV G ts) (.store t a x) with
     |some (p,h',true)=>some (p,h')
     |_=>none
    else none
   |_=>none
  |_=>none
 |6=>match xop P G call own o ts (rI (kI n0 t0 d.fb) h) with
  | some (p,h0)=>if (kI n0 t0 d.fb).all (fun r=>decide (r<h.length)&&zcR (h0[r]?))&&o.op.operands.toList.all (fun x=>zg4 (kI n0 t0 d.fb) 40 (wV G ts x))&&za4 (kI n0 t0 d.fb) 40 h&&
    d.fb.all (fun k=>decide (k<1000)||zh4 ((xV (kI n0 t0 d.fb) h h0)[nu n0 t0 k]?) (h[nu n0 t0 k]?)) then some (p,xV (kI n0 t0 d.fb) h h0) else none
  |none=>none
 |7=>match wO (α:=Bool) P (only (d.fb.map (nu n0 t0)) h) (wV G ts) o.op with
  |some (p,true)=>some (p,h)
  |_=>none
 |_=>xop P G call own o ts h
def xdgd(n0:Nat)(t0:List PV)(d:DAnn)(ops:List Oper)(o:Oper)(ts:List PV)(h:Heap):Option (PV×Heap):=
 match o.guard with
 |none=>zcO P G call own n0 t0 d o ts h
 |some (j,want)=>match zh9 ops ts j with
  |some (.sc (.bool b))=>if b=want then zcO P G call own n0 t0 d o ts h else some (.ud,h)
  |some .ud=>some (.ud,h)
  |_=>none
def zcN(n0:Nat)(t0:List PV)(ann:Nat->DAnn)(ops:List Oper):List Nat->List PV->Heap->Option (List PV×Heap)
 | [],ts,h=>some (ts,h)
 | i::r,ts,h=>match ops[i]? with
  |some o=>match xdgd P G call own n0 t0 (ann i) ops o ts h with
   |some (p,h')=>zcN n0 t0 ann ops r (zZ ts o.dst p) h'
   |none=>none
  |none=>none
def wW(top:Bool):Nat->Code->List PV->Heap->Option (Exit×List PV×Heap)
 |0,_,_,_=>none
 | n + 1,c,ts,h=>match c with
  | .skip=>some (.normal,ts,h)
  | .label _=>some (.normal,ts,h)
  | .exit id=>some (.exit id,ts,h)
  | .ret=>some (.ret,ts,h)
  | .region _ ops false=>match zcK P G call own ops.toList ops.toList ts h with
   |some (ts',h')=>some (.normal,ts',h')
   |none=>none
  | .region _ ops true=>if (dE ops.toList).good ops.toList then
    match zcN P G call own h.length ts (dE ops.toList).at ops.toList (dE ops.toList).ord ts (rY h (dE ops.toList).places) with
    |some (ts',h')=>some (.normal,ts',h')
    |none=>none
   else none
  | .seq a b=>match wW top n a ts h with
   |some (.normal,ts',h')=>wW top n b ts' h'
   |r=>r
  | .cond x a b=>match wV G ts x with
   | .sc (.bool true)=>wW top n a ts h
   | .sc (.bool false)=>wW top n b ts h
   |_=>none
  | .block id c=>match wW top n c ts h with
   |some (.exit id',ts',h')=>if id'=id then some (.normal,ts',h') else some (.exit id',ts',h')
   |r=>r
  | .loop c=>match wW top n c ts h with
   |some (.normal,ts',h')=>wW top n (.loop c) ts' h'
   |r=>r
  | .rangeFunc g ps as bd=>if top then match wV G ts g with
    | .fn (.func f) fst cap=>match call.fn f (fst++[.yl h.length]++cap) (h++[.loop ts ps.toList as bd .ready none]) with
     | some (_,h1)=>match h1[h.length]? with
      |some (.loop ts' ps' as' bd' st pd)=>if st= .busy then none else match pd with
       |none=>some (.normal,ts,h1.set h.length (.loop ts' ps' as' bd' .exhausted none))
       |some .ret=>some (.ret,ts,h1.set h.length (.loop ts' ps' as' bd' .exhausted (some .ret)))
       |some (.exit id)=>some (.exit id,ts,h1.set h.length (.loop ts' ps' as' bd' .exhausted (some (.exit id))))
       |_=>none
      |_=>none
     |none=>none
    |_=>none
   else none
  |_=>none
end
def zkY(P:Program)(G:Glob)(keep:Bool)(fn:Func)(h:Heap):Option (Exit×List PV×Heap)->Option (PV×Heap)
 |some (.normal,ts,h')|some (.ret,ts,h')=>match nV (α:=Bool) P ts h' fn.results.toList with
  |some (p,true)=>if keep then some (p,h') else some (fz h.length h' 40 p,zk3 h.length h' 40)
  |_=>none
 |_=>none
def zg5(r:Nat):Option (Exit×List PV×Heap)->Option (PV×Heap)
 | some (e,_,h)=>match h[r]? with
  |some (.loop ts ps as bd _ _)=>match e with
   | .normal=>some (.sc (.bool true),h.set r (.loop ts ps as bd .ready none))
   | .ret=>some (.sc (.bool false),h.set r (.loop ts ps as bd .done (some .ret)))
   | .exit id=>some (.sc (.bool false),h.set r (.loop ts ps as bd .done (some (.exit id))))
   |_=>none
  |_=>none
 |none=>none
def xyl(P:Program)(G:Glob)(call:Caller)(L r:Nat)(args:List PV)(h:Heap):Option (PV×Heap):=
 match h[r]? with
 | some (.loop ts ps as bd _ _)=>if args.length=ps.length then
   match wW P G call false false L as (rput ts ps args) h with
   |some (.normal,ts1,h1)=>match h1[r]? with
    |some (.loop ts' ps' as' bd' .ready pd1)=>zg5 r (wW P G call false false L bd ts1 (h1.set r (.loop ts' ps' as' bd' .busy pd1)))
    |_=>none
   |_=>none
  else none
 |_=>none
def xfn(P:Program)(G:Glob)(keep own:FuncId->Bool)(call:Caller)(L:Nat)(g:FuncId)(args:List PV)(h:Heap):Option (PV×Heap):=
 match P.funcs[g]? with
 | some fn=>match fn.body with
  | some c=>if uG P g then
    if !keep g&&args.all (zU 40) then
     match zkY P G false fn [] (wW P G call (own g) true L c (args++List.replicate (fn.ntmps-args.length) .ud) []) with
     |some (p,[])=>if zU 40 p then some (p,h) else none
     |_=>none
    else zkY P G (keep g) fn h (wW P G call (own g) true L c (args++List.replicate (fn.ntmps-args.length) .ud) h)
   else none
  |none=>none
 |none=>none
section
variable{P:Program}{G:Glob}{call:Caller}{rd:Option Nat}{own:Bool}
theorem aY{h:Heap}{f:Operand->PV}{op:Op}(e:wO (α:=Bool) P h f op=none):wO (α:=Prop) P h f op=none:=by
 have k:=bN P h f op;rw[e] at k;cases hc:wO (α:=Prop) P h f op with
 |none=>rfl
 |some r=>rw[hc] at k;exact k.elim
theorem zeN{h:Heap}{f:Operand->PV}{op:Op}(e:vA (α:=Bool) P h f op=none):vA (α:=Prop) P h f op=none:=by
 have k:=zcF P h f op;rw[e] at k;cases hc:vA (α:=Prop) P h f op with
 |none=>rfl
 |some r=>rw[hc] at k;exact k.elim
theorem zlJ(hc:CallOk P G call){o:Oper}{c:Call}(ho:o.op= .call c){ts:List PV}{h h':Heap}{p:PV}(e:xcl G call c ts h=some (p,h')):OpOk P G rd o h (wV G ts) fun q h2=>q=p/\h2=h':=by
 unfold xcl at e;split at e
 ·rename_i x hx;split at e
  ·rename_i g fst cap hf;exact .call ho hx hf (hc.fn _ _ _ _ _ e)
  ·rename_i r hf;obtain⟨ts0,ps,as,bd,st,pd,hb,hl,k⟩:=hc.yl _ _ _ _ _ e;exact .yield ho hx hf hb Qfu k
  ·cases e
 ·cases e
theorem mJ(hc:CallOk P G call){o:Oper}{ts:List PV}{h h':Heap}{p:PV}(e:xop P G call own o ts h=some (p,h')){K:PV->Heap->Prop}(k:K p h'):OpOk P G rd o h (wV G ts) K:=by
 unfold xop at e;split at e
 ·rename_i r hr;cases e;split at hr
  ·exact .of_ownA hr k
  ·cases hr
 refine AStep.ok ?_;unfold AStep;split at e
 ·rename_i q hq;cases e;obtain⟨c,h1,h2⟩:=qY hq;rw[h1];exact⟨h2,k⟩
 ·cases e
 ·rename_i hq;rw[aY hq];split at e
  ·rename_i q hh hq;cases e;obtain⟨c,h1,h2⟩:=lV hq;rw[h1];exact⟨h2,k⟩
  ·cases e
  ·rename_i hq;rw[zeN hq];split at e
   ·rename_i r hr;cases e;exact .of_beff hr k
   ·split at e
    ·rename_i c ho;refine(zlJ hc ho e).mono ?_;rintro _ _ ⟨rfl,rfl⟩;exact k
    ·cases e
theorem ziF(hc:CallOk P G call){ops:List Oper}: ∀(rest:List Oper)(ts:List PV)(h:Heap)(ts':List PV)(h':Heap),zcK P G call own ops rest ts h=some (ts',h')-> ∀(Q:List PV->Heap->Prop),Q ts' h'->SReg P G rd ops rest Q ts h:=by
 intro rest
 induction rest with
 |nil=>intro ts h ts' h' e Q hq;cases e;exact hq
 | cons o rest ih=>
  intro ts h ts' h' e Q hq;simp only[zcK] at e;simp only[SReg];cases hg:o.guard with
  | none=>
   rw[hg] at e;simp only[] at e ⊢
   exact Qdo
  | some jw=>
   obtain⟨j,want⟩:=jw;rw[hg] at e;simp only[] at e ⊢
   split at e
   ·rename_i b hb;rw[hb];simp only[];split at e
    ·rename_i hbw;refine⟨fun _=> ?_,fun hne=>absurd hbw hne⟩;exact Qdo
    ·rename_i hbw;exact⟨fun h=>absurd h hbw,fun _=>ih _ _ _ _ e Q hq⟩
   ·rename_i hb;rw[hb];exact ih _ _ _ _ e Q hq
   ·cases e
theorem zaD{f:Operand->PV}{op:Op}{p:PV}(e:pA P f op=some (p,true)): ∃c:Prop,pA P f op=some (p,c)/\c:=by
 have via:(vA (α:=Bool) P [] f op).map (fun r=>(r.1,r.2.2))=some (p,true)-> ∃c:Prop,(vA (α:=Prop) P [] f op).map (fun r=>(r.1,r.2.2))=some (p,c)/\c:=by
  intro e;cases hr:vA (α:=Bool) P [] f op with
  |none=>rw[hr] at e;cases e
  |some r=>
   obtain⟨q,h0,b⟩:=r;rw[hr] at e;cases e;obtain⟨c,h1,h2⟩:=lV hr;exact⟨c,by rw[h1];rfl,h2⟩
 cases op with
 |build t ps=>exact via e
 |buildSlice t n ps=>exact via e
 |_=>simp only[pA] at e ⊢;exact qY e
theorem cG(hc:CallOk P G call){n0:Nat}{t0:List PV}{d:DAnn}{o:Oper}{ts:List PV}{h h':Heap}{p:PV}(e:zcO P G call own n0 t0 d o ts h=some (p,h')):DOpr P G rd n0 t0 d o ts h p h':=by
 unfold zcO at e;unfold DOpr;generalize d.cl=k at e ⊢
 split at e
 ·split at e
  ·rename_i q hq;cases e;obtain⟨c,h1,h2⟩:=zaD hq;exact⟨rfl,c,h1,h2⟩
  ·cases e
 ·exact Qct
 ·split at e
  ·rename_i hn;split at e
   ·rename_i q b hq;cases e;obtain⟨c,h1,h2⟩:=zd2 hq;refine⟨?_,b,c,h1,h2,rfl⟩;unfold zcR at hn;split at hn
    ·assumption
    ·cases hn
   ·cases e
  ·cases e
 ·split at e
  ·rename_i c ho;split at e
   ·rename_i x hx;split at e
    ·rename_i g fst cap hf;split at e
     ·rename_i ht;split at e
      ·rename_i q hq;split at e
       ·rename_i htq;cases e;rw[Xg] at ht;exact⟨rfl,c,x,g,fst,cap,ho,hx,hf,hc.fn _ _ _ _ _ hq,fun q hq=>yP _ _ (ht q hq),yP _ _ htq⟩
       ·cases e
      ·cases e
     ·cases e
    ·cases e
   ·cases e
  ·cases e
 ·split at e
  ·rename_i t a x ho;split at e
   ·rename_i r off ha;split at e
    ·rename_i hr;split at e
     ·rename_i q hh hq;cases e;obtain⟨c,h1,h2⟩:=lV hq;exact⟨t,a,x,off,c,ho,hr▸ha,h1,h2⟩
     ·cases e
    ·cases e
   ·cases e
  ·cases e
 ·split at e
  ·rename_i q hh hq;split at e
   ·rename_i hall;cases e;simp only[Qt,Xg,Xm,Ka] at hall;obtain⟨⟨⟨a1,a2⟩,a3⟩,a4⟩:=hall;refine⟨⟨hh,mJ (K:=fun q h2=>q=p/\h2=hh) hc hq ⟨rfl,rfl⟩,fun r hr=>(a1 r hr).1,fun r hr=> ?_,fun x hx=>dO 40 _ (a2 x Qfz),zeG a3,rfl⟩,fun k hk hge=>zgN ((a4 k hk).resolve_left Qf0)⟩;have:=(a1 r hr).2;unfold zcR at this;split at this
    ·assumption
    ·cases this
   ·cases e
  ·cases e
 ·exact Qct
 ·split;all_goals first
   |exact absurd rfl Qfg
   |exact(mJ (K:=fun q h2=>q=p/\h2=h') hc e ⟨rfl,rfl⟩)
theorem zeZ(hc:CallOk P G call){n0:Nat}{t0:List PV}{ann:Nat->DAnn}{ops:List Oper}: ∀(ρ:List Nat)(ts:List PV)(h:Heap)(ts':List PV)(h':Heap),zcN P G call own n0 t0 ann ops ρ ts h=some (ts',h')->DRun P G rd n0 t0 ann ops ρ (ts,h) (ts',h'):=by
 intro ρ
 induction ρ with
 |nil=>intro ts h ts' h' e;cases e;rfl
 | cons i r ih=>
  intro ts h ts' h' e;simp only[zcN] at e;split at e
  ·rename_i o ho;split at e
   ·rename_i p h1 hx;refine⟨_,⟨o,p,h1,ho,?_,rfl⟩,ih _ _ _ _ e⟩;unfold xdgd at hx;unfold DGd;simp only[];split at hx
    ·rename_i hg;rw[hg];exact cG hc hx
    ·rename_i j want hg;rw[hg];simp only[];split at hx
     ·rename_i b hb;rw[hb];simp only[];split at hx
      ·rename_i hbw;exact .inl ⟨hbw,cG hc hx⟩
      ·rename_i hbw;cases hx;exact .inr ⟨hbw,rfl,rfl⟩
     ·rename_i hb;rw[hb];cases hx;exact⟨rfl,rfl⟩
     ·cases hx
   ·cases e
  ·cases e
theorem mK(hm:P.follows .mixedOrders=true)(hG:GTree G)(hc:CallOk P G call){top:Bool}(ht:top=true->rd=none): ∀(n:Nat)(c:Code)(ts:List PV)(h:Heap)(e:Exit)(ts':List PV)(h':Heap),wW P G call own top n c ts h=some (e,ts',h')->
  ∀(Q:Exit->List PV->Heap->Prop),Q e ts' h'->AWp P G rd c Q ts h:=by
 intro n
 induction n using Nat.strongRecOn with
 |_ n ih0=>
 cases n with
 |zero=>intro c ts h e ts' h' he;cases he
 | succ n=>
  have ih:=ih0 n (Nat.lt_succ_self n);intro c ts h e ts' h' he Q hq;cases c with
  |skip=>simp only[wW] at he;cases he;exact mU hq
  |label l=>simp only[wW] at he;cases he;exact oI hq
  |exit id=>simp only[wW] at he;cases he;exact mW hq
  |ret=>simp only[wW] at he;cases he;exact jB hq
  | region id ops draw=>
   cases draw with
   | false=>
    simp only[wW] at he;split at he
    ·rename_i t1 h1 hx;cases he;have:=rM (id:=id) (ziF (rd:=rd) hc _ _ _ _ _ hx (Q .normal) hq);simpa using this
    ·cases he
   | true=>
    simp only[wW] at he;split at he
    ·rename_i hg;split at he
     ·rename_i t1 h1 hx;cases he;obtain⟨hp,hl,hall⟩:=cP hg;have:=bM hm hG (id:=id) hp hl hall _ (Q:=Q) ⟨_,zeZ (rd:=rd) hc _ _ _ _ _ hx,hq⟩;simpa using this
     ·cases he
    ·cases he
  | seq a b=>
   simp only[wW] at he;refine lH ?_;split at he
   ·rename_i t1 h1 hx;exact ih a ts h _ _ _ hx _ (ih b t1 h1 _ _ _ he Q hq)
   ·rename_i hne;refine ih a ts h _ _ _ he _ ?_;cases e with
    |normal=>exact absurd he (hne _ _)
    |_=>exact hq
  | cond x a b=>
   simp only[wW] at he;split at he
   ·rename_i hx;exact qQ hx (fun _=>ih a ts h _ _ _ he Q hq) (fun h=>by cases h)
   ·rename_i hx;exact qQ hx (fun h=>by cases h) (fun _=>ih b ts h _ _ _ he Q hq)
   ·cases he
  | block id c=>
   simp only[wW] at he;refine oK ?_;split at he
   ·rename_i id' t1 h1 hx;refine ih c ts h _ _ _ hx _ ?_;simp only[ABlock];split at he
    ·rename_i e1;rw[Qj e1];cases he;exact hq
    ·rename_i e1;rw[Qi e1];cases he;exact hq
   ·rename_i hne;refine ih c ts h _ _ _ he _ ?_;cases e with
    |exit id'=>exact absurd he (hne _ _ _)
    |_=>exact hq
  | loop c=>
   refine mV (fun m ts h=>m<=n+1/\wW P G call own top m (.loop c) ts h=some (e,ts',h')) (n+1) ⟨Xe _,he⟩ ?_;rintro m t h ⟨hle,hx⟩;cases m with
   |zero=>cases hx
   | succ m=>
    have ihm:=ih0 m Qf0;simp only[wW] at hx;split at hx
    ·rename_i t1 h1 hy;exact ihm c t h _ _ _ hy _ ⟨m,Qf0,Qf0,hx⟩
    ·rename_i hne;refine ihm c t h _ _ _ hx _ ?_;cases e with
     |normal=>exact absurd hx (hne _ _)
     |_=>exact hq
  | rangeFunc g ps as bd=>
   simp only[wW] at he;split at he
   ·rename_i htop;have hrd:=ht htop;subst hrd;split at he
    ·rename_i f fst cap hg;split at he
     ·rename_i q h1 hx;refine nF hg ((hc.fn _ _ _ _ _ hx).mono ?_);rintro _ _ ⟨rfl,rfl⟩;split at he
      ·rename_i ts1 ps1 as1 bd1 st1 pd1 hb;split at he
       ·cases he
       ·rename_i hst;refine⟨ts1,ps1,as1,bd1,st1,pd1,hb,hst,?_⟩;split at he
        ·cases he;exact hq
        ·cases he;exact hq
        ·cases he;exact hq
        ·cases he
      ·cases he
     ·cases he
    ·cases he
   ·cases he
  |_=>simp only[wW] at he;cases he
theorem zeH{ts:List PV}{h:Heap}{xs:List ResultVar}{p:PV}(e:nV P ts h xs=some (p,true)): ∃c:Prop,nV P ts h xs=some (p,c)/\c:=by
 have k1: ∀x,CkRel (nW P ts h x) (nW P ts h x):=by
  intro x;unfold nW;repeat' split
  all_goals first|exact zT|exact xB _ _|exact zhZ _ _ _
 have kL: ∀xs,CkRel (qD P ts h xs) (qD P ts h xs):=by
  intro xs
  induction xs with
  |nil=>exact xB _ _
  | cons x xs ih=>
   simp only[qD];have h1:=k1 x;rcases hb:nW (α:=Bool) P ts h x with _|⟨p,b⟩<;>rcases hp:nW (α:=Prop) P ts h x with _|⟨p',c⟩<;>rw[hb,hp] at h1
   ·exact zT
   ·exact h1.elim
   ·exact h1.elim
   ·obtain⟨rfl,h1⟩:=h1;rcases hb2:qD (α:=Bool) P ts h xs with _|⟨ps,b'⟩<;>rcases hp2:qD (α:=Prop) P ts h xs with _|⟨ps',c'⟩<;>rw[hb2,hp2] at ih
    ·exact zT
    ·exact ih.elim
    ·exact ih.elim
    ·obtain⟨rfl,ih⟩:=ih;exact⟨rfl,rT h1 ih⟩
 have h1:=kL xs;unfold nV at e ⊢
 rcases hb:qD (α:=Bool) P ts h xs with _|⟨ps,b⟩<;>rcases hp:qD (α:=Prop) P ts h xs with _|⟨ps',c⟩<;>rw[hb,hp] at h1
 ·rw[hb] at e;cases e
 ·exact h1.elim
 ·exact h1.elim
 ·obtain⟨rfl,h1⟩:=h1;rw[hb] at e;split at e
  ·rename_i q d hq;cases hq;cases e;exact⟨c,rfl,h1 rfl⟩
  ·rename_i qs d hne hq;cases hq;cases e;refine⟨c,?_,h1 rfl⟩;split
   ·rename_i q d hq;cases hq;exact(hne _ rfl).elim
   ·rename_i qs d hne' hq;cases hq;rfl
   ·rename_i hq;cases hq
  ·rename_i hq;cases hq
theorem za6{keep:Bool}{fn:Func}{g:FuncId}{args:List PV}{c:Code}{L:Nat}{h h':Heap}{p:PV}(hm:P.follows .mixedOrders=true)(hG:GTree G)(hc:CallOk P G call)(hf:P.funcs[g]? =some fn)(hb:fn.body=some c)
  (hen:uG P g=true) (e:zkY P G keep fn h (wW P G call own true L c (args++List.replicate (fn.ntmps-args.length) .ud) h)=some (p,h')):ACall P G g args h fun q h2=>q=p/\h2=h':=by
 rcases hx:wW P G call own true L c (args++List.replicate (fn.ntmps-args.length) .ud) h with _|⟨ex,ts,h1⟩
 ·rw[hx] at e;cases e
 ·rw[hx] at e;have fin:(match nV (α:=Bool) P ts h1 fn.results.toList with
    |some (p,true)=>if keep then some (p,h1) else some (fz h.length h1 40 p,zk3 h.length h1 40)
    |_=>none)=some (p,h')->(∀(R:PV->Heap->Prop),(match nV (α:=Prop) P ts h1 fn.results.toList with|some (p,c)=>c/\R p h1|none=>False)->AEnd P fn R ex ts h1)->ACall P G g args h fun q h2=>q=p/\h2=h':=by
   intro e hR;split at e
   ·rename_i q hq;obtain⟨cc,k1,k2⟩:=zeH hq;split at e
    ·cases e;refine uF hf hb hen (mK (rd:=none) hm hG hc (fun _=>rfl) _ _ _ _ _ _ _ hx _ (hR _ ?_));rw[k1];exact⟨k2,rfl,rfl⟩
    ·cases e;refine ACall.cut h.length 40 (Xe _) (uF hf hb hen (mK (rd:=none) hm hG hc (fun _=>rfl) _ _ _ _ _ _ _ hx _ (hR _ ?_)));rw[k1];exact⟨k2,rfl,rfl⟩
   ·cases e
  cases ex with
  |normal=>exact fin e fun R hr=>hr
  |ret=>exact fin e fun R hr=>hr
  |_=>simp only[zkY] at e;cases e
theorem zlI(hm:P.follows .mixedOrders=true)(hG:GTree G)(hc:CallOk P G call){keep ow:FuncId->Bool}{L:Nat}{g:FuncId}{args:List PV}{h h':Heap}{p:PV}(e:xfn P G keep ow call L g args h=some (p,h')):
  ACall P G g args h fun q h2=>q=p/\h2=h':=by
 unfold xfn at e;split at e
 ·rename_i fn hf;split at e
  ·rename_i c hb;split at e
   ·rename_i hen;split at e
    ·rename_i hpure;rw[Qt,Xg] at hpure;split at e
     ·rename_i q hx;split at e
      ·rename_i ht;cases e;exact Pure.frame (za6 hm hG hc hf hb hen hx) (fun q hq=>yP _ _ (hpure.2 q hq)) (yP _ _ ht) hG h
      ·cases e
     ·cases e
    ·exact za6 hm hG hc hf hb hen e
   ·cases e
  ·cases e
 ·cases e
theorem zlH(hm:P.follows .mixedOrders=true)(hG:GTree G)(hc:CallOk P G call){L r:Nat}{args:List PV}{h h':Heap}{p:PV}(e:xyl P G call L r args h=some (p,h')):YOk P G r args h p h':=by
 unfold xyl at e;split at e
 ·rename_i ts ps as bd st pd hb;split at e
  ·rename_i hl;refine⟨ts,ps,as,bd,st,pd,hb,hl,fun l=> ?_⟩;split at e
   ·rename_i ts1 h1 hx;refine mK (rd:=some l) hm hG hc (fun h=>by cases h) _ _ _ _ _ _ _ hx _ ⟨rfl,?_⟩;split at e
    ·rename_i ts' ps' as' bd' pd1 hb1;refine⟨ts',ps',as',bd',pd1,hb1,?_⟩;rcases hy:wW P G call false false L bd ts1 (h1.set r (.loop ts' ps' as' bd' .busy pd1)) with _|⟨ex,ts2,h2⟩
     ·rw[hy] at e;cases e
     ·rw[hy] at e;refine mK (rd:=some l) hm hG hc (fun h=>by cases h) _ _ _ _ _ _ _ hy _ ?_;simp only[zg5] at e;split at e
      ·rename_i ts4 ps4 as4 bd4 st4 pd4 hb4;refine⟨ts4,ps4,as4,bd4,st4,pd4,hb4,?_⟩;split at e
       ·cases e;exact⟨rfl,rfl⟩
       ·cases e;exact⟨rfl,rfl⟩
       ·cases e;exact⟨rfl,rfl⟩
       ·cases e
      ·cases e
    ·cases e
   ·cases e
  ·cases e
 ·cases e
end
end Go.AL
namespace Go.AL
open Go.RowKit
inductive SR where
 |val (p:PV) (h:Heap) (c:Prop)
 |call (g:FuncId) (args:List PV)
 |no
section
variable(P:Program)(G:Glob)(rd:Option Nat)(own:Bool)
def oL(op:Op)(f:Operand->PV):Option (FuncId×List PV):=
 match op with
 | .call c=>match c.callee with
  | .value x=>match f x with
   | .fn (.func g) fst cap=>some (g,fst++c.args.toList.map f++cap)
   |_=>none
  |_=>none
 |_=>none
def qC(op:Op)(f:Operand->PV)(h:Heap):SR:=
 match (if own then aA P h f op else none) with
 |some (p,h')=> .val p h' True
 | none=>match wO (α:=Prop) P h f op with
  |some (p,c)=> .val p h c
  | none=>match vA (α:=Prop) P h f op with
   |some (p,h',c)=> .val p h' c
   | none=>match zcL P h f op with
    |some (p,h')=> .val p h' True
    |none=>match oL op f with
     |some (g,args)=> .call g args
     |none=> .no
def sK(ds:List (Option Tmp))(ts:List PV)(j:Nat):Option PV:=(ds.getD j none).map (ts.getD · .un)
def vU(ds:List (Option Tmp))(o:Oper)(ts:List PV)(h:Heap):SR:=
 match o.guard with
 |none=>qC P own o.op (wV G ts) h
 |some (j,want)=>match sK ds ts j with
  |some (.sc (.bool b))=>if b=want then qC P own o.op (wV G ts) h else .val .ud h True
  |some .ud=> .val .ud h True
  |_=> .no
mutual
def AR(ds:List (Option Tmp)):List Oper->(List PV->Heap->Prop)->List PV->Heap->Prop
 | [],Q,ts,h=>Q ts h
 |o::rest,Q,ts,h=>AGo ds rest Q o.dst ts h (vU P G own ds o ts h)
def AGo(ds:List (Option Tmp)):List Oper->(List PV->Heap->Prop)->Option Tmp->List PV->Heap->SR->Prop
 |rest,Q,dst,ts,_,.val p h' c=>c/\AR ds rest Q (zZ ts dst p) h'
 |rest,Q,dst,ts,h,.call g args=>ACall P G g args h fun p h'=>AR ds rest Q (zZ ts dst p) h'
 |_,_,_,_,_,.no=>False
end
def awp:Code->(Exit->List PV->Heap->Prop)->List PV->Heap->Prop
 | .skip,Q,ts,h=>Q .normal ts h
 | .label _,Q,ts,h=>Q .normal ts h
 | .exit id,Q,ts,h=>Q (.exit id) ts h
 | .ret,Q,ts,h=>Q .ret ts h
 | .region _ ops false,Q,ts,h=>AR P G own (ops.toList.map (·.dst)) ops.toList (Q .normal) ts h
 | .seq a b,Q,ts,h=>awp a (AThen (awp b Q) Q) ts h
 | .cond x a b,Q,ts,h=>match wV G ts x with
  | .sc (.bool t)=>if t=true then awp a Q ts h else awp b Q ts h
  |_=>False
 | .block id c,Q,ts,h=>awp c (ABlock id Q) ts h
 |c,Q,ts,h=>AWp P G rd c Q ts h
variable{P G rd own}
theorem zeB{o:Oper}{ts:List PV}{h:Heap}{K:PV->Heap->Prop}{g:FuncId}{args:List PV}(he:oL o.op (wV G ts)=some (g,args))(k:ACall P G g args h K):OpOk P G rd o h (wV G ts) K:=by
 unfold oL at he;split at he
 case h_2=>cases he
 rename_i c ho;split at he
 case h_2=>cases he
 rename_i x hc;split at he
 case h_2=>cases he
 rename_i g' fst cap hx;cases he;exact .call ho hc hx k
def SR.Ok(P:Program)(G:Glob)(h:Heap)(K:PV->Heap->Prop):SR->Prop
 | .val p h' c=>c/\K p h'
 | .call g args=>ACall P G g args h K
 | .no=>False
theorem uI{o:Oper}{ts:List PV}{h:Heap}{K:PV->Heap->Prop}(k:(qC P own o.op (wV G ts) h).Ok P G h K):OpOk P G rd o h (wV G ts) K:=by
 unfold qC at k;split at k
 ·rename_i p h' he;split at he
  ·exact .of_ownA he k.2
  ·cases he
 ·split at k
  ·rename_i p c he;exact .of_pure he k.1 k.2
  ·split at k
   ·rename_i p h' c he;exact .of_eff he k.1 k.2
   ·split at k
    ·rename_i p h' he;exact .of_beff he k.2
    ·split at k
     ·rename_i g args he;exact zeB he k
     ·exact k.elim
theorem oQ(ops:List Oper)(ts:List PV)(j:Nat):zh9 ops ts j=sK (ops.map (·.dst)) ts j:=by
 unfold zh9 sK;rw[Qb,Qu];cases ops[j]? <;>rfl
theorem zkH{ds:List (Option Tmp)}{o:Oper}{rest:List Oper}{Q:List PV->Heap->Prop}{ts:List PV}{h:Heap}(k: ∀r,vU P G own ds o ts h=r->AGo P G own ds rest Q o.dst ts h r):AR P G own ds (o::rest) Q ts h:=by
 simp only[AR];exact k _ rfl
theorem zmR{ds:List (Option Tmp)}{Q:List PV->Heap->Prop}{ts:List PV}{h:Heap}(k:Q ts h):AR P G own ds [] Q ts h:=by
 simp only[AR];exact k
theorem zmQ{ds:List (Option Tmp)}{rest:List Oper}{Q:List PV->Heap->Prop}{dst:Option Tmp}{ts:List PV}{h h':Heap}{p:PV}(k: ∀ts',zZ ts dst p=ts'->AR P G own ds rest Q ts' h'):AGo P G own ds rest Q dst ts h (.val p h' True):=by
 simp only[AGo];exact⟨trivial,k _ rfl⟩
variable(P G rd own)
def vI(n0:Nat)(t0:List PV)(d:DAnn)(op:Op)(f:Operand->PV)(h:Heap):SR:=
 match d.cl with
 |0=>match pA (α:=Prop) P f op with
  |some (p,c)=> .val p h c
  |none=> .no
 |1=>match wO (α:=Prop) P (rI (d.fb.map (nu n0 t0)) h) f op with
  |some (p,c)=> .val p h c
  |none=> .no
 | 2=>match h[nu n0 t0 d.slot]? with
  |some .non=>match vH (α:=Prop) P (nu n0 t0 d.slot) f op with
   |some (p,b,c)=> .val p (h.set (nu n0 t0 d.slot) b) c
   |none=> .no
  |_=> .no
 |3=>match oL op f with
  |some (g,args)=> .call g args
  |none=> .no
 | 5=>match op with
  | .store t a x=>match f a with
   | .ptr r _=>match vA (α:=Prop) P h f (.store t a x) with
    |some (p,h',c)=> .val p h' (r=nu n0 t0 d.slot/\c)
    |none=> .no
   |_=> .no
  |_=> .no
 |6=>qC P own op f (rI (kI n0 t0 d.fb) h)
 |7=>match wO (α:=Prop) P (only (d.fb.map (nu n0 t0)) h) f op with
  |some (p,c)=> .val p h c
  |none=> .no
 |_=>qC P own op f h
def ADo(n0:Nat)(t0:List PV)(d:DAnn)(op:Op)(f:Operand->PV)(h:Heap)(K:PV->Heap->Prop):SR->Prop
 | .val p h' c=>c/\if d.cl=6 then(∀r∈kI n0 t0 d.fb,r<h.length)/\(∀r∈kI n0 t0 d.fb,h'[r]? =some .non)/\(∀x∈op.operands,Av (kI n0 t0 d.fb) (f x))/\(∀r b,r∉kI n0 t0 d.fb->h[r]? =some b->AvB (kI n0 t0 d.fb) b)/\
   (∀k∈d.fb,1000<=k->(xV (kI n0 t0 d.fb) h h')[nu n0 t0 k]? =h[nu n0 t0 k]?)/\K p (xV (kI n0 t0 d.fb) h h') else K p h'
 | .call g args=>if d.cl=6 then ∃p h',ACall P G g args (rI (kI n0 t0 d.fb) h) (fun q h1=>q=p/\h1=h')/\(∀r∈kI n0 t0 d.fb,r<h.length)/\(∀r∈kI n0 t0 d.fb,h'[r]? =some .non)/\(∀x∈op.operands,Av (kI n0 t0 d.fb) (f x))/\
   (∀r b,r∉kI n0 t0 d.fb->h[r]? =some b->AvB (kI n0 t0 d.fb) b)/\(∀k∈d.fb,1000<=k->(xV (kI n0 t0 d.fb) h h')[nu n0 t0 k]? =h[nu n0 t0 k]?)/\K p (xV (kI n0 t0 d.fb) h h')
  else if d.cl=3 then ∃p,Pure P G g args p/\(∀q∈args,Tree q)/\Tree p/\K p h
  else ∃p h',ACall P G g args h (fun q h1=>q=p/\h1=h')/\K p h'
 | .no=>False
mutual
def AD(n0:Nat)(t0:List PV)(ann:Nat->DAnn)(ds:List (Option Tmp))(ops:List Oper):List Nat->(List PV->Heap->Prop)->List PV->Heap->Prop
 | [],Q,ts,h=>Q ts h
 | i::r,Q,ts,h=>match ops[i]? with
  | some o=>match o.guard with
   |none=>ADGo n0 t0 ann ds ops r Q (ann i) o ts h (vI P own n0 t0 (ann i) o.op (wV G ts) h)
   |some (j,want)=>match sK ds ts j with
    |some (.sc (.bool b))=>if b=want then ADGo n0 t0 ann ds ops r Q (ann i) o ts h (vI P own n0 t0 (ann i) o.op (wV G ts) h) else AD n0 t0 ann ds ops r Q (zZ ts o.dst .ud) h
    |some .ud=>AD n0 t0 ann ds ops r Q (zZ ts o.dst .ud) h
    |_=>False
  |none=>False
def ADGo(n0:Nat)(t0:List PV)(ann:Nat->DAnn)(ds:List (Option Tmp))(ops:List Oper):List Nat->(List PV->Heap->Prop)->DAnn->Oper->List PV->Heap->SR->Prop
 |r,Q,d,o,ts,h,s=>ADo P G n0 t0 d o.op (wV G ts) h (fun p h'=>AD n0 t0 ann ds ops r Q (zZ ts o.dst p) h') s
end
variable{P G rd own}
theorem ADo.ok{n0:Nat}{t0:List PV}{d:DAnn}{o:Oper}{ts:List PV}{h:Heap}{K:PV->Heap->Prop}(k:ADo P G n0 t0 d o.op (wV G ts) h K (vI P own n0 t0 d o.op (wV G ts) h)): ∃p h1,DOpr P G rd n0 t0 d o ts h p h1/\K p h1:=by
 unfold DOpr;by_cases h6:d.cl=6
 ·have e:vI P own n0 t0 d o.op (wV G ts) h=qC P own o.op (wV G ts) (rI (kI n0 t0 d.fb) h):=by unfold vI;rw[h6];rfl
  rw[e] at k;rw[h6];cases hr:qC P own o.op (wV G ts) (rI (kI n0 t0 d.fb) h) with
  |val p h' c=>
   rw[hr] at k;simp only[ADo,h6,Wk] at k;obtain⟨kc,k2,k3,k4,k5,k6,k7⟩:=k;exact⟨p,_,⟨⟨h',uI (by rw[hr];exact⟨kc,rfl,rfl⟩),k2,k3,k4,k5,rfl⟩,k6⟩,k7⟩
  |call g args=>
   rw[hr] at k;simp only[ADo,h6,Wk] at k;obtain⟨p,h',k1,k2,k3,k4,k5,k6,k7⟩:=k;exact⟨p,_,⟨⟨h',uI (by rw[hr];exact k1),k2,k3,k4,k5,rfl⟩,k6⟩,k7⟩
  |no=>rw[hr] at k;exact k.elim
 by_cases h3:d.cl=3
 ·have e:vI P own n0 t0 d o.op (wV G ts) h=match oL o.op (wV G ts) with|some (g,args)=> .call g args|none=> .no:=by unfold vI;rw[h3];rfl
  rw[e] at k;rw[h3];cases hr:oL o.op (wV G ts) with
  |none=>rw[hr] at k;exact k.elim
  |some ga=>
   obtain⟨g,args⟩:=ga;rw[hr] at k;simp only[ADo,h3,Wk,Qi h6,show ¬(3:Nat)=6 by decide,Wr] at k;obtain⟨p,k1,k2,k3,k4⟩:=k;refine⟨p,h,⟨rfl,?_⟩,k4⟩;unfold oL at hr;split at hr
   case h_2=>cases hr
   rename_i c ho;split at hr
   case h_2=>cases hr
   rename_i x hc;split at hr
   case h_2=>cases hr
   rename_i g' fst cap hx;cases hr;exact⟨c,x,g,fst,cap,ho,hc,hx,k1,k2,k3⟩
 have val: ∀{p h' c},ADo P G n0 t0 d o.op (wV G ts) h K (.val p h' c)->c/\K p h':=fun k=>by
  simp only[ADo,Qi h6] at k;exact k
 unfold vI at k;generalize hd:d.cl=cl at k ⊢
 split at k
 ·exact Qbh
 ·exact Qbh
 ·split at k
  ·rename_i hn;split at k
   ·rename_i p b c he;exact⟨p,_,⟨hn,b,c,he,(val k).1,rfl⟩,(val k).2⟩
   ·exact k.elim
  ·exact k.elim
 ·exact absurd hd h3
 ·split at k
  case h_2=>exact k.elim
  rename_i t a x ho;split at k
  case h_2=>exact k.elim
  rename_i r off ha;split at k
  ·rename_i p h' c he;obtain⟨⟨rfl,kc⟩,kk⟩:=val k;exact⟨p,h',⟨t,a,x,off,c,ho,ha,he,kc⟩,kk⟩
  ·exact k.elim
 ·exact absurd hd h6
 ·exact Qbh
 ·rename_i n0' n1 n2 n3 n5 n6 n7;have fin: ∃p h1,OpOk P G rd o h (wV G ts) (fun q h'=>q=p/\h'=h1)/\K p h1:=by
   cases hr:qC P own o.op (wV G ts) h with
   |val p h' c=>
    rw[hr] at k;exact⟨p,h',uI (by rw[hr];exact⟨(val k).1,rfl,rfl⟩),(val k).2⟩
   |call g args=>
    rw[hr] at k;simp only[ADo,Qi h6,Qi h3] at k;obtain⟨p,h',k1,k2⟩:=k;exact⟨p,h',uI (by rw[hr];exact k1),k2⟩
   |no=>rw[hr] at k;exact k.elim
  obtain⟨p,h1,k1,k2⟩:=fin;refine⟨p,h1,?_,k2⟩;split;all_goals first
   |exact absurd rfl Qfg
   |exact k1
theorem AD.ok{n0:Nat}{t0:List PV}{ann:Nat->DAnn}{ops:List Oper}: ∀(ρ:List Nat)(Q:List PV->Heap->Prop)(ts:List PV)(h:Heap),AD P G own n0 t0 ann (ops.map (·.dst)) ops ρ Q ts h-> ∃sF,DRun P G rd n0 t0 ann ops ρ (ts,h) sF/\Q sF.1 sF.2:=by
 intro ρ
 induction ρ with
 |nil=>intro Q ts h k;exact⟨(ts,h),rfl,by simpa only[AD] using k⟩
 | cons i r ih=>
  intro Q ts h k;simp only[AD,ADGo] at k;split at k
  case h_2=>exact k.elim
  rename_i o ho;have go: ∀p h1,DGd P G rd n0 t0 (ann i) ops o ts h p h1->AD P G own n0 t0 ann (ops.map (·.dst)) ops r Q (zZ ts o.dst p) h1-> ∃sF,DRun P G rd n0 t0 ann ops (i::r) (ts,h) sF/\Q sF.1 sF.2:=fun p h1 hd hk=>by
   obtain⟨sF,a,b⟩:=ih Q _ _ hk;exact⟨sF,⟨_,⟨o,p,h1,ho,hd,rfl⟩,a⟩,b⟩
  split at k
  ·rename_i hg;obtain⟨p,h1,a,b⟩:=ADo.ok (rd:=rd) k;exact go p h1 (by unfold DGd;rw[hg];exact a) b
  ·rename_i j want hg;rw[<-oQ] at k;split at k
   ·rename_i b hb;by_cases hbw:b=want
    ·rw[Qj hbw] at k;obtain⟨p,h1,a,b'⟩:=ADo.ok (rd:=rd) k;exact go p h1 (by unfold DGd;rw[hg];dsimp only;rw[hb];exact .inl ⟨hbw,a⟩) b'
    ·exact go .ud h (by unfold DGd;rw[hg];dsimp only;rw[hb];exact .inr ⟨hbw,rfl,rfl⟩) (by rw[Qi hbw] at k;exact k)
   ·rename_i hb;exact go .ud h (by unfold DGd;rw[hg];dsimp only;rw[hb];exact⟨rfl,rfl⟩) k
   ·exact k.elim
theorem oJ(hm:P.follows .mixedOrders=true)(hG:GTree G)(pl:DPlan){id:Nat}{ops:Array Oper}{Q:Exit->List PV->Heap->Prop}{ts:List PV}{h:Heap}(hg:pl.good ops.toList=true)
  (k:AD P G own h.length ts pl.at (ops.toList.map (·.dst)) ops.toList pl.ord (Q .normal) ts (rY h pl.places)):AWp P G rd (.region id ops true) Q ts h:=by
 obtain⟨hp,hl,hall⟩:=cP hg;obtain⟨sF,a,b⟩:=AD.ok _ _ _ _ k;have:=bM hm hG (id:=id) hp hl hall _ (Q:=Q) ⟨sF,a,b⟩;simpa using this
section
variable{n0:Nat}{t0:List PV}{ann:Nat->DAnn}{ds:List (Option Tmp)}{ops:List Oper}{i:Nat}{r:List Nat}{Q:List PV->Heap->Prop}{ts:List PV}{h:Heap}{o:Oper}{d:DAnn}
theorem zF(ho:ops[i]? =some o)(hg:o.guard=none)(hd:ann i=d)(k: ∀s,vI P own n0 t0 d o.op (wV G ts) h=s->ADGo P G own n0 t0 ann ds ops r Q d o ts h s):AD P G own n0 t0 ann ds ops (i::r) Q ts h:=by
 subst hd;unfold AD;rw[ho];simp only[hg];exact k _ rfl
theorem bP(ho:ops[i]? =some o){j:Nat}{want b:Bool}(hg:o.guard=some (j,want))(hb:sK ds ts j=some (.sc (.bool b)))(hd:ann i=d)(k:if b=want then(∀s,vI P own n0 t0 d o.op (wV G ts) h=s->ADGo P G own n0 t0 ann ds ops r Q d o ts h s) else AD P G own n0 t0 ann ds ops r Q (zZ ts o.dst .ud) h):
  AD P G own n0 t0 ann ds ops (i::r) Q ts h:=by
 subst hd;unfold AD;rw[ho];simp only[hg,hb];split
 ·rename_i e;rw[Qj e] at k;exact k _ rfl
 ·rename_i e;rw[Qi e] at k;exact k
theorem zeP(ho:ops[i]? =some o){j:Nat}{want:Bool}(hg:o.guard=some (j,want))(hb:sK ds ts j=some .ud)(k:AD P G own n0 t0 ann ds ops r Q (zZ ts o.dst .ud) h):AD P G own n0 t0 ann ds ops (i::r) Q ts h:=by
 unfold AD;rw[ho];simp only[hg,hb];exact k
theorem zmZ(k:Q ts h):AD P G own n0 t0 ann ds ops [] Q ts h:=by simp only[AD];exact k
theorem zL{h':Heap}{p:PV}(h6:d.cl≠6)(k: ∀ts',zZ ts o.dst p=ts'->AD P G own n0 t0 ann ds ops r Q ts' h'):ADGo P G own n0 t0 ann ds ops r Q d o ts h (.val p h' True):=by
 simp only[ADGo,ADo,Qi h6];exact⟨trivial,k _ rfl⟩
theorem zI{h':Heap}{p:PV}{c:Prop}(h6:d.cl≠6)(hc:c)(k: ∀ts',zZ ts o.dst p=ts'->AD P G own n0 t0 ann ds ops r Q ts' h'):ADGo P G own n0 t0 ann ds ops r Q d o ts h (.val p h' c):=by
 simp only[ADGo,ADo,Qi h6];exact⟨hc,k _ rfl⟩
theorem tY{g:FuncId}{args:List PV}{p:PV}{h':Heap}(h6:d.cl≠6)(h3:d.cl≠3)(hc:ACall P G g args h fun q h1=>q=p/\h1=h')(k: ∀ts',zZ ts o.dst p=ts'->AD P G own n0 t0 ann ds ops r Q ts' h'):ADGo P G own n0 t0 ann ds ops r Q d o ts h (.call g args):=by
 simp only[ADGo,ADo,Qi h6,Qi h3];exact⟨p,h',hc,k _ rfl⟩
theorem bQ{g:FuncId}{args:List PV}{p:PV}(h3:d.cl=3)(hc:Pure P G g args p)(ha: ∀q∈args,Tree q)(hp:Tree p)(k: ∀ts',zZ ts o.dst p=ts'->AD P G own n0 t0 ann ds ops r Q ts' h):ADGo P G own n0 t0 ann ds ops r Q d o ts h (.call g args):=by
 simp only[ADGo,ADo,h3,show ¬(3:Nat)=6 by decide,Wr,Wk];exact⟨p,hc,ha,hp,k _ rfl⟩
end
end
end Go.AL
namespace Go.AL
open Go.RowKit
def yd2:List Nat->Nat->List PV->List PV
 |_,_,[]=>[]
 |ks,i,p::ts=>(if ks.contains i then p else .un)::yd2 ks (i+1) ts
section
variable{P:Program}{G:Glob}{rd:Option Nat}
end
end Go.AL
namespace Go.AL
def rH(l:List (Nat×Nat))(i:Nat):Option (Nat×Nat):=l[i]?
def zkZ(P:Program):List Field->Option (List (Nat×Nat))
 | []=>some []
 |f::fs=>match xL P f.type,zkZ P fs with
  |some s,some l=>some ((f.offset,s)::l)
  |_,_=>none
theorem zfK{P:Program}: ∀{fs:List Field}{l:List (Nat×Nat)},zkZ P fs=some l-> ∀i:Nat,((fs[i]?).bind fun f:Field=>(xL P f.type).map fun s=>(f.offset,s))=l[i]? :=by
 intro fs
 induction fs with
 |nil=>intro l h i;cases h;simp
 | cons f fs ih=>
  intro l h i;simp only[zkZ] at h;split at h
  ·rename_i s l' hs hl;cases h;cases i with
   |zero=>simp[hs]
   |succ i=>simpa using ih hl i
  ·cases h
theorem xP{P:Program}{t:TypeId}{fs:Array Field}{l:List (Nat×Nat)}(h:P.underlying t=some (.struct fs))(hf:(fs.all fun f=>(xL P f.type).isSome)=true)(hl:zkZ P fs.toList=some l):xW P t=some (rH l):=by
 unfold xW;rw[h];simp only[hf,Wk,Option.some.injEq];funext i;rw[<-Yi];exact zfK hl i
end Go.AL
namespace Go.AL
open Go.RowKit
def ACond(r:PV)(A B:Prop):Prop:=
 match r with
 | .sc (.bool t)=>if t=true then A else B
 |_=>False
theorem zcG{A B:Prop}(k:A):ACond (.sc (.bool true)) A B:=by simp only[ACond,Wk];exact k
theorem zcH{A B:Prop}(k:B):ACond (.sc (.bool false)) A B:=by simp only[ACond,Zo,Wr];exact k
theorem yS{t:Bool}{A B:Prop}(k:t=true->A)(k':t=false->B):ACond (.sc (.bool t)) A B:=by
 cases t
 ·exact zcH (k' rfl)
 ·exact zcG (k rfl)
section
variable{P:Program}{G:Glob}{rd:Option Nat}{own:Bool}{Q N:Exit->List PV->Heap->Prop}{M:List PV->Heap->Prop}{ts:List PV}{h:Heap}
theorem zmO{a b:Code}(k:awp P G rd own a (AThen (awp P G rd own b Q) Q) ts h):awp P G rd own (.seq a b) Q ts h:=k
theorem zkA(k:Q .normal ts h):awp P G rd own .skip Q ts h:=k
theorem zkC{id:Nat}(k:Q (.exit id) ts h):awp P G rd own (.exit id) Q ts h:=k
theorem zmP(k:Q .ret ts h):awp P G rd own .ret Q ts h:=k
theorem zgP{l:Nat}(k:Q .normal ts h):awp P G rd own (.label l) Q ts h:=k
theorem zgR{id:Nat}{c:Code}(k:awp P G rd own c (ABlock id Q) ts h):awp P G rd own (.block id c) Q ts h:=k
theorem zeF{id:Nat}{ops:Array Oper}(k: ∀l,ops.toList=l-> ∀ds,l.map (·.dst)=ds->AR P G own ds l (Q .normal) ts h):awp P G rd own (.region id ops false) Q ts h:=by
 simp only[awp];exact k _ rfl _ rfl
theorem zgQ{id:Nat}{ops:Array Oper}(k:AWp P G rd (.region id ops true) Q ts h):awp P G rd own (.region id ops true) Q ts h:=k
theorem zkB{c:Code}(k:AWp P G rd (.loop c) Q ts h):awp P G rd own (.loop c) Q ts h:=k
theorem zkD{x:Operand}{a b:Code}(k: ∀r,wV G ts x=r->ACond r (awp P G rd own a Q ts h) (awp P G rd own b Q ts h)):awp P G rd own (.cond x a b) Q ts h:=k _ rfl
theorem th_n(k:M ts h):AThen M Q .normal ts h:=k
theorem th_x{id:Nat}(k:Q (.exit id) ts h):AThen M Q (.exit id) ts h:=k
theorem th_r(k:Q .ret ts h):AThen M Q .ret ts h:=k
theorem bl_n{id:Nat}(k:Q .normal ts h):ABlock id Q .normal ts h:=k
theorem bl_r{id:Nat}(k:Q .ret ts h):ABlock id Q .ret ts h:=k
theorem zmN{id:Nat}(k:Q .normal ts h):ABlock id Q (.exit id) ts h:=by simp only[ABlock,Wk];exact k
theorem zb9{id id':Nat}(hn: ¬id'=id)(k:Q (.exit id') ts h):ABlock id Q (.exit id') ts h:=by simp only[ABlock,Qi hn];exact k
theorem end_n{fn:Func}{R:PV->Heap->Prop}{xs:List ResultVar}(hr:fn.results.toList=xs)(k: ∀r,nV (α:=Prop) P ts h xs=r-> ∃p c,r=some (p,c)/\c/\R p h):AEnd P fn R .normal ts h:=by
 exact Qek
theorem end_r{fn:Func}{R:PV->Heap->Prop}{xs:List ResultVar}(hr:fn.results.toList=xs)(k: ∀r,nV (α:=Prop) P ts h xs=r-> ∃p c,r=some (p,c)/\c/\R p h):AEnd P fn R .ret ts h:=by
 exact Qek
end
end Go.AL
namespace Go.AL
theorem ACall.weaken{P:Program}{G:Glob}{f:FuncId}{args:List PV}{h:Heap}{R:PV->Heap->Prop}(k:ACall P G f args h fun p h'=> ∃q,PLe p q/\R q h'):ACall P G f args h R:=
 ⟨k.1,fun φ w X vs a b c d=>(k.2 φ w X vs a b c d).mono fun e w' ⟨φ',h',p,v,x1,x2,x3,x4,q,x5,x6⟩=>⟨φ',h',q,v,x1,x2,x3,x5 _ _ x4,x6⟩⟩
end Go.AL
