/-
  More operations that turn memory: a map's entries, the bytes of a string.
-/
import Derived.Test.YtlcjmejclpilhaaGreatDoorX04
import Derived.Laws.IdiomStrings
import Derived.Stop.FmtRuneSmall
set_option linter.unusedSimpArgs false
set_option linter.unusedVariables false
set_option maxRecDepth 100000
set_option maxHeartbeats 4000000
namespace Go.AL
open Go.RowKit
def kO(k:Value)(v:PV)(es:List (Value×PV)):List (Value×PV):=
  match vV k es 0 with
  |some (i,_)=>es.set i (k,v)
  |none=>es++[(k,v)]
def zcL(P:Program)(h:Heap)(f:Operand->PV):Op->Option (PV×Heap)
  | .mapUpdate t m k x| .insert t m k x=>match f m,f k,kC P t with
    | .mp r,.sc kv,some (_,d,_)=>match h[r]? with
      |some (.map es)=>if pF d kv&&es.all (fun x=>pF d x.1) then some (.ud,h.set r (.map (kO kv (f x) es))) else none
      |_=>none
    |_,_,_=>none
  | .convert s d x=>match f x,wX P d with
    | .sc (.string b),some e=>if zeT P e=some .u8/\gJ P s=true then some (.ts 1 (xH b),h) else none
    |_,_=>none
  | .range t x=>match f x,kC P t with
    | .mp r,some _=>match h[r]? with
      |some (.map es)=>some (.it h.length,h++[.iter (some r) es.length []])
      |_=>none
    | .sc (.string b),none=>if gJ P t=true then some (.it h.length,h++[.siter b 0]) else none
    |_,_=>none
  | .next it true=>match f it with
    | .it r=>match h[r]? with
      |some (.siter b pos)=>if pos<b.size then some (.tup [.sc (.bool true),.sc (.int .i64 pos),.sc (.int .i32 (Utf8.decode b pos).1)],h.set r (.siter b (pos+(Utf8.decode b pos).2))) else some (.tup [.sc (.bool false)],h)
      |_=>none
    |_=>none
  | .mapEntry t m k=>match f m,f k,kC P t with
    | .mp r,.sc kv,some (_,d,e)=>match h[r]?,(P.info? e).bind (·.zero) with
      | some (.map es),some z=>if pF d kv&&es.all (fun x=>pF d x.1)&&decide (es.length<=140737488355328) then
          match vV kv es 0 with
          |some (i,p)=>some (.tup [p,.sc (.int .i64 i)],h.set r (.map (es.set i (kv,p))))
          |none=>some (.tup [nI z,.sc (.int .i64 es.length)],h.set r (.map (es++[(kv,nI z)])))
        else none
      |_,_=>none
    |_,_,_=>none
  | .entryStore _ m s x=>match f m,f s with
    | .mp r,.sc (.int .i64 n)=>match h[r]? with
      | some (.map es)=>match es[n.toNat]? with
        |some q=>if 0<=n then some (.ud,h.set r (.map (es.set n.toNat (q.1,f x)))) else none
        |none=>none
      |_=>none
    |_,_=>none
  |_=>none
section
variable{P:Program}{S:St}
theorem oP(hS:SRel S){r b:Nat}{es es':List (Value×PV)}(hp:S.φ[r]? =some (.map (some b)))(hb:S.h[r]? =some (.map es))
    {w':World} (ho:w'.os=S.w.os) (ht:TapeLe S.w w') (hu:w'.output=S.w.output) (hs:w'.heap.size=S.w.heap.size) (hw: ∀k,k≠b->w'.heap[k]? =S.w.heap[k]?) (hz: ∀b m,S.Row b m->St.Row {S with w:=w'} b m):
    Ext S {S with h:=S.h.set r (.map es'),w:=w'}:=by
  have hr:r<S.h.length:=(gsi hb).1;have hown: ∀n, ¬S.Own n->n≠b:=fun n hn e=>hn ⟨r,_,hp,by subst e;rfl⟩;refine⟨rfl,ho,ht,hu,by simp only[];omega,fun n hn hno=>⟨hno,hw n (hown n hno)⟩,fun a v hm=> ?_,fun r' c hc=> ?_,hz⟩
  · obtain⟨h1,h2,h3,h4,h5,h6⟩:=hm
    have hab:a.block≠b:=fun e=>by
      obtain⟨e',k,n,hh,_⟩:=h6 r _ hp (by simp[sC,e]);rw[hb] at hh;cases hh
    refine⟨(World.cell?_of_block (hw _ hab)).trans h1,h2,h3,by simp only[];omega,h5,fun r' v' hp' hv'=> ?_⟩;obtain⟨e,k,n,hh,hlt⟩:=h6 r' v' hp' hv';refine⟨e,k,n,?_,hlt⟩;have:r≠r':=fun e=>by subst e;rw[hb] at hh;cases hh
    simp only[Qq,Qi this];exact hh
  · by_cases e:r=r'
    · subst e
      rw[hb] at hc;cases hc;exact⟨.map es',by simp[hr],by simp[Blk.le]⟩
    · exact⟨c,by simp only[Qq,Qi e];exact hc,Blk.le_refl c rfl⟩
theorem ydW(hS:SRel S){r b clock:Nat}{es es':List (Value×PV)}{ar:Array MapEntry}(hp:S.φ[r]? =some (.map (some b)))(hb:S.h[r]? =some (.map es))
    {w':World} (ho:w'.os=S.w.os) (ht:TapeLe S.w w') (hu:w'.output=S.w.output) (hs:w'.heap.size=S.w.heap.size) (hw: ∀k,k≠b->w'.heap[k]? =S.w.heap[k]?) (hz: ∀b m,S.Row b m->St.Row {S with w:=w'} b m)
    (hnew:w'.heap[b]? =some (.map ar clock)) (hsz:ar.size=es'.length) (h1:clock=ar.size/\(∀q∈es',yaO q.1)/\ ∀(i:Nat)(e:MapEntry),ar[i]? =some e->e.born=i)
    (hv: ∀(i:Nat)(e:MapEntry)(q:Value×PV),ar[i]? =some e->es'[i]? =some q->e.key=q.1/\VRel S q.2 e.val):
    SRel {S with h:=S.h.set r (.map es'),w:=w'}:=by
  have x:=oP (es':=es') hS hp hb ho ht hu hs hw hz;have hr:r<S.h.length:=(gsi hb).1;refine⟨by simp[hS.len],fun r' c v hc hvv=> ?_,hS.inj,fun a ha=>by have:=hS.xlt a ha;simp only[];omega,hS.xown⟩;by_cases e:r=r'
  · subst e
    simp only[Qq,Qj hr, ↓reduceIte] at hc;cases hc;rw[hp] at hvv;cases hvv;exact⟨b,clock,ar,rfl,hnew,hsz,h1,fun i e q he hq=>⟨(hv i e q he hq).1,(hv i e q he hq).2.ext x⟩⟩
  · simp only[Qq,Qi e] at hc
    refine(hS.blks r' c v hc hvv).ext x fun n hn=>hw n fun en=> ?_;subst en;exact e (hS.inj r r' _ v n hp hvv rfl hn)
theorem zi7(hS:SRel S){t:TypeId}{r:Nat}{kt:TypeId}{d:TypeDesc}{e:TypeId}{es:List (Value×PV)}{kv:Value}{p:PV}{u x:Value}(ht:kC P t=some (kt,d,e))(hb:S.h[r]? =some (.map es))
    (hk:pF d kv=true) (hok:tJ kv) (hks: ∀q∈es,pF d q.1=true) (hu:VRel S (.mp r) u) (hx:VRel S p x):
    ∃w',(Instr.mapUpdate t u kv x).run P S.w= .ok () w'/\Ext S {S with h:=S.h.set r (.map (kO kv p es)),w:=w'}/\SRel {S with h:=S.h.set r (.map (kO kv p es)),w:=w'}:=by
  obtain⟨t1,t2⟩:=ydV ht;cases hu with|mp hp hb'=>
  rename_i b es0;obtain⟨b',clock,ar,he',hh,hsz,hborn,hrel⟩:=hS.blks r _ _ hb hp;cases he';have hlt:b<S.w.heap.size:=(Qz.1 hh).1;have hl:ar.toList.length=es.length:=Qga;have hz: ∀(w':World),(∀k,k≠b->w'.heap[k]? =S.w.heap[k]?)-> ∀b m,S.Row b m->St.Row {S with w:=w'} b m:=by
    exact Qex
  rcases qR (uM hk) es ar.toList 0 hl (fun j e q h1 h2=>(hrel j e q (by simpa using h1) h2).1) hks with ⟨m1,m2,_⟩|⟨j,q,e',m1,m2,m3,m4,m5⟩
  · have em:kO kv p es=es++[(kv,p)]:=by simp[kO,m1]
    rw[em];let w':World:={S.w with heap:=S.w.heap.setIfInBounds b (.map (ar.push {key:=kv,val:=x,born:=clock}) (clock+1))}
    have hw: ∀k,k≠b->w'.heap[k]? =S.w.heap[k]? :=fun k hk=>(MapKept.heap_set hh).2 k hk;refine⟨w',?_,oP hS hp hb rfl ztC rfl Qfb hw (hz _ hw),ydW hS hp hb rfl ztC rfl Qfb hw (hz _ hw) (MapKept.heap_set hh).1 Qfl ⟨by simp[hborn.1],fun q hq=>(Qo.1 hq).elim (hborn.2.1 q) (fun h=>by simp at h;subst h;exact .inl hok),fun i e he=> ?_⟩ (fun i e q he hq=> ?_)⟩
    · simp[Instr.mapUpdate,Xc t1,MapKept.run_getObj_map hh,MapKept.run_checkKey t2 (uM hk) _ 9999,MapKept.run_findKey t2 m2,MapKept.run_setObj_map _ hh,Result.andThen,w']
    ·exact Qcb
    · rw[Ke] at he
      split at he
      · rename_i hi
        cases he;rw[Qr,Qi Qf3,hi,hsz,Nat.sub_self] at hq;cases hq;exact⟨rfl,hx⟩
      ·exact Qc4
  · have hj:ar[j]? =some e':=by simpa using m3
    have em:kO kv p es=es.set j (kv,p):=by simp[kO,m1]
    rw[em];let w':World:={S.w with heap:=S.w.heap.setIfInBounds b (.map (ar.modify j fun e=>{e with key:=kv,val:=x}) clock)}
    have hw: ∀k,k≠b->w'.heap[k]? =S.w.heap[k]? :=fun k hk=>(MapKept.heap_set hh).2 k hk;have m4':Instr.findNow d kv ar.toList 0=some (some (j,e'.val)):=by rw[m4];simp
    refine⟨w',?_,oP hS hp hb rfl ztC rfl Qfb hw (hz _ hw),ydW hS hp hb rfl ztC rfl Qfb hw (hz _ hw) (MapKept.heap_set hh).1 Qfl ⟨by simp[hborn.1],fun q hq=>(Ze hq).elim (hborn.2.1 q) (fun h=>by subst h;exact .inl hok),fun i e he=> ?_⟩ (fun i e q he hq=> ?_)⟩
    · simp[Instr.mapUpdate,Xc t1,MapKept.run_getObj_map hh,MapKept.run_checkKey t2 (uM hk) _ 9999,MapKept.run_findKey t2 m4',hj,m5,MapKept.run_keyThatStays (uM hk),MapKept.run_setObj_map _ hh,Result.andThen,w']
    ·exact Qbe
    · rw[Wd] at he
      rw[Qq] at hq;split at he
      · rename_i hij
        subst hij;rw[hj] at he;cases he;rw[Qj rfl] at hq;split at hq
        · cases hq;exact⟨rfl,hx⟩
        · cases hq
      · rename_i hij
        rw[Qi hij] at hq;exact hrel i e q he hq
theorem zhO{r b:Nat}{c c':Blk}(hS:SRel S)(hp:S.φ[r]? =some (.pointer (some ⟨b,0,none⟩)))(hb:S.h[r]? =some c)(hv: ∀e k n,c≠ .vec e k n)(hle: ∀p:Prop,p->Blk.le p c c')
    {w':World} (ho:w'.os=S.w.os) (ht:TapeLe S.w w') (hu:w'.output=S.w.output) (hs:w'.heap.size=S.w.heap.size) (hw: ∀k,k≠b->w'.heap[k]? =S.w.heap[k]?) (hz: ∀b m,S.Row b m->St.Row {S with w:=w'} b m):
    Ext S {S with h:=S.h.set r c',w:=w'}:=by
  have hr:r<S.h.length:=(gsi hb).1;have hown: ∀n, ¬S.Own n->n≠b:=fun n hn e=>hn ⟨r,_,hp,by subst e;rfl⟩;refine⟨rfl,ho,ht,hu,by simp only[];omega,fun n hn hno=>⟨hno,hw n (hown n hno)⟩,fun a v hm=> ?_,fun r' d hc=> ?_,hz⟩
  · obtain⟨h1,h2,h3,h4,h5,h6⟩:=hm
    have hab:a.block≠b:=fun e=>by
      obtain⟨e',k,n,hh,_⟩:=h6 r _ hp (by simp[sC,e]);rw[hb] at hh;cases hh;exact hv _ _ _ rfl
    refine⟨(World.cell?_of_block (hw _ hab)).trans h1,h2,h3,by simp only[];omega,h5,fun r' v' hp' hv'=> ?_⟩;obtain⟨e,k,n,hh,hlt⟩:=h6 r' v' hp' hv';refine⟨e,k,n,?_,hlt⟩;have:r≠r':=fun e=>by subst e;rw[hb] at hh;cases hh;exact hv _ _ _ rfl
    simp only[Qq,Qi this];exact hh
  · by_cases e:r=r'
    · subst e
      rw[hb] at hc;cases hc;exact⟨c',by simp[hr],hle _ rfl⟩
    · exact⟨d,by simp only[Qq,Qi e];exact hc,Blk.le_refl d rfl⟩
theorem ziZ{r b:Nat}{c c':Blk}(hS:SRel S)(hp:S.φ[r]? =some (.pointer (some ⟨b,0,none⟩)))(hb:S.h[r]? =some c)(hv: ∀e k n,c≠ .vec e k n)(hle: ∀p:Prop,p->Blk.le p c c')
    {w':World} (ho:w'.os=S.w.os) (ht:TapeLe S.w w') (hu:w'.output=S.w.output) (hs:w'.heap.size=S.w.heap.size) (hw: ∀k,k≠b->w'.heap[k]? =S.w.heap[k]?) (hz: ∀b m,S.Row b m->St.Row {S with w:=w'} b m)
    (hnew:BRel {S with h:=S.h.set r c',w:=w'} c' (.pointer (some ⟨b,0,none⟩))):SRel {S with h:=S.h.set r c',w:=w'}:=by
  have x:=zhO hS hp hb hv hle ho ht hu hs hw hz;have hr:r<S.h.length:=(gsi hb).1;refine⟨by simp[hS.len],fun r' d v hc hvv=> ?_,hS.inj,fun a ha=>by have:=hS.xlt a ha;simp only[];omega,hS.xown⟩;by_cases e:r=r'
  · subst e
    simp only[Qq,Qj hr, ↓reduceIte] at hc;cases hc;rw[hp] at hvv;cases hvv;exact hnew
  · simp only[Qq,Qi e] at hc
    refine(hS.blks r' d v hc hvv).ext x fun n hn=>hw n fun en=> ?_;subst en;exact e (hS.inj r r' _ v n hp hvv rfl hn)
theorem zj0(hS:SRel S):Ext S {S with w:=S.w.drew}/\SRel {S with w:=S.w.drew}:=
  ⟨⟨rfl,rfl,ztC,rfl,Xe _,fun _ _ h=>⟨h,rfl⟩,fun _ _ h=>h,fun _ b h=>⟨b,h,Blk.le_refl b rfl⟩,fun _ _ h=>h⟩,
   ⟨hS.len,fun r b v hb hv=>(hS.blks r b v hb hv).ext ⟨rfl,rfl,ztC,rfl,Xe _,fun _ _ h=>⟨h,rfl⟩,fun _ _ h=>h,fun _ b h=>⟨b,h,Blk.le_refl b rfl⟩,fun _ _ h=>h⟩ fun _ _=>rfl,hS.inj,hS.xlt,hS.xown⟩⟩
theorem cU{α β:Type}{g:α->β}{l:List α}{i:Nat}{y:β}(h:(l.map g)[i]? =some y): ∃x,l[i]? =some x/\g x=y:=by
  exact Qcq
theorem zgI(hS:SRel S){s d e:TypeId}{b:ByteArray}(hd:wX P d=some e)(he:zeT P e=some .u8)(hs:gJ P s=true)(hb:tJ (.string b)):
    ∃v w',(convert s d (.string b)).run P S.w= .ok v w'/\Ext S {S with w:=w'}/\SRel {S with w:=w'}/\VRel {S with w:=w'} (.ts 1 (xH b)) v:=by
  have hrun:=run_bytes_of_string (P:=P) S.w s d e b (qL hs) (tS hd) (cK he);obtain⟨x1,s1⟩:=zj0 hS;let o:Obj:= .cells (bytesRow b (grownCap S.w b.size 0 e)) e ((bytesRow b (grownCap S.w b.size 0 e)).size,(bytesRow b (grownCap S.w b.size 0 e)).size+1)
  have x2:=wT s1 o;have s2:=nO s1 o;have hlen:b.data.toList.length=b.size:=Qf4;have hnew:(S.w.drew.alloc o).heap[S.w.heap.size]? =some o:=heap_alloc_new _ _;refine⟨_,_,hrun,x1.trans x2,s2,?_⟩;refine .ts (by simp[xH]) (grownCap_ge _ _ _ _) (grownCap_le_maxLen _ _ _ _ hb) (fun i e he=> ?_) ⟨S.w.heap.size,0,none⟩ (fun _=>rfl) (fun j=> .int .u8 (b.data.toList.getD j 0).toNat) (fun j hj=> ?_) (fun i e j p hi hp=> ?_)
  · obtain⟨c,hc,rfl⟩:=cU he
    rfl
  · rw[Jt] at hj
    have hadd:(⟨S.w.heap.size,0,none⟩:Addr).add j=⟨S.w.heap.size,j,none⟩:=by
      unfold Addr.add;split
      · rename_i h;subst h;rfl
      · simp
    rw[hadd];refine⟨?_,rfl,rfl,?_,fun hx=> ?_,fun r v hv hbv=> ?_⟩
    · have hj':j<b.data.size:=hj
      simp only[World.cell?];rw[show(S.w.drew.alloc o).heap[S.w.heap.size]? =some o from hnew];simp[o,bytesRow,We,hj,hj',Qb]
    · show S.w.heap.size<(S.w.drew.alloc o).heap.size
      simp
    · have:=hS.xlt _ hx
      exact absurd this (Nat.lt_irrefl _)
    · exact absurd (hS.own_lt ⟨r,v,hv,hbv⟩) (Nat.lt_irrefl _)
  · obtain⟨c,hc,rfl⟩:=cU hi
    cases j with
    | zero=>
      simp only[Ws,Option.some.injEq] at hp;subst hp;simp only[Jt,Wn,Qb,hc,Wv];refine .sc ?_;have:=c.toNat_lt;have e1:IntKind.min .u8=0:=Qf5;have e2:IntKind.max .u8=255:=Qf5;show IntKind.min .u8<=_/\_<=IntKind.max .u8;rw[e1,e2];omega
    |succ j=>simp at hp
theorem zj8{ρ:Operand->Value}{f:Operand->PV}{o:Oper}{p:PV}{h':Heap}(hS:SRel S)(hx: ∀x∈o.op.operands,VRel S (f x) (ρ x))(he:zcL P S.h f o.op=some (p,h')):
    ∃φ' w',Ext S {S with φ:=φ',h:=h',w:=w'}/\SRel {S with φ:=φ',h:=h',w:=w'}/\((∃v,(execOp ρ o).run P S.w= .ok (.value v) w'/\VRel {S with φ:=φ',h:=h',w:=w'} p v)\/((execOp ρ o).run P S.w= .ok .skip w'/\p= .ud)):=by
  have upd: ∀(t:TypeId)(m k x:Operand),m∈o.op.operands->k∈o.op.operands->x∈o.op.operands->(match f m,f k,kC P t with
      | .mp r,.sc kv,some (_,d,_)=>match S.h[r]? with
        |some (.map es)=>if pF d kv&&es.all (fun x=>pF d x.1) then some (PV.ud,S.h.set r (.map (kO kv (f x) es))) else none
        |_=>none
      |_,_,_=>none)=some (p,h')-> ∃w',(Instr.mapUpdate t (ρ m) (ρ k) (ρ x)).run P S.w= .ok () w'/\Ext S {S with h:=h',w:=w'}/\SRel {S with h:=h',w:=w'}/\p= .ud:=by
    intro t m k x hm hk hxx e;split at e
    case h_2=>cases e
    rename_i r kv kt d et hfm hfk ht;split at e
    case h_2=>cases e
    rename_i es hb;split at e
    case isFalse=>cases e
    rename_i hkb;rw[Qt,Xg] at hkb;cases e;have h1:=hx m hm;have h2:=hx k hk;rw[hfm] at h1;rw[hfk] at h2;have e2:ρ k=kv/\tJ kv:=Qhx;obtain⟨w',g1,g2,g3⟩:=zi7 (P:=P) hS ht hb hkb.1 e2.2 hkb.2 h1 (hx x hxx);exact⟨w',by rw[e2.1];exact g1,g2,g3,rfl⟩
  unfold execOp;unfold zcL at he;split at he
  ·exact Qb4
  ·exact Qb4
  · rename_i s d x hop
    split at he
    case h_2=>cases he
    rename_i b e hfx hte;split at he
    case isFalse=>cases he
    rename_i hcond;cases he;have h1:=hx x Qh9;rw[hfx] at h1;have e1:ρ x= .string b/\tJ (.string b):=Qhv;obtain⟨v,w',g1,g2,g3,g4⟩:=zgI (P:=P) hS hte hcond.1 hcond.2 e1.2;rw[hop];exact⟨S.φ,w',g2,g3,.inl ⟨v,by simp only[Xp,e1.1,g1,Xd,Yc],g4⟩⟩
  · rename_i t x hop
    split at he
    · rename_i r kt hfx ht
      split at he
      case h_2=>cases he
      rename_i es hb;cases he;have h1:=hx x Qh9;rw[hfx] at h1;obtain⟨kt,d,e⟩:=kt;obtain⟨t1,t2⟩:=ydV ht;have hq: ∃b,ρ x= .map (some b)/\S.φ[r]? =some (.map (some b)):=by generalize ρ x=u at h1;cases h1;exact⟨_,rfl,by assumption⟩
      obtain⟨b,hρ,hp⟩:=hq;obtain⟨b',clock,ar,he',hh,hsz,hborn,hrel⟩:=hS.blks r _ _ hb hp;cases he';have hck:clock=es.length:=by rw[hborn.1,hsz]
      subst hck;have x1:Ext S (({S with w:=S.w.alloc (.mapIter (some b) es.length #[] es.length)}:St).push (.pointer (some ⟨S.w.heap.size,0,none⟩)) (.iter (some r) es.length [])):=tZ (wT hS _) hS rfl rfl _ _ Qhd;have hr:r<S.h.length:=(gsi hb).1;have hr2:r<S.φ.length:=(gsi hp).1;have hS':SRel (({S with w:=S.w.alloc (.mapIter (some b) es.length #[] es.length)}:St).push (.pointer (some ⟨S.w.heap.size,0,none⟩)) (.iter (some r) es.length [])):=
        uP hS x1 rfl rfl rfl (fun n hn=>Below.heap_alloc _ _ _ hn) ⟨S.w.heap.size,some b,rfl,heap_alloc_new S.w _,fun r' hr'=>by cases hr';exact⟨es,b,by simp only[St.push];rw[Qg hr];exact hb,by simp only[St.push];rw[Qg hr2];exact hp,rfl⟩⟩ Qhd
      rw[hop];refine⟨S.φ++[.pointer (some ⟨S.w.heap.size,0,none⟩)],S.w.alloc (.mapIter (some b) es.length #[] es.length),x1,hS',.inl ⟨.pointer (some ⟨S.w.heap.size,0,none⟩),?_,.it Qh0 (c:= .iter (some r) es.length []) Qfz rfl⟩⟩;simp[Instr.range,Xc t1,hρ,MapKept.run_getObj_map hh,newObj];rfl
    · rename_i b hfx ht
      split at he
      case isFalse=>cases he
      rename_i hts;cases he;have h1:=hx x Qh9;rw[hfx] at h1;have e1:ρ x= .string b/\tJ (.string b):=Qhv;have x1:Ext S (({S with w:=S.w.alloc (.stringIter b 0)}:St).push (.pointer (some ⟨S.w.heap.size,0,none⟩)) (.siter b 0)):=tZ (wT hS _) hS rfl rfl _ _ Qhd;have hS':SRel (({S with w:=S.w.alloc (.stringIter b 0)}:St).push (.pointer (some ⟨S.w.heap.size,0,none⟩)) (.siter b 0)):=
        uP hS x1 rfl rfl rfl (fun n hn=>Below.heap_alloc _ _ _ hn) ⟨S.w.heap.size,rfl,heap_alloc_new S.w _,e1.2⟩ Qhd
      rw[hop];refine⟨S.φ++[.pointer (some ⟨S.w.heap.size,0,none⟩)],S.w.alloc (.stringIter b 0),x1,hS',.inl ⟨.pointer (some ⟨S.w.heap.size,0,none⟩),?_,.it Qh0 (c:= .siter b 0) Qfz rfl⟩⟩;simp[Instr.range,Xc (qL hts),e1.1,newObj];rfl
    · cases he
  · rename_i it hop
    split at he
    case h_2=>cases he
    rename_i r hfx;split at he
    case h_2=>cases he
    rename_i b pos hb;have h1:=hx it Qh9;rw[hfx] at h1;obtain⟨bb,hρ,hp⟩: ∃bb,ρ it= .pointer (some ⟨bb,0,none⟩)/\S.φ[r]? =some (.pointer (some ⟨bb,0,none⟩)):=Qi1;obtain⟨b',he',hh,hsz⟩:=hS.blks r _ _ hb hp;cases he';rw[hop];split at he
    · rename_i hlt
      cases he;let w':World:={S.w with heap:=S.w.heap.setIfInBounds bb (.stringIter b (pos+(Utf8.decode b pos).2))}
      have hw: ∀k,k≠bb->w'.heap[k]? =S.w.heap[k]? :=fun k hk=>(MapKept.heap_set hh).2 k hk;have hz: ∀b1 m,S.Row b1 m->St.Row {S with w:=w'} b1 m:=by
        rintro b1 m ⟨ar1,t1,f1,hr1,hm1⟩;exact Qaw
      have x1:=zhO (c':= .siter b (pos+(Utf8.decode b pos).2)) hS hp hb Qf4 (fun p hp=>hp) (w':=w') rfl ztC rfl Qfb hw hz;refine⟨S.φ,w',x1,ziZ (c':= .siter b (pos+(Utf8.decode b pos).2)) hS hp hb Qf4 (fun p hp=>hp) rfl ztC rfl Qfb hw hz ⟨bb,rfl,(MapKept.heap_set hh).1,hsz⟩,.inl ⟨.tuple #[.bool true,goInt pos,.int .i32 (Utf8.decode b pos).1],?_,.tup rfl fun j p v hp hv=> ?_⟩⟩
      · simp[Instr.next,hρ,getObj,Sem.run,hh,hlt,setObj,Result.andThen,w']
      · match j with
        |0=>simp at hp hv;subst hp;subst hv;exact .sc trivial
        | 1=>
          simp at hp hv;subst hp;subst hv;refine .sc ?_;have e1:IntKind.min .i64= -9223372036854775808:=Qf5;have e2:IntKind.max .i64=9223372036854775807:=Qf5;have e3:maxLen=9223372036854775807:=rfl;show IntKind.min .i64<=_/\_<=IntKind.max .i64;rw[e1,e2];omega
        | 2=>
          simp at hp hv;subst hp;subst hv;refine .sc ?_;have e1:IntKind.min .i32= -2147483648:=Qf5;have e2:IntKind.max .i32=2147483647:=Qf5;have:=decode_max b pos;show IntKind.min .i32<=_/\_<=IntKind.max .i32;rw[e1,e2];omega
        |j+3=>simp at hp
    · rename_i hge
      cases he;refine⟨S.φ,S.w,Ext.refl _,hS,.inl ⟨.tuple #[.bool false],?_,.tup rfl fun j p v hp hv=> ?_⟩⟩
      · simp[Instr.next,hρ,getObj,Sem.run,hh,hge,Result.andThen]
      · match j with
        |0=>simp at hp hv;subst hp;subst hv;exact .sc trivial
        |j+1=>simp at hp
  · rename_i t m k hop
    split at he
    case h_2=>cases he
    rename_i r kv kt d et hfm hfk ht;split at he
    case h_2=>cases he
    rename_i es z hb hz;split at he
    case isFalse=>cases he
    rename_i hkb;simp only[Qt,Xg,Xm] at hkb;obtain⟨⟨hk,hks⟩,hlen⟩:=hkb;have h1:=hx m Qh9;have h2:=hx k Qh9;rw[hfm] at h1;rw[hfk] at h2;have e2:ρ k=kv/\tJ kv:=Qhx;obtain⟨b,hρ,hp⟩: ∃b,ρ m= .map (some b)/\S.φ[r]? =some (.map (some b)):=Qhz;obtain⟨b',clock,ar,he',hh,hsz,hborn,hrel⟩:=hS.blks r _ _ hb hp;cases he';obtain⟨t1,t2⟩:=ydV ht;have hzr: ∀(w':World),(∀k,k≠b->w'.heap[k]? =S.w.heap[k]?)-> ∀b m,S.Row b m->St.Row {S with w:=w'} b m:=by
      exact Qex
    have hnum: ∀n:Nat,n<=140737488355328->tJ (.int .i64 n):=fun n hn=>by
      have e1:IntKind.min .i64= -9223372036854775808:=Qf5;have e2:IntKind.max .i64=9223372036854775807:=Qf5;show IntKind.min .i64<=_/\_<=IntKind.max .i64;rw[e1,e2];omega
    have hl:ar.toList.length=es.length:=Qga;rw[hop];rcases qR (uM hk) es ar.toList 0 hl (fun j e q h1 h2=>(hrel j e q (by simpa using h1) h2).1) hks with ⟨m1,m2,_⟩|⟨j,q,e',m1,m2,m3,m4,m5⟩
    · rw[m1] at he
      cases he;let w':World:={S.w with heap:=S.w.heap.setIfInBounds b (.map (ar.push {key:=kv,val:=z,born:=clock}) (clock+1))}
      have hw: ∀k,k≠b->w'.heap[k]? =S.w.heap[k]? :=fun k hk=>(MapKept.heap_set hh).2 k hk;have x1:=oP (es':=es++[(kv,nI z)]) hS hp hb (w':=w') rfl ztC rfl Qfb hw (hzr _ hw);refine⟨S.φ,w',x1,ydW hS hp hb rfl ztC rfl Qfb hw (hzr _ hw) (MapKept.heap_set hh).1 Qfl ⟨by simp[hborn.1],fun q hq=>(Qo.1 hq).elim (hborn.2.1 q) (fun h=>by simp at h;subst h;exact .inl e2.2),fun i e he=> ?_⟩ (fun i e q he hq=> ?_),.inl ⟨.tuple #[z,goInt clock],?_,.tup rfl fun i p v hp hv=> ?_⟩⟩
      ·exact Qcb
      · rw[Ke] at he
        split at he
        · rename_i hi
          cases he;rw[Qr,Qi Qf3,hi,hsz,Nat.sub_self] at hq;cases hq;exact⟨rfl,sN S z⟩
        ·exact Qc4
      · simp[Instr.mapEntry,Xc t1,hρ,e2.1,MapKept.run_getObj_map hh,MapKept.run_checkKey t2 (uM hk) _ 9999,MapKept.run_findKey t2 m2,lO hz,MapKept.run_setObj_map _ hh,Result.andThen,w']
      · match i with
        |0=>simp at hp hv;subst hp;subst hv;exact sN _ z
        |1=>simp at hp hv;subst hp;subst hv;rw[hborn.1,hsz];exact .sc (hnum _ hlen)
        |i+2=>simp at hp
    · have hj:ar[j]? =some e':=by simpa using m3
      have hjl:j<es.length:=(gsi m2).1;rw[m1] at he;simp only[Yd,Option.some.injEq,Ys] at he;obtain⟨rfl,rfl⟩:=he;let w':World:={S.w with heap:=S.w.heap.setIfInBounds b (.map (ar.modify j fun e=>{e with key:=kv}) clock)}
      have hw: ∀k,k≠b->w'.heap[k]? =S.w.heap[k]? :=fun k hk=>(MapKept.heap_set hh).2 k hk;have m4':Instr.findNow d kv ar.toList 0=some (some (j,e'.val)):=by rw[m4];simp
      have x1:=oP (es':=es.set j (kv,q.2)) hS hp hb (w':=w') rfl ztC rfl Qfb hw (hzr _ hw);refine⟨S.φ,w',x1,ydW hS hp hb rfl ztC rfl Qfb hw (hzr _ hw) (MapKept.heap_set hh).1 Qfl ⟨by simp[hborn.1],fun q hq=>(Ze hq).elim (hborn.2.1 q) (fun h=>by subst h;exact .inl e2.2),fun i e he=> ?_⟩ (fun i e q' he hq=> ?_),.inl ⟨.tuple #[e'.val,goInt e'.born],?_,.tup rfl fun i p v hp hv=> ?_⟩⟩
      ·exact Qbe
      · rw[Wd] at he
        rw[Qq] at hq;split at he
        · rename_i hij
          subst hij;rw[hj] at he;cases he;rw[Qj rfl,Qj hjl] at hq;cases hq;exact⟨rfl,(hrel _ e' q hj m2).2⟩
        ·exact Qdy
      · simp[Instr.mapEntry,Xc t1,hρ,e2.1,MapKept.run_getObj_map hh,MapKept.run_checkKey t2 (uM hk) _ 9999,MapKept.run_findKey t2 m4',hj,m5,MapKept.run_keyThatStays (uM hk),MapKept.run_setObj_map _ hh,Result.andThen,w']
      · match i with
        |0=>simp at hp hv;subst hp;subst hv;exact(hrel _ e' q hj m2).2.ext x1
        |1=>simp at hp hv;subst hp;subst hv;rw[hborn.2.2 _ e' hj];exact .sc (hnum _ Qf3)
        |i+2=>simp at hp
  · rename_i t m s x hop
    split at he
    case h_2=>cases he
    rename_i r n hfm hfs;split at he
    case h_2=>cases he
    rename_i es hb;split at he
    case h_2=>cases he
    rename_i q hq0;split at he
    case isFalse=>cases he
    rename_i hn;cases he;have h1:=hx m Qh9;have h2:=hx s Qh9;have h3:=hx x Qh9;rw[hfm] at h1;rw[hfs] at h2;have e2:ρ s= .int .i64 n:=by generalize ρ s=u at h2;cases h2;rfl
    obtain⟨b,hρ,hp⟩: ∃b,ρ m= .map (some b)/\S.φ[r]? =some (.map (some b)):=Qhz;obtain⟨b',clock,ar,he',hh,hsz,hborn,hrel⟩:=hS.blks r _ _ hb hp;cases he';have hzr: ∀(w':World),(∀k,k≠b->w'.heap[k]? =S.w.heap[k]?)-> ∀b m,S.Row b m->St.Row {S with w:=w'} b m:=by
      exact Qex
    obtain⟨j,rfl⟩:=Qm hn;rw[Xw] at hq0;have hjl:j<ar.size:=by rw[hsz];exact(gsi hq0).1
    have hj:=Qx hjl;have hfi:ar.findIdx? (fun e=>(e.born:Int)==(j:Int))=some j:=by
      rw[Array.findIdx?_eq_some_iff_getElem];refine⟨hjl,by simp[hborn.2.2 j _ hj],fun i hi=> ?_⟩;have:=hborn.2.2 i _ (Qx (Nat.lt_trans hi hjl));simp[this];omega
    let w':World:={S.w with heap:=S.w.heap.setIfInBounds b (.map (ar.modify j fun e=>{e with val:=ρ x}) clock)}
    have hw: ∀k,k≠b->w'.heap[k]? =S.w.heap[k]? :=fun k hk=>(MapKept.heap_set hh).2 k hk;rw[hop];refine⟨S.φ,w',oP hS hp hb rfl ztC rfl Qfb hw (hzr _ hw),ydW hS hp hb rfl ztC rfl Qfb hw (hzr _ hw) (MapKept.heap_set hh).1 Qfl ⟨by simp[hborn.1],fun q' hq=>(Ze hq).elim (hborn.2.1 q') (fun h=>by subst h;exact hborn.2.1 q (Qk hq0)),fun i e he=> ?_⟩ (fun i e q' he hq=> ?_),.inr ⟨?_,rfl⟩⟩
    · rw[Wd] at he
      split at he
      · rename_i hij
        subst hij;rw[hj] at he;cases he;exact hborn.2.2 j ar[j] hj
      · exact hborn.2.2 i e he
    · rw[Wd] at he
      rw[Xw,Qq] at hq;split at he
      · rename_i hij
        subst hij;rw[hj] at he;cases he;rw[Qj rfl,Qj Qf3] at hq;cases hq;exact⟨(hrel _ _ q hj hq0).1,h3⟩
      ·exact Qdy
    · simp[Instr.entryStore,hρ,e2,asInt,asIntOf,MapKept.run_getObj_map hh,hfi,MapKept.run_setObj_map _ hh,Result.andThen,w']
  · cases he
theorem OpOk.of_beff{G:Glob}{rd:Option Nat}{o:Oper}{h h':Heap}{f:Operand->PV}{p:PV}{R:PV->Heap->Prop}(he:zcL P h f o.op=some (p,h'))(hr:R p h'):
    OpOk P G rd o h f R:=by
  intro φ w X a K Q hS hG hx hK;have hd: ∀c,o.op≠ .defer c:=fun c hop=>by rw[hop] at he;simp[zcL] at he
  obtain⟨φ',w',x,hS',hrun⟩:=zj8 (P:=P) (S:=⟨φ,h,w,X⟩) (o:=o) (ρ:=a.eval) hS hx he;refine⟨fun f _=>trivial,?_⟩;rw[Oper.semAt_eq _ _ _ hd];rcases hrun with ⟨v,hrun,hv⟩|⟨hrun,rfl⟩
  · rw[hrun];exact hK φ' h' w' p v x hS' hv hr
  · rw[hrun];exact hK φ' h' w' .ud undef x hS' .ud hr
end
end Go.AL
