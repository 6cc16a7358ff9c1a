/-
  'aeff': operations that lay blocks or write them.
-/
import Derived.Test.YtlcjmejclpilhaaGreatDoorX02
import Derived.Laws.MakeOwn
set_option linter.unusedSimpArgs false
set_option linter.unusedVariables false
set_option maxRecDepth 100000
set_option maxHeartbeats 4000000
namespace Go.AL
open Go.RowKit
def wD(P:Program)(t:TypeId):Option (TypeId×Nat×Nat):=
 match P.underlying t with
 | some (.slice e)=>match P.info? e with
  |some i=>match i.zero with
   |some z=>if z.cells.size=i.size/\0<i.size then some (e,i.size,i.bytes) else none
   |none=>none
  |none=>none
 |_=>none
theorem uH{P:Program}{t e:TypeId}{k b:Nat}(h:wD P t=some (e,k,b)):P.underlying t=some (.slice e)/\ ∃i z,P.info? e=some i/\i.zero=some z/\i.size=k/\i.bytes=b/\z.cells.size=k/\0<k:=by
 unfold wD at h;split at h
 ·rename_i e' hu;split at h
  ·rename_i i hi;split at h
   ·rename_i z hz;split at h
    ·rename_i hc;cases h;exact⟨hu,i,z,hi,hz,rfl,rfl,hc.1,hc.2⟩
    ·cases h
   ·cases h
  ·cases h
 ·cases h
def wA(cs:List PV)(off k len:Nat):List (List PV):=(List.range len).map fun i=>(cs.drop (off+i*k)).take k
def rO(h:Heap)(k:Nat):PV->Option (List (List PV))
 | .nil=>some []
 | .ts k' e=>if k'=k then some e else none
 | .tc k' e=>if k'=k then some e else none
 | .vec _ k' e=>if k'=k then some e else none
 | .ms r off k' len=>if k'=k then(match h[r]? with|some (.var _ cs)=>some (wA cs off k len)|_=>none) else none
 |_=>none
theorem vN{cs:List PV}{off k len i:Nat}{e:List PV}(h:(wA cs off k len)[i]? =some e):i<len/\e=(cs.drop (off+i*k)).take k:=by
 unfold wA at h;rw[Qu] at h;cases hk:(List.range len)[i]? with
 |none=>rw[hk] at h;cases h
 |some j=>
  rw[hk] at h;cases h;obtain⟨hlt,rfl⟩:=gsi hk;simp at hlt ⊢
  exact hlt
structure SrcOk(S:St)(k:Nat)(xs:List (List PV))(a:Option Addr)(news:List Value):Prop where
 len:news.length=xs.length*k
 elen: ∀(i:Nat)(e:List PV),xs[i]? =some e->e.length=k
 addr:0<xs.length-> ∃ad,a=some ad/\ ∀j u,news[j]? =some u->S.w.cell? (ad.add j)=some u
 one: ∀u∈news,u.oneCell'=true
 rel: ∀(i:Nat)(e:List PV)(j:Nat)(p:PV)(u:Value),xs[i]? =some e->e[j]? =some p->news[i*k+j]? =some u->VRel S p u
theorem zaN{S:St}{k:Nat}{xs:List (List PV)}{v:Value}(h:VRel S (.ts k xs) v): ∃a c news,v= .slice a xs.length c/\SrcOk S k xs a news:=by
 obtain⟨a,c,ad,val,rfl,h1,h2,h3,h4,h5,h6⟩:=uU h;refine⟨a,c,(List.range (xs.length*k)).map val,rfl,Qf4,h3,fun hn=>⟨ad,h4 Qf3,fun j u hu=> ?_⟩,fun u hu=> ?_,fun i e j p u hi hp hu=> ?_⟩
 ·rw[Qu] at hu;cases hk:(List.range (xs.length*k))[j]? with
  |none=>rw[hk] at hu;cases hu
  |some j'=>
   rw[hk] at hu;cases hu;obtain⟨hlt,rfl⟩:=gsi hk;simp at hlt ⊢
   exact(h5 j hlt).1
 ·simp at hu;obtain⟨j,hj,rfl⟩:=hu;exact(h5 j hj).2.1
 ·rw[Qu] at hu;cases hk:(List.range (xs.length*k))[i*k+j]? with
  |none=>rw[hk] at hu;cases hu
  |some j'=>
   rw[hk] at hu;cases hu;obtain⟨hlt,rfl⟩:=gsi hk;simp;exact h6 i e j p hi hp
theorem iO{S:St}(hS:SRel S){k:Nat}{p:PV}{xs:List (List PV)}{v:Value}(he:rO S.h k p=some xs)(hv:VRel S p v)(hk:0<k): ∃a c news,v= .slice a xs.length c/\SrcOk S k xs a news:=by
 cases p<;>simp only[rO,reduceCtorEq] at he<;>(try cases he)
 ·cases hv;exact⟨none,0,[],rfl,Qf4,Qf4,fun h=>absurd h Qf4,Qf4,Qf4⟩
 ·split at he
  ·cases he;rename_i e;subst e;exact zaN hv
  ·cases he
 ·split at he
  ·cases he;rename_i e;subst e;cases hv with|tc ht=>exact zaN ht
  ·cases he
 ·split at he
  ·cases he;rename_i e;subst e;cases hv with|vec ht=>exact zaN ht
  ·cases he
 ·split at he
  case isFalse=>cases he
  rename_i e;subst e;split at he
  case h_2=>cases he
  rename_i r off k len _ t cs hb;cases he;cases hv with
  |oms hb' _ _=>rw[hb] at hb';cases hb'
  | ms hp hb' hl hcc hm hzz=>
   rename_i c b t' cs';rw[hb] at hb';cases hb';obtain⟨b0,arr,hbe,hh,hsz,ho1,hcs⟩:=hS.blks r _ _ hb hp;cases hbe;have hln:(wA cs off k len).length=len:=by simp[wA]
   refine⟨some ⟨b,off,none⟩,c,(arr.toList.drop off).take (len*k),by rw[hln],by simp[wA];omega,fun i e hi=> ?_,fun _=>⟨_,rfl,fun j u hu=> ?_⟩,fun u hu=> ?_,fun i e j p u hi hp' hu=> ?_⟩
   ·obtain⟨hlt,rfl⟩:=vN hi;simp;have:i*k+k<=len*k:=by have:=Zw k (show i+1<=len by omega);rwa [Wo,Nat.one_mul] at this
    omega
   ·rw[Addr.add_lit,cell_of_row _ _ _ _ _ _ hh];rw[Xr] at hu;split at hu
    ·rw[Yg] at hu;simpa using hu
    ·cases hu
   ·have:=List.mem_of_mem_drop (Zk hu);obtain⟨i,hi,rfl⟩:=Qy this;exact ho1 i _ (by simp at hi ⊢)
   ·obtain⟨hlt,rfl⟩:=vN hi;rw[Xr] at hp' hu;split at hp'
    ·split at hu
     ·rw[Yg] at hp' hu;exact hcs _ p u hp' (by rw[Ji];simpa using hu)
     ·cases hu
    ·cases hp'
theorem zaU{i k j n:Nat}(hi:i<n)(hj:j<k):i*k+j<n*k:=by
 have:=Zw k (show i+1<=n by omega);rw[Wo,Nat.one_mul] at this;omega
theorem oF{S:St}{k n b c:Nat}{els:List (List PV)}{all:List Value}(hl:els.length=n)(hk: ∀(i:Nat)(e:List PV),els[i]? =some e->e.length=k)(hc:n<=c)(hm:c<=maxLen)
  (hM: ∀j u,all[j]? =some u->S.M ⟨b,j,none⟩ u) (hal:all.length=n*k) (hr: ∀(i:Nat)(e:List PV)(j:Nat)(p:PV)(u:Value),els[i]? =some e->e[j]? =some p->all[i*k+j]? =some u->VRel S p u):
  VRel S (.ts k els) (.slice (some ⟨b,0,none⟩) n c):=by
 refine .ts hl hc hm hk ⟨b,0,none⟩ (fun _=>rfl) (fun j=>all.getD j undef) (fun j hj=> ?_) (fun i e j p hi hp=> ?_)
 ·rw[Addr.add_lit,Yd];exact hM j _ (by rw[Qb,Qa Qf3];rfl)
 ·have hi':=(gsi hi).1;have hj':=(gsi hp).1;rw[hk i e hi] at hj';have:=zaU (k:=k) (show i<n by omega) hj';exact hr i e j p _ hi hp (by rw[Qb,Qa Qf3];rfl)
theorem ziH{S:St}(hS:SRel S){e:TypeId}{k n c:Nat}(arr:Array Value)(hsz:arr.size=c*k)(hn:n<=c)(hm:c<=maxLen):
  let S':=({S with w:=S.w.drew.alloc (.cells arr e)}:St).push (.slice (some ⟨S.w.heap.size,0,none⟩) n c) (.vec e k n)
  Ext S S'/\SRel S':=by
 intro S';have x0:Ext S {S with w:=S.w.drew.alloc (.cells arr e)}:=by
  have:=wT hS (.cells arr e);exact⟨this.x,this.os,ztC,this.output,this.size,this.unt,this.mem,this.blks,this.rows⟩
 have x:Ext S S':=tZ x0 hS rfl rfl _ _ Qhd;exact⟨x,uP hS x rfl rfl rfl (fun k hk=>Below.heap_alloc S.w.drew _ _ hk) (.inr ⟨S.w.heap.size,c,arr,rfl,heap_alloc_new S.w.drew _,hn,hm,hsz⟩) Qhd⟩
theorem kQ{S:St}(hS:SRel S){r n n':Nat}{e:TypeId}{k:Nat}{v:Value}(hb:S.h[r]? =some (.vec e k n)){w':World}(hn:n<n')(ho:w'.os=S.w.os)(ht:TapeLe S.w w')(hu:w'.output=S.w.output)(hs:S.w.heap.size<=w'.heap.size)
  (hw: ∀b,b<S.w.heap.size->(∀y,S.φ[r]? =some y->sC y=some b->sC v=some b/\ ∀j u,j<n*k->S.w.cell? ⟨b,j,none⟩=some u->w'.cell? ⟨b,j,none⟩=some u)\/w'.heap[b]? =S.w.heap[b]?)
  (zg1: ∀b,b<S.w.heap.size->(∀y,S.φ[r]? =some y->sC y≠some b)->w'.heap[b]? =S.w.heap[b]?)
  (hv: ∀b,sC v=some b->(∃y,S.φ[r]? =some y/\sC y=some b)\/S.w.heap.size<=b)
  (hz: ∀b m,S.Row b m->St.Row {S with w:=w'} b m) (hnew:(v= .slice none 0 0/\n'=0)\/ ∃(b c:Nat)(arr:Array Value),v= .slice (some ⟨b,0,none⟩) n' c/\w'.heap[b]? =some (.cells arr e (0,0))/\n'<=c/\c<=maxLen/\arr.size=c*k):
  Ext S {S with φ:=S.φ.set r v,h:=S.h.set r (.vec e k n'),w:=w'}/\SRel {S with φ:=S.φ.set r v,h:=S.h.set r (.vec e k n'),w:=w'}:=by
 have hr:r<S.h.length:=(gsi hb).1;have hr':r<S.φ.length:=Qgq;have hφ:S.φ[r]? =some S.φ[r]:=Qa hr';have x:Ext S {S with φ:=S.φ.set r v,h:=S.h.set r (.vec e k n'),w:=w'}:=by
  refine⟨rfl,ho,ht,hu,hs,fun b hbl hno=>⟨?_,zg1 b hbl fun y hy hby=>hno ⟨r,y,hy,hby⟩⟩,fun a u hm=> ?_,fun r' c hc=> ?_,hz⟩
  ·rintro⟨r',y,hy,hby⟩;simp only[Qq] at hy;by_cases er:r=r'
   ·subst er;rw[Qj rfl,Qj hr'] at hy;cases hy;rcases hv b hby with ⟨z,hz,hbz⟩|h
    ·exact hno ⟨r,z,hz,hbz⟩
    ·omega
   ·rw[Qi er] at hy;exact hno ⟨r',y,hy,hby⟩
  ·obtain⟨h1,h2,h3,h4,h5,h6⟩:=hm;obtain⟨ab,ao,asp⟩:=a;simp only at h3 h4 h6;subst h3;refine⟨?_,h2,rfl,Yf h4 hs,h5,fun r' y hy hby=> ?_⟩
   ·by_cases hown:sC S.φ[r]=some ab
    ·obtain⟨e',k',m',hh,hlt⟩:=h6 r _ hφ hown;rw[hb] at hh;cases hh;rcases hw ab h4 with h|h
     ·exact(h _ hφ hown).2 ao u hlt h1
     ·exact(World.cell?_of_block (a:=⟨ab,ao,none⟩) h).trans h1
    ·exact(World.cell?_of_block (a:=⟨ab,ao,none⟩) (zg1 ab h4 fun y hy hby=>by rw[hφ] at hy;cases hy;exact hown hby)).trans h1
   ·simp only[Qq] at hy ⊢
    by_cases er:r=r'
    ·subst er;rw[Qj rfl,Qj hr'] at hy;rw[Qj rfl,Qj hr];cases hy;refine⟨e,k,n',rfl,?_⟩;rcases hv ab hby with ⟨z,hz,hbz⟩|h
     ·obtain⟨e',k',m',hh,hlt⟩:=h6 r z hz hbz;rw[hb] at hh;cases hh;exact Yf hlt (Zw k (Nat.le_of_lt hn))
     ·omega
    ·rw[Qi er] at hy ⊢
     exact h6 r' y hy hby
  ·by_cases er:r=r'
   ·subst er;rw[hb] at hc;cases hc;exact⟨.vec e k n',by simp[hr],by simp only[Blk.le];exact⟨trivial,trivial,Nat.le_of_lt hn,fun h=>absurd h Qf3⟩⟩
   ·exact⟨c,by simp only[Qq,Qi er];exact hc,Blk.le_refl c (by simp only[Qq,Qi er])⟩
 refine⟨x,by simp[hS.len],fun r' c y hc hy=> ?_,fun r1 r2 y1 y2 b h1 h2 hb1 hb2=> ?_,fun a ha=>Yf (hS.xlt a ha) hs,fun a ha r1 y1 h1 hb1=> ?_⟩
 ·simp only[Qq] at hc hy;by_cases er:r=r'
  ·subst er;rw[Qj rfl,Qj hr] at hc;rw[Qj rfl,Qj hr'] at hy;cases hc;cases hy;exact hnew
  ·rw[Qi er] at hc hy;refine(hS.blks r' c y hc hy).ext x fun b hby=>zg1 b (hS.own_lt ⟨r',y,hy,hby⟩) fun z hz hbz=> ?_;exact er (hS.inj r r' z y b hz hy hbz hby)
 ·have key: ∀r1 y1,(S.φ.set r v)[r1]? =some y1->sC y1=some b->(r1≠r/\S.φ[r1]? =some y1)\/(r1=r/\((∃y,S.φ[r]? =some y/\sC y=some b)\/S.w.heap.size<=b)):=by
   intro r1 y1 h hbb;simp only[Qq] at h;by_cases er:r=r1
   ·subst er;rw[Qj rfl,Qj hr'] at h;cases h;exact .inr ⟨rfl,hv b hbb⟩
   ·rw[Qi er] at h;exact .inl ⟨fun e=>er e.symm,h⟩
  rcases key r1 y1 h1 hb1 with ⟨n1,g1⟩|⟨rfl,g1⟩<;>rcases key r2 y2 h2 hb2 with ⟨n2,g2⟩|⟨e2,g2⟩
  ·exact hS.inj _ _ _ _ _ g1 g2 hb1 hb2
  ·subst e2;rcases g2 with ⟨z,hz,hbz⟩|h
   ·exact hS.inj _ _ _ _ _ g1 hz hb1 hbz
   ·have:=hS.own_lt ⟨r1,y1,g1,hb1⟩;omega
  ·rcases g1 with ⟨z,hz,hbz⟩|h
   ·exact hS.inj _ _ _ _ _ hz g2 hbz hb2
   ·have:=hS.own_lt ⟨r2,y2,g2,hb2⟩;omega
  ·exact e2.symm
 ·simp only[Qq] at h1;by_cases er:r=r1
  ·subst er;rw[Qj rfl,Qj hr'] at h1;cases h1;rcases hv _ hb1 with ⟨z,hz,hbz⟩|h
   ·exact hS.xown a ha r z hz hbz
   ·have:=hS.xlt a ha;omega
  ·rw[Qi er] at h1;exact hS.xown a ha r1 y1 h1 hb1
theorem sH{k n:Nat}{els xs:List (List PV)}{olds news:List Value}{S S':St}(hl:els.length=n)(ho:olds.length=n*k)(hk: ∀(i:Nat)(e:List PV),els[i]? =some e->e.length=k)
  (hr: ∀(i:Nat)(e:List PV)(j:Nat)(p:PV)(u:Value),els[i]? =some e->e[j]? =some p->olds[i*k+j]? =some u->VRel S p u)
  (hk': ∀(i:Nat)(e:List PV),xs[i]? =some e->e.length=k) (hr': ∀(i:Nat)(e:List PV)(j:Nat)(p:PV)(u:Value),xs[i]? =some e->e[j]? =some p->news[i*k+j]? =some u->VRel S p u) (x:Ext S S'):
  (∀(i:Nat)(e:List PV),(els++xs)[i]? =some e->e.length=k)/\
  ∀(i:Nat)(e:List PV)(j:Nat)(p:PV)(u:Value),(els++xs)[i]? =some e->e[j]? =some p->(olds++news)[i*k+j]? =some u->VRel S' p u:=by
 constructor
 ·intro i e hi;rw[Qr] at hi;split at hi
  ·exact hk i e hi
  ·exact hk' _ e hi
 ·intro i e j p u hi hp hu;rw[Qr] at hi hu;split at hi
  ·rename_i hlt;have hj:=(gsi hp).1;rw[hk i e hi] at hj;have:=zaU (k:=k) (show i<n by omega) hj;rw[Qj Qf3] at hu;exact(hr i e j p u hi hp hu).ext x
  ·rename_i hge;have:n*k<=i*k:=Zw k Qf3;rw[Qi Qf3] at hu;refine(hr' _ e j p u hi hp ?_).ext x;rw[<-hu,ho];congr 1;rw[Nat.sub_mul,hl];omega
theorem oH{n m b:Nat}(h:(n+m)*b<=140737488355328):(n+m)*b<=281474976710656:=Qf3
set_option maxHeartbeats 1000000 in
theorem jW{P:Program}{S:St}(hS:SRel S){t ty e:TypeId}{r k b:Nat}{els xs:List (List PV)}{q:PV}{u v:Value}(ht:wD P t=some (e,k,b))(hu:VRel S (.vec r k els) u)(hb:S.h[r]? =some (.vec e k els.length))
  (hq:rO S.h k q=some xs) (hv:VRel S q v) (hbytes:(els.length+xs.length)*b<=140737488355328) (hlen:els.length+xs.length<=140737488355328):
  ∃z w' φ',(Builtin.append_ #[t,t] ty #[u,v]).run P S.w= .ok z w'/\Ext S {S with φ:=φ',h:=S.h.set r (.vec e k (els.length+xs.length)),w:=w'}/\
   SRel {S with φ:=φ',h:=S.h.set r (.vec e k (els.length+xs.length)),w:=w'}/\VRel {S with φ:=φ',h:=S.h.set r (.vec e k (els.length+xs.length)),w:=w'} (.vec r k (els++xs)) z:=by
 obtain⟨htu,i,zv,hi,hz,hsz,hby,hzs,hk0⟩:=uH ht;have hr:r<S.h.length:=(gsi hb).1;have hmx:(140737488355328:Nat)<=maxLen:=Qfr;cases hu with
 | vec hts hb' hle ho=>
  rename_i n0 e0;rw[hb] at hb';cases hb';have hφ:=ho rfl;obtain⟨a,c,news,rfl,hsrc⟩:=iO hS hq hv hk0;rcases Yr xs.length with hx0|hx0
  ·have hxs:xs=[]:=Xi hx0;subst hxs;refine⟨u,S.w,S.φ,?_,?_⟩
   ·obtain⟨a1,c1,ad1,val1,rfl,g1,g2,_⟩:=uU hts;simp[Builtin.append_,Xc htu,sizeOf,typeInfo,hi,Builtin.lenOf,Builtin.firstCells,g1];cases a<;>cases a1<;>simp[Builtin.firstCells,loadCells,loadCellsFrom,storeCells]
   ·exact Qaz
  ·obtain⟨ad,rfl,hnews⟩:=hsrc.addr hx0;obtain⟨a1,c1,ad1,val1,hu1,g1,g2,g3,g4,g5,g6⟩:=uU hts;obtain⟨olds,holds⟩: ∃olds:List Value,olds=(List.range (els.length*k)).map val1:=⟨_,rfl⟩
   have hol:olds.length=els.length*k:=Qgb;have hog: ∀j v,olds[j]? =some v->j<els.length*k/\v=val1 j:=fun j v hj=>by
    exact Qa9
   have hor: ∀(i:Nat)(e:List PV)(j:Nat)(p:PV)(u:Value),els[i]? =some e->e[j]? =some p->olds[i*k+j]? =some u->VRel S p u:=fun i e j p u hi hp hu=>by
    exact Qbz
   have hal:(olds++news).length=(els.length+xs.length)*k:=Qgz;have hlenA:(els++xs).length=els.length+xs.length:=Ql;have hone: ∀u∈olds++news,u.oneCell'=true:=fun u hu=>by
    exact Qav
   have fin: ∀(φ':List Value)(w':World)(b2 c2:Nat)(arr:Array Value),Ext S {S with φ:=φ',h:=S.h.set r (.vec e k (els.length+xs.length)),w:=w'}->
     SRel {S with φ:=φ',h:=S.h.set r (.vec e k (els.length+xs.length)),w:=w'}->φ'=S.φ.set r (.slice (some ⟨b2,0,none⟩) (els.length+xs.length) c2)->w'.heap[b2]? =some (.cells arr e (0,0))->
     arr.toList.take ((els.length+xs.length)*k)=olds++news->els.length+xs.length<=c2->c2<=maxLen->
     VRel {S with φ:=φ',h:=S.h.set r (.vec e k (els.length+xs.length)),w:=w'} (.vec r k (els++xs)) (.slice (some ⟨b2,0,none⟩) (els.length+xs.length) c2):=by
    intro φ' w' b2 c2 arr x hS' hφ' hw' harr zxI hm2;have hown:φ'[r]? =some (.slice (some ⟨b2,0,none⟩) (els.length+xs.length) c2):=by rw[hφ',Qq,Qj rfl,Qj Qgq]
    obtain⟨q1,q2⟩:=sH rfl hol g3 hor hsrc.elen hsrc.rel x;refine .vec (n:=els.length+xs.length) (e:=e) (oF hlenA q1 zxI hm2 (fun j u hj=> ?_) hal q2) (by simp[hr]) Qf3 (fun _=>hown);have hjl:=(gsi hj).1;refine⟨?_,hone u (Qk hj),rfl,(Qz.1 hw').1,fun hx=> ?_,fun r' y hy hby=> ?_⟩
    ·exact Qce
    ·exact hS'.xown _ hx r _ hown rfl
    ·exact Qbm
   have zc: ∀(N cp:Nat),N<=cp-> ∀(pre:List Value),pre.length=N*k->(pre.toArray++Builtin.zeroCells zv.cells (cp-N)).size=cp*k:=fun N cp hN pre hp=>by
    rw[Wt,Jd,size_zeroCells,hzs,hp,<-Wo];congr 1;omega
   have moved: ∀(w':World)(old:Nat),old<els.length+xs.length->w'=S.w.drew.alloc (.cells ((olds++news).toArray++Builtin.zeroCells zv.cells (grownCap S.w (els.length+xs.length) old e-(els.length+xs.length))) e)->
     (Builtin.append_ #[t,t] ty #[u,.slice (some ad) xs.length c]).run P S.w= .ok (.slice (some ⟨S.w.heap.size,0,none⟩) (els.length+xs.length) (grownCap S.w (els.length+xs.length) old e)) w'->
     ∃z w' φ',(Builtin.append_ #[t,t] ty #[u,.slice (some ad) xs.length c]).run P S.w= .ok z w'/\Ext S {S with φ:=φ',h:=S.h.set r (.vec e k (els.length+xs.length)),w:=w'}/\
      SRel {S with φ:=φ',h:=S.h.set r (.vec e k (els.length+xs.length)),w:=w'}/\VRel {S with φ:=φ',h:=S.h.set r (.vec e k (els.length+xs.length)),w:=w'} (.vec r k (els++xs)) z:=by
    intro w' old hold hw' hrun;have hge:=grownCap_ge S.w (els.length+xs.length) old e;have hcm:=grownCap_le_maxLen S.w (els.length+xs.length) old e Qf3;have hnewb:w'.heap[S.w.heap.size]? =some (.cells ((olds++news).toArray++Builtin.zeroCells zv.cells (grownCap S.w (els.length+xs.length) old e-(els.length+xs.length))) e (0,0)):=by
     rw[hw'];exact heap_alloc_new S.w.drew _
    have hsame: ∀b,b<S.w.heap.size->w'.heap[b]? =S.w.heap[b]? :=fun b hb=>by rw[hw'];exact Below.heap_alloc S.w.drew _ _ hb
    obtain⟨x,hS'⟩:=kQ (v:= .slice (some ⟨S.w.heap.size,0,none⟩) (els.length+xs.length) (grownCap S.w (els.length+xs.length) old e)) (n':=els.length+xs.length) (w':=w') hS hb Qf3 (by rw[hw'];rfl) (by rw[hw'];exact ztC) (by rw[hw'];rfl) (by rw[hw'];simp)
     (fun b hb=> .inr (hsame b hb)) (fun b hb _=>hsame b hb) (fun b hb=> .inr (by simp[sC] at hb;omega)) (fun b m ⟨ar,t1,f1,h1,h2⟩=>⟨ar,t1,f1,(hsame b (Qz.1 h1).1).trans h1,h2⟩) (.inr ⟨_,_,_,rfl,hnewb,hge,hcm,zc _ _ hge _ hal⟩)
    refine⟨_,w',_,hrun,x,hS',fin _ w' _ _ _ x hS' rfl hnewb ?_ hge hcm⟩;simp only[Array.toList_append];rw[<-hal];exact List.take_left
   rcases hS.blks r _ _ hb hφ with ⟨he,hn0⟩|⟨g,cp,cur,he,hg,hnc,hcm,hcs⟩
   ·have ho0:olds=[]:=Xi (by rw[hol,hn0,Ki]);have hxn:0+xs.length=els.length+xs.length:=Qf3;have hr1:=run_append_nil (P:=P) S.w t ty e i zv htu hi hz ad xs.length c news Qgh hnews hx0 Qf3 (by rw[hby];have:=oH hbytes;rw[hn0,Yd] at this;exact this);exact Qee
   ·have he1:els.length=els.length:=rfl;have hu1':=hu1;rw[he] at hu1;cases hu1;by_cases hroom:els.length+xs.length<=c1
    ·have hcur:cur.toList.take (els.length*k)=olds:=by
      exact Qaf
     have hfit:els.length*k+news.length<=cur.size:=by rw[hsrc.len,hcs,<-Wo];exact Zw _ hroom
     have hr1:=run_append_room (P:=P) S.w t ty e i htu hi g els.length c1 cur hg ad xs.length c news Qgh hnews hsrc.one hroom (by rw[hsz];exact hfit);rw[hsz,hcur] at hr1;exact Qa2
    ·have hold: ∀j v,olds[j]? =some v->S.w.cell? ((⟨g,0,none⟩:Addr).add j)=some v:=fun j v hj=>by
      exact Qac
     have hr1:=run_append_grow (P:=P) S.w t ty e i zv htu hi hz ⟨g,0,none⟩ els.length c1 olds (by rw[hol,hsz]) hold ad xs.length c news Qgh hnews Qf3 Qf3 Qhm;exact Qdv
theorem zdS{S:St}(hS:SRel S)(e:TypeId)(k:Nat):Ext S (S.push (.slice none 0 0) (.vec e k 0))/\SRel (S.push (.slice none 0 0) (.vec e k 0))/\VRel (S.push (.slice none 0 0) (.vec e k 0)) (.vec S.h.length k []) (.slice none 0 0):=by
 have x:Ext S (S.push (.slice none 0 0) (.vec e k 0)):=tZ (Ext.refl S) hS rfl rfl _ _ (by intro n hn;simp[sC] at hn);refine⟨x,uP hS x rfl rfl rfl (fun _ _=>rfl) (.inl ⟨rfl,rfl⟩) (by intro n hn;simp[sC] at hn),.vec (n:=0) (e:=e) ?_ Qfz Qf4 (fun _=>by simp[St.push,hS.len])⟩;exact Qd0
theorem append_nil{P:Program}{S:St}(hS:SRel S){t ty e:TypeId}{k b:Nat}{xs:List (List PV)}{q:PV}{u v:Value}(ht:wD P t=some (e,k,b))(hu:VRel S .nil u)
  (hq:rO S.h k q=some xs) (hv:VRel S q v) (hbytes:xs.length*b<=140737488355328) (hlen:xs.length<=140737488355328):
  ∃z w' φ',(Builtin.append_ #[t,t] ty #[u,v]).run P S.w= .ok z w'/\Ext S {S with φ:=φ',h:=S.h++[.vec e k xs.length],w:=w'}/\
   SRel {S with φ:=φ',h:=S.h++[.vec e k xs.length],w:=w'}/\VRel {S with φ:=φ',h:=S.h++[.vec e k xs.length],w:=w'} (.vec S.h.length k xs) z:=by
 cases hu;obtain⟨x1,h1,v1⟩:=zdS hS e k;have hq':rO (S.push (.slice none 0 0) (.vec e k 0)).h k q=some xs:=by
  cases q<;>simp only[rO] at hq ⊢ <;>try exact hq
  rename_i r off k' len;split at hq
  ·rename_i hk;rw[Qj hk];split at hq
   ·rename_i tt cs hb;have hr:=(gsi hb).1;simp only[St.push,Qr,Qj hr,hb];exact hq
   ·cases hq
  ·cases hq
 obtain⟨z,w',φ',hr,x2,h2,v2⟩:=jW (P:=P) (ty:=ty) h1 ht v1 Qfz hq' (hv.ext x1) (by simpa using hbytes) Qge;have eh:(S.push (.slice none 0 0) (.vec e k 0)).h.set S.h.length (.vec e k (([]:List (List PV)).length+xs.length))=S.h++[.vec e k xs.length]:=by
  simp[St.push]
 rw[eh] at x2 h2 v2;exact⟨z,w',φ',hr,x1.trans x2,h2,v2⟩
theorem zeK{P:Program}{S:St}(hS:SRel S){t ty e:TypeId}{k b:Nat}{els xs:List (List PV)}{q:PV}{u v:Value}(ht:wD P t=some (e,k,b))(hu:VRel S (.tc k els) u)
  (hq:rO S.h k q=some xs) (hv:VRel S q v) (hbytes:(els.length+xs.length)*b<=140737488355328) (hlen:els.length+xs.length<=140737488355328) (hx0:0<xs.length):
  ∃z w' φ',(Builtin.append_ #[t,t] ty #[u,v]).run P S.w= .ok z w'/\Ext S {S with φ:=φ',h:=S.h++[.vec e k (els.length+xs.length)],w:=w'}/\
   SRel {S with φ:=φ',h:=S.h++[.vec e k (els.length+xs.length)],w:=w'}/\VRel {S with φ:=φ',h:=S.h++[.vec e k (els.length+xs.length)],w:=w'} (.vec S.h.length k (els++xs)) z:=by
 obtain⟨htu,i,zv,hi,hz,hsz,hby,hzs,hk0⟩:=uH ht;have hmx:(140737488355328:Nat)<=maxLen:=Qfr;cases hu with
 | tc hts=>
  rename_i n a1;obtain⟨a,c,news,rfl,hsrc⟩:=iO hS hq hv hk0;obtain⟨ad,rfl,hnews⟩:=hsrc.addr hx0;obtain⟨a2,c1,ad1,val1,hu1,g1,g2,g3,g4,g5,g6⟩:=uU hts;cases hu1;obtain⟨olds,holds⟩: ∃olds:List Value,olds=(List.range (els.length*k)).map val1:=⟨_,rfl⟩
  have hol:olds.length=els.length*k:=Qgb;have hog: ∀j v,olds[j]? =some v->j<els.length*k/\v=val1 j:=fun j v hj=>by
   exact Qa9
  have hor: ∀(i:Nat)(e:List PV)(j:Nat)(p:PV)(u:Value),els[i]? =some e->e[j]? =some p->olds[i*k+j]? =some u->VRel S p u:=fun i e j p u hi hp hu=>by
   exact Qbz
  have hal:(olds++news).length=(els.length+xs.length)*k:=Qgz;have hone: ∀u∈olds++news,u.oneCell'=true:=fun u hu=>by
   exact Qav
  have key: ∀old,old<els.length+xs.length->(Builtin.append_ #[t,t] ty #[.slice a1 els.length els.length,.slice (some ad) xs.length c]).run P S.w=
    .ok (.slice (some ⟨S.w.heap.size,0,none⟩) (els.length+xs.length) (grownCap S.w (els.length+xs.length) old e)) (S.w.drew.alloc (.cells ((olds++news).toArray++Builtin.zeroCells zv.cells (grownCap S.w (els.length+xs.length) old e-(els.length+xs.length))) e))->
    ∃z w' φ',(Builtin.append_ #[t,t] ty #[.slice a1 els.length els.length,.slice (some ad) xs.length c]).run P S.w= .ok z w'/\Ext S {S with φ:=φ',h:=S.h++[.vec e k (els.length+xs.length)],w:=w'}/\
     SRel {S with φ:=φ',h:=S.h++[.vec e k (els.length+xs.length)],w:=w'}/\VRel {S with φ:=φ',h:=S.h++[.vec e k (els.length+xs.length)],w:=w'} (.vec S.h.length k (els++xs)) z:=by
   intro old hold hrun;have hge:=grownCap_ge S.w (els.length+xs.length) old e;have hcm:=grownCap_le_maxLen S.w (els.length+xs.length) old e Qf3;have hsz':((olds++news).toArray++Builtin.zeroCells zv.cells (grownCap S.w (els.length+xs.length) old e-(els.length+xs.length))).size=grownCap S.w (els.length+xs.length) old e*k:=by
    rw[Wt,Jd,size_zeroCells,hzs,hal,<-Wo];congr 1;omega
   obtain⟨x,hS'⟩:=ziH (e:=e) hS _ hsz' hge hcm;refine⟨_,_,_,hrun,x,hS',?_⟩;obtain⟨q1,q2⟩:=sH rfl hol g3 hor hsrc.elen hsrc.rel x;have hown:(S.φ++[Value.slice (some ⟨S.w.heap.size,0,none⟩) (els.length+xs.length) (grownCap S.w (els.length+xs.length) old e)])[S.h.length]? =some (Value.slice (some ⟨S.w.heap.size,0,none⟩) (els.length+xs.length) (grownCap S.w (els.length+xs.length) old e)):=by rw[<-hS.len];simp
   refine .vec (n:=els.length+xs.length) (e:=e) (oF (Ql) q1 hge hcm (fun j u hj=> ?_) hal q2) Qf4 Qf4 (fun _=>hown);have hjl:=(gsi hj).1;have hnewb:(S.w.drew.alloc (.cells ((olds++news).toArray++Builtin.zeroCells zv.cells (grownCap S.w (els.length+xs.length) old e-(els.length+xs.length))) e)).heap[S.w.heap.size]? =some (.cells ((olds++news).toArray++Builtin.zeroCells zv.cells (grownCap S.w (els.length+xs.length) old e-(els.length+xs.length))) e (0,0)):=heap_alloc_new S.w.drew _;refine⟨?_,hone u (Qk hj),rfl,(Qz.1 hnewb).1,fun hx=>hS'.xown _ hx S.h.length _ hown rfl,fun r' y hy hby=> ?_⟩
   ·show World.cell? (S.w.drew.alloc _) _=_;rw[cell_of_row _ _ _ _ _ _ hnewb];rw[We,Qj Qgc];simpa using hj
   ·simp only[sC] at hby;have:r'=S.h.length:=hS'.inj r' _ y _ S.w.heap.size hy hown hby rfl;subst this;exact⟨e,k,els.length+xs.length,by simp[St.push],by rw[<-hal];exact hjl⟩
  cases a1 with
  |none=>
   have h0:els.length=0:=Nat.eq_zero_of_not_pos fun h=>by have:=g4 Qf3;cases this
   have ho0:olds=[]:=Xi (by rw[hol,h0,Ki]);have hr1:=run_append_nil (P:=P) S.w t ty e i zv htu hi hz ad xs.length c news Qgh hnews hx0 Qf3 Qht;refine key 0 Qf3 ?_;rw[ho0,h0,Yd,Yj];exact hr1
  | some b1=>
   have hold: ∀j v,olds[j]? =some v->S.w.cell? (b1.add j)=some v:=fun j v hj=>by
    exact Qac
   have hr1:=run_append_grow (P:=P) S.w t ty e i zv htu hi hz b1 els.length els.length olds (by rw[hol,hsz]) hold ad xs.length c news Qgh hnews Qf3 Qf3 Qhm;refine key els.length Qf3 ?_;rw[<-Kx];exact hr1
theorem zdW(off:Nat): ∀(l:List Value)(i:Nat)(cells:Array Value),off+i+l.length<=cells.size->
  ((l.zipIdx i).foldl (fun cs (x:Value×Nat)=>cs.setIfInBounds (off+x.2) x.1) cells).toList=cells.toList.take (off+i)++l++cells.toList.drop (off+i+l.length):=by
 intro l
 induction l with
 |nil=>intro i cells _;simp
 |cons v l ih=>
  intro i cells h;simp only[Qn] at h;simp only[List.zipIdx_cons,Yw];rw[ih (i+1) _ Qfk,Array.toList_setIfInBounds];have:=lW cells.toList (off+i) l v Qfk;rw[show off+(i+1)=off+i+1 by omega,this];simp
def lM(place:Nat->Option (Nat×Nat))(cells:List PV):List (Nat×PV)->Option (List PV)
 | []=>some cells
 |(i,p)::rest=>
  match place i with
  |none=>none
  |some (off,size)=>if wI p=true/\(xD p).length=size/\off+size<=cells.length then lM place (splice cells off (xD p)) rest else none
structure CRel(S:St)(cs:List PV)(vs:Array Value):Prop where
 len:vs.size=cs.length
 one: ∀(i:Nat)(u:Value),vs[i]? =some u->u.oneCell'=true
 rel: ∀(i:Nat)(p:PV)(u:Value),cs[i]? =some p->vs[i]? =some u->VRel S p u
theorem CRel.splice{S:St}{cs ps:List PV}{vs us ws:Array Value}{off:Nat}(h:CRel S cs vs)(k:CRel S ps us)(hl:off+ps.length<=cs.length)
  (hw:ws.toList=vs.toList.take off++us.toList++vs.toList.drop (off+us.size)):CRel S (AL.splice cs off ps) ws:=by
 have h1:=h.len;have k1:=k.len;have hws: ∀i:Nat,ws[i]? =(vs.toList.take off++us.toList++vs.toList.drop (off+us.size))[i]? :=fun i=>by rw[<-hw,Yi]
 have m1:min off vs.size=off:=Qf3;have m2:min off cs.length=off:=Qf3;refine⟨?_,fun i u hu=> ?_,fun i p u hp hu=> ?_⟩
 ·have:ws.size=ws.toList.length:=Qf4;rw[this,hw];simp[AL.splice];omega
 ·rw[hws] at hu;simp only[Qr,Xk,Wq,Ql,Xr,Yg,Yi] at hu;split at hu
  ·split at hu
   ·split at hu
    ·exact h.one _ u hu
    ·cases hu
   ·exact k.one _ u hu
  ·exact h.one _ u hu
 ·rw[hws] at hu;simp only[Qr,Xk,Wq,Ql,Xr,Yg,Yi,m1] at hu;simp only[AL.splice,Qr,Xk,Ql,Xr,Yg,m2] at hp;by_cases c1:i<off
  ·rw[Qj Qf3,Qj c1,Qj c1] at hp hu;exact h.rel i p u hp hu
  ·by_cases c2:i<off+ps.length
   ·rw[Qj Qf3,Qi c1] at hp hu;exact k.rel _ p u hp hu
   ·rw[Qi Qf3] at hp hu;refine h.rel _ p u hp ?_;rw[<-hu];congr 1;omega
theorem vM{S:St}{p:PV}{v:Value}(h:wI p=true)(hv:VRel S p v):CRel S (xD p) v.cells:=
 let ⟨a,b,c⟩:=jM h hv
 ⟨a,b,c⟩
theorem zb1{S:St}{place:Nat->Option (Nat×Nat)}{f:Operand->PV}{ρ:Operand->Value}: ∀(l:List (Nat×Operand))(cs cs':List PV)(vs:Array Value),(∀x∈l,VRel S (f x.2) (ρ x.2))->CRel S cs vs->
  lM place cs (l.map fun x=>(x.1,f x.2))=some cs'-> ∃vs',Instr.fill place vs (l.map fun x=>(x.1,ρ x.2))=some vs'/\CRel S cs' vs':=by
 intro l
 induction l with
 |nil=>intro cs cs' vs _ h he;cases he;exact⟨vs,rfl,h⟩
 | cons x l ih=>
  intro cs cs' vs hx h he;simp only[Xa,lM] at he;simp only[Xa,Instr.fill];split at he
  ·cases he
  ·rename_i off size hpl;split at he
   case isFalse=>cases he
   rename_i hc;obtain⟨hs,hl,hle⟩:=hc;have k:=vM hs (hx x (Qe ..));have e1:(ρ x.2).cells.size=size:=by rw[k.len,hl]
   have e2:vs.size=cs.length:=h.len;rw[hpl];simp only[];rw[Qi (by rw[e1];simp;omega)];have hfold:=zdW off (ρ x.2).cells.toList 0 vs Qfk;refine ih _ cs' _ (fun y hy=>hx y (Qf _ hy)) (h.splice k Qf3 ?_) he;rw[<-Array.foldl_toList,Array.toList_zipIdx];simpa using hfold
def zS(P:Program)(t:TypeId):Option Value:=(P.info? t).bind (·.zero)
def xW(P:Program)(t:TypeId):Option (Nat->Option (Nat×Nat)):=
 match P.underlying t with
 |some (.struct fs)=>if fs.all fun f=>(xL P f.type).isSome then some fun i=>(fs[i]?).bind fun f=>(xL P f.type).map fun s=>(f.offset,s) else none
 |some (.array _ e)=>(xL P e).map fun s i=>some (i*s,s)
 |_=>none
def kB(P:Program)(t:TypeId)(ps:List (Nat×PV)):Option PV:=
 match zS P t,xW P t with
 |some z,some pl=>if wI (nI z) then(lM pl (xD (nI z)) ps).map .agg else none
 |_,_=>none
theorem mP{P:Program}{t:TypeId}{z:Value}(h:zS P t=some z)(w:World):(zeroValue t).run P w= .ok z w:=by
 unfold zS at h;exact Qcd
theorem aH{P:Program}(w:World): ∀(l:List Field),(l.all fun f=>(xL P f.type).isSome)=true->
  (l.mapM (fun f=>do pure (f.offset,<-sizeOf f.type):Field->Sem (Nat×Nat))).run P w= .ok (l.map fun f=>(f.offset,(xL P f.type).getD 0)) w:=by
 intro l
 induction l with
 |nil=>intro _;rfl
 |cons f l ih=>
  intro h;simp only[Wm,Qt] at h;obtain⟨s,hs⟩:=Wa.1 h.1;simp only[List.mapM_cons,Xp,zV hs,Xd,Yc,ih h.2,Xa,hs,Wv]
theorem zgJ{P:Program}{S:St}{t:TypeId}{parts:Array (Nat×Operand)}{f:Operand->PV}{ρ:Operand->Value}{p:PV}(hx: ∀x∈parts,VRel S (f x.2) (ρ x.2))
  (he:kB P t (parts.toList.map fun x=>(x.1,f x.2))=some p): ∃v,(Instr.build t (parts.map fun (i,x)=>(i,ρ x))).run P S.w= .ok v S.w/\VRel S p v:=by
 unfold kB at he;split at he
 case h_2=>cases he
 rename_i z pl hz hpl;split at he
 case isFalse=>cases he
 rename_i hsh;cases hf:lM pl (xD (nI z)) (parts.toList.map fun x=>(x.1,f x.2)) with
 |none=>rw[hf] at he;cases he
 | some cs'=>
  rw[hf] at he;cases he;obtain⟨vs',hv,hc⟩:=zb1 (S:=S) (ρ:=ρ) parts.toList _ cs' z.cells (fun x hxm=>hx x (by simpa using hxm)) (vM hsh (sN S z)) hf;refine⟨.agg vs',?_,.agg hc.len hc.one hc.rel⟩;have emap:(parts.map fun (i,x)=>(i,ρ x)).toList=parts.toList.map fun x=>(x.1,ρ x.2):=Qf4;simp only[Instr.build,Xp,mP hz,Xd];unfold xW at hpl;split at hpl
  ·rename_i fs hus;split at hpl
   case isFalse=>cases hpl
   rename_i hall;cases hpl;rw[Xc hus];simp only[Xd,Xp];have hm:(fs.mapM (fun f=>do pure (f.offset,<-sizeOf f.type):Field->Sem (Nat×Nat))).run P S.w= .ok ((fs.toList.map fun f=>(f.offset,(xL P f.type).getD 0)).toArray) S.w:=by
    rw[Array.mapM_eq_mapM_toList];simp only[Sem.run_map,aH S.w fs.toList (by simpa using hall),Xd]
   rw[hm];simp only[Xd,emap];have epl:(fun (i:Nat)=>((fs.toList.map fun f=>(f.offset,(xL P f.type).getD 0)).toArray)[i]?)=fun (i:Nat)=>(fs[i]?).bind fun (f:Field)=>(xL P f.type).map fun s=>(f.offset,s):=by
    funext i;simp only[Je,Qu,Yi];cases hf:fs[i]? with
    |none=>rfl
    | some f=>
     have:(xL P f.type).isSome=true:=by
      rw[Array.all_eq_true] at hall;obtain⟨hi,rfl⟩:=Qz.1 hf;exact hall i hi
     obtain⟨s,hs⟩:=Wa.1 this;simp[hs]
   rw[epl,hv];rfl
  ·rename_i n e hus;cases hs:xL P e with
   |none=>rw[hs] at hpl;cases hpl
   |some s=>
    rw[hs] at hpl;cases hpl;rw[Xc hus];simp only[Xd,Xp,zV hs,emap,hv];rfl
  ·cases hpl
def oR{α:Type}[CK α](P:Program)(h:Heap)(t:TypeId)(s x:PV):Option (PV×Heap×α):=
 match wD P t with
 |none=>none
 | some (e,k,b)=>match rO h k x with
  |none=>none
  | some xs=>match s with
   | .nil=>some (.vec h.length k xs,h++[.vec e k xs.length],CK.cnd (xs.length*b<=140737488355328/\xs.length<=140737488355328))
   | .vec r k' els=>match h[r]? with
    | some (.vec e' k2 n)=>if e'=e/\k2=k/\k'=k then
      some (.vec r k (els++xs),h.set r (.vec e k (els.length+xs.length)),CK.cnd (n=els.length/\(els.length+xs.length)*b<=140737488355328/\els.length+xs.length<=140737488355328)) else none
    |_=>none
   | .tc k' els=>if k'=k then
     some (.vec h.length k (els++xs),h++[.vec e k (els.length+xs.length)],CK.cnd (0<xs.length/\(els.length+xs.length)*b<=140737488355328/\els.length+xs.length<=140737488355328)) else none
   |_=>none
def vA{α:Type}[CK α](P:Program)(h:Heap)(f:Operand->PV):Op->Option (PV×Heap×α)
 | .build t parts=>match kB P t (parts.toList.map fun x=>(x.1,f x.2)) with
  |some p=>some (p,h,CK.cnd True)
  |none=>none
 | .buildSlice t n parts=>match wD P t with
  | some (e,k,_)=>match zS P e with
   | some z=>if n*k<=16777216/\wI (nI z) then
     match lM (fun i=>some (i*k,k)) (List.replicate n (xD (nI z))).flatten (parts.toList.map fun x=>(x.1,f x.2)) with
     |some cs=>some (.tc k (wA cs 0 k n),h,CK.cnd True)
     |none=>none
    else none
   |none=>none
  |none=>none
 | .alloc t=>match zS P t with
  |some z=>if wI (nI z) then some (.ptr h.length 0,h++[.var t (xD (nI z))],CK.cnd True) else none
  |none=>none
 | .box t x=>if wI (f x) then some (.ptr h.length 0,h++[.var t (xD (f x))],CK.cnd True) else none
 | .store t a x=>match f a with
  | .ptr r o=>match h[r]? with
   |some (.var T cs)=>match xL P t with
    |some s=>if wI (f x) then some (.ud,h.set r (.var T (splice cs o (xD (f x)))),CK.cnd ((xD (f x)).length=s/\o+s<=cs.length)) else none
    |none=>none
   |_=>none
  |_=>none
 | .makeSlice t l c=>match wD P t with
  |some (e,k,b)=>match zS P e,f l,f c with
   | some z,.sc (.int .i64 n),.sc (.int .i64 m)=>if wI (nI z) then
     some (.ms h.length 0 k n.toNat,h++[.var e (List.replicate n.toNat (xD (nI z))).flatten],CK.cnd (n=m/\0<=n/\n*b<=140737488355328/\n<=140737488355328)) else none
   |_,_,_=>none
  |none=>none
 | .makeMap _ none=>some (.mp h.length,h++[.map []],CK.cnd True)
 | .call c=>match c.callee,c.args.toList,c.argTypes.toList with
  | .builtin .append,[s,x],[t,t']=>if t=t' then oR P h t (f s) (f x) else none
  |_,_,_=>none
 |_=>none
theorem tQ{S:St}{z:Value}(hs:wI (nI z)=true)(n:Nat):CRel S (List.replicate n (xD (nI z))).flatten ((Array.range (n*z.cells.size)).map (z.cells[· %z.cells.size]!)):=by
 have hz:=vM (S:=S) hs (sN S z);have hl:((List.replicate n (xD (nI z))).flatten).length=n*z.cells.size:=by simp[hz.len]
 have hg: ∀(i:Nat)(u:Value),((Array.range (n*z.cells.size)).map (z.cells[· %z.cells.size]!))[i]? =some u->z.cells[i%z.cells.size]? =some u/\i<n*z.cells.size:=by
  intro i u hu;rw[Array.getElem?_map] at hu;cases hr:(Array.range (n*z.cells.size))[i]? with
  |none=>rw[hr] at hu;cases hu
  |some j=>
   rw[hr] at hu;cases hu;obtain⟨hi,rfl⟩:=Qz.1 hr;simp at hi ⊢
   have hpos:0<z.cells.size:=Nat.pos_of_ne_zero fun h=>by rw[h,Nat.mul_zero] at hi;omega
   have hj:=Nat.mod_lt i hpos;exact⟨by rw[Qx hj,getElem!_pos z.cells (i%z.cells.size) hj],hi⟩
 have hq: ∀(m i:Nat)(p:PV),((List.replicate m (xD (nI z))).flatten)[i]? =some p->(xD (nI z))[i%z.cells.size]? =some p:=by
  intro m
  induction m with
  |zero=>intro i p h;simp at h
  | succ m ih=>
   intro i p h;rw[Ww,Yl,Qr] at h;split at h
   ·rename_i hlt;rw[hz.len,Nat.mod_eq_of_lt hlt];exact h
   ·rename_i hge;have:=ih _ p h;rw[<-hz.len] at hge this;rw[Nat.mod_eq_sub_mod Qf3];exact this
 refine⟨by simp[hz.len],fun i u hu=>hz.one _ u (hg i u hu).1,fun i p u hp hu=>hz.rel _ p u (hq n i p hp) (hg i u hu).1⟩
theorem zi8{P:Program}{S:St}(hS:SRel S){t e:TypeId}{k b:Nat}{z:Value}{n:Int}(ht:wD P t=some (e,k,b))(hz:zS P e=some z)(hs:wI (nI z)=true)(h0:0<=n)(hb:n*b<=140737488355328)(hn:n<=140737488355328):
  ∃v w' φ',(Instr.makeSlice t (.int .i64 n) (.int .i64 n)).run P S.w= .ok v w'/\Ext S {S with φ:=φ',h:=S.h++[.var e (List.replicate n.toNat (xD (nI z))).flatten],w:=w'}/\
   SRel {S with φ:=φ',h:=S.h++[.var e (List.replicate n.toNat (xD (nI z))).flatten],w:=w'}/\VRel {S with φ:=φ',h:=S.h++[.var e (List.replicate n.toNat (xD (nI z))).flatten],w:=w'} (.ms S.h.length 0 k n.toNat) v:=by
 obtain⟨htu,i,zv,hi,hzv,hsz,hby,hzs,hk0⟩:=uH ht;have:z=zv:=Qi0;subst this;obtain⟨m,rfl⟩:=Qm h0;have hc:=tQ (S:=S) hs m;have hrun:=run_make (P:=P) S.w t e i z htu hi hzv .i64 .i64 m m h0 (Ug _) (by rw[hby,Int.mul_comm];omega) Qf3;obtain⟨x,hS',hv⟩:=eN hS e _ _ hc.len hc.one hc.rel;have hmx:(140737488355328:Nat)<=maxLen:=Qfr;rw[Xw] at hrun ⊢
 have e0:m*k=m*z.cells.size:=by rw[hzs]
 have e1:madeCells z.cells (m*k)=(Array.range (m*z.cells.size)).map (z.cells[· %z.cells.size]!):=by rw[e0];rfl
 rw[hsz,e1] at hrun;refine⟨_,_,_,hrun,x,hS',?_⟩;cases hv with
 |optr hb'=>simp[St.push] at hb'
 |ptr hp hb'=>
  have hlen:((List.replicate m (xD (nI z))).flatten).length=m*k:=by rw[<-hc.len];simp[hzs]
  refine .ms (t:=e) (cs:=(List.replicate m (xD (nI z))).flatten) hp ?_ (by rw[hlen];omega) (Xe _) Qf3 ⟨_,_,_,heap_alloc_new _ _,by simp[hzs]⟩;simp[St.push]
theorem zeM{pl:Nat->Option (Nat×Nat)}: ∀(ps:List (Nat×PV))(cs cs':List PV),lM pl cs ps=some cs'->cs'.length=cs.length:=by
 intro ps
 induction ps with
 |nil=>intro cs cs' h;cases h;rfl
 | cons x ps ih=>
  intro cs cs' h;simp only[lM] at h;split at h
  ·cases h
  ·split at h
   case isFalse=>cases h
   rename_i hc;rw[ih _ _ h];simp[splice];omega
theorem zkU{P:Program}{S:St}{ρ:Operand->Value}{f:Operand->PV}{o:Oper}{p:PV}{h':Heap}{c:Prop}(hS:SRel S)(hx: ∀x∈o.op.operands,VRel S (f x) (ρ x))
  (he:vA P S.h f o.op=some (p,h',c)) (hc:c): ∃φ' w',Ext S {S with φ:=φ',h:=h',w:=w'}/\SRel {S with φ:=φ',h:=h',w:=w'}/\
   ((∃v,(execOp ρ o).run P S.w= .ok (.value v) w'/\VRel {S with φ:=φ',h:=h',w:=w'} p v)\/((execOp ρ o).run P S.w= .ok .skip w'/\p= .ud)):=by
 have fin: ∀{s:Sem Value}{φ':List Value}{h':Heap}{w':World}{v:Value}{p:PV},s.run P S.w= .ok v w'->Ext S {S with φ:=φ',h:=h',w:=w'}->SRel {S with φ:=φ',h:=h',w:=w'}->VRel {S with φ:=φ',h:=h',w:=w'} p v->
   ∃φ' w',Ext S {S with φ:=φ',h:=h',w:=w'}/\SRel {S with φ:=φ',h:=h',w:=w'}/\
   ((∃v,Sem.run P (do pure (.value (←s)):Sem Next) S.w= .ok (.value v) w'/\VRel {S with φ:=φ',h:=h',w:=w'} p v)\/(Sem.run P (do pure (.value (←s)):Sem Next) S.w= .ok .skip w'/\p= .ud)):=by
  intro s φ' h' w' v p hr x hs hv;exact⟨φ',w',x,hs,.inl ⟨v,by simp only[Xp,hr,Xd,Yc],hv⟩⟩
 unfold execOp;cases hop:o.op with
 |build t parts=>
  rw[hop] at he hx;simp only[vA,vL,wE] at he;split at he
  case h_2=>cases he
  rename_i q hq;cases he;obtain⟨v,hr,hv⟩:=zgJ (P:=P) (S:=S) (ρ:=ρ) (fun x hxm=>hx x.2 (by simp only[Op.operands];simp;exact⟨x.1,hxm⟩)) hq;exact fin hr (Ext.refl _) hS hv
 | buildSlice t n parts=>
  rw[hop] at he hx;simp only[vA,vL,wE] at he;split at he
  case h_2=>cases he
  rename_i e k b ht;split at he
  case h_2=>cases he
  rename_i z hz;split at he
  case isFalse=>cases he
  rename_i hcond;split at he
  case h_2=>cases he
  rename_i cs hfill;cases he;obtain⟨hn,hsh⟩:=hcond;obtain⟨htu,i,zv,hi,hzv,hsz,hby,hzs,hk0⟩:=uH ht;have:z=zv:=Qi0;subst this;obtain⟨vs,hv,hcr⟩:=zb1 (S:=S) (ρ:=ρ) parts.toList _ cs _ (fun x hxm=>hx x.2 (by simp only[Op.operands];simp;exact⟨x.1,by simpa using hxm⟩)) (tQ (S:=S) hsh n) hfill;have hvl:vs.size=n*k:=by
   rw[hcr.len,zeM _ _ _ hfill,<-(tQ (S:=S) hsh n).len];simp[hzs]
  have x:=wT hS (.cells vs e);have hmx:(16777216:Nat)<=maxLen:=Qfr;have hnk:n<=n*k:=Nat.le_mul_of_pos_right n hk0;have hcsl:cs.length=n*k:=by rw[<-hcr.len,hvl]
  refine fin (v:= .slice (some ⟨S.w.heap.size,0,none⟩) n n) (w':=S.w.alloc (.cells vs e)) (φ':=S.φ) ?_ x (nO hS _) (.tc (oF (all:=vs.toList) (by simp[wA]) (fun i e hi=> ?_) (Xe _) Qf3 (fun j u hj=> ?_) (by simp[hvl]) (fun i e j p u hi hp hu=> ?_)))
  ·have emap:(parts.map fun (i,x)=>(i,ρ x)).toList=parts.toList.map fun x=>(x.1,ρ x.2):=Qf4;simp only[Instr.buildSlice,Xp,Xc htu,Xd,zV (show xL P e=some k by simp[xL,hi,hsz])];rw[Qi Qf3];have e0:n*k=n*z.cells.size:=by rw[hzs]
   split
   ·rename_i h0;have hn0:Array.range (n*z.cells.size)= #[]:=by rw[<-e0,h0];rfl
    rw[hn0] at hv;simp only[Xp,Yc,Xd,emap,e0,hn0,Array.map_empty] at hv ⊢
    rw[<-hzs];rw[<-hzs] at hv;rw[hv];simp[newRow]
   ·simp only[Xp,mP hz,Yc,Xd,emap];rw[e0,hv];simp[newRow]
  ·obtain⟨hlt,rfl⟩:=vN hi;have:=zaU (k:=k) hlt (show k-1<k by omega);simp;omega
  ·have hj':vs[j]? =some u:=Qfy;have hlt:=(Qz.1 hj').1;have hg:(S.w.alloc (.cells vs e)).heap[S.w.heap.size]? =some (.cells vs e (0,0)):=heap_alloc_new S.w _;refine⟨by rw[cell_of_row _ _ _ _ _ _ hg];exact hj',hcr.one j u hj',rfl,Qf4,fun hx=> ?_,fun r y hy hby=> ?_⟩
   ·have:=hS.xlt _ hx;simp at this
   ·have:=hS.own_lt ⟨r,y,hy,hby⟩;simp at this
  ·obtain⟨hlt,rfl⟩:=vN hi;rw[Xr] at hp;split at hp
   ·rw[Yg] at hp;exact(hcr.rel _ p u (by rw[<-hp,Yd]) Qg0).ext x
   ·cases hp
 |alloc t=>
  rw[hop] at he hx;simp only[vA,vL,wE] at he;split at he
  case h_2=>cases he
  rename_i z hz;split at he
  case isFalse=>cases he
  rename_i hsh;cases he;have hcr:=vM (S:=S) hsh (sN S z);obtain⟨x,hS',hv⟩:=eN hS t _ _ hcr.len hcr.one hcr.rel;refine fin (w':=S.w.alloc (.cells z.cells t)) (φ':=S.φ++[.pointer (some ⟨S.w.heap.size,0,none⟩)]) ?_ x hS' hv;simp[Instr.alloc,mP hz,newVar,newRow]
 |box t y=>
  rw[hop] at he hx;simp only[vA,vL,wE] at he;split at he
  case isFalse=>cases he
  rename_i hsh;cases he;have hcr:=vM (S:=S) hsh (hx y Qgk);obtain⟨x,hS',hv⟩:=eN hS t _ _ hcr.len hcr.one hcr.rel;refine fin (w':=S.w.alloc (.cells (ρ y).cells t)) (φ':=S.φ++[.pointer (some ⟨S.w.heap.size,0,none⟩)]) ?_ x hS' hv;simp[Instr.box,newVar,newRow]
 |store t a y=>
  rw[hop] at he hx;simp only[vA,vL,wE] at he;split at he
  case h_2=>cases he
  rename_i r off hfa;split at he
  case h_2=>cases he
  rename_i T cs hb;split at he
  case h_2=>cases he
  rename_i s hs;split at he
  case isFalse=>cases he
  rename_i hsh;cases he;have h1:=hx a Qgk;rw[hfa] at h1;obtain⟨w',hr,x,hS'⟩:=zfA (P:=P) hS hb h1 hsh (hx y Qgk) hs hc.1 hc.2;refine⟨S.φ,w',x,hS',.inr ⟨?_,rfl⟩⟩;simp only[Xp,hr,Xd,Yc]
 |makeSlice t l m=>
  rw[hop] at he hx;simp only[vA,vL,wE] at he;split at he
  case h_2=>cases he
  rename_i e k b ht;split at he
  case h_2=>cases he
  rename_i z n m' hz hfl hfm;split at he
  case isFalse=>cases he
  rename_i hsh;cases he;obtain⟨rfl,h0,hb,hn⟩:=hc;have h1:=hx l Qgk;have h2:=hx m Qgk;rw[hfl] at h1;rw[hfm] at h2;have g1:ρ l= .int .i64 n:=by generalize ρ l=u at h1;cases h1;rfl
  have g2:ρ m= .int .i64 n:=by generalize ρ m=u at h2;cases h2;rfl
  obtain⟨v,w',φ',hr,x,hS',hv⟩:=zi8 (P:=P) hS ht hz hsh h0 hb hn;refine fin (v:=v) ?_ x hS' hv;rw[g1,g2];exact hr
 | makeMap t r=>
  rw[hop] at he hx;cases r with
  |some r=>simp[vA] at he
  | none=>
   simp only[vA,vL,wE] at he;cases he;have x:Ext S (({S with w:=S.w.alloc (.map #[] 0)}:St).push (.map (some S.w.heap.size)) (.map [])):=tZ (wT hS _) hS rfl rfl _ _ Qhd;have hS':SRel (({S with w:=S.w.alloc (.map #[] 0)}:St).push (.map (some S.w.heap.size)) (.map [])):=
    uP hS x rfl rfl rfl (fun n hn=>Below.heap_alloc _ _ _ hn) ⟨S.w.heap.size,0, #[],rfl,heap_alloc_new S.w _,rfl,⟨rfl,Qf4,Qf4⟩,Qf4⟩ Qhd
   exact fin (v:= .map (some S.w.heap.size)) (w':=S.w.alloc (.map #[] 0)) (φ':=S.φ++[.map (some S.w.heap.size)]) rfl x hS' (.mp (es:=[]) Qh0 Qfz)
 | call cl=>
  rw[hop] at he hx;simp only[vA,vL,wE] at he;split at he
  case h_2=>cases he
  rename_i s y t t' mM hca hct;split at he
  case isFalse=>cases he
  rename_i htt;subst htt;have e1:=qA hca;have e2:=qA hct;have hs:=hx s Qhh;have hy:=hx y Qhh;have done: ∀{h':Heap}{p:PV},(∃z w' φ',(Builtin.append_ #[t,t] o.type #[ρ s,ρ y]).run P S.w= .ok z w'/\Ext S {S with φ:=φ',h:=h',w:=w'}/\SRel {S with φ:=φ',h:=h',w:=w'}/\VRel {S with φ:=φ',h:=h',w:=w'} p z)->
    ∃φ' w',Ext S {S with φ:=φ',h:=h',w:=w'}/\SRel {S with φ:=φ',h:=h',w:=w'}/\
    ((∃v,Sem.run P (do let d ←resolve ρ cl o.type;invoke d.target d.args:Sem Next) S.w= .ok (.value v) w'/\VRel {S with φ:=φ',h:=h',w:=w'} p v)\/(Sem.run P (do let d ←resolve ρ cl o.type;invoke d.target d.args:Sem Next) S.w= .ok .skip w'/\p= .ud)):=by
   rintro h' p ⟨z,w',φ',hr,x,hS',hv⟩;refine⟨φ',w',x,hS',.inl ⟨z,?_,hv⟩⟩;simp[resolve,invoke,builtin,mM,e1,e2,hr]
  unfold oR at he;simp only[vL,wE] at he;split at he
  ·cases he
  ·rename_i e k b ht;split at he
   ·cases he
   ·rename_i xs hxs;split at he
    ·rename_i hfs;cases he;rw[hfs] at hs;exact done (append_nil hS ht hs hxs hy hc.1 hc.2)
    ·rename_i r k' els hfs;split at he
     case h_2=>cases he
     rename_i e' k2 n hb;split at he
     case isFalse=>cases he
     rename_i hcond;obtain⟨rfl,rfl,rfl⟩:=hcond;cases he;obtain⟨rfl,h1,h2⟩:=hc;rw[hfs] at hs;exact done (jW hS ht hs hb hxs hy h1 h2)
    ·rename_i k' els hfs;split at he
     case isFalse=>cases he
     rename_i hk;subst hk;cases he;obtain⟨h0,h1,h2⟩:=hc;rw[hfs] at hs;exact done (zeK hS ht hs hxs hy h1 h2 h0)
    ·cases he
 |_=>rw[hop] at he;cases he
end Go.AL
