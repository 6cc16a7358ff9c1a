/-
  Part of the walk.
-/
import Derived.Test.YtlcjmejclpilhaaGreatDoorV01
import Derived.Laws.MakeOwn
set_option linter.unusedSimpArgs false
set_option linter.unusedVariables false
set_option maxRecDepth 100000
set_option maxHeartbeats 4000000
namespace Go.AL
open Go.RowKit
def wD(P:Program)(t:TypeId):Option (TypeId×Nat×Nat):=
 match P.underlying t with
 | some (.slice e)=>match P.info? e with
  |some i=>match i.zero with
   |some z=>if z.cells.size=i.size/\0<i.size then some (e,i.size,i.bytes) else none
   |none=>none
  |none=>none
 |_=>none
theorem uH{P:Program}{t e:TypeId}{k b:Nat}(h:wD P t=some (e,k,b)):P.underlying t=some (.slice e)/\ ∃i z,P.info? e=some i/\i.zero=some z/\i.size=k/\i.bytes=b/\z.cells.size=k/\0<k:=by
 unfold wD at h;split at h
 ·rename_i e' hu;split at h
  ·rename_i i hi;split at h
   ·rename_i z hz;split at h
    ·rename_i hc;cases h;exact⟨hu,i,z,hi,hz,rfl,rfl,hc.1,hc.2⟩
    ·cases h
   ·cases h
  ·cases h
 ·cases h
def wA(cs:List PV)(off k len:Nat):List (List PV):=(List.range len).map fun i=>(cs.drop (off+i*k)).take k
def rO(h:Heap)(k:Nat):PV->Option (List (List PV))
 | .nil=>some []
 | .ts k' e=>if k'=k then some e else none
 | .tc k' e=>if k'=k then some e else none
 | .vec _ k' e=>if k'=k then some e else none
 | .ms r off k' len=>if k'=k then(match h[r]? with|some (.var _ cs)=>some (wA cs off k len)|_=>none) else none
 |_=>none
theorem vN{cs:List PV}{off k len i:Nat}{e:List PV}(h:(wA cs off k len)[i]? =some e):i<len/\e=(cs.drop (off+i*k)).take k:=by
 unfold wA at h;rw[Qu] at h;cases hk:(List.range len)[i]? with
 |none=>rw[hk] at h;cases h
 |some j=>
  rw[hk] at h;cases h;obtain⟨hlt,rfl⟩:=gsi hk;simp at hlt ⊢
  exact hlt
structure SrcOk(S:St)(k:Nat)(xs:List (List PV))(a:Option Addr)(news:List Value):Prop where
 len:news.length=xs.length*k
 elen: ∀(i:Nat)(e:List PV),xs[i]? =some e->e.length=k
 addr:0<xs.length-> ∃ad,a=some ad/\ ∀j u,news[j]? =some u->S.w.cell? (ad.add j)=some u
 one: ∀u∈news,u.oneCell'=true
 rel: ∀(i:Nat)(e:List PV)(j:Nat)(p:PV)(u:Value),xs[i]? =some e->e[j]? =some p->news[i*k+j]? =some u->VRel S p u
theorem zaN{S:St}{k:Nat}{xs:List (List PV)}{v:Value}(h:VRel S (.ts k xs) v): ∃a c news,v= .slice a xs.length c/\SrcOk S k xs a news:=by
 obtain⟨a,c,ad,val,rfl,h1,h2,h3,h4,h5,h6⟩:=uU h;refine⟨a,c,(List.range (xs.length*k)).map val,rfl,Qf1,h3,fun hn=>⟨ad,h4 Qf0,fun j u hu=> ?_⟩,fun u hu=> ?_,fun i e j p u hi hp hu=> ?_⟩
 ·rw[Qu] at hu;cases hk:(List.range (xs.length*k))[j]? with
  |none=>rw[hk] at hu;cases hu
  |some j'=>
   rw[hk] at hu;cases hu;obtain⟨hlt,rfl⟩:=gsi hk;simp at hlt ⊢
   exact(h5 j hlt).1
 ·simp at hu;obtain⟨j,hj,rfl⟩:=hu;exact(h5 j hj).2.1
 ·rw[Qu] at hu;cases hk:(List.range (xs.length*k))[i*k+j]? with
  |none=>rw[hk] at hu;cases hu
  |some j'=>
   rw[hk] at hu;cases hu;obtain⟨hlt,rfl⟩:=gsi hk;simp;exact h6 i e j p hi hp
theorem iO{S:St}(hS:SRel S){k:Nat}{p:PV}{xs:List (List PV)}{v:Value}(he:rO S.h k p=some xs)(hv:VRel S p v)(hk:0<k): ∃a c news,v= .slice a xs.length c/\SrcOk S k xs a news:=by
 cases p<;>simp only[rO,reduceCtorEq] at he<;>(try cases he)
 ·cases hv;exact⟨none,0,[],rfl,Qf1,Qf1,fun h=>absurd h Qf1,Qf1,Qf1⟩
 ·split at he
  ·cases he;rename_i e;subst e;exact zaN hv
  ·cases he
 ·split at he
  ·cases he;rename_i e;subst e;cases hv with|tc ht=>exact zaN ht
  ·cases he
 ·split at he
  ·cases he;rename_i e;subst e;cases hv with|vec ht=>exact zaN ht
  ·cases he
 ·split at he
  case isFalse=>cases he
  rename_i e;subst e;split at he
  case h_2=>cases he
  rename_i r off k len _ t cs hb;cases he;cases hv with
  |oms hb' _ _=>rw[hb] at hb';cases hb'
  | ms hp hb' hl hcc hm hzz=>
   rename_i c b t' cs';rw[hb] at hb';cases hb';obtain⟨b0,arr,hbe,hh,hsz,ho1,hcs⟩:=hS.blks r _ _ hb hp;cases hbe;have hln:(wA cs off k len).length=len:=by simp[wA]
   refine⟨some ⟨b,off,none⟩,c,(arr.toList.drop off).take (len*k),by rw[hln],by simp[wA];omega,fun i e hi=> ?_,fun _=>⟨_,rfl,fun j u hu=> ?_⟩,fun u hu=> ?_,fun i e j p u hi hp' hu=> ?_⟩
   ·obtain⟨hlt,rfl⟩:=vN hi;simp;have:i*k+k<=len*k:=by have:=Zv k (show i+1<=len by omega);rwa [Wo,Nat.one_mul] at this
    omega
   ·rw[Addr.add_lit,cell_of_row _ _ _ _ _ _ hh];rw[Xr] at hu;split at hu
    ·rw[Yg] at hu;simpa using hu
    ·cases hu
   ·have:=List.mem_of_mem_drop (Zk hu);obtain⟨i,hi,rfl⟩:=Qy this;exact ho1 i _ (by simp at hi ⊢)
   ·obtain⟨hlt,rfl⟩:=vN hi;rw[Xr] at hp' hu;split at hp'
    ·split at hu
     ·rw[Yg] at hp' hu;exact hcs _ p u hp' (by rw[Ji];simpa using hu)
     ·cases hu
    ·cases hp'
theorem zaU{i k j n:Nat}(hi:i<n)(hj:j<k):i*k+j<n*k:=by
 have:=Zv k (show i+1<=n by omega);rw[Wo,Nat.one_mul] at this;omega
theorem oF{S:St}{k n b c:Nat}{els:List (List PV)}{all:List Value}(hl:els.length=n)(hk: ∀(i:Nat)(e:List PV),els[i]? =some e->e.length=k)(hc:n<=c)(hm:c<=maxLen)
  (hM: ∀j u,all[j]? =some u->S.M ⟨b,j,none⟩ u) (hal:all.length=n*k) (hr: ∀(i:Nat)(e:List PV)(j:Nat)(p:PV)(u:Value),els[i]? =some e->e[j]? =some p->all[i*k+j]? =some u->VRel S p u):
  VRel S (.ts k els) (.slice (some ⟨b,0,none⟩) n c):=by
 refine .ts hl hc hm hk ⟨b,0,none⟩ (fun _=>rfl) (fun j=>all.getD j undef) (fun j hj=> ?_) (fun i e j p hi hp=> ?_)
 ·rw[Addr.add_lit,Yd];exact hM j _ (by rw[Qb,Qa Qf0];rfl)
 ·have hi':=(gsi hi).1;have hj':=(gsi hp).1;rw[hk i e hi] at hj';have:=zaU (k:=k) (show i<n by omega) hj';exact hr i e j p _ hi hp (by rw[Qb,Qa Qf0];rfl)
theorem ziH{S:St}(hS:SRel S){e:TypeId}{k n c:Nat}(arr:Array Value)(hsz:arr.size=c*k)(hn:n<=c)(hm:c<=maxLen):
  let S':=({S with w:=S.w.drew.alloc (.cells arr e)}:St).push (.slice (some ⟨S.w.heap.size,0,none⟩) n c) (.vec e k n)
  Ext S S'/\SRel S':=by
 intro S';have x0:Ext S {S with w:=S.w.drew.alloc (.cells arr e)}:=by
  have:=wT hS (.cells arr e);exact⟨this.x,this.os,ztC,this.output,this.size,this.unt,this.mem,this.blks,this.rows⟩
 have x:Ext S S':=tZ x0 hS rfl rfl _ _ Qha;exact⟨x,uP hS x rfl rfl rfl (fun k hk=>Below.heap_alloc S.w.drew _ _ hk) (.inr ⟨S.w.heap.size,c,arr,rfl,heap_alloc_new S.w.drew _,hn,hm,hsz⟩) Qha⟩
theorem kQ{S:St}(hS:SRel S){r n n':Nat}{e:TypeId}{k:Nat}{v:Value}(hb:S.h[r]? =some (.vec e k n)){w':World}(hn:n<n')(ho:w'.os=S.w.os)(ht:TapeLe S.w w')(hu:w'.output=S.w.output)(hs:S.w.heap.size<=w'.heap.size)
  (hw: ∀b,b<S.w.heap.size->(∀y,S.φ[r]? =some y->sC y=some b->sC v=some b/\ ∀j u,j<n*k->S.w.cell? ⟨b,j,none⟩=some u->w'.cell? ⟨b,j,none⟩=some u)\/w'.heap[b]? =S.w.heap[b]?)
  (zg1: ∀b,b<S.w.heap.size->(∀y,S.φ[r]? =some y->sC y≠some b)->w'.heap[b]? =S.w.heap[b]?)
  (hv: ∀b,sC v=some b->(∃y,S.φ[r]? =some y/\sC y=some b)\/S.w.heap.size<=b)
  (hz: ∀b m,S.Row b m->St.Row {S with w:=w'} b m) (hnew:(v= .slice none 0 0/\n'=0)\/ ∃(b c:Nat)(arr:Array Value),v= .slice (some ⟨b,0,none⟩) n' c/\w'.heap[b]? =some (.cells arr e (0,0))/\n'<=c/\c<=maxLen/\arr.size=c*k):
  Ext S {S with φ:=S.φ.set r v,h:=S.h.set r (.vec e k n'),w:=w'}/\SRel {S with φ:=S.φ.set r v,h:=S.h.set r (.vec e k n'),w:=w'}:=by
 have hr:r<S.h.length:=(gsi hb).1;have hr':r<S.φ.length:=Qgn;have hφ:S.φ[r]? =some S.φ[r]:=Qa hr';have x:Ext S {S with φ:=S.φ.set r v,h:=S.h.set r (.vec e k n'),w:=w'}:=by
  refine⟨rfl,ho,ht,hu,hs,fun b hbl hno=>⟨?_,zg1 b hbl fun y hy hby=>hno ⟨r,y,hy,hby⟩⟩,fun a u hm=> ?_,fun r' c hc=> ?_,hz⟩
  ·rintro⟨r',y,hy,hby⟩;simp only[Qq] at hy;by_cases er:r=r'
   ·subst er;rw[Qj rfl,Qj hr'] at hy;cases hy;rcases hv b hby with ⟨z,hz,hbz⟩|h
    ·exact hno ⟨r,z,hz,hbz⟩
    ·omega
   ·rw[Qi er] at hy;exact hno ⟨r',y,hy,hby⟩
  ·obtain⟨h1,h2,h3,h4,h5,h6⟩:=hm;obtain⟨ab,ao,asp⟩:=a;simp only at h3 h4 h6;subst h3;refine⟨?_,h2,rfl,Yf h4 hs,h5,fun r' y hy hby=> ?_⟩
   ·by_cases hown:sC S.φ[r]=some ab
    ·obtain⟨e',k',m',hh,hlt⟩:=h6 r _ hφ hown;rw[hb] at hh;cases hh;rcases hw ab h4 with h|h
     ·exact(h _ hφ hown).2 ao u hlt h1
     ·exact(World.cell?_of_block (a:=⟨ab,ao,none⟩) h).trans h1
    ·exact(World.cell?_of_block (a:=⟨ab,ao,none⟩) (zg1 ab h4 fun y hy hby=>by rw[hφ] at hy;cases hy;exact hown hby)).trans h1
   ·simp only[Qq] at hy ⊢
    by_cases er:r=r'
    ·subst er;rw[Qj rfl,Qj hr'] at hy;rw[Qj rfl,Qj hr];cases hy;refine⟨e,k,n',rfl,?_⟩;rcases hv ab hby with ⟨z,hz,hbz⟩|h
     ·obtain⟨e',k',m',hh,hlt⟩:=h6 r z hz hbz;rw[hb] at hh;cases hh;exact Yf hlt (Zv k (Nat.le_of_lt hn))
     ·omega
    ·rw[Qi er] at hy ⊢
     exact h6 r' y hy hby
  ·by_cases er:r=r'
   ·subst er;rw[hb] at hc;cases hc;exact⟨.vec e k n',by simp[hr],by simp only[Blk.le];exact⟨trivial,trivial,Nat.le_of_lt hn,fun h=>absurd h Qf0⟩⟩
   ·exact⟨c,by simp only[Qq,Qi er];exact hc,Blk.le_refl c (by simp only[Qq,Qi er])⟩
 refine⟨x,by simp[hS.len],fun r' c y hc hy=> ?_,fun r1 r2 y1 y2 b h1 h2 hb1 hb2=> ?_,fun a ha=>Yf (hS.xlt a ha) hs,fun a ha r1 y1 h1 hb1=> ?_⟩
 ·simp only[Qq] at hc hy;by_cases er:r=r'
  ·subst er;rw[Qj rfl,Qj hr] at hc;rw[Qj rfl,Qj hr'] at hy;cases hc;cases hy;exact hnew
  ·rw[Qi er] at hc hy;refine(hS.blks r' c y hc hy).ext x fun b hby=>zg1 b (hS.own_lt ⟨r',y,hy,hby⟩) fun z hz hbz=> ?_;exact er (hS.inj r r' z y b hz hy hbz hby)
 ·have key: ∀r1 y1,(S.φ.set r v)[r1]? =some y1->sC y1=some b->(r1≠r/\S.φ[r1]? =some y1)\/(r1=r/\((∃y,S.φ[r]? =some y/\sC y=some b)\/S.w.heap.size<=b)):=by
   intro r1 y1 h hbb;simp only[Qq] at h;by_cases er:r=r1
   ·subst er;rw[Qj rfl,Qj hr'] at h;cases h;exact .inr ⟨rfl,hv b hbb⟩
   ·rw[Qi er] at h;exact .inl ⟨fun e=>er e.symm,h⟩
  rcases key r1 y1 h1 hb1 with ⟨n1,g1⟩|⟨rfl,g1⟩<;>rcases key r2 y2 h2 hb2 with ⟨n2,g2⟩|⟨e2,g2⟩
  ·exact hS.inj _ _ _ _ _ g1 g2 hb1 hb2
  ·subst e2;rcases g2 with ⟨z,hz,hbz⟩|h
   ·exact hS.inj _ _ _ _ _ g1 hz hb1 hbz
   ·have:=hS.own_lt ⟨r1,y1,g1,hb1⟩;omega
  ·rcases g1 with ⟨z,hz,hbz⟩|h
   ·exact hS.inj _ _ _ _ _ hz g2 hbz hb2
   ·have:=hS.own_lt ⟨r2,y2,g2,hb2⟩;omega
  ·exact e2.symm
 ·simp only[Qq] at h1;by_cases er:r=r1
  ·subst er;rw[Qj rfl,Qj hr'] at h1;cases h1;rcases hv _ hb1 with ⟨z,hz,hbz⟩|h
   ·exact hS.xown a ha r z hz hbz
   ·have:=hS.xlt a ha;omega
  ·rw[Qi er] at h1;exact hS.xown a ha r1 y1 h1 hb1
theorem sH{k n:Nat}{els xs:List (List PV)}{olds news:List Value}{S S':St}(hl:els.length=n)(ho:olds.length=n*k)(hk: ∀(i:Nat)(e:List PV),els[i]? =some e->e.length=k)
  (hr: ∀(i:Nat)(e:List PV)(j:Nat)(p:PV)(u:Value),els[i]? =some e->e[j]? =some p->olds[i*k+j]? =some u->VRel S p u)
  (hk': ∀(i:Nat)(e:List PV),xs[i]? =some e->e.length=k) (hr': ∀(i:Nat)(e:List PV)(j:Nat)(p:PV)(u:Value),xs[i]? =some e->e[j]? =some p->news[i*k+j]? =some u->VRel S p u) (x:Ext S S'):
  (∀(i:Nat)(e:List PV),(els++xs)[i]? =some e->e.length=k)/\
  ∀(i:Nat)(e:List PV)(j:Nat)(p:PV)(u:Value),(els++xs)[i]? =some e->e[j]? =some p->(olds++news)[i*k+j]? =some u->VRel S' p u:=by
 constructor
 ·intro i e hi;rw[Qs] at hi;split at hi
  ·exact hk i e hi
  ·exact hk' _ e hi
 ·intro i e j p u hi hp hu;rw[Qs] at hi hu;split at hi
  ·rename_i hlt;have hj:=(gsi hp).1;rw[hk i e hi] at hj;have:=zaU (k:=k) (show i<n by omega) hj;rw[Qj Qf0] at hu;exact(hr i e j p u hi hp hu).ext x
  ·rename_i hge;have:n*k<=i*k:=Zv k Qf0;rw[Qi Qf0] at hu;refine(hr' _ e j p u hi hp ?_).ext x;rw[<-hu,ho];congr 1;rw[Nat.sub_mul,hl];omega
theorem oH{n m b:Nat}(h:(n+m)*b<=140737488355328):(n+m)*b<=281474976710656:=Qf0
set_option maxHeartbeats 1000000 in
theorem jW{P:Program}{S:St}(hS:SRel S){t ty e:TypeId}{r k b:Nat}{els xs:List (List PV)}{q:PV}{u v:Value}(ht:wD P t=some (e,k,b))(hu:VRel S (.vec r k els) u)(hb:S.h[r]? =some (.vec e k els.length))
  (hq:rO S.h k q=some xs) (hv:VRel S q v) (hbytes:(els.length+xs.length)*b<=140737488355328) (hlen:els.length+xs.length<=140737488355328):
  ∃z w' φ',(Builtin.append_ #[t,t] ty #[u,v]).run P S.w= .ok z w'/\Ext S {S with φ:=φ',h:=S.h.set r (.vec e k (els.length+xs.length)),w:=w'}/\
   SRel {S with φ:=φ',h:=S.h.set r (.vec e k (els.length+xs.length)),w:=w'}/\VRel {S with φ:=φ',h:=S.h.set r (.vec e k (els.length+xs.length)),w:=w'} (.vec r k (els++xs)) z:=by
 obtain⟨htu,i,zv,hi,hz,hsz,hby,hzs,hk0⟩:=uH ht;have hr:r<S.h.length:=(gsi hb).1;have hmx:(140737488355328:Nat)<=maxLen:=Qfo;cases hu with
 | vec hts hb' hle ho=>
  rename_i n0 e0;rw[hb] at hb';cases hb';have hφ:=ho rfl;obtain⟨a,c,news,rfl,hsrc⟩:=iO hS hq hv hk0;rcases Yr xs.length with hx0|hx0
  ·have hxs:xs=[]:=Xi hx0;subst hxs;refine⟨u,S.w,S.φ,?_,?_⟩
   ·obtain⟨a1,c1,ad1,val1,rfl,g1,g2,_⟩:=uU hts;simp[Builtin.append_,Xc htu,sizeOf,typeInfo,hi,Builtin.lenOf,Builtin.firstCells,g1];cases a<;>cases a1<;>simp[Builtin.firstCells,loadCells,loadCellsFrom,storeCells]
   ·exact Qax
  ·obtain⟨ad,rfl,hnews⟩:=hsrc.addr hx0;obtain⟨a1,c1,ad1,val1,hu1,g1,g2,g3,g4,g5,g6⟩:=uU hts;obtain⟨olds,holds⟩: ∃olds:List Value,olds=(List.range (els.length*k)).map val1:=⟨_,rfl⟩
   have hol:olds.length=els.length*k:=Qg8;have hog: ∀j v,olds[j]? =some v->j<els.length*k/\v=val1 j:=fun j v hj=>by
    exact Qa8
   have hor: ∀(i:Nat)(e:List PV)(j:Nat)(p:PV)(u:Value),els[i]? =some e->e[j]? =some p->olds[i*k+j]? =some u->VRel S p u:=fun i e j p u hi hp hu=>by
    exact Qby
   have hal:(olds++news).length=(els.length+xs.length)*k:=Qgw;have hlenA:(els++xs).length=els.length+xs.length:=Ql;have hone: ∀u∈olds++news,u.oneCell'=true:=fun u hu=>by
    exact Qau
   have fin: ∀(φ':List Value)(w':World)(b2 c2:Nat)(arr:Array Value),Ext S {S with φ:=φ',h:=S.h.set r (.vec e k (els.length+xs.length)),w:=w'}->
     SRel {S with φ:=φ',h:=S.h.set r (.vec e k (els.length+xs.length)),w:=w'}->φ'=S.φ.set r (.slice (some ⟨b2,0,none⟩) (els.length+xs.length) c2)->w'.heap[b2]? =some (.cells arr e (0,0))->
     arr.toList.take ((els.length+xs.length)*k)=olds++news->els.length+xs.length<=c2->c2<=maxLen->
     VRel {S with φ:=φ',h:=S.h.set r (.vec e k (els.length+xs.length)),w:=w'} (.vec r k (els++xs)) (.slice (some ⟨b2,0,none⟩) (els.length+xs.length) c2):=by
    intro φ' w' b2 c2 arr x hS' hφ' hw' harr zxI hm2;have hown:φ'[r]? =some (.slice (some ⟨b2,0,none⟩) (els.length+xs.length) c2):=by rw[hφ',Qq,Qj rfl,Qj Qgn]
    obtain⟨q1,q2⟩:=sH rfl hol g3 hor hsrc.elen hsrc.rel x;refine .vec (n:=els.length+xs.length) (e:=e) (oF hlenA q1 zxI hm2 (fun j u hj=> ?_) hal q2) (by simp[hr]) Qf0 (fun _=>hown);have hjl:=(gsi hj).1;refine⟨?_,hone u (Qk hj),rfl,(Qz.1 hw').1,fun hx=> ?_,fun r' y hy hby=> ?_⟩
    ·exact Qcd
    ·exact hS'.xown _ hx r _ hown rfl
    ·exact Qbl
   have zc: ∀(N cp:Nat),N<=cp-> ∀(pre:List Value),pre.length=N*k->(pre.toArray++Builtin.zeroCells zv.cells (cp-N)).size=cp*k:=fun N cp hN pre hp=>by
    rw[Wt,Jd,size_zeroCells,hzs,hp,<-Wo];congr 1;omega
   have moved: ∀(w':World)(old:Nat),old<els.length+xs.length->w'=S.w.drew.alloc (.cells ((olds++news).toArray++Builtin.zeroCells zv.cells (grownCap S.w (els.length+xs.length) old e-(els.length+xs.length))) e)->
     (Builtin.append_ #[t,t] ty #[u,.slice (some ad) xs.length c]).run P S.w= .ok (.slice (some ⟨S.w.heap.size,0,none⟩) (els.length+xs.length) (grownCap S.w (els.length+xs.length) old e)) w'->
     ∃z w' φ',(Builtin.append_ #[t,t] ty #[u,.slice (some ad) xs.length c]).run P S.w= .ok z w'/\Ext S {S with φ:=φ',h:=S.h.set r (.vec e k (els.length+xs.length)),w:=w'}/\
      SRel {S with φ:=φ',h:=S.h.set r (.vec e k (els.length+xs.length)),w:=w'}/\VRel {S with φ:=φ',h:=S.h.set r (.vec e k (els.length+xs.length)),w:=w'} (.vec r k (els++xs)) z:=by
    intro w' old hold hw' hrun;have hge:=grownCap_ge S.w (els.length+xs.length) old e;have hcm:=grownCap_le_maxLen S.w (els.length+xs.length) old e Qf0;have hnewb:w'.heap[S.w.heap.size]? =some (.cells ((olds++news).toArray++Builtin.zeroCells zv.cells (grownCap S.w (els.length+xs.length) old e-(els.length+xs.length))) e (0,0)):=by
     rw[hw'];exact heap_alloc_new S.w.drew _
    have hsame: ∀b,b<S.w.heap.size->w'.heap[b]? =S.w.heap[b]? :=fun b hb=>by rw[hw'];exact Below.heap_alloc S.w.drew _ _ hb
    obtain⟨x,hS'⟩:=kQ (v:= .slice (some ⟨S.w.heap.size,0,none⟩) (els.length+xs.length) (grownCap S.w (els.length+xs.length) old e)) (n':=els.length+xs.length) (w':=w') hS hb Qf0 (by rw[hw'];rfl) (by rw[hw'];exact ztC) (by rw[hw'];rfl) (by rw[hw'];simp)
     (fun b hb=> .inr (hsame b hb)) (fun b hb _=>hsame b hb) (fun b hb=> .inr (by simp[sC] at hb;omega)) (fun b m ⟨ar,t1,f1,h1,h2⟩=>⟨ar,t1,f1,(hsame b (Qz.1 h1).1).trans h1,h2⟩) (.inr ⟨_,_,_,rfl,hnewb,hge,hcm,zc _ _ hge _ hal⟩)
    refine⟨_,w',_,hrun,x,hS',fin _ w' _ _ _ x hS' rfl hnewb ?_ hge hcm⟩;simp only[Array.toList_append];rw[<-hal];exact List.take_left
   rcases hS.blks r _ _ hb hφ with ⟨he,hn0⟩|⟨g,cp,cur,he,hg,hnc,hcm,hcs⟩
   ·have ho0:olds=[]:=Xi (by rw[hol,hn0,Ki]);have hxn:0+xs.length=els.length+xs.length:=Qf0;have hr1:=run_append_nil (P:=P) S.w t ty e i zv htu hi hz ad xs.length c news Qge hnews hx0 Qf0 (by rw[hby];have:=oH hbytes;rw[hn0,Yd] at this;exact this);exact Qec
   ·have he1:els.length=els.length:=rfl;have hu1':=hu1;rw[he] at hu1;cases hu1;by_cases hroom:els.length+xs.length<=c1
    ·have hcur:cur.toList.take (els.length*k)=olds:=by
      exact Qaf
     have hfit:els.length*k+news.length<=cur.size:=by rw[hsrc.len,hcs,<-Wo];exact Zv _ hroom
     have hr1:=run_append_room (P:=P) S.w t ty e i htu hi g els.length c1 cur hg ad xs.length c news Qge hnews hsrc.one hroom (by rw[hsz];exact hfit);rw[hsz,hcur] at hr1;exact Qa2
    ·have hold: ∀j v,olds[j]? =some v->S.w.cell? ((⟨g,0,none⟩:Addr).add j)=some v:=fun j v hj=>by
      exact Qac
     have hr1:=run_append_grow (P:=P) S.w t ty e i zv htu hi hz ⟨g,0,none⟩ els.length c1 olds (by rw[hol,hsz]) hold ad xs.length c news Qge hnews Qf0 Qf0 Qhj;exact Qdt
theorem zdS{S:St}(hS:SRel S)(e:TypeId)(k:Nat):Ext S (S.push (.slice none 0 0) (.vec e k 0))/\SRel (S.push (.slice none 0 0) (.vec e k 0))/\VRel (S.push (.slice none 0 0) (.vec e k 0)) (.vec S.h.length k []) (.slice none 0 0):=by
 have x:Ext S (S.push (.slice none 0 0) (.vec e k 0)):=tZ (Ext.refl S) hS rfl rfl _ _ (by intro n hn;simp[sC] at hn);refine⟨x,uP hS x rfl rfl rfl (fun _ _=>rfl) (.inl ⟨rfl,rfl⟩) (by intro n hn;simp[sC] at hn),.vec (n:=0) (e:=e) ?_ Qfw Qf1 (fun _=>by simp[St.push,hS.len])⟩;exact Qd0
theorem append_nil{P:Program}{S:St}(hS:SRel S){t ty e:TypeId}{k b:Nat}{xs:List (List PV)}{q:PV}{u v:Value}(ht:wD P t=some (e,k,b))(hu:VRel S .nil u)
  (hq:rO S.h k q=some xs) (hv:VRel S q v) (hbytes:xs.length*b<=140737488355328) (hlen:xs.length<=140737488355328):
  ∃z w' φ',(Builtin.append_ #[t,t] ty #[u,v]).run P S.w= .ok z w'/\Ext S {S with φ:=φ',h:=S.h++[.vec e k xs.length],w:=w'}/\
   SRel {S with φ:=φ',h:=S.h++[.vec e k xs.length],w:=w'}/\VRel {S with φ:=φ',h:=S.h++[.vec e k xs.length],w:=w'} (.vec S.h.length k xs) z:=by
 cases hu;obtain⟨x1,h1,v1⟩:=zdS hS e k;have hq':rO (S.push (.slice none 0 0) (.vec e k 0)).h k q=some xs:=by
  cases q<;>simp only[rO] at hq ⊢ <;>try exact hq
  rename_i r off k' len;split at hq
  ·rename_i hk;rw[Qj hk];split at hq
   ·rename_i tt cs hb;have hr:=(gsi hb).1;simp only[St.push,Qs,Qj hr,hb];exact hq
   ·cases hq
  ·cases hq
 obtain⟨z,w',φ',hr,x2,h2,v2⟩:=jW (P:=P) (ty:=ty) h1 ht v1 Qfw hq' (hv.ext x1) (by simpa using hbytes) Qgb;have eh:(S.push (.slice none 0 0) (.vec e k 0)).h.set S.h.length (.vec e k (([]:List (List PV)).length+xs.length))=S.h++[.vec e k xs.length]:=by
  simp[St.push]
 rw[eh] at x2 h2 v2;exact⟨z,w',φ',hr,x1.trans x2,h2,v2⟩
theorem zeK{P:Program}{S:St}(hS:SRel S){t ty e:TypeId}{k b:Nat}{els xs:List (List PV)}{q:PV}{u v:Value}(ht:wD P t=some (e,k,b))(hu:VRel S (.tc k els) u)
  (hq:rO S.h k q=some xs) (hv:VRel S q v) (hbytes:(els.length+xs.length)*b<=140737488355328) (hlen:els.length+xs.length<=140737488355328) (hx0:0<xs.length):
  ∃z w' φ',(Builtin.append_ #[t,t] ty #[u,v]).run P S.w= .ok z w'/\Ext S {S with φ:=φ',h:=S.h++[.vec e k (els.length+xs.length)],w:=w'}/\
   SRel {S with φ:=φ',h:=S.h++[.vec e k (els.length+xs.length)],w:=w'}/\VRel {S with φ:=φ',h:=S.h++[.vec e k (els.length+xs.length)],w:=w'} (.vec S.h.length k (els++xs)) z:=by
 obtain⟨htu,i,zv,hi,hz,hsz,hby,hzs,hk0⟩:=uH ht;have hmx:(140737488355328:Nat)<=maxLen:=Qfo;cases hu with
 | tc hts=>
  rename_i n a1;obtain⟨a,c,news,rfl,hsrc⟩:=iO hS hq hv hk0;obtain⟨ad,rfl,hnews⟩:=hsrc.addr hx0;obtain⟨a2,c1,ad1,val1,hu1,g1,g2,g3,g4,g5,g6⟩:=uU hts;cases hu1;obtain⟨olds,holds⟩: ∃olds:List Value,olds=(List.range (els.length*k)).map val1:=⟨_,rfl⟩
  have hol:olds.length=els.length*k:=Qg8;have hog: ∀j v,olds[j]? =some v->j<els.length*k/\v=val1 j:=fun j v hj=>by
   exact Qa8
  have hor: ∀(i:Nat)(e:List PV)(j:Nat)(p:PV)(u:Value),els[i]? =some e->e[j]? =some p->olds[i*k+j]? =some u->VRel S p u:=fun i e j p u hi hp hu=>by
   exact Qby
  have hal:(olds++news).length=(els.length+xs.length)*k:=Qgw;have hone: ∀u∈olds++news,u.oneCell'=true:=fun u hu=>by
   exact Qau
  have key: ∀old,old<els.length+xs.length->(Builtin.append_ #[t,t] ty #[.slice a1 els.length els.length,.slice (some ad) xs.length c]).run P S.w=
    .ok (.slice (some ⟨S.w.heap.size,0,none⟩) (els.length+xs.length) (grownCap S.w (els.length+xs.length) old e)) (S.w.drew.alloc (.cells ((olds++news).toArray++Builtin.zeroCells zv.cells (grownCap S.w (els.length+xs.length) old e-(els.length+xs.length))) e))->
    ∃z w' φ',(Builtin.append_ #[t,t] ty #[.slice a1 els.length els.length,.slice (some ad) xs.length c]).run P S.w= .ok z w'/\Ext S {S with φ:=φ',h:=S.h++[.vec e k (els.length+xs.length)],w:=w'}/\
     SRel {S with φ:=φ',h:=S.h++[.vec e k (els.length+xs.length)],w:=w'}/\VRel {S with φ:=φ',h:=S.h++[.vec e k (els.length+xs.length)],w:=w'} (.vec S.h.length k (els++xs)) z:=by
   intro old hold hrun;have hge:=grownCap_ge S.w (els.length+xs.length) old e;have hcm:=grownCap_le_maxLen S.w (els.length+xs.length) old e Qf0;have hsz':((olds++news).toArray++Builtin.zeroCells zv.cells (grownCap S.w (els.length+xs.length) old e-(els.length+xs.length))).size=grownCap S.w (els.length+xs.length) old e*k:=by
    rw[Wt,Jd,size_zeroCells,hzs,hal,<-Wo];congr 1;omega
   obtain⟨x,hS'⟩:=ziH (e:=e) hS _ hsz' hge hcm;refine⟨_,_,_,hrun,x,hS',?_⟩;obtain⟨q1,q2⟩:=sH rfl hol g3 hor hsrc.elen hsrc.rel x;have hown:(S.φ++[Value.slice (some ⟨S.w.heap.size,0,none⟩) (els.length+xs.length) (grownCap S.w (els.length+xs.length) old e)])[S.h.length]? =some (Value.slice (some ⟨S.w.heap.size,0,none⟩) (els.length+xs.length) (grownCap S.w (els.length+xs.length) old e)):=by rw[<-hS.len];simp
   refine .vec (n:=els.length+xs.length) (e:=e) (oF (Ql) q1 hge hcm (fun j u hj=> ?_) hal q2) Qf1 Qf1 (fun _=>hown);have hjl:=(gsi hj).1;have hnewb:(S.w.drew.alloc (.cells ((olds++news).toArray++Builtin.zeroCells zv.cells (grownCap S.w (els.length+xs.length) old e-(els.length+xs.length))) e)).heap[S.w.heap.size]? =some (.cells ((olds++news).toArray++Builtin.zeroCells zv.cells (grownCap S.w (els.length+xs.length) old e-(els.length+xs.length))) e (0,0)):=heap_alloc_new S.w.drew _;refine⟨?_,hone u (Qk hj),rfl,(Qz.1 hnewb).1,fun hx=>hS'.xown _ hx S.h.length _ hown rfl,fun r' y hy hby=> ?_⟩
   ·show World.cell? (S.w.drew.alloc _) _=_;rw[cell_of_row _ _ _ _ _ _ hnewb];rw[Wd,Qj Qg9];simpa using hj
   ·simp only[sC] at hby;have:r'=S.h.length:=hS'.inj r' _ y _ S.w.heap.size hy hown hby rfl;subst this;exact⟨e,k,els.length+xs.length,by simp[St.push],by rw[<-hal];exact hjl⟩
  cases a1 with
  |none=>
   have h0:els.length=0:=Nat.eq_zero_of_not_pos fun h=>by have:=g4 Qf0;cases this
   have ho0:olds=[]:=Xi (by rw[hol,h0,Ki]);have hr1:=run_append_nil (P:=P) S.w t ty e i zv htu hi hz ad xs.length c news Qge hnews hx0 Qf0 Qhq;refine key 0 Qf0 ?_;rw[ho0,h0,Yd,Yj];exact hr1
  | some b1=>
   have hold: ∀j v,olds[j]? =some v->S.w.cell? (b1.add j)=some v:=fun j v hj=>by
    exact Qac
   have hr1:=run_append_grow (P:=P) S.w t ty e i zv htu hi hz b1 els.length els.length olds (by rw[hol,hsz]) hold ad xs.length c news Qge hnews Qf0 Qf0 Qhj;refine key els.length Qf0 ?_;rw[<-Kx];exact hr1
theorem zdW(off:Nat): ∀(l:List Value)(i:Nat)(cells:Array Value),off+i+l.length<=cells.size->
  ((l.zipIdx i).foldl (fun cs (x:Value×Nat)=>cs.setIfInBounds (off+x.2) x.1) cells).toList=cells.toList.take (off+i)++l++cells.toList.drop (off+i+l.length):=by
 intro l
 induction l with
 |nil=>intro i cells _;simp
 |cons v l ih=>
  intro i cells h;simp only[Qn] at h;simp only[List.zipIdx_cons,Yw];rw[ih (i+1) _ Qfh,Array.toList_setIfInBounds];have:=lW cells.toList (off+i) l v Qfh;rw[show off+(i+1)=off+i+1 by omega,this];simp
def lM(place:Nat->Option (Nat×Nat))(cells:List PV):List (Nat×PV)->Option (List PV)
 | []=>some cells
 |(i,p)::rest=>
  match place i with
  |none=>none
  |some (off,size)=>if wI p=true/\(xD p).length=size/\off+size<=cells.length then lM place (splice cells off (xD p)) rest else none
structure CRel(S:St)(cs:List PV)(vs:Array Value):Prop where
 len:vs.size=cs.length
 one: ∀(i:Nat)(u:Value),vs[i]? =some u->u.oneCell'=true
 rel: ∀(i:Nat)(p:PV)(u:Value),cs[i]? =some p->vs[i]? =some u->VRel S p u
theorem CRel.splice{S:St}{cs ps:List PV}{vs us ws:Array Value}{off:Nat}(h:CRel S cs vs)(k:CRel S ps us)(hl:off+ps.length<=cs.length)
  (hw:ws.toList=vs.toList.take off++us.toList++vs.toList.drop (off+us.size)):CRel S (AL.splice cs off ps) ws:=by
 have h1:=h.len;have k1:=k.len;have hws: ∀i:Nat,ws[i]? =(vs.toList.take off++us.toList++vs.toList.drop (off+us.size))[i]? :=fun i=>by rw[<-hw,Yi]
 have m1:min off vs.size=off:=Qf0;have m2:min off cs.length=off:=Qf0;refine⟨?_,fun i u hu=> ?_,fun i p u hp hu=> ?_⟩
 ·have:ws.size=ws.toList.length:=Qf1;rw[this,hw];simp[AL.splice];omega
 ·rw[hws] at hu;simp only[Qs,Xk,Wq,Ql,Xr,Yg,Yi] at hu;split at hu
  ·split at hu
   ·split at hu
    ·exact h.one _ u hu
    ·cases hu
   ·exact k.one _ u hu
  ·exact h.one _ u hu
 ·rw[hws] at hu;simp only[Qs,Xk,Wq,Ql,Xr,Yg,Yi,m1] at hu;simp only[AL.splice,Qs,Xk,Ql,Xr,Yg,m2] at hp;by_cases c1:i<off
  ·rw[Qj Qf0,Qj c1,Qj c1] at hp hu;exact h.rel i p u hp hu
  ·by_cases c2:i<off+ps.length
   ·rw[Qj Qf0,Qi c1] at hp hu;exact k.rel _ p u hp hu
   ·rw[Qi Qf0] at hp hu;refine h.rel _ p u hp ?_;rw[<-hu];congr 1;omega
theorem vM{S:St}{p:PV}{v:Value}(h:wI p=true)(hv:VRel S p v):CRel S (xD p) v.cells:=
 let ⟨a,b,c⟩:=jM h hv
 ⟨a,b,c⟩
theorem zb1{S:St}{place:Nat->Option (Nat×Nat)}{f:Operand->PV}{ρ:Operand->Value}: ∀(l:List (Nat×Operand))(cs cs':List PV)(vs:Array Value),(∀x∈l,VRel S (f x.2) (ρ x.2))->CRel S cs vs->
  lM place cs (l.map fun x=>(x.1,f x.2))=some cs'-> ∃vs',Instr.fill place vs (l.map fun x=>(x.1,ρ x.2))=some vs'/\CRel S cs' vs':=by
 intro l
 induction l with
 |nil=>intro cs cs' vs _ h he;cases he;exact⟨vs,rfl,h⟩
 | cons x l ih=>
  intro cs cs' vs hx h he;simp only[Xa,lM] at he;simp only[Xa,Instr.fill];split at he
  ·cases he
  ·rename_i off size hpl;split at he
   case isFalse=>cases he
   rename_i hc;obtain⟨hs,hl,hle⟩:=hc;have k:=vM hs (hx x (Qe ..));have e1:(ρ x.2).cells.size=size:=by rw[k.len,hl]
   have e2:vs.size=cs.length:=h.len;rw[hpl];simp only[];rw[Qi (by rw[e1];simp;omega)];have hfold:=zdW off (ρ x.2).cells.toList 0 vs Qfh;refine ih _ cs' _ (fun y hy=>hx y (Qf _ hy)) (h.splice k Qf0 ?_) he;rw[<-Array.foldl_toList,Array.toList_zipIdx];simpa using hfold
def zS(P:Program)(t:TypeId):Option Value:=(P.info? t).bind (·.zero)
def xW(P:Program)(t:TypeId):Option (Nat->Option (Nat×Nat)):=
 match P.underlying t with
 |some (.struct fs)=>if fs.all fun f=>(xL P f.type).isSome then some fun i=>(fs[i]?).bind fun f=>(xL P f.type).map fun s=>(f.offset,s) else none
 |some (.array _ e)=>(xL P e).map fun s i=>some (i*s,s)
 |_=>none
def kB(P:Program)(t:TypeId)(ps:List (Nat×PV)):Option PV:=
 match zS P t,xW P t with
 |some z,some pl=>if wI (nI z) then(lM pl (xD (nI z)) ps).map .agg else none
 |_,_=>none
theorem mP{P:Program}{t:TypeId}{z:Value}(h:zS P t=some z)(w:World):(zeroValue t).run P w= .ok z w:=by
 unfold zS at h;exact Qcc
theorem aH{P:Program}(w:World): ∀(l:List Field),(l.all fun f=>(xL P f.type).isSome)=true->
  (l.mapM (fun f=>do pure (f.offset,<-sizeOf f.type):Field->Sem (Nat×Nat))).run P w= .ok (l.map fun f=>(f.offset,(xL P f.type).getD 0)) w:=by
 intro l
 induction l with
 |nil=>intro _;rfl
 |cons f l ih=>
  intro h;simp only[Wm,Qt] at h;obtain⟨s,hs⟩:=Zz.1 h.1;simp only[List.mapM_cons,Xp,zV hs,Xd,Yc,ih h.2,Xa,hs,Wv]
theorem zgJ{P:Program}{S:St}{t:TypeId}{parts:Array (Nat×Operand)}{f:Operand->PV}{ρ:Operand->Value}{p:PV}(hx: ∀x∈parts,VRel S (f x.2) (ρ x.2))
  (he:kB P t (parts.toList.map fun x=>(x.1,f x.2))=some p): ∃v,(Instr.build t (parts.map fun (i,x)=>(i,ρ x))).run P S.w= .ok v S.w/\VRel S p v:=by
 unfold kB at he;split at he
 case h_2=>cases he
 rename_i z pl hz hpl;split at he
 case isFalse=>cases he
 rename_i hsh;cases hf:lM pl (xD (nI z)) (parts.toList.map fun x=>(x.1,f x.2)) with
 |none=>rw[hf] at he;cases he
 | some cs'=>
  rw[hf] at he;cases he;obtain⟨vs',hv,hc⟩:=zb1 (S:=S) (ρ:=ρ) parts.toList _ cs' z.cells (fun x hxm=>hx x (by simpa using hxm)) (vM hsh (sN S z)) hf;refine⟨.agg vs',?_,.agg hc.len hc.one hc.rel⟩;have emap:(parts.map fun (i,x)=>(i,ρ x)).toList=parts.toList.map fun x=>(x.1,ρ x.2):=Qf1;simp only[Instr.build,Xp,mP hz,Xd];unfold xW at hpl;split at hpl
  ·rename_i fs hus;split at hpl
   case isFalse=>cases hpl
   rename_i hall;cases hpl;rw[Xc hus];simp only[Xd,Xp];have hm:(fs.mapM (fun f=>do pure (f.offset,<-sizeOf f.type):Field->Sem (Nat×Nat))).run P S.w= .ok ((fs.toList.map fun f=>(f.offset,(xL P f.type).getD 0)).toArray) S.w:=by
    rw[Array.mapM_eq_mapM_toList];simp only[Sem.run_map,aH S.w fs.toList (by simpa using hall),Xd]
   rw[hm];simp only[Xd,emap];have epl:(fun (i:Nat)=>((fs.toList.map fun f=>(f.offset,(xL P f.type).getD 0)).toArray)[i]?)=fun (i:Nat)=>(fs[i]?).bind fun (f:Field)=>(xL P f.type).map fun s=>(f.offset,s):=by
    funext i;simp only[Je,Qu,Yi];cases hf:fs[i]? with
    |none=>rfl
    | some f=>
     have:(xL P f.type).isSome=true:=by
      rw[Array.all_eq_true] at hall;obtain⟨hi,rfl⟩:=Qz.1 hf;exact hall i hi
     obtain⟨s,hs⟩:=Zz.1 this;simp[hs]
   rw[epl,hv];rfl
  ·rename_i n e hus;cases hs:xL P e with
   |none=>rw[hs] at hpl;cases hpl
   |some s=>
    rw[hs] at hpl;cases hpl;rw[Xc hus];simp only[Xd,Xp,zV hs,emap,hv];rfl
  ·cases hpl
def oR{α:Type}[CK α](P:Program)(h:Heap)(t:TypeId)(s x:PV):Option (PV×Heap×α):=
 match wD P t with
 |none=>none
 | some (e,k,b)=>match rO h k x with
  |none=>none
  | some xs=>match s with
   | .nil=>some (.vec h.length k xs,h++[.vec e k xs.length],CK.cnd (xs.length*b<=140737488355328/\xs.length<=140737488355328))
   | .vec r k' els=>match h[r]? with
    | some (.vec e' k2 n)=>if e'=e/\k2=k/\k'=k then
      some (.vec r k (els++xs),h.set r (.vec e k (els.length+xs.length)),CK.cnd (n=els.length/\(els.length+xs.length)*b<=140737488355328/\els.length+xs.length<=140737488355328)) else none
    |_=>none
   | .tc k' els=>if k'=k then
     some (.vec h.length k (els++xs),h++[.vec e k (els.length+xs.length)],CK.cnd (0<xs.length/\(els.length+xs.length)*b<=140737488355328/\els.length+xs.length<=140737488355328)) else none
   |_=>none
def vA{α:Type}[CK α](P:Program)(h:Heap)(f:Operand->PV):Op->Option (PV×Heap×α)
 | .build t parts=>match kB P t (parts.toList.map fun x=>(x.1,f x.2)) with
  |some p=>some (p,h,CK.cnd True)
  |none=>none
 | .buildSlice t n parts=>match wD P t with
  | some (e,k,_)=>match zS P e with
   | some z=>if n*k<=16777216/\wI (nI z) then
     match lM (fun i=>some (i*k,k)) (List.replicate n (xD (nI z))).flatten (parts.toList.map fun x=>(x.1,f x.2)) with
     |some cs=>some (.tc k (wA cs 0 k n),h,CK.cnd True)
     |none=>none
    else none
   |none=>none
  |none=>none
 | .alloc t=>match zS P t with
  |some z=>if wI (nI z) then some (.ptr h.length 0,h++[.var t (xD (nI z))],CK.cnd True) else none
  |none=>none
 | .box t x=>if wI (f x) then some (.ptr h.length 0,h++[.var t (xD (f x))],CK.cnd True) else none
 | .store t a x=>match f a with
  | .ptr r o=>match h[r]? with
   |some (.var T cs)=>match xL P t with
    |some s=>if wI (f x) then some (.ud,h.set r (.var T (splice cs o (xD (f x)))),CK.cnd ((xD (f x)).length=s/\o+s<=cs.length)) else none
    |none=>none
   |_=>none
  |_=>none
 | .makeSlice t l c=>match wD P t with
  |some (e,k,b)=>match zS P e,f l,f c with
   | some z,.sc (.int .i64 n),.sc (.int .i64 m)=>if wI (nI z) then
     some (.ms h.length 0 k n.toNat,h++[.var e (List.replicate n.toNat (xD (nI z))).flatten],CK.cnd (n=m/\0<=n/\n*b<=140737488355328/\n<=140737488355328)) else none
   |_,_,_=>none
  |none=>none
 | .makeMap _ none=>some (.mp h.length,h++[.map []],CK.cnd True)
 | .call c=>match c.callee,c.args.toList,c.argTypes.toList with
  | .builtin .append,[s,x],[t,t']=>if t=t' then oR P h t (f s) (f x) else none
  |_,_,_=>none
 |_=>none
theorem tQ{S:St}{z:Value}(hs:wI (nI z)=true)(n:Nat):CRel S (List.replicate n (xD (nI z))).flatten ((Array.range (n*z.cells.size)).map (z.cells[· %z.cells.size]!)):=by
 have hz:=vM (S:=S) hs (sN S z);have hl:((List.replicate n (xD (nI z))).flatten).length=n*z.cells.size:=by simp[hz.len]
 have hg: ∀(i:Nat)(u:Value),((Array.range (n*z.cells.size)).map (z.cells[· %z.cells.size]!))[i]? =some u->z.cells[i%z.cells.size]? =some u/\i<n*z.cells.size:=by
  intro i u hu;rw[Array.getElem?_map] at hu;cases hr:(Array.range (n*z.cells.size))[i]? with
  |none=>rw[hr] at hu;cases hu
  |some j=>
   rw[hr] at hu;cases hu;obtain⟨hi,rfl⟩:=Qz.1 hr;simp at hi ⊢
   have hpos:0<z.cells.size:=Nat.pos_of_ne_zero fun h=>by rw[h,Nat.mul_zero] at hi;omega
   have hj:=Nat.mod_lt i hpos;exact⟨by rw[Qx hj,getElem!_pos z.cells (i%z.cells.size) hj],hi⟩
 have hq: ∀(m i:Nat)(p:PV),((List.replicate m (xD (nI z))).flatten)[i]? =some p->(xD (nI z))[i%z.cells.size]? =some p:=by
  intro m
  induction m with
  |zero=>intro i p h;simp at h
  | succ m ih=>
   intro i p h;rw[Ww,Yl,Qs] at h;split at h
   ·rename_i hlt;rw[hz.len,Nat.mod_eq_of_lt hlt];exact h
   ·rename_i hge;have:=ih _ p h;rw[<-hz.len] at hge this;rw[Nat.mod_eq_sub_mod Qf0];exact this
 refine⟨by simp[hz.len],fun i u hu=>hz.one _ u (hg i u hu).1,fun i p u hp hu=>hz.rel _ p u (hq n i p hp) (hg i u hu).1⟩
theorem zi8{P:Program}{S:St}(hS:SRel S){t e:TypeId}{k b:Nat}{z:Value}{n:Int}(ht:wD P t=some (e,k,b))(hz:zS P e=some z)(hs:wI (nI z)=true)(h0:0<=n)(hb:n*b<=140737488355328)(hn:n<=140737488355328):
  ∃v w' φ',(Instr.makeSlice t (.int .i64 n) (.int .i64 n)).run P S.w= .ok v w'/\Ext S {S with φ:=φ',h:=S.h++[.var e (List.replicate n.toNat (xD (nI z))).flatten],w:=w'}/\
   SRel {S with φ:=φ',h:=S.h++[.var e (List.replicate n.toNat (xD (nI z))).flatten],w:=w'}/\VRel {S with φ:=φ',h:=S.h++[.var e (List.replicate n.toNat (xD (nI z))).flatten],w:=w'} (.ms S.h.length 0 k n.toNat) v:=by
 obtain⟨htu,i,zv,hi,hzv,hsz,hby,hzs,hk0⟩:=uH ht;have:z=zv:=Qhx;subst this;obtain⟨m,rfl⟩:=Qm h0;have hc:=tQ (S:=S) hs m;have hrun:=run_make (P:=P) S.w t e i z htu hi hzv .i64 .i64 m m h0 (Ug _) (by rw[hby,Int.mul_comm];omega) Qf0;obtain⟨x,hS',hv⟩:=eN hS e _ _ hc.len hc.one hc.rel;have hmx:(140737488355328:Nat)<=maxLen:=Qfo;rw[Xw] at hrun ⊢
 have e0:m*k=m*z.cells.size:=by rw[hzs]
 have e1:madeCells z.cells (m*k)=(Array.range (m*z.cells.size)).map (z.cells[· %z.cells.size]!):=by rw[e0];rfl
 rw[hsz,e1] at hrun;refine⟨_,_,_,hrun,x,hS',?_⟩;cases hv with
 |optr hb'=>simp[St.push] at hb'
 |ptr hp hb'=>
  have hlen:((List.replicate m (xD (nI z))).flatten).length=m*k:=by rw[<-hc.len];simp[hzs]
  refine .ms (t:=e) (cs:=(List.replicate m (xD (nI z))).flatten) hp ?_ (by rw[hlen];omega) (Xe _) Qf0 ⟨_,_,_,heap_alloc_new _ _,by simp[hzs]⟩;simp[St.push]
theorem zeM{pl:Nat->Option (Nat×Nat)}: ∀(ps:List (Nat×PV))(cs cs':List PV),lM pl cs ps=some cs'->cs'.length=cs.length:=by
 intro ps
 induction ps with
 |nil=>intro cs cs' h;cases h;rfl
 | cons x ps ih=>
  intro cs cs' h;simp only[lM] at h;split at h
  ·cases h
  ·split at h
   case isFalse=>cases h
   rename_i hc;rw[ih _ _ h];simp[splice];omega
theorem zkU{P:Program}{S:St}{ρ:Operand->Value}{f:Operand->PV}{o:Oper}{p:PV}{h':Heap}{c:Prop}(hS:SRel S)(hx: ∀x∈o.op.operands,VRel S (f x) (ρ x))
  (he:vA P S.h f o.op=some (p,h',c)) (hc:c): ∃φ' w',Ext S {S with φ:=φ',h:=h',w:=w'}/\SRel {S with φ:=φ',h:=h',w:=w'}/\
   ((∃v,(execOp ρ o).run P S.w= .ok (.value v) w'/\VRel {S with φ:=φ',h:=h',w:=w'} p v)\/((execOp ρ o).run P S.w= .ok .skip w'/\p= .ud)):=by
 have fin: ∀{s:Sem Value}{φ':List Value}{h':Heap}{w':World}{v:Value}{p:PV},s.run P S.w= .ok v w'->Ext S {S with φ:=φ',h:=h',w:=w'}->SRel {S with φ:=φ',h:=h',w:=w'}->VRel {S with φ:=φ',h:=h',w:=w'} p v->
   ∃φ' w',Ext S {S with φ:=φ',h:=h',w:=w'}/\SRel {S with φ:=φ',h:=h',w:=w'}/\
   ((∃v,Sem.run P (do pure (.value (←s)):Sem Next) S.w= .ok (.value v) w'/\VRel {S with φ:=φ',h:=h',w:=w'} p v)\/(Sem.run P (do pure (.value (←s)):Sem Next) S.w= .ok .skip w'/\p= .ud)):=by
  intro s φ' h' w' v p hr x hs hv;exact⟨φ',w',x,hs,.inl ⟨v,by simp only[Xp,hr,Xd,Yc],hv⟩⟩
 unfold execOp;cases hop:o.op with
 |build t parts=>
  rw[hop] at he hx;simp only[vA,vL,wE] at he;split at he
  case h_2=>cases he
  rename_i q hq;cases he;obtain⟨v,hr,hv⟩:=zgJ (P:=P) (S:=S) (ρ:=ρ) (fun x hxm=>hx x.2 (by simp only[Op.operands];simp;exact⟨x.1,hxm⟩)) hq;exact fin hr (Ext.refl _) hS hv
 | buildSlice t n parts=>
  rw[hop] at he hx;simp only[vA,vL,wE] at he;split at he
  case h_2=>cases he
  rename_i e k b ht;split at he
  case h_2=>cases he
  rename_i z hz;split at he
  case isFalse=>cases he
  rename_i hcond;split at he
  case h_2=>cases he
  rename_i cs hfill;cases he;obtain⟨hn,hsh⟩:=hcond;obtain⟨htu,i,zv,hi,hzv,hsz,hby,hzs,hk0⟩:=uH ht;have:z=zv:=Qhx;subst this;obtain⟨vs,hv,hcr⟩:=zb1 (S:=S) (ρ:=ρ) parts.toList _ cs _ (fun x hxm=>hx x.2 (by simp only[Op.operands];simp;exact⟨x.1,by simpa using hxm⟩)) (tQ (S:=S) hsh n) hfill;have hvl:vs.size=n*k:=by
   rw[hcr.len,zeM _ _ _ hfill,<-(tQ (S:=S) hsh n).len];simp[hzs]
  have x:=wT hS (.cells vs e);have hmx:(16777216:Nat)<=maxLen:=Qfo;have hnk:n<=n*k:=Nat.le_mul_of_pos_right n hk0;have hcsl:cs.length=n*k:=by rw[<-hcr.len,hvl]
  refine fin (v:= .slice (some ⟨S.w.heap.size,0,none⟩) n n) (w':=S.w.alloc (.cells vs e)) (φ':=S.φ) ?_ x (nO hS _) (.tc (oF (all:=vs.toList) (by simp[wA]) (fun i e hi=> ?_) (Xe _) Qf0 (fun j u hj=> ?_) (by simp[hvl]) (fun i e j p u hi hp hu=> ?_)))
  ·have emap:(parts.map fun (i,x)=>(i,ρ x)).toList=parts.toList.map fun x=>(x.1,ρ x.2):=Qf1;simp only[Instr.buildSlice,Xp,Xc htu,Xd,zV (show xL P e=some k by simp[xL,hi,hsz])];rw[Qi Qf0];have e0:n*k=n*z.cells.size:=by rw[hzs]
   split
   ·rename_i h0;have hn0:Array.range (n*z.cells.size)= #[]:=by rw[<-e0,h0];rfl
    rw[hn0] at hv;simp only[Xp,Yc,Xd,emap,e0,hn0,Array.map_empty] at hv ⊢
    rw[<-hzs];rw[<-hzs] at hv;rw[hv];simp[newRow]
   ·simp only[Xp,mP hz,Yc,Xd,emap];rw[e0,hv];simp[newRow]
  ·obtain⟨hlt,rfl⟩:=vN hi;have:=zaU (k:=k) hlt (show k-1<k by omega);simp;omega
  ·have hj':vs[j]? =some u:=Qfv;have hlt:=(Qz.1 hj').1;have hg:(S.w.alloc (.cells vs e)).heap[S.w.heap.size]? =some (.cells vs e (0,0)):=heap_alloc_new S.w _;refine⟨by rw[cell_of_row _ _ _ _ _ _ hg];exact hj',hcr.one j u hj',rfl,Qf1,fun hx=> ?_,fun r y hy hby=> ?_⟩
   ·have:=hS.xlt _ hx;simp at this
   ·have:=hS.own_lt ⟨r,y,hy,hby⟩;simp at this
  ·obtain⟨hlt,rfl⟩:=vN hi;rw[Xr] at hp;split at hp
   ·rw[Yg] at hp;exact(hcr.rel _ p u (by rw[<-hp,Yd]) Qfx).ext x
   ·cases hp
 |alloc t=>
  rw[hop] at he hx;simp only[vA,vL,wE] at he;split at he
  case h_2=>cases he
  rename_i z hz;split at he
  case isFalse=>cases he
  rename_i hsh;cases he;have hcr:=vM (S:=S) hsh (sN S z);obtain⟨x,hS',hv⟩:=eN hS t _ _ hcr.len hcr.one hcr.rel;refine fin (w':=S.w.alloc (.cells z.cells t)) (φ':=S.φ++[.pointer (some ⟨S.w.heap.size,0,none⟩)]) ?_ x hS' hv;simp[Instr.alloc,mP hz,newVar,newRow]
 |box t y=>
  rw[hop] at he hx;simp only[vA,vL,wE] at he;split at he
  case isFalse=>cases he
  rename_i hsh;cases he;have hcr:=vM (S:=S) hsh (hx y Qgh);obtain⟨x,hS',hv⟩:=eN hS t _ _ hcr.len hcr.one hcr.rel;refine fin (w':=S.w.alloc (.cells (ρ y).cells t)) (φ':=S.φ++[.pointer (some ⟨S.w.heap.size,0,none⟩)]) ?_ x hS' hv;simp[Instr.box,newVar,newRow]
 |store t a y=>
  rw[hop] at he hx;simp only[vA,vL,wE] at he;split at he
  case h_2=>cases he
  rename_i r off hfa;split at he
  case h_2=>cases he
  rename_i T cs hb;split at he
  case h_2=>cases he
  rename_i s hs;split at he
  case isFalse=>cases he
  rename_i hsh;cases he;have h1:=hx a Qgh;rw[hfa] at h1;obtain⟨w',hr,x,hS'⟩:=zfA (P:=P) hS hb h1 hsh (hx y Qgh) hs hc.1 hc.2;refine⟨S.φ,w',x,hS',.inr ⟨?_,rfl⟩⟩;simp only[Xp,hr,Xd,Yc]
 |makeSlice t l m=>
  rw[hop] at he hx;simp only[vA,vL,wE] at he;split at he
  case h_2=>cases he
  rename_i e k b ht;split at he
  case h_2=>cases he
  rename_i z n m' hz hfl hfm;split at he
  case isFalse=>cases he
  rename_i hsh;cases he;obtain⟨rfl,h0,hb,hn⟩:=hc;have h1:=hx l Qgh;have h2:=hx m Qgh;rw[hfl] at h1;rw[hfm] at h2;have g1:ρ l= .int .i64 n:=by generalize ρ l=u at h1;cases h1;rfl
  have g2:ρ m= .int .i64 n:=by generalize ρ m=u at h2;cases h2;rfl
  obtain⟨v,w',φ',hr,x,hS',hv⟩:=zi8 (P:=P) hS ht hz hsh h0 hb hn;refine fin (v:=v) ?_ x hS' hv;rw[g1,g2];exact hr
 | makeMap t r=>
  rw[hop] at he hx;cases r with
  |some r=>simp[vA] at he
  | none=>
   simp only[vA,vL,wE] at he;cases he;have x:Ext S (({S with w:=S.w.alloc (.map #[] 0)}:St).push (.map (some S.w.heap.size)) (.map [])):=tZ (wT hS _) hS rfl rfl _ _ Qha;have hS':SRel (({S with w:=S.w.alloc (.map #[] 0)}:St).push (.map (some S.w.heap.size)) (.map [])):=
    uP hS x rfl rfl rfl (fun n hn=>Below.heap_alloc _ _ _ hn) ⟨S.w.heap.size,0, #[],rfl,heap_alloc_new S.w _,rfl,⟨rfl,Qf1,Qf1⟩,Qf1⟩ Qha
   exact fin (v:= .map (some S.w.heap.size)) (w':=S.w.alloc (.map #[] 0)) (φ':=S.φ++[.map (some S.w.heap.size)]) rfl x hS' (.mp (es:=[]) Qgx Qfw)
 | call cl=>
  rw[hop] at he hx;simp only[vA,vL,wE] at he;split at he
  case h_2=>cases he
  rename_i s y t t' mM hca hct;split at he
  case isFalse=>cases he
  rename_i htt;subst htt;have e1:=qA hca;have e2:=qA hct;have hs:=hx s Qhe;have hy:=hx y Qhe;have done: ∀{h':Heap}{p:PV},(∃z w' φ',(Builtin.append_ #[t,t] o.type #[ρ s,ρ y]).run P S.w= .ok z w'/\Ext S {S with φ:=φ',h:=h',w:=w'}/\SRel {S with φ:=φ',h:=h',w:=w'}/\VRel {S with φ:=φ',h:=h',w:=w'} p z)->
    ∃φ' w',Ext S {S with φ:=φ',h:=h',w:=w'}/\SRel {S with φ:=φ',h:=h',w:=w'}/\
    ((∃v,Sem.run P (do let d ←resolve ρ cl o.type;invoke d.target d.args:Sem Next) S.w= .ok (.value v) w'/\VRel {S with φ:=φ',h:=h',w:=w'} p v)\/(Sem.run P (do let d ←resolve ρ cl o.type;invoke d.target d.args:Sem Next) S.w= .ok .skip w'/\p= .ud)):=by
   rintro h' p ⟨z,w',φ',hr,x,hS',hv⟩;refine⟨φ',w',x,hS',.inl ⟨z,?_,hv⟩⟩;simp[resolve,invoke,builtin,mM,e1,e2,hr]
  unfold oR at he;simp only[vL,wE] at he;split at he
  ·cases he
  ·rename_i e k b ht;split at he
   ·cases he
   ·rename_i xs hxs;split at he
    ·rename_i hfs;cases he;rw[hfs] at hs;exact done (append_nil hS ht hs hxs hy hc.1 hc.2)
    ·rename_i r k' els hfs;split at he
     case h_2=>cases he
     rename_i e' k2 n hb;split at he
     case isFalse=>cases he
     rename_i hcond;obtain⟨rfl,rfl,rfl⟩:=hcond;cases he;obtain⟨rfl,h1,h2⟩:=hc;rw[hfs] at hs;exact done (jW hS ht hs hb hxs hy h1 h2)
    ·rename_i k' els hfs;split at he
     case isFalse=>cases he
     rename_i hk;subst hk;cases he;obtain⟨h0,h1,h2⟩:=hc;rw[hfs] at hs;exact done (zeK hS ht hs hxs hy h1 h2 h0)
    ·cases he
 |_=>rw[hop] at he;cases he
def FW(rd:Option Nat):Fence:={Fence.wide with round:=rd}
theorem FW_inRound(rd:Option Nat)(l:Nat):(FW rd).inRound l=FW (some l):=rfl
section
variable(P:Program)(G:Glob)(rd:Option Nat)
def OpOk(o:Oper)(h:Heap)(f:Operand->PV)(R:PV->Heap->Prop):Prop:=
 ∀(φ:List Value)(w:World)(X:Addr->Prop)(a:Act)(K:Act->World->Prop)(Q:Exit->Act->World->Prop),SRel ⟨φ,h,w,X⟩->GRel ⟨φ,h,w,X⟩ G->
  (∀x∈o.op.operands,VRel ⟨φ,h,w,X⟩ (f x) (a.eval x))->
  (∀(φ':List Value)(h':Heap)(w':World)(p:PV)(v:Value),Ext ⟨φ,h,w,X⟩ ⟨φ',h',w',X⟩->SRel ⟨φ',h',w',X⟩->VRel ⟨φ',h',w',X⟩ p v->R p h'->K (a.put o.dst v) w')->
  o.wpIn (FW rd) 0 P a w K Q
variable{P G rd}
theorem OpOk.mono{o:Oper}{h:Heap}{f:Operand->PV}{R R':PV->Heap->Prop}(k:OpOk P G rd o h f R)(hr: ∀p h',R p h'->R' p h'):OpOk P G rd o h f R':=
 fun φ w X a K Q hS hG hx hK=>k φ w X a K Q hS hG hx fun φ' h' w' p v e s r t=>hK φ' h' w' p v e s r (hr _ _ t)
theorem OpOk.of_run{o:Oper}{h:Heap}{f:Operand->PV}{R:PV->Heap->Prop}(hd: ∀c,o.op≠ .defer c)
  (k: ∀(φ:List Value)(w:World)(X:Addr->Prop)(ρ:Operand->Value),SRel ⟨φ,h,w,X⟩->GRel ⟨φ,h,w,X⟩ G->(∀x∈o.op.operands,VRel ⟨φ,h,w,X⟩ (f x) (ρ x))->
   ∃(φ':List Value)(h':Heap)(w':World)(p:PV)(v:Value),(execOp ρ o).run P w= .ok (.value v) w'/\Ext ⟨φ,h,w,X⟩ ⟨φ',h',w',X⟩/\SRel ⟨φ',h',w',X⟩/\VRel ⟨φ',h',w',X⟩ p v/\R p h'):
  OpOk P G rd o h f R:=by
 intro φ w X a K Q hS hG hx hK;obtain⟨φ',h',w',p,v,hrun,he,hs,hv,hr⟩:=k φ w X a.eval hS hG hx;refine⟨fun f _=>trivial,?_⟩;rw[Oper.semAt_eq _ _ _ hd,hrun];exact hK φ' h' w' p v he hs hv hr
theorem OpOk.of_skip{o:Oper}{h:Heap}{f:Operand->PV}{R:PV->Heap->Prop}(hd: ∀c,o.op≠ .defer c)
  (k: ∀(φ:List Value)(w:World)(X:Addr->Prop)(ρ:Operand->Value),SRel ⟨φ,h,w,X⟩->GRel ⟨φ,h,w,X⟩ G->(∀x∈o.op.operands,VRel ⟨φ,h,w,X⟩ (f x) (ρ x))->
   ∃(φ':List Value)(h':Heap)(w':World),(execOp ρ o).run P w= .ok .skip w'/\Ext ⟨φ,h,w,X⟩ ⟨φ',h',w',X⟩/\SRel ⟨φ',h',w',X⟩/\R .ud h'):
  OpOk P G rd o h f R:=by
 intro φ w X a K Q hS hG hx hK;obtain⟨φ',h',w',hrun,he,hs,hr⟩:=k φ w X a.eval hS hG hx;refine⟨fun f _=>trivial,?_⟩;rw[Oper.semAt_eq _ _ _ hd,hrun];exact hK φ' h' w' .ud undef he hs .ud hr
theorem OpOk.of_eff{o:Oper}{h h':Heap}{f:Operand->PV}{p:PV}{c:Prop}{R:PV->Heap->Prop}(he:vA P h f o.op=some (p,h',c))(hc:c)(hr:R p h'):
  OpOk P G rd o h f R:=by
 intro φ w X a K Q hS hG hx hK;have hd: ∀c,o.op≠ .defer c:=fun c hop=>by rw[hop] at he;simp[vA] at he
 obtain⟨φ',w',x,hS',hrun⟩:=zkU (P:=P) (S:=⟨φ,h,w,X⟩) (o:=o) (ρ:=a.eval) hS hx he hc;refine⟨fun f _=>trivial,?_⟩;rw[Oper.semAt_eq _ _ _ hd];rcases hrun with ⟨v,hrun,hv⟩|⟨hrun,rfl⟩
 ·rw[hrun];exact hK φ' h' w' p v x hS' hv hr
 ·rw[hrun];exact hK φ' h' w' .ud undef x hS' .ud hr
theorem OpOk.of_pure{o:Oper}{h:Heap}{f:Operand->PV}{p:PV}{c:Prop}{R:PV->Heap->Prop}(he:wO P h f o.op=some (p,c))(hc:c)(hr:R p h):
  OpOk P G rd o h f R:=by
 refine .of_run (fun c hop=>by rw[hop] at he;simp[wO,yI,zcI] at he) fun φ w X ρ hS _ hx=> ?_;obtain⟨v,hrun,hv⟩:=zgV (P:=P) (S:=⟨φ,h,w,X⟩) (o:=o) (ρ:=ρ) hS hx he hc;exact⟨φ,h,w,p,v,hrun,Ext.refl _,hS,hv,hr⟩
variable(P G rd)
def AStep(o:Oper)(ts:List PV)(h:Heap)(K:PV->Heap->Prop):Prop:=
 match wO (α:=Prop) P h (wV G ts) o.op with
 |some (p,c)=>c/\K p h
 |none=>match vA (α:=Prop) P h (wV G ts) o.op with
  |some (p,h',c)=>c/\K p h'
  |none=>OpOk P G rd o h (wV G ts) K
def zh9(ops:List Oper)(ts:List PV)(j:Nat):Option PV:=((ops[j]?).bind (·.dst)).map (ts.getD · .un)
def AReg(ops:List Oper):List Oper->(List PV->Heap->Prop)->List PV->Heap->Prop
 | [],Q,ts,h=>Q ts h
 | o::rest,Q,ts,h=>
  match o.guard with
  |none=>AStep P G rd o ts h fun p h'=>AReg ops rest Q (zZ ts o.dst p) h'
  |some (j,want)=>
   match zh9 ops ts j with
   |some (.sc (.bool b))=>(b=want->AStep P G rd o ts h fun p h'=>AReg ops rest Q (zZ ts o.dst p) h')/\(b≠want->AReg ops rest Q (zZ ts o.dst .ud) h)
   |some .ud=>AReg ops rest Q (zZ ts o.dst .ud) h
   |_=>False
def SReg(ops:List Oper):List Oper->(List PV->Heap->Prop)->List PV->Heap->Prop
 | [],Q,ts,h=>Q ts h
 | o::rest,Q,ts,h=>
  match o.guard with
  |none=>OpOk P G rd o h (wV G ts) fun p h'=>SReg ops rest Q (zZ ts o.dst p) h'
  |some (j,want)=>
   match zh9 ops ts j with
   |some (.sc (.bool b))=>(b=want->OpOk P G rd o h (wV G ts) fun p h'=>SReg ops rest Q (zZ ts o.dst p) h')/\(b≠want->SReg ops rest Q (zZ ts o.dst .ud) h)
   |some .ud=>SReg ops rest Q (zZ ts o.dst .ud) h
   |_=>False
variable{P G rd}
theorem AStep.ok{o:Oper}{ts:List PV}{h:Heap}{K:PV->Heap->Prop}(k:AStep P G rd o ts h K):OpOk P G rd o h (wV G ts) K:=by
 unfold AStep at k;split at k
 ·rename_i p c he;exact .of_pure he k.1 k.2
 ·split at k
  ·rename_i p h' c he;exact .of_eff he k.1 k.2
  ·exact k
end
def MRel(B:Nat)(S:St)(ds:List Deferred):Prop:= ∃rs:List Nat,ds=rs.map (fun r=>⟨.collected r, #[]⟩)/\rs.Nodup/\ ∀r∈rs,B<=r/\r<S.w.heap.size/\S.w.heap[r]? =some (.deferred (some []))/\ ¬S.Own r
theorem MRel.ext{B:Nat}{S S':St}{ds:List Deferred}(h:MRel B S ds)(x:Ext S S'):MRel B S' ds:=by
 obtain⟨rs,he,hn,h⟩:=h;refine⟨rs,he,hn,fun r hr=> ?_⟩;obtain⟨hB,hlt,hb,hn⟩:=h r hr;obtain⟨h1,h2⟩:=x.unt r hlt hn;exact⟨hB,Yf hlt x.size,h2.trans hb,h1⟩
structure ARel(B:Nat)(S:St)(G:Glob)(ts:List PV)(a:Act):Prop where
 st:SRel S
 gl:GRel S G
 tr:TRel S ts a.tmps
 mark:MRel B S a.defers
 base:B<=S.w.heap.size
def AWp(P:Program)(G:Glob)(rd:Option Nat)(c:Code)(Q:Exit->List PV->Heap->Prop)(ts:List PV)(h:Heap):Prop:=
 ∀(B:Nat)(φ:List Value)(w:World)(X:Addr->Prop)(a:Act),ARel B ⟨φ,h,w,X⟩ G ts a->
  c.wpIn (FW rd) 0 P (fun e a' w'=> ∃(φ':List Value)(ts':List PV)(h':Heap),Ext ⟨φ,h,w,X⟩ ⟨φ',h',w',X⟩/\ARel B ⟨φ',h',w',X⟩ G ts' a'/\Q e ts' h') a w
section
variable{P:Program}{G:Glob}{rd:Option Nat}
theorem nK{S:St}{ops:Array Oper}{ts:List PV}{tmps:Array Value}{j:Nat}{b:Bool}(hT:TRel S ts tmps)(h:zh9 ops.toList ts j=some (.sc (.bool b))):yielded ops tmps j=some b:=by
 unfold zh9 at h;unfold yielded;rw[Yi] at h;cases hd:(ops[j]?).bind (·.dst) with
 |none=>rw[hd] at h;simp at h
 | some d=>
  rw[hd] at h;simp only[Wh,Option.some.injEq] at h;rw[Qb] at h;cases ht:ts[d]? with
  |none=>rw[ht] at h;simp at h
  |some p=>
   rw[ht] at h;simp only[Wv] at h;subst h;have:=hT.rel d _ ht;rw[Yx] at this;simp only[Jq];cases hv:tmps[d]? with
   |none=>rw[hv] at this;cases this
   |some v=>rw[hv] at this;simp only[Wv] at this;cases this;rfl
theorem nJ{S:St}{ops:Array Oper}{ts:List PV}{tmps:Array Value}{j:Nat}(hT:TRel S ts tmps)(h:zh9 ops.toList ts j=some .ud):yielded ops tmps j=none:=by
 unfold zh9 at h;unfold yielded;rw[Yi] at h;cases hd:(ops[j]?).bind (·.dst) with
 |none=>rfl
 | some d=>
  rw[hd] at h;simp only[Wh,Option.some.injEq] at h;rw[Qb] at h;cases ht:ts[d]? with
  |none=>rw[ht] at h;simp at h
  | some p=>
   rw[ht] at h;simp only[Wv] at h;subst h;have:=hT.rel d _ ht;rw[Yx] at this;simp only[Jq];cases hv:tmps[d]? with
   |none=>rfl
   |some v=>
    rw[hv] at this;simp only[Wv] at this;generalize v=u at this;cases this;rfl
theorem aF{ops:Array Oper}{Q:List PV->Heap->Prop}: ∀(n:Nat)(ts:List PV)(h:Heap),SReg P G rd ops.toList (ops.toList.drop n) Q ts h->
  ∀(B:Nat)(φ:List Value)(w:World)(X:Addr->Prop)(a:Act),ARel B ⟨φ,h,w,X⟩ G ts a-> ∀(QQ:Exit->Act->World->Prop),
   (∀(φ':List Value)(w':World)(a':Act)(ts':List PV)(h':Heap),Ext ⟨φ,h,w,X⟩ ⟨φ',h',w',X⟩->ARel B ⟨φ',h',w',X⟩ G ts' a'->Q ts' h'->QQ .normal a' w')->
   wpOpsIn (FW rd) 0 P ops QQ (List.range' n (ops.size-n)) a w:=by
 intro n;generalize hm:ops.size-n=m
 induction m generalizing n with
 |zero=>
  intro ts h hr B φ w X a hA QQ hQ;have:ops.toList.drop n=[]:=Zu Qfh;rw[this] at hr;exact hQ φ w a ts h (Ext.refl _) hA hr
 | succ m ih=>
  intro ts h hr B φ w X a hA QQ hQ;have hlt:n<ops.size:=Qf0;have hd:ops.toList.drop n=ops[n]::ops.toList.drop (n+1):=by
   rw[Zt (by simpa using hlt)];simp
  have hg:ops[n]? =some ops[n]:=by simp[hlt]
  rw[hd] at hr;simp only[List.range'_succ,wpOpsIn,hg];have next: ∀(φ':List Value)(h':Heap)(w':World)(a':Act)(ts':List PV),Ext ⟨φ,h,w,X⟩ ⟨φ',h',w',X⟩->ARel B ⟨φ',h',w',X⟩ G ts' a'->SReg P G rd ops.toList (ops.toList.drop (n+1)) Q ts' h'->
    wpOpsIn (FW rd) 0 P ops QQ (List.range' (n+1) m) a' w':=fun φ' h' w' a' ts' x hA' hr'=>
   ih (n+1) Qf0 ts' h' hr' B φ' w' X a' hA' QQ fun φ'' w'' a'' ts'' h'' x' hA'' hq=>hQ φ'' w'' a'' ts'' h'' (x.trans x') hA'' hq
  have put: ∀(φ':List Value)(h':Heap)(w':World)(dst:Option Tmp)(p:PV)(v:Value),Ext ⟨φ,h,w,X⟩ ⟨φ',h',w',X⟩->SRel ⟨φ',h',w',X⟩->VRel ⟨φ',h',w',X⟩ p v->
    ARel B ⟨φ',h',w',X⟩ G (zZ ts dst p) (a.put dst v):=fun φ' h' w' dst p v x hs hv=>
   ⟨hs,hA.gl.ext x,(hA.tr.ext x).put dst hv,by have:=hA.mark.ext x;cases dst<;>exact this,Ya hA.base x.size⟩
  have step: ∀(hk:OpOk P G rd ops[n] h (wV G ts) fun p h'=>SReg P G rd ops.toList (ops.toList.drop (n+1)) Q (zZ ts ops[n].dst p) h'),
    ops[n].wpIn (FW rd) 0 P a w (wpOpsIn (FW rd) 0 P ops QQ (List.range' (n+1) m)) QQ:=fun hk=>
   hk φ w X a _ _ hA.st hA.gl (fun x _=>lI hA.gl hA.tr x) fun φ' h' w' p v x hs hv hr'=>next φ' h' w' _ _ x (put φ' h' w' _ p v x hs hv) hr'
  have skip: ∀(hk:SReg P G rd ops.toList (ops.toList.drop (n+1)) Q (zZ ts ops[n].dst .ud) h),wpOpsIn (FW rd) 0 P ops QQ (List.range' (n+1) m) (a.put ops[n].dst undef) w:=fun hk=>
   next φ h w _ _ (Ext.refl _) (put φ h w _ .ud undef (Ext.refl _) hA.st .ud) hk
  simp only[SReg] at hr;cases wP:ops[n].guard with
  |none=>
   rw[wP] at hr;rw[Qj (by simp[Region.wanted,wP])];exact step hr
  | some jw=>
   obtain⟨j,want⟩:=jw;rw[wP] at hr;simp only[] at hr;split at hr
   ·rename_i b hb;have hy:=nK hA.tr hb;by_cases hbw:b=want
    ·rw[Qj (by simp[Region.wanted,wP,hy,hbw])];exact step (hr.1 hbw)
    ·rw[Qi (by simp[Region.wanted,wP,hy,hbw])];exact⟨fun _ _=>trivial,skip (hr.2 hbw)⟩
   ·rename_i hb;have hy:=nJ hA.tr hb;rw[Qi (by simp[Region.wanted,wP,hy])];exact⟨fun _ _=>trivial,skip hr⟩
   ·exact hr.elim
theorem rM{id:Nat}{l:List Oper}{Q:Exit->List PV->Heap->Prop}{ts:List PV}{h:Heap}(k:SReg P G rd l l (Q .normal) ts h):AWp P G rd (.region id l.toArray false) Q ts h:=by
 intro B φ w X a hA;refine wpIn_region ?_;rw[List.range_eq_range'];exact aF 0 ts h (by simpa using k) B φ w X a hA _ fun φ' w' a' ts' h' x hA' hq=>⟨φ',ts',h',x,hA',hq⟩
theorem AWp.mono{c:Code}{Q Q':Exit->List PV->Heap->Prop}{ts:List PV}{h:Heap}(k:AWp P G rd c Q ts h)(hq: ∀e ts h,Q e ts h->Q' e ts h):AWp P G rd c Q' ts h:=
 fun B φ w X a hA=>wpIn_mono (k B φ w X a hA) fun e a' w' ⟨φ',ts',h',x,hA',q⟩=>⟨φ',ts',h',x,hA',hq _ _ _ q⟩
def AThen(N:List PV->Heap->Prop)(Q:Exit->List PV->Heap->Prop):Exit->List PV->Heap->Prop
 | .normal,ts,h=>N ts h
 |e,ts,h=>Q e ts h
theorem lH{c d:Code}{Q:Exit->List PV->Heap->Prop}{ts:List PV}{h:Heap}(k:AWp P G rd c (AThen (AWp P G rd d Q) Q) ts h):AWp P G rd (.seq c d) Q ts h:=by
 intro B φ w X a hA;refine wpIn_seq (wpIn_mono (k B φ w X a hA) ?_);rintro e a' w' ⟨φ',ts',h',x,hA',q⟩;cases e with
 |normal=>
  refine wpIn_mono (q B φ' w' X a' hA') ?_;rintro e a'' w'' ⟨φ'',ts'',h'',x',hA'',q'⟩;exact⟨φ'',ts'',h'',x.trans x',hA'',q'⟩
 |_=>exact⟨φ',ts',h',x,hA',q⟩
theorem mU{Q:Exit->List PV->Heap->Prop}{ts:List PV}{h:Heap}(k:Q .normal ts h):AWp P G rd .skip Q ts h:=
 fun B φ w X a hA=>wpIn_skip ⟨φ,ts,h,Ext.refl _,hA,k⟩
theorem oI{l:Nat}{Q:Exit->List PV->Heap->Prop}{ts:List PV}{h:Heap}(k:Q .normal ts h):AWp P G rd (.label l) Q ts h:=
 fun B φ w X a hA=>wpIn_label ⟨φ,ts,h,Ext.refl _,hA,k⟩
theorem mW{id:Nat}{Q:Exit->List PV->Heap->Prop}{ts:List PV}{h:Heap}(k:Q (.exit id) ts h):AWp P G rd (.exit id) Q ts h:=
 fun B φ w X a hA=>wpIn_exit ⟨φ,ts,h,Ext.refl _,hA,k⟩
theorem jB{Q:Exit->List PV->Heap->Prop}{ts:List PV}{h:Heap}(k:Q .ret ts h):AWp P G rd .ret Q ts h:=
 fun B φ w X a hA=>wpIn_ret ⟨φ,ts,h,Ext.refl _,hA,k⟩
theorem qQ{x:Operand}{c d:Code}{Q:Exit->List PV->Heap->Prop}{ts:List PV}{h:Heap}{b:Bool}(hx:wV G ts x= .sc (.bool b))
  (k:b=true->AWp P G rd c Q ts h) (k':b=false->AWp P G rd d Q ts h):AWp P G rd (.cond x c d) Q ts h:=by
 intro B φ w X a hA;have hv:=lI hA.gl hA.tr x;rw[hx] at hv;have he:a.eval x= .bool b:=by generalize a.eval x=v at hv;cases hv;rfl
 exact wpIn_cond_split he (fun hb=>k hb B φ w X a hA) (fun hb=>k' hb B φ w X a hA)
def ABlock(id:Nat)(Q:Exit->List PV->Heap->Prop):Exit->List PV->Heap->Prop
 | .exit id',ts,h=>if id'=id then Q .normal ts h else Q (.exit id') ts h
 |e,ts,h=>Q e ts h
theorem oK{id:Nat}{c:Code}{Q:Exit->List PV->Heap->Prop}{ts:List PV}{h:Heap}(k:AWp P G rd c (ABlock id Q) ts h):AWp P G rd (.block id c) Q ts h:=by
 intro B φ w X a hA;refine wpIn_block (wpIn_mono (k B φ w X a hA) ?_);rintro e a' w' ⟨φ',ts',h',x,hA',q⟩;cases e with
 |exit id'=>
  simp only[ABlock] at q;simp only[Exit.inBlock];split
  ·rename_i e;rw[Qj e] at q;exact⟨φ',ts',h',x,hA',q⟩
  ·rename_i e;rw[Qi e] at q;exact⟨φ',ts',h',x,hA',q⟩
 |_=>exact⟨φ',ts',h',x,hA',q⟩
theorem kF{F:Fence}{n:Nat}{c:Code}{Q:Exit->Act->World->Prop}{a:Act}{w:World}(J:Nat->Act->World->Prop)(j:Nat)(h0:J j a w)
  (round: ∀j a w,J j a w->c.wpIn F n P (Exit.then (fun a' w'=> ∃m,m<j/\J m a' w') Q) a w):(Code.loop c).wpIn F n P Q a w:=by
 intro b k cs hro hb hr;have key: ∀j a w,J j a w->
   ∃e a' w',Q e a' w'/\ArrivesIn (Machine.fenced P F) P (lone (b.atR a (.code c:: .inLoop c::k)) cs w) b k cs e a' w':=by
  intro j
  induction j using Nat.strongRecOn with
  | _ j ih=>
   intro a w hI;obtain⟨e,a₁,w₁,hq,harr⟩:=round j a w hI b (.inLoop c::k) cs hro hb hr;cases e with
   |normal=>
    obtain⟨m,hlt,hI₁⟩:=hq;obtain⟨e₂,a₂,w₂,hq₂,harr₂⟩:=ih m hlt a₁ w₁ hI₁;exact⟨e₂,a₂,w₂,hq₂,.of_steps (StepsIn.trans harr (.one (fenced_calm hb hr rfl) stepR_inLoop)) harr₂⟩
   |exit id=>exact⟨_,a₁,w₁,hq,.pass (x:= .inLoop c) rfl (fun _ _=> .inl Qf1) harr⟩
   |goto l=>exact⟨_,a₁,w₁,hq,.pass (x:= .inLoop c) rfl (fun _ _=> .inl Qf1) harr⟩
   |ret=>exact⟨_,a₁,w₁,hq,.pass (x:= .inLoop c) rfl (fun _ _=> .inl Qf1) harr⟩
   |panic ch=>exact⟨_,a₁,w₁,hq,.pass (x:= .inLoop c) rfl (fun _ _=> .inl Qf1) harr⟩
   |outgrown=>exact⟨_,a₁,w₁,hq,.pass (x:= .inLoop c) rfl (fun _ _=> .inl Qf1) harr⟩
 obtain⟨e,a',w',hq,harr⟩:=key _ a w h0;exact⟨e,a',w',hq,.of_steps (.one (fenced_calm hb hr rfl) stepR_loop) harr⟩
theorem mV{c:Code}{Q:Exit->List PV->Heap->Prop}{ts:List PV}{h:Heap}(I:Nat->List PV->Heap->Prop)(n:Nat)(h0:I n ts h)
  (k: ∀n ts h,I n ts h->AWp P G rd c (AThen (fun ts' h'=> ∃m,m<n/\I m ts' h') Q) ts h):AWp P G rd (.loop c) Q ts h:=by
 intro B φ w X a hA;refine kF (fun n a' w'=> ∃(φ':List Value)(ts':List PV)(h':Heap),Ext ⟨φ,h,w,X⟩ ⟨φ',h',w',X⟩/\ARel B ⟨φ',h',w',X⟩ G ts' a'/\I n ts' h') n ⟨φ,ts,h,Ext.refl _,hA,h0⟩ ?_;rintro n a' w' ⟨φ',ts',h',x,hA',hi⟩;refine wpIn_mono (k n ts' h' hi B φ' w' X a' hA') ?_;rintro e a'' w'' ⟨φ'',ts'',h'',x',hA'',q⟩;cases e with
 |normal=>obtain⟨m,hm,hi'⟩:=q;exact⟨m,hm,φ'',ts'',h'',x.trans x',hA'',hi'⟩
 |_=>exact⟨φ'',ts'',h'',x.trans x',hA'',q⟩
end
end Go.AL
namespace Go.AL
open Go.RowKit
inductive Tree:PV->Prop
 |un:Tree .un
 |ud:Tree .ud
 |sc {v:Value}:Tree (.sc v)
 |nil:Tree .nil
 |agg {cs:List PV} (h: ∀p∈cs,Tree p):Tree (.agg cs)
 |tup {cs:List PV} (h: ∀p∈cs,Tree p):Tree (.tup cs)
 |ts {k:Nat} {els:List (List PV)} (h: ∀e∈els, ∀p∈e,Tree p):Tree (.ts k els)
 |tc {k:Nat} {els:List (List PV)} (h: ∀e∈els, ∀p∈e,Tree p):Tree (.tc k els)
 |tp {cs:List PV} (h: ∀p∈cs,Tree p):Tree (.tp cs)
 |fn {f:Fn} {a b:List PV} (h: ∀p∈a,Tree p) (h': ∀p∈b,Tree p):Tree (.fn f a b)
 |ifc {t:TypeId} {p:PV} (h:Tree p):Tree (.ifc t p)
theorem VRel.tree{S S':St}{p:PV}{v:Value}(h:VRel S p v)(ht:Tree p)(hm: ∀a u,S.M a u->S'.M a u):VRel S' p v:=by
 induction h with
 |un=>exact .un
 |ud=>exact .ud
 |sc h=>exact .sc h
 |nil=>exact .nil
 |agg hl h1 _ ih=>cases ht with|agg ht=>exact .agg hl h1 fun i p v hp hv=>ih i p v hp hv (ht p (Qk hp))
 |tup hl _ ih=>cases ht with|tup ht=>exact .tup hl fun i p v hp hv=>ih i p v hp hv (ht p (Qk hp))
 |ts hl hc hm' hk ad ha val hv _ ih=>
  cases ht with|ts ht=>exact .ts hl hc hm' hk ad ha val (fun j hj=>hm _ _ (hv j hj)) fun i e j p hi hp=>ih i e j p hi hp (ht e (Qk hi) p (Qk hp))
 |tc _ ih=>cases ht with|tc ht=>exact .tc (ih (.ts ht))
 |vec _ _ _ _ _=>cases ht
 |ms=>cases ht
 |oms=>cases ht
 |ptr=>cases ht
 |optr=>cases ht
 |tp val hv _ ih=>cases ht with|tp ht=>exact .tp val (fun j hj=>hm _ _ (hv j hj)) fun j p hp=>ih j p hp (ht p (Qk hp))
 |fn hl hl' _ _ ih ih'=>cases ht with|fn h h'=>exact .fn hl hl' (fun i p v hp hv=>ih i p v hp hv (h p (Qk hp))) fun i p v hp hv=>ih' i p v hp hv (h' p (Qk hp))
 |ifc _ ih=>cases ht with|ifc ht=>exact .ifc (ih ht)
 |mp=>cases ht
 |yl=>cases ht
 |it=>cases ht
def PLe(p q:PV):Prop:= ∀(S:St)(v:Value),VRel S p v->VRel S q v
theorem PLe.refl(p:PV):PLe p p:=fun _ _ h=>h
theorem PLe.trans{p q r:PV}(h:PLe p q)(k:PLe q r):PLe p r:=fun S v x=>k S v (h S v x)
theorem PLe.un(p:PV):PLe p .un:=fun _ _ _=> .un
theorem PLe.nil_ts(k:Nat):PLe .nil (.ts k []):=fun S v h=>by
 cases h;exact Qd0
theorem PLe.vec_ts(r k:Nat)(e:List (List PV)):PLe (.vec r k e) (.ts k e):=fun S v h=>by cases h with|vec h=>exact h
theorem PLe.tc_ts(k:Nat)(e:List (List PV)):PLe (.tc k e) (.ts k e):=fun S v h=>by cases h with|tc h=>exact h
theorem PLe.agg{cs ds:List PV}(hl:cs.length=ds.length)(h: ∀(i:Nat)(p q:PV),cs[i]? =some p->ds[i]? =some q->PLe p q):PLe (.agg cs) (.agg ds):=fun S v hv=>by
 cases hv with
 |agg hl' h1 hr=>
  refine .agg (hl'.trans hl) h1 fun i q u hq hu=> ?_;exact Qde
def uG(P:Program)(f:FuncId):Bool:=match P.funcs[f]? with|some fn=> !(fn.name== "runtime.NumGoroutine")&&fn.body.isSome|none=>false
def ACall(P:Program)(G:Glob)(f:FuncId)(args:List PV)(h:Heap)(R:PV->Heap->Prop):Prop:=
 uG P f=true/\ ∀(φ:List Value)(w:World)(X:Addr->Prop)(vs:Array Value),SRel ⟨φ,h,w,X⟩->GRel ⟨φ,h,w,X⟩ G->vs.size=args.length->
  (∀(i:Nat)(p:PV)(v:Value),args[i]? =some p->vs[i]? =some v->VRel ⟨φ,h,w,X⟩ p v)->
  CallsIn Fence.wide 0 P f vs w fun e w'=> ∃(φ':List Value)(h':Heap)(p:PV)(v:Value),e= .returned v/\Ext ⟨φ,h,w,X⟩ ⟨φ',h',w',X⟩/\SRel ⟨φ',h',w',X⟩/\VRel ⟨φ',h',w',X⟩ p v/\R p h'
theorem ACall.mono{P:Program}{G:Glob}{f:FuncId}{args:List PV}{h:Heap}{R R':PV->Heap->Prop}(k:ACall P G f args h R)(hr: ∀p h',R p h'->R' p h'):ACall P G f args h R':=
 ⟨k.1,fun φ w X vs a b c d=>(k.2 φ w X vs a b c d).mono fun e w' ⟨φ',h',p,v,x1,x2,x3,x4,x5⟩=>⟨φ',h',p,v,x1,x2,x3,x4,hr p h' x5⟩⟩
def Pure(P:Program)(G:Glob)(f:FuncId)(args:List PV)(res:PV):Prop:=ACall P G f args [] fun p h'=>p=res/\h'=[]
theorem ACall.args{P:Program}{G:Glob}{f:FuncId}{args args':List PV}{h:Heap}{R:PV->Heap->Prop}(k:ACall P G f args h R)(hl:args'.length=args.length)
  (hle: ∀(i:Nat)(p q:PV),args'[i]? =some p->args[i]? =some q->PLe p q):ACall P G f args' h R:=
 ⟨k.1,fun φ w X vs a b c d=>k.2 φ w X vs a b (c.trans hl) fun i q v hq hv=>by
  have hi:i<args'.length:=by rw[hl];exact(gsi hq).1
  exact hle i _ q (Qa hi) hq _ v (d i _ v (Qa hi) hv)⟩
theorem Pure.frame{P:Program}{G:Glob}{f:FuncId}{args:List PV}{res:PV}(k:Pure P G f args res)(ht: ∀p∈args,Tree p)(hr:Tree res)(hG: ∀g cs,G g=some cs-> ∀p∈cs,Tree p)(h:Heap):
  ACall P G f args h fun p h'=>p=res/\h'=h:=by
 refine⟨k.1,fun φ w X vs hS hGr hl hv=> ?_⟩;let S:St:=⟨φ,h,w,X⟩
 let X0:Addr->Prop:=fun a=>a.block<w.heap.size/\ ¬S.Stable a
 have hm: ∀a u,S.M a u->(⟨[],[],w,X0⟩:St).M a u:=fun a u ⟨h1,h2,h3⟩=>⟨h1,h2,h3.1,h3.2.1,fun hx=>hx.2 h3,fun r v hp=>by simp at hp⟩
 have hS0:SRel ⟨[],[],w,X0⟩:=⟨rfl,fun r b v hb=>by simp at hb,fun r r' v v' n hp=>by simp at hp,fun a ha=>ha.1,fun a ha r v hp=>by simp at hp⟩
 have hG0:GRel ⟨[],[],w,X0⟩ G:=fun g cs hg=>(hGr g cs hg).tree (.tp (hG g cs hg)) hm;refine(k.2 [] w X0 vs hS0 hG0 hl fun i p v hp hvv=>(hv i p v hp hvv).tree (ht p (Qk hp)) hm).mono ?_;rintro e w' ⟨φ',h',p,v,rfl,x,hS',hvr,rfl,rfl⟩;have hφ':φ'=[]:=Xi (by have:=hS'.len;simpa using this);subst hφ';have hsame: ∀b,b<w.heap.size->w'.heap[b]? =w.heap[b]? :=fun b hb=>(x.unt b hb (by rintro⟨r,y,hy,_⟩;simp at hy)).2;have x':Ext S ⟨φ,h,w',X⟩:=by
  refine⟨rfl,x.os,x.tape,x.output,x.size,fun b hb hn=>⟨hn,hsame b hb⟩,fun a u hmu=> ?_,fun r b hb=>⟨b,hb,Blk.le_refl b rfl⟩,fun b m ⟨ar,t1,f1,h1,h2⟩=>⟨ar,t1,f1,(hsame b (Qz.1 h1).1).trans h1,h2⟩⟩;obtain⟨h1,h2,h3,h4,h5,h6⟩:=hmu;exact⟨(World.cell?_of_block (hsame _ h4)).trans h1,h2,h3,Yf h4 x.size,h5,h6⟩
 refine⟨φ,h,p,v,rfl,x',⟨hS.len,fun r b y hb hy=>(hS.blks r b y hb hy).ext x' fun n hn=>hsame n (hS.own_lt ⟨r,y,hy,hn⟩),hS.inj,fun a ha=>Yf (hS.xlt a ha) x.size,hS.xown⟩,?_,rfl,rfl⟩;refine hvr.tree hr fun a u hmu=> ?_;obtain⟨h1,h2,h3,h4,h5,h6⟩:=hmu;refine⟨h1,h2,?_⟩;by_cases hlt:a.block<w.heap.size
 ·have hst:S.Stable a:=Yv fun hn=>h5 ⟨hlt,hn⟩;exact⟨h3,h4,hst.2.2.1,hst.2.2.2⟩
 ·exact⟨h3,h4,fun hx=>hlt (hS.xlt a hx),fun r y hy hb=>absurd (hS.own_lt ⟨r,y,hy,hb⟩) hlt⟩
theorem iC{P:Program}{f:FuncId}(h:uG P f=true)(args:Array Value)(w:World):(callFunc f args).run P w= .ok (.enter f args) w:=by
 unfold uG at h;split at h
 ·rename_i fn hf;simp only[Qt,Bool.not_eq_true'] at h;obtain⟨b,hb⟩:=Zz.1 h.2;have hn: ¬fn.name= "runtime.NumGoroutine" :=by simpa using h.1
  simp[callFunc,hf,hn,hb]
 ·cases h
section
variable{P:Program}{G:Glob}{rd:Option Nat}
theorem OpOk.call{o:Oper}{c:Call}{x:Operand}{f:FuncId}{fst cap:List PV}{h:Heap}{F:Operand->PV}{R:PV->Heap->Prop}(ho:o.op= .call c)(hc:c.callee= .value x)
  (hx:F x= .fn (.func f) fst cap) (k:ACall P G f (fst++c.args.toList.map F++cap) h R):OpOk P G rd o h F R:=by
 intro φ w X a K Q hS hG hop hK;refine⟨fun f _=>trivial,?_⟩;rw[Oper.semAt_eq _ _ _ (fun c' hd=>by rw[ho] at hd;cases hd)];have hxv:=hop x (by rw[ho];simp[Op.operands,Call.operands,hc]);rw[hx] at hxv;obtain⟨us,vs,he,hl,hl',h1,h2⟩: ∃(us vs:Array Value),a.eval x= .func (.func f) us vs/\us.size=fst.length/\vs.size=cap.length/\
   (∀(i:Nat)(p:PV)(v:Value),fst[i]? =some p->us[i]? =some v->VRel ⟨φ,h,w,X⟩ p v)/\(∀(i:Nat)(p:PV)(v:Value),cap[i]? =some p->vs[i]? =some v->VRel ⟨φ,h,w,X⟩ p v):=by
  generalize a.eval x=u at hxv;cases hxv with
  |fn hl hl' h h'=>exact⟨_,_,rfl,hl,hl',h,h'⟩
 obtain⟨m1,m2⟩:=kS (S:=⟨φ,h,w,X⟩) (f:=F) (ρ:=a.eval) c.args (fun y hy=>hop y (by rw[ho];simp[Op.operands,Call.operands,hy]));have hrun:(execOp a.eval o).run P w= .ok (.enter f (us++c.args.map a.eval++vs)) w:=by
  simp[execOp,ho,resolve,hc,he,Deferred.ofValue,invoke,iC k.1]
 rw[hrun];refine⟨fun h=>by simp[FW,Fence.wide] at h,?_⟩;have hsz:(us++c.args.map a.eval++vs).size=(fst++c.args.toList.map F++cap).length:=by
  simp only[Wt,Ql,hl,hl',m1]
 have hcall:=k.2 φ w X (us++c.args.map a.eval++vs) hS hG hsz fun i p v hp hv=>by
  simp only[Qs,Ql] at hp;simp only[Wd,Wt,hl,m1] at hv;split at hp
  ·rename_i hlt;rw[Qj hlt] at hv;split at hp
   ·rename_i hlt2;rw[Qj hlt2] at hv;exact h1 i p v hp hv
   ·rename_i hlt2;rw[Qi hlt2] at hv;exact m2 _ p v hp hv
  ·rename_i hlt;rw[Qi hlt] at hv;exact h2 _ p v hp hv
 exact(show CallsIn (FW rd) (0-1) P f _ w _ from hcall).mono fun e w' ⟨φ',h',p,v,he,x,hs,hv,hr⟩=>by
  subst he;exact hK φ' h' w' p v x hs hv hr
end
end Go.AL
namespace Go.AL
def CkRel{γ:Type}:Option (γ×Bool)->Option (γ×Prop)->Prop
 |some (x,b),some (y,c)=>x=y/\(b=true->c)
 |none,none=>True
 |_,_=>False
theorem zT{γ:Type}:CkRel (γ:=γ) none none:=trivial
theorem xB{γ:Type}(x:γ)(c:Prop)[Decidable c]:CkRel (some (x,(CK.cnd c:Bool))) (some (x,(CK.cnd c:Prop))):=⟨rfl,fun h=>Xj h⟩
theorem zkW(P:Program)(t:TypeId)(op:BinOp)(p q:PV):CkRel (zcM P t op p q) (zcM P t op p q):=by
 unfold zcM;exact Qay
theorem zhZ(P:Program)(t:TypeId)(cs:List PV):CkRel (zk5 P t cs) (zk5 P t cs):=by
 unfold zk5;exact Qay
theorem zkR(P:Program)(t:TypeId)(p:PV):CkRel (pI P t p) (pI P t p):=by
 unfold pI;exact Qay
theorem wJ(q:Option PV)(d z:Nat):CkRel (yV q d z) (yV q d z):=by
 unfold yV;exact Qay
theorem sW{γ:Type}(x:γ){c:Prop}[Decidable c]{b:Bool}{d:Prop}(h:b=true->d):CkRel (some (x,CK.both (CK.cnd c:Bool) b)) (some (x,CK.both (CK.cnd c:Prop) d)):=
 ⟨rfl,fun e=>by
  have e':(decide c&&b)=true:=e;rw[Qt] at e';exact⟨Xj e'.1,h e'.2⟩⟩
theorem rT{b b':Bool}{d d':Prop}(h:b=true->d)(h':b'=true->d'):(CK.both b b':Bool)=true->CK.both d d':=fun e=>by
 have e':(b&&b')=true:=e;rw[Qt] at e';exact⟨h e'.1,h' e'.2⟩
theorem zeJ(P:Program)(h:Heap)(f:Operand->PV)(op:Op):CkRel (yI P h f op) (yI P h f op):=by
 cases op with
 |binOp o t x y u=>exact zkW _ _ _ _ _
 | slice t x lo hi mx=>
  simp only[yI];split
  ·split
   ·rename_i e _ y k els hy;split
    ·split
     ·have h1:=wJ (hi.map f) els.length els.length;rcases hb:yV (α:=Bool) (hi.map f) els.length els.length with _|⟨b,c⟩<;>rcases hp:yV (α:=Prop) (hi.map f) els.length els.length with _|⟨b',c0⟩<;>rw[hb,hp] at h1
      ·exact zT
      ·exact h1.elim
      ·exact h1.elim
      ·exact Qah
     ·rename_i m;have h0:=wJ (some (f m)) els.length 0;rcases hb0:yV (α:=Bool) (some (f m)) els.length 0 with _|⟨d,c00⟩<;>rcases hp0:yV (α:=Prop) (some (f m)) els.length 0 with _|⟨d',c01⟩<;>rw[hb0,hp0] at h0
      ·exact zT
      ·exact h0.elim
      ·exact h0.elim
      obtain⟨rfl,h0⟩:=h0;have h1:=wJ (hi.map f) d d;rcases hb:yV (α:=Bool) (hi.map f) d d with _|⟨b,c⟩<;>rcases hp:yV (α:=Prop) (hi.map f) d d with _|⟨b',c0⟩<;>rw[hb,hp] at h1
      ·simp only[hb,hp];exact zT
      ·exact h1.elim
      ·exact h1.elim
      ·obtain⟨rfl,h1⟩:=h1;simp only[hb,hp];have h2:=wJ (lo.map f) b 0;rcases hb2:yV (α:=Bool) (lo.map f) b 0 with _|⟨a,c'⟩<;>rcases hp2:yV (α:=Prop) (lo.map f) b 0 with _|⟨a',c0'⟩<;>rw[hb2,hp2] at h2
       ·simp only[hb2,hp2];exact zT
       ·exact h2.elim
       ·exact h2.elim
       ·obtain⟨rfl,h2⟩:=h2;simp only[hb2,hp2];exact sW _ (rT h0 (rT h1 h2))
    ·exact zT
   ·exact zT
  ·split
   ·exact Qay
   ·exact Qay
   ·rename_i s _;split
    ·have h1:=wJ (hi.map f) s.size s.size;rcases hb:yV (α:=Bool) (hi.map f) s.size s.size with _|⟨b,c⟩<;>rcases hp:yV (α:=Prop) (hi.map f) s.size s.size with _|⟨b',c0⟩<;>rw[hb,hp] at h1
     ·exact zT
     ·exact h1.elim
     ·exact h1.elim
     ·exact Qah
    ·exact zT
   ·exact zT
 | _=>
  simp only[yI];repeat' split
  all_goals first
   |exact zT
   |exact xB _ _
   |exact zkR _ _ _
   |exact zhZ _ _ _
theorem zaE(P:Program)(h:Heap)(t:TypeId)(s x:PV):CkRel (γ:=PV×Heap) ((oR P h t s x).map fun r=>((r.1,r.2.1),r.2.2)) ((oR P h t s x).map fun r=>((r.1,r.2.1),r.2.2)):=by
 unfold oR;repeat' split
 all_goals first|exact zT|exact xB (γ:=PV×Heap) (_,_) _
theorem zcF(P:Program)(h:Heap)(f:Operand->PV)(op:Op):CkRel (γ:=PV×Heap) ((vA P h f op).map fun r=>((r.1,r.2.1),r.2.2)) ((vA P h f op).map fun r=>((r.1,r.2.1),r.2.2)):=by
 cases op<;>simp only[vA]<;>(repeat' split)
 all_goals first|exact zT|exact xB (γ:=PV×Heap) (_,_) _|exact zaE _ _ _ _ _
theorem zkS(P:Program)(t:TypeId)(p q:PV):CkRel (za2 P t p q) (za2 P t p q):=by
 unfold za2;repeat' split
 all_goals first
  |exact zT
  |exact xB _ _
  |(cases zeW P 20 t _ _<;>first|exact zT|exact xB _ _)
theorem zaC(P:Program)(h:Heap)(t:TypeId)(ok:Bool)(m k:PV):CkRel (xQ P h t ok m k) (xQ P h t ok m k):=by
 unfold xQ;exact Qay
theorem sR{γ:Type}{x:Option (γ×Bool)}{y:Option (γ×Prop)}(h:CkRel x y):(x=none/\y=none)\/ ∃a b c,x=some (a,b)/\y=some (a,c)/\(b=true->c):=by
 cases x with
 |none=>cases y with
  |none=>exact .inl ⟨rfl,rfl⟩
  |some y=>exact h.elim
 |some x=>cases y with
  |none=>exact h.elim
  |some y=>obtain⟨a,b⟩:=x;obtain⟨a',c⟩:=y;obtain⟨rfl,hb⟩:=h;exact .inr ⟨a,b,c,rfl,rfl,hb⟩
theorem zgM(P:Program)(h:Heap)(f:Operand->PV)(op:Op):CkRel (zcI P h f op) (zcI P h f op):=by
 cases op with
 | binOp o t x y u=>
  cases o<;>simp only[zcI]<;>try exact zT
  ·split
   ·exact xB _ _
   ·exact zT
  all_goals
   rcases sR (zkS P t (f x) (f y)) with ⟨e1,e2⟩|⟨a,b,c,e1,e2,h1⟩<;>simp only[e1,e2]
   ·exact zT
   ·exact⟨rfl,h1⟩
 |lookup t m k ok=>exact zaC _ _ _ _ _ _
 |convert s d x=>
  simp only[zcI];cases zx4 P s d (f x) with
  |none=>exact zT
  |some p=>exact xB _ _
 | slice t x lo hi mx=>
  simp only[zcI];split
  ·split
   ·cases mx with
    |none=>
     simp only[];rcases sR (wJ (hi.map f) 0 0) with ⟨e1,e2⟩|⟨b,c,c',e1,e2,h1⟩<;>simp only[e1,e2]
     ·exact zT
     rcases sR (wJ (lo.map f) b 0) with ⟨e3,e4⟩|⟨a,d,d',e3,e4,h2⟩<;>simp only[e3,e4]
     ·exact zT
     exact sW _ (rT h1 h2)
    |some m=>
     simp only[];rcases sR (wJ (some (f m)) 0 0) with ⟨e1,e2⟩|⟨b,c,c',e1,e2,h1⟩<;>simp only[e1,e2]
     ·exact zT
     rcases sR (wJ (hi.map f) b b) with ⟨e3,e4⟩|⟨a,d,d',e3,e4,h2⟩<;>simp only[e3,e4]
     ·exact zT
     rcases sR (wJ (lo.map f) a 0) with ⟨e5,e6⟩|⟨g,d,d',e5,e6,h3⟩<;>simp only[e5,e6]
     ·exact zT
     exact sW _ (rT h1 (rT h2 h3))
   ·exact zT
  ·exact zT
 |_=>exact zT
theorem bN(P:Program)(h:Heap)(f:Operand->PV)(op:Op):CkRel (wO P h f op) (wO P h f op):=by
 have k:=zeJ P h f op;unfold wO;cases hb:yI (α:=Bool) P h f op with
 |none=>
  cases hp:yI (α:=Prop) P h f op with
  |none=>exact zgM P h f op
  |some r=>rw[hb,hp] at k;exact k.elim
 |some r=>
  cases hp:yI (α:=Prop) P h f op with
  |none=>rw[hb,hp] at k;exact k.elim
  |some r'=>rw[hb,hp] at k;exact k
theorem qY{P:Program}{h:Heap}{f:Operand->PV}{op:Op}{p:PV}(e:wO P h f op=some (p,true)): ∃c:Prop,wO P h f op=some (p,c)/\c:=by
 have k:=bN P h f op;rw[e] at k;cases hc:wO (α:=Prop) P h f op with
 |none=>rw[hc] at k;exact k.elim
 |some r=>rw[hc] at k;obtain⟨q,c⟩:=r;obtain⟨rfl,k⟩:=k;exact⟨c,rfl,k rfl⟩
theorem lV{P:Program}{h h':Heap}{f:Operand->PV}{op:Op}{p:PV}(e:vA P h f op=some (p,h',true)): ∃c:Prop,vA P h f op=some (p,h',c)/\c:=by
 have k:=zcF P h f op;rw[e] at k;cases hc:vA (α:=Prop) P h f op with
 |none=>rw[hc] at k;exact k.elim
 |some r=>rw[hc] at k;obtain⟨q,hh,c⟩:=r;obtain⟨hq,k⟩:=k;cases hq;exact⟨c,rfl,k rfl⟩
end Go.AL
