/-
  Base data: valid.
-/
import Derived.Shelf.SlSortCmp.NoneTotal
import Derived.Shelf.SlGeneric
import Derived.Test.YtfjkncfjclifoaaGreatDoorZ34
set_option linter.unusedSimpArgs false
set_option linter.unusedVariables false
set_option maxRecDepth 100000
set_option maxHeartbeats 4000000
namespace Go.AL
open Go.RowKit Go.Sort Go.Shelf Go.Proofs
section
variable {P:Program} {G:Glob}
theorem dT {W W':World} (ht:TapeLe W W') (ho:W'.os=W.os) (hu:W'.output=W.output) (hs:W.heap.size≤W'.heap.size) (hh: ∀ b,b<W.heap.size→W'.heap[b]? =W.heap[b]?):
  ∃ q os,W'=grow (W.drewN q) os:=by
 refine ⟨W'.drawn-W.drawn,W'.heap.extract W.heap.size W'.heap.size,?_⟩
 obtain ⟨h1,t1,d1,o1,u1⟩:=W
 obtain ⟨h2,t2,d2,o2,u2⟩:=W'
 obtain ⟨ht,hd⟩:=ht
 dsimp only at*
 subst ht;subst ho;subst hu
 have e1:d1+(d2-d1)=d2:=by omega
 have e2:h1++h2.extract h1.size h2.size=h2:=by
  apply Array.ext_getElem?
  intro i
  rw [Array.getElem?_append]
  split
  ·rename_i hi;exact (hh i hi).symm
  ·rename_i hi
   rw [Array.getElem?_extract]
   split
   ·congr 1;omega
   ·rw [Array.getElem?_eq_none (by omega)]
 simp only [grow,World.drewN,e1,e2]
theorem Pure.calls {f:FuncId} {args:List PV} {u:Value} (k:Pure P G f args (.sc u)) (ht: ∀ p∈args,Tree p) (hG:GTree G) {φ:List Value} {h:Heap} {w:World} {X:Addr→Prop} (hGr:GRel ⟨φ,h,w,X⟩ G)
  {W:World} (hW: ∀ a v,St.M ⟨φ,h,w,X⟩ a v→W.cell? a=some v) (hsz:w.heap.size≤W.heap.size) {vs:Array Value} (hl:vs.size=args.length) (hv: ∀ (i:Nat) (p:PV) (v:Value),args[i]? =some p→vs[i]? =some v→VRel ⟨φ,h,w,X⟩ p v):
  Calls P f vs W fun e W'=>e= .returned u∧ ∃ q os,W'=grow (W.drewN q) os:=by
 let S:St:=⟨φ,h,w,X⟩
 let X0:Addr→Prop:=fun a=>a.block<W.heap.size∧ ¬S.Stable a
 have hm: ∀ a v,S.M a v→(⟨[],[],W,X0⟩:St).M a v:=fun a v hM=>⟨hW a v hM,hM.2.1,hM.2.2.1,Nat.lt_of_lt_of_le hM.2.2.2.1 hsz,fun hx=>hx.2 hM.2.2,fun r v hp=>by simp at hp⟩
 have hS0:SRel ⟨[],[],W,X0⟩:=⟨rfl,fun r b v hb=>by simp at hb,fun r r' v v' n hp=>by simp at hp,fun a ha=>ha.1,fun a ha r v hp=>by simp at hp⟩
 have hG0:GRel ⟨[],[],W,X0⟩ G:=fun g cs hg=>(hGr g cs hg).tree (.tp (hG g cs hg)) hm
 refine (callsIn_wide.1 (k.2 [] W X0 vs hS0 hG0 hl fun i p v hp hvv=>(hv i p v hp hvv).tree (ht p (List.mem_of_getElem? hp)) hm)).mono ?_
 rintro e W' ⟨φ',h',p,v,rfl,x,hS',hvr,rfl,rfl⟩
 refine ⟨by cases hvr;rfl,dT x.tape x.os x.output x.size fun b hb=>(x.unt b hb (by rintro ⟨r,y,hy,_⟩;simp at hy)).2⟩
theorem bF {S:St} (hS:SRel S) (os:Array Obj):Ext S {S with w:=grow S.w os}:=by
 have hh: ∀ b,b<S.w.heap.size→(grow S.w os).heap[b]? =S.w.heap[b]? :=fun b hb=>heap_grow_old S.w os hb
 refine ⟨rfl,rfl,iN,rfl,by simp,fun b hb hn=>⟨hn,hh b hb⟩,fun a v hm=> ?_,fun r b hb=>⟨b,hb,Blk.le_refl b rfl⟩,fun b m ⟨arr,t,f,hr,hm⟩=>⟨arr,t,f,(hh b (Array.getElem?_eq_some_iff.1 hr).1).trans hr,hm⟩⟩
 obtain ⟨h1,h2,h3,h4,h5,h6⟩:=hm
 exact ⟨(World.cell?_of_block (hh _ h4)).trans h1,h2,h3,by simp;omega,h5,h6⟩
theorem zc6 {S:St} (hS:SRel S) (os:Array Obj):SRel {S with w:=grow S.w os}:=
 ⟨hS.len,fun r b v hb hv=>(hS.blks r b v hb hv).ext (bF hS os) fun n hn=>heap_grow_old S.w os (hS.own_lt ⟨r,v,hv,hn⟩),hS.inj,
  fun a ha=>by have:=hS.xlt a ha;simp;omega,hS.xown⟩
abbrev sZ {β:Type} (f g:β→PV) (l:List β):List PV:=(l.map fun x=>[f x,g x]).flatten
theorem sQ {β:Type} (f g:β→PV) (l:List β):(sZ f g l).length=l.length*2:=by
 induction l with
 |nil=>rfl
 |cons x l ih=>simp only [sZ,List.map_cons,List.flatten_cons,List.length_append,List.length_cons,List.length_nil] at ih ⊢;omega
theorem kY {β:Type} (f g:β→PV): ∀ (l:List β) (i:Nat) (h:i<l.length),(sZ f g l)[i*2]? =some (f l[i])
 |x::l,0,_=>rfl
 |x::l,i+1,h=>by
  have:=kY f g l i (by simpa using h)
  rw [show (i+1)*2=i*2+1+1 by omega]
  simpa only [sZ,List.map_cons,List.flatten_cons,List.cons_append,List.nil_append,List.getElem?_cons_succ,List.getElem_cons_succ] using this
theorem eR {β:Type} (f g:β→PV): ∀ (l:List β) (i:Nat) (h:i<l.length),(sZ f g l)[i*2+1]? =some (g l[i])
 |x::l,0,_=>rfl
 |x::l,i+1,h=>by
  have:=eR f g l i (by simpa using h)
  rw [show (i+1)*2+1=i*2+1+1+1 by omega]
  simpa only [sZ,List.map_cons,List.flatten_cons,List.cons_append,List.nil_append,List.getElem?_cons_succ,List.getElem_cons_succ] using this
def kD (n:Nat) (arr:Array Value) (i:Nat):List Value:=if i<n then [arr.getD (i*2) undef,arr.getD (i*2+1) undef] else [.slice none 0 0,.slice none 0 0]
theorem bG (n:Nat) (arr:Array Value) (i:Nat):(kD n arr i).length=2:=by unfold kD;split<;>rfl
theorem zgA {n:Nat} {arr:Array Value} (hn:n*2≤arr.size) {i e:Nat} (hi:i<n) (he:e<2):(kD n arr i)[e]! =arr[i*2+e]'(by omega):=by
 unfold kD
 rw [if_pos hi]
 match e,he with
 |0,_=>simp [Array.getD,show i*2<arr.size by omega]
 |1,_=>simp [Array.getD,show i*2+1<arr.size by omega]
theorem ACall.pdqSort {α:Type} {ρ:Ren} (L:SlLaysF0.n14 P ρ) (aE: ∀ w,(isAgg (ρ.t 24)).run P w= .ok true w) (zE: ∀ w,(Go.sizeOf (ρ.t 24)).run P w= .ok 2 w) (hen:uG P (ρ.f 14)=true) (lim:Nat) (hlim:lim<4611686018427387904) (hG:GTree G)
  (c:α→PV) (d0:α) (hd0:PLe .nil (c d0)) (hct: ∀ x,Tree (c x)) (cf:α→α→Int) (hO:SWO (ltOf cf)) (g:FuncId) (K:α→Prop) (hK0:K d0)
  (hg: ∀ x y,K x→K y→Pure P G g [.agg [c x,.un],.agg [c y,.un]] (.sc (.int .i64 (cf x y)))) {h:Heap} {r:Nat} {t:TypeId} (xs:List (α×PV)) (hK: ∀ x∈xs,K x.1)
  (hr:h[r]? =some (.var t (sZ (fun x:α×PV=>c x.1) (·.2) xs))) (hlen:xs.length<4611686018427387904):
  ACall P G (ρ.f 14) [.ms r 0 2 xs.length,.sc (.int .i64 0),.sc (.int .i64 xs.length),.sc (.int .i64 lim),.fn (.func g) [] []] h fun p h'=>p= .tup []∧ ∃ ys:List (α×PV),ys.Perm xs∧ys.Pairwise (fun x y=>ltOf cf y.1 x.1=false)∧h'=h.set r (.var t (sZ (fun x:α×PV=>c x.1) (·.2) ys)):=by
 refine ⟨hen,fun φ w X vs hS hGr hl hv=> ?_⟩
 obtain ⟨v0,u1,u2,u3,v1,rfl⟩: ∃ v0 u1 u2 u3 v1,vs= #[v0,u1,u2,u3,v1]:=by
  obtain ⟨l⟩:=vs
  match l,hl with
  | [a,b,c,d,e],_=>exact ⟨a,b,c,d,e,rfl⟩
 have hv0:=hv 0 _ v0 rfl rfl
 have hv1:=hv 4 _ v1 rfl rfl
 obtain rfl:u1= .int .i64 0:=by have:=hv 1 _ u1 rfl rfl;cases this;rfl
 obtain rfl:u2= .int .i64 xs.length:=by have:=hv 2 _ u2 rfl rfl;cases this;rfl
 obtain rfl:u3= .int .i64 lim:=by have:=hv 3 _ u3 rfl rfl;cases this;rfl
 obtain rfl:v1= .func (.func g) #[] #[]:=by
  cases hv1 with
  |fn hl1 hl2 h3 h4=>
   rename_i us vs
   have e1:us= #[]:=Array.eq_empty_of_size_eq_zero (by simpa using hl1)
   have e2:vs= #[]:=Array.eq_empty_of_size_eq_zero (by simpa using hl2)
   subst e1;subst e2;rfl
 obtain ⟨b,cap,rfl,hφ⟩: ∃ b cap,v0= .slice (some ⟨b,0,none⟩) xs.length cap∧φ[r]? =some (.pointer (some ⟨b,0,none⟩)):=by
  cases hv0 with
  |ms hp hb=>exact ⟨_,_,rfl,hp⟩
  |oms hb=>rw [hr] at hb;cases hb
 obtain ⟨b',arr,e,hh,hsz,hone,hrel⟩:=hS.blks r _ _ hr hφ
 obtain rfl:b=b':=by cases e;rfl
 clear e hv hv0 hv1 hl
 rw [sQ] at hsz
 have hhs:w.heap[b]? =some (.cells arr t (0,0)):=hh
 have hblk:b<w.heap.size:=(Array.getElem?_eq_some_iff.1 hhs).1
 let n:=xs.length
 let a:Nat→α:=fun i=>(xs.map (·.1)).getD i d0
 have ha: ∀ (i:Nat) (hi:i<n),a i=xs[i].1:=fun i hi=>by simp only [a];rw [List.getD_eq_getElem?_getD,List.getElem?_map,List.getElem?_eq_getElem hi];rfl
 have ha': ∀ i, ¬i<n→a i=d0:=fun i hi=>by simp only [a];rw [List.getD_eq_getElem?_getD,List.getElem?_eq_none (by simp;omega)];rfl
 have hKa: ∀ i,K (a i):=fun i=>by
  by_cases hi:i<n
  ·rw [ha i hi];exact hK _ (List.getElem_mem hi)
  ·rw [ha' i hi];exact hK0
 have hO':SWO (ltOf fun i j:Nat=>cf (a i) (a j)):=⟨fun x=>hO.irrefl (a x),fun x y z=>hO.trans (a x) (a y) (a z),fun x y z=>hO.ntrans (a x) (a y) (a z)⟩
 have h1: ∀ x, ∀ v∈kD n arr x,v.oneCell'=true:=fun x v hv=>by
  unfold kD at hv
  split at hv
  ·rename_i hx
   have i0:x*2<arr.size:=by omega
   have i1:x*2+1<arr.size:=by omega
   simp only [List.mem_cons,List.not_mem_nil,or_false] at hv
   rcases hv with rfl|rfl
   ·simp only [Array.getD,i0,dif_pos];exact hone _ _ (Array.getElem?_eq_getElem i0)
   ·simp only [Array.getD,i1,dif_pos];exact hone _ _ (Array.getElem?_eq_getElem i1)
  ·simp only [List.mem_cons,List.not_mem_nil,or_false] at hv
   rcases hv with rfl|rfl<;>rfl
 have cellb: ∀ j,w.cell? ⟨b,j,none⟩=arr[j]? :=fun j=>by simp [World.cell?,hhs]
 have flatE: ∀ (d:Array Nat),d.size=n→(∀ i<n,d[i]! <n)→ ∀ j,(hj:j<n*2)→(flatK (kD n arr) 2 d)[j]! =arr[d[j / 2]! *2+j%2]! :=fun d hd hdn j hj=>by
  rw [get_flatK _ _ _ _ (by rw [hd];exact hj)]
  have:=hdn (j / 2) (by omega)
  rw [zgA hsz this (Nat.mod_lt _ (by omega)),getElem!_pos arr _ (by omega)]
 have hH:HoldsK (kD n arr) 2 w b 0 (Array.range n):=by
  intro j hj
  have hj':j<n*2:=by simpa using hj
  have hr0: ∀ i,i<n→(Array.range n)[i]! =i:=fun i hi=>by rw [getElem!_pos _ _ (by simpa using hi)];simp
  rw [flatE _ (by simp) (fun i hi=>by rw [hr0 i hi];exact hi) j hj',hr0 _ (by omega),show j / 2*2+j%2=j by omega,Nat.zero_add,cellb,getElem!_pos arr j (by omega)]
  refine ⟨Array.getElem?_eq_getElem (by omega),?_⟩
  simp only [World.frozen?,hhs]
  simp
 have eg: ∀ args w,(callFunc g args).run P w= .ok (.enter g args) w:=iC (hg d0 d0 hK0 hK0).1
 have hMb: ∀ a v,St.M ⟨φ,h,w,X⟩ a v→a.block≠b∧a.block<w.heap.size:=fun a v hM=>by
  refine ⟨fun e=> ?_,hM.2.2.2.1⟩
  obtain ⟨e',k,n,hh',_⟩:=hM.2.2.2.2.2 r _ hφ (by simp [sC,e])
  rw [show h[r]? =_ from hr] at hh'
  cases hh'
 have hvr: ∀ x,VRel ⟨φ,h,w,X⟩ (.agg [c (a x),.un]) (.agg (kD n arr x).toArray):=fun x=>by
  refine .agg (by simp [bG]) (fun i v hv=>h1 x v (by rw [←List.mem_toArray];exact Array.mem_of_getElem? hv)) fun i p v hp hv=> ?_
  match i,hp,hv with
  |1,hp,hv=>simp at hp;subst hp;exact .un
  |i+2,hp,hv=>simp at hp
  | 0,hp,hv=>
   simp only [List.getElem?_cons_zero,Option.some.injEq] at hp
   subst hp
   unfold kD at hv
   by_cases hx:x<n
   ·rw [if_pos hx] at hv
    have i0:x*2<arr.size:=by omega
    simp [Array.getD,i0] at hv
    subst hv
    have:=kY (fun x:α×PV=>c x.1) (·.2) xs x hx
    rw [ha x hx]
    exact hrel (x*2) _ _ this (Array.getElem?_eq_getElem i0)
   ·rw [if_neg hx] at hv
    simp at hv
    subst hv
    rw [ha' x hx]
    exact hd0 _ _ .nil
 have hcmp:CmpLays P g #[] (kD n arr) 2 (fun i j=>cf (a i) (a j)) b 0 (Array.range n).size w:=fun m os dk hdk x y=>by
  refine Pure.calls (hg (a x) (a y) (hKa x) (hKa y)) (by
   intro p hp
   simp only [List.mem_cons,List.not_mem_nil,or_false] at hp
   rcases hp with rfl|rfl
   ·exact .agg fun q hq=>by simp only [List.mem_cons,List.not_mem_nil,or_false] at hq;rcases hq with rfl|rfl<;>first|exact hct _|exact .un
   ·exact .agg fun q hq=>by simp only [List.mem_cons,List.not_mem_nil,or_false] at hq;rcases hq with rfl|rfl<;>first|exact hct _|exact .un) hG hGr (fun ad v hM=> ?_) (size_sortWorldK_c _ _ _ _ _ _ _ _) (by simp) fun i p v hp hv=> ?_
  ·obtain ⟨hne,hlt⟩:=hMb ad v hM
   unfold sortWorldK
   rw [cell?_grow _ _ _ (by simpa [putRowK,putRow,mapBlock,Go.Sort.ahead] using hlt),cell?_putRowK_other _ _ _ _ _ _ _ hne]
   exact hM.1
  ·match i,hp,hv with
   |0,hp,hv=>simp at hp hv;subst hp;subst hv;exact hvr x
   |1,hp,hv=>simp at hp hv;subst hp;subst hv;exact hvr y
   |i+2,hp,hv=>simp at hp
 have hcon:=AnyQ.pdqsortCmpFunc_all L 2 aE zE (kD n arr) (fun i j=>cf (a i) (a j)) g #[] hO' b 0 cap (Array.range n) w eg hcmp ⟨bG n arr,h1,hH,hblk⟩ ((Array.range n).size+1) 0 (Array.range n).size lim (Array.range n) w (by omega) rfl (SWK.start hH) (Nat.zero_le _) (Nat.le_refl _) (by simpa using hlen) hlim (Or.inl rfl)
 rw [show (Array.range n).size=xs.length by simp [n]] at hcon
 have hpd:=pdq_sorts (ltOf fun i j=>cf (a i) (a j)) hO' (Array.range n) 0 xs.length lim true true (Nat.zero_le _) (by simp [n]) (Or.inl rfl)
 refine (callsIn_wide.2 hcon).mono ?_
 rintro e w' ⟨rfl,m,os,rfl⟩
 obtain ⟨⟨hds, -,hperm⟩,hsorted⟩:=hpd
 generalize Go.Sort.pdq (ltOf fun i j=>cf (a i) (a j)) (Array.range n) 0 xs.length lim true true=d' at*
 have hds:d'.size=n:=by simpa using hds
 have hpm:d'.toList.Perm (List.range n):=by
  have e1:(d'.extract 0 xs.length).toList=d'.toList:=by rw [show xs.length=d'.size from hds.symm,Array.extract_size]
  have e2:((Array.range n).extract 0 xs.length).toList=List.range n:=by
   rw [show xs.length=(Array.range n).size by simp [n],Array.extract_size];simp
  rw [e1,e2] at hperm
  exact hperm
 have hdn: ∀ i<n,d'[i]! <n:=fun i hi=>by
  have:d'[i]! ∈d'.toList:=by rw [getElem!_pos d' i (by omega)];exact Array.mem_toList_iff.2 (Array.getElem_mem _)
  exact List.mem_range.1 (hpm.mem_iff.1 this)
 have hn0: ∀ x:List (α×PV),x=xs→n=x.length:=fun x hx=>by subst hx;rfl
 let ys:List (α×PV):=d'.toList.map fun i=>xs.getD i (d0,.un)
 have hys:ys.length=n:=by simp [ys,hds]
 have hgy: ∀ (i:Nat) (hi:i<ys.length),ys[i]=xs[d'[i]!]'(hdn i (by omega)):=fun i hi=>by
  have hi':i<n:=by omega
  simp only [ys,List.getElem_map,Array.getElem_toList]
  rw [List.getD_eq_getElem?_getD, ←getElem!_pos d' i (by omega),List.getElem?_eq_getElem (hdn i hi')]
  rfl
 have hxs:(List.range n).map (fun i=>xs.getD i (d0,.un))=xs:=by
  refine List.ext_getElem (by simp [n]) fun i h1 h2=> ?_
  simp only [List.getElem_map,List.getElem_range]
  rw [List.getD_eq_getElem?_getD,List.getElem?_eq_getElem h2];rfl
 have hyp:ys.Perm xs:=by
  have:=hpm.map (fun i=>xs.getD i (d0,PV.un))
  rw [hxs] at this
  exact this
 have hyw:ys.Pairwise fun x y=>ltOf cf y.1 x.1=false:=by
  rw [List.pairwise_iff_getElem]
  intro i j hi hj hij
  have:=hsorted i j (Nat.zero_le _) hij (by omega)
  simp only [ltOf] at this ⊢
  rw [hgy i hi,hgy j hj, ←ha _ (hdn i (by omega)), ←ha _ (hdn j (by omega))]
  exact this
 have hl':(sZ (fun x:α×PV=>c x.1) (·.2) ys).length=(sZ (fun x:α×PV=>c x.1) (·.2) xs).length:=by rw [sQ,sQ,hys]
 let w1:World:=putRowK (kD n arr) 2 (Go.Sort.ahead w m) b 0 d'
 let arr':Array Value:=putCells id 0 (flatK (kD n arr) 2 d') arr
 have hw1: ∀ k,k≠b→w1.heap[k]? =w.heap[k]? :=fun k hk=>by
  simp only [w1,putRowK,putRow,mapBlock,Go.Sort.ahead,Array.getElem?_modify]
  rw [if_neg (fun e=>hk e.symm)]
 have hw1b:w1.heap[b]? =some (.cells arr' t (0,0)):=by
  simp only [w1,putRowK,putRow,mapBlock,Go.Sort.ahead,Array.getElem?_modify]
  rw [if_pos trivial,hhs]
  rfl
 have hasz:arr'.size=arr.size:=by simp [arr',putCells]
 have hs1:w1.heap.size=w.heap.size:=by simp [w1,putRowK,putRow,mapBlock,Go.Sort.ahead]
 have hag: ∀ j,j<arr.size→arr'[j]? =some (if j<n*2 then arr[d'[j / 2]! *2+j%2]! else arr[j]!):=fun j hj=>by
  simp only [arr',putCells,Array.getElem?_mapIdx,Array.getElem?_eq_getElem hj,Option.map_some,size_flatK,hds,Nat.zero_add,Nat.zero_le,true_and,Nat.sub_zero,id]
  by_cases hjn:j<n*2
  ·rw [if_pos hjn,if_pos hjn,flatE d' hds hdn j hjn]
  ·rw [if_neg hjn,if_neg hjn,getElem!_pos arr j hj]
 have hone': ∀ (i:Nat) (u:Value),arr'[i]? =some u→u.oneCell'=true:=fun i u hu=>by
  have hi:i<arr.size:=by rw [←hasz];exact (Array.getElem?_eq_some_iff.1 hu).1
  rw [hag i hi] at hu
  cases hu
  split
  ·have:=hdn (i / 2) (by omega)
   rw [getElem!_pos arr _ (by omega)]
   exact hone _ _ (Array.getElem?_eq_getElem _)
  ·rw [getElem!_pos arr _ hi]
   exact hone _ _ (Array.getElem?_eq_getElem _)
 have hrow: ∀ b1 m1,St.Row ⟨φ,h,w,X⟩ b1 m1→St.Row {(⟨φ,h,w,X⟩:St) with w:=w1} b1 m1:=by
  rintro b1 m1 ⟨ar1,t1,f1,hr1,hm1⟩
  by_cases e:b1=b
  ·subst e
   rw [show w.heap[b1]? =some (.cells ar1 t1 f1) from hr1] at hhs
   cases hhs
   exact ⟨arr',_,_,hw1b,by rw [hasz];exact hm1⟩
  ·exact ⟨ar1,t1,f1,(hw1 b1 e).trans hr1,hm1⟩
 have htl:TapeLe w w1:=⟨rfl,Nat.le_add_right _ _⟩
 have hvn: ∀ (i:Nat) (p:PV) (u:Value),(sZ (fun x:α×PV=>c x.1) (·.2) ys)[i]? =some p→arr'[i]? =some u→VRel ⟨φ,h,w,X⟩ p u:=fun i p u hp hu=>by
  have hi:i<n*2:=by have:=(gsi hp).1;rw [sQ,hys] at this;exact this
  rw [hag i (by omega),if_pos hi] at hu
  cases hu
  have hd:=hdn (i / 2) (by omega)
  rw [getElem!_pos arr _ (by omega)]
  refine hrel (d'[i / 2]! *2+i%2) p _ ?_ (Array.getElem?_eq_getElem _)
  have hi2:i / 2<ys.length:=by omega
  rcases Nat.mod_two_eq_zero_or_one i with he|he
  ·have e1:=kY (fun x:α×PV=>c x.1) (·.2) ys (i / 2) hi2
   rw [show i / 2*2=i by omega,hp,hgy _ hi2] at e1
   rw [he,Nat.add_zero,kY _ _ xs _ hd,e1]
  ·have e1:=eR (fun x:α×PV=>c x.1) (·.2) ys (i / 2) hi2
   rw [show i / 2*2+1=i by omega,hp,hgy _ hi2] at e1
   rw [he,eR _ _ xs _ hd,e1]
 have x1:=eT (arr':=arr') hS hφ hr hl' (w':=w1) rfl htl rfl hs1 hw1 hrow
 have hS1:=cM (arr':=arr') hS hφ hr hl' (w':=w1) rfl htl rfl hs1 hw1 hrow hw1b (by rw [sQ,hys,hasz];exact hsz) hone' hvn
 refine ⟨φ,h.set r (.var t (sZ (fun x:α×PV=>c x.1) (·.2) ys)),.tup [],.tuple #[],rfl,x1.trans (bF hS1 os),zc6 hS1 os,.tup rfl fun i p v hp=>by simp at hp,rfl,ys,hyp,hyw,rfl⟩
theorem ACall.pdqNone {ρ:Ren} (L:SlLaysF0.n14 P ρ) (hen:uG P (ρ.f 14)=true) (lim:Int) (g:FuncId) (h:Heap):
  ACall P G (ρ.f 14) [.nil,.sc (.int .i64 0),.sc (.int .i64 0),.sc (.int .i64 lim),.fn (.func g) [] []] h fun p h'=>p= .tup []∧h'=h:=by
 refine ⟨hen,fun φ w X vs hS hGr hl hv=> ?_⟩
 obtain ⟨v0,u1,u2,u3,v1,rfl⟩: ∃ v0 u1 u2 u3 v1,vs= #[v0,u1,u2,u3,v1]:=by
  obtain ⟨l⟩:=vs
  match l,hl with
  | [a,b,c,d,e],_=>exact ⟨a,b,c,d,e,rfl⟩
 obtain rfl:v0= .slice none 0 0:=by have:=hv 0 _ v0 rfl rfl;cases this;rfl
 obtain rfl:u1= .int .i64 0:=by have:=hv 1 _ u1 rfl rfl;cases this;rfl
 obtain rfl:u2= .int .i64 0:=by have:=hv 2 _ u2 rfl rfl;cases this;rfl
 obtain rfl:u3= .int .i64 lim:=by have:=hv 3 _ u3 rfl rfl;cases this;rfl
 refine (callsIn_wide.2 (AnyF.pdqsortCmpFunc_none L none 0 lim v1 w)).mono ?_
 rintro e w' ⟨rfl,rfl⟩
 exact ⟨φ,h,.tup [],.tuple #[],rfl,Ext.refl _,hS,.tup rfl fun i p v hp=>by simp at hp,rfl,rfl⟩
theorem ACall.bitsLen {ρ:Ren} (L:SlLaysF0.n14 P ρ) (hen:uG P (ρ.f 15)=true) (n:Nat) (hn:n<4611686018427387904) (h:Heap):
  ACall P G (ρ.f 15) [.sc (.int .u64 n)] h fun p h'=>p= .sc (.int .i64 (Lib.bitLen n:Nat))∧h'=h:=by
 refine ⟨hen,fun φ w X vs hS hGr hl hv=> ?_⟩
 obtain ⟨v0,rfl⟩: ∃ v0,vs= #[v0]:=by
  obtain ⟨l⟩:=vs
  match l,hl with
  | [a],_=>exact ⟨a,rfl⟩
 obtain rfl:v0= .int .u64 n:=by have:=hv 0 _ v0 rfl rfl;cases this;rfl
 have hb:=Any.bits_Len (SlLaysF0.n15.bits (P:=P) (ρ:=ρ) {L with}) (n:Int) w (by omega) (by omega)
 rw [Int.toNat_natCast] at hb
 have hlt:Lib.bitLen n≤62:=Lib.bitLen_le n 62 (by omega) (by omega)
 refine (callsIn_wide.2 hb).mono ?_
 rintro e w' ⟨rfl,rfl⟩
 have k1:IntKind.i64.min= -9223372036854775808:=by decide
 have k2:IntKind.i64.max=9223372036854775807:=by decide
 have hok:tJ (.int .i64 ((Lib.bitLen n:Nat):Int)):=⟨by rw [k1];omega,by rw [k2];omega⟩
 exact ⟨φ,h,_,_,rfl,Ext.refl _,hS,.sc hok,rfl,rfl⟩
end
end Go.AL
namespace Go.Proofs
open Go.Shelf
def Tryz.sortLRow_ren:Go.Shelf.Ren:=⟨fun|14=>135|20=>177|21=>178|22=>179|23=>180|24=>181|25=>182|26=>183|27=>184|46=>210|47=>211|48=>212|49=>213|50=>214|15=>136|57=>224|28=>185|29=>186|n=>n,fun|24=>136|22=>95|3=>3|25=>183|4=>4|0=>0|46=>277|45=>276|50=>260|66=>303|39=>238|55=>186|70=>307|76=>317|77=>318|53=>283|5=>5|9=>9|n=>n,fun|n=>n⟩
theorem Tryz.sortLRow:Go.Proofs.SlLaysF0.n14 Tryz.prog Tryz.sortLRow_ren:={
 mixed:=by kernel_rfl
 f14:=⟨Tryz.f135.name,by decide,Tryz.func135.trans (congrArg some (by kernel_rfl))⟩
 f15:=Tryz.func136.trans (congrArg some (by kernel_rfl))
 f20:=⟨Tryz.f177.name,by decide,Tryz.func177.trans (congrArg some (by kernel_rfl))⟩
 f21:=⟨Tryz.f178.name,by decide,Tryz.func178.trans (congrArg some (by kernel_rfl))⟩
 f22:=⟨Tryz.f179.name,by decide,Tryz.func179.trans (congrArg some (by kernel_rfl))⟩
 f23:=⟨Tryz.f180.name,by decide,Tryz.func180.trans (congrArg some (by kernel_rfl))⟩
 f24:=⟨Tryz.f181.name,by decide,Tryz.func181.trans (congrArg some (by kernel_rfl))⟩
 f25:=⟨Tryz.f182.name,by decide,Tryz.func182.trans (congrArg some (by kernel_rfl))⟩
 f26:=⟨Tryz.f183.name,by decide,Tryz.func183.trans (congrArg some (by kernel_rfl))⟩
 f27:=⟨Tryz.f184.name,by decide,Tryz.func184.trans (congrArg some (by kernel_rfl))⟩
 f28:=Tryz.func185.trans (congrArg some (by kernel_rfl))
 f29:=Tryz.func186.trans (congrArg some (by kernel_rfl))
 f46:=⟨Tryz.f210.name,by decide,Tryz.func210.trans (congrArg some (by kernel_rfl))⟩
 f47:=Tryz.func211.trans (congrArg some (by kernel_rfl))
 f48:=Tryz.func212.trans (congrArg some (by kernel_rfl))
 f49:=⟨Tryz.f213.name,by decide,Tryz.func213.trans (congrArg some (by kernel_rfl))⟩
 f50:=⟨Tryz.f214.name,by decide,Tryz.func214.trans (congrArg some (by kernel_rfl))⟩
 f57:=⟨Tryz.f224.name,by decide,Tryz.func224.trans (congrArg some (by kernel_rfl))⟩
 t0:=Tryz.underlying0
 a0:=Tryz.isAgg0
 z0:=Tryz.sizeOf0
 v0:=Tryz.zeroValue0
 t3:=Tryz.underlying3
 a3:=Tryz.isAgg3
 z3:=Tryz.sizeOf3
 v3:=Tryz.zeroValue3
 t4:=Tryz.underlying4
 a4:=Tryz.isAgg4
 z4:=Tryz.sizeOf4
 v4:=Tryz.zeroValue4
 t5:=Tryz.underlying5
 a5:=Tryz.isAgg5
 z5:=Tryz.sizeOf5
 v5:=Tryz.zeroValue5
 t9:=Tryz.underlying9
 a9:=Tryz.isAgg9
 z9:=Tryz.sizeOf9
 v9:=Tryz.zeroValue9
 t22:=Tryz.underlying95
 a22:=Tryz.isAgg95
 z22:=Tryz.sizeOf95
 v22:=Tryz.zeroValue95
 t25:=Tryz.underlying183
 a25:=Tryz.isAgg183
 z25:=Tryz.sizeOf183
 v25:=Tryz.zeroValue183
 t39:=Tryz.underlying238
 a39:=Tryz.isAgg238
 z39:=Tryz.sizeOf238
 v39:=Tryz.zeroValue238
 t45:=Tryz.underlying276
 a45:=Tryz.isAgg276
 z45:=Tryz.sizeOf276
 v45:=Tryz.zeroValue276
 t46:=Tryz.underlying277
 a46:=Tryz.isAgg277
 z46:=Tryz.sizeOf277
 v46:=Tryz.zeroValue277
 t50:=Tryz.underlying260
 a50:=Tryz.isAgg260
 z50:=Tryz.sizeOf260
 v50:=Tryz.zeroValue260
 t53:=Tryz.underlying283
 a53:=Tryz.isAgg283
 z53:=Tryz.sizeOf283
 v53:=Tryz.zeroValue283
 t55:=Tryz.underlying186
 a55:=Tryz.isAgg186
 z55:=Tryz.sizeOf186
 v55:=Tryz.zeroValue186
 t66:=Tryz.underlying303
 a66:=Tryz.isAgg303
 z66:=Tryz.sizeOf303
 v66:=Tryz.zeroValue303
 t70:=Tryz.underlying307
 a70:=Tryz.isAgg307
 z70:=Tryz.sizeOf307
 v70:=Tryz.zeroValue307
 t76:=Tryz.underlying317
 a76:=Tryz.isAgg317
 z76:=Tryz.sizeOf317
 v76:=Tryz.zeroValue317
 t77:=Tryz.underlying318
 a77:=Tryz.isAgg318
 z77:=Tryz.sizeOf318
 v77:=Tryz.zeroValue318}
end Go.Proofs
namespace Go.AL
open Go.Proofs Go.Sort
def LRw.ok2 (x:LRw):Prop:=x.args.length≤1048576∧x.cs.length≤64∧ ∀ a∈x.args,a.s.size≤16
theorem zbO (f:En→PV): ∀ {es:List En} {i:Nat} (j:Nat) {e:En},(es.map (·.k)).Nodup→es[i]? =some e→vV (.string e.k) (es.map fun e=>(Value.string e.k,f e)) j=some (j+i,f e)
 | [],i,j,e,_,h=>by simp at h
 |x::es,0,j,e,_,h=>by
  simp at h;subst h
  simp [vV,sY]
 |x::es,i+1,j,e,hn,h=>by
  rw [List.map_cons,List.nodup_cons] at hn
  have h':es[i]? =some e:=by simpa using h
  have hne: ¬e.k=x.k:=fun q=>hn.1 (by rw [←q];exact List.mem_map_of_mem (f:=fun e:En=>e.k) (List.mem_of_getElem? h'))
  have:=zbO f (j+1) hn.2 h'
  simp only [List.map_cons,vV]
  rw [if_neg (by simp [sY,hne]),this]
  congr 2;omega
theorem qG: ∀ (n:Nat) (l:List Nat),l.Nodup→(∀ x∈l,x<n)→l.length≤n
 |0,[],_,_=>Nat.le_refl _
 |0,x::l,_,h=>absurd (h x (List.mem_cons_self ..)) (Nat.not_lt_zero _)
 | n+1,l,hn,h=>by
  by_cases hm:n∈l
  ·have:=qG n (l.erase n) (hn.erase n) fun x hx=>by
    have h1:=h x (List.mem_of_mem_erase hx)
    have h2:x≠n:=fun e=>by subst e;exact hn.not_mem_erase hx
    omega
   rw [List.length_erase_of_mem hm] at this
   omega
  ·have:=qG n l hn fun x hx=>by
    have h1:=h x hx
    have h2:x≠n:=fun e=>by subst e;exact hm hx
    omega
   omega
theorem aK {l:List Nat} {n:Nat} (hn:l.Nodup) (h1: ∀ x∈l,x<n) (h2: ∀ x,x<n→x∈l):l.Perm (List.range n):=by
 rw [List.perm_iff_count]
 intro a
 rw [hn.count,List.nodup_range.count]
 simp only [List.mem_range]
 by_cases ha:a<n
 ·rw [if_pos (h2 a ha),if_pos ha]
 ·rw [if_neg (fun h=>ha (h1 a h)),if_neg ha]
theorem zb5 (bt:Int) (ms:List Int): ∀ n,(zh6 bt ms n).length≤n
 |0=>Nat.le_refl _
 | n+1=>by
  have h:=zb5 bt ms n
  simp only [zh6,zm5]
  split
  ·omega
  ·split
   ·simp
   ·rename_i c hc
    have hne:zh6 bt ms n≠[]:=fun e=>by rw [e] at hc;cases hc
    have hp:=List.length_pos_iff.2 hne
    split<;>simp<;>omega
abbrev RX:=(LRw×Nat)×PV
abbrev rxc (x:LRw×Nat):PV:=pH x.1.args
def RowOK (lo:Nat) (H:Heap) (x:RX):Prop:=x.2= .ms x.1.2 0 3 x.1.1.cs.length∧lo≤x.1.2∧H[x.1.2]? =some (.var 138 (x.1.1.cs.map Ce.c).flatten)
abbrev rxf (xs:List RX):List PV:=sZ (fun x:RX=>rxc x.1) (·.2) xs
def OutAt (lo:Nat) (H:Heap) (xs:List RX) (V:PV):Prop:=(xs=[]∧V= .nil)∨ ∃ r,lo≤r∧0<xs.length∧V= .ms r 0 2 xs.length∧H[r]? =some (.var 136 (rxf xs))
abbrev rxL (x y:LRw):Prop:=ltOf sD y.args x.args=false
theorem swoA:SWO (ltOf fun a b:LRw×Nat=>sD a.1.args b.1.args):=by
 have h:=zqQ.swo
 exact ⟨fun x=>h.irrefl _,fun x y z=>h.trans _ _ _,fun x y z=>h.ntrans _ _ _⟩
theorem zi3 (x y:LRw) (hx:x.args.length≤1048576∧ ∀ a∈x.args,a.s.size≤16) (hy:y.args.length≤1048576∧ ∀ a∈y.args,a.s.size≤16):EPure Tryz.prog G0 93 [.agg [pH x.args,.un],.agg [pH y.args,.un]] fun p=>p=i64 (sD x.args y.args):=by
 refine ECall.cut (R:=fun p _=>p=i64 (sD x.args y.args)) (pv Tryz.func93 10 false (by kernel_rfl) rfl rfl ?_) (by rintro p h rfl;rfl)
 refine g2 ?_
 refine ge ?_
 (refine g1 ?_;refine zC ((zb6 x.args y.args (by omega) (by omega) (fun a h=>by have:=hx.2 a h;omega) (fun a h=>by have:=hy.2 a h;omega)).call zK (by simp) _) ?_;intro p2 h2 hr2;refine g2 ?_)
 obtain ⟨rfl,rfl⟩:=hr2
 refine ge ?_
 rfl
theorem ECall.acall {f:FuncId} {args:List PV} {h:Heap} {R:PV→Heap→Prop} (k:ECall Tryz.prog G0 f args h R):ACall Tryz.prog G0 f args h R:=by
 obtain ⟨p,h',a,b⟩:=k
 exact b.mono (by rintro _ _ ⟨rfl,rfl⟩;exact a)
theorem EPure.pure1 {f:FuncId} {args:List PV} {u:PV} (k:EPure Tryz.prog G0 f args fun p=>p=u):Go.AL.Pure Tryz.prog G0 f args u:=by
 obtain ⟨p,rfl,t,c⟩:=k
 exact c
end Go.AL
namespace Go.AL.N
open Go.Proofs Go.Sort
theorem zfF (lo:Nat) (H:Heap) (xs:List RX) (V:PV) (hO:OutAt lo H xs V) (hR: ∀ x∈xs,RowOK lo H x) (hA: ∀ x∈xs,x.1.1.args.length≤1048576∧ ∀ a∈x.1.1.args,a.s.size≤16) (hz:xs.length≤2199023255552):
  ACall Tryz.prog G0 92 [V,.fn (.func 93) [] []] H fun p h'=>p= .tup []∧h'.length=H.length∧(∀ q,q<lo→h'[q]? =H[q]?)∧ ∃ ys:List RX,ys.Perm xs∧ys.Pairwise (fun x y=>rxL x.1.1 y.1.1)∧OutAt lo h' ys V∧ ∀ x∈ys,RowOK lo h' x:=by
 have L:=Tryz.sortLRow
 rcases hO with ⟨rfl,rfl⟩|⟨r,hr,h0,rfl,hH⟩
 ·refine pv Tryz.func92 14 false (by kernel_rfl) rfl rfl ?_
  refine g2 ?_
  have hw0:IntKind.u64.wrap 0=0:=by decide
  have h5:(Tryz.prog.underlying 3).isSome=true:=by kernel_rfl
  refine gf (a2 @hw0 @h5) ?_
  (refine g1f (a2 @hw0 @h5) ?_;refine zC ((show ACall Tryz.prog G0 136 [.sc (.int .u64 0)] H _ from ACall.bitsLen L (by kernel_rfl) 0 (by omega) H)) ?_;intro p2 h2 hr2;refine g2 ?_)
  obtain ⟨rfl,rfl⟩:=hr2
  refine ge ?_
  (refine g1 ?_;refine zC (ACall.pdqNone L (by kernel_rfl) _ _ _) ?_;intro p2 h2 hr2;refine g2 ?_)
  obtain ⟨rfl,rfl⟩:=hr2
  refine ge ?_
  exact ⟨rfl,rfl,fun _ _=>rfl,[],.nil,.nil,.inl ⟨rfl,rfl⟩,by simp⟩
 ·refine pv Tryz.func92 14 false (by kernel_rfl) rfl rfl ?_
  refine g2 ?_
  have h5:(Tryz.prog.underlying 3).isSome=true:=by kernel_rfl
  have hwn:IntKind.u64.wrap (xs.length:Int)=xs.length:=by simp [IntKind.wrap,IntKind.bits,IntKind.signed];omega
  have hbl:Lib.bitLen xs.length<4611686018427387904:=Nat.lt_of_le_of_lt (Lib.bitLen_le xs.length 62 (by omega) (by omega)) (by omega)
  refine gf (a2 @hwn @h5) ?_
  (refine g1f (a2 @hwn @h5) ?_;refine zC (ACall.bitsLen L (by kernel_rfl) xs.length (by omega) H) ?_;intro p2 h2 hr2;refine g2 ?_)
  obtain ⟨rfl,rfl⟩:=hr2
  refine gf (a2 @hwn @h5) ?_
  (refine g1f (a2 @hwn @h5) ?_;refine zC (ACall.pdqSort L Tryz.isAgg136 Tryz.sizeOf136 (by kernel_rfl) _ hbl zK rxc (⟨[],[]⟩,0) (PLe.nil_ts 3) (fun x=>by simp) (fun a b:LRw×Nat=>sD a.1.args b.1.args) swoA 93 (fun x=>x.1.args.length≤1048576∧ ∀ a∈x.1.args,a.s.size≤16) ⟨by simp,by simp⟩ (fun x y hx hy=>(zi3 x.1 y.1 hx hy).pure1) xs hA hH (by omega)) ?_;intro p2 h2 hr2;refine g2 ?_)
  obtain ⟨rfl,ys,hp,hs,rfl⟩:=hr2
  refine ge ?_
  have hrl:=(gsi hH).1
  refine ⟨rfl,by simp,fun q hq=>List.getElem?_set_ne (by omega),ys,hp,hs,.inr ⟨r,hr,by rw [hp.length_eq];exact h0,by rw [hp.length_eq],List.getElem?_set_self hrl⟩,fun x hx=> ?_⟩
  obtain ⟨a1,a2,a3⟩:=hR x (hp.mem_iff.1 hx)
  refine ⟨a1,a2,?_⟩
  rw [List.getElem?_set_ne (fun e=>by rw [e] at hH;rw [hH] at a3;cases a3)]
  exact a3
end Go.AL.N
namespace Go.AL.N
open Go.Proofs Go.Sort
theorem zlE {P:Program} {G:Glob} {D:Option Nat→Prop} {c:Code} {K:Exit→List PV→Heap→Prop} {ts:List PV} {h:Heap} (k:EWp P G D c K ts h):EWp P G D c K ts h:=k
theorem ge {p q:Prop} (k:q) (h:q→p:=by
 intro gk
 (repeat ((fail_if_success (with_reducible refine zlE ?_));first|refine nx ?_|(intro zs zh;(try simp only [go_sem] at zh);subst zh)|(refine ns ?_;intro zs zh;(try simp only [go_sem] at zh);subst zh;first|refine nx ?_|refine zH (by clear gk;omega) ?_)))
 exact gk):p:=h k
theorem gf {F0 p q:Prop} (F:F0) (k:q) (h:F0→q→p:=by
 intro F gk
 (repeat ((fail_if_success (with_reducible refine zlE ?_));first|refine nx ?_|(intro zs zh;(try simp only [go_sem] at zh);subst zh)|(refine ns ?_;intro zs zh;(try simp only [go_sem,F] at zh);subst zh;first|refine nx ?_|refine zH (by clear gk;omega) ?_)))
 exact gk):p:=h F k
theorem zjZ:sE (α:=Prop) Tryz.prog 134 .nil .nil=some (true,True):=by kernel_rfl
theorem zhR (r o k n:Nat):sE (α:=Prop) Tryz.prog 134 (.ms r o k n) .nil=some (false,True):=by kernel_rfl
def rowOf (bt:Int) (M:En→List Int) (es:List En) (i:Nat):Option LRw:=(es[i]?).bind fun e=>if zh6 bt (M e) 64=[] then none else some ⟨e.a,zh6 bt (M e) 64⟩
structure RS where
 seen:List Nat
 J:Heap
 V:PV
 xs:List RX
abbrev RS.hp (h:Heap) (m1 n:Nat) (s:RS):Heap:=h++ .iter (some m1) n s.seen::s.J
structure RIv (h:Heap) (m1 n:Nat) (bt:Int) (M:En→List Int) (es:List En) (s:RS):Prop where
 nd:s.seen.Nodup
 lt: ∀ i∈s.seen,i<n
 out:OutAt (h.length+1) (s.hp h m1 n) s.xs s.V
 row: ∀ x∈s.xs,RowOK (h.length+1) (s.hp h m1 n) x
 sel:s.xs.map (·.1.1)=s.seen.filterMap (rowOf bt M es)
theorem zbY {h:Heap} {m1 n:Nat} {seen:List Nat} {J:Heap} {q:Nat} {t:TypeId} {cs:List PV} (i:Nat) (J2:Heap) (hq:(h++ .iter (some m1) n seen::J)[q]? =some (.var t cs)):(h++ .iter (some m1) n (seen++[i])::(J++J2))[q]? =some (.var t cs):=by
 rcases Nat.lt_or_ge q h.length with hl|hl
 ·rw [List.getElem?_append_left hl] at hq ⊢;exact hq
 ·rw [List.getElem?_append_right hl] at hq ⊢
  cases hk:q-h.length with
  |zero=>rw [hk] at hq;simp at hq
  |succ k=>
   rw [hk] at hq
   rw [List.getElem?_cons_succ] at hq ⊢
   rw [List.getElem?_append_left (gsi hq).1];exact hq
theorem zhL {h:Heap} {it:Blk} {J:Heap} {q r:Nat} {t u:TypeId} {cs ds:List PV} (b:Blk) (hr:(h++it::J)[r]? =some (.var u ds)) (hne:t≠u) (hq:(h++it::J)[q]? =some (.var t cs)) (B:Heap):((h++it::J).set r b++B)[q]? =some (.var t cs):=by
 have hrq:r≠q:=fun e=>by subst e;rw [hr] at hq;cases hq;exact hne rfl
 rw [List.getElem?_append_left (by rw [List.length_set];exact (gsi hq).1),List.getElem?_set_ne hrq];exact hq
abbrev rxL' (x y:LRw):Prop:=ltOf sD y.args x.args=false
theorem rel_n (l:La) (hl:l.ok) (tb m1 m2:Nat) (es:List En) (h:Heap) (hT:TB l tb m1 m2 es h) (hz:es.length≤2199023255552) (M:En→List Int) (hM: ∀ e∈es,(M e).length=64∧h[e.r]? =some (.var 231 ((M e).map i64))):
  ACall Tryz.prog G0 68 [.ptr tb 0] h fun p h'=>h'.take h.length=h∧ ∃ xs:List RX,OutAt (h.length+1) h' xs p∧(∀ x∈xs,RowOK (h.length+1) h' x)∧(xs.map (·.1.1)).Perm ((List.range es.length).filterMap (rowOf (oU l) M es))∧(xs.map (·.1.1)).Pairwise rxL:=by
 refine pv Tryz.func68 37 true (by kernel_rfl) rfl rfl ?_
 refine g2 ?_
 have htb:=hT.t
 have hma:=hT.a
 have hsel: ∀ i r,rowOf (oU l) M es i=some r→r.args.length≤1048576∧ ∀ a∈r.args,a.s.size≤16:=fun i r hr=>by
  unfold rowOf at hr
  cases he:es[i]? with
  |none=>rw [he] at hr;cases hr
  | some e=>
   rw [he] at hr
   simp only [Option.bind_some] at hr
   split at hr
   ·cases hr
   ·cases hr
    obtain ⟨a1,a2, -⟩:=hT.k e (List.mem_of_getElem? he)
    exact ⟨a1,a2⟩
 refine gf (a3 @htb @hma @tmL) ?_
 refine zW (.k:: .k:: .k:: .v:: .d:: .d:: .d::K4 (.k::D9 (D9 (D4 (.k:: .k:: .k::[]))))) (own:=true) (fun s:RS=>[s.V]) (fun s=>s.hp h m1 es.length) (RIv h m1 es.length (oU l) M es) (fun s=>es.length-s.seen.length) ⟨[],[],.nil,[]⟩ rfl (by simp [RS.hp]) ⟨List.nodup_nil,by simp,.inl ⟨rfl,rfl⟩,by simp,rfl⟩ ?_
 rintro ⟨seen,J,V,xs⟩ ⟨hnd,hlt,hout,hrow,hsl⟩ t ht
 dsimp only [RS.hp] at*
 simp only [zY] at ht;subst ht
 refine ge ?_
 have hit: ∀ s:List Nat,(h++Blk.iter (some m1) es.length s::J)[h.length]? =some (.iter (some m1) (ma es).length s):=fun s=>by rw [rU];simp
 have hm1: ∀ (b:Blk) (J:Heap),(h++b::J)[m1]? =some (.map (ma es)):=fun b J=>yJ h (b::J) _ _ hma
 refine uL rfl (R:=fun p h'=>(p= .tup [bo false]∧h'=h++Blk.iter (some m1) es.length seen::J∧ ∀ i,i<es.length→i∈seen)∨ ∃ i e,es[i]? =some e∧i∉seen∧p= .tup [bo true,yQ e.k,.ptr e.r 0]∧h'=h++Blk.iter (some m1) es.length (seen++[i])::J)
  (fun rd _=>OpOk.next (r:=h.length) (m:=m1) (es:=ma es) (seen:=seen) rfl rfl (hit seen) (hm1 _ _) (fun hall=> .inl ⟨rfl,rfl,by simpa using hall⟩) (fun i q hq hi=>by
   rw [List.getElem?_map] at hq
   cases he:es[i]? with
   |none=>rw [he] at hq;cases hq
   |some e=>
    rw [he] at hq;cases hq
    exact .inr ⟨i,e,he,hi,rfl,by rw [qK];simp⟩)) ?_
 rintro p h' (⟨rfl,rfl,hall⟩|⟨i,e,hei,hns,rfl,rfl⟩) ts2 hts
 ·simp only [zZ,List.set_cons_zero,List.set_cons_succ] at hts;subst hts
  refine ge ?_
  have hxs: ∀ x∈xs,x.1.1.args.length≤1048576∧ ∀ a∈x.1.1.args,a.s.size≤16:=fun x hx=>by
   have hm:x.1.1∈xs.map (·.1.1):=List.mem_map_of_mem (f:=fun x:RX=>x.1.1) hx
   rw [hsl,List.mem_filterMap] at hm
   obtain ⟨j, -,hj⟩:=hm
   exact hsel j _ hj
  have hlen:xs.length≤es.length:=by
   have e1:=congrArg List.length hsl
   rw [List.length_map] at e1
   have e2:=List.length_filterMap_le (rowOf (oU l) M es) seen
   have e3:=qG es.length seen hnd hlt
   omega
  (refine g1 ?_;refine zC (zfF (h.length+1) _ xs V hout hrow hxs (by omega)) ?_;intro p2 h2 hr2;refine g2 ?_)
  obtain ⟨rfl,hl2,hk2,ys,hp,hs,hO2,hR2⟩:=hr2
  refine ge ?_
  refine ⟨List.ext_getElem? fun q=> ?_,ys,hO2,hR2,?_,?_⟩
  ·rw [List.getElem?_take]
   split
   ·rename_i hq
    rw [hk2 q (by omega),List.getElem?_append_left hq]
   ·rename_i hq
    rw [List.getElem?_eq_none (by omega)]
  ·refine (hp.map _).trans ?_
   rw [hsl]
   exact (aK hnd hlt hall).filterMap _
  ·rw [List.pairwise_map];exact hs
 ·simp only [zZ,List.set_cons_zero,List.set_cons_succ] at hts;subst hts
  refine ge ?_
  refine uL rfl (R:=fun p h'=>p= .tup [yQ e.k,.ptr e.r 0]∧h'=h++Blk.iter (some m1) es.length (seen++[i])::J) (fun rd _=>OpOk.entry (r:=h.length) (m:=m1) (i:=i) (es:=ma es) (seen:=seen) (q:=(Value.string e.k,PV.ptr e.r 0)) rfl rfl (hit _) (hm1 _ _) (by rw [List.getElem?_map,hei];rfl) ⟨rfl,rfl⟩) ?_
  rintro p h' ⟨rfl,rfl⟩ ts2 hts
  simp only [zZ,List.set_cons_zero,List.set_cons_succ] at hts;subst hts
  refine ge ?_
  have hem:=List.mem_of_getElem? hei
  obtain ⟨hM1,hM2⟩:=hM e hem
  (refine g1 ?_;refine zC ((zgH l hl tb m1 m2 es _ (hT.keep (yJ _ _)) e.r (M e) hM1 (yJ _ _ _ _ hM2)).acall) ?_;intro p2 h2 hr2;refine g2 ?_)
  obtain ⟨J2,rfl,hrn,hn64⟩:=hr2
  have hil:i<es.length:=(gsi hei).1
  have hsl2:=qG es.length (seen++[i]) (List.nodup_append.2 ⟨hnd,by simp,fun a ha b hb=>by simp at hb;subst hb;exact fun q=>hns (q▸ha)⟩) (fun x hx=>by
   rcases List.mem_append.1 hx with hx|hx
   ·exact hlt x hx
   ·rw [List.mem_singleton] at hx;subst hx;exact hil)
  have hnd2:(seen++[i]).Nodup:=List.nodup_append.2 ⟨hnd,by simp,fun a ha b hb=>by simp at hb;subst hb;exact fun q=>hns (q▸ha)⟩
  have hlt2: ∀ x∈seen++[i],x<es.length:=fun x hx=>by
   rcases List.mem_append.1 hx with hx|hx
   ·exact hlt x hx
   ·rw [List.mem_singleton] at hx;subst hx;exact hil
  rw [List.length_append,List.length_singleton] at hsl2
  have hm:es.length-(seen++[i]).length<es.length-seen.length:=by simp;omega
  have hrow2: ∀ x∈xs,RowOK (h.length+1) (h++Blk.iter (some m1) es.length (seen++[i])::(J++J2)) x:=fun x hx=>by
   obtain ⟨a1,a2,a3⟩:=hrow x hx
   exact ⟨a1,a2,zbY i J2 a3⟩
  have hout2:OutAt (h.length+1) (h++Blk.iter (some m1) es.length (seen++[i])::(J++J2)) xs V:=by
   rcases hout with h0|⟨r,a1,a2,a3,a4⟩
   ·exact .inl h0
   ·exact .inr ⟨r,a1,a2,a3,zbY i J2 a4⟩
  rcases hrn with ⟨hc0,rfl⟩|⟨j,hc0,rfl,hj⟩
  ·have hro:rowOf (oU l) M es i=none:=by simp [rowOf,hei,hc0]
   refine gf @zjZ ?_
   exact ⟨⟨seen++[i],J++J2,V,xs⟩,⟨hnd2,hlt2,hout2,hrow2,by rw [List.filterMap_append];simp [hro,hsl]⟩,hm,rfl,rfl,by simp [RS.hp]⟩
  ·have hne:zh6 (oU l) (M e) 64≠[]:=fun q=>by rw [q] at hc0;simp at hc0
   have hro:rowOf (oU l) M es i=some ⟨e.a,zh6 (oU l) (M e) 64⟩:=by simp [rowOf,hei,hne]
   generalize zh6 (oU l) (M e) 64=cs at*
   obtain ⟨ha1,ha2, -⟩:=hT.k e hem
   have hlk: ∀ (b:Blk) (J:Heap),xQ (α:=Prop) Tryz.prog (h++b::J) 174 false (.mp m2) (yQ e.k)=some (pH e.a,True):=fun b J=>zfT (yJ h (b::J) _ _ hT.b) (zbO (fun e=>pH e.a) 0 hT.d hei)
   have htb2: ∀ (b:Blk) (J:Heap),(h++b::J)[tb]? =_:=fun b J=>yJ h (b::J) _ _ htb
   have hjl:j<J2.length:=(gsi hj).1
   refine gf (a3 @hlk @htb2 @zhR) ?_
   (refine g1f (a3 @hlk @htb2 @zhR) ?_;refine zC (((iK e.a (by omega) (all_map fun _=>rfl)).call zK (by simp) _).acall) ?_;intro p2 h2 hr2;refine g2 ?_)
   obtain ⟨rfl,rfl⟩:=hr2
   have hq: ∀ s:List Nat,(h++Blk.iter (some m1) es.length s::(J++J2))[h.length+(J.length+1)+j]? =some (.var 138 (cs.map Ce.c).flatten):=fun s=>by
    rw [show h.length+(J.length+1)+j=h.length+(J.length+j+1) by omega,sB,List.getElem?_cons_succ,sB];exact hj
   have hn2:xs.length≤es.length:=by
    have e1:=congrArg List.length hsl
    rw [List.length_map] at e1
    have e2:=List.length_filterMap_le (rowOf (oU l) M es) seen
    have e3:=qG es.length seen hnd hlt
    omega
   have hH2:(h++Blk.iter (some m1) es.length (seen++[i])::(J++J2)).length=h.length+(J.length+J2.length+1):=by simp
   rcases hout2 with ⟨rfl,rfl⟩|⟨r,b1,b2,rfl,b4⟩
   ·refine ge ?_
    obtain ⟨B,hB⟩: ∃ B,Blk.var 136 [pH e.a,PV.ms (h.length+(J.length+1)+j) 0 3 cs.length]=B:=⟨_,rfl⟩
    rw [hB]
    have hhp:h++Blk.iter (some m1) es.length (seen++[i])::(J++(J2++[B]))=(h++Blk.iter (some m1) es.length (seen++[i])::(J++J2))++[B]:=by simp
    refine ⟨⟨seen++[i],J++(J2++[B]),.ms (h.length+(J.length+J2.length+1)) 0 2 1,[((⟨e.a,cs⟩,h.length+(J.length+1)+j),.ms (h.length+(J.length+1)+j) 0 3 cs.length)]⟩,⟨hnd2,hlt2,.inr ⟨h.length+(J.length+J2.length+1),by omega,by simp,rfl,?_⟩,fun y hy=> ?_,?_⟩,hm,rfl,rfl,rfl⟩
    ·dsimp only [RS.hp]
     rw [hhp, ←hH2,zA, ←hB];rfl
    ·rw [List.mem_singleton] at hy;subst hy
     refine ⟨rfl,by dsimp only;omega,?_⟩
     dsimp only [RS.hp]
     rw [hhp];exact yJ _ _ _ _ (hq _)
    ·rw [List.filterMap_append, ←hsl];simp [hro]
   ·have hfl:=sQ (fun x:RX=>rxc x.1) (·.2) xs
    have a1:((xs.length+1)*48≤140737488355328)=True:=eq_true (by omega)
    have a2:(xs.length≤140737488355327)=True:=eq_true (by omega)
    refine gf (a4 @b4 @hfl @a1 @a2) ?_
    obtain ⟨k,rfl⟩: ∃ k,r=h.length+(k+1):=⟨r-h.length-1,by omega⟩
    obtain ⟨B,hB⟩: ∃ B,Blk.var 136 (rxf xs++[pH e.a,PV.ms (h.length+(J.length+1)+j) 0 3 cs.length])=B:=⟨_,rfl⟩
    rw [hB]
    have hhp:h++Blk.iter (some m1) es.length (seen++[i])::((J++J2).set k .old++[B])=(h++Blk.iter (some m1) es.length (seen++[i])::(J++J2)).set (h.length+(k+1)) .old++[B]:=by
     rw [rN,List.set_cons_succ,List.append_assoc,List.cons_append]
    refine ⟨⟨seen++[i],(J++J2).set k .old++[B],.ms (h.length+(J.length+J2.length+1)) 0 2 (xs.length+1),xs++[((⟨e.a,cs⟩,h.length+(J.length+1)+j),.ms (h.length+(J.length+1)+j) 0 3 cs.length)]⟩,⟨hnd2,hlt2,.inr ⟨h.length+(J.length+J2.length+1),by omega,by simp,by simp,?_⟩,fun y hy=> ?_,?_⟩,hm,rfl,rfl,hhp.symm⟩
    ·dsimp only [RS.hp]
     rw [hhp, ←hH2,show (h++Blk.iter (some m1) es.length (seen++[i])::(J++J2)).length=((h++Blk.iter (some m1) es.length (seen++[i])::(J++J2)).set (h.length+(k+1)) .old).length by rw [List.length_set],zA, ←hB]
     simp [rxf,sZ]
    ·dsimp only [RS.hp]
     rw [hhp]
     rcases List.mem_append.1 hy with hy|hy
     ·obtain ⟨c1,c2,c3⟩:=hrow2 y hy
      exact ⟨c1,c2,zhL _ b4 (by decide) c3 _⟩
     ·rw [List.mem_singleton] at hy;subst hy
      exact ⟨rfl,by dsimp only;omega,zhL _ b4 (by decide) (hq _) _⟩
    ·rw [List.map_append,hsl,List.filterMap_append];simp [hro]
end Go.AL.N
namespace Go.AL
open Go.Proofs Go.Sort
theorem ACall.cut2 {P:Program} {G:Glob} {f:FuncId} {args:List PV} {h:Heap} {R:PV→Heap→Prop} (n F F':Nat) (hn:h.length≤n) (k:ACall P G f args h fun p h'=>R (fz n h' F' p) (zk3 n h' F)):ACall P G f args h R:=by
 refine ⟨k.1,fun φ w X vs a b c d=>(k.2 φ w X vs a b c d).mono ?_⟩
 rintro e w' ⟨φ',h',p,v,he,x,hs,hv,hr⟩
 have x':=zb4 hs x n F hn
 exact ⟨φ'.take n,zk3 n h' F,fz n h' F' p,v,he,x',zhT hs n F,bY hs n F F' hv,hr⟩
theorem fzM0 {n:Nat} {h:Heap} (f r off k len:Nat) {T:TypeId} {cs:List PV} (hr: ¬r<n) (hh:h[r]? =some (.var T cs)):fz n h (f+1) (.ms r off k len)= .ts k (wA (cs.map (fz n h f)) off k len):=by
 simp only [fz,if_neg hr,hh]
theorem fzS0 {n:Nat} {h:Heap} (f:Nat) (v:Value):fz n h (f+1) (.sc v)= .sc v:=by simp only [fz]
theorem fzN0 {n:Nat} {h:Heap} (f:Nat):fz n h (f+1) .nil= .nil:=by simp only [fz]
theorem fzB0 (n:Nat) (h h':Heap) (b:Blk):zm2 n h 0 b=zm2 n h' 0 b:=by
 cases b<;>simp only [zm2]<;>first|rfl|(congr 1)
theorem zl8 {n:Nat} {H:Heap} {x:RX} {lo:Nat} (hn:n≤lo) (hR:RowOK lo H x):fz n H 39 (rxc x.1)=pH x.1.1.args∧fz n H 39 x.2=ces x.1.1.cs:=by
 obtain ⟨a1,a2,a3⟩:=hR
 have q1:zU 39 (pH x.1.1.args)=true:=all_map fun _=>rfl
 have e1:(x.1.1.cs.map Ce.c).flatten.map (fz n H 38)=(x.1.1.cs.map Ce.c).flatten:=uR fun p hp=>by
  obtain ⟨e,he,hp⟩:=List.mem_flatten.1 hp
  obtain ⟨c,_,rfl⟩:=List.mem_map.1 he
  simp only [Ce.c,List.mem_cons,List.not_mem_nil,or_false] at hp
  rcases hp with rfl|rfl|rfl<;>exact fzS0 37 _
 have e2:=rL 3 (x.1.1.cs.map Ce.c) (fun e he=>by obtain ⟨b,_,rfl⟩:=List.mem_map.1 he;rfl)
 rw [List.length_map] at e2
 refine ⟨vE n H 39 _ q1,?_⟩
 rw [a1,fzM0 38 _ _ _ _ (by omega) a3,e1,e2]
theorem zl9 {n lo:Nat} {H:Heap} {xs:List RX} {V:PV} (hn:n≤lo) (hO:OutAt lo H xs V) (hR: ∀ x∈xs,RowOK lo H x):PLe (fz n H 40 V) (vD (xs.map (·.1.1))):=by
 rcases hO with ⟨rfl,rfl⟩|⟨r,h1,h2,rfl,h3⟩
 ·rw [fzN0 39];exact PLe.nil_ts 2
 ·have e3:(rxf xs).map (fz n H 39)=(xs.map fun x=>LRw.c x.1.1).flatten:=by
   clear h1 h2 h3
   induction xs with
   |nil=>rfl
   |cons x xs ih=>
    obtain ⟨k1,k2⟩:=zl8 hn (hR x (List.mem_cons_self ..))
    have:=ih fun y hy=>hR y (List.mem_cons_of_mem _ hy)
    simp only [rxf,sZ] at this
    simp only [rxf,sZ,List.map_cons,List.flatten_cons,List.map_append,List.map_nil,this,k1,k2]
  have e4:=rL 2 (xs.map fun x=>LRw.c x.1.1) (fun e he=>by obtain ⟨b,_,rfl⟩:=List.mem_map.1 he;rfl)
  rw [List.length_map] at e4
  rw [fzM0 39 _ _ _ _ (by omega) h3,e3,e4]
  unfold vD
  rw [List.map_map];exact PLe.refl _
end Go.AL
namespace Go.AL
open Go.Proofs Go.Proofs.Tryz
@[go_sem] def UCel6f42.pl:Nat→DPlan
 |11=>⟨[yA,yB,yA,yA,yA,yB,yA,yA,yB,yC,yA,yA],xF,0⟩
 |_=>⟨[],[],0⟩
theorem LRw.ok2.ok {x:LRw} (h:x.ok2):x.ok:=⟨h.1,by have:=h.2.1;omega,h.2.2⟩
end Go.AL
namespace Go.AL
open Go.Proofs Go.Proofs.Tryz
@[go_sem] def UCel7f104.pl:Nat→DPlan
 |8=>⟨[yB,yA,yB,yA,yA,yC],znU,0⟩
 |_=>⟨[],[],0⟩
end Go.AL
namespace Go.AL
open Go.Proofs Go.Proofs.Tryz
@[go_sem] def UBas1f72.pl:Nat→DPlan
 |1=>⟨[yA,yB,yB,yA,yA,yB,yB,yA,yC,yA,yA,yB,yA,yB,yC,yA,yA,yA,yA],sI,0⟩
 |_=>⟨[],[],0⟩
end Go.AL
