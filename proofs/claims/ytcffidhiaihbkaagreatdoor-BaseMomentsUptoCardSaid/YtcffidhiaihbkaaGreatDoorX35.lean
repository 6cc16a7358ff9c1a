/-
  Relations: the stable sort leaves a sorted list as it is.
-/
import Derived.Test.YtcffidhiaihbkaaGreatDoorX34
set_option linter.unusedSimpArgs false
set_option linter.unusedVariables false
set_option maxRecDepth 100000
set_option maxHeartbeats 4000000
namespace Go.AL
open Go.Proofs Go.Sort
def LRw.ok2 (x:LRw):Prop:=x.args.length≤1048576∧x.cs.length≤64∧ ∀ a∈x.args,a.s.size≤1048576
theorem zbO (f:En→PV): ∀ {es:List En} {i:Nat} (j:Nat) {e:En},(es.map (·.k)).Nodup→es[i]? =some e→vV (.string e.k) (es.map fun e=>(Value.string e.k,f e)) j=some (j+i,f e)
 | [],i,j,e,_,h=>by simp at h
 |x::es,0,j,e,_,h=>by
  simp at h;subst h
  simp [vV,sY]
 |x::es,i+1,j,e,hn,h=>by
  rw [List.map_cons,List.nodup_cons] at hn
  have h':es[i]? =some e:=by simpa using h
  have hne: ¬e.k=x.k:=fun q=>hn.1 (by rw [←q];exact List.mem_map_of_mem (f:=fun e:En=>e.k) (List.mem_of_getElem? h'))
  have:=zbO f (j+1) hn.2 h'
  simp only [List.map_cons,vV]
  rw [if_neg (by simp [sY,hne]),this]
  congr 2;omega
theorem qG: ∀ (n:Nat) (l:List Nat),l.Nodup→(∀ x∈l,x<n)→l.length≤n
 |0,[],_,_=>Nat.le_refl _
 |0,x::l,_,h=>absurd (h x (List.mem_cons_self ..)) (Nat.not_lt_zero _)
 | n+1,l,hn,h=>by
  by_cases hm:n∈l
  ·have:=qG n (l.erase n) (hn.erase n) fun x hx=>by
    have h1:=h x (List.mem_of_mem_erase hx)
    have h2:x≠n:=fun e=>by subst e;exact hn.not_mem_erase hx
    omega
   rw [List.length_erase_of_mem hm] at this
   omega
  ·have:=qG n l hn fun x hx=>by
    have h1:=h x hx
    have h2:x≠n:=fun e=>by subst e;exact hm hx
    omega
   omega
theorem aK {l:List Nat} {n:Nat} (hn:l.Nodup) (h1: ∀ x∈l,x<n) (h2: ∀ x,x<n→x∈l):l.Perm (List.range n):=by
 rw [List.perm_iff_count]
 intro a
 rw [hn.count,List.nodup_range.count]
 simp only [List.mem_range]
 by_cases ha:a<n
 ·rw [if_pos (h2 a ha),if_pos ha]
 ·rw [if_neg (fun h=>ha (h1 a h)),if_neg ha]
theorem zb5 (bt:Int) (ms:List Int): ∀ n,(zh6 bt ms n).length≤n
 |0=>Nat.le_refl _
 | n+1=>by
  have h:=zb5 bt ms n
  simp only [zh6,zm5]
  split
  ·omega
  ·split
   ·simp
   ·rename_i c hc
    have hne:zh6 bt ms n≠[]:=fun e=>by rw [e] at hc;cases hc
    have hp:=List.length_pos_iff.2 hne
    split<;>simp<;>omega
abbrev RX:=(LRw×Nat)×PV
abbrev rxc (x:LRw×Nat):PV:=pH x.1.args
def RowOK (lo:Nat) (H:Heap) (x:RX):Prop:=x.2= .ms x.1.2 0 3 x.1.1.cs.length∧lo≤x.1.2∧H[x.1.2]? =some (.var 161 (x.1.1.cs.map Ce.c).flatten)
abbrev rxf (xs:List RX):List PV:=sZ (fun x:RX=>rxc x.1) (·.2) xs
def OutAt (lo:Nat) (H:Heap) (xs:List RX) (V:PV):Prop:=(xs=[]∧V= .nil)∨ ∃ r,lo≤r∧0<xs.length∧V= .ms r 0 2 xs.length∧H[r]? =some (.var 130 (rxf xs))
abbrev rxL (x y:LRw):Prop:=ltOf sD y.args x.args=false
theorem swoA:SWO (ltOf fun a b:LRw×Nat=>sD a.1.args b.1.args):=by
 have h:=zqQ.swo
 exact ⟨fun x=>h.irrefl _,fun x y z=>h.trans _ _ _,fun x y z=>h.ntrans _ _ _⟩
theorem zi3 (x y:LRw) (hx:x.args.length≤1048576∧ ∀ a∈x.args,a.s.size≤1048576) (hy:y.args.length≤1048576∧ ∀ a∈y.args,a.s.size≤1048576):EPure Tryz.prog G0 94 [.agg [pH x.args,.un],.agg [pH y.args,.un]] fun p=>p=i64 (sD x.args y.args):=by
 refine ECall.cut (R:=fun p _=>p=i64 (sD x.args y.args)) (pv Tryz.func94 10 false (by kernel_rfl) rfl rfl ?_) (by rintro p h rfl;rfl)
 refine g2 ?_
 refine ge ?_
 (refine g1 ?_;refine zC ((zb6 x.args y.args (by omega) (by omega) (fun a h=>by have:=hx.2 a h;omega) (fun a h=>by have:=hy.2 a h;omega)).call zK (by simp) _) ?_;intro p2 h2 hr2;refine g2 ?_)
 obtain ⟨rfl,rfl⟩:=hr2
 refine ge ?_
 rfl
theorem ECall.acall {f:FuncId} {args:List PV} {h:Heap} {R:PV→Heap→Prop} (k:ECall Tryz.prog G0 f args h R):ACall Tryz.prog G0 f args h R:=by
 obtain ⟨p,h',a,b⟩:=k
 exact b.mono (by rintro _ _ ⟨rfl,rfl⟩;exact a)
theorem EPure.pure1 {f:FuncId} {args:List PV} {u:PV} (k:EPure Tryz.prog G0 f args fun p=>p=u):Go.AL.Pure Tryz.prog G0 f args u:=by
 obtain ⟨p,rfl,t,c⟩:=k
 exact c
end Go.AL
namespace Go.AL.N
open Go.Proofs Go.Sort
theorem zfF (lo:Nat) (H:Heap) (xs:List RX) (V:PV) (hO:OutAt lo H xs V) (hR: ∀ x∈xs,RowOK lo H x) (hA: ∀ x∈xs,x.1.1.args.length≤1048576∧ ∀ a∈x.1.1.args,a.s.size≤1048576) (hz:xs.length≤2199023255552):
  ACall Tryz.prog G0 93 [V,.fn (.func 94) [] []] H fun p h'=>p= .tup []∧h'.length=H.length∧(∀ q,q<lo→h'[q]? =H[q]?)∧ ∃ ys:List RX,ys.Perm xs∧ys.Pairwise (fun x y=>rxL x.1.1 y.1.1)∧OutAt lo h' ys V∧ ∀ x∈ys,RowOK lo h' x:=by
 have L:=Tryz.sortLRow
 rcases hO with ⟨rfl,rfl⟩|⟨r,hr,h0,rfl,hH⟩
 ·refine pv Tryz.func93 14 false (by kernel_rfl) rfl rfl ?_
  refine g2 ?_
  have hw0:IntKind.u64.wrap 0=0:=by decide
  have h5:(Tryz.prog.underlying 3).isSome=true:=by kernel_rfl
  refine gf (a2 @hw0 @h5) ?_
  (refine g1f (a2 @hw0 @h5) ?_;refine zC ((show ACall Tryz.prog G0 137 [.sc (.int .u64 0)] H _ from ACall.bitsLen L (by kernel_rfl) 0 (by omega) H)) ?_;intro p2 h2 hr2;refine g2 ?_)
  obtain ⟨rfl,rfl⟩:=hr2
  refine ge ?_
  (refine g1 ?_;refine zC (ACall.pdqNone L (by kernel_rfl) _ _ _) ?_;intro p2 h2 hr2;refine g2 ?_)
  obtain ⟨rfl,rfl⟩:=hr2
  refine ge ?_
  exact ⟨rfl,rfl,fun _ _=>rfl,[],.nil,.nil,.inl ⟨rfl,rfl⟩,by simp⟩
 ·refine pv Tryz.func93 14 false (by kernel_rfl) rfl rfl ?_
  refine g2 ?_
  have h5:(Tryz.prog.underlying 3).isSome=true:=by kernel_rfl
  have hwn:IntKind.u64.wrap (xs.length:Int)=xs.length:=by simp [IntKind.wrap,IntKind.bits,IntKind.signed];omega
  have hbl:Lib.bitLen xs.length<4611686018427387904:=Nat.lt_of_le_of_lt (Lib.bitLen_le xs.length 62 (by omega) (by omega)) (by omega)
  refine gf (a2 @hwn @h5) ?_
  (refine g1f (a2 @hwn @h5) ?_;refine zC (ACall.bitsLen L (by kernel_rfl) xs.length (by omega) H) ?_;intro p2 h2 hr2;refine g2 ?_)
  obtain ⟨rfl,rfl⟩:=hr2
  refine gf (a2 @hwn @h5) ?_
  (refine g1f (a2 @hwn @h5) ?_;refine zC (ACall.pdqSort L Tryz.isAgg130 Tryz.sizeOf130 (by kernel_rfl) _ hbl zK rxc (⟨[],[]⟩,0) (PLe.nil_ts 3) (fun x=>by simp) (fun a b:LRw×Nat=>sD a.1.args b.1.args) swoA 94 (fun x=>x.1.args.length≤1048576∧ ∀ a∈x.1.args,a.s.size≤1048576) ⟨by simp,by simp⟩ (fun x y hx hy=>(zi3 x.1 y.1 hx hy).pure1) xs hA hH (by omega)) ?_;intro p2 h2 hr2;refine g2 ?_)
  obtain ⟨rfl,ys,hp,hs,rfl⟩:=hr2
  refine ge ?_
  have hrl:=(gsi hH).1
  refine ⟨rfl,by simp,fun q hq=>List.getElem?_set_ne (by omega),ys,hp,hs,.inr ⟨r,hr,by rw [hp.length_eq];exact h0,by rw [hp.length_eq],List.getElem?_set_self hrl⟩,fun x hx=> ?_⟩
  obtain ⟨a1,a2,a3⟩:=hR x (hp.mem_iff.1 hx)
  refine ⟨a1,a2,?_⟩
  rw [List.getElem?_set_ne (fun e=>by rw [e] at hH;rw [hH] at a3;cases a3)]
  exact a3
end Go.AL.N
namespace Go.AL.N
open Go.Proofs Go.Sort
theorem zlE {P:Program} {G:Glob} {D:Option Nat→Prop} {c:Code} {K:Exit→List PV→Heap→Prop} {ts:List PV} {h:Heap} (k:EWp P G D c K ts h):EWp P G D c K ts h:=k
theorem ge {p q:Prop} (k:q) (h:q→p:=by
 intro gk
 (repeat ((fail_if_success (with_reducible refine zlE ?_));first|refine nx ?_|(intro zs zh;(try simp only [go_sem] at zh);subst zh)|(refine ns ?_;intro zs zh;(try simp only [go_sem] at zh);subst zh;first|refine nx ?_|refine zH (by clear gk;omega) ?_)))
 exact gk):p:=h k
theorem gf {F0 p q:Prop} (F:F0) (k:q) (h:F0→q→p:=by
 intro F gk
 (repeat ((fail_if_success (with_reducible refine zlE ?_));first|refine nx ?_|(intro zs zh;(try simp only [go_sem] at zh);subst zh)|(refine ns ?_;intro zs zh;(try simp only [go_sem,F] at zh);subst zh;first|refine nx ?_|refine zH (by clear gk;omega) ?_)))
 exact gk):p:=h F k
theorem zjZ:sE (α:=Prop) Tryz.prog 128 .nil .nil=some (true,True):=by kernel_rfl
theorem zhR (r o k n:Nat):sE (α:=Prop) Tryz.prog 128 (.ms r o k n) .nil=some (false,True):=by kernel_rfl
def rowOf (bt:Int) (M:En→List Int) (es:List En) (i:Nat):Option LRw:=(es[i]?).bind fun e=>if zh6 bt (M e) 64=[] then none else some ⟨e.a,zh6 bt (M e) 64⟩
structure RS where
 seen:List Nat
 J:Heap
 V:PV
 xs:List RX
abbrev RS.hp (h:Heap) (m1 n:Nat) (s:RS):Heap:=h++ .iter (some m1) n s.seen::s.J
structure RIv (h:Heap) (m1 n:Nat) (bt:Int) (M:En→List Int) (es:List En) (s:RS):Prop where
 nd:s.seen.Nodup
 lt: ∀ i∈s.seen,i<n
 out:OutAt (h.length+1) (s.hp h m1 n) s.xs s.V
 row: ∀ x∈s.xs,RowOK (h.length+1) (s.hp h m1 n) x
 sel:s.xs.map (·.1.1)=s.seen.filterMap (rowOf bt M es)
theorem zbY {h:Heap} {m1 n:Nat} {seen:List Nat} {J:Heap} {q:Nat} {t:TypeId} {cs:List PV} (i:Nat) (J2:Heap) (hq:(h++ .iter (some m1) n seen::J)[q]? =some (.var t cs)):(h++ .iter (some m1) n (seen++[i])::(J++J2))[q]? =some (.var t cs):=by
 rcases Nat.lt_or_ge q h.length with hl|hl
 ·rw [List.getElem?_append_left hl] at hq ⊢;exact hq
 ·rw [List.getElem?_append_right hl] at hq ⊢
  cases hk:q-h.length with
  |zero=>rw [hk] at hq;simp at hq
  |succ k=>
   rw [hk] at hq
   rw [List.getElem?_cons_succ] at hq ⊢
   rw [List.getElem?_append_left (gsi hq).1];exact hq
theorem zhL {h:Heap} {it:Blk} {J:Heap} {q r:Nat} {t u:TypeId} {cs ds:List PV} (b:Blk) (hr:(h++it::J)[r]? =some (.var u ds)) (hne:t≠u) (hq:(h++it::J)[q]? =some (.var t cs)) (B:Heap):((h++it::J).set r b++B)[q]? =some (.var t cs):=by
 have hrq:r≠q:=fun e=>by subst e;rw [hr] at hq;cases hq;exact hne rfl
 rw [List.getElem?_append_left (by rw [List.length_set];exact (gsi hq).1),List.getElem?_set_ne hrq];exact hq
abbrev rxL' (x y:LRw):Prop:=ltOf sD y.args x.args=false
theorem rel_n (l:La) (hl:l.ok) (tb m1 m2:Nat) (es:List En) (h:Heap) (hT:TB l tb m1 m2 es h) (hz:es.length≤2199023255552) (M:En→List Int) (hM: ∀ e∈es,(M e).length=64∧h[e.r]? =some (.var 188 ((M e).map i64))):
  ACall Tryz.prog G0 65 [.ptr tb 0] h fun p h'=>h'.take h.length=h∧ ∃ xs:List RX,OutAt (h.length+1) h' xs p∧(∀ x∈xs,RowOK (h.length+1) h' x)∧(xs.map (·.1.1)).Perm ((List.range es.length).filterMap (rowOf (oU l) M es))∧(xs.map (·.1.1)).Pairwise rxL:=by
 refine pv Tryz.func65 37 true (by kernel_rfl) rfl rfl ?_
 refine g2 ?_
 have htb:=hT.t
 have hma:=hT.a
 have hsel: ∀ i r,rowOf (oU l) M es i=some r→r.args.length≤1048576∧ ∀ a∈r.args,a.s.size≤1048576:=fun i r hr=>by
  unfold rowOf at hr
  cases he:es[i]? with
  |none=>rw [he] at hr;cases hr
  | some e=>
   rw [he] at hr
   simp only [Option.bind_some] at hr
   split at hr
   ·cases hr
   ·cases hr
    obtain ⟨a1,a2, -⟩:=hT.k e (List.mem_of_getElem? he)
    exact ⟨a1,a2⟩
 refine gf (a3 @htb @hma @tmL) ?_
 refine zW (.k:: .k:: .k:: .v:: .d:: .d:: .d::K4 (.k::D9 (D9 (D4 (.k:: .k:: .k::[]))))) (own:=true) (fun s:RS=>[s.V]) (fun s=>s.hp h m1 es.length) (RIv h m1 es.length (oU l) M es) (fun s=>es.length-s.seen.length) ⟨[],[],.nil,[]⟩ rfl (by simp [RS.hp]) ⟨List.nodup_nil,by simp,.inl ⟨rfl,rfl⟩,by simp,rfl⟩ ?_
 rintro ⟨seen,J,V,xs⟩ ⟨hnd,hlt,hout,hrow,hsl⟩ t ht
 dsimp only [RS.hp] at*
 simp only [zY] at ht;subst ht
 refine ge ?_
 have hit: ∀ s:List Nat,(h++Blk.iter (some m1) es.length s::J)[h.length]? =some (.iter (some m1) (ma es).length s):=fun s=>by rw [rU];simp
 have hm1: ∀ (b:Blk) (J:Heap),(h++b::J)[m1]? =some (.map (ma es)):=fun b J=>yJ h (b::J) _ _ hma
 refine uL rfl (R:=fun p h'=>(p= .tup [bo false]∧h'=h++Blk.iter (some m1) es.length seen::J∧ ∀ i,i<es.length→i∈seen)∨ ∃ i e,es[i]? =some e∧i∉seen∧p= .tup [bo true,yQ e.k,.ptr e.r 0]∧h'=h++Blk.iter (some m1) es.length (seen++[i])::J)
  (fun rd _=>OpOk.next (r:=h.length) (m:=m1) (es:=ma es) (seen:=seen) rfl rfl (hit seen) (hm1 _ _) (fun hall=> .inl ⟨rfl,rfl,by simpa using hall⟩) (fun i q hq hi=>by
   rw [List.getElem?_map] at hq
   cases he:es[i]? with
   |none=>rw [he] at hq;cases hq
   |some e=>
    rw [he] at hq;cases hq
    exact .inr ⟨i,e,he,hi,rfl,by rw [qK];simp⟩)) ?_
 rintro p h' (⟨rfl,rfl,hall⟩|⟨i,e,hei,hns,rfl,rfl⟩) ts2 hts
 ·simp only [zZ,List.set_cons_zero,List.set_cons_succ] at hts;subst hts
  refine ge ?_
  have hxs: ∀ x∈xs,x.1.1.args.length≤1048576∧ ∀ a∈x.1.1.args,a.s.size≤1048576:=fun x hx=>by
   have hm:x.1.1∈xs.map (·.1.1):=List.mem_map_of_mem (f:=fun x:RX=>x.1.1) hx
   rw [hsl,List.mem_filterMap] at hm
   obtain ⟨j, -,hj⟩:=hm
   exact hsel j _ hj
  have hlen:xs.length≤es.length:=by
   have e1:=congrArg List.length hsl
   rw [List.length_map] at e1
   have e2:=List.length_filterMap_le (rowOf (oU l) M es) seen
   have e3:=qG es.length seen hnd hlt
   omega
  (refine g1 ?_;refine zC (zfF (h.length+1) _ xs V hout hrow hxs (by omega)) ?_;intro p2 h2 hr2;refine g2 ?_)
  obtain ⟨rfl,hl2,hk2,ys,hp,hs,hO2,hR2⟩:=hr2
  refine ge ?_
  refine ⟨List.ext_getElem? fun q=> ?_,ys,hO2,hR2,?_,?_⟩
  ·rw [List.getElem?_take]
   split
   ·rename_i hq
    rw [hk2 q (by omega),List.getElem?_append_left hq]
   ·rename_i hq
    rw [List.getElem?_eq_none (by omega)]
  ·refine (hp.map _).trans ?_
   rw [hsl]
   exact (aK hnd hlt hall).filterMap _
  ·rw [List.pairwise_map];exact hs
 ·simp only [zZ,List.set_cons_zero,List.set_cons_succ] at hts;subst hts
  refine ge ?_
  refine uL rfl (R:=fun p h'=>p= .tup [yQ e.k,.ptr e.r 0]∧h'=h++Blk.iter (some m1) es.length (seen++[i])::J) (fun rd _=>OpOk.entry (r:=h.length) (m:=m1) (i:=i) (es:=ma es) (seen:=seen) (q:=(Value.string e.k,PV.ptr e.r 0)) rfl rfl (hit _) (hm1 _ _) (by rw [List.getElem?_map,hei];rfl) ⟨rfl,rfl⟩) ?_
  rintro p h' ⟨rfl,rfl⟩ ts2 hts
  simp only [zZ,List.set_cons_zero,List.set_cons_succ] at hts;subst hts
  refine ge ?_
  have hem:=List.mem_of_getElem? hei
  obtain ⟨hM1,hM2⟩:=hM e hem
  (refine g1 ?_;refine zC ((zgH l hl tb m1 m2 es _ (hT.keep (yJ _ _)) e.r (M e) hM1 (yJ _ _ _ _ hM2)).acall) ?_;intro p2 h2 hr2;refine g2 ?_)
  obtain ⟨J2,rfl,hrn,hn64⟩:=hr2
  have hil:i<es.length:=(gsi hei).1
  have hsl2:=qG es.length (seen++[i]) (List.nodup_append.2 ⟨hnd,by simp,fun a ha b hb=>by simp at hb;subst hb;exact fun q=>hns (q▸ha)⟩) (fun x hx=>by
   rcases List.mem_append.1 hx with hx|hx
   ·exact hlt x hx
   ·rw [List.mem_singleton] at hx;subst hx;exact hil)
  have hnd2:(seen++[i]).Nodup:=List.nodup_append.2 ⟨hnd,by simp,fun a ha b hb=>by simp at hb;subst hb;exact fun q=>hns (q▸ha)⟩
  have hlt2: ∀ x∈seen++[i],x<es.length:=fun x hx=>by
   rcases List.mem_append.1 hx with hx|hx
   ·exact hlt x hx
   ·rw [List.mem_singleton] at hx;subst hx;exact hil
  rw [List.length_append,List.length_singleton] at hsl2
  have hm:es.length-(seen++[i]).length<es.length-seen.length:=by simp;omega
  have hrow2: ∀ x∈xs,RowOK (h.length+1) (h++Blk.iter (some m1) es.length (seen++[i])::(J++J2)) x:=fun x hx=>by
   obtain ⟨a1,a2,a3⟩:=hrow x hx
   exact ⟨a1,a2,zbY i J2 a3⟩
  have hout2:OutAt (h.length+1) (h++Blk.iter (some m1) es.length (seen++[i])::(J++J2)) xs V:=by
   rcases hout with h0|⟨r,a1,a2,a3,a4⟩
   ·exact .inl h0
   ·exact .inr ⟨r,a1,a2,a3,zbY i J2 a4⟩
  rcases hrn with ⟨hc0,rfl⟩|⟨j,hc0,rfl,hj⟩
  ·have hro:rowOf (oU l) M es i=none:=by simp [rowOf,hei,hc0]
   refine gf @zjZ ?_
   exact ⟨⟨seen++[i],J++J2,V,xs⟩,⟨hnd2,hlt2,hout2,hrow2,by rw [List.filterMap_append];simp [hro,hsl]⟩,hm,rfl,rfl,by simp [RS.hp]⟩
  ·have hne:zh6 (oU l) (M e) 64≠[]:=fun q=>by rw [q] at hc0;simp at hc0
   have hro:rowOf (oU l) M es i=some ⟨e.a,zh6 (oU l) (M e) 64⟩:=by simp [rowOf,hei,hne]
   generalize zh6 (oU l) (M e) 64=cs at*
   obtain ⟨ha1,ha2, -⟩:=hT.k e hem
   have hlk: ∀ (b:Blk) (J:Heap),xQ (α:=Prop) Tryz.prog (h++b::J) 174 false (.mp m2) (yQ e.k)=some (pH e.a,True):=fun b J=>zfT (yJ h (b::J) _ _ hT.b) (zbO (fun e=>pH e.a) 0 hT.d hei)
   have htb2: ∀ (b:Blk) (J:Heap),(h++b::J)[tb]? =_:=fun b J=>yJ h (b::J) _ _ htb
   have hjl:j<J2.length:=(gsi hj).1
   refine gf (a3 @hlk @htb2 @zhR) ?_
   (refine g1f (a3 @hlk @htb2 @zhR) ?_;refine zC (((iK e.a (by omega) (all_map fun _=>rfl)).call zK (by simp) _).acall) ?_;intro p2 h2 hr2;refine g2 ?_)
   obtain ⟨rfl,rfl⟩:=hr2
   have hq: ∀ s:List Nat,(h++Blk.iter (some m1) es.length s::(J++J2))[h.length+(J.length+1)+j]? =some (.var 161 (cs.map Ce.c).flatten):=fun s=>by
    rw [show h.length+(J.length+1)+j=h.length+(J.length+j+1) by omega,sB,List.getElem?_cons_succ,sB];exact hj
   have hn2:xs.length≤es.length:=by
    have e1:=congrArg List.length hsl
    rw [List.length_map] at e1
    have e2:=List.length_filterMap_le (rowOf (oU l) M es) seen
    have e3:=qG es.length seen hnd hlt
    omega
   have hH2:(h++Blk.iter (some m1) es.length (seen++[i])::(J++J2)).length=h.length+(J.length+J2.length+1):=by simp
   rcases hout2 with ⟨rfl,rfl⟩|⟨r,b1,b2,rfl,b4⟩
   ·refine ge ?_
    obtain ⟨B,hB⟩: ∃ B,Blk.var 130 [pH e.a,PV.ms (h.length+(J.length+1)+j) 0 3 cs.length]=B:=⟨_,rfl⟩
    rw [hB]
    have hhp:h++Blk.iter (some m1) es.length (seen++[i])::(J++(J2++[B]))=(h++Blk.iter (some m1) es.length (seen++[i])::(J++J2))++[B]:=by simp
    refine ⟨⟨seen++[i],J++(J2++[B]),.ms (h.length+(J.length+J2.length+1)) 0 2 1,[((⟨e.a,cs⟩,h.length+(J.length+1)+j),.ms (h.length+(J.length+1)+j) 0 3 cs.length)]⟩,⟨hnd2,hlt2,.inr ⟨h.length+(J.length+J2.length+1),by omega,by simp,rfl,?_⟩,fun y hy=> ?_,?_⟩,hm,rfl,rfl,rfl⟩
    ·dsimp only [RS.hp]
     rw [hhp, ←hH2,zA, ←hB];rfl
    ·rw [List.mem_singleton] at hy;subst hy
     refine ⟨rfl,by dsimp only;omega,?_⟩
     dsimp only [RS.hp]
     rw [hhp];exact yJ _ _ _ _ (hq _)
    ·rw [List.filterMap_append, ←hsl];simp [hro]
   ·have hfl:=sQ (fun x:RX=>rxc x.1) (·.2) xs
    have a1:((xs.length+1)*48≤140737488355328)=True:=eq_true (by omega)
    have a2:(xs.length≤140737488355327)=True:=eq_true (by omega)
    refine gf (a4 @b4 @hfl @a1 @a2) ?_
    obtain ⟨k,rfl⟩: ∃ k,r=h.length+(k+1):=⟨r-h.length-1,by omega⟩
    obtain ⟨B,hB⟩: ∃ B,Blk.var 130 (rxf xs++[pH e.a,PV.ms (h.length+(J.length+1)+j) 0 3 cs.length])=B:=⟨_,rfl⟩
    rw [hB]
    have hhp:h++Blk.iter (some m1) es.length (seen++[i])::((J++J2).set k .old++[B])=(h++Blk.iter (some m1) es.length (seen++[i])::(J++J2)).set (h.length+(k+1)) .old++[B]:=by
     rw [rN,List.set_cons_succ,List.append_assoc,List.cons_append]
    refine ⟨⟨seen++[i],(J++J2).set k .old++[B],.ms (h.length+(J.length+J2.length+1)) 0 2 (xs.length+1),xs++[((⟨e.a,cs⟩,h.length+(J.length+1)+j),.ms (h.length+(J.length+1)+j) 0 3 cs.length)]⟩,⟨hnd2,hlt2,.inr ⟨h.length+(J.length+J2.length+1),by omega,by simp,by simp,?_⟩,fun y hy=> ?_,?_⟩,hm,rfl,rfl,hhp.symm⟩
    ·dsimp only [RS.hp]
     rw [hhp, ←hH2,show (h++Blk.iter (some m1) es.length (seen++[i])::(J++J2)).length=((h++Blk.iter (some m1) es.length (seen++[i])::(J++J2)).set (h.length+(k+1)) .old).length by rw [List.length_set],zA, ←hB]
     simp [rxf,sZ]
    ·dsimp only [RS.hp]
     rw [hhp]
     rcases List.mem_append.1 hy with hy|hy
     ·obtain ⟨c1,c2,c3⟩:=hrow2 y hy
      exact ⟨c1,c2,zhL _ b4 (by decide) c3 _⟩
     ·rw [List.mem_singleton] at hy;subst hy
      exact ⟨rfl,by dsimp only;omega,zhL _ b4 (by decide) (hq _) _⟩
    ·rw [List.map_append,hsl,List.filterMap_append];simp [hro]
end Go.AL.N
namespace Go.AL
open Go.Proofs Go.Sort
theorem ACall.cut2 {P:Program} {G:Glob} {f:FuncId} {args:List PV} {h:Heap} {R:PV→Heap→Prop} (n F F':Nat) (hn:h.length≤n) (k:ACall P G f args h fun p h'=>R (fz n h' F' p) (zk3 n h' F)):ACall P G f args h R:=by
 refine ⟨k.1,fun φ w X vs a b c d=>(k.2 φ w X vs a b c d).mono ?_⟩
 rintro e w' ⟨φ',h',p,v,he,x,hs,hv,hr⟩
 have x':=zb4 hs x n F hn
 exact ⟨φ'.take n,zk3 n h' F,fz n h' F' p,v,he,x',zhT hs n F,bY hs n F F' hv,hr⟩
theorem fzM0 {n:Nat} {h:Heap} (f r off k len:Nat) {T:TypeId} {cs:List PV} (hr: ¬r<n) (hh:h[r]? =some (.var T cs)):fz n h (f+1) (.ms r off k len)= .ts k (wA (cs.map (fz n h f)) off k len):=by
 simp only [fz,if_neg hr,hh]
theorem fzS0 {n:Nat} {h:Heap} (f:Nat) (v:Value):fz n h (f+1) (.sc v)= .sc v:=by simp only [fz]
theorem fzN0 {n:Nat} {h:Heap} (f:Nat):fz n h (f+1) .nil= .nil:=by simp only [fz]
theorem fzB0 (n:Nat) (h h':Heap) (b:Blk):zm2 n h 0 b=zm2 n h' 0 b:=by
 cases b<;>simp only [zm2]<;>first|rfl|(congr 1)
theorem zl8 {n:Nat} {H:Heap} {x:RX} {lo:Nat} (hn:n≤lo) (hR:RowOK lo H x):fz n H 39 (rxc x.1)=pH x.1.1.args∧fz n H 39 x.2=ces x.1.1.cs:=by
 obtain ⟨a1,a2,a3⟩:=hR
 have q1:zU 39 (pH x.1.1.args)=true:=all_map fun _=>rfl
 have e1:(x.1.1.cs.map Ce.c).flatten.map (fz n H 38)=(x.1.1.cs.map Ce.c).flatten:=uR fun p hp=>by
  obtain ⟨e,he,hp⟩:=List.mem_flatten.1 hp
  obtain ⟨c,_,rfl⟩:=List.mem_map.1 he
  simp only [Ce.c,List.mem_cons,List.not_mem_nil,or_false] at hp
  rcases hp with rfl|rfl|rfl<;>exact fzS0 37 _
 have e2:=rL 3 (x.1.1.cs.map Ce.c) (fun e he=>by obtain ⟨b,_,rfl⟩:=List.mem_map.1 he;rfl)
 rw [List.length_map] at e2
 refine ⟨vE n H 39 _ q1,?_⟩
 rw [a1,fzM0 38 _ _ _ _ (by omega) a3,e1,e2]
theorem zl9 {n lo:Nat} {H:Heap} {xs:List RX} {V:PV} (hn:n≤lo) (hO:OutAt lo H xs V) (hR: ∀ x∈xs,RowOK lo H x):PLe (fz n H 40 V) (vD (xs.map (·.1.1))):=by
 rcases hO with ⟨rfl,rfl⟩|⟨r,h1,h2,rfl,h3⟩
 ·rw [fzN0 39];exact PLe.nil_ts 2
 ·have e3:(rxf xs).map (fz n H 39)=(xs.map fun x=>LRw.c x.1.1).flatten:=by
   clear h1 h2 h3
   induction xs with
   |nil=>rfl
   |cons x xs ih=>
    obtain ⟨k1,k2⟩:=zl8 hn (hR x (List.mem_cons_self ..))
    have:=ih fun y hy=>hR y (List.mem_cons_of_mem _ hy)
    simp only [rxf,sZ] at this
    simp only [rxf,sZ,List.map_cons,List.flatten_cons,List.map_append,List.map_nil,this,k1,k2]
  have e4:=rL 2 (xs.map fun x=>LRw.c x.1.1) (fun e he=>by obtain ⟨b,_,rfl⟩:=List.mem_map.1 he;rfl)
  rw [List.length_map] at e4
  rw [fzM0 39 _ _ _ _ (by omega) h3,e3,e4]
  unfold vD
  rw [List.map_map];exact PLe.refl _
end Go.AL
namespace Go.AL
open Go.Proofs Go.Proofs.Tryz
@[go_sem] def UCel6f40.pl:Nat→DPlan
 |11=>⟨[yA,yB,yA,yA,yA,yB,yA,yA,yB,yC,yA,yA],xF,0⟩
 |_=>⟨[],[],0⟩
theorem LRw.ok2.ok {x:LRw} (h:x.ok2):x.ok:=⟨h.1,by have:=h.2.1;omega,h.2.2⟩
end Go.AL
namespace Go.AL
open Go.Proofs Go.Proofs.Tryz
@[go_sem] def UCel7f127.pl:Nat→DPlan
 |8=>⟨[yB,yA,yB,yA,yA,yC],znU,0⟩
 |_=>⟨[],[],0⟩
end Go.AL
namespace Go.AL
open Go.Proofs Go.Proofs.Tryz
@[go_sem] def UBas1f69.pl:Nat→DPlan
 |1=>⟨[yA,yB,yB,yA,yA,yB,yB,yA,yC,yA,yA,yB,yA,yB,yC,yA,yA,yA,yA],sI,0⟩
 |_=>⟨[],[],0⟩
end Go.AL
namespace Go.AL
open Go.Proofs Go.Proofs.Tryz
@[go_sem] def UBas2f13.pl:Nat→DPlan
 |6=>⟨[yA,yB,yA,yA,yB,yA,yB,yA,yA,yB,yA,yA],xF,0⟩
 |12=>⟨[yA,yA,yA,yA,yA,yB,yA,yB,yA,yB,yA,yB,yA,yC,yA,yA],xE,0⟩
 |_=>⟨[],[],0⟩
abbrev Pg.sm (p:Pg):Prop:= ∀ x∈p.lats,x.elems.length≤1048576∧x.covers.length≤1048576
end Go.AL
namespace Go.AL
open Go.Proofs Go.Proofs.Tryz
@[go_sem] def URsx1f224.pl:Nat→DPlan
 |4=>⟨[yA,yA,yA,yA,yA,yA,yA,yA,yB,yA,yA,yA,yA,yB,yC,yA,yA],wR,0⟩
 |6=>⟨[yA,yA,yA,yA,yA,yA,yA,yA,yA,yB,yA,yA,yA,yB,yA,yC,yA,yC],yM,0⟩
 |_=>⟨[],[],0⟩
@[go_sem] def URsx1f225.pl:Nat→DPlan
 |5=>⟨[yA,yA,yA,yA,yB,yA,yA,yA,yB,yC,yA],vJ,0⟩
 |11=>⟨[yA,yA,yA,yA,yA,yA,yA,yA,yA,yB,yA,yA,yA,yB,yA,yC,yA,yC],yM,0⟩
 |17=>⟨[yA,yA,yA,yA,yB,yA,yA,yA,yB,yC,yA,yA],xF,0⟩
 |23=>⟨[yA,yA,yA,yA,yA,yA,yA,yA,yA,yB,yA,yA,yA,yB,yA,yC,yA,yC],yM,0⟩
 |35=>⟨[yA,yA,yA,yA,yA,yA,yB,yA,yA,yA,yB,yC,yA,yA],wS,0⟩
 |_=>⟨[],[],0⟩
def SoR (l:List Rw):Prop:= ∀ (i j:Nat) (hij:i<j) (hj:j<l.length),sD (l[i]'(Nat.lt_trans hij hj)).args l[j].args<0
theorem eO {a b:List Vl} (h:sD a b<0): ¬sD b a<0:=by rw [zqQ.s a b];omega
open URsx1f224 in
theorem zoU (l:List Rw) (hl:l.length≤70368744177664) (hok: ∀ x∈l,x.ok) (hso:SoR l) (a b:Nat) (ha:a≤l.length) (hb:b≤l.length) (h:Heap) (r:Nat) (hr:h[r]? =some (.var 84 (xI l))):
  ECall prog G0 224 [.ms r 0 2 l.length,i64 a,i64 b,kP] h fun _ h'=>h'=h:=by
 refine pv func224 53 false (by kernel_rfl) rfl rfl ?_
 refine g2 ?_
 have hw0:IntKind.i64.wrap ((a:Int)+1)=((a+1:Nat):Int):=by rw [xM (by omega) (by omega)];rfl
 refine gf @hw0 ?_
 refine zW (K4 (K4 (.v:: .d:: .k:: .k::D9 (D9 (D9 (D9 (D4 (.d::[])))))))) (fun (s:Nat)=>[i64 s]) (fun s=>h) (fun s=>a<s∧s≤l.length+1) (fun s=>l.length+1-s) (own:=false) (a+1) rfl rfl ⟨by omega,by omega⟩ ?_
 rintro i ⟨hi0,hi⟩
 refine gm ?_
 by_cases hib:i<b
 ·have hb1:((i:Int)<(b:Int)):=by omega
  refine gf @hb1 ?_
  refine zW (K9 (.v::K4 (K4 (D9 (D9 (D9 (D4 (D4 ([]))))))))) (fun (s:Nat)=>[i64 s]) (fun s=>h) (fun s=>s=i) (fun s=>s) (own:=false) i rfl rfl rfl ?_
  rintro j hj t ht
  subst hj
  simp only [zY] at ht;subst ht
  have hjb:((a:Int)<(j:Int)):=by omega
  have hj2:j<l.length:=by omega
  have hj3:j-1<l.length:=by omega
  have hw1:IntKind.i64.wrap ((j:Int)-1)=((j-1:Nat):Int):=by rw [xM (by omega) (by omega)];omega
  have g1:=xG l j hj2
  have g2:=xG l (j-1) hj3
  have hby:=uS l[j] l[j-1] (hok _ (List.getElem_mem hj2)) (hok _ (List.getElem_mem hj3))
  have hneg:=eO (hso (j-1) j (by omega) hj2)
  generalize l[j]=x at*
  generalize l[j-1]=y at*
  generalize hc:sD x.args y.args=c at*
  (repeat (first|refine gz ?_|(refine gn ?_;intro zs zh;(try simp only [go_sem,hjb,hr,hw1,g1,g2,xK,zB,hj2,hj3,hneg] at zh);subst zh;(first|refine gv ?_|((first|refine zC (hby.call zK (by simp [zJ]) _) ?_|refine zP (by decide) (by decide) (hby.call zK (by simp [zJ]) _) ?_);intro p2 h2 hr2;obtain ⟨hr2,rfl⟩:=hr2;first|obtain ⟨_,rfl,hr2⟩:=hr2|obtain ⟨_,rfl⟩:=hr2|subst hr2|skip)))|refine yD URsx1f224.pl ?_))
  have hwi:IntKind.i64.wrap ((j:Int)+1)=((j+1:Nat):Int):=by rw [xM (by omega) (by omega)];rfl
  exact ⟨j+1,⟨by (try dsimp only);omega,by (try dsimp only);omega⟩,by (try dsimp only);omega,by simp only [zY,xJ,List.tail_cons];rw [hwi],rfl,rfl⟩
 ·have hb1: ¬((i:Int)<(b:Int)):=by omega
  refine gf @hb1 ?_
  rfl
def SymS (l:List Rw) (a m b:Nat):Prop:= ∀ (h:Heap) (r:Nat) (hr:h[r]? =some (.var 84 (xI l))),
  ECall prog G0 225 [.ms r 0 2 l.length,i64 a,i64 m,i64 b,kP] h fun _ h'=>h'=h
open URsx1f225 in
theorem zrR (l:List Rw) (hl:l.length≤70368744177664) (hok: ∀ x∈l,x.ok) (hso:SoR l) (a m b:Nat) (ham:a<m) (hmb:m<b) (hb:b≤l.length) (hm1:m-a=1):SymS l a m b:=by
 intro h r hr
 refine pv func225 220 false (by kernel_rfl) rfl rfl ?_
 refine g2 ?_
 have w1:IntKind.i64.wrap ((m:Int)-a)=((m-a:Nat):Int):=by rw [xM (by omega) (by omega)];omega
 have e1:(((m-a:Nat):Int)==1)=true:=by simp [hm1]
 refine gf (a2 @w1 @e1) ?_
 refine zW (K9 (.k:: .v:: .v:: .d::K9 (K9 (D9 (D9 (D4 (.d::K9 (K9 (K9 (K9 (K9 (K9 (K9 (K9 (K9 (K9 (K9 (K9 (K9 (K9 (K9 (K9 (K9 (K9 (K4 ([])))))))))))))))))))))))))) (fun (s:Nat)=>[i64 m,i64 s]) (fun s=>h) (fun s=>m≤s∧s≤b) (fun s=>s) (own:=false) b rfl rfl ⟨by omega,by omega⟩ ?_
 rintro j ⟨hij,hj⟩
 refine gm ?_
 by_cases hlt:m<j
 ·have hlt1:(m:Int)<(j:Int):=by omega
  have hm:IntKind.i64.wrap ((m:Int)+j)=((m+j:Nat):Int):=by rw [xM (by omega) (by omega)];omega
  have hu:IntKind.u64.wrap ((m+j:Nat):Int)=((m+j:Nat):Int):=by rw [IntKind.wrap_u64];omega
  have hsh:=zeU (m+j)
  have hc:IntKind.i64.wrap ((((m+j) / 2:Nat):Int))=(((m+j) / 2:Nat):Int):=zeR (by omega)
  have k1:(m+j) / 2<l.length:=by omega
  have k2:a<l.length:=by omega
  have gx:=xG l ((m+j) / 2) k1
  have gy:=xG l (a) k2
  have hby:=uS l[(m+j) / 2] l[a] (hok _ (List.getElem_mem k1)) (hok _ (List.getElem_mem k2))
  have hneg:=eO (hso a ((m+j) / 2) (by omega) k1)
  generalize l[(m+j) / 2]=x at*
  generalize l[a]=y at*
  generalize hcc:sD x.args y.args=c at*
  (repeat (first|refine gz ?_|(refine gn ?_;intro zs zh;(try simp only [go_sem,iS,rZ,hlt1,hm,hu,hsh,hc,hr,gx,gy,xK,zB,k1,k2,hneg] at zh);subst zh;(first|refine gv ?_|((first|refine zC (hby.call zK (by simp [zJ]) _) ?_|refine zP (by decide) (by decide) (hby.call zK (by simp [zJ]) _) ?_);intro p2 h2 hr2;obtain ⟨hr2,rfl⟩:=hr2;first|obtain ⟨_,rfl,hr2⟩:=hr2|obtain ⟨_,rfl⟩:=hr2|subst hr2|skip)))|refine yD URsx1f225.pl ?_))
  exact ⟨(m+j) / 2,⟨by (try dsimp only);omega,by (try dsimp only);omega⟩,by (try dsimp only);omega,rfl,rfl,rfl⟩
 ·have hlt1: ¬((m:Int)<(j:Int)):=by omega
  refine gf @hlt1 ?_
  have wi1:IntKind.i64.wrap ((m:Int)-1)=((m-1:Nat):Int):=by rw [xM (by omega) (by omega)];omega
  refine zW (K9 (K4 (.v::K9 (K9 (K9 (K9 (K4 (.k::D9 (D9 (D4 (K9 (K9 (K9 (K9 (K9 (K9 (K9 (K9 (K9 (K9 (K9 (K9 (K9 (K9 (K9 (K4 (K4 ([])))))))))))))))))))))))))))) (fun (s:Nat)=>[i64 s]) (fun s=>h) (fun s=>s=a) (fun s=>s) (own:=false) a rfl rfl rfl ?_
  rintro k rfl
  refine gm ?_
  have hg1: ¬((k:Int)<((m-1:Nat):Int)):=by omega
  refine gf (a2 @hg1 @wi1) ?_
  rfl
open URsx1f225 in
theorem zrQ (l:List Rw) (hl:l.length≤70368744177664) (hok: ∀ x∈l,x.ok) (hso:SoR l) (a m b:Nat) (ham:a<m) (hmb:m<b) (hb:b≤l.length) (hm1:m-a≠1) (hm2:b-m=1):SymS l a m b:=by
 intro h r hr
 refine pv func225 220 false (by kernel_rfl) rfl rfl ?_
 refine g2 ?_
 have w1:IntKind.i64.wrap ((m:Int)-a)=((m-a:Nat):Int):=by rw [xM (by omega) (by omega)];omega
 have w2:IntKind.i64.wrap ((b:Int)-m)=((b-m:Nat):Int):=by rw [xM (by omega) (by omega)];omega
 have e1:(((m-a:Nat):Int)==1)=false:=by simp;omega
 have e2:(((b-m:Nat):Int)==1)=true:=by simp [hm2]
 refine gf (a4 @w1 @w2 @e1 @e2) ?_
 refine zW (K9 (K4 (.k:: .v:: .v:: .d::K9 (K9 (K9 (K9 (K9 (K9 (K9 (.k:: .k:: .k::D9 (D9 (D4 (.d:: .d::K9 (K9 (K9 (K9 (K9 (K9 (K9 (K9 (K9 (K9 (K9 (K9 (K4 (.k::[])))))))))))))))))))))))))) (fun (s:Nat)=>[i64 s,i64 m]) (fun s=>h) (fun s=>a≤s∧s≤m) (fun s=>m-s) (own:=false) a rfl rfl ⟨by omega,by omega⟩ ?_
 rintro i ⟨hi,hij⟩
 refine gm ?_
 by_cases hlt:i<m
 ·have hlt1:(i:Int)<(m:Int):=by omega
  have hm:IntKind.i64.wrap ((i:Int)+m)=((i+m:Nat):Int):=by rw [xM (by omega) (by omega)];omega
  have hu:IntKind.u64.wrap ((i+m:Nat):Int)=((i+m:Nat):Int):=by rw [IntKind.wrap_u64];omega
  have hsh:=zeU (i+m)
  have hc:IntKind.i64.wrap ((((i+m) / 2:Nat):Int))=(((i+m) / 2:Nat):Int):=zeR (by omega)
  have hwc:IntKind.i64.wrap ((((i+m) / 2:Nat):Int)+1)=(((i+m) / 2+1:Nat):Int):=by rw [xM (by omega) (by omega)];rfl
  have k1:m<l.length:=by omega
  have k2:(i+m) / 2<l.length:=by omega
  have gx:=xG l (m) k1
  have gy:=xG l ((i+m) / 2) k2
  have hby:=uS l[m] l[(i+m) / 2] (hok _ (List.getElem_mem k1)) (hok _ (List.getElem_mem k2))
  have hneg:=eO (hso ((i+m) / 2) m (by omega) k1)
  generalize l[m]=x at*
  generalize l[(i+m) / 2]=y at*
  generalize hcc:sD x.args y.args=c at*
  (repeat (first|refine gz ?_|(refine gn ?_;intro zs zh;(try simp only [go_sem,iS,rZ,hlt1,hm,hu,hsh,hc,hwc,hr,gx,gy,xK,zB,k1,k2,hneg] at zh);subst zh;(first|refine gv ?_|((first|refine zC (hby.call zK (by simp [zJ]) _) ?_|refine zP (by decide) (by decide) (hby.call zK (by simp [zJ]) _) ?_);intro p2 h2 hr2;obtain ⟨hr2,rfl⟩:=hr2;first|obtain ⟨_,rfl,hr2⟩:=hr2|obtain ⟨_,rfl⟩:=hr2|subst hr2|skip)))|refine yD URsx1f225.pl ?_))
  exact ⟨(i+m) / 2+1,⟨by (try dsimp only);omega,by (try dsimp only);omega⟩,by (try dsimp only);omega,rfl,rfl,rfl⟩
 ·have hlt1: ¬((i:Int)<(m:Int)):=by omega
  refine gf @hlt1 ?_
  refine zW (K9 (K4 (K4 (.v::K9 (K9 (K9 (K9 (K9 (K9 (K9 (K9 (K9 (K9 (D9 (D9 (.d:: .d:: .d::K9 (K9 (K9 (K9 (K9 (K9 (K9 (K9 (K9 (K9 (.k::[])))))))))))))))))))))))))) (fun (s:Nat)=>[i64 s]) (fun s=>h) (fun s=>s=m) (fun s=>s) (own:=false) m rfl rfl rfl ?_
  rintro k rfl
  refine gm ?_
  have hg1: ¬((i:Int)<(k:Int)):=by omega
  refine gf @hg1 ?_
  rfl
open URsx1f225 in
theorem zrP (d:Nat) (ih: ∀ (l:List Rw) (_:l.length≤70368744177664) (_: ∀ x∈l,x.ok) (_:SoR l) (a m b:Nat) (_:b-a≤d) (_:a<m) (_:m<b) (_:b≤l.length),SymS l a m b) (l:List Rw) (hl:l.length≤70368744177664) (hok: ∀ x∈l,x.ok) (hso:SoR l) (a m b:Nat) (hd:b-a≤d+1) (ham:a<m) (hmb:m<b) (hb:b≤l.length) (hm1:m-a≠1) (hm2:b-m≠1):SymS l a m b:=by
 intro h r hr
 refine pv func225 220 false (by kernel_rfl) rfl rfl ?_
 refine g2 ?_
 have w1:IntKind.i64.wrap ((m:Int)-a)=((m-a:Nat):Int):=by rw [xM (by omega) (by omega)];omega
 have w2:IntKind.i64.wrap ((b:Int)-m)=((b-m:Nat):Int):=by rw [xM (by omega) (by omega)];omega
 have e1:(((m-a:Nat):Int)==1)=false:=by simp;omega
 have e2:(((b-m:Nat):Int)==1)=false:=by simp;omega
 have hm:IntKind.i64.wrap ((a:Int)+b)=((a+b:Nat):Int):=by rw [xM (by omega) (by omega)];omega
 have hu:IntKind.u64.wrap ((a+b:Nat):Int)=((a+b:Nat):Int):=by rw [IntKind.wrap_u64];omega
 have hsh:=zeU (a+b)
 have hc:IntKind.i64.wrap ((((a+b) / 2:Nat):Int))=(((a+b) / 2:Nat):Int):=zeR (by omega)
 have w3:IntKind.i64.wrap ((((a+b) / 2:Nat):Int)+m)=(((a+b) / 2+m:Nat):Int):=by rw [xM (by omega) (by omega)];omega
 have w4:IntKind.i64.wrap ((((a+b) / 2+m:Nat):Int)-1)=(((a+b) / 2+m-1:Nat):Int):=by rw [xM (by omega) (by omega)];omega
 obtain ⟨M,hM⟩: ∃ M,(a+b) / 2=M:=⟨_,rfl⟩
 have hMa:a≤M∧M≤b:=by omega
 rw [hM] at hsh hc w3 w4
 have search: ∀ (s0 R:Nat),a≤s0→s0≤R→R≤m→R≤M→M+m≤s0+b→ ∀ s:Nat,s0≤s→s<R→ ∃ (q c:Nat),M+m-1-(s+R) / 2=q∧(s+R) / 2=c∧ ∃ (k1:q<l.length) (k2:c<l.length),c<R∧s≤c∧ ¬sD l[q].args l[c].args<0:=fun s0 R h0 h1 h2 h3 h6 s h4 h5=>
  ⟨_,_,rfl,rfl,by omega,by omega,by omega,by omega,eO (hso _ _ (by omega) (by omega))⟩
 by_cases hgt:M<m
 ·have hgt1:((M:Nat):Int)<(m:Int):=by omega
  have w5:IntKind.i64.wrap (((M+m:Nat):Int)-b)=((M+m-b:Nat):Int):=by rw [xM (by omega) (by omega)];omega
  refine gf (a9 @w1 @w2 @e1 @e2 @iS @rZ @hm @hu (a6 @hsh @hc @w3 @w4 @w5 @hgt1)) ?_
  refine zW (K9 (K9 (.k:: .k:: .v:: .v:: .k:: .d::K9 (K9 (K9 (K9 (K9 (K9 (K9 (K9 (K9 (K9 (K9 (K9 (K9 (K4 (K4 (D9 (D9 (D4 (D4 (K9 (K9 (K9 (K9 (K9 ([]))))))))))))))))))))))))))) (fun (s:Nat)=>[i64 s,i64 M]) (fun s=>h) (fun s=>M+m-b≤s∧s≤M) (fun s=>M-s) (own:=false) (M+m-b) rfl rfl ⟨by omega,by omega⟩ ?_
  rintro s ⟨hi,hij⟩
  refine gm ?_
  clear hm hu hsh hc
  by_cases hlt:s<M
  ·have hlt1:(s:Int)<(M:Int):=by omega
   have hm:IntKind.i64.wrap ((s:Int)+M)=((s+M:Nat):Int):=by rw [xM (by omega) (by omega)];omega
   have hu:IntKind.u64.wrap ((s+M:Nat):Int)=((s+M:Nat):Int):=by rw [IntKind.wrap_u64];omega
   have hsh:=zeU (s+M)
   have hc:IntKind.i64.wrap ((((s+M) / 2:Nat):Int))=(((s+M) / 2:Nat):Int):=zeR (by omega)
   have hwc:IntKind.i64.wrap ((((s+M) / 2:Nat):Int)+1)=(((s+M) / 2+1:Nat):Int):=by rw [xM (by omega) (by omega)];rfl
   have hwp:IntKind.i64.wrap (((M+m-1:Nat):Int)-(((s+M) / 2:Nat):Int))=((M+m-1-(s+M) / 2:Nat):Int):=by rw [xM (by omega) (by omega)];omega
   obtain ⟨q,c,hqd,hcd,k1,k2,k3,k4,hneg⟩:=search (M+m-b) M (by omega) (by omega) (by omega) (by omega) (by omega) s hi hlt
   rw [hcd] at hsh hc hwc
   rw [hqd,hcd] at hwp
   have fin:M+m-b≤c+1∧c+1≤M∧M-(c+1)<M-s:=by omega
   clear search ih hcd hqd hM hMa w1 w2 e1 e2 w3 w4 k3 k4 hd ham hmb hb hm1 hm2 hgt hgt1 hi hij hlt
   have gx:=xG l q k1
   have gy:=xG l c k2
   have hby:=uS l[q] l[c] (hok _ (List.getElem_mem k1)) (hok _ (List.getElem_mem k2))
   generalize l[q]=x at*
   generalize l[c]=y at*
   generalize hcc:sD x.args y.args=cc at*
   (repeat (first|refine gz ?_|(refine gn ?_;intro zs zh;(try simp only [go_sem,iS,rZ,hlt1,hm,hu,hsh,hc,hwc,hwp,hr,gx,gy,xK,zB,k1,k2,hneg] at zh);subst zh;(first|refine gv ?_|((first|refine zC (hby.call zK (by simp [zJ]) _) ?_|refine zP (by decide) (by decide) (hby.call zK (by simp [zJ]) _) ?_);intro p2 h2 hr2;obtain ⟨hr2,rfl⟩:=hr2;first|obtain ⟨_,rfl,hr2⟩:=hr2|obtain ⟨_,rfl⟩:=hr2|subst hr2|skip)))|refine yD URsx1f225.pl ?_))
   exact ⟨c+1,⟨fin.1,fin.2.1⟩,fin.2.2,rfl,rfl,rfl⟩
  ·have:s=M:=by omega
   subst this
   have hlt1: ¬((s:Int)<(s:Int)):=by omega
   have we:IntKind.i64.wrap (((s+m:Nat):Int)-s)=((m:Nat):Int):=by rw [xM (by omega) (by omega)];omega
   have d1:((s:Int)<(m:Int)):=by omega
   have d2: ¬((m:Int)<(m:Int)):=by omega
   have d4:((m:Int)<(b:Int)):=by omega
   by_cases d5:a<s
   ·have d3:((a:Int)<(s:Int)):=by omega
    refine gf (a8 @hlt1 @we @d1 @d2 @d3 @d4 @hgt @zM) ?_
    (refine Go.AL.g1f (a4 @d1 @d2 @d4 @hgt) ?_;refine zC (ih l hl hok hso s m b (by omega) (by omega) (by omega) (by omega) h r hr) ?_;intro p2 h2 hr2;refine Go.AL.g2 ?_)
    subst hr2
    refine ge ?_
    rfl
   ·have d3: ¬((a:Int)<(s:Int)):=by omega
    refine gf (a8 @hlt1 @we @d1 @d2 @d3 @d4 @hgt @zM) ?_
    (refine Go.AL.g1f (a4 @d1 @d2 @d4 @hgt) ?_;refine zC (ih l hl hok hso s m b (by omega) (by omega) (by omega) (by omega) h r hr) ?_;intro p2 h2 hr2;refine Go.AL.g2 ?_)
    subst hr2
    refine ge ?_
    rfl
 ·have hgt1: ¬((M:Nat):Int)<(m:Int):=by omega
  refine gf (a9 @w1 @w2 @e1 @e2 @iS @rZ @hm @hu (a5 @hsh @hc @w3 @w4 @hgt1)) ?_
  refine zW (K9 (K9 (.k:: .k:: .v:: .v:: .k:: .d::K9 (K9 (K9 (K9 (K9 (K9 (K9 (K9 (K9 (K9 (K9 (K9 (K9 (K4 (K4 (D9 (D9 (D4 (D4 (K9 (K9 (K9 (K9 (K9 ([]))))))))))))))))))))))))))) (fun (s:Nat)=>[i64 s,i64 m]) (fun s=>h) (fun s=>a≤s∧s≤m) (fun s=>m-s) (own:=false) a rfl rfl ⟨by omega,by omega⟩ ?_
  rintro s ⟨hi,hij⟩
  refine gm ?_
  clear hm hu hsh hc
  by_cases hlt:s<m
  ·have hlt1:(s:Int)<(m:Int):=by omega
   have hm:IntKind.i64.wrap ((s:Int)+m)=((s+m:Nat):Int):=by rw [xM (by omega) (by omega)];omega
   have hu:IntKind.u64.wrap ((s+m:Nat):Int)=((s+m:Nat):Int):=by rw [IntKind.wrap_u64];omega
   have hsh:=zeU (s+m)
   have hc:IntKind.i64.wrap ((((s+m) / 2:Nat):Int))=(((s+m) / 2:Nat):Int):=zeR (by omega)
   have hwc:IntKind.i64.wrap ((((s+m) / 2:Nat):Int)+1)=(((s+m) / 2+1:Nat):Int):=by rw [xM (by omega) (by omega)];rfl
   have hwp:IntKind.i64.wrap (((M+m-1:Nat):Int)-(((s+m) / 2:Nat):Int))=((M+m-1-(s+m) / 2:Nat):Int):=by rw [xM (by omega) (by omega)];omega
   obtain ⟨q,c,hqd,hcd,k1,k2,k3,k4,hneg⟩:=search a m (by omega) (by omega) (by omega) (by omega) (by omega) s hi hlt
   rw [hcd] at hsh hc hwc
   rw [hqd,hcd] at hwp
   have fin:a≤c+1∧c+1≤m∧m-(c+1)<m-s:=by omega
   clear search ih hcd hqd hM hMa w1 w2 e1 e2 w3 w4 k3 k4 hd ham hmb hb hm1 hm2 hgt hgt1 hi hij hlt
   have gx:=xG l q k1
   have gy:=xG l c k2
   have hby:=uS l[q] l[c] (hok _ (List.getElem_mem k1)) (hok _ (List.getElem_mem k2))
   generalize l[q]=x at*
   generalize l[c]=y at*
   generalize hcc:sD x.args y.args=cc at*
   (repeat (first|refine gz ?_|(refine gn ?_;intro zs zh;(try simp only [go_sem,iS,rZ,hlt1,hm,hu,hsh,hc,hwc,hwp,hr,gx,gy,xK,zB,k1,k2,hneg] at zh);subst zh;(first|refine gv ?_|((first|refine zC (hby.call zK (by simp [zJ]) _) ?_|refine zP (by decide) (by decide) (hby.call zK (by simp [zJ]) _) ?_);intro p2 h2 hr2;obtain ⟨hr2,rfl⟩:=hr2;first|obtain ⟨_,rfl,hr2⟩:=hr2|obtain ⟨_,rfl⟩:=hr2|subst hr2|skip)))|refine yD URsx1f225.pl ?_))
   exact ⟨c+1,⟨fin.1,fin.2.1⟩,fin.2.2,rfl,rfl,rfl⟩
  ·have:s=m:=by omega
   subst this
   have hlt1: ¬((s:Int)<(s:Int)):=by omega
   have we:IntKind.i64.wrap (((M+s:Nat):Int)-s)=((M:Nat):Int):=by rw [xM (by omega) (by omega)];omega
   have d1:((a:Int)<(s:Int)):=by omega
   have d2: ¬((M:Int)<(M:Int)):=by omega
   by_cases d5:s<M
   ·have d3:((s:Int)<(M:Int)):=by omega
    refine gf (a7 @hlt1 @we @d1 @d2 @d3 @d5 @ham) ?_
    (refine Go.AL.g1f (a4 @d1 @d2 @d3 @d5) ?_;refine zC (ih l hl hok hso a s M (by omega) (by omega) (by omega) (by omega) h r hr) ?_;intro p2 h2 hr2;refine Go.AL.g2 ?_)
    subst hr2
    refine gf (a6 @hlt1 @we @d1 @d2 @d3 @d5) ?_
    rfl
   ·have d3: ¬((s:Int)<(M:Int)):=by omega
    refine gf (a7 @hlt1 @we @d1 @d2 @d3 @d5 @ham) ?_
    rfl
theorem zqN: ∀ (d:Nat) (l:List Rw) (_:l.length≤70368744177664) (_: ∀ x∈l,x.ok) (_:SoR l) (a m b:Nat) (_:b-a≤d) (_:a<m) (_:m<b) (_:b≤l.length),SymS l a m b
 |0,l,hl,hok,hso,a,m,b,hd,ham,hmb,hb=>by omega
 |d+1,l,hl,hok,hso,a,m,b,hd,ham,hmb,hb=>by
  by_cases hm1:m-a=1
  ·exact zrR l hl hok hso a m b ham hmb hb hm1
  by_cases hm2:b-m=1
  ·exact zrQ l hl hok hso a m b ham hmb hb hm1 hm2
  exact zrP d (zqN d) l hl hok hso a m b hd ham hmb hb hm1 hm2
end Go.AL
