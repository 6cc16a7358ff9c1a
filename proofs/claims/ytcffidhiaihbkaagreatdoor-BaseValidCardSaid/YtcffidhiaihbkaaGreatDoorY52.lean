/-
  Relations of the references: what Put, When, Of and At hand out.
-/
import Derived.Test.YtcffidhiaihbkaaGreatDoorY37
set_option linter.unusedSimpArgs false
set_option linter.unusedVariables false
set_option maxRecDepth 100000
set_option maxHeartbeats 4000000
namespace Go.AL
open Go.Proofs Go.Proofs.Tryz
@[go_sem] def UR01f57.pl:Nat→DPlan
 |4=>⟨[yA,yA,yA,yB,yA,yA,yA,yB,yC,yA],xS,0⟩
 |_=>⟨[],[],0⟩
@[go_sem] def UR01f126.pl:Nat→DPlan
 |4=>⟨[yA,yA,yA,yA,yA,yA,yA],tV,0⟩
 |5=>⟨[yA,yA,yA,yA,yA,yA,yA,yA,yC,yA],xS,0⟩
 |_=>⟨[],[],0⟩
theorem iD (a b:Int):EI 85 [i64 a,i64 b] fun n=>n=0↔a=b:=by
 refine ECall.pure (pv func85 11 false (by kernel_rfl) rfl rfl ?_)
 refine g2 ?_
 by_cases h1:a<b
 ·have e1:decide (a<b)=true:=by simp [h1]
  refine gf @e1 ?_
  exact ⟨⟨⟨_,rfl,by dsimp only;omega⟩,.sc⟩,rfl⟩
 have e1:decide (a<b)=false:=by simp;omega
 by_cases h2:b<a
 ·have e2:decide (b<a)=true:=by simp [h2]
  refine gf (a2 @e1 @e2) ?_
  exact ⟨⟨⟨_,rfl,by dsimp only;omega⟩,.sc⟩,rfl⟩
 have e2:decide (b<a)=false:=by simp;omega
 refine gf (a2 @e1 @e2) ?_
 exact ⟨⟨⟨_,rfl,by dsimp only;omega⟩,.sc⟩,rfl⟩
theorem zuU {s u:BA} (hl:s.size=u.size) (h: ∀ j,j<s.size→s.data.getD j 0=u.data.getD j 0):s=u:=by
 refine ByteArray.ext (Array.ext hl fun j h1 h2=> ?_)
 have:=h j h1
 rw [Array.getD_eq_getD_getElem?,Array.getD_eq_getD_getElem?,Array.getElem?_eq_getElem h1,Array.getElem?_eq_getElem h2] at this
 exact this
theorem u8_ne {x y:UInt8} (h:x≠y):((x.toNat:Int)!=(y.toNat:Int))=true:=by
 rw [bne_iff_ne];intro e;exact h (UInt8.toNat_inj.1 (by exact_mod_cast e))
open UR01f126 in
theorem ztH (s u:BA) (hs:s.size≤140737488355328):EI 126 [yQ s,yQ u] fun n=>n=0↔s=u:=by
 refine ECall.cut (R:=fun v _=> ∃ n:Int,v=i64 n∧(n=0↔s=u)) (pv func126 39 false (by kernel_rfl) rfl rfl ?_) (by rintro p h ⟨n,rfl,h⟩;exact ⟨n,rfl,h⟩)
 refine g2 ?_
 refine ge ?_
 refine zO (min s.size u.size) (K4 (.d:: .v::D9 (D9 (D9 (.d::K4 (.k::[])))))) (own:=false) (fun i (_:Unit)=>[i64 i]) (fun _=>_) (fun i _=> ∀ j,j<i→s.data.getD j 0=u.data.getD j 0) () rfl rfl (fun _ h=>absurd h (Nat.not_lt_zero _)) (by omega) ?_ ?_
 ·rintro _ hI
  refine gm ?_
  have hfin:((s.size:Int)=(u.size:Int))↔s=u:=by
   constructor
   ·intro e
    have e:s.size=u.size:=by omega
    exact zuU e fun j hj=>hI j (by omega)
   ·intro e;rw [e]
  by_cases hl:s.size<u.size
  ·have hm:min s.size u.size=s.size:=by omega
   rw [hm]
   have e1:decide ((s.size:Int)<(s.size:Int))=false:=by simp
   refine gf (a2 @e1 @zM) ?_
   (refine g1 ?_;refine zC ((iD s.size u.size).call zK (by simp) _) ?_;intro p2 h2 hr2;refine g2 ?_)
   obtain ⟨⟨n,rfl,hn⟩,rfl⟩:=hr2
   refine ge ?_
   exact ⟨n,rfl,hn.trans hfin⟩
  ·have hm:min s.size u.size=u.size:=by omega
   rw [hm]
   have e2:decide ((u.size:Int)<(u.size:Int))=false:=by simp
   by_cases hl2:u.size<s.size
   ·have e1:decide ((u.size:Int)<(s.size:Int))=true:=by simp [hl2]
    refine gf (a4 @e1 @e2 @zM @hl2) ?_
    (refine g1 ?_;refine zC ((iD s.size u.size).call zK (by simp) _) ?_;intro p2 h2 hr2;refine g2 ?_)
    obtain ⟨⟨n,rfl,hn⟩,rfl⟩:=hr2
    refine ge ?_
    exact ⟨n,rfl,hn.trans hfin⟩
   ·have e1:decide ((u.size:Int)<(s.size:Int))=false:=by simp;omega
    refine gf (a4 @e1 @e2 @zM @hl2) ?_
    (refine g1 ?_;refine zC ((iD s.size u.size).call zK (by simp) _) ?_;intro p2 h2 hr2;refine g2 ?_)
    obtain ⟨⟨n,rfl,hn⟩,rfl⟩:=hr2
    refine ge ?_
    exact ⟨n,rfl,hn.trans hfin⟩
 ·rintro i _ hi hw hI
  refine gm ?_
  have his:i<s.size:=by omega
  have hiu:i<u.size:=by omega
  have hi2:decide ((i:Int)<(s.size:Int))=true:=by simp;omega
  have hi3:((i:Int)<(s.size:Int))=True:=eq_true (by omega)
  have hi4:decide ((i:Int)<(u.size:Int))=true:=by simp;omega
  have hi5:((i:Int)<(u.size:Int))=True:=eq_true (by omega)
  by_cases hq:s.data.getD i 0=u.data.getD i 0
  ·have hI': ∀ j,j<i+1→s.data.getD j 0=u.data.getD j 0:=fun j hj=>by
    rcases Nat.lt_or_ge j i with h|h
    ·exact hI j h
    ·have:j=i:=by omega
     rw [this];exact hq
   (repeat (first|refine gz ?_|(refine gn ?_;intro zs zh;(try simp only [go_sem,his,hiu,hw,hi2,hi3,hi4,hi5,zB,hq,bne_self_eq_false] at zh);subst zh;refine gv ?_)|refine yD UR01f126.pl ?_))
   exact ⟨(),hI',rfl,rfl,rfl⟩
  ·have hb:=u8_ne hq
   have hsu:s≠u:=fun e=>hq (by rw [e])
   have hwx: ∀ x:UInt8,IntKind.i64.wrap (x.toNat:Int)=x.toNat:=fun x=>by have:=x.toNat_lt;exact xM (by omega) (by omega)
   have h5:(prog.underlying 5).isSome=true:=by kernel_rfl
   refine gf (a9 @his @hiu @hw @hi2 @hi3 @hi4 @hi5 @zB (a3 @hb @hwx @h5)) ?_
   (refine zF rfl rfl rfl ?_;intro zs zh;simp only [go_sem,hwx,h5] at zh;subst zh;refine zP (by decide) (by decide) ((iD (s.data.getD i 0).toNat (u.data.getD i 0).toNat).call zK (by simp) _) ?_;intro p2 h2 hr2 ts2 hts;simp only [go_sem] at hts;subst hts)
   obtain ⟨⟨n,rfl,hn⟩,rfl⟩:=hr2
   refine ge ?_
   refine ⟨n,rfl,?_⟩
   rw [hn]
   constructor
   ·intro e;exact absurd (UInt8.toNat_inj.1 (by exact_mod_cast e)) hq
   ·intro e;exact absurd e hsu
theorem zt6 (v w:Vl) (hs:v.s.size≤140737488355328):EI 84 [.agg v.c,.agg w.c] fun n=>n=0↔v=w:=by
 refine ECall.cut (R:=fun r _=> ∃ n:Int,r=i64 n∧(n=0↔v=w)) (pv func84 30 false (by kernel_rfl) rfl rfl ?_) (by rintro p h ⟨n,rfl,h⟩;exact ⟨n,rfl,h⟩)
 refine g2 ?_
 obtain ⟨a,b,s⟩:=v
 obtain ⟨a',b',s'⟩:=w
 dsimp only at hs
 by_cases h1:a=a'
 case neg=>
  have e1:(a !=a')=true:=by simp [h1]
  refine gf @e1 ?_
  (refine g1 ?_;refine zC ((iD a a').call zK (by simp) _) ?_;intro p2 h2 hr2;refine g2 ?_)
  obtain ⟨⟨n,rfl,hn⟩,rfl⟩:=hr2
  refine ge ?_
  exact ⟨n,rfl,by rw [hn];simp [h1]⟩
 subst h1
 by_cases h2:b=b'
 case neg=>
  have e2:(b !=b')=true:=by simp [h2]
  (repeat (first|refine gz ?_|(refine gn ?_;intro zs zh;(try simp only [go_sem,bne_self_eq_false,e2] at zh);subst zh;refine gv ?_)))
  (refine g1 ?_;refine zC ((iD b b').call zK (by simp) _) ?_;intro p2 h2 hr2;refine g2 ?_)
  obtain ⟨⟨n,rfl,hn⟩,rfl⟩:=hr2
  refine ge ?_
  exact ⟨n,rfl,by rw [hn];simp [h2]⟩
 subst h2
 (repeat (first|refine gz ?_|(refine gn ?_;intro zs zh;(try simp only [go_sem,bne_self_eq_false] at zh);subst zh;refine gv ?_)))
 (refine g1 ?_;refine zC ((ztH s s' hs).call zK (by simp) _) ?_;intro p2 h2 hr2;refine g2 ?_)
 obtain ⟨⟨n,rfl,hn⟩,rfl⟩:=hr2
 refine ge ?_
 exact ⟨n,rfl,by rw [hn];simp⟩
open UR01f57 in
theorem zq4 (l m:List Vl) (hl:l.length≤140737488355328) (hs: ∀ v∈l,v.s.size≤140737488355328):EI 57 [pH l,pH m] fun n=>n=0↔l=m:=by
 refine ECall.pure (pv func57 36 false (by kernel_rfl) rfl rfl ?_)
 refine g2 ?_
 refine ge ?_
 refine zO (min l.length m.length) (K4 (.d:: .v::D9 (D9 (D4 (.d:: .d:: .d::K4 (.k::[])))))) (own:=false) (fun i (_:Unit)=>[i64 i]) (fun _=>_) (fun i _=> ∀ (j:Nat) (h:j<l.length) (h':j<m.length),j<i→l[j]=m[j]) () rfl rfl (fun _ _ _ h=>absurd h (Nat.not_lt_zero _)) (by omega) ?_ ?_
 ·rintro _ hI
  refine gm ?_
  have hfin:((l.length:Int)=(m.length:Int))↔l=m:=by
   constructor
   ·intro e
    have e:l.length=m.length:=by omega
    exact List.ext_getElem e fun j h h'=>hI j h h' (by omega)
   ·intro e;rw [e]
  by_cases hl:l.length<m.length
  ·have hm:min l.length m.length=l.length:=by omega
   rw [hm]
   have e1:decide ((l.length:Int)<(l.length:Int))=false:=by simp
   refine gf (a2 @e1 @zM) ?_
   (refine g1 ?_;refine zC ((iD l.length m.length).call zK (by simp) _) ?_;intro p2 h2 hr2;refine g2 ?_)
   obtain ⟨⟨n,rfl,hn⟩,rfl⟩:=hr2
   refine ge ?_
   exact ⟨⟨⟨n,rfl,hn.trans hfin⟩,.sc⟩,rfl⟩
  ·have hm:min l.length m.length=m.length:=by omega
   rw [hm]
   have e2:decide ((m.length:Int)<(m.length:Int))=false:=by simp
   by_cases hl2:m.length<l.length
   ·have e1:decide ((m.length:Int)<(l.length:Int))=true:=by simp [hl2]
    refine gf (a4 @e1 @e2 @zM @hl2) ?_
    (refine g1 ?_;refine zC ((iD l.length m.length).call zK (by simp) _) ?_;intro p2 h2 hr2;refine g2 ?_)
    obtain ⟨⟨n,rfl,hn⟩,rfl⟩:=hr2
    refine ge ?_
    exact ⟨⟨⟨n,rfl,hn.trans hfin⟩,.sc⟩,rfl⟩
   ·have e1:decide ((m.length:Int)<(l.length:Int))=false:=by simp;omega
    refine gf (a4 @e1 @e2 @zM @hl2) ?_
    (refine g1 ?_;refine zC ((iD l.length m.length).call zK (by simp) _) ?_;intro p2 h2 hr2;refine g2 ?_)
    obtain ⟨⟨n,rfl,hn⟩,rfl⟩:=hr2
    refine ge ?_
    exact ⟨⟨⟨n,rfl,hn.trans hfin⟩,.sc⟩,rfl⟩
 ·rintro i _ hi hw hI
  refine gm ?_
  have his:i<l.length:=by omega
  have hiu:i<m.length:=by omega
  have hi2:decide ((i:Int)<(l.length:Int))=true:=by simp;omega
  have hi4:decide ((i:Int)<(m.length:Int))=true:=by simp;omega
  have hx:=zG (f:=Vl.c) [] his
  have hy:=zG (f:=Vl.c) [] hiu
  have hsx:=hs _ (List.getElem_mem his)
  have up:l[i]=m[i]→ ∀ (j:Nat) (h:j<l.length) (h':j<m.length),j<i+1→l[j]=m[j]:=fun q j h h' hj=>by
   rcases Nat.lt_or_ge j i with r|r
   ·exact hI j h h' r
   ·have:j=i:=by omega
    subst this;exact q
  have no:l[i]≠m[i]→l≠m:=fun q e=>by subst e;exact q rfl
  generalize l[i]=x at*
  generalize m[i]=y at*
  refine gf (a8 @his @hiu @hx @hy @hw @hi2 @hi4 @zB) ?_
  (refine zF rfl rfl rfl ?_;intro zs zh;simp only [go_sem,his,hiu,hx,hy,hw,zB] at zh;subst zh;refine zP (by decide) (by decide) ((zt6 x y hsx).call zK (by simp [zJ]) _) ?_;intro p2 h2 hr2 ts2 hts;simp only [go_sem] at hts;subst hts)
  obtain ⟨⟨n,rfl,hn⟩,rfl⟩:=hr2
  by_cases hq:x=y
  ·have h0:=hn.2 hq
   subst h0
   have h0:((0:Int)!=0)=false:=rfl
   refine gf (a3 @hw @zB @h0) ?_
   exact ⟨(),up hq,rfl,rfl,rfl⟩
  ·have hn0:n≠0:=fun e=>hq (hn.1 e)
   have h0:(n !=0)=true:=by simp [hn0]
   refine gf (a3 @hw @zB @h0) ?_
   exact ⟨⟨⟨n,rfl,⟨fun e=>absurd e hn0,fun e=>absurd e (no hq)⟩⟩,.sc⟩,rfl⟩
end Go.AL
namespace Go.AL
open Go.Proofs Go.Proofs.Tryz
def fJ (F:Nat→Bool):List Bool:=(List.range 64).map F
theorem iY (F:Nat→Bool):(fJ F).length=64:=by simp [fJ]
theorem zc3 (F:Nat→Bool) {m:Nat} (h:m<(fJ F).length):(fJ F)[m]=F m:=by simp [fJ]
theorem zt9 (F:Nat→Bool) {m:Nat} (h:m<64):(fJ F).set m true=fJ fun j=>F j||decide (j=m):=by
  refine List.ext_getElem (by simp [fJ]) fun j h1 h2=> ?_
  rw [List.getElem_set,zc3]
  split
  · rename_i e;subst e;rw [zc3];simp
  · rename_i e
    rw [zc3]
    have: ¬j=m:=fun q=>e q.symm
    simp [this]
theorem ztM {F G:Nat→Bool} (h: ∀ m,m<64→F m=G m):fJ F=fJ G:=List.map_congr_left fun m hm=>h m (List.mem_range.1 hm)
abbrev fH (l:List Sp) (m:Nat):Bool:=l.any fun s=>xT s m
theorem zuR {h:Heap} {r n:Nat} {t:TypeId} {cs:List PV} (hg:h[r]? =some (.var t cs)):fz 0 h 40 (.ms r 0 1 n)= .ts 1 (wA (cs.map (fz 0 h 39)) 0 1 n):=by
  unfold fz
  dsimp only
  rw [if_neg (Nat.not_lt_zero r),hg]
theorem zr4 (l:List Sp) (hl:l.length≤140737488355328):EPure prog G0 79 [kJ l] fun v=>v= .ts 1 ((fJ (fH l)).map fun b=>[bo b]):=by
  refine ECall.cutW (R:=fun v h=>v= .ms 0 0 1 64∧h=[.var 4 ((fJ (fH l)).map bo)]) (pv func79 36 false (by kernel_rfl) rfl rfl ?_) ?_
  refine g2 ?_
  · refine ge ?_
    have h0:List.replicate 64 (bo false)=(fJ fun _=>false).map bo:=rfl
    refine zO l.length (K4 (.v:: .d:: .k::D9 (D9 (D9 (.d:: .k::[]))))) (own:=false) (fun i (F:Nat→Bool)=>[i64 i]) (fun F=>[.var 4 ((fJ F).map bo)]) (fun i F=> ∀ m,m<64→F m=fH (l.take i) m) (fun _=>false) rfl rfl (fun m _=>rfl) hl ?_ ?_
    · rintro F hI
      refine gm ?_
      refine gf @zM ?_
      rw [List.take_length] at hI
      exact ⟨rfl,by rw [ztM hI]⟩
    · rintro i F hi hw hI
      refine gm ?_
      have hx:=zG (f:=Sp.c) [] hi
      have htk: ∀ m,fH (l.take (i+1)) m=(fH (l.take i) m||xT l[i] m):=fun m=>by
        unfold fH
        rw [List.take_succ_eq_append_getElem hi,List.any_append];simp
      generalize l[i]=x at*
      obtain ⟨a,b⟩:=x
      obtain ⟨k0,hk0,hkl⟩: ∃ k0:Nat,(if a<0 then (0:Int) else a)=k0∧k0=a.toNat:=by
        by_cases h:a<0
        · exact ⟨0,by rw [if_pos h];rfl,by omega⟩
        · exact ⟨a.toNat,by rw [if_neg h];omega,rfl⟩
      refine gf (a4 @hi @hx @zB @hk0) ?_
      refine zW (K4 (.k:: .v::K9 (K4 (D9 (D4 (.d:: .d:: .d:: .k::[])))))) (fun (s:Nat×(Nat→Bool))=>[i64 s.1]) (fun s=>[.var 4 ((fJ s.2).map bo)]) (fun s=>k0≤s.1∧(s.1=k0∨s.1≤64∧(s.1:Int)≤b)∧ ∀ m,m<64→s.2 m=(F m||(decide (k0≤m)&&decide (m<s.1)))) (fun s=>64-s.1) (own:=false) (k0,F) rfl rfl ⟨Nat.le_refl _,.inl rfl,fun m _=>by by_cases h:k0≤m<;>simp [h]<;>omega⟩ ?_
      rintro ⟨k,G⟩ ⟨hkk,hkor,hG⟩ t ht
      dsimp only at*
      simp only [zY] at ht;subst ht
      have fin: ¬((k:Int)<b∧k<64)→ ∀ m,m<64→G m=fH (l.take (i+1)) m:=fun hn m hm=>by
        rw [hG m hm,htk,hI m hm]
        congr 1
        unfold xT
        rw [Bool.eq_iff_iff]
        simp only [Bool.and_eq_true,decide_eq_true_eq]
        omega
      by_cases h1:(k:Int)<b
      · have e1:decide ((k:Int)<b)=true:=by simp [h1]
        by_cases h2:k<64
        · have e2:decide ((k:Int)<64)=true:=by simp;omega
          have hk6:((k:Int)<64)=True:=by simp;omega
          have hwr:IntKind.i64.wrap ((k:Int)+1)=((k+1:Nat):Int):=by rw [xM (by omega) (by omega)];omega
          have hsp:((fJ G).map bo).take k++bo true::((fJ G).map bo).drop (k+1)=(fJ fun j=>G j||decide (j=k)).map bo:=by
            rw [←zt9 G h2];exact wY bo (fJ G) k true (by rw [iY];exact h2)
          have hln:=iY G
          refine gf (a9 @hi @hx @zB @e1 @e2 @hk6 @h2 @hwr (a2 @hsp @hln)) ?_
          refine ⟨(k+1,fun j=>G j||decide (j=k)),⟨by dsimp only;omega,.inr ⟨by dsimp only;omega,by dsimp only;omega⟩,fun m hm=> ?_⟩,by dsimp only;omega,rfl,rfl,rfl⟩
          dsimp only
          rw [hG m hm,Bool.or_assoc]
          congr 1
          rw [Bool.eq_iff_iff]
          simp only [Bool.or_eq_true,Bool.and_eq_true,decide_eq_true_eq]
          omega
        · have e2:decide ((k:Int)<64)=false:=by simp;omega
          refine gf (a6 @hi @hx @zB @e1 @e2 @hw) ?_
          exact ⟨G,fin (by omega),rfl,rfl,rfl⟩
      · have e1:decide ((k:Int)<b)=false:=by simp [h1]
        refine gf (a5 @hi @hx @zB @e1 @hw) ?_
        exact ⟨G,fin (by omega),rfl,rfl,rfl⟩
  · rintro v h ⟨rfl,rfl⟩
    refine ⟨_,?_,rfl,yP 40 _ (all_map fun _=>rfl)⟩
    have e:=zuR (h:=[.var 4 ((fJ (fH l)).map bo)]) (r:=0) (n:=64) (t:=4) (cs:=(fJ (fH l)).map bo) rfl
    have e2:((fJ (fH l)).map bo).map (fz 0 [.var 4 ((fJ (fH l)).map bo)] 39)=(fJ (fH l)).map bo:=by
      rw [List.map_map];exact List.map_congr_left fun b _=>rfl
    have e3:=lG ((fJ (fH l)).map bo)
    rw [List.length_map,iY,List.map_map] at e3
    rw [e,e2,e3]
    exact PLe.refl _
def zuB (l:List Sp):PV:=if l=[] then .nil else .vec 0 2 (l.map Sp.c)
def zsA (l:List Sp):Heap:=if l=[] then [] else [.vec 36 2 l.length]
theorem zuN (l:List Sp):PLe (zuB l) (kJ l):=by
  unfold zuB
  split
  · rename_i h;subst h;exact PLe.nil_ts 2
  · exact PLe.vec_ts _ _ _
theorem zsO (l:List Sp) (x:Sp):zuB (l++[x])= .vec 0 2 (l.map Sp.c++[x.c]):=by
  unfold zuB;rw [if_neg (by simp),List.map_append];rfl
theorem znQ (l:List Sp) (x:Sp):zsA (l++[x])=[.vec 36 2 (l++[x]).length]:=if_neg (by simp)
def frI:Option Nat→Int
  |none=> -1
  |some f=>f
theorem ztY (F:Nat→Bool):EPure prog G0 167 [.ts 1 ((fJ F).map fun b=>[bo b])] fun v=> ∃ l:List Sp,v=kJ l∧l.length≤65∧ ∀ m,fH l m=(decide (m<64)&&F m):=by
  refine ECall.cutW (R:=fun v _=> ∃ l:List Sp,v=zuB l∧l.length≤65∧ ∀ m,fH l m=(decide (m<64)&&F m)) (pv func167 38 false (by kernel_rfl) rfl rfl ?_) ?_
  refine g2 ?_
  · refine ge ?_
    refine zO 65 (.k:: .k:: .k:: .v:: .v:: .v::D9 (D9 (D9 (D4 (.k::[]))))) (own:=false) (fun i (s:List Sp×Option Nat)=>[zuB s.1,i64 (frI s.2),i64 i]) (fun s=>zsA s.1) (fun i s=>s.1.length≤i∧(∀ m,fH s.1 m=(decide (m<s.2.getD i)&&(decide (m<64)&&F m)))∧(∀ f,s.2=some f→f<i∧ ∀ m,f≤m→m<i→F m=true∧m<64)∧(i=65→s.2=none)) ([],none) rfl rfl ⟨by simp,fun m=>by simp,by simp,by simp⟩ (by omega) ?_ ?_
    · rintro ⟨l,o⟩ ⟨i1,i2,i3,i4⟩ t ht
      dsimp only at*
      simp only [zY] at ht;subst ht
      obtain rfl:=i4 rfl
      have h65:decide (((65:Nat):Int)≤64)=false:=by decide
      refine gf @h65 ?_
      refine ⟨l,rfl,i1,fun m=> ?_⟩
      rw [i2 m,Option.getD_none,Bool.eq_iff_iff]
      simp only [Bool.and_eq_true,decide_eq_true_eq]
      constructor
      · exact fun h=>h.2
      · exact fun h=>⟨by omega,h⟩
    · rintro i ⟨l, o⟩ hi hw ⟨i1, i2, i3, i4⟩ t ht
      dsimp only at*
      simp only [zY] at ht;subst ht
      have e64:decide ((i:Int)≤64)=true:=by simp;omega
      have hsc0:decide (frI none<0)=true:=rfl
      have hsc: ∀ f,decide (frI (some f)<0)=false:=fun f=>by show decide ((f:Int)<0)=false;simp
      have hsd0:decide (0≤frI none)=false:=rfl
      have hsd: ∀ f,decide (0≤frI (some f))=true:=fun f=>by show decide (0≤(f:Int))=true;simp
      by_cases hin:i<64∧F i=true
      · obtain ⟨h64,hF⟩:=hin
        have e2:decide ((i:Int)<64)=true:=by simp;omega
        have hib:i<(fJ F).length:=by rw [iY];exact h64
        have hx:=zG (f:=fun b=>[bo b]) [] hib
        rw [zc3 F hib,hF] at hx
        have hln:=iY F
        have hk6:((i:Int)<64)=True:=by simp;omega
        cases o with
        | none=>
          refine gf (a9 @e64 @e2 @hib @hx @hln @hk6 @h64 @zB (a3 @hsc @hsc0 @hw)) ?_
          refine ⟨(l,some i),⟨by dsimp only;omega,fun m=> ?_,fun f hf=> ?_,fun e=>absurd e (by omega)⟩,rfl,rfl,rfl⟩
          · rw [i2 m];rfl
          · injection hf with hf;subst hf
            exact ⟨by omega, fun m h1 h2 => by have:m=i:=by omega
                                               subst this;exact ⟨hF,h64⟩⟩
        | some f=>
          obtain ⟨f1,f2⟩:=i3 f rfl
          refine gf (a9 @e64 @e2 @hib @hx @hln @hk6 @h64 @zB (a3 @hsc @hsc0 @hw)) ?_
          refine ⟨(l,some f),⟨by dsimp only;omega,fun m=> ?_,fun g hf=> ?_,fun e=>absurd e (by omega)⟩,rfl,rfl,rfl⟩
          · rw [i2 m];rfl
          · injection hf with hf;subst hf
            refine ⟨by omega,fun m h1 h2=> ?_⟩
            rcases Nat.lt_or_ge m i with q|q
            · exact f2 m h1 q
            · have:m=i:=by omega
              subst this;exact ⟨hF,h64⟩
      · have hnx: ∀ m,(decide (m<i+1)&&(decide (m<64)&&F m))=(decide (m<i)&&(decide (m<64)&&F m)):=fun m=>by
          by_cases hm:m=i
          · subst hm
            have:(decide (m<64)&&F m)=false:=by
              rw [Bool.eq_false_iff];intro q
              simp only [Bool.and_eq_true,decide_eq_true_eq] at q
              exact hin q
            rw [this,Bool.and_false,Bool.and_false]
          · congr 1
            rw [Bool.eq_iff_iff];simp only [decide_eq_true_eq];omega
        have hgo:(i<64∧F i=false)∨ ¬i<64:=by
          by_cases h:i<64
          · exact .inl ⟨h,Bool.eq_false_iff.2 fun q=>hin ⟨h,q⟩⟩
          · exact .inr h
        have hln:=iY F
        have keep:o=none→l.length≤i+1∧(∀ m,fH l m=(decide (m<(none:Option Nat).getD (i+1))&&(decide (m<64)&&F m))):=fun e=>by
          subst e
          exact ⟨by omega,fun m=>by rw [i2 m];exact (hnx m).symm⟩
        have cut: ∀ f,o=some f→(l++[(⟨(f:Int),(i:Int)⟩:Sp)]).length≤i+1∧(∀ m,fH (l++[⟨(f:Int),(i:Int)⟩]) m=(decide (m<(none:Option Nat).getD (i+1))&&(decide (m<64)&&F m))):=fun f e=>by
          obtain ⟨f1,f2⟩:=i3 f e
          subst e
          refine ⟨by simp;omega,fun m=> ?_⟩
          have:fH (l++[⟨(f:Int),(i:Int)⟩]) m=(fH l m||xT (⟨f,i⟩:Sp) m):=by unfold fH;rw [List.any_append];simp
          rw [this,i2 m,Option.getD_none,hnx m]
          by_cases hm:f≤m∧m<i
          · obtain ⟨q1,q2⟩:=f2 m hm.1 hm.2
            have q3:xT ⟨(f:Int),(i:Int)⟩ m=true:=by unfold xT;simp only [decide_eq_true_eq];omega
            rw [q3,q1,Bool.or_true,decide_eq_true hm.2,decide_eq_true q2];rfl
          · have q3:xT ⟨(f:Int),(i:Int)⟩ m=false:=by unfold xT;simp only [decide_eq_false_iff_not];omega
            rw [q3,Bool.or_false]
            congr 1
            rw [Bool.eq_iff_iff];simp only [decide_eq_true_eq,Option.getD_some];omega
        have hlen:l.length≤65:=by omega
        rcases hgo with ⟨h64,hF⟩|h64
        · have e2:decide ((i:Int)<64)=true:=by simp;omega
          have hib:i<(fJ F).length:=by rw [iY];exact h64
          have hx:=zG (f:=fun b=>[bo b]) [] hib
          rw [zc3 F hib,hF] at hx
          have hk6:((i:Int)<64)=True:=by simp;omega
          cases o with
          | none=>
            refine gf (a9 @e64 @e2 @hib @hx @hln @hk6 @h64 @zB (a3 @hsd @hsd0 @hw)) ?_
            exact ⟨(l,none),⟨(keep rfl).1,(keep rfl).2,fun f hf=>(by cases hf),fun _=>rfl⟩,rfl,rfl,rfl⟩
          | some f=>
            by_cases hl0:l=[]
            · subst hl0
              (repeat (first|refine gz ?_|(refine gn ?_;intro zs zh;(try simp only [go_sem,e64,e2,hib,hx,hln,hk6,h64,zB,hsd,hsd0,hw,zuB,zsA] at zh);subst zh;refine gv ?_)))
              exact ⟨([⟨f,i⟩],none),⟨(cut f rfl).1,(cut f rfl).2,fun f hf=>(by cases hf),fun _=>rfl⟩,rfl,rfl,rfl⟩
            · have g1:zuB l= .vec 0 2 (l.map Sp.c):=if_neg hl0
              have g2:zsA l=[.vec 36 2 l.length]:=if_neg hl0
              refine gf (a9 @e64 @e2 @hib @hx @hln @hk6 @h64 @zB (a5 @hsd @hsd0 @hw @g1 @g2)) ?_
              refine ⟨(l++[⟨f,i⟩],none),⟨(cut f rfl).1,(cut f rfl).2,fun f hf=>(by cases hf),fun _=>rfl⟩,?_,?_,?_⟩
              · simp only [zY,xJ,List.tail_cons]
                rw [zsO];rfl
              · simp only [zY,xJ,List.tail_cons]
              · rw [znQ,List.length_append];rfl
        · have e2:decide ((i:Int)<64)=false:=by simp;omega
          cases o with
          | none=>
            refine gf (a6 @e64 @e2 @zB @hsd @hsd0 @hw) ?_
            exact ⟨(l,none),⟨(keep rfl).1,(keep rfl).2,fun f hf=>(by cases hf),fun _=>rfl⟩,rfl,rfl,rfl⟩
          | some f=>
            by_cases hl0:l=[]
            · subst hl0
              (repeat (first|refine gz ?_|(refine gn ?_;intro zs zh;(try simp only [go_sem,e64,e2,zB,hsd,hsd0,hw,zuB,zsA] at zh);subst zh;refine gv ?_)))
              exact ⟨([⟨f,i⟩],none),⟨(cut f rfl).1,(cut f rfl).2,fun f hf=>(by cases hf),fun _=>rfl⟩,rfl,rfl,rfl⟩
            · have g1:zuB l= .vec 0 2 (l.map Sp.c):=if_neg hl0
              have g2:zsA l=[.vec 36 2 l.length]:=if_neg hl0
              refine gf (a8 @e64 @e2 @zB @hsd @hsd0 @hw @g1 @g2) ?_
              refine ⟨(l++[⟨f,i⟩],none),⟨(cut f rfl).1,(cut f rfl).2,fun f hf=>(by cases hf),fun _=>rfl⟩,?_,?_,?_⟩
              · simp only [zY,xJ,List.tail_cons]
                rw [zsO];rfl
              · simp only [zY,xJ,List.tail_cons]
              · rw [znQ,List.length_append];rfl
  · rintro v h ⟨l,rfl,h1,h2⟩
    refine ⟨kJ l,?_,⟨l,rfl,h1,h2⟩,yP 40 _ (zkI l)⟩
    unfold zuB
    split
    · rename_i e;subst e
      rw [iQ];exact PLe.nil_ts 2
    · rw [rF (all_map fun _=>rfl)];exact PLe.refl _
theorem zuJ (l:List Sp) (hl:l.length≤140737488355328):EPure prog G0 124 [kJ l] fun v=> ∃ x:List Sp,v=kJ x∧x.length≤65∧uQ x=uQ l:=by
  refine ECall.cutW (R:=fun v _=> ∃ x:List Sp,v=kJ x∧x.length≤65∧uQ x=uQ l) (pv func124 6 false (by kernel_rfl) rfl rfl ?_) ?_
  refine g2 ?_
  rotate_left
  · rintro p h ⟨x,rfl,hx⟩
    exact ⟨kJ x,by rw [vE 0 h 40 _ (zkI x)];exact PLe.refl _,⟨x,rfl,hx⟩,yP 40 _ (zkI x)⟩
  refine ge ?_
  (refine Go.AL.g1 ?_;refine zC ((zr4 l hl).call zK (by simp) _) ?_;intro p2 h2 hr2;refine Go.AL.g2 ?_)
  obtain ⟨rfl,rfl⟩:=hr2
  refine ge ?_
  (refine Go.AL.g1 ?_;refine zC ((ztY (fH l)).call zK (by simp) _) ?_;intro p2 h2 hr2;refine Go.AL.g2 ?_)
  obtain ⟨⟨x,rfl,h1,h2⟩,rfl⟩:=hr2
  refine ge ?_
  refine ⟨x,rfl,h1,Nat.eq_of_testBit_eq fun m=> ?_⟩
  rw [zoQ,zoQ]
  show fH x m=fH l m
  rw [h2 m]
  by_cases hm:m<64
  · rw [decide_eq_true hm];rfl
  · rw [decide_eq_false hm,Bool.false_and]
    symm
    unfold fH
    rw [List.any_eq_false]
    intro s _ q
    unfold xT at q
    simp only [decide_eq_true_eq] at q
    exact hm q.1
theorem ztD (l:List Sp) (hl:l.length≤140737488355328) (m:Int):EPure prog G0 54 [kJ l,i64 m] fun v=>v=bo (decide (0≤m)&&(decide (m<64)&&(uQ l).testBit m.toNat)):=by
  refine ECall.cut (R:=fun v _=>v=bo (decide (0≤m)&&(decide (m<64)&&(uQ l).testBit m.toNat))) (pv func54 18 false (by kernel_rfl) rfl rfl ?_) (by rintro p h rfl;rfl)
  refine g2 ?_
  by_cases h1:0≤m
  case neg=>
    have e1:decide (0≤m)=false:=by simp;omega
    rw [e1]
    refine gf @e1 ?_
    rfl
  have e1:decide (0≤m)=true:=by simp [h1]
  by_cases h2:m<64
  case neg=>
    have e3:decide (m<64)=false:=by simp;omega
    rw [e1,e3]
    refine gf (a2 @e1 @e3) ?_
    rfl
  have e3:decide (m<64)=true:=by simp [h2]
  obtain ⟨k,rfl⟩:=Int.eq_ofNat_of_zero_le h1
  have hk:k<64:=by omega
  rw [e1,e3,Int.toNat_natCast,zoQ]
  have hib:k<(fJ (fH l)).length:=by rw [iY];exact hk
  have hx:=zG (f:=fun b=>[bo b]) [] hib
  rw [zc3 _ hib] at hx
  have hln:=iY (fH l)
  have hk6:((k:Int)<64)=True:=by simp;omega
  refine gf (a2 @e1 @e3) ?_
  (refine Go.AL.g1f (a2 @e1 @e3) ?_;refine zC ((zr4 l hl).call zK (by simp) _) ?_;intro p2 h2 hr2;refine Go.AL.g2 ?_)
  obtain ⟨rfl,rfl⟩:=hr2
  refine gf (a8 @e1 @e3 @hib @hx @hln @hk6 @hk @zB) ?_
  rfl
end Go.AL
namespace Go.AL
open Go.Proofs Go.Proofs.Tryz
theorem ztW (r:List Rw) (hr:r.length≤1048576) (hs: ∀ x∈r,x.w≠[]∧x.w.length≤64) (args:List Vl) (ha:args.length≤140737488355328) (hss: ∀ v∈args,v.s.size≤140737488355328):
  EPure prog G0 78 [uN r,pH args] fun v=> ∃ s:List Sp,v=kJ s∧s.length≤65∧ ∀ m,(uQ s).testBit m=r.any fun x=>ze8 (x.args=args)&&(uQ x.w).testBit m:=by
 refine ECall.cutW (R:=fun v _=> ∃ s:List Sp,v=kJ s∧s.length≤65∧ ∀ m,(uQ s).testBit m=r.any fun x=>ze8 (x.args=args)&&(uQ x.w).testBit m) (pv func78 30 false (by kernel_rfl) rfl rfl ?_) ?_
 refine g2 ?_
 rotate_left
 ·rintro p h ⟨x,rfl,hx⟩
  exact ⟨kJ x,by rw [vE 0 h 40 _ (zkI x)];exact PLe.refl _,⟨x,rfl,hx⟩,yP 40 _ (zkI x)⟩
 refine ge ?_
 refine zO r.length (K4 (.k:: .v:: .v::D9 (D9 (.d:: .d:: .d:: .k:: .k::[])))) (own:=false) (fun i (l:List Sp)=>[zuB l,i64 i]) (fun l=>zsA l) (fun i l=>l.length≤64*i∧ ∀ m,fH l m=(r.take i).any fun x=>ze8 (x.args=args)&&(uQ x.w).testBit m) [] rfl rfl ⟨by simp,fun m=>rfl⟩ (by omega) ?_ ?_
 ·rintro l ⟨i1,i2⟩
  refine gm ?_
  refine gf @zM ?_
  (refine Go.AL.g1 ?_;refine zC (((zuJ l (by omega)).call zK (by simp) _).args (.cons (zuN l) .nil)) ?_;intro p2 h2 hr2;refine Go.AL.g2 ?_)
  obtain ⟨⟨x,rfl,h1,h2⟩,rfl⟩:=hr2
  refine ge ?_
  refine ⟨x,rfl,h1,fun m=> ?_⟩
  rw [h2,zoQ]
  rw [List.take_length] at i2
  exact i2 m
 ·rintro i l hi hw ⟨i1,i2⟩
  refine gm ?_
  have hx:=zG (f:=Rw.c) [] hi
  obtain ⟨w0,w1⟩:=hs _ (List.getElem_mem hi)
  have htk: ∀ m,((r.take (i+1)).any fun x=>ze8 (x.args=args)&&(uQ x.w).testBit m)=(((r.take i).any fun x=>ze8 (x.args=args)&&(uQ x.w).testBit m)||(ze8 (r[i].args=args)&&(uQ r[i].w).testBit m)):=fun m=>by
   rw [List.take_succ_eq_append_getElem hi,List.any_append];simp
  generalize r[i]=x at*
  refine gf (a4 @hi @hx @hw @zB) ?_
  (refine Go.AL.g1f (a4 @hi @hx @hw @zB) ?_;refine zC ((zq4 args x.args ha hss).call zK (by simp) _) ?_;intro p2 h2 hr2;refine Go.AL.g2 ?_)
  obtain ⟨⟨n,rfl,hn⟩,rfl⟩:=hr2
  by_cases hq:args=x.args
  ·have h0:=hn.2 hq
   subst h0
   have h0:((0:Int)==0)=true:=rfl
   have hd:ze8 (x.args=args)=true:=pO hq.symm
   have keep: ∀ m,fH (l++x.w) m=(r.take (i+1)).any fun x=>ze8 (x.args=args)&&(uQ x.w).testBit m:=fun m=>by
    rw [htk,hd, ←i2 m,Bool.true_and,zoQ]
    unfold fH
    rw [List.any_append]
   obtain ⟨y,w,hyw⟩: ∃ y w,x.w=y::w:=by
    cases h:x.w with
    |nil=>exact absurd h w0
    |cons y w=>exact ⟨y,w,rfl⟩
   have hsz:l.length+x.w.length≤67108928:=by omega
   have hwl:w.length+1≤64:=by have:=congrArg List.length hyw;simp at this;omega
   by_cases hl0:l=[]
   ·subst hl0
    have g1:zuB []= .nil:=rfl
    have g2:zsA []=[]:=rfl
    rw [g1,g2]
    refine gf (a6 @hi @hx @hw @zB @h0 @hyw) ?_
    exact ⟨x.w,⟨by rw [hyw];simp;omega,keep⟩,by simp only [zY,xJ,List.tail_cons];rw [hyw];rfl,rfl,by rw [hyw];rfl⟩
   ·have g1:zuB l= .vec 0 2 (l.map Sp.c):=if_neg hl0
    have g2:zsA l=[.vec 36 2 l.length]:=if_neg hl0
    have hl64:l.length≤67108864:=by omega
    rw [g1,g2]
    refine gf (a6 @hi @hx @hw @zB @h0 @hyw) ?_
    refine ⟨l++x.w,⟨by rw [hyw];simp;omega,keep⟩,?_,rfl,?_⟩
    ·simp only [zY,xJ,List.tail_cons]
     rw [hyw];unfold zuB;rw [if_neg (by simp),List.map_append];rfl
    ·rw [hyw];unfold zsA;rw [if_neg (by simp),List.length_append];rfl
  ·have hn0:n≠0:=fun e=>hq (hn.1 e)
   have h0:(n==0)=false:=by simp [hn0]
   have hd:ze8 (x.args=args)=false:=uA fun e=>hq e.symm
   refine gf (a3 @hw @zB @h0) ?_
   exact ⟨l,⟨by omega,fun m=>by rw [htk,hd,i2 m,Bool.false_and,Bool.or_false]⟩,rfl,rfl,rfl⟩
end Go.AL
