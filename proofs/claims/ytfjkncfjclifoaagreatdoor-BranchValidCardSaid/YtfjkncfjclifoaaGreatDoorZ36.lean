/-
  Intervals, plainly: words, canonical lists of spans, and how they answer each other.
-/
import Derived.Test.YtfjkncfjclifoaaGreatDoorZ35
set_option linter.unusedSimpArgs false
set_option linter.unusedVariables false
set_option maxRecDepth 100000
set_option maxHeartbeats 4000000
namespace Go.AL
open Go.Proofs Go.Proofs.Tryz
structure Dt.sz (d:Dt):Prop where
 rl:d.rels.length≤1048576
 ll:d.lats.length≤1048576
 r: ∀ r∈d.rels,r.length≤4096∧ ∀ x∈r,x.lt
 l: ∀ r∈d.lats,r.length≤4096∧ ∀ x∈r,x.args.length≤1099511627776∧x.cs.length≤1099511627776
 s: ∀ r∈d.lats, ∀ x∈r, ∀ a∈x.args,a.s.size≤140737488355328
def nX (l:List Op1):Prop:=(l.length≤20∨60<l.length∧l.length≤100)∧ ∀ x∈l,x.args.length≤10
abbrev znO:Dt:=⟨[],[]⟩
structure OpsG (l:List Op1):Prop where
 s:l.length≤20∨60<l.length∧l.length≤100
 o: ∀ x∈l,x.ok
theorem OpsG.of {l:List Op1} (h:nX l) (k: ∀ x∈l, ∀ a∈x.args,a.ok):OpsG l:=⟨h.1,fun x hx=>⟨by have:=h.2 x hx;omega,k x hx⟩⟩
end Go.AL
namespace Go.AL
open Go.Proofs Go.Proofs.Tryz
@[go_sem] def UBas2f18.pl:Nat→DPlan
 |6=>⟨[yA,yB,yA,yA,yB,yA,yB,yA,yA,yB,yA,yA],xF,0⟩
 |12=>⟨[yA,yA,yA,yA,yA,yB,yA,yB,yA,yB,yA,yB,yA,yC,yA,yA],xE,0⟩
 |_=>⟨[],[],0⟩
abbrev Pg.sm (p:Pg):Prop:= ∀ x∈p.lats,x.elems.length≤1048576∧x.covers.length≤1048576
end Go.AL
namespace Go.AL
open Go.Proofs Go.Proofs.Tryz
@[go_sem] def URsx1f226.pl:Nat→DPlan
 |4=>⟨[yA,yA,yA,yA,yA,yA,yA,yA,yB,yA,yA,yA,yA,yB,yC,yA,yA],wR,0⟩
 |6=>⟨[yA,yA,yA,yA,yA,yA,yA,yA,yA,yB,yA,yA,yA,yB,yA,yC,yA,yC],yM,0⟩
 |_=>⟨[],[],0⟩
@[go_sem] def URsx1f227.pl:Nat→DPlan
 |5=>⟨[yA,yA,yA,yA,yB,yA,yA,yA,yB,yC,yA],vJ,0⟩
 |11=>⟨[yA,yA,yA,yA,yA,yA,yA,yA,yA,yB,yA,yA,yA,yB,yA,yC,yA,yC],yM,0⟩
 |17=>⟨[yA,yA,yA,yA,yB,yA,yA,yA,yB,yC,yA,yA],xF,0⟩
 |23=>⟨[yA,yA,yA,yA,yA,yA,yA,yA,yA,yB,yA,yA,yA,yB,yA,yC,yA,yC],yM,0⟩
 |35=>⟨[yA,yA,yA,yA,yA,yA,yB,yA,yA,yA,yB,yC,yA,yA],wS,0⟩
 |_=>⟨[],[],0⟩
def SoR (l:List Rw):Prop:= ∀ (i j:Nat) (hij:i<j) (hj:j<l.length),sD (l[i]'(Nat.lt_trans hij hj)).args l[j].args<0
theorem eO {a b:List Vl} (h:sD a b<0): ¬sD b a<0:=by rw [zqQ.s a b];omega
open URsx1f226 in
theorem zoU (l:List Rw) (hl:l.length≤70368744177664) (hok: ∀ x∈l,x.ok) (hso:SoR l) (a b:Nat) (ha:a≤l.length) (hb:b≤l.length) (h:Heap) (r:Nat) (hr:h[r]? =some (.var 76 (xI l))):
  ECall prog G0 226 [.ms r 0 2 l.length,i64 a,i64 b,kP] h fun _ h'=>h'=h:=by
 refine pv func226 53 false (by kernel_rfl) rfl rfl ?_
 refine g2 ?_
 have hw0:IntKind.i64.wrap ((a:Int)+1)=((a+1:Nat):Int):=by rw [xM (by omega) (by omega)];rfl
 refine gf @hw0 ?_
 refine zW (K4 (K4 (.v:: .d:: .k:: .k::D9 (D9 (D9 (D9 (D4 (.d::[])))))))) (fun (s:Nat)=>[i64 s]) (fun s=>h) (fun s=>a<s∧s≤l.length+1) (fun s=>l.length+1-s) (own:=false) (a+1) rfl rfl ⟨by omega,by omega⟩ ?_
 rintro i ⟨hi0,hi⟩
 refine gm ?_
 by_cases hib:i<b
 ·have hb1:((i:Int)<(b:Int)):=by omega
  refine gf @hb1 ?_
  refine zW (K9 (.v::K4 (K4 (D9 (D9 (D9 (D4 (D4 ([]))))))))) (fun (s:Nat)=>[i64 s]) (fun s=>h) (fun s=>s=i) (fun s=>s) (own:=false) i rfl rfl rfl ?_
  rintro j hj t ht
  subst hj
  simp only [zY] at ht;subst ht
  have hjb:((a:Int)<(j:Int)):=by omega
  have hj2:j<l.length:=by omega
  have hj3:j-1<l.length:=by omega
  have hw1:IntKind.i64.wrap ((j:Int)-1)=((j-1:Nat):Int):=by rw [xM (by omega) (by omega)];omega
  have g1:=xG l j hj2
  have g2:=xG l (j-1) hj3
  have hby:=uS l[j] l[j-1] (hok _ (List.getElem_mem hj2)) (hok _ (List.getElem_mem hj3))
  have hneg:=eO (hso (j-1) j (by omega) hj2)
  generalize l[j]=x at*
  generalize l[j-1]=y at*
  generalize hc:sD x.args y.args=c at*
  (repeat (first|refine gz ?_|(refine gn ?_;intro zs zh;(try simp only [go_sem,hjb,hr,hw1,g1,g2,xK,zB,hj2,hj3,hneg] at zh);subst zh;(first|refine gv ?_|((first|refine zC (hby.call zK (by simp [zJ]) _) ?_|refine zP (by decide) (by decide) (hby.call zK (by simp [zJ]) _) ?_);intro p2 h2 hr2;obtain ⟨hr2,rfl⟩:=hr2;first|obtain ⟨_,rfl,hr2⟩:=hr2|obtain ⟨_,rfl⟩:=hr2|subst hr2|skip)))|refine yD URsx1f226.pl ?_))
  have hwi:IntKind.i64.wrap ((j:Int)+1)=((j+1:Nat):Int):=by rw [xM (by omega) (by omega)];rfl
  exact ⟨j+1,⟨by (try dsimp only);omega,by (try dsimp only);omega⟩,by (try dsimp only);omega,by simp only [zY,xJ,List.tail_cons];rw [hwi],rfl,rfl⟩
 ·have hb1: ¬((i:Int)<(b:Int)):=by omega
  refine gf @hb1 ?_
  rfl
def SymS (l:List Rw) (a m b:Nat):Prop:= ∀ (h:Heap) (r:Nat) (hr:h[r]? =some (.var 76 (xI l))),
  ECall prog G0 227 [.ms r 0 2 l.length,i64 a,i64 m,i64 b,kP] h fun _ h'=>h'=h
open URsx1f227 in
theorem zrR (l:List Rw) (hl:l.length≤70368744177664) (hok: ∀ x∈l,x.ok) (hso:SoR l) (a m b:Nat) (ham:a<m) (hmb:m<b) (hb:b≤l.length) (hm1:m-a=1):SymS l a m b:=by
 intro h r hr
 refine pv func227 220 false (by kernel_rfl) rfl rfl ?_
 refine g2 ?_
 have w1:IntKind.i64.wrap ((m:Int)-a)=((m-a:Nat):Int):=by rw [xM (by omega) (by omega)];omega
 have e1:(((m-a:Nat):Int)==1)=true:=by simp [hm1]
 refine gf (a2 @w1 @e1) ?_
 refine zW (K9 (.k:: .v:: .v:: .d::K9 (K9 (D9 (D9 (D4 (.d::K9 (K9 (K9 (K9 (K9 (K9 (K9 (K9 (K9 (K9 (K9 (K9 (K9 (K9 (K9 (K9 (K9 (K9 (K4 ([])))))))))))))))))))))))))) (fun (s:Nat)=>[i64 m,i64 s]) (fun s=>h) (fun s=>m≤s∧s≤b) (fun s=>s) (own:=false) b rfl rfl ⟨by omega,by omega⟩ ?_
 rintro j ⟨hij,hj⟩
 refine gm ?_
 by_cases hlt:m<j
 ·have hlt1:(m:Int)<(j:Int):=by omega
  have hm:IntKind.i64.wrap ((m:Int)+j)=((m+j:Nat):Int):=by rw [xM (by omega) (by omega)];omega
  have hu:IntKind.u64.wrap ((m+j:Nat):Int)=((m+j:Nat):Int):=by rw [IntKind.wrap_u64];omega
  have hsh:=zeU (m+j)
  have hc:IntKind.i64.wrap ((((m+j) / 2:Nat):Int))=(((m+j) / 2:Nat):Int):=zeR (by omega)
  have k1:(m+j) / 2<l.length:=by omega
  have k2:a<l.length:=by omega
  have gx:=xG l ((m+j) / 2) k1
  have gy:=xG l (a) k2
  have hby:=uS l[(m+j) / 2] l[a] (hok _ (List.getElem_mem k1)) (hok _ (List.getElem_mem k2))
  have hneg:=eO (hso a ((m+j) / 2) (by omega) k1)
  generalize l[(m+j) / 2]=x at*
  generalize l[a]=y at*
  generalize hcc:sD x.args y.args=c at*
  (repeat (first|refine gz ?_|(refine gn ?_;intro zs zh;(try simp only [go_sem,iS,rZ,hlt1,hm,hu,hsh,hc,hr,gx,gy,xK,zB,k1,k2,hneg] at zh);subst zh;(first|refine gv ?_|((first|refine zC (hby.call zK (by simp [zJ]) _) ?_|refine zP (by decide) (by decide) (hby.call zK (by simp [zJ]) _) ?_);intro p2 h2 hr2;obtain ⟨hr2,rfl⟩:=hr2;first|obtain ⟨_,rfl,hr2⟩:=hr2|obtain ⟨_,rfl⟩:=hr2|subst hr2|skip)))|refine yD URsx1f227.pl ?_))
  exact ⟨(m+j) / 2,⟨by (try dsimp only);omega,by (try dsimp only);omega⟩,by (try dsimp only);omega,rfl,rfl,rfl⟩
 ·have hlt1: ¬((m:Int)<(j:Int)):=by omega
  refine gf @hlt1 ?_
  have wi1:IntKind.i64.wrap ((m:Int)-1)=((m-1:Nat):Int):=by rw [xM (by omega) (by omega)];omega
  refine zW (K9 (K4 (.v::K9 (K9 (K9 (K9 (K4 (.k::D9 (D9 (D4 (K9 (K9 (K9 (K9 (K9 (K9 (K9 (K9 (K9 (K9 (K9 (K9 (K9 (K9 (K9 (K4 (K4 ([])))))))))))))))))))))))))))) (fun (s:Nat)=>[i64 s]) (fun s=>h) (fun s=>s=a) (fun s=>s) (own:=false) a rfl rfl rfl ?_
  rintro k rfl
  refine gm ?_
  have hg1: ¬((k:Int)<((m-1:Nat):Int)):=by omega
  refine gf (a2 @hg1 @wi1) ?_
  rfl
open URsx1f227 in
theorem zrQ (l:List Rw) (hl:l.length≤70368744177664) (hok: ∀ x∈l,x.ok) (hso:SoR l) (a m b:Nat) (ham:a<m) (hmb:m<b) (hb:b≤l.length) (hm1:m-a≠1) (hm2:b-m=1):SymS l a m b:=by
 intro h r hr
 refine pv func227 220 false (by kernel_rfl) rfl rfl ?_
 refine g2 ?_
 have w1:IntKind.i64.wrap ((m:Int)-a)=((m-a:Nat):Int):=by rw [xM (by omega) (by omega)];omega
 have w2:IntKind.i64.wrap ((b:Int)-m)=((b-m:Nat):Int):=by rw [xM (by omega) (by omega)];omega
 have e1:(((m-a:Nat):Int)==1)=false:=by simp;omega
 have e2:(((b-m:Nat):Int)==1)=true:=by simp [hm2]
 refine gf (a4 @w1 @w2 @e1 @e2) ?_
 refine zW (K9 (K4 (.k:: .v:: .v:: .d::K9 (K9 (K9 (K9 (K9 (K9 (K9 (.k:: .k:: .k::D9 (D9 (D4 (.d:: .d::K9 (K9 (K9 (K9 (K9 (K9 (K9 (K9 (K9 (K9 (K9 (K9 (K4 (.k::[])))))))))))))))))))))))))) (fun (s:Nat)=>[i64 s,i64 m]) (fun s=>h) (fun s=>a≤s∧s≤m) (fun s=>m-s) (own:=false) a rfl rfl ⟨by omega,by omega⟩ ?_
 rintro i ⟨hi,hij⟩
 refine gm ?_
 by_cases hlt:i<m
 ·have hlt1:(i:Int)<(m:Int):=by omega
  have hm:IntKind.i64.wrap ((i:Int)+m)=((i+m:Nat):Int):=by rw [xM (by omega) (by omega)];omega
  have hu:IntKind.u64.wrap ((i+m:Nat):Int)=((i+m:Nat):Int):=by rw [IntKind.wrap_u64];omega
  have hsh:=zeU (i+m)
  have hc:IntKind.i64.wrap ((((i+m) / 2:Nat):Int))=(((i+m) / 2:Nat):Int):=zeR (by omega)
  have hwc:IntKind.i64.wrap ((((i+m) / 2:Nat):Int)+1)=(((i+m) / 2+1:Nat):Int):=by rw [xM (by omega) (by omega)];rfl
  have k1:m<l.length:=by omega
  have k2:(i+m) / 2<l.length:=by omega
  have gx:=xG l (m) k1
  have gy:=xG l ((i+m) / 2) k2
  have hby:=uS l[m] l[(i+m) / 2] (hok _ (List.getElem_mem k1)) (hok _ (List.getElem_mem k2))
  have hneg:=eO (hso ((i+m) / 2) m (by omega) k1)
  generalize l[m]=x at*
  generalize l[(i+m) / 2]=y at*
  generalize hcc:sD x.args y.args=c at*
  (repeat (first|refine gz ?_|(refine gn ?_;intro zs zh;(try simp only [go_sem,iS,rZ,hlt1,hm,hu,hsh,hc,hwc,hr,gx,gy,xK,zB,k1,k2,hneg] at zh);subst zh;(first|refine gv ?_|((first|refine zC (hby.call zK (by simp [zJ]) _) ?_|refine zP (by decide) (by decide) (hby.call zK (by simp [zJ]) _) ?_);intro p2 h2 hr2;obtain ⟨hr2,rfl⟩:=hr2;first|obtain ⟨_,rfl,hr2⟩:=hr2|obtain ⟨_,rfl⟩:=hr2|subst hr2|skip)))|refine yD URsx1f227.pl ?_))
  exact ⟨(i+m) / 2+1,⟨by (try dsimp only);omega,by (try dsimp only);omega⟩,by (try dsimp only);omega,rfl,rfl,rfl⟩
 ·have hlt1: ¬((i:Int)<(m:Int)):=by omega
  refine gf @hlt1 ?_
  refine zW (K9 (K4 (K4 (.v::K9 (K9 (K9 (K9 (K9 (K9 (K9 (K9 (K9 (K9 (D9 (D9 (.d:: .d:: .d::K9 (K9 (K9 (K9 (K9 (K9 (K9 (K9 (K9 (K9 (.k::[])))))))))))))))))))))))))) (fun (s:Nat)=>[i64 s]) (fun s=>h) (fun s=>s=m) (fun s=>s) (own:=false) m rfl rfl rfl ?_
  rintro k rfl
  refine gm ?_
  have hg1: ¬((i:Int)<(k:Int)):=by omega
  refine gf @hg1 ?_
  rfl
open URsx1f227 in
theorem zrP (d:Nat) (ih: ∀ (l:List Rw) (_:l.length≤70368744177664) (_: ∀ x∈l,x.ok) (_:SoR l) (a m b:Nat) (_:b-a≤d) (_:a<m) (_:m<b) (_:b≤l.length),SymS l a m b) (l:List Rw) (hl:l.length≤70368744177664) (hok: ∀ x∈l,x.ok) (hso:SoR l) (a m b:Nat) (hd:b-a≤d+1) (ham:a<m) (hmb:m<b) (hb:b≤l.length) (hm1:m-a≠1) (hm2:b-m≠1):SymS l a m b:=by
 intro h r hr
 refine pv func227 220 false (by kernel_rfl) rfl rfl ?_
 refine g2 ?_
 have w1:IntKind.i64.wrap ((m:Int)-a)=((m-a:Nat):Int):=by rw [xM (by omega) (by omega)];omega
 have w2:IntKind.i64.wrap ((b:Int)-m)=((b-m:Nat):Int):=by rw [xM (by omega) (by omega)];omega
 have e1:(((m-a:Nat):Int)==1)=false:=by simp;omega
 have e2:(((b-m:Nat):Int)==1)=false:=by simp;omega
 have hm:IntKind.i64.wrap ((a:Int)+b)=((a+b:Nat):Int):=by rw [xM (by omega) (by omega)];omega
 have hu:IntKind.u64.wrap ((a+b:Nat):Int)=((a+b:Nat):Int):=by rw [IntKind.wrap_u64];omega
 have hsh:=zeU (a+b)
 have hc:IntKind.i64.wrap ((((a+b) / 2:Nat):Int))=(((a+b) / 2:Nat):Int):=zeR (by omega)
 have w3:IntKind.i64.wrap ((((a+b) / 2:Nat):Int)+m)=(((a+b) / 2+m:Nat):Int):=by rw [xM (by omega) (by omega)];omega
 have w4:IntKind.i64.wrap ((((a+b) / 2+m:Nat):Int)-1)=(((a+b) / 2+m-1:Nat):Int):=by rw [xM (by omega) (by omega)];omega
 obtain ⟨M,hM⟩: ∃ M,(a+b) / 2=M:=⟨_,rfl⟩
 have hMa:a≤M∧M≤b:=by omega
 rw [hM] at hsh hc w3 w4
 have search: ∀ (s0 R:Nat),a≤s0→s0≤R→R≤m→R≤M→M+m≤s0+b→ ∀ s:Nat,s0≤s→s<R→ ∃ (q c:Nat),M+m-1-(s+R) / 2=q∧(s+R) / 2=c∧ ∃ (k1:q<l.length) (k2:c<l.length),c<R∧s≤c∧ ¬sD l[q].args l[c].args<0:=fun s0 R h0 h1 h2 h3 h6 s h4 h5=>
  ⟨_,_,rfl,rfl,by omega,by omega,by omega,by omega,eO (hso _ _ (by omega) (by omega))⟩
 by_cases hgt:M<m
 ·have hgt1:((M:Nat):Int)<(m:Int):=by omega
  have w5:IntKind.i64.wrap (((M+m:Nat):Int)-b)=((M+m-b:Nat):Int):=by rw [xM (by omega) (by omega)];omega
  refine gf (a9 @w1 @w2 @e1 @e2 @iS @rZ @hm @hu (a6 @hsh @hc @w3 @w4 @w5 @hgt1)) ?_
  refine zW (K9 (K9 (.k:: .k:: .v:: .v:: .k:: .d::K9 (K9 (K9 (K9 (K9 (K9 (K9 (K9 (K9 (K9 (K9 (K9 (K9 (K4 (K4 (D9 (D9 (D4 (D4 (K9 (K9 (K9 (K9 (K9 ([]))))))))))))))))))))))))))) (fun (s:Nat)=>[i64 s,i64 M]) (fun s=>h) (fun s=>M+m-b≤s∧s≤M) (fun s=>M-s) (own:=false) (M+m-b) rfl rfl ⟨by omega,by omega⟩ ?_
  rintro s ⟨hi,hij⟩
  refine gm ?_
  clear hm hu hsh hc
  by_cases hlt:s<M
  ·have hlt1:(s:Int)<(M:Int):=by omega
   have hm:IntKind.i64.wrap ((s:Int)+M)=((s+M:Nat):Int):=by rw [xM (by omega) (by omega)];omega
   have hu:IntKind.u64.wrap ((s+M:Nat):Int)=((s+M:Nat):Int):=by rw [IntKind.wrap_u64];omega
   have hsh:=zeU (s+M)
   have hc:IntKind.i64.wrap ((((s+M) / 2:Nat):Int))=(((s+M) / 2:Nat):Int):=zeR (by omega)
   have hwc:IntKind.i64.wrap ((((s+M) / 2:Nat):Int)+1)=(((s+M) / 2+1:Nat):Int):=by rw [xM (by omega) (by omega)];rfl
   have hwp:IntKind.i64.wrap (((M+m-1:Nat):Int)-(((s+M) / 2:Nat):Int))=((M+m-1-(s+M) / 2:Nat):Int):=by rw [xM (by omega) (by omega)];omega
   obtain ⟨q,c,hqd,hcd,k1,k2,k3,k4,hneg⟩:=search (M+m-b) M (by omega) (by omega) (by omega) (by omega) (by omega) s hi hlt
   rw [hcd] at hsh hc hwc
   rw [hqd,hcd] at hwp
   have fin:M+m-b≤c+1∧c+1≤M∧M-(c+1)<M-s:=by omega
   clear search ih hcd hqd hM hMa w1 w2 e1 e2 w3 w4 k3 k4 hd ham hmb hb hm1 hm2 hgt hgt1 hi hij hlt
   have gx:=xG l q k1
   have gy:=xG l c k2
   have hby:=uS l[q] l[c] (hok _ (List.getElem_mem k1)) (hok _ (List.getElem_mem k2))
   generalize l[q]=x at*
   generalize l[c]=y at*
   generalize hcc:sD x.args y.args=cc at*
   (repeat (first|refine gz ?_|(refine gn ?_;intro zs zh;(try simp only [go_sem,iS,rZ,hlt1,hm,hu,hsh,hc,hwc,hwp,hr,gx,gy,xK,zB,k1,k2,hneg] at zh);subst zh;(first|refine gv ?_|((first|refine zC (hby.call zK (by simp [zJ]) _) ?_|refine zP (by decide) (by decide) (hby.call zK (by simp [zJ]) _) ?_);intro p2 h2 hr2;obtain ⟨hr2,rfl⟩:=hr2;first|obtain ⟨_,rfl,hr2⟩:=hr2|obtain ⟨_,rfl⟩:=hr2|subst hr2|skip)))|refine yD URsx1f227.pl ?_))
   exact ⟨c+1,⟨fin.1,fin.2.1⟩,fin.2.2,rfl,rfl,rfl⟩
  ·have:s=M:=by omega
   subst this
   have hlt1: ¬((s:Int)<(s:Int)):=by omega
   have we:IntKind.i64.wrap (((s+m:Nat):Int)-s)=((m:Nat):Int):=by rw [xM (by omega) (by omega)];omega
   have d1:((s:Int)<(m:Int)):=by omega
   have d2: ¬((m:Int)<(m:Int)):=by omega
   have d4:((m:Int)<(b:Int)):=by omega
   by_cases d5:a<s
   ·have d3:((a:Int)<(s:Int)):=by omega
    refine gf (a8 @hlt1 @we @d1 @d2 @d3 @d4 @hgt @zM) ?_
    (refine Go.AL.g1f (a4 @d1 @d2 @d4 @hgt) ?_;refine zC (ih l hl hok hso s m b (by omega) (by omega) (by omega) (by omega) h r hr) ?_;intro p2 h2 hr2;refine Go.AL.g2 ?_)
    subst hr2
    refine ge ?_
    rfl
   ·have d3: ¬((a:Int)<(s:Int)):=by omega
    refine gf (a8 @hlt1 @we @d1 @d2 @d3 @d4 @hgt @zM) ?_
    (refine Go.AL.g1f (a4 @d1 @d2 @d4 @hgt) ?_;refine zC (ih l hl hok hso s m b (by omega) (by omega) (by omega) (by omega) h r hr) ?_;intro p2 h2 hr2;refine Go.AL.g2 ?_)
    subst hr2
    refine ge ?_
    rfl
 ·have hgt1: ¬((M:Nat):Int)<(m:Int):=by omega
  refine gf (a9 @w1 @w2 @e1 @e2 @iS @rZ @hm @hu (a5 @hsh @hc @w3 @w4 @hgt1)) ?_
  refine zW (K9 (K9 (.k:: .k:: .v:: .v:: .k:: .d::K9 (K9 (K9 (K9 (K9 (K9 (K9 (K9 (K9 (K9 (K9 (K9 (K9 (K4 (K4 (D9 (D9 (D4 (D4 (K9 (K9 (K9 (K9 (K9 ([]))))))))))))))))))))))))))) (fun (s:Nat)=>[i64 s,i64 m]) (fun s=>h) (fun s=>a≤s∧s≤m) (fun s=>m-s) (own:=false) a rfl rfl ⟨by omega,by omega⟩ ?_
  rintro s ⟨hi,hij⟩
  refine gm ?_
  clear hm hu hsh hc
  by_cases hlt:s<m
  ·have hlt1:(s:Int)<(m:Int):=by omega
   have hm:IntKind.i64.wrap ((s:Int)+m)=((s+m:Nat):Int):=by rw [xM (by omega) (by omega)];omega
   have hu:IntKind.u64.wrap ((s+m:Nat):Int)=((s+m:Nat):Int):=by rw [IntKind.wrap_u64];omega
   have hsh:=zeU (s+m)
   have hc:IntKind.i64.wrap ((((s+m) / 2:Nat):Int))=(((s+m) / 2:Nat):Int):=zeR (by omega)
   have hwc:IntKind.i64.wrap ((((s+m) / 2:Nat):Int)+1)=(((s+m) / 2+1:Nat):Int):=by rw [xM (by omega) (by omega)];rfl
   have hwp:IntKind.i64.wrap (((M+m-1:Nat):Int)-(((s+m) / 2:Nat):Int))=((M+m-1-(s+m) / 2:Nat):Int):=by rw [xM (by omega) (by omega)];omega
   obtain ⟨q,c,hqd,hcd,k1,k2,k3,k4,hneg⟩:=search a m (by omega) (by omega) (by omega) (by omega) (by omega) s hi hlt
   rw [hcd] at hsh hc hwc
   rw [hqd,hcd] at hwp
   have fin:a≤c+1∧c+1≤m∧m-(c+1)<m-s:=by omega
   clear search ih hcd hqd hM hMa w1 w2 e1 e2 w3 w4 k3 k4 hd ham hmb hb hm1 hm2 hgt hgt1 hi hij hlt
   have gx:=xG l q k1
   have gy:=xG l c k2
   have hby:=uS l[q] l[c] (hok _ (List.getElem_mem k1)) (hok _ (List.getElem_mem k2))
   generalize l[q]=x at*
   generalize l[c]=y at*
   generalize hcc:sD x.args y.args=cc at*
   (repeat (first|refine gz ?_|(refine gn ?_;intro zs zh;(try simp only [go_sem,iS,rZ,hlt1,hm,hu,hsh,hc,hwc,hwp,hr,gx,gy,xK,zB,k1,k2,hneg] at zh);subst zh;(first|refine gv ?_|((first|refine zC (hby.call zK (by simp [zJ]) _) ?_|refine zP (by decide) (by decide) (hby.call zK (by simp [zJ]) _) ?_);intro p2 h2 hr2;obtain ⟨hr2,rfl⟩:=hr2;first|obtain ⟨_,rfl,hr2⟩:=hr2|obtain ⟨_,rfl⟩:=hr2|subst hr2|skip)))|refine yD URsx1f227.pl ?_))
   exact ⟨c+1,⟨fin.1,fin.2.1⟩,fin.2.2,rfl,rfl,rfl⟩
  ·have:s=m:=by omega
   subst this
   have hlt1: ¬((s:Int)<(s:Int)):=by omega
   have we:IntKind.i64.wrap (((M+s:Nat):Int)-s)=((M:Nat):Int):=by rw [xM (by omega) (by omega)];omega
   have d1:((a:Int)<(s:Int)):=by omega
   have d2: ¬((M:Int)<(M:Int)):=by omega
   by_cases d5:s<M
   ·have d3:((s:Int)<(M:Int)):=by omega
    refine gf (a7 @hlt1 @we @d1 @d2 @d3 @d5 @ham) ?_
    (refine Go.AL.g1f (a4 @d1 @d2 @d3 @d5) ?_;refine zC (ih l hl hok hso a s M (by omega) (by omega) (by omega) (by omega) h r hr) ?_;intro p2 h2 hr2;refine Go.AL.g2 ?_)
    subst hr2
    refine gf (a6 @hlt1 @we @d1 @d2 @d3 @d5) ?_
    rfl
   ·have d3: ¬((s:Int)<(M:Int)):=by omega
    refine gf (a7 @hlt1 @we @d1 @d2 @d3 @d5 @ham) ?_
    rfl
theorem zqN: ∀ (d:Nat) (l:List Rw) (_:l.length≤70368744177664) (_: ∀ x∈l,x.ok) (_:SoR l) (a m b:Nat) (_:b-a≤d) (_:a<m) (_:m<b) (_:b≤l.length),SymS l a m b
 |0,l,hl,hok,hso,a,m,b,hd,ham,hmb,hb=>by omega
 |d+1,l,hl,hok,hso,a,m,b,hd,ham,hmb,hb=>by
  by_cases hm1:m-a=1
  ·exact zrR l hl hok hso a m b ham hmb hb hm1
  by_cases hm2:b-m=1
  ·exact zrQ l hl hok hso a m b ham hmb hb hm1 hm2
  exact zrP d (zqN d) l hl hok hso a m b hd ham hmb hb hm1 hm2
end Go.AL
namespace Go.AL
instance:DecidableEq Sp:=fun x y=>decidable_of_iff (x.a=y.a∧x.b=y.b) (by cases x;cases y;simp)
def zo3 (n:Int):Nat:=if n≤0 then 0 else if 64≤n then 2 ^ 64-1 else 2 ^ n.toNat-1
def zo2 (s:Sp):Nat:=zo3 s.b &&& (2 ^ 64-1-zo3 s.a)
def uQ (l:List Sp):Nat:=l.foldl (fun w s=>w ||| zo2 s) 0
def xT (s:Sp) (m:Nat):Bool:=decide (m<64∧s.a≤(m:Int)∧(m:Int)<s.b)
theorem zoL (n:Int):zo3 n<2 ^ 64:=by
 unfold zo3
 split
 ·exact Nat.two_pow_pos 64
 ·split
  ·exact Nat.sub_lt (Nat.two_pow_pos 64) Nat.zero_lt_one
  ·have:2 ^ n.toNat≤2 ^ 64:=Nat.pow_le_pow_right (by decide) (by omega)
   have:=Nat.two_pow_pos n.toNat
   omega
theorem zo0 (n:Int) (m:Nat):(zo3 n).testBit m=decide (m<64∧(m:Int)<n):=by
 unfold zo3
 split
 ·rw [Nat.zero_testBit];symm;rw [decide_eq_false_iff_not];omega
 ·split
  ·rw [Nat.testBit_two_pow_sub_one];congr 1;apply propext;omega
  ·rw [Nat.testBit_two_pow_sub_one];congr 1;apply propext;omega
theorem ziX {x:Nat} (hx:x<2 ^ 64) (m:Nat):(2 ^ 64-1-x).testBit m=(decide (m<64)&& !x.testBit m):=by
 have:=Nat.testBit_two_pow_sub_succ hx m
 rw [←this];congr 1;omega
theorem zqY (s:Sp) (m:Nat):(zo2 s).testBit m=xT s m:=by
 unfold zo2 xT
 rw [Nat.testBit_and,zo0,ziX (zoL _),zo0]
 by_cases h1:m<64<;>by_cases h2:(m:Int)<s.b<;>by_cases h3:(m:Int)<s.a<;>simp [h1,h2,h3]<;>omega
theorem zoI (s:Sp):zo2 s<2 ^ 64:=by
 unfold zo2
 exact Nat.and_lt_two_pow _ (by have:=Nat.two_pow_pos 64;omega)
theorem zfJ: ∀ (l:List Sp) (w m:Nat),(l.foldl (fun w s=>w ||| zo2 s) w).testBit m=(w.testBit m||l.any fun s=>xT s m)
 | [],w,m=>by simp
 |s::l,w,m=>by rw [List.foldl_cons,zfJ l,Nat.testBit_or,zqY,List.any_cons,Bool.or_assoc]
theorem zoQ (l:List Sp) (m:Nat):(uQ l).testBit m=l.any fun s=>xT s m:=by
 unfold uQ;rw [zfJ];simp
theorem gS: ∀ (l:List Sp) (w:Nat),w<2 ^ 64→l.foldl (fun w s=>w ||| zo2 s) w<2 ^ 64
 | [],w,h=>h
 |s::l,w,h=>gS l _ (Nat.or_lt_two_pow h (zoI s))
theorem wB (l:List Sp):uQ l<2 ^ 64:=gS l 0 (Nat.two_pow_pos 64)
def zaP (w:Nat):Nat→Nat→List Sp
 |0,_=>[]
 | f+1,a=>if w / 2 ^ a=0 then [] else
  ⟨((a+Go.Lib.ctz 64 (w / 2 ^ a):Nat):Int),((a+Go.Lib.ctz 64 (w / 2 ^ a)+Go.Lib.ctz 64 (2 ^ 64-1-w / 2 ^ (a+Go.Lib.ctz 64 (w / 2 ^ a))):Nat):Int)⟩::
   if a+Go.Lib.ctz 64 (w / 2 ^ a)+Go.Lib.ctz 64 (2 ^ 64-1-w / 2 ^ (a+Go.Lib.ctz 64 (w / 2 ^ a)))=64 then [] else zaP w f (a+Go.Lib.ctz 64 (w / 2 ^ a)+Go.Lib.ctz 64 (2 ^ 64-1-w / 2 ^ (a+Go.Lib.ctz 64 (w / 2 ^ a))))
def yW (w:Nat):List Sp:=zaP w 65 0
def SpF:Int→List Sp→Prop
 |_,[]=>True
 |lo,s::l=>lo≤s.a∧s.a<s.b∧s.b≤64∧SpF (s.b+1) l
abbrev SpC (l:List Sp):Prop:=SpF 0 l
theorem SpF.weak {lo lo':Int} (h:lo'≤lo): ∀ {l:List Sp},SpF lo l→SpF lo' l
 | [],_=>trivial
 |s::l,⟨a,b,c,d⟩=>⟨by omega,b,c,d⟩
theorem zdC (w a j:Nat):(w / 2 ^ a).testBit j=w.testBit (a+j):=by
 rw [Nat.testBit_div_two_pow,Nat.add_comm]
theorem zlO (y:Nat):2 ^ 64-1-y<2 ^ 64:=Nat.lt_of_le_of_lt (Nat.sub_le _ _) (Nat.sub_lt (Nat.two_pow_pos 64) Nat.zero_lt_one)
theorem zq2 (k m:Nat):(2 ^ k*(2*m+1)).testBit k=true∧ ∀ j,j<k→(2 ^ k*(2*m+1)).testBit j=false:=by
 constructor
 ·rw [Nat.testBit_two_pow_mul];simp [Nat.testBit_zero]
 ·intro j hj
  rw [Nat.testBit_two_pow_mul];simp;omega
theorem zjM {x:Nat} (h0:x≠0) (h:x<2 ^ 64):x.testBit (Go.Lib.ctz 64 x)=true∧ ∀ j,j<Go.Lib.ctz 64 x→x.testBit j=false:=by
 obtain ⟨m,hm, -⟩:=bH x h0 h
 generalize Go.Lib.ctz 64 x=k at*
 rw [hm];exact zq2 k m
theorem zo9 {w a:Nat} (h:w / 2 ^ a=0) {m:Nat} (hm:a≤m):w.testBit m=false:=by
 have:=zdC w a (m-a)
 rw [h,Nat.zero_testBit,Nat.add_sub_cancel' hm] at this
 exact this.symm
theorem zdM (w:Nat) (hw:w<2 ^ 64): ∀ (f a:Nat),64-a<f→a<64→
  SpF a (zaP w f a)∧(w.testBit a=false→SpF (a+1) (zaP w f a))∧ ∀ m,a≤m→((zaP w f a).any fun s=>xT s m)=w.testBit m
 |0,a,h,_=>by omega
 | f +1,a,h,ha=>by
  unfold zaP
  by_cases hx:w / 2 ^ a=0
  ·rw [if_pos hx]
   refine ⟨trivial,fun _=>trivial,fun m hm=> ?_⟩
   rw [zo9 hx hm];rfl
  ·rw [if_neg hx]
   obtain ⟨s1,s2,s3,s4⟩:=zc8 w a hw ha hx
   have hx64:w / 2 ^ a<2 ^ 64:=Nat.lt_of_le_of_lt (Nat.div_le_self _ _) hw
   obtain ⟨c1,c2⟩:=zjM hx hx64
   generalize Go.Lib.ctz 64 (w / 2 ^ a)=k at*
   rw [zdC] at c1
   have c2': ∀ m,a≤m→m<a+k→w.testBit m=false:=fun m h1 h2=>by
    have:=c2 (m-a) (by omega)
    rw [zdC,Nat.add_sub_cancel' h1] at this
    exact this
   have hz: ∀ j,(2 ^ 64-1-w / 2 ^ (a+k)).testBit j=(decide (j<64)&& !w.testBit (a+k+j)):=fun j=>by rw [ziX s2,zdC]
   have d1: ∀ m,a+k≤m→m<a+k+Go.Lib.ctz 64 (2 ^ 64-1-w / 2 ^ (a+k))→w.testBit m=true:=fun m h1 h2=>by
    by_cases h0:2 ^ 64-1-w / 2 ^ (a+k)=0
    ·have:=hz (m-(a+k))
     rw [h0,Nat.zero_testBit,Nat.add_sub_cancel' h1] at this
     have hm:m-(a+k)<64:=by omega
     simpa [hm] using this.symm
    ·obtain ⟨-,e2⟩:=zjM h0 (zlO _)
     have:=e2 (m-(a+k)) (by omega)
     rw [hz,Nat.add_sub_cancel' h1] at this
     have hm:m-(a+k)<64:=by omega
     simpa [hm] using this
   have d2:a+k+Go.Lib.ctz 64 (2 ^ 64-1-w / 2 ^ (a+k))<64→w.testBit (a+k+Go.Lib.ctz 64 (2 ^ 64-1-w / 2 ^ (a+k)))=false:=fun h1=>by
    by_cases h0:2 ^ 64-1-w / 2 ^ (a+k)=0
    ·exfalso
     rw [h0] at h1
     have e:Go.Lib.ctz 64 0=64:=rfl
     omega
    ·obtain ⟨e1, -⟩:=zjM h0 (zlO _)
     rw [hz] at e1
     have:=(Bool.and_eq_true _ _▸e1).2
     simpa using this
   generalize Go.Lib.ctz 64 (2 ^ 64-1-w / 2 ^ (a+k))=j at*
   have hlow: ∀ m:Nat,m<a+k+j→ ∀ {l:List Sp},SpF ((a+k+j:Nat):Int) l→(l.any fun s=>xT s m)=false:=fun m hm l hl=>by
    induction l with
    |nil=>rfl
    |cons s l ih=>
     obtain ⟨q1,q2,q3,q4⟩:=hl
     rw [List.any_cons,ih (SpF.weak (by omega) q4)]
     unfold xT;simp;omega
   by_cases h64:a+k+j=64
   ·rw [if_pos h64]
    refine ⟨⟨by dsimp only;omega,by dsimp only;omega,by dsimp only;omega,trivial⟩,fun hb=>⟨?_,by dsimp only;omega,by dsimp only;omega,trivial⟩,fun m hm=> ?_⟩
    ·rcases Nat.eq_zero_or_pos k with h0|h0
     ·subst h0;rw [Nat.add_zero] at c1;rw [c1] at hb;cases hb
     ·dsimp only;omega
    ·rw [List.any_cons,List.any_nil,Bool.or_false]
     unfold xT
     by_cases h1:m<a+k
     ·rw [c2' m hm h1,decide_eq_false_iff_not];dsimp only;omega
     ·by_cases h2:m<a+k+j
      ·rw [d1 m (by omega) h2,decide_eq_true_eq];dsimp only;omega
      ·rw [Nat.testBit_lt_two_pow (Nat.lt_of_lt_of_le hw (Nat.pow_le_pow_right (by decide) (by omega))),decide_eq_false_iff_not];dsimp only;omega
   ·rw [if_neg h64]
    obtain ⟨r1,r2,r3⟩:=zdM w hw f (a+k+j) (by omega) (by omega)
    have r2:=r2 (d2 (by omega))
    refine ⟨⟨by dsimp only;omega,by dsimp only;omega,by dsimp only;omega,?_⟩,fun hb=>⟨?_,by dsimp only;omega,by dsimp only;omega,?_⟩,fun m hm=> ?_⟩
    ·exact r2
    ·rcases Nat.eq_zero_or_pos k with h0|h0
     ·subst h0;rw [Nat.add_zero] at c1;rw [c1] at hb;cases hb
     ·dsimp only;omega
    ·exact r2
    ·rw [List.any_cons]
     by_cases h3:a+k+j≤m
     ·rw [r3 m h3]
      have:xT ⟨((a+k:Nat):Int),((a+k+j:Nat):Int)⟩ m=false:=by unfold xT;rw [decide_eq_false_iff_not];dsimp only;omega
      rw [this,Bool.false_or]
     ·rw [hlow m (by omega) r1,Bool.or_false]
      unfold xT
      by_cases h1:m<a+k
      ·rw [c2' m hm h1,decide_eq_false_iff_not];dsimp only;omega
      ·rw [d1 m (by omega) (by omega),decide_eq_true_eq];dsimp only;omega
theorem qS {w:Nat} (hw:w<2 ^ 64):SpC (yW w)∧ ∀ m,((yW w).any fun s=>xT s m)=w.testBit m:=by
 obtain ⟨h1, -,h3⟩:=zdM w hw 65 0 (by omega) (by omega)
 exact ⟨h1,fun m=>h3 m (Nat.zero_le m)⟩
theorem zfI {w:Nat} (hw:w<2 ^ 64):uQ (yW w)=w:=Nat.eq_of_testBit_eq fun m=>by
 rw [zoQ];exact (qS hw).2 m
theorem SpF.low {lo:Int}: ∀ {l:List Sp},SpF lo l→ ∀ m:Nat,(m:Int)<lo→(l.any fun s=>xT s m)=false
 | [],_,m,_=>rfl
 |s::l,⟨a,b,c,d⟩,m,h=>by
  rw [List.any_cons,SpF.low d m (by omega)]
  unfold xT;simp;omega
theorem SpF.uniq: ∀ {l l':List Sp} {lo lo':Int},0≤lo→0≤lo'→SpF lo l→SpF lo' l'→(∀ m:Nat,(l.any fun s=>xT s m)=l'.any fun s=>xT s m)→l=l'
 | [],[],_,_,_,_,_,_,_=>rfl
 | [],s::l',lo,lo',_,h0,_,⟨a,b,c,d⟩,k=>by
  exfalso
  have:=k s.a.toNat
  rw [List.any_nil,List.any_cons] at this
  have e:xT s s.a.toNat=true:=by unfold xT;rw [decide_eq_true_eq];omega
  rw [e,Bool.true_or] at this;cases this
 |s::l,[],lo,lo',h0,_,⟨a,b,c,d⟩,_,k=>by
  exfalso
  have:=k s.a.toNat
  rw [List.any_nil,List.any_cons] at this
  have e:xT s s.a.toNat=true:=by unfold xT;rw [decide_eq_true_eq];omega
  rw [e,Bool.true_or] at this;cases this
 | s::l,s'::l',lo,lo',h0,h0',⟨a,b,c,d⟩,⟨a',b',c',d'⟩,k=>by
  have hin: ∀ m:Nat,(m:Int)≤s.b→((s::l).any fun s=>xT s m)=xT s m:=fun m hm=>by
   rw [List.any_cons,d.low m (by omega),Bool.or_false]
  have hin': ∀ m:Nat,(m:Int)≤s'.b→((s'::l').any fun s=>xT s m)=xT s' m:=fun m hm=>by
   rw [List.any_cons,d'.low m (by omega),Bool.or_false]
  have ea:s.a=s'.a:=by
   rcases Int.lt_trichotomy s.a s'.a with h|h|h
   ·exfalso
    have:=k s.a.toNat
    rw [hin _ (by omega),hin' _ (by omega)] at this
    have e:xT s s.a.toNat=true:=by unfold xT;rw [decide_eq_true_eq];omega
    have e':xT s' s.a.toNat=false:=by unfold xT;rw [decide_eq_false_iff_not];omega
    rw [e,e'] at this;cases this
   ·exact h
   ·exfalso
    have:=k s'.a.toNat
    rw [hin _ (by omega),hin' _ (by omega)] at this
    have e:xT s' s'.a.toNat=true:=by unfold xT;rw [decide_eq_true_eq];omega
    have e':xT s s'.a.toNat=false:=by unfold xT;rw [decide_eq_false_iff_not];omega
    rw [e,e'] at this;cases this
  have eb:s.b=s'.b:=by
   rcases Int.lt_trichotomy s.b s'.b with h|h|h
   ·exfalso
    have:=k s.b.toNat
    rw [hin _ (by omega),hin' _ (by omega)] at this
    have e:xT s s.b.toNat=false:=by unfold xT;rw [decide_eq_false_iff_not];omega
    have e':xT s' s.b.toNat=true:=by unfold xT;rw [decide_eq_true_eq];omega
    rw [e,e'] at this;cases this
   ·exact h
   ·exfalso
    have:=k s'.b.toNat
    rw [hin _ (by omega),hin' _ (by omega)] at this
    have e:xT s s'.b.toNat=true:=by unfold xT;rw [decide_eq_true_eq];omega
    have e':xT s' s'.b.toNat=false:=by unfold xT;rw [decide_eq_false_iff_not];omega
    rw [e,e'] at this;cases this
  have es:s=s':=by cases s;cases s';simp_all
  subst es
  rw [SpF.uniq (lo:=s.b+1) (lo':=s.b+1) (by omega) (by omega) d d' fun m=> ?_]
  have:=k m
  rw [List.any_cons,List.any_cons] at this
  by_cases hm:(m:Int)≤s.b
  ·rw [d.low m (by omega),d'.low m (by omega)]
  ·have e:xT s m=false:=by unfold xT;rw [decide_eq_false_iff_not];omega
   rw [e,Bool.false_or,Bool.false_or] at this
   exact this
theorem sT {l:List Sp} (h:SpC l):yW (uQ l)=l:=by
 obtain ⟨h1,h2⟩:=qS (wB l)
 refine SpF.uniq (Int.le_refl 0) (Int.le_refl 0) h1 h fun m=> ?_
 rw [h2,zoQ]
theorem zoO {l:List Sp}:SpC l↔l=yW (uQ l):=
 ⟨fun h=>(sT h).symm,fun h=>by rw [h];exact (qS (wB l)).1⟩
theorem zfN {w:Nat} (hw:w<2 ^ 64):yW w=[]↔w=0:=by
 constructor
 ·intro h
  have:=zfI hw
  rw [h] at this;exact this.symm
 ·rintro rfl;rfl
theorem zqZ {s:Sp} (h:0≤s.a∧s.a<s.b∧s.b≤64):SpC [s]:=⟨h.1,h.2.1,h.2.2,trivial⟩
end Go.AL
