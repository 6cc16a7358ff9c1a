/-
  Relations: whether a relation is well-formed.
-/
import Derived.Test.YtfjkncfjclifoaaGreatDoorZ25
set_option linter.unusedSimpArgs false
set_option linter.unusedVariables false
set_option maxRecDepth 100000
set_option maxHeartbeats 4000000
namespace Go.AL
open Go.Proofs Go.Proofs.Tryz
@[go_sem] def URel8f193.pl:Nat→DPlan
 |8=>⟨[yA,yA,yA,yA,yA,yA,yA,yA,yB,yA,yA,yA,yB,yC,yA,yA],xE,0⟩
 |_=>⟨[],[],0⟩
@[go_sem] def URel8f226.pl:Nat→DPlan
 |4=>⟨[yA,yA,yA,yA,yA,yA,yA,yA,yB,yA,yA,yA,yA,yB,yC,yA,yA],wR,0⟩
 |6=>⟨[yA,yA,yA,yA,yA,yA,yA,yA,yA,yB,yA,yA,yA,yB,yA,yC,yA,yC],yM,0⟩
 |_=>⟨[],[],0⟩
open URel8f226 in
theorem zdP (h:Heap):ECall prog G0 226 [.ts 2 [],i64 (0:Nat),i64 (0:Nat),kP] h fun _ h'=>h'=h:=by
 refine pv func226 53 false (by kernel_rfl) rfl rfl ?_
 refine g2 ?_
 have hw:IntKind.i64.wrap (((0:Nat):Int)+1)=1:=by rw [xM (by omega) (by omega)];rfl
 have hc: ¬((1:Int)<((0:Nat):Int)):=by omega
 refine gf @hw ?_
 refine zW (K4 (K4 (.v:: .d:: .k:: .k::D9 (D9 (D9 (D9 (D4 (.d::[])))))))) (fun (_:Unit)=>[i64 1]) (fun _=>h) (fun _=>True) (fun _=>0) (own:=false) () rfl rfl trivial ?_
 rintro _ _
 refine gm ?_
 refine gf @hc ?_
 rfl
theorem aD (h:Heap):ECall prog G0 225 [.ts 2 [],i64 (0:Nat),kP] h fun _ h'=>h'=h:=by
 refine pv func225 63 false (by kernel_rfl) rfl rfl ?_
 refine g2 ?_
 have hc: ¬((20:Int)≤((0:Nat):Int)):=by omega
 have hc2: ¬((20:Int)<((0:Nat):Int)):=by omega
 refine ge ?_
 refine zW (K4 (.k:: .k:: .k:: .v:: .v:: .k:: .k::D9 (.d:: .d:: .d::K9 (K9 (K9 (K9 (K4 ([])))))))) (fun (_:Unit)=>[i64 (0:Nat),i64 20]) (fun _=>h) (fun _=>True) (fun _=>0) (own:=false) () rfl rfl trivial ?_
 rintro _ _
 refine gm ?_
 refine gf @hc ?_
 (refine g1 ?_;refine zC (zdP _) ?_;intro p2 h2 hr2;refine g2 ?_)
 subst hr2
 refine ge ?_
 refine zW (K4 (.k:: .k:: .v:: .d:: .d:: .d::K9 (K9 (D9 (D9 (D9 (D4 (D4 ([]))))))))) (fun (_:Unit)=>[i64 20]) (fun _=>h2) (fun _=>True) (fun _=>0) (own:=false) () rfl rfl trivial ?_
 rintro _ _
 refine gm ?_
 refine gf @hc2 ?_
 rfl
theorem jC (h:Heap):ECall prog G0 219 [.ts 2 [],kP] h fun _ h'=>h'=h:=by
 refine pv func219 9 false (by kernel_rfl) rfl rfl ?_
 refine g2 ?_
 refine ge ?_
 (refine g1 ?_;refine zC (aD _) ?_;intro p2 h2 hr2;refine g2 ?_)
 subst hr2
 refine ge ?_
 rfl
open URel8f193 in
theorem gH:EPure prog G0 193 [uN []] fun p=>p=uN []:=by
 refine ECall.cutW (R:=fun p _=>p= .nil) (pv func193 60 false (by kernel_rfl) rfl rfl ?_) (by rintro p h rfl;exact ⟨uN [],by rw [iQ];exact PLe.nil_ts 2,rfl,by simp [xX]⟩)
 refine g2 ?_
 refine ge ?_
 (refine g1 ?_;refine zC ((zgC [] (by simp) rfl).call zK (by simp) _) ?_;intro p2 h2 hr2;refine g2 ?_)
 obtain ⟨rfl,rfl⟩:=hr2
 refine ge ?_
 (refine g1 ?_;refine zC (jC _) ?_;intro p2 h2 hr2;refine g2 ?_)
 subst hr2
 refine ge ?_
 refine zW (K4 (.v:: .v:: .d:: .d::K4 (D9 (D9 (D9 (D9 (D9 (.d:: .d:: .k::[])))))))) (fun (_:Unit)=>[.nil,i64 0]) (fun _=>([]:Heap)) (fun _=>True) (fun _=>0) (own:=false) () rfl rfl trivial ?_
 rintro _ _
 refine gm ?_
 have hc: ¬((0:Int)<((0:Nat):Int)):=by omega
 refine gf @hc ?_
 rfl
def CanR (l o:List Rw):Prop:=o.length≤l.length∧ ∀ x∈o,(∃ y∈l,x.args=y.args)∧x.w.length≤64
theorem bK (l:List Rw) (hl:l.length≤68719476736) (hok: ∀ x∈l,x.ls):EPure prog G0 193 [uN l] fun p=> ∃ o:List Rw,p=uN o∧CanR l o:=by
 rcases Nat.eq_zero_or_pos l.length with h|h
 ·have:=List.eq_nil_of_length_eq_zero h
  subst this
  exact gH.mono (by rintro p rfl;exact ⟨[],rfl,Nat.le_refl _,by simp⟩)
 ·exact eB l hl hok h
end Go.AL
namespace Go.AL
open Go.Proofs Go.Proofs.Tryz
@[go_sem] def URel9f217.pl:Nat→DPlan
 |3=>⟨[yB,yA,yB,yB,yA,yB,yC,yA],iot8,0⟩
 |9=>⟨[⟨1,0,[1004]⟩,yA,⟨1,0,[1004]⟩,⟨1,0,[1004]⟩,yA,⟨5,1004,[]⟩,yC],tV,0⟩
 |11=>⟨[⟨1,0,[1005]⟩,yA,⟨1,0,[1005]⟩,⟨1,0,[1005]⟩,yA,⟨5,1005,[]⟩,yC],tV,0⟩
 |_=>⟨[],[],0⟩
theorem wH (l:List Rw):List.take l.length (l.map Rw.c)=l.map Rw.c:=List.take_of_length_le (by simp)
theorem tG (J:Heap) (a b:Blk):(J++[a,b])[J.length]? =some a:=by simp
theorem wG (J:Heap) (a b:Blk):(J++[a,b])[J.length+1]? =some b:=by simp
theorem set2 (J:Heap) (a b c:Blk):(J++[a,b]).set J.length c=J++[c,b]:=by simp
theorem wF (J:Heap) (a b c:Blk):(J++[a,b]).set (J.length+1) c=J++[a,c]:=by simp
theorem ziB {I:Nat→PV→Heap→Prop} (hA: ∀ m V J b,I m V J→I m V (J++[b])) {m:Nat} {V:PV} {J:Heap} (h:I m V J) (b c:Blk):I m V (J++[b,c]):=by
 have:=hA m V _ c (hA m V J b h)
 rwa [List.append_assoc] at this
open URel9f217 in
theorem zdF (B0 L:Blk) (I:Nat→PV→Heap→Prop) (hA: ∀ m V J b,I m V J→I m V (J++[b])) (Q:List Vl→Prop) (N:Nat)
  (hy: ∀ a b m V J (x y:Rw),I m V J→m<N→Q x.args→x.w.length≤64→y.w.length≤64→EYl prog G0 4 [.agg x.c,.agg y.c] (B0:: .var 70 [V]:: .var 70 [uN a]:: .var 70 [uN b]::L::J) fun p h'=>p=bo true∧ ∃ V' J',h'=(B0:: .var 70 [V']:: .var 70 [uN a]:: .var 70 [uN b]::L::J')∧I (m+1) V' J')
  (a b:List Rw) (ha: ∀ x∈a,Q x.args∧x.w.length≤64) (hb: ∀ x∈b,Q x.args∧x.w.length≤64) (hoa: ∀ x∈a,x.ok) (hob: ∀ x∈b,x.ok) (hN:a.length+b.length≤N) (hl:a.length+b.length≤140737488355328) (V:PV) (J:Heap) (hI:I 0 V J):
  ECall prog G0 217 [.yl 4,.ptr 2 0,.ptr 3 0] (B0:: .var 70 [V]:: .var 70 [uN a]:: .var 70 [uN b]::L::J) fun _ h'=> ∃ a' b' m V' J',h'=(B0:: .var 70 [V']:: .var 70 [uN a']:: .var 70 [uN b']::L::J')∧m≤a.length+b.length∧I m V' J':=by
 refine pv func217 52 false (by kernel_rfl) rfl rfl ?_
 refine g2 ?_
 refine ge ?_
 refine zW (K4 (D9 (D9 (D9 (D9 (D9 (.d:: .d:: .d::[]))))))) (fun (s:List Rw×List Rw×Nat×PV×Heap)=>[]) (fun s=>(B0:: .var 70 [s.2.2.2.1]:: .var 70 [uN s.1]:: .var 70 [uN s.2.1]::L::s.2.2.2.2)) (fun s=>s.2.2.1+s.1.length+s.2.1.length≤a.length+b.length∧(∀ x∈s.1,Q x.args∧x.w.length≤64)∧(∀ x∈s.2.1,Q x.args∧x.w.length≤64)∧(∀ x∈s.1,x.ok)∧(∀ x∈s.2.1,x.ok)∧I s.2.2.1 s.2.2.2.1 s.2.2.2.2) (fun s=>s.1.length+s.2.1.length) (own:=false) (a,b,0,V,J) rfl rfl ⟨by dsimp only;omega,ha,hb,hoa,hob,hI⟩ ?_
 rintro ⟨a1,b1,m,V1,J1⟩ ⟨hm,ha1,hb1,hoa1,hob1,hI1⟩ t ht
 dsimp only at hm ha1 hb1 hoa1 hob1 hI1
 simp only [zY] at ht;subst ht
 have hw:IntKind.i64.wrap ((a1.length:Int)+b1.length)=((a1.length+b1.length:Nat):Int):=by rw [xM (by omega) (by omega)];omega
 have hdummy:=hm
 cases a1 with
 | nil=>
  cases b1 with
  |nil=>
   have hw0:IntKind.i64.wrap (((0:Nat):Int)+((0:Nat):Int))=((0:Nat):Int):=by rw [xM (by omega) (by omega)];omega
   have hc: ¬((0:Int)<((0:Nat):Int)):=by omega
   refine gf (a2 @hw0 @hc) ?_
   exact ⟨[],[],m,V1,J1,rfl,by simp only [List.length_nil] at hm;omega,hI1⟩
  |cons y b2=>
   simp only [List.length_cons,List.length_nil] at hm
   have hw0:IntKind.i64.wrap (((0:Nat):Int)+((b2.length+1:Nat):Int))=((b2.length+1:Nat):Int):=by rw [xM (by omega) (by omega)];omega
   have hc:(0:Int)<((b2.length+1:Nat):Int):=by omega
   have he:(((0:Nat):Int)==0)=true:=rfl
   have hkb:=(hb1 y (List.mem_cons_self ..))
   have htb1:=fun x hx=>hb1 x (List.mem_cons_of_mem y hx)
   have htb2:=fun x hx=>hob1 x (List.mem_cons_of_mem y hx)
   (repeat (first|refine gz ?_|(refine gn ?_;intro zs zh;(try simp only [go_sem,hw0,hc,he,wH,zA,zD,tG,wG,set2,wF,List.map_cons,List.length_cons] at zh);subst zh;refine gv ?_)|refine yD URel9f217.pl ?_))
   (refine wU ?_;intro sr hsr;simp only [go_sem,wH,zA,zD,tG,wG,set2,wF,List.map_cons,List.length_cons] at hsr;subst hsr;refine rC rfl (by simp only [dC,go_sem,wH,zA,zD,tG,wG,set2,wF,List.map_cons,List.length_cons]<;>rfl) (EYl.args (hy [] b2 m V1 _ ⟨y.args,[]⟩ y (ziB hA hI1 _ _) (by omega) hkb.1 (by simp) hkb.2) (.cons (PLes.agg (.cons (PLe.refl _) (.cons (PLe.nil_ts 2) .nil))) (.cons (PLe.refl _) .nil))) ?_;intro p2 h2 hr2 ts2 hts;simp only [go_sem] at hts;subst hts)
   obtain ⟨rfl,V2,J2,rfl,hI2⟩:=hr2
   refine ge ?_
   exact ⟨([],b2,m+1,V2,J2),⟨by dsimp only;(try simp only [List.length_nil,List.length_cons] at hm ⊢);omega,(by simp),htb1,(by simp),htb2,hI2⟩,by dsimp only;simp only [List.length_nil,List.length_cons]<;>omega,rfl,rfl,rfl⟩
 | cons x a2=>
  cases b1 with
  |nil=>
   simp only [List.length_cons,List.length_nil] at hm
   have hw0:IntKind.i64.wrap (((a2.length+1:Nat):Int)+((0:Nat):Int))=((a2.length+1:Nat):Int):=by rw [xM (by omega) (by omega)];omega
   have hc:(0:Int)<((a2.length+1:Nat):Int):=by omega
   have he:(((0:Nat):Int)==0)=true:=rfl
   have he2:(((a2.length+1:Nat):Int)==0)=false:=by simp;omega
   have hka:=(ha1 x (List.mem_cons_self ..))
   have hta1:=fun z hz=>ha1 z (List.mem_cons_of_mem x hz)
   have hta2:=fun z hz=>hoa1 z (List.mem_cons_of_mem x hz)
   (repeat (first|refine gz ?_|(refine gn ?_;intro zs zh;(try simp only [go_sem,hw0,hc,he,he2,wH,zA,zD,tG,wG,set2,wF,List.map_cons,List.length_cons] at zh);subst zh;refine gv ?_)|refine yD URel9f217.pl ?_))
   (refine wU ?_;intro sr hsr;simp only [go_sem,wH,zA,zD,tG,wG,set2,wF,List.map_cons,List.length_cons] at hsr;subst hsr;refine rC rfl (by simp only [dC,go_sem,wH,zA,zD,tG,wG,set2,wF,List.map_cons,List.length_cons]<;>rfl) (EYl.args (hy a2 [] m V1 _ x ⟨[],[]⟩ (ziB hA hI1 _ _) (by omega) hka.1 hka.2 (by simp)) (.cons (PLe.refl _) (.cons (PLes.agg (.cons (PLe.nil_ts 3) (.cons (PLe.nil_ts 2) .nil))) .nil))) ?_;intro p2 h2 hr2 ts2 hts;simp only [go_sem] at hts;subst hts)
   obtain ⟨rfl,V2,J2,rfl,hI2⟩:=hr2
   refine ge ?_
   exact ⟨(a2,[],m+1,V2,J2),⟨by dsimp only;(try simp only [List.length_nil,List.length_cons] at hm ⊢);omega,hta1,(by simp),hta2,(by simp),hI2⟩,by dsimp only;simp only [List.length_nil,List.length_cons]<;>omega,rfl,rfl,rfl⟩
  | cons y b2=>
   simp only [List.length_cons,List.length_nil] at hm
   have hw0:IntKind.i64.wrap (((a2.length+1:Nat):Int)+((b2.length+1:Nat):Int))=((a2.length+1+(b2.length+1):Nat):Int):=by rw [xM (by omega) (by omega)];omega
   have hc:(0:Int)<((a2.length+1+(b2.length+1):Nat):Int):=by omega
   have he:(((b2.length+1:Nat):Int)==0)=false:=by simp;omega
   have he2:(((a2.length+1:Nat):Int)==0)=false:=by simp;omega
   have hka:=(ha1 x (List.mem_cons_self ..))
   have hta1:=fun z hz=>ha1 z (List.mem_cons_of_mem x hz)
   have hta2:=fun z hz=>hoa1 z (List.mem_cons_of_mem x hz)
   have hkb:=(hb1 y (List.mem_cons_self ..))
   have htb1:=fun x hx=>hb1 x (List.mem_cons_of_mem y hx)
   have htb2:=fun x hx=>hob1 x (List.mem_cons_of_mem y hx)
   have hby:=uS x y (hoa1 x (List.mem_cons_self ..)) (hob1 y (List.mem_cons_self ..))
   generalize hcc:sD x.args y.args=c at*
   rcases Int.lt_trichotomy c 0 with h0|h0|h0
   ·have n1:c≤0:=by omega
    have n2: ¬(0≤c):=by omega
    have n3: ¬(0<c):=by omega
    (repeat (first|refine gz ?_|(refine gn ?_;intro zs zh;(try simp only [go_sem,hw0,hc,he,he2,n1,n2,n3,wH,zA,zD,tG,wG,set2,wF,List.map_cons,List.length_cons] at zh);subst zh;(first|refine gv ?_|((first|refine zC (hby.call zK (by simp [zJ]) _) ?_|refine zP (by decide) (by decide) (hby.call zK (by simp [zJ]) _) ?_);intro p2 h2 hr2;obtain ⟨hr2,rfl⟩:=hr2;first|obtain ⟨_,rfl,hr2⟩:=hr2|obtain ⟨_,rfl⟩:=hr2|subst hr2|skip)))|refine yD URel9f217.pl ?_))
    (refine wU ?_;intro sr hsr;simp only [go_sem,wH,zA,zD,tG,wG,set2,wF,List.map_cons,List.length_cons] at hsr;subst hsr;refine rC rfl (by simp only [dC,go_sem,wH,zA,zD,tG,wG,set2,wF,List.map_cons,List.length_cons]<;>rfl) (EYl.args (hy a2 (y::b2) m V1 _ x ⟨[],[]⟩ (ziB hA hI1 _ _) (by omega) hka.1 hka.2 (by simp)) (.cons (PLe.refl _) (.cons (PLes.agg (.cons (PLe.nil_ts 3) (.cons (PLe.nil_ts 2) .nil))) .nil))) ?_;intro p2 h2 hr2 ts2 hts;simp only [go_sem] at hts;subst hts)
    obtain ⟨rfl,V2,J2,rfl,hI2⟩:=hr2
    refine ge ?_
    exact ⟨(a2,(y::b2),m+1,V2,J2),⟨by dsimp only;(try simp only [List.length_nil,List.length_cons] at hm ⊢);omega,hta1,hb1,hta2,hob1,hI2⟩,by dsimp only;simp only [List.length_nil,List.length_cons]<;>omega,rfl,rfl,rfl⟩
   ·subst h0
    have n1:(0:Int)≤0:=by omega
    have n3: ¬((0:Int)<0):=by omega
    (repeat (first|refine gz ?_|(refine gn ?_;intro zs zh;(try simp only [go_sem,hw0,hc,he,he2,n1,n3,wH,zA,zD,tG,wG,set2,wF,List.map_cons,List.length_cons] at zh);subst zh;(first|refine gv ?_|((first|refine zC (hby.call zK (by simp [zJ]) _) ?_|refine zP (by decide) (by decide) (hby.call zK (by simp [zJ]) _) ?_);intro p2 h2 hr2;obtain ⟨hr2,rfl⟩:=hr2;first|obtain ⟨_,rfl,hr2⟩:=hr2|obtain ⟨_,rfl⟩:=hr2|subst hr2|skip)))|refine yD URel9f217.pl ?_))
    (refine wU ?_;intro sr hsr;simp only [go_sem,wH,zA,zD,tG,wG,set2,wF,List.map_cons,List.length_cons] at hsr;subst hsr;refine rC rfl (by simp only [dC,go_sem,wH,zA,zD,tG,wG,set2,wF,List.map_cons,List.length_cons]<;>rfl) (EYl.args (hy a2 b2 m V1 _ x y (ziB hA hI1 _ _) (by omega) hka.1 hka.2 hkb.2) (.cons (PLe.refl _) (.cons (PLe.refl _) .nil))) ?_;intro p2 h2 hr2 ts2 hts;simp only [go_sem] at hts;subst hts)
    obtain ⟨rfl,V2,J2,rfl,hI2⟩:=hr2
    refine ge ?_
    exact ⟨(a2,b2,m+1,V2,J2),⟨by dsimp only;(try simp only [List.length_nil,List.length_cons] at hm ⊢);omega,hta1,htb1,hta2,htb2,hI2⟩,by dsimp only;simp only [List.length_nil,List.length_cons]<;>omega,rfl,rfl,rfl⟩
   ·have n1: ¬(c≤0):=by omega
    have n2:0≤c:=by omega
    (repeat (first|refine gz ?_|(refine gn ?_;intro zs zh;(try simp only [go_sem,hw0,hc,he,he2,n1,n2,h0,wH,zA,zD,tG,wG,set2,wF,List.map_cons,List.length_cons] at zh);subst zh;(first|refine gv ?_|((first|refine zC (hby.call zK (by simp [zJ]) _) ?_|refine zP (by decide) (by decide) (hby.call zK (by simp [zJ]) _) ?_);intro p2 h2 hr2;obtain ⟨hr2,rfl⟩:=hr2;first|obtain ⟨_,rfl,hr2⟩:=hr2|obtain ⟨_,rfl⟩:=hr2|subst hr2|skip)))|refine yD URel9f217.pl ?_))
    (refine wU ?_;intro sr hsr;simp only [go_sem,wH,zA,zD,tG,wG,set2,wF,List.map_cons,List.length_cons] at hsr;subst hsr;refine rC rfl (by simp only [dC,go_sem,wH,zA,zD,tG,wG,set2,wF,List.map_cons,List.length_cons]<;>rfl) (EYl.args (hy (x::a2) b2 m V1 _ ⟨y.args,[]⟩ y (ziB hA hI1 _ _) (by omega) hkb.1 (by simp) hkb.2) (.cons (PLes.agg (.cons (PLe.refl _) (.cons (PLe.nil_ts 2) .nil))) (.cons (PLe.refl _) .nil))) ?_;intro p2 h2 hr2 ts2 hts;simp only [go_sem] at hts;subst hts)
    obtain ⟨rfl,V2,J2,rfl,hI2⟩:=hr2
    refine ge ?_
    exact ⟨((x::a2),b2,m+1,V2,J2),⟨by dsimp only;(try simp only [List.length_nil,List.length_cons] at hm ⊢);omega,ha1,htb1,hoa1,htb2,hI2⟩,by dsimp only;simp only [List.length_nil,List.length_cons]<;>omega,rfl,rfl,rfl⟩
end Go.AL
namespace Go.AL
open Go.Proofs Go.Proofs.Tryz
structure Rp.sz (r:Rp):Prop where
 cl:r.cs.length≤1048576
 c: ∀ x∈r.cs,OpsG x.ops
 bl:r.bs.length≤1048576
 b: ∀ x∈r.bs,x.ok
abbrev AppP (p:Pg):Prop:= ∀ (d:Dt) (ops:List Op1),d.sz→OpsG ops→ApplyOk p d ops
theorem zhS (p:Pg) (hp:p.preds.length≤1048576):(zm3 p).sz:=by
 refine ⟨by simpa [zm3] using hp,by simpa [zm3] using hp,fun r hr=> ?_,fun r hr=> ?_,fun r hr=> ?_⟩
 ·obtain ⟨-,rfl⟩:=List.mem_replicate.1 hr
  exact ⟨by simp,by simp⟩
 ·obtain ⟨-,rfl⟩:=List.mem_replicate.1 hr
  exact ⟨by simp,by simp⟩
 ·obtain ⟨-,rfl⟩:=List.mem_replicate.1 hr
  simp
theorem za5 {p:Pg} (hp:p.preds.length≤1048576) {l:List Dt} (h: ∀ d∈l,d.sz) (c:Int):(zcI p l c).sz:=by
 unfold zcI
 split
 ·rw [List.getD_eq_getElem?_getD]
  cases hc:l[c.toNat]? with
  |none=>exact zhS p hp
  |some d=>exact h d (List.mem_of_getElem? hc)
 ·exact zhS p hp
theorem zaL (f:Nat) (l:List Dt):zU (f+6) (dts l)=true:=by
 simp only [zU,List.all_map,List.all_eq_true,Function.comp_apply]
 intro x _ p hp
 have:=eH f x
 simp only [zU,List.all_eq_true] at this
 exact this p hp
abbrev znW:Option (List Dt)→PV
 |none=> .tup [.ts 2 [],bo false]
 |some l=> .tup [dts l,bo true]
theorem zc3 (p:Pg) (hp:p.preds.length≤1048576) (ha:AppP p) (r:Rp) (hr:r.sz):EPure prog G0 49 [.agg p.c,.agg r.c] fun v=>v=znW (eF p r.cs):=by
 refine ECall.cutW (R:=fun v h=>(eF p r.cs=none∧v= .tup [.nil,bo false])∨ ∃ l,eF p r.cs=some l∧((v= .tup [.nil,bo true]∧l=[])∨ ∃ q,v= .tup [.vec q 2 (l.map Dt.c),bo true])) (pv func49 60 false (by kernel_rfl) rfl rfl ?_) ?_
 refine g2 ?_
 ·have hcl:=hr.cl
  refine ge ?_
  refine zO r.cs.length (K4 (.d:: .d:: .v::D4 (.k:: .k:: .k:: .v::D9 (D9 (D9 (D9 (D4 (D4 (.k::[]))))))))) (own:=false) (fun i (s:List Dt×PV×Heap)=>[s.2.1,i64 i]) (fun s=> .var 27 p.c:: .var 31 r.c::s.2.2) (fun i s=>eF p (r.cs.take i)=some s.1∧(∀ d∈s.1,d.sz)∧GrowN 2 44 (s.1.map Dt.c) 2 s.2.2 s.2.1) ([],.nil,[]) rfl rfl ⟨rfl,by simp,.inl ⟨rfl,rfl⟩⟩ (by omega) ?_ ?_
  ·rintro ⟨l,V,J⟩ ⟨hl,hsz,hG⟩ t ht
   dsimp only at hl hsz hG
   simp only [zY] at ht;subst ht
   rw [List.take_length] at hl
   refine gf @zM ?_
   rcases hG with ⟨he,rfl⟩|⟨q,rfl,hq⟩
   ·exact .inr ⟨l,hl,.inl ⟨rfl,by simpa using he⟩⟩
   ·exact .inr ⟨l,hl,.inr ⟨_,rfl⟩⟩
  ·rintro i ⟨l,V,J⟩ hi hw ⟨hl,hsz,hG⟩ t ht
   dsimp only at hl hsz hG
   simp only [zY] at ht;subst ht
   have hlen:=zbB hl
   rw [List.length_take,Nat.min_eq_left (by omega)] at hlen
   have hx:=zG (f:=Co.c) [] hi
   have hxo:=hr.c _ (List.getElem_mem hi)
   have hst:=zfD (p:=p) hi
   rw [hl] at hst
   have hno:zg2 p (some l) r.cs[i]=none→eF p r.cs=none:=fun h=>zfC (i:=i+1) (by rw [hst,h])
   generalize r.cs[i]=x at*
   obtain ⟨mn,hmn⟩: ∃ m,(if x.merged<x.parent then x.merged else x.parent)=m:=⟨_,rfl⟩
   obtain ⟨mx,hmx⟩: ∃ m,(if x.merged>x.parent then x.merged else x.parent)=m:=⟨_,rfl⟩
   have hmn':mn< -1↔x.parent< -1∨x.merged< -1:=by rw [←hmn];split<;>omega
   have hmx':(i:Int)≤mx↔(i:Int)≤x.parent∨(i:Int)≤x.merged:=by rw [←hmx];split<;>omega
   have hbad:(x.parent< -1∨x.merged< -1∨(l.length:Int)≤x.parent∨(l.length:Int)≤x.merged)→eF p r.cs=none:=fun h=>hno (by simp only [zg2,Option.bind_some];rw [if_pos h])
   by_cases h1:mn< -1
   ·have e1:decide (mn< -1)=true:=by simp [h1]
    refine gf (a9 @hi @hx @zB @hw @zA @zD @hmn @hmx @e1) ?_
    exact .inl ⟨hbad (by omega),rfl⟩
   ·have e1:decide (mn< -1)=false:=by simp;omega
    by_cases h2:(i:Int)≤mx
    ·have e2:decide ((i:Int)≤mx)=true:=by simp [h2]
     refine gf (a9 @hi @hx @zB @hw @zA @zD @hmn @hmx (a2 @e1 @e2)) ?_
     exact .inl ⟨hbad (by omega),rfl⟩
    ·have e2:decide ((i:Int)≤mx)=false:=by simp;omega
     refine gf (a9 @hi @hx @zB @hw @zA @zD @hmn @hmx (a2 @e1 @e2)) ?_
     (refine g1 ?_;refine zC ((fM p hp).call zK (by simp [zJ]) _) ?_;intro p2 h2 hr2;refine g2 ?_)
     obtain ⟨rfl,rfl⟩:=hr2
     have hd0:(zcI p l x.parent).sz:=za5 hp hsz _
     have hap:=ha (zcI p l x.parent) x.ops hd0 hxo
     have hgood: ¬(x.parent< -1∨x.merged< -1∨(l.length:Int)≤x.parent∨(l.length:Int)≤x.merged):=by omega
     simp only [zg2,Option.bind_some,if_neg hgood] at hst hno
     have key:(x.parent<0∧zcI p l x.parent=zm3 p)∨ ∃ (k:Nat) (h:k<l.length),x.parent=k∧zcI p l x.parent=l[k]:=by
      by_cases h0:0≤x.parent
      ·obtain ⟨k,hk⟩:=Int.eq_ofNat_of_zero_le h0
       refine .inr ⟨k,by omega,hk,?_⟩
       unfold zcI
       rw [if_pos h0,hk,Int.toNat_natCast,List.getD_eq_getElem?_getD,List.getElem?_eq_getElem (by omega)];rfl
      ·exact .inl ⟨by omega,by unfold zcI;rw [if_neg h0]⟩
     generalize hA:zcI p l x.parent=d0 at*
     obtain ⟨hap1,hap2⟩:=hap
     generalize hde:zk4 p d0 x.ops=de at*
     obtain ⟨d',e⟩:=de
     dsimp only at hap1 hap2 hst hno
     have hV: ∀ (V':PV) (J':Heap),GrowN 2 44 ((l++[d']).map Dt.c) 2 J' V'→e=0→eF p (List.take (i+1) r.cs)=some (l++[d'])∧(∀ d∈l++[d'],d.sz)∧GrowN 2 44 ((l++[d']).map Dt.c) 2 J' V':=fun V' J' hG he=>⟨by rw [hst,if_pos he],fun d hd=>by
      rcases List.mem_append.1 hd with hd|hd
      ·exact hsz d hd
      ·rw [List.mem_singleton] at hd;subst hd;exact hap2 he,hG⟩
     have e40:((0:Int)!=0)=false:=rfl
     rcases hG with ⟨he,rfl⟩|⟨q,rfl,hq⟩
     ·have hl0:l=[]:=by simpa using he
      subst hl0
      rcases key with ⟨k1,rfl⟩|⟨k,hk,_⟩
      ·have e3:decide (0≤x.parent)=false:=by simp;omega
       refine gf (a9 @hi @hx @zB @hw @zA @zD @tG @wG (a3 @set2 @wF @e3)) ?_
       (refine g1f (a9 @hi @hx @zB @hw @zA @zD @tG @wG (a2 @set2 @wF)) ?_;refine zC (hap1.call zK (by simp [zJ]) _) ?_;intro p2 h2 hr2;refine g2 ?_)
       obtain ⟨rfl,rfl⟩:=hr2
       by_cases he0:e=0
       ·subst he0
        refine gf (a9 @hi @hx @zB @hw @zA @zD @tG @wG (a3 @set2 @wF @e40)) ?_
        exact ⟨([]++[d'],.vec (J.length+4) 2 [d'.c],J++[.var 60 x.c,.var 44 d'.c,.vec 44 2 1]),hV _ _ (.inr ⟨J.length+2,rfl,by simp⟩) rfl,rfl,rfl,rfl⟩
       ·have e4:(e !=0)=true:=by simp [he0]
        refine gf (a9 @hi @hx @zB @hw @zA @zD @tG @wG (a3 @set2 @wF @e4)) ?_
        exact .inl ⟨hno (if_neg he0),rfl⟩
      ·simp at hk
     ·simp only [List.length_map] at hq
      have hqR:q<J.length:=(gsi hq).1
      have hq2: ∀ z z',(J++[z,z'])[q]? =some (.vec 44 2 l.length):=fun z z'=>by rw [List.getElem?_append_left hqR];exact hq
      rcases key with ⟨k1,rfl⟩|⟨k,hk,hxk,rfl⟩
      ·have e3:decide (0≤x.parent)=false:=by simp;omega
       refine gf (a9 @hi @hx @zB @hw @zA @zD @tG @wG (a3 @set2 @wF @e3)) ?_
       (refine g1f (a9 @hi @hx @zB @hw @zA @zD @tG @wG (a2 @set2 @wF)) ?_;refine zC (hap1.call zK (by simp [zJ]) _) ?_;intro p2 h2 hr2;refine g2 ?_)
       obtain ⟨rfl,rfl⟩:=hr2
       by_cases he0:e=0
       ·subst he0
        refine gf (a9 @hi @hx @zB @hw @zA @zD @tG @wG (a4 @set2 @wF @e40 @hq2)) ?_
        refine ⟨(l++[d'],.vec (q+2) 2 ((l++[d']).map Dt.c),(J++[Blk.var 60 x.c,Blk.var 44 d'.c]).set q (Blk.vec 44 2 (l.length+1))),hV _ _ (.inr ⟨q,rfl,?_⟩) rfl,?_,?_,rfl⟩
        ·rw [List.getElem?_set_self (by simp;omega)];simp
        ·simp only [zY,xJ,List.tail_cons]
         rw [List.map_append];rfl
        ·simp only [zY,xJ,List.tail_cons]
       ·have e4:(e !=0)=true:=by simp [he0]
        refine gf (a9 @hi @hx @zB @hw @zA @zD @tG @wG (a3 @set2 @wF @e4)) ?_
        exact .inl ⟨hno (if_neg he0),rfl⟩
      ·have e3:decide (0≤x.parent)=true:=by simp;omega
       have hy:=zG (f:=Dt.c) [] hk
       refine gf (a9 @hi @hx @zB @hw @zA @zD @tG @wG (a6 @set2 @wF @e3 @hxk @hy @hk)) ?_
       (refine g1f (a9 @hi @hx @zB @hw @zA @zD @tG @wG (a2 @set2 @wF)) ?_;refine zC (hap1.call zK (by simp [zJ]) _) ?_;intro p2 h2 hr2;refine g2 ?_)
       obtain ⟨rfl,rfl⟩:=hr2
       by_cases he0:e=0
       ·subst he0
        refine gf (a9 @hi @hx @zB @hw @zA @zD @tG @wG (a4 @set2 @wF @e40 @hq2)) ?_
        refine ⟨(l++[d'],.vec (q+2) 2 ((l++[d']).map Dt.c),(J++[Blk.var 60 [lJ x.ops,i64 x.merged,i64 k],Blk.var 44 d'.c]).set q (Blk.vec 44 2 (l.length+1))),hV _ _ (.inr ⟨q,rfl,?_⟩) rfl,?_,?_,rfl⟩
        ·rw [List.getElem?_set_self (by simp;omega)];simp
        ·simp only [zY,xJ,List.tail_cons]
         rw [List.map_append];rfl
        ·simp only [zY,xJ,List.tail_cons]
       ·have e4:(e !=0)=true:=by simp [he0]
        refine gf (a9 @hi @hx @zB @hw @zA @zD @tG @wG (a3 @set2 @wF @e4)) ?_
        exact .inl ⟨hno (if_neg he0),rfl⟩
 ·rintro v h (⟨h1,rfl⟩|⟨l,h1,⟨rfl,rfl⟩|⟨q,rfl⟩⟩)
  ·rw [h1]
   exact ⟨_,by rw [zlG 39,List.map_cons,List.map_cons,List.map_nil,fzN 38,ziD 38];exact PLes.tup (.cons (PLe.nil_ts 2) (.cons (PLe.refl _) .nil)),rfl,yP 40 _ rfl⟩
  ·rw [h1]
   exact ⟨_,by rw [zlG 39,List.map_cons,List.map_cons,List.map_nil,fzN 38,ziD 38];exact PLes.tup (.cons (PLe.nil_ts 2) (.cons (PLe.refl _) .nil)),rfl,yP 40 _ rfl⟩
  ·rw [h1]
   refine ⟨_,?_,rfl,yP 40 _ (show ([dts l,bo true].all (zU 39))=true by rw [List.all_cons,zaL 33 l];rfl)⟩
   rw [zlG 39,List.map_cons,List.map_cons,List.map_nil,pD (f:=38),vE 0 h 39 _ (zaL 33 l),ziD 38]
   exact PLe.refl _
end Go.AL
namespace Go.AL
open Go.Proofs Go.Proofs.Tryz
theorem zfL (a b:List Rw) (h:Heap):ECall prog G0 192 [uN a,uN b] h fun p h'=>p= .fn (.func 217) [] [.ptr h.length 0,.ptr (h.length+1) 0]∧h'=h++[.var 70 [uN a],.var 70 [uN b]]:=by
 refine pv func192 6 false (by kernel_rfl) rfl rfl ?_
 refine g2 ?_
 refine ge ?_
 exact ⟨rfl,rfl⟩
def CombR (a b o:List Rw):Prop:=o.length≤a.length+b.length∧ ∀ x∈o,(∃ y∈a++b,x.args=y.args)∧x.w.length≤64
theorem CanR.ok {l o:List Rw} (h:CanR l o) (hok: ∀ x∈l,x.ls): ∀ x∈o,x.ok:=fun x hx=>by
 obtain ⟨y,hy,e⟩:=(h.2 x hx).1
 have:=hok y hy
 exact ⟨by rw [e];have:=this.al;omega,by rw [e];exact this.a⟩
theorem jU (a b:List Rw) (hal:a.length≤68719476736) (hbl:b.length≤68719476736) (ha: ∀ x∈a,x.ls) (hb: ∀ x∈b,x.ls) (g:FuncId) (hg: ∀ x y:List Sp,x.length≤64→y.length≤64→EPure prog G0 g [kJ x,kJ y] MomK):
  EPure prog G0 146 [uN a,uN b,.fn (.func g) [] []] fun p=> ∃ o:List Rw,p=uN o∧CombR a b o:=by
 refine ECall.cutW (R:=fun p h=> ∃ (o:List Rw) (q:Nat),(p= .nil∧o=[]∨p= .vec q 2 (o.map Rw.c))∧CombR a b o) (pv func146 35 false (by kernel_rfl) rfl rfl ?_) ?_
 refine g2 ?_
 ·refine ge ?_
  (refine g1 ?_;refine zC ((bK a hal ha).call zK (by simp) _) ?_;intro p2 h2 hr2;refine g2 ?_)
  obtain ⟨⟨a1,rfl,hca⟩,rfl⟩:=hr2
  refine ge ?_
  (refine g1 ?_;refine zC ((bK b hbl hb).call zK (by simp) _) ?_;intro p2 h2 hr2;refine g2 ?_)
  obtain ⟨⟨b1,rfl,hcb⟩,rfl⟩:=hr2
  refine ge ?_
  (refine g1 ?_;refine zC (zfL a1 b1 _) ?_;intro p2 h2 hr2;refine g2 ?_)
  obtain ⟨rfl,rfl⟩:=hr2
  refine ge ?_
  refine tT (f:=217) (fst:=[]) (cap:=[.ptr 2 0,.ptr 3 0]) (fun _ h=>h) rfl ?_
  simp only [List.toList_toArray,List.cons_append,List.nil_append,List.append_nil,List.length_cons,List.length_nil,Nat.zero_add,Nat.reduceAdd,List.singleton_append]
  generalize hL:Blk.loop _ _ _ _ _ _=L
  have h1:=hca.1
  have h2:=hcb.1
  refine (zdF _ L (fun m V J=> ∃ o:List Rw,GrowN 5 76 (o.map Rw.c) 2 J V∧o.length≤m∧ ∀ x∈o,(∃ y∈a++b,x.args=y.args)∧x.w.length≤64) ?_ (fun v=> ∃ y∈a++b,v=y.args) (a1.length+b1.length) ?_ a1 b1 ?_ ?_ (hca.ok ha) (hcb.ok hb) (Nat.le_refl _) (by omega) .nil [] ⟨[],.inl ⟨rfl,rfl⟩,Nat.le_refl _,by simp⟩).mono ?_
  ·rintro m V J b0 ⟨o,hG,ho,hK⟩
   refine ⟨o,?_,ho,hK⟩
   rcases hG with h|⟨q,h1,hq⟩
   ·exact .inl h
   ·exact .inr ⟨q,h1,by rw [List.getElem?_append_left (gsi hq).1];exact hq⟩
  ·rintro a2 b2 m V J x y ⟨o,hG,ho,hK⟩ hm hQ hxw hyw
   subst hL
   refine ⟨_,_,_,_,_,_,rfl,rfl,?_⟩
   refine uV (own:=false) _ _ _ _ ?_
   simp only [rput,List.set_cons_zero,List.set_cons_succ]
   refine gf (a6 @zA @zD @tG @wG @set2 @wF) ?_
   refine ⟨rfl,_,_,_,_,_,rfl,?_⟩
   refine uV (own:=false) _ _ _ _ ?_
   simp only [List.set_cons_zero,List.set_cons_succ]
   refine gf (a6 @zA @zD @tG @wG @set2 @wF) ?_
   (refine g1f (a6 @zA @zD @tG @wG @set2 @wF) ?_;refine zC ((hg x.w y.w hxw hyw).call zK (by simp) _) ?_;intro p2 h2 hr2;refine g2 ?_)
   obtain ⟨⟨w2,rfl,hw2⟩,rfl⟩:=hr2
   by_cases hz:0<w2.length
   ·have hz1:(0:Int)<(w2.length:Int):=by omega
    rcases hG with ⟨he,rfl⟩|⟨q,rfl,hq⟩
    ·have hon:o=[]:=by simpa using he
     subst hon
     refine gf (a8 @hz @hz1 @zA @zD @tG @wG @set2 @wF) ?_
     refine ⟨_,_,_,_,_,_,rfl,rfl,_,_,rfl,[⟨x.args,w2⟩],.inr ⟨_,rfl,?_⟩,by simp<;>omega,?_⟩
     ·simp
     ·intro z hz
      simp only [List.mem_cons,List.not_mem_nil,or_false] at hz
      subst hz
      exact ⟨hQ,hw2⟩
    ·simp only [List.length_map] at hq
     have hqR:q<J.length:=(gsi hq).1
     have hq2: ∀ z z',(J++[z,z'])[q]? =some (.vec 76 2 o.length):=fun z z'=>by rw [List.getElem?_append_left hqR];exact hq
     refine gf (a9 @hz @hz1 @zA @zD @tG @wG @set2 @wF @hq2) ?_
     refine ⟨_,_,_,_,_,_,rfl,rfl,_,_,rfl,o++[⟨x.args,w2⟩],.inr ⟨q,by rw [List.map_append];rfl,?_⟩,by simp;omega,?_⟩
     ·rw [List.getElem?_set_self (by simp;omega)];simp
     ·intro z hz
      simp only [List.mem_append,List.mem_cons,List.not_mem_nil,or_false] at hz
      rcases hz with hz|rfl
      ·exact hK z hz
      ·exact ⟨hQ,hw2⟩
   ·have hz1: ¬((0:Int)<(w2.length:Int)):=by omega
    refine gf (a8 @hz @hz1 @zA @zD @tG @wG @set2 @wF) ?_
    refine ⟨_,_,_,_,_,_,rfl,rfl,_,_,rfl,o,?_,by omega,hK⟩
    rcases hG with h|⟨q,h1,hq⟩
    ·exact .inl h
    ·exact .inr ⟨q,h1,by rw [List.getElem?_append_left (gsi hq).1];exact hq⟩
  ·intro x hx
   obtain ⟨⟨y,hy,e⟩,h3⟩:=hca.2 x hx
   exact ⟨⟨y,List.mem_append_left _ hy,e⟩,h3⟩
  ·intro x hx
   obtain ⟨⟨y,hy,e⟩,h3⟩:=hcb.2 x hx
   exact ⟨⟨y,List.mem_append_right _ hy,e⟩,h3⟩
  ·rintro p h ⟨a2,b2,m,V,J,rfl,hm,o,hG,ho,hK⟩
   subst hL
   refine ⟨_,_,_,_,_,_,rfl,by simp,?_⟩
   simp only [List.set_cons_zero,List.set_cons_succ]
   refine ge ?_
   rcases hG with ⟨he,rfl⟩|⟨q,rfl,hq⟩
   ·exact ⟨[],0,.inl ⟨rfl,rfl⟩,by simp,by simp⟩
   ·exact ⟨o,q+5,.inr rfl,by omega,hK⟩
 ·rintro p h ⟨o,q,⟨rfl,rfl⟩|rfl,hK⟩
  ·exact ⟨uN [],by rw [iQ];exact PLe.nil_ts 2,⟨[],rfl,hK⟩,by simp [xX]⟩
  ·exact ⟨uN o,by rw [rF (rE 36 o)];exact PLe.refl _,⟨o,rfl,hK⟩,yP 40 _ (rE 36 o)⟩
end Go.AL
namespace Go.AL
open Go.Proofs Go.Proofs.Tryz
theorem zdB (a b:List Rw) (hal:a.length≤68719476736) (hbl:b.length≤68719476736) (ha: ∀ x∈a,x.ls) (hb: ∀ x∈b,x.ls):EPure prog G0 106 [uN a,uN b] fun p=> ∃ o:List Rw,p=uN o∧CombR a b o:=by
 refine ECall.cut (R:=fun p _=> ∃ o:List Rw,p=uN o∧CombR a b o) (pv func106 8 false (by kernel_rfl) rfl rfl ?_) (by rintro p h ⟨o,rfl,hK⟩;exact ⟨o,vE _ _ _ _ (rE 36 o),hK⟩)
 refine g2 ?_
 refine ge ?_
 (refine g1 ?_;refine zC ((jU a b hal hbl ha hb 148 fun x y hx hy=>ze0 x y (by omega) (by omega)).call zK (by simp [yO]) _) ?_;intro p2 h2 hr2;refine g2 ?_)
 obtain ⟨⟨o,rfl,hK⟩,rfl⟩:=hr2
 refine ge ?_
 exact ⟨o,rfl,hK⟩
theorem zdC (a b:List Rw) (hal:a.length≤68719476736) (hbl:b.length≤68719476736) (ha: ∀ x∈a,x.ls) (hb: ∀ x∈b,x.ls):EPure prog G0 105 [uN a,uN b] fun p=> ∃ o:List Rw,p=uN o∧CombR a b o:=by
 refine ECall.cut (R:=fun p _=> ∃ o:List Rw,p=uN o∧CombR a b o) (pv func105 8 false (by kernel_rfl) rfl rfl ?_) (by rintro p h ⟨o,rfl,hK⟩;exact ⟨o,vE _ _ _ _ (rE 36 o),hK⟩)
 refine g2 ?_
 refine ge ?_
 (refine g1 ?_;refine zC ((jU a b hal hbl ha hb 147 fun x y hx hy=>zfO x y (by omega) (by omega)).call zK (by simp [yO]) _) ?_;intro p2 h2 hr2;refine g2 ?_)
 obtain ⟨⟨o,rfl,hK⟩,rfl⟩:=hr2
 refine ge ?_
 exact ⟨o,rfl,hK⟩
theorem zdR (a:List Rw) (args:List Vl) (w:List Sp) (hal:a.length≤68719476736) (ha: ∀ x∈a,x.ls) (hx:(Rw.mk args w).ls):EPure prog G0 81 [uN a,pH args,kJ w] fun p=> ∃ o:List Rw,p=uN o∧CombR a [⟨args,w⟩] o:=by
 refine ECall.cut (R:=fun p _=> ∃ o:List Rw,p=uN o∧CombR a [⟨args,w⟩] o) (pv func81 13 false (by kernel_rfl) rfl rfl ?_) (by rintro p h ⟨o,rfl,hK⟩;exact ⟨o,vE _ _ _ _ (rE 36 o),hK⟩)
 refine g2 ?_
 refine ge ?_
 (refine g1 ?_;refine zC (((zdB a [⟨args,w⟩] hal (by simp) ha (by simpa using hx)).call zK (by simp) _).args (.cons (PLe.refl _) (.cons (PLe.tc_ts 2 _) .nil))) ?_;intro p2 h2 hr2;refine g2 ?_)
 obtain ⟨⟨o,rfl,hK⟩,rfl⟩:=hr2
 refine ge ?_
 exact ⟨o,rfl,hK⟩
theorem gT (a:List Rw) (args:List Vl) (w:List Sp) (hal:a.length≤68719476736) (ha: ∀ x∈a,x.ls) (hx:(Rw.mk args w).ls):EPure prog G0 80 [uN a,pH args,kJ w] fun p=> ∃ o:List Rw,p=uN o∧CombR a [⟨args,w⟩] o:=by
 refine ECall.cut (R:=fun p _=> ∃ o:List Rw,p=uN o∧CombR a [⟨args,w⟩] o) (pv func80 13 false (by kernel_rfl) rfl rfl ?_) (by rintro p h ⟨o,rfl,hK⟩;exact ⟨o,vE _ _ _ _ (rE 36 o),hK⟩)
 refine g2 ?_
 refine ge ?_
 (refine g1 ?_;refine zC (((zdC a [⟨args,w⟩] hal (by simp) ha (by simpa using hx)).call zK (by simp) _).args (.cons (PLe.refl _) (.cons (PLe.tc_ts 2 _) .nil))) ?_;intro p2 h2 hr2;refine g2 ?_)
 obtain ⟨⟨o,rfl,hK⟩,rfl⟩:=hr2
 refine ge ?_
 exact ⟨o,rfl,hK⟩
end Go.AL
namespace Go.AL
open Go.Proofs Go.Proofs.Tryz
@[go_sem] def URel12f43.pl:Nat→DPlan
 |4=>⟨[yA,yB,yA,yA,yA,yA,yA,yA,yB,yA,yA,yA,yA,yA,yB,yC,yA,yA,yA,yA,yA,yA,yA,yA,yA,yA,yB,yB,yC,yA,yA,yA],iot32,0⟩
 |9=>⟨[yA,yB,yA,yA,yA,yB,yA,yA,yB,yC,yA,yA],xF,0⟩
 |_=>⟨[],[],0⟩
def RvK (types:List Int) (x:Rw):Prop:=x.args.length=types.length∧x.w.length≤64
open URel12f43 in
theorem dU (types:List Int) (l:List Rw) (ht:types.length≤140737488355328) (hl:l.length≤140737488355328) (hok: ∀ x∈l,x.lt):EB 43 [vF types,uN l] fun b=>b=true→ ∀ x∈l,RvK types x:=by
 refine ECall.cut (R:=fun p _=> ∃ b:Bool,p=bo b∧(b=true→ ∀ x∈l,RvK types x)) (pv func43 70 false (by kernel_rfl) rfl rfl ?_) (by rintro p h ⟨b,rfl,hb⟩;exact ⟨b,rfl,hb⟩)
 refine g2 ?_
 refine ge ?_
 refine zO l.length (K4 (D4 (.d:: .k:: .k:: .v::D9 (D9 (D9 (D9 (D9 (D9 (D4 ([])))))))))) (own:=false) (fun i (_:Heap)=>[i64 i]) (fun J=>J) (fun i _=> ∀ (j:Nat) (h:j<l.length),j<i→RvK types l[j]) [] rfl rfl (fun j _ hj=>absurd hj (Nat.not_lt_zero _)) hl ?_ ?_
 ·rintro J hI
  refine gm ?_
  refine gf @zM ?_
  exact ⟨true,rfl,fun _ x hx=>(by obtain ⟨j,hj,rfl⟩:=List.getElem_of_mem hx;exact hI j hj hj)⟩
 ·rintro i J hi hw hI
  refine gm ?_
  have hx:=zG (f:=Rw.c) [] hi
  have hxl:=hok _ (List.getElem_mem hi)
  have hprev: ∀ k,k<l.length→(l.map Rw.c).getD k []=Rw.c (l.getD k ⟨[],[]⟩)∧(l.getD k ⟨[],[]⟩).ok:=fun k hk=>by
   rw [zG (f:=Rw.c) [] hk,List.getD_eq_getElem?_getD,List.getElem?_eq_getElem hk]
   exact ⟨rfl,(hok _ (List.getElem_mem hk)).ok⟩
  by_cases h1:l[i].args.length=types.length
  ·have e1:((l[i].args.length:Int)!=(types.length:Int))=false:=by simp [h1]
   by_cases h2:l[i].w.length=0
   ·have e2:((l[i].w.length:Int)==0)=true:=by simp [h2]
    clear hw
    have hw:True:=trivial
    refine gf (a7 @hi @hx @zB @zA @zD @e1 @e2) ?_
    exact ⟨false,rfl,by simp⟩
   ·have e2:((l[i].w.length:Int)==0)=false:=by rw [beq_eq_false_iff_ne];omega
    generalize hxx:l[i]=x at*
    (repeat (first|refine gz ?_|(refine gn ?_;intro zs zh;(try simp only [go_sem,hi,hx,zB,hw,zA,zD,e1,e2] at zh);subst zh;(first|refine gv ?_|((first|refine zC ((fA x.w (by have:=hxl.w;omega)).call zK (by simp) _) ?_|refine zP (by decide) (by decide) ((fA x.w (by have:=hxl.w;omega)).call zK (by simp) _) ?_);intro p2 h2 hr2;obtain ⟨hr2,rfl⟩:=hr2;first|obtain ⟨_,rfl,hr2⟩:=hr2|obtain ⟨_,rfl⟩:=hr2|subst hr2|skip)))|refine yD URel12f43.pl ?_))
    rename_i w
    cases w
    ·refine ge ?_
     exact ⟨false,rfl,by simp⟩
    ·have hw64:=hr2 rfl
     by_cases h0:0<i
     ·have h01:(0:Int)<(i:Int):=by omega
      have wi:IntKind.i64.wrap ((i:Int)-1)=((i-1:Nat):Int):=by rw [xM (by omega) (by omega)];omega
      have hi1:i-1<l.length:=by omega
      obtain ⟨hp,hpo⟩:=hprev (i-1) hi1
      generalize l.getD (i-1) ⟨[],[]⟩=y at*
      have hby:=uS y x hpo hxl.ok
      generalize hcc:sD y.args x.args=c at*
      by_cases hc0:0≤c
      ·(repeat (first|refine gz ?_|(refine gn ?_;intro zs zh;(try simp only [go_sem,h0,h01,wi,hi1,hp,zB,zA,hc0] at zh);subst zh;(first|refine gv ?_|((first|refine zC (hby.call zK (by simp [zJ]) _) ?_|refine zP (by decide) (by decide) (hby.call zK (by simp [zJ]) _) ?_);intro p2 h2 hr2;obtain ⟨hr2,rfl⟩:=hr2;first|obtain ⟨_,rfl,hr2⟩:=hr2|obtain ⟨_,rfl⟩:=hr2|subst hr2|skip)))|refine yD URel12f43.pl ?_))
       exact ⟨false,rfl,by simp⟩
      ·(repeat (first|refine gz ?_|(refine gn ?_;intro zs zh;(try simp only [go_sem,h0,h01,wi,hi1,hp,zB,zA,hc0] at zh);subst zh;(first|refine gv ?_|((first|refine zC (hby.call zK (by simp [zJ]) _) ?_|refine zP (by decide) (by decide) (hby.call zK (by simp [zJ]) _) ?_);intro p2 h2 hr2;obtain ⟨hr2,rfl⟩:=hr2;first|obtain ⟨_,rfl,hr2⟩:=hr2|obtain ⟨_,rfl⟩:=hr2|subst hr2|skip)))|refine yD URel12f43.pl ?_))
       refine zO x.args.length (K4 (.d:: .k:: .k:: .d:: .d::K9 (K9 (K9 (K9 (K4 (.k:: .k:: .v::D9 (D4 (D4 (.k::[])))))))))) (own:=false) (fun j (_:Heap)=>[i64 j]) (fun J=>J) (fun _ _=>True) _ rfl rfl trivial (by have:=hxl.al;omega) ?_ ?_
       ·rintro J2 _
        refine gm ?_
        refine gf (a2 @zM @hw) ?_
        refine ⟨J2,fun j h hj=> ?_,rfl,rfl,rfl⟩
        rcases Nat.lt_or_ge j i with hji|hji
        ·exact hI j h hji
        ·have:j=i:=by omega
         subst this
         rw [hxx];exact ⟨h1,hw64⟩
       ·rintro j J2 hj hwj _
        refine gm ?_
        have hv:=zG (f:=Vl.c) [] hj
        have hjt:j<types.length:=by omega
        have htj:=zG (f:=fun n:Int=>[i64 n]) [] hjt
        generalize x.args[j]=v at*
        generalize types[j]=ty at*
        by_cases hty:v.t=ty
        ·have e3:(v.t !=ty)=false:=by simp [hty]
         (repeat (first|refine gz ?_|(refine gn ?_;intro zs zh;(try simp only [go_sem,hj,hv,htj,hjt,zB,hwj,zA,zD,e3] at zh);subst zh;(first|refine gv ?_|((first|refine zC ((qE v).call zK (by simp [zJ]) _) ?_|refine zP (by decide) (by decide) ((qE v).call zK (by simp [zJ]) _) ?_);intro p2 h2 hr2;obtain ⟨hr2,rfl⟩:=hr2;first|obtain ⟨_,rfl,hr2⟩:=hr2|obtain ⟨_,rfl⟩:=hr2|subst hr2|skip)))|refine yD URel12f43.pl ?_))
         rename_i b
         cases b
         ·refine ge ?_
          exact ⟨false,rfl,by simp⟩
         ·refine gf @hwj ?_
          exact ⟨_,trivial,rfl,rfl,rfl⟩
        ·have e3:(v.t !=ty)=true:=by simp [hty]
         refine gf (a9 @hj @hv @htj @hjt @zB @hwj @zA @zD @e3) ?_
         exact ⟨false,rfl,by simp⟩
     ·have h01: ¬((0:Int)<(i:Int)):=by omega
      refine gf (a3 @h0 @h01 @zA) ?_
      refine zO x.args.length (K4 (.d:: .k:: .k:: .d:: .d::K9 (K9 (K9 (K9 (K4 (.k:: .k:: .v::D9 (D4 (D4 (.k::[])))))))))) (own:=false) (fun j (_:Heap)=>[i64 j]) (fun J=>J) (fun _ _=>True) _ rfl rfl trivial (by have:=hxl.al;omega) ?_ ?_
      ·rintro J2 _
       refine gm ?_
       refine gf (a2 @zM @hw) ?_
       refine ⟨J2,fun j h hj=> ?_,rfl,rfl,rfl⟩
       rcases Nat.lt_or_ge j i with hji|hji
       ·exact hI j h hji
       ·have:j=i:=by omega
        subst this
        rw [hxx];exact ⟨h1,hw64⟩
      ·rintro j J2 hj hwj _
       refine gm ?_
       have hv:=zG (f:=Vl.c) [] hj
       have hjt:j<types.length:=by omega
       have htj:=zG (f:=fun n:Int=>[i64 n]) [] hjt
       generalize x.args[j]=v at*
       generalize types[j]=ty at*
       by_cases hty:v.t=ty
       ·have e3:(v.t !=ty)=false:=by simp [hty]
        (repeat (first|refine gz ?_|(refine gn ?_;intro zs zh;(try simp only [go_sem,hj,hv,htj,hjt,zB,hwj,zA,zD,e3] at zh);subst zh;(first|refine gv ?_|((first|refine zC ((qE v).call zK (by simp [zJ]) _) ?_|refine zP (by decide) (by decide) ((qE v).call zK (by simp [zJ]) _) ?_);intro p2 h2 hr2;obtain ⟨hr2,rfl⟩:=hr2;first|obtain ⟨_,rfl,hr2⟩:=hr2|obtain ⟨_,rfl⟩:=hr2|subst hr2|skip)))|refine yD URel12f43.pl ?_))
        rename_i b
        cases b
        ·refine ge ?_
         exact ⟨false,rfl,by simp⟩
        ·refine gf @hwj ?_
         exact ⟨_,trivial,rfl,rfl,rfl⟩
       ·have e3:(v.t !=ty)=true:=by simp [hty]
        refine gf (a9 @hj @hv @htj @hjt @zB @hwj @zA @zD @e3) ?_
        exact ⟨false,rfl,by simp⟩
  ·have e1:((l[i].args.length:Int)!=(types.length:Int))=true:=by simp;omega
   refine gf (a6 @hi @hx @zB @zA @zD @e1) ?_
   exact ⟨false,rfl,by simp⟩
end Go.AL
