/-
  Base data, plainly: operations exchanged; an operation told over.
-/
import Derived.Test.YtcffidhiaihbkaaGreatDoorY44
set_option linter.unusedSimpArgs false
set_option linter.unusedVariables false
set_option maxRecDepth 100000
set_option maxHeartbeats 4000000
namespace Go.AL
open Go.Proofs Go.Proofs.Tryz
@[go_sem] def USamef24.pl:Nat→DPlan
 |6=>⟨[yA,yB,yA,yA,yB,yA,yB,yA,yA,yB,yC,yA],xF,0⟩
 |11=>⟨[yA,yB,yA,yA,yB,yA,yB,yA,yA,yB,yC,yA],xF,0⟩
 |_=>⟨[],[],0⟩
@[go_sem] def USamef31.pl:Nat→DPlan
 |6=>⟨[yA,yA,yA,yA,yB,yA,yA,yA,yA,yB,yC,yA,yA,yA,yA,yA,yA,yB,yA,yA,yA,yA,yB,yC,yA,yA],iot26,0⟩
 |_=>⟨[],[],0⟩
@[go_sem] def USamef55.pl:Nat→DPlan
 |6=>⟨[yA,yA,yA,yA,yB,yA,yA,yA,yA,yB,yC,yA,yA,yA,yA,yA,yA,yB,yA,yA,yA,yA,yA,yB,yA,yA,yA],iot27,0⟩
 |11=>⟨[yA,yA,yA,yA,yB,yA,yA,yB,yA,yA,yA,yA,yB,yA,yA,yB,yA],wR,0⟩
 |_=>⟨[],[],0⟩
@[go_sem] def USamef57.pl:Nat→DPlan
 |4=>⟨[yA,yA,yA,yB,yA,yA,yA,yB,yC,yA],xS,0⟩
 |_=>⟨[],[],0⟩
@[go_sem] def USamef58.pl:Nat→DPlan
 |6=>⟨[yA,yA,yA,yB,yA,yA,yA,yB,yA],uW,0⟩
 |_=>⟨[],[],0⟩
@[go_sem] def USamef126.pl:Nat→DPlan
 |4=>⟨[yA,yA,yA,yA,yA,yA,yA],tV,0⟩
 |5=>⟨[yA,yA,yA,yA,yA,yA,yA,yA,yC,yA],xS,0⟩
 |_=>⟨[],[],0⟩
theorem zdA (a:Int):EPure prog G0 85 [i64 a,i64 a] fun p=>p=i64 0:=by
 refine ECall.pure (pv func85 11 false (by kernel_rfl) rfl rfl ?_)
 refine g2 ?_
 have h1:decide (a<a)=false:=by simp
 refine gf @h1 ?_
 exact ⟨⟨rfl,.sc⟩,rfl⟩
open USamef126 in
theorem zm3 (s:BA) (hs:s.size≤140737488355328):EPure prog G0 126 [yQ s,yQ s] fun p=>p=i64 0:=by
 refine ECall.pure (pv func126 39 false (by kernel_rfl) rfl rfl ?_)
 refine g2 ?_
 refine ge ?_
 refine zO s.size (K4 (.d:: .v::D9 (D9 (D9 (.d::K4 (.k::[])))))) (own:=false) (fun i (_:Unit)=>[i64 i]) (fun _=>_) (fun _ _=>True) () rfl rfl trivial hs ?_ ?_
 ·rintro _ _
  refine gm ?_
  refine gf @zM ?_
  (refine g1 ?_;refine zC ((zdA s.size).call zK (by simp) _) ?_;intro p2 h2 hr2;refine g2 ?_)
  obtain ⟨rfl,rfl⟩:=hr2
  refine ge ?_
  exact ⟨⟨rfl,.sc⟩,rfl⟩
 ·rintro i _ hi hw _
  refine gm ?_
  have hi2:decide ((i:Int)<(s.size:Int))=true:=by simp;omega
  have hi3:((i:Int)<(s.size:Int))=True:=eq_true (by omega)
  (repeat (first|refine gz ?_|(refine gn ?_;intro zs zh;(try simp only [go_sem,hi,hw,hi2,hi3,zB,bne_self_eq_false] at zh);subst zh;refine gv ?_)|refine yD USamef126.pl ?_))
  exact ⟨(),trivial,rfl,rfl,rfl⟩
theorem zsB (v:Vl) (hs:v.s.size≤140737488355328):EPure prog G0 84 [.agg v.c,.agg v.c] fun p=>p=i64 0:=by
 refine ECall.cut (R:=fun p _=>p=i64 0) (pv func84 30 false (by kernel_rfl) rfl rfl ?_) (by rintro p h rfl;rfl)
 refine g2 ?_
 (repeat (first|refine gz ?_|(refine gn ?_;intro zs zh;(try simp only [go_sem,bne_self_eq_false] at zh);subst zh;refine gv ?_)))
 (refine g1 ?_;refine zC ((zm3 v.s hs).call zK (by simp) _) ?_;intro p2 h2 hr2;refine g2 ?_)
 obtain ⟨rfl,rfl⟩:=hr2
 refine ge ?_
 rfl
open USamef57 in
theorem zdH (l:List Vl) (hl:l.length≤140737488355328) (hs: ∀ v∈l,v.s.size≤140737488355328):EPure prog G0 57 [pH l,pH l] fun p=>p=i64 0:=by
 refine ECall.pure (pv func57 36 false (by kernel_rfl) rfl rfl ?_)
 refine g2 ?_
 refine ge ?_
 refine zO l.length (K4 (.d:: .v::D9 (D9 (D4 (.d:: .d:: .d::K4 (.k::[])))))) (own:=false) (fun i (_:Unit)=>[i64 i]) (fun _=>_) (fun _ _=>True) () rfl rfl trivial hl ?_ ?_
 ·rintro _ _
  refine gm ?_
  refine gf @zM ?_
  (refine g1 ?_;refine zC ((zdA l.length).call zK (by simp) _) ?_;intro p2 h2 hr2;refine g2 ?_)
  obtain ⟨rfl,rfl⟩:=hr2
  refine ge ?_
  exact ⟨⟨rfl,.sc⟩,rfl⟩
 ·rintro i _ hi hw _
  refine gm ?_
  have hx:=zG (f:=Vl.c) [] hi
  have hsx:=hs _ (List.getElem_mem hi)
  generalize l[i]=x at*
  refine gf (a4 @hi @hx @hw @zB) ?_
  (refine zF rfl rfl rfl ?_;intro zs zh;simp only [go_sem,hi,hx,hw,zB] at zh;subst zh;refine zP (by decide) (by decide) ((zsB x hsx).call zK (by simp [zJ]) _) ?_;intro p2 h2 hr2 ts2 hts;simp only [go_sem] at hts;subst hts)
  obtain ⟨rfl,rfl⟩:=hr2
  have h0:((0:Int)!=0)=false:=rfl
  refine gf (a5 @hi @hx @hw @zB @h0) ?_
  exact ⟨(),trivial,rfl,rfl,rfl⟩
theorem zqP (l:List Vl) (hl:l.length≤140737488355328) (hs: ∀ v∈l,v.s.size≤140737488355328):EPure prog G0 80 [pH l,pH l] fun p=>p=bo true:=by
 refine ECall.pure (pv func80 9 false (by kernel_rfl) rfl rfl ?_)
 refine g2 ?_
 refine ge ?_
 (refine g1 ?_;refine zC ((zdH l hl hs).call zK (by simp) _) ?_;intro p2 h2 hr2;refine g2 ?_)
 obtain ⟨rfl,rfl⟩:=hr2
 have h0:((0:Int)==0)=true:=rfl
 refine gf @h0 ?_
 exact ⟨⟨rfl,.sc⟩,rfl⟩
theorem eqSp2 (a b c d:Int):sE (α:=Prop) prog 36 (.agg [i64 a,i64 b]) (.agg [i64 c,i64 d])=some (a==c&&(b==d&&true),True):=by kernel_rfl
open USamef58 in
theorem zqR (l:List Sp) (hl:l.length≤140737488355328):EPure prog G0 58 [kJ l,kJ l] fun p=>p=bo true:=by
 refine ECall.pure (pv func58 26 false (by kernel_rfl) rfl rfl ?_)
 refine g2 ?_
 have h0:((l.length:Int)!=(l.length:Int))=false:=by simp
 refine gf @h0 ?_
 refine zO l.length (K4 (.d:: .v::K4 (.k::D9 (D4 (.d:: .d::[]))))) (own:=false) (fun i (_:Unit)=>[i64 i]) (fun _=>_) (fun _ _=>True) () rfl rfl trivial hl ?_ ?_
 ·rintro _ _
  refine gm ?_
  refine gf @zM ?_
  exact ⟨⟨rfl,.sc⟩,rfl⟩
 ·rintro i _ hi hw _
  refine gm ?_
  have hx:=zG (f:=Sp.c) [] hi
  generalize l[i]=x at*
  refine gf (a5 @hi @hx @hw @zB @eqSp2) ?_
  exact ⟨(),trivial,rfl,rfl,rfl⟩
def Rw.cm (x:Rw):Prop:=x.args.length≤140737488355328∧(∀ v∈x.args,v.s.size≤140737488355328)∧x.w.length≤140737488355328
def LRw.cm (x:LRw):Prop:=x.args.length≤140737488355328∧(∀ v∈x.args,v.s.size≤140737488355328)∧x.cs.length≤140737488355328
open USamef31 in
theorem zm7 (l:List Rw) (hl:l.length≤140737488355328) (hs: ∀ x∈l,x.cm):EPure prog G0 31 [uN l,uN l] fun p=>p=bo true:=by
 refine ECall.pure (pv func31 43 false (by kernel_rfl) rfl rfl ?_)
 refine g2 ?_
 have h0:((l.length:Int)!=(l.length:Int))=false:=by simp
 refine gf @h0 ?_
 refine zO l.length (K4 (.d:: .v::K4 (.k::D9 (D9 (D9 (D4 (.d::[]))))))) (own:=false) (fun i (_:Unit)=>[i64 i]) (fun _=>_) (fun _ _=>True) () rfl rfl trivial hl ?_ ?_
 ·rintro _ _
  refine gm ?_
  refine gf @zM ?_
  exact ⟨⟨rfl,.sc⟩,rfl⟩
 ·rintro i _ hi hw _
  refine gm ?_
  have hx:=zG (f:=Rw.c) [] hi
  obtain ⟨h1,h2,h3⟩:=hs _ (List.getElem_mem hi)
  generalize l[i]=x at*
  have h4:((0:Int)!=0)=false:=rfl
  refine gf (a4 @hi @hx @hw @zB) ?_
  (refine zF rfl rfl rfl ?_;intro zs zh;simp only [go_sem,hi,hx,hw,zB] at zh;subst zh;refine zP (by decide) (by decide) ((zdH x.args h1 h2).call zK (by simp) _) ?_;intro p2 h2 hr2 ts2 hts;simp only [go_sem] at hts;subst hts)
  obtain ⟨rfl,rfl⟩:=hr2
  refine gf (a5 @hi @hx @hw @zB @h4) ?_
  (refine vY ?_;refine zN rfl rfl rfl ?_;intro sr hsr;simp only [sK,wP] at hsr;subst hsr;(first|refine pK ?_|refine pL ?_);intro sr hsr;simp only [go_sem,hi,hx,hw,zB,h4] at hsr;subst hsr;refine zP (by decide) (by decide) ((zqR x.w h3).call zK (by simp) _) ?_;intro p2 h2 hr2 ts2 hts;simp only [go_sem] at hts;subst hts)
  obtain ⟨rfl,rfl⟩:=hr2
  refine gf (a5 @hi @hx @hw @zB @h4) ?_
  exact ⟨(),trivial,rfl,rfl,rfl⟩
open USamef55 in
theorem zm6 (l:List LRw) (hl:l.length≤140737488355328) (hs: ∀ x∈l,x.cm):EPure prog G0 55 [vD l,vD l] fun p=>p=bo true:=by
 refine ECall.pure (pv func55 72 false (by kernel_rfl) rfl rfl ?_)
 refine g2 ?_
 have h0:((l.length:Int)!=(l.length:Int))=false:=by simp
 refine gf @h0 ?_
 refine zO l.length (K4 (.d:: .v:: .d::K4 (.k::D9 (D9 (D9 (D9 (D9 (D9 (D4 (.d:: .d::[])))))))))) (own:=false) (fun i (_:Unit)=>[i64 i]) (fun _=>_) (fun _ _=>True) () rfl rfl trivial hl ?_ ?_
 ·rintro _ _
  refine gm ?_
  refine gf @zM ?_
  exact ⟨⟨rfl,.sc⟩,rfl⟩
 ·rintro i _ hi hw _
  refine gm ?_
  have hx:=zG (f:=LRw.c) [] hi
  obtain ⟨h1,h2,h3⟩:=hs _ (List.getElem_mem hi)
  generalize l[i]=x at*
  have h4:((x.cs.length:Int)!=(x.cs.length:Int))=false:=by simp
  refine gf (a4 @hi @hx @hw @zB) ?_
  (refine zF rfl rfl rfl ?_;intro zs zh;simp only [go_sem,hi,hx,hw,zB] at zh;subst zh;refine zP (by decide) (by decide) ((zqP x.args h1 h2).call zK (by simp) _) ?_;intro p2 h2 hr2 ts2 hts;simp only [go_sem] at hts;subst hts)
  obtain ⟨rfl,rfl⟩:=hr2
  refine gf (a5 @hi @hx @hw @zB @h4) ?_
  refine zO x.cs.length (K4 (.d:: .k:: .v::K9 (K9 (K9 (K9 (.k:: .k::D9 (D9 (D9 ([]))))))))) (own:=false) (fun i (_:Unit)=>[i64 i]) (fun _=>_) (fun _ _=>True) () rfl rfl trivial h3 ?_ ?_
  ·rintro _ _
   refine gm ?_
   refine gf (a5 @hi @hx @hw @zB @zM) ?_
   exact ⟨(),trivial,rfl,rfl,rfl⟩
  ·rintro k _ hk hw2 _
   refine gm ?_
   have hy:=zG (f:=Ce.c) [] hk
   generalize x.cs[k]=y at*
   refine gf (a8 @hi @hx @hw @zB @hk @hy @hw2 @zs8) ?_
   exact ⟨(),trivial,rfl,rfl,rfl⟩
def Dt.cm (d:Dt):Prop:=d.rels.length≤140737488355328∧d.lats.length≤140737488355328∧(∀ r∈d.rels,r.length≤140737488355328∧ ∀ x∈r,x.cm)∧ ∀ r∈d.lats,r.length≤140737488355328∧ ∀ x∈r,x.cm
theorem znT {d:Dt} (h:d.sz):d.cm:=
 ⟨by have:=h.rl;omega,by have:=h.ll;omega,fun r hr=>⟨by have:=(h.r r hr).1;omega,fun x hx=>by
  have k:=(h.r r hr).2 x hx
  exact ⟨by have:=k.al;omega,k.a,by have:=k.w;omega⟩⟩,fun r hr=>⟨by have:=(h.l r hr).1;omega,fun x hx=>by
  have k:=(h.l r hr).2 x hx
  exact ⟨by omega,h.s r hr x hx,by omega⟩⟩⟩
open USamef24 in
theorem pP (d:Dt) (hd:d.cm):EPure prog G0 24 [.agg d.c,.agg d.c] fun p=>p=bo true:=by
 obtain ⟨d1,d2,d3,d4⟩:=hd
 refine ECall.cut (R:=fun p _=>p=bo true) (pv func24 61 false (by kernel_rfl) rfl rfl ?_) (by rintro p h rfl;rfl)
 refine g2 ?_
 have h0:((d.rels.length:Int)!=(d.rels.length:Int))=false:=by simp
 have h1:((d.lats.length:Int)!=(d.lats.length:Int))=false:=by simp
 refine gf (a2 @h0 @h1) ?_
 refine zO d.rels.length (K4 (.d:: .v::K9 (K4 (K4 (D9 (D9 (.d::K9 (K9 (.k::[]))))))))) (own:=false) (fun i (_:Unit)=>[i64 i]) (fun _=>_) (fun _ _=>True) () rfl rfl trivial d1 ?_ ?_
 ·rintro _ _
  refine gm ?_
  refine gf @zM ?_
  refine zO d.lats.length (K4 (.d:: .k:: .v::K9 (K9 (K9 (K4 (K4 (D9 (D9 (.d::[]))))))))) (own:=false) (fun i (_:Unit)=>[i64 i]) (fun _=>_) (fun _ _=>True) () rfl rfl trivial d2 ?_ ?_
  ·rintro _ _
   refine gm ?_
   refine gf @zM ?_
   rfl
  ·rintro i _ hi hw _
   refine gm ?_
   have hx:=zG (f:=fun r:List LRw=>[vD r]) [] hi
   obtain ⟨k1,k2⟩:=d4 _ (List.getElem_mem hi)
   generalize d.lats[i]=x at*
   refine gf (a4 @hi @hx @hw @zB) ?_
   (refine zF rfl rfl rfl ?_;intro zs zh;simp only [go_sem,hi,hx,hw,zB] at zh;subst zh;refine zP (by decide) (by decide) ((zm6 x k1 k2).call zK (by simp) _) ?_;intro p2 h2 hr2 ts2 hts;simp only [go_sem] at hts;subst hts)
   obtain ⟨rfl,rfl⟩:=hr2
   refine gf (a4 @hi @hx @hw @zB) ?_
   exact ⟨(),trivial,rfl,rfl,rfl⟩
 ·rintro i _ hi hw _
  refine gm ?_
  have hx:=zG (f:=fun r:List Rw=>[uN r]) [] hi
  obtain ⟨k1,k2⟩:=d3 _ (List.getElem_mem hi)
  generalize d.rels[i]=x at*
  refine gf (a4 @hi @hx @hw @zB) ?_
  (refine zF rfl rfl rfl ?_;intro zs zh;simp only [go_sem,hi,hx,hw,zB] at zh;subst zh;refine zP (by decide) (by decide) ((zm7 x k1 k2).call zK (by simp) _) ?_;intro p2 h2 hr2 ts2 hts;simp only [go_sem] at hts;subst hts)
  obtain ⟨rfl,rfl⟩:=hr2
  refine gf (a4 @hi @hx @hw @zB) ?_
  exact ⟨(),trivial,rfl,rfl,rfl⟩
end Go.AL
namespace Go.AL
open Go.Proofs Go.Proofs.Tryz
@[go_sem] def ULaw1f6.pp:Nat→DPlan
 |8=>⟨[yA,yA,yA,yA,yB,yA,yA,yA,yB,yA,yC,yA],xF,0⟩
 |14=>⟨[yE,yE,yA,yA,yE,uX,yA,yA,yA,vC,yC,yA],xF,1⟩
 |15=>⟨[yE,yE,yA,yA,yE,uX,yA,yA,yA,vC,yC,yA],xF,1⟩
 |_=>⟨[],[],0⟩
@[go_sem] def ULaw1f6.pl:Nat→DPlan
 |8=>⟨[yA,yA,yA,yA,yB,yA,yA,yA,yB,yA,yC,yA],xF,0⟩
 |14=>⟨[yE,yE,yA,yA,yE,rK,yA,yA,yA,vC,yC,yA],xF,1⟩
 |15=>⟨[yE,yE,yA,yA,yE,rK,yA,yA,yA,vC,yC,yA],xF,1⟩
 |_=>⟨[],[],0⟩
end Go.AL
namespace Go.AL
open Go.Proofs Go.Proofs.Tryz
def zs1 (n:Int):List UInt8:=(List.range 8).map (vT n)
def ziU (x:Vl):List UInt8:=zs1 x.t++(zs1 x.n++(zs1 x.s.size++x.s.data.toList))
theorem zq3 (b:BA) (c:UInt8):(b.push c).data.toList=b.data.toList++[c]:=by
 show (b.data.push c).toList=_
 simp
theorem zbB (n:Int) (bs:BA): ∀ k,(b8 n bs k).data.toList=bs.data.toList++(List.range k).map (vT n)
 |0=>by simp [b8]
 |k+1=>by rw [znE,zq3,zbB n bs k,List.range_succ,List.map_append,List.append_assoc];rfl
theorem zrF (bs:BA) (x:Vl):(znJ bs x).data.toList=bs.data.toList++ziU x:=by
 have h0:ztA x bs 0=bs:=rfl
 have happ: ∀ a b:BA,(a++b).data.toList=a.data.toList++b.data.toList:=fun a b=>by simp
 rw [zm9,happ,fK,zbB,fK,zbB,fK,zbB,h0]
 unfold ziU zs1
 simp only [List.append_assoc]
 rfl
theorem fQ: ∀ (l:List Vl) (bs:BA),(l.foldl znJ bs).data.toList=bs.data.toList++l.flatMap ziU
 | [],bs=>by simp
 |x::l,bs=>by rw [List.foldl_cons,fQ l,zrF,List.flatMap_cons,List.append_assoc]
theorem pG (n:Int):(zs1 n).length=8:=by simp [zs1]
theorem zgD {n m:Int} (hn:0≤n∧n≤9999) (hm:0≤m∧m≤9999) (h:zs1 n=zs1 m):n=m:=by
 have h0:vT n 0=vT m 0:=by have:=congrArg (fun l=>l.getD 0 0) h;simpa [zs1,List.range_succ] using this
 have h1:vT n 1=vT m 1:=by have:=congrArg (fun l=>l.getD 1 0) h;simpa [zs1,List.range_succ] using this
 have a0:=ziJ n 0
 have b0:=ziJ m 0
 have a1:=ziJ n 1
 have b1:=ziJ m 1
 rw [h0] at a0
 rw [h1] at a1
 rw [←b0] at a0
 rw [←b1] at a1
 simp only [IntKind.wrap_u8] at a0 a1
 simp at a0 a1
 omega
theorem zhN: ∀ {a b:List Vl},(∀ v∈a,VvK v)→(∀ v∈b,VvK v)→a.flatMap ziU=b.flatMap ziU→a=b
 | [],[],_,_,_=>rfl
 | [],y::b,_,_,h=>by
  have:=congrArg List.length h
  simp [ziU,pG] at this
  omega
 |x::a,[],_,_,h=>by
  have:=congrArg List.length h
  simp [ziU,pG] at this
 | x::a,y::b,ha,hb,h=>by
  rw [List.flatMap_cons,List.flatMap_cons] at h
  unfold ziU at h
  simp only [List.append_assoc] at h
  obtain ⟨h1,h⟩:=List.append_inj h (by rw [pG,pG])
  obtain ⟨h2,h⟩:=List.append_inj h (by rw [pG,pG])
  obtain ⟨h3,h⟩:=List.append_inj h (by rw [pG,pG])
  obtain ⟨x1,x2,x3,x4⟩:=ha x (List.mem_cons_self ..)
  obtain ⟨y1,y2,y3,y4⟩:=hb y (List.mem_cons_self ..)
  have e1:=zgD (by omega) (by omega) h1
  have e2:=zgD ⟨x3,x4⟩ ⟨y3,y4⟩ h2
  have e3:=zgD (by omega) (by omega) h3
  have hsz:x.s.data.toList.length=y.s.data.toList.length:=by
   have q1:x.s.data.toList.length=x.s.size:=Array.length_toList
   have q2:y.s.data.toList.length=y.s.size:=Array.length_toList
   omega
  obtain ⟨h4,h5⟩:=List.append_inj h hsz
  have e4:x.s=y.s:=ByteArray.ext (Array.toList_inj.1 h4)
  have hxy:x=y:=by cases x;cases y;simp_all
  have hr:=zhN (fun v hv=>ha v (List.mem_cons_of_mem _ hv)) (fun v hv=>hb v (List.mem_cons_of_mem _ hv)) (by unfold ziU;simpa only [List.append_assoc] using h5)
  rw [hxy,hr]
theorem zsK {a b:List Vl} (ha: ∀ v∈a,VvK v) (hb: ∀ v∈b,VvK v) (h:zk0 a=zk0 b):a=b:=by
 have h1:=fQ a ⟨#[]⟩
 have h2:=fQ b ⟨#[]⟩
 have h3:(a.foldl znJ ⟨#[]⟩).data.toList=(b.foldl znJ ⟨#[]⟩).data.toList:=by
  show (zk0 a).data.toList=(zk0 b).data.toList
  rw [h]
 rw [h1,h2] at h3
 exact zhN ha hb (by simpa using h3)
theorem ArgX.vv {ty:List Int} {a:List Vl} (h:ArgX ty a): ∀ v∈a,VvK v:=fun v hv=>by
 obtain ⟨j,hj,rfl⟩:=List.getElem_of_mem hv
 exact (zqC _).2 (h.2 j hj (by rw [←h.1];exact hj)).2
theorem ArgX.key {ty ty':List Int} {a b:List Vl} (ha:ArgX ty a) (hb:ArgX ty' b) (h:zk0 a=zk0 b):a=b:=zsK ha.vv hb.vv h
end Go.AL
namespace Go.AL
noncomputable def jU (l:La):Tbl→List Vl→List Int
 | [],_=>List.replicate 64 (oU l)
 |x::T,t=>if x.1=t then x.2 else jU l T t
noncomputable def eF (l:La):List LRw→List Vl→List Int
 | [],_=>List.replicate 64 (oU l)
 |x::z,t=>if x.args=t then wL l x.cs else eF l z t
theorem zdX {l:La} {t:List Vl}: ∀ {T:Tbl},(∀ x∈T,x.1≠t)→jU l T t=List.replicate 64 (oU l)
 | [],_=>rfl
 |x::T,h=>by
  unfold jU
  rw [if_neg (h x (List.mem_cons_self ..))]
  exact zdX fun y hy=>h y (List.mem_cons_of_mem _ hy)
theorem mR {l:La} {t:List Vl}: ∀ {z:List LRw},(∀ x∈z,x.args≠t)→eF l z t=List.replicate 64 (oU l)
 | [],_=>rfl
 |x::z,h=>by
  unfold eF
  rw [if_neg (h x (List.mem_cons_self ..))]
  exact mR fun y hy=>h y (List.mem_cons_of_mem _ hy)
theorem zsW {l:La} {T:Tbl} (hn:(vR T).Nodup) {x:List Vl×List Int} (hx:x∈T):jU l T x.1=x.2:=by
 induction T with
 |nil=>cases hx
 | cons y T ih=>
  unfold jU
  unfold vR at hn ih
  rw [List.map_cons,List.nodup_cons] at hn
  rcases List.mem_cons.1 hx with rfl|hx
  ·rw [if_pos rfl]
  ·rw [if_neg,ih hn.2 hx]
   intro e
   exact hn.1 (by rw [e];exact List.mem_map_of_mem (f:=fun x:List Vl×List Int=>zk0 x.1) hx)
theorem zfD {l:La} {z:List LRw} (hn:(z.map fun x=>zk0 x.args).Nodup) {x:LRw} (hx:x∈z):eF l z x.args=wL l x.cs:=by
 induction z with
 |nil=>cases hx
 | cons y z ih=>
  unfold eF
  rw [List.map_cons,List.nodup_cons] at hn
  rcases List.mem_cons.1 hx with rfl|hx
  ·rw [if_pos rfl]
  ·rw [if_neg,ih hn.2 hx]
   intro e
   exact hn.1 (by rw [e];exact List.mem_map_of_mem (f:=fun x:LRw=>zk0 x.args) hx)
theorem zh7 {l:La} {T:Tbl} (h:TabG l T) (t:List Vl):eF l (uY (oU l) T) t=jU l T t:=by
 have hk:=kR (bt:=oU l) h.1
 by_cases q: ∃ y∈T,y.1=t
 ·obtain ⟨y,hy,rfl⟩:=q
  rw [zsW h.1.1 hy]
  by_cases hc:zh6 (oU l) y.2 64=[]
  ·rw [znD (h.2 y hy) hc]
   refine mR fun x hx e=> ?_
   obtain ⟨w,hw,e1,e2,e3⟩:=fA.1 hx
   have:w=y:=sJ (f:=fun x:List Vl×List Int=>zk0 x.1) h.1.1 hw hy (by rw [←e1,e])
   subst this
   rw [e2] at e3;exact e3 hc
  ·have hx:(⟨y.1,zh6 (oU l) y.2 64⟩:LRw)∈uY (oU l) T:=fA.2 ⟨y,hy,rfl,rfl,hc⟩
   have:=zfD (l:=l) hk hx
   dsimp only at this
   rw [this,zmI (h.2 y hy)]
 ·rw [zdX fun x hx e=>q ⟨x,hx,e⟩]
  refine mR fun x hx e=> ?_
  obtain ⟨w,hw,e1, -, -⟩:=fA.1 hx
  exact q ⟨w,hw,by rw [←e1,e]⟩
theorem CelX.keys {l:La} {ty:List Int} {z:List LRw} (h:CelX l ty z):(z.map fun x=>zk0 x.args).Nodup:=by
 have:=kR (bt:=oU l) (ziO l z)
 rwa [←h.2.2] at this
theorem zdO {l:La} {ty:List Int} {z:List LRw} (h:CelX l ty z) (t:List Vl):jU l (xU l z) t=eF l z t:=by
 have:=zh7 h.good t
 rw [←h.2.2] at this
 exact this.symm
theorem CelX.row {l:La} {ty:List Int} {z:List LRw} (h:CelX l ty z) {x:LRw} (hx:x∈z):zh6 (oU l) (wL l x.cs) 64=x.cs∧x.cs≠[]:=by
 have hG:=h.good
 have hx2:=hx
 rw [h.2.2] at hx2
 obtain ⟨y,hy,e1,e2,e3⟩:=fA.1 hx2
 exact ⟨by rw [e2,zmI (hG.2 y hy)],e3⟩
theorem CelX.sub {l:La} {ty ty':List Int} {z z':List LRw} (h:CelX l ty z) (h':CelX l ty' z') (k: ∀ t,eF l z t=eF l z' t) {x:LRw} (hx:x∈z):x∈z':=by
 obtain ⟨r1,r2⟩:=h.row hx
 have e:=zfD (l:=l) h.keys hx
 rw [k] at e
 by_cases q: ∃ y∈z',y.args=x.args
 ·obtain ⟨y,hy,f⟩:=q
  have e':=zfD (l:=l) h'.keys hy
  rw [f,e] at e'
  obtain ⟨s1,s2⟩:=h'.row hy
  have:x=y:=by
   have hc:x.cs=y.cs:=by rw [←r1,e',s1]
   cases x;cases y;simp_all
  rw [this];exact hy
 ·rw [mR fun y hy f=>q ⟨y,hy,f⟩] at e
  have hr:zh6 (oU l) (List.replicate 64 (oU l)) 64=[]:=by
   have: ∀ n,n≤64→zh6 (oU l) (List.replicate 64 (oU l)) n=[]:=fun n=>by
    induction n with
    |zero=>exact fun _=>rfl
    |succ n ih=>
     intro hn
     simp only [zh6]
     unfold zm5
     rw [if_pos (ziB (by omega) _),ih (by omega)]
   exact this 64 (Nat.le_refl _)
  rw [←e,hr] at r1
  exact absurd r1.symm r2
theorem CelX.uniq {l:La} {ty ty':List Int} {z z':List LRw} (h:CelX l ty z) (h':CelX l ty' z') (k: ∀ t,eF l z t=eF l z' t):z=z':=by
 have nd: ∀ {z:List LRw},(z.map fun x=>zk0 x.args).Nodup→z.Nodup:=fun {z} hz=>by
  induction z with
  |nil=>exact List.nodup_nil
  |cons x z ih=>
   rw [List.map_cons,List.nodup_cons] at hz
   rw [List.nodup_cons]
   exact ⟨fun q=>hz.1 (List.mem_map_of_mem (f:=fun x:LRw=>zk0 x.args) q),ih hz.2⟩
 have hp:z'.Perm z:=(List.perm_ext_iff_of_nodup (nd h'.keys) (nd h.keys)).2 fun x=>⟨fun hx=>h'.sub h (fun t=>(k t).symm) hx,fun hx=>h.sub h' k hx⟩
 have e1:=h.2.2
 have hf:=(rB (oU l) (xU l z)).1
 rw [←e1] at hf
 have hs:=(rB (oU l) (xU l z')).2
 rw [←h'.2.2] at hs
 have:=zq0 (bt:=oU l) (T:=xU l z) (hp.trans hf) hs h'.keys
 rw [←e1] at this
 exact this
theorem zfB {l:La} {T:Tbl} {args t:List Vl}:jU l (uZ (oU l) T args) t=jU l T t:=by
 unfold uZ
 split
 ·rfl
 ·have: ∀ T:Tbl,jU l (T++[(args,List.replicate 64 (oU l))]) t=jU l T t:=fun T=>by
   induction T with
   |nil=>
    rw [List.nil_append]
    unfold jU
    dsimp only
    split
    ·rfl
    ·rfl
   |cons x T ih=>
    rw [List.cons_append]
    unfold jU
    rw [ih]
  exact this T
theorem zhS {l:La} {args:List Vl} {f:List Int→List Int} {t:List Vl}: ∀ {T:Tbl},(∀ x∈T,zk0 x.1=zk0 args→x.1=args)→
  jU l (oT T (zk0 args) f) t=if t=args∧(∃ x∈T,x.1=args) then f (jU l T args) else jU l T t
 | [],_=>by
  rw [if_neg (fun q=>by obtain ⟨_,x,hx,_⟩:=q;cases hx)];rfl
 | y ::T,h=>by
  have ih:=zhS (l:=l) (f:=f) (t:=t) (T:=T) fun x hx=>h x (List.mem_cons_of_mem _ hx)
  have hc:oT (y::T) (zk0 args) f=(if zk0 y.1=zk0 args then (y.1,f y.2) else y)::oT T (zk0 args) f:=rfl
  by_cases hy:y.1=args
  ·have hq:(if zk0 y.1=zk0 args then (y.1,f y.2) else y)=(y.1,f y.2):=if_pos (by rw [hy])
   rw [hc,hq]
   unfold jU
   rw [if_pos hy]
   dsimp only
   by_cases ht:t=args
   ·rw [if_pos (hy.trans ht.symm),if_pos ⟨ht,y,List.mem_cons_self ..,hy⟩]
   ·have hyt: ¬y.1=t:=fun e=>ht (e.symm.trans hy)
    rw [if_neg hyt,if_neg (fun q=>ht q.1),if_neg hyt,ih,if_neg (fun q=>ht q.1)]
  ·have hq:(if zk0 y.1=zk0 args then (y.1,f y.2) else y)=y:=if_neg fun e=>hy (h y (List.mem_cons_self ..) e)
   rw [hc,hq]
   unfold jU
   rw [if_neg hy]
   by_cases hyt:y.1=t
   ·rw [if_pos hyt,if_pos hyt,if_neg (fun q=>hy (by rw [hyt,q.1]))]
   ·rw [if_neg hyt,if_neg hyt,ih]
    refine zoD ⟨fun q=> ?_,fun q=> ?_⟩
    ·obtain ⟨a,x,hx,e⟩:=q;exact ⟨a,x,List.mem_cons_of_mem _ hx,e⟩
    ·obtain ⟨a,x,hx,e⟩:=q
     rcases List.mem_cons.1 hx with rfl|hx
     ·exact absurd e hy
     ·exact ⟨a,x,hx,e⟩
noncomputable def aV (l:La) (z:List LRw) (args:List Vl) (a b e:Int):List LRw:=uY (oU l) (za9 l (xU l z) args a b e)
theorem yK {l:La} {ty:List Int} {z:List LRw} (h:CelX l ty z) {args:List Vl} (ha:ArgX ty args) (a b:Int) {e:Int} (he:ze9 l e):
  CelX l ty (aV l z args a b e)∧ ∀ t,eF l (aV l z args a b e) t=if t=args then yZ l a b e (eF l z args) else eF l z t:=by
 refine ⟨h.set ha a b he,fun t=> ?_⟩
 have hG:=h.good.set args a b he
 unfold aV
 rw [zh7 hG,zbJ]
 have hr: ∀ x∈xU l z,ArgX ty x.1:=fun x hx=>by
  rw [kT h.keys] at hx
  obtain ⟨w,hw,rfl⟩:=List.mem_map.1 hx
  exact h.2.1 w hw
 have hl: ∀ x∈uZ (oU l) (xU l z) args,ArgX ty x.1:=fun x hx=>by
  unfold uZ at hx
  split at hx
  ·exact hr x hx
  ·rcases List.mem_append.1 hx with hx|hx
   ·exact hr x hx
   ·rw [List.mem_singleton] at hx;subst hx;exact ha
 have hex: ∃ x∈uZ (oU l) (xU l z) args,x.1=args:=by
  unfold uZ
  split
  ·rename_i q
   unfold vR at q
   obtain ⟨x,hx,e⟩:=List.mem_map.1 q
   exact ⟨x,hx,(hr x hx).key ha e⟩
  ·exact ⟨_,List.mem_append_right _ (List.mem_singleton_self _),rfl⟩
 rw [zhS fun x hx e=>(hl x hx).key ha e,zfB,zfB,zdO h,zdO h]
 exact zoD ⟨fun q=>q.1,fun q=>⟨q,hex⟩⟩
end Go.AL
namespace Go.AL
def SpU (s s1 s2:Sp):Prop:= ∀ m:Nat,xT s m=(xT s1 m||xT s2 m)
theorem SpU.symm {s s1 s2:Sp} (h:SpU s s1 s2):SpU s s2 s1:=fun m=>by rw [h m,Bool.or_comm]
theorem zb7 {s:Sp} {m:Nat} (h:(zo2 s).testBit m=true):m<64:=by
 rw [zqY] at h
 unfold xT at h
 exact (of_decide_eq_true h).1
end Go.AL
namespace Go.AL
open Go.Proofs Go.Proofs.Tryz
@[go_sem] def ULaw2f7.pl:Nat→DPlan
 |6=>⟨[yA,yA,yB,yA,yA,yA,yA,yA,yB,yA,yA,yB,yA,yA,yA,yA,yA,yA,yC],sI,0⟩
 |_=>⟨[],[],0⟩
theorem hZ {p:Pg} {o:Op1} (h:zoM p o=0):uD p [o]=0:=by rw [yL,if_pos h];rfl
theorem pV {p:Pg} {a b:Op1} (h:zoM p a=0) (k:zoM p b=0):uD p [a,b]=0:=by rw [yL,if_pos h];exact hZ k
theorem kN (p:Pg) (hp:p.ok) (hle:p.sm) (d:Dt) (ops:List Op1) (ho: ∀ o∈ops,o.ok) (hL:LenD 40 d) (hl:ops.length≤60) (hz:uD p ops=0):
  zk4 p d ops=if ze8 (DatX p d)=false then (znO,1) else (ops.foldl (zl0 p) d,0):=by
 rw [lQ p hp hle d ops ho hL (by omega) hl]
 congr 1
 rw [if_neg (by rw [hz];exact fun k=>k rfl)]
theorem znB {p:Pg} {o:Op1} (h:zoM p o=0):o.span.good:=(lL.1 h).2.2.2
end Go.AL
namespace Go.AL
open Classical in
noncomputable def zgK (k:Nat) (o:Op1) (t:List Vl) (x:Nat):Nat:=
 if o.kind=1 then (if t.take k=o.args.take k then mY x (zo2 o.span) else x) ||| (if o.args=t then zo2 o.span else 0) else mY x (if o.args=t then zo2 o.span else 0)
theorem tD {q:Pd} {z:List Rw} {o:Op1} (hc:CanL z) (hs:o.span.good):CanL (zaL q z o)∧ ∀ t,yH (zaL q z o) t=zgK q.key.toNat o t (yH z t):=by
 unfold zaL zgK
 by_cases hk:o.kind=1
 ·rw [if_pos hk]
  obtain ⟨a,b, -⟩:=zdF (k:=q.key.toNat) (args:=o.args) hc hs
  exact ⟨a,fun t=>by rw [b t,if_pos hk]⟩
 ·rw [if_neg hk]
  obtain ⟨a,b, -⟩:=bK (args:=o.args) hc hs
  exact ⟨a,fun t=>by rw [b t,if_neg hk]⟩
theorem sU {k:Nat} {o:Op1} {t:List Vl} {x m:Nat} (hx:x<2 ^ 64):(zgK k o t x).testBit m=
  if xT o.span m=true then (if o.args=t then decide (o.kind=1) else if o.kind=1∧t.take k=o.args.take k then false else x.testBit m) else x.testBit m:=by
 have hl:=zoI o.span
 have hb:=zqY o.span m
 have hm:(zo2 o.span).testBit m=true→m<64:=zb7
 have hxm:x.testBit m=true→m<64:=fun h=>by
  apply Classical.byContradiction
  intro q
  rw [Nat.testBit_lt_two_pow (Nat.lt_of_lt_of_le hx (Nat.pow_le_pow_right (by omega) (by omega)))] at h
  cases h
 unfold zgK
 rw [←hb]
 cases h1:(zo2 o.span).testBit m with
 | false=>
  have hmin:(mY x (zo2 o.span)).testBit m=x.testBit m:=by
   rw [zn3 hl,h1]
   cases h2:x.testBit m with
   |false=>rfl
   |true=>simp [hxm h2]
  rw [if_neg Bool.false_ne_true]
  by_cases hk:o.kind=1
  ·have e1:(if o.args=t then zo2 o.span else 0).testBit m=false:=by
    split
    ·exact h1
    ·exact Nat.zero_testBit m
   rw [if_pos hk,Nat.testBit_or,e1,Bool.or_false]
   split
   ·exact hmin
   ·rfl
  ·rw [if_neg hk]
   by_cases he:o.args=t
   ·rw [if_pos he];exact hmin
   ·rw [if_neg he,zpH _ hx]
 | true=>
  have hmin:(mY x (zo2 o.span)).testBit m=false:=by rw [zn3 hl,h1];simp
  rw [if_pos rfl]
  by_cases hk:o.kind=1
  ·rw [if_pos hk,Nat.testBit_or]
   by_cases he:o.args=t
   ·rw [if_pos he,if_pos he,h1,Bool.or_true,decide_eq_true hk]
   ·rw [if_neg he,if_neg he,Nat.zero_testBit,Bool.or_false]
    by_cases hp:t.take k=o.args.take k
    ·rw [if_pos hp,if_pos ⟨hk,hp⟩,hmin]
    ·rw [if_neg hp,if_neg (fun q=>hp q.2)]
  ·rw [if_neg hk]
   by_cases he:o.args=t
   ·rw [if_pos he,if_pos he,hmin,decide_eq_false hk]
   ·rw [if_neg he,if_neg he,zpH _ hx,if_neg (fun q=>hk q.1)]
theorem zf7 {k:Nat} {o:Op1} {t:List Vl} {x:Nat} (hx:x<2 ^ 64):zgK k o t x<2 ^ 64:=by
 unfold zgK
 split
 ·refine Nat.or_lt_two_pow ?_ ?_
  ·split
   ·exact zoR ..
   ·exact hx
  ·split
   ·exact zoI _
   ·exact Nat.two_pow_pos 64
 ·exact zoR ..
def Apt (k:Nat) (o o':Op1):Prop:=o.args.take k≠o'.args.take k∨ ∀ m,xT o.span m=true→xT o'.span m=false
theorem zr2 {k:Nat} {o o':Op1} (h:Apt k o o') {t:List Vl} {x:Nat} (hx:x<2 ^ 64):zgK k o' t (zgK k o t x)=zgK k o t (zgK k o' t x):=by
 refine Nat.eq_of_testBit_eq fun m=> ?_
 rw [sU (zf7 hx),sU hx,sU (zf7 hx),sU hx]
 rcases h with h|h
 ·by_cases p1:t.take k=o.args.take k
  ·have n1: ¬t.take k=o'.args.take k:=fun e=>h (p1.symm.trans e)
   have n2: ¬o'.args=t:=fun e=>n1 (by rw [e])
   simp only [n1,n2,and_false,if_false]
   by_cases w1:xT o.span m=true<;>by_cases w2:xT o'.span m=true<;>simp [w1,w2]
  ·have n2: ¬o.args=t:=fun e=>p1 (by rw [e])
   simp only [p1,n2,and_false,if_false]
   by_cases w1:xT o.span m=true<;>by_cases w2:xT o'.span m=true<;>simp [w1,w2]
 ·have:=h m
  cases h1:xT o.span m<;>cases h2:xT o'.span m<;>simp_all
theorem zsH {q:Pd} {z:List Rw} {o o':Op1} (hc:CanL z) (hs:o.span.good) (hs':o'.span.good) (h:Apt q.key.toNat o o'):zaL q (zaL q z o) o'=zaL q (zaL q z o') o:=by
 obtain ⟨a1,a2⟩:=tD (q:=q) (o:=o) hc hs
 obtain ⟨b1,b2⟩:=tD (q:=q) (o:=o') a1 hs'
 obtain ⟨c1,c2⟩:=tD (q:=q) (o:=o') hc hs'
 obtain ⟨d1,d2⟩:=tD (q:=q) (o:=o) c1 hs
 refine CanL.uniq b1 d1 fun t=> ?_
 rw [b2 t,a2 t,d2 t,c2 t,zr2 h (zoW z t)]
theorem zsG {q:Pd} {z:List Rw} {o o':Op1} (hc:CanL z) (hs:o.span.good) (hk:o'.kind=1) (hsp:o'.span=o.span) (he:o.args.take q.key.toNat=o'.args.take q.key.toNat):zaL q (zaL q z o) o'=zaL q z o':=by
 have hs':o'.span.good:=by rw [hsp];exact hs
 obtain ⟨a1,a2⟩:=tD (q:=q) (o:=o) hc hs
 obtain ⟨b1,b2⟩:=tD (q:=q) (o:=o') a1 hs'
 obtain ⟨c1,c2⟩:=tD (q:=q) (o:=o') hc hs'
 refine CanL.uniq b1 c1 fun t=> ?_
 have hx:=zoW z t
 rw [b2 t,a2 t,c2 t]
 generalize yH z t=x at*
 refine Nat.eq_of_testBit_eq fun m=> ?_
 rw [sU (zf7 hx),sU hx,sU hx,hsp]
 by_cases hh:xT o.span m=true
 ·rw [if_pos hh,if_pos hh,if_pos hh]
  by_cases e1:o'.args=t
  ·rw [if_pos e1,if_pos e1]
  ·rw [if_neg e1,if_neg e1]
   by_cases p:t.take q.key.toNat=o'.args.take q.key.toNat
   ·rw [if_pos ⟨hk,p⟩,if_pos ⟨hk,p⟩]
   ·have n1: ¬t.take q.key.toNat=o.args.take q.key.toNat:=fun e=>p (e.trans he)
    have n2: ¬o.args=t:=fun e=>n1 (by rw [e])
    simp only [p,n1,n2,and_false,if_false]
 ·rw [if_neg hh,if_neg hh,if_neg hh]
theorem zpY {l:La} {e e':Int} {ms:List Int} {s s':Sp} (h: ∀ m,xT s m=true→xT s' m=false):yZ l s'.a s'.b e' (yZ l s.a s.b e ms)=yZ l s.a s.b e (yZ l s'.a s'.b e' ms):=by
 unfold yZ
 by_cases q:ze7 l e=true
 ·by_cases q':ze7 l e'=true
  ·rw [if_pos q,if_pos q,if_pos q',if_pos q']
   refine mH (yY ..) (yY ..) fun i hi=> ?_
   rw [tU hi,tU hi,tU hi,tU hi]
   by_cases w:s.a≤(i:Int)∧(i:Int)<s.b
   ·have h1:xT s i=true:=by unfold xT;rw [decide_eq_true_eq];exact ⟨hi,w⟩
    have h2:=h i h1
    unfold xT at h2
    rw [decide_eq_false_iff_not] at h2
    have w': ¬(s'.a≤(i:Int)∧(i:Int)<s'.b):=fun w'=>h2 ⟨hi,w'⟩
    rw [if_neg w',if_pos w,if_pos w]
   ·rw [if_neg w,if_neg w]
  ·rw [if_neg q',if_neg q']
 ·rw [if_neg q,if_neg q]
theorem zpA {l:La} {e e':Int} {ms:List Int} {a b:Int} (q':ze7 l e'=true):yZ l a b e' (yZ l a b e ms)=yZ l a b e' ms:=by
 unfold yZ
 rw [if_pos q',if_pos q']
 refine mH (yY ..) (yY ..) fun i hi=> ?_
 rw [tU hi,tU hi]
 by_cases w:a≤(i:Int)∧(i:Int)<b
 ·rw [if_pos w,if_pos w]
 ·rw [if_neg w,if_neg w]
  by_cases q:ze7 l e=true
  ·rw [if_pos q,tU hi,if_neg w]
  ·rw [if_neg q]
theorem zo4 {l:La} {ty:List Int} {z:List LRw} (h:CelX l ty z) {args args':List Vl} (ha:ArgX ty args) (ha':ArgX ty args') {e e':Int} (he:ze9 l e) (he':ze9 l e') {s s':Sp} (hA:args≠args'∨ ∀ m,xT s m=true→xT s' m=false):
  aV l (aV l z args s.a s.b e) args' s'.a s'.b e'=aV l (aV l z args' s'.a s'.b e') args s.a s.b e:=by
 obtain ⟨a1,a2⟩:=yK h ha s.a s.b he
 obtain ⟨b1,b2⟩:=yK a1 ha' s'.a s'.b he'
 obtain ⟨c1,c2⟩:=yK h ha' s'.a s'.b he'
 obtain ⟨d1,d2⟩:=yK c1 ha s.a s.b he
 refine CelX.uniq b1 d1 fun t=> ?_
 rw [b2 t,a2 t,a2 args',d2 t,c2 t,c2 args]
 by_cases q:t=args
 ·subst q
  by_cases q':t=args'
  ·subst q'
   rcases hA with hA|hA
   ·exact absurd rfl hA
   ·simp only [if_true]
    exact zpY hA
  ·simp only [q',if_false,if_true]
 ·by_cases q':t=args'
  ·subst q'
   simp only [q,if_false,if_true]
  ·simp only [q,q',if_false]
theorem zoN {l:La} {ty:List Int} {z:List LRw} (h:CelX l ty z) {args:List Vl} (ha:ArgX ty args) {e e':Int} (he:ze9 l e) (he':ze9 l e') (q':ze7 l e'=true) (a b:Int):
  aV l (aV l z args a b e) args a b e'=aV l z args a b e':=by
 obtain ⟨a1,a2⟩:=yK h ha a b he
 obtain ⟨b1,b2⟩:=yK a1 ha a b he'
 obtain ⟨c1,c2⟩:=yK h ha a b he'
 refine CelX.uniq b1 c1 fun t=> ?_
 rw [b2 t,a2 t,a2 args,c2 t]
 by_cases q:t=args
 ·simp only [q,if_true]
  exact zpA q'
 ·simp only [q,if_false]
end Go.AL
namespace Go.AL
def ApO (p:Pg) (o o':Op1):Prop:=o.pred≠o'.pred∨Apt (p.preds.getD o.pred.toNat zuW).key.toNat o o'
theorem OpX.good {p:Pg} (hp:p.ok) {d:Dt} {o:Op1} {i:Nat} (h:DatX p d) (ho:OpX p o i) (hol:(p.preds[i]'(ho.hi)).of'.toNat<p.lats.length) (hof:(p.preds[i]'(ho.hi)).of'≠ -1):
  ze9 (p.lats[(p.preds[i]'(ho.hi)).of'.toNat]'hol) (if o.kind=1 then o.elem else oU (p.lats[(p.preds[i]'(ho.hi)).of'.toNat]'hol)):=by
 have hi:=ho.hi
 have hir:i<d.rels.length:=by rw [h.rl];exact hi
 have hil:i<d.lats.length:=by rw [h.ll];exact hi
 have hc:=((h.at' i hi hir hil).2.1 ho.b hof).2 hol
 split
 ·exact zp4 (hp.l _ (List.getElem_mem hol)) hc.1 (ho.el hol (by have:=ho.hof;omega))
 ·exact zpN _
theorem zsJ {p:Pg} (hp:p.ok) {d:Dt} {o o':Op1} {i i':Nat} (h:DatX p d) (ho:OpX p o i) (ho':OpX p o' i') (hA:ApO p o o'):zl0 p (zl0 p d o) o'=zl0 p (zl0 p d o') o:=by
 have hi:=ho.hi
 have hi':=ho'.hi
 have hir:i<d.rels.length:=by rw [h.rl];exact hi
 have hil:i<d.lats.length:=by rw [h.ll];exact hi
 have hir':i'<d.rels.length:=by rw [h.rl];exact hi'
 have hil':i'<d.lats.length:=by rw [h.ll];exact hi'
 obtain ⟨h1,h2,h3⟩:=h.at' i hi hir hil
 by_cases hii:i=i'
 ·subst hii
  have hpt:o.pred.toNat=i:=by have:=ho.hoi;omega
  have hA':Apt p.preds[i].key.toNat o o':=by
   rcases hA with hA|hA
   ·exact absurd (ho.hoi.trans ho'.hoi.symm) hA
   ·rw [hpt,eD hi] at hA;exact hA
  by_cases hof:p.preds[i].of'= -1
  ·obtain ⟨q1,q2,q3⟩:=h3 ho.b hof
   rw [zo7 ho.hoi hi hir hof,zo7 ho'.hoi hi hir hof,zo7 (d:=⟨d.rels.set i (zaL p.preds[i] d.rels[i] o),d.lats⟩) ho'.hoi hi (by simpa using hir) hof,zo7 (d:=⟨d.rels.set i (zaL p.preds[i] d.rels[i] o'),d.lats⟩) ho.hoi hi (by simpa using hir) hof]
   dsimp only
   rw [List.getElem_set_self,List.getElem_set_self,List.set_set,List.set_set,zsH q2.1 ho.s ho'.s hA']
  ·have hol:p.preds[i].of'.toNat<p.lats.length:=by have:=ho.hof;omega
   obtain ⟨q1,q2⟩:=h2 ho.b hof
   have hc:=q2 hol
   rw [zo8 ho.hoi hi hil hof hol,zo8 ho'.hoi hi hil hof hol,zo8 (d:=⟨d.rels,d.lats.set i (zcQ p.lats[p.preds[i].of'.toNat] d.lats[i] o)⟩) ho'.hoi hi (by simpa using hil) hof hol,zo8 (d:=⟨d.rels,d.lats.set i (zcQ p.lats[p.preds[i].of'.toNat] d.lats[i] o')⟩) ho.hoi hi (by simpa using hil) hof hol]
   dsimp only
   rw [List.getElem_set_self,List.getElem_set_self,List.set_set,List.set_set]
   have g1:=ho.good hp h hol hof
   have g2:=ho'.good hp h hol hof
   have:zcQ p.lats[p.preds[i].of'.toNat] (zcQ p.lats[p.preds[i].of'.toNat] d.lats[i] o) o'=zcQ p.lats[p.preds[i].of'.toNat] (zcQ p.lats[p.preds[i].of'.toNat] d.lats[i] o') o:=
    zo4 hc ho.ax ho'.ax g1 g2 (hA'.elim (fun q=> .inl fun e=>q (by rw [e])) .inr)
   rw [this]
 ·by_cases hof:p.preds[i].of'= -1
  ·by_cases hof':p.preds[i'].of'= -1
   ·rw [zo7 ho.hoi hi hir hof,zo7 ho'.hoi hi' hir' hof',zo7 (d:=⟨d.rels.set i (zaL p.preds[i] d.rels[i] o),d.lats⟩) ho'.hoi hi' (by simpa using hir') hof',zo7 (d:=⟨d.rels.set i' (zaL p.preds[i'] d.rels[i'] o'),d.lats⟩) ho.hoi hi (by simpa using hir) hof]
    dsimp only
    rw [List.getElem_set_ne hii,List.getElem_set_ne (Ne.symm hii),List.set_comm _ _ hii]
   ·have hol':p.preds[i'].of'.toNat<p.lats.length:=by have:=ho'.hof;omega
    rw [zo7 ho.hoi hi hir hof,zo8 ho'.hoi hi' hil' hof' hol',zo8 (d:=⟨d.rels.set i (zaL p.preds[i] d.rels[i] o),d.lats⟩) ho'.hoi hi' hil' hof' hol',zo7 (d:=⟨d.rels,d.lats.set i' (zcQ p.lats[p.preds[i'].of'.toNat] d.lats[i'] o')⟩) ho.hoi hi hir hof]
  ·have hol:p.preds[i].of'.toNat<p.lats.length:=by have:=ho.hof;omega
   by_cases hof':p.preds[i'].of'= -1
   ·rw [zo8 ho.hoi hi hil hof hol,zo7 ho'.hoi hi' hir' hof',zo7 (d:=⟨d.rels,d.lats.set i (zcQ p.lats[p.preds[i].of'.toNat] d.lats[i] o)⟩) ho'.hoi hi' hir' hof',zo8 (d:=⟨d.rels.set i' (zaL p.preds[i'] d.rels[i'] o'),d.lats⟩) ho.hoi hi hil hof hol]
   ·have hol':p.preds[i'].of'.toNat<p.lats.length:=by have:=ho'.hof;omega
    rw [zo8 ho.hoi hi hil hof hol,zo8 ho'.hoi hi' hil' hof' hol',zo8 (d:=⟨d.rels,d.lats.set i (zcQ p.lats[p.preds[i].of'.toNat] d.lats[i] o)⟩) ho'.hoi hi' (by simpa using hil') hof' hol',zo8 (d:=⟨d.rels,d.lats.set i' (zcQ p.lats[p.preds[i'].of'.toNat] d.lats[i'] o')⟩) ho.hoi hi (by simpa using hil) hof hol]
    dsimp only
    rw [List.getElem_set_ne hii,List.getElem_set_ne (Ne.symm hii),List.set_comm _ _ hii]
theorem zsI {p:Pg} (hp:p.ok) {d:Dt} {o o':Op1} {i:Nat} (h:DatX p d) (ho:OpX p o i) (ho':OpX p o' i) (hk:o'.kind=1) (hsp:o'.span=o.span) (he:o.args.take (p.preds[i]'(ho.hi)).key.toNat=o'.args.take (p.preds[i]'(ho.hi)).key.toNat)
  (hg:(p.preds[i]'(ho.hi)).of'≠ -1→(p.preds[i]'(ho.hi)).key=(p.preds[i]'(ho.hi)).types.length):zl0 p (zl0 p d o) o'=zl0 p d o':=by
 have hi:=ho.hi
 have hir:i<d.rels.length:=by rw [h.rl];exact hi
 have hil:i<d.lats.length:=by rw [h.ll];exact hi
 obtain ⟨h1,h2,h3⟩:=h.at' i hi hir hil
 by_cases hof:p.preds[i].of'= -1
 ·obtain ⟨q1,q2,q3⟩:=h3 ho.b hof
  rw [zo7 ho.hoi hi hir hof,zo7 ho'.hoi hi hir hof,zo7 (d:=⟨d.rels.set i (zaL p.preds[i] d.rels[i] o),d.lats⟩) ho'.hoi hi (by simpa using hir) hof]
  dsimp only
  rw [List.getElem_set_self,List.set_set,zsG q2.1 ho.s hk hsp he]
 ·have hol:p.preds[i].of'.toNat<p.lats.length:=by have:=ho.hof;omega
  obtain ⟨q1,q2⟩:=h2 ho.b hof
  have hc:=q2 hol
  rw [zo8 ho.hoi hi hil hof hol,zo8 ho'.hoi hi hil hof hol,zo8 (d:=⟨d.rels,d.lats.set i (zcQ p.lats[p.preds[i].of'.toNat] d.lats[i] o)⟩) ho'.hoi hi (by simpa using hil) hof hol]
  dsimp only
  rw [List.getElem_set_self,List.set_set]
  have g1:=ho.good hp h hol hof
  have g2:=ho'.good hp h hol hof
  have hkt:=hg hof
  have e1:o.args=o'.args:=by
   have a1:=ho.ax.1
   have a2:=ho'.ax.1
   rwa [List.take_of_length_le (by omega),List.take_of_length_le (by omega)] at he
  have hel:=ho'.el hol (by have:=ho.hof;omega)
  rw [if_pos hk] at g2
  have:zcQ p.lats[p.preds[i].of'.toNat] (zcQ p.lats[p.preds[i].of'.toNat] d.lats[i] o) o'=zcQ p.lats[p.preds[i].of'.toNat] d.lats[i] o':=by
   unfold zcQ
   rw [if_pos hk,hsp, ←e1]
   exact zoN hc ho.ax g1 g2 hel o.span.a o.span.b
  rw [this]
end Go.AL
