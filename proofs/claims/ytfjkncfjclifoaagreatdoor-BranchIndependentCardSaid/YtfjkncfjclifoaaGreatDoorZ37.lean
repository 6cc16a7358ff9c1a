/-
  A row's arguments, told as plain values.
-/
import Derived.Test.YtfjkncfjclifoaaGreatDoorZ36
set_option linter.unusedSimpArgs false
set_option linter.unusedVariables false
set_option maxRecDepth 100000
set_option maxHeartbeats 4000000
namespace Go.AL
open Go.Proofs Go.Proofs.Tryz
@[go_sem] def UBra5f13.pp:Nat→DPlan
 |11=>⟨[yE,yE,yA,yA,uX,yA,uX,yA,yA,yA,vC,yC,yA],yN,1⟩
 |14=>⟨[yA,yB,yA,yA,yA,yA,uX,yA,yA,yA,yC,yA,yC],yN,0⟩
 |_=>⟨[],[],0⟩
@[go_sem] def UBra5f13.pl:Nat→DPlan
 |11=>⟨[⟨7,0,[1004]⟩,yE,yA,yA,⟨6,0,[1004,0]⟩,yA,rK,yA,yA,yA,vC,yC,yA],yN,1⟩
 |14=>⟨[yA,⟨7,0,[1005]⟩,yA,yA,yA,yA,⟨6,0,[1005]⟩,yA,yA,yA,yC,yA,yC],yN,0⟩
 |_=>⟨[],[],0⟩
theorem cL (o:Option (List Dt)): ∃ a,znW o= .tup [a,bo o.isSome]:=by
 cases o with
 |none=>exact ⟨_,rfl⟩
 |some l=>exact ⟨_,rfl⟩
theorem zdA (p:Pg) (hp:p.ok) (hle:p.sm) (ha:AppP p) (r:Rp) (hr:r.sz):EPure prog G0 12 [.agg p.c,.agg r.c] fun v=>v=bo (zh8 p r).isSome:=by
 refine ECall.cut (R:=fun v _=>v=bo (zh8 p r).isSome) (pv func12 14 false (by kernel_rfl) rfl rfl ?_) (by rintro p h rfl;rfl)
 refine g2 ?_
 obtain ⟨a,hst⟩:=cL (zh8 p r)
 have hck:=fL p hp hle ha r hr
 rw [hst] at hck
 refine ge ?_
 (refine g1 ?_;refine zC (hck.call zK (by simp [zJ]) _) ?_;intro p2 h2 hr2;refine g2 ?_)
 obtain ⟨rfl,rfl⟩:=hr2
 refine ge ?_
 rfl
abbrev lL (l:List Br):List PV:=(l.map Br.c).flatten
theorem fK: ∀ l:List Br,(lL l).length=l.length*2
 | []=>rfl
 |x::l=>by
  have:=fK l
  simp only [lL,List.map_cons,List.flatten_cons,List.length_append] at this ⊢
  rw [this];simp;omega
theorem fJ (n:Int): ∀ (l:List Br) (i:Nat) (h:i<l.length),(lL l).take (i*2+1)++i64 n::(lL l).drop (i*2+2)=lL (l.set i ⟨l[i].name,n⟩)
 | [],i,h=>by simp at h
 |x::l,0,_=>rfl
 |x::l,i+1,h=>by
  have:=fJ n l i (by simpa using h)
  have e:lL (x::l)=yQ x.name::i64 x.last::lL l:=rfl
  rw [e,show (i+1)*2+1=(i*2+1)+1+1 by omega,show (i+1)*2+2=(i*2+2)+1+1 by omega]
  simp only [List.take_succ_cons,List.drop_succ_cons,List.cons_append,this,List.set_cons_succ,List.getElem_cons_succ]
  rfl
theorem gG (l:List Br) (hne:0<l.length) (hl:l.length≤1099511627776) (h:Heap):ECall prog G0 33 [.ts 2 (l.map Br.c)] h fun p h'=>p= .ms h.length 0 2 l.length∧h'=h++[.var 40 (lL l)]:=by
 cases l with
 |nil=>cases hne
 |cons x l=>
  refine pv func33 8 true (by kernel_rfl) rfl rfl ?_
  refine g2 ?_
  have hl2:l.length+1≤1099511627776:=by simpa using hl
  have hl3:(l.length+1)*24≤140737488355328:=by omega
  have hl4:l.length≤140737488355327:=by omega
  refine gf (a4 @zmE @vX @hl3 @hl4) ?_
  exact ⟨rfl,rfl⟩
noncomputable def zh7 (p:Pg) (r:Rp) (br:BA) (ops:List Op1):Int:=match zh8 p r with
 |none=>1
 |some l=>if rV (kN br) r.bs<0 then 330 else if r.cs.length=200 then 2 else (zk4 p (zcI p l (r.bs.getD (rV (kN br) r.bs).toNat ⟨br, -1⟩).last) ops).2
def CommitK (r:Rp) (br:BA) (ops:List Op1) (y:Rp) (n:Int):Prop:= ∃ (i:Nat) (h:i<r.bs.length),rV (kN br) r.bs=i∧y=⟨r.cs++[⟨ops, -1,r.bs[i].last⟩],r.bs.set i ⟨r.bs[i].name,r.cs.length⟩⟩∧n=r.cs.length
theorem zb7 {p:Pg} {r:Rp} {l:List Dt} (h:zh8 p r=some l):iY p r∧eF p r.cs=some l∧l.length=r.cs.length:=by
 unfold zh8 at h
 split at h
 ·rename_i hb;exact ⟨hb,h,zbB h⟩
 ·cases h
theorem zhD {p:Pg} (hpl:p.preds.length≤1048576) (ha:AppP p): ∀ (cs:List Co) {m l:List Dt},(∀ c∈cs,OpsG c.ops)→(∀ d∈m,d.sz)→cs.foldl (zg2 p) (some m)=some l→ ∀ d∈l,d.sz
 | [],m,l,_,hm,h=>by cases h;exact hm
 | c ::cs,m,l,hc,hm,h=>by
  rw [List.foldl_cons] at h
  cases hs:zg2 p (some m) c with
  |none=>rw [hs,mM] at h;cases h
  | some m'=>
   rw [hs] at h
   refine zhD hpl ha cs (fun c h=>hc c (List.mem_cons_of_mem _ h)) (fun d hd=> ?_) h
   simp only [zg2,Option.bind_some] at hs
   split at hs
   ·cases hs
   ·split at hs
    ·rename_i he
     cases hs
     rcases List.mem_append.1 hd with hd|hd
     ·exact hm d hd
     ·rw [List.mem_singleton] at hd;subst hd
      exact (ha _ _ (za5 hpl hm _) (hc c (List.mem_cons_self ..))).2 he
    ·cases hs
theorem zlK {p:Pg} (hp:p.ok) (hle:p.sm) (h:vlF p=true):p.preds.length≤1048576:=
 (za3 (K:=fun b=>b=true→p.preds.length≤1048576) ((mL p hp hle).mono (by rintro v ⟨b,rfl,h⟩;exact ⟨b,rfl,fun hb=>by have:=(h hb).1.pl;omega⟩))).2 h
open UBra5f13 in
theorem fH (p:Pg) (hp:p.ok) (hle:p.sm) (ha:AppP p) (r:Rp) (hr:r.sz) (br:BA) (ops:List Op1) (ho:OpsG ops):
  EPure prog G0 13 [.agg p.c,.agg r.c,yQ br,lJ ops] fun v=> ∃ (y:Rp) (n:Int),v= .tup [.agg y.c,i64 n,i64 (zh7 p r br ops)]∧(zh7 p r br ops=0→CommitK r br ops y n):=by
 refine ECall.cutW (R:=fun v h=>(∃ n,v= .tup [.agg [.nil,.nil],i64 n,i64 (zh7 p r br ops)]∧zh7 p r br ops≠0)∨ ∃ (y:Rp) (n:Int) (q q2:Nat),v= .tup [.agg [.vec q 3 (y.cs.map Co.c),.ms q2 0 2 y.bs.length],i64 n,i64 (zh7 p r br ops)]∧h[q2]? =some (.var 40 (y.bs.map Br.c).flatten)∧CommitK r br ops y n) (pv func13 86 false (by kernel_rfl) rfl rfl ?_) ?_
 refine g2 ?_
 ·have hcl:=hr.cl
  have hbl:=hr.bl
  obtain ⟨a,hst⟩:=cL (zh8 p r)
  have hck:=fL p hp hle ha r hr
  rw [hst] at hck
  refine ge ?_
  (refine g1 ?_;refine zC (hck.call zK (by simp [zJ]) _) ?_;intro p2 h2 hr2;refine g2 ?_)
  obtain ⟨rfl,rfl⟩:=hr2
  refine ge ?_
  (refine g1 ?_;refine zC ((mR r (by omega) br).call zK (by simp [zJ]) _) ?_;intro p2 h2 hr2;refine g2 ?_)
  obtain ⟨rfl,rfl⟩:=hr2
  cases hc:zh8 p r with
  |none=>
   have hE:zh7 p r br ops=1:=by unfold zh7;rw [hc]
   rw [hE]
   refine ge ?_
   exact .inl ⟨_,rfl,by decide⟩
  | some l=>
   obtain ⟨hb,hsl,hll⟩:=zb7 hc
   have hpl:=zlK hp hle hb.2.2.2.1
   have hsz:=zhD hpl ha r.cs hr.c (by simp) hsl
   have ha':a=dts l:=by rw [hc] at hst;simp only [znW] at hst;injection hst with h;injection h with h _;exact h.symm
   subst ha'
   have hE:zh7 p r br ops=if rV (kN br) r.bs<0 then 330 else if r.cs.length=200 then 2 else (zk4 p (zcI p l (r.bs.getD (rV (kN br) r.bs).toNat ⟨br, -1⟩).last) ops).2:=by unfold zh7;rw [hc]
   have hpos:= @eQ Br (kN br) r.bs
   generalize hix:rV (kN br) r.bs=ix at*
   by_cases h0:ix<0
   ·have e0:decide (ix<0)=true:=by simp [h0]
    rw [if_pos h0] at hE
    rw [hE]
    refine gf @e0 ?_
    exact .inl ⟨_,rfl,by decide⟩
   have e0:decide (ix<0)=false:=by simp;omega
   rw [if_neg h0] at hE
   by_cases h1:r.cs.length=200
   ·have e1:((r.cs.length:Int)==200)=true:=by rw [h1];rfl
    rw [if_pos h1] at hE
    rw [hE]
    refine gf (a2 @e0 @e1) ?_
    exact .inl ⟨_,rfl,by decide⟩
   have e1:((r.cs.length:Int)==200)=false:=by rw [beq_eq_false_iff_ne];omega
   rw [if_neg h1] at hE
   obtain ⟨i,rfl⟩:=Int.eq_ofNat_of_zero_le (show 0≤ix by omega)
   obtain ⟨hi, -⟩:=hpos rfl
   have hx:=zG (f:=Br.c) [] hi
   (repeat (first|refine gz ?_|(refine gn ?_;intro zs zh;(try simp only [go_sem,e0,e1,hi,hx,zB] at zh);subst zh;refine gv ?_)|refine yD UBra5f13.pp ?_))
   have hbr:=hb.2.2.2.2 i hi
   have hlast:r.bs[i].last<l.length:=by
    simp only [zkX,Bool.and_eq_true,Bool.not_eq_true',decide_eq_false_iff_not] at hbr
    omega
   have hg:(r.bs.getD (i:Int).toNat ⟨br, -1⟩)=r.bs[i]:=by rw [Int.toNat_natCast,List.getD_eq_getElem?_getD,List.getElem?_eq_getElem hi];rfl
   rw [hg] at hE
   obtain ⟨hap1, -⟩:=ha (zcI p l r.bs[i].last) ops (za5 hpl hsz _) ho
   rw [←hE] at hap1
   have hK:CommitK r br ops ⟨r.cs++[⟨ops, -1,r.bs[i].last⟩],r.bs.set i ⟨r.bs[i].name,r.cs.length⟩⟩ r.cs.length:=⟨i,hi,hix,rfl,rfl⟩
   generalize hy:r.bs[i]=y at*
   generalize zh7 p r br ops=e at*
   generalize zk4 p (zcI p l y.last) ops=de at*
   (refine zF rfl rfl rfl ?_;intro sr hsr;simp only [go_sem,e0,e1,hi,hx,zB] at hsr;subst hsr;refine vP rfl (znT p hpl l y.last hlast) (by simp [zJ]) ?_;intro p2 hr2 ts2 hts;simp only [go_sem] at hts;subst hts)
   subst hr2
   (repeat (first|refine gz ?_|(refine gn ?_;intro zs zh;(try simp only [go_sem,e0,e1,hi,hx,zB] at zh);subst zh;refine gv ?_)|refine yD UBra5f13.pp ?_))
   (refine zF rfl rfl rfl ?_;intro sr hsr;simp only [go_sem,e0,e1,hi,hx,zB] at hsr;subst hsr;refine vP rfl (hap1) (by simp [zJ]) ?_;intro p2 hr2 ts2 hts;simp only [go_sem] at hts;subst hts)
   subst hr2
   (repeat (first|refine gz ?_|(refine gn ?_;intro zs zh;(try simp only [go_sem,e0,e1,hi,hx,zB] at zh);subst zh;refine gv ?_)|refine yD UBra5f13.pp ?_))
   by_cases he:e=0
   case neg=>
    have e2:(e !=0)=true:=by simp [he]
    (repeat (first|refine gz ?_|(refine gn ?_;intro zs zh;(try simp only [go_sem,e0,e1,hi,hx,zB,e2] at zh);subst zh;refine gv ?_)|refine yD UBra5f13.pp ?_))
    exact .inl ⟨_,rfl,he⟩
   subst he
   have e2:((0:Int)!=0)=false:=rfl
   have ht:List.take r.cs.length (r.cs.map Co.c)=r.cs.map Co.c:=List.take_of_length_le (by simp)
   have hq:(r.cs.length+1)*40≤140737488355328:=by omega
   have hq2:r.cs.length≤140737488355327:=by omega
   (repeat (first|refine gz ?_|(refine gn ?_;intro zs zh;(try simp only [go_sem,e0,e1,hi,hx,zB,e2] at zh);subst zh;refine gv ?_)|refine yD UBra5f13.pp ?_))
   (refine zF rfl rfl rfl ?_;intro sr hsr;simp only [go_sem,e0,e1,hi,hx,zB] at hsr;subst hsr;refine vP rfl (zgD ops (by have:=ho.s;omega) (zhA 36 ops)) (by simp) ?_;intro p2 hr2 ts2 hts;simp only [go_sem] at hts;subst hts)
   subst hr2
   (repeat (first|refine gz ?_|(refine gn ?_;intro zs zh;(try simp only [go_sem,e0,e1,hi,hx,zB,ht,hq,hq2] at zh);subst zh;refine gv ?_)|refine yD UBra5f13.pp ?_))
   have hbs:=fJ r.cs.length r.bs i hi
   have hbl2:=fK r.bs
   have hi2:((i:Int)<(r.bs.length:Int))=True:=eq_true (by omega)
   (refine g1f (a5 @e0 @e1 @hi @hx @zB) ?_;refine zC (gG r.bs (by omega) (by omega) _) ?_;intro p2 h2 hr2;refine g2 ?_)
   obtain ⟨rfl,rfl⟩:=hr2
   generalize hfl:lL r.bs=fl at*
   (repeat (first|refine gz ?_|(refine gn ?_;intro zs zh;(try simp only [go_sem,e0,e1,hi,hx,zB,hi2,hbl2,hbs] at zh);subst zh;refine gv ?_)|refine yD UBra5f13.pp ?_))
   subst hy
   refine .inr ⟨⟨r.cs++[⟨ops, -1,r.bs[i].last⟩],r.bs.set i ⟨r.bs[i].name,r.cs.length⟩⟩,r.cs.length,4,5,?_,rfl,hK⟩
   simp only [List.map_append,List.length_set];rfl
 ·have tb3: ∀ (y:Rp) (n e:Int),Tree (.tup [.agg y.c,i64 n,i64 e]):=fun y n e=>yP 40 _ (show ([.agg y.c,i64 n,i64 e].all (zU 39))=true by rw [List.all_cons,zk7 32 y];rfl)
  rintro v h (⟨n,rfl,he⟩|⟨y,n,q,q2,rfl,hq2,hK⟩)
  ·refine ⟨.tup [.agg (Rp.mk [] []).c,i64 n,i64 (zh7 p r br ops)],?_,⟨_,n,rfl,fun h=>absurd h he⟩,tb3 _ _ _⟩
   rw [zlG 39,List.map_cons,List.map_cons,List.map_cons,List.map_nil,fzA 38,List.map_cons,List.map_cons,List.map_nil,fzN 37,ziD 38,ziD 38]
   exact PLes.tup (.cons zbJ (.cons (PLe.refl _) (.cons (PLe.refl _) .nil)))
  ·refine ⟨.tup [.agg y.c,i64 n,i64 (zh7 p r br ops)],?_,⟨y,n,rfl,fun _=>hK⟩,tb3 _ _ _⟩
   have h1:fz 0 h 38 (.vec q 3 (y.cs.map Co.c))= .ts 3 (y.cs.map Co.c):=by rw [pD (f:=37)];exact vE 0 h 38 _ (zaM 32 y.cs)
   have h2:(y.bs.map Br.c).flatten.map (fz 0 h 37)=(y.bs.map Br.c).flatten:=uR fun x hx=>by
    obtain ⟨e,he,hx⟩:=List.mem_flatten.1 hx
    obtain ⟨b,_,rfl⟩:=List.mem_map.1 he
    simp only [Br.c,List.mem_cons,List.not_mem_nil,or_false] at hx
    rcases hx with rfl|rfl<;>exact ziD 36 _
   have h3:=rL 2 (y.bs.map Br.c) (fun e he=>by obtain ⟨b,_,rfl⟩:=List.mem_map.1 he;rfl)
   rw [List.length_map] at h3
   rw [zlG 39,List.map_cons,List.map_cons,List.map_cons,List.map_nil,fzA 38,List.map_cons,List.map_cons,List.map_nil,h1,fzM 37 _ _ _ _ hq2,h2,h3,ziD 38,ziD 38]
   exact PLe.refl _
end Go.AL
namespace Go.AL
open Go.Proofs
theorem jK (l:List Bool):Tree (.ts 1 (l.map fun b=>[bo b])):=by
 refine .ts fun e he p hp=> ?_
 obtain ⟨b,_,rfl⟩:=List.mem_map.1 he
 simp only [List.mem_cons,List.not_mem_nil,or_false] at hp
 subst hp;exact .sc
theorem zcX (cs:List Cm):Tree (zaF cs):=by
 refine .agg fun p hp=> ?_
 simp only [List.mem_cons,List.not_mem_nil,or_false] at hp
 rcases hp with rfl|rfl
 ·refine .ts fun e he p hp=> ?_
  obtain ⟨b,_,rfl⟩:=List.mem_map.1 he
  simp only [bS,List.mem_cons,List.not_mem_nil,or_false] at hp
  rcases hp with rfl|rfl|rfl
  ·exact .un
  ·exact .sc
  ·exact .sc
 ·exact .un
theorem za9 (cs:List Cm) (a:Int): ∀ p∈[zaF cs,i64 a],Tree p:=by
 intro p hp
 simp only [List.mem_cons,List.not_mem_nil,or_false] at hp
 rcases hp with rfl|rfl
 ·exact zcX cs
 ·exact .sc
theorem eD (cs:List Cm) (c:Int) (hcs:cs.length≤140737488355328) (h:Heap):ACall Tryz.prog G0 46 [zaF cs,i64 c] h fun p h'=>p= .ts 1 ((rB cs c).map fun b=>[bo b])∧h'=h:=
 (mH cs c hcs).frame (za9 cs c) (jK _) zK h
def oT (x y:List Bool):Nat→Int
 |0=> -1
 |i+1=>if x.getD i false&&y.getD i false then i else oT x y i
theorem Common_ok (cs:List Cm) (a b:Int) (hcs:cs.length≤140737488355328):Pure Tryz.prog G0 21 [zaF cs,i64 a,i64 b] (i64 (oT (rB cs a) (rB cs b) cs.length)):=by
 refine ACall.cut 0 40 (Nat.zero_le _) ?_
 refine mY (own:=false) Tryz.func21 rfl (by kernel_rfl) (show _=(zaF cs::i64 a::i64 b:: .ud:: .ud:: .ud:: .ud:: .ud:: .ud:: .ud:: .ud:: .ud:: .ud:: .ud:: .ud:: .ud:: .ud:: .ud:: .ud:: .ud:: .ud:: .ud:: .ud:: .ud:: .ud:: .ud:: .ud:: .ud:: .ud:: .ud:: .ud:: .ud:: .ud:: .ud::[]) from rfl) ?_
 (repeat (first|refine gz ?_|(refine gn ?_;intro zs zh;(try simp only [go_sem] at zh);subst zh;refine gw ?_)))
 refine oJ (own:=false) wN zK ⟨[⟨1,0,[]⟩,⟨0,0,[]⟩,⟨3,0,[]⟩,⟨1,0,[]⟩,⟨0,0,[]⟩,⟨4,0,[]⟩,⟨0,0,[]⟩,⟨0,0,[]⟩],[0,1,2,3,4,5,6,7],0⟩ (by kernel_rfl) ?_
 simp only [go_sem]
 (repeat (first|refine gz ?_|(refine gn ?_;intro zs zh;(try simp only [go_sem] at zh);subst zh;refine gw ?_)))
 (refine zF rfl rfl rfl ?_;intro sr hsr;simp only [go_sem] at hsr;subst hsr;refine bQ rfl (mH cs a hcs) (za9 cs a) (jK _) ?_;intro ts2 hts;simp only [go_sem] at hts;subst hts)
 (repeat (first|refine gz ?_|(refine gn ?_;intro zs zh;(try simp only [go_sem] at zh);subst zh;refine gw ?_)))
 (refine zF rfl rfl rfl ?_;intro sr hsr;simp only [go_sem] at hsr;subst hsr;refine tY (by decide) (by decide) (eD cs b hcs _) ?_;intro ts2 hts;simp only [go_sem] at hts;subst hts)
 (repeat (first|refine gz ?_|(refine gn ?_;intro zs zh;(try simp only [go_sem] at zh);subst zh;refine gw ?_)))
 have hla:=iM cs a
 have hlb:=iM cs b
 generalize rB cs a=x at hla ⊢
 generalize rB cs b=z at hlb ⊢
 rw [←hla] at hcs hlb ⊢
 have hsub:IntKind.i64.wrap (↑x.length-1)=(x.length:Int)-1:=xM (by omega) (by omega)
 rw [hsub]
 refine cD (own:=false) (σ:=Nat) [7,8,9] (fun j=>(.un:: .un:: .un:: .un:: .un:: .un:: .un:: .ts 1 (x.map fun b=>[bo b]):: .ts 1 (z.map fun b=>[bo b])::i64 ((j:Int)-1):: .un:: .un:: .un:: .un:: .un:: .un:: .un:: .un:: .un:: .un:: .un:: .un:: .un:: .un:: .un:: .un:: .un:: .un:: .un:: .un:: .un:: .un:: .un:: .un::[])) (fun _=>[.var 31 [.ts 3 (cs.map bS),.un]]) (fun j=>j≤x.length∧oT x z x.length=oT x z j) (fun j=>j) x.length rfl rfl ⟨Nat.le_refl _,rfl⟩ ?_
 rintro j ⟨hj,hc⟩
 cases j with
 |zero=>
  (repeat (first|refine gz ?_|(refine gn ?_;intro zs zh;(try simp only [go_sem,Int.natCast_zero,Int.cast_ofNat_Int,Int.zero_sub] at zh);subst zh;refine gw ?_)))
  rw [hc]
  exact ⟨rfl,rfl⟩
 | succ j=>
  have e1:((j+1:Nat):Int)-1=j:=by omega
  have hge:(0:Int)≤j:=by omega
  have hjx:j<x.length:=by omega
  have hjy:j<z.length:=by omega
  have hgx:=zG (f:=fun b=>[bo b]) [] hjx
  have hgy:=zG (f:=fun b=>[bo b]) [] hjy
  have hw:IntKind.i64.wrap (↑j-1)=(j:Int)-1:=xM (by omega) (by omega)
  have hcm:oT x z (j+1)=if x[j]&&z[j] then (j:Int) else oT x z j:=by
   simp only [oT,List.getD_eq_getElem?_getD,List.getElem?_eq_getElem hjx,List.getElem?_eq_getElem hjy,Option.getD_some]
  rw [hcm] at hc
  cases hx:x[j] with
  |false=>
   rw [hx] at hc hgx
   (repeat (first|refine gz ?_|(refine gn ?_;intro zs zh;(try simp only [go_sem,e1,hge,hjx,hgx,hw] at zh);subst zh;refine gw ?_)))
   exact ⟨j,⟨by omega,hc⟩,by omega,rfl,rfl⟩
  | true=>
   rw [hx] at hc hgx
   cases hy:z[j] with
   |false=>
    rw [hy] at hc hgy
    (repeat (first|refine gz ?_|(refine gn ?_;intro zs zh;(try simp only [go_sem,e1,hge,hjx,hgx,hjy,hgy,hw] at zh);subst zh;refine gw ?_)))
    exact ⟨j,⟨by omega,hc⟩,by omega,rfl,rfl⟩
   |true=>
    rw [hy] at hc hgy
    (repeat (first|refine gz ?_|(refine gn ?_;intro zs zh;(try simp only [go_sem,e1,hge,hjx,hgx,hjy,hgy,hw] at zh);subst zh;refine gw ?_)))
    rw [hc]
    exact ⟨rfl,rfl⟩
end Go.AL
namespace Go.AL
def Up (cs:List Cm) (n m:Nat):Prop:=n<cs.length∧m<n∧((cs.getD n (0,0)).2=m∨(cs.getD n (0,0)).1=m)
inductive Reach (cs:List Cm):Nat→Nat→Prop
 |refl (n:Nat):Reach cs n n
 |step {n m k:Nat}:Up cs n m→Reach cs m k→Reach cs n k
theorem Reach.le {cs:List Cm} {n k:Nat} (h:Reach cs n k):k≤n:=by
 induction h with
 |refl=>exact Nat.le_refl _
 |step u _ ih=>exact Nat.le_of_lt (Nat.lt_of_le_of_lt ih u.2.1)
theorem Reach.lt {cs:List Cm} {n k:Nat} (h:Reach cs n k) (hn:n<cs.length):k<cs.length:=Nat.lt_of_le_of_lt h.le hn
theorem Reach.trans {cs:List Cm} {n k j:Nat} (h:Reach cs n k) (h':Reach cs k j):Reach cs n j:=by
 induction h with
 |refl=>exact h'
 |step u _ ih=>exact .step u (ih h')
abbrev on (o:List Bool) (i:Nat):Prop:=o[i]? =some true
def Shut (cs:List Cm) (o:List Bool) (L:Nat):Prop:= ∀ i j,i<L→on o i→Up cs i j→on o j
theorem zfN (cs:List Cm): ∀ (k:Nat) (n:Int) (lim:Nat) (o:List Bool),lim≤k→lim≤cs.length→o.length=cs.length→Shut cs o lim→
  (∀ i,on o i→on (dP cs k n lim o) i)∧(∀ i,on (dP cs k n lim o) i→on o i∨(0≤n∧n<lim∧Reach cs n.toNat i))∧Shut cs (dP cs k n lim o) lim∧(0≤n→n<lim→on (dP cs k n lim o) n.toNat):=by
 intro k
 induction k with
 |zero=>
  intro n lim o hk _ _ _
  have:lim=0:=by omega
  subst this
  refine ⟨fun i h=>h,fun i h=> .inl h,fun i j h=>absurd h (Nat.not_lt_zero _),fun a b=> ?_⟩
  omega
 | succ k ih=>
  intro n lim o hk hl ho hs
  simp only [dP]
  split
  ·rename_i hc
   refine ⟨fun i h=>h,fun i h=> .inl h,hs,fun a b=> ?_⟩
   rcases hc with h|h|h
   ·omega
   ·omega
   ·rw [List.getD_eq_getElem?_getD] at h
    unfold on
    cases hx:o[n.toNat]? with
    |none=>rw [hx] at h;cases h
    |some b=>rw [hx] at h;simp at h;rw [h]
  ·rename_i hc
   have h0:0≤n:=by
    rcases Int.lt_or_le n 0 with h|h
    ·exact absurd (.inl h) hc
    ·exact h
   obtain ⟨m,rfl⟩:=Int.eq_ofNat_of_zero_le h0
   have hm:m<lim:=by
    rcases Nat.lt_or_ge m lim with h|h
    ·exact h
    ·exact absurd (.inr (.inl (by omega))) hc
   rw [Int.toNat_natCast] at hc ⊢
   have hmo:m<o.length:=by omega
   have s1:Shut cs (o.set m true) m:=by
    intro i j hi hon hu
    unfold on at hon ⊢
    rw [List.getElem?_set_ne (by omega)] at hon
    rw [List.getElem?_set_ne (by have:=hu.2.1;omega)]
    exact hs i j (by omega) hon hu
   obtain ⟨a1,a2,a3,a4⟩:=ih (cs.getD m (0,0)).2 m (o.set m true) (by omega) (by omega) (by simpa using ho) s1
   obtain ⟨b1,b2,b3,b4⟩:=ih (cs.getD m (0,0)).1 m _ (by omega) (by omega) (by rw [eO];simpa using ho) a3
   generalize dP cs k (cs.getD m (0,0)).2 m (o.set m true)=o1 at*
   generalize dP cs k (cs.getD m (0,0)).1 m o1=o2 at*
   have hmm:on (o.set m true) m:=by unfold on;rw [List.getElem?_set_self hmo]
   have up: ∀ i,on o i→on (o.set m true) i:=by
    intro i h
    by_cases e:i=m
    ·subst e;exact hmm
    ·unfold on;rw [List.getElem?_set_ne (Ne.symm e)];exact h
   have down: ∀ i,on o2 i→on o i∨Reach cs m i:=by
    intro i h
    have step: ∀ c:Int,(c=(cs.getD m (0,0)).2∨c=(cs.getD m (0,0)).1)→(0≤c∧c<m∧Reach cs c.toNat i)→Reach cs m i:=by
     intro c hcc ⟨c1,c2,c3⟩
     refine .step ⟨by omega,by omega,?_⟩ c3
     rcases hcc with e|e
     ·left;omega
     ·right;omega
    rcases b2 i h with h|h
    ·rcases a2 i h with h|h
     ·by_cases e:i=m
      ·right;subst e;exact .refl _
      ·left;unfold on at h ⊢;rw [List.getElem?_set_ne (Ne.symm e)] at h;exact h
     ·exact .inr (step _ (.inl rfl) h)
    ·exact .inr (step _ (.inr rfl) h)
   refine ⟨fun i h=>b1 i (a1 i (up i h)),fun i h=> ?_,fun i j hi hon hu=> ?_,fun _ _=>b1 _ (a1 _ hmm)⟩
   ·rcases down i h with h|h
    ·exact .inl h
    ·exact .inr ⟨h0,by omega,h⟩
   ·rcases Nat.lt_trichotomy i m with h|h|h
    ·exact b3 i j h hon hu
    ·subst h
     rcases hu.2.2 with e|e
     ·exact b1 j (by have:=a4 (by omega) (by have:=hu.2.1;omega);rwa [e] at this)
     ·have:=b4 (by omega) (by have:=hu.2.1;omega);rwa [e] at this
    ·rcases down i hon with h'|h'
     ·exact b1 j (a1 j (up j (hs i j hi h' hu)))
     ·have:=h'.le;omega
theorem zlQ (cs:List Cm) (a:Nat) (ha:a<cs.length) (i:Nat):on (rB cs a) i↔Reach cs a i:=by
 have no: ∀ i, ¬on (List.replicate cs.length false) i:=by
  intro i h
  unfold on at h
  rw [List.getElem?_replicate] at h
  split at h<;>simp at h
 obtain ⟨h1,h2,h3,h4⟩:=zfN cs cs.length a cs.length (List.replicate cs.length false) (Nat.le_refl _) (Nat.le_refl _) (List.length_replicate ..) (fun i j _ h=>absurd h (no i))
 constructor
 ·intro h
  rcases h2 i h with h|h
  ·exact absurd h (no i)
  ·simpa using h.2.2
 ·have base:=h4 (by omega) (by omega)
  rw [Int.toNat_natCast] at base
  have key: ∀ n i,Reach cs n i→on (rB cs a) n→n<cs.length→on (rB cs a) i:=by
   intro n i hr
   induction hr with
   |refl=>intro h _;exact h
   |step u _ ih=>intro h hn;exact ih (h3 _ _ hn h u) (Nat.lt_trans u.2.1 hn)
  intro h
  exact key a i h base ha
theorem zd3 (x y:List Bool): ∀ n,(-1≤oT x y n)∧(∀ i:Nat,i<n→on x i→on y i→(i:Int)≤oT x y n)∧(0≤oT x y n→ ∃ i:Nat,oT x y n=i∧i<n∧on x i∧on y i):=by
 intro n
 induction n with
 |zero=>exact ⟨by simp [oT],fun i h=>absurd h (Nat.not_lt_zero _),fun h=>by simp [oT] at h⟩
 | succ n ih=>
  obtain ⟨h1,h2,h3⟩:=ih
  simp only [oT]
  split
  ·rename_i hc
   rw [Bool.and_eq_true] at hc
   refine ⟨by omega,fun i hi _ _=>by omega,fun _=>⟨n,rfl,by omega,?_,?_⟩⟩
   ·have:=hc.1
    rw [List.getD_eq_getElem?_getD] at this
    unfold on
    cases hx:x[n]? with
    |none=>rw [hx] at this;cases this
    |some b=>rw [hx] at this;simp at this;rw [this]
   ·have:=hc.2
    rw [List.getD_eq_getElem?_getD] at this
    unfold on
    cases hx:y[n]? with
    |none=>rw [hx] at this;cases this
    |some b=>rw [hx] at this;simp at this;rw [this]
  ·rename_i hc
   refine ⟨h1,fun i hi a b=> ?_,fun h=> ?_⟩
   ·rcases Nat.lt_or_ge i n with h|h
    ·exact h2 i h a b
    ·have:i=n:=by omega
     subst this
     exfalso;apply hc
     unfold on at a b
     rw [List.getD_eq_getElem?_getD,List.getD_eq_getElem?_getD,a,b];rfl
   ·obtain ⟨i,e,hi,a,b⟩:=h3 h
    exact ⟨i,e,by omega,a,b⟩
end Go.AL
namespace Go.AL
def RIn (cs:List Cm) (a:Int) (k:Nat):Prop:=0≤a∧Reach cs a.toNat k
theorem kR (cs:List Cm) (a:Int) (ha:a<cs.length) (i:Nat):on (rB cs a) i↔RIn cs a i:=by
 rcases Int.lt_or_le a 0 with h|h
 ·constructor
  ·intro ho
   exfalso
   have e:rB cs a=List.replicate cs.length false:=by
    unfold rB
    cases hn:cs.length with
    |zero=>rfl
    |succ n=>simp only [dP];rw [if_pos (.inl h)]
   rw [e] at ho
   unfold on at ho
   rw [List.getElem?_replicate] at ho
   split at ho<;>simp at ho
  ·rintro ⟨h0,_⟩;omega
 ·obtain ⟨n,rfl⟩:=Int.eq_ofNat_of_zero_le h
  rw [zlQ cs n (by omega) i]
  exact ⟨fun r=>⟨h,r⟩,fun r=>r.2⟩
theorem Up.app {cs:List Cm} {n m:Nat} (c:Cm) (hn:n<cs.length):Up (cs++[c]) n m↔Up cs n m:=by
 unfold Up
 have e:(cs++[c]).getD n (0,0)=cs.getD n (0,0):=by
  rw [List.getD_eq_getElem?_getD,List.getD_eq_getElem?_getD,List.getElem?_append_left hn]
 rw [e]
 simp only [List.length_append,List.length_cons,List.length_nil]
 constructor
 ·rintro ⟨_,b,c⟩;exact ⟨hn,b,c⟩
 ·rintro ⟨a,b,c⟩;exact ⟨by omega,b,c⟩
theorem Reach.app {cs:List Cm} {n k:Nat} (c:Cm) (hn:n<cs.length):Reach (cs++[c]) n k↔Reach cs n k:=by
 constructor
 ·intro h
  induction h with
  |refl=>exact .refl _
  |step u _ ih=>exact .step ((Up.app c hn).1 u) (ih (Nat.lt_trans u.2.1 hn))
 ·intro h
  induction h with
  |refl=>exact .refl _
  |step u _ ih=>exact .step ((Up.app c hn).2 u) (ih (Nat.lt_trans u.2.1 hn))
theorem RIn.app {cs:List Cm} {a:Int} {k:Nat} (c:Cm) (ha:a<cs.length):RIn (cs++[c]) a k↔RIn cs a k:=by
 unfold RIn
 constructor
 ·rintro ⟨h0,r⟩;exact ⟨h0,(Reach.app c (by omega)).1 r⟩
 ·rintro ⟨h0,r⟩;exact ⟨h0,(Reach.app c (by omega)).2 r⟩
theorem RIn.le {cs:List Cm} {a:Int} {k:Nat} (h:RIn cs a k):(k:Int)≤a:=by
 have:=h.2.le
 have:=h.1
 omega
theorem RIn.new {cs:List Cm} {a:Int} {k:Nat} (ha:a<cs.length):RIn (cs++[(-1,a)]) (cs.length:Nat) k↔k=cs.length∨RIn cs a k:=by
 have hg:(cs++[((-1:Int),a)]).getD cs.length (0,0)=(-1,a):=by
  rw [List.getD_eq_getElem?_getD,List.getElem?_append_right (Nat.le_refl _)];simp
 constructor
 ·rintro ⟨_,r⟩
  rw [Int.toNat_natCast] at r
  cases r with
  |refl=>exact .inl rfl
  | step u r=>
   right
   obtain ⟨_,hm,e⟩:=u
   rw [hg] at e
   rcases e with e|e
   ·dsimp only at e
    subst e
    exact ⟨by omega,by rw [Int.toNat_natCast];exact (Reach.app _ hm).1 r⟩
   ·dsimp only at e;omega
 ·rintro (rfl|⟨h0,r⟩)
  ·exact ⟨by omega,by rw [Int.toNat_natCast];exact .refl _⟩
  ·refine ⟨by omega,?_⟩
   rw [Int.toNat_natCast]
   refine .step ⟨by simp,(by omega:a.toNat<cs.length),.inl ?_⟩ ((Reach.app _ (by omega)).2 r)
   rw [hg];dsimp only;omega
structure Meets (cs:List Cm) (a b L:Int):Prop where
 a0: -1≤a∧a<cs.length
 b0: -1≤b∧b<cs.length
 l0: -1≤L
 la:L≤a
 lb:L≤b
 up: ∀ k,RIn cs a k→RIn cs b k→(k:Int)≤L
 at':0≤L→RIn cs a L.toNat∧RIn cs b L.toNat
theorem Meets.refl {cs:List Cm} {L:Int} (h: -1≤L∧L<cs.length):Meets cs L L L:=
 ⟨h,h,h.1,Int.le_refl _,Int.le_refl _,fun _ r _=>r.le,fun h0=>⟨⟨h0,.refl _⟩,⟨h0,.refl _⟩⟩⟩
theorem Meets.symm {cs:List Cm} {a b L:Int} (h:Meets cs a b L):Meets cs b a L:=
 ⟨h.b0,h.a0,h.l0,h.lb,h.la,fun k x y=>h.up k y x,fun h0=>(h.at' h0).symm⟩
theorem Meets.left {cs:List Cm} {a b L:Int} (h:Meets cs a b L):Meets (cs++[(-1,a)]) (cs.length:Nat) b L:=by
 have hb:=h.b0
 have ha:=h.a0
 refine ⟨⟨by omega,by simp;omega⟩,⟨hb.1,by simp;omega⟩,h.l0,by have:=h.lb;omega,h.lb,fun k x y=> ?_,fun h0=> ?_⟩
 ·rw [RIn.app _ hb.2] at y
  rcases (RIn.new ha.2).1 x with e|x
  ·have:=y.le;omega
  ·exact h.up k x y
 ·exact ⟨(RIn.new ha.2).2 (.inr (h.at' h0).1),(RIn.app _ hb.2).2 (h.at' h0).2⟩
theorem Meets.right {cs:List Cm} {a b L:Int} (h:Meets cs a b L):Meets (cs++[(-1,b)]) a (cs.length:Nat) L:=h.symm.left.symm
theorem Meets.com {cs:List Cm} {a b L:Int} (h:Meets cs a b L):oT (rB cs a) (rB cs b) cs.length=L:=by
 obtain ⟨h1,h2,h3⟩:=zd3 (rB cs a) (rB cs b) cs.length
 have hl:=h.l0
 have low:oT (rB cs a) (rB cs b) cs.length≤L:=by
  rcases Int.lt_or_le (oT (rB cs a) (rB cs b) cs.length) 0 with hn|hn
  ·omega
  ·obtain ⟨i,e,hi,x,y⟩:=h3 hn
   have:=h.up i ((kR cs a h.a0.2 i).1 x) ((kR cs b h.b0.2 i).1 y)
   omega
 rcases Int.lt_or_le L 0 with hn|hn
 ·omega
 ·obtain ⟨x,y⟩:=h.at' hn
  have hla:=h.la
  have ha:=h.a0.2
  have:=h2 L.toNat (by omega) ((kR cs a h.a0.2 _).2 x) ((kR cs b h.b0.2 _).2 y)
  omega
end Go.AL
namespace Go.AL
open Go.Proofs Go.Proofs.Tryz
theorem PLes.app {a b c d:List PV} (h:PLes a b) (k:PLes c d):PLes (a++c) (b++d):=by
 induction h with
 |nil=>exact k
 |cons h _ ih=>exact .cons h ih
def Dec {α:Type} (n:Nat) (t:TypeId) (c:α→List PV) (K:α→Prop):Prop:= ∀ (m:Nat) (x:List PV),Shp prog (m+n) t x→ ∃ a,K a∧PLes x (c a)
def DecS {α:Type} (n:Nat) (ts:List TypeId) (c:α→List PV) (K:α→Prop):Prop:= ∀ (m:Nat) (ps:List (List PV)),ps.length=ts.length→(∀ (i:Nat) (t:TypeId) (p:List PV),ts[i]? =some t→ps[i]? =some p→Shp prog (m+n) t p)→ ∃ a,K a∧PLes ps.flatten (c a)
def zcS (P:Program) (t:TypeId):Option (List TypeId):=match P.underlying t with
 |some (.struct fs)=>some (fs.toList.map (·.type))
 |_=>none
def slOf (P:Program) (t:TypeId):Option (TypeId×Nat×Bool):=match P.underlying t with
 |some (.slice e)=>some (e,P.cellsOf e,decide (1≤P.bytesOf e))
 |_=>none
theorem Dec.up {α:Type} {n k:Nat} {t:TypeId} {c:α→List PV} {K:α→Prop} (D:Dec n t c K) (h:n≤k):Dec k t c K:=fun m x hx=>D (m+(k-n)) x (by rw [show m+(k-n)+n=m+k by omega];exact hx)
theorem Dec.map {α β:Type} {n:Nat} {t:TypeId} {c:α→List PV} {K:α→Prop} {d:β→List PV} {L:β→Prop} (D:Dec n t c K) (f:α→β) (hc: ∀ a,c a=d (f a)) (hK: ∀ a,K a→L (f a)):Dec n t d L:=fun m x hx=>by
 obtain ⟨a,h,k⟩:=D m x hx
 exact ⟨f a,hK a h,by rw [←hc];exact k⟩
theorem zj1 {t:TypeId} {k:IntKind} (h:prog.underlying t=some (.int k)):Dec 0 t (fun z:Int=>[.sc (.int k z)]) fun z=>k.min≤z∧z≤k.max:=fun m x hx=>by
 unfold Shp at hx
 rw [h] at hx
 have hx: ∃ z,x=[.sc (.int k z)]∧k.min≤z∧z≤k.max:=by cases m<;>exact hx
 obtain ⟨z,rfl,hz⟩:=hx
 exact ⟨z,hz,PLes.refl _⟩
theorem zgB {t:TypeId} (h:prog.underlying t=some .bool):Dec 0 t (fun z:Bool=>[bo z]) fun _=>True:=fun m x hx=>by
 unfold Shp at hx
 rw [h] at hx
 have hx: ∃ b,x=[.sc (.bool b)]:=by cases m<;>exact hx
 obtain ⟨z,rfl⟩:=hx
 exact ⟨z,trivial,PLes.refl _⟩
theorem aT {t:TypeId} (h:prog.underlying t=some .string):Dec 0 t (fun z:BA=>[yQ z]) fun z=>z.size≤140737488355328:=fun m x hx=>by
 unfold Shp at hx
 rw [h] at hx
 have hx: ∃ s:BA,x=[.sc (.string s)]∧s.size≤maxLen∧s.size≤reachBytes:=by cases m<;>exact hx
 obtain ⟨z,rfl,_,hz⟩:=hx
 have:reachBytes=140737488351232:=by decide
 exact ⟨z,by omega,PLes.refl _⟩
theorem zj2 {α:Type} {n k:Nat} {e:TypeId} {c:α→List PV} {K:α→Prop} (D:Dec n e c K) (m:Nat): ∀ els:List (List PV),(∀ x∈els,Shp prog (m+n) e x)→ ∃ l:List α,l.length=els.length∧(∀ a∈l,K a)∧PLe (.ts k els) (.ts k (l.map c)):=fun els h=>by
 have key: ∃ l:List α,l.length=els.length∧(∀ a∈l,K a)∧ ∀ (i:Nat) (x y:List PV),els[i]? =some x→(l.map c)[i]? =some y→PLes x y:=by
  induction els with
  |nil=>exact ⟨[],rfl,by simp,fun i x y hx=>by simp at hx⟩
  | cons x els ih=>
   obtain ⟨a,ha,k⟩:=D m x (h x (List.mem_cons_self ..))
   obtain ⟨l,h1,h2,h3⟩:=ih fun y hy=>h y (List.mem_cons_of_mem _ hy)
   refine ⟨a::l,by simp [h1],fun b hb=> ?_,fun i y z hy hz=> ?_⟩
   ·rcases List.mem_cons.1 hb with rfl|hb
    ·exact ha
    ·exact h2 b hb
   ·cases i with
    |zero=>simp at hy hz;subst hy;subst hz;exact k
    |succ i=>exact h3 i y z (by simpa using hy) (by simpa using hz)
 obtain ⟨l,h1,h2,h3⟩:=key
 exact ⟨l,h1,h2,PLe.ts (by simp [h1]) fun i x y hx hy=>⟨(h3 i x y hx hy).len,(h3 i x y hx hy).get⟩⟩
theorem Dec.slice {α:Type} {n k:Nat} {t e:TypeId} {c:α→List PV} {K:α→Prop} (D:Dec n e c K) (h:slOf prog t=some (e,k,true)):Dec (n+1) t (fun l:List α=>[.ts k (l.map c)]) fun l=>l.length≤140737488355328∧ ∀ a∈l,K a:=fun m x hx=>by
 unfold slOf at h
 split at h
 case h_2=>cases h
 rename_i e' hu
 simp only [Option.some.injEq,Prod.mk.injEq,decide_eq_true_eq] at h
 obtain ⟨h1,h2,hb⟩:=h
 subst h1;subst h2
 rw [show m+(n+1)=(m+n)+1 by omega] at hx
 unfold Shp at hx
 rw [hu] at hx
 have hx:x=[.nil]∨ ∃ els,x=[.ts (prog.cellsOf e') els]∧els.length*prog.bytesOf e'≤reachBytes∧ ∀ x∈els,Shp prog (m+n) e' x:=hx
 rcases hx with rfl|⟨els,rfl,hl,hels⟩
 ·exact ⟨[],⟨Nat.zero_le _,by simp⟩,.cons (PLe.nil_ts _) .nil⟩
 ·obtain ⟨l,h1,h2,h3⟩:=zj2 (k:=prog.cellsOf e') D m els hels
  have:reachBytes=140737488351232:=by decide
  have:=Nat.le_mul_of_pos_right els.length hb
  exact ⟨l,⟨by omega,h2⟩,.cons h3 .nil⟩
theorem DecS.nil {n:Nat}:DecS n [] (fun _:Unit=>[]) fun _=>True:=fun m ps h _=>⟨(),trivial,by rw [List.eq_nil_of_length_eq_zero h];exact .nil⟩
theorem DecS.cons {α β:Type} {n:Nat} {t:TypeId} {ts:List TypeId} {c:α→List PV} {K:α→Prop} {d:β→List PV} {L:β→Prop} (D:Dec n t c K) (E:DecS n ts d L):DecS n (t::ts) (fun a:α×β=>c a.1++d a.2) fun a=>K a.1∧L a.2:=fun m ps h k=>by
 match ps,h with
 |p::ps,h=>
  obtain ⟨a,h1,h2⟩:=D m p (k 0 t p rfl rfl)
  obtain ⟨b,h3,h4⟩:=E m ps (by simpa using h) fun i t p ht hp=>k (i+1) t p (by simpa using ht) (by simpa using hp)
  exact ⟨(a,b),⟨h1,h3⟩,h2.app h4⟩
theorem Dec.struct {α:Type} {n:Nat} {t:TypeId} {ts:List TypeId} {c:α→List PV} {K:α→Prop} (h:zcS prog t=some ts) (E:DecS n ts c K):Dec (n+1) t c K:=fun m x hx=>by
 unfold zcS at h
 split at h
 case h_2=>cases h
 rename_i fs hu
 cases h
 rw [show m+(n+1)=(m+n)+1 by omega] at hx
 unfold Shp at hx
 rw [hu] at hx
 have hx: ∃ parts:List (List PV),parts.length=fs.size∧x=parts.flatten∧ ∀ (i:Nat) (f:Field) (p:List PV),fs[i]? =some f→parts[i]? =some p→Shp prog (m+n) f.type p:=hx
 obtain ⟨ps,hl,rfl,hp⟩:=hx
 refine E m ps (by simpa using hl) fun i t p ht hp'=> ?_
 rw [List.getElem?_map] at ht
 cases hf:fs.toList[i]? with
 |none=>rw [hf] at ht;cases ht
 |some f=>
  rw [hf] at ht;cases ht
  exact hp i f p (by rw [←Array.getElem?_toList];exact hf) hp'
theorem dI:Dec 0 3 (fun z:Int=>[i64 z]) fun _=>True:=(zj1 (by kernel_rfl)).map id (fun _=>rfl) fun _ _=>trivial
theorem dB:Dec 0 4 (fun z:Bool=>[bo z]) fun _=>True:=zgB (by kernel_rfl)
theorem dS:Dec 0 9 (fun z:BA=>[yQ z]) fun z=>z.size≤140737488355328:=aT (by kernel_rfl)
theorem dSs:Dec 1 108 (fun l:List BA=>[rR l]) fun l=>l.length≤140737488355328∧ ∀ s∈l,s.size≤140737488355328:=dS.slice (by kernel_rfl)
theorem dIs:Dec 1 57 (fun l:List Int=>[vF l]) fun l=>l.length≤140737488355328∧ ∀ s∈l,True:=dI.slice (by kernel_rfl)
end Go.AL
namespace Go.AL
open Go.Proofs Go.Proofs.Tryz
theorem dVl:Dec 1 72 Vl.c Vl.ok:=(Dec.struct (ts:=[3,3,9]) (by kernel_rfl) (.cons dI (.cons dI (.cons dS .nil)))).map (fun a=>⟨a.1,a.2.1,a.2.2.1⟩) (fun _=>rfl) fun _ h=>h.2.2.1
theorem dVls:Dec 2 73 (fun l:List Vl=>[pH l]) fun l=>l.length≤140737488355328∧ ∀ s∈l,s.ok:=dVl.slice (by kernel_rfl)
theorem dSp:Dec 1 82 Sp.c fun _=>True:=(Dec.struct (ts:=[3,3]) (by kernel_rfl) (.cons dI (.cons dI .nil))).map (fun a=>⟨a.1,a.2.1⟩) (fun _=>rfl) fun _ _=>trivial
theorem dTm:Dec 2 217 Tm.c Tm.ok:=(Dec.struct (ts:=[9,72]) (by kernel_rfl) (.cons (dS.up (by decide)) (.cons dVl .nil))).map (fun a=>⟨a.1,a.2.1⟩) (fun _=>rfl) fun _ h=>⟨h.1,h.2.1⟩
theorem dTms:Dec 3 120 (fun l:List Tm=>[mI l]) fun l=>l.length≤140737488355328∧ ∀ s∈l,s.ok:=dTm.slice (by kernel_rfl)
theorem zeQ (n:Nat):Dec n 3 (fun z:Int=>[i64 z]) fun _=>True:=dI.up (Nat.zero_le n)
theorem zm4 (n:Nat):Dec n 9 (fun z:BA=>[yQ z]) fun z=>z.size≤140737488355328:=dS.up (Nat.zero_le n)
theorem dLi:Dec 4 127 Li.c Li.ok:=(Dec.struct (ts:=[3,9,3,120,9,9,3,3,3]) (by kernel_rfl) (.cons (zeQ 3) (.cons (zm4 3) (.cons (zeQ 3) (.cons dTms (.cons (zm4 3) (.cons (zm4 3) (.cons (zeQ 3) (.cons (zeQ 3) (.cons (zeQ 3) .nil)))))))))).map
 (fun a=>⟨a.1,a.2.1,a.2.2.1,a.2.2.2.1,a.2.2.2.2.1,a.2.2.2.2.2.1,a.2.2.2.2.2.2.1,a.2.2.2.2.2.2.2.1,a.2.2.2.2.2.2.2.2.1⟩) (fun _=>rfl) fun _ h=>⟨h.2.1,h.2.2.2.2.1,h.2.2.2.2.2.1,h.2.2.2.1.1,h.2.2.2.1.2⟩
theorem dLis:Dec 5 123 (fun l:List Li=>[.ts 9 (l.map Li.c)]) fun l=>l.length≤140737488355328∧ ∀ s∈l,s.ok:=dLi.slice (by kernel_rfl)
theorem dEl:Dec 1 122 El.c fun e=>e.name.size≤140737488355328∧e.var.size≤140737488355328:=(Dec.struct (ts:=[3,9,9,3]) (by kernel_rfl) (.cons dI (.cons dS (.cons dS (.cons dI .nil))))).map (fun a=>⟨a.1,a.2.1,a.2.2.1,a.2.2.2.1⟩) (fun _=>rfl) fun _ h=>⟨h.2.1,h.2.2.1⟩
theorem dRu:Dec 6 125 Ru.c Ru.ok:=(Dec.struct (ts:=[9,3,120,122,123,3]) (by kernel_rfl) (.cons (zm4 5) (.cons (zeQ 5) (.cons (dTms.up (by decide)) (.cons (dEl.up (by decide)) (.cons dLis (.cons (zeQ 5) .nil))))))).map
 (fun a=>⟨a.1,a.2.1,a.2.2.1,a.2.2.2.1,a.2.2.2.2.1,a.2.2.2.2.2.1⟩) (fun _=>rfl) fun _ h=>⟨h.1,h.2.2.2.1.1,h.2.2.2.1.2,h.2.2.1.1,h.2.2.1.2,h.2.2.2.2.1.1,h.2.2.2.2.1.2⟩
theorem dRus:Dec 7 25 (fun l:List Ru=>[.ts 9 (l.map Ru.c)]) fun l=>l.length≤140737488355328∧ ∀ s∈l,s.ok:=dRu.slice (by kernel_rfl)
theorem ziI:prog.underlying 210=some (.array 2 3):=by kernel_rfl
theorem dPr:Dec 1 210 (fun c:Int×Int=>[i64 c.1,i64 c.2]) fun _=>True:=fun m x hx=>by
 unfold Shp at hx
 rw [ziI] at hx
 have hx: ∃ parts:List (List PV),parts.length=2∧x=parts.flatten∧ ∀ p∈parts,Shp prog m 3 p:=hx
 obtain ⟨ps,hl,rfl,hp⟩:=hx
 match ps,hl,hp with
 | [a,b],_,hp=>
  obtain ⟨u,_,h1⟩:=dI m a (hp a (by simp))
  obtain ⟨v,_,h2⟩:=dI m b (hp b (by simp))
  exact ⟨(u,v),trivial,h1.app (h2.app .nil)⟩
theorem dPrs:Dec 2 109 (fun l:List (Int×Int)=>[.ts 2 (l.map fun c=>[i64 c.1,i64 c.2])]) fun l=>l.length≤140737488355328∧ ∀ s∈l,True:=dPr.slice (by kernel_rfl)
theorem dLa:Dec 3 111 La.c La.ok:=(Dec.struct (ts:=[9,108,109,3]) (by kernel_rfl) (.cons (zm4 2) (.cons (dSs.up (by decide)) (.cons dPrs (.cons (zeQ 2) .nil))))).map (fun a=>⟨a.1,a.2.1,a.2.2.1,a.2.2.2.1⟩) (fun _=>rfl) fun _ h=>⟨h.1,h.2.1.1,h.2.1.2,h.2.2.1.1⟩
theorem dLas:Dec 4 22 (fun l:List La=>[.ts 4 (l.map La.c)]) fun l=>l.length≤140737488355328∧ ∀ s∈l,s.ok:=dLa.slice (by kernel_rfl)
theorem dFu:Dec 2 119 Fu.c Fu.ok:=(Dec.struct (ts:=[9,9,3,108,108,57,3]) (by kernel_rfl) (.cons (zm4 1) (.cons (zm4 1) (.cons (zeQ 1) (.cons dSs (.cons dSs (.cons dIs (.cons (zeQ 1) .nil)))))))).map
 (fun a=>⟨a.1,a.2.1,a.2.2.1,a.2.2.2.1,a.2.2.2.2.1,a.2.2.2.2.2.1,a.2.2.2.2.2.2.1⟩) (fun _=>rfl) fun _ h=>⟨h.1,h.2.1,h.2.2.2.1.1,h.2.2.2.1.2,h.2.2.2.2.1.1,h.2.2.2.2.1.2,h.2.2.2.2.2.1.1⟩
theorem dFus:Dec 3 23 (fun l:List Fu=>[.ts 7 (l.map Fu.c)]) fun l=>l.length≤140737488355328∧ ∀ s∈l,s.ok:=dFu.slice (by kernel_rfl)
theorem dPd:Dec 2 105 Pd.c Pd.ok:=(Dec.struct (ts:=[9,57,9,3,4,3,3]) (by kernel_rfl) (.cons (zm4 1) (.cons dIs (.cons (zm4 1) (.cons (zeQ 1) (.cons (dB.up (by decide)) (.cons (zeQ 1) (.cons (zeQ 1) .nil)))))))).map
 (fun a=>⟨a.1,a.2.1,a.2.2.1,a.2.2.2.1,a.2.2.2.2.1,a.2.2.2.2.2.1,a.2.2.2.2.2.2.1⟩) (fun _=>rfl) fun _ h=>⟨h.1,h.2.2.1,h.2.1.1⟩
theorem dPds:Dec 3 24 (fun l:List Pd=>[.ts 7 (l.map Pd.c)]) fun l=>l.length≤140737488355328∧ ∀ s∈l,s.ok:=dPd.slice (by kernel_rfl)
theorem dPg:Dec 8 27 Pg.c Pg.ok:=(Dec.struct (ts:=[22,23,24,25]) (by kernel_rfl) (.cons (dLas.up (by decide)) (.cons (dFus.up (by decide)) (.cons (dPds.up (by decide)) (.cons dRus .nil))))).map
 (fun a=>⟨a.1,a.2.1,a.2.2.1,a.2.2.2.1⟩) (fun _=>rfl) fun _ h=>⟨h.1.1,h.1.2,h.2.1.1,h.2.1.2,h.2.2.1.1,h.2.2.1.2,h.2.2.2.1.1,h.2.2.2.1.2⟩
end Go.AL
namespace Go.AL
open Go.Proofs Go.Proofs.Tryz
def Op1.raw (x:Op1):Prop:=x.args.length≤140737488355328∧ ∀ a∈x.args,a.ok
def iP (l:List Op1):Prop:=l.length≤140737488355328∧ ∀ x∈l,x.raw
structure Rp.raw (r:Rp):Prop where
 cl:r.cs.length≤140737488355328
 c: ∀ x∈r.cs,iP x.ops
 bl:r.bs.length≤140737488355328
 b: ∀ x∈r.bs,x.ok
theorem dFa:Dec 3 80 (fun f:Int×List Vl×Int=>[i64 f.1,pH f.2.1,i64 f.2.2]) fun f=>f.2.1.length≤140737488355328∧ ∀ a∈f.2.1,a.ok:=(Dec.struct (ts:=[3,73,3]) (by kernel_rfl) (.cons (zeQ 2) (.cons dVls (.cons (zeQ 2) .nil)))).map
 (fun a=>⟨a.1,a.2.1,a.2.2.1⟩) (fun _=>rfl) fun _ h=>h.2.1
theorem dOp:Dec 4 84 Op1.c Op1.raw:=(Dec.struct (ts:=[3,80,82]) (by kernel_rfl) (.cons (zeQ 3) (.cons dFa (.cons (dSp.up (by decide)) .nil)))).map
 (fun a=>⟨a.1,a.2.1.1,a.2.1.2.1,a.2.1.2.2,a.2.2.1⟩) (fun _=>rfl) fun _ h=>h.2.1
theorem zfP:Dec 5 32 (fun l:List Op1=>[lJ l]) iP:=dOp.slice (by kernel_rfl)
theorem dCo:Dec 6 60 Co.c fun c=>iP c.ops:=(Dec.struct (ts:=[32,3,3]) (by kernel_rfl) (.cons zfP (.cons (zeQ 5) (.cons (zeQ 5) .nil)))).map
 (fun a=>⟨a.1,a.2.1,a.2.2.1⟩) (fun _=>rfl) fun _ h=>h.1
theorem dCos:Dec 7 28 (fun l:List Co=>[.ts 3 (l.map Co.c)]) fun l=>l.length≤140737488355328∧ ∀ s∈l,iP s.ops:=dCo.slice (by kernel_rfl)
theorem dBr:Dec 1 40 Br.c Br.ok:=(Dec.struct (ts:=[9,3]) (by kernel_rfl) (.cons dS (.cons dI .nil))).map (fun a=>⟨a.1,a.2.1⟩) (fun _=>rfl) fun _ h=>h.1
theorem dBrs:Dec 2 29 (fun l:List Br=>[.ts 2 (l.map Br.c)]) fun l=>l.length≤140737488355328∧ ∀ s∈l,s.ok:=dBr.slice (by kernel_rfl)
theorem dRp:Dec 8 31 Rp.c Rp.raw:=(Dec.struct (ts:=[28,29]) (by kernel_rfl) (.cons dCos (.cons (dBrs.up (by decide)) .nil))).map
 (fun a=>⟨a.1,a.2.1⟩) (fun _=>rfl) fun _ h=>⟨h.1.1,h.1.2,h.2.1.1,h.2.1.2⟩
section
variable {H:Type} {enc:TypeId×Value→H} {w:World} {base:Nat} {spare:Nat→Bool} {held:Bool}
theorem Dec.arg {α:Type} {n b0:Nat} {t:TypeId} {c:α→List PV} {K:α→Prop} (D:Dec n t c K) {ts:List TypeId} (hs:zcS prog t=some ts) (hok:zg3 prog n t=true) {v:Value} {d:DataW H} {ps:List MemPlace}
  (hw:Light prog t d) (hv:Value.okWide prog w .any b0 t v) (h:DataW.Trod enc prog w base spare held t v d ps): ∃ a,K a∧VRel ⟨[],[],w,fun _=>False⟩ (.agg (c a)) v:=by
 unfold zcS at hs
 split at hs
 case h_2=>cases hs
 rename_i fs hu
 obtain ⟨vs,rfl,ht,hsh⟩:=zkF (X:=fun _=>False) (fun _ h=>h) hu hok hw hv h
 obtain ⟨a,hK,hle⟩:=D 0 _ (by rw [Nat.zero_add];exact hsh)
 exact ⟨a,hK,ht.agg hle.len.symm fun i p q hp hq=>hle.get i p q hp hq⟩
theorem Dec.arg1 {α:Type} {n:Nat} {t:TypeId} {c:α→PV} {K:α→Prop} (D:Dec n t (fun a=>[c a]) K) (hok:zg3 prog n t=true) {v:Value} {d:DataW H} {ps:List MemPlace} (hc:v.cells= #[v])
  (hw:Light prog t d) (h:DataW.Trod enc prog w base spare held t v d ps): ∃ a,K a∧VRel ⟨[],[],w,fun _=>False⟩ (c a) v:=by
 obtain ⟨fuel,hf⟩:=h
 have ht:=lN (X:=fun _=>False) (fun _ h=>h) fuel n t _ d ps hok hf
 have hsh:=cH fuel n t _ d ps hok hw hf
 obtain ⟨a,hK,hle⟩:=D 0 _ (by rw [Nat.zero_add];exact hsh)
 have hl:=hle.len
 refine ⟨a,hK,?_⟩
 have hcs:v.cells.toList=[v]:=by rw [hc]
 rw [hcs] at ht
 match hq:tP prog n t d,hl with
 | [p],_=>
  rw [hq] at ht hle
  exact hle.get 0 p (c a) rfl rfl _ _ (ht.rel 0 p v rfl rfl)
end
end Go.AL
