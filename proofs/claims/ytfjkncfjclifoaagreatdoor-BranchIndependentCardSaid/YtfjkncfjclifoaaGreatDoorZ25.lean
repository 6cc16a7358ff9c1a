/-
  The library's functions over slices, at the program's types: equal.
-/
import Derived.Test.YtfjkncfjclifoaaGreatDoorZ24
set_option linter.unusedSimpArgs false
set_option linter.unusedVariables false
set_option maxRecDepth 100000
set_option maxHeartbeats 4000000
namespace Go.AL
open Go.Proofs Go.Proofs.Tryz
structure Fu.ok (y:Fu):Prop where
 n:y.name.size≤140737488355328
 l:y.lat.size≤140737488355328
 fl:y.fr.length≤140737488355328
 f: ∀ s∈y.fr,s.size≤140737488355328
 tl:y.to.length≤140737488355328
 t: ∀ s∈y.to,s.size≤140737488355328
 tb:y.table.length≤140737488355328
def Fu.fm (f:Fu):Prop:=f.fr.length=f.to.length∧f.fr.length≤8
structure Pd.ok (p:Pd):Prop where
 n:p.name.size≤140737488355328
 l:p.lat.size≤140737488355328
 t:p.types.length≤140737488355328
def Pd.fm (p:Pd):Prop:=0≤p.key∧p.key≤p.types.length∧p.types.length≤4
theorem gN (l:List BA): ∀ x∈l, ∀ p∈([yQ x]:List PV),Tree p:=by simp
theorem ziN (l:List Int): ∀ x∈l, ∀ p∈([i64 x]:List PV),Tree p:=by simp
theorem ebT {f:FuncId} {args:List PV} (h:EB f args):EB f args fun b=>b=true→True:=h.mono (by rintro p ⟨b,rfl,_⟩;exact ⟨b,rfl,fun _=>trivial⟩)
theorem zjO (f:Fu) (hf:f.ok):EB 111 [.agg f.c] fun b=>b=true→f.fm:=by
 refine ECall.cut (R:=fun p _=> ∃ b:Bool,p=bo b∧(b=true→f.fm)) (pv func111 35 false (by kernel_rfl) rfl rfl ?_) (by rintro p h ⟨n,rfl,h⟩;exact ⟨n,rfl,h⟩)
 refine g2 ?_
 obtain ⟨name,lat,of',fr,to,table,at'⟩:=f
 obtain ⟨h1,h2,h3,h4,h5,h6,h7⟩:=hf
 dsimp only at h1 h2 h3 h4 h5 h6 h7
 have hfr:=zcD fr (fun _=>True) 8 153 [] h3 (fun x hx=>ebT (vG x (h4 x hx))) (gN fr)
 have hto:=zcD to (fun _=>True) 8 153 [] h5 (fun x hx=>ebT (vG x (h6 x hx))) (gN to)
 (repeat' (first|refine gz ?_|(refine gn ?_;intro zs zh;(try simp only [go_sem] at zh);subst zh;(first|refine gv ?_|((first|refine zC ((vG name h1).call zK (by simp) _) ?_|refine zC ((vG lat h2).call zK (by simp) _) ?_|refine zC (hfr.call zK (by simp [yO]) _) ?_|refine zC (hto.call zK (by simp [yO]) _) ?_);intro p2 h2 hr2;obtain ⟨hr2,rfl⟩:=hr2;first|obtain ⟨_,rfl,hr2⟩:=hr2|obtain ⟨_,rfl⟩:=hr2|subst hr2|skip)|(refine yS (fun he=> ?_) (fun he=> ?_)<;>(try simp only [decide_eq_true_eq,decide_eq_false_iff_not,Bool.not_eq_true',Bool.not_eq_false',Bool.not_eq_true,beq_iff_eq,beq_eq_false_iff_ne,bne_iff_ne,bne_eq_false_iff_eq] at he))))|((with_reducible refine tO rfl ?_);intro sr hsr;simp only [sK,List.getD_cons_succ,List.getD_cons_zero,Option.map_some,Option.getD_some,Bool.not_false,Bool.not_true] at hsr;subst hsr;(fail_if_success (with_reducible (first|refine tL ?_|refine tN ?_)));refine tK (fun he=> ?_) (fun he=> ?_)<;>(intro ts2 hts;simp only [List.getD_cons_succ,List.getD_cons_zero,Option.getD_some,List.set_cons_zero,List.set_cons_succ] at hts;subst hts;(try simp only [decide_eq_true_eq,decide_eq_false_iff_not,Bool.not_eq_true',Bool.not_eq_false',Bool.not_eq_true,beq_iff_eq,beq_eq_false_iff_ne,bne_iff_ne,bne_eq_false_iff_eq] at he)))|fail))
 all_goals try (exact ⟨false,rfl,by simp⟩)
 all_goals (refine ⟨_,rfl,fun hb=> ?_⟩;clear hfr hto;unfold Fu.fm;dsimp only at*;grind)
theorem zdT (n:Int):EB 157 [i64 n]:=by
 refine ECall.pure (pv func157 9 false (by kernel_rfl) rfl rfl ?_)
 refine g2 ?_
 (repeat' (first|refine gp ?_|refine gs (fun he=> ?_) (fun he=> ?_)|fail))
 all_goals (exact ⟨⟨⟨_,rfl,trivial⟩,.sc⟩,rfl⟩)
theorem zf5 (p:Pd) (hp:p.ok):EB 113 [.agg p.c] fun b=>b=true→p.fm:=by
 refine ECall.cut (R:=fun q _=> ∃ b:Bool,q=bo b∧(b=true→p.fm)) (pv func113 59 false (by kernel_rfl) rfl rfl ?_) (by rintro p h ⟨n,rfl,h⟩;exact ⟨n,rfl,h⟩)
 refine g2 ?_
 obtain ⟨name,types,lat,of',base,key,at'⟩:=p
 obtain ⟨h1,h2,h3⟩:=hp
 dsimp only at h1 h2 h3
 have hty:=zkK types (fun _=>True) 4 157 [] h3 (fun x hx=>ebT (zdT x)) (ziN types)
 (repeat' (first|refine gz ?_|(refine gn ?_;intro zs zh;(try simp only [go_sem] at zh);subst zh;(first|refine gv ?_|((first|refine zC ((vG name h1).call zK (by simp) _) ?_|refine zC ((vG lat h2).call zK (by simp) _) ?_|refine zC (hty.call zK (by simp [yO]) _) ?_);intro p2 h2 hr2;obtain ⟨hr2,rfl⟩:=hr2;first|obtain ⟨_,rfl,hr2⟩:=hr2|obtain ⟨_,rfl⟩:=hr2|subst hr2|skip)|(refine yS (fun he=> ?_) (fun he=> ?_)<;>(try simp only [decide_eq_true_eq,decide_eq_false_iff_not,Bool.not_eq_true',Bool.not_eq_false',Bool.not_eq_true,beq_iff_eq,beq_eq_false_iff_ne,bne_iff_ne,bne_eq_false_iff_eq] at he))))|((with_reducible refine tO rfl ?_);intro sr hsr;simp only [sK,List.getD_cons_succ,List.getD_cons_zero,Option.map_some,Option.getD_some,Bool.not_false,Bool.not_true] at hsr;subst hsr;(fail_if_success (with_reducible (first|refine tL ?_|refine tN ?_)));refine tK (fun he=> ?_) (fun he=> ?_)<;>(intro ts2 hts;simp only [List.getD_cons_succ,List.getD_cons_zero,Option.getD_some,List.set_cons_zero,List.set_cons_succ] at hts;subst hts;(try simp only [decide_eq_true_eq,decide_eq_false_iff_not,Bool.not_eq_true',Bool.not_eq_false',Bool.not_eq_true,beq_iff_eq,beq_eq_false_iff_ne,bne_iff_ne,bne_eq_false_iff_eq] at he)))|fail))
 all_goals try (exact ⟨false,rfl,by simp⟩)
 all_goals (refine ⟨_,rfl,fun hb=> ?_⟩;clear hty;unfold Pd.fm;dsimp only at*;grind)
structure Pg.ok (y:Pg):Prop where
 ll:y.lats.length≤140737488355328
 l: ∀ x∈y.lats,x.ok
 fl:y.funs.length≤140737488355328
 f: ∀ x∈y.funs,x.ok
 pl:y.preds.length≤140737488355328
 p: ∀ x∈y.preds,x.ok
 rl:y.rules.length≤140737488355328
 r: ∀ x∈y.rules,x.ok
structure Pg.fm (y:Pg):Prop where
 ll:y.lats.length≤4
 fl:y.funs.length≤8
 f: ∀ x∈y.funs,x.fm
 pl:y.preds.length≤24
 p: ∀ x∈y.preds,x.fm
 rl:y.rules.length≤40
 r: ∀ x∈y.rules,x.fm
theorem aQ (l:La):EB 108 [.agg l.c]:=by
 refine ECall.cut (R:=fun p _=> ∃ b:Bool,p=bo b) (pv func108 6 false (by kernel_rfl) rfl rfl ?_) (by rintro p h ⟨n,rfl⟩;exact ⟨n,rfl,trivial⟩)
 refine g2 ?_
 refine ge ?_
 exact ⟨_,rfl⟩
theorem zdU (p:Pg) (hp:p.ok):EB 84 [.agg p.c] fun b=>b=true→p.fm:=by
 refine ECall.cut (R:=fun q _=> ∃ b:Bool,q=bo b∧(b=true→p.fm)) (pv func84 23 false (by kernel_rfl) rfl rfl ?_) (by rintro p h ⟨n,rfl,h⟩;exact ⟨n,rfl,h⟩)
 refine g2 ?_
 obtain ⟨lats,funs,preds,rules⟩:=p
 obtain ⟨h1,h2,h3,h4,h5,h6,h7,h8⟩:=hp
 dsimp only at h1 h2 h3 h4 h5 h6 h7 h8
 have hla:=zmX lats (fun _=>True) 4 108 [] h1 (fun x hx=>ebT (aQ x)) (by simp [zJ])
 have hfu:=zmY funs Fu.fm 8 111 [] h3 (fun x hx=>zjO x (h4 x hx)) (by simp [zJ])
 have hpd:=zmV preds Pd.fm 24 113 [] h5 (fun x hx=>zf5 x (h6 x hx)) (by simp [zJ])
 have hru:=zmU rules Ru.fm 40 115 [] h7 (fun x hx=>zf4 x (h8 x hx)) (by simp [zJ])
 (repeat' (first|refine gz ?_|(refine gn ?_;intro zs zh;(try simp only [go_sem] at zh);subst zh;(first|refine gv ?_|((first|refine zC (hla.call zK (by simp [yO,zJ]) _) ?_|refine zC (hfu.call zK (by simp [yO,zJ]) _) ?_|refine zC (hpd.call zK (by simp [yO,zJ]) _) ?_|refine zC (hru.call zK (by simp [yO,zJ]) _) ?_);intro p2 h2 hr2;obtain ⟨hr2,rfl⟩:=hr2;first|obtain ⟨_,rfl,hr2⟩:=hr2|obtain ⟨_,rfl⟩:=hr2|subst hr2|skip)|(refine yS (fun he=> ?_) (fun he=> ?_)<;>(try simp only [decide_eq_true_eq,decide_eq_false_iff_not,Bool.not_eq_true',Bool.not_eq_false',Bool.not_eq_true,beq_iff_eq,beq_eq_false_iff_ne,bne_iff_ne,bne_eq_false_iff_eq] at he))))|((with_reducible refine tO rfl ?_);intro sr hsr;simp only [sK,List.getD_cons_succ,List.getD_cons_zero,Option.map_some,Option.getD_some,Bool.not_false,Bool.not_true] at hsr;subst hsr;(fail_if_success (with_reducible (first|refine tL ?_|refine tN ?_)));refine tK (fun he=> ?_) (fun he=> ?_)<;>(intro ts2 hts;simp only [List.getD_cons_succ,List.getD_cons_zero,Option.getD_some,List.set_cons_zero,List.set_cons_succ] at hts;subst hts;(try simp only [decide_eq_true_eq,decide_eq_false_iff_not,Bool.not_eq_true',Bool.not_eq_false',Bool.not_eq_true,beq_iff_eq,beq_eq_false_iff_ne,bne_iff_ne,bne_eq_false_iff_eq] at he)))|fail))
 all_goals try (exact ⟨false,rfl,by simp⟩)
 all_goals (refine ⟨_,rfl,fun hb=>⟨?_,?_,?_,?_,?_,?_,?_⟩⟩<;>clear hla hfu hpd hru<;>dsimp only at* <;>grind)
end Go.AL
namespace Go.AL
open Go.Proofs Go.Proofs.Tryz
def Op1.ok (x:Op1):Prop:=x.args.length≤1099511627776∧ ∀ a∈x.args,a.ok
def Co.ok (x:Co):Prop:=x.ops.length≤1099511627776∧ ∀ a∈x.ops,a.ok
def Br.ok (x:Br):Prop:=x.name.size≤140737488355328
structure Rp.ok (r:Rp):Prop where
 cl:r.cs.length≤1099511627776
 c: ∀ x∈r.cs,x.ok
 bl:r.bs.length≤1099511627776
 b: ∀ x∈r.bs,x.ok
theorem lR (q:Pd):EB 41 [.agg q.c] fun b=>b=(q.of' != -1):=by
 refine ECall.cut (R:=fun v _=> ∃ b:Bool,v=bo b∧b=(q.of' != -1)) (pv func41 6 false (by kernel_rfl) rfl rfl ?_) (by rintro p h ⟨b,rfl,h⟩;exact ⟨b,rfl,h⟩)
 refine g2 ?_
 refine ge ?_
 exact ⟨_,rfl,rfl⟩
theorem cS (s:BA) (hs:s.size≤140737488355328):EB 45 [yQ s]:=by
 refine ECall.cut (R:=fun v _=> ∃ b:Bool,v=bo b) (pv func45 8 false (by kernel_rfl) rfl rfl ?_) (by rintro p h ⟨b,rfl⟩;exact ⟨b,rfl,trivial⟩)
 refine g2 ?_
 refine ge ?_
 (refine g1 ?_;refine zC (((pV ⟨s,[⟨#[120]⟩],[],0⟩ ⟨hs,by simp,by intro t ht;simp at ht;subst ht;decide,by simp⟩).args (.cons (PLes.agg (.cons (PLe.refl _) (.cons (PLe.tc_ts 1 _) (.cons (PLe.nil_ts 2) (.cons (PLe.refl _) .nil))))) .nil)).call zK (by simp [zJ,oM,cJ]) _) ?_;intro p2 h2 hr2;refine g2 ?_)
 obtain ⟨⟨e,rfl, -⟩,rfl⟩:=hr2
 refine ge ?_
 exact ⟨_,rfl⟩
end Go.AL
namespace Go.AL
open Go.Proofs Go.Proofs.Tryz
structure Dt.sz (d:Dt):Prop where
 rl:d.rels.length≤1048576
 ll:d.lats.length≤1048576
 r: ∀ r∈d.rels,r.length≤4096∧ ∀ x∈r,x.lt
 l: ∀ r∈d.lats,r.length≤4096∧ ∀ x∈r,x.args.length≤1099511627776∧x.cs.length≤1099511627776
 s: ∀ r∈d.lats, ∀ x∈r, ∀ a∈x.args,a.s.size≤140737488355328
def nX (l:List Op1):Prop:=(l.length≤20∨60<l.length∧l.length≤100)∧ ∀ x∈l,x.args.length≤10
abbrev znO:Dt:=⟨[],[]⟩
structure OpsG (l:List Op1):Prop where
 s:l.length≤20∨60<l.length∧l.length≤100
 o: ∀ x∈l,x.ok
theorem OpsG.of {l:List Op1} (h:nX l) (k: ∀ x∈l, ∀ a∈x.args,a.ok):OpsG l:=⟨h.1,fun x hx=>⟨by have:=h.2 x hx;omega,k x hx⟩⟩
noncomputable def zk4 (p:Pg) (d:Dt) (ops:List Op1):Dt×Int:=
 open Classical in if h: ∃ r:Dt×Int,EPure prog G0 15 [.agg p.c,.agg d.c,lJ ops] (fun v=>v= .tup [.agg r.1.c,i64 r.2])∧(r.2=0→r.1.sz) then Classical.choose h else (znO,1)
def ApplyOk (p:Pg) (d:Dt) (ops:List Op1):Prop:=EPure prog G0 15 [.agg p.c,.agg d.c,lJ ops] (fun v=>v= .tup [.agg (zk4 p d ops).1.c,i64 (zk4 p d ops).2])∧((zk4 p d ops).2=0→(zk4 p d ops).1.sz)
theorem zmS {p:Pg} {d:Dt} {ops:List Op1} (h:EPure prog G0 15 [.agg p.c,.agg d.c,lJ ops] fun v=> ∃ (d':Dt) (e:Int),v= .tup [.agg d'.c,i64 e]∧(e=0→d'.sz)):ApplyOk p d ops:=by
 have h': ∃ r:Dt×Int,EPure prog G0 15 [.agg p.c,.agg d.c,lJ ops] (fun v=>v= .tup [.agg r.1.c,i64 r.2])∧(r.2=0→r.1.sz):=by
  obtain ⟨v,⟨d',e,rfl,he⟩,t,q⟩:=h
  exact ⟨(d',e),⟨_,rfl,t,q⟩,he⟩
 unfold ApplyOk zk4
 rw [dif_pos h']
 exact Classical.choose_spec h'
noncomputable def znY (f:FuncId) (args:List PV) (K:Bool→Prop):Bool:=
 open Classical in if h: ∃ b:Bool,EPure prog G0 f args (fun v=>v=bo b)∧K b then Classical.choose h else false
theorem za3 {f:FuncId} {args:List PV} {K:Bool→Prop} (h:EB f args K):EPure prog G0 f args (fun v=>v=bo (znY f args K))∧K (znY f args K):=by
 have h': ∃ b:Bool,EPure prog G0 f args (fun v=>v=bo b)∧K b:=by
  obtain ⟨v,⟨b,rfl,hb⟩,t,q⟩:=h
  exact ⟨b,⟨_,rfl,t,q⟩,hb⟩
 unfold znY
 rw [dif_pos h']
 exact Classical.choose_spec h'
end Go.AL
namespace Go.AL
open Go.Proofs Go.Proofs.Tryz
def rV {α:Type} (F:α→Bool):List α→Int
 | []=> -1
 |x::l=>if F x=true then 0 else if rV F l<0 then -1 else rV F l+1
theorem zbT {α:Type} (F:α→Bool): ∀ l:List α, -1≤rV F l∧rV F l<l.length
 | []=>by simp [rV]
 |x::l=>by
  have:=zbT F l
  simp only [rV,List.length_cons]
  split
  ·omega
  ·split<;>omega
theorem zhK {α:Type} {F:α→Bool}: ∀ {l:List α},(∀ (j:Nat) (h:j<l.length),F l[j]=false)→rV F l= -1
 | [],_=>rfl
 |x::l,k=>by
  have h0:=k 0 (by simp)
  have:=zhK (F:=F) (l:=l) fun j h=>k (j+1) (by simpa using h)
  simp only [List.getElem_cons_zero] at h0
  simp only [rV,h0,this];simp
theorem zbW {α:Type} {F:α→Bool}: ∀ {l:List α} {i:Nat} (hi:i<l.length),(∀ (j:Nat) (h:j<l.length),j<i→F l[j]=false)→F l[i]=true→rV F l=i
 | [],i,hi,_,_=>by simp at hi
 |x::l,0,_,_,h=>by simp only [List.getElem_cons_zero] at h;simp [rV,h]
 |x::l,i+1,hi,k,h=>by
  have h0:=k 0 (by simp) (by omega)
  have:=zbW (F:=F) (l:=l) (i:=i) (by simpa using hi) (fun j h hj=>k (j+1) (by simpa using h) (by omega)) h
  simp only [List.getElem_cons_zero] at h0
  simp only [rV,h0,this]
  rw [if_neg (by simp),if_neg (by omega)];omega
theorem zbV {α:Type} {F:α→Bool}: ∀ {l:List α},rV F l<0→ ∀ x∈l,F x=false
 | [],_,x,hx=>by simp at hx
 | y::l,h,x,hx=>by
  simp only [rV] at h
  split at h
  ·omega
  ·rename_i hy
   split at h
   ·rename_i hl
    rcases List.mem_cons.1 hx with rfl|hx
    ·simpa using hy
    ·exact zbV hl x hx
   ·omega
theorem eQ {α:Type} {F:α→Bool}: ∀ {l:List α} {i:Nat},rV F l=i→ ∃ h:i<l.length,F l[i]=true
 | [],i,h=>by simp [rV] at h
 | y::l,i,h=>by
  simp only [rV] at h
  split at h
  ·rename_i hy
   have:i=0:=by omega
   subst this
   exact ⟨by simp,by simpa using hy⟩
  ·split at h
   ·omega
   ·obtain ⟨i,rfl⟩: ∃ j,i=j+1:=⟨i-1,by omega⟩
    obtain ⟨hi,hF⟩:=eQ (F:=F) (l:=l) (i:=i) (by omega)
    exact ⟨by simpa using hi,by simpa using hF⟩
theorem zbX {α:Type} {F:α→Bool} (m:List α): ∀ {l:List α},0≤rV F l→rV F (l++m)=rV F l
 | [],h=>by simp [rV] at h
 | x::l,h=>by
  simp only [rV,List.cons_append] at h ⊢
  split
  ·rfl
  ·rename_i hx
   rw [if_neg hx] at h
   split at h
   ·omega
   ·rename_i hl
    rw [zbX m (by omega)]
theorem zbU {α:Type} {F:α→Bool} (x:α) (hx:F x=true): ∀ {l:List α},rV F l<0→rV F (l++[x])=l.length
 | [],_=>by simp [rV,hx]
 |y::l,h=>by
  have hy: ¬F y=true:=by have:=zbV h y (List.mem_cons_self ..);simp [this]
  simp only [rV,if_neg hy] at h
  simp only [rV,List.cons_append,if_neg hy,List.length_cons]
  have:rV F l<0:=by split at h<;>omega
  rw [zbU x hx this]
  rw [if_neg (by omega)];omega
theorem zjH (l:List Br) (F:Br→Bool) (g:FuncId) (cap:List PV) (h0:Heap) (hl:l.length≤140737488355328) (hF: ∀ x∈l, ∀ J,ECall prog G0 g ((.agg x.c)::cap) (h0++J) fun p h'=> ∃ (J':Heap),p=bo (F x)∧h'=h0++J') (J:Heap):
  ECall prog G0 50 [.ts 2 (l.map Br.c),.fn (.func g) [] cap] (h0++J) fun p h'=> ∃ (J':Heap),p=i64 (rV F l)∧h'=h0++J':=by
 refine pv func50 19 false (by kernel_rfl) rfl rfl ?_
 refine g2 ?_
 refine ge ?_
 refine zO l.length (K4 (.d:: .d:: .k:: .k:: .v::D9 (.d::[]))) (own:=false) (fun i (_:Heap)=>[i64 i]) (fun J=>h0++J) (fun i _=> ∀ (j:Nat) (h:j<l.length),j<i→F l[j]=false) J rfl rfl (fun j _ hj=>absurd hj (Nat.not_lt_zero _)) hl ?_ ?_
 ·rintro J hI
  refine gm ?_
  refine gf @zM ?_
  exact ⟨_,by rw [zhK fun j h=>hI j h h],rfl⟩
 ·rintro i J hi hw hI
  refine gm ?_
  have hx:=zG (f:=Br.c) [] hi
  refine gf (a4 @hi @hx @zB @hw) ?_
  (refine g1f @hx ?_;refine zC (hF _ (List.getElem_mem hi) J) ?_;intro p2 h2 hr2;refine g2 ?_)
  obtain ⟨J',rfl,rfl⟩:=hr2
  cases hb:F l[i]
  ·refine gf @hw ?_
   refine ⟨J',fun j h hj=> ?_,rfl,rfl,rfl⟩
   rcases Nat.lt_or_ge j i with hji|hji
   ·exact hI j h hji
   ·have:j=i:=by omega
    subst this;exact hb
  ·refine ge ?_
   exact ⟨_,by rw [zbW hi hI hb],rfl⟩
abbrev kN (name:BA) (b:Br):Bool:=decide (b.name=name)
theorem zdX (b0:Blk) (x:Br) (name:BA) (J:Heap):ECall prog G0 51 [.agg x.c,.ptr 1 0] ([b0,.var 9 [yQ name]]++J) fun p h'=> ∃ (J':Heap),p=bo (kN name x)∧h'=[b0,.var 9 [yQ name]]++J':=by
 refine pv func51 8 false (by kernel_rfl) rfl rfl ?_
 refine g2 ?_
 refine gf (a2 @zA @zD) ?_
 exact ⟨_,rfl,rfl⟩
theorem mR (r:Rp) (hr:r.bs.length≤140737488355328) (name:BA):EPure prog G0 30 [.agg r.c,yQ name] fun p=>p=i64 (rV (kN name) r.bs):=by
 refine ECall.cut (R:=fun v _=>v=i64 (rV (kN name) r.bs)) (pv func30 9 false (by kernel_rfl) rfl rfl ?_) (by rintro p h rfl;rfl)
 refine g2 ?_
 refine ge ?_
 (refine g1 ?_;refine zC (zjH r.bs (kN name) 51 [.ptr 1 0] [.var 31 r.c,.var 9 [yQ name]] hr (fun x _ J=>zdX _ x name J) []) ?_;intro p2 h2 hr2;refine g2 ?_)
 obtain ⟨J',rfl,rfl⟩:=hr2
 refine ge ?_
 rfl
end Go.AL
namespace Go.AL
open Go.Proofs Go.Proofs.Tryz
@[go_sem] def UForkf20.pl:Nat→DPlan
 |9=>⟨[yA,yB,yA,yA,yA,yA,yA,yB,yA,yA,yA,yB,yA,yA,yC,yA,yC],wR,0⟩
 |_=>⟨[],[],0⟩
theorem zlG {n:Nat} {h:Heap} (f:Nat) (cs:List PV):fz n h (f+1) (.tup cs)= .tup (cs.map (fz n h f)):=by simp only [fz]
theorem fzA {n:Nat} {h:Heap} (f:Nat) (cs:List PV):fz n h (f+1) (.agg cs)= .agg (cs.map (fz n h f)):=by simp only [fz]
theorem ziD {n:Nat} {h:Heap} (f:Nat) (v:Value):fz n h (f+1) (.sc v)= .sc v:=by simp only [fz]
theorem fzN {n:Nat} {h:Heap} (f:Nat):fz n h (f+1) .nil= .nil:=by simp only [fz]
theorem zhB (f:Nat) (l:List Br):zU (f+2) (.ts 2 (l.map Br.c))=true:=by simp [zU,List.all_map]
theorem eJ (f:Nat) (l:List Vl):zU (f+2) (pH l)=true:=by simp [zU,List.all_map]
theorem zhA (f:Nat) (l:List Op1):zU (f+4) (lJ l)=true:=by
 simp only [zU,List.all_map,List.all_eq_true,Function.comp_apply]
 intro x _ p hp
 simp only [Op1.c,List.mem_cons,List.not_mem_nil,or_false] at hp
 rcases hp with rfl|rfl|rfl|rfl|rfl|rfl<;>first|exact eJ (f+1) x.args|rfl
theorem zaM (f:Nat) (l:List Co):zU (f+6) (.ts 3 (l.map Co.c))=true:=by
 simp only [zU,List.all_map,List.all_eq_true,Function.comp_apply]
 intro x _ p hp
 simp only [Co.c,List.mem_cons,List.not_mem_nil,or_false] at hp
 rcases hp with rfl|rfl|rfl<;>first|exact zhA (f+1) x.ops|rfl
theorem zk7 (f:Nat) (x:Rp):zU (f+7) (.agg x.c)=true:=by
 have h1:=zaM f x.cs
 have h2:=zhB (f+4) x.bs
 simp only [zU,Rp.c,List.all_cons,List.all_nil,Bool.and_true]
 simp only [zU] at h1 h2
 simp only [h1,h2,Bool.and_true]
theorem fz_rp {h:Heap} {e:Int} {q:Nat} (x:Rp):fz 0 h 40 (.tup [.agg [.ts 3 (x.cs.map Co.c),.vec q 2 (x.bs.map Br.c)],i64 e])= .tup [.agg x.c,i64 e]:=by
 have h1:=vE 0 h 38 _ (zaM 32 x.cs)
 have h2:fz 0 h 38 (.vec q 2 (x.bs.map Br.c))= .ts 2 (x.bs.map Br.c):=by rw [pD (f:=37)];exact vE 0 h 38 _ (zhB 36 x.bs)
 rw [zlG 39,List.map_cons,List.map_cons,List.map_nil,fzA 38,List.map_cons,List.map_cons,List.map_nil,h1,h2,ziD 38]
theorem zhM {h:Heap} {e:Int}:fz 0 h 40 (.tup [.agg [.nil,.nil],i64 e])= .tup [.agg [.nil,.nil],i64 e]:=by
 rw [zlG 39,List.map_cons,List.map_cons,List.map_nil,fzA 38,List.map_cons,List.map_cons,List.map_nil,fzN 37,ziD 38]
theorem zbJ:PLe (.agg [.nil,.nil]) (.agg (Rp.mk [] []).c):=PLes.agg (.cons (PLe.nil_ts 3) (.cons (PLe.nil_ts 2) .nil))
def ForkK (r:Rp) (fr name:BA) (x:Rp):Prop:= ∃ (i:Nat) (h:i<r.bs.length),rV (kN fr) r.bs=i∧rV (kN name) r.bs<0∧r.bs.length<12∧x=⟨r.cs,r.bs++[⟨name,r.bs[i].last⟩]⟩
end Go.AL
namespace Go.AL
open Go.Proofs Go.Proofs.Tryz
abbrev dts (l:List Dt):PV:= .ts 2 (l.map Dt.c)
def zm3 (p:Pg):Dt:=⟨List.replicate p.preds.length [],List.replicate p.preds.length []⟩
def zcI (p:Pg) (l:List Dt) (c:Int):Dt:=if 0≤c then l.getD c.toNat (zm3 p) else zm3 p
noncomputable def zg2 (p:Pg) (o:Option (List Dt)) (c:Co):Option (List Dt):=o.bind fun out=>
 if c.parent< -1∨c.merged< -1∨(out.length:Int)≤c.parent∨(out.length:Int)≤c.merged then none
 else if (zk4 p (zcI p out c.parent) c.ops).2=0 then some (out++[(zk4 p (zcI p out c.parent) c.ops).1]) else none
noncomputable def eF (p:Pg) (cs:List Co):Option (List Dt):=cs.foldl (zg2 p) (some [])
theorem ziY (p:Pg) (cs:List Co) (c:Co):eF p (cs++[c])=zg2 p (eF p cs) c:=by simp [eF,List.foldl_append]
theorem mM (p:Pg): ∀ cs:List Co,cs.foldl (zg2 p) none=none
 | []=>rfl
 |c::cs=>by rw [List.foldl_cons];exact mM p cs
theorem zfC {p:Pg} {cs:List Co} {i:Nat} (h:eF p (cs.take i)=none):eF p cs=none:=by
 have e:eF p cs=(cs.drop i).foldl (zg2 p) (eF p (cs.take i)):=by
  unfold eF;rw [←List.foldl_append,List.take_append_drop]
 rw [e,h,mM]
theorem zfD {p:Pg} {cs:List Co} {i:Nat} (hi:i<cs.length):eF p (cs.take (i+1))=zg2 p (eF p (cs.take i)) cs[i]:=by
 rw [List.take_succ_eq_append_getElem hi,ziY]
theorem zfB {p:Pg} {m l:List Dt} {c:Co} (h:zg2 p (some m) c=some l):l.length=m.length+1:=by
 simp only [zg2,Option.bind_some] at h
 split at h
 ·cases h
 ·split at h
  ·cases h;simp
  ·cases h
theorem zbC {p:Pg}: ∀ (cs:List Co) {m l:List Dt},cs.foldl (zg2 p) (some m)=some l→l.length=m.length+cs.length
 | [],m,l,h=>by cases h;rfl
 | c::cs,m,l,h=>by
  rw [List.foldl_cons] at h
  cases hs:zg2 p (some m) c with
  |none=>rw [hs,mM] at h;cases h
  |some m'=>
   rw [hs] at h
   have:=zbC cs h
   have:=zfB hs
   simp only [List.length_cons];omega
theorem zbB {p:Pg} {cs:List Co} {l:List Dt} (h:eF p cs=some l):l.length=cs.length:=by
 have:=zbC cs h
 simpa using this
end Go.AL
namespace Go.AL
open Go.Proofs Go.Proofs.Tryz
abbrev Cm:=Int×Int
def bS (c:Cm):List PV:=[.un,i64 c.1,i64 c.2]
def dP (cs:List Cm):Nat→Int→Nat→List Bool→List Bool
 |0,_,_,out=>out
 | k+1,n,lim,out=>if n<0∨lim≤n∨out.getD n.toNat false=true then out else
   dP cs k (cs.getD n.toNat (0,0)).1 n.toNat (dP cs k (cs.getD n.toNat (0,0)).2 n.toNat (out.set n.toNat true))
theorem eO (cs:List Cm): ∀ (k:Nat) (n:Int) (lim:Nat) (out:List Bool),(dP cs k n lim out).length=out.length:=by
 intro k
 induction k with
 |zero=>intro n lim out;rfl
 |succ k ih=>
  intro n lim out
  simp only [dP]
  split
  ·rfl
  ·rw [ih,ih,List.length_set]
def znP (cs:List Cm) (out:List Bool):Heap:=[.var 31 [.ts 3 (cs.map bS),.un],.var 4 (out.map bo),.var 65 [.ms 1 0 1 cs.length],.var 159 [.fn (.func 77) [] [.ptr 2 0,.ptr 3 0,.ptr 0 0]]]
theorem zjB (cs:List Cm) (hcs:cs.length≤maxLen): ∀ (k:Nat) (n:Int) (lim:Nat) (out:List Bool),lim≤k→lim≤cs.length→out.length=cs.length→
  ACall prog G0 77 [i64 n,i64 lim,.ptr 2 0,.ptr 3 0,.ptr 0 0] (znP cs out) fun p h'=>p= .tup []∧h'=znP cs (dP cs k n lim out):=by
 intro k
 induction k with
 | zero=>
  intro n lim out hk _ _
  have:lim=0:=by omega
  subst this
  refine mY (own:=false) func77 rfl (by kernel_rfl) (show _=(i64 n::i64 (0:Nat):: .ptr 2 0:: .ptr 3 0:: .ptr 0 0:: .ud:: .ud:: .ud:: .ud:: .ud:: .ud:: .ud:: .ud:: .ud:: .ud:: .ud:: .ud:: .ud:: .ud:: .ud:: .ud:: .ud:: .ud:: .ud:: .ud:: .ud:: .ud:: .ud:: .ud:: .ud:: .ud:: .ud:: .ud:: .ud:: .ud:: .ud:: .ud:: .ud:: .ud:: .ud:: .ud::[]) from rfl) ?_
  by_cases h0:n<0
  ·(repeat (first|refine gz ?_|(refine gn ?_;intro zs zh;(try simp only [go_sem,h0] at zh);subst zh;refine gw ?_)))
   exact ⟨rfl,rfl⟩
  ·have h1:(0:Int)≤n:=by omega
   (repeat (first|refine gz ?_|(refine gn ?_;intro zs zh;(try simp only [go_sem,h0,h1,Int.natCast_zero,Int.cast_ofNat_Int] at zh);subst zh;refine gw ?_)))
   exact ⟨rfl,rfl⟩
 | succ k ih=>
  intro n lim out hk hl ho
  refine mY (own:=false) func77 rfl (by kernel_rfl) (show _=(i64 n::i64 lim:: .ptr 2 0:: .ptr 3 0:: .ptr 0 0:: .ud:: .ud:: .ud:: .ud:: .ud:: .ud:: .ud:: .ud:: .ud:: .ud:: .ud:: .ud:: .ud:: .ud:: .ud:: .ud:: .ud:: .ud:: .ud:: .ud:: .ud:: .ud:: .ud:: .ud:: .ud:: .ud:: .ud:: .ud:: .ud:: .ud:: .ud:: .ud:: .ud:: .ud:: .ud:: .ud::[]) from rfl) ?_
  by_cases h0:n<0
  ·have:dP cs (k+1) n lim out=out:=by simp [dP,h0]
   (repeat (first|refine gz ?_|(refine gn ?_;intro zs zh;(try simp only [go_sem,h0] at zh);subst zh;refine gw ?_)))
   exact ⟨rfl,by rw [this]⟩
  ·obtain ⟨m,rfl⟩:=Int.eq_ofNat_of_zero_le (show 0≤n by omega)
   by_cases h1:lim≤m
   ·have:dP cs (k+1) m lim out=out:=by simp [dP,h1]
    (repeat (first|refine gz ?_|(refine gn ?_;intro zs zh;(try simp only [go_sem,h0,h1] at zh);subst zh;refine gw ?_)))
    exact ⟨rfl,by rw [this]⟩
   ·have hm:m<cs.length:=by omega
    have hmo:m<out.length:=by omega
    have hd:=fD (f:=bo) .un hmo
    have hge:(0:Int)≤m:=by omega
    cases hb:out[m] with
    |true=>
     have:dP cs (k+1) m lim out=out:=by simp [dP,hmo,hb]
     (repeat (first|refine gz ?_|(refine gn ?_;intro zs zh;(try simp only [go_sem,znP,h0,h1,hm,hmo,hd,hge,hb] at zh);subst zh;refine gw ?_)))
     exact ⟨rfl,by rw [this];rfl⟩
    | false=>
     have hx:=zG (f:=bS) [] hm
     have hs:=wY bo out m true hmo
     have hm1:m+1≤out.length:=hmo
     have hge2: ¬cs.length≤m:=by omega
     obtain ⟨c,hc⟩: ∃ c,c=cs[m]:=⟨_,rfl⟩
     have hgd:cs.getD m (0,0)=c:=by rw [hc,List.getD_eq_getElem?_getD,List.getElem?_eq_getElem hm];rfl
     have hx:(List.map bS cs).getD m []=[.un,i64 c.1,i64 c.2]:=by rw [zG [] hm,hc];rfl
     have hmk:dP cs (k+1) m lim out=dP cs k c.1 m (dP cs k c.2 m (out.set m true)):=by
      simp only [dP,Int.toNat_natCast,hgd]
      rw [if_neg]
      rintro (h|h|h)
      ·exact h0 h
      ·omega
      ·rw [List.getD_eq_getElem?_getD,List.getElem?_eq_getElem hmo] at h
       simp [hb] at h
     have i1:=ih c.2 m (out.set m true) (by omega) (by omega) (by simpa using ho)
     have i2:=ih c.1 m (dP cs k c.2 m (out.set m true)) (by omega) (by omega) (by rw [eO];simpa using ho)
     (repeat (first|refine gz ?_|(refine gn ?_;intro zs zh;(try simp only [go_sem,znP,h0,h1,hm,hmo,hd,hge,hb,hs,hm1] at zh);subst zh;refine gw ?_)))
     refine oJ (own:=false) wN zK ⟨[⟨1,0,[]⟩,⟨0,0,[]⟩,⟨1,0,[]⟩,⟨0,0,[]⟩,⟨0,0,[]⟩,⟨0,0,[]⟩,⟨1,0,[]⟩,⟨0,0,[]⟩,⟨4,0,[]⟩],[0,1,2,3,4,5,6,7,8],0⟩ (by kernel_rfl) ?_
     simp only [go_sem]
     (repeat (first|refine gz ?_|(refine gn ?_;intro zs zh;(try simp only [go_sem,znP,hx,hm,hge] at zh);subst zh;refine gw ?_)))
     (refine zF rfl rfl rfl ?_;intro sr hsr;simp only [go_sem] at hsr;subst hsr;refine tY (by decide) (by decide) (i1) ?_;intro ts2 hts;simp only [go_sem] at hts;subst hts)
     (repeat (first|refine gz ?_|(refine gn ?_;intro zs zh;(try simp only [go_sem] at zh);subst zh;refine gw ?_)))
     refine oJ (own:=false) wN zK ⟨[⟨1,0,[]⟩,⟨0,0,[]⟩,⟨1,0,[]⟩,⟨0,0,[]⟩,⟨0,0,[]⟩,⟨0,0,[]⟩,⟨1,0,[]⟩,⟨0,0,[]⟩,⟨4,0,[]⟩],[0,1,2,3,4,5,6,7,8],0⟩ (by kernel_rfl) ?_
     simp only [go_sem,znP]
     (repeat (first|refine gz ?_|(refine gn ?_;intro zs zh;(try simp only [go_sem,znP,hx,hm,hge] at zh);subst zh;refine gw ?_)))
     (refine zF rfl rfl rfl ?_;intro sr hsr;simp only [go_sem] at hsr;subst hsr;refine tY (by decide) (by decide) (i2) ?_;intro ts2 hts;simp only [go_sem] at hts;subst hts)
     (repeat (first|refine gz ?_|(refine gn ?_;intro zs zh;(try simp only [go_sem] at zh);subst zh;refine gw ?_)))
     exact ⟨rfl,by rw [hmk];rfl⟩
end Go.AL
namespace Go.AL
open Go.Proofs Go.Proofs.Tryz
def rB (cs:List Cm) (c:Int):List Bool:=dP cs cs.length c cs.length (List.replicate cs.length false)
theorem iM (cs:List Cm) (c:Int):(rB cs c).length=cs.length:=by unfold rB;rw [eO,List.length_replicate]
theorem iD (n:Nat) (p:PV):(List.replicate n [p]).flatten=List.replicate n p:=by
 induction n with
 |zero=>rfl
 |succ n ih=>simp [List.replicate_succ,ih]
theorem zf3 (h:Heap) (f:Nat) (l:List Bool):(l.map bo).map (fz 0 h (f+1))=l.map bo:=by
 rw [List.map_map];apply List.map_congr_left;intro b _;rfl
abbrev zaF (cs:List Cm):PV:= .agg [.ts 3 (cs.map bS),.un]
theorem mH (cs:List Cm) (c:Int) (hcs:cs.length≤140737488355328):Pure prog G0 46 [zaF cs,i64 c] (.ts 1 ((rB cs c).map fun b=>[bo b])):=by
 refine ACall.cut 0 40 (Nat.zero_le _) ?_
 refine mY (own:=false) func46 rfl (by kernel_rfl) (show _=[zaF cs,i64 c,.ud,.ud,.ud,.ud,.ud,.ud,.ud,.ud,.ud,.ud,.ud,.ud,.ud,.ud,.ud,.ud,.ud] from rfl) ?_
 have hn:(0:Int)≤cs.length:=by omega
 have hn2:(cs.length:Int)≤140737488355328:=by omega
 have hrf:=iD cs.length (bo false)
 (repeat (first|refine gz ?_|(refine gn ?_;intro zs zh;(try simp only [go_sem,hn,hn2,hrf,Int.mul_one] at zh);subst zh;refine gw ?_)))
 have hm:=zjB cs (by unfold maxLen;omega) cs.length c cs.length (List.replicate cs.length false) (Nat.le_refl _) (Nat.le_refl _) (List.length_replicate ..)
 have e1:(List.replicate cs.length false).map bo=List.replicate cs.length (bo false):=by simp
 unfold znP at hm
 rw [e1] at hm
 (refine ns ?_;intro sr hsr;simp only [go_sem] at hsr;subst hsr;refine zkI (hm) ?_;rintro _ _ ⟨rfl,rfl⟩ ts2 hts;simp only [go_sem] at hts;subst hts)
 (repeat (first|refine gz ?_|(refine gn ?_;intro zs zh;(try simp only [go_sem] at zh);subst zh;refine gw ?_)))
 refine ⟨?_,rfl⟩
 have e2:=lG ((rB cs c).map bo)
 rw [List.length_map,iM] at e2
 show PV.ts 1 (wA (((rB cs c).map bo).map (fz 0 _ 39)) 0 1 cs.length)=_
 rw [zf3,e2,List.map_map]
 rfl
end Go.AL
namespace Go.AL
open Go.Proofs Go.Proofs.Tryz
@[go_sem] def UBra2f19.pl:Nat→DPlan
 |1=>⟨[yA,⟨1,0,[0,1]⟩,yA,vC,yA,⟨1,0,[0,1]⟩,yA,⟨2,1,[]⟩,yA,yC],[0,1,2,4,5,6,3,7,8,9],2⟩
 |_=>⟨[],[],0⟩
theorem fzM {h:Heap} (f r off k len:Nat) {t:TypeId} {cs:List PV} (e:h[r]? =some (.var t cs)):fz 0 h (f+1) (.ms r off k len)= .ts k (wA (cs.map (fz 0 h f)) off k len):=by
 simp only [fz,Nat.not_lt_zero,if_false,e]
theorem zhN {h:Heap} {r n f:Nat} {t:TypeId} (e:h[r]? =some (.var t (List.replicate n .nil))):fz 0 h (f+2) (.ms r 0 1 n)= .ts 1 (List.replicate n [.nil]):=by
 rw [fzM (f+1) r 0 1 n e,List.map_replicate,fzN f]
 have:=lG (List.replicate n PV.nil)
 rw [List.length_replicate,List.map_replicate] at this
 rw [this]
theorem zbK {α:Type} {n k:Nat}:PLe (.ts 1 (List.replicate n [.nil])) (.ts 1 ((List.replicate n ([]:List α)).map fun _=>[.ts k []])):=by
 have:=PLes.ts_map (k:=1) (l:=List.replicate n ([]:List α)) (f:=fun _=>[PV.nil]) (g:=fun _=>[.ts k []]) fun _ _=> .cons (PLe.nil_ts k) .nil
 rwa [List.map_replicate] at this
theorem zbH {α:Type} {n:Nat} {f:List α→List PV} {c:List PV} (h:f []=c):(List.replicate n ([]:List α)).map f=(List.replicate n ([]:List α)).map fun _=>c:=by
 rw [List.map_replicate,List.map_replicate,h]
theorem eH (f:Nat) (d:Dt):zU (f+6) (.agg d.c)=true:=by
 have h1: ∀ r:List Rw,zU (f+4) (uN r)=true:=rE f
 have h2: ∀ r:List LRw,zU (f+4) (vD r)=true:=fun r=>by
  simp only [zU,List.all_map,List.all_eq_true,Function.comp_apply]
  intro x _ p hp
  simp only [LRw.c,List.mem_cons,List.not_mem_nil,or_false] at hp
  rcases hp with rfl|rfl
  ·exact eJ (f+1) x.args
  ·simp [zU,List.all_map]
 simp only [zU,Dt.c,List.all_cons,List.all_nil,Bool.and_true,List.all_map]
 simp only [zU] at h1 h2
 simp [h1,h2,Function.comp_def]
open UBra2f19 in
theorem fM (p:Pg) (hp:p.preds.length≤1048576):EPure prog G0 19 [.agg p.c] fun v=>v= .agg (zm3 p).c:=by
 refine ECall.cutW (R:=fun v h=> ∃ q1 q2,v= .agg [.ms q1 0 1 p.preds.length,.ms q2 0 1 p.preds.length]∧h[q1]? =some (.var 70 (List.replicate p.preds.length .nil))∧h[q2]? =some (.var 96 (List.replicate p.preds.length .nil))) (pv func19 12 false (by kernel_rfl) rfl rfl ?_) ?_
 refine g2 ?_
 ·refine ge ?_
  exact ⟨2,3,rfl,by rw [iD];rfl,by rw [iD];rfl⟩
 ·rintro v h ⟨q1,q2,rfl,h1,h2⟩
  have e:(zm3 p).c=[.ts 1 ((List.replicate p.preds.length ([]:List Rw)).map fun _=>[.ts 2 []]),.ts 1 ((List.replicate p.preds.length ([]:List LRw)).map fun _=>[.ts 2 []])]:=by
   unfold zm3 Dt.c
   rw [zbH (f:=fun r=>[uN r]) rfl,zbH (f:=fun r=>[vD r]) rfl];rfl
  refine ⟨_,?_,rfl,yP 40 _ (eH 34 _)⟩
  rw [fzA 39,List.map_cons,List.map_cons,List.map_nil,zhN (f:=37) h1,zhN (f:=37) h2,e]
  exact PLes.agg (.cons zbK (.cons zbK .nil))
theorem znT (p:Pg) (hp:p.preds.length≤1048576) (l:List Dt) (c:Int) (hc:c<l.length):EPure prog G0 31 [.agg p.c,dts l,i64 c] fun v=>v= .agg (zcI p l c).c:=by
 refine ECall.cutW (R:=fun v h=>v= .agg (zcI p l c).c) (pv func31 15 false (by kernel_rfl) rfl rfl ?_) ?_
 refine g2 ?_
 ·by_cases h:0≤c
  ·have e0:decide (c<0)=false:=by simp;omega
   obtain ⟨i,rfl⟩:=Int.eq_ofNat_of_zero_le h
   have hi:i<l.length:=by omega
   have hx:=zG (f:=Dt.c) [] hi
   refine gf (a4 @e0 @hi @hx @zB) ?_
   unfold zcI
   rw [if_pos h,Int.toNat_natCast,List.getD_eq_getElem?_getD,List.getElem?_eq_getElem hi];rfl
  ·have e0:decide (c<0)=true:=by simp;omega
   refine gf @e0 ?_
   (refine g1f @e0 ?_;refine zC ((fM p hp).call zK (by simp [zJ]) _) ?_;intro p2 h2 hr2;refine g2 ?_)
   obtain ⟨rfl,rfl⟩:=hr2
   refine ge ?_
   unfold zcI
   rw [if_neg h]
 ·rintro v h rfl
  exact ⟨_,by rw [vE 0 h 40 _ (eH 34 _)];exact PLe.refl _,rfl,yP 40 _ (eH 34 _)⟩
end Go.AL
namespace Go.AL
open Go.Proofs Go.Proofs.Tryz
@[go_sem] def UEqf59.pl:Nat→DPlan
 |6=>⟨[yA,yA,yA,yB,yA,yA,yA,yB,yA],uW,0⟩
 |_=>⟨[],[],0⟩
@[go_sem] def UEqf73.pl:Nat→DPlan
 |6=>⟨[yA,yA,yA,yB,yA,yA,yA,yB,yA],uW,0⟩
 |_=>⟨[],[],0⟩
@[go_sem] def UEqf95.pl:Nat→DPlan
 |6=>⟨[yA,yA,yA,yB,yA,yA,yA,yB,yA],uW,0⟩
 |_=>⟨[],[],0⟩
theorem qK {α:Type} (X l:List α) (b:α):(X++l).set X.length b=X++l.set 0 b:=by rw [List.set_append_right _ _ (Nat.le_refl _)];simp
theorem rN {α:Type} (X l:List α) (k:Nat) (b:α):(X++l).set (X.length+k) b=X++l.set k b:=by rw [List.set_append_right _ _ (by omega)];simp
theorem rU {α:Type} (X l:List α):(X++l)[X.length]? =l[0]? :=by rw [List.getElem?_append_right (Nat.le_refl _)];simp
theorem sB {α:Type} (X l:List α) (k:Nat):(X++l)[X.length+k]? =l[k]? :=by rw [List.getElem?_append_right (by omega)];simp
theorem eqCe (a b c d e f:Int):sE (α:=Prop) prog 138 (.agg [i64 a,i64 b,i64 e]) (.agg [i64 c,i64 d,i64 f])=some (a==c&&(b==d&&(e==f&&true)),True):=by
 kernel_rfl
open UEqf59 in
theorem zmH (a b:List Int) (ha:a.length≤140737488355328):EB 59 [vF a,vF b] fun r=>r=true→a.length=b.length:=by
 refine ECall.pure (pv func59 26 false (by kernel_rfl) rfl rfl ?_)
 refine g2 ?_
 by_cases hl:a.length=b.length
 ·have hne:((a.length:Int)!=(b.length:Int))=false:=by simp [hl]
  refine gf @hne ?_
  refine zO a.length (K4 (.d:: .d::K4 (.k:: .k:: .k:: .v::D9 (.d:: .d:: .d::[])))) (own:=false) (fun i (_:Unit)=>[i64 i]) (fun _=>_) (fun _ _=>True) () rfl rfl trivial ha ?_ ?_
  ·rintro _ _
   refine gm ?_
   refine gf @zM ?_
   exact ⟨⟨⟨_,rfl,fun _=>hl⟩,.sc⟩,rfl⟩
  ·rintro i _ hi hw _
   refine gm ?_
   have hlb:i<b.length:=by omega
   have hg:=zG (f:=(fun n:Int=>[i64 n])) [] hi
   have hgb:=zG (f:=(fun n:Int=>[i64 n])) [] hlb
   (have F:=(a6 @hi @hlb @hw @hg @hgb @zB);(repeat' (first|refine dR F ?_|refine dQ F (fun he=> ?_) (fun he=> ?_)|fail));all_goals clear F)
   ·exact ⟨⟨⟨_,rfl,by simp⟩,.sc⟩,rfl⟩
   ·(refine ⟨(),trivial,?_,?_,rfl⟩<;>simp only [zY,xJ,List.tail_cons])
 ·have hne:((a.length:Int)!=(b.length:Int))=true:=by simp;omega
  refine gf @hne ?_
  exact ⟨⟨⟨_,rfl,by simp⟩,.sc⟩,rfl⟩
open UEqf73 in
theorem zh2 (a b:List Vl) (ha:a.length≤140737488355328):EB 73 [pH a,pH b] fun r=>r=true→a.length=b.length:=by
 refine ECall.pure (pv func73 26 false (by kernel_rfl) rfl rfl ?_)
 refine g2 ?_
 by_cases hl:a.length=b.length
 ·have hne:((a.length:Int)!=(b.length:Int))=false:=by simp [hl]
  refine gf @hne ?_
  refine zO a.length (K4 (.d:: .d::K4 (.k:: .k:: .k:: .v::D9 (.d:: .d:: .d::[])))) (own:=false) (fun i (_:Unit)=>[i64 i]) (fun _=>_) (fun _ _=>True) () rfl rfl trivial ha ?_ ?_
  ·rintro _ _
   refine gm ?_
   refine gf @zM ?_
   exact ⟨⟨⟨_,rfl,fun _=>hl⟩,.sc⟩,rfl⟩
  ·rintro i _ hi hw _
   refine gm ?_
   have hlb:i<b.length:=by omega
   have hg:=zG (f:=Vl.c) [] hi
   have hgb:=zG (f:=Vl.c) [] hlb
   (have F:=(a7 @hi @hlb @hw @hg @hgb @zB @eqV);(repeat' (first|refine dR F ?_|refine dQ F (fun he=> ?_) (fun he=> ?_)|fail));all_goals clear F)
   ·exact ⟨⟨⟨_,rfl,by simp⟩,.sc⟩,rfl⟩
   ·(refine ⟨(),trivial,?_,?_,rfl⟩<;>simp only [zY,xJ,List.tail_cons])
 ·have hne:((a.length:Int)!=(b.length:Int))=true:=by simp;omega
  refine gf @hne ?_
  exact ⟨⟨⟨_,rfl,by simp⟩,.sc⟩,rfl⟩
open UEqf95 in
theorem eq_ce (a b:List Ce) (ha:a.length≤140737488355328):EB 95 [ces a,ces b] fun r=>r=true→a.length=b.length:=by
 refine ECall.pure (pv func95 26 false (by kernel_rfl) rfl rfl ?_)
 refine g2 ?_
 by_cases hl:a.length=b.length
 ·have hne:((a.length:Int)!=(b.length:Int))=false:=by simp [hl]
  refine gf @hne ?_
  refine zO a.length (K4 (.d:: .d::K4 (.k:: .k:: .k:: .v::D9 (.d:: .d:: .d::[])))) (own:=false) (fun i (_:Unit)=>[i64 i]) (fun _=>_) (fun _ _=>True) () rfl rfl trivial ha ?_ ?_
  ·rintro _ _
   refine gm ?_
   refine gf @zM ?_
   exact ⟨⟨⟨_,rfl,fun _=>hl⟩,.sc⟩,rfl⟩
  ·rintro i _ hi hw _
   refine gm ?_
   have hlb:i<b.length:=by omega
   have hg:=zG (f:=Ce.c) [] hi
   have hgb:=zG (f:=Ce.c) [] hlb
   (have F:=(a7 @hi @hlb @hw @hg @hgb @zB @eqCe);(repeat' (first|refine dR F ?_|refine dQ F (fun he=> ?_) (fun he=> ?_)|fail));all_goals clear F)
   ·exact ⟨⟨⟨_,rfl,by simp⟩,.sc⟩,rfl⟩
   ·(refine ⟨(),trivial,?_,?_,rfl⟩<;>simp only [zY,xJ,List.tail_cons])
 ·have hne:((a.length:Int)!=(b.length:Int))=true:=by simp;omega
  refine gf @hne ?_
  exact ⟨⟨⟨_,rfl,by simp⟩,.sc⟩,rfl⟩
theorem zmF (a b:List Ru) (ha:a.length≤140737488355328) (g:FuncId) (hF: ∀ x∈a, ∀ y∈b,EB g [.agg x.c,.agg y.c]):EB 60 [.ts 9 (a.map Ru.c),.ts 9 (b.map Ru.c),.fn (.func g) [] []] fun r=>r=true→a.length=b.length:=by
 refine ECall.cut (R:=fun p _=> ∃ r:Bool,p=bo r∧(r=true→a.length=b.length)) (pv func60 32 false (by kernel_rfl) rfl rfl ?_) (by rintro p h ⟨n,rfl,h⟩;exact ⟨n,rfl,h⟩)
 refine g2 ?_
 by_cases hl:a.length=b.length
 ·have hne:((a.length:Int)!=(b.length:Int))=false:=by simp [hl]
  refine gf @hne ?_
  refine zO a.length (K4 (.k:: .k::D4 (K4 (.k:: .k:: .k:: .v::D9 (D4 (.d::[])))))) (own:=false) (fun i (_:Heap)=>[i64 i]) (fun J=>J) (fun _ _=>True) [] rfl rfl trivial ha ?_ ?_
  ·rintro _ _
   refine gm ?_
   refine gf @zM ?_
   exact ⟨_,rfl,fun _=>hl⟩
  ·rintro i J hi hw _
   refine gm ?_
   have hlb:i<b.length:=by omega
   have hg:=zG (f:=Ru.c) [] hi
   have hgb:=zG (f:=Ru.c) [] hlb
   refine gf (a9 @hi @hlb @hw @hg @hgb @zB @qK @rN (a2 @rU @sB)) ?_
   (refine g1f (a9 @hi @hlb @hw @hg @hgb @zB @qK @rN (a2 @rU @sB)) ?_;refine zC ((hF _ (List.getElem_mem hi) _ (List.getElem_mem hlb)).call zK (by simp [zJ]) _) ?_;intro p2 h2 hr2;refine g2 ?_)
   obtain ⟨⟨r,rfl, -⟩,rfl⟩:=hr2
   cases r
   ·refine gf (a9 @hi @hlb @hw @hg @hgb @zB @qK @rN (a2 @rU @sB)) ?_
    exact ⟨_,rfl,by simp⟩
   ·refine gf (a9 @hi @hlb @hw @hg @hgb @zB @qK @rN (a2 @rU @sB)) ?_
    exact ⟨_,trivial,rfl,rfl,rfl⟩
 ·have hne:((a.length:Int)!=(b.length:Int))=true:=by simp;omega
  refine gf @hne ?_
  exact ⟨_,rfl,by simp⟩
theorem zmG (a b:List Li) (ha:a.length≤140737488355328) (g:FuncId) (hF: ∀ x∈a, ∀ y∈b,EB g [.agg x.c,.agg y.c]):EB 62 [.ts 9 (a.map Li.c),.ts 9 (b.map Li.c),.fn (.func g) [] []] fun r=>r=true→a.length=b.length:=by
 refine ECall.cut (R:=fun p _=> ∃ r:Bool,p=bo r∧(r=true→a.length=b.length)) (pv func62 32 false (by kernel_rfl) rfl rfl ?_) (by rintro p h ⟨n,rfl,h⟩;exact ⟨n,rfl,h⟩)
 refine g2 ?_
 by_cases hl:a.length=b.length
 ·have hne:((a.length:Int)!=(b.length:Int))=false:=by simp [hl]
  refine gf @hne ?_
  refine zO a.length (K4 (.k:: .k::D4 (K4 (.k:: .k:: .k:: .v::D9 (D4 (.d::[])))))) (own:=false) (fun i (_:Heap)=>[i64 i]) (fun J=>J) (fun _ _=>True) [] rfl rfl trivial ha ?_ ?_
  ·rintro _ _
   refine gm ?_
   refine gf @zM ?_
   exact ⟨_,rfl,fun _=>hl⟩
  ·rintro i J hi hw _
   refine gm ?_
   have hlb:i<b.length:=by omega
   have hg:=zG (f:=Li.c) [] hi
   have hgb:=zG (f:=Li.c) [] hlb
   refine gf (a9 @hi @hlb @hw @hg @hgb @zB @qK @rN (a2 @rU @sB)) ?_
   (refine g1f (a9 @hi @hlb @hw @hg @hgb @zB @qK @rN (a2 @rU @sB)) ?_;refine zC ((hF _ (List.getElem_mem hi) _ (List.getElem_mem hlb)).call zK (by simp [zJ]) _) ?_;intro p2 h2 hr2;refine g2 ?_)
   obtain ⟨⟨r,rfl, -⟩,rfl⟩:=hr2
   cases r
   ·refine gf (a9 @hi @hlb @hw @hg @hgb @zB @qK @rN (a2 @rU @sB)) ?_
    exact ⟨_,rfl,by simp⟩
   ·refine gf (a9 @hi @hlb @hw @hg @hgb @zB @qK @rN (a2 @rU @sB)) ?_
    exact ⟨_,trivial,rfl,rfl,rfl⟩
 ·have hne:((a.length:Int)!=(b.length:Int))=true:=by simp;omega
  refine gf @hne ?_
  exact ⟨_,rfl,by simp⟩
theorem zjV (a b:List LRw) (ha:a.length≤140737488355328) (g:FuncId) (hF: ∀ x∈a, ∀ y∈b,EB g [.agg x.c,.agg y.c]):EB 66 [.ts 2 (a.map LRw.c),.ts 2 (b.map LRw.c),.fn (.func g) [] []] fun r=>r=true→a.length=b.length:=by
 refine ECall.cut (R:=fun p _=> ∃ r:Bool,p=bo r∧(r=true→a.length=b.length)) (pv func66 32 false (by kernel_rfl) rfl rfl ?_) (by rintro p h ⟨n,rfl,h⟩;exact ⟨n,rfl,h⟩)
 refine g2 ?_
 by_cases hl:a.length=b.length
 ·have hne:((a.length:Int)!=(b.length:Int))=false:=by simp [hl]
  refine gf @hne ?_
  refine zO a.length (K4 (.k:: .k::D4 (K4 (.k:: .k:: .k:: .v::D9 (D4 (.d::[])))))) (own:=false) (fun i (_:Heap)=>[i64 i]) (fun J=>J) (fun _ _=>True) [] rfl rfl trivial ha ?_ ?_
  ·rintro _ _
   refine gm ?_
   refine gf @zM ?_
   exact ⟨_,rfl,fun _=>hl⟩
  ·rintro i J hi hw _
   refine gm ?_
   have hlb:i<b.length:=by omega
   have hg:=zG (f:=LRw.c) [] hi
   have hgb:=zG (f:=LRw.c) [] hlb
   refine gf (a9 @hi @hlb @hw @hg @hgb @zB @qK @rN (a2 @rU @sB)) ?_
   (refine g1f (a9 @hi @hlb @hw @hg @hgb @zB @qK @rN (a2 @rU @sB)) ?_;refine zC ((hF _ (List.getElem_mem hi) _ (List.getElem_mem hlb)).call zK (by simp [zJ]) _) ?_;intro p2 h2 hr2;refine g2 ?_)
   obtain ⟨⟨r,rfl, -⟩,rfl⟩:=hr2
   cases r
   ·refine gf (a9 @hi @hlb @hw @hg @hgb @zB @qK @rN (a2 @rU @sB)) ?_
    exact ⟨_,rfl,by simp⟩
   ·refine gf (a9 @hi @hlb @hw @hg @hgb @zB @qK @rN (a2 @rU @sB)) ?_
    exact ⟨_,trivial,rfl,rfl,rfl⟩
 ·have hne:((a.length:Int)!=(b.length:Int))=true:=by simp;omega
  refine gf @hne ?_
  exact ⟨_,rfl,by simp⟩
end Go.AL
