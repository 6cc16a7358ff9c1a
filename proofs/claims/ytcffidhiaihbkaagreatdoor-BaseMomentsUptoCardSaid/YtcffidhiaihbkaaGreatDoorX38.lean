/-
  Cells: lines of the table, to the letter.
-/
import Derived.Test.YtcffidhiaihbkaaGreatDoorX37
set_option linter.unusedSimpArgs false
set_option linter.unusedVariables false
set_option maxRecDepth 100000
set_option maxHeartbeats 4000000
namespace Go.AL
open Go.Proofs Go.Proofs.Tryz
def rV {α:Type} (F:α→Bool):List α→Int
 | []=> -1
 |x::l=>if F x=true then 0 else if rV F l<0 then -1 else rV F l+1
theorem zhK {α:Type} {F:α→Bool}: ∀ {l:List α},(∀ (j:Nat) (h:j<l.length),F l[j]=false)→rV F l= -1
 | [],_=>rfl
 |x::l,k=>by
  have h0:=k 0 (by simp)
  have:=zhK (F:=F) (l:=l) fun j h=>k (j+1) (by simpa using h)
  simp only [List.getElem_cons_zero] at h0
  simp only [rV,h0,this];simp
theorem zbW {α:Type} {F:α→Bool}: ∀ {l:List α} {i:Nat} (hi:i<l.length),(∀ (j:Nat) (h:j<l.length),j<i→F l[j]=false)→F l[i]=true→rV F l=i
 | [],i,hi,_,_=>by simp at hi
 |x::l,0,_,_,h=>by simp only [List.getElem_cons_zero] at h;simp [rV,h]
 |x::l,i+1,hi,k,h=>by
  have h0:=k 0 (by simp) (by omega)
  have:=zbW (F:=F) (l:=l) (i:=i) (by simpa using hi) (fun j h hj=>k (j+1) (by simpa using h) (by omega)) h
  simp only [List.getElem_cons_zero] at h0
  simp only [rV,h0,this]
  rw [if_neg (by simp),if_neg (by omega)];omega
theorem zbV {α:Type} {F:α→Bool}: ∀ {l:List α},rV F l<0→ ∀ x∈l,F x=false
 | [],_,x,hx=>by simp at hx
 | y::l,h,x,hx=>by
  simp only [rV] at h
  split at h
  ·omega
  ·rename_i hy
   split at h
   ·rename_i hl
    rcases List.mem_cons.1 hx with rfl|hx
    ·simpa using hy
    ·exact zbV hl x hx
   ·omega
theorem eQ {α:Type} {F:α→Bool}: ∀ {l:List α} {i:Nat},rV F l=i→ ∃ h:i<l.length,F l[i]=true
 | [],i,h=>by simp [rV] at h
 | y::l,i,h=>by
  simp only [rV] at h
  split at h
  ·rename_i hy
   have:i=0:=by omega
   subst this
   exact ⟨by simp,by simpa using hy⟩
  ·split at h
   ·omega
   ·obtain ⟨i,rfl⟩: ∃ j,i=j+1:=⟨i-1,by omega⟩
    obtain ⟨hi,hF⟩:=eQ (F:=F) (l:=l) (i:=i) (by omega)
    exact ⟨by simpa using hi,by simpa using hF⟩
end Go.AL
namespace Go.AL
open Go.Proofs Go.Proofs.Tryz
instance:DecidableEq Ce:=fun x y=>decidable_of_iff (x.a=y.a∧x.b=y.b∧x.e=y.e) (by cases x;cases y;simp)
@[go_sem] def UBsx1f45.pl:Nat→DPlan
 |6=>⟨[yA,yA,yA,yB,yA,yA,yA,yB,yA],uW,0⟩
 |_=>⟨[],[],0⟩
@[go_sem] def UBsx1f69.pl:Nat→DPlan
 |1=>⟨[yA,yB,yB,yA,yA,yB,yB,yA,yC,yA,yA,yB,yA,yB,yC,yA,yA,yA,yA],sI,0⟩
 |_=>⟨[],[],0⟩
@[go_sem] def UBsx1f96.pl:Nat→DPlan
 |6=>⟨[yA,yA,yA,yB,yA,yA,yA,yB,yA],uW,0⟩
 |_=>⟨[],[],0⟩
open UBsx1f45 in
theorem zjE (a b:List Vl) (ha:a.length≤140737488355328):EPure prog G0 45 [pH a,pH b] fun r=>r=bo (decide (a=b)):=by
 refine ECall.pure (pv func45 26 false (by kernel_rfl) rfl rfl ?_)
 refine g2 ?_
 by_cases hl:a.length=b.length
 ·have hne:((a.length:Int)!=(b.length:Int))=false:=by simp [hl]
  refine gf @hne ?_
  refine zO a.length (K4 (.d:: .d::K4 (.k:: .k:: .k:: .v::D9 (.d:: .d:: .d::[])))) (own:=false) (fun i (_:Unit)=>[i64 i]) (fun _=>_) (fun i _=> ∀ (j:Nat) (h:j<a.length) (h':j<b.length),j<i→a[j]=b[j]) () rfl rfl (fun _ _ _ h=>absurd h (Nat.not_lt_zero _)) ha ?_ ?_
  ·rintro _ hI
   refine gm ?_
   have e:a=b:=List.ext_getElem hl fun j h h'=>hI j h h' h
   subst e
   have e:decide (a=a)=true:=by simp
   rw [e]
   refine gf @zM ?_
   exact ⟨⟨rfl,.sc⟩,rfl⟩
  ·rintro i _ hi hw hI
   refine gm ?_
   have hlb:i<b.length:=by omega
   have hg:=zG (f:=Vl.c) [] hi
   have hgb:=zG (f:=Vl.c) [] hlb
   by_cases he:a[i]=b[i]
   ·have hI': ∀ (j:Nat) (h:j<a.length) (h':j<b.length),j<i+1→a[j]=b[j]:=fun j h h' hj=>by
     rcases Nat.lt_or_ge j i with hji|hji
     ·exact hI j h h' hji
     ·have:j=i:=by omega
      subst this;exact he
    rw [←he] at hgb
    have f1: ∀ x:Int,(x==x)=true:=fun x=>by simp
    have f1s: ∀ s:BA,decide (s=s)=true:=fun s=>by simp
    generalize a[i]=x at*
    refine gf (a9 @hi @hlb @hw @hg @hgb @zB @eqV @f1 @f1s) ?_
    exact ⟨(),hI',rfl,rfl,rfl⟩
   ·have e:decide (a=b)=false:=by
     rw [decide_eq_false_iff_not];intro h;subst h;exact he rfl
    rw [e]
    have f2:(a[i].t==b[i].t&&(a[i].n==b[i].n&&decide (a[i].s=b[i].s)))=false:=by
     rcases Bool.eq_false_or_eq_true (a[i].t==b[i].t&&(a[i].n==b[i].n&&decide (a[i].s=b[i].s))) with h|h
     ·exfalso
      simp only [Bool.and_true,Bool.and_eq_true,beq_iff_eq,decide_eq_true_eq] at h
      apply he
      generalize a[i]=x at*
      generalize b[i]=y at*
      cases x;cases y;simp_all
     ·exact h
    generalize a[i]=x at*
    generalize b[i]=y at*
    refine gf (a8 @hi @hlb @hw @hg @hgb @zB @eqV @f2) ?_
    exact ⟨⟨rfl,.sc⟩,rfl⟩
 ·have hne:((a.length:Int)!=(b.length:Int))=true:=by simp;omega
  have e:decide (a=b)=false:=by
   rw [decide_eq_false_iff_not];intro h;subst h;exact hl rfl
  rw [e]
  refine gf @hne ?_
  exact ⟨⟨rfl,.sc⟩,rfl⟩
open UBsx1f96 in
theorem zrD (a b:List Ce) (ha:a.length≤140737488355328):EPure prog G0 96 [ces a,ces b] fun r=>r=bo (decide (a=b)):=by
 refine ECall.pure (pv func96 26 false (by kernel_rfl) rfl rfl ?_)
 refine g2 ?_
 by_cases hl:a.length=b.length
 ·have hne:((a.length:Int)!=(b.length:Int))=false:=by simp [hl]
  refine gf @hne ?_
  refine zO a.length (K4 (.d:: .d::K4 (.k:: .k:: .k:: .v::D9 (.d:: .d:: .d::[])))) (own:=false) (fun i (_:Unit)=>[i64 i]) (fun _=>_) (fun i _=> ∀ (j:Nat) (h:j<a.length) (h':j<b.length),j<i→a[j]=b[j]) () rfl rfl (fun _ _ _ h=>absurd h (Nat.not_lt_zero _)) ha ?_ ?_
  ·rintro _ hI
   refine gm ?_
   have e:a=b:=List.ext_getElem hl fun j h h'=>hI j h h' h
   subst e
   have e:decide (a=a)=true:=by simp
   rw [e]
   refine gf @zM ?_
   exact ⟨⟨rfl,.sc⟩,rfl⟩
  ·rintro i _ hi hw hI
   refine gm ?_
   have hlb:i<b.length:=by omega
   have hg:=zG (f:=Ce.c) [] hi
   have hgb:=zG (f:=Ce.c) [] hlb
   by_cases he:a[i]=b[i]
   ·have hI': ∀ (j:Nat) (h:j<a.length) (h':j<b.length),j<i+1→a[j]=b[j]:=fun j h h' hj=>by
     rcases Nat.lt_or_ge j i with hji|hji
     ·exact hI j h h' hji
     ·have:j=i:=by omega
      subst this;exact he
    rw [←he] at hgb
    have f1: ∀ x:Int,(x==x)=true:=fun x=>by simp
    generalize a[i]=x at*
    refine gf (a8 @hi @hlb @hw @hg @hgb @zB @zs8 @f1) ?_
    exact ⟨(),hI',rfl,rfl,rfl⟩
   ·have e:decide (a=b)=false:=by
     rw [decide_eq_false_iff_not];intro h;subst h;exact he rfl
    rw [e]
    have f2:(a[i].a==b[i].a&&(a[i].b==b[i].b&&a[i].e==b[i].e))=false:=by
     rcases Bool.eq_false_or_eq_true (a[i].a==b[i].a&&(a[i].b==b[i].b&&a[i].e==b[i].e)) with h|h
     ·exfalso
      simp only [Bool.and_true,Bool.and_eq_true,beq_iff_eq,decide_eq_true_eq] at h
      apply he
      generalize a[i]=x at*
      generalize b[i]=y at*
      cases x;cases y;simp_all
     ·exact h
    generalize a[i]=x at*
    generalize b[i]=y at*
    refine gf (a8 @hi @hlb @hw @hg @hgb @zB @zs8 @f2) ?_
    exact ⟨⟨rfl,.sc⟩,rfl⟩
 ·have hne:((a.length:Int)!=(b.length:Int))=true:=by simp;omega
  have e:decide (a=b)=false:=by
   rw [decide_eq_false_iff_not];intro h;subst h;exact hl rfl
  rw [e]
  refine gf @hne ?_
  exact ⟨⟨rfl,.sc⟩,rfl⟩
theorem zq9 (l:List Rw) (F:Rw→Bool) (g:FuncId) (cap:List PV) (h0:Heap) (hl:l.length≤140737488355328) (hF: ∀ x∈l, ∀ J,ECall prog G0 g ((.agg x.c)::cap) (h0++J) fun p h'=> ∃ (J':Heap),p=bo (F x)∧h'=h0++J') (J:Heap):
  ECall prog G0 101 [uN l,.fn (.func g) [] cap] (h0++J) fun p h'=> ∃ (J':Heap),p=i64 (rV F l)∧h'=h0++J':=by
 refine pv func101 19 false (by kernel_rfl) rfl rfl ?_
 refine g2 ?_
 refine ge ?_
 refine zO l.length (K4 (.d:: .d:: .k:: .k:: .v::D9 (.d::[]))) (own:=false) (fun i (_:Heap)=>[i64 i]) (fun J=>h0++J) (fun i _=> ∀ (j:Nat) (h:j<l.length),j<i→F l[j]=false) J rfl rfl (fun j _ hj=>absurd hj (Nat.not_lt_zero _)) hl ?_ ?_
 ·rintro J hI
  refine gm ?_
  refine gf @zM ?_
  exact ⟨_,by rw [zhK fun j h=>hI j h h],rfl⟩
 ·rintro i J hi hw hI
  refine gm ?_
  have hx:=zG (f:=Rw.c) [] hi
  refine gf (a4 @hi @hx @zB @hw) ?_
  (refine g1f @hx ?_;refine zC (hF _ (List.getElem_mem hi) J) ?_;intro p2 h2 hr2;refine g2 ?_)
  obtain ⟨J',rfl,rfl⟩:=hr2
  cases hb:F l[i]
  ·refine gf @hw ?_
   refine ⟨J',fun j h hj=> ?_,rfl,rfl,rfl⟩
   rcases Nat.lt_or_ge j i with hji|hji
   ·exact hI j h hji
   ·have:j=i:=by omega
    subst this;exact hb
  ·refine ge ?_
   exact ⟨_,by rw [zbW hi hI hb],rfl⟩
theorem zrA {α:Type} (F:α→Bool) (l:List α):l.any F=decide (0≤rV F l):=by
 rcases Int.lt_or_le (rV F l) 0 with h|h
 ·rw [decide_eq_false (by omega),List.any_eq_false]
  intro x hx
  rw [zbV h x hx];simp
 ·rw [decide_eq_true h,List.any_eq_true]
  obtain ⟨i,hi⟩:=Int.eq_ofNat_of_zero_le h
  obtain ⟨hl,hF⟩:=eQ hi
  exact ⟨_,List.getElem_mem hl,hF⟩
theorem zrV (l:List Rw) (F:Rw→Bool) (g:FuncId) (cap:List PV) (h0:Heap) (hl:l.length≤140737488355328) (hF: ∀ x∈l, ∀ J,ECall prog G0 g ((.agg x.c)::cap) (h0++J) fun p h'=> ∃ (J':Heap),p=bo (F x)∧h'=h0++J') (J:Heap):
  ECall prog G0 71 [uN l,.fn (.func g) [] cap] (h0++J) fun p h'=> ∃ (J':Heap),p=bo (l.any F)∧h'=h0++J':=by
 rw [zrA F l]
 refine pv func71 9 false (by kernel_rfl) rfl rfl ?_
 refine g2 ?_
 refine ge ?_
 (refine g1 ?_;refine zC (zq9 l F g cap h0 hl hF J) ?_;intro p2 h2 hr2;refine g2 ?_)
 obtain ⟨J',rfl,rfl⟩:=hr2
 refine ge ?_
 exact ⟨_,rfl,rfl⟩
def tA (k:Nat) (x y:Rw):Bool:=decide (y.args.take k=x.args.take k)&&decide (0<(yW (uQ y.w &&& uQ x.w)).length)
open UBsx1f69 in
theorem zp0 (x y:Rw) (k q c:Nat) (hx:k≤x.args.length) (hy:k≤y.args.length) (hxl:x.lt) (hyl:y.lt) (h0:Heap) (hq:h0[q]? =some (.var 84 y.c)) (hc:h0[c]? =some (.var 3 [i64 k])) (J:Heap):
  ECall prog G0 69 [.agg x.c,.ptr q 0,.ptr c 0] (h0++J) fun p h'=> ∃ (J':Heap),p=bo (tA k x y)∧h'=h0++J':=by
 refine pv func69 23 false (by kernel_rfl) rfl rfl ?_
 refine g2 ?_
 have hq': ∀ l:List Blk,(h0++l)[q]? =some (.var 84 y.c):=fun l=>yJ _ _ _ _ hq
 have hc': ∀ l:List Blk,(h0++l)[c]? =some (.var 3 [i64 k]):=fun l=>yJ _ _ _ _ hc
 have hb: ∀ l:List Blk,(h0++(J++l))[h0.length+J.length]? =l[0]? :=fun l=>by rw [←List.append_assoc, ←List.length_append];exact rU _ _
 have e1:((k:Int)≤(x.args.length:Int))=True:=by simp [hx]
 have e2:((k:Int)≤(y.args.length:Int))=True:=by simp [hy]
 (repeat (first|refine gz ?_|(refine gn ?_;intro zs zh;(try simp only [go_sem,hq',hc',hb,xO,hx,hy,e1,e2] at zh);subst zh;refine gv ?_)|refine yD UBsx1f69.pl ?_))
 have hal:=hxl.al
 have hwx:=hxl.w
 have hwy:=hyl.w
 unfold tA
 (refine zF rfl rfl rfl ?_;intro zs zh;simp only [go_sem,hq',hc',hb,xO,hx,hy,e1,e2] at zh;subst zh;refine zP (by decide) (by decide) ((zjE (y.args.take k) (x.args.take k) (by rw [List.length_take];omega)).call zK (by simp) _) ?_;intro p2 h2 hr2 ts2 hts;simp only [go_sem] at hts;subst hts)
 obtain ⟨rfl,rfl⟩:=hr2
 cases decide (y.args.take k=x.args.take k) with
 |false=>
  (repeat (first|refine gz ?_|(refine gn ?_;intro zs zh;(try simp only [go_sem,hq',hc',hb,xO,hx,hy,e1,e2] at zh);subst zh;refine gv ?_)|refine yD UBsx1f69.pl ?_))
  exact ⟨_,rfl,rfl⟩
 | true=>
  (repeat (first|refine gz ?_|(refine gn ?_;intro zs zh;(try simp only [go_sem,hq',hc',hb,xO,hx,hy,e1,e2] at zh);subst zh;refine gv ?_)|refine yD UBsx1f69.pl ?_))
  (refine vY ?_;refine zN rfl rfl rfl ?_;intro sr hsr;simp only [sK,wP] at hsr;subst hsr;(first|refine pK ?_|refine pL ?_);intro sr hsr;simp only [go_sem,hq',hc',hb,xO,hx,hy,e1,e2] at hsr;subst hsr;refine zP (by decide) (by decide) ((zrT y.w x.w (by omega) (by omega)).call zK (by simp) _) ?_;intro p2 h2 hr2 ts2 hts;simp only [go_sem] at hts;subst hts)
  obtain ⟨rfl,rfl⟩:=hr2
  generalize yW (uQ y.w &&& uQ x.w)=w at*
  have e3:decide ((0:Int)<(w.length:Int))=decide (0<w.length):=by
   by_cases h:0<w.length
   ·rw [decide_eq_true h,decide_eq_true (by omega)]
   ·rw [decide_eq_false h,decide_eq_false (by omega)]
  (repeat (first|refine gz ?_|(refine gn ?_;intro zs zh;(try simp only [go_sem,hq',hc',hb,xO,hx,hy,e1,e2,e3] at zh);subst zh;refine gv ?_)|refine yD UBsx1f69.pl ?_))
  exact ⟨_,rfl,rfl⟩
def zr1 (k:Nat) (l:List Rw):Prop:= ∀ (i:Nat) (h:i<l.length),((l.take i).any fun y=>tA k y l[i])=false
theorem zq8 (rel:List Rw) (hl:rel.length≤1099511627776) (k:Nat) (hr: ∀ x∈rel,k≤x.args.length∧x.lt):EPure prog G0 42 [uN rel,i64 k] fun v=>v=bo (ze8 (zr1 k rel)):=by
 refine ECall.cut (R:=fun v _=>v=bo (ze8 (zr1 k rel))) (pv func42 22 false (by kernel_rfl) rfl rfl ?_) (by rintro p h rfl;rfl)
 refine g2 ?_
 refine ge ?_
 refine zO rel.length (K4 (D4 (.k:: .k:: .v::D9 (.d:: .d::[])))) (own:=false) (fun i (_:Heap)=>[i64 i]) (fun J=> .var 3 [i64 k]::J) (fun i _=> ∀ (j:Nat) (h:j<rel.length),j<i→((rel.take j).any fun y=>tA k y rel[j])=false) [] rfl rfl (fun _ _ h=>absurd h (Nat.not_lt_zero _)) (by omega) ?_ ?_
 ·rintro J hI
  refine gm ?_
  rw [pO (P:=zr1 k rel) (fun j hj=>hI j hj hj)]
  refine gf @zM ?_
  rfl
 ·rintro i J hi hw hI
  refine gm ?_
  have hx:=zG (f:=Rw.c) [] hi
  have hxo:=hr _ (List.getElem_mem hi)
  have no:((rel.take i).any fun y=>tA k y rel[i])=true→ze8 (zr1 k rel)=false:=fun h=>uA fun q=>by have:=q i hi;rw [h] at this;cases this
  have next:((rel.take i).any fun y=>tA k y rel[i])=false→ ∀ (j:Nat) (h:j<rel.length),j<i+1→((rel.take j).any fun y=>tA k y rel[j])=false:=fun h j hj hji=>by
   rcases Nat.lt_or_ge j i with q|q
   ·exact hI j hj q
   ·have:j=i:=by omega
    subst this;exact h
  clear hI
  generalize rel[i]=x at*
  have hile:(i:Int)≤(rel.length:Int):=by omega
  have hile2:i≤rel.length:=by omega
  (repeat (first|refine gz ?_|(refine gn ?_;intro zs zh;(try simp only [go_sem,hi,hx,zB,hw,zA,zD,xO,hile,hile2] at zh);subst zh;refine gv ?_)))
  have hq:(Blk.var 3 [i64 k]::(J++[Blk.var 84 x.c]))[J.length+1]? =some (.var 84 x.c):=by simp
  have hcf:=zrV (rel.take i) (fun y=>tA k y x) 69 [.ptr (J.length+1) 0,.ptr 0 0] (.var 3 [i64 k]::(J++[.var 84 x.c])) (by rw [List.length_take];omega) (fun y hy J2=>zp0 y x k (J.length+1) 0 (hr y (List.mem_of_mem_take hy)).1 hxo.1 (hr y (List.mem_of_mem_take hy)).2 hxo.2 _ hq rfl J2) []
  rw [List.append_nil] at hcf
  (refine ns ?_;intro zs zh;simp only [go_sem,hi,hx,zB,hw,zA,zD,xO,hile,hile2] at zh;subst zh;refine zC (hcf) ?_;intro p2 h2 hr2 ts2 hts;simp only [go_sem] at hts;subst hts)
  obtain ⟨J',rfl,rfl⟩:=hr2
  cases hb:(rel.take i).any fun y=>tA k y x
  ·refine gf @hw ?_
   exact ⟨_,next hb,rfl,rfl,rfl⟩
  ·rw [no hb]
   refine gf @hw ?_
   rfl
end Go.AL
namespace Go.AL
open Go.Proofs Go.Proofs.Tryz
def zqT (a:Int):Nat:=a.toNat
def tB (g:Int→Int) (ms:List Int) (a b:Int):List Int:=(List.range 64).map fun i:Nat=>if a≤(i:Int)∧(i:Int)<b then g (ms.getD i 0) else ms.getD i 0
theorem yY (g:Int→Int) (ms:List Int) (a b:Int):(tB g ms a b).length=64:=by simp [tB]
theorem tU {g:Int→Int} {ms:List Int} {a b:Int} {i:Nat} (h:i<64):(tB g ms a b).getD i 0=if a≤(i:Int)∧(i:Int)<b then g (ms.getD i 0) else ms.getD i 0:=by
 unfold tB
 rw [List.getD_eq_getElem?_getD,List.getElem?_map,List.getElem?_range h];rfl
theorem mH {x y:List Int} (hx:x.length=64) (hy:y.length=64) (h: ∀ i,i<64→x.getD i 0=y.getD i 0):x=y:=by
 refine List.ext_getElem (by omega) fun i h1 h2=> ?_
 have:=h i (by omega)
 rw [List.getD_eq_getElem?_getD,List.getD_eq_getElem?_getD,List.getElem?_eq_getElem h1,List.getElem?_eq_getElem h2] at this
 exact this
theorem zpD {g:Int→Int} {ms:List Int} {a b:Int} (hms:ms.length=64) (h: ∀ i:Nat,i<64→ ¬(a≤(i:Int)∧(i:Int)<b)):tB g ms a b=ms:=
 mH (yY ..) hms fun i hi=>by rw [tU hi,if_neg (h i hi)]
theorem zqE {ms:List Int} {k i:Nat} {v:Int} (hk:k<ms.length):(ms.set k v).getD i 0=if i=k then v else ms.getD i 0:=by
 rw [List.getD_eq_getElem?_getD,List.getD_eq_getElem?_getD]
 by_cases h:i=k
 ·subst h;rw [if_pos rfl,List.getElem?_set_self hk];rfl
 ·rw [if_neg h,List.getElem?_set_ne (Ne.symm h)]
theorem zfE {g:Int→Int} {ms:List Int} {a:Int} {k:Nat} (hk:zqT a≤k) (h64:k<64):(tB g ms a k).set k (g ((tB g ms a k).getD k 0))=tB g ms a ((k+1:Nat):Int):=by
 unfold zqT at hk
 refine mH (by rw [List.length_set];exact yY ..) (yY ..) fun i hi=> ?_
 rw [zqE (by rw [yY];exact h64),tU h64,tU hi,tU hi]
 by_cases h:i=k
 ·subst h
  rw [if_pos rfl,if_neg (show ¬(a≤(i:Int)∧(i:Int)<(i:Int)) by omega),if_pos (by omega)]
 ·rw [if_neg h]
  by_cases h2:a≤(i:Int)∧(i:Int)<(k:Int)
  ·rw [if_pos h2,if_pos (by omega)]
  ·rw [if_neg h2,if_neg (by omega)]
theorem znS {g:Int→Int} {ms:List Int} {a b:Int} {k:Nat} (h1:k=zqT a∨k≤64∧(k:Int)≤b) (h2:b≤k∨64≤k):tB g ms a k=tB g ms a b:=by
 unfold zqT at h1
 refine mH (yY ..) (yY ..) fun i hi=> ?_
 rw [tU hi,tU hi]
 by_cases h:a≤(i:Int)∧(i:Int)<(k:Int)
 ·rw [if_pos h,if_pos (by omega)]
 ·rw [if_neg h,if_neg (by omega)]
theorem zdN {g:Int→Int} {ms:List Int} {a:Int} (hms:ms.length=64):tB g ms a (zqT a:Nat)=ms:=zpD hms fun i hi=>by unfold zqT;omega
theorem zqH (a b:Int) (c1 c2 r:Nat) (J:Nat→Heap→Prop) (h0:Heap) (hJ:J (zqT a) h0) (h1:h0[c1]? =some (.var 3 [i64 a])) (h2: ∀ k h,J k h→h[c2]? =some (.var 3 [i64 b]))
  (hy: ∀ (k:Nat) h,zqT a≤k→k<64→(k:Int)<b→J k h→EYl prog G0 r [i64 k] h fun p h'=>p=bo true∧J (k+1) h'):ECall prog G0 174 [.yl r,.ptr c1 0,.ptr c2 0] h0 fun _ h'=> ∃ k,J k h'∧(k=zqT a∨k≤64∧(k:Int)≤b)∧(b≤k∨64≤k):=by
 refine pv func174 17 false (by kernel_rfl) rfl rfl ?_
 refine g2 ?_
 obtain ⟨k0,hk0,hkl⟩: ∃ k0:Nat,(if a<0 then (0:Int) else a)=k0∧k0=zqT a:=by
  unfold zqT
  by_cases h:a<0
  ·exact ⟨0,by rw [if_pos h];rfl,by omega⟩
  ·exact ⟨a.toNat,by rw [if_neg h];omega,rfl⟩
 rw [←hkl] at hJ hy ⊢
 refine gf (a2 @h1 @hk0) ?_
 refine zW (K4 (.v:: .k:: .k::D9 (.d::[]))) (fun (s:Nat×Heap)=>[i64 s.1]) (fun s=>s.2) (fun s=>J s.1 s.2∧k0≤s.1∧(s.1=k0∨s.1≤64∧(s.1:Int)≤b)) (fun s=>64-s.1) (own:=false) (k0,h0) rfl rfl ⟨hJ,Nat.le_refl _,.inl rfl⟩ ?_
 rintro ⟨k,h⟩ ⟨hJh,hkk,hkor⟩ t ht
 dsimp only at*
 simp only [zY] at ht;subst ht
 have hb:=h2 k h hJh
 by_cases hk:(k:Int)<(if (64:Int)<b then 64 else b)
 ·have hk':decide ((k:Int)<(if (64:Int)<b then 64 else b))=true:=by simpa using hk
  have hk64:k<64:=by split at hk<;>omega
  have hwr:IntKind.i64.wrap ((k:Int)+1)=((k+1:Nat):Int):=by rw [xM (by omega) (by omega)];omega
  refine gf (a2 @hb @hk') ?_
  (refine wU ?_;intro sr hsr;simp only [go_sem] at hsr;subst hsr;refine rC rfl (by simp only [dC,go_sem]<;>rfl) (hy k h hkk hk64 (by split at hk<;>omega) hJh) ?_;intro p2 h2 hr2 ts2 hts;simp only [go_sem] at hts;subst hts)
  obtain ⟨rfl,hJ2⟩:=hr2
  refine gf @hwr ?_
  exact ⟨(k+1,_),⟨hJ2,by dsimp only;omega,.inr ⟨by dsimp only;omega,by dsimp only;split at hk<;>omega⟩⟩,by dsimp only;omega,rfl,rfl,rfl⟩
 ·have hk':decide ((k:Int)<(if (64:Int)<b then 64 else b))=false:=by simpa using hk
  refine gf (a2 @hb @hk') ?_
  exact ⟨k,hJh,hkor,by split at hk<;>omega⟩
theorem zgW (l:La) (tb m1 m2:Nat) (es:List En) (h:Heap) (hT:TB l tb m1 m2 es h) (n:Int):
  ECall prog G0 133 [.ptr tb 0,i64 n] h fun p h'=>h'=h∧p=bo (ze7 l n):=by
 refine pv func133 17 false (by kernel_rfl) rfl rfl ?_
 refine g2 ?_
 have ht:=hT.t
 unfold ze7
 by_cases h0:0≤n
 ·have e0:decide (0≤n)=true:=by simp [h0]
  have e1:decide (0≤n∧n<(l.elems.length:Int))=decide (n<(l.elems.length:Int)):=by simp [h0]
  rw [e1]
  refine gf (a2 @ht @e0) ?_
  exact ⟨rfl,rfl⟩
 ·have e0:decide (0≤n)=false:=by simp [h0]
  have e1:decide (0≤n∧n<(l.elems.length:Int))=false:=by simp [h0]
  rw [e1]
  refine gf (a2 @ht @e0) ?_
  exact ⟨rfl,rfl⟩
noncomputable def dU (l:La) (ms:List Int) (a b e:Int):List Int:=if ze7 l e=true then tB (fun x=>zpP l x e) ms a b else ms
end Go.AL
namespace Go.AL
open Go.Proofs Go.Proofs.Tryz
@[go_sem] def UCsx2f91.pp:Nat→DPlan
 |4=>⟨[yB,yA,yB,yA,yA,yB,yB,yA,yA,yA,yB,yB,uX,yA,yA,yC],xE,0⟩
 |_=>⟨[],[],0⟩
@[go_sem] def UCsx2f72.pl:Nat→DPlan
 |13=>⟨[yA,yA,yA,yB,yA,yA,yA,yA,yB,yA,yA,yA,yC,yA,yC,yC,yA,yC],yM,0⟩
 |_=>⟨[],[],0⟩
@[go_sem] def UCsx2f91.pl:Nat→DPlan
 |4=>⟨[⟨7,0,[1006]⟩,yA,yB,yA,yA,yB,yB,yA,yA,yA,yB,yB,⟨6,0,[1006]⟩,yA,yA,yC],xE,0⟩
 |_=>⟨[],[],0⟩
open UCsx2f91 in
theorem zq1 (l_:La) (hl:l_.ok) (tb m1 m2:Nat) (es:List En) (h:Heap) (hT:TB l_ tb m1 m2 es h) (r:Nat) (ms0:List Int) (hms0:ms0.length=64) (hr0:h[r]? =some (.var 188 (ms0.map i64))) (a b e:Int):
  ECall prog G0 91 [.ptr tb 0,.ptr r 0,i64 a,i64 b,i64 e] h fun _ h'=> ∃ (B:Heap),h'=h.set r (.var 188 ((dU l_ ms0 a b e).map i64))++B:=by
 refine pv func91 34 false (by kernel_rfl) rfl rfl ?_
 refine g2 ?_
 have hrl:r<h.length:=(gsi hr0).1
 have hself:h=h.set r (.var 188 (ms0.map i64)):=by
  obtain ⟨h1,h2⟩:=gsi hr0
  rw [←h2,List.set_getElem_self]
 refine gf (a4 @rU @sB @qK @rN) ?_
 (refine Go.AL.g1f (a4 @rU @sB @qK @rN) ?_;refine zC (zgW l_ tb m1 m2 es _ ⟨by rw [List.getElem?_append_left (gsi hT.t).1];exact hT.t,by rw [List.getElem?_append_left (gsi hT.a).1];exact hT.a,by rw [List.getElem?_append_left (gsi hT.b).1];exact hT.b,hT.n,fun x hx=>by obtain ⟨ms,q1,q2⟩:=hT.l x hx;exact ⟨ms,q1,by rw [List.getElem?_append_left (gsi q2).1];exact q2⟩,hT.k,hT.d⟩ e) ?_;intro p2 h2 hr2;refine Go.AL.g2 ?_)
 obtain ⟨rfl,rfl⟩:=hr2
 unfold dU
 cases hel:ze7 l_ e with
 |false=>
  rw [if_neg (by decide)]
  refine gf (a4 @rU @sB @qK @rN) ?_
  exact ⟨_,by rw [←hself]⟩
 | true=>
  rw [if_pos rfl]
  have hl0: ∀ k,(tB (fun x=>zpP l_ x e) ms0 a k).length=64:=fun k=>yY ..
  have hst:tB (fun x=>zpP l_ x e) ms0 a (zqT a:Nat)=ms0:=zdN hms0
  refine gf (a4 @rU @sB @qK @rN) ?_
  (refine Go.AL.g1f (a4 @rU @sB @qK @rN) ?_;refine zC (jQ a b _) ?_;intro p2 h2 hr2;refine Go.AL.g2 ?_)
  obtain ⟨rfl,rfl⟩:=hr2
  refine gf (a4 @rU @sB @qK @rN) ?_
  refine tT (f:=174) (fst:=[]) (cap:=_) (fun _ h=>h) rfl ?_
  simp only [List.toList_toArray,List.cons_append,List.nil_append,List.append_nil,List.append_assoc,List.length_append,List.length_cons,List.length_nil,Nat.zero_add,Nat.reduceAdd,Nat.add_assoc,List.singleton_append]
  generalize hL:Blk.loop _ _ _ _ _ _=L
  refine (zqH a b (h.length+3) (h.length+4) (h.length+5) (fun k h1=>h1=h.set r (.var 188 ((tB (fun x=>zpP l_ x e) ms0 a (k:Nat)).map i64))++[.var 134 [.ptr tb 0],.var 143 [.ptr r 0],.var 3 [i64 e],.var 3 [i64 a],.var 3 [i64 b],L]) _ (by rw [hst, ←hself]) ((sB h _ 3).trans rfl) ?_ ?_).mono ?_
  ·rintro k _ rfl
   have:=sB (h.set r (.var 188 ((tB (fun x=>zpP l_ x e) ms0 a (k:Nat)).map i64))) [.var 134 [.ptr tb 0],.var 143 [.ptr r 0],.var 3 [i64 e],.var 3 [i64 a],.var 3 [i64 b],L] 4
   rw [List.length_set] at this
   exact this
  ·rintro k _ hklo hk64 hkb rfl
   subst hL
   have hstep:=zfE (g:=fun x=>zpP l_ x e) (ms:=ms0) hklo hk64
   have hms:=hl0 (k:Nat)
   generalize tB (fun x=>zpP l_ x e) ms0 a (k:Nat)=ms at*
   have htl:=(gsi hT.t).1
   have hrt:r≠tb:=fun e=>by subst e;have:=hT.t;rw [hr0] at this;cases this
   have F0: ∀ (X:Blk) (l:List Blk),(h.set r X++l)[h.length]? =l[0]? :=fun X l=>by have:=rU (h.set r X) l;rwa [List.length_set] at this
   have Fk: ∀ (X:Blk) (l:List Blk) (k:Nat),(h.set r X++l)[h.length+k]? =l[k]? :=fun X l k=>by have:=sB (h.set r X) l k;rwa [List.length_set] at this
   have Sk: ∀ (X:Blk) (l:List Blk) (k:Nat) (b:Blk),(h.set r X++l).set (h.length+k) b=h.set r X++l.set k b:=fun X l k b=>by have:=rN (h.set r X) l k b;rwa [List.length_set] at this
   have Ft: ∀ (X:Blk) (l:List Blk),(h.set r X++l)[tb]? =some (.var 176 [yQ l_.name,rR l_.elems,.ts 2 (l_.covers.map fun c=>[i64 c.1,i64 c.2]),i64 l_.at',.mp m1,.mp m2]):=fun X l=>by rw [List.getElem?_append_left (by rw [List.length_set];exact htl),List.getElem?_set_ne hrt];exact hT.t
   have Fr: ∀ (X:Blk) (l:List Blk),(h.set r X++l)[r]? =some X:=fun X l=>by rw [List.getElem?_append_left (by rw [List.length_set];exact hrl),List.getElem?_set_self hrl]
   have Sr: ∀ (X Y:Blk) (l:List Blk),(h.set r X++l).set r Y=h.set r Y++l:=fun X Y l=>by rw [List.set_append_left _ _ (by rw [List.length_set];exact hrl),List.set_set]
   have hk:k<ms.length:=by omega
   have hd:=yU i64 ms k .un hk
   have hgk:ms.getD k 0=ms[k]:=by rw [List.getD_eq_getElem?_getD,List.getElem?_eq_getElem hk];rfl
   rw [hgk] at hstep
   have hjn:=zrU l_ hl ms[k] e
   have hsp: ∀ v,(ms.map i64).take k++i64 v::(ms.map i64).drop (k+1)=(ms.set k v).map i64:=fun v=>wY i64 ms k v hk
   have hk6:((k:Int)<64)=True:=by simp;omega
   refine ⟨_,_,_,_,_,_,(Fk _ _ 5).trans rfl,rfl,?_⟩
   refine uV (own:=false) _ _ _ _ ?_
   simp only [rput,List.set_cons_zero,List.set_cons_succ]
   (repeat (first|refine gz ?_|(refine gn ?_;intro zs zh;(try simp only [go_sem,F0,Fk,Ft,Fr,Sk,Sr] at zh);subst zh;refine gv ?_)|refine yD UCsx2f91.pl ?_))
   refine ⟨rfl,_,_,_,_,_,(Fk _ _ 5).trans rfl,?_⟩
   refine uV (own:=false) _ _ _ _ ?_
   simp only [Sk,List.set_cons_zero,List.set_cons_succ]
   (repeat (first|refine gz ?_|(refine gn ?_;intro zs zh;(try simp only [go_sem,F0,Fk,Ft,Fr,Sk,Sr,hd,hsp,hk6,hms,zB] at zh);subst zh;refine gv ?_)|refine yD UCsx2f91.pp ?_))
   (refine zF rfl rfl rfl ?_;intro sr hsr;simp only [go_sem,F0,Fk,Ft,Fr,Sk,Sr,hd,hsp,hk6,hms,zB] at hsr;subst hsr;refine vP rfl (hjn) (by simp [zJ]) ?_;intro p2 hr2 ts2 hts;simp only [go_sem] at hts;subst hts)
   subst hr2
   (repeat (first|refine gz ?_|(refine gn ?_;intro zs zh;(try simp only [go_sem,F0,Fk,Ft,Fr,Sk,Sr,hd,hsp,hk6,hms,zB] at zh);subst zh;refine gv ?_)|refine yD UCsx2f91.pp ?_))
   refine ⟨_,_,_,_,_,_,(Fk _ _ 5).trans rfl,rfl,?_⟩
   rw [Sk,hstep]
   rfl
  ·rintro p h' ⟨k,rfl,hk1,hk2⟩
   subst hL
   rw [znS hk1 hk2]
   have Fk: ∀ (X:Blk) (l:List Blk) (k:Nat),(h.set r X++l)[h.length+k]? =l[k]? :=fun X l k=>by have:=sB (h.set r X) l k;rwa [List.length_set] at this
   have Sk: ∀ (X:Blk) (l:List Blk) (k:Nat) (b:Blk),(h.set r X++l).set (h.length+k) b=h.set r X++l.set k b:=fun X l k b=>by have:=rN (h.set r X) l k b;rwa [List.length_set] at this
   refine ⟨_,_,_,_,_,_,(Fk _ _ 5).trans rfl,by simp,?_⟩
   simp only [Sk,List.set_cons_zero,List.set_cons_succ]
   refine ge ?_
   exact ⟨_,rfl⟩
structure TBX (l:La) (tb m1 m2:Nat) (es:List En) (M:Nat→List Int) (h:Heap):Prop where
 tb:TB l tb m1 m2 es h
 m: ∀ e∈es,(M e.r).length=64∧h[e.r]? =some (.var 188 ((M e.r).map i64))
 nd:(es.map (·.r)).Nodup
abbrev Tbl:=List (List Vl×List Int)
def tE (es:List En) (M:Nat→List Int):Tbl:=es.map fun e=>(e.a,M e.r)
noncomputable def vR (T:Tbl):List BA:=T.map fun x=>zk0 x.1
open Classical in
noncomputable def uZ (bt:Int) (T:Tbl) (args:List Vl):Tbl:=if zk0 args∈vR T then T else T++[(args,List.replicate 64 bt)]
noncomputable def oT (T:Tbl) (k:BA) (f:List Int→List Int):Tbl:=T.map fun x=>if zk0 x.1=k then (x.1,f x.2) else x
theorem zq7 {es:List En} (hk: ∀ e∈es,e.ok) (M:Nat→List Int):vR (tE es M)=es.map (·.k):=by
 unfold vR tE
 rw [List.map_map]
 exact List.map_congr_left fun e he=>(hk e he).2.2.symm
theorem zoS {s:BA}: ∀ {es:List En} {j i:Nat} {p:PV},vV (.string s) (ma es) j=some (i,p)→ ∃ e∈es,e.k=s∧p=PV.ptr e.r 0
 | [],_,_,_,h=>by simp [vV] at h
 | e::es,j,i,p,h=>by
  simp only [List.map_cons,vV] at h
  split at h
  ·rename_i hv
   refine ⟨e,List.mem_cons_self ..,by simpa [sY,eq_comm] using hv,?_⟩
   simp at h;exact h.2.symm
  ·obtain ⟨f,hf,h1,h2⟩:=zoS h
   exact ⟨f,List.mem_cons_of_mem e hf,h1,h2⟩
attribute [-go_sem] kB
open UCsx2f72 in
theorem zqJ (l:La) (hl:l.ok) (tb m1 m2:Nat) (es:List En) (M:Nat→List Int) (h:Heap) (hX:TBX l tb m1 m2 es M h) (hz:es.length≤70368744177664) (args:List Vl) (ha:args.length≤1048576) (hs: ∀ a∈args,a.s.size≤1048576):
  ECall prog G0 72 [.ptr tb 0,pH args] h fun p h'=> ∃ (r:Nat) (es':List En) (M':Nat→List Int),p= .ptr r 0∧TBX l tb m1 m2 es' M' h'∧(∃ e∈es',e.r=r∧e.k=zk0 args)∧Kp h h'∧es'.length≤es.length+1∧tE es' M'=uZ (oU l) (tE es M) args:=by
 have hT:=hX.tb
 have hkk:=zq7 hT.k M
 refine pv func72 56 false (by kernel_rfl) rfl rfl ?_
 refine g2 ?_
 have hk:=zlY args ha hs
 obtain ⟨s,hsk⟩: ∃ s,s=zk0 args:=⟨_,rfl⟩
 rw [←hsk] at hk
 have ht:=hT.t
 have hma:=hT.a
 refine gf @ht ?_
 (refine Go.AL.g1f @ht ?_;refine zC (hk.call zK (by simp) _) ?_;intro p2 h2 hr2;refine Go.AL.g2 ?_)
 obtain ⟨rfl,e2⟩:=hr2
 replace e2:=e2.symm
 subst e2
 cases hm:vV (.string s) (ma es) 0 with
 |some x=>
  obtain ⟨j,p⟩:=x
  have hlk:=zfR hma hm
  obtain ⟨e,he,hkey,rfl⟩:=zoS hm
  refine gf (a3 @ht @hlk @zjX) ?_
  refine ⟨e.r,es,M,rfl,hX,⟨e,he,rfl,by rw [hkey,hsk]⟩,Kp.refl h,by omega,?_⟩
  have hin:zk0 args∈vR (tE es M):=by rw [hkk, ←hsk, ←hkey];exact List.mem_map_of_mem (f:=fun e:En=>e.k) he
  unfold uZ
  rw [if_pos hin]
 | none=>
  have hlk:=zfS hma hm
  have htl:tb<h.length:=(gsi ht).1
  have htA: ∀ b:Blk,(h++[b])[tb]? =some (.var 176 [yQ l.name,rR l.elems,.ts 2 (l.covers.map fun c=>[i64 c.1,i64 c.2]),i64 l.at',.mp m1,.mp m2]):=fun b=>by rw [List.getElem?_append_left htl];exact ht
  refine gf (a5 @ht @hlk @htA @zjY @buL) ?_
  (refine Go.AL.g1f (a3 @ht @hlk @htA) ?_;refine zC ((zj7 l hl).call zK (by simp [zJ]) _) ?_;intro p2 h2 hr2;refine Go.AL.g2 ?_)
  obtain ⟨rfl,e2⟩:=hr2
  obtain ⟨n,hbn⟩: ∃ n,oU l=n:=⟨_,rfl⟩
  rw [hbn]
  replace e2:=e2.symm
  subst e2
  have hlA:=(gV hm)
  have hm':vV (.string s) (mb es) 0=none:=cT (fun e=> .ptr e.r 0) (fun e=>pH e.a) hm
  have h0l:(0≤(es.length:Int))=True:=by simp
  have hdl:decide (es.length≤140737488355328)=true:=by rw [decide_eq_true_eq];omega
  have g1: ∀ (f:En→Value×PV) (x:Value×PV),(es.map f++[x])[es.length]? =some x:=fun f x=>by
   have:=List.getElem?_concat_length (l:=es.map f) (a:=x);rwa [List.length_map] at this
  have g2: ∀ (f:En→Value×PV) (x y:Value×PV),(es.map f++[x]).set es.length y=es.map f++[y]:=fun f x y=>by
   have:es.length=(es.map f).length:=by simp
   rw [this,List.set_append_right _ _ (Nat.le_refl _)];simp
  have LF: ∀ (ms:List Int) (H1:Heap),ms.length=64→h++[.var 188 (ms.map i64)]=H1→LineAt H1 h.length∧H1[tb]? =some (.var 176 [yQ l.name,rR l.elems,.ts 2 (l.covers.map fun c=>[i64 c.1,i64 c.2]),i64 l.at',.mp m1,.mp m2])∧H1[m1]? =some (.map (ma es))∧H1[m2]? =some (.map (mb es))∧H1.length=h.length+1∧ ∀ (r:Nat) (b:Blk),h[r]? =some b→H1[r]? =some b:=by
   intro ms H1 hms hH
   have hold: ∀ (r:Nat) (b:Blk),h[r]? =some b→H1[r]? =some b:=fun r b hr=>by rw [←hH,List.getElem?_append_left (gsi hr).1];exact hr
   exact ⟨⟨ms,hms,by rw [←hH];simp⟩,hold _ _ ht,hold _ _ hma,hold _ _ hT.b,by rw [←hH];simp,hold⟩
  have fin: ∀ H1:Heap,LineAt H1 h.length→H1[tb]? =some (.var 176 [yQ l.name,rR l.elems,.ts 2 (l.covers.map fun c=>[i64 c.1,i64 c.2]),i64 l.at',.mp m1,.mp m2])→H1[m1]? =some (.map (ma es))→H1[m2]? =some (.map (mb es))→(∀ (r:Nat) (b:Blk),h[r]? =some b→H1[r]? =some b)→
    TB l tb m1 m2 (es++[⟨s,h.length,args⟩]) ((H1.set m1 (.map (ma es++[(Value.string s,PV.ptr h.length 0)]))).set m2 (.map (mb es++[(Value.string s,pH args)])))∧LineAt ((H1.set m1 (.map (ma es++[(Value.string s,PV.ptr h.length 0)]))).set m2 (.map (mb es++[(Value.string s,pH args)]))) h.length∧Kp h ((H1.set m1 (.map (ma es++[(Value.string s,PV.ptr h.length 0)]))).set m2 (.map (mb es++[(Value.string s,pH args)])))∧ ∀ (r:Nat) (t:Nat) (cs:List PV),H1[r]? =some (.var t cs)→((H1.set m1 (.map (ma es++[(Value.string s,PV.ptr h.length 0)]))).set m2 (.map (mb es++[(Value.string s,pH args)])))[r]? =some (.var t cs):=by
   intro H1 hLA ht1 hma1 hmb1 hold
   generalize hX:Blk.map (ma es++[(Value.string s,PV.ptr h.length 0)])=X
   generalize hY:Blk.map (mb es++[(Value.string s,pH args)])=Y
   have keep: ∀ (r:Nat) (t:Nat) (cs:List PV),H1[r]? =some (.var t cs)→((H1.set m1 X).set m2 Y)[r]? =some (.var t cs):=fun r t cs hr=>by
    have n1:m1≠r:=fun e=>by subst e;rw [hma1] at hr;cases hr
    have n2:m2≠r:=fun e=>by subst e;rw [hmb1] at hr;cases hr
    rw [List.getElem?_set_ne n2,List.getElem?_set_ne n1];exact hr
   have lk: ∀ r,LineAt H1 r→LineAt ((H1.set m1 X).set m2 Y) r:=fun r ⟨ms,a,b⟩=>⟨ms,a,keep _ _ _ b⟩
   refine ⟨⟨keep _ _ _ ht1,?_,?_,hT.n,fun e he=> ?_,fun e he=> ?_,?_⟩,lk _ hLA,fun r b hr n1 n2=> ?_,keep⟩
   ·rw [List.getElem?_set_ne (Ne.symm hT.n),List.getElem?_set_self (gsi hma1).1, ←hX,ma,ma,List.map_append];rfl
   ·rw [List.getElem?_set_self (by rw [List.length_set];exact (gsi hmb1).1), ←hY,mb,mb,List.map_append];rfl
   ·rcases List.mem_append.1 he with he|he
    ·obtain ⟨ms,a,b⟩:=hT.l e he
     exact lk _ ⟨ms,a,hold _ _ b⟩
    ·rw [List.mem_singleton] at he;subst he;exact lk _ hLA
   ·rcases List.mem_append.1 he with he|he
    ·exact hT.k e he
    ·rw [List.mem_singleton] at he;subst he;exact ⟨ha,hs,hsk⟩
   ·rw [List.map_append,List.nodup_append]
    refine ⟨hT.d,by simp,fun a ha b hb=> ?_⟩
    simp at hb
    subst hb
    intro e
    subst e
    obtain ⟨x,hx,rfl⟩:=List.mem_map.1 ha
    exact hlA _ (List.mem_map_of_mem (f:=fun e:En=>(Value.string e.k,PV.ptr e.r 0)) hx) rfl
   ·have n1':m1≠r:=fun e=>by subst e;rw [hma] at hr;cases hr;exact n2 _ rfl
    have n2':m2≠r:=fun e=>by subst e;rw [hT.b] at hr;cases hr;exact n2 _ rfl
    rw [List.getElem?_set_ne n2',List.getElem?_set_ne n1'];exact hold r b hr
  have wrap: ∀ (ms:List Int) (H1 H2:Heap),ms=List.replicate 64 n→h++[.var 188 (ms.map i64)]=H1→TB l tb m1 m2 (es++[⟨s,h.length,args⟩]) H2→Kp h H2→(∀ (r:Nat) (t:Nat) (cs:List PV),H1[r]? =some (.var t cs)→H2[r]? =some (.var t cs))→
    ∃ (r:Nat) (es':List En) (M':Nat→List Int),PV.ptr h.length 0= .ptr r 0∧TBX l tb m1 m2 es' M' H2∧(∃ e∈es',e.r=r∧e.k=zk0 args)∧Kp h H2∧es'.length≤es.length+1∧tE es' M'=uZ n (tE es M) args:=by
   intro ms H1 H2 hms hH hTB hKp hkeep
   have hlt: ∀ e∈es,e.r≠h.length:=fun e he q=>by
    have:=(gsi (hX.m e he).2).1
    omega
   have hM1: ∀ e∈es,(if e.r=h.length then List.replicate 64 n else M e.r)=M e.r:=fun e he=>if_neg (hlt e he)
   refine ⟨h.length,es++[⟨s,h.length,args⟩],fun q=>if q=h.length then List.replicate 64 n else M q,rfl,⟨hTB,fun e he=> ?_,?_⟩,⟨_,List.mem_append_right _ (List.mem_singleton.2 rfl),rfl,hsk⟩,hKp,by simp,?_⟩
   ·rcases List.mem_append.1 he with he|he
    ·rw [hM1 e he]
     refine ⟨(hX.m e he).1,hkeep _ _ _ ?_⟩
     rw [←hH,List.getElem?_append_left (gsi (hX.m e he).2).1];exact (hX.m e he).2
    ·rw [List.mem_singleton] at he;subst he
     rw [if_pos rfl]
     refine ⟨by simp,hkeep _ _ _ ?_⟩
     rw [←hH,hms];simp
   ·rw [List.map_append,List.nodup_append]
    refine ⟨hX.nd,by simp,fun a ha b hb=> ?_⟩
    simp at hb
    subst hb
    obtain ⟨e,he,rfl⟩:=List.mem_map.1 ha
    exact hlt e he
   ·unfold uZ
    have hin: ¬zk0 args∈vR (tE es M):=by
     rw [hkk, ←hsk]
     intro q
     obtain ⟨e,he,hek⟩:=List.mem_map.1 q
     exact hlA _ (List.mem_map_of_mem (f:=fun e:En=>(Value.string e.k,PV.ptr e.r 0)) he) (by rw [hek])
    rw [if_neg hin]
    unfold tE
    rw [List.map_append]
    congr 1
    ·exact List.map_congr_left fun e he=>by dsimp only;rw [hM1 e he]
    ·simp
  by_cases hn0:n=0
  ·have hb:(n !=0)=false:=by simp [hn0]
   generalize hH:h++[Blk.var 188 _]=H1 at*
   have hH0:=hH
   obtain ⟨hLA,ht1,hma1,hmb1,hnew,hold⟩:=LF (List.replicate 64 0) H1 rfl hH
   have f2: ∀ b:Blk,(H1.set m1 b)[m1]? =some b:=fun b=>List.getElem?_set_self (gsi hma1).1
   have f3: ∀ b:Blk,(H1.set m1 b)[m2]? =some (.map (mb es)):=fun b=>by rw [List.getElem?_set_ne hT.n];exact hmb1
   have f4: ∀ b c:Blk,((H1.set m1 b).set m2 c)[m2]? =some c:=fun b c=>List.getElem?_set_self (gsi (f3 b)).1
   (repeat (first|refine gz ?_|(refine gn ?_;intro zs zh;(try simp only [go_sem,hb,ht1,hma1,tmL,ziL,tmA,ziA,dJ,zaT,zm1,hm,hm',hdl,f2,f3,f4,g1,g2,h0l,List.set_set,List.length_map,Bool.and_self,zaS] at zh);subst zh;refine gv ?_)|refine yD UCsx2f72.pl ?_))
   obtain ⟨a1,a2,a3,a4⟩:=fin H1 hLA ht1 hma1 hmb1 hold
   exact wrap (List.replicate 64 0) H1 _ (by rw [hn0]) hH0 a1 a3 a4
  ·have hb:(n !=0)=true:=by simp [hn0]
   refine gf (a2 @hb @htA) ?_
   refine zO 64 (K9 (.d::K9 (K9 (.k:: .k:: .v::D4 (D4 (K9 (K4 (K4 ([]))))))))) (own:=false) (fun i (_:List Int)=>[i64 i]) (fun s=>h++[.var 188 (s.map i64)]) (fun i s=>s.length=64∧ ∀ j,j<64→s.getD j 0=if j<i then n else 0) (List.replicate 64 0) rfl rfl ⟨rfl,fun j hj=>by rw [if_neg (Nat.not_lt_zero j),List.getD_eq_getElem?_getD,List.getElem?_replicate,if_pos hj];rfl⟩ (by omega) ?_ ?_
   ·rintro ms ⟨hms,hmv⟩
    refine gm ?_
    have hmr:ms=List.replicate 64 n:=mH hms (by simp) fun j hj=>by rw [hmv j hj,if_pos hj,List.getD_eq_getElem?_getD,List.getElem?_replicate,if_pos hj];rfl
    have h64:(((64:Nat):Int)<64)=False:=by simp
    refine gf @h64 ?_
    obtain ⟨H1,hH⟩: ∃ H1,h++[Blk.var 188 (ms.map i64)]=H1:=⟨_,rfl⟩
    rw [hH]
    have hH0:=hH
    obtain ⟨hLA,ht1,hma1,hmb1,hnew,hold⟩:=LF ms H1 hms hH
    have f2: ∀ b:Blk,(H1.set m1 b)[m1]? =some b:=fun b=>List.getElem?_set_self (gsi hma1).1
    have f3: ∀ b:Blk,(H1.set m1 b)[m2]? =some (.map (mb es)):=fun b=>by rw [List.getElem?_set_ne hT.n];exact hmb1
    have f4: ∀ b c:Blk,((H1.set m1 b).set m2 c)[m2]? =some c:=fun b c=>List.getElem?_set_self (gsi (f3 b)).1
    (repeat (first|refine gz ?_|(refine gn ?_;intro zs zh;(try simp only [go_sem,h64,ht1,hma1,tmL,ziL,tmA,ziA,dJ,zaT,zm1,hm,hm',hdl,f2,f3,f4,g1,g2,h0l,List.set_set,List.length_map,Bool.and_self,zaS] at zh);subst zh;refine gv ?_)|refine yD UCsx2f72.pl ?_))
    obtain ⟨a1,a2,a3,a4⟩:=fin H1 hLA ht1 hma1 hmb1 hold
    exact wrap ms H1 _ hmr hH0 a1 a3 a4
   ·rintro i ms hi hw ⟨hms,hmv⟩
    refine gm ?_
    have h64:((i:Int)<64)=True:=by simp;omega
    have hi64:i<ms.length:=by omega
    have hsp: ∀ v,(ms.map i64).take i++i64 v::(ms.map i64).drop (i+1)=(ms.set i v).map i64:=fun v=>wY i64 ms i v hi64
    refine gf (a8 @h64 @hi @hw @zB @zA @zD @hms @hsp) ?_
    refine ⟨ms.set i n,⟨by simpa using hms,fun j hj=> ?_⟩,rfl,rfl,rfl⟩
    rw [zqE hi64]
    by_cases q:j=i
    ·rw [if_pos q,if_pos (by omega)]
    ·rw [if_neg q,hmv j hj]
     by_cases q2:j<i
     ·rw [if_pos q2,if_pos (by omega)]
     ·rw [if_neg q2,if_neg (by omega)]
end Go.AL
