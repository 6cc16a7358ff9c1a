/-
  A loop, a seam: what is turned told by a mask over the cells. Lists in two parts.
-/
import Derived.Test.YtcffidhiaihbkaaGreatDoorZ12
import Derived.IntWalk
set_option linter.unusedSimpArgs false
set_option linter.unusedVariables false
set_option maxRecDepth 100000
set_option maxHeartbeats 4000000
namespace Go.AL
open Go.RowKit
section
variable (P:Program) (G:Glob) (D:Option Nat→Prop) (own:Bool)
def EWp (c:Code) (K:Exit→List PV→Heap→Prop) (ts:List PV) (h:Heap):Prop:=
 ∃ e t1 h1,K e t1 h1∧ ∀ rd,D rd→AWp P G rd c (fun e' t' h'=>e'=e∧t'=t1∧h'=h1) ts h
def ECall (f:FuncId) (args:List PV) (h:Heap) (R:PV→Heap→Prop):Prop:=
 ∃ p h',R p h'∧ACall P G f args h fun q g=>q=p∧g=h'
def EPure (f:FuncId) (args:List PV) (K:PV→Prop):Prop:= ∃ p,K p∧Tree p∧Pure P G f args p
def EYl (r:Nat) (args:List PV) (h:Heap) (R:PV→Heap→Prop):Prop:=
 ∃ ts ps as bd st pd,h[r]? =some (.loop ts ps as bd st pd)∧args.length=ps.length∧
  EWp P G (fun rd=>rd≠none) as (fun e ts1 h1=>e= .normal∧ ∃ ts' ps' as' bd' pd1,h1[r]? =some (.loop ts' ps' as' bd' .ready pd1)∧
   EWp P G (fun rd=>rd≠none) bd (ARound r R) ts1 (h1.set r (.loop ts' ps' as' bd' .busy pd1))) (rput ts ps args) h
def dC (op:Op) (f:Operand→PV):Option (Nat×List PV):=
 match op with
 | .call c=>match c.callee with
  | .value x=>match f x with
   | .yl r=>some (r,c.args.toList.map f)
   |_=>none
  |_=>none
 |_=>none
mutual
def ER (ds:List (Option Tmp)):List Oper→(List PV→Heap→Prop)→List PV→Heap→Prop
 | [],Q,ts,h=>Q ts h
 |o::rest,Q,ts,h=>EGo ds rest Q o ts h (vU P G own ds o ts h)
def EGo (ds:List (Option Tmp)):List Oper→(List PV→Heap→Prop)→Oper→List PV→Heap→SR→Prop
 |rest,Q,o,ts,_,.val p h' c=>c∧ER ds rest Q (zZ ts o.dst p) h'
 |rest,Q,o,ts,h,.call g args=>ECall P G g args h fun p h'=>ER ds rest Q (zZ ts o.dst p) h'
 |rest,Q,o,ts,h,.no=>o.guard=none∧ ∃ p h',(∀ rd,D rd→OpOk P G rd o h (wV G ts) fun q g=>q=p∧g=h')∧ER ds rest Q (zZ ts o.dst p) h'
end
def uJ:Code→(Exit→List PV→Heap→Prop)→List PV→Heap→Prop
 | .skip,Q,ts,h=>Q .normal ts h
 | .label _,Q,ts,h=>Q .normal ts h
 | .exit id,Q,ts,h=>Q (.exit id) ts h
 | .ret,Q,ts,h=>Q .ret ts h
 | .region _ ops false,Q,ts,h=>ER P G D own (ops.toList.map (·.dst)) ops.toList (Q .normal) ts h
 | .seq a b,Q,ts,h=>uJ a (AThen (uJ b Q) Q) ts h
 | .cond x a b,Q,ts,h=>match wV G ts x with
  | .sc (.bool t)=>if t=true then uJ a Q ts h else uJ b Q ts h
  |_=>False
 | .block id c,Q,ts,h=>uJ c (ABlock id Q) ts h
 |c,Q,ts,h=>EWp P G D c Q ts h
variable {P G D own}
theorem EWp.mono {c:Code} {K K':Exit→List PV→Heap→Prop} {ts:List PV} {h:Heap} (k:EWp P G D c K ts h) (hk: ∀ e t h,K e t h→K' e t h):EWp P G D c K' ts h:=by
 obtain ⟨e,t1,h1,a,b⟩:=k
 exact ⟨e,t1,h1,hk _ _ _ a,b⟩
theorem ECall.mono {f:FuncId} {args:List PV} {h:Heap} {R R':PV→Heap→Prop} (k:ECall P G f args h R) (hk: ∀ p h,R p h→R' p h):ECall P G f args h R':=by
 obtain ⟨p,h1,a,b⟩:=k
 exact ⟨p,h1,hk _ _ a,b⟩
theorem EPure.mono {f:FuncId} {args:List PV} {K K':PV→Prop} (k:EPure P G f args K) (hk: ∀ p,K p→K' p):EPure P G f args K':=by
 obtain ⟨p,a,b⟩:=k
 exact ⟨p,hk _ a,b⟩
theorem EPure.call {f:FuncId} {args:List PV} {K:PV→Prop} (k:EPure P G f args K) (hG:GTree G) (ht: ∀ p∈args,Tree p) (h:Heap):ECall P G f args h fun p h'=>K p∧h'=h:=by
 obtain ⟨p,a,b,c⟩:=k
 exact ⟨p,h,⟨a,rfl⟩,Pure.frame c ht b hG h⟩
theorem kZ {c:Code} {K:Exit→List PV→Heap→Prop} {ts:List PV} {h:Heap} {e:Exit} {t1:List PV} {h1:Heap} (k: ∀ rd Q,Q e t1 h1→AWp P G rd c Q ts h) (hk:K e t1 h1):EWp P G D c K ts h:=
 ⟨e,t1,h1,hk,fun rd _=>k rd _ ⟨rfl,rfl,rfl⟩⟩
theorem eU {a b:Code} {K:Exit→List PV→Heap→Prop} {ts:List PV} {h:Heap} (k:EWp P G D a (AThen (EWp P G D b K) K) ts h):EWp P G D (.seq a b) K ts h:=by
 obtain ⟨e,t1,h1,hk,hw⟩:=k
 cases e with
 |normal=>
  obtain ⟨e2,t2,h2,hk2,hw2⟩:=hk
  refine ⟨e2,t2,h2,hk2,fun rd hd=>lH ((hw rd hd).mono ?_)⟩
  rintro _ _ _ ⟨rfl,rfl,rfl⟩
  exact hw2 rd hd
 |_=>
  refine ⟨_,t1,h1,hk,fun rd hd=>lH ((hw rd hd).mono ?_)⟩
  rintro _ _ _ ⟨rfl,rfl,rfl⟩
  exact ⟨rfl,rfl,rfl⟩
inductive Chain (P:Program) (G:Glob) (D:Option Nat→Prop) (c:Code) (e:Exit) (t2:List PV) (h2:Heap):Nat→List PV→Heap→Prop
 |last {ts:List PV} {h:Heap} (he:e≠ .normal) (k: ∀ rd,D rd→AWp P G rd c (fun e' t' h'=>e'=e∧t'=t2∧h'=h2) ts h):Chain P G D c e t2 h2 0 ts h
 |step {n:Nat} {ts t1:List PV} {h h1:Heap} (k: ∀ rd,D rd→AWp P G rd c (fun e' t' h'=>e'= .normal∧t'=t1∧h'=h1) ts h) (r:Chain P G D c e t2 h2 n t1 h1):Chain P G D c e t2 h2 (n+1) ts h
theorem Chain.awp {c:Code} {e:Exit} {t2:List PV} {h2:Heap} {n:Nat} {ts:List PV} {h:Heap} (k:Chain P G D c e t2 h2 n ts h) {rd:Option Nat} (hd:D rd):AWp P G rd (.loop c) (fun e' t' h'=>e'=e∧t'=t2∧h'=h2) ts h:=by
 refine mV (Chain P G D c e t2 h2) n k fun n ts h r=> ?_
 cases r with
 |last he k=>
  refine (k rd hd).mono ?_
  rintro e' t' h' ⟨he',ht',hh'⟩
  rw [he',ht',hh']
  cases e with
  |normal=>exact absurd rfl he
  |_=>exact ⟨rfl,rfl,rfl⟩
 |step k r=>
  refine (k rd hd).mono ?_
  rintro _ _ _ ⟨rfl,rfl,rfl⟩
  exact ⟨_,Nat.lt_succ_self _,r⟩
theorem mS {c:Code} {K:Exit→List PV→Heap→Prop} {ts:List PV} {h:Heap} (I:Nat→List PV→Heap→Prop) (n:Nat) (h0:I n ts h)
  (k: ∀ n ts h,I n ts h→EWp P G D c (AThen (fun ts' h'=> ∃ m,m<n∧I m ts' h') K) ts h):EWp P G D (.loop c) K ts h:=by
 have key: ∀ n ts h,I n ts h→ ∃ e t2 h2 j,K e t2 h2∧Chain P G D c e t2 h2 j ts h:=by
  intro n
  induction n using Nat.strongRecOn with
  | _ n ih=>
   intro ts h hi
   obtain ⟨e,t1,h1,hk,hw⟩:=k n ts h hi
   cases e with
   |normal=>
    obtain ⟨m,hm,hi1⟩:=hk
    obtain ⟨e,t2,h2,j,a,b⟩:=ih m hm t1 h1 hi1
    exact ⟨e,t2,h2,j+1,a,.step hw b⟩
   |_=>exact ⟨_,t1,h1,0,hk,.last (by simp) hw⟩
 obtain ⟨e,t2,h2,j,a,b⟩:=key n ts h h0
 exact ⟨e,t2,h2,a,fun rd hd=>b.awp hd⟩
theorem ziE {o:Oper} {f:Operand→PV} {r:Nat} {args:List PV} {h:Heap} {R:PV→Heap→Prop} (he:dC o.op f=some (r,args)) (k:EYl P G r args h R): ∃ p h',R p h'∧ ∀ rd,OpOk P G rd o h f fun q g=>q=p∧g=h':=by
 unfold dC at he
 split at he
 case h_2=>cases he
 rename_i c ho
 split at he
 case h_2=>cases he
 rename_i x hc
 split at he
 case h_2=>cases he
 rename_i r' hx
 cases he
 obtain ⟨ts,ps,as,bd,st,pd,hb,hl,e,t1,h1,⟨rfl,ts',ps',as',bd',pd1,hb1,e2,t2,h2,⟨ts3,ps3,as3,bd3,st3,pd3,hb3,hR⟩,hw2⟩,hw⟩:=k
 have hl':c.args.size=ps.length:=by simpa using hl
 have fin: ∀ p h',R p h'→(∀ l,AWp P G (some l) bd (ARound r fun q g=>q=p∧g=h') t1 (h1.set r (.loop ts' ps' as' bd' .busy pd1)))→ ∃ p h',R p h'∧ ∀ rd,OpOk P G rd o h f fun q g=>q=p∧g=h':=by
  intro p h' hr hb2
  refine ⟨p,h',hr,fun rd=> .yield ho hc hx hb hl' fun l=>(hw (some l) (by simp)).mono ?_⟩
  rintro _ _ _ ⟨rfl,rfl,rfl⟩
  exact ⟨rfl,ts',ps',as',bd',pd1,hb1,hb2 l⟩
 cases e2 with
 |normal=>exact fin _ _ hR fun l=>(hw2 (some l) (by simp)).mono (by rintro _ _ _ ⟨rfl,rfl,rfl⟩;exact ⟨_,_,_,_,_,_,hb3,rfl,rfl⟩)
 |ret=>exact fin _ _ hR fun l=>(hw2 (some l) (by simp)).mono (by rintro _ _ _ ⟨rfl,rfl,rfl⟩;exact ⟨_,_,_,_,_,_,hb3,rfl,rfl⟩)
 |exit id=>exact fin _ _ hR fun l=>(hw2 (some l) (by simp)).mono (by rintro _ _ _ ⟨rfl,rfl,rfl⟩;exact ⟨_,_,_,_,_,_,hb3,rfl,rfl⟩)
 |_=>exact hR.elim
theorem ER.sreg {ops:List Oper}: ∀ {rest:List Oper} {Q:List PV→Heap→Prop} {ts:List PV} {h:Heap},ER P G D own (ops.map (·.dst)) rest Q ts h→
  ∃ t1 h1,Q t1 h1∧ ∀ rd,D rd→SReg P G rd ops rest (fun t g=>t=t1∧g=h1) ts h:=by
 intro rest
 induction rest with
 |nil=>intro Q ts h k;simp only [ER] at k;exact ⟨ts,h,k,fun rd _=>by simp [SReg]⟩
 | cons o rest ih=>
  intro Q ts h k
  simp only [ER] at k
  have go: ∀ {r:SR},qC P own o.op (wV G ts) h=r→EGo P G D own (ops.map (·.dst)) rest Q o ts h r→(r= .no→o.guard=none)→
    ∃ t1 h1,Q t1 h1∧ ∀ rd,D rd→OpOk P G rd o h (wV G ts) fun p h'=>SReg P G rd ops rest (fun t g=>t=t1∧g=h1) (zZ ts o.dst p) h':=by
   intro r hr k _
   cases r with
   |val p h' c=>
    simp only [EGo] at k
    obtain ⟨t1,h1,a,b⟩:=ih k.2
    exact ⟨t1,h1,a,fun rd hd=>uI (own:=own) (by rw [hr];exact ⟨k.1,b rd hd⟩)⟩
   |call g args=>
    simp only [EGo] at k
    obtain ⟨p,h',a,b⟩:=k
    obtain ⟨t1,h1,a1,b1⟩:=ih a
    refine ⟨t1,h1,a1,fun rd hd=>uI (own:=own) ?_⟩
    rw [hr]
    refine b.mono fun q g hqg=> ?_
    obtain ⟨rfl,rfl⟩:=hqg
    exact b1 rd hd
   |no=>
    simp only [EGo] at k
    obtain ⟨_,p,h',a,b⟩:=k
    obtain ⟨t1,h1,a1,b1⟩:=ih b
    refine ⟨t1,h1,a1,fun rd hd=>(a rd hd).mono ?_⟩
    rintro _ _ ⟨rfl,rfl⟩
    exact b1 rd hd
  cases hg:o.guard with
  |none=>
   have e:vU P G own (ops.map (·.dst)) o ts h=qC P own o.op (wV G ts) h:=by unfold vU;rw [hg]
   rw [e] at k
   obtain ⟨t1,h1,a,b⟩:=go rfl k (fun _=>hg)
   refine ⟨t1,h1,a,fun rd hd=> ?_⟩
   simp only [SReg,hg]
   exact b rd hd
  | some jw=>
   obtain ⟨j,want⟩:=jw
   have skip: ∀ {p:PV} {h':Heap} {c:Prop},EGo P G D own (ops.map (·.dst)) rest Q o ts h (.val p h' c)→c∧ER P G D own (ops.map (·.dst)) rest Q (zZ ts o.dst p) h':=fun k=>by simp only [EGo] at k;exact k
   have bad: ¬EGo P G D own (ops.map (·.dst)) rest Q o ts h .no:=fun k=>by simp only [EGo] at k;rw [hg] at k;cases k.1
   unfold vU at k
   rw [hg] at k
   simp only [] at k
   split at k
   ·rename_i b hb
    split at k
    ·rename_i hbw
     obtain ⟨t1,h1,a1,b1⟩:=go rfl k (fun e=>by rw [e] at k;exact absurd k bad)
     refine ⟨t1,h1,a1,fun rd hd=> ?_⟩
     simp only [SReg,hg,oQ,hb]
     exact ⟨fun _=>b1 rd hd,fun ne=>absurd hbw ne⟩
    ·rename_i hbw
     obtain ⟨t1,h1,a1,b1⟩:=ih (skip k).2
     refine ⟨t1,h1,a1,fun rd hd=> ?_⟩
     simp only [SReg,hg,oQ,hb]
     exact ⟨fun e'=>absurd e' hbw,fun _=>b1 rd hd⟩
   ·rename_i hb
    obtain ⟨t1,h1,a1,b1⟩:=ih (skip k).2
    refine ⟨t1,h1,a1,fun rd hd=> ?_⟩
    simp only [SReg,hg,oQ,hb]
    exact b1 rd hd
   ·exact absurd k bad
theorem uV: ∀ (c:Code) (K:Exit→List PV→Heap→Prop) (ts:List PV) (h:Heap),uJ P G D own c K ts h→EWp P G D c K ts h:=by
 intro c
 induction c with
 |skip=>intro K ts h k;exact kZ (fun rd Q q=>mU q) k
 |label l=>intro K ts h k;exact kZ (fun rd Q q=>oI q) k
 |exit id=>intro K ts h k;exact kZ (fun rd Q q=>mW q) k
 |ret=>intro K ts h k;exact kZ (fun rd Q q=>jB q) k
 | region id ops d=>
  intro K ts h k
  cases d with
  | false=>
   obtain ⟨t1,h1,a,b⟩:=ER.sreg k
   refine ⟨.normal,t1,h1,a,fun rd hd=> ?_⟩
   have:=rM (id:=id) (rd:=rd) (Q:=fun e' t' h'=>e'= .normal∧t'=t1∧h'=h1) (ts:=ts) (h:=h) (l:=ops.toList) (by
    have e:(fun (t:List PV) (g:Heap)=>Exit.normal=Exit.normal∧t=t1∧g=h1)=fun t g=>t=t1∧g=h1:=by funext t g;simp
    rw [e];exact b rd hd)
   simpa using this
  |true=>exact k
 |seq a b iha ihb=>
  intro K ts h k
  refine eU ((iha _ ts h k).mono fun e t1 h1 q=> ?_)
  cases e with
  |normal=>exact ihb K t1 h1 q
  |_=>exact q
 | cond x a b iha ihb=>
  intro K ts h k
  simp only [uJ] at k
  split at k
  ·rename_i t hx
   split at k
   ·rename_i e
    subst e
    obtain ⟨e,t1,h1,q,w⟩:=iha K ts h k
    exact ⟨e,t1,h1,q,fun rd hd=>qQ hx (fun _=>w rd hd) (fun e=>by cases e)⟩
   ·rename_i e
    have e:t=false:=by simpa using e
    subst e
    obtain ⟨e,t1,h1,q,w⟩:=ihb K ts h k
    exact ⟨e,t1,h1,q,fun rd hd=>qQ hx (fun e=>by cases e) (fun _=>w rd hd)⟩
  ·exact k.elim
 | block id c ih=>
  intro K ts h k
  obtain ⟨e,t1,h1,q,w⟩:=ih _ ts h k
  have fin: ∀ e2,K e2 t1 h1→ABlock id (fun e' t' h'=>e'=e2∧t'=t1∧h'=h1) e t1 h1→EWp P G D (.block id c) K ts h:=fun e2 k2 a=>
   ⟨e2,t1,h1,k2,fun rd hd=>oK ((w rd hd).mono (by rintro _ _ _ ⟨rfl,rfl,rfl⟩;exact a))⟩
  cases e with
  |exit id'=>
   simp only [ABlock] at q
   split at q
   ·rename_i e;exact fin _ q (by simp [ABlock,e])
   ·rename_i e;exact fin _ q (by simp [ABlock,e])
  |_=>exact fin _ q ⟨rfl,rfl,rfl⟩
 |_=>intro K ts h k;exact k
theorem sA {f:FuncId} {fn:Func} {c:Code} {args ts:List PV} {h:Heap} {R:PV→Heap→Prop} (hf:P.funcs[f]? =some fn) (hb:fn.body=some c)
  (hen:uG P f=true) (ht:args++List.replicate (fn.ntmps-args.length) .ud=ts) {own:Bool} (k:uJ P G (fun rd=>rd=none) own c (AEnd P fn R) ts h):ECall P G f args h R:=by
 obtain ⟨e,t1,h1,q,w⟩:=uV _ _ _ _ k
 have fin: ∀ p c,nV (α:=Prop) P t1 h1 fn.results.toList=some (p,c)→c→R p h1→AEnd P fn (fun q g=>q=p∧g=h1) e t1 h1→ECall P G f args h R:=fun p c hr hc hR hE=>
  ⟨p,h1,hR,uF hf hb hen (by rw [ht];exact (w none rfl).mono (by rintro _ _ _ ⟨rfl,rfl,rfl⟩;exact hE))⟩
 cases e with
 | normal=>
  simp only [AEnd] at q
  split at q
  ·rename_i p c hr
   exact fin p c hr q.1 q.2 (by simp only [AEnd,hr];exact ⟨q.1,trivial,trivial⟩)
  ·exact q.elim
 | ret=>
  simp only [AEnd] at q
  split at q
  ·rename_i p c hr
   exact fin p c hr q.1 q.2 (by simp only [AEnd,hr];exact ⟨q.1,trivial,trivial⟩)
  ·exact q.elim
 |_=>exact q.elim
theorem ECall.cut {f:FuncId} {args:List PV} {R:PV→Heap→Prop} {K:PV→Prop} (k:ECall P G f args [] R) (hk: ∀ p h,R p h→K (fz 0 h 40 p)):EPure P G f args K:=by
 obtain ⟨p,h',a,b⟩:=k
 refine ⟨_,hk _ _ a,zjL _ _ _,?_⟩
 refine ACall.cut 0 40 (Nat.le_refl _) (b.mono ?_)
 rintro _ _ ⟨rfl,rfl⟩
 exact ⟨rfl,rfl⟩
theorem ECall.pure {f:FuncId} {args:List PV} {K:PV→Prop} (k:ECall P G f args [] fun p h=>(K p∧Tree p)∧h=[]):EPure P G f args K:=by
 obtain ⟨p,h',⟨⟨a,t⟩,rfl⟩,b⟩:=k
 exact ⟨p,a,t,b⟩
theorem ADo.det {n0:Nat} {t0:List PV} {d:DAnn} {op:Op} {f:Operand→PV} {h:Heap} {K:PV→Heap→Prop} {s:SR} (k:ADo P G n0 t0 d op f h K s): ∃ p h',K p h'∧ ∀ K',K' p h'→ADo P G n0 t0 d op f h K' s:=by
 by_cases h6:d.cl=6
 ·cases s with
  |val p h' c=>
   simp only [ADo,h6,if_true] at k
   obtain ⟨kc,k2,k3,k4,k5,k6,k7⟩:=k
   exact ⟨p,_,k7,fun K' hk=>by simp only [ADo,h6,if_true];exact ⟨kc,k2,k3,k4,k5,k6,hk⟩⟩
  |call g args=>
   simp only [ADo,h6,if_true] at k
   obtain ⟨p,h',k1,k2,k3,k4,k5,k6,k7⟩:=k
   exact ⟨p,_,k7,fun K' hk=>by simp only [ADo,h6,if_true];exact ⟨p,h',k1,k2,k3,k4,k5,k6,hk⟩⟩
  |no=>exact k.elim
 ·cases s with
  |val p h' c=>
   simp only [ADo,if_neg h6] at k
   exact ⟨p,h',k.2,fun K' hk=>by simp only [ADo,if_neg h6];exact ⟨k.1,hk⟩⟩
  | call g args=>
   by_cases h3:d.cl=3
   ·simp only [ADo,if_neg h6,if_pos h3] at k
    obtain ⟨p,k1,k2,k3,k4⟩:=k
    exact ⟨p,h,k4,fun K' hk=>by simp only [ADo,if_neg h6,if_pos h3];exact ⟨p,k1,k2,k3,hk⟩⟩
   ·simp only [ADo,if_neg h6,if_neg h3] at k
    obtain ⟨p,h',k1,k2⟩:=k
    exact ⟨p,h',k2,fun K' hk=>by simp only [ADo,if_neg h6,if_neg h3];exact ⟨p,h',k1,hk⟩⟩
  |no=>exact k.elim
theorem AD.det {n0:Nat} {t0:List PV} {ann:Nat→DAnn} {ds:List (Option Tmp)} {ops:List Oper}: ∀ (ρ:List Nat) (Q:List PV→Heap→Prop) (ts:List PV) (h:Heap),AD P G own n0 t0 ann ds ops ρ Q ts h→
  ∃ t1 h1,Q t1 h1∧ ∀ Q':List PV→Heap→Prop,Q' t1 h1→AD P G own n0 t0 ann ds ops ρ Q' ts h:=by
 intro ρ
 induction ρ with
 |nil=>intro Q ts h k;exact ⟨ts,h,by simpa only [AD] using k,fun Q' q=>by simpa only [AD] using q⟩
 | cons i r ih=>
  intro Q ts h k
  cases ho:ops[i]? with
  |none=>simp only [AD,ho] at k
  | some o=>
   have go:ADo P G n0 t0 (ann i) o.op (wV G ts) h (fun p h'=>AD P G own n0 t0 ann ds ops r Q (zZ ts o.dst p) h') (vI P own n0 t0 (ann i) o.op (wV G ts) h)→
     ∃ t1 h1,Q t1 h1∧ ∀ Q':List PV→Heap→Prop,Q' t1 h1→ADo P G n0 t0 (ann i) o.op (wV G ts) h (fun p h'=>AD P G own n0 t0 ann ds ops r Q' (zZ ts o.dst p) h') (vI P own n0 t0 (ann i) o.op (wV G ts) h):=fun k=>by
    obtain ⟨p,h',a,b⟩:=ADo.det k
    obtain ⟨t1,h1,a1,b1⟩:=ih _ _ _ a
    exact ⟨t1,h1,a1,fun Q' q=>b _ (b1 Q' q)⟩
   cases hg:o.guard with
   |none=>
    simp only [AD,ho,hg,ADGo] at k ⊢
    exact go k
   | some jw=>
    obtain ⟨j,want⟩:=jw
    simp only [AD,ho,hg,ADGo] at k ⊢
    generalize sK ds ts j=x at k ⊢
    split at k
    ·rename_i b
     by_cases hbw:b=want
     ·simp only [if_pos hbw] at k ⊢
      exact go k
     ·simp only [if_neg hbw] at k ⊢
      exact ih _ _ _ k
    ·exact ih _ _ _ k
    ·exact k.elim
section
variable {ds:List (Option Tmp)} {o:Oper} {rest:List Oper} {Q:List PV→Heap→Prop} {ts:List PV} {h:Heap}
theorem wU (k: ∀ r,vU P G own ds o ts h=r→EGo P G D own ds rest Q o ts h r):ER P G D own ds (o::rest) Q ts h:=by
 simp only [ER];exact k _ rfl
theorem za1 (k:Q ts h):ER P G D own ds [] Q ts h:=by
 simp only [ER];exact k
theorem za0 {h':Heap} {p:PV} (k: ∀ ts',zZ ts o.dst p=ts'→ER P G D own ds rest Q ts' h'):EGo P G D own ds rest Q o ts h (.val p h' True):=by
 simp only [EGo];exact ⟨trivial,k _ rfl⟩
theorem zH {h':Heap} {p:PV} {c:Prop} (hc:c) (k: ∀ ts',zZ ts o.dst p=ts'→ER P G D own ds rest Q ts' h'):EGo P G D own ds rest Q o ts h (.val p h' c):=by
 simp only [EGo];exact ⟨hc,k _ rfl⟩
theorem zC {g:FuncId} {args:List PV} {R:PV→Heap→Prop} (hc:ECall P G g args h R) (k: ∀ p h',R p h'→ ∀ ts',zZ ts o.dst p=ts'→ER P G D own ds rest Q ts' h'):
  EGo P G D own ds rest Q o ts h (.call g args):=by
 simp only [EGo];exact hc.mono fun p h' hr=>k p h' hr _ rfl
theorem rC {r:Nat} {args:List PV} {R:PV→Heap→Prop} (hg:o.guard=none) (he:dC o.op (wV G ts)=some (r,args)) (hc:EYl P G r args h R) (k: ∀ p h',R p h'→ ∀ ts',zZ ts o.dst p=ts'→ER P G D own ds rest Q ts' h'):
  EGo P G D own ds rest Q o ts h .no:=by
 obtain ⟨p,h',a,b⟩:=ziE he hc
 simp only [EGo];exact ⟨hg,p,h',fun rd _=>b rd,k p h' a _ rfl⟩
end
section
variable {K:Exit→List PV→Heap→Prop} {ts:List PV} {h:Heap}
theorem zaY {a b:Code} (k:uJ P G D own a (AThen (uJ P G D own b K) K) ts h):uJ P G D own (.seq a b) K ts h:=k
theorem eV (k:K .normal ts h):uJ P G D own .skip K ts h:=k
theorem eX {id:Nat} (k:K (.exit id) ts h):uJ P G D own (.exit id) K ts h:=k
theorem zaZ (k:K .ret ts h):uJ P G D own .ret K ts h:=k
theorem iG {l:Nat} (k:K .normal ts h):uJ P G D own (.label l) K ts h:=k
theorem iH {id:Nat} {c:Code} (k:uJ P G D own c (ABlock id K) ts h):uJ P G D own (.block id c) K ts h:=k
theorem lS {id:Nat} {ops:Array Oper} (k: ∀ l,ops.toList=l→ ∀ ds,l.map (·.dst)=ds→ER P G D own ds l (K .normal) ts h):uJ P G D own (.region id ops false) K ts h:=by
 simp only [uJ];exact k _ rfl _ rfl
theorem qP {id:Nat} {ops:Array Oper} (k:EWp P G D (.region id ops true) K ts h):uJ P G D own (.region id ops true) K ts h:=k
theorem eW {c:Code} (k:EWp P G D (.loop c) K ts h):uJ P G D own (.loop c) K ts h:=k
theorem mC {f:Operand} {ps:Array Tmp} {as bd:Code} (k:EWp P G D (.rangeFunc f ps as bd) K ts h):uJ P G D own (.rangeFunc f ps as bd) K ts h:=k
theorem eY {x:Operand} {a b:Code} (k: ∀ r,wV G ts x=r→ACond r (uJ P G D own a K ts h) (uJ P G D own b K ts h)):uJ P G D own (.cond x a b) K ts h:=k _ rfl
theorem zdZ (hm:P.follows .mixedOrders=true) (hG:GTree G) (pl:DPlan) {id:Nat} {ops:Array Oper} (hg:pl.good ops.toList=true)
  (k:AD P G own h.length ts pl.at (ops.toList.map (·.dst)) ops.toList pl.ord (K .normal) ts (rY h pl.places)):EWp P G D (.region id ops true) K ts h:=by
 obtain ⟨t1,h1,a,b⟩:=AD.det _ _ _ _ k
 exact ⟨.normal,t1,h1,a,fun rd _=>oJ (own:=own) hm hG pl hg (b _ ⟨rfl,rfl,rfl⟩)⟩
theorem tT {g:Operand} {ps:Array Tmp} {as bd:Code} {f:FuncId} {fst cap:List PV} (hd: ∀ rd,D rd→rd=none) (hg:wV G ts g= .fn (.func f) fst cap)
  (k:ECall P G f (fst++[.yl h.length]++cap) (h++[.loop ts ps.toList as bd .ready none]) fun _ h1=>ARange h.length ts K h1):EWp P G D (.rangeFunc g ps as bd) K ts h:=by
 obtain ⟨p,h',⟨ts',ps',as',bd',st,pd,hb,hst,hq⟩,hc⟩:=k
 have fin: ∀ e h2,K e ts h2→ARange h.length ts (fun e' t' h3=>e'=e∧t'=ts∧h3=h2) h'→EWp P G D (.rangeFunc g ps as bd) K ts h:=fun e h2 hk hA=>
  ⟨e,ts,h2,hk,fun rd hdd=>by
   rw [hd rd hdd]
   exact nF hg (hc.mono (by rintro _ _ ⟨rfl,rfl⟩;exact hA))⟩
 split at hq
 ·exact fin _ _ hq ⟨ts',ps',as',bd',st,_,hb,hst,rfl,rfl,rfl⟩
 ·exact fin _ _ hq ⟨ts',ps',as',bd',st,_,hb,hst,rfl,rfl,rfl⟩
 ·exact fin _ _ hq ⟨ts',ps',as',bd',st,_,hb,hst,rfl,rfl,rfl⟩
 ·exact hq.elim
end
section
variable {n0:Nat} {t0:List PV} {ann:Nat→DAnn} {ds:List (Option Tmp)} {ops:List Oper} {i:Nat} {r:List Nat} {Q:List PV→Heap→Prop} {ts:List PV} {h:Heap} {o:Oper} {d:DAnn}
theorem zP {g:FuncId} {args:List PV} {R:PV→Heap→Prop} (h6:d.cl≠6) (h3:d.cl≠3) (hc:ECall P G g args h R) (k: ∀ p h',R p h'→ ∀ ts',zZ ts o.dst p=ts'→AD P G own n0 t0 ann ds ops r Q ts' h'):ADGo P G own n0 t0 ann ds ops r Q d o ts h (.call g args):=by
 obtain ⟨p,h',a,b⟩:=hc
 exact tY h6 h3 b (k p h' a)
theorem vP {g:FuncId} {args:List PV} {R:PV→Prop} (h3:d.cl=3) (hc:EPure P G g args R) (ha: ∀ q∈args,Tree q) (k: ∀ p,R p→ ∀ ts',zZ ts o.dst p=ts'→AD P G own n0 t0 ann ds ops r Q ts' h):ADGo P G own n0 t0 ann ds ops r Q d o ts h (.call g args):=by
 obtain ⟨p,a,b,c⟩:=hc
 exact bQ h3 c ha b (k p a)
end
end
end Go.AL
namespace Go.AL
open Go.RowKit
def znK:List Nat→List PV→List PV→List PV
 |k::ks,v::vs,ts=>znK ks vs (ts.set k v)
 |_,_,ts=>ts
def TLe (a b:List PV):Prop:=a.length=b.length∧ ∀ (i:Nat) (p q:PV),a[i]? =some p→b[i]? =some q→q=p∨q= .un
theorem TLe.put {a:List PV}: ∀ (ks:List Nat) (b:List PV),TLe a b→TLe a (znK ks (ks.map fun k=>a.getD k .un) b):=by
 intro ks
 induction ks with
 |nil=>intro b h;exact h
 | cons k ks ih=>
  intro b h
  simp only [List.map_cons,znK]
  refine ih _ ⟨by simpa using h.1,fun i p q hp hq=> ?_⟩
  rw [List.getElem?_set] at hq
  split at hq
  ·rename_i e
   subst e
   split at hq
   ·cases hq;left;rw [List.getD_eq_getElem?_getD,hp];rfl
   ·cases hq
  ·exact h.2 i p q hp hq
section
variable {P:Program} {G:Glob} {D:Option Nat→Prop} {own:Bool}
theorem zcA {rd:Option Nat} {c:Code} {Q:Exit→List PV→Heap→Prop} {ts ts':List PV} {h:Heap} (hl:TLe ts ts') (k:AWp P G rd c Q ts' h):AWp P G rd c Q ts h:=by
 intro B φ w X a hA
 refine k B φ w X a ⟨hA.st,hA.gl,⟨by rw [hA.tr.size,hl.1],fun i q hq=> ?_⟩,hA.mark,hA.base⟩
 have hi:i<ts.length:=by rw [hl.1];exact (gsi hq).1
 rcases hl.2 i _ q (List.getElem?_eq_getElem hi) hq with e|e
 ·subst e;exact hA.tr.rel i _ (List.getElem?_eq_getElem hi)
 ·subst e;exact .un
theorem lF {c:Code} {K:Exit→List PV→Heap→Prop} {ts ts':List PV} {h:Heap} (hl:TLe ts ts') (k:EWp P G D c K ts' h):EWp P G D c K ts h:=by
 obtain ⟨e,t1,h1,a,b⟩:=k
 exact ⟨e,t1,h1,a,fun rd hd=>zcA hl (b rd hd)⟩
theorem PLe.ts {k:Nat} {els els':List (List PV)} (hl:els.length=els'.length) (h: ∀ (i:Nat) (e e':List PV),els[i]? =some e→els'[i]? =some e'→e.length=e'.length∧ ∀ (j:Nat) (p q:PV),e[j]? =some p→e'[j]? =some q→PLe p q):
  PLe (.ts k els) (.ts k els'):=fun S v hv=>by
 cases hv with
 | ts hl' hc hm hk ad ha val hval hr=>
  refine .ts (hl▸hl') hc hm (fun i e' he'=> ?_) ad ha val hval fun i e' j q he' hq=> ?_
  ·have hi:i<els.length:=by rw [hl];exact (gsi he').1
   rw [←(h i _ e' (List.getElem?_eq_getElem hi) he').1]
   exact hk i _ (List.getElem?_eq_getElem hi)
  ·have hi:i<els.length:=by rw [hl];exact (gsi he').1
   obtain ⟨h1,h2⟩:=h i _ e' (List.getElem?_eq_getElem hi) he'
   have hj:j<els[i].length:=by rw [h1];exact (gsi hq).1
   exact h2 j _ q (List.getElem?_eq_getElem hj) hq S _ (hr i _ j _ (List.getElem?_eq_getElem hi) (List.getElem?_eq_getElem hj))
theorem PLe.tup {cs ds:List PV} (hl:cs.length=ds.length) (h: ∀ (i:Nat) (p q:PV),cs[i]? =some p→ds[i]? =some q→PLe p q):PLe (.tup cs) (.tup ds):=fun S v hv=>by
 cases hv with
 |tup hl' hr=>
  refine .tup (hl'.trans hl) fun i q u hq hu=> ?_
  have hi:i<cs.length:=by rw [hl];exact (gsi hq).1
  exact h i _ q (List.getElem?_eq_getElem hi) hq S u (hr i _ u (List.getElem?_eq_getElem hi) hu)
inductive PLes:List PV→List PV→Prop
 |nil:PLes [] []
 |cons {p q:PV} {ps qs:List PV} (h:PLe p q) (r:PLes ps qs):PLes (p::ps) (q::qs)
theorem PLes.len {ps qs:List PV} (h:PLes ps qs):ps.length=qs.length:=by
 induction h with
 |nil=>rfl
 |cons _ _ ih=>simp [ih]
theorem PLes.get {ps qs:List PV} (h:PLes ps qs): ∀ (i:Nat) (p q:PV),ps[i]? =some p→qs[i]? =some q→PLe p q:=by
 induction h with
 |nil=>intro i p q hp;simp at hp
 |cons h _ ih=>
  intro i p q hp hq
  cases i with
  |zero=>simp at hp hq;subst hp;subst hq;exact h
  |succ i=>exact ih i p q (by simpa using hp) (by simpa using hq)
theorem PLes.refl: ∀ ps:List PV,PLes ps ps
 | []=> .nil
 |p::ps=> .cons (PLe.refl p) (PLes.refl ps)
theorem PLes.agg {ps qs:List PV} (h:PLes ps qs):PLe (.agg ps) (.agg qs):=PLe.agg h.len h.get
theorem PLes.tup {ps qs:List PV} (h:PLes ps qs):PLe (.tup ps) (.tup qs):=PLe.tup h.len h.get
theorem PLes.ts_map {α:Type} {k:Nat} {l:List α} {f g:α→List PV} (h: ∀ x∈l,PLes (f x) (g x)):PLe (.ts k (l.map f)) (.ts k (l.map g)):=by
 refine PLe.ts (by simp) fun i e e' he he'=> ?_
 rw [List.getElem?_map] at he he'
 cases hx:l[i]? with
 |none=>rw [hx] at he;cases he
 |some x=>
  rw [hx] at he he'
  cases he;cases he'
  exact ⟨(h x (List.mem_of_getElem? hx)).len,(h x (List.mem_of_getElem? hx)).get⟩
theorem ECall.args {f:FuncId} {args args':List PV} {h:Heap} {R:PV→Heap→Prop} (k:ECall P G f args h R) (hle:PLes args' args):ECall P G f args' h R:=by
 obtain ⟨p,h',a,b⟩:=k
 exact ⟨p,h',a,b.args hle.len hle.get⟩
theorem EPure.args {f:FuncId} {args args':List PV} {K:PV→Prop} (k:EPure P G f args K) (hle:PLes args' args):EPure P G f args' K:=by
 obtain ⟨p,a,t,b⟩:=k
 exact ⟨p,a,t,ACall.args b hle.len hle.get⟩
theorem ECall.weaken {f:FuncId} {args:List PV} {h:Heap} {R R':PV→Heap→Prop} (k:ECall P G f args h R) (hk: ∀ p h,R p h→ ∃ q,PLe p q∧R' q h):ECall P G f args h R':=by
 obtain ⟨p,h',a,b⟩:=k
 obtain ⟨q,hq,r⟩:=hk _ _ a
 refine ⟨q,h',r,ACall.weaken (b.mono ?_)⟩
 rintro _ _ ⟨rfl,rfl⟩
 exact ⟨q,hq,rfl,rfl⟩
theorem EPure.weaken {f:FuncId} {args:List PV} {K K':PV→Prop} (k:EPure P G f args K) (hk: ∀ p,K p→ ∃ q,PLe p q∧K' q∧Tree q):EPure P G f args K':=by
 obtain ⟨p,a,t,b⟩:=k
 obtain ⟨q,hq,r,tq⟩:=hk _ a
 refine ⟨q,r,tq,ACall.weaken (b.mono ?_)⟩
 rintro _ _ ⟨rfl,rfl⟩
 exact ⟨q,hq,rfl,rfl⟩
end
theorem oN {v:Value}:Tree (.sc v)↔True:=⟨fun _=>trivial,fun _=> .sc⟩
theorem cJ:Tree .nil↔True:=⟨fun _=>trivial,fun _=> .nil⟩
theorem zJ {cs:List PV}:Tree (.agg cs)↔ ∀ p∈cs,Tree p:=⟨fun h=>by cases h with|agg h=>exact h,.agg⟩
theorem cI {cs:List PV}:Tree (.tup cs)↔ ∀ p∈cs,Tree p:=⟨fun h=>by cases h with|tup h=>exact h,.tup⟩
theorem xX {k:Nat} {els:List (List PV)}:Tree (.ts k els)↔ ∀ e∈els, ∀ p∈e,Tree p:=⟨fun h=>by cases h with|ts h=>exact h,.ts⟩
theorem yO {f:Fn} {a b:List PV}:Tree (.fn f a b)↔(∀ p∈a,Tree p)∧ ∀ p∈b,Tree p:=⟨fun h=>by cases h with|fn h k=>exact ⟨h,k⟩,fun h=> .fn h.1 h.2⟩
end Go.AL
namespace Go.AL
open Go.RowKit
section
variable {P:Program} {G:Glob} {D:Option Nat→Prop} {own:Bool}
theorem mO {ts:List PV} {d:Nat} {p:PV} (h:ts.getD d .un=p) (hd:d<ts.length):ts.set d p=ts:=by
 subst h
 rw [List.getD_eq_getElem?_getD,List.getElem?_eq_getElem hd]
 exact List.set_getElem_self hd
theorem kW {ts:List PV} {d:Nat} {v:Value} (h:ts.getD d .un= .sc v):d<ts.length:=by
 by_cases hd:d<ts.length
 ·exact hd
 ·rw [List.getD_eq_getElem?_getD,List.getElem?_eq_none (by omega)] at h;cases h
end
end Go.AL
namespace Go.AL
open Go.RowKit
inductive Mk where
 |k
 |d
 |v
def zY:List Mk→List PV→List PV→List PV
 | [],_,ts=>ts
 | .k::m,vs,ts=>match ts with
  | []=>[]
  |p::ts=>p::zY m vs ts
 | .d::m,vs,ts=>match ts with
  | []=>[]
  |_::ts=> .un::zY m vs ts
 | .v::m,vs,ts=>match ts,vs with
  | [],_=>[]
  |_::ts,[]=> .un::zY m [] ts
  |_::ts,v::vs=>v::zY m vs ts
def xJ:List Mk→List PV→List PV
 | [],_=>[]
 | .k::m,ts=>xJ m ts.tail
 | .d::m,ts=>xJ m ts.tail
 | .v::m,ts=>match ts with
  | []=>[]
  |p::ts=>p::xJ m ts
theorem TLe.refl (a:List PV):TLe a a:=⟨rfl,fun i p q h k=>by rw [h] at k;cases k;exact .inl rfl⟩
theorem TLe.cons {p q:PV} {a b:List PV} (h:TLe a b) (hq:q=p∨q= .un):TLe (p::a) (q::b):=
 ⟨by simp [h.1],fun i x y hx hy=>by
  cases i with
  |zero=>simp at hx hy;subst hx;subst hy;exact hq
  |succ i=>exact h.2 i x y (by simpa using hx) (by simpa using hy)⟩
theorem TLe.mix: ∀ (m:List Mk) (a b vs:List PV),xJ m a=vs→zY m [] a=zY m [] b→TLe a (zY m vs b):=by
 intro m
 induction m with
 |nil=>intro a b vs _ h;simp only [zY] at h ⊢;subst h;exact TLe.refl a
 | cons x m ih=>
  intro a b vs hp h
  cases x with
  | k=>
   cases a<;>cases b<;>simp only [zY] at h ⊢
   ·exact TLe.refl _
   ·cases h
   ·cases h
   ·rename_i p a q b
    simp only [List.cons.injEq] at h
    exact (ih a b vs (by simpa [xJ] using hp) h.2).cons (.inl h.1.symm)
  | d=>
   cases a<;>cases b<;>simp only [zY] at h ⊢
   ·exact TLe.refl _
   ·cases h
   ·cases h
   ·rename_i p a q b
    simp only [List.cons.injEq,true_and] at h
    exact (ih a b vs (by simpa [xJ] using hp) h).cons (.inr rfl)
  | v=>
   cases a<;>cases b<;>simp only [zY] at h ⊢
   ·exact TLe.refl _
   ·cases h
   ·cases h
   ·rename_i p a q b
    simp only [List.cons.injEq,true_and] at h
    simp only [xJ] at hp
    subst hp
    exact (ih a b _ rfl h).cons (.inl rfl)
section
variable {P:Program} {G:Glob} {D:Option Nat→Prop} {own:Bool}
theorem zW {σ:Type} (M:List Mk) (f:σ→List PV) (g:σ→Heap) (I:σ→Prop) (m:σ→Nat) {c:Code} {K:Exit→List PV→Heap→Prop} {ts:List PV} {h:Heap} (s0:σ) (h1:xJ M ts=f s0) (h2:h=g s0) (h3:I s0)
  (k: ∀ s,I s→ ∀ t,zY M (f s) ts=t→uJ P G D own c (AThen (fun ts' h'=> ∃ s',I s'∧m s'<m s∧xJ M ts'=f s'∧zY M [] ts'=zY M [] ts∧h'=g s') K) t (g s)):EWp P G D (.loop c) K ts h:=by
 refine mS (fun n ts' h=> ∃ s,I s∧m s=n∧xJ M ts'=f s∧zY M [] ts'=zY M [] ts∧h=g s) (m s0) ⟨s0,h3,rfl,h1,rfl,h2⟩ ?_
 rintro n ts' h ⟨s,hI,rfl,e1,e2,rfl⟩
 refine lF (TLe.mix M ts' ts _ e1 e2) ((uV _ _ _ _ (k s hI _ rfl)).mono fun e t1 h1 q=> ?_)
 cases e with
 |normal=>obtain ⟨s',a,b,c,d,e⟩:=q;exact ⟨m s',b,s',a,rfl,c,d,e⟩
 |_=>exact q
end
theorem zM (a:Nat):(a<a)=False:=by simp
theorem zB (a:Nat):(0≤(a:Int))=True:=by simp
end Go.AL
namespace Go.AL
section
variable {P:Program} {G:Glob} {D:Option Nat→Prop} {own:Bool}
theorem zO {σ:Type} (n:Nat) (M:List Mk) (f:Nat→σ→List PV) (g:σ→Heap) (I:Nat→σ→Prop) {c:Code} {K:Exit→List PV→Heap→Prop} {ts:List PV} {h:Heap} (s0:σ) (h1:xJ M ts=f 0 s0) (h2:h=g s0) (h3:I 0 s0) (hn:n≤140737488355328)
  (k0: ∀ s,I n s→ ∀ t,zY M (f n s) ts=t→uJ P G D own c (AThen (fun _ _=>False) K) t (g s))
  (k1: ∀ i s,i<n→IntKind.i64.wrap (↑i+1)= ↑(i+1)→I i s→ ∀ t,zY M (f i s) ts=t→uJ P G D own c (AThen (fun ts' h'=> ∃ s',I (i+1) s'∧xJ M ts'=f (i+1) s'∧zY M [] ts'=zY M [] ts∧h'=g s') K) t (g s)):EWp P G D (.loop c) K ts h:=by
 refine mS (fun m ts' h=> ∃ i s,m=n-i∧i≤n∧I i s∧xJ M ts'=f i s∧zY M [] ts'=zY M [] ts∧h=g s) n ⟨0,s0,rfl,Nat.zero_le _,h3,h1,rfl,h2⟩ ?_
 rintro m ts' h ⟨i,s,rfl,hi,hI,e1,e2,rfl⟩
 have hle:=TLe.mix M ts' ts _ e1 e2
 rcases Nat.lt_or_ge i n with hlt|hge
 ·have hw:IntKind.i64.wrap ((i:Int)+1)= ↑(i+1):=by
   rw [IntWalk.i64_in _ ⟨by omega,by omega⟩];rfl
  refine lF hle ((uV _ _ _ _ (k1 i s hlt hw hI _ rfl)).mono fun e t1 h1 q=> ?_)
  cases e with
  |normal=>obtain ⟨s',a,b,c,d⟩:=q;exact ⟨n-(i+1),by omega,i+1,s',rfl,hlt,a,b,c,d⟩
  |_=>exact q
 ·have e:i=n:=by omega
  subst e
  refine lF hle ((uV _ _ _ _ (k0 s hI _ rfl)).mono fun e t1 h1 q=> ?_)
  cases e with
  |normal=>exact q.elim
  |_=>exact q
end
end Go.AL
namespace Go.AL
open Go.RowKit
section
variable (P:Program) (G:Glob) (D:Option Nat→Prop) (own:Bool)
def GGo (ds:List (Option Tmp)) (o:Oper) (rest:List Oper) (Q:List PV→Heap→Prop) (ts:List PV) (h:Heap) (j:Nat):Option PV→Prop
 |some (.sc (.bool b))=>(b=true→ ∀ t',ts.set ((ds.getD j none).getD 0) (.sc (.bool true))=t'→ER P G D own ds (o::rest) Q t' h)∧(b=false→ ∀ t',ts.set ((ds.getD j none).getD 0) (.sc (.bool false))=t'→ER P G D own ds (o::rest) Q t' h)
 |_=>False
variable {P G D own}
theorem zb3 {ds:List (Option Tmp)} {ts:List PV} {j:Nat} {p:PV} (h:sK ds ts j=some p):ts.getD ((ds.getD j none).getD 0) .un=p:=by
 unfold sK at h
 cases hd:ds.getD j none with
 |none=>rw [hd] at h;cases h
 |some d=>rw [hd] at h;simp only [Option.map_some,Option.some.injEq] at h;simpa using h
theorem tO {ds:List (Option Tmp)} {o:Oper} {rest:List Oper} {Q:List PV→Heap→Prop} {ts:List PV} {h:Heap} {j:Nat} {want:Bool} (_hg:o.guard=some (j,want)) (k: ∀ r,sK ds ts j=r→GGo P G D own ds o rest Q ts h j r):ER P G D own ds (o::rest) Q ts h:=by
 have k':=k _ rfl
 unfold GGo at k'
 split at k'
 ·rename_i b hb
  have hg:=zb3 hb
  cases b with
  |true=>exact k'.1 rfl _ (mO hg (kW hg))
  |false=>exact k'.2 rfl _ (mO hg (kW hg))
 ·exact k'.elim
section
variable {ds:List (Option Tmp)} {o:Oper} {rest:List Oper} {Q:List PV→Heap→Prop} {ts:List PV} {h:Heap} {j:Nat} {n0:Nat} {t0:List PV} {ann:Nat→DAnn} {ops:List Oper} {i:Nat} {r:List Nat}
theorem tL (k:False):GGo P G D own ds o rest Q ts h j (some (.sc (.bool true))):=k.elim
theorem tN (k:False):GGo P G D own ds o rest Q ts h j (some (.sc (.bool false))):=k.elim
theorem tK {b:Bool} (k1:b=true→ ∀ t',ts.set ((ds.getD j none).getD 0) (.sc (.bool true))=t'→ER P G D own ds (o::rest) Q t' h) (k2:b=false→ ∀ t',ts.set ((ds.getD j none).getD 0) (.sc (.bool false))=t'→ER P G D own ds (o::rest) Q t' h):GGo P G D own ds o rest Q ts h j (some (.sc (.bool b))):=⟨k1,k2⟩
end
end
end Go.AL
namespace Go.AL
section
variable {P:Program} {G:Glob} {D:Option Nat→Prop} {own:Bool}
theorem vY {n0:Nat} {t0:List PV} {ann:Nat→DAnn} {ds:List (Option Tmp)} {ops:List Oper} {r:List Nat} {Q:List PV→Heap→Prop} {ts:List PV} {h:Heap} (k:AD P G own n0 t0 ann ds ops r Q ts h):AD P G own n0 t0 ann ds ops r Q ts h:=k
theorem zaX {id:Nat} {ops:Array Oper} {K:Exit→List PV→Heap→Prop} {ts:List PV} {h:Heap} (k:EWp P G D (.region id ops true) K ts h):EWp P G D (.region id ops true) K ts h:=k
end
end Go.AL
namespace Go.AL
section
variable {P:Program} {G:Glob} {D:Option Nat→Prop} {own:Bool}
theorem jS (hm:P.follows .mixedOrders=true) (hG:GTree G) (pl:DPlan) {id:Nat} {ops:Array Oper} {K:Exit→List PV→Heap→Prop} {ts:List PV} {h:Heap} (hg:pl.good ops.toList=true)
  (k: ∀ n0,h.length=n0→ ∀ l,ops.toList=l→ ∀ ds,l.map (·.dst)=ds→ ∀ h2,rY h pl.places=h2→AD P G own n0 ts pl.at ds l pl.ord (K .normal) ts h2):EWp P G D (.region id ops true) K ts h:=
 zdZ hm hG pl hg (k _ rfl _ rfl _ rfl _ rfl)
end
end Go.AL
namespace Go.AL
theorem uR {α:Type} {g:α→α}: ∀ {l:List α},(∀ x∈l,g x=x)→l.map g=l
 | [],_=>rfl
 |x::l,h=>by rw [List.map_cons,h x (List.mem_cons_self ..),uR fun y hy=>h y (List.mem_cons_of_mem _ hy)]
theorem vE (n:Nat) (H:Heap): ∀ (f:Nat) (p:PV),zU f p=true→fz n H f p=p:=by
 intro f
 induction f with
 |zero=>intro p h;cases h
 | succ f ih=>
  intro p h
  have il: ∀ cs:List PV,cs.all (zU f)=true→cs.map (fz n H f)=cs:=fun cs hc=>uR fun x hx=>ih x (by rw [List.all_eq_true] at hc;exact hc x hx)
  have ill: ∀ els:List (List PV),(els.all fun e=>e.all (zU f))=true→els.map (fun e=>e.map (fz n H f))=els:=fun els hc=>uR fun x hx=>by
   rw [List.all_eq_true] at hc;exact il x (hc x hx)
  cases p<;>simp only [zU,Bool.and_eq_true,reduceCtorEq] at h<;>simp only [fz]
  ·rw [il _ h]
  ·rw [il _ h]
  ·rw [ill _ h]
  ·rw [ill _ h]
  ·rw [il _ h]
  ·rw [il _ h.1,il _ h.2]
  ·rw [ih _ h]
theorem all_map {α β:Type} {f:α→β} {g:β→Bool} {l:List α} (h: ∀ x,g (f x)=true):(l.map f).all g=true:=by
 rw [List.all_map,List.all_eq_true];intro x _;exact h x
end Go.AL
namespace Go.AL
open Go.RowKit
section
variable (P:Program) (G:Glob) (own:Bool)
def DX (n0:Nat) (t0:List PV) (ann:Nat→DAnn) (ds:List (Option Tmp)) (ops:List Oper) (i:Nat) (r:List Nat) (Q:List PV→Heap→Prop) (ts:List PV) (h:Heap) (o:Oper) (d:DAnn) (j:Nat) (want:Bool):Option PV→Prop
 | some (.sc (.bool b))=>(b=want∧ ∀ s,vI P own n0 t0 d o.op (wV G ts) h=s→ADGo P G own n0 t0 ann ds ops r Q d o ts h s)∨(b≠want∧ ∀ t',zZ ts o.dst .ud=t'→AD P G own n0 t0 ann ds ops r Q t' h)∨
   ((b=true→ ∀ t',ts.set ((ds.getD j none).getD 0) (.sc (.bool true))=t'→AD P G own n0 t0 ann ds ops (i::r) Q t' h)∧(b=false→ ∀ t',ts.set ((ds.getD j none).getD 0) (.sc (.bool false))=t'→AD P G own n0 t0 ann ds ops (i::r) Q t' h))
 |some .ud=> ∀ t',zZ ts o.dst .ud=t'→AD P G own n0 t0 ann ds ops r Q t' h
 |_=>False
variable {P G own}
section
variable {n0:Nat} {t0:List PV} {ann:Nat→DAnn} {ds:List (Option Tmp)} {ops:List Oper} {i:Nat} {r:List Nat} {Q:List PV→Heap→Prop} {ts:List PV} {h:Heap} {o:Oper} {d:DAnn} {j:Nat} {want:Bool}
theorem zN (ho:ops[i]? =some o) (hg:o.guard=some (j,want)) (hd:ann i=d) (k: ∀ x,sK ds ts j=x→DX P G own n0 t0 ann ds ops i r Q ts h o d j want x):AD P G own n0 t0 ann ds ops (i::r) Q ts h:=by
 have k':=k _ rfl
 unfold DX at k'
 split at k'
 ·rename_i b hb
  rcases k' with ⟨e,k'⟩|⟨e,k'⟩|k'
  ·exact bP ho hg hb hd (by rw [if_pos e];exact k')
  ·exact bP ho hg hb hd (by rw [if_neg e];exact k' _ rfl)
  ·have hg:=zb3 hb
   cases b with
   |true=>exact k'.1 rfl _ (mO hg (kW hg))
   |false=>exact k'.2 rfl _ (mO hg (kW hg))
 ·rename_i hb;exact zeP ho hg hb (k' _ rfl)
 ·exact k'.elim
theorem pK (k: ∀ s,vI P own n0 t0 d o.op (wV G ts) h=s→ADGo P G own n0 t0 ann ds ops r Q d o ts h s):DX P G own n0 t0 ann ds ops i r Q ts h o d j true (some (.sc (.bool true))):= .inl ⟨rfl,k⟩
theorem pL (k: ∀ s,vI P own n0 t0 d o.op (wV G ts) h=s→ADGo P G own n0 t0 ann ds ops r Q d o ts h s):DX P G own n0 t0 ann ds ops i r Q ts h o d j false (some (.sc (.bool false))):= .inl ⟨rfl,k⟩
theorem dx_st (k: ∀ t',zZ ts o.dst .ud=t'→AD P G own n0 t0 ann ds ops r Q t' h):DX P G own n0 t0 ann ds ops i r Q ts h o d j false (some (.sc (.bool true))):= .inr (.inl ⟨by decide,k⟩)
theorem dx_sf (k: ∀ t',zZ ts o.dst .ud=t'→AD P G own n0 t0 ann ds ops r Q t' h):DX P G own n0 t0 ann ds ops i r Q ts h o d j true (some (.sc (.bool false))):= .inr (.inl ⟨by decide,k⟩)
theorem dx_ud (k: ∀ t',zZ ts o.dst .ud=t'→AD P G own n0 t0 ann ds ops r Q t' h):DX P G own n0 t0 ann ds ops i r Q ts h o d j want (some .ud):=k
theorem iT {b:Bool} (k1:b=true→ ∀ t',ts.set ((ds.getD j none).getD 0) (.sc (.bool true))=t'→AD P G own n0 t0 ann ds ops (i::r) Q t' h) (k2:b=false→ ∀ t',ts.set ((ds.getD j none).getD 0) (.sc (.bool false))=t'→AD P G own n0 t0 ann ds ops (i::r) Q t' h):DX P G own n0 t0 ann ds ops i r Q ts h o d j want (some (.sc (.bool b))):= .inr (.inr ⟨k1,k2⟩)
end
end
end Go.AL
namespace Go.AL
open Go.RowKit
theorem ACall.absurd {P:Program} {G:Glob} {f:FuncId} {args:List PV} {h:Heap} {R:PV→Heap→Prop} {k:IntKind} {n:Int} (hen:uG P f=true) (hm:PV.sc (.int k n)∈args) (hn: ¬(k.min≤n∧n≤k.max)):ACall P G f args h R:=by
 refine ⟨hen,fun φ w X vs hS hG hl hv=> ?_⟩
 exfalso
 obtain ⟨i,hi⟩:=List.getElem?_of_mem hm
 have hlt:i<vs.size:=by rw [hl];exact (gsi hi).1
 have:=hv i _ _ hi (Array.getElem?_eq_getElem hlt)
 generalize vs[i]=v at this
 cases this with
 |sc h=>exact hn h
end Go.AL
