/-
  'apure0_ok'.
-/
import Derived.Test.YtlcjmejclpilhaaGreatDoorX00
set_option linter.unusedSimpArgs false
set_option linter.unusedVariables false
set_option maxRecDepth 100000
set_option maxHeartbeats 4000000
namespace Go.AL
open Go.RowKit
abbrev Glob:=Nat->Option (List PV)
def GRel(S:St)(G:Glob):Prop:= ∀g cs,G g=some cs->VRel S (.tp cs) (.pointer (some ⟨g,0,none⟩))
def zeV:Value->PV
 | .slice none 0 0=> .nil
 | .int k n=>if k.min<=n/\n<=k.max then .sc (.int k n) else .un
 | .string s=>if s.size<=maxLen then .sc (.string s) else .un
 | .bool b=> .sc (.bool b)
 | .nilIface=> .sc .nilIface
 | .nilFunc=> .sc .nilFunc
 | .pointer none=> .sc (.pointer none)
 | .map none=> .sc (.map none)
 |_=> .un
def nI:Value->PV
 | .agg cs=>if cs.toList.all Value.oneCell' then .agg (cs.toList.map zeV) else .un
 | .tuple vs=>if vs.size=0 then .ud else .un
 |v=>zeV v
theorem cR(S:St)(v:Value):VRel S (zeV v) v:=by
 unfold zeV;split
 ·exact .nil
 ·split
  ·exact .sc Qfj
  ·exact .un
 ·split
  ·exact .sc Qfj
  ·exact .un
 all_goals first|exact .sc trivial|exact .un
theorem sN(S:St)(v:Value):VRel S (nI v) v:=by
 cases v with
 | agg cs=>
  simp only[nI];split
  ·rename_i h;rw[Xg] at h;refine .agg Qf4 (fun i v hv=>h v ?_) (fun i p v hp hv=> ?_)
   ·rw[Qz] at hv;obtain⟨hi,rfl⟩:=hv;simp
   ·rw[Qu] at hp;have:cs.toList[i]? =some v:=by simpa using hv
    rw[this] at hp;cases hp;exact cR S v
  ·exact .un
 | tuple vs=>
  simp only[nI];split
  ·rename_i h;have:vs= #[]:=Yu h;subst this;exact .ud
  ·exact .un
 |_=>rw[nI]<;>first|exact cR S _|(intro _ h;cases h)
def wV(G:Glob)(ts:List PV):Operand->PV
 | .tmp t=>ts.getD t .un
 | .const v=>nI v
 | .global g=>match G g with|some cs=> .tp cs|none=> .un
 | .func f=> .fn (.func f) [] []
structure TRel(S:St)(ts:List PV)(tmps:Array Value):Prop where
 size:tmps.size=ts.length
 rel: ∀i p,ts[i]? =some p->VRel S p (tmps.getD i undef)
theorem lI{S:St}{G:Glob}{ts:List PV}{a:Act}(hG:GRel S G)(hT:TRel S ts a.tmps)(x:Operand):VRel S (wV G ts x) (a.eval x):=by
 cases x with
 |tmp t=>
  simp only[wV,Act.eval];cases h:ts[t]? with
  |none=>rw[Qb,h];exact .un
  |some p=>rw[Qb,h];exact hT.rel t p h
 |const v=>exact sN S v
 |global g=>
  simp only[wV,Act.eval];split
  ·rename_i cs h;exact hG g cs h
  ·exact .un
 |func f=>exact .fn rfl rfl (by intro i p v h;simp at h) (by intro i p v h;simp at h)
theorem TRel.ext{S S':St}{ts:List PV}{tmps:Array Value}(h:TRel S ts tmps)(x:Ext S S'):TRel S' ts tmps:=⟨h.size,fun i p hp=>(h.rel i p hp).ext x⟩
theorem GRel.ext{S S':St}{G:Glob}(h:GRel S G)(x:Ext S S'):GRel S' G:=fun g cs hg=>(h g cs hg).ext x
def zZ(ts:List PV)(dst:Option Tmp)(p:PV):List PV:=
 match dst with
 |some d=>ts.set d p
 |none=>ts
theorem TRel.put{S:St}{ts:List PV}{a:Act}(h:TRel S ts a.tmps)(dst:Option Tmp){p:PV}{v:Value}(hv:VRel S p v):TRel S (zZ ts dst p) (a.put dst v).tmps:=by
 cases dst with
 |none=>exact h
 | some d=>
  simp only[zZ,Act.put];refine⟨by simp[h.size],fun i q hq=> ?_⟩;rw[Qq] at hq;have hs:=h.size;split at hq
  ·subst d;split at hq
   ·cases hq;rename_i hlt;have hlt':i<a.tmps.size:=Qf3;simp[Array.getD,hlt',hv]
   ·cases hq
  ·rename_i hne;have:=h.rel i q hq;rw[Yx] at this ⊢
   rwa [Array.getElem?_setIfInBounds_ne hne]
def dD(P:Program)(t:TypeId):Option Bool:=match P.underlying t with|some (.struct _)|some (.array ..)=>some true|some _=>some false|none=>none
def xL(P:Program)(t:TypeId):Option Nat:=(P.info? t).map (·.size)
def zR(P:Program)(t:TypeId)(f:Nat):Option (Nat×TypeId):=match P.underlying t with|some (.struct fs)=>(fs[f]?).map fun f=>(f.offset,f.type)|_=>none
def wX(P:Program)(t:TypeId):Option TypeId:=match P.underlying t with|some (.slice e)=>some e|_=>none
def bR(P:Program)(t:TypeId):Option (Nat×TypeId):=match P.underlying t with|some (.array n e)=>some (n,e)|_=>none
def zeT(P:Program)(t:TypeId):Option IntKind:=match P.underlying t with|some (.int k)=>some k|_=>none
def bW(P:Program)(t:TypeId):Bool:=match P.underlying t with|some .bool=>true|_=>false
def gJ(P:Program)(t:TypeId):Bool:=match P.underlying t with|some .string=>true|_=>false
def zg9(P:Program)(t:TypeId):Option Bool:=match P.underlying t with|some (.interface _)=>some true|some _=>some false|none=>none
def dG(b:Bool):PV->PV->PV
 | .sc (.bool x),.sc (.bool y)=> .sc (.bool (bif b then x else y))
 |p,q=>if b then p else q
theorem aJ{S:St}{b:Bool}{p q:PV}{u v:Value}(hp:VRel S p u)(hq:VRel S q v):VRel S (dG b p q) (if b then u else v):=by
 unfold dG;split
 ·cases hp;cases hq;cases b<;>exact .sc trivial
 ·cases b
  ·exact hq
  ·exact hp
class CK(α:Type) where
 cnd:(c:Prop)->[Decidable c]->α
 both:α->α->α
instance:CK Prop:=⟨fun c=>c,And⟩
instance:CK Bool:=⟨fun c=>decide c,Bool.and⟩
theorem vL(c:Prop)[Decidable c]:(CK.cnd c:Prop)=c:=rfl
theorem wE(c d:Prop):(CK.both c d:Prop)=(c/\d):=rfl
def zcM{α:Type}[CK α](P:Program)(t:TypeId)(op:BinOp):PV->PV->Option (PV×α)
 | .sc (.int k a),.sc (.int k' b)=>
  match op with
  | .shl=>some (.sc (.int k (k.wrap (a*2 ^ min b.toNat k.bits))),CK.cnd (0<=b))
  | .shr=>some (.sc (.int k (a / 2 ^ min b.toNat k.bits)),CK.cnd (0<=b))
  | .add=>if k=k' then some (.sc (.int k (k.wrap (a+b))),CK.cnd True) else none
  | .sub=>if k=k' then some (.sc (.int k (k.wrap (a-b))),CK.cnd True) else none
  | .mul=>if k=k' then some (.sc (.int k (k.wrap (a*b))),CK.cnd True) else none
  | .quo=>if k=k' then some (.sc (.int k (k.wrap (a.tdiv b))),CK.cnd (b≠0)) else none
  | .rem=>if k=k' then some (.sc (.int k (a.tmod b)),CK.cnd (b≠0)) else none
  | .and=>if k=k' then some (.sc (.int k (bits .and k a b)),CK.cnd True) else none
  | .or=>if k=k' then some (.sc (.int k (bits .or k a b)),CK.cnd True) else none
  | .xor=>if k=k' then some (.sc (.int k (bits .xor k a b)),CK.cnd True) else none
  | .andNot=>if k=k' then some (.sc (.int k (bits .andNot k a b)),CK.cnd True) else none
  | .eql=>if k=k' then some (.sc (.bool (a==b)),CK.cnd True) else none
  | .neq=>if k=k' then some (.sc (.bool (a !=b)),CK.cnd True) else none
  | .lss=>if k=k' then some (.sc (.bool (decide (a<b))),CK.cnd True) else none
  | .leq=>if k=k' then some (.sc (.bool (decide (a<=b))),CK.cnd True) else none
  | .gtr=>if k=k' then some (.sc (.bool (decide (b<a))),CK.cnd True) else none
  | .geq=>if k=k' then some (.sc (.bool (decide (b<=a))),CK.cnd True) else none
 | .sc (.bool a),.sc (.bool b)=>
  match op with
  | .eql=>if bW P t then some (.sc (.bool (a==b)),CK.cnd True) else none
  | .neq=>if bW P t then some (.sc (.bool (a !=b)),CK.cnd True) else none
  |_=>none
 | .sc (.string a),.sc (.string b)=>
  match op with
  | .eql=>some (.sc (.bool (decide (a=b))),CK.cnd True)
  | .neq=>some (.sc (.bool (!decide (a=b))),CK.cnd True)
  |_=>none
 |_,_=>none
def zaG:PV->Option (Nat×List (List PV))
 | .ts k e=>some (k,e)
 | .tc k e=>some (k,e)
 | .vec _ k e=>some (k,e)
 |_=>none
theorem zt1{S:St}{p:PV}{k:Nat}{els:List (List PV)}{v:Value}(h:zaG p=some (k,els))(hv:VRel S p v):VRel S (.ts k els) v:=by
 cases p<;>simp only[zaG,Option.some.injEq,Ys,reduceCtorEq] at h
 ·obtain⟨rfl,rfl⟩:=h;exact hv
 ·obtain⟨rfl,rfl⟩:=h;cases hv with|tc ht=>exact ht
 ·obtain⟨rfl,rfl⟩:=h;cases hv with|vec ht=>exact ht
def zk5{α:Type}[CK α](P:Program)(t:TypeId)(cs:List PV):Option (PV×α):=
 match xL P t,dD P t with
 |some s,some true=>some (.agg (cs.take s),CK.cnd (s<=cs.length))
 |some _,some false=>some (cs.getD 0 .un,CK.cnd (0<cs.length))
 |_,_=>none
def pI{α:Type}[CK α](P:Program)(t:TypeId):PV->Option (PV×α)
 | .nil=>if (wX P t).isSome then some (.sc (.int .i64 0),CK.cnd True) else none
 | .ts _ e=>if (wX P t).isSome then some (.sc (.int .i64 e.length),CK.cnd True) else none
 | .tc _ e=>if (wX P t).isSome then some (.sc (.int .i64 e.length),CK.cnd True) else none
 | .vec _ _ e=>if (wX P t).isSome then some (.sc (.int .i64 e.length),CK.cnd True) else none
 | .ms _ _ _ n=>if (wX P t).isSome then some (.sc (.int .i64 n),CK.cnd True) else none
 | .sc (.string s)=>if gJ P t then some (.sc (.int .i64 s.size),CK.cnd True) else none
 |_=>none
def yV{α:Type}[CK α]:Option PV->Nat->Nat->Option (Nat×α)
 |none,_,z=>some (z,CK.cnd True)
 |some (.sc (.int _ n)),d,_=>some (n.toNat,CK.cnd (0<=n/\n<=d))
 |_,_,_=>none
def yI{α:Type}[CK α](P:Program)(h:Heap)(f:Operand->PV):Op->Option (PV×α)
 | .move x=>some (f x,CK.cnd True)
 | .assign x=>some (f x,CK.cnd True)
 | .pick c a b=>match f c with
  | .sc (.bool t)=>some (dG t (f a) (f b),CK.cnd True)
  |_=>none
 | .nilCheck x=>match f x with
  | .ptr r o=>some (.ptr r o,CK.cnd True)
  | .tp cs=>some (.tp cs,CK.cnd True)
  | .fn (.func g) a b=>some (.fn (.func g) a b,CK.cnd True)
  | .fn (.via t s g p) a b=>some (.fn (.via t s g p) a b,CK.cnd True)
  | .yl r=>some (.yl r,CK.cnd True)
  | .ifc t p=>some (.ifc t p,CK.cnd True)
  |_=>none
 | .binOp op t x y _=>zcM P t op (f x) (f y)
 | .unOp op _ x=>match op,f x with
  | .not,.sc (.bool b)=>some (.sc (.bool !b),CK.cnd True)
  | .neg,.sc (.int k n)=>some (.sc (.int k (k.wrap (0-n))),CK.cnd True)
  | .xor,.sc (.int k n)=>some (.sc (.int k (bits .xor k (if k.signed then -1 else k.max) n)),CK.cnd True)
  |_,_=>none
 | .convert s d x=>match zeT P d,f x with
  |some k,.sc (.int _ n)=>if (P.underlying s).isSome then some (.sc (.int k (k.wrap n)),CK.cnd True) else none
  |_,.sc (.string b)=>if gJ P d/\(P.underlying s).isSome then some (.sc (.string b),CK.cnd True) else none
  |_,_=>none
 | .makeInterface t x=>if zg9 P t=some false then some (.ifc t (f x),CK.cnd True) else none
 | .makeFunc fn a b=>some (.fn fn (a.toList.map f) (b.toList.map f),CK.cnd True)
 | .field t x i=>match zR P t i,f x with
  |some (off,ft),.agg cs=>match xL P ft,dD P ft with
   |some s,some true=>some (.agg ((cs.drop off).take s),CK.cnd (off+s<=cs.length))
   |some _,some false=>some (cs.getD off .un,CK.cnd (off<cs.length))
   |_,_=>none
  |_,_=>none
 | .fieldAddr t x i=>match zR P t i,f x with
  |some (off,ft),.ptr r o=>match xL P ft with
   |some (_+1)=>some (.ptr r (o+off),CK.cnd True)
   |_=>none
  |some (off,ft),.tp cs=>match xL P ft with
   |some (_+1)=>some (.tp (cs.drop off),CK.cnd True)
   |_=>none
  |_,_=>none
 | .indexAddr t x i=>match f i with
  | .sc (.int _ n)=>match wX P t with
   |some e=>match zaG (f x),f x with
    |some (k,els),_=>if xL P e=some k then some (.tp (els.getD n.toNat []),CK.cnd (0<=n/\n<els.length)) else none
    |none,.ms r off k len=>if xL P e=some k then some (.ptr r (off+n.toNat*k),CK.cnd (0<=n/\n<len)) else none
    |_,_=>none
   | none=>match bR P t,f x with
    |some (len,e),.ptr r o=>match xL P e with
     |some k=>some (.ptr r (o+n.toNat*k),CK.cnd (0<=n/\n<len))
     |none=>none
    |some (len,e),.tp cs=>match xL P e with
     |some k=>some (.tp (cs.drop (n.toNat*k)),CK.cnd (0<=n/\n<len))
     |none=>none
    |_,_=>none
  |_=>none
 | .index t x i=>match f i with
  | .sc (.int _ n)=>match bR P t,f x with
   |some (len,e),.agg cs=>match xL P e,dD P e with
    |some s,some true=>some (.agg ((cs.drop (n.toNat*s)).take s),CK.cnd (0<=n/\n<len/\n.toNat*s+s<=cs.length))
    |some s,some false=>some (cs.getD (n.toNat*s) .un,CK.cnd (0<=n/\n<len/\n.toNat*s<cs.length))
    |_,_=>none
   |_,.sc (.string b)=>if gJ P t then some (.sc (.int .u8 (b.data.getD n.toNat 0).toNat),CK.cnd (0<=n/\n<b.size)) else none
   |_,_=>none
  |_=>none
 | .load t x=>match f x with
  | .tp cs=>zk5 P t cs
  | .ptr r o=>match h[r]? with
   |some (.var _ cs)=>zk5 P t (cs.drop o)
   |_=>none
  |_=>none
 | .extract x i=>match f x with
  | .tup vs=>some (vs.getD i .un,CK.cnd (i<vs.length))
  |_=>none
 | .slice t x lo hi mx=>match wX P t with
  | some e=>match zaG (f x) with
   | some (k,els)=>if xL P e=some k then
     match mx with
     | none=>match yV (hi.map f) els.length els.length with
      |some (b,c)=>match yV (lo.map f) b 0 with
       |some (a,c')=>some (.ts k ((els.take b).drop a),CK.both (CK.cnd (b<=els.length/\a<=b)) (CK.both c c'))
       |none=>none
      |none=>none
     | some m=>match yV (some (f m)) els.length 0 with
      | some (d,c0)=>match yV (hi.map f) d d with
       |some (b,c)=>match yV (lo.map f) b 0 with
        |some (a,c')=>some (.tc k ((els.take b).drop a),CK.both (CK.cnd (b=d/\d<=els.length/\a<=b/\hi.isSome)) (CK.both c0 (CK.both c c')))
        |none=>none
       |none=>none
      |none=>none
    else none
   |none=>none
  | none=>match bR P t,f x with
   |some (n,e),.ptr r o=>match xL P e,h[r]? with
    |some k,some (.var _ cs)=>if lo.isNone&&hi.isNone&&mx.isNone then some (.ms r o k n,CK.cnd (o+n*k<=cs.length/\n<=maxLen)) else none
    |_,_=>none
   |some (n,e),.tp cs=>if xL P e=some 1/\lo.isNone/\hi.isNone/\mx.isNone then some (.ts 1 (cs.map ([·])),CK.cnd (cs.length=n/\n<=maxLen)) else none
   | _,.sc (.string s)=>if gJ P t/\mx.isNone then
     match yV (hi.map f) s.size s.size with
     |some (b,c)=>match yV (lo.map f) b 0 with
      |some (a,c')=>some (.sc (.string (s.extract a b)),CK.both (CK.cnd (b<=s.size/\a<=b)) (CK.both c c'))
      |none=>none
     |none=>none
    else none
   |_,_=>none
 | .call c=>match c.callee,c.args.toList,c.argTypes.toList with
  | .builtin .len,[x],[t]=>pI P t (f x)
  | .builtin .max,[x,y],_=>match f x,f y with
   | .sc (.int k a),.sc (.int k' b)=>if k=k' then some (.sc (.int k (if b>a then b else a)),CK.cnd True) else none
   |_,_=>none
  | .builtin .min,[x,y],_=>match f x,f y with
   | .sc (.int k a),.sc (.int k' b)=>if k=k' then some (.sc (.int k (if b<a then b else a)),CK.cnd True) else none
   |_,_=>none
  |_,_,_=>none
 |_=>none
theorem za7(k:IntKind)(n:Int):k.min<=k.wrap n/\k.wrap n<=k.max:=by
 cases k<;>simp only[IntKind.wrap,IntKind.min,IntKind.max,IntKind.signed,IntKind.bits]<;>constructor<;>simp<;>(try split)<;>omega
theorem pC(k:IntKind)(n:Int):tJ (.int k (k.wrap n)):=za7 k n
theorem lB(op:BinOp)(k:IntKind)(a b:Int):tJ (.int k (bits op k a b)):=by
 unfold bits;exact za7 k _
theorem zbR(k:IntKind):k.min<=0:=by cases k<;>decide
theorem zbS(k:IntKind):0<=k.max:=by cases k<;>decide
theorem zi4{k:IntKind}{a b:Int}(h:tJ (.int k a)):tJ (.int k (a.tmod b)):=by
 simp only[tJ] at h ⊢
 have h1:=zbR k;have h2:=zbS k;rcases Int.le_total 0 a with ha|ha
 ·have p:=Int.tmod_nonneg b ha;have q:a.tmod b<=a:=by
   obtain⟨n,rfl⟩:=Qm ha;exact Qb3
  omega
 ·obtain⟨n,hn⟩:=Qm (Int.neg_nonneg_of_nonpos ha);have e:a= -(n:Int):=Qf3;subst e;rw[Int.neg_tmod];have:0<=(n:Int).tmod b:=Int.tmod_nonneg b Qf3;have q:(n:Int).tmod b<=n:=by
   exact Qb3
  omega
theorem zlR{k:IntKind}{a:Int}{m:Nat}(h:tJ (.int k a)):tJ (.int k (a / 2 ^ m)):=by
 simp only[tJ] at h ⊢
 have h1:=zbR k;have h2:=zbS k;have hp:(0:Int)<2 ^ m:=Int.pow_pos Qf3;rcases Int.le_total 0 a with ha|ha
 ·have p:0<=a / 2 ^ m:=Int.ediv_nonneg ha (Int.le_of_lt hp);have q:a / 2 ^ m<=a:=Int.ediv_le_self _ ha;omega
 ·have q:a / 2 ^ m<=0:=Int.ediv_nonpos_of_nonpos_of_neg ha hp;have p:a<=a / 2 ^ m:=by
   have h3:a*2 ^ m<=a:=by
    have:=Int.mul_nonneg (show 0<= -a by omega) (show 0<=(2:Int) ^ m-1 by omega);rw[Int.mul_sub,Int.neg_mul,Int.mul_one] at this;omega
   exact(Int.le_ediv_iff_mul_le hp).2 h3
  omega
theorem zuC(k yk:IntKind)(x y:Int)(h:0<=y):Op.shift .shl k x yk y=pure (.int k (k.wrap (x*2 ^ min y.toNat k.bits))):=by
 simp only[Op.shift];rw[Qi Qf3]
theorem vQ(k yk:IntKind)(x y:Int)(h:0<=y):Op.shift .shr k x yk y=pure (.int k (x / 2 ^ min y.toNat k.bits)):=by
 simp only[Op.shift];rw[Qi Qf3,Int.fdiv_eq_ediv_of_nonneg _ (Int.pow_nonneg Qf3)]
theorem nM(a b:ByteArray):(a.toList==b.toList)=decide (a=b):=by
 rw[Jn,Zm,Wz,ByteArray.toList_eq,ByteArray.toList_eq];constructor
 ·intro h;cases a;cases b;simpa using h
 ·rintro rfl;rfl
theorem rW{P:Program}{t:TypeId}(h:P.underlying t=some .bool)(d:Nat)(a b:Bool)(w:World):(Op.equalIn (d+1) t (.bool a) (.bool b)).run P w= .ok (a==b) w:=by
 simp only[Op.equalIn,Xp,Xc h,Xd,Yc]
theorem fT{P:Program}{t:TypeId}(h:P.underlying t=some .bool)(a b:Bool)(w:World):(binOp .eql t (.bool a) (.bool b)).run P w= .ok (.bool (a==b)) w:=by
 simp only[binOp,Op.equal,Op.maxDepth,Xp,rW h 9999,Xd,Yc]
theorem fR{P:Program}{t:TypeId}(h:P.underlying t=some .bool)(a b:Bool)(w:World):(binOp .neq t (.bool a) (.bool b)).run P w= .ok (.bool (a !=b)) w:=by
 simp only[binOp,Op.equal,Op.maxDepth,Xp,rW h 9999,Xd,Yc,bne]
theorem zkV{P:Program}{S:St}{op:BinOp}{t:TypeId}{x y:Operand}{p q r:PV}{c:Prop}{u v:Value}
  (h:zcM P t op p q=some (r,c)) (hc:c) (hu:VRel S p u) (hv:VRel S q v):
  ∃z,((do eqGuard op t x y u v;binOp op t u v:Sem Value)).run P S.w= .ok z S.w/\VRel S r z:=by
 unfold zcM at h;simp only[vL,wE] at h;split at h
 ·rename_i k a k' b;cases hu with|sc ha=>
  cases hv with|sc hb=>
  split at h
  ·cases h;refine⟨_,?_,.sc (pC _ _)⟩;simp[eqGuard_shl,binOp_shl,zuC _ _ _ _ hc]
  ·cases h;refine⟨_,?_,.sc (zlR ha)⟩;simp[eqGuard_shr,binOp_shr,vQ _ _ _ _ hc]
  all_goals
   split at h
   case isFalse=>cases h
   rename_i hk;subst hk;cases h
  ·exact⟨_,by simp[eqGuard_add,binOp_add,Op.intArith],.sc (pC _ _)⟩
  ·exact⟨_,by simp[eqGuard_sub,binOp_sub,Op.intArith],.sc (pC _ _)⟩
  ·exact⟨_,by simp[eqGuard_mul,binOp_mul,Op.intArith],.sc (pC _ _)⟩
  ·exact⟨_,by simp[eqGuard_quo,binOp_quo,Op.intDiv,hc],.sc (pC _ _)⟩
  ·exact⟨_,by simp[eqGuard_rem,binOp_rem,Op.intDiv,hc],.sc (zi4 ha)⟩
  ·exact⟨_,by simp[eqGuard_and,binOp_and,intBits_and],.sc (lB _ _ _ _)⟩
  ·exact⟨_,by simp[eqGuard_or,binOp_or,intBits_or],.sc (lB _ _ _ _)⟩
  ·exact⟨_,by simp[eqGuard_xor,binOp_xor,intBits_xor],.sc (lB _ _ _ _)⟩
  ·exact⟨_,by simp[eqGuard_andNot,binOp_andNot,intBits_andNot],.sc (lB _ _ _ _)⟩
  ·exact⟨_,by simp[eqGuard_at_int,binOp_eql],.sc trivial⟩
  ·exact⟨_,by simp[eqGuard_at_int,binOp_neq],.sc trivial⟩
  ·exact⟨_,by simp[eqGuard_lss,binOp_lss],.sc trivial⟩
  ·exact⟨_,by simp[eqGuard_leq,binOp_leq],.sc trivial⟩
  ·exact⟨_,by simp[eqGuard_gtr,binOp_gtr],.sc trivial⟩
  ·exact⟨_,by simp[eqGuard_geq,binOp_geq],.sc trivial⟩
 ·rename_i a b;cases hu;cases hv;have bl:bW P t=true->P.underlying t=some .bool:=fun hb=>by
   unfold bW at hb;split at hb
   ·assumption
   ·cases hb
  split at h
  ·split at h
   ·rename_i hb;cases h;exact⟨_,by simp[eqGuard_at_bool,fT (bl hb)],.sc trivial⟩
   ·cases h
  ·split at h
   ·rename_i hb;cases h;exact⟨.bool (a !=b),by simp[eqGuard_at_bool,fR (bl hb)],.sc trivial⟩
   ·cases h
  ·cases h
 ·rename_i a b;cases hu;cases hv;split at h
  ·cases h;exact⟨.bool (decide (a=b)),by rw[<-nM];simp[eqGuard_at_string,binOp,Op.stringOp],.sc trivial⟩
  ·cases h;exact⟨.bool (!decide (a=b)),by rw[<-nM];simp[eqGuard_at_string,binOp,Op.stringOp],.sc trivial⟩
  ·cases h
 ·cases h
section
variable{P:Program}{S:St}
theorem oG{t:TypeId}{b:Bool}(h:dD P t=some b)(w:World):(isAgg t).run P w= .ok b w:=by
 unfold dD at h;cases hd:P.underlying t with
 |none=>rw[hd] at h;cases h
 |some d=>
  rw[hd] at h;simp only[isAgg,Xp,Xc hd,Xd];cases d<;>simp at h<;>subst h<;>rfl
theorem zV{t:TypeId}{s:Nat}(hs:xL P t=some s)(w:World):(sizeOf t).run P w= .ok s w:=by
 unfold xL at hs;cases hi:P.info? t with
 |none=>rw[hi] at hs;cases hs
 |some i=>
  rw[hi] at hs;simp only[Wi,Option.some.injEq] at hs;subst hs;simp[sizeOf,typeInfo,hi]
theorem fS{a:Addr}(val:Nat->Value): ∀(n i:Nat)(acc:Array Value)(w:World),(∀j,i<=j->j<i+n->w.cell? (a.add j)=some (val j))->
  (loadCellsFrom a i n acc).run P w= .ok (acc++((List.range' i n).map val).toArray) w:=by
 intro n
 induction n with
 |zero=>intro i acc w _;simp[loadCellsFrom]
 |succ n ih=>
  intro i acc w h;simp only[loadCellsFrom,Xp,run_load,h i (Xe _) Qf3,Xd];rw[ih (i+1) _ w (fun j hj hj'=>h j Qf3 Qf3)];simp[List.range'_succ]
theorem sS{t:TypeId}{a:Addr}{cs:List PV}{p:PV}{c:Prop}(val:Nat->Value)
  (hv: ∀j,j<cs.length->S.w.cell? (a.add j)=some (val j)/\(val j).oneCell'=true) (h: ∀(j:Nat)(p:PV),cs[j]? =some p->VRel S p (val j))
  (he:zk5 P t cs=some (p,c)) (hc:c): ∃v,(loadVar t a).run P S.w= .ok v S.w/\VRel S p v:=by
 unfold zk5 at he;simp only[vL,wE] at he;split at he
 ·rename_i s hs hg;cases he;refine⟨.agg ((List.range' 0 s).map val).toArray,?_,?_⟩
  ·simp only[loadVar,Xp,oG hg,Xd,Wk,zV hs,loadCells];rw[fS val s 0 #[] S.w (fun j _ hj=>(hv j Qf3).1)];simp
  ·refine .agg Qfk (fun i v hi=> ?_) (fun i p v hp hi=> ?_)
   ·simp at hi;obtain⟨k,hk,rfl⟩:=hi;obtain⟨hj,rfl⟩:=gsi hk;simp at hj ⊢
    exact(hv i Qf3).2
   ·simp at hi;obtain⟨k,hk,rfl⟩:=hi;obtain⟨hj,rfl⟩:=gsi hk;simp at hj ⊢
    rw[Xr,Qj hj] at hp;exact h i p hp
 ·rename_i s hs hg;cases he;refine⟨val 0,?_,?_⟩
  ·have:=(hv 0 hc).1;rw[Addr.add_zero'] at this;simp[loadVar,oG hg,run_load,this]
  ·have:cs[0]? =some cs[0]:=Qa hc;have e:cs.getD 0 .un=cs[0]:=by rw[Qb,this];rfl
   rw[e];exact h 0 _ this
 ·cases he
end
end Go.AL
namespace Go.AL
open Go.RowKit
section
variable{P:Program}{S:St}
theorem VRel.agg_inv{cs:List PV}{v:Value}(h:VRel S (.agg cs) v): ∃vs:Array Value,v= .agg vs/\vs.size=cs.length/\(∀(i:Nat)(u:Value),vs[i]? =some u->u.oneCell'=true)/\
  ∀(i:Nat)(p:PV)(u:Value),cs[i]? =some p->vs[i]? =some u->VRel S p u:=by
 cases h with|agg hl h1 h=>exact⟨_,rfl,hl,h1,h⟩
theorem nN{t:TypeId}{i off:Nat}{ft:TypeId}(h:zR P t i=some (off,ft)): ∃(fs:Array Field)(f:Field),P.underlying t=some (.struct fs)/\fs[i]? =some f/\f.offset=off/\f.type=ft:=by
 unfold zR at h;split at h
 ·rename_i fs hu;cases hf:fs[i]? with
  |none=>rw[hf] at h;cases h
  |some f=>rw[hf] at h;simp at h;exact⟨fs,f,hu,hf,h.1,h.2⟩
 ·cases h
theorem tS{t e:TypeId}(h:wX P t=some e):P.underlying t=some (.slice e):=by
 unfold wX at h;exact Qel
theorem pY{t e:TypeId}{n:Nat}(h:bR P t=some (n,e)):P.underlying t=some (.array n e):=by
 unfold bR at h;exact Qel
theorem qL{t:TypeId}(h:gJ P t=true):P.underlying t=some .string:=by
 unfold gJ at h;split at h
 ·assumption
 ·cases h
theorem cK{t:TypeId}{k:IntKind}(h:zeT P t=some k):P.underlying t=some (.int k):=by
 unfold zeT at h;exact Qel
theorem lA{t:TypeId}{cs:List PV}{vs:Array Value}{off:Nat}{p:PV}{c:Prop}(hl:vs.size=cs.length)(h1: ∀(i:Nat)(u:Value),vs[i]? =some u->u.oneCell'=true)
  (h: ∀(i:Nat)(p:PV)(u:Value),cs[i]? =some p->vs[i]? =some u->VRel S p u)
  (he:(match xL P t,dD P t with
   |some s,some true=>some (PV.agg ((cs.drop off).take s),off+s<=cs.length)
   |some _,some false=>some (cs.getD off .un,off<cs.length)
   |_,_=>none)=some (p,c)) (hc:c): ∃v,(part t vs off).run P S.w= .ok v S.w/\VRel S p v:=by
 split at he
 ·rename_i s hs hg;cases he;refine⟨.agg (vs.extract off (off+s)),by simp[part,oG hg,zV hs],.agg Qfk (fun i u hu=> ?_) (fun i p u hp hu=> ?_)⟩
  ·rw[Array.getElem?_extract] at hu;split at hu
   ·exact h1 _ u hu
   ·cases hu
  ·rw[Array.getElem?_extract] at hu;split at hu
   ·rw[Xr] at hp;split at hp
    ·rw[Yg] at hp;exact h _ p u hp hu
    ·cases hp
   ·cases hu
 ·rename_i s hs hg;cases he;have hv:vs[off]? =some vs[off]:=Qx Qf3;have hp:cs[off]? =some cs[off]:=Qa hc;refine⟨vs[off],by simp[part,oG hg,hv],?_⟩;rw[Qb,hp];exact h _ _ _ hp hv
 ·cases he
theorem zf6{t:TypeId}{i:Nat}{p q:PV}{c:Prop}{u:Value} (he:(match zR P t i,q with
   |some (off,ft),.agg cs=>(match xL P ft,dD P ft with
    |some s,some true=>some (PV.agg ((cs.drop off).take s),off+s<=cs.length)
    |some _,some false=>some (cs.getD off .un,off<cs.length)
    |_,_=>none)
   |_,_=>none)=some (p,c)) (hc:c) (hu:VRel S q u): ∃v,(Instr.field t u i).run P S.w= .ok v S.w/\VRel S p v:=by
 split at he
 ·rename_i off ft cs ht;obtain⟨fs,f,hus,hf,rfl,rfl⟩:=nN ht;obtain⟨vs,rfl,hl,h1,h⟩:=hu.agg_inv;obtain⟨v,hv,hr⟩:=lA (P:=P) hl h1 h he hc;exact⟨v,by simp[Instr.field,Xc hus,hf,asAgg,hv],hr⟩
 ·cases he
theorem dA(a:Addr)(i j:Nat):(a.add i).add j=a.add (i+j):=by
 unfold Addr.add;by_cases hi:i=0<;>by_cases hj:j=0<;>simp[hi,hj,Ji]
theorem zbA{cs:List PV}{a:Addr}(h:VRel S (.tp cs) (.pointer (some a)))(n:Nat):VRel S (.tp (cs.drop n)) (.pointer (some (a.add n))):=by
 cases h with
 |tp val hv h=>
  refine .tp (fun j=>val (n+j)) (fun j hj=> ?_) (fun j p hp=> ?_)
  ·rw[dA];exact hv _ (by simp at hj;omega)
  ·rw[Yg] at hp;exact h _ p hp
theorem fY{t:TypeId}{i:Nat}{p q:PV}{c:Prop}{u:Value} (he:(match zR P t i,q with
  |some (off,ft),.ptr r o=>(match xL P ft with
   |some (_+1)=>some (PV.ptr r (o+off),True)
   |_=>none)
  |some (off,ft),.tp cs=>(match xL P ft with
   |some (_+1)=>some (PV.tp (cs.drop off),True)
   |_=>none)
  |_,_=>none)=some (p,c)) (hu:VRel S q u): ∃v,(Instr.fieldAt t u i).run P S.w= .ok v S.w/\VRel S p v:=by
 split at he
 ·rename_i off ft r o ht;obtain⟨fs,f,hus,hf,rfl,rfl⟩:=nN ht;split at he
  ·rename_i s hs;cases he;cases hu with
   |ptr hp hb=>
    refine⟨_,?_,.ptr hp hb⟩;simp[Instr.fieldAt,Xc hus,hf,Instr.sureAddr,fieldPlace,zV hs,Addr.add_lit]
   |optr hb=>
    rename_i a;refine⟨.pointer (some (a.add f.offset)),?_,.optr hb⟩;simp[Instr.fieldAt,Xc hus,hf,Instr.sureAddr,fieldPlace,zV hs]
  ·cases he
 ·rename_i off ft cs ht;obtain⟨fs,f,hus,hf,rfl,rfl⟩:=nN ht;split at he
  ·rename_i s hs;cases he;have hu':=hu;cases hu with
   |tp val hv h=>
    refine⟨_,?_,zbA hu' f.offset⟩;simp[Instr.fieldAt,Xc hus,hf,Instr.sureAddr,fieldPlace,zV hs]
  ·cases he
 ·cases he
theorem uU{k:Nat}{els:List (List PV)}{v:Value}(h:VRel S (.ts k els) v): ∃(a:Option Addr)(c:Nat)(ad:Addr)(val:Nat->Value),v= .slice a els.length c/\els.length<=c/\c<=maxLen/\
  (∀(i:Nat)(e:List PV),els[i]? =some e->e.length=k)/\(els.length≠0->a=some ad)/\(∀j,j<els.length*k->S.M (ad.add j) (val j))/\
  ∀(i:Nat)(e:List PV)(j:Nat)(p:PV),els[i]? =some e->e[j]? =some p->VRel S p (val (i*k+j)):=by
 cases h with
 |ts hl hc hm hk ad ha val hv h=>subst hl;exact⟨_,_,ad,val,rfl,hc,hm,hk,ha,hv,h⟩
theorem ziM{k:Nat}{els:List (List PV)}{e:List PV}{i:Nat}{ad:Addr}{val:Nat->Value}(hk: ∀(i:Nat)(e:List PV),els[i]? =some e->e.length=k)
  (hv: ∀j,j<els.length*k->S.M (ad.add j) (val j)) (h: ∀(i:Nat)(e:List PV)(j:Nat)(p:PV),els[i]? =some e->e[j]? =some p->VRel S p (val (i*k+j)))
  (hi:els[i]? =some e):VRel S (.tp e) (.pointer (some (ad.add (i*k)))):=by
 have hil:i<els.length:=(gsi hi).1;refine .tp (fun j=>val (i*k+j)) (fun j hj=> ?_) (fun j p hp=>h i e j p hi hp);rw[dA];rw[hk i e hi] at hj;refine hv _ ?_;have:(i+1)*k<=els.length*k:=Zw k hil;rw[Wo,Nat.one_mul] at this;omega
theorem fX{t:TypeId}{p q r:PV}{c:Prop}{u v:Value} (he:(match r with
  | .sc (.int _ n)=>(match wX P t with
   |some e=>(match zaG q,q with
    |some (k,els),_=>if xL P e=some k then some (PV.tp (els.getD n.toNat []),0<=n/\n<els.length) else none
    |none,.ms r off k len=>if xL P e=some k then some (.ptr r (off+n.toNat*k),0<=n/\n<len) else none
    |_,_=>none)
   | none=>(match bR P t,q with
    |some (len,e),.ptr r o=>(match xL P e with
     |some k=>some (PV.ptr r (o+n.toNat*k),0<=n/\n<len)
     |none=>none)
    |some (len,e),.tp cs=>(match xL P e with
     |some k=>some (PV.tp (cs.drop (n.toNat*k)),0<=n/\n<len)
     |none=>none)
    |_,_=>none))
  |_=>none)=some (p,c)) (hc:c) (hu:VRel S q u) (hv:VRel S r v): ∃z,(Instr.indexAt t u v).run P S.w= .ok z S.w/\VRel S p z:=by
 split at he
 case h_2=>cases he
 rename_i ik n;cases hv with|sc hn=>
 split at he
 ·rename_i e hte;have hus:=tS hte;split at he
  ·rename_i k els hq;split at he
   case isFalse=>cases he
   rename_i hs;cases he;obtain⟨a,cc,ad,val,rfl,h1,h2,h3,h4,h5,h6⟩:=uU (zt1 hq hu);obtain⟨m,rfl⟩:=Qm hc.1;have hm:m<els.length:=Qf3;have ha:=h4 Qf3;subst ha;have hg:els[m]? =some els[m]:=Qa hm;refine⟨.pointer (some (ad.add (m*k))),?_,?_⟩
   ·simp[Instr.indexAt,asIntOf,Xc hus,hm,zV hs]
   ·rw[Qb,Xw,hg];exact ziM h3 h5 h6 hg
  ·rename_i rr off k len hq;split at he
   case isFalse=>cases he
   rename_i hs;cases he;cases hu with
   |ms hp hb hl hcc hm _=>
    obtain⟨m,rfl⟩:=Qm hc.1;have hml:m<len:=Qf3;refine⟨_,?_,.ptr hp hb⟩;simp[Instr.indexAt,asIntOf,Xc hus,hml,zV hs,Addr.add_lit]
   |oms hb hcc hm=>
    obtain⟨m,rfl⟩:=Qm hc.1;have hml:m<len:=Qf3;rename_i a;refine⟨.pointer (some (a.add (m*k))),?_,.optr hb⟩;simp[Instr.indexAt,asIntOf,Xc hus,hml,zV hs]
  ·cases he
 ·split at he
  ·rename_i len e rr o hta;have hus:=pY hta;split at he
   ·rename_i k hs;cases he;cases hu with
    |ptr hp hb=>
     obtain⟨m,rfl⟩:=Qm hc.1;have hml:m<len:=Qf3;refine⟨_,?_,.ptr hp hb⟩;simp[Instr.indexAt,asIntOf,Xc hus,hml,zV hs,Addr.add_lit,Instr.sureAddr]
    |optr hb=>
     obtain⟨m,rfl⟩:=Qm hc.1;have hml:m<len:=Qf3;rename_i a;refine⟨.pointer (some (a.add (m*k))),?_,.optr hb⟩;simp[Instr.indexAt,asIntOf,Xc hus,hml,zV hs,Instr.sureAddr]
   ·cases he
  ·rename_i len e cs hta;have hus:=pY hta;split at he
   ·rename_i k hs;cases he;have hu':=hu;cases hu with
    |tp val hv h=>
     obtain⟨m,rfl⟩:=Qm hc.1;have hml:m<len:=Qf3;refine⟨_,?_,zbA hu' (m*k)⟩;simp[Instr.indexAt,asIntOf,Xc hus,hml,zV hs,Instr.sureAddr]
   ·cases he
  ·cases he
theorem zjC(hS:SRel S){t:TypeId}{p q:PV}{c:Prop}{u:Value} (he:(match q with
  | .tp cs=>zk5 P t cs
  | .ptr r o=>(match S.h[r]? with
   |some (.var _ cs)=>zk5 P t (cs.drop o)
   |_=>none)
  |_=>none)=some (p,c)) (hc:c) (hu:VRel S q u): ∃z,(Instr.loadAt t u).run P S.w= .ok z S.w/\VRel S p z:=by
 split at he
 ·rename_i cs;cases hu with
  |tp val hv h=>
   obtain⟨z,hz,hr⟩:=sS (S:=S) (P:=P) val (fun j hj=>⟨(hv j hj).1,(hv j hj).2.1⟩) h he hc;exact⟨z,by simp[Instr.loadAt,Instr.sureAddr,hz],hr⟩
 ·rename_i r o;split at he
  ·rename_i tt cs hb;cases hu with
   | ptr hp hb'=>
    rename_i b _ _;obtain⟨b',arr,hbe,hh,hl,h1,hcs⟩:=hS.blks r _ _ hb hp;cases hbe;have hcell: ∀j,j<(cs.drop o).length->S.w.cell? ((⟨b,o,none⟩:Addr).add j)=some (arr.getD (o+j) undef):=fun j hj=>by
     simp at hj;rw[Addr.add_lit,cell_of_row _ _ _ _ _ _ hh];have:o+j<arr.size:=Qf3;simp[Array.getD,this]
    have harr: ∀j,j<(cs.drop o).length->arr[o+j]? =some (arr.getD (o+j) undef):=fun j hj=>by
     simp at hj;have:o+j<arr.size:=Qf3;simp[Array.getD,this]
    obtain⟨z,hz,hr⟩:=sS (S:=S) (P:=P) (a:=⟨b,o,none⟩) (cs:=cs.drop o) (fun j=>arr.getD (o+j) undef) (fun j hj=>⟨hcell j hj,h1 _ _ (harr j hj)⟩)
     (fun j p hp=>hcs (o+j) p _ (by rw[Yg] at hp;exact hp) (harr j (gsi hp).1)) he hc
    exact⟨z,by simp[Instr.loadAt,Instr.sureAddr,hz],hr⟩
   |optr hb'=>rw[hb] at hb';cases hb'
  ·cases he
 ·cases he
end
end Go.AL
namespace Go.AL
open Go.RowKit
section
variable{P:Program}{S:St}
theorem zf0{t:TypeId}{p q r:PV}{c:Prop}{u v:Value} (he:(match r with
  | .sc (.int _ n)=>(match bR P t,q with
   |some (len,e),.agg cs=>(match xL P e,dD P e with
    |some s,some true=>some (PV.agg ((cs.drop (n.toNat*s)).take s),0<=n/\n<len/\n.toNat*s+s<=cs.length)
    |some s,some false=>some (cs.getD (n.toNat*s) .un,0<=n/\n<len/\n.toNat*s<cs.length)
    |_,_=>none)
   |_,.sc (.string b)=>if gJ P t then some (PV.sc (.int .u8 (b.data.getD n.toNat 0).toNat),0<=n/\n<b.size) else none
   |_,_=>none)
  |_=>none)=some (p,c)) (hc:c) (hu:VRel S q u) (hv:VRel S r v): ∃z,(Instr.index t u v).run P S.w= .ok z S.w/\VRel S p z:=by
 split at he
 case h_2=>cases he
 rename_i ik n;cases hv with|sc hn=>
 split at he
 ·rename_i len e cs hta;have hus:=pY hta;obtain⟨vs,rfl,hl,h1,h⟩:=hu.agg_inv;split at he
  ·rename_i s hs hg;cases he;obtain⟨h0,h2,h3⟩:=hc;obtain⟨m,rfl⟩:=Qm h0;rw[Xw] at h3;obtain⟨z,hz,hr⟩:=lA (P:=P) (S:=S) (t:=e) (off:=m*s) (p:= .agg ((cs.drop (m*s)).take s)) (c:=m*s+s<=cs.length) hl h1 h (by rw[hs,hg]) h3;exact Qcr
  ·rename_i s hs hg;cases he;obtain⟨h0,h2,h3⟩:=hc;obtain⟨m,rfl⟩:=Qm h0;rw[Xw] at h3;obtain⟨z,hz,hr⟩:=lA (P:=P) (S:=S) (t:=e) (off:=m*s) (p:=cs.getD (m*s) .un) (c:=m*s<cs.length) hl h1 h (by rw[hs,hg]) h3;exact Qcr
  ·cases he
 ·split at he
  case isFalse=>cases he
  rename_i b hs;cases he;cases hu with|sc hb=>
  obtain⟨h0,h2⟩:=hc;obtain⟨m,rfl⟩:=Qm h0;have hm:m<b.size:=Qf3;have hg:b[m]? =some (b.data.getD m 0):=by
   have:m<b.data.size:=hm;rw[getElem?_pos b m hm,Array.getD,dif_pos this];rfl
  refine⟨_,by simp[Instr.index,asIntOf,Xc (qL hs),hg],.sc ?_⟩;have:=(b.data.getD m 0).toNat_lt;simp only[tJ,Xw];generalize (b.data.getD m 0).toNat=y at this ⊢
  exact⟨by simp[IntKind.min,IntKind.signed],by simp[IntKind.max,IntKind.signed,IntKind.bits];omega⟩
 ·cases he
theorem zlX{t ty:TypeId}{p q:PV}{c:Prop}{u:Value}(he:pI P t q=some (p,c))(hu:VRel S q u):
  ∃z,(Builtin.len_ #[t] ty #[u]).run P S.w= .ok z S.w/\VRel S p z:=by
 have sl: ∀{a:Option Addr}{n cc:Nat}{e:TypeId},wX P t=some e->n<=maxLen->u= .slice a n cc-> ∃z,(Builtin.len_ #[t] ty #[u]).run P S.w= .ok z S.w/\VRel S (.sc (.int .i64 n)) z:=by
  intro a n cc e ht hn hu;subst hu;refine⟨.int .i64 n,by simp[Builtin.len_,Xc (tS ht),goInt],.sc ?_⟩;simp only[maxLen] at hn;exact⟨by simp[IntKind.min,IntKind.signed,IntKind.bits]<;>omega,by simp[IntKind.max,IntKind.signed,IntKind.bits]<;>omega⟩
 cases q<;>simp only[pI,vL,wE,reduceCtorEq] at he<;>(try cases he)
 case sc v=>
  cases v<;>simp only[reduceCtorEq] at he;rename_i s;split at he
  case isFalse=>cases he
  rename_i ht;cases he;cases hu with|sc hs=>
  refine⟨.int .i64 s.size,by simp[Builtin.len_,Xc (qL ht),goInt],.sc ?_⟩;simp only[tJ,maxLen] at hs ⊢
  exact⟨by simp[IntKind.min,IntKind.signed,IntKind.bits]<;>omega,by simp[IntKind.max,IntKind.signed,IntKind.bits]<;>omega⟩
 all_goals
  split at he
  case isFalse=>cases he
  rename_i ht;obtain⟨e,ht⟩:=Wa.1 ht;cases he
 ·cases hu;exact sl ht (Yn _) rfl
 ·obtain⟨a,cc,ad,val,rfl,h1,h2,_⟩:=uU hu;exact sl ht (Ya h1 h2) rfl
 ·cases hu with|tc hu=>obtain⟨a,cc,ad,val,hv,h1,h2,_⟩:=uU hu;exact sl ht (Ya h1 h2) hv
 ·cases hu with|vec hu=>obtain⟨a,cc,ad,val,rfl,h1,h2,_⟩:=uU hu;exact sl ht (Ya h1 h2) rfl
 ·cases hu with
  |ms hp hb hl hcc hm _=>exact sl ht (Ya hcc hm) rfl
  |oms hb hcc hm=>exact sl ht (Ya hcc hm) rfl
def ORel(S:St):Option PV->Option Value->Prop
 |none,none=>True
 |some p,some v=>VRel S p v
 |_,_=>False
theorem oE{q:Option PV}{d z n:Nat}{c:Prop}{x:Option Value}(he:yV q d z=some (n,c))(hc:c)(hx:ORel S q x):
  (q=none/\x=none/\n=z)\/ ∃(k:IntKind),x=some (.int k n)/\n<=d:=by
 unfold yV at he;simp only[vL,wE] at he;split at he
 ·cases he;cases x with
  |none=>exact .inl ⟨rfl,rfl,rfl⟩
  |some v=>exact hx.elim
 ·rename_i k m;cases he;cases x with
  |none=>exact hx.elim
  |some v=>
   simp only[ORel] at hx;cases hx with|sc h=>
   obtain⟨j,rfl⟩:=Qm hc.1;exact .inr ⟨k,Qf4,Qf3⟩
 ·cases he
theorem vS{k:IntKind}{n d:Nat}(h:n<=d)(code:BoundsCode)(w:World):(Instr.sliceBound (.int k n) d code).run P w= .ok n w:=by
 have:(n:Int)<=d:=Qf3;simp[Instr.sliceBound,asIntOf,this]
theorem rS{f:Operand->PV}{ρ:Operand->Value}{x:Option Operand}(h: ∀o,x=some o->VRel S (f o) (ρ o)):ORel S (x.map f) (x.map ρ):=by
 cases x with
 |none=>trivial
 |some o=>exact h o rfl
theorem pU{isS:Bool}{len cap:Nat}{qh ql:Option PV}{lo hi:Option Value}{a b:Nat}{c c':Prop}(hlc:len<=cap)(heh:yV qh len len=some (b,c))(hel:yV ql b 0=some (a,c'))
  (hc:c) (hc':c') (hh:ORel S qh hi) (hl:ORel S ql lo):
  (Instr.sliceBounds isS len cap lo hi none).run P S.w= .ok (a,b,cap) S.w/\a<=b/\b<=len:=by
 rcases oE heh hc hh with ⟨_,rfl,rfl⟩|⟨k,rfl,hb⟩<;>rcases oE hel hc' hl with ⟨_,rfl,rfl⟩|⟨k',rfl,ha⟩
 ·exact⟨by simp[Instr.sliceBounds],Yn _,Xe _⟩
 ·exact⟨by simp[Instr.sliceBounds,vS ha],ha,Xe _⟩
 ·exact⟨by simp[Instr.sliceBounds,vS (Ya hb hlc)],Yn _,hb⟩
 ·exact⟨by simp[Instr.sliceBounds,vS (Ya hb hlc),vS ha],ha,hb⟩
theorem lX{len cap:Nat}{qh ql:Option PV}{qm:PV}{lo hi:Option Value}{mx:Value}{a b d:Nat}{c0 c c':Prop}(hlc:len<=cap)(hem:yV (some qm) len 0=some (d,c0))(heh:yV qh d d=some (b,c))(hel:yV ql b 0=some (a,c'))
  (hc0:c0) (hc:c) (hc':c') (hm:VRel S qm mx) (hh:ORel S qh hi) (hl:ORel S ql lo) (hn:hi.isSome=true):
  (Instr.sliceBounds true len cap lo hi (some mx)).run P S.w= .ok (a,b,d) S.w/\a<=b/\b<=d/\d<=len:=by
 rcases oE (x:=some mx) hem hc0 hm with ⟨h,_⟩|⟨k0,h0,hd⟩
 ·cases h
 ·cases h0;rcases oE heh hc hh with ⟨_,rfl,rfl⟩|⟨k,rfl,hb⟩
  ·cases hn
  ·rcases oE hel hc' hl with ⟨_,rfl,rfl⟩|⟨k',rfl,ha⟩
   ·exact⟨by simp[Instr.sliceBounds,vS (Ya hd hlc),vS hb],Yn _,hb,hd⟩
   ·exact⟨by simp[Instr.sliceBounds,vS (Ya hd hlc),vS hb,vS ha],ha,hb,hd⟩
theorem zg8{k:Nat}{els:List (List PV)}{a:Option Addr}{c l h m:Nat}(hv:VRel S (.ts k els) (.slice a els.length c))(hl:l<=h)(hh:h<=els.length)(hm:h<=m)(hmc:m<=c):
  VRel S (.ts k ((els.take h).drop l)) (.slice (if m=l then a else a.map (·.add (l*k))) (h-l) (m-l)):=by
 obtain⟨a',c',ad,val,he,h1,h2,h3,h4,h5,h6⟩:=uU hv;cases he;have hget: ∀i e,((els.take h).drop l)[i]? =some e->els[l+i]? =some e:=fun i e hi=>by
  rw[Yg,Xr] at hi;split at hi
  ·exact hi
  ·cases hi
 have hlen:((els.take h).drop l).length=h-l:=Qfk;refine .ts hlen Qf3 Qf3 (fun i e hi=>h3 _ e (hget i e hi)) (ad.add (l*k)) (fun hn=> ?_) (fun j=>val (l*k+j)) (fun j hj=> ?_) (fun i e j p hi hp=> ?_)
 ·rw[Qi Qf3,h4 Qf3];rfl
 ·rw[dA];refine h5 _ ?_;have:h*k<=els.length*k:=Zw k hh;rw[Nat.sub_mul] at hj;omega
 ·have:=h6 (l+i) e j p (hget i e hi) hp
  rwa [Wo,Ji] at this
theorem fV{s:ByteArray}(a b:Nat)(h:tJ (.string s)):tJ (.string (s.extract a b)):=by
 simp only[tJ] at h ⊢
 rw[ByteArray.size_extract];omega
theorem zfG(hS:SRel S){t:TypeId}{f:Operand->PV}{ρ:Operand->Value}{x:Operand}{lo hi mx:Option Operand}{p:PV}{c:Prop}(he:yI P S.h f (.slice t x lo hi mx)=some (p,c))(hc:c)
  (hx:VRel S (f x) (ρ x)) (hlo: ∀o,lo=some o->VRel S (f o) (ρ o)) (hhi: ∀o,hi=some o->VRel S (f o) (ρ o)) (hmx: ∀o,mx=some o->VRel S (f o) (ρ o)):
  ∃z,(Instr.sliceAt t (ρ x) (lo.map ρ) (hi.map ρ) (mx.map ρ)).run P S.w= .ok z S.w/\VRel S p z:=by
 simp only[yI,vL,wE] at he;split at he
 ·rename_i e hte;have hus:=tS hte;split at he
  case h_2=>cases he
  rename_i k els hq;split at he
  case isFalse=>cases he
  rename_i hs;have hx':=zt1 hq hx;obtain⟨a0,c0,ad,val,hv0,h1,h2,_⟩:=uU hx';rw[hv0] at hx' ⊢
  split at he
  ·split at he
   case h_2=>cases he
   rename_i b cb hb;split at he
   case h_2=>cases he
   rename_i a ca ha;cases he;obtain⟨⟨zoK,zxI⟩,hc3,hc4⟩:=hc;obtain⟨hr,hab,hbl⟩:=pU (S:=S) (P:=P) (isS:=true) h1 hb ha hc3 hc4 (rS hhi) (rS hlo);refine⟨_,?_,zg8 hx' hab hbl (Ya hbl h1) (Xe _)⟩;simp[Instr.sliceAt,Instr.slice,Xc hus,hr,zV hs]
  ·rename_i m;split at he
   case h_2=>cases he
   rename_i d cd hd;split at he
   case h_2=>cases he
   rename_i b cb hb;split at he
   case h_2=>cases he
   rename_i a ca ha;cases he;obtain⟨⟨zoK,zxI,hc3,hc4⟩,hc5,hc6,hc7⟩:=hc;obtain⟨hr,hab,hbd,hdl⟩:=lX (S:=S) (P:=P) h1 hd hb ha hc5 hc6 hc7 (hmx m rfl) (rS hhi) (rS hlo) (by simpa using hc4);subst zoK;refine⟨_,?_,.tc (zg8 (m:=b) hx' hab hdl (Xe _) (Ya hdl h1))⟩;simp[Instr.sliceAt,Instr.slice,Xc hus,hr,zV hs]
 ·split at he
  ·rename_i n e r o hta hfx;have hus:=pY hta;split at he
   case h_2=>cases he
   rename_i k tt cs hs hb;split at he
   case isFalse=>cases he
   rename_i hno;cases he;simp only[Qt,Option.isNone_iff_eq_none] at hno;obtain⟨⟨rfl,rfl⟩,rfl⟩:=hno;rw[hfx] at hx;generalize ρ x=u at hx ⊢
   cases hx with
   |ptr hp hb'=>
    rename_i b _ _;rw[hb] at hb';cases hb';obtain⟨b0,arr0,he0,hh0,hsz0,_⟩:=hS.blks _ _ _ hb hp;cases he0;refine⟨.slice (some ⟨b,o,none⟩) n n,?_,.ms hp hb hc.1 (Xe _) hc.2 ⟨arr0,_,_,hh0,Ya hc.1 hsz0⟩⟩;cases n with
    |zero=>simp[Instr.sliceAt,Xc hus,Instr.sureAddr,Instr.sliceBounds,zV hs]
    |succ n=>simp[Instr.sliceAt,Xc hus,Instr.sureAddr,Instr.sliceBounds,zV hs,Addr.add_zero']
   |optr hb'=>rw[hb] at hb';cases hb'
  ·rename_i n e cs hta hfx;have hus:=pY hta;split at he
   case isFalse=>cases he
   rename_i hno;cases he;obtain⟨hs,h1,h2,h3⟩:=hno;simp only[Option.isNone_iff_eq_none] at h1 h2 h3;subst h1;subst h2;subst h3;rw[hfx] at hx;generalize ρ x=u at hx ⊢
   cases hx with
   | tp val hv h=>
    rename_i a;obtain⟨zoK,zxI⟩:=hc;subst zoK;refine⟨.slice (some a) cs.length cs.length,?_,.ts Qf4 (Xe _) zxI (fun i e hi=> ?_) a (fun _=>rfl) val (fun j hj=>hv j Qf3) (fun i e j p hi hp=> ?_)⟩
    ·cases hn:cs.length with
     |zero=>simp[Instr.sliceAt,Xc hus,Instr.sureAddr,Instr.sliceBounds,zV hs,hn]
     |succ n=>simp[Instr.sliceAt,Xc hus,Instr.sureAddr,Instr.sliceBounds,zV hs,Addr.add_zero',hn]
    ·rw[Qu] at hi;cases hk:cs[i]? with
     |none=>rw[hk] at hi;cases hi
     |some q=>rw[hk] at hi;cases hi;rfl
    ·rw[Qu] at hi;cases hk:cs[i]? with
     |none=>rw[hk] at hi;cases hi
     |some q=>
      rw[hk] at hi;cases hi;cases j with
      |zero=>simp at hp;subst hp;simpa using h i _ hk
      |succ j=>simp at hp
  ·rename_i s hfx;split at he
   case isFalse=>cases he
   rename_i hno;obtain⟨hst,h3⟩:=hno;simp only[Option.isNone_iff_eq_none] at h3;subst h3;split at he
   case h_2=>cases he
   rename_i b cb hb;split at he
   case h_2=>cases he
   rename_i a ca ha;cases he;rw[hfx] at hx;generalize ρ x=u at hx ⊢
   cases hx with|sc hsc=>
   obtain⟨⟨zoK,zxI⟩,hc3,hc4⟩:=hc;obtain⟨hr,hab,hbl⟩:=pU (S:=S) (P:=P) (isS:=false) (Xe _) hb ha hc3 hc4 (rS hhi) (rS hlo);refine⟨_,?_,.sc (fV a b hsc)⟩;simp[Instr.sliceAt,Instr.slice,Xc (qL hst),hr]
  ·cases he
end
end Go.AL
namespace Go.AL
open Go.RowKit
section
variable{P:Program}{S:St}
theorem kS{f:Operand->PV}{ρ:Operand->Value}(l:Array Operand)(h: ∀x∈l,VRel S (f x) (ρ x)):
    (l.map ρ).size=(l.toList.map f).length/\ ∀(i:Nat)(p:PV)(v:Value),(l.toList.map f)[i]? =some p->(l.map ρ)[i]? =some v->VRel S p v:=by
  refine⟨Qf4,fun i p v hp hv=> ?_⟩;rw[Qu] at hp;rw[Array.getElem?_map] at hv;cases hk:l[i]? with
  |none=>rw[hk] at hv;cases hv
  | some x=>
    have hk':l.toList[i]? =some x:=Qfw;rw[hk] at hv;rw[hk'] at hp;cases hv;cases hp;obtain⟨hi,rfl⟩:=Qz.1 hk;exact h _ (Array.getElem_mem hi)
theorem qA{α:Type}{a:Array α}{l:List α}(h:a.toList=l):a=l.toArray:=by cases a;simpa using h
theorem zeI{ρ:Operand->Value}{f:Operand->PV}{o:Oper}{p:PV}{c:Prop}(hS:SRel S)(hx: ∀x∈o.op.operands,VRel S (f x) (ρ x))
    (he:yI P S.h f o.op=some (p,c)) (hc:c): ∃v,(execOp ρ o).run P S.w= .ok (.value v) S.w/\VRel S p v:=by
  have fin: ∀{s:Sem Value},(∃z,s.run P S.w= .ok z S.w/\VRel S p z)-> ∃v,Sem.run P (do pure (.value (←s)):Sem Next) S.w= .ok (.value v) S.w/\VRel S p v:=fun⟨z,hz,hr⟩=>⟨z,by simp only[Xp,hz,Xd,Yc],hr⟩
  unfold execOp;cases hop:o.op with
  | move x=>
    rw[hop] at he hx;cases he;exact⟨_,rfl,hx x Qgk⟩
  | assign x=>
    rw[hop] at he hx;cases he;exact⟨_,rfl,hx x Qgk⟩
  | pick t a b=>
    rw[hop] at he hx;simp only[yI,vL,wE] at he;split at he
    · rename_i bb hb
      cases he;have h1:=hx t Qgk;rw[hb] at h1;refine⟨if bb then ρ a else ρ b,?_,aJ (hx a Qgk) (hx b Qgk)⟩;have h2:ρ t= .bool bb:=by generalize ρ t=u at h1;cases h1;rfl
      cases bb<;>simp[asBool,h2]
    · cases he
  | nilCheck x=>
    rw[hop] at he hx;simp only[yI,vL,wE] at he;have h1:=hx x Qgk;split at he;all_goals first
      |cases he;done
      | (rename_i hfx
         cases he;rw[hfx] at h1;simp only[];generalize ρ x=u at h1 ⊢
         cases h1<;>first
           |exact⟨_,rfl,by assumption⟩
           |exact⟨_,rfl,.optr Qfj⟩
           |(refine⟨_,rfl,?_⟩;first|exact .ptr Qfj Qfj|exact .tp _ Qfj Qfj|exact .fn Qfj Qfj Qfj Qfj|exact .yl Qfj Qfj|exact .ifc Qfj))
  | binOp op t x y yt=>
    rw[hop] at he hx;simp only[yI,vL,wE] at he;exact fin (zkV he hc (hx x Qgk) (hx y Qgk))
  | unOp op t x=>
    rw[hop] at he hx;simp only[yI,vL,wE] at he;refine fin ?_;have h1:=hx x Qgk;split at he
    · rename_i b hfx
      cases he;rw[hfx] at h1;generalize ρ x=u at h1 ⊢
      cases h1;exact⟨_,rfl,.sc trivial⟩
    · rename_i k n hfx
      cases he;rw[hfx] at h1;generalize ρ x=u at h1 ⊢
      cases h1;exact⟨_,rfl,.sc (pC _ _)⟩
    · rename_i k n hfx
      cases he;rw[hfx] at h1;generalize ρ x=u at h1 ⊢
      cases h1;exact⟨_,rfl,.sc (lB _ _ _ _)⟩
    · cases he
  | convert s d x=>
    rw[hop] at he hx;simp only[yI,vL,wE] at he;refine fin ?_;have h1:=hx x Qgk;split at he
    · rename_i k ik n hti hfx
      split at he
      case isFalse=>cases he
      rename_i hu;cases he;rw[hfx] at h1;generalize ρ x=u at h1 ⊢
      cases h1;obtain⟨ds,hds⟩:=Wa.1 hu;refine⟨.int k (k.wrap n),?_,.sc (pC _ _)⟩;simp[convert,Xc hds,Xc (cK hti),Conv.intToInt]
    · rename_i b hfx
      split at he
      case isFalse=>cases he
      rename_i hu;cases he;rw[hfx] at h1;generalize ρ x=u at h1 ⊢
      cases h1 with|sc hb=>
      obtain⟨ds,hds⟩:=Wa.1 hu.2;refine⟨.string b,?_,.sc hb⟩;simp[convert,Xc hds,Xc (qL hu.1)]
    · cases he
  | makeInterface t x=>
    rw[hop] at he hx;simp only[yI,vL,wE] at he;split at he
    case isFalse=>cases he
    rename_i ht;cases he;refine fin ⟨.iface t (ρ x),?_,.ifc (hx x Qgk)⟩;unfold zg9 at ht;split at ht
    · cases ht
    · rename_i d hne hd
      simp only[Instr.makeInterface,Xp,Xc hd,Xd];rfl
    · cases ht
  | makeFunc fn a b=>
    rw[hop] at he hx;cases he;obtain⟨h1,h2⟩:=kS (S:=S) (f:=f) (ρ:=ρ) a (fun x hxm=>hx x (by simp[Op.operands,hxm]));obtain⟨h3,h4⟩:=kS (S:=S) (f:=f) (ρ:=ρ) b (fun x hxm=>hx x (by simp[Op.operands,hxm]));exact fin ⟨_,rfl,.fn h1 h3 h2 h4⟩
  | field t x i=>
    rw[hop] at he hx;simp only[yI,vL,wE] at he;exact fin (zf6 he hc (hx x Qgk))
  | fieldAddr t x i=>
    rw[hop] at he hx;simp only[yI,vL,wE] at he;exact fin (fY he (hx x Qgk))
  | indexAddr t x i=>
    rw[hop] at he hx;simp only[yI,vL,wE] at he;exact fin (fX he hc (hx x Qgk) (hx i Qgk))
  | index t x i=>
    rw[hop] at he hx;simp only[yI,vL,wE] at he;exact fin (zf0 he hc (hx x Qgk) (hx i Qgk))
  | load t x=>
    rw[hop] at he hx;simp only[yI,vL,wE] at he;exact fin (zjC hS he hc (hx x Qgk))
  | extract x i=>
    rw[hop] at he hx;simp only[yI,vL,wE] at he;refine fin ?_;have h1:=hx x Qgk;split at he
    · rename_i vs hfx
      cases he;rw[hfx] at h1;generalize ρ x=u at h1 ⊢
      cases h1 with
      | tup hl h=>
        rename_i us;have hv:us[i]? =some us[i]:=Qx Qf3;have hp:vs[i]? =some vs[i]:=Qa hc;refine⟨us[i],by simp[Instr.extract,hv],?_⟩;rw[Qb,hp];exact h i _ _ hp hv
    · cases he
  | slice t x lo hi mx=>
    rw[hop] at he hx;exact fin (zfG hS he hc (hx x Qgk) (fun o ho=>hx o Qh8) (fun o ho=>hx o Qh8) (fun o ho=>hx o Qh8))
  | call cl=>
    rw[hop] at he hx;simp only[yI,vL,wE] at he;split at he
    · rename_i x t mM hca hct
      obtain⟨z,hz,hr⟩:=zlX (P:=P) (S:=S) (ty:=o.type) he (hx x (by simp[Op.operands,Call.operands,mM];rw[<-Ju,hca];simp));refine⟨z,?_,hr⟩;have e1:cl.args= #[x]:=qA hca;have e2:cl.argTypes= #[t]:=qA hct;simp[resolve,invoke,builtin,mM,e1,e2,hz]
    · rename_i _ x y mM hca
      have e1:cl.args= #[x,y]:=qA hca;have h1:=hx x Qhh;have h2:=hx y Qhh;split at he
      case h_2=>cases he
      rename_i k a k' b hfx hfy;split at he
      case isFalse=>cases he
      rename_i hk;subst hk;cases he;rw[hfx] at h1;rw[hfy] at h2;have g1:ρ x= .int k a/\tJ (.int k a):=Qhv;have g2:ρ y= .int k b/\tJ (.int k b):=Qhw;refine⟨_,?_,.sc (by split;exact g2.2;exact g1.2)⟩;simp[resolve,invoke,builtin,mM,e1,g1.1,g2.1,Builtin.max_,Builtin.max2]
    · rename_i _ x y mM hca
      have e1:cl.args= #[x,y]:=qA hca;have h1:=hx x Qhh;have h2:=hx y Qhh;split at he
      case h_2=>cases he
      rename_i k a k' b hfx hfy;split at he
      case isFalse=>cases he
      rename_i hk;subst hk;cases he;rw[hfx] at h1;rw[hfy] at h2;have g1:ρ x= .int k a/\tJ (.int k a):=Qhv;have g2:ρ y= .int k b/\tJ (.int k b):=Qhw;refine⟨_,?_,.sc (by split;exact g2.2;exact g1.2)⟩;simp[resolve,invoke,builtin,mM,e1,g1.1,g2.1,Builtin.min_,Builtin.min2]
    · cases he
  |_=>rw[hop] at he;cases he
end
end Go.AL
