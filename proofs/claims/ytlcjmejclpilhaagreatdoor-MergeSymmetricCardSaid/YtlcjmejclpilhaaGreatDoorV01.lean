/-
  Part of the walk.
-/
import Derived.Test.YtlcjmejclpilhaaGreatDoorV00
import Derived.MapKept
import Derived.Laws.StructEq
import Derived.Laws.BytesString
import Derived.Maps.AppendAt
set_option linter.unusedSimpArgs false
set_option linter.unusedVariables false
set_option maxRecDepth 100000
set_option maxHeartbeats 4000000
namespace Go.AL
open Go.RowKit
theorem za7(k:IntKind)(n:Int):k.min<=k.wrap n/\k.wrap n<=k.max:=by
 cases k<;>simp only[IntKind.wrap,IntKind.min,IntKind.max,IntKind.signed,IntKind.bits]<;>constructor<;>simp<;>(try split)<;>omega
theorem pC(k:IntKind)(n:Int):tJ (.int k (k.wrap n)):=za7 k n
theorem lB(op:BinOp)(k:IntKind)(a b:Int):tJ (.int k (bits op k a b)):=by
 unfold bits;exact za7 k _
theorem zbR(k:IntKind):k.min<=0:=by cases k<;>decide
theorem zbS(k:IntKind):0<=k.max:=by cases k<;>decide
theorem zi4{k:IntKind}{a b:Int}(h:tJ (.int k a)):tJ (.int k (a.tmod b)):=by
 simp only[tJ] at h ⊢
 have h1:=zbR k;have h2:=zbS k;rcases Int.le_total 0 a with ha|ha
 ·have p:=Int.tmod_nonneg b ha;have q:a.tmod b<=a:=by
   obtain⟨n,rfl⟩:=Qm ha;exact Qb1
  omega
 ·obtain⟨n,hn⟩:=Qm (Int.neg_nonneg_of_nonpos ha);have e:a= -(n:Int):=Qf0;subst e;rw[Int.neg_tmod];have:0<=(n:Int).tmod b:=Int.tmod_nonneg b Qf0;have q:(n:Int).tmod b<=n:=by
   exact Qb1
  omega
theorem zlR{k:IntKind}{a:Int}{m:Nat}(h:tJ (.int k a)):tJ (.int k (a / 2 ^ m)):=by
 simp only[tJ] at h ⊢
 have h1:=zbR k;have h2:=zbS k;have hp:(0:Int)<2 ^ m:=Int.pow_pos Qf0;rcases Int.le_total 0 a with ha|ha
 ·have p:0<=a / 2 ^ m:=Int.ediv_nonneg ha (Int.le_of_lt hp);have q:a / 2 ^ m<=a:=Int.ediv_le_self _ ha;omega
 ·have q:a / 2 ^ m<=0:=Int.ediv_nonpos_of_nonpos_of_neg ha hp;have p:a<=a / 2 ^ m:=by
   have h3:a*2 ^ m<=a:=by
    have:=Int.mul_nonneg (show 0<= -a by omega) (show 0<=(2:Int) ^ m-1 by omega);rw[Int.mul_sub,Int.neg_mul,Int.mul_one] at this;omega
   exact(Int.le_ediv_iff_mul_le hp).2 h3
  omega
theorem zuC(k yk:IntKind)(x y:Int)(h:0<=y):Op.shift .shl k x yk y=pure (.int k (k.wrap (x*2 ^ min y.toNat k.bits))):=by
 simp only[Op.shift];rw[Qi Qf0]
theorem vQ(k yk:IntKind)(x y:Int)(h:0<=y):Op.shift .shr k x yk y=pure (.int k (x / 2 ^ min y.toNat k.bits)):=by
 simp only[Op.shift];rw[Qi Qf0,Int.fdiv_eq_ediv_of_nonneg _ (Int.pow_nonneg Qf0)]
theorem nM(a b:ByteArray):(a.toList==b.toList)=decide (a=b):=by
 rw[Jo,Zm,Wz,ByteArray.toList_eq,ByteArray.toList_eq];constructor
 ·intro h;cases a;cases b;simpa using h
 ·rintro rfl;rfl
theorem rW{P:Program}{t:TypeId}(h:P.underlying t=some .bool)(d:Nat)(a b:Bool)(w:World):(Op.equalIn (d+1) t (.bool a) (.bool b)).run P w= .ok (a==b) w:=by
 simp only[Op.equalIn,Xp,Xc h,Xd,Yc]
theorem fT{P:Program}{t:TypeId}(h:P.underlying t=some .bool)(a b:Bool)(w:World):(binOp .eql t (.bool a) (.bool b)).run P w= .ok (.bool (a==b)) w:=by
 simp only[binOp,Op.equal,Op.maxDepth,Xp,rW h 9999,Xd,Yc]
theorem fR{P:Program}{t:TypeId}(h:P.underlying t=some .bool)(a b:Bool)(w:World):(binOp .neq t (.bool a) (.bool b)).run P w= .ok (.bool (a !=b)) w:=by
 simp only[binOp,Op.equal,Op.maxDepth,Xp,rW h 9999,Xd,Yc,bne]
theorem zkV{P:Program}{S:St}{op:BinOp}{t:TypeId}{x y:Operand}{p q r:PV}{c:Prop}{u v:Value}
  (h:zcM P t op p q=some (r,c)) (hc:c) (hu:VRel S p u) (hv:VRel S q v):
  ∃z,((do eqGuard op t x y u v;binOp op t u v:Sem Value)).run P S.w= .ok z S.w/\VRel S r z:=by
 unfold zcM at h;simp only[vL,wE] at h;split at h
 ·rename_i k a k' b;cases hu with|sc ha=>
  cases hv with|sc hb=>
  split at h
  ·cases h;refine⟨_,?_,.sc (pC _ _)⟩;simp[eqGuard_shl,binOp_shl,zuC _ _ _ _ hc]
  ·cases h;refine⟨_,?_,.sc (zlR ha)⟩;simp[eqGuard_shr,binOp_shr,vQ _ _ _ _ hc]
  all_goals
   split at h
   case isFalse=>cases h
   rename_i hk;subst hk;cases h
  ·exact⟨_,by simp[eqGuard_add,binOp_add,Op.intArith],.sc (pC _ _)⟩
  ·exact⟨_,by simp[eqGuard_sub,binOp_sub,Op.intArith],.sc (pC _ _)⟩
  ·exact⟨_,by simp[eqGuard_mul,binOp_mul,Op.intArith],.sc (pC _ _)⟩
  ·exact⟨_,by simp[eqGuard_quo,binOp_quo,Op.intDiv,hc],.sc (pC _ _)⟩
  ·exact⟨_,by simp[eqGuard_rem,binOp_rem,Op.intDiv,hc],.sc (zi4 ha)⟩
  ·exact⟨_,by simp[eqGuard_and,binOp_and,intBits_and],.sc (lB _ _ _ _)⟩
  ·exact⟨_,by simp[eqGuard_or,binOp_or,intBits_or],.sc (lB _ _ _ _)⟩
  ·exact⟨_,by simp[eqGuard_xor,binOp_xor,intBits_xor],.sc (lB _ _ _ _)⟩
  ·exact⟨_,by simp[eqGuard_andNot,binOp_andNot,intBits_andNot],.sc (lB _ _ _ _)⟩
  ·exact⟨_,by simp[eqGuard_at_int,binOp_eql],.sc trivial⟩
  ·exact⟨_,by simp[eqGuard_at_int,binOp_neq],.sc trivial⟩
  ·exact⟨_,by simp[eqGuard_lss,binOp_lss],.sc trivial⟩
  ·exact⟨_,by simp[eqGuard_leq,binOp_leq],.sc trivial⟩
  ·exact⟨_,by simp[eqGuard_gtr,binOp_gtr],.sc trivial⟩
  ·exact⟨_,by simp[eqGuard_geq,binOp_geq],.sc trivial⟩
 ·rename_i a b;cases hu;cases hv;have bl:bW P t=true->P.underlying t=some .bool:=fun hb=>by
   unfold bW at hb;split at hb
   ·assumption
   ·cases hb
  split at h
  ·split at h
   ·rename_i hb;cases h;exact⟨_,by simp[eqGuard_at_bool,fT (bl hb)],.sc trivial⟩
   ·cases h
  ·split at h
   ·rename_i hb;cases h;exact⟨.bool (a !=b),by simp[eqGuard_at_bool,fR (bl hb)],.sc trivial⟩
   ·cases h
  ·cases h
 ·rename_i a b;cases hu;cases hv;split at h
  ·cases h;exact⟨.bool (decide (a=b)),by rw[<-nM];simp[eqGuard_at_string,binOp,Op.stringOp],.sc trivial⟩
  ·cases h;exact⟨.bool (!decide (a=b)),by rw[<-nM];simp[eqGuard_at_string,binOp,Op.stringOp],.sc trivial⟩
  ·cases h
 ·cases h
section
variable{P:Program}{S:St}
theorem oG{t:TypeId}{b:Bool}(h:dD P t=some b)(w:World):(isAgg t).run P w= .ok b w:=by
 unfold dD at h;cases hd:P.underlying t with
 |none=>rw[hd] at h;cases h
 |some d=>
  rw[hd] at h;simp only[isAgg,Xp,Xc hd,Xd];cases d<;>simp at h<;>subst h<;>rfl
theorem zV{t:TypeId}{s:Nat}(hs:xL P t=some s)(w:World):(sizeOf t).run P w= .ok s w:=by
 unfold xL at hs;cases hi:P.info? t with
 |none=>rw[hi] at hs;cases hs
 |some i=>
  rw[hi] at hs;simp only[Wh,Option.some.injEq] at hs;subst hs;simp[sizeOf,typeInfo,hi]
theorem fS{a:Addr}(val:Nat->Value): ∀(n i:Nat)(acc:Array Value)(w:World),(∀j,i<=j->j<i+n->w.cell? (a.add j)=some (val j))->
  (loadCellsFrom a i n acc).run P w= .ok (acc++((List.range' i n).map val).toArray) w:=by
 intro n
 induction n with
 |zero=>intro i acc w _;simp[loadCellsFrom]
 |succ n ih=>
  intro i acc w h;simp only[loadCellsFrom,Xp,run_load,h i (Xe _) Qf0,Xd];rw[ih (i+1) _ w (fun j hj hj'=>h j Qf0 Qf0)];simp[List.range'_succ]
theorem sS{t:TypeId}{a:Addr}{cs:List PV}{p:PV}{c:Prop}(val:Nat->Value)
  (hv: ∀j,j<cs.length->S.w.cell? (a.add j)=some (val j)/\(val j).oneCell'=true) (h: ∀(j:Nat)(p:PV),cs[j]? =some p->VRel S p (val j))
  (he:zk5 P t cs=some (p,c)) (hc:c): ∃v,(loadVar t a).run P S.w= .ok v S.w/\VRel S p v:=by
 unfold zk5 at he;simp only[vL,wE] at he;split at he
 ·rename_i s hs hg;cases he;refine⟨.agg ((List.range' 0 s).map val).toArray,?_,?_⟩
  ·simp only[loadVar,Xp,oG hg,Xd,Wk,zV hs,loadCells];rw[fS val s 0 #[] S.w (fun j _ hj=>(hv j Qf0).1)];simp
  ·refine .agg Qfh (fun i v hi=> ?_) (fun i p v hp hi=> ?_)
   ·simp at hi;obtain⟨k,hk,rfl⟩:=hi;obtain⟨hj,rfl⟩:=gsi hk;simp at hj ⊢
    exact(hv i Qf0).2
   ·simp at hi;obtain⟨k,hk,rfl⟩:=hi;obtain⟨hj,rfl⟩:=gsi hk;simp at hj ⊢
    rw[Xr,Qj hj] at hp;exact h i p hp
 ·rename_i s hs hg;cases he;refine⟨val 0,?_,?_⟩
  ·have:=(hv 0 hc).1;rw[Addr.add_zero'] at this;simp[loadVar,oG hg,run_load,this]
  ·have:cs[0]? =some cs[0]:=Qa hc;have e:cs.getD 0 .un=cs[0]:=by rw[Qb,this];rfl
   rw[e];exact h 0 _ this
 ·cases he
end
end Go.AL
namespace Go.AL
open Go.RowKit
section
variable{P:Program}{S:St}
theorem VRel.agg_inv{cs:List PV}{v:Value}(h:VRel S (.agg cs) v): ∃vs:Array Value,v= .agg vs/\vs.size=cs.length/\(∀(i:Nat)(u:Value),vs[i]? =some u->u.oneCell'=true)/\
  ∀(i:Nat)(p:PV)(u:Value),cs[i]? =some p->vs[i]? =some u->VRel S p u:=by
 cases h with|agg hl h1 h=>exact⟨_,rfl,hl,h1,h⟩
theorem nN{t:TypeId}{i off:Nat}{ft:TypeId}(h:zR P t i=some (off,ft)): ∃(fs:Array Field)(f:Field),P.underlying t=some (.struct fs)/\fs[i]? =some f/\f.offset=off/\f.type=ft:=by
 unfold zR at h;split at h
 ·rename_i fs hu;cases hf:fs[i]? with
  |none=>rw[hf] at h;cases h
  |some f=>rw[hf] at h;simp at h;exact⟨fs,f,hu,hf,h.1,h.2⟩
 ·cases h
theorem tS{t e:TypeId}(h:wX P t=some e):P.underlying t=some (.slice e):=by
 unfold wX at h;exact Qej
theorem pY{t e:TypeId}{n:Nat}(h:bR P t=some (n,e)):P.underlying t=some (.array n e):=by
 unfold bR at h;exact Qej
theorem qL{t:TypeId}(h:gJ P t=true):P.underlying t=some .string:=by
 unfold gJ at h;split at h
 ·assumption
 ·cases h
theorem cK{t:TypeId}{k:IntKind}(h:zeT P t=some k):P.underlying t=some (.int k):=by
 unfold zeT at h;exact Qej
theorem lA{t:TypeId}{cs:List PV}{vs:Array Value}{off:Nat}{p:PV}{c:Prop}(hl:vs.size=cs.length)(h1: ∀(i:Nat)(u:Value),vs[i]? =some u->u.oneCell'=true)
  (h: ∀(i:Nat)(p:PV)(u:Value),cs[i]? =some p->vs[i]? =some u->VRel S p u)
  (he:(match xL P t,dD P t with
   |some s,some true=>some (PV.agg ((cs.drop off).take s),off+s<=cs.length)
   |some _,some false=>some (cs.getD off .un,off<cs.length)
   |_,_=>none)=some (p,c)) (hc:c): ∃v,(part t vs off).run P S.w= .ok v S.w/\VRel S p v:=by
 split at he
 ·rename_i s hs hg;cases he;refine⟨.agg (vs.extract off (off+s)),by simp[part,oG hg,zV hs],.agg Qfh (fun i u hu=> ?_) (fun i p u hp hu=> ?_)⟩
  ·rw[Array.getElem?_extract] at hu;split at hu
   ·exact h1 _ u hu
   ·cases hu
  ·rw[Array.getElem?_extract] at hu;split at hu
   ·rw[Xr] at hp;split at hp
    ·rw[Yg] at hp;exact h _ p u hp hu
    ·cases hp
   ·cases hu
 ·rename_i s hs hg;cases he;have hv:vs[off]? =some vs[off]:=Qx Qf0;have hp:cs[off]? =some cs[off]:=Qa hc;refine⟨vs[off],by simp[part,oG hg,hv],?_⟩;rw[Qb,hp];exact h _ _ _ hp hv
 ·cases he
theorem zf6{t:TypeId}{i:Nat}{p q:PV}{c:Prop}{u:Value} (he:(match zR P t i,q with
   |some (off,ft),.agg cs=>(match xL P ft,dD P ft with
    |some s,some true=>some (PV.agg ((cs.drop off).take s),off+s<=cs.length)
    |some _,some false=>some (cs.getD off .un,off<cs.length)
    |_,_=>none)
   |_,_=>none)=some (p,c)) (hc:c) (hu:VRel S q u): ∃v,(Instr.field t u i).run P S.w= .ok v S.w/\VRel S p v:=by
 split at he
 ·rename_i off ft cs ht;obtain⟨fs,f,hus,hf,rfl,rfl⟩:=nN ht;obtain⟨vs,rfl,hl,h1,h⟩:=hu.agg_inv;obtain⟨v,hv,hr⟩:=lA (P:=P) hl h1 h he hc;exact⟨v,by simp[Instr.field,Xc hus,hf,asAgg,hv],hr⟩
 ·cases he
theorem dA(a:Addr)(i j:Nat):(a.add i).add j=a.add (i+j):=by
 unfold Addr.add;by_cases hi:i=0<;>by_cases hj:j=0<;>simp[hi,hj,Ji]
theorem zbA{cs:List PV}{a:Addr}(h:VRel S (.tp cs) (.pointer (some a)))(n:Nat):VRel S (.tp (cs.drop n)) (.pointer (some (a.add n))):=by
 cases h with
 |tp val hv h=>
  refine .tp (fun j=>val (n+j)) (fun j hj=> ?_) (fun j p hp=> ?_)
  ·rw[dA];exact hv _ (by simp at hj;omega)
  ·rw[Yg] at hp;exact h _ p hp
theorem fY{t:TypeId}{i:Nat}{p q:PV}{c:Prop}{u:Value} (he:(match zR P t i,q with
  |some (off,ft),.ptr r o=>(match xL P ft with
   |some (_+1)=>some (PV.ptr r (o+off),True)
   |_=>none)
  |some (off,ft),.tp cs=>(match xL P ft with
   |some (_+1)=>some (PV.tp (cs.drop off),True)
   |_=>none)
  |_,_=>none)=some (p,c)) (hu:VRel S q u): ∃v,(Instr.fieldAt t u i).run P S.w= .ok v S.w/\VRel S p v:=by
 split at he
 ·rename_i off ft r o ht;obtain⟨fs,f,hus,hf,rfl,rfl⟩:=nN ht;split at he
  ·rename_i s hs;cases he;cases hu with
   |ptr hp hb=>
    refine⟨_,?_,.ptr hp hb⟩;simp[Instr.fieldAt,Xc hus,hf,Instr.sureAddr,fieldPlace,zV hs,Addr.add_lit]
   |optr hb=>
    rename_i a;refine⟨.pointer (some (a.add f.offset)),?_,.optr hb⟩;simp[Instr.fieldAt,Xc hus,hf,Instr.sureAddr,fieldPlace,zV hs]
  ·cases he
 ·rename_i off ft cs ht;obtain⟨fs,f,hus,hf,rfl,rfl⟩:=nN ht;split at he
  ·rename_i s hs;cases he;have hu':=hu;cases hu with
   |tp val hv h=>
    refine⟨_,?_,zbA hu' f.offset⟩;simp[Instr.fieldAt,Xc hus,hf,Instr.sureAddr,fieldPlace,zV hs]
  ·cases he
 ·cases he
theorem uU{k:Nat}{els:List (List PV)}{v:Value}(h:VRel S (.ts k els) v): ∃(a:Option Addr)(c:Nat)(ad:Addr)(val:Nat->Value),v= .slice a els.length c/\els.length<=c/\c<=maxLen/\
  (∀(i:Nat)(e:List PV),els[i]? =some e->e.length=k)/\(els.length≠0->a=some ad)/\(∀j,j<els.length*k->S.M (ad.add j) (val j))/\
  ∀(i:Nat)(e:List PV)(j:Nat)(p:PV),els[i]? =some e->e[j]? =some p->VRel S p (val (i*k+j)):=by
 cases h with
 |ts hl hc hm hk ad ha val hv h=>subst hl;exact⟨_,_,ad,val,rfl,hc,hm,hk,ha,hv,h⟩
theorem ziM{k:Nat}{els:List (List PV)}{e:List PV}{i:Nat}{ad:Addr}{val:Nat->Value}(hk: ∀(i:Nat)(e:List PV),els[i]? =some e->e.length=k)
  (hv: ∀j,j<els.length*k->S.M (ad.add j) (val j)) (h: ∀(i:Nat)(e:List PV)(j:Nat)(p:PV),els[i]? =some e->e[j]? =some p->VRel S p (val (i*k+j)))
  (hi:els[i]? =some e):VRel S (.tp e) (.pointer (some (ad.add (i*k)))):=by
 have hil:i<els.length:=(gsi hi).1;refine .tp (fun j=>val (i*k+j)) (fun j hj=> ?_) (fun j p hp=>h i e j p hi hp);rw[dA];rw[hk i e hi] at hj;refine hv _ ?_;have:(i+1)*k<=els.length*k:=Zv k hil;rw[Wo,Nat.one_mul] at this;omega
theorem fX{t:TypeId}{p q r:PV}{c:Prop}{u v:Value} (he:(match r with
  | .sc (.int _ n)=>(match wX P t with
   |some e=>(match zaG q,q with
    |some (k,els),_=>if xL P e=some k then some (PV.tp (els.getD n.toNat []),0<=n/\n<els.length) else none
    |none,.ms r off k len=>if xL P e=some k then some (.ptr r (off+n.toNat*k),0<=n/\n<len) else none
    |_,_=>none)
   | none=>(match bR P t,q with
    |some (len,e),.ptr r o=>(match xL P e with
     |some k=>some (PV.ptr r (o+n.toNat*k),0<=n/\n<len)
     |none=>none)
    |some (len,e),.tp cs=>(match xL P e with
     |some k=>some (PV.tp (cs.drop (n.toNat*k)),0<=n/\n<len)
     |none=>none)
    |_,_=>none))
  |_=>none)=some (p,c)) (hc:c) (hu:VRel S q u) (hv:VRel S r v): ∃z,(Instr.indexAt t u v).run P S.w= .ok z S.w/\VRel S p z:=by
 split at he
 case h_2=>cases he
 rename_i ik n;cases hv with|sc hn=>
 split at he
 ·rename_i e hte;have hus:=tS hte;split at he
  ·rename_i k els hq;split at he
   case isFalse=>cases he
   rename_i hs;cases he;obtain⟨a,cc,ad,val,rfl,h1,h2,h3,h4,h5,h6⟩:=uU (zt1 hq hu);obtain⟨m,rfl⟩:=Qm hc.1;have hm:m<els.length:=Qf0;have ha:=h4 Qf0;subst ha;have hg:els[m]? =some els[m]:=Qa hm;refine⟨.pointer (some (ad.add (m*k))),?_,?_⟩
   ·simp[Instr.indexAt,asIntOf,Xc hus,hm,zV hs]
   ·rw[Qb,Xw,hg];exact ziM h3 h5 h6 hg
  ·rename_i rr off k len hq;split at he
   case isFalse=>cases he
   rename_i hs;cases he;cases hu with
   |ms hp hb hl hcc hm _=>
    obtain⟨m,rfl⟩:=Qm hc.1;have hml:m<len:=Qf0;refine⟨_,?_,.ptr hp hb⟩;simp[Instr.indexAt,asIntOf,Xc hus,hml,zV hs,Addr.add_lit]
   |oms hb hcc hm=>
    obtain⟨m,rfl⟩:=Qm hc.1;have hml:m<len:=Qf0;rename_i a;refine⟨.pointer (some (a.add (m*k))),?_,.optr hb⟩;simp[Instr.indexAt,asIntOf,Xc hus,hml,zV hs]
  ·cases he
 ·split at he
  ·rename_i len e rr o hta;have hus:=pY hta;split at he
   ·rename_i k hs;cases he;cases hu with
    |ptr hp hb=>
     obtain⟨m,rfl⟩:=Qm hc.1;have hml:m<len:=Qf0;refine⟨_,?_,.ptr hp hb⟩;simp[Instr.indexAt,asIntOf,Xc hus,hml,zV hs,Addr.add_lit,Instr.sureAddr]
    |optr hb=>
     obtain⟨m,rfl⟩:=Qm hc.1;have hml:m<len:=Qf0;rename_i a;refine⟨.pointer (some (a.add (m*k))),?_,.optr hb⟩;simp[Instr.indexAt,asIntOf,Xc hus,hml,zV hs,Instr.sureAddr]
   ·cases he
  ·rename_i len e cs hta;have hus:=pY hta;split at he
   ·rename_i k hs;cases he;have hu':=hu;cases hu with
    |tp val hv h=>
     obtain⟨m,rfl⟩:=Qm hc.1;have hml:m<len:=Qf0;refine⟨_,?_,zbA hu' (m*k)⟩;simp[Instr.indexAt,asIntOf,Xc hus,hml,zV hs,Instr.sureAddr]
   ·cases he
  ·cases he
theorem zjC(hS:SRel S){t:TypeId}{p q:PV}{c:Prop}{u:Value} (he:(match q with
  | .tp cs=>zk5 P t cs
  | .ptr r o=>(match S.h[r]? with
   |some (.var _ cs)=>zk5 P t (cs.drop o)
   |_=>none)
  |_=>none)=some (p,c)) (hc:c) (hu:VRel S q u): ∃z,(Instr.loadAt t u).run P S.w= .ok z S.w/\VRel S p z:=by
 split at he
 ·rename_i cs;cases hu with
  |tp val hv h=>
   obtain⟨z,hz,hr⟩:=sS (S:=S) (P:=P) val (fun j hj=>⟨(hv j hj).1,(hv j hj).2.1⟩) h he hc;exact⟨z,by simp[Instr.loadAt,Instr.sureAddr,hz],hr⟩
 ·rename_i r o;split at he
  ·rename_i tt cs hb;cases hu with
   | ptr hp hb'=>
    rename_i b _ _;obtain⟨b',arr,hbe,hh,hl,h1,hcs⟩:=hS.blks r _ _ hb hp;cases hbe;have hcell: ∀j,j<(cs.drop o).length->S.w.cell? ((⟨b,o,none⟩:Addr).add j)=some (arr.getD (o+j) undef):=fun j hj=>by
     simp at hj;rw[Addr.add_lit,cell_of_row _ _ _ _ _ _ hh];have:o+j<arr.size:=Qf0;simp[Array.getD,this]
    have harr: ∀j,j<(cs.drop o).length->arr[o+j]? =some (arr.getD (o+j) undef):=fun j hj=>by
     simp at hj;have:o+j<arr.size:=Qf0;simp[Array.getD,this]
    obtain⟨z,hz,hr⟩:=sS (S:=S) (P:=P) (a:=⟨b,o,none⟩) (cs:=cs.drop o) (fun j=>arr.getD (o+j) undef) (fun j hj=>⟨hcell j hj,h1 _ _ (harr j hj)⟩)
     (fun j p hp=>hcs (o+j) p _ (by rw[Yg] at hp;exact hp) (harr j (gsi hp).1)) he hc
    exact⟨z,by simp[Instr.loadAt,Instr.sureAddr,hz],hr⟩
   |optr hb'=>rw[hb] at hb';cases hb'
  ·cases he
 ·cases he
end
end Go.AL
namespace Go.AL
open Go.RowKit
section
variable{P:Program}{S:St}
theorem zf0{t:TypeId}{p q r:PV}{c:Prop}{u v:Value} (he:(match r with
  | .sc (.int _ n)=>(match bR P t,q with
   |some (len,e),.agg cs=>(match xL P e,dD P e with
    |some s,some true=>some (PV.agg ((cs.drop (n.toNat*s)).take s),0<=n/\n<len/\n.toNat*s+s<=cs.length)
    |some s,some false=>some (cs.getD (n.toNat*s) .un,0<=n/\n<len/\n.toNat*s<cs.length)
    |_,_=>none)
   |_,.sc (.string b)=>if gJ P t then some (PV.sc (.int .u8 (b.data.getD n.toNat 0).toNat),0<=n/\n<b.size) else none
   |_,_=>none)
  |_=>none)=some (p,c)) (hc:c) (hu:VRel S q u) (hv:VRel S r v): ∃z,(Instr.index t u v).run P S.w= .ok z S.w/\VRel S p z:=by
 split at he
 case h_2=>cases he
 rename_i ik n;cases hv with|sc hn=>
 split at he
 ·rename_i len e cs hta;have hus:=pY hta;obtain⟨vs,rfl,hl,h1,h⟩:=hu.agg_inv;split at he
  ·rename_i s hs hg;cases he;obtain⟨h0,h2,h3⟩:=hc;obtain⟨m,rfl⟩:=Qm h0;rw[Xw] at h3;obtain⟨z,hz,hr⟩:=lA (P:=P) (S:=S) (t:=e) (off:=m*s) (p:= .agg ((cs.drop (m*s)).take s)) (c:=m*s+s<=cs.length) hl h1 h (by rw[hs,hg]) h3;exact Qcq
  ·rename_i s hs hg;cases he;obtain⟨h0,h2,h3⟩:=hc;obtain⟨m,rfl⟩:=Qm h0;rw[Xw] at h3;obtain⟨z,hz,hr⟩:=lA (P:=P) (S:=S) (t:=e) (off:=m*s) (p:=cs.getD (m*s) .un) (c:=m*s<cs.length) hl h1 h (by rw[hs,hg]) h3;exact Qcq
  ·cases he
 ·split at he
  case isFalse=>cases he
  rename_i b hs;cases he;cases hu with|sc hb=>
  obtain⟨h0,h2⟩:=hc;obtain⟨m,rfl⟩:=Qm h0;have hm:m<b.size:=Qf0;have hg:b[m]? =some (b.data.getD m 0):=by
   have:m<b.data.size:=hm;rw[getElem?_pos b m hm,Array.getD,dif_pos this];rfl
  refine⟨_,by simp[Instr.index,asIntOf,Xc (qL hs),hg],.sc ?_⟩;have:=(b.data.getD m 0).toNat_lt;simp only[tJ,Xw];generalize (b.data.getD m 0).toNat=y at this ⊢
  exact⟨by simp[IntKind.min,IntKind.signed],by simp[IntKind.max,IntKind.signed,IntKind.bits];omega⟩
 ·cases he
theorem zlX{t ty:TypeId}{p q:PV}{c:Prop}{u:Value}(he:pI P t q=some (p,c))(hu:VRel S q u):
  ∃z,(Builtin.len_ #[t] ty #[u]).run P S.w= .ok z S.w/\VRel S p z:=by
 have sl: ∀{a:Option Addr}{n cc:Nat}{e:TypeId},wX P t=some e->n<=maxLen->u= .slice a n cc-> ∃z,(Builtin.len_ #[t] ty #[u]).run P S.w= .ok z S.w/\VRel S (.sc (.int .i64 n)) z:=by
  intro a n cc e ht hn hu;subst hu;refine⟨.int .i64 n,by simp[Builtin.len_,Xc (tS ht),goInt],.sc ?_⟩;simp only[maxLen] at hn;exact⟨by simp[IntKind.min,IntKind.signed,IntKind.bits]<;>omega,by simp[IntKind.max,IntKind.signed,IntKind.bits]<;>omega⟩
 cases q<;>simp only[pI,vL,wE,reduceCtorEq] at he<;>(try cases he)
 case sc v=>
  cases v<;>simp only[reduceCtorEq] at he;rename_i s;split at he
  case isFalse=>cases he
  rename_i ht;cases he;cases hu with|sc hs=>
  refine⟨.int .i64 s.size,by simp[Builtin.len_,Xc (qL ht),goInt],.sc ?_⟩;simp only[tJ,maxLen] at hs ⊢
  exact⟨by simp[IntKind.min,IntKind.signed,IntKind.bits]<;>omega,by simp[IntKind.max,IntKind.signed,IntKind.bits]<;>omega⟩
 all_goals
  split at he
  case isFalse=>cases he
  rename_i ht;obtain⟨e,ht⟩:=Zz.1 ht;cases he
 ·cases hu;exact sl ht (Yn _) rfl
 ·obtain⟨a,cc,ad,val,rfl,h1,h2,_⟩:=uU hu;exact sl ht (Ya h1 h2) rfl
 ·cases hu with|tc hu=>obtain⟨a,cc,ad,val,hv,h1,h2,_⟩:=uU hu;exact sl ht (Ya h1 h2) hv
 ·cases hu with|vec hu=>obtain⟨a,cc,ad,val,rfl,h1,h2,_⟩:=uU hu;exact sl ht (Ya h1 h2) rfl
 ·cases hu with
  |ms hp hb hl hcc hm _=>exact sl ht (Ya hcc hm) rfl
  |oms hb hcc hm=>exact sl ht (Ya hcc hm) rfl
def ORel(S:St):Option PV->Option Value->Prop
 |none,none=>True
 |some p,some v=>VRel S p v
 |_,_=>False
theorem oE{q:Option PV}{d z n:Nat}{c:Prop}{x:Option Value}(he:yV q d z=some (n,c))(hc:c)(hx:ORel S q x):
  (q=none/\x=none/\n=z)\/ ∃(k:IntKind),x=some (.int k n)/\n<=d:=by
 unfold yV at he;simp only[vL,wE] at he;split at he
 ·cases he;cases x with
  |none=>exact .inl ⟨rfl,rfl,rfl⟩
  |some v=>exact hx.elim
 ·rename_i k m;cases he;cases x with
  |none=>exact hx.elim
  |some v=>
   simp only[ORel] at hx;cases hx with|sc h=>
   obtain⟨j,rfl⟩:=Qm hc.1;exact .inr ⟨k,Qf1,Qf0⟩
 ·cases he
theorem vS{k:IntKind}{n d:Nat}(h:n<=d)(code:BoundsCode)(w:World):(Instr.sliceBound (.int k n) d code).run P w= .ok n w:=by
 have:(n:Int)<=d:=Qf0;simp[Instr.sliceBound,asIntOf,this]
theorem rS{f:Operand->PV}{ρ:Operand->Value}{x:Option Operand}(h: ∀o,x=some o->VRel S (f o) (ρ o)):ORel S (x.map f) (x.map ρ):=by
 cases x with
 |none=>trivial
 |some o=>exact h o rfl
theorem pU{isS:Bool}{len cap:Nat}{qh ql:Option PV}{lo hi:Option Value}{a b:Nat}{c c':Prop}(hlc:len<=cap)(heh:yV qh len len=some (b,c))(hel:yV ql b 0=some (a,c'))
  (hc:c) (hc':c') (hh:ORel S qh hi) (hl:ORel S ql lo):
  (Instr.sliceBounds isS len cap lo hi none).run P S.w= .ok (a,b,cap) S.w/\a<=b/\b<=len:=by
 rcases oE heh hc hh with ⟨_,rfl,rfl⟩|⟨k,rfl,hb⟩<;>rcases oE hel hc' hl with ⟨_,rfl,rfl⟩|⟨k',rfl,ha⟩
 ·exact⟨by simp[Instr.sliceBounds],Yn _,Xe _⟩
 ·exact⟨by simp[Instr.sliceBounds,vS ha],ha,Xe _⟩
 ·exact⟨by simp[Instr.sliceBounds,vS (Ya hb hlc)],Yn _,hb⟩
 ·exact⟨by simp[Instr.sliceBounds,vS (Ya hb hlc),vS ha],ha,hb⟩
theorem lX{len cap:Nat}{qh ql:Option PV}{qm:PV}{lo hi:Option Value}{mx:Value}{a b d:Nat}{c0 c c':Prop}(hlc:len<=cap)(hem:yV (some qm) len 0=some (d,c0))(heh:yV qh d d=some (b,c))(hel:yV ql b 0=some (a,c'))
  (hc0:c0) (hc:c) (hc':c') (hm:VRel S qm mx) (hh:ORel S qh hi) (hl:ORel S ql lo) (hn:hi.isSome=true):
  (Instr.sliceBounds true len cap lo hi (some mx)).run P S.w= .ok (a,b,d) S.w/\a<=b/\b<=d/\d<=len:=by
 rcases oE (x:=some mx) hem hc0 hm with ⟨h,_⟩|⟨k0,h0,hd⟩
 ·cases h
 ·cases h0;rcases oE heh hc hh with ⟨_,rfl,rfl⟩|⟨k,rfl,hb⟩
  ·cases hn
  ·rcases oE hel hc' hl with ⟨_,rfl,rfl⟩|⟨k',rfl,ha⟩
   ·exact⟨by simp[Instr.sliceBounds,vS (Ya hd hlc),vS hb],Yn _,hb,hd⟩
   ·exact⟨by simp[Instr.sliceBounds,vS (Ya hd hlc),vS hb,vS ha],ha,hb,hd⟩
theorem zg8{k:Nat}{els:List (List PV)}{a:Option Addr}{c l h m:Nat}(hv:VRel S (.ts k els) (.slice a els.length c))(hl:l<=h)(hh:h<=els.length)(hm:h<=m)(hmc:m<=c):
  VRel S (.ts k ((els.take h).drop l)) (.slice (if m=l then a else a.map (·.add (l*k))) (h-l) (m-l)):=by
 obtain⟨a',c',ad,val,he,h1,h2,h3,h4,h5,h6⟩:=uU hv;cases he;have hget: ∀i e,((els.take h).drop l)[i]? =some e->els[l+i]? =some e:=fun i e hi=>by
  rw[Yg,Xr] at hi;split at hi
  ·exact hi
  ·cases hi
 have hlen:((els.take h).drop l).length=h-l:=Qfh;refine .ts hlen Qf0 Qf0 (fun i e hi=>h3 _ e (hget i e hi)) (ad.add (l*k)) (fun hn=> ?_) (fun j=>val (l*k+j)) (fun j hj=> ?_) (fun i e j p hi hp=> ?_)
 ·rw[Qi Qf0,h4 Qf0];rfl
 ·rw[dA];refine h5 _ ?_;have:h*k<=els.length*k:=Zv k hh;rw[Nat.sub_mul] at hj;omega
 ·have:=h6 (l+i) e j p (hget i e hi) hp
  rwa [Wo,Ji] at this
theorem fV{s:ByteArray}(a b:Nat)(h:tJ (.string s)):tJ (.string (s.extract a b)):=by
 simp only[tJ] at h ⊢
 rw[ByteArray.size_extract];omega
theorem zfG(hS:SRel S){t:TypeId}{f:Operand->PV}{ρ:Operand->Value}{x:Operand}{lo hi mx:Option Operand}{p:PV}{c:Prop}(he:yI P S.h f (.slice t x lo hi mx)=some (p,c))(hc:c)
  (hx:VRel S (f x) (ρ x)) (hlo: ∀o,lo=some o->VRel S (f o) (ρ o)) (hhi: ∀o,hi=some o->VRel S (f o) (ρ o)) (hmx: ∀o,mx=some o->VRel S (f o) (ρ o)):
  ∃z,(Instr.sliceAt t (ρ x) (lo.map ρ) (hi.map ρ) (mx.map ρ)).run P S.w= .ok z S.w/\VRel S p z:=by
 simp only[yI,vL,wE] at he;split at he
 ·rename_i e hte;have hus:=tS hte;split at he
  case h_2=>cases he
  rename_i k els hq;split at he
  case isFalse=>cases he
  rename_i hs;have hx':=zt1 hq hx;obtain⟨a0,c0,ad,val,hv0,h1,h2,_⟩:=uU hx';rw[hv0] at hx' ⊢
  split at he
  ·split at he
   case h_2=>cases he
   rename_i b cb hb;split at he
   case h_2=>cases he
   rename_i a ca ha;cases he;obtain⟨⟨zoK,zxI⟩,hc3,hc4⟩:=hc;obtain⟨hr,hab,hbl⟩:=pU (S:=S) (P:=P) (isS:=true) h1 hb ha hc3 hc4 (rS hhi) (rS hlo);refine⟨_,?_,zg8 hx' hab hbl (Ya hbl h1) (Xe _)⟩;simp[Instr.sliceAt,Instr.slice,Xc hus,hr,zV hs]
  ·rename_i m;split at he
   case h_2=>cases he
   rename_i d cd hd;split at he
   case h_2=>cases he
   rename_i b cb hb;split at he
   case h_2=>cases he
   rename_i a ca ha;cases he;obtain⟨⟨zoK,zxI,hc3,hc4⟩,hc5,hc6,hc7⟩:=hc;obtain⟨hr,hab,hbd,hdl⟩:=lX (S:=S) (P:=P) h1 hd hb ha hc5 hc6 hc7 (hmx m rfl) (rS hhi) (rS hlo) (by simpa using hc4);subst zoK;refine⟨_,?_,.tc (zg8 (m:=b) hx' hab hdl (Xe _) (Ya hdl h1))⟩;simp[Instr.sliceAt,Instr.slice,Xc hus,hr,zV hs]
 ·split at he
  ·rename_i n e r o hta hfx;have hus:=pY hta;split at he
   case h_2=>cases he
   rename_i k tt cs hs hb;split at he
   case isFalse=>cases he
   rename_i hno;cases he;simp only[Qt,Option.isNone_iff_eq_none] at hno;obtain⟨⟨rfl,rfl⟩,rfl⟩:=hno;rw[hfx] at hx;generalize ρ x=u at hx ⊢
   cases hx with
   |ptr hp hb'=>
    rename_i b _ _;rw[hb] at hb';cases hb';obtain⟨b0,arr0,he0,hh0,hsz0,_⟩:=hS.blks _ _ _ hb hp;cases he0;refine⟨.slice (some ⟨b,o,none⟩) n n,?_,.ms hp hb hc.1 (Xe _) hc.2 ⟨arr0,_,_,hh0,Ya hc.1 hsz0⟩⟩;cases n with
    |zero=>simp[Instr.sliceAt,Xc hus,Instr.sureAddr,Instr.sliceBounds,zV hs]
    |succ n=>simp[Instr.sliceAt,Xc hus,Instr.sureAddr,Instr.sliceBounds,zV hs,Addr.add_zero']
   |optr hb'=>rw[hb] at hb';cases hb'
  ·rename_i n e cs hta hfx;have hus:=pY hta;split at he
   case isFalse=>cases he
   rename_i hno;cases he;obtain⟨hs,h1,h2,h3⟩:=hno;simp only[Option.isNone_iff_eq_none] at h1 h2 h3;subst h1;subst h2;subst h3;rw[hfx] at hx;generalize ρ x=u at hx ⊢
   cases hx with
   | tp val hv h=>
    rename_i a;obtain⟨zoK,zxI⟩:=hc;subst zoK;refine⟨.slice (some a) cs.length cs.length,?_,.ts Qf1 (Xe _) zxI (fun i e hi=> ?_) a (fun _=>rfl) val (fun j hj=>hv j Qf0) (fun i e j p hi hp=> ?_)⟩
    ·cases hn:cs.length with
     |zero=>simp[Instr.sliceAt,Xc hus,Instr.sureAddr,Instr.sliceBounds,zV hs,hn]
     |succ n=>simp[Instr.sliceAt,Xc hus,Instr.sureAddr,Instr.sliceBounds,zV hs,Addr.add_zero',hn]
    ·rw[Qu] at hi;cases hk:cs[i]? with
     |none=>rw[hk] at hi;cases hi
     |some q=>rw[hk] at hi;cases hi;rfl
    ·rw[Qu] at hi;cases hk:cs[i]? with
     |none=>rw[hk] at hi;cases hi
     |some q=>
      rw[hk] at hi;cases hi;cases j with
      |zero=>simp at hp;subst hp;simpa using h i _ hk
      |succ j=>simp at hp
  ·rename_i s hfx;split at he
   case isFalse=>cases he
   rename_i hno;obtain⟨hst,h3⟩:=hno;simp only[Option.isNone_iff_eq_none] at h3;subst h3;split at he
   case h_2=>cases he
   rename_i b cb hb;split at he
   case h_2=>cases he
   rename_i a ca ha;cases he;rw[hfx] at hx;generalize ρ x=u at hx ⊢
   cases hx with|sc hsc=>
   obtain⟨⟨zoK,zxI⟩,hc3,hc4⟩:=hc;obtain⟨hr,hab,hbl⟩:=pU (S:=S) (P:=P) (isS:=false) (Xe _) hb ha hc3 hc4 (rS hhi) (rS hlo);refine⟨_,?_,.sc (fV a b hsc)⟩;simp[Instr.sliceAt,Instr.slice,Xc (qL hst),hr]
  ·cases he
end
end Go.AL
namespace Go.AL
open Go.RowKit
section
variable{P:Program}{S:St}
theorem kS{f:Operand->PV}{ρ:Operand->Value}(l:Array Operand)(h: ∀x∈l,VRel S (f x) (ρ x)):
    (l.map ρ).size=(l.toList.map f).length/\ ∀(i:Nat)(p:PV)(v:Value),(l.toList.map f)[i]? =some p->(l.map ρ)[i]? =some v->VRel S p v:=by
  refine⟨Qf1,fun i p v hp hv=> ?_⟩;rw[Qu] at hp;rw[Array.getElem?_map] at hv;cases hk:l[i]? with
  |none=>rw[hk] at hv;cases hv
  | some x=>
    have hk':l.toList[i]? =some x:=Qft;rw[hk] at hv;rw[hk'] at hp;cases hv;cases hp;obtain⟨hi,rfl⟩:=Qz.1 hk;exact h _ (Array.getElem_mem hi)
theorem qA{α:Type}{a:Array α}{l:List α}(h:a.toList=l):a=l.toArray:=by cases a;simpa using h
theorem zeI{ρ:Operand->Value}{f:Operand->PV}{o:Oper}{p:PV}{c:Prop}(hS:SRel S)(hx: ∀x∈o.op.operands,VRel S (f x) (ρ x))
    (he:yI P S.h f o.op=some (p,c)) (hc:c): ∃v,(execOp ρ o).run P S.w= .ok (.value v) S.w/\VRel S p v:=by
  have fin: ∀{s:Sem Value},(∃z,s.run P S.w= .ok z S.w/\VRel S p z)-> ∃v,Sem.run P (do pure (.value (←s)):Sem Next) S.w= .ok (.value v) S.w/\VRel S p v:=fun⟨z,hz,hr⟩=>⟨z,by simp only[Xp,hz,Xd,Yc],hr⟩
  unfold execOp;cases hop:o.op with
  | move x=>
    rw[hop] at he hx;cases he;exact⟨_,rfl,hx x Qgh⟩
  | assign x=>
    rw[hop] at he hx;cases he;exact⟨_,rfl,hx x Qgh⟩
  | pick t a b=>
    rw[hop] at he hx;simp only[yI,vL,wE] at he;split at he
    · rename_i bb hb
      cases he;have h1:=hx t Qgh;rw[hb] at h1;refine⟨if bb then ρ a else ρ b,?_,aJ (hx a Qgh) (hx b Qgh)⟩;have h2:ρ t= .bool bb:=by generalize ρ t=u at h1;cases h1;rfl
      cases bb<;>simp[asBool,h2]
    · cases he
  | nilCheck x=>
    rw[hop] at he hx;simp only[yI,vL,wE] at he;have h1:=hx x Qgh;split at he;all_goals first
      |cases he;done
      | (rename_i hfx
         cases he;rw[hfx] at h1;simp only[];generalize ρ x=u at h1 ⊢
         cases h1<;>first
           |exact⟨_,rfl,by assumption⟩
           |exact⟨_,rfl,.optr Qfg⟩
           |(refine⟨_,rfl,?_⟩;first|exact .ptr Qfg Qfg|exact .tp _ Qfg Qfg|exact .fn Qfg Qfg Qfg Qfg|exact .yl Qfg Qfg|exact .ifc Qfg))
  | binOp op t x y yt=>
    rw[hop] at he hx;simp only[yI,vL,wE] at he;exact fin (zkV he hc (hx x Qgh) (hx y Qgh))
  | unOp op t x=>
    rw[hop] at he hx;simp only[yI,vL,wE] at he;refine fin ?_;have h1:=hx x Qgh;split at he
    · rename_i b hfx
      cases he;rw[hfx] at h1;generalize ρ x=u at h1 ⊢
      cases h1;exact⟨_,rfl,.sc trivial⟩
    · rename_i k n hfx
      cases he;rw[hfx] at h1;generalize ρ x=u at h1 ⊢
      cases h1;exact⟨_,rfl,.sc (pC _ _)⟩
    · rename_i k n hfx
      cases he;rw[hfx] at h1;generalize ρ x=u at h1 ⊢
      cases h1;exact⟨_,rfl,.sc (lB _ _ _ _)⟩
    · cases he
  | convert s d x=>
    rw[hop] at he hx;simp only[yI,vL,wE] at he;refine fin ?_;have h1:=hx x Qgh;split at he
    · rename_i k ik n hti hfx
      split at he
      case isFalse=>cases he
      rename_i hu;cases he;rw[hfx] at h1;generalize ρ x=u at h1 ⊢
      cases h1;obtain⟨ds,hds⟩:=Zz.1 hu;refine⟨.int k (k.wrap n),?_,.sc (pC _ _)⟩;simp[convert,Xc hds,Xc (cK hti),Conv.intToInt]
    · rename_i b hfx
      split at he
      case isFalse=>cases he
      rename_i hu;cases he;rw[hfx] at h1;generalize ρ x=u at h1 ⊢
      cases h1 with|sc hb=>
      obtain⟨ds,hds⟩:=Zz.1 hu.2;refine⟨.string b,?_,.sc hb⟩;simp[convert,Xc hds,Xc (qL hu.1)]
    · cases he
  | makeInterface t x=>
    rw[hop] at he hx;simp only[yI,vL,wE] at he;split at he
    case isFalse=>cases he
    rename_i ht;cases he;refine fin ⟨.iface t (ρ x),?_,.ifc (hx x Qgh)⟩;unfold zg9 at ht;split at ht
    · cases ht
    · rename_i d hne hd
      simp only[Instr.makeInterface,Xp,Xc hd,Xd];rfl
    · cases ht
  | makeFunc fn a b=>
    rw[hop] at he hx;cases he;obtain⟨h1,h2⟩:=kS (S:=S) (f:=f) (ρ:=ρ) a (fun x hxm=>hx x (by simp[Op.operands,hxm]));obtain⟨h3,h4⟩:=kS (S:=S) (f:=f) (ρ:=ρ) b (fun x hxm=>hx x (by simp[Op.operands,hxm]));exact fin ⟨_,rfl,.fn h1 h3 h2 h4⟩
  | field t x i=>
    rw[hop] at he hx;simp only[yI,vL,wE] at he;exact fin (zf6 he hc (hx x Qgh))
  | fieldAddr t x i=>
    rw[hop] at he hx;simp only[yI,vL,wE] at he;exact fin (fY he (hx x Qgh))
  | indexAddr t x i=>
    rw[hop] at he hx;simp only[yI,vL,wE] at he;exact fin (fX he hc (hx x Qgh) (hx i Qgh))
  | index t x i=>
    rw[hop] at he hx;simp only[yI,vL,wE] at he;exact fin (zf0 he hc (hx x Qgh) (hx i Qgh))
  | load t x=>
    rw[hop] at he hx;simp only[yI,vL,wE] at he;exact fin (zjC hS he hc (hx x Qgh))
  | extract x i=>
    rw[hop] at he hx;simp only[yI,vL,wE] at he;refine fin ?_;have h1:=hx x Qgh;split at he
    · rename_i vs hfx
      cases he;rw[hfx] at h1;generalize ρ x=u at h1 ⊢
      cases h1 with
      | tup hl h=>
        rename_i us;have hv:us[i]? =some us[i]:=Qx Qf0;have hp:vs[i]? =some vs[i]:=Qa hc;refine⟨us[i],by simp[Instr.extract,hv],?_⟩;rw[Qb,hp];exact h i _ _ hp hv
    · cases he
  | slice t x lo hi mx=>
    rw[hop] at he hx;exact fin (zfG hS he hc (hx x Qgh) (fun o ho=>hx o Qh5) (fun o ho=>hx o Qh5) (fun o ho=>hx o Qh5))
  | call cl=>
    rw[hop] at he hx;simp only[yI,vL,wE] at he;split at he
    · rename_i x t mM hca hct
      obtain⟨z,hz,hr⟩:=zlX (P:=P) (S:=S) (ty:=o.type) he (hx x (by simp[Op.operands,Call.operands,mM];rw[<-Jv,hca];simp));refine⟨z,?_,hr⟩;have e1:cl.args= #[x]:=qA hca;have e2:cl.argTypes= #[t]:=qA hct;simp[resolve,invoke,builtin,mM,e1,e2,hz]
    · rename_i _ x y mM hca
      have e1:cl.args= #[x,y]:=qA hca;have h1:=hx x Qhe;have h2:=hx y Qhe;split at he
      case h_2=>cases he
      rename_i k a k' b hfx hfy;split at he
      case isFalse=>cases he
      rename_i hk;subst hk;cases he;rw[hfx] at h1;rw[hfy] at h2;have g1:ρ x= .int k a/\tJ (.int k a):=Qhs;have g2:ρ y= .int k b/\tJ (.int k b):=Qht;refine⟨_,?_,.sc (by split;exact g2.2;exact g1.2)⟩;simp[resolve,invoke,builtin,mM,e1,g1.1,g2.1,Builtin.max_,Builtin.max2]
    · rename_i _ x y mM hca
      have e1:cl.args= #[x,y]:=qA hca;have h1:=hx x Qhe;have h2:=hx y Qhe;split at he
      case h_2=>cases he
      rename_i k a k' b hfx hfy;split at he
      case isFalse=>cases he
      rename_i hk;subst hk;cases he;rw[hfx] at h1;rw[hfy] at h2;have g1:ρ x= .int k a/\tJ (.int k a):=Qhs;have g2:ρ y= .int k b/\tJ (.int k b):=Qht;refine⟨_,?_,.sc (by split;exact g2.2;exact g1.2)⟩;simp[resolve,invoke,builtin,mM,e1,g1.1,g2.1,Builtin.min_,Builtin.min2]
    · cases he
  |_=>rw[hop] at he;cases he
end
end Go.AL
namespace Go.AL
open Go.RowKit
def sY:Value->Value->Bool
 | .int k n,.int k' n'=>decide (k=k')&&decide (n=n')
 | .bool a,.bool b=>decide (a=b)
 | .string s,.string s'=>decide (s=s')
 | .nilIface,.nilIface=>true
 | .nilFunc,.nilFunc=>true
 | .pointer none,.pointer none=>true
 | .map none,.map none=>true
 |_,_=>false
theorem jZ{a b:Value}(h:sY a b=true):a=b:=by
 unfold sY at h;split at h<;>simp_all
def pF:TypeDesc->Value->Bool
 | .bool,.bool _=>true
 | .int k,.int k' _=>decide (k'=k)
 | .string,.string _=>true
 |_,_=>false
theorem uM{d:TypeDesc}{v:Value}(h:pF d v=true):MapKept.IsKey d v:=by
 unfold pF at h;split at h
 ·trivial
 ·rename_i k k' n;exact(Xj h:k'=k)
 ·trivial
 ·cases h
def vV(k:Value):List (Value×PV)->Nat->Option (Nat×PV)
 | [],_=>none
 |x::xs,i=>if sY k x.1 then some (i,x.2) else vV k xs (i+1)
theorem gB{d:TypeDesc}{a b:Value}(ha:MapKept.IsKey d a)(hb:MapKept.IsKey d b):Instr.sameNow d a b=some (sY a b):=by
 cases d<;>cases a<;>cases b<;>simp_all[MapKept.IsKey,Instr.sameNow,sY]
 ·rw[Jo];simp
 ·rw[Jo,Zm,Wz]
 ·rw[Jo,MapKept.bytes_beq,Wz]
theorem qR{d:TypeDesc}{k:Value}(hk:MapKept.IsKey d k): ∀(es:List (Value×PV))(l:List MapEntry)(i:Nat),l.length=es.length->(∀(j:Nat)(e:MapEntry)(q:Value×PV),l[j]? =some e->es[j]? =some q->e.key=q.1)->
  (∀q∈es,pF d q.1=true)->
  (vV k es i=none/\Instr.findNow d k l i=some none/\ ∀q∈es,sY k q.1=false)\/ ∃(j:Nat)(q:Value×PV)(e:MapEntry),vV k es i=some (i+j,q.2)/\es[j]? =some q/\l[j]? =some e/\Instr.findNow d k l i=some (some (i+j,e.val))/\e.key=k:=by
 intro es
 induction es with
 |nil=>
  intro l i hl _ _;have:l=[]:=Xi Qfu;subst this;exact .inl ⟨rfl,rfl,Qf1⟩
 | cons q es ih=>
  intro l i hl hk' hd;cases l with
  |nil=>simp at hl
  | cons e l=>
   have h0:=hk' 0 e q rfl rfl;have hs:=gB hk (uM (hd q (Qe ..)));rw[<-h0] at hs;simp only[vV,Instr.findNow,hs];cases hv:sY k e.key with
   |true=>
    refine .inr ⟨0,q,e,?_,rfl,rfl,rfl,(jZ hv).symm⟩;rw[<-h0,hv];rfl
   | false=>
    rw[<-h0,hv];simp only[Zo,Wr];rcases ih l (i+1) Qfu (fun j e q h1 h2=>hk' (j+1) e q (by simpa using h1) (by simpa using h2)) (fun q hq=>hd q (Qf _ hq)) with ⟨a,b,c⟩|⟨j,q',e',a,b,c,d',f⟩
    ·refine .inl ⟨a,b,fun q' hq'=> ?_⟩;rcases Qw.1 hq' with rfl|hq'
     ·rw[<-h0];exact hv
     ·exact c q' hq'
    ·exact .inr ⟨j+1,q',e',by rw[a];congr 2;omega,by simpa using b,by simpa using c,by rw[d'];congr 3;omega,f⟩
def kC(P:Program)(t:TypeId):Option (TypeId×TypeDesc×TypeId):=match P.underlying t with
 |some (.map k e)=>(P.underlying k).map fun d=>(k,d,e)
 |_=>none
theorem ydV{P:Program}{t k e:TypeId}{d:TypeDesc}(h:kC P t=some (k,d,e)):P.underlying t=some (.map k e)/\P.underlying k=some d:=by
 unfold kC at h;split at h
 ·rename_i k' e' hu;cases hd:P.underlying k' with
  |none=>rw[hd] at h;cases h
  |some d'=>rw[hd] at h;cases h;exact⟨hu,hd⟩
 ·cases h
def oS(h:Heap):PV->Option (List (Value×PV))
 | .mp r=>match h[r]? with
  |some (.map es)=>some es
  |_=>none
 | .sc (.map none)=>some []
 |_=>none
def xQ{α:Type}[CK α](P:Program)(h:Heap)(t:TypeId)(ok:Bool)(m:PV):PV->Option (PV×α)
 | .sc kv=>match kC P t with
  | some (_,d,e)=>match oS h m,(P.info? e).bind (·.zero) with
   | some es,some z=>if pF d kv&&es.all (fun x=>pF d x.1) then
     match vV kv es 0 with
     |some (_,p)=>some (if ok then .tup [p,.sc (.bool true)] else p,CK.cnd True)
     |none=>some (if ok then .tup [nI z,.sc (.bool false)] else nI z,CK.cnd True)
    else none
   |_,_=>none
  |none=>none
 |_=>none
section
variable{P:Program}{S:St}
theorem lO{t:TypeId}{z:Value}(h:(P.info? t).bind (·.zero)=some z)(w:World):(zeroValue t).run P w= .ok z w:=by
 exact Qcc
theorem zaB(hS:SRel S){t:TypeId}{ok:Bool}{m k p:PV}{c:Prop}{u v:Value}(he:xQ P S.h t ok m k=some (p,c))(hu:VRel S m u)(hv:VRel S k v):
  ∃z,(Instr.lookup t u v ok).run P S.w= .ok z S.w/\VRel S p z:=by
 unfold xQ at he;split at he
 case h_2=>cases he
 rename_i kv;have hkv:v=kv:=by cases hv;rfl
 subst hkv;split at he
 case h_2=>cases he
 rename_i kt d e ht;obtain⟨h1,h2⟩:=ydV ht;split at he
 case h_2=>cases he
 rename_i es z hes hz;split at he
 case isFalse=>cases he
 rename_i hkb;rw[Qt,Xg] at hkb;have fin: ∀(l:List MapEntry)(x:Value),(x= .map none/\l=[]\/ ∃b cl ar,x= .map (some b)/\S.w.heap[b]? =some (.map ar cl)/\ar.toList=l)->u=x->l.length=es.length->
   (∀(j:Nat)(e:MapEntry)(q:Value×PV),l[j]? =some e->es[j]? =some q->e.key=q.1/\VRel S q.2 e.val)-> ∃z,(Instr.lookup t u v ok).run P S.w= .ok z S.w/\VRel S p z:=by
  rintro l x hx rfl hl hrel;have run: ∀r,Instr.findNow d v l 0=some r->(Instr.lookup t u v ok).run P S.w=(match r with
    |some (_,y)=> .ok (if ok then .tuple #[y,.bool true] else y) S.w
    |none=> .ok (if ok then .tuple #[z,.bool false] else z) S.w):=by
   intro r hr;rcases hx with ⟨rfl,rfl⟩|⟨b,cl,ar,rfl,hb,rfl⟩
   ·simp only[Instr.lookup,Xp,Xc h1,Xd,Yc,MapKept.run_checkKey h2 (uM hkb.1) _ 9999,MapKept.run_findKey h2 hr];exact Qdr
   ·simp only[Instr.lookup,Xp,Xc h1,Xd,Yc,MapKept.run_getObj_map hb,MapKept.run_checkKey h2 (uM hkb.1) _ 9999,MapKept.run_findKey h2 hr];exact Qdr
  rcases qR (uM hkb.1) es l 0 hl (fun j e q a b=>(hrel j e q a b).1) (fun q hq=>hkb.2 q hq) with ⟨a,b,_⟩|⟨j,q,e',a,b,c',d',_⟩
  ·rw[a] at he;refine⟨_,run _ b,?_⟩;simp only[Option.some.injEq,Ys] at he;obtain⟨rfl,_⟩:=he;cases ok
   ·exact sN S z
   ·refine .tup rfl fun i p y hp hy=> ?_
    match i with
    |0=>simp at hp hy;subst hp;subst hy;exact sN S z
    |1=>simp at hp hy;subst hp;subst hy;exact .sc trivial
    |i+2=>simp at hp
  ·rw[a] at he;refine⟨_,run _ d',?_⟩;simp only[Option.some.injEq,Ys] at he;obtain⟨rfl,_⟩:=he;have hq:=(hrel j e' q c' b).2;exact Qbc
 unfold oS at hes;split at hes
 ·rename_i r;split at hes
  ·rename_i es' hb;cases hes;cases hu with
   |mp hp hb'=>
    obtain⟨b',cl,ar,he',hh,hsz,_,hrel⟩:=hS.blks r _ _ hb hp;cases he';exact fin ar.toList _ (.inr ⟨_,cl,ar,rfl,hh,rfl⟩) rfl Qg7 (fun j e q hj hq=>hrel j e q Qfv hq)
  ·cases hes
 ·cases hes;cases hu;exact fin [] _ (.inl ⟨rfl,rfl⟩) rfl rfl Qf1
 ·cases hes
def zcT(P:Program)(t:TypeId)(cs:List PV)(off:Nat):Option PV:=
 match xL P t,dD P t with
 |some s,some true=>if off+s<=cs.length then some (.agg ((cs.drop off).take s)) else none
 |some _,some false=>if off<cs.length then some (cs.getD off .un) else none
 |_,_=>none
def znN(P:Program)(r:TypeId->PV->PV->Option Bool):List Field->List PV->List PV->Option Bool
 | [],_,_=>some true
 | f::fs,xs,ys=>if f.name= "_" then none else match zcT P f.type xs f.offset,zcT P f.type ys f.offset with
  |some p,some q=>match r f.type p q,znN P r fs xs ys with
   |some b,some b'=>some (b&&b')
   |_,_=>none
  |_,_=>none
def zeW(P:Program):Nat->TypeId->PV->PV->Option Bool
 |0,_,_,_=>none
 |n+1,t,p,q=>match P.underlying t,p,q with
  |some .bool,.sc (.bool a),.sc (.bool b)=>some (a==b)
  |some (.int _),.sc (.int k a),.sc (.int k' b)=>if k=k' then some (a==b) else none
  |some .string,.sc (.string a),.sc (.string b)=>some (decide (a=b))
  |some (.struct fs),.agg xs,.agg ys=>if P.stoodInHeld t then none else znN P (zeW P n) fs.toList xs ys
  |_,_,_=>none
theorem bO{t:TypeId}{cs:List PV}{vs:Array Value}{off:Nat}{p:PV}(hl:vs.size=cs.length)(h1: ∀(i:Nat)(u:Value),vs[i]? =some u->u.oneCell'=true)
  (h: ∀(i:Nat)(p:PV)(u:Value),cs[i]? =some p->vs[i]? =some u->VRel S p u) (he:zcT P t cs off=some p): ∃v,(part t vs off).run P S.w= .ok v S.w/\VRel S p v:=by
 unfold zcT at he;split at he
 ·rename_i s hs hg;split at he
  ·rename_i hle;cases he;exact lA (c:=off+s<=cs.length) hl h1 h (by rw[hs,hg]) hle
  ·cases he
 ·rename_i s hs hg;split at he
  ·rename_i hle;cases he;exact lA (c:=off<cs.length) hl h1 h (by rw[hs,hg]) hle
  ·cases he
 ·cases he
theorem zkT: ∀(n:Nat)(t:TypeId)(p q:PV)(b:Bool)(x y:Value)(m:Nat),zeW P n t p q=some b->n<=m->VRel S p x->VRel S q y->(Op.equalIn m t x y).run P S.w= .ok b S.w:=by
 intro n
 induction n with
 |zero=>intro t p q b x y m h;cases h
 | succ n ih=>
  intro t p q b x y m h hm hx hy;obtain⟨m,rfl⟩: ∃m',m=m'+1:=⟨m-1,Qf0⟩
  simp only[zeW] at h;split at h
  ·rename_i a c hu;cases h;cases hx;cases hy;exact run_equalIn_bool' S.w m t a c hu
  ·rename_i kk k a k' c hu;split at h
   ·rename_i hk;subst hk;cases h;cases hx;cases hy;exact run_equalIn_int S.w m t k kk a c hu
   ·cases h
  ·rename_i a c hu;cases h;cases hx;cases hy;rw[run_equalIn_string S.w m t a c hu,nM]
  ·rename_i fs xs ys hu;split at h
   ·cases h
   ·rename_i hst;have hf:P.fieldsOf t=fs:=by simp[Program.fieldsOf,hu]
    cases hx with|agg hxl hx1 hxr=>
    cases hy with|agg hyl hy1 hyr=>
    rename_i us vs;rw[run_equalIn_struct S.w m t us vs (by rw[hf];exact hu) (by simpa using hst),hf];generalize fs.toList=fl at h;clear hu hf
    induction fl generalizing b with
    |nil=>cases h;rfl
    | cons f fl ihf=>
     simp only[znN] at h;split at h
     ·cases h
     ·rename_i hn;split at h
      ·rename_i p' q' hp' hq';split at h
       ·rename_i b1 b2 hb1 hb2;cases h;obtain⟨x',hx',rx⟩:=bO hxl hx1 hxr hp';obtain⟨y',hy',ry⟩:=bO hyl hy1 hyr hq';have:=ih f.type p' q' b1 x' y' m hb1 Qf0 rx ry;simp only[Op.eqFields,hn,ne_eq,not_false_eq_true,Wk,Xp,hx',hy',this,Xd];cases b1 with
        |true=>simpa using ihf b2 hb2
        |false=>simp
       ·cases h
      ·cases h
  ·cases h
def zeS(P:Program)(t:TypeId):Bool:=match P.underlying t with|some (.pointer _)=>true|_=>false
def bV(P:Program)(t:TypeId):Bool:=match P.underlying t with|some (.func ..)=>true|_=>false
def zcP(P:Program)(t:TypeId):Bool:=match P.underlying t with|some (.map ..)=>true|_=>false
def tifc(P:Program)(t:TypeId):Bool:=match P.underlying t with|some (.interface _)=>true|_=>false
def za2{α:Type}[CK α](P:Program)(t:TypeId)(p q:PV):Option (Bool×α):=
 match p,q with
 | .nil,.nil=>if (wX P t).isSome then some (true,CK.cnd True) else none
 | .ts _ els,.nil=>if (wX P t).isSome then some (false,CK.cnd (0<els.length)) else none
 | .tc _ els,.nil=>if (wX P t).isSome then some (false,CK.cnd (0<els.length)) else none
 | .vec _ _ els,.nil=>if (wX P t).isSome then some (false,CK.cnd (0<els.length)) else none
 | .ms ..,.nil=>if (wX P t).isSome then some (false,CK.cnd True) else none
 | .ptr ..,.sc (.pointer none)=>if zeS P t then some (false,CK.cnd True) else none
 | .tp ..,.sc (.pointer none)=>if zeS P t then some (false,CK.cnd True) else none
 | .sc (.pointer none),.sc (.pointer none)=>if zeS P t then some (true,CK.cnd True) else none
 | .fn ..,.sc .nilFunc=>if bV P t then some (false,CK.cnd True) else none
 | .sc .nilFunc,.sc .nilFunc=>if bV P t then some (true,CK.cnd True) else none
 | .mp ..,.sc (.map none)=>if zcP P t then some (false,CK.cnd True) else none
 | .sc (.map none),.sc (.map none)=>if zcP P t then some (true,CK.cnd True) else none
 | .ifc ..,.sc .nilIface=>if tifc P t then some (false,CK.cnd True) else none
 | .agg xs,.agg ys=>if P.eqGuardType P.depth t then none else(zeW P 20 t (.agg xs) (.agg ys)).map fun b=>(b,CK.cnd True)
 |_,_=>none
theorem mB{t:TypeId}{x y:Value}{b:Bool}(h:(Op.equalIn 10000 t x y).run P S.w= .ok b S.w)(h1: ∀k a,x≠ .int k a)(h2: ∀k a,x≠ .float k a)(h3: ∀k a a',x≠ .complex k a a')(h4: ∀a,x≠ .string a):
  (binOp .eql t x y).run P S.w= .ok (.bool b) S.w/\(binOp .neq t x y).run P S.w= .ok (.bool !b) S.w:=by
 have e1:(Op.equal t x y).run P S.w= .ok b S.w:=h;cases x<;>first
  |exact absurd rfl (h1 _ _)
  |exact absurd rfl (h2 _ _)
  |exact absurd rfl (h3 _ _ _)
  |exact absurd rfl (h4 _)
  |exact⟨by simp only[binOp,Xp,e1,Xd,Yc],by simp only[binOp,Xp,e1,Xd,Yc]⟩
theorem mA{op:BinOp}{t:TypeId}{x y:Operand}{u v:Value}(h1: ∀vs,u≠ .agg vs)(h2:v≠ .nilIface\/u≠ .nilIface):(eqGuard op t x y u v).run P S.w= .ok () S.w:=by
 cases op<;>first
  |rfl
  | (cases u<;>first
    |exact absurd rfl (h1 _)
    |rfl
    | (cases v<;>first
      |rfl
      |(rcases h2 with h2|h2<;>exact absurd rfl h2)))
theorem zcE{t:TypeId}{p q:PV}{b:Bool}{c:Prop}{x y:Operand}{u v:Value}(he:za2 P t p q=some (b,c))(hc:c)(hu:VRel S p u)(hv:VRel S q v):
  ((do eqGuard .eql t x y u v;binOp .eql t u v:Sem Value)).run P S.w= .ok (.bool b) S.w/\((do eqGuard .neq t x y u v;binOp .neq t u v:Sem Value)).run P S.w= .ok (.bool !b) S.w:=by
 have tsl:(wX P t).isSome=true-> ∃e,P.underlying t=some (.slice e):=fun h=>by
  obtain⟨e,he⟩:=Zz.1 h;exact⟨e,tS he⟩
 have fin:(∀d,(Op.equalIn (d+1) t u v).run P S.w= .ok b S.w)->(∀k a,u≠ .int k a)->(∀k a,u≠ .float k a)->(∀k a a',u≠ .complex k a a')->(∀a,u≠ .string a)->(∀vs,u≠ .agg vs)->(v≠ .nilIface\/u≠ .nilIface)->
   ((do eqGuard .eql t x y u v;binOp .eql t u v:Sem Value)).run P S.w= .ok (.bool b) S.w/\((do eqGuard .neq t x y u v;binOp .neq t u v:Sem Value)).run P S.w= .ok (.bool !b) S.w:=by
  intro h a1 a2 a3 a4 a5 a6;obtain⟨e1,e2⟩:=mB (P:=P) (S:=S) (t:=t) (h 9999) a1 a2 a3 a4;simp only[Xp,mA a5 a6,Xd,e1,e2,and_self]
 have sl: ∀(a a':Option Addr)(n m n' m':Nat),(wX P t).isSome=true->u= .slice a n m->v= .slice a' n' m'->a'=none->b=a.isNone->
   ((do eqGuard .eql t x y u v;binOp .eql t u v:Sem Value)).run P S.w= .ok (.bool b) S.w/\((do eqGuard .neq t x y u v;binOp .neq t u v:Sem Value)).run P S.w= .ok (.bool !b) S.w:=by
  rintro a a' n m n' m' ht rfl rfl rfl rfl;obtain⟨e,hte⟩:=tsl ht;refine fin (fun d=> ?_) Qf1 Qf1 Qf1 Qf1 Qf1 (.inl Qf1);cases a<;>simp only[Op.equalIn,Xp,Xc hte,Xd,Yc,Option.isNone]
 have tsu: ∀{k:Nat}{els:List (List PV)}{z:Value},VRel S (.ts k els) z->0<els.length-> ∃a n m,z= .slice (some a) n m:=by
  intro k els z h hl;cases h with
  |ts hl' hc hm hk ad ha val hv h=>exact⟨ad,_,_,by rw[ha Qf0]⟩
 unfold za2 at he;split at he
 ·split at he
  ·rename_i ht;cases he;cases hu;cases hv;exact sl _ _ _ _ _ _ ht rfl rfl rfl rfl
  ·cases he
 ·split at he
  ·rename_i ht;cases he;cases hv;obtain⟨a,n,m,rfl⟩:=tsu hu hc;exact sl _ _ _ _ _ _ ht rfl rfl rfl rfl
  ·cases he
 ·split at he
  ·rename_i ht;cases he;cases hv;cases hu with|tc hu=>obtain⟨a,n,m,h⟩:=tsu hu hc;exact sl _ _ _ _ _ _ ht h rfl rfl rfl
  ·cases he
 ·split at he
  ·rename_i ht;cases he;cases hv;cases hu with|vec hu=>obtain⟨a,n,m,h⟩:=tsu hu hc;exact sl _ _ _ _ _ _ ht h rfl rfl rfl
  ·cases he
 ·split at he
  ·rename_i ht;cases he;cases hv;cases hu<;>exact sl _ _ _ _ _ _ ht rfl rfl rfl rfl
  ·cases he
 ·split at he
  ·rename_i ht;cases he;cases hv;unfold zeS at ht;split at ht
   ·rename_i e hu';cases hu<;>exact fin (fun d=>by simp only[Op.equalIn,Xp,Xc hu',Xd,Yc,Option.isNone]) Qf1 Qf1 Qf1 Qf1 Qf1 (.inr Qf1)
   ·cases ht
  ·cases he
 ·split at he
  ·rename_i ht;cases he;cases hv;unfold zeS at ht;split at ht
   ·rename_i e hu';cases hu with|tp=>exact fin (fun d=>by simp only[Op.equalIn,Xp,Xc hu',Xd,Yc,Option.isNone]) Qf1 Qf1 Qf1 Qf1 Qf1 (.inr Qf1)
   ·cases ht
  ·cases he
 ·split at he
  ·rename_i ht;cases he;cases hv;cases hu;unfold zeS at ht;split at ht
   ·rename_i e hu';exact fin (fun d=>by simp only[Op.equalIn,Xp,Xc hu',Xd,Yc,Option.isNone]) Qf1 Qf1 Qf1 Qf1 Qf1 (.inr Qf1)
   ·cases ht
  ·cases he
 ·split at he
  ·rename_i ht;cases he;cases hv;unfold bV at ht;split at ht
   ·rename_i hu';cases hu with|fn=>exact fin (fun d=>by simp only[Op.equalIn,Xp,Xc hu',Xd,Yc,Option.isNone]) Qf1 Qf1 Qf1 Qf1 Qf1 (.inr Qf1)
   ·cases ht
  ·cases he
 ·split at he
  ·rename_i ht;cases he;cases hv;cases hu;unfold bV at ht;exact Qbj
  ·cases he
 ·split at he
  ·rename_i ht;cases he;cases hv;unfold zcP at ht;split at ht
   ·rename_i hu';cases hu with|mp=>exact fin (fun d=>by simp only[Op.equalIn,Xp,Xc hu',Xd,Yc,Option.isNone]) Qf1 Qf1 Qf1 Qf1 Qf1 (.inr Qf1)
   ·cases ht
  ·cases he
 ·split at he
  ·rename_i ht;cases he;cases hv;cases hu;unfold zcP at ht;exact Qbj
  ·cases he
 ·split at he
  ·rename_i ht;cases he;cases hv;unfold tifc at ht;split at ht
   ·rename_i hu';cases hu with|ifc=>exact fin (fun d=>by simp only[Op.equalIn,Xp,Xc hu',Xd,Yc,Option.isNone]) Qf1 Qf1 Qf1 Qf1 Qf1 (.inr Qf1)
   ·cases ht
  ·cases he
 ·rename_i xs ys;split at he
  ·cases he
  ·rename_i hg;cases hq:zeW P 20 t (.agg xs) (.agg ys) with
   |none=>rw[hq] at he;cases he
   |some b'=>
    rw[hq] at he;cases he;have h1:=zkT 20 t _ _ _ u v 10000 hq Qf0 hu hv;cases hu with|agg=>
    cases hv with|agg=>
    have hg':P.eqGuardType P.depth t=false:=by simpa using hg
    simp only[Xp,run_eqGuard_agg S.w _ t _ _ _ _ hg',Xd,run_eql_struct,run_neq_struct,h1,and_self]
 ·cases he
end
end Go.AL
namespace Go.AL
open Go.RowKit
def xH(s:ByteArray):List (List PV):=s.data.toList.map fun c=>[.sc (.int .u8 c.toNat)]
theorem xC(s:ByteArray):(xH s).length=s.size:=by
 unfold xH;rw[Qr,Wq];rfl
def znO:List (List PV)->Option (List UInt8)
 | []=>some []
 | [.sc (.int .u8 n)]::l=>if 0<=n/\n<256 then(znO l).map (UInt8.ofNat n.toNat:: ·) else none
 |_=>none
def bytesOf(els:List (List PV)):Option ByteArray:=(znO els).map fun l=>⟨l.toArray⟩
theorem ztS: ∀l:List UInt8,znO (l.map fun c=>[.sc (.int .u8 c.toNat)])=some l
 | []=>rfl
 |c::l=>by
  have h:=UInt8.toNat_lt c;rw[Xa];unfold znO;rw[Qj ⟨Qf0,Qf0⟩,ztS l,Wh,Xw];simp
theorem zw1(s:ByteArray):bytesOf (xH s)=some s:=by
 unfold bytesOf xH;rw[ztS];rfl
theorem ztT: ∀{els:List (List PV)}{l:List UInt8},znO els=some l->els=l.map fun c=>[.sc (.int .u8 c.toNat)]
 | [],l,h=>by cases h;rfl
 | e ::els,l,h=>by
  unfold znO at h;split at h
  ·rename_i he;cases he
  ·rename_i n l' he;cases he;split at h
   ·rename_i hn;cases hb:znO els with
    |none=>rw[hb] at h;cases h
    |some m=>
     rw[hb] at h;cases h;rw[Xa,<-ztT hb];have:((UInt8.ofNat n.toNat).toNat:Int)=n:=Qfh;rw[this]
   ·cases h
  ·cases h
theorem zvY{els:List (List PV)}{s:ByteArray}(h:bytesOf els=some s):els=xH s:=by
 unfold bytesOf at h;cases hb:znO els with
 |none=>rw[hb] at h;cases h
 |some l=>
  rw[hb] at h;cases h;rw[ztT hb];rfl
def zx4(P:Program)(s d:TypeId)(p:PV):Option PV:=
 match wX P s with
 | some e=>if zeT P e=some .u8/\gJ P d=true then
   match zaG p with
   |some (1,els)=>(bytesOf els).map fun b=> .sc (.string b)
   |_=>match p with
    | .nil=>some (.sc (.string ⟨#[]⟩))
    |_=>none
  else none
 |none=>none
theorem cO: ∀(l:List UInt8)(r:ByteArray),(l.map fun b=>((b.toNat:Nat):Int)).foldl (fun r n=>r.push (UInt8.ofNat n.toNat)) r=⟨r.data++l.toArray⟩
 | [],r=>by simp
 |b::l,r=>by
  rw[Xa,Yw,cO l];have e:UInt8.ofNat (Int.toNat ((b.toNat:Nat):Int))=b:=Qf1;rw[e];have e2:(r.push b).data=r.data.push b:=rfl;rw[e2];congr 1;apply Array.ext';simp
theorem zu3{P:Program}{S:St}{src dst e:TypeId}{p:PV}{v:Value}{bs:ByteArray}(h1:VRel S p v)(hx:zaG p=some (1,xH bs)\/(p= .nil/\bs= .empty))
  (hs:P.underlying src=some (.slice e)) (he:P.underlying e=some (.int .u8)) (hd:P.underlying dst=some .string):(convert src dst v).run P S.w= .ok (.string bs) S.w/\bs.size<=maxLen:=by
 rcases hx with hx|⟨hx,hb⟩
 ·have h2:=zt1 hx h1;obtain⟨a,c,ad,val,e1,g1,g2,g3,g4,g5,g6⟩:=uU h2;rw[xC] at e1 g1 g4;rw[e1,run_convert_bytes_string S.w src dst e a _ c hs he hd];refine⟨?_,Qf0⟩;have hload: ∀a',(bs.size≠0->a'=ad)->(loadCells a' bs.size).run P S.w= .ok ((bs.data.toList.map fun b=>((b.toNat:Nat):Int)).map (Value.int .u8)).toArray S.w:=by
   intro a' ha';have hl:((bs.data.toList.map fun b=>((b.toNat:Nat):Int)).map (Value.int .u8)).length=bs.size*1:=by
    rw[Qr,Qr,Wq,Ju];rfl
   have:=run_firstCells_some (P:=P) S.w 1 bs.size a' bs.size c _ hl (fun j u hu=>by
    have hj:j<bs.size:=by have:=(gsi hu).1;omega
    rw[ha' Qf0];have hM:=g5 j (by rw[xC];omega);rw[Zg,Qu] at hu;cases hc:bs.data.toList[j]? with
    |none=>rw[hc] at hu;cases hu
    |some b=>
     rw[hc] at hu;cases hu;have hq:(xH bs)[j]? =some [.sc (.int .u8 b.toNat)]:=by unfold xH;rw[Qu,hc];rfl
     have hr:=g6 j _ 0 _ hq rfl;rw[Ju,Wn] at hr;have hM1:=hM.1;generalize val j=u at hr hM1;cases hr;exact hM1)
   simpa [Builtin.firstCells] using this
  have hfold:(bs.data.toList.map fun b=>((b.toNat:Nat):Int)).foldl (fun r n=>r.push (UInt8.ofNat n.toNat)) ByteArray.empty=bs:=by
   rw[cO];apply ByteArray.ext;apply Array.ext';show(#[]++bs.data.toList.toArray:Array UInt8).toList=bs.data.toList;simp
  cases a with
  |none=>
   have h0:bs.size=0:=Yv fun hn=>by have:=g4 hn;cases this
   have:bs= .empty:=ByteArray.ext (Yu h0);rw[this];simp[Conv.bytesToString]
  |some a'=>
   have:=run_bytesToString (P:=P) S.w a' bs.size c _ (hload a' fun hn=>by have:=g4 hn;cases this;rfl);rw[hfold] at this;exact this
 ·subst hb;rw[hx] at h1;have:v= .slice none 0 0:=by cases h1;rfl
  rw[this,run_convert_bytes_string S.w src dst e none 0 0 hs he hd];exact⟨by simp[Conv.bytesToString],Qf2⟩
theorem zuO{P:Program}{e:TypeId}(h:zeT P e=some .u8):P.underlying e=some (.int .u8):=by
 unfold zeT at h;split at h<;>first|(cases h;assumption)|cases h
theorem zuL{P:Program}{d:TypeId}(h:gJ P d=true):P.underlying d=some .string:=by
 unfold gJ at h;split at h<;>first|assumption|cases h
def zcI{α:Type}[CK α](P:Program)(h:Heap)(f:Operand->PV):Op->Option (PV×α)
 | .binOp .eql t x y _=>match za2 P t (f x) (f y) with
  |some (b,c)=>some (.sc (.bool b),c)
  |none=>none
 | .binOp .neq t x y _=>match za2 P t (f x) (f y) with
  |some (b,c)=>some (.sc (.bool !b),c)
  |none=>none
 | .binOp .add _ x y _=>match f x,f y with
  | .sc (.string a),.sc (.string b)=>some (.sc (.string (a++b)),CK.cnd (a.size+b.size<=maxLen))
  |_,_=>none
 | .lookup t m k ok=>xQ P h t ok (f m) (f k)
 | .convert s d x=>match zx4 P s d (f x) with
  |some p=>some (p,CK.cnd True)
  |none=>none
 | .slice t x lo hi mx=>match wX P t,f x with
  | some e,.nil=>if (xL P e).isSome then
    match mx with
    | none=>match yV (hi.map f) 0 0 with
     |some (b,c)=>match yV (lo.map f) b 0 with
      |some (_,c')=>some (.nil,CK.both (CK.cnd (b=0)) (CK.both c c'))
      |none=>none
     |none=>none
    | some m=>match yV (some (f m)) 0 0 with
     | some (d,c0)=>match yV (hi.map f) d d with
      |some (b,c)=>match yV (lo.map f) b 0 with
       |some (_,c')=>some (.nil,CK.both (CK.cnd (hi.isSome/\d=0)) (CK.both c0 (CK.both c c')))
       |none=>none
      |none=>none
     |none=>none
   else none
  |_,_=>none
 |_=>none
def wO{α:Type}[CK α](P:Program)(h:Heap)(f:Operand->PV)(op:Op):Option (PV×α):=
 match yI P h f op with
 |some r=>some r
 |none=>zcI P h f op
section
variable{P:Program}{S:St}
theorem zgL{ρ:Operand->Value}{f:Operand->PV}{o:Oper}{p:PV}{c:Prop}(hS:SRel S)(hx: ∀x∈o.op.operands,VRel S (f x) (ρ x))
  (he:zcI P S.h f o.op=some (p,c)) (hc:c): ∃v,(execOp ρ o).run P S.w= .ok (.value v) S.w/\VRel S p v:=by
 have fin: ∀{s:Sem Value},(∃z,s.run P S.w= .ok z S.w/\VRel S p z)-> ∃v,Sem.run P (do pure (.value (←s)):Sem Next) S.w= .ok (.value v) S.w/\VRel S p v:=fun⟨z,hz,hr⟩=>⟨z,by simp only[Xp,hz,Xd,Yc],hr⟩
 unfold execOp;unfold zcI at he;split at he
 ·rename_i t x y _ hop;rw[hop] at hx;rw[hop];split at he
  ·rename_i b c' hb;cases he;exact fin ⟨_,(zcE (x:=x) (y:=y) hb hc (hx x Qgh) (hx y Qgh)).1,.sc trivial⟩
  ·cases he
 ·rename_i t x y _ hop;rw[hop] at hx;rw[hop];split at he
  ·rename_i b c' hb;cases he;exact fin ⟨_,(zcE (x:=x) (y:=y) hb hc (hx x Qgh) (hx y Qgh)).2,.sc trivial⟩
  ·cases he
 ·rename_i t x y _ hop;rw[hop] at hx;rw[hop];have h1:=hx x Qgh;have h2:=hx y Qgh;split at he
  ·rename_i a b ha hb;cases he;rw[ha] at h1;rw[hb] at h2;simp only[vL] at hc;refine fin ⟨.string (a++b),?_,.sc ?_⟩
   ·generalize ρ x=u at h1;generalize ρ y=v at h2;cases h1;cases h2;have: ¬((a.size+b.size:Nat):Int)>IntKind.i64.max:=by
     have:(maxLen:Int)<=IntKind.i64.max:=Qf2;omega
    simp only[eqGuard,binOp,Op.stringOp,Qi this];rfl
   ·show(a++b).size<=maxLen;rw[ByteArray.size_append];exact hc
  ·cases he
 ·rename_i t m k ok hop;rw[hop] at hx;rw[hop];exact fin (zaB hS he (hx m Qgh) (hx k Qgh))
 ·rename_i s d x hop;rw[hop] at hx;rw[hop];have h1:=hx x Qgh;split at he
  case h_2=>cases he
  rename_i q hq;cases he;unfold zx4 at hq;split at hq
  case h_2=>cases hq
  rename_i e hte;have hu:P.underlying s=some (.slice e):=tS hte;split at hq
  case isFalse=>cases hq
  rename_i hed;split at hq
  ·rename_i els hf;cases hb:bytesOf els with
   |none=>rw[hb] at hq;cases hq
   |some bs=>
    rw[hb] at hq;cases hq;rw[zvY hb] at hf;obtain⟨g1,g2⟩:=zu3 (P:=P) (src:=s) (dst:=d) h1 (.inl hf) hu (zuO hed.1) (zuL hed.2);exact fin ⟨_,g1,.sc g2⟩
  ·split at hq
   ·rename_i hf;cases hq;obtain⟨g1,g2⟩:=zu3 (P:=P) (src:=s) (dst:=d) (bs:= .empty) h1 (.inr ⟨hf,rfl⟩) hu (zuO hed.1) (zuL hed.2);exact fin ⟨_,g1,.sc g2⟩
   ·cases hq
 ·rename_i t x lo hi mx hop;rw[hop] at hx;rw[hop];split at he
  case h_2=>cases he
  rename_i e hte hfx;split at he
  case isFalse=>cases he
  rename_i hsz;obtain⟨k,hk⟩:=Zz.1 hsz;have hxx:=hx x Qgh;rw[hfx] at hxx;have hu:P.underlying t=some (.slice e):=tS hte;have hxe:ρ x= .slice none 0 0:=by generalize ρ x=u at hxx;cases hxx;rfl
  have ol:ORel S (lo.map f) (lo.map ρ):=rS fun o ho=>hx o Qh5;have oh:ORel S (hi.map f) (hi.map ρ):=rS fun o ho=>hx o Qh5;cases mx with
  | none=>
   simp only[] at he;split at he
   ·rename_i b c1 hb;split at he
    ·rename_i a c2 ha;cases he;simp only[vL,wE] at hc;obtain⟨rfl,zoK,zxI⟩:=hc;obtain⟨e1,e2,e3⟩:=pU (P:=P) (S:=S) (isS:=true) (Xe 0) hb ha zoK zxI oh ol;have:a=0:=Qf0;exact Qcz
    ·cases he
   ·cases he
  | some m=>
   simp only[] at he;have om:=hx m Qgh;split at he
   ·rename_i d c0 hd;split at he
    ·rename_i b c1 hb;split at he
     ·rename_i a c2 ha;cases he;simp only[vL,wE] at hc;obtain⟨⟨hhi,rfl⟩,hc0,zoK,zxI⟩:=hc;obtain⟨e1,e2,e3,e4⟩:=lX (P:=P) (S:=S) (Xe 0) hd hb ha hc0 zoK zxI om oh ol (by simpa using hhi);have:a=0:=Qf0;subst this;have:b=0:=Qf0;exact Qcz
     ·cases he
    ·cases he
   ·cases he
 ·cases he
theorem zgV{ρ:Operand->Value}{f:Operand->PV}{o:Oper}{p:PV}{c:Prop}(hS:SRel S)(hx: ∀x∈o.op.operands,VRel S (f x) (ρ x))
  (he:wO P S.h f o.op=some (p,c)) (hc:c): ∃v,(execOp ρ o).run P S.w= .ok (.value v) S.w/\VRel S p v:=by
 unfold wO at he;split at he
 ·rename_i r hr;cases he;exact zeI hS hx hr hc
 ·exact zgL hS hx he hc
end
end Go.AL
namespace Go.AL
open Go.RowKit
def xD:PV->List PV
 | .agg cs=>cs
 |p=>[p]
def wI:PV->Bool
 | .un| .ud| .tup _=>false
 |_=>true
theorem jM{S:St}{p:PV}{v:Value}(h:wI p=true)(hv:VRel S p v):
  v.cells.size=(xD p).length/\(∀(i:Nat)(u:Value),v.cells[i]? =some u->u.oneCell'=true)/\
   ∀(i:Nat)(q:PV)(u:Value),(xD p)[i]? =some q->v.cells[i]? =some u->VRel S q u:=by
 have one: ∀{p:PV}{v:Value},xD p=[p]->v.cells= #[v]->v.oneCell'=true->VRel S p v->
   v.cells.size=(xD p).length/\(∀(i:Nat)(u:Value),v.cells[i]? =some u->u.oneCell'=true)/\
   ∀(i:Nat)(q:PV)(u:Value),(xD p)[i]? =some q->v.cells[i]? =some u->VRel S q u:=by
  intro p v h1 h2 h3 h4;rw[h1,h2];refine⟨rfl,fun i u hu=> ?_,fun i q u hq hu=> ?_⟩
  ·cases i with
   |zero=>simp at hu;subst hu;exact h3
   |succ i=>simp at hu
  ·cases i with
   |zero=>simp at hu hq;subst hu;subst hq;exact h4
   |succ i=>simp at hu
 have hv':=hv;cases hv with
 |un=>simp[wI] at h
 |ud=>simp[wI] at h
 |tup=>simp[wI] at h
 |agg hl h1 hc=>exact⟨hl,h1,hc⟩
 |sc hs=>cases v<;>first|exact one rfl rfl rfl hv'|(simp[tJ] at hs)
 |nil=>exact one rfl rfl rfl hv'
 |ts=>exact one rfl rfl rfl hv'
 |tc=>exact one rfl rfl rfl hv'
 |vec ht=>cases ht;exact one rfl rfl rfl hv'
 |ms=>exact one rfl rfl rfl hv'
 |oms=>exact one rfl rfl rfl hv'
 |ptr=>exact one rfl rfl rfl hv'
 |optr=>exact one rfl rfl rfl hv'
 |tp=>exact one rfl rfl rfl hv'
 |fn=>exact one rfl rfl rfl hv'
 |ifc=>exact one rfl rfl rfl hv'
 |mp=>exact one rfl rfl rfl hv'
 |yl=>exact one rfl rfl rfl hv'
 |it=>exact one rfl rfl rfl hv'
theorem SRel.own_lt{S:St}(h:SRel S){b:Nat}(ho:S.Own b):b<S.w.heap.size:=by
 obtain⟨r,v,hp,hb⟩:=ho;have hr:r<S.h.length:=by rw[<-h.len];exact(gsi hp).1
 have hk:=h.blks r S.h[r] v (Qa hr) hp;have lt: ∀{n:Nat}{o:Obj},S.w.heap[n]? =some o->n<S.w.heap.size:=fun h=>(Qz.1 h).1;cases hc:S.h[r] with
 |var t cs=>rw[hc] at hk;obtain⟨b',arr,rfl,hh,_⟩:=hk;simp[sC] at hb;subst hb;exact lt hh
 |vec e k n=>
  rw[hc] at hk;rcases hk with ⟨rfl,_⟩|⟨b',c,arr,rfl,hh,_⟩
  ·simp[sC] at hb
  ·simp[sC] at hb;subst hb;exact lt hh
 |map es=>rw[hc] at hk;obtain⟨b',cl,en,rfl,hh,_⟩:=hk;simp[sC] at hb;subst hb;exact lt hh
 |loop ts ps as bd st pd=>rw[hc] at hk;obtain⟨b',L,rfl,hh,_⟩:=hk;simp[sC] at hb;subst hb;exact lt hh
 |iter m k s=>rw[hc] at hk;obtain⟨b',bm,rfl,hh,_⟩:=hk;simp[sC] at hb;subst hb;exact lt hh
 |siter s p=>rw[hc] at hk;obtain⟨b',rfl,hh,_⟩:=hk;simp[sC] at hb;subst hb;exact lt hh
 |non=>rw[hc] at hk;rw[show sC v=none from hk] at hb;cases hb
 |old=>rw[hc] at hk;rw[show sC v=none from hk] at hb;cases hb
theorem wT{S:St}(hS:SRel S)(o:Obj):Ext S {S with w:=S.w.alloc o}:=by
 refine⟨rfl,rfl,ztC,rfl,Qf1,fun b hb hn=>⟨hn,Below.heap_alloc _ _ _ hb⟩,fun a v hm=> ?_,fun r b hb=>⟨b,hb,Blk.le_refl b rfl⟩,fun b m ⟨arr,t,f,hr,hm⟩=>⟨arr,t,f,(Below.heap_alloc _ _ _ (Qz.1 hr).1).trans hr,hm⟩⟩;obtain⟨h1,h2,h3,h4,h5,h6⟩:=hm;exact⟨(World.cell?_alloc_lt _ _ _ h4).trans h1,h2,h3,by simp;omega,h5,h6⟩
theorem BRel.ext{S S':St}{b:Blk}{v:Value}(h:BRel S b v)(x:Ext S S')(hh: ∀n,sC v=some n->S'.w.heap[n]? =S.w.heap[n]?):BRel S' b v:=by
 cases b with
 |var t cs=>
  obtain⟨b',arr,rfl,h1,h2,h3,h4⟩:=h;exact⟨b',arr,rfl,(hh b' rfl).trans h1,h2,h3,fun i p u hp hu=>(h4 i p u hp hu).ext x⟩
 |vec e k n=>
  rcases h with h|⟨b',c,arr,rfl,h1,h2⟩
  ·exact .inl h
  ·exact .inr ⟨b',c,arr,rfl,(hh b' rfl).trans h1,h2⟩
 |map es=>
  obtain⟨b',cl,en,rfl,h1,h2,h3,h4⟩:=h;exact⟨b',cl,en,rfl,(hh b' rfl).trans h1,h2,h3,fun i e q he hq=>⟨(h4 i e q he hq).1,(h4 i e q he hq).2.ext x⟩⟩
 |loop ts ps as bd st pd=>obtain⟨b',L,rfl,h1,h2,h3,h4,h5,h6,h7,h8⟩:=h;exact⟨b',L,rfl,(hh b' rfl).trans h1,h2,h3,h4,h5,h6,h7,fun i p hp=>(h8 i p hp).ext x⟩
 |iter m k s=>
  obtain⟨b',bm,rfl,h1,h2⟩:=h;refine⟨b',bm,rfl,(hh b' rfl).trans h1,fun r hr=> ?_⟩;obtain⟨es,bk,g1,g2,g3⟩:=h2 r hr;obtain⟨c',hc',hl⟩:=x.blks _ _ g1;cases c'<;>simp only[Blk.le] at hl;exact⟨_,bk,hc',hl.trans g2,g3⟩
 |siter s p=>obtain⟨b',rfl,h1,h2⟩:=h;exact⟨b',rfl,(hh b' rfl).trans h1,h2⟩
 |non=>exact h
 |old=>exact h
theorem nO{S:St}(hS:SRel S)(o:Obj):SRel {S with w:=S.w.alloc o}:=
 ⟨hS.len,fun r b v hb hv=>(hS.blks r b v hb hv).ext (wT hS o) fun n hn=>Below.heap_alloc _ _ _ (hS.own_lt ⟨r,v,hv,hn⟩),hS.inj,
  fun a ha=>by have:=hS.xlt a ha;simp;omega,hS.xown⟩
def St.push(S:St)(v:Value)(b:Blk):St:={S with φ:=S.φ++[v],h:=S.h++[b]}
theorem tZ{S S1:St}(x:Ext S S1)(hS:SRel S)(hl1:S1.φ=S.φ)(hh1:S1.h=S.h)(v:Value)(b:Blk)(hb: ∀n,sC v=some n->S.w.heap.size<=n):Ext S (S1.push v b):=by
 refine⟨x.x,x.os,x.tape,x.output,x.size,fun n hn ho=>⟨?_,(x.unt n hn ho).2⟩,fun a u hm=> ?_,fun r c hc=> ?_,x.rows⟩
 ·rintro⟨r,u,hp,hu⟩;simp only[St.push,hl1,Qs] at hp;split at hp
  ·exact ho ⟨r,u,hp,hu⟩
  ·rename_i hr;have:u=v:=by
    cases hk:r-S.φ.length with
    |zero=>rw[hk] at hp;simpa using hp.symm
    |succ k=>rw[hk] at hp;simp at hp
   subst this;have:=hb n hu;omega
 ·obtain⟨h1,h2,h3,h4,h5,h6⟩:=x.mem a u hm;have hlt:=hm.2.2.2.1;refine⟨h1,h2,h3,h4,h5,fun r y hp hy=> ?_⟩;simp only[St.push,Qs] at hp ⊢
  split at hp
  ·obtain⟨e,k,n,hh,ho⟩:=h6 r y hp hy;have hr:r<S1.h.length:=(gsi hh).1;exact⟨e,k,n,by rw[Qj hr];exact hh,ho⟩
  ·have:y=v:=by
    cases hk:r-S1.φ.length with
    |zero=>rw[hk] at hp;simpa using hp.symm
    |succ k=>rw[hk] at hp;simp at hp
   subst this;have:=hb _ hy;omega
 ·have hr:r<S.h.length:=(gsi hc).1;refine⟨c,?_,Blk.le_refl c ?_⟩
  ·simp only[St.push,hh1,Qs,Qj hr];exact hc
  ·have hr':r<S.φ.length:=Qgn;simp only[St.push,hl1,Qs,Qj hr']
theorem uP{S S1:St}{v:Value}{b:Blk}(hS:SRel S)(x:Ext S (S1.push v b))(hφ:S1.φ=S.φ)(hh:S1.h=S.h)(hx:S1.x=S.x)(hw: ∀n,n<S.w.heap.size->S1.w.heap[n]? =S.w.heap[n]?)
  (hnew:BRel (S1.push v b) b v) (hno: ∀n,sC v=some n->S.w.heap.size<=n):SRel (S1.push v b):=by
 have last: ∀{α:Type}{l:List α}{y z:α}{r:Nat}, ¬r<l.length->(l++[y])[r]? =some z->r=l.length/\z=y:=by
  intro α l y z r hr h;rw[Qs,Qi hr] at h;cases hk:r-l.length with
  |zero=>rw[hk] at h;simp at h;exact⟨Qf0,h.symm⟩
  |succ k=>rw[hk] at h;simp at h
 refine⟨by simp[St.push,hφ,hh,hS.len],fun r c u hb hvv=> ?_,fun r r' u u' n hp hp' hn hn'=> ?_,fun a ha=> ?_,fun a ha r u hp=> ?_⟩
 ·simp only[St.push,hφ,hh] at hb hvv;by_cases hr:r<S.h.length
  ·rw[Qs,Qj hr] at hb;rw[Qs,Qj Qgn] at hvv;exact(hS.blks r c u hb hvv).ext x fun n hn=>hw n (hS.own_lt ⟨r,u,hvv,hn⟩)
  ·obtain⟨_,rfl⟩:=last hr hb;obtain⟨_,rfl⟩:=last Qgn hvv;exact hnew
 ·simp only[St.push,hφ] at hp hp';have key: ∀(r:Nat)(u:Value),(S.φ++[v])[r]? =some u->sC u=some n->(r<S.φ.length/\S.φ[r]? =some u/\n<S.w.heap.size)\/(r=S.φ.length/\S.w.heap.size<=n):=by
   intro r u hp hn;by_cases hr:r<S.φ.length
   ·rw[Qs,Qj hr] at hp;exact .inl ⟨hr,hp,hS.own_lt ⟨r,u,hp,hn⟩⟩
   ·obtain⟨h1,rfl⟩:=last hr hp;exact .inr ⟨h1,hno n hn⟩
  rcases key r u hp hn with ⟨a,b,c⟩|⟨a,b⟩<;>rcases key r' u' hp' hn' with ⟨a',b',c'⟩|⟨a',b'⟩
  ·exact hS.inj r r' u u' n b b' hn hn'
  ·omega
  ·omega
  ·omega
 ·have:=hS.xlt a (by simpa [St.push,hx] using ha);exact Yf this x.size
 ·have hxa:S.x a:=by simpa [St.push,hx] using ha
  simp only[St.push,hφ] at hp;by_cases hr:r<S.φ.length
  ·rw[Qs,Qj hr] at hp;exact hS.xown a hxa r u hp
  ·obtain⟨_,rfl⟩:=last hr hp;intro hb;have h1:=hno _ hb;have h2:=hS.xlt a hxa;omega
theorem eN{S:St}(hS:SRel S)(t:TypeId)(cs:List PV)(vs:Array Value)(hl:vs.size=cs.length)(h1: ∀(i:Nat)(u:Value),vs[i]? =some u->u.oneCell'=true)
  (hv: ∀(i:Nat)(p:PV)(u:Value),cs[i]? =some p->vs[i]? =some u->VRel S p u):
  let S':=({S with w:=S.w.alloc (.cells vs t)}:St).push (.pointer (some ⟨S.w.heap.size,0,none⟩)) (.var t cs)
  Ext S S'/\SRel S'/\VRel S' (.ptr S.h.length 0) (.pointer (some ⟨S.w.heap.size,0,none⟩)):=by
 intro S';have x:Ext S S':=tZ (wT hS _) hS rfl rfl _ _ Qha;refine⟨x,uP hS x rfl rfl rfl (fun n hn=>Below.heap_alloc _ _ _ hn) ⟨S.w.heap.size,vs,rfl,heap_alloc_new _ _,Nat.le_of_eq hl.symm,h1,fun i p u hp hu=>(hv i p u hp hu).ext x⟩ Qha,?_⟩
 ·refine .ptr (t:=t) (cs:=cs) ?_ ?_
  ·simp[S',St.push,hS.len]
  ·simp[S',St.push]
theorem eT{S:St}(hS:SRel S){r b:Nat}{t:TypeId}{cs cs':List PV}{arr':Array Value}(hp:S.φ[r]? =some (.pointer (some ⟨b,0,none⟩)))(hb:S.h[r]? =some (.var t cs))
  (hl:cs'.length=cs.length) {w':World} (ho:w'.os=S.w.os) (ht:TapeLe S.w w') (hu:w'.output=S.w.output) (hs:w'.heap.size=S.w.heap.size) (hw: ∀k,k≠b->w'.heap[k]? =S.w.heap[k]?) (hz: ∀b m,S.Row b m->St.Row {S with w:=w'} b m):
  Ext S {S with h:=S.h.set r (.var t cs'),w:=w'}:=by
 have hr:r<S.h.length:=(gsi hb).1;have hown: ∀n, ¬S.Own n->n≠b:=fun n hn e=>hn ⟨r,_,hp,by subst e;rfl⟩;refine⟨rfl,ho,ht,hu,by simp only[];omega,fun n hn hno=>⟨hno,hw n (hown n hno)⟩,fun a v hm=> ?_,fun r' c hc=> ?_,hz⟩
 ·exact Qag
 ·by_cases e:r=r'
  ·subst e;rw[hb] at hc;cases hc;refine⟨.var t cs',by simp[hr],?_⟩;simp[Blk.le,hl]
  ·exact⟨c,by simp only[Qq,Qi e];exact hc,Blk.le_refl c rfl⟩
theorem cM{S:St}(hS:SRel S){r b:Nat}{t:TypeId}{cs cs':List PV}{arr':Array Value}(hp:S.φ[r]? =some (.pointer (some ⟨b,0,none⟩)))(hb:S.h[r]? =some (.var t cs))
  (hl:cs'.length=cs.length) {w':World} (ho:w'.os=S.w.os) (ht:TapeLe S.w w') (hu:w'.output=S.w.output) (hs:w'.heap.size=S.w.heap.size) (hw: ∀k,k≠b->w'.heap[k]? =S.w.heap[k]?) (hz: ∀b m,S.Row b m->St.Row {S with w:=w'} b m)
  (hnew:w'.heap[b]? =some (.cells arr' t (0,0))) (hsz:cs'.length<=arr'.size) (h1: ∀(i:Nat)(u:Value),arr'[i]? =some u->u.oneCell'=true)
  (hv: ∀(i:Nat)(p:PV)(u:Value),cs'[i]? =some p->arr'[i]? =some u->VRel S p u):
  SRel {S with h:=S.h.set r (.var t cs'),w:=w'}:=by
 have x:=eT (arr':=arr') hS hp hb hl ho ht hu hs hw hz;have hr:r<S.h.length:=(gsi hb).1;refine⟨by simp[hS.len],fun r' c v hc hvv=> ?_,hS.inj,fun a ha=>by have:=hS.xlt a ha;simp only[];omega,hS.xown⟩;by_cases e:r=r'
 ·subst e;simp only[Qq,Qj hr, ↓reduceIte] at hc;cases hc;rw[hp] at hvv;cases hvv;exact⟨b,arr',rfl,hnew,hsz,h1,fun i p u hpp hu=>(hv i p u hpp hu).ext x⟩
 ·exact Qc1
def splice(cs:List PV)(o:Nat)(ps:List PV):List PV:=cs.take o++ps++cs.drop (o+ps.length)
theorem lW{α:Type}(l:List α)(n:Nat)(vs:List α)(v:α)(h:n<l.length):
  (l.set n v).take (n+1)++vs++(l.set n v).drop (n+1+vs.length)=l.take n++v::vs++l.drop (n+(vs.length+1)):=by
 have e1:(l.set n v).take (n+1)=l.take n++[v]:=by
  rw[Xh Qfn,List.take_set_of_le (Xe n)];simp
 have e2:(l.set n v).drop (n+1+vs.length)=l.drop (n+(vs.length+1)):=by
  rw[List.drop_set_of_lt Qf0];congr 1;omega
 rw[e1,e2];simp
theorem nG(P:Program)(g:Nat)(e:TypeId): ∀(vs:List Value)(o i:Nat)(cur:Array Value)(w:World),w.heap[g]? =some (.cells cur e (0,0))->o+i+vs.length<=cur.size->(∀u∈vs,u.oneCell'=true)->
  ∃w',(storeCells ⟨g,o,none⟩ vs i).run P w= .ok () w'/\w'.os=w.os/\TapeLe w w'/\w'.output=w.output/\w'.heap.size=w.heap.size/\(∀k,k≠g->w'.heap[k]? =w.heap[k]?)/\
   w'.heap[g]? =some (.cells (cur.toList.take (o+i)++vs++cur.toList.drop (o+i+vs.length)).toArray e (0,0)):=by
 intro vs
 induction vs with
 |nil=>intro o i cur w h _ _;exact⟨w,rfl,rfl,ztC,rfl,rfl,fun _ _=>rfl,by simp[h]⟩
 | cons v vs ih=>
  intro o i cur w h hl h1;simp only[Qn] at hl;have hc:w.cell? ⟨g,o+i,none⟩=some cur[o+i]:=by rw[cell_of_row _ _ _ _ _ _ h];simp
  have hf:w.frozen? ⟨g,o+i,none⟩=false:=frozen_of_row _ _ _ _ _ h;have jY:=heap_setCell_same w g (o+i) cur e v h;obtain⟨w',hr,e1,e2,e3,e4,e5,e6⟩:=ih o (i+1) (cur.setIfInBounds (o+i) v) (w.setCell ⟨g,o+i,none⟩ v) jY Qfh (fun u hu=>h1 u (Qf _ hu));refine⟨w',?_,e1,⟨e2.tape,e2.drawn⟩,e3,e4.trans Qf1,fun k hk=>(e5 k hk).trans (heap_setCell_other _ _ _ _ hk),?_⟩
  ·simp only[storeCells,Addr.add_lit,Xp,run_store P w _ v _ (h1 v (Qe ..)),hc,hf,Xd,Zo,Wr];exact hr
  ·rw[e6];show some (Obj.cells (((cur.setIfInBounds (o+i) v).toList.take (o+i+1))++vs++(cur.setIfInBounds (o+i) v).toList.drop (o+i+1+vs.length)).toArray e (0,0))=_;rw[Array.toList_setIfInBounds,lW cur.toList (o+i) vs v Qfh];simp[Ji]
theorem zfA{P:Program}{S:St}(hS:SRel S){ty:TypeId}{r o sz:Nat}{t:TypeId}{cs:List PV}{p:PV}{u v:Value}(hb:S.h[r]? =some (.var t cs))(hu:VRel S (.ptr r o) u)(hsh:wI p=true)(hv:VRel S p v)
  (hs:xL P ty=some sz) (hp:(xD p).length=sz) (hl:o+sz<=cs.length):
  ∃w',(Instr.storeAt ty u v).run P S.w= .ok () w'/\Ext S {S with h:=S.h.set r (.var t (splice cs o (xD p))),w:=w'}/\SRel {S with h:=S.h.set r (.var t (splice cs o (xD p))),w:=w'}:=by
 obtain⟨h1,h2,h3⟩:=jM hsh hv;cases hu with
 |optr hb'=>rw[hb] at hb';cases hb'
 | ptr hp' hb'=>
  rename_i b t' cs';rw[hb] at hb';cases hb';obtain⟨b0,arr,he,hh,hsz,ho1,hcs⟩:=hS.blks r _ _ hb hp';cases he;obtain⟨w',hr,e1,e2,e3,e4,e5,e6⟩:=nG P b t v.cells.toList o 0 arr S.w hh Qfh (fun x hx=>by
   obtain⟨i,hi,rfl⟩:=Qy hx;exact h2 i _ (by simp at hi ⊢))
  have hsl:(splice cs o (xD p)).length=cs.length:=by simp[splice];omega
  have hz: ∀b m,S.Row b m->St.Row {S with w:=w'} b m:=by
   rintro b1 m ⟨ar,t1,f1,hr1,hm1⟩;by_cases hb1:b1=b
   ·subst hb1;rw[hh] at hr1;cases hr1;exact⟨_,_,_,e6,by simp;omega⟩
   ·exact⟨ar,t1,f1,(e5 b1 hb1).trans hr1,hm1⟩
  refine⟨w',?_,eT (arr':=arr) hS hp' hb hsl e1 e2 e3 e4 e5 hz,cM hS hp' hb hsl e1 e2 e3 e4 e5 hz e6 (by rw[hsl];simp;omega) (fun i x hx=> ?_) (fun i q x hq hx=> ?_)⟩
  ·simp only[Instr.storeAt,Instr.sureAddr,storeVar,Xp,Yc,Xd,zV hs];rw[Qi Qf0];exact hr
  all_goals
   simp only[Wn,Je,Qs,Xk,Wq,Ql,Xr,Yg,Yi] at hx
  ·split at hx
   ·split at hx
    ·split at hx
     ·exact ho1 _ x hx
     ·cases hx
    ·exact h2 _ x hx
   ·exact ho1 _ x hx
  ·simp only[splice,Qs,Xk,Ql,Xr,Yg] at hq;have m1:min o arr.size=o:=Qf0;have m2:min o cs.length=o:=Qf0;rw[m1] at hx;rw[m2] at hq;by_cases c1:i<o
   ·rw[Qj Qf0,Qj c1,Qj c1] at hx;rw[Qj Qf0,Qj c1,Qj c1] at hq;exact hcs i q x hq hx
   ·by_cases c2:i<o+sz
    ·rw[Qj Qf0,Qi c1] at hx;rw[Qj Qf0,Qi c1] at hq;exact h3 _ q x hq hx
    ·rw[Qi Qf0] at hx hq;refine hcs _ q x hq ?_;rw[<-hx];congr 1;omega
end Go.AL
