/-
  Part of the walk.
-/
import Derived.Test.YtlcjmejclpilhaaGreatDoorV05
import Derived.ProofKit
import Derived.Deep.Slices
import Derived.OpenShut
import Derived.Lib.SmallJoins
import Derived.IntWalk
import Derived.Maps.RangeRun
set_option linter.unusedSimpArgs false
set_option linter.unusedVariables false
set_option maxRecDepth 100000
set_option maxHeartbeats 4000000
namespace Go.AL
open Go.RowKit
section
variable{H:Type}{enc:TypeId×Value->H}{P:Program}{w:World}{base:Nat}{spare:Nat->Bool}{held:Bool}
structure Told(S:St)(qs:List PV)(cs:List Value):Prop where
 len:qs.length=cs.length
 rel: ∀(i:Nat)(p:PV)(v:Value),qs[i]? =some p->cs[i]? =some v->VRel S p v
 one: ∀v∈cs,v.oneCell'=true
theorem Told.nil(S:St):Told S [] []:=⟨rfl,fun i p v h=>by simp at h,fun v h=>by cases h⟩
theorem Told.append{S:St}{a b:List PV}{x y:List Value}(h:Told S a x)(k:Told S b y):Told S (a++b) (x++y):=by
 refine⟨by simp[h.len,k.len],fun i p v hp hv=> ?_,fun v hv=> ?_⟩
 ·rcases Xy i a.length with hi|hi
  ·rw[Qg hi] at hp;rw[Qg (by rw[<-h.len];exact hi)] at hv;exact h.rel i p v hp hv
  ·rw[Zj hi] at hp;rw[Zj (by rw[<-h.len];exact hi),<-h.len] at hv;exact k.rel _ p v hp hv
 ·rcases Qo.1 hv with hv|hv
  ·exact h.one v hv
  ·exact k.one v hv
theorem Told.single{S:St}{p:PV}{v:Value}(h:VRel S p v)(ho:v.oneCell'=true):Told S [p] [v]:=by
 refine⟨rfl,fun i q u hq hu=> ?_,fun u hu=> ?_⟩
 ·cases i with
  |zero=>simp at hq hu;subst hq;subst hu;exact h
  |succ i=>simp at hq
 ·simp at hu;subst hu;exact ho
def tP(P:Program):Nat->TypeId->DataW H->List PV
 | n,t,d=>match n,d with
  |_,.lit (.bool b)=>[.sc (.bool b)]
  |_,.lit (.int k z)=>[.sc (.int k z)]
  |_,.lit (.string s)=>[.sc (.string ⟨s.toArray⟩)]
  |_,.nil=>match P.underlying t with
   |some (.slice _)=>[.nil]
   |_=>[.un]
  |n+1,.slice xs _=>match P.underlying t with
   |some (.slice e)=>[.ts (P.cellsOf e) (xs.map (tP P n e))]
   |_=>[.un]
  |n+1,.agg xs=>match P.underlying t with
   |some (.struct fs)=>(List.zipWith (fun (f:Field) x=>tP P n f.type x) fs.toList xs).flatten
   |some (.array _ e)=>(xs.map (tP P n e)).flatten
   |_=>[.un]
  |_,_=>[.un]
def kM(P:Program):List Field->Nat->Nat->Bool
 | [],o,n=>o==n
 |f::fs,o,n=>f.offset==o&&kM P fs (o+P.cellsOf f.type) n
def zg3(P:Program):Nat->TypeId->Bool
 |n,t=>match n,P.underlying t with
  |_,some .bool=>true
  |_,some (.int _)=>true
  |_,some .string=>true
  |0,some (.slice _)=>true
  |n+1,some (.slice e)=>zg3 P n e
  |n+1,some (.struct fs)=>kM P fs.toList 0 (P.cellsOf t)&&fs.toList.all fun f=>zg3 P n f.type
  |n+1,some (.array k e)=>zg3 P n e&&k*P.cellsOf e==P.cellsOf t
  |_,_=>false
theorem zhV{X:Addr->Prop}(hX: ∀a, ¬X a){a:Addr}{v:Value}(h:w.cell? a=some v)(ho:v.oneCell'=true):St.M ⟨[],[],w,X⟩ a v:=by
 refine⟨h,ho,?_⟩;unfold World.cell? at h;split at h
 ·rename_i c t f hb;split at h
  ·cases h
  ·rename_i hs;refine⟨by simpa using hs,(Qz.1 hb).1,hX a,fun r v hr=>by simp at hr⟩
 ·cases h
theorem zg0(a:Addr)(x y:Nat):(a.add x).add y=a.add (x+y):=by
 unfold Addr.add;by_cases hx:x=0
 ·subst hx;simp
 ·by_cases hy:y=0
  ·subst hy;simp[hx]
  ·rw[Qi hx,Qi hy,Qi Qf0];simp[Ji]
theorem dW{S:St}{m n:Nat}{cs:List Value}(IH: ∀(t:TypeId)(cs:List Value)(d:DataW H)(ps:List MemPlace),zg3 P n t=true->DataW.trod enc P w base spare held m t cs=some (d,ps)->Told S (tP P n t d) cs):
  ∀(fs:List Field)(o:Nat)(xs:List (DataW H×List MemPlace)),kM P fs o cs.length=true->o<=cs.length->(fs.all fun f=>zg3 P n f.type)=true->xs.length=fs.length->
   (∀(i:Nat)(f:Field),fs[i]? =some f->DataW.trod enc P w base spare held m f.type ((cs.drop f.offset).take (P.cellsOf f.type))=xs[i]?)->
   Told S (List.zipWith (fun (f:Field) x=>tP P n f.type x) fs (xs.map (·.1))).flatten (cs.drop o):=by
 intro fs
 induction fs with
 |nil=>
  intro o xs hl ho _ _ _;simp only[kM,Zm] at hl;subst hl;simp only[List.zipWith_nil_left,List.flatten_nil,Um];exact .nil S
 | cons f fs ih=>
  intro o xs hl ho hall hlen hx;simp only[kM,Qt,Zm] at hl;simp only[Wm,Qt] at hall;cases xs with
  |nil=>simp at hlen
  | cons x xs=>
   have h0:=hx 0 f rfl;rw[Ws,hl.1] at h0;have t0:=IH _ _ x.1 x.2 hall.1 h0;have hle:o+P.cellsOf f.type<=cs.length:=by
    have: ∀(fs:List Field)(o n:Nat),kM P fs o n=true->o<=n:=by
     intro fs
     induction fs with
     |nil=>intro o n h;simp only[kM,Zm] at h;omega
     |cons f fs ih=>intro o n h;simp only[kM,Qt] at h;have:=ih _ _ h.2;omega
    exact this _ _ _ hl.2
   have t1:=ih _ xs hl.2 hle hall.2 Qgb fun i g hg=>by simpa using hx (i+1) g (by simpa using hg)
   have e:cs.drop o=(cs.drop o).take (P.cellsOf f.type)++cs.drop (o+P.cellsOf f.type):=by
    rw[<-Wy,Kk]
   rw[e,Xa,List.zipWith_cons_cons,Yl];exact t0.append t1
theorem aX{S:St}{m n:Nat}{e:TypeId}{cs:List Value}(IH: ∀(t:TypeId)(cs:List Value)(d:DataW H)(ps:List MemPlace),zg3 P n t=true->DataW.trod enc P w base spare held m t cs=some (d,ps)->Told S (tP P n t d) cs)(he:zg3 P n e=true):
  ∀(xs:List (DataW H×List MemPlace))(j:Nat),cs.length=(j+xs.length)*P.cellsOf e->
   (∀i,i<xs.length->DataW.trod enc P w base spare held m e ((cs.drop ((j+i)*P.cellsOf e)).take (P.cellsOf e))=xs[i]?)->
   Told S ((xs.map (·.1)).map (tP P n e)).flatten (cs.drop (j*P.cellsOf e)):=by
 intro xs
 induction xs with
 |nil=>
  intro j hl _;rw[Xv,Wn] at hl;rw[<-hl,Um];exact .nil S
 | cons x xs ih=>
  intro j hl hx;have h0:=hx 0 (Nat.zero_lt_succ _);rw[Ws,Wn] at h0;have t0:=IH _ _ x.1 x.2 he h0;have t1:=ih (j+1) (by rw[hl,Qn];congr 1;omega) fun i hi=>by
   have:=hx (i+1) Qg3;rw[Wf] at this;rw[<-this,show j+1+i=j+(i+1) by omega]
  have e:cs.drop (j*P.cellsOf e)=(cs.drop (j*P.cellsOf e)).take (P.cellsOf e)++cs.drop ((j+1)*P.cellsOf e):=by
   rw[Wo,Nat.one_mul,<-Wy,Kk]
  rw[e,Xa,Xa,Yl];exact t0.append t1
theorem lN{X:Addr->Prop}(hX: ∀a, ¬X a): ∀(m n:Nat)(t:TypeId)(cs:List Value)(d:DataW H)(ps:List MemPlace),zg3 P n t=true->DataW.trod enc P w base spare held m t cs=some (d,ps)->Told ⟨[],[],w,X⟩ (tP P n t d) cs:=by
 intro m
 induction m with
 |zero=>intro n t cs d ps _ h;simp[DataW.trod] at h
 | succ m ih=>
  intro n t cs d ps hok h;unfold zg3 at hok;split at hok
  ·rename_i ht;obtain⟨b,rfl,hx⟩:=DataW.trod_bool ht h;simp only[Ys] at hx;rw[hx.1];unfold tP;exact .single (.sc trivial) rfl
  ·rename_i k ht;obtain⟨z,rfl,hx,hw⟩:=DataW.trod_int ht h;simp only[Ys] at hx;rw[hx.1];unfold tP;refine .single (.sc ?_) rfl;simpa [Lit.wf,tJ] using hw
  ·rename_i ht;obtain⟨s,rfl,hx,hw⟩:=DataW.trod_string ht h;simp only[Ys] at hx;rw[hx.1];unfold tP;refine .single (.sc ?_) rfl;exact hw
  ·rename_i e ht;rcases DataW.trod_slice ht h with ⟨rfl,hx⟩|⟨a,len,cap,pw,rest,q,hq,rfl,hx,hb,hl,hm,hlen,hel,_,_⟩
   ·simp only[Ys] at hx;rw[hx.1];unfold tP;rw[ht];exact .single .nil rfl
   ·simp only[Ys] at hx;rw[hx.1];unfold tP;exact .single .un rfl
  ·rename_i n' e ht;rcases DataW.trod_slice ht h with ⟨rfl,hx⟩|⟨a,len,cap,pw,rest,q,hq,rfl,hx,hb,hl,hm,hlen,hel,_,_⟩
   ·simp only[Ys] at hx;rw[hx.1];unfold tP;dsimp only;rw[ht];exact .single .nil rfl
   ·simp only[Ys] at hx;cases hq;rw[hx.1];unfold tP;dsimp only;rw[ht];refine .single ?_ rfl;have each: ∀i,i<len-> ∃x cs',pw[i]? =some x/\cs'.length=P.cellsOf e/\Told ⟨[],[],w,X⟩ (tP P n' e x.1) cs'/\ ∀r,r<P.cellsOf e->w.cell? (a.add (i*P.cellsOf e+r))=cs'[r]? :=by
     intro i hi;have h1:=hel i hi;rw[Qa Qf0] at h1;cases hc:w.cells? base (a.add (i*P.cellsOf e)) (P.cellsOf e) with
     |none=>rw[hc] at h1;cases h1
     |some cs'=>
      rw[hc] at h1;obtain⟨_,c1,c2⟩:=World.cells?_some hc;refine⟨_,cs',Qa Qf0,c1,ih n' e cs' _ _ hok h1,fun r hr=> ?_⟩;rw[<-c2 r hr,zg0]
    have each2: ∀j,j<len*P.cellsOf e-> ∃v,w.cell? (a.add j)=some v/\v.oneCell'=true:=by
     intro j hj;have hk:0<P.cellsOf e:=by
      rcases Yr (P.cellsOf e) with h0|h0
      ·rw[h0] at hj;omega
      ·exact h0
     have hi:j / P.cellsOf e<len:=Nat.div_lt_of_lt_mul (by rw[Nat.mul_comm];exact hj);obtain⟨x,cs',_,c1,c2,c3⟩:=each _ hi;have hr:=Nat.mod_lt j hk;have:=c3 _ hr;rw[show j / P.cellsOf e*P.cellsOf e+j%P.cellsOf e=j by rw[Nat.mul_comm];exact Nat.div_add_mod j _] at this;rw[Qa Qf0] at this;exact⟨_,this,c2.one _ (Qc _)⟩
    refine .ts (by simp[hlen]) hl hm ?_ a (fun _=>rfl) (fun j=>(w.cell? (a.add j)).getD undef) ?_ ?_
    ·intro i q hq;rw[Zg,Qu] at hq;have hi:i<len:=by
      exact Qds
     obtain⟨x,cs',c0,c1,c2,c3⟩:=each i hi;rw[c0] at hq;cases hq;rw[<-c1];exact c2.len
    ·intro j hj;obtain⟨v,h1,h2⟩:=each2 j hj;simp only[h1,Wv];exact zhV hX h1 h2
    ·intro i q j p hq hp;rw[Zg,Qu] at hq;have hi:i<len:=by
      exact Qds
     obtain⟨x,cs',c0,c1,c2,c3⟩:=each i hi;rw[c0] at hq;cases hq;have hj:j<P.cellsOf e:=by
      have:=(gsi hp).1;rw[<-c1,<-c2.len];exact this
     have h3:=c3 j hj;rw[h3];rw[Qa Qf0] at h3 ⊢
     exact c2.rel j p _ hp (Qa Qf0)
  ·rename_i n' fs ht;simp only[Qt] at hok;obtain⟨xs,m',hm,hx,hlen,hxl,hf⟩:=DataW.trod_struct ht h;cases hm;simp only[Ys] at hx;rw[hx.1];unfold tP;dsimp only;rw[ht];have:=dW (cs:=cs) (ih n') fs.toList 0 xs (by rw[hlen];exact hok.1) (Yn _) hok.2 (by simpa using hxl) (fun i f hi=>hf i f Qg3);simpa using this
  ·rename_i n' k e ht;simp only[Qt,Zm] at hok;obtain⟨xs,m',hm,hx,hlen,hxl,hf⟩:=DataW.trod_array ht h;cases hm;simp only[Ys] at hx;rw[hx.1];unfold tP;dsimp only;rw[ht];have:=aX (cs:=cs) (ih n') hok.1 xs 0 (by rw[hlen,<-hok.2,Yd,hxl]) (fun i hi=>by rw[Yd];exact hf i Qf0);simpa using this
  ·cases hok
end
end Go.AL
namespace Go.AL
open Go.RowKit
section
variable{H:Type}{enc:TypeId×Value->H}{P:Program}{w:World}{base:Nat}{spare:Nat->Bool}{held:Bool}
def Shp(P:Program):Nat->TypeId->List PV->Prop
 |n,t,qs=>match n,P.underlying t with
  |_,some .bool=> ∃b,qs=[.sc (.bool b)]
  |_,some (.int k)=> ∃z,qs=[.sc (.int k z)]/\k.min<=z/\z<=k.max
  |_,some .string=> ∃s,qs=[.sc (.string s)]/\s.size<=maxLen/\s.size<=reachBytes
  |0,some (.slice _)=> ∃p,qs=[p]
  |n+1,some (.slice e)=>qs=[.nil]\/ ∃els,qs=[.ts (P.cellsOf e) els]/\els.length*P.bytesOf e<=reachBytes/\ ∀x∈els,Shp P n e x
  |n+1,some (.struct fs)=> ∃parts:List (List PV),parts.length=fs.size/\qs=parts.flatten/\ ∀(i:Nat)(f:Field)(p:List PV),fs[i]? =some f->parts[i]? =some p->Shp P n f.type p
  |n+1,some (.array k e)=> ∃parts:List (List PV),parts.length=k/\qs=parts.flatten/\ ∀p∈parts,Shp P n e p
  |_,_=>False
def Light(P:Program)(t:TypeId)(d:DataW H):Prop:= ∀k∈d.weights P t,k<=reachBytes
theorem gX{e:TypeId}: ∀{xs:List (DataW H)},(∀k∈DataW.weightsAll P e xs,k<=reachBytes)-> ∀x∈xs,Light P e x:=by
 intro xs
 induction xs with
 |nil=>intro _ x hx;cases hx
 |cons y ys ih=>
  intro h x hx;simp only[DataW.weightsAll,Qo] at h;rcases Qw.1 hx with rfl|hx
  ·exact fun k hk=>h k (.inl hk)
  ·exact ih (fun k hk=>h k (.inr hk)) x hx
theorem aN: ∀{ts:List TypeId}{xs:List (DataW H)},(∀k∈DataW.weightsEach P ts xs,k<=reachBytes)-> ∀(i:Nat)(t:TypeId)(x:DataW H),ts[i]? =some t->xs[i]? =some x->Light P t x:=by
 intro ts
 induction ts with
 |nil=>intro xs _ i t x ht;simp at ht
 | cons u us ih=>
  intro xs h i t x ht hx;cases xs with
  |nil=>simp at hx
  | cons y ys=>
   simp only[DataW.weightsEach,Qo] at h;cases i with
   |zero=>
    simp only[Ws,Option.some.injEq] at ht hx;subst ht;subst hx;exact fun k hk=>h k (.inl hk)
   |succ i=>exact ih (fun k hk=>h k (.inr hk)) i t x (by simpa using ht) Qfz
theorem cH: ∀(m n:Nat)(t:TypeId)(cs:List Value)(d:DataW H)(ps:List MemPlace),zg3 P n t=true->Light P t d->DataW.trod enc P w base spare held m t cs=some (d,ps)->Shp P n t (tP P n t d):=by
 intro m
 induction m with
 |zero=>intro n t cs d ps _ _ h;simp[DataW.trod] at h
 | succ m ih=>
  intro n t cs d ps hok hlight h;unfold zg3 at hok;split at hok
  ·rename_i ht;obtain⟨b,rfl,hx⟩:=DataW.trod_bool ht h;simp only[Ys] at hx;rw[hx.1];unfold tP Shp;rw[ht];exact⟨b,rfl⟩
  ·rename_i k ht;obtain⟨z,rfl,hx,hw⟩:=DataW.trod_int ht h;simp only[Ys] at hx;rw[hx.1];unfold tP Shp;rw[ht];exact⟨z,rfl,by simpa [Lit.wf] using hw⟩
  ·rename_i ht;obtain⟨s,rfl,hx,hw⟩:=DataW.trod_string ht h;simp only[Ys] at hx;rw[hx.1];unfold tP Shp;rw[ht];refine⟨_,rfl,hw,?_⟩;rw[hx.1] at hlight;have hk:=hlight s.data.toList.length (by unfold DataW.weights;exact Qp.2 rfl);have he:(⟨s.data.toList.toArray⟩:ByteArray).size=s.data.toList.length:=Jd ..;exact Ya (Nat.le_of_eq he) hk
  ·rename_i e ht;rcases DataW.trod_slice ht h with ⟨rfl,hx⟩|⟨a,len,cap,pw,rest,q,hq,rfl,hx,hb,hl,hm,hlen,hel,_,_⟩
   ·exact Qe2
   ·exact Qe2
  ·rename_i n' e ht;rcases DataW.trod_slice ht h with ⟨rfl,hx⟩|⟨a,len,cap,pw,rest,q,hq,rfl,hx,hb,hl,hm,hlen,hel,_,_⟩
   ·simp only[Ys] at hx;rw[hx.1];unfold tP Shp;dsimp only;rw[ht];exact .inl rfl
   ·simp only[Ys] at hx;cases hq;rw[hx.1];unfold tP Shp;dsimp only;rw[ht];rw[hx.1] at hlight;unfold Light DataW.weights at hlight;rw[ht] at hlight;have hl0:=hlight _ (Qe ..);refine .inr ⟨_,rfl,?_,fun x hx=> ?_⟩
    ·refine Ya (Zv _ ?_) hl0;simp
    rw[Zg] at hx;obtain⟨y,hy,rfl⟩:=Xf.1 hx;obtain⟨i,hi,rfl⟩:=Qy hy;have h1:=hel i Qf0;rw[Qa hi] at h1;obtain⟨cs',_,h2⟩:=Option.bind_eq_some_iff.1 h1;exact ih n' e cs' _ _ hok (gX (fun k hk=>hlight k (Qf _ (Zb _ hk))) _ (Zi (Qc hi))) h2
  ·rename_i n' fs ht;simp only[Qt] at hok;obtain⟨xs,m',hm,hx,hlen,hxl,hf⟩:=DataW.trod_struct ht h;cases hm;simp only[Ys] at hx;rw[hx.1];unfold tP Shp;dsimp only;rw[ht];refine⟨_,?_,rfl,fun i f p hi hp=> ?_⟩
   ·simp[hxl]
   ·rw[List.getElem?_zipWith,Yi,hi,Qu] at hp;cases hxi:xs[i]? with
    |none=>rw[hxi] at hp;cases hp
    | some y=>
     rw[hxi] at hp;cases hp;have h1:=hf i f hi;rw[hxi] at h1;refine ih n' f.type _ _ y.2 ?_ ?_ h1
     rotate_left
     ·refine aN (ts:=fs.toList.map (·.type)) (xs:=xs.map (·.1)) ?_ i f.type y.1 (by rw[Qu,Yi,hi];rfl) (by rw[Qu,hxi];rfl);rw[hx.1] at hlight;unfold Light DataW.weights at hlight;rw[ht] at hlight;exact hlight
     have:=hok.2;rw[Xg] at this;exact this f (by rw[Jv];exact Kn hi)
  ·rename_i n' k e ht;simp only[Qt,Zm] at hok;obtain⟨xs,m',hm,hx,hlen,hxl,hf⟩:=DataW.trod_array ht h;cases hm;simp only[Ys] at hx;rw[hx.1];unfold tP Shp;dsimp only;rw[ht];refine⟨_,by simp[hxl],rfl,fun p hp=> ?_⟩;rw[Zg] at hp;obtain⟨y,hy,rfl⟩:=Xf.1 hp;obtain⟨i,hi,rfl⟩:=Qy hy;have h1:=hf i Qf0;rw[Qa hi] at h1;rw[hx.1] at hlight;unfold Light DataW.weights at hlight;rw[ht] at hlight;exact ih n' e _ _ _ hok.1 (gX hlight _ (Zi (Qc hi))) h1
  ·cases hok
theorem zkF{X:Addr->Prop}(hX: ∀a, ¬X a){n:Nat}{t:TypeId}{fs:Array Field}{v:Value}{d:DataW H}{ps:List MemPlace}{b0:Nat}(hs:P.underlying t=some (.struct fs))(hok:zg3 P n t=true)
  (hw:Light P t d) (hv:Value.okWide P w .any b0 t v) (h:DataW.Trod enc P w base spare held t v d ps): ∃vs:Array Value,v= .agg vs/\Told ⟨[],[],w,X⟩ (tP P n t d) vs.toList/\Shp P n t (tP P n t d):=by
 obtain⟨cs,rfl,hsz⟩:=WideShapes.okWide_struct hs hv;obtain⟨fuel,hf⟩:=h;exact⟨cs,rfl,lN hX fuel n t _ d ps hok hf,cH fuel n t _ d ps hok hw hf⟩
theorem Told.agg{S:St}{qs rs:List PV}{vs:Array Value}(h:Told S qs vs.toList)(hl:rs.length=qs.length)(hr: ∀(i:Nat)(p q:PV),qs[i]? =some p->rs[i]? =some q->PLe p q):VRel S (.agg rs) (.agg vs):=by
 have hlen:vs.size=rs.length:=by rw[hl,h.len];simp
 refine .agg hlen (fun i v hv=>h.one v (by rw[Jv];exact Kn hv)) fun i q v hq hv=> ?_;have hi:i<qs.length:=by rw[<-hl];exact(gsi hq).1
 exact hr i _ q (Qa hi) hq S v (h.rel i _ v (Qa hi) (by rw[Yi];exact hv))
theorem eP{X:Addr->Prop}(hX: ∀a, ¬X a){name:String}{g n m:Nat}{t:TypeId}{cs:Array Value}{d:DataW H}{ps:List MemPlace}{qs:List PV}(hok:zg3 P n t=true)(hg:P.globalNamed name=some g)(hv:w.var? P name=some cs)
  (hd:DataW.trod enc P w base spare held m t cs.toList=some (d,ps)) (hq:tP P n t d=qs):VRel ⟨[],[],w,X⟩ (.tp qs) (.pointer (some ⟨g,0,none⟩)):=by
 subst hq;have ht:=lN (X:=X) hX m n t _ d ps hok hd;have hc: ∀i,w.cell? ((⟨g,0,none⟩:Addr).add i)=cs[i]? :=by
  intro i;rw[<-World.var?_cell hg hv i];unfold Addr.add;split
  ·rename_i h;subst h;rfl
  ·simp
 refine .tp (fun i=>(w.cell? ((⟨g,0,none⟩:Addr).add i)).getD undef) (fun j hj=> ?_) fun j p hp=> ?_
 ·have hj':j<cs.size:=by have:=ht.len;simp at this;omega
  have h1:=hc j;rw[Qx hj'] at h1;simp only[h1,Wv];exact zhV hX h1 (ht.one _ (by rw[Jv];exact Array.getElem_mem hj'))
 ·have hj:=(gsi hp).1;have hj':j<cs.size:=by have:=ht.len;simp at this;omega
  have h1:=hc j;rw[Qx hj'] at h1;rw[h1];exact ht.rel j p _ hp (by rw[Yi,Qx hj'];rfl)
theorem zdY{X:Addr->Prop}{φ':List Value}{h':Heap}{w':World}(e:Ext ⟨[],[],w,X⟩ ⟨φ',h',w',X⟩):Below w.heap.size w w':=
 ⟨e.os,e.tape.tape,e.output,e.size,fun k hk=>(e.unt k hk (by rintro⟨r,v,hr,_⟩;simp at hr)).2⟩
end
end Go.AL
namespace Go.AL
open Go.RowKit
section
variable(P:Program)(G:Glob)(D:Option Nat->Prop)(own:Bool)
def EWp(c:Code)(K:Exit->List PV->Heap->Prop)(ts:List PV)(h:Heap):Prop:=
 ∃e t1 h1,K e t1 h1/\ ∀rd,D rd->AWp P G rd c (fun e' t' h'=>e'=e/\t'=t1/\h'=h1) ts h
def ECall(f:FuncId)(args:List PV)(h:Heap)(R:PV->Heap->Prop):Prop:=
 ∃p h',R p h'/\ACall P G f args h fun q g=>q=p/\g=h'
def EPure(f:FuncId)(args:List PV)(K:PV->Prop):Prop:= ∃p,K p/\Tree p/\Pure P G f args p
def EYl(r:Nat)(args:List PV)(h:Heap)(R:PV->Heap->Prop):Prop:=
 ∃ts ps as bd st pd,h[r]? =some (.loop ts ps as bd st pd)/\args.length=ps.length/\
  EWp P G (fun rd=>rd≠none) as (fun e ts1 h1=>e= .normal/\ ∃ts' ps' as' bd' pd1,h1[r]? =some (.loop ts' ps' as' bd' .ready pd1)/\
   EWp P G (fun rd=>rd≠none) bd (ARound r R) ts1 (h1.set r (.loop ts' ps' as' bd' .busy pd1))) (rput ts ps args) h
def dC(op:Op)(f:Operand->PV):Option (Nat×List PV):=
 match op with
 | .call c=>match c.callee with
  | .value x=>match f x with
   | .yl r=>some (r,c.args.toList.map f)
   |_=>none
  |_=>none
 |_=>none
mutual
def ER(ds:List (Option Tmp)):List Oper->(List PV->Heap->Prop)->List PV->Heap->Prop
 | [],Q,ts,h=>Q ts h
 |o::rest,Q,ts,h=>EGo ds rest Q o ts h (vU P G own ds o ts h)
def EGo(ds:List (Option Tmp)):List Oper->(List PV->Heap->Prop)->Oper->List PV->Heap->SR->Prop
 |rest,Q,o,ts,_,.val p h' c=>c/\ER ds rest Q (zZ ts o.dst p) h'
 |rest,Q,o,ts,h,.call g args=>ECall P G g args h fun p h'=>ER ds rest Q (zZ ts o.dst p) h'
 |rest,Q,o,ts,h,.no=>o.guard=none/\ ∃p h',(∀rd,D rd->OpOk P G rd o h (wV G ts) fun q g=>q=p/\g=h')/\ER ds rest Q (zZ ts o.dst p) h'
end
def uJ:Code->(Exit->List PV->Heap->Prop)->List PV->Heap->Prop
 | .skip,Q,ts,h=>Q .normal ts h
 | .label _,Q,ts,h=>Q .normal ts h
 | .exit id,Q,ts,h=>Q (.exit id) ts h
 | .ret,Q,ts,h=>Q .ret ts h
 | .region _ ops false,Q,ts,h=>ER P G D own (ops.toList.map (·.dst)) ops.toList (Q .normal) ts h
 | .seq a b,Q,ts,h=>uJ a (AThen (uJ b Q) Q) ts h
 | .cond x a b,Q,ts,h=>match wV G ts x with
  | .sc (.bool t)=>if t=true then uJ a Q ts h else uJ b Q ts h
  |_=>False
 | .block id c,Q,ts,h=>uJ c (ABlock id Q) ts h
 |c,Q,ts,h=>EWp P G D c Q ts h
variable{P G D own}
theorem EWp.mono{c:Code}{K K':Exit->List PV->Heap->Prop}{ts:List PV}{h:Heap}(k:EWp P G D c K ts h)(hk: ∀e t h,K e t h->K' e t h):EWp P G D c K' ts h:=by
 obtain⟨e,t1,h1,a,b⟩:=k;exact⟨e,t1,h1,hk _ _ _ a,b⟩
theorem ECall.mono{f:FuncId}{args:List PV}{h:Heap}{R R':PV->Heap->Prop}(k:ECall P G f args h R)(hk: ∀p h,R p h->R' p h):ECall P G f args h R':=by
 obtain⟨p,h1,a,b⟩:=k;exact⟨p,h1,hk _ _ a,b⟩
theorem EPure.mono{f:FuncId}{args:List PV}{K K':PV->Prop}(k:EPure P G f args K)(hk: ∀p,K p->K' p):EPure P G f args K':=by
 obtain⟨p,a,b⟩:=k;exact⟨p,hk _ a,b⟩
theorem EPure.call{f:FuncId}{args:List PV}{K:PV->Prop}(k:EPure P G f args K)(hG:GTree G)(ht: ∀p∈args,Tree p)(h:Heap):ECall P G f args h fun p h'=>K p/\h'=h:=by
 obtain⟨p,a,b,c⟩:=k;exact⟨p,h,⟨a,rfl⟩,Pure.frame c ht b hG h⟩
theorem kZ{c:Code}{K:Exit->List PV->Heap->Prop}{ts:List PV}{h:Heap}{e:Exit}{t1:List PV}{h1:Heap}(k: ∀rd Q,Q e t1 h1->AWp P G rd c Q ts h)(hk:K e t1 h1):EWp P G D c K ts h:=
 ⟨e,t1,h1,hk,fun rd _=>k rd _ ⟨rfl,rfl,rfl⟩⟩
theorem eU{a b:Code}{K:Exit->List PV->Heap->Prop}{ts:List PV}{h:Heap}(k:EWp P G D a (AThen (EWp P G D b K) K) ts h):EWp P G D (.seq a b) K ts h:=by
 obtain⟨e,t1,h1,hk,hw⟩:=k;cases e with
 |normal=>
  obtain⟨e2,t2,h2,hk2,zg1⟩:=hk;refine⟨e2,t2,h2,hk2,fun rd hd=>lH ((hw rd hd).mono ?_)⟩;rintro _ _ _ ⟨rfl,rfl,rfl⟩;exact zg1 rd hd
 |_=>
  refine⟨_,t1,h1,hk,fun rd hd=>lH ((hw rd hd).mono ?_)⟩;rintro _ _ _ ⟨rfl,rfl,rfl⟩;exact⟨rfl,rfl,rfl⟩
inductive Chain(P:Program)(G:Glob)(D:Option Nat->Prop)(c:Code)(e:Exit)(t2:List PV)(h2:Heap):Nat->List PV->Heap->Prop
 |last {ts:List PV} {h:Heap} (he:e≠ .normal) (k: ∀rd,D rd->AWp P G rd c (fun e' t' h'=>e'=e/\t'=t2/\h'=h2) ts h):Chain P G D c e t2 h2 0 ts h
 |step {n:Nat} {ts t1:List PV} {h h1:Heap} (k: ∀rd,D rd->AWp P G rd c (fun e' t' h'=>e'= .normal/\t'=t1/\h'=h1) ts h) (r:Chain P G D c e t2 h2 n t1 h1):Chain P G D c e t2 h2 (n+1) ts h
theorem Chain.awp{c:Code}{e:Exit}{t2:List PV}{h2:Heap}{n:Nat}{ts:List PV}{h:Heap}(k:Chain P G D c e t2 h2 n ts h){rd:Option Nat}(hd:D rd):AWp P G rd (.loop c) (fun e' t' h'=>e'=e/\t'=t2/\h'=h2) ts h:=by
 refine mV (Chain P G D c e t2 h2) n k fun n ts h r=> ?_;cases r with
 |last he k=>
  refine(k rd hd).mono ?_;rintro e' t' h' ⟨he',ht',hh'⟩;rw[he',ht',hh'];cases e with
  |normal=>exact absurd rfl he
  |_=>exact⟨rfl,rfl,rfl⟩
 |step k r=>
  refine(k rd hd).mono ?_;rintro _ _ _ ⟨rfl,rfl,rfl⟩;exact⟨_,Nat.lt_succ_self _,r⟩
theorem mS{c:Code}{K:Exit->List PV->Heap->Prop}{ts:List PV}{h:Heap}(I:Nat->List PV->Heap->Prop)(n:Nat)(h0:I n ts h)
  (k: ∀n ts h,I n ts h->EWp P G D c (AThen (fun ts' h'=> ∃m,m<n/\I m ts' h') K) ts h):EWp P G D (.loop c) K ts h:=by
 have key: ∀n ts h,I n ts h-> ∃e t2 h2 j,K e t2 h2/\Chain P G D c e t2 h2 j ts h:=by
  intro n
  induction n using Nat.strongRecOn with
  | _ n ih=>
   intro ts h hi;obtain⟨e,t1,h1,hk,hw⟩:=k n ts h hi;cases e with
   |normal=>
    obtain⟨m,hm,hi1⟩:=hk;obtain⟨e,t2,h2,j,a,b⟩:=ih m hm t1 h1 hi1;exact⟨e,t2,h2,j+1,a,.step hw b⟩
   |_=>exact⟨_,t1,h1,0,hk,.last Qf1 hw⟩
 obtain⟨e,t2,h2,j,a,b⟩:=key n ts h h0;exact⟨e,t2,h2,a,fun rd hd=>b.awp hd⟩
theorem ziE{o:Oper}{f:Operand->PV}{r:Nat}{args:List PV}{h:Heap}{R:PV->Heap->Prop}(he:dC o.op f=some (r,args))(k:EYl P G r args h R): ∃p h',R p h'/\ ∀rd,OpOk P G rd o h f fun q g=>q=p/\g=h':=by
 unfold dC at he;split at he
 case h_2=>cases he
 rename_i c ho;split at he
 case h_2=>cases he
 rename_i x hc;split at he
 case h_2=>cases he
 rename_i r' hx;cases he;obtain⟨ts,ps,as,bd,st,pd,hb,hl,e,t1,h1,⟨rfl,ts',ps',as',bd',pd1,hb1,e2,t2,h2,⟨ts3,ps3,as3,bd3,st3,pd3,hb3,hR⟩,zg1⟩,hw⟩:=k;have hl':c.args.size=ps.length:=Qfu;have fin: ∀p h',R p h'->(∀l,AWp P G (some l) bd (ARound r fun q g=>q=p/\g=h') t1 (h1.set r (.loop ts' ps' as' bd' .busy pd1)))-> ∃p h',R p h'/\ ∀rd,OpOk P G rd o h f fun q g=>q=p/\g=h':=by
  intro p h' hr hb2;refine⟨p,h',hr,fun rd=> .yield ho hc hx hb hl' fun l=>(hw (some l) Qf1).mono ?_⟩;rintro _ _ _ ⟨rfl,rfl,rfl⟩;exact⟨rfl,ts',ps',as',bd',pd1,hb1,hb2 l⟩
 cases e2 with
 |normal=>exact fin _ _ hR fun l=>(zg1 (some l) Qf1).mono Qhv
 |ret=>exact fin _ _ hR fun l=>(zg1 (some l) Qf1).mono Qhv
 |exit id=>exact fin _ _ hR fun l=>(zg1 (some l) Qf1).mono Qhv
 |_=>exact hR.elim
theorem ER.sreg{ops:List Oper}: ∀{rest:List Oper}{Q:List PV->Heap->Prop}{ts:List PV}{h:Heap},ER P G D own (ops.map (·.dst)) rest Q ts h->
  ∃t1 h1,Q t1 h1/\ ∀rd,D rd->SReg P G rd ops rest (fun t g=>t=t1/\g=h1) ts h:=by
 intro rest
 induction rest with
 |nil=>intro Q ts h k;simp only[ER] at k;exact⟨ts,h,k,fun rd _=>by simp[SReg]⟩
 | cons o rest ih=>
  intro Q ts h k;simp only[ER] at k;have go: ∀{r:SR},qC P own o.op (wV G ts) h=r->EGo P G D own (ops.map (·.dst)) rest Q o ts h r->(r= .no->o.guard=none)->
    ∃t1 h1,Q t1 h1/\ ∀rd,D rd->OpOk P G rd o h (wV G ts) fun p h'=>SReg P G rd ops rest (fun t g=>t=t1/\g=h1) (zZ ts o.dst p) h':=by
   intro r hr k _;cases r with
   |val p h' c=>
    simp only[EGo] at k;obtain⟨t1,h1,a,b⟩:=ih k.2;exact⟨t1,h1,a,fun rd hd=>uI (own:=own) (by rw[hr];exact⟨k.1,b rd hd⟩)⟩
   |call g args=>
    simp only[EGo] at k;obtain⟨p,h',a,b⟩:=k;obtain⟨t1,h1,a1,b1⟩:=ih a;refine⟨t1,h1,a1,fun rd hd=>uI (own:=own) ?_⟩;rw[hr];refine b.mono fun q g hqg=> ?_;obtain⟨rfl,rfl⟩:=hqg;exact b1 rd hd
   |no=>
    simp only[EGo] at k;obtain⟨_,p,h',a,b⟩:=k;obtain⟨t1,h1,a1,b1⟩:=ih b;refine⟨t1,h1,a1,fun rd hd=>(a rd hd).mono ?_⟩;rintro _ _ ⟨rfl,rfl⟩;exact b1 rd hd
  cases hg:o.guard with
  |none=>
   have e:vU P G own (ops.map (·.dst)) o ts h=qC P own o.op (wV G ts) h:=by unfold vU;rw[hg]
   rw[e] at k;obtain⟨t1,h1,a,b⟩:=go rfl k (fun _=>hg);refine⟨t1,h1,a,fun rd hd=> ?_⟩;simp only[SReg,hg];exact b rd hd
  | some jw=>
   obtain⟨j,want⟩:=jw;have skip: ∀{p:PV}{h':Heap}{c:Prop},EGo P G D own (ops.map (·.dst)) rest Q o ts h (.val p h' c)->c/\ER P G D own (ops.map (·.dst)) rest Q (zZ ts o.dst p) h':=fun k=>by simp only[EGo] at k;exact k
   have bad: ¬EGo P G D own (ops.map (·.dst)) rest Q o ts h .no:=fun k=>by simp only[EGo] at k;rw[hg] at k;cases k.1
   unfold vU at k;rw[hg] at k;simp only[] at k;split at k
   ·rename_i b hb;split at k
    ·rename_i hbw;obtain⟨t1,h1,a1,b1⟩:=go rfl k (fun e=>by rw[e] at k;exact absurd k bad);refine⟨t1,h1,a1,fun rd hd=> ?_⟩;simp only[SReg,hg,oQ,hb];exact⟨fun _=>b1 rd hd,fun ne=>absurd hbw ne⟩
    ·rename_i hbw;obtain⟨t1,h1,a1,b1⟩:=ih (skip k).2;refine⟨t1,h1,a1,fun rd hd=> ?_⟩;simp only[SReg,hg,oQ,hb];exact⟨fun e'=>absurd e' hbw,fun _=>b1 rd hd⟩
   ·rename_i hb;obtain⟨t1,h1,a1,b1⟩:=ih (skip k).2;refine⟨t1,h1,a1,fun rd hd=> ?_⟩;simp only[SReg,hg,oQ,hb];exact b1 rd hd
   ·exact absurd k bad
theorem uV: ∀(c:Code)(K:Exit->List PV->Heap->Prop)(ts:List PV)(h:Heap),uJ P G D own c K ts h->EWp P G D c K ts h:=by
 intro c
 induction c with
 |skip=>intro K ts h k;exact kZ (fun rd Q q=>mU q) k
 |label l=>intro K ts h k;exact kZ (fun rd Q q=>oI q) k
 |exit id=>intro K ts h k;exact kZ (fun rd Q q=>mW q) k
 |ret=>intro K ts h k;exact kZ (fun rd Q q=>jB q) k
 | region id ops d=>
  intro K ts h k;cases d with
  | false=>
   obtain⟨t1,h1,a,b⟩:=ER.sreg k;refine⟨.normal,t1,h1,a,fun rd hd=> ?_⟩;have:=rM (id:=id) (rd:=rd) (Q:=fun e' t' h'=>e'= .normal/\t'=t1/\h'=h1) (ts:=ts) (h:=h) (l:=ops.toList) (by
    have e:(fun (t:List PV) (g:Heap)=>Exit.normal=Exit.normal/\t=t1/\g=h1)=fun t g=>t=t1/\g=h1:=by funext t g;simp
    rw[e];exact b rd hd)
   simpa using this
  |true=>exact k
 |seq a b iha ihb=>
  exact Qcf
 | cond x a b iha ihb=>
  intro K ts h k;simp only[uJ] at k;split at k
  ·rename_i t hx;split at k
   ·rename_i e;subst e;obtain⟨e,t1,h1,q,w⟩:=iha K ts h k;exact⟨e,t1,h1,q,fun rd hd=>qQ hx (fun _=>w rd hd) (fun e=>by cases e)⟩
   ·rename_i e;have e:t=false:=by simpa using e
    subst e;obtain⟨e,t1,h1,q,w⟩:=ihb K ts h k;exact⟨e,t1,h1,q,fun rd hd=>qQ hx (fun e=>by cases e) (fun _=>w rd hd)⟩
  ·exact k.elim
 | block id c ih=>
  intro K ts h k;obtain⟨e,t1,h1,q,w⟩:=ih _ ts h k;have fin: ∀e2,K e2 t1 h1->ABlock id (fun e' t' h'=>e'=e2/\t'=t1/\h'=h1) e t1 h1->EWp P G D (.block id c) K ts h:=fun e2 k2 a=>
   ⟨e2,t1,h1,k2,fun rd hd=>oK ((w rd hd).mono (by rintro _ _ _ ⟨rfl,rfl,rfl⟩;exact a))⟩
  cases e with
  |exit id'=>
   simp only[ABlock] at q;split at q
   ·rename_i e;exact fin _ q (by simp[ABlock,e])
   ·rename_i e;exact fin _ q (by simp[ABlock,e])
  |_=>exact fin _ q ⟨rfl,rfl,rfl⟩
 |_=>intro K ts h k;exact k
theorem zbX{f:FuncId}{fn:Func}{c:Code}{args ts:List PV}{h:Heap}{R:PV->Heap->Prop}(hf:P.funcs[f]? =some fn)(hb:fn.body=some c)
  (hen:uG P f=true) (ht:args++List.replicate (fn.ntmps-args.length) .ud=ts) {own:Bool} (k:uJ P G (fun rd=>rd=none) own c (AEnd P fn R) ts h):ECall P G f args h R:=by
 obtain⟨e,t1,h1,q,w⟩:=uV _ _ _ _ k;have fin: ∀p c,nV (α:=Prop) P t1 h1 fn.results.toList=some (p,c)->c->R p h1->AEnd P fn (fun q g=>q=p/\g=h1) e t1 h1->ECall P G f args h R:=fun p c hr hc hR hE=>
  ⟨p,h1,hR,uF hf hb hen (by rw[ht];exact(w none rfl).mono (by rintro _ _ _ ⟨rfl,rfl,rfl⟩;exact hE))⟩
 cases e with
 | normal=>
  simp only[AEnd] at q;split at q
  ·exact Qda
  ·exact q.elim
 | ret=>
  simp only[AEnd] at q;split at q
  ·exact Qda
  ·exact q.elim
 |_=>exact q.elim
theorem ECall.cut{f:FuncId}{args:List PV}{R:PV->Heap->Prop}{K:PV->Prop}(k:ECall P G f args [] R)(hk: ∀p h,R p h->K (fz 0 h 40 p)):EPure P G f args K:=by
 obtain⟨p,h',a,b⟩:=k;refine⟨_,hk _ _ a,zjL _ _ _,?_⟩;refine ACall.cut 0 40 (Xe _) (b.mono ?_);rintro _ _ ⟨rfl,rfl⟩;exact⟨rfl,rfl⟩
theorem ECall.pure{f:FuncId}{args:List PV}{K:PV->Prop}(k:ECall P G f args [] fun p h=>(K p/\Tree p)/\h=[]):EPure P G f args K:=by
 obtain⟨p,h',⟨⟨a,t⟩,rfl⟩,b⟩:=k;exact⟨p,a,t,b⟩
theorem ADo.det{n0:Nat}{t0:List PV}{d:DAnn}{op:Op}{f:Operand->PV}{h:Heap}{K:PV->Heap->Prop}{s:SR}(k:ADo P G n0 t0 d op f h K s): ∃p h',K p h'/\ ∀K',K' p h'->ADo P G n0 t0 d op f h K' s:=by
 by_cases h6:d.cl=6
 ·cases s with
  |val p h' c=>
   simp only[ADo,h6,Wk] at k;obtain⟨kc,k2,k3,k4,k5,k6,k7⟩:=k;exact⟨p,_,k7,fun K' hk=>by simp only[ADo,h6,Wk];exact⟨kc,k2,k3,k4,k5,k6,hk⟩⟩
  |call g args=>
   simp only[ADo,h6,Wk] at k;obtain⟨p,h',k1,k2,k3,k4,k5,k6,k7⟩:=k;exact⟨p,_,k7,fun K' hk=>by simp only[ADo,h6,Wk];exact⟨p,h',k1,k2,k3,k4,k5,k6,hk⟩⟩
  |no=>exact k.elim
 ·cases s with
  |val p h' c=>
   simp only[ADo,Qi h6] at k;exact⟨p,h',k.2,fun K' hk=>by simp only[ADo,Qi h6];exact⟨k.1,hk⟩⟩
  | call g args=>
   by_cases h3:d.cl=3
   ·simp only[ADo,Qi h6,Qj h3] at k;obtain⟨p,k1,k2,k3,k4⟩:=k;exact⟨p,h,k4,fun K' hk=>by simp only[ADo,Qi h6,Qj h3];exact⟨p,k1,k2,k3,hk⟩⟩
   ·simp only[ADo,Qi h6,Qi h3] at k;obtain⟨p,h',k1,k2⟩:=k;exact⟨p,h',k2,fun K' hk=>by simp only[ADo,Qi h6,Qi h3];exact⟨p,h',k1,hk⟩⟩
  |no=>exact k.elim
theorem AD.det{n0:Nat}{t0:List PV}{ann:Nat->DAnn}{ds:List (Option Tmp)}{ops:List Oper}: ∀(ρ:List Nat)(Q:List PV->Heap->Prop)(ts:List PV)(h:Heap),AD P G own n0 t0 ann ds ops ρ Q ts h->
  ∃t1 h1,Q t1 h1/\ ∀Q':List PV->Heap->Prop,Q' t1 h1->AD P G own n0 t0 ann ds ops ρ Q' ts h:=by
 intro ρ
 induction ρ with
 |nil=>intro Q ts h k;exact⟨ts,h,by simpa only[AD] using k,fun Q' q=>by simpa only[AD] using q⟩
 | cons i r ih=>
  intro Q ts h k;cases ho:ops[i]? with
  |none=>simp only[AD,ho] at k
  | some o=>
   have go:ADo P G n0 t0 (ann i) o.op (wV G ts) h (fun p h'=>AD P G own n0 t0 ann ds ops r Q (zZ ts o.dst p) h') (vI P own n0 t0 (ann i) o.op (wV G ts) h)->
     ∃t1 h1,Q t1 h1/\ ∀Q':List PV->Heap->Prop,Q' t1 h1->ADo P G n0 t0 (ann i) o.op (wV G ts) h (fun p h'=>AD P G own n0 t0 ann ds ops r Q' (zZ ts o.dst p) h') (vI P own n0 t0 (ann i) o.op (wV G ts) h):=fun k=>by
    obtain⟨p,h',a,b⟩:=ADo.det k;obtain⟨t1,h1,a1,b1⟩:=ih _ _ _ a;exact⟨t1,h1,a1,fun Q' q=>b _ (b1 Q' q)⟩
   cases hg:o.guard with
   |none=>
    simp only[AD,ho,hg,ADGo] at k ⊢
    exact go k
   | some jw=>
    obtain⟨j,want⟩:=jw;simp only[AD,ho,hg,ADGo] at k ⊢
    generalize sK ds ts j=x at k ⊢
    split at k
    ·rename_i b;by_cases hbw:b=want
     ·simp only[Qj hbw] at k ⊢
      exact go k
     ·simp only[Qi hbw] at k ⊢
      exact ih _ _ _ k
    ·exact ih _ _ _ k
    ·exact k.elim
section
variable{ds:List (Option Tmp)}{o:Oper}{rest:List Oper}{Q:List PV->Heap->Prop}{ts:List PV}{h:Heap}
theorem wU(k: ∀r,vU P G own ds o ts h=r->EGo P G D own ds rest Q o ts h r):ER P G D own ds (o::rest) Q ts h:=by
 simp only[ER];exact k _ rfl
theorem za1(k:Q ts h):ER P G D own ds [] Q ts h:=by
 simp only[ER];exact k
theorem za0{h':Heap}{p:PV}(k: ∀ts',zZ ts o.dst p=ts'->ER P G D own ds rest Q ts' h'):EGo P G D own ds rest Q o ts h (.val p h' True):=by
 simp only[EGo];exact⟨trivial,k _ rfl⟩
theorem zH{h':Heap}{p:PV}{c:Prop}(hc:c)(k: ∀ts',zZ ts o.dst p=ts'->ER P G D own ds rest Q ts' h'):EGo P G D own ds rest Q o ts h (.val p h' c):=by
 simp only[EGo];exact⟨hc,k _ rfl⟩
theorem zC{g:FuncId}{args:List PV}{R:PV->Heap->Prop}(hc:ECall P G g args h R)(k: ∀p h',R p h'-> ∀ts',zZ ts o.dst p=ts'->ER P G D own ds rest Q ts' h'):
  EGo P G D own ds rest Q o ts h (.call g args):=by
 simp only[EGo];exact hc.mono fun p h' hr=>k p h' hr _ rfl
theorem rC{r:Nat}{args:List PV}{R:PV->Heap->Prop}(hg:o.guard=none)(he:dC o.op (wV G ts)=some (r,args))(hc:EYl P G r args h R)(k: ∀p h',R p h'-> ∀ts',zZ ts o.dst p=ts'->ER P G D own ds rest Q ts' h'):
  EGo P G D own ds rest Q o ts h .no:=by
 obtain⟨p,h',a,b⟩:=ziE he hc;simp only[EGo];exact⟨hg,p,h',fun rd _=>b rd,k p h' a _ rfl⟩
end
section
variable{K:Exit->List PV->Heap->Prop}{ts:List PV}{h:Heap}
theorem zaY{a b:Code}(k:uJ P G D own a (AThen (uJ P G D own b K) K) ts h):uJ P G D own (.seq a b) K ts h:=k
theorem eV(k:K .normal ts h):uJ P G D own .skip K ts h:=k
theorem eX{id:Nat}(k:K (.exit id) ts h):uJ P G D own (.exit id) K ts h:=k
theorem zaZ(k:K .ret ts h):uJ P G D own .ret K ts h:=k
theorem iG{l:Nat}(k:K .normal ts h):uJ P G D own (.label l) K ts h:=k
theorem iH{id:Nat}{c:Code}(k:uJ P G D own c (ABlock id K) ts h):uJ P G D own (.block id c) K ts h:=k
theorem lS{id:Nat}{ops:Array Oper}(k: ∀l,ops.toList=l-> ∀ds,l.map (·.dst)=ds->ER P G D own ds l (K .normal) ts h):uJ P G D own (.region id ops false) K ts h:=by
 simp only[uJ];exact k _ rfl _ rfl
theorem qP{id:Nat}{ops:Array Oper}(k:EWp P G D (.region id ops true) K ts h):uJ P G D own (.region id ops true) K ts h:=k
theorem eW{c:Code}(k:EWp P G D (.loop c) K ts h):uJ P G D own (.loop c) K ts h:=k
theorem mC{f:Operand}{ps:Array Tmp}{as bd:Code}(k:EWp P G D (.rangeFunc f ps as bd) K ts h):uJ P G D own (.rangeFunc f ps as bd) K ts h:=k
theorem eY{x:Operand}{a b:Code}(k: ∀r,wV G ts x=r->ACond r (uJ P G D own a K ts h) (uJ P G D own b K ts h)):uJ P G D own (.cond x a b) K ts h:=k _ rfl
theorem zdZ(hm:P.follows .mixedOrders=true)(hG:GTree G)(pl:DPlan){id:Nat}{ops:Array Oper}(hg:pl.good ops.toList=true)
  (k:AD P G own h.length ts pl.at (ops.toList.map (·.dst)) ops.toList pl.ord (K .normal) ts (rY h pl.places)):EWp P G D (.region id ops true) K ts h:=by
 obtain⟨t1,h1,a,b⟩:=AD.det _ _ _ _ k;exact⟨.normal,t1,h1,a,fun rd _=>oJ (own:=own) hm hG pl hg (b _ ⟨rfl,rfl,rfl⟩)⟩
theorem tT{g:Operand}{ps:Array Tmp}{as bd:Code}{f:FuncId}{fst cap:List PV}(hd: ∀rd,D rd->rd=none)(hg:wV G ts g= .fn (.func f) fst cap)
  (k:ECall P G f (fst++[.yl h.length]++cap) (h++[.loop ts ps.toList as bd .ready none]) fun _ h1=>ARange h.length ts K h1):EWp P G D (.rangeFunc g ps as bd) K ts h:=by
 obtain⟨p,h',⟨ts',ps',as',bd',st,pd,hb,hst,hq⟩,hc⟩:=k;have fin: ∀e h2,K e ts h2->ARange h.length ts (fun e' t' h3=>e'=e/\t'=ts/\h3=h2) h'->EWp P G D (.rangeFunc g ps as bd) K ts h:=fun e h2 hk hA=>
  ⟨e,ts,h2,hk,fun rd hdd=>by
   rw[hd rd hdd];exact nF hg (hc.mono (by rintro _ _ ⟨rfl,rfl⟩;exact hA))⟩
 split at hq
 ·exact Qcm
 ·exact Qcm
 ·exact Qcm
 ·exact hq.elim
end
section
variable{n0:Nat}{t0:List PV}{ann:Nat->DAnn}{ds:List (Option Tmp)}{ops:List Oper}{i:Nat}{r:List Nat}{Q:List PV->Heap->Prop}{ts:List PV}{h:Heap}{o:Oper}{d:DAnn}
theorem zP{g:FuncId}{args:List PV}{R:PV->Heap->Prop}(h6:d.cl≠6)(h3:d.cl≠3)(hc:ECall P G g args h R)(k: ∀p h',R p h'-> ∀ts',zZ ts o.dst p=ts'->AD P G own n0 t0 ann ds ops r Q ts' h'):ADGo P G own n0 t0 ann ds ops r Q d o ts h (.call g args):=by
 obtain⟨p,h',a,b⟩:=hc;exact tY h6 h3 b (k p h' a)
theorem vP{g:FuncId}{args:List PV}{R:PV->Prop}(h3:d.cl=3)(hc:EPure P G g args R)(ha: ∀q∈args,Tree q)(k: ∀p,R p-> ∀ts',zZ ts o.dst p=ts'->AD P G own n0 t0 ann ds ops r Q ts' h):ADGo P G own n0 t0 ann ds ops r Q d o ts h (.call g args):=by
 obtain⟨p,a,b,c⟩:=hc;exact bQ h3 c ha b (k p a)
end
end
end Go.AL
namespace Go.AL
open Go.RowKit
def znK:List Nat->List PV->List PV->List PV
 |k::ks,v::vs,ts=>znK ks vs (ts.set k v)
 |_,_,ts=>ts
def TLe(a b:List PV):Prop:=a.length=b.length/\ ∀(i:Nat)(p q:PV),a[i]? =some p->b[i]? =some q->q=p\/q= .un
section
variable{P:Program}{G:Glob}{D:Option Nat->Prop}{own:Bool}
theorem zcA{rd:Option Nat}{c:Code}{Q:Exit->List PV->Heap->Prop}{ts ts':List PV}{h:Heap}(hl:TLe ts ts')(k:AWp P G rd c Q ts' h):AWp P G rd c Q ts h:=by
 intro B φ w X a hA;refine k B φ w X a ⟨hA.st,hA.gl,⟨by rw[hA.tr.size,hl.1],fun i q hq=> ?_⟩,hA.mark,hA.base⟩;have hi:i<ts.length:=by rw[hl.1];exact(gsi hq).1
 rcases hl.2 i _ q (Qa hi) hq with e|e
 ·subst e;exact hA.tr.rel i _ (Qa hi)
 ·subst e;exact .un
theorem lF{c:Code}{K:Exit->List PV->Heap->Prop}{ts ts':List PV}{h:Heap}(hl:TLe ts ts')(k:EWp P G D c K ts' h):EWp P G D c K ts h:=by
 obtain⟨e,t1,h1,a,b⟩:=k;exact⟨e,t1,h1,a,fun rd hd=>zcA hl (b rd hd)⟩
theorem PLe.ts{k:Nat}{els els':List (List PV)}(hl:els.length=els'.length)(h: ∀(i:Nat)(e e':List PV),els[i]? =some e->els'[i]? =some e'->e.length=e'.length/\ ∀(j:Nat)(p q:PV),e[j]? =some p->e'[j]? =some q->PLe p q):
  PLe (.ts k els) (.ts k els'):=fun S v hv=>by
 cases hv with
 | ts hl' hc hm hk ad ha val hval hr=>
  refine .ts (hl▸hl') hc hm (fun i e' he'=> ?_) ad ha val hval fun i e' j q he' hq=> ?_
  ·have hi:i<els.length:=by rw[hl];exact(gsi he').1
   rw[<-(h i _ e' (Qa hi) he').1];exact hk i _ (Qa hi)
  ·have hi:i<els.length:=by rw[hl];exact(gsi he').1
   obtain⟨h1,h2⟩:=h i _ e' (Qa hi) he';have hj:j<els[i].length:=by rw[h1];exact(gsi hq).1
   exact h2 j _ q (Qa hj) hq S _ (hr i _ j _ (Qa hi) (Qa hj))
theorem PLe.tup{cs ds:List PV}(hl:cs.length=ds.length)(h: ∀(i:Nat)(p q:PV),cs[i]? =some p->ds[i]? =some q->PLe p q):PLe (.tup cs) (.tup ds):=fun S v hv=>by
 cases hv with
 |tup hl' hr=>
  refine .tup (hl'.trans hl) fun i q u hq hu=> ?_;exact Qde
inductive PLes:List PV->List PV->Prop
 |nil:PLes [] []
 |cons {p q:PV} {ps qs:List PV} (h:PLe p q) (r:PLes ps qs):PLes (p::ps) (q::qs)
theorem PLes.len{ps qs:List PV}(h:PLes ps qs):ps.length=qs.length:=by
 induction h with
 |nil=>rfl
 |cons _ _ ih=>simp[ih]
theorem PLes.get{ps qs:List PV}(h:PLes ps qs): ∀(i:Nat)(p q:PV),ps[i]? =some p->qs[i]? =some q->PLe p q:=by
 induction h with
 |nil=>intro i p q hp;simp at hp
 |cons h _ ih=>
  intro i p q hp hq;cases i with
  |zero=>simp at hp hq;subst hp;subst hq;exact h
  |succ i=>exact ih i p q (by simpa using hp) Qfy
theorem PLes.refl: ∀ps:List PV,PLes ps ps
 | []=> .nil
 |p::ps=> .cons (PLe.refl p) (PLes.refl ps)
theorem PLes.agg{ps qs:List PV}(h:PLes ps qs):PLe (.agg ps) (.agg qs):=PLe.agg h.len h.get
theorem PLes.tup{ps qs:List PV}(h:PLes ps qs):PLe (.tup ps) (.tup qs):=PLe.tup h.len h.get
theorem PLes.ts_map{α:Type}{k:Nat}{l:List α}{f g:α->List PV}(h: ∀x∈l,PLes (f x) (g x)):PLe (.ts k (l.map f)) (.ts k (l.map g)):=by
 refine PLe.ts Qf1 fun i e e' he he'=> ?_;rw[Qu] at he he';cases hx:l[i]? with
 |none=>rw[hx] at he;cases he
 |some x=>
  rw[hx] at he he';cases he;cases he';exact⟨(h x (Qk hx)).len,(h x (Qk hx)).get⟩
theorem ECall.args{f:FuncId}{args args':List PV}{h:Heap}{R:PV->Heap->Prop}(k:ECall P G f args h R)(hle:PLes args' args):ECall P G f args' h R:=by
 obtain⟨p,h',a,b⟩:=k;exact⟨p,h',a,b.args hle.len hle.get⟩
theorem EPure.args{f:FuncId}{args args':List PV}{K:PV->Prop}(k:EPure P G f args K)(hle:PLes args' args):EPure P G f args' K:=by
 obtain⟨p,a,t,b⟩:=k;exact⟨p,a,t,ACall.args b hle.len hle.get⟩
theorem EPure.weaken{f:FuncId}{args:List PV}{K K':PV->Prop}(k:EPure P G f args K)(hk: ∀p,K p-> ∃q,PLe p q/\K' q/\Tree q):EPure P G f args K':=by
 obtain⟨p,a,t,b⟩:=k;obtain⟨q,hq,r,tq⟩:=hk _ a;refine⟨q,r,tq,ACall.weaken (b.mono ?_)⟩;rintro _ _ ⟨rfl,rfl⟩;exact⟨q,hq,rfl,rfl⟩
end
theorem oN{v:Value}:Tree (.sc v)↔True:=⟨fun _=>trivial,fun _=> .sc⟩
theorem cJ:Tree .nil↔True:=⟨fun _=>trivial,fun _=> .nil⟩
theorem zJ{cs:List PV}:Tree (.agg cs)↔ ∀p∈cs,Tree p:=⟨fun h=>by cases h with|agg h=>exact h,.agg⟩
theorem cI{cs:List PV}:Tree (.tup cs)↔ ∀p∈cs,Tree p:=⟨fun h=>by cases h with|tup h=>exact h,.tup⟩
theorem xX{k:Nat}{els:List (List PV)}:Tree (.ts k els)↔ ∀e∈els, ∀p∈e,Tree p:=⟨fun h=>by cases h with|ts h=>exact h,.ts⟩
theorem yO{f:Fn}{a b:List PV}:Tree (.fn f a b)↔(∀p∈a,Tree p)/\ ∀p∈b,Tree p:=⟨fun h=>by cases h with|fn h k=>exact⟨h,k⟩,fun h=> .fn h.1 h.2⟩
end Go.AL
namespace Go.AL
open Go.RowKit
section
variable{P:Program}{G:Glob}{D:Option Nat->Prop}{own:Bool}
theorem mO{ts:List PV}{d:Nat}{p:PV}(h:ts.getD d .un=p)(hd:d<ts.length):ts.set d p=ts:=by
 subst h;rw[Qb,Qa hd];exact Js hd
theorem kW{ts:List PV}{d:Nat}{v:Value}(h:ts.getD d .un= .sc v):d<ts.length:=by
 by_cases hd:d<ts.length
 ·exact hd
 ·rw[Qb,Ye Qf0] at h;cases h
end
end Go.AL
namespace Go.AL
open Go.RowKit
inductive Mk where
 |k
 |d
 |v
def zY:List Mk->List PV->List PV->List PV
 | [],_,ts=>ts
 | .k::m,vs,ts=>match ts with
  | []=>[]
  |p::ts=>p::zY m vs ts
 | .d::m,vs,ts=>match ts with
  | []=>[]
  |_::ts=> .un::zY m vs ts
 | .v::m,vs,ts=>match ts,vs with
  | [],_=>[]
  |_::ts,[]=> .un::zY m [] ts
  |_::ts,v::vs=>v::zY m vs ts
def xJ:List Mk->List PV->List PV
 | [],_=>[]
 | .k::m,ts=>xJ m ts.tail
 | .d::m,ts=>xJ m ts.tail
 | .v::m,ts=>match ts with
  | []=>[]
  |p::ts=>p::xJ m ts
theorem TLe.refl(a:List PV):TLe a a:=⟨rfl,fun i p q h k=>by rw[h] at k;cases k;exact .inl rfl⟩
theorem TLe.cons{p q:PV}{a b:List PV}(h:TLe a b)(hq:q=p\/q= .un):TLe (p::a) (q::b):=
 ⟨by simp[h.1],fun i x y hx hy=>by
  cases i with
  |zero=>simp at hx hy;subst hx;subst hy;exact hq
  |succ i=>exact h.2 i x y Qfz Qg2⟩
theorem TLe.mix: ∀(m:List Mk)(a b vs:List PV),xJ m a=vs->zY m [] a=zY m [] b->TLe a (zY m vs b):=by
 intro m
 induction m with
 |nil=>intro a b vs _ h;simp only[zY] at h ⊢;subst h;exact TLe.refl a
 | cons x m ih=>
  intro a b vs hp h;cases x with
  | k=>
   cases a<;>cases b<;>simp only[zY] at h ⊢
   ·exact TLe.refl _
   ·cases h
   ·cases h
   ·rename_i p a q b;simp only[List.cons.injEq] at h;exact(ih a b vs (by simpa [xJ] using hp) h.2).cons (.inl h.1.symm)
  | d=>
   cases a<;>cases b<;>simp only[zY] at h ⊢
   ·exact TLe.refl _
   ·cases h
   ·cases h
   ·rename_i p a q b;simp only[List.cons.injEq,true_and] at h;exact(ih a b vs (by simpa [xJ] using hp) h).cons (.inr rfl)
  | v=>
   cases a<;>cases b<;>simp only[zY] at h ⊢
   ·exact TLe.refl _
   ·cases h
   ·cases h
   ·rename_i p a q b;simp only[List.cons.injEq,true_and] at h;simp only[xJ] at hp;subst hp;exact(ih a b _ rfl h).cons (.inl rfl)
section
variable{P:Program}{G:Glob}{D:Option Nat->Prop}{own:Bool}
theorem zW{σ:Type}(M:List Mk)(f:σ->List PV)(g:σ->Heap)(I:σ->Prop)(m:σ->Nat){c:Code}{K:Exit->List PV->Heap->Prop}{ts:List PV}{h:Heap}(s0:σ)(h1:xJ M ts=f s0)(h2:h=g s0)(h3:I s0)
  (k: ∀s,I s-> ∀t,zY M (f s) ts=t->uJ P G D own c (AThen (fun ts' h'=> ∃s',I s'/\m s'<m s/\xJ M ts'=f s'/\zY M [] ts'=zY M [] ts/\h'=g s') K) t (g s)):EWp P G D (.loop c) K ts h:=by
 refine mS (fun n ts' h=> ∃s,I s/\m s=n/\xJ M ts'=f s/\zY M [] ts'=zY M [] ts/\h=g s) (m s0) ⟨s0,h3,rfl,h1,rfl,h2⟩ ?_;rintro n ts' h ⟨s,hI,rfl,e1,e2,rfl⟩;refine lF (TLe.mix M ts' ts _ e1 e2) ((uV _ _ _ _ (k s hI _ rfl)).mono fun e t1 h1 q=> ?_);cases e with
 |normal=>obtain⟨s',a,b,c,d,e⟩:=q;exact⟨m s',b,s',a,rfl,c,d,e⟩
 |_=>exact q
end
theorem zM(a:Nat):(a<a)=False:=Qf1
theorem zB(a:Nat):(0<=(a:Int))=True:=Qf1
end Go.AL
namespace Go.AL
section
variable{P:Program}{G:Glob}{D:Option Nat->Prop}{own:Bool}
theorem zO{σ:Type}(n:Nat)(M:List Mk)(f:Nat->σ->List PV)(g:σ->Heap)(I:Nat->σ->Prop){c:Code}{K:Exit->List PV->Heap->Prop}{ts:List PV}{h:Heap}(s0:σ)(h1:xJ M ts=f 0 s0)(h2:h=g s0)(h3:I 0 s0)(hn:n<=140737488355328)
  (k0: ∀s,I n s-> ∀t,zY M (f n s) ts=t->uJ P G D own c (AThen (fun _ _=>False) K) t (g s))
  (k1: ∀i s,i<n->IntKind.i64.wrap (↑i+1)= ↑(i+1)->I i s-> ∀t,zY M (f i s) ts=t->uJ P G D own c (AThen (fun ts' h'=> ∃s',I (i+1) s'/\xJ M ts'=f (i+1) s'/\zY M [] ts'=zY M [] ts/\h'=g s') K) t (g s)):EWp P G D (.loop c) K ts h:=by
 refine mS (fun m ts' h=> ∃i s,m=n-i/\i<=n/\I i s/\xJ M ts'=f i s/\zY M [] ts'=zY M [] ts/\h=g s) n ⟨0,s0,rfl,Yn _,h3,h1,rfl,h2⟩ ?_;rintro m ts' h ⟨i,s,rfl,hi,hI,e1,e2,rfl⟩;have hle:=TLe.mix M ts' ts _ e1 e2;rcases Xy i n with hlt|hge
 ·have hw:IntKind.i64.wrap ((i:Int)+1)= ↑(i+1):=by
   rw[IntWalk.i64_in _ ⟨Qf0,Qf0⟩];rfl
  refine lF hle ((uV _ _ _ _ (k1 i s hlt hw hI _ rfl)).mono fun e t1 h1 q=> ?_);cases e with
  |normal=>obtain⟨s',a,b,c,d⟩:=q;exact⟨n-(i+1),Qf0,i+1,s',rfl,hlt,a,b,c,d⟩
  |_=>exact q
 ·have e:i=n:=Qf0;subst e;refine lF hle ((uV _ _ _ _ (k0 s hI _ rfl)).mono fun e t1 h1 q=> ?_);cases e with
  |normal=>exact q.elim
  |_=>exact q
end
end Go.AL
namespace Go.AL
open Go.RowKit
section
variable(P:Program)(G:Glob)(D:Option Nat->Prop)(own:Bool)
def GGo(ds:List (Option Tmp))(o:Oper)(rest:List Oper)(Q:List PV->Heap->Prop)(ts:List PV)(h:Heap)(j:Nat):Option PV->Prop
 |some (.sc (.bool b))=>(b=true-> ∀t',ts.set ((ds.getD j none).getD 0) (.sc (.bool true))=t'->ER P G D own ds (o::rest) Q t' h)/\(b=false-> ∀t',ts.set ((ds.getD j none).getD 0) (.sc (.bool false))=t'->ER P G D own ds (o::rest) Q t' h)
 |_=>False
variable{P G D own}
theorem zb3{ds:List (Option Tmp)}{ts:List PV}{j:Nat}{p:PV}(h:sK ds ts j=some p):ts.getD ((ds.getD j none).getD 0) .un=p:=by
 unfold sK at h;cases hd:ds.getD j none with
 |none=>rw[hd] at h;cases h
 |some d=>rw[hd] at h;simp only[Wh,Option.some.injEq] at h;simpa using h
theorem tO{ds:List (Option Tmp)}{o:Oper}{rest:List Oper}{Q:List PV->Heap->Prop}{ts:List PV}{h:Heap}{j:Nat}{want:Bool}(_hg:o.guard=some (j,want))(k: ∀r,sK ds ts j=r->GGo P G D own ds o rest Q ts h j r):ER P G D own ds (o::rest) Q ts h:=by
 have k':=k _ rfl;unfold GGo at k';split at k'
 ·rename_i b hb;exact Qcl
 ·exact k'.elim
section
variable{ds:List (Option Tmp)}{o:Oper}{rest:List Oper}{Q:List PV->Heap->Prop}{ts:List PV}{h:Heap}{j:Nat}{n0:Nat}{t0:List PV}{ann:Nat->DAnn}{ops:List Oper}{i:Nat}{r:List Nat}
theorem tL(k:False):GGo P G D own ds o rest Q ts h j (some (.sc (.bool true))):=k.elim
theorem tN(k:False):GGo P G D own ds o rest Q ts h j (some (.sc (.bool false))):=k.elim
theorem tK{b:Bool}(k1:b=true-> ∀t',ts.set ((ds.getD j none).getD 0) (.sc (.bool true))=t'->ER P G D own ds (o::rest) Q t' h)(k2:b=false-> ∀t',ts.set ((ds.getD j none).getD 0) (.sc (.bool false))=t'->ER P G D own ds (o::rest) Q t' h):GGo P G D own ds o rest Q ts h j (some (.sc (.bool b))):=⟨k1,k2⟩
end
end
end Go.AL
namespace Go.AL
section
variable{P:Program}{G:Glob}{D:Option Nat->Prop}{own:Bool}
theorem vY{n0:Nat}{t0:List PV}{ann:Nat->DAnn}{ds:List (Option Tmp)}{ops:List Oper}{r:List Nat}{Q:List PV->Heap->Prop}{ts:List PV}{h:Heap}(k:AD P G own n0 t0 ann ds ops r Q ts h):AD P G own n0 t0 ann ds ops r Q ts h:=k
theorem zaX{id:Nat}{ops:Array Oper}{K:Exit->List PV->Heap->Prop}{ts:List PV}{h:Heap}(k:EWp P G D (.region id ops true) K ts h):EWp P G D (.region id ops true) K ts h:=k
end
end Go.AL
namespace Go.AL
section
variable{P:Program}{G:Glob}{D:Option Nat->Prop}{own:Bool}
theorem jS(hm:P.follows .mixedOrders=true)(hG:GTree G)(pl:DPlan){id:Nat}{ops:Array Oper}{K:Exit->List PV->Heap->Prop}{ts:List PV}{h:Heap}(hg:pl.good ops.toList=true)
  (k: ∀n0,h.length=n0-> ∀l,ops.toList=l-> ∀ds,l.map (·.dst)=ds-> ∀h2,rY h pl.places=h2->AD P G own n0 ts pl.at ds l pl.ord (K .normal) ts h2):EWp P G D (.region id ops true) K ts h:=
 zdZ hm hG pl hg (k _ rfl _ rfl _ rfl _ rfl)
end
end Go.AL
namespace Go.AL
theorem uR{α:Type}{g:α->α}: ∀{l:List α},(∀x∈l,g x=x)->l.map g=l
 | [],_=>rfl
 |x::l,h=>by rw[Xa,h x (Qe ..),uR fun y hy=>h y (Qf _ hy)]
theorem vE(n:Nat)(H:Heap): ∀(f:Nat)(p:PV),zU f p=true->fz n H f p=p:=by
 intro f
 induction f with
 |zero=>intro p h;cases h
 | succ f ih=>
  intro p h;have il: ∀cs:List PV,cs.all (zU f)=true->cs.map (fz n H f)=cs:=fun cs hc=>uR fun x hx=>ih x (by rw[Xg] at hc;exact hc x hx);have ill: ∀els:List (List PV),(els.all fun e=>e.all (zU f))=true->els.map (fun e=>e.map (fz n H f))=els:=fun els hc=>uR fun x hx=>by
   rw[Xg] at hc;exact il x (hc x hx)
  cases p<;>simp only[zU,Qt,reduceCtorEq] at h<;>simp only[fz]
  ·rw[il _ h]
  ·rw[il _ h]
  ·rw[ill _ h]
  ·rw[ill _ h]
  ·rw[il _ h]
  ·rw[il _ h.1,il _ h.2]
  ·rw[ih _ h]
theorem all_map{α β:Type}{f:α->β}{g:β->Bool}{l:List α}(h: ∀x,g (f x)=true):(l.map f).all g=true:=by
 rw[Jf,Xg];intro x _;exact h x
end Go.AL
namespace Go.AL
open Go.RowKit
section
variable(P:Program)(G:Glob)(own:Bool)
def DX(n0:Nat)(t0:List PV)(ann:Nat->DAnn)(ds:List (Option Tmp))(ops:List Oper)(i:Nat)(r:List Nat)(Q:List PV->Heap->Prop)(ts:List PV)(h:Heap)(o:Oper)(d:DAnn)(j:Nat)(want:Bool):Option PV->Prop
 | some (.sc (.bool b))=>(b=want/\ ∀s,vI P own n0 t0 d o.op (wV G ts) h=s->ADGo P G own n0 t0 ann ds ops r Q d o ts h s)\/(b≠want/\ ∀t',zZ ts o.dst .ud=t'->AD P G own n0 t0 ann ds ops r Q t' h)\/
   ((b=true-> ∀t',ts.set ((ds.getD j none).getD 0) (.sc (.bool true))=t'->AD P G own n0 t0 ann ds ops (i::r) Q t' h)/\(b=false-> ∀t',ts.set ((ds.getD j none).getD 0) (.sc (.bool false))=t'->AD P G own n0 t0 ann ds ops (i::r) Q t' h))
 |some .ud=> ∀t',zZ ts o.dst .ud=t'->AD P G own n0 t0 ann ds ops r Q t' h
 |_=>False
variable{P G own}
section
variable{n0:Nat}{t0:List PV}{ann:Nat->DAnn}{ds:List (Option Tmp)}{ops:List Oper}{i:Nat}{r:List Nat}{Q:List PV->Heap->Prop}{ts:List PV}{h:Heap}{o:Oper}{d:DAnn}{j:Nat}{want:Bool}
theorem zN(ho:ops[i]? =some o)(hg:o.guard=some (j,want))(hd:ann i=d)(k: ∀x,sK ds ts j=x->DX P G own n0 t0 ann ds ops i r Q ts h o d j want x):AD P G own n0 t0 ann ds ops (i::r) Q ts h:=by
 have k':=k _ rfl;unfold DX at k';split at k'
 ·rename_i b hb;rcases k' with ⟨e,k'⟩|⟨e,k'⟩|k'
  ·exact bP ho hg hb hd (by rw[Qj e];exact k')
  ·exact bP ho hg hb hd (by rw[Qi e];exact k' _ rfl)
  ·exact Qcl
 ·rename_i hb;exact zeP ho hg hb (k' _ rfl)
 ·exact k'.elim
theorem pK(k: ∀s,vI P own n0 t0 d o.op (wV G ts) h=s->ADGo P G own n0 t0 ann ds ops r Q d o ts h s):DX P G own n0 t0 ann ds ops i r Q ts h o d j true (some (.sc (.bool true))):= .inl ⟨rfl,k⟩
theorem pL(k: ∀s,vI P own n0 t0 d o.op (wV G ts) h=s->ADGo P G own n0 t0 ann ds ops r Q d o ts h s):DX P G own n0 t0 ann ds ops i r Q ts h o d j false (some (.sc (.bool false))):= .inl ⟨rfl,k⟩
theorem dx_st(k: ∀t',zZ ts o.dst .ud=t'->AD P G own n0 t0 ann ds ops r Q t' h):DX P G own n0 t0 ann ds ops i r Q ts h o d j false (some (.sc (.bool true))):= .inr (.inl ⟨Qf2,k⟩)
theorem dx_sf(k: ∀t',zZ ts o.dst .ud=t'->AD P G own n0 t0 ann ds ops r Q t' h):DX P G own n0 t0 ann ds ops i r Q ts h o d j true (some (.sc (.bool false))):= .inr (.inl ⟨Qf2,k⟩)
theorem dx_ud(k: ∀t',zZ ts o.dst .ud=t'->AD P G own n0 t0 ann ds ops r Q t' h):DX P G own n0 t0 ann ds ops i r Q ts h o d j want (some .ud):=k
theorem iT{b:Bool}(k1:b=true-> ∀t',ts.set ((ds.getD j none).getD 0) (.sc (.bool true))=t'->AD P G own n0 t0 ann ds ops (i::r) Q t' h)(k2:b=false-> ∀t',ts.set ((ds.getD j none).getD 0) (.sc (.bool false))=t'->AD P G own n0 t0 ann ds ops (i::r) Q t' h):DX P G own n0 t0 ann ds ops i r Q ts h o d j want (some (.sc (.bool b))):= .inr (.inr ⟨k1,k2⟩)
end
end
end Go.AL
namespace Go.AL
open Go.RowKit
end Go.AL
namespace Go.AL.N
open Go.RowKit
section
variable(P:Program)(G:Glob)(D:Option Nat->Prop)(own:Bool)
def EWp(c:Code)(K:Exit->List PV->Heap->Prop)(ts:List PV)(h:Heap):Prop:= ∀rd,D rd->AWp P G rd c K ts h
mutual
def ER(ds:List (Option Tmp)):List Oper->(List PV->Heap->Prop)->List PV->Heap->Prop
 | [],Q,ts,h=>Q ts h
 |o::rest,Q,ts,h=>EGo ds rest Q o ts h (vU P G own ds o ts h)\/(o.guard=none/\ ∀rd,D rd->OpOk P G rd o h (wV G ts) fun p h'=>ER ds rest Q (zZ ts o.dst p) h')
def EGo(ds:List (Option Tmp)):List Oper->(List PV->Heap->Prop)->Oper->List PV->Heap->SR->Prop
 |rest,Q,o,ts,_,.val p h' c=>c/\ER ds rest Q (zZ ts o.dst p) h'
 |rest,Q,o,ts,h,.call g args=>ACall P G g args h fun p h'=>ER ds rest Q (zZ ts o.dst p) h'
 |_,_,_,_,_,.no=>False
end
def uJ:Code->(Exit->List PV->Heap->Prop)->List PV->Heap->Prop
 | .skip,Q,ts,h=>Q .normal ts h
 | .label _,Q,ts,h=>Q .normal ts h
 | .exit id,Q,ts,h=>Q (.exit id) ts h
 | .ret,Q,ts,h=>Q .ret ts h
 | .region _ ops false,Q,ts,h=>ER P G D own (ops.toList.map (·.dst)) ops.toList (Q .normal) ts h
 | .seq a b,Q,ts,h=>uJ a (AThen (uJ b Q) Q) ts h
 | .cond x a b,Q,ts,h=>match wV G ts x with
  | .sc (.bool t)=>if t=true then uJ a Q ts h else uJ b Q ts h
  |_=>False
 | .block id c,Q,ts,h=>uJ c (ABlock id Q) ts h
 |c,Q,ts,h=>EWp P G D c Q ts h
variable{P G D own}
theorem EWp.mono{c:Code}{K K':Exit->List PV->Heap->Prop}{ts:List PV}{h:Heap}(k:EWp P G D c K ts h)(hk: ∀e t h,K e t h->K' e t h):EWp P G D c K' ts h:=fun rd hd=>(k rd hd).mono hk
theorem eU{a b:Code}{K:Exit->List PV->Heap->Prop}{ts:List PV}{h:Heap}(k:EWp P G D a (AThen (EWp P G D b K) K) ts h):EWp P G D (.seq a b) K ts h:=fun rd hd=>lH ((k rd hd).mono fun e t1 h1 q=>by
 cases e with
 |normal=>exact q rd hd
 |_=>exact q)
theorem mS{c:Code}{K:Exit->List PV->Heap->Prop}{ts:List PV}{h:Heap}(I:Nat->List PV->Heap->Prop)(n:Nat)(h0:I n ts h)
  (k: ∀n ts h,I n ts h->EWp P G D c (AThen (fun ts' h'=> ∃m,m<n/\I m ts' h') K) ts h):EWp P G D (.loop c) K ts h:=fun rd hd=>mV I n h0 fun n ts h hi=>k n ts h hi rd hd
theorem ER.sreg{ops:List Oper}{rd:Option Nat}(hd:D rd): ∀{rest:List Oper}{Q:List PV->Heap->Prop}{ts:List PV}{h:Heap},ER P G D own (ops.map (·.dst)) rest Q ts h->SReg P G rd ops rest Q ts h:=by
 intro rest
 induction rest with
 |nil=>intro Q ts h k;simp only[ER] at k;exact k
 | cons o rest ih=>
  intro Q ts h k;simp only[ER] at k;simp only[SReg];rcases k with k|⟨hg,k⟩
  ·have go: ∀{r:SR},qC P own o.op (wV G ts) h=r->EGo P G D own (ops.map (·.dst)) rest Q o ts h r->OpOk P G rd o h (wV G ts) fun p h'=>SReg P G rd ops rest Q (zZ ts o.dst p) h':=by
    intro r hr k;cases r with
    |val p h' c=>simp only[EGo] at k;exact uI (own:=own) (by rw[hr];exact⟨k.1,ih k.2⟩)
    |call g args=>simp only[EGo] at k;exact uI (own:=own) (by rw[hr];exact k.mono fun p h' q=>ih q)
    |no=>simp only[EGo] at k
   have bad: ¬EGo P G D own (ops.map (·.dst)) rest Q o ts h .no:=fun k=>by simp only[EGo] at k
   have skip: ∀{p:PV}{h':Heap}{c:Prop},EGo P G D own (ops.map (·.dst)) rest Q o ts h (.val p h' c)->c/\ER P G D own (ops.map (·.dst)) rest Q (zZ ts o.dst p) h':=fun k=>by simp only[EGo] at k;exact k
   cases hg:o.guard with
   |none=>
    have e:vU P G own (ops.map (·.dst)) o ts h=qC P own o.op (wV G ts) h:=by unfold vU;rw[hg]
    rw[e] at k;exact go rfl k
   | some jw=>
    obtain⟨j,want⟩:=jw;unfold vU at k;rw[hg] at k;simp only[oQ];simp only[] at k;split at k
    ·rename_i b hb;rw[hb];split at k
     ·rename_i e;exact⟨fun _=>go rfl k,fun ne=>absurd e ne⟩
     ·rename_i e;exact⟨fun e'=>absurd e' e,fun _=>ih (skip k).2⟩
    ·rename_i hb;rw[hb];exact ih (skip k).2
    ·exact absurd k bad
  ·rw[hg];exact(k rd hd).mono fun p h' q=>ih q
theorem uV: ∀(c:Code)(K:Exit->List PV->Heap->Prop)(ts:List PV)(h:Heap),uJ P G D own c K ts h->EWp P G D c K ts h:=by
 intro c
 induction c with
 |skip=>intro K ts h k rd _;exact mU k
 |label l=>intro K ts h k rd _;exact oI k
 |exit id=>intro K ts h k rd _;exact mW k
 |ret=>intro K ts h k rd _;exact jB k
 |region id ops d=>
  intro K ts h k;cases d with
  |false=>intro rd hd;have:=rM (id:=id) (ER.sreg (rd:=rd) hd k);simpa using this
  |true=>exact k
 |seq a b iha ihb=>
  exact Qcf
 | cond x a b iha ihb=>
  intro K ts h k rd hd;simp only[uJ] at k;split at k
  ·rename_i t hx;exact qQ hx (fun e=>iha K ts h (by rw[Qj e] at k;exact k) rd hd) fun e=>ihb K ts h (by rw[Qi (by simp[e])] at k;exact k) rd hd
  ·exact k.elim
 |block id c ih=>intro K ts h k rd hd;exact oK (ih _ ts h k rd hd)
 |_=>intro K ts h k;exact k
theorem zbX{f:FuncId}{fn:Func}{c:Code}{args ts:List PV}{h:Heap}{R:PV->Heap->Prop}(hf:P.funcs[f]? =some fn)(hb:fn.body=some c)
  (hen:uG P f=true) (ht:args++List.replicate (fn.ntmps-args.length) .ud=ts) {own:Bool} (k:uJ P G (fun rd=>rd=none) own c (AEnd P fn R) ts h):ACall P G f args h R:=
 uF hf hb hen (by rw[ht];exact uV _ _ _ _ k none rfl)
theorem lF{c:Code}{K:Exit->List PV->Heap->Prop}{ts ts':List PV}{h:Heap}(hl:TLe ts ts')(k:EWp P G D c K ts' h):EWp P G D c K ts h:=fun rd hd=>zcA hl (k rd hd)
theorem zW{σ:Type}(M:List Mk)(f:σ->List PV)(g:σ->Heap)(I:σ->Prop)(m:σ->Nat){c:Code}{K:Exit->List PV->Heap->Prop}{ts:List PV}{h:Heap}(s0:σ)(h1:xJ M ts=f s0)(h2:h=g s0)(h3:I s0)
  (k: ∀s,I s-> ∀t,zY M (f s) ts=t->uJ P G D own c (AThen (fun ts' h'=> ∃s',I s'/\m s'<m s/\xJ M ts'=f s'/\zY M [] ts'=zY M [] ts/\h'=g s') K) t (g s)):EWp P G D (.loop c) K ts h:=by
 refine mS (fun n ts' h=> ∃s,I s/\m s=n/\xJ M ts'=f s/\zY M [] ts'=zY M [] ts/\h=g s) (m s0) ⟨s0,h3,rfl,h1,rfl,h2⟩ ?_;rintro n ts' h ⟨s,hI,rfl,e1,e2,rfl⟩;refine lF (TLe.mix M ts' ts _ e1 e2) ((uV _ _ _ _ (k s hI _ rfl)).mono fun e t1 h1 q=> ?_);cases e with
 |normal=>obtain⟨s',a,b,c,d,e⟩:=q;exact⟨m s',b,s',a,rfl,c,d,e⟩
 |_=>exact q
section
variable{ds:List (Option Tmp)}{o:Oper}{rest:List Oper}{Q:List PV->Heap->Prop}{ts:List PV}{h:Heap}
theorem wU(k: ∀r,vU P G own ds o ts h=r->EGo P G D own ds rest Q o ts h r):ER P G D own ds (o::rest) Q ts h:=by
 simp only[ER];exact .inl (k _ rfl)
theorem za1(k:Q ts h):ER P G D own ds [] Q ts h:=by
 simp only[ER];exact k
theorem za0{h':Heap}{p:PV}(k: ∀ts',zZ ts o.dst p=ts'->ER P G D own ds rest Q ts' h'):EGo P G D own ds rest Q o ts h (.val p h' True):=by
 simp only[EGo];exact⟨trivial,k _ rfl⟩
theorem zH{h':Heap}{p:PV}{c:Prop}(hc:c)(k: ∀ts',zZ ts o.dst p=ts'->ER P G D own ds rest Q ts' h'):EGo P G D own ds rest Q o ts h (.val p h' c):=by
 simp only[EGo];exact⟨hc,k _ rfl⟩
theorem zC{g:FuncId}{args:List PV}{R:PV->Heap->Prop}(hc:ACall P G g args h R)(k: ∀p h',R p h'-> ∀ts',zZ ts o.dst p=ts'->ER P G D own ds rest Q ts' h'):
  EGo P G D own ds rest Q o ts h (.call g args):=by
 simp only[EGo];exact hc.mono fun p h' hr=>k p h' hr _ rfl
theorem uL{R:PV->Heap->Prop}(hg:o.guard=none)(hc: ∀rd,D rd->OpOk P G rd o h (wV G ts) R)(k: ∀p h',R p h'-> ∀ts',zZ ts o.dst p=ts'->ER P G D own ds rest Q ts' h'):ER P G D own ds (o::rest) Q ts h:=by
 simp only[ER];exact .inr ⟨hg,fun rd hd=>(hc rd hd).mono fun p h' hr=>k p h' hr _ rfl⟩
end
section
variable{K:Exit->List PV->Heap->Prop}{ts:List PV}{h:Heap}
theorem zaY{a b:Code}(k:uJ P G D own a (AThen (uJ P G D own b K) K) ts h):uJ P G D own (.seq a b) K ts h:=k
theorem eV(k:K .normal ts h):uJ P G D own .skip K ts h:=k
theorem eX{id:Nat}(k:K (.exit id) ts h):uJ P G D own (.exit id) K ts h:=k
theorem zaZ(k:K .ret ts h):uJ P G D own .ret K ts h:=k
theorem iG{l:Nat}(k:K .normal ts h):uJ P G D own (.label l) K ts h:=k
theorem iH{id:Nat}{c:Code}(k:uJ P G D own c (ABlock id K) ts h):uJ P G D own (.block id c) K ts h:=k
theorem lS{id:Nat}{ops:Array Oper}(k: ∀l,ops.toList=l-> ∀ds,l.map (·.dst)=ds->ER P G D own ds l (K .normal) ts h):uJ P G D own (.region id ops false) K ts h:=by
 simp only[uJ];exact k _ rfl _ rfl
theorem qP{id:Nat}{ops:Array Oper}(k:EWp P G D (.region id ops true) K ts h):uJ P G D own (.region id ops true) K ts h:=k
theorem eW{c:Code}(k:EWp P G D (.loop c) K ts h):uJ P G D own (.loop c) K ts h:=k
theorem mC{f:Operand}{ps:Array Tmp}{as bd:Code}(k:EWp P G D (.rangeFunc f ps as bd) K ts h):uJ P G D own (.rangeFunc f ps as bd) K ts h:=k
theorem eY{x:Operand}{a b:Code}(k: ∀r,wV G ts x=r->ACond r (uJ P G D own a K ts h) (uJ P G D own b K ts h)):uJ P G D own (.cond x a b) K ts h:=k _ rfl
end
end
end Go.AL.N
namespace Go.AL
open Go.RowKit
section
variable{P:Program}{G:Glob}{rd:Option Nat}
theorem OpOk.nilCmp{o:Oper}{h:Heap}{F:Operand->PV}{R:PV->Heap->Prop}{t yt:TypeId}{x y:Operand}{k:Nat}{els:List (List PV)}(ho:o.op= .binOp .eql t x y yt)(hx:F x= .ts k els)(hy:F y= .nil)(ht:(wX P t).isSome=true)
  (r: ∀b,R (.sc (.bool b)) h):OpOk P G rd o h F R:=by
 refine .of_run Qgq fun φ w X ρ hS hG hv=> ?_;have h1:=hv x Qh4;have h2:=hv y Qh4;rw[hx] at h1;rw[hy] at h2;obtain⟨e,he⟩:=Zz.1 ht;have hte:=tS he;have hux: ∃a n c,ρ x= .slice a n c:=by generalize ρ x=u at h1;cases h1;exact⟨_,_,_,rfl⟩
 obtain⟨a,n,c,hux⟩:=hux;have huy:ρ y= .slice none 0 0:=by generalize ρ y=u at h2;cases h2;rfl
 have e0: ∀d,(Op.equalIn (d+1) t (ρ x) (ρ y)).run P w= .ok a.isNone w:=fun d=>by
  rw[hux,huy];cases a<;>simp only[Op.equalIn,Xp,Xc hte,Xd,Yc,Option.isNone]
 have e1:(Op.equalIn 10000 t (ρ x) (ρ y)).run P w= .ok a.isNone w:=e0 9999;obtain⟨e2,_⟩:=mB (P:=P) (S:=⟨φ,h,w,X⟩) (t:=t) e1 Qfp Qfp Qfp Qfp;have e3:=mA (P:=P) (S:=⟨φ,h,w,X⟩) (op:= .eql) (t:=t) (x:=x) (y:=y) (u:=ρ x) (v:=ρ y) Qfp (.inl (by rw[huy];simp));refine⟨φ,h,w,.sc (.bool a.isNone),.bool a.isNone,?_,Ext.refl _,hS,.sc trivial,r _⟩;unfold execOp;rw[ho];simp only[Xp] at e2 e3 ⊢
 simp only[e3,e2,Xd,Xp,Yc]
theorem OpOk.appendEmpty{o:Oper}{h:Heap}{F:Operand->PV}{R:PV->Heap->Prop}{c:Call}{t e:TypeId}{k b:Nat}{s x:Operand}(ho:o.op= .call c)(hc:c.callee= .builtin .append)(ha:c.args= #[s,x])(hat:c.argTypes= #[t,t])(hs:F s= .tc k [])(hx:F x= .ts k [])(ht:wD P t=some (e,k,b))
  (r:R (.ts k []) h):OpOk P G rd o h F R:=by
 refine .of_run Qgq fun φ w X ρ hS hG hv=> ?_;have h1:=hv s Qhn;have h2:=hv x Qhn;rw[hs] at h1;rw[hx] at h2;obtain⟨htu,i,zv,hi,hz,hsz,hby,hzs,hk0⟩:=uH ht;have hus: ∃a,ρ s= .slice a 0 0:=by generalize ρ s=u at h1;cases h1 with|tc h1=>cases h1 with|ts hl=>simp at hl;subst hl;exact⟨_,rfl⟩
 have hux: ∃a c,ρ x= .slice a 0 c:=by generalize ρ x=u at h2;cases h2 with|ts hl=>simp at hl;subst hl;exact⟨_,_,rfl⟩
 obtain⟨a,hus⟩:=hus;obtain⟨a2,c2,hux⟩:=hux;refine⟨φ,h,w,.ts k [],.slice a 0 0,?_,Ext.refl _,hS,.ts rfl (Xe _) (Yn _) Qf1 ⟨0,0,none⟩ (fun h=>absurd rfl h) (fun _=>undef) Qf1 Qf1,r⟩;have hrun:(Builtin.append_ #[t,t] o.type #[ρ s,ρ x]).run P w= .ok (.slice a 0 0) w:=by
  rw[hus,hux];simp[Builtin.append_,Xc htu,sizeOf,typeInfo,hi,Builtin.lenOf,Builtin.firstCells];cases a<;>cases a2<;>simp[Builtin.firstCells,loadCells,loadCellsFrom,storeCells]
 unfold execOp;rw[ho];simp[resolve,invoke,builtin,hc,ha,hat,hrun]
theorem bE{S:St}(hS:SRel S){r b:Nat}{m:Option Nat}{n:Nat}{seen seen':List Nat}(hp:S.φ[r]? =some (.pointer (some ⟨b,0,none⟩)))(hb:S.h[r]? =some (.iter m n seen))
  {w':World} (ho:w'.os=S.w.os) (ht:TapeLe S.w w') (hu:w'.output=S.w.output) (hs:w'.heap.size=S.w.heap.size) (hw: ∀k,k≠b->w'.heap[k]? =S.w.heap[k]?) (hz: ∀b m,S.Row b m->St.Row {S with w:=w'} b m):
  Ext S {S with h:=S.h.set r (.iter m n seen'),w:=w'}:=by
 have hr:r<S.h.length:=(gsi hb).1;have hown: ∀n, ¬S.Own n->n≠b:=fun n hn e=>hn ⟨r,_,hp,by subst e;rfl⟩;refine⟨rfl,ho,ht,hu,by simp only[];omega,fun n hn hno=>⟨hno,hw n (hown n hno)⟩,fun a v hm=> ?_,fun r' c hc=> ?_,hz⟩
 ·exact Qag
 ·by_cases e:r=r'
  ·subst e;rw[hb] at hc;cases hc;exact⟨.iter m n seen',by simp[hr],by simp[Blk.le]⟩
  ·exact⟨c,by simp only[Qq,Qi e];exact hc,Blk.le_refl c rfl⟩
theorem zc5{S:St}(hS:SRel S){r b m bk n:Nat}{seen seen':List Nat}{es:List (Value×PV)}(hp:S.φ[r]? =some (.pointer (some ⟨b,0,none⟩)))(hb:S.h[r]? =some (.iter (some m) n seen))(hm:S.h[m]? =some (.map es))(hk:S.φ[m]? =some (.map (some bk)))
  {w':World} (ho:w'.os=S.w.os) (ht:TapeLe S.w w') (hu:w'.output=S.w.output) (hs:w'.heap.size=S.w.heap.size) (hw: ∀k,k≠b->w'.heap[k]? =S.w.heap[k]?) (hz: ∀b m,S.Row b m->St.Row {S with w:=w'} b m)
  (hnew:w'.heap[b]? =some (.mapIter (some bk) n seen'.toArray n)):SRel {S with h:=S.h.set r (.iter (some m) n seen'),w:=w'}:=by
 have x:=bE (seen':=seen') hS hp hb ho ht hu hs hw hz;have hr:r<S.h.length:=(gsi hb).1;have hrm:r≠m:=fun e=>by subst e;rw[hb] at hm;cases hm
 refine⟨by simp[hS.len],fun r' c v hc hvv=> ?_,hS.inj,fun a ha=>by have:=hS.xlt a ha;simp only[];omega,hS.xown⟩;by_cases e:r=r'
 ·subst e;simp only[Qq,Qj hr, ↓reduceIte] at hc;cases hc;rw[hp] at hvv;cases hvv;exact⟨b,some bk,rfl,hnew,fun r' hr'=>by cases hr';exact⟨es,bk,by simp only[Qq,Qi hrm];exact hm,hk,rfl⟩⟩
 ·exact Qc1
theorem OpOk.next{o:Oper}{h:Heap}{F:Operand->PV}{R:PV->Heap->Prop}{it:Operand}{r m:Nat}{es:List (Value×PV)}{seen:List Nat}(hks: ∀q∈es, ∀vs,q.1≠ .agg vs)(ho:o.op= .next it false)(hx:F it= .it r)(hb:h[r]? =some (.iter (some m) es.length seen))(hm:h[m]? =some (.map es))
  (k0:(∀i,i<es.length->i∈seen)->R (.tup [.sc (.bool false)]) h) (k1: ∀(i:Nat)(q:Value×PV),es[i]? =some q->i∉seen->R (.tup [.sc (.bool true),.sc q.1,q.2]) (h.set r (.iter (some m) es.length (seen++[i])))):OpOk P G rd o h F R:=by
 refine .of_run Qgq fun φ w X ρ hS hG hv=> ?_;have h1:=hv it Qh4;rw[hx] at h1;have hit: ∃b,ρ it= .pointer (some ⟨b,0,none⟩)/\φ[r]? =some (.pointer (some ⟨b,0,none⟩)):=Qhy;obtain⟨b,hit,hφ⟩:=hit;obtain⟨b',bm,he,hh,hmm⟩:=hS.blks r _ _ hb hφ;cases he;obtain⟨es',bk,g1,g2,rfl⟩:=hmm m rfl;rw[hm] at g1;cases g1;obtain⟨bk',clock,ar,he,hh2,hsz,⟨hck,hok,hborn⟩,hrel⟩:=hS.blks m _ _ hm g2;cases he;have hae: ∀(i:Nat)(e:MapEntry),ar[i]? =some e-> ∃q,es[i]? =some q/\e.born=i/\e.key=q.1/\VRel ⟨φ,h,w,X⟩ q.2 e.val:=fun i e he=>by
  have hi:i<es.length:=by rw[<-hsz];exact(Qz.1 he).1
  exact⟨es[i],Qa hi,hborn i e he,hrel i e _ he (Qa hi)⟩
 have hmem: ∀e∈ar.toList, ∃i,ar[i]? =some e:=fun e he=>by
  obtain⟨i,hi⟩:=Zq he;exact⟨i,by simpa using hi⟩
 rcases run_next_at (P:=P) w o.type b bk es.length es.length seen.toArray ar clock hh hh2 (fun e he=>by
   obtain⟨i,hi⟩:=hmem e he;obtain⟨q,q1,q2,_⟩:=hae i e hi;rw[q2];exact(gsi q1).1) (Xe _) with ⟨h0,hrun⟩|⟨e,he,w1,jY,hrun⟩
 ·refine⟨φ,h,w,.tup [.sc (.bool false)],.tuple #[.bool false],?_,Ext.refl _,hS,.tup rfl fun i p v hp hv=> ?_,k0 fun i hi=> ?_⟩
  ·unfold execOp;rw[ho];simp only[hit,hrun,Xp,Xd,Yc]
  ·match i with
   |0=>simp at hp hv;subst hp;subst hv;exact .sc trivial
   |i+1=>simp at hp
  ·have hi':i<ar.size:=by rw[hsz];exact hi
   have hne:ar[i]∉(leftOf ar seen.toArray).toList:=fun hmm=>by
    have:=List.length_pos_of_mem hmm;simp at this;omega
   unfold leftOf at hne;simp at hne;have:=hborn i _ (Qx hi');rw[this] at hne;exact hne
 ·obtain⟨hmm',hcs⟩:=mem_left he;obtain⟨i,hi⟩:=hmem e hmm';obtain⟨q,q1,q2,q3,q4⟩:=hae i e hi;have hns:i∉seen:=by
   rw[q2] at hcs;simpa using hcs
  have hd:w1.os=w.os/\TapeLe w w1/\w1.output=w.output/\w1.heap=w.heap:=by rcases jY with rfl|rfl<;>exact⟨rfl,ztC,rfl,rfl⟩
  obtain⟨d1,d2,d3,d4⟩:=hd;let w':World:=ChangeMaps.setBlock w1 b (.mapIter (some bk) es.length (seen.toArray.push e.born) clock)
  have hck':clock=es.length:=by rw[hck,hsz]
  have hblt:b<w.heap.size:=(Qz.1 hh).1;have hsz':w'.heap.size=w.heap.size:=by simp[w',ChangeMaps.setBlock,d4]
  have hw: ∀k,k≠b->w'.heap[k]? =w.heap[k]? :=fun k hk=>by simp[w',ChangeMaps.setBlock,d4,Array.getElem?_setIfInBounds,Ne.symm hk]
  have hz: ∀b1 m,St.Row ⟨φ,h,w,X⟩ b1 m->St.Row {(⟨φ,h,w,X⟩:St) with w:=w'} b1 m:=by
   rintro b1 m ⟨ar1,t1,f1,hr1,hm1⟩;exact Qci
  have hnew:w'.heap[b]? =some (.mapIter (some bk) es.length (seen++[i]).toArray es.length):=by
   simp[w',ChangeMaps.setBlock,d4,Array.getElem?_setIfInBounds,hblt,q2,hck']
  have x:=bE (seen':=seen++[i]) hS hφ hb (w':=w') (by simp[w',ChangeMaps.setBlock,d1]) ⟨by simp[w',ChangeMaps.setBlock,d2.tape],by simp[w',ChangeMaps.setBlock,d2.drawn]⟩ (by simp[w',ChangeMaps.setBlock,d3]) hsz' hw hz;refine⟨φ,h.set r (.iter (some m) es.length (seen++[i])),w',.tup [.sc (.bool true),.sc q.1,q.2],.tuple #[.bool true,e.key,e.val],?_,x,zc5 hS hφ hb hm g2 (by simp[w',ChangeMaps.setBlock,d1]) ⟨by simp[w',ChangeMaps.setBlock,d2.tape],by simp[w',ChangeMaps.setBlock,d2.drawn]⟩ (by simp[w',ChangeMaps.setBlock,d3]) hsz' hw hz hnew,.tup rfl fun j p v hp hv=> ?_,k1 i q q1 hns⟩
  ·unfold execOp;rw[ho];simp only[hit,hrun,Xp,Xd,Yc];rfl
  ·match j with
   |0=>simp at hp hv;subst hp;subst hv;exact .sc trivial
   |1=>simp at hp hv;subst hp;subst hv;rw[q3];exact .sc ((hok q (Qk q1)).elim id fun⟨vs,e⟩=>absurd e (hks q (Qk q1) vs))
   |2=>simp at hp hv;subst hp;subst hv;exact q4.ext x
   |j+3=>simp at hp
theorem OpOk.entry{o:Oper}{h:Heap}{F:Operand->PV}{R:PV->Heap->Prop}{it:Operand}{r m i:Nat}{es:List (Value×PV)}{seen:List Nat}{q:Value×PV}(hks: ∀vs,q.1≠ .agg vs)(ho:o.op= .entry it)(hx:F it= .it r)(hb:h[r]? =some (.iter (some m) es.length (seen++[i])))(hm:h[m]? =some (.map es))(hq:es[i]? =some q)
  (k:R (.tup [.sc q.1,q.2]) h):OpOk P G rd o h F R:=by
 refine .of_run Qgq fun φ w X ρ hS hG hv=> ?_;have h1:=hv it Qh4;rw[hx] at h1;have hit: ∃b,ρ it= .pointer (some ⟨b,0,none⟩)/\φ[r]? =some (.pointer (some ⟨b,0,none⟩)):=Qhy;obtain⟨b,hit,hφ⟩:=hit;obtain⟨b',bm,he,hh,hmm⟩:=hS.blks r _ _ hb hφ;cases he;obtain⟨es',bk,g1,g2,rfl⟩:=hmm m rfl;rw[hm] at g1;cases g1;obtain⟨bk',clock,ar,he,hh2,hsz,⟨hck,hok,hborn⟩,hrel⟩:=hS.blks m _ _ hm g2;cases he;have hi:i<ar.size:=by rw[hsz];exact(gsi hq).1
 have hbi:=hborn i _ (Qx hi);have hck':clock=es.length:=by rw[hck,hsz]
 subst hck';obtain⟨k1,k2⟩:=hrel i _ q (Qx hi) hq;have hrun:=run_entry_at (P:=P) w b bk es.length seen.toArray ar es.length ar[i] (by rw[hh,hbi];simp) hh2 Qf1 (by
  have e:ar.toList.map (fun x=>x.born)=List.range ar.size:=by
   refine Zh fun j=> ?_;rw[Qu,Yi];rcases Xy j ar.size with hj|hj
   ·rw[Qx hj,Kc hj,Wh,hborn j _ (Qx hj)]
   ·rw[Array.getElem?_eq_none hj,Ye Qfv];rfl
  rw[e];exact List.nodup_range)
 refine⟨φ,h,w,.tup [.sc q.1,q.2],.tuple #[ar[i].key,ar[i].val],?_,Ext.refl _,hS,.tup rfl fun j p v hp hv=> ?_,k⟩
 ·unfold execOp;rw[ho];simp only[hit,hrun,Xp,Xd,Yc]
 ·match j with
  |0=>simp at hp hv;subst hp;subst hv;rw[k1];exact .sc ((hok q (Qk hq)).elim id fun⟨vs,e⟩=>absurd e (hks vs))
  |1=>simp at hp hv;subst hp;subst hv;exact k2
  |j+2=>simp at hp
end
end Go.AL
namespace Go.AL
open Go.RowKit
section
variable{P:Program}{G:Glob}{D:Option Nat->Prop}
theorem zj9{rd:Option Nat}{c:Code}{Q:Exit->List PV->Heap->Prop}{ts ts':List PV}{h:Heap}(hl:PLes ts ts')(k:AWp P G rd c Q ts' h):AWp P G rd c Q ts h:=by
 intro B φ w X a hA;refine k B φ w X a ⟨hA.st,hA.gl,⟨by rw[hA.tr.size,hl.len],fun i q hq=> ?_⟩,hA.mark,hA.base⟩;have hi:i<ts.length:=by rw[hl.len];exact(gsi hq).1
 exact hl.get i _ q (Qa hi) hq _ _ (hA.tr.rel i _ (Qa hi))
theorem zjQ{c:Code}{K:Exit->List PV->Heap->Prop}{ts ts':List PV}{h:Heap}(hl:PLes ts ts')(k:EWp P G D c K ts' h):EWp P G D c K ts h:=by
 obtain⟨e,t1,h1,a,b⟩:=k;exact⟨e,t1,h1,a,fun rd hd=>zj9 hl (b rd hd)⟩
theorem PLes.set{ts ts':List PV}(h:PLes ts ts')(i:Nat){p q:PV}(hp:PLe p q):PLes (ts.set i p) (ts'.set i q):=by
 induction h generalizing i with
 |nil=>exact .nil
 |cons h r ih=>
  cases i with
  |zero=>exact .cons hp r
  |succ i=>exact .cons h (ih i)
theorem PLes.rput{ps:List Tmp}: ∀{ts ts' as as':List PV},PLes ts ts'->PLes as as'->PLes (rput ts ps as) (rput ts' ps as'):=by
 induction ps with
 |nil=>intro ts ts' as as' h _;cases as<;>cases as'<;>simpa [AL.rput] using h
 |cons t ps ih=>
  intro ts ts' as as' h k;cases k with
  |nil=>simpa [AL.rput] using h
  |cons hp r=>simp only[AL.rput];exact ih (h.set t hp) r
theorem EYl.args{r:Nat}{args args':List PV}{h:Heap}{R:PV->Heap->Prop}(k:EYl P G r args h R)(hle:PLes args' args):EYl P G r args' h R:=by
 obtain⟨ts,ps,as,bd,st,pd,hb,hl,hw⟩:=k;exact⟨ts,ps,as,bd,st,pd,hb,by rw[hle.len];exact hl,zjQ (PLes.rput (PLes.refl ts) hle) hw⟩
end
end Go.AL
namespace Go.AL
open Go.RowKit
mutual
theorem dN: ∀p:PV,Av [] p
 | .un=> .un
 | .ud=> .ud
 | .sc _=> .sc
 | .nil=> .nil
 | .agg cs=> .agg (sO cs)
 | .tup cs=> .tup (sO cs)
 | .ts _ els=> .ts (mX els)
 | .tc _ els=> .tc (mX els)
 | .vec _ _ els=> .vec Qf1 (mX els)
 | .ms .. => .ms Qf1
 | .ptr .. => .ptr Qf1
 | .tp cs=> .tp (sO cs)
 | .fn _ a b=> .fn (sO a) (sO b)
 | .ifc _ p=> .ifc (dN p)
 | .mp _=> .mp Qf1
 | .yl _=> .yl Qf1
 | .it _=> .it Qf1
theorem sO: ∀(cs:List PV), ∀p∈cs,Av [] p
 | [],_,h=>by cases h
 |c::cs,p,h=>by
  rcases Qw.1 h with h0|h
  ·rw[h0];exact dN c
  ·exact sO cs p h
theorem mX: ∀(els:List (List PV)), ∀e∈els, ∀p∈e,Av [] p
 | [],_,h=>by cases h
 |c::cs,e,h=>by
  rcases Qw.1 h with h0|h
  ·rw[h0];exact sO c
  ·exact mX cs e h
end
theorem zkE(b:Blk):AvB [] b:=by
 cases b<;>simp only[AvB]
 ·exact sO _
 ·exact fun q _=>dN _
 ·exact sO _
 ·simp
theorem jJ{h h':Heap}:xV [] h h'=h':=by
 unfold xV;apply Zh;intro r;rw[Zl];cases h'[r]? <;>simp
section
variable{P:Program}{G:Glob}{D:Option Nat->Prop}{own:Bool}
variable{n0:Nat}{t0:List PV}{ann:Nat->DAnn}{ds:List (Option Tmp)}{ops:List Oper}{i:Nat}{r:List Nat}{Q:List PV->Heap->Prop}{ts:List PV}{h:Heap}{o:Oper}{d:DAnn}
theorem xR{g:FuncId}{args:List PV}{R:PV->Heap->Prop}(h6:d.cl=6)(hh:kI n0 t0 d.fb=[])(hc:ECall P G g args h R)(hk: ∀p h',R p h'-> ∀k∈d.fb,1000<=k->h'[nu n0 t0 k]? =h[nu n0 t0 k]?)
  (k: ∀p h',R p h'-> ∀ts',zZ ts o.dst p=ts'->AD P G own n0 t0 ann ds ops r Q ts' h'):ADGo P G own n0 t0 ann ds ops r Q d o ts h (.call g args):=by
 obtain⟨p,h',a,b⟩:=hc;unfold ADGo ADo;simp only[h6,Wk,hh];refine⟨p,h',by simpa only[rI,Ks] using b,Qf1,Qf1,fun x _=>dN _,fun r b _ _=>zkE b,?_,?_⟩
 ·rw[jJ];exact hk p h' a
 ·rw[jJ];exact k p h' a _ rfl
end
theorem OpOk.lenMap{P:Program}{G:Glob}{rd:Option Nat}{o:Oper}{h:Heap}{F:Operand->PV}{R:PV->Heap->Prop}{c:Call}{t k e:TypeId}{d:TypeDesc}{x:Operand}{r:Nat}{es:List (Value×PV)}(ho:o.op= .call c)(hc:c.callee= .builtin .len)(ha:c.args= #[x])(hat:c.argTypes= #[t])(hx:F x= .mp r)(hb:h[r]? =some (.map es))
  (ht:kC P t=some (k,d,e)) (hn:es.length<=140737488355328) (hr:R (.sc (.int .i64 es.length)) h):OpOk P G rd o h F R:=by
 refine .of_run Qgq fun φ w X ρ hS hG hv=> ?_;have h1:=hv x Qhn;rw[hx] at h1;obtain⟨t1,t2⟩:=ydV ht;have hu: ∃b,ρ x= .map (some b)/\φ[r]? =some (.map (some b)):=by
  generalize ρ x=u at h1;exact Qea
 obtain⟨b,hu,hp⟩:=hu;obtain⟨b',clock,entries,e1,e2,e3,_,_⟩:=hS.blks r _ _ hb hp;cases e1;refine⟨φ,h,w,.sc (.int .i64 es.length),.int .i64 es.length,?_,Ext.refl _,hS,.sc ?_,hr⟩
 ·have hrun:(Builtin.len_ #[t] o.type #[ρ x]).run P w= .ok (.int .i64 es.length) w:=by
   rw[hu];simp[Builtin.len_,Xc t1,MapKept.run_getObj_map e2,goInt,e3]
  unfold execOp;rw[ho];simp[resolve,invoke,builtin,hc,ha,hat,hrun]
 ·simp only[tJ];constructor
  ·exact Int.le_trans Qf2 (Int.natCast_nonneg _)
  ·have:(IntKind.i64.max:Int)=9223372036854775807:=Qf2;omega
section
variable{P:Program}{G:Glob}{D:Option Nat->Prop}{own:Bool}
variable{ds:List (Option Tmp)}{o:Oper}{rest:List Oper}{Q:List PV->Heap->Prop}{ts:List PV}{h:Heap}
theorem iR{p:PV}{h':Heap}(hg:o.guard=none)(hc: ∀rd,OpOk P G rd o h (wV G ts) fun q g=>q=p/\g=h')(k: ∀ts',zZ ts o.dst p=ts'->ER P G D own ds rest Q ts' h'):EGo P G D own ds rest Q o ts h .no:=by
 simp only[EGo];exact⟨hg,p,h',fun rd _=>hc rd,k _ rfl⟩
end
end Go.AL
