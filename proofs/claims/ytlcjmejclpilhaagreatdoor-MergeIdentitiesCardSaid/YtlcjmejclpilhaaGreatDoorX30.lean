/-
  The order of tuples.
-/
import Derived.Test.YtlcjmejclpilhaaGreatDoorX29
import Derived.Deep.AppendSrc
import Derived.Lib.AppendStr
import Derived.Sort.Statements
import Derived.Shelf.SlSortCmp.Insertion
set_option linter.unusedSimpArgs false
set_option linter.unusedVariables false
set_option maxRecDepth 100000
set_option maxHeartbeats 4000000
namespace Go.AL
open Go.Proofs Go.Proofs.Tryz
theorem NoZ.list{s:BA}(h:NoZ s s.size): ∀b∈s.data.toList,b≠0:=fun b hb=>by
 obtain⟨i,hi,rfl⟩:=Qy hb;have hs:i<s.size:=Qg6;have:=h i hs hs;have e:s.get! i=s.data.toList[i]:=by
  have:i<s.data.size:=Qg6;rw[show s.get! i=s.data[i]! from rfl,getElem!_pos s.data i this];simp
 rwa [e] at this
def VvK(v:Vl):Prop:=v.s.size<=16/\(v.t=1\/v.t=2)/\0<=v.n/\v.n<=9999/\VvZ v
theorem jH(v:Vl):EB 142 [.agg v.c] fun b=>b=true->VvK v:=by
 refine ECall.cut (R:=fun p _=> ∃b:Bool,p=bo b/\(b=true->VvK v)) (pv func142 30 false Qf6 rfl rfl ?_) Qhe;refine g2 ?_;obtain⟨t,n,s⟩:=v;unfold VvK;dsimp only;have no:false=true->s.size<=16/\(t=1\/t=2)/\0<=n/\n<=9999/\VvZ ⟨t,n,s⟩:=nofun;by_cases h1:t=1
 ·have e1:(t==1)=true:=Qfd;by_cases h2:0<=n
  ·have e2:decide (0<=n)=true:=Qfi;by_cases h3:n<=9999
   ·have e3:decide (n<=9999)=true:=by simp[h3]
    by_cases h4:s=⟨#[]⟩
    ·have e4:decide (s=⟨#[]⟩)=true:=by simp[h4]
     refine gf (a4 @e1 @e2 @e3 @e4) ?_;exact⟨_,rfl,fun _=>⟨by rw[h4];decide,.inl h1,h2,h3,.inl ⟨h1,h4⟩,h2,h3⟩⟩
    ·have e4:decide (s=⟨#[]⟩)=false:=by simp[h4]
     refine gf (a4 @e1 @e2 @e3 @e4) ?_;exact⟨_,rfl,no⟩
   ·have e3:decide (n<=9999)=false:=Qfk;refine gf (a3 @e1 @e2 @e3) ?_;exact⟨_,rfl,no⟩
  ·have e2:decide (0<=n)=false:=Qfk;refine gf (a2 @e1 @e2) ?_;exact⟨_,rfl,no⟩
 have e1:(t==1)=false:=Qfd;by_cases h2:t=2
 ·have e2:(t==2)=true:=Qfi;by_cases h3:n=0
  ·have e3:(n==0)=true:=by simp[h3]
   refine gf (a3 @e1 @e2 @e3) ?_;(refine g1f (a3 @e1 @e2 @e3) ?_;refine zC ((zwT s).call zK Qf4 _) ?_;intro p2 h2 hr2;refine g2 ?_);obtain⟨⟨b,rfl,hb⟩,rfl⟩:=hr2;refine gf (a3 @e1 @e2 @e3) ?_;exact⟨_,rfl,fun h=>⟨(hb h).1,.inr h2,Qf3,Qf3,.inr ⟨h2,h3,(hb h).2.list⟩,by dsimp only;omega,by dsimp only;omega⟩⟩
  ·have e3:(n==0)=false:=by simp[h3]
   refine gf (a3 @e1 @e2 @e3) ?_;exact⟨_,rfl,no⟩
 ·have e2:(t==2)=false:=Qfi;refine gf (a2 @e1 @e2) ?_;exact⟨_,rfl,no⟩
noncomputable def zoC(v:Vl):Bool:=znY 142 [.agg v.c] (fun b=>b=true->VvK v)
theorem zqC(v:Vl):EPure prog G0 142 [.agg v.c] (fun p=>p=bo (zoC v))/\(zoC v=true->VvK v):=za3 (jH v)
theorem zr2(v:Vl):EPure prog G0 142 [.agg v.c] fun p=>p=bo (zoC v):=(zqC v).1
def ArgX(types:List Int)(a:List Vl):Prop:=a.length=types.length/\ ∀(j:Nat)(h:j<a.length)(h':j<types.length),a[j].t=types[j]/\zoC a[j]=true
theorem jR{types:List Int}{a:List Vl}(h1:a.length=types.length)(h: ∀(j:Nat)(h:j<a.length)(h':j<types.length),j<a.length->a[j].t=types[j]/\zoC a[j]=true):ArgX types a:=⟨h1,fun j q q'=>h j q q' q⟩
theorem ArgX.sz{ty:List Int}{a:List Vl}(h:ArgX ty a): ∀v∈a,v.s.size<=1048576:=fun v hv=>by
 obtain⟨j,hj,rfl⟩:=Qy hv;have:=((zqC _).2 (h.2 j hj (by rw[<-h.1];exact hj)).2).1;omega
def ze7(l:La)(e:Int):Bool:=decide (0<=e/\e<(l.pw.length:Int))
@[go_sem] def UTyp18f125.pp:Nat->DPlan
 |9=>⟨[yB,yC,yA,yA,yA,yB,yA,yB,yA,yA,yB,yA,yA],yN,0⟩
 |15=>⟨[yA,yB,yA,yA,yA,yB,yA,yB,yA,yA,yA,yA,yA,yB,yB,uX,yA,yA,yA],sI,0⟩
 |_=>⟨[],[],0⟩
@[go_sem] def UTyp18f125.pl:Nat->DPlan
 |9=>⟨[yB,yC,yA,yA,yA,yB,yA,yB,yA,yA,yB,yA,yA],yN,0⟩
 |15=>⟨[yA,yB,yA,yA,yA,yB,yA,yB,yA,yA,yA,yA,yA,⟨7,0,[1003]⟩,yB,⟨6,0,[1003]⟩,yA,yA,yA],sI,0⟩
 |_=>⟨[],[],0⟩
def VfK(p:Pg)(pr el:Int)(args:List Vl):Prop:=p.fm/\(∀x∈p.pk, -1<=x.of'/\x.of'<p.pQ.length)/\ ∃i:Nat,pr=i/\ ∃h:i<p.pk.length,ArgX p.pk[i].types args/\ ∀k:p.pk[i].of'.toNat<p.pQ.length,0<=p.pk[i].of'->ze7 p.pQ[p.pk[i].of'.toNat] el=true
def Op1.ok(x:Op1):Prop:=x.args.length<=140737488355328/\ ∀a∈x.args,a.ok
def Co.ok(x:Co):Prop:=x.ops.length<=1099511627776/\ ∀a∈x.ops,a.ok
def Br.ok(x:Br):Prop:=x.name.size<=140737488355328
structure Rp.ok(r:Rp):Prop where
 cl:r.cs.length<=1099511627776
 c: ∀x∈r.cs,x.ok
 bl:r.bs.length<=1099511627776
 b: ∀x∈r.bs,x.ok
theorem lR(q:Pd):EB 78 [.agg q.c] fun b=>b=(q.of' != -1):=by
 refine ECall.cut (R:=fun v _=> ∃b:Bool,v=bo b/\b=(q.of' != -1)) (pv func78 6 false Qf6 rfl rfl ?_) Qhf;refine g2 ?_;refine ge ?_;exact⟨_,rfl,rfl⟩
end Go.AL
namespace Go.AL
open Go.RowKit Go.Lib
theorem cB{s:ByteArray}{i:Nat}{e:List PV}(h:(xH s)[i]? =some e): ∃c,e=[.sc (.int .u8 (UInt8.toNat c))]:=by
 unfold xH at h;rw[Qu] at h;cases hc:s.data.toList[i]? with
 |none=>rw[hc] at h;cases h
 |some c=>rw[hc] at h;cases h;exact⟨c,rfl⟩
theorem cA{S:St}{s:ByteArray}{i j:Nat}{e:List PV}{p:PV}{u:Value}(h:(xH s)[i]? =some e)(hp:e[j]? =some p)(hu:(strCells s)[i+j]? =some u):VRel S p u:=by
 unfold xH at h;rw[Qu] at h;cases hc:s.data.toList[i]? with
 |none=>rw[hc] at h;cases h
 | some c=>
  rw[hc] at h;cases h
  match j with
  |j+1=>simp at hp
  |0=>
   simp at hp;subst hp;unfold strCells at hu;rw[Wn,Qu,hc] at hu;cases hu;exact .sc (by have:=UInt8.toNat_lt c;simp[tJ,IntKind.min,IntKind.max,IntKind.signed,IntKind.bits];omega)
set_option maxHeartbeats 1000000 in
theorem jF{P:Program}{S:St}(hS:SRel S){t tx ty e:TypeId}{r k b:Nat}{els xs:List (List PV)}{bs:ByteArray}{u:Value}(ht:wD P t=some (e,k,b))(hk1:k=1)(hu:VRel S (.vec r k els) u)(hb:S.h[r]? =some (.vec e k els.length))
  (hx:P.underlying tx=some .string) (hxs:xs=xH bs) (hbytes:(els.length+xs.length)*b<=140737488355328) (hlen:els.length+xs.length<=140737488355328):
  ∃z w' φ',(Builtin.append_ #[t,tx] ty #[u,.string bs]).run P S.w= .ok z w'/\Ext S {S with φ:=φ',h:=S.h.set r (.vec e k (els.length+xs.length)),w:=w'}/\
   SRel {S with φ:=φ',h:=S.h.set r (.vec e k (els.length+xs.length)),w:=w'}/\VRel {S with φ:=φ',h:=S.h.set r (.vec e k (els.length+xs.length)),w:=w'} (.vec r k (els++xs)) z:=by
 obtain⟨htu,i,zv,hi,hz,hsz,hby,hzs,hk0⟩:=uH ht;have hr:r<S.h.length:=(gsi hb).1;have hmx:(140737488355328:Nat)<=maxLen:=Qfr;cases hu with
 | vec hts hb' hle ho=>
  rename_i n0 e0;rw[hb] at hb';cases hb';have hφ:=ho rfl;obtain⟨news,hnw⟩: ∃news,news=strCells bs:=⟨_,rfl⟩
  have hxl:xs.length=bs.size:=by rw[hxs,xC]
  have hs_len:news.length=xs.length*k:=by rw[hnw,strCells_length,hxl,hk1,Jt]
  have hs_elen: ∀(i:Nat)(e:List PV),xs[i]? =some e->e.length=k:=fun i e he=>by
   rw[hxs] at he;obtain⟨_,rfl⟩:=cB he;rw[hk1];rfl
  have hs_one: ∀u∈news,u.oneCell'=true:=by rw[hnw];exact strCells_oneCell bs
  have hs_rel: ∀(i:Nat)(e:List PV)(j:Nat)(p:PV)(u:Value),xs[i]? =some e->e[j]? =some p->news[i*k+j]? =some u->VRel S p u:=by
   intro i e j p u hi hp hu;rw[hxs] at hi;rw[hnw] at hu;subst hk1;exact cA hi hp Qg0
  rcases Yr xs.length with hx0|hx0
  ·have hxs0:xs=[]:=Xi hx0;have hb0:bs.size=0:=Qf3;rw[hxs0];refine⟨u,S.w,S.φ,?_,?_⟩
   ·obtain⟨a1,c1,ad1,val1,rfl,g1,g2,_⟩:=uU hts;have hbe:bs=⟨#[]⟩:=ByteArray.ext (Yu hb0);subst hbe;have hz0:(⟨#[]⟩:ByteArray).size=0:=rfl;simp[Builtin.append_,Xc htu,Xc hx,sizeOf,typeInfo,hi,Builtin.lenOf,hz0,Builtin.firstCells,g1];cases a1<;>simp[Builtin.firstCells,loadCells,loadCellsFrom,storeCells,hz0]
   ·exact Qaz
  ·obtain⟨a1,c1,ad1,val1,hu1,g1,g2,g3,g4,g5,g6⟩:=uU hts;obtain⟨olds,holds⟩: ∃olds:List Value,olds=(List.range (els.length*k)).map val1:=⟨_,rfl⟩
   have hol:olds.length=els.length*k:=Qgb;have hog: ∀j v,olds[j]? =some v->j<els.length*k/\v=val1 j:=fun j v hj=>by
    exact Qa9
   have hor: ∀(i:Nat)(e:List PV)(j:Nat)(p:PV)(u:Value),els[i]? =some e->e[j]? =some p->olds[i*k+j]? =some u->VRel S p u:=fun i e j p u hi hp hu=>by
    exact Qbz
   have hal:(olds++news).length=(els.length+xs.length)*k:=by rw[Ql,hol,hs_len,Wo]
   have hlenA:(els++xs).length=els.length+xs.length:=Ql;have hone: ∀u∈olds++news,u.oneCell'=true:=fun u hu=>by
    rcases Qo.1 hu with h|h
    ·obtain⟨j,hj,rfl⟩:=Qy h;obtain⟨hlt,he⟩:=hog j _ (Qa hj);rw[he];exact(g5 j hlt).2.1
    ·exact hs_one u h
   have fin: ∀(φ':List Value)(w':World)(b2 c2:Nat)(arr:Array Value),Ext S {S with φ:=φ',h:=S.h.set r (.vec e k (els.length+xs.length)),w:=w'}->
     SRel {S with φ:=φ',h:=S.h.set r (.vec e k (els.length+xs.length)),w:=w'}->φ'=S.φ.set r (.slice (some ⟨b2,0,none⟩) (els.length+xs.length) c2)->w'.heap[b2]? =some (.cells arr e (0,0))->
     arr.toList.take ((els.length+xs.length)*k)=olds++news->els.length+xs.length<=c2->c2<=maxLen->
     VRel {S with φ:=φ',h:=S.h.set r (.vec e k (els.length+xs.length)),w:=w'} (.vec r k (els++xs)) (.slice (some ⟨b2,0,none⟩) (els.length+xs.length) c2):=by
    intro φ' w' b2 c2 arr x hS' hφ' hw' harr zxI hm2;have hown:φ'[r]? =some (.slice (some ⟨b2,0,none⟩) (els.length+xs.length) c2):=by rw[hφ',Qq,Qj rfl,Qj Qgq]
    obtain⟨q1,q2⟩:=sH rfl hol g3 hor hs_elen hs_rel x;refine .vec (n:=els.length+xs.length) (e:=e) (oF hlenA q1 zxI hm2 (fun j u hj=> ?_) hal q2) (by simp[hr]) Qf3 (fun _=>hown);have hjl:=(gsi hj).1;refine⟨?_,hone u (Qk hj),rfl,(Qz.1 hw').1,fun hx=> ?_,fun r' y hy hby=> ?_⟩
    ·exact Qce
    ·exact hS'.xown _ hx r _ hown rfl
    ·exact Qbm
   have zc: ∀(N cp:Nat),N<=cp-> ∀(pre:List Value),pre.length=N*k->(pre.toArray++Builtin.zeroCells zv.cells (cp-N)).size=cp*k:=fun N cp hN pre hp=>by
    rw[Wt,Jd,size_zeroCells,hzs,hp,<-Wo];congr 1;omega
   have moved: ∀(w':World)(old:Nat),old<els.length+xs.length->w'=S.w.drew.alloc (.cells ((olds++news).toArray++Builtin.zeroCells zv.cells (grownCap S.w (els.length+xs.length) old e-(els.length+xs.length))) e)->
     (Builtin.append_ #[t,tx] ty #[u,.string bs]).run P S.w= .ok (.slice (some ⟨S.w.heap.size,0,none⟩) (els.length+xs.length) (grownCap S.w (els.length+xs.length) old e)) w'->
     ∃z w' φ',(Builtin.append_ #[t,tx] ty #[u,.string bs]).run P S.w= .ok z w'/\Ext S {S with φ:=φ',h:=S.h.set r (.vec e k (els.length+xs.length)),w:=w'}/\
      SRel {S with φ:=φ',h:=S.h.set r (.vec e k (els.length+xs.length)),w:=w'}/\VRel {S with φ:=φ',h:=S.h.set r (.vec e k (els.length+xs.length)),w:=w'} (.vec r k (els++xs)) z:=by
    intro w' old hold hw' hrun;have hge:=grownCap_ge S.w (els.length+xs.length) old e;have hcm:=grownCap_le_maxLen S.w (els.length+xs.length) old e Qf3;have hnewb:w'.heap[S.w.heap.size]? =some (.cells ((olds++news).toArray++Builtin.zeroCells zv.cells (grownCap S.w (els.length+xs.length) old e-(els.length+xs.length))) e (0,0)):=by
     rw[hw'];exact heap_alloc_new S.w.drew _
    have hsame: ∀b,b<S.w.heap.size->w'.heap[b]? =S.w.heap[b]? :=fun b hb=>by rw[hw'];exact Below.heap_alloc S.w.drew _ _ hb
    obtain⟨x,hS'⟩:=kQ (v:= .slice (some ⟨S.w.heap.size,0,none⟩) (els.length+xs.length) (grownCap S.w (els.length+xs.length) old e)) (n':=els.length+xs.length) (w':=w') hS hb Qf3 (by rw[hw'];rfl) (by rw[hw'];exact ztC) (by rw[hw'];rfl) (by rw[hw'];simp)
     (fun b hb=> .inr (hsame b hb)) (fun b hb _=>hsame b hb) (fun b hb=> .inr (by simp[sC] at hb;omega)) (fun b m ⟨ar,t1,f1,h1,h2⟩=>⟨ar,t1,f1,(hsame b (Qz.1 h1).1).trans h1,h2⟩) (.inr ⟨_,_,_,rfl,hnewb,hge,hcm,zc _ _ hge _ hal⟩)
    refine⟨_,w',_,hrun,x,hS',fin _ w' _ _ _ x hS' rfl hnewb ?_ hge hcm⟩;simp only[Array.toList_append];rw[<-hal];exact List.take_left
   rcases hS.blks r _ _ hb hφ with ⟨he,hn0⟩|⟨g,cp,cur,he,hg,hnc,hcm,hcs⟩
   ·have ho0:olds=[]:=Xi (by rw[hol,hn0,Ki]);have hxn:0+xs.length=els.length+xs.length:=Qf3;have hs1:i.size=1:=by rw[hsz,hk1]
    have hr1:=run_append_grow_src (P:=P) S.w t tx ty e i zv htu hi hz none 0 0 [] (run_firstCells_none S.w.drew i.size 0 0 0) (.string bs) bs.size (strCells bs) ⟨.inr hx,fun _=>rfl,run_firstCells_string S.w i.size bs,run_firstCells_string S.w.drew i.size bs,by rw[strCells_length,hs1,Jt],strCells_oneCell bs⟩ Qf3 Qf3 (by rw[nextslicecap_zero Qf3,hby,<-hxl];have:=oH hbytes;rw[hn0,Yd] at this;simpa using this);rw[Yj,Yd,<-hxl,<-hnw] at hr1;exact Qee
   ·have he1:els.length=els.length:=rfl;have hu1':=hu1;rw[he] at hu1;cases hu1;by_cases hroom:els.length+xs.length<=c1
    ·have hcur:cur.toList.take (els.length*k)=olds:=by
      exact Qaf
     have hfit:els.length*k+news.length<=cur.size:=by rw[hs_len,hcs,<-Wo];exact Zw _ hroom
     have hr1:=run_append_room_string (P:=P) S.w t tx ty e i htu hx hi (by rw[hsz,hk1]) g els.length c1 cur hg bs (by rw[<-hxl];exact hroom) (by rw[<-hxl,hcs,hk1,Jt];exact hroom);have et:cur.toList.take els.length=olds:=by rw[<-hcur,hk1,Jt]
     have ed:cur.toList.drop (els.length+xs.length)=cur.toList.drop (els.length*k+news.length):=by rw[hs_len,hk1,Jt,Jt]
     rw[<-hxl,<-hnw,et,ed] at hr1;exact Qa2
    ·have hold: ∀j v,olds[j]? =some v->S.w.cell? ((⟨g,0,none⟩:Addr).add j)=some v:=fun j v hj=>by
      exact Qac
     have hr1:=run_append_grow_string (P:=P) S.w t tx ty e i zv htu hx hi hz ⟨g,0,none⟩ els.length c1 olds (by rw[hol,hsz]) hold bs Qf3 Qf3 (by rw[hby,<-hxl];exact growslice_fits Qf3 hbytes);rw[<-hxl,<-hnw] at hr1;exact Qdv
theorem OpOk.appendStr{P:Program}{G:Glob}{rd:Option Nat}{o:Oper}{h:Heap}{F:Operand->PV}{R:PV->Heap->Prop}{c:Call}{t tx e:TypeId}{r b:Nat}{els:List (List PV)}{bs:ByteArray}{s x:Operand}(ho:o.op= .call c)(hc:c.callee= .builtin .append)(ha:c.args= #[s,x])(hat:c.argTypes= #[t,tx])
  (hs:F s= .vec r 1 els) (hx:F x= .sc (.string bs)) (ht:wD P t=some (e,1,b)) (hu:P.underlying tx=some .string) (hb:h[r]? =some (.vec e 1 els.length)) (hbytes:(els.length+bs.size)*b<=140737488355328) (hlen:els.length+bs.size<=140737488355328)
  (k:R (.vec r 1 (els++xH bs)) (h.set r (.vec e 1 (els.length+bs.size)))):OpOk P G rd o h F R:=by
 refine .of_run Qgt fun φ w X ρ hS hG hv=> ?_;have h1:=hv s Qhq;have h2:=hv x Qhq;rw[hs] at h1;rw[hx] at h2;have hux:ρ x= .string bs:=by generalize ρ x=u at h2;cases h2;rfl
 obtain⟨z,w',φ',hrun,x1,hS',hv'⟩:=jF (P:=P) (ty:=o.type) (tx:=tx) hS ht rfl h1 hb hu rfl (by rw[xC];exact hbytes) (by rw[xC];exact hlen);rw[xC] at x1 hS' hv';refine⟨φ',_,w',_,z,?_,x1,hS',hv',k⟩;unfold execOp;rw[ho];simp only[] at hrun;simp[resolve,invoke,builtin,hc,ha,hat,hux,hrun]
end Go.AL
namespace Go.AL
open Go.Proofs Go.Proofs.Tryz
theorem mG(bs:BA)(c:UInt8):xH (bs.push c)=xH bs++[[.sc (.int .u8 c.toNat)]]:=by
 unfold xH;have:(bs.push c).data.toList=bs.data.toList++[c]:=by
  show(bs.data.push c).toList=_;simp
 rw[this,Xq];rfl
theorem kA(a b:BA):xH (a++b)=xH a++xH b:=by
 unfold xH;have:(a++b).data.toList=a.data.toList++b.data.toList:=Qf4;rw[this,Xq]
def vT(n:Int)(k:Nat):UInt8:=UInt8.ofNat (IntKind.u8.wrap (n / 2 ^ min (8*k) 64)).toNat
theorem ziJ(n:Int)(k:Nat):IntKind.u8.wrap (n / 2 ^ min (8*k) 64)=(((vT n k).toNat:Nat):Int):=by
 unfold vT;rw[IntKind.wrap_u8];simp;omega
def b8(n:Int)(bs:BA):Nat->BA
 |0=>bs
 |k+1=>(b8 n bs k).push (vT n k)
def zsP(x:Vl):Nat->Int
 |0=>x.t
 |1=>x.n
 |_=>(x.s.size:Int)
def ztA(x:Vl)(bs:BA):Nat->BA
 |0=>bs
 |j+1=>b8 (zsP x j) (ztA x bs j) 8
def znJ(bs:BA)(x:Vl):BA:=ztA x bs 3++x.s
def zk0(args:List Vl):BA:=args.foldl znJ ⟨#[]⟩
theorem zm9(bs:BA)(x:Vl):znJ bs x=ztA x bs 3++x.s:=rfl
theorem fK(x:Vl)(bs:BA)(j:Nat):ztA x bs (j+1)=b8 (zsP x j) (ztA x bs j) 8:=rfl
theorem znE(n:Int)(bs:BA)(k:Nat):b8 n bs (k+1)=(b8 n bs k).push (vT n k):=rfl
theorem zsU(x:Vl){j:Nat}(h:j<3):([[i64 x.t],[i64 x.n],[i64 x.s.size]]:List (List PV)).getD j []=[i64 (zsP x j)]:=by
 match j,h with
 |0,_=>rfl
 |1,_=>rfl
 |2,_=>rfl
theorem zrG{args:List Vl}{i:Nat}(h:i<args.length):zk0 (args.take (i+1))=znJ (zk0 (args.take i)) args[i]:=by
 unfold zk0;rw[Xh h,Jm,Yw,Ks]
abbrev KB(J:Heap)(V:PV)(bs:BA):Prop:=GrowN 0 5 (xH bs) 1 J V
theorem KB.mono{J J':Heap}{V:PV}{bs:BA}(h:KB J V bs)(k: ∀(q n:Nat),J[q]? =some (.vec 5 1 n)->J'[q]? =some (.vec 5 1 n)):KB J' V bs:=by
 rcases h with h|⟨q,h1,hq⟩
 ·exact .inl h
 ·exact .inr ⟨q,h1,k _ _ hq⟩
theorem zlY(args:List Vl)(hl:args.length<=1048576)(hs: ∀a∈args,a.s.size<=1048576):EPure prog G0 202 [pH args] fun p=>p=yQ (zk0 args):=by
 refine ECall.cut (R:=fun p _=>p=yQ (zk0 args)) (pv func202 48 false Qf6 rfl rfl ?_) Qgl;refine g2 ?_;refine ge ?_;refine zO args.length (.k:: .k:: .k:: .v:: .k:: .d:: .k:: .d:: .d:: .k:: .k:: .v::D9 (D9 (D9 (D4 (.d:: .d:: .d:: .k:: .k::[]))))) (own:=false) (fun i (s:PV×BA×Heap)=>[s.1,i64 i]) (fun s=>s.2.2) (fun i s=>KB s.2.2 s.1 s.2.1/\s.2.1.size<=1048600*i/\s.2.1=zk0 (args.take i)) (.nil,⟨#[]⟩,[]) rfl rfl ⟨.inl ⟨rfl,rfl⟩,Yn _,rfl⟩ Qf3 ?_ ?_
 ·rintro⟨V,bs,J⟩ ⟨hI,hn,hE⟩ t ht;dsimp only at*;rw[Yt] at hE;rw[<-hE];clear hE;simp only[zY] at ht;subst ht;refine gf @zM ?_;rcases hI with ⟨h0,rfl⟩|⟨q,rfl,hq⟩
  ·have hb:bs= .empty:=by
    exact Qe2
   refine ge ?_;rw[hb];rfl
  ·refine ge ?_;rfl
 ·rintro i ⟨V,bs,J⟩ hi hw ⟨hI,hn,hE⟩ t ht;dsimp only at*;have hk1:=zrG hi;rw[<-hE] at hk1;clear hE;simp only[zY] at ht;subst ht;have hx:=zG (f:=Vl.c) [] hi;have hsx:=hs _ (Qc hi);generalize args[i]=x at*;refine gf (a6 @hi @hx @zB @hw @zA @zX) ?_;have hKB0:KB (J++[.var 168 x.c]) V bs:=hI.mono fun q n hq=>by rw[Qg (gsi hq).1];exact hq
  have hp0:(J++[.var 168 x.c])[J.length]? =some (.var 168 x.c):=zA _ _;generalize J.length=p at*;generalize J++[.var 168 x.c]=J1 at*;refine zO 3 (.k:: .k:: .k:: .v:: .k:: .k:: .k:: .d:: .d::K9 (K4 (.k:: .k:: .v::D9 (D4 (.d:: .d:: .d::K4 (.k:: .k:: .k::[])))))) (own:=false) (fun i (s:PV×BA×Heap)=>[s.1,i64 i]) (fun s=>s.2.2) (fun j s=>KB s.2.2 s.1 s.2.1/\s.2.1.size<=1048600*i+j*8/\s.2.2[p]? =some (.var 168 x.c)/\(0<j->0<s.2.1.size)/\s.2.1=ztA x bs j) (V,bs,J1) rfl rfl ⟨hKB0,Qf3,hp0,Qf4,rfl⟩ Qf3 ?_ ?_
  ·rintro⟨V2,bs2,J2⟩ ⟨hI2,hn2,hp2,hpos,hE2⟩ t ht;dsimp only at*;simp only[zY] at ht;subst ht;have h3:(((3:Nat):Int)<3)=False:=Qf4;rcases hI2 with ⟨h0,rfl⟩|⟨q,rfl,hq⟩
   ·have:=Ym List.length h0;rw[xC,Xv] at this;omega
   ·refine gf (a3 @hw @h3 @hp2) ?_;have hbl:(xH bs2).length=bs2.size:=xC _;have hqJ:q<J2.length:=(gsi hq).1;(refine wU ?_;intro sr hsr;simp only[go_sem,hw,h3,hp2] at hsr;subst hsr;refine iR rfl (fun rd=>OpOk.appendStr (s:= .tmp 41) (x:= .tmp 43) rfl rfl rfl rfl rfl rfl (by kernel_rfl:wD prog 198=some (5,1,1)) Qf6 hq (by rw[hbl];omega) (by rw[hbl];omega) ⟨rfl,rfl⟩) ?_;intro ts2 hts;simp only[go_sem] at hts;subst hts);refine gf (a3 @hw @h3 @hp2) ?_;exact⟨(_,bs2++x.s,_),⟨.inr ⟨q,by rw[kA],by rw[Qh hqJ,kA,Ql,xC x.s]⟩,by dsimp only;rw[ByteArray.size_append];omega,by dsimp only;rw[hk1,zm9,hE2]⟩,Qh4,rfl,rfl⟩
  ·rintro j ⟨V2,bs2,J2⟩ hj zg1 ⟨hI2,hn2,hp2,hpos,hE2⟩ t ht;dsimp only at*;simp only[zY] at ht;subst ht;have h3:((j:Int)<3)=True:=Qfk;have h3n:=zsU x hj;have hE3:ztA x bs (j+1)=b8 (zsP x j) bs2 8:=by rw[hE2,fK]
   clear hE2;generalize zsP x j=n at*;refine gf (a5 @h3 @hj @h3n @zB @zg1) ?_;refine zO 8 (.k:: .k:: .k:: .v::K4 (.d::K9 (K9 (.k:: .v::D9 (.d:: .d::K4 (K4 ([]))))))) (own:=false) (fun i (s:PV×BA×Heap)=>[s.1,i64 i]) (fun s=>s.2.2) (fun k s=>KB s.2.2 s.1 s.2.1/\s.2.1.size<=1048600*i+j*8+k/\s.2.2[p]? =some (.var 168 x.c)/\(0<k->0<s.2.1.size)/\s.2.1=b8 n bs2 k) (V2,bs2,J2) rfl rfl ⟨hI2,by dsimp only;omega,hp2,Qf4,rfl⟩ Qf3 ?_ ?_
   ·rintro⟨V3,bs3,J3⟩ ⟨hI3,hn3,hp3,hpos3,hE4⟩ t ht;dsimp only at*;simp only[zY] at ht;subst ht;have h8:(((8:Nat):Int)<8)=False:=Qf4;refine gf (a4 @h8 @h3 @hj @zg1) ?_;exact⟨(V3,bs3,J3),⟨hI3,by dsimp only;omega,hp3,fun _=>hpos3 Qf3,by dsimp only;rw[hE3,hE4]⟩,rfl,rfl,rfl⟩
   ·rintro k ⟨V3,bs3,J3⟩ hk zy4 ⟨hI3,hn3,hp3,hpos3,hE4⟩ t ht;dsimp only at*;simp only[zY] at ht;subst ht;have h8:((k:Int)<8)=True:=Qfk;have h8k:IntKind.i64.wrap (8*(k:Int))=((8*k:Nat):Int):=Qhb;have hc:=ziJ n k;have hE5:b8 n bs2 (k+1)=bs3.push (vT n k):=by rw[hE4,znE]
    clear hE4;generalize vT n k=c at*;rcases hI3 with ⟨h0,rfl⟩|⟨q,rfl,hq⟩
    ·have hb:bs3=⟨#[]⟩:=by
      exact Qe2
     subst hb;refine gf (a6 @h8 @hk @zy4 @h8k @hc @iS) ?_;have hb1:((⟨#[]⟩:BA).push c).size=1:=rfl;exact⟨(_,(⟨#[]⟩:BA).push c,_),⟨.inr ⟨J3.length,by rw[mG],by simp[xC,hb1]⟩,by dsimp only;omega,by dsimp only;rw[Qg (gsi hp3).1];exact hp3,fun _=>by dsimp only;omega,hE5.symm⟩,Qh4,rfl,rfl⟩
    ·have hqJ:q<J3.length:=(gsi hq).1;have hbl:(xH bs3).length=bs3.size:=xC _;refine gf (a8 @h8 @hk @zy4 @h8k @hc @hq @hbl @iS) ?_;have hb1:(bs3.push c).size=bs3.size+1:=ByteArray.size_push;have hqp:q≠p:=fun e=>by subst e;rw[hq] at hp3;cases hp3
     exact⟨(_,bs3.push c,_),⟨.inr ⟨q,by rw[mG],by rw[Qh hqJ,xC,hb1]⟩,by dsimp only;omega,by dsimp only;rw[Qd hqp];exact hp3,fun _=>by dsimp only;omega,hE5.symm⟩,Qh4,rfl,rfl⟩
@[go_sem] def UCel2f153.pl:Nat->DPlan
 |13=>⟨[yA,yA,yA,yB,yA,yA,yA,yA,yB,yA,yA,yA,yC,yA,yC,yC,yA,yC],yM,0⟩
 |_=>⟨[],[],0⟩
theorem tmL:kC prog 275=some (9,.string,242):=Qf6
theorem zjX(r o:Nat):za2 (α:=Prop) prog 242 (.ptr r o) (.sc (.pointer none))=some (false,True):=Qf6
theorem zjY:za2 (α:=Prop) prog 242 (.sc (.pointer none)) (.sc (.pointer none))=some (true,True):=Qf6
theorem zaS:nI (.pointer none)= .sc (.pointer none):=rfl
theorem ziL:(prog.info? 242).bind (·.zero)=some (.pointer none):=Qf6
theorem tmA:kC prog 276=some (9,.string,50):=Qf6
theorem ziA:(prog.info? 50).bind (·.zero)=some (.slice none 0 0):=Qf6
structure En where
 k:BA
 r:Nat
 a:List Vl
abbrev ma(es:List En):NM:=es.map fun e=>(Value.string e.k,PV.ptr e.r 0)
abbrev mb(es:List En):NM:=es.map fun e=>(Value.string e.k,pH e.a)
def En.ok(e:En):Prop:=e.a.length<=1048576/\(∀a∈e.a,a.s.size<=1048576)/\e.k=zk0 e.a
def LineAt(h:Heap)(r:Nat):Prop:= ∃ms:List Int,ms.length=64/\h[r]? =some (.var 287 (ms.map i64))
structure TB(l:La)(tb m1 m2:Nat)(es:List En)(h:Heap):Prop where
 t:h[tb]? =some (.var 278 [yQ l.name,rR l.pw,.ts 2 (l.pJ.map fun c=>[i64 c.1,i64 c.2]),i64 l.at',.mp m1,.mp m2])
 a:h[m1]? =some (.map (ma es))
 b:h[m2]? =some (.map (mb es))
 n:m1≠m2
 l: ∀e∈es,LineAt h e.r
 k: ∀e∈es,e.ok
 d:(es.map (·.k)).Nodup
def Kp(h h':Heap):Prop:= ∀(r:Nat)(b:Blk),h[r]? =some b->(∀cs,b≠ .var 287 cs)->(∀es,b≠ .map es)->h'[r]? =some b
theorem Kp.refl(h:Heap):Kp h h:=fun _ _ h _ _=>h
theorem Kp.trans{h h1 h2:Heap}(a:Kp h h1)(b:Kp h1 h2):Kp h h2:=fun r c hc n1 n2=>b r c (a r c hc n1 n2) n1 n2
theorem dJ(es:List En):(ma es).all (fun x=>pF .string x.1)=true:=by
 exact Qdr
theorem zaT(es:List En):(mb es).all (fun x=>pF .string x.1)=true:=by
 exact Qdr
theorem gV{s:BA}: ∀{es:NM}{j:Nat},vV (.string s) es j=none-> ∀x∈es,x.1≠ .string s
 | [],_,_,x,hx=>by cases hx
 | y::es,j,h,x,hx=>by
  unfold vV at h;split at h
  ·cases h
  ·rename_i hv;rcases Qw.1 hx with rfl|hx
   ·intro e;rw[e] at hv;exact hv (by simp[sY])
   ·exact gV h x hx
theorem cT{s:BA}(f g:En->PV): ∀{es:List En}{j:Nat},vV (.string s) (es.map fun e=>(Value.string e.k,f e)) j=none->vV (.string s) (es.map fun e=>(Value.string e.k,g e)) j=none
 | [],_,_=>rfl
 | e::es,j,h=>by
  simp only[Xa,vV] at h ⊢
  split at h
  ·cases h
  ·rename_i hv;rw[Qi hv];exact cT f g h
theorem zfR{h:Heap}{r:Nat}{es:List En}{s:BA}{j:Nat}{p:PV}(hr:h[r]? =some (.map (ma es)))(hm:vV (.string s) (ma es) 0=some (j,p)):xQ (α:=Prop) prog h 275 false (.mp r) (yQ s)=some (p,True):=by
 unfold xQ;rw[tmL];simp only[oS,hr,ziL,zm1,dJ,hm,Kd,Wk,vL,Zo,Wr]
theorem zfS{h:Heap}{r:Nat}{es:List En}{s:BA}(hr:h[r]? =some (.map (ma es)))(hm:vV (.string s) (ma es) 0=none):xQ (α:=Prop) prog h 275 false (.mp r) (yQ s)=some (.sc (.pointer none),True):=by
 unfold xQ;rw[tmL];simp only[oS,hr,ziL,zm1,dJ,hm,Kd,Wk,vL,Zo,Wr,zaS]
theorem zfT{h:Heap}{r:Nat}{es:List En}{s:BA}{j:Nat}{p:PV}(hr:h[r]? =some (.map (mb es)))(hm:vV (.string s) (mb es) 0=some (j,p)):xQ (α:=Prop) prog h 276 false (.mp r) (yQ s)=some (p,True):=by
 unfold xQ;rw[tmA];simp only[oS,hr,ziA,zm1,zaT,hm,Kd,Wk,vL,Zo,Wr]
theorem buL:kB prog 287 []=some (.agg (List.replicate 64 (i64 0))):=Qf6
attribute [-go_sem] kB
attribute [go_sem] kB
@[go_sem] def UCel3f195.pp:Nat->DPlan
 |4=>⟨[yB,yA,yB,yA,yA,yB,yB,yA,yA,yA,yB,yB,uX,yA,yA,yC],xE,0⟩
 |_=>⟨[],[],0⟩
@[go_sem] def UCel3f195.pl:Nat->DPlan
 |4=>⟨[⟨7,0,[1006]⟩,yA,yB,yA,yA,yB,yB,yA,yA,yA,yB,yB,⟨6,0,[1006]⟩,yA,yA,yC],xE,0⟩
 |_=>⟨[],[],0⟩
theorem jQ(a b:Int)(h:Heap):ECall prog G0 242 [i64 a,i64 b] h fun p h'=>p= .fn (.func 309) [] [.ptr h.length 0,.ptr (h.length+1) 0]/\h'=h++[.var 3 [i64 a],.var 3 [i64 b]]:=by
 refine pv func242 6 false Qf6 rfl rfl ?_;refine g2 ?_;refine ge ?_;exact⟨rfl,rfl⟩
@[go_sem] def UCel4f196.pl:Nat->DPlan
 |5=>⟨[yA,yA,yA,yB,yA,yA],znU,0⟩
 |_=>⟨[],[],0⟩
def RowN(n:Nat)(cs:List Ce)(J:Heap)(V:PV):Prop:=(cs=[]/\V= .nil)\/ ∃j,0<cs.length/\V= .ms (n+j) 0 3 cs.length/\J[j]? =some (.var 208 (cs.map Ce.c).flatten)
theorem aW(l:List Ce):(l.map Ce.c).flatten.length=l.length*3:=by
 induction l with
 |nil=>rfl
 |cons x l ih=>rw[Xa,Yl,Ql,ih,Qn];simp;omega
theorem zi0{α:Type}: ∀{l:List α},0<l.length-> ∃l' x,l=l'++[x]
 |l,h=>by
  have:l≠[]:=fun e=>by subst e;simp at h
  exact⟨l.dropLast,l.getLast this,(List.dropLast_concat_getLast this).symm⟩
def zm5(bt:Int)(cs:List Ce)(i:Nat)(v:Int):List Ce:=if v=bt then cs else match cs.getLast? with
 |none=>[⟨i,(i+1:Nat),v⟩]
 |some c=>if c.b=i/\c.e=v then cs.dropLast++[⟨c.a,IntKind.i64.wrap (c.b+1),c.e⟩] else cs++[⟨i,(i+1:Nat),v⟩]
def zh6(bt:Int)(ms:List Int):Nat->List Ce
 |0=>[]
 |i+1=>zm5 bt (zh6 bt ms i) i (ms.getD i 0)
open UCel4f196 in
theorem zgH(l:La)(hl:l.ok)(tb m1 m2:Nat)(es:List En)(h:Heap)(hT:TB l tb m1 m2 es h)(r:Nat)(ms:List Int)(hms:ms.length=64)(hr0:h[r]? =some (.var 287 (ms.map i64))):
  ECall prog G0 196 [.ptr tb 0,.ptr r 0] h fun p h'=> ∃J:Heap,h'=h++J/\RowN h.length (zh6 (oU l) ms 64) J p/\(zh6 (oU l) ms 64).length<=64:=by
 refine pv func196 70 true Qf6 rfl rfl ?_;refine g2 ?_;have htb:=hT.t;refine gf @htb ?_;(refine g1f @htb ?_;refine zC ((zj7 l hl).call zK Qfe _) ?_;intro p2 h2 hr2;refine g2 ?_);obtain⟨rfl,e2⟩:=hr2;replace e2:=e2.symm;subst e2;generalize oU l=bt;refine gf @htb ?_;refine zO 64 (K4 (.k:: .v:: .k:: .d:: .d:: .d::K4 (.k:: .k:: .v::D9 (D9 (D9 (D9 (D9 (D4 (.d:: .d:: .d:: .k::[]))))))))) (own:=true) (fun i (s:PV×List Ce×Heap)=>[s.1,i64 i]) (fun s=>h++s.2.2) (fun i s=>RowN h.length s.2.1 s.2.2 s.1/\s.2.1.length<=i/\s.2.1=zh6 bt ms i) (.nil,[],[]) rfl Qf4 ⟨.inl ⟨rfl,rfl⟩,Yn _,rfl⟩ Qf3 ?_ ?_
 ·rintro⟨V,cs,J⟩ ⟨hI,hn,hcs⟩ t ht;dsimp only at*;simp only[zY] at ht;subst ht;have h64:(((64:Nat):Int)<64)=False:=Qf4;refine gf @h64 ?_;subst hcs;exact⟨J,rfl,hI,hn⟩
 ·rintro i ⟨V,cs,J⟩ hi hw ⟨hI,hn,hcs⟩ t ht;dsimp only at*;simp only[zY] at ht;subst ht;have h64:((i:Int)<64)=True:=Yk Qf3;have hi64:i<ms.length:=Qf3;have hd:=yU i64 ms i .un hi64;have hrA:(h++J)[r]? =some (.var 287 (ms.map i64)):=by rw[Qg (gsi hr0).1];exact hr0
  have F:=(a7 @h64 @hi @hw @zB @hms @hd @hrA)
  have hstep:zh6 bt ms (i+1)=zm5 bt cs i ms[i]:=by rw[zh6,<-hcs,Qb,Qa hi64];rfl
  generalize hv:ms[i]=v at*;by_cases hbt:v=bt
  ·have e1:(v==bt)=true:=by simp[hbt]
   rcases hI with ⟨h0,rfl⟩|⟨j,hc0,rfl,hj⟩
   ·refine gf (a2 F @e1) ?_;exact⟨(.nil,cs,J),⟨.inl ⟨h0,rfl⟩,by dsimp only;omega,by rw[hstep,zm5,Qj hbt]⟩,rfl,rfl,rfl⟩
   ·refine gf (a2 F @e1) ?_;exact⟨(.ms (h.length+j) 0 3 cs.length,cs,J),⟨.inr ⟨j,hc0,rfl,hj⟩,by dsimp only;omega,by rw[hstep,zm5,Qj hbt]⟩,rfl,rfl,rfl⟩
  ·have e1:(v==bt)=false:=by simp[hbt]
   have hwi:IntKind.i64.wrap ((i:Int)+1)=((i+1:Nat):Int):=hw;rcases hI with ⟨h0,rfl⟩|⟨j,hc0,rfl,hj⟩
   ·subst h0;refine gf (a2 F @e1) ?_;exact⟨(.ms (h.length+J.length) 0 3 1,[⟨i,(i+1:Nat),v⟩],J++[.var 208 [i64 i,i64 (i+1:Nat),i64 v]]),⟨.inr ⟨J.length,Qf4,rfl,Qf4⟩,Qf4,by rw[hstep];simp[zm5,hbt]⟩,rfl,rfl,Qf4⟩
   ·obtain⟨cs',c,rfl⟩:=zi0 hc0;rw[Ql,Wp] at hn;obtain⟨ca,cb,ce⟩:=c;obtain⟨pre,hpre⟩: ∃pre,(cs'.map Ce.c).flatten=pre:=⟨_,rfl⟩
    have hpl:pre.length=cs'.length*3:=by rw[<-hpre,aW]
    have hjl:j<J.length:=(gsi hj).1;have hJj:(h++J)[h.length+j]? =some (.var 208 (pre++[i64 ca,i64 cb,i64 ce])):=by
     rw[sB,hj,Xq,List.flatten_append,hpre];rfl
    have hSj: ∀b:Blk,(h++J).set (h.length+j) b=h++J.set j b:=fun b=>rN h J j b;have d1:=fun ys k=>iJ hpl ys k;have d2:=fun ys k=>iA hpl ys k;have d3:=fun ys=>lT hpl ys;have d4: ∀ys:List PV,(pre++ys).drop (cs'.length*3+1+1)=ys.drop 2:=fun ys=>d1 ys 2;have hpos:((0:Int)<((cs'.length+1:Nat):Int))=True:=Yk Qf3;have hsub:IntKind.i64.wrap (((cs'.length+1:Nat):Int)-1)=((cs'.length:Nat):Int):=Qgx;have a1:(cs'.length*3+3=(cs'.length+1)*3)=True:=Yk Qf3;have a2:((cs'.length+1+1)*24<=140737488355328)=True:=Yk Qf3;have a3:(cs'.length<=140737488355326)=True:=Yk Qf3;have fin: ∃x,x=(Blk.var 208 (pre++[i64 ca,i64 cb,i64 ce,i64 i,i64 (i+1:Nat),i64 v]))/\RowN h.length (cs'++[⟨ca,cb,ce⟩]++[⟨i,(i+1:Nat),v⟩]) (J.set j .old++[x]) (.ms (h.length+J.length) 0 3 (cs'.length+1+1)):=by
     refine⟨_,rfl,.inr ⟨J.length,Qf4,Qf4,?_⟩⟩;rw[Zj Qf4];simp[<-hpre]
    obtain⟨x,hx,fin⟩:=fin;by_cases hb:cb=(i:Int)
    ·have e2:(cb==(i:Int))=true:=by simp[hb]
     by_cases he:ce=v
     ·have e3:(ce==v)=true:=Qfh;refine We0 ?_;exact⟨(.ms (h.length+j) 0 3 (cs'.length+1),cs'++[⟨ca,IntKind.i64.wrap (cb+1),ce⟩],J.set j (.var 208 (pre++[i64 ca,i64 (IntKind.i64.wrap (cb+1)),i64 ce]))),⟨.inr ⟨j,Qf4,Qf4,by rw[Qh hjl];simp[<-hpre]⟩,by simp;omega,by rw[hstep];simp[zm5,hbt,hb,he]⟩,(by simp only[zY,xJ,Xs]<;>simp),rfl,rfl⟩
     ·have e3:(ce==v)=false:=Qfh;refine We0 ?_;exact⟨(.ms (h.length+J.length) 0 3 (cs'.length+1+1),cs'++[⟨ca,cb,ce⟩]++[⟨i,(i+1:Nat),v⟩],J.set j .old++[x]),⟨fin,by simp;omega,by rw[hstep];simp[zm5,hbt,hb,he]⟩,rfl,rfl,by rw[hx]⟩
    ·have e2:(cb==(i:Int))=false:=by simp[hb]
     refine gf (a9 @h64 @hi @hw @zB @hms @hd @hrA @e1 (a9 @hpos @hsub @hJj @d1 @d2 @d3 @d4 @hpl (a5 @hSj @a1 @a2 @a3 @e2))) ?_;exact⟨(.ms (h.length+J.length) 0 3 (cs'.length+1+1),cs'++[⟨ca,cb,ce⟩]++[⟨i,(i+1:Nat),v⟩],J.set j .old++[x]),⟨fin,by simp;omega,by rw[hstep];simp[zm5,hbt,hb]⟩,rfl,rfl,by rw[hx]⟩
theorem TB.keep{l:La}{tb m1 m2:Nat}{es:List En}{h h':Heap}(hT:TB l tb m1 m2 es h)(k: ∀(r:Nat)(b:Blk),h[r]? =some b->h'[r]? =some b):TB l tb m1 m2 es h':=
 ⟨k _ _ hT.t,k _ _ hT.a,k _ _ hT.b,hT.n,fun e he=>by obtain⟨ms,a,b⟩:=hT.l e he;exact⟨ms,a,k _ _ b⟩,hT.k,hT.d⟩
theorem yJ(h B:Heap): ∀(r:Nat)(b:Blk),h[r]? =some b->(h++B)[r]? =some b:=fun r b hr=>by
 rw[Qg (gsi hr).1];exact hr
theorem Kp.app(h B:Heap):Kp h (h++B):=fun r b hr _ _=>yJ h B r b hr
theorem iB{h:Heap}{r:Nat}(hr:LineAt h r){ms:List Int}(hms:ms.length=64)(B:Heap):
  (∀q,LineAt h q->LineAt (h.set r (.var 287 (ms.map i64))++B) q)/\(∀(q:Nat)(b:Blk),h[q]? =some b->(∀cs,b≠ .var 287 cs)->(h.set r (.var 287 (ms.map i64))++B)[q]? =some b):=by
 obtain⟨ms0,e0,hr0⟩:=hr;have hrl:=(gsi hr0).1;refine⟨fun q ⟨ms1,e1,h1⟩=> ?_,fun q b hq hn=> ?_⟩
 ·by_cases hqr:r=q
  ·subst hqr;exact⟨ms,hms,by rw[Qg Qgj,Qh hrl]⟩
  ·exact⟨ms1,e1,yJ _ _ _ _ (by rw[Qd hqr];exact h1)⟩
 ·have hqr:r≠q:=fun e=>by subst e;rw[hr0] at hq;cases hq;exact hn _ rfl
  exact yJ _ _ _ _ (by rw[Qd hqr];exact hq)
theorem TB.line{l:La}{tb m1 m2:Nat}{es:List En}{h:Heap}(hT:TB l tb m1 m2 es h){r:Nat}(hr:LineAt h r){ms:List Int}(hms:ms.length=64)(B:Heap):TB l tb m1 m2 es (h.set r (.var 287 (ms.map i64))++B):=by
 obtain⟨k1,k2⟩:=iB hr hms B;exact⟨k2 _ _ hT.t Qf4,k2 _ _ hT.a Qf4,k2 _ _ hT.b Qf4,hT.n,fun e he=>k1 _ (hT.l e he),hT.k,hT.d⟩
theorem Kp.line{h:Heap}{r:Nat}(hr:LineAt h r){ms:List Int}(hms:ms.length=64)(B:Heap):Kp h (h.set r (.var 287 (ms.map i64))++B):=fun q b hq n1 _=>(iB hr hms B).2 q b hq n1
def LRw.ok(x:LRw):Prop:=x.args.length<=1048576/\x.cs.length<=1099511627776/\ ∀a∈x.args,a.s.size<=1048576
end Go.AL
namespace Go.AL
open Go.Sort
structure Cm3{α:Type}(f:α->α->Int):Prop where
 r: ∀x y,f x y= -1\/f x y=0\/f x y=1
 e: ∀x y,f x y=0↔x=y
 s: ∀x y,f y x= - f x y
 t: ∀x y z,f x y= -1->f y z= -1->f x z= -1
theorem cmI:Cm3 rJ:=by
 refine⟨fun x y=> ?_,fun x y=> ?_,fun x y=> ?_,fun x y z=> ?_⟩<;>unfold rJ<;>(repeat' split)<;>omega
theorem Cm3.pull{α β:Type}{f:α->α->Int}(h:Cm3 f)(g:β->α)(hg: ∀x y,g x=g y->x=y):Cm3 fun x y=>f (g x) (g y):=
 ⟨fun x y=>h.r _ _,fun x y=>⟨fun k=>hg _ _ ((h.e _ _).1 k),fun k=>by subst k;exact(h.e _ _).2 rfl⟩,fun x y=>h.s _ _,fun x y z=>h.t _ _ _⟩
theorem Cm3.pair{α β:Type}{f:α->α->Int}{g:β->β->Int}(h:Cm3 f)(k:Cm3 g):Cm3 fun x y:α×β=>if f x.1 y.1=0 then g x.2 y.2 else f x.1 y.1:=by
 refine⟨fun x y=> ?_,fun x y=> ?_,fun x y=> ?_,fun x y z=> ?_⟩
 ·split
  ·exact k.r _ _
  ·exact h.r _ _
 ·constructor
  ·intro e;split at e
   ·rename_i e1;exact Prod.ext ((h.e _ _).1 e1) ((k.e _ _).1 e)
   ·rename_i e1;exact absurd e e1
  ·rintro rfl;rw[Qj ((h.e _ _).2 rfl)];exact(k.e _ _).2 rfl
 ·have e1:=h.s x.1 y.1;by_cases e:f x.1 y.1=0
  ·rw[Qj e,Qj Qf3];exact k.s _ _
  ·rw[Qi e,Qi Qf3];exact e1
 ·intro a b;by_cases e1:f x.1 y.1=0
  ·rw[Qj e1] at a;have e1':=(h.e _ _).1 e1;by_cases e2:f y.1 z.1=0
   ·rw[Qj e2] at b;rw[<-(h.e _ _).1 e2,Qj e1];exact k.t _ _ _ a b
   ·rw[Qi e2] at b;rw[e1',Qi e2];exact b
  ·rw[Qi e1] at a;by_cases e2:f y.1 z.1=0
   ·rw[<-(h.e _ _).1 e2,Qi e1];exact a
   ·exact Qe6
theorem Cm3.lex{α:Type}{f:α->α->Int}(h:Cm3 f):Cm3 (vZ f):=by
 have r: ∀x y:List α,vZ f x y= -1\/vZ f x y=0\/vZ f x y=1:=by
  intro x
  induction x with
  |nil=>intro y;cases y<;>simp[vZ]
  | cons a x ih=>
   intro y;cases y with
   |nil=>simp[vZ]
   |cons b y=>
    simp only[vZ];split
    ·exact ih y
    ·exact h.r _ _
 have e: ∀x y:List α,vZ f x y=0↔x=y:=by
  intro x
  induction x with
  |nil=>intro y;cases y<;>simp[vZ]
  | cons a x ih=>
   intro y;cases y with
   |nil=>simp[vZ]
   | cons b y=>
    simp only[vZ];by_cases e:f a b=0
    ·rw[Qj e,ih y,(h.e _ _).1 e];simp
    ·rw[Qi e];constructor
     ·intro k;exact absurd k e
     ·intro k;injection k with k1 k2;exact absurd ((h.e _ _).2 k1) e
 have s: ∀x y:List α,vZ f y x= - vZ f x y:=by
  intro x
  induction x with
  |nil=>intro y;cases y<;>simp[vZ]
  | cons a x ih=>
   intro y;cases y with
   |nil=>simp[vZ]
   |cons b y=>
    simp only[vZ];have e1:=h.s a b;by_cases e:f a b=0
    ·rw[Qj e,Qj Qf3];exact ih y
    ·rw[Qi e,Qi Qf3];exact e1
 refine⟨r,e,s,?_⟩;intro x
 induction x with
 | nil=>
  intro y z a b;cases y with
  |nil=>simp[vZ] at a
  |cons c y=>
   cases z with
   |nil=>simp[vZ] at b
   |cons d z=>rfl
 | cons p x ih=>
  intro y z a b;cases y with
  |nil=>simp[vZ] at a
  | cons c y=>
   cases z with
   |nil=>simp[vZ] at b
   | cons d z=>
    simp only[vZ] at a b ⊢
    by_cases e1:f p c=0
    ·rw[Qj e1] at a;have e1':=(h.e _ _).1 e1;by_cases e2:f c d=0
     ·rw[Qj e2] at b;rw[<-(h.e _ _).1 e2,Qj e1];exact ih _ _ a b
     ·rw[Qi e2] at b;rw[e1',Qi e2];exact b
    ·rw[Qi e1] at a;by_cases e2:f c d=0
     ·rw[<-(h.e _ _).1 e2,Qi e1];exact a
     ·exact Qe6
theorem cmC:Cm3 bT:=cmI.pull (fun x:UInt8=>(x.toNat:Int)) fun x y h=>by
 have:x.toNat=y.toNat:=Qf3;exact UInt8.toNat_inj.1 this
theorem cmB:Cm3 znM:=cmC.lex.pull (fun s:BA=>s.data.toList) fun x y h=>by
 have:x.data=y.data:=by rw[<-Array.toList_inj];exact h
 exact ByteArray.ext this
theorem cmV:Cm3 iU:=(cmI.pair (cmI.pair cmB)).pull (fun v:Vl=>(v.t,v.n,v.s)) fun x y h=>by
 obtain⟨a,b,c⟩:=x;obtain⟨a',b',c'⟩:=y;simp only[Ys] at h;obtain⟨rfl,rfl,rfl⟩:=h;rfl
theorem zqQ:Cm3 sD:=cmV.lex
theorem Cm3.swo{α:Type}{f:α->α->Int}(h:Cm3 f):SWO (Go.Proofs.ltOf f):=by
 have ns: ∀x y,f x y<0↔f x y= -1:=fun x y=>by have:=h.r x y;omega
 refine⟨fun x=> ?_,fun x y z=> ?_,fun x y z=> ?_⟩
 ·have:=(h.e x x).2 rfl;simp[Go.Proofs.ltOf,this]
 ·simp only[Go.Proofs.ltOf,Xm,ns];exact h.t x y z
 ·simp only[Go.Proofs.ltOf,Xo,ns];intro a b c;have r1:=h.r x y;have r2:=h.r y z;have s1:=h.s x y;have s2:=h.s y z;have s3:=h.s x z;rcases r1 with r1|r1|r1
  ·exact a r1
  ·have:=(h.e _ _).1 r1;subst this;exact b c
  ·rcases r2 with r2|r2|r2
   ·exact b r2
   ·have:=(h.e _ _).1 r2;subst this;omega
   ·have:=h.t z y x Qf3 Qf3;omega
theorem aG{β α:Type}{f:α->α->Int}(h:Cm3 f)(g:β->α){xs ys zs:List β}(hx:xs.Perm zs)(hy:ys.Perm zs)(hn: ∀a∈zs, ∀b∈zs,g a=g b->a=b)
  (px:xs.Pairwise fun x y=>Go.Proofs.ltOf f (g y) (g x)=false) (py:ys.Pairwise fun x y=>Go.Proofs.ltOf f (g y) (g x)=false):xs=ys:=by
 refine List.Perm.eq_of_pairwise (le:=fun x y=>Go.Proofs.ltOf f (g y) (g x)=false) (fun a b ha hb h1 h2=> ?_) px py (hx.trans hy.symm);simp only[Go.Proofs.ltOf,Xo] at h1 h2;refine hn a (hx.mem_iff.1 ha) b (hy.mem_iff.1 hb) ?_;have r:=h.r (g a) (g b);have s:=h.s (g a) (g b);exact(h.e _ _).1 Qf3
end Go.AL
