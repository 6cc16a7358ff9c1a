/-
  A row's base data, told as a plain value.
-/
import Derived.Test.YtlcjmejclpilhaaGreatDoorX41
import Derived.Test.YtlcjmejclpilhaaGreatDoorX14
import Derived.Test.YtlcjmejclpilhaaGreatDoorX15
import Derived.Test.YtlcjmejclpilhaaGreatDoorX16
import Derived.Test.YtlcjmejclpilhaaGreatDoorX17
import Derived.Test.YtlcjmejclpilhaaGreatDoorX18
set_option linter.unusedSimpArgs false
set_option linter.unusedVariables false
set_option maxRecDepth 100000
set_option maxHeartbeats 4000000
namespace Go.AL
open Go.Proofs Go.Proofs.Tryz
instance:DecidableEq Fa:=fun x y=>decidable_of_iff (x.pred=y.pred/\x.args=y.args/\x.elem=y.elem) Qgu
def zuE(l:List Rw)(key:List Vl)(m:Nat):Option Fa:=(zjH 1 key (m:Int) l).map fun x=>⟨0,x.args, -1⟩
theorem zvR{l:List Rw}(hX:DatX zlK (zbC l))(j:Nat)(key:List Vl)(m:Nat):ztF zlK (zbC l) j key m=if j=0/\key.length=1 then zuE l key m else none:=by
 by_cases hj:j=0
 ·subst hj;rw[ztN hX (i:=0) Qf5 (by show 0<1;omega) (by show 0<1;omega)];show ydT zlK yaL l [] ((0:Nat):Int) key m=_;unfold ydT;by_cases hk:key.length=1
  ·have e1: ¬(yaL.base=false\/(key.length:Int)≠yaL.key):=by
    rintro (w|w)
    ·cases w
    ·exact w (by rw[hk];rfl)
   have e2: ¬yaL.of'≠ -1:=fun w=>w rfl;rw[Qi e1,Qi e2,Qj ⟨rfl,hk⟩];rfl
  ·have e1:yaL.base=false\/(key.length:Int)≠yaL.key:= .inr fun w=>hk (by
    have:(key.length:Int)=1:=w;omega)
   rw[Qj e1,Qi fun w=>hk w.2]
 ·rw[zc3 (p:=zlK) (d:=zbC l) (.inr (show((zlK.pk.length:Nat):Int)<=(j:Int) from(show((1:Nat):Int)<=(j:Int) by omega))),Qi fun w=>hj w.1]
def K34:List (List Vl):=[[aC],[zzI]]
def A34:List (List Vl):=[[aC,zqL 3],[aC,zqL 5],[aC,zqL 7],[zzI,zqL 1]]
def spB:Int->List Sp->Bool
 |_,[]=>true
 |lo,s::l=>decide (lo<=s.a)&&(decide (s.a<s.b)&&(decide (s.b<=64)&&spB (s.b+1) l))
theorem zy5: ∀(l:List Sp)(lo:Int),spB lo l=true->SpF lo l
 | [],_,_=>trivial
 |s::l,lo,h=>by
  unfold spB at h;rw[Qt,Qt,Qt] at h;exact⟨Xj h.1,Xj h.2.1,Xj h.2.2.1,zy5 l _ h.2.2.2⟩
def r0:Rw:=⟨[],[]⟩
def gdB(l:List Rw):Bool:=
 (l.all fun x=>decide (x.args∈A34)&&(spB 0 x.w&&(decide (x.w≠[])&&decide (x.w.length<=8))))&&(decide (l.length<=12)&&
 (((List.range l.length).all fun j=>(List.range j).all fun i=>decide (sD (l.getD i r0).args (l.getD j r0).args<0))&&
 ((List.range l.length).all fun i=> !((l.take i).any fun y=>tA 1 y (l.getD i r0)))))
theorem A34_x{l:List Vl}(h:l∈A34):(∃a b,l=[a,b]/\a.t=2/\b.t=1/\zoC a=true/\zoC b=true)/\l.take 1∈K34/\ ∀v∈l,v.s.size<=140737488355328:=by
 have h':l=[aC,zqL 3]\/l=[aC,zqL 5]\/l=[aC,zqL 7]\/l=[zzI,zqL 1]:=by simpa [A34] using h
 rcases h' with rfl|rfl|rfl|rfl
 ·exact⟨⟨_,_,rfl,rfl,rfl,zw5,vv_3⟩,Qe ..,Qf5⟩
 ·exact⟨⟨_,_,rfl,rfl,rfl,zw5,vv_5⟩,Qe ..,Qf5⟩
 ·exact⟨⟨_,_,rfl,rfl,rfl,zw5,vv_7⟩,Qe ..,Qf5⟩
 ·exact⟨⟨_,_,rfl,rfl,rfl,yaY,vv_1⟩,Qf _ (Qe ..),Qf5⟩
structure Gd(l:List Rw):Prop where
 X:DatX zlK (zbC l)
 k: ∀x∈l,x.args.take 1∈K34
 sz:(zbC l).sz
 f:(zbC l).few14
theorem zuA{l:List Rw}(h:gdB l=true):Gd l:=by
 unfold gdB at h;rw[Qt,Qt,Qt,Xg] at h;obtain⟨h1,h2,h3,h4⟩:=h;have hr: ∀x∈l,x.args∈A34/\SpF 0 x.w/\x.w≠[]/\x.w.length<=8:=fun x hx=>by
  have:=h1 x hx;rw[Qt,Qt,Qt] at this;exact⟨Xj this.1,zy5 _ _ this.2.1,Xj this.2.2.1,Xj this.2.2.2⟩
 have hl:=Xj h2;have two: ∀x∈l,x.args.length=2:=fun x hx=>by
  obtain⟨⟨a,b,e, -⟩, -⟩:=A34_x (hr x hx).1;rw[e];rfl
 have hf:(zbC l).few14:=⟨by show 1<=26;omega,by show 1<=26;omega,fun r hr'=>by
  have:r=l:=Qgy;subst this;exact⟨hl,fun x hx=>⟨by rw[two x hx];omega,(hr x hx).2.2.2⟩⟩,fun r hr'=>by
  have:r=[]:=Qgy;subst this;exact⟨Qf4,Qf4⟩⟩
 refine⟨dat34 (fun i j hij hj=> ?_) (fun x hx=>⟨(hr x hx).2.1,(hr x hx).2.2.1⟩) (fun x hx=>(A34_x (hr x hx).1).1) (fun i hi=> ?_),fun x hx=>(A34_x (hr x hx).1).2.1,?_,hf⟩
 ·rw[Xg] at h3;have:=h3 j (Jl.2 hj);rw[Xg] at this;have:=Xj (this i (Jl.2 hij))
  rwa [eD hj,eD (Nat.lt_trans hij hj)] at this
 ·rw[Xg] at h4;have:=h4 i (Jl.2 hi);rw[eD hi] at this;simpa using this
 ·refine⟨by show 1<=_;omega,by show 1<=_;omega,fun r hr'=> ?_,fun r hr'=> ?_,fun r hr'=> ?_⟩
  ·have:r=l:=Qgy;subst this;exact⟨Qf3,fun x hx=>⟨by rw[two x hx];omega,(A34_x (hr x hx).1).2.2,by have:=(hr x hx).2.2.2;omega⟩⟩
  ·have:r=[]:=Qgy;subst this;exact⟨Qf4,Qf4⟩
  ·have:r=[]:=Qgy;subst this;simp
theorem Gd.no{l:List Rw}(h:Gd l){key:List Vl}(hk:key∉K34)(m:Nat):zuE l key m=none:=by
 unfold zuE;have e:zjH 1 key (m:Int) l=none:=zqG fun j hj=>by
  have: ¬l[j].args.take 1=key:=fun w=>hk (by rw[<-w];exact h.k _ (Qc hj));rw[Zz this,Bool.false_and]
 rw[e];rfl
def chB(b o t:Option Fa):Option Fa:=if o≠t/\o=b then t else o
theorem ya9(b o t:Option Fa):lL b o t=chB b o t:=by
 unfold lL chB;by_cases q:o≠t/\o=b
 ·rw[pO q,Qj rfl,Qj q]
 ·rw[uA q,Qi Qf5,Qi q]
def okB(b o t z:List Rw):Bool:=K34.all fun key=>(List.range 64).all fun m=>decide (zuE z key m=chB (zuE b key m) (zuE o key m) (zuE t key m))
def cfB(b o t:Option Fa):Bool:=decide (o≠t/\o≠b/\t≠b)
def noB(b o t:List Rw):Bool:=K34.all fun key=>(List.range 64).all fun m=> !cfB (zuE b key m) (zuE o key m) (zuE t key m)
theorem yaV{f:List Vl->Nat->Bool}(h:(K34.all fun key=>(List.range 64).all fun m=>f key m)=true){key:List Vl}{m:Nat}(hk:key∈K34)(hm:m<64):f key m=true:=by
 rw[Xg] at h;have:=h key hk;rw[Xg] at this;exact this m (Jl.2 hm)
section
variable{b o t z:List Rw}(hB:Gd b)(hO:Gd o)(hT:Gd t)
include hB hO hT
theorem ydH(hZ:Gd z)(h:okB b o t z=true):zhB zlK (zbC b) (zbC o) (zbC t) (zlS zlK (zbC b) (zbC o) (zbC t))=zbC z:=by
 refine zvZ zw7 zw6 hB.X hO.X hT.X hZ.X fun j key m hm _=> ?_;rw[zvR hZ.X,zvR hB.X,zvR hO.X,zvR hT.X,ya9];by_cases hj:j=0/\key.length=1
 ·simp only[Qj hj];by_cases hk:key∈K34
  ·exact Xj (yaV (f:=fun key m=>decide (zuE z key m=chB (zuE b key m) (zuE o key m) (zuE t key m))) h hk hm)
  ·rw[hZ.no hk,hB.no hk,hO.no hk,hT.no hk];rfl
 ·simp only[Qi hj];rfl
theorem no34(h:noB b o t=true):zz9 zlK (zbC b) (zbC o) (zbC t) 1=[]:=by
 refine zvQ (fun j key m hm=> ?_) 1;rw[zvR hB.X,zvR hO.X,zvR hT.X];by_cases hj:j=0/\key.length=1
 ·simp only[Qj hj];by_cases hk:key∈K34
  ·have:=yaV (f:=fun key m=> !cfB (zuE b key m) (zuE o key m) (zuE t key m)) h hk hm;intro w;have e:cfB (zuE b key m) (zuE o key m) (zuE t key m)=true:=Yz w;rw[e] at this;cases this
  ·rw[hB.no hk,hO.no hk,hT.no hk];exact fun w=>w.1 rfl
 ·simp only[Qi hj];exact fun w=>w.1 rfl
theorem Three34:EPure prog G0 11 [.agg zlK.c,.agg (zbC b).c,.agg (zbC o).c,.agg (zbC t).c] fun v=>v= .tup [.agg (zhB zlK (zbC b) (zbC o) (zbC t) (zlS zlK (zbC b) (zbC o) (zbC t))).c,cfs (zz9 zlK (zbC b) (zbC o) (zbC t) 1)]:=
 Three_x zlK zw7 zw6 _ _ _ hB.sz hO.sz hT.sz hB.X hO.X hT.X Qf5 (zxP zlK hB.f hO.f hT.f)
end
def puB(b o t:Option Fa)(m:Nat):List Cf->List Cf
 | []=>[⟨b,o,t,yW (zo2 ⟨m,(m:Int)+1⟩)⟩]
 |x::l=>if x.b=b/\x.o=o/\x.t=t then⟨b,o,t,yW (uQ x.w ||| zo2 ⟨m,(m:Int)+1⟩)⟩::l else x::puB b o t m l
theorem zy6(b o t:Option Fa)(m:Nat): ∀l,zc4 b o t m l=puB b o t m l
 | []=>rfl
 |x::l=>by
  unfold zc4 puB;by_cases q:x.b=b/\x.o=o/\x.t=t
  ·rw[pO q,Qj rfl,Qj q]
  ·rw[uA q,Qi Qf5,Qi q,zy6 b o t m l]
def cuB(fb fo ft:Nat->Option Fa):Nat->List Cf
 |0=>[]
 |m+1=>if cfB (fb m) (fo m) (ft m) then puB (fb m) (fo m) (ft m) m (cuB fb fo ft m) else cuB fb fo ft m
theorem zxC(fb fo ft:Nat->Option Fa): ∀n,zuF fb fo ft n=cuB fb fo ft n
 |0=>rfl
 | m+1=>by
  unfold zuF cuB;by_cases q:zt6 (fb m) (fo m) (ft m)
  ·have e:cfB (fb m) (fo m) (ft m)=true:=Yz q;rw[pO q,Qj rfl,e,Qj rfl,zy6,zxC fb fo ft m]
  ·have e:cfB (fb m) (fo m) (ft m)=false:=Zz q;rw[uA q,Qi Qf5,e,Qi Qf5,zxC fb fo ft m]
theorem one34{b o t:List Rw}(hB:Gd b)(hO:Gd o)(hT:Gd t)(hk: ∀key,key∈zaH zlK (zbC b) 0\/key∈zaH zlK (zbC o) 0\/key∈zaH zlK (zbC t) 0↔key=[aC]){L:List Cf}(h:cuB (zuE b [aC]) (zuE o [aC]) (zuE t [aC]) 64=L):zz9 zlK (zbC b) (zbC o) (zbC t) 1=L.map fun x=>(0,[aC],x):=by
 have e:zlS zlK (zbC b) (zbC o) (zbC t) 0=[[aC]]:=zr9 (ziT _) (List.pairwise_singleton ..) fun key=>by
  rw[zvJ zw7 zw6 hB.X hO.X hT.X (i:=0) Qf5 rfl,hk,Qp]
 show(if (zlK.pk.getD 0 zuW).base=true then zz9 zlK (zbC b) (zbC o) (zbC t) 0++(zlS zlK (zbC b) (zbC o) (zbC t) 0).flatMap (zw4 zlK (zbC b) (zbC o) (zbC t) 0) else zz9 zlK (zbC b) (zbC o) (zbC t) 0)=_;rw[Qj (show(zlK.pk.getD 0 zuW).base=true from rfl),e];show []++([[aC]].flatMap (zw4 zlK (zbC b) (zbC o) (zbC t) 0))=_;rw[Yj,Yp,List.flatMap_nil,Xz];unfold zw4;rw[zsT (a':=zuE b [aC]) (b':=zuE o [aC]) (c':=zuE t [aC]) 64 fun m hm=>⟨by rw[zvR hB.X,Qj ⟨rfl,rfl⟩],by rw[zvR hO.X,Qj ⟨rfl,rfl⟩],by rw[zvR hT.X,Qj ⟨rfl,rfl⟩]⟩,zxC,h]
def rA(n:Int)(w:List Sp):Rw:=⟨[aC,zqL n],w⟩
def rB(w:List Sp):Rw:=⟨[zzI,zqL 1],w⟩
def l1:List Rw:=[rA 3 [⟨0,10⟩]]
def l2:List Rw:=[rA 3 [⟨0,4⟩,⟨6,10⟩],rA 5 [⟨4,6⟩]]
def l3:List Rw:=[rA 3 [⟨0,10⟩],rB [⟨0,2⟩]]
def l4:List Rw:=[rA 3 [⟨0,4⟩,⟨6,10⟩],rA 5 [⟨4,6⟩],rB [⟨0,2⟩]]
def l5:List Rw:=[rA 3 [⟨0,4⟩,⟨8,10⟩],rA 5 [⟨4,8⟩]]
def l6:List Rw:=[rA 3 [⟨0,6⟩],rA 7 [⟨6,10⟩]]
def l7:List Rw:=[rA 3 [⟨0,4⟩],rA 5 [⟨4,8⟩],rA 7 [⟨8,10⟩]]
theorem zz8:Gd l1:=zuA Qf6
theorem gz2:Gd l2:=zuA Qf6
theorem gz3:Gd l3:=zuA Qf6
theorem gz4:Gd l4:=zuA Qf6
theorem gz5:Gd l5:=zuA Qf6
theorem gz6:Gd l6:=zuA Qf6
theorem gz7:Gd l7:=zuA Qf6
theorem zoK:EPure prog G0 11 [.agg zlK.c,.agg (zbC l1).c,.agg (zbC l2).c,.agg (zbC l3).c] fun v=>v= .tup [.agg (zbC l4).c,.ts 12 []]:=by
 have k:=Three34 zz8 gz2 gz3;rw[ydH zz8 gz2 gz3 gz4 Qf6,no34 zz8 gz2 gz3 Qf6] at k;exact k
theorem hc3:EPure prog G0 11 [.agg zlK.c,.agg (zbC l1).c,.agg (zbC l1).c,.agg (zbC l3).c] fun v=>v= .tup [.agg (zbC l3).c,.ts 12 []]:=by
 have k:=Three34 zz8 zz8 gz3;rw[ydH zz8 zz8 gz3 gz3 Qf6,no34 zz8 zz8 gz3 Qf6] at k;exact k
def cf34:Cf:=⟨some ⟨0,[aC,zqL 3], -1⟩,some ⟨0,[aC,zqL 5], -1⟩,some ⟨0,[aC,zqL 7], -1⟩,[⟨6,8⟩]⟩
instance:DecidableEq Cf:=fun x y=>decidable_of_iff (x.b=y.b/\x.o=y.o/\x.t=y.t/\x.w=y.w) Qgu
theorem cu34:cuB (zuE l1 [aC]) (zuE l5 [aC]) (zuE l6 [aC]) 64=[cf34]:=Xj Qf6
theorem zxI:EPure prog G0 11 [.agg zlK.c,.agg (zbC l1).c,.agg (zbC l5).c,.agg (zbC l6).c] fun v=>v= .tup [.agg (zbC l7).c,.ts 12 [ztE 0 [aC] cf34]]:=by
 have k:=Three34 zz8 gz5 gz6;rw[ydH zz8 gz5 gz6 gz7 Qf6,one34 zz8 gz5 gz6 (fun key=>by
  have e1:zaH zlK (zbC l1) 0=[[aC]]:=rfl;have e2:zaH zlK (zbC l5) 0=[[aC],[aC]]:=rfl;have e3:zaH zlK (zbC l6) 0=[[aC],[aC]]:=rfl;rw[e1,e2,e3];simp) cu34] at k
 exact k
theorem zxD{g:FuncId}{args args':List PV}{w r:PV}(k:EPure prog G0 g args fun v=>v=w)(h:(Nat.beq args'.length args.length&&(args'.zip args).all fun y=>zw2 12 y.1 y.2)=true)(e:nU 40 w r=true):EPure prog G0 g args' fun v=>v=r:=by
 rw[<-eM 40 w r e];exact k.argsB h
end Go.AL
namespace Go.AL
open Go.Proofs Go.Proofs.Tryz
theorem zkk0:TabOk prog G0 tb0:=zc0
theorem zkk1:TabOk prog G0 tb1:=yR wN zK zkk0 tc1 Qf6 Qf6
theorem zkk2:TabOk prog G0 tb2:=yR wN zK zkk1 tc2 Qf6 Qf6
theorem zkk3:TabOk prog G0 tb3:=yR wN zK zkk2 tc3 Qf6 Qf6
theorem zkk4:TabOk prog G0 tb4:=yR wN zK zkk3 tc4 Qf6 Qf6
theorem zkk5:TabOk prog G0 tb5:=yR wN zK zkk4 tc5 Qf6 Qf6
theorem zkk6:TabOk prog G0 tb6:=yR wN zK zkk5 tc6 Qf6 Qf6
theorem zkk7:TabOk prog G0 tb7:=yR wN zK zkk6 tc7 Qf6 Qf6
theorem zkk8:TabOk prog G0 tb8:=yR wN zK zkk7 tc8 Qf6 Qf6
theorem zkk9:TabOk prog G0 tb9:=yR wN zK zkk8 tc9 Qf6 Qf6
theorem zkk10:TabOk prog G0 znI:=yR wN zK zkk9 tc10 Qf6 Qf6
theorem zkk11:TabOk prog G0 znH:=yR wN zK zkk10 tc11 Qf6 Qf6
theorem zkk12:TabOk prog G0 ydG:=yR wN zK zkk11 tc12 Qf6 Qf6
theorem zkk13:TabOk prog G0 ydF:=yR wN zK zkk12 tc13 Qf6 Qf6
theorem zkk14:TabOk prog G0 ydE:=yR wN zK zkk13 tc14 Qf6 Qf6
theorem zkk15:TabOk prog G0 ydD:=yR wN zK zkk14 tc15 Qf6 Qf6
theorem zkk16:TabOk prog G0 ydC:=yR wN zK zkk15 tc16 Qf6 Qf6
theorem zkk17:TabOk prog G0 ydB:=yR wN zK zkk16 tc17 Qf6 Qf6
theorem zkk18:TabOk prog G0 ydA:=yR wN zK zkk17 tc18 Qf6 Qf6
theorem zkk19:TabOk prog G0 yc9:=yR wN zK zkk18 tc19 Qf6 Qf6
theorem zkk20:TabOk prog G0 yc8:=yR wN zK zkk19 tc20 Qf6 Qf6
theorem zkk21:TabOk prog G0 yc7:=yR wN zK zkk20 tc21 Qf6 Qf6
theorem zkk22:TabOk prog G0 tb22:=yR wN zK zkk21 tc22 Qf6 Qf6
theorem con23:EPure prog G0 11 ta23 (fun v=>v=tr23):=zxD zoK Qf6 Qf6
theorem zkk23:TabOk prog G0 yc6:=zpK zK zkk22 con23 Qf6
theorem zkk24:TabOk prog G0 yc5:=yR wN zK zkk23 tc24 Qf6 Qf6
theorem zkk25:TabOk prog G0 yc4:=yR wN zK zkk24 tc25 Qf6 Qf6
theorem zkk26:TabOk prog G0 yc3:=yR wN zK zkk25 tc26 Qf6 Qf6
theorem zkk27:TabOk prog G0 yc2:=yR wN zK zkk26 tc27 Qf6 Qf6
theorem zkk28:TabOk prog G0 yc1:=yR wN zK zkk27 tc28 Qf6 Qf6
theorem zkk29:TabOk prog G0 yc0:=yR wN zK zkk28 tc29 Qf6 Qf6
theorem zkk30:TabOk prog G0 ycZ:=yR wN zK zkk29 tc30 Qf6 Qf6
theorem zkk31:TabOk prog G0 ycY:=yR wN zK zkk30 tc31 Qf6 Qf6
theorem zkk32:TabOk prog G0 ycX:=yR wN zK zkk31 tc32 Qf6 Qf6
theorem zkk33:TabOk prog G0 ycW:=yR wN zK zkk32 tc33 Qf6 Qf6
theorem zkk34:TabOk prog G0 ycV:=yR wN zK zkk33 tc34 Qf6 Qf6
theorem zkk35:TabOk prog G0 ycU:=yR wN zK zkk34 tc35 Qf6 Qf6
theorem zkk36:TabOk prog G0 ycT:=yR wN zK zkk35 tc36 Qf6 Qf6
theorem zkk37:TabOk prog G0 tb37:=yR wN zK zkk36 tc37 Qf6 Qf6
theorem con38:EPure prog G0 11 ta38 (fun v=>v=tr38):=zxD zxI Qf6 Qf6
theorem zkk38:TabOk prog G0 ycS:=zpK zK zkk37 con38 Qf6
theorem zkk39:TabOk prog G0 ycR:=yR wN zK zkk38 tc39 Qf6 Qf6
theorem zkk40:TabOk prog G0 ycQ:=yR wN zK zkk39 tc40 Qf6 Qf6
theorem zkk41:TabOk prog G0 ycP:=yR wN zK zkk40 tc41 Qf6 Qf6
theorem zkk42:TabOk prog G0 ycO:=yR wN zK zkk41 tc42 Qf6 Qf6
theorem zkk43:TabOk prog G0 ycN:=yR wN zK zkk42 tc43 Qf6 Qf6
theorem zkk44:TabOk prog G0 ycM:=yR wN zK zkk43 tc44 Qf6 Qf6
theorem zkk45:TabOk prog G0 ycL:=yR wN zK zkk44 tc45 Qf6 Qf6
theorem zkk46:TabOk prog G0 ycK:=yR wN zK zkk45 tc46 Qf6 Qf6
theorem zkk47:TabOk prog G0 ycJ:=yR wN zK zkk46 tc47 Qf6 Qf6
theorem zkk48:TabOk prog G0 ycI:=yR wN zK zkk47 tc48 Qf6 Qf6
theorem zkk49:TabOk prog G0 ycH:=yR wN zK zkk48 tc49 Qf6 Qf6
theorem zkk50:TabOk prog G0 ycG:=yR wN zK zkk49 tc50 Qf6 Qf6
theorem zkk51:TabOk prog G0 ycF:=yR wN zK zkk50 tc51 Qf6 Qf6
theorem zkk52:TabOk prog G0 ycE:=yR wN zK zkk51 tc52 Qf6 Qf6
theorem zkk53:TabOk prog G0 ycD:=yR wN zK zkk52 tc53 Qf6 Qf6
theorem zkk54:TabOk prog G0 ycC:=yR wN zK zkk53 tc54 Qf6 Qf6
theorem zkk55:TabOk prog G0 ycB:=yR wN zK zkk54 tc55 Qf6 Qf6
theorem zkk56:TabOk prog G0 ycA:=yR wN zK zkk55 tc56 Qf6 Qf6
theorem zkk57:TabOk prog G0 yb9:=yR wN zK zkk56 tc57 Qf6 Qf6
theorem zkk58:TabOk prog G0 yb8:=yR wN zK zkk57 tc58 Qf6 Qf6
theorem zkk59:TabOk prog G0 yb7:=yR wN zK zkk58 tc59 Qf6 Qf6
theorem zkk60:TabOk prog G0 yb6:=yR wN zK zkk59 tc60 Qf6 Qf6
theorem zkk61:TabOk prog G0 yb5:=yR wN zK zkk60 tc61 Qf6 Qf6
theorem zkk62:TabOk prog G0 yb4:=yR wN zK zkk61 tc62 Qf6 Qf6
theorem zkk63:TabOk prog G0 yb3:=yR wN zK zkk62 tc63 Qf6 Qf6
theorem zkk64:TabOk prog G0 yb2:=yR wN zK zkk63 tc64 Qf6 Qf6
theorem zkk65:TabOk prog G0 yb1:=yR wN zK zkk64 tc65 Qf6 Qf6
theorem zkk66:TabOk prog G0 yb0:=yR wN zK zkk65 tc66 Qf6 Qf6
theorem zkk67:TabOk prog G0 ybZ:=yR wN zK zkk66 tc67 Qf6 Qf6
theorem zkk68:TabOk prog G0 ybY:=yR wN zK zkk67 tc68 Qf6 Qf6
theorem zkk69:TabOk prog G0 ybX:=yR wN zK zkk68 tc69 Qf6 Qf6
theorem zkk70:TabOk prog G0 ybW:=yR wN zK zkk69 tc70 Qf6 Qf6
theorem zkk71:TabOk prog G0 ybV:=yR wN zK zkk70 tc71 Qf6 Qf6
theorem zkk72:TabOk prog G0 ybU:=yR wN zK zkk71 tc72 Qf6 Qf6
theorem zkk73:TabOk prog G0 ybT:=yR wN zK zkk72 tc73 Qf6 Qf6
theorem zkk74:TabOk prog G0 ybS:=yR wN zK zkk73 tc74 Qf6 Qf6
theorem zkk75:TabOk prog G0 ybR:=yR wN zK zkk74 tc75 Qf6 Qf6
theorem zkk76:TabOk prog G0 ybQ:=yR wN zK zkk75 tc76 Qf6 Qf6
theorem zkk77:TabOk prog G0 tb77:=yR wN zK zkk76 tc77 Qf6 Qf6
theorem con78:EPure prog G0 11 ta78 (fun v=>v=tr78):=zxD hc3 Qf6 Qf6
theorem zkk78:TabOk prog G0 ybP:=zpK zK zkk77 con78 Qf6
theorem zkk79:TabOk prog G0 ybO:=yR wN zK zkk78 tc79 Qf6 Qf6
theorem zkk80:TabOk prog G0 ybN:=yR wN zK zkk79 tc80 Qf6 Qf6
theorem zkk81:TabOk prog G0 ybM:=yR wN zK zkk80 tc81 Qf6 Qf6
theorem zkk82:TabOk prog G0 ybL:=yR wN zK zkk81 tc82 Qf6 Qf6
theorem zkk83:TabOk prog G0 ybK:=yR wN zK zkk82 tc83 Qf6 Qf6
theorem zkk84:TabOk prog G0 ybJ:=yR wN zK zkk83 tc84 Qf6 Qf6
theorem zkk85:TabOk prog G0 ybI:=yR wN zK zkk84 tc85 Qf6 Qf6
theorem zkk86:TabOk prog G0 ybH:=yR wN zK zkk85 tc86 Qf6 Qf6
theorem zkk87:TabOk prog G0 ybG:=yR wN zK zkk86 tc87 Qf6 Qf6
theorem zkk88:TabOk prog G0 ybF:=yR wN zK zkk87 tc88 Qf6 Qf6
theorem zkk89:TabOk prog G0 ybE:=yR wN zK zkk88 tc89 Qf6 Qf6
theorem zkk90:TabOk prog G0 ybD:=yR wN zK zkk89 tc90 Qf6 Qf6
theorem zkk91:TabOk prog G0 tb91:=yR wN zK zkk90 tc91 Qf6 Qf6
theorem zyE:EPure prog G0 9 [] fun v=>v= .sc (.bool true):=TabOk.pure zkk91 (show(9,[],.sc (.bool true))∈tb91 from Qe ..) Qf6
theorem PLes.app{a b c d:List PV}(h:PLes a b)(k:PLes c d):PLes (a++c) (b++d):=by
 induction h with
 |nil=>exact k
 |cons h _ ih=>exact .cons h ih
def Dec{α:Type}(n:Nat)(t:TypeId)(c:α->List PV)(K:α->Prop):Prop:= ∀(m:Nat)(x:List PV),Shp prog (m+n) t x-> ∃a,K a/\PLes x (c a)
def DecS{α:Type}(n:Nat)(ts:List TypeId)(c:α->List PV)(K:α->Prop):Prop:= ∀(m:Nat)(ps:List (List PV)),ps.length=ts.length->(∀(i:Nat)(t:TypeId)(p:List PV),ts[i]? =some t->ps[i]? =some p->Shp prog (m+n) t p)-> ∃a,K a/\PLes ps.flatten (c a)
def zcS(P:Program)(t:TypeId):Option (List TypeId):=match P.underlying t with
 |some (.struct fs)=>some (fs.toList.map (·.type))
 |_=>none
def slOf(P:Program)(t:TypeId):Option (TypeId×Nat×Bool):=match P.underlying t with
 |some (.slice e)=>some (e,P.cellsOf e,decide (1<=P.bytesOf e))
 |_=>none
theorem Dec.up{α:Type}{n k:Nat}{t:TypeId}{c:α->List PV}{K:α->Prop}(D:Dec n t c K)(h:n<=k):Dec k t c K:=fun m x hx=>D (m+(k-n)) x (by rw[show m+(k-n)+n=m+k by omega];exact hx)
theorem Dec.map{α β:Type}{n:Nat}{t:TypeId}{c:α->List PV}{K:α->Prop}{d:β->List PV}{L:β->Prop}(D:Dec n t c K)(f:α->β)(hc: ∀a,c a=d (f a))(hK: ∀a,K a->L (f a)):Dec n t d L:=fun m x hx=>by
 obtain⟨a,h,k⟩:=D m x hx;exact⟨f a,hK a h,by rw[<-hc];exact k⟩
theorem zj1{t:TypeId}{k:IntKind}(h:prog.underlying t=some (.int k)):Dec 0 t (fun z:Int=>[.sc (.int k z)]) fun z=>k.min<=z/\z<=k.max:=fun m x hx=>by
 unfold Shp at hx;rw[h] at hx;have hx: ∃z,x=[.sc (.int k z)]/\k.min<=z/\z<=k.max:=by cases m<;>exact hx
 obtain⟨z,rfl,hz⟩:=hx;exact⟨z,hz,PLes.refl _⟩
theorem zgB{t:TypeId}(h:prog.underlying t=some .bool):Dec 0 t (fun z:Bool=>[bo z]) fun _=>True:=fun m x hx=>by
 unfold Shp at hx;rw[h] at hx;have hx: ∃b,x=[.sc (.bool b)]:=by cases m<;>exact hx
 obtain⟨z,rfl⟩:=hx;exact⟨z,trivial,PLes.refl _⟩
theorem aT{t:TypeId}(h:prog.underlying t=some .string):Dec 0 t (fun z:BA=>[yQ z]) fun z=>z.size<=140737488355328:=fun m x hx=>by
 unfold Shp at hx;rw[h] at hx;have hx: ∃s:BA,x=[.sc (.string s)]/\s.size<=maxLen/\s.size<=reachBytes:=by cases m<;>exact hx
 obtain⟨z,rfl,_,hz⟩:=hx;have:reachBytes=140737488351232:=Qf5;exact⟨z,Qf3,PLes.refl _⟩
theorem zj2{α:Type}{n k:Nat}{e:TypeId}{c:α->List PV}{K:α->Prop}(D:Dec n e c K)(m:Nat): ∀els:List (List PV),(∀x∈els,Shp prog (m+n) e x)-> ∃l:List α,l.length=els.length/\(∀a∈l,K a)/\PLe (.ts k els) (.ts k (l.map c)):=fun els h=>by
 have key: ∃l:List α,l.length=els.length/\(∀a∈l,K a)/\ ∀(i:Nat)(x y:List PV),els[i]? =some x->(l.map c)[i]? =some y->PLes x y:=by
  induction els with
  |nil=>exact⟨[],rfl,Qf4,fun i x y hx=>by simp at hx⟩
  | cons x els ih=>
   obtain⟨a,ha,k⟩:=D m x (h x (Qe ..));obtain⟨l,h1,h2,h3⟩:=ih fun y hy=>h y (Qf _ hy);refine⟨a::l,by simp[h1],fun b hb=> ?_,fun i y z hy hz=> ?_⟩
   ·rcases Qw.1 hb with rfl|hb
    ·exact ha
    ·exact h2 b hb
   ·cases i with
    |zero=>simp at hy hz;subst hy;subst hz;exact k
    |succ i=>exact h3 i y z Qg5 (by simpa using hz)
 obtain⟨l,h1,h2,h3⟩:=key;exact⟨l,h1,h2,PLe.ts Qfd fun i x y hx hy=>⟨(h3 i x y hx hy).len,(h3 i x y hx hy).get⟩⟩
theorem Dec.slice{α:Type}{n k:Nat}{t e:TypeId}{c:α->List PV}{K:α->Prop}(D:Dec n e c K)(h:slOf prog t=some (e,k,true)):Dec (n+1) t (fun l:List α=>[.ts k (l.map c)]) fun l=>l.length<=140737488355328/\ ∀a∈l,K a:=fun m x hx=>by
 unfold slOf at h;split at h
 case h_2=>cases h
 rename_i e' hu;simp only[Option.some.injEq,Ys,Xm] at h;obtain⟨h1,h2,hb⟩:=h;subst h1;subst h2;rw[show m+(n+1)=(m+n)+1 by omega] at hx;unfold Shp at hx;rw[hu] at hx;have hx:x=[.nil]\/ ∃els,x=[.ts (prog.cellsOf e') els]/\els.length*prog.bytesOf e'<=reachBytes/\ ∀x∈els,Shp prog (m+n) e' x:=hx;rcases hx with rfl|⟨els,rfl,hl,hels⟩
 ·exact⟨[],⟨Yn _,Qf4⟩,.cons (PLe.nil_ts _) .nil⟩
 ·obtain⟨l,h1,h2,h3⟩:=zj2 (k:=prog.cellsOf e') D m els hels;have:reachBytes=140737488351232:=Qf5;have:=Nat.le_mul_of_pos_right els.length hb;exact⟨l,⟨Qf3,h2⟩,.cons h3 .nil⟩
theorem DecS.nil{n:Nat}:DecS n [] (fun _:Unit=>[]) fun _=>True:=fun m ps h _=>⟨(),trivial,by rw[Xi h];exact .nil⟩
theorem DecS.cons{α β:Type}{n:Nat}{t:TypeId}{ts:List TypeId}{c:α->List PV}{K:α->Prop}{d:β->List PV}{L:β->Prop}(D:Dec n t c K)(E:DecS n ts d L):DecS n (t::ts) (fun a:α×β=>c a.1++d a.2) fun a=>K a.1/\L a.2:=fun m ps h k=>by
 match ps,h with
 |p::ps,h=>
  obtain⟨a,h1,h2⟩:=D m p (k 0 t p rfl rfl);obtain⟨b,h3,h4⟩:=E m ps Qfq fun i t p ht hp=>k (i+1) t p (by simpa using ht) (by simpa using hp);exact⟨(a,b),⟨h1,h3⟩,h2.app h4⟩
theorem Dec.struct{α:Type}{n:Nat}{t:TypeId}{ts:List TypeId}{c:α->List PV}{K:α->Prop}(h:zcS prog t=some ts)(E:DecS n ts c K):Dec (n+1) t c K:=fun m x hx=>by
 unfold zcS at h;split at h
 case h_2=>cases h
 rename_i fs hu;cases h;rw[show m+(n+1)=(m+n)+1 by omega] at hx;unfold Shp at hx;rw[hu] at hx;have hx: ∃parts:List (List PV),parts.length=fs.size/\x=parts.flatten/\ ∀(i:Nat)(f:Field)(p:List PV),fs[i]? =some f->parts[i]? =some p->Shp prog (m+n) f.type p:=hx;obtain⟨ps,hl,rfl,hp⟩:=hx;refine E m ps Qfx fun i t p ht hp'=> ?_;rw[Qu] at ht;cases hf:fs.toList[i]? with
 |none=>rw[hf] at ht;cases ht
 |some f=>
  rw[hf] at ht;cases ht;exact hp i f p (by rw[<-Yi];exact hf) hp'
theorem dI:Dec 0 3 (fun z:Int=>[i64 z]) fun _=>True:=(zj1 Qf6).map id (fun _=>rfl) fun _ _=>trivial
theorem dB:Dec 0 4 (fun z:Bool=>[bo z]) fun _=>True:=zgB Qf6
theorem dS:Dec 0 9 (fun z:BA=>[yQ z]) fun z=>z.size<=140737488355328:=aT Qf6
theorem dSs:Dec 1 128 (fun l:List BA=>[rR l]) fun l=>l.length<=140737488355328/\ ∀s∈l,s.size<=140737488355328:=dS.slice Qf6
theorem dIs:Dec 1 71 (fun l:List Int=>[vF l]) fun l=>l.length<=140737488355328/\ ∀s∈l,True:=dI.slice Qf6
theorem dVl:Dec 1 168 Vl.c Vl.ok:=(Dec.struct (ts:=[3,3,9]) Qf6 (.cons dI (.cons dI (.cons dS .nil)))).map (fun a=>⟨a.1,a.2.1,a.2.2.1⟩) (fun _=>rfl) fun _ h=>h.2.2.1
theorem zs9:Dec 2 50 (fun l:List Vl=>[pH l]) fun l=>l.length<=140737488355328/\ ∀s∈l,s.ok:=dVl.slice Qf6
theorem dSp:Dec 1 54 Sp.c fun _=>True:=(Dec.struct (ts:=[3,3]) Qf6 (.cons dI (.cons dI .nil))).map (fun a=>⟨a.1,a.2.1⟩) (fun _=>rfl) fun _ _=>trivial
theorem dTm:Dec 2 315 Tm.c Tm.ok:=(Dec.struct (ts:=[9,168]) Qf6 (.cons (dS.up Qf5) (.cons dVl .nil))).map (fun a=>⟨a.1,a.2.1⟩) (fun _=>rfl) fun _ h=>⟨h.1,h.2.1⟩
theorem dTms:Dec 3 186 (fun l:List Tm=>[zrX l]) fun l=>l.length<=140737488355328/\ ∀s∈l,s.ok:=dTm.slice Qf6
theorem zeQ(n:Nat):Dec n 3 (fun z:Int=>[i64 z]) fun _=>True:=dI.up (Yn n)
theorem zm4(n:Nat):Dec n 9 (fun z:BA=>[yQ z]) fun z=>z.size<=140737488355328:=dS.up (Yn n)
theorem dLi:Dec 4 194 Li.c Li.ok:=(Dec.struct (ts:=[3,9,3,186,9,9,3,3,3]) Qf6 (.cons (zeQ 3) (.cons (zm4 3) (.cons (zeQ 3) (.cons dTms (.cons (zm4 3) (.cons (zm4 3) (.cons (zeQ 3) (.cons (zeQ 3) (.cons (zeQ 3) .nil)))))))))).map
 (fun a=>⟨a.1,a.2.1,a.2.2.1,a.2.2.2.1,a.2.2.2.2.1,a.2.2.2.2.2.1,a.2.2.2.2.2.2.1,a.2.2.2.2.2.2.2.1,a.2.2.2.2.2.2.2.2.1⟩) (fun _=>rfl) fun _ h=>⟨h.2.1,h.2.2.2.2.1,h.2.2.2.2.2.1,h.2.2.2.1.1,h.2.2.2.1.2⟩
theorem dLis:Dec 5 189 (fun l:List Li=>[.ts 9 (l.map Li.c)]) fun l=>l.length<=140737488355328/\ ∀s∈l,s.ok:=dLi.slice Qf6
theorem dEl:Dec 1 188 El.c fun e=>e.name.size<=140737488355328/\e.var.size<=140737488355328:=(Dec.struct (ts:=[3,9,9,3]) Qf6 (.cons dI (.cons dS (.cons dS (.cons dI .nil))))).map (fun a=>⟨a.1,a.2.1,a.2.2.1,a.2.2.2.1⟩) (fun _=>rfl) fun _ h=>⟨h.2.1,h.2.2.1⟩
theorem dRu:Dec 6 191 Ru.c Ru.ok:=(Dec.struct (ts:=[9,3,186,188,189,3]) Qf6 (.cons (zm4 5) (.cons (zeQ 5) (.cons (dTms.up Qf5) (.cons (dEl.up Qf5) (.cons dLis (.cons (zeQ 5) .nil))))))).map
 (fun a=>⟨a.1,a.2.1,a.2.2.1,a.2.2.2.1,a.2.2.2.2.1,a.2.2.2.2.2.1⟩) (fun _=>rfl) fun _ h=>⟨h.1,h.2.2.2.1.1,h.2.2.2.1.2,h.2.2.1.1,h.2.2.1.2,h.2.2.2.2.1.1,h.2.2.2.2.1.2⟩
theorem dRus:Dec 7 25 (fun l:List Ru=>[.ts 9 (l.map Ru.c)]) fun l=>l.length<=140737488355328/\ ∀s∈l,s.ok:=dRu.slice Qf6
theorem zzO:prog.underlying 308=some (.array 2 3):=Qf6
theorem dPr:Dec 1 308 (fun c:Int×Int=>[i64 c.1,i64 c.2]) fun _=>True:=fun m x hx=>by
 unfold Shp at hx;rw[zzO] at hx;have hx: ∃parts:List (List PV),parts.length=2/\x=parts.flatten/\ ∀p∈parts,Shp prog m 3 p:=hx;obtain⟨ps,hl,rfl,hp⟩:=hx
 match ps,hl,hp with
 | [a,b],_,hp=>
  obtain⟨u,_,h1⟩:=dI m a (hp a Qf4);obtain⟨v,_,h2⟩:=dI m b (hp b Qf4);exact⟨(u,v),trivial,h1.app (h2.app .nil)⟩
theorem dPrs:Dec 2 129 (fun l:List (Int×Int)=>[.ts 2 (l.map fun c=>[i64 c.1,i64 c.2])]) fun l=>l.length<=140737488355328/\ ∀s∈l,True:=dPr.slice Qf6
theorem dLa:Dec 3 131 La.c La.ok:=(Dec.struct (ts:=[9,128,129,3]) Qf6 (.cons (zm4 2) (.cons (dSs.up Qf5) (.cons dPrs (.cons (zeQ 2) .nil))))).map (fun a=>⟨a.1,a.2.1,a.2.2.1,a.2.2.2.1⟩) (fun _=>rfl) fun _ h=>⟨h.1,h.2.1.1,h.2.1.2,h.2.2.1.1⟩
theorem dLas:Dec 4 22 (fun l:List La=>[.ts 4 (l.map La.c)]) fun l=>l.length<=140737488355328/\ ∀s∈l,s.ok:=dLa.slice Qf6
theorem dFu:Dec 2 183 Fu.c Fu.ok:=(Dec.struct (ts:=[9,9,3,128,128,71,3]) Qf6 (.cons (zm4 1) (.cons (zm4 1) (.cons (zeQ 1) (.cons dSs (.cons dSs (.cons dIs (.cons (zeQ 1) .nil)))))))).map
 (fun a=>⟨a.1,a.2.1,a.2.2.1,a.2.2.2.1,a.2.2.2.2.1,a.2.2.2.2.2.1,a.2.2.2.2.2.2.1⟩) (fun _=>rfl) fun _ h=>⟨h.1,h.2.1,h.2.2.2.1.1,h.2.2.2.1.2,h.2.2.2.2.1.1,h.2.2.2.2.1.2,h.2.2.2.2.2.1.1⟩
theorem dFus:Dec 3 23 (fun l:List Fu=>[.ts 7 (l.map Fu.c)]) fun l=>l.length<=140737488355328/\ ∀s∈l,s.ok:=dFu.slice Qf6
theorem dPd:Dec 2 73 Pd.c Pd.ok:=(Dec.struct (ts:=[9,71,9,3,4,3,3]) Qf6 (.cons (zm4 1) (.cons dIs (.cons (zm4 1) (.cons (zeQ 1) (.cons (dB.up Qf5) (.cons (zeQ 1) (.cons (zeQ 1) .nil)))))))).map
 (fun a=>⟨a.1,a.2.1,a.2.2.1,a.2.2.2.1,a.2.2.2.2.1,a.2.2.2.2.2.1,a.2.2.2.2.2.2.1⟩) (fun _=>rfl) fun _ h=>⟨h.1,h.2.2.1,h.2.1.1⟩
theorem dPds:Dec 3 24 (fun l:List Pd=>[.ts 7 (l.map Pd.c)]) fun l=>l.length<=140737488355328/\ ∀s∈l,s.ok:=dPd.slice Qf6
theorem dPg:Dec 8 27 Pg.c Pg.ok:=(Dec.struct (ts:=[22,23,24,25]) Qf6 (.cons (dLas.up Qf5) (.cons (dFus.up Qf5) (.cons (dPds.up Qf5) (.cons dRus .nil))))).map
 (fun a=>⟨a.1,a.2.1,a.2.2.1,a.2.2.2.1⟩) (fun _=>rfl) fun _ h=>⟨h.1.1,h.1.2,h.2.1.1,h.2.1.2,h.2.2.1.1,h.2.2.1.2,h.2.2.2.1.1,h.2.2.2.1.2⟩
def Op1.raw(x:Op1):Prop:=x.args.length<=140737488355328/\ ∀a∈x.args,a.ok
def iP(l:List Op1):Prop:=l.length<=140737488355328/\ ∀x∈l,x.raw
structure Rp.raw(r:Rp):Prop where
 cl:r.cs.length<=140737488355328
 c: ∀x∈r.cs,iP x.ops
 bl:r.bs.length<=140737488355328
 b: ∀x∈r.bs,x.ok
section
variable{H:Type}{enc:TypeId×Value->H}{w:World}{base:Nat}{spare:Nat->Bool}{held:Bool}
theorem Dec.arg{α:Type}{n b0:Nat}{t:TypeId}{c:α->List PV}{K:α->Prop}(D:Dec n t c K){ts:List TypeId}(hs:zcS prog t=some ts)(hok:zg3 prog n t=true){v:Value}{d:DataW H}{ps:List MemPlace}
  (hw:Light prog t d) (hv:Value.okWide prog w .any b0 t v) (h:DataW.Trod enc prog w base spare held t v d ps): ∃a,K a/\VRel ⟨[],[],w,fun _=>False⟩ (.agg (c a)) v:=by
 unfold zcS at hs;split at hs
 case h_2=>cases hs
 rename_i fs hu;obtain⟨vs,rfl,ht,hsh⟩:=zkF (X:=fun _=>False) (fun _ h=>h) hu hok hw hv h;obtain⟨a,hK,hle⟩:=D 0 _ (by rw[Yd];exact hsh);exact⟨a,hK,ht.agg hle.len.symm fun i p q hp hq=>hle.get i p q hp hq⟩
end
end Go.AL
namespace Go.AL
open Go.Proofs Go.Proofs.Tryz
theorem dSps:Dec 2 96 (fun l:List Sp=>[kJ l]) fun l=>l.length<=140737488355328/\ ∀s∈l,True:=dSp.slice Qf6
theorem dCe:Dec 1 208 Ce.c fun _=>True:=(Dec.struct (ts:=[3,3,3]) Qf6 (.cons dI (.cons dI (.cons dI .nil)))).map (fun a=>⟨a.1,a.2.1,a.2.2.1⟩) (fun _=>rfl) fun _ _=>trivial
theorem dCes:Dec 2 160 (fun l:List Ce=>[ces l]) fun l=>l.length<=140737488355328/\ ∀s∈l,True:=dCe.slice Qf6
def Rw.raw(x:Rw):Prop:=x.args.length<=140737488355328/\(∀a∈x.args,a.s.size<=140737488355328)/\x.w.length<=140737488355328
def LRw.raw(x:LRw):Prop:=x.args.length<=140737488355328/\(∀a∈x.args,a.s.size<=140737488355328)/\x.cs.length<=140737488355328
theorem dRw:Dec 3 159 Rw.c Rw.raw:=(Dec.struct (ts:=[50,96]) Qf6 (.cons zs9 (.cons dSps .nil))).map (fun a=>⟨a.1,a.2.1⟩) (fun _=>rfl) fun _ h=>⟨h.1.1,h.1.2,h.2.1.1⟩
theorem dLRw:Dec 3 162 LRw.c LRw.raw:=(Dec.struct (ts:=[50,160]) Qf6 (.cons zs9 (.cons dCes .nil))).map (fun a=>⟨a.1,a.2.1⟩) (fun _=>rfl) fun _ h=>⟨h.1.1,h.1.2,h.2.1.1⟩
theorem dRel:Dec 4 95 (fun l:List Rw=>[uN l]) fun l=>l.length<=140737488355328/\ ∀s∈l,s.raw:=dRw.slice Qf6
theorem dLRel:Dec 4 124 (fun l:List LRw=>[vD l]) fun l=>l.length<=140737488355328/\ ∀s∈l,s.raw:=dLRw.slice Qf6
theorem dRels:Dec 5 28 (fun l:List (List Rw)=>[.ts 1 (l.map fun r=>[uN r])]) fun l=>l.length<=140737488355328/\ ∀s∈l,s.length<=140737488355328/\ ∀x∈s,x.raw:=dRel.slice Qf6
theorem zs3:Dec 5 29 (fun l:List (List LRw)=>[.ts 1 (l.map fun r=>[vD r])]) fun l=>l.length<=140737488355328/\ ∀s∈l,s.length<=140737488355328/\ ∀x∈s,x.raw:=dLRel.slice Qf6
theorem dDt:Dec 6 31 Dt.c Dt.raw:=(Dec.struct (ts:=[28,29]) Qf6 (.cons dRels (.cons zs3 .nil))).map (fun a=>⟨a.1,a.2.1⟩) (fun _=>rfl) fun _ h=>⟨h.1.1,h.2.1.1,h.1.2,h.2.1.2⟩
end Go.AL
