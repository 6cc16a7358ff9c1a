/-
  Relations: rows sorted in place: parts merged, short ones.
-/
import Derived.Test.YtcffidhiaihbkaaGreatDoorX19
set_option linter.unusedSimpArgs false
set_option linter.unusedVariables false
set_option maxRecDepth 100000
set_option maxHeartbeats 4000000
namespace Go.AL
open Go.Proofs Go.Proofs.Tryz
@[go_sem] def URel1f224.pl:Nat→DPlan
 |4=>⟨[yA,yA,yA,yA,yA,yA,yA,yA,yB,yA,yA,yA,yA,yB,yC,yA,yA],wR,0⟩
 |6=>⟨[yA,yA,yA,yA,yA,yA,yA,yA,yA,yB,yA,yA,yA,yB,yA,yC,yA,yC],yM,0⟩
 |_=>⟨[],[],0⟩
def xI (l:List Rw):List PV:=(l.map Rw.c).flatten
theorem tR (x:Rw) (l:List Rw):xI (x::l)=pH x.args::kJ x.w::xI l:=rfl
theorem xK (l:List Rw):(xI l).length=l.length*2:=by
 induction l with
 |nil=>rfl
 |cons x l ih=>rw [tR];simp only [List.length_cons,ih];omega
theorem xG (l:List Rw) (i:Nat) (h:i<l.length):List.take 2 (List.drop (i*2) (xI l))=[pH l[i].args,kJ l[i].w]:=by
 induction l generalizing i with
 |nil=>cases h
 | cons x l ih=>
  cases i with
  |zero=>rfl
  |succ i=>
   rw [tR,show (i+1)*2=i*2+1+1 by omega,List.drop_succ_cons,List.drop_succ_cons,ih i (by simpa using h)]
   rfl
structure Rw.ok (r:Rw):Prop where
 al:r.args.length≤140737488355328
 a: ∀ v∈r.args,v.s.size≤140737488355328
theorem uS (a b:Rw) (ha:a.ok) (hb:b.ok):EPure prog G0 68 [.agg a.c,.agg b.c] fun p=>p=i64 (sD a.args b.args):=by
 refine ECall.cut (R:=fun p _=>p=i64 (sD a.args b.args)) (pv func68 10 false (by kernel_rfl) rfl rfl ?_) (by rintro p h rfl;rfl)
 refine g2 ?_
 refine ge ?_
 (refine Go.AL.g1 ?_;refine zC ((zb6 a.args b.args ha.al hb.al ha.a hb.a).call zK (by simp) _) ?_;intro p2 h2 hr2;refine Go.AL.g2 ?_)
 obtain ⟨rfl,rfl⟩:=hr2
 refine ge ?_
 rfl
def SubR (l' l:List Rw):Prop:=l'.length=l.length∧ ∀ x∈l',x∈l
theorem SubR.refl (l:List Rw):SubR l l:=⟨rfl,fun _ h=>h⟩
abbrev kP:PV:= .fn (.func 68) [] []
end Go.AL
namespace Go.AL
open Go.Proofs Go.Proofs.Tryz
@[go_sem] def URel2f227.pl:Nat→DPlan
 |3=>⟨[yA,yA,yA,yA,yA,yA,yA,yA,yA,yA,yA,yA,yA,yB,yA,yA,yA,yA,yA,yB,yA,yC,yA,yC],iot24,0⟩
 |_=>⟨[],[],0⟩
theorem zeR {n:Nat} (h:n≤140737488355328):IntKind.i64.wrap (n:Int)=n:=xM (by omega) (by omega)
theorem SubR.trans {a b c:List Rw} (h:SubR a b) (k:SubR b c):SubR a c:=⟨h.1.trans k.1,fun x hx=>k.2 x (h.2 x hx)⟩
end Go.AL
namespace Go.AL
open Go.Proofs Go.Proofs.Tryz
@[go_sem] def URel3f225.pl:Nat→DPlan
 |5=>⟨[yA,yA,yA,yA,yB,yA,yA,yA,yB,yC,yA],vJ,0⟩
 |11=>⟨[yA,yA,yA,yA,yA,yA,yA,yA,yA,yB,yA,yA,yA,yB,yA,yC,yA,yC],yM,0⟩
 |17=>⟨[yA,yA,yA,yA,yB,yA,yA,yA,yB,yC,yA,yA],xF,0⟩
 |23=>⟨[yA,yA,yA,yA,yA,yA,yA,yA,yA,yB,yA,yA,yA,yB,yA,yC,yA,yC],yM,0⟩
 |35=>⟨[yA,yA,yA,yA,yA,yA,yB,yA,yA,yA,yB,yC,yA,yA],wS,0⟩
 |_=>⟨[],[],0⟩
theorem iS:(prog.underlying 3).isSome=true:=by kernel_rfl
theorem rZ:(prog.underlying 230).isSome=true:=by kernel_rfl
theorem zeU (n:Nat):((n:Nat):Int) / 2 ^ min 1 64=((n / 2:Nat):Int):=by
 rw [show min 1 64=1 from rfl,Int.pow_succ,Int.pow_zero,Int.one_mul];norm_cast
def SymC (l:List Rw) (a m b:Nat):Prop:= ∀ (h:Heap) (r:Nat) (hr:h[r]? =some (.var 84 (xI l))),
  ECall prog G0 225 [.ms r 0 2 l.length,i64 a,i64 m,i64 b,kP] h fun _ h'=> ∃ l',SubR l' l∧h'=h.set r (.var 84 (xI l'))
end Go.AL
