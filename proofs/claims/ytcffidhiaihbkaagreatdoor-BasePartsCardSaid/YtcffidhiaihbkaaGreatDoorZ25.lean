/-
  Relations: rows sorted in place: parts merged.
-/
import Derived.Test.YtcffidhiaihbkaaGreatDoorZ24
set_option linter.unusedSimpArgs false
set_option linter.unusedVariables false
set_option maxRecDepth 100000
set_option maxHeartbeats 4000000
namespace Go.AL
open Go.Proofs Go.Proofs.Tryz
@[go_sem] def URel4f225.pl:Nat→DPlan
 |5=>⟨[yA,yA,yA,yA,yB,yA,yA,yA,yB,yC,yA],vJ,0⟩
 |11=>⟨[yA,yA,yA,yA,yA,yA,yA,yA,yA,yB,yA,yA,yA,yB,yA,yC,yA,yC],yM,0⟩
 |17=>⟨[yA,yA,yA,yA,yB,yA,yA,yA,yB,yC,yA,yA],xF,0⟩
 |23=>⟨[yA,yA,yA,yA,yA,yA,yA,yA,yA,yB,yA,yA,yA,yB,yA,yC,yA,yC],yM,0⟩
 |35=>⟨[yA,yA,yA,yA,yA,yA,yB,yA,yA,yA,yB,yC,yA,yA],wS,0⟩
 |_=>⟨[],[],0⟩
theorem SymC.at {l1 l:List Rw} {a m b:Nat} (k:SymC l1 a m b) (hs:SubR l1 l) {h:Heap} {r:Nat} (hG: ∀ c,(h.set r c)[r]? =some c) (hSS: ∀ c d,(h.set r c).set r d=h.set r d):
  ECall prog G0 225 [.ms r 0 2 l.length,i64 a,i64 m,i64 b,kP] (h.set r (.var 84 (xI l1))) fun _ h'=> ∃ l',SubR l' l∧h'=h.set r (.var 84 (xI l')):=by
 have:=k (h.set r (.var 84 (xI l1))) r (hG _)
 rw [hs.1] at this
 exact this.mono (by rintro p h' ⟨l',hs',rfl⟩;exact ⟨l',hs'.trans hs,hSS _ _⟩)
end Go.AL
