/-
  Part of the walk.
-/
import Derived.Test.YtlcjmejclpilhaaGreatDoorV08
set_option linter.unusedSimpArgs false
set_option linter.unusedVariables false
set_option maxRecDepth 100000
set_option maxHeartbeats 4000000
namespace Go.AL
open Go.Proofs Go.Proofs.Tryz
theorem tc1:(xZ prog G0 uT pE 100000 tb0 60).fn 312 ta1 []=some (tr1,[]):=Qf3
theorem tc6:(xZ prog G0 uT pE 100000 tb5 60).fn 35 ta6 []=some (tr6,[]):=Qf3
theorem tc9:(xZ prog G0 uT pE 100000 tb8 60).fn 192 ta9 []=some (tr9,[]):=Qf3
theorem tc16:(xZ prog G0 uT pE 100000 ydD 60).fn 137 ta16 []=some (tr16,[]):=Qf3
theorem tc19:(xZ prog G0 uT pE 100000 ydA 60).fn 35 ta19 []=some (tr19,[]):=Qf3
theorem tc20:(xZ prog G0 uT pE 100000 yc9 60).fn 193 ta20 []=some (tr20,[]):=Qf3
theorem tc25:(xZ prog G0 uT pE 100000 yc5 60).fn 257 ta25 []=some (tr25,[]):=Qf3
theorem tc28:(xZ prog G0 uT pE 100000 yc2 60).fn 66 ta28 []=some (tr28,[]):=Qf3
theorem tc39:(xZ prog G0 uT pE 100000 ycS 60).fn 214 ta39 []=some (tr39,[]):=Qf3
theorem tc49:(xZ prog G0 uT pE 100000 ycI 60).fn 95 ta49 []=some (tr49,[]):=Qf3
theorem tc59:(xZ prog G0 uT pE 100000 yb8 60).fn 18 ta59 []=some (tr59,[]):=Qf3
theorem tc60:(xZ prog G0 uT pE 100000 yb7 60).fn 40 ta60 []=some (tr60,[]):=Qf3
theorem tc72:(xZ prog G0 uT pE 100000 ybV 60).fn 18 ta72 []=some (tr72,[]):=Qf3
theorem tc82:(xZ prog G0 uT pE 100000 ybM 60).fn 16 ta82 []=some (tr82,[]):=Qf3
theorem tc88:(xZ prog G0 uT pE 100000 ybG 60).fn 23 ta88 []=some (tr88,[]):=Qf3
theorem tc89:(xZ prog G0 uT pE 100000 ybF 60).fn 24 ta89 []=some (tr89,[]):=Qf3
theorem tc90:(xZ prog G0 uT pE 100000 ybE 60).fn 24 ta90 []=some (tr90,[]):=Qf3
end Go.AL
