/-
  Part of the walk.
-/
import Derived.Test.YtlcjmejclpilhaaGreatDoorV08
set_option linter.unusedSimpArgs false
set_option linter.unusedVariables false
set_option maxRecDepth 100000
set_option maxHeartbeats 4000000
namespace Go.AL
open Go.Proofs Go.Proofs.Tryz
theorem tc2:(xZ prog G0 uT pE 100000 tb1 60).fn 128 ta2 []=some (tr2,[]):=Qf3
theorem tc4:(xZ prog G0 uT pE 100000 tb3 60).fn 193 ta4 []=some (tr4,[]):=Qf3
theorem tc5:(xZ prog G0 uT pE 100000 tb4 60).fn 20 ta5 []=some (tr5,[]):=Qf3
theorem tc8:(xZ prog G0 uT pE 100000 tb7 60).fn 116 ta8 []=some (tr8,[]):=Qf3
theorem tc22:(xZ prog G0 uT pE 100000 yc7 60).fn 35 ta22 []=some (tr22,[]):=Qf3
theorem tc24:(xZ prog G0 uT pE 100000 yc6 60).fn 267 ta24 []=some (tr24,[]):=Qf3
theorem tc27:(xZ prog G0 uT pE 100000 yc3 60).fn 193 ta27 []=some (tr27,[]):=Qf3
theorem tc29:(xZ prog G0 uT pE 100000 yc1 60).fn 20 ta29 []=some (tr29,[]):=Qf3
theorem tc35:(xZ prog G0 uT pE 100000 ycV 60).fn 66 ta35 []=some (tr35,[]):=Qf3
theorem tc41:(xZ prog G0 uT pE 100000 ycQ 60).fn 44 ta41 []=some (tr41,[]):=Qf3
theorem tc43:(xZ prog G0 uT pE 100000 ycO 60).fn 142 ta43 []=some (tr43,[]):=Qf3
theorem tc45:(xZ prog G0 uT pE 100000 ycM 60).fn 27 ta45 []=some (tr45,[]):=Qf3
theorem tc46:(xZ prog G0 uT pE 100000 ycL 60).fn 95 ta46 []=some (tr46,[]):=Qf3
theorem tc64:(xZ prog G0 uT pE 100000 yb3 60).fn 142 ta64 []=some (tr64,[]):=Qf3
theorem tc65:(xZ prog G0 uT pE 100000 yb2 60).fn 142 ta65 []=some (tr65,[]):=Qf3
theorem tc67:(xZ prog G0 uT pE 100000 yb0 60).fn 95 ta67 []=some (tr67,[]):=Qf3
theorem tc68:(xZ prog G0 uT pE 100000 ybZ 60).fn 173 ta68 []=some (tr68,[]):=Qf3
theorem tc79:(xZ prog G0 uT pE 100000 ybP 60).fn 27 ta79 []=some (tr79,[]):=Qf3
theorem tc85:(xZ prog G0 uT pE 100000 ybJ 60).fn 117 ta85 []=some (tr85,[]):=Qf3
end Go.AL
