/-
  Part of the walk.
-/
import Derived.Test.YtlcjmejclpilhaaGreatDoorV08
set_option linter.unusedSimpArgs false
set_option linter.unusedVariables false
set_option maxRecDepth 100000
set_option maxHeartbeats 4000000
namespace Go.AL
open Go.Proofs Go.Proofs.Tryz
theorem tc18:(xZ prog G0 uT pE 100000 ydB 60).fn 20 ta18 []=some (tr18,[]):=Qf3
theorem tc26:(xZ prog G0 uT pE 100000 yc4 60).fn 192 ta26 []=some (tr26,[]):=Qf3
theorem tc31:(xZ prog G0 uT pE 100000 ycZ 60).fn 267 ta31 []=some (tr31,[]):=Qf3
theorem tc34:(xZ prog G0 uT pE 100000 ycW 60).fn 193 ta34 []=some (tr34,[]):=Qf3
theorem tc37:(xZ prog G0 uT pE 100000 ycT 60).fn 35 ta37 []=some (tr37,[]):=Qf3
theorem tc40:(xZ prog G0 uT pE 100000 ycR 60).fn 100 ta40 []=some (tr40,[]):=Qf3
theorem tc42:(xZ prog G0 uT pE 100000 ycP 60).fn 142 ta42 []=some (tr42,[]):=Qf3
theorem tc44:(xZ prog G0 uT pE 100000 ycN 60).fn 80 ta44 []=some (tr44,[]):=Qf3
theorem tc47:(xZ prog G0 uT pE 100000 ycK 60).fn 142 ta47 []=some (tr47,[]):=Qf3
theorem tc48:(xZ prog G0 uT pE 100000 ycJ 60).fn 27 ta48 []=some (tr48,[]):=Qf3
theorem tc56:(xZ prog G0 uT pE 100000 ycB 60).fn 95 ta56 []=some (tr56,[]):=Qf3
theorem tc61:(xZ prog G0 uT pE 100000 yb6 60).fn 209 ta61 []=some (tr61,[]):=Qf3
theorem tc66:(xZ prog G0 uT pE 100000 yb1 60).fn 60 ta66 []=some (tr66,[]):=Qf3
theorem tc81:(xZ prog G0 uT pE 100000 ybN 60).fn 173 ta81 []=some (tr81,[]):=Qf3
theorem tc84:(xZ prog G0 uT pE 100000 ybK 60).fn 173 ta84 []=some (tr84,[]):=Qf3
theorem tc86:(xZ prog G0 uT pE 100000 ybI 60).fn 18 ta86 []=some (tr86,[]):=Qf3
theorem tc91:(xZ prog G0 uT pE 100000 ybD 60).fn 9 ta91 []=some (tr91,[]):=Qf3
end Go.AL
