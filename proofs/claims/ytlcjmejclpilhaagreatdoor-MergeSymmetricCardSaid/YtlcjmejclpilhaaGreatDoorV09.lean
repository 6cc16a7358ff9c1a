/-
  Part of the walk.
-/
import Derived.Test.YtlcjmejclpilhaaGreatDoorV08
set_option linter.unusedSimpArgs false
set_option linter.unusedVariables false
set_option maxRecDepth 100000
set_option maxHeartbeats 4000000
namespace Go.AL
open Go.Proofs Go.Proofs.Tryz
theorem tc3:(xZ prog G0 uT pE 100000 tb2 60).fn 268 ta3 []=some (tr3,[]):=Qf3
theorem tc12:(xZ prog G0 uT pE 100000 znH 60).fn 267 ta12 []=some (tr12,[]):=Qf3
theorem tc13:(xZ prog G0 uT pE 100000 ydG 60).fn 257 ta13 []=some (tr13,[]):=Qf3
theorem tc21:(xZ prog G0 uT pE 100000 yc8 60).fn 20 ta21 []=some (tr21,[]):=Qf3
theorem tc36:(xZ prog G0 uT pE 100000 ycU 60).fn 20 ta36 []=some (tr36,[]):=Qf3
theorem tc52:(xZ prog G0 uT pE 100000 ycF 60).fn 16 ta52 []=some (tr52,[]):=Qf3
theorem tc53:(xZ prog G0 uT pE 100000 ycE 60).fn 209 ta53 []=some (tr53,[]):=Qf3
theorem tc54:(xZ prog G0 uT pE 100000 ycD 60).fn 27 ta54 []=some (tr54,[]):=Qf3
theorem tc55:(xZ prog G0 uT pE 100000 ycC 60).fn 60 ta55 []=some (tr55,[]):=Qf3
theorem tc57:(xZ prog G0 uT pE 100000 ycA 60).fn 173 ta57 []=some (tr57,[]):=Qf3
theorem tc63:(xZ prog G0 uT pE 100000 yb4 60).fn 18 ta63 []=some (tr63,[]):=Qf3
theorem tc70:(xZ prog G0 uT pE 100000 ybX 60).fn 18 ta70 []=some (tr70,[]):=Qf3
theorem tc71:(xZ prog G0 uT pE 100000 ybW 60).fn 40 ta71 []=some (tr71,[]):=Qf3
theorem tc74:(xZ prog G0 uT pE 100000 ybT 60).fn 23 ta74 []=some (tr74,[]):=Qf3
theorem tc75:(xZ prog G0 uT pE 100000 ybS 60).fn 26 ta75 []=some (tr75,[]):=Qf3
theorem tc83:(xZ prog G0 uT pE 100000 ybL 60).fn 60 ta83 []=some (tr83,[]):=Qf3
theorem tc87:(xZ prog G0 uT pE 100000 ybH 60).fn 24 ta87 []=some (tr87,[]):=Qf3
end Go.AL
