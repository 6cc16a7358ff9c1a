/-
  Part of the walk.
-/
import Derived.Test.YtlcjmejclpilhaaGreatDoorV08
set_option linter.unusedSimpArgs false
set_option linter.unusedVariables false
set_option maxRecDepth 100000
set_option maxHeartbeats 4000000
namespace Go.AL
open Go.Proofs Go.Proofs.Tryz
theorem tc7:(xZ prog G0 uT pE 100000 tb6 60).fn 255 ta7 []=some (tr7,[]):=Qf3
theorem tc10:(xZ prog G0 uT pE 100000 tb9 60).fn 180 ta10 []=some (tr10,[]):=Qf3
theorem tc11:(xZ prog G0 uT pE 100000 znI 60).fn 183 zs7 []=some (zs6,[]):=Qf3
theorem tc14:(xZ prog G0 uT pE 100000 ydF 60).fn 192 ta14 []=some (tr14,[]):=Qf3
theorem tc15:(xZ prog G0 uT pE 100000 ydE 60).fn 193 ta15 []=some (tr15,[]):=Qf3
theorem tc17:(xZ prog G0 uT pE 100000 ydC 60).fn 66 ta17 []=some (tr17,[]):=Qf3
theorem tc30:(xZ prog G0 uT pE 100000 yc0 60).fn 35 ta30 []=some (tr30,[]):=Qf3
theorem tc32:(xZ prog G0 uT pE 100000 ycY 60).fn 257 ta32 []=some (tr32,[]):=Qf3
theorem tc33:(xZ prog G0 uT pE 100000 ycX 60).fn 192 ta33 []=some (tr33,[]):=Qf3
theorem tc50:(xZ prog G0 uT pE 100000 ycH 60).fn 173 ta50 []=some (tr50,[]):=Qf3
theorem tc51:(xZ prog G0 uT pE 100000 ycG 60).fn 173 ta51 []=some (tr51,[]):=Qf3
theorem tc58:(xZ prog G0 uT pE 100000 yb9 60).fn 117 ta58 []=some (tr58,[]):=Qf3
theorem tc62:(xZ prog G0 uT pE 100000 yb5 60).fn 42 ta62 []=some (tr62,[]):=Qf3
theorem tc69:(xZ prog G0 uT pE 100000 ybY 60).fn 117 ta69 []=some (tr69,[]):=Qf3
theorem tc73:(xZ prog G0 uT pE 100000 ybU 60).fn 67 ta73 []=some (tr73,[]):=Qf3
theorem tc76:(xZ prog G0 uT pE 100000 ybR 60).fn 25 ta76 []=some (tr76,[]):=Qf3
theorem tc77:(xZ prog G0 uT pE 100000 ybQ 60).fn 25 ta77 []=some (tr77,[]):=Qf3
theorem tc80:(xZ prog G0 uT pE 100000 ybO 60).fn 95 ta80 []=some (tr80,[]):=Qf3
end Go.AL
