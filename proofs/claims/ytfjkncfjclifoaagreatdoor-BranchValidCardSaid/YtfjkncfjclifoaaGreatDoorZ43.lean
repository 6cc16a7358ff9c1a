/-
  The forerunner of all laws: a closed run, cut into a table of calls.
-/
import Derived.Test.YtfjkncfjclifoaaGreatDoorZ42
set_option linter.unusedSimpArgs false
set_option linter.unusedVariables false
set_option maxRecDepth 100000
set_option maxHeartbeats 4000000
namespace Go.AL
open Go.Proofs Go.Proofs.Tryz
def bs (l:List Nat):PV:= .sc (.string ⟨(l.map UInt8.ofNat).toArray⟩)
def zhU:List Nat:=[32,33,35,36,91,118,119,122,123,124,218]
def uT:FuncId→Bool:=fun f=>[37,85,67,192,133].contains f||zhU.contains f
def pE:FuncId→Bool:=fun f=>[23].contains f||zhU.contains f
def tb0:Tab:=[]
theorem tk0:TabOk prog G0 tb0:=zc0
def ta1:List PV:=[(.agg [.nil,.nil,(.tc 7 [[(bs [112]),(.tc 1 [[(.sc (.int .i64 (1)))]]),(bs []),(.sc (.int .i64 (-1))),(.sc (.bool true)),(.sc (.int .i64 (1))),(.sc (.int .i64 (0)))]]),.nil])]
def tr1:PV:=(.sc (.bool true))
theorem tc1:(xZ prog G0 uT pE 100000 tb0 60).fn 84 ta1 []=some (tr1,[]):=by kernel_rfl
def tb1:Tab:=(84,ta1,tr1)::tb0
theorem tk1:TabOk prog G0 tb1:=yR wN zK tk0 tc1 (by kernel_rfl) (by kernel_rfl)
def ta2:List PV:=[(.agg [(bs [109,97,105,110]),(.tc 1 [[(bs [120])]]),.nil,(.sc (.int .i64 (0)))])]
def tr2:PV:=(.tup [(.agg [(.sc (.int .u8 (1))),(.sc (.int .u8 (0))),(.sc (.int .u8 (0))),(.sc (.int .u8 (0))),(.sc (.int .u8 (0))),(.sc (.int .u8 (0))),(.sc (.int .u8 (0))),(.sc (.int .u8 (0)))]),(.sc (.int .i64 (0)))])
theorem tc2:(xZ prog G0 uT pE 100000 tb1 60).fn 102 ta2 []=some (tr2,[]):=by kernel_rfl
def tb2:Tab:=(102,ta2,tr2)::tb1
theorem tk2:TabOk prog G0 tb2:=yR wN zK tk1 tc2 (by kernel_rfl) (by kernel_rfl)
def ta3:List PV:=[(.agg [.nil,.nil,(.tc 7 [[(bs [112]),(.tc 1 [[(.sc (.int .i64 (1)))]]),(bs []),(.sc (.int .i64 (-1))),(.sc (.bool true)),(.sc (.int .i64 (1))),(.sc (.int .i64 (0)))]]),.nil]),(.agg [(.ts 1 [[.nil]]),(.ts 1 [[.nil]])])]
def tr3:PV:=(.sc (.bool true))
theorem tc3:(xZ prog G0 uT pE 100000 tb2 60).fn 18 ta3 []=some (tr3,[]):=by kernel_rfl
def tb3:Tab:=(18,ta3,tr3)::tb2
theorem tk3:TabOk prog G0 tb3:=yR wN zK tk2 tc3 (by kernel_rfl) (by kernel_rfl)
def ta4:List PV:=[(.agg [.nil,.nil,(.tc 7 [[(bs [112]),(.tc 1 [[(.sc (.int .i64 (1)))]]),(bs []),(.sc (.int .i64 (-1))),(.sc (.bool true)),(.sc (.int .i64 (1))),(.sc (.int .i64 (0)))]]),.nil]),(.agg [(.sc (.int .i64 (0))),(.tc 3 [[(.sc (.int .i64 (1))),(.sc (.int .i64 (1))),(bs [])]]),(.sc (.int .i64 (-1)))])]
def tr4:PV:=(.sc (.bool true))
theorem tc4:(xZ prog G0 uT pE 100000 tb3 60).fn 52 ta4 []=some (tr4,[]):=by kernel_rfl
def tb4:Tab:=(52,ta4,tr4)::tb3
theorem tk4:TabOk prog G0 tb4:=yR wN zK tk3 tc4 (by kernel_rfl) (by kernel_rfl)
def ta5:List PV:=[(.tc 2 [[(.tc 3 [[(.sc (.int .i64 (1))),(.sc (.int .i64 (1))),(bs [])]]),(.tc 2 [[(.sc (.int .i64 (0))),(.sc (.int .i64 (10)))]])]])]
def tr5:PV:=(.ts 2 [[(.ts 3 [[(.sc (.int .i64 (1))),(.sc (.int .i64 (1))),(bs [])]]),(.ts 2 [[(.sc (.int .i64 (0))),(.sc (.int .i64 (10)))]])]])
theorem tc5:(xZ prog G0 uT pE 100000 tb4 60).fn 193 ta5 []=some (tr5,[]):=by kernel_rfl
def tb5:Tab:=(193,ta5,tr5)::tb4
theorem tk5:TabOk prog G0 tb5:=yR wN zK tk4 tc5 (by kernel_rfl) (by kernel_rfl)
def ta6:List PV:=[.nil,(.tc 2 [[(.tc 3 [[(.sc (.int .i64 (1))),(.sc (.int .i64 (1))),(bs [])]]),(.tc 2 [[(.sc (.int .i64 (0))),(.sc (.int .i64 (10)))]])]]),(.fn (.func 148) [] [])]
def tr6:PV:=(.ts 2 [[(.ts 3 [[(.sc (.int .i64 (1))),(.sc (.int .i64 (1))),(bs [])]]),(.ts 2 [[(.sc (.int .i64 (0))),(.sc (.int .i64 (10)))]])]])
theorem tc6:(xZ prog G0 uT pE 100000 tb5 60).fn 146 ta6 []=some (tr6,[]):=by kernel_rfl
def tb6:Tab:=(146,ta6,tr6)::tb5
theorem tk6:TabOk prog G0 tb6:=yR wN zK tk5 tc6 (by kernel_rfl) (by kernel_rfl)
def ta7:List PV:=[(.agg [(bs [116,101,115,116]),(.tc 1 [[(bs [120])]]),.nil,(.sc (.int .i64 (0)))])]
def tr7:PV:=(.tup [(.agg [(.sc (.int .u8 (1))),(.sc (.int .u8 (0))),(.sc (.int .u8 (0))),(.sc (.int .u8 (0))),(.sc (.int .u8 (0))),(.sc (.int .u8 (0))),(.sc (.int .u8 (0))),(.sc (.int .u8 (0)))]),(.sc (.int .i64 (0)))])
theorem tc7:(xZ prog G0 uT pE 100000 tb6 60).fn 102 ta7 []=some (tr7,[]):=by kernel_rfl
def tb7:Tab:=(102,ta7,tr7)::tb6
theorem tk7:TabOk prog G0 tb7:=yR wN zK tk6 tc7 (by kernel_rfl) (by kernel_rfl)
def ta8:List PV:=[(.agg [.nil,.nil,(.tc 7 [[(bs [112]),(.tc 1 [[(.sc (.int .i64 (1)))]]),(bs []),(.sc (.int .i64 (-1))),(.sc (.bool true)),(.sc (.int .i64 (1))),(.sc (.int .i64 (0)))]]),.nil]),(.agg [(.ts 1 [[.nil]]),(.ts 1 [[.nil]])]),(.ts 6 [[(.sc (.int .i64 (1))),(.sc (.int .i64 (0))),(.tc 3 [[(.sc (.int .i64 (1))),(.sc (.int .i64 (1))),(bs [])]]),(.sc (.int .i64 (-1))),(.sc (.int .i64 (0))),(.sc (.int .i64 (10)))]])]
def tr8:PV:=(.tup [(.agg [(.ts 1 [[(.ts 2 [[(.ts 3 [[(.sc (.int .i64 (1))),(.sc (.int .i64 (1))),(bs [])]]),(.ts 2 [[(.sc (.int .i64 (0))),(.sc (.int .i64 (10)))]])]])]]),(.ts 1 [[.nil]])]),(.sc (.int .i64 (0)))])
theorem tc8:(xZ prog G0 uT pE 100000 tb7 60).fn 15 ta8 []=some (tr8,[]):=by kernel_rfl
def tb8:Tab:=(15,ta8,tr8)::tb7
theorem tk8:TabOk prog G0 tb8:=yR wN zK tk7 tc8 (by kernel_rfl) (by kernel_rfl)
def ta9:List PV:=[(.tc 1 [[(.sc (.int .i64 (1)))]]),(.ts 2 [[(.ts 3 [[(.sc (.int .i64 (1))),(.sc (.int .i64 (1))),(bs [])]]),(.ts 2 [[(.sc (.int .i64 (0))),(.sc (.int .i64 (10)))]])]])]
def tr9:PV:=(.sc (.bool true))
theorem tc9:(xZ prog G0 uT pE 100000 tb8 60).fn 43 ta9 []=some (tr9,[]):=by kernel_rfl
def tb9:Tab:=(43,ta9,tr9)::tb8
theorem tk9:TabOk prog G0 tb9:=yR wN zK tk8 tc9 (by kernel_rfl) (by kernel_rfl)
def ta10:List PV:=[(.agg [.nil,.nil,(.tc 7 [[(bs [112]),(.tc 1 [[(.sc (.int .i64 (1)))]]),(bs []),(.sc (.int .i64 (-1))),(.sc (.bool true)),(.sc (.int .i64 (1))),(.sc (.int .i64 (0)))]]),.nil]),(.agg [(.ts 1 [[(.ts 2 [[(.ts 3 [[(.sc (.int .i64 (1))),(.sc (.int .i64 (1))),(bs [])]]),(.ts 2 [[(.sc (.int .i64 (0))),(.sc (.int .i64 (10)))]])]])]]),(.ts 1 [[.nil]])])]
def tr10:PV:=(.sc (.bool true))
theorem tc10:(xZ prog G0 uT pE 100000 tb9 60).fn 18 ta10 []=some (tr10,[]):=by kernel_rfl
def znI:Tab:=(18,ta10,tr10)::tb9
theorem tk10:TabOk prog G0 znI:=yR wN zK tk9 tc10 (by kernel_rfl) (by kernel_rfl)
def ta11:List PV:=[(.agg [.nil,.nil,(.tc 7 [[(bs [112]),(.tc 1 [[(.sc (.int .i64 (1)))]]),(bs []),(.sc (.int .i64 (-1))),(.sc (.bool true)),(.sc (.int .i64 (1))),(.sc (.int .i64 (0)))]]),.nil]),(.agg [(.sc (.int .i64 (0))),(.tc 3 [[(.sc (.int .i64 (1))),(.sc (.int .i64 (2))),(bs [])]]),(.sc (.int .i64 (-1)))])]
def tr11:PV:=(.sc (.bool true))
theorem tc11:(xZ prog G0 uT pE 100000 znI 60).fn 52 ta11 []=some (tr11,[]):=by kernel_rfl
def znH:Tab:=(52,ta11,tr11)::znI
theorem tk11:TabOk prog G0 znH:=yR wN zK tk10 tc11 (by kernel_rfl) (by kernel_rfl)
def ta12:List PV:=[(.ts 2 [[(.ts 3 [[(.sc (.int .i64 (1))),(.sc (.int .i64 (1))),(bs [])]]),(.ts 2 [[(.sc (.int .i64 (0))),(.sc (.int .i64 (10)))]])]])]
def tr12:PV:=(.ts 2 [[(.ts 3 [[(.sc (.int .i64 (1))),(.sc (.int .i64 (1))),(bs [])]]),(.ts 2 [[(.sc (.int .i64 (0))),(.sc (.int .i64 (10)))]])]])
theorem tc12:(xZ prog G0 uT pE 100000 znH 60).fn 193 ta12 []=some (tr12,[]):=by kernel_rfl
def znG:Tab:=(193,ta12,tr12)::znH
theorem tk12:TabOk prog G0 znG:=yR wN zK tk11 tc12 (by kernel_rfl) (by kernel_rfl)
def ta13:List PV:=[(.tc 2 [[(.tc 3 [[(.sc (.int .i64 (1))),(.sc (.int .i64 (2))),(bs [])]]),(.tc 2 [[(.sc (.int .i64 (0))),(.sc (.int .i64 (10)))]])]])]
def tr13:PV:=(.ts 2 [[(.ts 3 [[(.sc (.int .i64 (1))),(.sc (.int .i64 (2))),(bs [])]]),(.ts 2 [[(.sc (.int .i64 (0))),(.sc (.int .i64 (10)))]])]])
theorem tc13:(xZ prog G0 uT pE 100000 znG 60).fn 193 ta13 []=some (tr13,[]):=by kernel_rfl
def znF:Tab:=(193,ta13,tr13)::znG
theorem tk13:TabOk prog G0 znF:=yR wN zK tk12 tc13 (by kernel_rfl) (by kernel_rfl)
def ta14:List PV:=[(.ts 2 [[(.ts 3 [[(.sc (.int .i64 (1))),(.sc (.int .i64 (1))),(bs [])]]),(.ts 2 [[(.sc (.int .i64 (0))),(.sc (.int .i64 (10)))]])]]),(.tc 2 [[(.tc 3 [[(.sc (.int .i64 (1))),(.sc (.int .i64 (2))),(bs [])]]),(.tc 2 [[(.sc (.int .i64 (0))),(.sc (.int .i64 (10)))]])]]),(.fn (.func 148) [] [])]
def tr14:PV:=(.ts 2 [[(.ts 3 [[(.sc (.int .i64 (1))),(.sc (.int .i64 (1))),(bs [])]]),(.ts 2 [[(.sc (.int .i64 (0))),(.sc (.int .i64 (10)))]])],[(.ts 3 [[(.sc (.int .i64 (1))),(.sc (.int .i64 (2))),(bs [])]]),(.ts 2 [[(.sc (.int .i64 (0))),(.sc (.int .i64 (10)))]])]])
theorem tc14:(xZ prog G0 uT pE 100000 znF 60).fn 146 ta14 []=some (tr14,[]):=by kernel_rfl
def znE:Tab:=(146,ta14,tr14)::znF
theorem tk14:TabOk prog G0 znE:=yR wN zK tk13 tc14 (by kernel_rfl) (by kernel_rfl)
def ta15:List PV:=[(.agg [.nil,.nil,(.tc 7 [[(bs [112]),(.tc 1 [[(.sc (.int .i64 (1)))]]),(bs []),(.sc (.int .i64 (-1))),(.sc (.bool true)),(.sc (.int .i64 (1))),(.sc (.int .i64 (0)))]]),.nil]),(.agg [(.ts 1 [[(.ts 2 [[(.ts 3 [[(.sc (.int .i64 (1))),(.sc (.int .i64 (1))),(bs [])]]),(.ts 2 [[(.sc (.int .i64 (0))),(.sc (.int .i64 (10)))]])]])]]),(.ts 1 [[.nil]])]),(.ts 6 [[(.sc (.int .i64 (1))),(.sc (.int .i64 (0))),(.tc 3 [[(.sc (.int .i64 (1))),(.sc (.int .i64 (2))),(bs [])]]),(.sc (.int .i64 (-1))),(.sc (.int .i64 (0))),(.sc (.int .i64 (10)))]])]
def tr15:PV:=(.tup [(.agg [(.ts 1 [[(.ts 2 [[(.ts 3 [[(.sc (.int .i64 (1))),(.sc (.int .i64 (1))),(bs [])]]),(.ts 2 [[(.sc (.int .i64 (0))),(.sc (.int .i64 (10)))]])],[(.ts 3 [[(.sc (.int .i64 (1))),(.sc (.int .i64 (2))),(bs [])]]),(.ts 2 [[(.sc (.int .i64 (0))),(.sc (.int .i64 (10)))]])]])]]),(.ts 1 [[.nil]])]),(.sc (.int .i64 (0)))])
theorem tc15:(xZ prog G0 uT pE 100000 znE 60).fn 15 ta15 []=some (tr15,[]):=by kernel_rfl
def znD:Tab:=(15,ta15,tr15)::znE
theorem tk15:TabOk prog G0 znD:=yR wN zK tk14 tc15 (by kernel_rfl) (by kernel_rfl)
def ta16:List PV:=[(.agg [.nil,.nil,(.tc 7 [[(bs [112]),(.tc 1 [[(.sc (.int .i64 (1)))]]),(bs []),(.sc (.int .i64 (-1))),(.sc (.bool true)),(.sc (.int .i64 (1))),(.sc (.int .i64 (0)))]]),.nil]),(.agg [(.sc (.int .i64 (0))),(.tc 3 [[(.sc (.int .i64 (1))),(.sc (.int .i64 (3))),(bs [])]]),(.sc (.int .i64 (-1)))])]
def tr16:PV:=(.sc (.bool true))
theorem tc16:(xZ prog G0 uT pE 100000 znD 60).fn 52 ta16 []=some (tr16,[]):=by kernel_rfl
def znC:Tab:=(52,ta16,tr16)::znD
theorem tk16:TabOk prog G0 znC:=yR wN zK tk15 tc16 (by kernel_rfl) (by kernel_rfl)
def ta17:List PV:=[(.tc 2 [[(.tc 3 [[(.sc (.int .i64 (1))),(.sc (.int .i64 (3))),(bs [])]]),(.tc 2 [[(.sc (.int .i64 (0))),(.sc (.int .i64 (10)))]])]])]
def tr17:PV:=(.ts 2 [[(.ts 3 [[(.sc (.int .i64 (1))),(.sc (.int .i64 (3))),(bs [])]]),(.ts 2 [[(.sc (.int .i64 (0))),(.sc (.int .i64 (10)))]])]])
theorem tc17:(xZ prog G0 uT pE 100000 znC 60).fn 193 ta17 []=some (tr17,[]):=by kernel_rfl
def znB:Tab:=(193,ta17,tr17)::znC
theorem tk17:TabOk prog G0 znB:=yR wN zK tk16 tc17 (by kernel_rfl) (by kernel_rfl)
def ta18:List PV:=[(.ts 2 [[(.ts 3 [[(.sc (.int .i64 (1))),(.sc (.int .i64 (1))),(bs [])]]),(.ts 2 [[(.sc (.int .i64 (0))),(.sc (.int .i64 (10)))]])]]),(.tc 2 [[(.tc 3 [[(.sc (.int .i64 (1))),(.sc (.int .i64 (3))),(bs [])]]),(.tc 2 [[(.sc (.int .i64 (0))),(.sc (.int .i64 (10)))]])]]),(.fn (.func 148) [] [])]
def tr18:PV:=(.ts 2 [[(.ts 3 [[(.sc (.int .i64 (1))),(.sc (.int .i64 (1))),(bs [])]]),(.ts 2 [[(.sc (.int .i64 (0))),(.sc (.int .i64 (10)))]])],[(.ts 3 [[(.sc (.int .i64 (1))),(.sc (.int .i64 (3))),(bs [])]]),(.ts 2 [[(.sc (.int .i64 (0))),(.sc (.int .i64 (10)))]])]])
theorem tc18:(xZ prog G0 uT pE 100000 znB 60).fn 146 ta18 []=some (tr18,[]):=by kernel_rfl
def znA:Tab:=(146,ta18,tr18)::znB
theorem tk18:TabOk prog G0 znA:=yR wN zK tk17 tc18 (by kernel_rfl) (by kernel_rfl)
def ta19:List PV:=[(.agg [.nil,.nil,(.tc 7 [[(bs [112]),(.tc 1 [[(.sc (.int .i64 (1)))]]),(bs []),(.sc (.int .i64 (-1))),(.sc (.bool true)),(.sc (.int .i64 (1))),(.sc (.int .i64 (0)))]]),.nil]),(.agg [(.ts 1 [[(.ts 2 [[(.ts 3 [[(.sc (.int .i64 (1))),(.sc (.int .i64 (1))),(bs [])]]),(.ts 2 [[(.sc (.int .i64 (0))),(.sc (.int .i64 (10)))]])]])]]),(.ts 1 [[.nil]])]),(.ts 6 [[(.sc (.int .i64 (1))),(.sc (.int .i64 (0))),(.tc 3 [[(.sc (.int .i64 (1))),(.sc (.int .i64 (3))),(bs [])]]),(.sc (.int .i64 (-1))),(.sc (.int .i64 (0))),(.sc (.int .i64 (10)))]])]
def tr19:PV:=(.tup [(.agg [(.ts 1 [[(.ts 2 [[(.ts 3 [[(.sc (.int .i64 (1))),(.sc (.int .i64 (1))),(bs [])]]),(.ts 2 [[(.sc (.int .i64 (0))),(.sc (.int .i64 (10)))]])],[(.ts 3 [[(.sc (.int .i64 (1))),(.sc (.int .i64 (3))),(bs [])]]),(.ts 2 [[(.sc (.int .i64 (0))),(.sc (.int .i64 (10)))]])]])]]),(.ts 1 [[.nil]])]),(.sc (.int .i64 (0)))])
theorem tc19:(xZ prog G0 uT pE 100000 znA 60).fn 15 ta19 []=some (tr19,[]):=by kernel_rfl
def zm9:Tab:=(15,ta19,tr19)::znA
theorem tk19:TabOk prog G0 zm9:=yR wN zK tk18 tc19 (by kernel_rfl) (by kernel_rfl)
def ta20:List PV:=[(.agg [.nil,.nil,(.tc 7 [[(bs [112]),(.tc 1 [[(.sc (.int .i64 (1)))]]),(bs []),(.sc (.int .i64 (-1))),(.sc (.bool true)),(.sc (.int .i64 (1))),(.sc (.int .i64 (0)))]]),.nil]),(.agg [(.ts 3 [[(.ts 6 [[(.sc (.int .i64 (1))),(.sc (.int .i64 (0))),(.tc 3 [[(.sc (.int .i64 (1))),(.sc (.int .i64 (1))),(bs [])]]),(.sc (.int .i64 (-1))),(.sc (.int .i64 (0))),(.sc (.int .i64 (10)))]]),(.sc (.int .i64 (-1))),(.sc (.int .i64 (-1)))],[(.ts 6 [[(.sc (.int .i64 (1))),(.sc (.int .i64 (0))),(.tc 3 [[(.sc (.int .i64 (1))),(.sc (.int .i64 (2))),(bs [])]]),(.sc (.int .i64 (-1))),(.sc (.int .i64 (0))),(.sc (.int .i64 (10)))]]),(.sc (.int .i64 (-1))),(.sc (.int .i64 (0)))],[(.ts 6 [[(.sc (.int .i64 (1))),(.sc (.int .i64 (0))),(.tc 3 [[(.sc (.int .i64 (1))),(.sc (.int .i64 (3))),(bs [])]]),(.sc (.int .i64 (-1))),(.sc (.int .i64 (0))),(.sc (.int .i64 (10)))]]),(.sc (.int .i64 (-1))),(.sc (.int .i64 (0)))]]),(.ts 2 [[(bs [109,97,105,110]),(.sc (.int .i64 (2)))],[(bs [116,101,115,116]),(.sc (.int .i64 (1)))]])])]
def tr20:PV:=(.tup [(.ts 2 [[(.ts 1 [[(.ts 2 [[(.ts 3 [[(.sc (.int .i64 (1))),(.sc (.int .i64 (1))),(bs [])]]),(.ts 2 [[(.sc (.int .i64 (0))),(.sc (.int .i64 (10)))]])]])]]),(.ts 1 [[.nil]])],[(.ts 1 [[(.ts 2 [[(.ts 3 [[(.sc (.int .i64 (1))),(.sc (.int .i64 (1))),(bs [])]]),(.ts 2 [[(.sc (.int .i64 (0))),(.sc (.int .i64 (10)))]])],[(.ts 3 [[(.sc (.int .i64 (1))),(.sc (.int .i64 (2))),(bs [])]]),(.ts 2 [[(.sc (.int .i64 (0))),(.sc (.int .i64 (10)))]])]])]]),(.ts 1 [[.nil]])],[(.ts 1 [[(.ts 2 [[(.ts 3 [[(.sc (.int .i64 (1))),(.sc (.int .i64 (1))),(bs [])]]),(.ts 2 [[(.sc (.int .i64 (0))),(.sc (.int .i64 (10)))]])],[(.ts 3 [[(.sc (.int .i64 (1))),(.sc (.int .i64 (3))),(bs [])]]),(.ts 2 [[(.sc (.int .i64 (0))),(.sc (.int .i64 (10)))]])]])]]),(.ts 1 [[.nil]])]]),(.sc (.bool true))])
theorem tc20:(xZ prog G0 uT pE 100000 zm9 60).fn 29 ta20 []=some (tr20,[]):=by kernel_rfl
def zm8:Tab:=(29,ta20,tr20)::zm9
theorem tk20:TabOk prog G0 zm8:=yR wN zK tk19 tc20 (by kernel_rfl) (by kernel_rfl)
def znJ:List PV:=[]
def zm7:PV:=(.sc (.bool true))
theorem tc21:(xZ prog G0 uT pE 100000 zm8 60).fn 9 znJ []=some (zm7,[]):=by kernel_rfl
def tb21:Tab:=(9,znJ,zm7)::zm8
theorem tk21:TabOk prog G0 tb21:=yR wN zK tk20 tc21 (by kernel_rfl) (by kernel_rfl)
theorem aO (h:Heap):ACall prog G0 9 [] h fun q h2=>q= .sc (.bool true)∧h2=h:=tk21 (9,znJ,zm7) (List.mem_cons_self ..) h
end Go.AL
