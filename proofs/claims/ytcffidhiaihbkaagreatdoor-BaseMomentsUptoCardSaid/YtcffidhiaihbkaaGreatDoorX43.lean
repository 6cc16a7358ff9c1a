/-
  The forerunner of all laws: a closed run, cut into a table of calls.
-/
import Derived.Test.YtcffidhiaihbkaaGreatDoorX42
set_option linter.unusedSimpArgs false
set_option linter.unusedVariables false
set_option maxRecDepth 100000
set_option maxHeartbeats 4000000
namespace Go.AL
open Go.Proofs Go.Proofs.Tryz
def bs (l:List Nat):PV:= .sc (.string ⟨(l.map UInt8.ofNat).toArray⟩)
def zhU:List Nat:=[35,36,44,114,115,118,119,120,220]
def uT:FuncId→Bool:=fun f=>[37,75,64,205,134].contains f||zhU.contains f
def pE:FuncId→Bool:=fun f=>[].contains f||zhU.contains f
def tb0:Tab:=[]
theorem tk0:TabOk prog G0 tb0:=zc0
def ta1:List PV:=[(.tc 7 [[(bs [119,97,103,101]),(.tc 1 [[(.sc (.int .i64 (2)))],[(.sc (.int .i64 (1)))]]),(bs []),(.sc (.int .i64 (-1))),(.sc (.bool true)),(.sc (.int .i64 (1))),(.sc (.int .i64 (0)))],[(bs [118]),.nil,(bs []),(.sc (.int .i64 (-1))),(.sc (.bool false)),(.sc (.int .i64 (0))),(.sc (.int .i64 (0)))]]),(.sc (.int .i64 (24))),(.fn (.func 109) [] [])]
def tr1:PV:=(.sc (.bool true))
theorem tc1:(xZ prog G0 uT pE 100000 tb0 60).fn 108 ta1 []=some (tr1,[]):=by kernel_rfl
def tb1:Tab:=(108,ta1,tr1)::tb0
theorem tk1:TabOk prog G0 tb1:=yR wN zK tk0 tc1 (by kernel_rfl) (by kernel_rfl)
def ta2:List PV:=[(.agg [.nil,.nil,(.tc 7 [[(bs [119,97,103,101]),(.tc 1 [[(.sc (.int .i64 (2)))],[(.sc (.int .i64 (1)))]]),(bs []),(.sc (.int .i64 (-1))),(.sc (.bool true)),(.sc (.int .i64 (1))),(.sc (.int .i64 (0)))],[(bs [118]),.nil,(bs []),(.sc (.int .i64 (-1))),(.sc (.bool false)),(.sc (.int .i64 (0))),(.sc (.int .i64 (0)))]]),.nil])]
def tr2:PV:=(.tup [(.agg [.nil,.nil,(.ts 7 [[(bs [119,97,103,101]),(.ts 1 [[(.sc (.int .i64 (2)))],[(.sc (.int .i64 (1)))]]),(bs []),(.sc (.int .i64 (-1))),(.sc (.bool true)),(.sc (.int .i64 (1))),(.sc (.int .i64 (0)))],[(bs [118]),.nil,(bs []),(.sc (.int .i64 (-1))),(.sc (.bool false)),(.sc (.int .i64 (0))),(.sc (.int .i64 (0)))]]),.nil]),.nil])
theorem tc2:(xZ prog G0 uT pE 100000 tb1 60).fn 47 ta2 []=some (tr2,[]):=by kernel_rfl
def tb2:Tab:=(47,ta2,tr2)::tb1
theorem tk2:TabOk prog G0 tb2:=yR wN zK tk1 tc2 (by kernel_rfl) (by kernel_rfl)
def ta3:List PV:=[(.ts 3 [[(.sc (.int .i64 (2))),(.sc (.int .i64 (0))),(bs [97,110,110])],[(.sc (.int .i64 (1))),(.sc (.int .i64 (3))),(bs [])]]),(.ts 3 [[(.sc (.int .i64 (2))),(.sc (.int .i64 (0))),(bs [97,110,110])],[(.sc (.int .i64 (1))),(.sc (.int .i64 (3))),(bs [])]]),(.fn (.func 139) [] [])]
def tr3:PV:=(.sc (.int .i64 (0)))
theorem tc3:(xZ prog G0 uT pE 100000 tb2 60).fn 138 ta3 []=some (tr3,[]):=by kernel_rfl
def tb3:Tab:=(138,ta3,tr3)::tb2
theorem tk3:TabOk prog G0 tb3:=yR wN zK tk2 tc3 (by kernel_rfl) (by kernel_rfl)
def ta4:List PV:=[(.ts 3 [[(.sc (.int .i64 (2))),(.sc (.int .i64 (0))),(bs [97,110,110])],[(.sc (.int .i64 (1))),(.sc (.int .i64 (3))),(bs [])]]),(.ts 3 [[(.sc (.int .i64 (2))),(.sc (.int .i64 (0))),(bs [97,110,110])],[(.sc (.int .i64 (1))),(.sc (.int .i64 (5))),(bs [])]]),(.fn (.func 139) [] [])]
def tr4:PV:=(.sc (.int .i64 (-1)))
theorem tc4:(xZ prog G0 uT pE 100000 tb3 60).fn 138 ta4 []=some (tr4,[]):=by kernel_rfl
def tb4:Tab:=(138,ta4,tr4)::tb3
theorem tk4:TabOk prog G0 tb4:=yR wN zK tk3 tc4 (by kernel_rfl) (by kernel_rfl)
def ta5:List PV:=[(.agg [.nil,.nil,(.tc 7 [[(bs [119,97,103,101]),(.tc 1 [[(.sc (.int .i64 (2)))],[(.sc (.int .i64 (1)))]]),(bs []),(.sc (.int .i64 (-1))),(.sc (.bool true)),(.sc (.int .i64 (1))),(.sc (.int .i64 (0)))],[(bs [118]),.nil,(bs []),(.sc (.int .i64 (-1))),(.sc (.bool false)),(.sc (.int .i64 (0))),(.sc (.int .i64 (0)))]]),.nil]),(.agg [(.ts 1 [[.nil],[.nil]]),(.ts 1 [[.nil],[.nil]])]),(.tc 6 [[(.sc (.int .i64 (1))),(.sc (.int .i64 (0))),(.tc 3 [[(.sc (.int .i64 (2))),(.sc (.int .i64 (0))),(bs [97,110,110])],[(.sc (.int .i64 (1))),(.sc (.int .i64 (3))),(bs [])]]),(.sc (.int .i64 (-1))),(.sc (.int .i64 (0))),(.sc (.int .i64 (10)))],[(.sc (.int .i64 (1))),(.sc (.int .i64 (0))),(.tc 3 [[(.sc (.int .i64 (2))),(.sc (.int .i64 (0))),(bs [97,110,110])],[(.sc (.int .i64 (1))),(.sc (.int .i64 (5))),(bs [])]]),(.sc (.int .i64 (-1))),(.sc (.int .i64 (4))),(.sc (.int .i64 (6)))]])]
def tr5:PV:=(.tup [(.agg [(.ts 1 [[(.ts 2 [[(.ts 3 [[(.sc (.int .i64 (2))),(.sc (.int .i64 (0))),(bs [97,110,110])],[(.sc (.int .i64 (1))),(.sc (.int .i64 (3))),(bs [])]]),(.ts 2 [[(.sc (.int .i64 (0))),(.sc (.int .i64 (4)))],[(.sc (.int .i64 (6))),(.sc (.int .i64 (10)))]])],[(.ts 3 [[(.sc (.int .i64 (2))),(.sc (.int .i64 (0))),(bs [97,110,110])],[(.sc (.int .i64 (1))),(.sc (.int .i64 (5))),(bs [])]]),(.ts 2 [[(.sc (.int .i64 (4))),(.sc (.int .i64 (6)))]])]])],[.nil]]),(.ts 1 [[.nil],[.nil]])]),(.sc (.int .i64 (0)))])
theorem tc5:(xZ prog G0 uT pE 100000 tb4 60).fn 11 ta5 []=some (tr5,[]):=by kernel_rfl
def tb5:Tab:=(11,ta5,tr5)::tb4
theorem tk5:TabOk prog G0 tb5:=yR wN zK tk4 tc5 (by kernel_rfl) (by kernel_rfl)
def ta6:List PV:=[(.ts 2 [[(.sc (.int .i64 (0))),(.sc (.int .i64 (4)))],[(.sc (.int .i64 (6))),(.sc (.int .i64 (10)))]])]
def tr6:PV:=(.sc (.bool true))
theorem tc6:(xZ prog G0 uT pE 100000 tb5 60).fn 67 ta6 []=some (tr6,[]):=by kernel_rfl
def tb6:Tab:=(67,ta6,tr6)::tb5
theorem tk6:TabOk prog G0 tb6:=yR wN zK tk5 tc6 (by kernel_rfl) (by kernel_rfl)
def ta7:List PV:=[(.tc 1 [[(.sc (.int .i64 (2)))],[(.sc (.int .i64 (1)))]]),(.ts 2 [[(.ts 3 [[(.sc (.int .i64 (2))),(.sc (.int .i64 (0))),(bs [97,110,110])],[(.sc (.int .i64 (1))),(.sc (.int .i64 (3))),(bs [])]]),(.ts 2 [[(.sc (.int .i64 (0))),(.sc (.int .i64 (4)))],[(.sc (.int .i64 (6))),(.sc (.int .i64 (10)))]])],[(.ts 3 [[(.sc (.int .i64 (2))),(.sc (.int .i64 (0))),(bs [97,110,110])],[(.sc (.int .i64 (1))),(.sc (.int .i64 (5))),(bs [])]]),(.ts 2 [[(.sc (.int .i64 (4))),(.sc (.int .i64 (6)))]])]])]
def tr7:PV:=(.sc (.bool true))
theorem tc7:(xZ prog G0 uT pE 100000 tb6 60).fn 41 ta7 []=some (tr7,[]):=by kernel_rfl
def tb7:Tab:=(41,ta7,tr7)::tb6
theorem tk7:TabOk prog G0 tb7:=yR wN zK tk6 tc7 (by kernel_rfl) (by kernel_rfl)
def ta8:List PV:=[(.ts 2 [[(.ts 3 [[(.sc (.int .i64 (2))),(.sc (.int .i64 (0))),(bs [97,110,110])],[(.sc (.int .i64 (1))),(.sc (.int .i64 (3))),(bs [])]]),(.ts 2 [[(.sc (.int .i64 (0))),(.sc (.int .i64 (4)))],[(.sc (.int .i64 (6))),(.sc (.int .i64 (10)))]])],[(.ts 3 [[(.sc (.int .i64 (2))),(.sc (.int .i64 (0))),(bs [97,110,110])],[(.sc (.int .i64 (1))),(.sc (.int .i64 (5))),(bs [])]]),(.ts 2 [[(.sc (.int .i64 (4))),(.sc (.int .i64 (6)))]])]]),(.sc (.int .i64 (1)))]
def tr8:PV:=(.sc (.bool true))
theorem tc8:(xZ prog G0 uT pE 100000 tb7 60).fn 42 ta8 []=some (tr8,[]):=by kernel_rfl
def tb8:Tab:=(42,ta8,tr8)::tb7
theorem tk8:TabOk prog G0 tb8:=yR wN zK tk7 tc8 (by kernel_rfl) (by kernel_rfl)
def ta9:List PV:=[(.agg [.nil,.nil,(.tc 7 [[(bs [119,97,103,101]),(.tc 1 [[(.sc (.int .i64 (2)))],[(.sc (.int .i64 (1)))]]),(bs []),(.sc (.int .i64 (-1))),(.sc (.bool true)),(.sc (.int .i64 (1))),(.sc (.int .i64 (0)))],[(bs [118]),.nil,(bs []),(.sc (.int .i64 (-1))),(.sc (.bool false)),(.sc (.int .i64 (0))),(.sc (.int .i64 (0)))]]),.nil]),(.agg [(.ts 1 [[(.ts 2 [[(.ts 3 [[(.sc (.int .i64 (2))),(.sc (.int .i64 (0))),(bs [97,110,110])],[(.sc (.int .i64 (1))),(.sc (.int .i64 (3))),(bs [])]]),(.ts 2 [[(.sc (.int .i64 (0))),(.sc (.int .i64 (4)))],[(.sc (.int .i64 (6))),(.sc (.int .i64 (10)))]])],[(.ts 3 [[(.sc (.int .i64 (2))),(.sc (.int .i64 (0))),(bs [97,110,110])],[(.sc (.int .i64 (1))),(.sc (.int .i64 (5))),(bs [])]]),(.ts 2 [[(.sc (.int .i64 (4))),(.sc (.int .i64 (6)))]])]])],[.nil]]),(.ts 1 [[.nil],[.nil]])])]
def tr9:PV:=(.sc (.bool true))
theorem tc9:(xZ prog G0 uT pE 100000 tb8 60).fn 13 ta9 []=some (tr9,[]):=by kernel_rfl
def tb9:Tab:=(13,ta9,tr9)::tb8
theorem tk9:TabOk prog G0 tb9:=yR wN zK tk8 tc9 (by kernel_rfl) (by kernel_rfl)
def ta10:List PV:=[(.agg [.nil,.nil,(.tc 7 [[(bs [119,97,103,101]),(.tc 1 [[(.sc (.int .i64 (2)))],[(.sc (.int .i64 (1)))]]),(bs []),(.sc (.int .i64 (-1))),(.sc (.bool true)),(.sc (.int .i64 (1))),(.sc (.int .i64 (0)))],[(bs [118]),.nil,(bs []),(.sc (.int .i64 (-1))),(.sc (.bool false)),(.sc (.int .i64 (0))),(.sc (.int .i64 (0)))]]),.nil]),(.agg [(.ts 1 [[(.ts 2 [[(.ts 3 [[(.sc (.int .i64 (2))),(.sc (.int .i64 (0))),(bs [97,110,110])],[(.sc (.int .i64 (1))),(.sc (.int .i64 (3))),(bs [])]]),(.ts 2 [[(.sc (.int .i64 (0))),(.sc (.int .i64 (4)))],[(.sc (.int .i64 (6))),(.sc (.int .i64 (10)))]])],[(.ts 3 [[(.sc (.int .i64 (2))),(.sc (.int .i64 (0))),(bs [97,110,110])],[(.sc (.int .i64 (1))),(.sc (.int .i64 (5))),(bs [])]]),(.ts 2 [[(.sc (.int .i64 (4))),(.sc (.int .i64 (6)))]])]])],[.nil]]),(.ts 1 [[.nil],[.nil]])]),(.tc 6 [[(.sc (.int .i64 (2))),(.sc (.int .i64 (0))),(.tc 3 [[(.sc (.int .i64 (2))),(.sc (.int .i64 (0))),(bs [97,110,110])],[(.sc (.int .i64 (1))),(.sc (.int .i64 (3))),(bs [])]]),(.sc (.int .i64 (-1))),(.sc (.int .i64 (0))),(.sc (.int .i64 (64)))]])]
def tr10:PV:=(.tup [(.agg [(.ts 1 [[(.ts 2 [[(.ts 3 [[(.sc (.int .i64 (2))),(.sc (.int .i64 (0))),(bs [97,110,110])],[(.sc (.int .i64 (1))),(.sc (.int .i64 (5))),(bs [])]]),(.ts 2 [[(.sc (.int .i64 (4))),(.sc (.int .i64 (6)))]])]])],[.nil]]),(.ts 1 [[.nil],[.nil]])]),(.sc (.int .i64 (0)))])
theorem tc10:(xZ prog G0 uT pE 100000 tb9 60).fn 11 ta10 []=some (tr10,[]):=by kernel_rfl
def znI:Tab:=(11,ta10,tr10)::tb9
theorem tk10:TabOk prog G0 znI:=yR wN zK tk9 tc10 (by kernel_rfl) (by kernel_rfl)
def zs7:List PV:=[]
def zs6:PV:=(.sc (.bool true))
theorem tc11:(xZ prog G0 uT pE 100000 znI 60).fn 9 zs7 []=some (zs6,[]):=by kernel_rfl
def znH:Tab:=(9,zs7,zs6)::znI
theorem tk11:TabOk prog G0 znH:=yR wN zK tk10 tc11 (by kernel_rfl) (by kernel_rfl)
theorem aO (h:Heap):ACall prog G0 9 [] h fun q h2=>q= .sc (.bool true)∧h2=h:=tk11 (9,zs7,zs6) (List.mem_cons_self ..) h
end Go.AL
