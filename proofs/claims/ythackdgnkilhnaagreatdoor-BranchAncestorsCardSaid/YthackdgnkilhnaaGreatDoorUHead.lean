/-
  The forerunner of all laws: a closed run, cut into a table of calls.
-/
import Derived.Test.YthackdgnkilhnaaGreatDoorUBase
import Derived.Test.YthackdgnkilhnaaGreatDoorAl20
import Derived.KernelRfl
set_option linter.unusedSimpArgs false
set_option linter.unusedVariables false
namespace Go.AL
open Go.Proofs
def bs (l : List Nat) : PV := .sc (.string ⟨(l.map UInt8.ofNat).toArray⟩)
def clones : List Nat := [52,53,61,80,81,146,147,150,151,152,252]
def keepB : FuncId → Bool := fun f => [54, 103, 237, 166].contains f || clones.contains f
def ownB : FuncId → Bool := fun f => f == 42 || clones.contains f
def tb0 : Tab := []
theorem tk0 : TabOk Tryz.prog G0 tb0 := tabOk_nil
def ta1 : List PV := [(.agg [.nil, .nil, (.tc 7 [[(bs [112]), (.tc 1 [[(.sc (.int .i64 (1)))]]), (bs []), (.sc (.int .i64 (-1))), (.sc (.bool true)), (.sc (.int .i64 (1))), (.sc (.int .i64 (0)))]]), .nil])]
def tr1 : PV := (.sc (.bool true))
theorem tc1 : (xcallT Tryz.prog G0 keepB ownB 100000 tb0 60).fn 102 ta1 [] = some (tr1, []) := by kernel_rfl
def tb1 : Tab := (102, ta1, tr1) :: tb0
theorem tk1 : TabOk Tryz.prog G0 tb1 := tabOk_cons mixed gtree tk0 tc1 (by kernel_rfl) (by kernel_rfl)
def ta2 : List PV := [(.agg [(bs [109, 97, 105, 110]), (.tc 1 [[(bs [120])]]), .nil, (.sc (.int .i64 (0)))])]
def tr2 : PV := (.tup [(.agg [(.sc (.int .u8 (1))), (.sc (.int .u8 (0))), (.sc (.int .u8 (0))), (.sc (.int .u8 (0))), (.sc (.int .u8 (0))), (.sc (.int .u8 (0))), (.sc (.int .u8 (0))), (.sc (.int .u8 (0)))]), (.sc (.int .i64 (0)))])
theorem tc2 : (xcallT Tryz.prog G0 keepB ownB 100000 tb1 60).fn 157 ta2 [] = some (tr2, []) := by kernel_rfl
def tb2 : Tab := (157, ta2, tr2) :: tb1
theorem tk2 : TabOk Tryz.prog G0 tb2 := tabOk_cons mixed gtree tk1 tc2 (by kernel_rfl) (by kernel_rfl)
def ta3 : List PV := [(.agg [.nil, .nil, (.tc 7 [[(bs [112]), (.tc 1 [[(.sc (.int .i64 (1)))]]), (bs []), (.sc (.int .i64 (-1))), (.sc (.bool true)), (.sc (.int .i64 (1))), (.sc (.int .i64 (0)))]]), .nil]), (.agg [(.ts 1 [[.nil]]), (.ts 1 [[.nil]])])]
def tr3 : PV := (.sc (.bool true))
theorem tc3 : (xcallT Tryz.prog G0 keepB ownB 100000 tb2 60).fn 19 ta3 [] = some (tr3, []) := by kernel_rfl
def tb3 : Tab := (19, ta3, tr3) :: tb2
theorem tk3 : TabOk Tryz.prog G0 tb3 := tabOk_cons mixed gtree tk2 tc3 (by kernel_rfl) (by kernel_rfl)
def ta4 : List PV := [(.agg [.nil, .nil, (.tc 7 [[(bs [112]), (.tc 1 [[(.sc (.int .i64 (1)))]]), (bs []), (.sc (.int .i64 (-1))), (.sc (.bool true)), (.sc (.int .i64 (1))), (.sc (.int .i64 (0)))]]), .nil]), (.agg [(.sc (.int .i64 (0))), (.tc 3 [[(.sc (.int .i64 (1))), (.sc (.int .i64 (1))), (bs [])]]), (.sc (.int .i64 (-1)))])]
def tr4 : PV := (.sc (.bool true))
theorem tc4 : (xcallT Tryz.prog G0 keepB ownB 100000 tb3 60).fn 55 ta4 [] = some (tr4, []) := by kernel_rfl
def tb4 : Tab := (55, ta4, tr4) :: tb3
theorem tk4 : TabOk Tryz.prog G0 tb4 := tabOk_cons mixed gtree tk3 tc4 (by kernel_rfl) (by kernel_rfl)
def ta5 : List PV := [(.tc 2 [[(.tc 3 [[(.sc (.int .i64 (1))), (.sc (.int .i64 (1))), (bs [])]]), (.tc 2 [[(.sc (.int .i64 (0))), (.sc (.int .i64 (10)))]])]])]
def tr5 : PV := (.ts 2 [[(.ts 3 [[(.sc (.int .i64 (1))), (.sc (.int .i64 (1))), (bs [])]]), (.ts 2 [[(.sc (.int .i64 (0))), (.sc (.int .i64 (10)))]])]])
theorem tc5 : (xcallT Tryz.prog G0 keepB ownB 100000 tb4 60).fn 238 ta5 [] = some (tr5, []) := by kernel_rfl
def tb5 : Tab := (238, ta5, tr5) :: tb4
theorem tk5 : TabOk Tryz.prog G0 tb5 := tabOk_cons mixed gtree tk4 tc5 (by kernel_rfl) (by kernel_rfl)
def ta6 : List PV := [.nil, (.tc 2 [[(.tc 3 [[(.sc (.int .i64 (1))), (.sc (.int .i64 (1))), (bs [])]]), (.tc 2 [[(.sc (.int .i64 (0))), (.sc (.int .i64 (10)))]])]]), (.fn (.func 204) [] [])]
def tr6 : PV := (.ts 2 [[(.ts 3 [[(.sc (.int .i64 (1))), (.sc (.int .i64 (1))), (bs [])]]), (.ts 2 [[(.sc (.int .i64 (0))), (.sc (.int .i64 (10)))]])]])
theorem tc6 : (xcallT Tryz.prog G0 keepB ownB 100000 tb5 60).fn 202 ta6 [] = some (tr6, []) := by kernel_rfl
def tb6 : Tab := (202, ta6, tr6) :: tb5
theorem tk6 : TabOk Tryz.prog G0 tb6 := tabOk_cons mixed gtree tk5 tc6 (by kernel_rfl) (by kernel_rfl)
def ta7 : List PV := [(.agg [(bs [116, 101, 115, 116]), (.tc 1 [[(bs [120])]]), .nil, (.sc (.int .i64 (0)))])]
def tr7 : PV := (.tup [(.agg [(.sc (.int .u8 (1))), (.sc (.int .u8 (0))), (.sc (.int .u8 (0))), (.sc (.int .u8 (0))), (.sc (.int .u8 (0))), (.sc (.int .u8 (0))), (.sc (.int .u8 (0))), (.sc (.int .u8 (0)))]), (.sc (.int .i64 (0)))])
theorem tc7 : (xcallT Tryz.prog G0 keepB ownB 100000 tb6 60).fn 157 ta7 [] = some (tr7, []) := by kernel_rfl
def tb7 : Tab := (157, ta7, tr7) :: tb6
theorem tk7 : TabOk Tryz.prog G0 tb7 := tabOk_cons mixed gtree tk6 tc7 (by kernel_rfl) (by kernel_rfl)
def ta8 : List PV := [(.agg [.nil, .nil, (.tc 7 [[(bs [112]), (.tc 1 [[(.sc (.int .i64 (1)))]]), (bs []), (.sc (.int .i64 (-1))), (.sc (.bool true)), (.sc (.int .i64 (1))), (.sc (.int .i64 (0)))]]), .nil]), (.agg [(.ts 1 [[.nil]]), (.ts 1 [[.nil]])]), (.ts 6 [[(.sc (.int .i64 (1))), (.sc (.int .i64 (0))), (.tc 3 [[(.sc (.int .i64 (1))), (.sc (.int .i64 (1))), (bs [])]]), (.sc (.int .i64 (-1))), (.sc (.int .i64 (0))), (.sc (.int .i64 (10)))]])]
def tr8 : PV := (.tup [(.agg [(.ts 1 [[(.ts 2 [[(.ts 3 [[(.sc (.int .i64 (1))), (.sc (.int .i64 (1))), (bs [])]]), (.ts 2 [[(.sc (.int .i64 (0))), (.sc (.int .i64 (10)))]])]])]]), (.ts 1 [[.nil]])]), (.sc (.int .i64 (0)))])
theorem tc8 : (xcallT Tryz.prog G0 keepB ownB 100000 tb7 60).fn 17 ta8 [] = some (tr8, []) := by kernel_rfl
def tb8 : Tab := (17, ta8, tr8) :: tb7
theorem tk8 : TabOk Tryz.prog G0 tb8 := tabOk_cons mixed gtree tk7 tc8 (by kernel_rfl) (by kernel_rfl)
def ta9 : List PV := [(.tc 1 [[(.sc (.int .i64 (1)))]]), (.ts 2 [[(.ts 3 [[(.sc (.int .i64 (1))), (.sc (.int .i64 (1))), (bs [])]]), (.ts 2 [[(.sc (.int .i64 (0))), (.sc (.int .i64 (10)))]])]])]
def tr9 : PV := (.sc (.bool true))
theorem tc9 : (xcallT Tryz.prog G0 keepB ownB 100000 tb8 60).fn 58 ta9 [] = some (tr9, []) := by kernel_rfl
def tb9 : Tab := (58, ta9, tr9) :: tb8
theorem tk9 : TabOk Tryz.prog G0 tb9 := tabOk_cons mixed gtree tk8 tc9 (by kernel_rfl) (by kernel_rfl)
def ta10 : List PV := [(.agg [.nil, .nil, (.tc 7 [[(bs [112]), (.tc 1 [[(.sc (.int .i64 (1)))]]), (bs []), (.sc (.int .i64 (-1))), (.sc (.bool true)), (.sc (.int .i64 (1))), (.sc (.int .i64 (0)))]]), .nil]), (.agg [(.ts 1 [[(.ts 2 [[(.ts 3 [[(.sc (.int .i64 (1))), (.sc (.int .i64 (1))), (bs [])]]), (.ts 2 [[(.sc (.int .i64 (0))), (.sc (.int .i64 (10)))]])]])]]), (.ts 1 [[.nil]])])]
def tr10 : PV := (.sc (.bool true))
theorem tc10 : (xcallT Tryz.prog G0 keepB ownB 100000 tb9 60).fn 19 ta10 [] = some (tr10, []) := by kernel_rfl
def tb10 : Tab := (19, ta10, tr10) :: tb9
theorem tk10 : TabOk Tryz.prog G0 tb10 := tabOk_cons mixed gtree tk9 tc10 (by kernel_rfl) (by kernel_rfl)
def ta11 : List PV := [(.agg [.nil, .nil, (.tc 7 [[(bs [112]), (.tc 1 [[(.sc (.int .i64 (1)))]]), (bs []), (.sc (.int .i64 (-1))), (.sc (.bool true)), (.sc (.int .i64 (1))), (.sc (.int .i64 (0)))]]), .nil]), (.agg [(.sc (.int .i64 (0))), (.tc 3 [[(.sc (.int .i64 (1))), (.sc (.int .i64 (2))), (bs [])]]), (.sc (.int .i64 (-1)))])]
def tr11 : PV := (.sc (.bool true))
theorem tc11 : (xcallT Tryz.prog G0 keepB ownB 100000 tb10 60).fn 55 ta11 [] = some (tr11, []) := by kernel_rfl
def tb11 : Tab := (55, ta11, tr11) :: tb10
theorem tk11 : TabOk Tryz.prog G0 tb11 := tabOk_cons mixed gtree tk10 tc11 (by kernel_rfl) (by kernel_rfl)
def ta12 : List PV := [(.ts 2 [[(.ts 3 [[(.sc (.int .i64 (1))), (.sc (.int .i64 (1))), (bs [])]]), (.ts 2 [[(.sc (.int .i64 (0))), (.sc (.int .i64 (10)))]])]])]
def tr12 : PV := (.ts 2 [[(.ts 3 [[(.sc (.int .i64 (1))), (.sc (.int .i64 (1))), (bs [])]]), (.ts 2 [[(.sc (.int .i64 (0))), (.sc (.int .i64 (10)))]])]])
theorem tc12 : (xcallT Tryz.prog G0 keepB ownB 100000 tb11 60).fn 238 ta12 [] = some (tr12, []) := by kernel_rfl
def tb12 : Tab := (238, ta12, tr12) :: tb11
theorem tk12 : TabOk Tryz.prog G0 tb12 := tabOk_cons mixed gtree tk11 tc12 (by kernel_rfl) (by kernel_rfl)
def ta13 : List PV := [(.tc 2 [[(.tc 3 [[(.sc (.int .i64 (1))), (.sc (.int .i64 (2))), (bs [])]]), (.tc 2 [[(.sc (.int .i64 (0))), (.sc (.int .i64 (10)))]])]])]
def tr13 : PV := (.ts 2 [[(.ts 3 [[(.sc (.int .i64 (1))), (.sc (.int .i64 (2))), (bs [])]]), (.ts 2 [[(.sc (.int .i64 (0))), (.sc (.int .i64 (10)))]])]])
theorem tc13 : (xcallT Tryz.prog G0 keepB ownB 100000 tb12 60).fn 238 ta13 [] = some (tr13, []) := by kernel_rfl
def tb13 : Tab := (238, ta13, tr13) :: tb12
theorem tk13 : TabOk Tryz.prog G0 tb13 := tabOk_cons mixed gtree tk12 tc13 (by kernel_rfl) (by kernel_rfl)
def ta14 : List PV := [(.ts 2 [[(.ts 3 [[(.sc (.int .i64 (1))), (.sc (.int .i64 (1))), (bs [])]]), (.ts 2 [[(.sc (.int .i64 (0))), (.sc (.int .i64 (10)))]])]]), (.tc 2 [[(.tc 3 [[(.sc (.int .i64 (1))), (.sc (.int .i64 (2))), (bs [])]]), (.tc 2 [[(.sc (.int .i64 (0))), (.sc (.int .i64 (10)))]])]]), (.fn (.func 204) [] [])]
def tr14 : PV := (.ts 2 [[(.ts 3 [[(.sc (.int .i64 (1))), (.sc (.int .i64 (1))), (bs [])]]), (.ts 2 [[(.sc (.int .i64 (0))), (.sc (.int .i64 (10)))]])], [(.ts 3 [[(.sc (.int .i64 (1))), (.sc (.int .i64 (2))), (bs [])]]), (.ts 2 [[(.sc (.int .i64 (0))), (.sc (.int .i64 (10)))]])]])
theorem tc14 : (xcallT Tryz.prog G0 keepB ownB 100000 tb13 60).fn 202 ta14 [] = some (tr14, []) := by kernel_rfl
def tb14 : Tab := (202, ta14, tr14) :: tb13
theorem tk14 : TabOk Tryz.prog G0 tb14 := tabOk_cons mixed gtree tk13 tc14 (by kernel_rfl) (by kernel_rfl)
def ta15 : List PV := [(.agg [.nil, .nil, (.tc 7 [[(bs [112]), (.tc 1 [[(.sc (.int .i64 (1)))]]), (bs []), (.sc (.int .i64 (-1))), (.sc (.bool true)), (.sc (.int .i64 (1))), (.sc (.int .i64 (0)))]]), .nil]), (.agg [(.ts 1 [[(.ts 2 [[(.ts 3 [[(.sc (.int .i64 (1))), (.sc (.int .i64 (1))), (bs [])]]), (.ts 2 [[(.sc (.int .i64 (0))), (.sc (.int .i64 (10)))]])]])]]), (.ts 1 [[.nil]])]), (.ts 6 [[(.sc (.int .i64 (1))), (.sc (.int .i64 (0))), (.tc 3 [[(.sc (.int .i64 (1))), (.sc (.int .i64 (2))), (bs [])]]), (.sc (.int .i64 (-1))), (.sc (.int .i64 (0))), (.sc (.int .i64 (10)))]])]
def tr15 : PV := (.tup [(.agg [(.ts 1 [[(.ts 2 [[(.ts 3 [[(.sc (.int .i64 (1))), (.sc (.int .i64 (1))), (bs [])]]), (.ts 2 [[(.sc (.int .i64 (0))), (.sc (.int .i64 (10)))]])], [(.ts 3 [[(.sc (.int .i64 (1))), (.sc (.int .i64 (2))), (bs [])]]), (.ts 2 [[(.sc (.int .i64 (0))), (.sc (.int .i64 (10)))]])]])]]), (.ts 1 [[.nil]])]), (.sc (.int .i64 (0)))])
theorem tc15 : (xcallT Tryz.prog G0 keepB ownB 100000 tb14 60).fn 17 ta15 [] = some (tr15, []) := by kernel_rfl
def tb15 : Tab := (17, ta15, tr15) :: tb14
theorem tk15 : TabOk Tryz.prog G0 tb15 := tabOk_cons mixed gtree tk14 tc15 (by kernel_rfl) (by kernel_rfl)
def ta16 : List PV := [(.agg [.nil, .nil, (.tc 7 [[(bs [112]), (.tc 1 [[(.sc (.int .i64 (1)))]]), (bs []), (.sc (.int .i64 (-1))), (.sc (.bool true)), (.sc (.int .i64 (1))), (.sc (.int .i64 (0)))]]), .nil]), (.agg [(.sc (.int .i64 (0))), (.tc 3 [[(.sc (.int .i64 (1))), (.sc (.int .i64 (3))), (bs [])]]), (.sc (.int .i64 (-1)))])]
def tr16 : PV := (.sc (.bool true))
theorem tc16 : (xcallT Tryz.prog G0 keepB ownB 100000 tb15 60).fn 55 ta16 [] = some (tr16, []) := by kernel_rfl
def tb16 : Tab := (55, ta16, tr16) :: tb15
theorem tk16 : TabOk Tryz.prog G0 tb16 := tabOk_cons mixed gtree tk15 tc16 (by kernel_rfl) (by kernel_rfl)
def ta17 : List PV := [(.tc 2 [[(.tc 3 [[(.sc (.int .i64 (1))), (.sc (.int .i64 (3))), (bs [])]]), (.tc 2 [[(.sc (.int .i64 (0))), (.sc (.int .i64 (10)))]])]])]
def tr17 : PV := (.ts 2 [[(.ts 3 [[(.sc (.int .i64 (1))), (.sc (.int .i64 (3))), (bs [])]]), (.ts 2 [[(.sc (.int .i64 (0))), (.sc (.int .i64 (10)))]])]])
theorem tc17 : (xcallT Tryz.prog G0 keepB ownB 100000 tb16 60).fn 238 ta17 [] = some (tr17, []) := by kernel_rfl
def tb17 : Tab := (238, ta17, tr17) :: tb16
theorem tk17 : TabOk Tryz.prog G0 tb17 := tabOk_cons mixed gtree tk16 tc17 (by kernel_rfl) (by kernel_rfl)
def ta18 : List PV := [(.ts 2 [[(.ts 3 [[(.sc (.int .i64 (1))), (.sc (.int .i64 (1))), (bs [])]]), (.ts 2 [[(.sc (.int .i64 (0))), (.sc (.int .i64 (10)))]])]]), (.tc 2 [[(.tc 3 [[(.sc (.int .i64 (1))), (.sc (.int .i64 (3))), (bs [])]]), (.tc 2 [[(.sc (.int .i64 (0))), (.sc (.int .i64 (10)))]])]]), (.fn (.func 204) [] [])]
def tr18 : PV := (.ts 2 [[(.ts 3 [[(.sc (.int .i64 (1))), (.sc (.int .i64 (1))), (bs [])]]), (.ts 2 [[(.sc (.int .i64 (0))), (.sc (.int .i64 (10)))]])], [(.ts 3 [[(.sc (.int .i64 (1))), (.sc (.int .i64 (3))), (bs [])]]), (.ts 2 [[(.sc (.int .i64 (0))), (.sc (.int .i64 (10)))]])]])
theorem tc18 : (xcallT Tryz.prog G0 keepB ownB 100000 tb17 60).fn 202 ta18 [] = some (tr18, []) := by kernel_rfl
def tb18 : Tab := (202, ta18, tr18) :: tb17
theorem tk18 : TabOk Tryz.prog G0 tb18 := tabOk_cons mixed gtree tk17 tc18 (by kernel_rfl) (by kernel_rfl)
def ta19 : List PV := [(.agg [.nil, .nil, (.tc 7 [[(bs [112]), (.tc 1 [[(.sc (.int .i64 (1)))]]), (bs []), (.sc (.int .i64 (-1))), (.sc (.bool true)), (.sc (.int .i64 (1))), (.sc (.int .i64 (0)))]]), .nil]), (.agg [(.ts 1 [[(.ts 2 [[(.ts 3 [[(.sc (.int .i64 (1))), (.sc (.int .i64 (1))), (bs [])]]), (.ts 2 [[(.sc (.int .i64 (0))), (.sc (.int .i64 (10)))]])]])]]), (.ts 1 [[.nil]])]), (.ts 6 [[(.sc (.int .i64 (1))), (.sc (.int .i64 (0))), (.tc 3 [[(.sc (.int .i64 (1))), (.sc (.int .i64 (3))), (bs [])]]), (.sc (.int .i64 (-1))), (.sc (.int .i64 (0))), (.sc (.int .i64 (10)))]])]
def tr19 : PV := (.tup [(.agg [(.ts 1 [[(.ts 2 [[(.ts 3 [[(.sc (.int .i64 (1))), (.sc (.int .i64 (1))), (bs [])]]), (.ts 2 [[(.sc (.int .i64 (0))), (.sc (.int .i64 (10)))]])], [(.ts 3 [[(.sc (.int .i64 (1))), (.sc (.int .i64 (3))), (bs [])]]), (.ts 2 [[(.sc (.int .i64 (0))), (.sc (.int .i64 (10)))]])]])]]), (.ts 1 [[.nil]])]), (.sc (.int .i64 (0)))])
theorem tc19 : (xcallT Tryz.prog G0 keepB ownB 100000 tb18 60).fn 17 ta19 [] = some (tr19, []) := by kernel_rfl
def tb19 : Tab := (17, ta19, tr19) :: tb18
theorem tk19 : TabOk Tryz.prog G0 tb19 := tabOk_cons mixed gtree tk18 tc19 (by kernel_rfl) (by kernel_rfl)
def ta20 : List PV := [(.agg [.nil, .nil, (.tc 7 [[(bs [112]), (.tc 1 [[(.sc (.int .i64 (1)))]]), (bs []), (.sc (.int .i64 (-1))), (.sc (.bool true)), (.sc (.int .i64 (1))), (.sc (.int .i64 (0)))]]), .nil]), (.agg [(.ts 3 [[(.ts 6 [[(.sc (.int .i64 (1))), (.sc (.int .i64 (0))), (.tc 3 [[(.sc (.int .i64 (1))), (.sc (.int .i64 (1))), (bs [])]]), (.sc (.int .i64 (-1))), (.sc (.int .i64 (0))), (.sc (.int .i64 (10)))]]), (.sc (.int .i64 (-1))), (.sc (.int .i64 (-1)))], [(.ts 6 [[(.sc (.int .i64 (1))), (.sc (.int .i64 (0))), (.tc 3 [[(.sc (.int .i64 (1))), (.sc (.int .i64 (2))), (bs [])]]), (.sc (.int .i64 (-1))), (.sc (.int .i64 (0))), (.sc (.int .i64 (10)))]]), (.sc (.int .i64 (-1))), (.sc (.int .i64 (0)))], [(.ts 6 [[(.sc (.int .i64 (1))), (.sc (.int .i64 (0))), (.tc 3 [[(.sc (.int .i64 (1))), (.sc (.int .i64 (3))), (bs [])]]), (.sc (.int .i64 (-1))), (.sc (.int .i64 (0))), (.sc (.int .i64 (10)))]]), (.sc (.int .i64 (-1))), (.sc (.int .i64 (0)))]]), (.ts 2 [[(bs [109, 97, 105, 110]), (.sc (.int .i64 (2)))], [(bs [116, 101, 115, 116]), (.sc (.int .i64 (1)))]])])]
def tr20 : PV := (.tup [(.ts 2 [[(.ts 1 [[(.ts 2 [[(.ts 3 [[(.sc (.int .i64 (1))), (.sc (.int .i64 (1))), (bs [])]]), (.ts 2 [[(.sc (.int .i64 (0))), (.sc (.int .i64 (10)))]])]])]]), (.ts 1 [[.nil]])], [(.ts 1 [[(.ts 2 [[(.ts 3 [[(.sc (.int .i64 (1))), (.sc (.int .i64 (1))), (bs [])]]), (.ts 2 [[(.sc (.int .i64 (0))), (.sc (.int .i64 (10)))]])], [(.ts 3 [[(.sc (.int .i64 (1))), (.sc (.int .i64 (2))), (bs [])]]), (.ts 2 [[(.sc (.int .i64 (0))), (.sc (.int .i64 (10)))]])]])]]), (.ts 1 [[.nil]])], [(.ts 1 [[(.ts 2 [[(.ts 3 [[(.sc (.int .i64 (1))), (.sc (.int .i64 (1))), (bs [])]]), (.ts 2 [[(.sc (.int .i64 (0))), (.sc (.int .i64 (10)))]])], [(.ts 3 [[(.sc (.int .i64 (1))), (.sc (.int .i64 (3))), (bs [])]]), (.ts 2 [[(.sc (.int .i64 (0))), (.sc (.int .i64 (10)))]])]])]]), (.ts 1 [[.nil]])]]), (.sc (.bool true))])
theorem tc20 : (xcallT Tryz.prog G0 keepB ownB 100000 tb19 60).fn 77 ta20 [] = some (tr20, []) := by kernel_rfl
def tb20 : Tab := (77, ta20, tr20) :: tb19
theorem tk20 : TabOk Tryz.prog G0 tb20 := tabOk_cons mixed gtree tk19 tc20 (by kernel_rfl) (by kernel_rfl)
def ta21 : List PV := []
def tr21 : PV := (.sc (.bool true))
theorem tc21 : (xcallT Tryz.prog G0 keepB ownB 100000 tb20 60).fn 33 ta21 [] = some (tr21, []) := by kernel_rfl
def tb21 : Tab := (33, ta21, tr21) :: tb20
theorem tk21 : TabOk Tryz.prog G0 tb21 := tabOk_cons mixed gtree tk20 tc21 (by kernel_rfl) (by kernel_rfl)
theorem head_ok (h : Heap) : ACall Tryz.prog G0 33 [] h fun q h2 => q = .sc (.bool true) ∧ h2 = h := tk21 (33, ta21, tr21) (List.mem_cons_self ..) h
end Go.AL
