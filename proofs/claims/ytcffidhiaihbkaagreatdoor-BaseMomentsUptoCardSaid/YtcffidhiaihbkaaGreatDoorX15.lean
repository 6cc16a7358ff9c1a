/-
  Small things that all walks share.
-/
import Derived.Test.YtcffidhiaihbkaaGreatDoorChecked
import Derived.Test.YtcffidhiaihbkaaGreatDoorX14
set_option linter.unusedSimpArgs false
set_option linter.unusedVariables false
set_option maxRecDepth 100000
set_option maxHeartbeats 4000000
namespace Go.AL
open Go.Proofs Go.Proofs.Tryz
abbrev TF (t:TypeId) (a:Option Nat) (b:Option Bool) (c:Option TypeId) (d:Option (Nat×TypeId)) (e:Option IntKind) (f g h:Bool):Prop:=xL prog t=a∧dD prog t=b∧wX prog t=c∧bR prog t=d∧zeT prog t=e∧bW prog t=f∧gJ prog t=g∧bV prog t=h
instance:Rs Tryz.f3 [.tmp 12]:=⟨by kernel_rfl⟩
instance:Rs Tryz.f5 [.tmp 8]:=⟨by kernel_rfl⟩
instance:Rs Tryz.f6 [.tmp 8]:=⟨by kernel_rfl⟩
instance:Rs Tryz.f7 [.tmp 8]:=⟨by kernel_rfl⟩
instance:Rs Tryz.f10 [.tmp 4]:=⟨by kernel_rfl⟩
instance:Rs Tryz.f11 [.cell 6 31,.tmp 7]:=⟨by kernel_rfl⟩
instance:Rs Tryz.f12 [.tmp 4]:=⟨by kernel_rfl⟩
instance:Rs Tryz.f13 [.tmp 4]:=⟨by kernel_rfl⟩
instance:Rs Tryz.f14 [.tmp 4,.tmp 5]:=⟨by kernel_rfl⟩
instance:Rs Tryz.f15 [.cell 10 34,.tmp 11]:=⟨by kernel_rfl⟩
instance:Rs Tryz.f16 [.tmp 4]:=⟨by kernel_rfl⟩
instance:Rs Tryz.f17 [.tmp 4]:=⟨by kernel_rfl⟩
instance:Rs Tryz.f18 [.tmp 4]:=⟨by kernel_rfl⟩
instance:Rs Tryz.f19 [.tmp 2]:=⟨by kernel_rfl⟩
instance:Rs Tryz.f20 [.tmp 2]:=⟨by kernel_rfl⟩
instance:Rs Tryz.f21 [.cell 2 31]:=⟨by kernel_rfl⟩
instance:Rs Tryz.f22 [.tmp 4]:=⟨by kernel_rfl⟩
instance:Rs Tryz.f23 [.tmp 6]:=⟨by kernel_rfl⟩
instance:Rs Tryz.f24 [.tmp 4]:=⟨by kernel_rfl⟩
instance:Rs Tryz.f25 [.tmp 2]:=⟨by kernel_rfl⟩
instance:Rs Tryz.f31 [.tmp 4]:=⟨by kernel_rfl⟩
instance:Rs Tryz.f32 [.tmp 2]:=⟨by kernel_rfl⟩
instance:Rs Tryz.f33 [.tmp 2]:=⟨by kernel_rfl⟩
instance:Rs Tryz.f34 [.tmp 2]:=⟨by kernel_rfl⟩
instance:Rs Tryz.f35 [.tmp 2]:=⟨by kernel_rfl⟩
instance:Rs Tryz.f36 [.tmp 2]:=⟨by kernel_rfl⟩
instance:Rs Tryz.f37 [.tmp 0]:=⟨by kernel_rfl⟩
instance:Rs Tryz.f38 [.tmp 4]:=⟨by kernel_rfl⟩
instance:Rs Tryz.f39 [.tmp 2]:=⟨by kernel_rfl⟩
instance:Rs Tryz.f40 [.tmp 6]:=⟨by kernel_rfl⟩
instance:Rs Tryz.f41 [.tmp 4]:=⟨by kernel_rfl⟩
instance:Rs Tryz.f42 [.tmp 4]:=⟨by kernel_rfl⟩
instance:Rs Tryz.f43 [.tmp 8]:=⟨by kernel_rfl⟩
instance:Rs Tryz.f44 [.tmp 2]:=⟨by kernel_rfl⟩
instance:Rs Tryz.f45 [.tmp 4]:=⟨by kernel_rfl⟩
instance:Rs Tryz.f46 [.tmp 4]:=⟨by kernel_rfl⟩
instance:Rs Tryz.f47 [.cell 2 27,.tmp 3]:=⟨by kernel_rfl⟩
instance:Rs Tryz.f48 [.tmp 4]:=⟨by kernel_rfl⟩
instance:Rs Tryz.f49 [.tmp 6]:=⟨by kernel_rfl⟩
instance:Rs Tryz.f50 [.tmp 4]:=⟨by kernel_rfl⟩
instance:Rs Tryz.f51 [.tmp 6]:=⟨by kernel_rfl⟩
instance:Rs Tryz.f52 [.tmp 4]:=⟨by kernel_rfl⟩
instance:Rs Tryz.f53 [.tmp 2]:=⟨by kernel_rfl⟩
instance:Rs Tryz.f54 [.tmp 4]:=⟨by kernel_rfl⟩
instance:Rs Tryz.f55 [.tmp 4]:=⟨by kernel_rfl⟩
instance:Rs Tryz.f56 [.tmp 4]:=⟨by kernel_rfl⟩
instance:Rs Tryz.f57 [.tmp 4]:=⟨by kernel_rfl⟩
instance:Rs Tryz.f58 [.tmp 4]:=⟨by kernel_rfl⟩
instance:Rs Tryz.f59 []:=⟨by kernel_rfl⟩
instance:Rs Tryz.f60 []:=⟨by kernel_rfl⟩
instance:Rs Tryz.f61 [.tmp 2]:=⟨by kernel_rfl⟩
instance:Rs Tryz.f62 [.tmp 2]:=⟨by kernel_rfl⟩
instance:Rs Tryz.f63 [.tmp 6]:=⟨by kernel_rfl⟩
instance:Rs Tryz.f64 [.tmp 4]:=⟨by kernel_rfl⟩
instance:Rs Tryz.f65 [.tmp 2]:=⟨by kernel_rfl⟩
instance:Rs Tryz.f66 [.tmp 4]:=⟨by kernel_rfl⟩
instance:Rs Tryz.f67 [.tmp 2]:=⟨by kernel_rfl⟩
instance:Rs Tryz.f68 [.tmp 4]:=⟨by kernel_rfl⟩
instance:Rs Tryz.f69 [.tmp 4]:=⟨by kernel_rfl⟩
instance:Rs Tryz.f70 [.tmp 4]:=⟨by kernel_rfl⟩
instance:Rs Tryz.f71 [.tmp 4]:=⟨by kernel_rfl⟩
instance:Rs Tryz.f72 [.tmp 4]:=⟨by kernel_rfl⟩
instance:Rs Tryz.f73 [.tmp 2]:=⟨by kernel_rfl⟩
instance:Rs Tryz.f74 [.tmp 2]:=⟨by kernel_rfl⟩
instance:Rs Tryz.f75 [.tmp 2]:=⟨by kernel_rfl⟩
instance:Rs Tryz.f76 [.cell 4 117]:=⟨by kernel_rfl⟩
instance:Rs Tryz.f77 [.tmp 6]:=⟨by kernel_rfl⟩
instance:Rs Tryz.f78 [.tmp 4]:=⟨by kernel_rfl⟩
instance:Rs Tryz.f79 [.tmp 2]:=⟨by kernel_rfl⟩
instance:Rs Tryz.f80 [.tmp 4]:=⟨by kernel_rfl⟩
instance:Rs Tryz.f81 [.cell 2 163,.tmp 3]:=⟨by kernel_rfl⟩
instance:Rs Tryz.f82 [.tmp 4]:=⟨by kernel_rfl⟩
instance:Rs Tryz.f83 [.tmp 6]:=⟨by kernel_rfl⟩
instance:Rs Tryz.f84 [.tmp 4]:=⟨by kernel_rfl⟩
instance:Rs Tryz.f85 [.tmp 4]:=⟨by kernel_rfl⟩
instance:Rs Tryz.f86 []:=⟨by kernel_rfl⟩
instance:Rs Tryz.f87 [.tmp 6]:=⟨by kernel_rfl⟩
instance:Rs Tryz.f88 [.tmp 6]:=⟨by kernel_rfl⟩
instance:Rs Tryz.f89 [.tmp 2]:=⟨by kernel_rfl⟩
instance:Rs Tryz.f90 [.tmp 2]:=⟨by kernel_rfl⟩
instance:Rs Tryz.f91 []:=⟨by kernel_rfl⟩
instance:Rs Tryz.f92 [.tmp 4]:=⟨by kernel_rfl⟩
instance:Rs Tryz.f93 []:=⟨by kernel_rfl⟩
instance:Rs Tryz.f94 [.tmp 4]:=⟨by kernel_rfl⟩
instance:Rs Tryz.f95 [.tmp 4]:=⟨by kernel_rfl⟩
instance:Rs Tryz.f96 [.tmp 4]:=⟨by kernel_rfl⟩
instance:Rs Tryz.f97 [.tmp 4]:=⟨by kernel_rfl⟩
instance:Rs Tryz.f98 [.tmp 2]:=⟨by kernel_rfl⟩
instance:Rs Tryz.f99 [.tmp 2]:=⟨by kernel_rfl⟩
instance:Rs Tryz.f100 [.tmp 2]:=⟨by kernel_rfl⟩
instance:Rs Tryz.f101 [.tmp 4]:=⟨by kernel_rfl⟩
instance:Rs Tryz.f102 [.tmp 2]:=⟨by kernel_rfl⟩
instance:Rs Tryz.f103 [.tmp 2]:=⟨by kernel_rfl⟩
instance:Rs Tryz.f104 [.tmp 2]:=⟨by kernel_rfl⟩
instance:Rs Tryz.f105 [.tmp 6]:=⟨by kernel_rfl⟩
instance:Rs Tryz.f106 [.tmp 6]:=⟨by kernel_rfl⟩
instance:Rs Tryz.f107 [.tmp 2]:=⟨by kernel_rfl⟩
instance:Rs Tryz.f108 [.tmp 6]:=⟨by kernel_rfl⟩
instance:Rs Tryz.f109 [.tmp 2]:=⟨by kernel_rfl⟩
instance:Rs Tryz.f110 [.tmp 6]:=⟨by kernel_rfl⟩
instance:Rs Tryz.f111 [.tmp 2]:=⟨by kernel_rfl⟩
instance:Rs Tryz.f112 []:=⟨by kernel_rfl⟩
instance:Rs Tryz.f113 [.tmp 8]:=⟨by kernel_rfl⟩
instance:Rs Tryz.f114 [.tmp 2]:=⟨by kernel_rfl⟩
instance:Rs Tryz.f115 [.tmp 2]:=⟨by kernel_rfl⟩
instance:Rs Tryz.f116 [.tmp 4]:=⟨by kernel_rfl⟩
instance:Rs Tryz.f117 [.tmp 4,.tmp 5]:=⟨by kernel_rfl⟩
instance:Rs Tryz.f118 [.tmp 2]:=⟨by kernel_rfl⟩
instance:Rs Tryz.f119 [.tmp 2]:=⟨by kernel_rfl⟩
instance:Rs Tryz.f120 [.tmp 2]:=⟨by kernel_rfl⟩
instance:Rs Tryz.f121 [.tmp 4]:=⟨by kernel_rfl⟩
instance:Rs Tryz.f122 [.tmp 4]:=⟨by kernel_rfl⟩
instance:Rs Tryz.f123 [.tmp 4,.tmp 5]:=⟨by kernel_rfl⟩
instance:Rs Tryz.f124 [.tmp 2]:=⟨by kernel_rfl⟩
instance:Rs Tryz.f125 [.cell 2 163,.tmp 3]:=⟨by kernel_rfl⟩
instance:Rs Tryz.f126 [.tmp 4]:=⟨by kernel_rfl⟩
instance:Rs Tryz.f127 [.tmp 10]:=⟨by kernel_rfl⟩
instance:Rs Tryz.f128 [.tmp 4]:=⟨by kernel_rfl⟩
instance:Rs Tryz.f129 [.tmp 4]:=⟨by kernel_rfl⟩
instance:Rs Tryz.f130 [.tmp 4]:=⟨by kernel_rfl⟩
instance:Rs Tryz.f131 [.tmp 2]:=⟨by kernel_rfl⟩
instance:Rs Tryz.f132 [.tmp 4]:=⟨by kernel_rfl⟩
instance:Rs Tryz.f133 [.tmp 4]:=⟨by kernel_rfl⟩
instance:Rs Tryz.f134 [.tmp 4]:=⟨by kernel_rfl⟩
instance:Rs Tryz.f135 [.tmp 6]:=⟨by kernel_rfl⟩
instance:Rs Tryz.f138 [.tmp 6]:=⟨by kernel_rfl⟩
instance:Rs Tryz.f139 [.tmp 4]:=⟨by kernel_rfl⟩
instance:Rs Tryz.f140 []:=⟨by kernel_rfl⟩
instance:Rs Tryz.f141 [.tmp 4]:=⟨by kernel_rfl⟩
instance:Rs Tryz.f142 [.tmp 3]:=⟨by kernel_rfl⟩
instance:Rs Tryz.f143 [.tmp 4]:=⟨by kernel_rfl⟩
instance:Rs Tryz.f144 [.tmp 3]:=⟨by kernel_rfl⟩
instance:Rs Tryz.f145 [.tmp 2]:=⟨by kernel_rfl⟩
instance:Rs Tryz.f146 [.tmp 6]:=⟨by kernel_rfl⟩
instance:Rs Tryz.f147 [.tmp 4]:=⟨by kernel_rfl⟩
instance:Rs Tryz.f148 [.tmp 3]:=⟨by kernel_rfl⟩
instance:Rs Tryz.f149 [.tmp 2]:=⟨by kernel_rfl⟩
instance:Rs Tryz.f150 [.tmp 6]:=⟨by kernel_rfl⟩
instance:Rs Tryz.f151 [.tmp 4]:=⟨by kernel_rfl⟩
instance:Rs Tryz.f152 [.tmp 3]:=⟨by kernel_rfl⟩
instance:Rs Tryz.f153 [.tmp 6]:=⟨by kernel_rfl⟩
instance:Rs Tryz.f154 [.tmp 2]:=⟨by kernel_rfl⟩
instance:Rs Tryz.f155 [.tmp 6]:=⟨by kernel_rfl⟩
instance:Rs Tryz.f156 [.tmp 2]:=⟨by kernel_rfl⟩
instance:Rs Tryz.f157 [.tmp 6]:=⟨by kernel_rfl⟩
instance:Rs Tryz.f158 [.tmp 2]:=⟨by kernel_rfl⟩
instance:Rs Tryz.f159 [.tmp 4]:=⟨by kernel_rfl⟩
instance:Rs Tryz.f160 [.tmp 4]:=⟨by kernel_rfl⟩
instance:Rs Tryz.f161 [.tmp 4]:=⟨by kernel_rfl⟩
instance:Rs Tryz.f162 [.tmp 6]:=⟨by kernel_rfl⟩
instance:Rs Tryz.f163 []:=⟨by kernel_rfl⟩
instance:Rs Tryz.f164 [.tmp 4]:=⟨by kernel_rfl⟩
instance:Rs Tryz.f165 [.tmp 8]:=⟨by kernel_rfl⟩
instance:Rs Tryz.f166 [.tmp 6]:=⟨by kernel_rfl⟩
instance:Rs Tryz.f167 [.tmp 2]:=⟨by kernel_rfl⟩
instance:Rs Tryz.f168 [.tmp 2]:=⟨by kernel_rfl⟩
instance:Rs Tryz.f169 [.cell 4 163]:=⟨by kernel_rfl⟩
instance:Rs Tryz.f170 [.tmp 6]:=⟨by kernel_rfl⟩
instance:Rs Tryz.f171 [.tmp 4]:=⟨by kernel_rfl⟩
instance:Rs Tryz.f172 [.tmp 4]:=⟨by kernel_rfl⟩
instance:Rs Tryz.f173 [.tmp 4]:=⟨by kernel_rfl⟩
instance:Rs Tryz.f174 []:=⟨by kernel_rfl⟩
instance:Rs Tryz.f185 [.tmp 4]:=⟨by kernel_rfl⟩
instance:Rs Tryz.f186 [.tmp 6]:=⟨by kernel_rfl⟩
instance:Rs Tryz.f187 [.tmp 4]:=⟨by kernel_rfl⟩
instance:Rs Tryz.f188 [.tmp 4]:=⟨by kernel_rfl⟩
instance:Rs Tryz.f189 [.tmp 2]:=⟨by kernel_rfl⟩
instance:Rs Tryz.f190 [.tmp 4]:=⟨by kernel_rfl⟩
instance:Rs Tryz.f191 [.tmp 4]:=⟨by kernel_rfl⟩
instance:Rs Tryz.f192 [.tmp 6]:=⟨by kernel_rfl⟩
instance:Rs Tryz.f193 [.tmp 4]:=⟨by kernel_rfl⟩
instance:Rs Tryz.f194 [.tmp 3]:=⟨by kernel_rfl⟩
instance:Rs Tryz.f195 [.tmp 4]:=⟨by kernel_rfl⟩
instance:Rs Tryz.f196 [.tmp 4]:=⟨by kernel_rfl⟩
instance:Rs Tryz.f197 [.tmp 3]:=⟨by kernel_rfl⟩
instance:Rs Tryz.f198 [.tmp 4]:=⟨by kernel_rfl⟩
instance:Rs Tryz.f199 [.tmp 4]:=⟨by kernel_rfl⟩
instance:Rs Tryz.f200 [.tmp 3]:=⟨by kernel_rfl⟩
instance:Rs Tryz.f201 [.tmp 4]:=⟨by kernel_rfl⟩
instance:Rs Tryz.f202 [.tmp 3]:=⟨by kernel_rfl⟩
instance:Rs Tryz.f203 [.tmp 2]:=⟨by kernel_rfl⟩
instance:Rs Tryz.f204 [.tmp 6]:=⟨by kernel_rfl⟩
instance:Rs Tryz.f205 [.tmp 4]:=⟨by kernel_rfl⟩
instance:Rs Tryz.f206 [.tmp 2]:=⟨by kernel_rfl⟩
instance:Rs Tryz.f207 [.tmp 6]:=⟨by kernel_rfl⟩
instance:Rs Tryz.f213 [.tmp 2]:=⟨by kernel_rfl⟩
instance:Rs Tryz.f214 [.tmp 2]:=⟨by kernel_rfl⟩
instance:Rs Tryz.f215 [.tmp 4]:=⟨by kernel_rfl⟩
instance:Rs Tryz.f216 [.tmp 4]:=⟨by kernel_rfl⟩
instance:Rs Tryz.f217 [.tmp 4]:=⟨by kernel_rfl⟩
instance:Rs Tryz.f218 [.tmp 4]:=⟨by kernel_rfl⟩
instance:Rs Tryz.f219 []:=⟨by kernel_rfl⟩
instance:Rs Tryz.f220 [.tmp 2]:=⟨by kernel_rfl⟩
instance:Rs Tryz.f221 []:=⟨by kernel_rfl⟩
instance:Rs Tryz.f223 []:=⟨by kernel_rfl⟩
instance:Rs Tryz.f224 []:=⟨by kernel_rfl⟩
instance:Rs Tryz.f225 []:=⟨by kernel_rfl⟩
instance:Rs Tryz.f226 []:=⟨by kernel_rfl⟩
instance:Rs Tryz.f227 []:=⟨by kernel_rfl⟩
theorem tf3:TF 3 (some 1) (some false) none none (some .i64) false false false∧(zS prog 3=some (.int .i64 (0))):=by and_intros<;>kernel_rfl
theorem tf4:TF 4 (some 1) (some false) none none none true false false∧(zS prog 4=some (.bool false)):=by and_intros<;>kernel_rfl
theorem tf5:TF 5 (some 1) (some false) none none (some .u8) false false false∧(zS prog 5=some (.int .u8 (0))):=by and_intros<;>kernel_rfl
theorem tf9:TF 9 (some 1) (some false) none none none false true false∧(zS prog 9=some (.string ⟨#[]⟩)):=by and_intros<;>kernel_rfl
theorem tf21:TF 21 (some 1) (some false) none none (some .i32) false false false∧(zS prog 21=some (.int .i32 (0))):=by and_intros<;>kernel_rfl
theorem tf22:TF 22 (some 1) (some false) (some 73) none none false false false∧(zS prog 22=some (.slice none 0 0))∧(wD prog 22=some (73,4,72)):=by and_intros<;>kernel_rfl
theorem tf23:TF 23 (some 1) (some false) (some 109) none none false false false∧(zS prog 23=some (.slice none 0 0))∧(wD prog 23=some (109,7,120)):=by and_intros<;>kernel_rfl
theorem tf24:TF 24 (some 1) (some false) (some 59) none none false false false∧(zS prog 24=some (.slice none 0 0))∧(wD prog 24=some (59,7,88)):=by and_intros<;>kernel_rfl
theorem tf25:TF 25 (some 1) (some false) (some 117) none none false false false∧(zS prog 25=some (.slice none 0 0))∧(wD prog 25=some (117,9,128)):=by and_intros<;>kernel_rfl
theorem tf27:TF 27 (some 4) (some true) none none none false false false∧(zS prog 27=some (.agg #[(.slice none 0 0),(.slice none 0 0),(.slice none 0 0),(.slice none 0 0)]))∧(zR prog 27 0=some (0,22))∧(zR prog 27 1=some (1,23))∧(zR prog 27 2=some (2,24))∧(zR prog 27 3=some (3,25))∧(xW prog 27=some (rH [(0,1),(1,1),(2,1),(3,1)])):=⟨by and_intros<;>kernel_rfl,by kernel_rfl,by kernel_rfl,by kernel_rfl,by kernel_rfl,by kernel_rfl,xP Tryz.underlying27 (by kernel_rfl) (by kernel_rfl)⟩
theorem tf28:TF 28 (some 1) (some false) (some 63) none none false false false∧(zS prog 28=some (.slice none 0 0))∧(wD prog 28=some (63,1,24)):=by and_intros<;>kernel_rfl
theorem tf29:TF 29 (some 1) (some false) (some 89) none none false false false∧(zS prog 29=some (.slice none 0 0))∧(wD prog 29=some (89,1,24)):=by and_intros<;>kernel_rfl
theorem tf31:TF 31 (some 2) (some true) none none none false false false∧(zS prog 31=some (.agg #[(.slice none 0 0),(.slice none 0 0)]))∧(zR prog 31 0=some (0,28))∧(zR prog 31 1=some (1,29))∧(xW prog 31=some (rH [(0,1),(1,1)])):=⟨by and_intros<;>kernel_rfl,by kernel_rfl,by kernel_rfl,by kernel_rfl,xP Tryz.underlying31 (by kernel_rfl) (by kernel_rfl)⟩
theorem tf32:TF 32 (some 1) (some false) (some 79) none none false false false∧(zS prog 32=some (.slice none 0 0))∧(wD prog 32=some (79,3,32)):=by and_intros<;>kernel_rfl
theorem tf34:TF 34 (some 3) (some true) none none none false false false∧(zS prog 34=some (.agg #[(.int .i64 (0)),(.slice none 0 0),(.int .i64 (0))]))∧(zR prog 34 0=some (0,3))∧(zR prog 34 1=some (1,32))∧(zR prog 34 2=some (2,3))∧(xW prog 34=some (rH [(0,1),(1,1),(2,1)])):=⟨by and_intros<;>kernel_rfl,by kernel_rfl,by kernel_rfl,by kernel_rfl,by kernel_rfl,xP Tryz.underlying34 (by kernel_rfl) (by kernel_rfl)⟩
theorem tf36:TF 36 (some 2) (some true) none none none false false false∧(zS prog 36=some (.agg #[(.int .i64 (0)),(.int .i64 (0))]))∧(zR prog 36 0=some (0,3))∧(zR prog 36 1=some (1,3))∧(xW prog 36=some (rH [(0,1),(1,1)])):=⟨by and_intros<;>kernel_rfl,by kernel_rfl,by kernel_rfl,by kernel_rfl,xP Tryz.underlying36 (by kernel_rfl) (by kernel_rfl)⟩
theorem tf38:TF 38 (some 6) (some true) none none none false false false∧(zS prog 38=some (.agg #[(.int .i64 (0)),(.int .i64 (0)),(.slice none 0 0),(.int .i64 (0)),(.int .i64 (0)),(.int .i64 (0))]))∧(zR prog 38 0=some (0,3))∧(zR prog 38 1=some (1,34))∧(zR prog 38 2=some (4,36))∧(xW prog 38=some (rH [(0,1),(1,3),(4,2)])):=⟨by and_intros<;>kernel_rfl,by kernel_rfl,by kernel_rfl,by kernel_rfl,by kernel_rfl,xP Tryz.underlying38 (by kernel_rfl) (by kernel_rfl)⟩
theorem tf41:TF 41 (some 1) (some false) none none (some .i64) false false false∧(zS prog 41=some (.int .i64 (0))):=by and_intros<;>kernel_rfl
theorem tf44:TF 44 (some 1) (some false) (some 38) none none false false false∧(zS prog 44=some (.slice none 0 0))∧(wD prog 44=some (38,6,64)):=by and_intros<;>kernel_rfl
theorem tf57:TF 57 (some 1) (some false) (some 3) none none false false false∧(zS prog 57=some (.slice none 0 0))∧(wD prog 57=some (3,1,8)):=by and_intros<;>kernel_rfl
theorem tf59:TF 59 (some 7) (some true) none none none false false false∧(zS prog 59=some (.agg #[(.string ⟨#[]⟩),(.slice none 0 0),(.string ⟨#[]⟩),(.int .i64 (0)),(.bool false),(.int .i64 (0)),(.int .i64 (0))]))∧(zR prog 59 0=some (0,9))∧(zR prog 59 1=some (1,57))∧(zR prog 59 2=some (2,9))∧(zR prog 59 3=some (3,3))∧(zR prog 59 4=some (4,4))∧(zR prog 59 5=some (5,3))∧(zR prog 59 6=some (6,3))∧(xW prog 59=some (rH [(0,1),(1,1),(2,1),(3,1),(4,1),(5,1),(6,1)])):=⟨by and_intros<;>kernel_rfl,by kernel_rfl,by kernel_rfl,by kernel_rfl,by kernel_rfl,by kernel_rfl,by kernel_rfl,by kernel_rfl,by kernel_rfl,xP Tryz.underlying59 (by kernel_rfl) (by kernel_rfl)⟩
theorem tf60:TF 60 (some 1) (some false) (some 32) none none false false false∧(zS prog 60=some (.slice none 0 0))∧(wD prog 60=some (32,1,24)):=by and_intros<;>kernel_rfl
theorem tf62:TF 62 (some 1) (some false) (some 84) none none false false false∧(zS prog 62=some (.slice none 0 0))∧(wD prog 62=some (84,2,48)):=by and_intros<;>kernel_rfl
theorem tf63:TF 63 (some 1) (some false) (some 84) none none false false false∧(zS prog 63=some (.slice none 0 0))∧(wD prog 63=some (84,2,48)):=by and_intros<;>kernel_rfl
theorem tf70:TF 70 (some 1) (some false) (some 9) none none false false false∧(zS prog 70=some (.slice none 0 0))∧(wD prog 70=some (9,1,16)):=by and_intros<;>kernel_rfl
theorem tf71:TF 71 (some 1) (some false) (some 200) none none false false false∧(zS prog 71=some (.slice none 0 0))∧(wD prog 71=some (200,2,16)):=by and_intros<;>kernel_rfl
theorem tf73:TF 73 (some 4) (some true) none none none false false false∧(zS prog 73=some (.agg #[(.string ⟨#[]⟩),(.slice none 0 0),(.slice none 0 0),(.int .i64 (0))]))∧(zR prog 73 0=some (0,9))∧(zR prog 73 1=some (1,70))∧(zR prog 73 2=some (2,71))∧(zR prog 73 3=some (3,3))∧(xW prog 73=some (rH [(0,1),(1,1),(2,1),(3,1)])):=⟨by and_intros<;>kernel_rfl,by kernel_rfl,by kernel_rfl,by kernel_rfl,by kernel_rfl,by kernel_rfl,xP Tryz.underlying73 (by kernel_rfl) (by kernel_rfl)⟩
theorem tf79:TF 79 (some 3) (some true) none none none false false false∧(zS prog 79=some (.agg #[(.int .i64 (0)),(.int .i64 (0)),(.string ⟨#[]⟩)]))∧(zR prog 79 0=some (0,3))∧(zR prog 79 1=some (1,3))∧(zR prog 79 2=some (2,9))∧(xW prog 79=some (rH [(0,1),(1,1),(2,1)])):=⟨by and_intros<;>kernel_rfl,by kernel_rfl,by kernel_rfl,by kernel_rfl,by kernel_rfl,xP Tryz.underlying79 (by kernel_rfl) (by kernel_rfl)⟩
theorem tf82:TF 82 (some 1) (some false) (some 36) none none false false false∧(zS prog 82=some (.slice none 0 0))∧(wD prog 82=some (36,2,16)):=by and_intros<;>kernel_rfl
theorem tf84:TF 84 (some 2) (some true) none none none false false false∧(zS prog 84=some (.agg #[(.slice none 0 0),(.slice none 0 0)]))∧(zR prog 84 0=some (0,32))∧(zR prog 84 1=some (1,82))∧(xW prog 84=some (rH [(0,1),(1,1)])):=⟨by and_intros<;>kernel_rfl,by kernel_rfl,by kernel_rfl,by kernel_rfl,xP Tryz.underlying84 (by kernel_rfl) (by kernel_rfl)⟩
theorem tf88:TF 88 (some 1) (some false) (some 130) none none false false false∧(zS prog 88=some (.slice none 0 0))∧(wD prog 88=some (130,2,48)):=by and_intros<;>kernel_rfl
theorem tf89:TF 89 (some 1) (some false) (some 130) none none false false false∧(zS prog 89=some (.slice none 0 0))∧(wD prog 89=some (130,2,48)):=by and_intros<;>kernel_rfl
theorem tf93:TF 93 (some 1) (some false) none none none false false true∧(zS prog 93=some .nilFunc):=by and_intros<;>kernel_rfl
theorem tf94:TF 94 (some 1) (some false) none none none false false false∧(zS prog 94=some (.map none)):=by and_intros<;>kernel_rfl
theorem tf96:TF 96 (some 1) (some false) none none none false false false∧(zS prog 96=some (.pointer none)):=by and_intros<;>kernel_rfl
theorem tf98:TF 98 (some 1) (some false) none none none false false true∧(zS prog 98=some .nilFunc):=by and_intros<;>kernel_rfl
theorem tf105:TF 105 (some 1) (some false) (some 149) none none false false false∧(zS prog 105=some (.slice none 0 0))∧(wD prog 105=some (149,2,16)):=by and_intros<;>kernel_rfl
theorem tf109:TF 109 (some 7) (some true) none none none false false false∧(zS prog 109=some (.agg #[(.string ⟨#[]⟩),(.string ⟨#[]⟩),(.int .i64 (0)),(.slice none 0 0),(.slice none 0 0),(.slice none 0 0),(.int .i64 (0))]))∧(zR prog 109 0=some (0,9))∧(zR prog 109 1=some (1,9))∧(zR prog 109 2=some (2,3))∧(zR prog 109 3=some (3,70))∧(zR prog 109 4=some (4,70))∧(zR prog 109 5=some (5,57))∧(zR prog 109 6=some (6,3))∧(xW prog 109=some (rH [(0,1),(1,1),(2,1),(3,1),(4,1),(5,1),(6,1)])):=⟨by and_intros<;>kernel_rfl,by kernel_rfl,by kernel_rfl,by kernel_rfl,by kernel_rfl,by kernel_rfl,by kernel_rfl,by kernel_rfl,by kernel_rfl,xP Tryz.underlying109 (by kernel_rfl) (by kernel_rfl)⟩
theorem tf112:TF 112 (some 1) (some false) (some 207) none none false false false∧(zS prog 112=some (.slice none 0 0))∧(wD prog 112=some (207,4,48)):=by and_intros<;>kernel_rfl
theorem tf114:TF 114 (some 4) (some true) none none none false false false∧(zS prog 114=some (.agg #[(.int .i64 (0)),(.string ⟨#[]⟩),(.string ⟨#[]⟩),(.int .i64 (0))]))∧(zR prog 114 0=some (0,3))∧(zR prog 114 1=some (1,9))∧(zR prog 114 2=some (2,9))∧(zR prog 114 3=some (3,3))∧(xW prog 114=some (rH [(0,1),(1,1),(2,1),(3,1)])):=⟨by and_intros<;>kernel_rfl,by kernel_rfl,by kernel_rfl,by kernel_rfl,by kernel_rfl,by kernel_rfl,xP Tryz.underlying114 (by kernel_rfl) (by kernel_rfl)⟩
theorem tf115:TF 115 (some 1) (some false) (some 120) none none false false false∧(zS prog 115=some (.slice none 0 0))∧(wD prog 115=some (120,9,112)):=by and_intros<;>kernel_rfl
theorem tf117:TF 117 (some 9) (some true) none none none false false false∧(zS prog 117=some (.agg #[(.string ⟨#[]⟩),(.int .i64 (0)),(.slice none 0 0),(.int .i64 (0)),(.string ⟨#[]⟩),(.string ⟨#[]⟩),(.int .i64 (0)),(.slice none 0 0),(.int .i64 (0))]))∧(zR prog 117 0=some (0,9))∧(zR prog 117 1=some (1,3))∧(zR prog 117 2=some (2,112))∧(zR prog 117 3=some (3,114))∧(zR prog 117 4=some (7,115))∧(zR prog 117 5=some (8,3))∧(xW prog 117=some (rH [(0,1),(1,1),(2,1),(3,4),(7,1),(8,1)])):=⟨by and_intros<;>kernel_rfl,by kernel_rfl,by kernel_rfl,by kernel_rfl,by kernel_rfl,by kernel_rfl,by kernel_rfl,by kernel_rfl,xP Tryz.underlying117 (by kernel_rfl) (by kernel_rfl)⟩
theorem tf120:TF 120 (some 9) (some true) none none none false false false∧(zS prog 120=some (.agg #[(.int .i64 (0)),(.string ⟨#[]⟩),(.int .i64 (0)),(.slice none 0 0),(.string ⟨#[]⟩),(.string ⟨#[]⟩),(.int .i64 (0)),(.int .i64 (0)),(.int .i64 (0))]))∧(zR prog 120 0=some (0,3))∧(zR prog 120 1=some (1,9))∧(zR prog 120 2=some (2,3))∧(zR prog 120 3=some (3,112))∧(zR prog 120 4=some (4,9))∧(zR prog 120 5=some (5,9))∧(zR prog 120 6=some (6,3))∧(zR prog 120 7=some (7,3))∧(zR prog 120 8=some (8,3))∧(xW prog 120=some (rH [(0,1),(1,1),(2,1),(3,1),(4,1),(5,1),(6,1),(7,1),(8,1)])):=⟨by and_intros<;>kernel_rfl,by kernel_rfl,by kernel_rfl,by kernel_rfl,by kernel_rfl,by kernel_rfl,by kernel_rfl,by kernel_rfl,by kernel_rfl,by kernel_rfl,by kernel_rfl,xP Tryz.underlying120 (by kernel_rfl) (by kernel_rfl)⟩
theorem tf121:TF 121 (some 1) (some false) none none none false false true∧(zS prog 121=some .nilFunc):=by and_intros<;>kernel_rfl
theorem tf122:TF 122 (some 1) (some false) none none none false false true∧(zS prog 122=some .nilFunc):=by and_intros<;>kernel_rfl
theorem tf128:TF 128 (some 1) (some false) (some 161) none none false false false∧(zS prog 128=some (.slice none 0 0))∧(wD prog 128=some (161,3,24)):=by and_intros<;>kernel_rfl
theorem tf130:TF 130 (some 2) (some true) none none none false false false∧(zS prog 130=some (.agg #[(.slice none 0 0),(.slice none 0 0)]))∧(zR prog 130 0=some (0,32))∧(zR prog 130 1=some (1,128))∧(xW prog 130=some (rH [(0,1),(1,1)])):=⟨by and_intros<;>kernel_rfl,by kernel_rfl,by kernel_rfl,by kernel_rfl,xP Tryz.underlying130 (by kernel_rfl) (by kernel_rfl)⟩
theorem tf132:TF 132 (some 1) (some false) none none none false false true∧(zS prog 132=some .nilFunc):=by and_intros<;>kernel_rfl
theorem tf134:TF 134 (some 1) (some false) none none none false false false∧(zS prog 134=some (.pointer none)):=by and_intros<;>kernel_rfl
theorem tf137:TF 137 (some 1) (some false) none none none false false true∧(zS prog 137=some .nilFunc):=by and_intros<;>kernel_rfl
theorem tf139:TF 139 (some 1) (some false) none none none false false true∧(zS prog 139=some .nilFunc):=by and_intros<;>kernel_rfl
theorem tf140:TF 140 (some 1) (some false) none none none false false true∧(zS prog 140=some .nilFunc):=by and_intros<;>kernel_rfl
theorem tf141:TF 141 (some 1) (some false) none none none false false true∧(zS prog 141=some .nilFunc):=by and_intros<;>kernel_rfl
theorem tf143:TF 143 (some 1) (some false) none none none false false false∧(zS prog 143=some (.pointer none)):=by and_intros<;>kernel_rfl
theorem tf145:TF 145 (some 1) (some false) none none (some .u64) false false false∧(zS prog 145=some (.int .u64 (0))):=by and_intros<;>kernel_rfl
theorem tf146:TF 146 (some 1) (some false) none none (some .u64) false false false∧(zS prog 146=some (.int .u64 (0))):=by and_intros<;>kernel_rfl
theorem tf149:TF 149 (some 2) (some true) none none none false false false∧(zS prog 149=some (.agg #[(.int .i64 (0)),(.int .i64 (0))]))∧(zR prog 149 0=some (0,41))∧(zR prog 149 1=some (1,3))∧(xW prog 149=some (rH [(0,1),(1,1)])):=⟨by and_intros<;>kernel_rfl,by kernel_rfl,by kernel_rfl,by kernel_rfl,xP Tryz.underlying149 (by kernel_rfl) (by kernel_rfl)⟩
theorem tf150:TF 150 (some 1) (some false) none none none false false false∧(zS prog 150=some (.pointer none)):=by and_intros<;>kernel_rfl
theorem tf152:TF 152 (some 1) (some false) none none none false false false∧(zS prog 152=some (.map none)):=by and_intros<;>kernel_rfl
theorem tf154:TF 154 (some 8) (some true) none none none false false false∧(zS prog 154=some (.agg #[(.slice none 0 0),(.slice none 0 0),(.slice none 0 0),(.slice none 0 0),(.map none),(.map none),(.map none),(.slice none 0 0)]))∧(zR prog 154 0=some (0,27))∧(zR prog 154 1=some (4,152))∧(zR prog 154 2=some (5,152))∧(zR prog 154 3=some (6,152))∧(zR prog 154 4=some (7,105))∧(xW prog 154=some (rH [(0,4),(4,1),(5,1),(6,1),(7,1)])):=⟨by and_intros<;>kernel_rfl,by kernel_rfl,by kernel_rfl,by kernel_rfl,by kernel_rfl,by kernel_rfl,by kernel_rfl,xP Tryz.underlying154 (by kernel_rfl) (by kernel_rfl)⟩
theorem tf158:TF 158 (some 1) (some false) (some 4) none none false false false∧(zS prog 158=some (.slice none 0 0))∧(wD prog 158=some (4,1,1)):=by and_intros<;>kernel_rfl
theorem tf161:TF 161 (some 3) (some true) none none none false false false∧(zS prog 161=some (.agg #[(.int .i64 (0)),(.int .i64 (0)),(.int .i64 (0))]))∧(zR prog 161 0=some (0,3))∧(zR prog 161 1=some (1,3))∧(zR prog 161 2=some (2,3))∧(xW prog 161=some (rH [(0,1),(1,1),(2,1)])):=⟨by and_intros<;>kernel_rfl,by kernel_rfl,by kernel_rfl,by kernel_rfl,by kernel_rfl,xP Tryz.underlying161 (by kernel_rfl) (by kernel_rfl)⟩
theorem tf163:TF 163 (some 8) (some true) none (some (8,5)) none false false false∧(zS prog 163=some (.agg #[(.int .u8 (0)),(.int .u8 (0)),(.int .u8 (0)),(.int .u8 (0)),(.int .u8 (0)),(.int .u8 (0)),(.int .u8 (0)),(.int .u8 (0))])):=by and_intros<;>kernel_rfl
theorem tf168:TF 168 (some 1) (some false) none none none false false true∧(zS prog 168=some .nilFunc):=by and_intros<;>kernel_rfl
theorem tf171:TF 171 (some 1) (some false) none none none false false true∧(zS prog 171=some .nilFunc):=by and_intros<;>kernel_rfl
theorem tf173:TF 173 (some 1) (some false) none none none false false false∧(zS prog 173=some (.map none)):=by and_intros<;>kernel_rfl
theorem tf174:TF 174 (some 1) (some false) none none none false false false∧(zS prog 174=some (.map none)):=by and_intros<;>kernel_rfl
theorem tf176:TF 176 (some 6) (some true) none none none false false false∧(zS prog 176=some (.agg #[(.string ⟨#[]⟩),(.slice none 0 0),(.slice none 0 0),(.int .i64 (0)),(.map none),(.map none)]))∧(zR prog 176 0=some (0,73))∧(zR prog 176 1=some (4,173))∧(zR prog 176 2=some (5,174))∧(xW prog 176=some (rH [(0,4),(4,1),(5,1)])):=⟨by and_intros<;>kernel_rfl,by kernel_rfl,by kernel_rfl,by kernel_rfl,by kernel_rfl,xP Tryz.underlying176 (by kernel_rfl) (by kernel_rfl)⟩
theorem tf180:TF 180 (some 1) (some false) none none none false false true∧(zS prog 180=some .nilFunc):=by and_intros<;>kernel_rfl
theorem tf188:TF 188 (some 64) (some true) none (some (64,3)) none false false false∧(zS prog 188=some (.agg #[(.int .i64 (0)),(.int .i64 (0)),(.int .i64 (0)),(.int .i64 (0)),(.int .i64 (0)),(.int .i64 (0)),(.int .i64 (0)),(.int .i64 (0)),(.int .i64 (0)),(.int .i64 (0)),(.int .i64 (0)),(.int .i64 (0)),(.int .i64 (0)),(.int .i64 (0)),(.int .i64 (0)),(.int .i64 (0)),(.int .i64 (0)),(.int .i64 (0)),(.int .i64 (0)),(.int .i64 (0)),(.int .i64 (0)),(.int .i64 (0)),(.int .i64 (0)),(.int .i64 (0)),(.int .i64 (0)),(.int .i64 (0)),(.int .i64 (0)),(.int .i64 (0)),(.int .i64 (0)),(.int .i64 (0)),(.int .i64 (0)),(.int .i64 (0)),(.int .i64 (0)),(.int .i64 (0)),(.int .i64 (0)),(.int .i64 (0)),(.int .i64 (0)),(.int .i64 (0)),(.int .i64 (0)),(.int .i64 (0)),(.int .i64 (0)),(.int .i64 (0)),(.int .i64 (0)),(.int .i64 (0)),(.int .i64 (0)),(.int .i64 (0)),(.int .i64 (0)),(.int .i64 (0)),(.int .i64 (0)),(.int .i64 (0)),(.int .i64 (0)),(.int .i64 (0)),(.int .i64 (0)),(.int .i64 (0)),(.int .i64 (0)),(.int .i64 (0)),(.int .i64 (0)),(.int .i64 (0)),(.int .i64 (0)),(.int .i64 (0)),(.int .i64 (0)),(.int .i64 (0)),(.int .i64 (0)),(.int .i64 (0))])):=by and_intros<;>kernel_rfl
theorem tf192:TF 192 (some 1) (some false) none none none false false true∧(zS prog 192=some .nilFunc):=by and_intros<;>kernel_rfl
theorem tf195:TF 195 (some 1) (some false) none none none false false true∧(zS prog 195=some .nilFunc):=by and_intros<;>kernel_rfl
theorem tf200:TF 200 (some 2) (some true) none (some (2,3)) none false false false∧(zS prog 200=some (.agg #[(.int .i64 (0)),(.int .i64 (0))])):=by and_intros<;>kernel_rfl
theorem tf207:TF 207 (some 4) (some true) none none none false false false∧(zS prog 207=some (.agg #[(.string ⟨#[]⟩),(.int .i64 (0)),(.int .i64 (0)),(.string ⟨#[]⟩)]))∧(zR prog 207 0=some (0,9))∧(zR prog 207 1=some (1,79))∧(xW prog 207=some (rH [(0,1),(1,3)])):=⟨by and_intros<;>kernel_rfl,by kernel_rfl,by kernel_rfl,by kernel_rfl,xP Tryz.underlying207 (by kernel_rfl) (by kernel_rfl)⟩
theorem tf210:TF 210 (some 1) (some false) none none none false false false∧(zS prog 210=some (.pointer none)):=by and_intros<;>kernel_rfl
theorem tf211:TF 211 (some 1) (some false) none none none false false false∧(zS prog 211=some (.pointer none)):=by and_intros<;>kernel_rfl
theorem tf221:TF 221 (some 10) (some true) none (some (10,9)) none false false false∧(zS prog 221=some (.agg #[(.string ⟨#[]⟩),(.string ⟨#[]⟩),(.string ⟨#[]⟩),(.string ⟨#[]⟩),(.string ⟨#[]⟩),(.string ⟨#[]⟩),(.string ⟨#[]⟩),(.string ⟨#[]⟩),(.string ⟨#[]⟩),(.string ⟨#[]⟩)])):=by and_intros<;>kernel_rfl
theorem tf222:TF 222 (some 1) (some false) none none none false false true∧(zS prog 222=some .nilFunc):=by and_intros<;>kernel_rfl
theorem tf224:TF 224 (some 1) (some false) none none none false false true∧(zS prog 224=some .nilFunc):=by and_intros<;>kernel_rfl
theorem tf230:TF 230 (some 1) (some false) none none (some .u64) false false false∧(zS prog 230=some (.int .u64 (0))):=by and_intros<;>kernel_rfl
theorem tf232:TF 232 (some 1) (some false) (some 146) none none false false false∧(zS prog 232=some (.slice none 0 0))∧(wD prog 232=some (146,1,8)):=by and_intros<;>kernel_rfl
theorem tf234:TF 234 (some 1) (some false) (some 5) none none false false false∧(zS prog 234=some (.slice none 0 0))∧(wD prog 234=some (5,1,1)):=by and_intros<;>kernel_rfl
theorem tf243:TF 243 (some 1) (some false) none none none false false true∧(zS prog 243=some .nilFunc):=by and_intros<;>kernel_rfl
theorem tf245:TF 245 (some 1) (some false) none none none false false true∧(zS prog 245=some .nilFunc):=by and_intros<;>kernel_rfl
theorem tf251:TF 251 (some 1) (some false) none none none false false false∧(zS prog 251=some (.pointer none)):=by and_intros<;>kernel_rfl
theorem tf252:TF 252 (some 36) (some true) none (some (36,3)) none false false false∧(zS prog 252=some (.agg #[(.int .i64 (0)),(.int .i64 (0)),(.int .i64 (0)),(.int .i64 (0)),(.int .i64 (0)),(.int .i64 (0)),(.int .i64 (0)),(.int .i64 (0)),(.int .i64 (0)),(.int .i64 (0)),(.int .i64 (0)),(.int .i64 (0)),(.int .i64 (0)),(.int .i64 (0)),(.int .i64 (0)),(.int .i64 (0)),(.int .i64 (0)),(.int .i64 (0)),(.int .i64 (0)),(.int .i64 (0)),(.int .i64 (0)),(.int .i64 (0)),(.int .i64 (0)),(.int .i64 (0)),(.int .i64 (0)),(.int .i64 (0)),(.int .i64 (0)),(.int .i64 (0)),(.int .i64 (0)),(.int .i64 (0)),(.int .i64 (0)),(.int .i64 (0)),(.int .i64 (0)),(.int .i64 (0)),(.int .i64 (0)),(.int .i64 (0))])):=by and_intros<;>kernel_rfl
theorem tf254:TF 254 (some 73) (some true) none none none false false false∧(zS prog 254=some (.agg #[(.map none),(.int .i64 (0)),(.int .i64 (0)),(.int .i64 (0)),(.int .i64 (0)),(.int .i64 (0)),(.int .i64 (0)),(.int .i64 (0)),(.int .i64 (0)),(.int .i64 (0)),(.int .i64 (0)),(.int .i64 (0)),(.int .i64 (0)),(.int .i64 (0)),(.int .i64 (0)),(.int .i64 (0)),(.int .i64 (0)),(.int .i64 (0)),(.int .i64 (0)),(.int .i64 (0)),(.int .i64 (0)),(.int .i64 (0)),(.int .i64 (0)),(.int .i64 (0)),(.int .i64 (0)),(.int .i64 (0)),(.int .i64 (0)),(.int .i64 (0)),(.int .i64 (0)),(.int .i64 (0)),(.int .i64 (0)),(.int .i64 (0)),(.int .i64 (0)),(.int .i64 (0)),(.int .i64 (0)),(.int .i64 (0)),(.int .i64 (0)),(.int .i64 (0)),(.int .i64 (0)),(.int .i64 (0)),(.int .i64 (0)),(.int .i64 (0)),(.int .i64 (0)),(.int .i64 (0)),(.int .i64 (0)),(.int .i64 (0)),(.int .i64 (0)),(.int .i64 (0)),(.int .i64 (0)),(.int .i64 (0)),(.int .i64 (0)),(.int .i64 (0)),(.int .i64 (0)),(.int .i64 (0)),(.int .i64 (0)),(.int .i64 (0)),(.int .i64 (0)),(.int .i64 (0)),(.int .i64 (0)),(.int .i64 (0)),(.int .i64 (0)),(.int .i64 (0)),(.int .i64 (0)),(.int .i64 (0)),(.int .i64 (0)),(.int .i64 (0)),(.int .i64 (0)),(.int .i64 (0)),(.int .i64 (0)),(.int .i64 (0)),(.int .i64 (0)),(.int .i64 (0)),(.int .i64 (0))]))∧(zR prog 254 0=some (0,152))∧(zR prog 254 1=some (1,252))∧(zR prog 254 2=some (37,252))∧(xW prog 254=some (rH [(0,1),(1,36),(37,36)])):=⟨by and_intros<;>kernel_rfl,by kernel_rfl,by kernel_rfl,by kernel_rfl,by kernel_rfl,xP Tryz.underlying254 (by kernel_rfl) (by kernel_rfl)⟩
theorem tf274:TF 274 (some 1) (some false) none none none false false true∧(zS prog 274=some .nilFunc):=by and_intros<;>kernel_rfl
theorem tf297:TF 297 (some 64) (some true) none (some (64,5)) none false false false∧(zS prog 297=some (.agg #[(.int .u8 (0)),(.int .u8 (0)),(.int .u8 (0)),(.int .u8 (0)),(.int .u8 (0)),(.int .u8 (0)),(.int .u8 (0)),(.int .u8 (0)),(.int .u8 (0)),(.int .u8 (0)),(.int .u8 (0)),(.int .u8 (0)),(.int .u8 (0)),(.int .u8 (0)),(.int .u8 (0)),(.int .u8 (0)),(.int .u8 (0)),(.int .u8 (0)),(.int .u8 (0)),(.int .u8 (0)),(.int .u8 (0)),(.int .u8 (0)),(.int .u8 (0)),(.int .u8 (0)),(.int .u8 (0)),(.int .u8 (0)),(.int .u8 (0)),(.int .u8 (0)),(.int .u8 (0)),(.int .u8 (0)),(.int .u8 (0)),(.int .u8 (0)),(.int .u8 (0)),(.int .u8 (0)),(.int .u8 (0)),(.int .u8 (0)),(.int .u8 (0)),(.int .u8 (0)),(.int .u8 (0)),(.int .u8 (0)),(.int .u8 (0)),(.int .u8 (0)),(.int .u8 (0)),(.int .u8 (0)),(.int .u8 (0)),(.int .u8 (0)),(.int .u8 (0)),(.int .u8 (0)),(.int .u8 (0)),(.int .u8 (0)),(.int .u8 (0)),(.int .u8 (0)),(.int .u8 (0)),(.int .u8 (0)),(.int .u8 (0)),(.int .u8 (0)),(.int .u8 (0)),(.int .u8 (0)),(.int .u8 (0)),(.int .u8 (0)),(.int .u8 (0)),(.int .u8 (0)),(.int .u8 (0)),(.int .u8 (0))])):=by and_intros<;>kernel_rfl
attribute [go_sem] tf105 tf109 tf112 tf114 tf115 tf117 tf120 tf121 tf122 tf128 tf130 tf132 tf134 tf137 tf139 tf140 tf141 tf143 tf145 tf146 tf149 tf150 tf152 tf154 tf158 tf161 tf163 tf168 tf171 tf173 tf174 tf176 tf180 tf188 tf192 tf195 tf200 tf207 tf21 tf210 tf211 tf22 tf221 tf222 tf224 tf23 tf230 tf232 tf234 tf24 tf243 tf245 tf25 tf251 tf252 tf254 tf27 tf274 tf28 tf29 tf297 tf3 tf31 tf32 tf34 tf36 tf38 tf4 tf41 tf44 tf5 tf57 tf59 tf60 tf62 tf63 tf70 tf71 tf73 tf79 tf82 tf84 tf88 tf89 tf9 tf93 tf94 tf96 tf98
end Go.AL
namespace Go.AL
open Go.Proofs Go.Proofs.Tryz
abbrev i64 (n:Int):PV:= .sc (.int .i64 n)
abbrev bo (b:Bool):PV:= .sc (.bool b)
theorem zhI:IntKind.i64.min= -9223372036854775808:=by decide
theorem zhJ:IntKind.i64.max=9223372036854775807:=by decide
theorem zlC:IntKind.u8.min=0:=by decide
theorem zlD:IntKind.u8.max=255:=by decide
theorem zeX:(0:Nat)<1:=Nat.zero_lt_one
theorem xM {n:Int} (h1: -9223372036854775808≤n) (h2:n≤9223372036854775807):IntKind.i64.wrap n=n:=IntWalk.i64_in n ⟨h1,h2⟩
theorem tint8:True:=trivial
theorem zG {α β:Type} {f:α→β} {l:List α} {n:Nat} (d:β) (h:n<l.length):(l.map f).getD n d=f l[n]:=by
 rw [List.getD_eq_getElem?_getD,List.getElem?_map,List.getElem?_eq_getElem h];rfl
theorem fD {α β:Type} {f:α→β} {l:List α} {n:Nat} (d:β) (h:n<l.length):((l.map f).drop n).getD 0 d=f l[n]:=by
 rw [List.getD_eq_getElem?_getD,List.getElem?_drop,Nat.add_zero,List.getElem?_map,List.getElem?_eq_getElem h];rfl
theorem wY {α β:Type} (f:α→β) (l:List α) (n:Nat) (x:α) (h:n<l.length):(l.map f).take n++f x::(l.map f).drop (n+1)=(l.set n x).map f:=by
 rw [List.set_eq_take_append_cons_drop,if_pos h]
 simp
theorem lG (cs:List PV):wA cs 0 1 cs.length=cs.map ([·]):=by
 apply List.ext_getElem?
 intro i
 unfold wA
 rw [List.getElem?_map,List.getElem?_map]
 by_cases h:i<cs.length
 ·simp [h,List.getElem?_eq_getElem h,List.take_one,List.head?_drop]
 ·simp [h]
theorem zj5 (p:PV):wA [p] 0 1 1=[[p]]:=rfl
theorem zfM (a:Option Addr) (b c:Nat):(Value.slice a b c).oneCell'=true:=rfl
theorem zlU (k:IntKind) (n:Int):(Value.int k n).oneCell'=true:=rfl
theorem zi5 (b:Bool):(Value.bool b).oneCell'=true:=rfl
theorem zdG (b:ByteArray):(Value.string b).oneCell'=true:=rfl
theorem mM:(∀ (p:Prop) [Decidable p],(decide p=true)=p)∧(∀ (p:Prop) [Decidable p],decide p=false↔ ¬p)∧(∀ b:Bool,((!b)=true)=(b=false))∧(∀ b:Bool,((!b)=false)=(b=true))∧(∀ b:Bool,(¬b=true)=(b=false))∧(∀ a b:Int,(a==b)=true↔a=b)∧(∀ a b:Int,(a==b)=false↔a≠b)∧(∀ a b:Int,(a !=b)=true↔a≠b)∧(∀ a b:Int,(a !=b)=false↔a=b):=
 ⟨fun _ _=>decide_eq_true_eq,fun _ _=>decide_eq_false_iff_not,Bool.not_eq_true',Bool.not_eq_false',Bool.not_eq_true,fun _ _=>beq_iff_eq,fun _ _=>beq_eq_false_iff_ne,fun _ _=>bne_iff_ne,fun _ _=>bne_eq_false_iff_eq⟩
theorem wP:(∀ (a d:Option Nat) (l:List (Option Nat)) (n:Nat),(a::l).getD (n+1) d=l.getD n d)∧(∀ (a d:Option Nat) (l:List (Option Nat)),(a::l).getD 0 d=a)∧(∀ (a d:PV) (l:List PV) (n:Nat),(a::l).getD (n+1) d=l.getD n d)∧(∀ (a d:PV) (l:List PV),(a::l).getD 0 d=a)∧(∀ (f:Nat→PV) (a:Nat),(some a).map f=some (f a))∧(∀ a d:PV,(some a).getD d=a)∧(∀ a d:Nat,(some a).getD d=a)∧((!false)=true)∧((!true)=false)∧(∀ (a b:PV) (l:List PV),(a::l).set 0 b=b::l)∧(∀ (a b:PV) (l:List PV) (n:Nat),(a::l).set (n+1) b=a::l.set n b):=
 ⟨fun _ _ _ _=>List.getD_cons_succ,fun _ _ _=>List.getD_cons_zero,fun _ _ _ _=>List.getD_cons_succ,fun _ _ _=>List.getD_cons_zero,fun _ _=>rfl,fun _ _=>rfl,fun _ _=>rfl,rfl,rfl,fun _ _ _=>rfl,fun _ _ _ _=>rfl⟩
theorem wN:prog.follows .mixedOrders=true:=by kernel_rfl
def ws:List PV:=[.sc (.string "lattice".toUTF8),.sc (.string "function".toUTF8),.sc (.string "on".toUTF8),.sc (.string "base".toUTF8),.sc (.string "view".toUTF8),.sc (.string "key".toUTF8),.sc (.string "deny".toUTF8),.sc (.string "not".toUTF8),.sc (.string "int".toUTF8),.sc (.string "sym".toUTF8)]
def db:List PV:=[.sc (.int .u8 0),.sc (.int .u8 1),.sc (.int .u8 56),.sc (.int .u8 2),.sc (.int .u8 57),.sc (.int .u8 49),.sc (.int .u8 28),.sc (.int .u8 3),.sc (.int .u8 61),.sc (.int .u8 58),.sc (.int .u8 42),.sc (.int .u8 50),.sc (.int .u8 38),.sc (.int .u8 29),.sc (.int .u8 17),.sc (.int .u8 4),.sc (.int .u8 62),.sc (.int .u8 47),.sc (.int .u8 59),.sc (.int .u8 36),.sc (.int .u8 45),.sc (.int .u8 43),.sc (.int .u8 51),.sc (.int .u8 22),.sc (.int .u8 53),.sc (.int .u8 39),.sc (.int .u8 33),.sc (.int .u8 30),.sc (.int .u8 24),.sc (.int .u8 18),.sc (.int .u8 12),.sc (.int .u8 5),.sc (.int .u8 63),.sc (.int .u8 55),.sc (.int .u8 48),.sc (.int .u8 27),.sc (.int .u8 60),.sc (.int .u8 41),.sc (.int .u8 37),.sc (.int .u8 16),.sc (.int .u8 46),.sc (.int .u8 35),.sc (.int .u8 44),.sc (.int .u8 21),.sc (.int .u8 52),.sc (.int .u8 32),.sc (.int .u8 23),.sc (.int .u8 11),.sc (.int .u8 54),.sc (.int .u8 26),.sc (.int .u8 40),.sc (.int .u8 15),.sc (.int .u8 34),.sc (.int .u8 20),.sc (.int .u8 31),.sc (.int .u8 10),.sc (.int .u8 25),.sc (.int .u8 14),.sc (.int .u8 19),.sc (.int .u8 9),.sc (.int .u8 13),.sc (.int .u8 8),.sc (.int .u8 7),.sc (.int .u8 6)]
def G0:Glob:=fun g=>if g==0 then some ws else if g==1 then some [.ts 1 (ws.map ([·]))] else if g==2 then some db else none
theorem zK:GTree G0:=by
 intro g cs h p hp
 have key:cs.all (zU 40)=true:=by
  unfold G0 at h
  split at h
  ·cases h;kernel_rfl
  ·split at h
   ·cases h;kernel_rfl
   ·split at h
    ·cases h;kernel_rfl
    ·cases h
 rw [List.all_eq_true] at key
 exact yP 40 p (key p hp)
theorem zQ (pl:DPlan) (D:Option Nat→Prop) (id:Nat) {ops:Array Oper} {K:Exit→List PV→Heap→Prop} {ts:List PV} {h:Heap} (hg:pl.good ops.toList=true)
  (k: ∀ n0,h.length=n0→ ∀ l,ops.toList=l→ ∀ ds,l.map (·.dst)=ds→ ∀ h2,rY h pl.places=h2→AD prog G0 false n0 ts pl.at ds l pl.ord (K .normal) ts h2):EWp prog G0 D (.region id ops true) K ts h:=jS wN zK pl hg k
theorem dw (pl:Nat→DPlan) (D:Option Nat→Prop) (id:Nat) {ops:Array Oper} {K:Exit→List PV→Heap→Prop} {ts:List PV} {h:Heap} (hg:(pl id).good ops.toList=true)
  (k: ∀ n0,h.length=n0→ ∀ l,ops.toList=l→ ∀ ds,l.map (·.dst)=ds→ ∀ h2,rY h (pl id).places=h2→AD prog G0 false n0 ts (pl id).at ds l (pl id).ord (K .normal) ts h2):EWp prog G0 D (.region id ops true) K ts h:=jS wN zK (pl id) hg k
theorem yD (pl:Nat→DPlan) {D:Option Nat→Prop} {id:Nat} {ops:Array Oper} {K:Exit→List PV→Heap→Prop} {ts:List PV} {h:Heap}
  (k: ∀ n0,h.length=n0→ ∀ l,ops.toList=l→ ∀ ds,l.map (·.dst)=ds→ ∀ h2,rY h (pl id).places=h2→AD prog G0 false n0 ts (pl id).at ds l (pl id).ord (K .normal) ts h2) (hg:(pl id).good ops.toList=true:=by kernel_rfl):EWp prog G0 D (.region id ops true) K ts h:=jS wN zK (pl id) hg k
end Go.AL
namespace Go.AL
open Go.Proofs Go.Proofs.Tryz
variable {P:Program} {G:Glob} {rd:Option Nat}
end Go.AL
