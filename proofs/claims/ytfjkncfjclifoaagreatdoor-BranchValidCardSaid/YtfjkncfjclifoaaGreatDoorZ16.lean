/-
  Small things that all walks share.
-/
import Derived.Test.YtfjkncfjclifoaaGreatDoorChecked
import Derived.Test.YtfjkncfjclifoaaGreatDoorZ15
set_option linter.unusedSimpArgs false
set_option linter.unusedVariables false
set_option maxRecDepth 100000
set_option maxHeartbeats 4000000
namespace Go.AL
open Go.Proofs Go.Proofs.Tryz
abbrev TF (t:TypeId) (a:Option Nat) (b:Option Bool) (c:Option TypeId) (d:Option (Nat×TypeId)) (e:Option IntKind) (f g h:Bool):Prop:=xL prog t=a∧dD prog t=b∧wX prog t=c∧bR prog t=d∧zeT prog t=e∧bW prog t=f∧gJ prog t=g∧bV prog t=h
instance:Rs Tryz.f4 [.tmp 12]:=⟨by kernel_rfl⟩
instance:Rs Tryz.f10 [.tmp 4]:=⟨by kernel_rfl⟩
instance:Rs Tryz.f11 [.tmp 2]:=⟨by kernel_rfl⟩
instance:Rs Tryz.f12 [.tmp 4]:=⟨by kernel_rfl⟩
instance:Rs Tryz.f13 [.cell 8 31,.tmp 9,.tmp 10]:=⟨by kernel_rfl⟩
instance:Rs Tryz.f14 [.cell 6 44,.tmp 7]:=⟨by kernel_rfl⟩
instance:Rs Tryz.f15 [.cell 6 44,.tmp 7]:=⟨by kernel_rfl⟩
instance:Rs Tryz.f17 [.cell 0 31]:=⟨by kernel_rfl⟩
instance:Rs Tryz.f18 [.tmp 4]:=⟨by kernel_rfl⟩
instance:Rs Tryz.f19 [.cell 2 44]:=⟨by kernel_rfl⟩
instance:Rs Tryz.f20 [.cell 6 31,.tmp 7]:=⟨by kernel_rfl⟩
instance:Rs Tryz.f21 [.tmp 6]:=⟨by kernel_rfl⟩
instance:Rs Tryz.f28 [.tmp 2]:=⟨by kernel_rfl⟩
instance:Rs Tryz.f29 [.tmp 4,.tmp 5]:=⟨by kernel_rfl⟩
instance:Rs Tryz.f30 [.tmp 4]:=⟨by kernel_rfl⟩
instance:Rs Tryz.f31 [.cell 6 44]:=⟨by kernel_rfl⟩
instance:Rs Tryz.f32 [.tmp 2]:=⟨by kernel_rfl⟩
instance:Rs Tryz.f33 [.tmp 2]:=⟨by kernel_rfl⟩
instance:Rs Tryz.f34 [.tmp 4]:=⟨by kernel_rfl⟩
instance:Rs Tryz.f35 [.tmp 2]:=⟨by kernel_rfl⟩
instance:Rs Tryz.f36 [.tmp 2]:=⟨by kernel_rfl⟩
instance:Rs Tryz.f37 [.tmp 0]:=⟨by kernel_rfl⟩
instance:Rs Tryz.f40 [.tmp 2]:=⟨by kernel_rfl⟩
instance:Rs Tryz.f41 [.tmp 2]:=⟨by kernel_rfl⟩
instance:Rs Tryz.f42 [.tmp 6]:=⟨by kernel_rfl⟩
instance:Rs Tryz.f43 [.tmp 4]:=⟨by kernel_rfl⟩
instance:Rs Tryz.f44 [.tmp 4]:=⟨by kernel_rfl⟩
instance:Rs Tryz.f45 [.tmp 2]:=⟨by kernel_rfl⟩
instance:Rs Tryz.f46 [.tmp 4]:=⟨by kernel_rfl⟩
instance:Rs Tryz.f49 [.tmp 4,.tmp 5]:=⟨by kernel_rfl⟩
instance:Rs Tryz.f50 [.tmp 4]:=⟨by kernel_rfl⟩
instance:Rs Tryz.f51 [.tmp 3]:=⟨by kernel_rfl⟩
instance:Rs Tryz.f52 [.tmp 4]:=⟨by kernel_rfl⟩
instance:Rs Tryz.f53 []:=⟨by kernel_rfl⟩
instance:Rs Tryz.f54 []:=⟨by kernel_rfl⟩
instance:Rs Tryz.f58 [.cell 2 27,.tmp 3]:=⟨by kernel_rfl⟩
instance:Rs Tryz.f59 [.tmp 4]:=⟨by kernel_rfl⟩
instance:Rs Tryz.f60 [.tmp 6]:=⟨by kernel_rfl⟩
instance:Rs Tryz.f61 [.tmp 4]:=⟨by kernel_rfl⟩
instance:Rs Tryz.f62 [.tmp 6]:=⟨by kernel_rfl⟩
instance:Rs Tryz.f63 [.tmp 4]:=⟨by kernel_rfl⟩
instance:Rs Tryz.f64 [.tmp 2]:=⟨by kernel_rfl⟩
instance:Rs Tryz.f65 [.tmp 2]:=⟨by kernel_rfl⟩
instance:Rs Tryz.f66 [.tmp 6]:=⟨by kernel_rfl⟩
instance:Rs Tryz.f67 [.tmp 4]:=⟨by kernel_rfl⟩
instance:Rs Tryz.f68 [.tmp 2]:=⟨by kernel_rfl⟩
instance:Rs Tryz.f69 [.tmp 4]:=⟨by kernel_rfl⟩
instance:Rs Tryz.f70 [.tmp 2]:=⟨by kernel_rfl⟩
instance:Rs Tryz.f71 [.tmp 4]:=⟨by kernel_rfl⟩
instance:Rs Tryz.f72 [.tmp 4]:=⟨by kernel_rfl⟩
instance:Rs Tryz.f73 [.tmp 4]:=⟨by kernel_rfl⟩
instance:Rs Tryz.f74 [.tmp 4]:=⟨by kernel_rfl⟩
instance:Rs Tryz.f75 [.tmp 4]:=⟨by kernel_rfl⟩
instance:Rs Tryz.f76 [.tmp 2]:=⟨by kernel_rfl⟩
instance:Rs Tryz.f77 []:=⟨by kernel_rfl⟩
instance:Rs Tryz.f78 [.tmp 2]:=⟨by kernel_rfl⟩
instance:Rs Tryz.f79 []:=⟨by kernel_rfl⟩
instance:Rs Tryz.f80 [.tmp 6]:=⟨by kernel_rfl⟩
instance:Rs Tryz.f81 [.tmp 6]:=⟨by kernel_rfl⟩
instance:Rs Tryz.f84 [.tmp 2]:=⟨by kernel_rfl⟩
instance:Rs Tryz.f85 [.tmp 2]:=⟨by kernel_rfl⟩
instance:Rs Tryz.f86 [.cell 4 125]:=⟨by kernel_rfl⟩
instance:Rs Tryz.f87 [.tmp 2]:=⟨by kernel_rfl⟩
instance:Rs Tryz.f88 [.tmp 4]:=⟨by kernel_rfl⟩
instance:Rs Tryz.f89 []:=⟨by kernel_rfl⟩
instance:Rs Tryz.f90 [.tmp 4]:=⟨by kernel_rfl⟩
instance:Rs Tryz.f91 [.tmp 2]:=⟨by kernel_rfl⟩
instance:Rs Tryz.f92 []:=⟨by kernel_rfl⟩
instance:Rs Tryz.f93 [.tmp 4]:=⟨by kernel_rfl⟩
instance:Rs Tryz.f94 [.tmp 4]:=⟨by kernel_rfl⟩
instance:Rs Tryz.f95 [.tmp 4]:=⟨by kernel_rfl⟩
instance:Rs Tryz.f96 [.tmp 4]:=⟨by kernel_rfl⟩
instance:Rs Tryz.f97 [.tmp 2]:=⟨by kernel_rfl⟩
instance:Rs Tryz.f98 [.tmp 2]:=⟨by kernel_rfl⟩
instance:Rs Tryz.f99 [.tmp 2]:=⟨by kernel_rfl⟩
instance:Rs Tryz.f100 [.tmp 2]:=⟨by kernel_rfl⟩
instance:Rs Tryz.f101 [.tmp 4]:=⟨by kernel_rfl⟩
instance:Rs Tryz.f102 [.cell 2 193,.tmp 3]:=⟨by kernel_rfl⟩
instance:Rs Tryz.f103 [.tmp 4]:=⟨by kernel_rfl⟩
instance:Rs Tryz.f104 [.tmp 10]:=⟨by kernel_rfl⟩
instance:Rs Tryz.f105 [.tmp 4]:=⟨by kernel_rfl⟩
instance:Rs Tryz.f106 [.tmp 4]:=⟨by kernel_rfl⟩
instance:Rs Tryz.f108 [.tmp 2]:=⟨by kernel_rfl⟩
instance:Rs Tryz.f109 [.tmp 6]:=⟨by kernel_rfl⟩
instance:Rs Tryz.f110 [.tmp 6]:=⟨by kernel_rfl⟩
instance:Rs Tryz.f111 [.tmp 2]:=⟨by kernel_rfl⟩
instance:Rs Tryz.f112 [.tmp 6]:=⟨by kernel_rfl⟩
instance:Rs Tryz.f113 [.tmp 2]:=⟨by kernel_rfl⟩
instance:Rs Tryz.f114 [.tmp 6]:=⟨by kernel_rfl⟩
instance:Rs Tryz.f115 [.tmp 2]:=⟨by kernel_rfl⟩
instance:Rs Tryz.f116 []:=⟨by kernel_rfl⟩
instance:Rs Tryz.f117 [.tmp 8]:=⟨by kernel_rfl⟩
instance:Rs Tryz.f118 [.tmp 2]:=⟨by kernel_rfl⟩
instance:Rs Tryz.f119 [.tmp 2]:=⟨by kernel_rfl⟩
instance:Rs Tryz.f120 [.tmp 4]:=⟨by kernel_rfl⟩
instance:Rs Tryz.f121 [.tmp 4,.tmp 5]:=⟨by kernel_rfl⟩
instance:Rs Tryz.f122 [.tmp 2]:=⟨by kernel_rfl⟩
instance:Rs Tryz.f123 [.tmp 2]:=⟨by kernel_rfl⟩
instance:Rs Tryz.f124 [.tmp 2]:=⟨by kernel_rfl⟩
instance:Rs Tryz.f125 [.tmp 4]:=⟨by kernel_rfl⟩
instance:Rs Tryz.f126 [.tmp 4]:=⟨by kernel_rfl⟩
instance:Rs Tryz.f127 [.tmp 4,.tmp 5]:=⟨by kernel_rfl⟩
instance:Rs Tryz.f128 [.tmp 4]:=⟨by kernel_rfl⟩
instance:Rs Tryz.f129 [.tmp 2]:=⟨by kernel_rfl⟩
instance:Rs Tryz.f130 [.tmp 4]:=⟨by kernel_rfl⟩
instance:Rs Tryz.f131 [.tmp 2]:=⟨by kernel_rfl⟩
instance:Rs Tryz.f132 [.tmp 4]:=⟨by kernel_rfl⟩
instance:Rs Tryz.f133 [.tmp 4]:=⟨by kernel_rfl⟩
instance:Rs Tryz.f134 [.tmp 6]:=⟨by kernel_rfl⟩
instance:Rs Tryz.f137 [.tmp 6]:=⟨by kernel_rfl⟩
instance:Rs Tryz.f138 [.tmp 4]:=⟨by kernel_rfl⟩
instance:Rs Tryz.f139 [.tmp 2]:=⟨by kernel_rfl⟩
instance:Rs Tryz.f140 []:=⟨by kernel_rfl⟩
instance:Rs Tryz.f141 [.tmp 2]:=⟨by kernel_rfl⟩
instance:Rs Tryz.f142 [.cell 4 193]:=⟨by kernel_rfl⟩
instance:Rs Tryz.f143 [.tmp 6]:=⟨by kernel_rfl⟩
instance:Rs Tryz.f144 [.cell 2 193,.tmp 3]:=⟨by kernel_rfl⟩
instance:Rs Tryz.f145 [.tmp 4]:=⟨by kernel_rfl⟩
instance:Rs Tryz.f146 [.tmp 6]:=⟨by kernel_rfl⟩
instance:Rs Tryz.f147 [.tmp 4]:=⟨by kernel_rfl⟩
instance:Rs Tryz.f148 [.tmp 4]:=⟨by kernel_rfl⟩
instance:Rs Tryz.f149 [.tmp 4]:=⟨by kernel_rfl⟩
instance:Rs Tryz.f150 [.tmp 3]:=⟨by kernel_rfl⟩
instance:Rs Tryz.f151 [.tmp 4]:=⟨by kernel_rfl⟩
instance:Rs Tryz.f152 [.tmp 3]:=⟨by kernel_rfl⟩
instance:Rs Tryz.f153 [.tmp 2]:=⟨by kernel_rfl⟩
instance:Rs Tryz.f154 [.tmp 6]:=⟨by kernel_rfl⟩
instance:Rs Tryz.f155 [.tmp 4]:=⟨by kernel_rfl⟩
instance:Rs Tryz.f156 [.tmp 3]:=⟨by kernel_rfl⟩
instance:Rs Tryz.f157 [.tmp 2]:=⟨by kernel_rfl⟩
instance:Rs Tryz.f158 [.tmp 6]:=⟨by kernel_rfl⟩
instance:Rs Tryz.f159 [.tmp 4]:=⟨by kernel_rfl⟩
instance:Rs Tryz.f160 [.tmp 3]:=⟨by kernel_rfl⟩
instance:Rs Tryz.f161 [.tmp 6]:=⟨by kernel_rfl⟩
instance:Rs Tryz.f162 [.tmp 2]:=⟨by kernel_rfl⟩
instance:Rs Tryz.f163 [.tmp 6]:=⟨by kernel_rfl⟩
instance:Rs Tryz.f164 [.tmp 2]:=⟨by kernel_rfl⟩
instance:Rs Tryz.f165 [.tmp 6]:=⟨by kernel_rfl⟩
instance:Rs Tryz.f166 [.tmp 2]:=⟨by kernel_rfl⟩
instance:Rs Tryz.f167 [.tmp 4]:=⟨by kernel_rfl⟩
instance:Rs Tryz.f168 [.tmp 4]:=⟨by kernel_rfl⟩
instance:Rs Tryz.f169 [.tmp 4]:=⟨by kernel_rfl⟩
instance:Rs Tryz.f170 [.tmp 6]:=⟨by kernel_rfl⟩
instance:Rs Tryz.f171 []:=⟨by kernel_rfl⟩
instance:Rs Tryz.f172 [.tmp 4]:=⟨by kernel_rfl⟩
instance:Rs Tryz.f173 [.tmp 8]:=⟨by kernel_rfl⟩
instance:Rs Tryz.f174 [.tmp 6]:=⟨by kernel_rfl⟩
instance:Rs Tryz.f175 [.tmp 4]:=⟨by kernel_rfl⟩
instance:Rs Tryz.f176 []:=⟨by kernel_rfl⟩
instance:Rs Tryz.f187 [.tmp 4]:=⟨by kernel_rfl⟩
instance:Rs Tryz.f188 [.tmp 6]:=⟨by kernel_rfl⟩
instance:Rs Tryz.f189 [.tmp 4]:=⟨by kernel_rfl⟩
instance:Rs Tryz.f190 [.tmp 4]:=⟨by kernel_rfl⟩
instance:Rs Tryz.f191 [.tmp 2]:=⟨by kernel_rfl⟩
instance:Rs Tryz.f192 [.tmp 4]:=⟨by kernel_rfl⟩
instance:Rs Tryz.f193 [.tmp 2]:=⟨by kernel_rfl⟩
instance:Rs Tryz.f194 [.tmp 4]:=⟨by kernel_rfl⟩
instance:Rs Tryz.f195 [.tmp 4]:=⟨by kernel_rfl⟩
instance:Rs Tryz.f196 [.tmp 6]:=⟨by kernel_rfl⟩
instance:Rs Tryz.f197 [.tmp 4]:=⟨by kernel_rfl⟩
instance:Rs Tryz.f198 [.tmp 3]:=⟨by kernel_rfl⟩
instance:Rs Tryz.f199 [.tmp 4]:=⟨by kernel_rfl⟩
instance:Rs Tryz.f200 [.tmp 4]:=⟨by kernel_rfl⟩
instance:Rs Tryz.f201 [.tmp 3]:=⟨by kernel_rfl⟩
instance:Rs Tryz.f202 [.tmp 4]:=⟨by kernel_rfl⟩
instance:Rs Tryz.f203 [.tmp 4]:=⟨by kernel_rfl⟩
instance:Rs Tryz.f204 [.tmp 3]:=⟨by kernel_rfl⟩
instance:Rs Tryz.f205 [.tmp 4]:=⟨by kernel_rfl⟩
instance:Rs Tryz.f206 [.tmp 3]:=⟨by kernel_rfl⟩
instance:Rs Tryz.f207 [.tmp 2]:=⟨by kernel_rfl⟩
instance:Rs Tryz.f208 [.tmp 6]:=⟨by kernel_rfl⟩
instance:Rs Tryz.f209 [.tmp 6]:=⟨by kernel_rfl⟩
instance:Rs Tryz.f215 [.tmp 2]:=⟨by kernel_rfl⟩
instance:Rs Tryz.f216 [.tmp 2]:=⟨by kernel_rfl⟩
instance:Rs Tryz.f217 []:=⟨by kernel_rfl⟩
instance:Rs Tryz.f218 [.tmp 2]:=⟨by kernel_rfl⟩
instance:Rs Tryz.f219 []:=⟨by kernel_rfl⟩
instance:Rs Tryz.f220 [.tmp 4]:=⟨by kernel_rfl⟩
instance:Rs Tryz.f221 [.tmp 4]:=⟨by kernel_rfl⟩
instance:Rs Tryz.f222 [.tmp 4]:=⟨by kernel_rfl⟩
instance:Rs Tryz.f223 [.tmp 4]:=⟨by kernel_rfl⟩
instance:Rs Tryz.f225 []:=⟨by kernel_rfl⟩
instance:Rs Tryz.f226 []:=⟨by kernel_rfl⟩
instance:Rs Tryz.f227 []:=⟨by kernel_rfl⟩
instance:Rs Tryz.f228 []:=⟨by kernel_rfl⟩
instance:Rs Tryz.f229 []:=⟨by kernel_rfl⟩
theorem tf3:TF 3 (some 1) (some false) none none (some .i64) false false false∧(zS prog 3=some (.int .i64 (0))):=by and_intros<;>kernel_rfl
theorem tf4:TF 4 (some 1) (some false) none none none true false false∧(zS prog 4=some (.bool false)):=by and_intros<;>kernel_rfl
theorem tf5:TF 5 (some 1) (some false) none none (some .u8) false false false∧(zS prog 5=some (.int .u8 (0))):=by and_intros<;>kernel_rfl
theorem tf9:TF 9 (some 1) (some false) none none none false true false∧(zS prog 9=some (.string ⟨#[]⟩)):=by and_intros<;>kernel_rfl
theorem tf21:TF 21 (some 1) (some false) none none (some .i32) false false false∧(zS prog 21=some (.int .i32 (0))):=by and_intros<;>kernel_rfl
theorem tf22:TF 22 (some 1) (some false) (some 111) none none false false false∧(zS prog 22=some (.slice none 0 0))∧(wD prog 22=some (111,4,72)):=by and_intros<;>kernel_rfl
theorem tf23:TF 23 (some 1) (some false) (some 119) none none false false false∧(zS prog 23=some (.slice none 0 0))∧(wD prog 23=some (119,7,120)):=by and_intros<;>kernel_rfl
theorem tf24:TF 24 (some 1) (some false) (some 105) none none false false false∧(zS prog 24=some (.slice none 0 0))∧(wD prog 24=some (105,7,88)):=by and_intros<;>kernel_rfl
theorem tf25:TF 25 (some 1) (some false) (some 125) none none false false false∧(zS prog 25=some (.slice none 0 0))∧(wD prog 25=some (125,9,128)):=by and_intros<;>kernel_rfl
theorem tf27:TF 27 (some 4) (some true) none none none false false false∧(zS prog 27=some (.agg #[(.slice none 0 0),(.slice none 0 0),(.slice none 0 0),(.slice none 0 0)]))∧(zR prog 27 0=some (0,22))∧(zR prog 27 1=some (1,23))∧(zR prog 27 2=some (2,24))∧(zR prog 27 3=some (3,25))∧(xW prog 27=some (rH [(0,1),(1,1),(2,1),(3,1)])):=⟨by and_intros<;>kernel_rfl,by kernel_rfl,by kernel_rfl,by kernel_rfl,by kernel_rfl,by kernel_rfl,xP Tryz.underlying27 (by kernel_rfl) (by kernel_rfl)⟩
theorem tf28:TF 28 (some 1) (some false) (some 60) none none false false false∧(zS prog 28=some (.slice none 0 0))∧(wD prog 28=some (60,3,40)):=by and_intros<;>kernel_rfl
theorem tf29:TF 29 (some 1) (some false) (some 40) none none false false false∧(zS prog 29=some (.slice none 0 0))∧(wD prog 29=some (40,2,24)):=by and_intros<;>kernel_rfl
theorem tf31:TF 31 (some 2) (some true) none none none false false false∧(zS prog 31=some (.agg #[(.slice none 0 0),(.slice none 0 0)]))∧(zR prog 31 0=some (0,28))∧(zR prog 31 1=some (1,29))∧(xW prog 31=some (rH [(0,1),(1,1)])):=⟨by and_intros<;>kernel_rfl,by kernel_rfl,by kernel_rfl,by kernel_rfl,xP Tryz.underlying31 (by kernel_rfl) (by kernel_rfl)⟩
theorem tf32:TF 32 (some 1) (some false) (some 84) none none false false false∧(zS prog 32=some (.slice none 0 0))∧(wD prog 32=some (84,6,64)):=by and_intros<;>kernel_rfl
theorem tf36:TF 36 (some 1) (some false) none none (some .i64) false false false∧(zS prog 36=some (.int .i64 (0))):=by and_intros<;>kernel_rfl
theorem tf40:TF 40 (some 2) (some true) none none none false false false∧(zS prog 40=some (.agg #[(.string ⟨#[]⟩),(.int .i64 (0))]))∧(zR prog 40 0=some (0,9))∧(zR prog 40 1=some (1,3))∧(xW prog 40=some (rH [(0,1),(1,1)])):=⟨by and_intros<;>kernel_rfl,by kernel_rfl,by kernel_rfl,by kernel_rfl,xP Tryz.underlying40 (by kernel_rfl) (by kernel_rfl)⟩
theorem tf41:TF 41 (some 1) (some false) (some 70) none none false false false∧(zS prog 41=some (.slice none 0 0))∧(wD prog 41=some (70,1,24)):=by and_intros<;>kernel_rfl
theorem tf42:TF 42 (some 1) (some false) (some 96) none none false false false∧(zS prog 42=some (.slice none 0 0))∧(wD prog 42=some (96,1,24)):=by and_intros<;>kernel_rfl
theorem tf44:TF 44 (some 2) (some true) none none none false false false∧(zS prog 44=some (.agg #[(.slice none 0 0),(.slice none 0 0)]))∧(zR prog 44 0=some (0,41))∧(zR prog 44 1=some (1,42))∧(xW prog 44=some (rH [(0,1),(1,1)])):=⟨by and_intros<;>kernel_rfl,by kernel_rfl,by kernel_rfl,by kernel_rfl,xP Tryz.underlying44 (by kernel_rfl) (by kernel_rfl)⟩
theorem tf57:TF 57 (some 1) (some false) (some 3) none none false false false∧(zS prog 57=some (.slice none 0 0))∧(wD prog 57=some (3,1,8)):=by and_intros<;>kernel_rfl
theorem tf60:TF 60 (some 3) (some true) none none none false false false∧(zS prog 60=some (.agg #[(.slice none 0 0),(.int .i64 (0)),(.int .i64 (0))]))∧(zR prog 60 0=some (0,32))∧(zR prog 60 1=some (1,3))∧(zR prog 60 2=some (2,3))∧(xW prog 60=some (rH [(0,1),(1,1),(2,1)])):=⟨by and_intros<;>kernel_rfl,by kernel_rfl,by kernel_rfl,by kernel_rfl,by kernel_rfl,xP Tryz.underlying60 (by kernel_rfl) (by kernel_rfl)⟩
theorem tf65:TF 65 (some 1) (some false) (some 4) none none false false false∧(zS prog 65=some (.slice none 0 0))∧(wD prog 65=some (4,1,1)):=by and_intros<;>kernel_rfl
theorem tf69:TF 69 (some 1) (some false) (some 76) none none false false false∧(zS prog 69=some (.slice none 0 0))∧(wD prog 69=some (76,2,48)):=by and_intros<;>kernel_rfl
theorem tf70:TF 70 (some 1) (some false) (some 76) none none false false false∧(zS prog 70=some (.slice none 0 0))∧(wD prog 70=some (76,2,48)):=by and_intros<;>kernel_rfl
theorem tf72:TF 72 (some 3) (some true) none none none false false false∧(zS prog 72=some (.agg #[(.int .i64 (0)),(.int .i64 (0)),(.string ⟨#[]⟩)]))∧(zR prog 72 0=some (0,3))∧(zR prog 72 1=some (1,3))∧(zR prog 72 2=some (2,9))∧(xW prog 72=some (rH [(0,1),(1,1),(2,1)])):=⟨by and_intros<;>kernel_rfl,by kernel_rfl,by kernel_rfl,by kernel_rfl,by kernel_rfl,xP Tryz.underlying72 (by kernel_rfl) (by kernel_rfl)⟩
theorem tf73:TF 73 (some 1) (some false) (some 72) none none false false false∧(zS prog 73=some (.slice none 0 0))∧(wD prog 73=some (72,3,32)):=by and_intros<;>kernel_rfl
theorem tf74:TF 74 (some 1) (some false) (some 82) none none false false false∧(zS prog 74=some (.slice none 0 0))∧(wD prog 74=some (82,2,16)):=by and_intros<;>kernel_rfl
theorem tf76:TF 76 (some 2) (some true) none none none false false false∧(zS prog 76=some (.agg #[(.slice none 0 0),(.slice none 0 0)]))∧(zR prog 76 0=some (0,73))∧(zR prog 76 1=some (1,74))∧(xW prog 76=some (rH [(0,1),(1,1)])):=⟨by and_intros<;>kernel_rfl,by kernel_rfl,by kernel_rfl,by kernel_rfl,xP Tryz.underlying76 (by kernel_rfl) (by kernel_rfl)⟩
theorem tf80:TF 80 (some 3) (some true) none none none false false false∧(zS prog 80=some (.agg #[(.int .i64 (0)),(.slice none 0 0),(.int .i64 (0))]))∧(zR prog 80 0=some (0,3))∧(zR prog 80 1=some (1,73))∧(zR prog 80 2=some (2,3))∧(xW prog 80=some (rH [(0,1),(1,1),(2,1)])):=⟨by and_intros<;>kernel_rfl,by kernel_rfl,by kernel_rfl,by kernel_rfl,by kernel_rfl,xP Tryz.underlying80 (by kernel_rfl) (by kernel_rfl)⟩
theorem tf82:TF 82 (some 2) (some true) none none none false false false∧(zS prog 82=some (.agg #[(.int .i64 (0)),(.int .i64 (0))]))∧(zR prog 82 0=some (0,3))∧(zR prog 82 1=some (1,3))∧(xW prog 82=some (rH [(0,1),(1,1)])):=⟨by and_intros<;>kernel_rfl,by kernel_rfl,by kernel_rfl,by kernel_rfl,xP Tryz.underlying82 (by kernel_rfl) (by kernel_rfl)⟩
theorem tf84:TF 84 (some 6) (some true) none none none false false false∧(zS prog 84=some (.agg #[(.int .i64 (0)),(.int .i64 (0)),(.slice none 0 0),(.int .i64 (0)),(.int .i64 (0)),(.int .i64 (0))]))∧(zR prog 84 0=some (0,3))∧(zR prog 84 1=some (1,80))∧(zR prog 84 2=some (4,82))∧(xW prog 84=some (rH [(0,1),(1,3),(4,2)])):=⟨by and_intros<;>kernel_rfl,by kernel_rfl,by kernel_rfl,by kernel_rfl,by kernel_rfl,xP Tryz.underlying84 (by kernel_rfl) (by kernel_rfl)⟩
theorem tf85:TF 85 (some 1) (some false) (some 44) none none false false false∧(zS prog 85=some (.slice none 0 0))∧(wD prog 85=some (44,2,48)):=by and_intros<;>kernel_rfl
theorem tf95:TF 95 (some 1) (some false) (some 136) none none false false false∧(zS prog 95=some (.slice none 0 0))∧(wD prog 95=some (136,2,48)):=by and_intros<;>kernel_rfl
theorem tf96:TF 96 (some 1) (some false) (some 136) none none false false false∧(zS prog 96=some (.slice none 0 0))∧(wD prog 96=some (136,2,48)):=by and_intros<;>kernel_rfl
theorem tf98:TF 98 (some 1) (some false) none none none false false true∧(zS prog 98=some .nilFunc):=by and_intros<;>kernel_rfl
theorem tf99:TF 99 (some 1) (some false) none none none false false false∧(zS prog 99=some (.map none)):=by and_intros<;>kernel_rfl
theorem tf101:TF 101 (some 1) (some false) none none none false false false∧(zS prog 101=some (.pointer none)):=by and_intros<;>kernel_rfl
theorem tf105:TF 105 (some 7) (some true) none none none false false false∧(zS prog 105=some (.agg #[(.string ⟨#[]⟩),(.slice none 0 0),(.string ⟨#[]⟩),(.int .i64 (0)),(.bool false),(.int .i64 (0)),(.int .i64 (0))]))∧(zR prog 105 0=some (0,9))∧(zR prog 105 1=some (1,57))∧(zR prog 105 2=some (2,9))∧(zR prog 105 3=some (3,3))∧(zR prog 105 4=some (4,4))∧(zR prog 105 5=some (5,3))∧(zR prog 105 6=some (6,3))∧(xW prog 105=some (rH [(0,1),(1,1),(2,1),(3,1),(4,1),(5,1),(6,1)])):=⟨by and_intros<;>kernel_rfl,by kernel_rfl,by kernel_rfl,by kernel_rfl,by kernel_rfl,by kernel_rfl,by kernel_rfl,by kernel_rfl,by kernel_rfl,xP Tryz.underlying105 (by kernel_rfl) (by kernel_rfl)⟩
theorem tf106:TF 106 (some 1) (some false) none none none false false true∧(zS prog 106=some .nilFunc):=by and_intros<;>kernel_rfl
theorem tf108:TF 108 (some 1) (some false) (some 9) none none false false false∧(zS prog 108=some (.slice none 0 0))∧(wD prog 108=some (9,1,16)):=by and_intros<;>kernel_rfl
theorem tf109:TF 109 (some 1) (some false) (some 210) none none false false false∧(zS prog 109=some (.slice none 0 0))∧(wD prog 109=some (210,2,16)):=by and_intros<;>kernel_rfl
theorem tf111:TF 111 (some 4) (some true) none none none false false false∧(zS prog 111=some (.agg #[(.string ⟨#[]⟩),(.slice none 0 0),(.slice none 0 0),(.int .i64 (0))]))∧(zR prog 111 0=some (0,9))∧(zR prog 111 1=some (1,108))∧(zR prog 111 2=some (2,109))∧(zR prog 111 3=some (3,3))∧(xW prog 111=some (rH [(0,1),(1,1),(2,1),(3,1)])):=⟨by and_intros<;>kernel_rfl,by kernel_rfl,by kernel_rfl,by kernel_rfl,by kernel_rfl,by kernel_rfl,xP Tryz.underlying111 (by kernel_rfl) (by kernel_rfl)⟩
theorem tf114:TF 114 (some 1) (some false) none none none false false true∧(zS prog 114=some .nilFunc):=by and_intros<;>kernel_rfl
theorem tf119:TF 119 (some 7) (some true) none none none false false false∧(zS prog 119=some (.agg #[(.string ⟨#[]⟩),(.string ⟨#[]⟩),(.int .i64 (0)),(.slice none 0 0),(.slice none 0 0),(.slice none 0 0),(.int .i64 (0))]))∧(zR prog 119 0=some (0,9))∧(zR prog 119 1=some (1,9))∧(zR prog 119 2=some (2,3))∧(zR prog 119 3=some (3,108))∧(zR prog 119 4=some (4,108))∧(zR prog 119 5=some (5,57))∧(zR prog 119 6=some (6,3))∧(xW prog 119=some (rH [(0,1),(1,1),(2,1),(3,1),(4,1),(5,1),(6,1)])):=⟨by and_intros<;>kernel_rfl,by kernel_rfl,by kernel_rfl,by kernel_rfl,by kernel_rfl,by kernel_rfl,by kernel_rfl,by kernel_rfl,by kernel_rfl,xP Tryz.underlying119 (by kernel_rfl) (by kernel_rfl)⟩
theorem tf120:TF 120 (some 1) (some false) (some 217) none none false false false∧(zS prog 120=some (.slice none 0 0))∧(wD prog 120=some (217,4,48)):=by and_intros<;>kernel_rfl
theorem tf122:TF 122 (some 4) (some true) none none none false false false∧(zS prog 122=some (.agg #[(.int .i64 (0)),(.string ⟨#[]⟩),(.string ⟨#[]⟩),(.int .i64 (0))]))∧(zR prog 122 0=some (0,3))∧(zR prog 122 1=some (1,9))∧(zR prog 122 2=some (2,9))∧(zR prog 122 3=some (3,3))∧(xW prog 122=some (rH [(0,1),(1,1),(2,1),(3,1)])):=⟨by and_intros<;>kernel_rfl,by kernel_rfl,by kernel_rfl,by kernel_rfl,by kernel_rfl,by kernel_rfl,xP Tryz.underlying122 (by kernel_rfl) (by kernel_rfl)⟩
theorem tf123:TF 123 (some 1) (some false) (some 127) none none false false false∧(zS prog 123=some (.slice none 0 0))∧(wD prog 123=some (127,9,112)):=by and_intros<;>kernel_rfl
theorem tf125:TF 125 (some 9) (some true) none none none false false false∧(zS prog 125=some (.agg #[(.string ⟨#[]⟩),(.int .i64 (0)),(.slice none 0 0),(.int .i64 (0)),(.string ⟨#[]⟩),(.string ⟨#[]⟩),(.int .i64 (0)),(.slice none 0 0),(.int .i64 (0))]))∧(zR prog 125 0=some (0,9))∧(zR prog 125 1=some (1,3))∧(zR prog 125 2=some (2,120))∧(zR prog 125 3=some (3,122))∧(zR prog 125 4=some (7,123))∧(zR prog 125 5=some (8,3))∧(xW prog 125=some (rH [(0,1),(1,1),(2,1),(3,4),(7,1),(8,1)])):=⟨by and_intros<;>kernel_rfl,by kernel_rfl,by kernel_rfl,by kernel_rfl,by kernel_rfl,by kernel_rfl,by kernel_rfl,by kernel_rfl,xP Tryz.underlying125 (by kernel_rfl) (by kernel_rfl)⟩
theorem tf127:TF 127 (some 9) (some true) none none none false false false∧(zS prog 127=some (.agg #[(.int .i64 (0)),(.string ⟨#[]⟩),(.int .i64 (0)),(.slice none 0 0),(.string ⟨#[]⟩),(.string ⟨#[]⟩),(.int .i64 (0)),(.int .i64 (0)),(.int .i64 (0))]))∧(zR prog 127 0=some (0,3))∧(zR prog 127 1=some (1,9))∧(zR prog 127 2=some (2,3))∧(zR prog 127 3=some (3,120))∧(zR prog 127 4=some (4,9))∧(zR prog 127 5=some (5,9))∧(zR prog 127 6=some (6,3))∧(zR prog 127 7=some (7,3))∧(zR prog 127 8=some (8,3))∧(xW prog 127=some (rH [(0,1),(1,1),(2,1),(3,1),(4,1),(5,1),(6,1),(7,1),(8,1)])):=⟨by and_intros<;>kernel_rfl,by kernel_rfl,by kernel_rfl,by kernel_rfl,by kernel_rfl,by kernel_rfl,by kernel_rfl,by kernel_rfl,by kernel_rfl,by kernel_rfl,by kernel_rfl,xP Tryz.underlying127 (by kernel_rfl) (by kernel_rfl)⟩
theorem tf129:TF 129 (some 1) (some false) none none none false false true∧(zS prog 129=some .nilFunc):=by and_intros<;>kernel_rfl
theorem tf134:TF 134 (some 1) (some false) (some 138) none none false false false∧(zS prog 134=some (.slice none 0 0))∧(wD prog 134=some (138,3,24)):=by and_intros<;>kernel_rfl
theorem tf136:TF 136 (some 2) (some true) none none none false false false∧(zS prog 136=some (.agg #[(.slice none 0 0),(.slice none 0 0)]))∧(zR prog 136 0=some (0,73))∧(zR prog 136 1=some (1,134))∧(xW prog 136=some (rH [(0,1),(1,1)])):=⟨by and_intros<;>kernel_rfl,by kernel_rfl,by kernel_rfl,by kernel_rfl,xP Tryz.underlying136 (by kernel_rfl) (by kernel_rfl)⟩
theorem tf138:TF 138 (some 3) (some true) none none none false false false∧(zS prog 138=some (.agg #[(.int .i64 (0)),(.int .i64 (0)),(.int .i64 (0))]))∧(zR prog 138 0=some (0,3))∧(zR prog 138 1=some (1,3))∧(zR prog 138 2=some (2,3))∧(xW prog 138=some (rH [(0,1),(1,1),(2,1)])):=⟨by and_intros<;>kernel_rfl,by kernel_rfl,by kernel_rfl,by kernel_rfl,by kernel_rfl,xP Tryz.underlying138 (by kernel_rfl) (by kernel_rfl)⟩
theorem tf139:TF 139 (some 1) (some false) (some 166) none none false false false∧(zS prog 139=some (.slice none 0 0))∧(wD prog 139=some (166,2,16)):=by and_intros<;>kernel_rfl
theorem tf144:TF 144 (some 1) (some false) none none none false false true∧(zS prog 144=some .nilFunc):=by and_intros<;>kernel_rfl
theorem tf145:TF 145 (some 1) (some false) none none none false false true∧(zS prog 145=some .nilFunc):=by and_intros<;>kernel_rfl
theorem tf146:TF 146 (some 1) (some false) none none none false false true∧(zS prog 146=some .nilFunc):=by and_intros<;>kernel_rfl
theorem tf149:TF 149 (some 1) (some false) none none none false false false∧(zS prog 149=some (.pointer none)):=by and_intros<;>kernel_rfl
theorem tf152:TF 152 (some 1) (some false) none none none false false true∧(zS prog 152=some .nilFunc):=by and_intros<;>kernel_rfl
theorem tf154:TF 154 (some 1) (some false) none none none false false true∧(zS prog 154=some .nilFunc):=by and_intros<;>kernel_rfl
theorem tf155:TF 155 (some 1) (some false) none none none false false true∧(zS prog 155=some .nilFunc):=by and_intros<;>kernel_rfl
theorem tf156:TF 156 (some 1) (some false) none none none false false true∧(zS prog 156=some .nilFunc):=by and_intros<;>kernel_rfl
theorem tf159:TF 159 (some 1) (some false) none none none false false true∧(zS prog 159=some .nilFunc):=by and_intros<;>kernel_rfl
theorem tf163:TF 163 (some 1) (some false) none none none false false true∧(zS prog 163=some .nilFunc):=by and_intros<;>kernel_rfl
theorem tf166:TF 166 (some 2) (some true) none none none false false false∧(zS prog 166=some (.agg #[(.int .i64 (0)),(.int .i64 (0))]))∧(zR prog 166 0=some (0,36))∧(zR prog 166 1=some (1,3))∧(xW prog 166=some (rH [(0,1),(1,1)])):=⟨by and_intros<;>kernel_rfl,by kernel_rfl,by kernel_rfl,by kernel_rfl,xP Tryz.underlying166 (by kernel_rfl) (by kernel_rfl)⟩
theorem tf167:TF 167 (some 1) (some false) none none none false false false∧(zS prog 167=some (.pointer none)):=by and_intros<;>kernel_rfl
theorem tf169:TF 169 (some 1) (some false) none none none false false false∧(zS prog 169=some (.map none)):=by and_intros<;>kernel_rfl
theorem tf171:TF 171 (some 8) (some true) none none none false false false∧(zS prog 171=some (.agg #[(.slice none 0 0),(.slice none 0 0),(.slice none 0 0),(.slice none 0 0),(.map none),(.map none),(.map none),(.slice none 0 0)]))∧(zR prog 171 0=some (0,27))∧(zR prog 171 1=some (4,169))∧(zR prog 171 2=some (5,169))∧(zR prog 171 3=some (6,169))∧(zR prog 171 4=some (7,139))∧(xW prog 171=some (rH [(0,4),(4,1),(5,1),(6,1),(7,1)])):=⟨by and_intros<;>kernel_rfl,by kernel_rfl,by kernel_rfl,by kernel_rfl,by kernel_rfl,by kernel_rfl,by kernel_rfl,xP Tryz.underlying171 (by kernel_rfl) (by kernel_rfl)⟩
theorem tf173:TF 173 (some 1) (some false) none none none false false false∧(zS prog 173=some (.map none)):=by and_intros<;>kernel_rfl
theorem tf174:TF 174 (some 1) (some false) none none none false false false∧(zS prog 174=some (.map none)):=by and_intros<;>kernel_rfl
theorem tf176:TF 176 (some 6) (some true) none none none false false false∧(zS prog 176=some (.agg #[(.string ⟨#[]⟩),(.slice none 0 0),(.slice none 0 0),(.int .i64 (0)),(.map none),(.map none)]))∧(zR prog 176 0=some (0,111))∧(zR prog 176 1=some (4,173))∧(zR prog 176 2=some (5,174))∧(xW prog 176=some (rH [(0,4),(4,1),(5,1)])):=⟨by and_intros<;>kernel_rfl,by kernel_rfl,by kernel_rfl,by kernel_rfl,by kernel_rfl,xP Tryz.underlying176 (by kernel_rfl) (by kernel_rfl)⟩
theorem tf177:TF 177 (some 1) (some false) none none none false false false∧(zS prog 177=some (.pointer none)):=by and_intros<;>kernel_rfl
theorem tf183:TF 183 (some 1) (some false) none none none false false true∧(zS prog 183=some .nilFunc):=by and_intros<;>kernel_rfl
theorem tf186:TF 186 (some 1) (some false) none none (some .u64) false false false∧(zS prog 186=some (.int .u64 (0))):=by and_intros<;>kernel_rfl
theorem tf187:TF 187 (some 1) (some false) none none (some .u64) false false false∧(zS prog 187=some (.int .u64 (0))):=by and_intros<;>kernel_rfl
theorem tf193:TF 193 (some 8) (some true) none (some (8,5)) none false false false∧(zS prog 193=some (.agg #[(.int .u8 (0)),(.int .u8 (0)),(.int .u8 (0)),(.int .u8 (0)),(.int .u8 (0)),(.int .u8 (0)),(.int .u8 (0)),(.int .u8 (0))])):=by and_intros<;>kernel_rfl
theorem tf202:TF 202 (some 1) (some false) none none none false false true∧(zS prog 202=some .nilFunc):=by and_intros<;>kernel_rfl
theorem tf205:TF 205 (some 1) (some false) none none none false false true∧(zS prog 205=some .nilFunc):=by and_intros<;>kernel_rfl
theorem tf210:TF 210 (some 2) (some true) none (some (2,3)) none false false false∧(zS prog 210=some (.agg #[(.int .i64 (0)),(.int .i64 (0))])):=by and_intros<;>kernel_rfl
theorem tf217:TF 217 (some 4) (some true) none none none false false false∧(zS prog 217=some (.agg #[(.string ⟨#[]⟩),(.int .i64 (0)),(.int .i64 (0)),(.string ⟨#[]⟩)]))∧(zR prog 217 0=some (0,9))∧(zR prog 217 1=some (1,72))∧(xW prog 217=some (rH [(0,1),(1,3)])):=⟨by and_intros<;>kernel_rfl,by kernel_rfl,by kernel_rfl,by kernel_rfl,xP Tryz.underlying217 (by kernel_rfl) (by kernel_rfl)⟩
theorem tf220:TF 220 (some 1) (some false) none none none false false false∧(zS prog 220=some (.pointer none)):=by and_intros<;>kernel_rfl
theorem tf221:TF 221 (some 1) (some false) none none none false false false∧(zS prog 221=some (.pointer none)):=by and_intros<;>kernel_rfl
theorem tf226:TF 226 (some 10) (some true) none (some (10,9)) none false false false∧(zS prog 226=some (.agg #[(.string ⟨#[]⟩),(.string ⟨#[]⟩),(.string ⟨#[]⟩),(.string ⟨#[]⟩),(.string ⟨#[]⟩),(.string ⟨#[]⟩),(.string ⟨#[]⟩),(.string ⟨#[]⟩),(.string ⟨#[]⟩),(.string ⟨#[]⟩)])):=by and_intros<;>kernel_rfl
theorem tf227:TF 227 (some 1) (some false) none none none false false true∧(zS prog 227=some .nilFunc):=by and_intros<;>kernel_rfl
theorem tf231:TF 231 (some 64) (some true) none (some (64,3)) none false false false∧(zS prog 231=some (.agg #[(.int .i64 (0)),(.int .i64 (0)),(.int .i64 (0)),(.int .i64 (0)),(.int .i64 (0)),(.int .i64 (0)),(.int .i64 (0)),(.int .i64 (0)),(.int .i64 (0)),(.int .i64 (0)),(.int .i64 (0)),(.int .i64 (0)),(.int .i64 (0)),(.int .i64 (0)),(.int .i64 (0)),(.int .i64 (0)),(.int .i64 (0)),(.int .i64 (0)),(.int .i64 (0)),(.int .i64 (0)),(.int .i64 (0)),(.int .i64 (0)),(.int .i64 (0)),(.int .i64 (0)),(.int .i64 (0)),(.int .i64 (0)),(.int .i64 (0)),(.int .i64 (0)),(.int .i64 (0)),(.int .i64 (0)),(.int .i64 (0)),(.int .i64 (0)),(.int .i64 (0)),(.int .i64 (0)),(.int .i64 (0)),(.int .i64 (0)),(.int .i64 (0)),(.int .i64 (0)),(.int .i64 (0)),(.int .i64 (0)),(.int .i64 (0)),(.int .i64 (0)),(.int .i64 (0)),(.int .i64 (0)),(.int .i64 (0)),(.int .i64 (0)),(.int .i64 (0)),(.int .i64 (0)),(.int .i64 (0)),(.int .i64 (0)),(.int .i64 (0)),(.int .i64 (0)),(.int .i64 (0)),(.int .i64 (0)),(.int .i64 (0)),(.int .i64 (0)),(.int .i64 (0)),(.int .i64 (0)),(.int .i64 (0)),(.int .i64 (0)),(.int .i64 (0)),(.int .i64 (0)),(.int .i64 (0)),(.int .i64 (0))])):=by and_intros<;>kernel_rfl
theorem tf232:TF 232 (some 1) (some false) none none none false false true∧(zS prog 232=some .nilFunc):=by and_intros<;>kernel_rfl
theorem tf238:TF 238 (some 1) (some false) none none (some .u64) false false false∧(zS prog 238=some (.int .u64 (0))):=by and_intros<;>kernel_rfl
theorem tf240:TF 240 (some 1) (some false) (some 187) none none false false false∧(zS prog 240=some (.slice none 0 0))∧(wD prog 240=some (187,1,8)):=by and_intros<;>kernel_rfl
theorem tf257:TF 257 (some 1) (some false) none none none false false true∧(zS prog 257=some .nilFunc):=by and_intros<;>kernel_rfl
theorem tf259:TF 259 (some 1) (some false) none none none false false true∧(zS prog 259=some .nilFunc):=by and_intros<;>kernel_rfl
theorem tf265:TF 265 (some 1) (some false) none none none false false false∧(zS prog 265=some (.pointer none)):=by and_intros<;>kernel_rfl
theorem tf266:TF 266 (some 36) (some true) none (some (36,3)) none false false false∧(zS prog 266=some (.agg #[(.int .i64 (0)),(.int .i64 (0)),(.int .i64 (0)),(.int .i64 (0)),(.int .i64 (0)),(.int .i64 (0)),(.int .i64 (0)),(.int .i64 (0)),(.int .i64 (0)),(.int .i64 (0)),(.int .i64 (0)),(.int .i64 (0)),(.int .i64 (0)),(.int .i64 (0)),(.int .i64 (0)),(.int .i64 (0)),(.int .i64 (0)),(.int .i64 (0)),(.int .i64 (0)),(.int .i64 (0)),(.int .i64 (0)),(.int .i64 (0)),(.int .i64 (0)),(.int .i64 (0)),(.int .i64 (0)),(.int .i64 (0)),(.int .i64 (0)),(.int .i64 (0)),(.int .i64 (0)),(.int .i64 (0)),(.int .i64 (0)),(.int .i64 (0)),(.int .i64 (0)),(.int .i64 (0)),(.int .i64 (0)),(.int .i64 (0))])):=by and_intros<;>kernel_rfl
theorem tf268:TF 268 (some 73) (some true) none none none false false false∧(zS prog 268=some (.agg #[(.map none),(.int .i64 (0)),(.int .i64 (0)),(.int .i64 (0)),(.int .i64 (0)),(.int .i64 (0)),(.int .i64 (0)),(.int .i64 (0)),(.int .i64 (0)),(.int .i64 (0)),(.int .i64 (0)),(.int .i64 (0)),(.int .i64 (0)),(.int .i64 (0)),(.int .i64 (0)),(.int .i64 (0)),(.int .i64 (0)),(.int .i64 (0)),(.int .i64 (0)),(.int .i64 (0)),(.int .i64 (0)),(.int .i64 (0)),(.int .i64 (0)),(.int .i64 (0)),(.int .i64 (0)),(.int .i64 (0)),(.int .i64 (0)),(.int .i64 (0)),(.int .i64 (0)),(.int .i64 (0)),(.int .i64 (0)),(.int .i64 (0)),(.int .i64 (0)),(.int .i64 (0)),(.int .i64 (0)),(.int .i64 (0)),(.int .i64 (0)),(.int .i64 (0)),(.int .i64 (0)),(.int .i64 (0)),(.int .i64 (0)),(.int .i64 (0)),(.int .i64 (0)),(.int .i64 (0)),(.int .i64 (0)),(.int .i64 (0)),(.int .i64 (0)),(.int .i64 (0)),(.int .i64 (0)),(.int .i64 (0)),(.int .i64 (0)),(.int .i64 (0)),(.int .i64 (0)),(.int .i64 (0)),(.int .i64 (0)),(.int .i64 (0)),(.int .i64 (0)),(.int .i64 (0)),(.int .i64 (0)),(.int .i64 (0)),(.int .i64 (0)),(.int .i64 (0)),(.int .i64 (0)),(.int .i64 (0)),(.int .i64 (0)),(.int .i64 (0)),(.int .i64 (0)),(.int .i64 (0)),(.int .i64 (0)),(.int .i64 (0)),(.int .i64 (0)),(.int .i64 (0)),(.int .i64 (0))]))∧(zR prog 268 0=some (0,169))∧(zR prog 268 1=some (1,266))∧(zR prog 268 2=some (37,266))∧(xW prog 268=some (rH [(0,1),(1,36),(37,36)])):=⟨by and_intros<;>kernel_rfl,by kernel_rfl,by kernel_rfl,by kernel_rfl,by kernel_rfl,xP Tryz.underlying268 (by kernel_rfl) (by kernel_rfl)⟩
theorem tf274:TF 274 (some 1) (some false) (some 5) none none false false false∧(zS prog 274=some (.slice none 0 0))∧(wD prog 274=some (5,1,1)):=by and_intros<;>kernel_rfl
theorem tf286:TF 286 (some 1) (some false) none none none false false true∧(zS prog 286=some .nilFunc):=by and_intros<;>kernel_rfl
theorem tf310:TF 310 (some 64) (some true) none (some (64,5)) none false false false∧(zS prog 310=some (.agg #[(.int .u8 (0)),(.int .u8 (0)),(.int .u8 (0)),(.int .u8 (0)),(.int .u8 (0)),(.int .u8 (0)),(.int .u8 (0)),(.int .u8 (0)),(.int .u8 (0)),(.int .u8 (0)),(.int .u8 (0)),(.int .u8 (0)),(.int .u8 (0)),(.int .u8 (0)),(.int .u8 (0)),(.int .u8 (0)),(.int .u8 (0)),(.int .u8 (0)),(.int .u8 (0)),(.int .u8 (0)),(.int .u8 (0)),(.int .u8 (0)),(.int .u8 (0)),(.int .u8 (0)),(.int .u8 (0)),(.int .u8 (0)),(.int .u8 (0)),(.int .u8 (0)),(.int .u8 (0)),(.int .u8 (0)),(.int .u8 (0)),(.int .u8 (0)),(.int .u8 (0)),(.int .u8 (0)),(.int .u8 (0)),(.int .u8 (0)),(.int .u8 (0)),(.int .u8 (0)),(.int .u8 (0)),(.int .u8 (0)),(.int .u8 (0)),(.int .u8 (0)),(.int .u8 (0)),(.int .u8 (0)),(.int .u8 (0)),(.int .u8 (0)),(.int .u8 (0)),(.int .u8 (0)),(.int .u8 (0)),(.int .u8 (0)),(.int .u8 (0)),(.int .u8 (0)),(.int .u8 (0)),(.int .u8 (0)),(.int .u8 (0)),(.int .u8 (0)),(.int .u8 (0)),(.int .u8 (0)),(.int .u8 (0)),(.int .u8 (0)),(.int .u8 (0)),(.int .u8 (0)),(.int .u8 (0)),(.int .u8 (0))])):=by and_intros<;>kernel_rfl
attribute [go_sem] tf101 tf105 tf106 tf108 tf109 tf111 tf114 tf119 tf120 tf122 tf123 tf125 tf127 tf129 tf134 tf136 tf138 tf139 tf144 tf145 tf146 tf149 tf152 tf154 tf155 tf156 tf159 tf163 tf166 tf167 tf169 tf171 tf173 tf174 tf176 tf177 tf183 tf186 tf187 tf193 tf202 tf205 tf21 tf210 tf217 tf22 tf220 tf221 tf226 tf227 tf23 tf231 tf232 tf238 tf24 tf240 tf25 tf257 tf259 tf265 tf266 tf268 tf27 tf274 tf28 tf286 tf29 tf3 tf31 tf310 tf32 tf36 tf4 tf40 tf41 tf42 tf44 tf5 tf57 tf60 tf65 tf69 tf70 tf72 tf73 tf74 tf76 tf80 tf82 tf84 tf85 tf9 tf95 tf96 tf98 tf99
end Go.AL
namespace Go.AL
open Go.Proofs Go.Proofs.Tryz
abbrev i64 (n:Int):PV:= .sc (.int .i64 n)
abbrev bo (b:Bool):PV:= .sc (.bool b)
theorem zhI:IntKind.i64.min= -9223372036854775808:=by decide
theorem zhJ:IntKind.i64.max=9223372036854775807:=by decide
theorem zlC:IntKind.u8.min=0:=by decide
theorem zlD:IntKind.u8.max=255:=by decide
theorem zeX:(0:Nat)<1:=Nat.zero_lt_one
theorem xM {n:Int} (h1: -9223372036854775808≤n) (h2:n≤9223372036854775807):IntKind.i64.wrap n=n:=IntWalk.i64_in n ⟨h1,h2⟩
theorem tint8:True:=trivial
theorem zG {α β:Type} {f:α→β} {l:List α} {n:Nat} (d:β) (h:n<l.length):(l.map f).getD n d=f l[n]:=by
 rw [List.getD_eq_getElem?_getD,List.getElem?_map,List.getElem?_eq_getElem h];rfl
theorem fD {α β:Type} {f:α→β} {l:List α} {n:Nat} (d:β) (h:n<l.length):((l.map f).drop n).getD 0 d=f l[n]:=by
 rw [List.getD_eq_getElem?_getD,List.getElem?_drop,Nat.add_zero,List.getElem?_map,List.getElem?_eq_getElem h];rfl
theorem wY {α β:Type} (f:α→β) (l:List α) (n:Nat) (x:α) (h:n<l.length):(l.map f).take n++f x::(l.map f).drop (n+1)=(l.set n x).map f:=by
 rw [List.set_eq_take_append_cons_drop,if_pos h]
 simp
theorem lG (cs:List PV):wA cs 0 1 cs.length=cs.map ([·]):=by
 apply List.ext_getElem?
 intro i
 unfold wA
 rw [List.getElem?_map,List.getElem?_map]
 by_cases h:i<cs.length
 ·simp [h,List.getElem?_eq_getElem h,List.take_one,List.head?_drop]
 ·simp [h]
theorem zj5 (p:PV):wA [p] 0 1 1=[[p]]:=rfl
theorem zfM (a:Option Addr) (b c:Nat):(Value.slice a b c).oneCell'=true:=rfl
theorem zlU (k:IntKind) (n:Int):(Value.int k n).oneCell'=true:=rfl
theorem zi5 (b:Bool):(Value.bool b).oneCell'=true:=rfl
theorem zdG (b:ByteArray):(Value.string b).oneCell'=true:=rfl
theorem wN:prog.follows .mixedOrders=true:=by kernel_rfl
def ws:List PV:=[.sc (.string "lattice".toUTF8),.sc (.string "function".toUTF8),.sc (.string "on".toUTF8),.sc (.string "base".toUTF8),.sc (.string "view".toUTF8),.sc (.string "key".toUTF8),.sc (.string "deny".toUTF8),.sc (.string "not".toUTF8),.sc (.string "int".toUTF8),.sc (.string "sym".toUTF8)]
def db:List PV:=[.sc (.int .u8 0),.sc (.int .u8 1),.sc (.int .u8 56),.sc (.int .u8 2),.sc (.int .u8 57),.sc (.int .u8 49),.sc (.int .u8 28),.sc (.int .u8 3),.sc (.int .u8 61),.sc (.int .u8 58),.sc (.int .u8 42),.sc (.int .u8 50),.sc (.int .u8 38),.sc (.int .u8 29),.sc (.int .u8 17),.sc (.int .u8 4),.sc (.int .u8 62),.sc (.int .u8 47),.sc (.int .u8 59),.sc (.int .u8 36),.sc (.int .u8 45),.sc (.int .u8 43),.sc (.int .u8 51),.sc (.int .u8 22),.sc (.int .u8 53),.sc (.int .u8 39),.sc (.int .u8 33),.sc (.int .u8 30),.sc (.int .u8 24),.sc (.int .u8 18),.sc (.int .u8 12),.sc (.int .u8 5),.sc (.int .u8 63),.sc (.int .u8 55),.sc (.int .u8 48),.sc (.int .u8 27),.sc (.int .u8 60),.sc (.int .u8 41),.sc (.int .u8 37),.sc (.int .u8 16),.sc (.int .u8 46),.sc (.int .u8 35),.sc (.int .u8 44),.sc (.int .u8 21),.sc (.int .u8 52),.sc (.int .u8 32),.sc (.int .u8 23),.sc (.int .u8 11),.sc (.int .u8 54),.sc (.int .u8 26),.sc (.int .u8 40),.sc (.int .u8 15),.sc (.int .u8 34),.sc (.int .u8 20),.sc (.int .u8 31),.sc (.int .u8 10),.sc (.int .u8 25),.sc (.int .u8 14),.sc (.int .u8 19),.sc (.int .u8 9),.sc (.int .u8 13),.sc (.int .u8 8),.sc (.int .u8 7),.sc (.int .u8 6)]
def G0:Glob:=fun g=>if g==0 then some ws else if g==1 then some [.ts 1 (ws.map ([·]))] else if g==2 then some db else none
theorem zK:GTree G0:=by
 intro g cs h p hp
 have key:cs.all (zU 40)=true:=by
  unfold G0 at h
  split at h
  ·cases h;kernel_rfl
  ·split at h
   ·cases h;kernel_rfl
   ·split at h
    ·cases h;kernel_rfl
    ·cases h
 rw [List.all_eq_true] at key
 exact yP 40 p (key p hp)
theorem zQ (pl:DPlan) (D:Option Nat→Prop) (id:Nat) {ops:Array Oper} {K:Exit→List PV→Heap→Prop} {ts:List PV} {h:Heap} (hg:pl.good ops.toList=true)
  (k: ∀ n0,h.length=n0→ ∀ l,ops.toList=l→ ∀ ds,l.map (·.dst)=ds→ ∀ h2,rY h pl.places=h2→AD prog G0 false n0 ts pl.at ds l pl.ord (K .normal) ts h2):EWp prog G0 D (.region id ops true) K ts h:=jS wN zK pl hg k
theorem dw (pl:Nat→DPlan) (D:Option Nat→Prop) (id:Nat) {ops:Array Oper} {K:Exit→List PV→Heap→Prop} {ts:List PV} {h:Heap} (hg:(pl id).good ops.toList=true)
  (k: ∀ n0,h.length=n0→ ∀ l,ops.toList=l→ ∀ ds,l.map (·.dst)=ds→ ∀ h2,rY h (pl id).places=h2→AD prog G0 false n0 ts (pl id).at ds l (pl id).ord (K .normal) ts h2):EWp prog G0 D (.region id ops true) K ts h:=jS wN zK (pl id) hg k
theorem yD (pl:Nat→DPlan) {D:Option Nat→Prop} {id:Nat} {ops:Array Oper} {K:Exit→List PV→Heap→Prop} {ts:List PV} {h:Heap}
  (k: ∀ n0,h.length=n0→ ∀ l,ops.toList=l→ ∀ ds,l.map (·.dst)=ds→ ∀ h2,rY h (pl id).places=h2→AD prog G0 false n0 ts (pl id).at ds l (pl id).ord (K .normal) ts h2) (hg:(pl id).good ops.toList=true:=by kernel_rfl):EWp prog G0 D (.region id ops true) K ts h:=jS wN zK (pl id) hg k
end Go.AL
namespace Go.AL
open Go.Proofs Go.Proofs.Tryz
variable {P:Program} {G:Glob} {rd:Option Nat}
end Go.AL
