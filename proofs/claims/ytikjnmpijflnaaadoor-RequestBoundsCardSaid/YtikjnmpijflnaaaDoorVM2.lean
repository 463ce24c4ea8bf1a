/- Texts of this proof laid together: Shelf, Num1, Read, NumOrd, NumFit, NumRead, Rows, Bits, StrBase, Str, StrRule, NumParse, LaidReq, RepBase, RepPlain, IterStr, BrAny, RepRd, RepRdW, ReqPlain, ReqTold, Rows2. -/
import Derived.Test.YtikjnmpijflnaaaDoorVM1
import Derived.Shelf.SlGeneric
import Derived.Shelf.Strconv.ParseIntPublic10
import Derived.Ground.NamesProg
import Derived.Shelf.Strings.IndexAnyAll
import Derived.Shelf.Spec.DecodeRune
import Derived.Ground.Names7Prog
import Derived.Shelf.Strconv.Itoa4
import Derived.Test.YtikjnmpijflnaaaDoorProg
import Derived.Lib.AtoiErrMem
import Derived.ProofKit
import Derived.OpenShut
import Derived.ChangeOld
import Derived.Deep.Slices
import Derived.Lib.ItoaNum
import Derived.Lib.ParseIntB
import Derived.Laws.Externs
import Derived.Laws.CopyRow
import Derived.Lib.AppendZerosOnto
import Derived.Lib.Overlaps
import Derived.Laws.Strings2
import Derived.Shelf.Strconv.ErrVarParseInt
import Derived.Test.YtikjnmpijflnaaaDoorCards
import Derived.Test.YtikjnmpijflnaaaDoorTie
import Derived.WalkKit
import Derived.Deep.DeepHandedRow
import Derived.Lib.LaidTab
import Derived.LaidSub
import Derived.SevenTiedAt
import Derived.Stop.LaidErr
import Derived.PinnedBridge
import Derived.Lib.OthersKept
import Derived.Scope
/- The library's sort and the like, laid at this program by the kit's tool. -/
namespace Go.Proofs
open Go.Shelf
def Tryd.layPI_ren : Go.Shelf.Ren := ⟨fun | 174 => 76 | 247 => 87 | 245 => 88 | 287 => 96 | 279 => 97 | 280 => 98 | 281 => 99 | 282 => 100 | 321 => 112 | 322 => 113 | 316 => 114 | 171 => 116 | 205 => 115 | 243 => 121 | 246 => 78 | 283 => 90 | 284 => 91 | 285 => 92 | 286 => 93 | 129 => 106 | 317 => 105 | 318 => 107 | 319 => 108 | 320 => 109 | 337 => 118 | 338 => 119 | n => n, fun | 9 => 9 | 3 => 3 | 2 => 2 | 75 => 117 | 85 => 118 | 4 => 4 | 167 => 138 | 5 => 5 | 53 => 105 | 175 => 139 | 46 => 124 | 168 => 141 | 37 => 28 | 0 => 0 | 210 => 156 | 21 => 21 | 127 => 162 | 145 => 165 | 143 => 163 | 171 => 128 | 173 => 131 | 212 => 149 | 51 => 133 | 20 => 20 | 213 => 150 | 232 => 166 | 233 => 167 | 80 => 168 | n => n, fun | 15 => 4 | 16 => 5 | 17 => 3 | 18 => 6 | 19 => 7 | n => n⟩
theorem Tryd.layPI : Go.Proofs.LaysC.n174 Tryd.prog Tryd.layPI_ren := {
  mixed := by kernel_rfl
  f129 := Tryd.func106.trans (congrArg some (by kernel_rfl))
  f171 := Tryd.func116.trans (congrArg some (by kernel_rfl))
  f174 := Tryd.func76.trans (congrArg some (by kernel_rfl))
  f205 := Tryd.func115.trans (congrArg some (by kernel_rfl))
  f243 := Tryd.func121.trans (congrArg some (by kernel_rfl))
  f245 := Tryd.func88.trans (congrArg some (by kernel_rfl))
  f246 := Tryd.func78.trans (congrArg some (by kernel_rfl))
  f247 := Tryd.func87.trans (congrArg some (by kernel_rfl))
  f279 := Tryd.func97.trans (congrArg some (by kernel_rfl))
  f280 := Tryd.func98.trans (congrArg some (by kernel_rfl))
  f281 := Tryd.func99.trans (congrArg some (by kernel_rfl))
  f282 := Tryd.func100.trans (congrArg some (by kernel_rfl))
  f283 := Tryd.func90.trans (congrArg some (by kernel_rfl))
  f284 := Tryd.func91.trans (congrArg some (by kernel_rfl))
  f285 := Tryd.func92.trans (congrArg some (by kernel_rfl))
  f286 := Tryd.func93.trans (congrArg some (by kernel_rfl))
  f287 := Tryd.func96.trans (congrArg some (by kernel_rfl))
  f316 := Tryd.func114.trans (congrArg some (by kernel_rfl))
  f317 := Tryd.func105.trans (congrArg some (by kernel_rfl))
  f318 := Tryd.func107.trans (congrArg some (by kernel_rfl))
  f319 := Tryd.func108.trans (congrArg some (by kernel_rfl))
  f320 := Tryd.func109.trans (congrArg some (by kernel_rfl))
  f321 := Tryd.func112.trans (congrArg some (by kernel_rfl))
  f322 := Tryd.func113.trans (congrArg some (by kernel_rfl))
  f337 := Tryd.func118.trans (congrArg some (by kernel_rfl))
  f338 := Tryd.func119.trans (congrArg some (by kernel_rfl))
  t0 := Tryd.underlying0
  a0 := Tryd.isAgg0
  z0 := Tryd.sizeOf0
  v0 := Tryd.zeroValue0
  t2 := Tryd.underlying2
  a2 := Tryd.isAgg2
  z2 := Tryd.sizeOf2
  v2 := Tryd.zeroValue2
  t3 := Tryd.underlying3
  a3 := Tryd.isAgg3
  z3 := Tryd.sizeOf3
  v3 := Tryd.zeroValue3
  t4 := Tryd.underlying4
  a4 := Tryd.isAgg4
  z4 := Tryd.sizeOf4
  v4 := Tryd.zeroValue4
  t5 := Tryd.underlying5
  a5 := Tryd.isAgg5
  z5 := Tryd.sizeOf5
  v5 := Tryd.zeroValue5
  t9 := Tryd.underlying9
  a9 := Tryd.isAgg9
  z9 := Tryd.sizeOf9
  v9 := Tryd.zeroValue9
  t20 := Tryd.underlying20
  a20 := Tryd.isAgg20
  z20 := Tryd.sizeOf20
  v20 := Tryd.zeroValue20
  t21 := Tryd.underlying21
  a21 := Tryd.isAgg21
  z21 := Tryd.sizeOf21
  v21 := Tryd.zeroValue21
  t37 := Tryd.underlying28
  a37 := Tryd.isAgg28
  z37 := Tryd.sizeOf28
  v37 := Tryd.zeroValue28
  t46 := Tryd.underlying124
  a46 := Tryd.isAgg124
  z46 := Tryd.sizeOf124
  v46 := Tryd.zeroValue124
  t51 := Tryd.underlying133
  a51 := Tryd.isAgg133
  z51 := Tryd.sizeOf133
  v51 := Tryd.zeroValue133
  t53 := Tryd.underlying105
  a53 := Tryd.isAgg105
  z53 := Tryd.sizeOf105
  v53 := Tryd.zeroValue105
  t75 := Tryd.underlying117
  a75 := Tryd.isAgg117
  z75 := Tryd.sizeOf117
  v75 := Tryd.zeroValue117
  t85 := Tryd.underlying118
  a85 := Tryd.isAgg118
  z85 := Tryd.sizeOf118
  v85 := Tryd.zeroValue118
  t127 := Tryd.underlying162
  a127 := Tryd.isAgg162
  z127 := Tryd.sizeOf162
  v127 := Tryd.zeroValue162
  t143 := Tryd.underlying163
  a143 := Tryd.isAgg163
  z143 := Tryd.sizeOf163
  v143 := Tryd.zeroValue163
  t145 := Tryd.underlying165
  a145 := Tryd.isAgg165
  z145 := Tryd.sizeOf165
  v145 := Tryd.zeroValue165
  t167 := Tryd.underlying138
  a167 := Tryd.isAgg138
  z167 := Tryd.sizeOf138
  v167 := Tryd.zeroValue138
  t168 := Tryd.underlying141
  a168 := Tryd.isAgg141
  z168 := Tryd.sizeOf141
  v168 := Tryd.zeroValue141
  t171 := Tryd.underlying128
  a171 := Tryd.isAgg128
  z171 := Tryd.sizeOf128
  v171 := Tryd.zeroValue128
  t173 := Tryd.underlying131
  a173 := Tryd.isAgg131
  z173 := Tryd.sizeOf131
  v173 := Tryd.zeroValue131
  t175 := Tryd.underlying139
  a175 := Tryd.isAgg139
  z175 := Tryd.sizeOf139
  v175 := Tryd.zeroValue139
  t210 := Tryd.underlying156
  a210 := Tryd.isAgg156
  z210 := Tryd.sizeOf156
  v210 := Tryd.zeroValue156
  t212 := Tryd.underlying149
  a212 := Tryd.isAgg149
  z212 := Tryd.sizeOf149
  v212 := Tryd.zeroValue149
  t213 := Tryd.underlying150
  a213 := Tryd.isAgg150
  z213 := Tryd.sizeOf150
  t232 := Tryd.underlying166
  a232 := Tryd.isAgg166
  z232 := Tryd.sizeOf166
  v232 := Tryd.zeroValue166
  t233 := Tryd.underlying167
  a233 := Tryd.isAgg167
  z233 := Tryd.sizeOf167
  v233 := Tryd.zeroValue167
  g15 := by kernel_rfl
  g16 := by kernel_rfl
  g17 := by kernel_rfl
  g18 := by kernel_rfl
  g19 := by kernel_rfl
  t80 := Tryd.underlying168
  a80 := Tryd.isAgg168
  z80 := Tryd.sizeOf168
  v80 := Tryd.zeroValue168
  i0 := by kernel_rfl
  i2 := by kernel_rfl
  i3 := by kernel_rfl
  i4 := by kernel_rfl
  i5 := by kernel_rfl
  i9 := by kernel_rfl
  i20 := by kernel_rfl
  i21 := by kernel_rfl
  i37 := by kernel_rfl
  i46 := by kernel_rfl
  i51 := by kernel_rfl
  i53 := by kernel_rfl
  i75 := by kernel_rfl
  i80 := by kernel_rfl
  i85 := by kernel_rfl
  i127 := by kernel_rfl
  i143 := by kernel_rfl
  i145 := by kernel_rfl
  i167 := by kernel_rfl
  i168 := by kernel_rfl
  i171 := by kernel_rfl
  i173 := by kernel_rfl
  i175 := by kernel_rfl
  i210 := by kernel_rfl
  i212 := by kernel_rfl
  i232 := by kernel_rfl
  i233 := by kernel_rfl
  m15 := by kernel_rfl
  m16 := by kernel_rfl
  m17 := by kernel_rfl
  m18 := by kernel_rfl
  m19 := by kernel_rfl
  c0 := by kernel_rfl
  c2 := by kernel_rfl
  c3 := by kernel_rfl
  c4 := by kernel_rfl
  c5 := by kernel_rfl
  c9 := by kernel_rfl
  c20 := by kernel_rfl
  c21 := by kernel_rfl
  c37 := by kernel_rfl
  c46 := by kernel_rfl
  c51 := by kernel_rfl
  c53 := by kernel_rfl
  c75 := by kernel_rfl
  c80 := by kernel_rfl
  c85 := by kernel_rfl
  c127 := by kernel_rfl
  c143 := by kernel_rfl
  c145 := by kernel_rfl
  c167 := by kernel_rfl
  c168 := by kernel_rfl
  c171 := by kernel_rfl
  c173 := by kernel_rfl
  c175 := by kernel_rfl
  c210 := by kernel_rfl
  c212 := by kernel_rfl
  c213 := by kernel_rfl
  c232 := by kernel_rfl
  c233 := by kernel_rfl }
def Tryd.layIA_ren : Go.Shelf.Ren := ⟨fun | 153 => 89 | 152 => 101 | 226 => 102 | 227 => 103 | 228 => 104 | 137 => 117 | 119 => 82 | 224 => 84 | 225 => 75 | 217 => 110 | 266 => 69 | n => n, fun | 9 => 9 | 3 => 3 | 4 => 4 | 5 => 5 | 21 => 21 | 117 => 146 | 116 => 145 | 0 => 0 | 46 => 124 | 124 => 158 | n => n, fun | n => n⟩
theorem Tryd.layIA : Go.Proofs.Lays.n153 Tryd.prog Tryd.layIA_ren := {
  mixed := by kernel_rfl
  f119 := Tryd.func82.trans (congrArg some (by kernel_rfl))
  f137 := Tryd.func117.trans (congrArg some (by kernel_rfl))
  f152 := Tryd.func101.trans (congrArg some (by kernel_rfl))
  f153 := Tryd.func89.trans (congrArg some (by kernel_rfl))
  f217 := Tryd.func110.trans (congrArg some (by kernel_rfl))
  f224 := Tryd.func84.trans (congrArg some (by kernel_rfl))
  f225 := Tryd.func75.trans (congrArg some (by kernel_rfl))
  f226 := Tryd.func102.trans (congrArg some (by kernel_rfl))
  f227 := Tryd.func103.trans (congrArg some (by kernel_rfl))
  f228 := Tryd.func104.trans (congrArg some (by kernel_rfl))
  f266 := Tryd.func69.trans (congrArg some (by kernel_rfl))
  t0 := Tryd.underlying0
  a0 := Tryd.isAgg0
  z0 := Tryd.sizeOf0
  v0 := Tryd.zeroValue0
  t3 := Tryd.underlying3
  a3 := Tryd.isAgg3
  z3 := Tryd.sizeOf3
  v3 := Tryd.zeroValue3
  t4 := Tryd.underlying4
  a4 := Tryd.isAgg4
  z4 := Tryd.sizeOf4
  v4 := Tryd.zeroValue4
  t5 := Tryd.underlying5
  a5 := Tryd.isAgg5
  z5 := Tryd.sizeOf5
  v5 := Tryd.zeroValue5
  t9 := Tryd.underlying9
  a9 := Tryd.isAgg9
  z9 := Tryd.sizeOf9
  v9 := Tryd.zeroValue9
  t21 := Tryd.underlying21
  a21 := Tryd.isAgg21
  z21 := Tryd.sizeOf21
  v21 := Tryd.zeroValue21
  t46 := Tryd.underlying124
  a46 := Tryd.isAgg124
  z46 := Tryd.sizeOf124
  v46 := Tryd.zeroValue124
  t116 := Tryd.underlying145
  a116 := Tryd.isAgg145
  z116 := Tryd.sizeOf145
  t117 := Tryd.underlying146
  a117 := Tryd.isAgg146
  z117 := Tryd.sizeOf146
  v117 := Tryd.zeroValue146
  t124 := Tryd.underlying158
  a124 := Tryd.isAgg158
  z124 := Tryd.sizeOf158
  v124 := Tryd.zeroValue158 }
def Tryd.layDR_ren : Go.Shelf.Ren := ⟨fun | 32 => 74 | 49 => 86 | n => n, fun | 30 => 28 | 21 => 21 | 3 => 3 | 0 => 0 | 5 => 5 | 4 => 4 | 33 => 113 | 66 => 134 | 25 => 124 | 69 => 137 | 68 => 136 | n => n, fun | 2 => 1 | 3 => 2 | n => n⟩
theorem Tryd.layDR : Go.Proofs.Lays7.n32 Tryd.prog Tryd.layDR_ren := {
  mixed := by kernel_rfl
  f32 := Tryd.func74.trans (congrArg some (by kernel_rfl))
  f49 := Tryd.func86.trans (congrArg some (by kernel_rfl))
  t0 := Tryd.underlying0
  a0 := Tryd.isAgg0
  z0 := Tryd.sizeOf0
  v0 := Tryd.zeroValue0
  i0 := by kernel_rfl
  t3 := Tryd.underlying3
  a3 := Tryd.isAgg3
  z3 := Tryd.sizeOf3
  v3 := Tryd.zeroValue3
  i3 := by kernel_rfl
  t4 := Tryd.underlying4
  a4 := Tryd.isAgg4
  z4 := Tryd.sizeOf4
  v4 := Tryd.zeroValue4
  i4 := by kernel_rfl
  t5 := Tryd.underlying5
  a5 := Tryd.isAgg5
  z5 := Tryd.sizeOf5
  v5 := Tryd.zeroValue5
  i5 := by kernel_rfl
  t21 := Tryd.underlying21
  a21 := Tryd.isAgg21
  z21 := Tryd.sizeOf21
  v21 := Tryd.zeroValue21
  i21 := by kernel_rfl
  t25 := Tryd.underlying124
  a25 := Tryd.isAgg124
  z25 := Tryd.sizeOf124
  v25 := Tryd.zeroValue124
  i25 := by kernel_rfl
  t30 := Tryd.underlying28
  a30 := Tryd.isAgg28
  z30 := Tryd.sizeOf28
  v30 := Tryd.zeroValue28
  i30 := by kernel_rfl
  t33 := Tryd.underlying113
  a33 := Tryd.isAgg113
  z33 := Tryd.sizeOf113
  v33 := Tryd.zeroValue113
  i33 := by kernel_rfl
  t66 := Tryd.underlying134
  a66 := Tryd.isAgg134
  z66 := Tryd.sizeOf134
  t68 := Tryd.underlying136
  a68 := Tryd.isAgg136
  z68 := Tryd.sizeOf136
  v68 := Tryd.zeroValue136
  i68 := by kernel_rfl
  t69 := Tryd.underlying137
  a69 := Tryd.isAgg137
  z69 := Tryd.sizeOf137
  v69 := Tryd.zeroValue137
  i69 := by kernel_rfl
  g2 := by kernel_rfl
  g3 := by kernel_rfl }
def Tryd.layFI_ren : Go.Shelf.Ren := ⟨fun | 173 => 64 | 246 => 78 | 283 => 90 | 284 => 91 | 285 => 92 | 286 => 93 | 129 => 106 | 317 => 105 | 318 => 107 | 319 => 108 | 320 => 109 | 337 => 118 | 338 => 119 | n => n, fun | 2 => 2 | 3 => 3 | 9 => 9 | 4 => 4 | 171 => 128 | 0 => 0 | 53 => 105 | 37 => 28 | 5 => 5 | 173 => 131 | 212 => 149 | 51 => 133 | 20 => 20 | 213 => 150 | 46 => 124 | 232 => 166 | 233 => 167 | n => n, fun | 17 => 3 | 18 => 6 | 19 => 7 | n => n⟩
theorem Tryd.layFI : Go.Proofs.LaysM.n173 Tryd.prog Tryd.layFI_ren := {
  mixed := by kernel_rfl
  f129 := Tryd.func106.trans (congrArg some (by kernel_rfl))
  f173 := Tryd.func64.trans (congrArg some (by kernel_rfl))
  f246 := Tryd.func78.trans (congrArg some (by kernel_rfl))
  f283 := Tryd.func90.trans (congrArg some (by kernel_rfl))
  f284 := Tryd.func91.trans (congrArg some (by kernel_rfl))
  f285 := Tryd.func92.trans (congrArg some (by kernel_rfl))
  f286 := Tryd.func93.trans (congrArg some (by kernel_rfl))
  f317 := Tryd.func105.trans (congrArg some (by kernel_rfl))
  f318 := Tryd.func107.trans (congrArg some (by kernel_rfl))
  f319 := Tryd.func108.trans (congrArg some (by kernel_rfl))
  f320 := Tryd.func109.trans (congrArg some (by kernel_rfl))
  f337 := Tryd.func118.trans (congrArg some (by kernel_rfl))
  f338 := Tryd.func119.trans (congrArg some (by kernel_rfl))
  t0 := Tryd.underlying0
  a0 := Tryd.isAgg0
  z0 := Tryd.sizeOf0
  v0 := Tryd.zeroValue0
  t2 := Tryd.underlying2
  a2 := Tryd.isAgg2
  z2 := Tryd.sizeOf2
  v2 := Tryd.zeroValue2
  t3 := Tryd.underlying3
  a3 := Tryd.isAgg3
  z3 := Tryd.sizeOf3
  v3 := Tryd.zeroValue3
  t4 := Tryd.underlying4
  a4 := Tryd.isAgg4
  z4 := Tryd.sizeOf4
  v4 := Tryd.zeroValue4
  t5 := Tryd.underlying5
  a5 := Tryd.isAgg5
  z5 := Tryd.sizeOf5
  v5 := Tryd.zeroValue5
  t9 := Tryd.underlying9
  a9 := Tryd.isAgg9
  z9 := Tryd.sizeOf9
  v9 := Tryd.zeroValue9
  t20 := Tryd.underlying20
  a20 := Tryd.isAgg20
  z20 := Tryd.sizeOf20
  v20 := Tryd.zeroValue20
  t37 := Tryd.underlying28
  a37 := Tryd.isAgg28
  z37 := Tryd.sizeOf28
  v37 := Tryd.zeroValue28
  t46 := Tryd.underlying124
  a46 := Tryd.isAgg124
  z46 := Tryd.sizeOf124
  v46 := Tryd.zeroValue124
  t51 := Tryd.underlying133
  a51 := Tryd.isAgg133
  z51 := Tryd.sizeOf133
  v51 := Tryd.zeroValue133
  t53 := Tryd.underlying105
  a53 := Tryd.isAgg105
  z53 := Tryd.sizeOf105
  v53 := Tryd.zeroValue105
  t171 := Tryd.underlying128
  a171 := Tryd.isAgg128
  z171 := Tryd.sizeOf128
  v171 := Tryd.zeroValue128
  t173 := Tryd.underlying131
  a173 := Tryd.isAgg131
  z173 := Tryd.sizeOf131
  v173 := Tryd.zeroValue131
  t212 := Tryd.underlying149
  a212 := Tryd.isAgg149
  z212 := Tryd.sizeOf149
  v212 := Tryd.zeroValue149
  t213 := Tryd.underlying150
  a213 := Tryd.isAgg150
  z213 := Tryd.sizeOf150
  t232 := Tryd.underlying166
  a232 := Tryd.isAgg166
  z232 := Tryd.sizeOf166
  v232 := Tryd.zeroValue166
  t233 := Tryd.underlying167
  a233 := Tryd.isAgg167
  z233 := Tryd.sizeOf167
  v233 := Tryd.zeroValue167
  g17 := by kernel_rfl
  g18 := by kernel_rfl
  g19 := by kernel_rfl
  i0 := by kernel_rfl
  i2 := by kernel_rfl
  i3 := by kernel_rfl
  i4 := by kernel_rfl
  i5 := by kernel_rfl
  i9 := by kernel_rfl
  i20 := by kernel_rfl
  i37 := by kernel_rfl
  i46 := by kernel_rfl
  i51 := by kernel_rfl
  i53 := by kernel_rfl
  i171 := by kernel_rfl
  i173 := by kernel_rfl
  i212 := by kernel_rfl
  i232 := by kernel_rfl
  i233 := by kernel_rfl
  m17 := by kernel_rfl
  m18 := by kernel_rfl
  m19 := by kernel_rfl }
end Go.Proofs

/- Layer 1: numbers and their decimal forms, by the shelf's contracts. -/
namespace Go.V
open Go.RowKit
section
variable {P : Program} {n : Nat} {ops : Array Oper} {dr : Nat × List Nat} {l : List Oper} {E : Env} {w : World} {K : Env → World → Prop}
variable {d : Option Nat} {ty : TypeId} {pos : String} {af : Array Edge} {g : Option (Nat × Bool)} {x : Operand} {t t' tp : TypeId} {ms : Array (String × TypeId)} {v : Value}
theorem G1_errNil (hu : P.underlying t = some (.interface ms)) (hx : E.look x = some .nilIface) (hd : dstOk n d = true) (h : G P n ops dr l (E.put d (.bool false)) w K) : G1 P n ops dr ⟨d, .binOp .neq t x (.const .nilIface) t', ty, pos, af, g⟩ l E w K :=
  G1_quiet _ hd (fun a ha w' _ => by
    have e0 : a.eval (.const .nilIface) = .nilIface := rfl
    have key : ∀ k, (Op.equalIn (k + 1) t .nilIface .nilIface).run P w' = .ok true w' := fun k => by rw [Op.equalIn]; simp [run_underlying hu]
    have e1 : (Op.equal t .nilIface .nilIface).run P w' = .ok true w' := key 9999
    simp [execOp, ha.eval hx, e0, eqGuard, binOp, e1]) h
theorem G1_errNot (hu : P.underlying t = some (.interface ms)) (hx : E.look x = some (.iface tp v)) (hd : dstOk n d = true) (h : G P n ops dr l (E.put d (.bool true)) w K) : G1 P n ops dr ⟨d, .binOp .neq t x (.const .nilIface) t', ty, pos, af, g⟩ l E w K :=
  G1_quiet _ hd (fun a ha w' _ => by
    have e0 : a.eval (.const .nilIface) = .nilIface := rfl
    have key : ∀ k, (Op.equalIn (k + 1) t (.iface tp v) .nilIface).run P w' = .ok false w' := fun k => by rw [Op.equalIn]; simp [run_underlying hu]
    have e1 : (Op.equal t (.iface tp v) .nilIface).run P w' = .ok false w' := key 9999
    simp [execOp, ha.eval hx, e0, eqGuard, binOp, e1]) h
end
theorem Ext.grow {w : World} (k : Nat) (os : Array Obj) : Ext w (Sort.grow (w.drewN k) os) :=
  ⟨rfl, rfl, rfl, by simp [Sort.grow, World.drewN], fun i hi => by simp only [Sort.grow, World.drewN]; rw [Array.getElem?_append_left hi]⟩
theorem TabIs.ext {P : Program} {w w' : World} {name : String} {k : IntKind} {zs : List Int} (h : Lib.TabIs P w name k zs) (hx : Ext w w') : Lib.TabIs P w' name k zs := by
  unfold Lib.TabIs World.var? at *
  cases hg : P.globalNamed name with
  | none => simp [hg] at h
  | some g =>
    simp only [hg, Option.bind_some] at *
    cases hb : w.heap[g]? with
    | none => rw [hb] at h; cases h
    | some o => rw [hx.blk hb]; rw [hb] at h; exact h
theorem var_ext {P : Program} {w w' : World} {name : String} {cs : Array Value} (h : w.var? P name = some cs) (hx : Ext w w') : w'.var? P name = some cs := by
  unfold World.var? at *
  cases hg : P.globalNamed name with
  | none => simp [hg] at h
  | some g =>
    simp only [hg, Option.bind_some] at *
    cases hb : w.heap[g]? with
    | none => rw [hb] at h; cases h
    | some o => rw [hx.blk hb]; rw [hb] at h; exact h
end Go.V
namespace Go.Proofs.YtikjnmpijflnaaaDoor
open Go.V
attribute [local irreducible] Blk Own hcell IntT SliceT PlainT AggT SizeT StrT FieldT ZeroT EqT ArrT
abbrev Pow (w : World) : Prop := Lib.TabIs Tryd.prog w "internal/strconv.uint64pow10" .u64 Lib.pow10Tab
def itoaB (n : Int) : ByteArray := ⟨(Lib.itoa n).toArray⟩
theorem pi_ok {s : ByteArray} {v : Int} {w : World} (hs : s.size ≤ 1000000) (h : Lib.parseIntB 64 s.data.toList = .ok v) : Ctr Tryd.prog 76 [.string s, .int .i64 10, .int .i64 64] w (fun r w' => r = .tuple #[.int .i64 v, .nilIface] ∧ Ext w w') := by
  unfold Ctr
  refine ⟨⟨Tryd.f76, Tryd.func76, by decide, rfl⟩, ?_⟩
  refine Calls.mono (Any.strconv_ParseInt_10_at64_ok Tryd.layPI s (by omega) v h w) fun e w' ⟨he, hw⟩ => ⟨_, he, rfl, ?_⟩
  rcases hw with rfl | ⟨t, rfl⟩
  · exact Ext.rfl'
  · exact Lib.bytesWorld_below _ _ _
theorem print_spec {n : Int} {w : World} (h0 : -9223372036854775808 ≤ n) (h1 : n ≤ 9223372036854775807) (hT : Pow w) : Ctr Tryd.prog 40 [.int .i64 n] w (fun r w' => r = .string (itoaB n) ∧ Ext w w') := by
  have hF : Ctr Tryd.prog 64 [.int .i64 n, .int .i64 10] w (fun r w' => r = .string (itoaB n) ∧ Ext w w') := by
    unfold Ctr
    refine ⟨⟨Tryd.f64, Tryd.func64, by decide, rfl⟩, ?_⟩
    refine Calls.mono (Any.strconv_FormatInt_10 Tryd.layFI n h0 h1 w hT) fun e w' ⟨he, k, os, hw⟩ => ⟨_, he, rfl, ?_⟩
    rw [hw]; exact Ext.grow k os
  refine Ctr_of Tryd.func40 Tryd.ntmps40 rfl rfl rfl ?_
  repeat' (first | (apply G_on; exact rfl; first | ((first | apply G1_assign | apply G1_move); exact rfl; exact rfl) | (apply G1_call (f := 64); exact rfl; exact rfl; exact rfl; exact hF; rintro _ w2 ⟨rfl, hx2⟩; refine ⟨(by first | exact .inl rfl | exact .inr (by assumption)), ?_⟩)) | apply G_nil | apply Post_next | apply W_seq | apply W_region | apply W_ret)
  refine Post_ret Tryd.results40 ⟨_, _, rfl, rfl, rfl⟩ ?_
  exact ⟨rfl, (by repeat first | assumption | exact Ext.rfl' | apply Ext.drew | apply Ext.alloc | refine Ext.trans ?_ (by assumption))⟩
theorem parse_ok {s : ByteArray} {v : Int} {w : World} (hs : s.size ≤ 20) (hpi : Lib.parseIntB 64 s.data.toList = .ok v) (h0 : -9223372036854775808 ≤ v) (h1 : v ≤ 9223372036854775807) (hi : itoaB v = s) (hT : Pow w) : Ctr Tryd.prog 60 [.string s] w (fun r w' => r = .tuple #[.int .i64 v, .bool true] ∧ Ext w w') := by
  refine Ctr_of Tryd.func60 Tryd.ntmps60 rfl rfl rfl ?_
  repeat' (first | (apply G_on; exact rfl; first | ((first | apply G1_assign | apply G1_move); exact rfl; exact rfl) | (apply G1_call (f := 76); exact rfl; exact rfl; exact rfl; exact pi_ok (by omega) hpi; rintro _ w2 ⟨rfl, hx2⟩; refine ⟨(by first | exact .inl rfl | exact .inr (by assumption)), ?_⟩) | (apply G1_errNil; exact Tryd.underlying117; exact rfl; exact rfl) | (apply G1_slen; exact T.str9; exact rfl; exact rfl) | ((first | apply G1_gtr | apply G1_extract); exact rfl; exact rfl; exact rfl)) | apply G_nil | apply Post_next | apply W_seq | apply W_region | (apply W_cond_false; exact rfl) | (apply W_cond_dec; exact rfl; all_goals (intro h; try (exfalso; omega))) | apply W_skip)
  apply G_on; exact rfl; apply G1_call; exact rfl; exact rfl; exact rfl; exact print_spec h0 h1 (TabIs.ext hT hx2); rintro _ w3 ⟨rfl, hx3⟩; refine ⟨(by first | exact .inl rfl | exact .inr (by assumption)), ?_⟩
  repeat' (first | (apply G_on; exact rfl; first | ((first | apply G1_assign | apply G1_move); exact rfl; exact rfl) | (apply G1_sneq; exact rfl; exact rfl; exact rfl)) | apply G_nil | apply Post_next | apply W_seq | apply W_region | (apply W_cond_dec; exact rfl; all_goals (intro h; try (exfalso; omega))) | apply W_skip | apply W_ret | apply Post_then_ret)
  all_goals try contradiction
  refine Post_ret Tryd.results60 ⟨_, _, rfl, rfl, _, _, rfl, rfl, rfl⟩ ?_
  exact ⟨rfl, (by repeat first | assumption | exact Ext.rfl' | apply Ext.drew | apply Ext.alloc | refine Ext.trans ?_ (by assumption))⟩
end Go.Proofs.YtikjnmpijflnaaaDoor

/- From the reading of the arguments to slices that read as lists; the frame of a law's proof. -/
namespace Go.V
open Go.RowKit Go.ChangeShapes Go.WideShapes Go.ChangeAt

theorem list_of {α : Type} {Q : Nat → α → Prop} : ∀ n, (∀ i, i < n → ∃ x, Q i x) → ∃ xs : List α, xs.length = n ∧ ∀ i x, xs[i]? = some x → Q i x
  | 0, _ => ⟨[], rfl, fun i x h => by simp at h⟩
  | n + 1, h => by
    obtain ⟨xs, hl, hq⟩ := list_of n (fun i hi => h i (by omega))
    obtain ⟨x, hx⟩ := h n (by omega)
    refine ⟨xs ++ [x], by simp [hl], fun i y hy => ?_⟩
    by_cases hi : i < xs.length
    · rw [List.getElem?_append_left hi] at hy; exact hq i y hy
    · rw [List.getElem?_append_right (by omega)] at hy
      have h0 : i - xs.length = 0 := by have := get_lt hy; simp at this; omega
      rw [h0] at hy
      simp at hy
      subst hy
      have : i = n := by omega
      subst this
      exact hx

section
variable {H : Type} {enc : TypeId × Value → H} {P : Program} {w : World}

theorem read_slice {α : Type} (en : Enc α) (Good : α → Prop) {t e : TypeId} (ht : P.underlying t = some (.slice e)) (hc : P.cellsOf e = en.sz)
    (dec : ∀ n cs z, DataW.trod enc P w 0 (fun _ => true) true n e cs = some z → ∃ x, cs = en.enc x ∧ Good x)
    {fuel : Nat} {cs : List Value} {x : DataW H × List MemPlace} (h : DataW.trod enc P w 0 (fun _ => true) true fuel t cs = some x) :
    ∃ p c xs, cs = [.slice p xs.length c] ∧ Sl w.heap en p c xs ∧ ∀ y ∈ xs, Good y := by
  rcases Deep.open_slice ht h with ⟨rfl, _⟩ | ⟨a, len, cap, m, n, D, Pl, rfl, _, hl, hm, hmm, _, hx⟩
  · exact ⟨none, 0, [], rfl, Sl.nil, by simp⟩
  · simp only [if_true] at hmm
    subst hmm
    rw [hc] at hx
    have key : ∀ i, i < m → ∃ y, (∀ k v, (en.enc y)[k]? = some v → w.cell? ((a.add (i * en.sz)).add k) = some v) ∧ Good y := by
      intro i hi
      obtain ⟨cs', h1, h2⟩ := hx i hi
      obtain ⟨y, rfl, hg⟩ := dec _ _ _ h2
      refine ⟨y, fun k v hv => ?_, hg⟩
      obtain ⟨_, h3, h4⟩ := World.cells?_some h1
      have hk := get_lt hv
      rw [h4 k (by omega)]; exact hv
    have hspot : 0 < m → a.spot = none := by
      intro hpos
      obtain ⟨y, hy, _⟩ := key 0 hpos
      have hlen : 0 < (en.enc y).length := by rw [en.len]; exact en.pos
      have := hy 0 _ (List.getElem?_eq_getElem hlen)
      simp only [Nat.zero_mul] at this
      have e0 : (a.add 0).add 0 = a := by simp [Addr.add]
      rw [e0] at this
      exact World.cell?_spot this
    obtain ⟨xs, hxl, hxs⟩ := list_of len (fun i hi => key i (by omega))
    refine ⟨some a, m, xs, by rw [hxl], ⟨⟨by omega, hm, (fun h => by cases h), fun b hb hpos => ?_⟩, fun i y hi k v hv => ?_⟩, fun y hy => ?_⟩
    · injection hb with hb; subst hb; exact hspot hpos
    · have h1 := (hxs i y hi).1 k v hv
      have hi' := get_lt hi
      have hs := hspot (by omega)
      obtain ⟨b, o, s⟩ := a
      simp only at hs
      subst hs
      rw [addr_add, addr_add] at h1
      rw [← cell_eq]
      simpa [adr, Nat.add_assoc] using h1
    · obtain ⟨i, hi⟩ := List.getElem?_of_mem hy
      exact (hxs i y hi).2

theorem read_str {t : TypeId} (ht : P.underlying t = some .string) (n : Nat) (cs : List Value) (z : DataW H × List MemPlace) (h : DataW.trod enc P w 0 (fun _ => true) true n t cs = some z) : ∃ x, cs = eStr.enc x ∧ x.size ≤ maxLen := by
  obtain ⟨s, h1, _, h2⟩ := DataW.trod_string ht h
  exact ⟨s, h1, h2⟩

theorem read_int {t : TypeId} (ht : P.underlying t = some (.int .i64)) (n : Nat) (cs : List Value) (z : DataW H × List MemPlace) (h : DataW.trod enc P w 0 (fun _ => true) true n t cs = some z) : ∃ x, cs = eInt.enc x ∧ (-9223372036854775808 ≤ x ∧ x ≤ 9223372036854775807) := by
  obtain ⟨s, h1, _, h2⟩ := DataW.trod_int ht h
  exact ⟨s, h1, by simpa [Lit.wf, IntKind.min, IntKind.max, IntKind.bits, IntKind.signed] using h2⟩

theorem read_byte {t : TypeId} (ht : P.underlying t = some (.int .u8)) (n : Nat) (cs : List Value) (z : DataW H × List MemPlace) (h : DataW.trod enc P w 0 (fun _ => true) true n t cs = some z) : ∃ x, cs = eByte.enc x ∧ True := by
  obtain ⟨s, h1, _, h2⟩ := DataW.trod_int ht h
  have hb : 0 ≤ s ∧ s ≤ 255 := by simpa [Lit.wf, IntKind.min, IntKind.max, IntKind.bits, IntKind.signed] using h2
  refine ⟨UInt8.ofNat s.toNat, ?_, trivial⟩
  rw [h1]
  have : (UInt8.ofNat s.toNat).toNat = s.toNat := by simp; omega
  have h3 : ((UInt8.ofNat s.toNat).toNat : Int) = s := by rw [this]; omega
  simp only [eByte, h3]

/-- a struct of two fields of one cell each -/
theorem read_two {t : TypeId} {f0 f1 : Field} (ht : P.underlying t = some (.struct #[f0, f1])) (o0 : f0.offset = 0) (o1 : f1.offset = 1) (c : P.cellsOf t = 2) (c0 : P.cellsOf f0.type = 1) (c1 : P.cellsOf f1.type = 1)
    {n : Nat} {cs : List Value} {z : DataW H × List MemPlace} (h : DataW.trod enc P w 0 (fun _ => true) true n t cs = some z) :
    ∃ a b m z0 z1, cs = [a, b] ∧ DataW.trod enc P w 0 (fun _ => true) true m f0.type [a] = some z0 ∧ DataW.trod enc P w 0 (fun _ => true) true m f1.type [b] = some z1 := by
  obtain ⟨xs, m, _, _, hl, hxl, hf⟩ := DataW.trod_struct ht h
  rw [c] at hl
  match cs, hl with
  | [a, b], _ =>
    have h0 := hf 0 f0 rfl
    have h1 := hf 1 f1 rfl
    rw [o0, c0] at h0
    rw [o1, c1] at h1
    simp only [List.size_toArray, List.length_cons, List.length_nil, Nat.zero_add] at hxl
    match xs, hxl with
    | [x0, x1], _ => exact ⟨a, b, m, x0, x1, rfl, by simpa using h0, by simpa using h1⟩

theorem arg_str {t : TypeId} {v : Value} {d : DataW H} {ps : List MemPlace} {r : Reach} {base : Nat} (ht : P.underlying t = some .string) (hv : Value.okWide P w r base t v) (h : DataW.Trod enc P w 0 (fun _ => true) true t v d ps) : ∃ s, v = .string s ∧ s.size ≤ maxLen := by
  obtain ⟨s, rfl⟩ := okWide_string ht hv
  obtain ⟨n, h⟩ := h
  obtain ⟨x, hx, hs⟩ := read_str ht _ _ _ h
  simp [Value.cells, eStr] at hx
  subst hx
  exact ⟨s, rfl, hs⟩

theorem arg_int {t : TypeId} {v : Value} {d : DataW H} {ps : List MemPlace} {r : Reach} {base : Nat} (ht : P.underlying t = some (.int .i64)) (hv : Value.okWide P w r base t v) (h : DataW.Trod enc P w 0 (fun _ => true) true t v d ps) : ∃ x, v = .int .i64 x ∧ (-9223372036854775808 ≤ x ∧ x ≤ 9223372036854775807) := by
  obtain ⟨s, rfl⟩ := okWide_int ht hv
  obtain ⟨n, h⟩ := h
  obtain ⟨x, hx, hs⟩ := read_int ht _ _ _ h
  simp [Value.cells, eInt] at hx
  subst hx
  exact ⟨s, rfl, hs⟩

theorem arg_slice {α : Type} (en : Enc α) (Good : α → Prop) {t e : TypeId} {v : Value} {d : DataW H} {ps : List MemPlace} {r : Reach} {base : Nat} (ht : P.underlying t = some (.slice e)) (hc : P.cellsOf e = en.sz)
    (dec : ∀ n cs z, DataW.trod enc P w 0 (fun _ => true) true n e cs = some z → ∃ x, cs = en.enc x ∧ Good x)
    (hv : Value.okWide P w r base t v) (h : DataW.Trod enc P w 0 (fun _ => true) true t v d ps) : ∃ p c xs, v = .slice p xs.length c ∧ Sl w.heap en p c xs ∧ ∀ y ∈ xs, Good y := by
  obtain ⟨a, len, cap, rfl⟩ := okWide_slice ht hv
  obtain ⟨n, h⟩ := h
  obtain ⟨p, c, xs, hx, hs⟩ := read_slice en Good ht hc dec h
  simp [Value.cells] at hx
  obtain ⟨rfl, rfl, rfl⟩ := hx
  exact ⟨_, _, xs, rfl, hs⟩

theorem arg_struct {fs : Array Field} {t : TypeId} {v : Value} {d : DataW H} {ps : List MemPlace} {r : Reach} {base : Nat} (ht : P.underlying t = some (.struct fs)) (hv : Value.okWide P w r base t v) (h : DataW.Trod enc P w 0 (fun _ => true) true t v d ps) : ∃ cs n z, v = .agg cs.toArray ∧ DataW.trod enc P w 0 (fun _ => true) true n t cs = some z := by
  obtain ⟨cs, rfl, _⟩ := okWide_struct ht hv
  obtain ⟨n, h⟩ := h
  exact ⟨cs.toList, n, _, rfl, h⟩

/-- the fields of a struct -/
theorem read_field {t : TypeId} {fs : Array Field} (ht : P.underlying t = some (.struct fs)) {n : Nat} {cs : List Value} {z : DataW H × List MemPlace} (h : DataW.trod enc P w 0 (fun _ => true) true n t cs = some z) (i o sz : Nat) (u : TypeId)
    (hf : (fs[i]?.map fun f => (f.offset, f.type)) = some (o, u)) (hs : P.cellsOf u = sz) : ∃ m y, DataW.trod enc P w 0 (fun _ => true) true m u ((cs.drop o).take sz) = some y := by
  obtain ⟨xs, m, _, _, hl, hxl, hx⟩ := DataW.trod_struct ht h
  match hfi : fs[i]? with
  | none => rw [hfi] at hf; cases hf
  | some f =>
    rw [hfi] at hf
    simp only [Option.map_some, Option.some.injEq, Prod.mk.injEq] at hf
    have hi : i < fs.size := by
      rcases Nat.lt_or_ge i fs.size with hh | hh
      · exact hh
      · rw [Array.getElem?_eq_none hh] at hfi; cases hfi
    have h0 := hx i f hfi
    rw [hf.1, hf.2, hs] at h0
    have hi' : i < xs.length := by omega
    rw [List.getElem?_eq_getElem hi'] at h0
    exact ⟨m, xs[i], h0⟩

theorem read_len {t : TypeId} {fs : Array Field} (ht : P.underlying t = some (.struct fs)) {n : Nat} {cs : List Value} {z : DataW H × List MemPlace} (h : DataW.trod enc P w 0 (fun _ => true) true n t cs = some z) {sz : Nat} (hs : P.cellsOf t = sz) : cs.length = sz := by
  obtain ⟨xs, m, _, _, hl, hxl, hx⟩ := DataW.trod_struct ht h
  omega

theorem trodAll_below (hl : laidOutB P = true) {W W' : World} (hx : Ext W W') : ∀ {ts : List TypeId} {vs : List Value} {ds : List (DataW H)} {ps : List MemPlace}, (∀ t ∈ ts, P.readableRec t = true ∧ t < P.types.size) →
    DataW.TrodAll enc P W 0 (fun _ => true) true ts vs ds ps → DataW.TrodAll enc P W' 0 (fun b => decide (b < W.heap.size)) true ts vs ds ps
  | [], vs, ds, ps, _, h => by
    obtain ⟨rfl, rfl, rfl⟩ := trodAll_nil h
    exact trodAll_mk0
  | t :: ts, vs, ds, ps, hr, h => by
    obtain ⟨v, vs', d, ds', p, q, rfl, rfl, rfl, h1, h2⟩ := trodAll_cons h
    have hlt : ∀ x ∈ p, x.block < W.heap.size := by obtain ⟨m, hm⟩ := h1; exact DataW.trod_lt m _ _ _ hm
    obtain ⟨r1, r2⟩ := hr t (by simp)
    exact trodAll_cons_mk (Below.trod hl r1 r2 h1 hx hlt) (trodAll_below hl hx (fun t ht => hr t (by simp [ht])) h2)

/-- the frame of a law: it returns true and only adds memory -/
theorem law_post {f : Func} {s : ChangeSpec} {W W' : World} {args : Array Value} {ds gs : List (DataW H)} {before : List MemPlace} (hl : laidOutB P = true) (hr : (f.params.toList.all fun t => P.readableRec t && decide (t < P.types.size)) = true) {tb : TypeId} (hb : P.underlying tb = some .bool)
    (hres : f.resultTypes = #[tb]) (hvars : s.vars = []) (hW : DataW.Whole enc P f.params.toList s.vars false W args.toList ds gs before) (hs : s.fn H (ds ++ gs) = { results := [.lit (.bool true)], args := ds }) (hx : Ext W W') :
    s.post enc P f false true false false W args (.bool true) W' := by
  have hW' := hW
  obtain ⟨p, q, hA, hV, rfl, _, _⟩ := hW
  rw [hvars] at hV
  obtain ⟨rfl, rfl⟩ := trodVars_none hV
  have hr' : ∀ t ∈ f.params.toList, P.readableRec t = true ∧ t < P.types.size := fun t ht => by
    have := List.all_eq_true.1 hr t ht
    simpa using this
  refine ⟨ds, [], p ++ [], [], p, [], hW', ?_, ?_, ?_, hx.frame _, fun h => by cases h⟩
  · rw [hs, hres]
    exact trodAll_mk1 (shut_bool hb _)
  · rw [hs]
    exact trodAll_below hl hx hr' hA
  · rw [hs, hvars]; exact rfl

end
end Go.V

/- The order of decimal forms, in plain Lean. -/
namespace Go.Proofs.YtikjnmpijflnaaaDoor
open Go.V
attribute [local irreducible] Blk Own hcell IntT SliceT PlainT AggT SizeT StrT FieldT ZeroT EqT ArrT
theorem less_app : ∀ (xs ys : List UInt8) (c d : UInt8), xs.length = ys.length → Op.bytesLess (xs ++ [c]) (ys ++ [d]) = (Op.bytesLess xs ys || (decide (xs = ys) && decide (c < d)))
  | [], [], c, d, _ => by simp [Op.bytesLess]
  | x :: xs, y :: ys, c, d, h => by
    have ih := less_app xs ys c d (by simpa using h)
    simp only [List.cons_append, Op.bytesLess, ih]
    by_cases hlt : x < y
    · simp [hlt]
    · by_cases hgt : y < x
      · have hne : x ≠ y := by intro he; subst he; exact absurd hgt hlt
        have hb : (x == y) = false := by simp [hne]
        simp [hlt, hne, hb]
      · have he : x = y := UInt8.le_antisymm (UInt8.not_lt.1 hgt) (UInt8.not_lt.1 hlt)
        subst he
        simp
  | [], y :: ys, c, d, h => by cases h
  | x :: xs, [], c, d, h => by cases h
theorem digit_lt {a b : Nat} (ha : a < 10) (hb : b < 10) : (UInt8.ofNat (48 + a) < UInt8.ofNat (48 + b)) ↔ a < b := by
  rw [UInt8.lt_iff_toNat_lt]
  rw [UInt8.toNat_ofNat', UInt8.toNat_ofNat']
  omega
theorem dec_ge (u : Nat) : ∀ c ∈ Lib.decDigits u, 48 ≤ c.toNat := by
  induction u using Nat.strongRecOn with
  | _ u ih =>
    rw [Lib.decDigits]
    split
    · intro c hc
      simp only [List.mem_singleton] at hc
      rw [hc, UInt8.toNat_ofNat']
      omega
    · intro c hc
      rcases List.mem_append.1 hc with hc | hc
      · exact ih (u / 10) (by omega) c hc
      · simp only [List.mem_singleton] at hc
        rw [hc, UInt8.toNat_ofNat']
        omega
theorem dec_less (u : Nat) : ∀ v, Lib.nDigits u = Lib.nDigits v → Op.bytesLess (Lib.decDigits u) (Lib.decDigits v) = decide (u < v) ∧ (Lib.decDigits u = Lib.decDigits v ↔ u = v) := by
  induction u using Nat.strongRecOn with
  | _ u ih =>
    intro v hn
    by_cases hu : u < 10
    · have hv : v < 10 := by
        apply Decidable.byContradiction; intro hv
        rw [Lib.nDigits_small hu, Lib.nDigits_big hv] at hn
        have := Lib.nDigits_pos (v / 10)
        omega
      have hd := digit_lt hu hv
      have hd2 := digit_lt hv hu
      rw [Lib.decDigits_one hu, Lib.decDigits_one hv]
      refine ⟨?_, ?_⟩
      · rw [show ([UInt8.ofNat (48 + u)] : List UInt8) = [] ++ [UInt8.ofNat (48 + u)] from rfl, show ([UInt8.ofNat (48 + v)] : List UInt8) = [] ++ [UInt8.ofNat (48 + v)] from rfl, less_app [] [] _ _ rfl]
        rw [show decide (UInt8.ofNat (48 + u) < UInt8.ofNat (48 + v)) = decide (u < v) from decide_eq_decide.2 hd]
        simp [Op.bytesLess]
      · constructor
        · intro he
          injection he with he _
          rw [he] at hd hd2
          have h1 : ¬ u < v := fun h => UInt8.lt_irrefl _ (hd.2 h)
          have h2 : ¬ v < u := fun h => UInt8.lt_irrefl _ (hd2.2 h)
          omega
        · intro he; rw [he]
    · have hv : ¬ v < 10 := by
        intro hv
        rw [Lib.nDigits_small hv, Lib.nDigits_big hu] at hn
        have := Lib.nDigits_pos (u / 10)
        omega
      rw [Lib.nDigits_big hu, Lib.nDigits_big hv] at hn
      obtain ⟨ih1, ih2⟩ := ih (u / 10) (by omega) (v / 10) (by omega)
      have hlen : (Lib.decDigits (u / 10)).length = (Lib.decDigits (v / 10)).length := by rw [Lib.decDigits_length, Lib.decDigits_length]; omega
      have hd := digit_lt (a := u % 10) (b := v % 10) (by omega) (by omega)
      have hd2 := digit_lt (a := v % 10) (b := u % 10) (by omega) (by omega)
      rw [Lib.decDigits, dif_neg hu, Lib.decDigits.eq_1 v, dif_neg hv]
      refine ⟨?_, ?_⟩
      · rw [less_app _ _ _ _ hlen, ih1]
        rw [show decide (UInt8.ofNat (48 + u % 10) < UInt8.ofNat (48 + v % 10)) = decide (u % 10 < v % 10) from decide_eq_decide.2 hd,
          show decide (Lib.decDigits (u / 10) = Lib.decDigits (v / 10)) = decide (u / 10 = v / 10) from decide_eq_decide.2 ih2, ← Bool.decide_and, ← Bool.decide_or]
        apply decide_eq_decide.2
        omega
      · constructor
        · intro he
          obtain ⟨e1, e2⟩ := List.append_inj he hlen
          injection e2 with e2 _
          rw [e2] at hd hd2
          have h1 : ¬ u % 10 < v % 10 := fun h => UInt8.lt_irrefl _ (hd.2 h)
          have h2 : ¬ v % 10 < u % 10 := fun h => UInt8.lt_irrefl _ (hd2.2 h)
          have := ih2.1 e1
          omega
        · intro he; rw [he]
theorem dec_inj {u v : Nat} (he : Lib.decDigits u = Lib.decDigits v) : u = v :=
  (dec_less u v (by rw [← Lib.decDigits_length, ← Lib.decDigits_length, he])).2.1 he
theorem dec_ne (u : Nat) (xs : List UInt8) : Lib.decDigits u ≠ 45 :: xs := by
  intro he
  have := dec_ge u 45 (by rw [he]; simp)
  simp at this
theorem itoa_inj {a b : Int} (he : Lib.itoa a = Lib.itoa b) : a = b := by
  unfold Lib.itoa at he
  split at he <;> split at he
  · injection he with _ he
    have := dec_inj he
    omega
  · exact absurd he.symm (dec_ne _ _)
  · exact absurd he (dec_ne _ _)
  · have := dec_inj he
    omega
theorem itoaB_inj {a b : Int} : itoaB a = itoaB b ↔ a = b := by
  constructor
  · intro he
    have := congrArg (fun x : ByteArray => x.data.toList) he
    exact itoa_inj (by simpa [itoaB] using this)
  · intro he; rw [he]
theorem itoaB_less {a b : Int} (ha : 0 ≤ a) (hb : 0 ≤ b) (hl : (itoaB a).size = (itoaB b).size) : blt (itoaB a) (itoaB b) = decide (a < b) := by
  have hl' : (Lib.itoa a).length = (Lib.itoa b).length := by
    have e : ∀ n, (itoaB n).size = (Lib.itoa n).length := fun n => by
      show (Lib.itoa n).toArray.size = _
      simp
    rw [e, e] at hl; exact hl
  show Op.bytesLess (Lib.itoa a).toArray.toList (Lib.itoa b).toArray.toList = _
  unfold Lib.itoa at hl' ⊢
  rw [if_neg (by omega), if_neg (by omega)] at hl' ⊢
  rw [Lib.decDigits_length, Lib.decDigits_length] at hl'
  show Op.bytesLess (Lib.decDigits _) (Lib.decDigits _) = _
  rw [(dec_less _ _ hl').1]
  apply decide_eq_decide.2
  omega
end Go.Proofs.YtikjnmpijflnaaaDoor

/- Numbers that fit, sums, spans: in plain Lean. -/
namespace Go.V
def lo64 : Int := -9223372036854775808
def fit64 (n : Int) : Prop := -9223372036854775808 ≤ n ∧ n ≤ 9223372036854775807
instance (n : Int) : Decidable (fit64 n) := inferInstanceAs (Decidable (_ ∧ _))
/-- a sum, if it fits -/
def sum2 (a b : Int) : Int × Bool := if fit64 (a + b) then (a + b, true) else (0, false)
def sub2 (a b : Int) : Int × Bool := if fit64 (a - b) then (a - b, true) else (0, false)
def sums : Int → List Int → Int × Bool
  | a, [] => (a, true)
  | a, b :: bs => if fit64 (a + b) then sums (a + b) bs else (0, false)
theorem sums_one (a b : Int) : sums a [b] = sum2 a b := rfl
/-- what Span answers -/
def spanF (start stop n : Int) : Int × Int :=
  if (if start < 0 then max (start + n) 0 else start) > min (if stop < 0 then stop + n else stop) (n - 1) then (0, 0) else ((if start < 0 then max (start + n) 0 else start), min (if stop < 0 then stop + n else stop) (n - 1) + 1)
end Go.V

/- Decimal forms read back, in plain Lean. -/
namespace Go.Proofs.YtikjnmpijflnaaaDoor
open Go.V
attribute [local irreducible] Blk Own hcell IntT SliceT PlainT AggT SizeT StrT FieldT ZeroT EqT ArrT
def valN (acc : Nat) (l : List UInt8) : Nat := l.foldl (fun a c => a * 10 + (c.toNat - 48)) acc
theorem valN_cons (acc : Nat) (c : UInt8) (l : List UInt8) : valN acc (c :: l) = valN (acc * 10 + (c.toNat - 48)) l := by unfold valN; rw [List.foldl_cons]
theorem valN_snoc (acc : Nat) (l : List UInt8) (c : UInt8) : valN acc (l ++ [c]) = valN acc l * 10 + (c.toNat - 48) := by unfold valN; rw [List.foldl_append, List.foldl_cons, List.foldl_nil]
theorem valN_ge : ∀ (l : List UInt8) (acc : Nat), acc ≤ valN acc l
  | [], acc => Nat.le_refl _
  | c :: l, acc => by rw [valN_cons]; have := valN_ge l (acc * 10 + (c.toNat - 48)); omega
theorem parseM_ok : ∀ (l : List UInt8) (acc : Nat), (∀ c ∈ l, 48 ≤ c.toNat ∧ c.toNat ≤ 57) → valN acc l ≤ 18446744073709551615 → Lib.parseUintM (2 ^ 64 - 1) acc l = .ok (valN acc l)
  | [], acc, _, _ => rfl
  | c :: l, acc, hd, hv => by
    have hc := hd c (by simp)
    have hg := valN_ge l (acc * 10 + (c.toNat - 48))
    rw [valN_cons] at hv ⊢
    rw [Lib.parseUintM, if_pos hc, if_neg (by omega), if_neg (by omega), parseM_ok l _ (fun d h => hd d (by simp [h])) hv]
theorem dec_le (u : Nat) : ∀ c ∈ Lib.decDigits u, c.toNat ≤ 57 := by
  induction u using Nat.strongRecOn with
  | _ u ih =>
    rw [Lib.decDigits]
    split
    · intro c hc
      simp only [List.mem_singleton] at hc
      rw [hc, UInt8.toNat_ofNat']
      omega
    · intro c hc
      rcases List.mem_append.1 hc with hc | hc
      · exact ih (u / 10) (by omega) c hc
      · simp only [List.mem_singleton] at hc
        rw [hc, UInt8.toNat_ofNat']
        omega
theorem val_dec (u : Nat) : valN 0 (Lib.decDigits u) = u := by
  induction u using Nat.strongRecOn with
  | _ u ih =>
    rw [Lib.decDigits]
    split
    · show 0 * 10 + ((UInt8.ofNat (48 + u)).toNat - 48) = u
      rw [UInt8.toNat_ofNat']
      omega
    · rw [valN_snoc, ih (u / 10) (by omega), UInt8.toNat_ofNat']
      omega
theorem dec_cons (u : Nat) : ∃ c l, Lib.decDigits u = c :: l ∧ 48 ≤ c.toNat := by
  cases h : Lib.decDigits u with
  | nil =>
    have := Lib.decDigits_length u
    rw [h] at this
    have h2 := Lib.nDigits_pos u
    simp at this; omega
  | cons c l => exact ⟨c, l, rfl, dec_ge u c (by rw [h]; simp)⟩
theorem uint_dec {u : Nat} (h : u ≤ 18446744073709551615) : Lib.parseUintB 64 (Lib.decDigits u) = .ok u := by
  obtain ⟨c, l, hc, _⟩ := dec_cons u
  unfold Lib.parseUintB
  rw [if_neg (by rw [hc]; simp), parseM_ok _ 0 (fun c hc => ⟨dec_ge u c hc, dec_le u c hc⟩) (by rw [val_dec]; exact h), val_dec]
theorem parse_itoa {n : Int} (h : fit64 n) : Lib.parseIntB 64 (Lib.itoa n) = .ok n := by
  unfold fit64 at h
  unfold Lib.itoa
  by_cases hn : n < 0
  · rw [if_pos hn]
    unfold Lib.parseIntB
    simp only
    rw [if_pos (.inr (by decide)), uint_dec (by omega)]
    simp only
    have h45 : (45 : UInt8).toNat = 45 := by decide
    rw [if_neg (by rw [h45]; simp), if_neg (by omega), if_pos h45]
    congr 1; omega
  · rw [if_neg hn]
    obtain ⟨c, l, hc, hc48⟩ := dec_cons n.toNat
    have hu := uint_dec (u := n.toNat) (by omega)
    rw [hc] at hu ⊢
    unfold Lib.parseIntB
    simp only
    rw [if_neg (by omega), hu]
    simp only
    rw [if_neg (by omega), if_neg (by omega), if_neg (by omega)]
    congr 1; omega
theorem parse_fit {l : List UInt8} {v : Int} (h : Lib.parseIntB 64 l = .ok v) : fit64 v := by
  unfold Lib.parseIntB at h
  cases l with
  | nil => cases h
  | cons c r =>
    simp only at h
    generalize Lib.parseUintB 64 _ = q at h
    rcases q with u | _ | _
    · simp only at h
      split at h
      · cases h
      · split at h
        · cases h
        · injection h with h
          unfold fit64
          split at h <;> omega
    · cases h
    · cases h
theorem nDigits_le : ∀ (k u : Nat), u < 10 ^ (k + 1) → Lib.nDigits u ≤ k + 1
  | 0, u, h => by rw [Lib.nDigits_small (by simpa using h)]; exact Nat.le_refl _
  | k + 1, u, h => by
    by_cases h10 : u < 10
    · rw [Lib.nDigits_small h10]; omega
    · rw [Lib.nDigits_big h10]
      have := nDigits_le k (u / 10) (by rw [Nat.pow_succ] at h; omega)
      omega
theorem itoa_size {n : Int} (h : fit64 n) : (itoaB n).size ≤ 20 := by
  unfold fit64 at h
  have e : (itoaB n).size = (Lib.itoa n).length := by
    show (Lib.itoa n).toArray.size = _
    simp
  rw [e]
  unfold Lib.itoa
  split
  · have := nDigits_le 18 n.natAbs (by omega)
    rw [List.length_cons, Lib.decDigits_length]; omega
  · have := nDigits_le 18 n.toNat (by omega)
    rw [Lib.decDigits_length]; omega
/-- the number of which s is the form -/
def IsNum (s : ByteArray) (n : Int) : Prop := fit64 n ∧ itoaB n = s
theorem itoaB_list (n : Int) : (itoaB n).data.toList = Lib.itoa n := by show (Lib.itoa n).toArray.toList = _; simp
end Go.Proofs.YtikjnmpijflnaaaDoor

/- Rows as raw cells: copy, the append of zeros, overlaps, room behind the length. -/
namespace Go.V
open Go.RowKit

theorem Own.toBlk {α : Type} {e : Enc α} {w : World} {B T : Nat} {p : Option Addr} {c : Nat} {xs : List α} (h : Own w B T e p c xs) (hne : p ≠ none) :
    ∃ gb cur, p = bx gb ∧ B ≤ gb ∧ Blk w.heap gb T cur ∧ cur.length = c * e.sz ∧ c ≤ maxLen ∧ xs.length ≤ c ∧ cur.take (xs.length * e.sz) = xs.flatMap e.enc := by
  rcases h.2 with ⟨hv, _⟩ | ⟨g, cap, cur, hv, hb, hg, hnc, hcm, hcs, ht⟩
  · injection hv with e1 _ _; exact absurd e1 hne
  · injection hv with e1 _ e3; subst e1 e3
    exact ⟨g, cur.toList, rfl, hb, by unfold Blk; rw [Array.toArray_toList]; exact hg, by simpa using hcs, hcm, hnc, ht⟩
theorem Own.ofBlk {α : Type} {e : Enc α} {w : World} {B T gb : Nat} {c : Nat} {xs : List α} {cur : List Value} (hb : B ≤ gb) (hB : Blk w.heap gb T cur) (hl : cur.length = c * e.sz) (hc : c ≤ maxLen) (hx : xs.length ≤ c) (ht : cur.take (xs.length * e.sz) = xs.flatMap e.enc) :
    Own w B T e (bx gb) c xs := by
  unfold Own
  refine ⟨by rw [flat_len], .inr ⟨gb, c, cur.toArray, rfl, hb, hB, hx, hc, by simpa using hl, by simpa using ht⟩⟩
theorem Own.some_of_pos {α : Type} {e : Enc α} {w : World} {B T : Nat} {p : Option Addr} {c : Nat} {xs : List α} (h : Own w B T e p c xs) (hn : 0 < xs.length) : p ≠ none := by
  rintro rfl
  have h1 := h.sl.ok.nul rfl
  have h2 := h.sl.ok.le
  omega
theorem subp_bx {gb c l sz : Nat} (h : l < c) : subp (bx gb) c l sz = some ⟨gb, l * sz, none⟩ := by
  unfold subp
  rw [if_neg (by omega)]
  simp [addr_add]

section
variable {P : Program} {n : Nat} {ops : Array Oper} {dr : Nat × List Nat} {dq : Nat} {l : List Oper} {E : Env} {w : World} {K : Env → World → Prop}
variable {d : Option Nat} {ty : TypeId} {pos : String} {af : Array Edge} {g : Option (Nat × Bool)} {x y z : Operand} {k k' : IntKind} {i j : Int} {t t' u sz by_ : Nat} {v v' : Value} {p q : Option Addr} {c len m : Nat} {b : Bool}

theorem G1_cap (hu : SliceT P t u sz by_) (hx : E.look x = some (.slice p len c)) (hd : dstOk n d = true) (h : G P n ops dr l (E.put d (.int .i64 c)) w K) : G1 P n ops dr ⟨d, .call ⟨.builtin .cap, #[x], #[t]⟩, ty, pos, af, g⟩ l E w K :=
  G1_quiet _ hd (fun a ha w' _ => by simp [execOp, resolve, invoke, builtin, Builtin.cap_, ha.eval hx, run_underlying (P := P) hu.1, goInt]) h

theorem G1_sliceLoJ {q : Nat} (hu : SliceT P t u sz by_) (hx : E.look x = some (.slice p len c)) (hy : E.look y = some (.int k j)) (hj : j = (q : Int)) (ho : Okp p len c) (hq : q ≤ len) (hd : dstOk n d = true)
    (h : G P n ops dr l (E.put d (.slice (subp p c q sz) (len - q) (c - q))) w K) : G1 P n ops dr ⟨d, .slice t x (some y) none none, ty, pos, af, g⟩ l E w K := by
  subst hj; exact G1_sliceLo hu hx hy ho hq hd h
theorem G1_sliceHiJ {q : Nat} (hu : SliceT P t u sz by_) (hx : E.look x = some (.slice p len c)) (hy : E.look y = some (.int k j)) (hj : j = (q : Int)) (hq : q ≤ c) (hd : dstOk n d = true)
    (h : G P n ops dr l (E.put d (.slice p q c)) w K) : G1 P n ops dr ⟨d, .slice t x none (some y) none, ty, pos, af, g⟩ l E w K := by
  subst hj; exact G1_sliceHi hu hx hy hq hd (by rw [subp_zero]; exact h)

theorem run_copyB {gb o dl dc sl sc T : Nat} {cur vs : List Value} (hu : SliceT P t u sz by_) (hb : Blk w.heap gb T cur) (hq : vs ≠ [] → ∃ b' o', q = some ⟨b', o', none⟩) (hn : vs.length = min sl dl * sz)
    (hsrc : ∀ j v, vs[j]? = some v → hcell w.heap (adr q j) = some v) (hfit : o + vs.length ≤ cur.length) (h1 : ∀ v ∈ vs, v.oneCell' = true) (hsz : 0 < sz) (ty : TypeId) :
    (Builtin.copy_ #[t, t'] ty #[.slice (some ⟨gb, o, none⟩) dl dc, .slice q sl sc]).run P w = .ok (goInt (min sl dl)) (w.setRow gb (cur.take o ++ vs ++ cur.drop (o + vs.length)).toArray) := by
  obtain ⟨hu1, inf, z, hi, rfl, rfl, hz, hz2⟩ := hu
  have hst := run_storeCells_at P gb o T vs 0 cur.toArray w hb (by simpa using hfit) h1
  simp only [Nat.add_zero] at hst
  have hmin : Nat.min sl dl = min sl dl := rfl
  by_cases hv : vs = []
  · subst hv
    have h0 : min sl dl = 0 := by
      have : min sl dl * inf.size = 0 := by simpa using hn.symm
      rcases Nat.mul_eq_zero.1 this with h | h
      · exact h
      · omega
    have hl : ∀ (x : Addr), (loadCells x 0).run P w = .ok #[] w := fun x => by simpa using run_loadCells_list (P := P) w x [] (by simp)
    cases q <;> (simp [Builtin.copy_, run_underlying hu1, Builtin.lenOf, Builtin.firstCells, sizeOf, typeInfo, hi, hmin, h0, hl, hst, goInt]; try omega)
  · obtain ⟨b', o', rfl⟩ := hq hv
    have hl := run_loadCells_list (P := P) w ⟨b', o', none⟩ vs (fun j v hj => by rw [addr_add]; exact hsrc j v hj)
    rw [hn] at hl
    simp [Builtin.copy_, run_underlying hu1, Builtin.lenOf, Builtin.firstCells, sizeOf, typeInfo, hi, hmin, hl, hst, goInt]
    try omega

/-- copy into a row of one's own -/
theorem G1_copyB {gb o dl dc sl sc T : Nat} {cur : List Value} {dp : Option Addr} (vs : List Value) (hu : SliceT P t u sz by_) (hx : E.look x = some (.slice dp dl dc)) (hy : E.look y = some (.slice q sl sc)) (hdp : dp = some ⟨gb, o, none⟩) (hb : Blk w.heap gb T cur) (hq : vs ≠ [] → ∃ b' o', q = some ⟨b', o', none⟩) (hn : vs.length = min sl dl * sz)
    (hsrc : ∀ j v, vs[j]? = some v → hcell w.heap (adr q j) = some v) (hfit : o + vs.length ≤ cur.length) (h1 : ∀ v ∈ vs, v.oneCell' = true) (hsz : 0 < sz)
    (he : effects P dr.1 ⟨d, .call ⟨.builtin .copy, #[x, y], #[t, t']⟩, ty, pos, af, g⟩ = true) (hw : writes dr.1 ⟨d, .call ⟨.builtin .copy, #[x, y], #[t, t']⟩, ty, pos, af, g⟩ = true) (hd : dstOk n d = true)
    (h : ∀ w', Blk w'.heap gb T (cur.take o ++ vs ++ cur.drop (o + vs.length)) → w.grownBy w' (some gb) → w'.heap.size = w.heap.size → G P n ops dr l (E.put d (.int .i64 (min sl dl : Nat))) w' K) : G1 P n ops dr ⟨d, .call ⟨.builtin .copy, #[x, y], #[t, t']⟩, ty, pos, af, g⟩ l E w K := by
  subst hdp
  exact G1_eff _ (w.setRow gb (cur.take o ++ vs ++ cur.drop (o + vs.length)).toArray) he hd (fun a ha => by simp [execOp, resolve, invoke, builtin, ha.eval hx, ha.eval hy, run_copyB (t' := t') hu hb hq hn hsrc hfit h1 hsz ty, goInt]; try omega) (.inl hw)
    (h _ (by unfold Blk; exact setRow_heap w gb _ _ T (0, 0) hb) (setRow_grown w gb _) (by simp))

/-- append(s[:i], make(S, k)...) that grows: a new row -/
theorem G1_appendZ {α : Type} {e : Enc α} {xs : List α} {kq kn : IntKind} {kk : Nat} (hu : SliceT P t u sz by_) (hi : P.underlying t' = some (.int kn)) (hx : E.look x = some (.slice p len c)) (hy : E.look y = some (.int kq j)) (hj : j = (kk : Int)) (hs : Sl w.heap e p c xs) (hlen : len = xs.length) (hm : m = xs.length + kk) (hsz : e.sz = sz) (hk : 0 < kk) (hg : c < xs.length + kk)
    (hb : (xs.length + kk) * by_ ≤ 140737488355328) (hmax : xs.length + kk ≤ 9223372036854775807)
    (he : effects P dr.1 ⟨d, .call ⟨.builtin .append, #[x, y], #[t, t']⟩, ty, pos, af, g⟩ = true) (hd : dstOk n d = true)
    (h : ∀ c' w' cur, Blk w'.heap w.heap.size u cur → cur.length = c' * sz → cur.take (xs.length * sz) = xs.flatMap e.enc → xs.length + kk ≤ c' → c' ≤ maxLen → Ext w w' → w'.heap.size = w.heap.size + 1 → G P n ops dr l (E.put d (.slice (bx w.heap.size) m c')) w' K) :
    G1 P n ops dr ⟨d, .call ⟨.builtin .append, #[x, y], #[t, t']⟩, ty, pos, af, g⟩ l E w K := by
  subst hsz hlen hm hj
  have hpos := e.pos
  obtain ⟨hu1, inf, z, hinf, hs1, hb1, hz, hz2⟩ := hu
  have hold : (Builtin.firstCells inf.size xs.length (.slice p xs.length c)).run P w.drew = .ok (xs.flatMap e.enc).toArray w.drew := by
    cases p with
    | none =>
      have h1 := hs.ok.nul rfl
      have h2 := hs.ok.le
      obtain rfl : xs = [] := List.eq_nil_of_length_eq_zero (by omega)
      simp [Builtin.firstCells]
    | some a =>
      by_cases hne : xs = []
      · subst hne
        have := run_firstCells_some (P := P) w.drew inf.size 0 a 0 c [] (by simp) (by simp)
        simpa using this
      · have hl0 : 0 < xs.length := List.length_pos_iff.2 hne
        have hspot := hs.ok.spot a rfl (by have := hs.ok.le; omega)
        exact run_firstCells_some (P := P) w.drew inf.size xs.length a xs.length c (xs.flatMap e.enc) (by rw [hs1, flat_len]) (fun j v hv => by
          have hc := hs.flat j v hv
          obtain ⟨bb, oo, ss⟩ := a
          simp only at hspot
          subst hspot
          rw [addr_add]; exact hc)
  have hbk : kk * by_ ≤ (xs.length + kk) * by_ := Nat.mul_le_mul_right _ (by omega)
  have hr := Go.Lib.run_append_grow_zeros (P := P) w t t' ty u inf z kq kn hu1 hi hinf hz p xs.length c (xs.flatMap e.enc) hold kk hk (by omega) hg (by omega) (by rw [hb1]; omega) (by rw [hb1]; exact growslice_fits hg hb)
  have hge := grownCap_ge w (xs.length + kk) c u
  have hcm : grownCap w (xs.length + kk) c u ≤ maxLen := grownCap_le_maxLen w _ c u (by simp only [maxLen]; omega)
  generalize hcur : (xs.flatMap e.enc).toArray ++ Builtin.zeroCells z.cells kk ++ Builtin.zeroCells z.cells (grownCap w (xs.length + kk) c u - (xs.length + kk)) = cur at hr
  refine G1_eff (.slice (some ⟨w.heap.size, 0, none⟩) (xs.length + kk) (grownCap w (xs.length + kk) c u)) (w.drew.alloc (.cells cur u)) he hd (fun a ha => by simp [execOp, resolve, invoke, builtin, ha.eval hx, ha.eval hy, hr]) (.inr ?_) (h _ _ cur.toList ?_ ?_ ?_ hge hcm ?_ (by simp))
  · exact (Ext.alloc (Ext.drew Ext.rfl') _).toS
  · unfold Blk; rw [Array.toArray_toList]; exact heap_alloc_new w.drew _
  · rw [← hcur]
    simp only [Array.length_toList, Array.size_append, List.size_toArray, size_zeroCells, hz2, flat_len]
    rw [← Nat.add_mul, ← Nat.add_mul]
    congr 1
    omega
  · rw [← hcur]
    simp only [Array.toList_append]
    rw [List.append_assoc, List.take_left' (by rw [flat_len])]
  · exact Ext.alloc (Ext.drew Ext.rfl') _

/-- slices.overlaps at two rows in two blocks -/
theorem G1_overlaps {f : FuncId} {fn : Func} {tS tR T T' ab bb : Nat} {ca cb : List Value} {ao bo la lb cpa cpb : Nat} {tys : Array TypeId} (hf : P.funcs[f]? = some fn) (hname : (fn.name == "runtime.NumGoroutine") = false) (hb : fn.body.isNone = true) (hn : Extern.findNext fn = none) (hfi : Extern.find fn = some (Extern.SlicesOverlaps.overlaps #[tS, tS] #[tR]))
    (hu : SliceT P tS u sz by_) (hx : E.look x = some (.slice p la cpa)) (hy : E.look y = some (.slice q lb cpb)) (hp : p = some ⟨ab, ao, none⟩) (hq : q = some ⟨bb, bo, none⟩) (hA : Blk w.heap ab T ca) (hB : Blk w.heap bb T' cb) (hne : ab ≠ bb) (hcb : cb ≠ [])
    (he : effects P dr.1 ⟨d, .call ⟨.value (.func f), #[x, y], tys⟩, ty, pos, af, g⟩ = true) (hd : dstOk n d = true)
    (h : G P n ops dr l (E.put d (.bool false)) w K) : G1 P n ops dr ⟨d, .call ⟨.value (.func f), #[x, y], tys⟩, ty, pos, af, g⟩ l E w K := by
  subst hp hq
  have hr : (callFunc f #[.slice (some ⟨ab, ao, none⟩) la cpa, .slice (some ⟨bb, bo, none⟩) lb cpb]).run P w = .ok (.value (.bool false)) w := by
    unfold Blk at hA hB
    rw [run_callFunc_extern hf hname hb hn hfi, Go.Lib.run_overlaps_apart w tS tR u hu.1 sz (run_sizeOf_T hu) ⟨ab, ao, none⟩ ⟨bb, bo, none⟩ la cpa lb cpb hne T T' ca.length cb.length (by simp [World.shape?, hA]) (by simp [World.shape?, hB]) (by simp [hcb]) (by simp [World.frozen?, hA]) (by simp [World.frozen?, hA])]
    rfl
  exact G1_eff _ w he hd (fun a ha => by
    have e0 : a.eval (.func f) = .func (.func f) #[] #[] := rfl
    simp [execOp, resolve, Deferred.ofValue, e0, invoke, ha.eval hx, ha.eval hy, hr]) (.inr ExtS.rfl') h

end
end Go.V

/- Rules for the bits of unsigned words. -/
namespace Go.V
open Go.RowKit
theorem ofInt_nat {b n : Nat} (h : n < 2 ^ b) : (BitVec.ofInt b (n : Int)).toNat = n := by
  rw [BitVec.toNat_ofInt]
  have : ((n : Int) % ((2 ^ b : Nat) : Int)) = (n : Int) := Int.emod_eq_of_lt (by omega) (by exact_mod_cast h)
  rw [this]; simp
theorem wrap_u64n {n : Nat} (h : n < 2 ^ 64) : IntKind.u64.wrap (n : Int) = n := wrap_u64 (by omega) (by have : n < 18446744073709551616 := h; omega)
theorem wrap_u8n {n : Nat} (h : n < 2 ^ 8) : IntKind.u8.wrap (n : Int) = n := wrap_u8 (by omega) (by have : n < 256 := h; omega)
section
variable {P : Program} {n : Nat} {ops : Array Oper} {dr : Nat × List Nat} {l : List Oper} {E : Env} {w : World} {K : Env → World → Prop}
variable {d : Option Nat} {ty : TypeId} {pos : String} {af : Array Edge} {g : Option (Nat × Bool)} {x y : Operand} {k k' : IntKind} {t t' : TypeId} {a b : Nat} {i j : Int}
theorem G1_orU (hx : E.look x = some (.int .u64 i)) (hy : E.look y = some (.int .u64 j)) (hi : i = (a : Int)) (hj : j = (b : Int)) (ha : a < 2 ^ 64) (hb : b < 2 ^ 64) (hd : dstOk n d = true)
    (h : G P n ops dr l (E.put d (.int .u64 ((a ||| b : Nat) : Int))) w K) : G1 P n ops dr ⟨d, .binOp .or t x y t', ty, pos, af, g⟩ l E w K := by
  subst hi hj
  exact G1_quiet _ hd (fun ac hac w' _ => by
    have e : Op.intBits .or .u64 (a : Int) (b : Int) = pure (.int .u64 ((a ||| b : Nat) : Int)) := by
      show (pure (Value.int .u64 (IntKind.u64.wrap ((BitVec.ofInt 64 (a : Int) ||| BitVec.ofInt 64 (b : Int)).toNat : Int))) : Sem Value) = _
      rw [BitVec.toNat_or, ofInt_nat ha, ofInt_nat hb, wrap_u64n (Nat.or_lt_two_pow ha hb)]
    simp [execOp, hac.eval hx, hac.eval hy, eqGuard, binOp, e]) h
theorem G1_andU (hx : E.look x = some (.int .u64 i)) (hy : E.look y = some (.int .u64 j)) (hi : i = (a : Int)) (hj : j = (b : Int)) (ha : a < 2 ^ 64) (hb : b < 2 ^ 64) (hd : dstOk n d = true)
    (h : G P n ops dr l (E.put d (.int .u64 ((a &&& b : Nat) : Int))) w K) : G1 P n ops dr ⟨d, .binOp .and t x y t', ty, pos, af, g⟩ l E w K := by
  subst hi hj
  exact G1_quiet _ hd (fun ac hac w' _ => by
    have e : Op.intBits .and .u64 (a : Int) (b : Int) = pure (.int .u64 ((a &&& b : Nat) : Int)) := by
      show (pure (Value.int .u64 (IntKind.u64.wrap ((BitVec.ofInt 64 (a : Int) &&& BitVec.ofInt 64 (b : Int)).toNat : Int))) : Sem Value) = _
      rw [BitVec.toNat_and, ofInt_nat ha, ofInt_nat hb, wrap_u64n (Nat.and_lt_two_pow _ hb)]
    simp [execOp, hac.eval hx, hac.eval hy, eqGuard, binOp, e]) h
theorem G1_notU (hx : E.look x = some (.int .u64 i)) (hi : i = (a : Int)) (ha : a < 2 ^ 64) (hd : dstOk n d = true)
    (h : G P n ops dr l (E.put d (.int .u64 (((2 ^ 64 - 1) ^^^ a : Nat) : Int))) w K) : G1 P n ops dr ⟨d, .unOp .xor t x, ty, pos, af, g⟩ l E w K := by
  subst hi
  exact G1_quiet _ hd (fun ac hac w' _ => by
    have e : Op.unary .xor (.int .u64 (a : Int)) = pure (.int .u64 (((2 ^ 64 - 1) ^^^ a : Nat) : Int)) := by
      show (pure (Value.int .u64 (IntKind.u64.wrap ((BitVec.ofInt 64 (18446744073709551615 : Int) ^^^ BitVec.ofInt 64 (a : Int)).toNat : Int))) : Sem Value) = _
      have e1 : (BitVec.ofInt 64 (18446744073709551615 : Int)).toNat = 2 ^ 64 - 1 := by decide
      rw [BitVec.toNat_xor, e1, ofInt_nat ha, wrap_u64n (Nat.xor_lt_two_pow (by decide) ha)]
    simp [execOp, hac.eval hx, e]) h
theorem G1_shlU {c : Nat} (hx : E.look x = some (.int .u64 1)) (hy : E.look y = some (.int k' j)) (hj : j = (c : Int)) (hc : c < 64) (hd : dstOk n d = true)
    (h : G P n ops dr l (E.put d (.int .u64 ((2 ^ c : Nat) : Int))) w K) : G1 P n ops dr ⟨d, .binOp .shl t x y t', ty, pos, af, g⟩ l E w K := by
  subst hj
  refine G1_shl hx hy (by omega) hd ?_
  have e : IntKind.u64.wrap ((1 : Int) * 2 ^ min (c : Int).toNat IntKind.u64.bits) = ((2 ^ c : Nat) : Int) := by
    have e1 : min (c : Int).toNat IntKind.u64.bits = c := by
      have : IntKind.u64.bits = 64 := rfl
      rw [this]; simp; omega
    rw [e1, Int.one_mul]
    have e2 : (2 : Int) ^ c = ((2 ^ c : Nat) : Int) := by push_cast; rfl
    rw [e2, wrap_u64n (Nat.pow_lt_pow_right (by decide) hc)]
  rw [e]; exact h
theorem G1_shrU {c : Nat} (hx : E.look x = some (.int .u64 i)) (hy : E.look y = some (.int k' j)) (hi : i = (a : Int)) (hj : j = (c : Int)) (hc : c < 64) (hd : dstOk n d = true)
    (h : G P n ops dr l (E.put d (.int .u64 ((a >>> c : Nat) : Int))) w K) : G1 P n ops dr ⟨d, .binOp .shr t x y t', ty, pos, af, g⟩ l E w K := by
  subst hi hj
  refine G1_shr hx hy (by omega) hd ?_
  have e : (a : Int).fdiv (2 ^ min (c : Int).toNat IntKind.u64.bits) = ((a >>> c : Nat) : Int) := by
    have e1 : min (c : Int).toNat IntKind.u64.bits = c := by
      have : IntKind.u64.bits = 64 := rfl
      rw [this]; simp; omega
    rw [e1, Int.fdiv_eq_ediv_of_nonneg _ (by exact_mod_cast Nat.zero_le _), Nat.shiftRight_eq_div_pow]
    push_cast
    rfl
  rw [e]; exact h
theorem G1_sindexJ {q : Nat} {s : ByteArray} (hu : StrT P t) (hx : E.look x = some (.string s)) (hy : E.look y = some (.int k j)) (hj : j = (q : Int)) (hq : q < s.size) (hd : dstOk n d = true)
    (h : G P n ops dr l (E.put d (.int .u8 ((bget s q).toNat : Int))) w K) : G1 P n ops dr ⟨d, .index t x y, ty, pos, af, g⟩ l E w K := by
  subst hj
  refine G1_sindex hu hx hy (by omega) (by omega) hd ?_
  rw [Int.toNat_natCast]; exact h
theorem G1_addU8 {c : Nat} (hx : E.look x = some (.int .u8 i)) (hy : E.look y = some (.int .u8 j)) (hc : i + j = (c : Int)) (hb : c < 256) (hd : dstOk n d = true)
    (h : G P n ops dr l (E.put d (.int .u8 (c : Int))) w K) : G1 P n ops dr ⟨d, .binOp .add t x y t', ty, pos, af, g⟩ l E w K :=
  G1_addw hx hy hd (by rw [hc, wrap_u8n hb]; exact h)
theorem G1_subU8 {c : Nat} (hx : E.look x = some (.int .u8 i)) (hy : E.look y = some (.int .u8 j)) (hc : i - j = (c : Int)) (hb : c < 256) (hd : dstOk n d = true)
    (h : G P n ops dr l (E.put d (.int .u8 (c : Int))) w K) : G1 P n ops dr ⟨d, .binOp .sub t x y t', ty, pos, af, g⟩ l E w K :=
  G1_subw hx hy hd (by rw [hc, wrap_u8n hb]; exact h)
theorem G1_quoU {c : Nat} (hx : E.look x = some (.int .u8 i)) (hy : E.look y = some (.int .u8 j)) (hi : i = (a : Int)) (hj : j = (c : Int)) (ha : a < 256) (hc : 0 < c) (hd : dstOk n d = true)
    (h : G P n ops dr l (E.put d (.int .u8 ((a / c : Nat) : Int))) w K) : G1 P n ops dr ⟨d, .binOp .quo t x y t', ty, pos, af, g⟩ l E w K := by
  subst hi hj
  refine G1_quo hx hy (by omega) hd ?_
  have e : IntKind.u8.wrap ((a : Int).tdiv (c : Int)) = ((a / c : Nat) : Int) := by
    rw [Int.tdiv_eq_ediv_of_nonneg (by omega)]
    have : ((a : Int) / (c : Int)) = ((a / c : Nat) : Int) := by push_cast; rfl
    rw [this, wrap_u8n (Nat.lt_of_le_of_lt (Nat.div_le_self _ _) ha)]
  rw [e]; exact h
theorem G1_quoU' {c q : Nat} (hx : E.look x = some (.int .u8 i)) (hy : E.look y = some (.int .u8 j)) (hi : i = (a : Int)) (hj : j = (c : Int)) (ha : a < 256) (hc : 0 < c) (hq : a / c = q) (hd : dstOk n d = true)
    (h : G P n ops dr l (E.put d (.int .u8 (q : Int))) w K) : G1 P n ops dr ⟨d, .binOp .quo t x y t', ty, pos, af, g⟩ l E w K := by
  subst hq; exact G1_quoU hx hy hi hj ha hc hd h
theorem G1_remU {c : Nat} (hx : E.look x = some (.int .u8 i)) (hy : E.look y = some (.int .u8 j)) (hi : i = (a : Int)) (hj : j = (c : Int)) (hc : 0 < c) (hd : dstOk n d = true)
    (h : G P n ops dr l (E.put d (.int .u8 ((a % c : Nat) : Int))) w K) : G1 P n ops dr ⟨d, .binOp .rem t x y t', ty, pos, af, g⟩ l E w K := by
  subst hi hj
  refine G1_rem hx hy (by omega) hd ?_
  have e : ((a : Int).tmod (c : Int)) = ((a % c : Nat) : Int) := by
    rw [Int.tmod_eq_emod_of_nonneg (by omega)]; push_cast; rfl
  rw [e]; exact h
end
end Go.V

/- Rules for bytes: a string copied into a row of bytes; bits of bytes. -/
namespace Go.V
open Go.RowKit
/-- xs with bs in the place of as many from o on -/
def over (xs : List UInt8) (o : Nat) (bs : List UInt8) : List UInt8 := xs.take o ++ bs ++ xs.drop (o + bs.length)
theorem over_length {xs bs : List UInt8} {o : Nat} (h : o + bs.length ≤ xs.length) : (over xs o bs).length = xs.length := by
  unfold over; simp only [List.length_append, List.length_take, List.length_drop]; omega
section
variable {P : Program} {n : Nat} {ops : Array Oper} {dr : Nat × List Nat} {l : List Oper} {E : Env} {w : World} {K : Env → World → Prop}
variable {d : Option Nat} {ty : TypeId} {pos : String} {af : Array Edge} {g : Option (Nat × Bool)} {x y : Operand} {k k' : IntKind} {t t' u : TypeId} {a b by_ : Nat} {i j : Int} {p : Option Addr} {c : Nat}
theorem run_copyS {gb o dl dc : Nat} {T : Nat} {cur : List Value} (hu : SliceT P t u 1 by_) (hb : Blk w.heap gb T cur) (s : ByteArray) (hdl : s.size ≤ dl) (hfit : o + s.size ≤ cur.length) (ty : TypeId) :
    (Builtin.copy_ #[t, t'] ty #[.slice (some ⟨gb, o, none⟩) dl dc, .string s]).run P w = .ok (goInt s.size) (w.setRow gb (cur.take o ++ byteCells s ++ cur.drop (o + s.size)).toArray) := by
  obtain ⟨hu1, inf, z, hi, hs1, hb1, hz, hz2⟩ := hu
  have hst := run_storeCells_at P gb o T (byteCells s) 0 cur.toArray w hb (by rw [byteCells_length]; simpa using hfit) (fun u hu => by rw [byteCells_flat] at hu; exact flat_one eByte _ u hu)
  simp only [Nat.add_zero, byteCells_length] at hst
  have hmin : Nat.min s.size dl = s.size := by show min s.size dl = _; omega
  simp [Builtin.copy_, run_underlying hu1, Builtin.lenOf, sizeOf, typeInfo, hi, hs1, hmin, firstCells_string, hst]
/-- copy(xs[o:], s), where it has room -/
theorem G1_copyS {B o dl dc : Nat} {xs : List UInt8} {s : ByteArray} {q : Option Addr} (hu : SliceT P t u 1 by_) (hx : E.look x = some (.slice q dl dc)) (hy : E.look y = some (.string s)) (hown : Own w B u eByte p c xs) (hq : q = subp p c o 1) (ho : o < c) (hne : 0 < xs.length) (hdl : s.size ≤ dl) (hfit : o + s.size ≤ xs.length) (hB : B ≤ w.heap.size)
    (he : effects P dr.1 ⟨d, .call ⟨.builtin .copy, #[x, y], #[t, t']⟩, ty, pos, af, g⟩ = true) (hw : writes dr.1 ⟨d, .call ⟨.builtin .copy, #[x, y], #[t, t']⟩, ty, pos, af, g⟩ = true) (hd : dstOk n d = true)
    (h : ∀ w', App w w' B u eByte p p c (over xs o s.data.toList) → w'.heap.size = w.heap.size → G P n ops dr l (E.put d (.int .i64 (s.size : Nat))) w' K) : G1 P n ops dr ⟨d, .call ⟨.builtin .copy, #[x, y], #[t, t']⟩, ty, pos, af, g⟩ l E w K := by
  obtain ⟨gb, cur, rfl, hbg, hblk, hcl, hcm, hnc, htake⟩ := hown.toBlk (hown.some_of_pos hne)
  rw [subp_bx ho, Nat.mul_one] at hq
  subst hq
  have hsz : eByte.sz = 1 := rfl
  rw [hsz, Nat.mul_one] at hcl htake
  have hcur : o + s.size ≤ cur.length := by omega
  have hr := run_copyS (t' := t') (dl := dl) (dc := dc) (o := o) hu hblk s hdl hcur ty
  refine G1_eff _ (w.setRow gb (cur.take o ++ byteCells s ++ cur.drop (o + s.size)).toArray) he hd (fun a ha => by simp [execOp, resolve, invoke, builtin, ha.eval hx, ha.eval hy, hr, goInt]; try rfl) (.inl hw) (h _ ?_ (by simp))
  have hsl : s.data.toList.length = s.size := by rw [Array.length_toList]; rfl
  have hov : (over xs o s.data.toList).length = xs.length := over_length (by rw [hsl]; exact hfit)
  refine ⟨Own.ofBlk (cur := cur.take o ++ byteCells s ++ cur.drop (o + s.size)) hbg (by unfold Blk; exact setRow_heap w gb _ _ u (0, 0) hblk) ?_ hcm (by rw [hov]; exact hnc) ?_, setRow_grown w gb _, by unfold NewP; exact .inl rfl, by simpa using hB⟩
  · rw [hsz]
    simp only [List.length_append, List.length_take, List.length_drop, byteCells_length]
    omega
  · rw [hov, hsz, Nat.mul_one]
    unfold over
    rw [List.flatMap_append, List.flatMap_append, ← byteCells_flat, hsl]
    have hfl : ∀ l : List UInt8, (l.flatMap eByte.enc).length = l.length := fun l => by rw [flat_len, hsz, Nat.mul_one]
    have hsplit : ∀ m, (xs.flatMap eByte.enc) = (xs.take m).flatMap eByte.enc ++ (xs.drop m).flatMap eByte.enc := fun m => by rw [← List.flatMap_append, List.take_append_drop]
    have e1 : (xs.take o).flatMap eByte.enc = cur.take o := by
      have : (cur.take xs.length).take o = (xs.flatMap eByte.enc).take o := by rw [htake]
      rw [List.take_take, Nat.min_eq_left (by omega), hsplit o, List.take_left' (by rw [hfl, List.length_take]; omega)] at this
      exact this.symm
    have e2 : (xs.drop (o + s.size)).flatMap eByte.enc = (cur.drop (o + s.size)).take (xs.length - (o + s.size)) := by
      have : (cur.take xs.length).drop (o + s.size) = (xs.flatMap eByte.enc).drop (o + s.size) := by rw [htake]
      rw [List.drop_take, hsplit (o + s.size), List.drop_left' (by rw [hfl, List.length_take]; omega)] at this
      exact this.symm
    rw [e1, e2, List.take_append, List.take_of_length_le (by simp only [List.length_append, List.length_take, byteCells_length]; omega)]
    congr 2
    simp only [List.length_append, List.length_take, byteCells_length]
    omega
theorem G1_orU8 {r : Nat} (hx : E.look x = some (.int .u8 i)) (hy : E.look y = some (.int .u8 j)) (hi : i = (a : Int)) (hj : j = (b : Int)) (ha : a < 2 ^ 8) (hb : b < 2 ^ 8) (hr : a ||| b = r) (hd : dstOk n d = true)
    (h : G P n ops dr l (E.put d (.int .u8 (r : Int))) w K) : G1 P n ops dr ⟨d, .binOp .or t x y t', ty, pos, af, g⟩ l E w K := by
  subst hi hj hr
  exact G1_quiet _ hd (fun ac hac w' _ => by
    have e : Op.intBits .or .u8 (a : Int) (b : Int) = pure (.int .u8 ((a ||| b : Nat) : Int)) := by
      show (pure (Value.int .u8 (IntKind.u8.wrap ((BitVec.ofInt 8 (a : Int) ||| BitVec.ofInt 8 (b : Int)).toNat : Int))) : Sem Value) = _
      rw [BitVec.toNat_or, ofInt_nat ha, ofInt_nat hb, wrap_u8n (Nat.or_lt_two_pow ha hb)]
    simp [execOp, hac.eval hx, hac.eval hy, eqGuard, binOp, e]) h
theorem G1_andU8 {r : Nat} (hx : E.look x = some (.int .u8 i)) (hy : E.look y = some (.int .u8 j)) (hi : i = (a : Int)) (hj : j = (b : Int)) (ha : a < 2 ^ 8) (hb : b < 2 ^ 8) (hr : a &&& b = r) (hd : dstOk n d = true)
    (h : G P n ops dr l (E.put d (.int .u8 (r : Int))) w K) : G1 P n ops dr ⟨d, .binOp .and t x y t', ty, pos, af, g⟩ l E w K := by
  subst hi hj hr
  exact G1_quiet _ hd (fun ac hac w' _ => by
    have e : Op.intBits .and .u8 (a : Int) (b : Int) = pure (.int .u8 ((a &&& b : Nat) : Int)) := by
      show (pure (Value.int .u8 (IntKind.u8.wrap ((BitVec.ofInt 8 (a : Int) &&& BitVec.ofInt 8 (b : Int)).toNat : Int))) : Sem Value) = _
      rw [BitVec.toNat_and, ofInt_nat ha, ofInt_nat hb, wrap_u8n (Nat.and_lt_two_pow _ hb)]
    simp [execOp, hac.eval hx, hac.eval hy, eqGuard, binOp, e]) h
theorem G1_andNotU8 {r : Nat} (hx : E.look x = some (.int .u8 i)) (hy : E.look y = some (.int .u8 j)) (hr : IntKind.u8.wrap ((BitVec.ofInt 8 i &&& ~~~ BitVec.ofInt 8 j).toNat : Int) = (r : Int)) (hd : dstOk n d = true)
    (h : G P n ops dr l (E.put d (.int .u8 (r : Int))) w K) : G1 P n ops dr ⟨d, .binOp .andNot t x y t', ty, pos, af, g⟩ l E w K := by
  exact G1_quiet _ hd (fun ac hac w' _ => by
    have e : Op.intBits .andNot .u8 i j = pure (.int .u8 (r : Int)) := by
      show (pure (Value.int .u8 (IntKind.u8.wrap ((BitVec.ofInt 8 i &&& ~~~ BitVec.ofInt 8 j).toNat : Int))) : Sem Value) = _
      rw [hr]
    simp [execOp, hac.eval hx, hac.eval hy, eqGuard, binOp, e]) h
theorem G1_shlU8 {c : Nat} (hx : E.look x = some (.int .u8 1)) (hy : E.look y = some (.int k' j)) (hj : j = (c : Int)) (hc : c < 8) (hd : dstOk n d = true)
    (h : G P n ops dr l (E.put d (.int .u8 ((2 ^ c : Nat) : Int))) w K) : G1 P n ops dr ⟨d, .binOp .shl t x y t', ty, pos, af, g⟩ l E w K := by
  subst hj
  refine G1_shl hx hy (by omega) hd ?_
  have e : IntKind.u8.wrap ((1 : Int) * 2 ^ min (c : Int).toNat IntKind.u8.bits) = ((2 ^ c : Nat) : Int) := by
    have e1 : min (c : Int).toNat IntKind.u8.bits = c := by
      have : IntKind.u8.bits = 8 := rfl
      rw [this]; simp; omega
    rw [e1, Int.one_mul]
    have e2 : (2 : Int) ^ c = ((2 ^ c : Nat) : Int) := by push_cast; rfl
    rw [e2, wrap_u8n (Nat.pow_lt_pow_right (by decide) hc)]
  rw [e]; exact h
end
end Go.V

/- Rules for pieces of strings, bits. -/
namespace Go.V
open Go.RowKit
section
variable {P : Program} {n : Nat} {ops : Array Oper} {dr : Nat × List Nat} {dq : Nat} {l : List Oper} {E : Env} {w : World} {K : Env → World → Prop}
variable {d : Option Nat} {ty : TypeId} {pos : String} {af : Array Edge} {g : Option (Nat × Bool)} {x y z : Operand} {k k' : IntKind} {i j : Int} {t : Nat} {s : ByteArray}
theorem G1_ssliceHi (hu : StrT P t) (hx : E.look x = some (.string s)) (hy : E.look y = some (.int k i)) (h0 : 0 ≤ i) (h1 : i ≤ s.size) (hd : dstOk n d = true)
    (h : G P n ops dr l (E.put d (.string (s.extract 0 i.toNat))) w K) : G1 P n ops dr ⟨d, .slice t x none (some y) none, ty, pos, af, g⟩ l E w K :=
  G1_quiet _ hd (fun a ha w' _ => by
    simp [execOp, Instr.sliceAt, Instr.slice, Instr.sliceBounds, Instr.sliceBound, asIntOf, ha.eval hx, ha.eval hy, run_underlying (P := P) hu, h0, h1]) h
theorem G1_ssliceLo (hu : StrT P t) (hx : E.look x = some (.string s)) (hy : E.look y = some (.int k i)) (h0 : 0 ≤ i) (h1 : i ≤ s.size) (hd : dstOk n d = true)
    (h : G P n ops dr l (E.put d (.string (s.extract i.toNat s.size))) w K) : G1 P n ops dr ⟨d, .slice t x (some y) none none, ty, pos, af, g⟩ l E w K :=
  G1_quiet _ hd (fun a ha w' _ => by
    simp [execOp, Instr.sliceAt, Instr.slice, Instr.sliceBounds, Instr.sliceBound, asIntOf, ha.eval hx, ha.eval hy, run_underlying (P := P) hu, h0, h1]) h
theorem G1_ssliceBoth (hu : StrT P t) (hx : E.look x = some (.string s)) (hy : E.look y = some (.int k i)) (hz : E.look z = some (.int k' j)) (h0 : 0 ≤ i) (h1 : i ≤ j) (h2 : j ≤ s.size) (hd : dstOk n d = true)
    (h : G P n ops dr l (E.put d (.string (s.extract i.toNat j.toNat))) w K) : G1 P n ops dr ⟨d, .slice t x (some y) (some z) none, ty, pos, af, g⟩ l E w K :=
  G1_quiet _ hd (fun a ha w' _ => by
    have hj : 0 ≤ j := by omega
    simp [execOp, Instr.sliceAt, Instr.slice, Instr.sliceBounds, Instr.sliceBound, asIntOf, ha.eval hx, ha.eval hy, ha.eval hz, run_underlying (P := P) hu, h0, hj, h2]
    intro hh; omega) h
end
theorem mkStr_size (l : List UInt8) : (mkStr l).size = l.length := by simp [mkStr, ByteArray.size]
theorem mkStr_take (l : List UInt8) (k : Nat) : (mkStr l).extract 0 k = mkStr (l.take k) := by
  unfold mkStr; rw [ByteArray.extract_mk]; simp
theorem mkStr_inj {a b : List UInt8} : mkStr a = mkStr b ↔ a = b := by
  constructor
  · intro h
    have : (mkStr a).data.toList = (mkStr b).data.toList := by rw [h]
    simpa [mkStr] using this
  · rintro rfl; rfl
end Go.V

/- Rules for numbers that are divided, bytes made strings, rows made. -/
namespace Go.V
section
variable {P : Program} {n : Nat} {ops : Array Oper} {dr : Nat × List Nat} {l : List Oper} {E : Env} {w : World} {K : Env → World → Prop}
variable {d : Option Nat} {ty : TypeId} {pos : String} {af : Array Edge} {g : Option (Nat × Bool)} {x y : Operand} {k k' : IntKind} {t t' u : TypeId} {a b by_ : Nat} {i j : Int} {p : Option Addr} {c : Nat}
theorem G1_quoI {c : Nat} (hx : E.look x = some (.int .i64 i)) (hy : E.look y = some (.int .i64 j)) (hi : i = (a : Int)) (hj : j = (c : Int)) (ha : a ≤ 9223372036854775807) (hc : 0 < c) (hd : dstOk n d = true)
    (h : G P n ops dr l (E.put d (.int .i64 ((a / c : Nat) : Int))) w K) : G1 P n ops dr ⟨d, .binOp .quo t x y t', ty, pos, af, g⟩ l E w K := by
  subst hi hj
  refine G1_quo hx hy (by omega) hd ?_
  have e : IntKind.i64.wrap ((a : Int).tdiv (c : Int)) = ((a / c : Nat) : Int) := by
    rw [Int.tdiv_eq_ediv_of_nonneg (by omega)]
    have : ((a : Int) / (c : Int)) = ((a / c : Nat) : Int) := by push_cast; rfl
    have h2 : a / c ≤ a := Nat.div_le_self _ _
    rw [this]
    generalize a / c = q at h2 ⊢
    rw [wrap_i64 (by omega) (by omega)]
  rw [e]; exact h
theorem G1_remI {c : Nat} (hx : E.look x = some (.int .i64 i)) (hy : E.look y = some (.int .i64 j)) (hi : i = (a : Int)) (hj : j = (c : Int)) (hc : 0 < c) (hd : dstOk n d = true)
    (h : G P n ops dr l (E.put d (.int .i64 ((a % c : Nat) : Int))) w K) : G1 P n ops dr ⟨d, .binOp .rem t x y t', ty, pos, af, g⟩ l E w K := by
  subst hi hj
  refine G1_rem hx hy (by omega) hd ?_
  have e : ((a : Int).tmod (c : Int)) = ((a % c : Nat) : Int) := by
    rw [Int.tmod_eq_emod_of_nonneg (by omega)]; push_cast; rfl
  rw [e]; exact h
/-- the rest, told by what is known of it -/
theorem G1_remE {r : Int} (hx : E.look x = some (.int k i)) (hy : E.look y = some (.int k j)) (h0 : j ≠ 0) (hr : i.tmod j = r) (hd : dstOk n d = true)
    (h : G P n ops dr l (E.put d (.int k r)) w K) : G1 P n ops dr ⟨d, .binOp .rem t x y t', ty, pos, af, g⟩ l E w K := by
  subst hr; exact G1_rem hx hy h0 hd h
theorem G1_toStringL {bs : List UInt8} {dq : Nat} {m : Nat} (hu : SliceT P t u 1 by_) (hi : IntT P u .u8) (hk : StrT P t') (hx : E.look x = some (.slice p m c)) (hm : m = bs.length) (hs : Sl w.heap eByte p c bs) (hd : dstOk n d = true)
    (h : G P n ops (dq, []) l (E.put d (.string (mkStr bs))) w K) : G1 P n ops (dq, []) ⟨d, .convert t t' x, ty, pos, af, g⟩ l E w K := by
  subst hm; exact G1_toString hu hi hk hx hs hd h
theorem G1_makeJ {α : Type} {sz m : Nat} (e : Enc α) (el : α) {zv : Value} (hu : SliceT P t u sz by_) (hx : E.look x = some (.int k i)) (hy : E.look y = some (.int k' i)) (hi : i = (m : Int)) (hsz : e.sz = sz) (hzv : ZeroT P u zv) (hel : zv.cells.toList = e.enc el) (h1 : by_ * m ≤ 281474976710656) (h2 : m ≤ 9223372036854775807)
    (he : effects P dr.1 ⟨d, .makeSlice t x y, ty, pos, af, g⟩ = true) (hd : dstOk n d = true)
    (h : ∀ p' w', Own w' w.heap.size u e p' m (List.replicate m el) → Ext w w' → w'.heap.size = w.heap.size + 1 → G P n ops dr l (E.put d (.slice p' m m)) w' K) :
    G1 P n ops dr ⟨d, .makeSlice t x y, ty, pos, af, g⟩ l E w K := by
  subst hi
  refine G1_makeN e el hu hx hy hsz hzv hel (by omega) (by have := Int.ofNat_le.2 h1; rw [Int.natCast_mul] at this; exact this) (by omega) he hd (fun p' w' h3 h4 h5 => ?_)
  rw [List.length_replicate, Int.toNat_natCast]
  rw [Int.toNat_natCast] at h3
  exact h p' w' h3 h4 h5
end
/-- the bit with number m of s -/
def bitP (s : ByteArray) (m : Nat) : Int := if m / 8 < s.size ∧ (bget s (m / 8)).toNat &&& 2 ^ (7 - m % 8) ≠ 0 then 1 else 0
end Go.V

/- num.Parse at every string; the document's Print and Parse. -/
namespace Go.Proofs.YtikjnmpijflnaaaDoor
open Go.V
attribute [local irreducible] Blk Own hcell IntT SliceT PlainT AggT SizeT StrT FieldT ZeroT EqT ArrT
def Errs (w : World) : Prop := ∃ t1 p1 t2 p2, w.var? Tryd.prog "strconv.ErrSyntax" = some #[.iface t1 p1] ∧ w.var? Tryd.prog "strconv.ErrRange" = some #[.iface t2 p2]
theorem Errs.ext {w w' : World} (h : Errs w) (hx : Ext w w') : Errs w' := by
  obtain ⟨t1, p1, t2, p2, h1, h2⟩ := h
  exact ⟨t1, p1, t2, p2, var_ext h1 hx, var_ext h2 hx⟩
theorem pi_bad {s : ByteArray} {w : World} (hs : s.size ≤ 1000000) (hno : ∀ v, Lib.parseIntB 64 s.data.toList ≠ .ok v) (hE : Errs w) : Ctr Tryd.prog 76 [.string s, .int .i64 10, .int .i64 64] w (fun r w' => ∃ v t p, r = .tuple #[.int .i64 v, .iface t p] ∧ Ext w w') := by
  obtain ⟨t1, p1, t2, p2, h1, h2⟩ := hE
  unfold Ctr
  refine ⟨⟨Tryd.f76, Tryd.func76, by decide, rfl⟩, ?_⟩
  rcases hp : Lib.parseIntB 64 s.data.toList with v | _ | _
  · exact absurd hp (hno v)
  · exact Calls.mono (Any.strconv_ParseInt_10_at64_syntax_var Tryd.layPI s (by omega) hp t1 p1 w h1) fun e w' ⟨N, he, _, _, hb⟩ => ⟨_, he, ⟨_, _, _, rfl, hb⟩⟩
  · exact Calls.mono (Any.strconv_ParseInt_10_at64_range_var Tryd.layPI s (by omega) hp t2 p2 w h2) fun e w' ⟨N, he, _, _, hb⟩ => ⟨_, he, ⟨_, _, _, rfl, hb⟩⟩
theorem nparse_yes {s : ByteArray} {n : Int} {w : World} (h : IsNum s n) (hT : Pow w) : Ctr Tryd.prog 60 [.string s] w (fun r w' => r = .tuple #[.int .i64 n, .bool true] ∧ Ext w w') := by
  obtain ⟨hf, rfl⟩ := h
  exact parse_ok (itoa_size hf) (by rw [itoaB_list]; exact parse_itoa hf) hf.1 hf.2 rfl hT
theorem nparse_nb {s : ByteArray} {w : World} (hno : ∀ n, ¬ IsNum s n) (hT : Pow w) (hE : Errs w) : Ctr Tryd.prog 60 [.string s] w (fun r w' => r = .tuple #[.int .i64 0, .bool false] ∧ Ext w w') := by
  refine Ctr_of Tryd.func60 Tryd.ntmps60 rfl rfl rfl ?_
  by_cases hok : ∃ v, Lib.parseIntB 64 s.data.toList = .ok v
  · obtain ⟨v, hp⟩ := hok
    have hfv := parse_fit hp
    have hne : ¬ itoaB v = s := fun he => hno v ⟨hfv, he⟩
    repeat' (first | (apply G_on; exact rfl; first | ((first | apply G1_assign | apply G1_move); exact rfl; exact rfl) | (apply G1_call (f := 76); exact rfl; exact rfl; exact rfl; exact pi_ok (by omega) hp; rintro _ w2 ⟨rfl, hx2⟩; refine ⟨(by first | exact .inl rfl | exact .inr (by assumption)), ?_⟩) | (apply G1_errNil; exact Tryd.underlying117; exact rfl; exact rfl) | (apply G1_call (f := 40); exact rfl; exact rfl; exact rfl; exact print_spec hfv.1 hfv.2 (TabIs.ext hT hx2); rintro _ w3 ⟨rfl, hx3⟩; refine ⟨(by first | exact .inl rfl | exact .inr (by assumption)), ?_⟩) | (apply G1_slen; exact T.str9; exact rfl; exact rfl) | ((first | apply G1_gtr | apply G1_extract | apply G1_sneq); exact rfl; exact rfl; exact rfl)) | apply G_nil | apply Post_next | apply W_seq | apply W_region | (apply W_cond_false; exact rfl) | (apply W_cond_dec; exact rfl; all_goals (intro h; try (exfalso; omega))) | apply W_skip | apply W_ret | apply Post_then_ret)
    all_goals try (exfalso; exact hne (by first | assumption | simpa using h); done)
    all_goals
      refine Post_ret Tryd.results60 ⟨_, _, rfl, rfl, _, _, rfl, rfl, rfl⟩ ?_
      exact ⟨rfl, (by repeat first | assumption | exact Ext.rfl' | apply Ext.drew | apply Ext.alloc | refine Ext.trans ?_ (by assumption))⟩
  · have hb : ∀ v, Lib.parseIntB 64 s.data.toList ≠ .ok v := fun v hv => hok ⟨v, hv⟩
    repeat' (first | (apply G_on; exact rfl; first | ((first | apply G1_assign | apply G1_move); exact rfl; exact rfl) | (apply G1_call (f := 76); exact rfl; exact rfl; exact rfl; exact pi_bad (by omega) hb hE; rintro _ w2 ⟨v, t, p, rfl, hx2⟩; refine ⟨(by first | exact .inl rfl | exact .inr (by assumption)), ?_⟩) | (apply G1_errNot; exact Tryd.underlying117; exact rfl; exact rfl) | (apply G1_slen; exact T.str9; exact rfl; exact rfl) | ((first | apply G1_gtr | apply G1_extract); exact rfl; exact rfl; exact rfl)) | apply G_nil | apply Post_next | apply W_seq | apply W_region | (apply W_cond_true; exact rfl) | (apply W_cond_dec; exact rfl; all_goals (intro h; try (exfalso; omega))) | apply W_skip | apply W_ret | apply Post_then_ret)
    all_goals
      refine Post_ret Tryd.results60 ⟨_, _, rfl, rfl, _, _, rfl, rfl, rfl⟩ ?_
      exact ⟨rfl, (by repeat first | assumption | exact Ext.rfl' | apply Ext.drew | apply Ext.alloc | refine Ext.trans ?_ (by assumption))⟩
theorem nparse_no {s : ByteArray} {w : World} (hno : ∀ n, ¬ IsNum s n) (_ : s.size ≤ 1000000) (hT : Pow w) (hE : Errs w) : Ctr Tryd.prog 60 [.string s] w (fun r w' => r = .tuple #[.int .i64 0, .bool false] ∧ Ext w w') := nparse_nb hno hT hE
end Go.Proofs.YtikjnmpijflnaaaDoor

/- The package-level variables that the request laws' rows list: what they give a walk, and a world that holds them. -/
namespace Go.Proofs.YtikjnmpijflnaaaDoor
open Go.V Go.ChangeShapes Go.WideShapes Go.ChangeAt Go.RowKit
theorem own : ownKnob Tryd.prog.godebug = none := by kernel_rfl
theorem laidOut : laidOutB Tryd.prog = true := by kernel_rfl
theorem gPow : Tryd.prog.globalNamed "internal/strconv.uint64pow10" = some 3 := by kernel_rfl
theorem gPowType : (Tryd.prog.globals[3]?).map (·.type) = some 149 := by kernel_rfl
theorem cellsPow : Tryd.prog.cellsOf 149 = 20 := by kernel_rfl
theorem cellsU64 : Tryd.prog.cellsOf 105 = 1 := by kernel_rfl
/-- the list that all rows of this seat bear -/
abbrev laidAll : List (String × DataW Unit) := [("math/bits.deBruijn32tab", Rows.laid_math_bits_deBruijn32tab), ("math/bits.deBruijn64tab", Rows.laid_math_bits_deBruijn64tab), ("internal/strconv.uint64pow10", Rows.laid_internal_strconv_uint64pow10), ("strconv.ErrRange", Rows.laid_strconv_ErrRange), ("strconv.ErrSyntax", Rows.laid_strconv_ErrSyntax)]
theorem met_of {W : World} (h : laidMetH Tryd.prog laidAll W) : laidMet Tryd.prog laidAll W := h
theorem pow_of {W : World} (h : laidMetH Tryd.prog laidAll W) : Pow W := by
  have h1 := laidMet.filter (fun x => x.1 == "internal/strconv.uint64pow10") (met_of h)
  exact Lib.tabIs_of_head (k := .u64) (zs := Lib.pow10Tab) (rest := []) gPow gPowType Tryd.underlying149 Tryd.underlying105 cellsU64 cellsPow h1
theorem gES : Tryd.prog.globalNamed "strconv.ErrSyntax" = some 4 := by kernel_rfl
theorem gEST : (Tryd.prog.globals[4]?).map (·.type) = some 117 := by kernel_rfl
theorem gER : Tryd.prog.globalNamed "strconv.ErrRange" = some 5 := by kernel_rfl
theorem gERT : (Tryd.prog.globals[5]?).map (·.type) = some 117 := by kernel_rfl
theorem cellsES : Tryd.prog.cellsOf 165 = 1 := by kernel_rfl
theorem cellsStr : Tryd.prog.cellsOf 9 = 1 := by kernel_rfl
theorem star : "*" ++ "errors.errorString" = "*errors.errorString" := by decide
theorem rowES (u : TypeId) (h : Tryd.prog.typeName? 3 u = some "*errors.errorString") : u = 163 :=
  typeName_ptr_named (nm := "errors.errorString") (by rw [star]; kernel_rfl) (by kernel_rfl) (by decide) u (by rw [star]; exact h)
theorem errs_of {W : World} (h : laidMetH Tryd.prog laidAll W) : Errs W := by
  have h1 := laidMet.filter (fun x => x.1 == "strconv.ErrSyntax") (met_of h)
  have h2 := laidMet.filter (fun x => x.1 == "strconv.ErrRange") (met_of h)
  obtain ⟨a1, s1, hv1, -, -, -⟩ := laid_sentinel h1 gES gEST Tryd.underlying117 rowES Tryd.underlying163 Tryd.underlying165 rfl rfl Tryd.underlying9 cellsES cellsStr
  obtain ⟨a2, s2, hv2, -, -, -⟩ := laid_sentinel h2 gER gERT Tryd.underlying117 rowES Tryd.underlying163 Tryd.underlying165 rfl rfl Tryd.underlying9 cellsES cellsStr
  exact ⟨_, _, _, _, hv1, hv2⟩
def setc (cs : Array Value) : Obj → Obj
  | .cells _ t frozen => .cells cs t frozen
  | o => o
def tab32 : Array Value := #[.int .u8 0, .int .u8 1, .int .u8 28, .int .u8 2, .int .u8 29, .int .u8 14, .int .u8 24, .int .u8 3, .int .u8 30, .int .u8 22, .int .u8 20, .int .u8 15, .int .u8 25, .int .u8 17, .int .u8 4, .int .u8 8, .int .u8 31, .int .u8 27, .int .u8 13, .int .u8 23, .int .u8 21, .int .u8 19, .int .u8 16, .int .u8 7, .int .u8 26, .int .u8 12, .int .u8 18, .int .u8 6, .int .u8 11, .int .u8 5, .int .u8 10, .int .u8 9]
def tab64 : Array Value := #[.int .u8 0, .int .u8 1, .int .u8 56, .int .u8 2, .int .u8 57, .int .u8 49, .int .u8 28, .int .u8 3, .int .u8 61, .int .u8 58, .int .u8 42, .int .u8 50, .int .u8 38, .int .u8 29, .int .u8 17, .int .u8 4, .int .u8 62, .int .u8 47, .int .u8 59, .int .u8 36, .int .u8 45, .int .u8 43, .int .u8 51, .int .u8 22, .int .u8 53, .int .u8 39, .int .u8 33, .int .u8 30, .int .u8 24, .int .u8 18, .int .u8 12, .int .u8 5, .int .u8 63, .int .u8 55, .int .u8 48, .int .u8 27, .int .u8 60, .int .u8 41, .int .u8 37, .int .u8 16, .int .u8 46, .int .u8 35, .int .u8 44, .int .u8 21, .int .u8 52, .int .u8 32, .int .u8 23, .int .u8 11, .int .u8 54, .int .u8 26, .int .u8 40, .int .u8 15, .int .u8 34, .int .u8 20, .int .u8 31, .int .u8 10, .int .u8 25, .int .u8 14, .int .u8 19, .int .u8 9, .int .u8 13, .int .u8 8, .int .u8 7, .int .u8 6]
def setAt (hp : Array Obj) (n : Nat) (cs : Array Value) : Array Obj := hp.modify n (setc cs)
def heap0 (hp : Array Obj) : Array Obj :=
  let h1 := setAt hp 3 (Lib.pow10Tab.map (Value.int .u64)).toArray
  let h2 := setAt h1 6 tab32
  let h3 := setAt h2 7 tab64
  let h4 := setAt h3 5 #[.iface 163 (.pointer (some ⟨hp.size, 0, none⟩))]
  let h5 := setAt h4 4 #[.iface 163 (.pointer (some ⟨hp.size + 1, 0, none⟩))]
  (h5.push (.cells #[.string ⟨#[118, 97, 108, 117, 101, 32, 111, 117, 116, 32, 111, 102, 32, 114, 97, 110, 103, 101]⟩] 165)).push
    (.cells #[.string ⟨#[105, 110, 118, 97, 108, 105, 100, 32, 115, 121, 110, 116, 97, 120]⟩] 165)
noncomputable def laidWorld (os : Os) : World :=
  { World.holding Tryd.prog os ⟨#[], #[], []⟩ with heap := heap0 (World.holding Tryd.prog os ⟨#[], #[], []⟩).heap }
end Go.Proofs.YtikjnmpijflnaaaDoor

/- Replies: trees, and how they lie in memory; in plain Lean. -/
namespace Go.V
section
variable {P : Program} {n : Nat} {E E0 : Env} {w : World} {Q : Exit → Act → World → Prop}
/-- a region's many ways meet again behind it -/
theorem W_cutR {id : Nat} {l : Array Oper} {b : Bool} {y : Code} (E0 : Env) (J : World → Prop) (h1 : W P n (.region id l b) (fun e a w' => e = .normal ∧ Holds n E0 a ∧ J w') E w) (h2 : ∀ w', J w' → W P n y Q E0 w') : W P n (.seq (.region id l b) y) Q E w := by
  unfold W at *
  exact fun a ha => wp_seq (wp_mono (h1 a ha) (fun e a w' ⟨he, hh, hj⟩ => by subst he; exact h2 w' hj a hh))
theorem Post_cut {J : World → Prop} (hE : Env.sub E0 E) (hJ : J w) : Post n (fun e a w' => e = .normal ∧ Holds n E0 a ∧ J w') .normal E w := by
  unfold Post
  exact fun _ ha => ⟨rfl, ha.sub hE, hJ⟩
end
/-- a reply as it lies in a slice -/
structure RawR where
  kind : Int
  s : ByteArray
  n : Int
  p : Option Addr
  len : Nat
  cap : Nat
def eRep : Enc RawR := ⟨4, fun r => [.int .i64 r.kind, .string r.s, .int .i64 r.n, .slice r.p r.len r.cap], fun _ => rfl, fun _ v hv => by simp at hv; rcases hv with rfl | rfl | rfl | rfl <;> rfl, by decide⟩
inductive Rep where
  | mk (kind : Int) (s : ByteArray) (n : Int) (l : List Rep)
def Rep.kind : Rep → Int | .mk k _ _ _ => k
def Rep.s : Rep → ByteArray | .mk _ s _ _ => s
def Rep.n : Rep → Int | .mk _ _ n _ => n
def Rep.l : Rep → List Rep | .mk _ _ _ l => l
theorem Rep.ext' {a b : Rep} (h1 : a.kind = b.kind) (h2 : a.s = b.s) (h3 : a.n = b.n) (h4 : a.l = b.l) : a = b := by
  cases a; cases b
  simp only [Rep.kind, Rep.s, Rep.n, Rep.l] at *
  subst h1 h2 h3 h4
  rfl
/-- tree t lies at r, not deeper than d -/
def RepAt (H : Array Obj) : Nat → RawR → Rep → Prop
  | 0, _, _ => False
  | d + 1, r, t => r.kind = t.kind ∧ r.s = t.s ∧ r.n = t.n ∧ r.len = t.l.length ∧ t.s.size ≤ maxLen ∧ (-9223372036854775808 ≤ t.n ∧ t.n ≤ 9223372036854775807) ∧
    ∃ rs : List RawR, Sl H eRep r.p r.cap rs ∧ rs.length = t.l.length ∧ ∀ (i : Nat) r' t', rs[i]? = some r' → t.l[i]? = some t' → RepAt H d r' t'
/-- several -/
structure RepsAt (H : Array Obj) (d : Nat) (p : Option Addr) (c : Nat) (rs : List RawR) (ts : List Rep) : Prop where
  sl : Sl H eRep p c rs
  len : rs.length = ts.length
  get : ∀ (i : Nat) r t, rs[i]? = some r → ts[i]? = some t → RepAt H d r t
theorem RepAt.ext {w w' : World} (hx : Ext w w') : ∀ {d : Nat} {r : RawR} {t : Rep}, RepAt w.heap d r t → RepAt w'.heap d r t
  | 0, _, _, h => h
  | d + 1, r, t, ⟨h1, h2, h3, h4, h5, h6, rs, hs, hl, hg⟩ => ⟨h1, h2, h3, h4, h5, h6, rs, hs.ext hx, hl, fun i r' t' hr ht => RepAt.ext hx (hg i r' t' hr ht)⟩
theorem RepsAt.ext {w w' : World} {d : Nat} {p : Option Addr} {c : Nat} {rs : List RawR} {ts : List Rep} (h : RepsAt w.heap d p c rs ts) (hx : Ext w w') : RepsAt w'.heap d p c rs ts :=
  ⟨h.sl.ext hx, h.len, fun i r t hr ht => (h.get i r t hr ht).ext hx⟩
/-- a reply and its list -/
theorem RepAt.open {H : Array Obj} {d : Nat} {r : RawR} {t : Rep} (h : RepAt H d r t) : ∃ e rs, d = e + 1 ∧ r.kind = t.kind ∧ r.s = t.s ∧ r.n = t.n ∧ r.len = rs.length ∧ t.s.size ≤ maxLen ∧ (-9223372036854775808 ≤ t.n ∧ t.n ≤ 9223372036854775807) ∧ RepsAt H e r.p r.cap rs t.l := by
  cases d with
  | zero => exact h.elim
  | succ d =>
    obtain ⟨h1, h2, h3, h4, h5, h6, rs, hs, hl, hg⟩ := h
    exact ⟨d, rs, rfl, h1, h2, h3, by rw [h4, hl], h5, h6, hs, hl, hg⟩
theorem RepAt.mono {H : Array Obj} : ∀ {d e : Nat} {r : RawR} {t : Rep}, RepAt H d r t → d ≤ e → RepAt H e r t
  | 0, _, _, _, h, _ => h.elim
  | d + 1, 0, _, _, _, hl => by omega
  | d + 1, e + 1, r, t, ⟨h1, h2, h3, h4, h5, h6, rs, hs, hl, hg⟩, hle => ⟨h1, h2, h3, h4, h5, h6, rs, hs, hl, fun i r' t' hr ht => RepAt.mono (hg i r' t' hr ht) (by omega)⟩
/-- no end of a line in s -/
def nobr (s : ByteArray) : Bool := s.data.toList.all (fun b => decide (b ≠ 13) && decide (b ≠ 10))
theorem nobr_iff (s : ByteArray) : nobr s = true ↔ ∀ k, k < s.size → bget s k ≠ 13 ∧ bget s k ≠ 10 := by
  unfold nobr
  rw [List.all_eq_true]
  constructor
  · intro h k hk
    have := h (bget s k) (by
      rw [bget_list]
      rw [List.getD_eq_getElem?_getD, List.getElem?_eq_getElem (by rw [← size_list]; exact hk)]
      exact List.getElem_mem _)
    simpa using this
  · intro h b hb
    obtain ⟨k, hk⟩ := List.getElem?_of_mem hb
    have hlt : k < s.size := by rw [size_list]; exact get_lt hk
    have := h k hlt
    rw [bget_list, List.getD_eq_getElem?_getD, hk] at this
    simpa using this
def leafOk (t : Rep) : Bool :=
  decide (0 ≤ t.kind) && decide (t.kind ≤ 5) && (decide (t.kind = 5) || t.l.isEmpty) && (decide (t.kind = 2) || decide (t.n = 0)) && (decide (t.kind = 0) || decide (t.kind = 1) || decide (t.kind = 3) || decide (t.s = ⟨#[]⟩)) && (decide (2 ≤ t.kind) || nobr t.s)
/-- Right, with so many arrays within one another -/
def rightT : Nat → Rep → Bool
  | 0, t => leafOk t && decide (t.kind ≠ 5)
  | d + 1, t => leafOk t && t.l.all (rightT d)
def sizeL (f : Rep → Int) : List Rep → Int → Int
  | [], n => n
  | x :: l, n => if n < 100000 then sizeL f l (n + f x) else n
/-- Size, so deep -/
def sizeT : Nat → Rep → Int
  | 0, _ => 100000
  | d + 1, t => if 2000 < t.s.size then 100000 else sizeL (sizeT d) t.l 1
end Go.V

/- Replies: how they are written; unlike ones are written unlike; in plain Lean. -/
namespace Go.Proofs.YtikjnmpijflnaaaDoor
open Go.V
attribute [local irreducible] Blk Own hcell IntT SliceT PlainT AggT SizeT StrT FieldT ZeroT EqT ArrT
def crlf : List UInt8 := [13, 10]
def wHead (t : Rep) : List UInt8 :=
  if t.kind = 0 then 43 :: (t.s.data.toList ++ crlf)
  else if t.kind = 1 then 45 :: (t.s.data.toList ++ crlf)
  else if t.kind = 2 then 58 :: (Lib.itoa t.n ++ crlf)
  else if t.kind = 3 then 36 :: (Lib.itoa t.s.size ++ crlf ++ (t.s.data.toList ++ crlf))
  else if t.kind = 4 then 36 :: ([45, 49] ++ crlf)
  else 42 :: (Lib.itoa t.l.length ++ crlf)
/-- what is written of a reply, so deep -/
def wT : Nat → Rep → List UInt8
  | 0, t => wHead t
  | d + 1, t => wHead t ++ (if t.kind = 5 then t.l.flatMap (wT d) else [])
theorem line_inj : ∀ {a c r1 r2 : List UInt8}, (∀ b ∈ a, b ≠ 13) → (∀ b ∈ c, b ≠ 13) → a ++ 13 :: r1 = c ++ 13 :: r2 → a = c ∧ r1 = r2
  | [], [], r1, r2, _, _, h => by simpa using h
  | [], y :: c, r1, r2, _, hc, h => by
    injection h with h _
    exact absurd h.symm (hc y (by simp))
  | x :: a, [], r1, r2, ha, _, h => by
    injection h with h _
    exact absurd h (ha x (by simp))
  | x :: a, y :: c, r1, r2, ha, hc, h => by
    injection h with h1 h2
    obtain ⟨e1, e2⟩ := line_inj (fun b hb => ha b (List.mem_cons_of_mem _ hb)) (fun b hb => hc b (List.mem_cons_of_mem _ hb)) h2
    exact ⟨by rw [h1, e1], e2⟩
theorem itoa_no13 (n : Int) : ∀ b ∈ Lib.itoa n, b ≠ 13 := by
  intro b hb
  unfold Lib.itoa at hb
  split at hb
  · rcases List.mem_cons.1 hb with rfl | hb
    · decide
    · intro e; subst e
      have := dec_ge _ _ hb
      simp at this
  · intro e; subst e
    have := dec_ge _ _ hb
    simp at this
theorem nobr_no13 {s : ByteArray} (h : nobr s = true) : ∀ b ∈ s.data.toList, b ≠ 13 := by
  intro b hb
  have := List.all_eq_true.1 h b hb
  simp at this
  exact this.1
theorem ba_list_ext {a b : ByteArray} (h : a.data.toList = b.data.toList) : a = b := by
  cases a with | mk a => cases b with | mk b =>
    congr 1
    exact Array.toList_inj.1 h
structure Leaf (t : Rep) : Prop where
  lo : 0 ≤ t.kind
  hi : t.kind ≤ 5
  list : t.kind ≠ 5 → t.l = []
  num : t.kind ≠ 2 → t.n = 0
  text : t.kind = 2 ∨ t.kind = 4 ∨ t.kind = 5 → t.s = ⟨#[]⟩
  line : t.kind = 0 ∨ t.kind = 1 → nobr t.s = true
theorem leaf_of {t : Rep} (h : leafOk t = true) : Leaf t := by
  unfold leafOk at h
  simp only [Bool.and_eq_true, Bool.or_eq_true, decide_eq_true_eq, List.isEmpty_iff] at h
  obtain ⟨⟨⟨⟨⟨h1, h2⟩, h3⟩, h4⟩, h5⟩, h6⟩ := h
  refine ⟨h1, h2, fun e => h3.resolve_left e, fun e => h4.resolve_left e, fun e => ?_, fun e => ?_⟩
  · rcases h5 with ((h5 | h5) | h5) | h5
    · omega
    · omega
    · omega
    · exact h5
  · rcases h6 with h6 | h6
    · omega
    · exact h6
theorem of_leaf {t : Rep} (h : Leaf t) : leafOk t = true := by
  unfold leafOk
  simp only [Bool.and_eq_true, Bool.or_eq_true, decide_eq_true_eq, List.isEmpty_iff]
  refine ⟨⟨⟨⟨⟨h.lo, h.hi⟩, ?_⟩, ?_⟩, ?_⟩, ?_⟩
  · by_cases e : t.kind = 5
    · exact .inl e
    · exact .inr (h.list e)
  · by_cases e : t.kind = 2
    · exact .inl e
    · exact .inr (h.num e)
  · have h1 := h.lo
    have h2 := h.hi
    by_cases e : t.kind = 2 ∨ t.kind = 4 ∨ t.kind = 5
    · exact .inr (h.text e)
    · exact .inl (by omega)
  · have h1 := h.lo
    by_cases e : t.kind = 0 ∨ t.kind = 1
    · exact .inr (h.line e)
    · exact .inl (by omega)
theorem right_leaf {d : Nat} {t : Rep} (h : rightT d t = true) : Leaf t := by
  cases d <;> simp only [rightT, Bool.and_eq_true] at h <;> exact leaf_of h.1
/-- the head of a reply tells all but its list, and how long that is -/
theorem head_inj {t u : Rep} (ht : Leaf t) (hu : Leaf u) {r1 r2 : List UInt8} (h : wHead t ++ r1 = wHead u ++ r2) : t.kind = u.kind ∧ t.s = u.s ∧ t.n = u.n ∧ t.l.length = u.l.length ∧ r1 = r2 := by
  have t1 := ht.lo
  have t2 := ht.hi
  have u1 := hu.lo
  have u2 := hu.hi
  have lines : ∀ {m1 m2 : UInt8} {a c x y : List UInt8}, (m1 :: (a ++ crlf)) ++ x = (m2 :: (c ++ crlf)) ++ y → (∀ b ∈ a, b ≠ 13) → (∀ b ∈ c, b ≠ 13) → m1 = m2 ∧ a = c ∧ x = y := by
    intro m1 m2 a c x y h ha hc
    simp only [crlf, List.cons_append, List.append_assoc, List.nil_append] at h
    injection h with h1 h2
    obtain ⟨e1, e2⟩ := line_inj ha hc h2
    injection e2 with _ e2
    exact ⟨h1, e1, e2⟩
  have cases5 : ∀ k : Int, 0 ≤ k → k ≤ 5 → k = 0 ∨ k = 1 ∨ k = 2 ∨ k = 3 ∨ k = 4 ∨ k = 5 := by intro k h1 h2; omega
  -- the mark, the line, and what is behind it
  have form : ∀ v : Rep, Leaf v → ∃ (m : UInt8) (a : List UInt8) (z : List UInt8), wHead v = (m :: (a ++ crlf)) ++ z ∧ (∀ b ∈ a, b ≠ 13) ∧
      ((v.kind = 0 ∧ m = 43 ∧ a = v.s.data.toList ∧ z = []) ∨ (v.kind = 1 ∧ m = 45 ∧ a = v.s.data.toList ∧ z = []) ∨ (v.kind = 2 ∧ m = 58 ∧ a = Lib.itoa v.n ∧ z = []) ∨
       (v.kind = 3 ∧ m = 36 ∧ a = Lib.itoa v.s.size ∧ z = v.s.data.toList ++ crlf) ∨ (v.kind = 4 ∧ m = 36 ∧ a = Lib.itoa (-1) ∧ z = []) ∨ (v.kind = 5 ∧ m = 42 ∧ a = Lib.itoa v.l.length ∧ z = [])) := by
    intro v hv
    rcases cases5 v.kind hv.lo hv.hi with h | h | h | h | h | h
    · exact ⟨43, v.s.data.toList, [], by simp [wHead, h], nobr_no13 (hv.line (.inl h)), .inl ⟨h, rfl, rfl, rfl⟩⟩
    · exact ⟨45, v.s.data.toList, [], by simp [wHead, h], nobr_no13 (hv.line (.inr h)), .inr (.inl ⟨h, rfl, rfl, rfl⟩)⟩
    · exact ⟨58, Lib.itoa v.n, [], by simp [wHead, h], itoa_no13 _, .inr (.inr (.inl ⟨h, rfl, rfl, rfl⟩))⟩
    · exact ⟨36, Lib.itoa v.s.size, v.s.data.toList ++ crlf, by simp [wHead, h], itoa_no13 _, .inr (.inr (.inr (.inl ⟨h, rfl, rfl, rfl⟩)))⟩
    · exact ⟨36, Lib.itoa (-1), [], (by have e : Lib.itoa (-1) = [45, 49] := (by decide +kernel); rw [e]; simp [wHead, h]), itoa_no13 _, .inr (.inr (.inr (.inr (.inl ⟨h, rfl, rfl, rfl⟩))))⟩
    · exact ⟨42, Lib.itoa v.l.length, [], by simp [wHead, h], itoa_no13 _, .inr (.inr (.inr (.inr (.inr ⟨h, rfl, rfl, rfl⟩))))⟩
  obtain ⟨m1, a, z1, e1, n1, c1⟩ := form t ht
  obtain ⟨m2, c, z2, e2, n2, c2⟩ := form u hu
  rw [e1, e2, List.append_assoc, List.append_assoc] at h
  obtain ⟨hm, hac, hz⟩ := lines h n1 n2
  have fin : ∀ {k : Int}, t.kind = k → u.kind = k → t.s = u.s → t.n = u.n → t.l.length = u.l.length → z1 ++ r1 = z2 ++ r2 → (z1 = z2) → t.kind = u.kind ∧ t.s = u.s ∧ t.n = u.n ∧ t.l.length = u.l.length ∧ r1 = r2 := by
    intro k hk1 hk2 hs hn hl hzr hzz
    subst hzz
    exact ⟨by rw [hk1, hk2], hs, hn, hl, List.append_cancel_left hzr⟩
  rcases c1 with ⟨k1, rfl, rfl, rfl⟩ | ⟨k1, rfl, rfl, rfl⟩ | ⟨k1, rfl, rfl, rfl⟩ | ⟨k1, rfl, rfl, rfl⟩ | ⟨k1, rfl, rfl, rfl⟩ | ⟨k1, rfl, rfl, rfl⟩ <;>
    rcases c2 with ⟨k2, e3, rfl, rfl⟩ | ⟨k2, e3, rfl, rfl⟩ | ⟨k2, e3, rfl, rfl⟩ | ⟨k2, e3, rfl, rfl⟩ | ⟨k2, e3, rfl, rfl⟩ | ⟨k2, e3, rfl, rfl⟩ <;>
    rw [e3] at hm <;> try (exact absurd hm (by decide))
  · exact fin k1 k2 (ba_list_ext hac) (by rw [ht.num (by omega), hu.num (by omega)]) (by rw [ht.list (by omega), hu.list (by omega)]) hz rfl
  · exact fin k1 k2 (ba_list_ext hac) (by rw [ht.num (by omega), hu.num (by omega)]) (by rw [ht.list (by omega), hu.list (by omega)]) hz rfl
  · exact fin k1 k2 (by rw [ht.text (.inl k1), hu.text (.inl k2)]) (itoa_inj hac) (by rw [ht.list (by omega), hu.list (by omega)]) hz rfl
  · have hsz := itoa_inj hac
    simp only [List.append_assoc] at hz
    have hl : t.s.data.toList.length = u.s.data.toList.length := by rw [← size_list, ← size_list]; omega
    obtain ⟨hs, hr⟩ := List.append_inj hz hl
    exact fin k1 k2 (ba_list_ext hs) (by rw [ht.num (by omega), hu.num (by omega)]) (by rw [ht.list (by omega), hu.list (by omega)]) (by rw [hs]; rw [List.append_assoc, List.append_assoc, hr]) (by rw [hs])
  · have := itoa_inj hac; omega
  · have := itoa_inj hac; omega
  · exact fin k1 k2 (by rw [ht.text (by omega), hu.text (by omega)]) (by rw [ht.num (by omega), hu.num (by omega)]) (by rw [ht.list (by omega), hu.list (by omega)]) hz rfl
  · have := itoa_inj hac
    exact fin k1 k2 (by rw [ht.text (by omega), hu.text (by omega)]) (by rw [ht.num (by omega), hu.num (by omega)]) (by omega) hz rfl
theorem list_inj {f : Rep → List UInt8} {ok : Rep → Bool} (hf : ∀ t u r1 r2, ok t = true → ok u = true → f t ++ r1 = f u ++ r2 → t = u ∧ r1 = r2) : ∀ (l m : List Rep) (r1 r2 : List UInt8), l.length = m.length → l.all ok = true → m.all ok = true → l.flatMap f ++ r1 = m.flatMap f ++ r2 → l = m ∧ r1 = r2
  | [], [], r1, r2, _, _, _, h => ⟨rfl, by simpa using h⟩
  | [], _ :: _, _, _, hl, _, _, _ => by simp at hl
  | _ :: _, [], _, _, hl, _, _, _ => by simp at hl
  | x :: l, y :: m, r1, r2, hl, h1, h2, h => by
    simp only [List.all_cons, Bool.and_eq_true] at h1 h2
    rw [List.flatMap_cons, List.flatMap_cons, List.append_assoc, List.append_assoc] at h
    obtain ⟨e, h'⟩ := hf x y _ _ h1.1 h2.1 h
    obtain ⟨e2, e3⟩ := list_inj hf l m r1 r2 (by simpa using hl) h1.2 h2.2 h'
    exact ⟨by rw [e, e2], e3⟩
theorem w_inj : ∀ (d : Nat) (t u : Rep) (r1 r2 : List UInt8), rightT d t = true → rightT d u = true → wT d t ++ r1 = wT d u ++ r2 → t = u ∧ r1 = r2
  | 0, t, u, r1, r2, ht, hu, h => by
    obtain ⟨h1, h2, h3, h4, h5⟩ := head_inj (right_leaf ht) (right_leaf hu) h
    simp only [rightT, Bool.and_eq_true, decide_eq_true_eq] at ht hu
    exact ⟨Rep.ext' h1 h2 h3 (by rw [(leaf_of ht.1).list ht.2, (leaf_of hu.1).list hu.2]), h5⟩
  | d + 1, t, u, r1, r2, ht, hu, h => by
    unfold wT at h
    rw [List.append_assoc, List.append_assoc] at h
    obtain ⟨h1, h2, h3, h4, h5⟩ := head_inj (right_leaf ht) (right_leaf hu) h
    have lt := right_leaf ht
    have lu := right_leaf hu
    simp only [rightT, Bool.and_eq_true] at ht hu
    by_cases hk : t.kind = 5
    · rw [if_pos hk, if_pos (by rw [← h1]; exact hk)] at h5
      obtain ⟨e1, e2⟩ := list_inj (fun t u r1 r2 => w_inj d t u r1 r2) t.l u.l r1 r2 h4 ht.2 hu.2 h5
      exact ⟨Rep.ext' h1 h2 h3 e1, e2⟩
    · rw [if_neg hk, if_neg (by rw [← h1]; exact hk)] at h5
      exact ⟨Rep.ext' h1 h2 h3 (by rw [lt.list hk, lu.list (by rw [← h1]; exact hk)]), by simpa using h5⟩
end Go.Proofs.YtikjnmpijflnaaaDoor

/- Ranging over a string; scopes; a rune's string. -/
namespace Go.V
open Go.RowKit
/-- the iterator that stands in a block -/
def Itr (w : World) (k : Nat) (s : ByteArray) (pos : Nat) : Prop := w.heap[k]? = some (.stringIter s pos)
theorem Itr.ext {w w' : World} {k : Nat} {s : ByteArray} {pos : Nat} (h : Itr w k s pos) (hx : Ext w w') : Itr w' k s pos := hx.blk h
section
variable {P : Program} {n : Nat} {ops : Array Oper} {dr : Nat × List Nat} {l : List Oper} {E : Env} {w : World} {K : Env → World → Prop}
variable {d : Option Nat} {ty : TypeId} {pos : String} {af : Array Edge} {g : Option (Nat × Bool)} {x y : Operand} {k : Nat} {t t' u : TypeId} {i j r : Int} {s : ByteArray} {m : Nat}
theorem G1_rangeS (hu : StrT P t) (hx : E.look x = some (.string s)) (he : effects P dr.1 ⟨d, .range t x, ty, pos, af, g⟩ = true) (hd : dstOk n d = true)
    (h : ∀ w', Itr w' w.heap.size s 0 → Ext w w' → w'.heap.size = w.heap.size + 1 → G P n ops dr l (E.put d (.pointer (some ⟨w.heap.size, 0, none⟩))) w' K) : G1 P n ops dr ⟨d, .range t x, ty, pos, af, g⟩ l E w K :=
  G1_eff _ (w.alloc (.stringIter s 0)) he hd (fun a ha => by simp [execOp, ha.eval hx, Instr.range, run_underlying (P := P) hu, newObj]; rfl) (.inr (Ext.alloc Ext.rfl' _).toS)
    (h _ (by unfold Itr; exact heap_alloc_new w _) (Ext.alloc Ext.rfl' _) (by simp))
theorem G1_nextS {v : Nat × Nat} (hx : E.look x = some (.pointer (some ⟨k, 0, none⟩))) (hk : Itr w k s m) (hm : m < s.size) (hv : Utf8.decode s m = v) (he : effects P dr.1 ⟨d, .next x true, ty, pos, af, g⟩ = true) (hw : writes dr.1 ⟨d, .next x true, ty, pos, af, g⟩ = true) (hd : dstOk n d = true)
    (h : ∀ w', Itr w' k s (m + v.2) → w.grownBy w' (some k) → w'.heap.size = w.heap.size → G P n ops dr l (E.put d (.tuple #[.bool true, .int .i64 (m : Int), .int .i32 (v.1 : Int)])) w' K) : G1 P n ops dr ⟨d, .next x true, ty, pos, af, g⟩ l E w K := by
  subst hv
  have hlt : k < w.heap.size := (Array.getElem?_eq_some_iff.1 hk).1
  refine G1_eff _ (w.iterAt k s (m + (Utf8.decode s m).2)) he hd (fun a ha => by simp [execOp, ha.eval hx, Lib.run_next_any_at w k s m ty hk hm]) (.inl hw) (h _ ?_ ?_ (by simp [World.iterAt]))
  · exact Lib.iterAt_heap w k s m _ hk
  · refine ⟨rfl, rfl, rfl, by simp [World.iterAt], fun q hq hne => ?_⟩
    simp only [World.iterAt]
    rw [Array.getElem?_setIfInBounds_ne (by intro e; subst e; exact hne rfl)]
theorem G1_nextE (hx : E.look x = some (.pointer (some ⟨k, 0, none⟩))) (hk : Itr w k s m) (hm : ¬ m < s.size) (he : effects P dr.1 ⟨d, .next x true, ty, pos, af, g⟩ = true) (hw : writes dr.1 ⟨d, .next x true, ty, pos, af, g⟩ = true) (hd : dstOk n d = true)
    (h : G P n ops dr l (E.put d (.tuple #[.bool false])) w K) : G1 P n ops dr ⟨d, .next x true, ty, pos, af, g⟩ l E w K :=
  G1_eff _ w he hd (fun a ha => by simp [execOp, ha.eval hx, Lib.run_next_end_at w k s m ty hk hm]) (.inl hw) h
theorem G1_runeStr {kk kk' : IntKind} (hi : IntT P t kk) (hk : StrT P t') (hx : E.look x = some (.int kk' i)) (hd : dstOk n d = true)
    (h : G P n ops dr l (E.put d (.string (Utf8.encode i))) w K) : G1 P n ops dr ⟨d, .convert t t' x, ty, pos, af, g⟩ l E w K :=
  G1_quiet _ hd (fun a ha w' _ => by simp [execOp, convert, ha.eval hx, run_underlying (P := P) hi, run_underlying (P := P) hk, Conv.intToString]) h
variable {Q : Exit → Act → World → Prop}
theorem W_scope {c : Code} (h : W P n c (Exit.noGoto Q) E w) : W P n (.scope c) Q E w := by
  unfold W at *
  exact fun a ha => wp_scope_straight (h a ha)
theorem Post_scope_normal (h : Post n Q .normal E w) : Post n (Exit.noGoto Q) .normal E w := by unfold Post at *; exact h
theorem Post_scope_ret (h : Post n Q .ret E w) : Post n (Exit.noGoto Q) .ret E w := by unfold Post at *; exact h
theorem Post_scope_exit {id : Nat} (h : Post n Q (.exit id) E w) : Post n (Exit.noGoto Q) (.exit id) E w := by unfold Post at *; exact h
end
theorem bget_get' {s : ByteArray} {k : Nat} (h : k < s.size) : s.get! k = bget s k := by
  rw [bget_list]
  have h' : k < s.data.toList.length := by rw [Array.length_toList]; exact h
  have h2 : k < s.data.size := h
  rw [List.getD_eq_getElem?_getD, List.getElem?_eq_getElem h']
  simp only [ByteArray.get!]
  rw [getElem!_pos s.data k h2]
  simp
theorem bget_idx {s : ByteArray} {k : Nat} (h : k < s.size) : bget s k = s[k]'h := by rw [← bget_get' h]; exact get_at s k h
/-- what is decoded at a byte that is no ASCII: nothing of ASCII, and nothing of ASCII is left out -/
theorem decode_skip (s : ByteArray) (i : Nat) (h : i < s.size) (hb : 128 ≤ (bget s i).toNat) : 128 ≤ (Utf8.decode s i).1 ∧ (Utf8.decode s i).1 ≤ 2147483647 ∧ 1 ≤ (Utf8.decode s i).2 ∧ i + (Utf8.decode s i).2 ≤ s.size ∧ ∀ j, i ≤ j → j < i + (Utf8.decode s i).2 → 128 ≤ (bget s j).toNat := by
  have hg : ∀ k, i + k < s.size → (s.get! (i + k)).toNat = (bget s (i + k)).toNat := fun k hk => by
    rw [bget_get' hk]
  have h0 := hg 0 (by omega)
  rw [Nat.add_zero] at h0
  have hn : ¬ (s.get! i).toNat < 128 := by omega
  have step : ∀ (d : Nat × Nat), 128 ≤ d.1 → d.1 ≤ 2147483647 → 1 ≤ d.2 → d.2 ≤ 4 → (∀ k, 1 ≤ k → k < d.2 → i + k < s.size ∧ (s.get! (i + k)).toNat / 64 = 2) →
      128 ≤ d.1 ∧ d.1 ≤ 2147483647 ∧ 1 ≤ d.2 ∧ i + d.2 ≤ s.size ∧ ∀ j, i ≤ j → j < i + d.2 → 128 ≤ (bget s j).toNat := by
    intro d a1 a2 a3 a4 a5
    refine ⟨a1, a2, a3, ?_, ?_⟩
    · by_cases h1 : d.2 = 1
      · omega
      · have := (a5 (d.2 - 1) (by omega) (by omega)).1; omega
    · intro j hj1 hj2
      by_cases hji : j = i
      · rw [hji]; exact hb
      · obtain ⟨b1, b2⟩ := a5 (j - i) (by omega) (by omega)
        have b3 := hg (j - i) b1
        rw [show i + (j - i) = j by omega] at b2 b3
        omega
  have h1 := decode_high s i h (by rw [← bget_idx h]; exact hb)
  have h2 := decode_le s i
  have hw : (Utf8.decode s i).2 ≤ 4 ∧ ∀ k, 1 ≤ k → k < (Utf8.decode s i).2 → i + k < s.size ∧ (s.get! (i + k)).toNat / 64 = 2 := by
    simp only [Utf8.decode, Nat.add_zero, hn, if_false]
    repeat' split
    all_goals refine ⟨by simp, fun k hk1 hk2 => ?_⟩
    all_goals simp only [Bool.and_eq_true, decide_eq_true_eq, beq_iff_eq] at *
    all_goals try (exfalso; omega)
    all_goals rcases (show k = 1 ∨ k = 2 ∨ k = 3 by omega) with rfl | rfl | rfl
    all_goals first
      | (exfalso; omega)
      | exact ⟨by omega, by omega⟩
  exact step _ h1.1 h2 h1.2 hw.1 hw.2
theorem rune_facts (r : Nat) (h : 128 ≤ r) : 2 ≤ (Utf8.encode (r : Int)).size ∧ (Utf8.encode (r : Int)).size ≤ 4 ∧ 128 ≤ (bget (Utf8.encode (r : Int)) ((Utf8.encode (r : Int)).size - 1)).toNat := by
  unfold Utf8.encode
  simp only
  generalize hc : (if Utf8.valid (r : Int) = true then (r : Int).toNat else Utf8.runeError) = c
  have hc1 : 128 ≤ c := by
    rw [← hc]; split
    · omega
    · decide
  rw [if_neg (by omega)]
  split
  · refine ⟨Nat.le_of_ble_eq_true rfl, Nat.le_of_ble_eq_true rfl, ?_⟩
    show 128 ≤ (UInt8.ofNat (0x80 + c % 64)).toNat
    rw [UInt8.toNat_ofNat']; omega
  · split
    · refine ⟨Nat.le_of_ble_eq_true rfl, Nat.le_of_ble_eq_true rfl, ?_⟩
      show 128 ≤ (UInt8.ofNat (0x80 + c % 64)).toNat
      rw [UInt8.toNat_ofNat']; omega
    · refine ⟨Nat.le_of_ble_eq_true rfl, Nat.le_of_ble_eq_true rfl, ?_⟩
      show 128 ≤ (UInt8.ofNat (0x80 + c % 64)).toNat
      rw [UInt8.toNat_ofNat']; omega
end Go.V

/- strings.ContainsAny where the ends of lines are looked for. -/
namespace Go.V
open Go.RowKit
section
variable {P : Program} {n : Nat} {ops : Array Oper} {dr : Nat × List Nat} {l : List Oper} {E : Env} {w : World} {K : Env → World → Prop}
variable {d : Option Nat} {ty : TypeId} {pos : String} {af : Array Edge} {g : Option (Nat × Bool)} {x y : Operand} {i : Int}
/-- the library's search for a byte -/
theorem G1_indexByte {f : FuncId} {fn : Func} {s : ByteArray} {tys : Array TypeId} (hf : P.funcs[f]? = some fn) (hname : (fn.name == "runtime.NumGoroutine") = false) (hb : fn.body.isNone = true) (hn : Extern.findNext fn = none) (hfi : Extern.find fn = some Extern.BytealgIndexByte.indexByte)
    (hx : E.look x = some (.string s)) (hy : E.look y = some (.int .u8 i)) (he : effects P dr.1 ⟨d, .call ⟨.value (.func f), #[x, y], tys⟩, ty, pos, af, g⟩ = true) (hd : dstOk n d = true)
    (h : G P n ops dr l (E.put d (.int .i64 (firstIdx s i.toNat.toUInt8))) w K) : G1 P n ops dr ⟨d, .call ⟨.value (.func f), #[x, y], tys⟩, ty, pos, af, g⟩ l E w K := by
  have hr : (callFunc f #[.string s, .int .u8 i]).run P w = .ok (.value (.int .i64 (firstIdx s i.toNat.toUInt8))) w := by
    rw [run_callFunc_extern hf hname hb hn hfi, run_indexByte_string]
    rfl
  exact G1_eff _ w he hd (fun a ha => by
    have e0 : a.eval (.func f) = .func (.func f) #[] #[] := rfl
    simp [execOp, resolve, Deferred.ofValue, e0, invoke, ha.eval hx, ha.eval hy, hr]) (.inr ExtS.rfl') h
end
def brs : ByteArray := ⟨#[13, 10]⟩
def isBr (c : UInt8) : Bool := c == 13 || c == 10
theorem br_idx (c : UInt8) : decide (0 ≤ firstIdx brs c) = isBr c := by
  have key : ∀ n : Fin 256, decide (0 ≤ firstIdx brs (UInt8.ofNat n.val)) = isBr (UInt8.ofNat n.val) := by decide +kernel
  have h := key ⟨c.toNat, UInt8.toNat_lt c⟩
  simpa using h
theorem toUInt8_nat (c : UInt8) : ((c.toNat : Int)).toNat.toUInt8 = c := by simp
end Go.V
namespace Go.Proofs.YtikjnmpijflnaaaDoor
open Go.V
attribute [local irreducible] Blk Own hcell IntT SliceT PlainT AggT SizeT StrT FieldT ZeroT EqT ArrT
theorem ib0 : Extern.findNext Tryd.f69 = none := by kernel_rfl
theorem ib1 : Extern.find Tryd.f69 = some Extern.BytealgIndexByte.indexByte := by kernel_rfl
theorem lite_index {s : ByteArray} {i : Int} {w : World} : Ctr Tryd.prog 110 [.string s, .int .u8 i] w (fun v w' => v = .int .i64 (firstIdx s i.toNat.toUInt8) ∧ Ext w w') := by
  refine Ctr_of Tryd.func110 Tryd.ntmps110 rfl rfl rfl ?_
  repeat' (first | (apply G_on; exact rfl; first | ((first | apply G1_assign | apply G1_move); exact rfl; exact rfl) | (apply G1_indexByte; exact Tryd.func69; exact rfl; exact rfl; exact ib0; exact ib1; exact rfl; exact rfl; exact rfl; exact rfl)) | apply G_nil | apply Post_next | apply W_seq | apply W_region | apply W_ret)
  refine Post_ret Tryd.results110 ⟨_, _, rfl, rfl, rfl⟩ ?_
  exact ⟨rfl, (by repeat first | assumption | exact Ext.rfl' | apply Ext.drew | apply Ext.alloc | refine Ext.trans ?_ (by assumption))⟩
theorem str_index {s : ByteArray} {i : Int} {w : World} : Ctr Tryd.prog 117 [.string s, .int .u8 i] w (fun v w' => v = .int .i64 (firstIdx s i.toNat.toUInt8) ∧ Ext w w') := by
  refine Ctr_of Tryd.func117 Tryd.ntmps117 rfl rfl rfl ?_
  repeat' (first | (apply G_on; exact rfl; first | ((first | apply G1_assign | apply G1_move); exact rfl; exact rfl) | (apply G1_call (f := 110); exact rfl; exact rfl; exact rfl; exact lite_index; rintro _ w2 ⟨rfl, hx2⟩; refine ⟨(by first | exact .inl rfl | exact .inr (by assumption)), ?_⟩)) | apply G_nil | apply Post_next | apply W_seq | apply W_region | apply W_ret)
  refine Post_ret Tryd.results117 ⟨_, _, rfl, rfl, rfl⟩ ?_
  exact ⟨rfl, (by repeat first | assumption | exact Ext.rfl' | apply Ext.drew | apply Ext.alloc | refine Ext.trans ?_ (by assumption))⟩
theorem list_bget {s : ByteArray} {k : Nat} (h : k < s.size) : s.data.toList[k]? = some (bget s k) := by
  have h' : k < s.data.toList.length := by rw [Array.length_toList]; exact h
  have h2 : k < s.data.size := h
  rw [List.getElem?_eq_getElem h', bget_list, List.getD_eq_getElem?_getD, List.getElem?_eq_getElem h']
  rfl
theorem validRune {c : Int} {w : World} : Ctr Tryd.prog 82 [.int .i32 c] w (fun v w' => ∃ b, v = .bool b ∧ Ext w w') := by
  refine Ctr_of Tryd.func82 Tryd.ntmps82 rfl rfl rfl ?_
  repeat' (first | (apply G_on; exact rfl; first | ((first | apply G1_assign | apply G1_move); exact rfl; exact rfl) | ((first | apply G1_leq | apply G1_lss); exact rfl; exact rfl; exact rfl) | (apply G1_pick_t; exact rfl; exact rfl; exact rfl) | (apply G1_pick_f; exact rfl; exact rfl; exact rfl)) | apply G_nil | apply Post_next | apply W_seq | apply W_region | (apply W_cond_false; exact rfl) | (apply W_cond_dec; exact rfl; all_goals (intro h; try (exfalso; omega))) | (apply G_off; exact rfl; exact rfl) | ((fail_if_success (apply G_on; exact rfl)); apply G_split_dec; exact rfl; exact rfl; all_goals (intro h; try (exfalso; omega))) | apply W_skip | apply W_ret | apply W_block | apply Post_then_ret | apply Post_block_ret | apply Post_block_normal)
  all_goals
    refine Post_ret Tryd.results82 ⟨_, _, rfl, rfl, rfl⟩ ?_
    exact ⟨_, rfl, (by repeat first | assumption | exact Ext.rfl' | apply Ext.drew | apply Ext.alloc | refine Ext.trans ?_ (by assumption))⟩
theorem br_get {k : Nat} (h : k < 2) : 10 ≤ (bget brs k).toNat ∧ (bget brs k).toNat < 128 := by
  have key : ∀ n : Fin 2, 10 ≤ (bget brs n.val).toNat ∧ (bget brs n.val).toNat < 128 := by decide
  exact key ⟨k, h⟩
theorem br_dec {k : Nat} (h : k < brs.size) : Utf8.decode brs k = ((bget brs k).toNat, 1) := by
  rw [decode_ascii brs k h (by rw [← bget_idx h]; exact (br_get h).2), bget_idx h]
theorem br_size : brs.size = 2 := rfl
theorem br_rest {q : Nat} {x : UInt8} (hq : q < 2) (hx : 128 ≤ x.toNat) : firstIdx (brs.extract (q + 1) brs.size) x = -1 := by
  have key : ∀ (m : Fin 2) (n : Fin 128), firstIdx (brs.extract (m.val + 1) brs.size) (UInt8.ofNat (128 + n.val)) = -1 := by decide +kernel
  have h := key ⟨q, hq⟩ ⟨x.toNat - 128, by have := x.toNat_lt; omega⟩
  rw [show 128 + (x.toNat - 128) = x.toNat by omega, UInt8.ofNat_toNat] at h
  exact h
theorem rune_hi {c : Int} {w : World} (h1 : 128 ≤ c) (h2 : c ≤ 2147483647) : Ctr Tryd.prog 101 [.string brs, .int .i32 c] w (fun v w' => v = .int .i64 (-1) ∧ Ext w w') := by
  obtain ⟨e1, e2, e3⟩ := rune_facts c.toNat (by omega)
  rw [Int.toNat_of_nonneg (by omega)] at e1 e2 e3
  have hss := br_size
  refine Ctr_of Tryd.func101 Tryd.ntmps101 rfl rfl rfl ?_
  by_cases hc : c = 65533
  · repeat' (first | (apply G_on; exact rfl; first | ((first | apply G1_assign | apply G1_move); exact rfl; exact rfl) | ((first | apply G1_leq | apply G1_lss | apply G1_eql); exact rfl; exact rfl; exact rfl) | (apply G1_pick_t; exact rfl; exact rfl; exact rfl)) | apply G_nil | apply Post_next | apply W_seq | apply W_region | (apply W_cond_dec; exact rfl; all_goals (intro h; try (exfalso; omega))) | ((fail_if_success (apply G_on; exact rfl)); apply G_split_dec; exact rfl; exact rfl; all_goals (intro h; try (exfalso; omega))) | apply W_block)
    apply G_on; exact rfl
    apply G1_rangeS; exact T.str9; exact rfl; exact rfl; exact rfl
    intro w2 hi2 hx2 hz2
    repeat' (first | apply G_nil | apply Post_next | apply W_block)
    refine W_loop (ι := Nat) (fun k => [(175, .pointer (some ⟨w.heap.size, 0, none⟩))]) (fun k w' => Ext w w' ∧ Itr w' w.heap.size brs k ∧ k ≤ 2) (fun k => 2 - k) 0 ⟨rfl, trivial⟩ ⟨hx2, hi2, Nat.zero_le _⟩ ?_
    rintro k w3 ⟨hx3, hi3, hk⟩
    by_cases hlt : k < 2
    · have hd := br_dec (k := k) (by omega)
      have hb := br_get hlt
      repeat' (first | apply W_seq | apply W_region)
      apply G_on; exact rfl
      apply G1_nextS (s := brs) (m := k); exact rfl; exact hi3; omega; exact hd; exact rfl; exact rfl; exact rfl
      intro w4 hi4 hg4 hz4
      have hx4 : Ext w w4 := hx3.own hg4 (fun k hk => by injection hk with hk; omega)
      repeat' (first | (apply G_on; exact rfl; first | ((first | apply G1_assign | apply G1_move); exact rfl; exact rfl) | ((first | apply G1_eql | apply G1_extract); exact rfl; exact rfl; exact rfl)) | apply G_nil | apply Post_next | apply W_seq | apply W_region | (apply W_cond_true; exact rfl) | (apply W_cond_dec; exact rfl; all_goals (intro h; try (exfalso; omega))) | apply W_skip | apply W_block | apply Post_block_normal)
      all_goals exact Post_round (k + 1) ⟨rfl, trivial⟩ ⟨hx4, hi4, by omega⟩ (by omega)
    · repeat' (first | apply W_seq | apply W_region)
      apply G_on; exact rfl
      apply G1_nextE (s := brs) (m := k); exact rfl; exact hi3; omega; exact rfl; exact rfl; exact rfl
      repeat' (first | (apply G_on; exact rfl; first | (apply G1_assign; exact rfl; exact rfl) | (apply G1_extract; exact rfl; exact rfl; exact rfl)) | apply G_nil | apply Post_next | apply W_seq | apply W_region | (apply W_cond_false; exact rfl) | apply W_exit | apply W_ret | apply Post_block_ret | apply Post_then_exit | apply Post_block_exit)
      refine Post_ret Tryd.results101 ⟨_, _, rfl, rfl, rfl⟩ ?_
      exact ⟨rfl, (by repeat first | assumption | exact Ext.rfl' | apply Ext.drew | apply Ext.alloc | refine Ext.trans ?_ (by assumption))⟩
  · repeat' (first | (apply G_on; exact rfl; first | ((first | apply G1_assign | apply G1_move); exact rfl; exact rfl) | (apply G1_call (f := 82); exact rfl; exact rfl; exact rfl; exact validRune; rintro _ w2 ⟨b, rfl, hx2⟩; refine ⟨(by first | exact .inl rfl | exact .inr (by assumption)), ?_⟩) | (apply G1_runeStr; exact T.i21; exact T.str9; exact rfl; exact rfl) | ((first | apply G1_leq | apply G1_lss | apply G1_eql); exact rfl; exact rfl; exact rfl) | (apply G1_pick_t; exact rfl; exact rfl; exact rfl) | (apply G1_not; exact rfl; exact rfl) | (apply G1_slen; exact T.str9; exact rfl; exact rfl) | (apply G1_sub; exact rfl; exact rfl; omega; omega; exact rfl)) | apply G_nil | apply Post_next | apply W_seq | apply W_region | apply W_scope | (apply W_cond_dec; exact rfl; all_goals (intro h; try (exfalso; omega))) | (apply W_cond; exact rfl; all_goals intro h) | ((fail_if_success (apply G_on; exact rfl)); apply G_split_dec; exact rfl; exact rfl; all_goals (intro h; try (exfalso; omega))) | apply W_ret | apply W_block | apply Post_block_ret)
    · refine Post_ret Tryd.results101 ⟨_, _, rfl, rfl, rfl⟩ ?_
      exact ⟨rfl, (by repeat first | assumption | exact Ext.rfl' | apply Ext.drew | apply Ext.alloc | refine Ext.trans ?_ (by assumption))⟩
    · generalize Utf8.encode c = rs at e1 e2 e3 ⊢
      obtain ⟨q, hq⟩ : ∃ q, rs.size - 1 = q := ⟨_, rfl⟩
      rw [hq] at e3
      refine W_loop (ι := Unit) (fun _ => [(0, .string brs), (7, .string rs), (8, .int .i64 (q : Int)), (9, .int .i64 (q : Int))]) (fun _ w' => Ext w w') (fun _ => 0) () ⟨rfl, rfl, by show some (Value.int .i64 _) = _; congr 2; omega, by show some (Value.int .i64 _) = _; congr 2; omega, trivial⟩ (by repeat first | assumption | exact Ext.rfl' | apply Ext.drew | apply Ext.alloc | refine Ext.trans ?_ (by assumption)) ?_
      rintro _ w3 hx3
      by_cases hq2 : q < 2
      · have hsq := br_get (k := q) (by omega)
        have hrest := br_rest (q := q) (x := bget rs q) (by omega) e3
        have e5 : ((q : Int) + 1).toNat = q + 1 := by omega
        have hib : ∀ w, Ctr Tryd.prog 117 [.string (brs.extract ((q : Int) + 1).toNat brs.size), .int .u8 ((bget rs q).toNat : Int)] w (fun v w' => v = .int .i64 (-1) ∧ Ext w w') := fun w =>
          str_index.mono fun v w' ⟨a1, a2⟩ => ⟨by rw [a1, toUInt8_nat, e5, hrest], a2⟩
        repeat' (first | (apply G_on; exact rfl; first | ((first | apply G1_assign | apply G1_move); exact rfl; exact rfl) | (apply G1_sindexJ (q := q) (s := brs); exact T.str9; exact rfl; exact rfl; exact rfl; omega; exact rfl) | (apply G1_sindexJ (q := q) (s := rs); exact T.str9; exact rfl; exact rfl; exact rfl; omega; exact rfl) | (apply G1_ssliceLo; exact T.str9; exact rfl; exact rfl; omega; omega; exact rfl) | (apply G1_call (f := 117); exact rfl; exact rfl; exact rfl; exact hib _; rintro _ w4 ⟨rfl, hx4⟩; refine ⟨(by first | exact .inl rfl | exact .inr (by assumption)), ?_⟩) | ((first | apply G1_lss | apply G1_neq); exact rfl; exact rfl; exact rfl) | (apply G1_slen; exact T.str9; exact rfl; exact rfl) | (apply G1_add; exact rfl; exact rfl; omega; omega; exact rfl)) | apply G_nil | apply Post_next | apply W_seq | apply W_region | apply W_scope | apply Post_scope_ret | (apply W_cond_true; exact rfl) | (apply W_cond_dec; exact rfl; all_goals (intro h; try (exfalso; omega))) | refine W_drawn 1 [] [0,1,2,3,4,5,6] mixed (by decide +kernel) ?_ | refine W_drawn 1 [] [0,1,2,3,4,5,6,7,8] mixed (by decide +kernel) ?_ | apply W_skip | apply W_ret | apply W_block | apply Post_then_ret | apply Post_block_ret)
        refine Post_ret Tryd.results101 ⟨_, _, rfl, rfl, rfl⟩ ?_
        exact ⟨rfl, (by repeat first | assumption | exact Ext.rfl' | apply Ext.drew | apply Ext.alloc | refine Ext.trans ?_ (by assumption))⟩
      · repeat' (first | (apply G_on; exact rfl; first | ((first | apply G1_assign | apply G1_move); exact rfl; exact rfl) | (apply G1_lss; exact rfl; exact rfl; exact rfl) | (apply G1_slen; exact T.str9; exact rfl; exact rfl)) | apply G_nil | apply Post_next | apply W_seq | apply W_region | apply Post_scope_ret | (apply W_cond_dec; exact rfl; all_goals (intro h; try (exfalso; omega))) | apply W_exit | apply W_ret | apply Post_then_ret | apply Post_block_ret | apply Post_then_exit | apply Post_block_exit)
        all_goals try (exfalso; omega)
        refine Post_ret Tryd.results101 ⟨_, _, rfl, rfl, rfl⟩ ?_
        exact ⟨rfl, (by repeat first | assumption | exact Ext.rfl' | apply Ext.drew | apply Ext.alloc | refine Ext.trans ?_ (by assumption))⟩
theorem rune_lo {c : UInt8} {ci : Int} {w : World} (hci : ci = (c.toNat : Int)) (h1 : c.toNat < 128) : Ctr Tryd.prog 101 [.string brs, .int .i32 ci] w (fun v w' => v = .int .i64 (firstIdx brs c) ∧ Ext w w') := by
  have hib : ∀ w, Ctr Tryd.prog 117 [.string brs, .int .u8 ci] w (fun v w' => v = .int .i64 (firstIdx brs c) ∧ Ext w w') := fun w =>
    str_index.mono fun v w' ⟨a1, a2⟩ => ⟨by rw [a1, hci, toUInt8_nat], a2⟩
  refine Ctr_of Tryd.func101 Tryd.ntmps101 rfl rfl rfl ?_
  repeat' (first | (apply G_on; exact rfl; first | ((first | apply G1_assign | apply G1_move); exact rfl; exact rfl) | (apply G1_convu8; exact rfl; exact T.i21; exact T.i5; omega; omega; exact rfl) | (apply G1_call (f := 117); exact rfl; exact rfl; exact rfl; exact hib _; rintro _ w4 ⟨rfl, hx4⟩; refine ⟨(by first | exact .inl rfl | exact .inr (by assumption)), ?_⟩) | ((first | apply G1_leq | apply G1_lss); exact rfl; exact rfl; exact rfl) | (apply G1_pick_t; exact rfl; exact rfl; exact rfl)) | apply G_nil | apply Post_next | apply W_seq | apply W_region | (apply W_cond_dec; exact rfl; all_goals (intro h; try (exfalso; omega))) | ((fail_if_success (apply G_on; exact rfl)); apply G_split_dec; exact rfl; exact rfl; all_goals (intro h; try (exfalso; omega))) | apply W_ret | apply W_block | apply Post_block_ret)
  all_goals try (exfalso; omega)
  refine Post_ret Tryd.results101 ⟨_, _, rfl, rfl, rfl⟩ ?_
  exact ⟨rfl, (by repeat first | assumption | exact Ext.rfl' | apply Ext.drew | apply Ext.alloc | refine Ext.trans ?_ (by assumption))⟩
def hasBr (l : List UInt8) : Bool := l.any isBr
theorem br_lo {c : UInt8} (h : isBr c = true) : c.toNat < 128 := by
  have key : ∀ n : Fin 256, isBr (UInt8.ofNat n.val) = true → n.val < 128 := by decide +kernel
  exact key ⟨c.toNat, c.toNat_lt⟩ (by rw [UInt8.ofNat_toNat]; exact h)
theorem hasBr_ext {s : ByteArray} {m m' : Nat} (h0 : hasBr (s.data.toList.take m) = false) (hm : m ≤ m') (hno : ∀ j, m ≤ j → j < m' → isBr (bget s j) = false) (hs : m' ≤ s.size) : hasBr (s.data.toList.take m') = false := by
  have key : ∀ d, m + d ≤ m' → hasBr (s.data.toList.take (m + d)) = false := by
    intro d
    induction d with
    | zero => intro _; exact h0
    | succ d ih =>
      intro hd
      have h1 := ih (by omega)
      have h2 := list_bget (s := s) (k := m + d) (by omega)
      rw [show m + (d + 1) = (m + d) + 1 by omega, List.take_add_one, h2]
      unfold hasBr at h1 ⊢
      rw [List.any_append, h1]
      have := hno (m + d) (by omega) (by omega)
      simp [this]
  have := key (m' - m) (by omega)
  rwa [show m + (m' - m) = m' by omega] at this
theorem hasBr_yes {s : ByteArray} {m : Nat} (hm : m < s.size) (h : isBr (bget s m) = true) : hasBr s.data.toList = true := by
  unfold hasBr
  exact List.any_eq_true.2 ⟨bget s m, List.mem_of_getElem? (list_bget hm), h⟩
theorem any_short {s : ByteArray} {w : World} (hs : s.size ≤ 8) : Ctr Tryd.prog 89 [.string s, .string brs] w (fun v w' => ∃ r, v = .int .i64 r ∧ decide (0 ≤ r) = hasBr s.data.toList ∧ Ext w w') := by
  have hsl : s.data.toList.length = s.size := by rw [Array.length_toList]; rfl
  have hse : ¬ brs = ⟨#[]⟩ := by decide
  have hss := br_size
  have hsu : ∀ w, Ctr Tryd.prog 102 [.int .i64 (s.size : Int)] w (fun v w' => v = .bool false ∧ Ext w w') := fun w => by
    refine Ctr_of Tryd.func102 Tryd.ntmps102 rfl rfl rfl ?_
    repeat' (first | (apply G_on; exact rfl; first | ((first | apply G1_assign | apply G1_move); exact rfl; exact rfl) | (apply G1_gtr; exact rfl; exact rfl; exact rfl)) | apply G_nil | apply Post_next | apply W_seq | apply W_region | apply W_ret)
    refine Post_ret Tryd.results102 ⟨_, _, rfl, rfl, rfl⟩ ?_
    exact ⟨by show Value.bool (decide _) = _; congr 1; exact decide_eq_false (by omega), (by repeat first | assumption | exact Ext.rfl' | apply Ext.drew | apply Ext.alloc | refine Ext.trans ?_ (by assumption))⟩
  refine Ctr_of Tryd.func89 Tryd.ntmps89 rfl rfl rfl ?_
  repeat' (first | (apply G_on; exact rfl; first | ((first | apply G1_assign | apply G1_move); exact rfl; exact rfl) | (apply G1_call (f := 102); exact rfl; exact rfl; exact rfl; exact hsu _; rintro _ w1 ⟨rfl, hx1⟩; refine ⟨(by first | exact .inl rfl | exact .inr (by assumption)), ?_⟩) | (apply G1_seql; exact rfl; exact rfl; exact rfl) | (apply G1_slen; exact T.str9; exact rfl; exact rfl) | (apply G1_eql; exact rfl; exact rfl; exact rfl)) | apply G_nil | apply Post_next | apply W_seq | apply W_region | (apply W_cond_false; exact rfl) | apply W_skip)
  apply G_on; exact rfl
  apply G1_rangeS; exact T.str9; exact rfl; exact rfl; exact rfl
  intro w2 hi2 hx2 hz2
  replace hx2 : Ext w w2 := hx1.trans hx2
  have hz1 := hx1.size
  obtain ⟨kb, hkb⟩ : ∃ k, w1.heap.size = k := ⟨_, rfl⟩
  rw [hkb] at hi2 hz1 ⊢
  repeat' (first | apply G_nil | apply Post_next | apply W_block)
  refine W_loop (ι := Nat) (fun m => [(1, .string brs), (45, .pointer (some ⟨kb, 0, none⟩))]) (fun m w' => Ext w w' ∧ Itr w' kb s m ∧ m ≤ s.size ∧ hasBr (s.data.toList.take m) = false) (fun m => s.size - m) 0 ⟨rfl, rfl, trivial⟩ ⟨hx2, hi2, Nat.zero_le _, rfl⟩ ?_
  rintro m w3 ⟨hx3, hi3, hm, hno⟩
  by_cases hlt : m < s.size
  · obtain ⟨v, hv⟩ : ∃ v, Utf8.decode s m = v := ⟨_, rfl⟩
    by_cases hb : (bget s m).toNat < 128
    · have hd : v = ((bget s m).toNat, 1) := by rw [← hv, decode_ascii s m hlt (by rw [← bget_idx hlt]; exact hb), bget_idx hlt]
      obtain ⟨ci, hci⟩ : ∃ ci : Int, ci = ((bget s m).toNat : Int) := ⟨_, rfl⟩
      have hsg := br_idx (bget s m)
      repeat' (first | apply W_seq | apply W_region)
      apply G_on; exact rfl
      apply G1_nextS (s := s) (m := m); exact rfl; exact hi3; exact hlt; exact hv; exact rfl; exact rfl; exact rfl
      intro w4 hi4 hg4 hz4
      have hx4 : Ext w w4 := hx3.own hg4 (fun k hk => by injection hk with hk; omega)
      rw [hd] at hi4 ⊢
      simp only at hi4 ⊢
      rw [← hci]
      repeat' (first | (apply G_on; exact rfl; first | ((first | apply G1_assign | apply G1_move); exact rfl; exact rfl) | (apply G1_call (f := 101); exact rfl; exact rfl; exact rfl; exact rune_lo hci hb; rintro _ w5 ⟨rfl, hx5⟩; refine ⟨(by first | exact .inl rfl | exact .inr (by assumption)), ?_⟩) | ((first | apply G1_geq | apply G1_extract); exact rfl; exact rfl; exact rfl)) | apply G_nil | apply Post_next | apply W_seq | apply W_region | (apply W_cond_true; exact rfl) | (apply W_cond_dec; exact rfl; all_goals (intro h; try (exfalso; omega))) | apply W_skip | apply W_ret | apply W_block | apply Post_then_ret | apply Post_block_ret | apply Post_block_normal)
      · refine Post_ret Tryd.results89 ⟨_, _, rfl, rfl, rfl⟩ ?_
        refine ⟨m, rfl, ?_, (by repeat first | assumption | exact Ext.rfl' | apply Ext.drew | apply Ext.alloc | refine Ext.trans ?_ (by assumption))⟩
        rw [hasBr_yes hlt (by rw [← hsg]; exact decide_eq_true h)]
        exact decide_eq_true (by omega)
      · have hns : isBr (bget s m) = false := by rw [← hsg]; exact decide_eq_false h
        exact Post_round (m + 1) ⟨rfl, rfl, trivial⟩ ⟨(by repeat first | assumption | exact Ext.rfl' | apply Ext.drew | apply Ext.alloc | refine Ext.trans ?_ (by assumption)), hi4.ext (by assumption), by omega, hasBr_ext hno (by omega) (fun j h1 h2 => by rw [show j = m by omega]; exact hns) (by omega)⟩ (by omega)
    · obtain ⟨d1, d2, d3, d4, d5⟩ := decode_skip s m hlt (by omega)
      rw [hv] at d1 d2 d3 d4 d5
      obtain ⟨ci, hci⟩ : ∃ ci : Int, ci = (v.1 : Int) := ⟨_, rfl⟩
      repeat' (first | apply W_seq | apply W_region)
      apply G_on; exact rfl
      apply G1_nextS (s := s) (m := m); exact rfl; exact hi3; exact hlt; exact hv; exact rfl; exact rfl; exact rfl
      intro w4 hi4 hg4 hz4
      have hx4 : Ext w w4 := hx3.own hg4 (fun k hk => by injection hk with hk; omega)
      rw [← hci]
      repeat' (first | (apply G_on; exact rfl; first | ((first | apply G1_assign | apply G1_move); exact rfl; exact rfl) | (apply G1_call (f := 101); exact rfl; exact rfl; exact rfl; exact rune_hi (c := ci) (by omega) (by omega); rintro _ w5 ⟨rfl, hx5⟩; refine ⟨(by first | exact .inl rfl | exact .inr (by assumption)), ?_⟩) | ((first | apply G1_geq | apply G1_extract); exact rfl; exact rfl; exact rfl)) | apply G_nil | apply Post_next | apply W_seq | apply W_region | (apply W_cond_true; exact rfl) | (apply W_cond_false; exact rfl) | apply W_skip | apply W_block | apply Post_block_normal)
      exact Post_round (m + v.2) ⟨rfl, rfl, trivial⟩ ⟨(by repeat first | assumption | exact Ext.rfl' | apply Ext.drew | apply Ext.alloc | refine Ext.trans ?_ (by assumption)), hi4.ext (by assumption), d4, hasBr_ext hno (by omega) (fun j h1 h2 => by
        cases hc : isBr (bget s j) with
        | false => rfl
        | true => have h6 := br_lo hc; have h7 := d5 j h1 h2; omega) d4⟩ (by omega)
  · obtain rfl : m = s.size := by omega
    rw [List.take_of_length_le (by omega)] at hno
    repeat' (first | apply W_seq | apply W_region)
    apply G_on; exact rfl
    apply G1_nextE (s := s) (m := s.size); exact rfl; exact hi3; omega; exact rfl; exact rfl; exact rfl
    repeat' (first | (apply G_on; exact rfl; first | (apply G1_assign; exact rfl; exact rfl) | (apply G1_extract; exact rfl; exact rfl; exact rfl)) | apply G_nil | apply Post_next | apply W_seq | apply W_region | (apply W_cond_false; exact rfl) | apply W_exit | apply W_ret | apply Post_then_exit | apply Post_block_exit)
    refine Post_ret Tryd.results89 ⟨_, _, rfl, rfl, rfl⟩ ?_
    exact ⟨-1, rfl, by rw [hno]; rfl, (by repeat first | assumption | exact Ext.rfl' | apply Ext.drew | apply Ext.alloc | refine Ext.trans ?_ (by assumption))⟩
theorem any_br : ∀ l : List UInt8, decide (0 ≤ Lib.indexAny l brs.data.toList) = hasBr l
  | [] => by decide
  | b :: l => by
    have ih := any_br l
    have hc : brs.data.toList.contains b = isBr b := by
      show [(13 : UInt8), 10].contains b = _
      simp [isBr, Bool.or_assoc]; rfl
    have hg := Lib.indexAny_ge brs.data.toList l
    unfold Lib.indexAny
    rw [hc]
    have e : hasBr (b :: l) = (isBr b || hasBr l) := rfl
    rw [e]
    cases hb : isBr b with
    | true => simp
    | false =>
      rw [← ih]
      simp only [Bool.false_eq_true, if_false, Bool.false_or]
      by_cases h1 : Lib.indexAny l brs.data.toList = -1
      · rw [h1]; decide
      · rw [if_neg (by simpa using h1)]
        apply decide_eq_decide.2
        omega
theorem h116 : ((Tryd.prog).info? (Tryd.layIA_ren.t 116)).map (fun i => (i.zero, i.size)) = some (some (.agg (Array.replicate 256 (.bool false))), 256) := by kernel_rfl
theorem any_long {s : ByteArray} {w : World} (h8 : 8 < s.size) (hs : s.size ≤ 100000) : Ctr Tryd.prog 89 [.string s, .string brs] w (fun v w' => ∃ r, v = .int .i64 r ∧ decide (0 ≤ r) = hasBr s.data.toList ∧ Ext w w') := by
  unfold Ctr
  refine ⟨⟨Tryd.f89, Tryd.func89, by decide, rfl⟩, ?_⟩
  refine Calls.mono (Any.strings_IndexAny_long Tryd.layIA (zero_of_info h116).1 (zero_of_info h116).2 s brs w (by decide) h8 (by omega) (by decide) (fun j b hb => by
    have hlt : j < brs.size := by
      have := (List.getElem?_eq_some_iff.1 hb).1
      rw [Array.length_toList] at this; exact this
    have h2 := list_bget (s := brs) (k := j) hlt
    rw [h2] at hb
    injection hb with hb
    rw [← hb]
    exact (br_get hlt).2)) fun e w' ⟨he, hw⟩ => ⟨_, he, ⟨_, rfl, any_br _, ?_⟩⟩
  rw [hw]
  exact (Ext.alloc Ext.rfl' _).trans (Ext.alloc Ext.rfl' _)
theorem indexAny_spec {s : ByteArray} {w : World} (hs : s.size ≤ 100000) : Ctr Tryd.prog 89 [.string s, .string brs] w (fun v w' => ∃ r, v = .int .i64 r ∧ decide (0 ≤ r) = hasBr s.data.toList ∧ Ext w w') := by
  by_cases h8 : s.size ≤ 8
  · exact any_short h8
  · exact any_long (by omega) hs
theorem nobr_has (s : ByteArray) : hasBr s.data.toList = !nobr s := by
  unfold hasBr nobr
  rw [List.not_all_eq_any_not]
  congr 1
  funext b
  unfold isBr
  by_cases h1 : b = 13 <;> by_cases h2 : b = 10 <;> simp [h1, h2]
theorem containsBr {s : ByteArray} {w : World} (hs : s.size ≤ 100000) : Ctr Tryd.prog 77 [.string s, .string brs] w (fun v w' => v = .bool (!nobr s) ∧ Ext w w') := by
  refine Ctr_of Tryd.func77 Tryd.ntmps77 rfl rfl rfl ?_
  repeat' (first | (apply G_on; exact rfl; first | ((first | apply G1_assign | apply G1_move); exact rfl; exact rfl) | (apply G1_call (f := 89); exact rfl; exact rfl; exact rfl; exact indexAny_spec hs; rintro _ w1 ⟨r, rfl, hr, hx1⟩; refine ⟨(by first | exact .inl rfl | exact .inr (by assumption)), ?_⟩) | (apply G1_geq; exact rfl; exact rfl; exact rfl)) | apply G_nil | apply Post_next | apply W_seq | apply W_region | apply W_ret)
  refine Post_ret Tryd.results77 ⟨_, _, rfl, rfl, rfl⟩ ?_
  exact ⟨by rw [← nobr_has]; exact congrArg Value.bool hr, (by repeat first | assumption | exact Ext.rfl' | apply Ext.drew | apply Ext.alloc | refine Ext.trans ?_ (by assumption))⟩
end Go.Proofs.YtikjnmpijflnaaaDoor

/- Replies read out of bytes; what is written of a right one is read as it; in plain Lean. -/
namespace Go.Proofs.YtikjnmpijflnaaaDoor
open Go.V
attribute [local irreducible] Blk Own hcell IntT SliceT PlainT AggT SizeT StrT FieldT ZeroT EqT ArrT
/-- the place of the first end-of-line sign; the length, where there is none -/
def brAt : List UInt8 → Nat
  | [] => 0
  | b :: l => if isBr b = true then 0 else brAt l + 1
theorem brAt_le : ∀ l : List UInt8, brAt l ≤ l.length
  | [] => Nat.le_refl _
  | b :: l => by
    unfold brAt
    have := brAt_le l
    split
    · omega
    · simp only [List.length_cons]; omega
theorem brAt_app : ∀ (a : List UInt8) (c : UInt8) (r : List UInt8), (∀ b ∈ a, isBr b = false) → isBr c = true → brAt (a ++ c :: r) = a.length
  | [], c, r, _, hc => by simp [brAt, hc]
  | b :: a, c, r, ha, hc => by
    have h1 := ha b (by simp)
    have h2 := brAt_app a c r (fun x hx => ha x (List.mem_cons_of_mem _ hx)) hc
    simp only [List.cons_append, brAt, h1, h2, List.length_cons]
    simp
theorem brAt_no : ∀ (l : List UInt8) (k : Nat), k ≤ brAt l → ∀ b ∈ l.take k, isBr b = false
  | [], k, _, b, hb => by simp at hb
  | c :: l, 0, _, b, hb => by simp at hb
  | c :: l, k + 1, h, b, hb => by
    unfold brAt at h
    split at h
    · omega
    · rename_i hc
      rw [List.take_succ_cons] at hb
      rcases List.mem_cons.1 hb with rfl | hb
      · simpa using hc
      · exact brAt_no l k (by omega) b hb
theorem brAt_is : ∀ (l : List UInt8), brAt l < l.length → ∃ c, l[brAt l]? = some c ∧ isBr c = true
  | [], h => by simp at h
  | c :: l, h => by
    unfold brAt at h ⊢
    split
    · rename_i hc; exact ⟨c, rfl, hc⟩
    · rename_i hc
      rw [if_neg hc, List.length_cons] at h
      obtain ⟨x, h1, h2⟩ := brAt_is l (by omega)
      exact ⟨x, by simpa using h1, h2⟩
open Classical in
noncomputable def numOf (s : List UInt8) : Option Int := if h : ∃ n, IsNum (mkStr s) n then some h.choose else none
theorem isNum_inj {s : ByteArray} {m n : Int} (h : IsNum s m) (k : IsNum s n) : m = n := by
  have e := h.2.trans k.2.symm
  have e2 := congrArg (fun b : ByteArray => b.data.toList) e
  simp only [itoaB_list] at e2
  exact itoa_inj e2
theorem numOf_some {s : List UInt8} {n : Int} (h : IsNum (mkStr s) n) : numOf s = some n := by
  have hx : ∃ n, IsNum (mkStr s) n := ⟨n, h⟩
  unfold numOf
  rw [dif_pos hx]
  exact congrArg some (isNum_inj hx.choose_spec h)
theorem numOf_none {s : List UInt8} (h : ∀ n, ¬ IsNum (mkStr s) n) : numOf s = none := by
  unfold numOf
  rw [dif_neg (fun ⟨n, hn⟩ => h n hn)]
inductive Hd where
  | none
  | leaf (t : Rep) (k : Nat)
  | list (n k : Nat)
/-- what a line with the mark m and the text s says; r is behind it, k the length of it with its end -/
noncomputable def rdLine (m : UInt8) (s r : List UInt8) (k : Nat) : Hd :=
  if m = 43 then .leaf (.mk 0 (mkStr s) 0 []) k
  else if m = 45 then .leaf (.mk 1 (mkStr s) 0 []) k
  else match numOf s with
    | none => .none
    | some n =>
      if m = 58 then .leaf (.mk 2 ⟨#[]⟩ n []) k
      else if m = 36 then
        if n = -1 then .leaf (.mk 4 ⟨#[]⟩ 0 []) k
        else if 0 ≤ n ∧ n ≤ (r.length : Int) ∧ (r.drop n.toNat).take 2 = [13, 10] then .leaf (.mk 3 (mkStr (r.take n.toNat)) 0 []) (k + n.toNat + 2)
        else .none
      else if m = 42 ∧ 0 ≤ n then .list n.toNat k
      else .none
noncomputable def rdHead (bs : List UInt8) : Hd :=
  match bs.take (brAt bs) with
  | [] => .none
  | m :: s => if (bs.drop (brAt bs)).take 2 = [13, 10] then rdLine m s (bs.drop (brAt bs + 2)) (brAt bs + 2) else .none
def rdL (f : List UInt8 → Option (Rep × Nat)) : Nat → List UInt8 → Option (List Rep × Nat)
  | 0, _ => some ([], 0)
  | n + 1, bs => match f bs with
    | none => none
    | some (t, k) => match rdL f n (bs.drop k) with
      | none => none
      | some (l, j) => some (t :: l, k + j)
/-- the reply with which bytes begin, with at most so many arrays within one another, and its length -/
noncomputable def rdT : Nat → List UInt8 → Option (Rep × Nat)
  | 0, bs => match rdHead bs with
    | .leaf t k => some (t, k)
    | _ => none
  | d + 1, bs => match rdHead bs with
    | .leaf t k => some (t, k)
    | .list n k => match rdL (rdT d) n (bs.drop k) with
      | some (l, j) => some (.mk 5 ⟨#[]⟩ 0 l, k + j)
      | none => none
    | .none => none
theorem rdT_leaf {d k : Nat} {bs : List UInt8} {t : Rep} (h : rdHead bs = .leaf t k) : rdT d bs = some (t, k) := by
  cases d <;> simp [rdT, h]
theorem rdT_none {d : Nat} {bs : List UInt8} (h : rdHead bs = .none) : rdT d bs = none := by
  cases d <;> simp [rdT, h]
theorem rdT_list0 {n k : Nat} {bs : List UInt8} (h : rdHead bs = .list n k) : rdT 0 bs = none := by
  simp [rdT, h]
theorem rdT_list {d n k : Nat} {bs : List UInt8} (h : rdHead bs = .list n k) : rdT (d + 1) bs = (rdL (rdT d) n (bs.drop k)).map (fun x => (.mk 5 ⟨#[]⟩ 0 x.1, k + x.2)) := by
  simp only [rdT, h]
  cases rdL (rdT d) n (bs.drop k) with
  | none => rfl
  | some x => rfl
theorem rdHead_no {bs : List UInt8} (h : brAt bs = 0 ∨ ¬ (bs.drop (brAt bs)).take 2 = [13, 10]) : rdHead bs = .none := by
  unfold rdHead
  split
  · rfl
  · rename_i m s e
    rcases h with h | h
    · rw [h] at e; simp at e
    · rw [if_neg h]
theorem rdHead_line {bs : List UInt8} {m : UInt8} {s : List UInt8} (h1 : bs.take (brAt bs) = m :: s) (h2 : (bs.drop (brAt bs)).take 2 = [13, 10]) : rdHead bs = rdLine m s (bs.drop (brAt bs + 2)) (brAt bs + 2) := by
  unfold rdHead
  rw [h1]
  simp only
  rw [if_pos h2]
/-- a whole line -/
theorem rdHead_at {m : UInt8} {s r : List UInt8} (hm : isBr m = false) (hs : ∀ b ∈ s, isBr b = false) : rdHead ((m :: (s ++ crlf)) ++ r) = rdLine m s r (s.length + 3) := by
  have e : (m :: (s ++ crlf)) ++ r = (m :: s) ++ 13 :: (10 :: r) := by simp [crlf]
  have hb : brAt ((m :: (s ++ crlf)) ++ r) = s.length + 1 := by
    rw [e, brAt_app _ _ _ (fun b hb => by
      rcases List.mem_cons.1 hb with rfl | hb
      · exact hm
      · exact hs b hb) (by decide)]
    rfl
  have e1 : ((m :: (s ++ crlf)) ++ r).take (s.length + 1) = m :: s := by rw [e]; exact List.take_left' rfl
  have e2 : ((m :: (s ++ crlf)) ++ r).drop (s.length + 1) = 13 :: 10 :: r := by rw [e]; exact List.drop_left' rfl
  have e3 : ((m :: (s ++ crlf)) ++ r).drop (s.length + 1 + 2) = r := by rw [← List.drop_drop, e2]; rfl
  rw [rdHead_line (m := m) (s := s) (by rw [hb, e1]) (by rw [hb, e2]; rfl), hb, e3]
/-- the reply takes at least three bytes, and they are there -/
theorem brAt_two {bs : List UInt8} (h : (bs.drop (brAt bs)).take 2 = [13, 10]) : brAt bs + 2 ≤ bs.length := by
  have := congrArg List.length h
  simp at this
  omega
theorem rdHead_len {bs : List UInt8} : (∀ t k, rdHead bs = .leaf t k → 3 ≤ k ∧ k ≤ bs.length) ∧ (∀ n k, rdHead bs = .list n k → 3 ≤ k ∧ k ≤ bs.length) := by
  by_cases h0 : brAt bs = 0 ∨ ¬ (bs.drop (brAt bs)).take 2 = [13, 10]
  · rw [rdHead_no h0]
    exact ⟨fun t k h => (by cases h), fun n k h => (by cases h)⟩
  · have h1 : brAt bs ≠ 0 := fun e => h0 (.inl e)
    have h2 : (bs.drop (brAt bs)).take 2 = [13, 10] := Classical.byContradiction fun e => h0 (.inr e)
    have h3 := brAt_two h2
    obtain ⟨m, s, hms⟩ : ∃ m s, bs.take (brAt bs) = m :: s := by
      cases e : bs.take (brAt bs) with
      | nil => have := congrArg List.length e; rw [List.length_take, List.length_nil] at this; omega
      | cons m s => exact ⟨m, s, rfl⟩
    rw [rdHead_line hms h2]
    unfold rdLine
    have hl : (bs.drop (brAt bs + 2)).length = bs.length - (brAt bs + 2) := by simp
    constructor
    · intro t k h
      split at h
      · cases h; omega
      split at h
      · cases h; omega
      split at h
      · cases h
      rename_i n _
      split at h
      · cases h; omega
      split at h
      · split at h
        · cases h; omega
        · split at h
          · rename_i h5
            have h6 := congrArg List.length h5.2.2
            simp only [List.length_take, List.length_drop, List.length_cons, List.length_nil] at h6
            cases h
            omega
          · cases h
      · split at h <;> cases h
    · intro n k h
      split at h
      · cases h
      split at h
      · cases h
      split at h
      · cases h
      split at h
      · cases h
      split at h
      · split at h
        · cases h
        · split at h <;> cases h
      · split at h
        · cases h; omega
        · cases h
theorem rdL_len {f : List UInt8 → Option (Rep × Nat)} (hf : ∀ bs t k, f bs = some (t, k) → 3 ≤ k ∧ k ≤ bs.length) : ∀ (n : Nat) (bs : List UInt8) (l : List Rep) (j : Nat), rdL f n bs = some (l, j) → l.length = n ∧ 3 * n ≤ j ∧ j ≤ bs.length
  | 0, bs, l, j, h => by
    simp only [rdL, Option.some.injEq, Prod.mk.injEq] at h
    obtain ⟨rfl, rfl⟩ := h
    simp
  | n + 1, bs, l, j, h => by
    unfold rdL at h
    split at h
    · cases h
    rename_i t k e
    split at h
    · cases h
    rename_i l' j' e'
    cases h
    obtain ⟨h1, h2⟩ := hf _ _ _ e
    obtain ⟨h3, h4, h5⟩ := rdL_len hf n _ _ _ e'
    simp only [List.length_drop] at h5
    simp only [List.length_cons]
    omega
theorem rdT_len : ∀ (d : Nat) (bs : List UInt8) (t : Rep) (k : Nat), rdT d bs = some (t, k) → 3 ≤ k ∧ k ≤ bs.length
  | 0, bs, t, k, h => by
    cases e : rdHead bs with
    | none => rw [rdT_none e] at h; cases h
    | leaf t' k' => rw [rdT_leaf e] at h; cases h; exact rdHead_len.1 _ _ e
    | list n k' => rw [rdT_list0 e] at h; cases h
  | d + 1, bs, t, k, h => by
    cases e : rdHead bs with
    | none => rw [rdT_none e] at h; cases h
    | leaf t' k' => rw [rdT_leaf e] at h; cases h; exact rdHead_len.1 _ _ e
    | list n k' =>
      rw [rdT_list e] at h
      have h1 := rdHead_len.2 _ _ e
      cases e2 : rdL (rdT d) n (bs.drop k') with
      | none => rw [e2] at h; cases h
      | some x =>
        rw [e2] at h
        cases h
        have h2 := rdL_len (rdT_len d) n _ x.1 x.2 e2
        simp only [List.length_drop] at h2
        omega
theorem rdL_snoc {f : List UInt8 → Option (Rep × Nat)} : ∀ (n : Nat) (bs : List UInt8), rdL f (n + 1) bs = (rdL f n bs).bind (fun x => (f (bs.drop x.2)).map (fun y => (x.1 ++ [y.1], x.2 + y.2)))
  | 0, bs => by
    simp only [rdL, Option.bind_some, List.drop_zero, List.nil_append]
    cases f bs with
    | none => rfl
    | some y => simp
  | n + 1, bs => by
    unfold rdL
    cases e : f bs with
    | none => rfl
    | some y =>
      obtain ⟨t, k⟩ := y
      simp only
      rw [rdL_snoc n (bs.drop k)]
      cases e2 : rdL f n (bs.drop k) with
      | none => rfl
      | some x =>
        obtain ⟨l, j⟩ := x
        simp only [Option.bind_some, List.drop_drop]
        cases e3 : f (bs.drop (k + j)) with
        | none => rfl
        | some z => simp [Nat.add_assoc]
/-- once none, always none -/
theorem rdL_stop {f : List UInt8 → Option (Rep × Nat)} {bs : List UInt8} : ∀ {n m : Nat}, n ≤ m → rdL f n bs = none → rdL f m bs = none := by
  intro n m h
  induction h with
  | refl => exact id
  | step _ ih => intro h0; rw [rdL_snoc, ih h0]; rfl
end Go.Proofs.YtikjnmpijflnaaaDoor

/- What is written of a right reply is read as it; in plain Lean. -/
namespace Go.Proofs.YtikjnmpijflnaaaDoor
open Go.V
attribute [local irreducible] Blk Own hcell IntT SliceT PlainT AggT SizeT StrT FieldT ZeroT EqT ArrT
def fitsT : Nat → Rep → Prop
  | 0, t => fit64 t.n ∧ t.s.size ≤ 9223372036854775807 ∧ t.l.length ≤ 9223372036854775807
  | d + 1, t => (fit64 t.n ∧ t.s.size ≤ 9223372036854775807 ∧ t.l.length ≤ 9223372036854775807) ∧ ∀ x ∈ t.l, fitsT d x
theorem fitsT.one {d : Nat} {t : Rep} (h : fitsT d t) : fit64 t.n ∧ t.s.size ≤ 9223372036854775807 ∧ t.l.length ≤ 9223372036854775807 := by
  cases d with
  | zero => exact h
  | succ d => exact h.1
theorem fits_of {H : Array Obj} : ∀ (e : Nat) {r : RawR} {t : Rep}, RepAt H e r t → ∀ d, fitsT d t
  | 0, _, _, h, _ => h.elim
  | e + 1, r, t, h, d => by
    obtain ⟨e', rs, he, hk, hs, hn, hl, hsz, hfit, hL⟩ := h.open
    obtain rfl : e = e' := by omega
    have h1 := hL.sl.bound
    have h2 := hL.len
    have h0 : fit64 t.n ∧ t.s.size ≤ 9223372036854775807 ∧ t.l.length ≤ 9223372036854775807 := ⟨hfit, by simp only [maxLen] at hsz; omega, by omega⟩
    cases d with
    | zero => exact h0
    | succ d =>
      refine ⟨h0, fun x hx => ?_⟩
      obtain ⟨i, hi⟩ := List.getElem?_of_mem hx
      obtain ⟨r', hr'⟩ := get_some (xs := rs) (k := i) (by rw [h2]; exact get_lt hi)
      exact fits_of e (hL.get i r' x hr' hi) d
theorem mkStr_list (s : ByteArray) : mkStr s.data.toList = s := by
  cases s with | mk a => simp [mkStr]
theorem itoa_nobr (n : Int) : ∀ b ∈ Lib.itoa n, isBr b = false := by
  intro b hb
  unfold isBr
  unfold Lib.itoa at hb
  have key : 48 ≤ b.toNat ∨ b = 45 → (b == 13 || b == 10) = false := by
    intro h
    have h1 : b ≠ 13 := by rintro rfl; revert h; decide
    have h2 : b ≠ 10 := by rintro rfl; revert h; decide
    simp [h1, h2]
  split at hb
  · rcases List.mem_cons.1 hb with rfl | hb
    · exact key (.inr rfl)
    · exact key (.inl (dec_ge _ _ hb))
  · exact key (.inl (dec_ge _ _ hb))
theorem num_itoa {n : Int} (h : fit64 n) : numOf (Lib.itoa n) = some n := by
  refine numOf_some ⟨h, ?_⟩
  show (⟨(Lib.itoa n).toArray⟩ : ByteArray) = mkStr _
  unfold mkStr
  rfl
theorem nobr_isBr {s : ByteArray} (h : nobr s = true) : ∀ b ∈ s.data.toList, isBr b = false := by
  intro b hb
  have := List.all_eq_true.1 h b hb
  simp only [Bool.and_eq_true, decide_eq_true_eq] at this
  unfold isBr
  simp [this.1, this.2]
theorem fit_nat {k : Nat} (h : k ≤ 9223372036854775807) : fit64 (k : Int) := by
  unfold fit64
  omega
theorem rdHead_w {t : Rep} (ht : Leaf t) (hf : fit64 t.n ∧ t.s.size ≤ 9223372036854775807 ∧ t.l.length ≤ 9223372036854775807) (r : List UInt8) :
    rdHead (wHead t ++ r) = if t.kind = 5 then .list t.l.length (wHead t).length else .leaf t (wHead t).length := by
  have t1 := ht.lo
  have t2 := ht.hi
  rcases (show t.kind = 0 ∨ t.kind = 1 ∨ t.kind = 2 ∨ t.kind = 3 ∨ t.kind = 4 ∨ t.kind = 5 by omega) with h | h | h | h | h | h
  · have e : wHead t = 43 :: (t.s.data.toList ++ crlf) := by simp [wHead, h]
    rw [e, rdHead_at (by decide) (nobr_isBr (ht.line (.inl h))), if_neg (by omega)]
    unfold rdLine
    rw [if_pos rfl]
    congr 1
    · exact Rep.ext' h.symm (mkStr_list _) (ht.num (by omega)).symm (ht.list (by omega)).symm
    · simp [crlf]
  · have e : wHead t = 45 :: (t.s.data.toList ++ crlf) := by simp [wHead, h]
    rw [e, rdHead_at (by decide) (nobr_isBr (ht.line (.inr h))), if_neg (by omega)]
    unfold rdLine
    rw [if_neg (by decide), if_pos rfl]
    congr 1
    · exact Rep.ext' h.symm (mkStr_list _) (ht.num (by omega)).symm (ht.list (by omega)).symm
    · simp [crlf]
  · have e : wHead t = 58 :: (Lib.itoa t.n ++ crlf) := by simp [wHead, h]
    rw [e, rdHead_at (by decide) (itoa_nobr _), if_neg (by omega)]
    unfold rdLine
    rw [if_neg (by decide), if_neg (by decide), num_itoa hf.1]
    simp only
    rw [if_pos trivial]
    congr 1
    · exact Rep.ext' h.symm (ht.text (.inl h)).symm rfl (ht.list (by omega)).symm
    · simp [crlf]
  · have e : wHead t ++ r = (36 :: (Lib.itoa t.s.size ++ crlf)) ++ (t.s.data.toList ++ (crlf ++ r)) := by simp [wHead, h]
    have el : (wHead t).length = (Lib.itoa t.s.size).length + 3 + t.s.size + 2 := by
      simp [wHead, h, crlf]
      omega
    rw [e, el, rdHead_at (by decide) (itoa_nobr _), if_neg (by omega)]
    unfold rdLine
    rw [if_neg (by decide), if_neg (by decide), num_itoa (fit_nat hf.2.1)]
    simp only
    have hl : t.s.data.toList.length = t.s.size := by rw [Array.length_toList]; rfl
    have e2 : (t.s.data.toList ++ (crlf ++ r)).drop ((t.s.size : Int)).toNat = crlf ++ r := by rw [Int.toNat_natCast]; exact List.drop_left' hl
    have e3 : (t.s.data.toList ++ (crlf ++ r)).take ((t.s.size : Int)).toNat = t.s.data.toList := by rw [Int.toNat_natCast]; exact List.take_left' hl
    rw [if_neg (by decide), if_pos trivial, if_neg (by omega), if_pos ⟨by omega, by simp only [List.length_append, hl]; push_cast; omega, by rw [e2]; rfl⟩, e3, Int.toNat_natCast]
    congr 1
    exact Rep.ext' h.symm (mkStr_list _) (ht.num (by omega)).symm (ht.list (by omega)).symm
  · have e : wHead t = 36 :: (Lib.itoa (-1) ++ crlf) := by
      have e : Lib.itoa (-1) = [45, 49] := (by decide +kernel)
      rw [e]; simp [wHead, h]
    rw [e, rdHead_at (by decide) (itoa_nobr _), if_neg (by omega)]
    unfold rdLine
    rw [if_neg (by decide), if_neg (by decide), num_itoa (by unfold fit64; omega)]
    simp only
    rw [if_neg (by decide), if_pos trivial, if_pos trivial]
    congr 1
    · exact Rep.ext' h.symm (ht.text (.inr (.inl h))).symm (ht.num (by omega)).symm (ht.list (by omega)).symm
    · simp [crlf]
  · have e : wHead t = 42 :: (Lib.itoa t.l.length ++ crlf) := by simp [wHead, h]
    rw [e, rdHead_at (by decide) (itoa_nobr _), if_pos h]
    unfold rdLine
    rw [if_neg (by decide), if_neg (by decide), num_itoa (fit_nat hf.2.2)]
    simp only
    rw [if_neg (by decide), if_neg (by decide), if_pos ⟨trivial, by omega⟩]
    congr 1
    simp [crlf]
theorem rdL_w {f : List UInt8 → Option (Rep × Nat)} {g : Rep → List UInt8} : ∀ (l : List Rep), (∀ x ∈ l, ∀ r, f (g x ++ r) = some (x, (g x).length)) → ∀ r, rdL f l.length (l.flatMap g ++ r) = some (l, (l.flatMap g).length)
  | [], _, r => rfl
  | x :: l, h, r => by
    have e : (x :: l).flatMap g ++ r = g x ++ (l.flatMap g ++ r) := by simp
    rw [e]
    simp only [List.length_cons, rdL]
    rw [h x (by simp)]
    simp only
    rw [List.drop_left' rfl, rdL_w l (fun y hy => h y (List.mem_cons_of_mem _ hy)) r]
    simp
theorem rdT_w : ∀ (d : Nat) (t : Rep), rightT d t = true → fitsT d t → ∀ r, rdT d (wT d t ++ r) = some (t, (wT d t).length)
  | 0, t, ht, hf, r => by
    have h := rdHead_w (right_leaf ht) hf.one r
    simp only [rightT, Bool.and_eq_true, decide_eq_true_eq] at ht
    rw [if_neg ht.2] at h
    unfold wT
    exact rdT_leaf h
  | d + 1, t, ht, hf, r => by
    have hlf := right_leaf ht
    simp only [rightT, Bool.and_eq_true] at ht
    have e : wT (d + 1) t = wHead t ++ (if t.kind = 5 then t.l.flatMap (wT d) else []) := rfl
    rw [e, List.append_assoc]
    have h := rdHead_w hlf hf.one ((if t.kind = 5 then t.l.flatMap (wT d) else []) ++ r)
    by_cases hk : t.kind = 5
    · rw [if_pos hk, if_pos hk] at h
      rw [if_pos hk]
      rw [rdT_list h, List.drop_left' rfl, rdL_w t.l (fun x hx r => rdT_w d x (List.all_eq_true.1 ht.2 x hx) (hf.2 x hx) r)]
      simp only [Option.map_some, List.length_append]
      congr 2
      exact Rep.ext' hk.symm (hlf.text (.inr (.inr hk))).symm (hlf.num (by omega)).symm rfl
    · rw [if_neg hk, if_neg hk] at h
      rw [if_neg hk]
      rw [rdT_leaf h]
      simp
end Go.Proofs.YtikjnmpijflnaaaDoor

/- Requests: lines, numbers, words; how a reader goes on step by step, and the document's answer over all bytes; in plain Lean. -/
namespace Go.Proofs.YtikjnmpijflnaaaDoor
open Go.V
attribute [local irreducible] Blk Own hcell IntT SliceT PlainT AggT SizeT StrT FieldT ZeroT EqT ArrT
inductive LineR where
  | more
  | err (e : Int)
  | ok (s : List UInt8) (k : Nat)
/-- the place of the first 10; the length, where there is none -/
def nlAt : List UInt8 → Nat
  | [] => 0
  | b :: l => if b = 10 then 0 else nlAt l + 1
theorem nlAt_le : ∀ l : List UInt8, nlAt l ≤ l.length
  | [] => Nat.le_refl _
  | b :: l => by
    unfold nlAt
    have := nlAt_le l
    split
    · omega
    · simp only [List.length_cons]; omega
theorem nlAt_app : ∀ {l : List UInt8} (m : List UInt8), nlAt l < l.length → nlAt (l ++ m) = nlAt l
  | [], m, h => by simp at h
  | b :: l, m, h => by
    rw [List.cons_append]
    unfold nlAt at h ⊢
    split
    · rfl
    · rename_i hb
      rw [if_neg hb] at h
      simp only [List.length_cons] at h
      rw [nlAt_app m (by omega)]
theorem nlAt_ge : ∀ {l : List UInt8} (m : List UInt8), nlAt l = l.length → l.length ≤ nlAt (l ++ m)
  | [], m, _ => Nat.zero_le _
  | b :: l, m, h => by
    rw [List.cons_append]
    unfold nlAt at h ⊢
    split
    · rename_i hb; rw [if_pos hb] at h; simp at h
    · rename_i hb
      rw [if_neg hb] at h
      simp only [List.length_cons] at h ⊢
      have := nlAt_ge m (l := l) (by omega)
      omega
theorem nlAt_is : ∀ {l : List UInt8}, nlAt l < l.length → l[nlAt l]? = some 10
  | [], h => by simp at h
  | b :: l, h => by
    unfold nlAt at h ⊢
    split
    · rename_i hb; rw [hb]; rfl
    · rename_i hb
      rw [if_neg hb, List.length_cons] at h
      simpa using nlAt_is (l := l) (by omega)
theorem nlAt_no : ∀ {l : List UInt8} {k : Nat}, k < nlAt l → l[k]? ≠ some 10
  | [], k, h => by simp [nlAt] at h
  | b :: l, k, h => by
    unfold nlAt at h
    split at h
    · omega
    · rename_i hb
      cases k with
      | zero => intro e; simp at e; exact hb e
      | succ k => simpa using nlAt_no (l := l) (k := k) (by omega)
theorem nlAt_first {l : List UInt8} {k : Nat} (h : l[k]? = some 10) (hn : ∀ j, j < k → l[j]? ≠ some 10) : nlAt l = k := by
  rcases Nat.lt_trichotomy (nlAt l) k with h1 | h1 | h1
  · exact absurd (nlAt_is (by have := get_lt h; omega)) (hn _ h1)
  · exact h1
  · exact absurd h (nlAt_no h1)
/-- the line with which bytes begin -/
def lineP (cs : List UInt8) : LineR :=
  if nlAt cs < cs.length ∧ nlAt cs < 1026 then
    if nlAt cs = 0 ∨ cs.getD (nlAt cs - 1) 0 ≠ 13 then .err 10 else .ok (cs.take (nlAt cs - 1)) (nlAt cs + 1)
  else if cs.length < 1026 then .more else .err 12
noncomputable def numP (s : List UInt8) (sign : UInt8) (least most : Int) : Except Int Int :=
  match s with
  | [] => .error 10
  | c :: t => if c = sign then match numOf t with
      | none => .error 10
      | some n => if n < least then .error 10 else if most < n then .error 12 else .ok n
    else .error 10
/-- words between spaces; the first one has begun -/
def cutG : List UInt8 → List UInt8 → List (List UInt8)
  | w, [] => if w = [] then [] else [w]
  | w, c :: l => if c = 32 then (if w = [] then cutG [] l else w :: cutG [] l) else cutG (w ++ [c]) l
structure RS where
  left : Nat
  size : Int
  words : List ByteArray
  held : Nat
def rs0 : RS := ⟨0, -1, [], 0⟩
inductive Stp where
  | stop
  | fault (e : Int)
  | go (s : RS) (k : Nat) (out : List (List ByteArray))
noncomputable def stepP (r : RS) (cs : List UInt8) : Stp :=
  if r.left = 0 then
    match lineP cs with
    | .more => .stop
    | .err e => .fault e
    | .ok s k =>
      if s.head? = some 42 then
        match numP s 42 1 128 with
        | .error e => .fault e
        | .ok n => .go ⟨n.toNat, -1, [], k⟩ k []
      else if 128 < (cutG [] s).length then .fault 12
      else .go rs0 k (if cutG [] s = [] then [] else [(cutG [] s).map mkStr])
  else if r.size < 0 then
    match lineP cs with
    | .more => .stop
    | .err e => .fault e
    | .ok s k =>
      match numP s 36 0 4096 with
      | .error e => .fault e
      | .ok n => .go { r with size := n, held := r.held + k } k []
  else if cs.length < r.size.toNat + 2 then .stop
  else if (cs.drop r.size.toNat).take 2 = [13, 10] then
    if r.left = 1 then .go rs0 (r.size.toNat + 2) [r.words ++ [mkStr (cs.take r.size.toNat)]]
    else .go ⟨r.left - 1, -1, r.words ++ [mkStr (cs.take r.size.toNat)], r.held + (r.size.toNat + 2)⟩ (r.size.toNat + 2) []
  else .fault 10
theorem line_ok {cs s : List UInt8} {k : Nat} (h : lineP cs = .ok s k) : nlAt cs < cs.length ∧ nlAt cs < 1026 ∧ nlAt cs ≠ 0 ∧ cs.getD (nlAt cs - 1) 0 = 13 ∧ s = cs.take (nlAt cs - 1) ∧ k = nlAt cs + 1 := by
  unfold lineP at h
  split at h
  · rename_i h1
    split at h
    · cases h
    · rename_i h2
      have h3 : nlAt cs ≠ 0 := fun e => h2 (.inl e)
      have h4 : cs.getD (nlAt cs - 1) 0 = 13 := Classical.byContradiction fun e => h2 (.inr e)
      cases h
      exact ⟨h1.1, h1.2, h3, h4, rfl, rfl⟩
  · split at h <;> cases h
theorem line_len {cs s : List UInt8} {k : Nat} (h : lineP cs = .ok s k) : k = s.length + 2 ∧ k ≤ cs.length := by
  obtain ⟨h1, h2, h3, h4, rfl, rfl⟩ := line_ok h
  rw [List.length_take]
  omega
theorem line_err {cs : List UInt8} {e : Int} (h : lineP cs = .err e) : e = 10 ∨ e = 12 := by
  unfold lineP at h
  split at h
  · split at h
    · cases h; exact .inl rfl
    · cases h
  · split at h
    · cases h
    · cases h; exact .inr rfl
theorem num_err {s : List UInt8} {c : UInt8} {a b e : Int} (h : numP s c a b = .error e) : e = 10 ∨ e = 12 := by
  unfold numP at h
  split at h
  · cases h; exact .inl rfl
  · split at h
    · split at h
      · cases h; exact .inl rfl
      · split at h
        · cases h; exact .inl rfl
        · split at h
          · cases h; exact .inr rfl
          · cases h
    · cases h; exact .inl rfl
theorem num_ok {s : List UInt8} {c : UInt8} {a b n : Int} (h : numP s c a b = .ok n) : a ≤ n ∧ n ≤ b := by
  unfold numP at h
  split at h
  · cases h
  · split at h
    · split at h
      · cases h
      · split at h
        · cases h
        · split at h
          · cases h
          · cases h; omega
    · cases h
theorem step_go {r r' : RS} {cs : List UInt8} {k : Nat} {out : List (List ByteArray)} (h : stepP r cs = .go r' k out) : 2 ≤ k ∧ k ≤ cs.length := by
  unfold stepP at h
  split at h
  · split at h
    · cases h
    · cases h
    · rename_i s k' hl
      have h1 := line_len hl
      split at h
      · split at h
        · cases h
        · cases h; omega
      · split at h
        · cases h
        · cases h; omega
  split at h
  · split at h
    · cases h
    · cases h
    · rename_i s k' hl
      have h1 := line_len hl
      split at h
      · cases h
      · cases h; omega
  split at h
  · cases h
  split at h
  · split at h <;> (cases h; omega)
  · cases h
theorem step_fault {r : RS} {cs : List UInt8} {e : Int} (h : stepP r cs = .fault e) : e = 10 ∨ e = 12 := by
  unfold stepP at h
  split at h
  · split at h
    · cases h
    · rename_i e' hl; cases h; exact line_err hl
    · split at h
      · split at h
        · rename_i hn; cases h; exact num_err hn
        · cases h
      · split at h
        · cases h; exact .inr rfl
        · cases h
  split at h
  · split at h
    · cases h
    · rename_i e' hl; cases h; exact line_err hl
    · split at h
      · rename_i hn; cases h; exact num_err hn
      · cases h
  split at h
  · cases h
  split at h
  · split at h <;> cases h
  · cases h; exact .inl rfl
structure Res where
  out : List (List ByteArray)
  st : RS
  rest : List UInt8
  err : Int
noncomputable def runN : Nat → RS → List UInt8 → Res
  | 0, r, cs => ⟨[], r, cs, 0⟩
  | n + 1, r, cs => match stepP r cs with
    | .stop => ⟨[], r, cs, 0⟩
    | .fault e => ⟨[], r, cs, e⟩
    | .go r' k out => { runN n r' (cs.drop k) with out := out ++ (runN n r' (cs.drop k)).out }
/-- all that can be done with bytes -/
noncomputable def runP (r : RS) (cs : List UInt8) : Res := runN (cs.length + 1) r cs
theorem runN_fuel : ∀ (n m : Nat) (r : RS) (cs : List UInt8), cs.length < n → cs.length < m → runN n r cs = runN m r cs
  | 0, _, _, _, h, _ => by omega
  | _ + 1, 0, _, _, _, h => by omega
  | n + 1, m + 1, r, cs, h1, h2 => by
    unfold runN
    cases h : stepP r cs with
    | stop => rfl
    | fault e => rfl
    | go r' k out =>
      have hk := step_go h
      simp only
      rw [runN_fuel n m r' (cs.drop k) (by rw [List.length_drop]; omega) (by rw [List.length_drop]; omega)]
theorem run_stop {r : RS} {cs : List UInt8} (h : stepP r cs = .stop) : runP r cs = ⟨[], r, cs, 0⟩ := by
  unfold runP runN; rw [h]
theorem run_fault {r : RS} {cs : List UInt8} {e : Int} (h : stepP r cs = .fault e) : runP r cs = ⟨[], r, cs, e⟩ := by
  unfold runP runN; rw [h]
theorem run_go {r r' : RS} {cs : List UInt8} {k : Nat} {out : List (List ByteArray)} (h : stepP r cs = .go r' k out) : runP r cs = { runP r' (cs.drop k) with out := out ++ (runP r' (cs.drop k)).out } := by
  have hk := step_go h
  have e : runN cs.length r' (cs.drop k) = runP r' (cs.drop k) := runN_fuel _ _ _ _ (by rw [List.length_drop]; omega) (by omega)
  conv => lhs; unfold runP runN
  rw [h]
  simp only
  rw [e]
theorem run_app {r r' : RS} {cs : List UInt8} {k : Nat} {out o : List (List ByteArray)} (h : stepP r cs = .go r' k out) : o ++ (runP r cs).out = (o ++ out) ++ (runP r' (cs.drop k)).out ∧ (runP r cs).st = (runP r' (cs.drop k)).st ∧ (runP r cs).rest = (runP r' (cs.drop k)).rest ∧ (runP r cs).err = (runP r' (cs.drop k)).err := by
  rw [run_go h]
  exact ⟨by simp, rfl, rfl, rfl⟩
/- more bytes behind change nothing of what was done -/
theorem line_mono {cs : List UInt8} (m : List UInt8) : (∀ e, lineP cs = .err e → lineP (cs ++ m) = .err e) ∧ (∀ s k, lineP cs = .ok s k → lineP (cs ++ m) = .ok s k) := by
  by_cases hf : nlAt cs < cs.length
  · have e1 := nlAt_app m hf
    have e2 : (cs ++ m).getD (nlAt cs - 1) 0 = cs.getD (nlAt cs - 1) 0 := by
      rw [List.getD_eq_getElem?_getD, List.getD_eq_getElem?_getD, List.getElem?_append_left (by omega)]
    have e3 : (cs ++ m).take (nlAt cs - 1) = cs.take (nlAt cs - 1) := by rw [List.take_append_of_le_length (by omega)]
    have key : nlAt cs < 1026 → lineP (cs ++ m) = lineP cs := fun h => by
      have c1 : nlAt cs < (cs ++ m).length ∧ nlAt cs < 1026 := ⟨by rw [List.length_append]; omega, h⟩
      have c2 : nlAt cs < cs.length ∧ nlAt cs < 1026 := ⟨hf, h⟩
      unfold lineP
      rw [e1, e2, e3, if_pos c1, if_pos c2]
    by_cases h : nlAt cs < 1026
    · rw [key h]; exact ⟨fun _ h => h, fun _ _ h => h⟩
    · have e4 : lineP cs = .err 12 := by unfold lineP; rw [if_neg (fun hh => h hh.2), if_neg (by omega)]
      have e5 : lineP (cs ++ m) = .err 12 := by unfold lineP; rw [e1, if_neg (fun hh => h hh.2), if_neg (by rw [List.length_append]; omega)]
      rw [e4, e5]; exact ⟨fun _ h => h, fun _ _ h => h⟩
  · have hn : nlAt cs = cs.length := by have := nlAt_le cs; omega
    have hg := nlAt_ge m hn
    by_cases h : cs.length < 1026
    · have e4 : lineP cs = .more := by unfold lineP; rw [if_neg (fun hh => hf hh.1), if_pos h]
      rw [e4]; exact ⟨fun _ h => (by cases h), fun _ _ h => (by cases h)⟩
    · have e4 : lineP cs = .err 12 := by unfold lineP; rw [if_neg (fun hh => hf hh.1), if_neg h]
      have e5 : lineP (cs ++ m) = .err 12 := by unfold lineP; rw [if_neg (fun hh => by omega), if_neg (by rw [List.length_append]; omega)]
      rw [e4, e5]; exact ⟨fun _ h => h, fun _ _ h => h⟩
theorem step_mono {r : RS} {cs : List UInt8} (m : List UInt8) (h : stepP r cs ≠ .stop) : stepP r (cs ++ m) = stepP r cs := by
  have lm := line_mono (cs := cs) m
  unfold stepP at h ⊢
  split
  · rename_i h0
    rw [if_pos h0] at h
    cases hl : lineP cs with
    | more => rw [hl] at h; exact absurd rfl h
    | err e => rw [lm.1 e hl]
    | ok s k => rw [lm.2 s k hl]
  · rename_i h0
    rw [if_neg h0] at h
    split
    · rename_i h1
      rw [if_pos h1] at h
      cases hl : lineP cs with
      | more => rw [hl] at h; exact absurd rfl h
      | err e => rw [lm.1 e hl]
      | ok s k => rw [lm.2 s k hl]
    · rename_i h1
      rw [if_neg h1] at h
      split at h
      · exact absurd rfl h
      · rename_i h2
        rw [if_neg (by rw [List.length_append]; omega), if_neg h2]
        have e1 : ((cs ++ m).drop r.size.toNat).take 2 = (cs.drop r.size.toNat).take 2 := by
          rw [List.drop_append_of_le_length (by omega), List.take_append_of_le_length (by rw [List.length_drop]; omega)]
        have e2 : (cs ++ m).take r.size.toNat = cs.take r.size.toNat := List.take_append_of_le_length (by omega)
        rw [e1, e2]
theorem run_more : ∀ (n : Nat) {r : RS} {cs : List UInt8} (m : List UInt8), cs.length < n → 
    ((runP r cs).err = 0 → (runP r (cs ++ m)).out = (runP r cs).out ++ (runP (runP r cs).st ((runP r cs).rest ++ m)).out ∧ (runP r (cs ++ m)).st = (runP (runP r cs).st ((runP r cs).rest ++ m)).st ∧ (runP r (cs ++ m)).rest = (runP (runP r cs).st ((runP r cs).rest ++ m)).rest ∧ (runP r (cs ++ m)).err = (runP (runP r cs).st ((runP r cs).rest ++ m)).err) ∧
    ((runP r cs).err ≠ 0 → (runP r (cs ++ m)).out = (runP r cs).out ∧ (runP r (cs ++ m)).err = (runP r cs).err)
  | 0, _, _, _, h => by omega
  | n + 1, r, cs, m, hn => by
    cases h : stepP r cs with
    | stop =>
      rw [run_stop h]
      exact ⟨fun _ => ⟨rfl, rfl, rfl, rfl⟩, fun h => absurd rfl h⟩
    | fault e =>
      have h2 : stepP r (cs ++ m) = .fault e := by rw [step_mono m (by rw [h]; exact nofun), h]
      rw [run_fault h, run_fault h2]
      exact ⟨fun h0 => by have := step_fault h; simp only at h0; omega, fun _ => ⟨rfl, rfl⟩⟩
    | go r' k out =>
      have hk := step_go h
      have h2 : stepP r (cs ++ m) = .go r' k out := by rw [step_mono m (by rw [h]; exact nofun), h]
      have ih := run_more n (r := r') (cs := cs.drop k) m (by rw [List.length_drop]; omega)
      rw [run_go h, run_go h2, List.drop_append_of_le_length hk.2]
      simp only
      refine ⟨fun h0 => ?_, fun h0 => ?_⟩
      · obtain ⟨i1, i2, i3, i4⟩ := ih.1 h0
        exact ⟨by rw [i1, List.append_assoc], i2, i3, i4⟩
      · obtain ⟨i1, i2⟩ := ih.2 h0
        exact ⟨by rw [i1], i2⟩
end Go.Proofs.YtikjnmpijflnaaaDoor

/- Requests: the document's answer over all bytes is what a reader comes to; in plain Lean. -/
namespace Go.Proofs.YtikjnmpijflnaaaDoor
open Go.V
attribute [local irreducible] Blk Own hcell IntT SliceT PlainT AggT SizeT StrT FieldT ZeroT EqT ArrT
inductive ListR where
  | more
  | err (e : Int)
  | ok (ws : List ByteArray) (k : Nat)
noncomputable def listP : Nat → List UInt8 → ListR
  | 0, _ => .ok [] 0
  | n + 1, cs => match lineP cs with
    | .more => .more
    | .err e => .err e
    | .ok s k => match numP s 36 0 4096 with
      | .error e => .err e
      | .ok z =>
        if cs.length < k + z.toNat + 2 then .more
        else if (cs.drop (k + z.toNat)).take 2 = [13, 10] then
          match listP n (cs.drop (k + z.toNat + 2)) with
          | .more => .more
          | .err e => .err e
          | .ok ws j => .ok (mkStr ((cs.drop k).take z.toNat) :: ws) (k + z.toNat + 2 + j)
        else .err 10
structure TR where
  out : List (List ByteArray)
  wait : Nat
  err : Int
noncomputable def toldN : Nat → List UInt8 → TR
  | 0, _ => ⟨[], 0, 0⟩
  | n + 1, cs => match lineP cs with
    | .more => ⟨[], cs.length, 0⟩
    | .err e => ⟨[], 0, e⟩
    | .ok s k =>
      if s.head? = some 42 then
        match numP s 42 1 128 with
        | .error e => ⟨[], 0, e⟩
        | .ok z => match listP z.toNat (cs.drop k) with
          | .more => ⟨[], cs.length, 0⟩
          | .err e => ⟨[], 0, e⟩
          | .ok ws j => { toldN n (cs.drop (k + j)) with out := ws :: (toldN n (cs.drop (k + j))).out }
      else if 128 < (cutG [] s).length then ⟨[], 0, 12⟩
      else { toldN n (cs.drop k) with out := (if cutG [] s = [] then [] else [(cutG [] s).map mkStr]) ++ (toldN n (cs.drop k)).out }
theorem listP_len : ∀ (n : Nat) (cs : List UInt8) (ws : List ByteArray) (k : Nat), listP n cs = .ok ws k → k ≤ cs.length ∧ ws.length = n
  | 0, cs, ws, k, h => by unfold listP at h; cases h; simp
  | n + 1, cs, ws, k, h => by
    unfold listP at h
    split at h
    · cases h
    · cases h
    rename_i s k' hl
    have h1 := line_len hl
    split at h
    · cases h
    rename_i z hz
    split at h
    · cases h
    rename_i h2
    split at h
    · split at h
      · cases h
      · cases h
      · rename_i ws' j hj
        have h3 := listP_len n _ _ _ hj
        rw [List.length_drop] at h3
        cases h
        simp only [List.length_cons]
        omega
    · cases h
theorem run_list : ∀ (n : Nat) (ws : List ByteArray) (h : Nat) (cs : List UInt8),
    (∀ us j, listP (n + 1) cs = .ok us j → runP ⟨n + 1, -1, ws, h⟩ cs = { runP rs0 (cs.drop j) with out := (ws ++ us) :: (runP rs0 (cs.drop j)).out }) ∧
    (listP (n + 1) cs = .more → (runP ⟨n + 1, -1, ws, h⟩ cs).out = [] ∧ (runP ⟨n + 1, -1, ws, h⟩ cs).err = 0 ∧ (runP ⟨n + 1, -1, ws, h⟩ cs).st.held + (runP ⟨n + 1, -1, ws, h⟩ cs).rest.length = h + cs.length) ∧
    (∀ e, listP (n + 1) cs = .err e → (runP ⟨n + 1, -1, ws, h⟩ cs).out = [] ∧ (runP ⟨n + 1, -1, ws, h⟩ cs).err = e) := by
  intro n
  induction n with
  | zero =>
    intro ws h cs
    have hs : stepP ⟨1, -1, ws, h⟩ cs = match lineP cs with
      | .more => .stop
      | .err e => .fault e
      | .ok s k => match numP s 36 0 4096 with
        | .error e => .fault e
        | .ok n => .go ⟨1, n, ws, h + k⟩ k [] := by
      unfold stepP
      simp only
      rw [if_neg (by decide), if_pos (by decide)]
      all_goals rfl
    unfold listP
    cases hl : lineP cs with
    | more =>
      rw [hl] at hs
      rw [run_stop hs]
      exact ⟨fun _ _ h => (by cases h), fun _ => ⟨rfl, rfl, rfl⟩, fun _ h => (by cases h)⟩
    | err e =>
      rw [hl] at hs
      rw [run_fault hs]
      exact ⟨fun _ _ h => (by cases h), fun h => (by cases h), fun e' h => (by cases h; exact ⟨rfl, rfl⟩)⟩
    | ok s k =>
      rw [hl] at hs
      have hk := line_len hl
      simp only at hs ⊢
      cases hz : numP s 36 0 4096 with
      | error e =>
        rw [hz] at hs
        rw [run_fault hs]
        exact ⟨fun _ _ h => (by cases h), fun h => (by cases h), fun e' h => (by cases h; exact ⟨rfl, rfl⟩)⟩
      | ok z =>
        rw [hz] at hs
        have hz2 := num_ok hz
        simp only at hs ⊢
        have hs2 : stepP ⟨1, z, ws, h + k⟩ (cs.drop k) = if (cs.drop k).length < z.toNat + 2 then .stop else if ((cs.drop k).drop z.toNat).take 2 = [13, 10] then .go rs0 (z.toNat + 2) [ws ++ [mkStr ((cs.drop k).take z.toNat)]] else .fault 10 := by
          unfold stepP
          simp only
          rw [if_neg (by decide), if_neg (by omega), if_pos trivial]
        rw [List.length_drop, List.drop_drop] at hs2
        rw [run_go hs]
        simp only [List.nil_append]
        by_cases h1 : cs.length < k + z.toNat + 2
        · rw [if_pos (by omega)] at hs2
          rw [if_pos h1, run_stop hs2]
          exact ⟨fun _ _ h => (by cases h), fun _ => ⟨rfl, rfl, by simp only [List.length_drop]; omega⟩, fun _ h => (by cases h)⟩
        · rw [if_neg (by omega)] at hs2
          rw [if_neg h1]
          by_cases h2 : (cs.drop (k + z.toNat)).take 2 = [13, 10]
          · rw [if_pos h2] at hs2
            rw [if_pos h2, run_go hs2, List.drop_drop]
            refine ⟨fun us j h => ?_, fun h => (by cases h), fun e' h => (by cases h)⟩
            simp only [listP] at h
            cases h
            rw [show k + (z.toNat + 2) = k + z.toNat + 2 + 0 by omega]
            rfl
          · rw [if_neg h2] at hs2
            rw [if_neg h2, run_fault hs2]
            exact ⟨fun _ _ h => (by cases h), fun h => (by cases h), fun e' h => (by cases h; exact ⟨rfl, rfl⟩)⟩
  | succ n ih =>
    intro ws h cs
    have hs : stepP ⟨n + 2, -1, ws, h⟩ cs = match lineP cs with
      | .more => .stop
      | .err e => .fault e
      | .ok s k => match numP s 36 0 4096 with
        | .error e => .fault e
        | .ok z => .go ⟨n + 2, z, ws, h + k⟩ k [] := by
      unfold stepP
      simp only
      rw [if_neg (by omega), if_pos (by decide)]
      all_goals rfl
    rw [show n + 1 + 1 = n + 2 from rfl]
    unfold listP
    cases hl : lineP cs with
    | more =>
      rw [hl] at hs
      rw [run_stop hs]
      exact ⟨fun _ _ h => (by cases h), fun _ => ⟨rfl, rfl, rfl⟩, fun _ h => (by cases h)⟩
    | err e =>
      rw [hl] at hs
      rw [run_fault hs]
      exact ⟨fun _ _ h => (by cases h), fun h => (by cases h), fun e' h => (by cases h; exact ⟨rfl, rfl⟩)⟩
    | ok s k =>
      rw [hl] at hs
      have hk := line_len hl
      simp only at hs ⊢
      cases hz : numP s 36 0 4096 with
      | error e =>
        rw [hz] at hs
        rw [run_fault hs]
        exact ⟨fun _ _ h => (by cases h), fun h => (by cases h), fun e' h => (by cases h; exact ⟨rfl, rfl⟩)⟩
      | ok z =>
        rw [hz] at hs
        have hz2 := num_ok hz
        simp only at hs ⊢
        have hs2 : stepP ⟨n + 2, z, ws, h + k⟩ (cs.drop k) = if (cs.drop k).length < z.toNat + 2 then .stop else if ((cs.drop k).drop z.toNat).take 2 = [13, 10] then .go ⟨n + 1, -1, ws ++ [mkStr ((cs.drop k).take z.toNat)], h + k + (z.toNat + 2)⟩ (z.toNat + 2) [] else .fault 10 := by
          unfold stepP
          simp only
          rw [if_neg (by omega), if_neg (by omega), if_neg (show ¬ n + 2 = 1 by omega)]
          rfl
        rw [List.length_drop, List.drop_drop] at hs2
        rw [run_go hs]
        simp only [List.nil_append]
        by_cases h1 : cs.length < k + z.toNat + 2
        · rw [if_pos (by omega)] at hs2
          rw [if_pos h1, run_stop hs2]
          exact ⟨fun _ _ h => (by cases h), fun _ => ⟨rfl, rfl, by simp only [List.length_drop]; omega⟩, fun _ h => (by cases h)⟩
        · rw [if_neg (by omega)] at hs2
          rw [if_neg h1]
          by_cases h2 : (cs.drop (k + z.toNat)).take 2 = [13, 10]
          · rw [if_pos h2] at hs2
            rw [if_pos h2, run_go hs2, List.drop_drop, show k + (z.toNat + 2) = k + z.toNat + 2 by omega]
            simp only [List.nil_append]
            obtain ⟨i1, i2, i3⟩ := ih (ws ++ [mkStr ((cs.drop k).take z.toNat)]) (h + k + (z.toNat + 2)) (cs.drop (k + z.toNat + 2))
            cases hp : listP (n + 1) (cs.drop (k + z.toNat + 2)) with
            | more =>
              obtain ⟨q1, q2, q3⟩ := i2 hp
              exact ⟨fun _ _ h => (by cases h), fun _ => ⟨q1, q2, by rw [q3, List.length_drop]; omega⟩, fun _ h => (by cases h)⟩
            | err e =>
              obtain ⟨q1, q2⟩ := i3 e hp
              exact ⟨fun _ _ h => (by cases h), fun h => (by cases h), fun e' h => (by cases h; exact ⟨q1, q2⟩)⟩
            | ok us j =>
              have q1 := i1 us j hp
              refine ⟨fun us' j' h => ?_, fun h => (by cases h), fun e' h => (by cases h)⟩
              cases h
              rw [q1, List.drop_drop]
              simp
          · rw [if_neg h2] at hs2
            rw [if_neg h2, run_fault hs2]
            exact ⟨fun _ _ h => (by cases h), fun h => (by cases h), fun e' h => (by cases h; exact ⟨rfl, rfl⟩)⟩
theorem told_run : ∀ (n : Nat) (cs : List UInt8), cs.length < n → toldN n cs = ⟨(runP rs0 cs).out, if (runP rs0 cs).err = 0 then (runP rs0 cs).st.held + (runP rs0 cs).rest.length else 0, (runP rs0 cs).err⟩
  | 0, cs, h => by omega
  | n + 1, cs, hn => by
    have hs : stepP rs0 cs = match lineP cs with
      | .more => .stop
      | .err e => .fault e
      | .ok s k => if s.head? = some 42 then
          match numP s 42 1 128 with
          | .error e => .fault e
          | .ok n => .go ⟨n.toNat, -1, [], k⟩ k []
        else if 128 < (cutG [] s).length then .fault 12
        else .go rs0 k (if cutG [] s = [] then [] else [(cutG [] s).map mkStr]) := by
      unfold stepP
      rw [if_pos (show rs0.left = 0 from rfl)]
      all_goals rfl
    unfold toldN
    cases hl : lineP cs with
    | more =>
      rw [hl] at hs
      rw [run_stop hs]
      simp [rs0]
    | err e =>
      rw [hl] at hs
      have := line_err hl
      rw [run_fault hs]
      simp only
      rw [if_neg (by omega)]
    | ok s k =>
      rw [hl] at hs
      have hk := line_len hl
      simp only at hs ⊢
      by_cases h42 : s.head? = some 42
      · rw [if_pos h42] at hs ⊢
        cases hz : numP s 42 1 128 with
        | error e =>
          rw [hz] at hs
          have := num_err hz
          rw [run_fault hs]
          simp only
          rw [if_neg (by omega)]
        | ok z =>
          rw [hz] at hs
          have hz2 := num_ok hz
          simp only at hs ⊢
          obtain ⟨m, hm⟩ : ∃ m, z.toNat = m + 1 := ⟨z.toNat - 1, by omega⟩
          obtain ⟨i1, i2, i3⟩ := run_list m [] k (cs.drop k)
          rw [hm] at hs ⊢
          rw [run_go hs]
          simp only [List.nil_append]
          cases hp : listP (m + 1) (cs.drop k) with
          | more =>
            obtain ⟨q1, q2, q3⟩ := i2 hp
            simp only
            rw [q1, q2, if_pos rfl, q3, List.length_drop]
            congr 1
            omega
          | err e =>
            obtain ⟨q1, q2⟩ := i3 e hp
            have he : e = 10 ∨ e = 12 := by
              have h3 : (runP ⟨m + 1, -1, [], k⟩ (cs.drop k)).err ≠ 0 → (runP ⟨m + 1, -1, [], k⟩ (cs.drop k)).err = 10 ∨ (runP ⟨m + 1, -1, [], k⟩ (cs.drop k)).err = 12 := run_err _ _ _ (Nat.lt_succ_self _)
              rw [q2] at h3
              by_cases h0 : e = 0
              · exact absurd (listP_err _ _ _ hp) (by omega)
              · exact h3 h0
            simp only
            rw [q1, q2, if_neg (by omega)]
          | ok us j =>
            have q1 := i1 us j hp
            have hj := listP_len _ _ _ _ hp
            rw [List.length_drop] at hj
            simp only
            rw [q1, List.drop_drop, told_run n (cs.drop (k + j)) (by rw [List.length_drop]; omega)]
            simp
      · rw [if_neg h42] at hs ⊢
        by_cases h128 : 128 < (cutG [] s).length
        · rw [if_pos h128] at hs ⊢
          rw [run_fault hs]
          simp
        · rw [if_neg h128] at hs ⊢
          rw [run_go hs, told_run n (cs.drop k) (by rw [List.length_drop]; omega)]
where
  run_err : ∀ (n : Nat) (r : RS) (cs : List UInt8), cs.length < n → (runP r cs).err ≠ 0 → (runP r cs).err = 10 ∨ (runP r cs).err = 12
    | 0, _, _, h => by omega
    | n + 1, r, cs, hn => by
      cases h : stepP r cs with
      | stop => rw [run_stop h]; exact fun h => absurd rfl h
      | fault e => rw [run_fault h]; exact fun _ => step_fault h
      | go r' k out =>
        have hk := step_go h
        rw [run_go h]
        exact run_err n r' (cs.drop k) (by rw [List.length_drop]; omega)
  listP_err : ∀ (n : Nat) (cs : List UInt8) (e : Int), listP n cs = .err e → e = 10 ∨ e = 12
    | 0, cs, e, h => by unfold listP at h; cases h
    | n + 1, cs, e, h => by
      unfold listP at h
      split at h
      · cases h
      · rename_i hl; cases h; exact line_err hl
      split at h
      · rename_i hz; cases h; exact num_err hz
      split at h
      · cases h
      split at h
      · split at h
        · cases h
        · rename_i hj; cases h; exact listP_err n _ _ hj
        · cases h
      · cases h; exact .inl rfl
end Go.Proofs.YtikjnmpijflnaaaDoor

/- append within the room, clear, rows that are shortened. -/
namespace Go.V
open Go.RowKit
section
variable {P : Program} {n : Nat} {ops : Array Oper} {dr : Nat × List Nat} {dq : Nat} {l : List Oper} {E : Env} {w : World} {K : Env → World → Prop}
variable {d : Option Nat} {ty : TypeId} {pos : String} {af : Array Edge} {g : Option (Nat × Bool)} {x y z : Operand} {k k' : IntKind} {i j : Int} {t t' u sz by_ : Nat} {v v' : Value} {p q : Option Addr} {c len m : Nat} {b : Bool}

theorem G1_quoJ {r : Int} (hx : E.look x = some (.int k i)) (hy : E.look y = some (.int k j)) (h0 : j ≠ 0) (hr : k.wrap (i.tdiv j) = r) (hd : dstOk n d = true)
    (h : G P n ops dr l (E.put d (.int k r)) w K) : G1 P n ops dr ⟨d, .binOp .quo t x y t', ty, pos, af, g⟩ l E w K := by
  subst hr; exact G1_quo hx hy h0 hd h
theorem G1_indexAddrJ {q : Nat} (hu : SliceT P t u sz by_) (hx : E.look x = some (.slice p len c)) (hy : E.look y = some (.int k j)) (hj : j = (q : Int)) (ho : Okp p len c) (h1 : q < len) (hd : dstOk n d = true)
    (h : G P n ops dr l (E.put d (.pointer (some (adr p (q * sz))))) w K) : G1 P n ops dr ⟨d, .indexAddr t x y, ty, pos, af, g⟩ l E w K := by
  subst hj; exact G1_indexAddrN hu hx hy ho h1 hd h
theorem G1_sliceBothJ {q r : Nat} (hu : SliceT P t u sz by_) (hx : E.look x = some (.slice p len c)) (hy : E.look y = some (.int k i)) (hz : E.look z = some (.int k' j)) (hi : i = (q : Int)) (hj : j = (r : Int)) (hq : q ≤ r) (hr : r ≤ c) (hd : dstOk n d = true)
    (h : G P n ops dr l (E.put d (.slice (subp p c q sz) (r - q) (c - q))) w K) : G1 P n ops dr ⟨d, .slice t x (some y) (some z) none, ty, pos, af, g⟩ l E w K := by
  subst hi hj; exact G1_sliceBoth hu hx hy hz hq hr hd h
theorem G1_slice3M {q r mm : Nat} {zz : Operand} {k2 : IntKind} {i2 : Int} (hu : SliceT P t u sz by_) (hx : E.look x = some (.slice p len c)) (hy : E.look y = some (.int k i)) (hz : E.look z = some (.int k' j)) (hm : E.look zz = some (.int k2 i2)) (e1 : i = q) (e2 : j = r) (e3 : i2 = mm) (h1 : q ≤ r) (h2 : r ≤ mm) (h3 : mm ≤ c) (hd : dstOk n d = true)
    (h : G P n ops dr l (E.put d (.slice (subp p mm q sz) (r - q) (mm - q))) w K) : G1 P n ops dr ⟨d, .slice t x (some y) (some z) (some zz), ty, pos, af, g⟩ l E w K :=
  G1_quiet _ hd (fun a ha w' _ => by
    subst e1 e2 e3
    have a1 : (0 : Int) ≤ mm ∧ (mm : Int) ≤ c := by omega
    have a2 : (0 : Int) ≤ q ∧ (q : Int) ≤ r := by omega
    have a3 : (0 : Int) ≤ r ∧ (r : Int) ≤ mm := by omega
    have hsz := run_sizeOf_T hu w'
    simp only [execOp, Sem.run_bind, Instr.sliceAt, run_underlying hu.1, Result.andThen_ok, Instr.slice, Instr.sliceBounds, Sem.run_pure]
    simp [ha.eval hx, ha.eval hy, ha.eval hz, ha.eval hm, Instr.sliceBound, asIntOf, a1, a2, a3, hsz, subp, h1, Instr.sliceAt, run_underlying hu.1, Instr.slice, Instr.sliceBounds]
    intro hh; omega) h
/-- append to a row that has the room: in place -/
theorem G1_appendRoom {gb xl yl c2 : Nat} {cur vs : List Value} {b' o' : Nat} (hu : SliceT P t u sz by_) (hx : E.look x = some (.slice p xl c)) (hy : E.look y = some (.slice q yl c2)) (hp : p = bx gb) (hq : q = some ⟨b', o', none⟩) (hb : Blk w.heap gb u cur) (hcl : cur.length = c * sz) (hn : vs.length = yl * sz)
    (hsrc : ∀ j v, vs[j]? = some v → hcell w.heap (adr q j) = some v) (h1 : ∀ v ∈ vs, v.oneCell' = true) (hroom : xl + yl ≤ c)
    (he : effects P dr.1 ⟨d, .call ⟨.builtin .append, #[x, y], #[t, t]⟩, ty, pos, af, g⟩ = true) (hw : writes dr.1 ⟨d, .call ⟨.builtin .append, #[x, y], #[t, t]⟩, ty, pos, af, g⟩ = true) (hd : dstOk n d = true)
    (h : ∀ w', Blk w'.heap gb u (cur.take (xl * sz) ++ vs ++ cur.drop (xl * sz + vs.length)) → w.grownBy w' (some gb) → w'.heap.size = w.heap.size → G P n ops dr l (E.put d (.slice (bx gb) (xl + yl) c)) w' K) : G1 P n ops dr ⟨d, .call ⟨.builtin .append, #[x, y], #[t, t]⟩, ty, pos, af, g⟩ l E w K := by
  subst hp hq
  obtain ⟨hu1, inf, zz, hi, hs1, hb1, hz, hz2⟩ := hu
  have hr := run_append_room (P := P) w t ty u inf hu1 hi gb xl c cur.toArray hb ⟨b', o', none⟩ yl c2 vs (by rw [hs1]; exact hn) (fun j v hv => by rw [addr_add]; exact hsrc j v hv) h1 hroom
    (by rw [hs1, hn, ← Nat.add_mul, List.size_toArray, hcl]; exact Nat.mul_le_mul_right _ hroom)
  rw [hs1] at hr
  exact G1_eff _ (w.setRow gb (cur.take (xl * sz) ++ vs ++ cur.drop (xl * sz + vs.length)).toArray) he hd (fun a ha => by simp [execOp, resolve, invoke, builtin, ha.eval hx, ha.eval hy, hr]) (.inl hw)
    (h _ (by unfold Blk; exact setRow_heap w gb _ _ u (0, 0) hb) (setRow_grown w gb _) (by simp))

theorem zeroCells_one {zv : Value} (h : ∀ v ∈ zv.cells.toList, v.oneCell' = true) (h0 : 0 < zv.cells.size) (m : Nat) : ∀ v ∈ (Builtin.zeroCells zv.cells m).toList, v.oneCell' = true := by
  intro v hv
  simp only [Builtin.zeroCells, Array.toList_map, List.mem_map] at hv
  obtain ⟨i, _, rfl⟩ := hv
  have hlt : i % zv.cells.size < zv.cells.size := Nat.mod_lt _ h0
  apply h
  rw [getElem!_pos zv.cells (i % zv.cells.size) hlt]
  exact Array.getElem_mem_toList _

/-- clear of a part of a row of one's own -/
theorem G1_clearB {gb o T m : Nat} {cur : List Value} {zv : Value} (hu : SliceT P t u sz by_) (hx : E.look x = some (.slice p m c)) (hp : 0 < m → p = some ⟨gb, o, none⟩) (hb : Blk w.heap gb T cur) (hfit : o + m * sz ≤ cur.length) (hzv : ZeroT P u zv) (hone : ∀ v ∈ zv.cells.toList, v.oneCell' = true) (hzs : zv.cells.size = sz) (hsz : 0 < sz)
    (he : effects P dr.1 ⟨d, .call ⟨.builtin .clear, #[x], #[t]⟩, ty, pos, af, g⟩ = true) (hw : writes dr.1 ⟨d, .call ⟨.builtin .clear, #[x], #[t]⟩, ty, pos, af, g⟩ = true) (hd : dstOk n d = true)
    (h : ∀ w' vs, vs.length = m * sz → Blk w'.heap gb T (cur.take o ++ vs ++ cur.drop (o + m * sz)) → w.grownBy w' (some gb) → w'.heap.size = w.heap.size → G P n ops dr l (E.put d (.tuple #[])) w' K) : G1 P n ops dr ⟨d, .call ⟨.builtin .clear, #[x], #[t]⟩, ty, pos, af, g⟩ l E w K := by
  obtain ⟨hu1, inf, zz, hi, hs1, hb1, hz, hz2⟩ := hu
  by_cases hm : m = 0
  · subst hm
    refine G1_eff (.tuple #[]) w he hd (fun a ha => ?_) (.inl hw) (h w [] (by simp) (by simpa using hb) ⟨rfl, rfl, rfl, Nat.le_refl _, fun _ _ _ => rfl⟩ rfl)
    cases p <;> simp [execOp, resolve, invoke, builtin, ha.eval hx, Builtin.clear_, run_underlying hu1]
  · obtain rfl := hp (by omega)
    have hvl : (Builtin.zeroCells zv.cells m).toList.length = m * sz := by rw [Array.length_toList, size_zeroCells, hzs]
    have hst := run_storeCells_at P gb o T (Builtin.zeroCells zv.cells m).toList 0 cur.toArray w hb (by rw [Nat.add_zero, hvl, List.size_toArray]; exact hfit) (zeroCells_one hone (by omega) m)
    simp only [Nat.add_zero] at hst
    obtain ⟨m', rfl⟩ : ∃ m', m = m' + 1 := ⟨m - 1, by omega⟩
    refine G1_eff (.tuple #[]) (w.setRow gb (cur.take o ++ (Builtin.zeroCells zv.cells (m' + 1)).toList ++ cur.drop (o + (m' + 1) * sz)).toArray) he hd (fun a ha => ?_) (.inl hw)
      (h _ _ hvl (by unfold Blk; exact setRow_heap w gb _ _ T (0, 0) hb) (setRow_grown w gb _) (by simp))
    rw [hvl] at hst
    simp [execOp, resolve, invoke, builtin, ha.eval hx, Builtin.clear_, run_underlying hu1, run_zero hzv, hst]
end
end Go.V
