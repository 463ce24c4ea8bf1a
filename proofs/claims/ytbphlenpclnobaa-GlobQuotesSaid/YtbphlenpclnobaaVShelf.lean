/- The library's sort and the like, laid at this program by the kit's tool. -/
import Derived.Shelf.SlGeneric
import Derived.Shelf.Strings.IndexAnyAll
import Derived.Ground.NamesProg
import Derived.Test.YtbphlenpclnobaaProg
namespace Go.Proofs
open Go.Shelf
def Try.layIA_ren : Go.Shelf.Ren := ⟨fun | 153 => 50 | 152 => 65 | 226 => 66 | 227 => 67 | 228 => 68 | 137 => 27 | 119 => 71 | 224 => 72 | 225 => 73 | 217 => 38 | 266 => 55 | n => n, fun | 9 => 9 | 3 => 3 | 4 => 4 | 5 => 5 | 21 => 21 | 117 => 115 | 116 => 114 | 0 => 0 | 46 => 98 | 124 => 119 | n => n, fun | n => n⟩
theorem Try.layIA : Go.Proofs.Lays.n153 Try.prog Try.layIA_ren := {
  mixed := by kernel_rfl
  f119 := Try.func71.trans (congrArg some (by kernel_rfl))
  f137 := Try.func27.trans (congrArg some (by kernel_rfl))
  f152 := Try.func65.trans (congrArg some (by kernel_rfl))
  f153 := Try.func50.trans (congrArg some (by kernel_rfl))
  f217 := Try.func38.trans (congrArg some (by kernel_rfl))
  f224 := Try.func72.trans (congrArg some (by kernel_rfl))
  f225 := Try.func73.trans (congrArg some (by kernel_rfl))
  f226 := Try.func66.trans (congrArg some (by kernel_rfl))
  f227 := Try.func67.trans (congrArg some (by kernel_rfl))
  f228 := Try.func68.trans (congrArg some (by kernel_rfl))
  f266 := Try.func55.trans (congrArg some (by kernel_rfl))
  t0 := Try.underlying0
  a0 := Try.isAgg0
  z0 := Try.sizeOf0
  v0 := Try.zeroValue0
  t3 := Try.underlying3
  a3 := Try.isAgg3
  z3 := Try.sizeOf3
  v3 := Try.zeroValue3
  t4 := Try.underlying4
  a4 := Try.isAgg4
  z4 := Try.sizeOf4
  v4 := Try.zeroValue4
  t5 := Try.underlying5
  a5 := Try.isAgg5
  z5 := Try.sizeOf5
  v5 := Try.zeroValue5
  t9 := Try.underlying9
  a9 := Try.isAgg9
  z9 := Try.sizeOf9
  v9 := Try.zeroValue9
  t21 := Try.underlying21
  a21 := Try.isAgg21
  z21 := Try.sizeOf21
  v21 := Try.zeroValue21
  t46 := Try.underlying98
  a46 := Try.isAgg98
  z46 := Try.sizeOf98
  v46 := Try.zeroValue98
  t116 := Try.underlying114
  a116 := Try.isAgg114
  z116 := Try.sizeOf114
  t117 := Try.underlying115
  a117 := Try.isAgg115
  z117 := Try.sizeOf115
  v117 := Try.zeroValue115
  t124 := Try.underlying119
  a124 := Try.isAgg119
  z124 := Try.sizeOf119
  v124 := Try.zeroValue119 }
end Go.Proofs
