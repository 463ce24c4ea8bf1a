/- The library's sort and the like, laid at this program by the kit's tool. -/
import Derived.Shelf.SlGeneric
import Derived.Shelf.SlSortCmp.WholeK
import Derived.Ground.SlsfProg
import Derived.Test.YtdnhagiokdnopaaProg
namespace Go.Proofs
open Go.Shelf
def Try.laySF_ren : Go.Shelf.Ren := ⟨fun | 6 => 24 | 15 => 34 | 14 => 33 | 28 => 47 | 29 => 48 | 20 => 39 | 21 => 40 | 22 => 41 | 23 => 42 | 24 => 43 | 25 => 44 | 26 => 45 | 27 => 46 | 46 => 51 | 47 => 52 | 48 => 53 | 49 => 54 | 50 => 55 | 57 => 56 | n => n, fun | 22 => 24 | 24 => 34 | 25 => 51 | 3 => 3 | 39 => 61 | 0 => 0 | 53 => 75 | 55 => 58 | 4 => 4 | 46 => 69 | 45 => 68 | 50 => 38 | 5 => 5 | 9 => 9 | 66 => 78 | 70 => 82 | 76 => 84 | 77 => 85 | n => n, fun | n => n⟩
theorem Try.laySF : Go.Proofs.SlLaysF0.n6 Try.prog Try.laySF_ren := {
  mixed := by kernel_rfl
  f6 := ⟨Try.f24.name, by decide, Try.func24.trans (congrArg some (by kernel_rfl))⟩
  f14 := ⟨Try.f33.name, by decide, Try.func33.trans (congrArg some (by kernel_rfl))⟩
  f15 := Try.func34.trans (congrArg some (by kernel_rfl))
  f20 := ⟨Try.f39.name, by decide, Try.func39.trans (congrArg some (by kernel_rfl))⟩
  f21 := ⟨Try.f40.name, by decide, Try.func40.trans (congrArg some (by kernel_rfl))⟩
  f22 := ⟨Try.f41.name, by decide, Try.func41.trans (congrArg some (by kernel_rfl))⟩
  f23 := ⟨Try.f42.name, by decide, Try.func42.trans (congrArg some (by kernel_rfl))⟩
  f24 := ⟨Try.f43.name, by decide, Try.func43.trans (congrArg some (by kernel_rfl))⟩
  f25 := ⟨Try.f44.name, by decide, Try.func44.trans (congrArg some (by kernel_rfl))⟩
  f26 := ⟨Try.f45.name, by decide, Try.func45.trans (congrArg some (by kernel_rfl))⟩
  f27 := ⟨Try.f46.name, by decide, Try.func46.trans (congrArg some (by kernel_rfl))⟩
  f28 := Try.func47.trans (congrArg some (by kernel_rfl))
  f29 := Try.func48.trans (congrArg some (by kernel_rfl))
  f46 := ⟨Try.f51.name, by decide, Try.func51.trans (congrArg some (by kernel_rfl))⟩
  f47 := Try.func52.trans (congrArg some (by kernel_rfl))
  f48 := Try.func53.trans (congrArg some (by kernel_rfl))
  f49 := ⟨Try.f54.name, by decide, Try.func54.trans (congrArg some (by kernel_rfl))⟩
  f50 := ⟨Try.f55.name, by decide, Try.func55.trans (congrArg some (by kernel_rfl))⟩
  f57 := ⟨Try.f56.name, by decide, Try.func56.trans (congrArg some (by kernel_rfl))⟩
  t0 := Try.underlying0
  a0 := Try.isAgg0
  z0 := Try.sizeOf0
  v0 := Try.zeroValue0
  t3 := Try.underlying3
  a3 := Try.isAgg3
  z3 := Try.sizeOf3
  v3 := Try.zeroValue3
  t4 := Try.underlying4
  a4 := Try.isAgg4
  z4 := Try.sizeOf4
  v4 := Try.zeroValue4
  t5 := Try.underlying5
  a5 := Try.isAgg5
  z5 := Try.sizeOf5
  v5 := Try.zeroValue5
  t9 := Try.underlying9
  a9 := Try.isAgg9
  z9 := Try.sizeOf9
  v9 := Try.zeroValue9
  t22 := Try.underlying24
  a22 := Try.isAgg24
  z22 := Try.sizeOf24
  v22 := Try.zeroValue24
  t25 := Try.underlying51
  a25 := Try.isAgg51
  z25 := Try.sizeOf51
  v25 := Try.zeroValue51
  t39 := Try.underlying61
  a39 := Try.isAgg61
  z39 := Try.sizeOf61
  v39 := Try.zeroValue61
  t45 := Try.underlying68
  a45 := Try.isAgg68
  z45 := Try.sizeOf68
  v45 := Try.zeroValue68
  t46 := Try.underlying69
  a46 := Try.isAgg69
  z46 := Try.sizeOf69
  v46 := Try.zeroValue69
  t50 := Try.underlying38
  a50 := Try.isAgg38
  z50 := Try.sizeOf38
  v50 := Try.zeroValue38
  t53 := Try.underlying75
  a53 := Try.isAgg75
  z53 := Try.sizeOf75
  v53 := Try.zeroValue75
  t55 := Try.underlying58
  a55 := Try.isAgg58
  z55 := Try.sizeOf58
  v55 := Try.zeroValue58
  t66 := Try.underlying78
  a66 := Try.isAgg78
  z66 := Try.sizeOf78
  v66 := Try.zeroValue78
  t70 := Try.underlying82
  a70 := Try.isAgg82
  z70 := Try.sizeOf82
  v70 := Try.zeroValue82
  t76 := Try.underlying84
  a76 := Try.isAgg84
  z76 := Try.sizeOf84
  v76 := Try.zeroValue84
  t77 := Try.underlying85
  a77 := Try.isAgg85
  z77 := Try.sizeOf85
  v77 := Try.zeroValue85 }
end Go.Proofs
