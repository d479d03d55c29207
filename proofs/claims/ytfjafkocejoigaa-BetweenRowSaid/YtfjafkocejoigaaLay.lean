/- The tables of numbers by which contracts of the kit are laid at functions of this seat. No condition. -/
import Derived.Test.YtfjafkocejoigaaProg
import Derived.KernelRfl
import Derived.Test.YtfjafkocejoigaaSort
namespace Go.Proofs
open Go.Shelf

def Try.laySFI_ren : Go.Shelf.Ren := ⟨fun | 6 => 68 | 15 => 71 | 14 => 70 | 28 => 82 | 29 => 83 | 20 => 74 | 21 => 75 | 22 => 76 | 23 => 77 | 24 => 78 | 25 => 79 | 26 => 80 | 27 => 81 | 46 => 85 | 47 => 86 | 48 => 87 | 49 => 88 | 50 => 89 | 57 => 90 | n => n, fun | 22 => 73 | 24 => 3 | 25 => 113 | 3 => 3 | 39 => 116 | 0 => 0 | 53 => 126 | 55 => 128 | 4 => 4 | 46 => 120 | 45 => 119 | 50 => 92 | 5 => 5 | 9 => 9 | 66 => 129 | 70 => 133 | 76 => 135 | 77 => 99 | n => n, fun n => n⟩

theorem Try.laySFI : SlLaysF.n6 Try.prog Try.laySFI_ren := {
  mixed := by kernel_rfl
  f6 := ⟨Try.f68.name, by decide, Try.func68.trans (congrArg some (by kernel_rfl))⟩
  f14 := ⟨Try.f70.name, by decide, Try.func70.trans (congrArg some (by kernel_rfl))⟩
  f15 := Try.func71.trans (congrArg some (by kernel_rfl))
  f20 := ⟨Try.f74.name, by decide, Try.func74.trans (congrArg some (by kernel_rfl))⟩
  f21 := ⟨Try.f75.name, by decide, Try.func75.trans (congrArg some (by kernel_rfl))⟩
  f22 := ⟨Try.f76.name, by decide, Try.func76.trans (congrArg some (by kernel_rfl))⟩
  f23 := ⟨Try.f77.name, by decide, Try.func77.trans (congrArg some (by kernel_rfl))⟩
  f24 := ⟨Try.f78.name, by decide, Try.func78.trans (congrArg some (by kernel_rfl))⟩
  f25 := ⟨Try.f79.name, by decide, Try.func79.trans (congrArg some (by kernel_rfl))⟩
  f26 := ⟨Try.f80.name, by decide, Try.func80.trans (congrArg some (by kernel_rfl))⟩
  f27 := ⟨Try.f81.name, by decide, Try.func81.trans (congrArg some (by kernel_rfl))⟩
  f28 := Try.func82.trans (congrArg some (by kernel_rfl))
  f29 := Try.func83.trans (congrArg some (by kernel_rfl))
  f46 := ⟨Try.f85.name, by decide, Try.func85.trans (congrArg some (by kernel_rfl))⟩
  f47 := Try.func86.trans (congrArg some (by kernel_rfl))
  f48 := Try.func87.trans (congrArg some (by kernel_rfl))
  f49 := ⟨Try.f88.name, by decide, Try.func88.trans (congrArg some (by kernel_rfl))⟩
  f50 := ⟨Try.f89.name, by decide, Try.func89.trans (congrArg some (by kernel_rfl))⟩
  f57 := ⟨Try.f90.name, by decide, Try.func90.trans (congrArg some (by kernel_rfl))⟩
  t0 := Try.underlying0
  a0 := Try.isAgg0
  z0 := Try.sizeOf0
  v0 := Try.zeroValue0
  t3 := Try.underlying3
  a3 := Try.isAgg3
  z3 := Try.sizeOf3
  v3 := Try.zeroValue3
  t4 := Try.underlying4
  a4 := Try.isAgg4
  z4 := Try.sizeOf4
  v4 := Try.zeroValue4
  t5 := Try.underlying5
  a5 := Try.isAgg5
  z5 := Try.sizeOf5
  v5 := Try.zeroValue5
  t9 := Try.underlying9
  a9 := Try.isAgg9
  z9 := Try.sizeOf9
  v9 := Try.zeroValue9
  t22 := Try.underlying73
  a22 := Try.isAgg73
  z22 := Try.sizeOf73
  v22 := Try.zeroValue73
  a24 := Try.isAgg3
  z24 := Try.sizeOf3
  t25 := Try.underlying113
  a25 := Try.isAgg113
  z25 := Try.sizeOf113
  v25 := Try.zeroValue113
  t39 := Try.underlying116
  a39 := Try.isAgg116
  z39 := Try.sizeOf116
  v39 := Try.zeroValue116
  t45 := Try.underlying119
  a45 := Try.isAgg119
  z45 := Try.sizeOf119
  v45 := Try.zeroValue119
  t46 := Try.underlying120
  a46 := Try.isAgg120
  z46 := Try.sizeOf120
  v46 := Try.zeroValue120
  t50 := Try.underlying92
  a50 := Try.isAgg92
  z50 := Try.sizeOf92
  v50 := Try.zeroValue92
  t53 := Try.underlying126
  a53 := Try.isAgg126
  z53 := Try.sizeOf126
  v53 := Try.zeroValue126
  t55 := Try.underlying128
  a55 := Try.isAgg128
  z55 := Try.sizeOf128
  v55 := Try.zeroValue128
  t66 := Try.underlying129
  a66 := Try.isAgg129
  z66 := Try.sizeOf129
  v66 := Try.zeroValue129
  t70 := Try.underlying133
  a70 := Try.isAgg133
  z70 := Try.sizeOf133
  v70 := Try.zeroValue133
  t76 := Try.underlying135
  a76 := Try.isAgg135
  z76 := Try.sizeOf135
  v76 := Try.zeroValue135
  t77 := Try.underlying99
  a77 := Try.isAgg99
  z77 := Try.sizeOf99
  v77 := Try.zeroValue99 }

end Go.Proofs
