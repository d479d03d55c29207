/- The tables of numbers by which contracts of the kit are laid at functions of this seat. No condition. -/
import Derived.Test.YtofonmfoificjaaProg
import Derived.KernelRfl
import Derived.Test.YtofonmfoificjaaSort
namespace Go.Proofs
open Go.Shelf

def Try.laySFP_ren : Go.Shelf.Ren := ⟨fun | 6 => 114 | 15 => 136 | 14 => 139 | 28 => 169 | 29 => 170 | 20 => 179 | 21 => 180 | 22 => 181 | 23 => 182 | 24 => 183 | 25 => 184 | 26 => 185 | 27 => 186 | 46 => 213 | 47 => 206 | 48 => 207 | 49 => 214 | 50 => 215 | 57 => 223 | n => n, fun | 22 => 58 | 24 => 54 | 25 => 124 | 3 => 3 | 39 => 42 | 0 => 0 | 53 => 176 | 55 => 139 | 4 => 4 | 46 => 169 | 45 => 168 | 50 => 173 | 5 => 5 | 9 => 9 | 66 => 202 | 70 => 206 | 76 => 215 | 77 => 88 | n => n, fun n => n⟩

theorem Try.laySFP : SlLaysF0.n6 Try.prog Try.laySFP_ren := {
  mixed := by kernel_rfl
  f6 := ⟨Try.f114.name, by decide, Try.func114.trans (congrArg some (by kernel_rfl))⟩
  f14 := ⟨Try.f139.name, by decide, Try.func139.trans (congrArg some (by kernel_rfl))⟩
  f15 := Try.func136.trans (congrArg some (by kernel_rfl))
  f20 := ⟨Try.f179.name, by decide, Try.func179.trans (congrArg some (by kernel_rfl))⟩
  f21 := ⟨Try.f180.name, by decide, Try.func180.trans (congrArg some (by kernel_rfl))⟩
  f22 := ⟨Try.f181.name, by decide, Try.func181.trans (congrArg some (by kernel_rfl))⟩
  f23 := ⟨Try.f182.name, by decide, Try.func182.trans (congrArg some (by kernel_rfl))⟩
  f24 := ⟨Try.f183.name, by decide, Try.func183.trans (congrArg some (by kernel_rfl))⟩
  f25 := ⟨Try.f184.name, by decide, Try.func184.trans (congrArg some (by kernel_rfl))⟩
  f26 := ⟨Try.f185.name, by decide, Try.func185.trans (congrArg some (by kernel_rfl))⟩
  f27 := ⟨Try.f186.name, by decide, Try.func186.trans (congrArg some (by kernel_rfl))⟩
  f28 := Try.func169.trans (congrArg some (by kernel_rfl))
  f29 := Try.func170.trans (congrArg some (by kernel_rfl))
  f46 := ⟨Try.f213.name, by decide, Try.func213.trans (congrArg some (by kernel_rfl))⟩
  f47 := Try.func206.trans (congrArg some (by kernel_rfl))
  f48 := Try.func207.trans (congrArg some (by kernel_rfl))
  f49 := ⟨Try.f214.name, by decide, Try.func214.trans (congrArg some (by kernel_rfl))⟩
  f50 := ⟨Try.f215.name, by decide, Try.func215.trans (congrArg some (by kernel_rfl))⟩
  f57 := ⟨Try.f223.name, by decide, Try.func223.trans (congrArg some (by kernel_rfl))⟩
  t0 := Try.underlying0
  a0 := Try.isAgg0
  z0 := Try.sizeOf0
  v0 := Try.zeroValue0
  t3 := Try.underlying3
  a3 := Try.isAgg3
  z3 := Try.sizeOf3
  v3 := Try.zeroValue3
  t4 := Try.underlying4
  a4 := Try.isAgg4
  z4 := Try.sizeOf4
  v4 := Try.zeroValue4
  t5 := Try.underlying5
  a5 := Try.isAgg5
  z5 := Try.sizeOf5
  v5 := Try.zeroValue5
  t9 := Try.underlying9
  a9 := Try.isAgg9
  z9 := Try.sizeOf9
  v9 := Try.zeroValue9
  t22 := Try.underlying58
  a22 := Try.isAgg58
  z22 := Try.sizeOf58
  v22 := Try.zeroValue58
  t25 := Try.underlying124
  a25 := Try.isAgg124
  z25 := Try.sizeOf124
  v25 := Try.zeroValue124
  t39 := Try.underlying42
  a39 := Try.isAgg42
  z39 := Try.sizeOf42
  v39 := Try.zeroValue42
  t45 := Try.underlying168
  a45 := Try.isAgg168
  z45 := Try.sizeOf168
  v45 := Try.zeroValue168
  t46 := Try.underlying169
  a46 := Try.isAgg169
  z46 := Try.sizeOf169
  v46 := Try.zeroValue169
  t50 := Try.underlying173
  a50 := Try.isAgg173
  z50 := Try.sizeOf173
  v50 := Try.zeroValue173
  t53 := Try.underlying176
  a53 := Try.isAgg176
  z53 := Try.sizeOf176
  v53 := Try.zeroValue176
  t55 := Try.underlying139
  a55 := Try.isAgg139
  z55 := Try.sizeOf139
  v55 := Try.zeroValue139
  t66 := Try.underlying202
  a66 := Try.isAgg202
  z66 := Try.sizeOf202
  v66 := Try.zeroValue202
  t70 := Try.underlying206
  a70 := Try.isAgg206
  z70 := Try.sizeOf206
  v70 := Try.zeroValue206
  t76 := Try.underlying215
  a76 := Try.isAgg215
  z76 := Try.sizeOf215
  v76 := Try.zeroValue215
  t77 := Try.underlying88
  a77 := Try.isAgg88
  z77 := Try.sizeOf88
  v77 := Try.zeroValue88 }

end Go.Proofs
