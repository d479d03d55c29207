/- The tables of numbers by which contracts of the kit are laid at functions of this seat. No condition. -/
import Derived.Test.YtpjenbbalengoaaProg
import Derived.KernelRfl
import Derived.Test.YtpjenbbalengoaaSort
namespace Go.Proofs
open Go.Shelf

def Try.laySFP_ren : Go.Shelf.Ren := ⟨fun | 6 => 53 | 15 => 99 | 14 => 98 | 28 => 148 | 29 => 149 | 20 => 140 | 21 => 141 | 22 => 142 | 23 => 143 | 24 => 144 | 25 => 145 | 26 => 146 | 27 => 147 | 46 => 174 | 47 => 175 | 48 => 176 | 49 => 177 | 50 => 178 | 57 => 189 | n => n, fun | 22 => 22 | 24 => 35 | 25 => 90 | 3 => 3 | 39 => 30 | 0 => 0 | 53 => 195 | 55 => 197 | 4 => 4 | 46 => 188 | 45 => 187 | 50 => 192 | 5 => 5 | 9 => 9 | 66 => 216 | 70 => 220 | 76 => 230 | 77 => 149 | n => n, fun n => n⟩

theorem Try.laySFP : SlLaysF0.n6 Try.prog Try.laySFP_ren := {
  mixed := by kernel_rfl
  f6 := ⟨Try.f53.name, by decide, Try.func53.trans (congrArg some (by kernel_rfl))⟩
  f14 := ⟨Try.f98.name, by decide, Try.func98.trans (congrArg some (by kernel_rfl))⟩
  f15 := Try.func99.trans (congrArg some (by kernel_rfl))
  f20 := ⟨Try.f140.name, by decide, Try.func140.trans (congrArg some (by kernel_rfl))⟩
  f21 := ⟨Try.f141.name, by decide, Try.func141.trans (congrArg some (by kernel_rfl))⟩
  f22 := ⟨Try.f142.name, by decide, Try.func142.trans (congrArg some (by kernel_rfl))⟩
  f23 := ⟨Try.f143.name, by decide, Try.func143.trans (congrArg some (by kernel_rfl))⟩
  f24 := ⟨Try.f144.name, by decide, Try.func144.trans (congrArg some (by kernel_rfl))⟩
  f25 := ⟨Try.f145.name, by decide, Try.func145.trans (congrArg some (by kernel_rfl))⟩
  f26 := ⟨Try.f146.name, by decide, Try.func146.trans (congrArg some (by kernel_rfl))⟩
  f27 := ⟨Try.f147.name, by decide, Try.func147.trans (congrArg some (by kernel_rfl))⟩
  f28 := Try.func148.trans (congrArg some (by kernel_rfl))
  f29 := Try.func149.trans (congrArg some (by kernel_rfl))
  f46 := ⟨Try.f174.name, by decide, Try.func174.trans (congrArg some (by kernel_rfl))⟩
  f47 := Try.func175.trans (congrArg some (by kernel_rfl))
  f48 := Try.func176.trans (congrArg some (by kernel_rfl))
  f49 := ⟨Try.f177.name, by decide, Try.func177.trans (congrArg some (by kernel_rfl))⟩
  f50 := ⟨Try.f178.name, by decide, Try.func178.trans (congrArg some (by kernel_rfl))⟩
  f57 := ⟨Try.f189.name, by decide, Try.func189.trans (congrArg some (by kernel_rfl))⟩
  t0 := Try.underlying0
  a0 := Try.isAgg0
  z0 := Try.sizeOf0
  v0 := Try.zeroValue0
  t3 := Try.underlying3
  a3 := Try.isAgg3
  z3 := Try.sizeOf3
  v3 := Try.zeroValue3
  t4 := Try.underlying4
  a4 := Try.isAgg4
  z4 := Try.sizeOf4
  v4 := Try.zeroValue4
  t5 := Try.underlying5
  a5 := Try.isAgg5
  z5 := Try.sizeOf5
  v5 := Try.zeroValue5
  t9 := Try.underlying9
  a9 := Try.isAgg9
  z9 := Try.sizeOf9
  v9 := Try.zeroValue9
  t22 := Try.underlying22
  a22 := Try.isAgg22
  z22 := Try.sizeOf22
  v22 := Try.zeroValue22
  t25 := Try.underlying90
  a25 := Try.isAgg90
  z25 := Try.sizeOf90
  v25 := Try.zeroValue90
  t39 := Try.underlying30
  a39 := Try.isAgg30
  z39 := Try.sizeOf30
  v39 := Try.zeroValue30
  t45 := Try.underlying187
  a45 := Try.isAgg187
  z45 := Try.sizeOf187
  v45 := Try.zeroValue187
  t46 := Try.underlying188
  a46 := Try.isAgg188
  z46 := Try.sizeOf188
  v46 := Try.zeroValue188
  t50 := Try.underlying192
  a50 := Try.isAgg192
  z50 := Try.sizeOf192
  v50 := Try.zeroValue192
  t53 := Try.underlying195
  a53 := Try.isAgg195
  z53 := Try.sizeOf195
  v53 := Try.zeroValue195
  t55 := Try.underlying197
  a55 := Try.isAgg197
  z55 := Try.sizeOf197
  v55 := Try.zeroValue197
  t66 := Try.underlying216
  a66 := Try.isAgg216
  z66 := Try.sizeOf216
  v66 := Try.zeroValue216
  t70 := Try.underlying220
  a70 := Try.isAgg220
  z70 := Try.sizeOf220
  v70 := Try.zeroValue220
  t76 := Try.underlying230
  a76 := Try.isAgg230
  z76 := Try.sizeOf230
  v76 := Try.zeroValue230
  t77 := Try.underlying149
  a77 := Try.isAgg149
  z77 := Try.sizeOf149
  v77 := Try.zeroValue149 }

end Go.Proofs
