/- The tables of numbers by which contracts of the kit are laid at functions of this seat. No condition. -/
import Derived.Test.YtfjafkocejoigaaGreatProg
import Derived.KernelRfl
import Derived.Test.YtfjafkocejoigaaGreatDel
namespace Go.Proofs
open Go.Shelf

def Tryz.layDelII_ren : Go.Shelf.Ren := ⟨fun | 45 => 55 | n => n, fun | 22 => 23 | 23 => 22 | 3 => 3 | 4 => 4 | 0 => 0 | n => n, fun n => n⟩

theorem Tryz.layDelII : SlLaysE.n45 Tryz.prog Tryz.layDelII_ren := {
  mixed := by kernel_rfl
  f45 := ⟨Tryz.f55.name, by decide, Tryz.func55.trans (congrArg some (by kernel_rfl))⟩
  t0 := Tryz.underlying0
  a0 := Tryz.isAgg0
  z0 := Tryz.sizeOf0
  v0 := Tryz.zeroValue0
  t3 := Tryz.underlying3
  a3 := Tryz.isAgg3
  z3 := Tryz.sizeOf3
  v3 := Tryz.zeroValue3
  t4 := Tryz.underlying4
  a4 := Tryz.isAgg4
  z4 := Tryz.sizeOf4
  v4 := Tryz.zeroValue4
  t22 := Tryz.underlying23
  a22 := Tryz.isAgg23
  z22 := Tryz.sizeOf23
  v22 := Tryz.zeroValue23
  a23 := Tryz.isAgg22
  z23 := Tryz.sizeOf22 }

end Go.Proofs
