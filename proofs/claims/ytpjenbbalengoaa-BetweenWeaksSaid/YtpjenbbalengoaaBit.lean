/- Operations on bits. No condition. -/
import Derived.Test.YtpjenbbalengoaaBC
namespace Go.Um
open Go Go.RowKit
section
variable {P : Program} {s : St} {o : Oper} {x y : Operand} {T T' : TypeId}
theorem ofInt_toNat {a : Nat} (h : a < 2 ^ 62) : (BitVec.ofInt 64 (a : Int)).toNat = a := by
  rw [BitVec.toNat_ofInt]
  simp only [Nat.reducePow] at h ⊢
  omega
theorem p_xorN {a b : Nat} (ho : o.op = .binOp .xor T x y T') (hx : Sees (ev s x) (.val (.int .i64 (a : Int)))) (hy : Sees (ev s y) (.val (.int .i64 (b : Int)))) (ha : a < 2 ^ 62) (hb : b < 2 ^ 62) : PStep P o (kx x ++ kx y) s (.val (.int .i64 ((a ^^^ b : Nat) : Int))) := by
  intro X t a' w β ν hk hr
  refine ⟨rfl, .int .i64 ((a ^^^ b : Nat) : Int), ?_, mk_int _ _ _⟩
  have h : IntKind.i64.wrap (((BitVec.ofInt 64 (a : Int)) ^^^ (BitVec.ofInt 64 (b : Int))).toNat : Int) = ((a ^^^ b : Nat) : Int) := by
    rw [BitVec.toNat_xor, ofInt_toNat ha, ofInt_toNat hb]
    have := Nat.xor_lt_two_pow ha hb
    simp only [Nat.reducePow] at this
    rw [IntWalk.i64_in _ (by omega)]
  simp [execOp, ho, hr.int (kl hk) hx, hr.int (kr hk) hy, eqGuard, binOp, Op.intBits]
  exact h
theorem p_or8 {a b : Bool} (ho : o.op = .binOp .or T x y T') (hx : Sees (ev s x) (.val (.int .u8 (if a then 1 else 0)))) (hy : Sees (ev s y) (.val (.int .u8 (if b then 1 else 0)))) : PStep P o (kx x ++ kx y) s (.val (.int .u8 (if (a || b) then 1 else 0))) := by
  intro X t a' w β ν hk hr
  refine ⟨rfl, .int .u8 (if (a || b) then 1 else 0), ?_, mk_int _ _ _⟩
  have h1 := hr.int (kl hk) hx
  have h2 := hr.int (kr hk) hy
  cases a <;> cases b <;> simp only [Bool.false_eq_true, if_false, if_true, Bool.or_false, Bool.or_true, Bool.false_or, Bool.true_or] at h1 h2 ⊢ <;> simp [execOp, ho, h1, h2, eqGuard, binOp, Op.intBits] <;> decide
end
end Go.Um
