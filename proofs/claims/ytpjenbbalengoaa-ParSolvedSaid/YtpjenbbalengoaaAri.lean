/- Arithmetic: quotients, shifts, bits, conversions, max and min. No condition. -/
import Derived.Test.YtpjenbbalengoaaFun
namespace Go.Um
open Go Go.RowKit

def IsInt (P : Program) (T : TypeId) (k : IntKind) : Prop := P.underlying T = some (.int k)

section
variable {P : Program} {s : St} {o : Oper} {x y : Operand} {T T' : TypeId} {k k' : IntKind} {m n : Int}

theorem p_quo (ho : o.op = .binOp .quo T x y T') (hx : Sees (ev s x) (.val (.int .i64 m))) (hy : Sees (ev s y) (.val (.int .i64 n))) (h : 0 ≤ m ∧ m ≤ 9223372036854775807) (h' : 1 ≤ n) :
    PStep P o (kx x ++ kx y) s (.val (.int .i64 (m / n))) := by
  have := p_quoW (P := P) ho hx hy (by omega)
  rwa [IntWalk.i64_quo _ _ (by omega)] at this

theorem p_remN (ho : o.op = .binOp .rem T x y T') (hx : Sees (ev s x) (.val (.int k m))) (hy : Sees (ev s y) (.val (.int k n))) (h : 0 ≤ m) (h' : 1 ≤ n) :
    PStep P o (kx x ++ kx y) s (.val (.int k (m % n))) := by
  have := p_rem (P := P) ho hx hy (by omega)
  rwa [Int.tmod_eq_emod_of_nonneg h] at this

theorem p_shl (ho : o.op = .binOp .shl T x y T') (hx : Sees (ev s x) (.val (.int .i64 m))) (hy : Sees (ev s y) (.val (.int k' n))) (h0 : 0 ≤ n) (h1 : n ≤ 63) (h : -9223372036854775808 ≤ m * 2 ^ n.toNat ∧ m * 2 ^ n.toNat ≤ 9223372036854775807) :
    PStep P o (kx x ++ kx y) s (.val (.int .i64 (m * 2 ^ n.toNat))) := by
  intro X t a w β ν hk hr
  refine ⟨rfl, .int .i64 (m * 2 ^ n.toNat), ?_, mk_int _ _ _⟩
  have e : min n.toNat IntKind.i64.bits = n.toNat := by simp only [IntKind.bits]; omega
  have h9 : ¬ n < 0 := by omega
  simp [execOp, ho, hr.int (kl hk) hx, hr.int (kr hk) hy, eqGuard, binOp, Op.shift, h9, e, IntWalk.i64_in _ h]

theorem p_shr (ho : o.op = .binOp .shr T x y T') (hx : Sees (ev s x) (.val (.int .i64 m))) (hy : Sees (ev s y) (.val (.int k' n))) (h0 : 0 ≤ n) (h1 : n ≤ 64) :
    PStep P o (kx x ++ kx y) s (.val (.int .i64 (m / 2 ^ n.toNat))) := by
  intro X t a w β ν hk hr
  refine ⟨rfl, .int .i64 (m / 2 ^ n.toNat), ?_, mk_int _ _ _⟩
  have e : min n.toNat IntKind.i64.bits = n.toNat := by simp only [IntKind.bits]; omega
  have h9 : ¬ n < 0 := by omega
  have e2 : m.fdiv (2 ^ n.toNat) = m / 2 ^ n.toNat := Int.fdiv_eq_ediv_of_nonneg m (Int.pow_nonneg (by decide))
  simp [execOp, ho, hr.int (kl hk) hx, hr.int (kr hk) hy, eqGuard, binOp, Op.shift, h9, e, e2]

theorem bits_and_one (m : Int) : IntKind.i64.wrap (((BitVec.ofInt 64 m) &&& (BitVec.ofInt 64 1)).toNat : Int) = m % 2 := by
  rw [BitVec.toNat_and]
  have e1 : (BitVec.ofInt 64 1).toNat = 2 ^ 1 - 1 := rfl
  rw [e1, Nat.and_two_pow_sub_one_eq_mod, BitVec.toNat_ofInt]
  have h1 := Int.emod_nonneg m (b := 18446744073709551616) (by decide)
  have h2 : ((m % ((2 ^ 64 : Nat) : Int)).toNat % 2 ^ 1 : Nat) = ((m % 2 : Int)).toNat := by
    simp only [Nat.reducePow, Int.cast_ofNat_Int]
    omega
  rw [h2]
  have h3 := Int.emod_nonneg m (b := 2) (by decide)
  have h4 := Int.emod_lt_of_pos m (b := 2) (by decide)
  rw [IntWalk.i64_in _ (by omega)]
  omega

theorem p_and1 (ho : o.op = .binOp .and T x y T') (hx : Sees (ev s x) (.val (.int .i64 m))) (hy : Sees (ev s y) (.val (.int .i64 1))) : PStep P o (kx x ++ kx y) s (.val (.int .i64 (m % 2))) := by
  intro X t a w β ν hk hr
  refine ⟨rfl, .int .i64 (m % 2), ?_, mk_int _ _ _⟩
  have h := bits_and_one m
  simp [execOp, ho, hr.int (kl hk) hx, hr.int (kr hk) hy, eqGuard, binOp, Op.intBits]
  exact h

theorem p_conv (ho : o.op = .convert T T' x) (hS : IsInt P T k) (hT : IsInt P T' k') (hx : Sees (ev s x) (.val (.int k m))) : PStep P o (kx x) s (.val (.int k' (k'.wrap m))) := by
  intro X t a w β ν hk hr
  unfold IsInt at hS hT
  refine ⟨rfl, _, by simp [execOp, ho, hr.int hk hx, convert, run_underlying' hS, run_underlying' hT, Conv.intToInt], mk_int _ _ _⟩

theorem p_conv64 (ho : o.op = .convert T T' x) (hS : IsInt P T k) (hT : IsInt P T' .i64) (hx : Sees (ev s x) (.val (.int k m))) (h : -9223372036854775808 ≤ m ∧ m ≤ 9223372036854775807) : PStep P o (kx x) s (.val (.int .i64 m)) := by
  have := p_conv (P := P) ho hS hT hx
  rwa [IntWalk.i64_in _ h] at this

theorem p_convU (ho : o.op = .convert T T' x) (hS : IsInt P T k) (hT : IsInt P T' .u64) (hx : Sees (ev s x) (.val (.int k m))) (h : 0 ≤ m ∧ m ≤ 18446744073709551615) : PStep P o (kx x) s (.val (.int .u64 m)) := by
  have := p_conv (P := P) ho hS hT hx
  rwa [IntWalk.u64_in _ h] at this

theorem p_max {A : Array TypeId} (ho : o.op = .call { callee := .builtin .max, args := #[x, y], argTypes := A }) (hx : Sees (ev s x) (.val (.int k m))) (hy : Sees (ev s y) (.val (.int k n))) : PStep P o (kx x ++ kx y) s (.val (.int k (max m n))) := by
  intro X t a w β ν hk hr
  refine ⟨rfl, .int k (max m n), ?_, mk_int _ _ _⟩
  have e : (if n > m then n else m) = max m n := by simp only [Int.max_def]; split <;> split <;> omega
  simp [execOp, ho, resolve, invoke, builtin, Builtin.max_, Builtin.max2, hr.int (kl hk) hx, hr.int (kr hk) hy]
  exact e

theorem p_min {A : Array TypeId} (ho : o.op = .call { callee := .builtin .min, args := #[x, y], argTypes := A }) (hx : Sees (ev s x) (.val (.int k m))) (hy : Sees (ev s y) (.val (.int k n))) : PStep P o (kx x ++ kx y) s (.val (.int k (min m n))) := by
  intro X t a w β ν hk hr
  refine ⟨rfl, .int k (min m n), ?_, mk_int _ _ _⟩
  have e : (if n < m then n else m) = min m n := by simp only [Int.min_def]; split <;> split <;> omega
  simp [execOp, ho, resolve, invoke, builtin, Builtin.min_, Builtin.min2, hr.int (kl hk) hx, hr.int (kr hk) hy]
  exact e
end
end Go.Um
